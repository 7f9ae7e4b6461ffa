/-
  What threads do: the program's Threads (f24).
-/
import Derived.Test.YtdmhlhoimaeacaaDoorS7
import Derived.Test.YtdmhlhoimaeacaaDoorS5
namespace Go.Proofs.YtdmhlhoimaeacaaDoor
open Go.RowKit
set_option linter.unusedVariables false

def vcells (n : Nat) (V : Nat → Value) : List Value := flatN n fun i => [V i]
theorem vcells_succ (n : Nat) (V : Nat → Value) : vcells (n + 1) V = vcells n V ++ [V n] := flatN_succ n _
theorem vcells_length (n : Nat) (V : Nat → Value) : (vcells n V).length = n := by
  have := flatN_length (f := fun i => [V i]) (k := 1) (fun _ => rfl) n
  simpa [vcells] using this
theorem vcells_get (n : Nat) (V : Nat → Value) (i : Nat) (hi : i < n) : (vcells n V)[i]? = some (V i) := by
  have := flatN_get (f := fun i => [V i]) (k := 1) (fun _ => rfl) n i 0 hi (by omega)
  simpa [vcells] using this
theorem vcells_congr {n : Nat} {V V' : Nat → Value} (h : ∀ i, i < n → V i = V' i) : vcells n V = vcells n V' := flatN_congr n fun i hi => by rw [h i hi]
theorem info56 : (Tryd.prog.info? 56).map (fun i => (i.zero, i.size, i.bytes)) = some (some (.slice none 0 0), 1, 24) := by kernel_rfl
theorem under53 : Tryd.prog.underlying 53 = some (.slice 56) := by kernel_rfl
/-- A row that is read, as append takes it. -/
theorem RowAt.src {w : World} {v : Value} {n k : Nat} {xs : List Value} (h : RowAt w v n xs) (hl : xs.length = n * k) (h1 : ∀ u ∈ xs, u.oneCell' = true) (hnil : ∀ c, v = .slice none n c → n = 0 ∧ c = 0) : SrcOf w k v n xs := by
  obtain ⟨p, c, rfl, hc, hr⟩ := h
  refine ⟨hl, h1, ?_⟩
  cases p with
  | none =>
    obtain ⟨rfl, rfl⟩ := hnil c rfl
    exact .inl ⟨rfl, rfl⟩
  | some ad =>
    right
    rcases hr with rfl | ⟨g, o, e, hr⟩
    · exact ⟨ad, c, rfl, fun j u hu => by simp at hu⟩
    · injection e with e
      subst e
      refine ⟨⟨g, o, none⟩, c, rfl, fun j u hu => ?_⟩
      rw [addr_add]
      have hj : j < xs.length := (List.getElem?_eq_some_iff.1 hu).1
      exact (hr j hj).trans hu
theorem ocells_one (L : List Opn) : ∀ u ∈ ocells L, u.oneCell' = true := by
  intro u hu
  simp only [ocells, flatN, List.mem_flatMap, List.mem_range] at hu
  obtain ⟨i, _, hu⟩ := hu
  exact ocell_one _ u hu
theorem tcells_one (L : List Top) : ∀ u ∈ tcells L, u.oneCell' = true := by
  intro u hu
  simp only [tcells, flatN, List.mem_flatMap, List.mem_range] at hu
  obtain ⟨i, _, hu⟩ := hu
  exact tcell_one _ u hu
/-- Copies of what the threads do. -/
structure Copies (w : World) (B : Nat) (v : Value) (V : Nat → Value) (n : Nat) (L : List Thr) : Prop where
  row : w.ownsRow B 56 1 v n (vcells n V)
  each : ∀ i, i < n → w.ownsRow B 65 4 (V i) (L.getD i default).ops.length (ocells (L.getD i default).ops)
  apart : ∀ i j, i < n → j < n → i ≠ j → (V i).ownBlock = none ∨ (V i).ownBlock ≠ (V j).ownBlock
def ThreadsD (S : Scr) (w : World) (e : Ending) (w' : World) : Prop :=
  ∃ p c V, e = .returned (.slice p S.thrs.length c) ∧ Copies w' w.heap.size (.slice p S.thrs.length c) V S.thrs.length S.thrs ∧ Below w.heap.size w w'
theorem Copies.mid {wr : World} {B : Nat} {v : Value} {V : Nat → Value} {n : Nat} {L : List Thr} (h : Copies wr B v V n L) {o1 : Obj} {v1 : Value} {w1 : World} {k : Nat} {xs : List Value}
    (ha : Appended (wr.alloc o1) B 65 4 (.slice none 0 0) 0 k xs v1 w1) : (w1.alloc (.cells #[v1] 56)).ownsRow B 56 1 v n (vcells n V) :=
  ((h.row.alloc o1).kept ha.2.1 (by cases Value.ownBlock v <;> simp [Value.ownBlock])).alloc _
/-- One copy more. -/
theorem Copies.more {w wr : World} {B : Nat} (hB : w.heap.size = B) {v : Value} {V : Nat → Value} {n : Nat} {L : List Thr} (h : Copies wr B v V n L) (hl : Below B w wr) {o1 : Obj} {v1 : Value} {w1 : World}
    (ha : Appended (wr.alloc o1) B 65 4 (.slice none 0 0) 0 (L.getD n default).ops.length (ocells (L.getD n default).ops) v1 w1) {v2 : Value} {w2 : World} (hb : Appended (w1.alloc (.cells #[v1] 56)) B 56 1 v n 1 (vcells n V ++ [v1]) v2 w2) :
    Copies w2 B v2 (fun i => if i = n then v1 else V i) (n + 1) L ∧ Below B w w2 := by
  have hs : B ≤ wr.heap.size := by rw [← hB]; exact hl.size
  have hg1 := ha.2.1
  have hg2 := hb.2.1
  have hs1 : wr.heap.size + 1 ≤ w1.heap.size := by have := hg1.size; simp at this; omega
  have hrow1 : (w1.alloc (.cells #[v1] 56)).ownsRow B 56 1 v n (vcells n V) := ((h.row.alloc o1).kept hg1 (by cases Value.ownBlock v <;> simp [Value.ownBlock])).alloc _
  have heach1 : ∀ i, i < n → (w1.alloc (.cells #[v1] 56)).ownsRow B 65 4 (V i) (L.getD i default).ops.length (ocells (L.getD i default).ops) := fun i hi =>
    (((h.each i hi).alloc o1).kept hg1 (by cases Value.ownBlock (V i) <;> simp [Value.ownBlock])).alloc _
  have h1own : (w1.alloc (.cells #[v1] 56)).ownsRow B 65 4 v1 (L.getD n default).ops.length (ocells (L.getD n default).ops) := by
    have := ha.1
    rw [Nat.zero_add] at this
    exact this.alloc _
  have hnew : ∀ q, v1.ownBlock = some q → ∀ j, j < n → (V j).ownBlock ≠ some q := fun q hq j hj hjq => by
    have hlt := ((h.each j hj).alloc o1).lt q hjq
    rcases ha.2.2 with ⟨e, _⟩ | ⟨g', cap, e, _, h5⟩
    · rw [e] at hq; cases hq
    · rw [e] at hq
      cases hq
      rcases h5 with h5 | h5
      · cases h5
      · have h8 : g' < (wr.alloc o1).heap.size := hlt.2
        omega
  refine ⟨⟨?_, fun i hi => ?_, fun i j hi hj hne => ?_⟩, ?_⟩
  · rw [vcells_succ]
    simp only [if_true]
    rw [vcells_congr (V' := V) (fun i hi => by rw [if_neg (by omega)])]
    exact hb.1
  · by_cases e : i = n
    · subst e
      simp only [if_true]
      exact own_other h1own hrow1 hg2 (by decide)
    · simp only [if_neg e]
      exact own_other (heach1 i (by omega)) hrow1 hg2 (by decide)
  · by_cases e : i = n
    · by_cases e2 : j = n
      · omega
      · simp only [if_pos e, if_neg e2]
        cases hv : v1.ownBlock with
        | none => exact .inl rfl
        | some q => right; intro h7; exact hnew q hv j (by omega) h7.symm
    · by_cases e2 : j = n
      · simp only [if_neg e, if_pos e2]
        cases hv : (V i).ownBlock with
        | none => exact .inl rfl
        | some q => right; intro h7; exact hnew q h7.symm i (by omega) hv
      · simp only [if_neg e, if_neg e2]
        exact h.apart i j (by omega) (by omega) hne
  · refine (((hl.alloc hs o1).grown hg1 (by simp; omega) (fun q hq => by cases hq)).alloc (by omega) _).grown hg2 (by simp; omega) (fun q hq => (hrow1.lt q hq).1)
theorem Copies.below {w wr : World} {B : Nat} {v : Value} {V : Nat → Value} {n : Nat} {L : List Thr} (h : Copies w B v V n L) (hb : Below w.heap.size w wr) : Copies wr B v V n L :=
  ⟨own_below h.row hb, fun i hi => own_below (h.each i hi) hb, h.apart⟩

set_option maxRecDepth 100000 in
set_option maxHeartbeats 8000000 in
theorem threads_walk (tv hv sv : Value) (V : Nat → Value) (S : Scr) (w : World) (h : ScrAt w tv hv sv V S) (z : SmallS S) (hnil : ∀ i n c, i < S.thrs.length → V i = .slice none n c → n = 0 ∧ c = 0) :
    Calls Tryd.prog 24 #[.agg #[tv, hv, sv, .int .i64 S.most]] w (ThreadsD S w) := by
  have hb2 : Below w.heap.size w (w.alloc (.cells #[tv, hv, sv, .int .i64 S.most] 27)) := (Below.refl _ _).alloc (Nat.le_refl _) _
  have HA := Lib.hid (h.below hb2)
  have HB2 := Lib.hid hb2
  have HX := Lib.hid (heap_alloc_new w (.cells #[tv, hv, sv, .int .i64 S.most] 27))
  obtain ⟨pt, ct, rfl, _, _⟩ := h.tops
  obtain ⟨ph, ch, rfl, _, _⟩ := h.thrs
  obtain ⟨ps, cs, rfl, _, _⟩ := h.sch
  have hzt : S.thrs.length ≤ 4000000 := z.thrs
  have HZO := Lib.hid z.ops
  have HNIL := Lib.hid hnil
  have HSZ : Hid ((w.alloc (.cells #[.slice pt S.tops.length ct, .slice ph S.thrs.length ch, .slice ps S.sch.length cs, .int .i64 S.most] 27)).heap.size = w.heap.size + 1) := Lib.hid (by simp)
  clear h z hb2 hnil
  go_enter Tryd.func24, Tryd.ntmps24
  go_upto_region 2 with fail
  generalize w.alloc (.cells #[.slice pt S.tops.length ct, .slice ph S.thrs.length ch, .slice ps S.sch.length cs, .int .i64 S.most] 27) = w0 at *
  generalize hrb : w.heap.size = rb at *
  have HRBE := Lib.hid hrb
  clear hrb
  have a1 := (cell_of HX.out 1).trans rfl
  generalize htl : S.thrs.length = tl at *
  have HTL := Lib.hid htl
  clear htl
  obtain ⟨i65, hi65, z0, z1, z2⟩ := info_parts info65
  obtain ⟨i56, hi56, y0, y1, y2⟩ := info_parts info56
  go_wp2_with fail
  go_loopw [3, 9] (fun v iv wr => ∃ (i : Nat) (V' : Nat → Value), i ≤ tl ∧ iv = .int .i64 i ∧ Copies wr (rb + 1) v V' i S.thrs ∧ Below (rb + 1) w0 wr) (fun _ iv _ => tl - (intOf iv).toNat)
  case atStart => exact ⟨0, fun _ => .slice none 0 0, Nat.zero_le _, rfl, ⟨⟨rfl, .inl ⟨rfl, rfl⟩⟩, (fun i hi => by omega), (fun i j hi => by omega)⟩, Below.refl _ _⟩
  case round =>
    obtain ⟨i, V', hi, rfl, hcp, hlow⟩ := hrel
    have HCP := Lib.hid hcp
    have HLOW := Lib.hid hlow
    have hAr := HA.out.below (show Below w0.heap.size w0 wr by rw [HSZ.out]; exact hlow)
    have hsz : rb + 1 ≤ wr.heap.size := by have := hlow.size; have := HSZ.out; omega
    clear hcp hlow a1
    by_cases hin : i < tl
    · have hiL : i < S.thrs.length := by rw [HTL.out]; exact hin
      obtain ⟨q1, c1, e1, _, hA1⟩ := hAr.thrs
      injection e1 with e11 e12 e13
      subst e11
      obtain ⟨ga, oa, rfl, hA2⟩ := hA1.resolve_left (by intro e; have := congrArg List.length e; rw [hcells_length] at this; simp at this; omega)
      obtain ⟨cn, cv⟩ := hcell_name hA2 hiL
      have hEA := hAr.each i hiL
      have hoz : (S.thrs.getD i default).ops.length ≤ 4000000 := HZO.out _ (getD_mem hiL)
      have HSRC : Hid (∀ W, Below wr.heap.size wr W → SrcOf W 4 (V i) (S.thrs.getD i default).ops.length (ocells (S.thrs.getD i default).ops)) := Lib.hid (fun W hW => (hEA.below hW).src (ocells_length _) (ocells_one _) (fun c hc => HNIL.out i _ c hin hc))
      obtain ⟨pv, cvv, ev, _, _⟩ := hEA
      clear hAr hA1 hA2 e12 e13
      have HMORE := Lib.hid (fun (o1 : Obj) (v1 : Value) (w1 : World) ha (v2 : Value) (w2 : World) hb => HCP.out.more HSZ.out HLOW.out (o1 := o1) (v1 := v1) (w1 := w1) ha (v2 := v2) (w2 := w2) hb)
      rw [ev] at cv HSRC
      clear ev
      generalize S.thrs.getD i default = t at *
      obtain ⟨tn, ops⟩ := t
      simp only at *
      have HSRC1 := Lib.hid (HSRC.out (wr.alloc (.cells #[.string ⟨tn.toArray⟩, .slice pv ops.length cvv] 58)) ((Below.refl _ _).alloc (Nat.le_refl _) _))
      have HNIL1 : Hid ((wr.alloc (.cells #[.string ⟨tn.toArray⟩, .slice pv ops.length cvv] 58)).ownsRow (rb + 1) 65 4 (.slice none 0 0) 0 []) := Lib.hid (World.ownsRow_nil _ _ _ _)
      go_wp2_with (first
        | (at_builtin; refine wpList_append_row rfl (.const (.slice none 0 0)) (.tmp 15) 56 rfl (rb + 1) 65 i65 _ 4 32 under56 hi65 z0 z1 (by decide) z2 rfl (.slice none 0 0) 0 [] rfl HNIL1.out ops.length (ocells ops) HSRC1.out ?l2 ?b2 ?n2 ?_; go_must (case l2 => (unfold maxLen; omega)); go_must (case b2 => omega); go_must (case n2 => (simp; omega)); intro v1 w1 ha; go_must (have HAP := Lib.hid ha); go_must (obtain ⟨vp1, vc1, hv1⟩ := own_slice ha.1); subst hv1; go_must (have HMID := Lib.hid (HCP.out.mid ha)); go_must (have HSX := Lib.hid (src_one0 w1 #[.slice vp1 (0 + ops.length) vc1] 56 1 rfl (by intro u hu; simp at hu; rw [hu]; rfl))); go_must (have hsz1 := ha.2.1.size); simp only [Nat.zero_add] at HMID HSX; clear ha)
        | (at_builtin; go_must (refine wpList_append_row rfl (.tmp 13) (.tmp 17) 53 rfl (rb + 1) 56 i56 _ 1 24 under53 hi56 y0 y1 (by decide) y2 rfl _ i (vcells i V') rfl HMID.out 1 [.slice vp1 ops.length vc1] HSX.out ?l2 ?b2 ?n2 ?_); go_must (case l2 => (unfold maxLen; omega)); go_must (case b2 => omega); go_must (case n2 => (simp at hsz1 ⊢; omega)); intro v2 w2 hb; go_must (have HBP := Lib.hid hb); clear hb))
      have hm := HMORE.out _ _ _ HAP.out _ _ (by rw [Nat.zero_add]; exact HBP.out)
      go_roundw
      case rel => exact ⟨i + 1, _, by omega, by go_num, hm.1, hm.2⟩
      case measure => simp [intOf]; omega
    · have hie : i = tl := by omega
      subst hie
      obtain ⟨p5, c5, hv5⟩ := own_slice HCP.out.row
      subst hv5
      have HLF : Hid (Below rb w wr) := Lib.hid (HB2.out.trans (HLOW.out.mono (Nat.le_succ rb)))
      clear hAr
      go_wp2_with fail
      go_ret
      refine ⟨p5, c5, V', ?_, ?_, ?_⟩
      · rw [HTL.out]; rfl
      · rw [HRBE.out, HTL.out]
        exact ⟨own_base HCP.out.row (Nat.le_succ rb), fun j hj => own_base (HCP.out.each j hj) (Nat.le_succ rb), HCP.out.apart⟩
      · rw [HRBE.out]; exact HLF.out
end Go.Proofs.YtdmhlhoimaeacaaDoor
