/-
  The program's Print (f17). (Region 8's lines are printed by wip/gen/print1.py.)
-/
import Derived.Test.YtdmhlhoimaeacaaDoorCheckS
import Derived.Test.YtdmhlhoimaeacaaDoorS7
namespace Go.Proofs.YtdmhlhoimaeacaaDoor
open Go.RowKit Go.Maps
set_option linter.unusedVariables false

/-! A text that is being written. -/
structure Wr (bb : Nat) (w1 : World) (T : Word) (W : World) : Prop where
  isb : Lib.IsBuilder 86 5 bb bb (Lib.byteCells T) W
  low : Below bb w1 W
  fit : bb < W.heap.size
theorem Wr.up {bb : Nat} {w1 W W' : World} {T : Word} (h : Wr bb w1 T W) (hb : Below W.heap.size W W') : Wr bb w1 T W' :=
  ⟨isBuilder_below h.isb hb, h.low.trans (hb.mono (Nat.le_of_lt h.fit)), Nat.lt_of_lt_of_le h.fit hb.size⟩
theorem write_s {bb : Nat} {w1 W : World} {T : Word} (h : Wr bb w1 T W) (x : Word) (s : ByteArray) (hs : s = ⟨x.toArray⟩) (hlen : T.length + x.length ≤ 140737488355328) :
    Calls Tryd.prog 33 #[.pointer (some ⟨bb, 0, none⟩), .string s] W fun e w' => e = .returned (.tuple #[.int .i64 x.length, .nilIface]) ∧ Wr bb w1 (T ++ x) w' ∧ Lib.OthersKept 5 (some bb) W w' := by
  subst hs
  refine (write_k bb bb T x W h.isb hlen (Nat.le_of_lt h.fit)).mono ?_
  rintro e w' ⟨rfl, h1, h2, h3⟩
  exact ⟨rfl, ⟨h1, h.low.trans h2, Nat.lt_of_lt_of_le h.fit h2.size⟩, h3⟩
theorem kept_block {bb nb T : Nat} {W W' : World} {cs : Array Value} (h : Lib.OthersKept 5 (some bb) W W') (hn : W.heap[nb]? = some (.cells cs T (0, 0))) (hne : nb ≠ bb) (hT : T ≠ 5) : W'.heap[nb]? = some (.cells cs T (0, 0)) :=
  h nb _ hn (fun e => hne (Option.some.inj e)) (fun c fz e => hT (by injection e))

/-! Plain: lengths. -/
theorem topT_len (t : Top) (h : In64 t.n ∧ In64 t.s) : (topT t).length ≤ 60 := by
  have h1 := itoa_len h.1.1 h.1.2
  have h2 := itoa_len h.2.1 h.2.2
  have h3 : wTopic.length = 5 := rfl
  simp only [topT, List.length_append, List.length_cons, List.length_nil]
  omega
theorem topsT_snoc (S : Scr) {i : Nat} (h : i < S.tops.length) : topsT (S.tops.take (i + 1)) = topsT (S.tops.take i) ++ topT (S.tops.getD i default) := by
  unfold topsT
  rw [take_snoc h default]
  simp
theorem topsT_len (L : List Top) (h : ∀ t ∈ L, In64 t.n ∧ In64 t.s) : ∀ i, i ≤ L.length → (topsT (L.take i)).length ≤ 60 * i
  | 0, _ => by simp [topsT]
  | i + 1, hi => by
    have h1 := topsT_len L h i (by omega)
    have h2 := topsT_snoc ⟨L, [], [], 0⟩ (i := i) hi
    simp only at h2
    have h3 := topT_len (L.getD i default) (h _ (by simp only [List.getD, List.getElem?_eq_getElem (show i < L.length by omega), Option.getD_some]; exact List.getElem_mem _))
    rw [h2, List.length_append]
    omega
theorem row_drop {w : World} {g o c n k e : Nat} {xs : List Value} (h : ∀ j, j < xs.length → w.cell? ⟨g, o + j, none⟩ = xs[j]?) (hc : n ≤ c) : RowAt w (.slice (some ⟨g, o + k * e, none⟩) (n - k) (c - k)) (n - k) (xs.drop (k * e)) :=
  ⟨_, _, rfl, by omega, .inr ⟨g, o + k * e, rfl, fun j hj => by
    rw [List.length_drop] at hj
    rw [Nat.add_assoc, h (k * e + j) (by omega), List.getElem?_drop]⟩⟩
theorem ncells_drop (L : List Int) (k : Nat) : ncells (L.drop k) = (ncells L).drop k := by simp [ncells, List.map_drop]
theorem getD_drop {α : Type} (L : List α) (k : Nat) (d : α) : (L.drop k).getD 0 d = L.getD k d := by simp [List.getD, List.getElem?_drop]
theorem schRuns_step (L : List Int) {k : Nat} (h : k < L.length) : schRuns (L.drop k) = (32 :: Lib.itoa (L.getD k 0)) ++ starT (alikeF (L.drop k)) ++ schRuns (L.drop (k + alikeF (L.drop k))) := by
  have hne : L.drop k ≠ [] := by intro e; have := congrArg List.length e; simp at this; omega
  unfold schRuns
  rw [runsT_cons _ _ hne (0 : Int), getD_drop, List.drop_drop]
theorem starT_len (n : Nat) (h : n ≤ 65536) : (starT n).length ≤ 22 := by
  unfold starT
  split
  · have := itoa_len (v := (n : Int)) (by omega) (by omega)
    simp
    omega
  · simp
theorem tellD_len (o : Opn) (ho : In64O o) : (tellD o).length ≤ 100 := by
  unfold tellD
  by_cases h4 : o.k = 4
  · have ha := itoa_len ho.2.1.1 ho.2.1.2
    have hb := itoa_len ho.2.2.1.1 ho.2.2.1.2
    have hf : ∀ n, (filtF n).length ≤ 10 := by
      intro n
      match n with
      | 0 => decide
      | 1 => decide
      | 2 => decide
      | n + 3 => exact (by decide : wEach.length ≤ 10)
    have hs : wSubscribe.length ≤ 10 := by decide
    have hw : wAll.length ≤ 10 := by decide
    unfold tellF
    rw [if_pos h4]
    split
    · simp
    · split
      · simp only [Option.getD_some, List.length_append, List.length_cons]
        omega
      · have := hf o.c.toNat
        simp only [Option.getD_some, List.length_append, List.length_cons]
        omega
  · by_cases h : ∃ j, j < 6 ∧ (formOf j).kind = o.k
    · obtain ⟨j, hj, he⟩ := h
      rw [tell_form hj he]
      split
      · have := lineT_len j o ho hj 3 (Nat.le_refl _)
        simp only [Option.getD_some]
        omega
      · simp
    · rw [tell_strange h4 (fun j hj e => h ⟨j, hj, e⟩)]
      simp
theorem ocells_drop (L : List Opn) {k : Nat} (h : k ≤ L.length) : ocells (L.drop k) = (ocells L).drop (k * 4) := by
  refine List.ext_getElem? fun j => ?_
  rw [List.getElem?_drop]
  by_cases hj : j < (L.length - k) * 4
  · have e : j = j / 4 * 4 + j % 4 := by omega
    have h1 : j / 4 < (L.drop k).length := by rw [List.length_drop]; omega
    rw [e, ocells_get (L.drop k) (j / 4) (j % 4) h1 (by omega), show k * 4 + (j / 4 * 4 + j % 4) = (k + j / 4) * 4 + j % 4 by omega, ocells_get L (k + j / 4) (j % 4) (by omega) (by omega)]
    simp [List.getD, List.getElem?_drop]
  · rw [List.getElem?_eq_none (by rw [ocells_length, List.length_drop]; omega), List.getElem?_eq_none (by rw [ocells_length]; omega)]
theorem opsRuns_step (L : List Opn) {k : Nat} (h : k < L.length) : opsRuns (L.drop k) = (32 :: 32 :: tellD (L.getD k default)) ++ timesT (alikeF (L.drop k)) ++ opsRuns (L.drop (k + alikeF (L.drop k))) := by
  have hne : L.drop k ≠ [] := by intro e; have := congrArg List.length e; simp at this; omega
  unfold opsRuns
  rw [runsT_cons _ _ hne (default : Opn), getD_drop, List.drop_drop]
theorem thrsT_snoc (S : Scr) {i : Nat} (h : i < S.thrs.length) : thrsT (S.thrs.take (i + 1)) = thrsT (S.thrs.take i) ++ thrT (S.thrs.getD i default) := by
  unfold thrsT
  rw [take_snoc h default]
  simp
/-- What is answered. -/
def PrintD (S : Scr) (w : World) (e : Ending) (w' : World) : Prop :=
  e = .returned (.tuple #[.string ⟨(if checkF S = 0 then printF S else []).toArray⟩, .int .i64 (checkF S)]) ∧ Below w.heap.size w w'
/-- Each number of a script fits. -/
structure Nums (S : Scr) : Prop where
  tops : ∀ t ∈ S.tops, In64 t.n ∧ In64 t.s
  sch : ∀ n ∈ S.sch, In64 n
  ops : ∀ t ∈ S.thrs, ∀ o ∈ t.ops, In64O o
  most : In64 S.most
theorem check_fits {S : Scr} (h : checkF S = 0) : S.thrs.length ≤ 64 ∧ S.tops.length ≤ 65536 ∧ S.sch.length ≤ 1048576 ∧ ∀ t ∈ S.thrs, t.ops.length ≤ 65536 := by
  unfold checkF at h
  split at h
  · cases h
  · split at h
    · cases h
    · rename_i h1 h2
      refine ⟨by omega, by omega, by omega, fun t ht => ?_⟩
      simp only [List.any_eq_true, decide_eq_true_eq, not_exists, not_and] at h2
      have := h2 t ht
      omega

set_option maxRecDepth 100000 in
set_option maxHeartbeats 16000000 in
theorem print_walk (N : Nat) (tv hv sv : Value) (V : Nat → Value) (S : Scr) (w : World) (hE : Env N w) (h : ScrAt w tv hv sv V S) (z : SmallS S) (hN : Nums S) :
    Calls Tryd.prog 17 #[.agg #[tv, hv, sv, .int .i64 S.most]] w (PrintD S w) := by
  have hb2 : Below w.heap.size w (w.alloc (.cells #[tv, hv, sv, .int .i64 S.most] 27)) := (Below.refl _ _).alloc (Nat.le_refl _) _
  have HA := Lib.hid (h.below hb2)
  have HE := Lib.hid (hE.up hb2)
  have HB2 := Lib.hid hb2
  have HX := Lib.hid (heap_alloc_new w (.cells #[tv, hv, sv, .int .i64 S.most] 27))
  obtain ⟨pt, ct, rfl, hct, _⟩ := h.tops
  obtain ⟨ph, ch, rfl, hch, _⟩ := h.thrs
  obtain ⟨ps, cs, rfl, hcs, _⟩ := h.sch
  have hzt : S.tops.length ≤ 4000000 := z.tops
  have hzh : S.thrs.length ≤ 4000000 := z.thrs
  have hzs : S.sch.length ≤ 4000000 := z.sch
  have HZ := Lib.hid z
  have HN := Lib.hid hN
  have HSZ : Hid ((w.alloc (.cells #[.slice pt S.tops.length ct, .slice ph S.thrs.length ch, .slice ps S.sch.length cs, .int .i64 S.most] 27)).heap.size = w.heap.size + 1) := Lib.hid (by simp)
  have HCK := Lib.hid (fun W hW hR => check_walkS N (.slice pt S.tops.length ct) (.slice ph S.thrs.length ch) (.slice ps S.sch.length cs) V S W hW hR z hN.ops)
  have HFIT := Lib.hid (fun h => check_fits (S := S) h)
  have HPE : Hid (∀ (e : Ending) (w' : World), e = .returned (.tuple #[.string ⟨(if checkF S = 0 then printF S else []).toArray⟩, .int .i64 (checkF S)]) → Below w.heap.size w w' → PrintD S w e w') := Lib.hid (fun e w' h1 h2 => ⟨h1, h2⟩)
  unfold CheckD at HCK
  generalize PrintD S w = PD at *
  generalize checkF S = cr at *
  clear h z hb2 hN hE hct hch hcs
  go_enter Tryd.func17, Tryd.ntmps17
  go_upto_region 1 with fail
  generalize w.alloc (.cells #[.slice pt S.tops.length ct, .slice ph S.thrs.length ch, .slice ps S.sch.length cs, .int .i64 S.most] 27) = w0 at *
  generalize hrb : w.heap.size = rb at *
  have HRBE := Lib.hid hrb
  clear hrb
  have HW : Hid (∀ W, Below (rb + 1) w0 W → ScrAt W (.slice pt S.tops.length ct) (.slice ph S.thrs.length ch) (.slice ps S.sch.length cs) V S ∧ Env N W ∧ W.heap[rb]? = some (.cells #[.slice pt S.tops.length ct, .slice ph S.thrs.length ch, .slice ps S.sch.length cs, .int .i64 S.most] 27 (0, 0)) ∧ Below rb w W) := Lib.hid (fun W hW => by
    have h1 : Below w0.heap.size w0 W := by rw [HSZ.out]; exact hW
    exact ⟨HA.out.below h1, HE.out.up h1, (h1.block rb (by have := HSZ.out; omega)).trans HX.out, HB2.out.trans (hW.mono (Nat.le_succ rb))⟩)
  clear HA HE HB2
  obtain ⟨hA0, hE0, hx0, hl0⟩ := HW.out w0 (Below.refl _ _)
  have HCK0 := Lib.hid (HCK.out w0 hE0 hA0)
  have a0 := (cell_of hx0 0).trans rfl
  have a1 := (cell_of hx0 1).trans rfl
  have a2 := (cell_of hx0 2).trans rfl
  have a3 := (cell_of hx0 3).trans rfl
  clear hA0 hE0 hx0 hl0 HX HCK
  generalize htl : S.tops.length = tl at *
  generalize hhl : S.thrs.length = hl at *
  generalize hsl : S.sch.length = sl at *
  generalize hmo : S.most = mo at *
  have HTL := Lib.hid htl
  have HHL := Lib.hid hhl
  have HSL := Lib.hid hsl
  have HMO := Lib.hid hmo
  clear htl hhl hsl hmo
  go_wp2_with fail
  refine HCK0.out.mono ?_
  rintro e w1 ⟨rfl, hb1⟩
  have HB1 : Hid (Below (rb + 1) w0 w1) := Lib.hid (by rw [HSZ.out] at hb1; exact hb1)
  clear hb1 a0 a1 a2 a3 HCK0
  by_cases hc0 : cr = 0
  case neg =>
    have hcb : (cr != 0) = true := by simpa using hc0
    have hcb2 : ¬ cr = 0 := hc0
    have HC0 := Lib.hid hc0
    clear hc0
    go_wp2_with fail
    refine HPE.out _ _ ?_ (HW.out _ HB1.out).2.2.2
    rw [if_neg HC0.out]
    rfl
  case pos =>
    subst hc0
    obtain ⟨f1, f2, f3, f4⟩ := HFIT.out rfl
    have HFO := Lib.hid f4
    clear f4 hzt hzh hzs HFIT
    have hs1 : rb + 1 ≤ w1.heap.size := by have := HB1.out.size; have := HSZ.out; omega
    have HWR0 : Hid (Wr w1.heap.size w1 [] (w1.alloc (.cells #[.pointer none, .slice none 0 0] 86))) := Lib.hid ⟨builder_new w1, (Below.refl _ _).alloc (Nat.le_refl _) _, by simp⟩
    have hxb := (HW.out _ (HB1.out.alloc hs1 (.cells #[.pointer none, .slice none 0 0] 86))).2.2.1
    have a0 := (cell_of hxb 0).trans rfl
    clear hxb
    go_wp2_with fail
    generalize hbb : w1.heap.size = bb at *
    have HUPW : Hid (∀ T W, Wr bb w1 T W → Below (rb + 1) w0 W) := Lib.hid (fun T W h => HB1.out.trans (h.low.mono hs1))
    have HSB := Lib.hid hs1
    clear hbb hs1 a0
    generalize w1.alloc (.cells #[.pointer none, .slice none 0 0] 86) = w2 at *
    go_loopw [24] (fun iv wr => ∃ i : Nat, i ≤ tl ∧ iv = .int .i64 i ∧ Wr bb w1 (topsT (S.tops.take i)) wr) (fun iv _ => tl - (intOf iv).toNat)
    case atStart => exact ⟨0, Nat.zero_le _, rfl, by simpa [topsT] using HWR0.out⟩
    case round =>
    obtain ⟨i, hi, rfl, hwr⟩ := hrel
    have HWR := Lib.hid hwr
    obtain ⟨hAr, hEr, hxr, hlr⟩ := HW.out wr (HUPW.out _ _ hwr)
    have hfit := hwr.fit
    clear hwr
    by_cases hin : i < tl
    · have hiL : i < S.tops.length := by rw [HTL.out]; exact hin
      obtain ⟨q1, c1, e1, _, hA1⟩ := hAr.tops
      injection e1 with e11 e12 e13
      subst e11
      obtain ⟨ga, oa, rfl, hA2⟩ := hA1.resolve_left (by intro e; have := congrArg List.length e; rw [tcells_length] at this; simp at this; omega)
      obtain ⟨cn, cs'⟩ := top_cells hA2 hiL
      have HER := Lib.hid hEr
      have hI := HN.out.tops (S.tops.getD i default) (by simp only [List.getD, List.getElem?_eq_getElem hiL, Option.getD_some]; exact List.getElem_mem hiL)
      have HTS := Lib.hid (topsT_snoc S hiL)
      have HTLn := Lib.hid (topsT_len S.tops HN.out.tops i (by omega))
      clear hAr hA1 hA2 e12 e13 hxr hlr hEr
      generalize S.tops.getD i default = t at *
      obtain ⟨tn, ts⟩ := t
      simp only at *
      have hla := itoa_len hI.1.1 hI.1.2
      have hlb := itoa_len hI.2.1 hI.2.2
      have HI := Lib.hid hI
      clear hI
      generalize topsT (S.tops.take i) = T at *
      go_upto_region 8 with fail
      have HNW := Lib.hid (heap_alloc_new wr (.cells #[.int .i64 tn, .int .i64 ts] 62))
      have HWN : Hid (Wr bb w1 T (wr.alloc (.cells #[.int .i64 tn, .int .i64 ts] 62))) := Lib.hid (HWR.out.up ((Below.refl _ _).alloc (Nat.le_refl _) _))
      have HEN : Hid (Env N (wr.alloc (.cells #[.int .i64 tn, .int .i64 ts] 62))) := Lib.hid (HER.out.up ((Below.refl _ _).alloc (Nat.le_refl _) _))
      have HSN : Hid ((wr.alloc (.cells #[.int .i64 tn, .int .i64 ts] 62)).heap.size = wr.heap.size + 1) := Lib.hid (by simp)
      generalize wr.alloc (.cells #[.int .i64 tn, .int .i64 ts] 62) = wn at *
      generalize wr.heap.size = nb at *
      have HKB : Hid (∀ W, Below wn.heap.size wn W → W.heap[nb]? = some (.cells #[.int .i64 tn, .int .i64 ts] 62 (0, 0))) := Lib.hid (fun W hW => (hW.block nb (by have := HSN.out; omega)).trans HNW.out)
      have HKC : Hid (∀ W, Below wn.heap.size wn W → W.cell? ⟨nb, 0, none⟩ = some (.int .i64 tn) ∧ W.cell? ⟨nb, 1, none⟩ = some (.int .i64 ts)) := Lib.hid (fun W hW => ⟨(cell_of (HKB.out W hW) 0).trans rfl, (cell_of (HKB.out W hW) 1).trans rfl⟩)
      have HFA : Hid (∀ W, Below wn.heap.size wn W → Calls Tryd.prog 34 #[.int .i64 tn, .int .i64 10] W fun e w' => e = .returned (.string ⟨(Lib.itoa tn).toArray⟩) ∧ Below W.heap.size W w') := Lib.hid (fun W hW => fmt_walk N tn W (HEN.out.up hW) HI.out.1)
      have HFB : Hid (∀ W, Below wn.heap.size wn W → Calls Tryd.prog 35 #[.int .i64 ts] W fun e w' => e = .returned (.string ⟨(Lib.itoa ts).toArray⟩) ∧ Below W.heap.size W w') := Lib.hid (fun W hW => itoa_walk N ts W (HEN.out.up hW) HI.out.2)
      have HWT : Hid (∀ W, Below wn.heap.size wn W → Calls Tryd.prog 33 #[.pointer (some ⟨bb, 0, none⟩), .string (({ data := #[116, 111, 112, 105, 99, 32] } : ByteArray) ++ { data := (Lib.itoa tn).toArray } ++ { data := #[32] } ++ { data := (Lib.itoa ts).toArray } ++ { data := #[10] })] W fun e w' => e = .returned (.tuple #[.int .i64 (topT ⟨tn, ts⟩).length, .nilIface]) ∧ Wr bb w1 (T ++ topT ⟨tn, ts⟩) w' ∧ w'.cell? ⟨nb, 0, none⟩ = some (.int .i64 tn) ∧ w'.cell? ⟨nb, 1, none⟩ = some (.int .i64 ts)) := Lib.hid (fun W hW => by
        refine (write_s (HWN.out.up hW) (topT ⟨tn, ts⟩) _ ?_ ?_).mono ?_
        · apply ByteArray.ext
          apply Array.toList_inj.1
          simp [topT, wTopic]
        · have := topT_len ⟨tn, ts⟩ HI.out
          have := HTLn.out
          omega
        · rintro e w' ⟨rfl, h1, h2⟩
          have h3 := kept_block h2 (HKB.out W hW) (by omega) (by decide)
          exact ⟨rfl, h1, (cell_of h3 0).trans rfl, (cell_of h3 1).trans rfl⟩)
      have hbw : Below wn.heap.size wn wn.drew := (Below.refl _ _).drew
      obtain ⟨k1, k2⟩ := HKC.out wn.drew hbw
      have q1 : ¬ 9223372036854775807 < 6 + (Lib.itoa tn).length := by omega
      have q2 : ¬ 9223372036854775807 < 6 + (Lib.itoa tn).length + 1 := by omega
      have q3 : ¬ 9223372036854775807 < 6 + (Lib.itoa tn).length + 1 + (Lib.itoa ts).length := by omega
      have q4 : ¬ 9223372036854775807 < 6 + (Lib.itoa tn).length + 1 + (Lib.itoa ts).length + 1 := by omega
      refine wp_region_held_drew (S := fun w' => w'.cell? ⟨nb, 0, none⟩ = some (.int .i64 tn) ∧ w'.cell? ⟨nb, 1, none⟩ = some (.int .i64 ts)) (by kernel_rfl) ⟨k1, k2⟩ (fun hHeld => ?_)
      refine takeH (i := 0) (v := ?v1) rfl (by kernel_rfl) (by kernel_rfl) (by kernel_rfl) (fun _ _ _ h => h) (by rfl) (by assumption) ?hy1 ?rest1
      case hy1 => (intro w hSw; (try dsimp only at hSw); first | (go_simp; done) | (go_simp; with_reducible rfl))
      try simp only [Act.put, List.setIfInBounds_toArray, List.set_cons_zero, List.set_cons_succ]
      refine takeH (i := 1) (v := ?v2) rfl (by kernel_rfl) (by kernel_rfl) (by kernel_rfl) (fun _ _ _ h => h) (by rfl) (by assumption) ?hy2 ?rest2
      case hy2 => (intro w hSw; (try dsimp only at hSw); first | (go_simp; done) | (go_simp; with_reducible rfl))
      try simp only [Act.put, List.setIfInBounds_toArray, List.set_cons_zero, List.set_cons_succ]
      refine takeH (i := 5) (v := ?v3) rfl (by kernel_rfl) (by kernel_rfl) (by kernel_rfl) (fun _ _ _ h => h) (by rfl) (by assumption) ?hy3 ?rest3
      case hy3 => (intro w hSw; (try dsimp only at hSw); first | (go_simp; done) | (go_simp; with_reducible rfl))
      try simp only [Act.put, List.setIfInBounds_toArray, List.set_cons_zero, List.set_cons_succ]
      refine takeH (i := 6) (v := ?v4) rfl (by kernel_rfl) (by kernel_rfl) (by kernel_rfl) (fun _ _ _ h => h) (by rfl) (by assumption) ?hy4 ?rest4
      case hy4 => (intro w hSw; (try dsimp only at hSw); first | (go_simp; done) | (go_simp; with_reducible rfl))
      try simp only [Act.put, List.setIfInBounds_toArray, List.set_cons_zero, List.set_cons_succ]
      refine wpAnyH_ready (rs := [2]) (by kernel_rfl) (by simp) (consH rfl (fun K hK => ?_) AllReadyH.nil)
      go_simp
      go_at_call 34
      refine ((HFA.out _ hbw).mono ?_)
      rintro e w' ⟨rfl, hb'⟩
      have hbw := hbw.trans (hb'.mono hbw.size)
      obtain ⟨k1, k2⟩ := HKC.out _ hbw
      clear hb'
      refine hK.out _ _ ⟨k1, k2⟩ (fun hHeld => ?_)
      clear hK K
      try simp only [Act.put, List.setIfInBounds_toArray, List.set_cons_zero, List.set_cons_succ]
      refine takeH (i := 3) (v := ?v5) rfl (by kernel_rfl) (by kernel_rfl) (by kernel_rfl) (fun _ _ _ h => h) (by rfl) (by assumption) ?hy5 ?rest5
      case hy5 => (intro w hSw; (try dsimp only at hSw); first | (go_simp; done) | (go_simp; with_reducible rfl))
      try simp only [Act.put, List.setIfInBounds_toArray, List.set_cons_zero, List.set_cons_succ]
      refine takeH (i := 4) (v := ?v6) rfl (by kernel_rfl) (by kernel_rfl) (by kernel_rfl) (fun _ _ _ h => h) (by rfl) (by assumption) ?hy6 ?rest6
      case hy6 => (intro w hSw; (try dsimp only at hSw); first | (go_simp; done) | (go_simp; with_reducible rfl))
      try simp only [Act.put, List.setIfInBounds_toArray, List.set_cons_zero, List.set_cons_succ]
      refine wpAnyH_ready (rs := [7]) (by kernel_rfl) (by simp) (consH rfl (fun K hK => ?_) AllReadyH.nil)
      go_simp
      go_at_call 35
      refine ((HFB.out _ hbw).mono ?_)
      rintro e w' ⟨rfl, hb'⟩
      have hbw := hbw.trans (hb'.mono hbw.size)
      obtain ⟨k1, k2⟩ := HKC.out _ hbw
      clear hb'
      refine hK.out _ _ ⟨k1, k2⟩ (fun hHeld => ?_)
      clear hK K
      try simp only [Act.put, List.setIfInBounds_toArray, List.set_cons_zero, List.set_cons_succ]
      refine takeH (i := 8) (v := ?v7) rfl (by kernel_rfl) (by kernel_rfl) (by kernel_rfl) (fun _ _ _ h => h) (by rfl) (by assumption) ?hy7 ?rest7
      case hy7 => (intro w hSw; (try dsimp only at hSw); first | (go_simp; done) | (go_simp; with_reducible rfl))
      try simp only [Act.put, List.setIfInBounds_toArray, List.set_cons_zero, List.set_cons_succ]
      refine takeH (i := 9) (v := ?v8) rfl (by kernel_rfl) (by kernel_rfl) (by kernel_rfl) (fun _ _ _ h => h) (by rfl) (by assumption) ?hy8 ?rest8
      case hy8 => (intro w hSw; (try dsimp only at hSw); first | (go_simp; done) | (go_simp; with_reducible rfl))
      try simp only [Act.put, List.setIfInBounds_toArray, List.set_cons_zero, List.set_cons_succ]
      refine wpAnyH_ready (rs := [10]) (by kernel_rfl) (by simp) (consH rfl (fun K hK => ?_) AllReadyH.nil)
      go_simp
      go_at_call 33
      refine ((HWT.out _ hbw).mono ?_)
      rintro e w' ⟨rfl, hwr', k1, k2⟩
      refine hK.out _ _ ⟨k1, k2⟩ (fun hHeld => ?_)
      clear hK K
      try simp only [Act.put, List.setIfInBounds_toArray, List.set_cons_zero, List.set_cons_succ]
      refine wpAnyH_done (by kernel_rfl) ?_ _
      clear q1 q2 q3 q4 k1 k2 hHeld
      have HW3 := Lib.hid hwr'
      clear hwr'
      go_wp2_with fail
      go_roundw
      case rel => exact ⟨i + 1, by omega, by go_num, by rw [HTS.out]; exact HW3.out⟩
      case measure => simp [intOf]; omega
    have hie : i = tl := by omega
    subst hie
    have HWT1 : Hid (Wr bb w1 (topsT S.tops) wr) := Lib.hid (by have h := HWR.out; rw [← HTL.out, List.take_length] at h; exact h)
    have HTL1 : Hid ((topsT S.tops).length ≤ 4000000) := Lib.hid (by have h := topsT_len S.tops HN.out.tops S.tops.length (Nat.le_refl _); rw [List.take_length, HTL.out] at h; omega)
    have HER := Lib.hid hEr
    have HXR := Lib.hid hxr
    have a3 := (cell_of hxr 3).trans rfl
    clear hAr hEr hxr hlr HWR hin
    generalize wr = w3 at *
    go_upto_if 42 with fail
    go_cut [42] (fun _ wx => Wr bb w1 (topsT S.tops ++ mostT mo) wx)
    case first =>
      by_cases hm0 : mo = 0
      · have hmb : (mo != 0) = false := by simpa using hm0
        have HMT : Hid (mostT mo = []) := Lib.hid (by unfold mostT; rw [if_pos hm0])
        go_wp2_with fail
        go_meet
        rw [HMT.out, List.append_nil]
        exact HWT1.out
      · have hmb : (mo != 0) = true := by simpa using hm0
        have HIM : Hid (In64 mo) := Lib.hid (by rw [← HMO.out]; exact HN.out.most)
        have HMT : Hid (mostT mo = wMost ++ (32 :: Lib.itoa mo) ++ [10]) := Lib.hid (by unfold mostT; rw [if_neg hm0])
        have hlm := itoa_len HIM.out.1 HIM.out.2
        have HII : Hid (Calls Tryd.prog 35 #[.int .i64 mo] w3 fun e w' => e = .returned (.string ⟨(Lib.itoa mo).toArray⟩) ∧ Below w3.heap.size w3 w') := Lib.hid (itoa_walk N mo w3 HER.out HIM.out)
        go_wp2_with fail
        refine HII.out.mono ?_
        rintro e w4 ⟨rfl, hb4⟩
        have HWR4 := Lib.hid (HWT1.out.up hb4)
        clear hb4
        go_wp2_with fail
        refine (write_s HWR4.out (mostT mo) _ ?_ ?_).mono ?_
        · rw [HMT.out]
          apply ByteArray.ext
          apply Array.toList_inj.1
          simp [wMost]
        · have := HTL1.out
          have hl : (mostT mo).length ≤ 60 := by rw [HMT.out]; simp [wMost]; omega
          omega
        rintro e w5 ⟨rfl, hw5, _⟩
        have HW5 := Lib.hid hw5
        clear hw5
        go_wp2_with fail
        go_meet
        exact HW5.out
    case rest =>
      have HW3 := Lib.hid hcut
      clear hcut
      have HTL3 : Hid ((topsT S.tops ++ mostT mo).length ≤ 4000100) := Lib.hid (by
        have := HTL1.out
        have hl : (mostT mo).length ≤ 60 := by
          unfold mostT
          split
          · simp
          · have HIM : In64 mo := by rw [← HMO.out]; exact HN.out.most
            have := itoa_len HIM.1 HIM.2
            simp [wMost]
            omega
        rw [List.length_append]
        omega)
      have HPR : Hid (printF S = (topsT S.tops ++ mostT mo) ++ schT S.sch ++ thrsT S.thrs) := Lib.hid (by unfold printF; rw [HMO.out])
      clear a3 HXR HER HWT1 HTL1
      generalize topsT S.tops ++ mostT mo = T3 at *
      generalize wc = w4 at *
      have a2 := (cell_of (HW.out _ (HUPW.out _ _ HW3.out)).2.2.1 2).trans rfl
      go_upto_if 52 with fail
      go_cut [52] (fun _ wx => Wr bb w1 (T3 ++ schT S.sch) wx ∧ (schT S.sch).length ≤ 70000000)
      case first =>
        by_cases hs0 : sl = 0
        · have hg : ¬ (sl : Int) > 0 := by omega
          have HST : Hid (schT S.sch = []) := Lib.hid (by unfold schT; rw [if_pos (List.eq_nil_of_length_eq_zero (by rw [HSL.out]; exact hs0))])
          clear hs0
          go_wp2_with fail
          go_meet
          rw [HST.out, List.append_nil]
          exact ⟨HW3.out, by simp⟩
        · have hg : (sl : Int) > 0 := by omega
          have HST : Hid (schT S.sch = wSchedule ++ schRuns S.sch ++ [10]) := Lib.hid (by unfold schT; rw [if_neg (fun e => hs0 (by rw [← HSL.out, e]; rfl))])
          clear hs0
          go_wp2_with fail
          refine (write_s HW3.out wSchedule _ ?_ ?_).mono ?_
          · rfl
          · have := HTL3.out
            have hl : wSchedule.length ≤ 60 := by decide
            omega
          rintro e w5 ⟨rfl, hw5, _⟩
          have HW5 := Lib.hid hw5
          clear hw5 a2
          go_wp2_with fail
          go_loopw [8] (fun iv wr => ∃ (i : Nat) (R : Word), i ≤ sl ∧ iv = .int .i64 i ∧ schRuns S.sch = R ++ schRuns (S.sch.drop i) ∧ R.length ≤ 60 * i ∧ Wr bb w1 (T3 ++ wSchedule ++ R) wr) (fun iv _ => sl - (intOf iv).toNat)
          case atStart => exact ⟨0, [], Nat.zero_le _, rfl, rfl, Nat.le_refl _, by rw [List.append_nil]; exact HW5.out⟩
          case round =>
            obtain ⟨k, R, hk, rfl, hR, hRl, hwr⟩ := hrel
            have HR := Lib.hid hR
            have HWR := Lib.hid hwr
            obtain ⟨hAr, hEr, hxr, hlr⟩ := HW.out wr (HUPW.out _ _ hwr)
            have HER := Lib.hid hEr
            have a2 := (cell_of hxr 2).trans rfl
            clear hR hwr hEr hxr hlr
            by_cases hin : k < sl
            · have hiL : k < S.sch.length := by rw [HSL.out]; exact hin
              obtain ⟨q1, c1, e1, hcc, hA1⟩ := hAr.sch
              rw [HSL.out] at hcc
              injection e1 with e11 e12 e13
              subst e11 e13
              clear e12
              obtain ⟨ga, oa, rfl, hA2⟩ := hA1.resolve_left (by intro e; have := congrArg List.length e; simp [ncells] at this; rw [this] at hiL; simp at hiL)
              have cn := sch_cell hA2 hiL
              have hk0 : (0 : Int) ≤ (k : Int) := by omega
              have hk1 : (k : Int) ≤ (sl : Int) := by omega
              have hk2 : (sl : Int) ≤ (cs : Int) := by omega
              have HAL : Hid (Calls Tryd.prog 36 #[.slice (some ⟨ga, oa + k, none⟩) (sl - k) (cs - k)] wr fun e w' => e = .returned (.int .i64 (alikeF (S.sch.drop k))) ∧ ∃ m, w' = wr.drewN m) := Lib.hid (by
                have h := alikeI_walk (.slice (some ⟨ga, oa + k * 1, none⟩) (S.sch.length - k) (cs - k)) (S.sch.drop k) wr (by rw [List.length_drop, ncells_drop, ← Nat.mul_one k]; simpa using row_drop (e := 1) (k := k) hA2 (by rw [HSL.out]; omega)) (by rw [List.length_drop, HSL.out]; omega)
                rw [Nat.mul_one, HSL.out] at h
                exact h)
              have hne : S.sch.drop k ≠ [] := by intro e; have := congrArg List.length e; simp at this; omega
              have hn1 := alikeF_pos (S.sch.drop k)
              have hn2 := alikeF_le hne
              rw [List.length_drop, HSL.out] at hn2
              obtain ⟨hn2, hn3⟩ := hn2
              have HSTEP := Lib.hid (schRuns_step S.sch hiL)
              have HIV : Hid (In64 (S.sch.getD k 0)) := Lib.hid (HN.out.sch _ (by simp only [List.getD, List.getElem?_eq_getElem hiL, Option.getD_some]; exact List.getElem_mem hiL))
              clear hne hA1 hA2 hAr
              generalize S.sch.getD k 0 = v at *
              go_wp2_with fail
              refine HAL.out.mono ?_
              generalize alikeF (S.sch.drop k) = n at *
              rintro e w6 ⟨rfl, m, rfl⟩
              have hlv := itoa_len HIV.out.1 HIV.out.2
              have HIN : Hid (In64 (n : Int)) := Lib.hid ⟨by omega, by omega⟩
              have hln := itoa_len HIN.out.1 HIN.out.2
              have HI1 := Lib.hid (itoa_walk N v (wr.drewN m) (HER.out.up (below_drewN (Below.refl _ _) m)) HIV.out)
              go_wp2_with fail
              refine HI1.out.mono ?_
              rintro e w7 ⟨rfl, hb7⟩
              have HB7 : Hid (Below wr.heap.size wr w7) := Lib.hid ((below_drewN (Below.refl _ _) m).trans hb7)
              clear hb7
              go_wp2_with fail
              refine (write_s (HWR.out.up HB7.out) (32 :: Lib.itoa v) _ ?_ ?_).mono ?_
              · apply ByteArray.ext
                apply Array.toList_inj.1
                simp
              · have := HTL3.out
                have hl : wSchedule.length ≤ 60 := by decide
                simp only [List.length_append, List.length_cons]
                omega
              rintro e w8 ⟨rfl, hw8, _⟩
              have HW8 := Lib.hid hw8
              clear hw8
              have HE8 := Lib.hid (HW.out w8 (HUPW.out _ _ HW8.out)).2.1
              by_cases hn : 1 < n
              · have hgt : (n : Int) > 1 := by omega
                have HSTR : Hid (starT n = 42 :: Lib.itoa (n : Int)) := Lib.hid (by unfold starT; rw [if_pos hn])
                have HI2 := Lib.hid (itoa_walk N (n : Int) w8 HE8.out HIN.out)
                go_wp2_with fail
                refine HI2.out.mono ?_
                rintro e w9 ⟨rfl, hb9⟩
                have HW9 := Lib.hid (HW8.out.up hb9)
                clear hb9
                go_wp2_with fail
                refine (write_s HW9.out (42 :: Lib.itoa (n : Int)) _ ?_ ?_).mono ?_
                · apply ByteArray.ext
                  apply Array.toList_inj.1
                  simp
                · have := HTL3.out
                  have hl : wSchedule.length ≤ 60 := by decide
                  simp only [List.length_append, List.length_cons]
                  omega
                rintro e w10 ⟨rfl, hw10, _⟩
                have HW10 := Lib.hid hw10
                clear hw10
                go_wp2_with fail
                go_roundw
                case rel => exact ⟨k + n, R ++ (32 :: Lib.itoa v) ++ starT n, by omega, by go_num, by rw [HR.out, HSTEP.out]; simp, by rw [HSTR.out]; simp; omega, by rw [HSTR.out]; simpa using HW10.out⟩
                case measure => simp [intOf]; omega
              · have hgt : ¬ (n : Int) > 1 := by omega
                have HSTR : Hid (starT n = []) := Lib.hid (by unfold starT; rw [if_neg hn])
                go_wp2_with fail
                go_roundw
                case rel => exact ⟨k + n, R ++ (32 :: Lib.itoa v) ++ starT n, by omega, by go_num, by rw [HR.out, HSTEP.out]; simp, by rw [HSTR.out]; simp; omega, by rw [HSTR.out]; simpa using HW8.out⟩
                case measure => simp [intOf]; omega
            have hie : k = sl := by omega
            subst hie
            have HRE : Hid (schRuns S.sch = R) := Lib.hid (by rw [HR.out, ← HSL.out, List.drop_length]; simp [schRuns, runsT])
            clear hAr
            go_wp2_with fail
            refine (write_s HWR.out [10] _ ?_ ?_).mono ?_
            · rfl
            · have := HTL3.out
              have hl : wSchedule.length ≤ 60 := by decide
              simp only [List.length_append, List.length_cons, List.length_nil]
              omega
            rintro e w11 ⟨rfl, hw11, _⟩
            have HLS : Hid ((schT S.sch).length ≤ 70000000) := Lib.hid (by
              have hl : wSchedule.length ≤ 60 := by decide
              rw [HST.out, HRE.out]
              simp only [List.length_append, List.length_cons, List.length_nil]
              omega)
            have HW11 : Hid (Wr bb w1 (T3 ++ schT S.sch) w11) := Lib.hid (by rw [HST.out, HRE.out]; simpa using hw11)
            clear hw11
            go_wp2_with fail
            go_meet
            exact ⟨HW11.out, HLS.out⟩
      case rest =>
        have HW4 := Lib.hid hcut.1
        have HTL4 : Hid ((T3 ++ schT S.sch).length ≤ 80000000) := Lib.hid (by have := hcut.2; have := HTL3.out; rw [List.length_append]; omega)
        clear hcut a2 HW3 HTL3
        generalize T3 ++ schT S.sch = T4 at *
        generalize wc = w5 at *
        have a1 := (cell_of (HW.out _ (HUPW.out _ _ HW4.out)).2.2.1 1).trans rfl
        go_wp2_with fail
        clear a1
        go_loopw [85] (fun iv wr => ∃ k : Nat, k ≤ hl ∧ iv = .int .i64 k ∧ (thrsT (S.thrs.take k)).length ≤ 20000000 * k ∧ Wr bb w1 (T4 ++ thrsT (S.thrs.take k)) wr) (fun iv _ => hl - (intOf iv).toNat)
        case atStart => exact ⟨0, Nat.zero_le _, rfl, by simp [thrsT], by simpa [thrsT] using HW4.out⟩
        case round =>
          obtain ⟨k, hk, rfl, htx, hwr⟩ := hrel
          have HWR := Lib.hid hwr
          obtain ⟨hAr, hEr, hxr, hlr⟩ := HW.out wr (HUPW.out _ _ hwr)
          have hfit := hwr.fit
          clear hwr hEr hxr hlr
          by_cases hin : k < hl
          · have hiL : k < S.thrs.length := by rw [HHL.out]; exact hin
            obtain ⟨q1, c1, e1, _, hA1⟩ := hAr.thrs
            injection e1 with e11 e12 e13
            subst e11
            obtain ⟨ga, oa, rfl, hA2⟩ := hA1.resolve_left (by intro e; have := congrArg List.length e; rw [hcells_length] at this; simp at this; omega)
            obtain ⟨cn, cv⟩ := hcell_name hA2 hiL
            have hoz : (S.thrs.getD k default).ops.length ≤ 65536 := HFO.out _ (getD_mem hiL)
            have hnz : (S.thrs.getD k default).name.length ≤ 4000000 := HZ.out.names _ (getD_mem hiL)
            have HOO := Lib.hid (HN.out.ops _ (getD_mem hiL))
            have HSN := Lib.hid (thrsT_snoc S hiL)
            have hEA := hAr.each k hiL
            obtain ⟨pv, cvv, ev, hocc, _⟩ := hEA
            have HRW : Hid (∀ W T, Wr bb w1 T W → RowAt W (V k) (S.thrs.getD k default).ops.length (ocells (S.thrs.getD k default).ops)) := Lib.hid (fun W T h => (HW.out W (HUPW.out _ _ h)).1.each k hiL)
            clear hAr hA1 hA2 e12 e13
            rw [ev] at cv HRW
            clear ev
            generalize S.thrs.getD k default = t at *
            obtain ⟨tn, ops⟩ := t
            simp only at *
            generalize hT5 : thrsT (S.thrs.take k) = T5 at *
            clear hT5
            have HNW := Lib.hid (heap_alloc_new wr (.cells #[.string ⟨tn.toArray⟩, .slice pv ops.length cvv] 58))
            have HWN : Hid (Wr bb w1 (T4 ++ T5) (wr.alloc (.cells #[.string ⟨tn.toArray⟩, .slice pv ops.length cvv] 58))) := Lib.hid (HWR.out.up ((Below.refl _ _).alloc (Nat.le_refl _) _))
            generalize hol : ops.length = ol at *
            have HOL := Lib.hid hol
            clear hol
            go_upto_region 25 with fail
            generalize wr.alloc (.cells #[.string ⟨tn.toArray⟩, .slice pv ol cvv] 58) = wn at *
            generalize wr.heap.size = nb at *
            have n0 := (cell_of HNW.out 0).trans rfl
            go_wp2_with fail
            refine (write_s HWN.out (wThread ++ (32 :: tn) ++ [10]) _ ?_ ?_).mono ?_
            · apply ByteArray.ext
              apply Array.toList_inj.1
              simp [wThread]
            · have := HTL4.out
              have hl : wThread.length ≤ 60 := by decide
              simp only [List.length_append, List.length_cons, List.length_nil] at this ⊢
              omega
            rintro e w7 ⟨rfl, hw7, ho7⟩
            have HW7 := Lib.hid hw7
            have HB7 := Lib.hid (kept_block ho7 HNW.out (by omega) (by decide))
            clear hw7 ho7 n0
            have HTL6 : Hid ((T4 ++ T5 ++ (wThread ++ (32 :: tn) ++ [10])).length ≤ 2000000000) := Lib.hid (by
              have := HTL4.out
              have hl : wThread.length ≤ 60 := by decide
              simp only [List.length_append, List.length_cons, List.length_nil] at this ⊢
              omega)
            have HTHR : Hid (∀ R, opsRuns ops = R → thrT ⟨tn, ops⟩ = (wThread ++ (32 :: tn) ++ [10]) ++ R) := Lib.hid (fun R h => by
              unfold thrT
              simp only
              rw [h])
            have HTLT : Hid ((wThread ++ (32 :: tn) ++ [10]).length ≤ 4000100) := Lib.hid (by
              have hl : wThread.length ≤ 60 := by decide
              simp only [List.length_append, List.length_cons, List.length_nil]
              omega)
            generalize hT6 : T4 ++ T5 ++ (wThread ++ (32 :: tn) ++ [10]) = T6 at *
            have HT6 := Lib.hid hT6
            clear hT6
            generalize wr = wx at *
            have n1 := (cell_of HB7.out 1).trans rfl
            go_wp2_with fail
            clear n1
            go_loopw [12] (fun iv wr => ∃ (l : Nat) (R : Word), l ≤ ol ∧ iv = .int .i64 l ∧ opsRuns ops = R ++ opsRuns (ops.drop l) ∧ R.length ≤ 150 * l ∧ Wr bb w1 (T6 ++ R) wr ∧ wr.heap[nb]? = some (.cells #[.string ⟨tn.toArray⟩, .slice pv ol cvv] 58 (0, 0))) (fun iv _ => ol - (intOf iv).toNat)
            case atStart => exact ⟨0, [], Nat.zero_le _, rfl, rfl, Nat.le_refl _, by rw [List.append_nil]; exact HW7.out, HB7.out⟩
            case round =>
              obtain ⟨l, R, hlo, rfl, hR, hRl, hwr, hnb⟩ := hrel
              have HR := Lib.hid hR
              have HWRL := Lib.hid hwr
              have HNB := Lib.hid hnb
              have hRow := HRW.out wr _ hwr
              have HER := Lib.hid (HW.out wr (HUPW.out _ _ hwr)).2.1
              have n1 := (cell_of hnb 1).trans rfl
              have hnlt : nb < wr.heap.size := (Array.getElem?_eq_some_iff.1 hnb).1
              clear hR hwr hnb
              by_cases hil : l < ol
              · have hiO : l < ops.length := by rw [HOL.out]; exact hil
                obtain ⟨q2, c2, e2, hcc, hB1⟩ := hRow
                injection e2 with e21 e22 e23
                subst e21 e23
                clear e22
                obtain ⟨gb, ob, rfl, hB2⟩ := hB1.resolve_left (by intro e; have := congrArg List.length e; rw [ocells_length] at this; simp at this; omega)
                obtain ⟨d0, d1, d2, d3⟩ := opn_cells hB2 hiO
                have hk0 : (0 : Int) ≤ (l : Int) := by omega
                have hk1 : (l : Int) ≤ (ol : Int) := by omega
                have hk2 : (ol : Int) ≤ (cvv : Int) := by omega
                have HAL : Hid (Calls Tryd.prog 37 #[.slice (some ⟨gb, ob + l * 4, none⟩) (ol - l) (cvv - l)] wr fun e w' => e = .returned (.int .i64 (alikeF (ops.drop l))) ∧ ∃ m, w' = wr.drewN m) := Lib.hid (by
                  have h := alikeO_walk (.slice (some ⟨gb, ob + l * 4, none⟩) (ops.length - l) (cvv - l)) (ops.drop l) wr (by rw [List.length_drop, ocells_drop _ (Nat.le_of_lt hiO)]; exact row_drop hB2 (by rw [HOL.out]; omega)) (by rw [List.length_drop, HOL.out]; omega)
                  rw [HOL.out] at h
                  exact h)
                have hne : ops.drop l ≠ [] := by intro e; have := congrArg List.length e; simp at this; omega
                have hn1 := alikeF_pos (ops.drop l)
                have hn2 := alikeF_le hne
                rw [List.length_drop, HOL.out] at hn2
                obtain ⟨hn2, hn3⟩ := hn2
                have HSTEP := Lib.hid (opsRuns_step ops hiO)
                have HIO : Hid (In64O (ops.getD l default)) := Lib.hid (HOO.out _ (by simp only [List.getD, List.getElem?_eq_getElem hiO, Option.getD_some]; exact List.getElem_mem hiO))
                clear hne hB1 hB2
                generalize ops.getD l default = o at *
                have htl := tellD_len o HIO.out
                have HT := Lib.hid (fun W hW => tell_walk N o W (HER.out.up hW) HIO.out)
                unfold TellD at HT
                obtain ⟨xk, xa, xb, xc⟩ := o
                simp only at d0 d1 d2 d3 HT
                go_wp2_with fail
                refine HAL.out.mono ?_
                generalize alikeF (ops.drop l) = n at *
                rintro e w8 ⟨rfl, m, rfl⟩
                have HIN : Hid (In64 (n : Int)) := Lib.hid ⟨by omega, by omega⟩
                have hln := itoa_len HIN.out.1 HIN.out.2
                go_wp2_with fail
                refine (HT.out _ (below_drewN (Below.refl _ _) m)).mono ?_
                rintro e w9 ⟨rfl, hb9⟩
                have HB9 : Hid (Below wr.heap.size wr w9) := Lib.hid ((below_drewN (Below.refl _ _) m).trans hb9)
                clear hb9
                go_wp2_with fail
                refine (write_s (HWRL.out.up HB9.out) (32 :: 32 :: tellD ⟨xk, xa, xb, xc⟩) _ ?_ ?_).mono ?_
                · apply ByteArray.ext
                  apply Array.toList_inj.1
                  simp
                · have := HTL6.out
                  simp only [List.length_append, List.length_cons]
                  omega
                rintro e w10 ⟨rfl, hw10, ho10⟩
                have HW10 := Lib.hid hw10
                have HB10 := Lib.hid (kept_block ho10 ((HB9.out.block nb hnlt).trans HNB.out) (by omega) (by decide))
                clear hw10 ho10
                have HE10 := Lib.hid (HW.out w10 (HUPW.out _ _ HW10.out)).2.1
                by_cases hn : 1 < n
                · have hgt : (n : Int) > 1 := by omega
                  have HSTR : Hid (timesT n = 32 :: 120 :: Lib.itoa (n : Int) ++ [10]) := Lib.hid (by unfold timesT; rw [if_pos hn])
                  have HI2 := Lib.hid (itoa_walk N (n : Int) w10 HE10.out HIN.out)
                  go_wp2_with fail
                  refine HI2.out.mono ?_
                  rintro e w11 ⟨rfl, hb11⟩
                  have HW11 := Lib.hid (HW10.out.up hb11)
                  have HB11 := Lib.hid ((hb11.block nb (Array.getElem?_eq_some_iff.1 HB10.out).1).trans HB10.out)
                  clear hb11
                  go_wp2_with fail
                  refine (write_s HW11.out (32 :: 120 :: Lib.itoa (n : Int)) _ ?_ ?_).mono ?_
                  · apply ByteArray.ext
                    apply Array.toList_inj.1
                    simp
                  · have := HTL6.out
                    simp only [List.length_append, List.length_cons]
                    omega
                  rintro e w12 ⟨rfl, hw12, ho12⟩
                  have HW12 := Lib.hid hw12
                  have HB12 := Lib.hid (kept_block ho12 HB11.out (by omega) (by decide))
                  clear hw12 ho12
                  go_wp2_with fail
                  refine (write_s HW12.out [10] _ ?_ ?_).mono ?_
                  · rfl
                  · have := HTL6.out
                    simp only [List.length_append, List.length_cons, List.length_nil]
                    omega
                  rintro e w13 ⟨rfl, hw13, ho13⟩
                  have HW13 := Lib.hid hw13
                  have HB13 := Lib.hid (kept_block ho13 HB12.out (by omega) (by decide))
                  clear hw13 ho13
                  go_wp2_with fail
                  go_roundw
                  case rel => exact ⟨l + n, R ++ (32 :: 32 :: tellD ⟨xk, xa, xb, xc⟩) ++ timesT n, by omega, by go_num, by rw [HR.out, HSTEP.out]; simp, by rw [HSTR.out]; simp; omega, by rw [HSTR.out]; simpa using HW13.out, HB13.out⟩
                  case measure => simp [intOf]; omega
                · have hgt : ¬ (n : Int) > 1 := by omega
                  have HSTR : Hid (timesT n = [10]) := Lib.hid (by unfold timesT; rw [if_neg hn]; rfl)
                  go_wp2_with fail
                  refine (write_s HW10.out [10] _ ?_ ?_).mono ?_
                  · rfl
                  · have := HTL6.out
                    simp only [List.length_append, List.length_cons, List.length_nil]
                    omega
                  rintro e w13 ⟨rfl, hw13, ho13⟩
                  have HW13 := Lib.hid hw13
                  have HB13 := Lib.hid (kept_block ho13 HB10.out (by omega) (by decide))
                  clear hw13 ho13
                  go_wp2_with fail
                  go_roundw
                  case rel => exact ⟨l + n, R ++ (32 :: 32 :: tellD ⟨xk, xa, xb, xc⟩) ++ timesT n, by omega, by go_num, by rw [HR.out, HSTEP.out]; simp, by rw [HSTR.out]; simp; omega, by rw [HSTR.out]; simpa using HW13.out, HB13.out⟩
                  case measure => simp [intOf]; omega
              have hie : l = ol := by omega
              subst hie
              have HRE : Hid (opsRuns ops = R) := Lib.hid (by rw [HR.out, ← HOL.out, List.drop_length]; simp [opsRuns, runsT])
              have HTE : Hid (thrT ⟨tn, ops⟩ = (wThread ++ (32 :: tn) ++ [10]) ++ R) := Lib.hid (HTHR.out R HRE.out)
              clear hRow
              go_wp2_with fail
              go_roundw
              case rel =>
                refine ⟨k + 1, by omega, by go_num, ?_, ?_⟩
                · rw [HSN.out, HTE.out]
                  have := HTLT.out
                  simp only [List.length_append] at this ⊢
                  omega
                · rw [HSN.out, HTE.out]
                  have h := HWRL.out
                  rw [← HT6.out] at h
                  simpa using h
              case measure => simp [intOf]; omega
          have hie : k = hl := by omega
          subst hie
          have HALL : Hid (T4 ++ thrsT (S.thrs.take k) = printF S) := Lib.hid (by rw [HPR.out, ← HHL.out, List.take_length])
          have HBS := Lib.hid (Tryd.Builder_String_any bb bb _ wr HWR.out.isb (Nat.le_of_lt HWR.out.fit))
          clear hAr
          go_wp2_with fail
          refine HBS.out.mono ?_
          rintro e w12 ⟨rfl, hb12⟩
          have HL12 : Hid (Below (rb + 1) w0 w12) := Lib.hid ((HUPW.out _ _ HWR.out).trans (hb12.mono HSB.out))
          clear hb12
          go_wp2_with fail
          refine HPE.out _ _ ?_ (HW.out _ HL12.out).2.2.2
          rw [if_pos (by trivial), ← HALL.out]
          rfl
end Go.Proofs.YtdmhlhoimaeacaaDoor
