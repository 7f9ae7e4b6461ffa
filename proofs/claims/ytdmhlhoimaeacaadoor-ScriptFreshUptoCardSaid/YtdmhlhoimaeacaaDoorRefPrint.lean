/-
  The reference's Print (f18).
-/
import Derived.Test.YtdmhlhoimaeacaaDoorRefPO
import Derived.Test.YtdmhlhoimaeacaaDoorLenF
import Derived.Test.YtdmhlhoimaeacaaDoorRefCheck
namespace Go.Proofs.YtdmhlhoimaeacaaDoor
open Go.RowKit Go.Maps
set_option linter.unusedVariables false

theorem txo_append {B : Nat} {w0 W : World} {v : Value} {T : Word} (h : TxO B w0 v T W) (x : Word) (hlen : T.length + x.length ≤ 140737488355328) (ty : TypeId) :
    ∃ v' w', (Builtin.append_ #[42, 9] ty #[v, .string ⟨x.toArray⟩]).run Tryd.prog W = .ok v' w' ∧ TxO B w0 v' (T ++ x) w' ∧ W.grownBy w' v.ownBlock := by
  have hss : (ByteArray.mk x.toArray).size = x.length := size_mk x
  obtain ⟨i, hi, hz, hsize, hby⟩ := info_parts info5
  obtain ⟨v', w', r1, r2, r3, _⟩ := Lib.run_append_own_string (P := Tryd.prog) W B 42 9 ty 5 i Tryd.underlying42 Tryd.underlying9 hi hz hsize hby v T.length _ h.own ⟨x.toArray⟩ (by rw [hss]; unfold maxLen; omega) (by rw [hss]; exact hlen) h.tx.nw
  rw [hss, str_bytes] at r2
  have e := bytes_app T x
  refine ⟨v', w', r1, ⟨h.tx.of e (List.length_append ..) r2 r3 (fun q hq => (h.own.lt q hq).1), ?_⟩, r3⟩
  rw [e, List.length_append]
  exact r2
theorem wpList_txo {w : World} {ops : Array Oper} {rest : List Oper} {o : Oper} {a : Act} {Q : Exit → Act → World → Prop} (hgd : o.guard = none) (sl x : Operand)
    (ho : o.op = .call { callee := .builtin .append, args := #[sl, x], argTypes := #[42, 9] }) {B : Nat} {w0 : World} (v : Value) (T X T' : Word) (hs : a.eval sl = v) (hT : TxO B w0 v T w) (s : ByteArray) (hx : a.eval x = .string s) (hX : s = ⟨X.toArray⟩) (hlen : T.length + X.length ≤ 140737488355328) (he : T' = T ++ X)
    (h : ∀ v' w', TxO B w0 v' T' w' → wpList Tryd.prog ops Q rest (a.put o.dst v') w') : wpList Tryd.prog ops Q (o :: rest) a w := by
  subst hX he
  refine wpList_plain hgd fun K hK => ?_
  obtain ⟨v', w', hr, h2, _⟩ := txo_append hT X hlen o.type
  unfold Oper.wp execOp
  simp only [ho, resolve, invoke, builtin, Sem.run_bind, Sem.run_pure, Result.andThen_ok, List.map_toArray, List.map_cons, List.map_nil, hs, hx, hr]
  exact hK _ _ (h v' w' h2)

theorem wp_append {P : Program} {o : Oper} {a : Act} {w : World} {K : Act → World → Prop} {Q : Exit → Act → World → Prop} {s x : Operand} {t u : TypeId} (ho : o.op = .call { callee := .builtin .append, args := #[s, x], argTypes := #[t, u] })
    {v y v' : Value} {w' : World} (hs : a.eval s = v) (hx : a.eval x = y) (hr : (Builtin.append_ #[t, u] o.type #[v, y]).run P w = .ok v' w') (h : K (a.put o.dst v') w') : Oper.wp P o a w K Q := by
  unfold Oper.wp execOp
  simp only [ho, resolve, invoke, builtin, Sem.run_bind, Sem.run_pure, Result.andThen_ok, List.map_toArray, List.map_cons, List.map_nil, hs, hx, hr]
  exact h
theorem check_end_says (S : Scr) (h : checkF S = 0) : ∀ t ∈ S.thrs, ∀ o ∈ t.ops, saysF o = true := by
  unfold checkF at h
  split at h
  · cases h
  · split at h
    · cases h
    · split at h
      · cases h
      · split at h
        · rename_i hf
          unfold fieldsF at hf
          simp only [Bool.and_eq_true, List.all_eq_true] at hf
          exact fun t ht o ho => (hf.2 t ht).2 o ho
        · cases h

set_option maxRecDepth 100000 in
set_option maxHeartbeats 16000000 in
theorem refPrint_walk (N : Nat) (tv hv sv : Value) (V : Nat → Value) (S : Scr) (w : World) (hE : Env N w) (h : ScrAt w tv hv sv V S) (z : SmallS S) (hN : Nums S) :
    Calls Tryd.prog 18 #[.agg #[tv, hv, sv, .int .i64 S.most]] w (PrintD S w) := by
  have hb2 : Below w.heap.size w (w.alloc (.cells #[tv, hv, sv, .int .i64 S.most] 34)) := (Below.refl _ _).alloc (Nat.le_refl _) _
  have HA := Lib.hid (h.below hb2)
  have HE := Lib.hid (hE.up hb2)
  have HB2 := Lib.hid hb2
  have HX := Lib.hid (heap_alloc_new w (.cells #[tv, hv, sv, .int .i64 S.most] 34))
  obtain ⟨pt, ct, rfl, hct, _⟩ := h.tops
  obtain ⟨ph, ch, rfl, hch, _⟩ := h.thrs
  obtain ⟨ps, cs, rfl, hcs, _⟩ := h.sch
  have hzt : S.tops.length ≤ 4000000 := z.tops
  have hzh : S.thrs.length ≤ 4000000 := z.thrs
  have hzs : S.sch.length ≤ 4000000 := z.sch
  have HZ := Lib.hid z
  have HN := Lib.hid hN
  have HSZ : Hid ((w.alloc (.cells #[.slice pt S.tops.length ct, .slice ph S.thrs.length ch, .slice ps S.sch.length cs, .int .i64 S.most] 34)).heap.size = w.heap.size + 1) := Lib.hid (by simp)
  have HCK := Lib.hid (fun W hR => refCheck_walk (.slice pt S.tops.length ct) (.slice ph S.thrs.length ch) (.slice ps S.sch.length cs) V S W hR z hN.ops)
  have HFIT := Lib.hid (fun h => check_fits (S := S) h)
  have HGOOD := Lib.hid (fun h : checkF S = 0 => check_end_says S h)
  have HPE : Hid (∀ (e : Ending) (w' : World), e = .returned (.tuple #[.string ⟨(if checkF S = 0 then printF S else []).toArray⟩, .int .i64 (checkF S)]) → Below w.heap.size w w' → PrintD S w e w') := Lib.hid (fun e w' h1 h2 => ⟨h1, h2⟩)
  unfold CheckD at HCK
  generalize PrintD S w = PD at *
  generalize checkF S = cr at *
  clear h z hb2 hN hE hct hch hcs
  go_enter Tryd.func18, Tryd.ntmps18
  go_upto_region 1 with fail
  generalize w.alloc (.cells #[.slice pt S.tops.length ct, .slice ph S.thrs.length ch, .slice ps S.sch.length cs, .int .i64 S.most] 34) = w0 at *
  generalize hrb : w.heap.size = rb at *
  have HRBE := Lib.hid hrb
  clear hrb
  have HW : Hid (∀ W, Below (rb + 1) w0 W → ScrAt W (.slice pt S.tops.length ct) (.slice ph S.thrs.length ch) (.slice ps S.sch.length cs) V S ∧ Env N W ∧ W.heap[rb]? = some (.cells #[.slice pt S.tops.length ct, .slice ph S.thrs.length ch, .slice ps S.sch.length cs, .int .i64 S.most] 34 (0, 0)) ∧ Below rb w W) := Lib.hid (fun W hW => by
    have h1 : Below w0.heap.size w0 W := by rw [HSZ.out]; exact hW
    exact ⟨HA.out.below h1, HE.out.up h1, (h1.block rb (by have := HSZ.out; omega)).trans HX.out, HB2.out.trans (hW.mono (Nat.le_succ rb))⟩)
  clear HA HE HB2
  obtain ⟨hA0, hE0, hx0, hl0⟩ := HW.out w0 (Below.refl _ _)
  have HCK0 := Lib.hid (HCK.out w0 hA0)
  have a0 := (cell_of hx0 0).trans rfl
  have a1 := (cell_of hx0 1).trans rfl
  have a2 := (cell_of hx0 2).trans rfl
  have a3 := (cell_of hx0 3).trans rfl
  clear hA0 hE0 hx0 hl0 HX HCK
  generalize htl : S.tops.length = tl at *
  generalize hhl : S.thrs.length = hl at *
  generalize hsl : S.sch.length = sl at *
  generalize hmo : S.most = mo at *
  have HTL := Lib.hid htl
  have HHL := Lib.hid hhl
  have HSL := Lib.hid hsl
  have HMO := Lib.hid hmo
  clear htl hhl hsl hmo
  go_wp2_with fail
  refine HCK0.out.mono ?_
  rintro e w1 ⟨rfl, hb1⟩
  have HB1 : Hid (Below (rb + 1) w0 w1) := Lib.hid (by rw [HSZ.out] at hb1; exact hb1)
  clear hb1 a0 a1 a2 a3 HCK0
  by_cases hc0 : cr = 0
  case neg =>
    have hcb : (cr != 0) = true := by simpa using hc0
    have hcb2 : ¬ cr = 0 := hc0
    have HC0 := Lib.hid hc0
    clear hc0
    go_wp2_with fail
    refine HPE.out _ _ ?_ (HW.out _ HB1.out).2.2.2
    rw [if_neg HC0.out]
    rfl
  case pos =>
    subst hc0
    obtain ⟨f1, f2, f3, f4⟩ := HFIT.out rfl
    have HFO := Lib.hid f4
    have HSY := Lib.hid (HGOOD.out rfl)
    clear f4 hzt hzh hzs HFIT HGOOD
    have hs1 : rb + 1 ≤ w1.heap.size := by have := HB1.out.size; have := HSZ.out; omega
    have HT0 : Hid (TxO w1.heap.size w1 (.slice none 0 0) [] w1) := Lib.hid ⟨⟨.inl ⟨rfl, .inl ⟨rfl, rfl⟩⟩, Below.refl _ _, Nat.le_refl _⟩, ⟨rfl, .inl ⟨rfl, rfl⟩⟩⟩
    obtain ⟨_, _, hx1, _⟩ := HW.out w1 HB1.out
    have a0 := (cell_of hx1 0).trans rfl
    clear hx1
    go_wp2_with fail
    generalize hbb : w1.heap.size = bb at *
    have HBB := Lib.hid hbb
    clear hbb a0
    have HUPW : Hid (∀ v T W, TxO bb w1 v T W → Below (rb + 1) w0 W) := Lib.hid (fun v T W h => HB1.out.trans (h.tx.low.mono hs1))
    go_loopw [5, 6] (fun ov iv wr => ∃ i : Nat, i ≤ tl ∧ iv = .int .i64 i ∧ TxO bb w1 ov (topsT (S.tops.take i)) wr) (fun _ iv _ => tl - (intOf iv).toNat)
    case atStart => exact ⟨0, Nat.zero_le _, rfl, by simpa [topsT] using HT0.out⟩
    case round =>
    obtain ⟨i, hi, rfl, hwr⟩ := hrel
    have HT := Lib.hid hwr
    obtain ⟨po, co, hov⟩ := hwr.tx.slice
    subst hov
    obtain ⟨hAr, hEr, hxr, hlr⟩ := HW.out wr (HUPW.out _ _ _ hwr)
    have HER := Lib.hid hEr
    have HXR := Lib.hid hxr
    clear hwr hEr
    have a0 := (cell_of hxr 0).trans rfl
    by_cases hin : i < tl
    · have hiL : i < S.tops.length := by rw [HTL.out]; exact hin
      obtain ⟨q1, c1, e1, _, hA1⟩ := hAr.tops
      injection e1 with e11 e12 e13
      subst e11
      obtain ⟨ga, oa, rfl, hA2⟩ := hA1.resolve_left (by intro e; have := congrArg List.length e; rw [tcells_length] at this; simp at this; omega)
      obtain ⟨cn, cs'⟩ := top_cells hA2 hiL
      have HKC : Hid (∀ W, Below (rb + 1) w0 W → W.cell? ⟨rb, 0, none⟩ = some (.slice (some ⟨ga, oa, none⟩) tl ct) ∧ W.cell? ⟨ga, oa + i * 2, none⟩ = some (.int .i64 (S.tops.getD i default).n) ∧ W.cell? ⟨ga, oa + i * 2 + 1, none⟩ = some (.int .i64 (S.tops.getD i default).s)) := Lib.hid (fun W hW => by
        obtain ⟨hS, _, hx, _⟩ := HW.out W hW
        obtain ⟨q1, c1, e1, _, hA1⟩ := hS.tops
        injection e1 with e11 e12 e13
        subst e11
        obtain ⟨gc, oc, e4, hA2⟩ := hA1.resolve_left (by intro e; have := congrArg List.length e; rw [tcells_length] at this; simp at this; omega)
        injection e4 with e4
        injection e4 with e4a e4b
        subst e4a e4b
        obtain ⟨x1, x2⟩ := top_cells hA2 hiL
        exact ⟨(cell_of hx 0).trans rfl, x1, x2⟩)
      have hI := HN.out.tops (S.tops.getD i default) (by simp only [List.getD, List.getElem?_eq_getElem hiL, Option.getD_some]; exact List.getElem_mem hiL)
      have HTS := Lib.hid (topsT_snoc S hiL)
      have HTLn := Lib.hid (topsT_len S.tops HN.out.tops i (by omega))
      clear hAr hA1 hA2 e12 e13 hxr hlr
      generalize S.tops.getD i default = t at *
      obtain ⟨tn, ts⟩ := t
      simp only at *
      have hla := itoa_len hI.1.1 hI.1.2
      have hlb := itoa_len hI.2.1 hI.2.2
      have HI := Lib.hid hI
      clear hI
      generalize topsT (S.tops.take i) = T at *
      have HFA : Hid (∀ W, Below (rb + 1) w0 W → Calls Tryd.prog 40 #[.int .i64 tn] W fun e w' => e = .returned (.string ⟨(Lib.itoa tn).toArray⟩) ∧ Below W.heap.size W w') := Lib.hid (fun W hW => num_walk N tn W (HW.out W hW).2.1 HI.out.1)
      have HFB : Hid (∀ W, Below (rb + 1) w0 W → Calls Tryd.prog 40 #[.int .i64 ts] W fun e w' => e = .returned (.string ⟨(Lib.itoa ts).toArray⟩) ∧ Below W.heap.size W w') := Lib.hid (fun W hW => num_walk N ts W (HW.out W hW).2.1 HI.out.2)
      go_upto_region 8 with fail
      have htx := HT.out.up (Below.refl _ _).drew
      have hbw := HUPW.out _ _ _ htx
      obtain ⟨k0, k1, k2⟩ := HKC.out _ hbw
      clear cn cs' a0
      have HSTR : Hid ((({ data := #[116, 111, 112, 105, 99, 32] } : ByteArray) ++ { data := (Lib.itoa tn).toArray } ++ { data := #[32] } ++ { data := (Lib.itoa ts).toArray } ++ { data := #[10] }) = ⟨(topT ⟨tn, ts⟩).toArray⟩) := Lib.hid (by
        apply ByteArray.ext
        apply Array.toList_inj.1
        simp [topT, wTopic])
      have q1 : ¬ 9223372036854775807 < 6 + (Lib.itoa tn).length := by omega
      have q2 : ¬ 9223372036854775807 < 6 + (Lib.itoa tn).length + 1 := by omega
      have q3 : ¬ 9223372036854775807 < 6 + (Lib.itoa tn).length + 1 + (Lib.itoa ts).length := by omega
      have q4 : ¬ 9223372036854775807 < 6 + (Lib.itoa tn).length + 1 + (Lib.itoa ts).length + 1 := by omega
      refine wp_region_held_drew (S := fun w' => w'.cell? ⟨rb, 0, none⟩ = some (.slice (some ⟨ga, oa, none⟩) tl ct) ∧ w'.cell? ⟨ga, oa + i * 2, none⟩ = some (.int .i64 tn) ∧ w'.cell? ⟨ga, oa + i * 2 + 1, none⟩ = some (.int .i64 ts)) (by kernel_rfl) ⟨k0, k1, k2⟩ (fun hHeld => ?_)
      refine takeH (i := 0) (v := ?v1) rfl (by kernel_rfl) (by kernel_rfl) (by kernel_rfl) (fun _ _ _ h => h) (by rfl) (by assumption) ?hy1 ?rest1
      case hy1 => (intro w hSw; (try dsimp only at hSw); first | (go_simp; done) | (go_simp; with_reducible rfl))
      try simp only [Act.put, List.setIfInBounds_toArray, List.set_cons_zero, List.set_cons_succ]
      refine takeH (i := 1) (v := ?v2) rfl (by kernel_rfl) (by kernel_rfl) (by kernel_rfl) (fun _ _ _ h => h) (by rfl) (by assumption) ?hy2 ?rest2
      case hy2 => (intro w hSw; (try dsimp only at hSw); first | (go_simp; done) | (go_simp; with_reducible rfl))
      try simp only [Act.put, List.setIfInBounds_toArray, List.set_cons_zero, List.set_cons_succ]
      refine takeH (i := 2) (v := ?v3) rfl (by kernel_rfl) (by kernel_rfl) (by kernel_rfl) (fun _ _ _ h => h) (by rfl) (by assumption) ?hy3 ?rest3
      case hy3 => (intro w hSw; (try dsimp only at hSw); first | (go_simp; done) | (go_simp; with_reducible rfl))
      try simp only [Act.put, List.setIfInBounds_toArray, List.set_cons_zero, List.set_cons_succ]
      refine takeH (i := 3) (v := ?v4) rfl (by kernel_rfl) (by kernel_rfl) (by kernel_rfl) (fun _ _ _ h => h) (by rfl) (by assumption) ?hy4 ?rest4
      case hy4 => (intro w hSw; (try dsimp only at hSw); first | (go_simp; done) | (go_simp; with_reducible rfl))
      try simp only [Act.put, List.setIfInBounds_toArray, List.set_cons_zero, List.set_cons_succ]
      refine takeH (i := 4) (v := ?v5) rfl (by kernel_rfl) (by kernel_rfl) (by kernel_rfl) (fun _ _ _ h => h) (by rfl) (by assumption) ?hy5 ?rest5
      case hy5 => (intro w hSw; (try dsimp only at hSw); first | (go_simp; done) | (go_simp; with_reducible rfl))
      try simp only [Act.put, List.setIfInBounds_toArray, List.set_cons_zero, List.set_cons_succ]
      refine takeH (i := 5) (v := ?v6) rfl (by kernel_rfl) (by kernel_rfl) (by kernel_rfl) (fun _ _ _ h => h) (by rfl) (by assumption) ?hy6 ?rest6
      case hy6 => (intro w hSw; (try dsimp only at hSw); first | (go_simp; done) | (go_simp; with_reducible rfl))
      try simp only [Act.put, List.setIfInBounds_toArray, List.set_cons_zero, List.set_cons_succ]
      refine takeH (i := 6) (v := ?v7) rfl (by kernel_rfl) (by kernel_rfl) (by kernel_rfl) (fun _ _ _ h => h) (by rfl) (by assumption) ?hy7 ?rest7
      case hy7 => (intro w hSw; (try dsimp only at hSw); first | (go_simp; done) | (go_simp; with_reducible rfl))
      try simp only [Act.put, List.setIfInBounds_toArray, List.set_cons_zero, List.set_cons_succ]
      refine takeH (i := 10) (v := ?v8) rfl (by kernel_rfl) (by kernel_rfl) (by kernel_rfl) (fun _ _ _ h => h) (by rfl) (by assumption) ?hy8 ?rest8
      case hy8 => (intro w hSw; (try dsimp only at hSw); first | (go_simp; done) | (go_simp; with_reducible rfl))
      try simp only [Act.put, List.setIfInBounds_toArray, List.set_cons_zero, List.set_cons_succ]
      refine takeH (i := 11) (v := ?v9) rfl (by kernel_rfl) (by kernel_rfl) (by kernel_rfl) (fun _ _ _ h => h) (by rfl) (by assumption) ?hy9 ?rest9
      case hy9 => (intro w hSw; (try dsimp only at hSw); first | (go_simp; done) | (go_simp; with_reducible rfl))
      try simp only [Act.put, List.setIfInBounds_toArray, List.set_cons_zero, List.set_cons_succ]
      refine takeH (i := 12) (v := ?v10) rfl (by kernel_rfl) (by kernel_rfl) (by kernel_rfl) (fun _ _ _ h => h) (by rfl) (by assumption) ?hy10 ?rest10
      case hy10 => (intro w hSw; (try dsimp only at hSw); first | (go_simp; done) | (go_simp; with_reducible rfl))
      try simp only [Act.put, List.setIfInBounds_toArray, List.set_cons_zero, List.set_cons_succ]
      refine takeH (i := 13) (v := ?v11) rfl (by kernel_rfl) (by kernel_rfl) (by kernel_rfl) (fun _ _ _ h => h) (by rfl) (by assumption) ?hy11 ?rest11
      case hy11 => (intro w hSw; (try dsimp only at hSw); first | (go_simp; done) | (go_simp; with_reducible rfl))
      try simp only [Act.put, List.setIfInBounds_toArray, List.set_cons_zero, List.set_cons_succ]
      refine takeH (i := 14) (v := ?v12) rfl (by kernel_rfl) (by kernel_rfl) (by kernel_rfl) (fun _ _ _ h => h) (by rfl) (by assumption) ?hy12 ?rest12
      case hy12 => (intro w hSw; (try dsimp only at hSw); first | (go_simp; done) | (go_simp; with_reducible rfl))
      try simp only [Act.put, List.setIfInBounds_toArray, List.set_cons_zero, List.set_cons_succ]
      refine takeH (i := 15) (v := ?v13) rfl (by kernel_rfl) (by kernel_rfl) (by kernel_rfl) (fun _ _ _ h => h) (by rfl) (by assumption) ?hy13 ?rest13
      case hy13 => (intro w hSw; (try dsimp only at hSw); first | (go_simp; done) | (go_simp; with_reducible rfl))
      try simp only [Act.put, List.setIfInBounds_toArray, List.set_cons_zero, List.set_cons_succ]
      refine wpAnyH_ready (rs := [7]) (by kernel_rfl) (by simp) (consH rfl (fun K hK => ?_) AllReadyH.nil)
      go_simp
      go_at_call 40
      refine ((HFA.out _ hbw).mono ?_)
      rintro e w' ⟨rfl, hb'⟩
      have htx := htx.up hb'
      have hbw := HUPW.out _ _ _ htx
      obtain ⟨k0, k1, k2⟩ := HKC.out _ hbw
      clear hb'
      refine hK.out _ _ ⟨k0, k1, k2⟩ (fun hHeld => ?_)
      clear hK K
      try simp only [Act.put, List.setIfInBounds_toArray, List.set_cons_zero, List.set_cons_succ]
      refine takeH (i := 8) (v := ?v14) rfl (by kernel_rfl) (by kernel_rfl) (by kernel_rfl) (fun _ _ _ h => h) (by rfl) (by assumption) ?hy14 ?rest14
      case hy14 => (intro w hSw; (try dsimp only at hSw); first | (go_simp; done) | (go_simp; with_reducible rfl))
      try simp only [Act.put, List.setIfInBounds_toArray, List.set_cons_zero, List.set_cons_succ]
      refine takeH (i := 9) (v := ?v15) rfl (by kernel_rfl) (by kernel_rfl) (by kernel_rfl) (fun _ _ _ h => h) (by rfl) (by assumption) ?hy15 ?rest15
      case hy15 => (intro w hSw; (try dsimp only at hSw); first | (go_simp; done) | (go_simp; with_reducible rfl))
      try simp only [Act.put, List.setIfInBounds_toArray, List.set_cons_zero, List.set_cons_succ]
      refine wpAnyH_ready (rs := [16]) (by kernel_rfl) (by simp) (consH rfl (fun K hK => ?_) AllReadyH.nil)
      go_simp
      go_at_call 40
      refine ((HFB.out _ hbw).mono ?_)
      rintro e w' ⟨rfl, hb'⟩
      have htx := htx.up hb'
      have hbw := HUPW.out _ _ _ htx
      obtain ⟨k0, k1, k2⟩ := HKC.out _ hbw
      clear hb'
      refine hK.out _ _ ⟨k0, k1, k2⟩ (fun hHeld => ?_)
      clear hK K
      try simp only [Act.put, List.setIfInBounds_toArray, List.set_cons_zero, List.set_cons_succ]
      refine takeH (i := 17) (v := ?v16) rfl (by kernel_rfl) (by kernel_rfl) (by kernel_rfl) (fun _ _ _ h => h) (by rfl) (by assumption) ?hy16 ?rest16
      case hy16 => (intro w hSw; (try dsimp only at hSw); first | (go_simp; done) | (go_simp; with_reducible rfl))
      try simp only [Act.put, List.setIfInBounds_toArray, List.set_cons_zero, List.set_cons_succ]
      refine takeH (i := 18) (v := ?v17) rfl (by kernel_rfl) (by kernel_rfl) (by kernel_rfl) (fun _ _ _ h => h) (by rfl) (by assumption) ?hy17 ?rest17
      case hy17 => (intro w hSw; (try dsimp only at hSw); first | (go_simp; done) | (go_simp; with_reducible rfl))
      try simp only [Act.put, List.setIfInBounds_toArray, List.set_cons_zero, List.set_cons_succ]
      refine wpAnyH_ready (rs := [19]) (by kernel_rfl) (by simp) (consH rfl (fun K hK => ?_) AllReadyH.nil)
      obtain ⟨v9, w9, hr, hT9, _⟩ := txo_append htx (topT ⟨tn, ts⟩) (by have := topT_len ⟨tn, ts⟩ HI.out; have := HTLn.out; omega) 42
      rw [← HSTR.out] at hr
      generalize hT9e : T ++ topT ⟨tn, ts⟩ = T9 at *
      have HT9E := Lib.hid hT9e
      clear hT9e
      have HT9 := Lib.hid hT9
      obtain ⟨p9, c9, hv9⟩ := hT9.tx.slice
      subst hv9
      clear hT9
      obtain ⟨k0, k1, k2⟩ := HKC.out _ (HUPW.out _ _ _ HT9.out)
      rw [if_pos (by kernel_rfl)]
      refine wp_append rfl rfl rfl hr ?_
      refine hK.out _ _ ⟨k0, k1, k2⟩ (fun hHeld => ?_)
      clear hK K hr
      try simp only [Act.put, List.setIfInBounds_toArray, List.set_cons_zero, List.set_cons_succ]
      refine takeH (i := 20) (v := ?v18) rfl (by kernel_rfl) (by kernel_rfl) (by kernel_rfl) (fun _ _ _ h => h) (by rfl) (by assumption) ?hy18 ?rest18
      case hy18 => (intro w hSw; (try dsimp only at hSw); first | (go_simp; done) | (go_simp; with_reducible rfl))
      try simp only [Act.put, List.setIfInBounds_toArray, List.set_cons_zero, List.set_cons_succ]
      refine wpAnyH_done (by kernel_rfl) ?_ _
      clear q1 q2 q3 q4 k0 k1 k2 hHeld hbw htx
      go_wp2_with fail
      go_roundw
      case rel => exact ⟨i + 1, by omega, by go_num, by rw [HTS.out]; exact HT9.out⟩
      case measure => simp [intOf]; omega
    have hie : i = tl := by omega
    subst hie
    have HTL1 : Hid ((topsT S.tops).length ≤ 60 * 65536) := Lib.hid (by
      have h := topsT_len S.tops HN.out.tops S.tops.length (Nat.le_refl _)
      rw [List.take_length] at h
      have := HTL.out
      omega)
    have HT1 : Hid (TxO bb w1 (.slice po (topsT (S.tops.take i)).length co) (topsT S.tops) wr) := Lib.hid (by
      have h := HT.out
      have e : S.tops.take i = S.tops := by rw [← HTL.out, List.take_length]
      rw [e] at h ⊢
      exact h)
    generalize Value.slice po (topsT (S.tops.take i)).length co = ov1 at *
    have a3 := (cell_of hxr 3).trans rfl
    clear hAr hxr hlr hin HT
    generalize hT1n : topsT S.tops = T1 at *
    have HT1N := Lib.hid hT1n
    clear hT1n
    generalize wr = w3 at *
    obtain ⟨T2, hT2⟩ : ∃ T, T = T1 ++ mostT mo := ⟨_, rfl⟩
    have HT2E := Lib.hid hT2
    clear hT2
    go_upto_if 44 with fail
    clear a0
    go_cut [5, 44] (fun ov _ wx => TxO bb w1 ov T2 wx)
    case first =>
      by_cases hm0 : mo = 0
      · have hmb : (mo != 0) = false := by simpa using hm0
        have HMT : Hid (T2 = T1) := Lib.hid (by rw [HT2E.out]; unfold mostT; rw [if_pos hm0, List.append_nil])
        go_wp2_with fail
        go_meet
        rw [HMT.out]
        exact HT1.out
      · have hmb : (mo != 0) = true := by simpa using hm0
        have HIM : Hid (In64 mo) := Lib.hid (by rw [← HMO.out]; exact HN.out.most)
        have HMT : Hid (mostT mo = wMost ++ (32 :: Lib.itoa mo) ++ [10]) := Lib.hid (by unfold mostT; rw [if_neg hm0])
        have hlm := itoa_len HIM.out.1 HIM.out.2
        have HII : Hid (Calls Tryd.prog 40 #[.int .i64 mo] w3 fun e w' => e = .returned (.string ⟨(Lib.itoa mo).toArray⟩) ∧ Below w3.heap.size w3 w') := Lib.hid (num_walk N mo w3 (HW.out _ (HUPW.out _ _ _ HT1.out)).2.1 HIM.out)
        go_wp2_with fail
        refine HII.out.mono ?_
        rintro e w4 ⟨rfl, hb4⟩
        have HT4 := Lib.hid (HT1.out.up hb4)
        clear hb4
        have hss := size_mk (Lib.itoa mo)
        have q1 : ¬ 9223372036854775807 < 5 + (Lib.itoa mo).length := by omega
        have q2 : ¬ 9223372036854775807 < 5 + (Lib.itoa mo).length + 1 := by omega
        go_wp2_with (at_builtin; refine wpList_txo rfl (.tmp 45) (.tmp 50) rfl _ T1 (mostT mo) T2 rfl HT4.out _ rfl ?e2 ?l2 HT2E.out ?_)
        case e2 => (rw [HMT.out]; apply ByteArray.ext; apply Array.toList_inj.1; simp [wMost])
        case l2 => (rw [HMT.out]; have := HTL1.out; simp [wMost]; omega)
        intro v5 w5 hT5
        have HT5 := Lib.hid hT5
        obtain ⟨p5, c5, hv5⟩ := hT5.tx.slice
        subst hv5
        clear hT5
        go_wp2_with fail
        go_meet
        exact HT5.out
    case rest =>
      have HTc := Lib.hid hcut
      obtain ⟨p2, c2, hv2⟩ := hcut.tx.slice
      subst hv2
      have HL2 : Hid (T2.length ≤ 60 * 65536 + 60) := Lib.hid (by
        rw [HT2E.out, List.length_append]
        have h := HTL1.out
        have hI := HN.out.most
        rw [HMO.out] at hI
        have hl := itoa_len hI.1 hI.2
        have : (mostT mo).length ≤ 60 := by
          unfold mostT
          split
          · simp
          · simp [wMost]; omega
        omega)
      clear hcut a3
      generalize wc = w6 at *
      obtain ⟨hA6, hE6, hx6, _⟩ := HW.out w6 (HUPW.out _ _ _ HTc.out)
      have a2 := (cell_of hx6 2).trans rfl
      have HSC := Lib.hid (rsched_walk N (.slice ps sl cs) S.sch w6 hE6 (by have := hA6.sch; rw [HSL.out] at this ⊢; exact this) (by rw [HSL.out]; omega) HN.out.sch)
      clear hA6 hE6 hx6
      go_wp2_with fail
      refine HSC.out.mono ?_
      rintro e w7 ⟨rfl, hb7⟩
      have HT7 := Lib.hid (HTc.out.up hb7)
      clear hb7 a2 HSC
      have hls := schT_len S.sch HN.out.sch
      rw [HSL.out] at hls
      have hl2 := HL2.out
      generalize hst : schT S.sch = st at *
      have HSTE := Lib.hid hst
      clear hst
      have hss := size_mk st
      obtain ⟨T4, hT4⟩ : ∃ T, T = T2 ++ st := ⟨_, rfl⟩
      have HT4E := Lib.hid hT4
      have hl4 : T4.length ≤ 80000000 := by rw [hT4, List.length_append]; omega
      have HL4 := Lib.hid hl4
      clear hT4 hl4
      go_wp2_with (at_builtin; refine wpList_txo rfl (.tmp 55) (.tmp 56) rfl _ T2 st T4 rfl HT7.out _ rfl rfl ?l2 HT4E.out ?_)
      case l2 => omega
      intro v8 w8 hT8
      have HT8 := Lib.hid hT8
      obtain ⟨p8, c8, hv8⟩ := hT8.tx.slice
      obtain ⟨_, _, hx8, _⟩ := HW.out w8 (HUPW.out _ _ _ hT8)
      have a1 := (cell_of hx8 1).trans rfl
      subst hv8
      clear hT8 hls hl2 hss hx8
      go_wp2_with fail
      clear a1
      generalize Value.slice p8 T4.length c8 = ov8 at *
      go_loopw [5, 8] (fun ov iv wr => ∃ (k : Nat) (T : Word), k ≤ hl ∧ iv = .int .i64 k ∧ T = T4 ++ thrsT (S.thrs.take k) ∧ T.length ≤ 80000000 + 20000000 * k ∧ TxO bb w1 ov T wr) (fun _ iv _ => hl - (intOf iv).toNat)
      case atStart => exact ⟨0, T4, Nat.zero_le _, rfl, by simp [thrsT], by have := HL4.out; omega, HT8.out⟩
      case round =>
        obtain ⟨k, T, hk, rfl, hTe, hTl, hwr⟩ := hrel
        have HTE := Lib.hid hTe
        have HT := Lib.hid hwr
        obtain ⟨po', co', hov⟩ := hwr.tx.slice
        subst hov
        obtain ⟨hAr, hEr, hxr, hlr⟩ := HW.out wr (HUPW.out _ _ _ hwr)
        have a1 := (cell_of hxr 1).trans rfl
        have HLR := Lib.hid hlr
        clear hwr hTe hxr hlr hEr
        by_cases hin : k < hl
        · have hiL : k < S.thrs.length := by rw [HHL.out]; exact hin
          obtain ⟨q1, c1, e1, _, hA1⟩ := hAr.thrs
          injection e1 with e11 e12 e13
          subst e11
          clear e12 e13
          obtain ⟨ga, oa, rfl, hA2⟩ := hA1.resolve_left (by intro e; have := congrArg List.length e; rw [hcells_length] at this; simp at this; omega)
          obtain ⟨cn, _⟩ := hcell_name hA2 hiL
          have HKC : Hid (∀ W, Below (rb + 1) w0 W → W.cell? ⟨rb, 1, none⟩ = some (.slice (some ⟨ga, oa, none⟩) hl ch) ∧ (∃ pv cvv, V k = .slice pv (S.thrs.getD k default).ops.length cvv ∧ W.cell? ⟨ga, oa + k * 2 + 1, none⟩ = some (.slice pv (S.thrs.getD k default).ops.length cvv)) ∧ RowAt W (V k) (S.thrs.getD k default).ops.length (ocells (S.thrs.getD k default).ops)) := Lib.hid (fun W hW => by
            obtain ⟨hS, _, hx, _⟩ := HW.out W hW
            obtain ⟨q1, c1, e1, _, hA1⟩ := hS.thrs
            injection e1 with e11 e12 e13
            subst e11
            obtain ⟨gc, oc, e4, hA2⟩ := hA1.resolve_left (by intro e; have := congrArg List.length e; rw [hcells_length] at this; simp at this; omega)
            injection e4 with e4
            injection e4 with e4a e4b
            subst e4a e4b
            obtain ⟨_, x2⟩ := hcell_name hA2 hiL
            obtain ⟨pv, cvv, ev, _, _⟩ := hS.each k hiL
            exact ⟨(cell_of hx 1).trans rfl, ⟨pv, cvv, ev, by rw [← ev]; exact x2⟩, hS.each k hiL⟩)
          have hoz : (S.thrs.getD k default).ops.length ≤ 65536 := HFO.out _ (getD_mem hiL)
          have hnz : (S.thrs.getD k default).name.length ≤ 4000000 := HZ.out.names _ (getD_mem hiL)
          have HOO := Lib.hid (HN.out.ops _ (getD_mem hiL))
          have HSO := Lib.hid (HSY.out _ (getD_mem hiL))
          have HSN := Lib.hid (thrsT_snoc S hiL)
          clear hAr hA1 hA2
          generalize S.thrs.getD k default = t at *
          obtain ⟨tn, ops⟩ := t
          simp only at *
          have hss := size_mk tn
          obtain ⟨T5, hT5⟩ : ∃ T', T' = T ++ (wThread ++ (32 :: tn) ++ [10]) := ⟨_, rfl⟩
          have HT5E := Lib.hid hT5
          have hl5 : T5.length ≤ T.length + (tn.length + 8) := by rw [hT5]; simp [wThread]
          clear hT5
          have q1 : ¬ 9223372036854775807 < 7 + tn.length := by omega
          have q2 : ¬ 9223372036854775807 < 7 + tn.length + 1 := by omega
          go_wp2_with (at_builtin; refine wpList_txo rfl (.tmp 65) (.tmp 73) rfl _ T (wThread ++ (32 :: tn) ++ [10]) T5 rfl HT.out _ rfl ?e2 ?l2 HT5E.out ?_)
          case e2 => (apply ByteArray.ext; apply Array.toList_inj.1; simp [wThread])
          case l2 => (simp [wThread]; omega)
          intro v9 w9 hT9
          have HT9 := Lib.hid hT9
          obtain ⟨p9, c9, hv9⟩ := hT9.tx.slice
          subst hv9
          obtain ⟨k1, ⟨pv, cvv, hev, k2⟩, hrow⟩ := HKC.out w9 (HUPW.out _ _ _ hT9)
          have HOW := Lib.hid (rops_walk N (V k) ops w9 (HW.out w9 (HUPW.out _ _ _ hT9)).2.1 hrow hoz (fun o ho => ⟨HOO.out o ho, HSO.out o ho⟩))
          rw [hev] at HOW
          clear hT9 hev hrow cn a1 q1 q2
          have hlo := opsRuns_len ops HOO.out
          go_wp2_with fail
          refine HOW.out.mono ?_
          rintro e w10 ⟨rfl, hb10⟩
          have HT10 := Lib.hid (HT9.out.up hb10)
          clear hb10 k1 k2 HOW
          generalize hom : opsRuns ops = om at *
          have HOM := Lib.hid hom
          clear hom
          have hss2 := size_mk om
          obtain ⟨T6, hT6⟩ : ∃ T', T' = T5 ++ om := ⟨_, rfl⟩
          have HT6E := Lib.hid hT6
          have hl6 : T6.length ≤ T5.length + om.length := by rw [hT6, List.length_append]; exact Nat.le_refl _
          clear hT6
          go_wp2_with (at_builtin; refine wpList_txo rfl (.tmp 82) (.tmp 83) rfl _ T5 om T6 rfl HT10.out _ rfl rfl ?l3 HT6E.out ?_)
          case l3 => omega
          intro v11 w11 hT11
          have HT11 := Lib.hid hT11
          obtain ⟨p11, c11, hv11⟩ := hT11.tx.slice
          subst hv11
          clear hT11
          go_wp2_with fail
          go_roundw
          case rel => exact ⟨k + 1, T6, by omega, by go_num, by rw [HT6E.out, HT5E.out, HTE.out, HSN.out, ← HOM.out]; simp [thrT], by omega, HT11.out⟩
          case measure => simp [intOf]; omega
        have hke : k = hl := by omega
        subst hke
        have HTF : Hid (T = printF S) := Lib.hid (by
          rw [HTE.out, HT4E.out, HT2E.out, ← HSTE.out]
          unfold printF
          rw [HMO.out, ← HHL.out, List.take_length, HT1N.out])
        have hst := tx_string HT.out.own
        clear hAr hin
        go_wp2_with fail
        refine HPE.out _ _ ?_ HLR.out
        have hrf := HTF.out
        rw [if_pos trivial, ← hrf]
        rfl
end Go.Proofs.YtdmhlhoimaeacaaDoor
