/-
  Merged out of: Bar3 Bar4 Bar5. No condition of its own.
-/
import Derived.Test.YtimkkeomdkbcjaaPlaysP25
set_option linter.unusedVariables false
set_option linter.unusedSimpArgs false
/-
  Words and flags as threads: a step each (printed by gen/bar3.py). No condition of its own.
-/
namespace Go.Proofs.Ytimkkeomdkbcjaa
open Go.Conc Go.RowKit
open Go.ConcN (upd upd_ne upd_same)
theorem Ctx.shift {M : Type} [Priv M] {Rep : M → (Nat → Owner) → World → Prop} {U : Tun} {i : Nat} {own : Nat → Owner} {A : Nat → Prop} {w₀ : W0 M} {w w1 : World} {m m' : M} {ov bv : Nat → Bool} (C : Ctx Rep U i own A w₀ w m ov bv) (hs : w1.heap.size = w.heap.size) (hk : ∀ b, own b ≠ .sh → w1.heap[b]? = w.heap[b]?) (hR : Rep m' own w1) (hp : Priv.get i m' = Priv.get i m) :
    Ctx Rep U i own A w₀ w1 m' ov bv ∧ Frm i own w w1 :=
  ⟨⟨C.lt, C.wf, C.tn.of_blk fun b hb => hk b (by rw [C.tun b hb]; simp), C.tun, hR, fun b hb => C.fresh b (by omega), fun b hb => ⟨(C.mine b hb).1, (hk b (by rw [(C.mine b hb).1]; simp)).trans (C.mine b hb).2⟩, C.bf, hp.trans C.pv⟩, by omega, fun b _ _ h _ => hk b h⟩
theorem set_keeps {w : World} {o : Nat → Owner} {b i : Nat} {v : Value} (h : o b = .sh) : ∀ x, o x ≠ .sh → (w.setCell ⟨b, i, none⟩ v).heap[x]? = w.heap[x]? := fun x hx => Below.heap_setCell _ _ _ _ fun z => hx (by rw [z]; exact h)
theorem addW_in (x y : Int) : In64 (addW x y) := by
  unfold addW IntKind.wrap
  simp only [IntKind.bits, IntKind.signed]
  have h1 := Int.emod_nonneg (x + y) (b := 2 ^ 64) (by decide)
  have h2 := Int.emod_lt_of_pos (x + y) (b := 2 ^ 64) (by decide)
  simp only [Bool.true_and, ge_iff_le, decide_eq_true_eq]
  constructor <;> split <;> omega
section
variable {Y : BL} {U : Tun} {i : Nat} {A : Nat → Prop} {w₀ : W0 BM}
theorem flagLoad_cps {κ : Bool → Fu BM} {c : Frame} {cs : List Frame} (hret : ∀ v, GOF (BRep Y) Try.prog U i (κ v) A w₀ (G (c.finish (.bool v)) cs)) (hend : EndedC Y U i A w₀ c cs) :
    GOF (BRep Y) Try.prog U i (stepF fun m => κ m.al m) A w₀ (G (Frame.enter Try.prog 23 #[.pointer (some ⟨Y.bb, 1, none⟩), stp U i] .normal) (c :: cs)) := by
  refine gof_of fun w m own ov bv C => ?_
  have X := tgo_xc (Rep := BRep Y) (P := Try.prog) (U := U) (i := i) (own := own) (w := w) (ov := ov) (bv := bv) (mc := stepF (fun m => κ m.al m) m)
  replace hret := Lib.hid hret
  replace hend := Lib.hid hend
  rw [enter_at _ Try.func23 rfl]
  simp only [Try.ntmps23, List.size_toArray, List.length_cons, List.length_nil, Nat.reduceAdd, Nat.reduceSub, Array.replicate_succ,
     Array.replicate_zero, List.push_toArray, List.append_toArray, List.nil_append, List.cons_append]
  have hOk := C.seats.okd
  replace X := Lib.hid X
  refine x_seqR X.out fun R0 hR0 => ?_
  refine x_seg X.out prgB (calmCode_of ext_ok (by kernel_rfl)) rfl (calmRes_of Try.func23) rfl C.seats fun wp hp => ?_
  replace hp := Lib.hid hp
  go_wp2_with fail
  refine ⟨w, rfl, hOk, hp.out, ?_⟩
  clear hp wp
  obtain rfl := hR0.out
  clear hR0
  refine x_seqR X.out fun R0 hR0 => ?_
  refine x_seg X.out prgB (calmCode_of ext_ok (by kernel_rfl)) rfl (calmRes_of Try.func23) rfl C.seats fun wp hp => ?_
  replace hp := Lib.hid hp
  go_wp2_with fail
  refine ⟨w, rfl, hOk, hp.out, ?_⟩
  clear hp wp
  obtain rfl := hR0.out
  clear hR0
  refine x_seqR X.out fun R0 hR0 => ?_
  refine x_reg X.out 1 (by decide) (by decide) (calm0 (by kernel_rfl)) C.seats fun wp hp => ?_
  simp only [List.take_succ_cons, List.take_zero]
  replace hp := Lib.hid hp
  go_wp2_with fail
  refine after_same hp.out hOk ?_
  clear hp wp
  refine x_callF X.out rfl rfl (by decide) rfl Try.func39 (by kernel_rfl) (by kernel_rfl) ?_
  walk_nrm
  refine cstep_tgo C (κ := fun m => κ m.al m) (ended_up (calmRes_of Try.func23) rfl rfl hend.out) fun w m own ov bv C => ?_
  rw [Frame.finish_at]
  clear hOk X
  have X := tgo_xc (Rep := BRep Y) (P := Try.prog) (U := U) (i := i) (own := own) (w := w) (ov := ov) (bv := bv) (mc := (fun m => κ m.al m) m)
  have hOk := C.seats.okd
  replace X := Lib.hid X
  refine x_regionEnd X.out ?_
  obtain rfl := hR0.out
  clear hR0
  refine x_seqR X.out fun R0 hR0 => ?_
  refine x_seg X.out prgB (calmCode_of ext_ok (by kernel_rfl)) rfl (calmRes_of Try.func23) rfl C.seats fun wp hp => ?_
  obtain ⟨o2, h2⟩ := C.rep.bb
  have hD : U.D Y.bb = none := C.dmine (by rw [o2]; simp)
  have hc := (simCellT hp _).trans (cellAt h2 1)
  have hf : wp.frozen? ⟨Y.bb, 1, none⟩ = false := by
    unfold World.frozen?
    rw [poi_at hp hD, h2]
    simp
  simp only [List.getElem?_toArray, List.getElem?_cons_zero, List.getElem?_cons_succ] at hc
  have hl := boolLoad Y.bb 1 m.al wp hc
  replace hp := Lib.hid hp
  replace h2 := Lib.hid h2
  clear hc hf
  go_wp2_with (go_at_call 40; refine hl.mono ?_; rintro e w' ⟨rfl, rfl⟩)
  refine ⟨w, rfl, hOk, hp.out, ?_⟩
  obtain rfl := hR0.out
  refine x_ret X.out ?_
  refine x_leave X.out (calmRes_of Try.func23) C.seats ⟨rfl, rfl, rfl, _, Try.func23, results_tmp rfl _ _ _⟩ ?_
  exact tgo_next (BRep.local Y) (hret.out _) C .refl .refl
theorem flagSet_cps {κ : Bool → Fu BM} {c : Frame} {cs : List Frame} (hret : ∀ v, GOF (BRep Y) Try.prog U i (κ v) A w₀ (G (c.finish (.bool v)) cs)) (hend : EndedC Y U i A w₀ c cs) :
    GOF (BRep Y) Try.prog U i (stepF fun m => κ (!m.al) { m with al := true }) A w₀ (G (Frame.enter Try.prog 24 #[.pointer (some ⟨Y.bb, 1, none⟩), stp U i] .normal) (c :: cs)) := by
  have hnot : ∀ (x : Bool) (w : World), (Op.unary .not (.bool x)).run Try.prog w = .ok (.bool (!x)) w := fun _ _ => rfl
  refine gof_of fun w m own ov bv C => ?_
  have X := tgo_xc (Rep := BRep Y) (P := Try.prog) (U := U) (i := i) (own := own) (w := w) (ov := ov) (bv := bv) (mc := stepF (fun m => κ (!m.al) { m with al := true }) m)
  replace hret := Lib.hid hret
  replace hend := Lib.hid hend
  rw [enter_at _ Try.func24 rfl]
  simp only [Try.ntmps24, List.size_toArray, List.length_cons, List.length_nil, Nat.reduceAdd, Nat.reduceSub, Array.replicate_succ,
     Array.replicate_zero, List.push_toArray, List.append_toArray, List.nil_append, List.cons_append]
  have hOk := C.seats.okd
  replace X := Lib.hid X
  refine x_seqR X.out fun R0 hR0 => ?_
  refine x_seg X.out prgB (calmCode_of ext_ok (by kernel_rfl)) rfl (calmRes_of Try.func24) rfl C.seats fun wp hp => ?_
  replace hp := Lib.hid hp
  go_wp2_with fail
  refine ⟨w, rfl, hOk, hp.out, ?_⟩
  clear hp wp
  obtain rfl := hR0.out
  clear hR0
  refine x_seqR X.out fun R0 hR0 => ?_
  refine x_seg X.out prgB (calmCode_of ext_ok (by kernel_rfl)) rfl (calmRes_of Try.func24) rfl C.seats fun wp hp => ?_
  replace hp := Lib.hid hp
  go_wp2_with fail
  refine ⟨w, rfl, hOk, hp.out, ?_⟩
  clear hp wp
  obtain rfl := hR0.out
  clear hR0
  refine x_seqR X.out fun R0 hR0 => ?_
  refine x_reg X.out 1 (by decide) (by decide) (calm0 (by kernel_rfl)) C.seats fun wp hp => ?_
  simp only [List.take_succ_cons, List.take_zero]
  replace hp := Lib.hid hp
  go_wp2_with fail
  refine after_same hp.out hOk ?_
  clear hp wp
  refine x_callF X.out rfl rfl (by decide) rfl Try.func39 (by kernel_rfl) (by kernel_rfl) ?_
  walk_nrm
  refine cstep_tgo C (κ := fun m => κ (!m.al) { m with al := true }) (ended_up (calmRes_of Try.func24) rfl rfl hend.out) fun w m own ov bv C => ?_
  rw [Frame.finish_at]
  clear hOk X
  have X := tgo_xc (Rep := BRep Y) (P := Try.prog) (U := U) (i := i) (own := own) (w := w) (ov := ov) (bv := bv) (mc := (fun m => κ (!m.al) { m with al := true }) m)
  have hOk := C.seats.okd
  replace X := Lib.hid X
  refine x_regionEnd X.out ?_
  obtain rfl := hR0.out
  clear hR0
  refine x_seqR X.out fun R0 hR0 => ?_
  refine x_seg X.out prgB (calmCode_of ext_ok (by kernel_rfl)) rfl (calmRes_of Try.func24) rfl C.seats fun wp hp => ?_
  obtain ⟨o2, h2⟩ := C.rep.bb
  have hD : U.D Y.bb = none := C.dmine (by rw [o2]; simp)
  have hc := (simCellT hp _).trans (cellAt h2 1)
  have hf : wp.frozen? ⟨Y.bb, 1, none⟩ = false := by
    unfold World.frozen?
    rw [poi_at hp hD, h2]
    simp
  simp only [List.getElem?_toArray, List.getElem?_cons_zero, List.getElem?_cons_succ] at hc
  have hl := boolSwapB Y.bb 1 m.al true wp hc hf
  replace hp := Lib.hid hp
  replace h2 := Lib.hid h2
  clear hc hf
  go_wp2_with (go_at_call 41; refine hl.mono ?_; rintro e w' ⟨rfl, rfl⟩)
  have hB := C.rep.alarm true (w' := w.setCell ⟨Y.bb, 1, none⟩ (.int .u32 (bit true))) (by have := putAt h2.out 1 (.int .u32 (bit true)); simpa using this) (fun b hb hne => Below.heap_setCell _ _ _ _ hne)
  obtain ⟨C1, hF⟩ := C.shift (w1 := w.setCell ⟨Y.bb, 1, none⟩ (.int .u32 (bit true))) (by simp [World.setCell]) (set_keeps o2) hB rfl
  refine ⟨w.setCell ⟨Y.bb, 1, none⟩ (.int .u32 (bit true)), rfl, okd_set hOk _ _, (sim_setCell hp.out _ _).re _ _, ?_⟩
  obtain rfl := hR0.out
  refine x_ret X.out ?_
  refine x_leave X.out (calmRes_of Try.func24) C1.seats ⟨rfl, rfl, rfl, _, Try.func24, results_tmp rfl _ _ _⟩ ?_
  exact tgo_next (BRep.local Y) (hret.out _) C1 .refl hF
theorem flagClear_cps {κ : Bool → Fu BM} {c : Frame} {cs : List Frame} (hret : ∀ v, GOF (BRep Y) Try.prog U i (κ v) A w₀ (G (c.finish (.bool v)) cs)) (hend : EndedC Y U i A w₀ c cs) :
    GOF (BRep Y) Try.prog U i (stepF fun m => κ (m.al) { m with al := false }) A w₀ (G (Frame.enter Try.prog 25 #[.pointer (some ⟨Y.bb, 1, none⟩), stp U i] .normal) (c :: cs)) := by
  refine gof_of fun w m own ov bv C => ?_
  have X := tgo_xc (Rep := BRep Y) (P := Try.prog) (U := U) (i := i) (own := own) (w := w) (ov := ov) (bv := bv) (mc := stepF (fun m => κ (m.al) { m with al := false }) m)
  replace hret := Lib.hid hret
  replace hend := Lib.hid hend
  rw [enter_at _ Try.func25 rfl]
  simp only [Try.ntmps25, List.size_toArray, List.length_cons, List.length_nil, Nat.reduceAdd, Nat.reduceSub, Array.replicate_succ,
     Array.replicate_zero, List.push_toArray, List.append_toArray, List.nil_append, List.cons_append]
  have hOk := C.seats.okd
  replace X := Lib.hid X
  refine x_seqR X.out fun R0 hR0 => ?_
  refine x_seg X.out prgB (calmCode_of ext_ok (by kernel_rfl)) rfl (calmRes_of Try.func25) rfl C.seats fun wp hp => ?_
  replace hp := Lib.hid hp
  go_wp2_with fail
  refine ⟨w, rfl, hOk, hp.out, ?_⟩
  clear hp wp
  obtain rfl := hR0.out
  clear hR0
  refine x_seqR X.out fun R0 hR0 => ?_
  refine x_seg X.out prgB (calmCode_of ext_ok (by kernel_rfl)) rfl (calmRes_of Try.func25) rfl C.seats fun wp hp => ?_
  replace hp := Lib.hid hp
  go_wp2_with fail
  refine ⟨w, rfl, hOk, hp.out, ?_⟩
  clear hp wp
  obtain rfl := hR0.out
  clear hR0
  refine x_seqR X.out fun R0 hR0 => ?_
  refine x_reg X.out 1 (by decide) (by decide) (calm0 (by kernel_rfl)) C.seats fun wp hp => ?_
  simp only [List.take_succ_cons, List.take_zero]
  replace hp := Lib.hid hp
  go_wp2_with fail
  refine after_same hp.out hOk ?_
  clear hp wp
  refine x_callF X.out rfl rfl (by decide) rfl Try.func39 (by kernel_rfl) (by kernel_rfl) ?_
  walk_nrm
  refine cstep_tgo C (κ := fun m => κ (m.al) { m with al := false }) (ended_up (calmRes_of Try.func25) rfl rfl hend.out) fun w m own ov bv C => ?_
  rw [Frame.finish_at]
  clear hOk X
  have X := tgo_xc (Rep := BRep Y) (P := Try.prog) (U := U) (i := i) (own := own) (w := w) (ov := ov) (bv := bv) (mc := (fun m => κ (m.al) { m with al := false }) m)
  have hOk := C.seats.okd
  replace X := Lib.hid X
  refine x_regionEnd X.out ?_
  obtain rfl := hR0.out
  clear hR0
  refine x_seqR X.out fun R0 hR0 => ?_
  refine x_seg X.out prgB (calmCode_of ext_ok (by kernel_rfl)) rfl (calmRes_of Try.func25) rfl C.seats fun wp hp => ?_
  obtain ⟨o2, h2⟩ := C.rep.bb
  have hD : U.D Y.bb = none := C.dmine (by rw [o2]; simp)
  have hc := (simCellT hp _).trans (cellAt h2 1)
  have hf : wp.frozen? ⟨Y.bb, 1, none⟩ = false := by
    unfold World.frozen?
    rw [poi_at hp hD, h2]
    simp
  simp only [List.getElem?_toArray, List.getElem?_cons_zero, List.getElem?_cons_succ] at hc
  have hl := boolSwapB Y.bb 1 m.al false wp hc hf
  replace hp := Lib.hid hp
  replace h2 := Lib.hid h2
  clear hc hf
  go_wp2_with (go_at_call 41; refine hl.mono ?_; rintro e w' ⟨rfl, rfl⟩)
  have hB := C.rep.alarm false (w' := w.setCell ⟨Y.bb, 1, none⟩ (.int .u32 (bit false))) (by have := putAt h2.out 1 (.int .u32 (bit false)); simpa using this) (fun b hb hne => Below.heap_setCell _ _ _ _ hne)
  obtain ⟨C1, hF⟩ := C.shift (w1 := w.setCell ⟨Y.bb, 1, none⟩ (.int .u32 (bit false))) (by simp [World.setCell]) (set_keeps o2) hB rfl
  refine ⟨w.setCell ⟨Y.bb, 1, none⟩ (.int .u32 (bit false)), rfl, okd_set hOk _ _, (sim_setCell hp.out _ _).re _ _, ?_⟩
  obtain rfl := hR0.out
  refine x_ret X.out ?_
  refine x_leave X.out (calmRes_of Try.func25) C1.seats ⟨rfl, rfl, rfl, _, Try.func25, results_tmp rfl _ _ _⟩ ?_
  exact tgo_next (BRep.local Y) (hret.out _) C1 .refl hF
theorem wordAdd_cps (hY : Y.Wf) {j : Nat} (hj : j < Y.k) {y : Int} {κ : Int → Fu BM} {c : Frame} {cs : List Frame} (hret : ∀ v, In64 v → GOF (BRep Y) Try.prog U i (κ v) A w₀ (G (c.finish (.int .i64 v)) cs)) (hend : EndedC Y U i A w₀ c cs) :
    GOF (BRep Y) Try.prog U i (stepF fun m => κ (addW (m.wv j) y) { m with wv := upd m.wv j (addW (m.wv j) y) }) A w₀ (G (Frame.enter Try.prog 62 #[.pointer (some ⟨Y.wd j, 0, none⟩), stp U i, .int .i64 y] .normal) (c :: cs)) := by
  refine gof_of fun w m own ov bv C => ?_
  have X := tgo_xc (Rep := BRep Y) (P := Try.prog) (U := U) (i := i) (own := own) (w := w) (ov := ov) (bv := bv) (mc := stepF (fun m => κ (addW (m.wv j) y) { m with wv := upd m.wv j (addW (m.wv j) y) }) m)
  replace hret := Lib.hid hret
  replace hend := Lib.hid hend
  rw [enter_at _ Try.func62 rfl]
  simp only [Try.ntmps62, List.size_toArray, List.length_cons, List.length_nil, Nat.reduceAdd, Nat.reduceSub, Array.replicate_succ,
     Array.replicate_zero, List.push_toArray, List.append_toArray, List.nil_append, List.cons_append]
  have hOk := C.seats.okd
  replace X := Lib.hid X
  refine x_seqR X.out fun R0 hR0 => ?_
  refine x_seg X.out prgB (calmCode_of ext_ok (by kernel_rfl)) rfl (calmRes_of Try.func62) rfl C.seats fun wp hp => ?_
  replace hp := Lib.hid hp
  go_wp2_with fail
  refine ⟨w, rfl, hOk, hp.out, ?_⟩
  clear hp wp
  obtain rfl := hR0.out
  clear hR0
  refine x_seqR X.out fun R0 hR0 => ?_
  refine x_seg X.out prgB (calmCode_of ext_ok (by kernel_rfl)) rfl (calmRes_of Try.func62) rfl C.seats fun wp hp => ?_
  replace hp := Lib.hid hp
  go_wp2_with fail
  refine ⟨w, rfl, hOk, hp.out, ?_⟩
  clear hp wp
  obtain rfl := hR0.out
  clear hR0
  refine x_seqR X.out fun R0 hR0 => ?_
  refine x_reg X.out 1 (by decide) (by decide) (calm0 (by kernel_rfl)) C.seats fun wp hp => ?_
  simp only [List.take_succ_cons, List.take_zero]
  replace hp := Lib.hid hp
  go_wp2_with fail
  refine after_same hp.out hOk ?_
  clear hp wp
  refine x_callF X.out rfl rfl (by decide) rfl Try.func39 (by kernel_rfl) (by kernel_rfl) ?_
  walk_nrm
  refine cstep_tgo C (κ := fun m => κ (addW (m.wv j) y) { m with wv := upd m.wv j (addW (m.wv j) y) }) (ended_up (calmRes_of Try.func62) rfl rfl hend.out) fun w m own ov bv C => ?_
  rw [Frame.finish_at]
  clear hOk X
  have X := tgo_xc (Rep := BRep Y) (P := Try.prog) (U := U) (i := i) (own := own) (w := w) (ov := ov) (bv := bv) (mc := (fun m => κ (addW (m.wv j) y) { m with wv := upd m.wv j (addW (m.wv j) y) }) m)
  have hOk := C.seats.okd
  replace X := Lib.hid X
  refine x_regionEnd X.out ?_
  obtain rfl := hR0.out
  clear hR0
  refine x_seqR X.out fun R0 hR0 => ?_
  refine x_seg X.out prgB (calmCode_of ext_ok (by kernel_rfl)) rfl (calmRes_of Try.func62) rfl C.seats fun wp hp => ?_
  obtain ⟨o2, h2, h3⟩ := C.rep.wd j hj
  have hD : U.D (Y.wd j) = none := C.dmine (by rw [o2]; simp)
  have hc := (simCellT hp _).trans (cellAt h2 0)
  have hf : wp.frozen? ⟨Y.wd j, 0, none⟩ = false := by
    unfold World.frozen?
    rw [poi_at hp hD, h2]
    simp
  simp only [List.getElem?_toArray, List.getElem?_cons_zero, List.getElem?_cons_succ] at hc
  have hl := wordAdd (Y.wd j) (m.wv j) y wp hc hf
  replace hp := Lib.hid hp
  replace h2 := Lib.hid h2
  clear hc hf
  go_wp2_with (go_at_call 67; refine hl.mono ?_; rintro e w' ⟨rfl, rfl⟩)
  have hB := C.rep.put hY hj (addW_in _ _) (w' := w.setCell ⟨Y.wd j, 0, none⟩ (.int .i64 (addW (m.wv j) y))) (by have := putAt h2.out 0 (.int .i64 (addW (m.wv j) y)); simpa using this) (fun b hb hne => Below.heap_setCell _ _ _ _ hne)
  obtain ⟨C1, hF⟩ := C.shift (w1 := w.setCell ⟨Y.wd j, 0, none⟩ (.int .i64 (addW (m.wv j) y))) (by simp [World.setCell]) (set_keeps o2) hB rfl
  refine ⟨w.setCell ⟨Y.wd j, 0, none⟩ (.int .i64 (addW (m.wv j) y)), rfl, okd_set hOk _ _, sim_setCell hp.out _ _, ?_⟩
  obtain rfl := hR0.out
  refine x_ret X.out ?_
  refine x_leave X.out (calmRes_of Try.func62) C1.seats ⟨rfl, rfl, rfl, _, Try.func62, results_tmp rfl _ _ _⟩ ?_
  exact tgo_next (BRep.local Y) (hret.out _ (addW_in _ _)) C1 .refl hF
theorem wordStore_cps (hY : Y.Wf) {j : Nat} (hj : j < Y.k) {y : Int} (hy : In64 y) {κ : Fu BM} {c : Frame} {cs : List Frame} (hret : GOF (BRep Y) Try.prog U i κ A w₀ (G (c.finish (.tuple #[])) cs)) (hend : EndedC Y U i A w₀ c cs) :
    GOF (BRep Y) Try.prog U i (stepF fun m => κ { m with wv := upd m.wv j y }) A w₀ (G (Frame.enter Try.prog 61 #[.pointer (some ⟨Y.wd j, 0, none⟩), stp U i, .int .i64 y] .normal) (c :: cs)) := by
  replace hy := Lib.hid hy
  refine gof_of fun w m own ov bv C => ?_
  have X := tgo_xc (Rep := BRep Y) (P := Try.prog) (U := U) (i := i) (own := own) (w := w) (ov := ov) (bv := bv) (mc := stepF (fun m => κ { m with wv := upd m.wv j y }) m)
  replace hret := Lib.hid hret
  replace hend := Lib.hid hend
  rw [enter_at _ Try.func61 rfl]
  simp only [Try.ntmps61, List.size_toArray, List.length_cons, List.length_nil, Nat.reduceAdd, Nat.reduceSub, Array.replicate_succ,
     Array.replicate_zero, List.push_toArray, List.append_toArray, List.nil_append, List.cons_append]
  have hOk := C.seats.okd
  replace X := Lib.hid X
  refine x_seqR X.out fun R0 hR0 => ?_
  refine x_seg X.out prgB (calmCode_of ext_ok (by kernel_rfl)) rfl (calmRes_of Try.func61) rfl C.seats fun wp hp => ?_
  replace hp := Lib.hid hp
  go_wp2_with fail
  refine ⟨w, rfl, hOk, hp.out, ?_⟩
  clear hp wp
  obtain rfl := hR0.out
  clear hR0
  refine x_cond X.out (t := true) rfl ?_
  refine x_seqR X.out fun R0 hR0 => ?_
  refine x_reg X.out 1 (by decide) (by decide) (calm0 (by kernel_rfl)) C.seats fun wp hp => ?_
  simp only [List.take_succ_cons, List.take_zero]
  replace hp := Lib.hid hp
  go_wp2_with fail
  refine after_same hp.out hOk ?_
  clear hp wp
  refine x_callF X.out rfl rfl (by decide) rfl Try.func39 (by kernel_rfl) (by kernel_rfl) ?_
  walk_nrm
  refine cstep_tgo C (κ := fun m => κ { m with wv := upd m.wv j y }) (ended_up (calmRes_of Try.func61) rfl rfl hend.out) fun w m own ov bv C => ?_
  rw [Frame.finish_at]
  clear hOk X
  have X := tgo_xc (Rep := BRep Y) (P := Try.prog) (U := U) (i := i) (own := own) (w := w) (ov := ov) (bv := bv) (mc := (fun m => κ { m with wv := upd m.wv j y }) m)
  have hOk := C.seats.okd
  replace X := Lib.hid X
  refine x_regionEnd X.out ?_
  obtain rfl := hR0.out
  clear hR0
  refine x_seg X.out prgB (calmCode_of ext_ok (by kernel_rfl)) rfl (calmRes_of Try.func61) rfl C.seats fun wp hp => ?_
  obtain ⟨o2, h2, h3⟩ := C.rep.wd j hj
  have hD : U.D (Y.wd j) = none := C.dmine (by rw [o2]; simp)
  have hc := (simCellT hp _).trans (cellAt h2 0)
  have hf : wp.frozen? ⟨Y.wd j, 0, none⟩ = false := by
    unfold World.frozen?
    rw [poi_at hp hD, h2]
    simp
  simp only [List.getElem?_toArray, List.getElem?_cons_zero, List.getElem?_cons_succ] at hc
  have hl := wordStore (Y.wd j) (m.wv j) y wp hc hf
  replace hp := Lib.hid hp
  replace h2 := Lib.hid h2
  clear hc hf
  go_wp2_with (go_at_call 55; refine hl.mono ?_; rintro e w' ⟨rfl, rfl⟩)
  have hB := C.rep.put hY hj hy.out (w' := w.setCell ⟨Y.wd j, 0, none⟩ (.int .i64 y)) (by have := putAt h2.out 0 (.int .i64 y); simpa using this) (fun b hb hne => Below.heap_setCell _ _ _ _ hne)
  obtain ⟨C1, hF⟩ := C.shift (w1 := w.setCell ⟨Y.wd j, 0, none⟩ (.int .i64 y)) (by simp [World.setCell]) (set_keeps o2) hB rfl
  refine ⟨w.setCell ⟨Y.wd j, 0, none⟩ (.int .i64 y), rfl, okd_set hOk _ _, sim_setCell hp.out _ _, ?_⟩
  refine x_end X.out ?_
  refine x_leave X.out (calmRes_of Try.func61) C1.seats ⟨rfl, rfl, rfl, _, Try.func61, results_none rfl _ _ _⟩ ?_
  exact tgo_next (BRep.local Y) hret.out C1 .refl hF
end
end Go.Proofs.Ytimkkeomdkbcjaa

/-
  A call by an interface; the barrier's small functions as threads. No condition of its own.
-/
namespace Go.Proofs.Ytimkkeomdkbcjaa
open Go.Conc Go.RowKit
open Go.ConcN (upd upd_ne upd_same)
section
variable {P : Program} {main : Bool} {K : World → Prop} {Still : Loc → Prop} {Inb : Nat → Option Seat} {GO : Goroutine → World → Prop} {b : Frame} {a : Act} {k : List Item} {cs : List Frame} {w : World} {ops : Array Oper} {i : Nat} {rest : List Nat} {o : Oper}
theorem x_callI (X : XC P main K Still Inb GO) {f : FuncId} {fn : Func} {x : Operand} {name : String} {t : TypeId} {v rv : Value} {args : Array Operand} {ats : Array TypeId} (ho : ops[i]? = some o) (hw : Region.wanted o (yielded ops a.tmps) = true) (hk : b.kind ≠ .early)
    (hop : o.op = .call { callee := .invoke x name, args, argTypes := ats }) (hx : a.eval x = .iface t v) (hm : ∀ w, (method (P.types.size + Made.depth) t v name).runT P w #[] = (.ok (f, rv) w, #[])) (hf : P.funcs[f]? = some fn) (hname : (fn.name == "runtime.NumGoroutine") = false) (hb : fn.body.isNone = false)
    (h : GO (G (Frame.enter P f (#[rv] ++ args.map a.eval) .normal) (b.at a (.inRegion ops (i :: rest) :: k) :: cs)) w) : GO (G (b.at a (.inRegion ops (i :: rest) :: k)) cs) w := by
  have h1 : ¬ fn.name = "runtime.NumGoroutine" := by simpa using hname
  have h2 : ¬ fn.body = none := by cases hx : fn.body <;> simp_all
  have hr1 : ∀ w, (method (P.types.size + Made.depth) t v name).run P w = .ok (f, rv) w := fun w => by rw [← run_of_runT (es := #[]), hm]
  have hr2 : ∀ w, (method (P.types.size + Made.depth) t v name).events P w #[] = #[] := fun w => by have := congrArg Prod.snd (hm w); rwa [Sem.runT_eq] at this
  have e0 : (#[Value.iface t v] ++ Array.map a.eval args)[0]? = some (.iface t v) := by
    rw [Array.getElem?_append_left (by simp)]; rfl
  have e1 : (Array.map a.eval args).extract 0 args.size = Array.map a.eval args := by
    have : args.size = (Array.map a.eval args).size := by simp
    rw [this, Array.extract_size]
  refine x_call X ho hw hk (fun w => runT_pure (r := Result.ok (Next.enter f (#[rv] ++ args.map a.eval)) w) ?_ ?_) h
  · unfold execOp
    simp [hop, resolve, Deferred.ofValue, invoke, callMethod, callFunc, hf, h1, h2, hx, hr1, hr2, e0, e1]
  · unfold execOp
    simp [hop, resolve, Deferred.ofValue, invoke, callMethod, callFunc, hf, h1, h2, hx, hr1, hr2, e0, e1]
end
theorem method_word (a : Addr) (w : World) : (method (Try.prog.types.size + Made.depth) 104 (.pointer (some a)) "Load").runT Try.prog w #[] = (.ok (91, .pointer (some a)) w, #[]) := by kernel_rfl
section
variable {Y : BL} {U : Tun} {i : Nat} {A : Nat → Prop} {w₀ : W0 BM}
theorem alerted_cps {κ : Bool → Fu BM} {c : Frame} {cs : List Frame} (hret : ∀ v, GOF (BRep Y) Try.prog U i (κ v) A w₀ (G (c.finish (.bool v)) cs)) (hend : EndedC Y U i A w₀ c cs) :
    GOF (BRep Y) Try.prog U i (stepF fun m => κ m.al m) A w₀ (G (Frame.enter Try.prog 13 #[.pointer (some ⟨Y.bb, 0, none⟩), stp U i] .normal) (c :: cs)) := by
  refine gof_of fun w m own ov bv C => ?_
  have X := tgo_xc (Rep := BRep Y) (P := Try.prog) (U := U) (i := i) (own := own) (w := w) (ov := ov) (bv := bv) (mc := stepF (fun m => κ m.al m) m)
  replace hret := Lib.hid hret
  replace hend := Lib.hid hend
  rw [enter_at _ Try.func13 rfl]
  simp only [Try.ntmps13, List.size_toArray, List.length_cons, List.length_nil, Nat.reduceAdd, Nat.reduceSub, Array.replicate_succ,
     Array.replicate_zero, List.push_toArray, List.append_toArray, List.nil_append, List.cons_append]
  have hOk := C.seats.okd
  replace X := Lib.hid X
  refine x_seqR X.out fun R0 hR0 => ?_
  refine x_seg X.out prgB (calmCode_of ext_ok (by kernel_rfl)) rfl (calmRes_of Try.func13) rfl C.seats fun wp hp => ?_
  replace hp := Lib.hid hp
  go_wp2_with fail
  refine ⟨w, rfl, hOk, hp.out, ?_⟩
  clear hp wp
  obtain rfl := hR0.out
  clear hR0
  refine x_seqR X.out fun R0 hR0 => ?_
  refine x_reg X.out 7 (by decide) (by decide) (calm0 (by kernel_rfl)) C.seats fun wp hp => ?_
  simp only [List.take_succ_cons, List.take_zero]
  replace hp := Lib.hid hp
  go_wp2_with fail
  refine after_same hp.out hOk ?_
  clear hp wp
  refine x_callF X.out rfl rfl (by decide) rfl Try.func23 (by kernel_rfl) (by kernel_rfl) ?_
  walk_nrm
  refine tgo_next (BRep.local Y) (flagLoad_cps (κ := κ) (fun v => gof_of fun w m own ov bv C => ?_) (ended_up (calmRes_of Try.func13) rfl rfl hend.out)) C .refl .refl
  rw [Frame.finish_at]
  clear hOk X
  have X := tgo_xc (Rep := BRep Y) (P := Try.prog) (U := U) (i := i) (own := own) (w := w) (ov := ov) (bv := bv) (mc := κ v m)
  have hOk := C.seats.okd
  replace X := Lib.hid X
  walk_nrm
  refine x_more X.out 8 2 (by decide) (by decide) (calm0 (by kernel_rfl)) C.seats fun wp hp => ?_
  simp only [List.drop_succ_cons, List.drop_zero, List.take_succ_cons, List.take_zero]
  replace hp := Lib.hid hp
  go_wp2_with fail
  refine after_same hp.out hOk ?_
  refine x_regionEnd X.out ?_
  obtain rfl := hR0.out
  refine x_ret X.out ?_
  refine x_leave X.out (calmRes_of Try.func13) C.seats ⟨rfl, rfl, rfl, _, Try.func13, results_tmp rfl _ _ _⟩ ?_
  exact tgo_next (BRep.local Y) (hret.out v) C .refl .refl
theorem alert_cps {κ : Bool → Fu BM} {c : Frame} {cs : List Frame} (hret : ∀ v, GOF (BRep Y) Try.prog U i (κ v) A w₀ (G (c.finish (.bool v)) cs)) (hend : EndedC Y U i A w₀ c cs) :
    GOF (BRep Y) Try.prog U i (stepF fun m => κ (!m.al) { m with al := true }) A w₀ (G (Frame.enter Try.prog 14 #[.pointer (some ⟨Y.bb, 0, none⟩), stp U i] .normal) (c :: cs)) := by
  refine gof_of fun w m own ov bv C => ?_
  have X := tgo_xc (Rep := BRep Y) (P := Try.prog) (U := U) (i := i) (own := own) (w := w) (ov := ov) (bv := bv) (mc := stepF (fun m => κ (!m.al) { m with al := true }) m)
  replace hret := Lib.hid hret
  replace hend := Lib.hid hend
  rw [enter_at _ Try.func14 rfl]
  simp only [Try.ntmps14, List.size_toArray, List.length_cons, List.length_nil, Nat.reduceAdd, Nat.reduceSub, Array.replicate_succ,
     Array.replicate_zero, List.push_toArray, List.append_toArray, List.nil_append, List.cons_append]
  have hOk := C.seats.okd
  replace X := Lib.hid X
  refine x_seqR X.out fun R0 hR0 => ?_
  refine x_seg X.out prgB (calmCode_of ext_ok (by kernel_rfl)) rfl (calmRes_of Try.func14) rfl C.seats fun wp hp => ?_
  replace hp := Lib.hid hp
  go_wp2_with fail
  refine ⟨w, rfl, hOk, hp.out, ?_⟩
  clear hp wp
  obtain rfl := hR0.out
  clear hR0
  refine x_seqR X.out fun R0 hR0 => ?_
  refine x_reg X.out 7 (by decide) (by decide) (calm0 (by kernel_rfl)) C.seats fun wp hp => ?_
  simp only [List.take_succ_cons, List.take_zero]
  replace hp := Lib.hid hp
  go_wp2_with fail
  refine after_same hp.out hOk ?_
  clear hp wp
  refine x_callF X.out rfl rfl (by decide) rfl Try.func24 (by kernel_rfl) (by kernel_rfl) ?_
  walk_nrm
  refine tgo_next (BRep.local Y) (flagSet_cps (κ := κ) (fun v => gof_of fun w m own ov bv C => ?_) (ended_up (calmRes_of Try.func14) rfl rfl hend.out)) C .refl .refl
  rw [Frame.finish_at]
  clear hOk X
  have X := tgo_xc (Rep := BRep Y) (P := Try.prog) (U := U) (i := i) (own := own) (w := w) (ov := ov) (bv := bv) (mc := κ v m)
  have hOk := C.seats.okd
  replace X := Lib.hid X
  walk_nrm
  refine x_more X.out 8 2 (by decide) (by decide) (calm0 (by kernel_rfl)) C.seats fun wp hp => ?_
  simp only [List.drop_succ_cons, List.drop_zero, List.take_succ_cons, List.take_zero]
  replace hp := Lib.hid hp
  go_wp2_with fail
  refine after_same hp.out hOk ?_
  refine x_regionEnd X.out ?_
  obtain rfl := hR0.out
  refine x_ret X.out ?_
  refine x_leave X.out (calmRes_of Try.func14) C.seats ⟨rfl, rfl, rfl, _, Try.func14, results_tmp rfl _ _ _⟩ ?_
  exact tgo_next (BRep.local Y) (hret.out v) C .refl .refl
theorem clear_cps {κ : Bool → Fu BM} {c : Frame} {cs : List Frame} (hret : ∀ v, GOF (BRep Y) Try.prog U i (κ v) A w₀ (G (c.finish (.bool v)) cs)) (hend : EndedC Y U i A w₀ c cs) :
    GOF (BRep Y) Try.prog U i (stepF fun m => κ m.al { m with al := false }) A w₀ (G (Frame.enter Try.prog 15 #[.pointer (some ⟨Y.bb, 0, none⟩), stp U i] .normal) (c :: cs)) := by
  refine gof_of fun w m own ov bv C => ?_
  have X := tgo_xc (Rep := BRep Y) (P := Try.prog) (U := U) (i := i) (own := own) (w := w) (ov := ov) (bv := bv) (mc := stepF (fun m => κ m.al { m with al := false }) m)
  replace hret := Lib.hid hret
  replace hend := Lib.hid hend
  rw [enter_at _ Try.func15 rfl]
  simp only [Try.ntmps15, List.size_toArray, List.length_cons, List.length_nil, Nat.reduceAdd, Nat.reduceSub, Array.replicate_succ,
     Array.replicate_zero, List.push_toArray, List.append_toArray, List.nil_append, List.cons_append]
  have hOk := C.seats.okd
  replace X := Lib.hid X
  refine x_seqR X.out fun R0 hR0 => ?_
  refine x_seg X.out prgB (calmCode_of ext_ok (by kernel_rfl)) rfl (calmRes_of Try.func15) rfl C.seats fun wp hp => ?_
  replace hp := Lib.hid hp
  go_wp2_with fail
  refine ⟨w, rfl, hOk, hp.out, ?_⟩
  clear hp wp
  obtain rfl := hR0.out
  clear hR0
  refine x_seqR X.out fun R0 hR0 => ?_
  refine x_reg X.out 7 (by decide) (by decide) (calm0 (by kernel_rfl)) C.seats fun wp hp => ?_
  simp only [List.take_succ_cons, List.take_zero]
  replace hp := Lib.hid hp
  go_wp2_with fail
  refine after_same hp.out hOk ?_
  clear hp wp
  refine x_callF X.out rfl rfl (by decide) rfl Try.func25 (by kernel_rfl) (by kernel_rfl) ?_
  walk_nrm
  refine tgo_next (BRep.local Y) (flagClear_cps (κ := κ) (fun v => gof_of fun w m own ov bv C => ?_) (ended_up (calmRes_of Try.func15) rfl rfl hend.out)) C .refl .refl
  rw [Frame.finish_at]
  clear hOk X
  have X := tgo_xc (Rep := BRep Y) (P := Try.prog) (U := U) (i := i) (own := own) (w := w) (ov := ov) (bv := bv) (mc := κ v m)
  have hOk := C.seats.okd
  replace X := Lib.hid X
  walk_nrm
  refine x_more X.out 8 2 (by decide) (by decide) (calm0 (by kernel_rfl)) C.seats fun wp hp => ?_
  simp only [List.drop_succ_cons, List.drop_zero, List.take_succ_cons, List.take_zero]
  replace hp := Lib.hid hp
  go_wp2_with fail
  refine after_same hp.out hOk ?_
  refine x_regionEnd X.out ?_
  obtain rfl := hR0.out
  refine x_ret X.out ?_
  refine x_leave X.out (calmRes_of Try.func15) C.seats ⟨rfl, rfl, rfl, _, Try.func15, results_tmp rfl _ _ _⟩ ?_
  exact tgo_next (BRep.local Y) (hret.out v) C .refl .refl
end
end Go.Proofs.Ytimkkeomdkbcjaa

/-
  Limit, as a thread. No condition of its own.
-/
namespace Go.Proofs.Ytimkkeomdkbcjaa
open Go.Conc Go.RowKit
open Go.ConcN (upd upd_ne upd_same)
noncomputable def c12 : Code := (Try.f12.body).getD .skip
def A12 (x : Nat → Value) : Act := ⟨#[x 0, x 1, x 2, x 3, x 4, x 5, x 6, x 7, x 8, x 9, x 10, x 11, x 12, x 13, x 14, x 15, x 16, x 17, x 18, x 19, x 20, x 21, x 22, x 23, x 24, x 25, x 26, x 27, x 28, x 29, x 30, x 31, x 32, x 33, x 34, x 35, x 36, x 37, x 38, x 39, x 40, x 41, x 42], []⟩
theorem a12_of (l : Array Value) (hl : l.size = 43) : (⟨l, []⟩ : Act) = A12 fun j => l.getD j undef := by
  have e : ∀ x : Nat → Value, (A12 x).tmps = ((List.range 43).map x).toArray := fun x => rfl
  have h1 : l = (A12 fun j => l.getD j undef).tmps := by
    rw [e]
    apply Array.ext_getElem?
    intro i
    by_cases h : i < 43
    · have h' : i < l.size := by omega
      simp [h, h', List.getElem?_range]
    · have h' : ¬ i < l.size := by omega
      rw [Array.getElem?_eq_none (by omega), Array.getElem?_eq_none (by simp; omega)]
  exact congrArg (Act.mk · []) h1
def bodyL : Code → Code := fun c => cA (cA (cB (cA (cB (cB (cB c))))))
def limL (κ : Int → Fu BM) : Nat → Nat → Int → Fu BM
  | 0, _, n => κ n
  | r + 1, j, n => stepF fun m => limL κ r (j + 1) (min n (m.wv j)) m
def limF (k : Nat) (κ : Int → Fu BM) : Fu BM := if k = 0 then κ (-1) else stepF fun m => limL κ (k - 1) 1 (m.wv 0) m
section
variable {Y : BL} {U : Tun} {i : Nat} {A : Nat → Prop} {w₀ : W0 BM}
set_option maxRecDepth 100000 in
set_option maxHeartbeats 1000000 in
theorem limit_loop (hY : Y.Wf) {κ : Int → Fu BM} {c : Frame} {cs : List Frame} (hend : EndedC Y U i A w₀ c cs) {R : List Item} {f cp : Nat} (hf : 1 < Y.k → f = 1)
    (hret : ∀ v x, In64 v → x 5 = .int .i64 v → GOF (BRep Y) Try.prog U i (κ v) A w₀ (G ((base 12).at (A12 x) R) (c :: cs))) : ∀ (r j : Nat) (n : Int) (x : Nat → Value) w m own ov bv, Ctx (BRep Y) U i own A w₀ w m ov bv → j + r = Y.k → 0 < j → In64 n →
      x 1 = stp U i → x 5 = .int .i64 n → x 30 = .slice (some ⟨Y.sa, f, none⟩) (Y.k - 1) cp → x 31 = .int .i64 (Y.k - 1 : Nat) → x 32 = .int .i64 (j - 1 : Nat) →
      TGO (BRep Y) Try.prog U i own w (limL κ r j n m) ov bv (G ((base 12).at (A12 x) (.code (bodyL c12) :: .inLoop (bodyL c12) :: .inBlock 0 :: R)) (c :: cs)) w := by
  intro r
  induction r with
  | zero =>
    intro j n x w m own ov bv C hj hj0 hn h1 h5 h30 h31 h32
    have X := tgo_xc (Rep := BRep Y) (P := Try.prog) (U := U) (i := i) (own := own) (w := w) (ov := ov) (bv := bv) (mc := limL κ 0 j n m)
    have hOk := C.seats.okd
    replace X := Lib.hid X
    refine x_seqB X.out rfl fun R0 hR0 => ?_
    rw [show cA (bodyL c12) = Code.region _ _ _ from rfl]
    refine x_seg X.out prgB (calmCode_of ext_ok (by kernel_rfl)) rfl (calmRes_of Try.func12) rfl C.seats fun wp hp => ?_
    replace hp := Lib.hid hp
    have e1 : ¬ ((j - 1 : Nat) : Int) < ((Y.k - 1 : Nat) : Int) := by omega
    unfold A12
    simp only [h1, h5, h30, h31, h32]
    go_wp2_with fail
    refine ⟨w, rfl, hOk, hp.out, ?_⟩
    obtain rfl := hR0.out
    clear hR0
    refine x_seqB X.out rfl fun R0 hR0 => ?_
    rw [show cA (cB (bodyL c12)) = Code.cond _ _ _ from rfl]
    refine x_cond X.out (t := false) rfl ?_
    obtain rfl := hR0.out
    refine x_exit X.out rfl ?_
    rw [a12_of _ rfl]
    exact tgo_next (BRep.local Y) (hret n _ hn rfl) C .refl .refl
  | succ r ih =>
    intro j n x w m own ov bv C hj hj0 hn h1 h5 h30 h31 h32
    have X := tgo_xc (Rep := BRep Y) (P := Try.prog) (U := U) (i := i) (own := own) (w := w) (ov := ov) (bv := bv) (mc := limL κ (r + 1) j n m)
    have hOk := C.seats.okd
    replace X := Lib.hid X
    replace ih := Lib.hid ih
    refine x_seqB X.out rfl fun R0 hR0 => ?_
    rw [show cA (bodyL c12) = Code.region _ _ _ from rfl]
    refine x_seg X.out prgB (calmCode_of ext_ok (by kernel_rfl)) rfl (calmRes_of Try.func12) rfl C.seats fun wp hp => ?_
    replace hp := Lib.hid hp
    have e1 : ((j - 1 : Nat) : Int) < ((Y.k - 1 : Nat) : Int) := by omega
    unfold A12
    simp only [h1, h5, h30, h31, h32]
    go_wp2_with fail
    refine ⟨w, rfl, hOk, hp.out, ?_⟩
    clear hp wp
    obtain rfl := hR0.out
    clear hR0
    refine x_seqB X.out rfl fun R0 hR0 => ?_
    rw [show cA (cB (bodyL c12)) = Code.cond _ _ _ from rfl]
    refine x_cond X.out (t := true) rfl ?_
    refine x_skip X.out ?_
    obtain rfl := hR0.out
    clear hR0
    refine x_seqB X.out rfl fun R0 hR0 => ?_
    rw [show cA (cB (cB (bodyL c12))) = Code.block _ _ from rfl]
    refine x_block X.out ?_
    refine x_seqR X.out fun R1 hR1 => ?_
    refine x_seg X.out prgB (calmCode_of ext_ok (by kernel_rfl)) rfl (calmRes_of Try.func12) rfl C.seats fun wp hp => ?_
    have hjk : j < Y.k := by omega
    obtain rfl : f = 1 := hf (by omega)
    have hk0 : 0 < Y.k := by omega
    have hS : wp.cell? ⟨Y.sa, 1 + (j - 1), none⟩ = some (.iface 104 (.pointer (some ⟨Y.wd j, 0, none⟩))) := by
      obtain ⟨_, x, q1, q2⟩ := C.rep.sa hk0
      rw [show 1 + (j - 1) = j by omega]
      exact (simCellT hp _).trans ((cellAt q1 j).trans (q2 j hjk))
    have q0 : (0 : Int) ≤ ((j - 1 : Nat) : Int) := by omega
    replace hp := Lib.hid hp
    go_wp2_with fail
    refine ⟨w, rfl, hOk, hp.out, ?_⟩
    clear hp wp hS
    obtain rfl := hR1.out
    clear hR1
    refine x_reg X.out 3 (by decide) (by decide) (calm0 (by kernel_rfl)) C.seats fun wp hp => ?_
    simp only [List.take_succ_cons, List.take_zero]
    replace hp := Lib.hid hp
    go_wp2_with fail
    refine after_same hp.out hOk ?_
    clear hp wp
    refine x_callI X.out rfl rfl (by decide) rfl rfl (method_word _) Try.func91 (by kernel_rfl) (by kernel_rfl) ?_
    walk_nrm
    refine tgo_next (BRep.local Y) (load_cps (Y := Y) (j := j) hjk (κ := fun v => limL κ r (j + 1) (min n v)) (fun v hv => gof_of fun w m own ov bv C => ?_) (ended_up (calmRes_of Try.func12) rfl rfl hend)) C .refl .refl
    rw [Frame.finish_at]
    clear hOk X
    have X := tgo_xc (Rep := BRep Y) (P := Try.prog) (U := U) (i := i) (own := own) (w := w) (ov := ov) (bv := bv) (mc := limL κ r (j + 1) (min n v) m)
    have hOk := C.seats.okd
    replace X := Lib.hid X
    walk_nrm
    have hkk := hY.kk
    have qq : IntKind.i64.wrap (((j - 1 : Nat) : Int) + 1) = ((j : Nat) : Int) := by rw [IntKind.wrap_i64] <;> omega
    by_cases hnv : n ≤ v
    · rw [Int.min_eq_left hnv] at X ⊢
      refine x_more X.out 4 2 (by decide) (by decide) (calm0 (by kernel_rfl)) C.seats fun wp hp => ?_
      simp only [List.drop_succ_cons, List.drop_zero, List.take_succ_cons, List.take_zero]
      replace hp := Lib.hid hp
      go_wp2_with fail
      refine after_same hp.out hOk ?_
      clear hp wp
      refine x_regionEnd X.out ?_
      refine x_inBlock X.out ?_
      obtain rfl := hR0.out
      rw [show cB (cB (cB (bodyL c12))) = Code.region _ _ _ from rfl]
      refine x_seg X.out prgB (calmCode_of ext_ok (by kernel_rfl)) rfl (calmRes_of Try.func12) rfl C.seats fun wp hp => ?_
      replace hp := Lib.hid hp
      go_wp2_with fail
      refine ⟨w, rfl, hOk, hp.out, ?_⟩
      refine x_inLoop X.out ?_
      rw [a12_of _ rfl]
      exact ih.out (j + 1) _ _ _ _ _ _ _ C (by omega) (by omega) hn rfl rfl rfl rfl rfl
    · rw [Int.min_eq_right (by omega)] at X ⊢
      refine x_more X.out 4 2 (by decide) (by decide) (calm0 (by kernel_rfl)) C.seats fun wp hp => ?_
      simp only [List.drop_succ_cons, List.drop_zero, List.take_succ_cons, List.take_zero]
      replace hp := Lib.hid hp
      go_wp2_with fail
      refine after_same hp.out hOk ?_
      clear hp wp
      refine x_regionEnd X.out ?_
      refine x_inBlock X.out ?_
      obtain rfl := hR0.out
      rw [show cB (cB (cB (bodyL c12))) = Code.region _ _ _ from rfl]
      refine x_seg X.out prgB (calmCode_of ext_ok (by kernel_rfl)) rfl (calmRes_of Try.func12) rfl C.seats fun wp hp => ?_
      replace hp := Lib.hid hp
      go_wp2_with fail
      refine ⟨w, rfl, hOk, hp.out, ?_⟩
      refine x_inLoop X.out ?_
      rw [a12_of _ rfl]
      exact ih.out (j + 1) _ _ _ _ _ _ _ C (by omega) (by omega) hv rfl rfl rfl rfl rfl
theorem limit_end {κ : Int → Fu BM} {c : Frame} {cs : List Frame} (hret : ∀ v, In64 v → GOF (BRep Y) Try.prog U i (κ v) A w₀ (G (c.finish (.int .i64 v)) cs)) (v : Int) (x : Nat → Value) (hv : In64 v) (h5 : x 5 = .int .i64 v) {R : List Item} (hR : R = [.code (cB (cB (cB (cB c12))))]) :
    GOF (BRep Y) Try.prog U i (κ v) A w₀ (G ((base 12).at (A12 x) R) (c :: cs)) := by
  refine gof_of fun w m own ov bv C => ?_
  have X := tgo_xc (Rep := BRep Y) (P := Try.prog) (U := U) (i := i) (own := own) (w := w) (ov := ov) (bv := bv) (mc := κ v m)
  have hOk := C.seats.okd
  replace X := Lib.hid X
  rw [hR]
  refine x_seqB X.out rfl fun R0 hR0 => ?_
  rw [show cA (cB (cB (cB (cB c12)))) = Code.region _ _ _ from rfl]
  refine x_seg X.out prgB (calmCode_of ext_ok (by kernel_rfl)) rfl (calmRes_of Try.func12) rfl C.seats fun wp hp => ?_
  replace hp := Lib.hid hp
  unfold A12
  simp only [h5]
  go_wp2_with fail
  refine ⟨w, rfl, hOk, hp.out, ?_⟩
  obtain rfl := hR0.out
  refine x_ret X.out ?_
  refine x_leave X.out (calmRes_of Try.func12) C.seats ⟨rfl, rfl, rfl, _, Try.func12, results_tmp rfl _ _ _⟩ ?_
  exact tgo_next (BRep.local Y) (hret v hv) C .refl .refl
set_option maxRecDepth 100000 in
set_option maxHeartbeats 1000000 in
theorem limit_cps (hY : Y.Wf) {κ : Int → Fu BM} {c : Frame} {cs : List Frame} (hret : ∀ v, In64 v → GOF (BRep Y) Try.prog U i (κ v) A w₀ (G (c.finish (.int .i64 v)) cs)) (hend : EndedC Y U i A w₀ c cs) :
    GOF (BRep Y) Try.prog U i (limF Y.k κ) A w₀ (G (Frame.enter Try.prog 12 #[.pointer (some ⟨Y.bb, 0, none⟩), stp U i] .normal) (c :: cs)) := by
  refine gof_of fun w m own ov bv C => ?_
  have X := tgo_xc (Rep := BRep Y) (P := Try.prog) (U := U) (i := i) (own := own) (w := w) (ov := ov) (bv := bv) (mc := limF Y.k κ m)
  replace hret := Lib.hid hret
  replace hend := Lib.hid hend
  rw [enter_at _ Try.func12 rfl]
  simp only [Try.ntmps12, List.size_toArray, List.length_cons, List.length_nil, Nat.reduceAdd, Nat.reduceSub, Array.replicate_succ,
     Array.replicate_zero, List.push_toArray, List.append_toArray, List.nil_append, List.cons_append]
  have hOk := C.seats.okd
  have hkk := hY.kk
  replace X := Lib.hid X
  refine x_seqR X.out fun R0 hR0 => ?_
  refine x_seg X.out prgB (calmCode_of ext_ok (by kernel_rfl)) rfl (calmRes_of Try.func12) rfl C.seats fun wp hp => ?_
  replace hp := Lib.hid hp
  go_wp2_with fail
  refine ⟨w, rfl, hOk, hp.out, ?_⟩
  clear hp wp
  obtain rfl := hR0.out
  clear hR0
  refine x_seqR X.out fun R0 hR0 => ?_
  refine x_seqR X.out fun R1 hR1 => ?_
  refine x_seg X.out prgB (calmCode_of ext_ok (by kernel_rfl)) rfl (calmRes_of Try.func12) rfl C.seats fun wp hp => ?_
  have hB := (simCellT hp _).trans (cellAt C.rep.bb.2 0)
  simp only [List.getElem?_toArray, List.getElem?_cons_zero] at hB
  replace hp := Lib.hid hp
  generalize hkv : Y.k = kk at hB hkk X ⊢
  replace hkv := Lib.hid hkv
  go_wp2_with fail
  refine ⟨w, rfl, hOk, hp.out, ?_⟩
  clear hp hB wp
  obtain rfl := hR1.out
  clear hR1
  by_cases hk0 : kk = 0
  · subst hk0
    rw [show ((((0 : Nat) : Int)) == 0) = true from rfl]
    refine x_cond X.out (t := true) rfl ?_
    refine x_seqR X.out fun R1 hR1 => ?_
    refine x_seg X.out prgB (calmCode_of ext_ok (by kernel_rfl)) rfl (calmRes_of Try.func12) rfl C.seats fun wp hp => ?_
    replace hp := Lib.hid hp
    go_wp2_with fail
    refine ⟨w, rfl, hOk, hp.out, ?_⟩
    obtain rfl := hR1.out
    refine x_ret X.out ?_
    refine x_leave X.out (calmRes_of Try.func12) C.seats ⟨rfl, rfl, rfl, _, Try.func12, results_tmp rfl _ _ _⟩ ?_
    exact tgo_next (BRep.local Y) (hret.out _ (by decide)) C .refl .refl
  · have hkz : (((kk : Nat) : Int) == 0) = false := by
      have : ((kk : Nat) : Int) ≠ 0 := by omega
      simpa using this
    rw [hkz]
    refine x_cond X.out (t := false) rfl ?_
    refine x_skip X.out ?_
    obtain rfl := hR0.out
    clear hR0
    refine x_seqR X.out fun R0 hR0 => ?_
    refine x_reg X.out 7 (by decide) (by decide) (calm0 (by kernel_rfl)) C.seats fun wp hp => ?_
    simp only [List.take_succ_cons, List.take_zero]
    have hkp : 0 < Y.k := by rw [hkv.out]; omega
    have hB := (simCellT hp _).trans (cellAt C.rep.bb.2 0)
    simp only [List.getElem?_toArray, List.getElem?_cons_zero] at hB
    have hS : wp.cell? ⟨Y.sa, 0, none⟩ = some (.iface 104 (.pointer (some ⟨Y.wd 0, 0, none⟩))) := by
      obtain ⟨_, x, q1, q2⟩ := C.rep.sa hkp
      exact (simCellT hp _).trans ((cellAt q1 0).trans (q2 0 hkp))
    rw [hY.ss hkp, hkv.out] at hB
    have q1 : (0 : Int) < (kk : Nat) := by omega
    replace hp := Lib.hid hp
    replace hkp := Lib.hid hkp
    go_wp2_with fail
    refine after_same hp.out hOk ?_
    clear hp hB hS wp
    refine x_callI X.out rfl rfl (by decide) rfl rfl (method_word _) Try.func91 (by kernel_rfl) (by kernel_rfl) ?_
    walk_nrm
    have eL : limF kk κ = stepF fun m => limL κ (kk - 1) 1 (m.wv 0) m := by unfold limF; rw [if_neg hk0]
    rw [eL]
    refine tgo_next (BRep.local Y) (load_cps (Y := Y) (j := 0) hkp.out (κ := fun v => limL κ (kk - 1) 1 v) (fun v hv => gof_of fun w m own ov bv C => ?_) (ended_up (calmRes_of Try.func12) rfl rfl hend.out)) C .refl .refl
    rw [Frame.finish_at]
    clear hOk X eL
    have X := tgo_xc (Rep := BRep Y) (P := Try.prog) (U := U) (i := i) (own := own) (w := w) (ov := ov) (bv := bv) (mc := limL κ (kk - 1) 1 v m)
    have hOk := C.seats.okd
    replace X := Lib.hid X
    walk_nrm
    refine x_more X.out 8 1 (by decide) (by decide) (calm0 (by kernel_rfl)) C.seats fun wp hp => ?_
    simp only [List.drop_succ_cons, List.drop_zero, List.take_succ_cons, List.take_zero]
    replace hp := Lib.hid hp
    go_wp2_with fail
    refine after_same hp.out hOk ?_
    clear hp wp
    refine x_regionEnd X.out ?_
    obtain rfl := hR0.out
    clear hR0
    refine x_seqR X.out fun R0 hR0 => ?_
    refine x_seqR X.out fun R1 hR1 => ?_
    refine x_seg X.out prgB (calmCode_of ext_ok (by kernel_rfl)) rfl (calmRes_of Try.func12) rfl C.seats fun wp hp => ?_
    have hB := (simCellT hp _).trans (cellAt C.rep.bb.2 0)
    simp only [List.getElem?_toArray, List.getElem?_cons_zero] at hB
    have hsc := hY.scap
    rw [hY.ss hkp.out, hkv.out] at hB
    rw [hkv.out] at hsc
    have q2 : (1 : Int) ≤ (kk : Nat) := by omega
    have q3 : ((kk : Nat) : Int) ≤ Y.scap := by omega
    replace hp := Lib.hid hp
    go_wp2_with fail
    all_goals
      refine ⟨w, rfl, hOk, hp.out, ?_⟩
      clear hp hB wp
      obtain rfl := hR1.out
      refine x_block X.out ?_
      refine x_loop X.out ?_
      rw [a12_of _ rfl]
      refine limit_loop hY hend.out ?_ (fun v x hv h5 => ?_) (kk - 1) 1 v _ _ _ _ _ _ C (by rw [hkv.out]; omega) (by decide) hv rfl rfl (by rw [hkv.out]; rfl) (by rw [hkv.out]; rfl) rfl
      · rw [hkv.out]; intro; omega
      · exact limit_end hret.out v x hv h5 (by rw [hR0.out]; rfl)
end
end Go.Proofs.Ytimkkeomdkbcjaa
