/-
  Merged out of: Bar6 Bar7 Bar8. No condition of its own.
-/
import Derived.Test.YtimkkeomdkbcjaaPlaysP26
set_option linter.unusedVariables false
set_option linter.unusedSimpArgs false
/-
  The barrier's lean waiting, as a thread. No condition of its own.
-/
namespace Go.Proofs.Ytimkkeomdkbcjaa
open Go.Conc Go.RowKit
open Go.ConcN (upd upd_ne upd_same)
noncomputable def c22 : Code := (Try.f22.body).getD .skip
def A22 (x : Nat → Value) : Act := ⟨#[x 0, x 1, x 2, x 3, x 4, x 5, x 6, x 7, x 8, x 9, x 10, x 11, x 12, x 13, x 14, x 15, x 16, x 17, x 18, x 19, x 20, x 21, x 22, x 23, x 24, x 25, x 26, x 27, x 28, x 29, x 30, x 31, x 32, x 33, x 34, x 35, x 36, x 37, x 38, x 39, x 40, x 41, x 42, x 43, x 44, x 45, x 46, x 47, x 48, x 49], []⟩
theorem a22_of (l : Array Value) (hl : l.size = 50) : (⟨l, []⟩ : Act) = A22 fun j => l.getD j undef := by
  have e : ∀ x : Nat → Value, (A22 x).tmps = ((List.range 50).map x).toArray := fun x => rfl
  have h1 : l = (A22 fun j => l.getD j undef).tmps := by
    rw [e]
    apply Array.ext_getElem?
    intro i
    by_cases h : i < 50
    · have h' : i < l.size := by omega
      simp [h, h', List.getElem?_range]
    · have h' : ¬ i < l.size := by omega
      rw [Array.getElem?_eq_none (by omega), Array.getElem?_eq_none (by simp; omega)]
  exact congrArg (Act.mk · []) h1
def bodyN : Code → Code := fun c => cA (cA (cB (cA (cB (cB c)))))
def inN : Code → Code := fun c => cA (cA (cB (cB (bodyN c))))
def incN : Code → Code := fun c => cB (cB (cB (bodyN c)))
def leanN (j : Nat) (n v : Int) : Int := if j = 0 ∨ v < n then v else n
def leanV (κ : Int → Int → Fu BM) (k : Nat) (q : Int) (next : Nat → Int → Fu BM) (j : Nat) (n v : Int) : Fu BM := if v < q then next j n else if j + 1 = k then κ (leanN j n v) 0 else next (j + 1) (leanN j n v)
def leanL (κ : Int → Int → Fu BM) (k : Nat) (q : Int) : Nat → Nat → Int → Fu BM
  | 0, _, _ => κ 0 4
  | r + 1, j, n => stepF fun m => (fun b : Bool => if b = true then κ 0 5 else stepF fun m => leanV κ k q (leanL κ k q r) j n (m.wv j) m) m.al m
structure X22 (Y : BL) (U : Tun) (i : Nat) (q : Int) (T : Nat) (x : Nat → Value) : Prop where
  x0 : x 0 = .pointer (some ⟨Y.bb, 0, none⟩)
  x1 : x 1 = stp U i
  x2 : x 2 = .int .i64 q
  x13 : x 13 = .int .i64 T
section
variable {Y : BL} {U : Tun} {i : Nat} {A : Nat → Prop} {w₀ : W0 BM} {c : Frame} {cs : List Frame} {R : List Item}
def LeanAt (Y : BL) (U : Tun) (i : Nat) (A : Nat → Prop) (w₀ : W0 BM) (c : Frame) (cs : List Frame) (R : List Item) (κ : Int → Int → Fu BM) (q : Int) (T r : Nat) : Prop :=
  ∀ (j : Nat) (n : Int) (x : Nat → Value) w m own ov bv, Ctx (BRep Y) U i own A w₀ w m ov bv → j < Y.k → In64 n → X22 Y U i q T x → x 10 = .int .i64 j → x 11 = .int .i64 n → x 14 = .int .i64 (T - r : Nat) → r ≤ T →
    TGO (BRep Y) Try.prog U i own w (leanL κ Y.k q r j n m) ov bv (G ((base 22).at (A22 x) (.code (bodyN c22) :: .inLoop (bodyN c22) :: .inBlock 0 :: R)) (c :: cs)) w
theorem lean_next {κ : Int → Int → Fu BM} {q : Int} {T r : Nat} (hT : T ≤ 1024) (ih : LeanAt Y U i A w₀ c cs R κ q T r) {j : Nat} {n : Int} {x : Nat → Value} {w : World} {m : BM} {own : Nat → Owner} {ov bv : Nat → Bool} (C : Ctx (BRep Y) U i own A w₀ w m ov bv) (hj : j < Y.k) (hn : In64 n) (hx : X22 Y U i q T x) (h10 : x 10 = .int .i64 j) (h11 : x 11 = .int .i64 n)
    (h14 : x 14 = .int .i64 (T - (r + 1) : Nat)) (hr : r + 1 ≤ T) : TGO (BRep Y) Try.prog U i own w (leanL κ Y.k q r j n m) ov bv (G ((base 22).at (A22 x) (.code (incN c22) :: .inLoop (bodyN c22) :: .inBlock 0 :: R)) (c :: cs)) w := by
  have X := tgo_xc (Rep := BRep Y) (P := Try.prog) (U := U) (i := i) (own := own) (w := w) (ov := ov) (bv := bv) (mc := leanL κ Y.k q r j n m)
  have hOk := C.seats.okd
  replace X := Lib.hid X
  have qq : IntKind.i64.wrap (((T - (r + 1) : Nat) : Int) + 1) = ((T - r : Nat) : Int) := by rw [IntKind.wrap_i64] <;> omega
  replace ih := Lib.hid ih
  rw [show incN c22 = Code.region _ _ _ from rfl]
  unfold A22
  simp only [hx.x0, hx.x1, hx.x2, hx.x13, h10, h11, h14]
  refine x_seg X.out prgB (calmCode_of ext_ok (by kernel_rfl)) rfl (calmRes_of Try.func22) rfl C.seats fun wp hp => ?_
  replace hp := Lib.hid hp
  go_wp2_with fail
  refine ⟨w, rfl, hOk, hp.out, ?_⟩
  clear hp wp
  refine x_inLoop X.out ?_
  rw [a22_of _ rfl]
  exact ih.out j n _ _ _ _ _ _ C hj hn ⟨rfl, rfl, rfl, rfl⟩ rfl rfl rfl (by omega)
set_option maxRecDepth 100000 in
theorem lean_tail (hY : Y.Wf) {κ : Int → Int → Fu BM} {q : Int} {T r : Nat} (hT : T ≤ 1024) (ih : LeanAt Y U i A w₀ c cs R κ q T r) (hret : ∀ v e, In64 v → In64 e → GOF (BRep Y) Try.prog U i (κ v e) A w₀ (G (c.finish (.tuple #[.int .i64 v, .int .i64 e])) cs)) {j : Nat} {n : Int} {x : Nat → Value} {w : World} {m : BM} {own : Nat → Owner} {ov bv : Nat → Bool} (C : Ctx (BRep Y) U i own A w₀ w m ov bv) (hj : j < Y.k) (hn : In64 n) (hx : X22 Y U i q T x) (h10 : x 10 = .int .i64 j) (h11 : x 11 = .int .i64 n)
    (h14 : x 14 = .int .i64 (T - (r + 1) : Nat)) (hr : r + 1 ≤ T) : TGO (BRep Y) Try.prog U i own w ((if j + 1 = Y.k then κ n 0 else leanL κ Y.k q r (j + 1) n) m) ov bv (G ((base 22).at (A22 x) (.code (cB (cB (cB (cB (inN c22))))) :: .inBlock 1 :: .code (incN c22) :: .inLoop (bodyN c22) :: .inBlock 0 :: R)) (c :: cs)) w := by
  have X := tgo_xc (Rep := BRep Y) (P := Try.prog) (U := U) (i := i) (own := own) (w := w) (ov := ov) (bv := bv) (mc := (if j + 1 = Y.k then κ n 0 else leanL κ Y.k q r (j + 1) n) m)
  have hOk := C.seats.okd
  replace X := Lib.hid X
  generalize hmc : (if j + 1 = Y.k then κ n 0 else leanL κ Y.k q r (j + 1) n) m = mc at X ⊢
  replace hmc := Lib.hid hmc
  have hkk := hY.kk
  have qq : IntKind.i64.wrap ((j : Int) + 1) = ((j + 1 : Nat) : Int) := by rw [IntKind.wrap_i64]; omega
  replace ih := Lib.hid ih
  refine x_seqB X.out rfl fun R0 hR0 => ?_
  rw [show cA (cB (cB (cB (cB (inN c22))))) = Code.region _ _ _ from rfl]
  unfold A22
  simp only [hx.x0, hx.x1, hx.x2, hx.x13, h10, h11, h14]
  refine x_seg X.out prgB (calmCode_of ext_ok (by kernel_rfl)) rfl (calmRes_of Try.func22) rfl C.seats fun wp hp => ?_
  replace hp := Lib.hid hp
  go_wp2_with fail
  refine ⟨w, rfl, hOk, hp.out, ?_⟩
  clear hp wp
  obtain rfl := hR0.out
  clear hR0
  rw [show cB (cB (cB (cB (cB (inN c22))))) = Code.seq (Code.region _ _ _) (Code.cond _ _ _) from rfl]
  refine x_seqR X.out fun R0 hR0 => ?_
  refine x_seg X.out prgB (calmCode_of ext_ok (by kernel_rfl)) rfl (calmRes_of Try.func22) rfl C.seats fun wp hp => ?_
  have hB := (simCellT hp _).trans (cellAt C.rep.bb.2 0)
  simp only [List.getElem?_toArray, List.getElem?_cons_zero] at hB
  replace hp := Lib.hid hp
  go_wp2_with fail
  refine ⟨w, rfl, hOk, hp.out, ?_⟩
  clear hp wp hB
  obtain rfl := hR0.out
  clear hR0
  by_cases hjk : j + 1 = Y.k
  · obtain rfl := hmc.out
    rw [if_pos hjk] at X ⊢
    have e : (((j + 1 : Nat) : Int) == (Y.k : Int)) = true := by rw [hjk]; simp
    refine x_cond X.out (t := true) (by simp only [Act.eval]; simpa using e) ?_
    refine x_seqR X.out fun R0 hR0 => ?_
    refine x_seg X.out prgB (calmCode_of ext_ok (by kernel_rfl)) rfl (calmRes_of Try.func22) rfl C.seats fun wp hp => ?_
    replace hp := Lib.hid hp
    go_wp2_with fail
    refine ⟨w, rfl, hOk, hp.out, ?_⟩
    clear hp wp
    obtain rfl := hR0.out
    clear hR0
    refine x_ret X.out ?_
    refine x_leave X.out (calmRes_of Try.func22) C.seats ⟨rfl, rfl, rfl, _, Try.func22, results_tmp2 rfl _ _ _⟩ ?_
    exact tgo_next (BRep.local Y) (hret n 0 hn (by decide)) C .refl .refl
  · obtain rfl := hmc.out
    rw [if_neg hjk] at X ⊢
    have e : (((j + 1 : Nat) : Int) == (Y.k : Int)) = false := by
      have : ((j + 1 : Nat) : Int) ≠ (Y.k : Int) := by omega
      simpa using this
    refine x_cond X.out (t := false) (by simp only [Act.eval]; simpa using e) ?_
    refine x_skip X.out ?_
    refine x_inBlock X.out ?_
    rw [a22_of _ rfl]
    exact lean_next hT ih.out C (by omega) hn ⟨rfl, rfl, rfl, rfl⟩ rfl rfl rfl hr
set_option maxRecDepth 100000 in
set_option maxHeartbeats 1000000 in
theorem lean_loop (hY : Y.Wf) {κ : Int → Int → Fu BM} {q : Int} {T : Nat} (hT : T ≤ 1024) (hend : EndedC Y U i A w₀ c cs) (hret : ∀ v e, In64 v → In64 e → GOF (BRep Y) Try.prog U i (κ v e) A w₀ (G (c.finish (.tuple #[.int .i64 v, .int .i64 e])) cs)) : ∀ r, LeanAt Y U i A w₀ c cs [.code (cB (cB (cB c22)))] κ q T r := by
  intro r
  induction r with
  | zero =>
    intro j n x w m own ov bv C hj hn hx h10 h11 h14 hr
    have X := tgo_xc (Rep := BRep Y) (P := Try.prog) (U := U) (i := i) (own := own) (w := w) (ov := ov) (bv := bv) (mc := leanL κ Y.k q 0 j n m)
    have hOk := C.seats.okd
    replace X := Lib.hid X
    rw [Nat.sub_zero] at h14
    refine x_seqB X.out rfl fun R0 hR0 => ?_
    rw [show cA (bodyN c22) = Code.region _ _ _ from rfl]
    have e1 : ¬ (T : Int) < (T : Int) := by omega
    unfold A22
    simp only [hx.x0, hx.x1, hx.x2, hx.x13, h10, h11, h14]
    refine x_seg X.out prgB (calmCode_of ext_ok (by kernel_rfl)) rfl (calmRes_of Try.func22) rfl C.seats fun wp hp => ?_
    replace hp := Lib.hid hp
    go_wp2_with fail
    refine ⟨w, rfl, hOk, hp.out, ?_⟩
    clear hp wp
    obtain rfl := hR0.out
    clear hR0
    refine x_seqB X.out rfl fun R0 hR0 => ?_
    rw [show cA (cB (bodyN c22)) = Code.cond _ _ _ from rfl]
    refine x_cond X.out (t := false) rfl ?_
    obtain rfl := hR0.out
    clear hR0
    refine x_exit X.out rfl ?_
    rw [show cB (cB (cB c22)) = Code.seq (Code.region _ _ _) Code.ret from rfl]
    refine x_seqR X.out fun R0 hR0 => ?_
    refine x_seg X.out prgB (calmCode_of ext_ok (by kernel_rfl)) rfl (calmRes_of Try.func22) rfl C.seats fun wp hp => ?_
    replace hp := Lib.hid hp
    go_wp2_with fail
    refine ⟨w, rfl, hOk, hp.out, ?_⟩
    clear hp wp
    obtain rfl := hR0.out
    clear hR0
    refine x_ret X.out ?_
    refine x_leave X.out (calmRes_of Try.func22) C.seats ⟨rfl, rfl, rfl, _, Try.func22, results_tmp2 rfl _ _ _⟩ ?_
    exact tgo_next (BRep.local Y) (hret 0 4 (by decide) (by decide)) C .refl .refl
  | succ r ih =>
    intro j n x w m own ov bv C hj hn hx h10 h11 h14 hr
    have X := tgo_xc (Rep := BRep Y) (P := Try.prog) (U := U) (i := i) (own := own) (w := w) (ov := ov) (bv := bv) (mc := leanL κ Y.k q (r + 1) j n m)
    have hOk := C.seats.okd
    replace X := Lib.hid X
    have hkk := hY.kk
    replace ih := Lib.hid ih
    refine x_seqB X.out rfl fun R0 hR0 => ?_
    rw [show cA (bodyN c22) = Code.region _ _ _ from rfl]
    have e1 : ((T - (r + 1) : Nat) : Int) < (T : Int) := by omega
    unfold A22
    simp only [hx.x0, hx.x1, hx.x2, hx.x13, h10, h11, h14]
    refine x_seg X.out prgB (calmCode_of ext_ok (by kernel_rfl)) rfl (calmRes_of Try.func22) rfl C.seats fun wp hp => ?_
    replace hp := Lib.hid hp
    go_wp2_with fail
    refine ⟨w, rfl, hOk, hp.out, ?_⟩
    clear hp wp
    obtain rfl := hR0.out
    clear hR0
    refine x_seqB X.out rfl fun R0 hR0 => ?_
    rw [show cA (cB (bodyN c22)) = Code.cond _ _ _ from rfl]
    refine x_cond X.out (t := true) rfl ?_
    refine x_skip X.out ?_
    obtain rfl := hR0.out
    clear hR0
    refine x_seqB X.out rfl fun R0 hR0 => ?_
    rw [show cA (cB (cB (bodyN c22))) = Code.block _ _ from rfl]
    refine x_block X.out ?_
    refine x_seqR X.out fun R1 hR1 => ?_
    refine x_seqR X.out fun R2 hR2 => ?_
    refine x_reg X.out 2 (by decide) (by decide) (calm0 (by kernel_rfl)) C.seats fun wp hp => ?_
    simp only [List.take_succ_cons, List.take_zero]
    replace hp := Lib.hid hp
    go_wp2_with fail
    refine after_same hp.out hOk ?_
    clear hp wp
    refine x_callF X.out rfl rfl (by decide) rfl Try.func13 (by kernel_rfl) (by kernel_rfl) ?_
    walk_nrm
    refine tgo_next (BRep.local Y) (alerted_cps (Y := Y) (κ := fun b : Bool => if b = true then κ 0 5 else stepF fun m => leanV κ Y.k q (leanL κ Y.k q r) j n (m.wv j) m) (fun b => gof_of fun w m own ov bv C => ?_) (ended_up (calmRes_of Try.func22) rfl rfl hend)) C .refl .refl
    rw [Frame.finish_at]
    clear hOk X
    walk_nrm
    cases b with
    | true =>
      have X := tgo_xc (Rep := BRep Y) (P := Try.prog) (U := U) (i := i) (own := own) (w := w) (ov := ov) (bv := bv) (mc := κ 0 5 m)
      have hOk := C.seats.okd
      replace X := Lib.hid X
      rw [if_pos rfl]
      refine x_regionEnd X.out ?_
      obtain rfl := hR2.out
      clear hR2
      refine x_cond X.out (t := true) rfl ?_
      refine x_seqR X.out fun R0 hR0 => ?_
      refine x_seg X.out prgB (calmCode_of ext_ok (by kernel_rfl)) rfl (calmRes_of Try.func22) rfl C.seats fun wp hp => ?_
      replace hp := Lib.hid hp
      go_wp2_with fail
      refine ⟨w, rfl, hOk, hp.out, ?_⟩
      clear hp wp
      obtain rfl := hR0.out
      clear hR0
      refine x_ret X.out ?_
      refine x_leave X.out (calmRes_of Try.func22) C.seats ⟨rfl, rfl, rfl, _, Try.func22, results_tmp2 rfl _ _ _⟩ ?_
      exact tgo_next (BRep.local Y) (hret 0 5 (by decide) (by decide)) C .refl .refl
    | false =>
      have X := tgo_xc (Rep := BRep Y) (P := Try.prog) (U := U) (i := i) (own := own) (w := w) (ov := ov) (bv := bv) (mc := stepF (fun m => leanV κ Y.k q (leanL κ Y.k q r) j n (m.wv j) m) m)
      have hOk := C.seats.okd
      replace X := Lib.hid X
      rw [if_neg (by decide)]
      refine x_regionEnd X.out ?_
      obtain rfl := hR2.out
      clear hR2
      refine x_cond X.out (t := false) rfl ?_
      refine x_skip X.out ?_
      obtain rfl := hR1.out
      clear hR1
      refine x_seqR X.out fun R1 hR1 => ?_
      refine x_reg X.out 8 (by decide) (by decide) (calm0 (by kernel_rfl)) C.seats fun wp hp => ?_
      simp only [List.take_succ_cons, List.take_zero]
      have hkp : 0 < Y.k := by omega
      have hB := (simCellT hp _).trans (cellAt C.rep.bb.2 0)
      simp only [List.getElem?_toArray, List.getElem?_cons_zero] at hB
      have hS : wp.cell? ⟨Y.sa, j, none⟩ = some (.iface 104 (.pointer (some ⟨Y.wd j, 0, none⟩))) := by
        obtain ⟨_, x, q1, q2⟩ := C.rep.sa hkp
        exact (simCellT hp _).trans ((cellAt q1 j).trans (q2 j hj))
      rw [hY.ss hkp] at hB
      have q0 : (0 : Int) ≤ (j : Nat) := by omega
      have q1 : ((j : Nat) : Int) < (Y.k : Nat) := by omega
      replace hp := Lib.hid hp
      go_wp2_with fail
      refine after_same hp.out hOk ?_
      clear hp hB hS wp
      refine x_callI X.out rfl rfl (by decide) rfl rfl (method_word _) Try.func91 (by kernel_rfl) (by kernel_rfl) ?_
      walk_nrm
      refine tgo_next (BRep.local Y) (load_cps (Y := Y) (j := j) hj (κ := fun v => leanV κ Y.k q (leanL κ Y.k q r) j n v) (fun v hv => gof_of fun w m own ov bv C => ?_) (ended_up (calmRes_of Try.func22) rfl rfl hend)) C .refl .refl
      rw [Frame.finish_at]
      clear hOk X
      have X := tgo_xc (Rep := BRep Y) (P := Try.prog) (U := U) (i := i) (own := own) (w := w) (ov := ov) (bv := bv) (mc := leanV κ Y.k q (leanL κ Y.k q r) j n v m)
      have hOk := C.seats.okd
      replace X := Lib.hid X
      walk_nrm
      refine x_more X.out 9 1 (by decide) (by decide) (calm0 (by kernel_rfl)) C.seats fun wp hp => ?_
      simp only [List.drop_succ_cons, List.drop_zero, List.take_succ_cons, List.take_zero]
      replace hp := Lib.hid hp
      go_wp2_with fail
      refine after_same hp.out hOk ?_
      clear hp wp
      refine x_regionEnd X.out ?_
      obtain rfl := hR1.out
      clear hR1
      refine x_seqR X.out fun R1 hR1 => ?_
      refine x_seqR X.out fun R2 hR2 => ?_
      refine x_seg X.out prgB (calmCode_of ext_ok (by kernel_rfl)) rfl (calmRes_of Try.func22) rfl C.seats fun wp hp => ?_
      replace hp := Lib.hid hp
      go_wp2_with fail
      refine ⟨w, rfl, hOk, hp.out, ?_⟩
      clear hp wp
      obtain rfl := hR2.out
      clear hR2
      by_cases hvq : v < q
      · have e : leanV κ Y.k q (leanL κ Y.k q r) j n v = leanL κ Y.k q r j n := by unfold leanV; rw [if_pos hvq]
        rw [e] at X ⊢
        refine x_cond X.out (t := true) (by simp only [Act.eval]; simpa using hvq) ?_
        obtain rfl := hR1.out
        obtain rfl := hR0.out
        refine x_exit X.out rfl ?_
        rw [a22_of _ rfl]
        exact lean_next hT ih.out C hj hn ⟨rfl, rfl, rfl, rfl⟩ rfl rfl rfl hr
      · have e : leanV κ Y.k q (leanL κ Y.k q r) j n v = (if j + 1 = Y.k then κ (leanN j n v) 0 else leanL κ Y.k q r (j + 1) (leanN j n v)) := by unfold leanV; rw [if_neg hvq]
        rw [e] at X ⊢
        generalize hmc : (if j + 1 = Y.k then κ (leanN j n v) 0 else leanL κ Y.k q r (j + 1) (leanN j n v)) m = mc at X ⊢
        replace hmc := Lib.hid hmc
        refine x_cond X.out (t := false) (by simp only [Act.eval]; simpa using hvq) ?_
        refine x_skip X.out ?_
        obtain rfl := hR1.out
        clear hR1
        refine x_seqR X.out fun R1 hR1 => ?_
        refine x_seqR X.out fun R2 hR2 => ?_
        by_cases hj0 : j = 0
        · have eN : leanN j n v = v := by unfold leanN; rw [if_pos (.inl hj0)]
          have hz : (((j : Nat) : Int) == 0) = true := by rw [hj0]; rfl
          replace hj0 := Lib.hid hj0
          refine x_seg X.out prgB (calmCode_of ext_ok (by kernel_rfl)) rfl (calmRes_of Try.func22) rfl C.seats fun wp hp => ?_
          replace hp := Lib.hid hp
          go_wp2_with fail
          refine ⟨w, rfl, hOk, hp.out, ?_⟩
          obtain rfl := hR2.out
          refine x_cond X.out (t := true) rfl ?_
          refine x_seg X.out prgB (calmCode_of ext_ok (by kernel_rfl)) rfl (calmRes_of Try.func22) rfl C.seats fun wp hp => ?_
          replace hp := Lib.hid hp
          go_wp2_with fail
          refine ⟨w, rfl, hOk, hp.out, ?_⟩
          obtain rfl := hR1.out
          obtain rfl := hR0.out
          obtain rfl := hmc.out
          rw [eN, a22_of _ rfl]
          exact lean_tail hY hT ih.out hret C hj hv ⟨rfl, rfl, rfl, rfl⟩ rfl rfl rfl hr
        · have hz : (((j : Nat) : Int) == 0) = false := by
            have : ((j : Nat) : Int) ≠ 0 := by omega
            simpa using this
          by_cases hvn : v < n
          · have eN : leanN j n v = v := by unfold leanN; rw [if_pos (.inr hvn)]
            refine x_seg X.out prgB (calmCode_of ext_ok (by kernel_rfl)) rfl (calmRes_of Try.func22) rfl C.seats fun wp hp => ?_
            replace hp := Lib.hid hp
            go_wp2_with fail
            refine ⟨w, rfl, hOk, hp.out, ?_⟩
            obtain rfl := hR2.out
            refine x_cond X.out (t := true) rfl ?_
            refine x_seg X.out prgB (calmCode_of ext_ok (by kernel_rfl)) rfl (calmRes_of Try.func22) rfl C.seats fun wp hp => ?_
            replace hp := Lib.hid hp
            go_wp2_with fail
            refine ⟨w, rfl, hOk, hp.out, ?_⟩
            obtain rfl := hR1.out
            obtain rfl := hR0.out
            obtain rfl := hmc.out
            rw [eN, a22_of _ rfl]
            exact lean_tail hY hT ih.out hret C hj hv ⟨rfl, rfl, rfl, rfl⟩ rfl rfl rfl hr
          · have eN : leanN j n v = n := by unfold leanN; rw [if_neg (by omega)]
            refine x_seg X.out prgB (calmCode_of ext_ok (by kernel_rfl)) rfl (calmRes_of Try.func22) rfl C.seats fun wp hp => ?_
            replace hp := Lib.hid hp
            go_wp2_with fail
            refine ⟨w, rfl, hOk, hp.out, ?_⟩
            obtain rfl := hR2.out
            refine x_cond X.out (t := false) rfl ?_
            refine x_skip X.out ?_
            obtain rfl := hR1.out
            obtain rfl := hR0.out
            obtain rfl := hmc.out
            rw [eN, a22_of _ rfl]
            exact lean_tail hY hT ih.out hret C hj hn ⟨rfl, rfl, rfl, rfl⟩ rfl rfl rfl hr
end
end Go.Proofs.Ytimkkeomdkbcjaa

/-
  The barrier's Wait, as a thread. No condition of its own.
-/
namespace Go.Proofs.Ytimkkeomdkbcjaa
open Go.Conc Go.RowKit
open Go.ConcN (upd upd_ne upd_same)
section
variable {Y : BL} {U : Tun} {i : Nat} {A : Nat → Prop} {w₀ : W0 BM} {c : Frame} {cs : List Frame} {R : List Item}
set_option maxRecDepth 100000 in
set_option maxHeartbeats 1000000 in
theorem lean_cps (hY : Y.Wf) (hk : 0 < Y.k) {κ : Int → Int → Fu BM} {q : Int} {T : Nat} (hT : T ≤ 1024) (hend : EndedC Y U i A w₀ c cs) (hret : ∀ v e, In64 v → In64 e → GOF (BRep Y) Try.prog U i (κ v e) A w₀ (G (c.finish (.tuple #[.int .i64 v, .int .i64 e])) cs)) :
    GOF (BRep Y) Try.prog U i (leanL κ Y.k q T 0 0) A w₀ (G (Frame.enter Try.prog 22 #[.pointer (some ⟨Y.bb, 0, none⟩), stp U i, .int .i64 q, .int .i64 T] .normal) (c :: cs)) := by
  refine gof_of fun w m own ov bv C => ?_
  have X := tgo_xc (Rep := BRep Y) (P := Try.prog) (U := U) (i := i) (own := own) (w := w) (ov := ov) (bv := bv) (mc := leanL κ Y.k q T 0 0 m)
  have hOk := C.seats.okd
  replace X := Lib.hid X
  rw [enter_at _ Try.func22 rfl]
  simp only [Try.ntmps22, List.size_toArray, List.length_cons, List.length_nil, Nat.reduceAdd, Nat.reduceSub, Array.replicate_succ,
     Array.replicate_zero, List.push_toArray, List.append_toArray, List.nil_append, List.cons_append]
  refine x_seqR X.out fun R0 hR0 => ?_
  refine x_seg X.out prgB (calmCode_of ext_ok (by kernel_rfl)) rfl (calmRes_of Try.func22) rfl C.seats fun wp hp => ?_
  replace hp := Lib.hid hp
  go_wp2_with fail
  refine ⟨w, rfl, hOk, hp.out, ?_⟩
  clear hp wp
  obtain rfl := hR0.out
  clear hR0
  refine x_seqR X.out fun R0 hR0 => ?_
  refine x_seg X.out prgB (calmCode_of ext_ok (by kernel_rfl)) rfl (calmRes_of Try.func22) rfl C.seats fun wp hp => ?_
  replace hp := Lib.hid hp
  go_wp2_with fail
  refine ⟨w, rfl, hOk, hp.out, ?_⟩
  clear hp wp
  obtain rfl := hR0.out
  clear hR0
  refine x_seqR X.out fun R0 hR0 => ?_
  refine x_seqR X.out fun R1 hR1 => ?_
  refine x_seg X.out prgB (calmCode_of ext_ok (by kernel_rfl)) rfl (calmRes_of Try.func22) rfl C.seats fun wp hp => ?_
  replace hp := Lib.hid hp
  go_wp2_with fail
  refine ⟨w, rfl, hOk, hp.out, ?_⟩
  clear hp wp
  obtain rfl := hR1.out
  refine x_block X.out ?_
  refine x_loop X.out ?_
  obtain rfl := hR0.out
  rw [a22_of _ rfl]
  exact lean_loop hY hT hend hret T 0 0 _ _ _ _ _ _ C hk (by decide) ⟨rfl, rfl, rfl, rfl⟩ rfl rfl (by rw [Nat.sub_self]; rfl) (Nat.le_refl _)
end
noncomputable def c11 : Code := (Try.f11.body).getD .skip
def A11 (x : Nat → Value) : Act := ⟨#[x 0, x 1, x 2, x 3, x 4, x 5, x 6, x 7, x 8, x 9, x 10, x 11, x 12, x 13, x 14, x 15, x 16, x 17, x 18, x 19, x 20, x 21, x 22, x 23, x 24, x 25, x 26, x 27, x 28, x 29, x 30, x 31, x 32, x 33, x 34, x 35, x 36, x 37, x 38, x 39, x 40, x 41, x 42, x 43, x 44, x 45, x 46, x 47, x 48, x 49, x 50, x 51, x 52, x 53, x 54, x 55, x 56, x 57, x 58, x 59, x 60, x 61, x 62, x 63, x 64, x 65], []⟩
theorem a11_of (l : Array Value) (hl : l.size = 66) : (⟨l, []⟩ : Act) = A11 fun j => l.getD j undef := by
  have e : ∀ x : Nat → Value, (A11 x).tmps = ((List.range 66).map x).toArray := fun x => rfl
  have h1 : l = (A11 fun j => l.getD j undef).tmps := by
    rw [e]
    apply Array.ext_getElem?
    intro i
    by_cases h : i < 66
    · have h' : i < l.size := by omega
      simp [h, h', List.getElem?_range]
    · have h' : ¬ i < l.size := by omega
      rw [Array.getElem?_eq_none (by omega), Array.getElem?_eq_none (by simp; omega)]
  exact congrArg (Act.mk · []) h1
def bodyW : Code → Code := fun c => cA (cA (cB (cA (cB (cB (cB (cB (cB c))))))))
def inW : Code → Code := fun c => cA (cA (cB (cB (bodyW c))))
def incW : Code → Code := fun c => cB (cB (cB (bodyW c)))
def eagerG (κ : Int → Int → Fu BM) (q : Int) (next : Fu BM) (n : Int) : Fu BM := if q ≤ n then κ n 0 else next
def eagerB (κ : Int → Int → Fu BM) (k : Nat) (q : Int) (next : Fu BM) (b : Bool) : Fu BM := if b = true then κ 0 5 else limF k (eagerG κ q next)
def eagerL (κ : Int → Int → Fu BM) (k : Nat) (q : Int) (eager : Bool) : Nat → Nat → Fu BM
  | 0, _ => κ 0 4
  | r + 1, j => if eager = true ∨ j % 8 = 0 then stepF fun m => eagerB κ k q (eagerL κ k q eager r (j + 1)) m.al m else limF k (eagerG κ q (eagerL κ k q eager r (j + 1)))
structure X11 (Y : BL) (U : Tun) (i : Nat) (q way : Int) (T : Nat) (x : Nat → Value) : Prop where
  x0 : x 0 = .pointer (some ⟨Y.bb, 0, none⟩)
  x1 : x 1 = stp U i
  x2 : x 2 = .int .i64 q
  x4 : x 4 = .int .i64 way
  x42 : x 42 = .int .i64 T
section
variable {Y : BL} {U : Tun} {i : Nat} {A : Nat → Prop} {w₀ : W0 BM} {c : Frame} {cs : List Frame} {R : List Item}
def EagerAt (Y : BL) (U : Tun) (i : Nat) (A : Nat → Prop) (w₀ : W0 BM) (c : Frame) (cs : List Frame) (R : List Item) (κ : Int → Int → Fu BM) (q way : Int) (T r : Nat) : Prop :=
  ∀ (j : Nat) (x : Nat → Value) w m own ov bv, Ctx (BRep Y) U i own A w₀ w m ov bv → X11 Y U i q way T x → x 43 = .int .i64 j → j + r = T →
    TGO (BRep Y) Try.prog U i own w (eagerL κ Y.k q (way == 1) r j m) ov bv (G ((base 11).at (A11 x) (.code (bodyW c11) :: .inLoop (bodyW c11) :: .inBlock 0 :: R)) (c :: cs)) w
set_option maxRecDepth 100000 in
set_option maxHeartbeats 1000000 in
theorem eager_lim (hY : Y.Wf) {κ : Int → Int → Fu BM} {q way : Int} {T r : Nat} (hT : T ≤ 1024) (ih : EagerAt Y U i A w₀ c cs R κ q way T r) (hend : EndedC Y U i A w₀ c cs) (hret : ∀ v e, In64 v → In64 e → GOF (BRep Y) Try.prog U i (κ v e) A w₀ (G (c.finish (.tuple #[.int .i64 v, .int .i64 e])) cs)) {j : Nat} {x : Nat → Value} {w : World} {m : BM} {own : Nat → Owner} {ov bv : Nat → Bool}
    (C : Ctx (BRep Y) U i own A w₀ w m ov bv) (hx : X11 Y U i q way T x) (h43 : x 43 = .int .i64 j) (hr : j + 1 + r = T) {K : List Item} (hK : K = .inBlock 1 :: .code (incW c11) :: .inLoop (bodyW c11) :: .inBlock 0 :: R) :
    TGO (BRep Y) Try.prog U i own w (limF Y.k (eagerG κ q (eagerL κ Y.k q (way == 1) r (j + 1))) m) ov bv (G ((base 11).at (A11 x) (.code (cB (cB (inW c11))) :: K)) (c :: cs)) w := by
  have X := tgo_xc (Rep := BRep Y) (P := Try.prog) (U := U) (i := i) (own := own) (w := w) (ov := ov) (bv := bv) (mc := limF Y.k (eagerG κ q (eagerL κ Y.k q (way == 1) r (j + 1))) m)
  have hOk := C.seats.okd
  replace X := Lib.hid X
  replace ih := Lib.hid ih
  replace hK := Lib.hid hK
  unfold A11
  simp only [hx.x0, hx.x1, hx.x2, hx.x4, hx.x42, h43]
  generalize hnx : eagerL κ Y.k q (way == 1) r (j + 1) = next at X ⊢
  replace hnx := Lib.hid hnx
  rw [show cB (cB (inW c11)) = Code.seq (Code.region _ _ _) (Code.seq (Code.region _ _ _) (Code.cond _ _ _)) from rfl]
  refine x_seqR X.out fun R0 hR0 => ?_
  refine x_reg X.out 2 (by decide) (by decide) (calm0 (by kernel_rfl)) C.seats fun wp hp => ?_
  simp only [List.take_succ_cons, List.take_zero]
  replace hp := Lib.hid hp
  go_wp2_with fail
  refine after_same hp.out hOk ?_
  clear hp wp
  refine x_callF X.out rfl rfl (by decide) rfl Try.func12 (by kernel_rfl) (by kernel_rfl) ?_
  walk_nrm
  refine tgo_next (BRep.local Y) (limit_cps hY (κ := eagerG κ q next) (fun n hn => gof_of fun w m own ov bv C => ?_) (ended_up (calmRes_of Try.func11) rfl rfl hend)) C .refl .refl
  rw [Frame.finish_at]
  clear hOk X
  have X := tgo_xc (Rep := BRep Y) (P := Try.prog) (U := U) (i := i) (own := own) (w := w) (ov := ov) (bv := bv) (mc := eagerG κ q next n m)
  have hOk := C.seats.okd
  replace X := Lib.hid X
  generalize hmc : eagerG κ q next n m = mc at X ⊢
  replace hmc := Lib.hid hmc
  walk_nrm
  refine x_more X.out 3 1 (by decide) (by decide) (calm0 (by kernel_rfl)) C.seats fun wp hp => ?_
  simp only [List.drop_succ_cons, List.drop_zero, List.take_succ_cons, List.take_zero]
  replace hp := Lib.hid hp
  go_wp2_with fail
  refine after_same hp.out hOk ?_
  clear hp wp
  refine x_regionEnd X.out ?_
  obtain rfl := hR0.out
  clear hR0
  refine x_seqR X.out fun R0 hR0 => ?_
  refine x_seg X.out prgB (calmCode_of ext_ok (by kernel_rfl)) rfl (calmRes_of Try.func11) rfl C.seats fun wp hp => ?_
  replace hp := Lib.hid hp
  go_wp2_with fail
  refine ⟨w, rfl, hOk, hp.out, ?_⟩
  clear hp wp
  obtain rfl := hR0.out
  clear hR0
  obtain rfl := hmc.out
  by_cases hq : q ≤ n
  · have e : eagerG κ q next n = κ n 0 := by unfold eagerG; rw [if_pos hq]
    rw [e] at X ⊢
    have hq2 : decide (n ≥ q) = true := by simpa using hq
    refine x_cond X.out (t := true) (by simp only [Act.eval]; simpa using hq) ?_
    refine x_seqR X.out fun R0 hR0 => ?_
    refine x_seg X.out prgB (calmCode_of ext_ok (by kernel_rfl)) rfl (calmRes_of Try.func11) rfl C.seats fun wp hp => ?_
    replace hp := Lib.hid hp
    go_wp2_with fail
    refine ⟨w, rfl, hOk, hp.out, ?_⟩
    clear hp wp
    obtain rfl := hR0.out
    clear hR0
    refine x_ret X.out ?_
    refine x_leave X.out (calmRes_of Try.func11) C.seats ⟨rfl, rfl, rfl, _, Try.func11, results_tmp2 rfl _ _ _⟩ ?_
    exact tgo_next (BRep.local Y) (hret n 0 hn (by decide)) C .refl .refl
  · have e : eagerG κ q next n = next := by unfold eagerG; rw [if_neg hq]
    rw [e] at X ⊢
    refine x_cond X.out (t := false) (by simp only [Act.eval]; simpa using hq) ?_
    refine x_skip X.out ?_
    obtain rfl := hK.out
    refine x_inBlock X.out ?_
    have qq : IntKind.i64.wrap ((j : Int) + 1) = ((j + 1 : Nat) : Int) := by rw [IntKind.wrap_i64]; omega
    rw [show incW c11 = Code.region _ _ _ from rfl]
    refine x_seg X.out prgB (calmCode_of ext_ok (by kernel_rfl)) rfl (calmRes_of Try.func11) rfl C.seats fun wp hp => ?_
    replace hp := Lib.hid hp
    go_wp2_with fail
    refine ⟨w, rfl, hOk, hp.out, ?_⟩
    clear hp wp
    refine x_inLoop X.out ?_
    obtain rfl := hnx.out
    rw [a11_of _ rfl]
    exact ih.out (j + 1) _ _ _ _ _ _ C ⟨rfl, rfl, rfl, rfl, rfl⟩ rfl hr
set_option maxRecDepth 100000 in
set_option maxHeartbeats 1000000 in
theorem eager_loop (hY : Y.Wf) {κ : Int → Int → Fu BM} {q way : Int} {T : Nat} (hT : T ≤ 1024) (hend : EndedC Y U i A w₀ c cs) (hret : ∀ v e, In64 v → In64 e → GOF (BRep Y) Try.prog U i (κ v e) A w₀ (G (c.finish (.tuple #[.int .i64 v, .int .i64 e])) cs)) : ∀ r, EagerAt Y U i A w₀ c cs [.code (cB (cB (cB (cB (cB (cB c11))))))] κ q way T r := by
  intro r
  induction r with
  | zero =>
    intro j x w m own ov bv C hx h43 hr
    have X := tgo_xc (Rep := BRep Y) (P := Try.prog) (U := U) (i := i) (own := own) (w := w) (ov := ov) (bv := bv) (mc := eagerL κ Y.k q (way == 1) 0 j m)
    have hOk := C.seats.okd
    replace X := Lib.hid X
    have e1 : ¬ (j : Int) < (T : Int) := by omega
    refine x_seqB X.out rfl fun R0 hR0 => ?_
    rw [show cA (bodyW c11) = Code.region _ _ _ from rfl]
    unfold A11
    simp only [hx.x0, hx.x1, hx.x2, hx.x4, hx.x42, h43]
    refine x_seg X.out prgB (calmCode_of ext_ok (by kernel_rfl)) rfl (calmRes_of Try.func11) rfl C.seats fun wp hp => ?_
    replace hp := Lib.hid hp
    go_wp2_with fail
    refine ⟨w, rfl, hOk, hp.out, ?_⟩
    clear hp wp
    obtain rfl := hR0.out
    clear hR0
    refine x_seqB X.out rfl fun R0 hR0 => ?_
    rw [show cA (cB (bodyW c11)) = Code.cond _ _ _ from rfl]
    refine x_cond X.out (t := false) rfl ?_
    obtain rfl := hR0.out
    clear hR0
    refine x_exit X.out rfl ?_
    rw [show cB (cB (cB (cB (cB (cB c11))))) = Code.seq (Code.region _ _ _) Code.ret from rfl]
    refine x_seqR X.out fun R0 hR0 => ?_
    refine x_seg X.out prgB (calmCode_of ext_ok (by kernel_rfl)) rfl (calmRes_of Try.func11) rfl C.seats fun wp hp => ?_
    replace hp := Lib.hid hp
    go_wp2_with fail
    refine ⟨w, rfl, hOk, hp.out, ?_⟩
    clear hp wp
    obtain rfl := hR0.out
    clear hR0
    refine x_ret X.out ?_
    refine x_leave X.out (calmRes_of Try.func11) C.seats ⟨rfl, rfl, rfl, _, Try.func11, results_tmp2 rfl _ _ _⟩ ?_
    exact tgo_next (BRep.local Y) (hret 0 4 (by decide) (by decide)) C .refl .refl
  | succ r ih =>
    intro j x w m own ov bv C hx h43 hr
    have X := tgo_xc (Rep := BRep Y) (P := Try.prog) (U := U) (i := i) (own := own) (w := w) (ov := ov) (bv := bv) (mc := eagerL κ Y.k q (way == 1) (r + 1) j m)
    have hOk := C.seats.okd
    replace X := Lib.hid X
    generalize hmc : eagerL κ Y.k q (way == 1) (r + 1) j m = mc at X ⊢
    replace hmc := Lib.hid hmc
    generalize hnx : eagerL κ Y.k q (way == 1) r (j + 1) = next
    replace hnx := Lib.hid hnx
    replace ih := Lib.hid ih
    have e1 : (j : Int) < (T : Int) := by omega
    refine x_seqB X.out rfl fun R0 hR0 => ?_
    rw [show cA (bodyW c11) = Code.region _ _ _ from rfl]
    unfold A11
    simp only [hx.x0, hx.x1, hx.x2, hx.x4, hx.x42, h43]
    refine x_seg X.out prgB (calmCode_of ext_ok (by kernel_rfl)) rfl (calmRes_of Try.func11) rfl C.seats fun wp hp => ?_
    replace hp := Lib.hid hp
    go_wp2_with fail
    refine ⟨w, rfl, hOk, hp.out, ?_⟩
    clear hp wp
    obtain rfl := hR0.out
    clear hR0
    refine x_seqB X.out rfl fun R0 hR0 => ?_
    rw [show cA (cB (bodyW c11)) = Code.cond _ _ _ from rfl]
    refine x_cond X.out (t := true) rfl ?_
    refine x_skip X.out ?_
    obtain rfl := hR0.out
    clear hR0
    refine x_seqB X.out rfl fun R0 hR0 => ?_
    rw [show cA (cB (cB (bodyW c11))) = Code.block _ _ from rfl]
    refine x_block X.out ?_
    obtain rfl := hR0.out
    clear hR0
    generalize hK : Item.inBlock 1 :: Item.code (cB (cB (cB (bodyW c11)))) :: Item.inLoop (bodyW c11) :: Item.inBlock 0 :: [Item.code (cB (cB (cB (cB (cB (cB c11))))))] = K
    have hR0 := Lib.hid hK.symm
    clear hK
    refine x_seqR X.out fun R1 hR1 => ?_
    refine x_seg X.out prgB (calmCode_of ext_ok (by kernel_rfl)) rfl (calmRes_of Try.func11) rfl C.seats fun wp hp => ?_
    replace hp := Lib.hid hp
    go_wp2_with fail
    refine ⟨w, rfl, hOk, hp.out, ?_⟩
    clear hp wp
    obtain rfl := hR1.out
    clear hR1
    refine x_seqR X.out fun R1 hR1 => ?_
    refine x_seqR X.out fun R2 hR2 => ?_
    by_cases hw : way = 1
    · have hz : (way == 1) = true := by rw [hw]; rfl
      have e : eagerL κ Y.k q (way == 1) (r + 1) j = stepF fun m => eagerB κ Y.k q next m.al m := by
        rw [← hnx.out]; show (if _ then _ else _) = _; rw [if_pos (.inl hz)]
      obtain rfl := hmc.out
      rw [e] at X ⊢
      clear hmc e
      replace hw := Lib.hid hw
      replace hz := Lib.hid hz
      refine x_reg X.out 10 (by decide) (by decide) (calm0 (by kernel_rfl)) C.seats fun wp hp => ?_
      simp only [List.take_succ_cons, List.take_zero]
      replace hp := Lib.hid hp
      have hz := hz.out
      go_wp2_with fail
      refine after_same hp.out hOk ?_
      clear hp wp
      refine x_callF X.out rfl rfl (by decide) rfl Try.func13 (by kernel_rfl) (by kernel_rfl) ?_
      walk_nrm
      refine tgo_next (BRep.local Y) (alerted_cps (Y := Y) (κ := eagerB κ Y.k q next) (fun b => gof_of fun w m own ov bv C => ?_) (ended_up (calmRes_of Try.func11) rfl rfl hend)) C .refl .refl
      rw [Frame.finish_at]
      clear hOk X
      have X := tgo_xc (Rep := BRep Y) (P := Try.prog) (U := U) (i := i) (own := own) (w := w) (ov := ov) (bv := bv) (mc := eagerB κ Y.k q next b m)
      have hOk := C.seats.okd
      replace X := Lib.hid X
      walk_nrm
      cases b with
      | true =>
        have e : eagerB κ Y.k q next true = κ 0 5 := rfl
        rw [e] at X ⊢
        refine x_more X.out 11 1 (by decide) (by decide) (calm0 (by kernel_rfl)) C.seats fun wp hp => ?_
        simp only [List.drop_succ_cons, List.drop_zero, List.take_succ_cons, List.take_zero]
        replace hp := Lib.hid hp
        go_wp2_with fail
        refine after_same hp.out hOk ?_
        clear hp wp
        refine x_regionEnd X.out ?_
        obtain rfl := hR2.out
        refine x_cond X.out (t := true) rfl ?_
        refine x_seqR X.out fun R0 hR0 => ?_
        refine x_seg X.out prgB (calmCode_of ext_ok (by kernel_rfl)) rfl (calmRes_of Try.func11) rfl C.seats fun wp hp => ?_
        replace hp := Lib.hid hp
        go_wp2_with fail
        refine ⟨w, rfl, hOk, hp.out, ?_⟩
        clear hp wp
        obtain rfl := hR0.out
        clear hR0
        refine x_ret X.out ?_
        refine x_leave X.out (calmRes_of Try.func11) C.seats ⟨rfl, rfl, rfl, _, Try.func11, results_tmp2 rfl _ _ _⟩ ?_
        exact tgo_next (BRep.local Y) (hret 0 5 (by decide) (by decide)) C .refl .refl
      | false =>
        have e : eagerB κ Y.k q next false = limF Y.k (eagerG κ q next) := rfl
        rw [e] at X ⊢
        refine x_more X.out 11 1 (by decide) (by decide) (calm0 (by kernel_rfl)) C.seats fun wp hp => ?_
        simp only [List.drop_succ_cons, List.drop_zero, List.take_succ_cons, List.take_zero]
        replace hp := Lib.hid hp
        go_wp2_with fail
        refine after_same hp.out hOk ?_
        clear hp wp
        refine x_regionEnd X.out ?_
        obtain rfl := hR2.out
        refine x_cond X.out (t := false) rfl ?_
        refine x_skip X.out ?_
        obtain rfl := hR1.out
        obtain rfl := hnx.out
        rw [a11_of _ rfl]
        exact eager_lim hY hT ih.out hend hret C ⟨rfl, rfl, rfl, rfl, rfl⟩ rfl (by omega) hR0.out
    · have hz : (way == 1) = false := by simpa using hw
      by_cases hm : j % 8 = 0
      · have e : eagerL κ Y.k q (way == 1) (r + 1) j = stepF fun m => eagerB κ Y.k q next m.al m := by
          rw [← hnx.out]; show (if _ then _ else _) = _; rw [if_pos (.inr hm)]
        have hz2 : (j : Int) % 8 = 0 := by omega
        obtain rfl := hmc.out
        rw [e] at X ⊢
        clear hmc e
        replace hm := Lib.hid hm
        replace hw := Lib.hid hw
        refine x_reg X.out 10 (by decide) (by decide) (calm0 (by kernel_rfl)) C.seats fun wp hp => ?_
        simp only [List.take_succ_cons, List.take_zero]
        replace hp := Lib.hid hp
        go_wp2_with fail
        refine after_same hp.out hOk ?_
        clear hp wp
        refine x_callF X.out rfl rfl (by decide) rfl Try.func13 (by kernel_rfl) (by kernel_rfl) ?_
        walk_nrm
        refine tgo_next (BRep.local Y) (alerted_cps (Y := Y) (κ := eagerB κ Y.k q next) (fun b => gof_of fun w m own ov bv C => ?_) (ended_up (calmRes_of Try.func11) rfl rfl hend)) C .refl .refl
        rw [Frame.finish_at]
        clear hOk X
        have X := tgo_xc (Rep := BRep Y) (P := Try.prog) (U := U) (i := i) (own := own) (w := w) (ov := ov) (bv := bv) (mc := eagerB κ Y.k q next b m)
        have hOk := C.seats.okd
        replace X := Lib.hid X
        walk_nrm
        cases b with
        | true =>
          have e : eagerB κ Y.k q next true = κ 0 5 := rfl
          rw [e] at X ⊢
          refine x_more X.out 11 1 (by decide) (by decide) (calm0 (by kernel_rfl)) C.seats fun wp hp => ?_
          simp only [List.drop_succ_cons, List.drop_zero, List.take_succ_cons, List.take_zero]
          replace hp := Lib.hid hp
          go_wp2_with fail
          refine after_same hp.out hOk ?_
          clear hp wp
          refine x_regionEnd X.out ?_
          obtain rfl := hR2.out
          refine x_cond X.out (t := true) rfl ?_
          refine x_seqR X.out fun R0 hR0 => ?_
          refine x_seg X.out prgB (calmCode_of ext_ok (by kernel_rfl)) rfl (calmRes_of Try.func11) rfl C.seats fun wp hp => ?_
          replace hp := Lib.hid hp
          go_wp2_with fail
          refine ⟨w, rfl, hOk, hp.out, ?_⟩
          clear hp wp
          obtain rfl := hR0.out
          clear hR0
          refine x_ret X.out ?_
          refine x_leave X.out (calmRes_of Try.func11) C.seats ⟨rfl, rfl, rfl, _, Try.func11, results_tmp2 rfl _ _ _⟩ ?_
          exact tgo_next (BRep.local Y) (hret 0 5 (by decide) (by decide)) C .refl .refl
        | false =>
          have e : eagerB κ Y.k q next false = limF Y.k (eagerG κ q next) := rfl
          rw [e] at X ⊢
          refine x_more X.out 11 1 (by decide) (by decide) (calm0 (by kernel_rfl)) C.seats fun wp hp => ?_
          simp only [List.drop_succ_cons, List.drop_zero, List.take_succ_cons, List.take_zero]
          replace hp := Lib.hid hp
          go_wp2_with fail
          refine after_same hp.out hOk ?_
          clear hp wp
          refine x_regionEnd X.out ?_
          obtain rfl := hR2.out
          refine x_cond X.out (t := false) rfl ?_
          refine x_skip X.out ?_
          obtain rfl := hR1.out
          obtain rfl := hnx.out
          rw [a11_of _ rfl]
          exact eager_lim hY hT ih.out hend hret C ⟨rfl, rfl, rfl, rfl, rfl⟩ rfl (by omega) hR0.out
      · have e : eagerL κ Y.k q (way == 1) (r + 1) j = limF Y.k (eagerG κ q next) := by
          rw [← hnx.out]; show (if _ then _ else _) = _; rw [if_neg (by rw [hz]; simp [hm])]
        have hz2 : ¬ (j : Int) % 8 = 0 := by omega
        obtain rfl := hmc.out
        rw [e] at X ⊢
        clear hmc e
        generalize hmc : limF Y.k (eagerG κ q next) m = mc at X ⊢
        replace hmc := Lib.hid hmc
        replace hm := Lib.hid hm
        replace hw := Lib.hid hw
        refine x_reg X.out 10 (by decide) (by decide) (calm0 (by kernel_rfl)) C.seats fun wp hp => ?_
        simp only [List.take_succ_cons, List.take_zero]
        replace hp := Lib.hid hp
        go_wp2_with fail
        refine after_same hp.out hOk ?_
        clear hp wp
        have hz3 : ((j : Int) % 8 == 0) = false := by simpa using hz2
        simp only [hz3]
        refine x_unwanted X.out rfl rfl ?_
        walk_nrm
        refine x_more X.out 11 1 (by decide) (by decide) (calm0 (by kernel_rfl)) C.seats fun wp hp => ?_
        simp only [List.drop_succ_cons, List.drop_zero, List.take_succ_cons, List.take_zero]
        replace hp := Lib.hid hp
        go_wp2_with fail
        refine after_same hp.out hOk ?_
        clear hp wp
        refine x_regionEnd X.out ?_
        obtain rfl := hR2.out
        refine x_cond X.out (t := false) rfl ?_
        refine x_skip X.out ?_
        obtain rfl := hR1.out
        obtain rfl := hmc.out
        obtain rfl := hnx.out
        rw [a11_of _ rfl]
        exact eager_lim hY hT ih.out hend hret C ⟨rfl, rfl, rfl, rfl, rfl⟩ rfl (by omega) hR0.out
end
end Go.Proofs.Ytimkkeomdkbcjaa

/-
  The barrier's Wait, as a thread, whole. No condition of its own.
-/
namespace Go.Proofs.Ytimkkeomdkbcjaa
open Go.Conc Go.RowKit
open Go.ConcN (upd upd_ne upd_same)
def triesT (t : Int) : Nat := (min (max t 1) 1024).toNat
def waitT (κ : Int → Int → Fu BM) (k : Nat) (q way : Int) (T : Nat) : Fu BM := if way = 2 then leanL κ k q T 0 0 else eagerL κ k q (way == 1) T 0
def waitF (κ : Int → Int → Fu BM) (k : Nat) (q tries way : Int) : Fu BM := if way < 1 ∨ 3 < way then κ 0 2 else if k = 0 then κ 0 6 else waitT κ k q way (triesT tries)
section
variable {Y : BL} {U : Tun} {i : Nat} {A : Nat → Prop} {w₀ : W0 BM} {c : Frame} {cs : List Frame} {R : List Item}
set_option maxRecDepth 100000 in
set_option maxHeartbeats 1000000 in
theorem wait_rest (hY : Y.Wf) (hk : 0 < Y.k) {κ : Int → Int → Fu BM} {q way : Int} {T : Nat} (hT : T ≤ 1024) (hend : EndedC Y U i A w₀ c cs) (hret : ∀ v e, In64 v → In64 e → GOF (BRep Y) Try.prog U i (κ v e) A w₀ (G (c.finish (.tuple #[.int .i64 v, .int .i64 e])) cs))
    {x : Nat → Value} {w : World} {m : BM} {own : Nat → Owner} {ov bv : Nat → Bool} (C : Ctx (BRep Y) U i own A w₀ w m ov bv) (x0 : x 0 = .pointer (some ⟨Y.bb, 0, none⟩)) (x1 : x 1 = stp U i) (x2 : x 2 = .int .i64 q) (x3 : x 3 = .int .i64 T) (x4 : x 4 = .int .i64 way) :
    TGO (BRep Y) Try.prog U i own w (waitT κ Y.k q way T m) ov bv (G ((base 11).at (A11 x) [.code (cB (cB (cB (cB c11))))]) (c :: cs)) w := by
  have X := tgo_xc (Rep := BRep Y) (P := Try.prog) (U := U) (i := i) (own := own) (w := w) (ov := ov) (bv := bv) (mc := waitT κ Y.k q way T m)
  have hOk := C.seats.okd
  replace X := Lib.hid X
  unfold A11
  simp only [x0, x1, x2, x3, x4]
  generalize hmc : waitT κ Y.k q way T m = mc at X ⊢
  replace hmc := Lib.hid hmc
  rw [show cB (cB (cB (cB c11))) = Code.seq (Code.seq (Code.region _ _ _) (Code.cond _ _ _)) _ from rfl]
  refine x_seqR X.out fun R0 hR0 => ?_
  refine x_seqR X.out fun R1 hR1 => ?_
  by_cases hw : way = 2
  · have e : waitT κ Y.k q way T = leanL κ Y.k q T 0 0 := by unfold waitT; rw [if_pos hw]
    have hz : (way == 2) = true := by rw [hw]; rfl
    obtain rfl := hmc.out
    rw [e] at X ⊢
    clear hmc e
    replace hw := Lib.hid hw
    refine x_seg X.out prgB (calmCode_of ext_ok (by kernel_rfl)) rfl (calmRes_of Try.func11) rfl C.seats fun wp hp => ?_
    replace hp := Lib.hid hp
    go_wp2_with fail
    refine ⟨w, rfl, hOk, hp.out, ?_⟩
    clear hp wp
    obtain rfl := hR1.out
    refine x_cond X.out (t := true) rfl ?_
    refine x_seqR X.out fun R2 hR2 => ?_
    refine x_reg X.out 4 (by decide) (by decide) (calm0 (by kernel_rfl)) C.seats fun wp hp => ?_
    simp only [List.take_succ_cons, List.take_zero]
    replace hp := Lib.hid hp
    go_wp2_with fail
    refine after_same hp.out hOk ?_
    clear hp wp
    refine x_callF X.out rfl rfl (by decide) rfl Try.func22 (by kernel_rfl) (by kernel_rfl) ?_
    walk_nrm
    refine tgo_next (BRep.local Y) (lean_cps hY hk hT (ended_up (calmRes_of Try.func11) rfl rfl hend) (fun v e hv he => gof_of fun w m own ov bv C => ?_)) C .refl .refl
    rw [Frame.finish_at]
    clear hOk X
    have X := tgo_xc (Rep := BRep Y) (P := Try.prog) (U := U) (i := i) (own := own) (w := w) (ov := ov) (bv := bv) (mc := κ v e m)
    have hOk := C.seats.okd
    replace X := Lib.hid X
    walk_nrm
    refine x_more X.out 5 4 (by decide) (by decide) (calm0 (by kernel_rfl)) C.seats fun wp hp => ?_
    simp only [List.drop_succ_cons, List.drop_zero, List.take_succ_cons, List.take_zero]
    replace hp := Lib.hid hp
    go_wp2_with fail
    refine after_same hp.out hOk ?_
    clear hp wp
    refine x_regionEnd X.out ?_
    obtain rfl := hR2.out
    refine x_ret X.out ?_
    refine x_leave X.out (calmRes_of Try.func11) C.seats ⟨rfl, rfl, rfl, _, Try.func11, results_tmp2 rfl _ _ _⟩ ?_
    exact tgo_next (BRep.local Y) (hret v e hv he) C .refl .refl
  · have e : waitT κ Y.k q way T = eagerL κ Y.k q (way == 1) T 0 := by unfold waitT; rw [if_neg hw]
    have hz : (way == 2) = false := by simpa using hw
    obtain rfl := hmc.out
    rw [e] at X ⊢
    clear hmc e
    generalize hmc : eagerL κ Y.k q (way == 1) T 0 m = mc at X ⊢
    replace hmc := Lib.hid hmc
    replace hw := Lib.hid hw
    refine x_seg X.out prgB (calmCode_of ext_ok (by kernel_rfl)) rfl (calmRes_of Try.func11) rfl C.seats fun wp hp => ?_
    replace hp := Lib.hid hp
    go_wp2_with fail
    refine ⟨w, rfl, hOk, hp.out, ?_⟩
    clear hp wp
    obtain rfl := hR1.out
    refine x_cond X.out (t := false) rfl ?_
    refine x_skip X.out ?_
    obtain rfl := hR0.out
    clear hR0 hR1
    refine x_seqR X.out fun R2 hR2 => ?_
    refine x_seqR X.out fun R3 hR3 => ?_
    refine x_seg X.out prgB (calmCode_of ext_ok (by kernel_rfl)) rfl (calmRes_of Try.func11) rfl C.seats fun wp hp => ?_
    replace hp := Lib.hid hp
    go_wp2_with fail
    refine ⟨w, rfl, hOk, hp.out, ?_⟩
    clear hp wp
    obtain rfl := hR3.out
    refine x_block X.out ?_
    refine x_loop X.out ?_
    obtain rfl := hR2.out
    obtain rfl := hmc.out
    rw [a11_of _ rfl]
    exact eager_loop hY hT hend hret T 0 _ _ _ _ _ _ C ⟨rfl, rfl, rfl, rfl, rfl⟩ rfl (by omega)
set_option maxRecDepth 100000 in
set_option maxHeartbeats 1000000 in
theorem wait_cps (hY : Y.Wf) {κ : Int → Int → Fu BM} {q way tries : Int} (hend : EndedC Y U i A w₀ c cs) (hret : ∀ v e, In64 v → In64 e → GOF (BRep Y) Try.prog U i (κ v e) A w₀ (G (c.finish (.tuple #[.int .i64 v, .int .i64 e])) cs)) :
    GOF (BRep Y) Try.prog U i (waitF κ Y.k q tries way) A w₀ (G (Frame.enter Try.prog 11 #[.pointer (some ⟨Y.bb, 0, none⟩), stp U i, .int .i64 q, .int .i64 tries, .int .i64 way] .normal) (c :: cs)) := by
  refine gof_of fun w m own ov bv C => ?_
  have X := tgo_xc (Rep := BRep Y) (P := Try.prog) (U := U) (i := i) (own := own) (w := w) (ov := ov) (bv := bv) (mc := waitF κ Y.k q tries way m)
  have hOk := C.seats.okd
  replace X := Lib.hid X
  rw [enter_at _ Try.func11 rfl]
  simp only [Try.ntmps11, List.size_toArray, List.length_cons, List.length_nil, Nat.reduceAdd, Nat.reduceSub, Array.replicate_succ,
     Array.replicate_zero, List.push_toArray, List.append_toArray, List.nil_append, List.cons_append]
  generalize hmc : waitF κ Y.k q tries way m = mc at X ⊢
  replace hmc := Lib.hid hmc
  refine x_seqR X.out fun R0 hR0 => ?_
  refine x_seg X.out prgB (calmCode_of ext_ok (by kernel_rfl)) rfl (calmRes_of Try.func11) rfl C.seats fun wp hp => ?_
  replace hp := Lib.hid hp
  go_wp2_with fail
  refine ⟨w, rfl, hOk, hp.out, ?_⟩
  clear hp wp
  obtain rfl := hR0.out
  clear hR0
  refine x_seqR X.out fun R0 hR0 => ?_
  refine x_seqR X.out fun R1 hR1 => ?_
  by_cases h1 : way < 1
  · have e : waitF κ Y.k q tries way = κ 0 2 := by unfold waitF; rw [if_pos (.inl h1)]
    obtain rfl := hmc.out
    rw [e] at X ⊢
    clear hmc e
    refine x_seg X.out prgB (calmCode_of ext_ok (by kernel_rfl)) rfl (calmRes_of Try.func11) rfl C.seats fun wp hp => ?_
    replace hp := Lib.hid hp
    go_wp2_with fail
    refine ⟨w, rfl, hOk, hp.out, ?_⟩
    clear hp wp
    obtain rfl := hR1.out
    refine x_cond X.out (t := true) rfl ?_
    refine x_seqR X.out fun R2 hR2 => ?_
    refine x_seg X.out prgB (calmCode_of ext_ok (by kernel_rfl)) rfl (calmRes_of Try.func11) rfl C.seats fun wp hp => ?_
    replace hp := Lib.hid hp
    go_wp2_with fail
    refine ⟨w, rfl, hOk, hp.out, ?_⟩
    clear hp wp
    obtain rfl := hR2.out
    refine x_ret X.out ?_
    refine x_leave X.out (calmRes_of Try.func11) C.seats ⟨rfl, rfl, rfl, _, Try.func11, results_tmp2 rfl _ _ _⟩ ?_
    exact tgo_next (BRep.local Y) (hret 0 2 (by decide) (by decide)) C .refl .refl
  by_cases h3 : 3 < way
  · have e : waitF κ Y.k q tries way = κ 0 2 := by unfold waitF; rw [if_pos (.inr h3)]
    obtain rfl := hmc.out
    rw [e] at X ⊢
    clear hmc e
    have hgt : decide (way > 3) = true := by simpa using h3
    refine x_seg X.out prgB (calmCode_of ext_ok (by kernel_rfl)) rfl (calmRes_of Try.func11) rfl C.seats fun wp hp => ?_
    replace hp := Lib.hid hp
    go_wp2_with fail
    refine ⟨w, rfl, hOk, hp.out, ?_⟩
    clear hp wp
    obtain rfl := hR1.out
    refine x_cond X.out (t := true) rfl ?_
    refine x_seqR X.out fun R2 hR2 => ?_
    refine x_seg X.out prgB (calmCode_of ext_ok (by kernel_rfl)) rfl (calmRes_of Try.func11) rfl C.seats fun wp hp => ?_
    replace hp := Lib.hid hp
    go_wp2_with fail
    refine ⟨w, rfl, hOk, hp.out, ?_⟩
    clear hp wp
    obtain rfl := hR2.out
    refine x_ret X.out ?_
    refine x_leave X.out (calmRes_of Try.func11) C.seats ⟨rfl, rfl, rfl, _, Try.func11, results_tmp2 rfl _ _ _⟩ ?_
    exact tgo_next (BRep.local Y) (hret 0 2 (by decide) (by decide)) C .refl .refl
  refine x_seg X.out prgB (calmCode_of ext_ok (by kernel_rfl)) rfl (calmRes_of Try.func11) rfl C.seats fun wp hp => ?_
  replace hp := Lib.hid hp
  go_wp2_with fail
  refine ⟨w, rfl, hOk, hp.out, ?_⟩
  clear hp wp
  obtain rfl := hR1.out
  refine x_cond X.out (t := false) rfl ?_
  refine x_skip X.out ?_
  obtain rfl := hR0.out
  clear hR0
  clear hR1
  refine x_seqR X.out fun R0 hR0 => ?_
  refine x_seqR X.out fun R1 hR1 => ?_
  refine x_seg X.out prgB (calmCode_of ext_ok (by kernel_rfl)) rfl (calmRes_of Try.func11) rfl C.seats fun wp hp => ?_
  have hB := (simCellT hp _).trans (cellAt C.rep.bb.2 0)
  simp only [List.getElem?_toArray, List.getElem?_cons_zero] at hB
  replace hp := Lib.hid hp
  go_wp2_with fail
  refine ⟨w, rfl, hOk, hp.out, ?_⟩
  clear hp hB wp
  obtain rfl := hR1.out
  clear hR1
  by_cases hk0 : Y.k = 0
  · have e : waitF κ Y.k q tries way = κ 0 6 := by unfold waitF; rw [if_neg (by omega), if_pos hk0]
    have hz : ((Y.k : Int) == 0) = true := by rw [hk0]; rfl
    obtain rfl := hmc.out
    rw [e] at X ⊢
    clear hmc e
    simp only [hz]
    replace hk0 := Lib.hid hk0
    refine x_cond X.out (t := true) rfl ?_
    refine x_seqR X.out fun R2 hR2 => ?_
    refine x_seg X.out prgB (calmCode_of ext_ok (by kernel_rfl)) rfl (calmRes_of Try.func11) rfl C.seats fun wp hp => ?_
    replace hp := Lib.hid hp
    go_wp2_with fail
    refine ⟨w, rfl, hOk, hp.out, ?_⟩
    clear hp wp
    obtain rfl := hR2.out
    refine x_ret X.out ?_
    refine x_leave X.out (calmRes_of Try.func11) C.seats ⟨rfl, rfl, rfl, _, Try.func11, results_tmp2 rfl _ _ _⟩ ?_
    exact tgo_next (BRep.local Y) (hret 0 6 (by decide) (by decide)) C .refl .refl
  have e : waitF κ Y.k q tries way = waitT κ Y.k q way (triesT tries) := by unfold waitF; rw [if_neg (by omega), if_neg hk0]
  have hkp : 0 < Y.k := by omega
  replace hkp := Lib.hid hkp
  have hz : ((Y.k : Int) == 0) = false := by
    have : (Y.k : Int) ≠ 0 := by omega
    simpa using this
  simp only [hz]
  obtain rfl := hmc.out
  rw [e] at X ⊢
  clear hmc e
  generalize hmc : waitT κ Y.k q way (triesT tries) m = mc at X ⊢
  replace hmc := Lib.hid hmc
  refine x_cond X.out (t := false) rfl ?_
  refine x_skip X.out ?_
  obtain rfl := hR0.out
  clear hR0
  clear hz hk0
  refine x_seqR X.out fun R0 hR0 => ?_
  by_cases t1 : tries < 1
  · have t0 : ¬ 1 ≤ tries := by omega
    have hT3 : triesT tries = 1 := by unfold triesT; omega
    obtain rfl := hmc.out
    rw [hT3] at X ⊢
    clear hmc
    generalize hmc : waitT κ Y.k q way (1) m = mc at X ⊢
    replace hmc := Lib.hid hmc
    replace hT3 := Lib.hid hT3
    refine x_seg X.out prgB (calmCode_of ext_ok (by kernel_rfl)) rfl (calmRes_of Try.func11) rfl C.seats fun wp hp => ?_
    replace hp := Lib.hid hp
    go_wp2_with fail
    refine ⟨w, rfl, hOk, hp.out, ?_⟩
    clear hp wp
    obtain rfl := hR0.out
    obtain rfl := hmc.out
    rw [a11_of _ rfl]
    exact wait_rest hY hkp.out (by omega) hend hret C rfl rfl rfl rfl rfl
  by_cases t2 : tries ≤ 1024
  · obtain ⟨T, rfl⟩ : ∃ T : Nat, tries = T := ⟨tries.toNat, by omega⟩
    have hT3 : triesT (T : Int) = T := by unfold triesT; omega
    obtain rfl := hmc.out
    rw [hT3] at X ⊢
    clear hmc
    generalize hmc : waitT κ Y.k q way (T) m = mc at X ⊢
    replace hmc := Lib.hid hmc
    replace hT3 := Lib.hid hT3
    refine x_seg X.out prgB (calmCode_of ext_ok (by kernel_rfl)) rfl (calmRes_of Try.func11) rfl C.seats fun wp hp => ?_
    replace hp := Lib.hid hp
    go_wp2_with fail
    refine ⟨w, rfl, hOk, hp.out, ?_⟩
    clear hp wp
    obtain rfl := hR0.out
    obtain rfl := hmc.out
    rw [a11_of _ rfl]
    exact wait_rest hY hkp.out (by omega) hend hret C rfl rfl rfl rfl rfl
  · have t0 : 1 ≤ tries := by omega
    have hT3 : triesT tries = 1024 := by unfold triesT; omega
    obtain rfl := hmc.out
    rw [hT3] at X ⊢
    clear hmc
    generalize hmc : waitT κ Y.k q way (1024) m = mc at X ⊢
    replace hmc := Lib.hid hmc
    replace hT3 := Lib.hid hT3
    refine x_seg X.out prgB (calmCode_of ext_ok (by kernel_rfl)) rfl (calmRes_of Try.func11) rfl C.seats fun wp hp => ?_
    replace hp := Lib.hid hp
    go_wp2_with fail
    refine ⟨w, rfl, hOk, hp.out, ?_⟩
    clear hp wp
    obtain rfl := hR0.out
    obtain rfl := hmc.out
    rw [a11_of _ rfl]
    exact wait_rest hY hkp.out (by omega) hend hret C rfl rfl rfl rfl rfl
end
end Go.Proofs.Ytimkkeomdkbcjaa
