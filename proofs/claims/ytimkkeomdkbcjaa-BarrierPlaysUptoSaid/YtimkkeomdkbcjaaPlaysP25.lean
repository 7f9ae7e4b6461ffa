/-
  Merged out of: Fin Run Bar0 Bar1 Bar2. No condition of its own.
-/
import Derived.Test.YtimkkeomdkbcjaaPlaysP24
import Derived.LaidEql
import Derived.Test.YtimkkeomdkbcjaaPlaysP22
set_option linter.unusedVariables false
set_option linter.unusedSimpArgs false
/-
  A THREAD's END: run's deferred call. No condition of its own.
-/
namespace Go.Proofs.Ytimkkeomdkbcjaa
open Go.Conc Go.RowKit
open Go.ConcN (upd upd_ne upd_same)
noncomputable def botF (P : Program) : Frame := { (default : Frame) with fn := P.funcs.size, defers := [], mode := .panicking [goexitEntry] }
theorem bot_quits (P : Program) : QuitsD P 1 0 (G (botF P) []) := by
  refine .inr ⟨rfl, { G (botF P) [] with status := .finished }, #[], by simp, fun w => ?_, rfl, rfl⟩
  have hc : (botF P).catches P = false := by
    unfold Frame.catches
    have : P.funcs[(botF P).fn]? = none := Array.getElem?_eq_none (Nat.le_refl _)
    have ht : (botF P).todo = [] := rfl
    rw [this, ht]
  have hm : (botF P).mode ≠ .run := by simp [botF]
  rw [stepG_unwind hm]
  unfold unwind
  have h1 : (botF P).defers = [] := rfl
  have h2 : (botF P).mode = .panicking [goexitEntry] := rfl
  rw [h1]
  simp only [h2, hc]
  simp [goexitEntry, G]
theorem leaves_ctl {P : Program} {g g' : Goroutine} (hs : g.status = .running) (h : ∀ w, stepG P false g w = .go g' w #[]) (hq : Leaves P g') : Leaves P g := by
  obtain ⟨n, hq⟩ := hq
  exact ⟨n + 1, .inr ⟨hs, g', #[], by simp, h, hq⟩⟩
theorem okd_alloc {D : Nat → Option (Nat × Nat)} {w : World} (h : Okd D w) (o : Obj) : Okd D (w.alloc o) := fun b r hb => by
  obtain ⟨c, e, q⟩ := h b r hb
  exact ⟨c, e, (Below.heap_alloc _ _ _ (Array.getElem?_eq_some_iff.1 q).1).trans q⟩
theorem okd_set {D : Nat → Option (Nat × Nat)} {w : World} (h : Okd D w) (a : Addr) (v : Value) : Okd D (w.setCell a v) := fun b r hb => by
  obtain ⟨c, e, q⟩ := h b r hb
  by_cases hab : b = a.block
  · subst hab
    simp only [World.setCell, Array.getElem?_modify, if_true, q, Option.map_some]
    exact ⟨_, _, rfl⟩
  · exact ⟨c, e, (Below.heap_setCell _ _ _ _ hab).trans q⟩
theorem putAt {w : World} {b : Nat} {c : Array Value} {e : TypeId} {f : Nat × Nat} (h : w.heap[b]? = some (.cells c e f)) (i : Nat) (v : Value) : (w.setCell ⟨b, i, none⟩ v).heap[b]? = some (.cells (c.setIfInBounds i v) e f) := by
  simp [World.setCell, Array.getElem?_modify, h]
theorem x_val {P : Program} {main : Bool} {K : World → Prop} {Still : Loc → Prop} {Inb : Nat → Option Seat} {GO : Goroutine → World → Prop} {b : Frame} {a : Act} {k : List Item} {cs : List Frame} {w : World} {ops : Array Oper} {i : Nat} {rest : List Nat} {o : Oper} (X : XC P main K Still Inb GO) {v : Value} (ho : ops[i]? = some o) (hw : Region.wanted o (yielded ops a.tmps) = true) (hk : b.kind ≠ .early) (hr : ∀ w, (execOp a.eval o).runT P w #[] = (.ok (.value v) w, #[])) (h : GO (G (b.at (a.put o.dst v) (.inRegion ops rest :: k)) cs) w) : GO (G (b.at a (.inRegion ops (i :: rest) :: k)) cs) w :=
  X.ctl rfl (fun w => by rw [stepG_value ho hw hk (by rw [← run_of_runT (es := #[]), hr]), listed_none (by have := congrArg Prod.snd (hr w); rwa [Sem.runT_eq] at this)]) h
theorem as_nil (w : World) : ((Instr.typeAssert .nilIface 20 153 true).bind fun v => (pure (Next.value v) : Sem Next)).runT Try.prog w #[] = (.ok (.value (.tuple #[.agg #[.nilIface], .bool false])) w, #[]) := by kernel_rfl
theorem as_end (v : Value) (w : World) : ((Instr.typeAssert (.iface 153 v) 20 153 true).bind fun v => (pure (Next.value v) : Sem Next)).runT Try.prog w #[] = (.ok (.value (.tuple #[v, .bool true])) w, #[]) := by kernel_rfl
theorem Tn.done {U : Tun} {ov bv : Nat → Bool} {w : World} {i : Nat} (h : Tn U ov bv w) (hwf : U.Wf) (hi : i < U.n) : Tn U (upd ov i true) bv (w.setCell ⟨U.st i, 2, none⟩ (.bool true)) := by
  have hst := h.st i hi
  have oth : ∀ b, b ≠ U.st i → (w.setCell ⟨U.st i, 2, none⟩ (.bool true)).heap[b]? = w.heap[b]? := fun b hb => Below.heap_setCell _ _ _ _ hb
  have ne : ∀ {b : Nat} {o : Obj}, w.heap[b]? = some o → (∀ c f, o ≠ .cells c 143 f) → (w.setCell ⟨U.st i, 2, none⟩ (.bool true)).heap[b]? = some o := fun {b o} e hne => by
    rw [oth b (fun z => by rw [z, hst] at e; exact hne _ _ (Option.some.inj e).symm)]
    exact e
  refine ⟨ne h.bx (by simp), ne h.tu (by simp), ?_, ?_, fun j hj => ?_, ?_, fun j hj => ?_⟩
  · obtain ⟨c, e, hc, hs⟩ := h.sl
    by_cases z : U.sl = U.st i
    · rw [z, hst] at hc
      injection hc with hc
      injection hc with hc1 hc2 hc3
      have := hs i hi
      rw [← hc1] at this
      have h0 := hs 0 (by omega)
      rw [← hc1] at h0
      simp at h0
      refine absurd h0 ?_
      intro hh
      have htu := h.tu
      rw [hh] at htu
      have := h.st 0 (by omega)
      rw [this] at htu
      simp at htu
    · exact ⟨c, e, (oth _ z).trans hc, hs⟩
  · obtain ⟨c, hc, hs⟩ := h.br
    exact ⟨c, ne hc (by simp), hs⟩
  · by_cases e : j = i
    · subst e
      rw [upd_same]
      have := putAt hst 2 (.bool true)
      simpa using this
    · rw [upd_ne _ _ e, oth _ (fun z => e (hwf.st j i hj hi z))]
      exact h.st j hj
  · obtain ⟨k, hk⟩ := h.back
    exact ⟨k, ne hk (by simp)⟩
  · obtain ⟨k, hk⟩ := h.pass j hj
    exact ⟨k, ne hk (by simp)⟩
theorem iface20 : ∃ ms, Try.prog.underlying 20 = some (.interface ms) := by
  have h : (match Try.prog.underlying 20 with | some (.interface _) => true | _ => false) = true := by kernel_rfl
  revert h
  cases Try.prog.underlying 20 with
  | none => intro h; cases h
  | some d => cases d <;> intro h <;> first | (cases h; done) | exact ⟨_, rfl⟩
theorem info135c : (Try.prog.info? 135).map (fun i => i.comparable) = some true := by kernel_rfl
theorem info139s : (Try.prog.info? 139).isSome = true := by kernel_rfl
theorem neq_tun (q : Nat) (w : World) : (binOp .neq 20 (.iface 135 (.pointer (some ⟨q, 0, none⟩))) (.iface 135 (.pointer (some ⟨q, 0, none⟩)))).run Try.prog w = .ok (.bool false) w := by
  obtain ⟨ms, h32⟩ := iface20
  obtain ⟨i27, h27⟩ : ∃ i, Try.prog.info? 135 = some i ∧ i.comparable = true := by
    have := info135c
    cases e : Try.prog.info? 135 with
    | none => rw [e] at this; cases this
    | some i => rw [e] at this; exact ⟨i, rfl, by simpa using this⟩
  obtain ⟨i30, h30⟩ := Option.isSome_iff_exists.1 info139s
  have h := run_equalIn_iface_ptr_same (P := Try.prog) w 9998 ⟨q, 0, none⟩ h32 Try.underlying135 h27.1 h27.2 h30
  have h2 : (Op.equal 20 (.iface 135 (.pointer (some ⟨q, 0, none⟩))) (.iface 135 (.pointer (some ⟨q, 0, none⟩)))).run Try.prog w = .ok true w := h
  simp only [binOp]
  simp [h2]
theorem neq_tunE (q : Nat) (w : World) : (binOp .neq 20 (.iface 135 (.pointer (some ⟨q, 0, none⟩))) (.iface 135 (.pointer (some ⟨q, 0, none⟩)))).events Try.prog w #[] = #[] := by
  obtain ⟨ms, h32⟩ := iface20
  obtain ⟨i27, h27⟩ : ∃ i, Try.prog.info? 135 = some i ∧ i.comparable = true := by
    have := info135c
    cases e : Try.prog.info? 135 with
    | none => rw [e] at this; cases this
    | some i => rw [e] at this; exact ⟨i, rfl, by simpa using this⟩
  obtain ⟨i30, h30⟩ := Option.isSome_iff_exists.1 info139s
  have h2 : ∀ d, (Op.equalIn (d + 2) 20 (.iface 135 (.pointer (some ⟨q, 0, none⟩))) (.iface 135 (.pointer (some ⟨q, 0, none⟩)))).events Try.prog w #[] = #[] := by
    intro d
    simp [Op.equalIn, run_underlying h32, run_underlying Try.underlying135, typeInfo, h27.1, h27.2, sizeOf, h30, sameAddr]
  have h2 : (Op.equal 20 (.iface 135 (.pointer (some ⟨q, 0, none⟩))) (.iface 135 (.pointer (some ⟨q, 0, none⟩)))).events Try.prog w #[] = #[] := h2 9998
  have h := run_equalIn_iface_ptr_same (P := Try.prog) w 9998 ⟨q, 0, none⟩ h32 Try.underlying135 h27.1 h27.2 h30
  have h3 : (Op.equal 20 (.iface 135 (.pointer (some ⟨q, 0, none⟩))) (.iface 135 (.pointer (some ⟨q, 0, none⟩)))).run Try.prog w = .ok true w := h
  simp only [binOp]
  simp [h2, h3]
section
variable {M : Type} [Priv M] {Rep : M → (Nat → Owner) → World → Prop} {U : Tun} {i : Nat}
noncomputable def c66 : Code := (Try.f66.body).getD .skip
def A66 (x : Nat → Value) : Act := ⟨#[x 0, x 1, x 2, x 3, x 4, x 5, x 6, x 7, x 8, x 9, x 10, x 11, x 12, x 13, x 14, x 15, x 16, x 17, x 18, x 19, x 20, x 21, x 22, x 23, x 24, x 25, x 26, x 27, x 28, x 29, x 30, x 31, x 32, x 33, x 34, x 35, x 36, x 37, x 38, x 39, x 40, x 41, x 42], []⟩
theorem a66_of (l : Array Value) (hl : l.size = 43) : (⟨l, []⟩ : Act) = A66 fun j => l.getD j undef := by
  have e : ∀ x : Nat → Value, (A66 x).tmps = ((List.range 43).map x).toArray := fun x => rfl
  have h1 : l = (A66 fun j => l.getD j undef).tmps := by
    rw [e]
    apply Array.ext_getElem?
    intro i
    by_cases h : i < 43
    · have h' : i < l.size := by omega
      simp [h, h', List.getElem?_range]
    · have h' : ¬ i < l.size := by omega
      rw [Array.getElem?_eq_none (by omega), Array.getElem?_eq_none (by simp; omega)]
  exact congrArg (Act.mk · []) h1
set_option maxRecDepth 100000 in
set_option maxHeartbeats 1000000 in
theorem fin_tail (hloc : Local Rep) (hU : U.n ≤ 64) {own : Nat → Owner} {A : Nat → Prop} {w₀ : W0 M} {w : World} {m : M} {ov bv : Nat → Bool} (C : Ctx Rep U i own A w₀ w m ov bv) {bT bI : Nat} (h1 : w.heap[bT]? = some (.cells #[.pointer (some ⟨U.tu, 0, none⟩)] 135 (0, 0))) (h2 : w.heap[bI]? = some (.cells #[.int .i64 i] 3 (0, 0)))
    {x : Nat → Value} (x0 : x 0 = .pointer (some ⟨bT, 0, none⟩)) (x2 : x 2 = .pointer (some ⟨bI, 0, none⟩)) (c' : Frame) (hm : (afterD c').mode = .returning) (hd : (afterD c').defers = []) (hk : (afterD c').kind = .deferred) (hf : (afterD c').fn = 58) :
    TGO Rep Try.prog U i own w (m, .fin) ov bv (G ((baseD 66).at (A66 x) [.code (cB (cB c66))]) [c', botF Try.prog]) w := by
  have X := tgo_xc (Rep := Rep) (P := Try.prog) (U := U) (i := i) (own := own) (w := w) (ov := ov) (bv := bv) (mc := (m, .fin))
  refine x_seqB X rfl fun R0 hR0 => ?_
  rw [show cA (cB (cB c66)) = Code.region _ _ _ from rfl]
  refine x_draw X 9 (by kernel_rfl) (by kernel_rfl) (by decide) (calm0 (by kernel_rfl)) C.seats fun wp hp => ?_
  simp only [List.take_succ_cons, List.take_zero]
  unfold A66
  simp only [x0, x2]
  have hi := C.lt
  have cT := (simCellT hp _).trans (cellAt h1 0)
  have cI := (simCellT hp _).trans (cellAt h2 0)
  have cu := (simCellT hp _).trans (cellAt C.tn.tu 1)
  have cs : wp.cell? ⟨U.sl, i, none⟩ = some (.pointer (some ⟨U.st i, 0, none⟩)) := by
    obtain ⟨c, e, q1, q2⟩ := C.tn.sl
    exact (simCellT hp _).trans ((cellAt q1 i).trans (q2 i hi))
  rw [C.wf.sp (by omega)] at cu
  simp only [List.getElem?_toArray, List.getElem?_cons_zero, List.getElem?_cons_succ] at cT cI cu
  have q0 : (0 : Int) ≤ i := by omega
  have q1 : (i : Int) < U.n := by omega
  replace hp := Lib.hid hp
  repeat still_step
  refine wpStill_nil ?_
  clear hp cT cI cu cs wp
  refine x_more X 9 1 (by decide) (by decide) (calm0 (by kernel_rfl)) C.seats fun wp hp => ?_
  simp only [List.drop_succ_cons, List.drop_zero, List.take_succ_cons, List.take_zero]
  have hst := poi_at' hp (C.tn.dst hi) (C.tn.st i hi)
  have c2 : wp.cell? ⟨U.st i, 2, none⟩ = some (.bool (ov i)) := cellOf hst
  have f2 : wp.frozen? ⟨U.st i, 2, none⟩ = false := by
    unfold World.frozen?
    rw [hst]
    simp
  have hOk := C.seats.okd
  replace X := Lib.hid X
  replace hp := Lib.hid hp
  go_wp2_with fail
  refine ⟨⟨rfl, rfl⟩, w.setCell ⟨U.st i, 2, none⟩ (.bool true), rfl, okd_set hOk _ _, sim_setCell hp.out _ _, ?_⟩
  have T2 := C.tn.done C.wf hi
  have hkp : ∀ b, b ≠ U.st i → (w.setCell ⟨U.st i, 2, none⟩ (.bool true)).heap[b]? = w.heap[b]? := fun b hb => Below.heap_setCell _ _ _ _ hb
  have hs : (w.setCell ⟨U.st i, 2, none⟩ (.bool true)).heap.size = w.heap.size := by simp [World.setCell]
  have ownSt : own (U.st i) = .tun := C.tun _ (.inr (.inr (.inr (.inr (.inr ⟨i, hi, .inl rfl⟩)))))
  have n1 : bT ≠ U.st i := fun z => by rw [z, C.tn.st i hi] at h1; simp at h1
  replace h1 := (hkp _ n1).trans h1
  generalize w.setCell ⟨U.st i, 2, none⟩ (.bool true) = w1 at *
  refine x_regionEnd X.out ?_
  obtain rfl := hR0.out
  rw [show cB (cB (cB c66)) = Code.region _ _ _ from rfl]
  clear hp c2 f2 hst wp
  refine x_reg X.out 5 (by decide) (by decide) (calm0 (by kernel_rfl)) T2.seats fun wp hp => ?_
  simp only [List.take_succ_cons, List.take_zero]
  have cT := (simCellT hp _).trans (cellAt h1 0)
  have cu := (simCellT hp _).trans (cellAt T2.tu 0)
  simp only [List.getElem?_toArray, List.getElem?_cons_zero] at cT cu
  replace hp := Lib.hid hp
  go_wp2_with fail
  refine after_same hp.out T2.seats.okd fun d => .stop ?_
  refine ⟨own, A, ?_, ?_, .refl, ⟨by rw [show (w1.at d).heap = w1.heap from rfl]; omega, fun b hb _ _ ht => hkp b fun z => ht (z ▸ ownSt)⟩⟩
  · refine atSend_of (v := .agg #[]) (z' := .tuple #[]) rfl rfl (by decide) ?_ ?_
    · intro w
      exact runT_pure (by go_simp; rfl) (by simp [go_sem])
    · rw [if_pos (by rfl)]
      refine leaves_ctl rfl (fun w => stepG_region_end) ?_
      refine leaves_ctl rfl (fun w => stepG_end) ?_
      refine leaves_ctl rfl (fun w => stepG_leaveD rfl rfl rfl Try.func66 rfl) ?_
      refine leaves_ctl rfl (fun w => stepG_leaveD hm hd hk (by rw [hf]; exact Try.func58) rfl) ?_
      exact ⟨1, bot_quits _⟩
  · have hbv : upd bv i false = bv := by
      funext j
      by_cases z : j = i
      · subst z; rw [upd_same, C.bf]
      · rw [upd_ne _ _ z]
    show Ctx Rep U i own A ⟨(w1.at d).heap, m⟩ (w1.at d) m (upd ov i true) (upd bv i false)
    rw [hbv]
    exact ⟨hi, C.wf, T2.of_heap rfl, C.tun, hloc _ _ _ _ _ C.rep fun b hb => ⟨hb, hkp b fun z => by rw [z, ownSt] at hb; simp at hb⟩, fun b hb => C.fresh b (by rw [← hs]; exact hb), fun b hb => ⟨(C.mine b hb).1, rfl⟩, C.bf, rfl⟩
set_option maxRecDepth 100000 in
set_option maxHeartbeats 1000000 in
theorem fin_ret (hloc : Local Rep) (hU : U.n ≤ 64) {own : Nat → Owner} {A : Nat → Prop} {w₀ : W0 M} {w : World} {m : M} {ov bv : Nat → Bool} (C : Ctx Rep U i own A w₀ w m ov bv) {bT bI bW : Nat} (h1 : w.heap[bT]? = some (.cells #[.pointer (some ⟨U.tu, 0, none⟩)] 135 (0, 0))) (h2 : w.heap[bI]? = some (.cells #[.int .i64 i] 3 (0, 0))) (h3 : w.heap[bW]? = some (.cells #[.bool true] 4 (0, 0)))
    (cF : Frame) (hm : cF.mode = .returning) (hd : cF.defers = []) (hk : cF.kind = .deferred) (hf : cF.fn = 58) :
    TGO Rep Try.prog U i own w (m, .fin) ov bv (G (Frame.enter Try.prog 66 #[.pointer (some ⟨bT, 0, none⟩), .pointer (some ⟨bW, 0, none⟩), .pointer (some ⟨bI, 0, none⟩)] .deferred) [cF, botF Try.prog]) w := by
  have X := tgo_xc (Rep := Rep) (P := Try.prog) (U := U) (i := i) (own := own) (w := w) (ov := ov) (bv := bv) (mc := (m, .fin))
  rw [enter_atD _ Try.func66 rfl]
  simp only [Try.ntmps66, List.size_toArray, List.length_cons, List.length_nil, Nat.reduceAdd, Nat.reduceSub, Array.replicate_succ,
     Array.replicate_zero, List.push_toArray, List.append_toArray, List.nil_append, List.cons_append]
  refine x_seqR X fun R0 hR0 => ?_
  refine x_region X ?_
  refine x_recover X (v := .nilIface) (cs' := [cF, botF Try.prog]) rfl rfl (by decide) rfl (fun w => runT_pure (by go_simp) (by simp [go_sem])) (by
    have : tryRecover (baseD 66) [cF, botF Try.prog] = none := by
      simp [tryRecover, baseD, hm]
    rw [this]) ?_
  walk_nrm
  refine x_more X 1 1 (by decide) (by decide) (calm0 (by kernel_rfl)) C.seats fun wp hp => ?_
  simp only [List.drop_succ_cons, List.drop_zero, List.take_succ_cons, List.take_zero]
  have hOk := C.seats.okd
  replace X := Lib.hid X
  replace hp := Lib.hid hp
  go_wp2_with fail
  refine after_same hp.out hOk ?_
  refine x_regionEnd X.out ?_
  obtain rfl := hR0.out
  clear hR0 hp wp
  refine x_seqR X.out fun R0 hR0 => ?_
  refine x_seqR X.out fun R1 hR1 => ?_
  refine x_reg X.out 1 (by decide) (by decide) (calm0 (by kernel_rfl)) C.seats fun wp hp => ?_
  simp only [List.take_succ_cons, List.take_zero]
  replace hp := Lib.hid hp
  go_wp2_with fail
  refine after_same hp.out hOk ?_
  clear hp wp
  refine x_val X.out (v := .tuple #[.agg #[.nilIface], .bool false]) rfl rfl (by decide) (fun w => ?_) ?_
  · exact as_nil w
  refine x_more X.out 2 6 (by decide) (by decide) (calm0 (by kernel_rfl)) C.seats fun wp hp => ?_
  simp only [List.drop_succ_cons, List.drop_zero, List.take_succ_cons, List.take_zero]
  have hD0 : U.D w.heap.size = none := C.dnew (Nat.le_refl _)
  have hsz : wp.heap.size = w.heap.size := by rw [hp.heap, poi_size]
  replace hp := Lib.hid hp
  replace hsz := Lib.hid hsz
  go_wp2_with fail
  refine ⟨⟨rfl, rfl⟩, w.alloc (.cells #[.nilIface] 153), rfl, okd_alloc hOk _, sim_alloc hp.out _ hD0, ?_⟩
  rw [hsz.out]
  have hb2 : ∀ b, b < w.heap.size → (w.alloc (.cells #[.nilIface] 153)).heap[b]? = w.heap[b]? := fun b hb => Below.heap_alloc _ _ _ hb
  have lt : ∀ {b : Nat} {o : Obj}, w.heap[b]? = some o → b < w.heap.size := fun h => (Array.getElem?_eq_some_iff.1 h).1
  have e3 : (w.alloc (.cells #[.nilIface] 153)).heap[w.heap.size]? = some (.cells #[.nilIface] 153 (0, 0)) := heap_alloc_new _ _
  have hs2 : (w.alloc (.cells #[.nilIface] 153)).heap.size = w.heap.size + 1 := by simp
  replace h1 := (hb2 _ (lt h1)).trans h1
  replace h2 := (hb2 _ (lt h2)).trans h2
  replace h3 := (hb2 _ (lt h3)).trans h3
  clear lt
  generalize w.alloc (.cells #[.nilIface] 153) = w2 at *
  obtain ⟨C2, hO2, hF2⟩ := C.grown hloc (w1 := w2) (by omega) (fun b hb _ => hb2 b hb)
  refine tgo_rebase hO2 hF2 ?_
  clear C hO2 hF2 hb2 hp hsz hOk hD0 X
  generalize ownG i w.heap.size w2.heap.size own = own2 at *
  generalize w.heap.size = N at *
  have X := tgo_xc (Rep := Rep) (P := Try.prog) (U := U) (i := i) (own := own2) (w := w2) (ov := ov) (bv := bv) (mc := (m, .fin))
  refine x_regionEnd X ?_
  obtain rfl := hR1.out
  clear hR1 wp
  refine x_seqR X fun R1 hR1 => ?_
  have hOk := C2.seats.okd
  have hi := C2.lt
  refine x_reg X 7 (by decide) (by decide) (calm0 (by kernel_rfl)) C2.seats fun wp hp => ?_
  simp only [List.take_succ_cons, List.take_zero]
  replace X := Lib.hid X
  replace hp := Lib.hid hp
  go_wp2_with fail
  refine after_same hp.out hOk ?_
  clear hp wp
  refine x_unwanted X.out rfl rfl ?_
  walk_nrm
  refine x_more X.out 8 1 (by decide) (by decide) (calm0 (by kernel_rfl)) C2.seats fun wp hp => ?_
  simp only [List.drop_succ_cons, List.drop_zero, List.take_succ_cons, List.take_zero]
  replace hp := Lib.hid hp
  go_wp2_with fail
  refine after_same hp.out hOk ?_
  refine x_regionEnd X.out ?_
  obtain rfl := hR1.out
  clear hR1 hp wp
  refine x_cond X.out (t := true) rfl ?_
  refine x_draw X.out 8 (by kernel_rfl) (by kernel_rfl) (by decide) (calm0 (by kernel_rfl)) C2.seats fun wp hp => ?_
  simp only [List.take_succ_cons, List.take_zero]
  have cT := (simCellT hp _).trans (cellAt h1 0)
  have cI := (simCellT hp _).trans (cellAt h2 0)
  have cW := (simCellT hp _).trans (cellAt h3 0)
  have cu := (simCellT hp _).trans (cellAt C2.tn.tu 2)
  rw [C2.wf.bp (by omega)] at cu
  simp only [List.getElem?_toArray, List.getElem?_cons_zero, List.getElem?_cons_succ] at cT cI cW cu
  have q0 : (0 : Int) ≤ i := by omega
  have q1 : (i : Int) < U.n := by omega
  replace hp := Lib.hid hp
  repeat still_step
  refine wpStill_nil ?_
  clear hp cT cI cW cu wp
  refine x_more X.out 8 1 (by decide) (by decide) (calm0 (by kernel_rfl)) C2.seats fun wp hp => ?_
  simp only [List.drop_succ_cons, List.drop_zero, List.take_succ_cons, List.take_zero]
  obtain ⟨cb, hcb, hcs, hcv⟩ := C2.tn.br
  have hDb : U.D U.br = none := C2.tn.dcell hcb (by decide) (by decide) (by decide)
  have c2 : wp.cell? ⟨U.br, i, none⟩ = some (.bool (bv i)) := (simCellT hp _).trans ((cellAt hcb i).trans (hcv i hi))
  have f2 : wp.frozen? ⟨U.br, i, none⟩ = false := by
    unfold World.frozen?
    rw [poi_at hp hDb, hcb]
    simp
  replace hp := Lib.hid hp
  go_wp2_with fail
  have hsame : w2.setCell ⟨U.br, i, none⟩ (.bool false) = w2 := by
    have e : cb.setIfInBounds i (.bool false) = cb := by
      apply Array.ext_getElem?
      intro j
      rw [Array.getElem?_setIfInBounds]
      split
      · rename_i z
        subst z
        rw [hcv i hi, C2.bf]
        simp [hcs, hi]
      · rfl
    have : (w2.setCell ⟨U.br, i, none⟩ (.bool false)).heap = w2.heap := by
      apply Array.ext_getElem?
      intro b
      by_cases z : b = U.br
      · subst z
        rw [putAt hcb, e, hcb]
      · exact Below.heap_setCell _ _ _ _ z
    obtain ⟨h, t, d, o, u⟩ := w2
    simp only [World.setCell] at this ⊢
    rw [this]
  refine ⟨⟨rfl, rfl⟩, w2, rfl, hOk, by have := sim_setCell hp.out ⟨U.br, i, none⟩ (.bool false); rwa [hsame] at this, ?_⟩
  refine x_regionEnd X.out ?_
  obtain rfl := hR0.out
  have hcF : afterD cF = cF := by unfold afterD; rw [hm]
  rw [a66_of _ rfl]
  exact fin_tail hloc hU C2 h1 h2 (x := _) rfl rfl cF (by rw [hcF]; exact hm) (by rw [hcF]; exact hd) (by rw [hcF]; exact hk) (by rw [hcF]; exact hf)
set_option maxRecDepth 100000 in
set_option maxHeartbeats 1000000 in
theorem fin_pan (hloc : Local Rep) (hU : U.n ≤ 64) {own : Nat → Owner} {A : Nat → Prop} {w₀ : W0 M} {w : World} {m : M} {ov bv : Nat → Bool} (C : Ctx Rep U i own A w₀ w m ov bv) {bT bI bW : Nat} (h1 : w.heap[bT]? = some (.cells #[.pointer (some ⟨U.tu, 0, none⟩)] 135 (0, 0))) (h2 : w.heap[bI]? = some (.cells #[.int .i64 i] 3 (0, 0)))
    (cF : Frame) (hm : cF.mode = .panicking [{ v := endV U, recovered := false }]) (hd : cF.defers = []) (hk : cF.kind = .deferred) (hf : cF.fn = 58) :
    TGO Rep Try.prog U i own w (m, .fin) ov bv (G (Frame.enter Try.prog 66 #[.pointer (some ⟨bT, 0, none⟩), .pointer (some ⟨bW, 0, none⟩), .pointer (some ⟨bI, 0, none⟩)] .deferred) [cF, botF Try.prog]) w := by
  have X := tgo_xc (Rep := Rep) (P := Try.prog) (U := U) (i := i) (own := own) (w := w) (ov := ov) (bv := bv) (mc := (m, .fin))
  rw [enter_atD _ Try.func66 rfl]
  simp only [Try.ntmps66, List.size_toArray, List.length_cons, List.length_nil, Nat.reduceAdd, Nat.reduceSub, Array.replicate_succ,
     Array.replicate_zero, List.push_toArray, List.append_toArray, List.nil_append, List.cons_append]
  refine x_seqR X fun R0 hR0 => ?_
  refine x_region X ?_
  refine x_recover X (v := endV U) (cs' := [{ cF with mode := .panicking [{ v := endV U, recovered := true }] }, botF Try.prog]) rfl rfl (by decide) rfl (fun w => runT_pure (by go_simp) (by simp [go_sem])) (by
    have : tryRecover (baseD 66) [cF, botF Try.prog] = some (endV U, [{ cF with mode := .panicking [{ v := endV U, recovered := true }] }, botF Try.prog]) := by
      simp [tryRecover, baseD, hm]
    rw [this]) ?_
  walk_nrm
  refine x_more X 1 1 (by decide) (by decide) (calm0 (by kernel_rfl)) C.seats fun wp hp => ?_
  simp only [List.drop_succ_cons, List.drop_zero, List.take_succ_cons, List.take_zero]
  have hOk := C.seats.okd
  replace X := Lib.hid X
  replace hp := Lib.hid hp
  go_wp2_with fail
  refine after_same hp.out hOk ?_
  refine x_regionEnd X.out ?_
  obtain rfl := hR0.out
  clear hR0 hp wp
  refine x_seqR X.out fun R0 hR0 => ?_
  refine x_seqR X.out fun R1 hR1 => ?_
  refine x_reg X.out 1 (by decide) (by decide) (calm0 (by kernel_rfl)) C.seats fun wp hp => ?_
  simp only [List.take_succ_cons, List.take_zero]
  replace hp := Lib.hid hp
  go_wp2_with fail
  refine after_same hp.out hOk ?_
  clear hp wp
  refine x_val X.out (v := .tuple #[.agg #[.iface 135 (.pointer (some ⟨U.tu, 0, none⟩))], .bool true]) rfl rfl (by decide) (fun w => ?_) ?_
  · exact as_end _ w
  refine x_more X.out 2 6 (by decide) (by decide) (calm0 (by kernel_rfl)) C.seats fun wp hp => ?_
  simp only [List.drop_succ_cons, List.drop_zero, List.take_succ_cons, List.take_zero]
  have hD0 : U.D w.heap.size = none := C.dnew (Nat.le_refl _)
  have hsz : wp.heap.size = w.heap.size := by rw [hp.heap, poi_size]
  replace hp := Lib.hid hp
  replace hsz := Lib.hid hsz
  go_wp2_with fail
  refine ⟨⟨rfl, rfl⟩, w.alloc (.cells #[.iface 135 (.pointer (some ⟨U.tu, 0, none⟩))] 153), rfl, okd_alloc hOk _, sim_alloc hp.out _ hD0, ?_⟩
  rw [hsz.out]
  have hb2 : ∀ b, b < w.heap.size → (w.alloc (.cells #[.iface 135 (.pointer (some ⟨U.tu, 0, none⟩))] 153)).heap[b]? = w.heap[b]? := fun b hb => Below.heap_alloc _ _ _ hb
  have lt : ∀ {b : Nat} {o : Obj}, w.heap[b]? = some o → b < w.heap.size := fun h => (Array.getElem?_eq_some_iff.1 h).1
  have e3 : (w.alloc (.cells #[.iface 135 (.pointer (some ⟨U.tu, 0, none⟩))] 153)).heap[w.heap.size]? = some (.cells #[.iface 135 (.pointer (some ⟨U.tu, 0, none⟩))] 153 (0, 0)) := heap_alloc_new _ _
  have hs2 : (w.alloc (.cells #[.iface 135 (.pointer (some ⟨U.tu, 0, none⟩))] 153)).heap.size = w.heap.size + 1 := by simp
  replace h1 := (hb2 _ (lt h1)).trans h1
  replace h2 := (hb2 _ (lt h2)).trans h2
  clear lt
  generalize w.alloc (.cells #[.iface 135 (.pointer (some ⟨U.tu, 0, none⟩))] 153) = w2 at *
  obtain ⟨C2, hO2, hF2⟩ := C.grown hloc (w1 := w2) (by omega) (fun b hb _ => hb2 b hb)
  refine tgo_rebase hO2 hF2 ?_
  clear C hO2 hF2 hb2 hp hsz hOk hD0 X
  generalize ownG i w.heap.size w2.heap.size own = own2 at *
  generalize w.heap.size = N at *
  have X := tgo_xc (Rep := Rep) (P := Try.prog) (U := U) (i := i) (own := own2) (w := w2) (ov := ov) (bv := bv) (mc := (m, .fin))
  refine x_regionEnd X ?_
  obtain rfl := hR1.out
  clear hR1 wp
  refine x_seqR X fun R1 hR1 => ?_
  have hOk := C2.seats.okd
  have hi := C2.lt
  refine x_reg X 7 (by decide) (by decide) (calm0 (by kernel_rfl)) C2.seats fun wp hp => ?_
  simp only [List.take_succ_cons, List.take_zero]
  have cN := (simCellT hp _).trans (cellAt e3 0)
  have cT := (simCellT hp _).trans (cellAt h1 0)
  simp only [List.getElem?_toArray, List.getElem?_cons_zero] at cN cT
  replace X := Lib.hid X
  replace hp := Lib.hid hp
  go_wp2_with fail
  refine after_same hp.out hOk ?_
  clear hp cN cT wp
  refine x_val X.out (v := .bool false) rfl rfl (by decide) (fun w => ?_) ?_
  · have e := neq_tun U.tu w
    have e2 := neq_tunE U.tu w
    exact runT_pure (by simp only [execOp]; go_simp) (by simp [go_sem, e2])
  walk_nrm
  refine x_more X.out 8 1 (by decide) (by decide) (calm0 (by kernel_rfl)) C2.seats fun wp hp => ?_
  simp only [List.drop_succ_cons, List.drop_zero, List.take_succ_cons, List.take_zero]
  replace hp := Lib.hid hp
  go_wp2_with fail
  refine after_same hp.out hOk ?_
  refine x_regionEnd X.out ?_
  obtain rfl := hR1.out
  clear hR1 hp wp
  refine x_cond X.out (t := false) rfl ?_
  refine x_skip X.out ?_
  obtain rfl := hR0.out
  have hcF : afterD { cF with mode := .panicking [{ v := endV U, recovered := true }] } = { cF with mode := .returning } := rfl
  rw [a66_of _ rfl]
  exact fin_tail hloc hU C2 h1 h2 (x := _) rfl rfl { cF with mode := .panicking [{ v := endV U, recovered := true }] } (by rw [hcF]) (by rw [hcF]; exact hd) (by rw [hcF]; exact hk) (by rw [hcF]; exact hf)
end
end Go.Proofs.Ytimkkeomdkbcjaa

/-
  A THREAD FROM ITS BIRTH TO ITS END: turnstile.run and its deferred call. No condition of its own.
-/
namespace Go.Proofs.Ytimkkeomdkbcjaa
open Go.Conc Go.RowKit
open Go.ConcN (upd upd_ne upd_same)
theorem neq_fn (f : Fn) (a b : Array Value) (W : World) : (binOp .neq 99 (.func f a b) .nilFunc).run Try.prog W = .ok (.bool true) W := by
  have h : (Op.equalIn (9999 + 1) 99 (.func f a b) .nilFunc).run Try.prog W = .ok false W := by
    unfold Op.equalIn
    simp [run_underlying Try.underlying99]
  simp only [binOp]
  simp [Op.equal, Op.maxDepth, h]
theorem raise_run {fr : Frame} {ch : List PanicEntry} (h : fr.mode = .run) : fr.raise ch = { fr with mode := .panicking ch } := by
  unfold Frame.raise
  rw [h]
def finF {M : Type} : Fu M := fun m => (m, .fin)
section
variable {M : Type} [Priv M] {Rep : M → (Nat → Owner) → World → Prop} {U : Tun} {i n : Nat} {ψ : Fu M}
set_option maxRecDepth 100000 in
set_option maxHeartbeats 1000000 in
theorem run_cps (hloc : Local Rep) {g : FuncId} {fn : Func} {fst cap : Array Value} (hg : Try.prog.funcs[g]? = some fn) (hname : (fn.name == "runtime.NumGoroutine") = false) (hb : fn.body.isNone = false) (hU : U.n ≤ 64)
    {w₁ : W0 M} (hT : ∀ (c : Frame) (cs : List Frame) A h₀ m₀, Priv.get i m₀ = Priv.get i w₁.m → (∀ m', GOF Rep Try.prog U i finF A ⟨h₀, m'⟩ (G (c.finish (.tuple #[])) cs)) → (∀ m', Ended Rep Try.prog U i A ⟨h₀, m'⟩ (G (c.raise [{ v := endV U, recovered := false }]) cs)) →
      GOF Rep Try.prog U i ψ A ⟨h₀, m₀⟩ (G (Frame.enter Try.prog g (fst ++ #[.iface 140 (.pointer (some ⟨U.st i, 0, none⟩))] ++ cap) .normal) (c :: cs))) :
    GOF Rep Try.prog U i ψ (fun _ => False) w₁ (born Try.prog (call58 U.tu i (.func (.func g) fst cap))) := by
  refine gof_of fun w m own ov bv C => ?_
  have hpv := C.pv
  have X := tgo_xc (Rep := Rep) (P := Try.prog) (U := U) (i := i) (own := own) (w := w) (ov := ov) (bv := bv) (mc := ψ m)
  show TGO _ _ _ _ _ _ _ _ _ (G _ []) w
  refine x_unwind X (by simp) rfl rfl Try.func58 (by kernel_rfl) (by kernel_rfl) ?_
  show TGO _ _ _ _ _ _ _ _ _ (G _ [botF Try.prog]) w
  rw [enter_atD _ Try.func58 rfl]
  simp only [call58, Try.ntmps58, List.size_toArray, List.length_cons, List.length_nil, Nat.reduceAdd, Nat.reduceSub, Array.replicate_succ,
     Array.replicate_zero, List.push_toArray, List.append_toArray, List.nil_append, List.cons_append]
  refine x_seqR X fun R0 hR0 => ?_
  refine x_reg X 2 (by decide) (by decide) (calm0 (by kernel_rfl)) C.seats fun wp hp => ?_
  simp only [List.take_succ_cons, List.take_zero]
  have hD0 : U.D w.heap.size = none := C.dnew (Nat.le_refl _)
  have hD1 : U.D (w.heap.size + 1) = none := C.dnew (Nat.le_succ _)
  have hOk := C.seats.okd
  have hsz : wp.heap.size = w.heap.size := by rw [hp.heap, poi_size]
  replace X := Lib.hid X
  replace hp := Lib.hid hp
  replace hsz := Lib.hid hsz
  go_wp2_with fail
  have hs1 : ((w.alloc (.cells #[.pointer (some ⟨U.tu, 0, none⟩)] 135)).alloc (.cells #[.int .i64 i] 3)).heap.size = w.heap.size + 2 := by simp
  refine ⟨⟨rfl, rfl⟩, (w.alloc (.cells #[.pointer (some ⟨U.tu, 0, none⟩)] 135)).alloc (.cells #[.int .i64 i] 3), rfl, okd_alloc (okd_alloc hOk _) _, sim_alloc (sim_alloc hp.out _ hD0) _ (by simpa using hD1), ?_⟩
  rw [hsz.out]
  have hb1 : ∀ b, b < w.heap.size → ((w.alloc (.cells #[.pointer (some ⟨U.tu, 0, none⟩)] 135)).alloc (.cells #[.int .i64 i] 3)).heap[b]? = w.heap[b]? := fun b hb => by
    rw [Below.heap_alloc _ _ _ (by simp; omega), Below.heap_alloc _ _ _ hb]
  have e1 : ((w.alloc (.cells #[.pointer (some ⟨U.tu, 0, none⟩)] 135)).alloc (.cells #[.int .i64 i] 3)).heap[w.heap.size]? = some (.cells #[.pointer (some ⟨U.tu, 0, none⟩)] 135 (0, 0)) := by
    rw [Below.heap_alloc _ _ _ (by simp)]; exact heap_alloc_new _ _
  have e2 : ((w.alloc (.cells #[.pointer (some ⟨U.tu, 0, none⟩)] 135)).alloc (.cells #[.int .i64 i] 3)).heap[w.heap.size + 1]? = some (.cells #[.int .i64 i] 3 (0, 0)) := by
    have := heap_alloc_new (w.alloc (.cells #[.pointer (some ⟨U.tu, 0, none⟩)] 135)) (.cells #[.int .i64 i] 3)
    simpa using this
  generalize ((w.alloc (.cells #[.pointer (some ⟨U.tu, 0, none⟩)] 135)).alloc (.cells #[.int .i64 i] 3)) = w1 at *
  obtain ⟨C1, hO1, hF1⟩ := C.grown hloc (w1 := w1) (by omega) (fun b hb _ => hb1 b hb)
  refine tgo_rebase hO1 hF1 ?_
  have o1 : ownG i w.heap.size w1.heap.size own w.heap.size = .th i := ownG_new (Nat.le_refl _) (by omega)
  have o2 : ownG i w.heap.size w1.heap.size own (w.heap.size + 1) = .th i := ownG_new (by omega) (by omega)
  clear C hO1 hF1 hb1 hp hsz hOk hD0 hD1 X
  generalize ownG i w.heap.size w1.heap.size own = own1 at *
  have X := tgo_xc (Rep := Rep) (P := Try.prog) (U := U) (i := i) (own := own1) (w := w1) (ov := ov) (bv := bv) (mc := ψ m)
  refine x_regionEnd X ?_
  obtain rfl := hR0.out
  clear hR0
  refine x_seqR X fun R0 hR0 => ?_
  refine x_reg X 2 (by decide) (by decide) (calm0 (by kernel_rfl)) C1.seats fun wp hp => ?_
  simp only [List.take_succ_cons, List.take_zero]
  have hD0 : U.D w1.heap.size = none := C1.dnew (Nat.le_refl _)
  have hOk := C1.seats.okd
  have hsz : wp.heap.size = w1.heap.size := by rw [hp.heap, poi_size]
  replace X := Lib.hid X
  replace hp := Lib.hid hp
  replace hsz := Lib.hid hsz
  go_wp2_with fail
  refine ⟨⟨rfl, rfl⟩, w1.alloc (.cells #[.bool false] 4), rfl, okd_alloc hOk _, sim_alloc hp.out _ hD0, ?_⟩
  rw [hsz.out]
  have hb2 : ∀ b, b < w1.heap.size → (w1.alloc (.cells #[.bool false] 4)).heap[b]? = w1.heap[b]? := fun b hb => Below.heap_alloc _ _ _ hb
  have e3 : (w1.alloc (.cells #[.bool false] 4)).heap[w1.heap.size]? = some (.cells #[.bool false] 4 (0, 0)) := heap_alloc_new _ _
  have hs2 : (w1.alloc (.cells #[.bool false] 4)).heap.size = w1.heap.size + 1 := by simp
  replace e1 := (hb2 _ (by omega)).trans e1
  replace e2 := (hb2 _ (by omega)).trans e2
  generalize w1.alloc (.cells #[.bool false] 4) = w2 at *
  obtain ⟨C2, hO2, hF2⟩ := C1.grown hloc (w1 := w2) (by omega) (fun b hb _ => hb2 b hb)
  refine tgo_rebase hO2 hF2 ?_
  have o1 : ownG i w1.heap.size w2.heap.size own1 w.heap.size = .th i := (ownG_old (by omega)).trans o1
  have o2 : ownG i w1.heap.size w2.heap.size own1 (w.heap.size + 1) = .th i := (ownG_old (by omega)).trans o2
  have o3 : ownG i w1.heap.size w2.heap.size own1 w1.heap.size = .th i := ownG_new (Nat.le_refl _) (by omega)
  clear C1 hO2 hF2 hb2 hp hsz hOk hD0 X
  rw [hs1] at *
  generalize ownG i (w.heap.size + 2) w2.heap.size own1 = own2 at *
  generalize w.heap.size = N at *
  have X := tgo_xc (Rep := Rep) (P := Try.prog) (U := U) (i := i) (own := own2) (w := w2) (ov := ov) (bv := bv) (mc := ψ m)
  refine x_regionEnd X ?_
  obtain rfl := hR0.out
  clear hR0
  refine x_seqR X fun R0 hR0 => ?_
  refine x_reg X 1 (by decide) (by decide) (calm0 (by kernel_rfl)) C2.seats fun wp hp => ?_
  simp only [List.take_succ_cons, List.take_zero]
  have hOk := C2.seats.okd
  replace X := Lib.hid X
  replace hp := Lib.hid hp
  go_wp2_with fail
  refine after_same hp.out hOk ?_
  refine x_defer X.out (d := { target := .fn (.func 66) #[.pointer (some ⟨N, 0, none⟩), .pointer (some ⟨N + 2, 0, none⟩), .pointer (some ⟨N + 1, 0, none⟩)], args := #[] }) rfl rfl (by decide) (fun w => runT_pure (by go_simp) (by simp [go_sem])) ?_
  walk_nrm
  refine x_regionEnd X.out ?_
  obtain rfl := hR0.out
  clear hR0
  refine x_seqR X.out fun R0 hR0 => ?_
  refine x_seqR X.out fun R1 hR1 => ?_
  clear hp wp
  have hneq := neq_fn (.func g) fst cap
  refine x_reg X.out 2 (by decide) (by decide) (calm0 (by kernel_rfl)) C2.seats fun wp hp => ?_
  simp only [List.take_succ_cons, List.take_zero]
  replace hp := Lib.hid hp
  go_wp2_with fail
  refine after_same hp.out hOk ?_
  refine x_regionEnd X.out ?_
  obtain rfl := hR1.out
  clear hR1
  refine x_cond X.out (t := true) rfl ?_
  clear hp wp
  have hi := C2.lt
  refine x_draw X.out 9 (by kernel_rfl) (by kernel_rfl) (by decide) (calm0 (by kernel_rfl)) C2.seats fun wp hp => ?_
  simp only [List.take_succ_cons, List.take_zero]
  have cT := (simCellT hp _).trans (cellAt e1 0)
  have cI := (simCellT hp _).trans (cellAt e2 0)
  have cu := (simCellT hp _).trans (cellAt C2.tn.tu 1)
  have cs : wp.cell? ⟨U.sl, i, none⟩ = some (.pointer (some ⟨U.st i, 0, none⟩)) := by
    obtain ⟨c, e, q1, q2⟩ := C2.tn.sl
    exact (simCellT hp _).trans ((cellAt q1 i).trans (q2 i hi))
  rw [C2.wf.sp (by omega)] at cu
  simp only [List.getElem?_toArray, List.getElem?_cons_zero, List.getElem?_cons_succ] at cT cI cu
  have q0 : (0 : Int) ≤ i := by omega
  have q1 : (i : Int) < U.n := by omega
  replace hp := Lib.hid hp
  repeat still_step
  refine wpStill_nil ?_
  clear hp cT cI cu cs wp
  refine x_callV X.out rfl rfl (by decide) rfl rfl hg hname hb ?_
  rw [show ∀ e : Operand → Value, Array.map e #[Operand.tmp 18] = #[e (.tmp 18)] from fun e => by simp]
  have C3 : Ctx Rep U i own2 (fun b => own2 b = .th i) ⟨w2.heap, m⟩ w2 m ov bv := C2
  have hsz2 : w2.heap.size = N + 3 := by omega
  clear C2 hOk
  refine tgo_next hloc (hT _ _ (fun b => own2 b = .th i) w2.heap m hpv (fun m' => ?_) fun m' => ?_) C3 .refl .refl
  · rw [Frame.finish_at]
    refine gof_of fun w3 m3 own3 ov3 bv3 C4 => ?_
    have X := tgo_xc (Rep := Rep) (P := Try.prog) (U := U) (i := i) (own := own3) (w := w3) (ov := ov3) (bv := bv3) (mc := (m3, .fin))
    replace e1 := (C4.mine N o1).2.trans e1
    replace e2 := (C4.mine _ o2).2.trans e2
    have e4 := (C4.mine _ o3).2.trans e3
    obtain ⟨p1, _⟩ := C4.mine N o1
    obtain ⟨p2, _⟩ := C4.mine _ o2
    obtain ⟨p3, _⟩ := C4.mine _ o3
    clear C3 hT e3 o1 o2 o3
    have hOk := C4.seats.okd
    have dB : U.D (N + 2) = none := C4.dmine (by rw [p3]; simp)
    refine x_regionEnd X ?_
    obtain rfl := hR0.out
    clear hR0
    refine x_reg X 1 (by decide) (by decide) (calm0 (by kernel_rfl)) C4.seats fun wp hp => ?_
    simp only [List.take_succ_cons, List.take_zero]
    have c2 := (simCellT hp _).trans (cellAt e4 0)
    simp only [List.getElem?_toArray, List.getElem?_cons_zero] at c2
    have f2 : wp.frozen? ⟨N + 2, 0, none⟩ = false := by
      unfold World.frozen?
      rw [poi_at hp dB, e4]
      simp
    replace X := Lib.hid X
    replace hp := Lib.hid hp
    go_wp2_with fail
    refine ⟨⟨rfl, rfl⟩, w3.setCell ⟨N + 2, 0, none⟩ (.bool true), rfl, okd_set hOk _ _, sim_setCell hp.out _ _, ?_⟩
    have hkp : ∀ b, b ≠ N + 2 → (w3.setCell ⟨N + 2, 0, none⟩ (.bool true)).heap[b]? = w3.heap[b]? := fun b hb => Below.heap_setCell _ _ _ _ hb
    have e5 := putAt e4 0 (.bool true)
    have hsp : (w3.setCell ⟨N + 2, 0, none⟩ (.bool true)).heap.size = w3.heap.size := by simp [World.setCell]
    replace e1 := (hkp N (by omega)).trans e1
    replace e2 := (hkp (N + 1) (by omega)).trans e2
    generalize w3.setCell ⟨N + 2, 0, none⟩ (.bool true) = w4 at *
    obtain ⟨C5, hO, hF⟩ := C4.grown hloc (w1 := w4) (by omega) (fun b hb h => hkp b (fun z => by rw [z, p3] at h; simp at h))
    refine tgo_rebase hO hF ?_
    have X := tgo_xc (Rep := Rep) (P := Try.prog) (U := U) (i := i) (own := ownG i w3.heap.size w4.heap.size own3) (w := w4) (ov := ov3) (bv := bv3) (mc := (m3, .fin))
    refine x_regionEnd X ?_
    refine x_end X ?_
    refine x_unwind X (by simp) rfl rfl Try.func66 (by kernel_rfl) (by kernel_rfl) ?_
    exact fin_ret hloc hU C5 e1 e2 (by simpa using e5) _ rfl rfl rfl rfl
  · refine gof_of fun w3 m3 own3 ov3 bv3 C4 => ?_
    have X := tgo_xc (Rep := Rep) (P := Try.prog) (U := U) (i := i) (own := own3) (w := w3) (ov := ov3) (bv := bv3) (mc := (m3, .fin))
    replace e1 := (C4.mine N o1).2.trans e1
    replace e2 := (C4.mine _ o2).2.trans e2
    rw [raise_run rfl]
    refine x_unwind X (by simp) rfl rfl Try.func66 (by kernel_rfl) (by kernel_rfl) ?_
    exact fin_pan hloc hU C4 (bW := N + 2) e1 e2 _ rfl rfl rfl rfl
end
end Go.Proofs.Ytimkkeomdkbcjaa

/-
  A STEP within the program's functions, as a thread: cell.step. No condition of its own.
-/
namespace Go.Proofs.Ytimkkeomdkbcjaa
open Go.Conc Go.RowKit
def stp (U : Tun) (i : Nat) : Value := .iface 140 (.pointer (some ⟨U.st i, 0, none⟩))
theorem neq_stp (v : Value) (w : World) : ((binOp .neq 71 (.iface 140 v) .nilIface).bind fun v => (pure (Next.value v) : Sem Next)).runT Try.prog w #[] = (.ok (.value (.bool true)) w, #[]) := by kernel_rfl
theorem enter_stand (a : Addr) (w : World) : (execOp (Act.eval ⟨#[.iface 140 (.pointer (some a)), undef, .iface 140 (.pointer (some a)), .bool true, .iface 140 (.pointer (some a)), undef], []⟩) { dst := some 5, op := Op.call { callee := Callee.invoke (Operand.tmp 4) "Step", args := #[], argTypes := #[] }, type := 0, pos := "cell.go:15", after := #[{ on := 0, ground := Ground.data }], guard := none }).runT Try.prog w #[] = (.ok (.enter 92 #[.pointer (some a)]) w, #[]) := by kernel_rfl
section
variable {M : Type} [Priv M] {Rep : M → (Nat → Owner) → World → Prop} {U : Tun} {i : Nat} {A : Nat → Prop} {w₀ : W0 M}
theorem cstep_cps (hloc : Local Rep) {κ : Fu M} {c : Frame} {cs : List Frame} (hret : GOF Rep Try.prog U i κ A w₀ (G (c.finish (.tuple #[])) cs)) (hend : Ended Rep Try.prog U i A w₀ (G (c.raise [{ v := endV U, recovered := false }]) cs)) :
    GOF Rep Try.prog U i (stepF κ) A w₀ (G (Frame.enter Try.prog 39 #[stp U i] .normal) (c :: cs)) := by
  refine gof_of fun w m own ov bv C => ?_
  have X := tgo_xc (Rep := Rep) (P := Try.prog) (U := U) (i := i) (own := own) (w := w) (ov := ov) (bv := bv) (mc := stepF κ m)
  replace hret := Lib.hid hret
  replace hend := Lib.hid hend
  rw [enter_at _ Try.func39 rfl]
  simp only [Try.ntmps39, List.size_toArray, List.length_cons, List.length_nil, Nat.reduceAdd, Nat.reduceSub, Array.replicate_succ,
     Array.replicate_zero, List.push_toArray, List.append_toArray, List.nil_append, List.cons_append]
  refine x_seq X ?_
  refine x_reg X 1 (by decide) (by decide) (calm0 (by kernel_rfl)) C.seats fun wp hp => ?_
  simp only [List.take_succ_cons, List.take_zero]
  replace X := Lib.hid X
  replace hp := Lib.hid hp
  go_wp2_with fail
  refine after_same hp.out C.seats.okd ?_
  refine x_val X.out (v := .bool true) rfl rfl (by decide) (fun w => neq_stp _ w) ?_
  refine x_regionEnd X.out ?_
  refine x_cond X.out (t := true) rfl ?_
  clear hp wp
  refine x_reg X.out 1 (by decide) (by decide) (calm0 (by kernel_rfl)) C.seats fun wp hp => ?_
  simp only [List.take_succ_cons, List.take_zero]
  replace hp := Lib.hid hp
  go_wp2_with fail
  refine after_same hp.out C.seats.okd ?_
  clear hp wp
  refine x_call X.out (f := 92) (args := #[.pointer (some ⟨U.st i, 0, none⟩)]) rfl rfl (by decide) (fun w => ?_) ?_
  · exact enter_stand _ w
  refine tgo_next hloc (step_cps hloc ?_ ?_) C .refl .refl
  · refine gof_of fun w2 m2 own2 ov2 bv2 C2 => ?_
    rw [Frame.finish_at]
    have X2 := tgo_xc (Rep := Rep) (P := Try.prog) (U := U) (i := i) (own := own2) (w := w2) (ov := ov2) (bv := bv2) (mc := κ m2)
    refine x_regionEnd X2 ?_
    refine x_end X2 ?_
    refine x_leave X2 (calmRes_of Try.func39) C2.seats ⟨rfl, rfl, rfl, _, Try.func39, results_none rfl _ _ _⟩ ?_
    exact tgo_next hloc hret.out C2 .refl .refl
  · refine gof_of fun w2 m2 own2 ov2 bv2 C2 => ?_
    have X2 := tgo_xc (Rep := Rep) (P := Try.prog) (U := U) (i := i) (own := own2) (w := w2) (ov := ov2) (bv := bv2) (mc := (m2, .fin))
    rw [raise_run rfl]
    refine x_raise X2 (calmRes_of Try.func39) rfl rfl ?_
    exact tgo_next hloc hend.out C2 .refl .refl
end
end Go.Proofs.Ytimkkeomdkbcjaa

/-
  Words and flags: the library's atomics, alone. No condition of its own.
-/
namespace Go.Proofs.Ytimkkeomdkbcjaa
open Go.Conc Go.RowKit
theorem load64 {a : Addr} {x : Int} {w : World} (hc : w.cell? a = some (.int .i64 x)) : (callFunc 68 #[.pointer (some a)]).run Try.prog w = .ok (.value (.int .i64 x)) w :=
  run_call_load (P := Try.prog) Try.func68 (by kernel_rfl) (by kernel_rfl) (by kernel_rfl) .i64 (by kernel_rfl) hc
theorem store64 {a : Addr} {x y : Int} {w : World} (hc : w.cell? a = some (.int .i64 x)) (hz : w.frozen? a = false) : (callFunc 65 #[.pointer (some a), .int .i64 y]).run Try.prog w = .ok (.value (.tuple #[])) (w.setCell a (.int .i64 y)) :=
  run_call_store (P := Try.prog) Try.func65 (by kernel_rfl) (by kernel_rfl) (by kernel_rfl) (by kernel_rfl) hc hz
def addW (x y : Int) : Int := IntKind.i64.wrap (x + y)
theorem add64 {a : Addr} {x y : Int} {w : World} (hc : w.cell? a = some (.int .i64 x)) (hz : w.frozen? a = false) : (callFunc 70 #[.pointer (some a), .int .i64 y]).run Try.prog w = .ok (.value (.int .i64 (addW x y))) (w.setCell a (.int .i64 (addW x y))) :=
  run_call_add (P := Try.prog) Try.func70 (by kernel_rfl) (by kernel_rfl) (by kernel_rfl) .i64 (by kernel_rfl) hc hz (by simp [Op.intArith, addW])
theorem b32_bitB (x : Bool) (w : World) : Calls Try.prog 54 #[.bool x] w fun e w' => e = .returned (.int .u32 (bit x)) ∧ w = w' := b32_any x w
theorem bit_neB (x : Bool) : (bit x != 0) = x := by cases x <;> rfl
theorem boolSwapB (b off : Nat) (x y : Bool) (w : World) (hc : w.cell? ⟨b, off, none⟩ = some (.int .u32 (bit x))) (hf : w.frozen? ⟨b, off, none⟩ = false) :
    Calls Try.prog 41 #[.pointer (some ⟨b, off, none⟩), .bool y] w fun e w' => e = .returned (.bool x) ∧ (w.setCell ⟨b, off, none⟩ (.int .u32 (bit y))).drew = w' := by
  have hl := swap32 (y := bit y) (w := w.drew) (a := ⟨b, off, none⟩) (x := bit x) hc hf
  have hx := bit_neB x
  go_enter Try.func41, Try.ntmps41
  go_wp2
  go_region_with (go_at_call 54; refine (b32_bitB _ _).mono ?_; rintro e w' ⟨rfl, rfl⟩)
  go_wp2
  go_ret
  exact ⟨rfl, rfl⟩
theorem wordLoad (b : Nat) (x : Int) (w : World) (hc : w.cell? ⟨b, 0, none⟩ = some (.int .i64 x)) :
    Calls Try.prog 63 #[.pointer (some ⟨b, 0, none⟩)] w fun e w' => e = .returned (.int .i64 x) ∧ w = w' := by
  have hl := load64 hc
  have hi := Try.func68
  go_enter Try.func63, Try.ntmps63
  go_wp2
  go_ret
  exact ⟨rfl, rfl⟩
theorem wordStore (b : Nat) (x y : Int) (w : World) (hc : w.cell? ⟨b, 0, none⟩ = some (.int .i64 x)) (hf : w.frozen? ⟨b, 0, none⟩ = false) :
    Calls Try.prog 55 #[.pointer (some ⟨b, 0, none⟩), .int .i64 y] w fun e w' => e = .returned (.tuple #[]) ∧ w.setCell ⟨b, 0, none⟩ (.int .i64 y) = w' := by
  have hl := store64 (y := y) hc hf
  go_enter Try.func55, Try.ntmps55
  go_wp2
  go_end0
  exact ⟨rfl, rfl⟩
theorem wordAdd (b : Nat) (x y : Int) (w : World) (hc : w.cell? ⟨b, 0, none⟩ = some (.int .i64 x)) (hf : w.frozen? ⟨b, 0, none⟩ = false) :
    Calls Try.prog 67 #[.pointer (some ⟨b, 0, none⟩), .int .i64 y] w fun e w' => e = .returned (.int .i64 (addW x y)) ∧ w.setCell ⟨b, 0, none⟩ (.int .i64 (addW x y)) = w' := by
  have hl := add64 (y := y) hc hf
  go_enter Try.func67, Try.ntmps67
  go_wp2
  go_ret
  exact ⟨rfl, rfl⟩
theorem prgB : Prg true Try.prog (· ∈ [40, 41, 54, 55, 63, 67]) := prg_of ext_ok (by kernel_rfl) (by kernel_rfl) (by kernel_rfl)
end Go.Proofs.Ytimkkeomdkbcjaa

/-
  The barrier's world as threads share it: words, the alarm, answers. Words and flags, as threads: a step each. No condition of its own.
-/
namespace Go.Proofs.Ytimkkeomdkbcjaa
open Go.Conc Go.RowKit
open Go.ConcN (upd upd_ne upd_same)
abbrev In64 (x : Int) : Prop := -9223372036854775808 ≤ x ∧ x ≤ 9223372036854775807
structure BL where
  k : Nat
  n : Nat
  wb : Nat
  pb : Nat
  bb : Nat
  sa : Nat
  ar : Nat
  pcap : Nat
  scap : Nat
  ps : Option Addr
  ss : Option Addr
  wd : Nat → Nat
  stc : List (Nat × Array Value × TypeId)
  lo : Nat
  inp : List (Nat × Obj)
structure BL.Wf (Y : BL) : Prop where
  ps : 0 < Y.k → Y.ps = some ⟨Y.pb, 0, none⟩
  ss : 0 < Y.k → Y.ss = some ⟨Y.sa, 0, none⟩
  pcap : Y.k ≤ Y.pcap
  scap : Y.k ≤ Y.scap
  kk : Y.k ≤ 65
  nn : Y.n ≤ 64
  inj : ∀ i j, i < Y.k → j < Y.k → Y.wd i = Y.wd j → i = j
structure BM where
  wv : Nat → Int
  al : Bool
  an : Nat → List (Bool × Int)
@[reducible] instance : Priv BM := ⟨List (Bool × Int), fun i m => m.an i⟩
def flatA (l : List (Bool × Int)) : List Value := l.flatMap fun r => [.bool r.1, .int .i64 r.2, .slice none 0 0]
def AnsRow (lo : Nat) (own : Nat → Owner) (w : World) (v : Value) (l : List (Bool × Int)) : Prop := w.ownsRow lo 97 3 v l.length (flatA l) ∧ ∀ g, v.ownBlock = some g → own g = .sh
theorem ownsRow_keep {w w' : World} {base n : Nat} {e : TypeId} {sz : Nat} {v : Value} {ys : List Value} (h : w.ownsRow base e sz v n ys) (hk : ∀ g o, v.ownBlock = some g → w.heap[g]? = some o → w'.heap[g]? = some o) : w'.ownsRow base e sz v n ys := by
  obtain ⟨h1, h2⟩ := h
  refine ⟨h1, ?_⟩
  rcases h2 with h2 | ⟨g, cap, cur, rfl, q1, q2, q3⟩
  · exact .inl h2
  · exact .inr ⟨g, cap, cur, rfl, q1, hk g _ rfl q2, q3⟩
theorem ownsRow_type {w : World} {base n : Nat} {e : TypeId} {sz : Nat} {v : Value} {ys : List Value} (h : w.ownsRow base e sz v n ys) {g : Nat} (hg : v.ownBlock = some g) : ∃ c, w.heap[g]? = some (.cells c e (0, 0)) := by
  rcases h.2 with ⟨rfl, _⟩ | ⟨g', cap, cur, rfl, q1, q2, q3⟩
  · cases hg
  · cases hg
    exact ⟨_, q2⟩
structure BRep (Y : BL) (m : BM) (own : Nat → Owner) (w : World) : Prop where
  wb : own Y.wb = .sh ∧ w.heap[Y.wb]? = some (.cells #[.slice Y.ps Y.k Y.pcap, .pointer (some ⟨Y.bb, 0, none⟩)] 103 (0, 0))
  pb : 0 < Y.k → own Y.pb = .sh ∧ ∃ c, w.heap[Y.pb]? = some (.cells c 104 (0, 0)) ∧ ∀ j, j < Y.k → c[j]? = some (.pointer (some ⟨Y.wd j, 0, none⟩))
  bb : own Y.bb = .sh ∧ w.heap[Y.bb]? = some (.cells #[.slice Y.ss Y.k Y.scap, .int .u32 (bit m.al)] 54 (0, 0))
  sa : 0 < Y.k → own Y.sa = .sh ∧ ∃ c, w.heap[Y.sa]? = some (.cells c 32 (0, 0)) ∧ ∀ j, j < Y.k → c[j]? = some (.iface 104 (.pointer (some ⟨Y.wd j, 0, none⟩)))
  wd : ∀ j, j < Y.k → own (Y.wd j) = .sh ∧ w.heap[Y.wd j]? = some (.cells #[.int .i64 (m.wv j)] 132 (0, 0)) ∧ In64 (m.wv j)
  ar : own Y.ar = .sh ∧ ∃ c, w.heap[Y.ar]? = some (.cells c 75 (0, 0)) ∧ c.size = Y.n ∧ (∀ i j g, i < Y.n → j < Y.n → (c.getD i undef).ownBlock = some g → (c.getD j undef).ownBlock = some g → i = j) ∧ ∀ i, i < Y.n → AnsRow Y.lo own w (c.getD i undef) (m.an i)
  stc : ∀ e ∈ Y.stc, e.2.2 ≠ 132 ∧ e.2.2 ≠ 54 ∧ e.2.2 ≠ 75 ∧ e.2.2 ≠ 97 ∧ own e.1 = .sh ∧ w.heap[e.1]? = some (.cells e.2.1 e.2.2 (0, 0))
  lo : Y.lo ≤ Y.bb ∧ Y.lo ≤ Y.ar ∧ ∀ j, j < Y.k → Y.lo ≤ Y.wd j
  inp : ∀ e ∈ Y.inp, e.1 < Y.lo ∧ own e.1 = .sh ∧ w.heap[e.1]? = some e.2
theorem BRep.local (Y : BL) : Local (BRep Y) := by
  rintro m own own' w w' ⟨a, b, c, d, e, f, st, lo, inp⟩ h
  refine ⟨?_, fun hk => ?_, ?_, fun hk => ?_, fun j hj => ?_, ?_, fun x hx => ?_, lo, fun x hx => ?_⟩
  · exact ⟨(h _ a.1).1, (h _ a.1).2.trans a.2⟩
  · obtain ⟨o, x, q⟩ := b hk
    exact ⟨(h _ o).1, x, (h _ o).2.trans q.1, q.2⟩
  · exact ⟨(h _ c.1).1, (h _ c.1).2.trans c.2⟩
  · obtain ⟨o, x, q⟩ := d hk
    exact ⟨(h _ o).1, x, (h _ o).2.trans q.1, q.2⟩
  · obtain ⟨o, q1, q2⟩ := e j hj
    exact ⟨(h _ o).1, (h _ o).2.trans q1, q2⟩
  · obtain ⟨o, x, q1, q2, q3, q4⟩ := f
    refine ⟨(h _ o).1, x, (h _ o).2.trans q1, q2, q3, fun i hi => ?_⟩
    obtain ⟨r1, r2⟩ := q4 i hi
    exact ⟨ownsRow_keep r1 fun g o hg hh => (h _ (r2 g hg)).2.trans hh, fun g hg => (h _ (r2 g hg)).1⟩
  · obtain ⟨t1, t2, t3, t4, o, q⟩ := st x hx
    exact ⟨t1, t2, t3, t4, (h _ o).1, (h _ o).2.trans q⟩
  · obtain ⟨t1, o, q⟩ := inp x hx
    exact ⟨t1, (h _ o).1, (h _ o).2.trans q⟩
section
variable {Y : BL} {m : BM} {own : Nat → Owner} {w w' : World}
theorem BRep.put (h : BRep Y m own w) (hY : Y.Wf) {j : Nat} (hj : j < Y.k) {v : Int} (hv : In64 v) (ht : w'.heap[Y.wd j]? = some (.cells #[.int .i64 v] 132 (0, 0))) (ho : ∀ b, own b = .sh → b ≠ Y.wd j → w'.heap[b]? = w.heap[b]?) :
    BRep Y { m with wv := upd m.wv j v } own w' := by
  obtain ⟨a, b, c, d, e, f, st, lo, inp⟩ := h
  obtain ⟨oj, wj, _⟩ := e j hj
  have ne : ∀ {x : Nat} {o : Obj}, own x = .sh → w.heap[x]? = some o → (∀ c f, o ≠ .cells c 132 f) → w'.heap[x]? = some o := fun {x o} h1 h2 h3 => by
    rw [ho x h1 (fun z => by rw [z, wj] at h2; exact h3 _ _ (Option.some.inj h2).symm)]
    exact h2
  refine ⟨⟨a.1, ne a.1 a.2 (by simp)⟩, fun hk => ?_, ⟨c.1, ne c.1 c.2 (by simp)⟩, fun hk => ?_, fun i hi => ?_, ?_, fun x hx => ?_, lo, fun x hx => ?_⟩
  · obtain ⟨o, x, q⟩ := b hk
    exact ⟨o, x, ne o q.1 (by simp), q.2⟩
  · obtain ⟨o, x, q⟩ := d hk
    exact ⟨o, x, ne o q.1 (by simp), q.2⟩
  · obtain ⟨o, q1, q2⟩ := e i hi
    by_cases z : i = j
    · subst z
      simp only [upd_same]
      exact ⟨o, ht, hv⟩
    · simp only [upd_ne _ _ z]
      exact ⟨o, (ho _ o fun y => z (hY.inj _ _ hi hj y)).trans q1, q2⟩
  · obtain ⟨o, x, q1, q2, q3, q4⟩ := f
    refine ⟨o, x, ne o q1 (by simp), q2, q3, fun i hi => ?_⟩
    obtain ⟨r1, r2⟩ := q4 i hi
    refine ⟨ownsRow_keep r1 fun g oo hg hh => ?_, r2⟩
    obtain ⟨cc, hcc⟩ := ownsRow_type r1 hg
    rw [hcc] at hh
    exact ne (r2 g hg) (hcc.trans hh) (by cases hh; simp)
  · obtain ⟨t1, t2, t3, t4, o, q⟩ := st x hx
    exact ⟨t1, t2, t3, t4, o, ne o q (by simp [t1])⟩
  · obtain ⟨t1, o, q⟩ := inp x hx
    have := lo.2.2 j hj
    exact ⟨t1, o, (ho _ o (by omega)).trans q⟩
theorem BRep.alarm (h : BRep Y m own w) (v : Bool) (ht : w'.heap[Y.bb]? = some (.cells #[.slice Y.ss Y.k Y.scap, .int .u32 (bit v)] 54 (0, 0))) (ho : ∀ b, own b = .sh → b ≠ Y.bb → w'.heap[b]? = w.heap[b]?) :
    BRep Y { m with al := v } own w' := by
  obtain ⟨a, b, c, d, e, f, st, lo, inp⟩ := h
  have ne : ∀ {x : Nat} {o : Obj}, own x = .sh → w.heap[x]? = some o → (∀ c f, o ≠ .cells c 54 f) → w'.heap[x]? = some o := fun {x o} h1 h2 h3 => by
    rw [ho x h1 (fun z => by rw [z, c.2] at h2; exact h3 _ _ (Option.some.inj h2).symm)]
    exact h2
  refine ⟨⟨a.1, ne a.1 a.2 (by simp)⟩, fun hk => ?_, ⟨c.1, ht⟩, fun hk => ?_, fun i hi => ?_, ?_, fun x hx => ?_, lo, fun x hx => ?_⟩
  · obtain ⟨o, x, q⟩ := b hk
    exact ⟨o, x, ne o q.1 (by simp), q.2⟩
  · obtain ⟨o, x, q⟩ := d hk
    exact ⟨o, x, ne o q.1 (by simp), q.2⟩
  · obtain ⟨o, q1, q2⟩ := e i hi
    exact ⟨o, ne o q1 (by simp), q2⟩
  · obtain ⟨o, x, q1, q2, q3, q4⟩ := f
    refine ⟨o, x, ne o q1 (by simp), q2, q3, fun i hi => ?_⟩
    obtain ⟨r1, r2⟩ := q4 i hi
    refine ⟨ownsRow_keep r1 fun g oo hg hh => ?_, r2⟩
    obtain ⟨cc, hcc⟩ := ownsRow_type r1 hg
    rw [hcc] at hh
    exact ne (r2 g hg) (hcc.trans hh) (by cases hh; simp)
  · obtain ⟨t1, t2, t3, t4, o, q⟩ := st x hx
    exact ⟨t1, t2, t3, t4, o, ne o q (by simp [t2])⟩
  · obtain ⟨t1, o, q⟩ := inp x hx
    have := lo.1
    exact ⟨t1, o, (ho _ o (by omega)).trans q⟩
end
section
variable {Y : BL} {U : Tun} {i : Nat} {A : Nat → Prop} {w₀ : W0 BM}
abbrev EndedC (Y : BL) (U : Tun) (i : Nat) (A : Nat → Prop) (w₀ : W0 BM) (c : Frame) (cs : List Frame) : Prop := Ended (BRep Y) Try.prog U i A w₀ (G (c.raise [{ v := endV U, recovered := false }]) cs)
theorem ended_up {fr c : Frame} {cs : List Frame} (hres : CalmRes true Try.prog fr.fn) (hm : fr.mode = .run) (hd : fr.defers = []) (h : EndedC Y U i A w₀ c cs) : EndedC Y U i A w₀ fr (c :: cs) := by
  refine gof_of fun w2 m2 own2 ov2 bv2 C2 => ?_
  have X2 := tgo_xc (Rep := BRep Y) (P := Try.prog) (U := U) (i := i) (own := own2) (w := w2) (ov := ov2) (bv := bv2) (mc := (m2, .fin))
  rw [raise_run hm]
  refine x_raise X2 hres rfl hd ?_
  exact tgo_next (BRep.local Y) h C2 .refl .refl
theorem cstep_tgo {w : World} {m : BM} {own : Nat → Owner} {ov bv : Nat → Bool} (C : Ctx (BRep Y) U i own A w₀ w m ov bv) {κ : Fu BM} {c : Frame} {cs : List Frame} (hend : EndedC Y U i A w₀ c cs)
    (hret : ∀ w m own ov bv, Ctx (BRep Y) U i own A w₀ w m ov bv → TGO (BRep Y) Try.prog U i own w (κ m) ov bv (G (c.finish (.tuple #[])) cs) w) :
    TGO (BRep Y) Try.prog U i own w (stepF κ m) ov bv (G (Frame.enter Try.prog 39 #[stp U i] .normal) (c :: cs)) w :=
  tgo_next (BRep.local Y) (cstep_cps (BRep.local Y) (gof_of hret) hend) C .refl .refl
theorem load_cps {j : Nat} (hj : j < Y.k) {κ : Int → Fu BM} {c : Frame} {cs : List Frame} (hret : ∀ v, In64 v → GOF (BRep Y) Try.prog U i (κ v) A w₀ (G (c.finish (.int .i64 v)) cs)) (hend : EndedC Y U i A w₀ c cs) :
    GOF (BRep Y) Try.prog U i (stepF fun m => κ (m.wv j) m) A w₀ (G (Frame.enter Try.prog 91 #[.pointer (some ⟨Y.wd j, 0, none⟩), stp U i] .normal) (c :: cs)) := by
  refine gof_of fun w m own ov bv C => ?_
  have X := tgo_xc (Rep := BRep Y) (P := Try.prog) (U := U) (i := i) (own := own) (w := w) (ov := ov) (bv := bv) (mc := stepF (fun m => κ (m.wv j) m) m)
  replace hret := Lib.hid hret
  replace hend := Lib.hid hend
  rw [enter_at _ Try.func91 rfl]
  simp only [Try.ntmps91, List.size_toArray, List.length_cons, List.length_nil, Nat.reduceAdd, Nat.reduceSub, Array.replicate_succ,
     Array.replicate_zero, List.push_toArray, List.append_toArray, List.nil_append, List.cons_append]
  have hOk := C.seats.okd
  replace X := Lib.hid X
  refine x_seqR X.out fun R0 hR0 => ?_
  refine x_seg X.out prgB (calmCode_of ext_ok (by kernel_rfl)) rfl (calmRes_of Try.func91) rfl C.seats fun wp hp => ?_
  replace hp := Lib.hid hp
  go_wp2_with fail
  refine ⟨w, rfl, hOk, hp.out, ?_⟩
  clear hp wp
  obtain rfl := hR0.out
  clear hR0
  refine x_seqR X.out fun R0 hR0 => ?_
  refine x_seg X.out prgB (calmCode_of ext_ok (by kernel_rfl)) rfl (calmRes_of Try.func91) rfl C.seats fun wp hp => ?_
  replace hp := Lib.hid hp
  go_wp2_with fail
  refine ⟨w, rfl, hOk, hp.out, ?_⟩
  clear hp wp
  obtain rfl := hR0.out
  clear hR0
  refine x_seqR X.out fun R0 hR0 => ?_
  refine x_reg X.out 1 (by decide) (by decide) (calm0 (by kernel_rfl)) C.seats fun wp hp => ?_
  simp only [List.take_succ_cons, List.take_zero]
  replace hp := Lib.hid hp
  go_wp2_with fail
  refine after_same hp.out hOk ?_
  clear hp wp
  refine x_callF X.out rfl rfl (by decide) rfl Try.func39 (by kernel_rfl) (by kernel_rfl) ?_
  walk_nrm
  refine cstep_tgo C (ended_up (calmRes_of Try.func91) rfl rfl hend.out) fun w m own ov bv C => ?_
  rw [Frame.finish_at]
  clear hOk X
  have X := tgo_xc (Rep := BRep Y) (P := Try.prog) (U := U) (i := i) (own := own) (w := w) (ov := ov) (bv := bv) (mc := κ (m.wv j) m)
  have hOk := C.seats.okd
  replace X := Lib.hid X
  refine x_regionEnd X.out ?_
  obtain rfl := hR0.out
  clear hR0
  refine x_seqR X.out fun R0 hR0 => ?_
  refine x_seg X.out prgB (calmCode_of ext_ok (by kernel_rfl)) rfl (calmRes_of Try.func91) rfl C.seats fun wp hp => ?_
  obtain ⟨_, h2, h3⟩ := C.rep.wd j hj
  have hc := (simCellT hp _).trans (cellAt h2 0)
  simp only [List.getElem?_toArray, List.getElem?_cons_zero] at hc
  have hl := wordLoad (Y.wd j) (m.wv j) wp hc
  replace hp := Lib.hid hp
  replace h2 := Lib.hid h2
  replace h3 := Lib.hid h3
  clear hc
  go_wp2_with (go_at_call 63; refine hl.mono ?_; rintro e w' ⟨rfl, rfl⟩)
  refine ⟨w, rfl, hOk, hp.out, ?_⟩
  obtain rfl := hR0.out
  refine x_ret X.out ?_
  refine x_leave X.out (calmRes_of Try.func91) C.seats ⟨rfl, rfl, rfl, _, Try.func91, results_tmp rfl _ _ _⟩ ?_
  exact tgo_next (BRep.local Y) (hret.out _ h3.out) C .refl .refl
end
end Go.Proofs.Ytimkkeomdkbcjaa
