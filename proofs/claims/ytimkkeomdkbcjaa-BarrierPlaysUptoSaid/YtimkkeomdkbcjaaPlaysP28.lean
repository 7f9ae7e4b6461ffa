/-
  Merged out of: Bar9 Bar10. No condition of its own.
-/
import Derived.Test.YtimkkeomdkbcjaaPlaysP27
import Derived.Test.YtimkkeomdkbcjaaPlaysP05
set_option linter.unusedVariables false
set_option linter.unusedSimpArgs false
/-
  A store or an add at a word, as a thread. No condition of its own.
-/
namespace Go.Proofs.Ytimkkeomdkbcjaa
open Go.Conc Go.RowKit
open Go.ConcN (upd upd_ne upd_same)
section
variable {M : Type} [Priv M] {Rep : M → (Nat → Owner) → World → Prop} {P : Program} {U : Tun} {i : Nat} {own : Nat → Owner} {A : Nat → Prop} {w₀ : W0 M} {w w1 : World} {m m' : M} {ov bv : Nat → Bool}
theorem Ctx.lift (hloc : Local Rep) (C : Ctx Rep U i own A w₀ w m ov bv) (hs : w.heap.size ≤ w1.heap.size) (hk : ∀ b, b < w.heap.size → w1.heap[b]? = w.heap[b]?) :
    ∃ own1, Ctx Rep U i own1 (fun b => own1 b = .th i) ⟨w1.heap, m⟩ w1 m ov bv ∧ OwnStep i own own1 w.heap.size ∧ Frm i own w w1 ∧ (∀ b, w.heap.size ≤ b → b < w1.heap.size → own1 b = .th i) ∧
      (∀ b, A b → own1 b = .th i ∧ w1.heap[b]? = w₀.heap[b]? ∧ b < w.heap.size) := by
  obtain ⟨C1, h1, h2⟩ := C.grown hloc (w1 := w1) hs (fun b hb _ => hk b hb)
  refine ⟨_, C1, h1, h2, fun b => ownG_new, fun b hb => ?_⟩
  obtain ⟨q1, q2⟩ := C.mine b hb
  have hlt := C.lt' (b := b) (by rw [q1]; simp)
  exact ⟨(ownG_old hlt).trans q1, (hk b hlt).trans q2, hlt⟩
theorem own_two (hloc : Local Rep) (C : Ctx Rep U i own A w₀ w m ov bv) {o1 o2 : Obj} {mc : M × Co M} {g : Goroutine} {N : Nat} (hN : N = w.heap.size)
    (h : ∀ own1 w1, Ctx Rep U i own1 (fun b => own1 b = .th i) ⟨w1.heap, m⟩ w1 m ov bv → w1.heap[N]? = some o1 → w1.heap[N + 1]? = some o2 → w1.heap.size = N + 2 → own1 N = .th i → own1 (N + 1) = .th i → (∀ b, A b → own1 b = .th i ∧ w1.heap[b]? = w₀.heap[b]? ∧ b < N) → TGO Rep P U i own1 w1 mc ov bv g w1) :
    TGO Rep P U i own w mc ov bv g ((w.alloc o1).alloc o2) := by
  subst hN
  have hs : ((w.alloc o1).alloc o2).heap.size = w.heap.size + 2 := by simp
  have hb : ∀ b, b < w.heap.size → ((w.alloc o1).alloc o2).heap[b]? = w.heap[b]? := fun b hb => by
    rw [Below.heap_alloc _ _ _ (by simp; omega), Below.heap_alloc _ _ _ hb]
  have e1 : ((w.alloc o1).alloc o2).heap[w.heap.size]? = some o1 := by
    rw [Below.heap_alloc _ _ _ (by simp)]; exact heap_alloc_new _ _
  have e2 : ((w.alloc o1).alloc o2).heap[w.heap.size + 1]? = some o2 := by
    have := heap_alloc_new (w.alloc o1) o2
    simpa using this
  generalize (w.alloc o1).alloc o2 = w1 at *
  obtain ⟨own1, C1, hO, hF, hn, hA⟩ := C.lift hloc (w1 := w1) (by omega) hb
  exact tgo_rebase hO hF (h own1 w1 C1 e1 e2 hs (hn _ (Nat.le_refl _) (by omega)) (hn _ (by omega) (by omega)) hA)
theorem GOF.lifted {A1 : Nat → Prop} {φ : Fu M} {g : Goroutine} {w₁ : W0 M} (h : GOF Rep P U i φ A w₀ g) (hA : ∀ b, A b → A1 b ∧ w₁.heap[b]? = w₀.heap[b]?) (hp : Priv.get i w₁.m = Priv.get i w₀.m) : GOF Rep P U i φ A1 w₁ g :=
  h.more (fun b hb => hA b hb) hp
theorem Ctx.wrote (hloc : Local Rep) (C : Ctx Rep U i own A w₀ w m ov bv) {b0 : Nat} (ho : own b0 = .th i) (hA : ¬ A b0) (hs : w1.heap.size = w.heap.size) (hk : ∀ b, b ≠ b0 → w1.heap[b]? = w.heap[b]?) : Ctx Rep U i own A w₀ w1 m ov bv ∧ Frm i own w w1 :=
  ⟨⟨C.lt, C.wf, C.tn.of_blk fun b hb => hk b fun z => by have := C.tun b hb; rw [z, ho] at this; simp at this, C.tun, hloc _ _ _ _ _ C.rep fun b hb => ⟨hb, hk b fun z => by rw [z, ho] at hb; simp at hb⟩, fun b hb => C.fresh b (by omega), fun b hb => ⟨(C.mine b hb).1, (hk b fun z => hA (z ▸ hb)).trans (C.mine b hb).2⟩, C.bf, C.pv⟩, by omega, fun b _ h _ _ => hk b fun z => h (z ▸ ho)⟩
end
structure OpD where
  kind : Int
  a : Int
  b : Int
  c : Int
def opV (o : OpD) : Value := .agg #[.int .i64 o.kind, .int .i64 o.a, .int .i64 o.b, .int .i64 o.c]
def ansV (r : Bool × Int) : Value := .agg #[.bool r.1, .int .i64 r.2, .slice none 0 0]
structure OpD.Ok (o : OpD) : Prop where
  kind : In64 o.kind
  a : In64 o.a
  b : In64 o.b
  c : In64 o.c
def changeF (κ : Bool × Int → Fu BM) (k : Nat) (o : OpD) : Fu BM :=
  if o.a < 0 ∨ k ≤ o.a then κ (false, 0) else if o.kind = 6 then stepF fun m => κ (true, 0) { m with wv := upd m.wv o.a.toNat o.b }
  else stepF fun m => κ (true, addW (m.wv o.a.toNat) o.b) { m with wv := upd m.wv o.a.toNat (addW (m.wv o.a.toNat) o.b) }
section
variable {Y : BL} {U : Tun} {i : Nat} {A : Nat → Prop} {w₀ : W0 BM} {c : Frame} {cs : List Frame} {R : List Item}
def put3 (w : World) (b : Nat) (r : Bool × Int) : World := ((w.setCell ⟨b, 0, none⟩ (.bool r.1)).setCell ⟨b, 1, none⟩ (.int .i64 r.2)).setCell ⟨b, 2, none⟩ (.slice none 0 0)
theorem put3_at {w : World} {b : Nat} {c : Array Value} {f : Nat × Nat} (h : w.heap[b]? = some (.cells c 97 f)) (hc : c.size = 3) (r : Bool × Int) : (put3 w b r).heap[b]? = some (.cells #[.bool r.1, .int .i64 r.2, .slice none 0 0] 97 f) := by
  have h1 := putAt (putAt (putAt h 0 (.bool r.1)) 1 (.int .i64 r.2)) 2 (.slice none 0 0)
  unfold put3
  rw [h1]
  congr 2
  apply Array.ext_getElem?
  intro j
  simp only [Array.getElem?_setIfInBounds, Array.size_setIfInBounds, hc]
  rcases j with _ | _ | _ | j <;> simp
  omega
theorem put3_off {w : World} {b x : Nat} (h : x ≠ b) (r : Bool × Int) : (put3 w b r).heap[x]? = w.heap[x]? := by
  unfold put3
  rw [Below.heap_setCell _ _ _ _ h, Below.heap_setCell _ _ _ _ h, Below.heap_setCell _ _ _ _ h]
theorem put3_size (w : World) (b : Nat) (r : Bool × Int) : (put3 w b r).heap.size = w.heap.size := by simp [put3, World.setCell]
theorem put3_sim {D : Nat → Option (Nat × Nat)} {w wp : World} (h : Sim wp (poi D w)) (b : Nat) (r : Bool × Int) : Sim (put3 wp b r) (poi D (put3 w b r)) := sim_setCell (sim_setCell (sim_setCell h _ _) _ _) _ _
theorem put3_okd {D : Nat → Option (Nat × Nat)} {w : World} (h : Okd D w) (b : Nat) (r : Bool × Int) : Okd D (put3 w b r) := okd_set (okd_set (okd_set h _ _) _ _) _ _
theorem info97 : (Try.prog.info? 97).map (·.size) = some 3 := by kernel_rfl
theorem ans_out {own1 : Nat → Owner} {w1 : World} {m : BM} {ov bv : Nat → Bool} {A1 : Nat → Prop} {w₁ : W0 BM} (C1 : Ctx (BRep Y) U i own1 A1 w₁ w1 m ov bv) (hpv : w₁.m.an i = w₀.m.an i) {B : Nat} (hA : ∀ b, A b → A1 b ∧ w₁.heap[b]? = w₀.heap[b]? ∧ b ≠ B) (oB : own1 B = .th i) {k : Array Value} (eB : w1.heap[B]? = some (.cells k 97 (0, 0))) (hk : k.size = 3)
    {κ : Fu BM} (r : Bool × Int) (hret : GOF (BRep Y) Try.prog U i κ A w₀ (G (c.finish (ansV r)) cs)) {f : FuncId} {fn : Func} (hf : Try.prog.funcs[f]? = some fn) (hres : CalmRes true Try.prog f) {p : Tmp} (hr : fn.results = #[.cell p 97]) {l : Array Value} (hp : l.getD p undef = .pointer (some ⟨B, 0, none⟩)) :
    TGO (BRep Y) Try.prog U i own1 w1 (κ m) ov bv (G ((base f).at ⟨l, []⟩ (.code .ret :: R)) (c :: cs)) (put3 w1 B r) := by
  have X := tgo_xc (Rep := BRep Y) (P := Try.prog) (U := U) (i := i) (own := own1) (w := w1) (ov := ov) (bv := bv) (mc := κ m)
  have C2 : Ctx (BRep Y) U i own1 A w₀ w1 m ov bv := C1.less (fun b hb => ⟨(hA b hb).1, (hA b hb).2.1⟩) hpv
  obtain ⟨C3, hF⟩ := C2.wrote (BRep.local Y) (w1 := put3 w1 B r) oB (fun h => (hA B h).2.2 rfl) (put3_size _ _ _) (fun b hb => put3_off hb r)
  have hD : U.D B = none := C1.dmine (by rw [oB]; simp)
  have hB := (poi_at (Sim.refl (poi U.D (put3 w1 B r))) hD).trans (put3_at eB hk r)
  refine x_ret X ?_
  refine x_leave X hres C3.seats ⟨rfl, rfl, rfl, fn, hf, ?_⟩ ?_ (v := ansV r)
  · exact results_cell_row hr _ _ B 97 _ (0, 0) _ hp hB Try.underlying97 (by rfl) (by rw [info97]; rfl)
  · exact tgo_next (BRep.local Y) hret C3 .refl hF
set_option maxRecDepth 100000 in
set_option maxHeartbeats 1000000 in
theorem change_cps (hY : Y.Wf) {κ : Bool × Int → Fu BM} {o : OpD} (ho : o.Ok) (hend : EndedC Y U i A w₀ c cs) (hret : ∀ r : Bool × Int, In64 r.2 → GOF (BRep Y) Try.prog U i (κ r) A w₀ (G (c.finish (ansV r)) cs)) :
    GOF (BRep Y) Try.prog U i (changeF κ Y.k o) A w₀ (G (Frame.enter Try.prog 45 #[.pointer (some ⟨Y.wb, 0, none⟩), stp U i, opV o] .normal) (c :: cs)) := by
  refine gof_of fun w m own ov bv C => ?_
  have X := tgo_xc (Rep := BRep Y) (P := Try.prog) (U := U) (i := i) (own := own) (w := w) (ov := ov) (bv := bv) (mc := changeF κ Y.k o m)
  have hOk := C.seats.okd
  replace X := Lib.hid X
  rw [enter_at _ Try.func45 rfl]
  simp only [Try.ntmps45, List.size_toArray, List.length_cons, List.length_nil, Nat.reduceAdd, Nat.reduceSub, Array.replicate_succ,
     Array.replicate_zero, List.push_toArray, List.append_toArray, List.nil_append, List.cons_append]
  generalize hmc : changeF κ Y.k o m = mc at X ⊢
  replace hmc := Lib.hid hmc
  refine x_seqR X.out fun R0 hR0 => ?_
  refine x_seg X.out prgB (calmCode_of ext_ok (by kernel_rfl)) rfl (calmRes_of Try.func45) rfl C.seats fun wp hp => ?_
  have hD0 : U.D w.heap.size = none := C.dnew (Nat.le_refl _)
  have hD1 : U.D (w.heap.size + 1) = none := C.dnew (Nat.le_succ _)
  have hsz : wp.heap.size = w.heap.size := by rw [hp.heap, poi_size]
  replace hsz := Lib.hid hsz
  replace hp := Lib.hid hp
  unfold opV
  go_wp2_with fail
  refine ⟨(w.alloc _).alloc _, rfl, okd_alloc (okd_alloc hOk _) _, sim_alloc (sim_alloc hp.out _ hD0) _ (by simpa using hD1), ?_⟩
  rw [hsz.out]
  have hpv := C.pv
  refine own_two (BRep.local Y) C rfl fun own1 w1 C1 e1 e2 hs1 o1 o2 hA => ?_
  obtain rfl := hR0.out
  clear hR0 hp hsz wp hD0 hD1 X hOk
  generalize w.heap.size = N at *
  have X := tgo_xc (Rep := BRep Y) (P := Try.prog) (U := U) (i := i) (own := own1) (w := w1) (ov := ov) (bv := bv) (mc := mc)
  have hOk := C1.seats.okd
  replace X := Lib.hid X
  refine x_seqR X.out fun R0 hR0 => ?_
  refine x_seqR X.out fun R1 hR1 => ?_
  have hii : ∀ b, A b → (fun b => own1 b = .th i) b ∧ w1.heap[b]? = w₀.heap[b]? := fun b hb => ⟨(hA b hb).1, (hA b hb).2.1⟩
  by_cases h1 : o.a < 0
  · have e : changeF κ Y.k o = κ (false, 0) := by unfold changeF; rw [if_pos (.inl h1)]
    refine x_seg X.out prgB (calmCode_of ext_ok (by kernel_rfl)) rfl (calmRes_of Try.func45) rfl C1.seats fun wp hp => ?_
    have f1 := (simCellT hp _).trans (cellAt e1 1)
    have fw := (simCellT hp _).trans (cellAt C1.rep.wb.2 0)
    simp only [List.getElem?_toArray, List.getElem?_cons_zero, List.getElem?_cons_succ] at f1 fw
    replace e1 := Lib.hid e1
    replace e2 := Lib.hid e2
    replace hp := Lib.hid hp
    go_wp2_with fail
    go_region
    go_wp2_with fail
    refine ⟨w1, rfl, hOk, (hp.out.re _ _), ?_⟩
    clear hp f1 fw wp
    obtain rfl := hR1.out
    refine x_cond X.out (t := true) rfl ?_
    refine x_seqR X.out fun R2 hR2 => ?_
    refine x_seg X.out prgB (calmCode_of ext_ok (by kernel_rfl)) rfl (calmRes_of Try.func45) rfl C1.seats fun wp hp => ?_
    have hD : U.D (N + 1) = none := C1.dmine (by rw [o2]; simp)
    have hg := (poi_at hp hD).trans e2.out
    have c0 := cellAt hg 0
    have c1 := cellAt hg 1
    have c2 := cellAt hg 2
    have z0 := freeAt hg 0
    have z1 := freeAt hg 1
    have z2 := freeAt hg 2
    simp only [List.getElem?_toArray, List.getElem?_cons_zero, List.getElem?_cons_succ] at c0 c1 c2
    replace hg := Lib.hid hg
    replace hp := Lib.hid hp
    go_wp2_with fail
    refine ⟨put3 w1 (N + 1) (false, 0), rfl, put3_okd hOk _ _, put3_sim hp.out _ (false, 0), ?_⟩
    obtain rfl := hR2.out
    obtain rfl := hmc.out
    rw [e]
    exact ans_out C1 hpv (fun b hb => ⟨(hA b hb).1, (hA b hb).2.1, by have := (hA b hb).2.2; omega⟩) o2 e2.out rfl (false, 0) (hret _ (by decide)) Try.func45 (calmRes_of Try.func45) rfl rfl
  obtain ⟨j, hj⟩ : ∃ j : Nat, o.a = j := ⟨o.a.toNat, by omega⟩
  replace hj := Lib.hid hj
  clear h1
  have hd1 : decide ((j : Int) < 0) = false := by simp
  by_cases h2 : (Y.k : Int) ≤ (j : Int)
  · have e : changeF κ Y.k o = κ (false, 0) := by unfold changeF; rw [if_pos (.inr (by rw [hj.out]; exact h2))]
    refine x_seg X.out prgB (calmCode_of ext_ok (by kernel_rfl)) rfl (calmRes_of Try.func45) rfl C1.seats fun wp hp => ?_
    have f1 := (simCellT hp _).trans (cellAt e1 1)
    have fw := (simCellT hp _).trans (cellAt C1.rep.wb.2 0)
    simp only [List.getElem?_toArray, List.getElem?_cons_zero, List.getElem?_cons_succ] at f1 fw
    rw [hj.out] at f1
    replace e1 := Lib.hid e1
    replace e2 := Lib.hid e2
    replace hp := Lib.hid hp
    go_wp2_with fail
    go_region
    go_wp2_with fail
    refine ⟨w1, rfl, hOk, (hp.out.re _ _), ?_⟩
    clear hp f1 fw wp
    obtain rfl := hR1.out
    refine x_cond X.out (t := true) rfl ?_
    refine x_seqR X.out fun R2 hR2 => ?_
    refine x_seg X.out prgB (calmCode_of ext_ok (by kernel_rfl)) rfl (calmRes_of Try.func45) rfl C1.seats fun wp hp => ?_
    have hD : U.D (N + 1) = none := C1.dmine (by rw [o2]; simp)
    have hg := (poi_at hp hD).trans e2.out
    have c0 := cellAt hg 0
    have c1 := cellAt hg 1
    have c2 := cellAt hg 2
    have z0 := freeAt hg 0
    have z1 := freeAt hg 1
    have z2 := freeAt hg 2
    simp only [List.getElem?_toArray, List.getElem?_cons_zero, List.getElem?_cons_succ] at c0 c1 c2
    replace hg := Lib.hid hg
    replace hp := Lib.hid hp
    go_wp2_with fail
    refine ⟨put3 w1 (N + 1) (false, 0), rfl, put3_okd hOk _ _, put3_sim hp.out _ (false, 0), ?_⟩
    obtain rfl := hR2.out
    obtain rfl := hmc.out
    rw [e]
    exact ans_out C1 hpv (fun b hb => ⟨(hA b hb).1, (hA b hb).2.1, by have := (hA b hb).2.2; omega⟩) o2 e2.out rfl (false, 0) (hret _ (by decide)) Try.func45 (calmRes_of Try.func45) rfl rfl
  · have hjk : j < Y.k := by omega
    have hd2 : decide ((Y.k : Int) ≤ (j : Int)) = false := by simpa using h2
    have hj2 : o.a.toNat = j := by rw [hj.out]; rfl
    have e : changeF κ Y.k o = if o.kind = 6 then stepF fun m => κ (true, 0) { m with wv := upd m.wv j o.b } else stepF fun m => κ (true, addW (m.wv j) o.b) { m with wv := upd m.wv j (addW (m.wv j) o.b) } := by
      unfold changeF; rw [if_neg (by rw [hj.out]; omega), hj2]
    replace hj2 := Lib.hid hj2
    replace hjk := Lib.hid hjk
    refine x_seg X.out prgB (calmCode_of ext_ok (by kernel_rfl)) rfl (calmRes_of Try.func45) rfl C1.seats fun wp hp => ?_
    have f1 := (simCellT hp _).trans (cellAt e1 1)
    have fw := (simCellT hp _).trans (cellAt C1.rep.wb.2 0)
    simp only [List.getElem?_toArray, List.getElem?_cons_zero, List.getElem?_cons_succ] at f1 fw
    rw [hj.out] at f1
    replace e1 := Lib.hid e1
    replace e2 := Lib.hid e2
    replace hp := Lib.hid hp
    go_wp2_with fail
    go_region
    go_wp2_with fail
    refine ⟨w1, rfl, hOk, (hp.out.re _ _), ?_⟩
    clear hp f1 fw wp
    obtain rfl := hR1.out
    refine x_cond X.out (t := false) (by simp only [Act.eval]; simpa using h2) ?_
    refine x_skip X.out ?_
    obtain rfl := hR0.out
    clear hR0 hR1 h2 hd2
    refine x_seqR X.out fun R0 hR0 => ?_
    refine x_seg X.out prgB (calmCode_of ext_ok (by kernel_rfl)) rfl (calmRes_of Try.func45) rfl C1.seats fun wp hp => ?_
    have f1 := (simCellT hp _).trans (cellAt e1.out 1)
    have fw := (simCellT hp _).trans (cellAt C1.rep.wb.2 0)
    have hkp : 0 < Y.k := by have := hjk.out; omega
    have fS : wp.cell? ⟨Y.pb, j, none⟩ = some (.pointer (some ⟨Y.wd j, 0, none⟩)) := by
      obtain ⟨_, x, q1, q2⟩ := C1.rep.pb hkp
      exact (simCellT hp _).trans ((cellAt q1 j).trans (q2 j hjk.out))
    rw [hY.ps hkp] at fw
    simp only [List.getElem?_toArray, List.getElem?_cons_zero, List.getElem?_cons_succ] at f1 fw
    rw [hj.out] at f1
    have q0 : (0 : Int) ≤ (j : Nat) := by omega
    have q1 : ((j : Nat) : Int) < (Y.k : Nat) := by have := hjk.out; omega
    replace hp := Lib.hid hp
    go_wp2_with fail
    go_region
    go_wp2_with fail
    refine ⟨w1, rfl, hOk, (hp.out.re _ _), ?_⟩
    clear hp f1 fw fS q0 q1 wp
    obtain rfl := hR0.out
    clear hR0
    refine x_seqR X.out fun R0 hR0 => ?_
    refine x_seqR X.out fun R1 hR1 => ?_
    refine x_seg X.out prgB (calmCode_of ext_ok (by kernel_rfl)) rfl (calmRes_of Try.func45) rfl C1.seats fun wp hp => ?_
    have f0 := (simCellT hp _).trans (cellAt e1.out 0)
    simp only [List.getElem?_toArray, List.getElem?_cons_zero, List.getElem?_cons_succ] at f0
    replace hp := Lib.hid hp
    go_wp2_with fail
    refine ⟨w1, rfl, hOk, hp.out, ?_⟩
    clear hp f0 wp
    obtain rfl := hR1.out
    clear hR1
    have hii2 : EndedC Y U i (fun b => own1 b = .th i) ⟨w1.heap, m⟩ c cs := GOF.lifted hend hii hpv
    obtain rfl := hmc.out
    rw [e] at X ⊢
    clear hmc e
    by_cases h6 : o.kind = 6
    · rw [if_pos h6] at X ⊢
      refine x_cond X.out (t := true) (by simp only [Act.eval]; simpa using h6) ?_
      refine x_seqR X.out fun R2 hR2 => ?_
      refine x_reg X.out 4 (by decide) (by decide) (calm0 (by kernel_rfl)) C1.seats fun wp hp => ?_
      simp only [List.take_succ_cons, List.take_zero]
      have f2 := (simCellT hp _).trans (cellAt e1.out 2)
      simp only [List.getElem?_toArray, List.getElem?_cons_zero, List.getElem?_cons_succ] at f2
      replace hp := Lib.hid hp
      go_wp2_with fail
      refine after_same hp.out hOk ?_
      clear hp f2 wp
      refine x_callF X.out rfl rfl (by decide) rfl Try.func61 (by kernel_rfl) (by kernel_rfl) ?_
      walk_nrm
      refine tgo_next (BRep.local Y) (wordStore_cps (A := fun b => own1 b = .th i) (w₀ := ⟨w1.heap, m⟩) hY hjk.out ho.b (κ := κ (true, 0)) (gof_of fun w2 m2 own2 ov2 bv2 C2 => ?_) (ended_up (calmRes_of Try.func45) rfl rfl hii2)) C1 .refl .refl
      rw [Frame.finish_at]
      clear X hOk
      have X := tgo_xc (Rep := BRep Y) (P := Try.prog) (U := U) (i := i) (own := own2) (w := w2) (ov := ov2) (bv := bv2) (mc := κ (true, 0) m2)
      have hOk := C2.seats.okd
      replace X := Lib.hid X
      obtain ⟨oB, q2⟩ := C2.mine (N + 1) o2
      have e3 := q2.trans e2.out
      have hD : U.D (N + 1) = none := C2.dmine (by rw [oB]; simp)
      have hAA : ∀ b, A b → own1 b = .th i ∧ w1.heap[b]? = w₀.heap[b]? ∧ b ≠ N + 1 := fun b hb => ⟨(hA b hb).1, (hA b hb).2.1, by have := (hA b hb).2.2; omega⟩
      walk_nrm
      refine x_regionEnd X.out ?_
      obtain rfl := hR2.out
      refine x_seqR X.out fun R3 hR3 => ?_
      refine x_seg X.out prgB (calmCode_of ext_ok (by kernel_rfl)) rfl (calmRes_of Try.func45) rfl C2.seats fun wp hp => ?_
      have hg := (poi_at hp hD).trans e3
      have c0 := cellAt hg 0
      have c1 := cellAt hg 1
      have c2 := cellAt hg 2
      have z0 := freeAt hg 0
      have z1 := freeAt hg 1
      have z2 := freeAt hg 2
      simp only [List.getElem?_toArray, List.getElem?_cons_zero, List.getElem?_cons_succ] at c0 c1 c2
      replace hg := Lib.hid hg
      replace hp := Lib.hid hp
      go_wp2_with fail
      refine ⟨put3 w2 (N + 1) (true, 0), rfl, put3_okd hOk _ _, put3_sim hp.out _ (true, 0), ?_⟩
      obtain rfl := hR3.out
      exact ans_out C2 hpv hAA oB e3 rfl (true, 0) (hret _ (by decide)) Try.func45 (calmRes_of Try.func45) rfl rfl
    · rw [if_neg h6] at X ⊢
      refine x_cond X.out (t := false) (by simp only [Act.eval]; simpa using h6) ?_
      refine x_skip X.out ?_
      obtain rfl := hR0.out
      refine x_seqR X.out fun R2 hR2 => ?_
      refine x_reg X.out 4 (by decide) (by decide) (calm0 (by kernel_rfl)) C1.seats fun wp hp => ?_
      simp only [List.take_succ_cons, List.take_zero]
      have f2 := (simCellT hp _).trans (cellAt e1.out 2)
      simp only [List.getElem?_toArray, List.getElem?_cons_zero, List.getElem?_cons_succ] at f2
      replace hp := Lib.hid hp
      go_wp2_with fail
      refine after_same hp.out hOk ?_
      clear hp f2 wp
      refine x_callF X.out rfl rfl (by decide) rfl Try.func62 (by kernel_rfl) (by kernel_rfl) ?_
      walk_nrm
      refine tgo_next (BRep.local Y) (wordAdd_cps (A := fun b => own1 b = .th i) (w₀ := ⟨w1.heap, m⟩) hY hjk.out (κ := fun v => κ (true, v)) (fun v hv => gof_of fun w2 m2 own2 ov2 bv2 C2 => ?_) (ended_up (calmRes_of Try.func45) rfl rfl hii2)) C1 .refl .refl
      rw [Frame.finish_at]
      clear X hOk
      have X := tgo_xc (Rep := BRep Y) (P := Try.prog) (U := U) (i := i) (own := own2) (w := w2) (ov := ov2) (bv := bv2) (mc := κ (true, v) m2)
      have hOk := C2.seats.okd
      replace X := Lib.hid X
      obtain ⟨oB, q2⟩ := C2.mine (N + 1) o2
      have e3 := q2.trans e2.out
      have hD : U.D (N + 1) = none := C2.dmine (by rw [oB]; simp)
      have hAA : ∀ b, A b → own1 b = .th i ∧ w1.heap[b]? = w₀.heap[b]? ∧ b ≠ N + 1 := fun b hb => ⟨(hA b hb).1, (hA b hb).2.1, by have := (hA b hb).2.2; omega⟩
      walk_nrm
      refine x_more X.out 5 2 (by decide) (by decide) (calm0 (by kernel_rfl)) C2.seats fun wp hp => ?_
      simp only [List.drop_succ_cons, List.drop_zero, List.take_succ_cons, List.take_zero]
      have hg := (poi_at hp hD).trans e3
      have c0 := cellAt hg 0
      have c1 := cellAt hg 1
      have c2 := cellAt hg 2
      have z0 := freeAt hg 0
      have z1 := freeAt hg 1
      have z2 := freeAt hg 2
      simp only [List.getElem?_toArray, List.getElem?_cons_zero, List.getElem?_cons_succ] at c0 c1 c2
      replace hg := Lib.hid hg
      replace hp := Lib.hid hp
      go_wp2_with fail
      refine ⟨⟨rfl, rfl⟩, put3 w2 (N + 1) (true, v), rfl, put3_okd hOk _ _, put3_sim hp.out _ (true, v), ?_⟩
      refine x_regionEnd X.out ?_
      obtain rfl := hR2.out
      exact ans_out C2 hpv hAA oB e3 rfl (true, v) (hret (true, v) hv) Try.func45 (calmRes_of Try.func45) rfl rfl
end
end Go.Proofs.Ytimkkeomdkbcjaa

/-
  An operation of the barrier's world, as a thread. No condition of its own.
-/
namespace Go.Proofs.Ytimkkeomdkbcjaa
open Go.Conc Go.RowKit
open Go.ConcN (upd upd_ne upd_same)
def waitK (κ : Bool × Int → Fu BM) (n e : Int) : Fu BM := if e = 0 then κ (true, n) else κ (false, e)
def doF (κ : Bool × Int → Fu BM) (k : Nat) (o : OpD) : Fu BM :=
  if o.kind = 1 then waitF (waitK κ) k o.a (min (max o.b 0) 1024) o.c
  else if o.kind = 2 then limF k fun n => κ (true, n)
  else if o.kind = 3 then stepF fun m => κ (!m.al, 0) { m with al := true }
  else if o.kind = 4 then stepF fun m => κ (m.al, 0) { m with al := false }
  else if o.kind = 5 then stepF fun m => κ (m.al, 0) m
  else if o.kind = 6 ∨ o.kind = 7 then changeF κ k o
  else κ (false, 0)
noncomputable def c30 : Code := (Try.f30.body).getD .skip
def A30 (x : Nat → Value) : Act := ⟨#[x 0, x 1, x 2, x 3, x 4, x 5, x 6, x 7, x 8, x 9, x 10, x 11, x 12, x 13, x 14, x 15, x 16, x 17, x 18, x 19, x 20, x 21, x 22, x 23, x 24, x 25, x 26, x 27, x 28, x 29, x 30, x 31, x 32, x 33, x 34, x 35, x 36, x 37, x 38, x 39, x 40, x 41, x 42, x 43, x 44, x 45, x 46, x 47, x 48, x 49, x 50, x 51, x 52, x 53, x 54, x 55, x 56, x 57, x 58, x 59, x 60, x 61, x 62, x 63, x 64, x 65, x 66, x 67, x 68, x 69, x 70, x 71, x 72, x 73, x 74, x 75, x 76, x 77, x 78, x 79, x 80, x 81], []⟩
theorem a30_of (l : Array Value) (hl : l.size = 82) : (⟨l, []⟩ : Act) = A30 fun j => l.getD j undef := by
  have e : ∀ x : Nat → Value, (A30 x).tmps = ((List.range 82).map x).toArray := fun x => rfl
  have h1 : l = (A30 fun j => l.getD j undef).tmps := by
    rw [e]
    apply Array.ext_getElem?
    intro i
    by_cases h : i < 82
    · have h' : i < l.size := by omega
      simp [h, h', List.getElem?_range]
    · have h' : ¬ i < l.size := by omega
      rw [Array.getElem?_eq_none (by omega), Array.getElem?_eq_none (by simp; omega)]
  exact congrArg (Act.mk · []) h1
def blkD : Code → Code := fun c => cA (cB (cA (cB c)))
def opsOf : Code → Array Oper
  | .region _ ops _ => ops
  | _ => #[]
section
variable {Y : BL} {U : Tun} {i : Nat} {A : Nat → Prop} {w₀ : W0 BM} {c : Frame} {cs : List Frame} {R : List Item}
set_option maxRecDepth 100000 in
set_option maxHeartbeats 1000000 in
theorem do_wait_end {κ : Bool × Int → Fu BM} (hret : ∀ r : Bool × Int, In64 r.2 → GOF (BRep Y) Try.prog U i (κ r) A w₀ (G (c.finish (ansV r)) cs)) {own2 : Nat → Owner} {w₁ : W0 BM} {w2 : World} {m2 : BM} {ov2 bv2 : Nat → Bool} {A1 : Nat → Prop} (C2 : Ctx (BRep Y) U i own2 A1 w₁ w2 m2 ov2 bv2) (hpv : w₁.m.an i = w₀.m.an i) {N : Nat} (hAA : ∀ b, A b → A1 b ∧ w₁.heap[b]? = w₀.heap[b]? ∧ b ≠ N + 1)
    (oB : own2 (N + 1) = .th i) (e3 : w2.heap[N + 1]? = some (.cells #[.bool false, .int .i64 0, .slice none 0 0] 97 (0, 0))) {x : Nat → Value} {n e : Int} (hn : In64 n) (he : In64 e) (x8 : x 8 = .pointer (some ⟨N + 1, 0, none⟩)) (x9 : x 9 = .int .i64 n) (x10 : x 10 = .int .i64 e) :
    TGO (BRep Y) Try.prog U i own2 w2 (waitK κ n e m2) ov2 bv2 (G ((base 30).at (A30 x) (.code (cB (cA (cB (blkD c30)))) :: R)) (c :: cs)) w2 := by
  have X := tgo_xc (Rep := BRep Y) (P := Try.prog) (U := U) (i := i) (own := own2) (w := w2) (ov := ov2) (bv := bv2) (mc := waitK κ n e m2)
  have hOk := C2.seats.okd
  replace X := Lib.hid X
  have hD : U.D (N + 1) = none := C2.dmine (by rw [oB]; simp)
  generalize hmc : waitK κ n e m2 = mc at X ⊢
  replace hmc := Lib.hid hmc
  unfold A30
  simp only [x8, x9, x10]
  rw [show cB (cA (cB (blkD c30))) = Code.seq (Code.seq (Code.region _ _ _) (Code.cond _ _ _)) _ from rfl]
  refine x_seqR X.out fun R0 hR0 => ?_
  refine x_seqR X.out fun R1 hR1 => ?_
  refine x_seg X.out prgB (calmCode_of ext_ok (by kernel_rfl)) rfl (calmRes_of Try.func30) rfl C2.seats fun wp hp => ?_
  replace hp := Lib.hid hp
  go_wp2_with fail
  refine ⟨w2, rfl, hOk, hp.out, ?_⟩
  clear hp wp
  obtain rfl := hR1.out
  clear hR1
  obtain rfl := hmc.out
  by_cases h0 : e = 0
  · have ez : waitK κ n e = κ (true, n) := by unfold waitK; rw [if_pos h0]
    have hz : (e == 0) = true := by simpa using h0
    rw [ez] at X ⊢
    replace h0 := Lib.hid h0
    refine x_cond X.out (t := false) (by simp [Act.eval, h0.out]) ?_
    refine x_skip X.out ?_
    obtain rfl := hR0.out
    refine x_seqR X.out fun R2 hR2 => ?_
    refine x_seg X.out prgB (calmCode_of ext_ok (by kernel_rfl)) rfl (calmRes_of Try.func30) rfl C2.seats fun wp hp => ?_
    have hg := (poi_at hp hD).trans e3
    have c0 := cellAt hg 0
    have c1 := cellAt hg 1
    have c2 := cellAt hg 2
    have z0 := freeAt hg 0
    have z1 := freeAt hg 1
    have z2 := freeAt hg 2
    simp only [List.getElem?_toArray, List.getElem?_cons_zero, List.getElem?_cons_succ] at c0 c1 c2
    replace hg := Lib.hid hg
    replace hp := Lib.hid hp
    go_wp2_with fail
    refine ⟨put3 w2 (N + 1) (true, n), rfl, put3_okd hOk _ _, put3_sim hp.out _ (true, n), ?_⟩
    obtain rfl := hR2.out
    exact ans_out C2 hpv hAA oB e3 rfl (true, n) (hret (true, n) hn) Try.func30 (calmRes_of Try.func30) rfl rfl
  · have ez : waitK κ n e = κ (false, e) := by unfold waitK; rw [if_neg h0]
    rw [ez] at X ⊢
    replace h0 := Lib.hid h0
    refine x_cond X.out (t := true) (by simp [Act.eval, h0.out]) ?_
    refine x_seqR X.out fun R2 hR2 => ?_
    refine x_seg X.out prgB (calmCode_of ext_ok (by kernel_rfl)) rfl (calmRes_of Try.func30) rfl C2.seats fun wp hp => ?_
    have hg := (poi_at hp hD).trans e3
    have c0 := cellAt hg 0
    have c1 := cellAt hg 1
    have c2 := cellAt hg 2
    have z0 := freeAt hg 0
    have z1 := freeAt hg 1
    have z2 := freeAt hg 2
    simp only [List.getElem?_toArray, List.getElem?_cons_zero, List.getElem?_cons_succ] at c0 c1 c2
    replace hg := Lib.hid hg
    replace hp := Lib.hid hp
    go_wp2_with fail
    refine ⟨put3 w2 (N + 1) (false, e), rfl, put3_okd hOk _ _, put3_sim hp.out _ (false, e), ?_⟩
    obtain rfl := hR2.out
    exact ans_out C2 hpv hAA oB e3 rfl (false, e) (hret (false, e) he) Try.func30 (calmRes_of Try.func30) rfl rfl
set_option maxRecDepth 100000 in
set_option maxHeartbeats 1000000 in
theorem do_wait_call (hY : Y.Wf) {κ : Bool × Int → Fu BM} {own1 : Nat → Owner} {w1 : World} {m : BM} {ov bv : Nat → Bool} (C1 : Ctx (BRep Y) U i own1 (fun b => own1 b = .th i) ⟨w1.heap, m⟩ w1 m ov bv) (hpv : m.an i = w₀.m.an i) {N : Nat} (hAA : ∀ b, A b → own1 b = .th i ∧ w1.heap[b]? = w₀.heap[b]? ∧ b ≠ N + 1) (o2 : own1 (N + 1) = .th i) (e2 : w1.heap[N + 1]? = some (.cells #[.bool false, .int .i64 0, .slice none 0 0] 97 (0, 0)))
    (hend1 : EndedC Y U i (fun b => own1 b = .th i) ⟨w1.heap, m⟩ c cs) (hret : ∀ r : Bool × Int, In64 r.2 → GOF (BRep Y) Try.prog U i (κ r) A w₀ (G (c.finish (ansV r)) cs)) {x : Nat → Value} {q t way : Int} (x8 : x 8 = .pointer (some ⟨N + 1, 0, none⟩)) (x19 : x 19 = .pointer (some ⟨Y.bb, 0, none⟩)) (x20 : x 20 = stp U i) (x22 : x 22 = .int .i64 q) (x26 : x 26 = .int .i64 t) (x28 : x 28 = .int .i64 way) :
    ∀ r ∈ [[13, 14, 15, 16, 17, 18], [13, 14, 15, 17, 16, 18], [13, 14, 16, 15, 17, 18]], TGO (BRep Y) Try.prog U i own1 w1 (waitF (waitK κ) Y.k q t way m) ov bv (G ((base 30).at (A30 x) (.inRegion (opsOf (cA (cA (cB (blkD c30))))) r :: .code (cB (cA (cB (blkD c30)))) :: R)) (c :: cs)) w1 := by
  intro r hr
  have X := tgo_xc (Rep := BRep Y) (P := Try.prog) (U := U) (i := i) (own := own1) (w := w1) (ov := ov) (bv := bv) (mc := waitF (waitK κ) Y.k q t way m)
  have hOk := C1.seats.okd
  replace X := Lib.hid X
  unfold A30
  simp only [x8, x19, x20, x22, x26, x28]
  rw [show opsOf (cA (cA (cB (blkD c30)))) = #[_, _, _, _, _, _, _, _, _, _, _, _, _, _, _, _, _, _, _] from rfl]
  simp only [List.mem_cons, List.not_mem_nil, or_false] at hr
  rcases hr with rfl | rfl | rfl
  · skip
    refine x_callF X.out rfl rfl (by decide) rfl Try.func11 (by kernel_rfl) (by kernel_rfl) ?_
    walk_nrm
    refine tgo_next (BRep.local Y) (wait_cps hY (κ := waitK κ) (ended_up (calmRes_of Try.func30) rfl rfl hend1) (fun n e hn he => gof_of fun w2 m2 own2 ov2 bv2 C2 => ?_)) C1 .refl .refl
    rw [Frame.finish_at]
    clear X hOk
    have X := tgo_xc (Rep := BRep Y) (P := Try.prog) (U := U) (i := i) (own := own2) (w := w2) (ov := ov2) (bv := bv2) (mc := waitK κ n e m2)
    have hOk := C2.seats.okd
    replace X := Lib.hid X
    obtain ⟨oB, q2⟩ := C2.mine (N + 1) o2
    have e3 := q2.trans e2
    walk_nrm
    refine x_pre X.out (rest := []) (by decide) [14, 15, 16, 17, 18] [_, _, _, _, _] _ _ rfl (calm0 (by kernel_rfl)) C2.seats rfl fun wp hp => ?_
    replace hp := Lib.hid hp
    go_wp2_with fail
    refine after_same hp.out hOk ?_
    refine x_regionEnd X.out ?_
    rw [a30_of _ rfl]
    exact do_wait_end hret C2 hpv hAA oB e3 hn he rfl rfl rfl
  · skip
    refine x_callF X.out rfl rfl (by decide) rfl Try.func11 (by kernel_rfl) (by kernel_rfl) ?_
    walk_nrm
    refine tgo_next (BRep.local Y) (wait_cps hY (κ := waitK κ) (ended_up (calmRes_of Try.func30) rfl rfl hend1) (fun n e hn he => gof_of fun w2 m2 own2 ov2 bv2 C2 => ?_)) C1 .refl .refl
    rw [Frame.finish_at]
    clear X hOk
    have X := tgo_xc (Rep := BRep Y) (P := Try.prog) (U := U) (i := i) (own := own2) (w := w2) (ov := ov2) (bv := bv2) (mc := waitK κ n e m2)
    have hOk := C2.seats.okd
    replace X := Lib.hid X
    obtain ⟨oB, q2⟩ := C2.mine (N + 1) o2
    have e3 := q2.trans e2
    walk_nrm
    refine x_pre X.out (rest := []) (by decide) [14, 15, 17, 16, 18] [_, _, _, _, _] _ _ rfl (calm0 (by kernel_rfl)) C2.seats rfl fun wp hp => ?_
    replace hp := Lib.hid hp
    go_wp2_with fail
    refine after_same hp.out hOk ?_
    refine x_regionEnd X.out ?_
    rw [a30_of _ rfl]
    exact do_wait_end hret C2 hpv hAA oB e3 hn he rfl rfl rfl
  · skip
    refine x_callF X.out rfl rfl (by decide) rfl Try.func11 (by kernel_rfl) (by kernel_rfl) ?_
    walk_nrm
    refine tgo_next (BRep.local Y) (wait_cps hY (κ := waitK κ) (ended_up (calmRes_of Try.func30) rfl rfl hend1) (fun n e hn he => gof_of fun w2 m2 own2 ov2 bv2 C2 => ?_)) C1 .refl .refl
    rw [Frame.finish_at]
    clear X hOk
    have X := tgo_xc (Rep := BRep Y) (P := Try.prog) (U := U) (i := i) (own := own2) (w := w2) (ov := ov2) (bv := bv2) (mc := waitK κ n e m2)
    have hOk := C2.seats.okd
    replace X := Lib.hid X
    obtain ⟨oB, q2⟩ := C2.mine (N + 1) o2
    have e3 := q2.trans e2
    walk_nrm
    refine x_pre X.out (rest := []) (by decide) [14, 16, 15, 17, 18] [_, _, _, _, _] _ _ rfl (calm0 (by kernel_rfl)) C2.seats rfl fun wp hp => ?_
    replace hp := Lib.hid hp
    go_wp2_with fail
    refine after_same hp.out hOk ?_
    refine x_regionEnd X.out ?_
    rw [a30_of _ rfl]
    exact do_wait_end hret C2 hpv hAA oB e3 hn he rfl rfl rfl
def chgD : Code → Code := fun c => cA (cB (cB (cB (cB (cB (cB (cB (cB (cB (cB (cB (blkD c))))))))))))
set_option maxRecDepth 100000 in
set_option maxHeartbeats 1000000 in
theorem do_change (hY : Y.Wf) {κ : Bool × Int → Fu BM} {o : OpD} (ho : o.Ok) {own1 : Nat → Owner} {w1 : World} {m : BM} {ov bv : Nat → Bool} (C1 : Ctx (BRep Y) U i own1 (fun b => own1 b = .th i) ⟨w1.heap, m⟩ w1 m ov bv) (hpv : m.an i = w₀.m.an i) {N : Nat} (hAA : ∀ b, A b → own1 b = .th i ∧ w1.heap[b]? = w₀.heap[b]? ∧ b ≠ N + 1) (o2 : own1 (N + 1) = .th i) (e2 : w1.heap[N + 1]? = some (.cells #[.bool false, .int .i64 0, .slice none 0 0] 97 (0, 0)))
    (o1 : own1 N = .th i) (e1 : w1.heap[N]? = some (.cells #[.int .i64 o.kind, .int .i64 o.a, .int .i64 o.b, .int .i64 o.c] 94 (0, 0))) (hend1 : EndedC Y U i (fun b => own1 b = .th i) ⟨w1.heap, m⟩ c cs) (hret : ∀ r : Bool × Int, In64 r.2 → GOF (BRep Y) Try.prog U i (κ r) A w₀ (G (c.finish (ansV r)) cs)) {x : Nat → Value}
    (x0 : x 0 = .pointer (some ⟨Y.wb, 0, none⟩)) (x1 : x 1 = stp U i) (x7 : x 7 = .pointer (some ⟨N, 0, none⟩)) (x8 : x 8 = .pointer (some ⟨N + 1, 0, none⟩)) :
    TGO (BRep Y) Try.prog U i own1 w1 (changeF κ Y.k o m) ov bv (G ((base 30).at (A30 x) (.code (chgD c30) :: R)) (c :: cs)) w1 := by
  have X := tgo_xc (Rep := BRep Y) (P := Try.prog) (U := U) (i := i) (own := own1) (w := w1) (ov := ov) (bv := bv) (mc := changeF κ Y.k o m)
  have hOk := C1.seats.okd
  replace X := Lib.hid X
  generalize hmc : changeF κ Y.k o m = mc at X ⊢
  replace hmc := Lib.hid hmc
  unfold A30
  simp only [x0, x1, x7, x8]
  rw [show chgD c30 = Code.seq (Code.region _ _ _) Code.ret from rfl]
  refine x_seqR X.out fun R2 hR2 => ?_
  refine x_reg X.out 3 (by decide) (by decide) (calm0 (by kernel_rfl)) C1.seats fun wp hp => ?_
  simp only [List.take_succ_cons, List.take_zero]
  have f0 := (simCellT hp _).trans (cellAt e1 0)
  have f1 := (simCellT hp _).trans (cellAt e1 1)
  have f2 := (simCellT hp _).trans (cellAt e1 2)
  have f3 := (simCellT hp _).trans (cellAt e1 3)
  simp only [List.getElem?_toArray, List.getElem?_cons_zero, List.getElem?_cons_succ] at f0 f1 f2 f3
  replace hp := Lib.hid hp
  go_wp2_with fail
  refine after_same hp.out hOk ?_
  clear hp f0 f1 f2 f3 wp
  refine x_callF X.out rfl rfl (by decide) rfl Try.func45 (by kernel_rfl) (by kernel_rfl) ?_
  walk_nrm
  obtain rfl := hmc.out
  refine tgo_next (BRep.local Y) (change_cps hY ho (κ := κ) (ended_up (calmRes_of Try.func30) rfl rfl hend1) (fun r hr => gof_of fun w2 m2 own2 ov2 bv2 C2 => ?_)) C1 .refl .refl
  rw [Frame.finish_at]
  clear X hOk
  have X := tgo_xc (Rep := BRep Y) (P := Try.prog) (U := U) (i := i) (own := own2) (w := w2) (ov := ov2) (bv := bv2) (mc := κ r m2)
  have hOk := C2.seats.okd
  replace X := Lib.hid X
  obtain ⟨oB, q2⟩ := C2.mine (N + 1) o2
  have e3 := q2.trans e2
  have hD : U.D (N + 1) = none := C2.dmine (by rw [oB]; simp)
  walk_nrm
  refine x_more X.out 4 1 (by decide) (by decide) (calm0 (by kernel_rfl)) C2.seats fun wp hp => ?_
  simp only [List.drop_succ_cons, List.drop_zero, List.take_succ_cons, List.take_zero]
  have hg := (poi_at hp hD).trans e3
  have c0 := cellAt hg 0
  have c1 := cellAt hg 1
  have c2 := cellAt hg 2
  have z0 := freeAt hg 0
  have z1 := freeAt hg 1
  have z2 := freeAt hg 2
  simp only [List.getElem?_toArray, List.getElem?_cons_zero, List.getElem?_cons_succ] at c0 c1 c2
  replace hg := Lib.hid hg
  replace hp := Lib.hid hp
  unfold ansV
  go_wp2_with fail
  refine ⟨⟨rfl, rfl⟩, put3 w2 (N + 1) r, rfl, put3_okd hOk _ _, put3_sim hp.out _ r, ?_⟩
  refine x_regionEnd X.out ?_
  obtain rfl := hR2.out
  exact ans_out C2 hpv hAA oB e3 rfl r (hret r hr) Try.func30 (calmRes_of Try.func30) rfl rfl
set_option maxRecDepth 100000 in
set_option maxHeartbeats 1000000 in
theorem do_cps (hY : Y.Wf) {κ : Bool × Int → Fu BM} {o : OpD} (ho : o.Ok) {th : Int} (hend : EndedC Y U i A w₀ c cs) (hret : ∀ r : Bool × Int, In64 r.2 → GOF (BRep Y) Try.prog U i (κ r) A w₀ (G (c.finish (ansV r)) cs)) :
    GOF (BRep Y) Try.prog U i (doF κ Y.k o) A w₀ (G (Frame.enter Try.prog 30 #[.pointer (some ⟨Y.wb, 0, none⟩), stp U i, .int .i64 th, opV o] .normal) (c :: cs)) := by
  refine gof_of fun w m own ov bv C => ?_
  have X := tgo_xc (Rep := BRep Y) (P := Try.prog) (U := U) (i := i) (own := own) (w := w) (ov := ov) (bv := bv) (mc := doF κ Y.k o m)
  have hOk := C.seats.okd
  replace X := Lib.hid X
  rw [enter_at _ Try.func30 rfl]
  simp only [Try.ntmps30, List.size_toArray, List.length_cons, List.length_nil, Nat.reduceAdd, Nat.reduceSub, Array.replicate_succ,
     Array.replicate_zero, List.push_toArray, List.append_toArray, List.nil_append, List.cons_append]
  generalize hmc : doF κ Y.k o m = mc at X ⊢
  replace hmc := Lib.hid hmc
  refine x_seqR X.out fun R0 hR0 => ?_
  refine x_seg X.out prgB (calmCode_of ext_ok (by kernel_rfl)) rfl (calmRes_of Try.func30) rfl C.seats fun wp hp => ?_
  have hD0 : U.D w.heap.size = none := C.dnew (Nat.le_refl _)
  have hD1 : U.D (w.heap.size + 1) = none := C.dnew (Nat.le_succ _)
  have hsz : wp.heap.size = w.heap.size := by rw [hp.heap, poi_size]
  replace hsz := Lib.hid hsz
  replace hp := Lib.hid hp
  unfold opV
  go_wp2_with fail
  refine ⟨(w.alloc _).alloc _, rfl, okd_alloc (okd_alloc hOk _) _, sim_alloc (sim_alloc hp.out _ hD0) _ (by simpa using hD1), ?_⟩
  rw [hsz.out]
  have hpv := C.pv
  refine own_two (BRep.local Y) C rfl fun own1 w1 C1 e1 e2 hs1 o1 o2 hA => ?_
  obtain rfl := hR0.out
  clear hR0 hp hsz wp hD0 hD1 X hOk
  generalize w.heap.size = N at *
  have X := tgo_xc (Rep := BRep Y) (P := Try.prog) (U := U) (i := i) (own := own1) (w := w1) (ov := ov) (bv := bv) (mc := mc)
  have hOk := C1.seats.okd
  replace X := Lib.hid X
  have hii : ∀ b, A b → (fun b => own1 b = .th i) b ∧ w1.heap[b]? = w₀.heap[b]? := fun b hb => ⟨(hA b hb).1, (hA b hb).2.1⟩
  have hii2 : EndedC Y U i (fun b => own1 b = .th i) ⟨w1.heap, m⟩ c cs := GOF.lifted hend hii hpv
  have hAA : ∀ b, A b → own1 b = .th i ∧ w1.heap[b]? = w₀.heap[b]? ∧ b ≠ N + 1 := fun b hb => ⟨(hA b hb).1, (hA b hb).2.1, by have := (hA b hb).2.2; omega⟩
  refine x_seqR X.out fun R0 hR0 => ?_
  refine x_seqR X.out fun R1 hR1 => ?_
  refine x_seg X.out prgB (calmCode_of ext_ok (by kernel_rfl)) rfl (calmRes_of Try.func30) rfl C1.seats fun wp hp => ?_
  have f0 := (simCellT hp _).trans (cellAt e1 0)
  simp only [List.getElem?_toArray, List.getElem?_cons_zero, List.getElem?_cons_succ] at f0
  replace e1 := Lib.hid e1
  replace e2 := Lib.hid e2
  replace hp := Lib.hid hp
  go_wp2_with fail
  refine ⟨w1, rfl, hOk, hp.out, ?_⟩
  clear hp f0 wp
  obtain rfl := hR1.out
  clear hR1
  refine x_block X.out ?_
  refine x_seqR X.out fun R1 hR1 => ?_
  refine x_seg X.out prgB (calmCode_of ext_ok (by kernel_rfl)) rfl (calmRes_of Try.func30) rfl C1.seats fun wp hp => ?_
  replace hp := Lib.hid hp
  go_wp2_with fail
  refine ⟨w1, rfl, hOk, hp.out, ?_⟩
  clear hp wp
  obtain rfl := hR1.out
  clear hR1
  by_cases k1 : o.kind = 1
  · have e : doF κ Y.k o = waitF (waitK κ) Y.k o.a (min (max o.b 0) 1024) o.c := by unfold doF; rw [if_pos k1]
    have hz : (o.kind == 1) = true := by simpa using k1
    obtain rfl := hmc.out
    rw [e] at X ⊢
    clear hmc e
    refine x_cond X.out (t := true) (by simp only [Act.eval]; simpa using hz) ?_
    refine x_seqR X.out fun R2 hR2 => ?_
    by_cases b1 : o.b < 0
    · have et : min (max o.b 0) 1024 = 0 := by omega
      rw [et] at X ⊢
      clear et
      refine x_drawT X.out 13 [[13, 14, 15, 16, 17, 18], [13, 14, 15, 17, 16, 18], [13, 14, 16, 15, 17, 18]] (by kernel_rfl) (by kernel_rfl) (by decide) (calm0 (by kernel_rfl)) C1.seats fun wp hp => ?_
      simp only [List.take_succ_cons, List.take_zero]
      have f1 := (simCellT hp _).trans (cellAt e1.out 1)
      have f2 := (simCellT hp _).trans (cellAt e1.out 2)
      have f3 := (simCellT hp _).trans (cellAt e1.out 3)
      have fw := (simCellT hp _).trans (cellAt C1.rep.wb.2 1)
      simp only [List.getElem?_toArray, List.getElem?_cons_zero, List.getElem?_cons_succ] at f1 f2 f3 fw
      replace hp := Lib.hid hp
      repeat still_step
      refine wpStill_nil ?_
      intro r hr
      obtain rfl := hR2.out
      rw [a30_of _ rfl]
      exact do_wait_call hY C1 hpv hAA o2 e2.out hii2 hret rfl rfl rfl rfl rfl rfl r hr
    · have b2 : 0 ≤ o.b := by omega
      have et : min (max o.b 0) 1024 = if 1024 < o.b then 1024 else o.b := by split <;> omega
      rw [et] at X ⊢
      generalize hmc : waitF (waitK κ) Y.k o.a (if 1024 < o.b then 1024 else o.b) o.c m = mc at X ⊢
      replace hmc := Lib.hid hmc
      clear et
      refine x_drawT X.out 13 [[13, 14, 15, 16, 17, 18], [13, 14, 15, 17, 16, 18], [13, 14, 16, 15, 17, 18]] (by kernel_rfl) (by kernel_rfl) (by decide) (calm0 (by kernel_rfl)) C1.seats fun wp hp => ?_
      simp only [List.take_succ_cons, List.take_zero]
      have f1 := (simCellT hp _).trans (cellAt e1.out 1)
      have f2 := (simCellT hp _).trans (cellAt e1.out 2)
      have f3 := (simCellT hp _).trans (cellAt e1.out 3)
      have fw := (simCellT hp _).trans (cellAt C1.rep.wb.2 1)
      simp only [List.getElem?_toArray, List.getElem?_cons_zero, List.getElem?_cons_succ] at f1 f2 f3 fw
      replace hp := Lib.hid hp
      repeat still_step
      refine wpStill_nil ?_
      intro r hr
      obtain rfl := hR2.out
      obtain rfl := hmc.out
      rw [a30_of _ rfl]
      exact do_wait_call hY C1 hpv hAA o2 e2.out hii2 hret rfl rfl rfl rfl rfl rfl r hr
  have hz1 : (o.kind == 1) = false := by simpa using k1
  refine x_cond X.out (t := false) (by simp only [Act.eval]; simpa using hz1) ?_
  refine x_seqR X.out fun R1 hR1 => ?_
  replace k1 := Lib.hid k1
  replace hz1 := Lib.hid hz1
  refine x_seg X.out prgB (calmCode_of ext_ok (by kernel_rfl)) rfl (calmRes_of Try.func30) rfl C1.seats fun wp hp => ?_
  replace hp := Lib.hid hp
  go_wp2_with fail
  refine ⟨w1, rfl, hOk, hp.out, ?_⟩
  clear hp wp
  obtain rfl := hR1.out
  clear hR1
  by_cases k2 : o.kind = 2
  · have e : doF κ Y.k o = limF Y.k fun n => κ (true, n) := by unfold doF; rw [if_neg k1.out, if_pos k2]
    have hz : (o.kind == 2) = true := by simpa using k2
    obtain rfl := hmc.out
    rw [e] at X ⊢
    clear hmc e
    replace k2 := Lib.hid k2
    refine x_cond X.out (t := true) (by simp only [Act.eval]; simpa using hz) ?_
    refine x_seqR X.out fun R2 hR2 => ?_
    refine x_reg X.out 5 (by decide) (by decide) (calm0 (by kernel_rfl)) C1.seats fun wp hp => ?_
    simp only [List.take_succ_cons, List.take_zero]
    have fw := (simCellT hp _).trans (cellAt C1.rep.wb.2 1)
    simp only [List.getElem?_toArray, List.getElem?_cons_zero, List.getElem?_cons_succ] at fw
    replace hp := Lib.hid hp
    go_wp2_with fail
    refine after_same hp.out hOk ?_
    clear hp fw wp
    refine x_callF X.out rfl rfl (by decide) rfl Try.func12 (by kernel_rfl) (by kernel_rfl) ?_
    walk_nrm
    refine tgo_next (BRep.local Y) (limit_cps hY (κ := fun n => κ (true, n)) (fun n hn => gof_of fun w2 m2 own2 ov2 bv2 C2 => ?_) (ended_up (calmRes_of Try.func30) rfl rfl hii2)) C1 .refl .refl
    rw [Frame.finish_at]
    clear X hOk
    have X := tgo_xc (Rep := BRep Y) (P := Try.prog) (U := U) (i := i) (own := own2) (w := w2) (ov := ov2) (bv := bv2) (mc := κ (true, n) m2)
    have hOk := C2.seats.okd
    replace X := Lib.hid X
    obtain ⟨oB, q2⟩ := C2.mine (N + 1) o2
    have e3 := q2.trans e2.out
    have hD : U.D (N + 1) = none := C2.dmine (by rw [oB]; simp)
    walk_nrm
    refine x_more X.out 6 2 (by decide) (by decide) (calm0 (by kernel_rfl)) C2.seats fun wp hp => ?_
    simp only [List.drop_succ_cons, List.drop_zero, List.take_succ_cons, List.take_zero]
    have hg := (poi_at hp hD).trans e3
    have c0 := cellAt hg 0
    have c1 := cellAt hg 1
    have c2 := cellAt hg 2
    have z0 := freeAt hg 0
    have z1 := freeAt hg 1
    have z2 := freeAt hg 2
    simp only [List.getElem?_toArray, List.getElem?_cons_zero, List.getElem?_cons_succ] at c0 c1 c2
    replace hg := Lib.hid hg
    replace hp := Lib.hid hp
    go_wp2_with fail
    refine ⟨⟨rfl, rfl⟩, put3 w2 (N + 1) (true, n), rfl, put3_okd hOk _ _, put3_sim hp.out _ (true, n), ?_⟩
    refine x_regionEnd X.out ?_
    obtain rfl := hR2.out
    exact ans_out C2 hpv hAA oB e3 rfl (true, n) (hret (true, n) hn) Try.func30 (calmRes_of Try.func30) rfl rfl
  have hz2 : (o.kind == 2) = false := by simpa using k2
  refine x_cond X.out (t := false) (by simp only [Act.eval]; simpa using hz2) ?_
  refine x_seqR X.out fun R1 hR1 => ?_
  replace k2 := Lib.hid k2
  replace hz2 := Lib.hid hz2
  refine x_seg X.out prgB (calmCode_of ext_ok (by kernel_rfl)) rfl (calmRes_of Try.func30) rfl C1.seats fun wp hp => ?_
  replace hp := Lib.hid hp
  go_wp2_with fail
  refine ⟨w1, rfl, hOk, hp.out, ?_⟩
  clear hp wp
  obtain rfl := hR1.out
  clear hR1
  by_cases k3 : o.kind = 3
  · have e : doF κ Y.k o = stepF fun m => κ (!m.al, 0) { m with al := true } := by unfold doF; rw [if_neg k1.out, if_neg k2.out, if_pos k3]
    have hz : (o.kind == 3) = true := by simpa using k3
    obtain rfl := hmc.out
    rw [e] at X ⊢
    clear hmc e
    replace k3 := Lib.hid k3
    refine x_cond X.out (t := true) (by simp only [Act.eval]; simpa using hz) ?_
    refine x_seqR X.out fun R2 hR2 => ?_
    refine x_reg X.out 5 (by decide) (by decide) (calm0 (by kernel_rfl)) C1.seats fun wp hp => ?_
    simp only [List.take_succ_cons, List.take_zero]
    have fw := (simCellT hp _).trans (cellAt C1.rep.wb.2 1)
    simp only [List.getElem?_toArray, List.getElem?_cons_zero, List.getElem?_cons_succ] at fw
    replace hp := Lib.hid hp
    go_wp2_with fail
    refine after_same hp.out hOk ?_
    clear hp fw wp
    refine x_callF X.out rfl rfl (by decide) rfl Try.func14 (by kernel_rfl) (by kernel_rfl) ?_
    walk_nrm
    refine tgo_next (BRep.local Y) (alert_cps (κ := fun v => κ (v, 0)) (fun v => gof_of fun w2 m2 own2 ov2 bv2 C2 => ?_) (ended_up (calmRes_of Try.func30) rfl rfl hii2)) C1 .refl .refl
    rw [Frame.finish_at]
    clear X hOk
    have X := tgo_xc (Rep := BRep Y) (P := Try.prog) (U := U) (i := i) (own := own2) (w := w2) (ov := ov2) (bv := bv2) (mc := κ (v, 0) m2)
    have hOk := C2.seats.okd
    replace X := Lib.hid X
    obtain ⟨oB, q2⟩ := C2.mine (N + 1) o2
    have e3 := q2.trans e2.out
    have hD : U.D (N + 1) = none := C2.dmine (by rw [oB]; simp)
    walk_nrm
    refine x_more X.out 6 2 (by decide) (by decide) (calm0 (by kernel_rfl)) C2.seats fun wp hp => ?_
    simp only [List.drop_succ_cons, List.drop_zero, List.take_succ_cons, List.take_zero]
    have hg := (poi_at hp hD).trans e3
    have c0 := cellAt hg 0
    have c1 := cellAt hg 1
    have c2 := cellAt hg 2
    have z0 := freeAt hg 0
    have z1 := freeAt hg 1
    have z2 := freeAt hg 2
    simp only [List.getElem?_toArray, List.getElem?_cons_zero, List.getElem?_cons_succ] at c0 c1 c2
    replace hg := Lib.hid hg
    replace hp := Lib.hid hp
    go_wp2_with fail
    refine ⟨⟨rfl, rfl⟩, put3 w2 (N + 1) (v, 0), rfl, put3_okd hOk _ _, put3_sim hp.out _ (v, 0), ?_⟩
    refine x_regionEnd X.out ?_
    obtain rfl := hR2.out
    exact ans_out C2 hpv hAA oB e3 rfl (v, 0) (hret (v, 0) (show In64 0 by decide)) Try.func30 (calmRes_of Try.func30) rfl rfl
  have hz3 : (o.kind == 3) = false := by simpa using k3
  refine x_cond X.out (t := false) (by simp only [Act.eval]; simpa using hz3) ?_
  refine x_seqR X.out fun R1 hR1 => ?_
  replace k3 := Lib.hid k3
  replace hz3 := Lib.hid hz3
  refine x_seg X.out prgB (calmCode_of ext_ok (by kernel_rfl)) rfl (calmRes_of Try.func30) rfl C1.seats fun wp hp => ?_
  replace hp := Lib.hid hp
  go_wp2_with fail
  refine ⟨w1, rfl, hOk, hp.out, ?_⟩
  clear hp wp
  obtain rfl := hR1.out
  clear hR1
  by_cases k4 : o.kind = 4
  · have e : doF κ Y.k o = stepF fun m => κ (m.al, 0) { m with al := false } := by unfold doF; rw [if_neg k1.out, if_neg k2.out, if_neg k3.out, if_pos k4]
    have hz : (o.kind == 4) = true := by simpa using k4
    obtain rfl := hmc.out
    rw [e] at X ⊢
    clear hmc e
    replace k4 := Lib.hid k4
    refine x_cond X.out (t := true) (by simp only [Act.eval]; simpa using hz) ?_
    refine x_seqR X.out fun R2 hR2 => ?_
    refine x_reg X.out 5 (by decide) (by decide) (calm0 (by kernel_rfl)) C1.seats fun wp hp => ?_
    simp only [List.take_succ_cons, List.take_zero]
    have fw := (simCellT hp _).trans (cellAt C1.rep.wb.2 1)
    simp only [List.getElem?_toArray, List.getElem?_cons_zero, List.getElem?_cons_succ] at fw
    replace hp := Lib.hid hp
    go_wp2_with fail
    refine after_same hp.out hOk ?_
    clear hp fw wp
    refine x_callF X.out rfl rfl (by decide) rfl Try.func15 (by kernel_rfl) (by kernel_rfl) ?_
    walk_nrm
    refine tgo_next (BRep.local Y) (clear_cps (κ := fun v => κ (v, 0)) (fun v => gof_of fun w2 m2 own2 ov2 bv2 C2 => ?_) (ended_up (calmRes_of Try.func30) rfl rfl hii2)) C1 .refl .refl
    rw [Frame.finish_at]
    clear X hOk
    have X := tgo_xc (Rep := BRep Y) (P := Try.prog) (U := U) (i := i) (own := own2) (w := w2) (ov := ov2) (bv := bv2) (mc := κ (v, 0) m2)
    have hOk := C2.seats.okd
    replace X := Lib.hid X
    obtain ⟨oB, q2⟩ := C2.mine (N + 1) o2
    have e3 := q2.trans e2.out
    have hD : U.D (N + 1) = none := C2.dmine (by rw [oB]; simp)
    walk_nrm
    refine x_more X.out 6 2 (by decide) (by decide) (calm0 (by kernel_rfl)) C2.seats fun wp hp => ?_
    simp only [List.drop_succ_cons, List.drop_zero, List.take_succ_cons, List.take_zero]
    have hg := (poi_at hp hD).trans e3
    have c0 := cellAt hg 0
    have c1 := cellAt hg 1
    have c2 := cellAt hg 2
    have z0 := freeAt hg 0
    have z1 := freeAt hg 1
    have z2 := freeAt hg 2
    simp only [List.getElem?_toArray, List.getElem?_cons_zero, List.getElem?_cons_succ] at c0 c1 c2
    replace hg := Lib.hid hg
    replace hp := Lib.hid hp
    go_wp2_with fail
    refine ⟨⟨rfl, rfl⟩, put3 w2 (N + 1) (v, 0), rfl, put3_okd hOk _ _, put3_sim hp.out _ (v, 0), ?_⟩
    refine x_regionEnd X.out ?_
    obtain rfl := hR2.out
    exact ans_out C2 hpv hAA oB e3 rfl (v, 0) (hret (v, 0) (show In64 0 by decide)) Try.func30 (calmRes_of Try.func30) rfl rfl
  have hz4 : (o.kind == 4) = false := by simpa using k4
  refine x_cond X.out (t := false) (by simp only [Act.eval]; simpa using hz4) ?_
  refine x_seqR X.out fun R1 hR1 => ?_
  replace k4 := Lib.hid k4
  replace hz4 := Lib.hid hz4
  refine x_seg X.out prgB (calmCode_of ext_ok (by kernel_rfl)) rfl (calmRes_of Try.func30) rfl C1.seats fun wp hp => ?_
  replace hp := Lib.hid hp
  go_wp2_with fail
  refine ⟨w1, rfl, hOk, hp.out, ?_⟩
  clear hp wp
  obtain rfl := hR1.out
  clear hR1
  by_cases k5 : o.kind = 5
  · have e : doF κ Y.k o = stepF fun m => κ (m.al, 0) m := by unfold doF; rw [if_neg k1.out, if_neg k2.out, if_neg k3.out, if_neg k4.out, if_pos k5]
    have hz : (o.kind == 5) = true := by simpa using k5
    obtain rfl := hmc.out
    rw [e] at X ⊢
    clear hmc e
    replace k5 := Lib.hid k5
    refine x_cond X.out (t := true) (by simp only [Act.eval]; simpa using hz) ?_
    refine x_seqR X.out fun R2 hR2 => ?_
    refine x_reg X.out 5 (by decide) (by decide) (calm0 (by kernel_rfl)) C1.seats fun wp hp => ?_
    simp only [List.take_succ_cons, List.take_zero]
    have fw := (simCellT hp _).trans (cellAt C1.rep.wb.2 1)
    simp only [List.getElem?_toArray, List.getElem?_cons_zero, List.getElem?_cons_succ] at fw
    replace hp := Lib.hid hp
    go_wp2_with fail
    refine after_same hp.out hOk ?_
    clear hp fw wp
    refine x_callF X.out rfl rfl (by decide) rfl Try.func13 (by kernel_rfl) (by kernel_rfl) ?_
    walk_nrm
    refine tgo_next (BRep.local Y) (alerted_cps (κ := fun v => κ (v, 0)) (fun v => gof_of fun w2 m2 own2 ov2 bv2 C2 => ?_) (ended_up (calmRes_of Try.func30) rfl rfl hii2)) C1 .refl .refl
    rw [Frame.finish_at]
    clear X hOk
    have X := tgo_xc (Rep := BRep Y) (P := Try.prog) (U := U) (i := i) (own := own2) (w := w2) (ov := ov2) (bv := bv2) (mc := κ (v, 0) m2)
    have hOk := C2.seats.okd
    replace X := Lib.hid X
    obtain ⟨oB, q2⟩ := C2.mine (N + 1) o2
    have e3 := q2.trans e2.out
    have hD : U.D (N + 1) = none := C2.dmine (by rw [oB]; simp)
    walk_nrm
    refine x_more X.out 6 2 (by decide) (by decide) (calm0 (by kernel_rfl)) C2.seats fun wp hp => ?_
    simp only [List.drop_succ_cons, List.drop_zero, List.take_succ_cons, List.take_zero]
    have hg := (poi_at hp hD).trans e3
    have c0 := cellAt hg 0
    have c1 := cellAt hg 1
    have c2 := cellAt hg 2
    have z0 := freeAt hg 0
    have z1 := freeAt hg 1
    have z2 := freeAt hg 2
    simp only [List.getElem?_toArray, List.getElem?_cons_zero, List.getElem?_cons_succ] at c0 c1 c2
    replace hg := Lib.hid hg
    replace hp := Lib.hid hp
    go_wp2_with fail
    refine ⟨⟨rfl, rfl⟩, put3 w2 (N + 1) (v, 0), rfl, put3_okd hOk _ _, put3_sim hp.out _ (v, 0), ?_⟩
    refine x_regionEnd X.out ?_
    obtain rfl := hR2.out
    exact ans_out C2 hpv hAA oB e3 rfl (v, 0) (hret (v, 0) (show In64 0 by decide)) Try.func30 (calmRes_of Try.func30) rfl rfl
  have hz5 : (o.kind == 5) = false := by simpa using k5
  refine x_cond X.out (t := false) (by simp only [Act.eval]; simpa using hz5) ?_
  refine x_seqR X.out fun R1 hR1 => ?_
  refine x_seqR X.out fun R3 hR3 => ?_
  replace k5 := Lib.hid k5
  replace hz5 := Lib.hid hz5
  refine x_seg X.out prgB (calmCode_of ext_ok (by kernel_rfl)) rfl (calmRes_of Try.func30) rfl C1.seats fun wp hp => ?_
  replace hp := Lib.hid hp
  go_wp2_with fail
  refine ⟨w1, rfl, hOk, hp.out, ?_⟩
  clear hp wp
  obtain rfl := hR3.out
  by_cases k6 : o.kind = 6
  · have e : doF κ Y.k o = changeF κ Y.k o := by unfold doF; rw [if_neg k1.out, if_neg k2.out, if_neg k3.out, if_neg k4.out, if_neg k5.out, if_pos (.inl k6)]
    have hz6 : (o.kind == 6) = true := by simpa using k6
    replace k6 := Lib.hid k6
    replace hz6 := Lib.hid hz6
    refine x_cond X.out (t := true) (by simp only [Act.eval]; simpa using hz6.out) ?_
    refine x_skip X.out ?_
    obtain rfl := hR1.out
    refine x_cond X.out (t := true) (by simp only [Act.eval]; simpa using hz6.out) ?_
    obtain rfl := hmc.out
    rw [e] at X ⊢
    rw [a30_of _ rfl]
    exact do_change hY ho C1 hpv hAA o2 e2.out o1 e1.out hii2 hret rfl rfl rfl rfl
  have hz6 : (o.kind == 6) = false := by simpa using k6
  refine x_cond X.out (t := false) (by simp only [Act.eval]; simpa using hz6) ?_
  replace k6 := Lib.hid k6
  replace hz6 := Lib.hid hz6
  refine x_seg X.out prgB (calmCode_of ext_ok (by kernel_rfl)) rfl (calmRes_of Try.func30) rfl C1.seats fun wp hp => ?_
  replace hp := Lib.hid hp
  go_wp2_with fail
  refine ⟨w1, rfl, hOk, hp.out, ?_⟩
  clear hp wp
  by_cases k7 : o.kind = 7
  · have e : doF κ Y.k o = changeF κ Y.k o := by unfold doF; rw [if_neg k1.out, if_neg k2.out, if_neg k3.out, if_neg k4.out, if_neg k5.out, if_pos (.inr k7)]
    have hz7 : (o.kind == 7) = true := by simpa using k7
    replace k7 := Lib.hid k7
    replace hz7 := Lib.hid hz7
    obtain rfl := hR1.out
    refine x_cond X.out (t := true) (by simp only [Act.eval]; simpa using hz7.out) ?_
    obtain rfl := hmc.out
    rw [e] at X ⊢
    rw [a30_of _ rfl]
    exact do_change hY ho C1 hpv hAA o2 e2.out o1 e1.out hii2 hret rfl rfl rfl rfl
  have hz7 : (o.kind == 7) = false := by simpa using k7
  have e : doF κ Y.k o = κ (false, 0) := by
    have h6 := k6.out
    unfold doF; rw [if_neg k1.out, if_neg k2.out, if_neg k3.out, if_neg k4.out, if_neg k5.out, if_neg (fun z => z.elim h6 k7)]
  obtain rfl := hR1.out
  refine x_cond X.out (t := false) (by simp only [Act.eval]; simpa using hz7) ?_
  refine x_skip X.out ?_
  refine x_inBlock X.out ?_
  obtain rfl := hR0.out
  obtain rfl := hmc.out
  rw [e] at X ⊢
  replace k7 := Lib.hid k7
  replace hz7 := Lib.hid hz7
  have oB := o2
  have e3 := e2.out
  have hD : U.D (N + 1) = none := C1.dmine (by rw [oB]; simp)
  clear hR0 hR1 hR3
  refine x_seqR X.out fun R2 hR2 => ?_
  refine x_seg X.out prgB (calmCode_of ext_ok (by kernel_rfl)) rfl (calmRes_of Try.func30) rfl C1.seats fun wp hp => ?_
  have hg := (poi_at hp hD).trans e3
  have c0 := cellAt hg 0
  have c1 := cellAt hg 1
  have c2 := cellAt hg 2
  have z0 := freeAt hg 0
  have z1 := freeAt hg 1
  have z2 := freeAt hg 2
  simp only [List.getElem?_toArray, List.getElem?_cons_zero, List.getElem?_cons_succ] at c0 c1 c2
  replace hg := Lib.hid hg
  replace hp := Lib.hid hp
  go_wp2_with fail
  refine ⟨put3 w1 (N + 1) (false, 0), rfl, put3_okd hOk _ _, put3_sim hp.out _ (false, 0), ?_⟩
  obtain rfl := hR2.out
  exact ans_out C1 hpv hAA oB e3 rfl (false, 0) (hret (false, 0) (by decide)) Try.func30 (calmRes_of Try.func30) rfl rfl
end
end Go.Proofs.Ytimkkeomdkbcjaa
