/-
  Merged out of: Bar11 Bar12 Bar13 Bar14. No condition of its own.
-/
import Derived.Test.YtimkkeomdkbcjaaPlaysP28
import Derived.Test.YtimkkeomdkbcjaaPlaysP08
import Derived.Test.YtimkkeomdkbcjaaPlaysP21
set_option linter.unusedVariables false
set_option linter.unusedSimpArgs false
/-
  A thread's answer is laid behind its others: what becomes of the shared world. No condition of its own.
-/
namespace Go.Proofs.Ytimkkeomdkbcjaa
open Go.Conc Go.RowKit
open Go.ConcN (upd upd_ne upd_same)
def ownS (lo hi : Nat) (own : Nat → Owner) : Nat → Owner := fun b => if lo ≤ b ∧ b < hi then .sh else own b
theorem ownS_old {lo hi b : Nat} {own : Nat → Owner} (h : b < lo) : ownS lo hi own b = own b := by unfold ownS; rw [if_neg (by omega)]
theorem ownS_new {lo hi b : Nat} {own : Nat → Owner} (h1 : lo ≤ b) (h2 : b < hi) : ownS lo hi own b = .sh := by unfold ownS; rw [if_pos ⟨h1, h2⟩]
theorem flatA_snoc (l : List (Bool × Int)) (r : Bool × Int) : flatA (l ++ [r]) = flatA l ++ [.bool r.1, .int .i64 r.2, .slice none 0 0] := by simp [flatA]
section
variable {Y : BL} {m : BM} {own : Nat → Owner} {w w1 : World}
theorem BRep.answered (h : BRep Y m own w) {i : Nat} (hi : i < Y.n) (hfresh : ∀ b, w.heap.size ≤ b → own b = .out) (hs : w.heap.size ≤ w1.heap.size) {c : Array Value} (hc : w.heap[Y.ar]? = some (.cells c 75 (0, 0))) {v' : Value} {r : Bool × Int}
    (hv : w1.ownsRow Y.lo 97 3 v' ((m.an i).length + 1) (flatA (m.an i ++ [r]))) (hb : ∀ g, v'.ownBlock = some g → (c.getD i undef).ownBlock = some g ∨ w.heap.size ≤ g) (har : w1.heap[Y.ar]? = some (.cells (c.setIfInBounds i v') 75 (0, 0)))
    (hk : ∀ b, b < w.heap.size → b ≠ Y.ar → (c.getD i undef).ownBlock ≠ some b → w1.heap[b]? = w.heap[b]?) : BRep Y { m with an := upd m.an i (m.an i ++ [r]) } (ownS w.heap.size w1.heap.size own) w1 := by
  obtain ⟨a, b, c0, d, e, f, st, lo, inp⟩ := h
  obtain ⟨o, c', q1, q2, q3, q4⟩ := f
  obtain rfl : c' = c := by rw [hc] at q1; simpa using q1.symm
  have lt : ∀ {x : Nat}, own x = .sh → x < w.heap.size := fun {x} hx => by
    rcases Nat.lt_or_ge x w.heap.size with z | z
    · exact z
    · rw [hfresh x z] at hx; cases hx
  have osh : ∀ {x : Nat}, own x = .sh → ownS w.heap.size w1.heap.size own x = .sh := fun hx => (ownS_old (lt hx)).trans hx
  have keep : ∀ {x : Nat} {ob : Obj}, own x = .sh → w.heap[x]? = some ob → (∀ cc ff, ob ≠ .cells cc 75 ff) → (∀ cc ff, ob ≠ .cells cc 97 ff) → w1.heap[x]? = some ob := fun {x ob} hx e1 n1 n2 => by
    refine (hk x (lt hx) (fun z => ?_) fun z => ?_).trans e1
    · rw [z, hc] at e1; exact n1 _ _ (Option.some.inj e1).symm
    · obtain ⟨cc, hcc⟩ := ownsRow_type (q4 i hi).1 z
      rw [hcc] at e1; exact n2 _ _ (Option.some.inj e1).symm
  have hget : ∀ j, j < Y.n → (c'.setIfInBounds i v').getD j undef = if j = i then v' else c'.getD j undef := fun j hj => by
    have hj' : j < c'.size := by omega
    by_cases z : j = i
    · subst z; simp [hj']
    · rw [if_neg z]
      simp only [Array.getD_eq_getD_getElem?, Array.getElem?_setIfInBounds]
      rw [if_neg (Ne.symm z)]
  refine ⟨⟨osh a.1, keep a.1 a.2 (by simp) (by simp)⟩, fun hkk => ?_, ⟨osh c0.1, keep c0.1 c0.2 (by simp) (by simp)⟩, fun hkk => ?_, fun j hj => ?_, ?_, fun x hx => ?_, lo, fun x hx => ?_⟩
  · obtain ⟨oo, x, q⟩ := b hkk
    exact ⟨osh oo, x, keep oo q.1 (by simp) (by simp), q.2⟩
  · obtain ⟨oo, x, q⟩ := d hkk
    exact ⟨osh oo, x, keep oo q.1 (by simp) (by simp), q.2⟩
  · obtain ⟨oo, x1, x2⟩ := e j hj
    exact ⟨osh oo, keep oo x1 (by simp) (by simp), x2⟩
  · refine ⟨osh o, _, har, by simpa using q2, fun j k g hj hk' e1 e2 => ?_, fun j hj => ?_⟩
    · rw [hget j hj] at e1
      rw [hget k hk'] at e2
      have big : ∀ x, x < Y.n → (c'.getD x undef).ownBlock = some g → g < w.heap.size := fun x hx hg => lt ((q4 x hx).2 g hg)
      by_cases zj : j = i <;> by_cases zk : k = i
      · rw [zj, zk]
      · rw [if_pos zj] at e1
        rw [if_neg zk] at e2
        rcases hb g e1 with z | z
        · exact absurd (q3 i k g hi hk' z e2) (by omega)
        · have := big k hk' e2; omega
      · rw [if_neg zj] at e1
        rw [if_pos zk] at e2
        rcases hb g e2 with z | z
        · exact absurd (q3 i j g hi hj z e1) (by omega)
        · have := big j hj e1; omega
      · rw [if_neg zj] at e1
        rw [if_neg zk] at e2
        exact q3 j k g hj hk' e1 e2
    · rw [hget j hj]
      by_cases z : j = i
      · subst z
        rw [if_pos rfl]
        simp only [upd_same]
        refine ⟨by rw [List.length_append]; exact hv, fun g hg => ?_⟩
        rcases hb g hg with z | z
        · exact osh ((q4 j hi).2 g z)
        · have hlt : g < w1.heap.size := by
            obtain ⟨cc, hcc⟩ := ownsRow_type hv hg
            exact (Array.getElem?_eq_some_iff.1 hcc).1
          exact ownS_new z hlt
      · rw [if_neg z]
        simp only [upd_ne _ _ z]
        obtain ⟨r1, r2⟩ := q4 j hj
        refine ⟨ownsRow_keep r1 fun g ob hg hh => ?_, fun g hg => osh (r2 g hg)⟩
        refine (hk g (lt (r2 g hg)) (fun y => ?_) fun y => z (q3 j i g hj hi hg y)).trans hh
        obtain ⟨cc, hcc⟩ := ownsRow_type r1 hg
        rw [y, hc] at hcc
        simp at hcc
  · obtain ⟨t1, t2, t3, t4, oo, q⟩ := st x hx
    exact ⟨t1, t2, t3, t4, osh oo, keep oo q (by simp [t3]) (by simp [t4])⟩
  · obtain ⟨t1, oo, q⟩ := inp x hx
    have := lo.2.1
    exact ⟨t1, osh oo, (hk _ (lt oo) (by omega) fun z => by have := ((q4 i hi).1.lt _ z).1; omega).trans q⟩
end
section
variable {M : Type} [Priv M] {Rep : M → (Nat → Owner) → World → Prop} {P : Program} {U : Tun} {i : Nat} {own : Nat → Owner} {A : Nat → Prop} {w₀ : W0 M} {w w1 : World} {m m' : M} {ov bv : Nat → Bool}
theorem Ctx.shared (C : Ctx Rep U i own A w₀ w m ov bv) (hs : w.heap.size ≤ w1.heap.size) (hk : ∀ b, b < w.heap.size → own b ≠ .sh → w1.heap[b]? = w.heap[b]?) (hR : Rep m' (ownS w.heap.size w1.heap.size own) w1) :
    Ctx Rep U i (ownS w.heap.size w1.heap.size own) A ⟨w₀.heap, m'⟩ w1 m' ov bv ∧ OwnStep i own (ownS w.heap.size w1.heap.size own) w.heap.size ∧ Frm i own w w1 := by
  have hblk : ∀ b, U.blk b → b < w.heap.size := fun b hb => C.tn.lt hb
  refine ⟨⟨C.lt, C.wf, C.tn.of_blk fun b hb => hk b (hblk b hb) (by rw [C.tun b hb]; simp), fun b hb => by rw [ownS_old (hblk b hb)]; exact C.tun b hb, hR, fun b hb => ?_, fun b hb => ?_, C.bf, rfl⟩, fun b => ?_, hs, fun b hb _ h2 _ => hk b hb h2⟩
  · unfold ownS
    rw [if_neg (by omega)]
    exact C.fresh b (by omega)
  · obtain ⟨q1, q2⟩ := C.mine b hb
    have hlt := C.lt' (b := b) (by rw [q1]; simp)
    exact ⟨(ownS_old hlt).trans q1, (hk b hlt (by rw [q1]; simp)).trans q2⟩
  · unfold ownS
    by_cases h : w.heap.size ≤ b ∧ b < w1.heap.size
    · rw [if_pos h]; exact .inr ⟨.inl h.1, .inr rfl⟩
    · rw [if_neg h]; exact .inl rfl
end
end Go.Proofs.Ytimkkeomdkbcjaa

/-
  A thread's answer is laid behind its others (printed by gen/bar12.py). No condition of its own.
-/
namespace Go.Proofs.Ytimkkeomdkbcjaa
open Go.Conc Go.RowKit
open Go.ConcN (upd upd_ne upd_same)
noncomputable def c56 : Code := (Try.f56.body).getD .skip
def A56 (x : Nat → Value) : Act := ⟨#[x 0, x 1, x 2, x 3, x 4, x 5, x 6, x 7, x 8, x 9, x 10, x 11, x 12, x 13, x 14, x 15, x 16, x 17, x 18, x 19, x 20, x 21, x 22, x 23, x 24, x 25, x 26, x 27, x 28, x 29, x 30, x 31, x 32], []⟩
theorem a56_of (l : Array Value) (hl : l.size = 33) : (⟨l, []⟩ : Act) = A56 fun j => l.getD j undef := by
  have e : ∀ x : Nat → Value, (A56 x).tmps = ((List.range 33).map x).toArray := fun x => rfl
  have h1 : l = (A56 fun j => l.getD j undef).tmps := by
    rw [e]
    apply Array.ext_getElem?
    intro i
    by_cases h : i < 33
    · have h' : i < l.size := by omega
      simp [h, h', List.getElem?_range]
    · have h' : ¬ i < l.size := by omega
      rw [Array.getElem?_eq_none (by omega), Array.getElem?_eq_none (by simp; omega)]
  exact congrArg (Act.mk · []) h1
def bodyT : Code → Code := fun c => cA (cA (cB c))
def inT : Code → Code := fun c => cA (cA (cB (cB (bodyT c))))
theorem info97z : (Try.prog.info? 97).map (fun i => (i.zero, i.size, i.bytes)) = some (some (.agg #[.bool false, .int .i64 0, .slice none 0 0]), 3, 40) := by kernel_rfl
theorem stc_cell {Y : BL} {m : BM} {own : Nat → Owner} {w wp : World} {D : Nat → Option (Nat × Nat)} (h : BRep Y m own w) (hp : Sim wp (poi D w)) {b : Nat} {c : Array Value} {t : TypeId} (hm : (b, c, t) ∈ Y.stc) (i : Nat) : wp.cell? ⟨b, i, none⟩ = c[i]? :=
  (simCellT hp _).trans (cellAt (h.stc _ hm).2.2.2.2.2 i)
theorem inp_cell {Y : BL} {m : BM} {own : Nat → Owner} {w wp : World} {D : Nat → Option (Nat × Nat)} (h : BRep Y m own w) (hp : Sim wp (poi D w)) {b : Nat} {c : Array Value} {t : TypeId} {f : Nat × Nat} (hm : (b, .cells c t f) ∈ Y.inp) (i : Nat) : wp.cell? ⟨b, i, none⟩ = c[i]? :=
  (simCellT hp _).trans (cellOf (h.inp _ hm).2.2)
theorem slots56 {x : Nat → Value} {v3 v4 v8 : Value} {t : List Value} (h3 : x 3 = v3) (h4 : x 4 = v4) (h8 : x 8 = v8) (j : Nat) (hj : j < 22) :
    (([x 0, x 1, x 2, v3, v4, x 5, x 6, x 7, v8, x 9, x 10, x 11, x 12, x 13, x 14, x 15, x 16, x 17, x 18, x 19, x 20, x 21] ++ t).toArray).getD j undef = x j := by
  subst h3 h4 h8
  rcases j with _ | _ | _ | _ | _ | _ | _ | _ | _ | _ | _ | _ | _ | _ | _ | _ | _ | _ | _ | _ | _ | _ | j <;> first | rfl | omega
section
variable {Y : BL} {U : Tun} {i : Nat} {A : Nat → Prop} {w₀ : W0 BM} {cs : List Frame} {K : List Item}
set_option maxRecDepth 100000 in
set_option maxHeartbeats 1000000 in
theorem answer_piece {own : Nat → Owner} {w : World} {m : BM} {ov bv : Nat → Bool} (C : Ctx (BRep Y) U i own A w₀ w m ov bv) (hi : i < Y.n) (hn : Y.n ≤ 64) {ic ac B : Nat} (hic : (ic, #[.int .i64 i], 3) ∈ Y.stc) (hac : (ac, #[.slice (some ⟨Y.ar, 0, none⟩) Y.n Y.n], 61) ∈ Y.stc) {r : Bool × Int}
    (oB : own B = .th i) (eB : w.heap[B]? = some (.cells #[.bool r.1, .int .i64 r.2, .slice none 0 0] 97 (0, 0))) (hlen : (m.an i).length < 65536) {mc : BM × Co BM} {x : Nat → Value} (x3 : x 3 = .pointer (some ⟨ic, 0, none⟩)) (x4 : x 4 = .pointer (some ⟨ac, 0, none⟩)) (x8 : x 8 = .pointer (some ⟨B, 0, none⟩))
    (h : ∀ own' w1 x', Ctx (BRep Y) U i own' A ⟨w₀.heap, { m with an := upd m.an i (m.an i ++ [r]) }⟩ w1 { m with an := upd m.an i (m.an i ++ [r]) } ov bv → (∀ j, j < 22 → x' j = x j) → TGO (BRep Y) Try.prog U i own' w1 mc ov bv (G ((base 56).at (A56 x') K) cs) w1) :
    TGO (BRep Y) Try.prog U i own w mc ov bv (G ((base 56).at (A56 x) (.code (cB (cB (cB (inT c56)))) :: K)) cs) w := by
  rw [show cB (cB (cB (inT c56))) = Code.region _ _ _ from rfl]
  refine tgo_of prgB C (calmCode_of ext_ok (by kernel_rfl)) rfl (calmRes_of Try.func56) rfl fun wp hp => ?_
  obtain ⟨oar, c, hc, hcs, hdis, hrows⟩ := C.rep.ar
  have hDar : U.D Y.ar = none := C.dmine (by rw [oar]; simp)
  have hDB : U.D B = none := C.dmine (by rw [oB]; simp)
  have har := (poi_at hp hDar).trans hc
  have hB := (poi_at hp hDB).trans eB
  obtain ⟨hrow, hro⟩ := hrows i hi
  obtain ⟨v, hv⟩ : ∃ v, c.getD i undef = v := ⟨_, rfl⟩
  rw [hv] at hrow hro
  have cv : wp.cell? ⟨Y.ar, i, none⟩ = some v := by
    rw [cellAt har i, ← hv]
    have : i < c.size := by omega
    simp [this]
  have fv := freeAt har i
  have hrowp : wp.ownsRow Y.lo 97 3 v (m.an i).length (flatA (m.an i)) := ownsRow_keep hrow fun g ob hg hh => by
    rw [poi_at hp (C.dmine (by rw [hro g hg]; simp))]; exact hh
  have q0 : (0 : Int) ≤ (i : Nat) := by omega
  have q1 : ((i : Nat) : Int) < (Y.n : Nat) := by omega
  have hca := stc_cell C.rep hp hac 0
  have hci := stc_cell C.rep hp hic 0
  simp only [List.getElem?_toArray, List.getElem?_cons_zero] at hca hci
  have cB0 := cellAt hB 0
  have cB1 := cellAt hB 1
  have cB2 := cellAt hB 2
  simp only [List.getElem?_toArray, List.getElem?_cons_zero, List.getElem?_cons_succ] at cB0 cB1 cB2
  obtain ⟨i0, hi0, hz0, hz1, hz2⟩ := info_parts info97z
  have hsrc : SrcN (wp.drew.alloc (.cells #[.bool r.1, .int .i64 r.2, .slice none 0 0] 97)) (.slice (some ⟨wp.heap.size, 0, none⟩) 1 1) 1 [.bool r.1, .int .i64 r.2, .slice none 0 0] := by
    refine ⟨rfl, fun u hu => ?_, .inr ⟨_, _, rfl, fun j u hj => ?_⟩⟩
    · simp only [List.mem_cons, List.not_mem_nil, or_false] at hu
      rcases hu with rfl | rfl | rfl <;> rfl
    · have h2 : (wp.drew.alloc (.cells #[.bool r.1, .int .i64 r.2, .slice none 0 0] 97)).heap[wp.heap.size]? = some (.cells #[.bool r.1, .int .i64 r.2, .slice none 0 0] 97 (0, 0)) := heap_alloc_new wp.drew _
      have := cellAt h2 j
      rcases j with _ | _ | _ | j
      · simp at hj; subst hj; simpa [Addr.add] using this
      · simp at hj; subst hj; simpa [Addr.add] using this
      · simp at hj; subst hj; simpa [Addr.add] using this
      · simp at hj
  have hlo12 : Y.lo ≤ (wp.drew.alloc (.cells #[.bool r.1, .int .i64 r.2, .slice none 0 0] 97)).heap.size := by
    have h1 := C.rep.lo.2.1
    have h2 := (Array.getElem?_eq_some_iff.1 hc).1
    have h3 : wp.heap.size = w.heap.size := by rw [hp.heap, poi_size]
    have h4 : (wp.drew.alloc (.cells #[.bool r.1, .int .i64 r.2, .slice none 0 0] 97)).heap.size = wp.heap.size + 1 := by simp
    omega
  obtain ⟨v', w', hrun, ha⟩ := run_append_rowN (P := Try.prog) (wp.drew.alloc (.cells #[.bool r.1, .int .i64 r.2, .slice none 0 0] 97)) Y.lo 75 75 97 i0 _ 40 Try.underlying75 hi0 hz0 hz1 hz2 (by rfl) v (m.an i).length _ (hrowp.alloc (.cells #[.bool r.1, .int .i64 r.2, .slice none 0 0] 97)) (.slice (some ⟨wp.heap.size, 0, none⟩) 1 1) 1 [.bool r.1, .int .i64 r.2, .slice none 0 0]
    hsrc (by unfold maxLen; omega) (by omega) hlo12
  have HRUN : Hid ((Builtin.append_ #[75, 75] 75 #[v, .slice (some ⟨wp.heap.size, 0, none⟩) 1 1]).run Try.prog (wp.drew.alloc (.cells #[.bool r.1, .int .i64 r.2, .slice none 0 0] 97)) = .ok v' w') := Lib.hid hrun
  clear hrun
  obtain ⟨hown', hg, hsh⟩ := ha
  have hsz : wp.heap.size = w.heap.size := by rw [hp.heap, poi_size]
  have hgs : w.heap.size + 1 ≤ w'.heap.size := by
    have := hg.size
    simp at this
    omega
  have oldk : ∀ b, b < w.heap.size → v.ownBlock ≠ some b → w'.heap[b]? = wp.heap[b]? := fun b hb hne => (hg.block b (by simp; omega) (fun q => hne q.symm)).trans (Below.heap_alloc wp.drew _ b (by show b < wp.heap.size; omega))
  have lt : ∀ {b : Nat}, own b ≠ .out → b < w.heap.size := fun hb => C.lt' hb
  obtain ⟨_, _, _, ac97, oac, hacw⟩ := C.rep.stc _ hac
  obtain ⟨_, _, _, ic97, oic, hicw⟩ := C.rep.stc _ hic
  have pac := (poi_at hp (C.dmine (by rw [oac]; simp))).trans hacw
  have pic := (poi_at hp (C.dmine (by rw [oic]; simp))).trans hicw
  have nT : ∀ {b : Nat} {cc : Array Value} {t : TypeId}, wp.heap[b]? = some (.cells cc t (0, 0)) → t ≠ 97 → v.ownBlock ≠ some b := fun e ht q => by
    obtain ⟨c1, hc1⟩ := ownsRow_type hrowp q
    rw [e] at hc1
    simp at hc1
    exact ht hc1.2
  have nB : v.ownBlock ≠ some B := fun q => by have := hro B q; rw [oB] at this; cases this
  have w1ac := (oldk ac (lt (by rw [oac]; simp)) (nT (t := 61) pac (by decide))).trans pac
  have w1ic := (oldk ic (lt (by rw [oic]; simp)) (nT (t := 3) pic (by decide))).trans pic
  have w1B := (oldk B (lt (by rw [oB]; simp)) nB).trans hB
  have w1ar := (oldk Y.ar (lt (by rw [oar]; simp)) (nT (t := 75) har (by decide))).trans har
  have nac : ac ≠ Y.ar := fun z => by rw [z, har] at pac; simp at pac
  have nic : ic ≠ Y.ar := fun z => by rw [z, har] at pic; simp at pic
  have nBr : B ≠ Y.ar := fun z => by rw [z, har] at hB; simp at hB
  have sS : ∀ W : World, W.heap[ac]? = some (.cells #[.slice (some ⟨Y.ar, 0, none⟩) Y.n Y.n] 61 (0, 0)) → W.heap[ic]? = some (.cells #[.int .i64 i] 3 (0, 0)) → W.heap[B]? = some (.cells #[.bool r.1, .int .i64 r.2, .slice none 0 0] 97 (0, 0)) →
      W.cell? ⟨ac, 0, none⟩ = some (.slice (some ⟨Y.ar, 0, none⟩) Y.n Y.n) ∧ W.cell? ⟨ic, 0, none⟩ = some (.int .i64 i) ∧ W.cell? ⟨B, 0, none⟩ = some (.bool r.1) ∧ W.cell? ⟨B, 1, none⟩ = some (.int .i64 r.2) ∧ W.cell? ⟨B, 2, none⟩ = some (.slice none 0 0) :=
    fun W z1 z2 z3 => ⟨cellAt z1 0, cellAt z2 0, cellAt z3 0, cellAt z3 1, cellAt z3 2⟩
  have b0 := Lib.hid (sS wp.drew pac pic hB)
  have al : ∀ {b : Nat} {ob : Obj}, wp.heap[b]? = some ob → (wp.drew.alloc (.cells #[.bool r.1, .int .i64 r.2, .slice none 0 0] 97)).heap[b]? = some ob := fun {b ob} e => (Below.heap_alloc wp.drew _ b (Array.getElem?_eq_some_iff.1 e).1).trans e
  have b1 := Lib.hid (sS (wp.drew.alloc (.cells #[.bool r.1, .int .i64 r.2, .slice none 0 0] 97)) (al pac) (al pic) (al hB))
  have e0 := Lib.hid (sS w' w1ac w1ic w1B)
  have oth : ∀ b, b ≠ Y.ar → (w'.setCell ⟨Y.ar, i, none⟩ v').heap[b]? = w'.heap[b]? := fun b hb => Below.heap_setCell _ _ _ _ hb
  have e3 := Lib.hid (sS (w'.setCell ⟨Y.ar, i, none⟩ v') ((oth _ nac).trans w1ac) ((oth _ nic).trans w1ic) ((oth _ nBr).trans w1B))
  have f0 : w'.cell? ⟨Y.ar, i, none⟩ = some v := by
    rw [cellAt w1ar i, ← hv]
    have : i < c.size := by omega
    simp [this]
  have f1 := freeAt w1ar i
  have cv1 : (wp.drew.alloc (.cells #[.bool r.1, .int .i64 r.2, .slice none 0 0] 97)).cell? ⟨Y.ar, i, none⟩ = some v := by
    rw [cellAt (al har) i, ← hv]
    have : i < c.size := by omega
    simp [this]
  have cv2 : (wp.alloc (.cells #[.bool r.1, .int .i64 r.2, .slice none 0 0] 97)).drew.cell? ⟨Y.ar, i, none⟩ = some v := cv1
  have cv0 : wp.drew.cell? ⟨Y.ar, i, none⟩ = some v := cv
  have fin : ∀ w1 : World, (∀ b : Nat, U.D b = none → w1.heap[b]? = (w'.setCell ⟨Y.ar, i, none⟩ v').heap[b]?) → (∀ b : Nat, (w'.setCell ⟨Y.ar, i, none⟩ v').heap[b]? = wp.heap[b]? → w1.heap[b]? = w.heap[b]?) → w1.heap.size = (w'.setCell ⟨Y.ar, i, none⟩ v').heap.size →
      ∀ x', (∀ j, j < 22 → x' j = x j) → TGO (BRep Y) Try.prog U i own w mc ov bv (G ((base 56).at (A56 x') K) cs) w1 := fun w1 g1 g2 g3 x' hx' => by
    have hs1 : w1.heap.size = w'.heap.size := by rw [g3]; simp [World.setCell]
    have hgb : ∀ g, v'.ownBlock = some g → v.ownBlock = some g ∨ w.heap.size ≤ g := fun g hg' => by
      rcases hsh with ⟨z, _⟩ | ⟨gx, cap, z, _, q⟩
      · rw [z] at hg'; cases hg'
      · rw [z] at hg'
        obtain rfl : gx = g := by simpa [Value.ownBlock] using hg'
        rcases q with q | q
        · exact .inl q
        · have q2 : wp.heap.size + 1 ≤ gx := by simpa using q
          exact .inr (by omega)
    have hD' : ∀ g, v'.ownBlock = some g → U.D g = none := fun g hg' => by
      rcases hgb g hg' with q | q
      · exact C.dmine (by rw [hro g q]; simp)
      · exact C.dnew q
    obtain ⟨C1, hO, hF⟩ := C.shared (w1 := w1) (m' := { m with an := upd m.an i (m.an i ++ [r]) }) (by omega) (fun b hb ho => g2 b ((oth b fun z => ho (z ▸ oar)).trans (oldk b hb fun q => ho (hro b q))))
      (C.rep.answered hi C.fresh (by omega) hc (v' := v') (r := r) (ownsRow_keep (w := w') (by rw [flatA_snoc]; exact hown') fun g ob hg' hh => by
          have ng : g ≠ Y.ar := fun z => by
            obtain ⟨c1, hc1⟩ := ownsRow_type hown' hg'
            rw [z, w1ar] at hc1
            simp at hc1
          rw [g1 g (hD' g hg'), oth g ng]
          exact hh) (fun g hg' => by rw [hv]; exact hgb g hg') (by rw [g1 _ hDar]; exact putAt w1ar i v') (fun b hb h1 h2 => g2 b ((oth b h1).trans (oldk b hb (by rw [← hv]; exact h2)))))
    exact tgo_rebase hO hF (h _ w1 x' C1 hx')
  obtain ⟨g, cap, rfl⟩ : ∃ g cap, v' = .slice (some ⟨g, 0, none⟩) ((m.an i).length + 1) cap := by
    rcases hsh with ⟨_, _, z, _⟩ | ⟨g, cap, e, _⟩
    · cases z
    · exact ⟨g, cap, e⟩
  replace fin := Lib.hid fin
  clear hsz hgs oldk lt hown' hg hsh w1ac w1ic w1B w1ar nT nB sS al pac pic hrowp hrow hro hrows hdis hsrc oth h har hB hc eB
  unfold A56
  simp only [x3, x4, x8]
  replace C := Lib.hid C
  replace hp := Lib.hid hp
  replace x3 := Lib.hid x3
  replace x4 := Lib.hid x4
  replace x8 := Lib.hid x8
  go_wp2_with fail
  refine wp_region_held_drew (S := fun w' => w'.cell? ⟨ac, 0, none⟩ = some (.slice (some ⟨Y.ar, 0, none⟩) Y.n Y.n) ∧ w'.cell? ⟨ic, 0, none⟩ = some (.int .i64 i) ∧ w'.cell? ⟨B, 0, none⟩ = some (.bool r.1) ∧ w'.cell? ⟨B, 1, none⟩ = some (.int .i64 r.2) ∧ w'.cell? ⟨B, 2, none⟩ = some (.slice none 0 0)) (by kernel_rfl) b0.out (fun hHeld => ?_)
  refine takeH (i := 0) (v := ?v1) rfl (by kernel_rfl) (by kernel_rfl) (by kernel_rfl) (fun _ _ _ h => absurd (And.left h) (fun e => by cases e)) (by rfl) (by assumption) ?hy1 ?rest1
  case hy1 => (intro w hSw; (try dsimp only at hSw); first | (go_simp; done) | (go_simp; with_reducible rfl))
  try simp only [Act.put, List.setIfInBounds_toArray, List.set_cons_zero, List.set_cons_succ]
  refine takeH (i := 1) (v := ?v2) rfl (by kernel_rfl) (by kernel_rfl) (by kernel_rfl) (fun _ _ _ h => absurd (And.left h) (fun e => by cases e)) (by rfl) (by assumption) ?hy2 ?rest2
  case hy2 => (intro w hSw; (try dsimp only at hSw); first | (go_simp; done) | (go_simp; with_reducible rfl))
  try simp only [Act.put, List.setIfInBounds_toArray, List.set_cons_zero, List.set_cons_succ]
  refine takeH (i := 2) (v := ?v3) rfl (by kernel_rfl) (by kernel_rfl) (by kernel_rfl) (fun _ _ _ h => absurd (And.left h) (fun e => by cases e)) (by rfl) (by assumption) ?hy3 ?rest3
  case hy3 => (intro w hSw; (try dsimp only at hSw); first | (go_simp; done) | (go_simp; with_reducible rfl))
  try simp only [Act.put, List.setIfInBounds_toArray, List.set_cons_zero, List.set_cons_succ]
  refine takeH (i := 3) (v := ?v4) rfl (by kernel_rfl) (by kernel_rfl) (by kernel_rfl) (fun _ _ _ h => absurd (And.left h) (fun e => by cases e)) (by rfl) (by assumption) ?hy4 ?rest4
  case hy4 => (intro w hSw; (try dsimp only at hSw); first | (go_simp; done) | (go_simp; with_reducible rfl))
  try simp only [Act.put, List.setIfInBounds_toArray, List.set_cons_zero, List.set_cons_succ]
  refine takeH (i := 4) (v := ?v5) rfl (by kernel_rfl) (by kernel_rfl) (by kernel_rfl) (fun _ _ _ h => absurd (And.left h) (fun e => by cases e)) (by rfl) (by assumption) ?hy5 ?rest5
  case hy5 => (intro w hSw; (try dsimp only at hSw); first | (go_simp; done) | (go_simp; with_reducible rfl))
  try simp only [Act.put, List.setIfInBounds_toArray, List.set_cons_zero, List.set_cons_succ]
  refine takeH (i := 6) (v := ?v6) rfl (by kernel_rfl) (by kernel_rfl) (by kernel_rfl) (fun _ _ _ h => absurd (And.left h) (fun e => by cases e)) (by rfl) (by assumption) ?hy6 ?rest6
  case hy6 => (intro w hSw; (try dsimp only at hSw); first | (go_simp; done) | (go_simp; with_reducible rfl))
  try simp only [Act.put, List.setIfInBounds_toArray, List.set_cons_zero, List.set_cons_succ]
  refine wpAnyH_ready (rs := [5, 7]) (by kernel_rfl) (by simp) (consH rfl (fun K hK => ?_) (consH rfl (fun K hK => ?_) AllReadyH.nil))
  · rw [if_pos (by kernel_rfl)]
    go_simp
    refine hK.out _ _ hHeld (fun hHeld => ?_)
    clear hK K
    try simp only [Act.put, List.setIfInBounds_toArray, List.set_cons_zero, List.set_cons_succ]
    refine wpAnyH_ready (rs := [7]) (by kernel_rfl) (by simp) (consH rfl (fun K hK => ?_) AllReadyH.nil)
    go_simp
    refine hK.out _ _ b1.out (fun hHeld => ?_)
    clear hK K
    try simp only [Act.put, List.setIfInBounds_toArray, List.set_cons_zero, List.set_cons_succ]
    refine wpAnyH_ready (rs := [8]) (by kernel_rfl) (by simp) (consH rfl (fun K hK => ?_) AllReadyH.nil)
    refine step_append_run (by rfl) _ _ 75 75 (by rfl) v (.slice (some ⟨wp.heap.size, 0, none⟩) 1 1) (by rfl) (by rfl) HRUN.out ?_
    refine hK.out _ _ e0.out (fun hHeld => ?_)
    clear hK K
    try simp only [Act.put, List.setIfInBounds_toArray, List.set_cons_zero, List.set_cons_succ]
    refine takeH (i := 9) (v := ?v7) rfl (by kernel_rfl) (by kernel_rfl) (by kernel_rfl) (fun _ _ _ h => absurd (And.left h) (fun e => by cases e)) (by rfl) (by assumption) ?hy7 ?rest7
    case hy7 => (intro w hSw; (try dsimp only at hSw); first | (go_simp; done) | (go_simp; with_reducible rfl))
    try simp only [Act.put, List.setIfInBounds_toArray, List.set_cons_zero, List.set_cons_succ]
    refine wpAnyH_ready (rs := [10]) (by kernel_rfl) (by simp) (consH rfl (fun K hK => ?_) AllReadyH.nil)
    go_simp
    refine hK.out _ _ e3.out (fun hHeld => ?_)
    clear hK K
    try simp only [Act.put, List.setIfInBounds_toArray, List.set_cons_zero, List.set_cons_succ]
    refine wpAnyH_done (by kernel_rfl) ?_ _
    go_wp2_with fail
    intro w1 g1 g2 g3
    rw [a56_of _ rfl]
    refine fin.out w1 g1 g2 (g3.trans (by simp [World.setCell])) _ fun j hj => ?_
    exact slots56 x3.out x4.out x8.out j hj
  · go_simp
    refine hK.out _ _ b1.out (fun hHeld => ?_)
    clear hK K
    try simp only [Act.put, List.setIfInBounds_toArray, List.set_cons_zero, List.set_cons_succ]
    refine wpAnyH_ready (rs := [5]) (by kernel_rfl) (by simp) (consH rfl (fun K hK => ?_) AllReadyH.nil)
    rw [if_pos (by kernel_rfl)]
    go_simp
    refine hK.out _ _ hHeld (fun hHeld => ?_)
    clear hK K
    try simp only [Act.put, List.setIfInBounds_toArray, List.set_cons_zero, List.set_cons_succ]
    refine wpAnyH_ready (rs := [8]) (by kernel_rfl) (by simp) (consH rfl (fun K hK => ?_) AllReadyH.nil)
    refine step_append_run (by rfl) _ _ 75 75 (by rfl) v (.slice (some ⟨wp.heap.size, 0, none⟩) 1 1) (by rfl) (by rfl) HRUN.out ?_
    refine hK.out _ _ e0.out (fun hHeld => ?_)
    clear hK K
    try simp only [Act.put, List.setIfInBounds_toArray, List.set_cons_zero, List.set_cons_succ]
    refine takeH (i := 9) (v := ?v8) rfl (by kernel_rfl) (by kernel_rfl) (by kernel_rfl) (fun _ _ _ h => absurd (And.left h) (fun e => by cases e)) (by rfl) (by assumption) ?hy8 ?rest8
    case hy8 => (intro w hSw; (try dsimp only at hSw); first | (go_simp; done) | (go_simp; with_reducible rfl))
    try simp only [Act.put, List.setIfInBounds_toArray, List.set_cons_zero, List.set_cons_succ]
    refine wpAnyH_ready (rs := [10]) (by kernel_rfl) (by simp) (consH rfl (fun K hK => ?_) AllReadyH.nil)
    go_simp
    refine hK.out _ _ e3.out (fun hHeld => ?_)
    clear hK K
    try simp only [Act.put, List.setIfInBounds_toArray, List.set_cons_zero, List.set_cons_succ]
    refine wpAnyH_done (by kernel_rfl) ?_ _
    go_wp2_with fail
    intro w1 g1 g2 g3
    rw [a56_of _ rfl]
    refine fin.out w1 g1 g2 (g3.trans (by simp [World.setCell])) _ fun j hj => ?_
    exact slots56 x3.out x4.out x8.out j hj
end
end Go.Proofs.Ytimkkeomdkbcjaa

/-
  A thread that calls do for its operations. No condition of its own.
-/
namespace Go.Proofs.Ytimkkeomdkbcjaa
open Go.Conc Go.RowKit
open Go.ConcN (upd upd_ne upd_same)
def opsT (k i : Nat) : List OpD → Fu BM
  | [] => finF
  | o :: l => doF (fun r m => opsT k i l { m with an := upd m.an i (m.an i ++ [r]) }) k o
structure TW (Y : BL) (i : Nat) (L : List OpD) (oc dc ic ac : Nat) (ob : Option Addr) (ocap : Nat) : Prop where
  oc : (oc, #[.slice ob L.length ocap], 92) ∈ Y.stc
  ob : L ≠ [] → ∃ b off cells t fr, ob = some ⟨b, off, none⟩ ∧ (b, .cells cells t fr) ∈ Y.inp ∧ ∀ j o, L[j]? = some o → cells[off + j * 4]? = some (.int .i64 o.kind) ∧ cells[off + j * 4 + 1]? = some (.int .i64 o.a) ∧ cells[off + j * 4 + 2]? = some (.int .i64 o.b) ∧ cells[off + j * 4 + 3]? = some (.int .i64 o.c)
  dc : (dc, #[.func (.func 30) #[.pointer (some ⟨Y.wb, 0, none⟩)] #[]], 79) ∈ Y.stc
  ic : (ic, #[.int .i64 i], 3) ∈ Y.stc
  ac : (ac, #[.slice (some ⟨Y.ar, 0, none⟩) Y.n Y.n], 61) ∈ Y.stc
  len : L.length ≤ 65536
  ok : ∀ o ∈ L, o.Ok
structure X56 (U : Tun) (i oc dc ic ac : Nat) (ob : Option Addr) (len ocap : Nat) (x : Nat → Value) : Prop where
  x0 : x 0 = stp U i
  x2 : x 2 = .pointer (some ⟨dc, 0, none⟩)
  x3 : x 3 = .pointer (some ⟨ic, 0, none⟩)
  x4 : x 4 = .pointer (some ⟨ac, 0, none⟩)
  x9 : x 9 = .slice ob len ocap
  x10 : x 10 = .int .i64 len
theorem neq_fn79 (f : Fn) (a b : Array Value) (W : World) : (binOp .neq 79 (.func f a b) .nilFunc).run Try.prog W = .ok (.bool true) W := by
  have h : (Op.equalIn (9999 + 1) 79 (.func f a b) .nilFunc).run Try.prog W = .ok false W := by
    unfold Op.equalIn
    simp [run_underlying Try.underlying79]
  simp only [binOp]
  simp [Op.equal, Op.maxDepth, h]
section
variable {M : Type} [Priv M] {Rep : M → (Nat → Owner) → World → Prop} {P : Program} {U : Tun} {i : Nat} {own : Nat → Owner} {A : Nat → Prop} {w₀ : W0 M} {w w1 : World} {m m' : M} {ov bv : Nat → Bool}
theorem own_one (hloc : Local Rep) (C : Ctx Rep U i own A w₀ w m ov bv) {o1 : Obj} {mc : M × Co M} {g : Goroutine} {N : Nat} (hN : N = w.heap.size)
    (h : ∀ own1 w1, Ctx Rep U i own1 (fun b => own1 b = .th i) ⟨w1.heap, m⟩ w1 m ov bv → w1.heap[N]? = some o1 → w1.heap.size = N + 1 → own1 N = .th i → (∀ b, A b → own1 b = .th i ∧ w1.heap[b]? = w₀.heap[b]? ∧ b < N) → (∀ b, b < N → w1.heap[b]? = w.heap[b]? ∧ own1 b = own b) → TGO Rep P U i own1 w1 mc ov bv g w1) :
    TGO Rep P U i own w mc ov bv g (w.alloc o1) := by
  subst hN
  have hs : (w.alloc o1).heap.size = w.heap.size + 1 := by simp
  have hb : ∀ b, b < w.heap.size → (w.alloc o1).heap[b]? = w.heap[b]? := fun b hb => Below.heap_alloc _ _ _ hb
  have e1 : (w.alloc o1).heap[w.heap.size]? = some o1 := heap_alloc_new _ _
  generalize w.alloc o1 = w1 at *
  obtain ⟨C1, h1, h2⟩ := C.grown hloc (w1 := w1) (by omega) (fun b hb' _ => hb b hb')
  refine tgo_rebase h1 h2 (h _ w1 C1 e1 hs (ownG_new (Nat.le_refl _) (by omega)) (fun b hb' => ?_) fun b hb' => ⟨hb b hb', ownG_old hb'⟩)
  obtain ⟨q1, q2⟩ := C.mine b hb'
  have hlt := C.lt' (b := b) (by rw [q1]; simp)
  exact ⟨(ownG_old hlt).trans q1, (hb b hlt).trans q2, hlt⟩
end
section
variable {Y : BL} {U : Tun} {i : Nat} {A : Nat → Prop} {c : Frame} {cs : List Frame}
set_option maxRecDepth 100000 in
set_option maxHeartbeats 1000000 in
theorem doing_loop (hY : Y.Wf) (hi : i < Y.n) {L : List OpD} {oc dc ic ac : Nat} {ob : Option Addr} {ocap : Nat} (T : TW Y i L oc dc ic ac ob ocap) {h₀ : Array Obj} (hret : ∀ m', GOF (BRep Y) Try.prog U i finF A ⟨h₀, m'⟩ (G (c.finish (.tuple #[])) cs)) (hend : ∀ m', EndedC Y U i A ⟨h₀, m'⟩ c cs) :
    ∀ l j, L.drop j = l → j ≤ L.length → ∀ x w m own ov bv, Ctx (BRep Y) U i own A ⟨h₀, m⟩ w m ov bv → (m.an i).length ≤ j → X56 U i oc dc ic ac ob L.length ocap x → x 11 = .int .i64 j →
      TGO (BRep Y) Try.prog U i own w (opsT Y.k i l m) ov bv (G ((base 56).at (A56 x) (.code (bodyT c56) :: .inLoop (bodyT c56) :: .inBlock 0 :: [])) (c :: cs)) w := by
  intro l
  induction l with
  | nil =>
    intro j hl hj x w m own ov bv C hlen hx h11
    have X := tgo_xc (Rep := BRep Y) (P := Try.prog) (U := U) (i := i) (own := own) (w := w) (ov := ov) (bv := bv) (mc := opsT Y.k i [] m)
    have hOk := C.seats.okd
    replace X := Lib.hid X
    have hjl : j = L.length := by
      have := congrArg List.length hl
      simp at this
      omega
    subst hjl
    have e1 : ¬ (L.length : Int) < (L.length : Int) := by omega
    refine x_seqB X.out rfl fun R0 hR0 => ?_
    rw [show cA (bodyT c56) = Code.region _ _ _ from rfl]
    unfold A56
    simp only [hx.x0, hx.x2, hx.x3, hx.x4, hx.x9, hx.x10, h11]
    refine x_seg X.out prgB (calmCode_of ext_ok (by kernel_rfl)) rfl (calmRes_of Try.func56) rfl C.seats fun wp hp => ?_
    replace hp := Lib.hid hp
    go_wp2_with fail
    refine ⟨w, rfl, hOk, hp.out, ?_⟩
    clear hp wp
    obtain rfl := hR0.out
    clear hR0
    refine x_seqB X.out rfl fun R0 hR0 => ?_
    rw [show cA (cB (bodyT c56)) = Code.cond _ _ _ from rfl]
    refine x_cond X.out (t := false) rfl ?_
    obtain rfl := hR0.out
    refine x_exit X.out rfl ?_
    refine x_end X.out ?_
    refine x_leave X.out (calmRes_of Try.func56) C.seats ⟨rfl, rfl, rfl, _, Try.func56, results_none rfl _ _ _⟩ ?_
    exact tgo_next (BRep.local Y) (hret m) C .refl .refl
  | cons o l ih =>
    intro j hl hj x w m own ov bv C hlen hx h11
    have X := tgo_xc (Rep := BRep Y) (P := Try.prog) (U := U) (i := i) (own := own) (w := w) (ov := ov) (bv := bv) (mc := opsT Y.k i (o :: l) m)
    have hOk := C.seats.okd
    replace X := Lib.hid X
    have hjl : j < L.length := by
      rcases Nat.lt_or_ge j L.length with z | z
      · exact z
      · rw [List.drop_eq_nil_of_le z] at hl; cases hl
    have hLj : L[j]? = some o := by
      have := congrArg (·[0]?) hl
      simpa using this
    have hl' : L.drop (j + 1) = l := by
      have := congrArg List.tail hl
      simpa [List.tail_drop] using this
    have hok := T.ok o (List.mem_of_getElem? hLj)
    obtain ⟨b, off, cells, t0, fr0, hob, hbst, hcell⟩ := T.ob (by intro z; rw [z] at hjl; simp at hjl)
    obtain ⟨k0, k1, k2, k3⟩ := hcell j o hLj
    generalize hmc : opsT Y.k i (o :: l) m = mc at X ⊢
    replace hmc := Lib.hid hmc
    replace ih := Lib.hid ih
    have e1 : (j : Int) < (L.length : Int) := by omega
    have hlen2 := T.len
    refine x_seqB X.out rfl fun R0 hR0 => ?_
    rw [show cA (bodyT c56) = Code.region _ _ _ from rfl]
    unfold A56
    simp only [hx.x0, hx.x2, hx.x3, hx.x4, hx.x9, hx.x10, h11]
    rw [hob]
    refine x_seg X.out prgB (calmCode_of ext_ok (by kernel_rfl)) rfl (calmRes_of Try.func56) rfl C.seats fun wp hp => ?_
    replace hp := Lib.hid hp
    go_wp2_with fail
    refine ⟨w, rfl, hOk, hp.out, ?_⟩
    clear hp wp
    obtain rfl := hR0.out
    clear hR0
    refine x_seqB X.out rfl fun R0 hR0 => ?_
    rw [show cA (cB (bodyT c56)) = Code.cond _ _ _ from rfl]
    refine x_cond X.out (t := true) rfl ?_
    refine x_skip X.out ?_
    obtain rfl := hR0.out
    clear hR0
    refine x_seqB X.out rfl fun R0 hR0 => ?_
    rw [show cA (cB (cB (bodyT c56))) = Code.block _ _ from rfl]
    refine x_block X.out ?_
    refine x_seqR X.out fun R1 hR1 => ?_
    refine x_seg X.out prgB (calmCode_of ext_ok (by kernel_rfl)) rfl (calmRes_of Try.func56) rfl C.seats fun wp hp => ?_
    have f0 := (inp_cell C.rep hp hbst _).trans k0
    have f1 := (inp_cell C.rep hp hbst _).trans k1
    have f2 := (inp_cell C.rep hp hbst _).trans k2
    have f3 := (inp_cell C.rep hp hbst _).trans k3
    have hD0 : U.D w.heap.size = none := C.dnew (Nat.le_refl _)
    have hsz : wp.heap.size = w.heap.size := by rw [hp.heap, poi_size]
    have q0 : (0 : Int) ≤ (j : Nat) := by omega
    replace hsz := Lib.hid hsz
    replace hp := Lib.hid hp
    go_wp2_with fail
    refine ⟨w.alloc _, rfl, okd_alloc hOk _, sim_alloc hp.out _ hD0, ?_⟩
    rw [hsz.out]
    refine own_one (BRep.local Y) C rfl fun own1 w1 C1 e7 hs1 o1 hA _ => ?_
    obtain rfl := hR1.out
    clear hR1 hp hsz wp hD0 X hOk f0 f1 f2 f3 k0 k1 k2 k3 q0 e1
    have hpv := C1.pv
    generalize w.heap.size = N at *
    have X := tgo_xc (Rep := BRep Y) (P := Try.prog) (U := U) (i := i) (own := own1) (w := w1) (ov := ov) (bv := bv) (mc := mc)
    have hOk := C1.seats.okd
    replace X := Lib.hid X
    refine x_seqR X.out fun R1 hR1 => ?_
    refine x_seg X.out prgB (calmCode_of ext_ok (by kernel_rfl)) rfl (calmRes_of Try.func56) rfl C1.seats fun wp hp => ?_
    have hD0 : U.D w1.heap.size = none := C1.dnew (Nat.le_refl _)
    have hsz : wp.heap.size = w1.heap.size := by rw [hp.heap, poi_size]
    replace hsz := Lib.hid hsz
    replace hp := Lib.hid hp
    go_wp2_with fail
    refine ⟨w1.alloc _, rfl, okd_alloc hOk _, sim_alloc hp.out _ hD0, ?_⟩
    rw [hsz.out]
    refine own_one (BRep.local Y) C1 rfl fun own2 w2 C2 e8 hs2 o2 hA2 hlow => ?_
    obtain rfl := hR1.out
    clear hR1 hp hsz wp hD0 X hOk
    rw [hs1] at e8 o2 hlow ⊢
    replace e7 := (hlow N (by omega)).1.trans e7
    replace o1 := (hlow N (by omega)).2.trans o1
    have hAA : ∀ b, A b → own2 b = .th i ∧ w2.heap[b]? = h₀[b]? ∧ b < N := fun b hb => by
      obtain ⟨z1, z2, z3⟩ := hA b hb
      exact ⟨(hlow b (by omega)).2.trans z1, (hlow b (by omega)).1.trans z2, z3⟩
    clear hA hA2 hlow C1 hs1 hs2 C
    have X := tgo_xc (Rep := BRep Y) (P := Try.prog) (U := U) (i := i) (own := own2) (w := w2) (ov := ov) (bv := bv) (mc := mc)
    have hOk := C2.seats.okd
    replace X := Lib.hid X
    refine x_seqR X.out fun R1 hR1 => ?_
    refine x_seqR X.out fun R2 hR2 => ?_
    have hneq := neq_fn79 (.func 30) #[.pointer (some ⟨Y.wb, 0, none⟩)] #[]
    refine x_reg X.out 2 (by decide) (by decide) (calm0 (by kernel_rfl)) C2.seats fun wp hp => ?_
    simp only [List.take_succ_cons, List.take_zero]
    have fd := stc_cell C2.rep hp T.dc 0
    simp only [List.getElem?_toArray, List.getElem?_cons_zero] at fd
    replace hp := Lib.hid hp
    go_wp2_with fail
    refine after_same hp.out hOk ?_
    clear hp fd wp hneq
    refine x_regionEnd X.out ?_
    obtain rfl := hR2.out
    clear hR2
    refine x_cond X.out (t := true) rfl ?_
    refine x_reg X.out 4 (by decide) (by decide) (calm0 (by kernel_rfl)) C2.seats fun wp hp => ?_
    simp only [List.take_succ_cons, List.take_zero]
    have fd := stc_cell C2.rep hp T.dc 0
    have fi := stc_cell C2.rep hp T.ic 0
    have f0 := (simCellT hp _).trans (cellAt e7 0)
    have f1 := (simCellT hp _).trans (cellAt e7 1)
    have f2 := (simCellT hp _).trans (cellAt e7 2)
    have f3 := (simCellT hp _).trans (cellAt e7 3)
    simp only [List.getElem?_toArray, List.getElem?_cons_zero, List.getElem?_cons_succ] at fd fi f0 f1 f2 f3
    replace hp := Lib.hid hp
    go_wp2_with fail
    refine after_same hp.out hOk ?_
    clear hp fd fi f0 f1 f2 f3 wp
    refine x_callV X.out rfl rfl (by decide) rfl rfl Try.func30 (by kernel_rfl) (by kernel_rfl) ?_
    walk_nrm
    obtain rfl := hmc.out
    refine tgo_next (BRep.local Y) (do_cps (A := fun b => own2 b = .th i) (w₀ := ⟨w2.heap, m⟩) hY (κ := fun r m => opsT Y.k i l { m with an := upd m.an i (m.an i ++ [r]) }) hok (o := o) (th := i) (ended_up (calmRes_of Try.func56) rfl rfl (GOF.lifted (hend m) (fun b hb => ⟨(hAA b hb).1, (hAA b hb).2.1⟩) rfl)) (fun r hr => gof_of fun w3 m3 own3 ov3 bv3 C3 => ?_)) C2 .refl .refl
    rw [Frame.finish_at]
    clear X hOk hmc
    have X := tgo_xc (Rep := BRep Y) (P := Try.prog) (U := U) (i := i) (own := own3) (w := w3) (ov := ov3) (bv := bv3) (mc := opsT Y.k i l { m3 with an := upd m3.an i (m3.an i ++ [r]) })
    have hOk := C3.seats.okd
    replace X := Lib.hid X
    walk_nrm
    obtain ⟨oB, q2⟩ := C3.mine (N + 1) o2
    have e9 := q2.trans e8
    have hD : U.D (N + 1) = none := C3.dmine (by rw [oB]; simp)
    have hpv3 : Hid (m3.an i = m.an i) := Lib.hid C3.pv
    refine x_more X.out 5 1 (by decide) (by decide) (calm0 (by kernel_rfl)) C3.seats fun wp hp => ?_
    simp only [List.drop_succ_cons, List.drop_zero, List.take_succ_cons, List.take_zero]
    have hg := (poi_at hp hD).trans e9
    have c0 := cellAt hg 0
    have c1 := cellAt hg 1
    have c2 := cellAt hg 2
    have z0 := freeAt hg 0
    have z1 := freeAt hg 1
    have z2 := freeAt hg 2
    simp only [List.getElem?_toArray, List.getElem?_cons_zero, List.getElem?_cons_succ] at c0 c1 c2
    replace hg := Lib.hid hg
    replace hp := Lib.hid hp
    unfold ansV
    go_wp2_with fail
    refine ⟨⟨rfl, rfl⟩, put3 w3 (N + 1) r, rfl, put3_okd hOk _ _, put3_sim hp.out _ r, ?_⟩
    clear hg hp c0 c1 c2 z0 z1 z2 wp
    refine x_regionEnd X.out ?_
    obtain rfl := hR1.out
    obtain rfl := hR0.out
    have C4 : Ctx (BRep Y) U i own3 A ⟨h₀, m3⟩ w3 m3 ov3 bv3 := C3.less (fun b hb => ⟨(hAA b hb).1, (hAA b hb).2.1⟩) C3.pv.symm
    obtain ⟨C5, hF⟩ := C4.wrote (BRep.local Y) (w1 := put3 w3 (N + 1) r) oB (fun h => by have := (hAA _ h).2.2; omega) (put3_size _ _ _) (fun b hb => put3_off hb r)
    refine tgo_rebase .refl hF ?_
    rw [a56_of _ rfl]
    refine answer_piece C5 hi hY.nn T.ic T.ac oB (put3_at e9 rfl r) (by rw [hpv3.out]; omega) rfl rfl rfl fun own4 w4 x' C6 hx' => ?_
    have g0 : x' 0 = stp U i := hx' 0 (by decide)
    have g2 : x' 2 = .pointer (some ⟨dc, 0, none⟩) := hx' 2 (by decide)
    have g3 : x' 3 = .pointer (some ⟨ic, 0, none⟩) := hx' 3 (by decide)
    have g4 : x' 4 = .pointer (some ⟨ac, 0, none⟩) := hx' 4 (by decide)
    have g9 : x' 9 = .slice ob L.length ocap := by rw [hob]; exact hx' 9 (by decide)
    have g10 : x' 10 = .int .i64 L.length := hx' 10 (by decide)
    have g11 : x' 11 = .int .i64 j := hx' 11 (by decide)
    clear hx' X hOk
    have X := tgo_xc (Rep := BRep Y) (P := Try.prog) (U := U) (i := i) (own := own4) (w := w4) (ov := ov3) (bv := bv3) (mc := opsT Y.k i l { m3 with an := upd m3.an i (m3.an i ++ [r]) })
    have hOk := C6.seats.okd
    replace X := Lib.hid X
    have qq : IntKind.i64.wrap ((j : Int) + 1) = ((j + 1 : Nat) : Int) := by rw [IntKind.wrap_i64]; omega
    refine x_inBlock X.out ?_
    rw [show cB (cB (cB (bodyT c56))) = Code.region _ _ _ from rfl]
    unfold A56
    simp only [g0, g2, g3, g4, g9, g10, g11]
    refine x_seg X.out prgB (calmCode_of ext_ok (by kernel_rfl)) rfl (calmRes_of Try.func56) rfl C6.seats fun wp hp => ?_
    replace hp := Lib.hid hp
    go_wp2_with fail
    refine ⟨w4, rfl, hOk, hp.out, ?_⟩
    clear hp wp
    refine x_inLoop X.out ?_
    rw [a56_of _ rfl]
    refine ih.out (j + 1) hl' (by omega) _ _ _ _ _ _ C6 ?_ ⟨rfl, rfl, rfl, rfl, by rw [hob]; rfl, rfl⟩ rfl
    show (upd m3.an i (m3.an i ++ [r]) i).length ≤ j + 1
    rw [upd_same, List.length_append, hpv3.out]
    simp
    omega
end
end Go.Proofs.Ytimkkeomdkbcjaa

/-
  A thread of operations, from its birth on; what it leaves of the others' own. No condition of its own.
-/
namespace Go.Proofs.Ytimkkeomdkbcjaa
open Go.Conc Go.RowKit
open Go.ConcN (upd upd_ne upd_same)
section
variable {Y : BL} {U : Tun} {i : Nat} {A : Nat → Prop} {c : Frame} {cs : List Frame}
set_option maxRecDepth 100000 in
set_option maxHeartbeats 1000000 in
theorem doing_cps (hY : Y.Wf) (hi : i < Y.n) {L : List OpD} {oc dc ic ac : Nat} {ob : Option Addr} {ocap : Nat} (T : TW Y i L oc dc ic ac ob ocap) {h₀ : Array Obj} {m₀ : BM} (h0 : m₀.an i = []) (hret : ∀ m', GOF (BRep Y) Try.prog U i finF A ⟨h₀, m'⟩ (G (c.finish (.tuple #[])) cs)) (hend : ∀ m', EndedC Y U i A ⟨h₀, m'⟩ c cs) :
    GOF (BRep Y) Try.prog U i (opsT Y.k i L) A ⟨h₀, m₀⟩ (G (Frame.enter Try.prog 56 #[stp U i, .pointer (some ⟨oc, 0, none⟩), .pointer (some ⟨dc, 0, none⟩), .pointer (some ⟨ic, 0, none⟩), .pointer (some ⟨ac, 0, none⟩)] .normal) (c :: cs)) := by
  refine gof_of fun w m own ov bv C => ?_
  have X := tgo_xc (Rep := BRep Y) (P := Try.prog) (U := U) (i := i) (own := own) (w := w) (ov := ov) (bv := bv) (mc := opsT Y.k i L m)
  have hOk := C.seats.okd
  replace X := Lib.hid X
  rw [enter_at _ Try.func56 rfl]
  simp only [Try.ntmps56, List.size_toArray, List.length_cons, List.length_nil, Nat.reduceAdd, Nat.reduceSub, Array.replicate_succ,
     Array.replicate_zero, List.push_toArray, List.append_toArray, List.nil_append, List.cons_append]
  have hm : m.an i = [] := C.pv.trans h0
  have C' : Ctx (BRep Y) U i own A ⟨h₀, m⟩ w m ov bv := C.less (fun b hb => ⟨hb, rfl⟩) C.pv.symm
  generalize hmc : opsT Y.k i L m = mc at X ⊢
  replace hmc := Lib.hid hmc
  replace hm := Lib.hid hm
  refine x_seqR X.out fun R0 hR0 => ?_
  refine x_seg X.out prgB (calmCode_of ext_ok (by kernel_rfl)) rfl (calmRes_of Try.func56) rfl C.seats fun wp hp => ?_
  have fo := stc_cell C.rep hp T.oc 0
  simp only [List.getElem?_toArray, List.getElem?_cons_zero] at fo
  replace hp := Lib.hid hp
  go_wp2_with fail
  refine ⟨w, rfl, hOk, hp.out, ?_⟩
  clear hp fo wp
  obtain rfl := hR0.out
  clear hR0
  refine x_block X.out ?_
  refine x_loop X.out ?_
  obtain rfl := hmc.out
  rw [a56_of _ rfl]
  exact doing_loop hY hi T hret hend L 0 rfl (Nat.zero_le _) _ _ _ _ _ _ C' (by rw [hm.out]; exact Nat.le_refl _) ⟨rfl, rfl, rfl, rfl, rfl, rfl⟩ rfl
theorem thread_cps (hY : Y.Wf) (hi : i < Y.n) (hU : U.n ≤ 64) {L : List OpD} {oc dc ic ac : Nat} {ob : Option Addr} {ocap : Nat} (T : TW Y i L oc dc ic ac ob ocap) {h₀ : Array Obj} {m₀ : BM} (h0 : m₀.an i = []) :
    GOF (BRep Y) Try.prog U i (opsT Y.k i L) (fun _ => False) ⟨h₀, m₀⟩ (born Try.prog (call58 U.tu i (.func (.func 56) #[] #[.pointer (some ⟨oc, 0, none⟩), .pointer (some ⟨dc, 0, none⟩), .pointer (some ⟨ic, 0, none⟩), .pointer (some ⟨ac, 0, none⟩)]))) :=
  run_cps (BRep.local Y) Try.func56 (by kernel_rfl) (by kernel_rfl) hU fun c cs A h₁ m₁ hp hret hend => doing_cps hY hi T ((show m₁.an i = m₀.an i from hp).trans h0) hret hend
end
section
variable {i : Nat}
theorem fp_step {κ : Fu BM} (h : FuPriv i κ) : FuPriv i (stepF κ) := fun m => ⟨fun _ _ => rfl, fun m j hj => (h m).1 j hj, fun m => (h m).2⟩
theorem fp_with {κ : BM → Fu BM} {f : BM → BM} (hf : ∀ m, (f m).an = m.an) (h : ∀ x, FuPriv i (κ x)) : FuPriv i fun m => κ m (f m) := fun m =>
  ⟨fun j hj => ((h m (f m)).1 j hj).trans (show (f m).an j = m.an j by rw [hf]), (h m (f m)).2⟩
theorem fp_lim {κ : Int → Fu BM} (h : ∀ v, FuPriv i (κ v)) : ∀ r j n, FuPriv i (limL κ r j n)
  | 0, _, n => h n
  | r + 1, j, n => fp_step (fp_with (κ := fun m => limL κ r (j + 1) (min n (m.wv j))) (f := id) (fun _ => rfl) fun x => fp_lim h r _ _)
theorem fp_limF {κ : Int → Fu BM} (k : Nat) (h : ∀ v, FuPriv i (κ v)) : FuPriv i (limF k κ) := by
  unfold limF
  split
  · exact h _
  · exact fp_step (fp_with (κ := fun m => limL κ (k - 1) 1 (m.wv 0)) (f := id) (fun _ => rfl) fun x => fp_lim h _ _ _)
theorem fp_lean {κ : Int → Int → Fu BM} (k : Nat) (q : Int) (h : ∀ v e, FuPriv i (κ v e)) : ∀ r j n, FuPriv i (leanL κ k q r j n)
  | 0, _, _ => h _ _
  | r + 1, j, n => by
    refine fp_step (fp_with (κ := fun m => (fun b : Bool => if b = true then κ 0 5 else stepF fun m => leanV κ k q (leanL κ k q r) j n (m.wv j) m) m.al) (f := id) (fun _ => rfl) fun x => ?_)
    show FuPriv i (if x.al = true then κ 0 5 else stepF fun m => leanV κ k q (leanL κ k q r) j n (m.wv j) m)
    split
    · exact h _ _
    · refine fp_step (fp_with (κ := fun m => leanV κ k q (leanL κ k q r) j n (m.wv j)) (f := id) (fun _ => rfl) fun x => ?_)
      unfold leanV
      split
      · exact fp_lean k q h r _ _
      · split
        · exact h _ _
        · exact fp_lean k q h r _ _
theorem fp_eager {κ : Int → Int → Fu BM} (k : Nat) (q : Int) (e : Bool) (h : ∀ v e, FuPriv i (κ v e)) : ∀ r j, FuPriv i (eagerL κ k q e r j)
  | 0, _ => h _ _
  | r + 1, j => by
    have hg : ∀ n, FuPriv i (eagerG κ q (eagerL κ k q e r (j + 1)) n) := fun n => by
      unfold eagerG
      split
      · exact h _ _
      · exact fp_eager k q e h r _
    show FuPriv i (if e = true ∨ j % 8 = 0 then stepF fun m => eagerB κ k q (eagerL κ k q e r (j + 1)) m.al m else limF k (eagerG κ q (eagerL κ k q e r (j + 1))))
    split
    · refine fp_step (fp_with (κ := fun m => eagerB κ k q (eagerL κ k q e r (j + 1)) m.al) (f := id) (fun _ => rfl) fun x => ?_)
      unfold eagerB
      split
      · exact h _ _
      · exact fp_limF k hg
    · exact fp_limF k hg
theorem fp_do {κ : Bool × Int → Fu BM} (k : Nat) (o : OpD) (h : ∀ r, FuPriv i (κ r)) : FuPriv i (doF κ k o) := by
  have hw : ∀ n e, FuPriv i (waitK κ n e) := fun n e => by
    unfold waitK
    split <;> exact h _
  unfold doF
  split
  · unfold waitF
    split
    · exact hw _ _
    · split
      · exact hw _ _
      · unfold waitT
        split
        · exact fp_lean k _ hw _ _ _
        · exact fp_eager k _ _ hw _ _
  split
  · exact fp_limF k fun n => h _
  split
  · exact fp_step (fp_with (κ := fun m => κ (!m.al, 0)) (f := fun m => { m with al := true }) (fun _ => rfl) fun x => h _)
  split
  · exact fp_step (fp_with (κ := fun m => κ (m.al, 0)) (f := fun m => { m with al := false }) (fun _ => rfl) fun x => h _)
  split
  · exact fp_step (fp_with (κ := fun m => κ (m.al, 0)) (f := id) (fun _ => rfl) fun x => h _)
  split
  · unfold changeF
    split
    · exact h _
    · split
      · exact fp_step (fp_with (κ := fun m => κ (true, 0)) (f := fun m => { m with wv := upd m.wv o.a.toNat o.b }) (fun _ => rfl) fun x => h _)
      · exact fp_step (fp_with (κ := fun m => κ (true, addW (m.wv o.a.toNat) o.b)) (f := fun m => { m with wv := upd m.wv o.a.toNat (addW (m.wv o.a.toNat) o.b) }) (fun _ => rfl) fun x => h _)
  · exact h _
theorem fp_ops (k : Nat) : ∀ l, FuPriv i (opsT k i l)
  | [] => fun m => ⟨fun _ _ => rfl, trivial⟩
  | o :: l => fp_do k o fun r m => by
    obtain ⟨h1, h2⟩ := fp_ops k l { m with an := upd m.an i (m.an i ++ [r]) }
    exact ⟨fun j hj => (h1 j hj).trans (upd_ne _ _ hj), h2⟩
end
end Go.Proofs.Ytimkkeomdkbcjaa
