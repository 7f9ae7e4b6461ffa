/-
  Merged out of: Far1 Far2. No condition of its own.
-/
import Derived.Test.YtimkkeomdkbcjaaFarP36
import Derived.Test.YtimkkeomdkbcjaaFarP02
/-
  grown (f20), alone. No condition of its own.
-/
namespace Go.Proofs.Ytimkkeomdkbcjaa
open Go.Conc Go.RowKit
set_option linter.unusedVariables false
set_option linter.unusedSimpArgs false

theorem info94 : (Try.prog.info? 94).map (fun i => (i.zero, i.size, i.bytes)) = some (some (.agg #[.int .i64 0, .int .i64 0, .int .i64 0, .int .i64 0]), 4, 32) := by kernel_rfl
theorem info92 : (Try.prog.info? 92).map (fun i => (i.zero, i.size, i.bytes)) = some (some (.slice none 0 0), 1, 24) := by kernel_rfl
def u64w (x : Int) : Int := IntKind.u64.wrap x
theorem u64w_bound (x : Int) : 0 ≤ u64w x ∧ u64w x ≤ 18446744073709551615 := by
  have e : u64w x = x % 18446744073709551616 := by simp [u64w, IntKind.wrap, IntKind.bits, IntKind.signed]
  rw [e]
  omega
theorem u64_rem (x : Int) {k : Int} (hk : 1 ≤ k) (hk2 : k ≤ 9) : (IntKind.u64.wrap x).tmod k = u64w x % k ∧ 0 ≤ u64w x % k ∧ u64w x % k < k := by
  obtain ⟨h0, h1⟩ := u64w_bound x
  refine ⟨Int.tmod_eq_emod_of_nonneg h0, Int.emod_nonneg _ (by omega), Int.emod_lt_of_pos _ (by omega)⟩
theorem u64_small {x : Int} (h0 : 0 ≤ x) (h1 : x ≤ 18446744073709551615) : IntKind.u64.wrap x = x := by
  have e : IntKind.u64.wrap x = x % 18446744073709551616 := by simp [IntKind.wrap, IntKind.bits, IntKind.signed]
  rw [e]
  omega
/-- An operation, bent. -/
def growOp (n k : Nat) (o : OpD) : OpD :=
  if k < 2 then ⟨7, u64w o.a % n, u64w o.b % 4, 0⟩ else if o.kind.tmod 3 = 0 then ⟨2, 0, 0, 0⟩ else ⟨1, u64w o.a % 9, 1 + u64w o.b % 6, 1 + u64w o.c % 3⟩
def growL (n k : Nat) (l : List OpD) : List OpD := (l.take 8).map (growOp n k)
def grownJ (n : Nat) (LL : List (List OpD)) (j : Nat) : List (List OpD) := (List.range j).map fun k => growL n k (LL.getD k [])
def grownL (n : Nat) (LL : List (List OpD)) : List (List OpD) := grownJ n LL (min LL.length 4)
def flatO (l : List OpD) : List Value := l.flatMap fun o => [.int .i64 o.kind, .int .i64 o.a, .int .i64 o.b, .int .i64 o.c]
theorem flatO_snoc (l : List OpD) (o : OpD) : flatO (l ++ [o]) = flatO l ++ [.int .i64 o.kind, .int .i64 o.a, .int .i64 o.b, .int .i64 o.c] := by simp [flatO]
theorem growL_snoc (n k : Nat) (l : List OpD) {i : Nat} (h : i < (l.take 8).length) : ((l.take 8).take (i + 1)).map (growOp n k) = ((l.take 8).take i).map (growOp n k) ++ [growOp n k ((l.take 8)[i])] := by
  rw [List.take_succ_eq_append_getElem h, List.map_append]; rfl
/-- The rows of the threads so far. -/
structure GrW (w0 : World) (N n : Nat) (LL : List (List OpD)) (S : Nat → Value) (j : Nat) (v : Value) (w : World) : Prop where
  out : w.ownsRow N 92 1 v j ((List.range j).map S)
  row : ∀ k, k < j → w.ownsRow N 94 4 (S k) (growL n k (LL.getD k [])).length (flatO (growL n k (LL.getD k [])))
  low : Below N w0 w
  nw : N ≤ w.heap.size
theorem ownsRow_base {w : World} {base base' n : Nat} {e : TypeId} {sz : Nat} {v : Value} {ys : List Value} (hb : base' ≤ base) (h : w.ownsRow base e sz v n ys) : w.ownsRow base' e sz v n ys := ⟨h.1, h.2.imp id fun ⟨g, cp, cur, a1, a2, a3⟩ => ⟨g, cp, cur, a1, Nat.le_trans hb a2, a3⟩⟩
theorem ownsRow_below {w w' : World} {base n N : Nat} {e : TypeId} {sz : Nat} {v : Value} {ys : List Value} (hN : N = w.heap.size) (hb : Below N w w') (h : w.ownsRow base e sz v n ys) : w'.ownsRow base e sz v n ys :=
  ownsRow_keep h fun g o _ hh => (hb.block g (by rw [hN]; exact (Array.getElem?_eq_some_iff.1 hh).1)).trans hh
theorem grown_belowQ {N : Nat} {w0 w w1 : World} {v : Value} {xs : List Value} {n : Nat} {e : TypeId} {sz : Nat} (h : w.ownsRow N e sz v n xs) (hb : Below N w0 w) (hN : N ≤ w.heap.size) (hg : w.grownBy w1 v.ownBlock) : Below N w0 w1 := by
  refine ⟨hg.os.trans hb.os, hg.tape.trans hb.tape, hg.output.trans hb.output, Nat.le_trans hb.size hg.size, fun b hlt => ?_⟩
  refine (hg.block b (by omega) fun q => ?_).trans (hb.block b hlt)
  have := (h.lt b q.symm).1
  omega
theorem src_oneQ (w1 : World) (k a b c : Int) : SrcQ (w1.alloc (.cells #[.int .i64 k, .int .i64 a, .int .i64 b, .int .i64 c] 94)) (.slice (some ⟨w1.heap.size, 0, none⟩) 1 1) 1 [.int .i64 k, .int .i64 a, .int .i64 b, .int .i64 c] :=
  ⟨rfl, by intro u hu; simp at hu; rcases hu with rfl | rfl | rfl | rfl <;> rfl, .inr ⟨_, 1, rfl, fun j u hj => by
    have e : (⟨w1.heap.size, 0, none⟩ : Addr).add j = ⟨w1.heap.size, j, none⟩ := by simp [Addr.add]; try (intro h; exact h.symm)
    rw [e, cellAt (heap_alloc_new w1 (.cells #[.int .i64 k, .int .i64 a, .int .i64 b, .int .i64 c] 94)) j]
    simpa using hj⟩⟩
theorem GrW.below {w0 w w' : World} {N n : Nat} {LL : List (List OpD)} {S : Nat → Value} {j : Nat} {v : Value} (h : GrW w0 N n LL S j v w) (hb : Below w.heap.size w w') : GrW w0 N n LL S j v w' :=
  ⟨ownsRow_below rfl hb h.out, fun k hk => ownsRow_below rfl hb (h.row k hk), h.low.trans (hb.mono h.nw), Nat.le_trans h.nw hb.size⟩
theorem GrW.more {w0 w w1 : World} {N B n : Nat} {LL : List (List OpD)} {S : Nat → Value} {j : Nat} {v v' u : Value} (h : GrW w0 N n LL S j v w) (hB : N ≤ B) (hr : w.ownsRow B 94 4 u (growL n j (LL.getD j [])).length (flatO (growL n j (LL.getD j []))))
    (hA : Appended (w.alloc (.cells #[u] 92)) N 92 v j 1 (((List.range j).map S) ++ [u]) v' w1) : (∃ g cap, v' = .slice (some ⟨g, 0, none⟩) (j + 1) cap) ∧ GrW w0 N n LL (Go.ConcN.upd S j u) (j + 1) v' w1 := by
  obtain ⟨ho, hg, hsh⟩ := hA
  have h2 := h.out.alloc (.cells #[u] 92)
  have keep : ∀ {x : Value} {m : Nat} {ys : List Value}, w.ownsRow B 94 4 x m ys ∨ w.ownsRow N 94 4 x m ys → w1.ownsRow N 94 4 x m ys := fun {x m ys} hx => by
    have hx' : w.ownsRow N 94 4 x m ys := hx.elim (ownsRow_base hB) id
    have hx2 := hx'.alloc (.cells #[u] 92)
    refine ownsRow_keep hx2 fun g o hgo hh => (hg.block g (Array.getElem?_eq_some_iff.1 hh).1 fun z => ?_).trans hh
    obtain ⟨cc, hcc⟩ := ownsRow_type h2 z.symm
    obtain ⟨cd, hcd⟩ := ownsRow_type hx2 hgo
    rw [hcc] at hcd
    simp at hcd
  refine ⟨?_, ?_, fun k hk => ?_, grown_belowQ h2 (h.low.alloc h.nw _) (by have := h.nw; simp; omega) hg, by have := hg.size; have := h.nw; simp at *; omega⟩
  · rcases hsh with ⟨_, _, z, _⟩ | ⟨g, cap, e, _⟩
    · cases z
    · exact ⟨g, cap, e⟩
  · rw [List.range_succ, List.map_append]
    have e : (List.range j).map (Go.ConcN.upd S j u) = (List.range j).map S := List.map_congr_left fun i hi => by
      have := List.mem_range.1 hi
      rw [Go.ConcN.upd_ne _ _ (by omega)]
    rw [e]
    simp only [List.map_cons, List.map_nil, Go.ConcN.upd_same]
    exact ho
  · by_cases z : k = j
    · subst z
      rw [Go.ConcN.upd_same]
      exact keep (.inl hr)
    · rw [Go.ConcN.upd_ne _ _ z]
      exact keep (.inr (h.row k (by omega)))
def DoneGrown (n : Nat) (LL : List (List OpD)) (w : World) (e : Ending) (w' : World) : Prop := ∃ v S, e = .returned v ∧ GrW w w.heap.size n LL S (min LL.length 4) v w'
set_option maxRecDepth 100000 in
set_option maxHeartbeats 4000000 in
theorem grown_walk {n : Nat} (hn : 1 ≤ n ∧ n ≤ 4) {vt : Value} {LL : List (List OpD)} {w : World} (hT : ThrIn w vt LL) (hcap : ∀ a c, vt = .slice a LL.length c → LL.length ≤ c) (hLL : LL.length ≤ 1000000000) :
    Calls Try.prog 20 #[.int .i64 n, vt] w (DoneGrown n LL w) := by
  unfold DoneGrown
  obtain ⟨i94, hi94, a1, a2, a3⟩ := info_parts info94
  obtain ⟨i92, hi92, b1, b2, b3⟩ := info_parts info92
  obtain ⟨ta, tcap, rfl, ob, ln, cp, hta, hops⟩ := hT
  have hc0 := hcap _ _ rfl
  clear hcap
  obtain ⟨K, hK⟩ : ∃ K, K = min LL.length 4 := ⟨_, rfl⟩
  rw [← hK]
  have hKm : min (LL.length : Int) 4 = (K : Int) := by omega
  have hKc : (K : Int) ≤ (tcap : Int) := by omega
  have hKl : K ≤ LL.length := by omega
  have hK4 : K ≤ 4 := by omega
  replace hta := Lib.hid hta
  replace hops := Lib.hid hops
  replace hKm := Lib.hid hKm
  clear hK
  generalize hN : w.heap.size = N at *
  replace hN := Lib.hid hN
  have H0 : Hid (GrW w N n LL (fun _ => undef) 0 (.slice none 0 0) w) := Lib.hid ⟨World.ownsRow_nil _ _ _ _, fun k hk => by omega, Below.refl _ _, Nat.le_of_eq hN.out.symm⟩
  go_enter Try.func20, Try.ntmps20
  go_wp2_with (refine wpL_min rfl _ _ _ _ rfl LL.length 4 K rfl rfl hKm.out ?_)
  go_loopw [5, 18] (fun va iv wr => ∃ (j : Nat) (S : Nat → Value), j ≤ K ∧ iv = .int .i64 j ∧ Hid (GrW w N n LL S j va wr)) (fun _ iv _ => K - (intOf iv).toNat)
  case atStart => exact ⟨0, _, by omega, rfl, H0⟩
  case round =>
    obtain ⟨j, S, hj, rfl, HS⟩ := hrel
    obtain ⟨vp, vc, rfl⟩ := slice_of HS.out.out
    by_cases hlt : j < K
    · have hlt' : (j : Int) < (K : Int) := by omega
      have hLj : LL[j]? = some (LL.getD j []) := by
        rw [List.getD_eq_getElem?_getD, List.getElem?_eq_getElem (by omega)]
        rfl
      obtain ⟨tb, tof, rfl, hcells⟩ := hta.out (by intro z; rw [z] at hKl; simp at hKl; omega)
      have hc := hcells j _ hLj
      have hin : wr.cell? ⟨tb, tof + j, none⟩ = some (.slice (ob j) (ln j) (cp j)) := by
        have hb := World.block_lt_of_cell? w _ hc
        simp only at hb
        rw [hN.out] at hb
        exact (World.cell?_of_block (w := w) (HS.out.low.block _ hb)).trans hc
      clear hcells hc
      obtain ⟨hOk, hln, hcj, hob⟩ := hops.out j _ hLj
      generalize hL : LL.getD j [] = L at *
      replace hL := Lib.hid hL
      obtain ⟨KK, hKK⟩ : ∃ KK, KK = min (ln j) 8 := ⟨_, rfl⟩
      have hKKm0 : min ((ln j : Nat) : Int) 8 = (KK : Int) := by omega
      have hKKm := Lib.hid hKKm0
      clear hKKm0
      have hKKc : (KK : Int) ≤ (cp j : Int) := by omega
      have hKKl : KK ≤ ln j := by omega
      have hKK8 : KK ≤ 8 := by omega
      have hTk : (L.take 8).length = KK := by rw [List.length_take]; omega
      replace hTk := Lib.hid hTk
      replace hOk := Lib.hid hOk
      replace hob := Lib.hid hob
      clear hKK
      generalize ob j = obj at *
      generalize cp j = cpj at *
      generalize hlnj : ln j = lnj at *
      clear hlnj
      subst hln
      generalize hwo : wr = wo at *
      clear hwo
      have hNr := Lib.hid HS.out.nw
      have e1 : IntKind.i64.wrap ((j : Int) + 1) = ((j + 1 : Nat) : Int) := by rw [IntKind.wrap_i64]; omega
      go_wp2_with (refine wpL_min rfl _ _ _ _ rfl L.length 8 KK rfl rfl hKKm.out ?_)
      go_loopw [8, 29] (fun va iv wl => ∃ (i : Nat), i ≤ KK ∧ iv = .int .i64 i ∧ Hid (wl.ownsRow wo.heap.size 94 4 va i (flatO (((L.take 8).take i).map (growOp n j)))) ∧ Hid (Below wo.heap.size wo wl)) (fun _ iv _ => KK - (intOf iv).toNat)
      case atStart => exact ⟨0, by omega, rfl, Lib.hid (World.ownsRow_nil _ _ _ _), Lib.hid (Below.refl _ _)⟩
      case round =>
        obtain ⟨i, hi, rfl, HR, HB⟩ := hrel
        obtain ⟨rp, rc, rfl⟩ := slice_of HR.out
        by_cases hil : i < KK
        · have hil' : (i : Int) < (KK : Int) := by omega
          obtain ⟨p, hp⟩ : ∃ p, L[i]? = some p := ⟨_, List.getElem?_eq_getElem (by omega)⟩
          obtain ⟨pb, po, rfl, hpc⟩ := hob.out (by intro z; rw [z] at hp; simp at hp)
          obtain ⟨q0, q1, q2, q3⟩ := hpc i p hp
          have up : ∀ {k : Nat} {v : Value}, w.cell? ⟨pb, k, none⟩ = some v → wr.cell? ⟨pb, k, none⟩ = some v := fun {k v} hv => by
            have hb := World.block_lt_of_cell? w _ hv
            simp only at hb
            have hb2 : pb < wo.heap.size := by have := hNr.out; have := hN.out; omega
            rw [hN.out] at hb
            exact (World.cell?_of_block (w := wo) (HB.out.block _ hb2)).trans ((World.cell?_of_block (w := w) (HS.out.low.block _ hb)).trans hv)
          replace q0 := up q0
          replace q1 := up q1
          replace q2 := up q2
          replace q3 := up q3
          clear up hpc
          have hpO : p.Ok := hOk.out p (List.mem_of_getElem? hp)
          replace hp := Lib.hid hp
          obtain ⟨pk, pa, pb', pc⟩ := p
          simp only at q0 q1 q2 q3
          go_upto_region 9 with fail
          have E1 := heap_alloc_new wr (.cells #[.int .i64 pk, .int .i64 pa, .int .i64 pb', .int .i64 pc] 94)
          have S1 : (wr.alloc (.cells #[.int .i64 pk, .int .i64 pa, .int .i64 pb', .int .i64 pc] 94)).heap.size = wr.heap.size + 1 := by simp
          have HB1 : Below wo.heap.size wo (wr.alloc (.cells #[.int .i64 pk, .int .i64 pa, .int .i64 pb', .int .i64 pc] 94)) := HB.out.alloc HB.out.size _
          have HR1 := HR.out.alloc (.cells #[.int .i64 pk, .int .i64 pa, .int .i64 pb', .int .i64 pc] 94)
          clear q0 q1 q2 q3
          generalize wr.alloc (.cells #[.int .i64 pk, .int .i64 pa, .int .i64 pb', .int .i64 pc] 94) = w1 at *
          generalize hM : wr.heap.size = M at *
          have q0 : w1.cell? ⟨M, 0, none⟩ = some (.int .i64 pk) := by rw [cellAt E1 0]; rfl
          have q1 : w1.cell? ⟨M, 1, none⟩ = some (.int .i64 pa) := by rw [cellAt E1 1]; rfl
          have q2 : w1.cell? ⟨M, 2, none⟩ = some (.int .i64 pb') := by rw [cellAt E1 2]; rfl
          have q3 : w1.cell? ⟨M, 3, none⟩ = some (.int .i64 pc) := by rw [cellAt E1 3]; rfl
          replace HB1 := Lib.hid HB1
          replace HR1 := Lib.hid HR1
          replace S1 := Lib.hid S1
          replace E1 := Lib.hid E1
          clear HR HB hM wr
          have en : IntKind.u64.wrap (n : Int) = (n : Int) := u64_small (by omega) (by omega)
          have hn0 : ¬ (n : Int) = 0 := by omega
          obtain ⟨ma, ma0, ma1⟩ := u64_rem pa (k := n) (by omega) (by omega)
          obtain ⟨mb, mb0, mb1⟩ := u64_rem pb' (k := 4) (by omega) (by omega)
          have al : ∀ {k : Nat} {v : Value} (o : Obj), w1.cell? ⟨M, k, none⟩ = some v → (w1.alloc o).cell? ⟨M, k, none⟩ = some v := fun {k v} o hv => (World.cell?_of_block (w := w1) (Below.heap_alloc _ _ _ (World.block_lt_of_cell? w1 _ hv))).trans hv
          have r0 := al (.cells #[.int .i64 0, .int .i64 0, .int .i64 0, .int .i64 0] 94) q0
          have r1 := al (.cells #[.int .i64 0, .int .i64 0, .int .i64 0, .int .i64 0] 94) q1
          have r2 := al (.cells #[.int .i64 0, .int .i64 0, .int .i64 0, .int .i64 0] 94) q2
          have r3 := al (.cells #[.int .i64 0, .int .i64 0, .int .i64 0, .int .i64 0] 94) q3
          have sz2 : w1.heap.size = M + 1 := S1.out
          generalize hga : u64w pa % n = ga at *
          generalize hgb : u64w pb' % 4 = gb at *
          by_cases h2 : j < 2
          · have h2' : ¬ (2 : Int) ≤ (j : Int) := by omega
            go_region
            have HBw0 : Below wo.heap.size wo (w1.alloc (.cells #[.int .i64 7, .int .i64 ga, .int .i64 gb, .int .i64 0] 94)).drew := (HB1.out.alloc HB1.out.size (.cells #[.int .i64 7, .int .i64 ga, .int .i64 gb, .int .i64 0] 94)).drew
            have HRw0 : (w1.alloc (.cells #[.int .i64 7, .int .i64 ga, .int .i64 gb, .int .i64 0] 94)).drew.ownsRow wo.heap.size 94 4 (.slice rp i rc) i (flatO (((L.take 8).take i).map (growOp n j))) := HR1.out.alloc _
            have E2 : (w1.alloc (.cells #[.int .i64 7, .int .i64 ga, .int .i64 gb, .int .i64 0] 94)).drew.heap[M + 1]? = some (.cells #[.int .i64 7, .int .i64 ga, .int .i64 gb, .int .i64 0] 94 (0, 0)) := by rw [← sz2]; exact heap_alloc_new _ _
            generalize (w1.alloc (.cells #[.int .i64 7, .int .i64 ga, .int .i64 gb, .int .i64 0] 94)).drew = W at *
            have c0 : W.cell? ⟨M + 1, 0, none⟩ = some (.int .i64 7) := by rw [cellAt E2 0]; rfl
            have c1 : W.cell? ⟨M + 1, 1, none⟩ = some (.int .i64 ga) := by rw [cellAt E2 1]; rfl
            have c2 : W.cell? ⟨M + 1, 2, none⟩ = some (.int .i64 gb) := by rw [cellAt E2 2]; rfl
            have c3 : W.cell? ⟨M + 1, 3, none⟩ = some (.int .i64 0) := by rw [cellAt E2 3]; rfl
            have HBw := Lib.hid HBw0
            have HRw := Lib.hid HRw0
            clear HBw0 HRw0 E2 q0 q1 q2 q3 r0 r1 r2 r3 al
            have HSx := Lib.hid (src_oneQ W (7) (ga) (gb) (0))
            have HO1 := Lib.hid (HRw.out.alloc (.cells #[.int .i64 (7), .int .i64 (ga), .int .i64 (gb), .int .i64 (0)] 94))
            have HG : Hid (flatO (((L.take 8).take (i + 1)).map (growOp n j)) = flatO (((L.take 8).take i).map (growOp n j)) ++ [.int .i64 (7), .int .i64 (ga), .int .i64 (gb), .int .i64 (0)]) := by
              have hi8 : i < (L.take 8).length := by rw [hTk.out]; exact hil
              have hp8 : (L.take 8)[i] = ⟨pk, pa, pb', pc⟩ := by
                have := List.getElem?_eq_some_iff.1 hp.out
                obtain ⟨_, hh⟩ := this
                rw [List.getElem_take]; exact hh
              have hgo : growOp n j ⟨pk, pa, pb', pc⟩ = ⟨7, ga, gb, 0⟩ := by unfold growOp; rw [if_pos h2]; simp only [hga, hgb]
              rw [growL_snoc n j L hi8, hp8, flatO_snoc, hgo]
              first | done | rfl
            clear hp
            go_wp2_with (at_builtin; (refine wpList_append_rowQ rfl (.tmp 71) (.tmp 73) 92 rfl wo.heap.size 94 i94 _ _ Try.underlying92 hi94 a1 a2 a3 rfl (.slice rp i rc) i _ rfl HO1.out 1 _ HSx.out ?l2 ?b2 ?n2 ?_); (case l2 => (unfold maxLen; omega)); (case b2 => omega); (case n2 => (have h1 := HBw.out.size; simp; omega)); intro v' w9 ha; obtain ⟨ho, hg, hsh⟩ := ha; have HH := Lib.hid ho; have HB9 := Lib.hid (grown_belowQ HO1.out (HBw.out.alloc HBw.out.size _) (by have h1 := HBw.out.size; simp; omega) hg); clear ho hg hsh)
            refine ⟨⟨i + 1, by omega, by rw [Int.natCast_add]; rfl, ?_, HB9⟩, by simp [intOf]; omega⟩
            rw [HG.out]
            exact HH
          · have h2' : (2 : Int) ≤ (j : Int) := by omega
            obtain ⟨md, md0, md1⟩ := u64_rem pa (k := 9) (by omega) (by omega)
            obtain ⟨me, me0, me1⟩ := u64_rem pb' (k := 6) (by omega) (by omega)
            obtain ⟨mf, mf0, mf1⟩ := u64_rem pc (k := 3) (by omega) (by omega)
            generalize hgd : u64w pa % 9 = gd at *
            generalize hge : u64w pb' % 6 = ge at *
            generalize hgf : u64w pc % 3 = gf at *
            go_region
            have HBw0 : Below wo.heap.size wo (w1.alloc (.cells #[.int .i64 7, .int .i64 ga, .int .i64 gb, .int .i64 0] 94)).drew := (HB1.out.alloc HB1.out.size (.cells #[.int .i64 7, .int .i64 ga, .int .i64 gb, .int .i64 0] 94)).drew
            have HRw0 : (w1.alloc (.cells #[.int .i64 7, .int .i64 ga, .int .i64 gb, .int .i64 0] 94)).drew.ownsRow wo.heap.size 94 4 (.slice rp i rc) i (flatO (((L.take 8).take i).map (growOp n j))) := HR1.out.alloc _
            have E2 : (w1.alloc (.cells #[.int .i64 7, .int .i64 ga, .int .i64 gb, .int .i64 0] 94)).drew.heap[M + 1]? = some (.cells #[.int .i64 7, .int .i64 ga, .int .i64 gb, .int .i64 0] 94 (0, 0)) := by rw [← sz2]; exact heap_alloc_new _ _
            have E1' : (w1.alloc (.cells #[.int .i64 7, .int .i64 ga, .int .i64 gb, .int .i64 0] 94)).drew.heap[M]? = some (.cells #[.int .i64 pk, .int .i64 pa, .int .i64 pb', .int .i64 pc] 94 (0, 0)) := (Below.heap_alloc _ _ _ (by rw [sz2]; omega)).trans E1.out
            have hMw : wo.heap.size ≤ M + 1 := by have := HB1.out.size; rw [sz2] at this; exact this
            have hrne : ∀ g, (Value.slice rp i rc).ownBlock = some g → g ≠ M + 1 := fun g hg => by have := (HR1.out.lt g hg).2; omega
            replace hrne := Lib.hid hrne
            replace hMw := Lib.hid hMw
            clear q0 q1 q2 q3 r0 r1 r2 r3 al
            generalize (w1.alloc (.cells #[.int .i64 7, .int .i64 ga, .int .i64 gb, .int .i64 0] 94)).drew = W at *
            have c0 : W.cell? ⟨M + 1, 0, none⟩ = some (.int .i64 7) := by rw [cellAt E2 0]; rfl
            have c1 : W.cell? ⟨M + 1, 1, none⟩ = some (.int .i64 ga) := by rw [cellAt E2 1]; rfl
            have c2 : W.cell? ⟨M + 1, 2, none⟩ = some (.int .i64 gb) := by rw [cellAt E2 2]; rfl
            have c3 : W.cell? ⟨M + 1, 3, none⟩ = some (.int .i64 0) := by rw [cellAt E2 3]; rfl
            have q0 : W.cell? ⟨M, 0, none⟩ = some (.int .i64 pk) := by rw [cellAt E1' 0]; rfl
            have q1 : W.cell? ⟨M, 1, none⟩ = some (.int .i64 pa) := by rw [cellAt E1' 1]; rfl
            have q2 : W.cell? ⟨M, 2, none⟩ = some (.int .i64 pb') := by rw [cellAt E1' 2]; rfl
            have q3 : W.cell? ⟨M, 3, none⟩ = some (.int .i64 pc) := by rw [cellAt E1' 3]; rfl
            have f0 := freeAt E2 0
            have f1 := freeAt E2 1
            have f2 := freeAt E2 2
            have f3 := freeAt E2 3
            have HBw := Lib.hid HBw0
            have HRw := Lib.hid HRw0
            clear HBw0 HRw0
            by_cases hk3 : pk.tmod 3 = 0
            · go_upto_region 14 with fail
              obtain ⟨x1, x2, x3⟩ := set4 (x := .int .i64 1) (y := .int .i64 gd) (z := .int .i64 (1 + ge)) (u := .int .i64 (1 + gf)) E2
              have HBv0 : Below wo.heap.size wo ((((W.setCell ⟨M + 1, 0, none⟩ (.int .i64 (1))).setCell ⟨M + 1, 1, none⟩ (.int .i64 (gd))).setCell ⟨M + 1, 2, none⟩ (.int .i64 (1 + ge))).setCell ⟨M + 1, 3, none⟩ (.int .i64 (1 + gf))) := (((HBw.out.setCell hMw.out _).setCell hMw.out _).setCell hMw.out _).setCell hMw.out _
              have HRv0 : World.ownsRow ((((W.setCell ⟨M + 1, 0, none⟩ (.int .i64 (1))).setCell ⟨M + 1, 1, none⟩ (.int .i64 (gd))).setCell ⟨M + 1, 2, none⟩ (.int .i64 (1 + ge))).setCell ⟨M + 1, 3, none⟩ (.int .i64 (1 + gf))) wo.heap.size 94 4 (.slice rp i rc) i (flatO (((L.take 8).take i).map (growOp n j))) := ownsRow_keep HRw.out fun g o hg hh => (x2 g (hrne.out g hg)).trans hh
              clear q0 q1 q2 q3 c0 c1 c2 c3 f0 f1 f2 f3
              generalize ((((W.setCell ⟨M + 1, 0, none⟩ (.int .i64 (1))).setCell ⟨M + 1, 1, none⟩ (.int .i64 (gd))).setCell ⟨M + 1, 2, none⟩ (.int .i64 (1 + ge))).setCell ⟨M + 1, 3, none⟩ (.int .i64 (1 + gf))) = V at *
              obtain ⟨y1, y2, y3⟩ := set4 (x := .int .i64 2) (y := .int .i64 0) (z := .int .i64 0) (u := .int .i64 0) x1
              have HBu0 : Below wo.heap.size wo ((((V.setCell ⟨M + 1, 0, none⟩ (.int .i64 (2))).setCell ⟨M + 1, 1, none⟩ (.int .i64 (0))).setCell ⟨M + 1, 2, none⟩ (.int .i64 (0))).setCell ⟨M + 1, 3, none⟩ (.int .i64 (0))) := (((HBv0.setCell hMw.out _).setCell hMw.out _).setCell hMw.out _).setCell hMw.out _
              have HRu0 : World.ownsRow ((((V.setCell ⟨M + 1, 0, none⟩ (.int .i64 (2))).setCell ⟨M + 1, 1, none⟩ (.int .i64 (0))).setCell ⟨M + 1, 2, none⟩ (.int .i64 (0))).setCell ⟨M + 1, 3, none⟩ (.int .i64 (0))) wo.heap.size 94 4 (.slice rp i rc) i (flatO (((L.take 8).take i).map (growOp n j))) := ownsRow_keep HRv0 fun g o hg hh => (y2 g (hrne.out g hg)).trans hh
              clear HBv0 HRv0 x1 x2 x3
              generalize ((((V.setCell ⟨M + 1, 0, none⟩ (.int .i64 (2))).setCell ⟨M + 1, 1, none⟩ (.int .i64 (0))).setCell ⟨M + 1, 2, none⟩ (.int .i64 (0))).setCell ⟨M + 1, 3, none⟩ (.int .i64 (0))) = U at *
              clear HBw HRw E2 E1' y2 y3 V
              have HBv := Lib.hid HBu0
              have HRv := Lib.hid HRu0
              clear HBu0 HRu0
              have x1 := y1
              clear y1
              have c0 : U.cell? ⟨M + 1, 0, none⟩ = some (.int .i64 (2)) := by rw [cellAt x1 0]; rfl
              have c1 : U.cell? ⟨M + 1, 1, none⟩ = some (.int .i64 (0)) := by rw [cellAt x1 1]; rfl
              have c2 : U.cell? ⟨M + 1, 2, none⟩ = some (.int .i64 (0)) := by rw [cellAt x1 2]; rfl
              have c3 : U.cell? ⟨M + 1, 3, none⟩ = some (.int .i64 (0)) := by rw [cellAt x1 3]; rfl
              clear x1
              have HSx := Lib.hid (src_oneQ U (2) (0) (0) (0))
              have HO1 := Lib.hid (HRv.out.alloc (.cells #[.int .i64 (2), .int .i64 (0), .int .i64 (0), .int .i64 (0)] 94))
              have HG : Hid (flatO (((L.take 8).take (i + 1)).map (growOp n j)) = flatO (((L.take 8).take i).map (growOp n j)) ++ [.int .i64 (2), .int .i64 (0), .int .i64 (0), .int .i64 (0)]) := by
                have hi8 : i < (L.take 8).length := by rw [hTk.out]; exact hil
                have hp8 : (L.take 8)[i] = ⟨pk, pa, pb', pc⟩ := by
                  have := List.getElem?_eq_some_iff.1 hp.out
                  obtain ⟨_, hh⟩ := this
                  rw [List.getElem_take]; exact hh
                have hgo : growOp n j ⟨pk, pa, pb', pc⟩ = ⟨2, 0, 0, 0⟩ := by unfold growOp; rw [if_neg h2, if_pos hk3]
                rw [growL_snoc n j L hi8, hp8, flatO_snoc, hgo]
                first | done | rfl
              clear hp
              go_wp2_with (at_builtin; (refine wpList_append_rowQ rfl (.tmp 71) (.tmp 73) 92 rfl wo.heap.size 94 i94 _ _ Try.underlying92 hi94 a1 a2 a3 rfl (.slice rp i rc) i _ rfl HO1.out 1 _ HSx.out ?l2 ?b2 ?n2 ?_); (case l2 => (unfold maxLen; omega)); (case b2 => omega); (case n2 => (have h1 := HBv.out.size; simp; omega)); intro v' w9 ha; obtain ⟨ho, hg, hsh⟩ := ha; have HH := Lib.hid ho; have HB9 := Lib.hid (grown_belowQ HO1.out (HBv.out.alloc HBv.out.size _) (by have h1 := HBv.out.size; simp; omega) hg); clear ho hg hsh)
              refine ⟨⟨i + 1, by omega, by rw [Int.natCast_add]; rfl, ?_, HB9⟩, by simp [intOf]; omega⟩
              rw [HG.out]
              exact HH
            · go_upto_region 14 with fail
              obtain ⟨x1, x2, x3⟩ := set4 (x := .int .i64 1) (y := .int .i64 gd) (z := .int .i64 (1 + ge)) (u := .int .i64 (1 + gf)) E2
              have HBv0 : Below wo.heap.size wo ((((W.setCell ⟨M + 1, 0, none⟩ (.int .i64 (1))).setCell ⟨M + 1, 1, none⟩ (.int .i64 (gd))).setCell ⟨M + 1, 2, none⟩ (.int .i64 (1 + ge))).setCell ⟨M + 1, 3, none⟩ (.int .i64 (1 + gf))) := (((HBw.out.setCell hMw.out _).setCell hMw.out _).setCell hMw.out _).setCell hMw.out _
              have HRv0 : World.ownsRow ((((W.setCell ⟨M + 1, 0, none⟩ (.int .i64 (1))).setCell ⟨M + 1, 1, none⟩ (.int .i64 (gd))).setCell ⟨M + 1, 2, none⟩ (.int .i64 (1 + ge))).setCell ⟨M + 1, 3, none⟩ (.int .i64 (1 + gf))) wo.heap.size 94 4 (.slice rp i rc) i (flatO (((L.take 8).take i).map (growOp n j))) := ownsRow_keep HRw.out fun g o hg hh => (x2 g (hrne.out g hg)).trans hh
              clear q0 q1 q2 q3 c0 c1 c2 c3 f0 f1 f2 f3
              generalize ((((W.setCell ⟨M + 1, 0, none⟩ (.int .i64 (1))).setCell ⟨M + 1, 1, none⟩ (.int .i64 (gd))).setCell ⟨M + 1, 2, none⟩ (.int .i64 (1 + ge))).setCell ⟨M + 1, 3, none⟩ (.int .i64 (1 + gf))) = V at *
              have HBv := Lib.hid HBv0
              have HRv := Lib.hid HRv0
              clear HBv0 HRv0 x2 x3 HBw HRw E2 E1'
              have c0 : V.cell? ⟨M + 1, 0, none⟩ = some (.int .i64 (1)) := by rw [cellAt x1 0]; rfl
              have c1 : V.cell? ⟨M + 1, 1, none⟩ = some (.int .i64 (gd)) := by rw [cellAt x1 1]; rfl
              have c2 : V.cell? ⟨M + 1, 2, none⟩ = some (.int .i64 (1 + ge)) := by rw [cellAt x1 2]; rfl
              have c3 : V.cell? ⟨M + 1, 3, none⟩ = some (.int .i64 (1 + gf)) := by rw [cellAt x1 3]; rfl
              clear x1
              have HSx := Lib.hid (src_oneQ V (1) (gd) (1 + ge) (1 + gf))
              have HO1 := Lib.hid (HRv.out.alloc (.cells #[.int .i64 (1), .int .i64 (gd), .int .i64 (1 + ge), .int .i64 (1 + gf)] 94))
              have HG : Hid (flatO (((L.take 8).take (i + 1)).map (growOp n j)) = flatO (((L.take 8).take i).map (growOp n j)) ++ [.int .i64 (1), .int .i64 (gd), .int .i64 (1 + ge), .int .i64 (1 + gf)]) := by
                have hi8 : i < (L.take 8).length := by rw [hTk.out]; exact hil
                have hp8 : (L.take 8)[i] = ⟨pk, pa, pb', pc⟩ := by
                  have := List.getElem?_eq_some_iff.1 hp.out
                  obtain ⟨_, hh⟩ := this
                  rw [List.getElem_take]; exact hh
                have hgo : growOp n j ⟨pk, pa, pb', pc⟩ = ⟨1, gd, 1 + ge, 1 + gf⟩ := by unfold growOp; rw [if_neg h2, if_neg hk3]; simp only [hgd, hge, hgf]
                rw [growL_snoc n j L hi8, hp8, flatO_snoc, hgo]
                first | done | rfl
              clear hp
              go_wp2_with (at_builtin; (refine wpList_append_rowQ rfl (.tmp 71) (.tmp 73) 92 rfl wo.heap.size 94 i94 _ _ Try.underlying92 hi94 a1 a2 a3 rfl (.slice rp i rc) i _ rfl HO1.out 1 _ HSx.out ?l2 ?b2 ?n2 ?_); (case l2 => (unfold maxLen; omega)); (case b2 => omega); (case n2 => (have h1 := HBv.out.size; simp; omega)); intro v' w9 ha; obtain ⟨ho, hg, hsh⟩ := ha; have HH := Lib.hid ho; have HB9 := Lib.hid (grown_belowQ HO1.out (HBv.out.alloc HBv.out.size _) (by have h1 := HBv.out.size; simp; omega) hg); clear ho hg hsh)
              refine ⟨⟨i + 1, by omega, by rw [Int.natCast_add]; rfl, ?_, HB9⟩, by simp [intOf]; omega⟩
              rw [HG.out]
              exact HH
        · have hil' : ¬ (i : Int) < (KK : Int) := by omega
          obtain rfl : i = KK := by omega
          have HW := Lib.hid (HS.out.below HB.out)
          have HSx := Lib.hid (src_one2 wr (.slice rp i rc) 92 rfl)
          have HO1 := Lib.hid (HW.out.out.alloc (.cells #[.slice rp i rc] 92))
          have hT8 : (L.take 8).take i = L.take 8 := List.take_of_length_le (by rw [hTk.out]; exact Nat.le_refl _)
          have hrr : wr.ownsRow wo.heap.size 94 4 (.slice rp i rc) (growL n j (LL.getD j [])).length (flatO (growL n j (LL.getD j []))) := by
            have := HR.out
            rw [hT8] at this
            rw [hL.out]
            unfold growL
            rw [List.length_map, hTk.out]
            exact this
          have HT := Lib.hid (fun v' w1 ha => HW.out.more (v' := v') (w1 := w1) hNr.out hrr ha)
          have hNw := Lib.hid HW.out.nw
          clear hrr hT8
          go_wp2_with (at_builtin; (refine wpList_append_row rfl (.tmp 76) (.tmp 78) 56 rfl N 92 i92 _ _ Try.underlying56 hi92 b1 b2 b3 rfl (.slice vp j vc) j _ rfl HO1.out 1 _ HSx.out ?l2 ?b2 ?n2 ?_); (case l2 => (unfold maxLen; omega)); (case b2 => omega); (case n2 => (have h1 := hNw.out; simp; omega)); intro v' w1 ha; obtain ⟨⟨g, cap, rfl⟩, hH2⟩ := HT.out _ _ ha; have HH := Lib.hid hH2; clear hH2 ha)
          refine ⟨⟨j + 1, _, by omega, by rw [Int.natCast_add]; rfl, HH⟩, by simp [intOf]; omega⟩
    · have hlt' : ¬ (j : Int) < (K : Int) := by omega
      obtain rfl : j = K := by omega
      go_wp2_with fail
      go_ret
      exact ⟨_, rfl, S, HS.out⟩
end Go.Proofs.Ytimkkeomdkbcjaa

/-
  far (f21), alone: where the trace is as it should be it tells true. No condition of its own.
-/
namespace Go.Proofs.Ytimkkeomdkbcjaa
open Go.Conc Go.RowKit
set_option linter.unusedVariables false
set_option linter.unusedSimpArgs false

def minJ (f : Nat → Int) : Nat → Int
  | 0 => f 0
  | j + 1 => min (minJ f j) (f j)
def sumJ (f : Nat → Int) : Nat → Int
  | 0 => 0
  | j + 1 => sumJ f j + f j
def addB (o : OpD) : Int := if o.kind = 7 then o.b else 0
def oD : OpD := ⟨0, 0, 0, 0⟩
def opA (L : List OpD) (i : Nat) : OpD := L.getD i oD
def ansA (A : List (Bool × Int)) (i : Nat) : Bool × Int := A.getD i (false, 0)
def lastJ (first : Int) (L : List OpD) (A : List (Bool × Int)) : Nat → Int
  | 0 => first
  | i + 1 => if (opA L i).kind = 7 then lastJ first L A i else if (ansA A i).1 then max (lastJ first L A i) (ansA A i).2 else lastJ first L A i
/-- What is told of an operation is as it should be. -/
def OkStep (least first : Int) (nw : Nat) (last : Int) (o : OpD) (a : Bool × Int) : Prop :=
  (o.kind = 7 ∧ 0 ≤ o.b ∧ o.b ≤ 3) ∨ (o.kind = 2 ∧ a.1 = true ∧ last ≤ a.2 ∧ a.2 ≤ least ∧ first ≤ a.2) ∨ (o.kind = 1 ∧ a.1 = true ∧ a.2 ≤ least ∧ first ≤ a.2 ∧ o.a ≤ a.2) ∨ (o.kind = 1 ∧ a.1 = false ∧ a.2 = 4 ∧ ¬ ((nw : Int) ≤ o.b ∧ o.a ≤ first))
structure FarOk (ws : List Int) (LL : List (List OpD)) (T : Tr) : Prop where
  stuck : T.stuck = false
  ans : T.ans.length = LL.length
  st : T.st.length = ws.length + 1
  al : T.st.getD ws.length 0 = 0
  nw : 1 ≤ ws.length ∧ ws.length ≤ 4
  nt : LL.length ≤ 4
  bnd : ∀ i, i < ws.length → 0 ≤ ws.getD i 0 ∧ ws.getD i 0 ≤ T.st.getD i 0 ∧ T.st.getD i 0 ≤ 1000
  len : ∀ k, k < LL.length → (T.ans.getD k []).length = (LL.getD k []).length ∧ (LL.getD k []).length ≤ 8
  ok : ∀ k i, k < LL.length → i < (LL.getD k []).length → OkStep (minJ (fun i => T.st.getD i 0) ws.length) (minJ (fun i => ws.getD i 0) ws.length) ws.length (lastJ (minJ (fun i => ws.getD i 0) ws.length) (LL.getD k []) (T.ans.getD k []) i) (opA (LL.getD k []) i) (ansA (T.ans.getD k []) i)
  sum : sumJ (fun i => T.st.getD i 0 - ws.getD i 0) ws.length = sumJ (fun k => sumJ (fun i => addB (opA (LL.getD k []) i)) (LL.getD k []).length) LL.length
theorem sumJ_bound {f : Nat → Int} {lo hi : Int} {n : Nat} (h : ∀ i, i < n → lo ≤ f i ∧ f i ≤ hi) (hlo : lo ≤ 0) (hhi : 0 ≤ hi) : ∀ j, j ≤ n → lo * j ≤ sumJ f j ∧ sumJ f j ≤ hi * j
  | 0, _ => by simp [sumJ]
  | j + 1, hj => by
    have := sumJ_bound h hlo hhi j (by omega)
    have h2 := h j (by omega)
    simp only [sumJ]
    push_cast
    rw [Int.mul_add, Int.mul_add]
    omega
theorem minJ_le (f : Nat → Int) : ∀ j i, i < j → minJ f j ≤ f i
  | j + 1, i, h => by
    by_cases e : i = j
    · subst e; simp only [minJ]; omega
    · have := minJ_le f j i (by omega)
      simp only [minJ]; omega
theorem le_minJ (f : Nat → Int) {x : Int} : ∀ j, 0 < j → (∀ i, i < j → x ≤ f i) → x ≤ minJ f j
  | 1, _, h => by have := h 0 (by omega); simp only [minJ]; omega
  | j + 2, _, h => by
    have := le_minJ f (j + 1) (by omega) fun i hi => h i (by omega)
    have h2 := h (j + 1) (by omega)
    simp only [minJ] at this ⊢
    omega
theorem minJ_bound {f : Nat → Int} {lo hi : Int} {n : Nat} (hn : 0 < n) (h : ∀ i, i < n → lo ≤ f i ∧ f i ≤ hi) : ∀ j, j ≤ n → lo ≤ minJ f j ∧ minJ f j ≤ hi
  | 0, _ => h 0 hn
  | j + 1, hj => by
    have h1 := minJ_bound hn h j (by omega)
    have h2 := h j (by omega)
    simp only [minJ]
    omega
theorem cell_below {N : Nat} {w w' : World} (hb : Below N w w') (hN : w.heap.size = N) {a : Addr} {v : Value} (h : w.cell? a = some v) : w'.cell? a = some v :=
  (World.cell?_of_block (w := w) (hb.block _ (by rw [← hN]; exact World.block_lt_of_cell? w _ h))).trans h
set_option maxRecDepth 100000 in
set_option maxHeartbeats 4000000 in
theorem far_walk {ws : List Int} {LL : List (List OpD)} {T : Tr} {vw vt vr : Value} {w : World} (hF : FarOk ws LL T) (hW : IntsIn w vw ws) (hT : ThrIn w vt LL) (hR : TrIn w vr T) :
    Calls Try.prog 21 #[vw, vt, vr] w fun e w' => e = .returned (.bool true) ∧ Below w.heap.size w w' := by
  obtain ⟨hWi, wa, wcap, rfl, hwc, hwa⟩ := hW
  obtain ⟨ta, tcap, rfl, ob, ln, cp, hta, hops⟩ := hT
  obtain ⟨va, vo, vs, rfl, ⟨aa, acap, rfl, haa⟩, ⟨oa, ocap, rfl, hoa⟩, ⟨sa, scap, rfl, hsa⟩⟩ := hR
  have hn := hF.nw
  obtain ⟨wb, wof, rfl, hwb⟩ := hwa (by intro z; rw [z] at hn; simp at hn)
  obtain ⟨sb, sof, rfl, hsb⟩ := hsa (by intro z; have := hF.st; rw [z] at this; simp at this)
  have hwl := fun i (hi : i < ws.length) => hwb i (ws.getD i 0) (by rw [List.getD_eq_getElem?_getD, List.getElem?_eq_getElem hi]; rfl)
  have hsl := fun i (hi : i < ws.length + 1) => hsb i (T.st.getD i 0) (by rw [List.getD_eq_getElem?_getD, List.getElem?_eq_getElem (by rw [hF.st]; exact hi)]; rfl)
  clear hwa hsa hwb hsb hoa
  rw [hF.st, hF.stuck, hF.ans]
  replace hwl := Lib.hid hwl
  replace hsl := Lib.hid hsl
  replace haa := Lib.hid haa
  replace hta := Lib.hid hta
  replace hops := Lib.hid hops
  obtain ⟨nw, hnw⟩ : ∃ nw, nw = ws.length := ⟨_, rfl⟩
  have hmx := hF.bnd
  obtain ⟨f1, hf1⟩ : ∃ f1 : Nat → Int, f1 = fun i => T.st.getD i 0 := ⟨_, rfl⟩
  obtain ⟨f2, hf2⟩ : ∃ f2 : Nat → Int, f2 = fun i => ws.getD i 0 := ⟨_, rfl⟩
  have hmx' : ∀ i, i < nw → 0 ≤ f2 i ∧ f2 i ≤ f1 i ∧ f1 i ≤ 1000 := by subst hnw; subst hf1; subst hf2; exact hmx
  have k1 : ∀ i, i < nw + 1 → w.cell? ⟨sb, sof + i, none⟩ = some (.int .i64 (f1 i)) := by subst hnw; subst hf1; exact hsl.out
  have k2 : ∀ i, i < nw → w.cell? ⟨wb, wof + i, none⟩ = some (.int .i64 (f2 i)) := by subst hnw; subst hf2; exact hwl.out
  have k3 : w.cell? ⟨sb, sof + nw, none⟩ = some (.int .i64 0) := by subst hnw; have := hsl.out ws.length (by omega); rw [hF.al] at this; exact this
  rw [← hnw]
  rw [← hnw] at hn hwc
  clear hmx hsl hwl
  replace hf1 := Lib.hid hf1
  replace hf2 := Lib.hid hf2
  replace hnw := Lib.hid hnw
  replace k1 := Lib.hid k1
  replace k2 := Lib.hid k2
  replace hmx' := Lib.hid hmx'
  have zm : ∀ j, j ≤ nw → (0 ≤ minJ f1 j ∧ minJ f1 j ≤ 1000) ∧ (0 ≤ minJ f2 j ∧ minJ f2 j ≤ 1000) ∧ (0 ≤ sumJ (fun i => f1 i - f2 i) j ∧ sumJ (fun i => f1 i - f2 i) j ≤ 4000) := fun j hj => by
    have a := minJ_bound (f := f1) (lo := 0) (hi := 1000) (n := nw) (by omega) (fun i hi => by have := hmx'.out i hi; omega) j hj
    have b := minJ_bound (f := f2) (lo := 0) (hi := 1000) (n := nw) (by omega) (fun i hi => by have := hmx'.out i hi; omega) j hj
    have c := sumJ_bound (f := fun i => f1 i - f2 i) (lo := 0) (hi := 1000) (n := nw) (fun i hi => by have := hmx'.out i hi; omega) (by omega) (by omega) j hj
    refine ⟨a, b, by omega, by omega⟩
  replace zm := Lib.hid zm
  generalize hN : w.heap.size = N at *
  replace hN := Lib.hid hN
  replace hF := Lib.hid hF
  go_enter Try.func21, Try.ntmps21
  go_upto_region 1 with fail
  rw [hN.out]
  have EB := heap_alloc_new w (.cells #[.slice aa LL.length acap, .slice oa T.ord.length ocap, .slice (some ⟨sb, sof, none⟩) (nw + 1) scap, .bool false] 63)
  have HB1 : Below N w (w.alloc (.cells #[.slice aa LL.length acap, .slice oa T.ord.length ocap, .slice (some ⟨sb, sof, none⟩) (nw + 1) scap, .bool false] 63)) := (Below.refl _ _).alloc (Nat.le_of_eq hN.out.symm) _
  have S1 : (w.alloc (.cells #[.slice aa LL.length acap, .slice oa T.ord.length ocap, .slice (some ⟨sb, sof, none⟩) (nw + 1) scap, .bool false] 63)).heap.size = N + 1 := by have := hN.out; simp [this]
  rw [hN.out] at EB
  generalize w.alloc (.cells #[.slice aa LL.length acap, .slice oa T.ord.length ocap, .slice (some ⟨sb, sof, none⟩) (nw + 1) scap, .bool false] 63) = w1 at *
  have b0 : w1.cell? ⟨N, 0, none⟩ = some (.slice aa LL.length acap) := by rw [cellAt EB 0]; rfl
  have b2 : w1.cell? ⟨N, 2, none⟩ = some (.slice (some ⟨sb, sof, none⟩) (nw + 1) scap) := by rw [cellAt EB 2]; rfl
  have b3 : w1.cell? ⟨N, 3, none⟩ = some (.bool false) := by rw [cellAt EB 3]; rfl
  have q0 := cell_below HB1 hN.out k3
  have q1 := cell_below HB1 hN.out (k1.out 0 (by omega))
  have q2 := cell_below HB1 hN.out (k2.out 0 (by omega))
  rw [Nat.add_zero] at q1 q2
  have hn1 : (0 : Int) < (nw : Int) := by omega
  replace EB := Lib.hid EB
  replace HB1 := Lib.hid HB1
  replace S1 := Lib.hid S1
  go_wp2_with fail
  go_region
  have HB2 := Lib.hid HB1.out.drew
  have E2 := Lib.hid (show w1.drew.heap[N]? = _ from EB.out)
  have S2 := Lib.hid (show w1.drew.heap.size = N + 1 from S1.out)
  clear b0 b2 b3 q0 q1 q2 HB1 EB S1
  generalize w1.drew = W at *
  clear w1
  have c0 : W.cell? ⟨N, 0, none⟩ = some (.slice aa LL.length acap) := by rw [cellAt E2.out 0]; rfl
  have c2 : W.cell? ⟨N, 2, none⟩ = some (.slice (some ⟨sb, sof, none⟩) (nw + 1) scap) := by rw [cellAt E2.out 2]; rfl
  go_wp2_with fail
  go_loopw [7, 8, 9, 55] (fun v7 v8 v9 iv wr => ∃ (j : Nat), j ≤ nw ∧ iv = .int .i64 j ∧ v7 = .int .i64 (minJ f1 j) ∧ v8 = .int .i64 (minJ f2 j) ∧ v9 = .int .i64 (sumJ (fun i => f1 i - f2 i) j) ∧ wr = W) (fun _ _ _ iv _ => nw - (intOf iv).toNat)
  case atStart => exact ⟨0, by omega, rfl, rfl, rfl, rfl, rfl⟩
  case round =>
    obtain ⟨j, hj, rfl, rfl, rfl, rfl, hwr⟩ := hrel
    obtain rfl : W = wr := hwr.symm
    obtain ⟨⟨za, zb⟩, ⟨zc, zd⟩, ze, zf⟩ := zm.out j hj
    have hS := Lib.hid (show sumJ (fun i => f1 i - f2 i) (j + 1) = sumJ (fun i => f1 i - f2 i) j + (f1 j - f2 j) from rfl)
    have hM1 := Lib.hid (show minJ f1 (j + 1) = min (minJ f1 j) (f1 j) from rfl)
    have hM2 := Lib.hid (show minJ f2 (j + 1) = min (minJ f2 j) (f2 j) from rfl)
    by_cases hlt : j < nw
    · have hlt' : (j : Int) < (nw : Int) := by omega
      have hlt2 : (j : Int) < (nw : Int) + 1 := by omega
      obtain ⟨ya, yb, yc⟩ := hmx'.out j hlt
      have q1 := cell_below HB2.out hN.out (k1.out j (by omega))
      have q2 := cell_below HB2.out hN.out (k2.out j hlt)
      have e1 : IntKind.i64.wrap ((j : Int) + 1) = ((j + 1 : Nat) : Int) := by rw [IntKind.wrap_i64]; omega
      generalize f1 j = x at *
      generalize f2 j = y at *
      generalize minJ f1 j = m1 at *
      generalize minJ f2 j = m2 at *
      generalize sumJ (fun i => f1 i - f2 i) j = sm at *
      have hlt3 : ¬ x < y := by omega
      go_wp2_with fail
      refine ⟨⟨j + 1, by omega, by rw [Int.natCast_add]; rfl, ?_, ?_, ?_, by first | rfl | exact trivial⟩, by simp [intOf]; omega⟩
      · rw [hM1.out]; congr 1; split <;> omega
      · rw [hM2.out]; congr 1; split <;> omega
      · rw [hS.out]
    · have hlt' : ¬ (j : Int) < (nw : Int) := by omega
      obtain rfl : j = nw := by omega
      have hok0 := hF.out.ok
      rw [hnw.out.symm] at hok0
      have hok : ∀ k i, k < LL.length → i < (LL.getD k []).length → OkStep (minJ f1 j) (minJ f2 j) j (lastJ (minJ f2 j) (LL.getD k []) (T.ans.getD k []) i) (opA (LL.getD k []) i) (ansA (T.ans.getD k []) i) := by
        rw [hf1.out, hf2.out]; exact hok0
      clear hok0
      have hsum : sumJ (fun i => f1 i - f2 i) j = sumJ (fun k => sumJ (fun i => addB (opA (LL.getD k []) i)) (LL.getD k []).length) LL.length := by
        rw [hf1.out, hf2.out, hnw.out]; exact hF.out.sum
      generalize minJ f1 j = m1 at *
      generalize minJ f2 j = m2 at *
      generalize sumJ (fun i => f1 i - f2 i) j = sm at *
      have hT4 := hF.out.nt
      have zi : ∀ k, k < LL.length → ∀ i, i ≤ (LL.getD k []).length → 0 ≤ sumJ (fun i => addB (opA (LL.getD k []) i)) i ∧ sumJ (fun i => addB (opA (LL.getD k []) i)) i ≤ 24 := fun k hk i hi => by
        have := sumJ_bound (f := fun i => addB (opA (LL.getD k []) i)) (lo := 0) (hi := 3) (n := (LL.getD k []).length) (fun i hi => by
          have := hok k i hk hi
          unfold OkStep at this
          unfold addB
          split <;> omega) (by omega) (by omega) i hi
        have := (hF.out.len k hk).2
        omega
      have zk : ∀ k, k ≤ LL.length → 0 ≤ sumJ (fun k => sumJ (fun i => addB (opA (LL.getD k []) i)) (LL.getD k []).length) k ∧ sumJ (fun k => sumJ (fun i => addB (opA (LL.getD k []) i)) (LL.getD k []).length) k ≤ 96 := fun k hk => by
        have := sumJ_bound (f := fun k => sumJ (fun i => addB (opA (LL.getD k []) i)) (LL.getD k []).length) (lo := 0) (hi := 24) (n := LL.length) (fun k hk => zi k hk _ (Nat.le_refl _)) (by omega) (by omega) k hk
        omega
      replace hok := Lib.hid hok
      replace hsum := Lib.hid hsum
      replace zi := Lib.hid zi
      replace zk := Lib.hid zk
      go_wp2_with fail
      go_loopw [9, 89] (fun v9 iv wr => ∃ (k : Nat), k ≤ LL.length ∧ iv = .int .i64 k ∧ v9 = .int .i64 (sm - sumJ (fun k => sumJ (fun i => addB (opA (LL.getD k []) i)) (LL.getD k []).length) k) ∧ Hid (Below (N + 1) W wr)) (fun _ iv _ => LL.length - (intOf iv).toNat)
      case atStart => exact ⟨0, by omega, rfl, by simp [sumJ], Lib.hid (Below.refl _ _)⟩
      case round =>
        obtain ⟨k, hk, rfl, rfl, HB⟩ := hrel
        have hnx := Lib.hid (show sumJ (fun k => sumJ (fun i => addB (opA (LL.getD k []) i)) (LL.getD k []).length) (k + 1) = sumJ (fun k => sumJ (fun i => addB (opA (LL.getD k []) i)) (LL.getD k []).length) k + sumJ (fun i => addB (opA (LL.getD k []) i)) (LL.getD k []).length from rfl)
        by_cases hkt : k < LL.length
        · have hkt' : (k : Int) < (LL.length : Int) := by omega
          obtain ⟨zk0, zk1⟩ := zk.out k hk
          generalize sumJ (fun k => sumJ (fun i => addB (opA (LL.getD k []) i)) (LL.getD k []).length) k = bk at *
          obtain ⟨hal, hl8⟩ := hF.out.len k hkt
          have hLk : LL[k]? = some (LL.getD k []) := by rw [List.getD_eq_getElem?_getD, List.getElem?_eq_getElem hkt]; rfl
          have hAk : T.ans[k]? = some (T.ans.getD k []) := by rw [List.getD_eq_getElem?_getD, List.getElem?_eq_getElem (by rw [hF.out.ans]; exact hkt)]; rfl
          obtain ⟨tb, tof, rfl, htc⟩ := hta.out (by intro z; rw [z] at hkt; simp at hkt)
          obtain ⟨ab, aof, rfl, hac⟩ := haa.out (by intro z; rw [z] at hAk; simp at hAk)
          obtain ⟨uA, huA, hAI⟩ := hac k _ hAk
          obtain ⟨xa, xc, rfl, hxa⟩ := hAI
          obtain ⟨_, hlk, hcl, hob⟩ := hops.out k _ hLk
          have HW : Below N w wr := HB2.out.trans (HB.out.mono (by omega))
          have p1 := cell_below HW hN.out (htc k _ hLk)
          have p2 := cell_below HW hN.out huA
          have p3 := cell_below HB.out S2.out c0
          have hokk := fun i hi => hok.out k i hkt hi
          have zik := zi.out k hkt
          clear htc hac
          have p2w := Lib.hid huA
          rw [hal] at p2 p2w
          generalize hLL : LL.getD k [] = L at *
          generalize hAA : T.ans.getD k [] = A at *
          rw [hlk] at p1 hcl
          have hq0 := cell_below HB.out S2.out c0
          have HB' := Lib.hid HB.out
          replace hokk := Lib.hid hokk
          replace zik := Lib.hid zik
          replace hob := Lib.hid hob
          replace hxa := Lib.hid hxa
          generalize hwo : wr = wo at *
          clear hwo
          go_wp2_with fail
          go_loopw [9, 14, 106] (fun v9 v14 iv wl => ∃ (i : Nat), i ≤ L.length ∧ iv = .int .i64 i ∧ v9 = .int .i64 (sm - bk - sumJ (fun i => addB (opA L i)) i) ∧ v14 = .int .i64 (lastJ m2 L A i) ∧ Hid (Below (N + 1) W wl)) (fun _ _ iv _ => L.length - (intOf iv).toNat)
          case atStart => exact ⟨0, by omega, rfl, by simp [sumJ], rfl, HB'⟩
          case round =>
            obtain ⟨i, hi, rfl, rfl, rfl, HI⟩ := hrel
            have hnS := Lib.hid (show sumJ (fun i => addB (opA L i)) (i + 1) = sumJ (fun i => addB (opA L i)) i + addB (opA L i) from rfl)
            have hnL := Lib.hid (show lastJ m2 L A (i + 1) = if (opA L i).kind = 7 then lastJ m2 L A i else if (ansA A i).1 then max (lastJ m2 L A i) (ansA A i).2 else lastJ m2 L A i from rfl)
            obtain ⟨zi0, zi1⟩ := zik.out i hi
            by_cases hil : i < L.length
            · have hil' : (i : Int) < (L.length : Int) := by omega
              have hLi : L[i]? = some (opA L i) := by unfold opA; rw [List.getD_eq_getElem?_getD, List.getElem?_eq_getElem hil]; rfl
              have hAi : A[i]? = some (ansA A i) := by unfold ansA; rw [List.getD_eq_getElem?_getD, List.getElem?_eq_getElem (by rw [hal]; exact hil)]; rfl
              have hstep := hokk.out i hil
              obtain ⟨pb, po, hpe, hpc⟩ := hob.out (by intro z; rw [z] at hLi; simp at hLi)
              obtain ⟨rb, ro, rfl, hrc⟩ := hxa.out (by intro z; rw [z] at hAi; simp at hAi)
              have HV : Below N w wr := HB2.out.trans (HI.out.mono (by omega))
              have d0 := cell_below HV hN.out (hpc i _ hLi).1
              have d1 := cell_below HV hN.out (hpc i _ hLi).2.1
              have d2 := cell_below HV hN.out (hpc i _ hLi).2.2.1
              have d3 := cell_below HV hN.out (hpc i _ hLi).2.2.2
              have t0 := cell_below HV hN.out (hrc i _ hAi).1
              have t1 := cell_below HV hN.out (hrc i _ hAi).2.1
              have t2 := cell_below HV hN.out (hrc i _ hAi).2.2
              have v0 := cell_below HI.out S2.out c0
              have v1 := cell_below HV hN.out p2w.out
              clear hpc hrc hLi hAi HV
              rw [hpe]
              generalize opA L i = p at *
              generalize ansA A i = r at *
              generalize lastJ m2 L A i = la at *
              generalize sumJ (fun i => addB (opA L i)) i = si at *
              obtain ⟨pk, pa, pb', pc⟩ := p
              obtain ⟨r1, r2⟩ := r
              simp only at d0 d1 d2 d3 t0 t1 t2
              have al : ∀ {a : Addr} {v : Value} (o : Obj), wr.cell? a = some v → (wr.alloc o).cell? a = some v := fun {a v} o hv => (World.cell?_of_block (w := wr) (Below.heap_alloc _ _ _ (World.block_lt_of_cell? wr _ hv))).trans hv
              have v0' := al (.cells #[.int .i64 pk, .int .i64 pa, .int .i64 pb', .int .i64 pc] 94) v0
              have v1' := al (.cells #[.int .i64 pk, .int .i64 pa, .int .i64 pb', .int .i64 pc] 94) v1
              have t0' := al (.cells #[.int .i64 pk, .int .i64 pa, .int .i64 pb', .int .i64 pc] 94) t0
              have t1' := al (.cells #[.int .i64 pk, .int .i64 pa, .int .i64 pb', .int .i64 pc] 94) t1
              have t2' := al (.cells #[.int .i64 pk, .int .i64 pa, .int .i64 pb', .int .i64 pc] 94) t2
              clear al
              go_upto_region 23 with fail
              have E1 : ((wr.alloc (.cells #[.int .i64 pk, .int .i64 pa, .int .i64 pb', .int .i64 pc] 94)).alloc (.cells #[.bool r1, .int .i64 r2, .slice none 0 0] 97)).heap[wr.heap.size]? = some (.cells #[.int .i64 pk, .int .i64 pa, .int .i64 pb', .int .i64 pc] 94 (0, 0)) := (Below.heap_alloc _ _ _ (by simp)).trans (heap_alloc_new _ _)
              have E3 : ((wr.alloc (.cells #[.int .i64 pk, .int .i64 pa, .int .i64 pb', .int .i64 pc] 94)).alloc (.cells #[.bool r1, .int .i64 r2, .slice none 0 0] 97)).heap[wr.heap.size + 1]? = some (.cells #[.bool r1, .int .i64 r2, .slice none 0 0] 97 (0, 0)) := by
                have := heap_alloc_new (wr.alloc (.cells #[.int .i64 pk, .int .i64 pa, .int .i64 pb', .int .i64 pc] 94)) (.cells #[.bool r1, .int .i64 r2, .slice none 0 0] 97)
                simpa using this
              have hN1 : N + 1 ≤ wr.heap.size := by have := HI.out.size; rw [S2.out] at this; exact this
              have HI2 : Hid (Below (N + 1) W ((wr.alloc (.cells #[.int .i64 pk, .int .i64 pa, .int .i64 pb', .int .i64 pc] 94)).alloc (.cells #[.bool r1, .int .i64 r2, .slice none 0 0] 97))) := Lib.hid ((HI.out.alloc hN1 _).alloc (by simp; omega) _)
              clear d0 d1 d2 d3 t0 t1 t2 t0' t1' t2' v0 v1 v0' v1' HI hN1
              generalize (wr.alloc (.cells #[.int .i64 pk, .int .i64 pa, .int .i64 pb', .int .i64 pc] 94)).alloc (.cells #[.bool r1, .int .i64 r2, .slice none 0 0] 97) = V at *
              generalize wr.heap.size = P at *
              have d0 : V.cell? ⟨P, 0, none⟩ = some (.int .i64 pk) := by rw [cellAt E1 0]; rfl
              have d1 : V.cell? ⟨P, 1, none⟩ = some (.int .i64 pa) := by rw [cellAt E1 1]; rfl
              have d2 : V.cell? ⟨P, 2, none⟩ = some (.int .i64 pb') := by rw [cellAt E1 2]; rfl
              have d3 : V.cell? ⟨P, 3, none⟩ = some (.int .i64 pc) := by rw [cellAt E1 3]; rfl
              have t0 : V.cell? ⟨P + 1, 0, none⟩ = some (.bool r1) := by rw [cellAt E3 0]; rfl
              have t1 : V.cell? ⟨P + 1, 1, none⟩ = some (.int .i64 r2) := by rw [cellAt E3 1]; rfl
              clear E1 E3
              unfold OkStep at hstep
              simp only at hstep
              rcases hstep with ⟨rfl, y1, y2⟩ | ⟨rfl, rfl, y1, y2, y3⟩ | ⟨rfl, rfl, y1, y2, y3⟩ | ⟨rfl, rfl, rfl, y1⟩
              · go_wp2_with fail
                refine ⟨⟨i + 1, by omega, by rw [Int.natCast_add]; rfl, ?_, ?_, HI2⟩, by simp [intOf]; omega⟩
                · rw [hnS.out, show addB ⟨7, pa, pb', pc⟩ = pb' from if_pos rfl]; congr 1; omega
                · rw [hnL.out]; rfl
              · have z1 : ¬ r2 < la := by omega
                have z2 : ¬ m1 < r2 := by omega
                have z3 : ¬ r2 < m2 := by omega
                go_wp2_with fail
                refine ⟨⟨i + 1, by omega, by rw [Int.natCast_add]; rfl, ?_, ?_, HI2⟩, by simp [intOf]; omega⟩
                · rw [hnS.out]; simp only [addB]; congr 1; omega
                · rw [hnL.out]; simp; omega
              · have z2 : ¬ m1 < r2 := by omega
                have z3 : ¬ r2 < m2 := by omega
                have z4 : ¬ r2 < pa := by omega
                by_cases z1 : r2 < la
                all_goals
                  go_wp2_with fail
                  refine ⟨⟨i + 1, by omega, by rw [Int.natCast_add]; rfl, ?_, ?_, HI2⟩, by simp [intOf]; omega⟩
                  · rw [hnS.out]; simp only [addB]; congr 1; omega
                  · rw [hnL.out]; simp; omega
              · by_cases z1 : (j : Int) ≤ pb'
                · have z2 : ¬ pa ≤ m2 := fun z => y1 ⟨z1, z⟩
                  go_wp2_with fail
                  refine ⟨⟨i + 1, by omega, by rw [Int.natCast_add]; rfl, ?_, ?_, HI2⟩, by simp [intOf]; omega⟩
                  · rw [hnS.out]; simp only [addB]; congr 1; omega
                  · rw [hnL.out]; simp
                · go_wp2_with fail
                  refine ⟨⟨i + 1, by omega, by rw [Int.natCast_add]; rfl, ?_, ?_, HI2⟩, by simp [intOf]; omega⟩
                  · rw [hnS.out]; simp only [addB]; congr 1; omega
                  · rw [hnL.out]; simp
            · have hil' : ¬ (i : Int) < (L.length : Int) := by omega
              obtain rfl : i = L.length := by omega
              go_wp2_with fail
              refine ⟨⟨k + 1, by omega, by rw [Int.natCast_add]; rfl, ?_, HI⟩, by simp [intOf]; omega⟩
              rw [hnx.out]
              congr 1
              omega
        · have hkt' : ¬ (k : Int) < (LL.length : Int) := by omega
          obtain rfl : k = LL.length := by omega
          rw [← hsum.out]
          have hz : sm - sm = 0 := by omega
          rw [hz]
          go_wp2_with fail
          go_ret
          exact ⟨rfl, HB2.out.trans (HB.out.mono (by omega))⟩
end Go.Proofs.Ytimkkeomdkbcjaa
