/-
  The contract of played: calls done one behind the other by Do.
-/
import Derived.Test.YtfcaebceklhbkaaDoorLeast
import Derived.Deep.RegionLaw
namespace Go.Proofs.YtfcaebceklhbkaaDoor
open Go.RowKit
set_option linter.unusedVariables false

/-- An operation's four numbers. -/
structure O4 where
  k : Int
  x : Int
  y : Int
  z : Int
deriving Inhabited
/-- Operations as they lie. -/
def OpsAt (w : World) (ao : Option Addr) (n : Nat) (f : Nat → O4) : Prop :=
  n = 0 ∨ ∃ g o, ao = some ⟨g, o, none⟩ ∧ ∀ i, i < n → w.cell? ⟨g, o + i * 4, none⟩ = some (.int .i64 (f i).k) ∧ w.cell? ⟨g, o + i * 4 + 1, none⟩ = some (.int .i64 (f i).x) ∧ w.cell? ⟨g, o + i * 4 + 2, none⟩ = some (.int .i64 (f i).y) ∧ w.cell? ⟨g, o + i * 4 + 3, none⟩ = some (.int .i64 (f i).z)
theorem OpsAt.below {w w' : World} {ao : Option Addr} {n : Nat} {f : Nat → O4} (h : OpsAt w ao n f) (hb : Below w.heap.size w w') : OpsAt w' ao n f := by
  rcases h with h | ⟨g, o, e, hc⟩
  · exact .inl h
  · refine .inr ⟨g, o, e, fun i hi => ?_⟩
    obtain ⟨h1, h2, h3, h4⟩ := hc i hi
    exact ⟨(hb.cell (p := ⟨g, o + i * 4, none⟩) (World.block_lt_of_cell? w _ h1)).trans h1, (hb.cell (p := ⟨g, o + i * 4 + 1, none⟩) (World.block_lt_of_cell? w _ h2)).trans h2,
      (hb.cell (p := ⟨g, o + i * 4 + 2, none⟩) (World.block_lt_of_cell? w _ h3)).trans h3, (hb.cell (p := ⟨g, o + i * 4 + 3, none⟩) (World.block_lt_of_cell? w _ h4)).trans h4⟩
/-- Bytes as they lie. -/
def BytesAt (w : World) (ao : Option Addr) (n : Nat) (f : Nat → Int) : Prop :=
  n = 0 ∨ ∃ g o, ao = some ⟨g, o, none⟩ ∧ ∀ i, i < n → w.cell? ⟨g, o + i, none⟩ = some (.int .u8 (f i)) ∧ 0 ≤ f i ∧ f i < 256
theorem BytesAt.below {w w' : World} {ao : Option Addr} {n : Nat} {f : Nat → Int} (h : BytesAt w ao n f) (hb : Below w.heap.size w w') : BytesAt w' ao n f := by
  rcases h with h | ⟨g, o, e, hc⟩
  · exact .inl h
  · refine .inr ⟨g, o, e, fun i hi => ?_⟩
    obtain ⟨h1, h2⟩ := hc i hi
    exact ⟨(hb.cell (p := ⟨g, o + i, none⟩) (World.block_lt_of_cell? w _ h1)).trans h1, h2⟩

def earlyF (m : Nat → Int) (mn i : Nat) : Int := if i < mn then m i % 16 else 0
def lateF (m : Nat → Int) (mn i : Nat) : Int := if i < mn then m i / 16 else 0
def callP (f : Nat → O4) (r : List Int × Bool × Int) (e l : Int) (i : Nat) : Cl := ⟨i, 10 * i - e, 10 * i + 3 + l, (f i).k, (f i).x, (f i).y, (f i).z, r.2.1, r.2.2, none, 0, 0⟩
/-- The calls that are played, and the state behind them. -/
def playTo (o : Int) (f : Nat → O4) (m : Nat → Int) (mn : Nat) (s : List Int) : Nat → List Cl × List Int
  | 0 => ([], s)
  | i + 1 => ((playTo o f m mn s i).1 ++ [callP f (doF o (playTo o f m mn s i).2 (f i).k (f i).x (f i).y) (earlyF m mn i) (lateF m mn i) i], (doF o (playTo o f m mn s i).2 (f i).k (f i).x (f i).y).1)
theorem playTo_len (o : Int) (f : Nat → O4) (m : Nat → Int) (mn : Nat) (s : List Int) : ∀ i, (playTo o f m mn s i).1.length = i ∧ (playTo o f m mn s i).2.length ≤ s.length + i
  | 0 => by simp [playTo]
  | i + 1 => by
    obtain ⟨h1, h2⟩ := playTo_len o f m mn s i
    have := doF_length o (playTo o f m mn s i).2 (f i).k (f i).x (f i).y
    refine ⟨by simp [playTo, h1], ?_⟩
    show (doF o (playTo o f m mn s i).2 (f i).k (f i).x (f i).y).1.length ≤ _
    omega

/-- append by its equation, as one step of a region that draws. -/
theorem step_append_runI {P : Program} {ops : Array Oper} {o : Oper} {a : Act} {w : World} {K : Act → World → Prop} {Q : Exit → Act → World → Prop} {E : Prop}
    (hg : o.guard = none) (s x : Operand) (t tn : TypeId) (hop : o.op = Op.call { callee := Callee.builtin Builtin.append, args := #[s, x], argTypes := #[t, tn] })
    (v u : Value) (hs : a.eval s = v) (hx : a.eval x = u) {v' : Value} {w' : World} (hr : (Builtin.append_ #[t, tn] o.type #[v, u]).run P w = .ok v' w') (hK : K (a.put o.dst v') w') :
    if Region.wanted o (yielded ops a.tmps) = true then Oper.wp P o a w K Q else E := by
  have hw : Region.wanted o (yielded ops a.tmps) = true := by simp [Region.wanted, hg]
  rw [if_pos hw]
  unfold Oper.wp execOp
  simp only [hop, resolve, invoke, builtin, Sem.run_bind, Sem.run_pure, Result.andThen_ok, List.map_toArray, List.map_cons, List.map_nil, hs, hx, hr]
  exact hK
/-- A call appended: the row and the world. -/
theorem call_add {w0 wr w1 : World} {N : Nat} {v v' : Value} {S : List Cl} {c : Cl} {i : Nat} {o : Obj} (hb : Below N w0 wr) (hN : N ≤ wr.heap.size) (h : wr.ownsRow N 81 10 v i (callsV S))
    (ha : Appended (wr.alloc o) N 81 10 v i 1 (callsV S ++ c.cells) v' w1) : w1.ownsRow N 81 10 v' (i + 1) (callsV (S ++ [c])) ∧ Below N w0 w1 ∧ N ≤ w1.heap.size ∧ ∀ g, v.ownBlock ≠ some g → g < wr.heap.size → w1.heap[g]? = wr.heap[g]? := by
  obtain ⟨h1, h2, _⟩ := ha
  have hs := h2.size
  simp at hs
  refine ⟨by rw [callsV_snoc]; exact h1, (hb.alloc hN _).grown h2 (by simp; omega) (fun k hk => (h.lt k hk).1), by omega, fun g hg hlt => ?_⟩
  rw [h2.block g (by simp; omega) (fun e => hg e.symm), Below.heap_alloc _ _ _ hlt]
theorem cl_one (c : Cl) : ∀ u ∈ c.cells, u.oneCell' = true := by intro u hu; simp [Cl.cells] at hu; rcases hu with rfl | rfl | rfl | rfl | rfl | rfl | rfl | rfl | rfl | rfl <;> rfl

set_option maxRecDepth 100000 in
set_option maxHeartbeats 8000000 in
theorem played_walk (o : Int) (v : Value) (s : List Int) (oo mo : Option Addr) (n oc mn mc : Nat) (f : Nat → O4) (m : Nat → Int) (w : World) (hO : OpsAt w oo n f) (hM : BytesAt w mo mn m) (hs : Nums w v s) (hss : SrcOf w 1 v s.length (numV s)) (hsl : s.length ≤ 2000000) (hn : n ≤ 1000000) (hmn : mn ≤ 2000000) :
    Calls Tryd.prog 22 #[.int .i64 o, v, .slice oo n oc, .slice mo mn mc] w fun e w' => ∃ v', e = .returned v' ∧ w'.ownsRow w.heap.size 81 10 v' (min n 10) (callsV (playTo o f m mn s (min n 10)).1) ∧ Below w.heap.size w w' := by
  obtain ⟨i0, hi0, hz0, hz1, hz2⟩ := info_parts info81
  obtain ⟨sv, w1, r1, o1, b1⟩ := copy_run 22 2 _ 1 8 Tryd.underlying22 info2 (by decide) rfl hss (by unfold maxLen; omega) (by omega)
  have HO := Lib.hid hO
  have HM := Lib.hid hM
  have HDo := Lib.hid (doOk_all o)
  have HR1 := Lib.hid r1
  have HN1 := Lib.hid (nums_row o1)
  have HB1 := Lib.hid b1
  clear hO hM hs hss r1 o1 b1
  go_enter Tryd.func22, Tryd.ntmps22
  go_wp2_with (at_builtin; refine Lib.wpList_append_run _ rfl _ _ _ _ rfl _ _ rfl rfl _ _ HR1.out ?_)
  generalize hN : w.heap.size = N at *
  have HN := Lib.hid hN
  clear hN
  go_loopw [9, 10, 11] (fun cv sv iv wr => ∃ i : Nat, i ≤ n ∧ i ≤ 10 ∧ iv = .int .i64 i ∧ wr.ownsRow N 81 10 cv i (callsV (playTo o f m mn s i).1) ∧ Nums wr sv (playTo o f m mn s i).2 ∧ Below N w wr ∧ N ≤ wr.heap.size) (fun _ _ iv _ => n - (intOf iv).toNat)
  case atStart => exact ⟨0, by omega, by omega, rfl, World.ownsRow_nil _ _ _ _, HN1.out, HB1.out, by have := HB1.out.size; have := HN.out; omega⟩
  case round =>
    obtain ⟨i, hi, hi10, rfl, hrow, hst, hlow, hsz⟩ := hrel
    have HROW := Lib.hid hrow
    have HST := Lib.hid hst
    have HLOW := Lib.hid hlow
    have hlen := (playTo_len o f m mn s i).2
    have hlen1 := (playTo_len o f m mn s i).1
    have HSTEP : Hid (playTo o f m mn s (i + 1) = ((playTo o f m mn s i).1 ++ [callP f (doF o (playTo o f m mn s i).2 (f i).k (f i).x (f i).y) (earlyF m mn i) (lateF m mn i) i], (doF o (playTo o f m mn s i).2 (f i).k (f i).x (f i).y).1)) := rfl
    clear hrow hst hlow
    by_cases hlt : i < n
    · by_cases hlt10 : i < 10
      · obtain ⟨go, oo', rfl, hop⟩ : ∃ g o, oo = some ⟨g, o, none⟩ ∧ ∀ i, i < n → w.cell? ⟨g, o + i * 4, none⟩ = some (.int .i64 (f i).k) ∧ w.cell? ⟨g, o + i * 4 + 1, none⟩ = some (.int .i64 (f i).x) ∧ w.cell? ⟨g, o + i * 4 + 2, none⟩ = some (.int .i64 (f i).y) ∧ w.cell? ⟨g, o + i * 4 + 3, none⟩ = some (.int .i64 (f i).z) := by
          rcases HO.out with h | h
          · omega
          · exact h
        have HOP : Hid (∀ W, Below N w W → W.cell? ⟨go, oo' + i * 4, none⟩ = some (.int .i64 (f i).k) ∧ W.cell? ⟨go, oo' + i * 4 + 1, none⟩ = some (.int .i64 (f i).x) ∧ W.cell? ⟨go, oo' + i * 4 + 2, none⟩ = some (.int .i64 (f i).y) ∧ W.cell? ⟨go, oo' + i * 4 + 3, none⟩ = some (.int .i64 (f i).z)) := Lib.hid (fun W hW => by
          obtain ⟨h1, h2, h3, h4⟩ := hop i hlt
          have hN := HN.out
          exact ⟨(hW.cell (p := ⟨go, oo' + i * 4, none⟩) (by rw [← hN]; exact World.block_lt_of_cell? w _ h1)).trans h1, (hW.cell (p := ⟨go, oo' + i * 4 + 1, none⟩) (by rw [← hN]; exact World.block_lt_of_cell? w _ h2)).trans h2,
            (hW.cell (p := ⟨go, oo' + i * 4 + 2, none⟩) (by rw [← hN]; exact World.block_lt_of_cell? w _ h3)).trans h3, (hW.cell (p := ⟨go, oo' + i * 4 + 3, none⟩) (by rw [← hN]; exact World.block_lt_of_cell? w _ h4)).trans h4⟩)
        have HMV : Hid (i < mn → ∃ g o, mo = some ⟨g, o, none⟩ ∧ 0 ≤ m i ∧ m i < 256 ∧ ∀ W, Below N w W → W.cell? ⟨g, o + i, none⟩ = some (.int .u8 (m i))) := Lib.hid (fun hm => by
          rcases HM.out with h | ⟨g, o, e, h⟩
          · omega
          · obtain ⟨h1, h2, h3⟩ := h i hm
            exact ⟨g, o, e, h2, h3, fun W hW => (hW.cell (p := ⟨g, o + i, none⟩) (by rw [← HN.out]; exact World.block_lt_of_cell? w _ h1)).trans h1⟩)
        clear hop
        have HE : Hid (earlyF m mn i = if i < mn then m i % 16 else 0) := rfl
        have HL : Hid (lateF m mn i = if i < mn then m i / 16 else 0) := rfl
        have HCP : Hid (callP f (doF o (playTo o f m mn s i).2 (f i).k (f i).x (f i).y) (earlyF m mn i) (lateF m mn i) i = ⟨i, 10 * i - earlyF m mn i, 10 * i + 3 + lateF m mn i, (f i).k, (f i).x, (f i).y, (f i).z, (doF o (playTo o f m mn s i).2 (f i).k (f i).x (f i).y).2.1, (doF o (playTo o f m mn s i).2 (f i).k (f i).x (f i).y).2.2, none, 0, 0⟩) := rfl
        have HD1 := Lib.hid (HDo.out u10 (playTo o f m mn s i).2 (f i).k (f i).x (f i).y (f i).z wr HST.out (by omega))
        unfold opV at HD1
        generalize hcc : callP f (doF o (playTo o f m mn s i).2 (f i).k (f i).x (f i).y) (earlyF m mn i) (lateF m mn i) i = cl at *
        generalize doF o (playTo o f m mn s i).2 (f i).k (f i).x (f i).y = x at *
        generalize (playTo o f m mn s i).2 = st at *
        generalize (playTo o f m mn s i).1 = S at *
        generalize f i = fi at *
        generalize earlyF m mn i = ea at *
        generalize lateF m mn i = la at *
        obtain ⟨ok, ox, oy, oz⟩ := fi
        obtain ⟨xl, xo, xn⟩ := x
        simp only at HOP HCP HD1 HSTEP
        clear hcc
        obtain ⟨a0, a1, a2, a3⟩ := HOP.out wr HLOW.out

        go_wp2_with fail
        refine HD1.out.mono ?_
        rintro e w4 ⟨v4, rfl, ho4, hb4⟩
        have hsz4 : wr.heap.size ≤ w4.heap.size := hb4.size
        have hb5 : Below wr.heap.size wr (w4.alloc (.cells #[.bool xo, .int .i64 xn, .slice none 0 0] 26)) := hb4.alloc hsz4 _
        have HB5 := Lib.hid (HLOW.out.trans (hb5.mono hsz))
        have HX5 : Hid (OwnNums wr.heap.size (w4.alloc (.cells #[.bool xo, .int .i64 xn, .slice none 0 0] 26)) v4 xl) := Lib.hid (ho4.keep (Nat.le_refl _) (fun g _ hg => Below.heap_alloc _ _ _ hg))
        have HLT : Hid (∀ g, u9.ownBlock = some g → g < wr.heap.size) := Lib.hid (fun g hg => (HROW.out.lt g hg).2)
        have hA5 : (w4.alloc (.cells #[.bool xo, .int .i64 xn, .slice none 0 0] 26)).heap[w4.heap.size]? = some (.cells #[.bool xo, .int .i64 xn, .slice none 0 0] 26 (0, 0)) := heap_alloc_new _ _
        have HR5 : Hid ((w4.alloc (.cells #[.bool xo, .int .i64 xn, .slice none 0 0] 26)).ownsRow N 81 10 u9 i (callsV S)) := Lib.hid (own_below HROW.out hb5)
        have HS5 : Hid (N ≤ (w4.alloc (.cells #[.bool xo, .int .i64 xn, .slice none 0 0] 26)).heap.size) := Lib.hid (by simp; omega)
        clear hb4 hb5 ho4 a0 a1 a2 a3
        have e0 := (cell_of hA5 0).trans rfl
        have e1 := (cell_of hA5 1).trans rfl
        have e2 := (cell_of hA5 2).trans rfl
        have HOP5 := Lib.hid (HOP.out _ HB5.out)
        clear hA5
        unfold ansV at *
        simp only at *
        by_cases hm : i < mn
        · obtain ⟨gm, om, rfl, m0, m1, hmw⟩ := HMV.out hm
          have c0 := hmw _ HB5.out
          have HEA := Lib.hid (show ea = m i % 16 from by rw [hid_eq HE, if_pos hm])
          have HLA := Lib.hid (show la = m i / 16 from by rw [hid_eq HL, if_pos hm])
          clear hmw HMV HE HL HM
          generalize m i = mi at *
          have hmi : mi.tmod 16 = mi % 16 := by rw [Int.tmod_eq_emod_of_nonneg m0]
          have hmd : mi.tdiv 16 = mi / 16 := by rw [Int.tdiv_eq_ediv_of_nonneg m0]
          go_wp2_with (go_quiet (fail))
          clear c0 hmi hmd
          have HB6 := Lib.hid (below_drewN HB5.out nq)
          have e0' : ((w4.alloc (.cells #[.bool xo, .int .i64 xn, .slice none 0 0] 26)).drewN nq).cell? ⟨w4.heap.size, 0, none⟩ = some (.bool xo) := e0
          have e1' : ((w4.alloc (.cells #[.bool xo, .int .i64 xn, .slice none 0 0] 26)).drewN nq).cell? ⟨w4.heap.size, 1, none⟩ = some (.int .i64 xn) := e1
          have e2' : ((w4.alloc (.cells #[.bool xo, .int .i64 xn, .slice none 0 0] 26)).drewN nq).cell? ⟨w4.heap.size, 2, none⟩ = some (.slice none 0 0) := e2
          obtain ⟨b0, b1, b2, b3⟩ := HOP.out _ HB6.out
          have HX6 : Hid (OwnNums wr.heap.size ((w4.alloc (.cells #[.bool xo, .int .i64 xn, .slice none 0 0] 26)).drewN nq) v4 xl) := HX5
          have HR6 : Hid (((w4.alloc (.cells #[.bool xo, .int .i64 xn, .slice none 0 0] 26)).drewN nq).ownsRow N 81 10 u9 i (callsV S)) := HR5
          have HS6 : Hid (N ≤ ((w4.alloc (.cells #[.bool xo, .int .i64 xn, .slice none 0 0] 26)).drewN nq).heap.size) := HS5
          have HZ6 : Hid (wr.heap.size ≤ ((w4.alloc (.cells #[.bool xo, .int .i64 xn, .slice none 0 0] 26)).drewN nq).heap.size) := Lib.hid (by show wr.heap.size ≤ (w4.alloc (.cells #[.bool xo, .int .i64 xn, .slice none 0 0] 26)).heap.size; simp; omega)
          have hcl : cl = ⟨i, 10 * i - mi % 16, 10 * i + 3 + mi / 16, ok, ox, oy, oz, xo, xn, none, 0, 0⟩ := by rw [HCP.out, HEA.out, HLA.out]; try simp
          subst hcl
          clear e0 e1 e2 HOP5 HOP HX5 HR5 HS5 HB5 HCP HEA HLA
          generalize ((w4.alloc (.cells #[.bool xo, .int .i64 xn, .slice none 0 0] 26)).drewN nq) = w5 at *
          generalize w4.heap.size = p4 at *
          have HB7 : Hid (Below N w w5.drew) := Lib.hid HB6.out.drew
          have HR7 : Hid (w5.drew.ownsRow N 81 10 u9 i (callsV S)) := HR6
          have HS7 : Hid (N ≤ w5.drew.heap.size) := HS6
          have HOW := Lib.hid (HR7.out.alloc (.cells (Cl.cells ⟨i, 10 * i - mi % 16, 10 * i + 3 + mi / 16, ok, ox, oy, oz, xo, xn, none, 0, 0⟩).toArray 81))
          have HSX := Lib.hid (src_one0 w5.drew (Cl.cells ⟨i, 10 * i - mi % 16, 10 * i + 3 + mi / 16, ok, ox, oy, oz, xo, xn, none, 0, 0⟩).toArray 81 10 rfl (cl_one _))
          have HAD := Lib.hid (fun v' w' ha => call_add (c := ⟨i, 10 * i - mi % 16, 10 * i + 3 + mi / 16, ok, ox, oy, oz, xo, xn, none, 0, 0⟩) (o := .cells (Cl.cells ⟨i, 10 * i - mi % 16, 10 * i + 3 + mi / 16, ok, ox, oy, oz, xo, xn, none, 0, 0⟩).toArray 81) (v' := v') (w1 := w') HB7.out HS7.out HR7.out ha)
          obtain ⟨v', w', hrun, ha⟩ := run_append_row (P := Tryd.prog) (w5.drew.alloc (.cells (Cl.cells ⟨i, 10 * i - mi % 16, 10 * i + 3 + mi / 16, ok, ox, oy, oz, xo, xn, none, 0, 0⟩).toArray 81)) N 37 37 81 i0 _ 10 96 Tryd.underlying37 hi0 hz0 hz1 (by decide) hz2 rfl u9 i (callsV S) HOW.out (.slice (some ⟨w5.drew.heap.size, 0, none⟩) 1 1) 1 (Cl.cells ⟨i, 10 * i - mi % 16, 10 * i + 3 + mi / 16, ok, ox, oy, oz, xo, xn, none, 0, 0⟩) HSX.out (by unfold maxLen; omega) (by omega) (by have := HS7.out; simp at this ⊢; omega)
          obtain ⟨hr1, hr2, hr3, hr4⟩ := HAD.out _ _ ha
          have HR8 := Lib.hid hr1
          have HB8 := Lib.hid hr2
          have HS8 := Lib.hid hr3
          have HX8 : Hid (OwnNums wr.heap.size w' v4 xl) := Lib.hid (OwnNums.keep HX6.out (Nat.le_refl _) (fun g hg hlt => (hr4 g (fun e => by have := HLT.out g e; omega) hlt).trans rfl))
          have HRUN : Hid ((Builtin.append_ #[37, 37] 37 #[u9, .slice (some ⟨w5.heap.size, 0, none⟩) 1 1]).run Tryd.prog (w5.alloc (.cells (Cl.cells ⟨i, 10 * i - mi % 16, 10 * i + 3 + mi / 16, ok, ox, oy, oz, xo, xn, none, 0, 0⟩).toArray 81)).drew = .ok v' w') := Lib.hid hrun
          clear hr1 hr2 hr3 hr4 ha hrun
          have q1 : IntKind.i64.wrap (10 * (i : Int)) = 10 * i := by rw [IntKind.wrap_i64]; omega
          have q2 : IntKind.i64.wrap (10 * (i : Int) + 3) = 10 * i + 3 := by rw [IntKind.wrap_i64]; omega
          have q3 : IntKind.i64.wrap (10 * (i : Int) - mi % 16) = 10 * i - mi % 16 := by rw [IntKind.wrap_i64]; omega
          have q4 : IntKind.i64.wrap (10 * (i : Int) + 3 + mi / 16) = 10 * i + 3 + mi / 16 := by rw [IntKind.wrap_i64]; omega
          go_region_law (refine step_append_runI (by rfl) _ _ 37 37 (by rfl) u9 (.slice (some ⟨w5.heap.size, 0, none⟩) 1 1) (by rfl) (by rfl) HRUN.out ?_)
          all_goals
            go_wp2_with fail
            go_roundw
            case rel => exact ⟨i + 1, by omega, by omega, by go_num, by rw [HSTEP.out]; exact HR8.out, by rw [HSTEP.out]; exact HX8.out.nums, HB8.out, HS8.out⟩
            case measure => simp [intOf]; omega
        · have hm' : ¬ (i : Int) < mn := by omega
          have HEA := Lib.hid (show ea = 0 from by rw [hid_eq HE, if_neg hm])
          have HLA := Lib.hid (show la = 0 from by rw [hid_eq HL, if_neg hm])
          clear HMV HE HL HM
          go_wp2_with (go_quiet (fail))
          have HB6 := Lib.hid (HB5.out)
          have e0' : (w4.alloc (.cells #[.bool xo, .int .i64 xn, .slice none 0 0] 26)).cell? ⟨w4.heap.size, 0, none⟩ = some (.bool xo) := e0
          have e1' : (w4.alloc (.cells #[.bool xo, .int .i64 xn, .slice none 0 0] 26)).cell? ⟨w4.heap.size, 1, none⟩ = some (.int .i64 xn) := e1
          have e2' : (w4.alloc (.cells #[.bool xo, .int .i64 xn, .slice none 0 0] 26)).cell? ⟨w4.heap.size, 2, none⟩ = some (.slice none 0 0) := e2
          obtain ⟨b0, b1, b2, b3⟩ := HOP.out _ HB6.out
          have HX6 : Hid (OwnNums wr.heap.size (w4.alloc (.cells #[.bool xo, .int .i64 xn, .slice none 0 0] 26)) v4 xl) := HX5
          have HR6 : Hid ((w4.alloc (.cells #[.bool xo, .int .i64 xn, .slice none 0 0] 26)).ownsRow N 81 10 u9 i (callsV S)) := HR5
          have HS6 : Hid (N ≤ (w4.alloc (.cells #[.bool xo, .int .i64 xn, .slice none 0 0] 26)).heap.size) := HS5
          have HZ6 : Hid (wr.heap.size ≤ (w4.alloc (.cells #[.bool xo, .int .i64 xn, .slice none 0 0] 26)).heap.size) := Lib.hid (by show wr.heap.size ≤ (w4.alloc (.cells #[.bool xo, .int .i64 xn, .slice none 0 0] 26)).heap.size; simp; omega)
          have hcl : cl = ⟨i, 10 * i, 10 * i + 3, ok, ox, oy, oz, xo, xn, none, 0, 0⟩ := by rw [HCP.out, HEA.out, HLA.out]; try simp
          subst hcl
          clear e0 e1 e2 HOP5 HOP HX5 HR5 HS5 HB5 HCP HEA HLA
          generalize (w4.alloc (.cells #[.bool xo, .int .i64 xn, .slice none 0 0] 26)) = w5 at *
          generalize w4.heap.size = p4 at *
          have HB7 : Hid (Below N w w5.drew) := Lib.hid HB6.out.drew
          have HR7 : Hid (w5.drew.ownsRow N 81 10 u9 i (callsV S)) := HR6
          have HS7 : Hid (N ≤ w5.drew.heap.size) := HS6
          have HOW := Lib.hid (HR7.out.alloc (.cells (Cl.cells ⟨i, 10 * i, 10 * i + 3, ok, ox, oy, oz, xo, xn, none, 0, 0⟩).toArray 81))
          have HSX := Lib.hid (src_one0 w5.drew (Cl.cells ⟨i, 10 * i, 10 * i + 3, ok, ox, oy, oz, xo, xn, none, 0, 0⟩).toArray 81 10 rfl (cl_one _))
          have HAD := Lib.hid (fun v' w' ha => call_add (c := ⟨i, 10 * i, 10 * i + 3, ok, ox, oy, oz, xo, xn, none, 0, 0⟩) (o := .cells (Cl.cells ⟨i, 10 * i, 10 * i + 3, ok, ox, oy, oz, xo, xn, none, 0, 0⟩).toArray 81) (v' := v') (w1 := w') HB7.out HS7.out HR7.out ha)
          obtain ⟨v', w', hrun, ha⟩ := run_append_row (P := Tryd.prog) (w5.drew.alloc (.cells (Cl.cells ⟨i, 10 * i, 10 * i + 3, ok, ox, oy, oz, xo, xn, none, 0, 0⟩).toArray 81)) N 37 37 81 i0 _ 10 96 Tryd.underlying37 hi0 hz0 hz1 (by decide) hz2 rfl u9 i (callsV S) HOW.out (.slice (some ⟨w5.drew.heap.size, 0, none⟩) 1 1) 1 (Cl.cells ⟨i, 10 * i, 10 * i + 3, ok, ox, oy, oz, xo, xn, none, 0, 0⟩) HSX.out (by unfold maxLen; omega) (by omega) (by have := HS7.out; simp at this ⊢; omega)
          obtain ⟨hr1, hr2, hr3, hr4⟩ := HAD.out _ _ ha
          have HR8 := Lib.hid hr1
          have HB8 := Lib.hid hr2
          have HS8 := Lib.hid hr3
          have HX8 : Hid (OwnNums wr.heap.size w' v4 xl) := Lib.hid (OwnNums.keep HX6.out (Nat.le_refl _) (fun g hg hlt => (hr4 g (fun e => by have := HLT.out g e; omega) hlt).trans rfl))
          have HRUN : Hid ((Builtin.append_ #[37, 37] 37 #[u9, .slice (some ⟨w5.heap.size, 0, none⟩) 1 1]).run Tryd.prog (w5.alloc (.cells (Cl.cells ⟨i, 10 * i, 10 * i + 3, ok, ox, oy, oz, xo, xn, none, 0, 0⟩).toArray 81)).drew = .ok v' w') := Lib.hid hrun
          clear hr1 hr2 hr3 hr4 ha hrun
          have q1 : IntKind.i64.wrap (10 * (i : Int)) = 10 * i := by rw [IntKind.wrap_i64]; omega
          have q2 : IntKind.i64.wrap (10 * (i : Int) + 3) = 10 * i + 3 := by rw [IntKind.wrap_i64]; omega
          go_region_law (refine step_append_runI (by rfl) _ _ 37 37 (by rfl) u9 (.slice (some ⟨w5.heap.size, 0, none⟩) 1 1) (by rfl) (by rfl) HRUN.out ?_)
          all_goals
            go_wp2_with fail
            go_roundw
            case rel => exact ⟨i + 1, by omega, by omega, by go_num, by rw [HSTEP.out]; exact HR8.out, by rw [HSTEP.out]; exact HX8.out.nums, HB8.out, HS8.out⟩
            case measure => simp [intOf]; omega
      · have h10 : ¬ (i : Int) < 10 := by omega
        obtain rfl : i = 10 := by omega
        go_wp2_with fail
        go_ret
        exact ⟨_, rfl, by rw [HN.out]; exact HROW.out, by rw [HN.out]; exact HLOW.out⟩
    · obtain rfl : i = n := by omega
      go_wp2_with fail
      go_ret
      exact ⟨_, rfl, by rw [show min i 10 = i by omega, HN.out]; exact HROW.out, by rw [HN.out]; exact HLOW.out⟩
end Go.Proofs.YtfcaebceklhbkaaDoor
