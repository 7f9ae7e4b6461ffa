/-
  Merged out of: RefD RefE Ref8 Simu0. No condition of its own.
-/
import Derived.Test.YtimkkeomdkbcjaaPlaysP33
set_option linter.unusedVariables false
set_option linter.unusedSimpArgs false
/-
  The document's machine: Threads (f32), walked. No condition of its own.
-/
namespace Go.Proofs.Ytimkkeomdkbcjaa
open Go.Conc Go.RowKit
theorem cell_belowR {N : Nat} {w w' : World} (hb : Below N w w') (hN : w.heap.size = N) {a : Addr} {v : Value} (h : w.cell? a = some v) : w'.cell? a = some v :=
  (World.cell?_of_block (w := w) (hb.block _ (by rw [← hN]; exact World.block_lt_of_cell? w _ h))).trans h
theorem info87 : (Try.prog.info? 87).map (fun i => (i.zero, i.size, i.bytes)) = some (some (.pointer none), 1, 8) := by kernel_rfl
def DoneThr (LL : List (List OpD)) (w : World) (e : Ending) (w' : World) : Prop := ∃ v, e = .returned v ∧ ∃ tb vo, ThA w w.heap.size LL tb vo (min LL.length 64) v w'
set_option maxRecDepth 100000 in
set_option maxHeartbeats 2000000 in
theorem threads_walk {vt : Value} {LL : List (List OpD)} {w : World} (hT : ThrIn w vt LL) (hLL : LL.length ≤ 1000000000) (hops : ∀ L ∈ LL, L.length ≤ 1000000000) : Calls Try.prog 32 #[vt] w (DoneThr LL w) := by
  obtain ⟨i94, hi94, a1, a2, a3⟩ := info_parts info94
  obtain ⟨i87, hi87, b1, b2, b3⟩ := info_parts info87
  obtain ⟨ta, tcap, rfl, ob, ln, cp, hta, hopsI⟩ := hT
  replace hta := Lib.hid hta
  replace hopsI := Lib.hid hopsI
  replace hops := Lib.hid hops
  generalize hN : w.heap.size = N at *
  replace hN := Lib.hid hN
  have H0 : Hid (ThA w N LL (fun _ => 0) (fun _ => undef) 0 (.slice none 0 0) w) := Lib.hid ⟨World.ownsRow_nil _ _ _ _, fun i hi => by omega, fun i k hi => by omega, Below.refl _ _, Nat.le_of_eq hN.out.symm⟩
  go_enter Try.func32, Try.ntmps32
  go_wp2_with fail
  go_loopw [3, 4] (fun va iv wr => ∃ (j : Nat) (tb : Nat → Nat) (vo : Nat → Value), j ≤ min LL.length 64 ∧ iv = .int .i64 j ∧ Hid (ThA w N LL tb vo j va wr)) (fun _ iv _ => LL.length - (intOf iv).toNat)
  case atStart => exact ⟨0, _, _, by omega, rfl, H0⟩
  case round =>
    obtain ⟨j, tb, vo, hj, rfl, HS⟩ := hrel
    obtain ⟨vp, vc, rfl⟩ := slice_of HS.out.row
    by_cases hlt : j < min LL.length 64
    · have hlt' : (j : Int) < (LL.length : Int) := by omega
      have h64 : (j : Int) < 64 := by omega
      have hLj : LL[j]? = some (LL.getD j []) := by
        rw [List.getD_eq_getElem?_getD, List.getElem?_eq_getElem (by omega)]
        rfl
      obtain ⟨tbb, tof, rfl, hcells⟩ := hta.out (by intro z; rw [z] at hlt; simp at hlt)
      have hc := hcells j _ hLj
      have hin := cell_belowR HS.out.low hN.out hc
      obtain ⟨hOk, hln, hcj, hob⟩ := hopsI.out j _ hLj
      have hL9 := hops.out _ (List.mem_of_getElem? hLj)
      clear hcells hc
      generalize hL : LL.getD j [] = L at *
      replace hL := Lib.hid hL
      replace hob := Lib.hid hob
      clear hOk
      generalize ob j = obj at *
      generalize cp j = cpj at *
      generalize hlnj : ln j = lnj at *
      clear hlnj
      subst hln
      generalize hwo : wr = wo at *
      clear hwo
      have e1 : IntKind.i64.wrap ((j : Int) + 1) = ((j + 1 : Nat) : Int) := by rw [IntKind.wrap_i64]; omega
      go_wp2_with fail
      have EB := heap_alloc_new wo (.cells (thC (.slice none 0 0) (.slice none 0 0) (newT [])).toArray 116)
      have HI0 : Hid (ThI wo wo.heap.size (L.take 0) (.slice none 0 0) (wo.alloc (.cells (thC (.slice none 0 0) (.slice none 0 0) (newT [])).toArray 116))) := Lib.hid ⟨EB, World.ownsRow_nil _ _ _ _, (Below.refl _ _).alloc (Nat.le_refl _) _, by simp⟩
      clear EB
      go_loopw [6] (fun iv wl => ∃ (i : Nat) (u : Value), i ≤ min L.length 65536 ∧ iv = .int .i64 i ∧ Hid (ThI wo wo.heap.size (L.take i) u wl)) (fun iv _ => L.length - (intOf iv).toNat)
      case atStart => exact ⟨0, _, by omega, rfl, HI0⟩
      case round =>
        obtain ⟨i, u, hi, rfl, HI⟩ := hrel
        obtain ⟨up, uc, rfl⟩ := slice_of HI.out.row
        have hlow : Below N w wr := HS.out.low.trans (HI.out.low.mono HS.out.nw)
        have hin2 : wr.cell? ⟨tbb, tof + j, none⟩ = some (.slice obj L.length cpj) := (World.cell?_of_block (w := wo) (HI.out.low.block _ (World.block_lt_of_cell? wo _ hin))).trans hin
        by_cases hil : i < min L.length 65536
        · have hil' : (i : Int) < (L.length : Int) := by omega
          have hi65 : (i : Int) < 65536 := by omega
          obtain ⟨p, hp⟩ : ∃ p, L[i]? = some p := ⟨_, List.getElem?_eq_getElem (by omega)⟩
          obtain ⟨pb, po, rfl, hpc⟩ := hob.out (by intro z; rw [z] at hp; simp at hp)
          obtain ⟨q0, q1, q2, q3⟩ := hpc i p hp
          have q0 := cell_belowR hlow hN.out q0
          have q1 := cell_belowR hlow hN.out q1
          have q2 := cell_belowR hlow hN.out q2
          have q3 := cell_belowR hlow hN.out q3
          have htk : L.take (i + 1) = L.take i ++ [p] := by
            have hlt2 : i < L.length := by omega
            rw [List.take_succ_eq_append_getElem hlt2]
            have := (List.getElem?_eq_some_iff.1 hp).2
            rw [this]
          have hlen : (L.take i).length = i := by rw [List.length_take]; omega
          have c0 : wr.cell? ⟨wo.heap.size, 0, none⟩ = some (.slice up (L.take i).length uc) := by rw [cellAt HI.out.blk 0]; rfl
          have al : ∀ {a : Addr} {v : Value} (o : Obj), wr.cell? a = some v → (wr.alloc o).cell? a = some v := fun {a v} o hv => (World.cell?_of_block (w := wr) (Below.heap_alloc _ _ _ (World.block_lt_of_cell? wr _ hv))).trans hv
          have c0' := al (.cells #[.int .i64 p.kind, .int .i64 p.a, .int .i64 p.b, .int .i64 p.c] 94) c0
          have HD : ThI wo wo.heap.size (L.take i) (.slice up (L.take i).length uc) wr.drew := ⟨HI.out.blk, HI.out.row, HI.out.low.drew, HI.out.lt⟩
          have HOW := HD.row.alloc (.cells #[.int .i64 p.kind, .int .i64 p.a, .int .i64 p.b, .int .i64 p.c] 94)
          have HSX := src_oneQ wr.drew p.kind p.a p.b p.c
          have hlt3 := HI.out.lt
          obtain ⟨v', w2, hrun, ha⟩ := run_append_rowQ (P := Try.prog) (wr.drew.alloc (.cells #[.int .i64 p.kind, .int .i64 p.a, .int .i64 p.b, .int .i64 p.c] 94)) wo.heap.size 92 92 94 i94 _ 32 Try.underlying92 hi94 a1 a2 a3 (by rfl) (.slice up (L.take i).length uc) (L.take i).length _ HOW (.slice (some ⟨wr.heap.size, 0, none⟩) 1 1) 1 [.int .i64 p.kind, .int .i64 p.a, .int .i64 p.b, .int .i64 p.c] HSX (by unfold maxLen; omega) (by omega) (by show wo.heap.size ≤ (wr.alloc (.cells #[.int .i64 p.kind, .int .i64 p.a, .int .i64 p.b, .int .i64 p.c] 94)).heap.size; simp; omega)
          have HRUN : Hid ((Builtin.append_ #[92, 92] 92 #[.slice up (L.take i).length uc, .slice (some ⟨wr.heap.size, 0, none⟩) 1 1]).run Try.prog (wr.alloc (.cells #[.int .i64 p.kind, .int .i64 p.a, .int .i64 p.b, .int .i64 p.c] 94)).drew = .ok v' w2) := Lib.hid hrun
          obtain ⟨hb2, HM⟩ := HD.more ha
          rw [← htk] at HM
          obtain ⟨vp2, vc2, rfl⟩ := slice_of HM.row
          have d0 : w2.cell? ⟨wo.heap.size, 0, none⟩ = some (.slice up (L.take i).length uc) := by rw [cellAt hb2 0]; rfl
          have y0 := freeAt hb2 0
          have hlen2 : (L.take (i + 1)).length = i + 1 := by rw [List.length_take]; omega
          rw [hlen] at c0 c0' HRUN d0
          rw [hlen2] at HM
          clear hrun ha HOW HSX HD hb2 al hpc
          replace HM := Lib.hid HM
          replace hp := Lib.hid hp
          replace htk := Lib.hid htk
          replace hlen := Lib.hid hlen
          replace hlen2 := Lib.hid hlen2
          replace HI := Lib.hid HI
          have e2 : IntKind.i64.wrap ((i : Int) + 1) = ((i + 1 : Nat) : Int) := by rw [IntKind.wrap_i64]; omega
          obtain ⟨pk, pa, pb', pc⟩ := p
          simp only at q0 q1 q2 q3 c0' HRUN
          go_upto_region 9 with fail
          go_region_law (refine step_append_run (by rfl) _ _ 92 92 (by rfl) (.slice up i uc) (.slice (some ⟨wr.heap.size, 0, none⟩) 1 1) (by rfl) (by rfl) HRUN.out ?_)
          all_goals
            go_wp2_with fail
            refine ⟨⟨i + 1, .slice vp2 (i + 1) vc2, by omega, by rw [Int.natCast_add]; rfl, ?_⟩, by simp [intOf]; omega⟩
            first
              | exact HM
              | (rw [show min (i + 1) L.length = i + 1 by omega]; exact HM)
        · by_cases hil' : (i : Int) < (L.length : Int)
          · have hi65 : ¬ (i : Int) < 65536 := by omega
            have hk' : L.take i = L.take 65536 := by
              by_cases h : L.length ≤ 65536
              · rw [List.take_of_length_le h, List.take_of_length_le (by omega)]
              · rw [show i = 65536 by omega]
            have hI : ThI wo wo.heap.size ((LL.getD j []).take 65536) (.slice up (L.take i).length uc) wr := by
              have := HI.out
              rw [hL.out, ← hk']; exact this
            have HO1 := Lib.hid ((ownsRow_below rfl HI.out.low HS.out.row).alloc (.cells #[.pointer (some ⟨wo.heap.size, 0, none⟩)] 87))
            have HSx := Lib.hid (src_one2 wr (.pointer (some ⟨wo.heap.size, 0, none⟩)) 87 rfl)
            have HT := Lib.hid (fun v' w2 ha => HS.out.more (v' := v') (w2 := w2) rfl hI ha)
            have hnw := Lib.hid (show N ≤ wr.heap.size from by have := HS.out.nw; have := HI.out.lt; omega)
            clear hk' hI
            replace HI := Lib.hid HI
            go_wp2_with (at_builtin; (refine wpList_append_row rfl (.tmp 48) (.tmp 50) 82 rfl N 87 i87 _ _ Try.underlying82 hi87 b1 b2 b3 rfl (.slice vp j vc) j _ rfl HO1.out 1 _ HSx.out ?l2 ?b2 ?n2 ?_); (case l2 => (unfold maxLen; omega)); (case b2 => omega); (case n2 => (have h1 := hnw.out; simp; omega)); intro v' w2 ha; obtain ⟨⟨g, cap, rfl⟩, hH2⟩ := HT.out _ _ ha; have HH := Lib.hid hH2; clear hH2 ha)
            refine ⟨⟨j + 1, _, _, by omega, by rw [Int.natCast_add]; rfl, HH⟩, by simp [intOf]; omega⟩
          · have hilen : i = L.length := by omega
            have hk' : L.take i = L.take 65536 := by
              by_cases h : L.length ≤ 65536
              · rw [List.take_of_length_le h, List.take_of_length_le (by omega)]
              · rw [show i = 65536 by omega]
            have hI : ThI wo wo.heap.size ((LL.getD j []).take 65536) (.slice up (L.take i).length uc) wr := by
              have := HI.out
              rw [hL.out, ← hk']; exact this
            have HO1 := Lib.hid ((ownsRow_below rfl HI.out.low HS.out.row).alloc (.cells #[.pointer (some ⟨wo.heap.size, 0, none⟩)] 87))
            have HSx := Lib.hid (src_one2 wr (.pointer (some ⟨wo.heap.size, 0, none⟩)) 87 rfl)
            have HT := Lib.hid (fun v' w2 ha => HS.out.more (v' := v') (w2 := w2) rfl hI ha)
            have hnw := Lib.hid (show N ≤ wr.heap.size from by have := HS.out.nw; have := HI.out.lt; omega)
            clear hk' hI
            replace HI := Lib.hid HI
            go_wp2_with (at_builtin; (refine wpList_append_row rfl (.tmp 48) (.tmp 50) 82 rfl N 87 i87 _ _ Try.underlying82 hi87 b1 b2 b3 rfl (.slice vp j vc) j _ rfl HO1.out 1 _ HSx.out ?l2 ?b2 ?n2 ?_); (case l2 => (unfold maxLen; omega)); (case b2 => omega); (case n2 => (have h1 := hnw.out; simp; omega)); intro v' w2 ha; obtain ⟨⟨g, cap, rfl⟩, hH2⟩ := HT.out _ _ ha; have HH := Lib.hid hH2; clear hH2 ha)
            refine ⟨⟨j + 1, _, _, by omega, by rw [Int.natCast_add]; rfl, HH⟩, by simp [intOf]; omega⟩
    · obtain rfl : j = min LL.length 64 := by omega
      by_cases hlt' : ((min LL.length 64 : Nat) : Int) < (LL.length : Int)
      · have h64 : ¬ ((min LL.length 64 : Nat) : Int) < 64 := by omega
        go_wp2_with fail
        go_ret
        unfold DoneThr
        rw [hN.out]
        exact ⟨_, rfl, tb, vo, HS.out⟩
      · go_wp2_with fail
        go_ret
        unfold DoneThr
        rw [hN.out]
        exact ⟨_, rfl, tb, vo, HS.out⟩
end Go.Proofs.Ytimkkeomdkbcjaa

/-
  The document's machine: Trace (f36), walked. No condition of its own.
-/
namespace Go.Proofs.Ytimkkeomdkbcjaa
open Go.Conc Go.RowKit
theorem info75t : (Try.prog.info? 75).map (fun i => (i.zero, i.size, i.bytes)) = some (some (.slice none 0 0), 1, 24) := by kernel_rfl
structure TrL (w0 : World) (N : Nat) (va : Nat → Value) (vo vst : Value) (st : Bool) (j : Nat) (v : Value) (w : World) : Prop where
  res : w.heap[N]? = some (.cells #[.slice none 0 0, .slice none 0 0, .slice none 0 0, .bool false] 63 (0, 0))
  blk : w.heap[N + 1]? = some (.cells #[v, vo, vst, .bool st] 63 (0, 0))
  row : w.ownsRow N 75 1 v j ((List.range j).map va)
  low : Below N w0 w
theorem TrL.more {w0 w w2 : World} {N : Nat} {va : Nat → Value} {vo vst v v' : Value} {st : Bool} {j : Nat} (h : TrL w0 N va vo vst st j v w) (hA : Appended (w.alloc (.cells #[va j] 75)) N 75 v j 1 (((List.range j).map va) ++ [va j]) v' w2) :
    w2.heap[N + 1]? = some (.cells #[v, vo, vst, .bool st] 63 (0, 0)) ∧ TrL w0 N va vo vst st (j + 1) v' (w2.setCell ⟨N + 1, 0, none⟩ v') := by
  obtain ⟨ho, hg, hsh⟩ := hA
  have h2 := h.row.alloc (.cells #[va j] 75)
  have kp : ∀ {b : Nat} {cs : Array Value}, w.heap[b]? = some (.cells cs 63 (0, 0)) → w2.heap[b]? = some (.cells cs 63 (0, 0)) := fun {b cs} hb => by
    have hb' : (w.alloc (.cells #[va j] 75)).heap[b]? = some (.cells cs 63 (0, 0)) := (Below.heap_alloc _ _ _ (Array.getElem?_eq_some_iff.1 hb).1).trans hb
    refine (hg.block b (Array.getElem?_eq_some_iff.1 hb').1 fun z => ?_).trans hb'
    obtain ⟨cc, hcc⟩ := ownsRow_type h2 z.symm
    rw [hb'] at hcc
    simp at hcc
  have hB := kp h.blk
  have hs := storedAt hB 0 v'
  simp only [List.setIfInBounds_toArray, List.set_cons_zero] at hs
  have lt := (Array.getElem?_eq_some_iff.1 h.blk).1
  refine ⟨hB, ?_, hs, ?_, (grown_belowQ h2 (h.low.alloc (by omega) _) (by simp; omega) hg).setCell (Nat.le_succ _) _⟩
  · rw [Below.heap_setCell _ _ _ _ (Nat.ne_of_lt (Nat.lt_succ_self N))]; exact kp h.res
  · refine ownsRow_set ?_ hB (by decide)
    rw [List.range_succ, List.map_append]
    exact ho
def DoneTr (n : Nat) (va : Nat → Value) (vo vst : Value) (st : Bool) (w : World) (e : Ending) (w' : World) : Prop := ∃ v, e = .returned (.agg #[v, vo, vst, .bool st]) ∧ w'.ownsRow w.heap.size 75 1 v n ((List.range n).map va) ∧ Below w.heap.size w w'
set_option maxRecDepth 100000 in
set_option maxHeartbeats 2000000 in
theorem trace_walk {base ub n : Nat} {vs vo vth : Value} {u : TU} {tb : Nat → Nat} {va : Nat → Value} {sp : Option Addr} {sl sc : Nat} {w : World} (hU : TuB base ub vs vo u w) (hrow : w.ownsRow base 87 1 vth n ((List.range n).map fun i => .pointer (some ⟨tb i, 0, none⟩))) (hn : n ≤ 64)
    (hth : ∀ i, i < n → w.cell? ⟨tb i, 12, none⟩ = some (va i) ∧ ∃ p l c, va i = .slice p l c) :
    Calls Try.prog 36 #[.pointer (some ⟨ub, 0, none⟩), vth, .slice sp sl sc] w (DoneTr n va vo (.slice sp sl sc) u.stuck w) := by
  obtain ⟨i75, hi75, a1, a2, a3⟩ := info_parts info75t
  obtain ⟨op, oc, rfl⟩ := slice_of hU.rowO
  obtain ⟨tp, tc, e1, hle, hptr⟩ := row_cells hrow
  subst e1
  have u4 : w.cell? ⟨ub, 4, none⟩ = some (.slice op u.ord.length oc) := by rw [cellAt hU.blk 4]; rfl
  have u5 : w.cell? ⟨ub, 5, none⟩ = some (.bool u.stuck) := by rw [cellAt hU.blk 5]; rfl
  have al : ∀ {w1 : World} {a : Addr} {v : Value} (o : Obj), w1.cell? a = some v → (w1.alloc o).cell? a = some v := fun {w1 a v} o hv => (World.cell?_of_block (w := w1) (Below.heap_alloc _ _ _ (World.block_lt_of_cell? w1 _ hv))).trans hv
  have v4 := al (.cells #[.slice none 0 0, .slice none 0 0, .slice none 0 0, .bool false] 63) u4
  have v5 := al (.cells #[.slice none 0 0, .slice none 0 0, .slice none 0 0, .bool false] 63) u5
  have x4 := al (.cells #[.slice none 0 0, .slice none 0 0, .slice none 0 0, .bool false] 63) v4
  have x5 := al (.cells #[.slice none 0 0, .slice none 0 0, .slice none 0 0, .bool false] 63) v5
  have R0 := heap_alloc_new w (.cells #[.slice none 0 0, .slice none 0 0, .slice none 0 0, .bool false] 63)
  have B0 : Below w.heap.size w (w.alloc (.cells #[.slice none 0 0, .slice none 0 0, .slice none 0 0, .bool false] 63)) := (Below.refl _ _).alloc (Nat.le_refl _) _
  have S0 : (w.alloc (.cells #[.slice none 0 0, .slice none 0 0, .slice none 0 0, .bool false] 63)).heap.size = w.heap.size + 1 := by simp
  clear u4 u5 al
  generalize hst : u.stuck = st at *
  replace hst := Lib.hid hst
  replace hth := Lib.hid hth
  replace hptr := Lib.hid hptr
  replace hU := Lib.hid hU
  go_enter Try.func36, Try.ntmps36
  go_upto_region 1 with fail
  generalize w.alloc (.cells #[.slice none 0 0, .slice none 0 0, .slice none 0 0, .bool false] 63) = w1 at *
  generalize hN : w.heap.size = N at *
  replace hN := Lib.hid hN
  go_region
  have hN1 : w1.heap.size = N + 1 := S0
  have L0 : TrL w N va (.slice op u.ord.length oc) (.slice sp sl sc) st 0 (.slice none 0 0) (w1.alloc (.cells #[.slice none 0 0, .slice op u.ord.length oc, .slice sp sl sc, .bool st] 63)).drew := by
    have e := heap_alloc_new w1 (.cells #[.slice none 0 0, .slice op u.ord.length oc, .slice sp sl sc, .bool st] 63)
    rw [hN1] at e
    exact ⟨(Below.heap_alloc _ _ _ (by omega)).trans R0, e, World.ownsRow_nil _ _ _ _, (B0.alloc (by omega) _).drew⟩
  generalize (w1.alloc (.cells #[.slice none 0 0, .slice op u.ord.length oc, .slice sp sl sc, .bool st] 63)).drew = w2 at *
  clear v4 v5 x4 x5 R0 B0 S0
  replace L0 := Lib.hid L0
  go_wp2_with fail
  go_loopw [8] (fun iv wr => ∃ (j : Nat) (v : Value), j ≤ n ∧ iv = .int .i64 j ∧ Hid (TrL w N va (.slice op u.ord.length oc) (.slice sp sl sc) st j v wr)) (fun iv _ => n - (intOf iv).toNat)
  case atStart => exact ⟨0, _, by omega, rfl, L0⟩
  case round =>
    obtain ⟨j, v, hj, rfl, HL⟩ := hrel
    obtain ⟨vp, vc, rfl⟩ := slice_of HL.out.row
    by_cases hlt : j < n
    · have hlt' : (j : Int) < (n : Int) := by omega
      obtain ⟨g, cc, rfl, _, hg, hgc⟩ := hptr.out (by omega)
      have p0 : w.cell? ⟨g, j, none⟩ = some (.pointer (some ⟨tb j, 0, none⟩)) := by rw [cellAt hg j, hgc j hlt]; simp [hlt]
      obtain ⟨q0, pa, la, ca, hva⟩ := hth.out j hlt
      have p0 := cell_belowR HL.out.low hN.out p0
      have q0 := cell_belowR HL.out.low hN.out q0
      have b0 : wr.cell? ⟨N + 1, 0, none⟩ = some (.slice vp j vc) := by rw [cellAt HL.out.blk 0]; rfl
      have al : ∀ {a : Addr} {v : Value} (o : Obj), wr.cell? a = some v → (wr.alloc o).cell? a = some v := fun {a v} o hv => (World.cell?_of_block (w := wr) (Below.heap_alloc _ _ _ (World.block_lt_of_cell? wr _ hv))).trans hv
      have b0' := al (.cells #[va j] 75) b0
      have HD : TrL w N va (.slice op u.ord.length oc) (.slice sp sl sc) st j (.slice vp j vc) wr.drew := ⟨HL.out.res, HL.out.blk, HL.out.row, HL.out.low.drew⟩
      have HOW := HD.row.alloc (.cells #[va j] 75)
      have HSX := src_one2 wr.drew (va j) 75 (by rw [hva]; rfl)
      have hlt3 := (Array.getElem?_eq_some_iff.1 HL.out.blk).1
      obtain ⟨v', w3, hrun, ha⟩ := run_append_row (P := Try.prog) (wr.drew.alloc (.cells #[va j] 75)) N 61 61 75 i75 _ 24 Try.underlying61 hi75 a1 a2 a3 (by rfl) (.slice vp j vc) j _ HOW (.slice (some ⟨wr.heap.size, 0, none⟩) 1 1) 1 [va j] HSX (by unfold maxLen; omega) (by omega) (by show N ≤ (wr.alloc (.cells #[va j] 75)).heap.size; simp; omega)
      have HRUN : Hid ((Builtin.append_ #[61, 61] 61 #[.slice vp j vc, .slice (some ⟨wr.heap.size, 0, none⟩) 1 1]).run Try.prog (wr.alloc (.cells #[va j] 75)).drew = .ok v' w3) := Lib.hid hrun
      obtain ⟨hb2, HM⟩ := HD.more ha
      obtain ⟨vp2, vc2, rfl⟩ := slice_of HM.row
      have d0 : w3.cell? ⟨N + 1, 0, none⟩ = some (.slice vp j vc) := by rw [cellAt hb2 0]; rfl
      have y0 := freeAt hb2 0
      clear hrun ha HOW HSX HD hb2 al
      have e2 : IntKind.i64.wrap ((j : Int) + 1) = ((j + 1 : Nat) : Int) := by rw [IntKind.wrap_i64]; omega
      rw [hva] at q0 b0' HRUN
      replace HM := Lib.hid HM
      replace HL := Lib.hid HL
      replace hg := Lib.hid hg
      replace hgc := Lib.hid hgc
      replace hva := Lib.hid hva
      go_upto_region 5 with fail
      go_region_law (refine step_append_run (by rfl) _ _ 61 61 (by rfl) (.slice vp j vc) (.slice (some ⟨wr.heap.size, 0, none⟩) 1 1) (by rfl) (by rfl) HRUN.out ?_)
      all_goals
        go_wp2_with fail
        refine ⟨⟨j + 1, .slice vp2 (j + 1) vc2, by omega, by rw [Int.natCast_add]; rfl, HM⟩, by simp [intOf]; omega⟩
    · obtain rfl : j = n := by omega
      have b0 : wr.cell? ⟨N + 1, 0, none⟩ = some (.slice vp j vc) := by rw [cellAt HL.out.blk 0]; rfl
      have b1 : wr.cell? ⟨N + 1, 1, none⟩ = some (.slice op u.ord.length oc) := by rw [cellAt HL.out.blk 1]; rfl
      have b2 : wr.cell? ⟨N + 1, 2, none⟩ = some (.slice sp sl sc) := by rw [cellAt HL.out.blk 2]; rfl
      have b3 : wr.cell? ⟨N + 1, 3, none⟩ = some (.bool st) := by rw [cellAt HL.out.blk 3]; rfl
      have r0 : wr.cell? ⟨N, 0, none⟩ = some (.slice none 0 0) := by rw [cellAt HL.out.res 0]; rfl
      have r1 : wr.cell? ⟨N, 1, none⟩ = some (.slice none 0 0) := by rw [cellAt HL.out.res 1]; rfl
      have r2 : wr.cell? ⟨N, 2, none⟩ = some (.slice none 0 0) := by rw [cellAt HL.out.res 2]; rfl
      have r3 : wr.cell? ⟨N, 3, none⟩ = some (.bool false) := by rw [cellAt HL.out.res 3]; rfl
      have y0 := freeAt HL.out.res 0
      have y1 := freeAt HL.out.res 1
      have y2 := freeAt HL.out.res 2
      have y3 := freeAt HL.out.res 3
      obtain ⟨x1, x2, x3⟩ := set4 (x := .slice vp j vc) (y := .slice op u.ord.length oc) (z := .slice sp sl sc) (u := .bool st) HL.out.res
      have BF := (((HL.out.low.setCell (p := ⟨N, 0, none⟩) (Nat.le_refl N) (.slice vp j vc)).setCell (p := ⟨N, 1, none⟩) (Nat.le_refl N) (.slice op u.ord.length oc)).setCell (p := ⟨N, 2, none⟩) (Nat.le_refl N) (.slice sp sl sc)).setCell (p := ⟨N, 3, none⟩) (Nat.le_refl N) (.bool st)
      have RF : World.ownsRow ((((wr.setCell ⟨N, 0, none⟩ (.slice vp j vc)).setCell ⟨N, 1, none⟩ (.slice op u.ord.length oc)).setCell ⟨N, 2, none⟩ (.slice sp sl sc)).setCell ⟨N, 3, none⟩ (.bool st)) N 75 1 (.slice vp j vc) j ((List.range j).map va) := ownsRow_keep HL.out.row fun g o hgo hh => by
        obtain ⟨cc, hcc⟩ := ownsRow_type HL.out.row hgo
        refine (x2 g fun z => ?_).trans hh
        rw [z, HL.out.res] at hcc
        simp at hcc
      replace x1 := Lib.hid x1
      replace BF := Lib.hid BF
      replace RF := Lib.hid RF
      clear x2 x3
      go_wp2_with fail
      refine bodyPost_ret (results_cell_row (fn := Try.f36) (p := 6) (ty := 63) rfl _ _ N 63 _ (0, 0) _ rfl x1.out Try.underlying63 rfl size63) rfl ?_
      unfold DoneTr
      rw [hN.out]
      exact ⟨_, rfl, RF.out, BF.out⟩
end Go.Proofs.Ytimkkeomdkbcjaa

/-
  The document's machine: begin (f33), walked. No condition of its own.
-/
namespace Go.Proofs.Ytimkkeomdkbcjaa
open Go.Conc Go.RowKit
def begin1 (k : Nat) (t : RT) : RT :=
  if (opR t.ops t.i).kind = 1 ∧ ((opR t.ops t.i).c < 1 ∨ 3 < (opR t.ops t.i).c) then endT { t with n0 := 0, n1 := 0 } (false, 2)
  else if (opR t.ops t.i).kind = 1 ∧ k = 0 then endT { t with n0 := 0, n1 := 0 } (false, 6)
  else if (opR t.ops t.i).kind = 2 ∧ k = 0 then endT { t with n0 := 0, n1 := 0 } (true, -1)
  else if 1 ≤ (opR t.ops t.i).kind ∧ (opR t.ops t.i).kind ≤ 5 then { t with n0 := 0, n1 := 0, pc := 10 * (opR t.ops t.i).kind }
  else if ((opR t.ops t.i).kind = 6 ∨ (opR t.ops t.i).kind = 7) ∧ 0 ≤ (opR t.ops t.i).a ∧ (opR t.ops t.i).a < k then { t with n0 := 0, n1 := 0, pc := 10 * (opR t.ops t.i).kind }
  else endT { t with n0 := 0, n1 := 0 } (false, 0)
def beginF (k : Nat) : Nat → RT → RT
  | 0, t => { t with ended := decide (t.ops.length ≤ t.i) }
  | f + 1, t => if t.pc = 0 ∧ t.i < t.ops.length then beginF k f (begin1 k t) else { t with ended := decide (t.ops.length ≤ t.i) }
def fuelB (t : RT) : Nat := t.ops.length - t.i + 1
def beginT (k : Nat) (t : RT) : RT := beginF k (fuelB t) t
theorem begin1_ops (k : Nat) (t : RT) : (begin1 k t).ops = t.ops := by
  unfold begin1; repeat' split
  all_goals rfl
theorem begin1_i (k : Nat) (t : RT) : ((begin1 k t).i = t.i + 1 ∧ (begin1 k t).pc = 0 ∧ (begin1 k t).ans.length = t.ans.length + 1) ∨ ((begin1 k t).i = t.i ∧ (begin1 k t).pc ≠ 0 ∧ (begin1 k t).ans = t.ans) := by
  unfold begin1
  repeat' split
  all_goals first
    | exact .inl ⟨rfl, rfl, by simp [endT]⟩
    | (refine .inr ⟨rfl, ?_, rfl⟩; show 10 * (opR t.ops t.i).kind ≠ 0; omega)
theorem beginF_stop {k : Nat} {t : RT} (h : ¬ (t.pc = 0 ∧ t.i < t.ops.length)) : ∀ f, beginF k f t = { t with ended := decide (t.ops.length ≤ t.i) }
  | 0 => rfl
  | f + 1 => by simp only [beginF]; rw [if_neg h]
theorem beginF_enough (k : Nat) : ∀ (f g : Nat) (t : RT), t.ops.length < t.i + f → t.ops.length < t.i + g → beginF k f t = beginF k g t
  | 0, g, t, h1, h2 => by rw [beginF_stop (by omega) 0, beginF_stop (by omega) g]
  | f + 1, 0, t, h1, h2 => by rw [beginF_stop (by omega) (f + 1), beginF_stop (by omega) 0]
  | f + 1, g + 1, t, h1, h2 => by
    by_cases hc : t.pc = 0 ∧ t.i < t.ops.length
    · simp only [beginF]
      rw [if_pos hc, if_pos hc]
      have ho := begin1_ops k t
      rcases begin1_i k t with ⟨a, b, _⟩ | ⟨a, b, _⟩
      · exact beginF_enough k f g _ (by rw [ho, a]; omega) (by rw [ho, a]; omega)
      · rw [beginF_stop (fun z => b z.1), beginF_stop (fun z => b z.1)]
    · rw [beginF_stop hc, beginF_stop hc]
theorem beginT_step {k : Nat} {t : RT} (h : t.pc = 0 ∧ t.i < t.ops.length) : beginT k t = beginT k (begin1 k t) := by
  have e : beginT k t = beginF k (t.ops.length - t.i) (begin1 k t) := by
    unfold beginT fuelB
    simp only [beginF]
    rw [if_pos h]
  rw [e]
  have ho := begin1_ops k t
  rcases begin1_i k t with ⟨a, b, _⟩ | ⟨a, b, _⟩
  · exact beginF_enough k _ _ _ (by rw [ho, a]; omega) (by unfold fuelB; rw [ho, a]; omega)
  · unfold beginT
    rw [beginF_stop (fun z => b z.1), beginF_stop (fun z => b z.1)]
theorem beginT_stop {k : Nat} {t : RT} (h : ¬ (t.pc = 0 ∧ t.i < t.ops.length)) : beginT k t = { t with ended := decide (t.ops.length ≤ t.i) } := beginF_stop h _
def natAt (w : World) (tb c : Nat) : Nat := match w.cell? ⟨tb, c, none⟩ with
  | some v => (intOf v).natAbs
  | none => 0
def measB (n tb : Nat) (w : World) : Nat := (n - natAt w tb 1) * 2 + (if natAt w tb 2 = 0 then 1 else 0)
end Go.Proofs.Ytimkkeomdkbcjaa

/-
  THE PLAIN LAW of one thread: what is left of it, told by where the document's machine stands. No program in sight; no condition of its own.
-/
namespace Go.Proofs.Ytimkkeomdkbcjaa
open Go.ConcN renaming upd → updN
open Go.ConcN (upd_ne upd_same)
def coF (F : Fu BM) : Co BM := .step (fun m => (F m).1) (fun m => (F m).2)
def tellO (k i : Nat) (l : List OpD) (r : Bool × Int) : Fu BM := fun m => opsT k i l { m with an := updN m.an i (m.an i ++ [r]) }
def limR (κ : Int → Fu BM) (k j : Nat) (n2 : Int) : Fu BM := fun m => limL κ (k - 1 - j) (j + 1) (if j = 0 then m.wv j else min n2 (m.wv j)) m
def leftT (t : RT) : Nat := (triesR (opR t.ops t.i).b).toNat - 1 - t.n0.toNat
def waitW (k i : Nat) (t : RT) : Int → Int → Fu BM := waitK (tellO k i (t.ops.drop (t.i + 1)))
def eagN (k i : Nat) (t : RT) : Fu BM := eagerL (waitW k i t) k (opR t.ops t.i).a ((opR t.ops t.i).c == 1) (leftT t) (t.n0.toNat + 1)
def leanS (k i : Nat) (t : RT) : Fu BM := fun m => leanV (waitW k i t) k (opR t.ops t.i).a (leanL (waitW k i t) k (opR t.ops t.i).a (leftT t)) t.n1.toNat t.n2 (m.wv t.n1.toNat) m
def resF (k i : Nat) (t : RT) : Fu BM :=
  if t.pc = 10 then
    if (opR t.ops t.i).c = 2 then fun m => (fun b : Bool => if b = true then waitW k i t 0 5 else stepF (leanS k i t)) m.al m
    else fun m => eagerB (waitW k i t) k (opR t.ops t.i).a (eagN k i t) m.al m
  else if t.pc = 11 then
    if (opR t.ops t.i).c = 2 then leanS k i t
    else limR (eagerG (waitW k i t) (opR t.ops t.i).a (eagN k i t)) k t.n1.toNat t.n2
  else if t.pc = 20 then limR (fun n => tellO k i (t.ops.drop (t.i + 1)) (true, n)) k t.n1.toNat t.n2
  else if t.pc = 30 then fun m => tellO k i (t.ops.drop (t.i + 1)) (!m.al, 0) { m with al := true }
  else if t.pc = 40 then fun m => tellO k i (t.ops.drop (t.i + 1)) (m.al, 0) { m with al := false }
  else if t.pc = 50 then fun m => tellO k i (t.ops.drop (t.i + 1)) (m.al, 0) m
  else if t.pc = 60 then fun m => tellO k i (t.ops.drop (t.i + 1)) (true, 0) { m with wv := updN m.wv (opR t.ops t.i).a.toNat (opR t.ops t.i).b }
  else fun m => tellO k i (t.ops.drop (t.i + 1)) (true, addW (m.wv (opR t.ops t.i).a.toNat) (opR t.ops t.i).b) { m with wv := updN m.wv (opR t.ops t.i).a.toNat (addW (m.wv (opR t.ops t.i).a.toNat) (opR t.ops t.i).b) }
def coT (k i : Nat) (t : RT) : Co BM := if t.ops.length ≤ t.i then .fin else coF (resF k i t)
def bM (m : BM) (i : Nat) (t : RT) : BM := { m with an := updN m.an i t.ans }
theorem updN_self {α : Type} (f : Nat → α) (i : Nat) : updN f i (f i) = f := by
  funext j
  by_cases h : j = i
  · subst h; exact upd_same _ _ _
  · exact upd_ne _ _ h
theorem updN_twice {α : Type} (f : Nat → α) (i : Nat) (x y : α) : updN (updN f i x) i y = updN f i y := by
  funext j
  by_cases h : j = i
  · subst h; rw [upd_same, upd_same]
  · rw [upd_ne _ _ h, upd_ne _ _ h, upd_ne _ _ h]
theorem leanL_zero (κ : Int → Int → Fu BM) (k : Nat) (q : Int) : ∀ (r : Nat) (n n' : Int), leanL κ k q r 0 n = leanL κ k q r 0 n'
  | 0, _, _ => rfl
  | r + 1, n, n' => by
    have e : (fun m : BM => leanV κ k q (leanL κ k q r) 0 n (m.wv 0) m) = fun m => leanV κ k q (leanL κ k q r) 0 n' (m.wv 0) m := by
      funext m
      unfold leanV
      rw [leanL_zero κ k q r n n', show leanN 0 n (m.wv 0) = leanN 0 n' (m.wv 0) by unfold leanN; rw [if_pos (.inl rfl), if_pos (.inl rfl)]]
    unfold leanL
    rw [e]
theorem stand_eq {k i : Nat} {t : RT} {m : BM} (hi : t.i < t.ops.length) (hp : t.pc ≠ 0) (ha : m.an i = t.ans) {F : Fu BM} (hF : resF k i t = F) : (m, coF F) = (bM m i (beginT k t), coT k i (beginT k t)) := by
  rw [beginT_stop (fun z => hp z.1)]
  have e1 : bM m i { t with ended := decide (t.ops.length ≤ t.i) } = m := by
    unfold bM
    show ({ m with an := updN m.an i t.ans } : BM) = m
    rw [← ha, updN_self]
  have e2 : coT k i { t with ended := decide (t.ops.length ≤ t.i) } = coF F := by
    unfold coT
    rw [if_neg (by show ¬ t.ops.length ≤ t.i; omega)]
    rw [← hF]
    rfl
  rw [e1, e2]
theorem tries_eq (b : Int) : triesT (min (max b 0) 1024) = (triesR b).toNat := by unfold triesT triesR; congr 1; omega
theorem tries_pos (b : Int) : 1 ≤ triesR b ∧ triesR b ≤ 1024 := by unfold triesR; omega
theorem opR_drop {L : List OpD} {i : Nat} (h : i < L.length) : L.drop i = opR L i :: L.drop (i + 1) := by
  rw [List.drop_eq_getElem_cons h]
  congr 1
  unfold opR
  rw [List.getD_eq_getElem?_getD, List.getElem?_eq_getElem h]
  rfl
theorem sim_begin (k i : Nat) : ∀ (d : Nat) (t : RT) (m : BM), t.ops.length - t.i = d → t.pc = 0 → m.an i = t.ans → opsT k i (t.ops.drop t.i) m = (bM m i (beginT k t), coT k i (beginT k t))
  | 0, t, m, hd, hp, ha => by
    rw [List.drop_eq_nil_of_le (by omega), beginT_stop (fun z => by omega)]
    unfold coT
    rw [if_pos (by show t.ops.length ≤ t.i; omega)]
    show (m, Co.fin) = _
    congr 1
    unfold bM
    show m = ({ m with an := updN m.an i t.ans } : BM)
    rw [← ha, updN_self]
  | d + 1, t, m, hd, hp, ha => by
    have hi : t.i < t.ops.length := by omega
    rw [opR_drop hi, beginT_step ⟨hp, hi⟩]
    have tl : ∀ (r : Bool × Int) (t1 : RT), t1.ops = t.ops → t1.i = t.i → t1.ans = t.ans → tellO k i (t.ops.drop (t.i + 1)) r m = (bM m i (beginT k (endT t1 r)), coT k i (beginT k (endT t1 r))) := fun r t1 h1 h2 h3 => by
      have h := sim_begin k i d (endT t1 r) { m with an := updN m.an i (m.an i ++ [r]) } (by show t1.ops.length - (t1.i + 1) = d; rw [h1, h2]; omega) rfl (by show updN m.an i (m.an i ++ [r]) i = t1.ans ++ [r]; rw [upd_same, ha, h3])
      have e : (endT t1 r).ops.drop (endT t1 r).i = t.ops.drop (t.i + 1) := by show t1.ops.drop (t1.i + 1) = _; rw [h1, h2]
      rw [e] at h
      unfold tellO
      rw [h]
      congr 1
      unfold bM
      simp only
      rw [updN_twice]
    have st : ∀ (t1 : RT) (F : Fu BM), t1.ops = t.ops → t1.i = t.i → t1.ans = t.ans → t1.pc ≠ 0 → resF k i t1 = F → stepF (fun m => F m) m = (bM m i (beginT k t1), coT k i (beginT k t1)) := fun t1 F h1 h2 h3 h4 h5 => stand_eq (m := m) (by rw [h1, h2]; exact hi) h4 (by rw [h3]; exact ha) h5
    have hT := tries_eq (opR t.ops t.i).b
    have hT1 := tries_pos (opR t.ops t.i).b
    have hB : begin1 k t = begin1 k t := rfl
    conv at hB => rhs; unfold begin1
    show doF (tellO k i (t.ops.drop (t.i + 1))) k (opR t.ops t.i) m = _
    generalize hb1 : begin1 k t = b1 at *
    generalize ho : opR t.ops t.i = o at *
    obtain ⟨ok, oa, ob, oc⟩ := o
    simp only at hB hT hT1
    unfold doF
    simp only
    by_cases k1 : ok = 1
    · subst k1
      rw [if_pos rfl]
      unfold waitF
      by_cases hc : oc < 1 ∨ 3 < oc
      · rw [if_pos hc]
        rw [if_pos ⟨rfl, hc⟩] at hB
        subst hB
        exact tl (false, 2) _ rfl rfl rfl
      · rw [if_neg hc]
        rw [if_neg (fun z => hc z.2)] at hB
        by_cases k0 : k = 0
        · rw [if_pos k0]
          rw [if_pos ⟨rfl, k0⟩] at hB
          subst hB
          exact tl (false, 6) _ rfl rfl rfl
        · rw [if_neg k0, hT]
          rw [if_neg (fun z => k0 z.2), if_neg (fun z => absurd z.1 (by decide)), if_pos ⟨by decide, by decide⟩] at hB
          subst hB
          obtain ⟨T, hTT⟩ : ∃ T, (triesR ob).toNat = T + 1 := ⟨(triesR ob).toNat - 1, by omega⟩
          unfold waitT
          by_cases c2 : oc = 2
          · rw [if_pos c2, hTT, leanL_zero _ _ _ _ 0 t.n2]
            unfold leanL
            refine st _ _ rfl rfl rfl (by simp) ?_
            unfold resF
            simp only [ho]
            rw [if_pos (by simp), if_pos c2]
            unfold leanS waitW leftT
            simp only [ho]
            rw [hTT]
            rfl
          · rw [if_neg c2, hTT]
            unfold eagerL
            rw [if_pos (.inr rfl)]
            refine st _ _ rfl rfl rfl (by simp) ?_
            unfold resF
            simp only [ho]
            rw [if_pos (by simp), if_neg c2]
            unfold eagN waitW leftT
            simp only [ho]
            rw [hTT]
            rfl
    · rw [if_neg k1]
      rw [if_neg (fun z => k1 z.1), if_neg (fun z => k1 z.1)] at hB
      by_cases k2 : ok = 2
      · subst k2
        rw [if_pos rfl]
        unfold limF
        by_cases k0 : k = 0
        · rw [if_pos k0]
          rw [if_pos ⟨rfl, k0⟩] at hB
          subst hB
          exact tl (true, -1) _ rfl rfl rfl
        · rw [if_neg k0]
          rw [if_neg (fun z => k0 z.2), if_pos ⟨by decide, by decide⟩] at hB
          subst hB
          refine st _ _ rfl rfl rfl (by simp) ?_
          unfold resF
          simp only [ho]
          rw [if_neg (by simp), if_neg (by simp), if_pos (by simp)]
          rfl
      · rw [if_neg k2]
        rw [if_neg (fun z => k2 z.1)] at hB
        by_cases k3 : ok = 3
        · subst k3
          rw [if_pos rfl]
          rw [if_pos ⟨by decide, by decide⟩] at hB
          subst hB
          refine st _ _ rfl rfl rfl (by simp) ?_
          unfold resF
          rw [if_neg (by simp), if_neg (by simp), if_neg (by simp), if_pos (by simp)]
        · rw [if_neg k3]
          by_cases k4 : ok = 4
          · subst k4
            rw [if_pos rfl]
            rw [if_pos ⟨by decide, by decide⟩] at hB
            subst hB
            refine st _ _ rfl rfl rfl (by simp) ?_
            unfold resF
            rw [if_neg (by simp), if_neg (by simp), if_neg (by simp), if_neg (by simp), if_pos (by simp)]
          · rw [if_neg k4]
            by_cases k5 : ok = 5
            · subst k5
              rw [if_pos rfl]
              rw [if_pos ⟨by decide, by decide⟩] at hB
              subst hB
              refine st _ _ rfl rfl rfl (by simp) ?_
              unfold resF
              rw [if_neg (by simp), if_neg (by simp), if_neg (by simp), if_neg (by simp), if_neg (by simp), if_pos (by simp)]
            · rw [if_neg k5]
              rw [if_neg (fun z => by omega)] at hB
              by_cases k67 : ok = 6 ∨ ok = 7
              · rw [if_pos k67]
                unfold changeF
                simp only
                by_cases ha2 : oa < 0 ∨ (k : Int) ≤ oa
                · rw [if_pos ha2]
                  rw [if_neg (fun z => by omega)] at hB
                  subst hB
                  exact tl (false, 0) _ rfl rfl rfl
                · rw [if_neg ha2]
                  rw [if_pos ⟨k67, by omega, by omega⟩] at hB
                  subst hB
                  by_cases k6 : ok = 6
                  · subst k6
                    rw [if_pos rfl]
                    refine st _ _ rfl rfl rfl (by simp) ?_
                    unfold resF
                    simp only [ho]
                    rw [if_neg (by simp), if_neg (by simp), if_neg (by simp), if_neg (by simp), if_neg (by simp), if_neg (by simp), if_pos (by simp)]
                  · have k7 : ok = 7 := by omega
                    subst k7
                    rw [if_neg k6]
                    refine st _ _ rfl rfl rfl (by simp) ?_
                    unfold resF
                    simp only [ho]
                    rw [if_neg (by simp), if_neg (by simp), if_neg (by simp), if_neg (by simp), if_neg (by simp), if_neg (by simp), if_neg (by simp)]
              · rw [if_neg k67]
                rw [if_neg (fun z => k67 z.1)] at hB
                subst hB
                exact tl (false, 0) _ rfl rfl rfl
theorem tell_end {k i : Nat} {t : RT} {m : BM} (ha : m.an i = t.ans) (r : Bool × Int) : tellO k i (t.ops.drop (t.i + 1)) r m = (bM m i (beginT k (endT t r)), coT k i (beginT k (endT t r))) := by
  have h := sim_begin k i _ (endT t r) { m with an := updN m.an i (m.an i ++ [r]) } rfl rfl (by show updN m.an i (m.an i ++ [r]) i = t.ans ++ [r]; rw [upd_same, ha])
  unfold tellO
  rw [show t.ops.drop (t.i + 1) = (endT t r).ops.drop (endT t r).i from rfl, h]
  congr 1
  unfold bM
  simp only
  rw [updN_twice]
end Go.Proofs.Ytimkkeomdkbcjaa
