/-
  Merged out of: Play3 Play4 Play5 Play6. No condition of its own.
-/
import Derived.Test.YtimkkeomdkbcjaaPlaysP30
import Derived.Deep.CutRange
import Derived.Test.YtimkkeomdkbcjaaPlaysP23
set_option linter.unusedVariables false
set_option linter.unusedSimpArgs false
/-
  doing, alone (f43). No condition of its own.
-/
namespace Go.Proofs.Ytimkkeomdkbcjaa
open Go.Conc Go.RowKit
theorem info99 : (Try.prog.info? 99).map (fun i => (i.zero, i.size, i.bytes)) = some (some .nilFunc, 1, 8) := by kernel_rfl
theorem DM.drew {w0 w : World} {N dc ac ar n : Nat} {dv : Value} {S : Nat → Value} {k : Nat} {oc ic : Nat → Nat} {v : Value} (h : DM w0 N dc ac ar n dv S k oc ic v w) : DM w0 N dc ac ar n dv S k oc ic v w.drew := ⟨h.fdc, h.fac, h.far, h.foc, h.fic, h.row, h.low, h.nd, h.nw, h.outs⟩
theorem info75 : (Try.prog.info? 75).map (fun i => (i.zero, i.size, i.bytes)) = some (some (.slice none 0 0), 1, 24) := by kernel_rfl
theorem mk_ans {n : Nat} (hn : n ≤ 64) (W : World) : (Instr.makeSlice 61 (.int .i64 (n : Int)) (.int .i64 (n : Int))).run Try.prog W = .ok (.slice (some ⟨W.heap.size, 0, none⟩) n n) (W.alloc (.cells (madeCells #[.slice none 0 0] n) 75)) := by
  obtain ⟨i0, hi0, hz0, hz1, hz2⟩ := info_parts info75
  have := run_make (P := Try.prog) W 61 75 i0 _ Try.underlying61 hi0 hz0 .i64 .i64 (n : Int) (n : Int) (by omega) (by omega) (by rw [hz2]; omega) (by omega)
  rw [hz1, Nat.mul_one] at this
  simpa [Value.cells] using this
theorem dm_start (w : World) (n : Nat) (dv : Value) (S : Nat → Value) : DM w w.heap.size w.heap.size (w.heap.size + 2) (w.heap.size + 1) n dv S 0 (fun _ => 0) (fun _ => 0) (.slice none 0 0)
    (((w.alloc (.cells #[dv] 79)).alloc (.cells (madeCells #[.slice none 0 0] n) 75)).alloc (.cells #[.slice (some ⟨w.heap.size + 1, 0, none⟩) n n] 61)) := by
  have a1 := heap_alloc_new w (.cells #[dv] 79)
  have a2 := heap_alloc_new (w.alloc (.cells #[dv] 79)) (.cells (madeCells #[.slice none 0 0] n) 75)
  have a3 := heap_alloc_new ((w.alloc (.cells #[dv] 79)).alloc (.cells (madeCells #[.slice none 0 0] n) 75)) (.cells #[.slice (some ⟨w.heap.size + 1, 0, none⟩) n n] 61)
  have s1 : (w.alloc (.cells #[dv] 79)).heap.size = w.heap.size + 1 := by simp
  have s2 : ((w.alloc (.cells #[dv] 79)).alloc (.cells (madeCells #[.slice none 0 0] n) 75)).heap.size = w.heap.size + 2 := by simp
  rw [s1] at a2
  rw [s2] at a3
  refine ⟨?_, a3, ?_, fun j hj => by omega, fun j hj => by omega, World.ownsRow_nil _ _ _ _, fun b hb => ?_, ⟨Nat.le_refl _, by omega, by omega⟩, by simp; omega, rfl, rfl⟩
  · rw [Below.heap_alloc _ _ _ (by omega), Below.heap_alloc _ _ _ (by omega)]; exact a1
  · rw [Below.heap_alloc _ _ _ (by omega)]; exact a2
  · rw [Below.heap_alloc _ _ _ (by omega), Below.heap_alloc _ _ _ (by omega), Below.heap_alloc _ _ _ hb]
def opsV (ob : Nat → Option Addr) (ln cp : Nat → Nat) (j : Nat) : Value := .slice (ob j) (min (ln j) 65536) (cp j)
def DoneDo (w : World) (n : Nat) (dv : Value) (S : Nat → Value) (e : Ending) (w' : World) : Prop :=
  ∃ oc ic v, e = .returned (.tuple #[v, .slice (some ⟨w.heap.size + 1, 0, none⟩) n n]) ∧ DM w w.heap.size w.heap.size (w.heap.size + 2) (w.heap.size + 1) n dv S n oc ic v w'
set_option maxRecDepth 100000 in
set_option maxHeartbeats 1000000 in
theorem doing_walk (w : World) {ta : Option Addr} {nT cT n : Nat} (hn : min (nT : Int) 64 = n) {dv : Value} (hd : dv.oneCell' = true) (hlen : nT ≤ 1000000000) {tb tof : Nat} (hta : 0 < n → ta = some ⟨tb, tof, none⟩) {ob : Nat → Option Addr} {ln cp : Nat → Nat} (hT : ∀ j, j < n → w.cell? ⟨tb, tof + j, none⟩ = some (.slice (ob j) (ln j) (cp j))) (hl : ∀ j, j < n → ln j ≤ cp j) :
    Calls Try.prog 43 #[.slice ta nT cT, dv] w (DoneDo w n dv (opsV ob ln cp)) := by
  have hn64 : n ≤ 64 := by omega
  have hmk := mk_ans hn64
  obtain ⟨i1, hi1, hz1, hz11, hz12⟩ := info_parts info99
  have H0 := Lib.hid (dm_start w n dv (opsV ob ln cp))
  replace hT := Lib.hid hT
  replace hl := Lib.hid hl
  replace hta := Lib.hid hta
  generalize hN : w.heap.size = N at *
  replace hN := Lib.hid hN
  go_enter Try.func43, Try.ntmps43
  go_wp2_with (refine wpL_min rfl _ _ _ _ rfl nT 64 n rfl rfl hn ?_)
  rw [hN.out]
  go_loopw [8, 17] (fun va iv wr => ∃ (j : Nat) (oc ic : Nat → Nat) (v : Value), j ≤ n ∧ iv = .int .i64 j ∧ va = v ∧ Hid (DM w N N (N + 2) (N + 1) n dv (opsV ob ln cp) j oc ic v wr)) (fun _ iv _ => n - (intOf iv).toNat)
  case atStart => exact ⟨0, _, _, _, by omega, rfl, rfl, H0⟩
  case round =>
    obtain ⟨j, oc, ic, v, hj, rfl, rfl, HS⟩ := hrel
    obtain ⟨vp, vc, rfl⟩ := slice_of HS.out.row
    by_cases hlt : j < n
    · have hlt' : (j : Int) < (n : Int) := by omega
      obtain rfl := hta.out (by omega)
      have hc := hT.out j hlt
      have hin : wr.cell? ⟨tb, tof + j, none⟩ = some (.slice (ob j) (ln j) (cp j)) := by
        rw [World.cell?_of_block (w := w)]
        · exact hc
        · have hb : tb < w.heap.size := World.block_lt_of_cell? w _ hc
          rw [hN.out] at hb
          exact HS.out.low tb hb
      clear hc
      have hle := hl.out j hlt
      have hjT : (j : Int) < (nT : Int) := by omega
      generalize hob : ob j = obj at *
      generalize hln : ln j = lnj at *
      generalize hcp : cp j = cpj at *
      have HA := Lib.hid (HS.out.alloc (.cells #[.int .i64 j] 3))
      go_upto_region 7 with fail
      have q1 : IntKind.i64.wrap ((j : Int) + 1) = ((j + 1 : Nat) : Int) := by rw [IntKind.wrap_i64]; omega
      have cj := cellAt (heap_alloc_new wr (.cells #[.int .i64 j] 3)) 0
      simp only [List.getElem?_toArray, List.getElem?_cons_zero] at cj
      have cin : (wr.alloc (.cells #[.int .i64 j] 3)).cell? ⟨tb, tof + j, none⟩ = some (.slice obj lnj cpj) := by
        rw [World.cell?_of_block (w := wr)]
        · exact hin
        · exact Below.heap_alloc _ _ _ (World.block_lt_of_cell? wr _ hin)
      have cin2 : ((wr.alloc (.cells #[.int .i64 j] 3)).alloc (.cells #[.slice none 0 0] 92)).cell? ⟨tb, tof + j, none⟩ = some (.slice obj lnj cpj) := by
        rw [World.cell?_of_block (w := wr.alloc (.cells #[.int .i64 j] 3))]
        · exact cin
        · exact Below.heap_alloc _ _ _ (World.block_lt_of_cell? _ _ cin)
      by_cases hb : (65536 : Int) < (lnj : Int)
      · have hb2 : (65536 : Int) ≤ (cpj : Int) := by omega
        go_region
        have e0 : 65536 = min lnj 65536 := by omega
        rw [e0]
        clear e0 cin2 cin cj hin
        have HB := Lib.hid (HA.out.alloc (.cells #[opsV ob ln cp j] 92)).drew
        have hp0 : N ≤ wr.heap.size ∧ (((wr.alloc (.cells #[.int .i64 j] 3)).alloc (.cells #[opsV ob ln cp j] 92)).drew).heap[wr.heap.size]? = some (.cells #[.int .i64 j] 3 (0, 0)) := ⟨HS.out.nw, (Below.heap_alloc _ _ _ (by simp)).trans (heap_alloc_new _ _)⟩
        have hq0 : N ≤ wr.heap.size + 1 ∧ (((wr.alloc (.cells #[.int .i64 j] 3)).alloc (.cells #[opsV ob ln cp j] 92)).drew).heap[wr.heap.size + 1]? = some (.cells #[opsV ob ln cp j] 92 (0, 0)) := ⟨by have := HS.out.nw; omega, by
          have := heap_alloc_new (wr.alloc (.cells #[.int .i64 j] 3)) (.cells #[opsV ob ln cp j] 92)
          rw [show (wr.alloc (.cells #[.int .i64 j] 3)).heap.size = wr.heap.size + 1 by simp] at this
          exact this⟩
        have eo : opsV ob ln cp j = .slice obj (min lnj 65536) cpj := by unfold opsV; rw [hob, hln, hcp]
        rw [← eo]
        have hsz : (((wr.alloc (.cells #[.int .i64 j] 3)).alloc (.cells #[opsV ob ln cp j] 92)).drew).heap.size = wr.heap.size + 2 := by simp [World.drew]
        have HT := Lib.hid (fun v' w1 ha => HB.out.more (v' := v') (w1 := w1) hp0 hq0 ha)
        generalize hw2 : ((wr.alloc (.cells #[.int .i64 j] 3)).alloc (.cells #[opsV ob ln cp j] 92)).drew = w2 at *
        have HSx : Hid (SrcOf (w2.alloc (.cells #[closV N (N + 2) (Go.ConcN.upd oc j (wr.heap.size + 1)) (Go.ConcN.upd ic j wr.heap.size) j] 99)) (.slice (some ⟨w2.heap.size, 0, none⟩) 1 1) 1 [closV N (N + 2) (Go.ConcN.upd oc j (wr.heap.size + 1)) (Go.ConcN.upd ic j wr.heap.size) j]) :=
          ⟨rfl, by intro u hu; simp at hu; subst hu; rfl, .inr ⟨_, 1, rfl, cell_one_new w2 _ 99⟩⟩
        have ecl : closV N (N + 2) (Go.ConcN.upd oc j (wr.heap.size + 1)) (Go.ConcN.upd ic j wr.heap.size) j = .func (.func 56) #[] #[.pointer (some ⟨wr.heap.size + 1, 0, none⟩), .pointer (some ⟨N, 0, none⟩), .pointer (some ⟨wr.heap.size, 0, none⟩), .pointer (some ⟨N + 2, 0, none⟩)] := by
          unfold closV
          rw [Go.ConcN.upd_same, Go.ConcN.upd_same]
        rw [ecl] at HSx HT
        have HO1 := Lib.hid (HB.out.row.alloc (.cells #[.func (.func 56) #[] #[.pointer (some ⟨wr.heap.size + 1, 0, none⟩), .pointer (some ⟨N, 0, none⟩), .pointer (some ⟨wr.heap.size, 0, none⟩), .pointer (some ⟨N + 2, 0, none⟩)]] 99))
        replace hsz := Lib.hid hsz
        replace hp0 := Lib.hid hp0
        replace hq0 := Lib.hid hq0
        replace ecl := Lib.hid ecl
        replace eo := Lib.hid eo
        clear hw2
        have hNw := Lib.hid HS.out.nw
        go_wp2_with (at_builtin; (refine wpList_append_row rfl (.tmp 31) (.tmp 33) 106 rfl N 99 i1 _ _ Try.underlying106 hi1 hz1 hz11 hz12 rfl (.slice vp j vc) j ((List.range j).map (closV N (N + 2) oc ic)) rfl HO1.out 1 _ HSx.out ?l2 ?b2 ?n2 ?_); (case l2 => (unfold maxLen; omega)); (case b2 => omega); (case n2 => (have h1 := hNw.out; have h2 := hsz.out; simp [h2]; omega)); intro v' w1 ha; obtain ⟨⟨g, cap, rfl⟩, hH2⟩ := HT.out _ _ ha; have HH := Lib.hid hH2; clear hH2 ha)
        refine ⟨⟨j + 1, _, _, _, by omega, by rw [Int.natCast_add]; rfl, rfl, HH⟩, by simp [intOf]; omega⟩
      · have hb2 : (lnj : Int) ≤ (cpj : Int) := by omega
        replace hb : (lnj : Int) ≤ 65536 := by omega
        go_region
        have e0 : lnj = min lnj 65536 := by omega
        rw [e0]
        clear e0 cin2 cin cj hin
        have HB := Lib.hid (HA.out.alloc (.cells #[opsV ob ln cp j] 92)).drew
        have hp0 : N ≤ wr.heap.size ∧ (((wr.alloc (.cells #[.int .i64 j] 3)).alloc (.cells #[opsV ob ln cp j] 92)).drew).heap[wr.heap.size]? = some (.cells #[.int .i64 j] 3 (0, 0)) := ⟨HS.out.nw, (Below.heap_alloc _ _ _ (by simp)).trans (heap_alloc_new _ _)⟩
        have hq0 : N ≤ wr.heap.size + 1 ∧ (((wr.alloc (.cells #[.int .i64 j] 3)).alloc (.cells #[opsV ob ln cp j] 92)).drew).heap[wr.heap.size + 1]? = some (.cells #[opsV ob ln cp j] 92 (0, 0)) := ⟨by have := HS.out.nw; omega, by
          have := heap_alloc_new (wr.alloc (.cells #[.int .i64 j] 3)) (.cells #[opsV ob ln cp j] 92)
          rw [show (wr.alloc (.cells #[.int .i64 j] 3)).heap.size = wr.heap.size + 1 by simp] at this
          exact this⟩
        have eo : opsV ob ln cp j = .slice obj (min lnj 65536) cpj := by unfold opsV; rw [hob, hln, hcp]
        rw [← eo]
        have hsz : (((wr.alloc (.cells #[.int .i64 j] 3)).alloc (.cells #[opsV ob ln cp j] 92)).drew).heap.size = wr.heap.size + 2 := by simp [World.drew]
        have HT := Lib.hid (fun v' w1 ha => HB.out.more (v' := v') (w1 := w1) hp0 hq0 ha)
        generalize hw2 : ((wr.alloc (.cells #[.int .i64 j] 3)).alloc (.cells #[opsV ob ln cp j] 92)).drew = w2 at *
        have HSx : Hid (SrcOf (w2.alloc (.cells #[closV N (N + 2) (Go.ConcN.upd oc j (wr.heap.size + 1)) (Go.ConcN.upd ic j wr.heap.size) j] 99)) (.slice (some ⟨w2.heap.size, 0, none⟩) 1 1) 1 [closV N (N + 2) (Go.ConcN.upd oc j (wr.heap.size + 1)) (Go.ConcN.upd ic j wr.heap.size) j]) :=
          ⟨rfl, by intro u hu; simp at hu; subst hu; rfl, .inr ⟨_, 1, rfl, cell_one_new w2 _ 99⟩⟩
        have ecl : closV N (N + 2) (Go.ConcN.upd oc j (wr.heap.size + 1)) (Go.ConcN.upd ic j wr.heap.size) j = .func (.func 56) #[] #[.pointer (some ⟨wr.heap.size + 1, 0, none⟩), .pointer (some ⟨N, 0, none⟩), .pointer (some ⟨wr.heap.size, 0, none⟩), .pointer (some ⟨N + 2, 0, none⟩)] := by
          unfold closV
          rw [Go.ConcN.upd_same, Go.ConcN.upd_same]
        rw [ecl] at HSx HT
        have HO1 := Lib.hid (HB.out.row.alloc (.cells #[.func (.func 56) #[] #[.pointer (some ⟨wr.heap.size + 1, 0, none⟩), .pointer (some ⟨N, 0, none⟩), .pointer (some ⟨wr.heap.size, 0, none⟩), .pointer (some ⟨N + 2, 0, none⟩)]] 99))
        replace hsz := Lib.hid hsz
        replace hp0 := Lib.hid hp0
        replace hq0 := Lib.hid hq0
        replace ecl := Lib.hid ecl
        replace eo := Lib.hid eo
        clear hw2
        have hNw := Lib.hid HS.out.nw
        go_wp2_with (at_builtin; (refine wpList_append_row rfl (.tmp 31) (.tmp 33) 106 rfl N 99 i1 _ _ Try.underlying106 hi1 hz1 hz11 hz12 rfl (.slice vp j vc) j ((List.range j).map (closV N (N + 2) oc ic)) rfl HO1.out 1 _ HSx.out ?l2 ?b2 ?n2 ?_); (case l2 => (unfold maxLen; omega)); (case b2 => omega); (case n2 => (have h1 := hNw.out; have h2 := hsz.out; simp [h2]; omega)); intro v' w1 ha; obtain ⟨⟨g, cap, rfl⟩, hH2⟩ := HT.out _ _ ha; have HH := Lib.hid hH2; clear hH2 ha)
        refine ⟨⟨j + 1, _, _, _, by omega, by rw [Int.natCast_add]; rfl, rfl, HH⟩, by simp [intOf]; omega⟩
    · have hlt' : ¬ (j : Int) < (n : Int) := by omega
      obtain rfl : j = n := by omega
      have cac := cellAt HS.out.fac 0
      simp only [List.getElem?_toArray, List.getElem?_cons_zero] at cac
      go_wp2_with fail
      go_region
      go_wp2_with fail
      go_ret2
      unfold DoneDo
      rw [hN.out]
      exact ⟨_, _, _, rfl, HS.out.drew⟩
end Go.Proofs.Ytimkkeomdkbcjaa

/-
  What the world's state tells (f31), alone. No condition of its own.
-/
namespace Go.Proofs.Ytimkkeomdkbcjaa
open Go.Conc Go.RowKit
theorem info2 : (Try.prog.info? 2).map (fun i => (i.zero, i.size, i.bytes)) = some (some (.int .i64 0), 1, 8) := by kernel_rfl
theorem value_walk (b : Nat) (x : Int) (w : World) (hc : w.cell? ⟨b, 0, none⟩ = some (.int .i64 x)) :
    Calls Try.prog 46 #[.pointer (some ⟨b, 0, none⟩)] w fun e w' => e = .returned (.int .i64 x) ∧ w = w' := by
  have hl := wordLoad b x w hc
  go_enter Try.func46, Try.ntmps46
  go_wp2_with (go_at_call 63; refine hl.mono ?_; rintro e w' ⟨rfl, rfl⟩)
  go_ret
  exact ⟨rfl, rfl⟩
theorem fvalue_walk (b off : Nat) (x : Bool) (w : World) (hc : w.cell? ⟨b, off, none⟩ = some (.int .u32 (bit x))) :
    Calls Try.prog 47 #[.pointer (some ⟨b, off, none⟩)] w fun e w' => e = .returned (.bool x) ∧ w = w' := by
  have hl := boolLoad b off x w hc
  go_enter Try.func47, Try.ntmps47
  go_wp2_with (go_at_call 40; refine hl.mono ?_; rintro e w' ⟨rfl, rfl⟩)
  go_ret
  exact ⟨rfl, rfl⟩
theorem src_one2 (w1 : World) (x : Value) (t : TypeId) (hx : x.oneCell' = true) : SrcOf (w1.alloc (.cells #[x] t)) (.slice (some ⟨w1.heap.size, 0, none⟩) 1 1) 1 [x] :=
  ⟨rfl, by intro u hu; simp at hu; subst hu; exact hx, .inr ⟨_, 1, rfl, cell_one_new w1 x t⟩⟩
def intsL (l : List Int) : List Value := l.map (Value.int .i64)
theorem intsL_len (l : List Int) : (intsL l).length = l.length := by simp [intsL]
theorem intsL_snoc (l : List Int) (x : Int) : intsL (l ++ [x]) = intsL l ++ [.int .i64 x] := by simp [intsL]
def wordsL (k : Nat) (m : BM) : List Int := (List.range k).map m.wv
theorem wordsL_succ (k : Nat) (m : BM) : wordsL (k + 1) m = wordsL k m ++ [m.wv k] := by simp [wordsL, List.range_succ]
def StateD (k : Nat) (m : BM) (w : World) (e : Ending) (w' : World) : Prop :=
  ∃ v, e = .returned v ∧ w'.ownsRow w.heap.size 2 1 v (k + 1) (intsL (wordsL k m ++ [bit m.al])) ∧ Below w.heap.size w w'
theorem grown_below {N : Nat} {w0 w w1 : World} {v : Value} {xs : List Value} {n : Nat} {e : TypeId} (h : w.ownsRow N e 1 v n xs) (hb : Below N w0 w) (hN : N ≤ w.heap.size) (hg : w.grownBy w1 v.ownBlock) : Below N w0 w1 := by
  refine ⟨hg.os.trans hb.os, hg.tape.trans hb.tape, hg.output.trans hb.output, Nat.le_trans hb.size hg.size, fun b hlt => ?_⟩
  refine (hg.block b (by omega) fun q => ?_).trans (hb.block b hlt)
  have := (h.lt b q.symm).1
  omega
set_option maxRecDepth 100000 in
set_option maxHeartbeats 1000000 in
theorem state_walk {Y : BL} (hY : Y.Wf) {m : BM} {own : Nat → Owner} {w : World} (hR : BRep Y m own w) : Calls Try.prog 31 #[.pointer (some ⟨Y.wb, 0, none⟩)] w (StateD Y.k m w) := by
  obtain ⟨i1, hi1, hz1, hz11, hz12⟩ := info_parts info2
  have h1 := hR.wb.2
  have h2 := hR.bb.2
  have lt : ∀ {b : Nat} {o : Obj}, w.heap[b]? = some o → b < w.heap.size := fun e => (Array.getElem?_eq_some_iff.1 e).1
  have k1 := lt h1
  have k2 := lt h2
  have hpb : 0 < Y.k → Y.pb < w.heap.size ∧ ∀ j, j < Y.k → w.cell? ⟨Y.pb, j, none⟩ = some (.pointer (some ⟨Y.wd j, 0, none⟩)) := fun hk => by
    obtain ⟨_, c, hc, hp⟩ := hR.pb hk
    exact ⟨lt hc, fun j hj => (cellAt hc j).trans (hp j hj)⟩
  have hwd : ∀ j, j < Y.k → Y.wd j < w.heap.size ∧ w.cell? ⟨Y.wd j, 0, none⟩ = some (.int .i64 (m.wv j)) := fun j hj => by
    obtain ⟨_, hc, _⟩ := hR.wd j hj
    exact ⟨lt hc, by rw [cellAt hc 0]; rfl⟩
  have hps := hY.ps
  have hpc := hY.pcap
  have hk65 := hY.kk
  generalize Y.ps = ps at *
  generalize Y.pcap = pcap at *
  generalize hkk : Y.k = k at *
  generalize Y.wb = wb at *
  generalize Y.bb = bb at *
  have c1 : w.cell? ⟨wb, 0, none⟩ = some (.slice ps k pcap) := by rw [cellAt h1 0]; rfl
  have c2 : w.cell? ⟨wb, 1, none⟩ = some (.pointer (some ⟨bb, 0, none⟩)) := by rw [cellAt h1 1]; rfl
  have c3 : w.cell? ⟨bb, 1, none⟩ = some (.int .u32 (bit m.al)) := by rw [cellAt h2 1]; rfl
  replace hpb := Lib.hid hpb
  replace hwd := Lib.hid hwd
  replace hps := Lib.hid hps
  replace k1 := Lib.hid k1
  replace k2 := Lib.hid k2
  replace hkk := Lib.hid hkk
  replace c2 := Lib.hid c2
  replace c3 := Lib.hid c3
  clear h1 h2 hR hpc
  generalize hN : w.heap.size = N at *
  replace hN := Lib.hid hN
  go_enter Try.func31, Try.ntmps31
  go_wp2_with fail
  go_loopw [3, 12] (fun va iv wr => ∃ (j : Nat), j ≤ k ∧ iv = .int .i64 j ∧ Hid (wr.ownsRow N 2 1 va j (intsL (wordsL j m))) ∧ Hid (Below N w wr)) (fun _ iv _ => k - (intOf iv).toNat)
  case atStart => exact ⟨0, by omega, rfl, Lib.hid (World.ownsRow_nil _ _ _ _), Lib.hid (Below.refl _ _)⟩
  case round =>
    obtain ⟨j, hj, rfl, HS, HB⟩ := hrel
    obtain ⟨vp, vc, rfl⟩ := slice_of HS.out
    by_cases hlt : j < k
    · have hlt' : (j : Int) < (k : Int) := by omega
      have hps' := hps.out (by omega)
      obtain ⟨hb1, hb2⟩ := hpb.out (by omega)
      have q1 : wr.cell? ⟨Y.pb, j, none⟩ = some (.pointer (some ⟨Y.wd j, 0, none⟩)) := (World.cell?_of_block (w := w) (HB.out.block _ hb1)).trans (hb2 j hlt)
      obtain ⟨hw1, hw2⟩ := hwd.out j hlt
      have q2 : wr.cell? ⟨Y.wd j, 0, none⟩ = some (.int .i64 (m.wv j)) := (World.cell?_of_block (w := w) (HB.out.block _ hw1)).trans hw2
      clear hb1 hb2 hw1 hw2
      rw [hps']
      clear hps'
      have hsz := Lib.hid (hN.out ▸ HB.out.size)
      have HV := Lib.hid (value_walk (Y.wd j) (m.wv j) wr q2)
      have HSx := Lib.hid (src_one2 wr (.int .i64 (m.wv j)) 2 rfl)
      have HO1 := Lib.hid (HS.out.alloc (.cells #[.int .i64 (m.wv j)] 2))
      have hnx := Lib.hid (wordsL_succ j m)
      generalize m.wv j = xj at *
      have e1 : IntKind.i64.wrap ((j : Int) + 1) = ((j + 1 : Nat) : Int) := by rw [IntKind.wrap_i64]; omega
      go_wp2_with (first
        | (go_at_call 46; refine HV.out.mono ?_; rintro e w' ⟨rfl, rfl⟩)
        | (at_builtin; (refine wpList_append_row rfl (.tmp 16) (.tmp 19) 28 rfl N 2 i1 _ _ Try.underlying28 hi1 hz1 hz11 hz12 rfl (.slice vp j vc) j _ rfl HO1.out 1 _ HSx.out ?l2 ?b2 ?n2 ?_); (case l2 => (unfold maxLen; omega)); (case b2 => omega); (case n2 => (have h1 := hsz.out; simp; omega)); intro v' w1 ha; obtain ⟨ho, hg, hsh⟩ := ha; have HH := Lib.hid ho; have HB2 := Lib.hid (grown_below HO1.out (HB.out.alloc hsz.out _) (by have h1 := hsz.out; simp; omega) hg); clear ho hg hsh))
      refine ⟨⟨j + 1, by omega, by rw [Int.natCast_add]; rfl, ?_, HB2⟩, by simp [intOf]; omega⟩
      rw [hnx.out, intsL_snoc]
      exact HH
    · have hlt' : ¬ (j : Int) < (k : Int) := by omega
      obtain rfl : j = k := by omega
      have c2' : wr.cell? ⟨wb, 1, none⟩ = some (.pointer (some ⟨bb, 0, none⟩)) := (World.cell?_of_block (w := w) (HB.out.block _ k1.out)).trans c2.out
      have c3' : wr.cell? ⟨bb, 1, none⟩ = some (.int .u32 (bit m.al)) := (World.cell?_of_block (w := w) (HB.out.block _ k2.out)).trans c3.out
      have HV := Lib.hid (fvalue_walk bb 1 m.al wr c3')
      have hsz := Lib.hid (hN.out ▸ HB.out.size)
      have hbit : bit m.al = if m.al then 1 else 0 := rfl
      have HSx := fun x => Lib.hid (src_one2 wr (.int .i64 x) 2 rfl)
      have HO1 := fun x => Lib.hid (HS.out.alloc (.cells #[.int .i64 x] 2))
      clear c3 c3'
      generalize hal : m.al = al at *
      replace hal := Lib.hid hal
      cases al
      · go_wp2_with (first
          | (go_at_call 47; refine HV.out.mono ?_; rintro e w' ⟨rfl, rfl⟩)
          | (at_builtin; (refine wpList_append_row rfl (.tmp 29) (.tmp 31) 28 rfl N 2 i1 _ _ Try.underlying28 hi1 hz1 hz11 hz12 rfl (.slice vp j vc) j _ rfl (HO1 0).out 1 _ (HSx 0).out ?l2 ?b2 ?n2 ?_); (case l2 => (unfold maxLen; omega)); (case b2 => omega); (case n2 => (have h1 := hsz.out; simp; omega)); intro v' w1 ha; obtain ⟨ho, hg, hsh⟩ := ha; have HH := Lib.hid ho; have HB2 := Lib.hid (grown_below (HO1 0).out (HB.out.alloc hsz.out _) (by have h1 := hsz.out; simp; omega) hg); clear ho hg hsh))
        go_ret
        unfold StateD
        rw [hN.out, hal.out, intsL_snoc]
        exact ⟨_, rfl, HH.out, HB2.out⟩
      · go_wp2_with (first
          | (go_at_call 47; refine HV.out.mono ?_; rintro e w' ⟨rfl, rfl⟩)
          | (at_builtin; (refine wpList_append_row rfl (.tmp 29) (.tmp 31) 28 rfl N 2 i1 _ _ Try.underlying28 hi1 hz1 hz11 hz12 rfl (.slice vp j vc) j _ rfl (HO1 1).out 1 _ (HSx 1).out ?l2 ?b2 ?n2 ?_); (case l2 => (unfold maxLen; omega)); (case b2 => omega); (case n2 => (have h1 := hsz.out; simp; omega)); intro v' w1 ha; obtain ⟨ho, hg, hsh⟩ := ha; have HH := Lib.hid ho; have HB2 := Lib.hid (grown_below (HO1 1).out (HB.out.alloc hsz.out _) (by have h1 := hsz.out; simp; omega) hg); clear ho hg hsh))
        go_ret
        unfold StateD
        rw [hN.out, hal.out, intsL_snoc]
        exact ⟨_, rfl, HH.out, HB2.out⟩
end Go.Proofs.Ytimkkeomdkbcjaa

/-
  The world in which the threads begin: what it is made of. No condition of its own.
-/
namespace Go.Proofs.Ytimkkeomdkbcjaa
open Go.Conc Go.RowKit
def IntsIn (w : World) (v : Value) (xs : List Int) : Prop :=
  (∀ x ∈ xs, In64 x) ∧ ∃ a cap, v = .slice a xs.length cap ∧ xs.length ≤ cap ∧ (xs ≠ [] → ∃ b o, a = some ⟨b, o, none⟩ ∧ ∀ j x, xs[j]? = some x → w.cell? ⟨b, o + j, none⟩ = some (.int .i64 x))
def OpCells (w : World) (b o : Nat) (p : OpD) : Prop :=
  w.cell? ⟨b, o, none⟩ = some (.int .i64 p.kind) ∧ w.cell? ⟨b, o + 1, none⟩ = some (.int .i64 p.a) ∧ w.cell? ⟨b, o + 2, none⟩ = some (.int .i64 p.b) ∧ w.cell? ⟨b, o + 3, none⟩ = some (.int .i64 p.c)
def OpsIn (w : World) (a : Option Addr) (len cap : Nat) (L : List OpD) : Prop :=
  (∀ o ∈ L, o.Ok) ∧ len = L.length ∧ len ≤ cap ∧ (L ≠ [] → ∃ b o, a = some ⟨b, o, none⟩ ∧ ∀ j p, L[j]? = some p → OpCells w b (o + j * 4) p)
def ThrIn (w : World) (v : Value) (LL : List (List OpD)) : Prop :=
  ∃ a cap, v = .slice a LL.length cap ∧ ∃ (ob : Nat → Option Addr) (ln cp : Nat → Nat), (LL ≠ [] → ∃ b o, a = some ⟨b, o, none⟩ ∧ ∀ i L, LL[i]? = some L → w.cell? ⟨b, o + i, none⟩ = some (.slice (ob i) (ln i) (cp i))) ∧ ∀ i L, LL[i]? = some L → OpsIn w (ob i) (ln i) (cp i) L
theorem row_cells {w : World} {base e n : Nat} {v : Value} {xs : List Value} (h : w.ownsRow base e 1 v n xs) :
    ∃ p cap, v = .slice p n cap ∧ n ≤ cap ∧ (0 < n → ∃ g c, p = some ⟨g, 0, none⟩ ∧ base ≤ g ∧ w.heap[g]? = some (.cells c e (0, 0)) ∧ ∀ j, j < n → c[j]? = xs[j]?) := by
  rcases h.2 with ⟨rfl, rfl⟩ | ⟨g, cap, cur, rfl, q1, q2, q3, q4, q5, q6⟩
  · exact ⟨none, 0, rfl, Nat.le_refl _, fun h => by omega⟩
  · refine ⟨_, cap, rfl, q3, fun _ => ⟨g, cur, rfl, q1, q2, fun j hj => ?_⟩⟩
    rw [← q6, List.getElem?_take_of_lt (by omega)]
    simp
theorem block_of_cell {w : World} {b i : Nat} {v : Value} (h : w.cell? ⟨b, i, none⟩ = some v) : ∃ c t f, w.heap[b]? = some (.cells c t f) ∧ c[i]? = some v := by
  unfold World.cell? at h
  cases hb : w.heap[b]? with
  | none => simp only [hb] at h; cases h
  | some o =>
    cases o with
    | cells c t f => simp only [hb] at h; exact ⟨c, t, f, rfl, by simpa using h⟩
    | _ => simp [hb] at h
def inpL (w : World) (n : Nat) (ob : Nat → Option Addr) : List (Nat × Obj) := (List.range n).filterMap fun i => (ob i).bind fun a => (w.heap[a.block]?).map fun o => (a.block, o)
theorem inpL_mem {w : World} {n : Nat} {ob : Nat → Option Addr} {i : Nat} (hi : i < n) {a : Addr} (ha : ob i = some a) {o : Obj} (ho : w.heap[a.block]? = some o) : (a.block, o) ∈ inpL w n ob :=
  List.mem_filterMap.2 ⟨i, List.mem_range.2 hi, by rw [ha]; simp [ho]⟩
theorem inpL_out {w : World} {n : Nat} {ob : Nat → Option Addr} {e : Nat × Obj} (h : e ∈ inpL w n ob) : w.heap[e.1]? = some e.2 := by
  obtain ⟨i, _, h2⟩ := List.mem_filterMap.1 h
  cases ho : ob i with
  | none => rw [ho] at h2; cases h2
  | some a =>
    rw [ho] at h2
    simp only [Option.bind_some] at h2
    cases hw : w.heap[a.block]? with
    | none => rw [hw] at h2; cases h2
    | some o =>
      rw [hw] at h2
      simp only [Option.map_some, Option.some.injEq] at h2
      subst h2
      exact hw
def dvV (wb : Nat) : Value := .func (.func 30) #[.pointer (some ⟨wb, 0, none⟩)] #[]
def stcL (n dc ac ar wb : Nat) (S : Nat → Value) (oc ic : Nat → Nat) : List (Nat × Array Value × TypeId) :=
  (dc, #[dvV wb], 79) :: (ac, #[.slice (some ⟨ar, 0, none⟩) n n], 61) :: ((List.range n).map (fun j => (oc j, #[S j], 92)) ++ (List.range n).map (fun j => (ic j, #[.int .i64 j], 3)))
theorem stcL_mem {n dc ac ar wb : Nat} {S : Nat → Value} {oc ic : Nat → Nat} {e : Nat × Array Value × TypeId} (h : e ∈ stcL n dc ac ar wb S oc ic) :
    e = (dc, #[dvV wb], 79) ∨ e = (ac, #[.slice (some ⟨ar, 0, none⟩) n n], 61) ∨ (∃ j, j < n ∧ e = (oc j, #[S j], 92)) ∨ ∃ j, j < n ∧ e = (ic j, #[.int .i64 j], 3) := by
  simp only [stcL, List.mem_cons, List.mem_append, List.mem_map, List.mem_range] at h
  rcases h with h | h | ⟨j, hj, h⟩ | ⟨j, hj, h⟩
  · exact .inl h
  · exact .inr (.inl h)
  · exact .inr (.inr (.inl ⟨j, hj, h.symm⟩))
  · exact .inr (.inr (.inr ⟨j, hj, h.symm⟩))
open Classical in
theorem rep_start {w w1 w2 : World} {ws : List Int} {k wb bb : Nat} {v v2 : Value} {wd : Nat → Nat} (hk : k = min ws.length 65) (hIn : ∀ x ∈ ws, In64 x) (n1 : w.heap.size ≤ wb) (n2 : w.heap.size ≤ bb)
    (fwb : w1.heap[wb]? = some (.cells #[v, .pointer (some ⟨bb, 0, none⟩)] 103 (0, 0))) (rv : w1.ownsRow w.heap.size 104 1 v k (ptrs wd k)) (fbb : w1.heap[bb]? = some (.cells #[v2, .int .u32 0] 54 (0, 0))) (rv2 : w1.ownsRow w.heap.size 32 1 v2 k (ifcs wd k))
    (fwd : ∀ j, j < k → w.heap.size ≤ wd j ∧ w1.heap[wd j]? = some (.cells #[.int .i64 (ws.getD j 0)] 132 (0, 0))) (inj : ∀ i j, i < k → j < k → wd i = wd j → i = j) (low1 : ∀ b, b < w.heap.size → w1.heap[b]? = w.heap[b]?)
    {n dc ac ar : Nat} {oc ic : Nat → Nat} {va : Value} {ob : Nat → Option Addr} {ln cp : Nat → Nat} (hn : n ≤ 64) (D : DM w1 w1.heap.size dc ac ar n (dvV wb) (opsV ob ln cp) n oc ic va w2)
    {LL : Nat → List OpD} (hL : ∀ i, i < n → OpsIn w (ob i) (ln i) (cp i) (LL i)) :
    ∃ (Y : BL) (own0 : Nat → Owner), Y.Wf ∧ Y.k = k ∧ Y.n = n ∧ Y.wb = wb ∧ Y.ar = ar ∧ BRep Y ⟨fun j => ws.getD j 0, false, fun _ => []⟩ own0 w2 ∧ (∀ b, w2.heap.size ≤ b → own0 b = .out) ∧ (∀ b c t, w.heap.size ≤ b → w2.heap[b]? = some (.cells c t (0, 0)) → t = 99 ∨ t = 63 → own0 b = .out) ∧
      (∀ b, b < w.heap.size → own0 b = .out ∨ ∀ m own w', BRep Y m own w' → w'.heap[b]? = w.heap[b]?) ∧ ∀ i, i < n → TW Y i ((LL i).take 65536) (oc i) dc (ic i) ac (ob i) (cp i) := by
  obtain ⟨ps, pcap, rfl, hpc, hpb⟩ := row_cells rv
  obtain ⟨ss, scap, rfl, hsc, hsa⟩ := row_cells rv2
  have lt1 : ∀ {b : Nat} {o : Obj}, w1.heap[b]? = some o → b < w1.heap.size := fun e => (Array.getElem?_eq_some_iff.1 e).1
  have lt2 : ∀ {b : Nat} {o : Obj}, w2.heap[b]? = some o → b < w2.heap.size := fun e => (Array.getElem?_eq_some_iff.1 e).1
  have hs1 : w.heap.size ≤ w1.heap.size := by have := lt1 fwb; omega
  have up : ∀ {b : Nat} {o : Obj}, w1.heap[b]? = some o → w2.heap[b]? = some o := fun e => (D.low _ (lt1 e)).trans e
  obtain ⟨pb, hpb'⟩ : ∃ pb, 0 < k → ∃ c, ps = some ⟨pb, 0, none⟩ ∧ w.heap.size ≤ pb ∧ w2.heap[pb]? = some (.cells c 104 (0, 0)) ∧ ∀ j, j < k → c[j]? = (ptrs wd k)[j]? := by
    by_cases h0 : 0 < k
    · obtain ⟨g, c, e1, e2, e3, e4⟩ := hpb h0
      exact ⟨g, fun _ => ⟨c, e1, e2, up e3, e4⟩⟩
    · exact ⟨0, fun h => absurd h h0⟩
  obtain ⟨sa, hsa'⟩ : ∃ sa, 0 < k → ∃ c, ss = some ⟨sa, 0, none⟩ ∧ w.heap.size ≤ sa ∧ w2.heap[sa]? = some (.cells c 32 (0, 0)) ∧ ∀ j, j < k → c[j]? = (ifcs wd k)[j]? := by
    by_cases h0 : 0 < k
    · obtain ⟨g, c, e1, e2, e3, e4⟩ := hsa h0
      exact ⟨g, fun _ => ⟨c, e1, e2, up e3, e4⟩⟩
    · exact ⟨0, fun h => absurd h h0⟩
  let Y : BL := { k := k, n := n, wb := wb, pb := pb, bb := bb, sa := sa, ar := ar, pcap := pcap, scap := scap, ps := ps, ss := ss, wd := wd, stc := stcL n dc ac ar wb (opsV ob ln cp) oc ic, lo := w.heap.size, inp := inpL w n ob }
  let SH : Nat → Prop := fun b => b = wb ∨ (0 < k ∧ b = pb) ∨ b = bb ∨ (0 < k ∧ b = sa) ∨ (∃ j, j < k ∧ b = wd j) ∨ b = ar ∨ (∃ e ∈ Y.stc, b = e.1) ∨ ∃ e ∈ Y.inp, b = e.1
  let own0 : Nat → Owner := fun b => if SH b then .sh else .out
  have osh : ∀ b, SH b → own0 b = .sh := fun b h => if_pos h
  have hst : ∀ e ∈ Y.stc, w1.heap.size ≤ e.1 ∧ (e.2.2 = 79 ∨ e.2.2 = 61 ∨ e.2.2 = 92 ∨ e.2.2 = 3) ∧ w2.heap[e.1]? = some (.cells e.2.1 e.2.2 (0, 0)) := fun e he => by
    rcases stcL_mem he with rfl | rfl | ⟨j, hj, rfl⟩ | ⟨j, hj, rfl⟩
    · exact ⟨D.nd.1, .inl rfl, D.fdc⟩
    · exact ⟨D.nd.2.1, .inr (.inl rfl), D.fac⟩
    · exact ⟨(D.foc j hj).1, .inr (.inr (.inl rfl)), (D.foc j hj).2⟩
    · exact ⟨(D.fic j hj).1, .inr (.inr (.inr rfl)), (D.fic j hj).2⟩
  have hinp : ∀ e ∈ Y.inp, e.1 < w.heap.size ∧ w2.heap[e.1]? = some e.2 ∧ w.heap[e.1]? = some e.2 := fun e he => by
    have h0 := inpL_out he
    have hlt := (Array.getElem?_eq_some_iff.1 h0).1
    exact ⟨hlt, up ((low1 _ hlt).trans h0), h0⟩
  have hSH : ∀ b, SH b → ∃ o, w2.heap[b]? = some o ∧ (b < w.heap.size ∨ ∀ c t, t = 99 ∨ t = 63 → o ≠ .cells c t (0, 0)) := fun b h => by
    rcases h with rfl | ⟨h0, rfl⟩ | rfl | ⟨h0, rfl⟩ | ⟨j, hj, rfl⟩ | rfl | ⟨e, he, rfl⟩ | ⟨e, he, rfl⟩
    · exact ⟨_, up fwb, .inr fun c t ht => by rcases ht with rfl | rfl <;> simp⟩
    · obtain ⟨c, _, _, q, _⟩ := hpb' h0
      exact ⟨_, q, .inr fun c t ht => by rcases ht with rfl | rfl <;> simp⟩
    · exact ⟨_, up fbb, .inr fun c t ht => by rcases ht with rfl | rfl <;> simp⟩
    · obtain ⟨c, _, _, q, _⟩ := hsa' h0
      exact ⟨_, q, .inr fun c t ht => by rcases ht with rfl | rfl <;> simp⟩
    · exact ⟨_, up (fwd j hj).2, .inr fun c t ht => by rcases ht with rfl | rfl <;> simp⟩
    · exact ⟨_, D.far, .inr fun c t ht => by rcases ht with rfl | rfl <;> simp⟩
    · obtain ⟨_, q2, q3⟩ := hst e he
      refine ⟨_, q3, .inr fun c t ht z => ?_⟩
      injection z with _ z2 _
      rcases ht with rfl | rfl <;> rcases q2 with q2 | q2 | q2 | q2 <;> exact absurd (q2.symm.trans z2) (by decide)
    · exact ⟨_, (hinp e he).2.1, .inl (hinp e he).1⟩
  have hge : ∀ b, SH b → b < w.heap.size → ∃ e ∈ Y.inp, b = e.1 := fun b h hb => by
    rcases h with rfl | ⟨h0, rfl⟩ | rfl | ⟨h0, rfl⟩ | ⟨j, hj, rfl⟩ | rfl | ⟨e, he, rfl⟩ | h
    · omega
    · obtain ⟨c, _, q, _⟩ := hpb' h0; omega
    · omega
    · obtain ⟨c, _, q, _⟩ := hsa' h0; omega
    · have := (fwd j hj).1; omega
    · have := D.nd.2.2; omega
    · have := (hst e he).1; omega
    · exact h
  refine ⟨Y, own0, ⟨fun h0 => ?_, fun h0 => ?_, hpc, hsc, by show k ≤ 65; omega, hn, inj⟩, rfl, rfl, rfl, rfl, ?_, fun b hb => ?_, fun b c t hb hc ht => ?_, fun b hb => ?_, fun i hi => ?_⟩
  · obtain ⟨c, q, _⟩ := hpb' h0; exact q
  · obtain ⟨c, q, _⟩ := hsa' h0; exact q
  · refine ⟨⟨osh _ (.inl rfl), up fwb⟩, fun h0 => ?_, ⟨osh _ (.inr (.inr (.inl rfl))), up fbb⟩, fun h0 => ?_, fun j hj => ?_, ?_, fun e he => ?_, ⟨n2, ?_, fun j hj => (fwd j hj).1⟩, fun e he => ?_⟩
    · obtain ⟨c, q1, q2, q3, q4⟩ := hpb' h0
      refine ⟨osh _ (.inr (.inl ⟨h0, rfl⟩)), c, q3, fun j hj => (q4 j hj).trans ?_⟩
      have hj' : j < k := hj
      simp [ptrs, hj', Y]
    · obtain ⟨c, q1, q2, q3, q4⟩ := hsa' h0
      refine ⟨osh _ (.inr (.inr (.inr (.inl ⟨h0, rfl⟩)))), c, q3, fun j hj => (q4 j hj).trans ?_⟩
      have hj' : j < k := hj
      simp [ifcs, hj', Y]
    · refine ⟨osh _ (.inr (.inr (.inr (.inr (.inl ⟨j, hj, rfl⟩))))), up (fwd j hj).2, ?_⟩
      have hj' : j < k := hj
      have hlt : j < ws.length := by omega
      show In64 (ws.getD j 0)
      rw [List.getD_eq_getElem?_getD, List.getElem?_eq_getElem hlt]
      exact hIn _ (List.getElem_mem hlt)
    · refine ⟨osh _ (.inr (.inr (.inr (.inr (.inr (.inl rfl)))))), _, D.far, size_madeCells _ _, fun i j g hi hj e1 => ?_, fun i hi => ?_⟩
      · have hi' : i < n := hi
        have : (madeCells #[Value.slice none 0 0] n).getD i undef = .slice none 0 0 := by simp [madeCells, hi', Nat.mod_one]
        rw [show (madeCells #[Value.slice none 0 0] Y.n) = madeCells #[Value.slice none 0 0] n from rfl, this] at e1
        cases e1
      · have hi' : i < n := hi
        have : (madeCells #[Value.slice none 0 0] n).getD i undef = .slice none 0 0 := by simp [madeCells, hi', Nat.mod_one]
        rw [this]
        exact ⟨World.ownsRow_nil _ _ _ _, fun g hg => by cases hg⟩
    · obtain ⟨q1, q2, q3⟩ := hst e he
      have ne : ∀ t : TypeId, t ≠ 79 → t ≠ 61 → t ≠ 92 → t ≠ 3 → e.2.2 ≠ t := fun t a b c d z => by
        rcases q2 with q2 | q2 | q2 | q2
        · exact a (z.symm.trans q2)
        · exact b (z.symm.trans q2)
        · exact c (z.symm.trans q2)
        · exact d (z.symm.trans q2)
      exact ⟨ne _ (by decide) (by decide) (by decide) (by decide), ne _ (by decide) (by decide) (by decide) (by decide), ne _ (by decide) (by decide) (by decide) (by decide), ne _ (by decide) (by decide) (by decide) (by decide), osh _ (.inr (.inr (.inr (.inr (.inr (.inr (.inl ⟨e, he, rfl⟩))))))), q3⟩
    · show w.heap.size ≤ ar
      have := D.nd.2.2; omega
    · obtain ⟨q1, q2, _⟩ := hinp e he
      exact ⟨q1, osh _ (.inr (.inr (.inr (.inr (.inr (.inr (.inr ⟨e, he, rfl⟩))))))), q2⟩
  · refine if_neg fun h => ?_
    obtain ⟨o, ho, _⟩ := hSH b h
    have := lt2 ho; omega
  · refine if_neg fun h => ?_
    obtain ⟨o, ho, q⟩ := hSH b h
    rcases q with q | q
    · omega
    · rw [hc] at ho
      exact q c t ht (Option.some.inj ho).symm
  · by_cases h : SH b
    · obtain ⟨e, he, rfl⟩ := hge b h hb
      exact .inr fun m own w' R => (R.inp e he).2.2.trans (hinp e he).2.2.symm
    · exact .inl (if_neg h)
  · obtain ⟨h1, h2, h3, h4⟩ := hL i hi
    have hlen : ((LL i).take 65536).length = min (ln i) 65536 := by rw [List.length_take]; omega
    refine ⟨?_, fun hne => ?_, by simp [Y, stcL, dvV], ?_, by simp [Y, stcL], by rw [hlen]; omega, fun o ho => h1 o (List.mem_of_mem_take ho)⟩
    · rw [hlen]
      simp only [Y, stcL, List.mem_cons, List.mem_append, List.mem_map, List.mem_range]
      exact .inr (.inr (.inl ⟨i, hi, rfl⟩))
    · have hne' : LL i ≠ [] := fun z => by rw [z] at hne; exact hne rfl
      obtain ⟨b, o, e1, e2⟩ := h4 hne'
      have h0 : 0 < (LL i).length := List.length_pos_iff.2 hne'
      obtain ⟨c, t, f, hb, _⟩ := block_of_cell (e2 0 _ (List.getElem?_eq_getElem h0)).1
      refine ⟨b, o, c, t, f, e1, inpL_mem hi e1 hb, fun j p hp => ?_⟩
      have hp' : (LL i)[j]? = some p := by
        have hj : j < ((LL i).take 65536).length := (List.getElem?_eq_some_iff.1 hp).1
        rw [List.length_take] at hj
        rw [← hp, List.getElem?_take_of_lt (by omega)]
      obtain ⟨q0, q1, q2, q3⟩ := e2 j p hp'
      rw [cellOf hb] at q0 q1 q2 q3
      exact ⟨q0, q1, q2, q3⟩
    · simp only [Y, stcL, List.mem_cons, List.mem_append, List.mem_map, List.mem_range]
      exact .inr (.inr (.inr ⟨i, hi, rfl⟩))
end Go.Proofs.Ytimkkeomdkbcjaa

/-
  A call of Ops, beside goroutines that only leave. No condition of its own.
-/
namespace Go.Proofs.Ytimkkeomdkbcjaa
open Go.Conc Go.RowKit
section
variable {P : Program} {Z : Machine → Trace → Prop} {b : Frame} {a : Act} {k : List Item} {cs : List Frame} {w : World}
theorem okd_none (w : World) : Okd (fun _ => none) w := fun b r h => by cases h
theorem rm_after {w0 w' : World} {d0 : Nat} {N : Act → Goroutine} {a' : Act} (hd : w'.drawn = d0) (h : ∀ w1, Sim w1 w' → RM P Z (N a') w1) : After (fun _ => none) (RM P Z) w0 d0 N .normal a' w' :=
  ⟨⟨rfl, hd⟩, re w0.tape w'.drawn w', rfl, okd_none _, by rw [poi_none]; exact ⟨w'.tape, w'.drawn, rfl⟩, h _ ⟨_, _, rfl⟩⟩
theorem rm_reg (n : Nat) {ops : Array Oper} {id : Nat} (hk : b.kind ≠ .early) (hn : n ≤ ops.size) (hc : ∀ o ∈ ops.toList.take n, CalmOp true P (fun _ => False) o)
    (h : ∀ wp, Sim wp w → wpList P ops (After (fun _ => none) (RM P Z) w wp.drawn fun a' => G (b.at a' (.inRegion ops (List.range' n (ops.size - n)) :: k)) cs) (ops.toList.take n) a wp) : RM P Z (G (b.at a (.code (.region id ops false) :: k)) cs) w :=
  x_reg rm_xc n hk hn hc (none_seats w) fun wp hp => h wp (by rw [poi_none] at hp; exact hp)
theorem rm_more (n m : Nat) {ops : Array Oper} (hk : b.kind ≠ .early) (hm : n + m ≤ ops.size) (hc : ∀ o ∈ (ops.toList.drop n).take m, CalmOp true P (fun _ => False) o)
    (h : ∀ wp, Sim wp w → wpList P ops (After (fun _ => none) (RM P Z) w wp.drawn fun a' => G (b.at a' (.inRegion ops (List.range' (n + m) (ops.size - (n + m))) :: k)) cs) ((ops.toList.drop n).take m) a wp) : RM P Z (G (b.at a (.inRegion ops (List.range' n (ops.size - n)) :: k)) cs) w :=
  x_more rm_xc n m hk hm hc (none_seats w) fun wp hp => h wp (by rw [poi_none] at hp; exact hp)
end
structure NewF (w w1 : World) (ws : List Int) (k wb bb : Nat) (v v2 : Value) (wd : Nat → Nat) : Prop where
  n1 : w.heap.size ≤ wb
  n2 : w.heap.size ≤ bb
  fwb : w1.heap[wb]? = some (.cells #[v, .pointer (some ⟨bb, 0, none⟩)] 103 (0, 0))
  rv : w1.ownsRow w.heap.size 104 1 v k (ptrs wd k)
  fbb : w1.heap[bb]? = some (.cells #[v2, .int .u32 0] 54 (0, 0))
  rv2 : w1.ownsRow w.heap.size 32 1 v2 k (ifcs wd k)
  fwd : ∀ j, j < k → w.heap.size ≤ wd j ∧ w1.heap[wd j]? = some (.cells #[.int .i64 (ws.getD j 0)] 132 (0, 0))
  inj : ∀ i j, i < k → j < k → wd i = wd j → i = j
  low : ∀ b, b < w.heap.size → w1.heap[b]? = w.heap[b]?
theorem NewF.more {w w1 w2 : World} {ws : List Int} {k wb bb : Nat} {v v2 : Value} {wd : Nat → Nat} (h : NewF w w1 ws k wb bb v v2 wd) (e : ∀ b, b < w1.heap.size → w2.heap[b]? = w1.heap[b]?) : NewF w w2 ws k wb bb v v2 wd := by
  have kp : ∀ {b : Nat} {o : Obj}, w1.heap[b]? = some o → w2.heap[b]? = some o := fun hb => (e _ (Array.getElem?_eq_some_iff.1 hb).1).trans hb
  have lt : wb < w1.heap.size := (Array.getElem?_eq_some_iff.1 h.fwb).1
  refine ⟨h.n1, h.n2, kp h.fwb, ownsRow_keep h.rv fun g o _ hh => kp hh, kp h.fbb, ownsRow_keep h.rv2 fun g o _ hh => kp hh, fun j hj => ⟨(h.fwd j hj).1, kp (h.fwd j hj).2⟩, h.inj, fun b hb => (e b ?_).trans (h.low b hb)⟩
  have := h.n1; omega
theorem ownsRow_heap {w w' : World} {base n : Nat} {e : TypeId} {sz : Nat} {v : Value} {ys : List Value} (h : w.ownsRow base e sz v n ys) (q : w'.heap = w.heap) : w'.ownsRow base e sz v n ys := ownsRow_keep h fun g o _ hh => by rw [q]; exact hh
theorem DM.sim {w0 w0' w w' : World} {N dc ac ar n : Nat} {dv : Value} {S : Nat → Value} {k : Nat} {oc ic : Nat → Nat} {v : Value} (h : DM w0 N dc ac ar n dv S k oc ic v w) (h0 : Sim w0 w0') (h1 : Sim w' w) : DM w0' N dc ac ar n dv S k oc ic v w' := by
  have e := h1.heap
  have e0 := h0.heap
  exact ⟨by rw [e]; exact h.fdc, by rw [e]; exact h.fac, by rw [e]; exact h.far, fun j hj => by rw [e]; exact h.foc j hj, fun j hj => by rw [e]; exact h.fic j hj, ownsRow_heap h.row e, fun b hb => by rw [e, ← e0]; exact h.low b hb, h.nd, by rw [e]; exact h.nw, (h1.outs.1.trans h.outs.1).trans h0.outs.1, (h1.outs.2.trans h.outs.2).trans h0.outs.2⟩
theorem set4 {w : World} {N : Nat} {a b c d x y z u : Value} {t : TypeId} (h : w.heap[N]? = some (.cells #[a, b, c, d] t (0, 0))) :
    ((((w.setCell ⟨N, 0, none⟩ x).setCell ⟨N, 1, none⟩ y).setCell ⟨N, 2, none⟩ z).setCell ⟨N, 3, none⟩ u).heap[N]? = some (.cells #[x, y, z, u] t (0, 0)) ∧
      (∀ g, g ≠ N → ((((w.setCell ⟨N, 0, none⟩ x).setCell ⟨N, 1, none⟩ y).setCell ⟨N, 2, none⟩ z).setCell ⟨N, 3, none⟩ u).heap[g]? = w.heap[g]?) ∧
      ((((w.setCell ⟨N, 0, none⟩ x).setCell ⟨N, 1, none⟩ y).setCell ⟨N, 2, none⟩ z).setCell ⟨N, 3, none⟩ u).heap.size = w.heap.size := by
  refine ⟨?_, fun g hg => ?_, by simp [World.setCell]⟩
  · have h1 := storedAt h 0 x
    have h2 := storedAt h1 1 y
    have h3 := storedAt h2 2 z
    have h4 := storedAt h3 3 u
    rw [h4]
    simp
  · rw [Below.heap_setCell _ _ _ _ hg, Below.heap_setCell _ _ _ _ hg, Below.heap_setCell _ _ _ _ hg, Below.heap_setCell _ _ _ _ hg]
theorem size63 : (Try.prog.info? 63).map (·.size) = some 4 := by kernel_rfl
def gameB (k : Nat) (ws : List Int) (LL : List (List OpD)) (sch : List Int) (most : Int) : GSt BM :=
  playO (min LL.length 64) (min (max most 0) 1048576).toNat (fun i => opsT k i ((LL.getD i []).take 65536)) ⟨fun j => ws.getD j 0, false, fun _ => []⟩ sch
theorem range_getD (l : List Int) : (List.range' 0 l.length).map (fun j => l.getD j 0) = l := by
  apply List.ext_getElem?
  intro i
  by_cases h : i < l.length
  · simp [h]
  · simp [List.getElem?_eq_none (Nat.le_of_not_lt h)]
    omega
def traceV (ar n : Nat) (vo vs : Value) (stuck : Bool) : Value := .agg #[.slice (some ⟨ar, 0, none⟩) n n, vo, vs, .bool stuck]
set_option maxRecDepth 100000 in
set_option maxHeartbeats 1000000 in
theorem ops_runs {Z : Machine → Trace → Prop} {c : Frame} {cs : List Frame} {w w1 : World} {ws : List Int} {LL : List (List OpD)} {sch : List Int} {k wb bb : Nat} {v v2 : Value} {wd : Nat → Nat} (hk : k = min ws.length 65) (hIn : ∀ x ∈ ws, In64 x) (NF : NewF w w1 ws k wb bb v v2 wd)
    {vt vs : Value} (hT : ThrIn w vt LL) (hLL : LL.length ≤ 1000000000) (hS : IntsIn w vs sch) (hnS : sch.length ≤ 1048576) {most : Int} (hmost : most < 9223372036854775808)
    (h : ∀ (Y : BL) own' w' vo, Y.Wf → Y.k = k → Y.n = min LL.length 64 → Y.wb = wb → BRep Y (gameB k ws LL sch most).m own' w' → (∀ b, b < w.heap.size → w'.heap[b]? = w.heap[b]?) → w1.heap.size ≤ w'.heap.size → (w'.os = w1.os ∧ w'.output = w1.output) → (∀ b, w'.heap.size ≤ b → own' b = .out) →
      w'.ownsRow w1.heap.size 3 1 vo (gameB k ws LL sch most).ord.length (intsL (gameB k ws LL sch most).ord) →
      RM Try.prog Z (G (c.finish (traceV Y.ar Y.n vo (.slice none 0 0) (decide (0 < leftO (gameB k ws LL sch most).co (min LL.length 64))))) cs) w') :
    RM Try.prog Z (G (Frame.enter Try.prog 29 #[vt, dvV wb, vs, .int .i64 most] .normal) (c :: cs)) w1 := by
  obtain ⟨ta, tcap, rfl, ob, ln, cp, hta, hops⟩ := hT
  obtain ⟨hsI, sa, scap, rfl, hsc, hsa⟩ := hS
  have hs1 : w.heap.size ≤ w1.heap.size := by have := (Array.getElem?_eq_some_iff.1 NF.fwb).1; have := NF.n1; omega
  rw [enter_at _ Try.func29 rfl]
  simp only [Try.ntmps29, List.size_toArray, List.length_cons, List.length_nil, Nat.reduceAdd, Nat.reduceSub, Array.replicate_succ,
     Array.replicate_zero, List.push_toArray, List.append_toArray, List.nil_append, List.cons_append]
  generalize hdv : dvV wb = dv at *
  replace hdv := Lib.hid hdv
  replace h := Lib.hid h
  refine x_seqR rm_xc fun R0 hR0 => ?_
  refine rm_seg prg0 (calmCode_of ext_ok (by kernel_rfl)) rfl (calmRes_of Try.func29) rfl fun wp hp => ?_
  go_wp2_with fail
  refine fun wa ha => ?_
  have sz0 : wp.heap.size = w1.heap.size := by rw [hp.heap]
  have szA : wa.heap.size = w1.heap.size + 1 := by rw [ha.heap]; simp [sz0]
  have eA : wa.heap[w1.heap.size]? = some (.cells #[.slice none 0 0, .slice none 0 0, .slice none 0 0, .bool false] 63 (0, 0)) := by rw [ha.heap, ← sz0]; exact heap_alloc_new _ _
  have lowA : ∀ b, b < w1.heap.size → wa.heap[b]? = w1.heap[b]? := fun b hb => by rw [ha.heap, Below.heap_alloc _ _ _ (by omega), hp.heap]
  have outA : wa.os = w1.os ∧ wa.output = w1.output := ⟨ha.outs.1.trans hp.outs.1, ha.outs.2.trans hp.outs.2⟩
  rw [sz0]
  clear ha hp sz0 wp
  obtain rfl := hR0.out
  clear hR0
  have NA := NF.more lowA
  refine x_seqR rm_xc fun R0 hR0 => ?_
  refine rm_seg prg0 (calmCode_of ext_ok (by kernel_rfl)) rfl (calmRes_of Try.func29) rfl fun wp hp => ?_
  have hn2 : min ((min LL.length 64 : Nat) : Int) 64 = ((min LL.length 64 : Nat) : Int) := by omega
  have hn : min (LL.length : Int) 64 = (min LL.length 64 : Nat) := by omega
  obtain ⟨tb, tof, htb⟩ : ∃ tb tof, LL ≠ [] → ta = some ⟨tb, tof, none⟩ ∧ ∀ i L, LL[i]? = some L → w.cell? ⟨tb, tof + i, none⟩ = some (.slice (ob i) (ln i) (cp i)) := by
    by_cases hne : LL = []
    · exact ⟨0, 0, fun q => absurd hne q⟩
    · obtain ⟨b, o, q1, q2⟩ := hta hne
      exact ⟨b, o, fun _ => ⟨q1, q2⟩⟩
  have hLn : ∀ i, i < min LL.length 64 → LL[i]? = some (LL.getD i []) := fun i hi => by
    rw [List.getD_eq_getElem?_getD, List.getElem?_eq_getElem (by omega)]
    rfl
  have hne : 0 < min LL.length 64 → LL ≠ [] := fun h0 z => by rw [z] at h0; simp at h0
  have HW := Lib.hid (doing_walk wp (ta := ta) (cT := tcap) hn (dv := dv) (by rw [← hdv.out]; rfl) hLL (tb := tb) (tof := tof) (fun h0 => (htb (hne h0)).1) (ob := ob) (ln := ln) (cp := cp) (fun j hj => by
    have q := (htb (hne (by omega))).2 j _ (hLn j hj)
    have qb := World.block_lt_of_cell? w _ q
    simp only at qb
    rw [World.cell?_of_block (w := w)]
    · exact q
    · show wp.heap[tb]? = w.heap[tb]?
      rw [hp.heap, lowA _ (by omega)]
      exact NF.low _ qb) (fun j hj => by
    obtain ⟨_, q1, q2, _⟩ := hops j _ (hLn j hj)
    exact q2))
  go_wp2_with (go_at_call 43; refine HW.out.mono ?_; rintro e w' ⟨oc, ic, va, rfl, hD⟩; have D := Lib.hid hD; clear hD)
  refine fun w2 h2 => ?_
  have D2 := D.out.sim hp h2
  have szp : wp.heap.size = wa.heap.size := by rw [hp.heap]
  rw [szp] at D2 ⊢
  clear h2 D HW hp szp
  obtain ⟨va', vc, rfl, hvc, hvb⟩ := row_cells D2.row
  obtain rfl := hR0.out
  clear hR0
  rw [← hdv.out] at D2
  obtain ⟨Y, own0, hY, Yk, Yn, Yw, Ya, hR, hout, htyp, hold, hTW⟩ := rep_start hk hIn NA.n1 NA.n2 NA.fwb NA.rv NA.fbb NA.rv2 NA.fwd NA.inj NA.low (by omega) D2 (LL := fun i => LL.getD i []) fun i hi => hops i _ (hLn i hi)
  have eA2 : w2.heap[w1.heap.size]? = some (.cells #[.slice none 0 0, .slice none 0 0, .slice none 0 0, .bool false] 63 (0, 0)) := (D2.low _ (by omega)).trans eA
  have oA : own0 w1.heap.size = .out := htyp _ _ _ (by omega) eA2 (.inr rfl)
  have sz2 := D2.nw
  refine x_seqR rm_xc fun R0 hR0 => ?_
  refine rm_reg 3 (by decide) (by decide) (calm0 (by kernel_rfl)) fun wp hp => ?_
  simp only [List.take_succ_cons, List.take_zero]
  replace hp := Lib.hid hp
  go_wp2_with fail
  refine rm_after rfl fun w3 h3 => ?_
  have h23 : w3.heap = w2.heap := h3.heap.trans hp.out.heap
  have o23 : w3.os = w1.os ∧ w3.output = w1.output := ⟨((h3.outs.1.trans hp.out.outs.1).trans D2.outs.1).trans outA.1, ((h3.outs.2.trans hp.out.outs.2).trans D2.outs.2).trans outA.2⟩
  have low3 : ∀ b, b < w.heap.size → w3.heap[b]? = w.heap[b]? := fun b hb => by rw [h23, D2.low b (by omega)]; exact NA.low b hb
  clear h3 hp wp
  have R3 := BRep.local Y _ own0 own0 _ w3 hR fun b hb => ⟨hb, by rw [h23]⟩
  obtain ⟨g, hg⟩ : ∃ g, 0 < min LL.length 64 → ∃ c, va' = some ⟨g, 0, none⟩ ∧ wa.heap.size ≤ g ∧ w2.heap[g]? = some (.cells c 99 (0, 0)) ∧ ∀ j, j < min LL.length 64 → c[j]? = ((List.range (min LL.length 64)).map (closV wa.heap.size (wa.heap.size + 2) oc ic))[j]? := by
    by_cases h0 : 0 < min LL.length 64
    · obtain ⟨g, c, q⟩ := hvb h0
      exact ⟨g, fun _ => ⟨c, q⟩⟩
    · exact ⟨0, fun q => absurd q h0⟩
  obtain ⟨sb, so, hs⟩ : ∃ sb so, sch ≠ [] → sa = some ⟨sb, so, none⟩ ∧ ∀ j x, sch[j]? = some x → w.cell? ⟨sb, so + j, none⟩ = some (.int .i64 x) := by
    by_cases h0 : sch = []
    · exact ⟨0, 0, fun q => absurd h0 q⟩
    · obtain ⟨b, o, q1, q2⟩ := hsa h0
      exact ⟨b, o, fun _ => ⟨q1, q2⟩⟩
  have hsne : 0 < sch.length → sch ≠ [] := fun h0 z => by rw [z] at h0; simp at h0
  have hsd : ∀ j, j < sch.length → w.cell? ⟨sb, so + j, none⟩ = some (.int .i64 (sch.getD j 0)) := fun j hj => by
    refine (hs (hsne (by omega))).2 j _ ?_
    rw [List.getD_eq_getElem?_getD, List.getElem?_eq_getElem hj]
    rfl
  refine x_callF rm_xc rfl rfl (by decide) rfl Try.func44 (by kernel_rfl) (by kernel_rfl) ?_
  walk_nrm
  have hmo : min (max most 0) 1048576 = ((min (max most 0) 1048576).toNat : Int) := by omega
  refine over_runs (n := min LL.length 64) (BRep.local Y) hn2 hmo hmost R3 (fun b hb => hout b (by rw [h23] at hb; exact hb)) (tb := g) («to» := 0) (F := closV wa.heap.size (wa.heap.size + 2) oc ic) (fun h0 => (hg h0).choose_spec.1) (fun i hi => ?hF) (fun h0 => ?htb) (sb := sb) (so := so) (sd := fun j => sch.getD j 0) (fun h0 => (hs (hsne h0)).1) (fun j hj => ?hsd) (fun h0 => ?hsb) hnS
    (φ := fun i => opsT k i ((LL.getD i []).take 65536)) (fun U hU i hi => ⟨fp_ops _ _, fun hh => ?hphi⟩) fun own' w' vo bp Rf hlow hsz houts hfr hrow => ?_
  case hF =>
    obtain ⟨c, _, q2, q3, q4⟩ := hg (by omega)
    rw [Nat.zero_add, cellAt (by rw [h23]; exact q3) i, q4 i hi]
    simp [hi]
  case htb =>
    obtain ⟨c, _, q2, q3, _⟩ := hg h0
    exact ⟨by rw [h23]; exact (Array.getElem?_eq_some_iff.1 q3).1, htyp _ _ _ (by omega) q3 (.inl rfl)⟩
  case hsd =>
    have q := hsd j hj
    have qb := World.block_lt_of_cell? w _ q
    simp only at qb
    exact (World.cell?_of_block (w := w) (show w3.heap[sb]? = w.heap[sb]? from low3 sb qb)).trans q
  case hsb =>
    have q := hsd 0 h0
    have qb := World.block_lt_of_cell? w _ q
    simp only at qb
    refine ⟨by rw [h23]; omega, (hold sb qb).imp id fun q m own w' R => (q m own w' R).trans (low3 sb qb).symm⟩
  case hphi =>
    subst Yk
    exact thread_cps hY (by rw [Yn]; exact hi) (by rw [hU]; exact Nat.min_le_right _ _) (hTW i hi) rfl
  have eG : playO (min LL.length 64) (min (max most 0) 1048576).toNat (fun i => opsT k i ((LL.getD i []).take 65536)) ⟨fun j => ws.getD j 0, false, fun _ => []⟩ ((List.range' 0 sch.length).map fun j => sch.getD j 0) = gameB k ws LL sch most := by
    rw [range_getD]; rfl
  rw [eG] at Rf hrow ⊢
  have eA3 : w3.heap[w1.heap.size]? = some (.cells #[.slice none 0 0, .slice none 0 0, .slice none 0 0, .bool false] 63 (0, 0)) := by rw [h23]; exact eA2
  have eA4 := (hlow w1.heap.size (Array.getElem?_eq_some_iff.1 eA3).1 oA).2.trans eA3
  have hoA := (hlow w1.heap.size (Array.getElem?_eq_some_iff.1 eA3).1 oA).1
  have hlow' : ∀ b, b < w.heap.size → w'.heap[b]? = w.heap[b]? := fun b hb => by
    rcases hold b hb with q | q
    · exact (hlow b (by rw [h23]; omega) q).2.trans (low3 b hb)
    · exact q _ _ _ Rf
  have hout' : w'.os = w1.os ∧ w'.output = w1.output := ⟨houts.1.trans o23.1, houts.2.trans o23.2⟩
  have hsz' : w1.heap.size < w'.heap.size := (Array.getElem?_eq_some_iff.1 eA4).1
  have hrow' : w'.ownsRow w1.heap.size 3 1 vo (gameB k ws LL sch most).ord.length (intsL (gameB k ws LL sch most).ord) := by
    obtain ⟨r1, r2⟩ := hrow
    refine ⟨r1, r2.imp id fun ⟨g, cap, cur, e, q1, q2, q3⟩ => ⟨g, cap, cur, e, ?_, q2, q3⟩⟩
    rw [h23] at q1
    omega
  clear eA3 eA2 eA hlow hsz houts hold htyp hTW hout D2 R3 hR low3 o23 NA hsd hs hg hmo eG hrow
  generalize gameB k ws LL sch most = gf at *
  rw [Frame.finish_at]
  refine rm_more 4 7 (by decide) (by decide) (calm0 (by kernel_rfl)) fun wp hp => ?_
  simp only [List.drop_succ_cons, List.drop_zero, List.take_succ_cons, List.take_zero]
  replace hp := Lib.hid hp
  go_wp2_with fail
  refine rm_after rfl fun w4 h4 => ?_
  refine x_regionEnd rm_xc ?_
  obtain rfl := hR0.out
  clear hR0
  have e4 : w4.heap = w'.heap := h4.heap.trans hp.out.heap
  have o4 : w4.os = w1.os ∧ w4.output = w1.output := ⟨(h4.outs.1.trans hp.out.outs.1).trans hout'.1, (h4.outs.2.trans hp.out.outs.2).trans hout'.2⟩
  clear h4 hp wp
  refine x_seqR rm_xc fun R0 hR0 => ?_
  refine rm_seg prg0 (calmCode_of ext_ok (by kernel_rfl)) rfl (calmRes_of Try.func29) rfl fun wp hp => ?_
  have hN : wp.heap[w1.heap.size]? = some (.cells #[.slice none 0 0, .slice none 0 0, .slice none 0 0, .bool false] 63 (0, 0)) := by rw [hp.heap, e4]; exact eA4
  generalize hNN : w1.heap.size = N at *
  have c0 := cellAt hN 0
  have c1 := cellAt hN 1
  have c2 := cellAt hN 2
  have c3 := cellAt hN 3
  have z0 := freeAt hN 0
  have z1 := freeAt hN 1
  have z2 := freeAt hN 2
  have z3 := freeAt hN 3
  simp only [List.getElem?_toArray, List.getElem?_cons_zero, List.getElem?_cons_succ] at c0 c1 c2 c3
  replace hN := Lib.hid hN
  replace hp := Lib.hid hp
  obtain ⟨vp, vc2, rfl⟩ := own_sl hrow'
  replace hrow' := Lib.hid hrow'
  go_wp2_with fail
  refine fun w5 h5 => ?_
  obtain ⟨s1, s2, s3⟩ := set4 (x := .slice (some ⟨N + 1 + 1, 0, none⟩) (min LL.length 64) (min LL.length 64)) (y := .slice vp gf.ord.length vc2) (z := .slice none 0 0) (u := .bool (decide (0 < leftO gf.co (min LL.length 64)))) hN.out
  have oN := h5.outs
  have hh := h5.heap
  rw [← hh] at s1 s2 s3
  have o5 : w5.os = w1.os ∧ w5.output = w1.output := ⟨(oN.1.trans hp.out.outs.1).trans o4.1, (oN.2.trans hp.out.outs.2).trans o4.2⟩
  have s4 : ∀ g, g ≠ N → w5.heap[g]? = w'.heap[g]? := fun g hg => by rw [s2 g hg, hp.out.heap, e4]
  have s5 : w5.heap.size = w'.heap.size := by rw [s3, hp.out.heap, e4]
  clear h5 hh oN s2 s3 c0 c1 c2 c3 z0 z1 z2 z3
  obtain rfl := hR0.out
  clear hR0
  refine x_ret rm_xc ?_
  refine x_leave rm_xc (calmRes_of Try.func29) (none_seats _) (v := .agg #[.slice (some ⟨N + 1 + 1, 0, none⟩) (min LL.length 64) (min LL.length 64), .slice vp gf.ord.length vc2, .slice none 0 0, .bool (decide (0 < leftO gf.co (min LL.length 64)))]) (by
    rw [poi_none]
    exact ⟨rfl, rfl, rfl, _, Try.func29, results_cell_row rfl _ _ N 63 _ (0, 0) _ rfl s1 Try.underlying63 rfl size63⟩) ?_
  have hoN : own' N = .out := hoA
  have := h.out Y own' w5 (.slice vp gf.ord.length vc2) hY Yk Yn Yw (BRep.local Y _ own' own' _ _ Rf fun b hb => ⟨hb, s4 b fun z => by rw [z, hoN] at hb; cases hb⟩) (fun b hb => (s4 b (by omega)).trans (hlow' b hb)) (by omega) o5 (fun b hb => hfr b (by omega)) (ownsRow_keep hrow'.out fun g o hg hh => (s4 g fun z => by
    have h1 := ownsRow_type hrow'.out hg
    obtain ⟨cc, hcc⟩ := h1
    rw [z, eA4] at hcc
    simp at hcc).trans hh)
  rw [Ya, Yn, szA] at this
  exact this
end Go.Proofs.Ytimkkeomdkbcjaa
