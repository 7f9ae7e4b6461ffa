/-
  The contract of judge.Writers.
-/
import Derived.Test.YtfcaebceklhbkaaDoorRun
import Derived.Test.YtfcaebceklhbkaaDoorMaps
namespace Go.Proofs.YtfcaebceklhbkaaDoor
open Go.RowKit Go.Maps
set_option linter.unusedVariables false

/-- A number of 64 bits. -/
def In64 (n : Int) : Prop := -9223372036854775808 ≤ n ∧ n ≤ 9223372036854775807
theorem In64.wf {n : Int} (h : In64 n) : (Lit.int .i64 n).wf = true := by
  have h0 : IntKind.i64.min = -9223372036854775808 := rfl
  have h1 : IntKind.i64.max = 9223372036854775807 := rfl
  simp only [Lit.wf, Bool.and_eq_true, decide_eq_true_eq]
  unfold In64 at h
  omega
theorem In64.of_wf {n : Int} (h : (Lit.int .i64 n).wf = true) : In64 n := by
  have h0 : IntKind.i64.min = -9223372036854775808 := rfl
  have h1 : IntKind.i64.max = 9223372036854775807 := rfl
  simp only [Lit.wf, Bool.and_eq_true, decide_eq_true_eq] at h
  unfold In64
  omega
theorem in64_wrap (n : Int) : In64 (wrap64 n) := by
  unfold In64 wrap64
  omega
/-- What was seen is of 64 bits. -/
def Small4 (S : List Seen4) : Prop := ∀ i, i < S.length → In64 (S.getD i default).q ∧ In64 (S.getD i default).a ∧ In64 (S.getD i default).b ∧ In64 (S.getD i default).d

/-- The number that is wanted next of a writer, behind j places. -/
def nextAt (S : List Seen4) : Nat → Int → Option Int
  | 0, _ => none
  | j + 1, x => if x = (S.getD j default).a then some (wrap64 ((S.getD j default).b + 1)) else nextAt S j x
/-- What is told at place j. -/
def writTold (S : List Seen4) (j : Nat) : List Flt :=
  match nextAt S j (S.getD j default).a with
  | some y => if (S.getD j default).b = y then [] else [⟨5, 0, j, (S.getD j default).q, y⟩]
  | none => []
def writAt (S : List Seen4) : Nat → List Flt
  | 0 => []
  | j + 1 => writAt S j ++ writTold S j
def writF (S : List Seen4) : List Flt := writAt S S.length

theorem writAt_length (S : List Seen4) : ∀ j, (writAt S j).length ≤ j
  | 0 => by simp [writAt]
  | j + 1 => by
    have := writAt_length S j
    simp only [writAt, writTold]
    split
    · split <;> simp <;> omega
    · simp; omega

theorem nextAt_in64 (S : List Seen4) : ∀ (j : Nat) (x y : Int), nextAt S j x = some y → In64 y
  | 0, x, y, h => by simp [nextAt] at h
  | j + 1, x, y, h => by
    simp only [nextAt] at h
    split at h
    · simp at h; rw [← h]; exact in64_wrap _
    · exact nextAt_in64 S j x y h

/-- The map of what is wanted next, as a function. -/
def nextF (S : List Seen4) (j : Nat) : Lit → Option (DataW Unit)
  | .int .i64 x => (nextAt S j x).map fun y => .lit (.int .i64 y)
  | _ => none

theorem nextF_put (S : List Seen4) (j : Nat) : putF (nextF S j) (.int .i64 (S.getD j default).a) (.lit (.int .i64 (wrap64 ((S.getD j default).b + 1)))) = nextF S (j + 1) := by
  funext kl
  unfold putF
  by_cases e : kl = .int .i64 (S.getD j default).a
  · subst e
    simp [nextF, nextAt]
  · rw [if_neg e]
    cases kl with
    | int q x =>
      cases q <;> try rfl
      have hx : x ≠ (S.getD j default).a := fun h => e (by rw [h])
      simp only [nextF, nextAt, if_neg hx]
    | _ => rfl
/-- The memory of a loop that has a row of faults and a map: both the call's own. -/
structure WSt (w0 : World) (N e5 kt : Nat) (R : RdM) (j : Nat) (l : List Flt) (f : Lit → Option (DataW Unit)) (v : Value) (wr : World) : Prop where
  row : wr.ownsRow (N + 1) e5 5 v l.length (fcells l)
  map : MapF wr kt R N j f
  low : Below N w0 wr
  nw : N + 1 ≤ wr.heap.size

section
variable {w0 wr : World} {N e5 kt j : Nat} {R : RdM} {l : List Flt} {f : Lit → Option (DataW Unit)} {v : Value}

theorem WSt.alloc (h : WSt w0 N e5 kt R j l f v wr) (o : Obj) : WSt w0 N e5 kt R j l f v (wr.alloc o) :=
  ⟨h.row.alloc o, h.map.alloc o, h.low.alloc (by have := h.nw; omega) o, by have := h.nw; simp; omega⟩
theorem WSt.draws (h : WSt w0 N e5 kt R j l f v wr) (m : Nat) : WSt w0 N e5 kt R j l f v (wr.drewN m) :=
  ⟨h.row, h.map, ⟨h.low.os, h.low.tape, h.low.output, h.low.size, h.low.block⟩, h.nw⟩
theorem WSt.app (h : WSt w0 N e5 kt R j l f v wr) {o : Obj} {x : Flt} {v' : Value} {w1 : World} (ha : Appended (wr.alloc o) (N + 1) e5 5 v l.length 1 (fcells l ++ x.cells) v' w1) : WSt w0 N e5 kt R j (l ++ [x]) f v' w1 := by
  obtain ⟨h1, h2, _⟩ := ha
  have hs := h2.size
  have hn := h.nw
  simp at hs
  refine ⟨by rw [fcells_snoc]; simpa using h1, (h.map.alloc o).kept h2 ?_, (h.low.alloc (by omega) _).grown h2 (by simp; omega) (fun k hk => by have := (h.row.lt k hk).1; omega), by omega⟩
  intro e
  have := (h.row.lt N e.symm).1
  omega
theorem WSt.put (h : WSt w0 N e5 kt R j l f v wr) {f' : Lit → Option (DataW Unit)} {w' : World} (hm : MapF w' kt R N (j + 1) f') (hg : wr.grownBy w' (some N)) : WSt w0 N e5 kt R (j + 1) l f' v w' := by
  have hs := hg.size
  have hn := h.nw
  refine ⟨h.row.kept hg ?_, hm, h.low.grown hg (by omega) (fun k hk => by simp at hk; omega), by omega⟩
  right
  intro e
  have := (h.row.lt N e).1
  omega
end

theorem own_base {w : World} {B N e k n : Nat} {v : Value} {xs : List Value} (h : w.ownsRow B e k v n xs) (hb : N ≤ B) : w.ownsRow N e k v n xs := by
  refine ⟨h.1, ?_⟩
  rcases h.2 with hn | ⟨g, cap, cur, rfl, h1, h2, h3⟩
  · exact .inl hn
  · exact .inr ⟨g, cap, cur, rfl, by omega, h2, h3⟩

theorem src_at (W : World) (m : Nat) (hm : W.heap.size = m) (cs : Array Value) (T k : Nat) (hk : cs.size = k) (h1 : ∀ u ∈ cs.toList, u.oneCell' = true) :
    SrcOf (W.alloc (.cells cs T)) k (.slice (some ⟨m, 0, none⟩) 1 1) 1 cs.toList := by
  subst hm
  exact src_one0 W cs T k hk h1

set_option maxRecDepth 100000 in
set_option maxHeartbeats 600000000000 in
theorem writers_walk (ao : Option Addr) (n c : Nat) (S : List Seen4) (w : World) (h0 : SeenRow w ao S) (hsm : Small4 S) (hSn : S.length = n) (hn : n ≤ 300000000000) :
    Calls Tryd.prog 26 #[.slice ao n c] w (DoneF 77 (writF S) w) := by
  obtain ⟨i0, hi0, hz0, hz1, hz2⟩ := info_parts info77
  have H0 := Lib.hid h0
  have HSn := Lib.hid hSn
  have HSM := Lib.hid hsm
  clear h0 hSn hsm
  have HST0 : Hid (WSt w w.heap.size 77 3 (plainElem Tryd.prog 3) 0 [] (nextF S 0) (.slice none 0 0) (w.alloc (.map #[] 0))) := by
    refine ⟨World.ownsRow_nil _ _ _ _, ?_, (Below.refl _ _).alloc (Nat.le_refl _) _, by simp⟩
    have := mapF_new w 3 (plainElem Tryd.prog 3)
    have e : nextF S 0 = fun _ => none := by
      funext kl
      cases kl with
      | int q x => cases q <;> rfl
      | _ => rfl
    rw [e]
    exact this
  have hmk := run_makeMap (P := Tryd.prog) 108 w
  generalize hN : w.heap.size = N at *
  have HN := Lib.hid hN
  clear hN
  go_enter Tryd.func26, Tryd.ntmps26
  go_wp2_with fail
  clear hmk
  go_loopw [3, 14] (fun v jv wr => ∃ j : Nat, j ≤ n ∧ jv = .int .i64 j ∧ WSt w N 77 3 (plainElem Tryd.prog 3) j (writAt S j) (nextF S j) v wr) (fun _ jv _ => n - (intOf jv).toNat)
  case atStart => exact ⟨0, by omega, rfl, HST0.out⟩
  case round =>
    obtain ⟨j, hj, rfl, hR⟩ := hrel
    have HR := Lib.hid hR
    have hlen := writAt_length S j
    clear hR
    by_cases hlt : j < n
    · have hrow := H0.out.below (HR.out.low.mono (by have := HN.out; omega))
      obtain ⟨g, o, rfl, hc⟩ : ∃ g o, ao = some ⟨g, o, none⟩ ∧ ∀ i, i < n → wr.cell? ⟨g, o + i * 4, none⟩ = some (.int .i64 (S.getD i default).q) ∧ wr.cell? ⟨g, o + i * 4 + 1, none⟩ = some (.int .i64 (S.getD i default).a) ∧
          wr.cell? ⟨g, o + i * 4 + 2, none⟩ = some (.int .i64 (S.getD i default).b) ∧ wr.cell? ⟨g, o + i * 4 + 3, none⟩ = some (.int .i64 (S.getD i default).d) := by
        rcases hrow with h | ⟨g, o, h1, h2⟩
        · have := HSn.out; subst h; simp at this; omega
        · exact ⟨g, o, h1, by rw [← HSn.out]; exact h2⟩
      obtain ⟨c1, c2, c3, c4⟩ := hc j hlt
      clear hc hrow
      have hab := HSM.out j (by rw [HSn.out]; exact hlt)
      have HKEY := Lib.hid (key_int (S.getD j default).a hab.2.1.wf)
      have HVAL := Lib.hid (elem_int (wrap64 ((S.getD j default).b + 1)) (in64_wrap _).wf)
      clear hab
      have HPF := Lib.hid (nextF_put S j)
      have HW1 : Hid (writAt S (j + 1) = writAt S j ++ match nextAt S j (S.getD j default).a with
        | some y => if (S.getD j default).b = y then [] else [⟨5, 0, j, (S.getD j default).q, y⟩]
        | none => []) := rfl
      have HNF : Hid (nextF S j (.int .i64 (S.getD j default).a) = (nextAt S j (S.getD j default).a).map fun y => .lit (.int .i64 y)) := rfl
      generalize (S.getD j default).q = q at *
      generalize (S.getD j default).a = a at *
      generalize (S.getD j default).b = b at *
      generalize (S.getD j default).d = d at *
      have HD := Lib.hid (fun m => (HR.out.alloc (.cells #[.int .i64 q, .int .i64 a, .int .i64 b, .int .i64 d] 75)).draws m)
      have HM := Lib.hid (fun m => (HD.out m).map)
      generalize writAt S j = l at *
      rcases hnx : nextAt S j a with _ | y
      · have HLK : Hid ((nextF S j (.int .i64 a) = none ∧ (0 : Int) = 0 ∧ false = false) ∨ (nextF S j (.int .i64 a) = some (.lit (.int .i64 0)) ∧ false = true)) := .inl ⟨by rw [hid_eq HNF, hnx]; rfl, rfl, rfl⟩
        have HW2 := Lib.hid (show writAt S (j + 1) = l from by rw [hid_eq HW1, hnx]; simp)
        clear hnx HW1 HNF
        go_wp2_with (first | go_quiet (fail) | (at_lookup; go_must (refine wpList_look_ok rfl _ _ 108 rfl 3 3 keyed_int Tryd.underlying108 Tryd.underlying3 (zero_int _) N j (nextF S j) rfl (HM.out _) _ (.int .i64 a) rfl HKEY.out 0 false HLK.out ?_)) | (at_mapUpdate; go_must (refine wpList_put rfl _ _ _ 108 rfl 3 3 keyed_int Tryd.underlying108 (plainElem Tryd.prog 3) N j (nextF S j) rfl (HM.out _) (by unfold maxLen; omega) _ _ (.int .i64 a) rfl rfl HKEY.out (.lit (.int .i64 (wrap64 (b + 1)))) [] HVAL.out ?_); intro w4 hm4 hg4; have HM4 := Lib.hid hm4; have HG4 := Lib.hid hg4; clear hm4 hg4))
        go_roundw
        case rel => exact ⟨j + 1, by omega, by go_num, by rw [HW2.out, ← HPF.out]; exact (HD.out _).put HM4.out HG4.out⟩
        case measure => simp [intOf]; omega
      · by_cases hby : b = y
        · have HLK : Hid ((nextF S j (.int .i64 a) = none ∧ y = 0 ∧ true = false) ∨ (nextF S j (.int .i64 a) = some (.lit (.int .i64 y)) ∧ true = true)) := .inr ⟨by rw [hid_eq HNF, hnx]; rfl, rfl⟩
          have HW2 := Lib.hid (show writAt S (j + 1) = l from by rw [hid_eq HW1, hnx]; simp [hby])
          subst hby
          clear hnx HW1 HNF
          go_wp2_with (first | go_quiet (fail) | (at_lookup; go_must (refine wpList_look_ok rfl _ _ 108 rfl 3 3 keyed_int Tryd.underlying108 Tryd.underlying3 (zero_int _) N j (nextF S j) rfl (HM.out _) _ (.int .i64 a) rfl HKEY.out b true HLK.out ?_)) | (at_mapUpdate; go_must (refine wpList_put rfl _ _ _ 108 rfl 3 3 keyed_int Tryd.underlying108 (plainElem Tryd.prog 3) N j (nextF S j) rfl (HM.out _) (by unfold maxLen; omega) _ _ (.int .i64 a) rfl rfl HKEY.out (.lit (.int .i64 (wrap64 (b + 1)))) [] HVAL.out ?_); intro w4 hm4 hg4; have HM4 := Lib.hid hm4; have HG4 := Lib.hid hg4; clear hm4 hg4))
          go_roundw
          case rel => exact ⟨j + 1, by omega, by go_num, by rw [HW2.out, ← HPF.out]; exact (HD.out _).put HM4.out HG4.out⟩
          case measure => simp [intOf]; omega
        · have HLK : Hid ((nextF S j (.int .i64 a) = none ∧ y = 0 ∧ true = false) ∨ (nextF S j (.int .i64 a) = some (.lit (.int .i64 y)) ∧ true = true)) := .inr ⟨by rw [hid_eq HNF, hnx]; rfl, rfl⟩
          have HW2 := Lib.hid (show writAt S (j + 1) = l ++ [⟨5, 0, j, q, y⟩] from by rw [hid_eq HW1, hnx]; simp [hby])
          have HSX : Hid (∀ m, SrcOf (((wr.alloc (.cells #[.int .i64 q, .int .i64 a, .int .i64 b, .int .i64 d] 75)).drewN m).alloc (.cells (Flt.cells ⟨5, 0, j, q, y⟩).toArray 77)) 5 (.slice (some ⟨wr.heap.size + 1, 0, none⟩) 1 1) 1 (Flt.cells ⟨5, 0, j, q, y⟩)) :=
            fun m => src_at _ _ (by simp) (Flt.cells ⟨5, 0, j, q, y⟩).toArray 77 5 rfl (flt_one _)
          have HOW := Lib.hid (fun m => (HD.out m).row.alloc (.cells (Flt.cells ⟨5, 0, j, q, y⟩).toArray 77))
          have HAP := Lib.hid (fun m v' w' ha => (HD.out m).app (o := .cells (Flt.cells ⟨5, 0, j, q, y⟩).toArray 77) (x := ⟨5, 0, j, q, y⟩) (v' := v') (w1 := w') ha)
          have hNW := HR.out.nw
          clear hnx HW1 HNF
          go_wp2_with (first | go_quiet (fail) | (at_lookup; go_must (refine wpList_look_ok rfl _ _ 108 rfl 3 3 keyed_int Tryd.underlying108 Tryd.underlying3 (zero_int _) N j (nextF S j) rfl (HM.out _) _ (.int .i64 a) rfl HKEY.out y true HLK.out ?_)) | (at_builtin; go_must (refine wpList_append_row rfl (.tmp 37) (.tmp 43) 58 rfl (N + 1) 77 i0 _ 5 40 Tryd.underlying58 hi0 hz0 hz1 (by decide) hz2 rfl u3 l.length (fcells l) rfl (HOW.out _) 1 (Flt.cells ⟨5, 0, j, q, y⟩) (HSX.out _) ?l2 ?b2 ?n2 ?_); go_must (case l2 => (unfold maxLen; omega)); go_must (case b2 => omega); go_must (case n2 => (simp; omega)); intro v' w' ha; have HA := Lib.hid (HAP.out _ _ _ ha); clear ha) | (at_mapUpdate; go_must (refine wpList_put rfl _ _ _ 108 rfl 3 3 keyed_int Tryd.underlying108 (plainElem Tryd.prog 3) N j (nextF S j) rfl HA.out.map (by unfold maxLen; omega) _ _ (.int .i64 a) rfl rfl HKEY.out (.lit (.int .i64 (wrap64 (b + 1)))) [] HVAL.out ?_); intro w4 hm4 hg4; have HM4 := Lib.hid hm4; have HG4 := Lib.hid hg4; clear hm4 hg4))
          go_roundw
          case rel => exact ⟨j + 1, by omega, by go_num, by rw [HW2.out, ← HPF.out]; exact HA.out.put HM4.out HG4.out⟩
          case measure => simp [intOf]; omega
    · obtain rfl : j = n := by omega
      go_wp2_with fail
      go_ret
      have h := HR.out.row
      exact ⟨_, rfl, by rw [writF, HSn.out, HN.out]; exact own_base h (by omega), by rw [HN.out]; exact HR.out.low⟩
end Go.Proofs.YtfcaebceklhbkaaDoor
