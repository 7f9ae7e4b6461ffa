/-
  The contract of the document's Written.
-/
import Derived.Test.YtfcaebceklhbkaaDoorSameF
namespace Go.Proofs.YtfcaebceklhbkaaDoor
open Go.RowKit
set_option linter.unusedVariables false

theorem there_succ (T : List Itm) (a b d : Int) (k : Nat) : there T a b d (k + 1) = (there T a b d k || eqItem (T.getD k default).a (T.getD k default).b (T.getD k default).d a b d) := by
  simp only [there, eqItem, Bool.and_assoc]
theorem there_mono {T : List Itm} {a b d : Int} {k : Nat} (h : there T a b d k = true) : ∀ m, k ≤ m → there T a b d m = true
  | 0, hk => by
    obtain rfl : k = 0 := by omega
    exact h
  | m + 1, hk => by
    by_cases e : k = m + 1
    · subst e; exact h
    · simp [there, there_mono h m (by omega)]

/-- The memory of a loop that has a row of faults. -/
structure RSt (w0 : World) (N e5 : Nat) (l : List Flt) (v : Value) (wr : World) : Prop where
  row : wr.ownsRow N e5 5 v l.length (fcells l)
  low : Below N w0 wr
  nw : N ≤ wr.heap.size
section
variable {w0 wr : World} {N e5 : Nat} {l : List Flt} {v : Value}
theorem RSt.alloc (h : RSt w0 N e5 l v wr) (o : Obj) : RSt w0 N e5 l v (wr.alloc o) :=
  ⟨h.row.alloc o, h.low.alloc h.nw o, by have := h.nw; simp; omega⟩
theorem RSt.draws (h : RSt w0 N e5 l v wr) (m : Nat) : RSt w0 N e5 l v (wr.drewN m) :=
  ⟨h.row, ⟨h.low.os, h.low.tape, h.low.output, h.low.size, h.low.block⟩, h.nw⟩
theorem RSt.app (h : RSt w0 N e5 l v wr) {o : Obj} {x : Flt} {v' : Value} {w1 : World} (ha : Appended (wr.alloc o) N e5 5 v l.length 1 (fcells l ++ x.cells) v' w1) : RSt w0 N e5 (l ++ [x]) v' w1 := by
  obtain ⟨h1, h2, h3⟩ := row_add h.low h.nw h.row ha
  exact ⟨h1, h2, h3⟩
end

set_option maxRecDepth 100000 in
set_option maxHeartbeats 600000000000 in
theorem refWritten_walk (ao : Option Addr) (n c : Nat) (S : List Seen4) (io : Option Addr) (ni ci : Nat) (T : List Itm) (w : World) (h0 : SeenRow w ao S) (hSn : S.length = n) (hn : n ≤ 300000000000)
    (h1 : ItemRow w io T) (hTn : T.length = ni) (hni : ni ≤ 300000000000) :
    Calls Tryd.prog 29 #[.slice ao n c, .slice io ni ci] w (DoneF 107 (wrtF S T) w) := by
  obtain ⟨i0, hi0, hz0, hz1, hz2⟩ := info_parts info107
  have H0 := Lib.hid h0
  have H1 := Lib.hid h1
  have HSn := Lib.hid hSn
  have HTn := Lib.hid hTn
  clear h0 h1 hSn hTn
  have HST0 : Hid (RSt w w.heap.size 107 [] (.slice none 0 0) w) := ⟨World.ownsRow_nil _ _ _ _, Below.refl _ _, Nat.le_refl _⟩
  generalize hN : w.heap.size = N at *
  have HN := Lib.hid hN
  clear hN
  go_enter Tryd.func29, Tryd.ntmps29
  go_wp2_with fail
  go_loopw [5, 6] (fun v jv wr => ∃ j : Nat, j ≤ n ∧ jv = .int .i64 j ∧ RSt w N 107 (wrtAt S T j) v wr) (fun _ jv _ => n - (intOf jv).toNat)
  case atStart => exact ⟨0, by omega, rfl, HST0.out⟩
  case round =>
    obtain ⟨j, hj, rfl, hR⟩ := hrel
    generalize wr = wo at *
    have HR := Lib.hid hR
    have hlen := wrtAt_length S T j
    clear hR
    by_cases hlt : j < n
    · have hrow := H0.out.below (HR.out.low.mono (by have := HN.out; omega))
      have hirow := H1.out.below (HR.out.low.mono (by have := HN.out; omega))
      obtain ⟨g, o, rfl, hc⟩ : ∃ g o, ao = some ⟨g, o, none⟩ ∧ ∀ i, i < n → wo.cell? ⟨g, o + i * 4, none⟩ = some (.int .i64 (S.getD i default).q) ∧ wo.cell? ⟨g, o + i * 4 + 1, none⟩ = some (.int .i64 (S.getD i default).a) ∧
          wo.cell? ⟨g, o + i * 4 + 2, none⟩ = some (.int .i64 (S.getD i default).b) ∧ wo.cell? ⟨g, o + i * 4 + 3, none⟩ = some (.int .i64 (S.getD i default).d) := by
        rcases hrow with h | ⟨g, o, h1, h2⟩
        · have := HSn.out; subst h; simp at this; omega
        · exact ⟨g, o, h1, by rw [← HSn.out]; exact h2⟩
      have HC := Lib.hid (hc j hlt)
      have HI := Lib.hid hirow
      clear hc hrow hirow
      have HW1 : Hid (wrtAt S T (j + 1) = wrtAt S T j ++ (if there T (S.getD j default).a (S.getD j default).b (S.getD j default).d T.length = true then [] else [⟨6, 0, j, (S.getD j default).q, 0⟩])) := rfl
      rw [hid_eq HTn] at HW1
      generalize (S.getD j default).q = q at *
      generalize (S.getD j default).a = a at *
      generalize (S.getD j default).b = b at *
      generalize (S.getD j default).d = d at *
      generalize wrtAt S T j = l at *
      go_wp2_with fail
      go_loopw [7, 8] (fun tv kv wq => ∃ k m : Nat, k ≤ ni ∧ kv = .int .i64 k ∧ tv = .bool (there T a b d k) ∧ wq = wo.drewN m) (fun tv kv _ => ni - (intOf kv).toNat)
      case atStart => exact ⟨0, 0, by omega, rfl, rfl, rfl⟩
      case round =>
        obtain ⟨k, m, hk, rfl, rfl, hwq⟩ := hrel
        have HWQ := Lib.hid hwq
        have HRQ := Lib.hid (HR.out.draws m)
        rw [← hwq] at HRQ
        obtain ⟨c1, c2, c3, c4⟩ : wr.cell? ⟨g, o + j * 4, none⟩ = some (.int .i64 q) ∧ wr.cell? ⟨g, o + j * 4 + 1, none⟩ = some (.int .i64 a) ∧ wr.cell? ⟨g, o + j * 4 + 2, none⟩ = some (.int .i64 b) ∧ wr.cell? ⟨g, o + j * 4 + 3, none⟩ = some (.int .i64 d) := by
          rw [hwq]; exact HC.out
        by_cases hkl : k < ni
        · cases hx : there T a b d k with
          | true =>
            have HTT := Lib.hid (there_mono hx ni (by omega))
            have HW2 := Lib.hid (show wrtAt S T (j + 1) = l from by rw [hid_eq HW1, hid_eq HTT]; simp)
            clear hwq hx HW1
            go_wp2_with fail
            go_roundw
            case rel => exact ⟨j + 1, by omega, by go_num, by rw [HW2.out]; exact HRQ.out⟩
            case measure => simp [intOf]; omega
          | false =>
            obtain ⟨g2, o2, rfl, hc2⟩ : ∃ g o, io = some ⟨g, o, none⟩ ∧ ∀ i, i < ni → wr.cell? ⟨g, o + i * 3, none⟩ = some (.int .i64 (T.getD i default).a) ∧ wr.cell? ⟨g, o + i * 3 + 1, none⟩ = some (.int .i64 (T.getD i default).b) ∧
                wr.cell? ⟨g, o + i * 3 + 2, none⟩ = some (.int .i64 (T.getD i default).d) := by
              rcases HI.out with h | ⟨g, o, h1, h2⟩
              · have := HTn.out; subst h; simp at this; omega
              · exact ⟨g, o, h1, by rw [hwq, ← HTn.out]; exact h2⟩
            obtain ⟨i1, i2, i3⟩ := hc2 k hkl
            have heq := eql_item (T.getD k default).a (T.getD k default).b (T.getD k default).d a b d
            have HS := Lib.hid (there_succ T a b d k)
            rw [hx, Bool.false_or] at HS
            clear hwq hc2 hx
            generalize eqItem (T.getD k default).a (T.getD k default).b (T.getD k default).d a b d = bb at *
            generalize (T.getD k default).a = x1 at *
            generalize (T.getD k default).b = x2 at *
            generalize (T.getD k default).d = x3 at *
            go_wp2_with (go_quiet (fail))
            go_roundw
            case rel => exact ⟨k + 1, m + nq, by omega, by go_num, by rw [hid_eq HS], by rw [hid_eq HWQ, World.drewN_drewN]⟩
            case measure => simp [intOf]; omega
        · obtain rfl : k = ni := by omega
          cases hx : there T a b d k with
          | true =>
            have HW2 := Lib.hid (show wrtAt S T (j + 1) = l from by rw [hid_eq HW1, hx]; simp)
            clear hwq hx HW1
            go_wp2_with fail
            go_roundw
            case rel => exact ⟨j + 1, by omega, by go_num, by rw [HW2.out]; exact HRQ.out⟩
            case measure => simp [intOf]; omega
          | false =>
            have HW2 := Lib.hid (show wrtAt S T (j + 1) = l ++ [⟨6, 0, j, q, 0⟩] from by rw [hid_eq HW1, hx]; simp)
            have HSX := Lib.hid (src_at wr wr.heap.size rfl (Flt.cells ⟨6, 0, j, q, 0⟩).toArray 107 5 rfl (flt_one _))
            have HOW := Lib.hid (HRQ.out.row.alloc (.cells (Flt.cells ⟨6, 0, j, q, 0⟩).toArray 107))
            have HAP := Lib.hid (fun v' w' ha => HRQ.out.app (o := .cells (Flt.cells ⟨6, 0, j, q, 0⟩).toArray 107) (x := ⟨6, 0, j, q, 0⟩) (v' := v') (w1 := w') ha)
            have hNW := HRQ.out.nw
            clear hwq hx HW1
            go_wp2_with (at_builtin; go_must (refine wpList_append_row rfl (.tmp 37) (.tmp 45) 60 rfl N 107 i0 _ 5 40 Tryd.underlying60 hi0 hz0 hz1 (by decide) hz2 rfl u5 l.length (fcells l) rfl HOW.out 1 (Flt.cells ⟨6, 0, j, q, 0⟩) HSX.out ?l2 ?b2 ?n2 ?_); go_must (case l2 => (unfold maxLen; omega)); go_must (case b2 => omega); go_must (case n2 => (simp; omega)); intro v' w' ha; have HA := Lib.hid (HAP.out _ _ ha); clear ha)
            go_roundw
            case rel => exact ⟨j + 1, by omega, by go_num, by rw [HW2.out]; exact HA.out⟩
            case measure => simp [intOf]; omega
    · obtain rfl : j = n := by omega
      go_wp2_with fail
      go_ret
      exact ⟨_, rfl, by rw [wrtF, HSn.out, HN.out]; exact HR.out.row, by rw [HN.out]; exact HR.out.low⟩
end Go.Proofs.YtfcaebceklhbkaaDoor
