/-
  The contract of the statement's same: two lists of faults that read alike are one.
-/
import Derived.Test.YtfcaebceklhbkaaDoorEq
namespace Go.Proofs.YtfcaebceklhbkaaDoor
open Go.RowKit
set_option linter.unusedVariables false

instance : Inhabited Flt := ⟨⟨0, 0, 0, 0, 0⟩⟩
/-- A slice of faults, as it reads. -/
def FltRow (w : World) (ao : Option Addr) (l : List Flt) : Prop :=
  l = [] ∨ ∃ g o, ao = some ⟨g, o, none⟩ ∧ ∀ i, i < l.length → w.cell? ⟨g, o + i * 5, none⟩ = some (.int .i64 (l.getD i default).k) ∧ w.cell? ⟨g, o + i * 5 + 1, none⟩ = some (.int .i64 (l.getD i default).r) ∧
    w.cell? ⟨g, o + i * 5 + 2, none⟩ = some (.int .i64 (l.getD i default).i) ∧ w.cell? ⟨g, o + i * 5 + 3, none⟩ = some (.int .i64 (l.getD i default).q) ∧ w.cell? ⟨g, o + i * 5 + 4, none⟩ = some (.int .i64 (l.getD i default).w)

theorem fcells_at : ∀ (l : List Flt) (i : Nat), i < l.length → (fcells l)[i * 5]? = some (.int .i64 (l.getD i default).k) ∧ (fcells l)[i * 5 + 1]? = some (.int .i64 (l.getD i default).r) ∧ (fcells l)[i * 5 + 2]? = some (.int .i64 (l.getD i default).i) ∧
    (fcells l)[i * 5 + 3]? = some (.int .i64 (l.getD i default).q) ∧ (fcells l)[i * 5 + 4]? = some (.int .i64 (l.getD i default).w)
  | [], i, h => absurd h (by simp)
  | f :: l, 0, _ => by simp [fcells, Flt.cells]
  | f :: l, i + 1, h => by
    have ih := fcells_at l i (by simpa using h)
    have e : fcells (f :: l) = f.cells ++ fcells l := by simp [fcells]
    have h5 : f.cells.length = 5 := rfl
    rw [e]
    refine ⟨?_, ?_, ?_, ?_, ?_⟩ <;> rw [List.getElem?_append_right (by omega)]
    · rw [show (i + 1) * 5 - f.cells.length = i * 5 by omega]; exact ih.1
    · rw [show (i + 1) * 5 + 1 - f.cells.length = i * 5 + 1 by omega]; exact ih.2.1
    · rw [show (i + 1) * 5 + 2 - f.cells.length = i * 5 + 2 by omega]; exact ih.2.2.1
    · rw [show (i + 1) * 5 + 3 - f.cells.length = i * 5 + 3 by omega]; exact ih.2.2.2.1
    · rw [show (i + 1) * 5 + 4 - f.cells.length = i * 5 + 4 by omega]; exact ih.2.2.2.2

/-- What is owned reads. -/
theorem own_flt {w : World} {N e : Nat} {v : Value} {l : List Flt} (h : w.ownsRow N e 5 v l.length (fcells l)) : ∃ ao c, v = .slice ao l.length c ∧ FltRow w ao l := by
  have hc : ∀ g, v.ownBlock = some g → ∀ j u, (fcells l)[j]? = some u → w.cell? ((⟨g, 0, none⟩ : Addr).add j) = some u := fun g hg => h.cells hg
  rcases h.2 with ⟨rfl, h0⟩ | ⟨g, cap, cur, rfl, _⟩
  · exact ⟨none, 0, by rw [h0], .inl (List.eq_nil_of_length_eq_zero h0)⟩
  · refine ⟨_, cap, rfl, .inr ⟨g, 0, rfl, fun i hi => ?_⟩⟩
    have hc' := hc g rfl
    obtain ⟨h1, h2, h3, h4, h5⟩ := fcells_at l i hi
    refine ⟨?_, ?_, ?_, ?_, ?_⟩
    · have := hc' _ _ h1; rwa [addr_add] at this
    · have := hc' _ _ h2; rwa [addr_add] at this
    · have := hc' _ _ h3; rwa [addr_add] at this
    · have := hc' _ _ h4; rwa [addr_add] at this
    · have := hc' _ _ h5; rwa [addr_add] at this

set_option maxRecDepth 100000 in
set_option maxHeartbeats 600000000000 in
theorem same_walk (ao bo : Option Addr) (n c d : Nat) (l : List Flt) (w : World) (ha : FltRow w ao l) (hb : FltRow w bo l) (hn : l.length = n) (hnn : n ≤ 600000000000) :
    Calls Tryd.prog 23 #[.slice ao n c, .slice bo n d] w fun e w' => e = .returned (.bool true) ∧ ∃ m, w' = w.drewN m := by
  have HA := Lib.hid ha
  have HB := Lib.hid hb
  have HN := Lib.hid hn
  clear ha hb hn
  go_enter Tryd.func23, Tryd.ntmps23
  go_wp2_with fail
  go_loopw [5] (fun iv wr => ∃ i m : Nat, i ≤ n ∧ iv = .int .i64 i ∧ wr = w.drewN m) (fun iv _ => n - (intOf iv).toNat)
  case atStart => exact ⟨0, 0, by omega, rfl, rfl⟩
  case round =>
    obtain ⟨i, m, hi, rfl, hwr⟩ := hrel
    by_cases hlt : i < n
    · obtain ⟨g, o, rfl, hc⟩ : ∃ g o, ao = some ⟨g, o, none⟩ ∧ ∀ i, i < n → wr.cell? ⟨g, o + i * 5, none⟩ = some (.int .i64 (l.getD i default).k) ∧ wr.cell? ⟨g, o + i * 5 + 1, none⟩ = some (.int .i64 (l.getD i default).r) ∧
          wr.cell? ⟨g, o + i * 5 + 2, none⟩ = some (.int .i64 (l.getD i default).i) ∧ wr.cell? ⟨g, o + i * 5 + 3, none⟩ = some (.int .i64 (l.getD i default).q) ∧ wr.cell? ⟨g, o + i * 5 + 4, none⟩ = some (.int .i64 (l.getD i default).w) := by
        rcases HA.out with h | ⟨g, o, h1, h2⟩
        · have := HN.out; subst h; simp at this; omega
        · exact ⟨g, o, h1, by rw [hwr, ← HN.out]; exact h2⟩
      obtain ⟨g2, o2, rfl, hc2⟩ : ∃ g o, bo = some ⟨g, o, none⟩ ∧ ∀ i, i < n → wr.cell? ⟨g, o + i * 5, none⟩ = some (.int .i64 (l.getD i default).k) ∧ wr.cell? ⟨g, o + i * 5 + 1, none⟩ = some (.int .i64 (l.getD i default).r) ∧
          wr.cell? ⟨g, o + i * 5 + 2, none⟩ = some (.int .i64 (l.getD i default).i) ∧ wr.cell? ⟨g, o + i * 5 + 3, none⟩ = some (.int .i64 (l.getD i default).q) ∧ wr.cell? ⟨g, o + i * 5 + 4, none⟩ = some (.int .i64 (l.getD i default).w) := by
        rcases HB.out with h | ⟨g, o, h1, h2⟩
        · have := HN.out; subst h; simp at this; omega
        · exact ⟨g, o, h1, by rw [hwr, ← HN.out]; exact h2⟩
      obtain ⟨a1, a2, a3, a4, a5⟩ := hc i hlt
      obtain ⟨b1, b2, b3, b4, b5⟩ := hc2 i hlt
      clear hc hc2
      have hne := neq_flt (l.getD i default) (l.getD i default)
      have htt : eqFlt (l.getD i default) (l.getD i default) = true := (eqFlt_iff _ _).2 rfl
      simp only [htt, Bool.not_true] at hne
      clear htt
      generalize (l.getD i default).k = x1 at *
      generalize (l.getD i default).r = x2 at *
      generalize (l.getD i default).i = x3 at *
      generalize (l.getD i default).q = x4 at *
      generalize (l.getD i default).w = x5 at *
      have HWR := Lib.hid hwr
      clear hwr
      go_wp2_with (go_quiet (fail))
      go_roundw
      case rel => exact ⟨i + 1, m + nq, by omega, by go_num, by rw [hid_eq HWR, World.drewN_drewN]⟩
      case measure => simp [intOf]; omega
    · obtain rfl : i = n := by omega
      have HWR := Lib.hid hwr
      clear hwr
      go_wp2_with fail
      go_ret
      exact ⟨rfl, m, HWR.out⟩
end Go.Proofs.YtfcaebceklhbkaaDoor
