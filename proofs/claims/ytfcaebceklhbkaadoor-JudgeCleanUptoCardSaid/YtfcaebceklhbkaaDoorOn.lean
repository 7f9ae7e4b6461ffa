/-
  The contract of judge's search.on, over a contract of Do.
-/
import Derived.Test.YtfcaebceklhbkaaDoorOnMem
import Derived.Test.YtfcaebceklhbkaaDoorDoOne
import Derived.StillTailTactics
namespace Go.Proofs.YtfcaebceklhbkaaDoor
open Go.RowKit Go.Maps
set_option linter.unusedVariables false

/-- What search.on answers. -/
def OnPost (N : Nat) (o : Int) (S : List Cl) (sb m : Nat) (cv : Value) (W : World) (ov : Value) (ord : List Nat) (cnt r d : Nat) (s : List Int) (e : Ending) (W' : World) : Prop :=
  ∃ ov' ord' f', OnSt N sb m cv o W' ov' ord' (cnt + 13 ^ r) f' ∧ DeadOk o S f' ∧ Fr sb m W ov W' ov' ∧
    ((∃ l, srch o S r d s = some l ∧ e = .returned (.bool true) ∧ ord' = ord ++ l) ∨ (srch o S r d s = none ∧ e = .returned (.bool false) ∧ ord' = ord))

/-- Do answers so, of an object. -/
def DoOk (o : Int) : Prop := ∀ (v : Value) (l : List Int) (k a b c : Int) (w : World), Nums w v l → l.length ≤ 4000000 → Calls Tryd.prog 12 #[.int .i64 o, v, opV k a b c] w (DoneD (doF o l k a b) w)

set_option maxRecDepth 100000 in
set_option maxHeartbeats 8000000 in
theorem on_last (N : Nat) (o : Int) (S : List Cl) (sb m : Nat) (ao : Option Addr) (n co : Nat) (W : World) (ov : Value) (ord : List Nat) (f : Lit → Option (DataW Unit)) (cnt d : Nat) (v : Value) (s : List Int) (hn : n ≤ 12)
    (h : OnSt N sb m (.slice ao n co) o W ov ord cnt f) (hf : DeadOk o S f) (hr : ord.length = n) :
    Calls Tryd.prog 48 #[.pointer (some ⟨sb, 0, none⟩), .int .i64 d, v] W (OnPost N o S sb m (.slice ao n co) W ov ord cnt 0 d s) := by
  have hb1 : Below W.heap.size W (W.alloc (.cells #[.int .i64 d] 3)) := (Below.refl _ _).alloc (Nat.le_refl _) _
  have h1 := h.below hb1
  have HS := Lib.hid h1
  have HF := Lib.hid hf
  have HFR := Lib.hid (Fr.below (sb := sb) (m := m) (ov := ov) hb1)
  obtain ⟨og, oc, rfl⟩ : ∃ og oc, ov = .slice og n oc := by
    rcases h.row.2 with ⟨e, h⟩ | ⟨g, cap, cur, e, _⟩
    · exact ⟨none, 0, by rw [e, ← hr, h]⟩
    · exact ⟨_, cap, by rw [e, hr]⟩
  have c1 := (cell_of h1.sbk 1).trans rfl
  have c2 := (cell_of h1.sbk 2).trans rfl
  clear h h1 hf hb1
  go_enter Tryd.func48, Tryd.ntmps48
  go_wp2_with fail
  generalize W.alloc (.cells #[.int .i64 d] 3) = W1 at *
  go_wp2_with (go_quiet (fail))
  go_ret
  refine ⟨_, ord, f, (HS.out.up (by omega)).below ?_, HF.out, HFR.out.trans (.below ?_), .inl ⟨[], rfl, rfl, by simp⟩⟩
  · exact below_drewN (Below.refl _ _) _
  · exact below_drewN (Below.refl _ _) _
end Go.Proofs.YtfcaebceklhbkaaDoor
