/-
  A map of the call's own as a function from keys to what it holds. No walk.
-/
import Derived.Test.YtfcaebceklhbkaaDoorOwn
import Derived.Maps.Own
import Derived.Maps.OwnOps
import Derived.Maps.OwnSet
import Derived.Maps.Views
import Derived.DeepKeys4
namespace Go.Proofs.YtfcaebceklhbkaaDoor
open Go.RowKit Go.Maps
set_option linter.unusedVariables false

abbrev RdM := Value → Option (DataW Unit × List MemPlace)

/-- The map at block b reads as f. -/
def MapF (w : World) (kt : TypeId) (R : RdM) (b n : Nat) (f : Lit → Option (DataW Unit)) : Prop :=
  ∃ D : DataW Unit, w.ownsMap Tryd.prog kt R b n D ∧ ∀ kl, Maps.has D kl = (f kl).isSome ∧ ∀ z, D.atKey kl z = (f kl).getD z

theorem MapF.alloc {w : World} {kt : TypeId} {R : RdM} {b n : Nat} {f : Lit → Option (DataW Unit)} (h : MapF w kt R b n f) (o : Obj) : MapF (w.alloc o) kt R b n f := by
  obtain ⟨D, h1, h2⟩ := h
  exact ⟨D, h1.alloc o, h2⟩
theorem MapF.lt {w : World} {kt : TypeId} {R : RdM} {b n : Nat} {f : Lit → Option (DataW Unit)} (h : MapF w kt R b n f) : b < w.heap.size := by
  obtain ⟨D, h1, h2⟩ := h
  exact h1.lt
theorem MapF.kept {w w' : World} {kt : TypeId} {R : RdM} {b n : Nat} {f : Lit → Option (DataW Unit)} {row : Option Nat} (h : MapF w kt R b n f) (hg : w.grownBy w' row) (hne : some b ≠ row) : MapF w' kt R b n f := by
  obtain ⟨D, h1, h2⟩ := h
  exact ⟨D, h1.kept hg hne, h2⟩
theorem mapF_new (w : World) (kt : TypeId) (R : RdM) : MapF (w.alloc (.map #[] 0)) kt R w.heap.size 0 (fun _ => none) :=
  ⟨.map [], World.ownsMap_made w _ _ _, fun kl => ⟨rfl, fun z => rfl⟩⟩

open Classical in
/-- What the map says behind 'm[k] = v'. -/
noncomputable def putF (f : Lit → Option (DataW Unit)) (kl : Lit) (d : DataW Unit) : Lit → Option (DataW Unit) := fun x => if x = kl then some d else f x

theorem wpList_put {w : World} {ops : Array Oper} {rest : List Oper} {o : Oper} {a : Act} {Q : Exit → Act → World → Prop}
    (hg : o.guard = none) (m x v : Operand) (t : TypeId) (hop : o.op = Op.mapUpdate t m x v)
    (k e : TypeId) (K : Keyed Tryd.prog k) (ht : Tryd.prog.underlying t = some (.map k e)) (R : RdM) (b n : Nat) (f : Lit → Option (DataW Unit))
    (hm : a.eval m = .map (some b)) (hown : MapF w k R b n f) (hn : n < maxLen) (key val : Value) (kl : Lit) (hx : a.eval x = key) (hv : a.eval v = val) (hkey : keyOf Tryd.prog k key = some kl)
    (d : DataW Unit) (ps : List MemPlace) (hval : R val = some (d, ps))
    (hK : ∀ w', MapF w' k R b (n + 1) (putF f kl d) → w.grownBy w' (some b) → wpList Tryd.prog ops Q rest (a.put o.dst undef) w') :
    wpList Tryd.prog ops Q (o :: rest) a w := by
  obtain ⟨D, h1, h2⟩ := hown
  refine wpList_mapUpdate_own w hg m x v t hop k e K ht R b n D hm h1 hn key val kl hx hv hkey d ps hval ?_
  intro w' h3 h4
  refine hK w' ⟨_, h3, fun z => ?_⟩ h4
  have hM := h1.isMap
  have hk := K.key hkey
  by_cases e : z = kl
  · subst e
    simp only [putF, if_true, Option.isSome_some, Option.getD_some]
    exact ⟨has_put_same hM hk _, fun y => atKey_put_same hM hk _ _⟩
  · simp only [putF, e, if_false]
    exact ⟨(has_put_other e _).trans (h2 z).1, fun y => (atKey_put_other e _ _).trans ((h2 z).2 y)⟩

/-- 'v, ok := m[k]', elements of an integer kind. -/
theorem wpList_look_ok {w : World} {ops : Array Oper} {rest : List Oper} {o : Oper} {a : Act} {Q : Exit → Act → World → Prop}
    (hg : o.guard = none) (m x : Operand) (t : TypeId) (hop : o.op = Op.lookup t m x true)
    (k e : TypeId) (K : Keyed Tryd.prog k) (ht : Tryd.prog.underlying t = some (.map k e)) (he : Tryd.prog.underlying e = some (.int .i64)) (hz : (zeroValue e).run Tryd.prog w = .ok (.int .i64 0) w) (b n : Nat) (f : Lit → Option (DataW Unit))
    (hm : a.eval m = .map (some b)) (hown : MapF w k (plainElem Tryd.prog e) b n f) (key : Value) (kl : Lit) (hx : a.eval x = key) (hkey : keyOf Tryd.prog k key = some kl)
    (c : Int) (ok : Bool) (hf : (f kl = none ∧ c = 0 ∧ ok = false) ∨ (f kl = some (.lit (.int .i64 c)) ∧ ok = true))
    (hK : wpList Tryd.prog ops Q rest (a.put o.dst (.tuple #[.int .i64 c, .bool ok])) w) :
    wpList Tryd.prog ops Q (o :: rest) a w := by
  obtain ⟨D, h1, h2⟩ := hown
  refine wpList_lookup_own_ok_int w hg m x t hop k e .i64 K ht he hz b n D hm h1 key kl hx hkey ?_
  intro c' hc' _
  rw [(h2 kl).2] at hc'
  rw [(h2 kl).1]
  rcases hf with ⟨h, rfl, rfl⟩ | ⟨h, rfl⟩
  · rw [h] at hc' ⊢
    simp at hc'
    subst hc'
    exact hK
  · rw [h] at hc' ⊢
    simp at hc'
    subst hc'
    exact hK

/-- 'm[k]', elements of an integer kind. -/
theorem wpList_look {w : World} {ops : Array Oper} {rest : List Oper} {o : Oper} {a : Act} {Q : Exit → Act → World → Prop}
    (hg : o.guard = none) (m x : Operand) (t : TypeId) (hop : o.op = Op.lookup t m x false)
    (k e : TypeId) (K : Keyed Tryd.prog k) (ht : Tryd.prog.underlying t = some (.map k e)) (he : Tryd.prog.underlying e = some (.int .i64)) (hz : (zeroValue e).run Tryd.prog w = .ok (.int .i64 0) w) (b n : Nat) (f : Lit → Option (DataW Unit))
    (hm : a.eval m = .map (some b)) (hown : MapF w k (plainElem Tryd.prog e) b n f) (key : Value) (kl : Lit) (hx : a.eval x = key) (hkey : keyOf Tryd.prog k key = some kl)
    (c : Int) (hf : (f kl = none ∧ c = 0) ∨ f kl = some (.lit (.int .i64 c)))
    (hK : wpList Tryd.prog ops Q rest (a.put o.dst (.int .i64 c)) w) :
    wpList Tryd.prog ops Q (o :: rest) a w := by
  obtain ⟨D, h1, h2⟩ := hown
  refine wpList_lookup_own_int w hg m x t hop k e .i64 K ht he hz b n D hm h1 key kl hx hkey ?_
  intro c' hc' _
  rw [(h2 kl).2] at hc'
  rcases hf with ⟨h, rfl⟩ | h
  · rw [h] at hc'
    simp at hc'
    subst hc'
    exact hK
  · rw [h] at hc'
    simp at hc'
    subst hc'
    exact hK

theorem keyed_int : Keyed Tryd.prog 3 := int_keyed Tryd.underlying3
theorem keyed_i64 : Keyed Tryd.prog 2 := int_keyed Tryd.underlying2
theorem key_int (n : Int) (h : (Lit.int .i64 n).wf = true) : keyOf Tryd.prog 3 (.int .i64 n) = some (.int .i64 n) := by
  simp [keyOf, Tryd.underlying3, mapKey, h]
theorem key_i64 (n : Int) (h : (Lit.int .i64 n).wf = true) : keyOf Tryd.prog 2 (.int .i64 n) = some (.int .i64 n) := by
  simp [keyOf, Tryd.underlying2, mapKey, h]
theorem zero_int (w : World) : (zeroValue 3).run Tryd.prog w = .ok (.int .i64 0) w := by kernel_rfl
theorem elem_int (n : Int) (h : (Lit.int .i64 n).wf = true) : plainElem (H := Unit) Tryd.prog 3 (.int .i64 n) = some (.lit (.int .i64 n), []) := plainElem_int Tryd.underlying3 h
end Go.Proofs.YtfcaebceklhbkaaDoor
