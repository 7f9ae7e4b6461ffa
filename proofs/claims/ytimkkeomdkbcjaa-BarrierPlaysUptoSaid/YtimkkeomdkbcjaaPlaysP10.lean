/-
  Merged out of: Calls Mem. No condition of its own.
-/
import Derived.Test.YtimkkeomdkbcjaaRows
import Derived.WalkKit
import Derived.WalkLawsBesides
import Derived.WalkSpells
import Derived.Deep.QuietTactic
import Derived.BigQuiet
import Derived.Lib.Hide
set_option linter.unusedVariables false
set_option linter.unusedSimpArgs false
/-
  Contracts of the small functions that the laws of the layer barrier call, over one goroutine: steps, flags, loads. Each says what is returned and what became of the world.
-/
namespace Go.Proofs.Ytimkkeomdkbcjaa
open Go.RowKit
theorem method_steps (a : Addr) (w : World) : (method 276 35 (.pointer (some a)) "Step").run Try.prog w = .ok (88, .pointer (some a)) w := by kernel_rfl
theorem method_rising (a : Addr) (w : World) : (method 276 27 (.pointer (some a)) "Load").run Try.prog w = .ok (87, .pointer (some a)) w := by kernel_rfl
theorem load32 {a : Addr} {x : Int} {w : World} (hc : w.cell? a = some (.int .u32 x)) : (callFunc 52 #[.pointer (some a)]).run Try.prog w = .ok (.value (.int .u32 x)) w :=
  run_call_load (P := Try.prog) Try.func52 (by kernel_rfl) (by kernel_rfl) (by kernel_rfl) .u32 (by kernel_rfl) hc
section
variable {P : Program} {f : FuncId} {fn : Func}
theorem run_call_swap (hf : P.funcs[f]? = some fn) (hname : (fn.name == "runtime.NumGoroutine") = false) (hb : fn.body.isNone = true) (hn : Extern.findNext fn = none) (k : IntKind)
    (he : Extern.find fn = some (Extern.Atomic.swapT (.int k))) {a : Addr} {x y : Int} {w : World} (hc : w.cell? a = some (.int k x)) (hz : w.frozen? a = false) :
    (callFunc f #[.pointer (some a), .int k y]).run P w = .ok (.value (.int k x)) (w.setCell a (.int k y)) := by
  rw [run_callFunc_extern hf hname hb hn he]
  change (Sem.run P (do
    let a' ← asAddr (.pointer (some a))
    let old ← Extern.Atomic.read (.int k) a'
    store a' (.int k y) .atomic
    pure old) w).andThen _ = _
  simp [Extern.Atomic.read, asAddr, hc, hz, run_store P w a (.int k y) .atomic rfl, Result.andThen]
end
theorem swap32 {a : Addr} {x y : Int} {w : World} (hc : w.cell? a = some (.int .u32 x)) (hz : w.frozen? a = false) : (callFunc 53 #[.pointer (some a), .int .u32 y]).run Try.prog w = .ok (.value (.int .u32 x)) (w.setCell a (.int .u32 y)) :=
  run_call_swap (P := Try.prog) Try.func53 (by kernel_rfl) (by kernel_rfl) (by kernel_rfl) .u32 (by kernel_rfl) hc hz
theorem b32_any (x : Bool) (w : World) : Calls Try.prog 54 #[.bool x] w fun e w' => e = .returned (.int .u32 (if x then 1 else 0)) ∧ w = w' := by
  cases x
  all_goals
    go_enter Try.func54, Try.ntmps54
    go_wp2
    go_ret
    exact ⟨rfl, rfl⟩
def bit (x : Bool) : Int := if x then 1 else 0
theorem boolLoad (b off : Nat) (x : Bool) (w : World) (hc : w.cell? ⟨b, off, none⟩ = some (.int .u32 (bit x))) :
    Calls Try.prog 40 #[.pointer (some ⟨b, off, none⟩)] w fun e w' => e = .returned (.bool x) ∧ w = w' := by
  have hl := load32 hc
  have hi := Try.func52
  cases x <;> simp only [bit, Bool.false_eq_true, if_true, if_false] at hc hl
  all_goals
    go_enter Try.func40, Try.ntmps40
    go_wp2
    go_ret
    exact ⟨rfl, rfl⟩
end Go.Proofs.Ytimkkeomdkbcjaa

/-
  The memory of a barrier over sources of the statement's own, as a predicate of the world, and what each store does to it. No program in sight but for the numbers of types.
-/
namespace Go.Proofs.Ytimkkeomdkbcjaa
open Go.RowKit
theorem cell_of {w : World} {b : Nat} {c : Array Value} {t : TypeId} (h : w.heap[b]? = some (.cells c t (0, 0))) (i : Nat) : w.cell? ⟨b, i, none⟩ = c[i]? := by
  simp [World.cell?, h]
theorem free_of {w : World} {b : Nat} {c : Array Value} {t : TypeId} (h : w.heap[b]? = some (.cells c t (0, 0))) (i : Nat) : w.frozen? ⟨b, i, none⟩ = false := by
  simp [World.frozen?, h]
theorem set_at {w : World} {b : Nat} {c : Array Value} {t : TypeId} (h : w.heap[b]? = some (.cells c t (0, 0))) (i : Nat) (v : Value) :
    (w.setCell ⟨b, i, none⟩ v).heap[b]? = some (.cells (c.setIfInBounds i v) t (0, 0)) := by
  simp [World.setCell, Array.getElem?_modify, h]
theorem set_off {w : World} {b b' : Nat} (hb : b' ≠ b) (i : Nat) (v : Value) : (w.setCell ⟨b, i, none⟩ v).heap[b']? = w.heap[b']? :=
  Below.heap_setCell w _ v b' hb
structure Lay where
  N : Nat
  bb : Nat
  sb : Nat
  sa : Nat
  sl : Value
  k : Nat
  cap : Nat
  r : Nat → Nat
  ao : Nat → Option Addr
  c : Nat → Nat
  L : Nat → List Int
  kb : Option (Nat × Array Value) := none
def told (l : List Int) (a : Nat) : Int := if l = [] then 0 else l.getD (min a l.length - 1) 0
structure Mem (Y : Lay) (al : Bool) (a : Nat → Nat) (n : Nat) (w : World) : Prop where
  bar : w.heap[Y.bb]? = some (.cells #[Y.sl, .int .u32 (bit al)] 54 (0, 0))
  sl : 0 < Y.k → Y.sl = .slice (some ⟨Y.sa, 0, none⟩) Y.k Y.cap
  steps : w.heap[Y.sb]? = some (.cells #[.int .i64 n] 37 (0, 0))
  arr : 0 < Y.k → ∃ cs, w.heap[Y.sa]? = some (.cells cs 32 (0, 0)) ∧ ∀ i, i < Y.k → cs[i]? = some (.iface 27 (.pointer (some ⟨Y.r i, 0, none⟩)))
  src : ∀ i, i < Y.k → w.heap[Y.r i]? = some (.cells #[.slice (Y.ao i) (Y.L i).length (Y.c i), .int .i64 (a i)] 30 (0, 0))
  list : ∀ i, i < Y.k → Y.L i ≠ [] → ∃ g cs, Y.ao i = some ⟨g, 0, none⟩ ∧ w.heap[g]? = some (.cells cs 2 (0, 0)) ∧ ∀ j, j < (Y.L i).length → cs[j]? = some (.int .i64 ((Y.L i).getD j 0))
  inj : ∀ i j, i < Y.k → j < Y.k → Y.r i = Y.r j → i = j
  small : ∀ i, i < Y.k → ∀ x ∈ Y.L i, -9223372036854775808 ≤ x ∧ x ≤ 9223372036854775807
  short : ∀ i, i < Y.k → (Y.L i).length ≤ 1000000000000000
  kk : Y.k ≤ 1000000000000000
  kc : Y.k ≤ Y.cap
  nb : Y.N ≤ Y.bb
  ns : Y.N ≤ Y.sb
  nr : ∀ i, i < Y.k → Y.N ≤ Y.r i
  kept : ∀ b cs, Y.kb = some (b, cs) → w.heap[b]? = some (.cells cs 27 (0, 0))
variable {Y : Lay} {al : Bool} {a : Nat → Nat} {n : Nat} {w : World}
theorem Mem.draws (h : Mem Y al a n w) (m : Nat) : Mem Y al a n (w.drewN m) :=
  ⟨h.bar, h.sl, h.steps, h.arr, h.src, h.list, h.inj, h.small, h.short, h.kk, h.kc, h.nb, h.ns, h.nr, h.kept⟩
theorem Mem.drew (h : Mem Y al a n w) : Mem Y al a n w.drew :=
  ⟨h.bar, h.sl, h.steps, h.arr, h.src, h.list, h.inj, h.small, h.short, h.kk, h.kc, h.nb, h.ns, h.nr, h.kept⟩
theorem ne_of {w : World} {x y : Nat} {cx cy : Array Value} {tx ty : TypeId} (hx : w.heap[x]? = some (.cells cx tx (0, 0))) (hy : w.heap[y]? = some (.cells cy ty (0, 0))) (ht : tx ≠ ty) : x ≠ y := by
  rintro rfl
  rw [hx] at hy
  simp at hy
  exact ht hy.2
theorem Mem.step (h : Mem Y al a n w) : Mem Y al a (n + 1) (w.setCell ⟨Y.sb, 0, none⟩ (.int .i64 ((n : Int) + 1))) := by
  have hk := h.kk
  refine ⟨?_, h.sl, ?_, ?_, ?_, ?_, h.inj, h.small, h.short, h.kk, h.kc, h.nb, h.ns, h.nr, ?_⟩
  · rw [set_off (ne_of h.bar h.steps (by decide))]; exact h.bar
  · rw [set_at h.steps]; simp
  · intro hk0
    obtain ⟨cs, h1, h2⟩ := h.arr hk0
    exact ⟨cs, by rw [set_off (ne_of h1 h.steps (by decide))]; exact h1, h2⟩
  · intro i hi
    rw [set_off (ne_of (h.src i hi) h.steps (by decide))]; exact h.src i hi
  · intro i hi hL
    obtain ⟨g, cs, e, h1, h2⟩ := h.list i hi hL
    exact ⟨g, cs, e, by rw [set_off (ne_of h1 h.steps (by decide))]; exact h1, h2⟩
  · intro b cs e
    have h1 := h.kept b cs e
    rw [set_off (ne_of h1 h.steps (by decide))]; exact h1
theorem Mem.load (h : Mem Y al a n w) {i : Nat} (hi : i < Y.k) : Mem Y al (fun j => if j = i then a i + 1 else a j) n (w.setCell ⟨Y.r i, 1, none⟩ (.int .i64 ((a i : Int) + 1))) := by
  have hs := h.src i hi
  refine ⟨?_, h.sl, ?_, ?_, ?_, ?_, h.inj, h.small, h.short, h.kk, h.kc, h.nb, h.ns, h.nr, ?_⟩
  · rw [set_off (ne_of h.bar hs (by decide))]; exact h.bar
  · rw [set_off (ne_of h.steps hs (by decide))]; exact h.steps
  · intro hk0
    obtain ⟨cs, h1, h2⟩ := h.arr hk0
    exact ⟨cs, by rw [set_off (ne_of h1 hs (by decide))]; exact h1, h2⟩
  · intro j hj
    by_cases e : j = i
    · subst e
      rw [set_at hs]; simp
    · rw [set_off (fun e' => e (h.inj j i hj hi e'))]
      simp only [e, if_false]
      exact h.src j hj
  · intro j hj hL
    obtain ⟨g, cs, e, h1, h2⟩ := h.list j hj hL
    exact ⟨g, cs, e, by rw [set_off (ne_of h1 hs (by decide))]; exact h1, h2⟩
  · intro b cs e
    have h1 := h.kept b cs e
    rw [set_off (ne_of h1 hs (by decide))]; exact h1
def sv (Y : Lay) (q : Bool) : Value := if q then .iface 35 (.pointer (some ⟨Y.sb, 0, none⟩)) else .nilIface
def inc (q : Bool) : Nat := if q then 1 else 0
theorem told_mem {l : List Int} (h : l ≠ []) (a : Nat) (ha : 1 ≤ a) : min a l.length - 1 < l.length ∧ told l a = l.getD (min a l.length - 1) 0 := by
  have : 0 < l.length := by cases l with | nil => exact absurd rfl h | cons _ _ => simp
  exact ⟨by omega, by simp [told, h]⟩
end Go.Proofs.Ytimkkeomdkbcjaa
