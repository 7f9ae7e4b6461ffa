/-
  Contracts of the small functions that the laws of the layer barrier call, over one goroutine: steps, flags, loads. Each says what is returned and what became of the world.
-/
import Derived.Test.YtimkkeomdkbcjaaRows
import Derived.WalkKit
import Derived.WalkLawsBesides
import Derived.WalkSpells
import Derived.Deep.QuietTactic
import Derived.BigQuiet
import Derived.Lib.Hide
namespace Go.Proofs.Ytimkkeomdkbcjaa
open Go.RowKit
set_option linter.unusedVariables false

theorem method_steps (a : Addr) (w : World) : (method 276 35 (.pointer (some a)) "Step").run Try.prog w = .ok (88, .pointer (some a)) w := by kernel_rfl
theorem method_rising (a : Addr) (w : World) : (method 276 27 (.pointer (some a)) "Load").run Try.prog w = .ok (87, .pointer (some a)) w := by kernel_rfl

theorem load32 {a : Addr} {x : Int} {w : World} (hc : w.cell? a = some (.int .u32 x)) : (callFunc 52 #[.pointer (some a)]).run Try.prog w = .ok (.value (.int .u32 x)) w :=
  run_call_load (P := Try.prog) Try.func52 (by kernel_rfl) (by kernel_rfl) (by kernel_rfl) .u32 (by kernel_rfl) hc

section
variable {P : Program} {f : FuncId} {fn : Func}
/-- sync/atomic.SwapT: the number is stored, the old one is handed back. -/
theorem run_call_swap (hf : P.funcs[f]? = some fn) (hname : (fn.name == "runtime.NumGoroutine") = false) (hb : fn.body.isNone = true) (hn : Extern.findNext fn = none) (k : IntKind)
    (he : Extern.find fn = some (Extern.Atomic.swapT (.int k))) {a : Addr} {x y : Int} {w : World} (hc : w.cell? a = some (.int k x)) (hz : w.frozen? a = false) :
    (callFunc f #[.pointer (some a), .int k y]).run P w = .ok (.value (.int k x)) (w.setCell a (.int k y)) := by
  rw [run_callFunc_extern hf hname hb hn he]
  change (Sem.run P (do
    let a' ← asAddr (.pointer (some a))
    let old ← Extern.Atomic.read (.int k) a'
    store a' (.int k y) .atomic
    pure old) w).andThen _ = _
  simp [Extern.Atomic.read, asAddr, hc, hz, run_store P w a (.int k y) .atomic rfl, Result.andThen]
end

theorem swap32 {a : Addr} {x y : Int} {w : World} (hc : w.cell? a = some (.int .u32 x)) (hz : w.frozen? a = false) : (callFunc 53 #[.pointer (some a), .int .u32 y]).run Try.prog w = .ok (.value (.int .u32 x)) (w.setCell a (.int .u32 y)) :=
  run_call_swap (P := Try.prog) Try.func53 (by kernel_rfl) (by kernel_rfl) (by kernel_rfl) .u32 (by kernel_rfl) hc hz

theorem Step_any (b : Nat) (n : Int) (w : World) (hc : w.cell? ⟨b, 0, none⟩ = some (.int .i64 n)) (hf : w.frozen? ⟨b, 0, none⟩ = false) (h0 : 0 ≤ n) (h1 : n ≤ 1000000) :
    Calls Try.prog 88 #[.pointer (some ⟨b, 0, none⟩)] w fun e w' => e = .returned (.tuple #[]) ∧ w.setCell ⟨b, 0, none⟩ (.int .i64 (n + 1)) = w' := by
  go_enter Try.func88, Try.ntmps88
  go_wp2
  go_end0
  exact ⟨rfl, rfl⟩

theorem step_nil (w : World) :
    Calls Try.prog 39 #[.nilIface] w fun e w' => e = .returned (.tuple #[]) ∧ w = w' := by
  go_enter Try.func39, Try.ntmps39
  go_wp2
  go_end0
  exact ⟨rfl, rfl⟩

theorem step_steps (b : Nat) (n : Int) (w : World) (hc : w.cell? ⟨b, 0, none⟩ = some (.int .i64 n)) (hf : w.frozen? ⟨b, 0, none⟩ = false) (h0 : 0 ≤ n) (h1 : n ≤ 1000000) :
    Calls Try.prog 39 #[.iface 35 (.pointer (some ⟨b, 0, none⟩))] w fun e w' => e = .returned (.tuple #[]) ∧ w.setCell ⟨b, 0, none⟩ (.int .i64 (n + 1)) = w' := by
  have hm := method_steps
  go_enter Try.func39, Try.ntmps39
  go_wp2_with (go_at_call 88; refine (Step_any b n _ hc hf h0 h1).mono ?_; rintro e w' ⟨rfl, rfl⟩)
  go_end0
  exact ⟨rfl, rfl⟩

theorem b32_any (x : Bool) (w : World) : Calls Try.prog 54 #[.bool x] w fun e w' => e = .returned (.int .u32 (if x then 1 else 0)) ∧ w = w' := by
  cases x
  all_goals
    go_enter Try.func54, Try.ntmps54
    go_wp2
    go_ret
    exact ⟨rfl, rfl⟩

/-- the alert's word: 1 or 0 -/
def bit (x : Bool) : Int := if x then 1 else 0

theorem boolLoad (b off : Nat) (x : Bool) (w : World) (hc : w.cell? ⟨b, off, none⟩ = some (.int .u32 (bit x))) :
    Calls Try.prog 40 #[.pointer (some ⟨b, off, none⟩)] w fun e w' => e = .returned (.bool x) ∧ w = w' := by
  have hl := load32 hc
  have hi := Try.func52
  cases x <;> simp only [bit, Bool.false_eq_true, if_true, if_false] at hc hl
  all_goals
    go_enter Try.func40, Try.ntmps40
    go_wp2
    go_ret
    exact ⟨rfl, rfl⟩
end Go.Proofs.Ytimkkeomdkbcjaa
