/-
  A part of a proof. No condition of its own.
-/
import Derived.Test.YtofacoojpgkbiaaRows
import Derived.WalkKit
import Derived.WalkLawsBesides
import Derived.WalkSpells
import Derived.Deep.QuietTactic
import Derived.BigQuiet
import Derived.Lib.Hide
set_option linter.unusedVariables false
set_option maxHeartbeats 8000000
set_option linter.unusedSimpArgs false
namespace Go.Proofs.Ytofacoojpgkbiaa
open Go.RowKit
theorem load32 {a:Addr} {x:Int} {w:World} (hc:w.cell? a=some (.int .u32 x)):(callFunc 155 #[.pointer (some a)]).run Try.prog w = .ok (.value (.int .u32 x)) w :=
 run_call_load (P:=Try.prog) Try.func155 (by kernel_rfl) (by kernel_rfl) (by kernel_rfl) .u32 (by kernel_rfl) hc
section
variable {P:Program} {f:FuncId} {fn:Func}
theorem zgv (hf:P.funcs[f]?=some fn) (hname:(fn.name == "runtime.NumGoroutine")=false) (hb:fn.body.isNone=true) (hn:Extern.findNext fn=none) (k:IntKind)
  (he:Extern.find fn=some (Extern.Atomic.swapT (.int k))) {a:Addr} {x y:Int} {w:World} (hc:w.cell? a=some (.int k x)) (hz:w.frozen? a=false) :
  (callFunc f #[.pointer (some a),.int k y]).run P w = .ok (.value (.int k x)) (w.setCell a (.int k y)):=by
 rw [run_callFunc_extern hf hname hb hn he]
 change (Sem.run P (do
  let a' ← asAddr (.pointer (some a))
  let old ← Extern.Atomic.read (.int k) a'
  store a' (.int k y) .atomic
  pure old) w).andThen _=_
 simp [Extern.Atomic.read,asAddr,hc,hz,run_store P w a (.int k y) .atomic rfl,Result.andThen]
end
theorem swap32 {a:Addr} {x y:Int} {w:World} (hc:w.cell? a=some (.int .u32 x)) (hz:w.frozen? a=false):(callFunc 162 #[.pointer (some a),.int .u32 y]).run Try.prog w = .ok (.value (.int .u32 x)) (w.setCell a (.int .u32 y)) :=
 zgv (P:=Try.prog) Try.func162 (by kernel_rfl) (by kernel_rfl) (by kernel_rfl) .u32 (by kernel_rfl) hc hz
theorem b32_any (x:Bool) (w:World):Calls Try.prog 153 #[.bool x] w fun e w'=>e = .returned (.int .u32 (if x then 1 else 0))∧w=w':=by
 cases x;all_goals
  go_enter Try.func153,Try.ntmps153
  go_wp2
  go_ret
  exact ⟨rfl,rfl⟩
def bit (x:Bool):Int:=if x then 1 else 0
theorem zlt (b off:Nat) (x:Bool) (w:World) (hc:w.cell? ⟨b,off,none⟩=some (.int .u32 (bit x))) :
  Calls Try.prog 104 #[.pointer (some ⟨b,off,none⟩)] w fun e w'=>e = .returned (.bool x)∧w=w':=by
 have hl:=load32 hc;have hi:=Try.func155;cases x<;>simp only [bit,Bool.false_eq_true,if_true,if_false] at hc hl;all_goals
  go_enter Try.func104,Try.ntmps104
  go_wp2
  go_ret
  exact ⟨rfl,rfl⟩
end Go.Proofs.Ytofacoojpgkbiaa
