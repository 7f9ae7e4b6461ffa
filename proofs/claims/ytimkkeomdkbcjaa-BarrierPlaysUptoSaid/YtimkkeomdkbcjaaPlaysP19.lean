/-
  Merged out of: CalmL. No condition of its own.
-/
import Derived.Test.YtimkkeomdkbcjaaPlaysP04
import Derived.Test.YtimkkeomdkbcjaaProg
import Derived.KernelRfl
set_option linter.unusedVariables false
set_option linter.unusedSimpArgs false
/-
  The calm functions of this program. No condition of its own.
-/
namespace Go.Proofs.Ytimkkeomdkbcjaa
open Go.Conc
def extL : List FuncId := [52, 53, 65, 68, 70]
theorem ext_ok {z : Bool} : ExtOk z Try.prog extL := by
  intro f hf args
  simp only [extL, List.mem_cons, List.not_mem_nil, or_false] at hf
  rcases hf with rfl | rfl | rfl | rfl | rfl
  · exact t_ext Try.func52 (by kernel_rfl) (by kernel_rfl) (by kernel_rfl) (e := Extern.Atomic.loadT (.int .u32)) (by kernel_rfl) (t_loadT _) args
  · exact t_ext Try.func53 (by kernel_rfl) (by kernel_rfl) (by kernel_rfl) (e := Extern.Atomic.swapT (.int .u32)) (by kernel_rfl) (t_swapT _) args
  · exact t_ext Try.func65 (by kernel_rfl) (by kernel_rfl) (by kernel_rfl) (e := Extern.Atomic.storeT) (by kernel_rfl) t_storeT args
  · exact t_ext Try.func68 (by kernel_rfl) (by kernel_rfl) (by kernel_rfl) (e := Extern.Atomic.loadT (.int .i64)) (by kernel_rfl) (t_loadT _) args
  · exact t_ext Try.func70 (by kernel_rfl) (by kernel_rfl) (by kernel_rfl) (e := Extern.Atomic.update (Op.intArith .add) .i64 true) (by kernel_rfl) (t_update (fun k x y => t_intArith _ _ _ _) _ _) args
def calmL : List FuncId := [10, 16, 19, 20, 21, 26, 27, 28, 31, 32, 33, 34, 35, 36, 37, 38, 40, 42, 43, 46, 47, 48, 49, 50, 51, 55, 57, 63, 64, 69, 71]
theorem prg : Prg false Try.prog (· ∈ calmL) := prg_of ext_ok (by kernel_rfl) (by kernel_rfl) (by kernel_rfl)
end Go.Proofs.Ytimkkeomdkbcjaa
