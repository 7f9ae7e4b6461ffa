/-
  A part of a proof. No condition of its own.
-/
import Derived.Test.YtofacoojpgkbiaaCBxP02
import Derived.Test.YtofacoojpgkbiaaProg
import Derived.KernelRfl
set_option linter.unusedVariables false
set_option maxHeartbeats 8000000
set_option linter.unusedSimpArgs false
namespace Go.Proofs.Ytofacoojpgkbiaa
open Go.Conc
def extL:List FuncId:=[155,162,142,143,159,152,160,154,156,158]
set_option maxRecDepth 100000 in
theorem zah {z:Bool}:ztw z Try.prog extL:=by
 intro f hf args;simp only [extL,List.mem_cons,List.not_mem_nil,or_false] at hf;rcases hf with rfl|rfl|rfl|rfl|rfl|rfl|rfl|rfl|rfl|rfl
 ·exact zjy Try.func155 (by kernel_rfl) (by kernel_rfl) (by kernel_rfl) (e:=Extern.Atomic.loadT (.int .u32)) (by kernel_rfl) (znu _) args
 ·exact zjy Try.func162 (by kernel_rfl) (by kernel_rfl) (by kernel_rfl) (e:=Extern.Atomic.swapT (.int .u32)) (by kernel_rfl) (znt _) args
 ·exact zjy Try.func142 (by kernel_rfl) (by kernel_rfl) (by kernel_rfl) (e:=Extern.Atomic.storeT) (by kernel_rfl) zkz args
 ·exact zjy Try.func143 (by kernel_rfl) (by kernel_rfl) (by kernel_rfl) (e:=Extern.Atomic.loadT (.int .i64)) (by kernel_rfl) (znu _) args
 ·exact zjy Try.func159 (by kernel_rfl) (by kernel_rfl) (by kernel_rfl) (e:=Extern.Atomic.update (Op.intArith .add) .i64 true) (by kernel_rfl) (zt6 (fun k x y=>zdd _ _ _ _) _ _) args
 ·exact zjy Try.func152 (by kernel_rfl) (by kernel_rfl) (by kernel_rfl) (e:=Extern.Atomic.storeT) (by kernel_rfl) zkz args
 ·exact zjy Try.func160 (by kernel_rfl) (by kernel_rfl) (by kernel_rfl) (e:=Extern.Atomic.swapT (.int .i64)) (by kernel_rfl) (znt _) args
 ·exact zjy Try.func154 (by kernel_rfl) (by kernel_rfl) (by kernel_rfl) (e:=Extern.Atomic.storeT) (by kernel_rfl) zkz args
 ·exact zjy Try.func156 (by kernel_rfl) (by kernel_rfl) (by kernel_rfl) (e:=Extern.Atomic.loadT .ptr) (by kernel_rfl) (znu _) args
 ·exact zjy Try.func158 (by kernel_rfl) (by kernel_rfl) (by kernel_rfl) (e:=Extern.Atomic.swapT .ptr) (by kernel_rfl) (znt _) args
def calmL:List FuncId:=[120,104,32,135,37,36,83,171,87]
set_option maxRecDepth 100000 in
theorem prg:Prg false Try.prog (·∈calmL):=zgw zah (by kernel_rfl) (by kernel_rfl) (by kernel_rfl)
end Go.Proofs.Ytofacoojpgkbiaa
