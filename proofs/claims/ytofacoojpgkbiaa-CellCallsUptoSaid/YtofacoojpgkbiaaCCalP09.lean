/- Part of a proof. No condition. -/
import Derived.Test.YtofacoojpgkbiaaCCalP03
import Derived.Test.YtofacoojpgkbiaaProg
import Derived.KernelRfl
set_option linter.unusedVariables false
set_option maxHeartbeats 8000000
set_option linter.unusedSimpArgs false
namespace Go.Proofs.Ytofacoojpgkbiaa
open Go.Conc
def z7a:List FuncId:=[155,162,142,143,159,152,160,154,156,158]
set_option maxRecDepth 100000 in
theorem zag{z:Bool}:zye z Try.prog z7a:=by
 intro f hf args;simp only[z7a,List.mem_cons,List.not_mem_nil,or_false] at hf;rcases hf with rfl|rfl|rfl|rfl|rfl|rfl|rfl|rfl|rfl|rfl
 ·exact zmg Try.func155 (by kernel_rfl) (by kernel_rfl) (by kernel_rfl) (e:=Extern.Atomic.loadT (.int .u32)) (by kernel_rfl) (zrf _) args
 ·exact zmg Try.func162 (by kernel_rfl) (by kernel_rfl) (by kernel_rfl) (e:=Extern.Atomic.swapT (.int .u32)) (by kernel_rfl) (zre _) args
 ·exact zmg Try.func142 (by kernel_rfl) (by kernel_rfl) (by kernel_rfl) (e:=Extern.Atomic.storeT) (by kernel_rfl) znu args
 ·exact zmg Try.func143 (by kernel_rfl) (by kernel_rfl) (by kernel_rfl) (e:=Extern.Atomic.loadT (.int .i64)) (by kernel_rfl) (zrf _) args
 ·exact zmg Try.func159 (by kernel_rfl) (by kernel_rfl) (by kernel_rfl) (e:=Extern.Atomic.update (Op.intArith .add) .i64 true) (by kernel_rfl) (zys (fun k x y=>zdz _ _ _ _) _ _) args
 ·exact zmg Try.func152 (by kernel_rfl) (by kernel_rfl) (by kernel_rfl) (e:=Extern.Atomic.storeT) (by kernel_rfl) znu args
 ·exact zmg Try.func160 (by kernel_rfl) (by kernel_rfl) (by kernel_rfl) (e:=Extern.Atomic.swapT (.int .i64)) (by kernel_rfl) (zre _) args
 ·exact zmg Try.func154 (by kernel_rfl) (by kernel_rfl) (by kernel_rfl) (e:=Extern.Atomic.storeT) (by kernel_rfl) znu args
 ·exact zmg Try.func156 (by kernel_rfl) (by kernel_rfl) (by kernel_rfl) (e:=Extern.Atomic.loadT .ptr) (by kernel_rfl) (zrf _) args
 ·exact zmg Try.func158 (by kernel_rfl) (by kernel_rfl) (by kernel_rfl) (e:=Extern.Atomic.swapT .ptr) (by kernel_rfl) (zre _) args
def z52:List FuncId:=[120,104,32,135,37,36,83,171,87]
set_option maxRecDepth 100000 in
theorem prg:Prg false Try.prog (·∈z52):=zgq zag (by kernel_rfl) (by kernel_rfl) (by kernel_rfl)
end Go.Proofs.Ytofacoojpgkbiaa
