/-
  A part of a proof. No condition of its own.
-/
import Derived.Test.YtofacoojpgkbiaaRows
import Derived.WalkKit
import Derived.WalkLawsBesides
import Derived.WalkSpells
import Derived.Deep.QuietTactic
import Derived.BigQuiet
import Derived.Lib.Hide
set_option linter.unusedVariables false
set_option maxHeartbeats 8000000
set_option linter.unusedSimpArgs false
namespace Go.Proofs.Ytofacoojpgkbiaa
open Go.RowKit
section
variable {P:Program} {f:FuncId} {fn:Func}
end
end Go.Proofs.Ytofacoojpgkbiaa
