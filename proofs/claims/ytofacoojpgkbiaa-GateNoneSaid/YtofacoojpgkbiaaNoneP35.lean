/-
  Merged out of: Upto. No condition of its own.
-/
import Derived.Test.YtofacoojpgkbiaaNoneP09
import Derived.JoinedCond
set_option linter.unusedVariables false
set_option linter.unusedSimpArgs false
/-
  The builder for a row that says 'leaving' and 'narrowed': a law whose arguments are of bounded bulk, over calls that may start goroutines, its walk of one goroutine.
-/
namespace Go.Proofs.Ytofacoojpgkbiaa
open Go.Conc Go.ChangeShapes Go.WideShapes Go.ChangeAt Go.RowKit
section
variable {H : Type} {enc : TypeId × Value → H}
end
end Go.Proofs.Ytofacoojpgkbiaa
