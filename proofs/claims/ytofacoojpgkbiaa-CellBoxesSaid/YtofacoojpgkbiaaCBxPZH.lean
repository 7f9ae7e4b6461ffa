/-
  A short name. No condition of its own.
-/
import Derived.Lib.Hide
namespace Go.Proofs.Ytofacoojpgkbiaa
theorem yay {p : Prop} (h : p) : Go.RowKit.Hid p := Go.Lib.hid h
end Go.Proofs.Ytofacoojpgkbiaa
