/- Part of a proof. No condition. -/
import Derived.Test.YtofacoojpgkbiaaCCalPZ
import Derived.Test.YtofacoojpgkbiaaRows
set_option linter.unusedVariables false
set_option maxHeartbeats 8000000
set_option linter.unusedSimpArgs false
namespace Go.Proofs.Ytofacoojpgkbiaa.bulks
theorem z4y{H:Type}(d:DataW H):1≤Rows.uptoBulk d:=by
 cases d with
 | lit l=>cases l<;>simp[Rows.uptoBulk]
 | nil=>simp[Rows.uptoBulk]
 | ptr d=>simp[Rows.uptoBulk]
 | slice elems spare=>simp[Rows.uptoBulk]
 | agg parts=>simp[Rows.uptoBulk]
 | iface t d=>simp[Rows.uptoBulk]
 | map entries=>simp[Rows.uptoBulk]
 | held h=>simp[Rows.uptoBulk]
theorem append{H:Type}(l r:List (DataW H)):Rows.uptoBulkAll (l++r)=Rows.uptoBulkAll l+Rows.uptoBulkAll r:=by
 induction l with
 | nil=>simp[Rows.uptoBulkAll]
 | cons x l ih=>simp only[yat,Rows.uptoBulkAll,ih];omega
theorem length_le{H:Type}(l:List (DataW H)):l.length≤Rows.uptoBulkAll l:=by
 induction l with
 | nil=>simp[Rows.uptoBulkAll]
 | cons x r ih=>have:=z4y x;simp only[Rows.uptoBulkAll,yau];omega
theorem slice_elems{H:Type}(elems spare:List (DataW H)):Rows.uptoBulkAll elems+1≤Rows.uptoBulk (.slice elems spare):=by
 simp only[Rows.uptoBulk];omega
theorem bound{H:Type}{l:List (DataW H)}(hk:Rows.uptoSmall H l=true):Rows.uptoBulkAll l≤1048576:=by
 simpa[Rows.uptoSmall] using hk
end Go.Proofs.Ytofacoojpgkbiaa.bulks
