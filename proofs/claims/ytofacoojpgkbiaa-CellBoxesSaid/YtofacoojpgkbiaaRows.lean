/-
  No cell of these rows narrows 'for every input' (looked for: loops, veiled, ifaces, maps, wideKeys, modest, calm, conditions, laid).
  DERIVED. THE GIVEN ROWS OF THIS SEAT. 13 by the template 'for every input the law returns true; each argument reads behind the call as it read before'; 0 by the template 'total and deterministic' (their statements: YtofacoojpgkbiaaTotals.lean).
  GIVEN WITH THE SEED: the statements are not yours to turn. If you find one false, say at which input.
  Laid BY PROGRAM, IN A SANDBOX (cutbox-rows.mjs): the forced cells as the released guide's own fill.sh prints them over the translation 1039e566fe8d1ffa… (all of the seat's roots in one cut). By AI agents, Wed Nov 11 2026. No macro, syntax, notation, axiom, sorry.
-/
import Derived.Test.YtofacoojpgkbiaaChecked
import GoSem.Claim
import GoSem.ClaimJoined
import GoSem.ClaimMapViews
import Derived.JoinedTies
import Derived.KernelRfl
namespace Go.Proofs.Ytofacoojpgkbiaa
/- THE CELL 'sum', in the pinned program and in every row, IS THE sha256 OF THE DUMP (.gsa) THAT YtofacoojpgkbiaaProg.lean LOADS. Nothing in Lean hashes anything: it is a label: what it is worth is what the hold of that sum in a sandbox is worth. -/
noncomputable def Try.pinned : Pinned := { name := "ytofacoojpgkbiaa", sum := "1039e566fe8d1ffad8015de1593e89f32d2fd475bfcabd96d3bf07e39aed5bdb", checked := Try.checked }
namespace Rows
def none {H : Type} : Left H := { results := [], args := [] }

/-- 'carillonlaw14.GatePlays': WHATEVER THE INPUT: true; the input reads as it did. -/
def gatePlaysSpec : ChangeSpec := { name := "gatePlays", fn := fun _ => fun
  | [d] => { results := [.lit (.bool true)], args := [d] }
  | _ => none }
def gatePlaysRow : OpenClaim := { program := "ytofacoojpgkbiaa", sum := "1039e566fe8d1ffad8015de1593e89f32d2fd475bfcabd96d3bf07e39aed5bdb", func := "carillon/carillonlaw14.GatePlays", spec := "gatePlays", inPlace := ["sync/atomic.StoreInt64", "sync/atomic.LoadPointer", "sync/atomic.CompareAndSwapPointer", "sync/atomic.LoadInt64"], unfollowed := true, recurses := true, leaving := true, apart := false }
def GatePlaysSaid : Prop := gatePlaysRow.holds Try.pinned (OpenSpec.ofChange gatePlaysSpec)

/-- ITS FALSE NEIGHBOUR: 'it returns false'. Refute it at one input. -/
def gatePlaysWrong : ChangeSpec := { name := "gatePlays", fn := fun _ => fun
  | [d] => { results := [.lit (.bool false)], args := [d] }
  | _ => none }
def GatePlaysWrongFalsely : Prop := gatePlaysRow.holds Try.pinned (OpenSpec.ofChange gatePlaysWrong)

/-- 'carillonlaw14.GateCalls': WHATEVER THE INPUT: true; the input reads as it did. -/
def gateCallsSpec : ChangeSpec := { name := "gateCalls", fn := fun _ => fun
  | [d] => { results := [.lit (.bool true)], args := [d] }
  | _ => none }
def gateCallsRow : OpenClaim := { program := "ytofacoojpgkbiaa", sum := "1039e566fe8d1ffad8015de1593e89f32d2fd475bfcabd96d3bf07e39aed5bdb", func := "carillon/carillonlaw14.GateCalls", spec := "gateCalls", inPlace := ["sync/atomic.StoreInt64", "sync/atomic.LoadPointer", "sync/atomic.CompareAndSwapPointer", "sync/atomic.LoadInt64"], unfollowed := true, recurses := true, leaving := true, apart := false }
def GateCallsSaid : Prop := gateCallsRow.holds Try.pinned (OpenSpec.ofChange gateCallsSpec)

/-- ITS FALSE NEIGHBOUR: 'it returns false'. Refute it at one input. -/
def gateCallsWrong : ChangeSpec := { name := "gateCalls", fn := fun _ => fun
  | [d] => { results := [.lit (.bool false)], args := [d] }
  | _ => none }
def GateCallsWrongFalsely : Prop := gateCallsRow.holds Try.pinned (OpenSpec.ofChange gateCallsWrong)

/-- 'carillonlaw14.GateNone': WHATEVER THE INPUT: true; the input reads as it did. -/
def gateNoneSpec : ChangeSpec := { name := "gateNone", fn := fun _ => fun
  | [d] => { results := [.lit (.bool true)], args := [d] }
  | _ => none }
def gateNoneRow : OpenClaim := { program := "ytofacoojpgkbiaa", sum := "1039e566fe8d1ffad8015de1593e89f32d2fd475bfcabd96d3bf07e39aed5bdb", func := "carillon/carillonlaw14.GateNone", spec := "gateNone", inPlace := ["sync/atomic.StoreInt64", "sync/atomic.LoadPointer", "sync/atomic.CompareAndSwapPointer", "sync/atomic.LoadInt64"], unfollowed := true, recurses := true, leaving := true, apart := false }
def GateNoneSaid : Prop := gateNoneRow.holds Try.pinned (OpenSpec.ofChange gateNoneSpec)

/-- ITS FALSE NEIGHBOUR: 'it returns false'. Refute it at one input. -/
def gateNoneWrong : ChangeSpec := { name := "gateNone", fn := fun _ => fun
  | [d] => { results := [.lit (.bool false)], args := [d] }
  | _ => none }
def GateNoneWrongFalsely : Prop := gateNoneRow.holds Try.pinned (OpenSpec.ofChange gateNoneWrong)

/-- 'carillonlaw14.GateKeeps': WHATEVER THE INPUT: true; the input reads as it did. -/
def gateKeepsSpec : ChangeSpec := { name := "gateKeeps", fn := fun _ => fun
  | [d1, d2] => { results := [.lit (.bool true)], args := [d1, d2] }
  | _ => none }
def gateKeepsRow : OpenClaim := { program := "ytofacoojpgkbiaa", sum := "1039e566fe8d1ffad8015de1593e89f32d2fd475bfcabd96d3bf07e39aed5bdb", func := "carillon/carillonlaw14.GateKeeps", spec := "gateKeeps", inPlace := ["sync/atomic.StoreInt64", "sync/atomic.LoadPointer", "sync/atomic.CompareAndSwapPointer", "sync/atomic.LoadInt64"], unfollowed := true, recurses := true, leaving := true, apart := false }
def GateKeepsSaid : Prop := gateKeepsRow.holds Try.pinned (OpenSpec.ofChange gateKeepsSpec)

/-- ITS FALSE NEIGHBOUR: 'it returns false'. Refute it at one input. -/
def gateKeepsWrong : ChangeSpec := { name := "gateKeeps", fn := fun _ => fun
  | [d1, d2] => { results := [.lit (.bool false)], args := [d1, d2] }
  | _ => none }
def GateKeepsWrongFalsely : Prop := gateKeepsRow.holds Try.pinned (OpenSpec.ofChange gateKeepsWrong)

/-- 'carillonlaw02.CellPlays': WHATEVER THE INPUT: true; the input reads as it did. -/
def cellPlaysSpec : ChangeSpec := { name := "cellPlays", fn := fun _ => fun
  | [d] => { results := [.lit (.bool true)], args := [d] }
  | _ => none }
def cellPlaysRow : OpenClaim := { program := "ytofacoojpgkbiaa", sum := "1039e566fe8d1ffad8015de1593e89f32d2fd475bfcabd96d3bf07e39aed5bdb", func := "carillon/carillonlaw02.CellPlays", spec := "cellPlays", inPlace := ["sync/atomic.StoreInt64", "sync/atomic.StoreUint32", "sync/atomic.StorePointer", "sync/atomic.LoadInt64", "sync/atomic.AddInt64", "sync/atomic.SwapInt64", "sync/atomic.CompareAndSwapInt64", "sync/atomic.LoadUint32", "sync/atomic.SwapUint32", "sync/atomic.LoadPointer", "sync/atomic.SwapPointer", "sync/atomic.CompareAndSwapPointer"], unfollowed := true, recurses := true, leaving := true, apart := false }
def CellPlaysSaid : Prop := cellPlaysRow.holds Try.pinned (OpenSpec.ofChange cellPlaysSpec)

/-- ITS FALSE NEIGHBOUR: 'it returns false'. Refute it at one input. -/
def cellPlaysWrong : ChangeSpec := { name := "cellPlays", fn := fun _ => fun
  | [d] => { results := [.lit (.bool false)], args := [d] }
  | _ => none }
def CellPlaysWrongFalsely : Prop := cellPlaysRow.holds Try.pinned (OpenSpec.ofChange cellPlaysWrong)

/-- 'carillonlaw02.CellCalls': WHATEVER THE INPUT: true; the input reads as it did. -/
def cellCallsSpec : ChangeSpec := { name := "cellCalls", fn := fun _ => fun
  | [d1, d2] => { results := [.lit (.bool true)], args := [d1, d2] }
  | _ => none }
def cellCallsRow : OpenClaim := { program := "ytofacoojpgkbiaa", sum := "1039e566fe8d1ffad8015de1593e89f32d2fd475bfcabd96d3bf07e39aed5bdb", func := "carillon/carillonlaw02.CellCalls", spec := "cellCalls", inPlace := ["sync/atomic.StoreInt64", "sync/atomic.StoreUint32", "sync/atomic.StorePointer", "sync/atomic.LoadInt64", "sync/atomic.AddInt64", "sync/atomic.SwapInt64", "sync/atomic.CompareAndSwapInt64", "sync/atomic.LoadUint32", "sync/atomic.SwapUint32", "sync/atomic.LoadPointer", "sync/atomic.SwapPointer", "sync/atomic.CompareAndSwapPointer"], unfollowed := true, recurses := true, leaving := true, apart := false }
def CellCallsSaid : Prop := cellCallsRow.holds Try.pinned (OpenSpec.ofChange cellCallsSpec)

/-- ITS FALSE NEIGHBOUR: 'it returns false'. Refute it at one input. -/
def cellCallsWrong : ChangeSpec := { name := "cellCalls", fn := fun _ => fun
  | [d1, d2] => { results := [.lit (.bool false)], args := [d1, d2] }
  | _ => none }
def CellCallsWrongFalsely : Prop := cellCallsRow.holds Try.pinned (OpenSpec.ofChange cellCallsWrong)

/-- 'carillonlaw02.CellBoxes': WHATEVER THE INPUT: true; the input reads as it did. -/
def cellBoxesSpec : ChangeSpec := { name := "cellBoxes", fn := fun _ => fun
  | [d] => { results := [.lit (.bool true)], args := [d] }
  | _ => none }
def cellBoxesRow : OpenClaim := { program := "ytofacoojpgkbiaa", sum := "1039e566fe8d1ffad8015de1593e89f32d2fd475bfcabd96d3bf07e39aed5bdb", func := "carillon/carillonlaw02.CellBoxes", spec := "cellBoxes", inPlace := ["sync/atomic.StoreInt64", "sync/atomic.StoreUint32", "sync/atomic.StorePointer", "sync/atomic.LoadInt64", "sync/atomic.AddInt64", "sync/atomic.SwapInt64", "sync/atomic.CompareAndSwapInt64", "sync/atomic.LoadUint32", "sync/atomic.SwapUint32", "sync/atomic.LoadPointer", "sync/atomic.SwapPointer", "sync/atomic.CompareAndSwapPointer"], unfollowed := true, recurses := true, leaving := true, apart := false }
def CellBoxesSaid : Prop := cellBoxesRow.holds Try.pinned (OpenSpec.ofChange cellBoxesSpec)

/-- ITS FALSE NEIGHBOUR: 'it returns false'. Refute it at one input. -/
def cellBoxesWrong : ChangeSpec := { name := "cellBoxes", fn := fun _ => fun
  | [d] => { results := [.lit (.bool false)], args := [d] }
  | _ => none }
def CellBoxesWrongFalsely : Prop := cellBoxesRow.holds Try.pinned (OpenSpec.ofChange cellBoxesWrong)

/-- 'carillonlaw02.CellNone': WHATEVER THE INPUT: true; the input reads as it did. -/
def cellNoneSpec : ChangeSpec := { name := "cellNone", fn := fun _ => fun
  | [d] => { results := [.lit (.bool true)], args := [d] }
  | _ => none }
def cellNoneRow : OpenClaim := { program := "ytofacoojpgkbiaa", sum := "1039e566fe8d1ffad8015de1593e89f32d2fd475bfcabd96d3bf07e39aed5bdb", func := "carillon/carillonlaw02.CellNone", spec := "cellNone", inPlace := ["sync/atomic.StoreInt64", "sync/atomic.StoreUint32", "sync/atomic.StorePointer", "sync/atomic.LoadInt64", "sync/atomic.AddInt64", "sync/atomic.SwapInt64", "sync/atomic.CompareAndSwapInt64", "sync/atomic.LoadUint32", "sync/atomic.SwapUint32", "sync/atomic.LoadPointer", "sync/atomic.SwapPointer", "sync/atomic.CompareAndSwapPointer"], unfollowed := true, recurses := true, leaving := true, apart := false }
def CellNoneSaid : Prop := cellNoneRow.holds Try.pinned (OpenSpec.ofChange cellNoneSpec)

/-- ITS FALSE NEIGHBOUR: 'it returns false'. Refute it at one input. -/
def cellNoneWrong : ChangeSpec := { name := "cellNone", fn := fun _ => fun
  | [d] => { results := [.lit (.bool false)], args := [d] }
  | _ => none }
def CellNoneWrongFalsely : Prop := cellNoneRow.holds Try.pinned (OpenSpec.ofChange cellNoneWrong)

/-- 'carillonlaw02.CellKeeps': WHATEVER THE INPUT: true; the input reads as it did. -/
def cellKeepsSpec : ChangeSpec := { name := "cellKeeps", fn := fun _ => fun
  | [d1, d2] => { results := [.lit (.bool true)], args := [d1, d2] }
  | _ => none }
def cellKeepsRow : OpenClaim := { program := "ytofacoojpgkbiaa", sum := "1039e566fe8d1ffad8015de1593e89f32d2fd475bfcabd96d3bf07e39aed5bdb", func := "carillon/carillonlaw02.CellKeeps", spec := "cellKeeps", inPlace := ["sync/atomic.StoreInt64", "sync/atomic.StoreUint32", "sync/atomic.StorePointer", "sync/atomic.LoadInt64", "sync/atomic.AddInt64", "sync/atomic.SwapInt64", "sync/atomic.CompareAndSwapInt64", "sync/atomic.LoadUint32", "sync/atomic.SwapUint32", "sync/atomic.LoadPointer", "sync/atomic.SwapPointer", "sync/atomic.CompareAndSwapPointer"], unfollowed := true, recurses := true, leaving := true, apart := false }
def CellKeepsSaid : Prop := cellKeepsRow.holds Try.pinned (OpenSpec.ofChange cellKeepsSpec)

/-- ITS FALSE NEIGHBOUR: 'it returns false'. Refute it at one input. -/
def cellKeepsWrong : ChangeSpec := { name := "cellKeeps", fn := fun _ => fun
  | [d1, d2] => { results := [.lit (.bool false)], args := [d1, d2] }
  | _ => none }
def CellKeepsWrongFalsely : Prop := cellKeepsRow.holds Try.pinned (OpenSpec.ofChange cellKeepsWrong)

/-- 'carillonlaw17.PoolPlays': WHATEVER THE INPUT: true; the input reads as it did. -/
def poolPlaysSpec : ChangeSpec := { name := "poolPlays", fn := fun _ => fun
  | [d] => { results := [.lit (.bool true)], args := [d] }
  | _ => none }
def poolPlaysRow : OpenClaim := { program := "ytofacoojpgkbiaa", sum := "1039e566fe8d1ffad8015de1593e89f32d2fd475bfcabd96d3bf07e39aed5bdb", func := "carillon/carillonlaw17.PoolPlays", spec := "poolPlays", inPlace := ["sync/atomic.StoreInt64", "sync/atomic.LoadPointer", "sync/atomic.CompareAndSwapPointer", "sync/atomic.LoadInt64", "sync/atomic.CompareAndSwapInt64", "sync/atomic.AddInt64"], unfollowed := true, recurses := true, leaving := true, apart := false }
def PoolPlaysSaid : Prop := poolPlaysRow.holds Try.pinned (OpenSpec.ofChange poolPlaysSpec)

/-- ITS FALSE NEIGHBOUR: 'it returns false'. Refute it at one input. -/
def poolPlaysWrong : ChangeSpec := { name := "poolPlays", fn := fun _ => fun
  | [d] => { results := [.lit (.bool false)], args := [d] }
  | _ => none }
def PoolPlaysWrongFalsely : Prop := poolPlaysRow.holds Try.pinned (OpenSpec.ofChange poolPlaysWrong)

/-- 'carillonlaw17.PoolNone': WHATEVER THE INPUT: true; the input reads as it did. -/
def poolNoneSpec : ChangeSpec := { name := "poolNone", fn := fun _ => fun
  | [d1, d2, d3] => { results := [.lit (.bool true)], args := [d1, d2, d3] }
  | _ => none }
def poolNoneRow : OpenClaim := { program := "ytofacoojpgkbiaa", sum := "1039e566fe8d1ffad8015de1593e89f32d2fd475bfcabd96d3bf07e39aed5bdb", func := "carillon/carillonlaw17.PoolNone", spec := "poolNone", inPlace := ["sync/atomic.StoreInt64", "sync/atomic.LoadPointer", "sync/atomic.CompareAndSwapPointer", "sync/atomic.LoadInt64", "sync/atomic.CompareAndSwapInt64", "sync/atomic.AddInt64"], unfollowed := true, recurses := true, leaving := true, apart := false }
def PoolNoneSaid : Prop := poolNoneRow.holds Try.pinned (OpenSpec.ofChange poolNoneSpec)

/-- ITS FALSE NEIGHBOUR: 'it returns false'. Refute it at one input. -/
def poolNoneWrong : ChangeSpec := { name := "poolNone", fn := fun _ => fun
  | [d1, d2, d3] => { results := [.lit (.bool false)], args := [d1, d2, d3] }
  | _ => none }
def PoolNoneWrongFalsely : Prop := poolNoneRow.holds Try.pinned (OpenSpec.ofChange poolNoneWrong)

/-- 'carillonlaw17.PoolKeeps': WHATEVER THE INPUT: true; the input reads as it did. -/
def poolKeepsSpec : ChangeSpec := { name := "poolKeeps", fn := fun _ => fun
  | [d1, d2] => { results := [.lit (.bool true)], args := [d1, d2] }
  | _ => none }
def poolKeepsRow : OpenClaim := { program := "ytofacoojpgkbiaa", sum := "1039e566fe8d1ffad8015de1593e89f32d2fd475bfcabd96d3bf07e39aed5bdb", func := "carillon/carillonlaw17.PoolKeeps", spec := "poolKeeps", inPlace := ["sync/atomic.StoreInt64", "sync/atomic.LoadPointer", "sync/atomic.CompareAndSwapPointer", "sync/atomic.LoadInt64", "sync/atomic.CompareAndSwapInt64", "sync/atomic.AddInt64"], unfollowed := true, recurses := true, leaving := true, apart := false }
def PoolKeepsSaid : Prop := poolKeepsRow.holds Try.pinned (OpenSpec.ofChange poolKeepsSpec)

/-- ITS FALSE NEIGHBOUR: 'it returns false'. Refute it at one input. -/
def poolKeepsWrong : ChangeSpec := { name := "poolKeeps", fn := fun _ => fun
  | [d1, d2] => { results := [.lit (.bool false)], args := [d1, d2] }
  | _ => none }
def PoolKeepsWrongFalsely : Prop := poolKeepsRow.holds Try.pinned (OpenSpec.ofChange poolKeepsWrong)

/-- 'carillonlaw17.PoolCalls': WHATEVER THE INPUT: true; the input reads as it did. -/
def poolCallsSpec : ChangeSpec := { name := "poolCalls", fn := fun _ => fun
  | [d1, d2, d3, d4] => { results := [.lit (.bool true)], args := [d1, d2, d3, d4] }
  | _ => none }
def poolCallsRow : OpenClaim := { program := "ytofacoojpgkbiaa", sum := "1039e566fe8d1ffad8015de1593e89f32d2fd475bfcabd96d3bf07e39aed5bdb", func := "carillon/carillonlaw17.PoolCalls", spec := "poolCalls", inPlace := ["sync/atomic.StoreInt64", "sync/atomic.LoadPointer", "sync/atomic.CompareAndSwapPointer", "sync/atomic.LoadInt64", "sync/atomic.CompareAndSwapInt64", "sync/atomic.AddInt64"], unfollowed := true, recurses := true, leaving := true, apart := false }
def PoolCallsSaid : Prop := poolCallsRow.holds Try.pinned (OpenSpec.ofChange poolCallsSpec)

/-- ITS FALSE NEIGHBOUR: 'it returns false'. Refute it at one input. -/
def poolCallsWrong : ChangeSpec := { name := "poolCalls", fn := fun _ => fun
  | [d1, d2, d3, d4] => { results := [.lit (.bool false)], args := [d1, d2, d3, d4] }
  | _ => none }
def PoolCallsWrongFalsely : Prop := poolCallsRow.holds Try.pinned (OpenSpec.ofChange poolCallsWrong)

/- THE SECOND FORM. 'bulk': how many values and letters a reading holds, each counted each time it is reached (what is shared counts as often as it is met; a slice's spare places count too). A statement '..UptoSaid' is the law's where the arguments, and the package variables that the reading takes, are together of bulk at most 1048576: NARROWER than '..Said'. Prove '..Said' where nothing that the law and all that it calls make is longer than what came in: it says more and counts as full. Else prove '..UptoSaid'. A law counts once. -/
mutual
def uptoBulk {H : Type} : DataW H → Nat
  | .lit (.string bytes) => bytes.length + 1
  | .lit _ => 1
  | .nil => 1
  | .ptr d => uptoBulk d + 1
  | .slice elems spare => uptoBulkAll elems + uptoBulkAll spare + 1
  | .agg parts => uptoBulkAll parts + 1
  | .iface _ d => uptoBulk d + 1
  | .map entries => uptoBulkEntries entries + 1
  | .held _ => 1
def uptoBulkAll {H : Type} : List (DataW H) → Nat
  | [] => 0
  | d :: r => uptoBulk d + uptoBulkAll r
def uptoBulkEntries {H : Type} : List (Lit × DataW H) → Nat
  | [] => 0
  | x :: r => uptoBulkEntry x + uptoBulkEntries r
def uptoBulkEntry {H : Type} : Lit × DataW H → Nat
  | (.string bytes, d) => bytes.length + uptoBulk d + 1
  | (_, d) => uptoBulk d + 1
 end
def uptoSmall : (H : Type) → List (DataW H) → Bool := fun _ ds => decide (uptoBulkAll ds ≤ 1048576)
def OpenSpec.upto (s : _root_.Go.ChangeSpec) : _root_.Go.OpenSpec := { _root_.Go.OpenSpec.ofChange s with cond := some uptoSmall }

/-- 'carillonlaw14.GatePlays', WHERE WHAT IT READS IS OF BULK AT MOST 1048576: true; the input reads as it did. -/
def gatePlaysUptoRow : OpenClaim := { program := "ytofacoojpgkbiaa", sum := "1039e566fe8d1ffad8015de1593e89f32d2fd475bfcabd96d3bf07e39aed5bdb", func := "carillon/carillonlaw14.GatePlays", spec := "gatePlays", inPlace := ["sync/atomic.StoreInt64", "sync/atomic.LoadPointer", "sync/atomic.CompareAndSwapPointer", "sync/atomic.LoadInt64"], unfollowed := true, recurses := true, leaving := true, apart := false, narrowed := true }
def GatePlaysUptoSaid : Prop := gatePlaysUptoRow.holds Try.pinned (OpenSpec.upto gatePlaysSpec)

/-- 'carillonlaw14.GateCalls', WHERE WHAT IT READS IS OF BULK AT MOST 1048576: true; the input reads as it did. -/
def gateCallsUptoRow : OpenClaim := { program := "ytofacoojpgkbiaa", sum := "1039e566fe8d1ffad8015de1593e89f32d2fd475bfcabd96d3bf07e39aed5bdb", func := "carillon/carillonlaw14.GateCalls", spec := "gateCalls", inPlace := ["sync/atomic.StoreInt64", "sync/atomic.LoadPointer", "sync/atomic.CompareAndSwapPointer", "sync/atomic.LoadInt64"], unfollowed := true, recurses := true, leaving := true, apart := false, narrowed := true }
def GateCallsUptoSaid : Prop := gateCallsUptoRow.holds Try.pinned (OpenSpec.upto gateCallsSpec)

/-- 'carillonlaw14.GateNone', WHERE WHAT IT READS IS OF BULK AT MOST 1048576: true; the input reads as it did. -/
def gateNoneUptoRow : OpenClaim := { program := "ytofacoojpgkbiaa", sum := "1039e566fe8d1ffad8015de1593e89f32d2fd475bfcabd96d3bf07e39aed5bdb", func := "carillon/carillonlaw14.GateNone", spec := "gateNone", inPlace := ["sync/atomic.StoreInt64", "sync/atomic.LoadPointer", "sync/atomic.CompareAndSwapPointer", "sync/atomic.LoadInt64"], unfollowed := true, recurses := true, leaving := true, apart := false, narrowed := true }
def GateNoneUptoSaid : Prop := gateNoneUptoRow.holds Try.pinned (OpenSpec.upto gateNoneSpec)

/-- 'carillonlaw14.GateKeeps', WHERE WHAT IT READS IS OF BULK AT MOST 1048576: true; the input reads as it did. -/
def gateKeepsUptoRow : OpenClaim := { program := "ytofacoojpgkbiaa", sum := "1039e566fe8d1ffad8015de1593e89f32d2fd475bfcabd96d3bf07e39aed5bdb", func := "carillon/carillonlaw14.GateKeeps", spec := "gateKeeps", inPlace := ["sync/atomic.StoreInt64", "sync/atomic.LoadPointer", "sync/atomic.CompareAndSwapPointer", "sync/atomic.LoadInt64"], unfollowed := true, recurses := true, leaving := true, apart := false, narrowed := true }
def GateKeepsUptoSaid : Prop := gateKeepsUptoRow.holds Try.pinned (OpenSpec.upto gateKeepsSpec)

/-- 'carillonlaw02.CellPlays', WHERE WHAT IT READS IS OF BULK AT MOST 1048576: true; the input reads as it did. -/
def cellPlaysUptoRow : OpenClaim := { program := "ytofacoojpgkbiaa", sum := "1039e566fe8d1ffad8015de1593e89f32d2fd475bfcabd96d3bf07e39aed5bdb", func := "carillon/carillonlaw02.CellPlays", spec := "cellPlays", inPlace := ["sync/atomic.StoreInt64", "sync/atomic.StoreUint32", "sync/atomic.StorePointer", "sync/atomic.LoadInt64", "sync/atomic.AddInt64", "sync/atomic.SwapInt64", "sync/atomic.CompareAndSwapInt64", "sync/atomic.LoadUint32", "sync/atomic.SwapUint32", "sync/atomic.LoadPointer", "sync/atomic.SwapPointer", "sync/atomic.CompareAndSwapPointer"], unfollowed := true, recurses := true, leaving := true, apart := false, narrowed := true }
def CellPlaysUptoSaid : Prop := cellPlaysUptoRow.holds Try.pinned (OpenSpec.upto cellPlaysSpec)

/-- 'carillonlaw02.CellCalls', WHERE WHAT IT READS IS OF BULK AT MOST 1048576: true; the input reads as it did. -/
def cellCallsUptoRow : OpenClaim := { program := "ytofacoojpgkbiaa", sum := "1039e566fe8d1ffad8015de1593e89f32d2fd475bfcabd96d3bf07e39aed5bdb", func := "carillon/carillonlaw02.CellCalls", spec := "cellCalls", inPlace := ["sync/atomic.StoreInt64", "sync/atomic.StoreUint32", "sync/atomic.StorePointer", "sync/atomic.LoadInt64", "sync/atomic.AddInt64", "sync/atomic.SwapInt64", "sync/atomic.CompareAndSwapInt64", "sync/atomic.LoadUint32", "sync/atomic.SwapUint32", "sync/atomic.LoadPointer", "sync/atomic.SwapPointer", "sync/atomic.CompareAndSwapPointer"], unfollowed := true, recurses := true, leaving := true, apart := false, narrowed := true }
def CellCallsUptoSaid : Prop := cellCallsUptoRow.holds Try.pinned (OpenSpec.upto cellCallsSpec)

/-- 'carillonlaw02.CellBoxes', WHERE WHAT IT READS IS OF BULK AT MOST 1048576: true; the input reads as it did. -/
def cellBoxesUptoRow : OpenClaim := { program := "ytofacoojpgkbiaa", sum := "1039e566fe8d1ffad8015de1593e89f32d2fd475bfcabd96d3bf07e39aed5bdb", func := "carillon/carillonlaw02.CellBoxes", spec := "cellBoxes", inPlace := ["sync/atomic.StoreInt64", "sync/atomic.StoreUint32", "sync/atomic.StorePointer", "sync/atomic.LoadInt64", "sync/atomic.AddInt64", "sync/atomic.SwapInt64", "sync/atomic.CompareAndSwapInt64", "sync/atomic.LoadUint32", "sync/atomic.SwapUint32", "sync/atomic.LoadPointer", "sync/atomic.SwapPointer", "sync/atomic.CompareAndSwapPointer"], unfollowed := true, recurses := true, leaving := true, apart := false, narrowed := true }
def CellBoxesUptoSaid : Prop := cellBoxesUptoRow.holds Try.pinned (OpenSpec.upto cellBoxesSpec)

/-- 'carillonlaw02.CellNone', WHERE WHAT IT READS IS OF BULK AT MOST 1048576: true; the input reads as it did. -/
def cellNoneUptoRow : OpenClaim := { program := "ytofacoojpgkbiaa", sum := "1039e566fe8d1ffad8015de1593e89f32d2fd475bfcabd96d3bf07e39aed5bdb", func := "carillon/carillonlaw02.CellNone", spec := "cellNone", inPlace := ["sync/atomic.StoreInt64", "sync/atomic.StoreUint32", "sync/atomic.StorePointer", "sync/atomic.LoadInt64", "sync/atomic.AddInt64", "sync/atomic.SwapInt64", "sync/atomic.CompareAndSwapInt64", "sync/atomic.LoadUint32", "sync/atomic.SwapUint32", "sync/atomic.LoadPointer", "sync/atomic.SwapPointer", "sync/atomic.CompareAndSwapPointer"], unfollowed := true, recurses := true, leaving := true, apart := false, narrowed := true }
def CellNoneUptoSaid : Prop := cellNoneUptoRow.holds Try.pinned (OpenSpec.upto cellNoneSpec)

/-- 'carillonlaw02.CellKeeps', WHERE WHAT IT READS IS OF BULK AT MOST 1048576: true; the input reads as it did. -/
def cellKeepsUptoRow : OpenClaim := { program := "ytofacoojpgkbiaa", sum := "1039e566fe8d1ffad8015de1593e89f32d2fd475bfcabd96d3bf07e39aed5bdb", func := "carillon/carillonlaw02.CellKeeps", spec := "cellKeeps", inPlace := ["sync/atomic.StoreInt64", "sync/atomic.StoreUint32", "sync/atomic.StorePointer", "sync/atomic.LoadInt64", "sync/atomic.AddInt64", "sync/atomic.SwapInt64", "sync/atomic.CompareAndSwapInt64", "sync/atomic.LoadUint32", "sync/atomic.SwapUint32", "sync/atomic.LoadPointer", "sync/atomic.SwapPointer", "sync/atomic.CompareAndSwapPointer"], unfollowed := true, recurses := true, leaving := true, apart := false, narrowed := true }
def CellKeepsUptoSaid : Prop := cellKeepsUptoRow.holds Try.pinned (OpenSpec.upto cellKeepsSpec)

/-- 'carillonlaw17.PoolPlays', WHERE WHAT IT READS IS OF BULK AT MOST 1048576: true; the input reads as it did. -/
def poolPlaysUptoRow : OpenClaim := { program := "ytofacoojpgkbiaa", sum := "1039e566fe8d1ffad8015de1593e89f32d2fd475bfcabd96d3bf07e39aed5bdb", func := "carillon/carillonlaw17.PoolPlays", spec := "poolPlays", inPlace := ["sync/atomic.StoreInt64", "sync/atomic.LoadPointer", "sync/atomic.CompareAndSwapPointer", "sync/atomic.LoadInt64", "sync/atomic.CompareAndSwapInt64", "sync/atomic.AddInt64"], unfollowed := true, recurses := true, leaving := true, apart := false, narrowed := true }
def PoolPlaysUptoSaid : Prop := poolPlaysUptoRow.holds Try.pinned (OpenSpec.upto poolPlaysSpec)

/-- 'carillonlaw17.PoolNone', WHERE WHAT IT READS IS OF BULK AT MOST 1048576: true; the input reads as it did. -/
def poolNoneUptoRow : OpenClaim := { program := "ytofacoojpgkbiaa", sum := "1039e566fe8d1ffad8015de1593e89f32d2fd475bfcabd96d3bf07e39aed5bdb", func := "carillon/carillonlaw17.PoolNone", spec := "poolNone", inPlace := ["sync/atomic.StoreInt64", "sync/atomic.LoadPointer", "sync/atomic.CompareAndSwapPointer", "sync/atomic.LoadInt64", "sync/atomic.CompareAndSwapInt64", "sync/atomic.AddInt64"], unfollowed := true, recurses := true, leaving := true, apart := false, narrowed := true }
def PoolNoneUptoSaid : Prop := poolNoneUptoRow.holds Try.pinned (OpenSpec.upto poolNoneSpec)

/-- 'carillonlaw17.PoolKeeps', WHERE WHAT IT READS IS OF BULK AT MOST 1048576: true; the input reads as it did. -/
def poolKeepsUptoRow : OpenClaim := { program := "ytofacoojpgkbiaa", sum := "1039e566fe8d1ffad8015de1593e89f32d2fd475bfcabd96d3bf07e39aed5bdb", func := "carillon/carillonlaw17.PoolKeeps", spec := "poolKeeps", inPlace := ["sync/atomic.StoreInt64", "sync/atomic.LoadPointer", "sync/atomic.CompareAndSwapPointer", "sync/atomic.LoadInt64", "sync/atomic.CompareAndSwapInt64", "sync/atomic.AddInt64"], unfollowed := true, recurses := true, leaving := true, apart := false, narrowed := true }
def PoolKeepsUptoSaid : Prop := poolKeepsUptoRow.holds Try.pinned (OpenSpec.upto poolKeepsSpec)

/-- 'carillonlaw17.PoolCalls', WHERE WHAT IT READS IS OF BULK AT MOST 1048576: true; the input reads as it did. -/
def poolCallsUptoRow : OpenClaim := { program := "ytofacoojpgkbiaa", sum := "1039e566fe8d1ffad8015de1593e89f32d2fd475bfcabd96d3bf07e39aed5bdb", func := "carillon/carillonlaw17.PoolCalls", spec := "poolCalls", inPlace := ["sync/atomic.StoreInt64", "sync/atomic.LoadPointer", "sync/atomic.CompareAndSwapPointer", "sync/atomic.LoadInt64", "sync/atomic.CompareAndSwapInt64", "sync/atomic.AddInt64"], unfollowed := true, recurses := true, leaving := true, apart := false, narrowed := true }
def PoolCallsUptoSaid : Prop := poolCallsUptoRow.holds Try.pinned (OpenSpec.upto poolCallsSpec)

end Rows
end Go.Proofs.Ytofacoojpgkbiaa
