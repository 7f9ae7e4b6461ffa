/-
  No cell of these rows narrows 'for every input' (looked for: loops, veiled, ifaces, maps, wideKeys, modest, calm, conditions, laid).
  DERIVED. THE GIVEN ROWS OF THIS SEAT. 6 by the template 'for every input the law returns true; each argument reads behind the call as it read before'; 0 by the template 'total and deterministic' (their statements: YtimkkeomdkbcjaaTotals.lean).
  GIVEN WITH THE SEED: the statements are not yours to turn. If you find one false, say at which input.
  Laid BY PROGRAM, IN A SANDBOX (cutbox-rows.mjs): the forced cells as the released guide's own fill.sh prints them over the translation 9709262d7ff72b0c… (all of the seat's roots in one cut). By AI agents, Wed Nov 11 2026. No macro, syntax, notation, axiom, sorry.
-/
import Derived.Test.YtimkkeomdkbcjaaChecked
import GoSem.Claim
import GoSem.ClaimJoined
import GoSem.ClaimMapViews
import Derived.JoinedTies
import Derived.KernelRfl
namespace Go.Proofs.Ytimkkeomdkbcjaa
/- THE CELL 'sum', in the pinned program and in every row, IS THE sha256 OF THE DUMP (.gsa) THAT YtimkkeomdkbcjaaProg.lean LOADS. Nothing in Lean hashes anything: it is a label: what it is worth is what the hold of that sum in a sandbox is worth. -/
noncomputable def Try.pinned : Pinned := { name := "ytimkkeomdkbcjaa", sum := "9709262d7ff72b0ca087bc8ba9f7f0e075c33fe48a1739944653de5e5f908c43", checked := Try.checked }
namespace Rows
def none {H : Type} : Left H := { results := [], args := [] }

/-- 'carillonlaw20.JudgeNames': WHATEVER THE INPUT: true; the input reads as it did. -/
def judgeNamesSpec : ChangeSpec := { name := "judgeNames", fn := fun _ => fun
  | [] => { results := [.lit (.bool true)], args := [] }
  | _ => none }
def judgeNamesRow : OpenClaim := { program := "ytimkkeomdkbcjaa", sum := "9709262d7ff72b0ca087bc8ba9f7f0e075c33fe48a1739944653de5e5f908c43", func := "carillon/carillonlaw20.JudgeNames", spec := "judgeNames", apart := false }
def JudgeNamesSaid : Prop := judgeNamesRow.holds Try.pinned (OpenSpec.ofChange judgeNamesSpec)

/-- ITS FALSE NEIGHBOUR: 'it returns false'. Refute it at one input. -/
def judgeNamesWrong : ChangeSpec := { name := "judgeNames", fn := fun _ => fun
  | [] => { results := [.lit (.bool false)], args := [] }
  | _ => none }
def JudgeNamesWrongFalsely : Prop := judgeNamesRow.holds Try.pinned (OpenSpec.ofChange judgeNamesWrong)

/-- 'carillonlaw15.BarrierOwn': WHATEVER THE INPUT: true; the input reads as it did. -/
def barrierOwnSpec : ChangeSpec := { name := "barrierOwn", fn := fun _ => fun
  | [d1, d2, d3, d4] => { results := [.lit (.bool true)], args := [d1, d2, d3, d4] }
  | _ => none }
def barrierOwnRow : OpenClaim := { program := "ytimkkeomdkbcjaa", sum := "9709262d7ff72b0ca087bc8ba9f7f0e075c33fe48a1739944653de5e5f908c43", func := "carillon/carillonlaw15.BarrierOwn", spec := "barrierOwn", inPlace := ["sync/atomic.LoadUint32"], unfollowed := true, recurses := true, leaving := true, apart := false }
def BarrierOwnSaid : Prop := barrierOwnRow.holds Try.pinned (OpenSpec.ofChange barrierOwnSpec)

/-- ITS FALSE NEIGHBOUR: 'it returns false'. Refute it at one input. -/
def barrierOwnWrong : ChangeSpec := { name := "barrierOwn", fn := fun _ => fun
  | [d1, d2, d3, d4] => { results := [.lit (.bool false)], args := [d1, d2, d3, d4] }
  | _ => none }
def BarrierOwnWrongFalsely : Prop := barrierOwnRow.holds Try.pinned (OpenSpec.ofChange barrierOwnWrong)

/-- 'carillonlaw15.BarrierAlarm': WHATEVER THE INPUT: true; the input reads as it did. -/
def barrierAlarmSpec : ChangeSpec := { name := "barrierAlarm", fn := fun _ => fun
  | [d1, d2, d3] => { results := [.lit (.bool true)], args := [d1, d2, d3] }
  | _ => none }
def barrierAlarmRow : OpenClaim := { program := "ytimkkeomdkbcjaa", sum := "9709262d7ff72b0ca087bc8ba9f7f0e075c33fe48a1739944653de5e5f908c43", func := "carillon/carillonlaw15.BarrierAlarm", spec := "barrierAlarm", inPlace := ["sync/atomic.LoadUint32", "sync/atomic.SwapUint32"], unfollowed := true, recurses := true, leaving := true, apart := false }
def BarrierAlarmSaid : Prop := barrierAlarmRow.holds Try.pinned (OpenSpec.ofChange barrierAlarmSpec)

/-- ITS FALSE NEIGHBOUR: 'it returns false'. Refute it at one input. -/
def barrierAlarmWrong : ChangeSpec := { name := "barrierAlarm", fn := fun _ => fun
  | [d1, d2, d3] => { results := [.lit (.bool false)], args := [d1, d2, d3] }
  | _ => none }
def BarrierAlarmWrongFalsely : Prop := barrierAlarmRow.holds Try.pinned (OpenSpec.ofChange barrierAlarmWrong)

/-- 'carillonlaw15.BarrierNone': WHATEVER THE INPUT: true; the input reads as it did. -/
def barrierNoneSpec : ChangeSpec := { name := "barrierNone", fn := fun _ => fun
  | [d1, d2, d3] => { results := [.lit (.bool true)], args := [d1, d2, d3] }
  | _ => none }
def barrierNoneRow : OpenClaim := { program := "ytimkkeomdkbcjaa", sum := "9709262d7ff72b0ca087bc8ba9f7f0e075c33fe48a1739944653de5e5f908c43", func := "carillon/carillonlaw15.BarrierNone", spec := "barrierNone", inPlace := ["sync/atomic.LoadUint32", "sync/atomic.SwapUint32"], unfollowed := true, recurses := true, leaving := true, apart := false }
def BarrierNoneSaid : Prop := barrierNoneRow.holds Try.pinned (OpenSpec.ofChange barrierNoneSpec)

/-- ITS FALSE NEIGHBOUR: 'it returns false'. Refute it at one input. -/
def barrierNoneWrong : ChangeSpec := { name := "barrierNone", fn := fun _ => fun
  | [d1, d2, d3] => { results := [.lit (.bool false)], args := [d1, d2, d3] }
  | _ => none }
def BarrierNoneWrongFalsely : Prop := barrierNoneRow.holds Try.pinned (OpenSpec.ofChange barrierNoneWrong)

/-- 'carillonlaw15.BarrierPlays': WHATEVER THE INPUT: true; the input reads as it did. -/
def barrierPlaysSpec : ChangeSpec := { name := "barrierPlays", fn := fun _ => fun
  | [d] => { results := [.lit (.bool true)], args := [d] }
  | _ => none }
def barrierPlaysRow : OpenClaim := { program := "ytimkkeomdkbcjaa", sum := "9709262d7ff72b0ca087bc8ba9f7f0e075c33fe48a1739944653de5e5f908c43", func := "carillon/carillonlaw15.BarrierPlays", spec := "barrierPlays", inPlace := ["sync/atomic.LoadUint32", "sync/atomic.StoreInt64", "sync/atomic.SwapUint32", "sync/atomic.AddInt64", "sync/atomic.LoadInt64"], unfollowed := true, recurses := true, leaving := true, apart := false }
def BarrierPlaysSaid : Prop := barrierPlaysRow.holds Try.pinned (OpenSpec.ofChange barrierPlaysSpec)

/-- ITS FALSE NEIGHBOUR: 'it returns false'. Refute it at one input. -/
def barrierPlaysWrong : ChangeSpec := { name := "barrierPlays", fn := fun _ => fun
  | [d] => { results := [.lit (.bool false)], args := [d] }
  | _ => none }
def BarrierPlaysWrongFalsely : Prop := barrierPlaysRow.holds Try.pinned (OpenSpec.ofChange barrierPlaysWrong)

/-- 'carillonlaw15.BarrierFar': WHATEVER THE INPUT: true; the input reads as it did. -/
def barrierFarSpec : ChangeSpec := { name := "barrierFar", fn := fun _ => fun
  | [d1, d2, d3] => { results := [.lit (.bool true)], args := [d1, d2, d3] }
  | _ => none }
def barrierFarRow : OpenClaim := { program := "ytimkkeomdkbcjaa", sum := "9709262d7ff72b0ca087bc8ba9f7f0e075c33fe48a1739944653de5e5f908c43", func := "carillon/carillonlaw15.BarrierFar", spec := "barrierFar", inPlace := ["sync/atomic.LoadUint32", "sync/atomic.StoreInt64", "sync/atomic.SwapUint32", "sync/atomic.AddInt64", "sync/atomic.LoadInt64"], unfollowed := true, recurses := true, leaving := true, apart := false }
def BarrierFarSaid : Prop := barrierFarRow.holds Try.pinned (OpenSpec.ofChange barrierFarSpec)

/-- ITS FALSE NEIGHBOUR: 'it returns false'. Refute it at one input. -/
def barrierFarWrong : ChangeSpec := { name := "barrierFar", fn := fun _ => fun
  | [d1, d2, d3] => { results := [.lit (.bool false)], args := [d1, d2, d3] }
  | _ => none }
def BarrierFarWrongFalsely : Prop := barrierFarRow.holds Try.pinned (OpenSpec.ofChange barrierFarWrong)

/- THE SECOND FORM. 'bulk': how many values and letters a reading holds, each counted each time it is reached (what is shared counts as often as it is met; a slice's spare places count too). A statement '..UptoSaid' is the law's where the arguments, and the package variables that the reading takes, are together of bulk at most 1048576: NARROWER than '..Said'. Prove '..Said' where nothing that the law and all that it calls make is longer than what came in: it says more and counts as full. Else prove '..UptoSaid'. A law counts once. -/
mutual
def uptoBulk {H : Type} : DataW H → Nat
  | .lit (.string bytes) => bytes.length + 1
  | .lit _ => 1
  | .nil => 1
  | .ptr d => uptoBulk d + 1
  | .slice elems spare => uptoBulkAll elems + uptoBulkAll spare + 1
  | .agg parts => uptoBulkAll parts + 1
  | .iface _ d => uptoBulk d + 1
  | .map entries => uptoBulkEntries entries + 1
  | .held _ => 1
def uptoBulkAll {H : Type} : List (DataW H) → Nat
  | [] => 0
  | d :: r => uptoBulk d + uptoBulkAll r
def uptoBulkEntries {H : Type} : List (Lit × DataW H) → Nat
  | [] => 0
  | x :: r => uptoBulkEntry x + uptoBulkEntries r
def uptoBulkEntry {H : Type} : Lit × DataW H → Nat
  | (.string bytes, d) => bytes.length + uptoBulk d + 1
  | (_, d) => uptoBulk d + 1
 end
def uptoSmall : (H : Type) → List (DataW H) → Bool := fun _ ds => decide (uptoBulkAll ds ≤ 1048576)
def OpenSpec.upto (s : _root_.Go.ChangeSpec) : _root_.Go.OpenSpec := { _root_.Go.OpenSpec.ofChange s with cond := some uptoSmall }

/-- 'carillonlaw20.JudgeNames', WHERE WHAT IT READS IS OF BULK AT MOST 1048576: true; the input reads as it did. -/
def judgeNamesUptoRow : OpenClaim := { program := "ytimkkeomdkbcjaa", sum := "9709262d7ff72b0ca087bc8ba9f7f0e075c33fe48a1739944653de5e5f908c43", func := "carillon/carillonlaw20.JudgeNames", spec := "judgeNames", apart := false, narrowed := true }
def JudgeNamesUptoSaid : Prop := judgeNamesUptoRow.holds Try.pinned (OpenSpec.upto judgeNamesSpec)

/-- 'carillonlaw15.BarrierOwn', WHERE WHAT IT READS IS OF BULK AT MOST 1048576: true; the input reads as it did. -/
def barrierOwnUptoRow : OpenClaim := { program := "ytimkkeomdkbcjaa", sum := "9709262d7ff72b0ca087bc8ba9f7f0e075c33fe48a1739944653de5e5f908c43", func := "carillon/carillonlaw15.BarrierOwn", spec := "barrierOwn", inPlace := ["sync/atomic.LoadUint32"], unfollowed := true, recurses := true, leaving := true, apart := false, narrowed := true }
def BarrierOwnUptoSaid : Prop := barrierOwnUptoRow.holds Try.pinned (OpenSpec.upto barrierOwnSpec)

/-- 'carillonlaw15.BarrierAlarm', WHERE WHAT IT READS IS OF BULK AT MOST 1048576: true; the input reads as it did. -/
def barrierAlarmUptoRow : OpenClaim := { program := "ytimkkeomdkbcjaa", sum := "9709262d7ff72b0ca087bc8ba9f7f0e075c33fe48a1739944653de5e5f908c43", func := "carillon/carillonlaw15.BarrierAlarm", spec := "barrierAlarm", inPlace := ["sync/atomic.LoadUint32", "sync/atomic.SwapUint32"], unfollowed := true, recurses := true, leaving := true, apart := false, narrowed := true }
def BarrierAlarmUptoSaid : Prop := barrierAlarmUptoRow.holds Try.pinned (OpenSpec.upto barrierAlarmSpec)

/-- 'carillonlaw15.BarrierNone', WHERE WHAT IT READS IS OF BULK AT MOST 1048576: true; the input reads as it did. -/
def barrierNoneUptoRow : OpenClaim := { program := "ytimkkeomdkbcjaa", sum := "9709262d7ff72b0ca087bc8ba9f7f0e075c33fe48a1739944653de5e5f908c43", func := "carillon/carillonlaw15.BarrierNone", spec := "barrierNone", inPlace := ["sync/atomic.LoadUint32", "sync/atomic.SwapUint32"], unfollowed := true, recurses := true, leaving := true, apart := false, narrowed := true }
def BarrierNoneUptoSaid : Prop := barrierNoneUptoRow.holds Try.pinned (OpenSpec.upto barrierNoneSpec)

/-- 'carillonlaw15.BarrierPlays', WHERE WHAT IT READS IS OF BULK AT MOST 1048576: true; the input reads as it did. -/
def barrierPlaysUptoRow : OpenClaim := { program := "ytimkkeomdkbcjaa", sum := "9709262d7ff72b0ca087bc8ba9f7f0e075c33fe48a1739944653de5e5f908c43", func := "carillon/carillonlaw15.BarrierPlays", spec := "barrierPlays", inPlace := ["sync/atomic.LoadUint32", "sync/atomic.StoreInt64", "sync/atomic.SwapUint32", "sync/atomic.AddInt64", "sync/atomic.LoadInt64"], unfollowed := true, recurses := true, leaving := true, apart := false, narrowed := true }
def BarrierPlaysUptoSaid : Prop := barrierPlaysUptoRow.holds Try.pinned (OpenSpec.upto barrierPlaysSpec)

/-- 'carillonlaw15.BarrierFar', WHERE WHAT IT READS IS OF BULK AT MOST 1048576: true; the input reads as it did. -/
def barrierFarUptoRow : OpenClaim := { program := "ytimkkeomdkbcjaa", sum := "9709262d7ff72b0ca087bc8ba9f7f0e075c33fe48a1739944653de5e5f908c43", func := "carillon/carillonlaw15.BarrierFar", spec := "barrierFar", inPlace := ["sync/atomic.LoadUint32", "sync/atomic.StoreInt64", "sync/atomic.SwapUint32", "sync/atomic.AddInt64", "sync/atomic.LoadInt64"], unfollowed := true, recurses := true, leaving := true, apart := false, narrowed := true }
def BarrierFarUptoSaid : Prop := barrierFarUptoRow.holds Try.pinned (OpenSpec.upto barrierFarSpec)

end Rows
end Go.Proofs.Ytimkkeomdkbcjaa
