/-
  DERIVED. GIVEN WITH THE SEED: THE CARDS: each row of YtfcaebceklhbkaaDoorRows.lean that lists a variable, with what it lists TIED to the program's text (the seventh form; the later family's looks); each row that meets fmt, with fmt's text TOLD by the authors' own Lean function (tested against real Go, not proved from fmt's source: count such statements apart). THE CARD IS WHAT COUNTS. Prove the row's statement (the work); the ties are given (YtfcaebceklhbkaaDoorTie.lean); close each card by the builder's one call (the guide's Derived/Test/ToyasCard.lean, 'card_holds'). Laid BY PROGRAM, IN A SANDBOX (cutbox-door.mjs). By AI agents, Wed Nov 11 2026. No macro, syntax, notation, axiom, sorry.
-/
import Derived.Test.YtfcaebceklhbkaaDoorRows
import GoSem.ClaimSeven
namespace Go.Proofs.YtfcaebceklhbkaaDoor
namespace Rows

/-- THE TIED CARD OF 'carillonlaw20.JudgeDoes'. -/
def judgeDoesCard : Claim7 := { stood := { row := judgeDoesRow, standIns := [], harness := (true, "dc709be27db00ff7b267f03ccb74642034388b90597d1ab851d6475962be7a5a"), looks := false }, kinds := [], alts := [], laidByText := true, laidKinds := [.data, .data, .data], laidTests := true, laidLooks := .later }
def JudgeDoesCardSaid : Prop := Claim7.holds Tryd.pinned (.plain (OpenSpec.ofChange judgeDoesSpec)) judgeDoesCard

/-- THE TIED CARD OF 'carillonlaw20.JudgeLinear'. -/
def judgeLinearCard : Claim7 := { stood := { row := judgeLinearRow, standIns := [], harness := (true, "dc709be27db00ff7b267f03ccb74642034388b90597d1ab851d6475962be7a5a"), looks := false }, kinds := [], alts := [], laidByText := true, laidKinds := [.data, .data, .data], laidTests := true, laidLooks := .later }
def JudgeLinearCardSaid : Prop := Claim7.holds Tryd.pinned (.plain (OpenSpec.ofChange judgeLinearSpec)) judgeLinearCard

/-- THE TIED CARD OF 'carillonlaw20.JudgeFollows'. -/
def judgeFollowsCard : Claim7 := { stood := { row := judgeFollowsRow, standIns := [], harness := (true, "dc709be27db00ff7b267f03ccb74642034388b90597d1ab851d6475962be7a5a"), looks := false }, kinds := [], alts := [], laidByText := true, laidKinds := [.data, .data, .data], laidTests := true, laidLooks := .later }
def JudgeFollowsCardSaid : Prop := Claim7.holds Tryd.pinned (.plain (OpenSpec.ofChange judgeFollowsSpec)) judgeFollowsCard

/-- THE TIED CARD OF 'carillonlaw20.JudgeTrue'. -/
def judgeTrueCard : Claim7 := { stood := { row := judgeTrueRow, standIns := [], harness := (true, "dc709be27db00ff7b267f03ccb74642034388b90597d1ab851d6475962be7a5a"), looks := false }, kinds := [], alts := [], laidByText := true, laidKinds := [.data, .data, .data], laidTests := true, laidLooks := .later }
def JudgeTrueCardSaid : Prop := Claim7.holds Tryd.pinned (.plain (OpenSpec.ofChange judgeTrueSpec)) judgeTrueCard

/-- THE TIED CARD OF 'carillonlaw20.JudgeLeast'. -/
def judgeLeastCard : Claim7 := { stood := { row := judgeLeastRow, standIns := [], harness := (true, "dc709be27db00ff7b267f03ccb74642034388b90597d1ab851d6475962be7a5a"), looks := false }, kinds := [], alts := [], laidByText := true, laidKinds := [.data, .data, .data], laidTests := true, laidLooks := .later }
def JudgeLeastCardSaid : Prop := Claim7.holds Tryd.pinned (.plain (OpenSpec.ofChange judgeLeastSpec)) judgeLeastCard

/-- THE TIED CARD OF 'carillonlaw20.JudgeReads'. -/
def judgeReadsCard : Claim7 := { stood := { row := judgeReadsRow, standIns := [], harness := (true, "dc709be27db00ff7b267f03ccb74642034388b90597d1ab851d6475962be7a5a"), looks := false }, kinds := [], alts := [], laidByText := true, laidKinds := [.data, .data, .data], laidTests := true, laidLooks := .later }
def JudgeReadsCardSaid : Prop := Claim7.holds Tryd.pinned (.plain (OpenSpec.ofChange judgeReadsSpec)) judgeReadsCard

/-- THE TIED CARD OF 'carillonlaw20.JudgeClean'. -/
def judgeCleanCard : Claim7 := { stood := { row := judgeCleanRow, standIns := [], harness := (true, "dc709be27db00ff7b267f03ccb74642034388b90597d1ab851d6475962be7a5a"), looks := false }, kinds := [], alts := [], laidByText := true, laidKinds := [.data, .data, .data], laidTests := true, laidLooks := .later }
def JudgeCleanCardSaid : Prop := Claim7.holds Tryd.pinned (.plain (OpenSpec.ofChange judgeCleanSpec)) judgeCleanCard

/-- THE TIED CARD OF 'carillonlaw20.JudgeKeeps'. -/
def judgeKeepsCard : Claim7 := { stood := { row := judgeKeepsRow, standIns := [], harness := (true, "dc709be27db00ff7b267f03ccb74642034388b90597d1ab851d6475962be7a5a"), looks := false }, kinds := [], alts := [], laidByText := true, laidKinds := [.data, .data, .data], laidTests := true, laidLooks := .later }
def JudgeKeepsCardSaid : Prop := Claim7.holds Tryd.pinned (.plain (OpenSpec.ofChange judgeKeepsSpec)) judgeKeepsCard

/-- THE SECOND FORM's CARD OF 'carillonlaw20.JudgeDoes'. -/
def judgeDoesUptoCard : Claim7 := { stood := { row := judgeDoesUptoRow, standIns := [], harness := (true, "dc709be27db00ff7b267f03ccb74642034388b90597d1ab851d6475962be7a5a"), looks := false }, kinds := [], alts := [], laidByText := true, laidKinds := [.data, .data, .data], laidTests := true, laidLooks := .later }
def JudgeDoesUptoCardSaid : Prop := Claim7.holds Tryd.pinned (.plain (OpenSpec.upto judgeDoesSpec)) judgeDoesUptoCard

/-- THE SECOND FORM's CARD OF 'carillonlaw20.JudgeLinear'. -/
def judgeLinearUptoCard : Claim7 := { stood := { row := judgeLinearUptoRow, standIns := [], harness := (true, "dc709be27db00ff7b267f03ccb74642034388b90597d1ab851d6475962be7a5a"), looks := false }, kinds := [], alts := [], laidByText := true, laidKinds := [.data, .data, .data], laidTests := true, laidLooks := .later }
def JudgeLinearUptoCardSaid : Prop := Claim7.holds Tryd.pinned (.plain (OpenSpec.upto judgeLinearSpec)) judgeLinearUptoCard

/-- THE SECOND FORM's CARD OF 'carillonlaw20.JudgeFollows'. -/
def judgeFollowsUptoCard : Claim7 := { stood := { row := judgeFollowsUptoRow, standIns := [], harness := (true, "dc709be27db00ff7b267f03ccb74642034388b90597d1ab851d6475962be7a5a"), looks := false }, kinds := [], alts := [], laidByText := true, laidKinds := [.data, .data, .data], laidTests := true, laidLooks := .later }
def JudgeFollowsUptoCardSaid : Prop := Claim7.holds Tryd.pinned (.plain (OpenSpec.upto judgeFollowsSpec)) judgeFollowsUptoCard

/-- THE SECOND FORM's CARD OF 'carillonlaw20.JudgeTrue'. -/
def judgeTrueUptoCard : Claim7 := { stood := { row := judgeTrueUptoRow, standIns := [], harness := (true, "dc709be27db00ff7b267f03ccb74642034388b90597d1ab851d6475962be7a5a"), looks := false }, kinds := [], alts := [], laidByText := true, laidKinds := [.data, .data, .data], laidTests := true, laidLooks := .later }
def JudgeTrueUptoCardSaid : Prop := Claim7.holds Tryd.pinned (.plain (OpenSpec.upto judgeTrueSpec)) judgeTrueUptoCard

/-- THE SECOND FORM's CARD OF 'carillonlaw20.JudgeLeast'. -/
def judgeLeastUptoCard : Claim7 := { stood := { row := judgeLeastUptoRow, standIns := [], harness := (true, "dc709be27db00ff7b267f03ccb74642034388b90597d1ab851d6475962be7a5a"), looks := false }, kinds := [], alts := [], laidByText := true, laidKinds := [.data, .data, .data], laidTests := true, laidLooks := .later }
def JudgeLeastUptoCardSaid : Prop := Claim7.holds Tryd.pinned (.plain (OpenSpec.upto judgeLeastSpec)) judgeLeastUptoCard

/-- THE SECOND FORM's CARD OF 'carillonlaw20.JudgeReads'. -/
def judgeReadsUptoCard : Claim7 := { stood := { row := judgeReadsUptoRow, standIns := [], harness := (true, "dc709be27db00ff7b267f03ccb74642034388b90597d1ab851d6475962be7a5a"), looks := false }, kinds := [], alts := [], laidByText := true, laidKinds := [.data, .data, .data], laidTests := true, laidLooks := .later }
def JudgeReadsUptoCardSaid : Prop := Claim7.holds Tryd.pinned (.plain (OpenSpec.upto judgeReadsSpec)) judgeReadsUptoCard

/-- THE SECOND FORM's CARD OF 'carillonlaw20.JudgeClean'. -/
def judgeCleanUptoCard : Claim7 := { stood := { row := judgeCleanUptoRow, standIns := [], harness := (true, "dc709be27db00ff7b267f03ccb74642034388b90597d1ab851d6475962be7a5a"), looks := false }, kinds := [], alts := [], laidByText := true, laidKinds := [.data, .data, .data], laidTests := true, laidLooks := .later }
def JudgeCleanUptoCardSaid : Prop := Claim7.holds Tryd.pinned (.plain (OpenSpec.upto judgeCleanSpec)) judgeCleanUptoCard

/-- THE SECOND FORM's CARD OF 'carillonlaw20.JudgeKeeps'. -/
def judgeKeepsUptoCard : Claim7 := { stood := { row := judgeKeepsUptoRow, standIns := [], harness := (true, "dc709be27db00ff7b267f03ccb74642034388b90597d1ab851d6475962be7a5a"), looks := false }, kinds := [], alts := [], laidByText := true, laidKinds := [.data, .data, .data], laidTests := true, laidLooks := .later }
def JudgeKeepsUptoCardSaid : Prop := Claim7.holds Tryd.pinned (.plain (OpenSpec.upto judgeKeepsSpec)) judgeKeepsUptoCard
end Rows
end Go.Proofs.YtfcaebceklhbkaaDoor
