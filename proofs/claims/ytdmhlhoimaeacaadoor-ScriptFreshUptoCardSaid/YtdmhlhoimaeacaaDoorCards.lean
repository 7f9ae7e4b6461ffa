/-
  DERIVED. GIVEN WITH THE SEED: THE CARDS: each row of YtdmhlhoimaeacaaDoorRows.lean that lists a variable, with what it lists TIED to the program's text (the seventh form; the later family's looks); each row that meets fmt, with fmt's text TOLD by the authors' own Lean function (tested against real Go, not proved from fmt's source: count such statements apart). THE CARD IS WHAT COUNTS. Prove the row's statement (the work); the ties are given (YtdmhlhoimaeacaaDoorTie.lean); close each card by the builder's one call (the guide's Derived/Test/ToyasCard.lean, 'card_holds'). Laid BY PROGRAM, IN A SANDBOX (cutbox-door.mjs). By AI agents, Wed Nov 11 2026. No macro, syntax, notation, axiom, sorry.
-/
import Derived.Test.YtdmhlhoimaeacaaDoorRows
import GoSem.ClaimSeven
namespace Go.Proofs.YtdmhlhoimaeacaaDoor
namespace Rows

/-- THE TIED CARD OF 'carillonlaw21.ScriptParses'. -/
def scriptParsesCard : Claim7 := { stood := { row := scriptParsesRow, standIns := [], harness := (true, "5042b98bfa5156fe02518e516a604f0ee1b70fd6b4a2281313b92d7545877d28"), looks := true }, kinds := [], alts := [], laidByText := true, laidKinds := [.data, .data, .data, .sentinel, .sentinel], laidTests := true, laidLooks := .later }
def ScriptParsesCardSaid : Prop := Claim7.holds Tryd.pinned (.plain (OpenSpec.ofChange scriptParsesSpec)) scriptParsesCard

/-- THE TIED CARD OF 'carillonlaw21.ScriptLines'. -/
def scriptLinesCard : Claim7 := { stood := { row := scriptLinesRow, standIns := [], harness := (true, "5042b98bfa5156fe02518e516a604f0ee1b70fd6b4a2281313b92d7545877d28"), looks := true }, kinds := [], alts := [], laidByText := true, laidKinds := [.data, .data, .data, .sentinel, .sentinel], laidTests := true, laidLooks := .later }
def ScriptLinesCardSaid : Prop := Claim7.holds Tryd.pinned (.plain (OpenSpec.ofChange scriptLinesSpec)) scriptLinesCard

/-- THE TIED CARD OF 'carillonlaw21.ScriptPrints'. -/
def scriptPrintsCard : Claim7 := { stood := { row := scriptPrintsRow, standIns := [], harness := (true, "5042b98bfa5156fe02518e516a604f0ee1b70fd6b4a2281313b92d7545877d28"), looks := true }, kinds := [], alts := [], laidByText := true, laidKinds := [.data, .data, .data, .sentinel, .sentinel], laidTests := true, laidLooks := .later }
def ScriptPrintsCardSaid : Prop := Claim7.holds Tryd.pinned (.plain (OpenSpec.ofChange scriptPrintsSpec)) scriptPrintsCard

/-- THE TIED CARD OF 'carillonlaw21.ScriptSames'. -/
def scriptSamesCard : Claim7 := { stood := { row := scriptSamesRow, standIns := [], harness := (true, "5042b98bfa5156fe02518e516a604f0ee1b70fd6b4a2281313b92d7545877d28"), looks := true }, kinds := [], alts := [], laidByText := true, laidKinds := [.data, .data, .data, .sentinel, .sentinel], laidTests := true, laidLooks := .later }
def ScriptSamesCardSaid : Prop := Claim7.holds Tryd.pinned (.plain (OpenSpec.ofChange scriptSamesSpec)) scriptSamesCard

/-- THE TIED CARD OF 'carillonlaw21.ScriptBack'. -/
def scriptBackCard : Claim7 := { stood := { row := scriptBackRow, standIns := [], harness := (true, "5042b98bfa5156fe02518e516a604f0ee1b70fd6b4a2281313b92d7545877d28"), looks := true }, kinds := [], alts := [], laidByText := true, laidKinds := [.data, .data, .data, .sentinel, .sentinel], laidTests := true, laidLooks := .later }
def ScriptBackCardSaid : Prop := Claim7.holds Tryd.pinned (.plain (OpenSpec.ofChange scriptBackSpec)) scriptBackCard

/-- THE TIED CARD OF 'carillonlaw21.ScriptForms'. -/
def scriptFormsCard : Claim7 := { stood := { row := scriptFormsRow, standIns := [], harness := (true, "5042b98bfa5156fe02518e516a604f0ee1b70fd6b4a2281313b92d7545877d28"), looks := true }, kinds := [], alts := [], laidByText := true, laidKinds := [.data, .data, .data, .sentinel, .sentinel], laidTests := true, laidLooks := .later }
def ScriptFormsCardSaid : Prop := Claim7.holds Tryd.pinned (.plain (OpenSpec.ofChange scriptFormsSpec)) scriptFormsCard

/-- THE TIED CARD OF 'carillonlaw21.ScriptFresh'. -/
def scriptFreshCard : Claim7 := { stood := { row := scriptFreshRow, standIns := [], harness := (true, "5042b98bfa5156fe02518e516a604f0ee1b70fd6b4a2281313b92d7545877d28"), looks := true }, kinds := [], alts := [], laidByText := true, laidKinds := [.data, .data, .data, .sentinel, .sentinel], laidTests := true, laidLooks := .later }
def ScriptFreshCardSaid : Prop := Claim7.holds Tryd.pinned (.plain (OpenSpec.ofChange scriptFreshSpec)) scriptFreshCard

/-- THE SECOND FORM's CARD OF 'carillonlaw21.ScriptParses'. -/
def scriptParsesUptoCard : Claim7 := { stood := { row := scriptParsesUptoRow, standIns := [], harness := (true, "5042b98bfa5156fe02518e516a604f0ee1b70fd6b4a2281313b92d7545877d28"), looks := true }, kinds := [], alts := [], laidByText := true, laidKinds := [.data, .data, .data, .sentinel, .sentinel], laidTests := true, laidLooks := .later }
def ScriptParsesUptoCardSaid : Prop := Claim7.holds Tryd.pinned (.plain (OpenSpec.upto scriptParsesSpec)) scriptParsesUptoCard

/-- THE SECOND FORM's CARD OF 'carillonlaw21.ScriptLines'. -/
def scriptLinesUptoCard : Claim7 := { stood := { row := scriptLinesUptoRow, standIns := [], harness := (true, "5042b98bfa5156fe02518e516a604f0ee1b70fd6b4a2281313b92d7545877d28"), looks := true }, kinds := [], alts := [], laidByText := true, laidKinds := [.data, .data, .data, .sentinel, .sentinel], laidTests := true, laidLooks := .later }
def ScriptLinesUptoCardSaid : Prop := Claim7.holds Tryd.pinned (.plain (OpenSpec.upto scriptLinesSpec)) scriptLinesUptoCard

/-- THE SECOND FORM's CARD OF 'carillonlaw21.ScriptPrints'. -/
def scriptPrintsUptoCard : Claim7 := { stood := { row := scriptPrintsUptoRow, standIns := [], harness := (true, "5042b98bfa5156fe02518e516a604f0ee1b70fd6b4a2281313b92d7545877d28"), looks := true }, kinds := [], alts := [], laidByText := true, laidKinds := [.data, .data, .data, .sentinel, .sentinel], laidTests := true, laidLooks := .later }
def ScriptPrintsUptoCardSaid : Prop := Claim7.holds Tryd.pinned (.plain (OpenSpec.upto scriptPrintsSpec)) scriptPrintsUptoCard

/-- THE SECOND FORM's CARD OF 'carillonlaw21.ScriptSames'. -/
def scriptSamesUptoCard : Claim7 := { stood := { row := scriptSamesUptoRow, standIns := [], harness := (true, "5042b98bfa5156fe02518e516a604f0ee1b70fd6b4a2281313b92d7545877d28"), looks := true }, kinds := [], alts := [], laidByText := true, laidKinds := [.data, .data, .data, .sentinel, .sentinel], laidTests := true, laidLooks := .later }
def ScriptSamesUptoCardSaid : Prop := Claim7.holds Tryd.pinned (.plain (OpenSpec.upto scriptSamesSpec)) scriptSamesUptoCard

/-- THE SECOND FORM's CARD OF 'carillonlaw21.ScriptBack'. -/
def scriptBackUptoCard : Claim7 := { stood := { row := scriptBackUptoRow, standIns := [], harness := (true, "5042b98bfa5156fe02518e516a604f0ee1b70fd6b4a2281313b92d7545877d28"), looks := true }, kinds := [], alts := [], laidByText := true, laidKinds := [.data, .data, .data, .sentinel, .sentinel], laidTests := true, laidLooks := .later }
def ScriptBackUptoCardSaid : Prop := Claim7.holds Tryd.pinned (.plain (OpenSpec.upto scriptBackSpec)) scriptBackUptoCard

/-- THE SECOND FORM's CARD OF 'carillonlaw21.ScriptForms'. -/
def scriptFormsUptoCard : Claim7 := { stood := { row := scriptFormsUptoRow, standIns := [], harness := (true, "5042b98bfa5156fe02518e516a604f0ee1b70fd6b4a2281313b92d7545877d28"), looks := true }, kinds := [], alts := [], laidByText := true, laidKinds := [.data, .data, .data, .sentinel, .sentinel], laidTests := true, laidLooks := .later }
def ScriptFormsUptoCardSaid : Prop := Claim7.holds Tryd.pinned (.plain (OpenSpec.upto scriptFormsSpec)) scriptFormsUptoCard

/-- THE SECOND FORM's CARD OF 'carillonlaw21.ScriptFresh'. -/
def scriptFreshUptoCard : Claim7 := { stood := { row := scriptFreshUptoRow, standIns := [], harness := (true, "5042b98bfa5156fe02518e516a604f0ee1b70fd6b4a2281313b92d7545877d28"), looks := true }, kinds := [], alts := [], laidByText := true, laidKinds := [.data, .data, .data, .sentinel, .sentinel], laidTests := true, laidLooks := .later }
def ScriptFreshUptoCardSaid : Prop := Claim7.holds Tryd.pinned (.plain (OpenSpec.upto scriptFreshSpec)) scriptFreshUptoCard
end Rows
end Go.Proofs.YtdmhlhoimaeacaaDoor
