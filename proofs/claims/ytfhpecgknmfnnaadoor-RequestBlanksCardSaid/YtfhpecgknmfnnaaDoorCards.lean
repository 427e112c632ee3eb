/-
  DERIVED. GIVEN WITH THE SEED: THE CARDS: each row of YtfhpecgknmfnnaaDoorRows.lean that lists a variable, with what it lists TIED to the program's text (the seventh form; the later family's looks); each row that meets fmt, with fmt's text TOLD by the authors' own Lean function (tested against real Go, not proved from fmt's source: count such statements apart). THE CARD IS WHAT COUNTS. Prove the row's statement (the work); the ties are given (YtfhpecgknmfnnaaDoorTie.lean); close each card by the builder's one call (the guide's Derived/Test/ToyasCard.lean, 'card_holds'). Laid BY PROGRAM, IN A SANDBOX (cutbox-door.mjs). By AI agents, Wed Nov 11 2026. No macro, syntax, notation, axiom, sorry.
-/
import Derived.Test.YtfhpecgknmfnnaaDoorRows
import GoSem.ClaimSeven
namespace Go.Proofs.YtfhpecgknmfnnaaDoor
namespace Rows

/-- THE TIED CARD OF 'mandatelaw22.RequestBack'. -/
def requestBackCard : Claim7 := { stood := { row := requestBackRow, standIns := [], harness := (true, "3dcb93364de4dc18e4b0ec725aa35b825f1abdf9b0661cc3b8281505fc897699"), looks := true }, kinds := [], alts := [], laidByText := true, laidKinds := [.data, .data, .data], laidTests := true, laidLooks := .later }
def RequestBackCardSaid : Prop := Claim7.holds Tryd.pinned (.plain (OpenSpec.ofChange requestBackSpec)) requestBackCard

/-- THE TIED CARD OF 'mandatelaw22.RequestBlanks'. -/
def requestBlanksCard : Claim7 := { stood := { row := requestBlanksRow, standIns := [], harness := (true, "3dcb93364de4dc18e4b0ec725aa35b825f1abdf9b0661cc3b8281505fc897699"), looks := true }, kinds := [], alts := [], laidByText := true, laidKinds := [.data, .data, .data], laidTests := true, laidLooks := .later }
def RequestBlanksCardSaid : Prop := Claim7.holds Tryd.pinned (.plain (OpenSpec.ofChange requestBlanksSpec)) requestBlanksCard

/-- THE SECOND FORM's CARD OF 'mandatelaw22.RequestBack'. -/
def requestBackUptoCard : Claim7 := { stood := { row := requestBackUptoRow, standIns := [], harness := (true, "3dcb93364de4dc18e4b0ec725aa35b825f1abdf9b0661cc3b8281505fc897699"), looks := true }, kinds := [], alts := [], laidByText := true, laidKinds := [.data, .data, .data], laidTests := true, laidLooks := .later }
def RequestBackUptoCardSaid : Prop := Claim7.holds Tryd.pinned (.plain (OpenSpec.upto requestBackSpec)) requestBackUptoCard

/-- THE SECOND FORM's CARD OF 'mandatelaw22.RequestBlanks'. -/
def requestBlanksUptoCard : Claim7 := { stood := { row := requestBlanksUptoRow, standIns := [], harness := (true, "3dcb93364de4dc18e4b0ec725aa35b825f1abdf9b0661cc3b8281505fc897699"), looks := true }, kinds := [], alts := [], laidByText := true, laidKinds := [.data, .data, .data], laidTests := true, laidLooks := .later }
def RequestBlanksUptoCardSaid : Prop := Claim7.holds Tryd.pinned (.plain (OpenSpec.upto requestBlanksSpec)) requestBlanksUptoCard
end Rows
end Go.Proofs.YtfhpecgknmfnnaaDoor
