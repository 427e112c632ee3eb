/-
  DERIVED. GIVEN WITH THE SEED: THE CARDS: each row of YtfhpecgknmfnnaaGreatDoorRows.lean that lists a variable, with what it lists TIED to the program's text (the seventh form; the later family's looks); each row that meets fmt, with fmt's text TOLD by the authors' own Lean function (tested against real Go, not proved from fmt's source: count such statements apart). THE CARD IS WHAT COUNTS. Prove the row's statement (the work); the ties are given (YtfhpecgknmfnnaaGreatDoorTie.lean); close each card by the builder's one call (the guide's Derived/Test/ToyasCard.lean, 'card_holds'). Laid BY PROGRAM, IN A SANDBOX (cutbox-door.mjs). By AI agents, Wed Nov 11 2026. No macro, syntax, notation, axiom, sorry.
-/
import Derived.Test.YtfhpecgknmfnnaaGreatDoorRows
import GoSem.ClaimSeven
namespace Go.Proofs.YtfhpecgknmfnnaaGreatDoor
namespace Rows

/-- THE TIED CARD OF 'mandatelaw22.RequestParses'. -/
def requestParsesCard : Claim7 := { stood := { row := requestParsesRow, standIns := [], harness := (true, "b6c24ff3b3e81b69213ce59cdb2bb05ba9874eda8ef2688d3b5d4f73a8ce7f22"), looks := true }, kinds := [], alts := [], laidByText := true, laidKinds := [.data, .data, .data], laidTests := true, laidLooks := .later }
def RequestParsesCardSaid : Prop := Claim7.holds Tryz.pinned (.plain (OpenSpec.ofChange requestParsesSpec)) requestParsesCard

/-- THE TIED CARD OF 'mandatelaw22.RequestPrints'. -/
def requestPrintsCard : Claim7 := { stood := { row := requestPrintsRow, standIns := [], harness := (true, "b6c24ff3b3e81b69213ce59cdb2bb05ba9874eda8ef2688d3b5d4f73a8ce7f22"), looks := true }, kinds := [], alts := [], laidByText := true, laidKinds := [.data, .data, .data], laidTests := true, laidLooks := .later }
def RequestPrintsCardSaid : Prop := Claim7.holds Tryz.pinned (.plain (OpenSpec.ofChange requestPrintsSpec)) requestPrintsCard

/-- THE SECOND FORM's CARD OF 'mandatelaw22.RequestParses'. -/
def requestParsesUptoCard : Claim7 := { stood := { row := requestParsesUptoRow, standIns := [], harness := (true, "b6c24ff3b3e81b69213ce59cdb2bb05ba9874eda8ef2688d3b5d4f73a8ce7f22"), looks := true }, kinds := [], alts := [], laidByText := true, laidKinds := [.data, .data, .data], laidTests := true, laidLooks := .later }
def RequestParsesUptoCardSaid : Prop := Claim7.holds Tryz.pinned (.plain (OpenSpec.upto requestParsesSpec)) requestParsesUptoCard

/-- THE SECOND FORM's CARD OF 'mandatelaw22.RequestPrints'. -/
def requestPrintsUptoCard : Claim7 := { stood := { row := requestPrintsUptoRow, standIns := [], harness := (true, "b6c24ff3b3e81b69213ce59cdb2bb05ba9874eda8ef2688d3b5d4f73a8ce7f22"), looks := true }, kinds := [], alts := [], laidByText := true, laidKinds := [.data, .data, .data], laidTests := true, laidLooks := .later }
def RequestPrintsUptoCardSaid : Prop := Claim7.holds Tryz.pinned (.plain (OpenSpec.upto requestPrintsSpec)) requestPrintsUptoCard
end Rows
end Go.Proofs.YtfhpecgknmfnnaaGreatDoor
