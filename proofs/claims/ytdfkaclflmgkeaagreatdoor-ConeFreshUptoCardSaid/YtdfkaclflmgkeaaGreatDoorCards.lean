/-
  DERIVED. GIVEN WITH THE SEED: THE CARDS: each row of YtdfkaclflmgkeaaGreatDoorRows.lean that lists a variable, with what it lists TIED to the program's text (the seventh form; the later family's looks); each row that meets fmt, with fmt's text TOLD by the authors' own Lean function (tested against real Go, not proved from fmt's source: count such statements apart). THE CARD IS WHAT COUNTS. Prove the row's statement (the work); the ties are given (YtdfkaclflmgkeaaGreatDoorTie.lean); close each card by the builder's one call (the guide's Derived/Test/ToyasCard.lean, 'card_holds'). Laid BY PROGRAM, IN A SANDBOX (cutbox-door.mjs). By AI agents, Wed Nov 11 2026. No macro, syntax, notation, axiom, sorry.
-/
import Derived.Test.YtdfkaclflmgkeaaGreatDoorRows
import GoSem.ClaimSeven
namespace Go.Proofs.YtdfkaclflmgkeaaGreatDoor
namespace Rows

/-- THE TIED CARD OF 'copselaw15.ConeFresh'. -/
def coneFreshCard : Claim7 := { stood := { row := coneFreshRow, standIns := [], harness := (true, "1ba4711dd60e037d947de3b2daff1e7e633280c95a3922376a9e18050e0b7a11"), looks := false }, kinds := [], alts := [], laidByText := true, laidKinds := [.data, .pinned], laidTests := true, laidLooks := .later }
def ConeFreshCardSaid : Prop := Claim7.holds Tryz.pinned (.plain (OpenSpec.ofChange coneFreshSpec)) coneFreshCard

/-- THE SECOND FORM's CARD OF 'copselaw15.ConeFresh'. -/
def coneFreshUptoCard : Claim7 := { stood := { row := coneFreshUptoRow, standIns := [], harness := (true, "1ba4711dd60e037d947de3b2daff1e7e633280c95a3922376a9e18050e0b7a11"), looks := false }, kinds := [], alts := [], laidByText := true, laidKinds := [.data, .pinned], laidTests := true, laidLooks := .later }
def ConeFreshUptoCardSaid : Prop := Claim7.holds Tryz.pinned (.plain (OpenSpec.upto coneFreshSpec)) coneFreshUptoCard
end Rows
end Go.Proofs.YtdfkaclflmgkeaaGreatDoor
