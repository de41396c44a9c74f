/-
  DERIVED. GIVEN WITH THE SEED: THE CARDS: each row of YtehfogjibhnabaaGreatDoorRows.lean that lists a variable, with what it lists TIED to the program's text (the seventh form; the later family's looks); each row that meets fmt, with fmt's text TOLD by the authors' own Lean function (tested against real Go, not proved from fmt's source: count such statements apart). THE CARD IS WHAT COUNTS. Prove the row's statement (the work); the ties are given (YtehfogjibhnabaaGreatDoorTie.lean); close each card by the builder's one call (the guide's Derived/Test/ToyasCard.lean, 'card_holds'). Laid BY PROGRAM, IN A SANDBOX (cutbox-door.mjs). By AI agents, Wed Nov 11 2026. No macro, syntax, notation, axiom, sorry.
-/
import Derived.Test.YtehfogjibhnabaaGreatDoorRows
import GoSem.ClaimSeven
namespace Go.Proofs.YtehfogjibhnabaaGreatDoor
namespace Rows

/-- THE TIED CARD OF 'copselaw06.DeltaAll'. -/
def deltaAllCard : Claim7 := { stood := { row := deltaAllRow, standIns := [], harness := (true, "6884ad263dc3f193cbae30ab05815d30c9b1156a4a7760d86753d4c4165f31a7"), looks := false }, kinds := [], alts := [], laidByText := true, laidKinds := [.data, .pinned], laidTests := true, laidLooks := .later }
def DeltaAllCardSaid : Prop := Claim7.holds Tryz.pinned (.plain (OpenSpec.ofChange deltaAllSpec)) deltaAllCard

/-- THE SECOND FORM's CARD OF 'copselaw06.DeltaAll'. -/
def deltaAllUptoCard : Claim7 := { stood := { row := deltaAllUptoRow, standIns := [], harness := (true, "6884ad263dc3f193cbae30ab05815d30c9b1156a4a7760d86753d4c4165f31a7"), looks := false }, kinds := [], alts := [], laidByText := true, laidKinds := [.data, .pinned], laidTests := true, laidLooks := .later }
def DeltaAllUptoCardSaid : Prop := Claim7.holds Tryz.pinned (.plain (OpenSpec.upto deltaAllSpec)) deltaAllUptoCard
end Rows
end Go.Proofs.YtehfogjibhnabaaGreatDoor
