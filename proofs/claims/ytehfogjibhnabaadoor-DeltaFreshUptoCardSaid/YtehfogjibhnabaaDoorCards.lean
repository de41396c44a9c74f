/-
  DERIVED. GIVEN WITH THE SEED: THE CARDS: each row of YtehfogjibhnabaaDoorRows.lean that lists a variable, with what it lists TIED to the program's text (the seventh form; the later family's looks); each row that meets fmt, with fmt's text TOLD by the authors' own Lean function (tested against real Go, not proved from fmt's source: count such statements apart). THE CARD IS WHAT COUNTS. Prove the row's statement (the work); the ties are given (YtehfogjibhnabaaDoorTie.lean); close each card by the builder's one call (the guide's Derived/Test/ToyasCard.lean, 'card_holds'). Laid BY PROGRAM, IN A SANDBOX (cutbox-door.mjs). By AI agents, Wed Nov 11 2026. No macro, syntax, notation, axiom, sorry.
-/
import Derived.Test.YtehfogjibhnabaaDoorRows
import GoSem.ClaimSeven
namespace Go.Proofs.YtehfogjibhnabaaDoor
namespace Rows

/-- THE TIED CARD OF 'copselaw17.ProfileWrites'. -/
def profileWritesCard : Claim7 := { stood := { row := profileWritesRow, standIns := [], harness := (true, "f4063d1c9e847b30c7a3d7c36c80d073ddeb6e8c38dd6718d2b173488ce7747f"), looks := false }, kinds := [], alts := [], laidByText := true, laidKinds := [.data, .pinned], laidTests := true, laidLooks := .later }
def ProfileWritesCardSaid : Prop := Claim7.holds Tryd.pinned (.plain (OpenSpec.ofChange profileWritesSpec)) profileWritesCard

/-- THE TIED CARD OF 'copselaw17.ProfileReads'. -/
def profileReadsCard : Claim7 := { stood := { row := profileReadsRow, standIns := [], harness := (true, "f4063d1c9e847b30c7a3d7c36c80d073ddeb6e8c38dd6718d2b173488ce7747f"), looks := false }, kinds := [], alts := [], laidByText := true, laidKinds := [.data, .pinned], laidTests := true, laidLooks := .later }
def ProfileReadsCardSaid : Prop := Claim7.holds Tryd.pinned (.plain (OpenSpec.ofChange profileReadsSpec)) profileReadsCard

/-- THE TIED CARD OF 'copselaw17.ProfileFresh'. -/
def profileFreshCard : Claim7 := { stood := { row := profileFreshRow, standIns := [], harness := (true, "f4063d1c9e847b30c7a3d7c36c80d073ddeb6e8c38dd6718d2b173488ce7747f"), looks := false }, kinds := [], alts := [], laidByText := true, laidKinds := [.data, .pinned], laidTests := true, laidLooks := .later }
def ProfileFreshCardSaid : Prop := Claim7.holds Tryd.pinned (.plain (OpenSpec.ofChange profileFreshSpec)) profileFreshCard

/-- THE TIED CARD OF 'copselaw17.ProfileShows'. -/
def profileShowsCard : Claim7 := { stood := { row := profileShowsRow, standIns := [], harness := (true, "f4063d1c9e847b30c7a3d7c36c80d073ddeb6e8c38dd6718d2b173488ce7747f"), looks := false }, kinds := [], alts := [], laidByText := true, laidKinds := [.data, .pinned], laidTests := true, laidLooks := .later }
def ProfileShowsCardSaid : Prop := Claim7.holds Tryd.pinned (.plain (OpenSpec.ofChange profileShowsSpec)) profileShowsCard

/-- THE TIED CARD OF 'copselaw06.DeltaBack'. -/
def deltaBackCard : Claim7 := { stood := { row := deltaBackRow, standIns := [], harness := (true, "f4063d1c9e847b30c7a3d7c36c80d073ddeb6e8c38dd6718d2b173488ce7747f"), looks := false }, kinds := [], alts := [], laidByText := true, laidKinds := [.data, .pinned], laidTests := true, laidLooks := .later }
def DeltaBackCardSaid : Prop := Claim7.holds Tryd.pinned (.plain (OpenSpec.ofChange deltaBackSpec)) deltaBackCard

/-- THE TIED CARD OF 'copselaw06.DeltaJoins'. -/
def deltaJoinsCard : Claim7 := { stood := { row := deltaJoinsRow, standIns := [], harness := (true, "f4063d1c9e847b30c7a3d7c36c80d073ddeb6e8c38dd6718d2b173488ce7747f"), looks := false }, kinds := [], alts := [], laidByText := true, laidKinds := [.data, .pinned], laidTests := true, laidLooks := .later }
def DeltaJoinsCardSaid : Prop := Claim7.holds Tryd.pinned (.plain (OpenSpec.ofChange deltaJoinsSpec)) deltaJoinsCard

/-- THE TIED CARD OF 'copselaw06.DeltaFresh'. -/
def deltaFreshCard : Claim7 := { stood := { row := deltaFreshRow, standIns := [], harness := (true, "f4063d1c9e847b30c7a3d7c36c80d073ddeb6e8c38dd6718d2b173488ce7747f"), looks := false }, kinds := [], alts := [], laidByText := true, laidKinds := [.data, .pinned], laidTests := true, laidLooks := .later }
def DeltaFreshCardSaid : Prop := Claim7.holds Tryd.pinned (.plain (OpenSpec.ofChange deltaFreshSpec)) deltaFreshCard

/-- THE SECOND FORM's CARD OF 'copselaw17.ProfileWrites'. -/
def profileWritesUptoCard : Claim7 := { stood := { row := profileWritesUptoRow, standIns := [], harness := (true, "f4063d1c9e847b30c7a3d7c36c80d073ddeb6e8c38dd6718d2b173488ce7747f"), looks := false }, kinds := [], alts := [], laidByText := true, laidKinds := [.data, .pinned], laidTests := true, laidLooks := .later }
def ProfileWritesUptoCardSaid : Prop := Claim7.holds Tryd.pinned (.plain (OpenSpec.upto profileWritesSpec)) profileWritesUptoCard

/-- THE SECOND FORM's CARD OF 'copselaw17.ProfileReads'. -/
def profileReadsUptoCard : Claim7 := { stood := { row := profileReadsUptoRow, standIns := [], harness := (true, "f4063d1c9e847b30c7a3d7c36c80d073ddeb6e8c38dd6718d2b173488ce7747f"), looks := false }, kinds := [], alts := [], laidByText := true, laidKinds := [.data, .pinned], laidTests := true, laidLooks := .later }
def ProfileReadsUptoCardSaid : Prop := Claim7.holds Tryd.pinned (.plain (OpenSpec.upto profileReadsSpec)) profileReadsUptoCard

/-- THE SECOND FORM's CARD OF 'copselaw17.ProfileFresh'. -/
def profileFreshUptoCard : Claim7 := { stood := { row := profileFreshUptoRow, standIns := [], harness := (true, "f4063d1c9e847b30c7a3d7c36c80d073ddeb6e8c38dd6718d2b173488ce7747f"), looks := false }, kinds := [], alts := [], laidByText := true, laidKinds := [.data, .pinned], laidTests := true, laidLooks := .later }
def ProfileFreshUptoCardSaid : Prop := Claim7.holds Tryd.pinned (.plain (OpenSpec.upto profileFreshSpec)) profileFreshUptoCard

/-- THE SECOND FORM's CARD OF 'copselaw17.ProfileShows'. -/
def profileShowsUptoCard : Claim7 := { stood := { row := profileShowsUptoRow, standIns := [], harness := (true, "f4063d1c9e847b30c7a3d7c36c80d073ddeb6e8c38dd6718d2b173488ce7747f"), looks := false }, kinds := [], alts := [], laidByText := true, laidKinds := [.data, .pinned], laidTests := true, laidLooks := .later }
def ProfileShowsUptoCardSaid : Prop := Claim7.holds Tryd.pinned (.plain (OpenSpec.upto profileShowsSpec)) profileShowsUptoCard

/-- THE SECOND FORM's CARD OF 'copselaw06.DeltaBack'. -/
def deltaBackUptoCard : Claim7 := { stood := { row := deltaBackUptoRow, standIns := [], harness := (true, "f4063d1c9e847b30c7a3d7c36c80d073ddeb6e8c38dd6718d2b173488ce7747f"), looks := false }, kinds := [], alts := [], laidByText := true, laidKinds := [.data, .pinned], laidTests := true, laidLooks := .later }
def DeltaBackUptoCardSaid : Prop := Claim7.holds Tryd.pinned (.plain (OpenSpec.upto deltaBackSpec)) deltaBackUptoCard

/-- THE SECOND FORM's CARD OF 'copselaw06.DeltaJoins'. -/
def deltaJoinsUptoCard : Claim7 := { stood := { row := deltaJoinsUptoRow, standIns := [], harness := (true, "f4063d1c9e847b30c7a3d7c36c80d073ddeb6e8c38dd6718d2b173488ce7747f"), looks := false }, kinds := [], alts := [], laidByText := true, laidKinds := [.data, .pinned], laidTests := true, laidLooks := .later }
def DeltaJoinsUptoCardSaid : Prop := Claim7.holds Tryd.pinned (.plain (OpenSpec.upto deltaJoinsSpec)) deltaJoinsUptoCard

/-- THE SECOND FORM's CARD OF 'copselaw06.DeltaFresh'. -/
def deltaFreshUptoCard : Claim7 := { stood := { row := deltaFreshUptoRow, standIns := [], harness := (true, "f4063d1c9e847b30c7a3d7c36c80d073ddeb6e8c38dd6718d2b173488ce7747f"), looks := false }, kinds := [], alts := [], laidByText := true, laidKinds := [.data, .pinned], laidTests := true, laidLooks := .later }
def DeltaFreshUptoCardSaid : Prop := Claim7.holds Tryd.pinned (.plain (OpenSpec.upto deltaFreshSpec)) deltaFreshUptoCard
end Rows
end Go.Proofs.YtehfogjibhnabaaDoor
