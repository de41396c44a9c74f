/-
  DERIVED. GIVEN WITH THE SEED: THE CARDS: each row of YtdfkaclflmgkeaaDoorRows.lean that lists a variable, with what it lists TIED to the program's text (the seventh form; the later family's looks); each row that meets fmt, with fmt's text TOLD by the authors' own Lean function (tested against real Go, not proved from fmt's source: count such statements apart). THE CARD IS WHAT COUNTS. Prove the row's statement (the work); the ties are given (YtdfkaclflmgkeaaDoorTie.lean); close each card by the builder's one call (the guide's Derived/Test/ToyasCard.lean, 'card_holds'). Laid BY PROGRAM, IN A SANDBOX (cutbox-door.mjs). By AI agents, Wed Nov 11 2026. No macro, syntax, notation, axiom, sorry.
-/
import Derived.Test.YtdfkaclflmgkeaaDoorRows
import GoSem.ClaimSeven
namespace Go.Proofs.YtdfkaclflmgkeaaDoor
namespace Rows

/-- THE TIED CARD OF 'copselaw03.PathsAll'. -/
def pathsAllCard : Claim7 := { stood := { row := pathsAllRow, standIns := [], harness := (true, "602971543baee6bdd5e61d061bbc72f44cbf3ea52a2e44456b581ee64417f7bc"), looks := false }, kinds := [], alts := [], laidByText := true, laidKinds := [.data, .pinned], laidTests := true, laidLooks := .later }
def PathsAllCardSaid : Prop := Claim7.holds Tryd.pinned (.plain (OpenSpec.ofChange pathsAllSpec)) pathsAllCard

/-- THE TIED CARD OF 'copselaw03.PathsSets'. -/
def pathsSetsCard : Claim7 := { stood := { row := pathsSetsRow, standIns := [], harness := (true, "602971543baee6bdd5e61d061bbc72f44cbf3ea52a2e44456b581ee64417f7bc"), looks := false }, kinds := [], alts := [], laidByText := true, laidKinds := [.data, .pinned], laidTests := true, laidLooks := .later }
def PathsSetsCardSaid : Prop := Claim7.holds Tryd.pinned (.plain (OpenSpec.ofChange pathsSetsSpec)) pathsSetsCard

/-- THE TIED CARD OF 'copselaw03.PathsFresh'. -/
def pathsFreshCard : Claim7 := { stood := { row := pathsFreshRow, standIns := [], harness := (true, "602971543baee6bdd5e61d061bbc72f44cbf3ea52a2e44456b581ee64417f7bc"), looks := false }, kinds := [], alts := [], laidByText := true, laidKinds := [.data, .pinned], laidTests := true, laidLooks := .later }
def PathsFreshCardSaid : Prop := Claim7.holds Tryd.pinned (.plain (OpenSpec.ofChange pathsFreshSpec)) pathsFreshCard

/-- THE TIED CARD OF 'copselaw15.ConeAll'. -/
def coneAllCard : Claim7 := { stood := { row := coneAllRow, standIns := [], harness := (true, "602971543baee6bdd5e61d061bbc72f44cbf3ea52a2e44456b581ee64417f7bc"), looks := false }, kinds := [], alts := [], laidByText := true, laidKinds := [.data, .pinned], laidTests := true, laidLooks := .later }
def ConeAllCardSaid : Prop := Claim7.holds Tryd.pinned (.plain (OpenSpec.ofChange coneAllSpec)) coneAllCard

/-- THE TIED CARD OF 'copselaw15.ConeCovers'. -/
def coneCoversCard : Claim7 := { stood := { row := coneCoversRow, standIns := [], harness := (true, "602971543baee6bdd5e61d061bbc72f44cbf3ea52a2e44456b581ee64417f7bc"), looks := false }, kinds := [], alts := [], laidByText := true, laidKinds := [.data, .pinned], laidTests := true, laidLooks := .later }
def ConeCoversCardSaid : Prop := Claim7.holds Tryd.pinned (.plain (OpenSpec.ofChange coneCoversSpec)) coneCoversCard

/-- THE TIED CARD OF 'copselaw15.ConeViews'. -/
def coneViewsCard : Claim7 := { stood := { row := coneViewsRow, standIns := [], harness := (true, "602971543baee6bdd5e61d061bbc72f44cbf3ea52a2e44456b581ee64417f7bc"), looks := false }, kinds := [], alts := [], laidByText := true, laidKinds := [.data, .pinned], laidTests := true, laidLooks := .later }
def ConeViewsCardSaid : Prop := Claim7.holds Tryd.pinned (.plain (OpenSpec.ofChange coneViewsSpec)) coneViewsCard

/-- THE SECOND FORM's CARD OF 'copselaw03.PathsAll'. -/
def pathsAllUptoCard : Claim7 := { stood := { row := pathsAllUptoRow, standIns := [], harness := (true, "602971543baee6bdd5e61d061bbc72f44cbf3ea52a2e44456b581ee64417f7bc"), looks := false }, kinds := [], alts := [], laidByText := true, laidKinds := [.data, .pinned], laidTests := true, laidLooks := .later }
def PathsAllUptoCardSaid : Prop := Claim7.holds Tryd.pinned (.plain (OpenSpec.upto pathsAllSpec)) pathsAllUptoCard

/-- THE SECOND FORM's CARD OF 'copselaw03.PathsSets'. -/
def pathsSetsUptoCard : Claim7 := { stood := { row := pathsSetsUptoRow, standIns := [], harness := (true, "602971543baee6bdd5e61d061bbc72f44cbf3ea52a2e44456b581ee64417f7bc"), looks := false }, kinds := [], alts := [], laidByText := true, laidKinds := [.data, .pinned], laidTests := true, laidLooks := .later }
def PathsSetsUptoCardSaid : Prop := Claim7.holds Tryd.pinned (.plain (OpenSpec.upto pathsSetsSpec)) pathsSetsUptoCard

/-- THE SECOND FORM's CARD OF 'copselaw03.PathsFresh'. -/
def pathsFreshUptoCard : Claim7 := { stood := { row := pathsFreshUptoRow, standIns := [], harness := (true, "602971543baee6bdd5e61d061bbc72f44cbf3ea52a2e44456b581ee64417f7bc"), looks := false }, kinds := [], alts := [], laidByText := true, laidKinds := [.data, .pinned], laidTests := true, laidLooks := .later }
def PathsFreshUptoCardSaid : Prop := Claim7.holds Tryd.pinned (.plain (OpenSpec.upto pathsFreshSpec)) pathsFreshUptoCard

/-- THE SECOND FORM's CARD OF 'copselaw15.ConeAll'. -/
def coneAllUptoCard : Claim7 := { stood := { row := coneAllUptoRow, standIns := [], harness := (true, "602971543baee6bdd5e61d061bbc72f44cbf3ea52a2e44456b581ee64417f7bc"), looks := false }, kinds := [], alts := [], laidByText := true, laidKinds := [.data, .pinned], laidTests := true, laidLooks := .later }
def ConeAllUptoCardSaid : Prop := Claim7.holds Tryd.pinned (.plain (OpenSpec.upto coneAllSpec)) coneAllUptoCard

/-- THE SECOND FORM's CARD OF 'copselaw15.ConeCovers'. -/
def coneCoversUptoCard : Claim7 := { stood := { row := coneCoversUptoRow, standIns := [], harness := (true, "602971543baee6bdd5e61d061bbc72f44cbf3ea52a2e44456b581ee64417f7bc"), looks := false }, kinds := [], alts := [], laidByText := true, laidKinds := [.data, .pinned], laidTests := true, laidLooks := .later }
def ConeCoversUptoCardSaid : Prop := Claim7.holds Tryd.pinned (.plain (OpenSpec.upto coneCoversSpec)) coneCoversUptoCard

/-- THE SECOND FORM's CARD OF 'copselaw15.ConeViews'. -/
def coneViewsUptoCard : Claim7 := { stood := { row := coneViewsUptoRow, standIns := [], harness := (true, "602971543baee6bdd5e61d061bbc72f44cbf3ea52a2e44456b581ee64417f7bc"), looks := false }, kinds := [], alts := [], laidByText := true, laidKinds := [.data, .pinned], laidTests := true, laidLooks := .later }
def ConeViewsUptoCardSaid : Prop := Claim7.holds Tryd.pinned (.plain (OpenSpec.upto coneViewsSpec)) coneViewsUptoCard
end Rows
end Go.Proofs.YtdfkaclflmgkeaaDoor
