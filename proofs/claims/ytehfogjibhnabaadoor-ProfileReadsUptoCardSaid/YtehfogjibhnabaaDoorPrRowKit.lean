/- What the rows of this seat share: the bound that a second form hands over, arguments opened as lists of texts, and a world for the witness that holds the two listed tables. -/
import Derived.Test.YtehfogjibhnabaaDoorCards
import Derived.Test.YtehfogjibhnabaaDoorTie
import Derived.Test.YtehfogjibhnabaaDoorPrWWords
import Derived.WalkKit
import Derived.ProofKit
import Derived.OpenShut
import Derived.ShutString
import Derived.SliceStrings
import Derived.Carry
import Derived.Deep.DeepHandedRow
import Derived.LaidLaws
namespace Go.Proofs.YtehfogjibhnabaaDoor.Rk
open Go.ChangeShapes Go.WideShapes Go.ChangeAt Go.RowKit
open Go.ChangeMaps (open_string shut_string)
open Go.Proofs.YtehfogjibhnabaaDoorW.PrintWords
theorem bulk_bound {H : Type} {l : List (DataW H)} (hk : Rows.uptoSmall H l = true) : Rows.uptoBulkAll l ≤ 1048576 := by
 simpa [Rows.uptoSmall] using hk
theorem bulk_str {H : Type} (s : ByteArray) : Rows.uptoBulk (.lit (.string s.data.toList) : DataW H) = s.size + 1 := by
 simp only [Rows.uptoBulk, Array.length_toList]; rfl
theorem own : ownKnob Tryd.prog.godebug = none := by kernel_rfl
def fill (vs : List Nat) (o : Obj) : Obj := match o with
 | .cells _ t frozen => .cells (vs.map fun (n : Nat) => Value.int .u8 (n : Int)).toArray t frozen
 | o => o
noncomputable def laidWorld (os : Os) : World :=
 { World.holding Tryd.prog os ⟨#[], #[], []⟩ with heap := ((World.holding Tryd.prog os ⟨#[], #[], []⟩).heap.modify 1 (fill Go.Pinned.utf8FirstZ)).modify 2 (fill ([128, 191, 160, 191, 128, 159, 144, 191, 128, 143] ++ List.replicate 22 0)) }
end Go.Proofs.YtehfogjibhnabaaDoor.Rk
