/- What the rows of this seat share: the bound that a second form hands over, arguments opened as lists of texts, and a world for the witness that holds the two listed tables. -/
import Derived.Test.YtehfogjibhnabaaGreatDoorCards
import Derived.Test.YtehfogjibhnabaaGreatDoorTie
import Derived.Test.YtehfogjibhnabaaGreatDoorDtWWords
import Derived.WalkKit
import Derived.ProofKit
import Derived.OpenShut
import Derived.ShutString
import Derived.SliceStrings
import Derived.Carry
import Derived.Deep.DeepHandedRow
import Derived.LaidLaws
namespace Go.Proofs.YtehfogjibhnabaaGreatDoor.Rk
open Go.ChangeShapes Go.WideShapes Go.ChangeAt Go.RowKit
open Go.ChangeMaps (open_string shut_string)
open Go.Proofs.YtehfogjibhnabaaGreatDoorW.PrintWords
theorem bulk_one {H : Type} (d : DataW H) : 1 ≤ Rows.uptoBulk d := by
 cases d with
 | lit l => cases l <;> simp [Rows.uptoBulk]
 | nil => simp [Rows.uptoBulk]
 | ptr d => simp [Rows.uptoBulk]
 | slice elems spare => simp [Rows.uptoBulk]
 | agg parts => simp [Rows.uptoBulk]
 | iface t d => simp [Rows.uptoBulk]
 | map entries => simp [Rows.uptoBulk]
 | held h => simp [Rows.uptoBulk]
theorem bulk_mem {H : Type} {d : DataW H} {l : List (DataW H)} (h : d ∈ l) : Rows.uptoBulk d ≤ Rows.uptoBulkAll l := by
 induction l with
 | nil => cases h
 | cons x r ih =>
  simp only [Rows.uptoBulkAll]
  rcases List.mem_cons.1 h with e | e
  ·subst e; omega
  have := ih e; omega
theorem bulk_length {H : Type} (l : List (DataW H)) : l.length ≤ Rows.uptoBulkAll l := by
 induction l with
 | nil => simp
 | cons x r ih => have := bulk_one x; simp only [Rows.uptoBulkAll, List.length_cons]; omega
theorem bulk_bound {H : Type} {l : List (DataW H)} (hk : Rows.uptoSmall H l = true) : Rows.uptoBulkAll l ≤ 1048576 := by
 simpa [Rows.uptoSmall] using hk
theorem bulk_str {H : Type} (s : ByteArray) : Rows.uptoBulk (.lit (.string s.data.toList) : DataW H) = s.size + 1 := by
 simp only [Rows.uptoBulk, Array.length_toList]; rfl
theorem own : ownKnob Tryz.prog.godebug = none := by kernel_rfl
theorem laidOut : laidOutB Tryz.prog = true := by kernel_rfl
def fill (vs : List Nat) (o : Obj) : Obj := match o with
 | .cells _ t frozen => .cells (vs.map fun (n : Nat) => Value.int .u8 (n : Int)).toArray t frozen
 | o => o
noncomputable def laidWorld (os : Os) : World :=
 { World.holding Tryz.prog os ⟨#[], #[], []⟩ with heap := ((World.holding Tryz.prog os ⟨#[], #[], []⟩).heap.modify 1 (fill Go.Pinned.utf8FirstZ)).modify 2 (fill ([128, 191, 160, 191, 128, 159, 144, 191, 128, 143] ++ List.replicate 22 0)) }
end Go.Proofs.YtehfogjibhnabaaGreatDoor.Rk
