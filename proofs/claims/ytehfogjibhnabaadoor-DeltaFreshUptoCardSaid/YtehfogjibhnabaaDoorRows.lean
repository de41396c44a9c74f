/-
  NARROWER THAN 'FOR EVERY INPUT', by the rows' own cells (each row's printed sentence says how): ProfileWrites: laid · ProfileReads: laid · ProfileFresh: laid · ProfileShows: laid · DeltaBack: laid · DeltaJoins: laid · DeltaFresh: laid.
  DERIVED. THE GIVEN ROWS OF THIS SEAT. 7 by the template 'for every input the law returns true; each argument reads behind the call as it read before'; 0 by the template 'total and deterministic' (their statements: YtehfogjibhnabaaDoorTotals.lean).
  GIVEN WITH THE SEED: the statements are not yours to turn. If you find one false, say at which input.
  Laid BY PROGRAM, IN A SANDBOX (cutbox-rows.mjs): the forced cells as the released guide's own fill.sh prints them over the translation 147b884b09d5a0ed… (all of the seat's roots in one cut). By AI agents, Wed Nov 11 2026. No macro, syntax, notation, axiom, sorry.
-/
import Derived.Test.YtehfogjibhnabaaDoorChecked
import GoSem.PinnedTables
import GoSem.Claim
import GoSem.ClaimJoined
import GoSem.ClaimMapViews
import Derived.JoinedTies
import Derived.KernelRfl
namespace Go.Proofs.YtehfogjibhnabaaDoor
/- THE CELL 'sum', in the pinned program and in every row, IS THE sha256 OF THE DUMP (.gsa) THAT YtehfogjibhnabaaDoorProg.lean LOADS. Nothing in Lean hashes anything: it is a label: what it is worth is what the hold of that sum in a sandbox is worth. -/
noncomputable def Tryd.pinned : Pinned := { name := "ytehfogjibhnabaadoor", sum := "147b884b09d5a0edd5bdc7c8490f446674b9249b7d1ec07a432b52092386ff65", checked := Tryd.checked }
namespace Rows
def none {H : Type} : Left H := { results := [], args := [] }

/- WHAT THE LISTED PACKAGE-LEVEL VARIABLES READ AS WHEN THE CALL BEGINS. Each datum BY PROGRAM (the guide's laid-datum.mjs) off the statement by which the dump's own 'gosem.cut.vars' lays the variable. In a bare row this is a premise. The card (YtehfogjibhnabaaDoorCards.lean) ties it to the program's text. -/
def laid_unicode_utf8_acceptRanges {H : Type} : DataW H := .agg [.agg [.lit (.int .u8 128), .lit (.int .u8 191)], .agg [.lit (.int .u8 160), .lit (.int .u8 191)], .agg [.lit (.int .u8 128), .lit (.int .u8 159)], .agg [.lit (.int .u8 144), .lit (.int .u8 191)], .agg [.lit (.int .u8 128), .lit (.int .u8 143)], .agg [.lit (.int .u8 0), .lit (.int .u8 0)], .agg [.lit (.int .u8 0), .lit (.int .u8 0)], .agg [.lit (.int .u8 0), .lit (.int .u8 0)], .agg [.lit (.int .u8 0), .lit (.int .u8 0)], .agg [.lit (.int .u8 0), .lit (.int .u8 0)], .agg [.lit (.int .u8 0), .lit (.int .u8 0)], .agg [.lit (.int .u8 0), .lit (.int .u8 0)], .agg [.lit (.int .u8 0), .lit (.int .u8 0)], .agg [.lit (.int .u8 0), .lit (.int .u8 0)], .agg [.lit (.int .u8 0), .lit (.int .u8 0)], .agg [.lit (.int .u8 0), .lit (.int .u8 0)]]
/-- One of Go's own tables, pinned by name: the form's constant. -/
def laid_unicode_utf8_first : DataW Unit := Go.Pinned.utf8First

/-- 'copselaw17.ProfileWrites': WHATEVER THE INPUT: true; the input reads as it did. -/
def profileWritesSpec : ChangeSpec := { name := "profileWrites", fn := fun _ => fun
  | [d] => { results := [.lit (.bool true)], args := [d] }
  | _ => none }
def profileWritesRow : OpenClaim := { program := "ytehfogjibhnabaadoor", sum := "147b884b09d5a0edd5bdc7c8490f446674b9249b7d1ec07a432b52092386ff65", func := "copse/copselaw17.ProfileWrites", spec := "profileWrites", inPlace := ["internal/bytealg.CountString", "internal/bytealg.IndexByteString", "internal/bytealg.IndexString", "internal/abi.NoEscape"], unfollowed := true, recurses := true, named := ["internal/bytealg.MaxLen", "unicode/utf8.first", "unicode/utf8.acceptRanges"], apart := false, laid := [("unicode/utf8.acceptRanges", laid_unicode_utf8_acceptRanges), ("unicode/utf8.first", laid_unicode_utf8_first)] }
def ProfileWritesSaid : Prop := profileWritesRow.holds Tryd.pinned (OpenSpec.ofChange profileWritesSpec)

/-- ITS FALSE NEIGHBOUR: 'it returns false'. Refute it at one input. -/
def profileWritesWrong : ChangeSpec := { name := "profileWrites", fn := fun _ => fun
  | [d] => { results := [.lit (.bool false)], args := [d] }
  | _ => none }
def ProfileWritesWrongFalsely : Prop := profileWritesRow.holds Tryd.pinned (OpenSpec.ofChange profileWritesWrong)

/-- 'copselaw17.ProfileReads': WHATEVER THE INPUT: true; the input reads as it did. -/
def profileReadsSpec : ChangeSpec := { name := "profileReads", fn := fun _ => fun
  | [d] => { results := [.lit (.bool true)], args := [d] }
  | _ => none }
def profileReadsRow : OpenClaim := { program := "ytehfogjibhnabaadoor", sum := "147b884b09d5a0edd5bdc7c8490f446674b9249b7d1ec07a432b52092386ff65", func := "copse/copselaw17.ProfileReads", spec := "profileReads", inPlace := ["internal/bytealg.IndexByteString", "internal/bytealg.CountString", "internal/bytealg.IndexString", "internal/abi.NoEscape"], unfollowed := true, recurses := true, named := ["internal/bytealg.MaxLen", "unicode/utf8.first", "unicode/utf8.acceptRanges"], apart := false, laid := [("unicode/utf8.acceptRanges", laid_unicode_utf8_acceptRanges), ("unicode/utf8.first", laid_unicode_utf8_first)] }
def ProfileReadsSaid : Prop := profileReadsRow.holds Tryd.pinned (OpenSpec.ofChange profileReadsSpec)

/-- ITS FALSE NEIGHBOUR: 'it returns false'. Refute it at one input. -/
def profileReadsWrong : ChangeSpec := { name := "profileReads", fn := fun _ => fun
  | [d] => { results := [.lit (.bool false)], args := [d] }
  | _ => none }
def ProfileReadsWrongFalsely : Prop := profileReadsRow.holds Tryd.pinned (OpenSpec.ofChange profileReadsWrong)

/-- 'copselaw17.ProfileFresh': WHATEVER THE INPUT: true; the input reads as it did. -/
def profileFreshSpec : ChangeSpec := { name := "profileFresh", fn := fun _ => fun
  | [d1, d2] => { results := [.lit (.bool true)], args := [d1, d2] }
  | _ => none }
def profileFreshRow : OpenClaim := { program := "ytehfogjibhnabaadoor", sum := "147b884b09d5a0edd5bdc7c8490f446674b9249b7d1ec07a432b52092386ff65", func := "copse/copselaw17.ProfileFresh", spec := "profileFresh", inPlace := ["internal/bytealg.CountString", "internal/bytealg.IndexByteString", "internal/bytealg.IndexString", "internal/abi.NoEscape"], unfollowed := true, recurses := true, named := ["internal/bytealg.MaxLen", "unicode/utf8.first", "unicode/utf8.acceptRanges"], apart := false, laid := [("unicode/utf8.acceptRanges", laid_unicode_utf8_acceptRanges), ("unicode/utf8.first", laid_unicode_utf8_first)] }
def ProfileFreshSaid : Prop := profileFreshRow.holds Tryd.pinned (OpenSpec.ofChange profileFreshSpec)

/-- ITS FALSE NEIGHBOUR: 'it returns false'. Refute it at one input. -/
def profileFreshWrong : ChangeSpec := { name := "profileFresh", fn := fun _ => fun
  | [d1, d2] => { results := [.lit (.bool false)], args := [d1, d2] }
  | _ => none }
def ProfileFreshWrongFalsely : Prop := profileFreshRow.holds Tryd.pinned (OpenSpec.ofChange profileFreshWrong)

/-- 'copselaw17.ProfileShows': WHATEVER THE INPUT: true; the input reads as it did. -/
def profileShowsSpec : ChangeSpec := { name := "profileShows", fn := fun _ => fun
  | [d1, d2] => { results := [.lit (.bool true)], args := [d1, d2] }
  | _ => none }
def profileShowsRow : OpenClaim := { program := "ytehfogjibhnabaadoor", sum := "147b884b09d5a0edd5bdc7c8490f446674b9249b7d1ec07a432b52092386ff65", func := "copse/copselaw17.ProfileShows", spec := "profileShows", inPlace := ["internal/bytealg.CountString", "internal/bytealg.IndexByteString", "internal/bytealg.IndexString", "internal/abi.NoEscape"], unfollowed := true, recurses := true, named := ["internal/bytealg.MaxLen", "unicode/utf8.first", "unicode/utf8.acceptRanges"], apart := false, laid := [("unicode/utf8.acceptRanges", laid_unicode_utf8_acceptRanges), ("unicode/utf8.first", laid_unicode_utf8_first)] }
def ProfileShowsSaid : Prop := profileShowsRow.holds Tryd.pinned (OpenSpec.ofChange profileShowsSpec)

/-- ITS FALSE NEIGHBOUR: 'it returns false'. Refute it at one input. -/
def profileShowsWrong : ChangeSpec := { name := "profileShows", fn := fun _ => fun
  | [d1, d2] => { results := [.lit (.bool false)], args := [d1, d2] }
  | _ => none }
def ProfileShowsWrongFalsely : Prop := profileShowsRow.holds Tryd.pinned (OpenSpec.ofChange profileShowsWrong)

/-- 'copselaw06.DeltaBack': WHATEVER THE INPUT: true; the input reads as it did. -/
def deltaBackSpec : ChangeSpec := { name := "deltaBack", fn := fun _ => fun
  | [d1, d2, d3] => { results := [.lit (.bool true)], args := [d1, d2, d3] }
  | _ => none }
def deltaBackRow : OpenClaim := { program := "ytehfogjibhnabaadoor", sum := "147b884b09d5a0edd5bdc7c8490f446674b9249b7d1ec07a432b52092386ff65", func := "copse/copselaw06.DeltaBack", spec := "deltaBack", inPlace := ["internal/bytealg.CountString", "internal/bytealg.IndexByteString", "internal/bytealg.IndexString"], unfollowed := true, recurses := true, named := ["internal/bytealg.MaxLen", "unicode/utf8.first", "unicode/utf8.acceptRanges"], apart := false, laid := [("unicode/utf8.acceptRanges", laid_unicode_utf8_acceptRanges), ("unicode/utf8.first", laid_unicode_utf8_first)] }
def DeltaBackSaid : Prop := deltaBackRow.holds Tryd.pinned (OpenSpec.ofChange deltaBackSpec)

/-- ITS FALSE NEIGHBOUR: 'it returns false'. Refute it at one input. -/
def deltaBackWrong : ChangeSpec := { name := "deltaBack", fn := fun _ => fun
  | [d1, d2, d3] => { results := [.lit (.bool false)], args := [d1, d2, d3] }
  | _ => none }
def DeltaBackWrongFalsely : Prop := deltaBackRow.holds Tryd.pinned (OpenSpec.ofChange deltaBackWrong)

/-- 'copselaw06.DeltaJoins': WHATEVER THE INPUT: true; the input reads as it did. -/
def deltaJoinsSpec : ChangeSpec := { name := "deltaJoins", fn := fun _ => fun
  | [d1, d2, d3] => { results := [.lit (.bool true)], args := [d1, d2, d3] }
  | _ => none }
def deltaJoinsRow : OpenClaim := { program := "ytehfogjibhnabaadoor", sum := "147b884b09d5a0edd5bdc7c8490f446674b9249b7d1ec07a432b52092386ff65", func := "copse/copselaw06.DeltaJoins", spec := "deltaJoins", inPlace := ["internal/bytealg.CountString", "internal/bytealg.IndexByteString", "internal/bytealg.IndexString"], unfollowed := true, recurses := true, named := ["internal/bytealg.MaxLen", "unicode/utf8.first", "unicode/utf8.acceptRanges"], apart := false, laid := [("unicode/utf8.acceptRanges", laid_unicode_utf8_acceptRanges), ("unicode/utf8.first", laid_unicode_utf8_first)] }
def DeltaJoinsSaid : Prop := deltaJoinsRow.holds Tryd.pinned (OpenSpec.ofChange deltaJoinsSpec)

/-- ITS FALSE NEIGHBOUR: 'it returns false'. Refute it at one input. -/
def deltaJoinsWrong : ChangeSpec := { name := "deltaJoins", fn := fun _ => fun
  | [d1, d2, d3] => { results := [.lit (.bool false)], args := [d1, d2, d3] }
  | _ => none }
def DeltaJoinsWrongFalsely : Prop := deltaJoinsRow.holds Tryd.pinned (OpenSpec.ofChange deltaJoinsWrong)

/-- 'copselaw06.DeltaFresh': WHATEVER THE INPUT: true; the input reads as it did. -/
def deltaFreshSpec : ChangeSpec := { name := "deltaFresh", fn := fun _ => fun
  | [d1, d2] => { results := [.lit (.bool true)], args := [d1, d2] }
  | _ => none }
def deltaFreshRow : OpenClaim := { program := "ytehfogjibhnabaadoor", sum := "147b884b09d5a0edd5bdc7c8490f446674b9249b7d1ec07a432b52092386ff65", func := "copse/copselaw06.DeltaFresh", spec := "deltaFresh", inPlace := ["internal/bytealg.CountString", "internal/bytealg.IndexByteString", "internal/bytealg.IndexString"], unfollowed := true, recurses := true, named := ["internal/bytealg.MaxLen", "unicode/utf8.first", "unicode/utf8.acceptRanges"], apart := false, laid := [("unicode/utf8.acceptRanges", laid_unicode_utf8_acceptRanges), ("unicode/utf8.first", laid_unicode_utf8_first)] }
def DeltaFreshSaid : Prop := deltaFreshRow.holds Tryd.pinned (OpenSpec.ofChange deltaFreshSpec)

/-- ITS FALSE NEIGHBOUR: 'it returns false'. Refute it at one input. -/
def deltaFreshWrong : ChangeSpec := { name := "deltaFresh", fn := fun _ => fun
  | [d1, d2] => { results := [.lit (.bool false)], args := [d1, d2] }
  | _ => none }
def DeltaFreshWrongFalsely : Prop := deltaFreshRow.holds Tryd.pinned (OpenSpec.ofChange deltaFreshWrong)

/- THE SECOND FORM. 'bulk': how many values and letters a reading holds, each counted each time it is reached (what is shared counts as often as it is met; a slice's spare places count too). A statement '..UptoSaid' is the law's where the arguments, and the package variables that the reading takes, are together of bulk at most 1048576: NARROWER than '..Said'. Prove '..Said' where nothing that the law and all that it calls make is longer than what came in: it says more and counts as full. Else prove '..UptoSaid'. A law counts once. -/
mutual
def uptoBulk {H : Type} : DataW H → Nat
  | .lit (.string bytes) => bytes.length + 1
  | .lit _ => 1
  | .nil => 1
  | .ptr d => uptoBulk d + 1
  | .slice elems spare => uptoBulkAll elems + uptoBulkAll spare + 1
  | .agg parts => uptoBulkAll parts + 1
  | .iface _ d => uptoBulk d + 1
  | .map entries => uptoBulkEntries entries + 1
  | .held _ => 1
def uptoBulkAll {H : Type} : List (DataW H) → Nat
  | [] => 0
  | d :: r => uptoBulk d + uptoBulkAll r
def uptoBulkEntries {H : Type} : List (Lit × DataW H) → Nat
  | [] => 0
  | x :: r => uptoBulkEntry x + uptoBulkEntries r
def uptoBulkEntry {H : Type} : Lit × DataW H → Nat
  | (.string bytes, d) => bytes.length + uptoBulk d + 1
  | (_, d) => uptoBulk d + 1
 end
def uptoSmall : (H : Type) → List (DataW H) → Bool := fun _ ds => decide (uptoBulkAll ds ≤ 1048576)
def OpenSpec.upto (s : _root_.Go.ChangeSpec) : _root_.Go.OpenSpec := { _root_.Go.OpenSpec.ofChange s with cond := some uptoSmall }

/-- 'copselaw17.ProfileWrites', WHERE WHAT IT READS IS OF BULK AT MOST 1048576: true; the input reads as it did. -/
def profileWritesUptoRow : OpenClaim := { program := "ytehfogjibhnabaadoor", sum := "147b884b09d5a0edd5bdc7c8490f446674b9249b7d1ec07a432b52092386ff65", func := "copse/copselaw17.ProfileWrites", spec := "profileWrites", inPlace := ["internal/bytealg.CountString", "internal/bytealg.IndexByteString", "internal/bytealg.IndexString", "internal/abi.NoEscape"], unfollowed := true, recurses := true, named := ["internal/bytealg.MaxLen", "unicode/utf8.first", "unicode/utf8.acceptRanges"], apart := false, laid := [("unicode/utf8.acceptRanges", laid_unicode_utf8_acceptRanges), ("unicode/utf8.first", laid_unicode_utf8_first)], narrowed := true }
def ProfileWritesUptoSaid : Prop := profileWritesUptoRow.holds Tryd.pinned (OpenSpec.upto profileWritesSpec)

/-- 'copselaw17.ProfileReads', WHERE WHAT IT READS IS OF BULK AT MOST 1048576: true; the input reads as it did. -/
def profileReadsUptoRow : OpenClaim := { program := "ytehfogjibhnabaadoor", sum := "147b884b09d5a0edd5bdc7c8490f446674b9249b7d1ec07a432b52092386ff65", func := "copse/copselaw17.ProfileReads", spec := "profileReads", inPlace := ["internal/bytealg.IndexByteString", "internal/bytealg.CountString", "internal/bytealg.IndexString", "internal/abi.NoEscape"], unfollowed := true, recurses := true, named := ["internal/bytealg.MaxLen", "unicode/utf8.first", "unicode/utf8.acceptRanges"], apart := false, laid := [("unicode/utf8.acceptRanges", laid_unicode_utf8_acceptRanges), ("unicode/utf8.first", laid_unicode_utf8_first)], narrowed := true }
def ProfileReadsUptoSaid : Prop := profileReadsUptoRow.holds Tryd.pinned (OpenSpec.upto profileReadsSpec)

/-- 'copselaw17.ProfileFresh', WHERE WHAT IT READS IS OF BULK AT MOST 1048576: true; the input reads as it did. -/
def profileFreshUptoRow : OpenClaim := { program := "ytehfogjibhnabaadoor", sum := "147b884b09d5a0edd5bdc7c8490f446674b9249b7d1ec07a432b52092386ff65", func := "copse/copselaw17.ProfileFresh", spec := "profileFresh", inPlace := ["internal/bytealg.CountString", "internal/bytealg.IndexByteString", "internal/bytealg.IndexString", "internal/abi.NoEscape"], unfollowed := true, recurses := true, named := ["internal/bytealg.MaxLen", "unicode/utf8.first", "unicode/utf8.acceptRanges"], apart := false, laid := [("unicode/utf8.acceptRanges", laid_unicode_utf8_acceptRanges), ("unicode/utf8.first", laid_unicode_utf8_first)], narrowed := true }
def ProfileFreshUptoSaid : Prop := profileFreshUptoRow.holds Tryd.pinned (OpenSpec.upto profileFreshSpec)

/-- 'copselaw17.ProfileShows', WHERE WHAT IT READS IS OF BULK AT MOST 1048576: true; the input reads as it did. -/
def profileShowsUptoRow : OpenClaim := { program := "ytehfogjibhnabaadoor", sum := "147b884b09d5a0edd5bdc7c8490f446674b9249b7d1ec07a432b52092386ff65", func := "copse/copselaw17.ProfileShows", spec := "profileShows", inPlace := ["internal/bytealg.CountString", "internal/bytealg.IndexByteString", "internal/bytealg.IndexString", "internal/abi.NoEscape"], unfollowed := true, recurses := true, named := ["internal/bytealg.MaxLen", "unicode/utf8.first", "unicode/utf8.acceptRanges"], apart := false, laid := [("unicode/utf8.acceptRanges", laid_unicode_utf8_acceptRanges), ("unicode/utf8.first", laid_unicode_utf8_first)], narrowed := true }
def ProfileShowsUptoSaid : Prop := profileShowsUptoRow.holds Tryd.pinned (OpenSpec.upto profileShowsSpec)

/-- 'copselaw06.DeltaBack', WHERE WHAT IT READS IS OF BULK AT MOST 1048576: true; the input reads as it did. -/
def deltaBackUptoRow : OpenClaim := { program := "ytehfogjibhnabaadoor", sum := "147b884b09d5a0edd5bdc7c8490f446674b9249b7d1ec07a432b52092386ff65", func := "copse/copselaw06.DeltaBack", spec := "deltaBack", inPlace := ["internal/bytealg.CountString", "internal/bytealg.IndexByteString", "internal/bytealg.IndexString"], unfollowed := true, recurses := true, named := ["internal/bytealg.MaxLen", "unicode/utf8.first", "unicode/utf8.acceptRanges"], apart := false, laid := [("unicode/utf8.acceptRanges", laid_unicode_utf8_acceptRanges), ("unicode/utf8.first", laid_unicode_utf8_first)], narrowed := true }
def DeltaBackUptoSaid : Prop := deltaBackUptoRow.holds Tryd.pinned (OpenSpec.upto deltaBackSpec)

/-- 'copselaw06.DeltaJoins', WHERE WHAT IT READS IS OF BULK AT MOST 1048576: true; the input reads as it did. -/
def deltaJoinsUptoRow : OpenClaim := { program := "ytehfogjibhnabaadoor", sum := "147b884b09d5a0edd5bdc7c8490f446674b9249b7d1ec07a432b52092386ff65", func := "copse/copselaw06.DeltaJoins", spec := "deltaJoins", inPlace := ["internal/bytealg.CountString", "internal/bytealg.IndexByteString", "internal/bytealg.IndexString"], unfollowed := true, recurses := true, named := ["internal/bytealg.MaxLen", "unicode/utf8.first", "unicode/utf8.acceptRanges"], apart := false, laid := [("unicode/utf8.acceptRanges", laid_unicode_utf8_acceptRanges), ("unicode/utf8.first", laid_unicode_utf8_first)], narrowed := true }
def DeltaJoinsUptoSaid : Prop := deltaJoinsUptoRow.holds Tryd.pinned (OpenSpec.upto deltaJoinsSpec)

/-- 'copselaw06.DeltaFresh', WHERE WHAT IT READS IS OF BULK AT MOST 1048576: true; the input reads as it did. -/
def deltaFreshUptoRow : OpenClaim := { program := "ytehfogjibhnabaadoor", sum := "147b884b09d5a0edd5bdc7c8490f446674b9249b7d1ec07a432b52092386ff65", func := "copse/copselaw06.DeltaFresh", spec := "deltaFresh", inPlace := ["internal/bytealg.CountString", "internal/bytealg.IndexByteString", "internal/bytealg.IndexString"], unfollowed := true, recurses := true, named := ["internal/bytealg.MaxLen", "unicode/utf8.first", "unicode/utf8.acceptRanges"], apart := false, laid := [("unicode/utf8.acceptRanges", laid_unicode_utf8_acceptRanges), ("unicode/utf8.first", laid_unicode_utf8_first)], narrowed := true }
def DeltaFreshUptoSaid : Prop := deltaFreshUptoRow.holds Tryd.pinned (OpenSpec.upto deltaFreshSpec)

end Rows
end Go.Proofs.YtehfogjibhnabaaDoor
