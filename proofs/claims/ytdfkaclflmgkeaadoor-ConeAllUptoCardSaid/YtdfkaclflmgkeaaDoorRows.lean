/-
  NARROWER THAN 'FOR EVERY INPUT', by the rows' own cells (each row's printed sentence says how): PathsAll: laid · PathsSets: laid · PathsFresh: laid · ConeAll: laid · ConeCovers: laid · ConeViews: laid.
  DERIVED. THE GIVEN ROWS OF THIS SEAT. 6 by the template 'for every input the law returns true; each argument reads behind the call as it read before'; 0 by the template 'total and deterministic' (their statements: YtdfkaclflmgkeaaDoorTotals.lean).
  GIVEN WITH THE SEED: the statements are not yours to turn. If you find one false, say at which input.
  Laid BY PROGRAM, IN A SANDBOX (cutbox-rows.mjs): the forced cells as the released guide's own fill.sh prints them over the translation 86eb6b33e710692d… (all of the seat's roots in one cut). By AI agents, Wed Nov 11 2026. No macro, syntax, notation, axiom, sorry.
-/
import Derived.Test.YtdfkaclflmgkeaaDoorChecked
import GoSem.PinnedTables
import GoSem.Claim
import GoSem.ClaimJoined
import GoSem.ClaimMapViews
import Derived.JoinedTies
import Derived.KernelRfl
namespace Go.Proofs.YtdfkaclflmgkeaaDoor
/- THE CELL 'sum', in the pinned program and in every row, IS THE sha256 OF THE DUMP (.gsa) THAT YtdfkaclflmgkeaaDoorProg.lean LOADS. Nothing in Lean hashes anything: it is a label: what it is worth is what the hold of that sum in a sandbox is worth. -/
noncomputable def Tryd.pinned : Pinned := { name := "ytdfkaclflmgkeaadoor", sum := "86eb6b33e710692dc0e3f130b2a7d6f59787b3d40d2f67f8065aad85fdf24b12", checked := Tryd.checked }
namespace Rows
def none {H : Type} : Left H := { results := [], args := [] }

/- WHAT THE LISTED PACKAGE-LEVEL VARIABLES READ AS WHEN THE CALL BEGINS. Each datum BY PROGRAM (the guide's laid-datum.mjs) off the statement by which the dump's own 'gosem.cut.vars' lays the variable. In a bare row this is a premise. The card (YtdfkaclflmgkeaaDoorCards.lean) ties it to the program's text. -/
def laid_unicode_utf8_acceptRanges {H : Type} : DataW H := .agg [.agg [.lit (.int .u8 128), .lit (.int .u8 191)], .agg [.lit (.int .u8 160), .lit (.int .u8 191)], .agg [.lit (.int .u8 128), .lit (.int .u8 159)], .agg [.lit (.int .u8 144), .lit (.int .u8 191)], .agg [.lit (.int .u8 128), .lit (.int .u8 143)], .agg [.lit (.int .u8 0), .lit (.int .u8 0)], .agg [.lit (.int .u8 0), .lit (.int .u8 0)], .agg [.lit (.int .u8 0), .lit (.int .u8 0)], .agg [.lit (.int .u8 0), .lit (.int .u8 0)], .agg [.lit (.int .u8 0), .lit (.int .u8 0)], .agg [.lit (.int .u8 0), .lit (.int .u8 0)], .agg [.lit (.int .u8 0), .lit (.int .u8 0)], .agg [.lit (.int .u8 0), .lit (.int .u8 0)], .agg [.lit (.int .u8 0), .lit (.int .u8 0)], .agg [.lit (.int .u8 0), .lit (.int .u8 0)], .agg [.lit (.int .u8 0), .lit (.int .u8 0)]]
/-- One of Go's own tables, pinned by name: the form's constant. -/
def laid_unicode_utf8_first : DataW Unit := Go.Pinned.utf8First

/-- 'copselaw03.PathsAll': WHATEVER THE INPUT: true; the input reads as it did. -/
def pathsAllSpec : ChangeSpec := { name := "pathsAll", fn := fun _ => fun
  | [d1, d2, d3] => { results := [.lit (.bool true)], args := [d1, d2, d3] }
  | _ => none }
def pathsAllRow : OpenClaim := { program := "ytdfkaclflmgkeaadoor", sum := "86eb6b33e710692dc0e3f130b2a7d6f59787b3d40d2f67f8065aad85fdf24b12", func := "copse/copselaw03.PathsAll", spec := "pathsAll", inPlace := ["internal/bytealg.CountString", "internal/bytealg.IndexByteString", "internal/bytealg.IndexString"], unfollowed := true, recurses := true, named := ["unicode/utf8.first", "unicode/utf8.acceptRanges", "internal/bytealg.MaxLen"], apart := false, laid := [("unicode/utf8.acceptRanges", laid_unicode_utf8_acceptRanges), ("unicode/utf8.first", laid_unicode_utf8_first)] }
def PathsAllSaid : Prop := pathsAllRow.holds Tryd.pinned (OpenSpec.ofChange pathsAllSpec)

/-- ITS FALSE NEIGHBOUR: 'it returns false'. Refute it at one input. -/
def pathsAllWrong : ChangeSpec := { name := "pathsAll", fn := fun _ => fun
  | [d1, d2, d3] => { results := [.lit (.bool false)], args := [d1, d2, d3] }
  | _ => none }
def PathsAllWrongFalsely : Prop := pathsAllRow.holds Tryd.pinned (OpenSpec.ofChange pathsAllWrong)

/-- 'copselaw03.PathsSets': WHATEVER THE INPUT: true; the input reads as it did. -/
def pathsSetsSpec : ChangeSpec := { name := "pathsSets", fn := fun _ => fun
  | [d1, d2] => { results := [.lit (.bool true)], args := [d1, d2] }
  | _ => none }
def pathsSetsRow : OpenClaim := { program := "ytdfkaclflmgkeaadoor", sum := "86eb6b33e710692dc0e3f130b2a7d6f59787b3d40d2f67f8065aad85fdf24b12", func := "copse/copselaw03.PathsSets", spec := "pathsSets", inPlace := ["internal/bytealg.CountString", "internal/bytealg.IndexByteString", "internal/bytealg.IndexString"], unfollowed := true, recurses := true, named := ["unicode/utf8.first", "unicode/utf8.acceptRanges", "internal/bytealg.MaxLen"], apart := false, laid := [("unicode/utf8.acceptRanges", laid_unicode_utf8_acceptRanges), ("unicode/utf8.first", laid_unicode_utf8_first)] }
def PathsSetsSaid : Prop := pathsSetsRow.holds Tryd.pinned (OpenSpec.ofChange pathsSetsSpec)

/-- ITS FALSE NEIGHBOUR: 'it returns false'. Refute it at one input. -/
def pathsSetsWrong : ChangeSpec := { name := "pathsSets", fn := fun _ => fun
  | [d1, d2] => { results := [.lit (.bool false)], args := [d1, d2] }
  | _ => none }
def PathsSetsWrongFalsely : Prop := pathsSetsRow.holds Tryd.pinned (OpenSpec.ofChange pathsSetsWrong)

/-- 'copselaw03.PathsFresh': WHATEVER THE INPUT: true; the input reads as it did. -/
def pathsFreshSpec : ChangeSpec := { name := "pathsFresh", fn := fun _ => fun
  | [d1, d2] => { results := [.lit (.bool true)], args := [d1, d2] }
  | _ => none }
def pathsFreshRow : OpenClaim := { program := "ytdfkaclflmgkeaadoor", sum := "86eb6b33e710692dc0e3f130b2a7d6f59787b3d40d2f67f8065aad85fdf24b12", func := "copse/copselaw03.PathsFresh", spec := "pathsFresh", inPlace := ["internal/bytealg.CountString", "internal/bytealg.IndexByteString", "internal/bytealg.IndexString"], unfollowed := true, recurses := true, named := ["unicode/utf8.first", "unicode/utf8.acceptRanges", "internal/bytealg.MaxLen"], apart := false, laid := [("unicode/utf8.acceptRanges", laid_unicode_utf8_acceptRanges), ("unicode/utf8.first", laid_unicode_utf8_first)] }
def PathsFreshSaid : Prop := pathsFreshRow.holds Tryd.pinned (OpenSpec.ofChange pathsFreshSpec)

/-- ITS FALSE NEIGHBOUR: 'it returns false'. Refute it at one input. -/
def pathsFreshWrong : ChangeSpec := { name := "pathsFresh", fn := fun _ => fun
  | [d1, d2] => { results := [.lit (.bool false)], args := [d1, d2] }
  | _ => none }
def PathsFreshWrongFalsely : Prop := pathsFreshRow.holds Tryd.pinned (OpenSpec.ofChange pathsFreshWrong)

/-- 'copselaw15.ConeAll': WHATEVER THE INPUT: true; the input reads as it did. -/
def coneAllSpec : ChangeSpec := { name := "coneAll", fn := fun _ => fun
  | [d1, d2, d3] => { results := [.lit (.bool true)], args := [d1, d2, d3] }
  | _ => none }
def coneAllRow : OpenClaim := { program := "ytdfkaclflmgkeaadoor", sum := "86eb6b33e710692dc0e3f130b2a7d6f59787b3d40d2f67f8065aad85fdf24b12", func := "copse/copselaw15.ConeAll", spec := "coneAll", inPlace := ["internal/bytealg.CountString", "internal/bytealg.IndexByteString", "internal/bytealg.IndexString"], unfollowed := true, recurses := true, named := ["internal/bytealg.MaxLen", "unicode/utf8.first", "unicode/utf8.acceptRanges"], apart := false, laid := [("unicode/utf8.acceptRanges", laid_unicode_utf8_acceptRanges), ("unicode/utf8.first", laid_unicode_utf8_first)] }
def ConeAllSaid : Prop := coneAllRow.holds Tryd.pinned (OpenSpec.ofChange coneAllSpec)

/-- ITS FALSE NEIGHBOUR: 'it returns false'. Refute it at one input. -/
def coneAllWrong : ChangeSpec := { name := "coneAll", fn := fun _ => fun
  | [d1, d2, d3] => { results := [.lit (.bool false)], args := [d1, d2, d3] }
  | _ => none }
def ConeAllWrongFalsely : Prop := coneAllRow.holds Tryd.pinned (OpenSpec.ofChange coneAllWrong)

/-- 'copselaw15.ConeCovers': WHATEVER THE INPUT: true; the input reads as it did. -/
def coneCoversSpec : ChangeSpec := { name := "coneCovers", fn := fun _ => fun
  | [d] => { results := [.lit (.bool true)], args := [d] }
  | _ => none }
def coneCoversRow : OpenClaim := { program := "ytdfkaclflmgkeaadoor", sum := "86eb6b33e710692dc0e3f130b2a7d6f59787b3d40d2f67f8065aad85fdf24b12", func := "copse/copselaw15.ConeCovers", spec := "coneCovers", inPlace := ["internal/bytealg.CountString", "internal/bytealg.IndexByteString", "internal/bytealg.IndexString"], unfollowed := true, recurses := true, named := ["internal/bytealg.MaxLen", "unicode/utf8.first", "unicode/utf8.acceptRanges"], apart := false, laid := [("unicode/utf8.acceptRanges", laid_unicode_utf8_acceptRanges), ("unicode/utf8.first", laid_unicode_utf8_first)] }
def ConeCoversSaid : Prop := coneCoversRow.holds Tryd.pinned (OpenSpec.ofChange coneCoversSpec)

/-- ITS FALSE NEIGHBOUR: 'it returns false'. Refute it at one input. -/
def coneCoversWrong : ChangeSpec := { name := "coneCovers", fn := fun _ => fun
  | [d] => { results := [.lit (.bool false)], args := [d] }
  | _ => none }
def ConeCoversWrongFalsely : Prop := coneCoversRow.holds Tryd.pinned (OpenSpec.ofChange coneCoversWrong)

/-- 'copselaw15.ConeViews': WHATEVER THE INPUT: true; the input reads as it did. -/
def coneViewsSpec : ChangeSpec := { name := "coneViews", fn := fun _ => fun
  | [d1, d2] => { results := [.lit (.bool true)], args := [d1, d2] }
  | _ => none }
def coneViewsRow : OpenClaim := { program := "ytdfkaclflmgkeaadoor", sum := "86eb6b33e710692dc0e3f130b2a7d6f59787b3d40d2f67f8065aad85fdf24b12", func := "copse/copselaw15.ConeViews", spec := "coneViews", inPlace := ["internal/bytealg.CountString", "internal/bytealg.IndexByteString", "internal/bytealg.IndexString"], unfollowed := true, recurses := true, named := ["internal/bytealg.MaxLen", "unicode/utf8.first", "unicode/utf8.acceptRanges"], apart := false, laid := [("unicode/utf8.acceptRanges", laid_unicode_utf8_acceptRanges), ("unicode/utf8.first", laid_unicode_utf8_first)] }
def ConeViewsSaid : Prop := coneViewsRow.holds Tryd.pinned (OpenSpec.ofChange coneViewsSpec)

/-- ITS FALSE NEIGHBOUR: 'it returns false'. Refute it at one input. -/
def coneViewsWrong : ChangeSpec := { name := "coneViews", fn := fun _ => fun
  | [d1, d2] => { results := [.lit (.bool false)], args := [d1, d2] }
  | _ => none }
def ConeViewsWrongFalsely : Prop := coneViewsRow.holds Tryd.pinned (OpenSpec.ofChange coneViewsWrong)

/- THE SECOND FORM. 'bulk': how many values and letters a reading holds, each counted each time it is reached (what is shared counts as often as it is met; a slice's spare places count too). A statement '..UptoSaid' is the law's where the arguments, and the package variables that the reading takes, are together of bulk at most 1048576: NARROWER than '..Said'. Prove '..Said' where nothing that the law and all that it calls make is longer than what came in: it says more and counts as full. Else prove '..UptoSaid'. A law counts once. -/
mutual
def uptoBulk {H : Type} : DataW H → Nat
  | .lit (.string bytes) => bytes.length + 1
  | .lit _ => 1
  | .nil => 1
  | .ptr d => uptoBulk d + 1
  | .slice elems spare => uptoBulkAll elems + uptoBulkAll spare + 1
  | .agg parts => uptoBulkAll parts + 1
  | .iface _ d => uptoBulk d + 1
  | .map entries => uptoBulkEntries entries + 1
  | .held _ => 1
def uptoBulkAll {H : Type} : List (DataW H) → Nat
  | [] => 0
  | d :: r => uptoBulk d + uptoBulkAll r
def uptoBulkEntries {H : Type} : List (Lit × DataW H) → Nat
  | [] => 0
  | x :: r => uptoBulkEntry x + uptoBulkEntries r
def uptoBulkEntry {H : Type} : Lit × DataW H → Nat
  | (.string bytes, d) => bytes.length + uptoBulk d + 1
  | (_, d) => uptoBulk d + 1
 end
def uptoSmall : (H : Type) → List (DataW H) → Bool := fun _ ds => decide (uptoBulkAll ds ≤ 1048576)
def OpenSpec.upto (s : _root_.Go.ChangeSpec) : _root_.Go.OpenSpec := { _root_.Go.OpenSpec.ofChange s with cond := some uptoSmall }

/-- 'copselaw03.PathsAll', WHERE WHAT IT READS IS OF BULK AT MOST 1048576: true; the input reads as it did. -/
def pathsAllUptoRow : OpenClaim := { program := "ytdfkaclflmgkeaadoor", sum := "86eb6b33e710692dc0e3f130b2a7d6f59787b3d40d2f67f8065aad85fdf24b12", func := "copse/copselaw03.PathsAll", spec := "pathsAll", inPlace := ["internal/bytealg.CountString", "internal/bytealg.IndexByteString", "internal/bytealg.IndexString"], unfollowed := true, recurses := true, named := ["unicode/utf8.first", "unicode/utf8.acceptRanges", "internal/bytealg.MaxLen"], apart := false, laid := [("unicode/utf8.acceptRanges", laid_unicode_utf8_acceptRanges), ("unicode/utf8.first", laid_unicode_utf8_first)], narrowed := true }
def PathsAllUptoSaid : Prop := pathsAllUptoRow.holds Tryd.pinned (OpenSpec.upto pathsAllSpec)

/-- 'copselaw03.PathsSets', WHERE WHAT IT READS IS OF BULK AT MOST 1048576: true; the input reads as it did. -/
def pathsSetsUptoRow : OpenClaim := { program := "ytdfkaclflmgkeaadoor", sum := "86eb6b33e710692dc0e3f130b2a7d6f59787b3d40d2f67f8065aad85fdf24b12", func := "copse/copselaw03.PathsSets", spec := "pathsSets", inPlace := ["internal/bytealg.CountString", "internal/bytealg.IndexByteString", "internal/bytealg.IndexString"], unfollowed := true, recurses := true, named := ["unicode/utf8.first", "unicode/utf8.acceptRanges", "internal/bytealg.MaxLen"], apart := false, laid := [("unicode/utf8.acceptRanges", laid_unicode_utf8_acceptRanges), ("unicode/utf8.first", laid_unicode_utf8_first)], narrowed := true }
def PathsSetsUptoSaid : Prop := pathsSetsUptoRow.holds Tryd.pinned (OpenSpec.upto pathsSetsSpec)

/-- 'copselaw03.PathsFresh', WHERE WHAT IT READS IS OF BULK AT MOST 1048576: true; the input reads as it did. -/
def pathsFreshUptoRow : OpenClaim := { program := "ytdfkaclflmgkeaadoor", sum := "86eb6b33e710692dc0e3f130b2a7d6f59787b3d40d2f67f8065aad85fdf24b12", func := "copse/copselaw03.PathsFresh", spec := "pathsFresh", inPlace := ["internal/bytealg.CountString", "internal/bytealg.IndexByteString", "internal/bytealg.IndexString"], unfollowed := true, recurses := true, named := ["unicode/utf8.first", "unicode/utf8.acceptRanges", "internal/bytealg.MaxLen"], apart := false, laid := [("unicode/utf8.acceptRanges", laid_unicode_utf8_acceptRanges), ("unicode/utf8.first", laid_unicode_utf8_first)], narrowed := true }
def PathsFreshUptoSaid : Prop := pathsFreshUptoRow.holds Tryd.pinned (OpenSpec.upto pathsFreshSpec)

/-- 'copselaw15.ConeAll', WHERE WHAT IT READS IS OF BULK AT MOST 1048576: true; the input reads as it did. -/
def coneAllUptoRow : OpenClaim := { program := "ytdfkaclflmgkeaadoor", sum := "86eb6b33e710692dc0e3f130b2a7d6f59787b3d40d2f67f8065aad85fdf24b12", func := "copse/copselaw15.ConeAll", spec := "coneAll", inPlace := ["internal/bytealg.CountString", "internal/bytealg.IndexByteString", "internal/bytealg.IndexString"], unfollowed := true, recurses := true, named := ["internal/bytealg.MaxLen", "unicode/utf8.first", "unicode/utf8.acceptRanges"], apart := false, laid := [("unicode/utf8.acceptRanges", laid_unicode_utf8_acceptRanges), ("unicode/utf8.first", laid_unicode_utf8_first)], narrowed := true }
def ConeAllUptoSaid : Prop := coneAllUptoRow.holds Tryd.pinned (OpenSpec.upto coneAllSpec)

/-- 'copselaw15.ConeCovers', WHERE WHAT IT READS IS OF BULK AT MOST 1048576: true; the input reads as it did. -/
def coneCoversUptoRow : OpenClaim := { program := "ytdfkaclflmgkeaadoor", sum := "86eb6b33e710692dc0e3f130b2a7d6f59787b3d40d2f67f8065aad85fdf24b12", func := "copse/copselaw15.ConeCovers", spec := "coneCovers", inPlace := ["internal/bytealg.CountString", "internal/bytealg.IndexByteString", "internal/bytealg.IndexString"], unfollowed := true, recurses := true, named := ["internal/bytealg.MaxLen", "unicode/utf8.first", "unicode/utf8.acceptRanges"], apart := false, laid := [("unicode/utf8.acceptRanges", laid_unicode_utf8_acceptRanges), ("unicode/utf8.first", laid_unicode_utf8_first)], narrowed := true }
def ConeCoversUptoSaid : Prop := coneCoversUptoRow.holds Tryd.pinned (OpenSpec.upto coneCoversSpec)

/-- 'copselaw15.ConeViews', WHERE WHAT IT READS IS OF BULK AT MOST 1048576: true; the input reads as it did. -/
def coneViewsUptoRow : OpenClaim := { program := "ytdfkaclflmgkeaadoor", sum := "86eb6b33e710692dc0e3f130b2a7d6f59787b3d40d2f67f8065aad85fdf24b12", func := "copse/copselaw15.ConeViews", spec := "coneViews", inPlace := ["internal/bytealg.CountString", "internal/bytealg.IndexByteString", "internal/bytealg.IndexString"], unfollowed := true, recurses := true, named := ["internal/bytealg.MaxLen", "unicode/utf8.first", "unicode/utf8.acceptRanges"], apart := false, laid := [("unicode/utf8.acceptRanges", laid_unicode_utf8_acceptRanges), ("unicode/utf8.first", laid_unicode_utf8_first)], narrowed := true }
def ConeViewsUptoSaid : Prop := coneViewsUptoRow.holds Tryd.pinned (OpenSpec.upto coneViewsSpec)

end Rows
end Go.Proofs.YtdfkaclflmgkeaaDoor
