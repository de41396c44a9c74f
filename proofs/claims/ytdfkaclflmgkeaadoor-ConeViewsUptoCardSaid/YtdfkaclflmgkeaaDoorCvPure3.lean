/- Norm, Union, Minus, Meet, Dirs of lists of texts: what the printed functions answer. -/
import Derived.Test.YtdfkaclflmgkeaaDoorCvPAllx0
import Derived.Test.YtdfkaclflmgkeaaDoorCvHandB
import Derived.Test.YtdfkaclflmgkeaaDoorCvHandN
import Derived.Test.YtdfkaclflmgkeaaDoorCvPAlly0
import Derived.Test.YtdfkaclflmgkeaaDoorCvPAlly3
import Derived.Test.YtdfkaclflmgkeaaDoorCvPure1
import Derived.Test.YtdfkaclflmgkeaaDoorCvPure2
import Derived.Test.YtdfkaclflmgkeaaDoorCvSpec
namespace Go.Proofs.YtdfkaclflmgkeaaDoor.PAll
open Go.RowKit Go.Proofs.YtdfkaclflmgkeaaDoorW.PrintWords Go.Proofs.YtdfkaclflmgkeaaDoorW.PrintLast Go.Proofs.YtdfkaclflmgkeaaDoorW.PrintMore
open Go.Proofs.YtdfkaclflmgkeaaDoor.Sp
abbrev Fits (l : List ByteArray) : Prop := ∀ p ∈ l, p.size ≤ 1073741824
theorem Fits.at_ {l : List ByteArray} (h : Fits l) {i : Nat} (hi : i < l.length) : (rdOf ByteArray.empty l (i : Int)).size ≤ 1073741824 :=
 h _ (List.mem_of_mem_drop (i := i) (by rw [rdOf_drop l i hi]; exact List.mem_cons_self))
def put (x : ByteArray) : List ByteArray → List ByteArray
 | [] => [x]
 | y :: l => if cB x y < 0 then x :: y :: l else y :: put x l
end Go.Proofs.YtdfkaclflmgkeaaDoor.PAll
