/- Norm, Union, Minus, Meet, Dirs of lists of texts: what the printed functions answer. -/
import Derived.Test.YtdfkaclflmgkeaaDoorCcPAllx0
import Derived.Test.YtdfkaclflmgkeaaDoorCcHandB
import Derived.Test.YtdfkaclflmgkeaaDoorCcHandN
import Derived.Test.YtdfkaclflmgkeaaDoorCcPAlly3
import Derived.Test.YtdfkaclflmgkeaaDoorCcPure1
import Derived.Test.YtdfkaclflmgkeaaDoorCcPure2
import Derived.Test.YtdfkaclflmgkeaaDoorCcSpec
namespace Go.Proofs.YtdfkaclflmgkeaaDoor.PAll
open Go.RowKit Go.Proofs.YtdfkaclflmgkeaaDoorW.PrintWords Go.Proofs.YtdfkaclflmgkeaaDoorW.PrintLast Go.Proofs.YtdfkaclflmgkeaaDoorW.PrintMore
open Go.Proofs.YtdfkaclflmgkeaaDoor.Sp
abbrev Fits (l : List ByteArray) : Prop := ∀ p ∈ l, p.size ≤ 1073741824
theorem Fits.at_ {l : List ByteArray} (h : Fits l) {i : Nat} (hi : i < l.length) : (rdOf ByteArray.empty l (i : Int)).size ≤ 1073741824 :=
 h _ (List.mem_of_mem_drop (i := i) (by rw [rdOf_drop l i hi]; exact List.mem_cons_self))
def put (x : ByteArray) : List ByteArray → List ByteArray
 | [] => [x]
 | y :: l => if cB x y < 0 then x :: y :: l else y :: put x l
theorem prog_norm (l : List ByteArray) (hl : l.length ≤ 4294967295) (hf : Fits l) : Ev (fun k => paths_Norm.f k l) (norm l) :=
 ev_pure fun k => by unfold paths_Norm.f; rw [if_pos ⟨by omega, fun x hx => by have := hf x hx; omega⟩]
theorem fits_norm {l : List ByteArray} (h : Fits l) : Fits (norm l) := fun p hp => h p (mem_norm.1 hp)
end Go.Proofs.YtdfkaclflmgkeaaDoor.PAll
