/- ConeCovers: the law's printed function answers true, of any list whose texts and length are not too great. -/
import Derived.Test.YtdfkaclflmgkeaaDoorCvPAllx0
import Derived.Test.YtdfkaclflmgkeaaDoorCvHandB
import Derived.Test.YtdfkaclflmgkeaaDoorCvHandD
import Derived.Test.YtdfkaclflmgkeaaDoorCvPAlly15
import Derived.Test.YtdfkaclflmgkeaaDoorCvPAlly18
import Derived.Test.YtdfkaclflmgkeaaDoorCvPAlly26
import Derived.Test.YtdfkaclflmgkeaaDoorCvHandC
import Derived.Test.YtdfkaclflmgkeaaDoorCvPAlly3
import Derived.Test.YtdfkaclflmgkeaaDoorCvPure1
import Derived.Test.YtdfkaclflmgkeaaDoorCvPure2
import Derived.Test.YtdfkaclflmgkeaaDoorCvPure3
import Derived.Test.YtdfkaclflmgkeaaDoorCvPure5
import Derived.Test.YtdfkaclflmgkeaaDoorCvPure7
import Derived.Test.YtdfkaclflmgkeaaDoorCvSpec
namespace Go.Proofs.YtdfkaclflmgkeaaDoor.PAll
open Go.RowKit Go.Proofs.YtdfkaclflmgkeaaDoorW.PrintWords Go.Proofs.YtdfkaclflmgkeaaDoorW.PrintLast Go.Proofs.YtdfkaclflmgkeaaDoorW.PrintMore
open Go.Proofs.YtdfkaclflmgkeaaDoor.Sp
theorem aliveC_ev : Ev (fun k => copselaw15_alive.f k) true := Ev.of copselaw15_alive.mono (k := 40) (by kernel_rfl)
theorem rd_mem (l : List ByteArray) (i : Nat) (h : i < l.length) : rdOf ByteArray.empty l (i : Int) ∈ l := by
 simp only [rdOf, Int.toNat_natCast, List.getD_eq_getElem?_getD, List.getElem?_eq_getElem h, Option.getD_some]; exact List.getElem_mem _
end Go.Proofs.YtdfkaclflmgkeaaDoor.PAll
