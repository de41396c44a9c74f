/- PathsAll: the law's printed function answers true, of any lists whose texts and lengths are not too great. -/
import Derived.Test.YtdfkaclflmgkeaaDoorPsPAllx0
import Derived.Test.YtdfkaclflmgkeaaDoorPsHandB
import Derived.Test.YtdfkaclflmgkeaaDoorPsPAlly0
import Derived.Test.YtdfkaclflmgkeaaDoorPsPAlly21
import Derived.Test.YtdfkaclflmgkeaaDoorPsPAlly22
import Derived.Test.YtdfkaclflmgkeaaDoorPsPAlly3
import Derived.Test.YtdfkaclflmgkeaaDoorPsPure1
import Derived.Test.YtdfkaclflmgkeaaDoorPsPure2
import Derived.Test.YtdfkaclflmgkeaaDoorPsPure3
import Derived.Test.YtdfkaclflmgkeaaDoorPsPure4
import Derived.Test.YtdfkaclflmgkeaaDoorPsPure5
import Derived.Test.YtdfkaclflmgkeaaDoorPsSpec
namespace Go.Proofs.YtdfkaclflmgkeaaDoor.PAll
open Go.RowKit Go.Proofs.YtdfkaclflmgkeaaDoorW.PrintWords Go.Proofs.YtdfkaclflmgkeaaDoorW.PrintLast Go.Proofs.YtdfkaclflmgkeaaDoorW.PrintMore
open Go.Proofs.YtdfkaclflmgkeaaDoor.Sp
theorem texts_run (l : List ByteArray) (hl : l.length ≤ 4294967296) (d : Nat) : ∀ i, l.length - i = d → i ≤ l.length → Ev (fun k => copselaw03_texts.l0 k l l (i : Int)) true := by
 induction d with
 | zero =>
  intro i hd hi
  refine ⟨1, fun k hk => ?_⟩
  obtain ⟨k, rfl⟩ : ∃ m, k = m + 1 := ⟨k - 1, by omega⟩
  simp only [copselaw03_texts.l0]
  rw [if_neg (by omega)]
 | succ d ih =>
  intro i hd hi
  obtain ⟨K, hK⟩ := ih (i + 1) (by omega) (by omega)
  dsimp only at hK
  refine ⟨K + 1, fun k hk => ?_⟩
  obtain ⟨k, rfl⟩ : ∃ m, k = m + 1 := ⟨k - 1, by omega⟩
  simp only [copselaw03_texts.l0]
  rw [if_pos (by omega), if_pos (by omega), if_pos (by omega), if_true, wrap_succ (n := l.length) (by omega) (by omega)]
  exact hK k (by omega)
theorem texts_same (l : List ByteArray) (hl : l.length ≤ 4294967296) : Ev (fun k => copselaw03_texts.f k l l) true := by
 refine Ev.congr (fun k => ?_) (texts_run l hl l.length 0 (by omega) (by omega))
 unfold copselaw03_texts.f
 rw [if_pos rfl]; rfl
theorem alive_ev : Ev (fun k => copselaw03_alive.f k) true := Ev.of copselaw03_alive.mono (k := 20) (by kernel_rfl)
end Go.Proofs.YtdfkaclflmgkeaaDoor.PAll
