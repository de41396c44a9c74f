/- PathsAll: the law's printed function answers true, of any lists whose texts and lengths are not too great. -/
import Derived.Test.YtdfkaclflmgkeaaDoorPfPAllx0
import Derived.Test.YtdfkaclflmgkeaaDoorPfHandB
import Derived.Test.YtdfkaclflmgkeaaDoorPfPAlly0
import Derived.Test.YtdfkaclflmgkeaaDoorPfPAlly21
import Derived.Test.YtdfkaclflmgkeaaDoorPfPAlly22
import Derived.Test.YtdfkaclflmgkeaaDoorPfPAlly3
import Derived.Test.YtdfkaclflmgkeaaDoorPfPure1
import Derived.Test.YtdfkaclflmgkeaaDoorPfPure2
import Derived.Test.YtdfkaclflmgkeaaDoorPfPure3
import Derived.Test.YtdfkaclflmgkeaaDoorPfPure4
import Derived.Test.YtdfkaclflmgkeaaDoorPfPure5
import Derived.Test.YtdfkaclflmgkeaaDoorPfSpec
namespace Go.Proofs.YtdfkaclflmgkeaaDoor.PAll
open Go.RowKit Go.Proofs.YtdfkaclflmgkeaaDoorW.PrintWords Go.Proofs.YtdfkaclflmgkeaaDoorW.PrintLast Go.Proofs.YtdfkaclflmgkeaaDoorW.PrintMore
open Go.Proofs.YtdfkaclflmgkeaaDoor.Sp
theorem texts_run (l : List ByteArray) (hl : l.length ≤ 4294967296) (d : Nat) : ∀ i, l.length - i = d → i ≤ l.length → Ev (fun k => copselaw03_texts.l0 k l l (i : Int)) true := by
 induction d with
 | zero =>
  intro i hd hi
  refine ⟨1, fun k hk => ?_⟩
  obtain ⟨k, rfl⟩ : ∃ m, k = m + 1 := ⟨k - 1, by omega⟩
  simp only [copselaw03_texts.l0]
  rw [if_neg (by omega)]
 | succ d ih =>
  intro i hd hi
  obtain ⟨K, hK⟩ := ih (i + 1) (by omega) (by omega)
  dsimp only at hK
  refine ⟨K + 1, fun k hk => ?_⟩
  obtain ⟨k, rfl⟩ : ∃ m, k = m + 1 := ⟨k - 1, by omega⟩
  simp only [copselaw03_texts.l0]
  rw [if_pos (by omega), if_pos (by omega), if_pos (by omega), if_true, wrap_succ (n := l.length) (by omega) (by omega)]
  exact hK k (by omega)
theorem texts_same (l : List ByteArray) (hl : l.length ≤ 4294967296) : Ev (fun k => copselaw03_texts.f k l l) true := by
 refine Ev.congr (fun k => ?_) (texts_run l hl l.length 0 (by omega) (by omega))
 unfold copselaw03_texts.f
 rw [if_pos rfl]; rfl
theorem Ev.pair {α β : Type} {g : Nat → Option α} {h : Nat → Option β} {a : α} {b : β} (h1 : Ev g a) (h2 : Ev h b) : Ev (fun k => (g k).bind fun x => (h k).bind fun y => some (x, y)) (a, b) :=
 Ev.bind (f := fun k x => (h k).bind fun y => some (x, y)) h1 (Ev.bind (f := fun _ y => some (a, y)) h2 (ev_pure fun _ => rfl))
theorem alive_ev : Ev (fun k => copselaw03_alive.f k) true := Ev.of copselaw03_alive.mono (k := 20) (by kernel_rfl)
end Go.Proofs.YtdfkaclflmgkeaaDoor.PAll
