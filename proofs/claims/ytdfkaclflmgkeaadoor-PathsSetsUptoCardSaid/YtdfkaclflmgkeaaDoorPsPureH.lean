/- Heads of a list: which they are, and that each element lies at or below one. -/
import Derived.Test.YtdfkaclflmgkeaaDoorPsPAllx0
import Derived.Test.YtdfkaclflmgkeaaDoorPsPure2
import Derived.Test.YtdfkaclflmgkeaaDoorPsPure3
import Derived.Test.YtdfkaclflmgkeaaDoorPsPure5
import Derived.Test.YtdfkaclflmgkeaaDoorPsSpec
namespace Go.Proofs.YtdfkaclflmgkeaaDoor.PAll
open Go.RowKit Go.Proofs.YtdfkaclflmgkeaaDoorW.PrintWords Go.Proofs.YtdfkaclflmgkeaaDoorW.PrintLast Go.Proofs.YtdfkaclflmgkeaaDoorW.PrintMore
open Go.Proofs.YtdfkaclflmgkeaaDoor.Sp
theorem mem_heads {l : List ByteArray} {x : ByteArray} : x ∈ heads l ↔ x ∈ l ∧ ∀ y ∈ l, aboveB y x = false := by
 unfold heads; rw [mem_norm, List.mem_filter, isHead_iff]
theorem rises_heads (l : List ByteArray) : Rises (heads l) := rises_norm _
theorem heads_length (l : List ByteArray) : (heads l).length ≤ l.length := Nat.le_trans (norm_length_le _) (List.length_filter_le _ _)
theorem head_of (l : List ByteArray) (n : Nat) : ∀ x ∈ l, (pB x).length = n → ∃ h ∈ heads l, h = x ∨ aboveB h x = true := by
 induction n using Nat.strongRecOn with
 | _ n ih =>
  intro x hx hn
  by_cases c : ∀ y ∈ l, aboveB y x = false
  ·exact ⟨x, mem_heads.2 ⟨hx, c⟩, .inl rfl⟩
  ·simp only [Classical.not_forall] at c
   obtain ⟨y, hy, hyx⟩ := c
   have hyx : aboveB y x = true := by simpa using hyx
   have hlt := ((above_iff _ _).1 hyx).2
   obtain ⟨h, hh, e⟩ := ih (pB y).length (by omega) y hy rfl
   refine ⟨h, hh, .inr ?_⟩
   rcases e with rfl | e
   ·exact hyx
   ·exact above_trans e hyx
theorem fits_heads {l : List ByteArray} (h : Fits l) : Fits (heads l) := fun p hp => h p (mem_heads.1 hp).1
theorem rd_mem (l : List ByteArray) (i : Nat) (h : i < l.length) : rdOf ByteArray.empty l (i : Int) ∈ l := by
 simp only [rdOf, Int.toNat_natCast, List.getD_eq_getElem?_getD, List.getElem?_eq_getElem h, Option.getD_some]; exact List.getElem_mem _
end Go.Proofs.YtdfkaclflmgkeaaDoor.PAll
