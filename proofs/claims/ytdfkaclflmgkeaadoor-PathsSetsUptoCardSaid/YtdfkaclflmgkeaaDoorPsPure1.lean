/- What the printed functions of path and paths answer, of texts and lists that are not too long: plain Lean. -/
import Derived.Test.YtdfkaclflmgkeaaDoorPsPAllx0
import Derived.Test.YtdfkaclflmgkeaaDoorPsHandA
import Derived.Test.YtdfkaclflmgkeaaDoorPsHandB
import Derived.Test.YtdfkaclflmgkeaaDoorPsPAlly0
import Derived.Test.YtdfkaclflmgkeaaDoorPsSpec
namespace Go.Proofs.YtdfkaclflmgkeaaDoor.PAll
open Go.RowKit Go.Proofs.YtdfkaclflmgkeaaDoorW.PrintWords Go.Proofs.YtdfkaclflmgkeaaDoorW.PrintLast Go.Proofs.YtdfkaclflmgkeaaDoorW.PrintMore
open Go.Proofs.YtdfkaclflmgkeaaDoor.Sp
theorem Ev.val {α : Type} {g : Nat → Option α} {r r' : α} (h : Ev g r) (e : r = r') : Ev g r' := e ▸ h
theorem ev_pure {α : Type} {g : Nat → Option α} {r : α} (h : ∀ k, g k = some r) : Ev g r := ⟨0, fun k _ => h k⟩
theorem wrap_add {x : Int} (h0 : -9223372036854775808 ≤ x) (h1 : x ≤ 9223372036854775807) : wrap64 x = x := by unfold wrap64; omega
theorem bt_get (a : ByteArray) (i : Nat) (h : i < a.size) : bt a (i : Int) = (((bs a)[i]'(by rw [bs_size]; exact h)).toNat : Int) := by
 unfold bt
 rw [dif_pos (by simpa using h)]
 rfl
theorem bt_eq (a : ByteArray) (i : Nat) (h : i < a.size) (c : UInt8) (n : Int) (hn : n = (c.toNat : Int)) : bt a (i : Int) = n ↔ (bs a)[i]'(by rw [bs_size]; exact h) = c := by
 rw [bt_get a i h, hn]
 constructor
 ·intro e; exact UInt8.toNat_inj.1 (by omega)
 ·intro e; rw [e]
theorem extract_mk (a : ByteArray) (i j : Nat) : a.extract i j = mk (((bs a).take j).drop i) := by
 apply bs_inj
 rw [bs_mk]
 show (a.extract i j).data.toList = _
 rw [Lib.extract_data, List.drop_take]
 rfl
theorem index_run (l : List ByteArray) (p : ByteArray) (hl : l.length ≤ 4294967296) (d : Nat) : ∀ i, l.length - i = d → i ≤ l.length → ∃ r, Ev (fun k => slices_Index_string_string.l0 k l p (l.length : Int) (i : Int)) r ∧ (decide (r ≥ 0) = decide (p ∈ l.drop i)) := by
 induction d with
 | zero =>
  intro i hd hi
  refine ⟨-1, ⟨1, fun k hk => ?_⟩, ?_⟩
  ·obtain ⟨k, rfl⟩ : ∃ m, k = m + 1 := ⟨k - 1, by omega⟩
   simp only [slices_Index_string_string.l0]
   rw [if_neg (by omega)]
  ·rw [List.drop_of_length_le (by omega)]; simp
 | succ d ih =>
  intro i hd hi
  obtain ⟨r, ⟨K, hK⟩, hr⟩ := ih (i + 1) (by omega) (by omega)
  dsimp only at hK
  by_cases h : rdOf ByteArray.empty l (i : Int) = p
  ·refine ⟨i, ⟨1, fun k hk => ?_⟩, ?_⟩
   ·obtain ⟨k, rfl⟩ : ∃ m, k = m + 1 := ⟨k - 1, by omega⟩
    simp only [slices_Index_string_string.l0]
    rw [if_pos (by omega), if_pos (by omega), if_pos (by omega), if_pos (by rw [h])]
   ·rw [rdOf_drop l i (by omega), h]; simp
  ·refine ⟨r, ⟨K + 1, fun k hk => ?_⟩, ?_⟩
   ·obtain ⟨k, rfl⟩ : ∃ m, k = m + 1 := ⟨k - 1, by omega⟩
    simp only [slices_Index_string_string.l0]
    rw [if_pos (by omega), if_pos (by omega), if_pos (by omega), if_neg (fun e => h (bs_inj (by rw [← toList_bs, ← toList_bs]; exact e.symm))), wrap_succ (n := l.length) (by omega) (by omega)]
    exact hK k (by omega)
   ·rw [hr, rdOf_drop l i (by omega)]; simp [Ne.symm h]
theorem prog_has (l : List ByteArray) (p : ByteArray) (hl : l.length ≤ 4294967296) : Ev (fun k => paths_Has.f k l p) (decide (p ∈ l)) := by
 obtain ⟨r, h, hr⟩ := index_run l p hl l.length 0 (by omega) (by omega)
 refine Ev.bind (a := decide (p ∈ l)) (Ev.bind (a := r) h (ev_pure fun k => ?_)) (ev_pure fun k => rfl)
 rw [hr, List.drop_zero]
theorem prog_split (a : ByteArray) (ha : a.size < 4294967281) : Ev (fun k => path_Split.f k a) (pB a) := ev_pure fun k => by unfold path_Split.f; rw [if_pos ha]
end Go.Proofs.YtdfkaclflmgkeaaDoor.PAll
