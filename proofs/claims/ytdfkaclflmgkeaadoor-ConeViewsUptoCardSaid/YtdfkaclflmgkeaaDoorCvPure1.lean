/- What the printed functions of path and paths answer, of texts and lists that are not too long: plain Lean. -/
import Derived.Test.YtdfkaclflmgkeaaDoorCvPAllx0
import Derived.Test.YtdfkaclflmgkeaaDoorCvHandA
import Derived.Test.YtdfkaclflmgkeaaDoorCvHandB
import Derived.Test.YtdfkaclflmgkeaaDoorCvPAlly0
import Derived.Test.YtdfkaclflmgkeaaDoorCvSpec
namespace Go.Proofs.YtdfkaclflmgkeaaDoor.PAll
open Go.RowKit Go.Proofs.YtdfkaclflmgkeaaDoorW.PrintWords Go.Proofs.YtdfkaclflmgkeaaDoorW.PrintLast Go.Proofs.YtdfkaclflmgkeaaDoorW.PrintMore
open Go.Proofs.YtdfkaclflmgkeaaDoor.Sp
theorem Ev.val {α : Type} {g : Nat → Option α} {r r' : α} (h : Ev g r) (e : r = r') : Ev g r' := e ▸ h
theorem ev_some {α : Type} (r : α) : Ev (fun _ => some r) r := Ev.now r
theorem ev_pure {α : Type} {g : Nat → Option α} {r : α} (h : ∀ k, g k = some r) : Ev g r := ⟨0, fun k _ => h k⟩
theorem wrap_add {x : Int} (h0 : -9223372036854775808 ≤ x) (h1 : x ≤ 9223372036854775807) : wrap64 x = x := by unfold wrap64; omega
theorem bt_get (a : ByteArray) (i : Nat) (h : i < a.size) : bt a (i : Int) = (((bs a)[i]'(by rw [bs_size]; exact h)).toNat : Int) := by
 unfold bt
 rw [dif_pos (by simpa using h)]
 rfl
theorem bt_eq (a : ByteArray) (i : Nat) (h : i < a.size) (c : UInt8) (n : Int) (hn : n = (c.toNat : Int)) : bt a (i : Int) = n ↔ (bs a)[i]'(by rw [bs_size]; exact h) = c := by
 rw [bt_get a i h, hn]
 constructor
 ·intro e; exact UInt8.toNat_inj.1 (by omega)
 ·intro e; rw [e]
theorem bs_drop (a : ByteArray) (i : Nat) (h : i < a.size) : (bs a).drop i = (bs a)[i]'(by rw [bs_size]; exact h) :: (bs a).drop (i + 1) := List.drop_eq_getElem_cons (by rw [bs_size]; exact h)
theorem extract_mk (a : ByteArray) (i j : Nat) : a.extract i j = mk (((bs a).take j).drop i) := by
 apply bs_inj
 rw [bs_mk]
 show (a.extract i j).data.toList = _
 rw [Lib.extract_data, List.drop_take]
 rfl
def splC (cur rest : Str) : List Str := match spl rest with
 | h :: t => (cur ++ h) :: t
 | [] => [cur]
theorem splC_nil (cur : Str) : splC cur [] = [cur] := by simp [splC, spl]
theorem splC_slash (cur r : Str) : splC cur (47 :: r) = cur :: splC [] r := by
 simp only [splC, spl, if_true, List.append_nil]
 congr 1
 cases h : spl r with
 | nil => exact absurd h (spl_ne r)
 | cons x t => simp
theorem splC_other (cur r : Str) {c : UInt8} (hc : c ≠ 47) : splC cur (c :: r) = splC (cur ++ [c]) r := by
 simp only [splC, spl, if_neg hc]
 cases h : spl r with
 | nil => exact absurd h (spl_ne r)
 | cons x t => simp
theorem splC_whole (s : Str) : splC [] s = spl s := by
 unfold splC
 cases h : spl s with
 | nil => exact absurd h (spl_ne s)
 | cons x t => simp
theorem prog_split (a : ByteArray) (ha : a.size < 4294967281) : Ev (fun k => path_Split.f k a) (pB a) := ev_pure fun k => by unfold path_Split.f; rw [if_pos ha]
end Go.Proofs.YtdfkaclflmgkeaaDoor.PAll
