/- What the rows of this seat share: the bound that a second form hands over, and bytes among the arguments. -/
import Derived.Test.YtdfkaclflmgkeaaRows
import Derived.Test.YtdfkaclflmgkeaaFWWords
import Derived.WalkKit
import Derived.ProofKit
import Derived.OpenShut
import Derived.ShutString
import Derived.JoinedCond
import Derived.ChangeSlices
namespace Go.Proofs.Ytdfkaclflmgkeaa.Rk
open Go.ChangeShapes Go.WideShapes Go.ChangeAt Go.RowKit
open Go.ChangeMaps (open_string shut_string)
open Go.Proofs.YtdfkaclflmgkeaaW.PrintWords
theorem bulk_one {H : Type} (d : DataW H) : 1 ≤ Rows.uptoBulk d := by
 cases d with
 | lit l => cases l <;> simp [Rows.uptoBulk]
 | nil => simp [Rows.uptoBulk]
 | ptr d => simp [Rows.uptoBulk]
 | slice elems spare => simp [Rows.uptoBulk]
 | agg parts => simp [Rows.uptoBulk]
 | iface t d => simp [Rows.uptoBulk]
 | map entries => simp [Rows.uptoBulk]
 | held h => simp [Rows.uptoBulk]
theorem bulk_length {H : Type} (l : List (DataW H)) : l.length ≤ Rows.uptoBulkAll l := by
 induction l with
 | nil => simp
 | cons x r ih => have := bulk_one x; simp only [Rows.uptoBulkAll, List.length_cons]; omega
theorem bulk_bound {H : Type} {l : List (DataW H)} (hk : Rows.uptoSmall H l = true) : Rows.uptoBulkAll l ≤ 1048576 := by
 simpa [Rows.uptoSmall] using hk
theorem bulk_str {H : Type} (s : ByteArray) : Rows.uptoBulk (.lit (.string s.data.toList) : DataW H) = s.size + 1 := by
 simp only [Rows.uptoBulk, Array.length_toList]; rfl
section
variable {H : Type} {enc : TypeId × Value → H} {W : World}
theorem bytes_in {P : Program} {base : Nat} {t e : TypeId} {v : Value} {d : DataW H} {p : List MemPlace} (ht : P.underlying t = some (.slice e)) (he : P.underlying e = some (.int .u8)) (hc : P.cellsOf e = 1)
  (hv : Value.okWide P W .any base t v) (h : DataW.Trod enc P W 0 (fun _ => true) true t v d p) :
  ∃ a cap l, v = .slice a l.length cap ∧ Kd.C (Kd.int .u8) W a l.length l ∧ l.length ≤ cap ∧ l.length ≤ Rows.uptoBulk d ∧ ∀ x ∈ l, 0 ≤ x ∧ x ≤ 255 := by
 obtain ⟨a, len, cap, rfl⟩ := okWide_slice ht hv
 obtain ⟨fuel, hf⟩ := h
 rcases open_ints ht he hc hf with ⟨hcs, _⟩ | ⟨x, l, c, zs, hcs, _, hl, hm, hz, hx, hcell, hw⟩
 ·simp [Value.cells] at hcs
  obtain ⟨rfl, rfl, rfl⟩ := hcs
  refine ⟨none, 0, [], rfl, ⟨rfl, by simp, fun h => absurd h (by simp)⟩, by simp, by simp, by simp⟩
 ·simp [Value.cells] at hcs
  obtain ⟨rfl, rfl, rfl⟩ := hcs
  have hlen : (zs.take len).length = len := by simp at hz ⊢; omega
  have hd : d = .slice (lits .u8 (zs.take len)) (lits .u8 (zs.drop len)) := congrArg Prod.fst hx
  refine ⟨some x, cap, zs.take len, by rw [hlen], ⟨rfl, ?_, fun _ => ⟨x, rfl, fun j p hj => ?_⟩⟩, by omega, ?_, fun n hn => ?_⟩
  ·have : maxLen ≤ 9223372036854775807 := by decide
   omega
  ·refine ⟨[.int .u8 p], rfl, rfl, fun i u hu => ?_⟩
   have hjl : j < len := by have := (List.getElem?_eq_some_iff.1 hj).1; omega
   cases i with
   | zero =>
    simp at hu
    subst hu
    have hs : j < zs.length := by simp at hz; omega
    have := hcell j hs
    have e1 : zs.getD j 0 = p := by
     rw [List.getElem?_take_of_lt hjl] at hj
     rw [List.getD_eq_getElem?_getD, hj]; rfl
    rw [e1] at this
    simpa [Kd.int, Kd.scalar] using this
   | succ i => simp at hu
  ·have := bulk_length (lits .u8 (zs.take len) : List (DataW H))
   rw [hd]
   simp only [Rows.uptoBulk]
   simp only [lits, List.length_map] at this ⊢
   omega
  ·have := hw n (List.mem_of_mem_take hn)
   simpa [Lit.wf, IntKind.min, IntKind.max, IntKind.signed, IntKind.bits] using this
end
theorem own : ownKnob Try.prog.godebug = none := by kernel_rfl
theorem laidOut : laidOutB Try.prog = true := by kernel_rfl
end Go.Proofs.Ytdfkaclflmgkeaa.Rk
