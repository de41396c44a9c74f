/- What the rows of this seat share: the bound that a second form hands over, arguments opened as lists of texts, and a world for the witness that holds the two listed tables. -/
import Derived.Test.YtehfogjibhnabaaDoorCards
import Derived.Test.YtehfogjibhnabaaDoorTie
import Derived.Test.YtehfogjibhnabaaDoorPfWWords
import Derived.WalkKit
import Derived.ProofKit
import Derived.OpenShut
import Derived.ShutString
import Derived.SliceStrings
import Derived.Carry
import Derived.Deep.DeepHandedRow
import Derived.LaidLaws
namespace Go.Proofs.YtehfogjibhnabaaDoor.Rk
open Go.ChangeShapes Go.WideShapes Go.ChangeAt Go.RowKit
open Go.ChangeMaps (open_string shut_string)
open Go.Proofs.YtehfogjibhnabaaDoorW.PrintWords
theorem bulk_one {H : Type} (d : DataW H) : 1 ≤ Rows.uptoBulk d := by
 cases d with
 | lit l => cases l <;> simp [Rows.uptoBulk]
 | nil => simp [Rows.uptoBulk]
 | ptr d => simp [Rows.uptoBulk]
 | slice elems spare => simp [Rows.uptoBulk]
 | agg parts => simp [Rows.uptoBulk]
 | iface t d => simp [Rows.uptoBulk]
 | map entries => simp [Rows.uptoBulk]
 | held h => simp [Rows.uptoBulk]
theorem bulk_mem {H : Type} {d : DataW H} {l : List (DataW H)} (h : d ∈ l) : Rows.uptoBulk d ≤ Rows.uptoBulkAll l := by
 induction l with
 | nil => cases h
 | cons x r ih =>
  simp only [Rows.uptoBulkAll]
  rcases List.mem_cons.1 h with e | e
  ·subst e; omega
  ·have := ih e; omega
theorem bulk_length {H : Type} (l : List (DataW H)) : l.length ≤ Rows.uptoBulkAll l := by
 induction l with
 | nil => simp
 | cons x r ih => have := bulk_one x; simp only [Rows.uptoBulkAll, List.length_cons]; omega
theorem bulk_bound {H : Type} {l : List (DataW H)} (hk : Rows.uptoSmall H l = true) : Rows.uptoBulkAll l ≤ 1048576 := by
 simpa [Rows.uptoSmall] using hk
theorem bulk_strs {H : Type} (l : List ByteArray) (spare : List (DataW H)) : l.length + 1 ≤ Rows.uptoBulk (DataW.slice (strs l) spare) ∧ ∀ s ∈ l, s.size ≤ Rows.uptoBulk (DataW.slice (strs l) spare) := by
 simp only [Rows.uptoBulk]
 refine ⟨?_, fun s hs => ?_⟩
 ·have := bulk_length (strs l : List (DataW H))
  simp only [strs, List.length_map] at this ⊢
  omega
 ·have := bulk_mem (d := (.lit (.string s.data.toList) : DataW H)) (l := strs l) (List.mem_map.2 ⟨s, hs, rfl⟩)
  have e : Rows.uptoBulk (.lit (.string s.data.toList) : DataW H) = s.size + 1 := by
   simp only [Rows.uptoBulk, Array.length_toList]; rfl
  omega
theorem bulk_str {H : Type} (s : ByteArray) : Rows.uptoBulk (.lit (.string s.data.toList) : DataW H) = s.size + 1 := by
 simp only [Rows.uptoBulk, Array.length_toList]; rfl
section
variable {H : Type} {enc : TypeId × Value → H} {W : World}
theorem strs_in {P : Program} {base : Nat} {t e : TypeId} {v : Value} {d : DataW H} {p : List MemPlace} (ht : P.underlying t = some (.slice e)) (he : P.underlying e = some .string) (hc : P.cellsOf e = 1)
  (hv : Value.okWide P W .any base t v) (h : DataW.Trod enc P W 0 (fun _ => true) true t v d p) :
  ∃ a cap l, v = .slice a l.length cap ∧ Kd.C Kd.string W a l.length l ∧ l.length ≤ cap ∧ l.length ≤ Rows.uptoBulk d ∧ ∀ s ∈ l, s.size ≤ Rows.uptoBulk d := by
 obtain ⟨a, len, cap, rfl⟩ := okWide_slice ht hv
 obtain ⟨fuel, hf⟩ := h
 rcases open_strings ht he hc hf with ⟨hcs, _⟩ | ⟨x, l, c, ss, hcs, _, hl, hm, hz, hx, hcell, _⟩
 ·simp [Value.cells] at hcs
  obtain ⟨rfl, rfl, rfl⟩ := hcs
  refine ⟨none, 0, [], rfl, ⟨rfl, by simp, fun h => absurd h (by simp)⟩, by simp, by simp, by simp⟩
 ·simp [Value.cells] at hcs
  obtain ⟨rfl, rfl, rfl⟩ := hcs
  have hlen : (ss.take len).length = len := by simp at hz ⊢; omega
  have hd : d = .slice (strs (ss.take len)) (strs (ss.drop len)) := congrArg Prod.fst hx
  refine ⟨some x, cap, ss.take len, by rw [hlen], ⟨rfl, ?_, fun _ => ⟨x, rfl, fun j p hj => ?_⟩⟩, by omega, ?_, ?_⟩
  ·have : maxLen ≤ 9223372036854775807 := by decide
   omega
  ·refine ⟨[.string p], rfl, rfl, fun i u hu => ?_⟩
   have hjl : j < len := by have := (List.getElem?_eq_some_iff.1 hj).1; omega
   cases i with
   | zero =>
    simp at hu
    subst hu
    have hs : j < ss.length := by simp at hz; omega
    have := hcell j hs
    have e1 : ss.getD j ByteArray.empty = p := by
     rw [List.getElem?_take_of_lt hjl] at hj
     rw [List.getD_eq_getElem?_getD, hj]; rfl
    rw [e1] at this
    simpa [Kd.string, Kd.scalar] using this
   | succ i => simp at hu
  ·have := (bulk_strs (H := H) (ss.take len) (strs (ss.drop len))).1
   rw [hd]; omega
  ·rw [hd]; exact (bulk_strs (H := H) (ss.take len) (strs (ss.drop len))).2
end
theorem own : ownKnob Tryd.prog.godebug = none := by kernel_rfl
theorem laidOut : laidOutB Tryd.prog = true := by kernel_rfl
def fill (vs : List Nat) (o : Obj) : Obj := match o with
 | .cells _ t frozen => .cells (vs.map fun (n : Nat) => Value.int .u8 (n : Int)).toArray t frozen
 | o => o
noncomputable def laidWorld (os : Os) : World :=
 { World.holding Tryd.prog os ⟨#[], #[], []⟩ with heap := ((World.holding Tryd.prog os ⟨#[], #[], []⟩).heap.modify 1 (fill Go.Pinned.utf8FirstZ)).modify 2 (fill ([128, 191, 160, 191, 128, 159, 144, 191, 128, 143] ++ List.replicate 22 0)) }
end Go.Proofs.YtehfogjibhnabaaDoor.Rk
