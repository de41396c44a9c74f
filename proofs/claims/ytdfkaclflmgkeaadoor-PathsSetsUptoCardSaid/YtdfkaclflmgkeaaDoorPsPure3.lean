/- Norm, Union, Minus, Meet, Dirs of lists of texts: what the printed functions answer. -/
import Derived.Test.YtdfkaclflmgkeaaDoorPsPAllx0
import Derived.Test.YtdfkaclflmgkeaaDoorPsHandB
import Derived.Test.YtdfkaclflmgkeaaDoorPsHandN
import Derived.Test.YtdfkaclflmgkeaaDoorPsPAlly0
import Derived.Test.YtdfkaclflmgkeaaDoorPsPAlly3
import Derived.Test.YtdfkaclflmgkeaaDoorPsPure1
import Derived.Test.YtdfkaclflmgkeaaDoorPsPure2
import Derived.Test.YtdfkaclflmgkeaaDoorPsSpec
namespace Go.Proofs.YtdfkaclflmgkeaaDoor.PAll
open Go.RowKit Go.Proofs.YtdfkaclflmgkeaaDoorW.PrintWords Go.Proofs.YtdfkaclflmgkeaaDoorW.PrintLast Go.Proofs.YtdfkaclflmgkeaaDoorW.PrintMore
open Go.Proofs.YtdfkaclflmgkeaaDoor.Sp
abbrev Fits (l : List ByteArray) : Prop := ∀ p ∈ l, p.size ≤ 1073741824
theorem Fits.at_ {l : List ByteArray} (h : Fits l) {i : Nat} (hi : i < l.length) : (rdOf ByteArray.empty l (i : Int)).size ≤ 1073741824 :=
 h _ (List.mem_of_mem_drop (i := i) (by rw [rdOf_drop l i hi]; exact List.mem_cons_self))
def put (x : ByteArray) : List ByteArray → List ByteArray
 | [] => [x]
 | y :: l => if cB x y < 0 then x :: y :: l else y :: put x l
theorem prog_norm (l : List ByteArray) (hl : l.length ≤ 4294967295) (hf : Fits l) : Ev (fun k => paths_Norm.f k l) (norm l) :=
 ev_pure fun k => by unfold paths_Norm.f; rw [if_pos ⟨by omega, fun x hx => by have := hf x hx; omega⟩]
theorem fits_norm {l : List ByteArray} (h : Fits l) : Fits (norm l) := fun p hp => h p (mem_norm.1 hp)
def mrg (f b s : Bool) : Nat → List ByteArray → List ByteArray → List ByteArray
 | 0, _, _ => []
 | _ + 1, [], [] => []
 | n + 1, x :: l, [] => (if f = true then [x] else []) ++ mrg f b s n l []
 | n + 1, [], y :: m => (if s = true then [y] else []) ++ mrg f b s n [] m
 | n + 1, x :: l, y :: m => if cB x y < 0 then (if f = true then [x] else []) ++ mrg f b s n l (y :: m) else if cB x y = 0 then (if b = true then [y] else []) ++ mrg f b s n l m else (if s = true then [y] else []) ++ mrg f b s n (x :: l) m
theorem mrg_mem (f b s : Bool) : ∀ n (l m : List ByteArray), l.length + m.length ≤ n → Rises l → Rises m → ∀ z, z ∈ mrg f b s n l m ↔ (z ∈ l ∧ z ∉ m ∧ f = true) ∨ (z ∈ l ∧ z ∈ m ∧ b = true) ∨ (z ∉ l ∧ z ∈ m ∧ s = true)
 | 0, [], [], _, _, _, z => by simp [mrg]
 | 0, _ :: _, _, h, _, _, _ => by simp at h
 | 0, [], _ :: _, h, _, _, _ => by simp at h
 | n + 1, [], [], _, _, _, z => by simp [mrg]
 | n + 1, x :: l, [], h, hl, hm, z => by
  have ih := mrg_mem f b s n l [] (by simp at h ⊢; omega) (List.pairwise_cons.1 hl).2 hm z
  simp only [mrg, List.mem_append, ih]
  cases f <;> simp
 | n + 1, [], y :: m, h, hl, hm, z => by
  have ih := mrg_mem f b s n [] m (by simp at h ⊢; omega) hl (List.pairwise_cons.1 hm).2 z
  simp only [mrg, List.mem_append, ih]
  cases s <;> simp
 | n + 1, x :: l, y :: m, h, hl, hm, z => by
  have hl' := List.pairwise_cons.1 hl
  have hm' := List.pairwise_cons.1 hm
  simp only [mrg]
  by_cases c : cB x y < 0
  ·rw [if_pos c, List.mem_append, mrg_mem f b s n l (y :: m) (by simp at h ⊢; omega) hl'.2 hm z]
   have hx : x ∉ y :: m := by
    intro hx
    rcases List.mem_cons.1 hx with e | hx
    ·rw [e, cB_self] at c; omega
    ·have := cB_trans c (hm'.1 x hx); rw [cB_self] at this; omega
   have hxl : x ∉ l := fun hx => by have := hl'.1 x hx; rw [cB_self] at this; omega
   by_cases e : z = x
   ·subst e; cases f <;> simp [hx, hxl]
   ·cases f <;> simp [e]
  ·rw [if_neg c]
   by_cases c0 : cB x y = 0
   ·have e := cB_eq c0
    subst e
    rw [if_pos c0, List.mem_append, mrg_mem f b s n l m (by simp at h ⊢; omega) hl'.2 hm'.2 z]
    have hxl : x ∉ l := fun hx => by have := hl'.1 x hx; rw [cB_self] at this; omega
    have hxm : x ∉ m := fun hx => by have := hm'.1 x hx; rw [cB_self] at this; omega
    by_cases e : z = x
    ·subst e; cases b <;> simp [hxl, hxm]
    ·cases b <;> simp [e]
   ·rw [if_neg c0, List.mem_append, mrg_mem f b s n (x :: l) m (by simp at h ⊢; omega) hl hm'.2 z]
    have cn := cB_neg x y
    have hy : y ∉ x :: l := by
     intro hy
     rcases List.mem_cons.1 hy with e | hy
     ·rw [e, cB_self] at c0; omega
     ·have := hl'.1 y hy; omega
    have hym : y ∉ m := fun hx => by have := hm'.1 y hx; rw [cB_self] at this; omega
    by_cases e : z = y
    ·subst e; cases s <;> simp [hy, hym]
    ·cases s <;> simp [e]
theorem mrg_low (f b s : Bool) (n : Nat) (l m : List ByteArray) (h : l.length + m.length ≤ n) (hl : Rises l) (hm : Rises m) (x : ByteArray) (hxl : ∀ z ∈ l, cB x z < 0) (hxm : ∀ z ∈ m, cB x z < 0) : ∀ z ∈ mrg f b s n l m, cB x z < 0 := by
 intro z hz
 rcases (mrg_mem f b s n l m h hl hm z).1 hz with h | h | h
 ·exact hxl z h.1
 ·exact hxl z h.1
 ·exact hxm z h.2.1
theorem mrg_rises (f b s : Bool) : ∀ n (l m : List ByteArray), l.length + m.length ≤ n → Rises l → Rises m → Rises (mrg f b s n l m)
 | 0, _, _, _, _, _ => by simp [mrg]
 | n + 1, [], [], _, _, _ => by simp [mrg]
 | n + 1, x :: l, [], h, hl, hm => by
  have hl' := List.pairwise_cons.1 hl
  have ih := mrg_rises f b s n l [] (by simp at h ⊢; omega) hl'.2 hm
  have lo := mrg_low f b s n l [] (by simp at h ⊢; omega) hl'.2 hm x hl'.1 (by simp)
  simp only [mrg]
  cases f
  ·simpa using ih
  ·exact List.pairwise_cons.2 ⟨lo, ih⟩
 | n + 1, [], y :: m, h, hl, hm => by
  have hm' := List.pairwise_cons.1 hm
  have ih := mrg_rises f b s n [] m (by simp at h ⊢; omega) hl hm'.2
  have lo := mrg_low f b s n [] m (by simp at h ⊢; omega) hl hm'.2 y (by simp) hm'.1
  simp only [mrg]
  cases s
  ·simpa using ih
  ·exact List.pairwise_cons.2 ⟨lo, ih⟩
 | n + 1, x :: l, y :: m, h, hl, hm => by
  have hl' := List.pairwise_cons.1 hl
  have hm' := List.pairwise_cons.1 hm
  simp only [mrg]
  by_cases c : cB x y < 0
  ·rw [if_pos c]
   have ih := mrg_rises f b s n l (y :: m) (by simp at h ⊢; omega) hl'.2 hm
   have lo := mrg_low f b s n l (y :: m) (by simp at h ⊢; omega) hl'.2 hm x hl'.1 (fun z hz => by
    rcases List.mem_cons.1 hz with rfl | hz
    ·exact c
    ·exact cB_trans c (hm'.1 z hz))
   cases f
   ·simpa using ih
   ·exact List.pairwise_cons.2 ⟨lo, ih⟩
  ·rw [if_neg c]
   by_cases c0 : cB x y = 0
   ·have e := cB_eq c0
    subst e
    rw [if_pos c0]
    have ih := mrg_rises f b s n l m (by simp at h ⊢; omega) hl'.2 hm'.2
    have lo := mrg_low f b s n l m (by simp at h ⊢; omega) hl'.2 hm'.2 x hl'.1 hm'.1
    cases b
    ·simpa using ih
    ·exact List.pairwise_cons.2 ⟨lo, ih⟩
   ·rw [if_neg c0]
    have cn := cB_neg x y
    have hyx : cB y x < 0 := by omega
    have ih := mrg_rises f b s n (x :: l) m (by simp at h ⊢; omega) hl hm'.2
    have lo := mrg_low f b s n (x :: l) m (by simp at h ⊢; omega) hl hm'.2 y (fun z hz => by
     rcases List.mem_cons.1 hz with rfl | hz
     ·exact hyx
     ·exact cB_trans hyx (hl'.1 z hz)) hm'.1
    cases s
    ·simpa using ih
    ·exact List.pairwise_cons.2 ⟨lo, ih⟩
end Go.Proofs.YtdfkaclflmgkeaaDoor.PAll
