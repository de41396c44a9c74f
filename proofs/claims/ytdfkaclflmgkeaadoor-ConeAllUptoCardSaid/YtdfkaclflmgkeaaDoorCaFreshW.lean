/- Rows that lie apart, one of them grown while another slice still leads to its head: what append keeps. -/
import Derived.Test.YtdfkaclflmgkeaaDoorCaPAllx0
import Derived.Test.YtdfkaclflmgkeaaDoorCaHandA
import Derived.Test.YtdfkaclflmgkeaaDoorCaRowKit
import Derived.Deep.Onto
import Derived.Test.YtdfkaclflmgkeaaDoorCaPAlly3
import Derived.Test.YtdfkaclflmgkeaaDoorCaShelf
import Derived.Sort.Grow
import Derived.Shelf.SlSortCmp.NoneTotal
import Derived.RangeFuncNested
import Derived.RangeFuncBox
import Derived.RangeFuncBound
import Derived.RangeFuncCalls
import Derived.RangeFuncLeaves
import Derived.Shelf.Abstract
import Derived.Shelf.RegionOpen
import Derived.WalkKit
import Derived.OwnWalkIn
import Derived.TacticsInMore
import Derived.LoopNIn
import Derived.LoopIn
import Derived.Maps.AppendAt
namespace Go.Proofs.YtdfkaclflmgkeaaDoor.PAll
open Go.RowKit Go.Proofs.YtdfkaclflmgkeaaDoorW.PrintWords Go.Proofs.YtdfkaclflmgkeaaDoorW.PrintLast Go.Proofs.YtdfkaclflmgkeaaDoorW.PrintMore
section
variable {P : Program}
end
abbrev OS (e : TypeId) (w : World) (v : Value) (xs : List ByteArray) : Prop := w.ownsRow 0 e 1 v xs.length (xs.map Value.string)
theorem OS.far {e : TypeId} {w : World} {v : Value} {xs : List ByteArray} (h : OS e w v xs) {g j : Nat} (u : Value) (hne : ∀ k, v.ownBlock = some k → k ≠ g) : OS e (w.setCell ⟨g, j, none⟩ u) v xs :=
 own_move h fun k hk => Below.heap_setCell w ⟨g, j, none⟩ u k (hne k hk)
theorem OS.below {e : TypeId} {w w1 : World} {v : Value} {xs : List ByteArray} (h : OS e w v xs) (hb : Below w.heap.size w w1) : OS e w1 v xs :=
 own_move h fun k hk => hb.block k (own_lt h k hk)
theorem OS.set {e : TypeId} {w : World} {g n cap : Nat} {xs : List ByteArray} (h : OS e w (.slice (some ⟨g, 0, none⟩) n cap) xs) (hn : n = xs.length) (j : Nat) (m : ByteArray) : OS e (w.setCell ⟨g, j, none⟩ (.string m)) (.slice (some ⟨g, 0, none⟩) n cap) (xs.set j m) := by
 subst hn
 have := (own_store_of (enc := Value.string) (xs := xs) (show w.ownsRow 0 e 1 (.slice (some ⟨g, 0, none⟩) xs.length cap) xs.length (encs Value.string xs) from h) (j : Int) m).1
 rw [Int.toNat_natCast] at this
 show World.ownsRow _ _ _ _ _ _ _
 rw [List.length_set]
 exact this
theorem OS.reads {e : TypeId} {w : World} {v : Value} {xs : List ByteArray} (h : OS e w v xs) : ∃ A c, v = .slice A xs.length c ∧ xs.length ≤ c ∧ Kd.C Kd.string w A xs.length xs := by
 have hR : Kd.R Kd.string e w 0 (fun _ => True) v xs := ⟨fun _ _ => trivial, xs.map Value.string, h, reps_strs (M := Kd.string.M w 0 (fun k' => True ∧ some k' ≠ v.ownBlock)) (fun _ => rfl) xs⟩
 exact Kd.R_reads hR
structure Bl (Pb : Nat → Prop) (w w' : World) : Prop where
 os : w'.os = w.os
 tape : w'.tape = w.tape
 output : w'.output = w.output
 size : w.heap.size ≤ w'.heap.size
 block : ∀ k, k < w.heap.size → ¬ Pb k → w'.heap[k]? = w.heap[k]?
theorem Bl.refl (Pb : Nat → Prop) (w : World) : Bl Pb w w := ⟨rfl, rfl, rfl, Nat.le_refl _, fun _ _ _ => rfl⟩
theorem Bl.trans {Pb : Nat → Prop} {a b c : World} (h : Bl Pb a b) (k : Bl Pb b c) : Bl Pb a c := ⟨k.os.trans h.os, k.tape.trans h.tape, k.output.trans h.output, Nat.le_trans h.size k.size, fun q hq hp => (k.block q (Nat.lt_of_lt_of_le hq h.size) hp).trans (h.block q hq hp)⟩
theorem Bl.of_below {Pb : Nat → Prop} {w w' : World} (h : Below w.heap.size w w') : Bl Pb w w' := ⟨h.os, h.tape, h.output, h.size, fun k hk _ => h.block k hk⟩
theorem Bl.setCell {Pb : Nat → Prop} {w w' : World} (h : Bl Pb w w') {g j : Nat} (hg : Pb g) (u : Value) : Bl Pb w (w'.setCell ⟨g, j, none⟩ u) :=
 h.trans ⟨rfl, rfl, rfl, by simp [World.setCell], fun k _ hp => Below.heap_setCell w' ⟨g, j, none⟩ u k (fun e => hp (by have e : k = g := e; rw [e]; exact hg))⟩
theorem Bl.drew {Pb : Nat → Prop} {w w' : World} (h : Bl Pb w w') : Bl Pb w w'.drew := ⟨h.os, h.tape, h.output, h.size, h.block⟩
theorem Bl.drewN {Pb : Nat → Prop} {w w' : World} (h : Bl Pb w w') (n : Nat) : Bl Pb w (w'.drewN n) := ⟨h.os, h.tape, h.output, h.size, h.block⟩
theorem Bl.below {Pb : Nat → Prop} {w w' : World} {B : Nat} (h : Bl Pb w w') (hB : B ≤ w.heap.size) (hb : ∀ k, Pb k → B ≤ k) : Below B w w' := ⟨h.os, h.tape, h.output, h.size, fun k hk => h.block k (by omega) (fun hp => by have := hb k hp; omega)⟩
section
variable {P : Program} {ops : Array Oper} {rest : List Oper} {o : Oper} {a : Act} {Q : Exit → Act → World → Prop}
end
end Go.Proofs.YtdfkaclflmgkeaaDoor.PAll
namespace Go.Proofs.YtdfkaclflmgkeaaDoor.PAll
open Go.RowKit Go.Shelf Go.Proofs.YtdfkaclflmgkeaaDoorW.PrintWords Go.Proofs.YtdfkaclflmgkeaaDoorW.PrintLast Go.Proofs.YtdfkaclflmgkeaaDoorW.PrintMore
open Go.Proofs.YtdfkaclflmgkeaaDoor.Sp Go.Sort
theorem le_lt {a b c : Str} (h : cmpP a b ≤ 0) (k : cmpP b c < 0) : cmpP a c < 0 := by
 by_cases e : cmpP a b = 0
 ·rw [cmpP_eq e]; exact k
 ·exact cmpP_trans (by omega) k
theorem le_le {a b c : Str} (h : cmpP a b ≤ 0) (k : cmpP b c ≤ 0) : cmpP a c ≤ 0 := by
 by_cases e : cmpP b c = 0
 ·rw [← cmpP_eq e]; exact h
 ·have := le_lt h (show cmpP b c < 0 by omega); omega
theorem comp_spec (d : Array Str) (hs : ∀ i j, i < j → j < d.size → 0 ≤ cmpP d[j]! d[i]!) : ∀ m, m ≤ d.size →
  (Lib.compactUpTo d m).Pairwise (fun a b => cmpP a b < 0) ∧ (∀ z, z ∈ Lib.compactUpTo d m ↔ ∃ j, j < m ∧ d[j]! = z) ∧ ∀ z ∈ Lib.compactUpTo d m, cmpP z d[m - 1]! ≤ 0
 | 0, _ => by simp [Lib.compactUpTo]
 | m + 1, hm => by
  obtain ⟨h1, h2, h3⟩ := comp_spec d hs m (by omega)
  have hstep : 0 < m → cmpP d[m - 1]! d[m]! ≤ 0 := fun h0 => by
   have := hs (m - 1) m (by omega) (by omega)
   have := cmpP_neg d[m - 1]! d[m]!
   omega
  rw [Lib.compactUpTo_succ]
  by_cases hk : Lib.keeps d m = true
  ·rw [if_pos hk]
   have hk' : m = 0 ∨ d[m]! ≠ d[m - 1]! := by simpa [Lib.keeps] using hk
   have hlt : ∀ z ∈ Lib.compactUpTo d m, cmpP z d[m]! < 0 := fun z hz => by
    rcases hk' with rfl | hne
    ·simp [Lib.compactUpTo] at hz
    ·rcases Nat.eq_zero_or_pos m with rfl | h0
     ·simp [Lib.compactUpTo] at hz
     ·have := hstep h0
      refine le_lt (h3 z hz) ?_
      have : cmpP d[m - 1]! d[m]! ≠ 0 := fun e => hne (cmpP_eq e).symm
      omega
   refine ⟨List.pairwise_append.2 ⟨h1, List.pairwise_singleton _ _, fun a ha b hb => by rw [List.mem_singleton.1 hb]; exact hlt a ha⟩, fun z => ?_, fun z hz => ?_⟩
   ·rw [List.mem_append, h2, List.mem_singleton]
    constructor
    ·rintro (⟨j, hj, rfl⟩ | rfl)
     ·exact ⟨j, by omega, rfl⟩
     ·exact ⟨m, by omega, rfl⟩
    ·rintro ⟨j, hj, rfl⟩
     by_cases e : j = m
     ·exact .inr (by rw [e])
     ·exact .inl ⟨j, by omega, rfl⟩
   ·rcases List.mem_append.1 hz with hz | hz
    ·have := hlt z hz; simp only [Nat.add_sub_cancel]; omega
    ·rw [List.mem_singleton.1 hz]; simp only [Nat.add_sub_cancel]; rw [cmpP_self]; exact Int.le_refl _
  ·rw [if_neg hk, List.append_nil]
   have hk' : m ≠ 0 ∧ d[m]! = d[m - 1]! := by simpa [Lib.keeps] using hk
   refine ⟨h1, fun z => ?_, fun z hz => by simp only [Nat.add_sub_cancel]; rw [hk'.2]; exact h3 z hz⟩
   rw [h2]
   constructor
   ·rintro ⟨j, hj, rfl⟩; exact ⟨j, by omega, rfl⟩
   ·rintro ⟨j, hj, rfl⟩
    by_cases e : j = m
    ·exact ⟨m - 1, by omega, by rw [e, hk'.2]⟩
    ·exact ⟨j, by omega, rfl⟩
abbrev Sh := { s : ByteArray // s.size < 4294967281 }
instance : Inhabited Sh := ⟨⟨ByteArray.empty, by decide⟩⟩
def encSh (s : Sh) : Value := .string s.1
def cmpSh (x y : Sh) : Int := cB x.1 y.1
theorem ltSh (x y : Sh) : ltOf cmpSh x y = true ↔ cB x.1 y.1 < 0 := by unfold ltOf cmpSh; exact decide_eq_true_iff
theorem swoSh : SWO (ltOf cmpSh) where
 irrefl x := by simp [ltOf, cmpSh, cB_self]
 trans x y z h k := (ltSh x z).2 (cB_trans ((ltSh x y).1 h) ((ltSh y z).1 k))
 ntrans x y z h k := by
  have h' : ¬ cB x.1 y.1 < 0 := fun e => by rw [(ltSh x y).2 e] at h; cases h
  have k' : ¬ cB y.1 z.1 < 0 := fun e => by rw [(ltSh y z).2 e] at k; cases k
  rw [← Bool.not_eq_true, ltSh]
  have h1 := cB_neg x.1 y.1
  have k1 := cB_neg y.1 z.1
  intro e
  have e1 := cB_neg x.1 z.1
  have : cmpP (bs z.1) (bs x.1) ≤ 0 := le_le (b := bs y.1) (by show cB z.1 y.1 ≤ 0; omega) (by show cB y.1 x.1 ≤ 0; omega)
  have : cB z.1 x.1 ≤ 0 := this
  omega
theorem compact_sorted (d : Array Sh) (hs : SortedIn (ltOf cmpSh) 0 d.size d) (l : List ByteArray) (hp : (d.toList.map (·.1)).Perm l) :
  (Lib.compact (d.toList.map fun s : Sh => bs s.1)).map mk = norm l := by
 have hsz : ((d.toList.map fun s : Sh => bs s.1).toArray).size = d.size := by simp
 have hget : ∀ j, j < d.size → ((d.toList.map fun s : Sh => bs s.1).toArray)[j]! = bs d[j]!.1 := fun j hj => by
  rw [getElem!_pos _ j (by simpa using hj), getElem!_pos d j hj]; simp
 obtain ⟨h1, h2, _⟩ := comp_spec (d.toList.map fun s : Sh => bs s.1).toArray (fun i j hij hj => by
  rw [hsz] at hj
  rw [hget j hj, hget i (by omega)]
  have := hs i j (Nat.zero_le _) hij hj
  have h3 : ¬ cB d[j]!.1 d[i]!.1 < 0 := fun e => by rw [(ltSh _ _).2 e] at this; cases this
  show 0 ≤ cB d[j]!.1 d[i]!.1
  omega) (d.toList.map fun s : Sh => bs s.1).toArray.size (Nat.le_refl _)
 refine (norm_is ?_ fun z => ?_).symm
 ·refine List.pairwise_map.2 ?_
  have : Lib.compact (d.toList.map fun s : Sh => bs s.1) = Lib.compactUpTo (d.toList.map fun s : Sh => bs s.1).toArray (d.toList.map fun s : Sh => bs s.1).toArray.size := by simp [Lib.compact]
  rw [this]
  exact h1.imp fun {a b} h => by show cmpP (bs (mk a)) (bs (mk b)) < 0; rw [bs_mk, bs_mk]; exact h
 ·have : Lib.compact (d.toList.map fun s : Sh => bs s.1) = Lib.compactUpTo (d.toList.map fun s : Sh => bs s.1).toArray (d.toList.map fun s : Sh => bs s.1).toArray.size := by simp [Lib.compact]
  rw [this, List.mem_map]
  rw [← hp.mem_iff]
  constructor
  ·rintro ⟨y, hy, rfl⟩
   obtain ⟨j, hj, rfl⟩ := (h2 y).1 hy
   rw [hsz] at hj
   rw [hget j hj, mk_bs, getElem!_pos d j hj]
   exact List.mem_map.2 ⟨d[j], by simp, rfl⟩
  ·intro hz
   obtain ⟨s, hs', rfl⟩ := List.mem_map.1 hz
   obtain ⟨j, hj, rfl⟩ := List.getElem_of_mem hs'
   have hj' : j < d.size := by simpa using hj
   exact ⟨bs d[j].1, (h2 _).2 ⟨j, by rw [hsz]; exact hj', by rw [hget j hj', getElem!_pos d j hj']⟩, by rw [mk_bs]; simp⟩
theorem heap_putRow {α : Type} [Inhabited α] (enc : α → Value) (w : World) (g off : Nat) (d : Array α) {c : Array Value} {e : TypeId} {fr : Nat × Nat} (h : w.heap[g]? = some (.cells c e fr)) : (putRow enc w g off d).heap[g]? = some (.cells (putCells enc off d c) e fr) := by
 unfold putRow mapBlock
 simp [Array.getElem?_modify, h, onCells]
theorem heap_putRow_other {α : Type} [Inhabited α] (enc : α → Value) (w : World) (g off : Nat) (d : Array α) {k : Nat} (h : k ≠ g) : (putRow enc w g off d).heap[k]? = w.heap[k]? := by
 unfold putRow mapBlock
 simp [Array.getElem?_modify, Ne.symm h]
theorem size_putCells {α : Type} [Inhabited α] (enc : α → Value) (off : Nat) (d : Array α) (c : Array Value) : (putCells enc off d c).size = c.size := by simp [putCells]
theorem below_putRow {α : Type} [Inhabited α] (enc : α → Value) {w W : World} {B : Nat} (g off : Nat) (d : Array α) (hb : Below B w W) (hg : B ≤ g) : Below B w (putRow enc W g off d) :=
 ⟨hb.os, hb.tape, hb.output, by rw [show (putRow enc W g off d).heap.size = W.heap.size by simp [putRow, mapBlock]]; exact hb.size, fun k hk => (heap_putRow_other enc W g off d (by omega)).trans (hb.block k hk)⟩
theorem below_ahead {w W : World} {B : Nat} (n : Nat) (hb : Below B w W) : Below B w (Sort.ahead W n) := ⟨hb.os, hb.tape, hb.output, hb.size, hb.block⟩
theorem below_grow {w W : World} {B : Nat} (os : Array Obj) (hb : Below B w W) (hB : B ≤ W.heap.size) : Below B w (grow W os) :=
 ⟨hb.os, hb.tape, hb.output, by rw [size_grow]; have := hb.size; omega, fun k hk => (heap_grow_old W os (by omega)).trans (hb.block k hk)⟩
theorem take_putCells (l : List ByteArray) (n : Nat) (d : Array Str) (c : Array Value) (hl : l.length = n) (hn : n ≤ d.size) (hc : d.size ≤ c.size) (hd : ∀ j, j < n → d[j]! = bs (l.getD j ByteArray.empty)) : ((putCells encStr 0 d c).toList.take n) = l.map Value.string := by
 apply List.ext_getElem
 ·simp [size_putCells]; omega
 ·intro i h1 h2
  have hi : i < n := by simpa [hl] using h2
  have e : (putCells encStr 0 d c)[i]? = some (.string (l.getD i ByteArray.empty)) := by
   unfold putCells
   rw [Array.getElem?_mapIdx, Array.getElem?_eq_getElem (by omega), Option.map_some, if_pos ⟨by omega, by omega⟩, Nat.sub_zero, hd i hi]
   show some (Value.string (mk (bs (l.getD i ByteArray.empty)))) = _
   rw [mk_bs]
  simp only [List.getElem_take, List.getElem_map, Array.getElem_toList]
  have hi' : i < (putCells encStr 0 d c).size := by rw [size_putCells]; omega
  rw [Array.getElem?_eq_getElem hi'] at e
  rw [Option.some.inj e]
  simp [List.getD_eq_getElem?_getD, List.getElem?_eq_getElem (show i < l.length by omega)]
def paths_Norm.f (_k : Nat) (l0 : List ByteArray) : Option (List ByteArray) := if l0.length < 8796093022208 ∧ ∀ x ∈ l0, x.size < 4294967281 then some (norm l0) else none
theorem paths_Norm.mono : ∀ a0 k, LeO (paths_Norm.f k a0) (paths_Norm.f (k + 1) a0) := fun _ _ => LeO.refl _
theorem cmpLays (g n : Nat) (w : World) : CmpLays1 Tryd.prog 51 #[] encSh cmpSh g 0 n w := fun m os dk _ x y => by
 have h := cmp_gr x.1 y.1 x.2 y.2 (sortWorld encSh w g 0 m dk os)
 exact h
theorem holds_sh {w : World} {g cap n : Nat} {base : Nat} {l : List ByteArray} (h : w.ownsRow base 9 1 (.slice (some ⟨g, 0, none⟩) n cap) n (encs Value.string l)) (d : Array Sh) (hd : d.toList.map (·.1) = l) : Holds encSh w g 0 d := by
 intro j hj
 have hl : l.length = d.size := by rw [← hd]; simp
 have hn : l.length = n := by have := h.1; simp [encs] at this; exact this
 obtain ⟨h1, h2⟩ := own_at_of (d := ByteArray.empty) h (j : Int) (by omega) (by omega)
 have e : rdOf ByteArray.empty l (j : Int) = d[j]!.1 := by
  rw [rdOf_getD, ← hd, getElem!_pos d j hj]
  simp [List.getD_eq_getElem?_getD, hj]
 simp only [Int.toNat_natCast] at h1 h2
 rw [Nat.zero_add]
 exact ⟨by rw [h1, e]; rfl, h2⟩
theorem holds_map {w : World} {g : Nat} {d : Array Sh} (h : Holds encSh w g 0 d) : Holds encStr w g 0 (d.toList.map fun s : Sh => bs s.1).toArray := by
 intro j hj
 have hj' : j < d.size := by simpa using hj
 refine ⟨?_, (h j hj').2⟩
 rw [(h j hj').1, getElem!_pos (d.toList.map fun s : Sh => bs s.1).toArray j hj, getElem!_pos d j hj']
 show some (Value.string _) = some (Value.string (mk _))
 simp [mk_bs]
def shs (d : Array Sh) : List Str := d.toList.map fun s : Sh => bs s.1
theorem shs_length (d : Array Sh) : (shs d).length = d.size := by unfold shs; rw [List.length_map, Array.length_toList]
theorem holds_map' {w : World} {g : Nat} {d : Array Sh} (h : Holds encSh w g 0 d) : Holds encStr w g 0 (shs d).toArray := holds_map h
theorem own_norm {w1 : World} {base g cap n m : Nat} {l : List ByteArray} (h : w1.ownsRow base 9 1 (.slice (some ⟨g, 0, none⟩) n cap) n (encs Value.string l)) (d : Array Sh) (os : Array Obj) (q : Nat) (r : List ByteArray) (z : Array Str) (hz : z.size = n) (hr : r.length ≤ n) (hzr : ∀ j, j < r.length → z[j]! = bs (r.getD j ByteArray.empty)) (hg : g < w1.heap.size) :
  Kd.R Kd.string 9 (putRow encStr (Sort.ahead (sortWorld encSh w1 g 0 m d os) q) g 0 z) base (fun _ => True) (.slice (some ⟨g, 0, none⟩) r.length cap) r := by
 obtain ⟨_, h2⟩ := h
 rcases h2 with ⟨h', _⟩ | ⟨g', cap', cur, h', hb, hh, h3, h4, h5, h6⟩
 ·cases h'
 ·obtain ⟨rfl, rfl⟩ : g = g' ∧ cap = cap' := by
   injection h' with h1 h2 h3
   injection h1 with h1
   injection h1 with h1
   exact ⟨h1, h3⟩
  have e1 : (putRow encStr (Sort.ahead (sortWorld encSh w1 g 0 m d os) q) g 0 z).heap[g]? = some (.cells (putCells encStr 0 z (putCells encSh 0 d cur)) 9 (0, 0)) := by
   refine heap_putRow encStr _ g 0 z ?_
   show (sortWorld encSh w1 g 0 m d os).heap[g]? = _
   unfold sortWorld
   rw [heap_grow_old _ _ (by simpa [putRow, mapBlock, Sort.ahead] using hg)]
   exact heap_putRow encSh _ g 0 d hh
  refine ⟨fun _ _ => trivial, r.map Value.string, ⟨by rw [List.length_map]; exact (Nat.mul_one _).symm, .inr ⟨g, cap, _, rfl, hb, e1, by omega, h4, by rw [size_putCells, size_putCells]; exact h5, ?_⟩⟩, reps_strs (M := Kd.string.M _ _ _) (fun _ => rfl) r⟩
  show (putCells encStr 0 z (putCells encSh 0 d cur)).toList.take (r.length * 1) = _
  rw [Nat.mul_one]
  exact take_putCells r r.length z _ rfl (by omega) (by rw [size_putCells]; omega) hzr
set_option maxHeartbeats 1000000 in
set_option maxRecDepth 100000 in
theorem norm_some (b off n c : Nat) (l : List ByteArray) (w : World) (hn : l.length = n) (h0 : 0 < n) (hbig : n < 8796093022208) (hsm : ∀ x ∈ l, x.size < 4294967281)
  (hc : ∀ j, j < n → w.cell? ⟨b, off + j, none⟩ = some (.string (l.getD j ByteArray.empty))) :
  Calls Tryd.prog 15 #[.slice (some ⟨b, off, none⟩) n c] w fun e w' => ∃ v0_ : Value, e = .returned (v0_) ∧ Kd.R Kd.string 9 w' w.heap.size (fun _ => True) v0_ (norm l) ∧ Below w.heap.size w w' := by
 have C1 := Aside0.mk (Tryd.slices_Clone_string b off n c l w (by omega) (by omega) (fun j hj => hc j (by omega)))
 have HN := Aside0.mk hn
 have H0 := Aside0.mk h0
 have HB := Aside0.mk hbig
 have HS := Aside0.mk hsm
 clear hc hn h0 hbig hsm
 go_enter Tryd.func15, Tryd.ntmps15
 go_wp2_with fail
 refine C1.out.mono ?_
 rintro e w1 ⟨v1, rfl, hown, _, hb1⟩
 obtain ⟨g, cap, rfl, hg0, hg1⟩ : ∃ g cap, v1 = .slice (some ⟨g, 0, none⟩) n cap ∧ w.heap.size ≤ g ∧ g < w1.heap.size := by
  obtain ⟨g, cap, rfl, h1, h2⟩ := hown.form H0.out
  exact ⟨g, cap, rfl, own_base hown g rfl, own_lt hown g rfl⟩
 have hcap := own_le hown
 rw [List.take_of_length_le (by have := HN.out; omega)] at hown
 obtain ⟨d, hd⟩ : ∃ d : Array Sh, d.toList.map (·.1) = l := ⟨(l.pmap (fun x hx => (⟨x, hx⟩ : Sh)) HS.out).toArray, by simp [List.map_pmap]⟩
 have hdn : d.size = n := by rw [← HN.out, ← hd]; simp
 have C2 := Aside0.mk (Tryd.slices_SortFunc encSh (fun _ => rfl) cmpSh swoSh 51 #[] g 0 cap d w1 (enters_of Tryd.func51 (by kernel_rfl) rfl) (cmpLays g d.size w1) (holds_sh hown d hd) hg1 (by have := HB.out; omega))
 have OWN := Aside0.mk hown
 have HD := Aside0.mk hd
 have DN := Aside0.mk hdn
 have HCAP := Aside0.mk hcap
 have HG := Aside0.mk (And.intro hg0 hg1)
 have B1 := Aside0.mk hb1
 clear hown hd hcap hg0 hg1 hb1 C1
 rw [hdn] at C2
 clear hdn
 go_wp2_with fail
 refine C2.out.mono ?_
 rintro e w2 ⟨rfl, d', m, os, hp, hs, rfl⟩
 have hd' : d'.size = n := hp.1.trans DN.out
 have hH2 : Holds encSh (sortWorld encSh w1 g 0 m d' os) g 0 d' := SW.holds ⟨m, os, rfl⟩ HG.out.2 (holds_sh OWN.out d HD.out) hp.1
 have C3 := Aside0.mk (Tryd.slices_Compact_string g 0 cap (shs d') (sortWorld encSh w1 g 0 m d' os) (holds_map' hH2) (by have := HB.out; rw [shs_length]; omega) (by have := HCAP.out; rw [shs_length]; omega))
 have hlen : (shs d').length = n := (shs_length d').trans hd'
 rw [hlen] at C3
 have hperm : (d'.toList.map (·.1)).Perm l := by
  have := hp.2.2
  rw [show d'.extract 0 n = d' by rw [← hd', Array.extract_size], show d.extract 0 n = d by rw [← DN.out, Array.extract_size]] at this
  rw [← HD.out]
  exact this.map _
 have hsort : SortedIn (ltOf cmpSh) 0 d'.size d' := by rw [hd']; exact hs
 have hres : (Lib.compact (shs d')).map mk = norm l := compact_sorted d' hsort l hperm
 have hclen : (Lib.compact (shs d')).length = (norm l).length := by rw [← hres, List.length_map]
 have hcle : (Lib.compact (shs d')).length ≤ n := by rw [← hlen]; exact Lib.compact_length_le _
 have FIN := fun q => own_norm (m := m) OWN.out d' os q (norm l) (Lib.compact (shs d') ++ List.replicate (n - (Lib.compact (shs d')).length) []).toArray (by simp only [List.size_toArray, List.length_append, List.length_replicate]; omega) (by omega) (fun j hj => by
  rw [← hres]
  have hj' : j < (Lib.compact (shs d')).length := by omega
  rw [getElem!_pos _ j (by simp only [List.size_toArray, List.length_append, List.length_replicate]; omega)]
  simp only [List.getElem_toArray]
  rw [List.getElem_append_left hj']
  simp [List.getD_eq_getElem?_getD, hj', bs_mk]) HG.out.2
 have BEL : Below w.heap.size w (sortWorld encSh w1 g 0 m d' os) := by
  unfold sortWorld
  refine below_grow os (below_putRow encSh g 0 d' (below_ahead m B1.out) HG.out.1) ?_
  have := B1.out.size
  simpa [putRow, mapBlock, Sort.ahead] using this
 rw [hclen] at C3 FIN
 have BEL' := Aside0.mk BEL
 have FIN' := Aside0.mk FIN
 clear BEL FIN hH2 hp hs hperm hsort hres hclen hcle hlen hd' C2
 generalize sortWorld encSh w1 g 0 m d' os = w2 at C3 FIN' BEL' ⊢
 go_wp2_with fail
 refine C3.out.mono ?_
 rintro e w3 ⟨rfl, q, rfl⟩
 have F := Aside0.mk (FIN'.out q)
 have BF := Aside0.mk (below_putRow encStr g 0 (Lib.compact (shs d') ++ List.replicate (n - (norm l).length) []).toArray (below_ahead q BEL'.out) HG.out.1)
 clear FIN' C3
 generalize putRow encStr (Sort.ahead w2 q) g 0 _ = w3 at F BF ⊢
 go_wp2
 go_ret
 exact ⟨_, rfl, F.out, BF.out⟩
theorem sort_none (p : Option Addr) (cap : Nat) (w : World) : Calls Tryd.prog 50 #[.slice p 0 cap, .func (.func 51) #[] #[]] w fun e w' => e = .returned (.tuple #[]) ∧ w' = w :=
 AnyF.slices_SortFunc_none (P := Tryd.prog) (ρ := Tryd.laysSlF6_f50_ren) { Tryd.laysSlF6_f50 with } p cap (.func (.func 51) #[] #[]) w
set_option maxHeartbeats 1000000 in
theorem norm_none (c : Nat) (w : World) :
  Calls Tryd.prog 15 #[.slice none 0 c] w fun e w' => ∃ v0_ : Value, e = .returned (v0_) ∧ Kd.R Kd.string 9 w' w.heap.size (fun _ => True) v0_ [] ∧ Below w.heap.size w w' := by
 have c1 := Tryd.slices_Clone_string_nil 0 c w
 have c2 := sort_none none 0 w
 have c3 := Tryd.slices_Compact_string_empty none 0 w
 go_enter Tryd.func15, Tryd.ntmps15
 go_wp2_with (first | (go_at_call 49; refine c1.mono ?_; rintro e w' ⟨rfl, rfl⟩) | (go_at_call 50; refine c2.mono ?_; rintro e w' ⟨rfl, rfl⟩) | (go_at_call 52; refine c3.mono ?_; rintro e w' ⟨rfl, rfl⟩))
 go_ret
 exact ⟨_, rfl, Kd.R_nil _ _ _ _ _, Below.refl _ _⟩
set_option maxHeartbeats 1000000 in
theorem norm_zero (a : Addr) (c : Nat) (w : World) :
  Calls Tryd.prog 15 #[.slice (some a) 0 c] w fun e w' => ∃ v0_ : Value, e = .returned (v0_) ∧ Kd.R Kd.string 9 w' w.heap.size (fun _ => True) v0_ [] ∧ Below w.heap.size w w' := by
 have c1 := Tryd.slices_Clone_string_zero a c w
 go_enter Tryd.func15, Tryd.ntmps15
 go_wp2_with fail
 refine c1.mono ?_
 rintro e w1 ⟨v1, rfl, hown, _, hb⟩
 obtain ⟨A, cap, rfl⟩ := own_slice hown
 have O := Aside0.mk hown
 have B := Aside0.mk hb
 clear hown hb c1
 go_wp2_with fail
 refine (sort_none A cap _).mono ?_
 rintro e w2 ⟨rfl, rfl⟩
 go_wp2_with fail
 refine (Tryd.slices_Compact_string_empty A cap _).mono ?_
 rintro e w3 ⟨rfl, rfl⟩
 go_wp2
 go_ret
 exact ⟨_, rfl, ⟨fun _ _ => trivial, [], O.out, Reps.none _ _⟩, B.out⟩
theorem plain_addr {w : World} {ad : Addr} {v : Value} (h : w.cell? (ad.add 0) = some v) : ad = ⟨ad.block, ad.off, none⟩ := by
 obtain ⟨b, off, sp⟩ := ad
 cases sp with
 | none => rfl
 | some s =>
  exfalso
  unfold Addr.add at h
  rw [if_pos rfl] at h
  unfold World.cell? at h
  split at h
  ·simp at h
  ·cases h
theorem paths_Norm.calls (k : Nat) (A0 : Option Addr) (c0 : Nat) (l0 : List ByteArray) (r : List ByteArray) (w : World) (hr0 : Kd.C Kd.string w A0 l0.length l0) (hc0 : l0.length ≤ c0) (h : paths_Norm.f k l0 = some r) :
  Calls Tryd.prog 15 #[.slice A0 l0.length c0] w fun e w' => ∃ v0_ : Value, e = .returned (v0_) ∧ Kd.R Kd.string 9 w' w.heap.size (fun _ => True) v0_ r ∧ Below w.heap.size w w' := by
 unfold paths_Norm.f at h
 split at h
 ·rename_i hs
  obtain rfl := Option.some.inj h
  rcases Nat.eq_zero_or_pos l0.length with h0 | h0
  ·obtain rfl := List.eq_nil_of_length_eq_zero h0
   cases A0 with
   | none => exact norm_none c0 w
   | some a => exact norm_zero a c0 w
  ·obtain ⟨ad, rfl, hc⟩ := hr0.2.2 h0
   have hcell : ∀ j, j < l0.length → w.cell? (ad.add j) = some (.string (l0.getD j ByteArray.empty)) := fun j hj => by
    obtain ⟨c, _, hcs, hcc⟩ := hc j _ (List.getElem?_eq_getElem hj)
    have hcs' : c = [.string l0[j]] := hcs
    subst hcs'
    have := hcc 0 (.string l0[j]) rfl
    rw [show j * Kd.string.sz + 0 = j from by show j * 1 + 0 = j; omega] at this
    rw [this]
    simp [List.getD_eq_getElem?_getD, List.getElem?_eq_getElem hj]
   have hp := plain_addr (hcell 0 h0)
   rw [hp] at hcell ⊢
   exact norm_some ad.block ad.off l0.length c0 l0 w rfl h0 hs.1 hs.2 (fun j hj => by have := hcell j hj; rwa [add_at] at this)
 ·cases h
end Go.Proofs.YtdfkaclflmgkeaaDoor.PAll
namespace Go.Proofs.YtdfkaclflmgkeaaDoor.PAll
open Go.RowKit Go.Proofs.YtdfkaclflmgkeaaDoorW.PrintWords Go.Proofs.YtdfkaclflmgkeaaDoorW.PrintLast Go.Proofs.YtdfkaclflmgkeaaDoorW.PrintMore
attribute [local go_sem] max2_int min2_int max_two min_two max_three min_three max_four min_four
set_option linter.unusedVariables false
set_option linter.unusedSimpArgs false
def paths_Heads.l0 : Nat → List ByteArray → List ByteArray → Int → Int → Option (List ByteArray)
 | 0, _, _, _, _ => none
 | k + 1, x3, x7, x8, x9 => if x9 < x8 then (if 0 ≤ x9 then (if x9 < (x7.length : Int) then (if (x3.length : Int) = 0 then (if x3.length < 8796093022208 then (paths_Heads.l0 k (x3 ++ [rdOf ByteArray.empty x7 x9]) x7 x8 (wrap64 (x9 + 1))) else (none)) else (if 0 ≤ (wrap64 ((x3.length : Int) - 1)) then (if (wrap64 ((x3.length : Int) - 1)) < (x3.length : Int) then ((path_Above.f k (rdOf ByteArray.empty x3 (wrap64 ((x3.length : Int) - 1))) (rdOf ByteArray.empty x7 x9)).bind fun t170 => (if t170 = true then (paths_Heads.l0 k x3 x7 x8 (wrap64 (x9 + 1))) else (if x3.length < 8796093022208 then (paths_Heads.l0 k (x3 ++ [rdOf ByteArray.empty x7 x9]) x7 x8 (wrap64 (x9 + 1))) else (none)))) else (none)) else (none))) else (none)) else (none)) else (some x3)
def paths_Heads.f (k : Nat) (l0 : List ByteArray) : Option (List ByteArray) := (paths_Norm.f k l0).bind fun t162 => (paths_Heads.l0 k ([] : List ByteArray) t162 (t162.length : Int) 0)
theorem paths_Heads.mono_l : ∀ k, (∀ y0 y1 y2 y3, LeO (paths_Heads.l0 k y0 y1 y2 y3) (paths_Heads.l0 (k + 1) y0 y1 y2 y3))
 | 0 => fun _ _ _ _ r h => by simp [paths_Heads.l0] at h
 | k + 1 => by
  have ih0 := paths_Heads.mono_l k
  ·intro y0 y1 y2 y3
   unfold paths_Heads.l0
   repeat' first
   | (with_reducible exact ih0 _ _ _ _)
   | (with_reducible exact path_Above.mono _ _ _)
   | (with_reducible exact paths_Norm.mono _ _)
   | (with_reducible exact LeO.refl _)
   | (with_reducible exact LeO.none _)
   | (with_reducible refine LeO.ite ?_ ?_)
   | (with_reducible refine LeO.bind ?_ (fun _ => ?_))
   | exact ih0 _ _ _ _
   | exact path_Above.mono _ _ _
   | exact paths_Norm.mono _ _
   | exact LeO.none _
   | refine LeO.ite ?_ ?_
   | refine LeO.bind ?_ (fun _ => ?_)
theorem paths_Heads.mono : ∀ a0 k, LeO (paths_Heads.f k a0) (paths_Heads.f (k + 1) a0) := by
 intro a0 k
 have ih0 := paths_Heads.mono_l k
 unfold paths_Heads.f
 repeat' first
   | (with_reducible exact ih0 _ _ _ _)
   | (with_reducible exact path_Above.mono _ _ _)
   | (with_reducible exact paths_Norm.mono _ _)
   | (with_reducible exact LeO.refl _)
   | (with_reducible exact LeO.none _)
   | (with_reducible refine LeO.ite ?_ ?_)
   | (with_reducible refine LeO.bind ?_ (fun _ => ?_))
   | exact ih0 _ _ _ _
   | exact path_Above.mono _ _ _
   | exact paths_Norm.mono _ _
   | exact LeO.none _
   | refine LeO.ite ?_ ?_
   | refine LeO.bind ?_ (fun _ => ?_)
set_option maxHeartbeats 8000000 in
set_option maxRecDepth 100000 in
theorem paths_Heads.calls (k : Nat) (A0 : Option Addr) (c0 : Nat) (l0 : List ByteArray) (r : List ByteArray) (w : World) (hr0 : Kd.C Kd.string w A0 l0.length l0) (hc0 : l0.length ≤ c0) (h : paths_Heads.f k l0 = some r) :
  Calls Tryd.prog 20 #[.slice A0 l0.length c0] w fun e w' => ∃ v0_ : Value, e = .returned (v0_) ∧ Kd.R Kd.string 9 w' w.heap.size (fun _ => True) v0_ r ∧ Below w.heap.size w w' := by
 have HR0 := Aside0.mk hr0
 have HC0 := Aside0.mk hc0
 clear hr0 hc0
 have HB := Aside0.mk (Below.refl w.heap.size w)
 have H : ((paths_Norm.f k l0).bind fun t162 => (paths_Heads.l0 k ([] : List ByteArray) t162 (t162.length : Int) 0)) = some r := h
 clear h
 replace H := Option.bind_eq_some_iff.mp H
 obtain ⟨t162, A20, H⟩ := H
 try dsimp only at H
 have A2 := Aside0.mk A20
 clear A20
 have H' := Aside0.mk H
 clear H
 go_enter Tryd.func20, Tryd.ntmps20
 go_wp2_with (first | ((with_reducible refine gate_callee (f := 15) rfl ?_); refine goesL_ (some 7) rfl rfl Tryd.func15 (by kernel_rfl) rfl #[.slice A0 l0.length c0] rfl (by (try simp only [List.map_toArray, List.map_cons, List.map_nil]); first | done | rfl | (simp only [List.length_drop, List.length_take]; rfl)) ?_; (with_reducible refine (paths_Norm.calls k _ _ l0 t162 _ ?side1 ?side2 A2.out).mono ?_); (case side1 => repeat (first | exact HR0.out | (with_reducible refine Kd.C_alloc ?_ _) | (with_reducible refine Kd.C_drewN ?_ _) | (with_reducible refine Kd.C_drew ?_))); (case side2 => exact HC0.out); rintro e w3 ⟨v163, rfl, ho0, hb⟩; refine ⟨_, rfl, ?_⟩; have n0_ := Aside0.mk (Kd.R_lower ho0 (below_size (by repeat (first | (with_reducible first | exact HB.out | apply below_alloc | apply pw_below_drewN | apply below_drew1) | exact HB.out)))); have n1_ := Aside0.mk (below_step (by repeat (first | (with_reducible first | exact HB.out | apply below_alloc | apply pw_below_drewN | apply below_drew1) | exact HB.out)) hb); clear HB; have HO164 := n0_; have HB := n1_; clear n0_ n1_; (try clear hb); (try clear hb2); (try clear hk); (try clear hi); (try clear ho0); obtain ⟨Ao4, co4, eo4⟩ := Kd.R_slice HO164.out; subst eo4))
 go_loopg [3, 9] k (fun kq v3 v9 w' => ∃ (x3_1 : List ByteArray) (x9_1 : Int), v9 = .int .i64 x9_1 ∧ Aside0 (paths_Heads.l0 kq x3_1 t162 (t162.length : Int) x9_1 = some r) ∧ Aside0 (kq ≤ k) ∧ Aside0 (Kd.R Kd.string 9 w' w.heap.size (fun k_ => some k_ ≠ ((.slice Ao4 t162.length co4) : Value).ownBlock) v3 x3_1) ∧ Aside0 (Kd.R Kd.string 9 w' w.heap.size (fun k_ => some k_ ≠ (v3 : Value).ownBlock) (.slice Ao4 t162.length co4) t162) ∧ Aside0 (Below w.heap.size w w'))
 case atStart => exact ⟨(([] : List ByteArray)), (0), (by first | rfl | (simp; done) | (simp [*]; done)), H', ⟨Nat.le_refl _⟩, ⟨by first | exact Kd.R_nil _ _ _ _ _ | exact Kd.N_nil _ _ _ _ _ | exact Kd.V_nil _ _ _ _ _ | exact Kd.Q_nil _ _ _ _ _ | exact Kd.S_nil _ _ _ _ _⟩, ⟨by (with_reducible repeat (first | apply Kd.R_alloc | apply Kd.R_drewN | apply Kd.R_drew)); exact Kd.R_mono HO164.out (fun _ hk => (by simp [Value.ownBlock]))⟩, ⟨by repeat (first | (with_reducible first | exact HB.out | apply below_alloc | apply pw_below_drewN | apply below_drew1) | exact HB.out)⟩⟩
 case round =>
  clear H'
  try clear c1
  try clear c2
  try clear p2
  obtain ⟨x3_1, x9_1, rfl, HA, HK1, HO_3, HO_7, HB⟩ := hrel
  cases gk with
  | zero => exact absurd HA.out (by simp [paths_Heads.l0])
  | succ k1 =>
   have H := HA.out
   clear HA
   simp only [paths_Heads.l0] at H
   by_cases c5 : x9_1 < (t162.length : Int)
   ·rw [if_pos c5] at H
    have c5b0 : decide (x9_1 < (t162.length : Int)) = true := decide_eq_true c5
    clear c5
    by_cases c6 : 0 ≤ x9_1
    ·rw [if_pos c6] at H
     have c6b0 : decide (0 ≤ x9_1) = true := decide_eq_true c6
     clear c6
     by_cases c7 : x9_1 < (t162.length : Int)
     ·rw [if_pos c7] at H
      have c7b0 : decide (x9_1 < (t162.length : Int)) = true := decide_eq_true c7
      clear c7
      by_cases c8 : (x3_1.length : Int) = 0
      ·rw [if_pos c8] at H
       have c8b0 : ((x3_1.length : Int) == 0) = true := beq_iff_eq.mpr c8
       have c8b1 : ((x3_1.length : Int) != 0) = false := bne_eq_false_iff_eq.mpr c8
       clear c8
       by_cases c9 : x3_1.length < 8796093022208
       ·rw [if_pos c9] at H
        have LMc9 := Aside0.mk c9
        clear c9
        obtain ⟨y166, hy166⟩ : ∃ y_ : List ByteArray, y_ = (x3_1 ++ [rdOf ByteArray.empty t162 x9_1]) := ⟨_, rfl⟩
        replace H : (paths_Heads.l0 k1 y166 t162 (t162.length : Int) (wrap64 (x9_1 + 1))) = some r := by first | (rw [hy166]; with_reducible exact H) | (have H2_ := (Option.bind_some _ _).symm.trans H; rw [hy166]; with_reducible exact H2_) | (have H2_ := (Option.bind_some _ _).symm.trans H; with_reducible exact H2_) | with_reducible exact H | (rw [hy166]; exact H) | exact H
        have Ny166 := Aside0.mk hy166
        clear hy166
        have H' := Aside0.mk H
        clear H
        have p165 : 0 ≤ (x9_1 : Int) := of_decide_eq_true (by first | (with_reducible assumption) | assumption)
        have q165 : x9_1 < (t162.length : Int) := of_decide_eq_true (by first | (with_reducible assumption) | assumption)
        obtain ⟨ad165, e165, hx165_0⟩ := Kd.at_string (Kd.R_reads' HO_7.out).2.2 x9_1 p165 q165
        cases e165
        replace p165 := eq_true p165
        replace q165 := eq_true q165
        obtain ⟨Ao10, co10, eo10⟩ := Kd.R_slice HO_3.out
        subst eo10
        go_wp2_with (first | ((with_reducible refine gate_builtin (b := .append) (xs := #[.tmp 27, .tmp 29]) rfl ?_); (try (refine gate_guard (by rfl) ?_; dsimp only)); at_builtin; refine Kd.R_append Kd.string (w0 := w) w.heap.size rfl (.tmp 27) (.tmp 29) 22 9 (.string ⟨#[]⟩) 16 rfl Tryd.underlying22 info9 rfl (by decide) (by omega) (.slice Ao10 x3_1.length co10) x3_1 (rdOf ByteArray.empty t162 x9_1) [.string (rdOf ByteArray.empty t162 x9_1)] (fun k_ => some k_ ≠ (.slice (some ad165) t162.length co4 : Value).ownBlock) (fun _ => False) rfl rfl ?aP (fun _ hk => hk.elim) ?aF ?aO ?aB ?aS ?aL ?_; (case aP => exact rfl); (case aB => exact (by repeat (first | (with_reducible first | exact HB.out | apply below_alloc | apply pw_below_drewN | apply below_drew1) | exact HB.out))); (case aF => exact (fun k_ hk => Kd.fresh' (Kd.R_lt (by (with_reducible repeat (first | apply Kd.R_alloc | apply Kd.R_drewN | apply Kd.R_drew)); exact HO_7.out)) k_ hk)); (case aO => exact (by (with_reducible repeat (first | apply Kd.R_alloc | apply Kd.R_drewN | apply Kd.R_drew)); exact HO_3.out)); (case aS => exact (below_size (by repeat (first | (with_reducible first | exact HB.out | apply below_alloc | apply pw_below_drewN | apply below_drew1) | exact HB.out)))); (case aL => have := LMc9.out; omega); intro v167 w11 ho hb hg hat; rw [← Ny166.out] at ho; have n0_ := Aside0.mk (Kd.R_after (ok := (fun _ => True)) (by (with_reducible repeat (first | apply Kd.R_alloc | apply Kd.R_drewN | apply Kd.R_drew)); exact Kd.R_mono HO_7.out (fun _ hk => ⟨trivial, hk⟩)) hg hat); have n1_ := Aside0.mk (hb); have n2_ := Aside0.mk (ho); clear HO_7; clear HB; clear HO_3; have HO_7 := n0_; have HB := n1_; have HO168 := n2_; clear n0_ n1_ n2_; clear ho hb hg hat))
        go_roundg k1
        case measure => have := HK1.out; omega
        case rel => exact ⟨(y166), (wrap64 (x9_1 + 1)), (by first | rfl | (simp; done) | (simp [*]; done)), H', ⟨by have := HK1.out; omega⟩, ⟨by (with_reducible repeat (first | apply Kd.R_alloc | apply Kd.R_drewN | apply Kd.R_drew)); exact HO168.out⟩, ⟨by (with_reducible repeat (first | apply Kd.R_alloc | apply Kd.R_drewN | apply Kd.R_drew)); exact Kd.R_mono HO_7.out (fun _ hk => hk.2)⟩, ⟨by repeat (first | (with_reducible first | exact HB.out | apply below_alloc | apply pw_below_drewN | apply below_drew1) | exact HB.out)⟩⟩
       ·rw [if_neg c9] at H
        exact absurd H (by simp)
      ·rw [if_neg c8] at H
       have c8b0 : ((x3_1.length : Int) == 0) = false := beq_eq_false_iff_ne.mpr c8
       have c8b1 : ((x3_1.length : Int) != 0) = true := bne_iff_ne.mpr c8
       have c8b2 : ¬ (x3_1 = []) := fun h_ => c8 (by rw [h_]; rfl)
       obtain ⟨ji12, hji12⟩ : ∃ j_ : Int, (wrap64 ((x3_1.length : Int) - 1)) = j_ := ⟨_, rfl⟩
       replace H : (if 0 ≤ (ji12) then (if (ji12) < (x3_1.length : Int) then ((path_Above.f k1 (rdOf ByteArray.empty x3_1 (ji12)) (rdOf ByteArray.empty t162 x9_1)).bind fun t170 => (if t170 = true then (paths_Heads.l0 k1 x3_1 t162 (t162.length : Int) (wrap64 (x9_1 + 1))) else (if x3_1.length < 8796093022208 then (paths_Heads.l0 k1 (x3_1 ++ [rdOf ByteArray.empty t162 x9_1]) t162 (t162.length : Int) (wrap64 (x9_1 + 1))) else (none)))) else (none)) else (none)) = some r := by first | (rw [hji12] at H; exact H) | (simp only [hji12] at H ⊢; exact H)
       have hji12w : (IntKind.i64.wrap ((x3_1.length : Int) - 1)) = ji12 := (i64_w _).trans hji12
       by_cases c13 : 0 ≤ (ji12)
       ·rw [if_pos c13] at H
        have c13b0 : decide (0 ≤ (ji12)) = true := decide_eq_true c13
        clear c13
        by_cases c14 : (ji12) < (x3_1.length : Int)
        ·rw [if_pos c14] at H
         have c14b0 : decide ((ji12) < (x3_1.length : Int)) = true := decide_eq_true c14
         clear c14
         replace H := Option.bind_eq_some_iff.mp H
         obtain ⟨t170, A150, H⟩ := H
         try dsimp only at H
         have A15 := Aside0.mk A150
         clear A150
         by_cases c16 : t170 = true
         ·subst c16
          rw [if_pos rfl] at H
          have H1 := H
          clear H
          have H := H1
          clear H1
          have H' := Aside0.mk H
          clear H
          have p165 : 0 ≤ (x9_1 : Int) := of_decide_eq_true (by first | (with_reducible assumption) | assumption)
          have q165 : x9_1 < (t162.length : Int) := of_decide_eq_true (by first | (with_reducible assumption) | assumption)
          obtain ⟨ad165, e165, hx165_0⟩ := Kd.at_string (Kd.R_reads' HO_7.out).2.2 x9_1 p165 q165
          cases e165
          replace p165 := eq_true p165
          replace q165 := eq_true q165
          obtain ⟨Ao17, co17, eo17⟩ := Kd.R_slice HO_3.out
          subst eo17
          have p169 : 0 ≤ ((ji12) : Int) := of_decide_eq_true (by first | (with_reducible assumption) | assumption)
          have q169 : (ji12) < (x3_1.length : Int) := of_decide_eq_true (by first | (with_reducible assumption) | assumption)
          obtain ⟨ad169, e169, hx169_0⟩ := Kd.at_string (Kd.R_reads' HO_3.out).2.2 (ji12) p169 q169
          cases e169
          replace p169 := eq_true p169
          replace q169 := eq_true q169
          go_wp2_with (first | (go_at_call 22; (with_reducible refine (path_Above.calls k1 (rdOf ByteArray.empty x3_1 (ji12)) (rdOf ByteArray.empty t162 x9_1) true _ A15.out).mono ?_); rintro e w18 ⟨rfl, hb⟩; have n0_ := Aside0.mk (Kd.R_below (by (with_reducible repeat (first | apply Kd.R_alloc | apply Kd.R_drewN | apply Kd.R_drew)); exact HO_3.out) hb); have n1_ := Aside0.mk (Kd.R_below (by (with_reducible repeat (first | apply Kd.R_alloc | apply Kd.R_drewN | apply Kd.R_drew)); exact HO_7.out) hb); have n2_ := Aside0.mk (below_step (by repeat (first | (with_reducible first | exact HB.out | apply below_alloc | apply pw_below_drewN | apply below_drew1) | exact HB.out)) hb); clear HO_3; clear HO_7; clear HB; have HO_3 := n0_; have HO_7 := n1_; have HB := n2_; clear n0_ n1_ n2_; (try clear hb); (try clear hb2); (try clear hk); (try clear hi)))
          go_roundg k1
          case measure => have := HK1.out; omega
          case rel => exact ⟨(x3_1), (wrap64 (x9_1 + 1)), (by first | rfl | (simp; done) | (simp [*]; done)), H', ⟨by have := HK1.out; omega⟩, ⟨by (with_reducible repeat (first | apply Kd.R_alloc | apply Kd.R_drewN | apply Kd.R_drew)); exact HO_3.out⟩, ⟨by (with_reducible repeat (first | apply Kd.R_alloc | apply Kd.R_drewN | apply Kd.R_drew)); exact HO_7.out⟩, ⟨by repeat (first | (with_reducible first | exact HB.out | apply below_alloc | apply pw_below_drewN | apply below_drew1) | exact HB.out)⟩⟩
         ·replace c16 := Bool.eq_false_iff.mpr c16
          subst c16
          have H1 : (if x3_1.length < 8796093022208 then (paths_Heads.l0 k1 (x3_1 ++ [rdOf ByteArray.empty t162 x9_1]) t162 (t162.length : Int) (wrap64 (x9_1 + 1))) else (none)) = some r := by rw [if_neg (show ¬ (false = true) by decide)] at H; exact H
          clear H
          have H := H1
          clear H1
          by_cases c19 : x3_1.length < 8796093022208
          ·rw [if_pos c19] at H
           have LMc19 := Aside0.mk c19
           clear c19
           obtain ⟨y171, hy171⟩ : ∃ y_ : List ByteArray, y_ = (x3_1 ++ [rdOf ByteArray.empty t162 x9_1]) := ⟨_, rfl⟩
           replace H : (paths_Heads.l0 k1 y171 t162 (t162.length : Int) (wrap64 (x9_1 + 1))) = some r := by first | (rw [hy171]; with_reducible exact H) | (have H2_ := (Option.bind_some _ _).symm.trans H; rw [hy171]; with_reducible exact H2_) | (have H2_ := (Option.bind_some _ _).symm.trans H; with_reducible exact H2_) | with_reducible exact H | (rw [hy171]; exact H) | exact H
           have Ny171 := Aside0.mk hy171
           clear hy171
           have H' := Aside0.mk H
           clear H
           have p165 : 0 ≤ (x9_1 : Int) := of_decide_eq_true (by first | (with_reducible assumption) | assumption)
           have q165 : x9_1 < (t162.length : Int) := of_decide_eq_true (by first | (with_reducible assumption) | assumption)
           obtain ⟨ad165, e165, hx165_0⟩ := Kd.at_string (Kd.R_reads' HO_7.out).2.2 x9_1 p165 q165
           cases e165
           replace p165 := eq_true p165
           replace q165 := eq_true q165
           obtain ⟨Ao20, co20, eo20⟩ := Kd.R_slice HO_3.out
           subst eo20
           have p169 : 0 ≤ ((ji12) : Int) := of_decide_eq_true (by first | (with_reducible assumption) | assumption)
           have q169 : (ji12) < (x3_1.length : Int) := of_decide_eq_true (by first | (with_reducible assumption) | assumption)
           obtain ⟨ad169, e169, hx169_0⟩ := Kd.at_string (Kd.R_reads' HO_3.out).2.2 (ji12) p169 q169
           cases e169
           replace p169 := eq_true p169
           replace q169 := eq_true q169
           go_wp2_with (first | (go_at_call 22; (with_reducible refine (path_Above.calls k1 (rdOf ByteArray.empty x3_1 (ji12)) (rdOf ByteArray.empty t162 x9_1) false _ A15.out).mono ?_); rintro e w21 ⟨rfl, hb⟩; have n0_ := Aside0.mk (Kd.R_below (by (with_reducible repeat (first | apply Kd.R_alloc | apply Kd.R_drewN | apply Kd.R_drew)); exact HO_3.out) hb); have n1_ := Aside0.mk (Kd.R_below (by (with_reducible repeat (first | apply Kd.R_alloc | apply Kd.R_drewN | apply Kd.R_drew)); exact HO_7.out) hb); have n2_ := Aside0.mk (below_step (by repeat (first | (with_reducible first | exact HB.out | apply below_alloc | apply pw_below_drewN | apply below_drew1) | exact HB.out)) hb); clear HO_3; clear HO_7; clear HB; have HO_3 := n0_; have HO_7 := n1_; have HB := n2_; clear n0_ n1_ n2_; (try clear hb); (try clear hb2); (try clear hk); (try clear hi)) | ((with_reducible refine gate_builtin (b := .append) (xs := #[.tmp 27, .tmp 29]) rfl ?_); (try (refine gate_guard (by rfl) ?_; dsimp only)); at_builtin; refine Kd.R_append Kd.string (w0 := w) w.heap.size rfl (.tmp 27) (.tmp 29) 22 9 (.string ⟨#[]⟩) 16 rfl Tryd.underlying22 info9 rfl (by decide) (by omega) (.slice (some ad169) x3_1.length co20) x3_1 (rdOf ByteArray.empty t162 x9_1) [.string (rdOf ByteArray.empty t162 x9_1)] (fun k_ => some k_ ≠ (.slice (some ad165) t162.length co4 : Value).ownBlock) (fun _ => False) rfl rfl ?aP (fun _ hk => hk.elim) ?aF ?aO ?aB ?aS ?aL ?_; (case aP => exact rfl); (case aB => exact (by repeat (first | (with_reducible first | exact HB.out | apply below_alloc | apply pw_below_drewN | apply below_drew1) | exact HB.out))); (case aF => exact (fun k_ hk => Kd.fresh' (Kd.R_lt (by (with_reducible repeat (first | apply Kd.R_alloc | apply Kd.R_drewN | apply Kd.R_drew)); exact HO_7.out)) k_ hk)); (case aO => exact (by (with_reducible repeat (first | apply Kd.R_alloc | apply Kd.R_drewN | apply Kd.R_drew)); exact HO_3.out)); (case aS => exact (below_size (by repeat (first | (with_reducible first | exact HB.out | apply below_alloc | apply pw_below_drewN | apply below_drew1) | exact HB.out)))); (case aL => have := LMc19.out; omega); intro v172 w22 ho hb hg hat; rw [← Ny171.out] at ho; have n0_ := Aside0.mk (Kd.R_after (ok := (fun _ => True)) (by (with_reducible repeat (first | apply Kd.R_alloc | apply Kd.R_drewN | apply Kd.R_drew)); exact Kd.R_mono HO_7.out (fun _ hk => ⟨trivial, hk⟩)) hg hat); have n1_ := Aside0.mk (hb); have n2_ := Aside0.mk (ho); clear HO_7; clear HB; clear HO_3; have HO_7 := n0_; have HB := n1_; have HO173 := n2_; clear n0_ n1_ n2_; clear ho hb hg hat))
           go_roundg k1
           case measure => have := HK1.out; omega
           case rel => exact ⟨(y171), (wrap64 (x9_1 + 1)), (by first | rfl | (simp; done) | (simp [*]; done)), H', ⟨by have := HK1.out; omega⟩, ⟨by (with_reducible repeat (first | apply Kd.R_alloc | apply Kd.R_drewN | apply Kd.R_drew)); exact HO173.out⟩, ⟨by (with_reducible repeat (first | apply Kd.R_alloc | apply Kd.R_drewN | apply Kd.R_drew)); exact Kd.R_mono HO_7.out (fun _ hk => hk.2)⟩, ⟨by repeat (first | (with_reducible first | exact HB.out | apply below_alloc | apply pw_below_drewN | apply below_drew1) | exact HB.out)⟩⟩
          ·rw [if_neg c19] at H
           exact absurd H (by simp)
        ·rw [if_neg c14] at H
         exact absurd H (by simp)
       ·rw [if_neg c13] at H
        exact absurd H (by simp)
     ·rw [if_neg c7] at H
      exact absurd H (by simp)
    ·rw [if_neg c6] at H
     exact absurd H (by simp)
   ·rw [if_neg c5] at H
    have c5b0 : decide (x9_1 < (t162.length : Int)) = false := decide_eq_false c5
    clear c5
    obtain rfl := Option.some.inj H
    go_wp2
    go_ret
    exact ⟨_, by first | rfl | (simp [errW_none, errW_some] <;> rfl) | (simp [*, errW_none, errW_some] <;> rfl), by (with_reducible repeat (first | apply Kd.R_alloc | apply Kd.R_drewN | apply Kd.R_drew)); exact Kd.R_mono HO_3.out (fun _ hk => trivial), by repeat (first | (with_reducible first | exact HB.out | apply below_alloc | apply pw_below_drewN | apply below_drew1) | exact HB.out)⟩
end Go.Proofs.YtdfkaclflmgkeaaDoor.PAll
namespace Go.Proofs.YtdfkaclflmgkeaaDoor.PAll
open Go.RowKit Go.Shelf Go.Proofs.YtdfkaclflmgkeaaDoorW.PrintWords Go.Proofs.YtdfkaclflmgkeaaDoorW.PrintLast Go.Proofs.YtdfkaclflmgkeaaDoorW.PrintMore
open Go.Proofs.YtdfkaclflmgkeaaDoor.Sp
def dirsOf (k : Nat) : List ByteArray → Option (List ByteArray)
 | [] => some []
 | x :: r => (path_Dir.f k x).bind fun d => (dirsOf k r).bind fun t => some (if d.toList = [] then t else d :: t)
def cone_Cover.f (k : Nat) (l0 : List ByteArray) : Option (List ByteArray) := if l0.length < 8796093022208 then (dirsOf k l0).bind fun o => paths_Heads.f k o else none
theorem dirsOf_mono : ∀ l k, LeO (dirsOf k l) (dirsOf (k + 1) l)
 | [], _ => LeO.refl _
 | x :: r, k => by
  unfold dirsOf
  exact LeO.bind (path_Dir.mono _ _) fun _ => LeO.bind (dirsOf_mono r k) fun _ => LeO.refl _
theorem cone_Cover.mono : ∀ a0 k, LeO (cone_Cover.f k a0) (cone_Cover.f (k + 1) a0) := fun _ _ => LeO.ite (LeO.bind (dirsOf_mono _ _) fun _ => paths_Heads.mono _ _) (LeO.refl _)
def dv (k : Nat) (x : ByteArray) : ByteArray := (path_Dir.f k x).getD ByteArray.empty
def gone (k : Nat) (l : List ByteArray) : List ByteArray := (l.map (dv k)).filter fun d => !(d.toList == [])
theorem dirsOf_gone (k : Nat) : ∀ l o, dirsOf k l = some o → (∀ x ∈ l, path_Dir.f k x = some (dv k x)) ∧ o = gone k l
 | [], o, h => by cases Option.some.inj h; exact ⟨fun x hx => absurd hx (by simp), rfl⟩
 | x :: r, o, h => by
  unfold dirsOf at h
  obtain ⟨d, hd, h⟩ := Option.bind_eq_some_iff.mp h
  obtain ⟨t, ht, h⟩ := Option.bind_eq_some_iff.mp h
  obtain ⟨h1, h2⟩ := dirsOf_gone k r t ht
  have e : dv k x = d := by unfold dv; rw [hd]; rfl
  cases Option.some.inj h
  refine ⟨fun y hy => ?_, ?_⟩
  ·rcases List.mem_cons.1 hy with rfl | hy
   ·rw [e]; exact hd
   ·exact h1 y hy
  ·subst h2
   by_cases c : d.toList = []
   ·rw [if_pos c]; simp [gone, e, c]
   ·rw [if_neg c]; simp [gone, e, c]
theorem gone_hit (k : Nat) (l : List ByteArray) (x : ByteArray) (h : (dv k x).toList ≠ []) : gone k (l ++ [x]) = gone k l ++ [dv k x] := by simp [gone, h]
theorem gone_miss (k : Nat) (l : List ByteArray) (x : ByteArray) (h : (dv k x).toList = []) : gone k (l ++ [x]) = gone k l := by simp [gone, h]
theorem gone_length (k : Nat) (l : List ByteArray) : (gone k l).length ≤ l.length := by
 unfold gone; exact Nat.le_trans (List.length_filter_le _ _) (by simp)
theorem gone_split (k : Nat) (l m : List ByteArray) : gone k (l ++ m) = gone k l ++ gone k m := by simp [gone]
theorem take_next (l : List ByteArray) (i : Nat) (h : i < l.length) : l.take (i + 1) = l.take i ++ [rdOf ByteArray.empty l (i : Int)] := by
 rw [List.take_add_one]
 congr 1
 simp [rdOf, List.getD_eq_getElem?_getD, List.getElem?_eq_getElem h]
def KpD (n₀ Bl : Nat) (W W' : World) : Prop := Below n₀ W W' ∧ (Bl < W.heap.size → W'.heap[Bl]? = W.heap[Bl]?)
theorem KpD.t {n₀ Bl : Nat} {A B C : World} (h : KpD n₀ Bl A B) (k : KpD n₀ Bl B C) : KpD n₀ Bl A C := ⟨h.1.trans k.1, fun hl => (k.2 (Nat.lt_of_lt_of_le hl h.1.size)).trans (h.2 hl)⟩
theorem KpD.b {n₀ Bl : Nat} {w : World} (hn : n₀ ≤ w.heap.size) (hB : Bl < w.heap.size) (W : World) (l : Nat) (o o' : Obj) (hl : w.heap.size ≤ l) (h : W.heap[l]? = some o) (h1 : o.isCells = false) (h2 : o.isWalk = false) : KpD n₀ Bl W (W.putObj l o') :=
 ⟨belowK_b hn W l o o' hl h h1 h2, fun _ => (grownBy_putObj' W l o').block Bl (by have := (Array.getElem?_eq_some_iff.1 h).1; omega) (by intro e; cases e; omega)⟩
theorem below_grown {W W' : World} (h : Below W.heap.size W W') : W.grownBy W' none := ⟨h.os, h.tape, h.output, h.size, fun k hk _ => h.block k hk⟩
attribute [local go_sem] Oper.semAt_some
set_option maxRecDepth 100000 in
set_option maxHeartbeats 2000000 in
theorem directories1_in (n : Nat) (hn : 1 ≤ n) (L Bl : Nat) (k : Nat) (A : Option Addr) (c : Nat) (l : List ByteArray) (w : World) (hR : Aside0 (Kd.C Kd.string w A l.length l)) (hd : ∀ x ∈ l, path_Dir.f k x = some (dv k x))
  (J Jx : List ByteArray → World → Prop) (B0 : Nat) (hJ : AbidesFrom B0 J)
  (hY : ∀ pre x W, J pre W → pre.length < l.length → YieldAt Fence.wide (n - 1) Tryd.prog L #[.string x] W fun e W' =>
   (e = .returned (.bool true) ∧ J (pre ++ [x]) W' ∧ KpD w.heap.size Bl W W') ∨ (e = .returned (.bool false) ∧ Jx (pre ++ [x]) W'))
  (W : World) (hW : Aside0 (Below w.heap.size w W)) (hBl : Aside0 (Boxed W Bl 22 (.slice A l.length c))) (h0 : J [] W) :
  CallsIn Fence.wide n Tryd.prog 85 #[.func (.yield L) #[] #[], .pointer (some ⟨Bl, 0, none⟩)] W fun e W' => (∃ v, e = .returned v) ∧
   ((∃ ys, ys = gone k l ∧ J ys W') ∨ (∃ pre, pre <+: gone k l ∧ Jx pre W')) := by
 have hbig : (l.length : Int) ≤ 9223372036854775807 := by have := hR.out.2.1; omega
 have hc0 := hBl.out.cell
 refine callsIn_of_wp Tryd.func85 rfl trivial ?_ rfl
 simp only [Tryd.ntmps85, List.size_toArray, List.length_cons, List.length_nil, Nat.reduceAdd, Nat.reduceSub, Array.replicate_succ, Array.replicate_zero, List.push_toArray, List.append_toArray, List.nil_append, List.cons_append]
 gi_wp2
 gi_loopw [7] (fun i wr => ∃ kk : Nat, kk ≤ l.length ∧ i = .int .i64 kk ∧ J (gone k (l.take kk)) wr ∧ Aside0 (Below w.heap.size w wr) ∧ Aside0 (Boxed wr Bl 22 (.slice A l.length c)))
  (fun i _ => l.length - (intOf i).toNat)
 case atStart => exact ⟨0, Nat.zero_le _, rfl, h0, hW, hBl⟩
 case round =>
  obtain ⟨kk, hk, rfl, hJs, hB, hx⟩ := hrel
  by_cases hlt : kk < l.length
  ·have hltz : (kk : Int) < (l.length : Int) := by omega
   have hcx := hx.out.cell
   obtain ⟨ad, ea, hcell⟩ := Kd.at_string hR.out (kk : Int) (by omega) (by omega)
   cases ea
   rw [Int.toNat_natCast] at hcell
   replace hcell := (hB.out.cell (World.block_lt_of_cell? w _ hcell)).trans hcell
   have hdir := fun wd => path_Dir.calls k (rdOf ByteArray.empty l (kk : Int)) (dv k (rdOf ByteArray.empty l (kk : Int))) wd (hd _ (by simp only [rdOf, Int.toNat_natCast, List.getD_eq_getElem?_getD, List.getElem?_eq_getElem hlt, Option.getD_some]; exact List.getElem_mem hlt))
   have htk := take_next l kk hlt
   generalize rdOf ByteArray.empty l (kk : Int) = x at hcell hdir htk
   have hJ2 : ∀ pre W1 W2, J pre W1 → Below W1.heap.size W1 W2 → J pre W2 := fun pre W1 W2 h hb => hJ pre W1 W2 none h (below_grown hb) (fun r e => by cases e)
   have hB2 : ∀ W2, Below wr.heap.size wr W2 → Below w.heap.size w W2 := fun W2 hb => below_step hB.out hb
   have hX2 : ∀ W2, Below wr.heap.size wr W2 → Boxed W2 Bl 22 (.slice (some ad) l.length c) := fun W2 hb => (hb.block Bl hx.out.lt).trans hx.out
   by_cases c4 : (dv k x).toList = []
   ·have C4 := Aside0.mk c4
    have htk2 : gone k (l.take (kk + 1)) = gone k (l.take kk) := by rw [htk, gone_miss k _ _ c4]
    clear htk
    generalize dv k x = d at hdir c4 C4
    clear c4
    gi_wp2_with (refine ⟨trivial, ?_⟩; gi_at_call 23; refine (callsIn_wide.2 (hdir _)).mono ?_; rintro e w1 ⟨rfl, hb1⟩)
    ·refine ⟨fun _ h => (by cases h), ?_⟩
     gi_wp2
     go_roundw
     case rel => exact ⟨kk + 1, by omega, by simp, by rw [htk2]; exact hJ2 _ _ _ hJs hb1, ⟨hB2 _ hb1⟩, ⟨hX2 _ hb1⟩⟩
     case measure => simp [intOf]; omega
    ·exact absurd C4.out (by assumption)
   ·have C4 := Aside0.mk c4
    have htk2 : gone k (l.take (kk + 1)) = gone k (l.take kk) ++ [dv k x] := by rw [htk, gone_hit k _ _ c4]
    have hlen : (gone k (l.take kk)).length < l.length := by have := gone_length k (l.take kk); simp only [List.length_take] at this; omega
    have hpre : gone k (l.take kk) ++ [dv k x] <+: gone k l := by
     rw [← htk2]; refine ⟨gone k (l.drop (kk + 1)), ?_⟩; rw [← gone_split, List.take_append_drop]
    clear htk
    generalize dv k x = d at hdir c4 C4 htk2 hpre
    clear c4
    gi_wp2_with (refine ⟨trivial, ?_⟩; gi_at_call 23; refine (callsIn_wide.2 (hdir _)).mono ?_; rintro e w1 ⟨rfl, hb1⟩; obtain ⟨fn, tmps, assign, body, hy, hRd⟩ := hY _ d w1 (hJ2 _ _ _ hJs hb1) hlen)
    ·exact absurd (by assumption) C4.out
    ·have hX1 := hX2 _ hb1
     refine hRd.mono ?_
     rintro e W3 (⟨rfl, hJ3, hk3⟩ | ⟨rfl, hJx3⟩)
     ·have hB3 := (hB2 _ hb1).trans hk3.1
      have hX3 : Boxed W3 Bl 22 (.slice (some ad) l.length c) := (hk3.2 hX1.lt).trans hX1
      clear hk3
      gi_wp2
      go_roundw
      case rel => exact ⟨kk + 1, by omega, by simp, by rw [htk2]; exact hJ3, ⟨hB3⟩, ⟨hX3⟩⟩
      case measure => simp [intOf]; omega
     ·have c4e : d.toList.isEmpty = false := by simpa using C4.out
      gi_wp2
      refine bodyPost_ret (results_none rfl _ _ _) rfl ?_
      exact ⟨⟨_, rfl⟩, .inr ⟨_, hpre, hJx3⟩⟩
  ·obtain rfl : kk = l.length := by omega
   gi_wp2
   go_end0
   refine ⟨⟨_, rfl⟩, .inl ⟨_, rfl, ?_⟩⟩
   rw [List.take_length] at hJs; exact hJs
theorem directories_in (n : Nat) (A : Option Addr) (len c : Nat) (w : World) :
  CallsIn Fence.wide n Tryd.prog 61 #[.slice A len c] w fun e w' => e = .returned (.func (.func 85) #[] #[.pointer (some ⟨w.heap.size, 0, none⟩)]) ∧ w' = w.alloc (.cells #[.slice A len c] 22) := by
 refine callsIn_of_wp Tryd.func61 rfl trivial ?_ rfl
 simp only [Tryd.ntmps61, List.size_toArray, List.length_cons, List.length_nil, Nat.reduceAdd, Nat.reduceSub, Array.replicate_succ, Array.replicate_zero, List.push_toArray, List.append_toArray, List.nil_append, List.cons_append]
 gi_wp2
 go_ret
 exact ⟨rfl, rfl⟩
theorem directories_stops (n : Nat) (hn : 1 ≤ n) (Bl : Nat) (k : Nat) (A : Option Addr) (c : Nat) (l : List ByteArray) (w w0 : World) (hR : Aside0 (Kd.C Kd.string w A l.length l)) (hd : ∀ x ∈ l, path_Dir.f k x = some (dv k x))
  (hw : Below w.heap.size w w0) (hBl : Boxed w0 Bl 22 (.slice A l.length c)) :
  SeqStopsK Fence.wide n Tryd.prog 85 #[.pointer (some ⟨Bl, 0, none⟩)] (fun x : ByteArray => #[Value.string x]) (KpD w.heap.size Bl) (fun ys => ys = gone k l) (fun pre => pre <+: gone k l) l.length w0 := fun L J Jx W hW hJ _ hY h0 =>
 directories1_in n hn L Bl k A c l w hR hd J Jx _ hJ hY W ⟨hw.trans (hW.mono hw.size)⟩ ⟨(hW.block Bl hBl.lt).trans hBl⟩ h0
theorem info_str : (Tryd.prog.info? 9).map (fun i => (i.zero, i.size, i.bytes)) = some (some (.string ByteArray.empty), 1, 16) := by kernel_rfl
set_option maxRecDepth 100000 in
set_option maxHeartbeats 2000000 in
theorem cone_Cover.calls (k : Nat) (A0 : Option Addr) (c0 : Nat) (l0 : List ByteArray) (r : List ByteArray) (w : World) (hr0 : Kd.C Kd.string w A0 l0.length l0) (_hc0 : l0.length ≤ c0) (h : cone_Cover.f k l0 = some r) :
  Calls Tryd.prog 30 #[.slice A0 l0.length c0] w fun e w' => ∃ v0_ : Value, e = .returned (v0_) ∧ Kd.R Kd.string 9 w' w.heap.size (fun _ => True) v0_ r ∧ Below w.heap.size w w' := by
 have hR := Aside0.mk hr0
 unfold cone_Cover.f at h
 by_cases hl : l0.length < 8796093022208
 ·rw [if_pos hl] at h
  obtain ⟨o, ho, hH⟩ := Option.bind_eq_some_iff.mp h
  obtain ⟨hd, rfl⟩ := dirsOf_gone k l0 o ho
  clear h ho
  obtain ⟨i0, hi, hz0, hz1, hz2⟩ := info_parts info_str
  refine (callsIn_wide (n := 4)).1 ?_
  refine callsIn_of_wp_marks Tryd.func30 rfl trivial ?_ rfl
  simp only [Tryd.ntmps30, List.size_toArray, List.length_cons, List.length_nil, Nat.reduceAdd, Nat.reduceSub, Array.replicate_succ, Array.replicate_zero, List.push_toArray, List.append_toArray, List.nil_append, List.cons_append]
  gi_wp2_with (refine ⟨trivial, ?_⟩; gi_at_call 61; refine (directories_in _ _ _ _ _).mono ?_; rintro e w' ⟨rfl, rfl⟩)
  have bO := Boxed.new w 22 (.slice none 0 0)
  have bN := Boxed.new (w.alloc (.cells #[.slice none 0 0] 22)) 22 (.slice A0 l0.length c0)
  rw [World.size_alloc] at bN
  have hB0 : Below w.heap.size w ((w.alloc (.cells #[.slice none 0 0] 22)).alloc (.cells #[.slice A0 l0.length c0] 22)) := ((Below.refl _ w).alloc (Nat.le_refl _) _).alloc (by simp) _
  have hm : 8796093022208 ≤ maxLen := by decide
  refine wpIn_rangeFunc_ownG rfl (by omega) (gf := 85) (lb := #[.pointer (some ⟨w.heap.size + 1, 0, none⟩)]) rfl trivial (enters_of Tryd.func85 (by kernel_rfl) rfl)
   (directories_stops _ (by omega) (w.heap.size + 1) k A0 c0 l0 w _ hR hd hB0 bN) KpD.t (KpD.b (by simp; omega) (by simp)) (Below.refl _ _) (fun _ => rfl)
   (fun (pre : List ByteArray) W => (∃ v, Boxed W w.heap.size 22 v ∧ W.ownsRow w.heap.size 9 1 v pre.length (pre.map Value.string) ∧ True) ∧ (Boxed W (w.heap.size + 1) 22 (.slice A0 l0.length c0) ∧ Below w.heap.size w W))
   (fun _ _ _ => False)
   (OwnFrom.and (Own.from (holdsRow_own w.heap.size w.heap.size 22 9 1 (fun pre : List ByteArray => pre.length) (fun pre : List ByteArray => pre.map Value.string) (fun _ _ => True)) _) (OwnFrom.and (Own.from (boxed_own (w.heap.size + 1) 22 (fun _ => .slice A0 l0.length c0)) _) (ownFrom_below (Nat.le_refl _) (by simp; omega))))
   (fun _ _ _ _ _ hs _ _ => hs)
   ⟨⟨_, bO.alloc _, World.ownsRow_nil _ _ _ _, trivial⟩, bN, hB0⟩
   (fun x => { tmps := #[.slice A0 l0.length c0, undef, .slice none 0 0, .pointer (some ⟨w.heap.size, 0, none⟩), .string x, .slice A0 l0.length c0, .func (.func 85) #[] #[.pointer (some ⟨w.heap.size + 1, 0, none⟩)], .string x, undef, undef, undef, undef, undef, undef], defers := [] }) ?assign ?body ?done ?stop
  case assign =>
   intro l x W K hK
   gi_wp2
   exact hK
  case body =>
   rintro l pre x W ⟨⟨v, hv, hrow, _⟩, hX, hB⟩ hlt
   have hc := hv.cell
   gi_wp2_with (gi_at_builtin; refine wpListIn_append_own _ rfl _ _ 22 rfl w.heap.size 9 i0 (.string ByteArray.empty) 1 16 Tryd.underlying22 hi hz0 hz1 hz2 rfl (by decide) _ _ _ rfl (hrow.alloc _) ⟨W.heap.size, 0, none⟩ 1 1 [.string x] rfl rfl (cell_one_new _ _ _) (by simp [Value.oneCell']) (by omega) (by omega) (by have := hB.size; simp; omega) ?_; intro v' w1 hown' hgrow _; obtain ⟨g', cap', rfl⟩ := ownsRow_succ hown'; obtain ⟨hv1, hv2, hr2, hk2, hb2⟩ := hv.appended (by decide) hrow hB.size (Nat.le_refl _) hown' hgrow; have hX2 := ((hX.alloc _).kept hgrow (hX.not_row (by decide) hrow)); have hc1 := hv1.cell; have hf1 := hv1.frozen)
   have hX3 := hX2.other (B' := w.heap.size) (by omega) (.slice (some ⟨g', 0, none⟩) (pre.length + 1) cap')
   exact ⟨hk2.from _, ⟨hb2, fun _ => hX3.trans hX.symm⟩, ⟨_, hv2, by simpa using hr2, trivial⟩, hX3, hB.trans hb2⟩
  case done =>
   rintro D ys W hD rfl ⟨⟨v, hv, hrow, _⟩, hX, hB⟩ hK
   have hD1 : D < W.heap.size := (Array.getElem?_eq_some_iff.1 hK).1
   have hD0 : w.heap.size ≤ D := by simp at hD; omega
   have hRow : Kd.R Kd.string 9 W w.heap.size (fun _ => True) v (gone k l0) := ⟨fun _ _ => trivial, (gone k l0).map Value.string, by simpa [Kd.string, Kd.scalar] using hrow, reps_strs (M := Kd.string.M W w.heap.size (fun k' => (fun _ => True) k' ∧ some k' ≠ v.ownBlock)) (fun _ => rfl) _⟩
   obtain ⟨A1, n1, rfl, l1, r1⟩ := Kd.R_reads hRow
   have hc := hv.cell
   gi_wp2_with (refine ⟨trivial, ?_⟩; gi_at_call 20; refine (callsIn_wide.2 (paths_Heads.calls k A1 n1 (gone k l0) r _ r1 l1 hH)).mono ?_; rintro e w2 ⟨v0, rfl, hv0, hb2⟩)
   have hK2 : w2.heap[D]? = some (.deferred (some [])) := (hb2.block D hD1).trans hK
   refine ⟨by simp, .inl ⟨_, _, rfl, run_takeDeferred hK2, ?_⟩⟩
   refine ⟨_, results_tmp rfl _ _ _, v0, rfl, ?_, ?_⟩
   ·exact Kd.R_mono (Kd.R_lower (Kd.R_grown (Kd.R_bound hv0) (grownBy_putObj' w2 D _) (fun q hq e => by cases e; have := hq.2.1; omega)) hB.size) (fun _ _ => trivial)
   ·exact (below_step hB hb2).trans (belowK_b (w := w) (Nat.le_refl _) w2 D _ _ hD0 hK2 rfl rfl)
  case stop =>
   rintro D c pre W _ _ h _
   exact h.elim
 ·rw [if_neg hl] at h; cases h
end Go.Proofs.YtdfkaclflmgkeaaDoor.PAll
