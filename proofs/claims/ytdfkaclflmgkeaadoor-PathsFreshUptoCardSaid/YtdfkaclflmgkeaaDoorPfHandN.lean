/- paths.Norm: a copy, sorted by path.Cmp, each text once. -/
import Derived.Test.YtdfkaclflmgkeaaDoorPfPAllx0
import Derived.Test.YtdfkaclflmgkeaaDoorPfHandA
import Derived.Test.YtdfkaclflmgkeaaDoorPfHandB
import Derived.Test.YtdfkaclflmgkeaaDoorPfSpec
import Derived.Test.YtdfkaclflmgkeaaDoorPfShelf
import Derived.Sort.Grow
import Derived.Shelf.SlSortCmp.NoneTotal
namespace Go.Proofs.YtdfkaclflmgkeaaDoor.PAll
open Go.RowKit Go.Shelf Go.Proofs.YtdfkaclflmgkeaaDoorW.PrintWords Go.Proofs.YtdfkaclflmgkeaaDoorW.PrintLast Go.Proofs.YtdfkaclflmgkeaaDoorW.PrintMore
open Go.Proofs.YtdfkaclflmgkeaaDoor.Sp Go.Sort
theorem le_lt {a b c : Str} (h : cmpP a b ≤ 0) (k : cmpP b c < 0) : cmpP a c < 0 := by
 by_cases e : cmpP a b = 0
 ·rw [cmpP_eq e]; exact k
 ·exact cmpP_trans (by omega) k
theorem le_le {a b c : Str} (h : cmpP a b ≤ 0) (k : cmpP b c ≤ 0) : cmpP a c ≤ 0 := by
 by_cases e : cmpP b c = 0
 ·rw [← cmpP_eq e]; exact h
 ·have := le_lt h (show cmpP b c < 0 by omega); omega
theorem comp_spec (d : Array Str) (hs : ∀ i j, i < j → j < d.size → 0 ≤ cmpP d[j]! d[i]!) : ∀ m, m ≤ d.size →
  (Lib.compactUpTo d m).Pairwise (fun a b => cmpP a b < 0) ∧ (∀ z, z ∈ Lib.compactUpTo d m ↔ ∃ j, j < m ∧ d[j]! = z) ∧ ∀ z ∈ Lib.compactUpTo d m, cmpP z d[m - 1]! ≤ 0
 | 0, _ => by simp [Lib.compactUpTo]
 | m + 1, hm => by
  obtain ⟨h1, h2, h3⟩ := comp_spec d hs m (by omega)
  have hstep : 0 < m → cmpP d[m - 1]! d[m]! ≤ 0 := fun h0 => by
   have := hs (m - 1) m (by omega) (by omega)
   have := cmpP_neg d[m - 1]! d[m]!
   omega
  rw [Lib.compactUpTo_succ]
  by_cases hk : Lib.keeps d m = true
  ·rw [if_pos hk]
   have hk' : m = 0 ∨ d[m]! ≠ d[m - 1]! := by simpa [Lib.keeps] using hk
   have hlt : ∀ z ∈ Lib.compactUpTo d m, cmpP z d[m]! < 0 := fun z hz => by
    rcases hk' with rfl | hne
    ·simp [Lib.compactUpTo] at hz
    ·rcases Nat.eq_zero_or_pos m with rfl | h0
     ·simp [Lib.compactUpTo] at hz
     ·have := hstep h0
      refine le_lt (h3 z hz) ?_
      have : cmpP d[m - 1]! d[m]! ≠ 0 := fun e => hne (cmpP_eq e).symm
      omega
   refine ⟨List.pairwise_append.2 ⟨h1, List.pairwise_singleton _ _, fun a ha b hb => by rw [List.mem_singleton.1 hb]; exact hlt a ha⟩, fun z => ?_, fun z hz => ?_⟩
   ·rw [List.mem_append, h2, List.mem_singleton]
    constructor
    ·rintro (⟨j, hj, rfl⟩ | rfl)
     ·exact ⟨j, by omega, rfl⟩
     ·exact ⟨m, by omega, rfl⟩
    ·rintro ⟨j, hj, rfl⟩
     by_cases e : j = m
     ·exact .inr (by rw [e])
     ·exact .inl ⟨j, by omega, rfl⟩
   ·rcases List.mem_append.1 hz with hz | hz
    ·have := hlt z hz; simp only [Nat.add_sub_cancel]; omega
    ·rw [List.mem_singleton.1 hz]; simp only [Nat.add_sub_cancel]; rw [cmpP_self]; exact Int.le_refl _
  ·rw [if_neg hk, List.append_nil]
   have hk' : m ≠ 0 ∧ d[m]! = d[m - 1]! := by simpa [Lib.keeps] using hk
   refine ⟨h1, fun z => ?_, fun z hz => by simp only [Nat.add_sub_cancel]; rw [hk'.2]; exact h3 z hz⟩
   rw [h2]
   constructor
   ·rintro ⟨j, hj, rfl⟩; exact ⟨j, by omega, rfl⟩
   ·rintro ⟨j, hj, rfl⟩
    by_cases e : j = m
    ·exact ⟨m - 1, by omega, by rw [e, hk'.2]⟩
    ·exact ⟨j, by omega, rfl⟩
abbrev Sh := { s : ByteArray // s.size < 4294967281 }
instance : Inhabited Sh := ⟨⟨ByteArray.empty, by decide⟩⟩
def encSh (s : Sh) : Value := .string s.1
def cmpSh (x y : Sh) : Int := cB x.1 y.1
theorem ltSh (x y : Sh) : ltOf cmpSh x y = true ↔ cB x.1 y.1 < 0 := by unfold ltOf cmpSh; exact decide_eq_true_iff
theorem swoSh : SWO (ltOf cmpSh) where
 irrefl x := by simp [ltOf, cmpSh, cB_self]
 trans x y z h k := (ltSh x z).2 (cB_trans ((ltSh x y).1 h) ((ltSh y z).1 k))
 ntrans x y z h k := by
  have h' : ¬ cB x.1 y.1 < 0 := fun e => by rw [(ltSh x y).2 e] at h; cases h
  have k' : ¬ cB y.1 z.1 < 0 := fun e => by rw [(ltSh y z).2 e] at k; cases k
  rw [← Bool.not_eq_true, ltSh]
  have h1 := cB_neg x.1 y.1
  have k1 := cB_neg y.1 z.1
  intro e
  have e1 := cB_neg x.1 z.1
  have : cmpP (bs z.1) (bs x.1) ≤ 0 := le_le (b := bs y.1) (by show cB z.1 y.1 ≤ 0; omega) (by show cB y.1 x.1 ≤ 0; omega)
  have : cB z.1 x.1 ≤ 0 := this
  omega
theorem compact_sorted (d : Array Sh) (hs : SortedIn (ltOf cmpSh) 0 d.size d) (l : List ByteArray) (hp : (d.toList.map (·.1)).Perm l) :
  (Lib.compact (d.toList.map fun s : Sh => bs s.1)).map mk = norm l := by
 have hsz : ((d.toList.map fun s : Sh => bs s.1).toArray).size = d.size := by simp
 have hget : ∀ j, j < d.size → ((d.toList.map fun s : Sh => bs s.1).toArray)[j]! = bs d[j]!.1 := fun j hj => by
  rw [getElem!_pos _ j (by simpa using hj), getElem!_pos d j hj]; simp
 obtain ⟨h1, h2, _⟩ := comp_spec (d.toList.map fun s : Sh => bs s.1).toArray (fun i j hij hj => by
  rw [hsz] at hj
  rw [hget j hj, hget i (by omega)]
  have := hs i j (Nat.zero_le _) hij hj
  have h3 : ¬ cB d[j]!.1 d[i]!.1 < 0 := fun e => by rw [(ltSh _ _).2 e] at this; cases this
  show 0 ≤ cB d[j]!.1 d[i]!.1
  omega) (d.toList.map fun s : Sh => bs s.1).toArray.size (Nat.le_refl _)
 refine (norm_is ?_ fun z => ?_).symm
 ·refine List.pairwise_map.2 ?_
  have : Lib.compact (d.toList.map fun s : Sh => bs s.1) = Lib.compactUpTo (d.toList.map fun s : Sh => bs s.1).toArray (d.toList.map fun s : Sh => bs s.1).toArray.size := by simp [Lib.compact]
  rw [this]
  exact h1.imp fun {a b} h => by show cmpP (bs (mk a)) (bs (mk b)) < 0; rw [bs_mk, bs_mk]; exact h
 ·have : Lib.compact (d.toList.map fun s : Sh => bs s.1) = Lib.compactUpTo (d.toList.map fun s : Sh => bs s.1).toArray (d.toList.map fun s : Sh => bs s.1).toArray.size := by simp [Lib.compact]
  rw [this, List.mem_map]
  rw [← hp.mem_iff]
  constructor
  ·rintro ⟨y, hy, rfl⟩
   obtain ⟨j, hj, rfl⟩ := (h2 y).1 hy
   rw [hsz] at hj
   rw [hget j hj, mk_bs, getElem!_pos d j hj]
   exact List.mem_map.2 ⟨d[j], by simp, rfl⟩
  ·intro hz
   obtain ⟨s, hs', rfl⟩ := List.mem_map.1 hz
   obtain ⟨j, hj, rfl⟩ := List.getElem_of_mem hs'
   have hj' : j < d.size := by simpa using hj
   exact ⟨bs d[j].1, (h2 _).2 ⟨j, by rw [hsz]; exact hj', by rw [hget j hj', getElem!_pos d j hj']⟩, by rw [mk_bs]; simp⟩
theorem heap_putRow {α : Type} [Inhabited α] (enc : α → Value) (w : World) (g off : Nat) (d : Array α) {c : Array Value} {e : TypeId} {fr : Nat × Nat} (h : w.heap[g]? = some (.cells c e fr)) : (putRow enc w g off d).heap[g]? = some (.cells (putCells enc off d c) e fr) := by
 unfold putRow mapBlock
 simp [Array.getElem?_modify, h, onCells]
theorem heap_putRow_other {α : Type} [Inhabited α] (enc : α → Value) (w : World) (g off : Nat) (d : Array α) {k : Nat} (h : k ≠ g) : (putRow enc w g off d).heap[k]? = w.heap[k]? := by
 unfold putRow mapBlock
 simp [Array.getElem?_modify, Ne.symm h]
theorem size_putCells {α : Type} [Inhabited α] (enc : α → Value) (off : Nat) (d : Array α) (c : Array Value) : (putCells enc off d c).size = c.size := by simp [putCells]
theorem below_putRow {α : Type} [Inhabited α] (enc : α → Value) {w W : World} {B : Nat} (g off : Nat) (d : Array α) (hb : Below B w W) (hg : B ≤ g) : Below B w (putRow enc W g off d) :=
 ⟨hb.os, hb.tape, hb.output, by rw [show (putRow enc W g off d).heap.size = W.heap.size by simp [putRow, mapBlock]]; exact hb.size, fun k hk => (heap_putRow_other enc W g off d (by omega)).trans (hb.block k hk)⟩
theorem below_ahead {w W : World} {B : Nat} (n : Nat) (hb : Below B w W) : Below B w (Sort.ahead W n) := ⟨hb.os, hb.tape, hb.output, hb.size, hb.block⟩
theorem below_grow {w W : World} {B : Nat} (os : Array Obj) (hb : Below B w W) (hB : B ≤ W.heap.size) : Below B w (grow W os) :=
 ⟨hb.os, hb.tape, hb.output, by rw [size_grow]; have := hb.size; omega, fun k hk => (heap_grow_old W os (by omega)).trans (hb.block k hk)⟩
theorem take_putCells (l : List ByteArray) (n : Nat) (d : Array Str) (c : Array Value) (hl : l.length = n) (hn : n ≤ d.size) (hc : d.size ≤ c.size) (hd : ∀ j, j < n → d[j]! = bs (l.getD j ByteArray.empty)) : ((putCells encStr 0 d c).toList.take n) = l.map Value.string := by
 apply List.ext_getElem
 ·simp [size_putCells]; omega
 ·intro i h1 h2
  have hi : i < n := by simpa [hl] using h2
  have e : (putCells encStr 0 d c)[i]? = some (.string (l.getD i ByteArray.empty)) := by
   unfold putCells
   rw [Array.getElem?_mapIdx, Array.getElem?_eq_getElem (by omega), Option.map_some, if_pos ⟨by omega, by omega⟩, Nat.sub_zero, hd i hi]
   show some (Value.string (mk (bs (l.getD i ByteArray.empty)))) = _
   rw [mk_bs]
  simp only [List.getElem_take, List.getElem_map, Array.getElem_toList]
  have hi' : i < (putCells encStr 0 d c).size := by rw [size_putCells]; omega
  rw [Array.getElem?_eq_getElem hi'] at e
  rw [Option.some.inj e]
  simp [List.getD_eq_getElem?_getD, List.getElem?_eq_getElem (show i < l.length by omega)]
def paths_Norm.f (_k : Nat) (l0 : List ByteArray) : Option (List ByteArray) := if l0.length < 8796093022208 ∧ ∀ x ∈ l0, x.size < 4294967281 then some (norm l0) else none
theorem paths_Norm.mono : ∀ a0 k, LeO (paths_Norm.f k a0) (paths_Norm.f (k + 1) a0) := fun _ _ => LeO.refl _
theorem cmpLays (g n : Nat) (w : World) : CmpLays1 Tryd.prog 51 #[] encSh cmpSh g 0 n w := fun m os dk _ x y => by
 have h := cmp_gr x.1 y.1 x.2 y.2 (sortWorld encSh w g 0 m dk os)
 exact h
theorem holds_sh {w : World} {g cap n : Nat} {base : Nat} {l : List ByteArray} (h : w.ownsRow base 9 1 (.slice (some ⟨g, 0, none⟩) n cap) n (encs Value.string l)) (d : Array Sh) (hd : d.toList.map (·.1) = l) : Holds encSh w g 0 d := by
 intro j hj
 have hl : l.length = d.size := by rw [← hd]; simp
 have hn : l.length = n := by have := h.1; simp [encs] at this; exact this
 obtain ⟨h1, h2⟩ := own_at_of (d := ByteArray.empty) h (j : Int) (by omega) (by omega)
 have e : rdOf ByteArray.empty l (j : Int) = d[j]!.1 := by
  rw [rdOf_getD, ← hd, getElem!_pos d j hj]
  simp [List.getD_eq_getElem?_getD, hj]
 simp only [Int.toNat_natCast] at h1 h2
 rw [Nat.zero_add]
 exact ⟨by rw [h1, e]; rfl, h2⟩
theorem holds_map {w : World} {g : Nat} {d : Array Sh} (h : Holds encSh w g 0 d) : Holds encStr w g 0 (d.toList.map fun s : Sh => bs s.1).toArray := by
 intro j hj
 have hj' : j < d.size := by simpa using hj
 refine ⟨?_, (h j hj').2⟩
 rw [(h j hj').1, getElem!_pos (d.toList.map fun s : Sh => bs s.1).toArray j hj, getElem!_pos d j hj']
 show some (Value.string _) = some (Value.string (mk _))
 simp [mk_bs]
def shs (d : Array Sh) : List Str := d.toList.map fun s : Sh => bs s.1
theorem shs_length (d : Array Sh) : (shs d).length = d.size := by unfold shs; rw [List.length_map, Array.length_toList]
theorem holds_map' {w : World} {g : Nat} {d : Array Sh} (h : Holds encSh w g 0 d) : Holds encStr w g 0 (shs d).toArray := holds_map h
theorem own_norm {w1 : World} {base g cap n m : Nat} {l : List ByteArray} (h : w1.ownsRow base 9 1 (.slice (some ⟨g, 0, none⟩) n cap) n (encs Value.string l)) (d : Array Sh) (os : Array Obj) (q : Nat) (r : List ByteArray) (z : Array Str) (hz : z.size = n) (hr : r.length ≤ n) (hzr : ∀ j, j < r.length → z[j]! = bs (r.getD j ByteArray.empty)) (hg : g < w1.heap.size) :
  Kd.R Kd.string 9 (putRow encStr (Sort.ahead (sortWorld encSh w1 g 0 m d os) q) g 0 z) base (fun _ => True) (.slice (some ⟨g, 0, none⟩) r.length cap) r := by
 obtain ⟨_, h2⟩ := h
 rcases h2 with ⟨h', _⟩ | ⟨g', cap', cur, h', hb, hh, h3, h4, h5, h6⟩
 ·cases h'
 ·obtain ⟨rfl, rfl⟩ : g = g' ∧ cap = cap' := by
   injection h' with h1 h2 h3
   injection h1 with h1
   injection h1 with h1
   exact ⟨h1, h3⟩
  have e1 : (putRow encStr (Sort.ahead (sortWorld encSh w1 g 0 m d os) q) g 0 z).heap[g]? = some (.cells (putCells encStr 0 z (putCells encSh 0 d cur)) 9 (0, 0)) := by
   refine heap_putRow encStr _ g 0 z ?_
   show (sortWorld encSh w1 g 0 m d os).heap[g]? = _
   unfold sortWorld
   rw [heap_grow_old _ _ (by simpa [putRow, mapBlock, Sort.ahead] using hg)]
   exact heap_putRow encSh _ g 0 d hh
  refine ⟨fun _ _ => trivial, r.map Value.string, ⟨by rw [List.length_map]; exact (Nat.mul_one _).symm, .inr ⟨g, cap, _, rfl, hb, e1, by omega, h4, by rw [size_putCells, size_putCells]; exact h5, ?_⟩⟩, reps_strs (M := Kd.string.M _ _ _) (fun _ => rfl) r⟩
  show (putCells encStr 0 z (putCells encSh 0 d cur)).toList.take (r.length * 1) = _
  rw [Nat.mul_one]
  exact take_putCells r r.length z _ rfl (by omega) (by rw [size_putCells]; omega) hzr
set_option maxHeartbeats 1000000 in
set_option maxRecDepth 100000 in
theorem norm_some (b off n c : Nat) (l : List ByteArray) (w : World) (hn : l.length = n) (h0 : 0 < n) (hbig : n < 8796093022208) (hsm : ∀ x ∈ l, x.size < 4294967281)
  (hc : ∀ j, j < n → w.cell? ⟨b, off + j, none⟩ = some (.string (l.getD j ByteArray.empty))) :
  Calls Tryd.prog 15 #[.slice (some ⟨b, off, none⟩) n c] w fun e w' => ∃ v0_ : Value, e = .returned (v0_) ∧ Kd.R Kd.string 9 w' w.heap.size (fun _ => True) v0_ (norm l) ∧ Below w.heap.size w w' := by
 have C1 := Aside0.mk (Tryd.slices_Clone_string b off n c l w (by omega) (by omega) (fun j hj => hc j (by omega)))
 have HN := Aside0.mk hn
 have H0 := Aside0.mk h0
 have HB := Aside0.mk hbig
 have HS := Aside0.mk hsm
 clear hc hn h0 hbig hsm
 go_enter Tryd.func15, Tryd.ntmps15
 go_wp2_with fail
 refine C1.out.mono ?_
 rintro e w1 ⟨v1, rfl, hown, _, hb1⟩
 obtain ⟨g, cap, rfl, hg0, hg1⟩ : ∃ g cap, v1 = .slice (some ⟨g, 0, none⟩) n cap ∧ w.heap.size ≤ g ∧ g < w1.heap.size := by
  obtain ⟨g, cap, rfl, h1, h2⟩ := hown.form H0.out
  exact ⟨g, cap, rfl, own_base hown g rfl, own_lt hown g rfl⟩
 have hcap := own_le hown
 rw [List.take_of_length_le (by have := HN.out; omega)] at hown
 obtain ⟨d, hd⟩ : ∃ d : Array Sh, d.toList.map (·.1) = l := ⟨(l.pmap (fun x hx => (⟨x, hx⟩ : Sh)) HS.out).toArray, by simp [List.map_pmap]⟩
 have hdn : d.size = n := by rw [← HN.out, ← hd]; simp
 have C2 := Aside0.mk (Tryd.slices_SortFunc encSh (fun _ => rfl) cmpSh swoSh 51 #[] g 0 cap d w1 (enters_of Tryd.func51 (by kernel_rfl) rfl) (cmpLays g d.size w1) (holds_sh hown d hd) hg1 (by have := HB.out; omega))
 have OWN := Aside0.mk hown
 have HD := Aside0.mk hd
 have DN := Aside0.mk hdn
 have HCAP := Aside0.mk hcap
 have HG := Aside0.mk (And.intro hg0 hg1)
 have B1 := Aside0.mk hb1
 clear hown hd hcap hg0 hg1 hb1 C1
 rw [hdn] at C2
 clear hdn
 go_wp2_with fail
 refine C2.out.mono ?_
 rintro e w2 ⟨rfl, d', m, os, hp, hs, rfl⟩
 have hd' : d'.size = n := hp.1.trans DN.out
 have hH2 : Holds encSh (sortWorld encSh w1 g 0 m d' os) g 0 d' := SW.holds ⟨m, os, rfl⟩ HG.out.2 (holds_sh OWN.out d HD.out) hp.1
 have C3 := Aside0.mk (Tryd.slices_Compact_string g 0 cap (shs d') (sortWorld encSh w1 g 0 m d' os) (holds_map' hH2) (by have := HB.out; rw [shs_length]; omega) (by have := HCAP.out; rw [shs_length]; omega))
 have hlen : (shs d').length = n := (shs_length d').trans hd'
 rw [hlen] at C3
 have hperm : (d'.toList.map (·.1)).Perm l := by
  have := hp.2.2
  rw [show d'.extract 0 n = d' by rw [← hd', Array.extract_size], show d.extract 0 n = d by rw [← DN.out, Array.extract_size]] at this
  rw [← HD.out]
  exact this.map _
 have hsort : SortedIn (ltOf cmpSh) 0 d'.size d' := by rw [hd']; exact hs
 have hres : (Lib.compact (shs d')).map mk = norm l := compact_sorted d' hsort l hperm
 have hclen : (Lib.compact (shs d')).length = (norm l).length := by rw [← hres, List.length_map]
 have hcle : (Lib.compact (shs d')).length ≤ n := by rw [← hlen]; exact Lib.compact_length_le _
 have FIN := fun q => own_norm (m := m) OWN.out d' os q (norm l) (Lib.compact (shs d') ++ List.replicate (n - (Lib.compact (shs d')).length) []).toArray (by simp only [List.size_toArray, List.length_append, List.length_replicate]; omega) (by omega) (fun j hj => by
  rw [← hres]
  have hj' : j < (Lib.compact (shs d')).length := by omega
  rw [getElem!_pos _ j (by simp only [List.size_toArray, List.length_append, List.length_replicate]; omega)]
  simp only [List.getElem_toArray]
  rw [List.getElem_append_left hj']
  simp [List.getD_eq_getElem?_getD, hj', bs_mk]) HG.out.2
 have BEL : Below w.heap.size w (sortWorld encSh w1 g 0 m d' os) := by
  unfold sortWorld
  refine below_grow os (below_putRow encSh g 0 d' (below_ahead m B1.out) HG.out.1) ?_
  have := B1.out.size
  simpa [putRow, mapBlock, Sort.ahead] using this
 rw [hclen] at C3 FIN
 have BEL' := Aside0.mk BEL
 have FIN' := Aside0.mk FIN
 clear BEL FIN hH2 hp hs hperm hsort hres hclen hcle hlen hd' C2
 generalize sortWorld encSh w1 g 0 m d' os = w2 at C3 FIN' BEL' ⊢
 go_wp2_with fail
 refine C3.out.mono ?_
 rintro e w3 ⟨rfl, q, rfl⟩
 have F := Aside0.mk (FIN'.out q)
 have BF := Aside0.mk (below_putRow encStr g 0 (Lib.compact (shs d') ++ List.replicate (n - (norm l).length) []).toArray (below_ahead q BEL'.out) HG.out.1)
 clear FIN' C3
 generalize putRow encStr (Sort.ahead w2 q) g 0 _ = w3 at F BF ⊢
 go_wp2
 go_ret
 exact ⟨_, rfl, F.out, BF.out⟩
theorem sort_none (p : Option Addr) (cap : Nat) (w : World) : Calls Tryd.prog 50 #[.slice p 0 cap, .func (.func 51) #[] #[]] w fun e w' => e = .returned (.tuple #[]) ∧ w' = w :=
 AnyF.slices_SortFunc_none (P := Tryd.prog) (ρ := Tryd.laysSlF6_f50_ren) { Tryd.laysSlF6_f50 with } p cap (.func (.func 51) #[] #[]) w
set_option maxHeartbeats 1000000 in
theorem norm_none (c : Nat) (w : World) :
  Calls Tryd.prog 15 #[.slice none 0 c] w fun e w' => ∃ v0_ : Value, e = .returned (v0_) ∧ Kd.R Kd.string 9 w' w.heap.size (fun _ => True) v0_ [] ∧ Below w.heap.size w w' := by
 have c1 := Tryd.slices_Clone_string_nil 0 c w
 have c2 := sort_none none 0 w
 have c3 := Tryd.slices_Compact_string_empty none 0 w
 go_enter Tryd.func15, Tryd.ntmps15
 go_wp2_with (first | (go_at_call 49; refine c1.mono ?_; rintro e w' ⟨rfl, rfl⟩) | (go_at_call 50; refine c2.mono ?_; rintro e w' ⟨rfl, rfl⟩) | (go_at_call 52; refine c3.mono ?_; rintro e w' ⟨rfl, rfl⟩))
 go_ret
 exact ⟨_, rfl, Kd.R_nil _ _ _ _ _, Below.refl _ _⟩
set_option maxHeartbeats 1000000 in
theorem norm_zero (a : Addr) (c : Nat) (w : World) :
  Calls Tryd.prog 15 #[.slice (some a) 0 c] w fun e w' => ∃ v0_ : Value, e = .returned (v0_) ∧ Kd.R Kd.string 9 w' w.heap.size (fun _ => True) v0_ [] ∧ Below w.heap.size w w' := by
 have c1 := Tryd.slices_Clone_string_zero a c w
 go_enter Tryd.func15, Tryd.ntmps15
 go_wp2_with fail
 refine c1.mono ?_
 rintro e w1 ⟨v1, rfl, hown, _, hb⟩
 obtain ⟨A, cap, rfl⟩ := own_slice hown
 have O := Aside0.mk hown
 have B := Aside0.mk hb
 clear hown hb c1
 go_wp2_with fail
 refine (sort_none A cap _).mono ?_
 rintro e w2 ⟨rfl, rfl⟩
 go_wp2_with fail
 refine (Tryd.slices_Compact_string_empty A cap _).mono ?_
 rintro e w3 ⟨rfl, rfl⟩
 go_wp2
 go_ret
 exact ⟨_, rfl, ⟨fun _ _ => trivial, [], O.out, Reps.none _ _⟩, B.out⟩
theorem plain_addr {w : World} {ad : Addr} {v : Value} (h : w.cell? (ad.add 0) = some v) : ad = ⟨ad.block, ad.off, none⟩ := by
 obtain ⟨b, off, sp⟩ := ad
 cases sp with
 | none => rfl
 | some s =>
  exfalso
  unfold Addr.add at h
  rw [if_pos rfl] at h
  unfold World.cell? at h
  split at h
  ·simp at h
  ·cases h
theorem paths_Norm.calls (k : Nat) (A0 : Option Addr) (c0 : Nat) (l0 : List ByteArray) (r : List ByteArray) (w : World) (hr0 : Kd.C Kd.string w A0 l0.length l0) (hc0 : l0.length ≤ c0) (h : paths_Norm.f k l0 = some r) :
  Calls Tryd.prog 15 #[.slice A0 l0.length c0] w fun e w' => ∃ v0_ : Value, e = .returned (v0_) ∧ Kd.R Kd.string 9 w' w.heap.size (fun _ => True) v0_ r ∧ Below w.heap.size w w' := by
 unfold paths_Norm.f at h
 split at h
 ·rename_i hs
  obtain rfl := Option.some.inj h
  rcases Nat.eq_zero_or_pos l0.length with h0 | h0
  ·obtain rfl := List.eq_nil_of_length_eq_zero h0
   cases A0 with
   | none => exact norm_none c0 w
   | some a => exact norm_zero a c0 w
  ·obtain ⟨ad, rfl, hc⟩ := hr0.2.2 h0
   have hcell : ∀ j, j < l0.length → w.cell? (ad.add j) = some (.string (l0.getD j ByteArray.empty)) := fun j hj => by
    obtain ⟨c, _, hcs, hcc⟩ := hc j _ (List.getElem?_eq_getElem hj)
    have hcs' : c = [.string l0[j]] := hcs
    subst hcs'
    have := hcc 0 (.string l0[j]) rfl
    rw [show j * Kd.string.sz + 0 = j from by show j * 1 + 0 = j; omega] at this
    rw [this]
    simp [List.getD_eq_getElem?_getD, List.getElem?_eq_getElem hj]
   have hp := plain_addr (hcell 0 h0)
   rw [hp] at hcell ⊢
   exact norm_some ad.block ad.off l0.length c0 l0 w rfl h0 hs.1 hs.2 (fun j hj => by have := hcell j hj; rwa [add_at] at this)
 ·cases h
end Go.Proofs.YtdfkaclflmgkeaaDoor.PAll
