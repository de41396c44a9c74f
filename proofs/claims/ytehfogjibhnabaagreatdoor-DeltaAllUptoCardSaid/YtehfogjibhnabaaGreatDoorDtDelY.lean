/- Layer 6: the sort of a row of files. -/
import Derived.Test.YtehfogjibhnabaaGreatDoorDtPAllx0
import Derived.Test.YtehfogjibhnabaaGreatDoorDtPAlly13
import Derived.Test.YtehfogjibhnabaaGreatDoorDtHandA
import Derived.Test.YtehfogjibhnabaaGreatDoorDtPAlly3
import Derived.WalkKit
import Derived.Shelf.SlSortCmp.WholeK
import Derived.Test.YtehfogjibhnabaaGreatDoorDtPAlly6
import Derived.Test.YtehfogjibhnabaaGreatDoorDtPAlly17
import Derived.Test.YtehfogjibhnabaaGreatDoorDtPAlly15
import Derived.BigQuiet
import Derived.Outline
import Derived.Test.YtehfogjibhnabaaGreatDoorDtDelJ
import Derived.Test.YtehfogjibhnabaaGreatDoorDtPAlly5
import Derived.WalkSpells
namespace Go.Proofs.YtehfogjibhnabaaGreatDoor.PAll
open Go.RowKit Go.Lib Go.Sort Go.Proofs.YtehfogjibhnabaaGreatDoorW.PrintWords Go.Proofs.YtehfogjibhnabaaGreatDoorW.PrintLast Go.Proofs.YtehfogjibhnabaaGreatDoorW.PrintMore
open Go.Proofs.YtehfogjibhnabaaGreatDoor.Sp
abbrev FSh := { f : S43 // f.f0.size < 4294967281 }
instance : Inhabited FSh := ⟨⟨⟨ByteArray.empty, ByteArray.empty, 0, 0⟩, by decide⟩⟩
def encFS (f : FSh) : List Value := cellsF f.1
def cmpFS (x y : FSh) : Int := cB x.1.f0 y.1.f0
theorem swoFS : SWO (ltOf cmpFS) where
 irrefl x := swoSh.irrefl ⟨x.1.f0, x.2⟩
 trans x y z := swoSh.trans ⟨x.1.f0, x.2⟩ ⟨y.1.f0, y.2⟩ ⟨z.1.f0, z.2⟩
 ntrans x y z := swoSh.ntrans ⟨x.1.f0, x.2⟩ ⟨y.1.f0, y.2⟩ ⟨z.1.f0, z.2⟩
theorem flat_FS (d : Array FSh) : (flatK encFS 4 d).toList = rowF (d.toList.map (·.1)) := by
 refine rowF_of (by simp) fun j p hj => ?_
 have hjl : j < d.size := by simpa using (List.getElem?_eq_some_iff.1 hj).1
 obtain rfl : d[j]!.1 = p := by
  rw [getElem!_pos d j hjl]
  simpa [hjl] using hj
 apply List.ext_getElem?
 intro i
 rw [List.getElem?_take]
 split
 rotate_left
 ·rename_i hi
  rw [List.getElem?_eq_none (by show 4 ≤ _; omega)]
 rename_i hi
 have ht : j * 4 + i < (flatK encFS 4 d).size := by rw [size_flatK]; omega
 have hg := get_flatK encFS 4 d (j * 4 + i) (by rw [size_flatK] at ht; exact ht)
 rw [getElem!_pos (flatK encFS 4 d) (j * 4 + i) ht] at hg
 rw [List.getElem?_drop, Array.getElem?_toList, Array.getElem?_eq_getElem ht, hg, show (j * 4 + i) / 4 = j by omega, show (j * 4 + i) % 4 = i by omega]
 exact (getElem?_pos (encFS d[j]!) i hi).symm ▸ (by rw [getElem!_pos (encFS d[j]!) i hi])
theorem holds_FS {w : World} {g cap n base : Nat} {d : Array FSh} (h : w.ownsRow base 43 4 (.slice (some ⟨g, 0, none⟩) n cap) n (rowF (d.toList.map (·.1)))) : HoldsK encFS 4 w g 0 d := by
 intro t ht
 have hn : n * 4 = d.size * 4 := by have := h.1; rw [rowF_length] at this; simp at this; omega
 have ht' : t < n * 4 := by rw [size_flatK] at ht; omega
 rw [Nat.zero_add]
 refine ⟨?_, h.frozenAt t⟩
 rw [h.cellAt t ht', ← flat_FS, Array.getElem?_toList, Array.getElem?_eq_getElem ht, getElem!_pos (flatK encFS 4 d) t ht]
 rfl
theorem take_flat (F : Array Value) (c : Array Value) (h : F.size ≤ c.size) : (putCells id 0 F c).toList.take F.size = F.toList := by
 apply List.ext_getElem?
 intro j
 rw [List.getElem?_take]
 split
 ·rename_i hj
  rw [Array.getElem?_toList, Array.getElem?_toList]
  unfold putCells
  rw [Array.getElem?_mapIdx, Array.getElem?_eq_getElem (by omega), Option.map_some, if_pos ⟨by omega, by omega⟩, Nat.sub_zero, getElem!_pos F j hj, Array.getElem?_eq_getElem hj]
  rfl
 rename_i hj
 rw [Array.getElem?_toList, Array.getElem?_eq_none (by omega)]
theorem own_sortedFS {w : World} {base g cap n m : Nat} {xs : List Value} (h : w.ownsRow base 43 4 (.slice (some ⟨g, 0, none⟩) n cap) n xs) (d : Array FSh) (hd : d.size = n) (os : Array Obj) :
  (sortWorldK encFS 4 w g 0 m d os).ownsRow base 43 4 (.slice (some ⟨g, 0, none⟩) n cap) n (rowF (d.toList.map (·.1))) ∧ w.grownBy (sortWorldK encFS 4 w g 0 m d os) (some g) := by
 obtain ⟨cur, hb, hh, h3, h4, h5, h6⟩ := own_slice_is h
 have hg : g < w.heap.size := (Array.getElem?_eq_some_iff.1 hh).1
 have e1 : (sortWorldK encFS 4 w g 0 m d os).heap[g]? = some (.cells (putCells id 0 (flatK encFS 4 d) cur) 43 (0, 0)) := by
  unfold sortWorldK putRowK
  rw [heap_grow_old _ _ (by simpa [putRow, mapBlock, Sort.ahead] using hg)]
  exact heap_putRow id _ g 0 _ hh
 refine ⟨⟨by rw [rowF_length]; simp [hd], .inr ⟨g, cap, _, rfl, hb, e1, h3, h4, by rw [size_putCells]; exact h5, ?_⟩⟩, rfl, rfl, rfl, ?_, fun k hk hne => ?_⟩
 ·rw [← flat_FS, ← hd]
  have := take_flat (flatK encFS 4 d) cur (by rw [size_flatK, h5, hd]; exact Nat.mul_le_mul_right _ h3)
  rwa [size_flatK] at this
 ·unfold sortWorldK putRowK
  rw [size_grow]
  simp [putRow, mapBlock, Sort.ahead]
 unfold sortWorldK putRowK
 rw [heap_grow_old _ _ (by simpa [putRow, mapBlock, Sort.ahead] using hk), heap_putRow_other _ _ _ _ _ (fun e => hne (by rw [e]))]
 rfl
set_option maxHeartbeats 4000000 in
set_option maxRecDepth 100000 in
theorem cmp58_calls (x y : S43) (hx : x.f0.size < 4294967281) (hy : y.f0.size < 4294967281) (W : World) :
  Calls Tryz.prog 36 #[.agg #[.string x.f0, .string x.f1, .int .i64 x.f2, .int .i64 x.f3], .agg #[.string y.f0, .string y.f1, .int .i64 y.f2, .int .i64 y.f3]] W fun e w' => e = .returned (.int .i64 (cB x.f0 y.f0)) ∧ Gr W w' := by
 go_enter Tryz.func36, Tryz.ntmps36
 go_wp2_with fail
 refine (cmp_gr x.f0 y.f0 hx hy _).mono ?_
 rintro e w1 ⟨rfl, hgr⟩
 go_wp2
 go_ret
 exact ⟨rfl, (((Gr.refl W).alloc _).alloc _).trans hgr⟩
theorem cmpFS_lays (g n : Nat) (w : World) : CmpLays Tryz.prog 36 #[] encFS 4 cmpFS g 0 n w := fun m os dk _ x y => cmp58_calls x.1 y.1 x.2 y.2 (sortWorldK encFS 4 w g 0 m dk os)
theorem perm_FS {d d' : Array FSh} {l : List S43} (hd : d.toList.map (·.1) = l) (hp : PermIn 0 d.size d d') : (d'.toList.map (·.1)).Perm l := by
 have h := hp.2.2
 rw [show d'.extract 0 d.size = d' by rw [← hp.1, Array.extract_size], show d.extract 0 d.size = d by rw [Array.extract_size]] at h
 rw [← hd]
 exact h.map _
theorem sorted_FS {d' : Array FSh} (hs : SortedIn (ltOf cmpFS) 0 d'.size d') : (d'.toList.map (·.1)).Pairwise fun x y => ¬ cB y.f0 x.f0 < 0 := by
 rw [List.pairwise_map, List.pairwise_iff_getElem]
 intro i j hi hj hij
 have hj' : j < d'.size := by simpa using hj
 have h := hs i j (Nat.zero_le _) hij hj'
 rw [getElem!_pos d' j hj', getElem!_pos d' i (by omega)] at h
 unfold ltOf cmpFS at h
 simpa using h
set_option maxHeartbeats 4000000 in
set_option maxRecDepth 100000 in
theorem sort57_calls (l : List S43) (base : Nat) (v : Value) (w : World) (hr : Kd.R k43 43 w base (fun _ => True) v l) (hl : l.length ≤ 9000000) (hsm : ∀ x ∈ l, x.f0.size < 4294967281) :
  Calls Tryz.prog 35 #[v, .func (.func 36) #[] #[]] w fun e w' => e = .returned (.tuple #[]) ∧ ∃ s : List S43, s.Perm l ∧ (s.Pairwise fun x y => ¬ cB y.f0 x.f0 < 0) ∧ Kd.R k43 43 w' base (fun _ => True) v s ∧ w.grownBy w' v.ownBlock := by
 have hown := R_files_own hr
 rcases hown.2 with ⟨rfl, h0⟩ | ⟨g, c, cur, rfl, h1, h2, h3, h4, h5⟩
 ·obtain rfl : l = [] := List.eq_nil_of_length_eq_zero h0
  refine (AnyF.slices_SortFunc_none (P := Tryz.prog) (ρ := Tryz.laysSlF06_f35_ren) { Tryz.laysSlF06_f35 with } none 0 (.func (.func 36) #[] #[]) w).mono ?_
  rintro e w' ⟨rfl, rfl⟩
  exact ⟨rfl, [], List.Perm.refl _, List.Pairwise.nil, hr, rfl, rfl, rfl, Nat.le_refl _, fun _ _ _ => rfl⟩
 obtain ⟨d, hd⟩ : ∃ d : Array FSh, d.toList.map (·.1) = l := ⟨(l.pmap (fun x hx => (⟨x, hx⟩ : FSh)) hsm).toArray, by simp [List.map_pmap]⟩
 have hdn : d.size = l.length := by rw [← hd]; simp
 have hg : g < w.heap.size := (Array.getElem?_eq_some_iff.1 h2).1
 have hS := AnyQ.slices_SortFunc (P := Tryz.prog) (ρ := Tryz.laysSlF06_f35_ren) Tryz.laysSlF06_f35 4 (fun w => by kernel_rfl) (fun w => by kernel_rfl) encFS (fun _ => rfl) (fun x => cellsF_one x.1) cmpFS swoFS 36 #[] g 0 c d w (enters_of Tryz.func36 (by kernel_rfl) rfl) (cmpFS_lays g d.size w) (holds_FS (by rw [hd]; exact hown)) hg (by omega)
 rw [hdn] at hS
 refine hS.mono ?_
 rintro e w' ⟨rfl, d', m, os, hp, hs, rfl⟩
 rw [← hdn] at hp hs
 have hd' : d'.size = l.length := hp.1.trans hdn
 obtain ⟨o1, o2⟩ := own_sortedFS (m := m) hown d' hd' os
 refine ⟨rfl, d'.toList.map (·.1), perm_FS hd hp, sorted_FS (by rw [hp.1]; exact hs), own_R_files ?_, o2⟩
 have e : (d'.toList.map (·.1)).length = l.length := by simp [hd']
 rw [e]
 exact o1
open Go.RowKit Go.Proofs.YtehfogjibhnabaaGreatDoorW.PrintWords Go.Proofs.YtehfogjibhnabaaGreatDoorW.PrintLast Go.Proofs.YtehfogjibhnabaaGreatDoorW.PrintMore
theorem off06 {a : List S43} {c : S45} {q1 q2 : ByteArray} {q3 q4 : Int} {q5 : Bool} (h : foundF (atK S43.f0 a c.f0) = (q1, q2, q3, q4, q5)) : offB a c = (!(q5 == c.f1) || !eqF ⟨q1, q2, q3, q4⟩ c.f3) := by
 unfold offB
 cases hk : atK S43.f0 a c.f0 with
 | none =>
  rw [hk] at h
  simp only [foundF, Prod.mk.injEq] at h
  obtain ⟨rfl, rfl, rfl, rfl, rfl⟩ := h
  show (c.f1 || !eqF z43 c.f3) = _
  cases c.f1 <;> rfl
 | some x =>
  rw [hk] at h
  simp only [foundF, Prod.mk.injEq] at h
  obtain ⟨rfl, rfl, rfl, rfl, rfl⟩ := h
  show (!c.f1 || !eqF x c.f3) = _
  cases c.f1 <;> rfl
theorem size_alloc' (w : World) (o : Obj) : (w.alloc o).heap.size = w.heap.size + 1 := by simp
theorem infoFn : (Tryz.prog.info? 1).map (fun i => (i.zero, i.size, i.bytes)) = some (some .nilFunc, 1, 8) := by kernel_rfl
theorem lay06_length (l : List S43) (c : S45) : (lay06 l c).length ≤ l.length + 1 := by
 unfold lay06
 rw [List.length_append]
 have := List.length_filter_le (fun f : S43 => !(f.f0.toList == c.f0.toList)) l
 split
 ·simp; omega
 simp; omega
theorem fits_lays : ∀ (d : List S45) (l : List S43), FitsF l → FitsD d → FitsF (d.foldl lay06 l)
 | [], _, h, _ => h
 | c :: d, l, h, hd => fits_lays d (lay06 l c) (fun x hx => by
   unfold lay06 at hx
   rcases List.mem_append.1 hx with hx | hx
   ·exact h x (List.mem_filter.1 hx).1
   ·split at hx
    ·rw [List.mem_singleton.1 hx]
     exact (hd c (List.mem_cons_self ..)).2.2
    ·cases hx) (fun z hz => hd z (List.mem_cons_of_mem _ hz))
def kLay54 (ob : Nat) : Kd Nat := Kd.scalar (fun b => .func (.func 32) #[] #[.pointer (some ⟨ob, 0, none⟩), .pointer (some ⟨b, 0, none⟩)]) (fun _ => rfl)
set_option maxHeartbeats 4000000 in
set_option maxRecDepth 100000 in
theorem delta_Apply.calls (A0 : Option Addr) (c0 : Nat) (l0 : List S43) (A1 : Option Addr) (c1 : Nat) (l1 : List S45) (r1 : List S43) (r2 : Int) (w : World) (hr0 : Kd.C k43 w A0 l0.length l0) (_hc0 : l0.length ≤ c0) (hr1 : Kd.C k45 w A1 l1.length l1) (_hc1 : l1.length ≤ c1) (h : delta_Apply.f l0 l1 = some (r1, r2)) :
  Calls Tryz.prog 10 #[.slice A0 l0.length c0, .slice A1 l1.length c1] w fun e w' => ∃ v0_ : Value, e = .returned (.tuple #[v0_, .int .i64 r2]) ∧ Kd.R k43 43 w' w.heap.size (fun _ => True) v0_ r1 ∧ Below w.heap.size w w' := by
 obtain ⟨⟨hl1, hl2⟩, hf1, hf2⟩ : (l0.length ≤ 1048576 ∧ l1.length ≤ 4194304) ∧ FitsF l0 ∧ FitsD l1 := by
  unfold delta_Apply.f at h
  split at h
  ·assumption
  cases h
 have hv : applyV l0 l1 = (r1, r2) := by
  unfold delta_Apply.f at h
  rw [if_pos ⟨⟨hl1, hl2⟩, hf1, hf2⟩] at h
  exact Option.some.inj h
 clear h
 have HA := Aside0.mk hv
 have HR0 := Aside0.mk hr0
 have HR1 := Aside0.mk hr1
 have HC0 := Aside0.mk _hc0
 have HC1 := Aside0.mk _hc1
 clear hv hr0 hr1 _hc0 _hc1
 obtain ⟨k1, h1⟩ := Ev.rounds (snap_ev l0 (by omega) hf1)
 obtain ⟨va, hva⟩ : ∃ v, v = snapV l0 := ⟨_, rfl⟩
 rw [← hva] at h1
 have Va := Aside0.mk hva
 have HS1 := Aside0.mk h1
 clear hva h1
 obtain ⟨k2, h2⟩ := Ev.rounds (valid06 l1 (by omega) hf2)
 obtain ⟨vd, hvd⟩ : ∃ v, v = validD l1 := ⟨_, rfl⟩
 rw [← hvd] at h2
 have Vd := Aside0.mk hvd
 have HS2 := Aside0.mk h2
 clear hvd h2
 go_enter Tryz.func10, Tryz.ntmps10
 go_wp2_with fail
 refine (snap_Valid.calls k1 A0 c0 l0 va _ HR0.out HC0.out HS1.out).mono ?_
 rintro e1 w1 ⟨rfl, hb⟩
 have HR0 := Aside0.mk (Kd.C_below HR0.out hb)
 have HR1 := Aside0.mk (Kd.C_below HR1.out hb)
 have BW := Aside0.mk hb
 clear hb
 by_cases hz : va = 0
 rotate_left
 ·obtain ⟨rfl, rfl⟩ : r1 = [] ∧ r2 = va := by
   have := HA.out
   rw [applyV, if_neg (by rw [← Va.out]; exact hz)] at this
   exact ⟨(congrArg Prod.fst this).symm, (congrArg Prod.snd this).symm.trans Va.out.symm⟩
  go_wp2_with fail
  go_ret2
  exact ⟨_, rfl, Kd.R_nil _ _ _ _ _, BW.out⟩
 subst hz
 go_wp2_with fail
 refine (delta_Valid.calls k2 A1 c1 l1 vd _ HR1.out HC1.out HS2.out).mono ?_
 rintro e2 w2 ⟨rfl, hb⟩
 have HR0 := Aside0.mk (Kd.C_below HR0.out hb)
 have HR1 := Aside0.mk (Kd.C_below HR1.out hb)
 have BW := Aside0.mk (below_then BW.out BW.out.size hb)
 clear hb
 cases vd with
 | false =>
  obtain ⟨rfl, rfl⟩ : r1 = [] ∧ r2 = 9 := by
   have := HA.out
   rw [applyV, if_pos Va.out.symm, if_neg (by rw [← Vd.out]; decide)] at this
   exact ⟨(congrArg Prod.fst this).symm, (congrArg Prod.snd this).symm⟩
  go_wp2_with fail
  go_ret2
  exact ⟨_, rfl, Kd.R_nil _ _ _ _ _, BW.out⟩
 | true =>
  go_wp2_with fail
  refine (clone55_calls A0 c0 l0 _ HR0.out (by omega)).mono ?_
  rintro e3 w3 ⟨v3, rfl, ho, hb⟩
  obtain ⟨Ao, co, rfl, lo, ro⟩ := Kd.R_reads ho
  have HO := Aside0.mk (Kd.R_lower ho BW.out.size)
  have HR0 := Aside0.mk (Kd.C_below HR0.out hb)
  have HR1 := Aside0.mk (Kd.C_below HR1.out hb)
  have BW := Aside0.mk (below_then BW.out BW.out.size hb)
  clear ho hb lo ro
  go_wp2
  go_loopg [8, 10, 11, 12, 27] l1.length (fun gg s8 _ _ _ s27 wr => ∃ (i : Nat) (bs : List Nat), i ≤ l1.length ∧ l1.length - i ≤ gg ∧ s27 = .int .i64 i ∧ bs.length = i ∧ Aside0 (Kd.R (kLay54 w3.heap.size) 1 wr (w3.heap.size + 1) (fun _ => True) s8 bs) ∧ Aside0 (Below (w3.heap.size + 1) (w3.alloc (.cells #[.slice Ao l0.length co] 22)) wr) ∧ Aside0 (∀ (j b : Nat) (c : S45), bs[j]? = some b → l1[j]? = some c → w3.heap.size < b ∧ wr.heap[b]? = some (.cells (cellsC c) 45 (0, 0))) ∧ Aside0 (∀ c ∈ l1.take i, offB l0 c = false))
  case atStart => exact ⟨0, [], by omega, by omega, by first | rfl | go_num, rfl, ⟨Kd.R_nil _ _ _ _ _⟩, ⟨Below.refl _ _⟩, ⟨by simp⟩, ⟨by simp⟩⟩
  case round =>
   obtain ⟨i, bs, hi, hg, rfl, hbl, T1, B1, CB1, F1⟩ := hrel
   have B3 : Aside0 (Below w3.heap.size w3 wr) := ⟨by
    have h2 := B1.out
    refine ⟨h2.os, h2.tape, h2.output, ?_, fun k hk => (h2.block k (by omega)).trans ((World.grownBy_alloc w3 _ none).block k hk (by simp))⟩
    have := h2.size
    rw [size_alloc'] at this
    omega⟩
   have BW1 := Aside0.mk (below_then BW.out BW.out.size B3.out)
   by_cases hlt : i < l1.length
   ·have hltz : (i : Int) < (l1.length : Int) := by omega
    obtain ⟨ad, e1, h0, h1, h2, h3, h4, h5, h6, h7, h8, h9, h10⟩ := at_T45 (Kd.C_below HR1.out B3.out) (i : Int) (by omega) hltz
    subst e1
    have hx : rd_T45 l1 (i : Int) = l1[i] := by
     unfold rd_T45
     rw [Int.toNat_natCast, List.getD_eq_getElem?_getD, List.getElem?_eq_getElem hlt]
     rfl
    rw [hx] at h0 h1 h2 h3 h4 h5 h6 h7 h8 h9 h10
    simp only [Int.toNat_natCast] at h0 h1 h2 h3 h4 h5 h6 h7 h8 h9 h10
    have XI : Aside0 (∃ x, x = l1[i]) := ⟨_, rfl⟩
    obtain ⟨c, hc⟩ : ∃ c, c = l1[i] := ⟨_, rfl⟩
    rw [← hc] at h0 h1 h2 h3 h4 h5 h6 h7 h8 h9 h10
    have XC := Aside0.mk hc
    clear hc hx XI
    obtain ⟨q1, q2, q3, q4, q5, hq⟩ : ∃ q1 q2 q3 q4 q5, foundF (atK S43.f0 l0 c.f0) = (q1, q2, q3, q4, q5) := ⟨_, _, _, _, _, rfl⟩
    obtain ⟨kf, hfn⟩ := Ev.rounds (find06 l0 c.f0 (by omega))
    rw [hq] at hfn
    have FQ := Aside0.mk hq
    have FN := Aside0.mk hfn
    clear hq hfn
    go_wp2_with fail
    refine (snap_Find.calls kf A0 c0 l0 c.f0 q1 q2 q3 q4 q5 _ (Kd.C_alloc (Kd.C_below HR0.out B3.out) _) HC0.out FN.out).mono ?_
    rintro e w5 ⟨rfl, hb⟩
    have u1 : ∀ o, (w5.alloc o).cell? ⟨wr.heap.size, 1, none⟩ = some (.bool c.f1) := fun o => Lib.cell?_alloc_some o ((hb.cell (p := ⟨wr.heap.size, 1, none⟩) (by simp)).trans (cell_new wr _ _ 1))
    have u3 : ∀ o, (w5.alloc o).cell? ⟨wr.heap.size, 3, none⟩ = some (.string c.f3.f0) := fun o => Lib.cell?_alloc_some o ((hb.cell (p := ⟨wr.heap.size, 3, none⟩) (by simp)).trans (cell_new wr _ _ 3))
    have u4 : ∀ o, (w5.alloc o).cell? ⟨wr.heap.size, 4, none⟩ = some (.string c.f3.f1) := fun o => Lib.cell?_alloc_some o ((hb.cell (p := ⟨wr.heap.size, 4, none⟩) (by simp)).trans (cell_new wr _ _ 4))
    have u5 : ∀ o, (w5.alloc o).cell? ⟨wr.heap.size, 5, none⟩ = some (.int .i64 c.f3.f2) := fun o => Lib.cell?_alloc_some o ((hb.cell (p := ⟨wr.heap.size, 5, none⟩) (by simp)).trans (cell_new wr _ _ 5))
    have u6 : ∀ o, (w5.alloc o).cell? ⟨wr.heap.size, 6, none⟩ = some (.int .i64 c.f3.f3) := fun o => Lib.cell?_alloc_some o ((hb.cell (p := ⟨wr.heap.size, 6, none⟩) (by simp)).trans (cell_new wr _ _ 6))
    have NB : Aside0 (w5.heap[wr.heap.size]? = some (.cells (cellsC c) 45 (0, 0))) := ⟨(hb.block wr.heap.size (by simp)).trans (heap_alloc_new wr _)⟩
    have S5 : Aside0 (wr.heap.size < w5.heap.size) := ⟨by have := hb.size; rw [size_alloc'] at this; omega⟩
    have B5 : Aside0 (Below wr.heap.size wr w5) := ⟨below_then (below_alloc (Below.refl _ _) _) (by simp) hb⟩
    have OFF := Aside0.mk (off06 FQ.out)
    clear hb h0 h1 h2 h3 h4 h5 h6 h7 h8 h9 h10
    generalize hg1 : c.f1 = g1 at u1 OFF
    have HG1 := Aside0.mk hg1
    clear hg1
    have BW5 := Aside0.mk (below_then BW1.out BW1.out.size B5.out)
    have NINE : Aside0 (offB l0 c = true → r1 = [] ∧ r2 = 9) := ⟨fun ho => by
     have h := HA.out
     have hany : l1.any (offB l0) = true := List.any_eq_true.2 ⟨c, by rw [XC.out]; exact List.getElem_mem hlt, ho⟩
     rw [applyV, if_pos Va.out.symm, if_pos Vd.out.symm, if_pos hany] at h
     exact ⟨(congrArg Prod.fst h).symm, (congrArg Prod.snd h).symm⟩⟩
    by_cases hq5 : q5 = g1
    rotate_left
    ·obtain ⟨rfl, rfl⟩ := NINE.out (by rw [OFF.out]; simp [hq5])
     clear OFF NINE
     have hq5' : (q5 == g1) = false := by simpa using hq5
     go_wp2_with fail
     go_ret2
     exact ⟨_, rfl, Kd.R_nil _ _ _ _ _, below_alloc BW5.out _⟩
    subst hq5
    by_cases hqf : eqF ⟨q1, q2, q3, q4⟩ c.f3 = true
    rotate_left
    ·obtain ⟨rfl, rfl⟩ := NINE.out (by rw [OFF.out]; simp [hqf])
     have hor : (q1.toList == c.f3.f0.toList) = false ∨ (q2.toList == c.f3.f1.toList) = false ∨ ¬ q3 = c.f3.f2 ∨ ¬ q4 = c.f3.f3 := by
      refine Classical.byContradiction fun hn => hqf ?_
      simp only [not_or, Classical.not_not, Bool.not_eq_false] at hn
      obtain ⟨a1, a2, a3, a4⟩ := hn
      unfold eqF
      simp [a1, a2, a3, a4]
     clear hqf OFF NINE
     rcases hor with h | h | h | h
     all_goals go_wp2_with fail
     all_goals (go_ret2; exact ⟨_, rfl, Kd.R_nil _ _ _ _ _, below_alloc BW5.out _⟩)
    have he := eqF_iff.1 hqf
    have OFF0 : Aside0 (offB l0 c = false) := ⟨by rw [OFF.out, hqf]; simp⟩
    rw [← he] at u3 u4 u5 u6
    clear hqf he OFF NINE
    have SR : Aside0 (w3.heap.size + 1 ≤ wr.heap.size) := ⟨by have := B1.out.size; rwa [size_alloc'] at this⟩
    have BT : Aside0 (Below (w3.heap.size + 1) (w3.alloc (.cells #[.slice Ao l0.length co] 22)) w5) := ⟨below_then B1.out SR.out B5.out⟩
    have TT : Aside0 (Kd.R (kLay54 w3.heap.size) 1 w5 (w3.heap.size + 1) (fun _ => True) u8 bs) := ⟨Kd.R_below T1.out B5.out⟩
    go_wp2_with (first
     | ((with_reducible refine gate_builtin (b := .append) (xs := #[.tmp 48, .tmp 50]) rfl ?_); at_builtin; refine Kd.R_append (kLay54 w3.heap.size) (w0 := w3.alloc (.cells #[.slice Ao l0.length co] 22)) (w3.heap.size + 1) rfl (.tmp 48) (.tmp 50) 54 1 .nilFunc 8 rfl Tryz.underlying54 infoFn rfl Nat.one_pos (by omega) u8 bs wr.heap.size [.func (.func 32) #[] #[.pointer (some ⟨w3.heap.size, 0, none⟩), .pointer (some ⟨wr.heap.size, 0, none⟩)]] (fun _ => True) (fun _ => False) rfl (by first | (go_simp; done) | (go_simp; rfl)) rfl (fun _ h => h.elim) (fun _ _ => trivial) (Kd.R_alloc TT.out _) (BT.out.alloc (by have := SR.out; have := S5.out; omega) _) (by have := SR.out; have := S5.out; rw [size_alloc']; omega) (by omega) ?_; intro v6 w6 ho hb hgr hat; have T6 := Aside0.mk ho; have B6 := Aside0.mk hb; have G6 := Aside0.mk hgr; clear ho hb hgr hat)
     | fail)
    go_roundg (l1.length - (i + 1))
    case measure => omega
    case rel =>
     have mv : ∀ (b : Nat) (d : S45), w5.heap[b]? = some (.cells (cellsC d) 45 (0, 0)) → w6.heap[b]? = some (.cells (cellsC d) 45 (0, 0)) := fun b d hbd => by
      have hlt5 : b < w5.heap.size := (Array.getElem?_eq_some_iff.1 hbd).1
      exact (G6.out.block b (by rw [size_alloc']; omega) (Kd.R_ne TT.out hbd (by decide))).trans (((World.grownBy_alloc w5 _ none).block b hlt5 (by simp)).trans hbd)
     refine ⟨i + 1, bs ++ [wr.heap.size], by omega, by omega, by go_num, by simp [hbl], T6, B6, ⟨fun j b d hj hd => ?_⟩, ⟨fun d hd => ?_⟩⟩
     rotate_left
     ·rw [List.take_succ_eq_append_getElem hlt, List.mem_append, List.mem_singleton] at hd
      rcases hd with hd | rfl
      ·exact F1.out d hd
      rw [← XC.out]; exact OFF0.out
     by_cases hjl : j < bs.length
     ·rw [List.getElem?_append_left hjl] at hj
      obtain ⟨p1, p2⟩ := CB1.out j b d hj hd
      exact ⟨p1, mv b d ((B5.out.block b (Array.getElem?_eq_some_iff.1 p2).1).trans p2)⟩
     have hjl2 : j = bs.length := by
      have := (List.getElem?_eq_some_iff.1 hj).1
      simp at this
      omega
     subst hjl2
     rw [List.getElem?_append_right (Nat.le_refl _), Nat.sub_self] at hj
     obtain rfl : wr.heap.size = b := by simpa using hj
     rw [hbl, List.getElem?_eq_getElem hlt] at hd
     obtain rfl : l1[i] = d := Option.some.inj hd
     have := SR.out
     exact ⟨by omega, mv _ _ (by rw [← XC.out]; exact NB.out)⟩
   have hltz : ¬ (i : Int) < (l1.length : Int) := by omega
   have hil : i = l1.length := by omega
   subst hil
   obtain ⟨gt, ct, rfl, ltt, rtt⟩ := Kd.R_reads T1.out
   rw [hbl] at rtt
   have RT := Aside0.mk rtt
   clear rtt ltt
   have OB0 : Aside0 (wr.heap[w3.heap.size]? = some (.cells #[.slice Ao l0.length co] 22 (0, 0))) := ⟨(B1.out.block w3.heap.size (by omega)).trans (heap_alloc_new w3 _)⟩
   have HO0 : Aside0 (Kd.R k43 43 wr w.heap.size (fun _ => True) (.slice Ao l0.length co) l0) := ⟨Kd.R_below HO.out B3.out⟩
   have HBO : Aside0 (w.heap.size ≤ w3.heap.size) := ⟨BW.out.size⟩
   have F1' : Aside0 (∀ c ∈ l1, offB l0 c = false) := ⟨by have := F1.out; rwa [List.take_length] at this⟩
   clear F1 HO B3 B1 RT
   go_wp2
   go_loopg [14, 55] l1.length (fun gg _ s55 wr => ∃ (j : Nat) (v : Value) (l : List S43), j ≤ l1.length ∧ l1.length - j ≤ gg ∧ s55 = .int .i64 j ∧ Aside0 (l = (l1.take j).foldl lay06 l0) ∧ Aside0 (l.length ≤ l0.length + j) ∧ Aside0 (Kd.R k43 43 wr w.heap.size (fun _ => True) v l) ∧ Aside0 (wr.heap[w3.heap.size]? = some (.cells #[v] 22 (0, 0))) ∧ Aside0 (Kd.R (kLay54 w3.heap.size) 1 wr (w3.heap.size + 1) (fun _ => True) (.slice gt bs.length ct) bs) ∧ Aside0 (∀ (j b : Nat) (c : S45), bs[j]? = some b → l1[j]? = some c → w3.heap.size < b ∧ wr.heap[b]? = some (.cells (cellsC c) 45 (0, 0))) ∧ Aside0 (Below w.heap.size w wr))
   case atStart => exact ⟨0, _, l0, by omega, by omega, by first | rfl | go_num, ⟨rfl⟩, ⟨by omega⟩, HO0, OB0, T1, CB1, BW1⟩
   case round =>
    clear HO0 OB0 T1 CB1 BW1
    obtain ⟨j, v, l, hj, hgj, rfl, LV, LN, RV, OB, TD, CB, BX⟩ := hrel
    have hbl' : bs.length = l1.length := hbl
    by_cases hjl : j < l1.length
    ·have hjz : (j : Int) < (l1.length : Int) := by omega
     obtain ⟨at', cs, e1, hcsl, hK, hcc⟩ := Kd.C_get (Kd.R_reads' TD.out).2.2 0 (j : Int) (by omega) (by rw [hbl']; exact hjz)
     subst e1
     obtain ⟨b, hb⟩ : ∃ b, bs[j]? = some b := ⟨_, List.getElem?_eq_getElem (by omega)⟩
     obtain ⟨cb1, cb2⟩ := CB.out j b l1[j] hb (List.getElem?_eq_getElem hjl)
     have hbd : bs.getD (j : Int).toNat 0 = b := by rw [Int.toNat_natCast, List.getD_eq_getElem?_getD, hb]; rfl
     rw [hbd] at hK
     have hcs : cs = [.func (.func 32) #[] #[.pointer (some ⟨w3.heap.size, 0, none⟩), .pointer (some ⟨b, 0, none⟩)]] := hK
     have hcell := hcc 0 _ (by rw [hcs]; rfl)
     have hcell2 : wr.cell? (at'.add j) = some (.func (.func 32) #[] #[.pointer (some ⟨w3.heap.size, 0, none⟩), .pointer (some ⟨b, 0, none⟩)]) := by
      have e : (j : Int).toNat * (kLay54 w3.heap.size).sz + 0 = j := by show (j : Int).toNat * 1 + 0 = j; omega
      rw [e] at hcell
      exact hcell
     have CB2 := Aside0.mk cb2
     clear hcell hcc hK hcs hcsl hbd hb cb2
     go_wp2_with fail
     refine (lay54_calls l l1[j] w3.heap.size b w.heap.size v wr RV.out (by have := LN.out; omega) HBO.out OB.out CB2.out).mono ?_
     rintro e w5 ⟨v', rfl, rv, ov, bv, fr⟩
     have FR : Aside0 (∀ (k q : Nat) (cells : Array Value), q ≠ 22 → q ≠ 43 → wr.heap[k]? = some (.cells cells q (0, 0)) → w5.heap[k]? = some (.cells cells q (0, 0))) := ⟨fun k q cells hq1 hq2 hk => by
      refine (fr k (Array.getElem?_eq_some_iff.1 hk).1 ?_ (Kd.R_ne RV.out hk hq2.symm)).trans hk
      rintro rfl
      rw [OB.out] at hk
      injection hk with hk
      injection hk with _ hk
      exact hq1 hk.symm⟩
     clear fr
     have RV5 := Aside0.mk rv
     have OB5 := Aside0.mk ov
     have BX5 := Aside0.mk (BX.out.trans bv)
     clear rv ov bv
     go_wp2
     go_roundg (l1.length - (j + 1))
     case measure => omega
     case rel =>
      refine ⟨j + 1, v', lay06 l l1[j], by omega, by omega, by go_num, ⟨?_⟩, ⟨?_⟩, RV5, OB5, ⟨?_⟩, ⟨fun j' b' c' h1' h2' => ?_⟩, BX5⟩
      ·rw [List.take_succ_eq_append_getElem hjl, List.foldl_append, ← LV.out]
       rfl
      ·have := LN.out
       have := lay06_length l l1[j]
       omega
      ·refine Kd.R_mono (Kd.R_move (Kd.R_bound TD.out) (fun k hk => ?_)) (fun _ _ => trivial)
       obtain ⟨_, _, _, q, hq, cells, hc⟩ := hk
       have hq1 : q = 1 := List.mem_singleton.1 hq
       subst hq1
       exact (FR.out k _ cells (by decide) (by decide) hc).trans hc.symm
      obtain ⟨p1, p2⟩ := CB.out j' b' c' h1' h2'
      exact ⟨p1, FR.out b' _ _ (by decide) (by decide) p2⟩
    have hjz : ¬ (j : Int) < (l1.length : Int) := by omega
    have hjn : j = l1.length := by omega
    subst hjn
    have hl : l = l1.foldl lay06 l0 := by have := LV.out; rwa [List.take_length] at this
    obtain ⟨Av, cv, rfl, hcv, -⟩ := Kd.R_reads RV.out
    have k0 : wr.cell? ⟨w3.heap.size, 0, none⟩ = some (.slice Av l.length cv) := by simp [World.cell?, OB.out]
    have hmem : FitsF l := by rw [hl]; exact fits_lays l1 l0 hf1 hf2
    have HL := Aside0.mk hl
    have HM := Aside0.mk hmem
    have HCV := Aside0.mk hcv
    clear hl hmem hcv TD CB
    go_wp2_with fail
    refine (sort57_calls l w.heap.size _ wr RV.out (by have := LN.out; omega) (fun x hx => by have := (HM.out x hx).1; omega)).mono ?_
    rintro e w5 ⟨rfl, s, hperm, hsort, rs, gs⟩
    have k5 : w5.cell? ⟨w3.heap.size, 0, none⟩ = some (.slice Av l.length cv) := gs.cell k0 (Kd.R_ne RV.out OB.out (by decide))
    have hsl : s.length = l.length := hperm.length_eq
    have hs : s = applyL l0 l1 := turned06 (snap_rises Va.out.symm) (validD_iff.1 Vd.out.symm).rises (may_new (validD_iff.1 Vd.out.symm)) (by rw [← HL.out]; exact hperm) hsort
    obtain ⟨ks, hks⟩ := Ev.rounds (snap_ev s (by have := LN.out; omega) (fun x hx => HM.out x (hperm.mem_iff.1 hx)))
    obtain ⟨vs, hvs⟩ : ∃ vs, vs = snapV s := ⟨_, rfl⟩
    rw [← hvs] at hks
    have hV := snap_Valid.calls ks Av cv s vs w5 (Kd.R_reads' rs).2.2 (by rw [hsl]; exact HCV.out) hks
    rw [hsl] at hV
    have BS : Aside0 (Below w.heap.size w w5) := ⟨BX.out.grown gs BX.out.size (fun k hk => own_base (R_files_own RV.out) k hk)⟩
    have RS := Aside0.mk rs
    have VS := Aside0.mk hvs
    have SA := Aside0.mk hs
    have SV := Aside0.mk hV
    clear hperm hsort rs gs hks hvs hs hV k0
    go_wp2_with fail
    refine SV.out.mono ?_
    rintro e w6 ⟨rfl, hb⟩
    have k6 : w6.cell? ⟨w3.heap.size, 0, none⟩ = some (.slice Av l.length cv) := (hb.cell (p := ⟨w3.heap.size, 0, none⟩) (World.block_lt_of_cell? w5 _ k5)).trans k5
    have R6 := Aside0.mk (Kd.R_below RS.out hb)
    have B6 := Aside0.mk (below_then BS.out BS.out.size hb)
    have hAp : applyV l0 l1 = if vs = 0 then (s, 0) else ([], 9) := by
     rw [applyV, if_pos Va.out.symm, if_pos Vd.out.symm, if_neg (by simpa using F1'.out), ← SA.out, VS.out]
    rw [HA.out] at hAp
    have AP := Aside0.mk hAp
    clear hb k5 hAp
    by_cases hz : vs = 0
    ·subst hz
     obtain ⟨rfl, rfl⟩ : r1 = s ∧ r2 = 0 := by
      have := AP.out
      rw [if_pos rfl] at this
      exact ⟨congrArg Prod.fst this, congrArg Prod.snd this⟩
     go_wp2_with fail
     go_ret2
     exact ⟨_, rfl, R6.out, B6.out⟩
    obtain ⟨rfl, rfl⟩ : r1 = [] ∧ r2 = 9 := by
     have := AP.out
     rw [if_neg hz] at this
     exact ⟨congrArg Prod.fst this, congrArg Prod.snd this⟩
    have hz' : (vs == 0) = false := by simpa using hz
    go_wp2_with fail
    go_ret2
    exact ⟨_, rfl, Kd.R_nil _ _ _ _ _, B6.out⟩
attribute [local go_sem] max2_int min2_int max_two min_two max_three min_three max_four min_four
set_option linter.unusedVariables false
set_option linter.unusedSimpArgs false
attribute [local go_sem high] eqA45
def copselaw06_alive.f (k : Nat)  : Option (Bool) := (some (([(⟨(⟨#[97]⟩ : ByteArray), (⟨#[]⟩ : ByteArray), 1, 1⟩ : S43), (⟨(⟨#[98]⟩ : ByteArray), (⟨#[]⟩ : ByteArray), 1, 1⟩ : S43)] : List (S43)) : List (S43))).bind fun y250 => ((some (([(⟨(⟨#[98]⟩ : ByteArray), (⟨#[]⟩ : ByteArray), 2, 1⟩ : S43)] : List (S43)) : List (S43))).bind fun y253 => ((delta_Diff.f k y250 y253).bind fun t256 => ((delta_Apply.f y250 t256).bind fun bt259 => (if (t256.length : Int) = 2 then ((delta_Valid.f k t256).bind fun t263 => (if t263 = true then ((copselaw06_num.f bt259.2).bind fun t264 => (if t264 = 0 then ((copselaw06_files.f k bt259.1 y253).bind fun t265 => (if t265 = true then ((delta_Paths.f k t256).bind fun t266 => ((copselaw06_texts.f k t266 (([(⟨#[97]⟩ : ByteArray), (⟨#[98]⟩ : ByteArray)] : List ByteArray))).bind fun t272 => (some t272))) else (some false))) else (some false))) else (some false))) else (some false)))))
theorem copselaw06_alive.mono : ∀ k, LeO (copselaw06_alive.f k ) (copselaw06_alive.f (k + 1) ) := by
 intro  k
 unfold copselaw06_alive.f
 repeat' first
   | (with_reducible exact copselaw06_files.mono _ _ _)
   | (with_reducible exact copselaw06_texts.mono _ _ _)
   | (with_reducible exact delta_Diff.mono _ _ _)
   | (with_reducible exact delta_Paths.mono _ _)
   | (with_reducible exact delta_Valid.mono _ _)
   | (with_reducible exact LeO.refl _)
   | (with_reducible exact LeO.none _)
   | (with_reducible refine LeO.ite ?_ ?_)
   | (with_reducible refine LeO.bind ?_ (fun _ => ?_))
   | exact copselaw06_files.mono _ _ _
   | exact copselaw06_texts.mono _ _ _
   | exact delta_Diff.mono _ _ _
   | exact delta_Paths.mono _ _
   | exact delta_Valid.mono _ _
   | exact LeO.none _
   | refine LeO.ite ?_ ?_
   | refine LeO.bind ?_ (fun _ => ?_)
set_option maxHeartbeats 8000000 in
set_option maxRecDepth 100000 in
theorem copselaw06_alive.calls (k : Nat)  (r : Bool) (w : World) (h : copselaw06_alive.f k  = some r) :
  Calls Tryz.prog 6 #[] w fun e w' => e = .returned (.bool r) ∧ Below w.heap.size w w' := by
 have hu43 := Tryz.underlying43
 have HB := Aside0.mk (Below.refl w.heap.size w)
 have H : ((some (([(⟨(⟨#[97]⟩ : ByteArray), (⟨#[]⟩ : ByteArray), 1, 1⟩ : S43), (⟨(⟨#[98]⟩ : ByteArray), (⟨#[]⟩ : ByteArray), 1, 1⟩ : S43)] : List (S43)) : List (S43))).bind fun y250 => ((some (([(⟨(⟨#[98]⟩ : ByteArray), (⟨#[]⟩ : ByteArray), 2, 1⟩ : S43)] : List (S43)) : List (S43))).bind fun y253 => ((delta_Diff.f k y250 y253).bind fun t256 => ((delta_Apply.f y250 t256).bind fun bt259 => (if (t256.length : Int) = 2 then ((delta_Valid.f k t256).bind fun t263 => (if t263 = true then ((copselaw06_num.f bt259.2).bind fun t264 => (if t264 = 0 then ((copselaw06_files.f k bt259.1 y253).bind fun t265 => (if t265 = true then ((delta_Paths.f k t256).bind fun t266 => ((copselaw06_texts.f k t266 (([(⟨#[97]⟩ : ByteArray), (⟨#[98]⟩ : ByteArray)] : List ByteArray))).bind fun t272 => (some t272))) else (some false))) else (some false))) else (some false))) else (some false)))))) = some r := h
 clear h
 obtain ⟨y250, hy250⟩ : ∃ y_ : List (S43), y_ = (([(⟨(⟨#[97]⟩ : ByteArray), (⟨#[]⟩ : ByteArray), 1, 1⟩ : S43), (⟨(⟨#[98]⟩ : ByteArray), (⟨#[]⟩ : ByteArray), 1, 1⟩ : S43)] : List (S43))) := ⟨_, rfl⟩
 replace H : ((some (([(⟨(⟨#[98]⟩ : ByteArray), (⟨#[]⟩ : ByteArray), 2, 1⟩ : S43)] : List (S43)) : List (S43))).bind fun y253 => ((delta_Diff.f k y250 y253).bind fun t256 => ((delta_Apply.f y250 t256).bind fun bt259 => (if (t256.length : Int) = 2 then ((delta_Valid.f k t256).bind fun t263 => (if t263 = true then ((copselaw06_num.f bt259.2).bind fun t264 => (if t264 = 0 then ((copselaw06_files.f k bt259.1 y253).bind fun t265 => (if t265 = true then ((delta_Paths.f k t256).bind fun t266 => ((copselaw06_texts.f k t266 (([(⟨#[97]⟩ : ByteArray), (⟨#[98]⟩ : ByteArray)] : List ByteArray))).bind fun t272 => (some t272))) else (some false))) else (some false))) else (some false))) else (some false))))) = some r := by first | (rw [hy250]; with_reducible exact H) | (have H2_ := (Option.bind_some _ _).symm.trans H; rw [hy250]; with_reducible exact H2_) | (have H2_ := (Option.bind_some _ _).symm.trans H; with_reducible exact H2_) | with_reducible exact H | (rw [hy250]; exact H) | exact H
 have Ny250 := Aside0.mk hy250
 clear hy250
 obtain ⟨y253, hy253⟩ : ∃ y_ : List (S43), y_ = (([(⟨(⟨#[98]⟩ : ByteArray), (⟨#[]⟩ : ByteArray), 2, 1⟩ : S43)] : List (S43))) := ⟨_, rfl⟩
 replace H : ((delta_Diff.f k y250 y253).bind fun t256 => ((delta_Apply.f y250 t256).bind fun bt259 => (if (t256.length : Int) = 2 then ((delta_Valid.f k t256).bind fun t263 => (if t263 = true then ((copselaw06_num.f bt259.2).bind fun t264 => (if t264 = 0 then ((copselaw06_files.f k bt259.1 y253).bind fun t265 => (if t265 = true then ((delta_Paths.f k t256).bind fun t266 => ((copselaw06_texts.f k t266 (([(⟨#[97]⟩ : ByteArray), (⟨#[98]⟩ : ByteArray)] : List ByteArray))).bind fun t272 => (some t272))) else (some false))) else (some false))) else (some false))) else (some false)))) = some r := by first | (rw [hy253]; with_reducible exact H) | (have H2_ := (Option.bind_some _ _).symm.trans H; rw [hy253]; with_reducible exact H2_) | (have H2_ := (Option.bind_some _ _).symm.trans H; with_reducible exact H2_) | with_reducible exact H | (rw [hy253]; exact H) | exact H
 have Ny253 := Aside0.mk hy253
 clear hy253
 replace H := Option.bind_eq_some_iff.mp H
 obtain ⟨t256, A10, H⟩ := H
 try dsimp only at H
 have A1 := Aside0.mk A10
 clear A10
 replace H := Option.bind_eq_some_iff.mp H
 obtain ⟨⟨t259, t260⟩, A20, H⟩ := H
 try dsimp only at H
 have A2 := Aside0.mk A20
 clear A20
 by_cases c3 : (t256.length : Int) = 2
 rotate_left
 ·rw [if_neg c3] at H
  have c3b0 : ((t256.length : Int) == 2) = false := beq_eq_false_iff_ne.mpr c3
  have c3b1 : ((t256.length : Int) != 2) = true := bne_iff_ne.mpr c3
  obtain rfl := Option.some.inj H
  go_enter Tryz.func6, Tryz.ntmps6
  go_wp2_with (first | ((with_reducible refine gate_dst (N := 8) rfl ?_); (try (refine gate_guard (by rfl) ?_; dsimp only)); refine Kd.R_lit k43 _ 43 ?hg (N := 8) ?hd (xs := ([(⟨(⟨#[97]⟩ : ByteArray), (⟨#[]⟩ : ByteArray), 1, 1⟩ : S43), (⟨(⟨#[98]⟩ : ByteArray), (⟨#[]⟩ : ByteArray), 1, 1⟩ : S43)] : List (S43))) (inner := [.string (⟨#[97]⟩ : ByteArray), .string (⟨#[]⟩ : ByteArray), .int .i64 1, .int .i64 1, .string (⟨#[98]⟩ : ByteArray), .string (⟨#[]⟩ : ByteArray), .int .i64 1, .int .i64 1]) (ok := fun _ => True) (okp := fun _ => True) ?hr ?hp (fun _ hk => hk) trivial (Below.refl _ _) (Nat.le_refl _) (by simp) ?_; (case hd => rfl); (case hg => rfl); (case hr => first | (go_simp; done) | (go_simp; rfl)); (case hp => exact (Reps.c4 (show Kd.M k43 _ _ _ (⟨(⟨#[97]⟩ : ByteArray), (⟨#[]⟩ : ByteArray), 1, 1⟩ : S43) [.string (⟨#[97]⟩ : ByteArray), .string (⟨#[]⟩ : ByteArray), .int .i64 1, .int .i64 1] from (k43_mkM _ _ _ (⟨(⟨#[97]⟩ : ByteArray), (⟨#[]⟩ : ByteArray), 1, 1⟩ : S43) )) (Reps.c4 (show Kd.M k43 _ _ _ (⟨(⟨#[98]⟩ : ByteArray), (⟨#[]⟩ : ByteArray), 1, 1⟩ : S43) [.string (⟨#[98]⟩ : ByteArray), .string (⟨#[]⟩ : ByteArray), .int .i64 1, .int .i64 1] from (k43_mkM _ _ _ (⟨(⟨#[98]⟩ : ByteArray), (⟨#[]⟩ : ByteArray), 1, 1⟩ : S43) )) (Reps.none _ _)))); intro v251 w59 ho60 hb hg_ hnew_; clear hg_ hnew_; (first | rw [← Ny250.out] at ho60 | (simp only [Int.reduceToNat] at ho60; rw [← Ny250.out] at ho60)); have n0_ := Aside0.mk (Kd.R_lower ho60 (below_size (bel_))); have n1_ := Aside0.mk (below_step (bel_) hb); clear HB; have HO252 := n0_; have HB := n1_; clear n0_ n1_; clear hb ho60) | ((with_reducible refine gate_dst (N := 10) rfl ?_); (try (refine gate_guard (by rfl) ?_; dsimp only)); refine Kd.R_lit k43 _ 43 ?hg (N := 10) ?hd (xs := ([(⟨(⟨#[98]⟩ : ByteArray), (⟨#[]⟩ : ByteArray), 2, 1⟩ : S43)] : List (S43))) (inner := [.string (⟨#[98]⟩ : ByteArray), .string (⟨#[]⟩ : ByteArray), .int .i64 2, .int .i64 1]) (ok := fun _ => True) (okp := fun _ => True) ?hr ?hp (fun _ hk => hk) trivial (Below.refl _ _) (Nat.le_refl _) (by simp) ?_; (case hd => rfl); (case hg => rfl); (case hr => first | (go_simp; done) | (go_simp; rfl)); (case hp => exact (Reps.c4 (show Kd.M k43 _ _ _ (⟨(⟨#[98]⟩ : ByteArray), (⟨#[]⟩ : ByteArray), 2, 1⟩ : S43) [.string (⟨#[98]⟩ : ByteArray), .string (⟨#[]⟩ : ByteArray), .int .i64 2, .int .i64 1] from (k43_mkM _ _ _ (⟨(⟨#[98]⟩ : ByteArray), (⟨#[]⟩ : ByteArray), 2, 1⟩ : S43) )) (Reps.none _ _))); intro v254 w61 ho62 hb hg_ hnew_; clear hg_ hnew_; (first | rw [← Ny253.out] at ho62 | (simp only [Int.reduceToNat] at ho62; rw [← Ny253.out] at ho62)); have n0_ := Aside0.mk (Kd.R_elder' (ur_ HO252.out) (Kd.R_base ho62) hb); have n1_ := Aside0.mk (Kd.R_lower (Kd.R_new' ho62 (Kd.R_lt (ur_ HO252.out))) (below_size (bel_))); have n2_ := Aside0.mk (below_step (bel_) hb); clear HO252; clear HB; have HO252 := n0_; have HO255 := n1_; have HB := n2_; clear n0_ n1_ n2_; clear hb ho62; obtain ⟨Ao63, co63, eo63⟩ := Kd.R_slice HO252.out; subst eo63; obtain ⟨Ao64, co64, eo64⟩ := Kd.R_slice HO255.out; subst eo64) | ((with_reducible refine gate_callee (f := 9) rfl ?_); refine goesL_ (some 13) rfl rfl Tryz.func9 (by kernel_rfl) rfl #[.slice Ao63 y250.length co63, .slice Ao64 y253.length co64] rfl (mp_) ?_; (with_reducible refine (delta_Diff.calls k _ _ y250 _ _ y253 t256 _ ?side1 ?side2 ?side3 ?side4 A1.out).mono ?_); (case side1 => repeat (first | exact (Kd.R_reads' HO252.out).2.2 | (with_reducible refine Kd.C_alloc ?_ _) | (with_reducible refine Kd.C_drewN ?_ _) | (with_reducible refine Kd.C_drew ?_))); (case side2 => exact (Kd.R_reads' HO252.out).2.1); (case side3 => repeat (first | exact (Kd.R_reads' HO255.out).2.2 | (with_reducible refine Kd.C_alloc ?_ _) | (with_reducible refine Kd.C_drewN ?_ _) | (with_reducible refine Kd.C_drew ?_))); (case side4 => exact (Kd.R_reads' HO255.out).2.1); rintro e w65 ⟨v257, rfl, ho0, hb⟩; refine ⟨_, rfl, ?_⟩; have n0_ := Aside0.mk (Kd.R_below (ur_ HO252.out) hb); have n1_ := Aside0.mk (Kd.R_below (ur_ HO255.out) hb); have n2_ := Aside0.mk (Kd.R_lower ho0 (below_size (bel_))); have n3_ := Aside0.mk (below_step (bel_) hb); clear HO252; clear HO255; clear HB; have HO252 := n0_; have HO255 := n1_; have HO258 := n2_; have HB := n3_; clear n0_ n1_ n2_ n3_; (try clear hb); (try clear hb2); (try clear hk); (try clear hi); (try clear ho0); obtain ⟨Ao66, co66, eo66⟩ := Kd.R_slice HO258.out; subst eo66) | ((with_reducible refine gate_callee (f := 10) rfl ?_); refine goesL_ (some 17) rfl rfl Tryz.func10 (by kernel_rfl) rfl #[.slice Ao63 y250.length co63, .slice Ao66 t256.length co66] rfl (mp_) ?_; (with_reducible refine (delta_Apply.calls _ _ y250 _ _ t256 t259 t260 _ ?side1 ?side2 ?side3 ?side4 A2.out).mono ?_); (case side1 => repeat (first | exact (Kd.R_reads' HO252.out).2.2 | (with_reducible refine Kd.C_alloc ?_ _) | (with_reducible refine Kd.C_drewN ?_ _) | (with_reducible refine Kd.C_drew ?_))); (case side2 => exact (Kd.R_reads' HO252.out).2.1); (case side3 => repeat (first | exact (Kd.R_reads' HO258.out).2.2 | (with_reducible refine Kd.C_alloc ?_ _) | (with_reducible refine Kd.C_drewN ?_ _) | (with_reducible refine Kd.C_drew ?_))); (case side4 => exact (Kd.R_reads' HO258.out).2.1); rintro e w67 ⟨v261, rfl, ho0, hb⟩; refine ⟨_, rfl, ?_⟩; have n0_ := Aside0.mk (Kd.R_elder' (ur_ HO252.out) (Kd.R_base ho0) hb); have n1_ := Aside0.mk (Kd.R_elder' (ur_ HO255.out) (Kd.R_base ho0) hb); have n2_ := Aside0.mk (Kd.R_below (ur_ HO258.out) hb); have n3_ := Aside0.mk (Kd.R_lower (Kd.R_new' (Kd.R_new' ho0 (Kd.R_lt (ur_ HO252.out))) (Kd.R_lt (ur_ HO255.out))) (below_size (bel_))); have n4_ := Aside0.mk (below_step (bel_) hb); clear HO252; clear HO255; clear HO258; clear HB; have HO252 := n0_; have HO255 := n1_; have HO258 := n2_; have HO262 := n3_; have HB := n4_; clear n0_ n1_ n2_ n3_ n4_; (try clear hb); (try clear hb2); (try clear hk); (try clear hi); (try clear ho0)))
  go_ret
  exact ⟨er_, bel_⟩
 rw [if_pos c3] at H
 have c3b0 : ((t256.length : Int) == 2) = true := beq_iff_eq.mpr c3
 have c3b1 : ((t256.length : Int) != 2) = false := bne_eq_false_iff_eq.mpr c3
 clear c3
 replace H := Option.bind_eq_some_iff.mp H
 obtain ⟨t263, A40, H⟩ := H
 try dsimp only at H
 have A4 := Aside0.mk A40
 clear A40
 by_cases c5 : t263 = true
 rotate_left
 ·replace c5 := Bool.eq_false_iff.mpr c5
  subst c5
  have H1 : (some false) = some r := by rw [if_neg (show ¬ (false = true) by decide)] at H; exact H
  clear H
  have H := H1
  clear H1
  obtain rfl := Option.some.inj H
  go_enter Tryz.func6, Tryz.ntmps6
  go_wp2_with (first | ((with_reducible refine gate_dst (N := 8) rfl ?_); (try (refine gate_guard (by rfl) ?_; dsimp only)); refine Kd.R_lit k43 _ 43 ?hg (N := 8) ?hd (xs := ([(⟨(⟨#[97]⟩ : ByteArray), (⟨#[]⟩ : ByteArray), 1, 1⟩ : S43), (⟨(⟨#[98]⟩ : ByteArray), (⟨#[]⟩ : ByteArray), 1, 1⟩ : S43)] : List (S43))) (inner := [.string (⟨#[97]⟩ : ByteArray), .string (⟨#[]⟩ : ByteArray), .int .i64 1, .int .i64 1, .string (⟨#[98]⟩ : ByteArray), .string (⟨#[]⟩ : ByteArray), .int .i64 1, .int .i64 1]) (ok := fun _ => True) (okp := fun _ => True) ?hr ?hp (fun _ hk => hk) trivial (Below.refl _ _) (Nat.le_refl _) (by simp) ?_; (case hd => rfl); (case hg => rfl); (case hr => first | (go_simp; done) | (go_simp; rfl)); (case hp => exact (Reps.c4 (show Kd.M k43 _ _ _ (⟨(⟨#[97]⟩ : ByteArray), (⟨#[]⟩ : ByteArray), 1, 1⟩ : S43) [.string (⟨#[97]⟩ : ByteArray), .string (⟨#[]⟩ : ByteArray), .int .i64 1, .int .i64 1] from (k43_mkM _ _ _ (⟨(⟨#[97]⟩ : ByteArray), (⟨#[]⟩ : ByteArray), 1, 1⟩ : S43) )) (Reps.c4 (show Kd.M k43 _ _ _ (⟨(⟨#[98]⟩ : ByteArray), (⟨#[]⟩ : ByteArray), 1, 1⟩ : S43) [.string (⟨#[98]⟩ : ByteArray), .string (⟨#[]⟩ : ByteArray), .int .i64 1, .int .i64 1] from (k43_mkM _ _ _ (⟨(⟨#[98]⟩ : ByteArray), (⟨#[]⟩ : ByteArray), 1, 1⟩ : S43) )) (Reps.none _ _)))); intro v251 w49 ho50 hb hg_ hnew_; clear hg_ hnew_; (first | rw [← Ny250.out] at ho50 | (simp only [Int.reduceToNat] at ho50; rw [← Ny250.out] at ho50)); have n0_ := Aside0.mk (Kd.R_lower ho50 (below_size (bel_))); have n1_ := Aside0.mk (below_step (bel_) hb); clear HB; have HO252 := n0_; have HB := n1_; clear n0_ n1_; clear hb ho50) | ((with_reducible refine gate_dst (N := 10) rfl ?_); (try (refine gate_guard (by rfl) ?_; dsimp only)); refine Kd.R_lit k43 _ 43 ?hg (N := 10) ?hd (xs := ([(⟨(⟨#[98]⟩ : ByteArray), (⟨#[]⟩ : ByteArray), 2, 1⟩ : S43)] : List (S43))) (inner := [.string (⟨#[98]⟩ : ByteArray), .string (⟨#[]⟩ : ByteArray), .int .i64 2, .int .i64 1]) (ok := fun _ => True) (okp := fun _ => True) ?hr ?hp (fun _ hk => hk) trivial (Below.refl _ _) (Nat.le_refl _) (by simp) ?_; (case hd => rfl); (case hg => rfl); (case hr => first | (go_simp; done) | (go_simp; rfl)); (case hp => exact (Reps.c4 (show Kd.M k43 _ _ _ (⟨(⟨#[98]⟩ : ByteArray), (⟨#[]⟩ : ByteArray), 2, 1⟩ : S43) [.string (⟨#[98]⟩ : ByteArray), .string (⟨#[]⟩ : ByteArray), .int .i64 2, .int .i64 1] from (k43_mkM _ _ _ (⟨(⟨#[98]⟩ : ByteArray), (⟨#[]⟩ : ByteArray), 2, 1⟩ : S43) )) (Reps.none _ _))); intro v254 w51 ho52 hb hg_ hnew_; clear hg_ hnew_; (first | rw [← Ny253.out] at ho52 | (simp only [Int.reduceToNat] at ho52; rw [← Ny253.out] at ho52)); have n0_ := Aside0.mk (Kd.R_elder' (ur_ HO252.out) (Kd.R_base ho52) hb); have n1_ := Aside0.mk (Kd.R_lower (Kd.R_new' ho52 (Kd.R_lt (ur_ HO252.out))) (below_size (bel_))); have n2_ := Aside0.mk (below_step (bel_) hb); clear HO252; clear HB; have HO252 := n0_; have HO255 := n1_; have HB := n2_; clear n0_ n1_ n2_; clear hb ho52; obtain ⟨Ao53, co53, eo53⟩ := Kd.R_slice HO252.out; subst eo53; obtain ⟨Ao54, co54, eo54⟩ := Kd.R_slice HO255.out; subst eo54) | ((with_reducible refine gate_callee (f := 9) rfl ?_); refine goesL_ (some 13) rfl rfl Tryz.func9 (by kernel_rfl) rfl #[.slice Ao53 y250.length co53, .slice Ao54 y253.length co54] rfl (mp_) ?_; (with_reducible refine (delta_Diff.calls k _ _ y250 _ _ y253 t256 _ ?side1 ?side2 ?side3 ?side4 A1.out).mono ?_); (case side1 => repeat (first | exact (Kd.R_reads' HO252.out).2.2 | (with_reducible refine Kd.C_alloc ?_ _) | (with_reducible refine Kd.C_drewN ?_ _) | (with_reducible refine Kd.C_drew ?_))); (case side2 => exact (Kd.R_reads' HO252.out).2.1); (case side3 => repeat (first | exact (Kd.R_reads' HO255.out).2.2 | (with_reducible refine Kd.C_alloc ?_ _) | (with_reducible refine Kd.C_drewN ?_ _) | (with_reducible refine Kd.C_drew ?_))); (case side4 => exact (Kd.R_reads' HO255.out).2.1); rintro e w55 ⟨v257, rfl, ho0, hb⟩; refine ⟨_, rfl, ?_⟩; have n0_ := Aside0.mk (Kd.R_below (ur_ HO252.out) hb); have n1_ := Aside0.mk (Kd.R_below (ur_ HO255.out) hb); have n2_ := Aside0.mk (Kd.R_lower ho0 (below_size (bel_))); have n3_ := Aside0.mk (below_step (bel_) hb); clear HO252; clear HO255; clear HB; have HO252 := n0_; have HO255 := n1_; have HO258 := n2_; have HB := n3_; clear n0_ n1_ n2_ n3_; (try clear hb); (try clear hb2); (try clear hk); (try clear hi); (try clear ho0); obtain ⟨Ao56, co56, eo56⟩ := Kd.R_slice HO258.out; subst eo56) | ((with_reducible refine gate_callee (f := 10) rfl ?_); refine goesL_ (some 17) rfl rfl Tryz.func10 (by kernel_rfl) rfl #[.slice Ao53 y250.length co53, .slice Ao56 t256.length co56] rfl (mp_) ?_; (with_reducible refine (delta_Apply.calls _ _ y250 _ _ t256 t259 t260 _ ?side1 ?side2 ?side3 ?side4 A2.out).mono ?_); (case side1 => repeat (first | exact (Kd.R_reads' HO252.out).2.2 | (with_reducible refine Kd.C_alloc ?_ _) | (with_reducible refine Kd.C_drewN ?_ _) | (with_reducible refine Kd.C_drew ?_))); (case side2 => exact (Kd.R_reads' HO252.out).2.1); (case side3 => repeat (first | exact (Kd.R_reads' HO258.out).2.2 | (with_reducible refine Kd.C_alloc ?_ _) | (with_reducible refine Kd.C_drewN ?_ _) | (with_reducible refine Kd.C_drew ?_))); (case side4 => exact (Kd.R_reads' HO258.out).2.1); rintro e w57 ⟨v261, rfl, ho0, hb⟩; refine ⟨_, rfl, ?_⟩; have n0_ := Aside0.mk (Kd.R_elder' (ur_ HO252.out) (Kd.R_base ho0) hb); have n1_ := Aside0.mk (Kd.R_elder' (ur_ HO255.out) (Kd.R_base ho0) hb); have n2_ := Aside0.mk (Kd.R_below (ur_ HO258.out) hb); have n3_ := Aside0.mk (Kd.R_lower (Kd.R_new' (Kd.R_new' ho0 (Kd.R_lt (ur_ HO252.out))) (Kd.R_lt (ur_ HO255.out))) (below_size (bel_))); have n4_ := Aside0.mk (below_step (bel_) hb); clear HO252; clear HO255; clear HO258; clear HB; have HO252 := n0_; have HO255 := n1_; have HO258 := n2_; have HO262 := n3_; have HB := n4_; clear n0_ n1_ n2_ n3_ n4_; (try clear hb); (try clear hb2); (try clear hk); (try clear hi); (try clear ho0)) | (go_at_call 7; (with_reducible refine (delta_Valid.calls k _ _ t256 false _ ?side1 ?side2 A4.out).mono ?_); (case side1 => repeat (first | exact (Kd.R_reads' HO258.out).2.2 | (with_reducible refine Kd.C_alloc ?_ _) | (with_reducible refine Kd.C_drewN ?_ _) | (with_reducible refine Kd.C_drew ?_))); (case side2 => exact (Kd.R_reads' HO258.out).2.1); rintro e w58 ⟨rfl, hb⟩; have n0_ := Aside0.mk (Kd.R_below (ur_ HO252.out) hb); have n1_ := Aside0.mk (Kd.R_below (ur_ HO255.out) hb); have n2_ := Aside0.mk (Kd.R_below (ur_ HO258.out) hb); have n3_ := Aside0.mk (Kd.R_below (ur_ HO262.out) hb); have n4_ := Aside0.mk (below_step (bel_) hb); clear HO252; clear HO255; clear HO258; clear HO262; clear HB; have HO252 := n0_; have HO255 := n1_; have HO258 := n2_; have HO262 := n3_; have HB := n4_; clear n0_ n1_ n2_ n3_ n4_; (try clear hb); (try clear hb2); (try clear hk); (try clear hi)))
  go_ret
  exact ⟨er_, bel_⟩
 subst c5
 rw [if_pos rfl] at H
 have H1 := H
 clear H
 have H := H1
 clear H1
 replace H := Option.bind_eq_some_iff.mp H
 obtain ⟨t264, A60, H⟩ := H
 try dsimp only at H
 have A6 := Aside0.mk A60
 clear A60
 by_cases c7 : t264 = 0
 rotate_left
 ·rw [if_neg c7] at H
  have c7b0 : (t264 == 0) = false := beq_eq_false_iff_ne.mpr c7
  have c7b1 : (t264 != 0) = true := bne_iff_ne.mpr c7
  obtain rfl := Option.some.inj H
  go_enter Tryz.func6, Tryz.ntmps6
  go_wp2_with (first | ((with_reducible refine gate_dst (N := 8) rfl ?_); (try (refine gate_guard (by rfl) ?_; dsimp only)); refine Kd.R_lit k43 _ 43 ?hg (N := 8) ?hd (xs := ([(⟨(⟨#[97]⟩ : ByteArray), (⟨#[]⟩ : ByteArray), 1, 1⟩ : S43), (⟨(⟨#[98]⟩ : ByteArray), (⟨#[]⟩ : ByteArray), 1, 1⟩ : S43)] : List (S43))) (inner := [.string (⟨#[97]⟩ : ByteArray), .string (⟨#[]⟩ : ByteArray), .int .i64 1, .int .i64 1, .string (⟨#[98]⟩ : ByteArray), .string (⟨#[]⟩ : ByteArray), .int .i64 1, .int .i64 1]) (ok := fun _ => True) (okp := fun _ => True) ?hr ?hp (fun _ hk => hk) trivial (Below.refl _ _) (Nat.le_refl _) (by simp) ?_; (case hd => rfl); (case hg => rfl); (case hr => first | (go_simp; done) | (go_simp; rfl)); (case hp => exact (Reps.c4 (show Kd.M k43 _ _ _ (⟨(⟨#[97]⟩ : ByteArray), (⟨#[]⟩ : ByteArray), 1, 1⟩ : S43) [.string (⟨#[97]⟩ : ByteArray), .string (⟨#[]⟩ : ByteArray), .int .i64 1, .int .i64 1] from (k43_mkM _ _ _ (⟨(⟨#[97]⟩ : ByteArray), (⟨#[]⟩ : ByteArray), 1, 1⟩ : S43) )) (Reps.c4 (show Kd.M k43 _ _ _ (⟨(⟨#[98]⟩ : ByteArray), (⟨#[]⟩ : ByteArray), 1, 1⟩ : S43) [.string (⟨#[98]⟩ : ByteArray), .string (⟨#[]⟩ : ByteArray), .int .i64 1, .int .i64 1] from (k43_mkM _ _ _ (⟨(⟨#[98]⟩ : ByteArray), (⟨#[]⟩ : ByteArray), 1, 1⟩ : S43) )) (Reps.none _ _)))); intro v251 w39 ho40 hb hg_ hnew_; clear hg_ hnew_; (first | rw [← Ny250.out] at ho40 | (simp only [Int.reduceToNat] at ho40; rw [← Ny250.out] at ho40)); have n0_ := Aside0.mk (Kd.R_lower ho40 (below_size (bel_))); have n1_ := Aside0.mk (below_step (bel_) hb); clear HB; have HO252 := n0_; have HB := n1_; clear n0_ n1_; clear hb ho40) | ((with_reducible refine gate_dst (N := 10) rfl ?_); (try (refine gate_guard (by rfl) ?_; dsimp only)); refine Kd.R_lit k43 _ 43 ?hg (N := 10) ?hd (xs := ([(⟨(⟨#[98]⟩ : ByteArray), (⟨#[]⟩ : ByteArray), 2, 1⟩ : S43)] : List (S43))) (inner := [.string (⟨#[98]⟩ : ByteArray), .string (⟨#[]⟩ : ByteArray), .int .i64 2, .int .i64 1]) (ok := fun _ => True) (okp := fun _ => True) ?hr ?hp (fun _ hk => hk) trivial (Below.refl _ _) (Nat.le_refl _) (by simp) ?_; (case hd => rfl); (case hg => rfl); (case hr => first | (go_simp; done) | (go_simp; rfl)); (case hp => exact (Reps.c4 (show Kd.M k43 _ _ _ (⟨(⟨#[98]⟩ : ByteArray), (⟨#[]⟩ : ByteArray), 2, 1⟩ : S43) [.string (⟨#[98]⟩ : ByteArray), .string (⟨#[]⟩ : ByteArray), .int .i64 2, .int .i64 1] from (k43_mkM _ _ _ (⟨(⟨#[98]⟩ : ByteArray), (⟨#[]⟩ : ByteArray), 2, 1⟩ : S43) )) (Reps.none _ _))); intro v254 w41 ho42 hb hg_ hnew_; clear hg_ hnew_; (first | rw [← Ny253.out] at ho42 | (simp only [Int.reduceToNat] at ho42; rw [← Ny253.out] at ho42)); have n0_ := Aside0.mk (Kd.R_elder' (ur_ HO252.out) (Kd.R_base ho42) hb); have n1_ := Aside0.mk (Kd.R_lower (Kd.R_new' ho42 (Kd.R_lt (ur_ HO252.out))) (below_size (bel_))); have n2_ := Aside0.mk (below_step (bel_) hb); clear HO252; clear HB; have HO252 := n0_; have HO255 := n1_; have HB := n2_; clear n0_ n1_ n2_; clear hb ho42; obtain ⟨Ao43, co43, eo43⟩ := Kd.R_slice HO252.out; subst eo43; obtain ⟨Ao44, co44, eo44⟩ := Kd.R_slice HO255.out; subst eo44) | ((with_reducible refine gate_callee (f := 9) rfl ?_); refine goesL_ (some 13) rfl rfl Tryz.func9 (by kernel_rfl) rfl #[.slice Ao43 y250.length co43, .slice Ao44 y253.length co44] rfl (mp_) ?_; (with_reducible refine (delta_Diff.calls k _ _ y250 _ _ y253 t256 _ ?side1 ?side2 ?side3 ?side4 A1.out).mono ?_); (case side1 => repeat (first | exact (Kd.R_reads' HO252.out).2.2 | (with_reducible refine Kd.C_alloc ?_ _) | (with_reducible refine Kd.C_drewN ?_ _) | (with_reducible refine Kd.C_drew ?_))); (case side2 => exact (Kd.R_reads' HO252.out).2.1); (case side3 => repeat (first | exact (Kd.R_reads' HO255.out).2.2 | (with_reducible refine Kd.C_alloc ?_ _) | (with_reducible refine Kd.C_drewN ?_ _) | (with_reducible refine Kd.C_drew ?_))); (case side4 => exact (Kd.R_reads' HO255.out).2.1); rintro e w45 ⟨v257, rfl, ho0, hb⟩; refine ⟨_, rfl, ?_⟩; have n0_ := Aside0.mk (Kd.R_below (ur_ HO252.out) hb); have n1_ := Aside0.mk (Kd.R_below (ur_ HO255.out) hb); have n2_ := Aside0.mk (Kd.R_lower ho0 (below_size (bel_))); have n3_ := Aside0.mk (below_step (bel_) hb); clear HO252; clear HO255; clear HB; have HO252 := n0_; have HO255 := n1_; have HO258 := n2_; have HB := n3_; clear n0_ n1_ n2_ n3_; (try clear hb); (try clear hb2); (try clear hk); (try clear hi); (try clear ho0); obtain ⟨Ao46, co46, eo46⟩ := Kd.R_slice HO258.out; subst eo46) | ((with_reducible refine gate_callee (f := 10) rfl ?_); refine goesL_ (some 17) rfl rfl Tryz.func10 (by kernel_rfl) rfl #[.slice Ao43 y250.length co43, .slice Ao46 t256.length co46] rfl (mp_) ?_; (with_reducible refine (delta_Apply.calls _ _ y250 _ _ t256 t259 t260 _ ?side1 ?side2 ?side3 ?side4 A2.out).mono ?_); (case side1 => repeat (first | exact (Kd.R_reads' HO252.out).2.2 | (with_reducible refine Kd.C_alloc ?_ _) | (with_reducible refine Kd.C_drewN ?_ _) | (with_reducible refine Kd.C_drew ?_))); (case side2 => exact (Kd.R_reads' HO252.out).2.1); (case side3 => repeat (first | exact (Kd.R_reads' HO258.out).2.2 | (with_reducible refine Kd.C_alloc ?_ _) | (with_reducible refine Kd.C_drewN ?_ _) | (with_reducible refine Kd.C_drew ?_))); (case side4 => exact (Kd.R_reads' HO258.out).2.1); rintro e w47 ⟨v261, rfl, ho0, hb⟩; refine ⟨_, rfl, ?_⟩; have n0_ := Aside0.mk (Kd.R_elder' (ur_ HO252.out) (Kd.R_base ho0) hb); have n1_ := Aside0.mk (Kd.R_elder' (ur_ HO255.out) (Kd.R_base ho0) hb); have n2_ := Aside0.mk (Kd.R_below (ur_ HO258.out) hb); have n3_ := Aside0.mk (Kd.R_lower (Kd.R_new' (Kd.R_new' ho0 (Kd.R_lt (ur_ HO252.out))) (Kd.R_lt (ur_ HO255.out))) (below_size (bel_))); have n4_ := Aside0.mk (below_step (bel_) hb); clear HO252; clear HO255; clear HO258; clear HB; have HO252 := n0_; have HO255 := n1_; have HO258 := n2_; have HO262 := n3_; have HB := n4_; clear n0_ n1_ n2_ n3_ n4_; (try clear hb); (try clear hb2); (try clear hk); (try clear hi); (try clear ho0)) | (go_at_call 7; (with_reducible refine (delta_Valid.calls k _ _ t256 true _ ?side1 ?side2 A4.out).mono ?_); (case side1 => repeat (first | exact (Kd.R_reads' HO258.out).2.2 | (with_reducible refine Kd.C_alloc ?_ _) | (with_reducible refine Kd.C_drewN ?_ _) | (with_reducible refine Kd.C_drew ?_))); (case side2 => exact (Kd.R_reads' HO258.out).2.1); rintro e w48 ⟨rfl, hb⟩; have n0_ := Aside0.mk (Kd.R_below (ur_ HO252.out) hb); have n1_ := Aside0.mk (Kd.R_below (ur_ HO255.out) hb); have n2_ := Aside0.mk (Kd.R_below (ur_ HO258.out) hb); have n3_ := Aside0.mk (Kd.R_below (ur_ HO262.out) hb); have n4_ := Aside0.mk (below_step (bel_) hb); clear HO252; clear HO255; clear HO258; clear HO262; clear HB; have HO252 := n0_; have HO255 := n1_; have HO258 := n2_; have HO262 := n3_; have HB := n4_; clear n0_ n1_ n2_ n3_ n4_; (try clear hb); (try clear hb2); (try clear hk); (try clear hi)) | (go_at_call 19; (with_reducible refine (copselaw06_num.calls t260 t264 _ A6.out).mono ?_); rintro e w' ⟨rfl, ⟨nd, rfl⟩⟩))
  go_ret
  exact ⟨er_, bel_⟩
 rw [if_pos c7] at H
 have c7b0 : (t264 == 0) = true := beq_iff_eq.mpr c7
 have c7b1 : (t264 != 0) = false := bne_eq_false_iff_eq.mpr c7
 clear c7
 replace H := Option.bind_eq_some_iff.mp H
 obtain ⟨t265, A80, H⟩ := H
 try dsimp only at H
 have A8 := Aside0.mk A80
 clear A80
 by_cases c9 : t265 = true
 rotate_left
 ·replace c9 := Bool.eq_false_iff.mpr c9
  subst c9
  have H1 : (some false) = some r := by rw [if_neg (show ¬ (false = true) by decide)] at H; exact H
  clear H
  have H := H1
  clear H1
  obtain rfl := Option.some.inj H
  go_enter Tryz.func6, Tryz.ntmps6
  go_wp2_with (first | ((with_reducible refine gate_dst (N := 8) rfl ?_); (try (refine gate_guard (by rfl) ?_; dsimp only)); refine Kd.R_lit k43 _ 43 ?hg (N := 8) ?hd (xs := ([(⟨(⟨#[97]⟩ : ByteArray), (⟨#[]⟩ : ByteArray), 1, 1⟩ : S43), (⟨(⟨#[98]⟩ : ByteArray), (⟨#[]⟩ : ByteArray), 1, 1⟩ : S43)] : List (S43))) (inner := [.string (⟨#[97]⟩ : ByteArray), .string (⟨#[]⟩ : ByteArray), .int .i64 1, .int .i64 1, .string (⟨#[98]⟩ : ByteArray), .string (⟨#[]⟩ : ByteArray), .int .i64 1, .int .i64 1]) (ok := fun _ => True) (okp := fun _ => True) ?hr ?hp (fun _ hk => hk) trivial (Below.refl _ _) (Nat.le_refl _) (by simp) ?_; (case hd => rfl); (case hg => rfl); (case hr => first | (go_simp; done) | (go_simp; rfl)); (case hp => exact (Reps.c4 (show Kd.M k43 _ _ _ (⟨(⟨#[97]⟩ : ByteArray), (⟨#[]⟩ : ByteArray), 1, 1⟩ : S43) [.string (⟨#[97]⟩ : ByteArray), .string (⟨#[]⟩ : ByteArray), .int .i64 1, .int .i64 1] from (k43_mkM _ _ _ (⟨(⟨#[97]⟩ : ByteArray), (⟨#[]⟩ : ByteArray), 1, 1⟩ : S43) )) (Reps.c4 (show Kd.M k43 _ _ _ (⟨(⟨#[98]⟩ : ByteArray), (⟨#[]⟩ : ByteArray), 1, 1⟩ : S43) [.string (⟨#[98]⟩ : ByteArray), .string (⟨#[]⟩ : ByteArray), .int .i64 1, .int .i64 1] from (k43_mkM _ _ _ (⟨(⟨#[98]⟩ : ByteArray), (⟨#[]⟩ : ByteArray), 1, 1⟩ : S43) )) (Reps.none _ _)))); intro v251 w28 ho29 hb hg_ hnew_; clear hg_ hnew_; (first | rw [← Ny250.out] at ho29 | (simp only [Int.reduceToNat] at ho29; rw [← Ny250.out] at ho29)); have n0_ := Aside0.mk (Kd.R_lower ho29 (below_size (bel_))); have n1_ := Aside0.mk (below_step (bel_) hb); clear HB; have HO252 := n0_; have HB := n1_; clear n0_ n1_; clear hb ho29) | ((with_reducible refine gate_dst (N := 10) rfl ?_); (try (refine gate_guard (by rfl) ?_; dsimp only)); refine Kd.R_lit k43 _ 43 ?hg (N := 10) ?hd (xs := ([(⟨(⟨#[98]⟩ : ByteArray), (⟨#[]⟩ : ByteArray), 2, 1⟩ : S43)] : List (S43))) (inner := [.string (⟨#[98]⟩ : ByteArray), .string (⟨#[]⟩ : ByteArray), .int .i64 2, .int .i64 1]) (ok := fun _ => True) (okp := fun _ => True) ?hr ?hp (fun _ hk => hk) trivial (Below.refl _ _) (Nat.le_refl _) (by simp) ?_; (case hd => rfl); (case hg => rfl); (case hr => first | (go_simp; done) | (go_simp; rfl)); (case hp => exact (Reps.c4 (show Kd.M k43 _ _ _ (⟨(⟨#[98]⟩ : ByteArray), (⟨#[]⟩ : ByteArray), 2, 1⟩ : S43) [.string (⟨#[98]⟩ : ByteArray), .string (⟨#[]⟩ : ByteArray), .int .i64 2, .int .i64 1] from (k43_mkM _ _ _ (⟨(⟨#[98]⟩ : ByteArray), (⟨#[]⟩ : ByteArray), 2, 1⟩ : S43) )) (Reps.none _ _))); intro v254 w30 ho31 hb hg_ hnew_; clear hg_ hnew_; (first | rw [← Ny253.out] at ho31 | (simp only [Int.reduceToNat] at ho31; rw [← Ny253.out] at ho31)); have n0_ := Aside0.mk (Kd.R_elder' (ur_ HO252.out) (Kd.R_base ho31) hb); have n1_ := Aside0.mk (Kd.R_lower (Kd.R_new' ho31 (Kd.R_lt (ur_ HO252.out))) (below_size (bel_))); have n2_ := Aside0.mk (below_step (bel_) hb); clear HO252; clear HB; have HO252 := n0_; have HO255 := n1_; have HB := n2_; clear n0_ n1_ n2_; clear hb ho31; obtain ⟨Ao32, co32, eo32⟩ := Kd.R_slice HO252.out; subst eo32; obtain ⟨Ao33, co33, eo33⟩ := Kd.R_slice HO255.out; subst eo33) | ((with_reducible refine gate_callee (f := 9) rfl ?_); refine goesL_ (some 13) rfl rfl Tryz.func9 (by kernel_rfl) rfl #[.slice Ao32 y250.length co32, .slice Ao33 y253.length co33] rfl (mp_) ?_; (with_reducible refine (delta_Diff.calls k _ _ y250 _ _ y253 t256 _ ?side1 ?side2 ?side3 ?side4 A1.out).mono ?_); (case side1 => repeat (first | exact (Kd.R_reads' HO252.out).2.2 | (with_reducible refine Kd.C_alloc ?_ _) | (with_reducible refine Kd.C_drewN ?_ _) | (with_reducible refine Kd.C_drew ?_))); (case side2 => exact (Kd.R_reads' HO252.out).2.1); (case side3 => repeat (first | exact (Kd.R_reads' HO255.out).2.2 | (with_reducible refine Kd.C_alloc ?_ _) | (with_reducible refine Kd.C_drewN ?_ _) | (with_reducible refine Kd.C_drew ?_))); (case side4 => exact (Kd.R_reads' HO255.out).2.1); rintro e w34 ⟨v257, rfl, ho0, hb⟩; refine ⟨_, rfl, ?_⟩; have n0_ := Aside0.mk (Kd.R_below (ur_ HO252.out) hb); have n1_ := Aside0.mk (Kd.R_below (ur_ HO255.out) hb); have n2_ := Aside0.mk (Kd.R_lower ho0 (below_size (bel_))); have n3_ := Aside0.mk (below_step (bel_) hb); clear HO252; clear HO255; clear HB; have HO252 := n0_; have HO255 := n1_; have HO258 := n2_; have HB := n3_; clear n0_ n1_ n2_ n3_; (try clear hb); (try clear hb2); (try clear hk); (try clear hi); (try clear ho0); obtain ⟨Ao35, co35, eo35⟩ := Kd.R_slice HO258.out; subst eo35) | ((with_reducible refine gate_callee (f := 10) rfl ?_); refine goesL_ (some 17) rfl rfl Tryz.func10 (by kernel_rfl) rfl #[.slice Ao32 y250.length co32, .slice Ao35 t256.length co35] rfl (mp_) ?_; (with_reducible refine (delta_Apply.calls _ _ y250 _ _ t256 t259 t260 _ ?side1 ?side2 ?side3 ?side4 A2.out).mono ?_); (case side1 => repeat (first | exact (Kd.R_reads' HO252.out).2.2 | (with_reducible refine Kd.C_alloc ?_ _) | (with_reducible refine Kd.C_drewN ?_ _) | (with_reducible refine Kd.C_drew ?_))); (case side2 => exact (Kd.R_reads' HO252.out).2.1); (case side3 => repeat (first | exact (Kd.R_reads' HO258.out).2.2 | (with_reducible refine Kd.C_alloc ?_ _) | (with_reducible refine Kd.C_drewN ?_ _) | (with_reducible refine Kd.C_drew ?_))); (case side4 => exact (Kd.R_reads' HO258.out).2.1); rintro e w36 ⟨v261, rfl, ho0, hb⟩; refine ⟨_, rfl, ?_⟩; have n0_ := Aside0.mk (Kd.R_elder' (ur_ HO252.out) (Kd.R_base ho0) hb); have n1_ := Aside0.mk (Kd.R_elder' (ur_ HO255.out) (Kd.R_base ho0) hb); have n2_ := Aside0.mk (Kd.R_below (ur_ HO258.out) hb); have n3_ := Aside0.mk (Kd.R_lower (Kd.R_new' (Kd.R_new' ho0 (Kd.R_lt (ur_ HO252.out))) (Kd.R_lt (ur_ HO255.out))) (below_size (bel_))); have n4_ := Aside0.mk (below_step (bel_) hb); clear HO252; clear HO255; clear HO258; clear HB; have HO252 := n0_; have HO255 := n1_; have HO258 := n2_; have HO262 := n3_; have HB := n4_; clear n0_ n1_ n2_ n3_ n4_; (try clear hb); (try clear hb2); (try clear hk); (try clear hi); (try clear ho0)) | (go_at_call 7; (with_reducible refine (delta_Valid.calls k _ _ t256 true _ ?side1 ?side2 A4.out).mono ?_); (case side1 => repeat (first | exact (Kd.R_reads' HO258.out).2.2 | (with_reducible refine Kd.C_alloc ?_ _) | (with_reducible refine Kd.C_drewN ?_ _) | (with_reducible refine Kd.C_drew ?_))); (case side2 => exact (Kd.R_reads' HO258.out).2.1); rintro e w37 ⟨rfl, hb⟩; have n0_ := Aside0.mk (Kd.R_below (ur_ HO252.out) hb); have n1_ := Aside0.mk (Kd.R_below (ur_ HO255.out) hb); have n2_ := Aside0.mk (Kd.R_below (ur_ HO258.out) hb); have n3_ := Aside0.mk (Kd.R_below (ur_ HO262.out) hb); have n4_ := Aside0.mk (below_step (bel_) hb); clear HO252; clear HO255; clear HO258; clear HO262; clear HB; have HO252 := n0_; have HO255 := n1_; have HO258 := n2_; have HO262 := n3_; have HB := n4_; clear n0_ n1_ n2_ n3_ n4_; (try clear hb); (try clear hb2); (try clear hk); (try clear hi)) | (go_at_call 19; (with_reducible refine (copselaw06_num.calls t260 t264 _ A6.out).mono ?_); rintro e w' ⟨rfl, ⟨nd, rfl⟩⟩; obtain ⟨Ao38, co38, eo38⟩ := Kd.R_slice HO262.out; subst eo38) | (go_at_call 16; (with_reducible refine (copselaw06_files.calls k _ _ t259 _ _ y253 false _ ?side1 ?side2 ?side3 ?side4 A8.out).mono ?_); (case side1 => repeat (first | exact (Kd.R_reads' HO262.out).2.2 | (with_reducible refine Kd.C_alloc ?_ _) | (with_reducible refine Kd.C_drewN ?_ _) | (with_reducible refine Kd.C_drew ?_))); (case side2 => exact (Kd.R_reads' HO262.out).2.1); (case side3 => repeat (first | exact (Kd.R_reads' HO255.out).2.2 | (with_reducible refine Kd.C_alloc ?_ _) | (with_reducible refine Kd.C_drewN ?_ _) | (with_reducible refine Kd.C_drew ?_))); (case side4 => exact (Kd.R_reads' HO255.out).2.1); rintro e w' ⟨rfl, ⟨nd, rfl⟩⟩))
  go_ret
  exact ⟨er_, bel_⟩
 subst c9
 rw [if_pos rfl] at H
 have H1 := H
 clear H
 have H := H1
 clear H1
 replace H := Option.bind_eq_some_iff.mp H
 obtain ⟨t266, A100, H⟩ := H
 try dsimp only at H
 have A10 := Aside0.mk A100
 clear A100
 obtain ⟨y269, hy269⟩ : ∃ y_ : List ByteArray, y_ = (([(⟨#[97]⟩ : ByteArray), (⟨#[98]⟩ : ByteArray)] : List ByteArray)) := ⟨_, rfl⟩
 replace H : ((copselaw06_texts.f k t266 y269).bind fun t272 => (some t272)) = some r := by first | (rw [hy269]; with_reducible exact H) | (have H2_ := (Option.bind_some _ _).symm.trans H; rw [hy269]; with_reducible exact H2_) | (have H2_ := (Option.bind_some _ _).symm.trans H; with_reducible exact H2_) | with_reducible exact H | (rw [hy269]; exact H) | exact H
 have Ny269 := Aside0.mk hy269
 clear hy269
 replace H := Option.bind_eq_some_iff.mp H
 obtain ⟨t272, A110, H⟩ := H
 try dsimp only at H
 have A11 := Aside0.mk A110
 clear A110
 obtain rfl := Option.some.inj H
 go_enter Tryz.func6, Tryz.ntmps6
 go_wp2_with (first | ((with_reducible refine gate_dst (N := 8) rfl ?_); (try (refine gate_guard (by rfl) ?_; dsimp only)); refine Kd.R_lit k43 _ 43 ?hg (N := 8) ?hd (xs := ([(⟨(⟨#[97]⟩ : ByteArray), (⟨#[]⟩ : ByteArray), 1, 1⟩ : S43), (⟨(⟨#[98]⟩ : ByteArray), (⟨#[]⟩ : ByteArray), 1, 1⟩ : S43)] : List (S43))) (inner := [.string (⟨#[97]⟩ : ByteArray), .string (⟨#[]⟩ : ByteArray), .int .i64 1, .int .i64 1, .string (⟨#[98]⟩ : ByteArray), .string (⟨#[]⟩ : ByteArray), .int .i64 1, .int .i64 1]) (ok := fun _ => True) (okp := fun _ => True) ?hr ?hp (fun _ hk => hk) trivial (Below.refl _ _) (Nat.le_refl _) (by simp) ?_; (case hd => rfl); (case hg => rfl); (case hr => first | (go_simp; done) | (go_simp; rfl)); (case hp => exact (Reps.c4 (show Kd.M k43 _ _ _ (⟨(⟨#[97]⟩ : ByteArray), (⟨#[]⟩ : ByteArray), 1, 1⟩ : S43) [.string (⟨#[97]⟩ : ByteArray), .string (⟨#[]⟩ : ByteArray), .int .i64 1, .int .i64 1] from (k43_mkM _ _ _ (⟨(⟨#[97]⟩ : ByteArray), (⟨#[]⟩ : ByteArray), 1, 1⟩ : S43) )) (Reps.c4 (show Kd.M k43 _ _ _ (⟨(⟨#[98]⟩ : ByteArray), (⟨#[]⟩ : ByteArray), 1, 1⟩ : S43) [.string (⟨#[98]⟩ : ByteArray), .string (⟨#[]⟩ : ByteArray), .int .i64 1, .int .i64 1] from (k43_mkM _ _ _ (⟨(⟨#[98]⟩ : ByteArray), (⟨#[]⟩ : ByteArray), 1, 1⟩ : S43) )) (Reps.none _ _)))); intro v251 w12 ho13 hb hg_ hnew_; clear hg_ hnew_; (first | rw [← Ny250.out] at ho13 | (simp only [Int.reduceToNat] at ho13; rw [← Ny250.out] at ho13)); have n0_ := Aside0.mk (Kd.R_lower ho13 (below_size (bel_))); have n1_ := Aside0.mk (below_step (bel_) hb); clear HB; have HO252 := n0_; have HB := n1_; clear n0_ n1_; clear hb ho13) | ((with_reducible refine gate_dst (N := 10) rfl ?_); (try (refine gate_guard (by rfl) ?_; dsimp only)); refine Kd.R_lit k43 _ 43 ?hg (N := 10) ?hd (xs := ([(⟨(⟨#[98]⟩ : ByteArray), (⟨#[]⟩ : ByteArray), 2, 1⟩ : S43)] : List (S43))) (inner := [.string (⟨#[98]⟩ : ByteArray), .string (⟨#[]⟩ : ByteArray), .int .i64 2, .int .i64 1]) (ok := fun _ => True) (okp := fun _ => True) ?hr ?hp (fun _ hk => hk) trivial (Below.refl _ _) (Nat.le_refl _) (by simp) ?_; (case hd => rfl); (case hg => rfl); (case hr => first | (go_simp; done) | (go_simp; rfl)); (case hp => exact (Reps.c4 (show Kd.M k43 _ _ _ (⟨(⟨#[98]⟩ : ByteArray), (⟨#[]⟩ : ByteArray), 2, 1⟩ : S43) [.string (⟨#[98]⟩ : ByteArray), .string (⟨#[]⟩ : ByteArray), .int .i64 2, .int .i64 1] from (k43_mkM _ _ _ (⟨(⟨#[98]⟩ : ByteArray), (⟨#[]⟩ : ByteArray), 2, 1⟩ : S43) )) (Reps.none _ _))); intro v254 w14 ho15 hb hg_ hnew_; clear hg_ hnew_; (first | rw [← Ny253.out] at ho15 | (simp only [Int.reduceToNat] at ho15; rw [← Ny253.out] at ho15)); have n0_ := Aside0.mk (Kd.R_elder' (ur_ HO252.out) (Kd.R_base ho15) hb); have n1_ := Aside0.mk (Kd.R_lower (Kd.R_new' ho15 (Kd.R_lt (ur_ HO252.out))) (below_size (bel_))); have n2_ := Aside0.mk (below_step (bel_) hb); clear HO252; clear HB; have HO252 := n0_; have HO255 := n1_; have HB := n2_; clear n0_ n1_ n2_; clear hb ho15; obtain ⟨Ao16, co16, eo16⟩ := Kd.R_slice HO252.out; subst eo16; obtain ⟨Ao17, co17, eo17⟩ := Kd.R_slice HO255.out; subst eo17) | ((with_reducible refine gate_callee (f := 9) rfl ?_); refine goesL_ (some 13) rfl rfl Tryz.func9 (by kernel_rfl) rfl #[.slice Ao16 y250.length co16, .slice Ao17 y253.length co17] rfl (mp_) ?_; (with_reducible refine (delta_Diff.calls k _ _ y250 _ _ y253 t256 _ ?side1 ?side2 ?side3 ?side4 A1.out).mono ?_); (case side1 => repeat (first | exact (Kd.R_reads' HO252.out).2.2 | (with_reducible refine Kd.C_alloc ?_ _) | (with_reducible refine Kd.C_drewN ?_ _) | (with_reducible refine Kd.C_drew ?_))); (case side2 => exact (Kd.R_reads' HO252.out).2.1); (case side3 => repeat (first | exact (Kd.R_reads' HO255.out).2.2 | (with_reducible refine Kd.C_alloc ?_ _) | (with_reducible refine Kd.C_drewN ?_ _) | (with_reducible refine Kd.C_drew ?_))); (case side4 => exact (Kd.R_reads' HO255.out).2.1); rintro e w18 ⟨v257, rfl, ho0, hb⟩; refine ⟨_, rfl, ?_⟩; have n0_ := Aside0.mk (Kd.R_below (ur_ HO252.out) hb); have n1_ := Aside0.mk (Kd.R_below (ur_ HO255.out) hb); have n2_ := Aside0.mk (Kd.R_lower ho0 (below_size (bel_))); have n3_ := Aside0.mk (below_step (bel_) hb); clear HO252; clear HO255; clear HB; have HO252 := n0_; have HO255 := n1_; have HO258 := n2_; have HB := n3_; clear n0_ n1_ n2_ n3_; (try clear hb); (try clear hb2); (try clear hk); (try clear hi); (try clear ho0); obtain ⟨Ao19, co19, eo19⟩ := Kd.R_slice HO258.out; subst eo19) | ((with_reducible refine gate_callee (f := 10) rfl ?_); refine goesL_ (some 17) rfl rfl Tryz.func10 (by kernel_rfl) rfl #[.slice Ao16 y250.length co16, .slice Ao19 t256.length co19] rfl (mp_) ?_; (with_reducible refine (delta_Apply.calls _ _ y250 _ _ t256 t259 t260 _ ?side1 ?side2 ?side3 ?side4 A2.out).mono ?_); (case side1 => repeat (first | exact (Kd.R_reads' HO252.out).2.2 | (with_reducible refine Kd.C_alloc ?_ _) | (with_reducible refine Kd.C_drewN ?_ _) | (with_reducible refine Kd.C_drew ?_))); (case side2 => exact (Kd.R_reads' HO252.out).2.1); (case side3 => repeat (first | exact (Kd.R_reads' HO258.out).2.2 | (with_reducible refine Kd.C_alloc ?_ _) | (with_reducible refine Kd.C_drewN ?_ _) | (with_reducible refine Kd.C_drew ?_))); (case side4 => exact (Kd.R_reads' HO258.out).2.1); rintro e w20 ⟨v261, rfl, ho0, hb⟩; refine ⟨_, rfl, ?_⟩; have n0_ := Aside0.mk (Kd.R_elder' (ur_ HO252.out) (Kd.R_base ho0) hb); have n1_ := Aside0.mk (Kd.R_elder' (ur_ HO255.out) (Kd.R_base ho0) hb); have n2_ := Aside0.mk (Kd.R_below (ur_ HO258.out) hb); have n3_ := Aside0.mk (Kd.R_lower (Kd.R_new' (Kd.R_new' ho0 (Kd.R_lt (ur_ HO252.out))) (Kd.R_lt (ur_ HO255.out))) (below_size (bel_))); have n4_ := Aside0.mk (below_step (bel_) hb); clear HO252; clear HO255; clear HO258; clear HB; have HO252 := n0_; have HO255 := n1_; have HO258 := n2_; have HO262 := n3_; have HB := n4_; clear n0_ n1_ n2_ n3_ n4_; (try clear hb); (try clear hb2); (try clear hk); (try clear hi); (try clear ho0)) | (go_at_call 7; (with_reducible refine (delta_Valid.calls k _ _ t256 true _ ?side1 ?side2 A4.out).mono ?_); (case side1 => repeat (first | exact (Kd.R_reads' HO258.out).2.2 | (with_reducible refine Kd.C_alloc ?_ _) | (with_reducible refine Kd.C_drewN ?_ _) | (with_reducible refine Kd.C_drew ?_))); (case side2 => exact (Kd.R_reads' HO258.out).2.1); rintro e w21 ⟨rfl, hb⟩; have n0_ := Aside0.mk (Kd.R_below (ur_ HO252.out) hb); have n1_ := Aside0.mk (Kd.R_below (ur_ HO255.out) hb); have n2_ := Aside0.mk (Kd.R_below (ur_ HO258.out) hb); have n3_ := Aside0.mk (Kd.R_below (ur_ HO262.out) hb); have n4_ := Aside0.mk (below_step (bel_) hb); clear HO252; clear HO255; clear HO258; clear HO262; clear HB; have HO252 := n0_; have HO255 := n1_; have HO258 := n2_; have HO262 := n3_; have HB := n4_; clear n0_ n1_ n2_ n3_ n4_; (try clear hb); (try clear hb2); (try clear hk); (try clear hi)) | (go_at_call 19; (with_reducible refine (copselaw06_num.calls t260 t264 _ A6.out).mono ?_); rintro e w' ⟨rfl, ⟨nd, rfl⟩⟩; obtain ⟨Ao22, co22, eo22⟩ := Kd.R_slice HO262.out; subst eo22) | (go_at_call 16; (with_reducible refine (copselaw06_files.calls k _ _ t259 _ _ y253 true _ ?side1 ?side2 ?side3 ?side4 A8.out).mono ?_); (case side1 => repeat (first | exact (Kd.R_reads' HO262.out).2.2 | (with_reducible refine Kd.C_alloc ?_ _) | (with_reducible refine Kd.C_drewN ?_ _) | (with_reducible refine Kd.C_drew ?_))); (case side2 => exact (Kd.R_reads' HO262.out).2.1); (case side3 => repeat (first | exact (Kd.R_reads' HO255.out).2.2 | (with_reducible refine Kd.C_alloc ?_ _) | (with_reducible refine Kd.C_drewN ?_ _) | (with_reducible refine Kd.C_drew ?_))); (case side4 => exact (Kd.R_reads' HO255.out).2.1); rintro e w' ⟨rfl, ⟨nd, rfl⟩⟩) | (go_at_call 15; (with_reducible refine (delta_Paths.calls k _ _ t256 t266 _ ?side1 ?side2 A10.out).mono ?_); (case side1 => repeat (first | exact (Kd.R_reads' HO258.out).2.2 | (with_reducible refine Kd.C_alloc ?_ _) | (with_reducible refine Kd.C_drewN ?_ _) | (with_reducible refine Kd.C_drew ?_))); (case side2 => exact (Kd.R_reads' HO258.out).2.1); rintro e w23 ⟨v267, rfl, ho0, hb⟩; have n0_ := Aside0.mk (Kd.R_below (ur_ HO252.out) hb); have n1_ := Aside0.mk (Kd.R_below (ur_ HO255.out) hb); have n2_ := Aside0.mk (Kd.R_below (ur_ HO258.out) hb); have n3_ := Aside0.mk (Kd.R_below (ur_ HO262.out) hb); have n4_ := Aside0.mk (Kd.R_lower ho0 (below_size (bel_))); have n5_ := Aside0.mk (below_step (bel_) hb); clear HO252; clear HO255; clear HO258; clear HO262; clear HB; have HO252 := n0_; have HO255 := n1_; have HO258 := n2_; have HO262 := n3_; have HO268 := n4_; have HB := n5_; clear n0_ n1_ n2_ n3_ n4_ n5_; (try clear hb); (try clear hb2); (try clear hk); (try clear hi); (try clear ho0)) | ((with_reducible refine gate_dst (N := 40) rfl ?_); (try (refine gate_guard (by rfl) ?_; dsimp only)); refine Kd.R_lit Kd.string _ 9 ?hg (N := 40) ?hd (xs := ([(⟨#[97]⟩ : ByteArray), (⟨#[98]⟩ : ByteArray)] : List ByteArray)) (inner := [.string (⟨#[97]⟩ : ByteArray), .string (⟨#[98]⟩ : ByteArray)]) (ok := fun _ => True) (okp := fun _ => True) ?hr ?hp (fun _ hk => hk) trivial (Below.refl _ _) (Nat.le_refl _) (by simp) ?_; (case hd => rfl); (case hg => rfl); (case hr => first | (go_simp; done) | (go_simp; rfl)); (case hp => exact (Reps.one (show Kd.M Kd.string _ _ _ (⟨#[97]⟩ : ByteArray) [.string (⟨#[97]⟩ : ByteArray)] from rfl) (Reps.one (show Kd.M Kd.string _ _ _ (⟨#[98]⟩ : ByteArray) [.string (⟨#[98]⟩ : ByteArray)] from rfl) (Reps.none _ _)))); intro v270 w24 ho25 hb hg_ hnew_; clear hg_ hnew_; (first | rw [← Ny269.out] at ho25 | (simp only [Int.reduceToNat] at ho25; rw [← Ny269.out] at ho25)); have n0_ := Aside0.mk (Kd.R_below (ur_ HO252.out) hb); have n1_ := Aside0.mk (Kd.R_below (ur_ HO255.out) hb); have n2_ := Aside0.mk (Kd.R_below (ur_ HO258.out) hb); have n3_ := Aside0.mk (Kd.R_below (ur_ HO262.out) hb); have n4_ := Aside0.mk (Kd.R_elder' (ur_ HO268.out) (Kd.R_base ho25) hb); have n5_ := Aside0.mk (Kd.R_lower (Kd.R_new' ho25 (Kd.R_lt (ur_ HO268.out))) (below_size (bel_))); have n6_ := Aside0.mk (below_step (bel_) hb); clear HO252; clear HO255; clear HO258; clear HO262; clear HO268; clear HB; have HO252 := n0_; have HO255 := n1_; have HO258 := n2_; have HO262 := n3_; have HO268 := n4_; have HO271 := n5_; have HB := n6_; clear n0_ n1_ n2_ n3_ n4_ n5_ n6_; clear hb ho25; obtain ⟨Ao26, co26, eo26⟩ := Kd.R_slice HO268.out; subst eo26; obtain ⟨Ao27, co27, eo27⟩ := Kd.R_slice HO271.out; subst eo27) | (go_at_call 21; (with_reducible refine (copselaw06_texts.calls k _ _ t266 _ _ y269 t272 _ ?side1 ?side2 ?side3 ?side4 A11.out).mono ?_); (case side1 => repeat (first | exact (Kd.R_reads' HO268.out).2.2 | (with_reducible refine Kd.C_alloc ?_ _) | (with_reducible refine Kd.C_drewN ?_ _) | (with_reducible refine Kd.C_drew ?_))); (case side2 => exact (Kd.R_reads' HO268.out).2.1); (case side3 => repeat (first | exact (Kd.R_reads' HO271.out).2.2 | (with_reducible refine Kd.C_alloc ?_ _) | (with_reducible refine Kd.C_drewN ?_ _) | (with_reducible refine Kd.C_drew ?_))); (case side4 => exact (Kd.R_reads' HO271.out).2.1); rintro e w' ⟨rfl, ⟨nd, rfl⟩⟩))
 go_ret
 exact ⟨er_, bel_⟩
theorem joinK_length {α : Type} {key : α → ByteArray} {idle : α → Bool} {comb : α → α → α} (n : Nat) : ∀ d e : List α, (joinK key idle comb n d e).length ≤ d.length + e.length := by
 induction n with
 | zero => intro d e; simp [joinK]
 | succ n ih =>
  have put : ∀ (x : α) (l : List α), ((if idle x = true then [] else [x]) ++ l).length ≤ l.length + 1 := fun x l => by split <;> simp
  intro d e
  rcases d with _ | ⟨x, d⟩ <;> rcases e with _ | ⟨y, e⟩
  ·simp [joinK]
  ·have := ih [] e
   have h := put y (joinK key idle comb n [] e)
   simp only [List.length_cons, List.length_nil] at this ⊢
   unfold joinK
   dsimp only
   omega
  ·have := ih d []
   have h := put x (joinK key idle comb n d [])
   simp only [List.length_cons, List.length_nil] at this ⊢
   unfold joinK
   dsimp only
   omega
  have h1 := ih d (y :: e)
  have h2 := ih (x :: d) e
  have h3 := ih d e
  have p1 := put x (joinK key idle comb n d (y :: e))
  have p2 := put y (joinK key idle comb n (x :: d) e)
  have p3 := put (comb x y) (joinK key idle comb n d e)
  simp only [List.length_cons] at *
  unfold joinK
  dsimp only
  split
  ·omega
  split <;> omega
section
variable {a b c : List S43} {d e : List S45}
theorem diff_length (a b : List S43) : (diffD a b).length ≤ a.length + b.length := by
 have := joinK_length (key := S45.f0) (idle := idleC) (comb := outerC) (a.length + b.length) (a.map goneC) (b.map comeC)
 simpa [diffD] using this
theorem apply_is (ha : a.length ≤ 1048576) (hd : d.length ≤ 4194304) (fa : FitsF a) (fd : FitsD d) : delta_Apply.f a d = some (applyV a d) := by
 unfold delta_Apply.f
 rw [if_pos ⟨⟨ha, hd⟩, fa, fd⟩]
theorem invert_is (hd : d.length ≤ 4194304) : delta_Invert.f d = some (d.map turnC) := by
 unfold delta_Invert.f
 rw [if_pos hd]
end
theorem alive06 : Ev (fun k => copselaw06_alive.f k) true := Ev.of copselaw06_alive.mono (k := 60) (by kernel_rfl)
theorem lit_R61 (w : World) : Kd.R k45 45 (w.alloc (.cells #[] 45)) w.heap.size (fun _ => True) (.slice (some ⟨w.heap.size, 0, none⟩) 0 0) [] := by
 refine ⟨fun _ _ => trivial, [], World.ownsRow_made (size := _) w #[] 0 (Nat.le_refl _) (by decide) (by simp), ⟨rfl, fun j x h => by simp at h⟩⟩
set_option maxHeartbeats 4000000 in
set_option maxRecDepth 100000 in
theorem clone61_calls (A0 : Option Addr) (c0 : Nat) (l : List S45) (w : World) (hr0 : Kd.C k45 w A0 l.length l) (hl : l.length ≤ 4194304) :
  Calls Tryz.prog 40 #[.slice A0 l.length c0] w fun e w' => ∃ v : Value, e = .returned v ∧ Kd.R k45 45 w' w.heap.size (fun _ => True) v l ∧ Below w.heap.size w w' := by
 have HR0 := Aside0.mk hr0
 clear hr0
 rcases A0 with _ | ad
 rotate_left
 ·have hk := fun W => Lib.run_eql_slice_nil (P := Tryz.prog) W 23 45 (some ad) l.length c0 0 0 Tryz.underlying23
  go_enter Tryz.func40, Tryz.ntmps40
  go_wp2_with (first
   | ((with_reducible refine gate_builtin (b := .append) (xs := #[.tmp 5, .tmp 6]) rfl ?_); at_builtin; refine Kd.R_append_rows k45 (w0 := w) w.heap.size rfl (.tmp 5) (.tmp 6) 23 45 (.agg #[(.string ⟨#[]⟩), (.bool false), (.bool false), (.string ⟨#[]⟩), (.string ⟨#[]⟩), (.int .i64 0), (.int .i64 0), (.string ⟨#[]⟩), (.string ⟨#[]⟩), (.int .i64 0), (.int .i64 0)]) 120 rfl Tryz.underlying23 info45 rfl (by decide) (by omega) (.slice (some ⟨w.heap.size, 0, none⟩) 0 0) ([] : List S45) l (some ad) l.length c0 (fun _ => True) (fun _ => False) rfl rfl (lit_R61 w) (Kd.C_alloc HR0.out _) (fun _ _ h => h) (fun _ h => h.elim) (fun _ _ => trivial) (below_alloc (Below.refl _ _) _) (by simp) (by simp; omega) ?_; intro v2 w2 ho hb h4 h5; clear h4 h5; rw [List.nil_append] at ho; obtain ⟨A2, c2, rfl, l2, r2⟩ := Kd.R_reads ho; have O2 := Aside0.mk ho; have B2 := Aside0.mk hb; clear ho hb l2 r2)
   | fail)
  go_ret
  exact ⟨_, rfl, O2.out, B2.out⟩
 have h0 : l = [] := by
  rcases Nat.eq_zero_or_pos l.length with h | h
  ·exact List.eq_nil_of_length_eq_zero h
  obtain ⟨ad, e, _⟩ := HR0.out.2.2 h
  cases e
 subst h0
 clear HR0
 have hk := fun W => Lib.run_eql_slice_nil (P := Tryz.prog) W 23 45 none 0 c0 0 0 Tryz.underlying23
 go_enter Tryz.func40, Tryz.ntmps40
 go_wp2
 go_ret
 exact ⟨_, rfl, Kd.R_nil _ _ _ _ _, Below.refl _ _⟩
theorem turn_set (l : List S45) (i : Nat) (h : i < l.length) : ((l.take i).map turnC ++ l.drop i).set i (turnC l[i]) = (l.take (i + 1)).map turnC ++ l.drop (i + 1) := by
 rw [List.drop_eq_getElem_cons h, List.set_append_right _ _ (by simp; omega), List.length_map, List.length_take, Nat.min_eq_left (by omega), Nat.sub_self, List.set_cons_zero, List.take_succ_eq_append_getElem h, List.map_append]
 simp
set_option maxHeartbeats 4000000 in
set_option maxRecDepth 100000 in
theorem delta_Invert_walk (A0 : Option Addr) (c0 : Nat) (l : List S45) (w : World) (hr0 : Kd.C k45 w A0 l.length l) (hl : l.length ≤ 4194304) :
  Calls Tryz.prog 12 #[.slice A0 l.length c0] w fun e w' => ∃ v : Value, e = .returned v ∧ Kd.R k45 45 w' w.heap.size (fun _ => True) v (l.map turnC) ∧ Below w.heap.size w w' := by
 have HR0 := Aside0.mk hr0
 clear hr0
 go_enter Tryz.func12, Tryz.ntmps12
 go_wp2_with fail
 refine (clone61_calls A0 c0 l w HR0.out hl).mono ?_
 rintro e w1 ⟨v1, rfl, ho, hb⟩
 obtain ⟨A2, c2, rfl, l2, r2⟩ := Kd.R_reads ho
 have O1 := Aside0.mk ho
 have B1 := Aside0.mk hb
 clear ho hb l2 r2 HR0
 go_wp2
 go_loopg [10] l.length (fun gg s10 wr => ∃ i : Nat, i ≤ l.length ∧ l.length - i ≤ gg ∧ s10 = .int .i64 i ∧ Aside0 (Kd.R k45 45 wr w.heap.size (fun _ => True) (.slice A2 l.length c2) ((l.take i).map turnC ++ l.drop i)) ∧ Aside0 (Below w.heap.size w wr))
 case atStart => exact ⟨0, by omega, by omega, by first | rfl | go_num, by simpa using O1, B1⟩
 case round =>
  clear O1 B1
  obtain ⟨i, hi, hg, rfl, O1, B1⟩ := hrel
  by_cases hlt : i < l.length
  rotate_left
  ·have hltz : ¬ (i : Int) < (l.length : Int) := by omega
   obtain rfl : i = l.length := by omega
   go_wp2
   go_ret
   exact ⟨_, rfl, by have := O1.out; rw [List.take_length, List.drop_length, List.append_nil] at this; exact this, B1.out⟩
  have hltz : (i : Int) < (l.length : Int) := by omega
  obtain ⟨y, hy⟩ : ∃ y, y = (l.take i).map turnC ++ l.drop i := ⟨_, rfl⟩
  have Y := Aside0.mk hy
  rw [← hy] at O1
  have hyl : y.length = l.length := by rw [hy, List.length_append, List.length_map, List.length_take, List.length_drop]; omega
  have hyx : rd_T45 y (i : Int) = l[i] := by
   unfold rd_T45
   rw [Int.toNat_natCast, List.getD_eq_getElem?_getD, hy, List.getElem?_append_right (by simp; omega), List.length_map, List.length_take, Nat.min_eq_left (by omega), Nat.sub_self, List.getElem?_drop, Nat.add_zero, List.getElem?_eq_getElem hlt]
   rfl
  have C1 := (Kd.R_reads' O1.out).2.2
  obtain ⟨g, rfl, hg0⟩ : ∃ g, A2 = some ⟨g, 0, none⟩ ∧ w.heap.size ≤ g := by
   obtain ⟨g, cap, he, h1, h2⟩ := Kd.R_form O1.out (by omega)
   injection he with he _ _
   exact ⟨g, he, h1⟩
  obtain ⟨ad, e1, h0, h1, h2, h3, h4, h5, h6, h7, h8, h9, h10⟩ := at_T45 C1 (i : Int) (by omega) (by rw [hyl]; exact hltz)
  injection e1 with e1
  subst e1
  have XI : Aside0 (∃ x, x = l[i]) := ⟨_, rfl⟩
  generalize hxx : l[i] = x at hyx
  rw [hyx] at h0 h1 h2 h3 h4 h5 h6 h7 h8 h9 h10
  simp only [add_plain, Int.toNat_natCast] at h0 h1 h2 h3 h4 h5 h6 h7 h8 h9 h10
  have HX := Aside0.mk hxx
  have YL := Aside0.mk hyl
  have GL : Aside0 (g < wr.heap.size) := ⟨by obtain ⟨g', cap, he, _, h2, _⟩ := Kd.R_form O1.out (by omega); injection he with he _ _; injection he with he; injection he with he; rw [he]; exact h2⟩
  have HC : Aside0 (∀ (j : Nat) (u : Value), ([.string x.f0, .bool x.f1, .bool x.f2, .string x.f3.f0, .string x.f3.f1, .int .i64 x.f3.f2, .int .i64 x.f3.f3, .string x.f4.f0, .string x.f4.f1, .int .i64 x.f4.f2, .int .i64 x.f4.f3] : List Value)[j]? = some u → wr.cell? ⟨g, (i : Int).toNat * 11 + j, none⟩ = some u) := ⟨by
   obtain ⟨ad, c, e, _, hK, hc0⟩ := Kd.C_get C1 z45 (i : Int) (by omega) (by rw [hyl]; exact hltz)
   injection e with e
   subst e
   have hK2 := k45_open hK
   have e3 : y.getD (i : Int).toNat z45 = x := hyx
   rw [e3] at hK2
   subst hK2
   intro j u hu
   have := hc0 j u hu
   rwa [add_plain] at this⟩
  clear hy C1 hyx hxx hyl XI
  go_wp2_with (first
   | ((with_reducible refine gate_store (t := 45) (p := 28) (v := .tmp 27) rfl ?_); refine Kd.R_store k45 (w0 := w) w.heap.size rfl rfl 45 (.tmp 28) (.tmp 27) rfl 45 (i : Int) 0 y (turnC x) _ [.string x.f0, .bool x.f2, .bool x.f1, .string x.f4.f0, .string x.f4.f1, .int .i64 x.f4.f2, .int .i64 x.f4.f3, .string x.f3.f0, .string x.f3.f1, .int .i64 x.f3.f2, .int .i64 x.f3.f3] [.string x.f0, .bool x.f1, .bool x.f2, .string x.f3.f0, .string x.f3.f1, .int .i64 x.f3.f2, .int .i64 x.f3.f3, .string x.f4.f0, .string x.f4.f1, .int .i64 x.f4.f2, .int .i64 x.f4.f3] (fun _ => True) (fun _ => False) rfl (by rw [Int.toNat_natCast]; rfl) rfl rfl (by kernel_rfl) (by simp [Value.oneCell']) (Kd.R_alloc O1.out _) (by omega) hltz rfl (fun j u hu => ((below_alloc (Below.refl wr.heap.size wr) _).cell (p := ⟨g, _, none⟩) GL.out).trans (HC.out j u hu)) (Nat.le_refl 11) (k45_mkM _ _ _ (turnC x)) (fun _ h => h.elim) (below_alloc B1.out _) ?_; intro w2 ho hb hgr; rw [Int.toNat_natCast] at ho; have O2 := Aside0.mk ho; have B2 := Aside0.mk hb; clear ho hb hgr)
   | fail)
  go_roundg (l.length - (i + 1))
  case measure => omega
  case rel => exact ⟨i + 1, by omega, by omega, by go_num, ⟨by have h := O2.out; rw [Y.out, ← HX.out, turn_set l i hlt] at h; exact h⟩, B2⟩
theorem delta_Invert.calls (A0 : Option Addr) (c0 : Nat) (l0 : List S45) (r : List S45) (w : World) (hr0 : Kd.C k45 w A0 l0.length l0) (_hc0 : l0.length ≤ c0) (h : delta_Invert.f l0 = some r) :
  Calls Tryz.prog 12 #[.slice A0 l0.length c0] w fun e w' => ∃ v0_ : Value, e = .returned (v0_) ∧ Kd.R k45 45 w' w.heap.size (fun _ => True) v0_ r ∧ Below w.heap.size w w' := by
 unfold delta_Invert.f at h
 split at h
 ·rename_i hl
  obtain rfl := Option.some.inj h
  exact delta_Invert_walk A0 c0 l0 w hr0 hl
 cases h
end Go.Proofs.YtehfogjibhnabaaGreatDoor.PAll
