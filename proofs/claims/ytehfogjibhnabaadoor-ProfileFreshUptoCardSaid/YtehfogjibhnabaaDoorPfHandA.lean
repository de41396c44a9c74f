/- path.Split, path.Depth: what they answer; their walks. -/
import Derived.Test.YtehfogjibhnabaaDoorPfPAllx0
import Derived.Test.YtehfogjibhnabaaDoorPfRowKit
import Derived.Test.YtehfogjibhnabaaDoorPfShelf
import Derived.Deep.Onto
namespace Go.Proofs.YtehfogjibhnabaaDoor.PAll
open Go.RowKit Go.Shelf Go.Proofs.YtehfogjibhnabaaDoorW.PrintWords Go.Proofs.YtehfogjibhnabaaDoorW.PrintLast Go.Proofs.YtehfogjibhnabaaDoorW.PrintMore
open Go.Proofs.YtehfogjibhnabaaDoor.Sp
section
variable {P : Program} {ρ : Ren}
theorem split_one (L : Lays.n146 P ρ) (hi9 : (P.info? (ρ.t 9)).map (fun i => (i.zero, i.size, i.bytes)) = some (some (.string ByteArray.empty), 1, 16)) (s : ByteArray) (w : World) (hs : s.size < 4294967281) :
  Calls P (ρ.f 146) #[.string s, .string ⟨#[47]⟩] w fun e w' =>
   e = .returned (.slice (some ⟨w.heap.size, 0, none⟩) (Lib.countB s ⟨#[47]⟩ + 1) (Lib.countB s ⟨#[47]⟩ + 1)) ∧ w' = w.alloc (.cells ((Lib.splitB ⟨#[47]⟩ 0 (Lib.countB s ⟨#[47]⟩) s).map Value.string).toArray (ρ.t 9)) := by
 have h1 : 1 ≤ (⟨#[47]⟩ : ByteArray).size := by decide
 have hle := Lib.countB_le ⟨#[47]⟩ h1 s.size s (Nat.le_refl _)
 have hlen := Lib.splitB_all ⟨#[47]⟩ h1 0 _ s rfl
 have c := Any.strings_genSplit_core { L with } hi9 s ⟨#[47]⟩ 0 (-1) (Lib.countB s ⟨#[47]⟩ + 1) w hs h1 (Nat.zero_le _)
  (fun x c _ => (Any.strings_Index_one { L with } x 47 _).mono fun e w' ⟨he, hw⟩ => ⟨by rw [he]; show Ending.returned (Value.int .i64 (Lib.indexByte x.data.toList 47)) = Ending.returned (Value.int .i64 (Lib.index x.data.toList [47])); rw [Lib.index_one], hw⟩)
  ((Any.strings_Count_one { L with } s 47 w).mono fun e w' ⟨he, hw⟩ => ⟨by rw [he]; show _ = Ending.returned (Value.int .i64 ((Lib.count s.data.toList [47] : Nat) : Int)); rw [Lib.count_one]; rfl, hw⟩)
  (by decide) (by decide) (by rw [if_pos (by decide)]; omega)
 rw [Nat.add_sub_cancel, hlen] at c
 have e2 : Lib.cellsOf (Lib.splitB ⟨#[47]⟩ 0 (Lib.countB s ⟨#[47]⟩) s) (Lib.countB s ⟨#[47]⟩ + 1) = ((Lib.splitB ⟨#[47]⟩ 0 (Lib.countB s ⟨#[47]⟩) s).map Value.string).toArray := by rw [← hlen]; exact Lib.cellsOf_full _
 rw [e2] at c
 have t3 := L.t3; have t9 := L.t9; have t31 := L.t31
 have a3 := L.a3; have a9 := L.a9; have a31 := L.a31
 have z3 := L.z3; have v3 := L.v3; have z9 := L.z9; have v9 := L.v9; have z31 := L.z31; have v31 := L.v31
 have e221 : ∀ args w, (callFunc (ρ.f 221) args).run P w = .ok (.enter (ρ.f 221) args) w := enters_of L.f221 (by kernel_rfl) rfl
 go_enter L.f146, Body.n146_ntmps ρ
 go_wp2_with (go_at_fn (ρ.f 221); refine c.mono ?_; rintro e w' ⟨rfl, hw⟩; rw [hw])
 go_ret
 exact ⟨rfl, rfl⟩
end
def path_Split.f (_k : Nat) (a0 : ByteArray) : Option (List ByteArray) := if a0.size < 4294967281 then some (pB a0) else none
theorem path_Split.mono : ∀ a0 k, LeO (path_Split.f k a0) (path_Split.f (k + 1) a0) := fun _ _ => LeO.refl _
theorem info9s : (Tryd.prog.info? 9).map (fun i => (i.zero, i.size, i.bytes)) = some (some (.string ByteArray.empty), 1, 16) := by kernel_rfl
theorem split_nil (a0 : ByteArray) (w : World) (h : bs a0 = []) :
  Calls Tryd.prog 76 #[.string a0] w fun e w' => e = .returned (.slice none 0 0) ∧ w = w' := by
 have h1 : a0.toList = [] := by rw [toList_bs]; exact h
 have h2 : a0.toList.isEmpty = true := by rw [h1]; rfl
 clear h
 go_enter Tryd.func76, Tryd.ntmps76
 go_wp2
 go_ret
 exact ⟨rfl, rfl⟩
theorem split_some (a0 : ByteArray) (w : World) (h : bs a0 ≠ []) (hs : a0.size < 4294967281) :
  Calls Tryd.prog 76 #[.string a0] w fun e w' => e = .returned (.slice (some ⟨w.heap.size, 0, none⟩) (pB a0).length (pB a0).length) ∧ w.alloc (.cells ((pB a0).map Value.string).toArray 9) = w' := by
 have c := split_one Tryd.lays146 info9s a0 w hs
 have e1 : Lib.splitB ⟨#[47]⟩ 0 (Lib.countB a0 ⟨#[47]⟩) a0 = pB a0 := by rw [splitB_spl]; unfold pB; rw [pcs_of h]
 have e2 : Lib.countB a0 ⟨#[47]⟩ + 1 = (pB a0).length := by rw [← e1]; exact (Lib.splitB_all ⟨#[47]⟩ (by decide) 0 _ a0 rfl).symm
 rw [e1, e2] at c
 have h2 : a0.toList.isEmpty = false := by
  rw [toList_bs]
  cases hb : bs a0 with
  | nil => exact absurd hb h
  | cons _ _ => rfl
 clear h e1 e2 hs
 go_enter Tryd.func76, Tryd.ntmps76
 go_wp2_with (go_at_call 101; refine c.mono ?_; rintro e w' ⟨rfl, rfl⟩)
 go_ret
 exact ⟨rfl, rfl⟩
theorem reps_strs {M : ByteArray → List Value → Prop} (hM : ∀ x, M x [.string x]) : ∀ xs : List ByteArray, Reps M 1 xs (xs.map Value.string)
 | [] => Reps.none _ _
 | x :: xs => Reps.one (hM x) (reps_strs hM xs)
theorem R_strs (W : World) (base : Nat) (e : Nat) (xs : List ByteArray) (ok : Nat → Prop) (hb : base ≤ W.heap.size) (hm : xs.length ≤ 9223372036854775807) (hok : ok W.heap.size) :
  Kd.R Kd.string e (W.alloc (.cells (xs.map Value.string).toArray e)) base ok (.slice (some ⟨W.heap.size, 0, none⟩) xs.length xs.length) xs := by
 refine ⟨fun k hk => ?_, OwnRow.lit W base (reps_strs (M := Kd.string.M (W.alloc (.cells (xs.map Value.string).toArray e)) base (fun k => ok k ∧ some k ≠ (Value.slice (some ⟨W.heap.size, 0, none⟩) xs.length xs.length).ownBlock)) (fun _ => rfl) xs) hb hm⟩
 have : W.heap.size = k := by simpa [Value.ownBlock] using hk
 subst this
 exact hok
theorem pB_length_le (a : ByteArray) : (pB a).length ≤ a.size + 1 := by
 unfold pB
 rw [List.length_map]
 unfold pcs
 split
 ·simp
 ·rename_i h
  have := congrArg List.length (splitB_spl a)
  rw [List.length_map, Lib.splitB_all ⟨#[47]⟩ (by decide) 0 _ a rfl] at this
  have := Lib.countB_le ⟨#[47]⟩ (by decide) a.size a (Nat.le_refl _)
  omega
theorem path_Split.calls (k : Nat) (a0 : ByteArray) (r : List ByteArray) (w : World) (h : path_Split.f k a0 = some r) :
  Calls Tryd.prog 76 #[.string a0] w fun e w' => ∃ v0_ : Value, e = .returned (v0_) ∧ Kd.R Kd.string 9 w' w.heap.size (fun _ => True) v0_ r ∧ Below w.heap.size w w' := by
 unfold path_Split.f at h
 split at h
 ·rename_i hs
  obtain rfl := Option.some.inj h
  by_cases hb : bs a0 = []
  ·rw [pB_nil hb]
   exact (split_nil a0 w hb).mono fun e w' ⟨he, hw⟩ => by subst hw; exact ⟨_, he, Kd.R_nil _ _ _ _ _, Below.refl _ _⟩
  ·exact (split_some a0 w hb hs).mono fun e w' ⟨he, hw⟩ => by
    subst hw
    exact ⟨_, he, R_strs w _ _ _ _ (Nat.le_refl _) (by have := pB_length_le a0; omega) trivial, below_alloc (Below.refl _ _) _⟩
 ·cases h
def path_Depth.f (_k : Nat) (a0 : ByteArray) : Option (Int) := if a0.size < 4294967281 then some ((pB a0).length : Int) else none
theorem path_Depth.mono : ∀ a0 k, LeO (path_Depth.f k a0) (path_Depth.f (k + 1) a0) := fun _ _ => LeO.refl _
theorem depth_nil (a0 : ByteArray) (w : World) (h : bs a0 = []) : Calls Tryd.prog 90 #[.string a0] w fun e w' => e = .returned (.int .i64 0) ∧ w = w' := by
 have h1 : a0.toList = [] := by rw [toList_bs]; exact h
 have h2 : a0.toList.isEmpty = true := by rw [h1]; rfl
 clear h
 go_enter Tryd.func90, Tryd.ntmps90
 go_wp2
 go_ret
 exact ⟨rfl, rfl⟩
theorem depth_some (a0 : ByteArray) (w : World) (h : bs a0 ≠ []) (n : Nat) (hn : n < 4294967281) (hc : Lib.countByte a0.data.toList 47 = n) : Calls Tryd.prog 90 #[.string a0] w fun e w' => e = .returned (.int .i64 (n + 1)) ∧ w = w' := by
 have c := Tryd.strings_Count_one a0 47 w
 rw [hc] at c
 have h2 : a0.toList.isEmpty = false := by
  rw [toList_bs]
  cases hb : bs a0 with
  | nil => exact absurd hb h
  | cons _ _ => rfl
 clear h hc
 go_enter Tryd.func90, Tryd.ntmps90
 go_wp2_with (go_at_call 114; refine c.mono ?_; rintro e w' ⟨rfl, rfl⟩)
 go_ret
 exact ⟨rfl, rfl⟩
theorem path_Depth.calls (k : Nat) (a0 : ByteArray) (r : Int) (w : World) (h : path_Depth.f k a0 = some r) :
  Calls Tryd.prog 90 #[.string a0] w fun e w' => e = .returned (.int .i64 r) ∧ Drawn0 w w' := by
 unfold path_Depth.f at h
 split at h
 ·rename_i hs
  obtain rfl := Option.some.inj h
  by_cases hb : bs a0 = []
  ·rw [pB_nil hb]
   exact (depth_nil a0 w hb).mono fun e w' ⟨he, hw⟩ => by subst hw; exact ⟨he, Drawn0.refl _⟩
  ·have e1 : Lib.splitB ⟨#[47]⟩ 0 (Lib.countB a0 ⟨#[47]⟩) a0 = pB a0 := by rw [splitB_spl]; unfold pB; rw [pcs_of hb]
   have e2 : Lib.countB a0 ⟨#[47]⟩ + 1 = (pB a0).length := by rw [← e1]; exact (Lib.splitB_all ⟨#[47]⟩ (by decide) 0 _ a0 rfl).symm
   have e3 : Lib.countByte a0.data.toList 47 = Lib.countB a0 ⟨#[47]⟩ := (Lib.count_one 47 a0.data.toList).symm
   have hle := Lib.countB_le ⟨#[47]⟩ (by decide) a0.size a0 (Nat.le_refl _)
   exact (depth_some a0 w hb _ (by omega) e3).mono fun e w' ⟨he, hw⟩ => by
    subst hw
    exact ⟨by rw [he, ← e2]; rfl, Drawn0.refl _⟩
 ·cases h
end Go.Proofs.YtehfogjibhnabaaDoor.PAll
namespace Go.Proofs.YtehfogjibhnabaaDoor.PAll
open Go.RowKit Go.Proofs.YtehfogjibhnabaaDoorW.PrintWords Go.Proofs.YtehfogjibhnabaaDoorW.PrintLast Go.Proofs.YtehfogjibhnabaaDoorW.PrintMore
abbrev OS (e : TypeId) (w : World) (v : Value) (xs : List ByteArray) : Prop := w.ownsRow 0 e 1 v xs.length (xs.map Value.string)
theorem OS.of_R {e : TypeId} {w : World} {base : Nat} {ok : Nat → Prop} {v : Value} {xs : List ByteArray} (h : Kd.R Kd.string e w base ok v xs) : OS e w v xs ∧ ∀ k, v.ownBlock = some k → base ≤ k := by
 obtain ⟨_, inner, ho, hr⟩ := h
 have e1 : inner = xs.map Value.string := by
  apply List.ext_getElem?
  intro j
  have hl := hr.1
  rw [show Kd.string.sz = 1 from rfl, Nat.mul_one] at hl
  by_cases hj : j < xs.length
  ·have := hr.2 j xs[j] (List.getElem?_eq_getElem hj)
   rw [show Kd.string.sz = 1 from rfl, Nat.mul_one] at this
   have this : (inner.drop j).take 1 = [Value.string xs[j]] := this
   have h2 : inner[j]? = some (Value.string xs[j]) := by
    have := congrArg (fun l => l[0]?) this
    simpa using this
   rw [h2]; simp [hj]
  ·rw [List.getElem?_eq_none (by omega), List.getElem?_eq_none (by simp; omega)]
 rw [e1] at ho
 exact ⟨own_weaken ho (Nat.zero_le _), own_base ho⟩
theorem OS.far {e : TypeId} {w : World} {v : Value} {xs : List ByteArray} (h : OS e w v xs) {g j : Nat} (u : Value) (hne : ∀ k, v.ownBlock = some k → k ≠ g) : OS e (w.setCell ⟨g, j, none⟩ u) v xs :=
 own_move h fun k hk => Below.heap_setCell w ⟨g, j, none⟩ u k (hne k hk)
theorem OS.below {e : TypeId} {w w1 : World} {v : Value} {xs : List ByteArray} (h : OS e w v xs) (hb : Below w.heap.size w w1) : OS e w1 v xs :=
 own_move h fun k hk => hb.block k (own_lt h k hk)
theorem OS.set {e : TypeId} {w : World} {g n cap : Nat} {xs : List ByteArray} (h : OS e w (.slice (some ⟨g, 0, none⟩) n cap) xs) (hn : n = xs.length) (j : Nat) (m : ByteArray) : OS e (w.setCell ⟨g, j, none⟩ (.string m)) (.slice (some ⟨g, 0, none⟩) n cap) (xs.set j m) := by
 subst hn
 have := (own_store_of (enc := Value.string) (xs := xs) (show w.ownsRow 0 e 1 (.slice (some ⟨g, 0, none⟩) xs.length cap) xs.length (encs Value.string xs) from h) (j : Int) m).1
 rw [Int.toNat_natCast] at this
 show World.ownsRow _ _ _ _ _ _ _
 rw [List.length_set]
 exact this
theorem OS.reads {e : TypeId} {w : World} {v : Value} {xs : List ByteArray} (h : OS e w v xs) : ∃ A c, v = .slice A xs.length c ∧ xs.length ≤ c ∧ Kd.C Kd.string w A xs.length xs := by
 have hR : Kd.R Kd.string e w 0 (fun _ => True) v xs := ⟨fun _ _ => trivial, xs.map Value.string, h, reps_strs (M := Kd.string.M w 0 (fun k' => True ∧ some k' ≠ v.ownBlock)) (fun _ => rfl) xs⟩
 exact Kd.R_reads hR
structure Bl (Pb : Nat → Prop) (w w' : World) : Prop where
 os : w'.os = w.os
 tape : w'.tape = w.tape
 output : w'.output = w.output
 size : w.heap.size ≤ w'.heap.size
 block : ∀ k, k < w.heap.size → ¬ Pb k → w'.heap[k]? = w.heap[k]?
theorem Bl.refl (Pb : Nat → Prop) (w : World) : Bl Pb w w := ⟨rfl, rfl, rfl, Nat.le_refl _, fun _ _ _ => rfl⟩
theorem Bl.trans {Pb : Nat → Prop} {a b c : World} (h : Bl Pb a b) (k : Bl Pb b c) : Bl Pb a c := ⟨k.os.trans h.os, k.tape.trans h.tape, k.output.trans h.output, Nat.le_trans h.size k.size, fun q hq hp => (k.block q (Nat.lt_of_lt_of_le hq h.size) hp).trans (h.block q hq hp)⟩
theorem Bl.of_below {Pb : Nat → Prop} {w w' : World} (h : Below w.heap.size w w') : Bl Pb w w' := ⟨h.os, h.tape, h.output, h.size, fun k hk _ => h.block k hk⟩
theorem Bl.of_below' {Pb : Nat → Prop} {w w' : World} {B : Nat} (h : Below B w w') (hB : ∀ k, B ≤ k → Pb k) : Bl Pb w w' := ⟨h.os, h.tape, h.output, h.size, fun k _ hp => h.block k (Nat.lt_of_not_le fun e => hp (hB k e))⟩
theorem Bl.of_grown {Pb : Nat → Prop} {w w' : World} {row : Option Nat} (h : w.grownBy w' row) (hr : ∀ k, row = some k → Pb k) : Bl Pb w w' := ⟨h.os, h.tape, h.output, h.size, fun k hk hp => h.block k hk fun e => hp (hr k e.symm)⟩
theorem Bl.setCell {Pb : Nat → Prop} {w w' : World} (h : Bl Pb w w') {g j : Nat} (hg : Pb g) (u : Value) : Bl Pb w (w'.setCell ⟨g, j, none⟩ u) :=
 h.trans ⟨rfl, rfl, rfl, by simp [World.setCell], fun k _ hp => Below.heap_setCell w' ⟨g, j, none⟩ u k (fun e => hp (by have e : k = g := e; rw [e]; exact hg))⟩
theorem Bl.drew {Pb : Nat → Prop} {w w' : World} (h : Bl Pb w w') : Bl Pb w w'.drew := ⟨h.os, h.tape, h.output, h.size, h.block⟩
theorem Bl.drewN {Pb : Nat → Prop} {w w' : World} (h : Bl Pb w w') (n : Nat) : Bl Pb w (w'.drewN n) := ⟨h.os, h.tape, h.output, h.size, h.block⟩
theorem Bl.below {Pb : Nat → Prop} {w w' : World} {B : Nat} (h : Bl Pb w w') (hB : B ≤ w.heap.size) (hb : ∀ k, Pb k → B ≤ k) : Below B w w' := ⟨h.os, h.tape, h.output, h.size, fun k hk => h.block k (by omega) (fun hp => by have := hb k hp; omega)⟩
end Go.Proofs.YtehfogjibhnabaaDoor.PAll
namespace Go.Proofs.YtehfogjibhnabaaDoor.PAll
open Go.RowKit Go.Proofs.YtehfogjibhnabaaDoorW.PrintWords Go.Proofs.YtehfogjibhnabaaDoorW.PrintLast Go.Proofs.YtehfogjibhnabaaDoorW.PrintMore
attribute [local go_sem] max2_int min2_int max_two min_two max_three min_three max_four min_four
set_option linter.unusedVariables false
set_option linter.unusedSimpArgs false
theorem eqA55 (d : Nat) (w : World) (x0 y0 : ByteArray) (x1 y1 : ByteArray) (x2 y2 : Int) (x3 y3 : Int) :
  (Op.equalIn (d + 2) 55 (.agg #[.string x0, .string x1, .int .i64 x2, .int .i64 x3]) (.agg #[.string y0, .string y1, .int .i64 y2, .int .i64 y3])).run Tryd.prog w = .ok (x0.toList == y0.toList && (x1.toList == y1.toList && (x2 == y2 && (x3 == y3)))) w := by
 refine eqA_of Tryd.underlying55 (by kernel_rfl) ?_
 refine eqf_cons (by rfl) (by go_simp; rfl) (by go_simp; rfl) (by go_simp) ?_
 refine eqf_cons (by rfl) (by go_simp; rfl) (by go_simp; rfl) (by go_simp) ?_
 refine eqf_cons (by rfl) (by go_simp; rfl) (by go_simp; rfl) (by go_simp) ?_
 exact eqf_last (by rfl) (by go_simp; rfl) (by go_simp; rfl) (by go_simp)
def copseref02_Split.l0 : Nat → ByteArray → List ByteArray → Int → Int → Option (List ByteArray)
 | 0, _, _, _, _ => none
 | k + 1, x0, x3, x4, x5 => if x5 ≤ (x0.size : Int) then (if x5 = (x0.size : Int) then (if 0 ≤ x4 then (if x4 ≤ x5 then (if x3.length < 8796093022208 then (copseref02_Split.l0 k x0 (x3 ++ [x0.extract (x4 : Int).toNat (x5 : Int).toNat]) (wrap64 (x5 + 1)) (wrap64 (x5 + 1))) else (none)) else (none)) else (none)) else (if 0 ≤ x5 then (if x5 < (x0.size : Int) then (if (bt x0 x5) = 47 then (if 0 ≤ x4 then (if x4 ≤ x5 then (if x3.length < 8796093022208 then (copseref02_Split.l0 k x0 (x3 ++ [x0.extract (x4 : Int).toNat (x5 : Int).toNat]) (wrap64 (x5 + 1)) (wrap64 (x5 + 1))) else (none)) else (none)) else (none)) else (copseref02_Split.l0 k x0 x3 x4 (wrap64 (x5 + 1)))) else (none)) else (none))) else (some x3)
def copseref02_Split.f (k : Nat) (a0 : ByteArray) : Option (List ByteArray) := if a0.toList = ([] : List UInt8) then (some ([] : List ByteArray)) else (copseref02_Split.l0 k a0 ([] : List ByteArray) 0 0)
set_option maxHeartbeats 8000000 in
set_option maxRecDepth 100000 in
theorem copseref02_Split.calls (k : Nat) (a0 : ByteArray) (r : List ByteArray) (w : World) (h : copseref02_Split.f k a0 = some r) :
  Calls Tryd.prog 42 #[.string a0] w fun e w' => ∃ v0_ : Value, e = .returned (v0_) ∧ Kd.R Kd.string 9 w' w.heap.size (fun _ => True) v0_ r ∧ Below w.heap.size w w' := by
 have HB := Aside0.mk (Below.refl w.heap.size w)
 have H : (if a0.toList = ([] : List UInt8) then (some ([] : List ByteArray)) else (copseref02_Split.l0 k a0 ([] : List ByteArray) 0 0)) = some r := h
 clear h
 by_cases c2 : a0.toList = ([] : List UInt8)
 ·rw [if_pos c2] at H
  have c2b0 : (a0.toList == ([] : List UInt8)) = true := beq_iff_eq.mpr c2
  have c2b1 : (a0.toList != ([] : List UInt8)) = false := bne_eq_false_iff_eq.mpr c2
  clear c2
  obtain rfl := Option.some.inj H
  go_enter Tryd.func42, Tryd.ntmps42
  go_wp2
  go_ret
  exact ⟨_, by first | rfl | (simp [errW_none, errW_some] <;> rfl) | (simp [*, errW_none, errW_some] <;> rfl), by first | exact Kd.R_nil _ _ _ _ _ | exact Kd.N_nil _ _ _ _ _ | exact Kd.V_nil _ _ _ _ _ | exact Kd.Q_nil _ _ _ _ _ | exact Kd.S_nil _ _ _ _ _, by repeat (first | (with_reducible first | exact HB.out | apply below_alloc | apply pw_below_drewN | apply below_drew1) | exact HB.out)⟩
 ·rw [if_neg c2] at H
  have c2b0 : (a0.toList == ([] : List UInt8)) = false := beq_eq_false_iff_ne.mpr c2
  have c2b1 : (a0.toList != ([] : List UInt8)) = true := bne_iff_ne.mpr c2
  have H' := Aside0.mk H
  clear H
  go_enter Tryd.func42, Tryd.ntmps42
  go_wp2
  go_loopg [3, 4, 5] k (fun kq v3 v4 v5 w' => ∃ (x3_1 : List ByteArray) (x4_1 : Int) (x5_1 : Int), v4 = .int .i64 x4_1 ∧ v5 = .int .i64 x5_1 ∧ Aside0 (copseref02_Split.l0 kq a0 x3_1 x4_1 x5_1 = some r) ∧ Aside0 (kq ≤ k) ∧ Aside0 (Kd.R Kd.string 9 w' w.heap.size (fun _ => True) v3 x3_1) ∧ Aside0 (Below w.heap.size w w'))
  case atStart => exact ⟨(([] : List ByteArray)), (0), (0), (by first | rfl | (simp; done) | (simp [*]; done)), (by first | rfl | (simp; done) | (simp [*]; done)), H', ⟨Nat.le_refl _⟩, ⟨by first | exact Kd.R_nil _ _ _ _ _ | exact Kd.N_nil _ _ _ _ _ | exact Kd.V_nil _ _ _ _ _ | exact Kd.Q_nil _ _ _ _ _ | exact Kd.S_nil _ _ _ _ _⟩, ⟨by repeat (first | (with_reducible first | exact HB.out | apply below_alloc | apply pw_below_drewN | apply below_drew1) | exact HB.out)⟩⟩
  case round =>
   clear H'
   try clear c2
   try clear c2b0
   try clear c2b1
   try clear p2
   obtain ⟨x3_1, x4_1, x5_1, rfl, rfl, HA, HK1, HO_3, HB⟩ := hrel
   cases gk with
   | zero => exact absurd HA.out (by simp [copseref02_Split.l0])
   | succ k1 =>
    have H := HA.out
    clear HA
    simp only [copseref02_Split.l0] at H
    by_cases c3 : x5_1 ≤ (a0.size : Int)
    ·rw [if_pos c3] at H
     have c3b0 := decide_eq_true c3
     clear c3
     by_cases c4 : x5_1 = (a0.size : Int)
     ·rw [if_pos c4] at H
      have c4b0 : (x5_1 == (a0.size : Int)) = true := beq_iff_eq.mpr c4
      have c4b1 : (x5_1 != (a0.size : Int)) = false := bne_eq_false_iff_eq.mpr c4
      clear c4
      by_cases c5 : 0 ≤ x4_1
      ·rw [if_pos c5] at H
       have c5b0 := eq_true c5
       have c5b1 := decide_eq_true c5
       clear c5
       by_cases c6 : x4_1 ≤ x5_1
       ·rw [if_pos c6] at H
        have c6b0 := eq_true c6
        have c6b1 := decide_eq_true c6
        clear c6
        have c7b0 := eq_true (of_decide_eq_true (by first | (with_reducible assumption) | assumption) : x5_1 ≤ (a0.size : Int))
        by_cases c8 : x3_1.length < 8796093022208
        ·rw [if_pos c8] at H
         have LMc8 := Aside0.mk c8
         clear c8
         obtain ⟨y101, hy101⟩ : ∃ y_ : List ByteArray, y_ = (x3_1 ++ [a0.extract (x4_1 : Int).toNat (x5_1 : Int).toNat]) := ⟨_, rfl⟩
         replace H : (copseref02_Split.l0 k1 a0 y101 (wrap64 (x5_1 + 1)) (wrap64 (x5_1 + 1))) = some r := by first | (rw [hy101]; with_reducible exact H) | (have H2_ := (Option.bind_some _ _).symm.trans H; rw [hy101]; with_reducible exact H2_) | (have H2_ := (Option.bind_some _ _).symm.trans H; with_reducible exact H2_) | with_reducible exact H | (rw [hy101]; exact H) | exact H
         have Ny101 := Aside0.mk hy101
         clear hy101
         have H' := Aside0.mk H
         clear H
         go_wp2_with (first | ((with_reducible refine gate_builtin (b := .append) (xs := #[.tmp 25, .tmp 30]) rfl ?_); at_builtin; refine Kd.R_append Kd.string (w0 := w) w.heap.size rfl (.tmp 25) (.tmp 30) 22 9 (.string ⟨#[]⟩) 16 rfl Tryd.underlying22 info9 rfl (by decide) (by omega) u3 x3_1 (a0.extract (x4_1 : Int).toNat (x5_1 : Int).toNat) [.string (a0.extract (x4_1 : Int).toNat (x5_1 : Int).toNat)] (fun _ => True) (fun _ => False) rfl rfl ?aP (fun _ hk => hk.elim) ?aF ?aO ?aB ?aS ?aL ?_; (case aP => exact rfl); (case aB => exact (by repeat (first | (with_reducible first | exact HB.out | apply below_alloc | apply pw_below_drewN | apply below_drew1) | exact HB.out))); (case aF => exact (fun _ _ => trivial)); (case aO => exact (by (with_reducible repeat (first | apply Kd.R_alloc | apply Kd.R_drewN | apply Kd.R_drew)); exact HO_3.out)); (case aS => exact (below_size (by repeat (first | (with_reducible first | exact HB.out | apply below_alloc | apply pw_below_drewN | apply below_drew1) | exact HB.out)))); (case aL => have := LMc8.out; omega); intro v102 w9 ho hb hg hat; rw [← Ny101.out] at ho; have n0_ := Aside0.mk (hb); have n1_ := Aside0.mk (ho); clear HB; clear HO_3; have HB := n0_; have HO103 := n1_; clear n0_ n1_; clear ho hb hg hat))
         go_roundg k1
         case measure => have := HK1.out; omega
         case rel => exact ⟨(y101), (wrap64 (x5_1 + 1)), (wrap64 (x5_1 + 1)), (by first | rfl | (simp; done) | (simp [*]; done)), (by first | rfl | (simp; done) | (simp [*]; done)), H', ⟨by have := HK1.out; omega⟩, ⟨by (with_reducible repeat (first | apply Kd.R_alloc | apply Kd.R_drewN | apply Kd.R_drew)); exact HO103.out⟩, ⟨by repeat (first | (with_reducible first | exact HB.out | apply below_alloc | apply pw_below_drewN | apply below_drew1) | exact HB.out)⟩⟩
        ·rw [if_neg c8] at H
         exact absurd H (by simp)
       ·rw [if_neg c6] at H
        exact absurd H (by simp)
      ·rw [if_neg c5] at H
       exact absurd H (by simp)
     ·rw [if_neg c4] at H
      have c4b0 : (x5_1 == (a0.size : Int)) = false := beq_eq_false_iff_ne.mpr c4
      have c4b1 : (x5_1 != (a0.size : Int)) = true := bne_iff_ne.mpr c4
      by_cases c10 : 0 ≤ x5_1
      ·rw [if_pos c10] at H
       have c10b0 := decide_eq_true c10
       clear c10
       by_cases c11 : x5_1 < (a0.size : Int)
       ·rw [if_pos c11] at H
        have c11b0 := decide_eq_true c11
        clear c11
        by_cases c13 : (bt a0 x5_1) = 47
        ·rw [if_pos c13] at H
         have c13b0 : ((bt a0 x5_1) == 47) = true := beq_iff_eq.mpr c13
         have c13b1 : ((bt a0 x5_1) != 47) = false := bne_eq_false_iff_eq.mpr c13
         clear c13
         by_cases c14 : 0 ≤ x4_1
         ·rw [if_pos c14] at H
          have c14b0 := eq_true c14
          have c14b1 := decide_eq_true c14
          clear c14
          by_cases c15 : x4_1 ≤ x5_1
          ·rw [if_pos c15] at H
           have c15b0 := eq_true c15
           have c15b1 := decide_eq_true c15
           clear c15
           have c16b0 := eq_true (of_decide_eq_true (by first | (with_reducible assumption) | assumption) : x5_1 ≤ (a0.size : Int))
           by_cases c17 : x3_1.length < 8796093022208
           ·rw [if_pos c17] at H
            have LMc17 := Aside0.mk c17
            clear c17
            obtain ⟨y104, hy104⟩ : ∃ y_ : List ByteArray, y_ = (x3_1 ++ [a0.extract (x4_1 : Int).toNat (x5_1 : Int).toNat]) := ⟨_, rfl⟩
            replace H : (copseref02_Split.l0 k1 a0 y104 (wrap64 (x5_1 + 1)) (wrap64 (x5_1 + 1))) = some r := by first | (rw [hy104]; with_reducible exact H) | (have H2_ := (Option.bind_some _ _).symm.trans H; rw [hy104]; with_reducible exact H2_) | (have H2_ := (Option.bind_some _ _).symm.trans H; with_reducible exact H2_) | with_reducible exact H | (rw [hy104]; exact H) | exact H
            have Ny104 := Aside0.mk hy104
            clear hy104
            have H' := Aside0.mk H
            clear H
            have p12 : 0 ≤ (x5_1 : Int) := of_decide_eq_true (by first | (with_reducible assumption) | assumption)
            have q12 : x5_1 < (a0.size : Int) := of_decide_eq_true (by first | (with_reducible assumption) | assumption)
            have hx12 := bt_at a0 x5_1
            replace p12 := eq_true p12
            replace q12 := eq_true q12
            go_wp2_with (first | ((with_reducible refine gate_builtin (b := .append) (xs := #[.tmp 25, .tmp 30]) rfl ?_); at_builtin; refine Kd.R_append Kd.string (w0 := w) w.heap.size rfl (.tmp 25) (.tmp 30) 22 9 (.string ⟨#[]⟩) 16 rfl Tryd.underlying22 info9 rfl (by decide) (by omega) u3 x3_1 (a0.extract (x4_1 : Int).toNat (x5_1 : Int).toNat) [.string (a0.extract (x4_1 : Int).toNat (x5_1 : Int).toNat)] (fun _ => True) (fun _ => False) rfl rfl ?aP (fun _ hk => hk.elim) ?aF ?aO ?aB ?aS ?aL ?_; (case aP => exact rfl); (case aB => exact (by repeat (first | (with_reducible first | exact HB.out | apply below_alloc | apply pw_below_drewN | apply below_drew1) | exact HB.out))); (case aF => exact (fun _ _ => trivial)); (case aO => exact (by (with_reducible repeat (first | apply Kd.R_alloc | apply Kd.R_drewN | apply Kd.R_drew)); exact HO_3.out)); (case aS => exact (below_size (by repeat (first | (with_reducible first | exact HB.out | apply below_alloc | apply pw_below_drewN | apply below_drew1) | exact HB.out)))); (case aL => have := LMc17.out; omega); intro v105 w18 ho hb hg hat; rw [← Ny104.out] at ho; have n0_ := Aside0.mk (hb); have n1_ := Aside0.mk (ho); clear HB; clear HO_3; have HB := n0_; have HO106 := n1_; clear n0_ n1_; clear ho hb hg hat))
            go_roundg k1
            case measure => have := HK1.out; omega
            case rel => exact ⟨(y104), (wrap64 (x5_1 + 1)), (wrap64 (x5_1 + 1)), (by first | rfl | (simp; done) | (simp [*]; done)), (by first | rfl | (simp; done) | (simp [*]; done)), H', ⟨by have := HK1.out; omega⟩, ⟨by (with_reducible repeat (first | apply Kd.R_alloc | apply Kd.R_drewN | apply Kd.R_drew)); exact HO106.out⟩, ⟨by repeat (first | (with_reducible first | exact HB.out | apply below_alloc | apply pw_below_drewN | apply below_drew1) | exact HB.out)⟩⟩
           ·rw [if_neg c17] at H
            exact absurd H (by simp)
          ·rw [if_neg c15] at H
           exact absurd H (by simp)
         ·rw [if_neg c14] at H
          exact absurd H (by simp)
        ·rw [if_neg c13] at H
         have c13b0 : ((bt a0 x5_1) == 47) = false := beq_eq_false_iff_ne.mpr c13
         have c13b1 : ((bt a0 x5_1) != 47) = true := bne_iff_ne.mpr c13
         have H' := Aside0.mk H
         clear H
         have p12 : 0 ≤ (x5_1 : Int) := of_decide_eq_true (by first | (with_reducible assumption) | assumption)
         have q12 : x5_1 < (a0.size : Int) := of_decide_eq_true (by first | (with_reducible assumption) | assumption)
         have hx12 := bt_at a0 x5_1
         replace p12 := eq_true p12
         replace q12 := eq_true q12
         go_wp2
         go_roundg k1
         case measure => have := HK1.out; omega
         case rel => exact ⟨(x3_1), (x4_1), (wrap64 (x5_1 + 1)), (by first | rfl | (simp; done) | (simp [*]; done)), (by first | rfl | (simp; done) | (simp [*]; done)), H', ⟨by have := HK1.out; omega⟩, ⟨by (with_reducible repeat (first | apply Kd.R_alloc | apply Kd.R_drewN | apply Kd.R_drew)); exact HO_3.out⟩, ⟨by repeat (first | (with_reducible first | exact HB.out | apply below_alloc | apply pw_below_drewN | apply below_drew1) | exact HB.out)⟩⟩
       ·rw [if_neg c11] at H
        exact absurd H (by simp)
      ·rw [if_neg c10] at H
       exact absurd H (by simp)
    ·rw [if_neg c3] at H
     have c3b0 := decide_eq_false c3
     clear c3
     obtain rfl := Option.some.inj H
     go_wp2
     go_ret
     exact ⟨_, by first | rfl | (simp [errW_none, errW_some] <;> rfl) | (simp [*, errW_none, errW_some] <;> rfl), by (with_reducible repeat (first | apply Kd.R_alloc | apply Kd.R_drewN | apply Kd.R_drew)); exact HO_3.out, by repeat (first | (with_reducible first | exact HB.out | apply below_alloc | apply pw_below_drewN | apply below_drew1) | exact HB.out)⟩
def copseref02_Byte.f (a0 : Int) : Option (Bool) := if a0 ≥ 97 then (if a0 ≤ 122 then (some true) else (if a0 ≥ 65 then (if a0 ≤ 90 then (some true) else (if a0 ≥ 48 then (if a0 ≤ 57 then (some true) else (if a0 = 46 then (some true) else (if a0 = 95 then (some true) else (some (a0 == 45))))) else (if a0 = 46 then (some true) else (if a0 = 95 then (some true) else (some (a0 == 45)))))) else (if a0 ≥ 48 then (if a0 ≤ 57 then (some true) else (if a0 = 46 then (some true) else (if a0 = 95 then (some true) else (some (a0 == 45))))) else (if a0 = 46 then (some true) else (if a0 = 95 then (some true) else (some (a0 == 45))))))) else (if a0 ≥ 65 then (if a0 ≤ 90 then (some true) else (if a0 ≥ 48 then (if a0 ≤ 57 then (some true) else (if a0 = 46 then (some true) else (if a0 = 95 then (some true) else (some (a0 == 45))))) else (if a0 = 46 then (some true) else (if a0 = 95 then (some true) else (some (a0 == 45)))))) else (if a0 ≥ 48 then (if a0 ≤ 57 then (some true) else (if a0 = 46 then (some true) else (if a0 = 95 then (some true) else (some (a0 == 45))))) else (if a0 = 46 then (some true) else (if a0 = 95 then (some true) else (some (a0 == 45))))))
set_option maxHeartbeats 8000000 in
set_option maxRecDepth 100000 in
theorem copseref02_Byte.calls (a0 : Int) (r : Bool) (w : World) (h : copseref02_Byte.f a0 = some r) :
  Calls Tryd.prog 74 #[.int .u8 a0] w fun e w' => e = .returned (.bool r) ∧ Drawn0 w w' := by
 have H : (if a0 ≥ 97 then (if a0 ≤ 122 then (some true) else (if a0 ≥ 65 then (if a0 ≤ 90 then (some true) else (if a0 ≥ 48 then (if a0 ≤ 57 then (some true) else (if a0 = 46 then (some true) else (if a0 = 95 then (some true) else (some (a0 == 45))))) else (if a0 = 46 then (some true) else (if a0 = 95 then (some true) else (some (a0 == 45)))))) else (if a0 ≥ 48 then (if a0 ≤ 57 then (some true) else (if a0 = 46 then (some true) else (if a0 = 95 then (some true) else (some (a0 == 45))))) else (if a0 = 46 then (some true) else (if a0 = 95 then (some true) else (some (a0 == 45))))))) else (if a0 ≥ 65 then (if a0 ≤ 90 then (some true) else (if a0 ≥ 48 then (if a0 ≤ 57 then (some true) else (if a0 = 46 then (some true) else (if a0 = 95 then (some true) else (some (a0 == 45))))) else (if a0 = 46 then (some true) else (if a0 = 95 then (some true) else (some (a0 == 45)))))) else (if a0 ≥ 48 then (if a0 ≤ 57 then (some true) else (if a0 = 46 then (some true) else (if a0 = 95 then (some true) else (some (a0 == 45))))) else (if a0 = 46 then (some true) else (if a0 = 95 then (some true) else (some (a0 == 45))))))) = some r := h
 clear h
 by_cases c2 : a0 ≥ 97
 ·rw [if_pos c2] at H
  have c2b0 := decide_eq_true c2
  clear c2
  by_cases c3 : a0 ≤ 122
  ·rw [if_pos c3] at H
   have c3b0 := decide_eq_true c3
   clear c3
   obtain rfl := Option.some.inj H
   go_enter Tryd.func74, Tryd.ntmps74
   go_wp2
   go_ret
   exact ⟨by first | rfl | (simp; done) | (simp [*]; done), by repeat (first | exact Drawn0.refl _ | apply Drawn0.step)⟩
  ·rw [if_neg c3] at H
   have c3b0 := decide_eq_false c3
   clear c3
   by_cases c4 : a0 ≥ 65
   ·rw [if_pos c4] at H
    have c4b0 := decide_eq_true c4
    clear c4
    by_cases c5 : a0 ≤ 90
    ·rw [if_pos c5] at H
     have c5b0 := decide_eq_true c5
     clear c5
     obtain rfl := Option.some.inj H
     go_enter Tryd.func74, Tryd.ntmps74
     go_wp2
     go_ret
     exact ⟨by first | rfl | (simp; done) | (simp [*]; done), by repeat (first | exact Drawn0.refl _ | apply Drawn0.step)⟩
    ·rw [if_neg c5] at H
     have c5b0 := decide_eq_false c5
     clear c5
     by_cases c6 : a0 ≥ 48
     ·rw [if_pos c6] at H
      have c6b0 := decide_eq_true c6
      clear c6
      by_cases c7 : a0 ≤ 57
      ·rw [if_pos c7] at H
       have c7b0 := decide_eq_true c7
       clear c7
       obtain rfl := Option.some.inj H
       go_enter Tryd.func74, Tryd.ntmps74
       go_wp2
       go_ret
       exact ⟨by first | rfl | (simp; done) | (simp [*]; done), by repeat (first | exact Drawn0.refl _ | apply Drawn0.step)⟩
      ·rw [if_neg c7] at H
       have c7b0 := decide_eq_false c7
       clear c7
       by_cases c8 : a0 = 46
       ·rw [if_pos c8] at H
        have c8b0 : (a0 == 46) = true := beq_iff_eq.mpr c8
        have c8b1 : (a0 != 46) = false := bne_eq_false_iff_eq.mpr c8
        clear c8
        obtain rfl := Option.some.inj H
        go_enter Tryd.func74, Tryd.ntmps74
        go_wp2
        go_ret
        exact ⟨by first | rfl | (simp; done) | (simp [*]; done), by repeat (first | exact Drawn0.refl _ | apply Drawn0.step)⟩
       ·rw [if_neg c8] at H
        have c8b0 : (a0 == 46) = false := beq_eq_false_iff_ne.mpr c8
        have c8b1 : (a0 != 46) = true := bne_iff_ne.mpr c8
        by_cases c9 : a0 = 95
        ·rw [if_pos c9] at H
         have c9b0 : (a0 == 95) = true := beq_iff_eq.mpr c9
         have c9b1 : (a0 != 95) = false := bne_eq_false_iff_eq.mpr c9
         clear c9
         obtain rfl := Option.some.inj H
         go_enter Tryd.func74, Tryd.ntmps74
         go_wp2
         go_ret
         exact ⟨by first | rfl | (simp; done) | (simp [*]; done), by repeat (first | exact Drawn0.refl _ | apply Drawn0.step)⟩
        ·rw [if_neg c9] at H
         have c9b0 : (a0 == 95) = false := beq_eq_false_iff_ne.mpr c9
         have c9b1 : (a0 != 95) = true := bne_iff_ne.mpr c9
         obtain rfl := Option.some.inj H
         go_enter Tryd.func74, Tryd.ntmps74
         go_wp2
         go_ret
         exact ⟨by first | rfl | (simp; done) | (simp [*]; done), by repeat (first | exact Drawn0.refl _ | apply Drawn0.step)⟩
     ·rw [if_neg c6] at H
      have c6b0 := decide_eq_false c6
      clear c6
      by_cases c10 : a0 = 46
      ·rw [if_pos c10] at H
       have c10b0 : (a0 == 46) = true := beq_iff_eq.mpr c10
       have c10b1 : (a0 != 46) = false := bne_eq_false_iff_eq.mpr c10
       clear c10
       obtain rfl := Option.some.inj H
       go_enter Tryd.func74, Tryd.ntmps74
       go_wp2
       go_ret
       exact ⟨by first | rfl | (simp; done) | (simp [*]; done), by repeat (first | exact Drawn0.refl _ | apply Drawn0.step)⟩
      ·rw [if_neg c10] at H
       have c10b0 : (a0 == 46) = false := beq_eq_false_iff_ne.mpr c10
       have c10b1 : (a0 != 46) = true := bne_iff_ne.mpr c10
       by_cases c11 : a0 = 95
       ·rw [if_pos c11] at H
        have c11b0 : (a0 == 95) = true := beq_iff_eq.mpr c11
        have c11b1 : (a0 != 95) = false := bne_eq_false_iff_eq.mpr c11
        clear c11
        obtain rfl := Option.some.inj H
        go_enter Tryd.func74, Tryd.ntmps74
        go_wp2
        go_ret
        exact ⟨by first | rfl | (simp; done) | (simp [*]; done), by repeat (first | exact Drawn0.refl _ | apply Drawn0.step)⟩
       ·rw [if_neg c11] at H
        have c11b0 : (a0 == 95) = false := beq_eq_false_iff_ne.mpr c11
        have c11b1 : (a0 != 95) = true := bne_iff_ne.mpr c11
        obtain rfl := Option.some.inj H
        go_enter Tryd.func74, Tryd.ntmps74
        go_wp2
        go_ret
        exact ⟨by first | rfl | (simp; done) | (simp [*]; done), by repeat (first | exact Drawn0.refl _ | apply Drawn0.step)⟩
   ·rw [if_neg c4] at H
    have c4b0 := decide_eq_false c4
    clear c4
    by_cases c12 : a0 ≥ 48
    ·rw [if_pos c12] at H
     have c12b0 := decide_eq_true c12
     clear c12
     by_cases c13 : a0 ≤ 57
     ·rw [if_pos c13] at H
      have c13b0 := decide_eq_true c13
      clear c13
      obtain rfl := Option.some.inj H
      go_enter Tryd.func74, Tryd.ntmps74
      go_wp2
      go_ret
      exact ⟨by first | rfl | (simp; done) | (simp [*]; done), by repeat (first | exact Drawn0.refl _ | apply Drawn0.step)⟩
     ·rw [if_neg c13] at H
      have c13b0 := decide_eq_false c13
      clear c13
      by_cases c14 : a0 = 46
      ·rw [if_pos c14] at H
       have c14b0 : (a0 == 46) = true := beq_iff_eq.mpr c14
       have c14b1 : (a0 != 46) = false := bne_eq_false_iff_eq.mpr c14
       clear c14
       obtain rfl := Option.some.inj H
       go_enter Tryd.func74, Tryd.ntmps74
       go_wp2
       go_ret
       exact ⟨by first | rfl | (simp; done) | (simp [*]; done), by repeat (first | exact Drawn0.refl _ | apply Drawn0.step)⟩
      ·rw [if_neg c14] at H
       have c14b0 : (a0 == 46) = false := beq_eq_false_iff_ne.mpr c14
       have c14b1 : (a0 != 46) = true := bne_iff_ne.mpr c14
       by_cases c15 : a0 = 95
       ·rw [if_pos c15] at H
        have c15b0 : (a0 == 95) = true := beq_iff_eq.mpr c15
        have c15b1 : (a0 != 95) = false := bne_eq_false_iff_eq.mpr c15
        clear c15
        obtain rfl := Option.some.inj H
        go_enter Tryd.func74, Tryd.ntmps74
        go_wp2
        go_ret
        exact ⟨by first | rfl | (simp; done) | (simp [*]; done), by repeat (first | exact Drawn0.refl _ | apply Drawn0.step)⟩
       ·rw [if_neg c15] at H
        have c15b0 : (a0 == 95) = false := beq_eq_false_iff_ne.mpr c15
        have c15b1 : (a0 != 95) = true := bne_iff_ne.mpr c15
        obtain rfl := Option.some.inj H
        go_enter Tryd.func74, Tryd.ntmps74
        go_wp2
        go_ret
        exact ⟨by first | rfl | (simp; done) | (simp [*]; done), by repeat (first | exact Drawn0.refl _ | apply Drawn0.step)⟩
    ·rw [if_neg c12] at H
     have c12b0 := decide_eq_false c12
     clear c12
     by_cases c16 : a0 = 46
     ·rw [if_pos c16] at H
      have c16b0 : (a0 == 46) = true := beq_iff_eq.mpr c16
      have c16b1 : (a0 != 46) = false := bne_eq_false_iff_eq.mpr c16
      clear c16
      obtain rfl := Option.some.inj H
      go_enter Tryd.func74, Tryd.ntmps74
      go_wp2
      go_ret
      exact ⟨by first | rfl | (simp; done) | (simp [*]; done), by repeat (first | exact Drawn0.refl _ | apply Drawn0.step)⟩
     ·rw [if_neg c16] at H
      have c16b0 : (a0 == 46) = false := beq_eq_false_iff_ne.mpr c16
      have c16b1 : (a0 != 46) = true := bne_iff_ne.mpr c16
      by_cases c17 : a0 = 95
      ·rw [if_pos c17] at H
       have c17b0 : (a0 == 95) = true := beq_iff_eq.mpr c17
       have c17b1 : (a0 != 95) = false := bne_eq_false_iff_eq.mpr c17
       clear c17
       obtain rfl := Option.some.inj H
       go_enter Tryd.func74, Tryd.ntmps74
       go_wp2
       go_ret
       exact ⟨by first | rfl | (simp; done) | (simp [*]; done), by repeat (first | exact Drawn0.refl _ | apply Drawn0.step)⟩
      ·rw [if_neg c17] at H
       have c17b0 : (a0 == 95) = false := beq_eq_false_iff_ne.mpr c17
       have c17b1 : (a0 != 95) = true := bne_iff_ne.mpr c17
       obtain rfl := Option.some.inj H
       go_enter Tryd.func74, Tryd.ntmps74
       go_wp2
       go_ret
       exact ⟨by first | rfl | (simp; done) | (simp [*]; done), by repeat (first | exact Drawn0.refl _ | apply Drawn0.step)⟩
 ·rw [if_neg c2] at H
  have c2b0 := decide_eq_false c2
  clear c2
  by_cases c18 : a0 ≥ 65
  ·rw [if_pos c18] at H
   have c18b0 := decide_eq_true c18
   clear c18
   by_cases c19 : a0 ≤ 90
   ·rw [if_pos c19] at H
    have c19b0 := decide_eq_true c19
    clear c19
    obtain rfl := Option.some.inj H
    go_enter Tryd.func74, Tryd.ntmps74
    go_wp2
    go_ret
    exact ⟨by first | rfl | (simp; done) | (simp [*]; done), by repeat (first | exact Drawn0.refl _ | apply Drawn0.step)⟩
   ·rw [if_neg c19] at H
    have c19b0 := decide_eq_false c19
    clear c19
    by_cases c20 : a0 ≥ 48
    ·rw [if_pos c20] at H
     have c20b0 := decide_eq_true c20
     clear c20
     by_cases c21 : a0 ≤ 57
     ·rw [if_pos c21] at H
      have c21b0 := decide_eq_true c21
      clear c21
      obtain rfl := Option.some.inj H
      go_enter Tryd.func74, Tryd.ntmps74
      go_wp2
      go_ret
      exact ⟨by first | rfl | (simp; done) | (simp [*]; done), by repeat (first | exact Drawn0.refl _ | apply Drawn0.step)⟩
     ·rw [if_neg c21] at H
      have c21b0 := decide_eq_false c21
      clear c21
      by_cases c22 : a0 = 46
      ·rw [if_pos c22] at H
       have c22b0 : (a0 == 46) = true := beq_iff_eq.mpr c22
       have c22b1 : (a0 != 46) = false := bne_eq_false_iff_eq.mpr c22
       clear c22
       obtain rfl := Option.some.inj H
       go_enter Tryd.func74, Tryd.ntmps74
       go_wp2
       go_ret
       exact ⟨by first | rfl | (simp; done) | (simp [*]; done), by repeat (first | exact Drawn0.refl _ | apply Drawn0.step)⟩
      ·rw [if_neg c22] at H
       have c22b0 : (a0 == 46) = false := beq_eq_false_iff_ne.mpr c22
       have c22b1 : (a0 != 46) = true := bne_iff_ne.mpr c22
       by_cases c23 : a0 = 95
       ·rw [if_pos c23] at H
        have c23b0 : (a0 == 95) = true := beq_iff_eq.mpr c23
        have c23b1 : (a0 != 95) = false := bne_eq_false_iff_eq.mpr c23
        clear c23
        obtain rfl := Option.some.inj H
        go_enter Tryd.func74, Tryd.ntmps74
        go_wp2
        go_ret
        exact ⟨by first | rfl | (simp; done) | (simp [*]; done), by repeat (first | exact Drawn0.refl _ | apply Drawn0.step)⟩
       ·rw [if_neg c23] at H
        have c23b0 : (a0 == 95) = false := beq_eq_false_iff_ne.mpr c23
        have c23b1 : (a0 != 95) = true := bne_iff_ne.mpr c23
        obtain rfl := Option.some.inj H
        go_enter Tryd.func74, Tryd.ntmps74
        go_wp2
        go_ret
        exact ⟨by first | rfl | (simp; done) | (simp [*]; done), by repeat (first | exact Drawn0.refl _ | apply Drawn0.step)⟩
    ·rw [if_neg c20] at H
     have c20b0 := decide_eq_false c20
     clear c20
     by_cases c24 : a0 = 46
     ·rw [if_pos c24] at H
      have c24b0 : (a0 == 46) = true := beq_iff_eq.mpr c24
      have c24b1 : (a0 != 46) = false := bne_eq_false_iff_eq.mpr c24
      clear c24
      obtain rfl := Option.some.inj H
      go_enter Tryd.func74, Tryd.ntmps74
      go_wp2
      go_ret
      exact ⟨by first | rfl | (simp; done) | (simp [*]; done), by repeat (first | exact Drawn0.refl _ | apply Drawn0.step)⟩
     ·rw [if_neg c24] at H
      have c24b0 : (a0 == 46) = false := beq_eq_false_iff_ne.mpr c24
      have c24b1 : (a0 != 46) = true := bne_iff_ne.mpr c24
      by_cases c25 : a0 = 95
      ·rw [if_pos c25] at H
       have c25b0 : (a0 == 95) = true := beq_iff_eq.mpr c25
       have c25b1 : (a0 != 95) = false := bne_eq_false_iff_eq.mpr c25
       clear c25
       obtain rfl := Option.some.inj H
       go_enter Tryd.func74, Tryd.ntmps74
       go_wp2
       go_ret
       exact ⟨by first | rfl | (simp; done) | (simp [*]; done), by repeat (first | exact Drawn0.refl _ | apply Drawn0.step)⟩
      ·rw [if_neg c25] at H
       have c25b0 : (a0 == 95) = false := beq_eq_false_iff_ne.mpr c25
       have c25b1 : (a0 != 95) = true := bne_iff_ne.mpr c25
       obtain rfl := Option.some.inj H
       go_enter Tryd.func74, Tryd.ntmps74
       go_wp2
       go_ret
       exact ⟨by first | rfl | (simp; done) | (simp [*]; done), by repeat (first | exact Drawn0.refl _ | apply Drawn0.step)⟩
  ·rw [if_neg c18] at H
   have c18b0 := decide_eq_false c18
   clear c18
   by_cases c26 : a0 ≥ 48
   ·rw [if_pos c26] at H
    have c26b0 := decide_eq_true c26
    clear c26
    by_cases c27 : a0 ≤ 57
    ·rw [if_pos c27] at H
     have c27b0 := decide_eq_true c27
     clear c27
     obtain rfl := Option.some.inj H
     go_enter Tryd.func74, Tryd.ntmps74
     go_wp2
     go_ret
     exact ⟨by first | rfl | (simp; done) | (simp [*]; done), by repeat (first | exact Drawn0.refl _ | apply Drawn0.step)⟩
    ·rw [if_neg c27] at H
     have c27b0 := decide_eq_false c27
     clear c27
     by_cases c28 : a0 = 46
     ·rw [if_pos c28] at H
      have c28b0 : (a0 == 46) = true := beq_iff_eq.mpr c28
      have c28b1 : (a0 != 46) = false := bne_eq_false_iff_eq.mpr c28
      clear c28
      obtain rfl := Option.some.inj H
      go_enter Tryd.func74, Tryd.ntmps74
      go_wp2
      go_ret
      exact ⟨by first | rfl | (simp; done) | (simp [*]; done), by repeat (first | exact Drawn0.refl _ | apply Drawn0.step)⟩
     ·rw [if_neg c28] at H
      have c28b0 : (a0 == 46) = false := beq_eq_false_iff_ne.mpr c28
      have c28b1 : (a0 != 46) = true := bne_iff_ne.mpr c28
      by_cases c29 : a0 = 95
      ·rw [if_pos c29] at H
       have c29b0 : (a0 == 95) = true := beq_iff_eq.mpr c29
       have c29b1 : (a0 != 95) = false := bne_eq_false_iff_eq.mpr c29
       clear c29
       obtain rfl := Option.some.inj H
       go_enter Tryd.func74, Tryd.ntmps74
       go_wp2
       go_ret
       exact ⟨by first | rfl | (simp; done) | (simp [*]; done), by repeat (first | exact Drawn0.refl _ | apply Drawn0.step)⟩
      ·rw [if_neg c29] at H
       have c29b0 : (a0 == 95) = false := beq_eq_false_iff_ne.mpr c29
       have c29b1 : (a0 != 95) = true := bne_iff_ne.mpr c29
       obtain rfl := Option.some.inj H
       go_enter Tryd.func74, Tryd.ntmps74
       go_wp2
       go_ret
       exact ⟨by first | rfl | (simp; done) | (simp [*]; done), by repeat (first | exact Drawn0.refl _ | apply Drawn0.step)⟩
   ·rw [if_neg c26] at H
    have c26b0 := decide_eq_false c26
    clear c26
    by_cases c30 : a0 = 46
    ·rw [if_pos c30] at H
     have c30b0 : (a0 == 46) = true := beq_iff_eq.mpr c30
     have c30b1 : (a0 != 46) = false := bne_eq_false_iff_eq.mpr c30
     clear c30
     obtain rfl := Option.some.inj H
     go_enter Tryd.func74, Tryd.ntmps74
     go_wp2
     go_ret
     exact ⟨by first | rfl | (simp; done) | (simp [*]; done), by repeat (first | exact Drawn0.refl _ | apply Drawn0.step)⟩
    ·rw [if_neg c30] at H
     have c30b0 : (a0 == 46) = false := beq_eq_false_iff_ne.mpr c30
     have c30b1 : (a0 != 46) = true := bne_iff_ne.mpr c30
     by_cases c31 : a0 = 95
     ·rw [if_pos c31] at H
      have c31b0 : (a0 == 95) = true := beq_iff_eq.mpr c31
      have c31b1 : (a0 != 95) = false := bne_eq_false_iff_eq.mpr c31
      clear c31
      obtain rfl := Option.some.inj H
      go_enter Tryd.func74, Tryd.ntmps74
      go_wp2
      go_ret
      exact ⟨by first | rfl | (simp; done) | (simp [*]; done), by repeat (first | exact Drawn0.refl _ | apply Drawn0.step)⟩
     ·rw [if_neg c31] at H
      have c31b0 : (a0 == 95) = false := beq_eq_false_iff_ne.mpr c31
      have c31b1 : (a0 != 95) = true := bne_iff_ne.mpr c31
      obtain rfl := Option.some.inj H
      go_enter Tryd.func74, Tryd.ntmps74
      go_wp2
      go_ret
      exact ⟨by first | rfl | (simp; done) | (simp [*]; done), by repeat (first | exact Drawn0.refl _ | apply Drawn0.step)⟩
mutual
def copseref02_Component.j0 : Nat → ByteArray → Bool → Option (Bool)
 | 0, _, _ => none
 | k + 1, x0, x23 => if x23 = true then (some false) else (copseref02_Component.l0 k x0 0)
def copseref02_Component.l0 : Nat → ByteArray → Int → Option (Bool)
 | 0, _, _ => none
 | k + 1, x0, x3 => if x3 < (x0.size : Int) then (if 0 ≤ x3 then ((copseref02_Byte.f (bt x0 x3)).bind fun t107 => (if t107 = true then (copseref02_Component.l0 k x0 (wrap64 (x3 + 1))) else (some false))) else (none)) else (some true)
end
def copseref02_Component.f (k : Nat) (a0 : ByteArray) : Option (Bool) := if (a0.size : Int) < 1 then (copseref02_Component.j0 k a0 true) else (if (a0.size : Int) > 32 then (copseref02_Component.j0 k a0 true) else (if a0.toList = ([46] : List UInt8) then (copseref02_Component.j0 k a0 true) else (if a0.toList = ([46, 46] : List UInt8) then (copseref02_Component.j0 k a0 true) else (copseref02_Component.j0 k a0 (a0.toList == ([46, 46, 46] : List UInt8))))))
set_option maxHeartbeats 8000000 in
set_option maxRecDepth 100000 in
theorem copseref02_Component.calls (k : Nat) (a0 : ByteArray) (r : Bool) (w : World) (h : copseref02_Component.f k a0 = some r) :
  Calls Tryd.prog 43 #[.string a0] w fun e w' => e = .returned (.bool r) ∧ Drawn0 w w' := by
 have H : (if (a0.size : Int) < 1 then (copseref02_Component.j0 k a0 true) else (if (a0.size : Int) > 32 then (copseref02_Component.j0 k a0 true) else (if a0.toList = ([46] : List UInt8) then (copseref02_Component.j0 k a0 true) else (if a0.toList = ([46, 46] : List UInt8) then (copseref02_Component.j0 k a0 true) else (copseref02_Component.j0 k a0 (a0.toList == ([46, 46, 46] : List UInt8))))))) = some r := h
 clear h
 have HC2 := Aside0.mk H
 clear H
 go_enter Tryd.func43, Tryd.ntmps43
 go_upto_region 1 with (fail)
 go_cut [23] (fun v23 wc => ∃ (kq : Nat) (x23_1 : Bool), v23 = .bool x23_1 ∧ Aside0 (copseref02_Component.j0 kq a0 x23_1 = some r) ∧ Aside0 (kq ≤ k) ∧ Drawn0 w wc)
 case first =>
  have H := HC2.out
  clear HC2
  by_cases c3 : (a0.size : Int) < 1
  ·rw [if_pos c3] at H
   have c3b0 := decide_eq_true c3
   have c3b1 : decide (a0.size < 1) = true := decide_eq_true (by omega)
   clear c3
   (first | rw [c3b0] | (simp only [i64_w, i32_w]; rw [c3b0]) | skip)
   have H' := Aside0.mk H
   clear H
   go_wp2
   go_meet
   case rel => exact ⟨_, (true), (by first | rfl | (simp; done) | (simp [*]; done)), H', ⟨by first | omega | exact Nat.le_refl _⟩, by repeat (first | exact Drawn0.refl _ | apply Drawn0.step)⟩
  ·rw [if_neg c3] at H
   have c3b0 := decide_eq_false c3
   have c3b1 : decide (a0.size < 1) = false := decide_eq_false (by omega)
   clear c3
   (first | rw [c3b0] | (simp only [i64_w, i32_w]; rw [c3b0]) | skip)
   by_cases c4 : (a0.size : Int) > 32
   ·rw [if_pos c4] at H
    have c4b0 := decide_eq_true c4
    have c4b1 : decide (32 < a0.size) = true := decide_eq_true (by omega)
    clear c4
    have H' := Aside0.mk H
    clear H
    go_wp2
    go_meet
    case rel => exact ⟨_, (true), (by first | rfl | (simp; done) | (simp [*]; done)), H', ⟨by first | omega | exact Nat.le_refl _⟩, by repeat (first | exact Drawn0.refl _ | apply Drawn0.step)⟩
   ·rw [if_neg c4] at H
    have c4b0 := decide_eq_false c4
    have c4b1 : decide (32 < a0.size) = false := decide_eq_false (by omega)
    clear c4
    by_cases c5 : a0.toList = ([46] : List UInt8)
    ·rw [if_pos c5] at H
     have c5b0 : (a0.toList == ([46] : List UInt8)) = true := beq_iff_eq.mpr c5
     have c5b1 : (a0.toList != ([46] : List UInt8)) = false := bne_eq_false_iff_eq.mpr c5
     clear c5
     have H' := Aside0.mk H
     clear H
     go_wp2
     go_meet
     case rel => exact ⟨_, (true), (by first | rfl | (simp; done) | (simp [*]; done)), H', ⟨by first | omega | exact Nat.le_refl _⟩, by repeat (first | exact Drawn0.refl _ | apply Drawn0.step)⟩
    ·rw [if_neg c5] at H
     have c5b0 : (a0.toList == ([46] : List UInt8)) = false := beq_eq_false_iff_ne.mpr c5
     have c5b1 : (a0.toList != ([46] : List UInt8)) = true := bne_iff_ne.mpr c5
     by_cases c6 : a0.toList = ([46, 46] : List UInt8)
     ·rw [if_pos c6] at H
      have c6b0 : (a0.toList == ([46, 46] : List UInt8)) = true := beq_iff_eq.mpr c6
      have c6b1 : (a0.toList != ([46, 46] : List UInt8)) = false := bne_eq_false_iff_eq.mpr c6
      clear c6
      have H' := Aside0.mk H
      clear H
      go_wp2
      go_meet
      case rel => exact ⟨_, (true), (by first | rfl | (simp; done) | (simp [*]; done)), H', ⟨by first | omega | exact Nat.le_refl _⟩, by repeat (first | exact Drawn0.refl _ | apply Drawn0.step)⟩
     ·rw [if_neg c6] at H
      have c6b0 : (a0.toList == ([46, 46] : List UInt8)) = false := beq_eq_false_iff_ne.mpr c6
      have c6b1 : (a0.toList != ([46, 46] : List UInt8)) = true := bne_iff_ne.mpr c6
      have H' := Aside0.mk H
      clear H
      go_wp2
      go_meet
      case rel => exact ⟨_, ((a0.toList == ([46, 46, 46] : List UInt8))), (by first | rfl | (simp; done) | (simp [*]; done)), H', ⟨by first | omega | exact Nat.le_refl _⟩, by repeat (first | exact Drawn0.refl _ | apply Drawn0.step)⟩
 case rest =>
  clear HC2
  try clear p2
  try clear c3
  try clear c3b0
  try clear c3b1
  try clear c4
  try clear c4b0
  try clear c4b1
  try clear c5
  try clear c5b0
  try clear c5b1
  try clear c6
  try clear c6b0
  try clear c6b1
  obtain ⟨kq, x23_1, rfl, HA, HJ1, ⟨mc1, rfl⟩⟩ := hcut
  cases kq with
  | zero => exact absurd HA.out (by simp [copseref02_Component.j0])
  | succ kj1 =>
   have H := HA.out
   clear HA
   simp only [copseref02_Component.j0] at H
   by_cases c7 : x23_1 = true
   ·subst c7
    rw [if_pos rfl] at H
    have H1 := H
    clear H
    have H := H1
    clear H1
    obtain rfl := Option.some.inj H
    go_wp2
    go_ret
    exact ⟨by first | rfl | (simp; done) | (simp [*]; done), by repeat (first | exact Drawn0.refl _ | apply Drawn0.step)⟩
   ·replace c7 := Bool.eq_false_iff.mpr c7
    subst c7
    have H1 : (copseref02_Component.l0 kj1 a0 0) = some r := by rw [if_neg (show ¬ (false = true) by decide)] at H; exact H
    clear H
    have H := H1
    clear H1
    have H' := Aside0.mk H
    clear H
    go_wp2
    go_loopg [3] kj1 (fun kq v3 w' => ∃ (x3_2 : Int), v3 = .int .i64 x3_2 ∧ Aside0 (copseref02_Component.l0 kq a0 x3_2 = some r) ∧ Aside0 (kq ≤ kj1) ∧ Drawn0 w w')
    case atStart => exact ⟨(0), (by first | rfl | (simp; done) | (simp [*]; done)), H', ⟨Nat.le_refl _⟩, by repeat (first | exact Drawn0.refl _ | apply Drawn0.step)⟩
    case round =>
     clear H'
     try clear c1
     try clear p2
     try clear c3
     try clear c3b0
     try clear c3b1
     try clear c4
     try clear c4b0
     try clear c4b1
     try clear c5
     try clear c5b0
     try clear c5b1
     try clear c6
     try clear c6b0
     try clear c6b1
     try clear c7
     try clear p2
     obtain ⟨x3_2, rfl, HA, HK2, ⟨m2, rfl⟩⟩ := hrel
     cases gk with
     | zero => exact absurd HA.out (by simp [copseref02_Component.l0])
     | succ k2 =>
      have H := HA.out
      clear HA
      simp only [copseref02_Component.l0] at H
      by_cases c8 : x3_2 < (a0.size : Int)
      ·rw [if_pos c8] at H
       have c8b0 := decide_eq_true c8
       clear c8
       by_cases c9 : 0 ≤ x3_2
       ·rw [if_pos c9] at H
        have c9b0 := decide_eq_true c9
        clear c9
        replace H := Option.bind_eq_some_iff.mp H
        obtain ⟨t107, A110, H⟩ := H
        try dsimp only at H
        have A11 := Aside0.mk A110
        clear A110
        by_cases c12 : t107 = true
        ·subst c12
         rw [if_pos rfl] at H
         have H1 := H
         clear H
         have H := H1
         clear H1
         have H' := Aside0.mk H
         clear H
         have p10 : 0 ≤ (x3_2 : Int) := of_decide_eq_true (by first | (with_reducible assumption) | assumption)
         have q10 : x3_2 < (a0.size : Int) := of_decide_eq_true (by first | (with_reducible assumption) | assumption)
         have hx10 := bt_at a0 x3_2
         replace p10 := eq_true p10
         replace q10 := eq_true q10
         go_wp2_with (first | ((with_reducible refine gate_callee (f := 74) rfl ?_); refine goesL_ (some 33) rfl rfl Tryd.func74 (by kernel_rfl) rfl #[.int .u8 (bt a0 x3_2)] rfl (by (try simp only [List.map_toArray, List.map_cons, List.map_nil]); first | done | rfl | (simp only [List.length_drop, List.length_take]; rfl)) ?_; (with_reducible refine (copseref02_Byte.calls (bt a0 x3_2) true _ A11.out).mono ?_); rintro e w' ⟨rfl, ⟨nd, rfl⟩⟩; refine ⟨_, rfl, ?_⟩))
         go_roundg k2
         case measure => have := HJ1.out; have := HK2.out; omega
         case rel => exact ⟨(wrap64 (x3_2 + 1)), (by first | rfl | (simp; done) | (simp [*]; done)), H', ⟨by have := HJ1.out; have := HK2.out; omega⟩, by repeat (first | exact Drawn0.refl _ | apply Drawn0.step)⟩
        ·replace c12 := Bool.eq_false_iff.mpr c12
         subst c12
         have H1 : (some false) = some r := by rw [if_neg (show ¬ (false = true) by decide)] at H; exact H
         clear H
         have H := H1
         clear H1
         obtain rfl := Option.some.inj H
         have p10 : 0 ≤ (x3_2 : Int) := of_decide_eq_true (by first | (with_reducible assumption) | assumption)
         have q10 : x3_2 < (a0.size : Int) := of_decide_eq_true (by first | (with_reducible assumption) | assumption)
         have hx10 := bt_at a0 x3_2
         replace p10 := eq_true p10
         replace q10 := eq_true q10
         go_wp2_with (first | ((with_reducible refine gate_callee (f := 74) rfl ?_); refine goesL_ (some 33) rfl rfl Tryd.func74 (by kernel_rfl) rfl #[.int .u8 (bt a0 x3_2)] rfl (by (try simp only [List.map_toArray, List.map_cons, List.map_nil]); first | done | rfl | (simp only [List.length_drop, List.length_take]; rfl)) ?_; (with_reducible refine (copseref02_Byte.calls (bt a0 x3_2) false _ A11.out).mono ?_); rintro e w' ⟨rfl, ⟨nd, rfl⟩⟩; refine ⟨_, rfl, ?_⟩))
         go_ret
         exact ⟨by first | rfl | (simp; done) | (simp [*]; done), by repeat (first | exact Drawn0.refl _ | apply Drawn0.step)⟩
       ·rw [if_neg c9] at H
        exact absurd H (by simp)
      ·rw [if_neg c8] at H
       have c8b0 := decide_eq_false c8
       clear c8
       obtain rfl := Option.some.inj H
       go_wp2
       go_ret
       exact ⟨by first | rfl | (simp; done) | (simp [*]; done), by repeat (first | exact Drawn0.refl _ | apply Drawn0.step)⟩
mutual
def copseref02_Valid.j0 : Nat → List ByteArray → Bool → Option (Bool)
 | 0, _, _ => none
 | k + 1, x3, x14 => if x14 = true then (some false) else (copseref02_Valid.l0 k x3 0)
def copseref02_Valid.l0 : Nat → List ByteArray → Int → Option (Bool)
 | 0, _, _ => none
 | k + 1, x3, x4 => if x4 < (x3.length : Int) then (if 0 ≤ x4 then ((copseref02_Component.f k (rdOf ByteArray.empty x3 x4)).bind fun t112 => (if t112 = true then (copseref02_Valid.l0 k x3 (wrap64 (x4 + 1))) else (some false))) else (none)) else (some true)
end
def copseref02_Valid.f (k : Nat) (a0 : ByteArray) : Option (Bool) := (copseref02_Split.f k a0).bind fun t108 => (if (a0.size : Int) > 120 then (copseref02_Valid.j0 k t108 true) else (copseref02_Valid.j0 k t108 (decide ((t108.length : Int) > 12))))
set_option maxHeartbeats 8000000 in
set_option maxRecDepth 100000 in
theorem copseref02_Valid.calls (k : Nat) (a0 : ByteArray) (r : Bool) (w : World) (h : copseref02_Valid.f k a0 = some r) :
  Calls Tryd.prog 17 #[.string a0] w fun e w' => e = .returned (.bool r) ∧ Below w.heap.size w w' := by
 have HB := Aside0.mk (Below.refl w.heap.size w)
 have H : ((copseref02_Split.f k a0).bind fun t108 => (if (a0.size : Int) > 120 then (copseref02_Valid.j0 k t108 true) else (copseref02_Valid.j0 k t108 (decide ((t108.length : Int) > 12))))) = some r := h
 clear h
 replace H := Option.bind_eq_some_iff.mp H
 obtain ⟨t108, A20, H⟩ := H
 try dsimp only at H
 have A2 := Aside0.mk A20
 clear A20
 have HC3 := Aside0.mk H
 clear H
 go_enter Tryd.func17, Tryd.ntmps17
 go_upto_region 2 with (first | ((with_reducible refine gate_callee (f := 42) rfl ?_); refine goesL_ (some 6) rfl rfl Tryd.func42 (by kernel_rfl) rfl #[.string a0] rfl (by (try simp only [List.map_toArray, List.map_cons, List.map_nil]); first | done | rfl | (simp only [List.length_drop, List.length_take]; rfl)) ?_; (with_reducible refine (copseref02_Split.calls k a0 t108 _ A2.out).mono ?_); rintro e w4 ⟨v109, rfl, ho0, hb⟩; refine ⟨_, rfl, ?_⟩; have n0_ := Aside0.mk (Kd.R_lower ho0 (below_size (by repeat (first | (with_reducible first | exact HB.out | apply below_alloc | apply pw_below_drewN | apply below_drew1) | exact HB.out)))); have n1_ := Aside0.mk (below_step (by repeat (first | (with_reducible first | exact HB.out | apply below_alloc | apply pw_below_drewN | apply below_drew1) | exact HB.out)) hb); clear HB; have HO110 := n0_; have HB := n1_; clear n0_ n1_; (try clear hb); (try clear hb2); (try clear hk); (try clear hi); (try clear ho0)))
 (try simp only [Act.put, List.setIfInBounds_toArray, List.set_cons_zero, List.set_cons_succ])
 go_cut [14] (fun v14 wc => ∃ (kq : Nat) (x14_2 : Bool), v14 = .bool x14_2 ∧ Aside0 (copseref02_Valid.j0 kq t108 x14_2 = some r) ∧ Aside0 (kq ≤ k) ∧ Aside0 (Kd.R Kd.string 9 wc w.heap.size (fun _ => True) v109 t108) ∧ Aside0 (Below w.heap.size w wc))
 case first =>
  have H := HC3.out
  clear HC3
  by_cases c5 : (a0.size : Int) > 120
  ·rw [if_pos c5] at H
   have c5b0 := decide_eq_true c5
   have c5b1 : decide (120 < a0.size) = true := decide_eq_true (by omega)
   clear c5
   (first | rw [c5b0] | (simp only [i64_w, i32_w]; rw [c5b0]) | skip)
   have H' := Aside0.mk H
   clear H
   go_wp2
   go_meet
   case rel => exact ⟨_, (true), (by first | rfl | (simp; done) | (simp [*]; done)), H', ⟨by first | omega | exact Nat.le_refl _⟩, ⟨by (with_reducible repeat (first | apply Kd.R_alloc | apply Kd.R_drewN | apply Kd.R_drew)); exact HO110.out⟩, ⟨by repeat (first | (with_reducible first | exact HB.out | apply below_alloc | apply pw_below_drewN | apply below_drew1) | exact HB.out)⟩⟩
  ·rw [if_neg c5] at H
   have c5b0 := decide_eq_false c5
   have c5b1 : decide (120 < a0.size) = false := decide_eq_false (by omega)
   clear c5
   (first | rw [c5b0] | (simp only [i64_w, i32_w]; rw [c5b0]) | skip)
   have H' := Aside0.mk H
   clear H
   obtain ⟨Ao6, co6, eo6⟩ := Kd.R_slice HO110.out
   subst eo6
   go_wp2
   go_meet
   case rel => exact ⟨_, (decide ((t108.length : Int) > 12)), (by first | rfl | (simp; done) | (simp [*]; done)), H', ⟨by first | omega | exact Nat.le_refl _⟩, ⟨by (with_reducible repeat (first | apply Kd.R_alloc | apply Kd.R_drewN | apply Kd.R_drew)); exact HO110.out⟩, ⟨by repeat (first | (with_reducible first | exact HB.out | apply below_alloc | apply pw_below_drewN | apply below_drew1) | exact HB.out)⟩⟩
 case rest =>
  clear HC3
  try clear c1
  try clear p2
  try clear c4
  try clear c5
  try clear c5b0
  try clear c5b1
  obtain ⟨kq, x14_2, rfl, HA, HJ2, HO_3, HB⟩ := hcut
  cases kq with
  | zero => exact absurd HA.out (by simp [copseref02_Valid.j0])
  | succ kj2 =>
   have H := HA.out
   clear HA
   simp only [copseref02_Valid.j0] at H
   by_cases c7 : x14_2 = true
   ·subst c7
    rw [if_pos rfl] at H
    have H1 := H
    clear H
    have H := H1
    clear H1
    obtain rfl := Option.some.inj H
    go_wp2
    go_ret
    exact ⟨by first | rfl | (simp [errW_none, errW_some] <;> rfl) | (simp [*, errW_none, errW_some] <;> rfl), by repeat (first | (with_reducible first | exact HB.out | apply below_alloc | apply pw_below_drewN | apply below_drew1) | exact HB.out)⟩
   ·replace c7 := Bool.eq_false_iff.mpr c7
    subst c7
    have H1 : (copseref02_Valid.l0 kj2 t108 0) = some r := by rw [if_neg (show ¬ (false = true) by decide)] at H; exact H
    clear H
    have H := H1
    clear H1
    have H' := Aside0.mk H
    clear H
    go_wp2
    go_loopg [4] kj2 (fun kq v4 w' => ∃ (x4_2 : Int), v4 = .int .i64 x4_2 ∧ Aside0 (copseref02_Valid.l0 kq t108 x4_2 = some r) ∧ Aside0 (kq ≤ kj2) ∧ Aside0 (Kd.R Kd.string 9 w' w.heap.size (fun _ => True) v109 t108) ∧ Aside0 (Below w.heap.size w w'))
    case atStart => exact ⟨(0), (by first | rfl | (simp; done) | (simp [*]; done)), H', ⟨Nat.le_refl _⟩, ⟨by (with_reducible repeat (first | apply Kd.R_alloc | apply Kd.R_drewN | apply Kd.R_drew)); exact HO_3.out⟩, ⟨by repeat (first | (with_reducible first | exact HB.out | apply below_alloc | apply pw_below_drewN | apply below_drew1) | exact HB.out)⟩⟩
    case round =>
     clear H'
     try clear c1
     try clear p2
     try clear c4
     try clear c5
     try clear c5b0
     try clear c5b1
     try clear c7
     try clear p2
     obtain ⟨x4_2, rfl, HA, HK2, HO_3, HB⟩ := hrel
     cases gk with
     | zero => exact absurd HA.out (by simp [copseref02_Valid.l0])
     | succ k2 =>
      have H := HA.out
      clear HA
      simp only [copseref02_Valid.l0] at H
      by_cases c8 : x4_2 < (t108.length : Int)
      ·rw [if_pos c8] at H
       have c8b0 := decide_eq_true c8
       clear c8
       by_cases c9 : 0 ≤ x4_2
       ·rw [if_pos c9] at H
        have c9b0 := decide_eq_true c9
        clear c9
        replace H := Option.bind_eq_some_iff.mp H
        obtain ⟨t112, A100, H⟩ := H
        try dsimp only at H
        have A10 := Aside0.mk A100
        clear A100
        by_cases c11 : t112 = true
        ·subst c11
         rw [if_pos rfl] at H
         have H1 := H
         clear H
         have H := H1
         clear H1
         have H' := Aside0.mk H
         clear H
         obtain ⟨Ao12, co12, eo12⟩ := Kd.R_slice HO_3.out
         subst eo12
         have p111 : 0 ≤ (x4_2 : Int) := of_decide_eq_true (by first | (with_reducible assumption) | assumption)
         have q111 : x4_2 < (t108.length : Int) := of_decide_eq_true (by first | (with_reducible assumption) | assumption)
         obtain ⟨ad111, e111, hx111_0⟩ := Kd.at_string (Kd.R_reads' HO_3.out).2.2 x4_2 p111 q111
         cases e111
         replace p111 := eq_true p111
         replace q111 := eq_true q111
         go_wp2_with (first | ((with_reducible refine gate_callee (f := 43) rfl ?_); refine goesL_ (some 25) rfl rfl Tryd.func43 (by kernel_rfl) rfl #[.string (rdOf ByteArray.empty t108 x4_2)] rfl (by (try simp only [List.map_toArray, List.map_cons, List.map_nil]); first | done | rfl | (simp only [List.length_drop, List.length_take]; rfl)) ?_; (with_reducible refine (copseref02_Component.calls k2 (rdOf ByteArray.empty t108 x4_2) true _ A10.out).mono ?_); rintro e w' ⟨rfl, ⟨nd, rfl⟩⟩; refine ⟨_, rfl, ?_⟩))
         go_roundg k2
         case measure => have := HJ2.out; have := HK2.out; omega
         case rel => exact ⟨(wrap64 (x4_2 + 1)), (by first | rfl | (simp; done) | (simp [*]; done)), H', ⟨by have := HJ2.out; have := HK2.out; omega⟩, ⟨by (with_reducible repeat (first | apply Kd.R_alloc | apply Kd.R_drewN | apply Kd.R_drew)); exact HO_3.out⟩, ⟨by repeat (first | (with_reducible first | exact HB.out | apply below_alloc | apply pw_below_drewN | apply below_drew1) | exact HB.out)⟩⟩
        ·replace c11 := Bool.eq_false_iff.mpr c11
         subst c11
         have H1 : (some false) = some r := by rw [if_neg (show ¬ (false = true) by decide)] at H; exact H
         clear H
         have H := H1
         clear H1
         obtain rfl := Option.some.inj H
         obtain ⟨Ao13, co13, eo13⟩ := Kd.R_slice HO_3.out
         subst eo13
         have p111 : 0 ≤ (x4_2 : Int) := of_decide_eq_true (by first | (with_reducible assumption) | assumption)
         have q111 : x4_2 < (t108.length : Int) := of_decide_eq_true (by first | (with_reducible assumption) | assumption)
         obtain ⟨ad111, e111, hx111_0⟩ := Kd.at_string (Kd.R_reads' HO_3.out).2.2 x4_2 p111 q111
         cases e111
         replace p111 := eq_true p111
         replace q111 := eq_true q111
         go_wp2_with (first | ((with_reducible refine gate_callee (f := 43) rfl ?_); refine goesL_ (some 25) rfl rfl Tryd.func43 (by kernel_rfl) rfl #[.string (rdOf ByteArray.empty t108 x4_2)] rfl (by (try simp only [List.map_toArray, List.map_cons, List.map_nil]); first | done | rfl | (simp only [List.length_drop, List.length_take]; rfl)) ?_; (with_reducible refine (copseref02_Component.calls k2 (rdOf ByteArray.empty t108 x4_2) false _ A10.out).mono ?_); rintro e w' ⟨rfl, ⟨nd, rfl⟩⟩; refine ⟨_, rfl, ?_⟩))
         go_ret
         exact ⟨by first | rfl | (simp [errW_none, errW_some] <;> rfl) | (simp [*, errW_none, errW_some] <;> rfl), by repeat (first | (with_reducible first | exact HB.out | apply below_alloc | apply pw_below_drewN | apply below_drew1) | exact HB.out)⟩
       ·rw [if_neg c9] at H
        exact absurd H (by simp)
      ·rw [if_neg c8] at H
       have c8b0 := decide_eq_false c8
       clear c8
       obtain rfl := Option.some.inj H
       obtain ⟨Ao14, co14, eo14⟩ := Kd.R_slice HO_3.out
       subst eo14
       go_wp2
       go_ret
       exact ⟨by first | rfl | (simp [errW_none, errW_some] <;> rfl) | (simp [*, errW_none, errW_some] <;> rfl), by repeat (first | (with_reducible first | exact HB.out | apply below_alloc | apply pw_below_drewN | apply below_drew1) | exact HB.out)⟩
end Go.Proofs.YtehfogjibhnabaaDoor.PAll
