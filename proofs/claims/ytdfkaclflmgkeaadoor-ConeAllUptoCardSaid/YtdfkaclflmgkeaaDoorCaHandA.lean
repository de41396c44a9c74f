/- path.Split, path.Depth: what they answer; their walks. -/
import Derived.Test.YtdfkaclflmgkeaaDoorCaPAllx0
import Derived.Test.YtdfkaclflmgkeaaDoorCaRowKit
import Derived.Test.YtdfkaclflmgkeaaDoorCaShelf
namespace Go.Proofs.YtdfkaclflmgkeaaDoor.PAll
open Go.RowKit Go.Shelf Go.Proofs.YtdfkaclflmgkeaaDoorW.PrintWords Go.Proofs.YtdfkaclflmgkeaaDoorW.PrintLast Go.Proofs.YtdfkaclflmgkeaaDoorW.PrintMore
open Go.Proofs.YtdfkaclflmgkeaaDoor.Sp
section
variable {P : Program} {ρ : Ren}
theorem split_one (L : Lays.n146 P ρ) (hi9 : (P.info? (ρ.t 9)).map (fun i => (i.zero, i.size, i.bytes)) = some (some (.string ByteArray.empty), 1, 16)) (s : ByteArray) (w : World) (hs : s.size < 4294967281) :
  Calls P (ρ.f 146) #[.string s, .string ⟨#[47]⟩] w fun e w' =>
   e = .returned (.slice (some ⟨w.heap.size, 0, none⟩) (Lib.countB s ⟨#[47]⟩ + 1) (Lib.countB s ⟨#[47]⟩ + 1)) ∧ w' = w.alloc (.cells ((Lib.splitB ⟨#[47]⟩ 0 (Lib.countB s ⟨#[47]⟩) s).map Value.string).toArray (ρ.t 9)) := by
 have h1 : 1 ≤ (⟨#[47]⟩ : ByteArray).size := by decide
 have hle := Lib.countB_le ⟨#[47]⟩ h1 s.size s (Nat.le_refl _)
 have hlen := Lib.splitB_all ⟨#[47]⟩ h1 0 _ s rfl
 have c := Any.strings_genSplit_core { L with } hi9 s ⟨#[47]⟩ 0 (-1) (Lib.countB s ⟨#[47]⟩ + 1) w hs h1 (Nat.zero_le _)
  (fun x c _ => (Any.strings_Index_one { L with } x 47 _).mono fun e w' ⟨he, hw⟩ => ⟨by rw [he]; show Ending.returned (Value.int .i64 (Lib.indexByte x.data.toList 47)) = Ending.returned (Value.int .i64 (Lib.index x.data.toList [47])); rw [Lib.index_one], hw⟩)
  ((Any.strings_Count_one { L with } s 47 w).mono fun e w' ⟨he, hw⟩ => ⟨by rw [he]; show _ = Ending.returned (Value.int .i64 ((Lib.count s.data.toList [47] : Nat) : Int)); rw [Lib.count_one]; rfl, hw⟩)
  (by decide) (by decide) (by rw [if_pos (by decide)]; omega)
 rw [Nat.add_sub_cancel, hlen] at c
 have e2 : Lib.cellsOf (Lib.splitB ⟨#[47]⟩ 0 (Lib.countB s ⟨#[47]⟩) s) (Lib.countB s ⟨#[47]⟩ + 1) = ((Lib.splitB ⟨#[47]⟩ 0 (Lib.countB s ⟨#[47]⟩) s).map Value.string).toArray := by rw [← hlen]; exact Lib.cellsOf_full _
 rw [e2] at c
 have t3 := L.t3; have t9 := L.t9; have t31 := L.t31
 have a3 := L.a3; have a9 := L.a9; have a31 := L.a31
 have z3 := L.z3; have v3 := L.v3; have z9 := L.z9; have v9 := L.v9; have z31 := L.z31; have v31 := L.v31
 have e221 : ∀ args w, (callFunc (ρ.f 221) args).run P w = .ok (.enter (ρ.f 221) args) w := enters_of L.f221 (by kernel_rfl) rfl
 go_enter L.f146, Body.n146_ntmps ρ
 go_wp2_with (go_at_fn (ρ.f 221); refine c.mono ?_; rintro e w' ⟨rfl, hw⟩; rw [hw])
 go_ret
 exact ⟨rfl, rfl⟩
end
def path_Split.f (_k : Nat) (a0 : ByteArray) : Option (List ByteArray) := if a0.size < 4294967281 then some (pB a0) else none
theorem path_Split.mono : ∀ a0 k, LeO (path_Split.f k a0) (path_Split.f (k + 1) a0) := fun _ _ => LeO.refl _
theorem info9s : (Tryd.prog.info? 9).map (fun i => (i.zero, i.size, i.bytes)) = some (some (.string ByteArray.empty), 1, 16) := by kernel_rfl
theorem split_nil (a0 : ByteArray) (w : World) (h : bs a0 = []) :
  Calls Tryd.prog 54 #[.string a0] w fun e w' => e = .returned (.slice none 0 0) ∧ w = w' := by
 have h1 : a0.toList = [] := by rw [toList_bs]; exact h
 have h2 : a0.toList.isEmpty = true := by rw [h1]; rfl
 clear h
 go_enter Tryd.func54, Tryd.ntmps54
 go_wp2
 go_ret
 exact ⟨rfl, rfl⟩
theorem split_some (a0 : ByteArray) (w : World) (h : bs a0 ≠ []) (hs : a0.size < 4294967281) :
  Calls Tryd.prog 54 #[.string a0] w fun e w' => e = .returned (.slice (some ⟨w.heap.size, 0, none⟩) (pB a0).length (pB a0).length) ∧ w.alloc (.cells ((pB a0).map Value.string).toArray 9) = w' := by
 have c := split_one Tryd.lays146 info9s a0 w hs
 have e1 : Lib.splitB ⟨#[47]⟩ 0 (Lib.countB a0 ⟨#[47]⟩) a0 = pB a0 := by rw [splitB_spl]; unfold pB; rw [pcs_of h]
 have e2 : Lib.countB a0 ⟨#[47]⟩ + 1 = (pB a0).length := by rw [← e1]; exact (Lib.splitB_all ⟨#[47]⟩ (by decide) 0 _ a0 rfl).symm
 rw [e1, e2] at c
 have h2 : a0.toList.isEmpty = false := by
  rw [toList_bs]
  cases hb : bs a0 with
  | nil => exact absurd hb h
  | cons _ _ => rfl
 clear h e1 e2 hs
 go_enter Tryd.func54, Tryd.ntmps54
 go_wp2_with (go_at_call 77; refine c.mono ?_; rintro e w' ⟨rfl, rfl⟩)
 go_ret
 exact ⟨rfl, rfl⟩
theorem reps_strs {M : ByteArray → List Value → Prop} (hM : ∀ x, M x [.string x]) : ∀ xs : List ByteArray, Reps M 1 xs (xs.map Value.string)
 | [] => Reps.none _ _
 | x :: xs => Reps.one (hM x) (reps_strs hM xs)
theorem R_strs (W : World) (base : Nat) (e : Nat) (xs : List ByteArray) (ok : Nat → Prop) (hb : base ≤ W.heap.size) (hm : xs.length ≤ 9223372036854775807) (hok : ok W.heap.size) :
  Kd.R Kd.string e (W.alloc (.cells (xs.map Value.string).toArray e)) base ok (.slice (some ⟨W.heap.size, 0, none⟩) xs.length xs.length) xs := by
 refine ⟨fun k hk => ?_, OwnRow.lit W base (reps_strs (M := Kd.string.M (W.alloc (.cells (xs.map Value.string).toArray e)) base (fun k => ok k ∧ some k ≠ (Value.slice (some ⟨W.heap.size, 0, none⟩) xs.length xs.length).ownBlock)) (fun _ => rfl) xs) hb hm⟩
 have : W.heap.size = k := by simpa [Value.ownBlock] using hk
 subst this
 exact hok
theorem pB_length_le (a : ByteArray) : (pB a).length ≤ a.size + 1 := by
 unfold pB
 rw [List.length_map]
 unfold pcs
 split
 ·simp
 ·rename_i h
  have := congrArg List.length (splitB_spl a)
  rw [List.length_map, Lib.splitB_all ⟨#[47]⟩ (by decide) 0 _ a rfl] at this
  have := Lib.countB_le ⟨#[47]⟩ (by decide) a.size a (Nat.le_refl _)
  omega
theorem path_Split.calls (k : Nat) (a0 : ByteArray) (r : List ByteArray) (w : World) (h : path_Split.f k a0 = some r) :
  Calls Tryd.prog 54 #[.string a0] w fun e w' => ∃ v0_ : Value, e = .returned (v0_) ∧ Kd.R Kd.string 9 w' w.heap.size (fun _ => True) v0_ r ∧ Below w.heap.size w w' := by
 unfold path_Split.f at h
 split at h
 ·rename_i hs
  obtain rfl := Option.some.inj h
  by_cases hb : bs a0 = []
  ·rw [pB_nil hb]
   exact (split_nil a0 w hb).mono fun e w' ⟨he, hw⟩ => by subst hw; exact ⟨_, he, Kd.R_nil _ _ _ _ _, Below.refl _ _⟩
  ·exact (split_some a0 w hb hs).mono fun e w' ⟨he, hw⟩ => by
    subst hw
    exact ⟨_, he, R_strs w _ _ _ _ (Nat.le_refl _) (by have := pB_length_le a0; omega) trivial, below_alloc (Below.refl _ _) _⟩
 ·cases h
def path_Depth.f (_k : Nat) (a0 : ByteArray) : Option (Int) := if a0.size < 4294967281 then some ((pB a0).length : Int) else none
theorem path_Depth.mono : ∀ a0 k, LeO (path_Depth.f k a0) (path_Depth.f (k + 1) a0) := fun _ _ => LeO.refl _
theorem depth_nil (a0 : ByteArray) (w : World) (h : bs a0 = []) : Calls Tryd.prog 67 #[.string a0] w fun e w' => e = .returned (.int .i64 0) ∧ w = w' := by
 have h1 : a0.toList = [] := by rw [toList_bs]; exact h
 have h2 : a0.toList.isEmpty = true := by rw [h1]; rfl
 clear h
 go_enter Tryd.func67, Tryd.ntmps67
 go_wp2
 go_ret
 exact ⟨rfl, rfl⟩
theorem depth_some (a0 : ByteArray) (w : World) (h : bs a0 ≠ []) (n : Nat) (hn : n < 4294967281) (hc : Lib.countByte a0.data.toList 47 = n) : Calls Tryd.prog 67 #[.string a0] w fun e w' => e = .returned (.int .i64 (n + 1)) ∧ w = w' := by
 have c := Tryd.strings_Count_one a0 47 w
 rw [hc] at c
 have h2 : a0.toList.isEmpty = false := by
  rw [toList_bs]
  cases hb : bs a0 with
  | nil => exact absurd hb h
  | cons _ _ => rfl
 clear h hc
 go_enter Tryd.func67, Tryd.ntmps67
 go_wp2_with (go_at_call 90; refine c.mono ?_; rintro e w' ⟨rfl, rfl⟩)
 go_ret
 exact ⟨rfl, rfl⟩
theorem path_Depth.calls (k : Nat) (a0 : ByteArray) (r : Int) (w : World) (h : path_Depth.f k a0 = some r) :
  Calls Tryd.prog 67 #[.string a0] w fun e w' => e = .returned (.int .i64 r) ∧ Drawn0 w w' := by
 unfold path_Depth.f at h
 split at h
 ·rename_i hs
  obtain rfl := Option.some.inj h
  by_cases hb : bs a0 = []
  ·rw [pB_nil hb]
   exact (depth_nil a0 w hb).mono fun e w' ⟨he, hw⟩ => by subst hw; exact ⟨he, Drawn0.refl _⟩
  ·have e1 : Lib.splitB ⟨#[47]⟩ 0 (Lib.countB a0 ⟨#[47]⟩) a0 = pB a0 := by rw [splitB_spl]; unfold pB; rw [pcs_of hb]
   have e2 : Lib.countB a0 ⟨#[47]⟩ + 1 = (pB a0).length := by rw [← e1]; exact (Lib.splitB_all ⟨#[47]⟩ (by decide) 0 _ a0 rfl).symm
   have e3 : Lib.countByte a0.data.toList 47 = Lib.countB a0 ⟨#[47]⟩ := (Lib.count_one 47 a0.data.toList).symm
   have hle := Lib.countB_le ⟨#[47]⟩ (by decide) a0.size a0 (Nat.le_refl _)
   exact (depth_some a0 w hb _ (by omega) e3).mono fun e w' ⟨he, hw⟩ => by
    subst hw
    exact ⟨by rw [he, ← e2]; rfl, Drawn0.refl _⟩
 ·cases h
end Go.Proofs.YtdfkaclflmgkeaaDoor.PAll
namespace Go.Proofs.YtdfkaclflmgkeaaDoor.PAll
open Go.RowKit Go.Proofs.YtdfkaclflmgkeaaDoorW.PrintWords Go.Proofs.YtdfkaclflmgkeaaDoorW.PrintLast Go.Proofs.YtdfkaclflmgkeaaDoorW.PrintMore
attribute [local go_sem] max2_int min2_int max_two min_two max_three min_three max_four min_four
set_option linter.unusedVariables false
set_option linter.unusedSimpArgs false
theorem eqA48 (d : Nat) (w : World) (x0 y0 : ByteArray) (x1 y1 : ByteArray) (x2 y2 : Int) (x3 y3 : Int) :
  (Op.equalIn (d + 2) 48 (.agg #[.string x0, .string x1, .int .i64 x2, .int .i64 x3]) (.agg #[.string y0, .string y1, .int .i64 y2, .int .i64 y3])).run Tryd.prog w = .ok (x0.toList == y0.toList && (x1.toList == y1.toList && (x2 == y2 && (x3 == y3)))) w := by
 refine eqA_of Tryd.underlying48 (by kernel_rfl) ?_
 refine eqf_cons (by rfl) (by go_simp; rfl) (by go_simp; rfl) (by go_simp) ?_
 refine eqf_cons (by rfl) (by go_simp; rfl) (by go_simp; rfl) (by go_simp) ?_
 refine eqf_cons (by rfl) (by go_simp; rfl) (by go_simp; rfl) (by go_simp) ?_
 exact eqf_last (by rfl) (by go_simp; rfl) (by go_simp; rfl) (by go_simp)
def copseref03_Has.l0 : Nat → List ByteArray → ByteArray → Int → Option (Bool)
 | 0, _, _, _ => none
 | k + 1, x0, x1, x5 => if x5 < (x0.length : Int) then (if 0 ≤ x5 then (if (rdOf ByteArray.empty x0 x5).toList = x1.toList then (some true) else (copseref03_Has.l0 k x0 x1 (wrap64 (x5 + 1)))) else (none)) else (some false)
def copseref03_Has.f (k : Nat) (l0 : List ByteArray) (a1 : ByteArray) : Option (Bool) := copseref03_Has.l0 k l0 a1 0
set_option maxHeartbeats 8000000 in
set_option maxRecDepth 100000 in
theorem copseref03_Has.calls (k : Nat) (A0 : Option Addr) (c0 : Nat) (l0 : List ByteArray) (a1 : ByteArray) (r : Bool) (w : World) (hr0 : Kd.C Kd.string w A0 l0.length l0) (hc0 : l0.length ≤ c0) (h : copseref03_Has.f k l0 a1 = some r) :
  Calls Tryd.prog 11 #[.slice A0 l0.length c0, .string a1] w fun e w' => e = .returned (.bool r) ∧ Drawn0 w w' := by
 have HR0 := Aside0.mk hr0
 have HC0 := Aside0.mk hc0
 clear hr0 hc0
 have H : (copseref03_Has.l0 k l0 a1 0) = some r := h
 clear h
 have H' := Aside0.mk H
 clear H
 go_enter Tryd.func11, Tryd.ntmps11
 go_wp2
 go_loopg [5] k (fun kq v5 w' => ∃ (x5_1 : Int), v5 = .int .i64 x5_1 ∧ Aside0 (copseref03_Has.l0 kq l0 a1 x5_1 = some r) ∧ Aside0 (kq ≤ k) ∧ Drawn0 w w')
 case atStart => exact ⟨(0), (by first | rfl | (simp; done) | (simp [*]; done)), H', ⟨Nat.le_refl _⟩, by repeat (first | exact Drawn0.refl _ | apply Drawn0.step)⟩
 case round =>
  clear H'
  try clear c1
  try clear p2
  obtain ⟨x5_1, rfl, HA, HK1, ⟨m1, rfl⟩⟩ := hrel
  cases gk with
  | zero => exact absurd HA.out (by simp [copseref03_Has.l0])
  | succ k1 =>
   have H := HA.out
   clear HA
   simp only [copseref03_Has.l0] at H
   by_cases c3 : x5_1 < (l0.length : Int)
   ·rw [if_pos c3] at H
    have c3b0 : decide (x5_1 < (l0.length : Int)) = true := decide_eq_true c3
    clear c3
    by_cases c4 : 0 ≤ x5_1
    ·rw [if_pos c4] at H
     have c4b0 : decide (0 ≤ x5_1) = true := decide_eq_true c4
     clear c4
     by_cases c5 : (rdOf ByteArray.empty l0 x5_1).toList = a1.toList
     ·rw [if_pos c5] at H
      have c5b0 : ((rdOf ByteArray.empty l0 x5_1).toList == a1.toList) = true := beq_iff_eq.mpr c5
      have c5b1 : ((rdOf ByteArray.empty l0 x5_1).toList != a1.toList) = false := bne_eq_false_iff_eq.mpr c5
      clear c5
      obtain rfl := Option.some.inj H
      have p106 : 0 ≤ (x5_1 : Int) := of_decide_eq_true (by first | (with_reducible assumption) | assumption)
      have q106 : x5_1 < (l0.length : Int) := of_decide_eq_true (by first | (with_reducible assumption) | assumption)
      obtain ⟨ad106, e106, hx106_0⟩ := Kd.at_string HR0.out x5_1 p106 q106
      cases e106
      replace p106 := eq_true p106
      replace q106 := eq_true q106
      go_wp2
      go_ret
      exact ⟨by first | rfl | (simp; done) | (simp [*]; done), by repeat (first | exact Drawn0.refl _ | apply Drawn0.step)⟩
     ·rw [if_neg c5] at H
      have c5b0 : ((rdOf ByteArray.empty l0 x5_1).toList == a1.toList) = false := beq_eq_false_iff_ne.mpr c5
      have c5b1 : ((rdOf ByteArray.empty l0 x5_1).toList != a1.toList) = true := bne_iff_ne.mpr c5
      have H' := Aside0.mk H
      clear H
      have p106 : 0 ≤ (x5_1 : Int) := of_decide_eq_true (by first | (with_reducible assumption) | assumption)
      have q106 : x5_1 < (l0.length : Int) := of_decide_eq_true (by first | (with_reducible assumption) | assumption)
      obtain ⟨ad106, e106, hx106_0⟩ := Kd.at_string HR0.out x5_1 p106 q106
      cases e106
      replace p106 := eq_true p106
      replace q106 := eq_true q106
      go_wp2
      go_roundg k1
      case measure => have := HK1.out; omega
      case rel => exact ⟨(wrap64 (x5_1 + 1)), (by first | rfl | (simp; done) | (simp [*]; done)), H', ⟨by have := HK1.out; omega⟩, by repeat (first | exact Drawn0.refl _ | apply Drawn0.step)⟩
    ·rw [if_neg c4] at H
     exact absurd H (by simp)
   ·rw [if_neg c3] at H
    have c3b0 : decide (x5_1 < (l0.length : Int)) = false := decide_eq_false c3
    clear c3
    obtain rfl := Option.some.inj H
    go_wp2
    go_ret
    exact ⟨by first | rfl | (simp; done) | (simp [*]; done), by repeat (first | exact Drawn0.refl _ | apply Drawn0.step)⟩
def copseref02_Split.l0 : Nat → ByteArray → List ByteArray → Int → Int → Option (List ByteArray)
 | 0, _, _, _, _ => none
 | k + 1, x0, x3, x4, x5 => if x5 ≤ (x0.size : Int) then (if x5 = (x0.size : Int) then (if 0 ≤ x4 then (if x4 ≤ x5 then (if x3.length < 8796093022208 then (copseref02_Split.l0 k x0 (x3 ++ [x0.extract (x4 : Int).toNat (x5 : Int).toNat]) (wrap64 (x5 + 1)) (wrap64 (x5 + 1))) else (none)) else (none)) else (none)) else (if 0 ≤ x5 then (if x5 < (x0.size : Int) then (if (bt x0 x5) = 47 then (if 0 ≤ x4 then (if x4 ≤ x5 then (if x3.length < 8796093022208 then (copseref02_Split.l0 k x0 (x3 ++ [x0.extract (x4 : Int).toNat (x5 : Int).toNat]) (wrap64 (x5 + 1)) (wrap64 (x5 + 1))) else (none)) else (none)) else (none)) else (copseref02_Split.l0 k x0 x3 x4 (wrap64 (x5 + 1)))) else (none)) else (none))) else (some x3)
def copseref02_Split.f (k : Nat) (a0 : ByteArray) : Option (List ByteArray) := if a0.toList = ([] : List UInt8) then (some ([] : List ByteArray)) else (copseref02_Split.l0 k a0 ([] : List ByteArray) 0 0)
set_option maxHeartbeats 8000000 in
set_option maxRecDepth 100000 in
theorem copseref02_Split.calls (k : Nat) (a0 : ByteArray) (r : List ByteArray) (w : World) (h : copseref02_Split.f k a0 = some r) :
  Calls Tryd.prog 79 #[.string a0] w fun e w' => ∃ v0_ : Value, e = .returned (v0_) ∧ Kd.R Kd.string 9 w' w.heap.size (fun _ => True) v0_ r ∧ Below w.heap.size w w' := by
 have HB := Aside0.mk (Below.refl w.heap.size w)
 have H : (if a0.toList = ([] : List UInt8) then (some ([] : List ByteArray)) else (copseref02_Split.l0 k a0 ([] : List ByteArray) 0 0)) = some r := h
 clear h
 by_cases c2 : a0.toList = ([] : List UInt8)
 ·rw [if_pos c2] at H
  have c2b0 : (a0.toList == ([] : List UInt8)) = true := beq_iff_eq.mpr c2
  have c2b1 : (a0.toList != ([] : List UInt8)) = false := bne_eq_false_iff_eq.mpr c2
  clear c2
  obtain rfl := Option.some.inj H
  go_enter Tryd.func79, Tryd.ntmps79
  go_wp2
  go_ret
  exact ⟨_, by first | rfl | (simp [errW_none, errW_some] <;> rfl) | (simp [*, errW_none, errW_some] <;> rfl), by first | exact Kd.R_nil _ _ _ _ _ | exact Kd.N_nil _ _ _ _ _ | exact Kd.V_nil _ _ _ _ _ | exact Kd.Q_nil _ _ _ _ _ | exact Kd.S_nil _ _ _ _ _, by repeat (first | (with_reducible first | exact HB.out | apply below_alloc | apply pw_below_drewN | apply below_drew1) | exact HB.out)⟩
 ·rw [if_neg c2] at H
  have c2b0 : (a0.toList == ([] : List UInt8)) = false := beq_eq_false_iff_ne.mpr c2
  have c2b1 : (a0.toList != ([] : List UInt8)) = true := bne_iff_ne.mpr c2
  have H' := Aside0.mk H
  clear H
  go_enter Tryd.func79, Tryd.ntmps79
  go_wp2
  go_loopg [3, 4, 5] k (fun kq v3 v4 v5 w' => ∃ (x3_1 : List ByteArray) (x4_1 : Int) (x5_1 : Int), v4 = .int .i64 x4_1 ∧ v5 = .int .i64 x5_1 ∧ Aside0 (copseref02_Split.l0 kq a0 x3_1 x4_1 x5_1 = some r) ∧ Aside0 (kq ≤ k) ∧ Aside0 (Kd.R Kd.string 9 w' w.heap.size (fun _ => True) v3 x3_1) ∧ Aside0 (Below w.heap.size w w'))
  case atStart => exact ⟨(([] : List ByteArray)), (0), (0), (by first | rfl | (simp; done) | (simp [*]; done)), (by first | rfl | (simp; done) | (simp [*]; done)), H', ⟨Nat.le_refl _⟩, ⟨by first | exact Kd.R_nil _ _ _ _ _ | exact Kd.N_nil _ _ _ _ _ | exact Kd.V_nil _ _ _ _ _ | exact Kd.Q_nil _ _ _ _ _ | exact Kd.S_nil _ _ _ _ _⟩, ⟨by repeat (first | (with_reducible first | exact HB.out | apply below_alloc | apply pw_below_drewN | apply below_drew1) | exact HB.out)⟩⟩
  case round =>
   clear H'
   try clear c2
   try clear c2b0
   try clear c2b1
   try clear p2
   obtain ⟨x3_1, x4_1, x5_1, rfl, rfl, HA, HK1, HO_3, HB⟩ := hrel
   cases gk with
   | zero => exact absurd HA.out (by simp [copseref02_Split.l0])
   | succ k1 =>
    have H := HA.out
    clear HA
    simp only [copseref02_Split.l0] at H
    by_cases c3 : x5_1 ≤ (a0.size : Int)
    ·rw [if_pos c3] at H
     have c3b0 : decide (x5_1 ≤ (a0.size : Int)) = true := decide_eq_true c3
     clear c3
     by_cases c4 : x5_1 = (a0.size : Int)
     ·rw [if_pos c4] at H
      have c4b0 : (x5_1 == (a0.size : Int)) = true := beq_iff_eq.mpr c4
      have c4b1 : (x5_1 != (a0.size : Int)) = false := bne_eq_false_iff_eq.mpr c4
      clear c4
      by_cases c5 : 0 ≤ x4_1
      ·rw [if_pos c5] at H
       have c5b0 := eq_true c5
       have c5b1 : decide (0 ≤ x4_1) = true := decide_eq_true c5
       clear c5
       by_cases c6 : x4_1 ≤ x5_1
       ·rw [if_pos c6] at H
        have c6b0 := eq_true c6
        have c6b1 : decide (x4_1 ≤ x5_1) = true := decide_eq_true c6
        clear c6
        have c7b0 := eq_true (of_decide_eq_true (by first | (with_reducible assumption) | assumption) : x5_1 ≤ (a0.size : Int))
        by_cases c8 : x3_1.length < 8796093022208
        ·rw [if_pos c8] at H
         have LMc8 := Aside0.mk c8
         clear c8
         obtain ⟨y107, hy107⟩ : ∃ y_ : List ByteArray, y_ = (x3_1 ++ [a0.extract (x4_1 : Int).toNat (x5_1 : Int).toNat]) := ⟨_, rfl⟩
         replace H : (copseref02_Split.l0 k1 a0 y107 (wrap64 (x5_1 + 1)) (wrap64 (x5_1 + 1))) = some r := by first | (rw [hy107]; with_reducible exact H) | (have H2_ := (Option.bind_some _ _).symm.trans H; rw [hy107]; with_reducible exact H2_) | (have H2_ := (Option.bind_some _ _).symm.trans H; with_reducible exact H2_) | with_reducible exact H | (rw [hy107]; exact H) | exact H
         have Ny107 := Aside0.mk hy107
         clear hy107
         have H' := Aside0.mk H
         clear H
         go_wp2_with (first | ((with_reducible refine gate_builtin (b := .append) (xs := #[.tmp 25, .tmp 30]) rfl ?_); at_builtin; refine Kd.R_append Kd.string (w0 := w) w.heap.size rfl (.tmp 25) (.tmp 30) 22 9 (.string ⟨#[]⟩) 16 rfl Tryd.underlying22 info9 rfl (by decide) (by omega) u3 x3_1 (a0.extract (x4_1 : Int).toNat (x5_1 : Int).toNat) [.string (a0.extract (x4_1 : Int).toNat (x5_1 : Int).toNat)] (fun _ => True) (fun _ => False) rfl rfl ?aP (fun _ hk => hk.elim) ?aF ?aO ?aB ?aS ?aL ?_; (case aP => exact rfl); (case aB => exact (by repeat (first | (with_reducible first | exact HB.out | apply below_alloc | apply pw_below_drewN | apply below_drew1) | exact HB.out))); (case aF => exact (fun _ _ => trivial)); (case aO => exact (by (with_reducible repeat (first | apply Kd.R_alloc | apply Kd.R_drewN | apply Kd.R_drew)); exact HO_3.out)); (case aS => exact (below_size (by repeat (first | (with_reducible first | exact HB.out | apply below_alloc | apply pw_below_drewN | apply below_drew1) | exact HB.out)))); (case aL => have := LMc8.out; omega); intro v108 w9 ho hb hg hat; rw [← Ny107.out] at ho; have n0_ := Aside0.mk (hb); have n1_ := Aside0.mk (ho); clear HB; clear HO_3; have HB := n0_; have HO109 := n1_; clear n0_ n1_; clear ho hb hg hat))
         go_roundg k1
         case measure => have := HK1.out; omega
         case rel => exact ⟨(y107), (wrap64 (x5_1 + 1)), (wrap64 (x5_1 + 1)), (by first | rfl | (simp; done) | (simp [*]; done)), (by first | rfl | (simp; done) | (simp [*]; done)), H', ⟨by have := HK1.out; omega⟩, ⟨by (with_reducible repeat (first | apply Kd.R_alloc | apply Kd.R_drewN | apply Kd.R_drew)); exact HO109.out⟩, ⟨by repeat (first | (with_reducible first | exact HB.out | apply below_alloc | apply pw_below_drewN | apply below_drew1) | exact HB.out)⟩⟩
        ·rw [if_neg c8] at H
         exact absurd H (by simp)
       ·rw [if_neg c6] at H
        exact absurd H (by simp)
      ·rw [if_neg c5] at H
       exact absurd H (by simp)
     ·rw [if_neg c4] at H
      have c4b0 : (x5_1 == (a0.size : Int)) = false := beq_eq_false_iff_ne.mpr c4
      have c4b1 : (x5_1 != (a0.size : Int)) = true := bne_iff_ne.mpr c4
      by_cases c10 : 0 ≤ x5_1
      ·rw [if_pos c10] at H
       have c10b0 : decide (0 ≤ x5_1) = true := decide_eq_true c10
       clear c10
       by_cases c11 : x5_1 < (a0.size : Int)
       ·rw [if_pos c11] at H
        have c11b0 : decide (x5_1 < (a0.size : Int)) = true := decide_eq_true c11
        clear c11
        by_cases c13 : (bt a0 x5_1) = 47
        ·rw [if_pos c13] at H
         have c13b0 : ((bt a0 x5_1) == 47) = true := beq_iff_eq.mpr c13
         have c13b1 : ((bt a0 x5_1) != 47) = false := bne_eq_false_iff_eq.mpr c13
         clear c13
         by_cases c14 : 0 ≤ x4_1
         ·rw [if_pos c14] at H
          have c14b0 := eq_true c14
          have c14b1 : decide (0 ≤ x4_1) = true := decide_eq_true c14
          clear c14
          by_cases c15 : x4_1 ≤ x5_1
          ·rw [if_pos c15] at H
           have c15b0 := eq_true c15
           have c15b1 : decide (x4_1 ≤ x5_1) = true := decide_eq_true c15
           clear c15
           have c16b0 := eq_true (of_decide_eq_true (by first | (with_reducible assumption) | assumption) : x5_1 ≤ (a0.size : Int))
           by_cases c17 : x3_1.length < 8796093022208
           ·rw [if_pos c17] at H
            have LMc17 := Aside0.mk c17
            clear c17
            obtain ⟨y110, hy110⟩ : ∃ y_ : List ByteArray, y_ = (x3_1 ++ [a0.extract (x4_1 : Int).toNat (x5_1 : Int).toNat]) := ⟨_, rfl⟩
            replace H : (copseref02_Split.l0 k1 a0 y110 (wrap64 (x5_1 + 1)) (wrap64 (x5_1 + 1))) = some r := by first | (rw [hy110]; with_reducible exact H) | (have H2_ := (Option.bind_some _ _).symm.trans H; rw [hy110]; with_reducible exact H2_) | (have H2_ := (Option.bind_some _ _).symm.trans H; with_reducible exact H2_) | with_reducible exact H | (rw [hy110]; exact H) | exact H
            have Ny110 := Aside0.mk hy110
            clear hy110
            have H' := Aside0.mk H
            clear H
            have p12 : 0 ≤ (x5_1 : Int) := of_decide_eq_true (by first | (with_reducible assumption) | assumption)
            have q12 : x5_1 < (a0.size : Int) := of_decide_eq_true (by first | (with_reducible assumption) | assumption)
            have hx12 := bt_at a0 x5_1
            replace p12 := eq_true p12
            replace q12 := eq_true q12
            go_wp2_with (first | ((with_reducible refine gate_builtin (b := .append) (xs := #[.tmp 25, .tmp 30]) rfl ?_); at_builtin; refine Kd.R_append Kd.string (w0 := w) w.heap.size rfl (.tmp 25) (.tmp 30) 22 9 (.string ⟨#[]⟩) 16 rfl Tryd.underlying22 info9 rfl (by decide) (by omega) u3 x3_1 (a0.extract (x4_1 : Int).toNat (x5_1 : Int).toNat) [.string (a0.extract (x4_1 : Int).toNat (x5_1 : Int).toNat)] (fun _ => True) (fun _ => False) rfl rfl ?aP (fun _ hk => hk.elim) ?aF ?aO ?aB ?aS ?aL ?_; (case aP => exact rfl); (case aB => exact (by repeat (first | (with_reducible first | exact HB.out | apply below_alloc | apply pw_below_drewN | apply below_drew1) | exact HB.out))); (case aF => exact (fun _ _ => trivial)); (case aO => exact (by (with_reducible repeat (first | apply Kd.R_alloc | apply Kd.R_drewN | apply Kd.R_drew)); exact HO_3.out)); (case aS => exact (below_size (by repeat (first | (with_reducible first | exact HB.out | apply below_alloc | apply pw_below_drewN | apply below_drew1) | exact HB.out)))); (case aL => have := LMc17.out; omega); intro v111 w18 ho hb hg hat; rw [← Ny110.out] at ho; have n0_ := Aside0.mk (hb); have n1_ := Aside0.mk (ho); clear HB; clear HO_3; have HB := n0_; have HO112 := n1_; clear n0_ n1_; clear ho hb hg hat))
            go_roundg k1
            case measure => have := HK1.out; omega
            case rel => exact ⟨(y110), (wrap64 (x5_1 + 1)), (wrap64 (x5_1 + 1)), (by first | rfl | (simp; done) | (simp [*]; done)), (by first | rfl | (simp; done) | (simp [*]; done)), H', ⟨by have := HK1.out; omega⟩, ⟨by (with_reducible repeat (first | apply Kd.R_alloc | apply Kd.R_drewN | apply Kd.R_drew)); exact HO112.out⟩, ⟨by repeat (first | (with_reducible first | exact HB.out | apply below_alloc | apply pw_below_drewN | apply below_drew1) | exact HB.out)⟩⟩
           ·rw [if_neg c17] at H
            exact absurd H (by simp)
          ·rw [if_neg c15] at H
           exact absurd H (by simp)
         ·rw [if_neg c14] at H
          exact absurd H (by simp)
        ·rw [if_neg c13] at H
         have c13b0 : ((bt a0 x5_1) == 47) = false := beq_eq_false_iff_ne.mpr c13
         have c13b1 : ((bt a0 x5_1) != 47) = true := bne_iff_ne.mpr c13
         have H' := Aside0.mk H
         clear H
         have p12 : 0 ≤ (x5_1 : Int) := of_decide_eq_true (by first | (with_reducible assumption) | assumption)
         have q12 : x5_1 < (a0.size : Int) := of_decide_eq_true (by first | (with_reducible assumption) | assumption)
         have hx12 := bt_at a0 x5_1
         replace p12 := eq_true p12
         replace q12 := eq_true q12
         go_wp2
         go_roundg k1
         case measure => have := HK1.out; omega
         case rel => exact ⟨(x3_1), (x4_1), (wrap64 (x5_1 + 1)), (by first | rfl | (simp; done) | (simp [*]; done)), (by first | rfl | (simp; done) | (simp [*]; done)), H', ⟨by have := HK1.out; omega⟩, ⟨by (with_reducible repeat (first | apply Kd.R_alloc | apply Kd.R_drewN | apply Kd.R_drew)); exact HO_3.out⟩, ⟨by repeat (first | (with_reducible first | exact HB.out | apply below_alloc | apply pw_below_drewN | apply below_drew1) | exact HB.out)⟩⟩
       ·rw [if_neg c11] at H
        exact absurd H (by simp)
      ·rw [if_neg c10] at H
       exact absurd H (by simp)
    ·rw [if_neg c3] at H
     have c3b0 : decide (x5_1 ≤ (a0.size : Int)) = false := decide_eq_false c3
     clear c3
     obtain rfl := Option.some.inj H
     go_wp2
     go_ret
     exact ⟨_, by first | rfl | (simp [errW_none, errW_some] <;> rfl) | (simp [*, errW_none, errW_some] <;> rfl), by (with_reducible repeat (first | apply Kd.R_alloc | apply Kd.R_drewN | apply Kd.R_drew)); exact HO_3.out, by repeat (first | (with_reducible first | exact HB.out | apply below_alloc | apply pw_below_drewN | apply below_drew1) | exact HB.out)⟩
mutual
def copseref02_bytes.l0 : Nat → ByteArray → ByteArray → Int → Option (Int)
 | 0, _, _, _ => none
 | k + 1, x0, x1, x5 => if x5 < (x0.size : Int) then (copseref02_bytes.j1 k x0 x1 x5 (decide (x5 < (x1.size : Int)))) else (copseref02_bytes.j1 k x0 x1 x5 false)
def copseref02_bytes.j1 : Nat → ByteArray → ByteArray → Int → Bool → Option (Int)
 | 0, _, _, _, _ => none
 | k + 1, x0, x1, x5, x15 => if x15 = true then (if 0 ≤ x5 then (if x5 < (x0.size : Int) then (if x5 < (x1.size : Int) then (if (bt x0 x5) < (bt x1 x5) then (some (-1)) else (if (bt x0 x5) > (bt x1 x5) then (some 1) else (copseref02_bytes.l0 k x0 x1 (wrap64 (x5 + 1))))) else (none)) else (none)) else (none)) else (if (x0.size : Int) < (x1.size : Int) then (some (-1)) else (if (x0.size : Int) > (x1.size : Int) then (some 1) else (some 0)))
end
def copseref02_bytes.f (k : Nat) (a0 : ByteArray) (a1 : ByteArray) : Option (Int) := copseref02_bytes.l0 k a0 a1 0
set_option maxHeartbeats 8000000 in
set_option maxRecDepth 100000 in
theorem copseref02_bytes.calls (k : Nat) (a0 : ByteArray) (a1 : ByteArray) (r : Int) (w : World) (h : copseref02_bytes.f k a0 a1 = some r) :
  Calls Tryd.prog 80 #[.string a0, .string a1] w fun e w' => e = .returned (.int .i64 r) ∧ Drawn0 w w' := by
 have H : (copseref02_bytes.l0 k a0 a1 0) = some r := h
 clear h
 have H' := Aside0.mk H
 clear H
 go_enter Tryd.func80, Tryd.ntmps80
 go_wp2
 repeat (go_quiet (fail); try go_wp2)
 go_loopg [5] k (fun kq v5 w' => ∃ (x5_1 : Int), v5 = .int .i64 x5_1 ∧ Aside0 (copseref02_bytes.l0 kq a0 a1 x5_1 = some r) ∧ Aside0 (kq ≤ k) ∧ Drawn0 w w')
 case atStart => exact ⟨(0), (by first | rfl | (simp; done) | (simp [*]; done)), H', ⟨Nat.le_refl _⟩, by repeat (first | exact Drawn0.refl _ | apply Drawn0.step)⟩
 case round =>
  clear H'
  try clear p2
  obtain ⟨x5_1, rfl, HA, HK1, ⟨m1, rfl⟩⟩ := hrel
  cases gk with
  | zero => exact absurd HA.out (by simp [copseref02_bytes.l0])
  | succ k1 =>
   have H := HA.out
   clear HA
   simp only [copseref02_bytes.l0] at H
   have HC3 := Aside0.mk H
   clear H
   go_upto_region 2 with (fail)
   repeat (go_quiet (fail); go_upto_region 2 with (fail))
   go_cut [15] (fun v15 wc => ∃ (kq : Nat) (x15_2 : Bool), v15 = .bool x15_2 ∧ Aside0 (copseref02_bytes.j1 kq a0 a1 x5_1 x15_2 = some r) ∧ Aside0 (kq ≤ k1) ∧ Drawn0 w wc)
   case first =>
    have H := HC3.out
    clear HC3
    by_cases c4 : x5_1 < (a0.size : Int)
    ·rw [if_pos c4] at H
     have c4b0 : decide (x5_1 < (a0.size : Int)) = true := decide_eq_true c4
     clear c4
     (first | rw [c4b0] | (simp only [i64_w, i32_w]; rw [c4b0]) | skip)
     have H' := Aside0.mk H
     clear H
     go_wp2
     repeat (go_quiet (fail); try go_wp2)
     go_meet
     case rel => exact ⟨_, (decide (x5_1 < (a1.size : Int))), (by first | rfl | (simp; done) | (simp [*]; done)), H', ⟨by have := HK1.out; first | omega | exact Nat.le_refl _⟩, by repeat (first | exact Drawn0.refl _ | apply Drawn0.step)⟩
    ·rw [if_neg c4] at H
     have c4b0 : decide (x5_1 < (a0.size : Int)) = false := decide_eq_false c4
     clear c4
     (first | rw [c4b0] | (simp only [i64_w, i32_w]; rw [c4b0]) | skip)
     have H' := Aside0.mk H
     clear H
     go_wp2
     repeat (go_quiet (fail); try go_wp2)
     go_meet
     case rel => exact ⟨_, (false), (by first | rfl | (simp; done) | (simp [*]; done)), H', ⟨by have := HK1.out; first | omega | exact Nat.le_refl _⟩, by repeat (first | exact Drawn0.refl _ | apply Drawn0.step)⟩
   case rest =>
    clear HC3
    try clear p2
    try clear c4
    try clear c4b0
    try clear p2
    obtain ⟨kq, x15_2, rfl, HA, HJ2, ⟨mc2, rfl⟩⟩ := hcut
    cases kq with
    | zero => exact absurd HA.out (by simp [copseref02_bytes.j1])
    | succ kj2 =>
     have H := HA.out
     clear HA
     simp only [copseref02_bytes.j1] at H
     by_cases c5 : x15_2 = true
     ·subst c5
      rw [if_pos rfl] at H
      have H1 := H
      clear H
      have H := H1
      clear H1
      by_cases c6 : 0 ≤ x5_1
      ·rw [if_pos c6] at H
       have c6b0 : decide (0 ≤ x5_1) = true := decide_eq_true c6
       clear c6
       by_cases c7 : x5_1 < (a0.size : Int)
       ·rw [if_pos c7] at H
        have c7b0 : decide (x5_1 < (a0.size : Int)) = true := decide_eq_true c7
        clear c7
        by_cases c9 : x5_1 < (a1.size : Int)
        ·rw [if_pos c9] at H
         have c9b0 : decide (x5_1 < (a1.size : Int)) = true := decide_eq_true c9
         clear c9
         by_cases c11 : (bt a0 x5_1) < (bt a1 x5_1)
         ·rw [if_pos c11] at H
          have c11b0 : decide ((bt a0 x5_1) < (bt a1 x5_1)) = true := decide_eq_true c11
          clear c11
          obtain rfl := Option.some.inj H
          have p8 : 0 ≤ (x5_1 : Int) := of_decide_eq_true (by first | (with_reducible assumption) | assumption)
          have q8 : x5_1 < (a0.size : Int) := of_decide_eq_true (by first | (with_reducible assumption) | assumption)
          have hx8 := bt_at a0 x5_1
          replace p8 := eq_true p8
          replace q8 := eq_true q8
          have p10 : 0 ≤ (x5_1 : Int) := of_decide_eq_true (by first | (with_reducible assumption) | assumption)
          have q10 : x5_1 < (a1.size : Int) := of_decide_eq_true (by first | (with_reducible assumption) | assumption)
          have hx10 := bt_at a1 x5_1
          replace p10 := eq_true p10
          replace q10 := eq_true q10
          go_wp2
          repeat (go_quiet (fail); try go_wp2)
          go_ret
          exact ⟨by first | rfl | (simp; done) | (simp [*]; done), by repeat (first | exact Drawn0.refl _ | apply Drawn0.step)⟩
         ·rw [if_neg c11] at H
          have c11b0 : decide ((bt a0 x5_1) < (bt a1 x5_1)) = false := decide_eq_false c11
          clear c11
          by_cases c14 : (bt a0 x5_1) > (bt a1 x5_1)
          ·rw [if_pos c14] at H
           have c14b0 : decide ((bt a1 x5_1) < (bt a0 x5_1)) = true := decide_eq_true c14
           clear c14
           obtain rfl := Option.some.inj H
           have p8 : 0 ≤ (x5_1 : Int) := of_decide_eq_true (by first | (with_reducible assumption) | assumption)
           have q8 : x5_1 < (a0.size : Int) := of_decide_eq_true (by first | (with_reducible assumption) | assumption)
           have hx8 := bt_at a0 x5_1
           replace p8 := eq_true p8
           replace q8 := eq_true q8
           have p10 : 0 ≤ (x5_1 : Int) := of_decide_eq_true (by first | (with_reducible assumption) | assumption)
           have q10 : x5_1 < (a1.size : Int) := of_decide_eq_true (by first | (with_reducible assumption) | assumption)
           have hx10 := bt_at a1 x5_1
           replace p10 := eq_true p10
           replace q10 := eq_true q10
           have p12 : 0 ≤ (x5_1 : Int) := of_decide_eq_true (by first | (with_reducible assumption) | assumption)
           have q12 : x5_1 < (a0.size : Int) := of_decide_eq_true (by first | (with_reducible assumption) | assumption)
           have hx12 := bt_at a0 x5_1
           replace p12 := eq_true p12
           replace q12 := eq_true q12
           have p13 : 0 ≤ (x5_1 : Int) := of_decide_eq_true (by first | (with_reducible assumption) | assumption)
           have q13 : x5_1 < (a1.size : Int) := of_decide_eq_true (by first | (with_reducible assumption) | assumption)
           have hx13 := bt_at a1 x5_1
           replace p13 := eq_true p13
           replace q13 := eq_true q13
           go_wp2
           repeat (go_quiet (fail); try go_wp2)
           go_ret
           exact ⟨by first | rfl | (simp; done) | (simp [*]; done), by repeat (first | exact Drawn0.refl _ | apply Drawn0.step)⟩
          ·rw [if_neg c14] at H
           have c14b0 : decide ((bt a1 x5_1) < (bt a0 x5_1)) = false := decide_eq_false c14
           clear c14
           have H' := Aside0.mk H
           clear H
           have p8 : 0 ≤ (x5_1 : Int) := of_decide_eq_true (by first | (with_reducible assumption) | assumption)
           have q8 : x5_1 < (a0.size : Int) := of_decide_eq_true (by first | (with_reducible assumption) | assumption)
           have hx8 := bt_at a0 x5_1
           replace p8 := eq_true p8
           replace q8 := eq_true q8
           have p10 : 0 ≤ (x5_1 : Int) := of_decide_eq_true (by first | (with_reducible assumption) | assumption)
           have q10 : x5_1 < (a1.size : Int) := of_decide_eq_true (by first | (with_reducible assumption) | assumption)
           have hx10 := bt_at a1 x5_1
           replace p10 := eq_true p10
           replace q10 := eq_true q10
           have p12 : 0 ≤ (x5_1 : Int) := of_decide_eq_true (by first | (with_reducible assumption) | assumption)
           have q12 : x5_1 < (a0.size : Int) := of_decide_eq_true (by first | (with_reducible assumption) | assumption)
           have hx12 := bt_at a0 x5_1
           replace p12 := eq_true p12
           replace q12 := eq_true q12
           have p13 : 0 ≤ (x5_1 : Int) := of_decide_eq_true (by first | (with_reducible assumption) | assumption)
           have q13 : x5_1 < (a1.size : Int) := of_decide_eq_true (by first | (with_reducible assumption) | assumption)
           have hx13 := bt_at a1 x5_1
           replace p13 := eq_true p13
           replace q13 := eq_true q13
           go_wp2
           repeat (go_quiet (fail); try go_wp2)
           go_roundg kj2
           case measure => have := HK1.out; have := HJ2.out; omega
           case rel => exact ⟨(wrap64 (x5_1 + 1)), (by first | rfl | (simp; done) | (simp [*]; done)), H', ⟨by have := HK1.out; have := HJ2.out; omega⟩, by repeat (first | exact Drawn0.refl _ | apply Drawn0.step)⟩
        ·rw [if_neg c9] at H
         exact absurd H (by simp)
       ·rw [if_neg c7] at H
        exact absurd H (by simp)
      ·rw [if_neg c6] at H
       exact absurd H (by simp)
     ·replace c5 := Bool.eq_false_iff.mpr c5
      subst c5
      have H1 : (if (a0.size : Int) < (a1.size : Int) then (some (-1)) else (if (a0.size : Int) > (a1.size : Int) then (some 1) else (some 0))) = some r := by rw [if_neg (show ¬ (false = true) by decide)] at H; exact H
      clear H
      have H := H1
      clear H1
      by_cases c15 : (a0.size : Int) < (a1.size : Int)
      ·rw [if_pos c15] at H
       have c15b0 : decide ((a0.size : Int) < (a1.size : Int)) = true := decide_eq_true c15
       have c15b1 : decide (a0.size < a1.size) = true := decide_eq_true (Int.ofNat_lt.mp c15)
       clear c15
       obtain rfl := Option.some.inj H
       go_wp2
       repeat (go_quiet (fail); try go_wp2)
       go_ret
       exact ⟨by first | rfl | (simp; done) | (simp [*]; done), by repeat (first | exact Drawn0.refl _ | apply Drawn0.step)⟩
      ·rw [if_neg c15] at H
       have c15b0 : decide ((a0.size : Int) < (a1.size : Int)) = false := decide_eq_false c15
       have c15b1 : decide (a0.size < a1.size) = false := decide_eq_false (fun h => c15 (Int.ofNat_lt.mpr h))
       clear c15
       by_cases c16 : (a0.size : Int) > (a1.size : Int)
       ·rw [if_pos c16] at H
        have c16b0 : decide ((a1.size : Int) < (a0.size : Int)) = true := decide_eq_true c16
        have c16b1 : decide (a1.size < a0.size) = true := decide_eq_true (Int.ofNat_lt.mp c16)
        clear c16
        obtain rfl := Option.some.inj H
        go_wp2
        repeat (go_quiet (fail); try go_wp2)
        go_ret
        exact ⟨by first | rfl | (simp; done) | (simp [*]; done), by repeat (first | exact Drawn0.refl _ | apply Drawn0.step)⟩
       ·rw [if_neg c16] at H
        have c16b0 : decide ((a1.size : Int) < (a0.size : Int)) = false := decide_eq_false c16
        have c16b1 : decide (a1.size < a0.size) = false := decide_eq_false (fun h => c16 (Int.ofNat_lt.mpr h))
        clear c16
        obtain rfl := Option.some.inj H
        go_wp2
        repeat (go_quiet (fail); try go_wp2)
        go_ret
        exact ⟨by first | rfl | (simp; done) | (simp [*]; done), by repeat (first | exact Drawn0.refl _ | apply Drawn0.step)⟩
end Go.Proofs.YtdfkaclflmgkeaaDoor.PAll
namespace Go.Proofs.YtdfkaclflmgkeaaDoor.PAll
open Go.RowKit Go.Proofs.YtdfkaclflmgkeaaDoorW.PrintWords Go.Proofs.YtdfkaclflmgkeaaDoorW.PrintLast Go.Proofs.YtdfkaclflmgkeaaDoorW.PrintMore
attribute [local go_sem] max2_int min2_int max_two min_two max_three min_three max_four min_four
set_option linter.unusedVariables false
set_option linter.unusedSimpArgs false
mutual
def copseref02_Cmp.l0 : Nat → List ByteArray → List ByteArray → Int → Option (Int)
 | 0, _, _, _ => none
 | k + 1, x5, x6, x7 => if x7 < (x5.length : Int) then (copseref02_Cmp.j1 k x5 x6 x7 (decide (x7 < (x6.length : Int)))) else (copseref02_Cmp.j1 k x5 x6 x7 false)
def copseref02_Cmp.j1 : Nat → List ByteArray → List ByteArray → Int → Bool → Option (Int)
 | 0, _, _, _, _ => none
 | k + 1, x5, x6, x7, x22 => if x22 = true then (if 0 ≤ x7 then (if x7 < (x5.length : Int) then (if x7 < (x6.length : Int) then ((copseref02_bytes.f k (rdOf ByteArray.empty x5 x7) (rdOf ByteArray.empty x6 x7)).bind fun t121 => (if t121 = 0 then (copseref02_Cmp.l0 k x5 x6 (wrap64 (x7 + 1))) else (some t121))) else (none)) else (none)) else (none)) else (if (x5.length : Int) < (x6.length : Int) then (some (-1)) else (if (x5.length : Int) > (x6.length : Int) then (some 1) else (some 0)))
end
def copseref02_Cmp.f (k : Nat) (a0 : ByteArray) (a1 : ByteArray) : Option (Int) := (copseref02_Split.f k a0).bind fun t113 => ((copseref02_Split.f k a1).bind fun t116 => (copseref02_Cmp.l0 k t113 t116 0))
set_option maxHeartbeats 8000000 in
set_option maxRecDepth 100000 in
theorem copseref02_Cmp.calls (k : Nat) (a0 : ByteArray) (a1 : ByteArray) (r : Int) (w : World) (h : copseref02_Cmp.f k a0 a1 = some r) :
  Calls Tryd.prog 57 #[.string a0, .string a1] w fun e w' => e = .returned (.int .i64 r) ∧ Below w.heap.size w w' := by
 have HB := Aside0.mk (Below.refl w.heap.size w)
 have H : ((copseref02_Split.f k a0).bind fun t113 => ((copseref02_Split.f k a1).bind fun t116 => (copseref02_Cmp.l0 k t113 t116 0))) = some r := h
 clear h
 replace H := Option.bind_eq_some_iff.mp H
 obtain ⟨t113, A30, H⟩ := H
 try dsimp only at H
 have A3 := Aside0.mk A30
 clear A30
 replace H := Option.bind_eq_some_iff.mp H
 obtain ⟨t116, A40, H⟩ := H
 try dsimp only at H
 have A4 := Aside0.mk A40
 clear A40
 have H' := Aside0.mk H
 clear H
 go_enter Tryd.func57, Tryd.ntmps57
 go_wp2_with (first | (go_at_call 79; (with_reducible refine (copseref02_Split.calls k a0 t113 _ A3.out).mono ?_); rintro e w5 ⟨v114, rfl, ho0, hb⟩; have n0_ := Aside0.mk (Kd.R_lower ho0 (below_size (by repeat (first | (with_reducible first | exact HB.out | apply below_alloc | apply pw_below_drewN | apply below_drew1) | exact HB.out)))); have n1_ := Aside0.mk (below_step (by repeat (first | (with_reducible first | exact HB.out | apply below_alloc | apply pw_below_drewN | apply below_drew1) | exact HB.out)) hb); clear HB; have HO115 := n0_; have HB := n1_; clear n0_ n1_; (try clear hb); (try clear hb2); (try clear hk); (try clear hi); (try clear ho0)) | (go_at_call 79; (with_reducible refine (copseref02_Split.calls k a1 t116 _ A4.out).mono ?_); rintro e w6 ⟨v117, rfl, ho0, hb⟩; have n0_ := Aside0.mk (Kd.R_elder' (by (with_reducible repeat (first | apply Kd.R_alloc | apply Kd.R_drewN | apply Kd.R_drew)); exact HO115.out) (Kd.R_base ho0) hb); have n1_ := Aside0.mk (Kd.R_lower (Kd.R_new' ho0 (Kd.R_lt (by (with_reducible repeat (first | apply Kd.R_alloc | apply Kd.R_drewN | apply Kd.R_drew)); exact HO115.out))) (below_size (by repeat (first | (with_reducible first | exact HB.out | apply below_alloc | apply pw_below_drewN | apply below_drew1) | exact HB.out)))); have n2_ := Aside0.mk (below_step (by repeat (first | (with_reducible first | exact HB.out | apply below_alloc | apply pw_below_drewN | apply below_drew1) | exact HB.out)) hb); clear HO115; clear HB; have HO115 := n0_; have HO118 := n1_; have HB := n2_; clear n0_ n1_ n2_; (try clear hb); (try clear hb2); (try clear hk); (try clear hi); (try clear ho0)))
 repeat (go_quiet (first | (go_at_call 79; (with_reducible refine (copseref02_Split.calls k a0 t113 _ A3.out).mono ?_); rintro e w5 ⟨v114, rfl, ho0, hb⟩; have n0_ := Aside0.mk (Kd.R_lower ho0 (below_size (by repeat (first | (with_reducible first | exact HB.out | apply below_alloc | apply pw_below_drewN | apply below_drew1) | exact HB.out)))); have n1_ := Aside0.mk (below_step (by repeat (first | (with_reducible first | exact HB.out | apply below_alloc | apply pw_below_drewN | apply below_drew1) | exact HB.out)) hb); clear HB; have HO115 := n0_; have HB := n1_; clear n0_ n1_; (try clear hb); (try clear hb2); (try clear hk); (try clear hi); (try clear ho0)) | (go_at_call 79; (with_reducible refine (copseref02_Split.calls k a1 t116 _ A4.out).mono ?_); rintro e w6 ⟨v117, rfl, ho0, hb⟩; have n0_ := Aside0.mk (Kd.R_elder' (by (with_reducible repeat (first | apply Kd.R_alloc | apply Kd.R_drewN | apply Kd.R_drew)); exact HO115.out) (Kd.R_base ho0) hb); have n1_ := Aside0.mk (Kd.R_lower (Kd.R_new' ho0 (Kd.R_lt (by (with_reducible repeat (first | apply Kd.R_alloc | apply Kd.R_drewN | apply Kd.R_drew)); exact HO115.out))) (below_size (by repeat (first | (with_reducible first | exact HB.out | apply below_alloc | apply pw_below_drewN | apply below_drew1) | exact HB.out)))); have n2_ := Aside0.mk (below_step (by repeat (first | (with_reducible first | exact HB.out | apply below_alloc | apply pw_below_drewN | apply below_drew1) | exact HB.out)) hb); clear HO115; clear HB; have HO115 := n0_; have HO118 := n1_; have HB := n2_; clear n0_ n1_ n2_; (try clear hb); (try clear hb2); (try clear hk); (try clear hi); (try clear ho0))); try go_wp2_with (first | (go_at_call 79; (with_reducible refine (copseref02_Split.calls k a0 t113 _ A3.out).mono ?_); rintro e w5 ⟨v114, rfl, ho0, hb⟩; have n0_ := Aside0.mk (Kd.R_lower ho0 (below_size (by repeat (first | (with_reducible first | exact HB.out | apply below_alloc | apply pw_below_drewN | apply below_drew1) | exact HB.out)))); have n1_ := Aside0.mk (below_step (by repeat (first | (with_reducible first | exact HB.out | apply below_alloc | apply pw_below_drewN | apply below_drew1) | exact HB.out)) hb); clear HB; have HO115 := n0_; have HB := n1_; clear n0_ n1_; (try clear hb); (try clear hb2); (try clear hk); (try clear hi); (try clear ho0)) | (go_at_call 79; (with_reducible refine (copseref02_Split.calls k a1 t116 _ A4.out).mono ?_); rintro e w6 ⟨v117, rfl, ho0, hb⟩; have n0_ := Aside0.mk (Kd.R_elder' (by (with_reducible repeat (first | apply Kd.R_alloc | apply Kd.R_drewN | apply Kd.R_drew)); exact HO115.out) (Kd.R_base ho0) hb); have n1_ := Aside0.mk (Kd.R_lower (Kd.R_new' ho0 (Kd.R_lt (by (with_reducible repeat (first | apply Kd.R_alloc | apply Kd.R_drewN | apply Kd.R_drew)); exact HO115.out))) (below_size (by repeat (first | (with_reducible first | exact HB.out | apply below_alloc | apply pw_below_drewN | apply below_drew1) | exact HB.out)))); have n2_ := Aside0.mk (below_step (by repeat (first | (with_reducible first | exact HB.out | apply below_alloc | apply pw_below_drewN | apply below_drew1) | exact HB.out)) hb); clear HO115; clear HB; have HO115 := n0_; have HO118 := n1_; have HB := n2_; clear n0_ n1_ n2_; (try clear hb); (try clear hb2); (try clear hk); (try clear hi); (try clear ho0))))
 go_loopg [7] k (fun kq v7 w' => ∃ (x7_1 : Int), v7 = .int .i64 x7_1 ∧ Aside0 (copseref02_Cmp.l0 kq t113 t116 x7_1 = some r) ∧ Aside0 (kq ≤ k) ∧ Aside0 (Kd.R Kd.string 9 w' w.heap.size (fun k_ => some k_ ≠ (v117 : Value).ownBlock) v114 t113) ∧ Aside0 (Kd.R Kd.string 9 w' w.heap.size (fun k_ => some k_ ≠ (v114 : Value).ownBlock) v117 t116) ∧ Aside0 (Below w.heap.size w w'))
 case atStart => exact ⟨(0), (by first | rfl | (simp; done) | (simp [*]; done)), H', ⟨Nat.le_refl _⟩, ⟨by (with_reducible repeat (first | apply Kd.R_alloc | apply Kd.R_drewN | apply Kd.R_drew)); exact Kd.R_mono HO115.out (fun _ hk => hk.2)⟩, ⟨by (with_reducible repeat (first | apply Kd.R_alloc | apply Kd.R_drewN | apply Kd.R_drew)); exact Kd.R_mono HO118.out (fun _ hk => hk.2)⟩, ⟨by repeat (first | (with_reducible first | exact HB.out | apply below_alloc | apply pw_below_drewN | apply below_drew1) | exact HB.out)⟩⟩
 case round =>
  clear H'
  try clear p2
  try clear c5
  obtain ⟨x7_1, rfl, HA, HK1, HO_5, HO_6, HB⟩ := hrel
  cases gk with
  | zero => exact absurd HA.out (by simp [copseref02_Cmp.l0])
  | succ k1 =>
   have H := HA.out
   clear HA
   simp only [copseref02_Cmp.l0] at H
   have HC7 := Aside0.mk H
   clear H
   go_upto_region 4 with (fail)
   repeat (go_quiet (fail); go_upto_region 4 with (fail))
   go_cut [22] (fun v22 wc => ∃ (kq : Nat) (x22_6 : Bool), v22 = .bool x22_6 ∧ Aside0 (copseref02_Cmp.j1 kq t113 t116 x7_1 x22_6 = some r) ∧ Aside0 (kq ≤ k1) ∧ Aside0 (Kd.R Kd.string 9 wc w.heap.size (fun k_ => some k_ ≠ (v117 : Value).ownBlock) v114 t113) ∧ Aside0 (Kd.R Kd.string 9 wc w.heap.size (fun k_ => some k_ ≠ (v114 : Value).ownBlock) v117 t116) ∧ Aside0 (Below w.heap.size w wc))
   case first =>
    have H := HC7.out
    clear HC7
    by_cases c8 : x7_1 < (t113.length : Int)
    ·rw [if_pos c8] at H
     have c8b0 : decide (x7_1 < (t113.length : Int)) = true := decide_eq_true c8
     clear c8
     (first | rw [c8b0] | (simp only [i64_w, i32_w]; rw [c8b0]) | skip)
     have H' := Aside0.mk H
     clear H
     obtain ⟨Ao9, co9, eo9⟩ := Kd.R_slice HO_5.out
     subst eo9
     obtain ⟨Ao10, co10, eo10⟩ := Kd.R_slice HO_6.out
     subst eo10
     go_wp2
     repeat (go_quiet (fail); try go_wp2)
     go_meet
     case rel => exact ⟨_, (decide (x7_1 < (t116.length : Int))), (by first | rfl | (simp; done) | (simp [*]; done)), H', ⟨by have := HK1.out; first | omega | exact Nat.le_refl _⟩, ⟨by (with_reducible repeat (first | apply Kd.R_alloc | apply Kd.R_drewN | apply Kd.R_drew)); exact HO_5.out⟩, ⟨by (with_reducible repeat (first | apply Kd.R_alloc | apply Kd.R_drewN | apply Kd.R_drew)); exact HO_6.out⟩, ⟨by repeat (first | (with_reducible first | exact HB.out | apply below_alloc | apply pw_below_drewN | apply below_drew1) | exact HB.out)⟩⟩
    ·rw [if_neg c8] at H
     have c8b0 : decide (x7_1 < (t113.length : Int)) = false := decide_eq_false c8
     clear c8
     (first | rw [c8b0] | (simp only [i64_w, i32_w]; rw [c8b0]) | skip)
     have H' := Aside0.mk H
     clear H
     obtain ⟨Ao11, co11, eo11⟩ := Kd.R_slice HO_5.out
     subst eo11
     go_wp2
     repeat (go_quiet (fail); try go_wp2)
     go_meet
     case rel => exact ⟨_, (false), (by first | rfl | (simp; done) | (simp [*]; done)), H', ⟨by have := HK1.out; first | omega | exact Nat.le_refl _⟩, ⟨by (with_reducible repeat (first | apply Kd.R_alloc | apply Kd.R_drewN | apply Kd.R_drew)); exact HO_5.out⟩, ⟨by (with_reducible repeat (first | apply Kd.R_alloc | apply Kd.R_drewN | apply Kd.R_drew)); exact HO_6.out⟩, ⟨by repeat (first | (with_reducible first | exact HB.out | apply below_alloc | apply pw_below_drewN | apply below_drew1) | exact HB.out)⟩⟩
   case rest =>
    clear HC7
    try clear p2
    try clear c5
    try clear c8
    try clear c8b0
    try clear p2
    obtain ⟨kq, x22_6, rfl, HA, HJ6, HO_5, HO_6, HB⟩ := hcut
    cases kq with
    | zero => exact absurd HA.out (by simp [copseref02_Cmp.j1])
    | succ kj6 =>
     have H := HA.out
     clear HA
     simp only [copseref02_Cmp.j1] at H
     by_cases c12 : x22_6 = true
     ·subst c12
      rw [if_pos rfl] at H
      have H1 := H
      clear H
      have H := H1
      clear H1
      by_cases c13 : 0 ≤ x7_1
      ·rw [if_pos c13] at H
       have c13b0 : decide (0 ≤ x7_1) = true := decide_eq_true c13
       clear c13
       by_cases c14 : x7_1 < (t113.length : Int)
       ·rw [if_pos c14] at H
        have c14b0 : decide (x7_1 < (t113.length : Int)) = true := decide_eq_true c14
        clear c14
        by_cases c15 : x7_1 < (t116.length : Int)
        ·rw [if_pos c15] at H
         have c15b0 : decide (x7_1 < (t116.length : Int)) = true := decide_eq_true c15
         clear c15
         replace H := Option.bind_eq_some_iff.mp H
         obtain ⟨t121, A160, H⟩ := H
         try dsimp only at H
         have A16 := Aside0.mk A160
         clear A160
         by_cases c17 : t121 = 0
         ·rw [if_pos c17] at H
          have c17b0 : (t121 == 0) = true := beq_iff_eq.mpr c17
          have c17b1 : (t121 != 0) = false := bne_eq_false_iff_eq.mpr c17
          clear c17
          have H' := Aside0.mk H
          clear H
          obtain ⟨Ao18, co18, eo18⟩ := Kd.R_slice HO_5.out
          subst eo18
          have p119 : 0 ≤ (x7_1 : Int) := of_decide_eq_true (by first | (with_reducible assumption) | assumption)
          have q119 : x7_1 < (t113.length : Int) := of_decide_eq_true (by first | (with_reducible assumption) | assumption)
          obtain ⟨ad119, e119, hx119_0⟩ := Kd.at_string (Kd.R_reads' HO_5.out).2.2 x7_1 p119 q119
          cases e119
          replace p119 := eq_true p119
          replace q119 := eq_true q119
          obtain ⟨Ao19, co19, eo19⟩ := Kd.R_slice HO_6.out
          subst eo19
          have p120 : 0 ≤ (x7_1 : Int) := of_decide_eq_true (by first | (with_reducible assumption) | assumption)
          have q120 : x7_1 < (t116.length : Int) := of_decide_eq_true (by first | (with_reducible assumption) | assumption)
          obtain ⟨ad120, e120, hx120_0⟩ := Kd.at_string (Kd.R_reads' HO_6.out).2.2 x7_1 p120 q120
          cases e120
          replace p120 := eq_true p120
          replace q120 := eq_true q120
          go_wp2_with (first | (go_at_call 80; (with_reducible refine (copseref02_bytes.calls kj6 (rdOf ByteArray.empty t113 x7_1) (rdOf ByteArray.empty t116 x7_1) t121 _ A16.out).mono ?_); rintro e w' ⟨rfl, ⟨nd, rfl⟩⟩; (try first | exact ⟨rfl, _, World.drewN_drewN _ _ _⟩ | exact ⟨rfl, _, Eq.trans (World.drewN_drewN _ _ _) (congrArg (World.drewN _) (Nat.add_assoc _ _ _))⟩)))
          repeat (go_quiet (first | (go_at_call 80; (with_reducible refine (copseref02_bytes.calls kj6 (rdOf ByteArray.empty t113 x7_1) (rdOf ByteArray.empty t116 x7_1) t121 _ A16.out).mono ?_); rintro e w' ⟨rfl, ⟨nd, rfl⟩⟩; (try first | exact ⟨rfl, _, World.drewN_drewN _ _ _⟩ | exact ⟨rfl, _, Eq.trans (World.drewN_drewN _ _ _) (congrArg (World.drewN _) (Nat.add_assoc _ _ _))⟩))); try go_wp2_with (first | (go_at_call 80; (with_reducible refine (copseref02_bytes.calls kj6 (rdOf ByteArray.empty t113 x7_1) (rdOf ByteArray.empty t116 x7_1) t121 _ A16.out).mono ?_); rintro e w' ⟨rfl, ⟨nd, rfl⟩⟩; (try first | exact ⟨rfl, _, World.drewN_drewN _ _ _⟩ | exact ⟨rfl, _, Eq.trans (World.drewN_drewN _ _ _) (congrArg (World.drewN _) (Nat.add_assoc _ _ _))⟩))))
          go_roundg kj6
          case measure => have := HK1.out; have := HJ6.out; omega
          case rel => exact ⟨(wrap64 (x7_1 + 1)), (by first | rfl | (simp; done) | (simp [*]; done)), H', ⟨by have := HK1.out; have := HJ6.out; omega⟩, ⟨by (with_reducible repeat (first | apply Kd.R_alloc | apply Kd.R_drewN | apply Kd.R_drew)); exact HO_5.out⟩, ⟨by (with_reducible repeat (first | apply Kd.R_alloc | apply Kd.R_drewN | apply Kd.R_drew)); exact HO_6.out⟩, ⟨by repeat (first | (with_reducible first | exact HB.out | apply below_alloc | apply pw_below_drewN | apply below_drew1) | exact HB.out)⟩⟩
         ·rw [if_neg c17] at H
          have c17b0 : (t121 == 0) = false := beq_eq_false_iff_ne.mpr c17
          have c17b1 : (t121 != 0) = true := bne_iff_ne.mpr c17
          obtain rfl := Option.some.inj H
          obtain ⟨Ao20, co20, eo20⟩ := Kd.R_slice HO_5.out
          subst eo20
          have p119 : 0 ≤ (x7_1 : Int) := of_decide_eq_true (by first | (with_reducible assumption) | assumption)
          have q119 : x7_1 < (t113.length : Int) := of_decide_eq_true (by first | (with_reducible assumption) | assumption)
          obtain ⟨ad119, e119, hx119_0⟩ := Kd.at_string (Kd.R_reads' HO_5.out).2.2 x7_1 p119 q119
          cases e119
          replace p119 := eq_true p119
          replace q119 := eq_true q119
          obtain ⟨Ao21, co21, eo21⟩ := Kd.R_slice HO_6.out
          subst eo21
          have p120 : 0 ≤ (x7_1 : Int) := of_decide_eq_true (by first | (with_reducible assumption) | assumption)
          have q120 : x7_1 < (t116.length : Int) := of_decide_eq_true (by first | (with_reducible assumption) | assumption)
          obtain ⟨ad120, e120, hx120_0⟩ := Kd.at_string (Kd.R_reads' HO_6.out).2.2 x7_1 p120 q120
          cases e120
          replace p120 := eq_true p120
          replace q120 := eq_true q120
          go_wp2_with (first | (go_at_call 80; (with_reducible refine (copseref02_bytes.calls kj6 (rdOf ByteArray.empty t113 x7_1) (rdOf ByteArray.empty t116 x7_1) t121 _ A16.out).mono ?_); rintro e w' ⟨rfl, ⟨nd, rfl⟩⟩; (try first | exact ⟨rfl, _, World.drewN_drewN _ _ _⟩ | exact ⟨rfl, _, Eq.trans (World.drewN_drewN _ _ _) (congrArg (World.drewN _) (Nat.add_assoc _ _ _))⟩)))
          repeat (go_quiet (first | (go_at_call 80; (with_reducible refine (copseref02_bytes.calls kj6 (rdOf ByteArray.empty t113 x7_1) (rdOf ByteArray.empty t116 x7_1) t121 _ A16.out).mono ?_); rintro e w' ⟨rfl, ⟨nd, rfl⟩⟩; (try first | exact ⟨rfl, _, World.drewN_drewN _ _ _⟩ | exact ⟨rfl, _, Eq.trans (World.drewN_drewN _ _ _) (congrArg (World.drewN _) (Nat.add_assoc _ _ _))⟩))); try go_wp2_with (first | (go_at_call 80; (with_reducible refine (copseref02_bytes.calls kj6 (rdOf ByteArray.empty t113 x7_1) (rdOf ByteArray.empty t116 x7_1) t121 _ A16.out).mono ?_); rintro e w' ⟨rfl, ⟨nd, rfl⟩⟩; (try first | exact ⟨rfl, _, World.drewN_drewN _ _ _⟩ | exact ⟨rfl, _, Eq.trans (World.drewN_drewN _ _ _) (congrArg (World.drewN _) (Nat.add_assoc _ _ _))⟩))))
          go_ret
          exact ⟨by first | rfl | (simp [errW_none, errW_some] <;> rfl) | (simp [*, errW_none, errW_some] <;> rfl), by repeat (first | (with_reducible first | exact HB.out | apply below_alloc | apply pw_below_drewN | apply below_drew1) | exact HB.out)⟩
        ·rw [if_neg c15] at H
         exact absurd H (by simp)
       ·rw [if_neg c14] at H
        exact absurd H (by simp)
      ·rw [if_neg c13] at H
       exact absurd H (by simp)
     ·replace c12 := Bool.eq_false_iff.mpr c12
      subst c12
      have H1 : (if (t113.length : Int) < (t116.length : Int) then (some (-1)) else (if (t113.length : Int) > (t116.length : Int) then (some 1) else (some 0))) = some r := by rw [if_neg (show ¬ (false = true) by decide)] at H; exact H
      clear H
      have H := H1
      clear H1
      by_cases c22 : (t113.length : Int) < (t116.length : Int)
      ·rw [if_pos c22] at H
       have c22b0 : decide ((t113.length : Int) < (t116.length : Int)) = true := decide_eq_true c22
       have c22b1 : decide (t113.length < t116.length) = true := decide_eq_true (Int.ofNat_lt.mp c22)
       clear c22
       obtain rfl := Option.some.inj H
       obtain ⟨Ao23, co23, eo23⟩ := Kd.R_slice HO_5.out
       subst eo23
       obtain ⟨Ao24, co24, eo24⟩ := Kd.R_slice HO_6.out
       subst eo24
       go_wp2
       repeat (go_quiet (fail); try go_wp2)
       go_ret
       exact ⟨by first | rfl | (simp [errW_none, errW_some] <;> rfl) | (simp [*, errW_none, errW_some] <;> rfl), by repeat (first | (with_reducible first | exact HB.out | apply below_alloc | apply pw_below_drewN | apply below_drew1) | exact HB.out)⟩
      ·rw [if_neg c22] at H
       have c22b0 : decide ((t113.length : Int) < (t116.length : Int)) = false := decide_eq_false c22
       have c22b1 : decide (t113.length < t116.length) = false := decide_eq_false (fun h => c22 (Int.ofNat_lt.mpr h))
       clear c22
       by_cases c25 : (t113.length : Int) > (t116.length : Int)
       ·rw [if_pos c25] at H
        have c25b0 : decide ((t116.length : Int) < (t113.length : Int)) = true := decide_eq_true c25
        have c25b1 : decide (t116.length < t113.length) = true := decide_eq_true (Int.ofNat_lt.mp c25)
        clear c25
        obtain rfl := Option.some.inj H
        obtain ⟨Ao26, co26, eo26⟩ := Kd.R_slice HO_5.out
        subst eo26
        obtain ⟨Ao27, co27, eo27⟩ := Kd.R_slice HO_6.out
        subst eo27
        go_wp2
        repeat (go_quiet (fail); try go_wp2)
        go_ret
        exact ⟨by first | rfl | (simp [errW_none, errW_some] <;> rfl) | (simp [*, errW_none, errW_some] <;> rfl), by repeat (first | (with_reducible first | exact HB.out | apply below_alloc | apply pw_below_drewN | apply below_drew1) | exact HB.out)⟩
       ·rw [if_neg c25] at H
        have c25b0 : decide ((t116.length : Int) < (t113.length : Int)) = false := decide_eq_false c25
        have c25b1 : decide (t116.length < t113.length) = false := decide_eq_false (fun h => c25 (Int.ofNat_lt.mpr h))
        clear c25
        obtain rfl := Option.some.inj H
        obtain ⟨Ao28, co28, eo28⟩ := Kd.R_slice HO_5.out
        subst eo28
        obtain ⟨Ao29, co29, eo29⟩ := Kd.R_slice HO_6.out
        subst eo29
        go_wp2
        repeat (go_quiet (fail); try go_wp2)
        go_ret
        exact ⟨by first | rfl | (simp [errW_none, errW_some] <;> rfl) | (simp [*, errW_none, errW_some] <;> rfl), by repeat (first | (with_reducible first | exact HB.out | apply below_alloc | apply pw_below_drewN | apply below_drew1) | exact HB.out)⟩
end Go.Proofs.YtdfkaclflmgkeaaDoor.PAll
