/- What functions of the program compute, each with its walk: a contract for every world and every argument of the kind told. -/
import Derived.Test.YtehfogjibhnabaaGreatDoorDtPAllx0
import Derived.Test.YtehfogjibhnabaaGreatDoorDtHandA
namespace Go.Proofs.YtehfogjibhnabaaGreatDoor.PAll
open Go.RowKit Go.Proofs.YtehfogjibhnabaaGreatDoorW.PrintWords Go.Proofs.YtehfogjibhnabaaGreatDoorW.PrintLast Go.Proofs.YtehfogjibhnabaaGreatDoorW.PrintMore
attribute [local go_sem] max2_int min2_int max_two min_two max_three min_three max_four min_four
set_option linter.unusedVariables false
set_option linter.unusedSimpArgs false
mutual
def path_Component.j0 : Nat → ByteArray → Bool → Option (Bool)
 | 0, _, _ => none
 | k + 1, x0, x23 => if x23 = true then (some false) else (path_Component.l0 k x0 (x0.size : Int) 0)
def path_Component.l0 : Nat → ByteArray → Int → Int → Option (Bool)
 | 0, _, _, _ => none
 | k + 1, x0, x25, x26 => if x26 < x25 then (if 0 ≤ x26 then (if x26 < (x0.size : Int) then (if 97 ≤ (bt x0 x26) then (if (bt x0 x26) ≤ 122 then (path_Component.l0 k x0 x25 (wrap64 (x26 + 1))) else (if 65 ≤ (bt x0 x26) then (if (bt x0 x26) ≤ 90 then (path_Component.l0 k x0 x25 (wrap64 (x26 + 1))) else (if 48 ≤ (bt x0 x26) then (if (bt x0 x26) ≤ 57 then (path_Component.l0 k x0 x25 (wrap64 (x26 + 1))) else (if (bt x0 x26) = 46 then (path_Component.l0 k x0 x25 (wrap64 (x26 + 1))) else (if (bt x0 x26) = 95 then (path_Component.l0 k x0 x25 (wrap64 (x26 + 1))) else (if ((bt x0 x26) = 45) then (path_Component.l0 k x0 x25 (wrap64 (x26 + 1))) else (some false))))) else (if (bt x0 x26) = 46 then (path_Component.l0 k x0 x25 (wrap64 (x26 + 1))) else (if (bt x0 x26) = 95 then (path_Component.l0 k x0 x25 (wrap64 (x26 + 1))) else (if ((bt x0 x26) = 45) then (path_Component.l0 k x0 x25 (wrap64 (x26 + 1))) else (some false)))))) else (if 48 ≤ (bt x0 x26) then (if (bt x0 x26) ≤ 57 then (path_Component.l0 k x0 x25 (wrap64 (x26 + 1))) else (if (bt x0 x26) = 46 then (path_Component.l0 k x0 x25 (wrap64 (x26 + 1))) else (if (bt x0 x26) = 95 then (path_Component.l0 k x0 x25 (wrap64 (x26 + 1))) else (if ((bt x0 x26) = 45) then (path_Component.l0 k x0 x25 (wrap64 (x26 + 1))) else (some false))))) else (if (bt x0 x26) = 46 then (path_Component.l0 k x0 x25 (wrap64 (x26 + 1))) else (if (bt x0 x26) = 95 then (path_Component.l0 k x0 x25 (wrap64 (x26 + 1))) else (if ((bt x0 x26) = 45) then (path_Component.l0 k x0 x25 (wrap64 (x26 + 1))) else (some false))))))) else (if 65 ≤ (bt x0 x26) then (if (bt x0 x26) ≤ 90 then (path_Component.l0 k x0 x25 (wrap64 (x26 + 1))) else (if 48 ≤ (bt x0 x26) then (if (bt x0 x26) ≤ 57 then (path_Component.l0 k x0 x25 (wrap64 (x26 + 1))) else (if (bt x0 x26) = 46 then (path_Component.l0 k x0 x25 (wrap64 (x26 + 1))) else (if (bt x0 x26) = 95 then (path_Component.l0 k x0 x25 (wrap64 (x26 + 1))) else (if ((bt x0 x26) = 45) then (path_Component.l0 k x0 x25 (wrap64 (x26 + 1))) else (some false))))) else (if (bt x0 x26) = 46 then (path_Component.l0 k x0 x25 (wrap64 (x26 + 1))) else (if (bt x0 x26) = 95 then (path_Component.l0 k x0 x25 (wrap64 (x26 + 1))) else (if ((bt x0 x26) = 45) then (path_Component.l0 k x0 x25 (wrap64 (x26 + 1))) else (some false)))))) else (if 48 ≤ (bt x0 x26) then (if (bt x0 x26) ≤ 57 then (path_Component.l0 k x0 x25 (wrap64 (x26 + 1))) else (if (bt x0 x26) = 46 then (path_Component.l0 k x0 x25 (wrap64 (x26 + 1))) else (if (bt x0 x26) = 95 then (path_Component.l0 k x0 x25 (wrap64 (x26 + 1))) else (if ((bt x0 x26) = 45) then (path_Component.l0 k x0 x25 (wrap64 (x26 + 1))) else (some false))))) else (if (bt x0 x26) = 46 then (path_Component.l0 k x0 x25 (wrap64 (x26 + 1))) else (if (bt x0 x26) = 95 then (path_Component.l0 k x0 x25 (wrap64 (x26 + 1))) else (if ((bt x0 x26) = 45) then (path_Component.l0 k x0 x25 (wrap64 (x26 + 1))) else (some false))))))) else (none)) else (none)) else (some true)
end
def path_Component.f (k : Nat) (a0 : ByteArray) : Option (Bool) := if a0.toList = ([] : List UInt8) then (path_Component.j0 k a0 true) else (if (a0.size : Int) > 32 then (path_Component.j0 k a0 true) else (if a0.toList = ([46] : List UInt8) then (path_Component.j0 k a0 true) else (if a0.toList = ([46, 46] : List UInt8) then (path_Component.j0 k a0 true) else (path_Component.j0 k a0 (a0.toList == ([46, 46, 46] : List UInt8))))))
theorem path_Component.mono_l : ∀ k, (∀ y0 y1, LeO (path_Component.j0 k y0 y1) (path_Component.j0 (k + 1) y0 y1)) ∧ (∀ y0 y1 y2, LeO (path_Component.l0 k y0 y1 y2) (path_Component.l0 (k + 1) y0 y1 y2))
 | 0 => ⟨fun _ _ r h => by simp [path_Component.j0] at h, fun _ _ _ r h => by simp [path_Component.l0] at h⟩
 | k + 1 => by
  obtain ⟨ih0, ih1⟩ := path_Component.mono_l k
  refine ⟨?_, ?_⟩
  ·intro y0 y1
   unfold path_Component.j0
   repeat' first
   | (with_reducible exact ih0 _ _)
   | (with_reducible exact ih1 _ _ _)
   | (with_reducible exact LeO.refl _)
   | (with_reducible exact LeO.none _)
   | (with_reducible refine LeO.ite ?_ ?_)
   | (with_reducible refine LeO.bind ?_ (fun _ => ?_))
   | exact ih0 _ _
   | exact ih1 _ _ _
   | exact LeO.none _
   | refine LeO.ite ?_ ?_
   | refine LeO.bind ?_ (fun _ => ?_)
  ·intro y0 y1 y2
   unfold path_Component.l0
   repeat' first
   | (with_reducible exact ih0 _ _)
   | (with_reducible exact ih1 _ _ _)
   | (with_reducible exact LeO.refl _)
   | (with_reducible exact LeO.none _)
   | (with_reducible refine LeO.ite ?_ ?_)
   | (with_reducible refine LeO.bind ?_ (fun _ => ?_))
   | exact ih0 _ _
   | exact ih1 _ _ _
   | exact LeO.none _
   | refine LeO.ite ?_ ?_
   | refine LeO.bind ?_ (fun _ => ?_)
theorem path_Component.mono : ∀ a0 k, LeO (path_Component.f k a0) (path_Component.f (k + 1) a0) := by
 intro a0 k
 obtain ⟨ih0, ih1⟩ := path_Component.mono_l k
 unfold path_Component.f
 repeat' first
   | (with_reducible exact ih0 _ _)
   | (with_reducible exact ih1 _ _ _)
   | (with_reducible exact LeO.refl _)
   | (with_reducible exact LeO.none _)
   | (with_reducible refine LeO.ite ?_ ?_)
   | (with_reducible refine LeO.bind ?_ (fun _ => ?_))
   | exact ih0 _ _
   | exact ih1 _ _ _
   | exact LeO.none _
   | refine LeO.ite ?_ ?_
   | refine LeO.bind ?_ (fun _ => ?_)
set_option maxHeartbeats 8000000 in
set_option maxRecDepth 100000 in
theorem path_Component.calls (k : Nat) (a0 : ByteArray) (r : Bool) (w : World) (h : path_Component.f k a0 = some r) :
  Calls Tryz.prog 63 #[.string a0] w fun e w' => e = .returned (.bool r) ∧ Drawn0 w w' := by
 have H : (if a0.toList = ([] : List UInt8) then (path_Component.j0 k a0 true) else (if (a0.size : Int) > 32 then (path_Component.j0 k a0 true) else (if a0.toList = ([46] : List UInt8) then (path_Component.j0 k a0 true) else (if a0.toList = ([46, 46] : List UInt8) then (path_Component.j0 k a0 true) else (path_Component.j0 k a0 (a0.toList == ([46, 46, 46] : List UInt8))))))) = some r := h
 clear h
 have HC2 := Aside0.mk H
 clear H
 go_enter Tryz.func63, Tryz.ntmps63
 go_upto_region 1 with (fail)
 go_cut [23] (fun v23 wc => ∃ (kq : Nat) (x23_1 : Bool), v23 = .bool x23_1 ∧ Aside0 (path_Component.j0 kq a0 x23_1 = some r) ∧ Aside0 (kq ≤ k) ∧ Drawn0 w wc)
 case first =>
  have H := HC2.out
  clear HC2
  by_cases c3 : a0.toList = ([] : List UInt8)
  ·rw [if_pos c3] at H
   have c3b0 : (a0.toList == ([] : List UInt8)) = true := beq_iff_eq.mpr c3
   have c3b1 : (a0.toList != ([] : List UInt8)) = false := bne_eq_false_iff_eq.mpr c3
   clear c3
   (first | rw [c3b0] | (simp only [i64_w, i32_w]; rw [c3b0]) | skip)
   have H' := Aside0.mk H
   clear H
   go_wp2
   go_meet
   case rel => exact ⟨_, (true), (rf_), H', ⟨by first | omega | exact Nat.le_refl _⟩, dr_⟩
  rw [if_neg c3] at H
  have c3b0 : (a0.toList == ([] : List UInt8)) = false := beq_eq_false_iff_ne.mpr c3
  have c3b1 : (a0.toList != ([] : List UInt8)) = true := bne_iff_ne.mpr c3
  (first | rw [c3b0] | (simp only [i64_w, i32_w]; rw [c3b0]) | skip)
  by_cases c4 : (a0.size : Int) > 32
  ·rw [if_pos c4] at H
   have c4b0 := decide_eq_true c4
   have c4b1 : decide (32 < a0.size) = true := decide_eq_true (by omega)
   clear c4
   have H' := Aside0.mk H
   clear H
   go_wp2
   go_meet
   case rel => exact ⟨_, (true), (rf_), H', ⟨by first | omega | exact Nat.le_refl _⟩, dr_⟩
  rw [if_neg c4] at H
  have c4b0 := decide_eq_false c4
  have c4b1 : decide (32 < a0.size) = false := decide_eq_false (by omega)
  clear c4
  by_cases c5 : a0.toList = ([46] : List UInt8)
  ·rw [if_pos c5] at H
   have c5b0 : (a0.toList == ([46] : List UInt8)) = true := beq_iff_eq.mpr c5
   have c5b1 : (a0.toList != ([46] : List UInt8)) = false := bne_eq_false_iff_eq.mpr c5
   clear c5
   have H' := Aside0.mk H
   clear H
   go_wp2
   go_meet
   case rel => exact ⟨_, (true), (rf_), H', ⟨by first | omega | exact Nat.le_refl _⟩, dr_⟩
  rw [if_neg c5] at H
  have c5b0 : (a0.toList == ([46] : List UInt8)) = false := beq_eq_false_iff_ne.mpr c5
  have c5b1 : (a0.toList != ([46] : List UInt8)) = true := bne_iff_ne.mpr c5
  by_cases c6 : a0.toList = ([46, 46] : List UInt8)
  ·rw [if_pos c6] at H
   have c6b0 : (a0.toList == ([46, 46] : List UInt8)) = true := beq_iff_eq.mpr c6
   have c6b1 : (a0.toList != ([46, 46] : List UInt8)) = false := bne_eq_false_iff_eq.mpr c6
   clear c6
   have H' := Aside0.mk H
   clear H
   go_wp2
   go_meet
   case rel => exact ⟨_, (true), (rf_), H', ⟨by first | omega | exact Nat.le_refl _⟩, dr_⟩
  rw [if_neg c6] at H
  have c6b0 : (a0.toList == ([46, 46] : List UInt8)) = false := beq_eq_false_iff_ne.mpr c6
  have c6b1 : (a0.toList != ([46, 46] : List UInt8)) = true := bne_iff_ne.mpr c6
  have H' := Aside0.mk H
  clear H
  go_wp2
  go_meet
  case rel => exact ⟨_, ((a0.toList == ([46, 46, 46] : List UInt8))), (rf_), H', ⟨by first | omega | exact Nat.le_refl _⟩, dr_⟩
 case rest =>
  clear HC2
  try clear p2
  try clear c3
  try clear c3b0
  try clear c3b1
  try clear c4
  try clear c4b0
  try clear c4b1
  try clear c5
  try clear c5b0
  try clear c5b1
  try clear c6
  try clear c6b0
  try clear c6b1
  obtain ⟨kq, x23_1, rfl, HA, HJ1, ⟨mc1, rfl⟩⟩ := hcut
  cases kq with
  | zero => exact absurd HA.out (by simp [path_Component.j0])
  | succ kj1 =>
   have H := HA.out
   clear HA
   simp only [path_Component.j0] at H
   by_cases c7 : x23_1 = true
   ·subst c7
    rw [if_pos rfl] at H
    have H1 := H
    clear H
    have H := H1
    clear H1
    obtain rfl := Option.some.inj H
    go_wp2
    go_ret
    exact ⟨rf_, dr_⟩
   replace c7 := Bool.eq_false_iff.mpr c7
   subst c7
   have H1 : (path_Component.l0 kj1 a0 (a0.size : Int) 0) = some r := by rw [if_neg (show ¬ (false = true) by decide)] at H; exact H
   clear H
   have H := H1
   clear H1
   have H' := Aside0.mk H
   clear H
   go_wp2
   go_loopg [26] kj1 (fun kq v26 w' => ∃ (x26_2 : Int), v26 = .int .i64 x26_2 ∧ Aside0 (path_Component.l0 kq a0 (a0.size : Int) x26_2 = some r) ∧ Aside0 (kq ≤ kj1) ∧ Drawn0 w w')
   case atStart => exact ⟨(0), (rf_), H', ⟨Nat.le_refl _⟩, dr_⟩
   case round =>
    clear H'
    try clear c1
    try clear p2
    try clear c3
    try clear c3b0
    try clear c3b1
    try clear c4
    try clear c4b0
    try clear c4b1
    try clear c5
    try clear c5b0
    try clear c5b1
    try clear c6
    try clear c6b0
    try clear c6b1
    try clear c7
    try clear p2
    obtain ⟨x26_2, rfl, HA, HK2, ⟨m2, rfl⟩⟩ := hrel
    cases gk with
    | zero => exact absurd HA.out (by simp [path_Component.l0])
    | succ k2 =>
     have H := HA.out
     clear HA
     simp only [path_Component.l0] at H
     by_cases c8 : x26_2 < (a0.size : Int)
     rotate_left
     ·rw [if_neg c8] at H
      have c8b0 := decide_eq_false c8
      clear c8
      obtain rfl := Option.some.inj H
      go_wp2
      go_ret
      exact ⟨rf_, dr_⟩
     rw [if_pos c8] at H
     have c8b0 := decide_eq_true c8
     clear c8
     by_cases c9 : 0 ≤ x26_2
     rotate_left
     ·rw [if_neg c9] at H
      exact absurd H (by simp)
     rw [if_pos c9] at H
     have c9b0 := decide_eq_true c9
     clear c9
     by_cases c10 : x26_2 < (a0.size : Int)
     rotate_left
     ·rw [if_neg c10] at H
      exact absurd H (by simp)
     rw [if_pos c10] at H
     have c10b0 := decide_eq_true c10
     clear c10
     by_cases c12 : 97 ≤ (bt a0 x26_2)
     rotate_left
     ·rw [if_neg c12] at H
      have c12b0 := decide_eq_false c12
      clear c12
      by_cases c32 : 65 ≤ (bt a0 x26_2)
      rotate_left
      ·rw [if_neg c32] at H
       have c32b0 := decide_eq_false c32
       clear c32
       by_cases c42 : 48 ≤ (bt a0 x26_2)
       rotate_left
       ·rw [if_neg c42] at H
        have c42b0 := decide_eq_false c42
        clear c42
        by_cases c47 : (bt a0 x26_2) = 46
        ·rw [if_pos c47] at H
         have c47b0 : ((bt a0 x26_2) == 46) = true := beq_iff_eq.mpr c47
         have c47b1 : ((bt a0 x26_2) != 46) = false := bne_eq_false_iff_eq.mpr c47
         clear c47
         have H' := Aside0.mk H
         clear H
         have p11 : 0 ≤ (x26_2 : Int) := of_decide_eq_true (by assumption)
         have q11 : x26_2 < (a0.size : Int) := of_decide_eq_true (by assumption)
         have hx11 := bt_at a0 x26_2
         replace p11 := eq_true p11
         replace q11 := eq_true q11
         go_wp2
         go_roundg k2
         case measure => have := HJ1.out; have := HK2.out; omega
         case rel => exact ⟨(wrap64 (x26_2 + 1)), (rf_), H', ⟨by have := HJ1.out; have := HK2.out; omega⟩, dr_⟩
        rw [if_neg c47] at H
        have c47b0 : ((bt a0 x26_2) == 46) = false := beq_eq_false_iff_ne.mpr c47
        have c47b1 : ((bt a0 x26_2) != 46) = true := bne_iff_ne.mpr c47
        by_cases c48 : (bt a0 x26_2) = 95
        ·rw [if_pos c48] at H
         have c48b0 : ((bt a0 x26_2) == 95) = true := beq_iff_eq.mpr c48
         have c48b1 : ((bt a0 x26_2) != 95) = false := bne_eq_false_iff_eq.mpr c48
         clear c48
         have H' := Aside0.mk H
         clear H
         have p11 : 0 ≤ (x26_2 : Int) := of_decide_eq_true (by assumption)
         have q11 : x26_2 < (a0.size : Int) := of_decide_eq_true (by assumption)
         have hx11 := bt_at a0 x26_2
         replace p11 := eq_true p11
         replace q11 := eq_true q11
         go_wp2
         go_roundg k2
         case measure => have := HJ1.out; have := HK2.out; omega
         case rel => exact ⟨(wrap64 (x26_2 + 1)), (rf_), H', ⟨by have := HJ1.out; have := HK2.out; omega⟩, dr_⟩
        rw [if_neg c48] at H
        have c48b0 : ((bt a0 x26_2) == 95) = false := beq_eq_false_iff_ne.mpr c48
        have c48b1 : ((bt a0 x26_2) != 95) = true := bne_iff_ne.mpr c48
        by_cases c49 : ((bt a0 x26_2) = 45)
        ·rw [if_pos c49] at H
         have c49b0 : ((bt a0 x26_2) == 45) = true := beq_iff_eq.mpr c49
         have c49b1 : ((bt a0 x26_2) != 45) = false := bne_eq_false_iff_eq.mpr c49
         clear c49
         have H' := Aside0.mk H
         clear H
         have p11 : 0 ≤ (x26_2 : Int) := of_decide_eq_true (by assumption)
         have q11 : x26_2 < (a0.size : Int) := of_decide_eq_true (by assumption)
         have hx11 := bt_at a0 x26_2
         replace p11 := eq_true p11
         replace q11 := eq_true q11
         go_wp2
         go_roundg k2
         case measure => have := HJ1.out; have := HK2.out; omega
         case rel => exact ⟨(wrap64 (x26_2 + 1)), (rf_), H', ⟨by have := HJ1.out; have := HK2.out; omega⟩, dr_⟩
        rw [if_neg c49] at H
        have c49b0 : ((bt a0 x26_2) == 45) = false := beq_eq_false_iff_ne.mpr c49
        have c49b1 : ((bt a0 x26_2) != 45) = true := bne_iff_ne.mpr c49
        obtain rfl := Option.some.inj H
        have p11 : 0 ≤ (x26_2 : Int) := of_decide_eq_true (by assumption)
        have q11 : x26_2 < (a0.size : Int) := of_decide_eq_true (by assumption)
        have hx11 := bt_at a0 x26_2
        replace p11 := eq_true p11
        replace q11 := eq_true q11
        go_wp2
        go_ret
        exact ⟨rf_, dr_⟩
       rw [if_pos c42] at H
       have c42b0 := decide_eq_true c42
       clear c42
       by_cases c43 : (bt a0 x26_2) ≤ 57
       ·rw [if_pos c43] at H
        have c43b0 := decide_eq_true c43
        clear c43
        have H' := Aside0.mk H
        clear H
        have p11 : 0 ≤ (x26_2 : Int) := of_decide_eq_true (by assumption)
        have q11 : x26_2 < (a0.size : Int) := of_decide_eq_true (by assumption)
        have hx11 := bt_at a0 x26_2
        replace p11 := eq_true p11
        replace q11 := eq_true q11
        go_wp2
        go_roundg k2
        case measure => have := HJ1.out; have := HK2.out; omega
        case rel => exact ⟨(wrap64 (x26_2 + 1)), (rf_), H', ⟨by have := HJ1.out; have := HK2.out; omega⟩, dr_⟩
       rw [if_neg c43] at H
       have c43b0 := decide_eq_false c43
       clear c43
       by_cases c44 : (bt a0 x26_2) = 46
       ·rw [if_pos c44] at H
        have c44b0 : ((bt a0 x26_2) == 46) = true := beq_iff_eq.mpr c44
        have c44b1 : ((bt a0 x26_2) != 46) = false := bne_eq_false_iff_eq.mpr c44
        clear c44
        have H' := Aside0.mk H
        clear H
        have p11 : 0 ≤ (x26_2 : Int) := of_decide_eq_true (by assumption)
        have q11 : x26_2 < (a0.size : Int) := of_decide_eq_true (by assumption)
        have hx11 := bt_at a0 x26_2
        replace p11 := eq_true p11
        replace q11 := eq_true q11
        go_wp2
        go_roundg k2
        case measure => have := HJ1.out; have := HK2.out; omega
        case rel => exact ⟨(wrap64 (x26_2 + 1)), (rf_), H', ⟨by have := HJ1.out; have := HK2.out; omega⟩, dr_⟩
       rw [if_neg c44] at H
       have c44b0 : ((bt a0 x26_2) == 46) = false := beq_eq_false_iff_ne.mpr c44
       have c44b1 : ((bt a0 x26_2) != 46) = true := bne_iff_ne.mpr c44
       by_cases c45 : (bt a0 x26_2) = 95
       ·rw [if_pos c45] at H
        have c45b0 : ((bt a0 x26_2) == 95) = true := beq_iff_eq.mpr c45
        have c45b1 : ((bt a0 x26_2) != 95) = false := bne_eq_false_iff_eq.mpr c45
        clear c45
        have H' := Aside0.mk H
        clear H
        have p11 : 0 ≤ (x26_2 : Int) := of_decide_eq_true (by assumption)
        have q11 : x26_2 < (a0.size : Int) := of_decide_eq_true (by assumption)
        have hx11 := bt_at a0 x26_2
        replace p11 := eq_true p11
        replace q11 := eq_true q11
        go_wp2
        go_roundg k2
        case measure => have := HJ1.out; have := HK2.out; omega
        case rel => exact ⟨(wrap64 (x26_2 + 1)), (rf_), H', ⟨by have := HJ1.out; have := HK2.out; omega⟩, dr_⟩
       rw [if_neg c45] at H
       have c45b0 : ((bt a0 x26_2) == 95) = false := beq_eq_false_iff_ne.mpr c45
       have c45b1 : ((bt a0 x26_2) != 95) = true := bne_iff_ne.mpr c45
       by_cases c46 : ((bt a0 x26_2) = 45)
       ·rw [if_pos c46] at H
        have c46b0 : ((bt a0 x26_2) == 45) = true := beq_iff_eq.mpr c46
        have c46b1 : ((bt a0 x26_2) != 45) = false := bne_eq_false_iff_eq.mpr c46
        clear c46
        have H' := Aside0.mk H
        clear H
        have p11 : 0 ≤ (x26_2 : Int) := of_decide_eq_true (by assumption)
        have q11 : x26_2 < (a0.size : Int) := of_decide_eq_true (by assumption)
        have hx11 := bt_at a0 x26_2
        replace p11 := eq_true p11
        replace q11 := eq_true q11
        go_wp2
        go_roundg k2
        case measure => have := HJ1.out; have := HK2.out; omega
        case rel => exact ⟨(wrap64 (x26_2 + 1)), (rf_), H', ⟨by have := HJ1.out; have := HK2.out; omega⟩, dr_⟩
       rw [if_neg c46] at H
       have c46b0 : ((bt a0 x26_2) == 45) = false := beq_eq_false_iff_ne.mpr c46
       have c46b1 : ((bt a0 x26_2) != 45) = true := bne_iff_ne.mpr c46
       obtain rfl := Option.some.inj H
       have p11 : 0 ≤ (x26_2 : Int) := of_decide_eq_true (by assumption)
       have q11 : x26_2 < (a0.size : Int) := of_decide_eq_true (by assumption)
       have hx11 := bt_at a0 x26_2
       replace p11 := eq_true p11
       replace q11 := eq_true q11
       go_wp2
       go_ret
       exact ⟨rf_, dr_⟩
      rw [if_pos c32] at H
      have c32b0 := decide_eq_true c32
      clear c32
      by_cases c33 : (bt a0 x26_2) ≤ 90
      ·rw [if_pos c33] at H
       have c33b0 := decide_eq_true c33
       clear c33
       have H' := Aside0.mk H
       clear H
       have p11 : 0 ≤ (x26_2 : Int) := of_decide_eq_true (by assumption)
       have q11 : x26_2 < (a0.size : Int) := of_decide_eq_true (by assumption)
       have hx11 := bt_at a0 x26_2
       replace p11 := eq_true p11
       replace q11 := eq_true q11
       go_wp2
       go_roundg k2
       case measure => have := HJ1.out; have := HK2.out; omega
       case rel => exact ⟨(wrap64 (x26_2 + 1)), (rf_), H', ⟨by have := HJ1.out; have := HK2.out; omega⟩, dr_⟩
      rw [if_neg c33] at H
      have c33b0 := decide_eq_false c33
      clear c33
      by_cases c34 : 48 ≤ (bt a0 x26_2)
      rotate_left
      ·rw [if_neg c34] at H
       have c34b0 := decide_eq_false c34
       clear c34
       by_cases c39 : (bt a0 x26_2) = 46
       ·rw [if_pos c39] at H
        have c39b0 : ((bt a0 x26_2) == 46) = true := beq_iff_eq.mpr c39
        have c39b1 : ((bt a0 x26_2) != 46) = false := bne_eq_false_iff_eq.mpr c39
        clear c39
        have H' := Aside0.mk H
        clear H
        have p11 : 0 ≤ (x26_2 : Int) := of_decide_eq_true (by assumption)
        have q11 : x26_2 < (a0.size : Int) := of_decide_eq_true (by assumption)
        have hx11 := bt_at a0 x26_2
        replace p11 := eq_true p11
        replace q11 := eq_true q11
        go_wp2
        go_roundg k2
        case measure => have := HJ1.out; have := HK2.out; omega
        case rel => exact ⟨(wrap64 (x26_2 + 1)), (rf_), H', ⟨by have := HJ1.out; have := HK2.out; omega⟩, dr_⟩
       rw [if_neg c39] at H
       have c39b0 : ((bt a0 x26_2) == 46) = false := beq_eq_false_iff_ne.mpr c39
       have c39b1 : ((bt a0 x26_2) != 46) = true := bne_iff_ne.mpr c39
       by_cases c40 : (bt a0 x26_2) = 95
       ·rw [if_pos c40] at H
        have c40b0 : ((bt a0 x26_2) == 95) = true := beq_iff_eq.mpr c40
        have c40b1 : ((bt a0 x26_2) != 95) = false := bne_eq_false_iff_eq.mpr c40
        clear c40
        have H' := Aside0.mk H
        clear H
        have p11 : 0 ≤ (x26_2 : Int) := of_decide_eq_true (by assumption)
        have q11 : x26_2 < (a0.size : Int) := of_decide_eq_true (by assumption)
        have hx11 := bt_at a0 x26_2
        replace p11 := eq_true p11
        replace q11 := eq_true q11
        go_wp2
        go_roundg k2
        case measure => have := HJ1.out; have := HK2.out; omega
        case rel => exact ⟨(wrap64 (x26_2 + 1)), (rf_), H', ⟨by have := HJ1.out; have := HK2.out; omega⟩, dr_⟩
       rw [if_neg c40] at H
       have c40b0 : ((bt a0 x26_2) == 95) = false := beq_eq_false_iff_ne.mpr c40
       have c40b1 : ((bt a0 x26_2) != 95) = true := bne_iff_ne.mpr c40
       by_cases c41 : ((bt a0 x26_2) = 45)
       ·rw [if_pos c41] at H
        have c41b0 : ((bt a0 x26_2) == 45) = true := beq_iff_eq.mpr c41
        have c41b1 : ((bt a0 x26_2) != 45) = false := bne_eq_false_iff_eq.mpr c41
        clear c41
        have H' := Aside0.mk H
        clear H
        have p11 : 0 ≤ (x26_2 : Int) := of_decide_eq_true (by assumption)
        have q11 : x26_2 < (a0.size : Int) := of_decide_eq_true (by assumption)
        have hx11 := bt_at a0 x26_2
        replace p11 := eq_true p11
        replace q11 := eq_true q11
        go_wp2
        go_roundg k2
        case measure => have := HJ1.out; have := HK2.out; omega
        case rel => exact ⟨(wrap64 (x26_2 + 1)), (rf_), H', ⟨by have := HJ1.out; have := HK2.out; omega⟩, dr_⟩
       rw [if_neg c41] at H
       have c41b0 : ((bt a0 x26_2) == 45) = false := beq_eq_false_iff_ne.mpr c41
       have c41b1 : ((bt a0 x26_2) != 45) = true := bne_iff_ne.mpr c41
       obtain rfl := Option.some.inj H
       have p11 : 0 ≤ (x26_2 : Int) := of_decide_eq_true (by assumption)
       have q11 : x26_2 < (a0.size : Int) := of_decide_eq_true (by assumption)
       have hx11 := bt_at a0 x26_2
       replace p11 := eq_true p11
       replace q11 := eq_true q11
       go_wp2
       go_ret
       exact ⟨rf_, dr_⟩
      rw [if_pos c34] at H
      have c34b0 := decide_eq_true c34
      clear c34
      by_cases c35 : (bt a0 x26_2) ≤ 57
      ·rw [if_pos c35] at H
       have c35b0 := decide_eq_true c35
       clear c35
       have H' := Aside0.mk H
       clear H
       have p11 : 0 ≤ (x26_2 : Int) := of_decide_eq_true (by assumption)
       have q11 : x26_2 < (a0.size : Int) := of_decide_eq_true (by assumption)
       have hx11 := bt_at a0 x26_2
       replace p11 := eq_true p11
       replace q11 := eq_true q11
       go_wp2
       go_roundg k2
       case measure => have := HJ1.out; have := HK2.out; omega
       case rel => exact ⟨(wrap64 (x26_2 + 1)), (rf_), H', ⟨by have := HJ1.out; have := HK2.out; omega⟩, dr_⟩
      rw [if_neg c35] at H
      have c35b0 := decide_eq_false c35
      clear c35
      by_cases c36 : (bt a0 x26_2) = 46
      ·rw [if_pos c36] at H
       have c36b0 : ((bt a0 x26_2) == 46) = true := beq_iff_eq.mpr c36
       have c36b1 : ((bt a0 x26_2) != 46) = false := bne_eq_false_iff_eq.mpr c36
       clear c36
       have H' := Aside0.mk H
       clear H
       have p11 : 0 ≤ (x26_2 : Int) := of_decide_eq_true (by assumption)
       have q11 : x26_2 < (a0.size : Int) := of_decide_eq_true (by assumption)
       have hx11 := bt_at a0 x26_2
       replace p11 := eq_true p11
       replace q11 := eq_true q11
       go_wp2
       go_roundg k2
       case measure => have := HJ1.out; have := HK2.out; omega
       case rel => exact ⟨(wrap64 (x26_2 + 1)), (rf_), H', ⟨by have := HJ1.out; have := HK2.out; omega⟩, dr_⟩
      rw [if_neg c36] at H
      have c36b0 : ((bt a0 x26_2) == 46) = false := beq_eq_false_iff_ne.mpr c36
      have c36b1 : ((bt a0 x26_2) != 46) = true := bne_iff_ne.mpr c36
      by_cases c37 : (bt a0 x26_2) = 95
      ·rw [if_pos c37] at H
       have c37b0 : ((bt a0 x26_2) == 95) = true := beq_iff_eq.mpr c37
       have c37b1 : ((bt a0 x26_2) != 95) = false := bne_eq_false_iff_eq.mpr c37
       clear c37
       have H' := Aside0.mk H
       clear H
       have p11 : 0 ≤ (x26_2 : Int) := of_decide_eq_true (by assumption)
       have q11 : x26_2 < (a0.size : Int) := of_decide_eq_true (by assumption)
       have hx11 := bt_at a0 x26_2
       replace p11 := eq_true p11
       replace q11 := eq_true q11
       go_wp2
       go_roundg k2
       case measure => have := HJ1.out; have := HK2.out; omega
       case rel => exact ⟨(wrap64 (x26_2 + 1)), (rf_), H', ⟨by have := HJ1.out; have := HK2.out; omega⟩, dr_⟩
      rw [if_neg c37] at H
      have c37b0 : ((bt a0 x26_2) == 95) = false := beq_eq_false_iff_ne.mpr c37
      have c37b1 : ((bt a0 x26_2) != 95) = true := bne_iff_ne.mpr c37
      by_cases c38 : ((bt a0 x26_2) = 45)
      ·rw [if_pos c38] at H
       have c38b0 : ((bt a0 x26_2) == 45) = true := beq_iff_eq.mpr c38
       have c38b1 : ((bt a0 x26_2) != 45) = false := bne_eq_false_iff_eq.mpr c38
       clear c38
       have H' := Aside0.mk H
       clear H
       have p11 : 0 ≤ (x26_2 : Int) := of_decide_eq_true (by assumption)
       have q11 : x26_2 < (a0.size : Int) := of_decide_eq_true (by assumption)
       have hx11 := bt_at a0 x26_2
       replace p11 := eq_true p11
       replace q11 := eq_true q11
       go_wp2
       go_roundg k2
       case measure => have := HJ1.out; have := HK2.out; omega
       case rel => exact ⟨(wrap64 (x26_2 + 1)), (rf_), H', ⟨by have := HJ1.out; have := HK2.out; omega⟩, dr_⟩
      rw [if_neg c38] at H
      have c38b0 : ((bt a0 x26_2) == 45) = false := beq_eq_false_iff_ne.mpr c38
      have c38b1 : ((bt a0 x26_2) != 45) = true := bne_iff_ne.mpr c38
      obtain rfl := Option.some.inj H
      have p11 : 0 ≤ (x26_2 : Int) := of_decide_eq_true (by assumption)
      have q11 : x26_2 < (a0.size : Int) := of_decide_eq_true (by assumption)
      have hx11 := bt_at a0 x26_2
      replace p11 := eq_true p11
      replace q11 := eq_true q11
      go_wp2
      go_ret
      exact ⟨rf_, dr_⟩
     rw [if_pos c12] at H
     have c12b0 := decide_eq_true c12
     clear c12
     by_cases c13 : (bt a0 x26_2) ≤ 122
     ·rw [if_pos c13] at H
      have c13b0 := decide_eq_true c13
      clear c13
      have H' := Aside0.mk H
      clear H
      have p11 : 0 ≤ (x26_2 : Int) := of_decide_eq_true (by assumption)
      have q11 : x26_2 < (a0.size : Int) := of_decide_eq_true (by assumption)
      have hx11 := bt_at a0 x26_2
      replace p11 := eq_true p11
      replace q11 := eq_true q11
      go_wp2
      go_roundg k2
      case measure => have := HJ1.out; have := HK2.out; omega
      case rel => exact ⟨(wrap64 (x26_2 + 1)), (rf_), H', ⟨by have := HJ1.out; have := HK2.out; omega⟩, dr_⟩
     rw [if_neg c13] at H
     have c13b0 := decide_eq_false c13
     clear c13
     by_cases c14 : 65 ≤ (bt a0 x26_2)
     rotate_left
     ·rw [if_neg c14] at H
      have c14b0 := decide_eq_false c14
      clear c14
      by_cases c24 : 48 ≤ (bt a0 x26_2)
      rotate_left
      ·rw [if_neg c24] at H
       have c24b0 := decide_eq_false c24
       clear c24
       by_cases c29 : (bt a0 x26_2) = 46
       ·rw [if_pos c29] at H
        have c29b0 : ((bt a0 x26_2) == 46) = true := beq_iff_eq.mpr c29
        have c29b1 : ((bt a0 x26_2) != 46) = false := bne_eq_false_iff_eq.mpr c29
        clear c29
        have H' := Aside0.mk H
        clear H
        have p11 : 0 ≤ (x26_2 : Int) := of_decide_eq_true (by assumption)
        have q11 : x26_2 < (a0.size : Int) := of_decide_eq_true (by assumption)
        have hx11 := bt_at a0 x26_2
        replace p11 := eq_true p11
        replace q11 := eq_true q11
        go_wp2
        go_roundg k2
        case measure => have := HJ1.out; have := HK2.out; omega
        case rel => exact ⟨(wrap64 (x26_2 + 1)), (rf_), H', ⟨by have := HJ1.out; have := HK2.out; omega⟩, dr_⟩
       rw [if_neg c29] at H
       have c29b0 : ((bt a0 x26_2) == 46) = false := beq_eq_false_iff_ne.mpr c29
       have c29b1 : ((bt a0 x26_2) != 46) = true := bne_iff_ne.mpr c29
       by_cases c30 : (bt a0 x26_2) = 95
       ·rw [if_pos c30] at H
        have c30b0 : ((bt a0 x26_2) == 95) = true := beq_iff_eq.mpr c30
        have c30b1 : ((bt a0 x26_2) != 95) = false := bne_eq_false_iff_eq.mpr c30
        clear c30
        have H' := Aside0.mk H
        clear H
        have p11 : 0 ≤ (x26_2 : Int) := of_decide_eq_true (by assumption)
        have q11 : x26_2 < (a0.size : Int) := of_decide_eq_true (by assumption)
        have hx11 := bt_at a0 x26_2
        replace p11 := eq_true p11
        replace q11 := eq_true q11
        go_wp2
        go_roundg k2
        case measure => have := HJ1.out; have := HK2.out; omega
        case rel => exact ⟨(wrap64 (x26_2 + 1)), (rf_), H', ⟨by have := HJ1.out; have := HK2.out; omega⟩, dr_⟩
       rw [if_neg c30] at H
       have c30b0 : ((bt a0 x26_2) == 95) = false := beq_eq_false_iff_ne.mpr c30
       have c30b1 : ((bt a0 x26_2) != 95) = true := bne_iff_ne.mpr c30
       by_cases c31 : ((bt a0 x26_2) = 45)
       ·rw [if_pos c31] at H
        have c31b0 : ((bt a0 x26_2) == 45) = true := beq_iff_eq.mpr c31
        have c31b1 : ((bt a0 x26_2) != 45) = false := bne_eq_false_iff_eq.mpr c31
        clear c31
        have H' := Aside0.mk H
        clear H
        have p11 : 0 ≤ (x26_2 : Int) := of_decide_eq_true (by assumption)
        have q11 : x26_2 < (a0.size : Int) := of_decide_eq_true (by assumption)
        have hx11 := bt_at a0 x26_2
        replace p11 := eq_true p11
        replace q11 := eq_true q11
        go_wp2
        go_roundg k2
        case measure => have := HJ1.out; have := HK2.out; omega
        case rel => exact ⟨(wrap64 (x26_2 + 1)), (rf_), H', ⟨by have := HJ1.out; have := HK2.out; omega⟩, dr_⟩
       rw [if_neg c31] at H
       have c31b0 : ((bt a0 x26_2) == 45) = false := beq_eq_false_iff_ne.mpr c31
       have c31b1 : ((bt a0 x26_2) != 45) = true := bne_iff_ne.mpr c31
       obtain rfl := Option.some.inj H
       have p11 : 0 ≤ (x26_2 : Int) := of_decide_eq_true (by assumption)
       have q11 : x26_2 < (a0.size : Int) := of_decide_eq_true (by assumption)
       have hx11 := bt_at a0 x26_2
       replace p11 := eq_true p11
       replace q11 := eq_true q11
       go_wp2
       go_ret
       exact ⟨rf_, dr_⟩
      rw [if_pos c24] at H
      have c24b0 := decide_eq_true c24
      clear c24
      by_cases c25 : (bt a0 x26_2) ≤ 57
      ·rw [if_pos c25] at H
       have c25b0 := decide_eq_true c25
       clear c25
       have H' := Aside0.mk H
       clear H
       have p11 : 0 ≤ (x26_2 : Int) := of_decide_eq_true (by assumption)
       have q11 : x26_2 < (a0.size : Int) := of_decide_eq_true (by assumption)
       have hx11 := bt_at a0 x26_2
       replace p11 := eq_true p11
       replace q11 := eq_true q11
       go_wp2
       go_roundg k2
       case measure => have := HJ1.out; have := HK2.out; omega
       case rel => exact ⟨(wrap64 (x26_2 + 1)), (rf_), H', ⟨by have := HJ1.out; have := HK2.out; omega⟩, dr_⟩
      rw [if_neg c25] at H
      have c25b0 := decide_eq_false c25
      clear c25
      by_cases c26 : (bt a0 x26_2) = 46
      ·rw [if_pos c26] at H
       have c26b0 : ((bt a0 x26_2) == 46) = true := beq_iff_eq.mpr c26
       have c26b1 : ((bt a0 x26_2) != 46) = false := bne_eq_false_iff_eq.mpr c26
       clear c26
       have H' := Aside0.mk H
       clear H
       have p11 : 0 ≤ (x26_2 : Int) := of_decide_eq_true (by assumption)
       have q11 : x26_2 < (a0.size : Int) := of_decide_eq_true (by assumption)
       have hx11 := bt_at a0 x26_2
       replace p11 := eq_true p11
       replace q11 := eq_true q11
       go_wp2
       go_roundg k2
       case measure => have := HJ1.out; have := HK2.out; omega
       case rel => exact ⟨(wrap64 (x26_2 + 1)), (rf_), H', ⟨by have := HJ1.out; have := HK2.out; omega⟩, dr_⟩
      rw [if_neg c26] at H
      have c26b0 : ((bt a0 x26_2) == 46) = false := beq_eq_false_iff_ne.mpr c26
      have c26b1 : ((bt a0 x26_2) != 46) = true := bne_iff_ne.mpr c26
      by_cases c27 : (bt a0 x26_2) = 95
      ·rw [if_pos c27] at H
       have c27b0 : ((bt a0 x26_2) == 95) = true := beq_iff_eq.mpr c27
       have c27b1 : ((bt a0 x26_2) != 95) = false := bne_eq_false_iff_eq.mpr c27
       clear c27
       have H' := Aside0.mk H
       clear H
       have p11 : 0 ≤ (x26_2 : Int) := of_decide_eq_true (by assumption)
       have q11 : x26_2 < (a0.size : Int) := of_decide_eq_true (by assumption)
       have hx11 := bt_at a0 x26_2
       replace p11 := eq_true p11
       replace q11 := eq_true q11
       go_wp2
       go_roundg k2
       case measure => have := HJ1.out; have := HK2.out; omega
       case rel => exact ⟨(wrap64 (x26_2 + 1)), (rf_), H', ⟨by have := HJ1.out; have := HK2.out; omega⟩, dr_⟩
      rw [if_neg c27] at H
      have c27b0 : ((bt a0 x26_2) == 95) = false := beq_eq_false_iff_ne.mpr c27
      have c27b1 : ((bt a0 x26_2) != 95) = true := bne_iff_ne.mpr c27
      by_cases c28 : ((bt a0 x26_2) = 45)
      ·rw [if_pos c28] at H
       have c28b0 : ((bt a0 x26_2) == 45) = true := beq_iff_eq.mpr c28
       have c28b1 : ((bt a0 x26_2) != 45) = false := bne_eq_false_iff_eq.mpr c28
       clear c28
       have H' := Aside0.mk H
       clear H
       have p11 : 0 ≤ (x26_2 : Int) := of_decide_eq_true (by assumption)
       have q11 : x26_2 < (a0.size : Int) := of_decide_eq_true (by assumption)
       have hx11 := bt_at a0 x26_2
       replace p11 := eq_true p11
       replace q11 := eq_true q11
       go_wp2
       go_roundg k2
       case measure => have := HJ1.out; have := HK2.out; omega
       case rel => exact ⟨(wrap64 (x26_2 + 1)), (rf_), H', ⟨by have := HJ1.out; have := HK2.out; omega⟩, dr_⟩
      rw [if_neg c28] at H
      have c28b0 : ((bt a0 x26_2) == 45) = false := beq_eq_false_iff_ne.mpr c28
      have c28b1 : ((bt a0 x26_2) != 45) = true := bne_iff_ne.mpr c28
      obtain rfl := Option.some.inj H
      have p11 : 0 ≤ (x26_2 : Int) := of_decide_eq_true (by assumption)
      have q11 : x26_2 < (a0.size : Int) := of_decide_eq_true (by assumption)
      have hx11 := bt_at a0 x26_2
      replace p11 := eq_true p11
      replace q11 := eq_true q11
      go_wp2
      go_ret
      exact ⟨rf_, dr_⟩
     rw [if_pos c14] at H
     have c14b0 := decide_eq_true c14
     clear c14
     by_cases c15 : (bt a0 x26_2) ≤ 90
     ·rw [if_pos c15] at H
      have c15b0 := decide_eq_true c15
      clear c15
      have H' := Aside0.mk H
      clear H
      have p11 : 0 ≤ (x26_2 : Int) := of_decide_eq_true (by assumption)
      have q11 : x26_2 < (a0.size : Int) := of_decide_eq_true (by assumption)
      have hx11 := bt_at a0 x26_2
      replace p11 := eq_true p11
      replace q11 := eq_true q11
      go_wp2
      go_roundg k2
      case measure => have := HJ1.out; have := HK2.out; omega
      case rel => exact ⟨(wrap64 (x26_2 + 1)), (rf_), H', ⟨by have := HJ1.out; have := HK2.out; omega⟩, dr_⟩
     rw [if_neg c15] at H
     have c15b0 := decide_eq_false c15
     clear c15
     by_cases c16 : 48 ≤ (bt a0 x26_2)
     rotate_left
     ·rw [if_neg c16] at H
      have c16b0 := decide_eq_false c16
      clear c16
      by_cases c21 : (bt a0 x26_2) = 46
      ·rw [if_pos c21] at H
       have c21b0 : ((bt a0 x26_2) == 46) = true := beq_iff_eq.mpr c21
       have c21b1 : ((bt a0 x26_2) != 46) = false := bne_eq_false_iff_eq.mpr c21
       clear c21
       have H' := Aside0.mk H
       clear H
       have p11 : 0 ≤ (x26_2 : Int) := of_decide_eq_true (by assumption)
       have q11 : x26_2 < (a0.size : Int) := of_decide_eq_true (by assumption)
       have hx11 := bt_at a0 x26_2
       replace p11 := eq_true p11
       replace q11 := eq_true q11
       go_wp2
       go_roundg k2
       case measure => have := HJ1.out; have := HK2.out; omega
       case rel => exact ⟨(wrap64 (x26_2 + 1)), (rf_), H', ⟨by have := HJ1.out; have := HK2.out; omega⟩, dr_⟩
      rw [if_neg c21] at H
      have c21b0 : ((bt a0 x26_2) == 46) = false := beq_eq_false_iff_ne.mpr c21
      have c21b1 : ((bt a0 x26_2) != 46) = true := bne_iff_ne.mpr c21
      by_cases c22 : (bt a0 x26_2) = 95
      ·rw [if_pos c22] at H
       have c22b0 : ((bt a0 x26_2) == 95) = true := beq_iff_eq.mpr c22
       have c22b1 : ((bt a0 x26_2) != 95) = false := bne_eq_false_iff_eq.mpr c22
       clear c22
       have H' := Aside0.mk H
       clear H
       have p11 : 0 ≤ (x26_2 : Int) := of_decide_eq_true (by assumption)
       have q11 : x26_2 < (a0.size : Int) := of_decide_eq_true (by assumption)
       have hx11 := bt_at a0 x26_2
       replace p11 := eq_true p11
       replace q11 := eq_true q11
       go_wp2
       go_roundg k2
       case measure => have := HJ1.out; have := HK2.out; omega
       case rel => exact ⟨(wrap64 (x26_2 + 1)), (rf_), H', ⟨by have := HJ1.out; have := HK2.out; omega⟩, dr_⟩
      rw [if_neg c22] at H
      have c22b0 : ((bt a0 x26_2) == 95) = false := beq_eq_false_iff_ne.mpr c22
      have c22b1 : ((bt a0 x26_2) != 95) = true := bne_iff_ne.mpr c22
      by_cases c23 : ((bt a0 x26_2) = 45)
      ·rw [if_pos c23] at H
       have c23b0 : ((bt a0 x26_2) == 45) = true := beq_iff_eq.mpr c23
       have c23b1 : ((bt a0 x26_2) != 45) = false := bne_eq_false_iff_eq.mpr c23
       clear c23
       have H' := Aside0.mk H
       clear H
       have p11 : 0 ≤ (x26_2 : Int) := of_decide_eq_true (by assumption)
       have q11 : x26_2 < (a0.size : Int) := of_decide_eq_true (by assumption)
       have hx11 := bt_at a0 x26_2
       replace p11 := eq_true p11
       replace q11 := eq_true q11
       go_wp2
       go_roundg k2
       case measure => have := HJ1.out; have := HK2.out; omega
       case rel => exact ⟨(wrap64 (x26_2 + 1)), (rf_), H', ⟨by have := HJ1.out; have := HK2.out; omega⟩, dr_⟩
      rw [if_neg c23] at H
      have c23b0 : ((bt a0 x26_2) == 45) = false := beq_eq_false_iff_ne.mpr c23
      have c23b1 : ((bt a0 x26_2) != 45) = true := bne_iff_ne.mpr c23
      obtain rfl := Option.some.inj H
      have p11 : 0 ≤ (x26_2 : Int) := of_decide_eq_true (by assumption)
      have q11 : x26_2 < (a0.size : Int) := of_decide_eq_true (by assumption)
      have hx11 := bt_at a0 x26_2
      replace p11 := eq_true p11
      replace q11 := eq_true q11
      go_wp2
      go_ret
      exact ⟨rf_, dr_⟩
     rw [if_pos c16] at H
     have c16b0 := decide_eq_true c16
     clear c16
     by_cases c17 : (bt a0 x26_2) ≤ 57
     ·rw [if_pos c17] at H
      have c17b0 := decide_eq_true c17
      clear c17
      have H' := Aside0.mk H
      clear H
      have p11 : 0 ≤ (x26_2 : Int) := of_decide_eq_true (by assumption)
      have q11 : x26_2 < (a0.size : Int) := of_decide_eq_true (by assumption)
      have hx11 := bt_at a0 x26_2
      replace p11 := eq_true p11
      replace q11 := eq_true q11
      go_wp2
      go_roundg k2
      case measure => have := HJ1.out; have := HK2.out; omega
      case rel => exact ⟨(wrap64 (x26_2 + 1)), (rf_), H', ⟨by have := HJ1.out; have := HK2.out; omega⟩, dr_⟩
     rw [if_neg c17] at H
     have c17b0 := decide_eq_false c17
     clear c17
     by_cases c18 : (bt a0 x26_2) = 46
     ·rw [if_pos c18] at H
      have c18b0 : ((bt a0 x26_2) == 46) = true := beq_iff_eq.mpr c18
      have c18b1 : ((bt a0 x26_2) != 46) = false := bne_eq_false_iff_eq.mpr c18
      clear c18
      have H' := Aside0.mk H
      clear H
      have p11 : 0 ≤ (x26_2 : Int) := of_decide_eq_true (by assumption)
      have q11 : x26_2 < (a0.size : Int) := of_decide_eq_true (by assumption)
      have hx11 := bt_at a0 x26_2
      replace p11 := eq_true p11
      replace q11 := eq_true q11
      go_wp2
      go_roundg k2
      case measure => have := HJ1.out; have := HK2.out; omega
      case rel => exact ⟨(wrap64 (x26_2 + 1)), (rf_), H', ⟨by have := HJ1.out; have := HK2.out; omega⟩, dr_⟩
     rw [if_neg c18] at H
     have c18b0 : ((bt a0 x26_2) == 46) = false := beq_eq_false_iff_ne.mpr c18
     have c18b1 : ((bt a0 x26_2) != 46) = true := bne_iff_ne.mpr c18
     by_cases c19 : (bt a0 x26_2) = 95
     ·rw [if_pos c19] at H
      have c19b0 : ((bt a0 x26_2) == 95) = true := beq_iff_eq.mpr c19
      have c19b1 : ((bt a0 x26_2) != 95) = false := bne_eq_false_iff_eq.mpr c19
      clear c19
      have H' := Aside0.mk H
      clear H
      have p11 : 0 ≤ (x26_2 : Int) := of_decide_eq_true (by assumption)
      have q11 : x26_2 < (a0.size : Int) := of_decide_eq_true (by assumption)
      have hx11 := bt_at a0 x26_2
      replace p11 := eq_true p11
      replace q11 := eq_true q11
      go_wp2
      go_roundg k2
      case measure => have := HJ1.out; have := HK2.out; omega
      case rel => exact ⟨(wrap64 (x26_2 + 1)), (rf_), H', ⟨by have := HJ1.out; have := HK2.out; omega⟩, dr_⟩
     rw [if_neg c19] at H
     have c19b0 : ((bt a0 x26_2) == 95) = false := beq_eq_false_iff_ne.mpr c19
     have c19b1 : ((bt a0 x26_2) != 95) = true := bne_iff_ne.mpr c19
     by_cases c20 : ((bt a0 x26_2) = 45)
     ·rw [if_pos c20] at H
      have c20b0 : ((bt a0 x26_2) == 45) = true := beq_iff_eq.mpr c20
      have c20b1 : ((bt a0 x26_2) != 45) = false := bne_eq_false_iff_eq.mpr c20
      clear c20
      have H' := Aside0.mk H
      clear H
      have p11 : 0 ≤ (x26_2 : Int) := of_decide_eq_true (by assumption)
      have q11 : x26_2 < (a0.size : Int) := of_decide_eq_true (by assumption)
      have hx11 := bt_at a0 x26_2
      replace p11 := eq_true p11
      replace q11 := eq_true q11
      go_wp2
      go_roundg k2
      case measure => have := HJ1.out; have := HK2.out; omega
      case rel => exact ⟨(wrap64 (x26_2 + 1)), (rf_), H', ⟨by have := HJ1.out; have := HK2.out; omega⟩, dr_⟩
     rw [if_neg c20] at H
     have c20b0 : ((bt a0 x26_2) == 45) = false := beq_eq_false_iff_ne.mpr c20
     have c20b1 : ((bt a0 x26_2) != 45) = true := bne_iff_ne.mpr c20
     obtain rfl := Option.some.inj H
     have p11 : 0 ≤ (x26_2 : Int) := of_decide_eq_true (by assumption)
     have q11 : x26_2 < (a0.size : Int) := of_decide_eq_true (by assumption)
     have hx11 := bt_at a0 x26_2
     replace p11 := eq_true p11
     replace q11 := eq_true q11
     go_wp2
     go_ret
     exact ⟨rf_, dr_⟩
attribute [local go_sem] max2_int min2_int max_two min_two max_three min_three max_four min_four
set_option linter.unusedVariables false
set_option linter.unusedSimpArgs false
attribute [local go_sem high] eqA43
mutual
def path_Valid.j0 : Nat → ByteArray → Bool → Option (Bool)
 | 0, _, _ => none
 | k + 1, x0, x12 => if x12 = true then (some false) else ((path_Split.f k x0).bind fun t112 => (path_Valid.l0 k t112 (t112.length : Int) 0))
def path_Valid.l0 : Nat → List ByteArray → Int → Int → Option (Bool)
 | 0, _, _, _ => none
 | k + 1, x14, x15, x16 => if x16 < x15 then (if 0 ≤ x16 then (if x16 < (x14.length : Int) then ((path_Component.f k (rdOf ByteArray.empty x14 x16)).bind fun t116 => (if t116 = true then (path_Valid.l0 k x14 x15 (wrap64 (x16 + 1))) else (some false))) else (none)) else (none)) else (some true)
end
def path_Valid.f (k : Nat) (a0 : ByteArray) : Option (Bool) := if (a0.size : Int) > 120 then (path_Valid.j0 k a0 true) else ((path_Depth.f k a0).bind fun t111 => (path_Valid.j0 k a0 (decide (t111 > 12))))
theorem path_Valid.mono_l : ∀ k, (∀ y0 y1, LeO (path_Valid.j0 k y0 y1) (path_Valid.j0 (k + 1) y0 y1)) ∧ (∀ y0 y1 y2, LeO (path_Valid.l0 k y0 y1 y2) (path_Valid.l0 (k + 1) y0 y1 y2))
 | 0 => ⟨fun _ _ r h => by simp [path_Valid.j0] at h, fun _ _ _ r h => by simp [path_Valid.l0] at h⟩
 | k + 1 => by
  obtain ⟨ih0, ih1⟩ := path_Valid.mono_l k
  refine ⟨?_, ?_⟩
  ·intro y0 y1
   unfold path_Valid.j0
   repeat' first
   | (with_reducible exact ih0 _ _)
   | (with_reducible exact ih1 _ _ _)
   | (with_reducible exact path_Component.mono _ _)
   | (with_reducible exact path_Depth.mono _ _)
   | (with_reducible exact path_Split.mono _ _)
   | (with_reducible exact LeO.refl _)
   | (with_reducible exact LeO.none _)
   | (with_reducible refine LeO.ite ?_ ?_)
   | (with_reducible refine LeO.bind ?_ (fun _ => ?_))
   | exact ih0 _ _
   | exact ih1 _ _ _
   | exact path_Component.mono _ _
   | exact path_Depth.mono _ _
   | exact path_Split.mono _ _
   | exact LeO.none _
   | refine LeO.ite ?_ ?_
   | refine LeO.bind ?_ (fun _ => ?_)
  ·intro y0 y1 y2
   unfold path_Valid.l0
   repeat' first
   | (with_reducible exact ih0 _ _)
   | (with_reducible exact ih1 _ _ _)
   | (with_reducible exact path_Component.mono _ _)
   | (with_reducible exact path_Depth.mono _ _)
   | (with_reducible exact path_Split.mono _ _)
   | (with_reducible exact LeO.refl _)
   | (with_reducible exact LeO.none _)
   | (with_reducible refine LeO.ite ?_ ?_)
   | (with_reducible refine LeO.bind ?_ (fun _ => ?_))
   | exact ih0 _ _
   | exact ih1 _ _ _
   | exact path_Component.mono _ _
   | exact path_Depth.mono _ _
   | exact path_Split.mono _ _
   | exact LeO.none _
   | refine LeO.ite ?_ ?_
   | refine LeO.bind ?_ (fun _ => ?_)
theorem path_Valid.mono : ∀ a0 k, LeO (path_Valid.f k a0) (path_Valid.f (k + 1) a0) := by
 intro a0 k
 obtain ⟨ih0, ih1⟩ := path_Valid.mono_l k
 unfold path_Valid.f
 repeat' first
   | (with_reducible exact ih0 _ _)
   | (with_reducible exact ih1 _ _ _)
   | (with_reducible exact path_Component.mono _ _)
   | (with_reducible exact path_Depth.mono _ _)
   | (with_reducible exact path_Split.mono _ _)
   | (with_reducible exact LeO.refl _)
   | (with_reducible exact LeO.none _)
   | (with_reducible refine LeO.ite ?_ ?_)
   | (with_reducible refine LeO.bind ?_ (fun _ => ?_))
   | exact ih0 _ _
   | exact ih1 _ _ _
   | exact path_Component.mono _ _
   | exact path_Depth.mono _ _
   | exact path_Split.mono _ _
   | exact LeO.none _
   | refine LeO.ite ?_ ?_
   | refine LeO.bind ?_ (fun _ => ?_)
set_option maxHeartbeats 8000000 in
set_option maxRecDepth 100000 in
theorem path_Valid.calls (k : Nat) (a0 : ByteArray) (r : Bool) (w : World) (h : path_Valid.f k a0 = some r) :
  Calls Tryz.prog 43 #[.string a0] w fun e w' => e = .returned (.bool r) ∧ Below w.heap.size w w' := by
 have HB := Aside0.mk (Below.refl w.heap.size w)
 have H : (if (a0.size : Int) > 120 then (path_Valid.j0 k a0 true) else ((path_Depth.f k a0).bind fun t111 => (path_Valid.j0 k a0 (decide (t111 > 12))))) = some r := h
 clear h
 have HC2 := Aside0.mk H
 clear H
 go_enter Tryz.func43, Tryz.ntmps43
 go_upto_region 1 with (fail)
 go_cut [12] (fun v12 wc => ∃ (kq : Nat) (x12_1 : Bool), v12 = .bool x12_1 ∧ Aside0 (path_Valid.j0 kq a0 x12_1 = some r) ∧ Aside0 (kq ≤ k) ∧ Aside0 (Below w.heap.size w wc))
 case first =>
  have H := HC2.out
  clear HC2
  by_cases c3 : (a0.size : Int) > 120
  ·rw [if_pos c3] at H
   have c3b0 := decide_eq_true c3
   have c3b1 : decide (120 < a0.size) = true := decide_eq_true (by omega)
   clear c3
   (first | rw [c3b0] | (simp only [i64_w, i32_w]; rw [c3b0]) | skip)
   have H' := Aside0.mk H
   clear H
   go_wp2
   go_meet
   case rel => exact ⟨_, (true), (rf_), H', ⟨by first | omega | exact Nat.le_refl _⟩, ⟨bel_⟩⟩
  rw [if_neg c3] at H
  have c3b0 := decide_eq_false c3
  have c3b1 : decide (120 < a0.size) = false := decide_eq_false (by omega)
  clear c3
  (first | rw [c3b0] | (simp only [i64_w, i32_w]; rw [c3b0]) | skip)
  replace H := Option.bind_eq_some_iff.mp H
  obtain ⟨t111, A40, H⟩ := H
  try dsimp only at H
  have A4 := Aside0.mk A40
  clear A40
  have H' := Aside0.mk H
  clear H
  go_wp2_with (first | (go_at_call 62; (with_reducible refine (path_Depth.calls k a0 t111 _ A4.out).mono ?_); rintro e w' ⟨rfl, ⟨nd, rfl⟩⟩))
  go_meet
  case rel => exact ⟨_, (decide (t111 > 12)), (rf_), H', ⟨by first | omega | exact Nat.le_refl _⟩, ⟨bel_⟩⟩
 case rest =>
  clear HC2
  try clear p2
  try clear c3
  try clear c3b0
  try clear c3b1
  try clear c4
  obtain ⟨kq, x12_1, rfl, HA, HJ1, HB⟩ := hcut
  cases kq with
  | zero => exact absurd HA.out (by simp [path_Valid.j0])
  | succ kj1 =>
   have H := HA.out
   clear HA
   simp only [path_Valid.j0] at H
   by_cases c5 : x12_1 = true
   ·subst c5
    rw [if_pos rfl] at H
    have H1 := H
    clear H
    have H := H1
    clear H1
    obtain rfl := Option.some.inj H
    go_wp2
    go_ret
    exact ⟨er_, bel_⟩
   replace c5 := Bool.eq_false_iff.mpr c5
   subst c5
   have H1 : ((path_Split.f kj1 a0).bind fun t112 => (path_Valid.l0 kj1 t112 (t112.length : Int) 0)) = some r := by rw [if_neg (show ¬ (false = true) by decide)] at H; exact H
   clear H
   have H := H1
   clear H1
   replace H := Option.bind_eq_some_iff.mp H
   obtain ⟨t112, A60, H⟩ := H
   try dsimp only at H
   have A6 := Aside0.mk A60
   clear A60
   have H' := Aside0.mk H
   clear H
   go_wp2_with (first | ((with_reducible refine gate_callee (f := 45) rfl ?_); refine goesL_ (some 14) rfl rfl Tryz.func45 (by kernel_rfl) rfl #[.string a0] rfl (mp_) ?_; (with_reducible refine (path_Split.calls kj1 a0 t112 _ A6.out).mono ?_); rintro e w7 ⟨v113, rfl, ho0, hb⟩; refine ⟨_, rfl, ?_⟩; have n0_ := Aside0.mk (Kd.R_lower ho0 (below_size (bel_))); have n1_ := Aside0.mk (below_step (bel_) hb); clear HB; have HO114 := n0_; have HB := n1_; clear n0_ n1_; (try clear hb); (try clear hb2); (try clear hk); (try clear hi); (try clear ho0); obtain ⟨Ao8, co8, eo8⟩ := Kd.R_slice HO114.out; subst eo8))
   go_loopg [16] kj1 (fun kq v16 w' => ∃ (x16_2 : Int), v16 = .int .i64 x16_2 ∧ Aside0 (path_Valid.l0 kq t112 (t112.length : Int) x16_2 = some r) ∧ Aside0 (kq ≤ kj1) ∧ Aside0 (Kd.R Kd.string 9 w' w.heap.size (fun _ => True) (.slice Ao8 t112.length co8) t112) ∧ Aside0 (Below w.heap.size w w'))
   case atStart => exact ⟨(0), (rf_), H', ⟨Nat.le_refl _⟩, ⟨ur_ HO114.out⟩, ⟨bel_⟩⟩
   case round =>
    clear H'
    try clear p2
    try clear c3
    try clear c3b0
    try clear c3b1
    try clear c4
    try clear c5
    try clear p2
    obtain ⟨x16_2, rfl, HA, HK2, HO_14, HB⟩ := hrel
    cases gk with
    | zero => exact absurd HA.out (by simp [path_Valid.l0])
    | succ k2 =>
     have H := HA.out
     clear HA
     simp only [path_Valid.l0] at H
     by_cases c9 : x16_2 < (t112.length : Int)
     rotate_left
     ·rw [if_neg c9] at H
      have c9b0 := decide_eq_false c9
      clear c9
      obtain rfl := Option.some.inj H
      go_wp2
      go_ret
      exact ⟨er_, bel_⟩
     rw [if_pos c9] at H
     have c9b0 := decide_eq_true c9
     clear c9
     by_cases c10 : 0 ≤ x16_2
     rotate_left
     ·rw [if_neg c10] at H
      exact absurd H (by simp)
     rw [if_pos c10] at H
     have c10b0 := decide_eq_true c10
     clear c10
     by_cases c11 : x16_2 < (t112.length : Int)
     rotate_left
     ·rw [if_neg c11] at H
      exact absurd H (by simp)
     rw [if_pos c11] at H
     have c11b0 := decide_eq_true c11
     clear c11
     replace H := Option.bind_eq_some_iff.mp H
     obtain ⟨t116, A120, H⟩ := H
     try dsimp only at H
     have A12 := Aside0.mk A120
     clear A120
     by_cases c13 : t116 = true
     ·subst c13
      rw [if_pos rfl] at H
      have H1 := H
      clear H
      have H := H1
      clear H1
      have H' := Aside0.mk H
      clear H
      have p115 : 0 ≤ (x16_2 : Int) := of_decide_eq_true (by assumption)
      have q115 : x16_2 < (t112.length : Int) := of_decide_eq_true (by assumption)
      obtain ⟨ad115, e115, hx115_0⟩ := Kd.at_string (Kd.R_reads' HO_14.out).2.2 x16_2 p115 q115
      cases e115
      replace p115 := eq_true p115
      replace q115 := eq_true q115
      go_wp2_with (first | ((with_reducible refine gate_callee (f := 63) rfl ?_); refine goesL_ (some 21) rfl rfl Tryz.func63 (by kernel_rfl) rfl #[.string (rdOf ByteArray.empty t112 x16_2)] rfl (mp_) ?_; (with_reducible refine (path_Component.calls k2 (rdOf ByteArray.empty t112 x16_2) true _ A12.out).mono ?_); rintro e w' ⟨rfl, ⟨nd, rfl⟩⟩; refine ⟨_, rfl, ?_⟩))
      go_roundg k2
      case measure => have := HJ1.out; have := HK2.out; omega
      case rel => exact ⟨(wrap64 (x16_2 + 1)), (rf_), H', ⟨by have := HJ1.out; have := HK2.out; omega⟩, ⟨ur_ HO_14.out⟩, ⟨bel_⟩⟩
     replace c13 := Bool.eq_false_iff.mpr c13
     subst c13
     have H1 : (some false) = some r := by rw [if_neg (show ¬ (false = true) by decide)] at H; exact H
     clear H
     have H := H1
     clear H1
     obtain rfl := Option.some.inj H
     have p115 : 0 ≤ (x16_2 : Int) := of_decide_eq_true (by assumption)
     have q115 : x16_2 < (t112.length : Int) := of_decide_eq_true (by assumption)
     obtain ⟨ad115, e115, hx115_0⟩ := Kd.at_string (Kd.R_reads' HO_14.out).2.2 x16_2 p115 q115
     cases e115
     replace p115 := eq_true p115
     replace q115 := eq_true q115
     go_wp2_with (first | ((with_reducible refine gate_callee (f := 63) rfl ?_); refine goesL_ (some 21) rfl rfl Tryz.func63 (by kernel_rfl) rfl #[.string (rdOf ByteArray.empty t112 x16_2)] rfl (mp_) ?_; (with_reducible refine (path_Component.calls k2 (rdOf ByteArray.empty t112 x16_2) false _ A12.out).mono ?_); rintro e w' ⟨rfl, ⟨nd, rfl⟩⟩; refine ⟨_, rfl, ?_⟩))
     go_ret
     exact ⟨er_, bel_⟩
attribute [local go_sem] max2_int min2_int max_two min_two max_three min_three max_four min_four
set_option linter.unusedVariables false
set_option linter.unusedSimpArgs false
def snap_placed.f (k : Nat) (a0_0 : ByteArray) (a0_1 : ByteArray) (a0_2 : Int) (a0_3 : Int) : Option (Bool) := if a0_0.toList = ([] : List UInt8) then (some false) else ((path_Valid.f k a0_0).bind fun t145 => (some t145))
theorem snap_placed.mono : ∀ a0 a1 a2 a3 k, LeO (snap_placed.f k a0 a1 a2 a3) (snap_placed.f (k + 1) a0 a1 a2 a3) := by
 intro a0 a1 a2 a3 k
 unfold snap_placed.f
 repeat' first
   | (with_reducible exact path_Valid.mono _ _)
   | (with_reducible exact LeO.refl _)
   | (with_reducible exact LeO.none _)
   | (with_reducible refine LeO.ite ?_ ?_)
   | (with_reducible refine LeO.bind ?_ (fun _ => ?_))
   | exact path_Valid.mono _ _
   | exact LeO.none _
   | refine LeO.ite ?_ ?_
   | refine LeO.bind ?_ (fun _ => ?_)
set_option maxHeartbeats 8000000 in
set_option maxRecDepth 100000 in
theorem snap_placed.calls (k : Nat) (a0_0 : ByteArray) (a0_1 : ByteArray) (a0_2 : Int) (a0_3 : Int) (r : Bool) (w : World) (h : snap_placed.f k a0_0 a0_1 a0_2 a0_3 = some r) :
  Calls Tryz.prog 53 #[.agg #[.string a0_0, .string a0_1, .int .i64 a0_2, .int .i64 a0_3]] w fun e w' => e = .returned (.bool r) ∧ Below w.heap.size w w' := by
 have hu43 := Tryz.underlying43
 have HB := Aside0.mk (Below.refl w.heap.size w)
 have H : (if a0_0.toList = ([] : List UInt8) then (some false) else ((path_Valid.f k a0_0).bind fun t145 => (some t145))) = some r := h
 clear h
 by_cases c2 : a0_0.toList = ([] : List UInt8)
 ·rw [if_pos c2] at H
  have c2b0 : (a0_0.toList == ([] : List UInt8)) = true := beq_iff_eq.mpr c2
  have c2b1 : (a0_0.toList != ([] : List UInt8)) = false := bne_eq_false_iff_eq.mpr c2
  clear c2
  obtain rfl := Option.some.inj H
  go_enter Tryz.func53, Tryz.ntmps53
  go_wp2_with (first | ((with_reducible refine gate_dst (N := 1) rfl ?_); refine box_event ?hg (N := 1) ?hd (cs := #[.string a0_0, .string a0_1, .int .i64 a0_2, .int .i64 a0_3]) (t := 43) ?hr ?_; (case hd => rfl); (case hg => rfl); (case hr => first | (go_simp; done) | (go_simp; rfl)); intro gb144 hg w3 hbox hb; have n0_ := Aside0.mk (below_step (bel_) hb); have n1_ := Aside0.mk (hbox); have n2_ := Aside0.mk ((by rw [hg]; exact (below_size (bel_)) : w.heap.size ≤ gb144)); have n3_ := Aside0.mk ((by rw [hg]; exact (below_size (bel_)) : w.heap.size ≤ gb144)); clear HB; have HB := n0_; have BK144 := n1_; have GW144 := n2_; have GE144 := n3_; clear n0_ n1_ n2_ n3_; clear hb hbox hg; have hcz4_0 : w3.cell? ⟨gb144, 0, none⟩ = some (.string a0_0) := (blk_cell BK144.out 0).trans rfl; have hcz4_1 : w3.cell? ⟨gb144, 1, none⟩ = some (.string a0_1) := (blk_cell BK144.out 1).trans rfl; have hcz4_2 : w3.cell? ⟨gb144, 2, none⟩ = some (.int .i64 a0_2) := (blk_cell BK144.out 2).trans rfl; have hcz4_3 : w3.cell? ⟨gb144, 3, none⟩ = some (.int .i64 a0_3) := (blk_cell BK144.out 3).trans rfl; have hfz4_0 := blk_frozen BK144.out 0; have hfz4_1 := blk_frozen BK144.out 1; have hfz4_2 := blk_frozen BK144.out 2; have hfz4_3 := blk_frozen BK144.out 3))
  go_ret
  exact ⟨er_, bes_ GE144.out⟩
 rw [if_neg c2] at H
 have c2b0 : (a0_0.toList == ([] : List UInt8)) = false := beq_eq_false_iff_ne.mpr c2
 have c2b1 : (a0_0.toList != ([] : List UInt8)) = true := bne_iff_ne.mpr c2
 replace H := Option.bind_eq_some_iff.mp H
 obtain ⟨t145, A50, H⟩ := H
 try dsimp only at H
 have A5 := Aside0.mk A50
 clear A50
 obtain rfl := Option.some.inj H
 go_enter Tryz.func53, Tryz.ntmps53
 go_wp2_with (first | ((with_reducible refine gate_dst (N := 1) rfl ?_); refine box_event ?hg (N := 1) ?hd (cs := #[.string a0_0, .string a0_1, .int .i64 a0_2, .int .i64 a0_3]) (t := 43) ?hr ?_; (case hd => rfl); (case hg => rfl); (case hr => first | (go_simp; done) | (go_simp; rfl)); intro gb144 hg w6 hbox hb; have n0_ := Aside0.mk (below_step (bel_) hb); have n1_ := Aside0.mk (hbox); have n2_ := Aside0.mk ((by rw [hg]; exact (below_size (bel_)) : w.heap.size ≤ gb144)); have n3_ := Aside0.mk ((by rw [hg]; exact (below_size (bel_)) : w.heap.size ≤ gb144)); clear HB; have HB := n0_; have BK144 := n1_; have GW144 := n2_; have GE144 := n3_; clear n0_ n1_ n2_ n3_; clear hb hbox hg; have hcz7_0 : w6.cell? ⟨gb144, 0, none⟩ = some (.string a0_0) := (blk_cell BK144.out 0).trans rfl; have hcz7_1 : w6.cell? ⟨gb144, 1, none⟩ = some (.string a0_1) := (blk_cell BK144.out 1).trans rfl; have hcz7_2 : w6.cell? ⟨gb144, 2, none⟩ = some (.int .i64 a0_2) := (blk_cell BK144.out 2).trans rfl; have hcz7_3 : w6.cell? ⟨gb144, 3, none⟩ = some (.int .i64 a0_3) := (blk_cell BK144.out 3).trans rfl; have hfz7_0 := blk_frozen BK144.out 0; have hfz7_1 := blk_frozen BK144.out 1; have hfz7_2 := blk_frozen BK144.out 2; have hfz7_3 := blk_frozen BK144.out 3) | (go_at_call 43; (with_reducible refine (path_Valid.calls k a0_0 t145 _ A5.out).mono ?_); rintro e w8 ⟨rfl, hb⟩; have n0_ := Aside0.mk (blk_below (g := gb144) (o := .cells #[.string a0_0, .string a0_1, .int .i64 a0_2, .int .i64 a0_3] 43 (0, 0)) (ub_ BK144.out) hb); have n1_ := Aside0.mk (below_step (bes_ GE144.out) hb); clear BK144; clear HB; have BK144 := n0_; have HB := n1_; clear n0_ n1_; (try clear hb); (try clear hb2); (try clear hk); (try clear hi)))
 go_ret
 exact ⟨er_, bes_ GE144.out⟩
def snap_File.j0 : Nat → Bool → Option (Int)
 | 0, _ => none
 | k + 1, x20 => if x20 = true then (some 8) else (some 0)
def snap_File.f (k : Nat) (a0_0 : ByteArray) (a0_1 : ByteArray) (a0_2 : Int) (a0_3 : Int) : Option (Int) := (snap_placed.f k a0_0 a0_1 a0_2 a0_3).bind fun t149 => (if t149 = true then ((path_Base.f k a0_0).bind fun t150 => (if t150.toList = ([84, 65, 82, 71, 69, 84, 83] : List UInt8) then (if a0_2 = 0 then (snap_File.j0 k (a0_3 != (a0_1.size : Int))) else (snap_File.j0 k true)) else (if a0_1.toList = ([] : List UInt8) then (if a0_2 < 0 then (some 8) else (if a0_2 > 1152921504606846976 then (some 8) else (if a0_3 < 0 then (some 8) else (if a0_3 > 4611686018427387904 then (some 8) else (some 0))))) else (some 8)))) else (some 7))
theorem snap_File.mono_l : ∀ k, (∀ y0, LeO (snap_File.j0 k y0) (snap_File.j0 (k + 1) y0))
 | 0 => fun _ r h => by simp [snap_File.j0] at h
 | k + 1 => by
  have ih0 := snap_File.mono_l k
  ·intro y0
   unfold snap_File.j0
   repeat' first
   | (with_reducible exact ih0 _)
   | (with_reducible exact path_Base.mono _ _)
   | (with_reducible exact snap_placed.mono _ _ _ _ _)
   | (with_reducible exact LeO.refl _)
   | (with_reducible exact LeO.none _)
   | (with_reducible refine LeO.ite ?_ ?_)
   | (with_reducible refine LeO.bind ?_ (fun _ => ?_))
   | exact ih0 _
   | exact path_Base.mono _ _
   | exact snap_placed.mono _ _ _ _ _
   | exact LeO.none _
   | refine LeO.ite ?_ ?_
   | refine LeO.bind ?_ (fun _ => ?_)
theorem snap_File.mono : ∀ a0 a1 a2 a3 k, LeO (snap_File.f k a0 a1 a2 a3) (snap_File.f (k + 1) a0 a1 a2 a3) := by
 intro a0 a1 a2 a3 k
 have ih0 := snap_File.mono_l k
 unfold snap_File.f
 repeat' first
   | (with_reducible exact ih0 _)
   | (with_reducible exact path_Base.mono _ _)
   | (with_reducible exact snap_placed.mono _ _ _ _ _)
   | (with_reducible exact LeO.refl _)
   | (with_reducible exact LeO.none _)
   | (with_reducible refine LeO.ite ?_ ?_)
   | (with_reducible refine LeO.bind ?_ (fun _ => ?_))
   | exact ih0 _
   | exact path_Base.mono _ _
   | exact snap_placed.mono _ _ _ _ _
   | exact LeO.none _
   | refine LeO.ite ?_ ?_
   | refine LeO.bind ?_ (fun _ => ?_)
set_option maxHeartbeats 8000000 in
set_option maxRecDepth 100000 in
theorem snap_File.calls (k : Nat) (a0_0 : ByteArray) (a0_1 : ByteArray) (a0_2 : Int) (a0_3 : Int) (r : Int) (w : World) (h : snap_File.f k a0_0 a0_1 a0_2 a0_3 = some r) :
  Calls Tryz.prog 54 #[.agg #[.string a0_0, .string a0_1, .int .i64 a0_2, .int .i64 a0_3]] w fun e w' => e = .returned (.int .i64 r) ∧ Below w.heap.size w w' := by
 have hu43 := Tryz.underlying43
 have HB := Aside0.mk (Below.refl w.heap.size w)
 have H : ((snap_placed.f k a0_0 a0_1 a0_2 a0_3).bind fun t149 => (if t149 = true then ((path_Base.f k a0_0).bind fun t150 => (if t150.toList = ([84, 65, 82, 71, 69, 84, 83] : List UInt8) then (if a0_2 = 0 then (snap_File.j0 k (a0_3 != (a0_1.size : Int))) else (snap_File.j0 k true)) else (if a0_1.toList = ([] : List UInt8) then (if a0_2 < 0 then (some 8) else (if a0_2 > 1152921504606846976 then (some 8) else (if a0_3 < 0 then (some 8) else (if a0_3 > 4611686018427387904 then (some 8) else (some 0))))) else (some 8)))) else (some 7))) = some r := h
 clear h
 replace H := Option.bind_eq_some_iff.mp H
 obtain ⟨t149, A20, H⟩ := H
 try dsimp only at H
 have A2 := Aside0.mk A20
 clear A20
 by_cases c3 : t149 = true
 rotate_left
 ·replace c3 := Bool.eq_false_iff.mpr c3
  subst c3
  have H1 : (some 7) = some r := by rw [if_neg (show ¬ (false = true) by decide)] at H; exact H
  clear H
  have H := H1
  clear H1
  obtain rfl := Option.some.inj H
  go_enter Tryz.func54, Tryz.ntmps54
  go_wp2_with (first | ((with_reducible refine gate_dst (N := 1) rfl ?_); (try (refine gate_guard (by rfl) ?_; dsimp only)); refine box_event ?hg (N := 1) ?hd (cs := #[.string a0_0, .string a0_1, .int .i64 a0_2, .int .i64 a0_3]) (t := 43) ?hr ?_; (case hd => rfl); (case hg => rfl); (case hr => first | (go_simp; done) | (go_simp; rfl)); intro gb148 hg w44 hbox hb; have n0_ := Aside0.mk (below_step (bel_) hb); have n1_ := Aside0.mk (hbox); have n2_ := Aside0.mk ((by rw [hg]; exact (below_size (bel_)) : w.heap.size ≤ gb148)); have n3_ := Aside0.mk ((by rw [hg]; exact (below_size (bel_)) : w.heap.size ≤ gb148)); clear HB; have HB := n0_; have BK148 := n1_; have GW148 := n2_; have GE148 := n3_; clear n0_ n1_ n2_ n3_; clear hb hbox hg; have hcz45_0 : w44.cell? ⟨gb148, 0, none⟩ = some (.string a0_0) := (blk_cell BK148.out 0).trans rfl; have hcz45_1 : w44.cell? ⟨gb148, 1, none⟩ = some (.string a0_1) := (blk_cell BK148.out 1).trans rfl; have hcz45_2 : w44.cell? ⟨gb148, 2, none⟩ = some (.int .i64 a0_2) := (blk_cell BK148.out 2).trans rfl; have hcz45_3 : w44.cell? ⟨gb148, 3, none⟩ = some (.int .i64 a0_3) := (blk_cell BK148.out 3).trans rfl; have hfz45_0 := blk_frozen BK148.out 0; have hfz45_1 := blk_frozen BK148.out 1; have hfz45_2 := blk_frozen BK148.out 2; have hfz45_3 := blk_frozen BK148.out 3) | ((with_reducible refine gate_callee (f := 53) rfl ?_); refine goesL_ (some 4) rfl rfl Tryz.func53 (by kernel_rfl) rfl #[.agg #[.string a0_0, .string a0_1, .int .i64 a0_2, .int .i64 a0_3]] rfl (mp_) ?_; (with_reducible refine (snap_placed.calls k a0_0 a0_1 a0_2 a0_3 false _ A2.out).mono ?_); rintro e w46 ⟨rfl, hb⟩; refine ⟨_, rfl, ?_⟩; have n0_ := Aside0.mk (blk_below (g := gb148) (o := .cells #[.string a0_0, .string a0_1, .int .i64 a0_2, .int .i64 a0_3] 43 (0, 0)) (ub_ BK148.out) hb); have n1_ := Aside0.mk (below_step (bes_ GE148.out) hb); clear BK148; clear HB; have BK148 := n0_; have HB := n1_; clear n0_ n1_; (try clear hb); (try clear hb2); (try clear hk); (try clear hi)))
  go_ret
  exact ⟨er_, bes_ GE148.out⟩
 subst c3
 rw [if_pos rfl] at H
 have H1 := H
 clear H
 have H := H1
 clear H1
 replace H := Option.bind_eq_some_iff.mp H
 obtain ⟨t150, A40, H⟩ := H
 try dsimp only at H
 have A4 := Aside0.mk A40
 clear A40
 by_cases c5 : t150.toList = ([84, 65, 82, 71, 69, 84, 83] : List UInt8)
 rotate_left
 ·rw [if_neg c5] at H
  have c5b0 : (t150.toList == ([84, 65, 82, 71, 69, 84, 83] : List UInt8)) = false := beq_eq_false_iff_ne.mpr c5
  have c5b1 : (t150.toList != ([84, 65, 82, 71, 69, 84, 83] : List UInt8)) = true := bne_iff_ne.mpr c5
  by_cases c15 : a0_1.toList = ([] : List UInt8)
  rotate_left
  ·rw [if_neg c15] at H
   have c15b0 : (a0_1.toList == ([] : List UInt8)) = false := beq_eq_false_iff_ne.mpr c15
   have c15b1 : (a0_1.toList != ([] : List UInt8)) = true := bne_iff_ne.mpr c15
   obtain rfl := Option.some.inj H
   go_enter Tryz.func54, Tryz.ntmps54
   go_wp2_with (first | ((with_reducible refine gate_dst (N := 1) rfl ?_); (try (refine gate_guard (by rfl) ?_; dsimp only)); refine box_event ?hg (N := 1) ?hd (cs := #[.string a0_0, .string a0_1, .int .i64 a0_2, .int .i64 a0_3]) (t := 43) ?hr ?_; (case hd => rfl); (case hg => rfl); (case hr => first | (go_simp; done) | (go_simp; rfl)); intro gb148 hg w40 hbox hb; have n0_ := Aside0.mk (below_step (bel_) hb); have n1_ := Aside0.mk (hbox); have n2_ := Aside0.mk ((by rw [hg]; exact (below_size (bel_)) : w.heap.size ≤ gb148)); have n3_ := Aside0.mk ((by rw [hg]; exact (below_size (bel_)) : w.heap.size ≤ gb148)); clear HB; have HB := n0_; have BK148 := n1_; have GW148 := n2_; have GE148 := n3_; clear n0_ n1_ n2_ n3_; clear hb hbox hg; have hcz41_0 : w40.cell? ⟨gb148, 0, none⟩ = some (.string a0_0) := (blk_cell BK148.out 0).trans rfl; have hcz41_1 : w40.cell? ⟨gb148, 1, none⟩ = some (.string a0_1) := (blk_cell BK148.out 1).trans rfl; have hcz41_2 : w40.cell? ⟨gb148, 2, none⟩ = some (.int .i64 a0_2) := (blk_cell BK148.out 2).trans rfl; have hcz41_3 : w40.cell? ⟨gb148, 3, none⟩ = some (.int .i64 a0_3) := (blk_cell BK148.out 3).trans rfl; have hfz41_0 := blk_frozen BK148.out 0; have hfz41_1 := blk_frozen BK148.out 1; have hfz41_2 := blk_frozen BK148.out 2; have hfz41_3 := blk_frozen BK148.out 3) | ((with_reducible refine gate_callee (f := 53) rfl ?_); refine goesL_ (some 4) rfl rfl Tryz.func53 (by kernel_rfl) rfl #[.agg #[.string a0_0, .string a0_1, .int .i64 a0_2, .int .i64 a0_3]] rfl (mp_) ?_; (with_reducible refine (snap_placed.calls k a0_0 a0_1 a0_2 a0_3 true _ A2.out).mono ?_); rintro e w42 ⟨rfl, hb⟩; refine ⟨_, rfl, ?_⟩; have n0_ := Aside0.mk (blk_below (g := gb148) (o := .cells #[.string a0_0, .string a0_1, .int .i64 a0_2, .int .i64 a0_3] 43 (0, 0)) (ub_ BK148.out) hb); have n1_ := Aside0.mk (below_step (bes_ GE148.out) hb); clear BK148; clear HB; have BK148 := n0_; have HB := n1_; clear n0_ n1_; (try clear hb); (try clear hb2); (try clear hk); (try clear hi); have hcz43_0 : w42.cell? ⟨gb148, 0, none⟩ = some (.string a0_0) := (blk_cell BK148.out 0).trans rfl; have hcz43_1 : w42.cell? ⟨gb148, 1, none⟩ = some (.string a0_1) := (blk_cell BK148.out 1).trans rfl; have hcz43_2 : w42.cell? ⟨gb148, 2, none⟩ = some (.int .i64 a0_2) := (blk_cell BK148.out 2).trans rfl; have hcz43_3 : w42.cell? ⟨gb148, 3, none⟩ = some (.int .i64 a0_3) := (blk_cell BK148.out 3).trans rfl; have hfz43_0 := blk_frozen BK148.out 0; have hfz43_1 := blk_frozen BK148.out 1; have hfz43_2 := blk_frozen BK148.out 2; have hfz43_3 := blk_frozen BK148.out 3) | ((with_reducible refine gate_callee (f := 68) rfl ?_); refine goesL_ (some 8) rfl rfl Tryz.func68 (by kernel_rfl) rfl #[.string a0_0] rfl (mp_) ?_; (with_reducible refine (path_Base.calls k a0_0 t150 _ A4.out).mono ?_); rintro e w' ⟨rfl, ⟨nd, rfl⟩⟩; refine ⟨_, rfl, ?_⟩))
   go_ret
   exact ⟨er_, bes_ GE148.out⟩
  rw [if_pos c15] at H
  have c15b0 : (a0_1.toList == ([] : List UInt8)) = true := beq_iff_eq.mpr c15
  have c15b1 : (a0_1.toList != ([] : List UInt8)) = false := bne_eq_false_iff_eq.mpr c15
  clear c15
  by_cases c16 : a0_2 < 0
  ·rw [if_pos c16] at H
   have c16b0 := decide_eq_true c16
   clear c16
   obtain rfl := Option.some.inj H
   go_enter Tryz.func54, Tryz.ntmps54
   go_wp2_with (first | ((with_reducible refine gate_dst (N := 1) rfl ?_); (try (refine gate_guard (by rfl) ?_; dsimp only)); refine box_event ?hg (N := 1) ?hd (cs := #[.string a0_0, .string a0_1, .int .i64 a0_2, .int .i64 a0_3]) (t := 43) ?hr ?_; (case hd => rfl); (case hg => rfl); (case hr => first | (go_simp; done) | (go_simp; rfl)); intro gb148 hg w17 hbox hb; have n0_ := Aside0.mk (below_step (bel_) hb); have n1_ := Aside0.mk (hbox); have n2_ := Aside0.mk ((by rw [hg]; exact (below_size (bel_)) : w.heap.size ≤ gb148)); have n3_ := Aside0.mk ((by rw [hg]; exact (below_size (bel_)) : w.heap.size ≤ gb148)); clear HB; have HB := n0_; have BK148 := n1_; have GW148 := n2_; have GE148 := n3_; clear n0_ n1_ n2_ n3_; clear hb hbox hg; have hcz18_0 : w17.cell? ⟨gb148, 0, none⟩ = some (.string a0_0) := (blk_cell BK148.out 0).trans rfl; have hcz18_1 : w17.cell? ⟨gb148, 1, none⟩ = some (.string a0_1) := (blk_cell BK148.out 1).trans rfl; have hcz18_2 : w17.cell? ⟨gb148, 2, none⟩ = some (.int .i64 a0_2) := (blk_cell BK148.out 2).trans rfl; have hcz18_3 : w17.cell? ⟨gb148, 3, none⟩ = some (.int .i64 a0_3) := (blk_cell BK148.out 3).trans rfl; have hfz18_0 := blk_frozen BK148.out 0; have hfz18_1 := blk_frozen BK148.out 1; have hfz18_2 := blk_frozen BK148.out 2; have hfz18_3 := blk_frozen BK148.out 3) | ((with_reducible refine gate_callee (f := 53) rfl ?_); refine goesL_ (some 4) rfl rfl Tryz.func53 (by kernel_rfl) rfl #[.agg #[.string a0_0, .string a0_1, .int .i64 a0_2, .int .i64 a0_3]] rfl (mp_) ?_; (with_reducible refine (snap_placed.calls k a0_0 a0_1 a0_2 a0_3 true _ A2.out).mono ?_); rintro e w19 ⟨rfl, hb⟩; refine ⟨_, rfl, ?_⟩; have n0_ := Aside0.mk (blk_below (g := gb148) (o := .cells #[.string a0_0, .string a0_1, .int .i64 a0_2, .int .i64 a0_3] 43 (0, 0)) (ub_ BK148.out) hb); have n1_ := Aside0.mk (below_step (bes_ GE148.out) hb); clear BK148; clear HB; have BK148 := n0_; have HB := n1_; clear n0_ n1_; (try clear hb); (try clear hb2); (try clear hk); (try clear hi); have hcz20_0 : w19.cell? ⟨gb148, 0, none⟩ = some (.string a0_0) := (blk_cell BK148.out 0).trans rfl; have hcz20_1 : w19.cell? ⟨gb148, 1, none⟩ = some (.string a0_1) := (blk_cell BK148.out 1).trans rfl; have hcz20_2 : w19.cell? ⟨gb148, 2, none⟩ = some (.int .i64 a0_2) := (blk_cell BK148.out 2).trans rfl; have hcz20_3 : w19.cell? ⟨gb148, 3, none⟩ = some (.int .i64 a0_3) := (blk_cell BK148.out 3).trans rfl; have hfz20_0 := blk_frozen BK148.out 0; have hfz20_1 := blk_frozen BK148.out 1; have hfz20_2 := blk_frozen BK148.out 2; have hfz20_3 := blk_frozen BK148.out 3) | ((with_reducible refine gate_callee (f := 68) rfl ?_); refine goesL_ (some 8) rfl rfl Tryz.func68 (by kernel_rfl) rfl #[.string a0_0] rfl (mp_) ?_; (with_reducible refine (path_Base.calls k a0_0 t150 _ A4.out).mono ?_); rintro e w' ⟨rfl, ⟨nd, rfl⟩⟩; refine ⟨_, rfl, ?_⟩))
   go_ret
   exact ⟨er_, bes_ GE148.out⟩
  rw [if_neg c16] at H
  have c16b0 := decide_eq_false c16
  clear c16
  by_cases c21 : a0_2 > 1152921504606846976
  ·rw [if_pos c21] at H
   have c21b0 := decide_eq_true c21
   clear c21
   obtain rfl := Option.some.inj H
   go_enter Tryz.func54, Tryz.ntmps54
   go_wp2_with (first | ((with_reducible refine gate_dst (N := 1) rfl ?_); (try (refine gate_guard (by rfl) ?_; dsimp only)); refine box_event ?hg (N := 1) ?hd (cs := #[.string a0_0, .string a0_1, .int .i64 a0_2, .int .i64 a0_3]) (t := 43) ?hr ?_; (case hd => rfl); (case hg => rfl); (case hr => first | (go_simp; done) | (go_simp; rfl)); intro gb148 hg w22 hbox hb; have n0_ := Aside0.mk (below_step (bel_) hb); have n1_ := Aside0.mk (hbox); have n2_ := Aside0.mk ((by rw [hg]; exact (below_size (bel_)) : w.heap.size ≤ gb148)); have n3_ := Aside0.mk ((by rw [hg]; exact (below_size (bel_)) : w.heap.size ≤ gb148)); clear HB; have HB := n0_; have BK148 := n1_; have GW148 := n2_; have GE148 := n3_; clear n0_ n1_ n2_ n3_; clear hb hbox hg; have hcz23_0 : w22.cell? ⟨gb148, 0, none⟩ = some (.string a0_0) := (blk_cell BK148.out 0).trans rfl; have hcz23_1 : w22.cell? ⟨gb148, 1, none⟩ = some (.string a0_1) := (blk_cell BK148.out 1).trans rfl; have hcz23_2 : w22.cell? ⟨gb148, 2, none⟩ = some (.int .i64 a0_2) := (blk_cell BK148.out 2).trans rfl; have hcz23_3 : w22.cell? ⟨gb148, 3, none⟩ = some (.int .i64 a0_3) := (blk_cell BK148.out 3).trans rfl; have hfz23_0 := blk_frozen BK148.out 0; have hfz23_1 := blk_frozen BK148.out 1; have hfz23_2 := blk_frozen BK148.out 2; have hfz23_3 := blk_frozen BK148.out 3) | ((with_reducible refine gate_callee (f := 53) rfl ?_); refine goesL_ (some 4) rfl rfl Tryz.func53 (by kernel_rfl) rfl #[.agg #[.string a0_0, .string a0_1, .int .i64 a0_2, .int .i64 a0_3]] rfl (mp_) ?_; (with_reducible refine (snap_placed.calls k a0_0 a0_1 a0_2 a0_3 true _ A2.out).mono ?_); rintro e w24 ⟨rfl, hb⟩; refine ⟨_, rfl, ?_⟩; have n0_ := Aside0.mk (blk_below (g := gb148) (o := .cells #[.string a0_0, .string a0_1, .int .i64 a0_2, .int .i64 a0_3] 43 (0, 0)) (ub_ BK148.out) hb); have n1_ := Aside0.mk (below_step (bes_ GE148.out) hb); clear BK148; clear HB; have BK148 := n0_; have HB := n1_; clear n0_ n1_; (try clear hb); (try clear hb2); (try clear hk); (try clear hi); have hcz25_0 : w24.cell? ⟨gb148, 0, none⟩ = some (.string a0_0) := (blk_cell BK148.out 0).trans rfl; have hcz25_1 : w24.cell? ⟨gb148, 1, none⟩ = some (.string a0_1) := (blk_cell BK148.out 1).trans rfl; have hcz25_2 : w24.cell? ⟨gb148, 2, none⟩ = some (.int .i64 a0_2) := (blk_cell BK148.out 2).trans rfl; have hcz25_3 : w24.cell? ⟨gb148, 3, none⟩ = some (.int .i64 a0_3) := (blk_cell BK148.out 3).trans rfl; have hfz25_0 := blk_frozen BK148.out 0; have hfz25_1 := blk_frozen BK148.out 1; have hfz25_2 := blk_frozen BK148.out 2; have hfz25_3 := blk_frozen BK148.out 3) | ((with_reducible refine gate_callee (f := 68) rfl ?_); refine goesL_ (some 8) rfl rfl Tryz.func68 (by kernel_rfl) rfl #[.string a0_0] rfl (mp_) ?_; (with_reducible refine (path_Base.calls k a0_0 t150 _ A4.out).mono ?_); rintro e w' ⟨rfl, ⟨nd, rfl⟩⟩; refine ⟨_, rfl, ?_⟩))
   go_ret
   exact ⟨er_, bes_ GE148.out⟩
  rw [if_neg c21] at H
  have c21b0 := decide_eq_false c21
  clear c21
  by_cases c26 : a0_3 < 0
  ·rw [if_pos c26] at H
   have c26b0 := decide_eq_true c26
   clear c26
   obtain rfl := Option.some.inj H
   go_enter Tryz.func54, Tryz.ntmps54
   go_wp2_with (first | ((with_reducible refine gate_dst (N := 1) rfl ?_); (try (refine gate_guard (by rfl) ?_; dsimp only)); refine box_event ?hg (N := 1) ?hd (cs := #[.string a0_0, .string a0_1, .int .i64 a0_2, .int .i64 a0_3]) (t := 43) ?hr ?_; (case hd => rfl); (case hg => rfl); (case hr => first | (go_simp; done) | (go_simp; rfl)); intro gb148 hg w27 hbox hb; have n0_ := Aside0.mk (below_step (bel_) hb); have n1_ := Aside0.mk (hbox); have n2_ := Aside0.mk ((by rw [hg]; exact (below_size (bel_)) : w.heap.size ≤ gb148)); have n3_ := Aside0.mk ((by rw [hg]; exact (below_size (bel_)) : w.heap.size ≤ gb148)); clear HB; have HB := n0_; have BK148 := n1_; have GW148 := n2_; have GE148 := n3_; clear n0_ n1_ n2_ n3_; clear hb hbox hg; have hcz28_0 : w27.cell? ⟨gb148, 0, none⟩ = some (.string a0_0) := (blk_cell BK148.out 0).trans rfl; have hcz28_1 : w27.cell? ⟨gb148, 1, none⟩ = some (.string a0_1) := (blk_cell BK148.out 1).trans rfl; have hcz28_2 : w27.cell? ⟨gb148, 2, none⟩ = some (.int .i64 a0_2) := (blk_cell BK148.out 2).trans rfl; have hcz28_3 : w27.cell? ⟨gb148, 3, none⟩ = some (.int .i64 a0_3) := (blk_cell BK148.out 3).trans rfl; have hfz28_0 := blk_frozen BK148.out 0; have hfz28_1 := blk_frozen BK148.out 1; have hfz28_2 := blk_frozen BK148.out 2; have hfz28_3 := blk_frozen BK148.out 3) | ((with_reducible refine gate_callee (f := 53) rfl ?_); refine goesL_ (some 4) rfl rfl Tryz.func53 (by kernel_rfl) rfl #[.agg #[.string a0_0, .string a0_1, .int .i64 a0_2, .int .i64 a0_3]] rfl (mp_) ?_; (with_reducible refine (snap_placed.calls k a0_0 a0_1 a0_2 a0_3 true _ A2.out).mono ?_); rintro e w29 ⟨rfl, hb⟩; refine ⟨_, rfl, ?_⟩; have n0_ := Aside0.mk (blk_below (g := gb148) (o := .cells #[.string a0_0, .string a0_1, .int .i64 a0_2, .int .i64 a0_3] 43 (0, 0)) (ub_ BK148.out) hb); have n1_ := Aside0.mk (below_step (bes_ GE148.out) hb); clear BK148; clear HB; have BK148 := n0_; have HB := n1_; clear n0_ n1_; (try clear hb); (try clear hb2); (try clear hk); (try clear hi); have hcz30_0 : w29.cell? ⟨gb148, 0, none⟩ = some (.string a0_0) := (blk_cell BK148.out 0).trans rfl; have hcz30_1 : w29.cell? ⟨gb148, 1, none⟩ = some (.string a0_1) := (blk_cell BK148.out 1).trans rfl; have hcz30_2 : w29.cell? ⟨gb148, 2, none⟩ = some (.int .i64 a0_2) := (blk_cell BK148.out 2).trans rfl; have hcz30_3 : w29.cell? ⟨gb148, 3, none⟩ = some (.int .i64 a0_3) := (blk_cell BK148.out 3).trans rfl; have hfz30_0 := blk_frozen BK148.out 0; have hfz30_1 := blk_frozen BK148.out 1; have hfz30_2 := blk_frozen BK148.out 2; have hfz30_3 := blk_frozen BK148.out 3) | ((with_reducible refine gate_callee (f := 68) rfl ?_); refine goesL_ (some 8) rfl rfl Tryz.func68 (by kernel_rfl) rfl #[.string a0_0] rfl (mp_) ?_; (with_reducible refine (path_Base.calls k a0_0 t150 _ A4.out).mono ?_); rintro e w' ⟨rfl, ⟨nd, rfl⟩⟩; refine ⟨_, rfl, ?_⟩))
   go_ret
   exact ⟨er_, bes_ GE148.out⟩
  rw [if_neg c26] at H
  have c26b0 := decide_eq_false c26
  clear c26
  by_cases c31 : a0_3 > 4611686018427387904
  ·rw [if_pos c31] at H
   have c31b0 := decide_eq_true c31
   clear c31
   obtain rfl := Option.some.inj H
   go_enter Tryz.func54, Tryz.ntmps54
   go_wp2_with (first | ((with_reducible refine gate_dst (N := 1) rfl ?_); (try (refine gate_guard (by rfl) ?_; dsimp only)); refine box_event ?hg (N := 1) ?hd (cs := #[.string a0_0, .string a0_1, .int .i64 a0_2, .int .i64 a0_3]) (t := 43) ?hr ?_; (case hd => rfl); (case hg => rfl); (case hr => first | (go_simp; done) | (go_simp; rfl)); intro gb148 hg w32 hbox hb; have n0_ := Aside0.mk (below_step (bel_) hb); have n1_ := Aside0.mk (hbox); have n2_ := Aside0.mk ((by rw [hg]; exact (below_size (bel_)) : w.heap.size ≤ gb148)); have n3_ := Aside0.mk ((by rw [hg]; exact (below_size (bel_)) : w.heap.size ≤ gb148)); clear HB; have HB := n0_; have BK148 := n1_; have GW148 := n2_; have GE148 := n3_; clear n0_ n1_ n2_ n3_; clear hb hbox hg; have hcz33_0 : w32.cell? ⟨gb148, 0, none⟩ = some (.string a0_0) := (blk_cell BK148.out 0).trans rfl; have hcz33_1 : w32.cell? ⟨gb148, 1, none⟩ = some (.string a0_1) := (blk_cell BK148.out 1).trans rfl; have hcz33_2 : w32.cell? ⟨gb148, 2, none⟩ = some (.int .i64 a0_2) := (blk_cell BK148.out 2).trans rfl; have hcz33_3 : w32.cell? ⟨gb148, 3, none⟩ = some (.int .i64 a0_3) := (blk_cell BK148.out 3).trans rfl; have hfz33_0 := blk_frozen BK148.out 0; have hfz33_1 := blk_frozen BK148.out 1; have hfz33_2 := blk_frozen BK148.out 2; have hfz33_3 := blk_frozen BK148.out 3) | ((with_reducible refine gate_callee (f := 53) rfl ?_); refine goesL_ (some 4) rfl rfl Tryz.func53 (by kernel_rfl) rfl #[.agg #[.string a0_0, .string a0_1, .int .i64 a0_2, .int .i64 a0_3]] rfl (mp_) ?_; (with_reducible refine (snap_placed.calls k a0_0 a0_1 a0_2 a0_3 true _ A2.out).mono ?_); rintro e w34 ⟨rfl, hb⟩; refine ⟨_, rfl, ?_⟩; have n0_ := Aside0.mk (blk_below (g := gb148) (o := .cells #[.string a0_0, .string a0_1, .int .i64 a0_2, .int .i64 a0_3] 43 (0, 0)) (ub_ BK148.out) hb); have n1_ := Aside0.mk (below_step (bes_ GE148.out) hb); clear BK148; clear HB; have BK148 := n0_; have HB := n1_; clear n0_ n1_; (try clear hb); (try clear hb2); (try clear hk); (try clear hi); have hcz35_0 : w34.cell? ⟨gb148, 0, none⟩ = some (.string a0_0) := (blk_cell BK148.out 0).trans rfl; have hcz35_1 : w34.cell? ⟨gb148, 1, none⟩ = some (.string a0_1) := (blk_cell BK148.out 1).trans rfl; have hcz35_2 : w34.cell? ⟨gb148, 2, none⟩ = some (.int .i64 a0_2) := (blk_cell BK148.out 2).trans rfl; have hcz35_3 : w34.cell? ⟨gb148, 3, none⟩ = some (.int .i64 a0_3) := (blk_cell BK148.out 3).trans rfl; have hfz35_0 := blk_frozen BK148.out 0; have hfz35_1 := blk_frozen BK148.out 1; have hfz35_2 := blk_frozen BK148.out 2; have hfz35_3 := blk_frozen BK148.out 3) | ((with_reducible refine gate_callee (f := 68) rfl ?_); refine goesL_ (some 8) rfl rfl Tryz.func68 (by kernel_rfl) rfl #[.string a0_0] rfl (mp_) ?_; (with_reducible refine (path_Base.calls k a0_0 t150 _ A4.out).mono ?_); rintro e w' ⟨rfl, ⟨nd, rfl⟩⟩; refine ⟨_, rfl, ?_⟩))
   go_ret
   exact ⟨er_, bes_ GE148.out⟩
  rw [if_neg c31] at H
  have c31b0 := decide_eq_false c31
  clear c31
  obtain rfl := Option.some.inj H
  go_enter Tryz.func54, Tryz.ntmps54
  go_wp2_with (first | ((with_reducible refine gate_dst (N := 1) rfl ?_); (try (refine gate_guard (by rfl) ?_; dsimp only)); refine box_event ?hg (N := 1) ?hd (cs := #[.string a0_0, .string a0_1, .int .i64 a0_2, .int .i64 a0_3]) (t := 43) ?hr ?_; (case hd => rfl); (case hg => rfl); (case hr => first | (go_simp; done) | (go_simp; rfl)); intro gb148 hg w36 hbox hb; have n0_ := Aside0.mk (below_step (bel_) hb); have n1_ := Aside0.mk (hbox); have n2_ := Aside0.mk ((by rw [hg]; exact (below_size (bel_)) : w.heap.size ≤ gb148)); have n3_ := Aside0.mk ((by rw [hg]; exact (below_size (bel_)) : w.heap.size ≤ gb148)); clear HB; have HB := n0_; have BK148 := n1_; have GW148 := n2_; have GE148 := n3_; clear n0_ n1_ n2_ n3_; clear hb hbox hg; have hcz37_0 : w36.cell? ⟨gb148, 0, none⟩ = some (.string a0_0) := (blk_cell BK148.out 0).trans rfl; have hcz37_1 : w36.cell? ⟨gb148, 1, none⟩ = some (.string a0_1) := (blk_cell BK148.out 1).trans rfl; have hcz37_2 : w36.cell? ⟨gb148, 2, none⟩ = some (.int .i64 a0_2) := (blk_cell BK148.out 2).trans rfl; have hcz37_3 : w36.cell? ⟨gb148, 3, none⟩ = some (.int .i64 a0_3) := (blk_cell BK148.out 3).trans rfl; have hfz37_0 := blk_frozen BK148.out 0; have hfz37_1 := blk_frozen BK148.out 1; have hfz37_2 := blk_frozen BK148.out 2; have hfz37_3 := blk_frozen BK148.out 3) | ((with_reducible refine gate_callee (f := 53) rfl ?_); refine goesL_ (some 4) rfl rfl Tryz.func53 (by kernel_rfl) rfl #[.agg #[.string a0_0, .string a0_1, .int .i64 a0_2, .int .i64 a0_3]] rfl (mp_) ?_; (with_reducible refine (snap_placed.calls k a0_0 a0_1 a0_2 a0_3 true _ A2.out).mono ?_); rintro e w38 ⟨rfl, hb⟩; refine ⟨_, rfl, ?_⟩; have n0_ := Aside0.mk (blk_below (g := gb148) (o := .cells #[.string a0_0, .string a0_1, .int .i64 a0_2, .int .i64 a0_3] 43 (0, 0)) (ub_ BK148.out) hb); have n1_ := Aside0.mk (below_step (bes_ GE148.out) hb); clear BK148; clear HB; have BK148 := n0_; have HB := n1_; clear n0_ n1_; (try clear hb); (try clear hb2); (try clear hk); (try clear hi); have hcz39_0 : w38.cell? ⟨gb148, 0, none⟩ = some (.string a0_0) := (blk_cell BK148.out 0).trans rfl; have hcz39_1 : w38.cell? ⟨gb148, 1, none⟩ = some (.string a0_1) := (blk_cell BK148.out 1).trans rfl; have hcz39_2 : w38.cell? ⟨gb148, 2, none⟩ = some (.int .i64 a0_2) := (blk_cell BK148.out 2).trans rfl; have hcz39_3 : w38.cell? ⟨gb148, 3, none⟩ = some (.int .i64 a0_3) := (blk_cell BK148.out 3).trans rfl; have hfz39_0 := blk_frozen BK148.out 0; have hfz39_1 := blk_frozen BK148.out 1; have hfz39_2 := blk_frozen BK148.out 2; have hfz39_3 := blk_frozen BK148.out 3) | ((with_reducible refine gate_callee (f := 68) rfl ?_); refine goesL_ (some 8) rfl rfl Tryz.func68 (by kernel_rfl) rfl #[.string a0_0] rfl (mp_) ?_; (with_reducible refine (path_Base.calls k a0_0 t150 _ A4.out).mono ?_); rintro e w' ⟨rfl, ⟨nd, rfl⟩⟩; refine ⟨_, rfl, ?_⟩))
  go_ret
  exact ⟨er_, bes_ GE148.out⟩
 rw [if_pos c5] at H
 have c5b0 : (t150.toList == ([84, 65, 82, 71, 69, 84, 83] : List UInt8)) = true := beq_iff_eq.mpr c5
 have c5b1 : (t150.toList != ([84, 65, 82, 71, 69, 84, 83] : List UInt8)) = false := bne_eq_false_iff_eq.mpr c5
 clear c5
 have HC6 := Aside0.mk H
 clear H
 go_enter Tryz.func54, Tryz.ntmps54
 go_upto_region 4 with (first | ((with_reducible refine gate_dst (N := 1) rfl ?_); (try (refine gate_guard (by rfl) ?_; dsimp only)); refine box_event ?hg (N := 1) ?hd (cs := #[.string a0_0, .string a0_1, .int .i64 a0_2, .int .i64 a0_3]) (t := 43) ?hr ?_; (case hd => rfl); (case hg => rfl); (case hr => first | (go_simp; done) | (go_simp; rfl)); intro gb148 hg w7 hbox hb; have n0_ := Aside0.mk (below_step (bel_) hb); have n1_ := Aside0.mk (hbox); have n2_ := Aside0.mk ((by rw [hg]; exact (below_size (bel_)) : w.heap.size ≤ gb148)); have n3_ := Aside0.mk ((by rw [hg]; exact (below_size (bel_)) : w.heap.size ≤ gb148)); clear HB; have HB := n0_; have BK148 := n1_; have GW148 := n2_; have GE148 := n3_; clear n0_ n1_ n2_ n3_; clear hb hbox hg; have hcz8_0 : w7.cell? ⟨gb148, 0, none⟩ = some (.string a0_0) := (blk_cell BK148.out 0).trans rfl; have hcz8_1 : w7.cell? ⟨gb148, 1, none⟩ = some (.string a0_1) := (blk_cell BK148.out 1).trans rfl; have hcz8_2 : w7.cell? ⟨gb148, 2, none⟩ = some (.int .i64 a0_2) := (blk_cell BK148.out 2).trans rfl; have hcz8_3 : w7.cell? ⟨gb148, 3, none⟩ = some (.int .i64 a0_3) := (blk_cell BK148.out 3).trans rfl; have hfz8_0 := blk_frozen BK148.out 0; have hfz8_1 := blk_frozen BK148.out 1; have hfz8_2 := blk_frozen BK148.out 2; have hfz8_3 := blk_frozen BK148.out 3) | ((with_reducible refine gate_callee (f := 53) rfl ?_); refine goesL_ (some 4) rfl rfl Tryz.func53 (by kernel_rfl) rfl #[.agg #[.string a0_0, .string a0_1, .int .i64 a0_2, .int .i64 a0_3]] rfl (mp_) ?_; (with_reducible refine (snap_placed.calls k a0_0 a0_1 a0_2 a0_3 true _ A2.out).mono ?_); rintro e w9 ⟨rfl, hb⟩; refine ⟨_, rfl, ?_⟩; have n0_ := Aside0.mk (blk_below (g := gb148) (o := .cells #[.string a0_0, .string a0_1, .int .i64 a0_2, .int .i64 a0_3] 43 (0, 0)) (ub_ BK148.out) hb); have n1_ := Aside0.mk (below_step (bes_ GE148.out) hb); clear BK148; clear HB; have BK148 := n0_; have HB := n1_; clear n0_ n1_; (try clear hb); (try clear hb2); (try clear hk); (try clear hi); have hcz10_0 : w9.cell? ⟨gb148, 0, none⟩ = some (.string a0_0) := (blk_cell BK148.out 0).trans rfl; have hcz10_1 : w9.cell? ⟨gb148, 1, none⟩ = some (.string a0_1) := (blk_cell BK148.out 1).trans rfl; have hcz10_2 : w9.cell? ⟨gb148, 2, none⟩ = some (.int .i64 a0_2) := (blk_cell BK148.out 2).trans rfl; have hcz10_3 : w9.cell? ⟨gb148, 3, none⟩ = some (.int .i64 a0_3) := (blk_cell BK148.out 3).trans rfl; have hfz10_0 := blk_frozen BK148.out 0; have hfz10_1 := blk_frozen BK148.out 1; have hfz10_2 := blk_frozen BK148.out 2; have hfz10_3 := blk_frozen BK148.out 3) | ((with_reducible refine gate_callee (f := 68) rfl ?_); refine goesL_ (some 8) rfl rfl Tryz.func68 (by kernel_rfl) rfl #[.string a0_0] rfl (mp_) ?_; (with_reducible refine (path_Base.calls k a0_0 t150 _ A4.out).mono ?_); rintro e w' ⟨rfl, ⟨nd, rfl⟩⟩; refine ⟨_, rfl, ?_⟩))
 (try simp only [Act.put, List.setIfInBounds_toArray, List.set_cons_zero, List.set_cons_succ])
 go_cut [20] (fun v20 wc => ∃ (kq : Nat) (x20_5 : Bool), v20 = .bool x20_5 ∧ Aside0 (snap_File.j0 kq x20_5 = some r) ∧ Aside0 (kq ≤ k) ∧ Aside0 (wc.heap[gb148]? = some (.cells #[.string a0_0, .string a0_1, .int .i64 a0_2, .int .i64 a0_3] 43 (0, 0))) ∧ Aside0 (Below w.heap.size w wc))
 case first =>
  have H := HC6.out
  clear HC6
  by_cases c11 : a0_2 = 0
  ·rw [if_pos c11] at H
   have c11b0 : (a0_2 == 0) = true := beq_iff_eq.mpr c11
   have c11b1 : (a0_2 != 0) = false := bne_eq_false_iff_eq.mpr c11
   clear c11
   (first | rw [c11b0] | (simp only [i64_w, i32_w]; rw [c11b0]) | skip)
   have H' := Aside0.mk H
   clear H
   have hcz12_0 : w9.cell? ⟨gb148, 0, none⟩ = some (.string a0_0) := (blk_cell BK148.out 0).trans rfl
   have hcz12_1 : w9.cell? ⟨gb148, 1, none⟩ = some (.string a0_1) := (blk_cell BK148.out 1).trans rfl
   have hcz12_2 : w9.cell? ⟨gb148, 2, none⟩ = some (.int .i64 a0_2) := (blk_cell BK148.out 2).trans rfl
   have hcz12_3 : w9.cell? ⟨gb148, 3, none⟩ = some (.int .i64 a0_3) := (blk_cell BK148.out 3).trans rfl
   have hfz12_0 := blk_frozen BK148.out 0
   have hfz12_1 := blk_frozen BK148.out 1
   have hfz12_2 := blk_frozen BK148.out 2
   have hfz12_3 := blk_frozen BK148.out 3
   go_wp2
   go_meet
   case rel => exact ⟨_, ((a0_3 != (a0_1.size : Int))), (rf_), H', ⟨by first | omega | exact Nat.le_refl _⟩, ⟨ub_ BK148.out⟩, ⟨bes_ GE148.out⟩⟩
  rw [if_neg c11] at H
  have c11b0 : (a0_2 == 0) = false := beq_eq_false_iff_ne.mpr c11
  have c11b1 : (a0_2 != 0) = true := bne_iff_ne.mpr c11
  (first | rw [c11b0] | (simp only [i64_w, i32_w]; rw [c11b0]) | skip)
  have H' := Aside0.mk H
  clear H
  have hcz13_0 : w9.cell? ⟨gb148, 0, none⟩ = some (.string a0_0) := (blk_cell BK148.out 0).trans rfl
  have hcz13_1 : w9.cell? ⟨gb148, 1, none⟩ = some (.string a0_1) := (blk_cell BK148.out 1).trans rfl
  have hcz13_2 : w9.cell? ⟨gb148, 2, none⟩ = some (.int .i64 a0_2) := (blk_cell BK148.out 2).trans rfl
  have hcz13_3 : w9.cell? ⟨gb148, 3, none⟩ = some (.int .i64 a0_3) := (blk_cell BK148.out 3).trans rfl
  have hfz13_0 := blk_frozen BK148.out 0
  have hfz13_1 := blk_frozen BK148.out 1
  have hfz13_2 := blk_frozen BK148.out 2
  have hfz13_3 := blk_frozen BK148.out 3
  go_wp2
  go_meet
  case rel => exact ⟨_, (true), (rf_), H', ⟨by first | omega | exact Nat.le_refl _⟩, ⟨ub_ BK148.out⟩, ⟨bes_ GE148.out⟩⟩
 case rest =>
  clear HC6
  try clear c1
  try clear p2
  try clear c3
  try clear c5
  try clear c5b0
  try clear c5b1
  try clear c6
  try clear c11
  try clear c11b0
  try clear c11b1
  try clear hcz10_0
  try clear hcz10_1
  try clear hcz10_2
  try clear hcz10_3
  try clear hcz12_0
  try clear hcz12_1
  try clear hcz12_2
  try clear hcz12_3
  try clear hcz13_0
  try clear hcz13_1
  try clear hcz13_2
  try clear hcz13_3
  try clear hcz8_0
  try clear hcz8_1
  try clear hcz8_2
  try clear hcz8_3
  try clear hfz10_0
  try clear hfz10_1
  try clear hfz10_2
  try clear hfz10_3
  try clear hfz12_0
  try clear hfz12_1
  try clear hfz12_2
  try clear hfz12_3
  try clear hfz13_0
  try clear hfz13_1
  try clear hfz13_2
  try clear hfz13_3
  try clear hfz8_0
  try clear hfz8_1
  try clear hfz8_2
  try clear hfz8_3
  obtain ⟨kq, x20_5, rfl, HA, HJ5, BK148, HB⟩ := hcut
  cases kq with
  | zero => exact absurd HA.out (by simp [snap_File.j0])
  | succ kj5 =>
   have H := HA.out
   clear HA
   simp only [snap_File.j0] at H
   by_cases c14 : x20_5 = true
   ·subst c14
    rw [if_pos rfl] at H
    have H1 := H
    clear H
    have H := H1
    clear H1
    obtain rfl := Option.some.inj H
    go_wp2
    go_ret
    exact ⟨er_, bes_ GE148.out⟩
   replace c14 := Bool.eq_false_iff.mpr c14
   subst c14
   have H1 : (some 0) = some r := by rw [if_neg (show ¬ (false = true) by decide)] at H; exact H
   clear H
   have H := H1
   clear H1
   obtain rfl := Option.some.inj H
   go_wp2
   go_ret
   exact ⟨er_, bes_ GE148.out⟩
def path_Above.f (k : Nat) (a0 : ByteArray) (a1 : ByteArray) : Option (Bool) := (path_Split.f k a0).bind fun t151 => ((path_Split.f k a1).bind fun t154 => (if (t151.length : Int) < (t154.length : Int) then ((path_common.f k t151 t154).bind fun t157 => (some (t157 == (t151.length : Int)))) else (some false)))
theorem path_Above.mono : ∀ a0 a1 k, LeO (path_Above.f k a0 a1) (path_Above.f (k + 1) a0 a1) := by
 intro a0 a1 k
 unfold path_Above.f
 repeat' first
   | (with_reducible exact path_Split.mono _ _)
   | (with_reducible exact path_common.mono _ _ _)
   | (with_reducible exact LeO.refl _)
   | (with_reducible exact LeO.none _)
   | (with_reducible refine LeO.ite ?_ ?_)
   | (with_reducible refine LeO.bind ?_ (fun _ => ?_))
   | exact path_Split.mono _ _
   | exact path_common.mono _ _ _
   | exact LeO.none _
   | refine LeO.ite ?_ ?_
   | refine LeO.bind ?_ (fun _ => ?_)
set_option maxHeartbeats 8000000 in
set_option maxRecDepth 100000 in
theorem path_Above.calls (k : Nat) (a0 : ByteArray) (a1 : ByteArray) (r : Bool) (w : World) (h : path_Above.f k a0 a1 = some r) :
  Calls Tryz.prog 55 #[.string a0, .string a1] w fun e w' => e = .returned (.bool r) ∧ Below w.heap.size w w' := by
 have HB := Aside0.mk (Below.refl w.heap.size w)
 have H : ((path_Split.f k a0).bind fun t151 => ((path_Split.f k a1).bind fun t154 => (if (t151.length : Int) < (t154.length : Int) then ((path_common.f k t151 t154).bind fun t157 => (some (t157 == (t151.length : Int)))) else (some false)))) = some r := h
 clear h
 replace H := Option.bind_eq_some_iff.mp H
 obtain ⟨t151, A30, H⟩ := H
 try dsimp only at H
 have A3 := Aside0.mk A30
 clear A30
 replace H := Option.bind_eq_some_iff.mp H
 obtain ⟨t154, A40, H⟩ := H
 try dsimp only at H
 have A4 := Aside0.mk A40
 clear A40
 by_cases c5 : (t151.length : Int) < (t154.length : Int)
 rotate_left
 ·rw [if_neg c5] at H
  have c5b0 := decide_eq_false c5
  have c5b1 : decide (t151.length < t154.length) = false := decide_eq_false (fun h => c5 (Int.ofNat_lt.mpr h))
  clear c5
  obtain rfl := Option.some.inj H
  go_enter Tryz.func55, Tryz.ntmps55
  go_wp2_with (first | ((with_reducible refine gate_callee (f := 45) rfl ?_); refine goesL_ (some 8) rfl rfl Tryz.func45 (by kernel_rfl) rfl #[.string a0] rfl (mp_) ?_; (with_reducible refine (path_Split.calls k a0 t151 _ A3.out).mono ?_); rintro e w11 ⟨v152, rfl, ho0, hb⟩; refine ⟨_, rfl, ?_⟩; have n0_ := Aside0.mk (Kd.R_lower ho0 (below_size (bel_))); have n1_ := Aside0.mk (below_step (bel_) hb); clear HB; have HO153 := n0_; have HB := n1_; clear n0_ n1_; (try clear hb); (try clear hb2); (try clear hk); (try clear hi); (try clear ho0)) | ((with_reducible refine gate_callee (f := 45) rfl ?_); refine goesL_ (some 10) rfl rfl Tryz.func45 (by kernel_rfl) rfl #[.string a1] rfl (mp_) ?_; (with_reducible refine (path_Split.calls k a1 t154 _ A4.out).mono ?_); rintro e w12 ⟨v155, rfl, ho0, hb⟩; refine ⟨_, rfl, ?_⟩; have n0_ := Aside0.mk (Kd.R_elder' (ur_ HO153.out) (Kd.R_base ho0) hb); have n1_ := Aside0.mk (Kd.R_lower (Kd.R_new' ho0 (Kd.R_lt (ur_ HO153.out))) (below_size (bel_))); have n2_ := Aside0.mk (below_step (bel_) hb); clear HO153; clear HB; have HO153 := n0_; have HO156 := n1_; have HB := n2_; clear n0_ n1_ n2_; (try clear hb); (try clear hb2); (try clear hk); (try clear hi); (try clear ho0); obtain ⟨Ao13, co13, eo13⟩ := Kd.R_slice HO153.out; subst eo13; obtain ⟨Ao14, co14, eo14⟩ := Kd.R_slice HO156.out; subst eo14))
  go_ret
  exact ⟨er_, bel_⟩
 rw [if_pos c5] at H
 have c5b0 := decide_eq_true c5
 have c5b1 : decide (t151.length < t154.length) = true := decide_eq_true (Int.ofNat_lt.mp c5)
 clear c5
 replace H := Option.bind_eq_some_iff.mp H
 obtain ⟨t157, A60, H⟩ := H
 try dsimp only at H
 have A6 := Aside0.mk A60
 clear A60
 obtain rfl := Option.some.inj H
 go_enter Tryz.func55, Tryz.ntmps55
 go_wp2_with (first | ((with_reducible refine gate_callee (f := 45) rfl ?_); refine goesL_ (some 8) rfl rfl Tryz.func45 (by kernel_rfl) rfl #[.string a0] rfl (mp_) ?_; (with_reducible refine (path_Split.calls k a0 t151 _ A3.out).mono ?_); rintro e w7 ⟨v152, rfl, ho0, hb⟩; refine ⟨_, rfl, ?_⟩; have n0_ := Aside0.mk (Kd.R_lower ho0 (below_size (bel_))); have n1_ := Aside0.mk (below_step (bel_) hb); clear HB; have HO153 := n0_; have HB := n1_; clear n0_ n1_; (try clear hb); (try clear hb2); (try clear hk); (try clear hi); (try clear ho0)) | ((with_reducible refine gate_callee (f := 45) rfl ?_); refine goesL_ (some 10) rfl rfl Tryz.func45 (by kernel_rfl) rfl #[.string a1] rfl (mp_) ?_; (with_reducible refine (path_Split.calls k a1 t154 _ A4.out).mono ?_); rintro e w8 ⟨v155, rfl, ho0, hb⟩; refine ⟨_, rfl, ?_⟩; have n0_ := Aside0.mk (Kd.R_elder' (ur_ HO153.out) (Kd.R_base ho0) hb); have n1_ := Aside0.mk (Kd.R_lower (Kd.R_new' ho0 (Kd.R_lt (ur_ HO153.out))) (below_size (bel_))); have n2_ := Aside0.mk (below_step (bel_) hb); clear HO153; clear HB; have HO153 := n0_; have HO156 := n1_; have HB := n2_; clear n0_ n1_ n2_; (try clear hb); (try clear hb2); (try clear hk); (try clear hi); (try clear ho0); obtain ⟨Ao9, co9, eo9⟩ := Kd.R_slice HO153.out; subst eo9; obtain ⟨Ao10, co10, eo10⟩ := Kd.R_slice HO156.out; subst eo10) | (go_at_call 46; (with_reducible refine (path_common.calls k _ _ t151 _ _ t154 t157 _ ?side1 ?side2 ?side3 ?side4 A6.out).mono ?_); (case side1 => repeat (first | exact (Kd.R_reads' HO153.out).2.2 | (with_reducible refine Kd.C_alloc ?_ _) | (with_reducible refine Kd.C_drewN ?_ _) | (with_reducible refine Kd.C_drew ?_))); (case side2 => exact (Kd.R_reads' HO153.out).2.1); (case side3 => repeat (first | exact (Kd.R_reads' HO156.out).2.2 | (with_reducible refine Kd.C_alloc ?_ _) | (with_reducible refine Kd.C_drewN ?_ _) | (with_reducible refine Kd.C_drew ?_))); (case side4 => exact (Kd.R_reads' HO156.out).2.1); rintro e w' ⟨rfl, ⟨nd, rfl⟩⟩))
 go_ret
 exact ⟨er_, bel_⟩
end Go.Proofs.YtehfogjibhnabaaGreatDoor.PAll
