/- What functions of the program compute, each with its walk: a contract for every world and every argument of the kind told. -/
import Derived.Test.YtdfkaclflmgkeaaGreatDoorCfPAllx0
import Derived.Test.YtdfkaclflmgkeaaGreatDoorCfPAlly4
namespace Go.Proofs.YtdfkaclflmgkeaaGreatDoor.PAll
open Go.RowKit Go.Proofs.YtdfkaclflmgkeaaGreatDoorW.PrintWords Go.Proofs.YtdfkaclflmgkeaaGreatDoorW.PrintLast Go.Proofs.YtdfkaclflmgkeaaGreatDoorW.PrintMore
attribute [local go_sem] max2_int min2_int max_two min_two max_three min_three max_four min_four
set_option linter.unusedVariables false
set_option linter.unusedSimpArgs false
mutual
def copseref13_component.j0 : Nat → ByteArray → Bool → Option (Bool)
 | 0, _, _ => none
 | k + 1, x0, x25 => if x25 = true then (some false) else (copseref13_component.l0 k x0 0)
def copseref13_component.l0 : Nat → ByteArray → Int → Option (Bool)
 | 0, _, _ => none
 | k + 1, x0, x3 => if x3 < (x0.size : Int) then (if 0 ≤ x3 then (if (bt x0 x3) ≥ 97 then (if (bt x0 x3) ≤ 122 then (copseref13_component.l0 k x0 (wrap64 (x3 + 1))) else (if (bt x0 x3) ≥ 65 then (if (bt x0 x3) ≤ 90 then (copseref13_component.l0 k x0 (wrap64 (x3 + 1))) else (if (bt x0 x3) ≥ 48 then (if (bt x0 x3) ≤ 57 then (copseref13_component.l0 k x0 (wrap64 (x3 + 1))) else (if (bt x0 x3) = 46 then (copseref13_component.l0 k x0 (wrap64 (x3 + 1))) else (if (bt x0 x3) = 95 then (copseref13_component.l0 k x0 (wrap64 (x3 + 1))) else (if ((bt x0 x3) = 45) then (copseref13_component.l0 k x0 (wrap64 (x3 + 1))) else (some false))))) else (if (bt x0 x3) = 46 then (copseref13_component.l0 k x0 (wrap64 (x3 + 1))) else (if (bt x0 x3) = 95 then (copseref13_component.l0 k x0 (wrap64 (x3 + 1))) else (if ((bt x0 x3) = 45) then (copseref13_component.l0 k x0 (wrap64 (x3 + 1))) else (some false)))))) else (if (bt x0 x3) ≥ 48 then (if (bt x0 x3) ≤ 57 then (copseref13_component.l0 k x0 (wrap64 (x3 + 1))) else (if (bt x0 x3) = 46 then (copseref13_component.l0 k x0 (wrap64 (x3 + 1))) else (if (bt x0 x3) = 95 then (copseref13_component.l0 k x0 (wrap64 (x3 + 1))) else (if ((bt x0 x3) = 45) then (copseref13_component.l0 k x0 (wrap64 (x3 + 1))) else (some false))))) else (if (bt x0 x3) = 46 then (copseref13_component.l0 k x0 (wrap64 (x3 + 1))) else (if (bt x0 x3) = 95 then (copseref13_component.l0 k x0 (wrap64 (x3 + 1))) else (if ((bt x0 x3) = 45) then (copseref13_component.l0 k x0 (wrap64 (x3 + 1))) else (some false))))))) else (if (bt x0 x3) ≥ 65 then (if (bt x0 x3) ≤ 90 then (copseref13_component.l0 k x0 (wrap64 (x3 + 1))) else (if (bt x0 x3) ≥ 48 then (if (bt x0 x3) ≤ 57 then (copseref13_component.l0 k x0 (wrap64 (x3 + 1))) else (if (bt x0 x3) = 46 then (copseref13_component.l0 k x0 (wrap64 (x3 + 1))) else (if (bt x0 x3) = 95 then (copseref13_component.l0 k x0 (wrap64 (x3 + 1))) else (if ((bt x0 x3) = 45) then (copseref13_component.l0 k x0 (wrap64 (x3 + 1))) else (some false))))) else (if (bt x0 x3) = 46 then (copseref13_component.l0 k x0 (wrap64 (x3 + 1))) else (if (bt x0 x3) = 95 then (copseref13_component.l0 k x0 (wrap64 (x3 + 1))) else (if ((bt x0 x3) = 45) then (copseref13_component.l0 k x0 (wrap64 (x3 + 1))) else (some false)))))) else (if (bt x0 x3) ≥ 48 then (if (bt x0 x3) ≤ 57 then (copseref13_component.l0 k x0 (wrap64 (x3 + 1))) else (if (bt x0 x3) = 46 then (copseref13_component.l0 k x0 (wrap64 (x3 + 1))) else (if (bt x0 x3) = 95 then (copseref13_component.l0 k x0 (wrap64 (x3 + 1))) else (if ((bt x0 x3) = 45) then (copseref13_component.l0 k x0 (wrap64 (x3 + 1))) else (some false))))) else (if (bt x0 x3) = 46 then (copseref13_component.l0 k x0 (wrap64 (x3 + 1))) else (if (bt x0 x3) = 95 then (copseref13_component.l0 k x0 (wrap64 (x3 + 1))) else (if ((bt x0 x3) = 45) then (copseref13_component.l0 k x0 (wrap64 (x3 + 1))) else (some false))))))) else (none)) else (some true)
end
def copseref13_component.f (k : Nat) (a0 : ByteArray) : Option (Bool) := if (a0.size : Int) < 1 then (copseref13_component.j0 k a0 true) else (if (a0.size : Int) > 32 then (copseref13_component.j0 k a0 true) else (if a0.toList = ([46] : List UInt8) then (copseref13_component.j0 k a0 true) else (if a0.toList = ([46, 46] : List UInt8) then (copseref13_component.j0 k a0 true) else (copseref13_component.j0 k a0 (a0.toList == ([46, 46, 46] : List UInt8))))))
set_option maxHeartbeats 8000000 in
set_option maxRecDepth 100000 in
theorem copseref13_component.calls (k : Nat) (a0 : ByteArray) (r : Bool) (w : World) (h : copseref13_component.f k a0 = some r) :
  Calls Tryz.prog 63 #[.string a0] w fun e w' => e = .returned (.bool r) ∧ Drawn0 w w' := by
 have H : (if (a0.size : Int) < 1 then (copseref13_component.j0 k a0 true) else (if (a0.size : Int) > 32 then (copseref13_component.j0 k a0 true) else (if a0.toList = ([46] : List UInt8) then (copseref13_component.j0 k a0 true) else (if a0.toList = ([46, 46] : List UInt8) then (copseref13_component.j0 k a0 true) else (copseref13_component.j0 k a0 (a0.toList == ([46, 46, 46] : List UInt8))))))) = some r := h
 clear h
 have HC2 := Aside0.mk H
 clear H
 go_enter Tryz.func63, Tryz.ntmps63
 go_upto_region 1 with (fail)
 go_cut [25] (fun v25 wc => ∃ (kq : Nat) (x25_1 : Bool), v25 = .bool x25_1 ∧ Aside0 (copseref13_component.j0 kq a0 x25_1 = some r) ∧ Aside0 (kq ≤ k) ∧ Drawn0 w wc)
 case first =>
  have H := HC2.out
  clear HC2
  by_cases c3 : (a0.size : Int) < 1
  ·rw [if_pos c3] at H
   have c3b0 := decide_eq_true c3
   have c3b1 : decide (a0.size < 1) = true := decide_eq_true (by omega)
   clear c3
   (first | rw [c3b0] | (simp only [i64_w, i32_w]; rw [c3b0]) | skip)
   have H' := Aside0.mk H
   clear H
   go_wp2
   go_meet
   case rel => exact ⟨_, (true), (by first | rfl | (simp; done) | (simp [*]; done)), H', ⟨by first | omega | exact Nat.le_refl _⟩, by repeat (first | exact Drawn0.refl _ | apply Drawn0.step)⟩
  ·rw [if_neg c3] at H
   have c3b0 := decide_eq_false c3
   have c3b1 : decide (a0.size < 1) = false := decide_eq_false (by omega)
   clear c3
   (first | rw [c3b0] | (simp only [i64_w, i32_w]; rw [c3b0]) | skip)
   by_cases c4 : (a0.size : Int) > 32
   ·rw [if_pos c4] at H
    have c4b0 := decide_eq_true c4
    have c4b1 : decide (32 < a0.size) = true := decide_eq_true (by omega)
    clear c4
    have H' := Aside0.mk H
    clear H
    go_wp2
    go_meet
    case rel => exact ⟨_, (true), (by first | rfl | (simp; done) | (simp [*]; done)), H', ⟨by first | omega | exact Nat.le_refl _⟩, by repeat (first | exact Drawn0.refl _ | apply Drawn0.step)⟩
   ·rw [if_neg c4] at H
    have c4b0 := decide_eq_false c4
    have c4b1 : decide (32 < a0.size) = false := decide_eq_false (by omega)
    clear c4
    by_cases c5 : a0.toList = ([46] : List UInt8)
    ·rw [if_pos c5] at H
     have c5b0 : (a0.toList == ([46] : List UInt8)) = true := beq_iff_eq.mpr c5
     have c5b1 : (a0.toList != ([46] : List UInt8)) = false := bne_eq_false_iff_eq.mpr c5
     clear c5
     have H' := Aside0.mk H
     clear H
     go_wp2
     go_meet
     case rel => exact ⟨_, (true), (by first | rfl | (simp; done) | (simp [*]; done)), H', ⟨by first | omega | exact Nat.le_refl _⟩, by repeat (first | exact Drawn0.refl _ | apply Drawn0.step)⟩
    ·rw [if_neg c5] at H
     have c5b0 : (a0.toList == ([46] : List UInt8)) = false := beq_eq_false_iff_ne.mpr c5
     have c5b1 : (a0.toList != ([46] : List UInt8)) = true := bne_iff_ne.mpr c5
     by_cases c6 : a0.toList = ([46, 46] : List UInt8)
     ·rw [if_pos c6] at H
      have c6b0 : (a0.toList == ([46, 46] : List UInt8)) = true := beq_iff_eq.mpr c6
      have c6b1 : (a0.toList != ([46, 46] : List UInt8)) = false := bne_eq_false_iff_eq.mpr c6
      clear c6
      have H' := Aside0.mk H
      clear H
      go_wp2
      go_meet
      case rel => exact ⟨_, (true), (by first | rfl | (simp; done) | (simp [*]; done)), H', ⟨by first | omega | exact Nat.le_refl _⟩, by repeat (first | exact Drawn0.refl _ | apply Drawn0.step)⟩
     ·rw [if_neg c6] at H
      have c6b0 : (a0.toList == ([46, 46] : List UInt8)) = false := beq_eq_false_iff_ne.mpr c6
      have c6b1 : (a0.toList != ([46, 46] : List UInt8)) = true := bne_iff_ne.mpr c6
      have H' := Aside0.mk H
      clear H
      go_wp2
      go_meet
      case rel => exact ⟨_, ((a0.toList == ([46, 46, 46] : List UInt8))), (by first | rfl | (simp; done) | (simp [*]; done)), H', ⟨by first | omega | exact Nat.le_refl _⟩, by repeat (first | exact Drawn0.refl _ | apply Drawn0.step)⟩
 case rest =>
  clear HC2
  try clear p2
  try clear c3
  try clear c3b0
  try clear c3b1
  try clear c4
  try clear c4b0
  try clear c4b1
  try clear c5
  try clear c5b0
  try clear c5b1
  try clear c6
  try clear c6b0
  try clear c6b1
  obtain ⟨kq, x25_1, rfl, HA, HJ1, ⟨mc1, rfl⟩⟩ := hcut
  cases kq with
  | zero => exact absurd HA.out (by simp [copseref13_component.j0])
  | succ kj1 =>
   have H := HA.out
   clear HA
   simp only [copseref13_component.j0] at H
   by_cases c7 : x25_1 = true
   ·subst c7
    rw [if_pos rfl] at H
    have H1 := H
    clear H
    have H := H1
    clear H1
    obtain rfl := Option.some.inj H
    go_wp2
    go_ret
    exact ⟨by first | rfl | (simp; done) | (simp [*]; done), by repeat (first | exact Drawn0.refl _ | apply Drawn0.step)⟩
   ·replace c7 := Bool.eq_false_iff.mpr c7
    subst c7
    have H1 : (copseref13_component.l0 kj1 a0 0) = some r := by rw [if_neg (show ¬ (false = true) by decide)] at H; exact H
    clear H
    have H := H1
    clear H1
    have H' := Aside0.mk H
    clear H
    go_wp2
    go_loopg [3] kj1 (fun kq v3 w' => ∃ (x3_2 : Int), v3 = .int .i64 x3_2 ∧ Aside0 (copseref13_component.l0 kq a0 x3_2 = some r) ∧ Aside0 (kq ≤ kj1) ∧ Drawn0 w w')
    case atStart => exact ⟨(0), (by first | rfl | (simp; done) | (simp [*]; done)), H', ⟨Nat.le_refl _⟩, by repeat (first | exact Drawn0.refl _ | apply Drawn0.step)⟩
    case round =>
     clear H'
     try clear c1
     try clear p2
     try clear c3
     try clear c3b0
     try clear c3b1
     try clear c4
     try clear c4b0
     try clear c4b1
     try clear c5
     try clear c5b0
     try clear c5b1
     try clear c6
     try clear c6b0
     try clear c6b1
     try clear c7
     try clear p2
     obtain ⟨x3_2, rfl, HA, HK2, ⟨m2, rfl⟩⟩ := hrel
     cases gk with
     | zero => exact absurd HA.out (by simp [copseref13_component.l0])
     | succ k2 =>
      have H := HA.out
      clear HA
      simp only [copseref13_component.l0] at H
      by_cases c8 : x3_2 < (a0.size : Int)
      ·rw [if_pos c8] at H
       have c8b0 := decide_eq_true c8
       clear c8
       by_cases c9 : 0 ≤ x3_2
       ·rw [if_pos c9] at H
        have c9b0 := decide_eq_true c9
        clear c9
        by_cases c11 : (bt a0 x3_2) ≥ 97
        ·rw [if_pos c11] at H
         have c11b0 := decide_eq_true c11
         clear c11
         by_cases c12 : (bt a0 x3_2) ≤ 122
         ·rw [if_pos c12] at H
          have c12b0 := decide_eq_true c12
          clear c12
          have H' := Aside0.mk H
          clear H
          have p10 : 0 ≤ (x3_2 : Int) := of_decide_eq_true (by first | (with_reducible assumption) | assumption)
          have q10 : x3_2 < (a0.size : Int) := of_decide_eq_true (by first | (with_reducible assumption) | assumption)
          have hx10 := bt_at a0 x3_2
          replace p10 := eq_true p10
          replace q10 := eq_true q10
          go_wp2
          go_roundg k2
          case measure => have := HJ1.out; have := HK2.out; omega
          case rel => exact ⟨(wrap64 (x3_2 + 1)), (by first | rfl | (simp; done) | (simp [*]; done)), H', ⟨by have := HJ1.out; have := HK2.out; omega⟩, by repeat (first | exact Drawn0.refl _ | apply Drawn0.step)⟩
         ·rw [if_neg c12] at H
          have c12b0 := decide_eq_false c12
          clear c12
          by_cases c13 : (bt a0 x3_2) ≥ 65
          ·rw [if_pos c13] at H
           have c13b0 := decide_eq_true c13
           clear c13
           by_cases c14 : (bt a0 x3_2) ≤ 90
           ·rw [if_pos c14] at H
            have c14b0 := decide_eq_true c14
            clear c14
            have H' := Aside0.mk H
            clear H
            have p10 : 0 ≤ (x3_2 : Int) := of_decide_eq_true (by first | (with_reducible assumption) | assumption)
            have q10 : x3_2 < (a0.size : Int) := of_decide_eq_true (by first | (with_reducible assumption) | assumption)
            have hx10 := bt_at a0 x3_2
            replace p10 := eq_true p10
            replace q10 := eq_true q10
            go_wp2
            go_roundg k2
            case measure => have := HJ1.out; have := HK2.out; omega
            case rel => exact ⟨(wrap64 (x3_2 + 1)), (by first | rfl | (simp; done) | (simp [*]; done)), H', ⟨by have := HJ1.out; have := HK2.out; omega⟩, by repeat (first | exact Drawn0.refl _ | apply Drawn0.step)⟩
           ·rw [if_neg c14] at H
            have c14b0 := decide_eq_false c14
            clear c14
            by_cases c15 : (bt a0 x3_2) ≥ 48
            ·rw [if_pos c15] at H
             have c15b0 := decide_eq_true c15
             clear c15
             by_cases c16 : (bt a0 x3_2) ≤ 57
             ·rw [if_pos c16] at H
              have c16b0 := decide_eq_true c16
              clear c16
              have H' := Aside0.mk H
              clear H
              have p10 : 0 ≤ (x3_2 : Int) := of_decide_eq_true (by first | (with_reducible assumption) | assumption)
              have q10 : x3_2 < (a0.size : Int) := of_decide_eq_true (by first | (with_reducible assumption) | assumption)
              have hx10 := bt_at a0 x3_2
              replace p10 := eq_true p10
              replace q10 := eq_true q10
              go_wp2
              go_roundg k2
              case measure => have := HJ1.out; have := HK2.out; omega
              case rel => exact ⟨(wrap64 (x3_2 + 1)), (by first | rfl | (simp; done) | (simp [*]; done)), H', ⟨by have := HJ1.out; have := HK2.out; omega⟩, by repeat (first | exact Drawn0.refl _ | apply Drawn0.step)⟩
             ·rw [if_neg c16] at H
              have c16b0 := decide_eq_false c16
              clear c16
              by_cases c17 : (bt a0 x3_2) = 46
              ·rw [if_pos c17] at H
               have c17b0 : ((bt a0 x3_2) == 46) = true := beq_iff_eq.mpr c17
               have c17b1 : ((bt a0 x3_2) != 46) = false := bne_eq_false_iff_eq.mpr c17
               clear c17
               have H' := Aside0.mk H
               clear H
               have p10 : 0 ≤ (x3_2 : Int) := of_decide_eq_true (by first | (with_reducible assumption) | assumption)
               have q10 : x3_2 < (a0.size : Int) := of_decide_eq_true (by first | (with_reducible assumption) | assumption)
               have hx10 := bt_at a0 x3_2
               replace p10 := eq_true p10
               replace q10 := eq_true q10
               go_wp2
               go_roundg k2
               case measure => have := HJ1.out; have := HK2.out; omega
               case rel => exact ⟨(wrap64 (x3_2 + 1)), (by first | rfl | (simp; done) | (simp [*]; done)), H', ⟨by have := HJ1.out; have := HK2.out; omega⟩, by repeat (first | exact Drawn0.refl _ | apply Drawn0.step)⟩
              ·rw [if_neg c17] at H
               have c17b0 : ((bt a0 x3_2) == 46) = false := beq_eq_false_iff_ne.mpr c17
               have c17b1 : ((bt a0 x3_2) != 46) = true := bne_iff_ne.mpr c17
               by_cases c18 : (bt a0 x3_2) = 95
               ·rw [if_pos c18] at H
                have c18b0 : ((bt a0 x3_2) == 95) = true := beq_iff_eq.mpr c18
                have c18b1 : ((bt a0 x3_2) != 95) = false := bne_eq_false_iff_eq.mpr c18
                clear c18
                have H' := Aside0.mk H
                clear H
                have p10 : 0 ≤ (x3_2 : Int) := of_decide_eq_true (by first | (with_reducible assumption) | assumption)
                have q10 : x3_2 < (a0.size : Int) := of_decide_eq_true (by first | (with_reducible assumption) | assumption)
                have hx10 := bt_at a0 x3_2
                replace p10 := eq_true p10
                replace q10 := eq_true q10
                go_wp2
                go_roundg k2
                case measure => have := HJ1.out; have := HK2.out; omega
                case rel => exact ⟨(wrap64 (x3_2 + 1)), (by first | rfl | (simp; done) | (simp [*]; done)), H', ⟨by have := HJ1.out; have := HK2.out; omega⟩, by repeat (first | exact Drawn0.refl _ | apply Drawn0.step)⟩
               ·rw [if_neg c18] at H
                have c18b0 : ((bt a0 x3_2) == 95) = false := beq_eq_false_iff_ne.mpr c18
                have c18b1 : ((bt a0 x3_2) != 95) = true := bne_iff_ne.mpr c18
                by_cases c19 : ((bt a0 x3_2) = 45)
                ·rw [if_pos c19] at H
                 have c19b0 : ((bt a0 x3_2) == 45) = true := beq_iff_eq.mpr c19
                 have c19b1 : ((bt a0 x3_2) != 45) = false := bne_eq_false_iff_eq.mpr c19
                 clear c19
                 have H' := Aside0.mk H
                 clear H
                 have p10 : 0 ≤ (x3_2 : Int) := of_decide_eq_true (by first | (with_reducible assumption) | assumption)
                 have q10 : x3_2 < (a0.size : Int) := of_decide_eq_true (by first | (with_reducible assumption) | assumption)
                 have hx10 := bt_at a0 x3_2
                 replace p10 := eq_true p10
                 replace q10 := eq_true q10
                 go_wp2
                 go_roundg k2
                 case measure => have := HJ1.out; have := HK2.out; omega
                 case rel => exact ⟨(wrap64 (x3_2 + 1)), (by first | rfl | (simp; done) | (simp [*]; done)), H', ⟨by have := HJ1.out; have := HK2.out; omega⟩, by repeat (first | exact Drawn0.refl _ | apply Drawn0.step)⟩
                ·rw [if_neg c19] at H
                 have c19b0 : ((bt a0 x3_2) == 45) = false := beq_eq_false_iff_ne.mpr c19
                 have c19b1 : ((bt a0 x3_2) != 45) = true := bne_iff_ne.mpr c19
                 obtain rfl := Option.some.inj H
                 have p10 : 0 ≤ (x3_2 : Int) := of_decide_eq_true (by first | (with_reducible assumption) | assumption)
                 have q10 : x3_2 < (a0.size : Int) := of_decide_eq_true (by first | (with_reducible assumption) | assumption)
                 have hx10 := bt_at a0 x3_2
                 replace p10 := eq_true p10
                 replace q10 := eq_true q10
                 go_wp2
                 go_ret
                 exact ⟨by first | rfl | (simp; done) | (simp [*]; done), by repeat (first | exact Drawn0.refl _ | apply Drawn0.step)⟩
            ·rw [if_neg c15] at H
             have c15b0 := decide_eq_false c15
             clear c15
             by_cases c20 : (bt a0 x3_2) = 46
             ·rw [if_pos c20] at H
              have c20b0 : ((bt a0 x3_2) == 46) = true := beq_iff_eq.mpr c20
              have c20b1 : ((bt a0 x3_2) != 46) = false := bne_eq_false_iff_eq.mpr c20
              clear c20
              have H' := Aside0.mk H
              clear H
              have p10 : 0 ≤ (x3_2 : Int) := of_decide_eq_true (by first | (with_reducible assumption) | assumption)
              have q10 : x3_2 < (a0.size : Int) := of_decide_eq_true (by first | (with_reducible assumption) | assumption)
              have hx10 := bt_at a0 x3_2
              replace p10 := eq_true p10
              replace q10 := eq_true q10
              go_wp2
              go_roundg k2
              case measure => have := HJ1.out; have := HK2.out; omega
              case rel => exact ⟨(wrap64 (x3_2 + 1)), (by first | rfl | (simp; done) | (simp [*]; done)), H', ⟨by have := HJ1.out; have := HK2.out; omega⟩, by repeat (first | exact Drawn0.refl _ | apply Drawn0.step)⟩
             ·rw [if_neg c20] at H
              have c20b0 : ((bt a0 x3_2) == 46) = false := beq_eq_false_iff_ne.mpr c20
              have c20b1 : ((bt a0 x3_2) != 46) = true := bne_iff_ne.mpr c20
              by_cases c21 : (bt a0 x3_2) = 95
              ·rw [if_pos c21] at H
               have c21b0 : ((bt a0 x3_2) == 95) = true := beq_iff_eq.mpr c21
               have c21b1 : ((bt a0 x3_2) != 95) = false := bne_eq_false_iff_eq.mpr c21
               clear c21
               have H' := Aside0.mk H
               clear H
               have p10 : 0 ≤ (x3_2 : Int) := of_decide_eq_true (by first | (with_reducible assumption) | assumption)
               have q10 : x3_2 < (a0.size : Int) := of_decide_eq_true (by first | (with_reducible assumption) | assumption)
               have hx10 := bt_at a0 x3_2
               replace p10 := eq_true p10
               replace q10 := eq_true q10
               go_wp2
               go_roundg k2
               case measure => have := HJ1.out; have := HK2.out; omega
               case rel => exact ⟨(wrap64 (x3_2 + 1)), (by first | rfl | (simp; done) | (simp [*]; done)), H', ⟨by have := HJ1.out; have := HK2.out; omega⟩, by repeat (first | exact Drawn0.refl _ | apply Drawn0.step)⟩
              ·rw [if_neg c21] at H
               have c21b0 : ((bt a0 x3_2) == 95) = false := beq_eq_false_iff_ne.mpr c21
               have c21b1 : ((bt a0 x3_2) != 95) = true := bne_iff_ne.mpr c21
               by_cases c22 : ((bt a0 x3_2) = 45)
               ·rw [if_pos c22] at H
                have c22b0 : ((bt a0 x3_2) == 45) = true := beq_iff_eq.mpr c22
                have c22b1 : ((bt a0 x3_2) != 45) = false := bne_eq_false_iff_eq.mpr c22
                clear c22
                have H' := Aside0.mk H
                clear H
                have p10 : 0 ≤ (x3_2 : Int) := of_decide_eq_true (by first | (with_reducible assumption) | assumption)
                have q10 : x3_2 < (a0.size : Int) := of_decide_eq_true (by first | (with_reducible assumption) | assumption)
                have hx10 := bt_at a0 x3_2
                replace p10 := eq_true p10
                replace q10 := eq_true q10
                go_wp2
                go_roundg k2
                case measure => have := HJ1.out; have := HK2.out; omega
                case rel => exact ⟨(wrap64 (x3_2 + 1)), (by first | rfl | (simp; done) | (simp [*]; done)), H', ⟨by have := HJ1.out; have := HK2.out; omega⟩, by repeat (first | exact Drawn0.refl _ | apply Drawn0.step)⟩
               ·rw [if_neg c22] at H
                have c22b0 : ((bt a0 x3_2) == 45) = false := beq_eq_false_iff_ne.mpr c22
                have c22b1 : ((bt a0 x3_2) != 45) = true := bne_iff_ne.mpr c22
                obtain rfl := Option.some.inj H
                have p10 : 0 ≤ (x3_2 : Int) := of_decide_eq_true (by first | (with_reducible assumption) | assumption)
                have q10 : x3_2 < (a0.size : Int) := of_decide_eq_true (by first | (with_reducible assumption) | assumption)
                have hx10 := bt_at a0 x3_2
                replace p10 := eq_true p10
                replace q10 := eq_true q10
                go_wp2
                go_ret
                exact ⟨by first | rfl | (simp; done) | (simp [*]; done), by repeat (first | exact Drawn0.refl _ | apply Drawn0.step)⟩
          ·rw [if_neg c13] at H
           have c13b0 := decide_eq_false c13
           clear c13
           by_cases c23 : (bt a0 x3_2) ≥ 48
           ·rw [if_pos c23] at H
            have c23b0 := decide_eq_true c23
            clear c23
            by_cases c24 : (bt a0 x3_2) ≤ 57
            ·rw [if_pos c24] at H
             have c24b0 := decide_eq_true c24
             clear c24
             have H' := Aside0.mk H
             clear H
             have p10 : 0 ≤ (x3_2 : Int) := of_decide_eq_true (by first | (with_reducible assumption) | assumption)
             have q10 : x3_2 < (a0.size : Int) := of_decide_eq_true (by first | (with_reducible assumption) | assumption)
             have hx10 := bt_at a0 x3_2
             replace p10 := eq_true p10
             replace q10 := eq_true q10
             go_wp2
             go_roundg k2
             case measure => have := HJ1.out; have := HK2.out; omega
             case rel => exact ⟨(wrap64 (x3_2 + 1)), (by first | rfl | (simp; done) | (simp [*]; done)), H', ⟨by have := HJ1.out; have := HK2.out; omega⟩, by repeat (first | exact Drawn0.refl _ | apply Drawn0.step)⟩
            ·rw [if_neg c24] at H
             have c24b0 := decide_eq_false c24
             clear c24
             by_cases c25 : (bt a0 x3_2) = 46
             ·rw [if_pos c25] at H
              have c25b0 : ((bt a0 x3_2) == 46) = true := beq_iff_eq.mpr c25
              have c25b1 : ((bt a0 x3_2) != 46) = false := bne_eq_false_iff_eq.mpr c25
              clear c25
              have H' := Aside0.mk H
              clear H
              have p10 : 0 ≤ (x3_2 : Int) := of_decide_eq_true (by first | (with_reducible assumption) | assumption)
              have q10 : x3_2 < (a0.size : Int) := of_decide_eq_true (by first | (with_reducible assumption) | assumption)
              have hx10 := bt_at a0 x3_2
              replace p10 := eq_true p10
              replace q10 := eq_true q10
              go_wp2
              go_roundg k2
              case measure => have := HJ1.out; have := HK2.out; omega
              case rel => exact ⟨(wrap64 (x3_2 + 1)), (by first | rfl | (simp; done) | (simp [*]; done)), H', ⟨by have := HJ1.out; have := HK2.out; omega⟩, by repeat (first | exact Drawn0.refl _ | apply Drawn0.step)⟩
             ·rw [if_neg c25] at H
              have c25b0 : ((bt a0 x3_2) == 46) = false := beq_eq_false_iff_ne.mpr c25
              have c25b1 : ((bt a0 x3_2) != 46) = true := bne_iff_ne.mpr c25
              by_cases c26 : (bt a0 x3_2) = 95
              ·rw [if_pos c26] at H
               have c26b0 : ((bt a0 x3_2) == 95) = true := beq_iff_eq.mpr c26
               have c26b1 : ((bt a0 x3_2) != 95) = false := bne_eq_false_iff_eq.mpr c26
               clear c26
               have H' := Aside0.mk H
               clear H
               have p10 : 0 ≤ (x3_2 : Int) := of_decide_eq_true (by first | (with_reducible assumption) | assumption)
               have q10 : x3_2 < (a0.size : Int) := of_decide_eq_true (by first | (with_reducible assumption) | assumption)
               have hx10 := bt_at a0 x3_2
               replace p10 := eq_true p10
               replace q10 := eq_true q10
               go_wp2
               go_roundg k2
               case measure => have := HJ1.out; have := HK2.out; omega
               case rel => exact ⟨(wrap64 (x3_2 + 1)), (by first | rfl | (simp; done) | (simp [*]; done)), H', ⟨by have := HJ1.out; have := HK2.out; omega⟩, by repeat (first | exact Drawn0.refl _ | apply Drawn0.step)⟩
              ·rw [if_neg c26] at H
               have c26b0 : ((bt a0 x3_2) == 95) = false := beq_eq_false_iff_ne.mpr c26
               have c26b1 : ((bt a0 x3_2) != 95) = true := bne_iff_ne.mpr c26
               by_cases c27 : ((bt a0 x3_2) = 45)
               ·rw [if_pos c27] at H
                have c27b0 : ((bt a0 x3_2) == 45) = true := beq_iff_eq.mpr c27
                have c27b1 : ((bt a0 x3_2) != 45) = false := bne_eq_false_iff_eq.mpr c27
                clear c27
                have H' := Aside0.mk H
                clear H
                have p10 : 0 ≤ (x3_2 : Int) := of_decide_eq_true (by first | (with_reducible assumption) | assumption)
                have q10 : x3_2 < (a0.size : Int) := of_decide_eq_true (by first | (with_reducible assumption) | assumption)
                have hx10 := bt_at a0 x3_2
                replace p10 := eq_true p10
                replace q10 := eq_true q10
                go_wp2
                go_roundg k2
                case measure => have := HJ1.out; have := HK2.out; omega
                case rel => exact ⟨(wrap64 (x3_2 + 1)), (by first | rfl | (simp; done) | (simp [*]; done)), H', ⟨by have := HJ1.out; have := HK2.out; omega⟩, by repeat (first | exact Drawn0.refl _ | apply Drawn0.step)⟩
               ·rw [if_neg c27] at H
                have c27b0 : ((bt a0 x3_2) == 45) = false := beq_eq_false_iff_ne.mpr c27
                have c27b1 : ((bt a0 x3_2) != 45) = true := bne_iff_ne.mpr c27
                obtain rfl := Option.some.inj H
                have p10 : 0 ≤ (x3_2 : Int) := of_decide_eq_true (by first | (with_reducible assumption) | assumption)
                have q10 : x3_2 < (a0.size : Int) := of_decide_eq_true (by first | (with_reducible assumption) | assumption)
                have hx10 := bt_at a0 x3_2
                replace p10 := eq_true p10
                replace q10 := eq_true q10
                go_wp2
                go_ret
                exact ⟨by first | rfl | (simp; done) | (simp [*]; done), by repeat (first | exact Drawn0.refl _ | apply Drawn0.step)⟩
           ·rw [if_neg c23] at H
            have c23b0 := decide_eq_false c23
            clear c23
            by_cases c28 : (bt a0 x3_2) = 46
            ·rw [if_pos c28] at H
             have c28b0 : ((bt a0 x3_2) == 46) = true := beq_iff_eq.mpr c28
             have c28b1 : ((bt a0 x3_2) != 46) = false := bne_eq_false_iff_eq.mpr c28
             clear c28
             have H' := Aside0.mk H
             clear H
             have p10 : 0 ≤ (x3_2 : Int) := of_decide_eq_true (by first | (with_reducible assumption) | assumption)
             have q10 : x3_2 < (a0.size : Int) := of_decide_eq_true (by first | (with_reducible assumption) | assumption)
             have hx10 := bt_at a0 x3_2
             replace p10 := eq_true p10
             replace q10 := eq_true q10
             go_wp2
             go_roundg k2
             case measure => have := HJ1.out; have := HK2.out; omega
             case rel => exact ⟨(wrap64 (x3_2 + 1)), (by first | rfl | (simp; done) | (simp [*]; done)), H', ⟨by have := HJ1.out; have := HK2.out; omega⟩, by repeat (first | exact Drawn0.refl _ | apply Drawn0.step)⟩
            ·rw [if_neg c28] at H
             have c28b0 : ((bt a0 x3_2) == 46) = false := beq_eq_false_iff_ne.mpr c28
             have c28b1 : ((bt a0 x3_2) != 46) = true := bne_iff_ne.mpr c28
             by_cases c29 : (bt a0 x3_2) = 95
             ·rw [if_pos c29] at H
              have c29b0 : ((bt a0 x3_2) == 95) = true := beq_iff_eq.mpr c29
              have c29b1 : ((bt a0 x3_2) != 95) = false := bne_eq_false_iff_eq.mpr c29
              clear c29
              have H' := Aside0.mk H
              clear H
              have p10 : 0 ≤ (x3_2 : Int) := of_decide_eq_true (by first | (with_reducible assumption) | assumption)
              have q10 : x3_2 < (a0.size : Int) := of_decide_eq_true (by first | (with_reducible assumption) | assumption)
              have hx10 := bt_at a0 x3_2
              replace p10 := eq_true p10
              replace q10 := eq_true q10
              go_wp2
              go_roundg k2
              case measure => have := HJ1.out; have := HK2.out; omega
              case rel => exact ⟨(wrap64 (x3_2 + 1)), (by first | rfl | (simp; done) | (simp [*]; done)), H', ⟨by have := HJ1.out; have := HK2.out; omega⟩, by repeat (first | exact Drawn0.refl _ | apply Drawn0.step)⟩
             ·rw [if_neg c29] at H
              have c29b0 : ((bt a0 x3_2) == 95) = false := beq_eq_false_iff_ne.mpr c29
              have c29b1 : ((bt a0 x3_2) != 95) = true := bne_iff_ne.mpr c29
              by_cases c30 : ((bt a0 x3_2) = 45)
              ·rw [if_pos c30] at H
               have c30b0 : ((bt a0 x3_2) == 45) = true := beq_iff_eq.mpr c30
               have c30b1 : ((bt a0 x3_2) != 45) = false := bne_eq_false_iff_eq.mpr c30
               clear c30
               have H' := Aside0.mk H
               clear H
               have p10 : 0 ≤ (x3_2 : Int) := of_decide_eq_true (by first | (with_reducible assumption) | assumption)
               have q10 : x3_2 < (a0.size : Int) := of_decide_eq_true (by first | (with_reducible assumption) | assumption)
               have hx10 := bt_at a0 x3_2
               replace p10 := eq_true p10
               replace q10 := eq_true q10
               go_wp2
               go_roundg k2
               case measure => have := HJ1.out; have := HK2.out; omega
               case rel => exact ⟨(wrap64 (x3_2 + 1)), (by first | rfl | (simp; done) | (simp [*]; done)), H', ⟨by have := HJ1.out; have := HK2.out; omega⟩, by repeat (first | exact Drawn0.refl _ | apply Drawn0.step)⟩
              ·rw [if_neg c30] at H
               have c30b0 : ((bt a0 x3_2) == 45) = false := beq_eq_false_iff_ne.mpr c30
               have c30b1 : ((bt a0 x3_2) != 45) = true := bne_iff_ne.mpr c30
               obtain rfl := Option.some.inj H
               have p10 : 0 ≤ (x3_2 : Int) := of_decide_eq_true (by first | (with_reducible assumption) | assumption)
               have q10 : x3_2 < (a0.size : Int) := of_decide_eq_true (by first | (with_reducible assumption) | assumption)
               have hx10 := bt_at a0 x3_2
               replace p10 := eq_true p10
               replace q10 := eq_true q10
               go_wp2
               go_ret
               exact ⟨by first | rfl | (simp; done) | (simp [*]; done), by repeat (first | exact Drawn0.refl _ | apply Drawn0.step)⟩
        ·rw [if_neg c11] at H
         have c11b0 := decide_eq_false c11
         clear c11
         by_cases c31 : (bt a0 x3_2) ≥ 65
         ·rw [if_pos c31] at H
          have c31b0 := decide_eq_true c31
          clear c31
          by_cases c32 : (bt a0 x3_2) ≤ 90
          ·rw [if_pos c32] at H
           have c32b0 := decide_eq_true c32
           clear c32
           have H' := Aside0.mk H
           clear H
           have p10 : 0 ≤ (x3_2 : Int) := of_decide_eq_true (by first | (with_reducible assumption) | assumption)
           have q10 : x3_2 < (a0.size : Int) := of_decide_eq_true (by first | (with_reducible assumption) | assumption)
           have hx10 := bt_at a0 x3_2
           replace p10 := eq_true p10
           replace q10 := eq_true q10
           go_wp2
           go_roundg k2
           case measure => have := HJ1.out; have := HK2.out; omega
           case rel => exact ⟨(wrap64 (x3_2 + 1)), (by first | rfl | (simp; done) | (simp [*]; done)), H', ⟨by have := HJ1.out; have := HK2.out; omega⟩, by repeat (first | exact Drawn0.refl _ | apply Drawn0.step)⟩
          ·rw [if_neg c32] at H
           have c32b0 := decide_eq_false c32
           clear c32
           by_cases c33 : (bt a0 x3_2) ≥ 48
           ·rw [if_pos c33] at H
            have c33b0 := decide_eq_true c33
            clear c33
            by_cases c34 : (bt a0 x3_2) ≤ 57
            ·rw [if_pos c34] at H
             have c34b0 := decide_eq_true c34
             clear c34
             have H' := Aside0.mk H
             clear H
             have p10 : 0 ≤ (x3_2 : Int) := of_decide_eq_true (by first | (with_reducible assumption) | assumption)
             have q10 : x3_2 < (a0.size : Int) := of_decide_eq_true (by first | (with_reducible assumption) | assumption)
             have hx10 := bt_at a0 x3_2
             replace p10 := eq_true p10
             replace q10 := eq_true q10
             go_wp2
             go_roundg k2
             case measure => have := HJ1.out; have := HK2.out; omega
             case rel => exact ⟨(wrap64 (x3_2 + 1)), (by first | rfl | (simp; done) | (simp [*]; done)), H', ⟨by have := HJ1.out; have := HK2.out; omega⟩, by repeat (first | exact Drawn0.refl _ | apply Drawn0.step)⟩
            ·rw [if_neg c34] at H
             have c34b0 := decide_eq_false c34
             clear c34
             by_cases c35 : (bt a0 x3_2) = 46
             ·rw [if_pos c35] at H
              have c35b0 : ((bt a0 x3_2) == 46) = true := beq_iff_eq.mpr c35
              have c35b1 : ((bt a0 x3_2) != 46) = false := bne_eq_false_iff_eq.mpr c35
              clear c35
              have H' := Aside0.mk H
              clear H
              have p10 : 0 ≤ (x3_2 : Int) := of_decide_eq_true (by first | (with_reducible assumption) | assumption)
              have q10 : x3_2 < (a0.size : Int) := of_decide_eq_true (by first | (with_reducible assumption) | assumption)
              have hx10 := bt_at a0 x3_2
              replace p10 := eq_true p10
              replace q10 := eq_true q10
              go_wp2
              go_roundg k2
              case measure => have := HJ1.out; have := HK2.out; omega
              case rel => exact ⟨(wrap64 (x3_2 + 1)), (by first | rfl | (simp; done) | (simp [*]; done)), H', ⟨by have := HJ1.out; have := HK2.out; omega⟩, by repeat (first | exact Drawn0.refl _ | apply Drawn0.step)⟩
             ·rw [if_neg c35] at H
              have c35b0 : ((bt a0 x3_2) == 46) = false := beq_eq_false_iff_ne.mpr c35
              have c35b1 : ((bt a0 x3_2) != 46) = true := bne_iff_ne.mpr c35
              by_cases c36 : (bt a0 x3_2) = 95
              ·rw [if_pos c36] at H
               have c36b0 : ((bt a0 x3_2) == 95) = true := beq_iff_eq.mpr c36
               have c36b1 : ((bt a0 x3_2) != 95) = false := bne_eq_false_iff_eq.mpr c36
               clear c36
               have H' := Aside0.mk H
               clear H
               have p10 : 0 ≤ (x3_2 : Int) := of_decide_eq_true (by first | (with_reducible assumption) | assumption)
               have q10 : x3_2 < (a0.size : Int) := of_decide_eq_true (by first | (with_reducible assumption) | assumption)
               have hx10 := bt_at a0 x3_2
               replace p10 := eq_true p10
               replace q10 := eq_true q10
               go_wp2
               go_roundg k2
               case measure => have := HJ1.out; have := HK2.out; omega
               case rel => exact ⟨(wrap64 (x3_2 + 1)), (by first | rfl | (simp; done) | (simp [*]; done)), H', ⟨by have := HJ1.out; have := HK2.out; omega⟩, by repeat (first | exact Drawn0.refl _ | apply Drawn0.step)⟩
              ·rw [if_neg c36] at H
               have c36b0 : ((bt a0 x3_2) == 95) = false := beq_eq_false_iff_ne.mpr c36
               have c36b1 : ((bt a0 x3_2) != 95) = true := bne_iff_ne.mpr c36
               by_cases c37 : ((bt a0 x3_2) = 45)
               ·rw [if_pos c37] at H
                have c37b0 : ((bt a0 x3_2) == 45) = true := beq_iff_eq.mpr c37
                have c37b1 : ((bt a0 x3_2) != 45) = false := bne_eq_false_iff_eq.mpr c37
                clear c37
                have H' := Aside0.mk H
                clear H
                have p10 : 0 ≤ (x3_2 : Int) := of_decide_eq_true (by first | (with_reducible assumption) | assumption)
                have q10 : x3_2 < (a0.size : Int) := of_decide_eq_true (by first | (with_reducible assumption) | assumption)
                have hx10 := bt_at a0 x3_2
                replace p10 := eq_true p10
                replace q10 := eq_true q10
                go_wp2
                go_roundg k2
                case measure => have := HJ1.out; have := HK2.out; omega
                case rel => exact ⟨(wrap64 (x3_2 + 1)), (by first | rfl | (simp; done) | (simp [*]; done)), H', ⟨by have := HJ1.out; have := HK2.out; omega⟩, by repeat (first | exact Drawn0.refl _ | apply Drawn0.step)⟩
               ·rw [if_neg c37] at H
                have c37b0 : ((bt a0 x3_2) == 45) = false := beq_eq_false_iff_ne.mpr c37
                have c37b1 : ((bt a0 x3_2) != 45) = true := bne_iff_ne.mpr c37
                obtain rfl := Option.some.inj H
                have p10 : 0 ≤ (x3_2 : Int) := of_decide_eq_true (by first | (with_reducible assumption) | assumption)
                have q10 : x3_2 < (a0.size : Int) := of_decide_eq_true (by first | (with_reducible assumption) | assumption)
                have hx10 := bt_at a0 x3_2
                replace p10 := eq_true p10
                replace q10 := eq_true q10
                go_wp2
                go_ret
                exact ⟨by first | rfl | (simp; done) | (simp [*]; done), by repeat (first | exact Drawn0.refl _ | apply Drawn0.step)⟩
           ·rw [if_neg c33] at H
            have c33b0 := decide_eq_false c33
            clear c33
            by_cases c38 : (bt a0 x3_2) = 46
            ·rw [if_pos c38] at H
             have c38b0 : ((bt a0 x3_2) == 46) = true := beq_iff_eq.mpr c38
             have c38b1 : ((bt a0 x3_2) != 46) = false := bne_eq_false_iff_eq.mpr c38
             clear c38
             have H' := Aside0.mk H
             clear H
             have p10 : 0 ≤ (x3_2 : Int) := of_decide_eq_true (by first | (with_reducible assumption) | assumption)
             have q10 : x3_2 < (a0.size : Int) := of_decide_eq_true (by first | (with_reducible assumption) | assumption)
             have hx10 := bt_at a0 x3_2
             replace p10 := eq_true p10
             replace q10 := eq_true q10
             go_wp2
             go_roundg k2
             case measure => have := HJ1.out; have := HK2.out; omega
             case rel => exact ⟨(wrap64 (x3_2 + 1)), (by first | rfl | (simp; done) | (simp [*]; done)), H', ⟨by have := HJ1.out; have := HK2.out; omega⟩, by repeat (first | exact Drawn0.refl _ | apply Drawn0.step)⟩
            ·rw [if_neg c38] at H
             have c38b0 : ((bt a0 x3_2) == 46) = false := beq_eq_false_iff_ne.mpr c38
             have c38b1 : ((bt a0 x3_2) != 46) = true := bne_iff_ne.mpr c38
             by_cases c39 : (bt a0 x3_2) = 95
             ·rw [if_pos c39] at H
              have c39b0 : ((bt a0 x3_2) == 95) = true := beq_iff_eq.mpr c39
              have c39b1 : ((bt a0 x3_2) != 95) = false := bne_eq_false_iff_eq.mpr c39
              clear c39
              have H' := Aside0.mk H
              clear H
              have p10 : 0 ≤ (x3_2 : Int) := of_decide_eq_true (by first | (with_reducible assumption) | assumption)
              have q10 : x3_2 < (a0.size : Int) := of_decide_eq_true (by first | (with_reducible assumption) | assumption)
              have hx10 := bt_at a0 x3_2
              replace p10 := eq_true p10
              replace q10 := eq_true q10
              go_wp2
              go_roundg k2
              case measure => have := HJ1.out; have := HK2.out; omega
              case rel => exact ⟨(wrap64 (x3_2 + 1)), (by first | rfl | (simp; done) | (simp [*]; done)), H', ⟨by have := HJ1.out; have := HK2.out; omega⟩, by repeat (first | exact Drawn0.refl _ | apply Drawn0.step)⟩
             ·rw [if_neg c39] at H
              have c39b0 : ((bt a0 x3_2) == 95) = false := beq_eq_false_iff_ne.mpr c39
              have c39b1 : ((bt a0 x3_2) != 95) = true := bne_iff_ne.mpr c39
              by_cases c40 : ((bt a0 x3_2) = 45)
              ·rw [if_pos c40] at H
               have c40b0 : ((bt a0 x3_2) == 45) = true := beq_iff_eq.mpr c40
               have c40b1 : ((bt a0 x3_2) != 45) = false := bne_eq_false_iff_eq.mpr c40
               clear c40
               have H' := Aside0.mk H
               clear H
               have p10 : 0 ≤ (x3_2 : Int) := of_decide_eq_true (by first | (with_reducible assumption) | assumption)
               have q10 : x3_2 < (a0.size : Int) := of_decide_eq_true (by first | (with_reducible assumption) | assumption)
               have hx10 := bt_at a0 x3_2
               replace p10 := eq_true p10
               replace q10 := eq_true q10
               go_wp2
               go_roundg k2
               case measure => have := HJ1.out; have := HK2.out; omega
               case rel => exact ⟨(wrap64 (x3_2 + 1)), (by first | rfl | (simp; done) | (simp [*]; done)), H', ⟨by have := HJ1.out; have := HK2.out; omega⟩, by repeat (first | exact Drawn0.refl _ | apply Drawn0.step)⟩
              ·rw [if_neg c40] at H
               have c40b0 : ((bt a0 x3_2) == 45) = false := beq_eq_false_iff_ne.mpr c40
               have c40b1 : ((bt a0 x3_2) != 45) = true := bne_iff_ne.mpr c40
               obtain rfl := Option.some.inj H
               have p10 : 0 ≤ (x3_2 : Int) := of_decide_eq_true (by first | (with_reducible assumption) | assumption)
               have q10 : x3_2 < (a0.size : Int) := of_decide_eq_true (by first | (with_reducible assumption) | assumption)
               have hx10 := bt_at a0 x3_2
               replace p10 := eq_true p10
               replace q10 := eq_true q10
               go_wp2
               go_ret
               exact ⟨by first | rfl | (simp; done) | (simp [*]; done), by repeat (first | exact Drawn0.refl _ | apply Drawn0.step)⟩
         ·rw [if_neg c31] at H
          have c31b0 := decide_eq_false c31
          clear c31
          by_cases c41 : (bt a0 x3_2) ≥ 48
          ·rw [if_pos c41] at H
           have c41b0 := decide_eq_true c41
           clear c41
           by_cases c42 : (bt a0 x3_2) ≤ 57
           ·rw [if_pos c42] at H
            have c42b0 := decide_eq_true c42
            clear c42
            have H' := Aside0.mk H
            clear H
            have p10 : 0 ≤ (x3_2 : Int) := of_decide_eq_true (by first | (with_reducible assumption) | assumption)
            have q10 : x3_2 < (a0.size : Int) := of_decide_eq_true (by first | (with_reducible assumption) | assumption)
            have hx10 := bt_at a0 x3_2
            replace p10 := eq_true p10
            replace q10 := eq_true q10
            go_wp2
            go_roundg k2
            case measure => have := HJ1.out; have := HK2.out; omega
            case rel => exact ⟨(wrap64 (x3_2 + 1)), (by first | rfl | (simp; done) | (simp [*]; done)), H', ⟨by have := HJ1.out; have := HK2.out; omega⟩, by repeat (first | exact Drawn0.refl _ | apply Drawn0.step)⟩
           ·rw [if_neg c42] at H
            have c42b0 := decide_eq_false c42
            clear c42
            by_cases c43 : (bt a0 x3_2) = 46
            ·rw [if_pos c43] at H
             have c43b0 : ((bt a0 x3_2) == 46) = true := beq_iff_eq.mpr c43
             have c43b1 : ((bt a0 x3_2) != 46) = false := bne_eq_false_iff_eq.mpr c43
             clear c43
             have H' := Aside0.mk H
             clear H
             have p10 : 0 ≤ (x3_2 : Int) := of_decide_eq_true (by first | (with_reducible assumption) | assumption)
             have q10 : x3_2 < (a0.size : Int) := of_decide_eq_true (by first | (with_reducible assumption) | assumption)
             have hx10 := bt_at a0 x3_2
             replace p10 := eq_true p10
             replace q10 := eq_true q10
             go_wp2
             go_roundg k2
             case measure => have := HJ1.out; have := HK2.out; omega
             case rel => exact ⟨(wrap64 (x3_2 + 1)), (by first | rfl | (simp; done) | (simp [*]; done)), H', ⟨by have := HJ1.out; have := HK2.out; omega⟩, by repeat (first | exact Drawn0.refl _ | apply Drawn0.step)⟩
            ·rw [if_neg c43] at H
             have c43b0 : ((bt a0 x3_2) == 46) = false := beq_eq_false_iff_ne.mpr c43
             have c43b1 : ((bt a0 x3_2) != 46) = true := bne_iff_ne.mpr c43
             by_cases c44 : (bt a0 x3_2) = 95
             ·rw [if_pos c44] at H
              have c44b0 : ((bt a0 x3_2) == 95) = true := beq_iff_eq.mpr c44
              have c44b1 : ((bt a0 x3_2) != 95) = false := bne_eq_false_iff_eq.mpr c44
              clear c44
              have H' := Aside0.mk H
              clear H
              have p10 : 0 ≤ (x3_2 : Int) := of_decide_eq_true (by first | (with_reducible assumption) | assumption)
              have q10 : x3_2 < (a0.size : Int) := of_decide_eq_true (by first | (with_reducible assumption) | assumption)
              have hx10 := bt_at a0 x3_2
              replace p10 := eq_true p10
              replace q10 := eq_true q10
              go_wp2
              go_roundg k2
              case measure => have := HJ1.out; have := HK2.out; omega
              case rel => exact ⟨(wrap64 (x3_2 + 1)), (by first | rfl | (simp; done) | (simp [*]; done)), H', ⟨by have := HJ1.out; have := HK2.out; omega⟩, by repeat (first | exact Drawn0.refl _ | apply Drawn0.step)⟩
             ·rw [if_neg c44] at H
              have c44b0 : ((bt a0 x3_2) == 95) = false := beq_eq_false_iff_ne.mpr c44
              have c44b1 : ((bt a0 x3_2) != 95) = true := bne_iff_ne.mpr c44
              by_cases c45 : ((bt a0 x3_2) = 45)
              ·rw [if_pos c45] at H
               have c45b0 : ((bt a0 x3_2) == 45) = true := beq_iff_eq.mpr c45
               have c45b1 : ((bt a0 x3_2) != 45) = false := bne_eq_false_iff_eq.mpr c45
               clear c45
               have H' := Aside0.mk H
               clear H
               have p10 : 0 ≤ (x3_2 : Int) := of_decide_eq_true (by first | (with_reducible assumption) | assumption)
               have q10 : x3_2 < (a0.size : Int) := of_decide_eq_true (by first | (with_reducible assumption) | assumption)
               have hx10 := bt_at a0 x3_2
               replace p10 := eq_true p10
               replace q10 := eq_true q10
               go_wp2
               go_roundg k2
               case measure => have := HJ1.out; have := HK2.out; omega
               case rel => exact ⟨(wrap64 (x3_2 + 1)), (by first | rfl | (simp; done) | (simp [*]; done)), H', ⟨by have := HJ1.out; have := HK2.out; omega⟩, by repeat (first | exact Drawn0.refl _ | apply Drawn0.step)⟩
              ·rw [if_neg c45] at H
               have c45b0 : ((bt a0 x3_2) == 45) = false := beq_eq_false_iff_ne.mpr c45
               have c45b1 : ((bt a0 x3_2) != 45) = true := bne_iff_ne.mpr c45
               obtain rfl := Option.some.inj H
               have p10 : 0 ≤ (x3_2 : Int) := of_decide_eq_true (by first | (with_reducible assumption) | assumption)
               have q10 : x3_2 < (a0.size : Int) := of_decide_eq_true (by first | (with_reducible assumption) | assumption)
               have hx10 := bt_at a0 x3_2
               replace p10 := eq_true p10
               replace q10 := eq_true q10
               go_wp2
               go_ret
               exact ⟨by first | rfl | (simp; done) | (simp [*]; done), by repeat (first | exact Drawn0.refl _ | apply Drawn0.step)⟩
          ·rw [if_neg c41] at H
           have c41b0 := decide_eq_false c41
           clear c41
           by_cases c46 : (bt a0 x3_2) = 46
           ·rw [if_pos c46] at H
            have c46b0 : ((bt a0 x3_2) == 46) = true := beq_iff_eq.mpr c46
            have c46b1 : ((bt a0 x3_2) != 46) = false := bne_eq_false_iff_eq.mpr c46
            clear c46
            have H' := Aside0.mk H
            clear H
            have p10 : 0 ≤ (x3_2 : Int) := of_decide_eq_true (by first | (with_reducible assumption) | assumption)
            have q10 : x3_2 < (a0.size : Int) := of_decide_eq_true (by first | (with_reducible assumption) | assumption)
            have hx10 := bt_at a0 x3_2
            replace p10 := eq_true p10
            replace q10 := eq_true q10
            go_wp2
            go_roundg k2
            case measure => have := HJ1.out; have := HK2.out; omega
            case rel => exact ⟨(wrap64 (x3_2 + 1)), (by first | rfl | (simp; done) | (simp [*]; done)), H', ⟨by have := HJ1.out; have := HK2.out; omega⟩, by repeat (first | exact Drawn0.refl _ | apply Drawn0.step)⟩
           ·rw [if_neg c46] at H
            have c46b0 : ((bt a0 x3_2) == 46) = false := beq_eq_false_iff_ne.mpr c46
            have c46b1 : ((bt a0 x3_2) != 46) = true := bne_iff_ne.mpr c46
            by_cases c47 : (bt a0 x3_2) = 95
            ·rw [if_pos c47] at H
             have c47b0 : ((bt a0 x3_2) == 95) = true := beq_iff_eq.mpr c47
             have c47b1 : ((bt a0 x3_2) != 95) = false := bne_eq_false_iff_eq.mpr c47
             clear c47
             have H' := Aside0.mk H
             clear H
             have p10 : 0 ≤ (x3_2 : Int) := of_decide_eq_true (by first | (with_reducible assumption) | assumption)
             have q10 : x3_2 < (a0.size : Int) := of_decide_eq_true (by first | (with_reducible assumption) | assumption)
             have hx10 := bt_at a0 x3_2
             replace p10 := eq_true p10
             replace q10 := eq_true q10
             go_wp2
             go_roundg k2
             case measure => have := HJ1.out; have := HK2.out; omega
             case rel => exact ⟨(wrap64 (x3_2 + 1)), (by first | rfl | (simp; done) | (simp [*]; done)), H', ⟨by have := HJ1.out; have := HK2.out; omega⟩, by repeat (first | exact Drawn0.refl _ | apply Drawn0.step)⟩
            ·rw [if_neg c47] at H
             have c47b0 : ((bt a0 x3_2) == 95) = false := beq_eq_false_iff_ne.mpr c47
             have c47b1 : ((bt a0 x3_2) != 95) = true := bne_iff_ne.mpr c47
             by_cases c48 : ((bt a0 x3_2) = 45)
             ·rw [if_pos c48] at H
              have c48b0 : ((bt a0 x3_2) == 45) = true := beq_iff_eq.mpr c48
              have c48b1 : ((bt a0 x3_2) != 45) = false := bne_eq_false_iff_eq.mpr c48
              clear c48
              have H' := Aside0.mk H
              clear H
              have p10 : 0 ≤ (x3_2 : Int) := of_decide_eq_true (by first | (with_reducible assumption) | assumption)
              have q10 : x3_2 < (a0.size : Int) := of_decide_eq_true (by first | (with_reducible assumption) | assumption)
              have hx10 := bt_at a0 x3_2
              replace p10 := eq_true p10
              replace q10 := eq_true q10
              go_wp2
              go_roundg k2
              case measure => have := HJ1.out; have := HK2.out; omega
              case rel => exact ⟨(wrap64 (x3_2 + 1)), (by first | rfl | (simp; done) | (simp [*]; done)), H', ⟨by have := HJ1.out; have := HK2.out; omega⟩, by repeat (first | exact Drawn0.refl _ | apply Drawn0.step)⟩
             ·rw [if_neg c48] at H
              have c48b0 : ((bt a0 x3_2) == 45) = false := beq_eq_false_iff_ne.mpr c48
              have c48b1 : ((bt a0 x3_2) != 45) = true := bne_iff_ne.mpr c48
              obtain rfl := Option.some.inj H
              have p10 : 0 ≤ (x3_2 : Int) := of_decide_eq_true (by first | (with_reducible assumption) | assumption)
              have q10 : x3_2 < (a0.size : Int) := of_decide_eq_true (by first | (with_reducible assumption) | assumption)
              have hx10 := bt_at a0 x3_2
              replace p10 := eq_true p10
              replace q10 := eq_true q10
              go_wp2
              go_ret
              exact ⟨by first | rfl | (simp; done) | (simp [*]; done), by repeat (first | exact Drawn0.refl _ | apply Drawn0.step)⟩
       ·rw [if_neg c9] at H
        exact absurd H (by simp)
      ·rw [if_neg c8] at H
       have c8b0 := decide_eq_false c8
       clear c8
       obtain rfl := Option.some.inj H
       go_wp2
       go_ret
       exact ⟨by first | rfl | (simp; done) | (simp [*]; done), by repeat (first | exact Drawn0.refl _ | apply Drawn0.step)⟩
end Go.Proofs.YtdfkaclflmgkeaaGreatDoor.PAll
namespace Go.Proofs.YtdfkaclflmgkeaaGreatDoor.PAll
open Go.RowKit Go.Proofs.YtdfkaclflmgkeaaGreatDoorW.PrintWords Go.Proofs.YtdfkaclflmgkeaaGreatDoorW.PrintLast Go.Proofs.YtdfkaclflmgkeaaGreatDoorW.PrintMore
attribute [local go_sem] max2_int min2_int max_two min_two max_three min_three max_four min_four
set_option linter.unusedVariables false
set_option linter.unusedSimpArgs false
mutual
def copseref13_IsPath.j0 : Nat → List ByteArray → Bool → Option (Bool)
 | 0, _, _ => none
 | k + 1, x3, x14 => if x14 = true then (some false) else (copseref13_IsPath.l0 k x3 0)
def copseref13_IsPath.l0 : Nat → List ByteArray → Int → Option (Bool)
 | 0, _, _ => none
 | k + 1, x3, x4 => if x4 < (x3.length : Int) then (if 0 ≤ x4 then ((copseref13_component.f k (rdOf ByteArray.empty x3 x4)).bind fun t309 => (if t309 = true then (copseref13_IsPath.l0 k x3 (wrap64 (x4 + 1))) else (some false))) else (none)) else (some true)
end
def copseref13_IsPath.f (k : Nat) (a0 : ByteArray) : Option (Bool) := (copseref13_pieces.f k a0).bind fun t305 => (if (t305.length : Int) > 12 then (copseref13_IsPath.j0 k t305 true) else (copseref13_IsPath.j0 k t305 (decide ((a0.size : Int) > 120))))
set_option maxHeartbeats 8000000 in
set_option maxRecDepth 100000 in
theorem copseref13_IsPath.calls (k : Nat) (a0 : ByteArray) (r : Bool) (w : World) (h : copseref13_IsPath.f k a0 = some r) :
  Calls Tryz.prog 40 #[.string a0] w fun e w' => e = .returned (.bool r) ∧ Below w.heap.size w w' := by
 have HB := Aside0.mk (Below.refl w.heap.size w)
 have H : ((copseref13_pieces.f k a0).bind fun t305 => (if (t305.length : Int) > 12 then (copseref13_IsPath.j0 k t305 true) else (copseref13_IsPath.j0 k t305 (decide ((a0.size : Int) > 120))))) = some r := h
 clear h
 replace H := Option.bind_eq_some_iff.mp H
 obtain ⟨t305, A20, H⟩ := H
 try dsimp only at H
 have A2 := Aside0.mk A20
 clear A20
 have HC3 := Aside0.mk H
 clear H
 go_enter Tryz.func40, Tryz.ntmps40
 go_upto_region 2 with (first | ((with_reducible refine gate_callee (f := 62) rfl ?_); refine goesL_ (some 6) rfl rfl Tryz.func62 (by kernel_rfl) rfl #[.string a0] rfl (by (try simp only [List.map_toArray, List.map_cons, List.map_nil]); first | done | rfl | (simp only [List.length_drop, List.length_take]; rfl)) ?_; (with_reducible refine (copseref13_pieces.calls k a0 t305 _ A2.out).mono ?_); rintro e w4 ⟨v306, rfl, ho0, hb⟩; refine ⟨_, rfl, ?_⟩; have n0_ := Aside0.mk (Kd.R_lower ho0 (below_size (by repeat (first | (with_reducible first | exact HB.out | apply below_alloc | apply pw_below_drewN | apply below_drew1) | exact HB.out)))); have n1_ := Aside0.mk (below_step (by repeat (first | (with_reducible first | exact HB.out | apply below_alloc | apply pw_below_drewN | apply below_drew1) | exact HB.out)) hb); clear HB; have HO307 := n0_; have HB := n1_; clear n0_ n1_; (try clear hb); (try clear hb2); (try clear hk); (try clear hi); (try clear ho0)))
 (try simp only [Act.put, List.setIfInBounds_toArray, List.set_cons_zero, List.set_cons_succ])
 go_cut [14] (fun v14 wc => ∃ (kq : Nat) (x14_2 : Bool), v14 = .bool x14_2 ∧ Aside0 (copseref13_IsPath.j0 kq t305 x14_2 = some r) ∧ Aside0 (kq ≤ k) ∧ Aside0 (Kd.R Kd.string 9 wc w.heap.size (fun _ => True) v306 t305) ∧ Aside0 (Below w.heap.size w wc))
 case first =>
  have H := HC3.out
  clear HC3
  by_cases c5 : (t305.length : Int) > 12
  ·rw [if_pos c5] at H
   have c5b0 := decide_eq_true c5
   have c5b1 : decide (12 < t305.length) = true := decide_eq_true (by omega)
   clear c5
   (first | rw [c5b0] | (simp only [i64_w, i32_w]; rw [c5b0]) | skip)
   have H' := Aside0.mk H
   clear H
   obtain ⟨Ao6, co6, eo6⟩ := Kd.R_slice HO307.out
   subst eo6
   go_wp2
   go_meet
   case rel => exact ⟨_, (true), (by first | rfl | (simp; done) | (simp [*]; done)), H', ⟨by first | omega | exact Nat.le_refl _⟩, ⟨by (with_reducible repeat (first | apply Kd.R_alloc | apply Kd.R_drewN | apply Kd.R_drew)); exact HO307.out⟩, ⟨by repeat (first | (with_reducible first | exact HB.out | apply below_alloc | apply pw_below_drewN | apply below_drew1) | exact HB.out)⟩⟩
  ·rw [if_neg c5] at H
   have c5b0 := decide_eq_false c5
   have c5b1 : decide (12 < t305.length) = false := decide_eq_false (by omega)
   clear c5
   (first | rw [c5b0] | (simp only [i64_w, i32_w]; rw [c5b0]) | skip)
   have H' := Aside0.mk H
   clear H
   obtain ⟨Ao7, co7, eo7⟩ := Kd.R_slice HO307.out
   subst eo7
   go_wp2
   go_meet
   case rel => exact ⟨_, (decide ((a0.size : Int) > 120)), (by first | rfl | (simp; done) | (simp [*]; done)), H', ⟨by first | omega | exact Nat.le_refl _⟩, ⟨by (with_reducible repeat (first | apply Kd.R_alloc | apply Kd.R_drewN | apply Kd.R_drew)); exact HO307.out⟩, ⟨by repeat (first | (with_reducible first | exact HB.out | apply below_alloc | apply pw_below_drewN | apply below_drew1) | exact HB.out)⟩⟩
 case rest =>
  clear HC3
  try clear p2
  try clear c4
  try clear c5
  try clear c5b0
  try clear c5b1
  try clear c6
  obtain ⟨kq, x14_2, rfl, HA, HJ2, HO_3, HB⟩ := hcut
  cases kq with
  | zero => exact absurd HA.out (by simp [copseref13_IsPath.j0])
  | succ kj2 =>
   have H := HA.out
   clear HA
   simp only [copseref13_IsPath.j0] at H
   by_cases c8 : x14_2 = true
   ·subst c8
    rw [if_pos rfl] at H
    have H1 := H
    clear H
    have H := H1
    clear H1
    obtain rfl := Option.some.inj H
    go_wp2
    go_ret
    exact ⟨by first | rfl | (simp [errW_none, errW_some] <;> rfl) | (simp [*, errW_none, errW_some] <;> rfl), by repeat (first | (with_reducible first | exact HB.out | apply below_alloc | apply pw_below_drewN | apply below_drew1) | exact HB.out)⟩
   ·replace c8 := Bool.eq_false_iff.mpr c8
    subst c8
    have H1 : (copseref13_IsPath.l0 kj2 t305 0) = some r := by rw [if_neg (show ¬ (false = true) by decide)] at H; exact H
    clear H
    have H := H1
    clear H1
    have H' := Aside0.mk H
    clear H
    go_wp2
    go_loopg [4] kj2 (fun kq v4 w' => ∃ (x4_2 : Int), v4 = .int .i64 x4_2 ∧ Aside0 (copseref13_IsPath.l0 kq t305 x4_2 = some r) ∧ Aside0 (kq ≤ kj2) ∧ Aside0 (Kd.R Kd.string 9 w' w.heap.size (fun _ => True) v306 t305) ∧ Aside0 (Below w.heap.size w w'))
    case atStart => exact ⟨(0), (by first | rfl | (simp; done) | (simp [*]; done)), H', ⟨Nat.le_refl _⟩, ⟨by (with_reducible repeat (first | apply Kd.R_alloc | apply Kd.R_drewN | apply Kd.R_drew)); exact HO_3.out⟩, ⟨by repeat (first | (with_reducible first | exact HB.out | apply below_alloc | apply pw_below_drewN | apply below_drew1) | exact HB.out)⟩⟩
    case round =>
     clear H'
     try clear p2
     try clear c4
     try clear c5
     try clear c5b0
     try clear c5b1
     try clear c6
     try clear c8
     try clear p2
     obtain ⟨x4_2, rfl, HA, HK2, HO_3, HB⟩ := hrel
     cases gk with
     | zero => exact absurd HA.out (by simp [copseref13_IsPath.l0])
     | succ k2 =>
      have H := HA.out
      clear HA
      simp only [copseref13_IsPath.l0] at H
      by_cases c9 : x4_2 < (t305.length : Int)
      ·rw [if_pos c9] at H
       have c9b0 := decide_eq_true c9
       clear c9
       by_cases c10 : 0 ≤ x4_2
       ·rw [if_pos c10] at H
        have c10b0 := decide_eq_true c10
        clear c10
        replace H := Option.bind_eq_some_iff.mp H
        obtain ⟨t309, A110, H⟩ := H
        try dsimp only at H
        have A11 := Aside0.mk A110
        clear A110
        by_cases c12 : t309 = true
        ·subst c12
         rw [if_pos rfl] at H
         have H1 := H
         clear H
         have H := H1
         clear H1
         have H' := Aside0.mk H
         clear H
         obtain ⟨Ao13, co13, eo13⟩ := Kd.R_slice HO_3.out
         subst eo13
         have p308 : 0 ≤ (x4_2 : Int) := of_decide_eq_true (by first | (with_reducible assumption) | assumption)
         have q308 : x4_2 < (t305.length : Int) := of_decide_eq_true (by first | (with_reducible assumption) | assumption)
         obtain ⟨ad308, e308, hx308_0⟩ := Kd.at_string (Kd.R_reads' HO_3.out).2.2 x4_2 p308 q308
         cases e308
         replace p308 := eq_true p308
         replace q308 := eq_true q308
         go_wp2_with (first | ((with_reducible refine gate_callee (f := 63) rfl ?_); refine goesL_ (some 25) rfl rfl Tryz.func63 (by kernel_rfl) rfl #[.string (rdOf ByteArray.empty t305 x4_2)] rfl (by (try simp only [List.map_toArray, List.map_cons, List.map_nil]); first | done | rfl | (simp only [List.length_drop, List.length_take]; rfl)) ?_; (with_reducible refine (copseref13_component.calls k2 (rdOf ByteArray.empty t305 x4_2) true _ A11.out).mono ?_); rintro e w' ⟨rfl, ⟨nd, rfl⟩⟩; refine ⟨_, rfl, ?_⟩))
         go_roundg k2
         case measure => have := HJ2.out; have := HK2.out; omega
         case rel => exact ⟨(wrap64 (x4_2 + 1)), (by first | rfl | (simp; done) | (simp [*]; done)), H', ⟨by have := HJ2.out; have := HK2.out; omega⟩, ⟨by (with_reducible repeat (first | apply Kd.R_alloc | apply Kd.R_drewN | apply Kd.R_drew)); exact HO_3.out⟩, ⟨by repeat (first | (with_reducible first | exact HB.out | apply below_alloc | apply pw_below_drewN | apply below_drew1) | exact HB.out)⟩⟩
        ·replace c12 := Bool.eq_false_iff.mpr c12
         subst c12
         have H1 : (some false) = some r := by rw [if_neg (show ¬ (false = true) by decide)] at H; exact H
         clear H
         have H := H1
         clear H1
         obtain rfl := Option.some.inj H
         obtain ⟨Ao14, co14, eo14⟩ := Kd.R_slice HO_3.out
         subst eo14
         have p308 : 0 ≤ (x4_2 : Int) := of_decide_eq_true (by first | (with_reducible assumption) | assumption)
         have q308 : x4_2 < (t305.length : Int) := of_decide_eq_true (by first | (with_reducible assumption) | assumption)
         obtain ⟨ad308, e308, hx308_0⟩ := Kd.at_string (Kd.R_reads' HO_3.out).2.2 x4_2 p308 q308
         cases e308
         replace p308 := eq_true p308
         replace q308 := eq_true q308
         go_wp2_with (first | ((with_reducible refine gate_callee (f := 63) rfl ?_); refine goesL_ (some 25) rfl rfl Tryz.func63 (by kernel_rfl) rfl #[.string (rdOf ByteArray.empty t305 x4_2)] rfl (by (try simp only [List.map_toArray, List.map_cons, List.map_nil]); first | done | rfl | (simp only [List.length_drop, List.length_take]; rfl)) ?_; (with_reducible refine (copseref13_component.calls k2 (rdOf ByteArray.empty t305 x4_2) false _ A11.out).mono ?_); rintro e w' ⟨rfl, ⟨nd, rfl⟩⟩; refine ⟨_, rfl, ?_⟩))
         go_ret
         exact ⟨by first | rfl | (simp [errW_none, errW_some] <;> rfl) | (simp [*, errW_none, errW_some] <;> rfl), by repeat (first | (with_reducible first | exact HB.out | apply below_alloc | apply pw_below_drewN | apply below_drew1) | exact HB.out)⟩
       ·rw [if_neg c10] at H
        exact absurd H (by simp)
      ·rw [if_neg c9] at H
       have c9b0 := decide_eq_false c9
       clear c9
       obtain rfl := Option.some.inj H
       obtain ⟨Ao15, co15, eo15⟩ := Kd.R_slice HO_3.out
       subst eo15
       go_wp2
       go_ret
       exact ⟨by first | rfl | (simp [errW_none, errW_some] <;> rfl) | (simp [*, errW_none, errW_some] <;> rfl), by repeat (first | (with_reducible first | exact HB.out | apply below_alloc | apply pw_below_drewN | apply below_drew1) | exact HB.out)⟩
def copseref13_Base.l0 : Nat → ByteArray → Int → Option (ByteArray)
 | 0, _, _ => none
 | k + 1, x0, x3 => if x3 ≥ 0 then (if 0 ≤ x3 then (if x3 < (x0.size : Int) then (if (bt x0 x3) = 47 then (if 0 ≤ (wrap64 (x3 + 1)) then (if (wrap64 (x3 + 1)) ≤ (x0.size : Int) then (some (x0.extract ((wrap64 (x3 + 1)) : Int).toNat x0.size)) else (none)) else (none)) else (copseref13_Base.l0 k x0 (wrap64 (x3 - 1)))) else (none)) else (none)) else (some x0)
def copseref13_Base.f (k : Nat) (a0 : ByteArray) : Option (ByteArray) := copseref13_Base.l0 k a0 (wrap64 ((a0.size : Int) - 1))
set_option maxHeartbeats 8000000 in
set_option maxRecDepth 100000 in
theorem copseref13_Base.calls (k : Nat) (a0 : ByteArray) (r : ByteArray) (w : World) (h : copseref13_Base.f k a0 = some r) :
  Calls Tryz.prog 41 #[.string a0] w fun e w' => e = .returned (.string r) ∧ Drawn0 w w' := by
 have H : (copseref13_Base.l0 k a0 (wrap64 ((a0.size : Int) - 1))) = some r := h
 clear h
 have H' := Aside0.mk H
 clear H
 go_enter Tryz.func41, Tryz.ntmps41
 go_wp2
 go_loopg [3] k (fun kq v3 w' => ∃ (x3_1 : Int), v3 = .int .i64 x3_1 ∧ Aside0 (copseref13_Base.l0 kq a0 x3_1 = some r) ∧ Aside0 (kq ≤ k) ∧ Drawn0 w w')
 case atStart => exact ⟨(wrap64 ((a0.size : Int) - 1)), (by first | rfl | (simp; done) | (simp [*]; done)), H', ⟨Nat.le_refl _⟩, by repeat (first | exact Drawn0.refl _ | apply Drawn0.step)⟩
 case round =>
  clear H'
  obtain ⟨x3_1, rfl, HA, HK1, ⟨m1, rfl⟩⟩ := hrel
  cases gk with
  | zero => exact absurd HA.out (by simp [copseref13_Base.l0])
  | succ k1 =>
   have H := HA.out
   clear HA
   simp only [copseref13_Base.l0] at H
   by_cases c2 : x3_1 ≥ 0
   ·rw [if_pos c2] at H
    have c2b0 := decide_eq_true c2
    clear c2
    by_cases c3 : 0 ≤ x3_1
    ·rw [if_pos c3] at H
     have c3b0 := decide_eq_true c3
     clear c3
     by_cases c4 : x3_1 < (a0.size : Int)
     ·rw [if_pos c4] at H
      have c4b0 := decide_eq_true c4
      clear c4
      by_cases c6 : (bt a0 x3_1) = 47
      ·rw [if_pos c6] at H
       have c6b0 : ((bt a0 x3_1) == 47) = true := beq_iff_eq.mpr c6
       have c6b1 : ((bt a0 x3_1) != 47) = false := bne_eq_false_iff_eq.mpr c6
       clear c6
       obtain ⟨ji7, hji7⟩ : ∃ j_ : Int, (wrap64 (x3_1 + 1)) = j_ := ⟨_, rfl⟩
       replace H : (if 0 ≤ (ji7) then (if (ji7) ≤ (a0.size : Int) then (some (a0.extract ((ji7) : Int).toNat a0.size)) else (none)) else (none)) = some r := by first | (rw [hji7] at H; exact H) | (simp only [hji7] at H ⊢; exact H)
       have hji7w : (IntKind.i64.wrap (x3_1 + 1)) = ji7 := (i64_w _).trans hji7
       by_cases c8 : 0 ≤ (ji7)
       ·rw [if_pos c8] at H
        have c8b0 := eq_true c8
        have c8b1 := decide_eq_true c8
        clear c8
        by_cases c9 : (ji7) ≤ (a0.size : Int)
        ·rw [if_pos c9] at H
         have c9b0 := eq_true c9
         have c9b1 := decide_eq_true c9
         clear c9
         obtain rfl := Option.some.inj H
         have p5 : 0 ≤ (x3_1 : Int) := of_decide_eq_true (by first | (with_reducible assumption) | assumption)
         have q5 : x3_1 < (a0.size : Int) := of_decide_eq_true (by first | (with_reducible assumption) | assumption)
         have hx5 := bt_at a0 x3_1
         replace p5 := eq_true p5
         replace q5 := eq_true q5
         go_wp2
         go_ret
         exact ⟨by first | rfl | (simp; done) | (simp only [← hji7] <;> (first | rfl | simp)) | (simp [*]; done), by repeat (first | exact Drawn0.refl _ | apply Drawn0.step)⟩
        ·rw [if_neg c9] at H
         exact absurd H (by simp)
       ·rw [if_neg c8] at H
        exact absurd H (by simp)
      ·rw [if_neg c6] at H
       have c6b0 : ((bt a0 x3_1) == 47) = false := beq_eq_false_iff_ne.mpr c6
       have c6b1 : ((bt a0 x3_1) != 47) = true := bne_iff_ne.mpr c6
       have H' := Aside0.mk H
       clear H
       have p5 : 0 ≤ (x3_1 : Int) := of_decide_eq_true (by first | (with_reducible assumption) | assumption)
       have q5 : x3_1 < (a0.size : Int) := of_decide_eq_true (by first | (with_reducible assumption) | assumption)
       have hx5 := bt_at a0 x3_1
       replace p5 := eq_true p5
       replace q5 := eq_true q5
       go_wp2
       go_roundg k1
       case measure => have := HK1.out; omega
       case rel => exact ⟨(wrap64 (x3_1 - 1)), (by first | rfl | (simp; done) | (simp [*]; done)), H', ⟨by have := HK1.out; omega⟩, by repeat (first | exact Drawn0.refl _ | apply Drawn0.step)⟩
     ·rw [if_neg c4] at H
      exact absurd H (by simp)
    ·rw [if_neg c3] at H
     exact absurd H (by simp)
   ·rw [if_neg c2] at H
    have c2b0 := decide_eq_false c2
    clear c2
    obtain rfl := Option.some.inj H
    go_wp2
    go_ret
    exact ⟨by first | rfl | (simp; done) | (simp [*]; done), by repeat (first | exact Drawn0.refl _ | apply Drawn0.step)⟩
mutual
def copseref13_Path.l0 : Nat → List ByteArray → List ByteArray → Int → Option (Int)
 | 0, _, _, _ => none
 | k + 1, x5, x6, x7 => if x7 < (x5.length : Int) then (copseref13_Path.j1 k x5 x6 x7 (decide (x7 < (x6.length : Int)))) else (copseref13_Path.j1 k x5 x6 x7 false)
def copseref13_Path.j1 : Nat → List ByteArray → List ByteArray → Int → Bool → Option (Int)
 | 0, _, _, _, _ => none
 | k + 1, x5, x6, x7, x21 => if x21 = true then (if 0 ≤ x7 then (if x7 < (x5.length : Int) then (if x7 < (x6.length : Int) then (if (Op.bytesLess ((rdOf ByteArray.empty x5 x7).toList) ((rdOf ByteArray.empty x6 x7).toList)) = true then (some (-1)) else (if (Op.bytesLess ((rdOf ByteArray.empty x6 x7).toList) ((rdOf ByteArray.empty x5 x7).toList)) = true then (some 1) else (copseref13_Path.l0 k x5 x6 (wrap64 (x7 + 1))))) else (none)) else (none)) else (none)) else (if (x5.length : Int) < (x6.length : Int) then (some (-1)) else (if (x5.length : Int) > (x6.length : Int) then (some 1) else (some 0)))
end
def copseref13_Path.f (k : Nat) (a0 : ByteArray) (a1 : ByteArray) : Option (Int) := (copseref13_pieces.f k a0).bind fun t310 => ((copseref13_pieces.f k a1).bind fun t313 => (copseref13_Path.l0 k t310 t313 0))
set_option maxHeartbeats 8000000 in
set_option maxRecDepth 100000 in
theorem copseref13_Path.calls (k : Nat) (a0 : ByteArray) (a1 : ByteArray) (r : Int) (w : World) (h : copseref13_Path.f k a0 a1 = some r) :
  Calls Tryz.prog 42 #[.string a0, .string a1] w fun e w' => e = .returned (.int .i64 r) ∧ Below w.heap.size w w' := by
 have HB := Aside0.mk (Below.refl w.heap.size w)
 have H : ((copseref13_pieces.f k a0).bind fun t310 => ((copseref13_pieces.f k a1).bind fun t313 => (copseref13_Path.l0 k t310 t313 0))) = some r := h
 clear h
 replace H := Option.bind_eq_some_iff.mp H
 obtain ⟨t310, A30, H⟩ := H
 try dsimp only at H
 have A3 := Aside0.mk A30
 clear A30
 replace H := Option.bind_eq_some_iff.mp H
 obtain ⟨t313, A40, H⟩ := H
 try dsimp only at H
 have A4 := Aside0.mk A40
 clear A40
 have H' := Aside0.mk H
 clear H
 go_enter Tryz.func42, Tryz.ntmps42
 go_wp2_with (first | (go_at_call 62; (with_reducible refine (copseref13_pieces.calls k a0 t310 _ A3.out).mono ?_); rintro e w5 ⟨v311, rfl, ho0, hb⟩; have n0_ := Aside0.mk (Kd.R_lower ho0 (below_size (by repeat (first | (with_reducible first | exact HB.out | apply below_alloc | apply pw_below_drewN | apply below_drew1) | exact HB.out)))); have n1_ := Aside0.mk (below_step (by repeat (first | (with_reducible first | exact HB.out | apply below_alloc | apply pw_below_drewN | apply below_drew1) | exact HB.out)) hb); clear HB; have HO312 := n0_; have HB := n1_; clear n0_ n1_; (try clear hb); (try clear hb2); (try clear hk); (try clear hi); (try clear ho0)) | (go_at_call 62; (with_reducible refine (copseref13_pieces.calls k a1 t313 _ A4.out).mono ?_); rintro e w6 ⟨v314, rfl, ho0, hb⟩; have n0_ := Aside0.mk (Kd.R_elder' (by (with_reducible repeat (first | apply Kd.R_alloc | apply Kd.R_drewN | apply Kd.R_drew)); exact HO312.out) (Kd.R_base ho0) hb); have n1_ := Aside0.mk (Kd.R_lower (Kd.R_new' ho0 (Kd.R_lt (by (with_reducible repeat (first | apply Kd.R_alloc | apply Kd.R_drewN | apply Kd.R_drew)); exact HO312.out))) (below_size (by repeat (first | (with_reducible first | exact HB.out | apply below_alloc | apply pw_below_drewN | apply below_drew1) | exact HB.out)))); have n2_ := Aside0.mk (below_step (by repeat (first | (with_reducible first | exact HB.out | apply below_alloc | apply pw_below_drewN | apply below_drew1) | exact HB.out)) hb); clear HO312; clear HB; have HO312 := n0_; have HO315 := n1_; have HB := n2_; clear n0_ n1_ n2_; (try clear hb); (try clear hb2); (try clear hk); (try clear hi); (try clear ho0)))
 repeat (go_quiet (first | (go_at_call 62; (with_reducible refine (copseref13_pieces.calls k a0 t310 _ A3.out).mono ?_); rintro e w5 ⟨v311, rfl, ho0, hb⟩; have n0_ := Aside0.mk (Kd.R_lower ho0 (below_size (by repeat (first | (with_reducible first | exact HB.out | apply below_alloc | apply pw_below_drewN | apply below_drew1) | exact HB.out)))); have n1_ := Aside0.mk (below_step (by repeat (first | (with_reducible first | exact HB.out | apply below_alloc | apply pw_below_drewN | apply below_drew1) | exact HB.out)) hb); clear HB; have HO312 := n0_; have HB := n1_; clear n0_ n1_; (try clear hb); (try clear hb2); (try clear hk); (try clear hi); (try clear ho0)) | (go_at_call 62; (with_reducible refine (copseref13_pieces.calls k a1 t313 _ A4.out).mono ?_); rintro e w6 ⟨v314, rfl, ho0, hb⟩; have n0_ := Aside0.mk (Kd.R_elder' (by (with_reducible repeat (first | apply Kd.R_alloc | apply Kd.R_drewN | apply Kd.R_drew)); exact HO312.out) (Kd.R_base ho0) hb); have n1_ := Aside0.mk (Kd.R_lower (Kd.R_new' ho0 (Kd.R_lt (by (with_reducible repeat (first | apply Kd.R_alloc | apply Kd.R_drewN | apply Kd.R_drew)); exact HO312.out))) (below_size (by repeat (first | (with_reducible first | exact HB.out | apply below_alloc | apply pw_below_drewN | apply below_drew1) | exact HB.out)))); have n2_ := Aside0.mk (below_step (by repeat (first | (with_reducible first | exact HB.out | apply below_alloc | apply pw_below_drewN | apply below_drew1) | exact HB.out)) hb); clear HO312; clear HB; have HO312 := n0_; have HO315 := n1_; have HB := n2_; clear n0_ n1_ n2_; (try clear hb); (try clear hb2); (try clear hk); (try clear hi); (try clear ho0))); try go_wp2_with (first | (go_at_call 62; (with_reducible refine (copseref13_pieces.calls k a0 t310 _ A3.out).mono ?_); rintro e w5 ⟨v311, rfl, ho0, hb⟩; have n0_ := Aside0.mk (Kd.R_lower ho0 (below_size (by repeat (first | (with_reducible first | exact HB.out | apply below_alloc | apply pw_below_drewN | apply below_drew1) | exact HB.out)))); have n1_ := Aside0.mk (below_step (by repeat (first | (with_reducible first | exact HB.out | apply below_alloc | apply pw_below_drewN | apply below_drew1) | exact HB.out)) hb); clear HB; have HO312 := n0_; have HB := n1_; clear n0_ n1_; (try clear hb); (try clear hb2); (try clear hk); (try clear hi); (try clear ho0)) | (go_at_call 62; (with_reducible refine (copseref13_pieces.calls k a1 t313 _ A4.out).mono ?_); rintro e w6 ⟨v314, rfl, ho0, hb⟩; have n0_ := Aside0.mk (Kd.R_elder' (by (with_reducible repeat (first | apply Kd.R_alloc | apply Kd.R_drewN | apply Kd.R_drew)); exact HO312.out) (Kd.R_base ho0) hb); have n1_ := Aside0.mk (Kd.R_lower (Kd.R_new' ho0 (Kd.R_lt (by (with_reducible repeat (first | apply Kd.R_alloc | apply Kd.R_drewN | apply Kd.R_drew)); exact HO312.out))) (below_size (by repeat (first | (with_reducible first | exact HB.out | apply below_alloc | apply pw_below_drewN | apply below_drew1) | exact HB.out)))); have n2_ := Aside0.mk (below_step (by repeat (first | (with_reducible first | exact HB.out | apply below_alloc | apply pw_below_drewN | apply below_drew1) | exact HB.out)) hb); clear HO312; clear HB; have HO312 := n0_; have HO315 := n1_; have HB := n2_; clear n0_ n1_ n2_; (try clear hb); (try clear hb2); (try clear hk); (try clear hi); (try clear ho0))))
 go_loopg [7] k (fun kq v7 w' => ∃ (x7_1 : Int), v7 = .int .i64 x7_1 ∧ Aside0 (copseref13_Path.l0 kq t310 t313 x7_1 = some r) ∧ Aside0 (kq ≤ k) ∧ Aside0 (Kd.R Kd.string 9 w' w.heap.size (fun k_ => some k_ ≠ (v314 : Value).ownBlock) v311 t310) ∧ Aside0 (Kd.R Kd.string 9 w' w.heap.size (fun k_ => some k_ ≠ (v311 : Value).ownBlock) v314 t313) ∧ Aside0 (Below w.heap.size w w'))
 case atStart => exact ⟨(0), (by first | rfl | (simp; done) | (simp [*]; done)), H', ⟨Nat.le_refl _⟩, ⟨by (with_reducible repeat (first | apply Kd.R_alloc | apply Kd.R_drewN | apply Kd.R_drew)); exact Kd.R_mono HO312.out (fun _ hk => hk.2)⟩, ⟨by (with_reducible repeat (first | apply Kd.R_alloc | apply Kd.R_drewN | apply Kd.R_drew)); exact Kd.R_mono HO315.out (fun _ hk => hk.2)⟩, ⟨by repeat (first | (with_reducible first | exact HB.out | apply below_alloc | apply pw_below_drewN | apply below_drew1) | exact HB.out)⟩⟩
 case round =>
  clear H'
  try clear p2
  try clear c4
  obtain ⟨x7_1, rfl, HA, HK1, HO_5, HO_6, HB⟩ := hrel
  cases gk with
  | zero => exact absurd HA.out (by simp [copseref13_Path.l0])
  | succ k1 =>
   have H := HA.out
   clear HA
   simp only [copseref13_Path.l0] at H
   have HC7 := Aside0.mk H
   clear H
   go_upto_region 4 with (fail)
   repeat (go_quiet (fail); go_upto_region 4 with (fail))
   go_cut [21] (fun v21 wc => ∃ (kq : Nat) (x21_6 : Bool), v21 = .bool x21_6 ∧ Aside0 (copseref13_Path.j1 kq t310 t313 x7_1 x21_6 = some r) ∧ Aside0 (kq ≤ k1) ∧ Aside0 (Kd.R Kd.string 9 wc w.heap.size (fun k_ => some k_ ≠ (v314 : Value).ownBlock) v311 t310) ∧ Aside0 (Kd.R Kd.string 9 wc w.heap.size (fun k_ => some k_ ≠ (v311 : Value).ownBlock) v314 t313) ∧ Aside0 (Below w.heap.size w wc))
   case first =>
    have H := HC7.out
    clear HC7
    by_cases c8 : x7_1 < (t310.length : Int)
    ·rw [if_pos c8] at H
     have c8b0 := decide_eq_true c8
     clear c8
     (first | rw [c8b0] | (simp only [i64_w, i32_w]; rw [c8b0]) | skip)
     have H' := Aside0.mk H
     clear H
     obtain ⟨Ao9, co9, eo9⟩ := Kd.R_slice HO_5.out
     subst eo9
     obtain ⟨Ao10, co10, eo10⟩ := Kd.R_slice HO_6.out
     subst eo10
     go_wp2
     repeat (go_quiet (fail); try go_wp2)
     go_meet
     case rel => exact ⟨_, (decide (x7_1 < (t313.length : Int))), (by first | rfl | (simp; done) | (simp [*]; done)), H', ⟨by have := HK1.out; first | omega | exact Nat.le_refl _⟩, ⟨by (with_reducible repeat (first | apply Kd.R_alloc | apply Kd.R_drewN | apply Kd.R_drew)); exact HO_5.out⟩, ⟨by (with_reducible repeat (first | apply Kd.R_alloc | apply Kd.R_drewN | apply Kd.R_drew)); exact HO_6.out⟩, ⟨by repeat (first | (with_reducible first | exact HB.out | apply below_alloc | apply pw_below_drewN | apply below_drew1) | exact HB.out)⟩⟩
    ·rw [if_neg c8] at H
     have c8b0 := decide_eq_false c8
     clear c8
     (first | rw [c8b0] | (simp only [i64_w, i32_w]; rw [c8b0]) | skip)
     have H' := Aside0.mk H
     clear H
     obtain ⟨Ao11, co11, eo11⟩ := Kd.R_slice HO_5.out
     subst eo11
     go_wp2
     repeat (go_quiet (fail); try go_wp2)
     go_meet
     case rel => exact ⟨_, (false), (by first | rfl | (simp; done) | (simp [*]; done)), H', ⟨by have := HK1.out; first | omega | exact Nat.le_refl _⟩, ⟨by (with_reducible repeat (first | apply Kd.R_alloc | apply Kd.R_drewN | apply Kd.R_drew)); exact HO_5.out⟩, ⟨by (with_reducible repeat (first | apply Kd.R_alloc | apply Kd.R_drewN | apply Kd.R_drew)); exact HO_6.out⟩, ⟨by repeat (first | (with_reducible first | exact HB.out | apply below_alloc | apply pw_below_drewN | apply below_drew1) | exact HB.out)⟩⟩
   case rest =>
    clear HC7
    try clear p2
    try clear c4
    try clear c8
    try clear c8b0
    try clear p2
    obtain ⟨kq, x21_6, rfl, HA, HJ6, HO_5, HO_6, HB⟩ := hcut
    cases kq with
    | zero => exact absurd HA.out (by simp [copseref13_Path.j1])
    | succ kj6 =>
     have H := HA.out
     clear HA
     simp only [copseref13_Path.j1] at H
     by_cases c12 : x21_6 = true
     ·subst c12
      rw [if_pos rfl] at H
      have H1 := H
      clear H
      have H := H1
      clear H1
      by_cases c13 : 0 ≤ x7_1
      ·rw [if_pos c13] at H
       have c13b0 := decide_eq_true c13
       clear c13
       by_cases c14 : x7_1 < (t310.length : Int)
       ·rw [if_pos c14] at H
        have c14b0 := decide_eq_true c14
        clear c14
        by_cases c15 : x7_1 < (t313.length : Int)
        ·rw [if_pos c15] at H
         have c15b0 := decide_eq_true c15
         clear c15
         by_cases c16 : (Op.bytesLess ((rdOf ByteArray.empty t310 x7_1).toList) ((rdOf ByteArray.empty t313 x7_1).toList)) = true
         ·rw [if_pos c16] at H
          have c16b0 : (Op.bytesLess ((rdOf ByteArray.empty t310 x7_1).toList) ((rdOf ByteArray.empty t313 x7_1).toList)) = true := c16
          clear c16
          obtain rfl := Option.some.inj H
          obtain ⟨Ao17, co17, eo17⟩ := Kd.R_slice HO_5.out
          subst eo17
          have p316 : 0 ≤ (x7_1 : Int) := of_decide_eq_true (by first | (with_reducible assumption) | assumption)
          have q316 : x7_1 < (t310.length : Int) := of_decide_eq_true (by first | (with_reducible assumption) | assumption)
          obtain ⟨ad316, e316, hx316_0⟩ := Kd.at_string (Kd.R_reads' HO_5.out).2.2 x7_1 p316 q316
          cases e316
          replace p316 := eq_true p316
          replace q316 := eq_true q316
          obtain ⟨Ao18, co18, eo18⟩ := Kd.R_slice HO_6.out
          subst eo18
          have p317 : 0 ≤ (x7_1 : Int) := of_decide_eq_true (by first | (with_reducible assumption) | assumption)
          have q317 : x7_1 < (t313.length : Int) := of_decide_eq_true (by first | (with_reducible assumption) | assumption)
          obtain ⟨ad317, e317, hx317_0⟩ := Kd.at_string (Kd.R_reads' HO_6.out).2.2 x7_1 p317 q317
          cases e317
          replace p317 := eq_true p317
          replace q317 := eq_true q317
          go_wp2
          repeat (go_quiet (fail); try go_wp2)
          go_ret
          exact ⟨by first | rfl | (simp [errW_none, errW_some] <;> rfl) | (simp [*, errW_none, errW_some] <;> rfl), by repeat (first | (with_reducible first | exact HB.out | apply below_alloc | apply pw_below_drewN | apply below_drew1) | exact HB.out)⟩
         ·rw [if_neg c16] at H
          have c16b0 : (Op.bytesLess ((rdOf ByteArray.empty t310 x7_1).toList) ((rdOf ByteArray.empty t313 x7_1).toList)) = false := by simpa using c16
          clear c16
          by_cases c19 : (Op.bytesLess ((rdOf ByteArray.empty t313 x7_1).toList) ((rdOf ByteArray.empty t310 x7_1).toList)) = true
          ·rw [if_pos c19] at H
           have c19b0 : (Op.bytesLess ((rdOf ByteArray.empty t313 x7_1).toList) ((rdOf ByteArray.empty t310 x7_1).toList)) = true := c19
           have c19b9 : (((rdOf ByteArray.empty t310 x7_1).toList) == ((rdOf ByteArray.empty t313 x7_1).toList)) = false := Go.Proofs.YtdfkaclflmgkeaaGreatDoor.Sp.gt_ne c16b0 c19b0
           clear c19
           obtain rfl := Option.some.inj H
           obtain ⟨Ao20, co20, eo20⟩ := Kd.R_slice HO_5.out
           subst eo20
           have p316 : 0 ≤ (x7_1 : Int) := of_decide_eq_true (by first | (with_reducible assumption) | assumption)
           have q316 : x7_1 < (t310.length : Int) := of_decide_eq_true (by first | (with_reducible assumption) | assumption)
           obtain ⟨ad316, e316, hx316_0⟩ := Kd.at_string (Kd.R_reads' HO_5.out).2.2 x7_1 p316 q316
           cases e316
           replace p316 := eq_true p316
           replace q316 := eq_true q316
           obtain ⟨Ao21, co21, eo21⟩ := Kd.R_slice HO_6.out
           subst eo21
           have p317 : 0 ≤ (x7_1 : Int) := of_decide_eq_true (by first | (with_reducible assumption) | assumption)
           have q317 : x7_1 < (t313.length : Int) := of_decide_eq_true (by first | (with_reducible assumption) | assumption)
           obtain ⟨ad317, e317, hx317_0⟩ := Kd.at_string (Kd.R_reads' HO_6.out).2.2 x7_1 p317 q317
           cases e317
           replace p317 := eq_true p317
           replace q317 := eq_true q317
           have p318 : 0 ≤ (x7_1 : Int) := of_decide_eq_true (by first | (with_reducible assumption) | assumption)
           have q318 : x7_1 < (t310.length : Int) := of_decide_eq_true (by first | (with_reducible assumption) | assumption)
           obtain ⟨ad318, e318, hx318_0⟩ := Kd.at_string (Kd.R_reads' HO_5.out).2.2 x7_1 p318 q318
           obtain rfl : ad316 = ad318 := (by injection e318)
           replace p318 := eq_true p318
           replace q318 := eq_true q318
           have p319 : 0 ≤ (x7_1 : Int) := of_decide_eq_true (by first | (with_reducible assumption) | assumption)
           have q319 : x7_1 < (t313.length : Int) := of_decide_eq_true (by first | (with_reducible assumption) | assumption)
           obtain ⟨ad319, e319, hx319_0⟩ := Kd.at_string (Kd.R_reads' HO_6.out).2.2 x7_1 p319 q319
           obtain rfl : ad317 = ad319 := (by injection e319)
           replace p319 := eq_true p319
           replace q319 := eq_true q319
           go_wp2
           repeat (go_quiet (fail); try go_wp2)
           go_ret
           exact ⟨by first | rfl | (simp [errW_none, errW_some] <;> rfl) | (simp [*, errW_none, errW_some] <;> rfl), by repeat (first | (with_reducible first | exact HB.out | apply below_alloc | apply pw_below_drewN | apply below_drew1) | exact HB.out)⟩
          ·rw [if_neg c19] at H
           have c19b0 : (Op.bytesLess ((rdOf ByteArray.empty t313 x7_1).toList) ((rdOf ByteArray.empty t310 x7_1).toList)) = false := by simpa using c19
           have c19b9 : (((rdOf ByteArray.empty t310 x7_1).toList) == ((rdOf ByteArray.empty t313 x7_1).toList)) = true := Go.Proofs.YtdfkaclflmgkeaaGreatDoor.Sp.gt_eq c16b0 c19b0
           clear c19
           have H' := Aside0.mk H
           clear H
           obtain ⟨Ao22, co22, eo22⟩ := Kd.R_slice HO_5.out
           subst eo22
           have p316 : 0 ≤ (x7_1 : Int) := of_decide_eq_true (by first | (with_reducible assumption) | assumption)
           have q316 : x7_1 < (t310.length : Int) := of_decide_eq_true (by first | (with_reducible assumption) | assumption)
           obtain ⟨ad316, e316, hx316_0⟩ := Kd.at_string (Kd.R_reads' HO_5.out).2.2 x7_1 p316 q316
           cases e316
           replace p316 := eq_true p316
           replace q316 := eq_true q316
           obtain ⟨Ao23, co23, eo23⟩ := Kd.R_slice HO_6.out
           subst eo23
           have p317 : 0 ≤ (x7_1 : Int) := of_decide_eq_true (by first | (with_reducible assumption) | assumption)
           have q317 : x7_1 < (t313.length : Int) := of_decide_eq_true (by first | (with_reducible assumption) | assumption)
           obtain ⟨ad317, e317, hx317_0⟩ := Kd.at_string (Kd.R_reads' HO_6.out).2.2 x7_1 p317 q317
           cases e317
           replace p317 := eq_true p317
           replace q317 := eq_true q317
           have p318 : 0 ≤ (x7_1 : Int) := of_decide_eq_true (by first | (with_reducible assumption) | assumption)
           have q318 : x7_1 < (t310.length : Int) := of_decide_eq_true (by first | (with_reducible assumption) | assumption)
           obtain ⟨ad318, e318, hx318_0⟩ := Kd.at_string (Kd.R_reads' HO_5.out).2.2 x7_1 p318 q318
           obtain rfl : ad316 = ad318 := (by injection e318)
           replace p318 := eq_true p318
           replace q318 := eq_true q318
           have p319 : 0 ≤ (x7_1 : Int) := of_decide_eq_true (by first | (with_reducible assumption) | assumption)
           have q319 : x7_1 < (t313.length : Int) := of_decide_eq_true (by first | (with_reducible assumption) | assumption)
           obtain ⟨ad319, e319, hx319_0⟩ := Kd.at_string (Kd.R_reads' HO_6.out).2.2 x7_1 p319 q319
           obtain rfl : ad317 = ad319 := (by injection e319)
           replace p319 := eq_true p319
           replace q319 := eq_true q319
           go_wp2
           repeat (go_quiet (fail); try go_wp2)
           go_roundg kj6
           case measure => have := HK1.out; have := HJ6.out; omega
           case rel => exact ⟨(wrap64 (x7_1 + 1)), (by first | rfl | (simp; done) | (simp [*]; done)), H', ⟨by have := HK1.out; have := HJ6.out; omega⟩, ⟨by (with_reducible repeat (first | apply Kd.R_alloc | apply Kd.R_drewN | apply Kd.R_drew)); exact HO_5.out⟩, ⟨by (with_reducible repeat (first | apply Kd.R_alloc | apply Kd.R_drewN | apply Kd.R_drew)); exact HO_6.out⟩, ⟨by repeat (first | (with_reducible first | exact HB.out | apply below_alloc | apply pw_below_drewN | apply below_drew1) | exact HB.out)⟩⟩
        ·rw [if_neg c15] at H
         exact absurd H (by simp)
       ·rw [if_neg c14] at H
        exact absurd H (by simp)
      ·rw [if_neg c13] at H
       exact absurd H (by simp)
     ·replace c12 := Bool.eq_false_iff.mpr c12
      subst c12
      have H1 : (if (t310.length : Int) < (t313.length : Int) then (some (-1)) else (if (t310.length : Int) > (t313.length : Int) then (some 1) else (some 0))) = some r := by rw [if_neg (show ¬ (false = true) by decide)] at H; exact H
      clear H
      have H := H1
      clear H1
      by_cases c24 : (t310.length : Int) < (t313.length : Int)
      ·rw [if_pos c24] at H
       have c24b0 := decide_eq_true c24
       have c24b1 : decide (t310.length < t313.length) = true := decide_eq_true (Int.ofNat_lt.mp c24)
       clear c24
       obtain rfl := Option.some.inj H
       obtain ⟨Ao25, co25, eo25⟩ := Kd.R_slice HO_5.out
       subst eo25
       obtain ⟨Ao26, co26, eo26⟩ := Kd.R_slice HO_6.out
       subst eo26
       go_wp2
       repeat (go_quiet (fail); try go_wp2)
       go_ret
       exact ⟨by first | rfl | (simp [errW_none, errW_some] <;> rfl) | (simp [*, errW_none, errW_some] <;> rfl), by repeat (first | (with_reducible first | exact HB.out | apply below_alloc | apply pw_below_drewN | apply below_drew1) | exact HB.out)⟩
      ·rw [if_neg c24] at H
       have c24b0 := decide_eq_false c24
       have c24b1 : decide (t310.length < t313.length) = false := decide_eq_false (fun h => c24 (Int.ofNat_lt.mpr h))
       clear c24
       by_cases c27 : (t310.length : Int) > (t313.length : Int)
       ·rw [if_pos c27] at H
        have c27b0 := decide_eq_true c27
        have c27b1 : decide (t313.length < t310.length) = true := decide_eq_true (Int.ofNat_lt.mp c27)
        clear c27
        obtain rfl := Option.some.inj H
        obtain ⟨Ao28, co28, eo28⟩ := Kd.R_slice HO_5.out
        subst eo28
        obtain ⟨Ao29, co29, eo29⟩ := Kd.R_slice HO_6.out
        subst eo29
        go_wp2
        repeat (go_quiet (fail); try go_wp2)
        go_ret
        exact ⟨by first | rfl | (simp [errW_none, errW_some] <;> rfl) | (simp [*, errW_none, errW_some] <;> rfl), by repeat (first | (with_reducible first | exact HB.out | apply below_alloc | apply pw_below_drewN | apply below_drew1) | exact HB.out)⟩
       ·rw [if_neg c27] at H
        have c27b0 := decide_eq_false c27
        have c27b1 : decide (t313.length < t310.length) = false := decide_eq_false (fun h => c27 (Int.ofNat_lt.mpr h))
        clear c27
        obtain rfl := Option.some.inj H
        obtain ⟨Ao30, co30, eo30⟩ := Kd.R_slice HO_5.out
        subst eo30
        obtain ⟨Ao31, co31, eo31⟩ := Kd.R_slice HO_6.out
        subst eo31
        go_wp2
        repeat (go_quiet (fail); try go_wp2)
        go_ret
        exact ⟨by first | rfl | (simp [errW_none, errW_some] <;> rfl) | (simp [*, errW_none, errW_some] <;> rfl), by repeat (first | (with_reducible first | exact HB.out | apply below_alloc | apply pw_below_drewN | apply below_drew1) | exact HB.out)⟩
def copseref13_Above.f (a0 : ByteArray) (a1 : ByteArray) : Option (Bool) := if a0.toList = a1.toList then (some false) else (if a0.toList = ([] : List UInt8) then (some true) else (if (a1.size : Int) > (a0.size : Int) then (if 0 ≤ (a0.size : Int) then (if (a0.size : Int) ≤ (a1.size : Int) then (if (a1.extract 0 ((a0.size : Int) : Int).toNat).toList = a0.toList then (if (a0.size : Int) < (a1.size : Int) then (some ((bt a1 (a0.size : Int)) == 47)) else (none)) else (some false)) else (none)) else (none)) else (some false)))
set_option maxHeartbeats 8000000 in
set_option maxRecDepth 100000 in
theorem copseref13_Above.calls (a0 : ByteArray) (a1 : ByteArray) (r : Bool) (w : World) (h : copseref13_Above.f a0 a1 = some r) :
  Calls Tryz.prog 43 #[.string a0, .string a1] w fun e w' => e = .returned (.bool r) ∧ Drawn0 w w' := by
 have H : (if a0.toList = a1.toList then (some false) else (if a0.toList = ([] : List UInt8) then (some true) else (if (a1.size : Int) > (a0.size : Int) then (if 0 ≤ (a0.size : Int) then (if (a0.size : Int) ≤ (a1.size : Int) then (if (a1.extract 0 ((a0.size : Int) : Int).toNat).toList = a0.toList then (if (a0.size : Int) < (a1.size : Int) then (some ((bt a1 (a0.size : Int)) == 47)) else (none)) else (some false)) else (none)) else (none)) else (some false)))) = some r := h
 clear h
 by_cases c3 : a0.toList = a1.toList
 ·rw [if_pos c3] at H
  have c3b0 : (a0.toList == a1.toList) = true := beq_iff_eq.mpr c3
  have c3b1 : (a0.toList != a1.toList) = false := bne_eq_false_iff_eq.mpr c3
  clear c3
  obtain rfl := Option.some.inj H
  go_enter Tryz.func43, Tryz.ntmps43
  go_wp2
  go_ret
  exact ⟨by first | rfl | (simp; done) | (simp [*]; done), by repeat (first | exact Drawn0.refl _ | apply Drawn0.step)⟩
 ·rw [if_neg c3] at H
  have c3b0 : (a0.toList == a1.toList) = false := beq_eq_false_iff_ne.mpr c3
  have c3b1 : (a0.toList != a1.toList) = true := bne_iff_ne.mpr c3
  by_cases c4 : a0.toList = ([] : List UInt8)
  ·rw [if_pos c4] at H
   have c4b0 : (a0.toList == ([] : List UInt8)) = true := beq_iff_eq.mpr c4
   have c4b1 : (a0.toList != ([] : List UInt8)) = false := bne_eq_false_iff_eq.mpr c4
   clear c4
   obtain rfl := Option.some.inj H
   go_enter Tryz.func43, Tryz.ntmps43
   go_wp2
   go_ret
   exact ⟨by first | rfl | (simp; done) | (simp [*]; done), by repeat (first | exact Drawn0.refl _ | apply Drawn0.step)⟩
  ·rw [if_neg c4] at H
   have c4b0 : (a0.toList == ([] : List UInt8)) = false := beq_eq_false_iff_ne.mpr c4
   have c4b1 : (a0.toList != ([] : List UInt8)) = true := bne_iff_ne.mpr c4
   by_cases c5 : (a1.size : Int) > (a0.size : Int)
   ·rw [if_pos c5] at H
    have c5b0 := decide_eq_true c5
    have c5b1 : decide (a0.size < a1.size) = true := decide_eq_true (Int.ofNat_lt.mp c5)
    clear c5
    by_cases c6 : 0 ≤ (a0.size : Int)
    ·rw [if_pos c6] at H
     have c6b0 := eq_true c6
     have c6b1 := decide_eq_true c6
     clear c6
     by_cases c7 : (a0.size : Int) ≤ (a1.size : Int)
     ·rw [if_pos c7] at H
      have c7b0 := eq_true c7
      have c7b1 := decide_eq_true c7
      clear c7
      by_cases c8 : (a1.extract 0 ((a0.size : Int) : Int).toNat).toList = a0.toList
      ·rw [if_pos c8] at H
       have c8b0 : ((a1.extract 0 a0.size).toList == a0.toList) = true := beq_iff_eq.mpr c8
       have c8b1 : ((a1.extract 0 a0.size).toList != a0.toList) = false := bne_eq_false_iff_eq.mpr c8
       clear c8
       by_cases c9 : (a0.size : Int) < (a1.size : Int)
       ·rw [if_pos c9] at H
        have c9b0 := decide_eq_true c9
        have c9b1 : decide (a0.size < a1.size) = true := decide_eq_true (Int.ofNat_lt.mp c9)
        clear c9
        obtain rfl := Option.some.inj H
        have p10 : 0 ≤ ((a0.size : Int) : Int) := of_decide_eq_true (by first | (with_reducible assumption) | assumption)
        have q10 : (a0.size : Int) < (a1.size : Int) := of_decide_eq_true (by first | (with_reducible assumption) | assumption)
        have hx10 : ∀ h : a0.size < a1.size, ((a1[a0.size]'h).toNat : Int) = bt a1 (a0.size : Int) := bt_at a1 (a0.size : Int)
        replace p10 := eq_true p10
        replace q10 := eq_true q10
        go_enter Tryz.func43, Tryz.ntmps43
        go_wp2
        go_ret
        exact ⟨by first | rfl | (simp; done) | (simp [*]; done), by repeat (first | exact Drawn0.refl _ | apply Drawn0.step)⟩
       ·rw [if_neg c9] at H
        exact absurd H (by simp)
      ·rw [if_neg c8] at H
       have c8b0 : ((a1.extract 0 a0.size).toList == a0.toList) = false := beq_eq_false_iff_ne.mpr c8
       have c8b1 : ((a1.extract 0 a0.size).toList != a0.toList) = true := bne_iff_ne.mpr c8
       obtain rfl := Option.some.inj H
       go_enter Tryz.func43, Tryz.ntmps43
       go_wp2
       go_ret
       exact ⟨by first | rfl | (simp; done) | (simp [*]; done), by repeat (first | exact Drawn0.refl _ | apply Drawn0.step)⟩
     ·rw [if_neg c7] at H
      exact absurd H (by simp)
    ·rw [if_neg c6] at H
     exact absurd H (by simp)
   ·rw [if_neg c5] at H
    have c5b0 := decide_eq_false c5
    have c5b1 : decide (a0.size < a1.size) = false := decide_eq_false (fun h => c5 (Int.ofNat_lt.mpr h))
    clear c5
    obtain rfl := Option.some.inj H
    go_enter Tryz.func43, Tryz.ntmps43
    go_wp2
    go_ret
    exact ⟨by first | rfl | (simp; done) | (simp [*]; done), by repeat (first | exact Drawn0.refl _ | apply Drawn0.step)⟩
end Go.Proofs.YtdfkaclflmgkeaaGreatDoor.PAll
