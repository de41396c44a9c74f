/- What functions of the program compute, each with its walk: a contract for every world and every argument of the kind told. -/
import Derived.Test.YtdfkaclflmgkeaaDoorCaPAllx0
import Derived.WalkMore
import Derived.Test.YtdfkaclflmgkeaaDoorCaPAlly2
import Derived.Test.YtdfkaclflmgkeaaDoorCaHandA
import Derived.Test.YtdfkaclflmgkeaaDoorCaShelf
import Derived.Sort.Grow
import Derived.Shelf.Abstract
namespace Go.Proofs.YtdfkaclflmgkeaaDoor.PAll
open Go.RowKit Go.Proofs.YtdfkaclflmgkeaaDoorW.PrintWords Go.Proofs.YtdfkaclflmgkeaaDoorW.PrintLast Go.Proofs.YtdfkaclflmgkeaaDoorW.PrintMore
attribute [local go_sem] max2_int min2_int max_two min_two max_three min_three max_four min_four
set_option linter.unusedVariables false
set_option linter.unusedSimpArgs false
def path_common.l0 : Nat → List ByteArray → List ByteArray → Int → Option (Int)
 | 0, _, _, _ => none
 | k + 1, x0, x1, x5 => if x5 < (x0.length : Int) then (if x5 = (x1.length : Int) then (some x5) else (if 0 ≤ x5 then (if x5 < (x1.length : Int) then (if (rdOf ByteArray.empty x0 x5).toList = (rdOf ByteArray.empty x1 x5).toList then (path_common.l0 k x0 x1 (wrap64 (x5 + 1))) else (some x5)) else (none)) else (none))) else (some x5)
def path_common.f (k : Nat) (l0 : List ByteArray) (l1 : List ByteArray) : Option (Int) := path_common.l0 k l0 l1 0
theorem path_common.mono_l : ∀ k, (∀ y0 y1 y2, LeO (path_common.l0 k y0 y1 y2) (path_common.l0 (k + 1) y0 y1 y2))
 | 0 => fun _ _ _ r h => by simp [path_common.l0] at h
 | k + 1 => by
  have ih0 := path_common.mono_l k
  ·intro y0 y1 y2
   unfold path_common.l0
   repeat' first
   | (with_reducible exact ih0 _ _ _)
   | (with_reducible exact LeO.refl _)
   | (with_reducible exact LeO.none _)
   | (with_reducible refine LeO.ite ?_ ?_)
   | (with_reducible refine LeO.bind ?_ (fun _ => ?_))
   | exact ih0 _ _ _
   | exact LeO.none _
   | refine LeO.ite ?_ ?_
   | refine LeO.bind ?_ (fun _ => ?_)
theorem path_common.mono : ∀ a0 a1 k, LeO (path_common.f k a0 a1) (path_common.f (k + 1) a0 a1) := by
 intro a0 a1 k
 have ih0 := path_common.mono_l k
 unfold path_common.f
 repeat' first
   | (with_reducible exact ih0 _ _ _)
   | (with_reducible exact LeO.refl _)
   | (with_reducible exact LeO.none _)
   | (with_reducible refine LeO.ite ?_ ?_)
   | (with_reducible refine LeO.bind ?_ (fun _ => ?_))
   | exact ih0 _ _ _
   | exact LeO.none _
   | refine LeO.ite ?_ ?_
   | refine LeO.bind ?_ (fun _ => ?_)
set_option maxHeartbeats 8000000 in
set_option maxRecDepth 100000 in
theorem path_common.calls (k : Nat) (A0 : Option Addr) (c0 : Nat) (l0 : List ByteArray) (A1 : Option Addr) (c1 : Nat) (l1 : List ByteArray) (r : Int) (w : World) (hr0 : Kd.C Kd.string w A0 l0.length l0) (hc0 : l0.length ≤ c0) (hr1 : Kd.C Kd.string w A1 l1.length l1) (hc1 : l1.length ≤ c1) (h : path_common.f k l0 l1 = some r) :
  Calls Tryd.prog 55 #[.slice A0 l0.length c0, .slice A1 l1.length c1] w fun e w' => e = .returned (.int .i64 r) ∧ Drawn0 w w' := by
 have HR0 := Aside0.mk hr0
 have HC0 := Aside0.mk hc0
 clear hr0 hc0
 have HR1 := Aside0.mk hr1
 have HC1 := Aside0.mk hc1
 clear hr1 hc1
 have H : (path_common.l0 k l0 l1 0) = some r := h
 clear h
 have H' := Aside0.mk H
 clear H
 go_enter Tryd.func55, Tryd.ntmps55
 go_wp2
 go_step3
 go_wp2
 go_step3
 go_wp2
 repeat (go_quiet (fail); try go_wp2)
 go_loopg [5] k (fun kq v5 w' => ∃ (x5_1 : Int), v5 = .int .i64 x5_1 ∧ Aside0 (path_common.l0 kq l0 l1 x5_1 = some r) ∧ Aside0 (kq ≤ k) ∧ Drawn0 w w')
 case atStart => exact ⟨(0), (by first | rfl | (simp; done) | (simp [*]; done)), H', ⟨Nat.le_refl _⟩, by repeat (first | exact Drawn0.refl _ | apply Drawn0.step)⟩
 case round =>
  clear H'
  try clear c1
  try clear p2
  obtain ⟨x5_1, rfl, HA, HK1, ⟨m1, rfl⟩⟩ := hrel
  cases gk with
  | zero => exact absurd HA.out (by simp [path_common.l0])
  | succ k1 =>
   have H := HA.out
   clear HA
   simp only [path_common.l0] at H
   by_cases c3 : x5_1 < (l0.length : Int)
   ·rw [if_pos c3] at H
    have c3b0 : decide (x5_1 < (l0.length : Int)) = true := decide_eq_true c3
    clear c3
    by_cases c4 : x5_1 = (l1.length : Int)
    ·rw [if_pos c4] at H
     have c4b0 : (x5_1 == (l1.length : Int)) = true := beq_iff_eq.mpr c4
     have c4b1 : (x5_1 != (l1.length : Int)) = false := bne_eq_false_iff_eq.mpr c4
     clear c4
     obtain rfl := Option.some.inj H
     go_wp2
     repeat (go_quiet (fail); try go_wp2)
     (try rw [Exit.noGoto_ret])
     go_ret
     exact ⟨by first | rfl | (simp; done) | (simp [*]; done), by repeat (first | exact Drawn0.refl _ | apply Drawn0.step)⟩
    ·rw [if_neg c4] at H
     have c4b0 : (x5_1 == (l1.length : Int)) = false := beq_eq_false_iff_ne.mpr c4
     have c4b1 : (x5_1 != (l1.length : Int)) = true := bne_iff_ne.mpr c4
     by_cases c5 : 0 ≤ x5_1
     ·rw [if_pos c5] at H
      have c5b0 : decide (0 ≤ x5_1) = true := decide_eq_true c5
      clear c5
      by_cases c6 : x5_1 < (l1.length : Int)
      ·rw [if_pos c6] at H
       have c6b0 : decide (x5_1 < (l1.length : Int)) = true := decide_eq_true c6
       clear c6
       by_cases c7 : (rdOf ByteArray.empty l0 x5_1).toList = (rdOf ByteArray.empty l1 x5_1).toList
       ·rw [if_pos c7] at H
        have c7b0 : ((rdOf ByteArray.empty l0 x5_1).toList == (rdOf ByteArray.empty l1 x5_1).toList) = true := beq_iff_eq.mpr c7
        have c7b1 : ((rdOf ByteArray.empty l0 x5_1).toList != (rdOf ByteArray.empty l1 x5_1).toList) = false := bne_eq_false_iff_eq.mpr c7
        clear c7
        have H' := Aside0.mk H
        clear H
        have p153 : 0 ≤ (x5_1 : Int) := of_decide_eq_true (by first | (with_reducible assumption) | assumption)
        have q153 : x5_1 < (l0.length : Int) := of_decide_eq_true (by first | (with_reducible assumption) | assumption)
        obtain ⟨ad153, e153, hx153_0⟩ := Kd.at_string HR0.out x5_1 p153 q153
        cases e153
        replace p153 := eq_true p153
        replace q153 := eq_true q153
        have p154 : 0 ≤ (x5_1 : Int) := of_decide_eq_true (by first | (with_reducible assumption) | assumption)
        have q154 : x5_1 < (l1.length : Int) := of_decide_eq_true (by first | (with_reducible assumption) | assumption)
        obtain ⟨ad154, e154, hx154_0⟩ := Kd.at_string HR1.out x5_1 p154 q154
        cases e154
        replace p154 := eq_true p154
        replace q154 := eq_true q154
        go_wp2
        repeat (go_quiet (fail); try go_wp2)
        go_roundg k1
        case measure => have := HK1.out; omega
        case rel => exact ⟨(wrap64 (x5_1 + 1)), (by first | rfl | (simp; done) | (simp [*]; done)), H', ⟨by have := HK1.out; omega⟩, by repeat (first | exact Drawn0.refl _ | apply Drawn0.step)⟩
       ·rw [if_neg c7] at H
        have c7b0 : ((rdOf ByteArray.empty l0 x5_1).toList == (rdOf ByteArray.empty l1 x5_1).toList) = false := beq_eq_false_iff_ne.mpr c7
        have c7b1 : ((rdOf ByteArray.empty l0 x5_1).toList != (rdOf ByteArray.empty l1 x5_1).toList) = true := bne_iff_ne.mpr c7
        obtain rfl := Option.some.inj H
        have p153 : 0 ≤ (x5_1 : Int) := of_decide_eq_true (by first | (with_reducible assumption) | assumption)
        have q153 : x5_1 < (l0.length : Int) := of_decide_eq_true (by first | (with_reducible assumption) | assumption)
        obtain ⟨ad153, e153, hx153_0⟩ := Kd.at_string HR0.out x5_1 p153 q153
        cases e153
        replace p153 := eq_true p153
        replace q153 := eq_true q153
        have p154 : 0 ≤ (x5_1 : Int) := of_decide_eq_true (by first | (with_reducible assumption) | assumption)
        have q154 : x5_1 < (l1.length : Int) := of_decide_eq_true (by first | (with_reducible assumption) | assumption)
        obtain ⟨ad154, e154, hx154_0⟩ := Kd.at_string HR1.out x5_1 p154 q154
        cases e154
        replace p154 := eq_true p154
        replace q154 := eq_true q154
        go_wp2
        repeat (go_quiet (fail); try go_wp2)
        (try rw [Exit.noGoto_ret])
        go_ret
        exact ⟨by first | rfl | (simp; done) | (simp [*]; done), by repeat (first | exact Drawn0.refl _ | apply Drawn0.step)⟩
      ·rw [if_neg c6] at H
       exact absurd H (by simp)
     ·rw [if_neg c5] at H
      exact absurd H (by simp)
   ·rw [if_neg c3] at H
    have c3b0 : decide (x5_1 < (l0.length : Int)) = false := decide_eq_false c3
    clear c3
    obtain rfl := Option.some.inj H
    go_wp2
    repeat (go_quiet (fail); try go_wp2)
    (try rw [Exit.noGoto_ret])
    go_ret
    exact ⟨by first | rfl | (simp; done) | (simp [*]; done), by repeat (first | exact Drawn0.refl _ | apply Drawn0.step)⟩
def cmp_isNaN_string.f (a0 : ByteArray) : Option (Bool) := some (a0.toList != a0.toList)
set_option maxHeartbeats 8000000 in
set_option maxRecDepth 100000 in
theorem cmp_isNaN_string.calls (a0 : ByteArray) (r : Bool) (w : World) (h : cmp_isNaN_string.f a0 = some r) :
  Calls Tryd.prog 102 #[.string a0] w fun e w' => e = .returned (.bool r) ∧ Drawn0 w w' := by
 have H : (some (a0.toList != a0.toList)) = some r := h
 clear h
 obtain rfl := Option.some.inj H
 go_enter Tryd.func102, Tryd.ntmps102
 go_wp2
 go_ret
 exact ⟨by first | rfl | (simp; done) | (simp [*]; done), by repeat (first | exact Drawn0.refl _ | apply Drawn0.step)⟩
def cmp_Compare_string.f (a0 : ByteArray) (a1 : ByteArray) : Option (Int) := (cmp_isNaN_string.f a0).bind fun t204 => ((cmp_isNaN_string.f a1).bind fun t205 => (if t204 = true then (if t205 = true then (some 0) else (some (-1))) else (if t205 = true then (some 1) else (if (Op.bytesLess a0.toList a1.toList) = true then (some (-1)) else (if (Op.bytesLess a1.toList a0.toList) = true then (some 1) else (some 0))))))
set_option maxHeartbeats 8000000 in
set_option maxRecDepth 100000 in
theorem cmp_Compare_string.calls (a0 : ByteArray) (a1 : ByteArray) (r : Int) (w : World) (h : cmp_Compare_string.f a0 a1 = some r) :
  Calls Tryd.prog 75 #[.string a0, .string a1] w fun e w' => e = .returned (.int .i64 r) ∧ Drawn0 w w' := by
 have H : ((cmp_isNaN_string.f a0).bind fun t204 => ((cmp_isNaN_string.f a1).bind fun t205 => (if t204 = true then (if t205 = true then (some 0) else (some (-1))) else (if t205 = true then (some 1) else (if (Op.bytesLess a0.toList a1.toList) = true then (some (-1)) else (if (Op.bytesLess a1.toList a0.toList) = true then (some 1) else (some 0))))))) = some r := h
 clear h
 replace H := Option.bind_eq_some_iff.mp H
 obtain ⟨t204, A30, H⟩ := H
 try dsimp only at H
 have A3 := Aside0.mk A30
 clear A30
 replace H := Option.bind_eq_some_iff.mp H
 obtain ⟨t205, A40, H⟩ := H
 try dsimp only at H
 have A4 := Aside0.mk A40
 clear A40
 by_cases c5 : t204 = true
 ·subst c5
  rw [if_pos rfl] at H
  have H1 := H
  clear H
  have H := H1
  clear H1
  by_cases c6 : t205 = true
  ·subst c6
   rw [if_pos rfl] at H
   have H1 := H
   clear H
   have H := H1
   clear H1
   obtain rfl := Option.some.inj H
   go_enter Tryd.func75, Tryd.ntmps75
   go_wp2_with (first | ((with_reducible refine gate_callee (f := 102) rfl ?_); refine goesL_ (some 8) rfl rfl Tryd.func102 (by kernel_rfl) rfl #[.string a0] rfl (by (try simp only [List.map_toArray, List.map_cons, List.map_nil]); first | done | rfl | (simp only [List.length_drop, List.length_take]; rfl)) ?_; (with_reducible refine (cmp_isNaN_string.calls a0 true _ A3.out).mono ?_); rintro e w' ⟨rfl, ⟨nd, rfl⟩⟩; refine ⟨_, rfl, ?_⟩) | ((with_reducible refine gate_callee (f := 102) rfl ?_); refine goesL_ (some 10) rfl rfl Tryd.func102 (by kernel_rfl) rfl #[.string a1] rfl (by (try simp only [List.map_toArray, List.map_cons, List.map_nil]); first | done | rfl | (simp only [List.length_drop, List.length_take]; rfl)) ?_; (with_reducible refine (cmp_isNaN_string.calls a1 true _ A4.out).mono ?_); rintro e w' ⟨rfl, ⟨nd, rfl⟩⟩; refine ⟨_, rfl, ?_⟩))
   go_ret
   exact ⟨by first | rfl | (simp; done) | (simp [*]; done), by repeat (first | exact Drawn0.refl _ | apply Drawn0.step)⟩
  ·replace c6 := Bool.eq_false_iff.mpr c6
   subst c6
   have H1 : (some (-1)) = some r := by rw [if_neg (show ¬ (false = true) by decide)] at H; exact H
   clear H
   have H := H1
   clear H1
   obtain rfl := Option.some.inj H
   go_enter Tryd.func75, Tryd.ntmps75
   go_wp2_with (first | ((with_reducible refine gate_callee (f := 102) rfl ?_); refine goesL_ (some 8) rfl rfl Tryd.func102 (by kernel_rfl) rfl #[.string a0] rfl (by (try simp only [List.map_toArray, List.map_cons, List.map_nil]); first | done | rfl | (simp only [List.length_drop, List.length_take]; rfl)) ?_; (with_reducible refine (cmp_isNaN_string.calls a0 true _ A3.out).mono ?_); rintro e w' ⟨rfl, ⟨nd, rfl⟩⟩; refine ⟨_, rfl, ?_⟩) | ((with_reducible refine gate_callee (f := 102) rfl ?_); refine goesL_ (some 10) rfl rfl Tryd.func102 (by kernel_rfl) rfl #[.string a1] rfl (by (try simp only [List.map_toArray, List.map_cons, List.map_nil]); first | done | rfl | (simp only [List.length_drop, List.length_take]; rfl)) ?_; (with_reducible refine (cmp_isNaN_string.calls a1 false _ A4.out).mono ?_); rintro e w' ⟨rfl, ⟨nd, rfl⟩⟩; refine ⟨_, rfl, ?_⟩))
   go_ret
   exact ⟨by first | rfl | (simp; done) | (simp [*]; done), by repeat (first | exact Drawn0.refl _ | apply Drawn0.step)⟩
 ·replace c5 := Bool.eq_false_iff.mpr c5
  subst c5
  have H1 : (if t205 = true then (some 1) else (if (Op.bytesLess a0.toList a1.toList) = true then (some (-1)) else (if (Op.bytesLess a1.toList a0.toList) = true then (some 1) else (some 0)))) = some r := by rw [if_neg (show ¬ (false = true) by decide)] at H; exact H
  clear H
  have H := H1
  clear H1
  by_cases c7 : t205 = true
  ·subst c7
   rw [if_pos rfl] at H
   have H1 := H
   clear H
   have H := H1
   clear H1
   obtain rfl := Option.some.inj H
   go_enter Tryd.func75, Tryd.ntmps75
   go_wp2_with (first | ((with_reducible refine gate_callee (f := 102) rfl ?_); refine goesL_ (some 8) rfl rfl Tryd.func102 (by kernel_rfl) rfl #[.string a0] rfl (by (try simp only [List.map_toArray, List.map_cons, List.map_nil]); first | done | rfl | (simp only [List.length_drop, List.length_take]; rfl)) ?_; (with_reducible refine (cmp_isNaN_string.calls a0 false _ A3.out).mono ?_); rintro e w' ⟨rfl, ⟨nd, rfl⟩⟩; refine ⟨_, rfl, ?_⟩) | ((with_reducible refine gate_callee (f := 102) rfl ?_); refine goesL_ (some 10) rfl rfl Tryd.func102 (by kernel_rfl) rfl #[.string a1] rfl (by (try simp only [List.map_toArray, List.map_cons, List.map_nil]); first | done | rfl | (simp only [List.length_drop, List.length_take]; rfl)) ?_; (with_reducible refine (cmp_isNaN_string.calls a1 true _ A4.out).mono ?_); rintro e w' ⟨rfl, ⟨nd, rfl⟩⟩; refine ⟨_, rfl, ?_⟩))
   go_ret
   exact ⟨by first | rfl | (simp; done) | (simp [*]; done), by repeat (first | exact Drawn0.refl _ | apply Drawn0.step)⟩
  ·replace c7 := Bool.eq_false_iff.mpr c7
   subst c7
   have H1 : (if (Op.bytesLess a0.toList a1.toList) = true then (some (-1)) else (if (Op.bytesLess a1.toList a0.toList) = true then (some 1) else (some 0))) = some r := by rw [if_neg (show ¬ (false = true) by decide)] at H; exact H
   clear H
   have H := H1
   clear H1
   by_cases c8 : (Op.bytesLess a0.toList a1.toList) = true
   ·rw [if_pos c8] at H
    have c8b0 : (Op.bytesLess a0.toList a1.toList) = true := c8
    clear c8
    obtain rfl := Option.some.inj H
    go_enter Tryd.func75, Tryd.ntmps75
    go_wp2_with (first | ((with_reducible refine gate_callee (f := 102) rfl ?_); refine goesL_ (some 8) rfl rfl Tryd.func102 (by kernel_rfl) rfl #[.string a0] rfl (by (try simp only [List.map_toArray, List.map_cons, List.map_nil]); first | done | rfl | (simp only [List.length_drop, List.length_take]; rfl)) ?_; (with_reducible refine (cmp_isNaN_string.calls a0 false _ A3.out).mono ?_); rintro e w' ⟨rfl, ⟨nd, rfl⟩⟩; refine ⟨_, rfl, ?_⟩) | ((with_reducible refine gate_callee (f := 102) rfl ?_); refine goesL_ (some 10) rfl rfl Tryd.func102 (by kernel_rfl) rfl #[.string a1] rfl (by (try simp only [List.map_toArray, List.map_cons, List.map_nil]); first | done | rfl | (simp only [List.length_drop, List.length_take]; rfl)) ?_; (with_reducible refine (cmp_isNaN_string.calls a1 false _ A4.out).mono ?_); rintro e w' ⟨rfl, ⟨nd, rfl⟩⟩; refine ⟨_, rfl, ?_⟩))
    go_ret
    exact ⟨by first | rfl | (simp; done) | (simp [*]; done), by repeat (first | exact Drawn0.refl _ | apply Drawn0.step)⟩
   ·rw [if_neg c8] at H
    have c8b0 : (Op.bytesLess a0.toList a1.toList) = false := by simpa using c8
    clear c8
    by_cases c9 : (Op.bytesLess a1.toList a0.toList) = true
    ·rw [if_pos c9] at H
     have c9b0 : (Op.bytesLess a1.toList a0.toList) = true := c9
     have c9b9 : (a0.toList == a1.toList) = false := Go.Proofs.YtdfkaclflmgkeaaDoor.Sp.gt_ne c8b0 c9b0
     clear c9
     obtain rfl := Option.some.inj H
     go_enter Tryd.func75, Tryd.ntmps75
     go_wp2_with (first | ((with_reducible refine gate_callee (f := 102) rfl ?_); refine goesL_ (some 8) rfl rfl Tryd.func102 (by kernel_rfl) rfl #[.string a0] rfl (by (try simp only [List.map_toArray, List.map_cons, List.map_nil]); first | done | rfl | (simp only [List.length_drop, List.length_take]; rfl)) ?_; (with_reducible refine (cmp_isNaN_string.calls a0 false _ A3.out).mono ?_); rintro e w' ⟨rfl, ⟨nd, rfl⟩⟩; refine ⟨_, rfl, ?_⟩) | ((with_reducible refine gate_callee (f := 102) rfl ?_); refine goesL_ (some 10) rfl rfl Tryd.func102 (by kernel_rfl) rfl #[.string a1] rfl (by (try simp only [List.map_toArray, List.map_cons, List.map_nil]); first | done | rfl | (simp only [List.length_drop, List.length_take]; rfl)) ?_; (with_reducible refine (cmp_isNaN_string.calls a1 false _ A4.out).mono ?_); rintro e w' ⟨rfl, ⟨nd, rfl⟩⟩; refine ⟨_, rfl, ?_⟩))
     go_ret
     exact ⟨by first | rfl | (simp; done) | (simp [*]; done), by repeat (first | exact Drawn0.refl _ | apply Drawn0.step)⟩
    ·rw [if_neg c9] at H
     have c9b0 : (Op.bytesLess a1.toList a0.toList) = false := by simpa using c9
     have c9b9 : (a0.toList == a1.toList) = true := Go.Proofs.YtdfkaclflmgkeaaDoor.Sp.gt_eq c8b0 c9b0
     clear c9
     obtain rfl := Option.some.inj H
     go_enter Tryd.func75, Tryd.ntmps75
     go_wp2_with (first | ((with_reducible refine gate_callee (f := 102) rfl ?_); refine goesL_ (some 8) rfl rfl Tryd.func102 (by kernel_rfl) rfl #[.string a0] rfl (by (try simp only [List.map_toArray, List.map_cons, List.map_nil]); first | done | rfl | (simp only [List.length_drop, List.length_take]; rfl)) ?_; (with_reducible refine (cmp_isNaN_string.calls a0 false _ A3.out).mono ?_); rintro e w' ⟨rfl, ⟨nd, rfl⟩⟩; refine ⟨_, rfl, ?_⟩) | ((with_reducible refine gate_callee (f := 102) rfl ?_); refine goesL_ (some 10) rfl rfl Tryd.func102 (by kernel_rfl) rfl #[.string a1] rfl (by (try simp only [List.map_toArray, List.map_cons, List.map_nil]); first | done | rfl | (simp only [List.length_drop, List.length_take]; rfl)) ?_; (with_reducible refine (cmp_isNaN_string.calls a1 false _ A4.out).mono ?_); rintro e w' ⟨rfl, ⟨nd, rfl⟩⟩; refine ⟨_, rfl, ?_⟩))
     go_ret
     exact ⟨by first | rfl | (simp; done) | (simp [*]; done), by repeat (first | exact Drawn0.refl _ | apply Drawn0.step)⟩
def cmp_isNaN_int.f (a0 : Int) : Option (Bool) := some (a0 != a0)
set_option maxHeartbeats 8000000 in
set_option maxRecDepth 100000 in
theorem cmp_isNaN_int.calls (a0 : Int) (r : Bool) (w : World) (h : cmp_isNaN_int.f a0 = some r) :
  Calls Tryd.prog 103 #[.int .i64 a0] w fun e w' => e = .returned (.bool r) ∧ Drawn0 w w' := by
 have H : (some (a0 != a0)) = some r := h
 clear h
 obtain rfl := Option.some.inj H
 go_enter Tryd.func103, Tryd.ntmps103
 go_wp2
 go_ret
 exact ⟨by first | rfl | (simp; done) | (simp [*]; done), by repeat (first | exact Drawn0.refl _ | apply Drawn0.step)⟩
def cmp_Compare_int.f (a0 : Int) (a1 : Int) : Option (Int) := (cmp_isNaN_int.f a0).bind fun t206 => ((cmp_isNaN_int.f a1).bind fun t207 => (if t206 = true then (if t207 = true then (some 0) else (some (-1))) else (if t207 = true then (some 1) else (if a0 < a1 then (some (-1)) else (if a0 > a1 then (some 1) else (some 0))))))
set_option maxHeartbeats 8000000 in
set_option maxRecDepth 100000 in
theorem cmp_Compare_int.calls (a0 : Int) (a1 : Int) (r : Int) (w : World) (h : cmp_Compare_int.f a0 a1 = some r) :
  Calls Tryd.prog 76 #[.int .i64 a0, .int .i64 a1] w fun e w' => e = .returned (.int .i64 r) ∧ Drawn0 w w' := by
 have H : ((cmp_isNaN_int.f a0).bind fun t206 => ((cmp_isNaN_int.f a1).bind fun t207 => (if t206 = true then (if t207 = true then (some 0) else (some (-1))) else (if t207 = true then (some 1) else (if a0 < a1 then (some (-1)) else (if a0 > a1 then (some 1) else (some 0))))))) = some r := h
 clear h
 replace H := Option.bind_eq_some_iff.mp H
 obtain ⟨t206, A30, H⟩ := H
 try dsimp only at H
 have A3 := Aside0.mk A30
 clear A30
 replace H := Option.bind_eq_some_iff.mp H
 obtain ⟨t207, A40, H⟩ := H
 try dsimp only at H
 have A4 := Aside0.mk A40
 clear A40
 by_cases c5 : t206 = true
 ·subst c5
  rw [if_pos rfl] at H
  have H1 := H
  clear H
  have H := H1
  clear H1
  by_cases c6 : t207 = true
  ·subst c6
   rw [if_pos rfl] at H
   have H1 := H
   clear H
   have H := H1
   clear H1
   obtain rfl := Option.some.inj H
   go_enter Tryd.func76, Tryd.ntmps76
   go_wp2_with (first | ((with_reducible refine gate_callee (f := 103) rfl ?_); refine goesL_ (some 8) rfl rfl Tryd.func103 (by kernel_rfl) rfl #[.int .i64 a0] rfl (by (try simp only [List.map_toArray, List.map_cons, List.map_nil]); first | done | rfl | (simp only [List.length_drop, List.length_take]; rfl)) ?_; (with_reducible refine (cmp_isNaN_int.calls a0 true _ A3.out).mono ?_); rintro e w' ⟨rfl, ⟨nd, rfl⟩⟩; refine ⟨_, rfl, ?_⟩) | ((with_reducible refine gate_callee (f := 103) rfl ?_); refine goesL_ (some 10) rfl rfl Tryd.func103 (by kernel_rfl) rfl #[.int .i64 a1] rfl (by (try simp only [List.map_toArray, List.map_cons, List.map_nil]); first | done | rfl | (simp only [List.length_drop, List.length_take]; rfl)) ?_; (with_reducible refine (cmp_isNaN_int.calls a1 true _ A4.out).mono ?_); rintro e w' ⟨rfl, ⟨nd, rfl⟩⟩; refine ⟨_, rfl, ?_⟩))
   go_ret
   exact ⟨by first | rfl | (simp; done) | (simp [*]; done), by repeat (first | exact Drawn0.refl _ | apply Drawn0.step)⟩
  ·replace c6 := Bool.eq_false_iff.mpr c6
   subst c6
   have H1 : (some (-1)) = some r := by rw [if_neg (show ¬ (false = true) by decide)] at H; exact H
   clear H
   have H := H1
   clear H1
   obtain rfl := Option.some.inj H
   go_enter Tryd.func76, Tryd.ntmps76
   go_wp2_with (first | ((with_reducible refine gate_callee (f := 103) rfl ?_); refine goesL_ (some 8) rfl rfl Tryd.func103 (by kernel_rfl) rfl #[.int .i64 a0] rfl (by (try simp only [List.map_toArray, List.map_cons, List.map_nil]); first | done | rfl | (simp only [List.length_drop, List.length_take]; rfl)) ?_; (with_reducible refine (cmp_isNaN_int.calls a0 true _ A3.out).mono ?_); rintro e w' ⟨rfl, ⟨nd, rfl⟩⟩; refine ⟨_, rfl, ?_⟩) | ((with_reducible refine gate_callee (f := 103) rfl ?_); refine goesL_ (some 10) rfl rfl Tryd.func103 (by kernel_rfl) rfl #[.int .i64 a1] rfl (by (try simp only [List.map_toArray, List.map_cons, List.map_nil]); first | done | rfl | (simp only [List.length_drop, List.length_take]; rfl)) ?_; (with_reducible refine (cmp_isNaN_int.calls a1 false _ A4.out).mono ?_); rintro e w' ⟨rfl, ⟨nd, rfl⟩⟩; refine ⟨_, rfl, ?_⟩))
   go_ret
   exact ⟨by first | rfl | (simp; done) | (simp [*]; done), by repeat (first | exact Drawn0.refl _ | apply Drawn0.step)⟩
 ·replace c5 := Bool.eq_false_iff.mpr c5
  subst c5
  have H1 : (if t207 = true then (some 1) else (if a0 < a1 then (some (-1)) else (if a0 > a1 then (some 1) else (some 0)))) = some r := by rw [if_neg (show ¬ (false = true) by decide)] at H; exact H
  clear H
  have H := H1
  clear H1
  by_cases c7 : t207 = true
  ·subst c7
   rw [if_pos rfl] at H
   have H1 := H
   clear H
   have H := H1
   clear H1
   obtain rfl := Option.some.inj H
   go_enter Tryd.func76, Tryd.ntmps76
   go_wp2_with (first | ((with_reducible refine gate_callee (f := 103) rfl ?_); refine goesL_ (some 8) rfl rfl Tryd.func103 (by kernel_rfl) rfl #[.int .i64 a0] rfl (by (try simp only [List.map_toArray, List.map_cons, List.map_nil]); first | done | rfl | (simp only [List.length_drop, List.length_take]; rfl)) ?_; (with_reducible refine (cmp_isNaN_int.calls a0 false _ A3.out).mono ?_); rintro e w' ⟨rfl, ⟨nd, rfl⟩⟩; refine ⟨_, rfl, ?_⟩) | ((with_reducible refine gate_callee (f := 103) rfl ?_); refine goesL_ (some 10) rfl rfl Tryd.func103 (by kernel_rfl) rfl #[.int .i64 a1] rfl (by (try simp only [List.map_toArray, List.map_cons, List.map_nil]); first | done | rfl | (simp only [List.length_drop, List.length_take]; rfl)) ?_; (with_reducible refine (cmp_isNaN_int.calls a1 true _ A4.out).mono ?_); rintro e w' ⟨rfl, ⟨nd, rfl⟩⟩; refine ⟨_, rfl, ?_⟩))
   go_ret
   exact ⟨by first | rfl | (simp; done) | (simp [*]; done), by repeat (first | exact Drawn0.refl _ | apply Drawn0.step)⟩
  ·replace c7 := Bool.eq_false_iff.mpr c7
   subst c7
   have H1 : (if a0 < a1 then (some (-1)) else (if a0 > a1 then (some 1) else (some 0))) = some r := by rw [if_neg (show ¬ (false = true) by decide)] at H; exact H
   clear H
   have H := H1
   clear H1
   by_cases c8 : a0 < a1
   ·rw [if_pos c8] at H
    have c8b0 : decide (a0 < a1) = true := decide_eq_true c8
    clear c8
    obtain rfl := Option.some.inj H
    go_enter Tryd.func76, Tryd.ntmps76
    go_wp2_with (first | ((with_reducible refine gate_callee (f := 103) rfl ?_); refine goesL_ (some 8) rfl rfl Tryd.func103 (by kernel_rfl) rfl #[.int .i64 a0] rfl (by (try simp only [List.map_toArray, List.map_cons, List.map_nil]); first | done | rfl | (simp only [List.length_drop, List.length_take]; rfl)) ?_; (with_reducible refine (cmp_isNaN_int.calls a0 false _ A3.out).mono ?_); rintro e w' ⟨rfl, ⟨nd, rfl⟩⟩; refine ⟨_, rfl, ?_⟩) | ((with_reducible refine gate_callee (f := 103) rfl ?_); refine goesL_ (some 10) rfl rfl Tryd.func103 (by kernel_rfl) rfl #[.int .i64 a1] rfl (by (try simp only [List.map_toArray, List.map_cons, List.map_nil]); first | done | rfl | (simp only [List.length_drop, List.length_take]; rfl)) ?_; (with_reducible refine (cmp_isNaN_int.calls a1 false _ A4.out).mono ?_); rintro e w' ⟨rfl, ⟨nd, rfl⟩⟩; refine ⟨_, rfl, ?_⟩))
    go_ret
    exact ⟨by first | rfl | (simp; done) | (simp [*]; done), by repeat (first | exact Drawn0.refl _ | apply Drawn0.step)⟩
   ·rw [if_neg c8] at H
    have c8b0 : decide (a0 < a1) = false := decide_eq_false c8
    clear c8
    by_cases c9 : a0 > a1
    ·rw [if_pos c9] at H
     have c9b0 : decide (a1 < a0) = true := decide_eq_true c9
     clear c9
     obtain rfl := Option.some.inj H
     go_enter Tryd.func76, Tryd.ntmps76
     go_wp2_with (first | ((with_reducible refine gate_callee (f := 103) rfl ?_); refine goesL_ (some 8) rfl rfl Tryd.func103 (by kernel_rfl) rfl #[.int .i64 a0] rfl (by (try simp only [List.map_toArray, List.map_cons, List.map_nil]); first | done | rfl | (simp only [List.length_drop, List.length_take]; rfl)) ?_; (with_reducible refine (cmp_isNaN_int.calls a0 false _ A3.out).mono ?_); rintro e w' ⟨rfl, ⟨nd, rfl⟩⟩; refine ⟨_, rfl, ?_⟩) | ((with_reducible refine gate_callee (f := 103) rfl ?_); refine goesL_ (some 10) rfl rfl Tryd.func103 (by kernel_rfl) rfl #[.int .i64 a1] rfl (by (try simp only [List.map_toArray, List.map_cons, List.map_nil]); first | done | rfl | (simp only [List.length_drop, List.length_take]; rfl)) ?_; (with_reducible refine (cmp_isNaN_int.calls a1 false _ A4.out).mono ?_); rintro e w' ⟨rfl, ⟨nd, rfl⟩⟩; refine ⟨_, rfl, ?_⟩))
     go_ret
     exact ⟨by first | rfl | (simp; done) | (simp [*]; done), by repeat (first | exact Drawn0.refl _ | apply Drawn0.step)⟩
    ·rw [if_neg c9] at H
     have c9b0 : decide (a1 < a0) = false := decide_eq_false c9
     clear c9
     obtain rfl := Option.some.inj H
     go_enter Tryd.func76, Tryd.ntmps76
     go_wp2_with (first | ((with_reducible refine gate_callee (f := 103) rfl ?_); refine goesL_ (some 8) rfl rfl Tryd.func103 (by kernel_rfl) rfl #[.int .i64 a0] rfl (by (try simp only [List.map_toArray, List.map_cons, List.map_nil]); first | done | rfl | (simp only [List.length_drop, List.length_take]; rfl)) ?_; (with_reducible refine (cmp_isNaN_int.calls a0 false _ A3.out).mono ?_); rintro e w' ⟨rfl, ⟨nd, rfl⟩⟩; refine ⟨_, rfl, ?_⟩) | ((with_reducible refine gate_callee (f := 103) rfl ?_); refine goesL_ (some 10) rfl rfl Tryd.func103 (by kernel_rfl) rfl #[.int .i64 a1] rfl (by (try simp only [List.map_toArray, List.map_cons, List.map_nil]); first | done | rfl | (simp only [List.length_drop, List.length_take]; rfl)) ?_; (with_reducible refine (cmp_isNaN_int.calls a1 false _ A4.out).mono ?_); rintro e w' ⟨rfl, ⟨nd, rfl⟩⟩; refine ⟨_, rfl, ?_⟩))
     go_ret
     exact ⟨by first | rfl | (simp; done) | (simp [*]; done), by repeat (first | exact Drawn0.refl _ | apply Drawn0.step)⟩
def bytealg_LastIndexByteString.l0 : Nat → ByteArray → Int → Int → Option (Int)
 | 0, _, _, _ => none
 | k + 1, x0, x1, x5 => if x5 ≥ 0 then (if 0 ≤ x5 then (if x5 < (x0.size : Int) then (if (bt x0 x5) = x1 then (some x5) else (bytealg_LastIndexByteString.l0 k x0 x1 (wrap64 (x5 - 1)))) else (none)) else (none)) else (some (-1))
def bytealg_LastIndexByteString.f (k : Nat) (a0 : ByteArray) (a1 : Int) : Option (Int) := bytealg_LastIndexByteString.l0 k a0 a1 (wrap64 ((a0.size : Int) - 1))
theorem bytealg_LastIndexByteString.mono_l : ∀ k, (∀ y0 y1 y2, LeO (bytealg_LastIndexByteString.l0 k y0 y1 y2) (bytealg_LastIndexByteString.l0 (k + 1) y0 y1 y2))
 | 0 => fun _ _ _ r h => by simp [bytealg_LastIndexByteString.l0] at h
 | k + 1 => by
  have ih0 := bytealg_LastIndexByteString.mono_l k
  ·intro y0 y1 y2
   unfold bytealg_LastIndexByteString.l0
   repeat' first
   | (with_reducible exact ih0 _ _ _)
   | (with_reducible exact LeO.refl _)
   | (with_reducible exact LeO.none _)
   | (with_reducible refine LeO.ite ?_ ?_)
   | (with_reducible refine LeO.bind ?_ (fun _ => ?_))
   | exact ih0 _ _ _
   | exact LeO.none _
   | refine LeO.ite ?_ ?_
   | refine LeO.bind ?_ (fun _ => ?_)
theorem bytealg_LastIndexByteString.mono : ∀ a0 a1 k, LeO (bytealg_LastIndexByteString.f k a0 a1) (bytealg_LastIndexByteString.f (k + 1) a0 a1) := by
 intro a0 a1 k
 have ih0 := bytealg_LastIndexByteString.mono_l k
 unfold bytealg_LastIndexByteString.f
 repeat' first
   | (with_reducible exact ih0 _ _ _)
   | (with_reducible exact LeO.refl _)
   | (with_reducible exact LeO.none _)
   | (with_reducible refine LeO.ite ?_ ?_)
   | (with_reducible refine LeO.bind ?_ (fun _ => ?_))
   | exact ih0 _ _ _
   | exact LeO.none _
   | refine LeO.ite ?_ ?_
   | refine LeO.bind ?_ (fun _ => ?_)
set_option maxHeartbeats 8000000 in
set_option maxRecDepth 100000 in
theorem bytealg_LastIndexByteString.calls (k : Nat) (a0 : ByteArray) (a1 : Int) (r : Int) (w : World) (h : bytealg_LastIndexByteString.f k a0 a1 = some r) :
  Calls Tryd.prog 78 #[.string a0, .int .u8 a1] w fun e w' => e = .returned (.int .i64 r) ∧ Drawn0 w w' := by
 have H : (bytealg_LastIndexByteString.l0 k a0 a1 (wrap64 ((a0.size : Int) - 1))) = some r := h
 clear h
 have H' := Aside0.mk H
 clear H
 go_enter Tryd.func78, Tryd.ntmps78
 go_wp2
 go_loopg [5] k (fun kq v5 w' => ∃ (x5_1 : Int), v5 = .int .i64 x5_1 ∧ Aside0 (bytealg_LastIndexByteString.l0 kq a0 a1 x5_1 = some r) ∧ Aside0 (kq ≤ k) ∧ Drawn0 w w')
 case atStart => exact ⟨(wrap64 ((a0.size : Int) - 1)), (by first | rfl | (simp; done) | (simp [*]; done)), H', ⟨Nat.le_refl _⟩, by repeat (first | exact Drawn0.refl _ | apply Drawn0.step)⟩
 case round =>
  clear H'
  try clear p2
  obtain ⟨x5_1, rfl, HA, HK1, ⟨m1, rfl⟩⟩ := hrel
  cases gk with
  | zero => exact absurd HA.out (by simp [bytealg_LastIndexByteString.l0])
  | succ k1 =>
   have H := HA.out
   clear HA
   simp only [bytealg_LastIndexByteString.l0] at H
   by_cases c3 : x5_1 ≥ 0
   ·rw [if_pos c3] at H
    have c3b0 : decide (0 ≤ x5_1) = true := decide_eq_true c3
    clear c3
    by_cases c4 : 0 ≤ x5_1
    ·rw [if_pos c4] at H
     have c4b0 : decide (0 ≤ x5_1) = true := decide_eq_true c4
     clear c4
     by_cases c5 : x5_1 < (a0.size : Int)
     ·rw [if_pos c5] at H
      have c5b0 : decide (x5_1 < (a0.size : Int)) = true := decide_eq_true c5
      clear c5
      by_cases c7 : (bt a0 x5_1) = a1
      ·rw [if_pos c7] at H
       have c7b0 : ((bt a0 x5_1) == a1) = true := beq_iff_eq.mpr c7
       have c7b1 : ((bt a0 x5_1) != a1) = false := bne_eq_false_iff_eq.mpr c7
       clear c7
       obtain rfl := Option.some.inj H
       have p6 : 0 ≤ (x5_1 : Int) := of_decide_eq_true (by first | (with_reducible assumption) | assumption)
       have q6 : x5_1 < (a0.size : Int) := of_decide_eq_true (by first | (with_reducible assumption) | assumption)
       have hx6 := bt_at a0 x5_1
       replace p6 := eq_true p6
       replace q6 := eq_true q6
       go_wp2
       go_ret
       exact ⟨by first | rfl | (simp; done) | (simp [*]; done), by repeat (first | exact Drawn0.refl _ | apply Drawn0.step)⟩
      ·rw [if_neg c7] at H
       have c7b0 : ((bt a0 x5_1) == a1) = false := beq_eq_false_iff_ne.mpr c7
       have c7b1 : ((bt a0 x5_1) != a1) = true := bne_iff_ne.mpr c7
       have H' := Aside0.mk H
       clear H
       have p6 : 0 ≤ (x5_1 : Int) := of_decide_eq_true (by first | (with_reducible assumption) | assumption)
       have q6 : x5_1 < (a0.size : Int) := of_decide_eq_true (by first | (with_reducible assumption) | assumption)
       have hx6 := bt_at a0 x5_1
       replace p6 := eq_true p6
       replace q6 := eq_true q6
       go_wp2
       go_roundg k1
       case measure => have := HK1.out; omega
       case rel => exact ⟨(wrap64 (x5_1 - 1)), (by first | rfl | (simp; done) | (simp [*]; done)), H', ⟨by have := HK1.out; omega⟩, by repeat (first | exact Drawn0.refl _ | apply Drawn0.step)⟩
     ·rw [if_neg c5] at H
      exact absurd H (by simp)
    ·rw [if_neg c4] at H
     exact absurd H (by simp)
   ·rw [if_neg c3] at H
    have c3b0 : decide (0 ≤ x5_1) = false := decide_eq_false c3
    clear c3
    obtain rfl := Option.some.inj H
    go_wp2
    go_ret
    exact ⟨by first | rfl | (simp; done) | (simp [*]; done), by repeat (first | exact Drawn0.refl _ | apply Drawn0.step)⟩
def strings_LastIndexByte.f (k : Nat) (a0 : ByteArray) (a1 : Int) : Option (Int) := (bytealg_LastIndexByteString.f k a0 a1).bind fun t267 => (some t267)
theorem strings_LastIndexByte.mono : ∀ a0 a1 k, LeO (strings_LastIndexByte.f k a0 a1) (strings_LastIndexByte.f (k + 1) a0 a1) := by
 intro a0 a1 k
 unfold strings_LastIndexByte.f
 repeat' first
   | (with_reducible exact bytealg_LastIndexByteString.mono _ _ _)
   | (with_reducible exact LeO.refl _)
   | (with_reducible exact LeO.none _)
   | (with_reducible refine LeO.ite ?_ ?_)
   | (with_reducible refine LeO.bind ?_ (fun _ => ?_))
   | exact bytealg_LastIndexByteString.mono _ _ _
   | exact LeO.none _
   | refine LeO.ite ?_ ?_
   | refine LeO.bind ?_ (fun _ => ?_)
set_option maxHeartbeats 8000000 in
set_option maxRecDepth 100000 in
theorem strings_LastIndexByte.calls (k : Nat) (a0 : ByteArray) (a1 : Int) (r : Int) (w : World) (h : strings_LastIndexByte.f k a0 a1 = some r) :
  Calls Tryd.prog 56 #[.string a0, .int .u8 a1] w fun e w' => e = .returned (.int .i64 r) ∧ Drawn0 w w' := by
 have H : ((bytealg_LastIndexByteString.f k a0 a1).bind fun t267 => (some t267)) = some r := h
 clear h
 replace H := Option.bind_eq_some_iff.mp H
 obtain ⟨t267, A30, H⟩ := H
 try dsimp only at H
 have A3 := Aside0.mk A30
 clear A30
 obtain rfl := Option.some.inj H
 go_enter Tryd.func56, Tryd.ntmps56
 go_wp2_with (first | ((with_reducible refine gate_callee (f := 78) rfl ?_); refine goesL_ (some 7) rfl rfl Tryd.func78 (by kernel_rfl) rfl #[.string a0, .int .u8 a1] rfl (by (try simp only [List.map_toArray, List.map_cons, List.map_nil]); first | done | rfl | (simp only [List.length_drop, List.length_take]; rfl)) ?_; (with_reducible refine (bytealg_LastIndexByteString.calls k a0 a1 t267 _ A3.out).mono ?_); rintro e w' ⟨rfl, ⟨nd, rfl⟩⟩; refine ⟨_, rfl, ?_⟩))
 go_ret
 exact ⟨by first | rfl | (simp; done) | (simp [*]; done), by repeat (first | exact Drawn0.refl _ | apply Drawn0.step)⟩
def path_Dir.f (k : Nat) (a0 : ByteArray) : Option (ByteArray) := (strings_LastIndexByte.f k a0 47).bind fun t268 => (if 0 ≤ (mx 0 t268) then (if (mx 0 t268) ≤ (a0.size : Int) then (some (a0.extract 0 ((mx 0 t268) : Int).toNat)) else (none)) else (none))
theorem path_Dir.mono : ∀ a0 k, LeO (path_Dir.f k a0) (path_Dir.f (k + 1) a0) := by
 intro a0 k
 unfold path_Dir.f
 repeat' first
   | (with_reducible exact strings_LastIndexByte.mono _ _ _)
   | (with_reducible exact LeO.refl _)
   | (with_reducible exact LeO.none _)
   | (with_reducible refine LeO.ite ?_ ?_)
   | (with_reducible refine LeO.bind ?_ (fun _ => ?_))
   | exact strings_LastIndexByte.mono _ _ _
   | exact LeO.none _
   | refine LeO.ite ?_ ?_
   | refine LeO.bind ?_ (fun _ => ?_)
set_option maxHeartbeats 8000000 in
set_option maxRecDepth 100000 in
theorem path_Dir.calls (k : Nat) (a0 : ByteArray) (r : ByteArray) (w : World) (h : path_Dir.f k a0 = some r) :
  Calls Tryd.prog 23 #[.string a0] w fun e w' => e = .returned (.string r) ∧ Below w.heap.size w w' := by
 have HB := Aside0.mk (Below.refl w.heap.size w)
 have H : ((strings_LastIndexByte.f k a0 47).bind fun t268 => (if 0 ≤ (mx 0 t268) then (if (mx 0 t268) ≤ (a0.size : Int) then (some (a0.extract 0 ((mx 0 t268) : Int).toNat)) else (none)) else (none))) = some r := h
 clear h
 replace H := Option.bind_eq_some_iff.mp H
 obtain ⟨t268, A20, H⟩ := H
 try dsimp only at H
 have A2 := Aside0.mk A20
 clear A20
 obtain ⟨ji3, hji3⟩ : ∃ j_ : Int, (mx 0 t268) = j_ := ⟨_, rfl⟩
 replace H : (if 0 ≤ (ji3) then (if (ji3) ≤ (a0.size : Int) then (some (a0.extract 0 ((ji3) : Int).toNat)) else (none)) else (none)) = some r := by first | (rw [hji3] at H; exact H) | (simp only [hji3] at H ⊢; exact H)
 (try rw [hji3] at A2)
 (try (have hji3l : 0 ≤ ji3 := by (rw [← hji3]; unfold mx; (repeat' split) <;> omega)))
 (try (have hji3m : 0 ≤ ji3 := by omega))
 have hji3_ : (if 0 < t268 then t268 else 0) = ji3 := hji3
 by_cases c4 : 0 ≤ (ji3)
 ·rw [if_pos c4] at H
  have c4b0 := eq_true c4
  have c4b1 : decide (0 ≤ (ji3)) = true := decide_eq_true c4
  clear c4
  by_cases c5 : (ji3) ≤ (a0.size : Int)
  ·rw [if_pos c5] at H
   have c5b0 := eq_true c5
   have c5b1 : decide ((ji3) ≤ (a0.size : Int)) = true := decide_eq_true c5
   clear c5
   obtain rfl := Option.some.inj H
   go_enter Tryd.func23, Tryd.ntmps23
   go_wp2_with (first | ((with_reducible refine gate_callee (f := 56) rfl ?_); refine goesL_ (some 5) rfl rfl Tryd.func56 (by kernel_rfl) rfl #[.string a0, .int .u8 47] rfl (by (try simp only [List.map_toArray, List.map_cons, List.map_nil]); first | done | rfl | (simp only [List.length_drop, List.length_take]; rfl)) ?_; (with_reducible refine (strings_LastIndexByte.calls k a0 47 t268 _ A2.out).mono ?_); rintro e w' ⟨rfl, ⟨nd, rfl⟩⟩; refine ⟨_, rfl, ?_⟩))
   go_ret
   exact ⟨by first | rfl | (simp [errW_none, errW_some] <;> rfl) | (simp only [← hji3]; first | rfl | (simp [errW_none, errW_some] <;> rfl)) | (simp [*, errW_none, errW_some] <;> rfl), by repeat (first | (with_reducible first | exact HB.out | apply below_alloc | apply pw_below_drewN | apply below_drew1) | exact HB.out)⟩
  ·rw [if_neg c5] at H
   exact absurd H (by simp)
 ·rw [if_neg c4] at H
  exact absurd H (by simp)
end Go.Proofs.YtdfkaclflmgkeaaDoor.PAll
namespace Go.Proofs.YtdfkaclflmgkeaaDoor.PAll
open Go.RowKit Go.Shelf Go.Proofs.YtdfkaclflmgkeaaDoorW.PrintWords Go.Proofs.YtdfkaclflmgkeaaDoorW.PrintLast Go.Proofs.YtdfkaclflmgkeaaDoorW.PrintMore
open Go.Proofs.YtdfkaclflmgkeaaDoor.Sp Go.Sort
def Gr (w w' : World) : Prop := ∃ (q : Nat) (os : Array Obj), w' = grow (w.drewN q) os
theorem Gr.refl (w : World) : Gr w w := ⟨0, #[], by rw [grow_empty]; rfl⟩
theorem Gr.drewN {w w1 : World} (h : Gr w w1) (n : Nat) : Gr w (w1.drewN n) := by
 obtain ⟨q, os, rfl⟩ := h
 exact ⟨q + n, os, by rw [← World.drewN_drewN]; rfl⟩
theorem Gr.drew {w w1 : World} (h : Gr w w1) : Gr w w1.drew := h.drewN 1
theorem Gr.alloc {w w1 : World} (h : Gr w w1) (o : Obj) : Gr w (w1.alloc o) := by
 obtain ⟨q, os, rfl⟩ := h
 exact ⟨q, os ++ #[o], by rw [alloc_eq_grow, grow_grow]⟩
theorem Gr.trans {w w1 w2 : World} (h : Gr w w1) (k : Gr w1 w2) : Gr w w2 := by
 obtain ⟨q, os, rfl⟩ := h
 obtain ⟨q', os', rfl⟩ := k
 refine ⟨q + q', os ++ os', ?_⟩
 rw [← World.drewN_drewN, ← grow_grow]; rfl
theorem Gr.below {w w1 : World} (h : Gr w w1) : Below w.heap.size w w1 := by
 obtain ⟨q, os, rfl⟩ := h
 exact ⟨rfl, rfl, rfl, by simp [World.drewN], fun k hk => heap_grow_old (w.drewN q) os hk⟩
theorem split_gr (a : ByteArray) (hs : a.size < 4294967281) (w : World) :
  Calls Tryd.prog 54 #[.string a] w fun e w' => ∃ v0_ : Value, e = .returned (v0_) ∧ Kd.R Kd.string 9 w' w.heap.size (fun _ => True) v0_ (pB a) ∧ Gr w w' := by
 by_cases hb : bs a = []
 ·rw [pB_nil hb]
  exact (split_nil a w hb).mono fun e w' ⟨he, hw⟩ => by subst hw; exact ⟨_, he, Kd.R_nil _ _ _ _ _, Gr.refl _⟩
 ·exact (split_some a w hb hs).mono fun e w' ⟨he, hw⟩ => by
   subst hw
   exact ⟨_, he, R_strs w _ _ _ _ (Nat.le_refl _) (by have := pB_length_le a; omega) trivial, (Gr.refl _).alloc _⟩
def comL : List ByteArray → List ByteArray → Nat
 | x :: l, y :: m => if x = y then comL l m + 1 else 0
 | _, _ => 0
theorem comL_same (x : ByteArray) (l m : List ByteArray) : comL (x :: l) (x :: m) = comL l m + 1 := by simp [comL]
theorem comL_diff {x y : ByteArray} (h : x ≠ y) (l m : List ByteArray) : comL (x :: l) (y :: m) = 0 := by simp [comL, h]
theorem comL_le : ∀ l m, comL l m ≤ l.length ∧ comL l m ≤ m.length
 | [], _ => by simp [comL]
 | _ :: _, [] => by simp [comL]
 | x :: l, y :: m => by
  have := comL_le l m
  unfold comL
  split
  ·simp only [List.length_cons]; omega
  ·simp
theorem rdOf_drop (l : List ByteArray) (i : Nat) (h : i < l.length) : l.drop i = rdOf ByteArray.empty l (i : Int) :: l.drop (i + 1) := by
 rw [List.drop_eq_getElem_cons h]
 congr 1
 simp [rdOf, List.getD_eq_getElem?_getD, List.getElem?_eq_getElem h]
theorem wrap_succ {i n : Nat} (h : i < n) (hn : n ≤ 4611686018427387904) : wrap64 ((i : Int) + 1) = ((i + 1 : Nat) : Int) := by unfold wrap64; omega
theorem common_runs (l m : List ByteArray) (hl : l.length ≤ 4611686018427387904) (d : Nat) : ∀ (k i : Nat), l.length - i = d → i ≤ l.length → i ≤ m.length → d < k →
  path_common.l0 k l m (i : Int) = some ((i + comL (l.drop i) (m.drop i) : Nat) : Int) := by
 induction d with
 | zero =>
  intro k i hd hi hm hk
  obtain ⟨k, rfl⟩ : ∃ j, k = j + 1 := ⟨k - 1, by omega⟩
  have e : l.drop i = [] := List.drop_of_length_le (by omega)
  simp only [path_common.l0]
  rw [if_neg (by omega), e]; simp [comL]
 | succ d ih =>
  intro k i hd hi hm hk
  obtain ⟨k, rfl⟩ : ∃ j, k = j + 1 := ⟨k - 1, by omega⟩
  simp only [path_common.l0]
  rw [if_pos (by omega)]
  by_cases h1 : i = m.length
  ·rw [if_pos (by omega), List.drop_of_length_le (l := m) (by omega)]
   cases l.drop i <;> simp [comL]
  ·rw [if_neg (by omega), if_pos (by omega), if_pos (by omega), rdOf_drop l i (by omega), rdOf_drop m i (by omega)]
   by_cases h2 : rdOf ByteArray.empty l (i : Int) = rdOf ByteArray.empty m (i : Int)
   ·rw [if_pos (by rw [h2]), wrap_succ (n := l.length) (by omega) hl, ih k (i + 1) (by omega) (by omega) (by omega) (by omega), h2, comL_same]
    congr 2; omega
   ·rw [if_neg (fun h => h2 (bs_inj (by rw [← toList_bs, ← toList_bs]; exact h))), comL_diff h2]; rfl
theorem common_ends (l m : List ByteArray) (hl : l.length ≤ 4611686018427387904) : path_common.f (l.length + 1) l m = some (comL l m : Int) := by
 unfold path_common.f
 have := common_runs l m hl l.length (l.length + 1) 0 (by omega) (by omega) (by omega) (by omega)
 simpa using this
theorem compare_string_is (a b : ByteArray) : cmp_Compare_string.f a b = some (cmpS (bs a) (bs b)) := by
 unfold cmp_Compare_string.f cmp_isNaN_string.f cmpS
 simp only [Option.bind_some, bne_self_eq_false, Bool.false_eq_true, if_false, toList_bs]
 split
 ·rfl
 ·split <;> rfl
theorem compare_int_is (a b : Int) : cmp_Compare_int.f a b = some (if a < b then -1 else if a > b then 1 else 0) := by
 unfold cmp_Compare_int.f cmp_isNaN_int.f
 simp only [Option.bind_some, bne_self_eq_false, Bool.false_eq_true, if_false]
 split
 ·rfl
 ·split <;> rfl
theorem cmpL_com : ∀ l m : List ByteArray, cmpL (l.map bs) (m.map bs) = if comL l m < l.length ∧ comL l m < m.length then cmpS (bs (l.getD (comL l m) ByteArray.empty)) (bs (m.getD (comL l m) ByteArray.empty)) else (if (l.length : Int) < m.length then -1 else if (l.length : Int) > m.length then 1 else 0)
 | [], [] => by simp [cmpL, comL]
 | [], _ :: _ => by simp [cmpL, comL] <;> omega
 | _ :: _, [] => by simp [cmpL, comL] <;> omega
 | x :: l, y :: m => by
  have ih := cmpL_com l m
  simp only [List.map_cons, cmpL]
  by_cases h : x = y
  ·subst h
   rw [if_pos rfl, ih]
   simp only [comL, if_true, List.length_cons, List.getD_cons_succ, Nat.add_lt_add_iff_right]
   by_cases c : comL l m < l.length ∧ comL l m < m.length
   ·rw [if_pos c, if_pos c]
   ·rw [if_neg c, if_neg c]
    simp only [Int.natCast_add, Int.add_lt_add_iff_right, gt_iff_lt]
  ·rw [if_neg (fun e => h (bs_inj e))]
   simp [comL, h]
theorem cB_com (a b : ByteArray) : cB a b = if comL (pB a) (pB b) < (pB a).length ∧ comL (pB a) (pB b) < (pB b).length then cmpS (bs ((pB a).getD (comL (pB a) (pB b)) ByteArray.empty)) (bs ((pB b).getD (comL (pB a) (pB b)) ByteArray.empty)) else (if ((pB a).length : Int) < (pB b).length then -1 else if ((pB a).length : Int) > (pB b).length then 1 else 0) := by
 rw [← cmpL_com, pB_bs, pB_bs]; rfl
set_option maxHeartbeats 1000000 in
set_option maxRecDepth 100000 in
theorem cmp_in (a b : ByteArray) (x y : List ByteArray) (t r : Int) (k : Nat) (w : World)
  (S1 : Aside0 (∀ w, Calls Tryd.prog 54 #[.string a] w fun e w' => ∃ v0_ : Value, e = .returned (v0_) ∧ Kd.R Kd.string 9 w' w.heap.size (fun _ => True) v0_ x ∧ Gr w w'))
  (S2 : Aside0 (∀ w, Calls Tryd.prog 54 #[.string b] w fun e w' => ∃ v0_ : Value, e = .returned (v0_) ∧ Kd.R Kd.string 9 w' w.heap.size (fun _ => True) v0_ y ∧ Gr w w'))
  (C : Aside0 (path_common.f k x y = some t)) (p : 0 ≤ t) (q1 : t < (x.length : Int)) (q2 : t < (y.length : Int))
  (hr : Aside0 (cmp_Compare_string.f (rdOf ByteArray.empty x t) (rdOf ByteArray.empty y t) = some r)) :
  Calls Tryd.prog 51 #[.string a, .string b] w fun e w' => e = .returned (.int .i64 r) ∧ Gr w w' := by
 have c1 : decide (t < (x.length : Int)) = true := decide_eq_true q1
 have c2 : decide (t < (y.length : Int)) = true := decide_eq_true q2
 have c0 : decide (0 ≤ t) = true := decide_eq_true p
 have P := Aside0.mk (And.intro p (And.intro q1 q2))
 clear p q1 q2
 go_enter Tryd.func51, Tryd.ntmps51
 go_wp2_with fail
 refine (S1.out w).mono ?_
 rintro e w1 ⟨v1, rfl, o1, g1⟩
 have G1 := Aside0.mk g1
 have O1 := Aside0.mk o1
 clear g1 o1
 go_wp2_with fail
 refine (S2.out _).mono ?_
 rintro e w2 ⟨v2, rfl, o2, g2⟩
 obtain ⟨A1, n1, rfl, l1, r1⟩ := Kd.R_reads (Kd.R_below O1.out g2.below)
 obtain ⟨A2, n2, rfl, l2, r2⟩ := Kd.R_reads o2
 have G2 := Aside0.mk (G1.out.trans g2)
 have R1 := Aside0.mk r1
 have R2 := Aside0.mk r2
 have L1 := Aside0.mk l1
 have L2 := Aside0.mk l2
 clear g2 o2 r1 r2 l1 l2 G1 O1
 go_wp2_with fail
 refine (path_common.calls k A1 n1 x A2 n2 y t w2 R1.out L1.out R2.out L2.out C.out).mono ?_
 rintro e w3 ⟨rfl, ⟨⟨nd, rfl⟩⟩⟩
 obtain ⟨ad1, e1, hx1⟩ := Kd.at_string R1.out t P.out.1 P.out.2.1
 cases e1
 obtain ⟨ad2, e2, hx2⟩ := Kd.at_string R2.out t P.out.1 P.out.2.2
 cases e2
 have p1 := eq_true P.out.1
 have p2 := eq_true P.out.2.1
 have p3 := eq_true P.out.2.2
 go_wp2_with (first | (go_at_call 75; (with_reducible refine (cmp_Compare_string.calls (rdOf ByteArray.empty x t) (rdOf ByteArray.empty y t) r _ hr.out).mono ?_); rintro e w' ⟨rfl, ⟨nd, rfl⟩⟩; (try first | exact ⟨rfl, _, World.drewN_drewN _ _ _⟩ | exact ⟨rfl, _, Eq.trans (World.drewN_drewN _ _ _) (congrArg (World.drewN _) (Nat.add_assoc _ _ _))⟩)))
 repeat (go_quiet (first | (go_at_call 75; (with_reducible refine (cmp_Compare_string.calls (rdOf ByteArray.empty x t) (rdOf ByteArray.empty y t) r _ hr.out).mono ?_); rintro e w' ⟨rfl, ⟨nd, rfl⟩⟩; (try first | exact ⟨rfl, _, World.drewN_drewN _ _ _⟩ | exact ⟨rfl, _, Eq.trans (World.drewN_drewN _ _ _) (congrArg (World.drewN _) (Nat.add_assoc _ _ _))⟩))); try go_wp2)
 go_ret
 exact ⟨by first | rfl | (simp; done), by repeat (first | exact G2.out | apply Gr.drewN | apply Gr.drew | apply Gr.alloc)⟩
set_option maxHeartbeats 1000000 in
set_option maxRecDepth 100000 in
theorem cmp_out (a b : ByteArray) (x y : List ByteArray) (t r : Int) (k : Nat) (w : World)
  (S1 : Aside0 (∀ w, Calls Tryd.prog 54 #[.string a] w fun e w' => ∃ v0_ : Value, e = .returned (v0_) ∧ Kd.R Kd.string 9 w' w.heap.size (fun _ => True) v0_ x ∧ Gr w w'))
  (S2 : Aside0 (∀ w, Calls Tryd.prog 54 #[.string b] w fun e w' => ∃ v0_ : Value, e = .returned (v0_) ∧ Kd.R Kd.string 9 w' w.heap.size (fun _ => True) v0_ y ∧ Gr w w'))
  (C : Aside0 (path_common.f k x y = some t)) (d : Bool) (d1 : decide (t < (x.length : Int)) = d) (d2 : d = true → decide (t < (y.length : Int)) = false)
  (hr : Aside0 (cmp_Compare_int.f (x.length : Int) (y.length : Int) = some r)) :
  Calls Tryd.prog 51 #[.string a, .string b] w fun e w' => e = .returned (.int .i64 r) ∧ Gr w w' := by
 cases d with
 | false =>
  clear d2
  go_enter Tryd.func51, Tryd.ntmps51
  go_wp2_with fail
  refine (S1.out w).mono ?_
  rintro e w1 ⟨v1, rfl, o1, g1⟩
  have G1 := Aside0.mk g1
  have O1 := Aside0.mk o1
  clear g1 o1
  go_wp2_with fail
  refine (S2.out _).mono ?_
  rintro e w2 ⟨v2, rfl, o2, g2⟩
  obtain ⟨A1, n1, rfl, l1, r1⟩ := Kd.R_reads (Kd.R_below O1.out g2.below)
  obtain ⟨A2, n2, rfl, l2, r2⟩ := Kd.R_reads o2
  have G2 := Aside0.mk (G1.out.trans g2)
  have R1 := Aside0.mk r1
  have R2 := Aside0.mk r2
  have L1 := Aside0.mk l1
  have L2 := Aside0.mk l2
  clear g2 o2 r1 r2 l1 l2 G1 O1
  go_wp2_with fail
  refine (path_common.calls k A1 n1 x A2 n2 y t w2 R1.out L1.out R2.out L2.out C.out).mono ?_
  rintro e w3 ⟨rfl, ⟨⟨nd, rfl⟩⟩⟩
  go_wp2_with (first | (go_at_call 76; (with_reducible refine (cmp_Compare_int.calls (x.length : Int) (y.length : Int) r _ hr.out).mono ?_); rintro e w' ⟨rfl, ⟨nd, rfl⟩⟩; (try first | exact ⟨rfl, _, World.drewN_drewN _ _ _⟩ | exact ⟨rfl, _, Eq.trans (World.drewN_drewN _ _ _) (congrArg (World.drewN _) (Nat.add_assoc _ _ _))⟩)))
  go_ret
  exact ⟨by first | rfl | (simp; done), by repeat (first | exact G2.out | apply Gr.drewN | apply Gr.drew | apply Gr.alloc)⟩
 | true =>
  have d3 := d2 rfl
  clear d2
  go_enter Tryd.func51, Tryd.ntmps51
  go_wp2_with fail
  refine (S1.out w).mono ?_
  rintro e w1 ⟨v1, rfl, o1, g1⟩
  have G1 := Aside0.mk g1
  have O1 := Aside0.mk o1
  clear g1 o1
  go_wp2_with fail
  refine (S2.out _).mono ?_
  rintro e w2 ⟨v2, rfl, o2, g2⟩
  obtain ⟨A1, n1, rfl, l1, r1⟩ := Kd.R_reads (Kd.R_below O1.out g2.below)
  obtain ⟨A2, n2, rfl, l2, r2⟩ := Kd.R_reads o2
  have G2 := Aside0.mk (G1.out.trans g2)
  have R1 := Aside0.mk r1
  have R2 := Aside0.mk r2
  have L1 := Aside0.mk l1
  have L2 := Aside0.mk l2
  clear g2 o2 r1 r2 l1 l2 G1 O1
  go_wp2_with fail
  refine (path_common.calls k A1 n1 x A2 n2 y t w2 R1.out L1.out R2.out L2.out C.out).mono ?_
  rintro e w3 ⟨rfl, ⟨⟨nd, rfl⟩⟩⟩
  go_wp2_with (first | (go_at_call 76; (with_reducible refine (cmp_Compare_int.calls (x.length : Int) (y.length : Int) r _ hr.out).mono ?_); rintro e w' ⟨rfl, ⟨nd, rfl⟩⟩; (try first | exact ⟨rfl, _, World.drewN_drewN _ _ _⟩ | exact ⟨rfl, _, Eq.trans (World.drewN_drewN _ _ _) (congrArg (World.drewN _) (Nat.add_assoc _ _ _))⟩)))
  go_ret
  exact ⟨by first | rfl | (simp; done), by repeat (first | exact G2.out | apply Gr.drewN | apply Gr.drew | apply Gr.alloc)⟩
theorem rdOf_getD (l : List ByteArray) (i : Nat) : rdOf ByteArray.empty l (i : Int) = l.getD i ByteArray.empty := rfl
theorem cmp_gr (a b : ByteArray) (ha : a.size < 4294967281) (hb : b.size < 4294967281) (w : World) :
  Calls Tryd.prog 51 #[.string a, .string b] w fun e w' => e = .returned (.int .i64 (cB a b)) ∧ Gr w w' := by
 have hla := pB_length_le a
 have hlb := pB_length_le b
 have hc := common_ends (pB a) (pB b) (by omega)
 rw [cB_com]
 by_cases h : comL (pB a) (pB b) < (pB a).length ∧ comL (pB a) (pB b) < (pB b).length
 ·rw [if_pos h]
  exact cmp_in a b (pB a) (pB b) _ _ _ w ⟨split_gr a ha⟩ ⟨split_gr b hb⟩ ⟨hc⟩ (by omega) (by omega) (by omega) ⟨by rw [compare_string_is]; rfl⟩
 ·rw [if_neg h]
  refine cmp_out a b (pB a) (pB b) _ _ _ w ⟨split_gr a ha⟩ ⟨split_gr b hb⟩ ⟨hc⟩ (decide ((comL (pB a) (pB b) : Int) < ((pB a).length : Int))) rfl (fun hd => ?_) ⟨by rw [compare_int_is]⟩
  have := of_decide_eq_true hd
  refine decide_eq_false ?_
  omega
end Go.Proofs.YtdfkaclflmgkeaaDoor.PAll
namespace Go.Proofs.YtdfkaclflmgkeaaDoor.PAll
open Go.RowKit Go.Proofs.YtdfkaclflmgkeaaDoorW.PrintWords Go.Proofs.YtdfkaclflmgkeaaDoorW.PrintLast Go.Proofs.YtdfkaclflmgkeaaDoorW.PrintMore
attribute [local go_sem] max2_int min2_int max_two min_two max_three min_three max_four min_four
set_option linter.unusedVariables false
set_option linter.unusedSimpArgs false
def path_Above.f (k : Nat) (a0 : ByteArray) (a1 : ByteArray) : Option (Bool) := (path_Split.f k a0).bind fun t155 => ((path_Split.f k a1).bind fun t158 => (if (t155.length : Int) < (t158.length : Int) then ((path_common.f k t155 t158).bind fun t161 => (some (t161 == (t155.length : Int)))) else (some false)))
theorem path_Above.mono : ∀ a0 a1 k, LeO (path_Above.f k a0 a1) (path_Above.f (k + 1) a0 a1) := by
 intro a0 a1 k
 unfold path_Above.f
 repeat' first
   | (with_reducible exact path_Split.mono _ _)
   | (with_reducible exact path_common.mono _ _ _)
   | (with_reducible exact LeO.refl _)
   | (with_reducible exact LeO.none _)
   | (with_reducible refine LeO.ite ?_ ?_)
   | (with_reducible refine LeO.bind ?_ (fun _ => ?_))
   | exact path_Split.mono _ _
   | exact path_common.mono _ _ _
   | exact LeO.none _
   | refine LeO.ite ?_ ?_
   | refine LeO.bind ?_ (fun _ => ?_)
set_option maxHeartbeats 8000000 in
set_option maxRecDepth 100000 in
theorem path_Above.calls (k : Nat) (a0 : ByteArray) (a1 : ByteArray) (r : Bool) (w : World) (h : path_Above.f k a0 a1 = some r) :
  Calls Tryd.prog 22 #[.string a0, .string a1] w fun e w' => e = .returned (.bool r) ∧ Below w.heap.size w w' := by
 have HB := Aside0.mk (Below.refl w.heap.size w)
 have H : ((path_Split.f k a0).bind fun t155 => ((path_Split.f k a1).bind fun t158 => (if (t155.length : Int) < (t158.length : Int) then ((path_common.f k t155 t158).bind fun t161 => (some (t161 == (t155.length : Int)))) else (some false)))) = some r := h
 clear h
 replace H := Option.bind_eq_some_iff.mp H
 obtain ⟨t155, A30, H⟩ := H
 try dsimp only at H
 have A3 := Aside0.mk A30
 clear A30
 replace H := Option.bind_eq_some_iff.mp H
 obtain ⟨t158, A40, H⟩ := H
 try dsimp only at H
 have A4 := Aside0.mk A40
 clear A40
 by_cases c5 : (t155.length : Int) < (t158.length : Int)
 ·rw [if_pos c5] at H
  have c5b0 : decide ((t155.length : Int) < (t158.length : Int)) = true := decide_eq_true c5
  have c5b1 : decide (t155.length < t158.length) = true := decide_eq_true (Int.ofNat_lt.mp c5)
  clear c5
  replace H := Option.bind_eq_some_iff.mp H
  obtain ⟨t161, A60, H⟩ := H
  try dsimp only at H
  have A6 := Aside0.mk A60
  clear A60
  obtain rfl := Option.some.inj H
  go_enter Tryd.func22, Tryd.ntmps22
  go_wp2_with (first | ((with_reducible refine gate_callee (f := 54) rfl ?_); refine goesL_ (some 8) rfl rfl Tryd.func54 (by kernel_rfl) rfl #[.string a0] rfl (by (try simp only [List.map_toArray, List.map_cons, List.map_nil]); first | done | rfl | (simp only [List.length_drop, List.length_take]; rfl)) ?_; (with_reducible refine (path_Split.calls k a0 t155 _ A3.out).mono ?_); rintro e w7 ⟨v156, rfl, ho0, hb⟩; refine ⟨_, rfl, ?_⟩; have n0_ := Aside0.mk (Kd.R_lower ho0 (below_size (by repeat (first | (with_reducible first | exact HB.out | apply below_alloc | apply pw_below_drewN | apply below_drew1) | exact HB.out)))); have n1_ := Aside0.mk (below_step (by repeat (first | (with_reducible first | exact HB.out | apply below_alloc | apply pw_below_drewN | apply below_drew1) | exact HB.out)) hb); clear HB; have HO157 := n0_; have HB := n1_; clear n0_ n1_; (try clear hb); (try clear hb2); (try clear hk); (try clear hi); (try clear ho0)) | ((with_reducible refine gate_callee (f := 54) rfl ?_); refine goesL_ (some 10) rfl rfl Tryd.func54 (by kernel_rfl) rfl #[.string a1] rfl (by (try simp only [List.map_toArray, List.map_cons, List.map_nil]); first | done | rfl | (simp only [List.length_drop, List.length_take]; rfl)) ?_; (with_reducible refine (path_Split.calls k a1 t158 _ A4.out).mono ?_); rintro e w8 ⟨v159, rfl, ho0, hb⟩; refine ⟨_, rfl, ?_⟩; have n0_ := Aside0.mk (Kd.R_elder' (by (with_reducible repeat (first | apply Kd.R_alloc | apply Kd.R_drewN | apply Kd.R_drew)); exact HO157.out) (Kd.R_base ho0) hb); have n1_ := Aside0.mk (Kd.R_lower (Kd.R_new' ho0 (Kd.R_lt (by (with_reducible repeat (first | apply Kd.R_alloc | apply Kd.R_drewN | apply Kd.R_drew)); exact HO157.out))) (below_size (by repeat (first | (with_reducible first | exact HB.out | apply below_alloc | apply pw_below_drewN | apply below_drew1) | exact HB.out)))); have n2_ := Aside0.mk (below_step (by repeat (first | (with_reducible first | exact HB.out | apply below_alloc | apply pw_below_drewN | apply below_drew1) | exact HB.out)) hb); clear HO157; clear HB; have HO157 := n0_; have HO160 := n1_; have HB := n2_; clear n0_ n1_ n2_; (try clear hb); (try clear hb2); (try clear hk); (try clear hi); (try clear ho0); obtain ⟨Ao9, co9, eo9⟩ := Kd.R_slice HO157.out; subst eo9; obtain ⟨Ao10, co10, eo10⟩ := Kd.R_slice HO160.out; subst eo10) | (go_at_call 55; (with_reducible refine (path_common.calls k _ _ t155 _ _ t158 t161 _ ?side1 ?side2 ?side3 ?side4 A6.out).mono ?_); (case side1 => repeat (first | exact (Kd.R_reads' HO157.out).2.2 | (with_reducible refine Kd.C_alloc ?_ _) | (with_reducible refine Kd.C_drewN ?_ _) | (with_reducible refine Kd.C_drew ?_))); (case side2 => exact (Kd.R_reads' HO157.out).2.1); (case side3 => repeat (first | exact (Kd.R_reads' HO160.out).2.2 | (with_reducible refine Kd.C_alloc ?_ _) | (with_reducible refine Kd.C_drewN ?_ _) | (with_reducible refine Kd.C_drew ?_))); (case side4 => exact (Kd.R_reads' HO160.out).2.1); rintro e w' ⟨rfl, ⟨nd, rfl⟩⟩))
  go_ret
  exact ⟨by first | rfl | (simp [errW_none, errW_some] <;> rfl) | (simp [*, errW_none, errW_some] <;> rfl), by repeat (first | (with_reducible first | exact HB.out | apply below_alloc | apply pw_below_drewN | apply below_drew1) | exact HB.out)⟩
 ·rw [if_neg c5] at H
  have c5b0 : decide ((t155.length : Int) < (t158.length : Int)) = false := decide_eq_false c5
  have c5b1 : decide (t155.length < t158.length) = false := decide_eq_false (fun h => c5 (Int.ofNat_lt.mpr h))
  clear c5
  obtain rfl := Option.some.inj H
  go_enter Tryd.func22, Tryd.ntmps22
  go_wp2_with (first | ((with_reducible refine gate_callee (f := 54) rfl ?_); refine goesL_ (some 8) rfl rfl Tryd.func54 (by kernel_rfl) rfl #[.string a0] rfl (by (try simp only [List.map_toArray, List.map_cons, List.map_nil]); first | done | rfl | (simp only [List.length_drop, List.length_take]; rfl)) ?_; (with_reducible refine (path_Split.calls k a0 t155 _ A3.out).mono ?_); rintro e w11 ⟨v156, rfl, ho0, hb⟩; refine ⟨_, rfl, ?_⟩; have n0_ := Aside0.mk (Kd.R_lower ho0 (below_size (by repeat (first | (with_reducible first | exact HB.out | apply below_alloc | apply pw_below_drewN | apply below_drew1) | exact HB.out)))); have n1_ := Aside0.mk (below_step (by repeat (first | (with_reducible first | exact HB.out | apply below_alloc | apply pw_below_drewN | apply below_drew1) | exact HB.out)) hb); clear HB; have HO157 := n0_; have HB := n1_; clear n0_ n1_; (try clear hb); (try clear hb2); (try clear hk); (try clear hi); (try clear ho0)) | ((with_reducible refine gate_callee (f := 54) rfl ?_); refine goesL_ (some 10) rfl rfl Tryd.func54 (by kernel_rfl) rfl #[.string a1] rfl (by (try simp only [List.map_toArray, List.map_cons, List.map_nil]); first | done | rfl | (simp only [List.length_drop, List.length_take]; rfl)) ?_; (with_reducible refine (path_Split.calls k a1 t158 _ A4.out).mono ?_); rintro e w12 ⟨v159, rfl, ho0, hb⟩; refine ⟨_, rfl, ?_⟩; have n0_ := Aside0.mk (Kd.R_elder' (by (with_reducible repeat (first | apply Kd.R_alloc | apply Kd.R_drewN | apply Kd.R_drew)); exact HO157.out) (Kd.R_base ho0) hb); have n1_ := Aside0.mk (Kd.R_lower (Kd.R_new' ho0 (Kd.R_lt (by (with_reducible repeat (first | apply Kd.R_alloc | apply Kd.R_drewN | apply Kd.R_drew)); exact HO157.out))) (below_size (by repeat (first | (with_reducible first | exact HB.out | apply below_alloc | apply pw_below_drewN | apply below_drew1) | exact HB.out)))); have n2_ := Aside0.mk (below_step (by repeat (first | (with_reducible first | exact HB.out | apply below_alloc | apply pw_below_drewN | apply below_drew1) | exact HB.out)) hb); clear HO157; clear HB; have HO157 := n0_; have HO160 := n1_; have HB := n2_; clear n0_ n1_ n2_; (try clear hb); (try clear hb2); (try clear hk); (try clear hi); (try clear ho0); obtain ⟨Ao13, co13, eo13⟩ := Kd.R_slice HO157.out; subst eo13; obtain ⟨Ao14, co14, eo14⟩ := Kd.R_slice HO160.out; subst eo14))
  go_ret
  exact ⟨by first | rfl | (simp [errW_none, errW_some] <;> rfl) | (simp [*, errW_none, errW_some] <;> rfl), by repeat (first | (with_reducible first | exact HB.out | apply below_alloc | apply pw_below_drewN | apply below_drew1) | exact HB.out)⟩
def path_Cmp.j0 : Nat → List ByteArray → List ByteArray → Int → Bool → Option (Int)
 | 0, _, _, _, _ => none
 | k + 1, x5, x6, x7, x24 => if x24 = true then (if 0 ≤ x7 then (if x7 < (x5.length : Int) then (if x7 < (x6.length : Int) then ((cmp_Compare_string.f (rdOf ByteArray.empty x5 x7) (rdOf ByteArray.empty x6 x7)).bind fun t217 => (some t217)) else (none)) else (none)) else (none)) else ((cmp_Compare_int.f (x5.length : Int) (x6.length : Int)).bind fun t218 => (some t218))
def path_Cmp.f (k : Nat) (a0 : ByteArray) (a1 : ByteArray) : Option (Int) := (path_Split.f k a0).bind fun t208 => ((path_Split.f k a1).bind fun t211 => ((path_common.f k t208 t211).bind fun t214 => (if t214 < (t208.length : Int) then (path_Cmp.j0 k t208 t211 t214 (decide (t214 < (t211.length : Int)))) else (path_Cmp.j0 k t208 t211 t214 false))))
set_option maxHeartbeats 8000000 in
set_option maxRecDepth 100000 in
theorem path_Cmp.calls (k : Nat) (a0 : ByteArray) (a1 : ByteArray) (r : Int) (w : World) (h : path_Cmp.f k a0 a1 = some r) :
  Calls Tryd.prog 51 #[.string a0, .string a1] w fun e w' => e = .returned (.int .i64 r) ∧ Below w.heap.size w w' := by
 have HB := Aside0.mk (Below.refl w.heap.size w)
 have H : ((path_Split.f k a0).bind fun t208 => ((path_Split.f k a1).bind fun t211 => ((path_common.f k t208 t211).bind fun t214 => (if t214 < (t208.length : Int) then (path_Cmp.j0 k t208 t211 t214 (decide (t214 < (t211.length : Int)))) else (path_Cmp.j0 k t208 t211 t214 false))))) = some r := h
 clear h
 replace H := Option.bind_eq_some_iff.mp H
 obtain ⟨t208, A30, H⟩ := H
 try dsimp only at H
 have A3 := Aside0.mk A30
 clear A30
 replace H := Option.bind_eq_some_iff.mp H
 obtain ⟨t211, A40, H⟩ := H
 try dsimp only at H
 have A4 := Aside0.mk A40
 clear A40
 replace H := Option.bind_eq_some_iff.mp H
 obtain ⟨t214, A50, H⟩ := H
 try dsimp only at H
 have A5 := Aside0.mk A50
 clear A50
 have HC6 := Aside0.mk H
 clear H
 go_enter Tryd.func51, Tryd.ntmps51
 go_upto_region 3 with (first | (go_at_call 54; (with_reducible refine (path_Split.calls k a0 t208 _ A3.out).mono ?_); rintro e w7 ⟨v209, rfl, ho0, hb⟩; have n0_ := Aside0.mk (Kd.R_lower ho0 (below_size (by repeat (first | (with_reducible first | exact HB.out | apply below_alloc | apply pw_below_drewN | apply below_drew1) | exact HB.out)))); have n1_ := Aside0.mk (below_step (by repeat (first | (with_reducible first | exact HB.out | apply below_alloc | apply pw_below_drewN | apply below_drew1) | exact HB.out)) hb); clear HB; have HO210 := n0_; have HB := n1_; clear n0_ n1_; (try clear hb); (try clear hb2); (try clear hk); (try clear hi); (try clear ho0)) | (go_at_call 54; (with_reducible refine (path_Split.calls k a1 t211 _ A4.out).mono ?_); rintro e w8 ⟨v212, rfl, ho0, hb⟩; have n0_ := Aside0.mk (Kd.R_elder' (by (with_reducible repeat (first | apply Kd.R_alloc | apply Kd.R_drewN | apply Kd.R_drew)); exact HO210.out) (Kd.R_base ho0) hb); have n1_ := Aside0.mk (Kd.R_lower (Kd.R_new' ho0 (Kd.R_lt (by (with_reducible repeat (first | apply Kd.R_alloc | apply Kd.R_drewN | apply Kd.R_drew)); exact HO210.out))) (below_size (by repeat (first | (with_reducible first | exact HB.out | apply below_alloc | apply pw_below_drewN | apply below_drew1) | exact HB.out)))); have n2_ := Aside0.mk (below_step (by repeat (first | (with_reducible first | exact HB.out | apply below_alloc | apply pw_below_drewN | apply below_drew1) | exact HB.out)) hb); clear HO210; clear HB; have HO210 := n0_; have HO213 := n1_; have HB := n2_; clear n0_ n1_ n2_; (try clear hb); (try clear hb2); (try clear hk); (try clear hi); (try clear ho0); obtain ⟨Ao9, co9, eo9⟩ := Kd.R_slice HO210.out; subst eo9; obtain ⟨Ao10, co10, eo10⟩ := Kd.R_slice HO213.out; subst eo10) | (go_at_call 55; (with_reducible refine (path_common.calls k _ _ t208 _ _ t211 t214 _ ?side1 ?side2 ?side3 ?side4 A5.out).mono ?_); (case side1 => repeat (first | exact (Kd.R_reads' HO210.out).2.2 | (with_reducible refine Kd.C_alloc ?_ _) | (with_reducible refine Kd.C_drewN ?_ _) | (with_reducible refine Kd.C_drew ?_))); (case side2 => exact (Kd.R_reads' HO210.out).2.1); (case side3 => repeat (first | exact (Kd.R_reads' HO213.out).2.2 | (with_reducible refine Kd.C_alloc ?_ _) | (with_reducible refine Kd.C_drewN ?_ _) | (with_reducible refine Kd.C_drew ?_))); (case side4 => exact (Kd.R_reads' HO213.out).2.1); rintro e w' ⟨rfl, ⟨nd, rfl⟩⟩; (try first | exact ⟨rfl, _, World.drewN_drewN _ _ _⟩ | exact ⟨rfl, _, Eq.trans (World.drewN_drewN _ _ _) (congrArg (World.drewN _) (Nat.add_assoc _ _ _))⟩)))
 repeat (go_quiet (first | (go_at_call 54; (with_reducible refine (path_Split.calls k a0 t208 _ A3.out).mono ?_); rintro e w7 ⟨v209, rfl, ho0, hb⟩; have n0_ := Aside0.mk (Kd.R_lower ho0 (below_size (by repeat (first | (with_reducible first | exact HB.out | apply below_alloc | apply pw_below_drewN | apply below_drew1) | exact HB.out)))); have n1_ := Aside0.mk (below_step (by repeat (first | (with_reducible first | exact HB.out | apply below_alloc | apply pw_below_drewN | apply below_drew1) | exact HB.out)) hb); clear HB; have HO210 := n0_; have HB := n1_; clear n0_ n1_; (try clear hb); (try clear hb2); (try clear hk); (try clear hi); (try clear ho0)) | (go_at_call 54; (with_reducible refine (path_Split.calls k a1 t211 _ A4.out).mono ?_); rintro e w8 ⟨v212, rfl, ho0, hb⟩; have n0_ := Aside0.mk (Kd.R_elder' (by (with_reducible repeat (first | apply Kd.R_alloc | apply Kd.R_drewN | apply Kd.R_drew)); exact HO210.out) (Kd.R_base ho0) hb); have n1_ := Aside0.mk (Kd.R_lower (Kd.R_new' ho0 (Kd.R_lt (by (with_reducible repeat (first | apply Kd.R_alloc | apply Kd.R_drewN | apply Kd.R_drew)); exact HO210.out))) (below_size (by repeat (first | (with_reducible first | exact HB.out | apply below_alloc | apply pw_below_drewN | apply below_drew1) | exact HB.out)))); have n2_ := Aside0.mk (below_step (by repeat (first | (with_reducible first | exact HB.out | apply below_alloc | apply pw_below_drewN | apply below_drew1) | exact HB.out)) hb); clear HO210; clear HB; have HO210 := n0_; have HO213 := n1_; have HB := n2_; clear n0_ n1_ n2_; (try clear hb); (try clear hb2); (try clear hk); (try clear hi); (try clear ho0); obtain ⟨Ao9, co9, eo9⟩ := Kd.R_slice HO210.out; subst eo9; obtain ⟨Ao10, co10, eo10⟩ := Kd.R_slice HO213.out; subst eo10) | (go_at_call 55; (with_reducible refine (path_common.calls k _ _ t208 _ _ t211 t214 _ ?side1 ?side2 ?side3 ?side4 A5.out).mono ?_); (case side1 => repeat (first | exact (Kd.R_reads' HO210.out).2.2 | (with_reducible refine Kd.C_alloc ?_ _) | (with_reducible refine Kd.C_drewN ?_ _) | (with_reducible refine Kd.C_drew ?_))); (case side2 => exact (Kd.R_reads' HO210.out).2.1); (case side3 => repeat (first | exact (Kd.R_reads' HO213.out).2.2 | (with_reducible refine Kd.C_alloc ?_ _) | (with_reducible refine Kd.C_drewN ?_ _) | (with_reducible refine Kd.C_drew ?_))); (case side4 => exact (Kd.R_reads' HO213.out).2.1); rintro e w' ⟨rfl, ⟨nd, rfl⟩⟩; (try first | exact ⟨rfl, _, World.drewN_drewN _ _ _⟩ | exact ⟨rfl, _, Eq.trans (World.drewN_drewN _ _ _) (congrArg (World.drewN _) (Nat.add_assoc _ _ _))⟩))); go_upto_region 3 with (first | (go_at_call 54; (with_reducible refine (path_Split.calls k a0 t208 _ A3.out).mono ?_); rintro e w7 ⟨v209, rfl, ho0, hb⟩; have n0_ := Aside0.mk (Kd.R_lower ho0 (below_size (by repeat (first | (with_reducible first | exact HB.out | apply below_alloc | apply pw_below_drewN | apply below_drew1) | exact HB.out)))); have n1_ := Aside0.mk (below_step (by repeat (first | (with_reducible first | exact HB.out | apply below_alloc | apply pw_below_drewN | apply below_drew1) | exact HB.out)) hb); clear HB; have HO210 := n0_; have HB := n1_; clear n0_ n1_; (try clear hb); (try clear hb2); (try clear hk); (try clear hi); (try clear ho0)) | (go_at_call 54; (with_reducible refine (path_Split.calls k a1 t211 _ A4.out).mono ?_); rintro e w8 ⟨v212, rfl, ho0, hb⟩; have n0_ := Aside0.mk (Kd.R_elder' (by (with_reducible repeat (first | apply Kd.R_alloc | apply Kd.R_drewN | apply Kd.R_drew)); exact HO210.out) (Kd.R_base ho0) hb); have n1_ := Aside0.mk (Kd.R_lower (Kd.R_new' ho0 (Kd.R_lt (by (with_reducible repeat (first | apply Kd.R_alloc | apply Kd.R_drewN | apply Kd.R_drew)); exact HO210.out))) (below_size (by repeat (first | (with_reducible first | exact HB.out | apply below_alloc | apply pw_below_drewN | apply below_drew1) | exact HB.out)))); have n2_ := Aside0.mk (below_step (by repeat (first | (with_reducible first | exact HB.out | apply below_alloc | apply pw_below_drewN | apply below_drew1) | exact HB.out)) hb); clear HO210; clear HB; have HO210 := n0_; have HO213 := n1_; have HB := n2_; clear n0_ n1_ n2_; (try clear hb); (try clear hb2); (try clear hk); (try clear hi); (try clear ho0); obtain ⟨Ao9, co9, eo9⟩ := Kd.R_slice HO210.out; subst eo9; obtain ⟨Ao10, co10, eo10⟩ := Kd.R_slice HO213.out; subst eo10) | (go_at_call 55; (with_reducible refine (path_common.calls k _ _ t208 _ _ t211 t214 _ ?side1 ?side2 ?side3 ?side4 A5.out).mono ?_); (case side1 => repeat (first | exact (Kd.R_reads' HO210.out).2.2 | (with_reducible refine Kd.C_alloc ?_ _) | (with_reducible refine Kd.C_drewN ?_ _) | (with_reducible refine Kd.C_drew ?_))); (case side2 => exact (Kd.R_reads' HO210.out).2.1); (case side3 => repeat (first | exact (Kd.R_reads' HO213.out).2.2 | (with_reducible refine Kd.C_alloc ?_ _) | (with_reducible refine Kd.C_drewN ?_ _) | (with_reducible refine Kd.C_drew ?_))); (case side4 => exact (Kd.R_reads' HO213.out).2.1); rintro e w' ⟨rfl, ⟨nd, rfl⟩⟩; (try first | exact ⟨rfl, _, World.drewN_drewN _ _ _⟩ | exact ⟨rfl, _, Eq.trans (World.drewN_drewN _ _ _) (congrArg (World.drewN _) (Nat.add_assoc _ _ _))⟩))))
 (try simp only [Act.put, List.setIfInBounds_toArray, List.set_cons_zero, List.set_cons_succ])
 go_cut [24] (fun v24 wc => ∃ (kq : Nat) (x24_5 : Bool), v24 = .bool x24_5 ∧ Aside0 (path_Cmp.j0 kq t208 t211 t214 x24_5 = some r) ∧ Aside0 (kq ≤ k) ∧ Aside0 (Kd.R Kd.string 9 wc w.heap.size (fun k_ => some k_ ≠ ((.slice Ao10 t211.length co10) : Value).ownBlock) (.slice Ao9 t208.length co9) t208) ∧ Aside0 (Kd.R Kd.string 9 wc w.heap.size (fun k_ => some k_ ≠ ((.slice Ao9 t208.length co9) : Value).ownBlock) (.slice Ao10 t211.length co10) t211) ∧ Aside0 (Below w.heap.size w wc))
 case first =>
  have H := HC6.out
  clear HC6
  by_cases c11 : t214 < (t208.length : Int)
  ·rw [if_pos c11] at H
   have c11b0 : decide (t214 < (t208.length : Int)) = true := decide_eq_true c11
   clear c11
   (first | rw [c11b0] | (simp only [i64_w, i32_w]; rw [c11b0]) | skip)
   have H' := Aside0.mk H
   clear H
   go_wp2
   repeat (go_quiet (fail); try go_wp2)
   go_meet
   case rel => exact ⟨_, (decide (t214 < (t211.length : Int))), (by first | rfl | (simp; done) | (simp [*]; done)), H', ⟨by first | omega | exact Nat.le_refl _⟩, ⟨by (with_reducible repeat (first | apply Kd.R_alloc | apply Kd.R_drewN | apply Kd.R_drew)); exact Kd.R_mono HO210.out (fun _ hk => hk.2)⟩, ⟨by (with_reducible repeat (first | apply Kd.R_alloc | apply Kd.R_drewN | apply Kd.R_drew)); exact Kd.R_mono HO213.out (fun _ hk => hk.2)⟩, ⟨by repeat (first | (with_reducible first | exact HB.out | apply below_alloc | apply pw_below_drewN | apply below_drew1) | exact HB.out)⟩⟩
  ·rw [if_neg c11] at H
   have c11b0 : decide (t214 < (t208.length : Int)) = false := decide_eq_false c11
   clear c11
   (first | rw [c11b0] | (simp only [i64_w, i32_w]; rw [c11b0]) | skip)
   have H' := Aside0.mk H
   clear H
   go_wp2
   repeat (go_quiet (fail); try go_wp2)
   go_meet
   case rel => exact ⟨_, (false), (by first | rfl | (simp; done) | (simp [*]; done)), H', ⟨by first | omega | exact Nat.le_refl _⟩, ⟨by (with_reducible repeat (first | apply Kd.R_alloc | apply Kd.R_drewN | apply Kd.R_drew)); exact Kd.R_mono HO210.out (fun _ hk => hk.2)⟩, ⟨by (with_reducible repeat (first | apply Kd.R_alloc | apply Kd.R_drewN | apply Kd.R_drew)); exact Kd.R_mono HO213.out (fun _ hk => hk.2)⟩, ⟨by repeat (first | (with_reducible first | exact HB.out | apply below_alloc | apply pw_below_drewN | apply below_drew1) | exact HB.out)⟩⟩
 case rest =>
  clear HC6
  try clear c1
  try clear p2
  try clear c5
  try clear c11
  try clear c11b0
  obtain ⟨kq, x24_5, rfl, HA, HJ5, HO_5, HO_6, HB⟩ := hcut
  cases kq with
  | zero => exact absurd HA.out (by simp [path_Cmp.j0])
  | succ kj5 =>
   have H := HA.out
   clear HA
   simp only [path_Cmp.j0] at H
   by_cases c12 : x24_5 = true
   ·subst c12
    rw [if_pos rfl] at H
    have H1 := H
    clear H
    have H := H1
    clear H1
    by_cases c13 : 0 ≤ t214
    ·rw [if_pos c13] at H
     have c13b0 : decide (0 ≤ t214) = true := decide_eq_true c13
     clear c13
     by_cases c14 : t214 < (t208.length : Int)
     ·rw [if_pos c14] at H
      have c14b0 : decide (t214 < (t208.length : Int)) = true := decide_eq_true c14
      clear c14
      by_cases c15 : t214 < (t211.length : Int)
      ·rw [if_pos c15] at H
       have c15b0 : decide (t214 < (t211.length : Int)) = true := decide_eq_true c15
       clear c15
       replace H := Option.bind_eq_some_iff.mp H
       obtain ⟨t217, A160, H⟩ := H
       try dsimp only at H
       have A16 := Aside0.mk A160
       clear A160
       obtain rfl := Option.some.inj H
       have p215 : 0 ≤ (t214 : Int) := of_decide_eq_true (by first | (with_reducible assumption) | assumption)
       have q215 : t214 < (t208.length : Int) := of_decide_eq_true (by first | (with_reducible assumption) | assumption)
       obtain ⟨ad215, e215, hx215_0⟩ := Kd.at_string (Kd.R_reads' HO_5.out).2.2 t214 p215 q215
       cases e215
       replace p215 := eq_true p215
       replace q215 := eq_true q215
       have p216 : 0 ≤ (t214 : Int) := of_decide_eq_true (by first | (with_reducible assumption) | assumption)
       have q216 : t214 < (t211.length : Int) := of_decide_eq_true (by first | (with_reducible assumption) | assumption)
       obtain ⟨ad216, e216, hx216_0⟩ := Kd.at_string (Kd.R_reads' HO_6.out).2.2 t214 p216 q216
       cases e216
       replace p216 := eq_true p216
       replace q216 := eq_true q216
       go_wp2_with (first | (go_at_call 75; (with_reducible refine (cmp_Compare_string.calls (rdOf ByteArray.empty t208 t214) (rdOf ByteArray.empty t211 t214) t217 _ A16.out).mono ?_); rintro e w' ⟨rfl, ⟨nd, rfl⟩⟩; (try first | exact ⟨rfl, _, World.drewN_drewN _ _ _⟩ | exact ⟨rfl, _, Eq.trans (World.drewN_drewN _ _ _) (congrArg (World.drewN _) (Nat.add_assoc _ _ _))⟩)))
       repeat (go_quiet (first | (go_at_call 75; (with_reducible refine (cmp_Compare_string.calls (rdOf ByteArray.empty t208 t214) (rdOf ByteArray.empty t211 t214) t217 _ A16.out).mono ?_); rintro e w' ⟨rfl, ⟨nd, rfl⟩⟩; (try first | exact ⟨rfl, _, World.drewN_drewN _ _ _⟩ | exact ⟨rfl, _, Eq.trans (World.drewN_drewN _ _ _) (congrArg (World.drewN _) (Nat.add_assoc _ _ _))⟩))); try go_wp2_with (first | (go_at_call 75; (with_reducible refine (cmp_Compare_string.calls (rdOf ByteArray.empty t208 t214) (rdOf ByteArray.empty t211 t214) t217 _ A16.out).mono ?_); rintro e w' ⟨rfl, ⟨nd, rfl⟩⟩; (try first | exact ⟨rfl, _, World.drewN_drewN _ _ _⟩ | exact ⟨rfl, _, Eq.trans (World.drewN_drewN _ _ _) (congrArg (World.drewN _) (Nat.add_assoc _ _ _))⟩))))
       go_ret
       exact ⟨by first | rfl | (simp [errW_none, errW_some] <;> rfl) | (simp [*, errW_none, errW_some] <;> rfl), by repeat (first | (with_reducible first | exact HB.out | apply below_alloc | apply pw_below_drewN | apply below_drew1) | exact HB.out)⟩
      ·rw [if_neg c15] at H
       exact absurd H (by simp)
     ·rw [if_neg c14] at H
      exact absurd H (by simp)
    ·rw [if_neg c13] at H
     exact absurd H (by simp)
   ·replace c12 := Bool.eq_false_iff.mpr c12
    subst c12
    have H1 : ((cmp_Compare_int.f (t208.length : Int) (t211.length : Int)).bind fun t218 => (some t218)) = some r := by rw [if_neg (show ¬ (false = true) by decide)] at H; exact H
    clear H
    have H := H1
    clear H1
    replace H := Option.bind_eq_some_iff.mp H
    obtain ⟨t218, A170, H⟩ := H
    try dsimp only at H
    have A17 := Aside0.mk A170
    clear A170
    obtain rfl := Option.some.inj H
    go_wp2_with (first | (go_at_call 76; (with_reducible refine (cmp_Compare_int.calls (t208.length : Int) (t211.length : Int) t218 _ A17.out).mono ?_); rintro e w' ⟨rfl, ⟨nd, rfl⟩⟩; (try first | exact ⟨rfl, _, World.drewN_drewN _ _ _⟩ | exact ⟨rfl, _, Eq.trans (World.drewN_drewN _ _ _) (congrArg (World.drewN _) (Nat.add_assoc _ _ _))⟩)))
    repeat (go_quiet (first | (go_at_call 76; (with_reducible refine (cmp_Compare_int.calls (t208.length : Int) (t211.length : Int) t218 _ A17.out).mono ?_); rintro e w' ⟨rfl, ⟨nd, rfl⟩⟩; (try first | exact ⟨rfl, _, World.drewN_drewN _ _ _⟩ | exact ⟨rfl, _, Eq.trans (World.drewN_drewN _ _ _) (congrArg (World.drewN _) (Nat.add_assoc _ _ _))⟩))); try go_wp2_with (first | (go_at_call 76; (with_reducible refine (cmp_Compare_int.calls (t208.length : Int) (t211.length : Int) t218 _ A17.out).mono ?_); rintro e w' ⟨rfl, ⟨nd, rfl⟩⟩; (try first | exact ⟨rfl, _, World.drewN_drewN _ _ _⟩ | exact ⟨rfl, _, Eq.trans (World.drewN_drewN _ _ _) (congrArg (World.drewN _) (Nat.add_assoc _ _ _))⟩))))
    go_ret
    exact ⟨by first | rfl | (simp [errW_none, errW_some] <;> rfl) | (simp [*, errW_none, errW_some] <;> rfl), by repeat (first | (with_reducible first | exact HB.out | apply below_alloc | apply pw_below_drewN | apply below_drew1) | exact HB.out)⟩
end Go.Proofs.YtdfkaclflmgkeaaDoor.PAll
namespace Go.Proofs.YtdfkaclflmgkeaaDoor.PAll
open Go.RowKit Go.Shelf Go.Proofs.YtdfkaclflmgkeaaDoorW.PrintWords Go.Proofs.YtdfkaclflmgkeaaDoorW.PrintLast Go.Proofs.YtdfkaclflmgkeaaDoorW.PrintMore
open Go.Proofs.YtdfkaclflmgkeaaDoor.Sp
def near1 (k : Nat) (d c : ByteArray) : Option Bool := if c.toList = d.toList then some true else (path_Above.f k c d).bind fun b => if b = true then some true else path_Above.f k d c
def near (k : Nat) (d : ByteArray) : List ByteArray → Option Bool
 | [] => some false
 | c :: r => (near1 k d c).bind fun b => if b = true then some true else near k d r
def cone_Shows.f (k : Nat) (l0 : List ByteArray) (a1 : ByteArray) : Option (Bool) := (path_Dir.f k a1).bind fun d => if d.toList = [] then some true else near k d l0
theorem near1_mono (d c : ByteArray) (k : Nat) : LeO (near1 k d c) (near1 (k + 1) d c) := by
 unfold near1
 exact LeO.ite (LeO.refl _) (LeO.bind (path_Above.mono _ _ _) fun _ => LeO.ite (LeO.refl _) (path_Above.mono _ _ _))
theorem near_mono (d : ByteArray) : ∀ l k, LeO (near k d l) (near (k + 1) d l)
 | [], _ => LeO.refl _
 | c :: r, k => by
  unfold near
  exact LeO.bind (near1_mono _ _ _) fun _ => LeO.ite (LeO.refl _) (near_mono d r k)
theorem cone_Shows.mono : ∀ a0 a1 k, LeO (cone_Shows.f k a0 a1) (cone_Shows.f (k + 1) a0 a1) := fun _ _ _ => LeO.bind (path_Dir.mono _ _) fun _ => LeO.ite (LeO.refl _) (near_mono _ _ _)
set_option maxHeartbeats 1000000 in
theorem near1_calls (k : Nat) (d c : ByteArray) (b : Bool) (B : Nat) (w : World) (hB : B < w.heap.size) (hc : w.cell? ⟨B, 0, none⟩ = some (.string d)) (h : near1 k d c = some b) :
  Calls Tryd.prog 64 #[.string c, .pointer (some ⟨B, 0, none⟩)] w fun e w' => e = .returned (.bool b) ∧ Below w.heap.size w w' := by
 have HB := Aside0.mk (Below.refl w.heap.size w)
 have HH := Aside0.mk hB
 clear hB
 unfold near1 at h
 by_cases c4 : c.toList = d.toList
 ·rw [if_pos c4] at h
  have c4b0 : (c.toList == d.toList) = true := beq_iff_eq.mpr c4
  clear c4
  cases Option.some.inj h
  clear h
  go_enter Tryd.func64, Tryd.ntmps64
  go_wp2
  go_ret
  exact ⟨by first | rfl | (simp; done) | (simp [*]; done), by repeat (first | exact HB.out | apply pw_below_drewN | apply below_drew1)⟩
 ·rw [if_neg c4] at h
  have c4b0 : (c.toList == d.toList) = false := beq_eq_false_iff_ne.mpr c4
  clear c4
  obtain ⟨t1, A1, h⟩ := Option.bind_eq_some_iff.mp h
  have A2 := Aside0.mk A1
  clear A1
  cases t1 with
  | true =>
   cases Option.some.inj h
   clear h
   go_enter Tryd.func64, Tryd.ntmps64
   go_wp2_with (go_at_call 22; (with_reducible refine (path_Above.calls k c d true _ A2.out).mono ?_); rintro e w' ⟨rfl, HB1⟩)
   go_ret
   exact ⟨by first | rfl | (simp; done) | (simp [*]; done), by repeat (first | exact HB.out.trans HB1 | exact HB1 | apply pw_below_drewN | apply below_drew1)⟩
  | false =>
   have A3 := Aside0.mk (show path_Above.f k d c = some b from h)
   clear h
   have hcell : ∀ w', Below w.heap.size w w' → w'.cell? ⟨B, 0, none⟩ = some (.string d) := fun w' hb => (hb.cell (p := ⟨B, 0, none⟩) HH.out).trans hc
   go_enter Tryd.func64, Tryd.ntmps64
   go_wp2_with (go_at_call 22; first | ((with_reducible refine (path_Above.calls k c d false _ A2.out).mono ?_); rintro e w1 ⟨rfl, HB1⟩; have HB1 := below_step (by repeat (first | exact HB.out | apply pw_below_drewN | apply below_drew1)) HB1; have hc1 := hcell _ HB1) | ((with_reducible refine (path_Above.calls k d c b _ A3.out).mono ?_); rintro e w2 ⟨rfl, HB2⟩))
   go_ret
   exact ⟨by first | rfl | (simp; done) | (simp [*]; done), below_step (by repeat (first | exact HB1 | apply pw_below_drewN | apply below_drew1)) HB2⟩
set_option maxHeartbeats 2000000 in
theorem index_calls (k : Nat) (d : ByteArray) (A : Option Addr) (c : Nat) (l : List ByteArray) (r : Bool) (B : Nat) (w : World) (hr : Kd.C Kd.string w A l.length l) (hB : B < w.heap.size) (hc : w.cell? ⟨B, 0, none⟩ = some (.string d))
  (h : near k d l = some r) :
  Calls Tryd.prog 88 #[.slice A l.length c, .func (.func 64) #[] #[.pointer (some ⟨B, 0, none⟩)]] w fun e w' => (∃ i : Int, e = .returned (.int .i64 i) ∧ decide (0 ≤ i) = r) ∧ Below w.heap.size w w' := by
 have HR := Aside0.mk hr
 have HH := Aside0.mk hB
 have HC := Aside0.mk hc
 have H0 := Aside0.mk h
 have hbig : (l.length : Int) ≤ 9223372036854775807 := by have := hr.2.1; omega
 clear hr hB hc h
 have eg : ∀ args w, (callFunc 64 args).run Tryd.prog w = .ok (.enter 64 args) w := enters_of Tryd.func64 (by kernel_rfl) rfl
 go_enter Tryd.func88, Tryd.ntmps88
 go_wp2
 go_loopg [5, 8] l.length (fun gg _ s8 wr => ∃ kk : Nat, kk ≤ l.length ∧ l.length - kk ≤ gg ∧ s8 = .int .i64 kk ∧ Aside0 (Below w.heap.size w wr) ∧ Aside0 (near k d (l.drop kk) = some r))
 case atStart => exact ⟨0, Nat.zero_le _, by omega, rfl, ⟨Below.refl _ w⟩, ⟨H0.out⟩⟩
 case round =>
  obtain ⟨kk, hkk, hg, rfl, BW, A0⟩ := hrel
  by_cases hlt : kk < l.length
  ·have hltz : (kk : Int) < (l.length : Int) := by omega
   have hn := A0.out
   rw [rdOf_drop l kk hlt] at hn
   simp only [near] at hn
   obtain ⟨b, hb, hn⟩ := Option.bind_eq_some_iff.mp hn
   obtain ⟨ad, ea, hx⟩ := Kd.at_string HR.out (kk : Int) (by omega) (by omega)
   cases ea
   rw [Int.toNat_natCast] at hx
   replace hx := (BW.out.cell (World.block_lt_of_cell? w _ hx)).trans hx
   have hcall : Calls Tryd.prog 64 (#[.string (rdOf ByteArray.empty l (kk : Int))] ++ #[.pointer (some ⟨B, 0, none⟩)]) wr _ := near1_calls k d (rdOf ByteArray.empty l (kk : Int)) b B wr (Nat.lt_of_lt_of_le HH.out BW.out.size) ((BW.out.cell (p := ⟨B, 0, none⟩) HH.out).trans HC.out) hb
   clear hb A0
   cases b with
   | true =>
    cases Option.some.inj hn
    clear hn
    go_wp2_with (go_at_fn 64; refine hcall.mono ?_; rintro e w' ⟨rfl, hb'⟩)
    go_ret
    exact ⟨⟨_, rfl, by simp⟩, below_step BW.out hb'⟩
   | false =>
    have A1 := Aside0.mk (show near k d (l.drop (kk + 1)) = some r from hn)
    clear hn
    go_wp2_with (go_at_fn 64; refine hcall.mono ?_; rintro e w' ⟨rfl, hb'⟩)
    go_roundg (l.length - (kk + 1))
    case measure => omega
    case rel => exact ⟨kk + 1, by omega, by omega, by go_num, ⟨below_step BW.out hb'⟩, A1⟩
  ·have hltz : ¬ (kk : Int) < (l.length : Int) := by omega
   have hn := A0.out
   rw [List.drop_of_length_le (by omega)] at hn
   cases Option.some.inj hn
   go_wp2
   go_ret
   exact ⟨⟨_, rfl, by simp⟩, BW.out⟩
set_option maxHeartbeats 1000000 in
theorem contains_calls (k : Nat) (d : ByteArray) (A : Option Addr) (c : Nat) (l : List ByteArray) (r : Bool) (B : Nat) (w : World) (hr : Kd.C Kd.string w A l.length l) (hB : B < w.heap.size) (hc : w.cell? ⟨B, 0, none⟩ = some (.string d))
  (h : near k d l = some r) :
  Calls Tryd.prog 65 #[.slice A l.length c, .func (.func 64) #[] #[.pointer (some ⟨B, 0, none⟩)]] w fun e w' => e = .returned (.bool r) ∧ Below w.heap.size w w' := by
 have hcall := index_calls k d A c l r B w hr hB hc h
 clear hr hB hc h
 go_enter Tryd.func65, Tryd.ntmps65
 go_wp2_with (go_at_call 88; refine hcall.mono ?_; rintro e w' ⟨⟨i, rfl, hi⟩, hb'⟩; subst hi)
 go_ret
 exact ⟨rfl, hb'⟩
set_option maxHeartbeats 1000000 in
theorem cone_Shows.calls (k : Nat) (A0 : Option Addr) (c0 : Nat) (l0 : List ByteArray) (a1 : ByteArray) (r : Bool) (w : World) (hr0 : Kd.C Kd.string w A0 l0.length l0) (_hc0 : l0.length ≤ c0) (h : cone_Shows.f k l0 a1 = some r) :
  Calls Tryd.prog 34 #[.slice A0 l0.length c0, .string a1] w fun e w' => e = .returned (.bool r) ∧ Below w.heap.size w w' := by
 have HB := Aside0.mk (Below.refl w.heap.size w)
 have HR := Aside0.mk hr0
 unfold cone_Shows.f at h
 obtain ⟨d, A3, h⟩ := Option.bind_eq_some_iff.mp h
 have A4 := Aside0.mk A3
 clear A3 hr0
 by_cases c4 : d.toList = []
 ·rw [if_pos c4] at h
  have c4b0 : (d.toList == ([] : List UInt8)) = true := beq_iff_eq.mpr c4
  clear c4
  cases Option.some.inj h
  clear h
  go_enter Tryd.func34, Tryd.ntmps34
  go_wp2_with (go_at_call 23; (with_reducible refine (path_Dir.calls k a1 d _ A4.out).mono ?_); rintro e w1 ⟨rfl, HB1⟩; have HB1 := below_step (by repeat (first | exact HB.out | apply below_alloc | apply pw_below_drewN | apply below_drew1)) HB1)
  go_ret
  exact ⟨by first | rfl | (simp; done) | (simp [*]; done), by repeat (first | (with_reducible first | exact HB1 | apply below_alloc | apply pw_below_drewN | apply below_drew1) | exact HB1)⟩
 ·rw [if_neg c4] at h
  have c4b0 : (d.toList == ([] : List UInt8)) = false := beq_eq_false_iff_ne.mpr c4
  have A5 := Aside0.mk h
  clear c4 h
  go_enter Tryd.func34, Tryd.ntmps34
  go_wp2_with (first | (go_at_call 23; (with_reducible refine (path_Dir.calls k a1 d _ A4.out).mono ?_); rintro e w1 ⟨rfl, HB1⟩; have HB1 := Aside0.mk (below_step (by repeat (first | exact HB.out | apply below_alloc | apply pw_below_drewN | apply below_drew1)) HB1)) | (go_at_call 65; refine (contains_calls k d A0 c0 l0 r w1.heap.size _ (Kd.C_below HR.out (by repeat (first | (with_reducible first | exact HB1.out | apply below_alloc | apply pw_below_drewN | apply below_drew1) | exact HB1.out))) (by simp) (by simp) A5.out).mono ?_; rintro e w2 ⟨rfl, HB2⟩))
  go_ret
  exact ⟨by first | rfl | (simp; done) | (simp [*]; done), below_step (by repeat (first | (with_reducible first | exact HB1.out | apply below_alloc | apply pw_below_drewN | apply below_drew1) | exact HB1.out)) HB2⟩
end Go.Proofs.YtdfkaclflmgkeaaDoor.PAll
