/- What functions of the program compute, each with its walk: a contract for every world and every argument of the kind told. -/
import Derived.Test.YtdfkaclflmgkeaaDoorCaPAllx0
import Derived.Test.YtdfkaclflmgkeaaDoorCaPAlly10
import Derived.Test.YtdfkaclflmgkeaaDoorCaPAlly12
namespace Go.Proofs.YtdfkaclflmgkeaaDoor.PAll
open Go.RowKit Go.Proofs.YtdfkaclflmgkeaaDoorW.PrintWords Go.Proofs.YtdfkaclflmgkeaaDoorW.PrintLast Go.Proofs.YtdfkaclflmgkeaaDoorW.PrintMore
attribute [local go_sem] max2_int min2_int max_two min_two max_three min_three max_four min_four
set_option linter.unusedVariables false
set_option linter.unusedSimpArgs false
mutual
def copseref13_IsPath.j0 : Nat → List ByteArray → Bool → Option (Bool)
 | 0, _, _ => none
 | k + 1, x3, x14 => if x14 = true then (some false) else (copseref13_IsPath.l0 k x3 0)
def copseref13_IsPath.l0 : Nat → List ByteArray → Int → Option (Bool)
 | 0, _, _ => none
 | k + 1, x3, x4 => if x4 < (x3.length : Int) then (if 0 ≤ x4 then ((copseref13_component.f k (rdOf ByteArray.empty x3 x4)).bind fun t588 => (if t588 = true then (copseref13_IsPath.l0 k x3 (wrap64 (x4 + 1))) else (some false))) else (none)) else (some true)
end
def copseref13_IsPath.f (k : Nat) (a0 : ByteArray) : Option (Bool) := (copseref13_pieces.f k a0).bind fun t584 => (if (t584.length : Int) > 12 then (copseref13_IsPath.j0 k t584 true) else (copseref13_IsPath.j0 k t584 (decide ((a0.size : Int) > 120))))
set_option maxHeartbeats 8000000 in
set_option maxRecDepth 100000 in
theorem copseref13_IsPath.calls (k : Nat) (a0 : ByteArray) (r : Bool) (w : World) (h : copseref13_IsPath.f k a0 = some r) :
  Calls Tryd.prog 81 #[.string a0] w fun e w' => e = .returned (.bool r) ∧ Below w.heap.size w w' := by
 have HB := Aside0.mk (Below.refl w.heap.size w)
 have H : ((copseref13_pieces.f k a0).bind fun t584 => (if (t584.length : Int) > 12 then (copseref13_IsPath.j0 k t584 true) else (copseref13_IsPath.j0 k t584 (decide ((a0.size : Int) > 120))))) = some r := h
 clear h
 replace H := Option.bind_eq_some_iff.mp H
 obtain ⟨t584, A20, H⟩ := H
 try dsimp only at H
 have A2 := Aside0.mk A20
 clear A20
 have HC3 := Aside0.mk H
 clear H
 go_enter Tryd.func81, Tryd.ntmps81
 go_upto_region 2 with (first | ((with_reducible refine gate_callee (f := 105) rfl ?_); refine goesL_ (some 6) rfl rfl Tryd.func105 (by kernel_rfl) rfl #[.string a0] rfl (by (try simp only [List.map_toArray, List.map_cons, List.map_nil]); first | done | rfl | (simp only [List.length_drop, List.length_take]; rfl)) ?_; (with_reducible refine (copseref13_pieces.calls k a0 t584 _ A2.out).mono ?_); rintro e w4 ⟨v585, rfl, ho0, hb⟩; refine ⟨_, rfl, ?_⟩; have n0_ := Aside0.mk (Kd.R_lower ho0 (below_size (by repeat (first | (with_reducible first | exact HB.out | apply below_alloc | apply pw_below_drewN | apply below_drew1) | exact HB.out)))); have n1_ := Aside0.mk (below_step (by repeat (first | (with_reducible first | exact HB.out | apply below_alloc | apply pw_below_drewN | apply below_drew1) | exact HB.out)) hb); clear HB; have HO586 := n0_; have HB := n1_; clear n0_ n1_; (try clear hb); (try clear hb2); (try clear hk); (try clear hi); (try clear ho0)))
 (try simp only [Act.put, List.setIfInBounds_toArray, List.set_cons_zero, List.set_cons_succ])
 go_cut [14] (fun v14 wc => ∃ (kq : Nat) (x14_2 : Bool), v14 = .bool x14_2 ∧ Aside0 (copseref13_IsPath.j0 kq t584 x14_2 = some r) ∧ Aside0 (kq ≤ k) ∧ Aside0 (Kd.R Kd.string 9 wc w.heap.size (fun _ => True) v585 t584) ∧ Aside0 (Below w.heap.size w wc))
 case first =>
  have H := HC3.out
  clear HC3
  by_cases c5 : (t584.length : Int) > 12
  ·rw [if_pos c5] at H
   have c5b0 : decide (12 < (t584.length : Int)) = true := decide_eq_true c5
   have c5b1 : decide (12 < t584.length) = true := decide_eq_true (by omega)
   clear c5
   (first | rw [c5b0] | (simp only [i64_w, i32_w]; rw [c5b0]) | skip)
   have H' := Aside0.mk H
   clear H
   obtain ⟨Ao6, co6, eo6⟩ := Kd.R_slice HO586.out
   subst eo6
   go_wp2
   go_meet
   case rel => exact ⟨_, (true), (by first | rfl | (simp; done) | (simp [*]; done)), H', ⟨by first | omega | exact Nat.le_refl _⟩, ⟨by (with_reducible repeat (first | apply Kd.R_alloc | apply Kd.R_drewN | apply Kd.R_drew)); exact HO586.out⟩, ⟨by repeat (first | (with_reducible first | exact HB.out | apply below_alloc | apply pw_below_drewN | apply below_drew1) | exact HB.out)⟩⟩
  ·rw [if_neg c5] at H
   have c5b0 : decide (12 < (t584.length : Int)) = false := decide_eq_false c5
   have c5b1 : decide (12 < t584.length) = false := decide_eq_false (by omega)
   clear c5
   (first | rw [c5b0] | (simp only [i64_w, i32_w]; rw [c5b0]) | skip)
   have H' := Aside0.mk H
   clear H
   obtain ⟨Ao7, co7, eo7⟩ := Kd.R_slice HO586.out
   subst eo7
   go_wp2
   go_meet
   case rel => exact ⟨_, (decide ((a0.size : Int) > 120)), (by first | rfl | (simp; done) | (simp [*]; done)), H', ⟨by first | omega | exact Nat.le_refl _⟩, ⟨by (with_reducible repeat (first | apply Kd.R_alloc | apply Kd.R_drewN | apply Kd.R_drew)); exact HO586.out⟩, ⟨by repeat (first | (with_reducible first | exact HB.out | apply below_alloc | apply pw_below_drewN | apply below_drew1) | exact HB.out)⟩⟩
 case rest =>
  clear HC3
  try clear c1
  try clear p2
  try clear c5
  try clear c5b0
  try clear c5b1
  obtain ⟨kq, x14_2, rfl, HA, HJ2, HO_3, HB⟩ := hcut
  cases kq with
  | zero => exact absurd HA.out (by simp [copseref13_IsPath.j0])
  | succ kj2 =>
   have H := HA.out
   clear HA
   simp only [copseref13_IsPath.j0] at H
   by_cases c8 : x14_2 = true
   ·subst c8
    rw [if_pos rfl] at H
    have H1 := H
    clear H
    have H := H1
    clear H1
    obtain rfl := Option.some.inj H
    go_wp2
    go_ret
    exact ⟨by first | rfl | (simp [errW_none, errW_some] <;> rfl) | (simp [*, errW_none, errW_some] <;> rfl), by repeat (first | (with_reducible first | exact HB.out | apply below_alloc | apply pw_below_drewN | apply below_drew1) | exact HB.out)⟩
   ·replace c8 := Bool.eq_false_iff.mpr c8
    subst c8
    have H1 : (copseref13_IsPath.l0 kj2 t584 0) = some r := by rw [if_neg (show ¬ (false = true) by decide)] at H; exact H
    clear H
    have H := H1
    clear H1
    have H' := Aside0.mk H
    clear H
    go_wp2
    go_loopg [4] kj2 (fun kq v4 w' => ∃ (x4_2 : Int), v4 = .int .i64 x4_2 ∧ Aside0 (copseref13_IsPath.l0 kq t584 x4_2 = some r) ∧ Aside0 (kq ≤ kj2) ∧ Aside0 (Kd.R Kd.string 9 w' w.heap.size (fun _ => True) v585 t584) ∧ Aside0 (Below w.heap.size w w'))
    case atStart => exact ⟨(0), (by first | rfl | (simp; done) | (simp [*]; done)), H', ⟨Nat.le_refl _⟩, ⟨by (with_reducible repeat (first | apply Kd.R_alloc | apply Kd.R_drewN | apply Kd.R_drew)); exact HO_3.out⟩, ⟨by repeat (first | (with_reducible first | exact HB.out | apply below_alloc | apply pw_below_drewN | apply below_drew1) | exact HB.out)⟩⟩
    case round =>
     clear H'
     try clear c1
     try clear p2
     try clear c5
     try clear c5b0
     try clear c5b1
     try clear c8
     try clear p2
     obtain ⟨x4_2, rfl, HA, HK2, HO_3, HB⟩ := hrel
     cases gk with
     | zero => exact absurd HA.out (by simp [copseref13_IsPath.l0])
     | succ k2 =>
      have H := HA.out
      clear HA
      simp only [copseref13_IsPath.l0] at H
      by_cases c9 : x4_2 < (t584.length : Int)
      ·rw [if_pos c9] at H
       have c9b0 : decide (x4_2 < (t584.length : Int)) = true := decide_eq_true c9
       clear c9
       by_cases c10 : 0 ≤ x4_2
       ·rw [if_pos c10] at H
        have c10b0 : decide (0 ≤ x4_2) = true := decide_eq_true c10
        clear c10
        replace H := Option.bind_eq_some_iff.mp H
        obtain ⟨t588, A110, H⟩ := H
        try dsimp only at H
        have A11 := Aside0.mk A110
        clear A110
        by_cases c12 : t588 = true
        ·subst c12
         rw [if_pos rfl] at H
         have H1 := H
         clear H
         have H := H1
         clear H1
         have H' := Aside0.mk H
         clear H
         obtain ⟨Ao13, co13, eo13⟩ := Kd.R_slice HO_3.out
         subst eo13
         have p587 : 0 ≤ (x4_2 : Int) := of_decide_eq_true (by first | (with_reducible assumption) | assumption)
         have q587 : x4_2 < (t584.length : Int) := of_decide_eq_true (by first | (with_reducible assumption) | assumption)
         obtain ⟨ad587, e587, hx587_0⟩ := Kd.at_string (Kd.R_reads' HO_3.out).2.2 x4_2 p587 q587
         cases e587
         replace p587 := eq_true p587
         replace q587 := eq_true q587
         go_wp2_with (first | ((with_reducible refine gate_callee (f := 106) rfl ?_); refine goesL_ (some 25) rfl rfl Tryd.func106 (by kernel_rfl) rfl #[.string (rdOf ByteArray.empty t584 x4_2)] rfl (by (try simp only [List.map_toArray, List.map_cons, List.map_nil]); first | done | rfl | (simp only [List.length_drop, List.length_take]; rfl)) ?_; (with_reducible refine (copseref13_component.calls k2 (rdOf ByteArray.empty t584 x4_2) true _ A11.out).mono ?_); rintro e w' ⟨rfl, ⟨nd, rfl⟩⟩; refine ⟨_, rfl, ?_⟩))
         go_roundg k2
         case measure => have := HJ2.out; have := HK2.out; omega
         case rel => exact ⟨(wrap64 (x4_2 + 1)), (by first | rfl | (simp; done) | (simp [*]; done)), H', ⟨by have := HJ2.out; have := HK2.out; omega⟩, ⟨by (with_reducible repeat (first | apply Kd.R_alloc | apply Kd.R_drewN | apply Kd.R_drew)); exact HO_3.out⟩, ⟨by repeat (first | (with_reducible first | exact HB.out | apply below_alloc | apply pw_below_drewN | apply below_drew1) | exact HB.out)⟩⟩
        ·replace c12 := Bool.eq_false_iff.mpr c12
         subst c12
         have H1 : (some false) = some r := by rw [if_neg (show ¬ (false = true) by decide)] at H; exact H
         clear H
         have H := H1
         clear H1
         obtain rfl := Option.some.inj H
         obtain ⟨Ao14, co14, eo14⟩ := Kd.R_slice HO_3.out
         subst eo14
         have p587 : 0 ≤ (x4_2 : Int) := of_decide_eq_true (by first | (with_reducible assumption) | assumption)
         have q587 : x4_2 < (t584.length : Int) := of_decide_eq_true (by first | (with_reducible assumption) | assumption)
         obtain ⟨ad587, e587, hx587_0⟩ := Kd.at_string (Kd.R_reads' HO_3.out).2.2 x4_2 p587 q587
         cases e587
         replace p587 := eq_true p587
         replace q587 := eq_true q587
         go_wp2_with (first | ((with_reducible refine gate_callee (f := 106) rfl ?_); refine goesL_ (some 25) rfl rfl Tryd.func106 (by kernel_rfl) rfl #[.string (rdOf ByteArray.empty t584 x4_2)] rfl (by (try simp only [List.map_toArray, List.map_cons, List.map_nil]); first | done | rfl | (simp only [List.length_drop, List.length_take]; rfl)) ?_; (with_reducible refine (copseref13_component.calls k2 (rdOf ByteArray.empty t584 x4_2) false _ A11.out).mono ?_); rintro e w' ⟨rfl, ⟨nd, rfl⟩⟩; refine ⟨_, rfl, ?_⟩))
         go_ret
         exact ⟨by first | rfl | (simp [errW_none, errW_some] <;> rfl) | (simp [*, errW_none, errW_some] <;> rfl), by repeat (first | (with_reducible first | exact HB.out | apply below_alloc | apply pw_below_drewN | apply below_drew1) | exact HB.out)⟩
       ·rw [if_neg c10] at H
        exact absurd H (by simp)
      ·rw [if_neg c9] at H
       have c9b0 : decide (x4_2 < (t584.length : Int)) = false := decide_eq_false c9
       clear c9
       obtain rfl := Option.some.inj H
       obtain ⟨Ao15, co15, eo15⟩ := Kd.R_slice HO_3.out
       subst eo15
       go_wp2
       go_ret
       exact ⟨by first | rfl | (simp [errW_none, errW_some] <;> rfl) | (simp [*, errW_none, errW_some] <;> rfl), by repeat (first | (with_reducible first | exact HB.out | apply below_alloc | apply pw_below_drewN | apply below_drew1) | exact HB.out)⟩
def copseref13_Base.l0 : Nat → ByteArray → Int → Option (ByteArray)
 | 0, _, _ => none
 | k + 1, x0, x3 => if x3 ≥ 0 then (if 0 ≤ x3 then (if x3 < (x0.size : Int) then (if (bt x0 x3) = 47 then (if 0 ≤ (wrap64 (x3 + 1)) then (if (wrap64 (x3 + 1)) ≤ (x0.size : Int) then (some (x0.extract ((wrap64 (x3 + 1)) : Int).toNat x0.size)) else (none)) else (none)) else (copseref13_Base.l0 k x0 (wrap64 (x3 - 1)))) else (none)) else (none)) else (some x0)
def copseref13_Base.f (k : Nat) (a0 : ByteArray) : Option (ByteArray) := copseref13_Base.l0 k a0 (wrap64 ((a0.size : Int) - 1))
set_option maxHeartbeats 8000000 in
set_option maxRecDepth 100000 in
theorem copseref13_Base.calls (k : Nat) (a0 : ByteArray) (r : ByteArray) (w : World) (h : copseref13_Base.f k a0 = some r) :
  Calls Tryd.prog 82 #[.string a0] w fun e w' => e = .returned (.string r) ∧ Drawn0 w w' := by
 have H : (copseref13_Base.l0 k a0 (wrap64 ((a0.size : Int) - 1))) = some r := h
 clear h
 have H' := Aside0.mk H
 clear H
 go_enter Tryd.func82, Tryd.ntmps82
 go_wp2
 go_loopg [3] k (fun kq v3 w' => ∃ (x3_1 : Int), v3 = .int .i64 x3_1 ∧ Aside0 (copseref13_Base.l0 kq a0 x3_1 = some r) ∧ Aside0 (kq ≤ k) ∧ Drawn0 w w')
 case atStart => exact ⟨(wrap64 ((a0.size : Int) - 1)), (by first | rfl | (simp; done) | (simp [*]; done)), H', ⟨Nat.le_refl _⟩, by repeat (first | exact Drawn0.refl _ | apply Drawn0.step)⟩
 case round =>
  clear H'
  obtain ⟨x3_1, rfl, HA, HK1, ⟨m1, rfl⟩⟩ := hrel
  cases gk with
  | zero => exact absurd HA.out (by simp [copseref13_Base.l0])
  | succ k1 =>
   have H := HA.out
   clear HA
   simp only [copseref13_Base.l0] at H
   by_cases c2 : x3_1 ≥ 0
   ·rw [if_pos c2] at H
    have c2b0 : decide (0 ≤ x3_1) = true := decide_eq_true c2
    clear c2
    by_cases c3 : 0 ≤ x3_1
    ·rw [if_pos c3] at H
     have c3b0 : decide (0 ≤ x3_1) = true := decide_eq_true c3
     clear c3
     by_cases c4 : x3_1 < (a0.size : Int)
     ·rw [if_pos c4] at H
      have c4b0 : decide (x3_1 < (a0.size : Int)) = true := decide_eq_true c4
      clear c4
      by_cases c6 : (bt a0 x3_1) = 47
      ·rw [if_pos c6] at H
       have c6b0 : ((bt a0 x3_1) == 47) = true := beq_iff_eq.mpr c6
       have c6b1 : ((bt a0 x3_1) != 47) = false := bne_eq_false_iff_eq.mpr c6
       clear c6
       obtain ⟨ji7, hji7⟩ : ∃ j_ : Int, (wrap64 (x3_1 + 1)) = j_ := ⟨_, rfl⟩
       replace H : (if 0 ≤ (ji7) then (if (ji7) ≤ (a0.size : Int) then (some (a0.extract ((ji7) : Int).toNat a0.size)) else (none)) else (none)) = some r := by first | (rw [hji7] at H; exact H) | (simp only [hji7] at H ⊢; exact H)
       have hji7w : (IntKind.i64.wrap (x3_1 + 1)) = ji7 := (i64_w _).trans hji7
       by_cases c8 : 0 ≤ (ji7)
       ·rw [if_pos c8] at H
        have c8b0 := eq_true c8
        have c8b1 : decide (0 ≤ (ji7)) = true := decide_eq_true c8
        clear c8
        by_cases c9 : (ji7) ≤ (a0.size : Int)
        ·rw [if_pos c9] at H
         have c9b0 := eq_true c9
         have c9b1 : decide ((ji7) ≤ (a0.size : Int)) = true := decide_eq_true c9
         clear c9
         obtain rfl := Option.some.inj H
         have p5 : 0 ≤ (x3_1 : Int) := of_decide_eq_true (by first | (with_reducible assumption) | assumption)
         have q5 : x3_1 < (a0.size : Int) := of_decide_eq_true (by first | (with_reducible assumption) | assumption)
         have hx5 := bt_at a0 x3_1
         replace p5 := eq_true p5
         replace q5 := eq_true q5
         go_wp2
         go_ret
         exact ⟨by first | rfl | (simp; done) | (simp only [← hji7] <;> (first | rfl | simp)) | (simp [*]; done), by repeat (first | exact Drawn0.refl _ | apply Drawn0.step)⟩
        ·rw [if_neg c9] at H
         exact absurd H (by simp)
       ·rw [if_neg c8] at H
        exact absurd H (by simp)
      ·rw [if_neg c6] at H
       have c6b0 : ((bt a0 x3_1) == 47) = false := beq_eq_false_iff_ne.mpr c6
       have c6b1 : ((bt a0 x3_1) != 47) = true := bne_iff_ne.mpr c6
       have H' := Aside0.mk H
       clear H
       have p5 : 0 ≤ (x3_1 : Int) := of_decide_eq_true (by first | (with_reducible assumption) | assumption)
       have q5 : x3_1 < (a0.size : Int) := of_decide_eq_true (by first | (with_reducible assumption) | assumption)
       have hx5 := bt_at a0 x3_1
       replace p5 := eq_true p5
       replace q5 := eq_true q5
       go_wp2
       go_roundg k1
       case measure => have := HK1.out; omega
       case rel => exact ⟨(wrap64 (x3_1 - 1)), (by first | rfl | (simp; done) | (simp [*]; done)), H', ⟨by have := HK1.out; omega⟩, by repeat (first | exact Drawn0.refl _ | apply Drawn0.step)⟩
     ·rw [if_neg c4] at H
      exact absurd H (by simp)
    ·rw [if_neg c3] at H
     exact absurd H (by simp)
   ·rw [if_neg c2] at H
    have c2b0 : decide (0 ≤ x3_1) = false := decide_eq_false c2
    clear c2
    obtain rfl := Option.some.inj H
    go_wp2
    go_ret
    exact ⟨by first | rfl | (simp; done) | (simp [*]; done), by repeat (first | exact Drawn0.refl _ | apply Drawn0.step)⟩
mutual
def copseref13_Path.l0 : Nat → List ByteArray → List ByteArray → Int → Option (Int)
 | 0, _, _, _ => none
 | k + 1, x5, x6, x7 => if x7 < (x5.length : Int) then (copseref13_Path.j1 k x5 x6 x7 (decide (x7 < (x6.length : Int)))) else (copseref13_Path.j1 k x5 x6 x7 false)
def copseref13_Path.j1 : Nat → List ByteArray → List ByteArray → Int → Bool → Option (Int)
 | 0, _, _, _, _ => none
 | k + 1, x5, x6, x7, x21 => if x21 = true then (if 0 ≤ x7 then (if x7 < (x5.length : Int) then (if x7 < (x6.length : Int) then (if (Op.bytesLess ((rdOf ByteArray.empty x5 x7).toList) ((rdOf ByteArray.empty x6 x7).toList)) = true then (some (-1)) else (if (Op.bytesLess ((rdOf ByteArray.empty x6 x7).toList) ((rdOf ByteArray.empty x5 x7).toList)) = true then (some 1) else (copseref13_Path.l0 k x5 x6 (wrap64 (x7 + 1))))) else (none)) else (none)) else (none)) else (if (x5.length : Int) < (x6.length : Int) then (some (-1)) else (if (x5.length : Int) > (x6.length : Int) then (some 1) else (some 0)))
end
def copseref13_Path.f (k : Nat) (a0 : ByteArray) (a1 : ByteArray) : Option (Int) := (copseref13_pieces.f k a0).bind fun t589 => ((copseref13_pieces.f k a1).bind fun t592 => (copseref13_Path.l0 k t589 t592 0))
set_option maxHeartbeats 8000000 in
set_option maxRecDepth 100000 in
theorem copseref13_Path.calls (k : Nat) (a0 : ByteArray) (a1 : ByteArray) (r : Int) (w : World) (h : copseref13_Path.f k a0 a1 = some r) :
  Calls Tryd.prog 83 #[.string a0, .string a1] w fun e w' => e = .returned (.int .i64 r) ∧ Below w.heap.size w w' := by
 have HB := Aside0.mk (Below.refl w.heap.size w)
 have H : ((copseref13_pieces.f k a0).bind fun t589 => ((copseref13_pieces.f k a1).bind fun t592 => (copseref13_Path.l0 k t589 t592 0))) = some r := h
 clear h
 replace H := Option.bind_eq_some_iff.mp H
 obtain ⟨t589, A30, H⟩ := H
 try dsimp only at H
 have A3 := Aside0.mk A30
 clear A30
 replace H := Option.bind_eq_some_iff.mp H
 obtain ⟨t592, A40, H⟩ := H
 try dsimp only at H
 have A4 := Aside0.mk A40
 clear A40
 have H' := Aside0.mk H
 clear H
 go_enter Tryd.func83, Tryd.ntmps83
 go_wp2_with (first | (go_at_call 105; (with_reducible refine (copseref13_pieces.calls k a0 t589 _ A3.out).mono ?_); rintro e w5 ⟨v590, rfl, ho0, hb⟩; have n0_ := Aside0.mk (Kd.R_lower ho0 (below_size (by repeat (first | (with_reducible first | exact HB.out | apply below_alloc | apply pw_below_drewN | apply below_drew1) | exact HB.out)))); have n1_ := Aside0.mk (below_step (by repeat (first | (with_reducible first | exact HB.out | apply below_alloc | apply pw_below_drewN | apply below_drew1) | exact HB.out)) hb); clear HB; have HO591 := n0_; have HB := n1_; clear n0_ n1_; (try clear hb); (try clear hb2); (try clear hk); (try clear hi); (try clear ho0)) | (go_at_call 105; (with_reducible refine (copseref13_pieces.calls k a1 t592 _ A4.out).mono ?_); rintro e w6 ⟨v593, rfl, ho0, hb⟩; have n0_ := Aside0.mk (Kd.R_elder' (by (with_reducible repeat (first | apply Kd.R_alloc | apply Kd.R_drewN | apply Kd.R_drew)); exact HO591.out) (Kd.R_base ho0) hb); have n1_ := Aside0.mk (Kd.R_lower (Kd.R_new' ho0 (Kd.R_lt (by (with_reducible repeat (first | apply Kd.R_alloc | apply Kd.R_drewN | apply Kd.R_drew)); exact HO591.out))) (below_size (by repeat (first | (with_reducible first | exact HB.out | apply below_alloc | apply pw_below_drewN | apply below_drew1) | exact HB.out)))); have n2_ := Aside0.mk (below_step (by repeat (first | (with_reducible first | exact HB.out | apply below_alloc | apply pw_below_drewN | apply below_drew1) | exact HB.out)) hb); clear HO591; clear HB; have HO591 := n0_; have HO594 := n1_; have HB := n2_; clear n0_ n1_ n2_; (try clear hb); (try clear hb2); (try clear hk); (try clear hi); (try clear ho0)))
 repeat (go_quiet (first | (go_at_call 105; (with_reducible refine (copseref13_pieces.calls k a0 t589 _ A3.out).mono ?_); rintro e w5 ⟨v590, rfl, ho0, hb⟩; have n0_ := Aside0.mk (Kd.R_lower ho0 (below_size (by repeat (first | (with_reducible first | exact HB.out | apply below_alloc | apply pw_below_drewN | apply below_drew1) | exact HB.out)))); have n1_ := Aside0.mk (below_step (by repeat (first | (with_reducible first | exact HB.out | apply below_alloc | apply pw_below_drewN | apply below_drew1) | exact HB.out)) hb); clear HB; have HO591 := n0_; have HB := n1_; clear n0_ n1_; (try clear hb); (try clear hb2); (try clear hk); (try clear hi); (try clear ho0)) | (go_at_call 105; (with_reducible refine (copseref13_pieces.calls k a1 t592 _ A4.out).mono ?_); rintro e w6 ⟨v593, rfl, ho0, hb⟩; have n0_ := Aside0.mk (Kd.R_elder' (by (with_reducible repeat (first | apply Kd.R_alloc | apply Kd.R_drewN | apply Kd.R_drew)); exact HO591.out) (Kd.R_base ho0) hb); have n1_ := Aside0.mk (Kd.R_lower (Kd.R_new' ho0 (Kd.R_lt (by (with_reducible repeat (first | apply Kd.R_alloc | apply Kd.R_drewN | apply Kd.R_drew)); exact HO591.out))) (below_size (by repeat (first | (with_reducible first | exact HB.out | apply below_alloc | apply pw_below_drewN | apply below_drew1) | exact HB.out)))); have n2_ := Aside0.mk (below_step (by repeat (first | (with_reducible first | exact HB.out | apply below_alloc | apply pw_below_drewN | apply below_drew1) | exact HB.out)) hb); clear HO591; clear HB; have HO591 := n0_; have HO594 := n1_; have HB := n2_; clear n0_ n1_ n2_; (try clear hb); (try clear hb2); (try clear hk); (try clear hi); (try clear ho0))); try go_wp2_with (first | (go_at_call 105; (with_reducible refine (copseref13_pieces.calls k a0 t589 _ A3.out).mono ?_); rintro e w5 ⟨v590, rfl, ho0, hb⟩; have n0_ := Aside0.mk (Kd.R_lower ho0 (below_size (by repeat (first | (with_reducible first | exact HB.out | apply below_alloc | apply pw_below_drewN | apply below_drew1) | exact HB.out)))); have n1_ := Aside0.mk (below_step (by repeat (first | (with_reducible first | exact HB.out | apply below_alloc | apply pw_below_drewN | apply below_drew1) | exact HB.out)) hb); clear HB; have HO591 := n0_; have HB := n1_; clear n0_ n1_; (try clear hb); (try clear hb2); (try clear hk); (try clear hi); (try clear ho0)) | (go_at_call 105; (with_reducible refine (copseref13_pieces.calls k a1 t592 _ A4.out).mono ?_); rintro e w6 ⟨v593, rfl, ho0, hb⟩; have n0_ := Aside0.mk (Kd.R_elder' (by (with_reducible repeat (first | apply Kd.R_alloc | apply Kd.R_drewN | apply Kd.R_drew)); exact HO591.out) (Kd.R_base ho0) hb); have n1_ := Aside0.mk (Kd.R_lower (Kd.R_new' ho0 (Kd.R_lt (by (with_reducible repeat (first | apply Kd.R_alloc | apply Kd.R_drewN | apply Kd.R_drew)); exact HO591.out))) (below_size (by repeat (first | (with_reducible first | exact HB.out | apply below_alloc | apply pw_below_drewN | apply below_drew1) | exact HB.out)))); have n2_ := Aside0.mk (below_step (by repeat (first | (with_reducible first | exact HB.out | apply below_alloc | apply pw_below_drewN | apply below_drew1) | exact HB.out)) hb); clear HO591; clear HB; have HO591 := n0_; have HO594 := n1_; have HB := n2_; clear n0_ n1_ n2_; (try clear hb); (try clear hb2); (try clear hk); (try clear hi); (try clear ho0))))
 go_loopg [7] k (fun kq v7 w' => ∃ (x7_1 : Int), v7 = .int .i64 x7_1 ∧ Aside0 (copseref13_Path.l0 kq t589 t592 x7_1 = some r) ∧ Aside0 (kq ≤ k) ∧ Aside0 (Kd.R Kd.string 9 w' w.heap.size (fun k_ => some k_ ≠ (v593 : Value).ownBlock) v590 t589) ∧ Aside0 (Kd.R Kd.string 9 w' w.heap.size (fun k_ => some k_ ≠ (v590 : Value).ownBlock) v593 t592) ∧ Aside0 (Below w.heap.size w w'))
 case atStart => exact ⟨(0), (by first | rfl | (simp; done) | (simp [*]; done)), H', ⟨Nat.le_refl _⟩, ⟨by (with_reducible repeat (first | apply Kd.R_alloc | apply Kd.R_drewN | apply Kd.R_drew)); exact Kd.R_mono HO591.out (fun _ hk => hk.2)⟩, ⟨by (with_reducible repeat (first | apply Kd.R_alloc | apply Kd.R_drewN | apply Kd.R_drew)); exact Kd.R_mono HO594.out (fun _ hk => hk.2)⟩, ⟨by repeat (first | (with_reducible first | exact HB.out | apply below_alloc | apply pw_below_drewN | apply below_drew1) | exact HB.out)⟩⟩
 case round =>
  clear H'
  try clear p2
  obtain ⟨x7_1, rfl, HA, HK1, HO_5, HO_6, HB⟩ := hrel
  cases gk with
  | zero => exact absurd HA.out (by simp [copseref13_Path.l0])
  | succ k1 =>
   have H := HA.out
   clear HA
   simp only [copseref13_Path.l0] at H
   have HC7 := Aside0.mk H
   clear H
   go_upto_region 4 with (fail)
   repeat (go_quiet (fail); go_upto_region 4 with (fail))
   go_cut [21] (fun v21 wc => ∃ (kq : Nat) (x21_6 : Bool), v21 = .bool x21_6 ∧ Aside0 (copseref13_Path.j1 kq t589 t592 x7_1 x21_6 = some r) ∧ Aside0 (kq ≤ k1) ∧ Aside0 (Kd.R Kd.string 9 wc w.heap.size (fun k_ => some k_ ≠ (v593 : Value).ownBlock) v590 t589) ∧ Aside0 (Kd.R Kd.string 9 wc w.heap.size (fun k_ => some k_ ≠ (v590 : Value).ownBlock) v593 t592) ∧ Aside0 (Below w.heap.size w wc))
   case first =>
    have H := HC7.out
    clear HC7
    by_cases c8 : x7_1 < (t589.length : Int)
    ·rw [if_pos c8] at H
     have c8b0 : decide (x7_1 < (t589.length : Int)) = true := decide_eq_true c8
     clear c8
     (first | rw [c8b0] | (simp only [i64_w, i32_w]; rw [c8b0]) | skip)
     have H' := Aside0.mk H
     clear H
     obtain ⟨Ao9, co9, eo9⟩ := Kd.R_slice HO_5.out
     subst eo9
     obtain ⟨Ao10, co10, eo10⟩ := Kd.R_slice HO_6.out
     subst eo10
     go_wp2
     repeat (go_quiet (fail); try go_wp2)
     go_meet
     case rel => exact ⟨_, (decide (x7_1 < (t592.length : Int))), (by first | rfl | (simp; done) | (simp [*]; done)), H', ⟨by have := HK1.out; first | omega | exact Nat.le_refl _⟩, ⟨by (with_reducible repeat (first | apply Kd.R_alloc | apply Kd.R_drewN | apply Kd.R_drew)); exact HO_5.out⟩, ⟨by (with_reducible repeat (first | apply Kd.R_alloc | apply Kd.R_drewN | apply Kd.R_drew)); exact HO_6.out⟩, ⟨by repeat (first | (with_reducible first | exact HB.out | apply below_alloc | apply pw_below_drewN | apply below_drew1) | exact HB.out)⟩⟩
    ·rw [if_neg c8] at H
     have c8b0 : decide (x7_1 < (t589.length : Int)) = false := decide_eq_false c8
     clear c8
     (first | rw [c8b0] | (simp only [i64_w, i32_w]; rw [c8b0]) | skip)
     have H' := Aside0.mk H
     clear H
     obtain ⟨Ao11, co11, eo11⟩ := Kd.R_slice HO_5.out
     subst eo11
     go_wp2
     repeat (go_quiet (fail); try go_wp2)
     go_meet
     case rel => exact ⟨_, (false), (by first | rfl | (simp; done) | (simp [*]; done)), H', ⟨by have := HK1.out; first | omega | exact Nat.le_refl _⟩, ⟨by (with_reducible repeat (first | apply Kd.R_alloc | apply Kd.R_drewN | apply Kd.R_drew)); exact HO_5.out⟩, ⟨by (with_reducible repeat (first | apply Kd.R_alloc | apply Kd.R_drewN | apply Kd.R_drew)); exact HO_6.out⟩, ⟨by repeat (first | (with_reducible first | exact HB.out | apply below_alloc | apply pw_below_drewN | apply below_drew1) | exact HB.out)⟩⟩
   case rest =>
    clear HC7
    try clear p2
    try clear c8
    try clear c8b0
    try clear p2
    obtain ⟨kq, x21_6, rfl, HA, HJ6, HO_5, HO_6, HB⟩ := hcut
    cases kq with
    | zero => exact absurd HA.out (by simp [copseref13_Path.j1])
    | succ kj6 =>
     have H := HA.out
     clear HA
     simp only [copseref13_Path.j1] at H
     by_cases c12 : x21_6 = true
     ·subst c12
      rw [if_pos rfl] at H
      have H1 := H
      clear H
      have H := H1
      clear H1
      by_cases c13 : 0 ≤ x7_1
      ·rw [if_pos c13] at H
       have c13b0 : decide (0 ≤ x7_1) = true := decide_eq_true c13
       clear c13
       by_cases c14 : x7_1 < (t589.length : Int)
       ·rw [if_pos c14] at H
        have c14b0 : decide (x7_1 < (t589.length : Int)) = true := decide_eq_true c14
        clear c14
        by_cases c15 : x7_1 < (t592.length : Int)
        ·rw [if_pos c15] at H
         have c15b0 : decide (x7_1 < (t592.length : Int)) = true := decide_eq_true c15
         clear c15
         by_cases c16 : (Op.bytesLess ((rdOf ByteArray.empty t589 x7_1).toList) ((rdOf ByteArray.empty t592 x7_1).toList)) = true
         ·rw [if_pos c16] at H
          have c16b0 : (Op.bytesLess ((rdOf ByteArray.empty t589 x7_1).toList) ((rdOf ByteArray.empty t592 x7_1).toList)) = true := c16
          clear c16
          obtain rfl := Option.some.inj H
          obtain ⟨Ao17, co17, eo17⟩ := Kd.R_slice HO_5.out
          subst eo17
          have p595 : 0 ≤ (x7_1 : Int) := of_decide_eq_true (by first | (with_reducible assumption) | assumption)
          have q595 : x7_1 < (t589.length : Int) := of_decide_eq_true (by first | (with_reducible assumption) | assumption)
          obtain ⟨ad595, e595, hx595_0⟩ := Kd.at_string (Kd.R_reads' HO_5.out).2.2 x7_1 p595 q595
          cases e595
          replace p595 := eq_true p595
          replace q595 := eq_true q595
          obtain ⟨Ao18, co18, eo18⟩ := Kd.R_slice HO_6.out
          subst eo18
          have p596 : 0 ≤ (x7_1 : Int) := of_decide_eq_true (by first | (with_reducible assumption) | assumption)
          have q596 : x7_1 < (t592.length : Int) := of_decide_eq_true (by first | (with_reducible assumption) | assumption)
          obtain ⟨ad596, e596, hx596_0⟩ := Kd.at_string (Kd.R_reads' HO_6.out).2.2 x7_1 p596 q596
          cases e596
          replace p596 := eq_true p596
          replace q596 := eq_true q596
          go_wp2
          repeat (go_quiet (fail); try go_wp2)
          go_ret
          exact ⟨by first | rfl | (simp [errW_none, errW_some] <;> rfl) | (simp [*, errW_none, errW_some] <;> rfl), by repeat (first | (with_reducible first | exact HB.out | apply below_alloc | apply pw_below_drewN | apply below_drew1) | exact HB.out)⟩
         ·rw [if_neg c16] at H
          have c16b0 : (Op.bytesLess ((rdOf ByteArray.empty t589 x7_1).toList) ((rdOf ByteArray.empty t592 x7_1).toList)) = false := by simpa using c16
          clear c16
          by_cases c19 : (Op.bytesLess ((rdOf ByteArray.empty t592 x7_1).toList) ((rdOf ByteArray.empty t589 x7_1).toList)) = true
          ·rw [if_pos c19] at H
           have c19b0 : (Op.bytesLess ((rdOf ByteArray.empty t592 x7_1).toList) ((rdOf ByteArray.empty t589 x7_1).toList)) = true := c19
           have c19b9 : (((rdOf ByteArray.empty t589 x7_1).toList) == ((rdOf ByteArray.empty t592 x7_1).toList)) = false := Go.Proofs.YtdfkaclflmgkeaaDoor.Sp.gt_ne c16b0 c19b0
           clear c19
           obtain rfl := Option.some.inj H
           obtain ⟨Ao20, co20, eo20⟩ := Kd.R_slice HO_5.out
           subst eo20
           have p595 : 0 ≤ (x7_1 : Int) := of_decide_eq_true (by first | (with_reducible assumption) | assumption)
           have q595 : x7_1 < (t589.length : Int) := of_decide_eq_true (by first | (with_reducible assumption) | assumption)
           obtain ⟨ad595, e595, hx595_0⟩ := Kd.at_string (Kd.R_reads' HO_5.out).2.2 x7_1 p595 q595
           cases e595
           replace p595 := eq_true p595
           replace q595 := eq_true q595
           obtain ⟨Ao21, co21, eo21⟩ := Kd.R_slice HO_6.out
           subst eo21
           have p596 : 0 ≤ (x7_1 : Int) := of_decide_eq_true (by first | (with_reducible assumption) | assumption)
           have q596 : x7_1 < (t592.length : Int) := of_decide_eq_true (by first | (with_reducible assumption) | assumption)
           obtain ⟨ad596, e596, hx596_0⟩ := Kd.at_string (Kd.R_reads' HO_6.out).2.2 x7_1 p596 q596
           cases e596
           replace p596 := eq_true p596
           replace q596 := eq_true q596
           have p597 : 0 ≤ (x7_1 : Int) := of_decide_eq_true (by first | (with_reducible assumption) | assumption)
           have q597 : x7_1 < (t589.length : Int) := of_decide_eq_true (by first | (with_reducible assumption) | assumption)
           obtain ⟨ad597, e597, hx597_0⟩ := Kd.at_string (Kd.R_reads' HO_5.out).2.2 x7_1 p597 q597
           obtain rfl : ad595 = ad597 := (by injection e597)
           replace p597 := eq_true p597
           replace q597 := eq_true q597
           have p598 : 0 ≤ (x7_1 : Int) := of_decide_eq_true (by first | (with_reducible assumption) | assumption)
           have q598 : x7_1 < (t592.length : Int) := of_decide_eq_true (by first | (with_reducible assumption) | assumption)
           obtain ⟨ad598, e598, hx598_0⟩ := Kd.at_string (Kd.R_reads' HO_6.out).2.2 x7_1 p598 q598
           obtain rfl : ad596 = ad598 := (by injection e598)
           replace p598 := eq_true p598
           replace q598 := eq_true q598
           go_wp2
           repeat (go_quiet (fail); try go_wp2)
           go_ret
           exact ⟨by first | rfl | (simp [errW_none, errW_some] <;> rfl) | (simp [*, errW_none, errW_some] <;> rfl), by repeat (first | (with_reducible first | exact HB.out | apply below_alloc | apply pw_below_drewN | apply below_drew1) | exact HB.out)⟩
          ·rw [if_neg c19] at H
           have c19b0 : (Op.bytesLess ((rdOf ByteArray.empty t592 x7_1).toList) ((rdOf ByteArray.empty t589 x7_1).toList)) = false := by simpa using c19
           have c19b9 : (((rdOf ByteArray.empty t589 x7_1).toList) == ((rdOf ByteArray.empty t592 x7_1).toList)) = true := Go.Proofs.YtdfkaclflmgkeaaDoor.Sp.gt_eq c16b0 c19b0
           clear c19
           have H' := Aside0.mk H
           clear H
           obtain ⟨Ao22, co22, eo22⟩ := Kd.R_slice HO_5.out
           subst eo22
           have p595 : 0 ≤ (x7_1 : Int) := of_decide_eq_true (by first | (with_reducible assumption) | assumption)
           have q595 : x7_1 < (t589.length : Int) := of_decide_eq_true (by first | (with_reducible assumption) | assumption)
           obtain ⟨ad595, e595, hx595_0⟩ := Kd.at_string (Kd.R_reads' HO_5.out).2.2 x7_1 p595 q595
           cases e595
           replace p595 := eq_true p595
           replace q595 := eq_true q595
           obtain ⟨Ao23, co23, eo23⟩ := Kd.R_slice HO_6.out
           subst eo23
           have p596 : 0 ≤ (x7_1 : Int) := of_decide_eq_true (by first | (with_reducible assumption) | assumption)
           have q596 : x7_1 < (t592.length : Int) := of_decide_eq_true (by first | (with_reducible assumption) | assumption)
           obtain ⟨ad596, e596, hx596_0⟩ := Kd.at_string (Kd.R_reads' HO_6.out).2.2 x7_1 p596 q596
           cases e596
           replace p596 := eq_true p596
           replace q596 := eq_true q596
           have p597 : 0 ≤ (x7_1 : Int) := of_decide_eq_true (by first | (with_reducible assumption) | assumption)
           have q597 : x7_1 < (t589.length : Int) := of_decide_eq_true (by first | (with_reducible assumption) | assumption)
           obtain ⟨ad597, e597, hx597_0⟩ := Kd.at_string (Kd.R_reads' HO_5.out).2.2 x7_1 p597 q597
           obtain rfl : ad595 = ad597 := (by injection e597)
           replace p597 := eq_true p597
           replace q597 := eq_true q597
           have p598 : 0 ≤ (x7_1 : Int) := of_decide_eq_true (by first | (with_reducible assumption) | assumption)
           have q598 : x7_1 < (t592.length : Int) := of_decide_eq_true (by first | (with_reducible assumption) | assumption)
           obtain ⟨ad598, e598, hx598_0⟩ := Kd.at_string (Kd.R_reads' HO_6.out).2.2 x7_1 p598 q598
           obtain rfl : ad596 = ad598 := (by injection e598)
           replace p598 := eq_true p598
           replace q598 := eq_true q598
           go_wp2
           repeat (go_quiet (fail); try go_wp2)
           go_roundg kj6
           case measure => have := HK1.out; have := HJ6.out; omega
           case rel => exact ⟨(wrap64 (x7_1 + 1)), (by first | rfl | (simp; done) | (simp [*]; done)), H', ⟨by have := HK1.out; have := HJ6.out; omega⟩, ⟨by (with_reducible repeat (first | apply Kd.R_alloc | apply Kd.R_drewN | apply Kd.R_drew)); exact HO_5.out⟩, ⟨by (with_reducible repeat (first | apply Kd.R_alloc | apply Kd.R_drewN | apply Kd.R_drew)); exact HO_6.out⟩, ⟨by repeat (first | (with_reducible first | exact HB.out | apply below_alloc | apply pw_below_drewN | apply below_drew1) | exact HB.out)⟩⟩
        ·rw [if_neg c15] at H
         exact absurd H (by simp)
       ·rw [if_neg c14] at H
        exact absurd H (by simp)
      ·rw [if_neg c13] at H
       exact absurd H (by simp)
     ·replace c12 := Bool.eq_false_iff.mpr c12
      subst c12
      have H1 : (if (t589.length : Int) < (t592.length : Int) then (some (-1)) else (if (t589.length : Int) > (t592.length : Int) then (some 1) else (some 0))) = some r := by rw [if_neg (show ¬ (false = true) by decide)] at H; exact H
      clear H
      have H := H1
      clear H1
      by_cases c24 : (t589.length : Int) < (t592.length : Int)
      ·rw [if_pos c24] at H
       have c24b0 : decide ((t589.length : Int) < (t592.length : Int)) = true := decide_eq_true c24
       have c24b1 : decide (t589.length < t592.length) = true := decide_eq_true (Int.ofNat_lt.mp c24)
       clear c24
       obtain rfl := Option.some.inj H
       obtain ⟨Ao25, co25, eo25⟩ := Kd.R_slice HO_5.out
       subst eo25
       obtain ⟨Ao26, co26, eo26⟩ := Kd.R_slice HO_6.out
       subst eo26
       go_wp2
       repeat (go_quiet (fail); try go_wp2)
       go_ret
       exact ⟨by first | rfl | (simp [errW_none, errW_some] <;> rfl) | (simp [*, errW_none, errW_some] <;> rfl), by repeat (first | (with_reducible first | exact HB.out | apply below_alloc | apply pw_below_drewN | apply below_drew1) | exact HB.out)⟩
      ·rw [if_neg c24] at H
       have c24b0 : decide ((t589.length : Int) < (t592.length : Int)) = false := decide_eq_false c24
       have c24b1 : decide (t589.length < t592.length) = false := decide_eq_false (fun h => c24 (Int.ofNat_lt.mpr h))
       clear c24
       by_cases c27 : (t589.length : Int) > (t592.length : Int)
       ·rw [if_pos c27] at H
        have c27b0 : decide ((t592.length : Int) < (t589.length : Int)) = true := decide_eq_true c27
        have c27b1 : decide (t592.length < t589.length) = true := decide_eq_true (Int.ofNat_lt.mp c27)
        clear c27
        obtain rfl := Option.some.inj H
        obtain ⟨Ao28, co28, eo28⟩ := Kd.R_slice HO_5.out
        subst eo28
        obtain ⟨Ao29, co29, eo29⟩ := Kd.R_slice HO_6.out
        subst eo29
        go_wp2
        repeat (go_quiet (fail); try go_wp2)
        go_ret
        exact ⟨by first | rfl | (simp [errW_none, errW_some] <;> rfl) | (simp [*, errW_none, errW_some] <;> rfl), by repeat (first | (with_reducible first | exact HB.out | apply below_alloc | apply pw_below_drewN | apply below_drew1) | exact HB.out)⟩
       ·rw [if_neg c27] at H
        have c27b0 : decide ((t592.length : Int) < (t589.length : Int)) = false := decide_eq_false c27
        have c27b1 : decide (t592.length < t589.length) = false := decide_eq_false (fun h => c27 (Int.ofNat_lt.mpr h))
        clear c27
        obtain rfl := Option.some.inj H
        obtain ⟨Ao30, co30, eo30⟩ := Kd.R_slice HO_5.out
        subst eo30
        obtain ⟨Ao31, co31, eo31⟩ := Kd.R_slice HO_6.out
        subst eo31
        go_wp2
        repeat (go_quiet (fail); try go_wp2)
        go_ret
        exact ⟨by first | rfl | (simp [errW_none, errW_some] <;> rfl) | (simp [*, errW_none, errW_some] <;> rfl), by repeat (first | (with_reducible first | exact HB.out | apply below_alloc | apply pw_below_drewN | apply below_drew1) | exact HB.out)⟩
def copseref13_Above.f (a0 : ByteArray) (a1 : ByteArray) : Option (Bool) := if a0.toList = a1.toList then (some false) else (if a0.toList = ([] : List UInt8) then (some true) else (if (a1.size : Int) > (a0.size : Int) then (if 0 ≤ (a0.size : Int) then (if (a0.size : Int) ≤ (a1.size : Int) then (if (a1.extract 0 ((a0.size : Int) : Int).toNat).toList = a0.toList then (if (a0.size : Int) < (a1.size : Int) then (some ((bt a1 (a0.size : Int)) == 47)) else (none)) else (some false)) else (none)) else (none)) else (some false)))
set_option maxHeartbeats 8000000 in
set_option maxRecDepth 100000 in
theorem copseref13_Above.calls (a0 : ByteArray) (a1 : ByteArray) (r : Bool) (w : World) (h : copseref13_Above.f a0 a1 = some r) :
  Calls Tryd.prog 84 #[.string a0, .string a1] w fun e w' => e = .returned (.bool r) ∧ Drawn0 w w' := by
 have H : (if a0.toList = a1.toList then (some false) else (if a0.toList = ([] : List UInt8) then (some true) else (if (a1.size : Int) > (a0.size : Int) then (if 0 ≤ (a0.size : Int) then (if (a0.size : Int) ≤ (a1.size : Int) then (if (a1.extract 0 ((a0.size : Int) : Int).toNat).toList = a0.toList then (if (a0.size : Int) < (a1.size : Int) then (some ((bt a1 (a0.size : Int)) == 47)) else (none)) else (some false)) else (none)) else (none)) else (some false)))) = some r := h
 clear h
 by_cases c3 : a0.toList = a1.toList
 ·rw [if_pos c3] at H
  have c3b0 : (a0.toList == a1.toList) = true := beq_iff_eq.mpr c3
  have c3b1 : (a0.toList != a1.toList) = false := bne_eq_false_iff_eq.mpr c3
  clear c3
  obtain rfl := Option.some.inj H
  go_enter Tryd.func84, Tryd.ntmps84
  go_wp2
  go_ret
  exact ⟨by first | rfl | (simp; done) | (simp [*]; done), by repeat (first | exact Drawn0.refl _ | apply Drawn0.step)⟩
 ·rw [if_neg c3] at H
  have c3b0 : (a0.toList == a1.toList) = false := beq_eq_false_iff_ne.mpr c3
  have c3b1 : (a0.toList != a1.toList) = true := bne_iff_ne.mpr c3
  by_cases c4 : a0.toList = ([] : List UInt8)
  ·rw [if_pos c4] at H
   have c4b0 : (a0.toList == ([] : List UInt8)) = true := beq_iff_eq.mpr c4
   have c4b1 : (a0.toList != ([] : List UInt8)) = false := bne_eq_false_iff_eq.mpr c4
   clear c4
   obtain rfl := Option.some.inj H
   go_enter Tryd.func84, Tryd.ntmps84
   go_wp2
   go_ret
   exact ⟨by first | rfl | (simp; done) | (simp [*]; done), by repeat (first | exact Drawn0.refl _ | apply Drawn0.step)⟩
  ·rw [if_neg c4] at H
   have c4b0 : (a0.toList == ([] : List UInt8)) = false := beq_eq_false_iff_ne.mpr c4
   have c4b1 : (a0.toList != ([] : List UInt8)) = true := bne_iff_ne.mpr c4
   by_cases c5 : (a1.size : Int) > (a0.size : Int)
   ·rw [if_pos c5] at H
    have c5b0 : decide ((a0.size : Int) < (a1.size : Int)) = true := decide_eq_true c5
    have c5b1 : decide (a0.size < a1.size) = true := decide_eq_true (Int.ofNat_lt.mp c5)
    clear c5
    by_cases c6 : 0 ≤ (a0.size : Int)
    ·rw [if_pos c6] at H
     have c6b0 := eq_true c6
     have c6b1 : decide (0 ≤ (a0.size : Int)) = true := decide_eq_true c6
     clear c6
     by_cases c7 : (a0.size : Int) ≤ (a1.size : Int)
     ·rw [if_pos c7] at H
      have c7b0 := eq_true c7
      have c7b1 : decide ((a0.size : Int) ≤ (a1.size : Int)) = true := decide_eq_true c7
      clear c7
      by_cases c8 : (a1.extract 0 ((a0.size : Int) : Int).toNat).toList = a0.toList
      ·rw [if_pos c8] at H
       have c8b0 : ((a1.extract 0 a0.size).toList == a0.toList) = true := beq_iff_eq.mpr c8
       have c8b1 : ((a1.extract 0 a0.size).toList != a0.toList) = false := bne_eq_false_iff_eq.mpr c8
       clear c8
       by_cases c9 : (a0.size : Int) < (a1.size : Int)
       ·rw [if_pos c9] at H
        have c9b0 : decide ((a0.size : Int) < (a1.size : Int)) = true := decide_eq_true c9
        have c9b1 : decide (a0.size < a1.size) = true := decide_eq_true (Int.ofNat_lt.mp c9)
        clear c9
        obtain rfl := Option.some.inj H
        have p10 : 0 ≤ ((a0.size : Int) : Int) := of_decide_eq_true (by first | (with_reducible assumption) | assumption)
        have q10 : (a0.size : Int) < (a1.size : Int) := of_decide_eq_true (by first | (with_reducible assumption) | assumption)
        have hx10 : ∀ h : a0.size < a1.size, ((a1[a0.size]'h).toNat : Int) = bt a1 (a0.size : Int) := bt_at a1 (a0.size : Int)
        replace p10 := eq_true p10
        replace q10 := eq_true q10
        go_enter Tryd.func84, Tryd.ntmps84
        go_wp2
        go_ret
        exact ⟨by first | rfl | (simp; done) | (simp [*]; done), by repeat (first | exact Drawn0.refl _ | apply Drawn0.step)⟩
       ·rw [if_neg c9] at H
        exact absurd H (by simp)
      ·rw [if_neg c8] at H
       have c8b0 : ((a1.extract 0 a0.size).toList == a0.toList) = false := beq_eq_false_iff_ne.mpr c8
       have c8b1 : ((a1.extract 0 a0.size).toList != a0.toList) = true := bne_iff_ne.mpr c8
       obtain rfl := Option.some.inj H
       go_enter Tryd.func84, Tryd.ntmps84
       go_wp2
       go_ret
       exact ⟨by first | rfl | (simp; done) | (simp [*]; done), by repeat (first | exact Drawn0.refl _ | apply Drawn0.step)⟩
     ·rw [if_neg c7] at H
      exact absurd H (by simp)
    ·rw [if_neg c6] at H
     exact absurd H (by simp)
   ·rw [if_neg c5] at H
    have c5b0 : decide ((a0.size : Int) < (a1.size : Int)) = false := decide_eq_false c5
    have c5b1 : decide (a0.size < a1.size) = false := decide_eq_false (fun h => c5 (Int.ofNat_lt.mpr h))
    clear c5
    obtain rfl := Option.some.inj H
    go_enter Tryd.func84, Tryd.ntmps84
    go_wp2
    go_ret
    exact ⟨by first | rfl | (simp; done) | (simp [*]; done), by repeat (first | exact Drawn0.refl _ | apply Drawn0.step)⟩
end Go.Proofs.YtdfkaclflmgkeaaDoor.PAll
