/- What functions of the program compute, each with its walk: a contract for every world and every argument of the kind told. -/
import Derived.Test.YtdfkaclflmgkeaaDoorPfPAllx0
import Derived.Test.YtdfkaclflmgkeaaDoorPfPAlly16
import Derived.Test.YtdfkaclflmgkeaaDoorPfWord
namespace Go.Proofs.YtdfkaclflmgkeaaDoor.PAll
open Go.RowKit Go.Proofs.YtdfkaclflmgkeaaDoorW.PrintWords Go.Proofs.YtdfkaclflmgkeaaDoorW.PrintLast Go.Proofs.YtdfkaclflmgkeaaDoorW.PrintMore
attribute [local go_sem] max2_int min2_int max_two min_two max_three min_three max_four min_four
set_option linter.unusedVariables false
set_option linter.unusedSimpArgs false
mutual
def paths_merged_string.l0 : Nat → List ByteArray → List ByteArray → Bool → Bool → Bool → List ByteArray → Option (List ByteArray)
 | 0, _, _, _, _, _, _ => none
 | k + 1, x0, x1, x3, x4, x5, x13 => if (x0.length : Int) > 0 then (paths_merged_string.j1 k x0 x1 x3 x4 x5 x13 true) else (paths_merged_string.j1 k x0 x1 x3 x4 x5 x13 (decide ((x1.length : Int) > 0)))
def paths_merged_string.j1 : Nat → List ByteArray → List ByteArray → Bool → Bool → Bool → List ByteArray → Bool → Option (List ByteArray)
 | 0, _, _, _, _, _, _, _ => none
 | k + 1, x0, x1, x3, x4, x5, x13, x24 => if x24 = true then (if (x1.length : Int) = 0 then (paths_merged_string.j2 k x0 x1 x3 x4 x5 x13 (-1)) else (if (x0.length : Int) = 0 then (paths_merged_string.j2 k x0 x1 x3 x4 x5 x13 1) else (if 0 < (x0.length : Int) then (if 0 < (x1.length : Int) then ((path_Cmp.f k (rdOf ByteArray.empty x0 0) (rdOf ByteArray.empty x1 0)).bind fun t221 => (paths_merged_string.j2 k x0 x1 x3 x4 x5 x13 t221)) else (none)) else (none)))) else (some x13)
def paths_merged_string.j2 : Nat → List ByteArray → List ByteArray → Bool → Bool → Bool → List ByteArray → Int → Option (List ByteArray)
 | 0, _, _, _, _, _, _, _ => none
 | k + 1, x0, x1, x3, x4, x5, x13, x14 => if x14 ≤ 0 then (if 0 < (x0.length : Int) then (if 1 ≤ (x0.length : Int) then (paths_merged_string.j3 k (x0.drop 1) x1 x3 x4 x5 x13 x14 (rdOf ByteArray.empty x0 0) x3) else (none)) else (none)) else (paths_merged_string.j3 k x0 x1 x3 x4 x5 x13 x14 (⟨#[]⟩ : ByteArray) x5)
def paths_merged_string.j3 : Nat → List ByteArray → List ByteArray → Bool → Bool → Bool → List ByteArray → Int → ByteArray → Bool → Option (List ByteArray)
 | 0, _, _, _, _, _, _, _, _, _ => none
 | k + 1, x0, x1, x3, x4, x5, x13, x14, x15, x16 => if x14 ≥ 0 then (if 0 < (x1.length : Int) then (if 1 ≤ (x1.length : Int) then (paths_merged_string.j4 k x0 (x1.drop 1) x3 x4 x5 x13 x14 (rdOf ByteArray.empty x1 0) x16) else (none)) else (none)) else (paths_merged_string.j4 k x0 x1 x3 x4 x5 x13 x14 x15 x16)
def paths_merged_string.j4 : Nat → List ByteArray → List ByteArray → Bool → Bool → Bool → List ByteArray → Int → ByteArray → Bool → Option (List ByteArray)
 | 0, _, _, _, _, _, _, _, _, _ => none
 | k + 1, x0, x1, x3, x4, x5, x13, x14, x15, x16 => if x14 = 0 then (if x4 = true then (if x13.length < 8796093022208 then (paths_merged_string.l0 k x0 x1 x3 x4 x5 (x13 ++ [x15])) else (none)) else (paths_merged_string.l0 k x0 x1 x3 x4 x5 x13)) else (if x16 = true then (if x13.length < 8796093022208 then (paths_merged_string.l0 k x0 x1 x3 x4 x5 (x13 ++ [x15])) else (none)) else (paths_merged_string.l0 k x0 x1 x3 x4 x5 x13))
end
def paths_merged_string.f (k : Nat) (l0 : List ByteArray) (l1 : List ByteArray) (a2 : Bool) (a3 : Bool) (a4 : Bool) (a5 : Bool) : Option (List ByteArray) := paths_merged_string.l0 k l0 l1 a3 a4 a5 ([] : List ByteArray)
def paths_merged_string.T4 : Bool × List (List Nat × List Nat) := (true, [([], []), ([], []), ([1], [1]), ([2], [2]), ([], []), ([4], [4]), ([5], [5]), ([0, 3, 6], [0, 3, 6]), ([7, 7, 0, 1, 2, 3, 4, 5, 6, 7], [7])])
def paths_merged_string.B4 : List Nat := [0, 0, 2, 6, 0, 16, 48, 127, 255]
theorem paths_merged_string.tab4 : rtab .any (opsOf Tryd.f53 4) = paths_merged_string.T4 := by kernel_rfl
theorem paths_merged_string.bits4 : waitsOk paths_merged_string.T4.2 paths_merged_string.B4 = true := by kernel_rfl
def paths_merged_string.T12 : Bool × List (List Nat × List Nat) := (true, [([], []), ([0], [0]), ([1], [1]), ([], []), ([3], [3]), ([], []), ([2, 0, 1, 2], [2]), ([4, 6, 0, 1, 2, 3, 4, 6], [0, 3, 4]), ([5, 7, 0, 1, 2, 3, 4, 5, 6, 7], [5])])
def paths_merged_string.B12 : List Nat := [0, 1, 3, 0, 8, 0, 7, 95, 255]
theorem paths_merged_string.tab12 : rtab .any (opsOf Tryd.f53 12) = paths_merged_string.T12 := by kernel_rfl
theorem paths_merged_string.bits12 : waitsOk paths_merged_string.T12.2 paths_merged_string.B12 = true := by kernel_rfl
set_option maxHeartbeats 8000000 in
set_option maxRecDepth 100000 in
theorem paths_merged_string.calls (k : Nat) (P0_ : Nat → Prop) (A0 : Option Addr) (c0 : Nat) (l0 : List ByteArray) (P1_ : Nat → Prop) (A1 : Option Addr) (c1 : Nat) (l1 : List ByteArray) (a2 : Bool) (a3 : Bool) (a4 : Bool) (a5 : Bool) (r : List ByteArray) (w : World) (hs0 : Kd.V Kd.string 9 w w.heap.size (fun k_ => P0_ k_) (.slice A0 l0.length c0) l0) (hs1 : Kd.V Kd.string 9 w w.heap.size (fun k_ => P1_ k_) (.slice A1 l1.length c1) l1) (h : paths_merged_string.f k l0 l1 a2 a3 a4 a5 = some r) :
  Calls Tryd.prog 53 #[.slice A0 l0.length c0, .slice A1 l1.length c1, .func (.func 51) #[] #[], .bool a3, .bool a4, .bool a5] w fun e w' => ∃ v0_ : Value, e = .returned (v0_) ∧ Kd.R Kd.string 9 w' w.heap.size (fun k_ => (w.heap.size ≤ k_)) v0_ r ∧ Below w.heap.size w w' := by
 have HO0 := Aside0.mk (show Kd.V Kd.string 9 w w.heap.size (fun k_ => ((P0_ k_ ∨ P1_ k_) ∨ w.heap.size ≤ k_)) (.slice A0 l0.length c0) l0 from Kd.V_mono hs0 (fun k_ hk => .inl (.inl hk)))
 have HO1 := Aside0.mk (show Kd.V Kd.string 9 w w.heap.size (fun k_ => ((P0_ k_ ∨ P1_ k_) ∨ w.heap.size ≤ k_)) (.slice A1 l1.length c1) l1 from Kd.V_mono hs1 (fun k_ hk => .inl (.inr hk)))
 have HB := Aside0.mk (Below.refl w.heap.size w)
 have H : (paths_merged_string.l0 k l0 l1 a3 a4 a5 ([] : List ByteArray)) = some r := h
 clear h
 have H' := Aside0.mk H
 clear H
 go_enter Tryd.func53, Tryd.ntmps53
 go_wp2
 go_loopg [0, 1, 13] k (fun kq v0 v1 v13 w' => ∃ (x0_1 : List ByteArray) (x1_1 : List ByteArray) (x13_1 : List ByteArray), Aside0 (paths_merged_string.l0 kq x0_1 x1_1 a3 a4 a5 x13_1 = some r) ∧ Aside0 (kq ≤ k) ∧ Aside0 (Kd.V Kd.string 9 w' w.heap.size (fun k_ => ((P0_ k_ ∨ P1_ k_) ∨ w.heap.size ≤ k_) ∧ some k_ ≠ (v13 : Value).ownBlock) v0 x0_1) ∧ Aside0 (Kd.V Kd.string 9 w' w.heap.size (fun k_ => ((P0_ k_ ∨ P1_ k_) ∨ w.heap.size ≤ k_) ∧ some k_ ≠ (v13 : Value).ownBlock) v1 x1_1) ∧ Aside0 (Kd.R Kd.string 9 w' w.heap.size (fun k_ => (w.heap.size ≤ k_)) v13 x13_1) ∧ Aside0 (Below w.heap.size w w'))
 case atStart => exact ⟨(l0), (l1), (([] : List ByteArray)), H', ⟨Nat.le_refl _⟩, ⟨by (with_reducible repeat (first | apply Kd.V_alloc | apply Kd.V_drewN | apply Kd.V_drew)); exact Kd.V_mono HO0.out (fun _ hk => ⟨hk, (by simp [Value.ownBlock])⟩)⟩, ⟨by (with_reducible repeat (first | apply Kd.V_alloc | apply Kd.V_drewN | apply Kd.V_drew)); exact Kd.V_mono HO1.out (fun _ hk => ⟨hk, (by simp [Value.ownBlock])⟩)⟩, ⟨by first | exact Kd.R_nil _ _ _ _ _ | exact Kd.N_nil _ _ _ _ _ | exact Kd.V_nil _ _ _ _ _ | exact Kd.Q_nil _ _ _ _ _ | exact Kd.S_nil _ _ _ _ _⟩, ⟨by repeat (first | (with_reducible first | exact HB.out | apply below_alloc | apply pw_below_drewN | apply below_drew1) | exact HB.out)⟩⟩
 case round =>
  clear H'
  try clear c1
  try clear p2
  try clear c5
  obtain ⟨x0_1, x1_1, x13_1, HA, HK1, HO_0, HO_1, HO_13, HB⟩ := hrel
  cases gk with
  | zero => exact absurd HA.out (by simp [paths_merged_string.l0])
  | succ k1 =>
   have H := HA.out
   clear HA
   simp only [paths_merged_string.l0] at H
   have HC7 := Aside0.mk H
   clear H
   go_upto_region 2 with (fail)
   go_cut [24] (fun v24 wc => ∃ (kq : Nat) (x24_6 : Bool), v24 = .bool x24_6 ∧ Aside0 (paths_merged_string.j1 kq x0_1 x1_1 a3 a4 a5 x13_1 x24_6 = some r) ∧ Aside0 (kq ≤ k1) ∧ Aside0 (Kd.V Kd.string 9 wc w.heap.size (fun k_ => ((P0_ k_ ∨ P1_ k_) ∨ w.heap.size ≤ k_) ∧ some k_ ≠ (u13 : Value).ownBlock) u0 x0_1) ∧ Aside0 (Kd.V Kd.string 9 wc w.heap.size (fun k_ => ((P0_ k_ ∨ P1_ k_) ∨ w.heap.size ≤ k_) ∧ some k_ ≠ (u13 : Value).ownBlock) u1 x1_1) ∧ Aside0 (Kd.R Kd.string 9 wc w.heap.size (fun k_ => (w.heap.size ≤ k_)) u13 x13_1) ∧ Aside0 (Below w.heap.size w wc))
   case first =>
    have H := HC7.out
    clear HC7
    by_cases c8 : (x0_1.length : Int) > 0
    ·rw [if_pos c8] at H
     have c8b0 : decide (0 < (x0_1.length : Int)) = true := decide_eq_true c8
     have c8b1 : decide (0 < x0_1.length) = true := decide_eq_true (by omega)
     clear c8
     (first | rw [c8b0] | (simp only [i64_w, i32_w]; rw [c8b0]) | skip)
     have H' := Aside0.mk H
     clear H
     obtain ⟨Ao9, co9, eo9⟩ := Kd.V_slice HO_0.out
     subst eo9
     go_wp2
     go_meet
     case rel => exact ⟨_, (true), (by first | rfl | (simp; done) | (simp [*]; done)), H', ⟨by have := HK1.out; first | omega | exact Nat.le_refl _⟩, ⟨by (with_reducible repeat (first | apply Kd.V_alloc | apply Kd.V_drewN | apply Kd.V_drew)); exact HO_0.out⟩, ⟨by (with_reducible repeat (first | apply Kd.V_alloc | apply Kd.V_drewN | apply Kd.V_drew)); exact HO_1.out⟩, ⟨by (with_reducible repeat (first | apply Kd.R_alloc | apply Kd.R_drewN | apply Kd.R_drew)); exact HO_13.out⟩, ⟨by repeat (first | (with_reducible first | exact HB.out | apply below_alloc | apply pw_below_drewN | apply below_drew1) | exact HB.out)⟩⟩
    ·rw [if_neg c8] at H
     have c8b0 : decide (0 < (x0_1.length : Int)) = false := decide_eq_false c8
     have c8b1 : decide (0 < x0_1.length) = false := decide_eq_false (by omega)
     clear c8
     (first | rw [c8b0] | (simp only [i64_w, i32_w]; rw [c8b0]) | skip)
     have H' := Aside0.mk H
     clear H
     obtain ⟨Ao10, co10, eo10⟩ := Kd.V_slice HO_0.out
     subst eo10
     obtain ⟨Ao11, co11, eo11⟩ := Kd.V_slice HO_1.out
     subst eo11
     go_wp2
     go_meet
     case rel => exact ⟨_, (decide ((x1_1.length : Int) > 0)), (by first | rfl | (simp; done) | (simp [*]; done)), H', ⟨by have := HK1.out; first | omega | exact Nat.le_refl _⟩, ⟨by (with_reducible repeat (first | apply Kd.V_alloc | apply Kd.V_drewN | apply Kd.V_drew)); exact HO_0.out⟩, ⟨by (with_reducible repeat (first | apply Kd.V_alloc | apply Kd.V_drewN | apply Kd.V_drew)); exact HO_1.out⟩, ⟨by (with_reducible repeat (first | apply Kd.R_alloc | apply Kd.R_drewN | apply Kd.R_drew)); exact HO_13.out⟩, ⟨by repeat (first | (with_reducible first | exact HB.out | apply below_alloc | apply pw_below_drewN | apply below_drew1) | exact HB.out)⟩⟩
   case rest =>
    clear HC7
    try clear c1
    try clear p2
    try clear c5
    try clear c8
    try clear c8b0
    try clear c8b1
    try clear p2
    obtain ⟨kq, x24_6, rfl, HA, HJ6, HO_0, HO_1, HO_13, HB⟩ := hcut
    cases kq with
    | zero => exact absurd HA.out (by simp [paths_merged_string.j1])
    | succ kj6 =>
     have H := HA.out
     clear HA
     simp only [paths_merged_string.j1] at H
     by_cases c12 : x24_6 = true
     ·subst c12
      have H1 : (if (x1_1.length : Int) = 0 then (paths_merged_string.j2 kj6 x0_1 x1_1 a3 a4 a5 x13_1 (-1)) else (if (x0_1.length : Int) = 0 then (paths_merged_string.j2 kj6 x0_1 x1_1 a3 a4 a5 x13_1 1) else (if 0 < (x0_1.length : Int) then (if 0 < (x1_1.length : Int) then ((path_Cmp.f kj6 (rdOf ByteArray.empty x0_1 0) (rdOf ByteArray.empty x1_1 0)).bind fun t221 => (paths_merged_string.j2 kj6 x0_1 x1_1 a3 a4 a5 x13_1 t221)) else (none)) else (none)))) = some r := by rw [if_pos rfl] at H; exact H
      clear H
      have H := H1
      clear H1
      have HC13 := Aside0.mk H
      clear H
      go_upto_block 2 with (fail)
      go_cut [14] (fun v14 wc => ∃ (kq : Nat) (x14_12 : Int), v14 = .int .i64 x14_12 ∧ Aside0 (paths_merged_string.j2 kq x0_1 x1_1 a3 a4 a5 x13_1 x14_12 = some r) ∧ Aside0 (kq ≤ kj6) ∧ Aside0 (Kd.V Kd.string 9 wc w.heap.size (fun k_ => ((P0_ k_ ∨ P1_ k_) ∨ w.heap.size ≤ k_) ∧ some k_ ≠ (u13 : Value).ownBlock) u0 x0_1) ∧ Aside0 (Kd.V Kd.string 9 wc w.heap.size (fun k_ => ((P0_ k_ ∨ P1_ k_) ∨ w.heap.size ≤ k_) ∧ some k_ ≠ (u13 : Value).ownBlock) u1 x1_1) ∧ Aside0 (Kd.R Kd.string 9 wc w.heap.size (fun k_ => (w.heap.size ≤ k_)) u13 x13_1) ∧ Aside0 (Below w.heap.size w wc))
      case first =>
       have H := HC13.out
       clear HC13
       by_cases c14 : (x1_1.length : Int) = 0
       ·rw [if_pos c14] at H
        have c14b0 : ((x1_1.length : Int) == 0) = true := beq_iff_eq.mpr c14
        have c14b1 : ((x1_1.length : Int) != 0) = false := bne_eq_false_iff_eq.mpr c14
        clear c14
        (first | rw [c14b0] | (simp only [i64_w, i32_w]; rw [c14b0]) | skip)
        have H' := Aside0.mk H
        clear H
        obtain ⟨Ao15, co15, eo15⟩ := Kd.V_slice HO_1.out
        subst eo15
        go_wp2
        go_meet
        case rel => exact ⟨_, ((-1)), (by first | rfl | (simp; done) | (simp [*]; done)), H', ⟨by have := HK1.out; have := HJ6.out; first | omega | exact Nat.le_refl _⟩, ⟨by (with_reducible repeat (first | apply Kd.V_alloc | apply Kd.V_drewN | apply Kd.V_drew)); exact HO_0.out⟩, ⟨by (with_reducible repeat (first | apply Kd.V_alloc | apply Kd.V_drewN | apply Kd.V_drew)); exact HO_1.out⟩, ⟨by (with_reducible repeat (first | apply Kd.R_alloc | apply Kd.R_drewN | apply Kd.R_drew)); exact HO_13.out⟩, ⟨by repeat (first | (with_reducible first | exact HB.out | apply below_alloc | apply pw_below_drewN | apply below_drew1) | exact HB.out)⟩⟩
       ·rw [if_neg c14] at H
        have c14b0 : ((x1_1.length : Int) == 0) = false := beq_eq_false_iff_ne.mpr c14
        have c14b1 : ((x1_1.length : Int) != 0) = true := bne_iff_ne.mpr c14
        have c14b2 : ¬ (x1_1 = []) := fun h_ => c14 (by rw [h_]; rfl)
        (first | rw [c14b0] | (simp only [i64_w, i32_w]; rw [c14b0]) | skip)
        by_cases c16 : (x0_1.length : Int) = 0
        ·rw [if_pos c16] at H
         have c16b0 : ((x0_1.length : Int) == 0) = true := beq_iff_eq.mpr c16
         have c16b1 : ((x0_1.length : Int) != 0) = false := bne_eq_false_iff_eq.mpr c16
         clear c16
         have H' := Aside0.mk H
         clear H
         obtain ⟨Ao17, co17, eo17⟩ := Kd.V_slice HO_1.out
         subst eo17
         obtain ⟨Ao18, co18, eo18⟩ := Kd.V_slice HO_0.out
         subst eo18
         go_wp2
         go_meet
         case rel => exact ⟨_, (1), (by first | rfl | (simp; done) | (simp [*]; done)), H', ⟨by have := HK1.out; have := HJ6.out; first | omega | exact Nat.le_refl _⟩, ⟨by (with_reducible repeat (first | apply Kd.V_alloc | apply Kd.V_drewN | apply Kd.V_drew)); exact HO_0.out⟩, ⟨by (with_reducible repeat (first | apply Kd.V_alloc | apply Kd.V_drewN | apply Kd.V_drew)); exact HO_1.out⟩, ⟨by (with_reducible repeat (first | apply Kd.R_alloc | apply Kd.R_drewN | apply Kd.R_drew)); exact HO_13.out⟩, ⟨by repeat (first | (with_reducible first | exact HB.out | apply below_alloc | apply pw_below_drewN | apply below_drew1) | exact HB.out)⟩⟩
        ·rw [if_neg c16] at H
         have c16b0 : ((x0_1.length : Int) == 0) = false := beq_eq_false_iff_ne.mpr c16
         have c16b1 : ((x0_1.length : Int) != 0) = true := bne_iff_ne.mpr c16
         have c16b2 : ¬ (x0_1 = []) := fun h_ => c16 (by rw [h_]; rfl)
         by_cases c19 : 0 < (x0_1.length : Int)
         ·rw [if_pos c19] at H
          have c19b0 : decide (0 < (x0_1.length : Int)) = true := decide_eq_true c19
          have c19b1 : decide (0 < x0_1.length) = true := decide_eq_true (by omega)
          clear c19
          by_cases c20 : 0 < (x1_1.length : Int)
          ·rw [if_pos c20] at H
           have c20b0 : decide (0 < (x1_1.length : Int)) = true := decide_eq_true c20
           have c20b1 : decide (0 < x1_1.length) = true := decide_eq_true (by omega)
           clear c20
           replace H := Option.bind_eq_some_iff.mp H
           obtain ⟨t221, A210, H⟩ := H
           replace H : (paths_merged_string.j2 kj6 x0_1 x1_1 a3 a4 a5 x13_1 t221) = some r := H
           have A21 := Aside0.mk A210
           clear A210
           have H' := Aside0.mk H
           clear H
           obtain ⟨Ao22, co22, eo22⟩ := Kd.V_slice HO_1.out
           subst eo22
           obtain ⟨Ao23, co23, eo23⟩ := Kd.V_slice HO_0.out
           subst eo23
           try go_wp2
           have n0_ := Aside0.mk (Kd.V_drew HO_0.out)
           have n1_ := Aside0.mk (Kd.V_drew HO_1.out)
           have n2_ := Aside0.mk (Kd.R_drew HO_13.out)
           have n3_ := Aside0.mk (below_drew1 HB.out)
           clear HO_0
           clear HO_1
           clear HO_13
           clear HB
           have HO_0 := n0_
           have HO_1 := n1_
           have HO_13 := n2_
           have HB := n3_
           clear n0_ n1_ n2_ n3_
           have p219 : 0 ≤ (0 : Int) := (by omega)
           have q219 : 0 < (x0_1.length : Int) := of_decide_eq_true (by first | (with_reducible assumption) | assumption)
           obtain ⟨ad219, e219, hx219_0⟩ := Kd.at_string (Kd.V_reads' HO_0.out).2.2 0 p219 q219
           cases e219
           have qi219 : (0 < x0_1.length) = True := eq_true (by omega)
           (try rw [show ((0 : Int)).toNat = 0 from rfl] at hx219_0)
           (try rw [Addr.add_zero'] at hx219_0)
           replace p219 := eq_true p219
           replace q219 := eq_true q219
           have p220 : 0 ≤ (0 : Int) := (by omega)
           have q220 : 0 < (x1_1.length : Int) := of_decide_eq_true (by first | (with_reducible assumption) | assumption)
           obtain ⟨ad220, e220, hx220_0⟩ := Kd.at_string (Kd.V_reads' HO_1.out).2.2 0 p220 q220
           cases e220
           have qi220 : (0 < x1_1.length) = True := eq_true (by omega)
           (try rw [show ((0 : Int)).toNat = 0 from rfl] at hx220_0)
           (try rw [Addr.add_zero'] at hx220_0)
           replace p220 := eq_true p220
           replace q220 := eq_true q220
           refine start_ (n := 9) (S := fun w' => w'.cell? ad219 = some (.string (rdOf ByteArray.empty x0_1 0)) ∧ w'.cell? ad220 = some (.string (rdOf ByteArray.empty x1_1 0))) (ds := []) #[false, false, false, false, false, false, false, false, false] (by kernel_rfl) rfl rfl ⟨hx219_0, hx220_0⟩ (fun hHeld => ?_); refine with_tabW paths_merged_string.tab4 paths_merged_string.bits4 (fun HT_ HW_ => ?_)
           generalize wc.drew = w24 at HO_0 HO_1 HO_13 HB hx219_0 hx220_0 hHeld ⊢
           refine pure_ (i := 0) (N := some 25) (v := ?_) (a' := ?_) #[true, false, false, false, false, false, false, false, false] rfl rfl (any_of HT_.out (by kernel_rfl)) (fun _ _ _ h => h) (Or.inl ⟨by rfl, ?_⟩) ?_ ?_
           rotate_left
           ·intro w'
            go_simp
            with_reducible rfl
           rotate_left
           ·simp only [Act.put, List.setIfInBounds_toArray, List.set_cons_zero, List.set_cons_succ, i64_w, i32_w]
            rfl
           refine pure_ (i := 1) (N := some 26) (v := ?_) (a' := ?_) #[true, true, false, false, false, false, false, false, false] rfl rfl (any_of HT_.out (by kernel_rfl)) (fun _ _ _ h => h) (Or.inl ⟨by rfl, ?_⟩) ?_ ?_
           rotate_left
           ·intro w'
            go_simp
            with_reducible rfl
           rotate_left
           ·simp only [Act.put, List.setIfInBounds_toArray, List.set_cons_zero, List.set_cons_succ, i64_w, i32_w]
            rfl
           refine pure_ (i := 2) (N := some 27) (v := ?_) (a' := ?_) #[true, true, true, false, false, false, false, false, false] rfl rfl (any_of HT_.out (by kernel_rfl)) (fun _ _ _ h => h) (Or.inl ⟨by rfl, ?_⟩) ?_ ?_
           rotate_left
           ·intro w'
            go_simp
            with_reducible rfl
           rotate_left
           ·simp only [Act.put, List.setIfInBounds_toArray, List.set_cons_zero, List.set_cons_succ, i64_w, i32_w]
            rfl
           refine pure_ (i := 4) (N := some 29) (v := ?_) (a' := ?_) #[true, true, true, false, true, false, false, false, false] rfl rfl (any_of HT_.out (by kernel_rfl)) (fun _ _ _ h => h) (Or.inl ⟨by rfl, ?_⟩) ?_ ?_
           rotate_left
           ·intro w'
            go_simp
            with_reducible rfl
           rotate_left
           ·simp only [Act.put, List.setIfInBounds_toArray, List.set_cons_zero, List.set_cons_succ, i64_w, i32_w]
            rfl
           refine pure_ (i := 5) (N := some 30) (v := ?_) (a' := ?_) #[true, true, true, false, true, true, false, false, false] rfl rfl (any_of HT_.out (by kernel_rfl)) (fun _ _ _ h => h) (Or.inl ⟨by rfl, ?_⟩) ?_ ?_
           rotate_left
           ·intro w'
            go_simp
            with_reducible rfl
           rotate_left
           ·simp only [Act.put, List.setIfInBounds_toArray, List.set_cons_zero, List.set_cons_succ, i64_w, i32_w]
            rfl
           refine take_ (i := 3) (N := some 28) (v := ?_) (a' := ?_) #[true, true, true, true, true, true, false, false, false] rfl rfl (take_ofW HT_.out HW_.out (by kernel_rfl)) (fun _ _ _ h => h) (Or.inl ⟨by rfl, ?_⟩) hHeld ?_ ?_
           rotate_left
           ·rintro w' ⟨s0, s1⟩
            go_simp
            with_reducible rfl
           rotate_left
           ·simp only [Act.put, List.setIfInBounds_toArray, List.set_cons_zero, List.set_cons_succ, i64_w, i32_w]
            rfl
           refine take_ (i := 6) (N := some 31) (v := ?_) (a' := ?_) #[true, true, true, true, true, true, true, false, false] rfl rfl (take_ofW HT_.out HW_.out (by kernel_rfl)) (fun _ _ _ h => h) (Or.inl ⟨by rfl, ?_⟩) hHeld ?_ ?_
           rotate_left
           ·rintro w' ⟨s0, s1⟩
            go_simp
            with_reducible rfl
           rotate_left
           ·simp only [Act.put, List.setIfInBounds_toArray, List.set_cons_zero, List.set_cons_succ, i64_w, i32_w]
            rfl
           refine one_ (i := 7) (N := some 32) #[true, true, true, true, true, true, true, true, false] rfl rfl (one_of HT_.out (by kernel_rfl)) (by decide) (fun K hK => ?_)
           refine goesT_ Tryd.func51 (by kernel_rfl) rfl #[.string (rdOf ByteArray.empty x0_1 0), .string (rdOf ByteArray.empty x1_1 0)] (by rfl) rfl rfl rfl (by (try simp only [List.map_toArray, List.map_cons, List.map_nil]); first | done | rfl | (simp only [List.length_drop, List.length_take]; rfl)) ?_
           with_reducible refine (path_Cmp.calls kj6 (rdOf ByteArray.empty x0_1 0) (rdOf ByteArray.empty x1_1 0) t221 _ A21.out).mono ?_
           rintro e w25 ⟨rfl, hb⟩
           have HS0_ := (hb.cell (World.block_lt_of_cell? _ _ (hHeld.1))).trans (hHeld.1)
           have HS1_ := (hb.cell (World.block_lt_of_cell? _ _ (hHeld.2))).trans (hHeld.2)
           refine ⟨_, rfl, ?_⟩
           have n0_ := Aside0.mk (Kd.V_below (by (with_reducible repeat (first | apply Kd.V_alloc | apply Kd.V_drewN | apply Kd.V_drew)); exact HO_0.out) hb)
           have n1_ := Aside0.mk (Kd.V_below (by (with_reducible repeat (first | apply Kd.V_alloc | apply Kd.V_drewN | apply Kd.V_drew)); exact HO_1.out) hb)
           have n2_ := Aside0.mk (Kd.R_below (by (with_reducible repeat (first | apply Kd.R_alloc | apply Kd.R_drewN | apply Kd.R_drew)); exact HO_13.out) hb)
           have n3_ := Aside0.mk (below_step (by repeat (first | (with_reducible first | exact HB.out | apply below_alloc | apply pw_below_drewN | apply below_drew1) | exact HB.out)) hb)
           clear HO_0
           clear HO_1
           clear HO_13
           clear HB
           have HO_0 := n0_
           have HO_1 := n1_
           have HO_13 := n2_
           have HB := n3_
           clear n0_ n1_ n2_ n3_
           (try clear hb)
           (try clear hb2)
           (try clear hk)
           (try clear hi)
           refine hK.out _ _ ⟨HS0_, HS1_⟩ (fun hHeld => ?_)
           clear hK K
           refine norm_ (a' := ?_) ?_ ?_
           rotate_left
           ·show Act.put _ (some 32) _ = _
            simp only [Act.put, List.setIfInBounds_toArray, List.set_cons_zero, List.set_cons_succ, i64_w, i32_w]
            rfl
           refine pure_ (i := 8) (N := some 14) (v := ?_) (a' := ?_) #[true, true, true, true, true, true, true, true, true] rfl rfl (any_of HT_.out (by kernel_rfl)) (fun _ _ _ h => h) (Or.inl ⟨by rfl, ?_⟩) ?_ ?_
           rotate_left
           ·intro w'
            go_simp
            with_reducible rfl
           rotate_left
           ·simp only [Act.put, List.setIfInBounds_toArray, List.set_cons_zero, List.set_cons_succ, i64_w, i32_w]
            rfl
           refine done_ (done_of HT_.out (by kernel_rfl)) ?_
           try go_wp2
           go_meet
           case rel => exact ⟨_, (t221), (by first | rfl | (simp; done) | (simp [*]; done)), H', ⟨by have := HK1.out; have := HJ6.out; first | omega | exact Nat.le_refl _⟩, ⟨by (with_reducible repeat (first | apply Kd.V_alloc | apply Kd.V_drewN | apply Kd.V_drew)); exact HO_0.out⟩, ⟨by (with_reducible repeat (first | apply Kd.V_alloc | apply Kd.V_drewN | apply Kd.V_drew)); exact HO_1.out⟩, ⟨by (with_reducible repeat (first | apply Kd.R_alloc | apply Kd.R_drewN | apply Kd.R_drew)); exact HO_13.out⟩, ⟨by repeat (first | (with_reducible first | exact HB.out | apply below_alloc | apply pw_below_drewN | apply below_drew1) | exact HB.out)⟩⟩
          ·rw [if_neg c20] at H
           exact absurd H (by simp)
         ·rw [if_neg c19] at H
          exact absurd H (by simp)
      case rest =>
       clear HC13
       try clear c1
       try clear c2
       try clear p2
       try clear q2
       try clear hx2
       try clear qi2
       try clear c5
       try clear c8
       try clear c8b0
       try clear c8b1
       try clear c12
       try clear c14
       try clear c14b0
       try clear c14b1
       try clear c14b2
       try clear c16
       try clear c16b0
       try clear c16b1
       try clear c16b2
       try clear c19
       try clear c19b0
       try clear c19b1
       try clear c20
       try clear c20b0
       try clear c20b1
       try clear p21
       try clear q21
       try clear hx21
       try clear qi21
       try clear p22
       try clear q22
       try clear hx22
       try clear qi22
       try clear hx219_0
       try clear hx220_0
       try clear p2
       try clear p219
       try clear p220
       try clear q219
       try clear q220
       obtain ⟨kq, x14_12, rfl, HA, HJ12, HO_0, HO_1, HO_13, HB⟩ := hcut
       cases kq with
       | zero => exact absurd HA.out (by simp [paths_merged_string.j2])
       | succ kj12 =>
        have H := HA.out
        clear HA
        simp only [paths_merged_string.j2] at H
        have HC26 := Aside0.mk H
        clear H
        go_upto_if 43 with (fail)
        go_cut [0, 15, 16] (fun v0 v15 v16 wc => ∃ (kq : Nat) (x0_25 : List ByteArray) (x15_25 : ByteArray) (x16_25 : Bool), v15 = .string x15_25 ∧ v16 = .bool x16_25 ∧ Aside0 (paths_merged_string.j3 kq x0_25 x1_1 a3 a4 a5 x13_1 x14_12 x15_25 x16_25 = some r) ∧ Aside0 (kq ≤ kj12) ∧ Aside0 (Kd.V Kd.string 9 wc w.heap.size (fun k_ => ((P0_ k_ ∨ P1_ k_) ∨ w.heap.size ≤ k_) ∧ some k_ ≠ (u13 : Value).ownBlock) v0 x0_25) ∧ Aside0 (Kd.V Kd.string 9 wc w.heap.size (fun k_ => ((P0_ k_ ∨ P1_ k_) ∨ w.heap.size ≤ k_) ∧ some k_ ≠ (u13 : Value).ownBlock) u1 x1_1) ∧ Aside0 (Kd.R Kd.string 9 wc w.heap.size (fun k_ => (w.heap.size ≤ k_)) u13 x13_1) ∧ Aside0 (Below w.heap.size w wc))
        case first =>
         have H := HC26.out
         clear HC26
         by_cases c27 : x14_12 ≤ 0
         ·rw [if_pos c27] at H
          have c27b0 : decide (x14_12 ≤ 0) = true := decide_eq_true c27
          clear c27
          (first | rw [c27b0] | (simp only [i64_w, i32_w]; rw [c27b0]) | skip)
          by_cases c28 : 0 < (x0_1.length : Int)
          ·rw [if_pos c28] at H
           have c28b0 : decide (0 < (x0_1.length : Int)) = true := decide_eq_true c28
           have c28b1 : decide (0 < x0_1.length) = true := decide_eq_true (by omega)
           clear c28
           by_cases c29 : 1 ≤ (x0_1.length : Int)
           ·rw [if_pos c29] at H
            have c29b0 := eq_true c29
            have c29b1 : decide (1 ≤ (x0_1.length : Int)) = true := decide_eq_true c29
            clear c29
            obtain ⟨y223, hy223⟩ : ∃ y_ : List ByteArray, y_ = (x0_1.drop 1) := ⟨_, rfl⟩
            replace H : (paths_merged_string.j3 kj12 y223 x1_1 a3 a4 a5 x13_1 x14_12 (rdOf ByteArray.empty x0_1 0) a3) = some r := by first | (rw [hy223]; with_reducible exact H) | (have H2_ := (Option.bind_some _ _).symm.trans H; rw [hy223]; with_reducible exact H2_) | (have H2_ := (Option.bind_some _ _).symm.trans H; with_reducible exact H2_) | with_reducible exact H | (rw [hy223]; exact H) | exact H
            have Ny223 := Aside0.mk hy223
            clear hy223
            have H' := Aside0.mk H
            clear H
            try go_wp2
            have n0_ := Aside0.mk (Kd.V_drew HO_0.out)
            have n1_ := Aside0.mk (Kd.V_drew HO_1.out)
            have n2_ := Aside0.mk (Kd.R_drew HO_13.out)
            have n3_ := Aside0.mk (below_drew1 HB.out)
            clear HO_0
            clear HO_1
            clear HO_13
            clear HB
            have HO_0 := n0_
            have HO_1 := n1_
            have HO_13 := n2_
            have HB := n3_
            clear n0_ n1_ n2_ n3_
            obtain ⟨Ao31, co31, eo31⟩ := Kd.V_slice HO_0.out
            (first | subst eo31 | (injection eo31 with f1_ f2_ f3_; have f4_ := f1_.symm; have f5_ := f3_.symm; clear f1_ f2_ f3_; subst f4_; subst f5_))
            have p222 : 0 ≤ (0 : Int) := (by omega)
            have q222 : 0 < (x0_1.length : Int) := of_decide_eq_true (by first | (with_reducible assumption) | assumption)
            obtain ⟨ad222, e222, hx222_0⟩ := Kd.at_string (Kd.V_reads' HO_0.out).2.2 0 p222 q222
            cases e222
            have qi222 : (0 < x0_1.length) = True := eq_true (by omega)
            (try rw [show ((0 : Int)).toNat = 0 from rfl] at hx222_0)
            (try rw [Addr.add_zero'] at hx222_0)
            replace p222 := eq_true p222
            replace q222 := eq_true q222
            have q32 : (1 : Int) ≤ ((x0_1.length : Int) : Int) := of_decide_eq_true (by first | (with_reducible assumption) | assumption)
            obtain ⟨i032, hi032, _, hsz32, _⟩ := info_parts info9
            have hroom32 : x0_1.length ≤ co31 := (Kd.V_reads' HO_0.out).2.1
            have hC32 : Kd.F Kd.string _ _ (some ad222) x0_1.length x0_1 := (Kd.V_at (base := w.heap.size) HO_0.out).2.2
            have hcut32 := cut_from (P := Tryd.prog) 22 9 .i64 Tryd.underlying22 hi032 1 hsz32 (some ad222) x0_1.length co31 1 (by omega) q32
            have hr32 := Kd.F_cut (m := (1 : Int).toNat) (c := co31) hC32 (by omega) hroom32
            obtain ⟨A32, hA32⟩ : ∃ A1, A1 = (if co31 = (1 : Int).toNat then (some ad222) else ((some ad222) : Option Addr).map (·.add ((1 : Int).toNat * 1))) := ⟨_, rfl⟩
            obtain ⟨c32, hc32⟩ : ∃ c1, c1 = co31 - (1 : Int).toNat := ⟨_, rfl⟩
            have hy32 : y223.length = x0_1.length - (1 : Int).toNat := (by rw [Ny223.out, List.length_drop] <;> omega)
            rw [show (x0_1).drop (1 : Int).toNat = y223 from Ny223.out.symm] at hr32
            replace hr32 : Kd.F Kd.string _ _ A32 y223.length y223 := (by rw [hA32]; exact hr32)
            rw [← hy32, ← hA32, ← hc32] at hcut32
            have HO227 := Aside0.mk (show Kd.V Kd.string 9 _ w.heap.size _ (.slice A32 y223.length c32) y223 from Kd.V_mk (by rw [hy32, hc32]; exact Nat.sub_le_sub_right hroom32 _) hr32)
            have HC227 := Aside0.mk (show y223.length ≤ c32 from by rw [hy32, hc32]; exact Nat.sub_le_sub_right hroom32 _)
            clear hr32 hC32 hroom32 hi032 hsz32 hc32
            have KY32 := Aside0.mk hy32
            have KA32 := Aside0.mk hA32
            clear hy32 hA32
            replace q32 := eq_true q32
            refine start_ (n := 9) (S := fun w' => w'.cell? ad222 = some (.string (rdOf ByteArray.empty x0_1 0))) (ds := []) #[false, false, false, false, false, false, false, false, false] (by kernel_rfl) rfl rfl (hx222_0) (fun hHeld => ?_); refine with_tabW paths_merged_string.tab12 paths_merged_string.bits12 (fun HT_ HW_ => ?_)
            generalize wc.drew = w30 at HO_0 HO_1 HO_13 HB HO227 hx222_0 hHeld ⊢
            refine pure_ (i := 0) (N := some 44) (v := ?_) (a' := ?_) #[true, false, false, false, false, false, false, false, false] rfl rfl (any_of HT_.out (by kernel_rfl)) (fun _ _ _ h => h) (Or.inl ⟨by rfl, ?_⟩) ?_ ?_
            rotate_left
            ·intro w'
             go_simp
             with_reducible rfl
            rotate_left
            ·simp only [Act.put, List.setIfInBounds_toArray, List.set_cons_zero, List.set_cons_succ, i64_w, i32_w]
             rfl
            refine pure_ (i := 1) (N := some 45) (v := ?_) (a' := ?_) #[true, true, false, false, false, false, false, false, false] rfl rfl (any_of HT_.out (by kernel_rfl)) (fun _ _ _ h => h) (Or.inl ⟨by rfl, ?_⟩) ?_ ?_
            rotate_left
            ·intro w'
             go_simp
             with_reducible rfl
            rotate_left
            ·simp only [Act.put, List.setIfInBounds_toArray, List.set_cons_zero, List.set_cons_succ, i64_w, i32_w]
             rfl
            refine pure_ (i := 3) (N := some 47) (v := ?_) (a' := ?_) #[true, true, false, true, false, false, false, false, false] rfl rfl (any_of HT_.out (by kernel_rfl)) (fun _ _ _ h => h) (Or.inl ⟨by rfl, ?_⟩) ?_ ?_
            rotate_left
            ·intro w'
             go_simp
             with_reducible rfl
            rotate_left
            ·simp only [Act.put, List.setIfInBounds_toArray, List.set_cons_zero, List.set_cons_succ, i64_w, i32_w]
             rfl
            refine pure_ (i := 4) (N := some 48) (v := ?_) (a' := ?_) #[true, true, false, true, true, false, false, false, false] rfl rfl (any_of HT_.out (by kernel_rfl)) (fun _ _ _ h => h) (Or.inl ⟨by rfl, ?_⟩) ?_ ?_
            rotate_left
            ·intro w'
             go_simp
             with_reducible rfl
            rotate_left
            ·simp only [Act.put, List.setIfInBounds_toArray, List.set_cons_zero, List.set_cons_succ, i64_w, i32_w]
             rfl
            refine pure_ (i := 5) (N := some 49) (v := ?_) (a' := ?_) #[true, true, false, true, true, true, false, false, false] rfl rfl (any_of HT_.out (by kernel_rfl)) (fun _ _ _ h => h) (Or.inl ⟨by rfl, ?_⟩) ?_ ?_
            rotate_left
            ·intro w'
             go_simp
             with_reducible rfl
            rotate_left
            ·simp only [Act.put, List.setIfInBounds_toArray, List.set_cons_zero, List.set_cons_succ, i64_w, i32_w]
             rfl
            refine take_ (i := 2) (N := some 46) (v := ?_) (a' := ?_) #[true, true, true, true, true, true, false, false, false] rfl rfl (take_ofW HT_.out HW_.out (by kernel_rfl)) (fun _ _ _ h => h) (Or.inl ⟨by rfl, ?_⟩) hHeld ?_ ?_
            rotate_left
            ·intro w' s0
             go_simp
             with_reducible rfl
            rotate_left
            ·simp only [Act.put, List.setIfInBounds_toArray, List.set_cons_zero, List.set_cons_succ, i64_w, i32_w]
             rfl
            refine pure_ (i := 6) (N := some 15) (v := ?_) (a' := ?_) #[true, true, true, true, true, true, true, false, false] rfl rfl (any_of HT_.out (by kernel_rfl)) (fun _ _ _ h => h) (Or.inl ⟨by rfl, ?_⟩) ?_ ?_
            rotate_left
            ·intro w'
             go_simp
             with_reducible rfl
            rotate_left
            ·simp only [Act.put, List.setIfInBounds_toArray, List.set_cons_zero, List.set_cons_succ, i64_w, i32_w]
             rfl
            refine pure_ (i := 7) (N := some 0) (v := ?_) (a' := ?_) #[true, true, true, true, true, true, true, true, false] rfl rfl (any_of HT_.out (by kernel_rfl)) (fun _ _ _ h => h) (Or.inl ⟨by rfl, ?_⟩) ?_ ?_
            rotate_left
            ·intro w'
             go_simp
             with_reducible rfl
            rotate_left
            ·simp only [Act.put, List.setIfInBounds_toArray, List.set_cons_zero, List.set_cons_succ, i64_w, i32_w]
             rfl
            refine pure_ (i := 8) (N := some 16) (v := ?_) (a' := ?_) #[true, true, true, true, true, true, true, true, true] rfl rfl (any_of HT_.out (by kernel_rfl)) (fun _ _ _ h => h) (Or.inl ⟨by rfl, ?_⟩) ?_ ?_
            rotate_left
            ·intro w'
             go_simp
             with_reducible rfl
            rotate_left
            ·simp only [Act.put, List.setIfInBounds_toArray, List.set_cons_zero, List.set_cons_succ, i64_w, i32_w]
             rfl
            refine done_ (done_of HT_.out (by kernel_rfl)) ?_
            try go_wp2
            go_meet
            case rel => exact ⟨_, (y223), (rdOf ByteArray.empty x0_1 0), (a3), (by first | rfl | (simp; done) | (simp [*]; done)), (by first | rfl | (simp; done) | (simp [*]; done)), H', ⟨by have := HK1.out; have := HJ6.out; have := HJ12.out; first | omega | exact Nat.le_refl _⟩, ⟨by (with_reducible repeat (first | apply Kd.V_alloc | apply Kd.V_drewN | apply Kd.V_drew)); exact HO227.out⟩, ⟨by (with_reducible repeat (first | apply Kd.V_alloc | apply Kd.V_drewN | apply Kd.V_drew)); exact HO_1.out⟩, ⟨by (with_reducible repeat (first | apply Kd.R_alloc | apply Kd.R_drewN | apply Kd.R_drew)); exact HO_13.out⟩, ⟨by repeat (first | (with_reducible first | exact HB.out | apply below_alloc | apply pw_below_drewN | apply below_drew1) | exact HB.out)⟩⟩
           ·rw [if_neg c29] at H
            exact absurd H (by simp)
          ·rw [if_neg c28] at H
           exact absurd H (by simp)
         ·rw [if_neg c27] at H
          have c27b0 : decide (x14_12 ≤ 0) = false := decide_eq_false c27
          clear c27
          (first | rw [c27b0] | (simp only [i64_w, i32_w]; rw [c27b0]) | skip)
          have H' := Aside0.mk H
          clear H
          go_wp2
          go_meet
          case rel => exact ⟨_, (x0_1), ((⟨#[]⟩ : ByteArray)), (a5), (by first | rfl | (simp; done) | (simp [*]; done)), (by first | rfl | (simp; done) | (simp [*]; done)), H', ⟨by have := HK1.out; have := HJ6.out; have := HJ12.out; first | omega | exact Nat.le_refl _⟩, ⟨by (with_reducible repeat (first | apply Kd.V_alloc | apply Kd.V_drewN | apply Kd.V_drew)); exact HO_0.out⟩, ⟨by (with_reducible repeat (first | apply Kd.V_alloc | apply Kd.V_drewN | apply Kd.V_drew)); exact HO_1.out⟩, ⟨by (with_reducible repeat (first | apply Kd.R_alloc | apply Kd.R_drewN | apply Kd.R_drew)); exact HO_13.out⟩, ⟨by repeat (first | (with_reducible first | exact HB.out | apply below_alloc | apply pw_below_drewN | apply below_drew1) | exact HB.out)⟩⟩
        case rest =>
         clear HC26
         try clear c1
         try clear c2
         try clear p2
         try clear q2
         try clear hx2
         try clear qi2
         try clear c3
         try clear q3
         try clear c5
         try clear c8
         try clear c8b0
         try clear c8b1
         try clear c12
         try clear c14
         try clear c14b0
         try clear c14b1
         try clear c14b2
         try clear c16
         try clear c16b0
         try clear c16b1
         try clear c16b2
         try clear c19
         try clear c19b0
         try clear c19b1
         try clear c20
         try clear c20b0
         try clear c20b1
         try clear p21
         try clear q21
         try clear hx21
         try clear qi21
         try clear p22
         try clear q22
         try clear hx22
         try clear qi22
         try clear c27
         try clear c27b0
         try clear c28
         try clear c28b0
         try clear c28b1
         try clear c29
         try clear c29b0
         try clear c29b1
         try clear c32
         try clear q32
         try clear hx219_0
         try clear hx220_0
         try clear hx222_0
         try clear p2
         try clear p21
         try clear p219
         try clear p22
         try clear p220
         try clear p222
         try clear q2
         try clear q21
         try clear q219
         try clear q22
         try clear q220
         try clear q222
         try clear q32
         obtain ⟨kq, x0_25, x15_25, x16_25, rfl, rfl, HA, HJ25, HO_0, HO_1, HO_13, HB⟩ := hcut
         cases kq with
         | zero => exact absurd HA.out (by simp [paths_merged_string.j3])
         | succ kj25 =>
          have H := HA.out
          clear HA
          simp only [paths_merged_string.j3] at H
          have HC33 := Aside0.mk H
          clear H
          go_upto_if 51 with (fail)
          go_cut [1, 15] (fun v1 v15 wc => ∃ (kq : Nat) (x1_32 : List ByteArray) (x15_32 : ByteArray), v15 = .string x15_32 ∧ Aside0 (paths_merged_string.j4 kq x0_25 x1_32 a3 a4 a5 x13_1 x14_12 x15_32 x16_25 = some r) ∧ Aside0 (kq ≤ kj25) ∧ Aside0 (Kd.V Kd.string 9 wc w.heap.size (fun k_ => ((P0_ k_ ∨ P1_ k_) ∨ w.heap.size ≤ k_) ∧ some k_ ≠ (u13 : Value).ownBlock) u0 x0_25) ∧ Aside0 (Kd.V Kd.string 9 wc w.heap.size (fun k_ => ((P0_ k_ ∨ P1_ k_) ∨ w.heap.size ≤ k_) ∧ some k_ ≠ (u13 : Value).ownBlock) v1 x1_32) ∧ Aside0 (Kd.R Kd.string 9 wc w.heap.size (fun k_ => (w.heap.size ≤ k_)) u13 x13_1) ∧ Aside0 (Below w.heap.size w wc))
          case first =>
           have H := HC33.out
           clear HC33
           by_cases c34 : x14_12 ≥ 0
           ·rw [if_pos c34] at H
            have c34b0 : decide (0 ≤ x14_12) = true := decide_eq_true c34
            clear c34
            (first | rw [c34b0] | (simp only [i64_w, i32_w]; rw [c34b0]) | skip)
            by_cases c35 : 0 < (x1_1.length : Int)
            ·rw [if_pos c35] at H
             have c35b0 : decide (0 < (x1_1.length : Int)) = true := decide_eq_true c35
             have c35b1 : decide (0 < x1_1.length) = true := decide_eq_true (by omega)
             clear c35
             by_cases c36 : 1 ≤ (x1_1.length : Int)
             ·rw [if_pos c36] at H
              have c36b0 := eq_true c36
              have c36b1 : decide (1 ≤ (x1_1.length : Int)) = true := decide_eq_true c36
              clear c36
              obtain ⟨y229, hy229⟩ : ∃ y_ : List ByteArray, y_ = (x1_1.drop 1) := ⟨_, rfl⟩
              replace H : (paths_merged_string.j4 kj25 x0_25 y229 a3 a4 a5 x13_1 x14_12 (rdOf ByteArray.empty x1_1 0) x16_25) = some r := by first | (rw [hy229]; with_reducible exact H) | (have H2_ := (Option.bind_some _ _).symm.trans H; rw [hy229]; with_reducible exact H2_) | (have H2_ := (Option.bind_some _ _).symm.trans H; with_reducible exact H2_) | with_reducible exact H | (rw [hy229]; exact H) | exact H
              have Ny229 := Aside0.mk hy229
              clear hy229
              have H' := Aside0.mk H
              clear H
              try go_wp2
              have n0_ := Aside0.mk (Kd.V_drew HO_0.out)
              have n1_ := Aside0.mk (Kd.V_drew HO_1.out)
              have n2_ := Aside0.mk (Kd.R_drew HO_13.out)
              have n3_ := Aside0.mk (below_drew1 HB.out)
              clear HO_0
              clear HO_1
              clear HO_13
              clear HB
              have HO_0 := n0_
              have HO_1 := n1_
              have HO_13 := n2_
              have HB := n3_
              clear n0_ n1_ n2_ n3_
              obtain ⟨Ao38, co38, eo38⟩ := Kd.V_slice HO_1.out
              (first | subst eo38 | (injection eo38 with f1_ f2_ f3_; have f4_ := f1_.symm; have f5_ := f3_.symm; clear f1_ f2_ f3_; subst f4_; subst f5_))
              have p228 : 0 ≤ (0 : Int) := (by omega)
              have q228 : 0 < (x1_1.length : Int) := of_decide_eq_true (by first | (with_reducible assumption) | assumption)
              obtain ⟨ad228, e228, hx228_0⟩ := Kd.at_string (Kd.V_reads' HO_1.out).2.2 0 p228 q228
              cases e228
              have qi228 : (0 < x1_1.length) = True := eq_true (by omega)
              (try rw [show ((0 : Int)).toNat = 0 from rfl] at hx228_0)
              (try rw [Addr.add_zero'] at hx228_0)
              replace p228 := eq_true p228
              replace q228 := eq_true q228
              have q39 : (1 : Int) ≤ ((x1_1.length : Int) : Int) := of_decide_eq_true (by first | (with_reducible assumption) | assumption)
              obtain ⟨i039, hi039, _, hsz39, _⟩ := info_parts info9
              have hroom39 : x1_1.length ≤ co38 := (Kd.V_reads' HO_1.out).2.1
              have hC39 : Kd.F Kd.string _ _ (some ad228) x1_1.length x1_1 := (Kd.V_at (base := w.heap.size) HO_1.out).2.2
              have hcut39 := cut_from (P := Tryd.prog) 22 9 .i64 Tryd.underlying22 hi039 1 hsz39 (some ad228) x1_1.length co38 1 (by omega) q39
              have hr39 := Kd.F_cut (m := (1 : Int).toNat) (c := co38) hC39 (by omega) hroom39
              obtain ⟨A39, hA39⟩ : ∃ A1, A1 = (if co38 = (1 : Int).toNat then (some ad228) else ((some ad228) : Option Addr).map (·.add ((1 : Int).toNat * 1))) := ⟨_, rfl⟩
              obtain ⟨c39, hc39⟩ : ∃ c1, c1 = co38 - (1 : Int).toNat := ⟨_, rfl⟩
              have hy39 : y229.length = x1_1.length - (1 : Int).toNat := (by rw [Ny229.out, List.length_drop] <;> omega)
              rw [show (x1_1).drop (1 : Int).toNat = y229 from Ny229.out.symm] at hr39
              replace hr39 : Kd.F Kd.string _ _ A39 y229.length y229 := (by rw [hA39]; exact hr39)
              rw [← hy39, ← hA39, ← hc39] at hcut39
              have HO233 := Aside0.mk (show Kd.V Kd.string 9 _ w.heap.size _ (.slice A39 y229.length c39) y229 from Kd.V_mk (by rw [hy39, hc39]; exact Nat.sub_le_sub_right hroom39 _) hr39)
              have HC233 := Aside0.mk (show y229.length ≤ c39 from by rw [hy39, hc39]; exact Nat.sub_le_sub_right hroom39 _)
              clear hr39 hC39 hroom39 hi039 hsz39 hc39
              have KY39 := Aside0.mk hy39
              have KA39 := Aside0.mk hA39
              clear hy39 hA39
              replace q39 := eq_true q39
              refine start_ (n := 7) (S := fun w' => w'.cell? ad228 = some (.string (rdOf ByteArray.empty x1_1 0))) (ds := []) #[false, false, false, false, false, false, false] (by kernel_rfl) rfl rfl (hx228_0) (fun hHeld => ?_)
              generalize wc.drew = w37 at HO_0 HO_1 HO_13 HB HO233 hx228_0 hHeld ⊢
              refine pure_ (i := 0) (N := some 52) (v := ?_) (a' := ?_) #[true, false, false, false, false, false, false] rfl rfl (by kernel_rfl) (fun _ _ _ h => h) (Or.inl ⟨by rfl, ?_⟩) ?_ ?_
              rotate_left
              ·intro w'
               go_simp
               with_reducible rfl
              rotate_left
              ·simp only [Act.put, List.setIfInBounds_toArray, List.set_cons_zero, List.set_cons_succ, i64_w, i32_w]
               rfl
              refine pure_ (i := 1) (N := some 53) (v := ?_) (a' := ?_) #[true, true, false, false, false, false, false] rfl rfl (by kernel_rfl) (fun _ _ _ h => h) (Or.inl ⟨by rfl, ?_⟩) ?_ ?_
              rotate_left
              ·intro w'
               go_simp
               with_reducible rfl
              rotate_left
              ·simp only [Act.put, List.setIfInBounds_toArray, List.set_cons_zero, List.set_cons_succ, i64_w, i32_w]
               rfl
              refine pure_ (i := 3) (N := some 55) (v := ?_) (a' := ?_) #[true, true, false, true, false, false, false] rfl rfl (by kernel_rfl) (fun _ _ _ h => h) (Or.inl ⟨by rfl, ?_⟩) ?_ ?_
              rotate_left
              ·intro w'
               go_simp
               with_reducible rfl
              rotate_left
              ·simp only [Act.put, List.setIfInBounds_toArray, List.set_cons_zero, List.set_cons_succ, i64_w, i32_w]
               rfl
              refine pure_ (i := 4) (N := some 56) (v := ?_) (a' := ?_) #[true, true, false, true, true, false, false] rfl rfl (by kernel_rfl) (fun _ _ _ h => h) (Or.inl ⟨by rfl, ?_⟩) ?_ ?_
              rotate_left
              ·intro w'
               go_simp
               with_reducible rfl
              rotate_left
              ·simp only [Act.put, List.setIfInBounds_toArray, List.set_cons_zero, List.set_cons_succ, i64_w, i32_w]
               rfl
              refine take_ (i := 2) (N := some 54) (v := ?_) (a' := ?_) #[true, true, true, true, true, false, false] rfl rfl (by kernel_rfl) (fun _ _ _ h => h) (Or.inl ⟨by rfl, ?_⟩) hHeld ?_ ?_
              rotate_left
              ·intro w' s0
               go_simp
               with_reducible rfl
              rotate_left
              ·simp only [Act.put, List.setIfInBounds_toArray, List.set_cons_zero, List.set_cons_succ, i64_w, i32_w]
               rfl
              refine pure_ (i := 5) (N := some 15) (v := ?_) (a' := ?_) #[true, true, true, true, true, true, false] rfl rfl (by kernel_rfl) (fun _ _ _ h => h) (Or.inl ⟨by rfl, ?_⟩) ?_ ?_
              rotate_left
              ·intro w'
               go_simp
               with_reducible rfl
              rotate_left
              ·simp only [Act.put, List.setIfInBounds_toArray, List.set_cons_zero, List.set_cons_succ, i64_w, i32_w]
               rfl
              refine pure_ (i := 6) (N := some 1) (v := ?_) (a' := ?_) #[true, true, true, true, true, true, true] rfl rfl (by kernel_rfl) (fun _ _ _ h => h) (Or.inl ⟨by rfl, ?_⟩) ?_ ?_
              rotate_left
              ·intro w'
               go_simp
               with_reducible rfl
              rotate_left
              ·simp only [Act.put, List.setIfInBounds_toArray, List.set_cons_zero, List.set_cons_succ, i64_w, i32_w]
               rfl
              refine done_ (by kernel_rfl) ?_
              try go_wp2
              go_meet
              case rel => exact ⟨_, (y229), (rdOf ByteArray.empty x1_1 0), (by first | rfl | (simp; done) | (simp [*]; done)), H', ⟨by have := HK1.out; have := HJ6.out; have := HJ12.out; have := HJ25.out; first | omega | exact Nat.le_refl _⟩, ⟨by (with_reducible repeat (first | apply Kd.V_alloc | apply Kd.V_drewN | apply Kd.V_drew)); exact HO_0.out⟩, ⟨by (with_reducible repeat (first | apply Kd.V_alloc | apply Kd.V_drewN | apply Kd.V_drew)); exact HO233.out⟩, ⟨by (with_reducible repeat (first | apply Kd.R_alloc | apply Kd.R_drewN | apply Kd.R_drew)); exact HO_13.out⟩, ⟨by repeat (first | (with_reducible first | exact HB.out | apply below_alloc | apply pw_below_drewN | apply below_drew1) | exact HB.out)⟩⟩
             ·rw [if_neg c36] at H
              exact absurd H (by simp)
            ·rw [if_neg c35] at H
             exact absurd H (by simp)
           ·rw [if_neg c34] at H
            have c34b0 : decide (0 ≤ x14_12) = false := decide_eq_false c34
            clear c34
            (first | rw [c34b0] | (simp only [i64_w, i32_w]; rw [c34b0]) | skip)
            have H' := Aside0.mk H
            clear H
            go_wp2
            go_meet
            case rel => exact ⟨_, (x1_1), (x15_25), (by first | rfl | (simp; done) | (simp [*]; done)), H', ⟨by have := HK1.out; have := HJ6.out; have := HJ12.out; have := HJ25.out; first | omega | exact Nat.le_refl _⟩, ⟨by (with_reducible repeat (first | apply Kd.V_alloc | apply Kd.V_drewN | apply Kd.V_drew)); exact HO_0.out⟩, ⟨by (with_reducible repeat (first | apply Kd.V_alloc | apply Kd.V_drewN | apply Kd.V_drew)); exact HO_1.out⟩, ⟨by (with_reducible repeat (first | apply Kd.R_alloc | apply Kd.R_drewN | apply Kd.R_drew)); exact HO_13.out⟩, ⟨by repeat (first | (with_reducible first | exact HB.out | apply below_alloc | apply pw_below_drewN | apply below_drew1) | exact HB.out)⟩⟩
          case rest =>
           clear HC33
           try clear c1
           try clear c2
           try clear p2
           try clear q2
           try clear hx2
           try clear qi2
           try clear c3
           try clear q3
           try clear c5
           try clear c8
           try clear c8b0
           try clear c8b1
           try clear c12
           try clear c14
           try clear c14b0
           try clear c14b1
           try clear c14b2
           try clear c16
           try clear c16b0
           try clear c16b1
           try clear c16b2
           try clear c19
           try clear c19b0
           try clear c19b1
           try clear c20
           try clear c20b0
           try clear c20b1
           try clear p21
           try clear q21
           try clear hx21
           try clear qi21
           try clear p22
           try clear q22
           try clear hx22
           try clear qi22
           try clear c27
           try clear c27b0
           try clear c28
           try clear c28b0
           try clear c28b1
           try clear c29
           try clear c29b0
           try clear c29b1
           try clear c32
           try clear q32
           try clear c34
           try clear c34b0
           try clear c35
           try clear c35b0
           try clear c35b1
           try clear c36
           try clear c36b0
           try clear c36b1
           try clear c39
           try clear q39
           try clear hx219_0
           try clear hx220_0
           try clear hx222_0
           try clear hx228_0
           try clear p2
           try clear p21
           try clear p219
           try clear p22
           try clear p220
           try clear p222
           try clear p228
           try clear q2
           try clear q21
           try clear q219
           try clear q22
           try clear q220
           try clear q222
           try clear q228
           try clear q3
           try clear q32
           try clear q39
           obtain ⟨kq, x1_32, x15_32, rfl, HA, HJ32, HO_0, HO_1, HO_13, HB⟩ := hcut
           cases kq with
           | zero => exact absurd HA.out (by simp [paths_merged_string.j4])
           | succ kj32 =>
            have H := HA.out
            clear HA
            simp only [paths_merged_string.j4] at H
            by_cases c40 : x14_12 = 0
            ·rw [if_pos c40] at H
             have c40b0 : (x14_12 == 0) = true := beq_iff_eq.mpr c40
             have c40b1 : (x14_12 != 0) = false := bne_eq_false_iff_eq.mpr c40
             clear c40
             by_cases c41 : a4 = true
             ·subst c41
              have H1 : (if x13_1.length < 8796093022208 then (paths_merged_string.l0 kj32 x0_25 x1_32 a3 true a5 (x13_1 ++ [x15_32])) else (none)) = some r := by rw [if_pos rfl] at H; exact H
              clear H
              have H := H1
              clear H1
              by_cases c42 : x13_1.length < 8796093022208
              ·rw [if_pos c42] at H
               have LMc42 := Aside0.mk c42
               clear c42
               obtain ⟨y234, hy234⟩ : ∃ y_ : List ByteArray, y_ = (x13_1 ++ [x15_32]) := ⟨_, rfl⟩
               replace H : (paths_merged_string.l0 kj32 x0_25 x1_32 a3 true a5 y234) = some r := by first | (rw [hy234]; with_reducible exact H) | (have H2_ := (Option.bind_some _ _).symm.trans H; rw [hy234]; with_reducible exact H2_) | (have H2_ := (Option.bind_some _ _).symm.trans H; with_reducible exact H2_) | with_reducible exact H | (rw [hy234]; exact H) | exact H
               have Ny234 := Aside0.mk hy234
               clear hy234
               have H' := Aside0.mk H
               clear H
               go_wp2_with (first | ((with_reducible refine gate_builtin (b := .append) (xs := #[.tmp 61, .tmp 63]) rfl ?_); (try (refine gate_guard (by rfl) ?_; dsimp only)); at_builtin; refine Kd.R_append Kd.string (w0 := w) w.heap.size rfl (.tmp 61) (.tmp 63) 22 9 (.string ⟨#[]⟩) 16 rfl Tryd.underlying22 info9 rfl (by decide) (by omega) u13 x13_1 x15_32 [.string x15_32] (fun k_ => (w.heap.size ≤ k_)) (fun _ => False) rfl rfl ?aP (fun _ hk => hk.elim) ?aF ?aO ?aB ?aS ?aL ?_; (case aP => exact rfl); (case aB => exact (by repeat (first | (with_reducible first | exact HB.out | apply below_alloc | apply pw_below_drewN | apply below_drew1) | exact HB.out))); (case aF => exact (fun k_ hk => (Nat.le_trans (below_size (by repeat (first | (with_reducible first | exact HB.out | apply below_alloc | apply pw_below_drewN | apply below_drew1) | exact HB.out))) hk))); (case aO => exact (by (with_reducible repeat (first | apply Kd.R_alloc | apply Kd.R_drewN | apply Kd.R_drew)); exact HO_13.out)); (case aS => exact (below_size (by repeat (first | (with_reducible first | exact HB.out | apply below_alloc | apply pw_below_drewN | apply below_drew1) | exact HB.out)))); (case aL => have := LMc42.out; omega); intro v235 w43 ho hb hg hat; rw [← Ny234.out] at ho; have n0_ := Aside0.mk (Kd.V_afterv (ok := (fun k_ => ((P0_ k_ ∨ P1_ k_) ∨ w.heap.size ≤ k_))) (by (with_reducible repeat (first | apply Kd.V_alloc | apply Kd.V_drewN | apply Kd.V_drew)); exact HO_0.out) hg hat); have n1_ := Aside0.mk (Kd.V_afterv (ok := (fun k_ => ((P0_ k_ ∨ P1_ k_) ∨ w.heap.size ≤ k_))) (by (with_reducible repeat (first | apply Kd.V_alloc | apply Kd.V_drewN | apply Kd.V_drew)); exact HO_1.out) hg hat); have n2_ := Aside0.mk (hb); have n3_ := Aside0.mk (ho); clear HO_0; clear HO_1; clear HB; clear HO_13; have HO_0 := n0_; have HO_1 := n1_; have HB := n2_; have HO236 := n3_; clear n0_ n1_ n2_ n3_; clear ho hb hg hat))
               go_roundg kj32
               case measure => have := HK1.out; have := HJ6.out; have := HJ12.out; have := HJ25.out; have := HJ32.out; omega
               case rel => exact ⟨(x0_25), (x1_32), (y234), H', ⟨by have := HK1.out; have := HJ6.out; have := HJ12.out; have := HJ25.out; have := HJ32.out; omega⟩, ⟨by (with_reducible repeat (first | apply Kd.V_alloc | apply Kd.V_drewN | apply Kd.V_drew)); exact HO_0.out⟩, ⟨by (with_reducible repeat (first | apply Kd.V_alloc | apply Kd.V_drewN | apply Kd.V_drew)); exact HO_1.out⟩, ⟨by (with_reducible repeat (first | apply Kd.R_alloc | apply Kd.R_drewN | apply Kd.R_drew)); exact HO236.out⟩, ⟨by repeat (first | (with_reducible first | exact HB.out | apply below_alloc | apply pw_below_drewN | apply below_drew1) | exact HB.out)⟩⟩
              ·rw [if_neg c42] at H
               exact absurd H (by simp)
             ·replace c41 := Bool.eq_false_iff.mpr c41
              subst c41
              have H1 : (paths_merged_string.l0 kj32 x0_25 x1_32 a3 false a5 x13_1) = some r := by rw [if_neg (show ¬ (false = true) by decide)] at H; exact H
              clear H
              have H := H1
              clear H1
              have H' := Aside0.mk H
              clear H
              go_wp2
              go_roundg kj32
              case measure => have := HK1.out; have := HJ6.out; have := HJ12.out; have := HJ25.out; have := HJ32.out; omega
              case rel => exact ⟨(x0_25), (x1_32), (x13_1), H', ⟨by have := HK1.out; have := HJ6.out; have := HJ12.out; have := HJ25.out; have := HJ32.out; omega⟩, ⟨by (with_reducible repeat (first | apply Kd.V_alloc | apply Kd.V_drewN | apply Kd.V_drew)); exact HO_0.out⟩, ⟨by (with_reducible repeat (first | apply Kd.V_alloc | apply Kd.V_drewN | apply Kd.V_drew)); exact HO_1.out⟩, ⟨by (with_reducible repeat (first | apply Kd.R_alloc | apply Kd.R_drewN | apply Kd.R_drew)); exact HO_13.out⟩, ⟨by repeat (first | (with_reducible first | exact HB.out | apply below_alloc | apply pw_below_drewN | apply below_drew1) | exact HB.out)⟩⟩
            ·rw [if_neg c40] at H
             have c40b0 : (x14_12 == 0) = false := beq_eq_false_iff_ne.mpr c40
             have c40b1 : (x14_12 != 0) = true := bne_iff_ne.mpr c40
             by_cases c44 : x16_25 = true
             ·subst c44
              have H1 : (if x13_1.length < 8796093022208 then (paths_merged_string.l0 kj32 x0_25 x1_32 a3 a4 a5 (x13_1 ++ [x15_32])) else (none)) = some r := by rw [if_pos rfl] at H; exact H
              clear H
              have H := H1
              clear H1
              by_cases c45 : x13_1.length < 8796093022208
              ·rw [if_pos c45] at H
               have LMc45 := Aside0.mk c45
               clear c45
               obtain ⟨y237, hy237⟩ : ∃ y_ : List ByteArray, y_ = (x13_1 ++ [x15_32]) := ⟨_, rfl⟩
               replace H : (paths_merged_string.l0 kj32 x0_25 x1_32 a3 a4 a5 y237) = some r := by first | (rw [hy237]; with_reducible exact H) | (have H2_ := (Option.bind_some _ _).symm.trans H; rw [hy237]; with_reducible exact H2_) | (have H2_ := (Option.bind_some _ _).symm.trans H; with_reducible exact H2_) | with_reducible exact H | (rw [hy237]; exact H) | exact H
               have Ny237 := Aside0.mk hy237
               clear hy237
               have H' := Aside0.mk H
               clear H
               go_wp2_with (first | ((with_reducible refine gate_builtin (b := .append) (xs := #[.tmp 61, .tmp 63]) rfl ?_); (try (refine gate_guard (by rfl) ?_; dsimp only)); at_builtin; refine Kd.R_append Kd.string (w0 := w) w.heap.size rfl (.tmp 61) (.tmp 63) 22 9 (.string ⟨#[]⟩) 16 rfl Tryd.underlying22 info9 rfl (by decide) (by omega) u13 x13_1 x15_32 [.string x15_32] (fun k_ => (w.heap.size ≤ k_)) (fun _ => False) rfl rfl ?aP (fun _ hk => hk.elim) ?aF ?aO ?aB ?aS ?aL ?_; (case aP => exact rfl); (case aB => exact (by repeat (first | (with_reducible first | exact HB.out | apply below_alloc | apply pw_below_drewN | apply below_drew1) | exact HB.out))); (case aF => exact (fun k_ hk => (Nat.le_trans (below_size (by repeat (first | (with_reducible first | exact HB.out | apply below_alloc | apply pw_below_drewN | apply below_drew1) | exact HB.out))) hk))); (case aO => exact (by (with_reducible repeat (first | apply Kd.R_alloc | apply Kd.R_drewN | apply Kd.R_drew)); exact HO_13.out)); (case aS => exact (below_size (by repeat (first | (with_reducible first | exact HB.out | apply below_alloc | apply pw_below_drewN | apply below_drew1) | exact HB.out)))); (case aL => have := LMc45.out; omega); intro v238 w46 ho hb hg hat; rw [← Ny237.out] at ho; have n0_ := Aside0.mk (Kd.V_afterv (ok := (fun k_ => ((P0_ k_ ∨ P1_ k_) ∨ w.heap.size ≤ k_))) (by (with_reducible repeat (first | apply Kd.V_alloc | apply Kd.V_drewN | apply Kd.V_drew)); exact HO_0.out) hg hat); have n1_ := Aside0.mk (Kd.V_afterv (ok := (fun k_ => ((P0_ k_ ∨ P1_ k_) ∨ w.heap.size ≤ k_))) (by (with_reducible repeat (first | apply Kd.V_alloc | apply Kd.V_drewN | apply Kd.V_drew)); exact HO_1.out) hg hat); have n2_ := Aside0.mk (hb); have n3_ := Aside0.mk (ho); clear HO_0; clear HO_1; clear HB; clear HO_13; have HO_0 := n0_; have HO_1 := n1_; have HB := n2_; have HO239 := n3_; clear n0_ n1_ n2_ n3_; clear ho hb hg hat))
               go_roundg kj32
               case measure => have := HK1.out; have := HJ6.out; have := HJ12.out; have := HJ25.out; have := HJ32.out; omega
               case rel => exact ⟨(x0_25), (x1_32), (y237), H', ⟨by have := HK1.out; have := HJ6.out; have := HJ12.out; have := HJ25.out; have := HJ32.out; omega⟩, ⟨by (with_reducible repeat (first | apply Kd.V_alloc | apply Kd.V_drewN | apply Kd.V_drew)); exact HO_0.out⟩, ⟨by (with_reducible repeat (first | apply Kd.V_alloc | apply Kd.V_drewN | apply Kd.V_drew)); exact HO_1.out⟩, ⟨by (with_reducible repeat (first | apply Kd.R_alloc | apply Kd.R_drewN | apply Kd.R_drew)); exact HO239.out⟩, ⟨by repeat (first | (with_reducible first | exact HB.out | apply below_alloc | apply pw_below_drewN | apply below_drew1) | exact HB.out)⟩⟩
              ·rw [if_neg c45] at H
               exact absurd H (by simp)
             ·replace c44 := Bool.eq_false_iff.mpr c44
              subst c44
              have H1 : (paths_merged_string.l0 kj32 x0_25 x1_32 a3 a4 a5 x13_1) = some r := by rw [if_neg (show ¬ (false = true) by decide)] at H; exact H
              clear H
              have H := H1
              clear H1
              have H' := Aside0.mk H
              clear H
              go_wp2
              go_roundg kj32
              case measure => have := HK1.out; have := HJ6.out; have := HJ12.out; have := HJ25.out; have := HJ32.out; omega
              case rel => exact ⟨(x0_25), (x1_32), (x13_1), H', ⟨by have := HK1.out; have := HJ6.out; have := HJ12.out; have := HJ25.out; have := HJ32.out; omega⟩, ⟨by (with_reducible repeat (first | apply Kd.V_alloc | apply Kd.V_drewN | apply Kd.V_drew)); exact HO_0.out⟩, ⟨by (with_reducible repeat (first | apply Kd.V_alloc | apply Kd.V_drewN | apply Kd.V_drew)); exact HO_1.out⟩, ⟨by (with_reducible repeat (first | apply Kd.R_alloc | apply Kd.R_drewN | apply Kd.R_drew)); exact HO_13.out⟩, ⟨by repeat (first | (with_reducible first | exact HB.out | apply below_alloc | apply pw_below_drewN | apply below_drew1) | exact HB.out)⟩⟩
     ·replace c12 := Bool.eq_false_iff.mpr c12
      subst c12
      have H1 : (some x13_1) = some r := by rw [if_neg (show ¬ (false = true) by decide)] at H; exact H
      clear H
      have H := H1
      clear H1
      obtain rfl := Option.some.inj H
      go_wp2
      go_ret
      exact ⟨_, by first | rfl | (simp [errW_none, errW_some] <;> rfl) | (simp [*, errW_none, errW_some] <;> rfl), by (with_reducible repeat (first | apply Kd.R_alloc | apply Kd.R_drewN | apply Kd.R_drew)); exact HO_13.out, by repeat (first | (with_reducible first | exact HB.out | apply below_alloc | apply pw_below_drewN | apply below_drew1) | exact HB.out)⟩
end Go.Proofs.YtdfkaclflmgkeaaDoor.PAll
