/- What functions of the program compute, each with its walk: a contract for every world and every argument of the kind told. -/
import Derived.Test.YtehfogjibhnabaaDoorPfPAllx0
import Derived.Test.YtehfogjibhnabaaDoorPfHandA
import Derived.Test.YtehfogjibhnabaaDoorPfPAlly5
import Derived.Test.YtehfogjibhnabaaDoorPfPAlly7
import Derived.Test.YtehfogjibhnabaaDoorPfShelf
import Derived.Sort.Grow
import Derived.RangeFuncNested
import Derived.RangeFuncBox
import Derived.RangeFuncBound
import Derived.RangeFuncCalls
import Derived.RangeFuncLeaves
import Derived.Shelf.Abstract
import Derived.Shelf.RegionOpen
import Derived.WalkKit
import Derived.OwnWalkIn
import Derived.TacticsInMore
import Derived.LoopNIn
import Derived.LoopIn
import Derived.Maps.AppendAt
namespace Go.Proofs.YtehfogjibhnabaaDoor.PAll
open Go.RowKit Go.Proofs.YtehfogjibhnabaaDoorW.PrintWords Go.Proofs.YtehfogjibhnabaaDoorW.PrintLast Go.Proofs.YtehfogjibhnabaaDoorW.PrintMore
attribute [local go_sem] max2_int min2_int max_two min_two max_three min_three max_four min_four
set_option linter.unusedVariables false
set_option linter.unusedSimpArgs false
def path_Above.f (k : Nat) (a0 : ByteArray) (a1 : ByteArray) : Option (Bool) := (path_Split.f k a0).bind fun t171 => ((path_Split.f k a1).bind fun t174 => (if (t171.length : Int) < (t174.length : Int) then ((path_common.f k t171 t174).bind fun t177 => (some (t177 == (t171.length : Int)))) else (some false)))
theorem path_Above.mono : ∀ a0 a1 k, LeO (path_Above.f k a0 a1) (path_Above.f (k + 1) a0 a1) := by
 intro a0 a1 k
 unfold path_Above.f
 repeat' first
   | (with_reducible exact path_Split.mono _ _)
   | (with_reducible exact path_common.mono _ _ _)
   | (with_reducible exact LeO.refl _)
   | (with_reducible exact LeO.none _)
   | (with_reducible refine LeO.ite ?_ ?_)
   | (with_reducible refine LeO.bind ?_ (fun _ => ?_))
   | exact path_Split.mono _ _
   | exact path_common.mono _ _ _
   | exact LeO.none _
   | refine LeO.ite ?_ ?_
   | refine LeO.bind ?_ (fun _ => ?_)
set_option maxHeartbeats 8000000 in
set_option maxRecDepth 100000 in
theorem path_Above.calls (k : Nat) (a0 : ByteArray) (a1 : ByteArray) (r : Bool) (w : World) (h : path_Above.f k a0 a1 = some r) :
  Calls Tryd.prog 46 #[.string a0, .string a1] w fun e w' => e = .returned (.bool r) ∧ Below w.heap.size w w' := by
 have HB := Aside0.mk (Below.refl w.heap.size w)
 have H : ((path_Split.f k a0).bind fun t171 => ((path_Split.f k a1).bind fun t174 => (if (t171.length : Int) < (t174.length : Int) then ((path_common.f k t171 t174).bind fun t177 => (some (t177 == (t171.length : Int)))) else (some false)))) = some r := h
 clear h
 replace H := Option.bind_eq_some_iff.mp H
 obtain ⟨t171, A30, H⟩ := H
 try dsimp only at H
 have A3 := Aside0.mk A30
 clear A30
 replace H := Option.bind_eq_some_iff.mp H
 obtain ⟨t174, A40, H⟩ := H
 try dsimp only at H
 have A4 := Aside0.mk A40
 clear A40
 by_cases c5 : (t171.length : Int) < (t174.length : Int)
 ·rw [if_pos c5] at H
  have c5b0 := decide_eq_true c5
  have c5b1 : decide (t171.length < t174.length) = true := decide_eq_true (Int.ofNat_lt.mp c5)
  clear c5
  replace H := Option.bind_eq_some_iff.mp H
  obtain ⟨t177, A60, H⟩ := H
  try dsimp only at H
  have A6 := Aside0.mk A60
  clear A60
  obtain rfl := Option.some.inj H
  go_enter Tryd.func46, Tryd.ntmps46
  go_wp2_with (first | ((with_reducible refine gate_callee (f := 76) rfl ?_); refine goesL_ (some 8) rfl rfl Tryd.func76 (by kernel_rfl) rfl #[.string a0] rfl (by (try simp only [List.map_toArray, List.map_cons, List.map_nil]); first | done | rfl | (simp only [List.length_drop, List.length_take]; rfl)) ?_; (with_reducible refine (path_Split.calls k a0 t171 _ A3.out).mono ?_); rintro e w7 ⟨v172, rfl, ho0, hb⟩; refine ⟨_, rfl, ?_⟩; have n0_ := Aside0.mk (Kd.R_lower ho0 (below_size (by repeat (first | (with_reducible first | exact HB.out | apply below_alloc | apply pw_below_drewN | apply below_drew1) | exact HB.out)))); have n1_ := Aside0.mk (below_step (by repeat (first | (with_reducible first | exact HB.out | apply below_alloc | apply pw_below_drewN | apply below_drew1) | exact HB.out)) hb); clear HB; have HO173 := n0_; have HB := n1_; clear n0_ n1_; (try clear hb); (try clear hb2); (try clear hk); (try clear hi); (try clear ho0)) | ((with_reducible refine gate_callee (f := 76) rfl ?_); refine goesL_ (some 10) rfl rfl Tryd.func76 (by kernel_rfl) rfl #[.string a1] rfl (by (try simp only [List.map_toArray, List.map_cons, List.map_nil]); first | done | rfl | (simp only [List.length_drop, List.length_take]; rfl)) ?_; (with_reducible refine (path_Split.calls k a1 t174 _ A4.out).mono ?_); rintro e w8 ⟨v175, rfl, ho0, hb⟩; refine ⟨_, rfl, ?_⟩; have n0_ := Aside0.mk (Kd.R_elder' (by (with_reducible repeat (first | apply Kd.R_alloc | apply Kd.R_drewN | apply Kd.R_drew)); exact HO173.out) (Kd.R_base ho0) hb); have n1_ := Aside0.mk (Kd.R_lower (Kd.R_new' ho0 (Kd.R_lt (by (with_reducible repeat (first | apply Kd.R_alloc | apply Kd.R_drewN | apply Kd.R_drew)); exact HO173.out))) (below_size (by repeat (first | (with_reducible first | exact HB.out | apply below_alloc | apply pw_below_drewN | apply below_drew1) | exact HB.out)))); have n2_ := Aside0.mk (below_step (by repeat (first | (with_reducible first | exact HB.out | apply below_alloc | apply pw_below_drewN | apply below_drew1) | exact HB.out)) hb); clear HO173; clear HB; have HO173 := n0_; have HO176 := n1_; have HB := n2_; clear n0_ n1_ n2_; (try clear hb); (try clear hb2); (try clear hk); (try clear hi); (try clear ho0); obtain ⟨Ao9, co9, eo9⟩ := Kd.R_slice HO173.out; subst eo9; obtain ⟨Ao10, co10, eo10⟩ := Kd.R_slice HO176.out; subst eo10) | (go_at_call 77; (with_reducible refine (path_common.calls k _ _ t171 _ _ t174 t177 _ ?side1 ?side2 ?side3 ?side4 A6.out).mono ?_); (case side1 => repeat (first | exact (Kd.R_reads' HO173.out).2.2 | (with_reducible refine Kd.C_alloc ?_ _) | (with_reducible refine Kd.C_drewN ?_ _) | (with_reducible refine Kd.C_drew ?_))); (case side2 => exact (Kd.R_reads' HO173.out).2.1); (case side3 => repeat (first | exact (Kd.R_reads' HO176.out).2.2 | (with_reducible refine Kd.C_alloc ?_ _) | (with_reducible refine Kd.C_drewN ?_ _) | (with_reducible refine Kd.C_drew ?_))); (case side4 => exact (Kd.R_reads' HO176.out).2.1); rintro e w' ⟨rfl, ⟨nd, rfl⟩⟩))
  go_ret
  exact ⟨by first | rfl | (simp [errW_none, errW_some] <;> rfl) | (simp [*, errW_none, errW_some] <;> rfl), by repeat (first | (with_reducible first | exact HB.out | apply below_alloc | apply pw_below_drewN | apply below_drew1) | exact HB.out)⟩
 ·rw [if_neg c5] at H
  have c5b0 := decide_eq_false c5
  have c5b1 : decide (t171.length < t174.length) = false := decide_eq_false (fun h => c5 (Int.ofNat_lt.mpr h))
  clear c5
  obtain rfl := Option.some.inj H
  go_enter Tryd.func46, Tryd.ntmps46
  go_wp2_with (first | ((with_reducible refine gate_callee (f := 76) rfl ?_); refine goesL_ (some 8) rfl rfl Tryd.func76 (by kernel_rfl) rfl #[.string a0] rfl (by (try simp only [List.map_toArray, List.map_cons, List.map_nil]); first | done | rfl | (simp only [List.length_drop, List.length_take]; rfl)) ?_; (with_reducible refine (path_Split.calls k a0 t171 _ A3.out).mono ?_); rintro e w11 ⟨v172, rfl, ho0, hb⟩; refine ⟨_, rfl, ?_⟩; have n0_ := Aside0.mk (Kd.R_lower ho0 (below_size (by repeat (first | (with_reducible first | exact HB.out | apply below_alloc | apply pw_below_drewN | apply below_drew1) | exact HB.out)))); have n1_ := Aside0.mk (below_step (by repeat (first | (with_reducible first | exact HB.out | apply below_alloc | apply pw_below_drewN | apply below_drew1) | exact HB.out)) hb); clear HB; have HO173 := n0_; have HB := n1_; clear n0_ n1_; (try clear hb); (try clear hb2); (try clear hk); (try clear hi); (try clear ho0)) | ((with_reducible refine gate_callee (f := 76) rfl ?_); refine goesL_ (some 10) rfl rfl Tryd.func76 (by kernel_rfl) rfl #[.string a1] rfl (by (try simp only [List.map_toArray, List.map_cons, List.map_nil]); first | done | rfl | (simp only [List.length_drop, List.length_take]; rfl)) ?_; (with_reducible refine (path_Split.calls k a1 t174 _ A4.out).mono ?_); rintro e w12 ⟨v175, rfl, ho0, hb⟩; refine ⟨_, rfl, ?_⟩; have n0_ := Aside0.mk (Kd.R_elder' (by (with_reducible repeat (first | apply Kd.R_alloc | apply Kd.R_drewN | apply Kd.R_drew)); exact HO173.out) (Kd.R_base ho0) hb); have n1_ := Aside0.mk (Kd.R_lower (Kd.R_new' ho0 (Kd.R_lt (by (with_reducible repeat (first | apply Kd.R_alloc | apply Kd.R_drewN | apply Kd.R_drew)); exact HO173.out))) (below_size (by repeat (first | (with_reducible first | exact HB.out | apply below_alloc | apply pw_below_drewN | apply below_drew1) | exact HB.out)))); have n2_ := Aside0.mk (below_step (by repeat (first | (with_reducible first | exact HB.out | apply below_alloc | apply pw_below_drewN | apply below_drew1) | exact HB.out)) hb); clear HO173; clear HB; have HO173 := n0_; have HO176 := n1_; have HB := n2_; clear n0_ n1_ n2_; (try clear hb); (try clear hb2); (try clear hk); (try clear hi); (try clear ho0); obtain ⟨Ao13, co13, eo13⟩ := Kd.R_slice HO173.out; subst eo13; obtain ⟨Ao14, co14, eo14⟩ := Kd.R_slice HO176.out; subst eo14))
  go_ret
  exact ⟨by first | rfl | (simp [errW_none, errW_some] <;> rfl) | (simp [*, errW_none, errW_some] <;> rfl), by repeat (first | (with_reducible first | exact HB.out | apply below_alloc | apply pw_below_drewN | apply below_drew1) | exact HB.out)⟩
def path_Cmp.j0 : Nat → List ByteArray → List ByteArray → Int → Bool → Option (Int)
 | 0, _, _, _, _ => none
 | k + 1, x5, x6, x7, x24 => if x24 = true then (if 0 ≤ x7 then (if x7 < (x5.length : Int) then (if x7 < (x6.length : Int) then ((cmp_Compare_string.f (rdOf ByteArray.empty x5 x7) (rdOf ByteArray.empty x6 x7)).bind fun t191 => (some t191)) else (none)) else (none)) else (none)) else ((cmp_Compare_int.f (x5.length : Int) (x6.length : Int)).bind fun t192 => (some t192))
def path_Cmp.f (k : Nat) (a0 : ByteArray) (a1 : ByteArray) : Option (Int) := (path_Split.f k a0).bind fun t182 => ((path_Split.f k a1).bind fun t185 => ((path_common.f k t182 t185).bind fun t188 => (if t188 < (t182.length : Int) then (path_Cmp.j0 k t182 t185 t188 (decide (t188 < (t185.length : Int)))) else (path_Cmp.j0 k t182 t185 t188 false))))
theorem path_Cmp.mono_l : ∀ k, (∀ y0 y1 y2 y3, LeO (path_Cmp.j0 k y0 y1 y2 y3) (path_Cmp.j0 (k + 1) y0 y1 y2 y3))
 | 0 => fun _ _ _ _ r h => by simp [path_Cmp.j0] at h
 | k + 1 => by
  have ih0 := path_Cmp.mono_l k
  ·intro y0 y1 y2 y3
   unfold path_Cmp.j0
   repeat' first
   | (with_reducible exact ih0 _ _ _ _)
   | (with_reducible exact path_Split.mono _ _)
   | (with_reducible exact path_common.mono _ _ _)
   | (with_reducible exact LeO.refl _)
   | (with_reducible exact LeO.none _)
   | (with_reducible refine LeO.ite ?_ ?_)
   | (with_reducible refine LeO.bind ?_ (fun _ => ?_))
   | exact ih0 _ _ _ _
   | exact path_Split.mono _ _
   | exact path_common.mono _ _ _
   | exact LeO.none _
   | refine LeO.ite ?_ ?_
   | refine LeO.bind ?_ (fun _ => ?_)
theorem path_Cmp.mono : ∀ a0 a1 k, LeO (path_Cmp.f k a0 a1) (path_Cmp.f (k + 1) a0 a1) := by
 intro a0 a1 k
 have ih0 := path_Cmp.mono_l k
 unfold path_Cmp.f
 repeat' first
   | (with_reducible exact ih0 _ _ _ _)
   | (with_reducible exact path_Split.mono _ _)
   | (with_reducible exact path_common.mono _ _ _)
   | (with_reducible exact LeO.refl _)
   | (with_reducible exact LeO.none _)
   | (with_reducible refine LeO.ite ?_ ?_)
   | (with_reducible refine LeO.bind ?_ (fun _ => ?_))
   | exact ih0 _ _ _ _
   | exact path_Split.mono _ _
   | exact path_common.mono _ _ _
   | exact LeO.none _
   | refine LeO.ite ?_ ?_
   | refine LeO.bind ?_ (fun _ => ?_)
set_option maxHeartbeats 8000000 in
set_option maxRecDepth 100000 in
theorem path_Cmp.calls (k : Nat) (a0 : ByteArray) (a1 : ByteArray) (r : Int) (w : World) (h : path_Cmp.f k a0 a1 = some r) :
  Calls Tryd.prog 50 #[.string a0, .string a1] w fun e w' => e = .returned (.int .i64 r) ∧ Below w.heap.size w w' := by
 have HB := Aside0.mk (Below.refl w.heap.size w)
 have H : ((path_Split.f k a0).bind fun t182 => ((path_Split.f k a1).bind fun t185 => ((path_common.f k t182 t185).bind fun t188 => (if t188 < (t182.length : Int) then (path_Cmp.j0 k t182 t185 t188 (decide (t188 < (t185.length : Int)))) else (path_Cmp.j0 k t182 t185 t188 false))))) = some r := h
 clear h
 replace H := Option.bind_eq_some_iff.mp H
 obtain ⟨t182, A30, H⟩ := H
 try dsimp only at H
 have A3 := Aside0.mk A30
 clear A30
 replace H := Option.bind_eq_some_iff.mp H
 obtain ⟨t185, A40, H⟩ := H
 try dsimp only at H
 have A4 := Aside0.mk A40
 clear A40
 replace H := Option.bind_eq_some_iff.mp H
 obtain ⟨t188, A50, H⟩ := H
 try dsimp only at H
 have A5 := Aside0.mk A50
 clear A50
 have HC6 := Aside0.mk H
 clear H
 go_enter Tryd.func50, Tryd.ntmps50
 go_upto_region 3 with (first | (go_at_call 76; (with_reducible refine (path_Split.calls k a0 t182 _ A3.out).mono ?_); rintro e w7 ⟨v183, rfl, ho0, hb⟩; have n0_ := Aside0.mk (Kd.R_lower ho0 (below_size (by repeat (first | (with_reducible first | exact HB.out | apply below_alloc | apply pw_below_drewN | apply below_drew1) | exact HB.out)))); have n1_ := Aside0.mk (below_step (by repeat (first | (with_reducible first | exact HB.out | apply below_alloc | apply pw_below_drewN | apply below_drew1) | exact HB.out)) hb); clear HB; have HO184 := n0_; have HB := n1_; clear n0_ n1_; (try clear hb); (try clear hb2); (try clear hk); (try clear hi); (try clear ho0)) | (go_at_call 76; (with_reducible refine (path_Split.calls k a1 t185 _ A4.out).mono ?_); rintro e w8 ⟨v186, rfl, ho0, hb⟩; have n0_ := Aside0.mk (Kd.R_elder' (by (with_reducible repeat (first | apply Kd.R_alloc | apply Kd.R_drewN | apply Kd.R_drew)); exact HO184.out) (Kd.R_base ho0) hb); have n1_ := Aside0.mk (Kd.R_lower (Kd.R_new' ho0 (Kd.R_lt (by (with_reducible repeat (first | apply Kd.R_alloc | apply Kd.R_drewN | apply Kd.R_drew)); exact HO184.out))) (below_size (by repeat (first | (with_reducible first | exact HB.out | apply below_alloc | apply pw_below_drewN | apply below_drew1) | exact HB.out)))); have n2_ := Aside0.mk (below_step (by repeat (first | (with_reducible first | exact HB.out | apply below_alloc | apply pw_below_drewN | apply below_drew1) | exact HB.out)) hb); clear HO184; clear HB; have HO184 := n0_; have HO187 := n1_; have HB := n2_; clear n0_ n1_ n2_; (try clear hb); (try clear hb2); (try clear hk); (try clear hi); (try clear ho0); obtain ⟨Ao9, co9, eo9⟩ := Kd.R_slice HO184.out; subst eo9; obtain ⟨Ao10, co10, eo10⟩ := Kd.R_slice HO187.out; subst eo10) | (go_at_call 77; (with_reducible refine (path_common.calls k _ _ t182 _ _ t185 t188 _ ?side1 ?side2 ?side3 ?side4 A5.out).mono ?_); (case side1 => repeat (first | exact (Kd.R_reads' HO184.out).2.2 | (with_reducible refine Kd.C_alloc ?_ _) | (with_reducible refine Kd.C_drewN ?_ _) | (with_reducible refine Kd.C_drew ?_))); (case side2 => exact (Kd.R_reads' HO184.out).2.1); (case side3 => repeat (first | exact (Kd.R_reads' HO187.out).2.2 | (with_reducible refine Kd.C_alloc ?_ _) | (with_reducible refine Kd.C_drewN ?_ _) | (with_reducible refine Kd.C_drew ?_))); (case side4 => exact (Kd.R_reads' HO187.out).2.1); rintro e w' ⟨rfl, ⟨nd, rfl⟩⟩; (try first | exact ⟨rfl, _, World.drewN_drewN _ _ _⟩ | exact ⟨rfl, _, Eq.trans (World.drewN_drewN _ _ _) (congrArg (World.drewN _) (Nat.add_assoc _ _ _))⟩)))
 repeat (go_quiet (first | (go_at_call 76; (with_reducible refine (path_Split.calls k a0 t182 _ A3.out).mono ?_); rintro e w7 ⟨v183, rfl, ho0, hb⟩; have n0_ := Aside0.mk (Kd.R_lower ho0 (below_size (by repeat (first | (with_reducible first | exact HB.out | apply below_alloc | apply pw_below_drewN | apply below_drew1) | exact HB.out)))); have n1_ := Aside0.mk (below_step (by repeat (first | (with_reducible first | exact HB.out | apply below_alloc | apply pw_below_drewN | apply below_drew1) | exact HB.out)) hb); clear HB; have HO184 := n0_; have HB := n1_; clear n0_ n1_; (try clear hb); (try clear hb2); (try clear hk); (try clear hi); (try clear ho0)) | (go_at_call 76; (with_reducible refine (path_Split.calls k a1 t185 _ A4.out).mono ?_); rintro e w8 ⟨v186, rfl, ho0, hb⟩; have n0_ := Aside0.mk (Kd.R_elder' (by (with_reducible repeat (first | apply Kd.R_alloc | apply Kd.R_drewN | apply Kd.R_drew)); exact HO184.out) (Kd.R_base ho0) hb); have n1_ := Aside0.mk (Kd.R_lower (Kd.R_new' ho0 (Kd.R_lt (by (with_reducible repeat (first | apply Kd.R_alloc | apply Kd.R_drewN | apply Kd.R_drew)); exact HO184.out))) (below_size (by repeat (first | (with_reducible first | exact HB.out | apply below_alloc | apply pw_below_drewN | apply below_drew1) | exact HB.out)))); have n2_ := Aside0.mk (below_step (by repeat (first | (with_reducible first | exact HB.out | apply below_alloc | apply pw_below_drewN | apply below_drew1) | exact HB.out)) hb); clear HO184; clear HB; have HO184 := n0_; have HO187 := n1_; have HB := n2_; clear n0_ n1_ n2_; (try clear hb); (try clear hb2); (try clear hk); (try clear hi); (try clear ho0); obtain ⟨Ao9, co9, eo9⟩ := Kd.R_slice HO184.out; subst eo9; obtain ⟨Ao10, co10, eo10⟩ := Kd.R_slice HO187.out; subst eo10) | (go_at_call 77; (with_reducible refine (path_common.calls k _ _ t182 _ _ t185 t188 _ ?side1 ?side2 ?side3 ?side4 A5.out).mono ?_); (case side1 => repeat (first | exact (Kd.R_reads' HO184.out).2.2 | (with_reducible refine Kd.C_alloc ?_ _) | (with_reducible refine Kd.C_drewN ?_ _) | (with_reducible refine Kd.C_drew ?_))); (case side2 => exact (Kd.R_reads' HO184.out).2.1); (case side3 => repeat (first | exact (Kd.R_reads' HO187.out).2.2 | (with_reducible refine Kd.C_alloc ?_ _) | (with_reducible refine Kd.C_drewN ?_ _) | (with_reducible refine Kd.C_drew ?_))); (case side4 => exact (Kd.R_reads' HO187.out).2.1); rintro e w' ⟨rfl, ⟨nd, rfl⟩⟩; (try first | exact ⟨rfl, _, World.drewN_drewN _ _ _⟩ | exact ⟨rfl, _, Eq.trans (World.drewN_drewN _ _ _) (congrArg (World.drewN _) (Nat.add_assoc _ _ _))⟩))); go_upto_region 3 with (first | (go_at_call 76; (with_reducible refine (path_Split.calls k a0 t182 _ A3.out).mono ?_); rintro e w7 ⟨v183, rfl, ho0, hb⟩; have n0_ := Aside0.mk (Kd.R_lower ho0 (below_size (by repeat (first | (with_reducible first | exact HB.out | apply below_alloc | apply pw_below_drewN | apply below_drew1) | exact HB.out)))); have n1_ := Aside0.mk (below_step (by repeat (first | (with_reducible first | exact HB.out | apply below_alloc | apply pw_below_drewN | apply below_drew1) | exact HB.out)) hb); clear HB; have HO184 := n0_; have HB := n1_; clear n0_ n1_; (try clear hb); (try clear hb2); (try clear hk); (try clear hi); (try clear ho0)) | (go_at_call 76; (with_reducible refine (path_Split.calls k a1 t185 _ A4.out).mono ?_); rintro e w8 ⟨v186, rfl, ho0, hb⟩; have n0_ := Aside0.mk (Kd.R_elder' (by (with_reducible repeat (first | apply Kd.R_alloc | apply Kd.R_drewN | apply Kd.R_drew)); exact HO184.out) (Kd.R_base ho0) hb); have n1_ := Aside0.mk (Kd.R_lower (Kd.R_new' ho0 (Kd.R_lt (by (with_reducible repeat (first | apply Kd.R_alloc | apply Kd.R_drewN | apply Kd.R_drew)); exact HO184.out))) (below_size (by repeat (first | (with_reducible first | exact HB.out | apply below_alloc | apply pw_below_drewN | apply below_drew1) | exact HB.out)))); have n2_ := Aside0.mk (below_step (by repeat (first | (with_reducible first | exact HB.out | apply below_alloc | apply pw_below_drewN | apply below_drew1) | exact HB.out)) hb); clear HO184; clear HB; have HO184 := n0_; have HO187 := n1_; have HB := n2_; clear n0_ n1_ n2_; (try clear hb); (try clear hb2); (try clear hk); (try clear hi); (try clear ho0); obtain ⟨Ao9, co9, eo9⟩ := Kd.R_slice HO184.out; subst eo9; obtain ⟨Ao10, co10, eo10⟩ := Kd.R_slice HO187.out; subst eo10) | (go_at_call 77; (with_reducible refine (path_common.calls k _ _ t182 _ _ t185 t188 _ ?side1 ?side2 ?side3 ?side4 A5.out).mono ?_); (case side1 => repeat (first | exact (Kd.R_reads' HO184.out).2.2 | (with_reducible refine Kd.C_alloc ?_ _) | (with_reducible refine Kd.C_drewN ?_ _) | (with_reducible refine Kd.C_drew ?_))); (case side2 => exact (Kd.R_reads' HO184.out).2.1); (case side3 => repeat (first | exact (Kd.R_reads' HO187.out).2.2 | (with_reducible refine Kd.C_alloc ?_ _) | (with_reducible refine Kd.C_drewN ?_ _) | (with_reducible refine Kd.C_drew ?_))); (case side4 => exact (Kd.R_reads' HO187.out).2.1); rintro e w' ⟨rfl, ⟨nd, rfl⟩⟩; (try first | exact ⟨rfl, _, World.drewN_drewN _ _ _⟩ | exact ⟨rfl, _, Eq.trans (World.drewN_drewN _ _ _) (congrArg (World.drewN _) (Nat.add_assoc _ _ _))⟩))))
 (try simp only [Act.put, List.setIfInBounds_toArray, List.set_cons_zero, List.set_cons_succ])
 go_cut [24] (fun v24 wc => ∃ (kq : Nat) (x24_5 : Bool), v24 = .bool x24_5 ∧ Aside0 (path_Cmp.j0 kq t182 t185 t188 x24_5 = some r) ∧ Aside0 (kq ≤ k) ∧ Aside0 (Kd.R Kd.string 9 wc w.heap.size (fun k_ => some k_ ≠ ((.slice Ao10 t185.length co10) : Value).ownBlock) (.slice Ao9 t182.length co9) t182) ∧ Aside0 (Kd.R Kd.string 9 wc w.heap.size (fun k_ => some k_ ≠ ((.slice Ao9 t182.length co9) : Value).ownBlock) (.slice Ao10 t185.length co10) t185) ∧ Aside0 (Below w.heap.size w wc))
 case first =>
  have H := HC6.out
  clear HC6
  by_cases c11 : t188 < (t182.length : Int)
  ·rw [if_pos c11] at H
   have c11b0 := decide_eq_true c11
   clear c11
   (first | rw [c11b0] | (simp only [i64_w, i32_w]; rw [c11b0]) | skip)
   have H' := Aside0.mk H
   clear H
   go_wp2
   repeat (go_quiet (fail); try go_wp2)
   go_meet
   case rel => exact ⟨_, (decide (t188 < (t185.length : Int))), (by first | rfl | (simp; done) | (simp [*]; done)), H', ⟨by first | omega | exact Nat.le_refl _⟩, ⟨by (with_reducible repeat (first | apply Kd.R_alloc | apply Kd.R_drewN | apply Kd.R_drew)); exact Kd.R_mono HO184.out (fun _ hk => hk.2)⟩, ⟨by (with_reducible repeat (first | apply Kd.R_alloc | apply Kd.R_drewN | apply Kd.R_drew)); exact Kd.R_mono HO187.out (fun _ hk => hk.2)⟩, ⟨by repeat (first | (with_reducible first | exact HB.out | apply below_alloc | apply pw_below_drewN | apply below_drew1) | exact HB.out)⟩⟩
  ·rw [if_neg c11] at H
   have c11b0 := decide_eq_false c11
   clear c11
   (first | rw [c11b0] | (simp only [i64_w, i32_w]; rw [c11b0]) | skip)
   have H' := Aside0.mk H
   clear H
   go_wp2
   repeat (go_quiet (fail); try go_wp2)
   go_meet
   case rel => exact ⟨_, (false), (by first | rfl | (simp; done) | (simp [*]; done)), H', ⟨by first | omega | exact Nat.le_refl _⟩, ⟨by (with_reducible repeat (first | apply Kd.R_alloc | apply Kd.R_drewN | apply Kd.R_drew)); exact Kd.R_mono HO184.out (fun _ hk => hk.2)⟩, ⟨by (with_reducible repeat (first | apply Kd.R_alloc | apply Kd.R_drewN | apply Kd.R_drew)); exact Kd.R_mono HO187.out (fun _ hk => hk.2)⟩, ⟨by repeat (first | (with_reducible first | exact HB.out | apply below_alloc | apply pw_below_drewN | apply below_drew1) | exact HB.out)⟩⟩
 case rest =>
  clear HC6
  try clear c1
  try clear p2
  try clear c5
  try clear c11
  try clear c11b0
  obtain ⟨kq, x24_5, rfl, HA, HJ5, HO_5, HO_6, HB⟩ := hcut
  cases kq with
  | zero => exact absurd HA.out (by simp [path_Cmp.j0])
  | succ kj5 =>
   have H := HA.out
   clear HA
   simp only [path_Cmp.j0] at H
   by_cases c12 : x24_5 = true
   ·subst c12
    rw [if_pos rfl] at H
    have H1 := H
    clear H
    have H := H1
    clear H1
    by_cases c13 : 0 ≤ t188
    ·rw [if_pos c13] at H
     have c13b0 := decide_eq_true c13
     clear c13
     by_cases c14 : t188 < (t182.length : Int)
     ·rw [if_pos c14] at H
      have c14b0 := decide_eq_true c14
      clear c14
      by_cases c15 : t188 < (t185.length : Int)
      ·rw [if_pos c15] at H
       have c15b0 := decide_eq_true c15
       clear c15
       replace H := Option.bind_eq_some_iff.mp H
       obtain ⟨t191, A160, H⟩ := H
       try dsimp only at H
       have A16 := Aside0.mk A160
       clear A160
       obtain rfl := Option.some.inj H
       have p189 : 0 ≤ (t188 : Int) := of_decide_eq_true (by first | (with_reducible assumption) | assumption)
       have q189 : t188 < (t182.length : Int) := of_decide_eq_true (by first | (with_reducible assumption) | assumption)
       obtain ⟨ad189, e189, hx189_0⟩ := Kd.at_string (Kd.R_reads' HO_5.out).2.2 t188 p189 q189
       cases e189
       replace p189 := eq_true p189
       replace q189 := eq_true q189
       have p190 : 0 ≤ (t188 : Int) := of_decide_eq_true (by first | (with_reducible assumption) | assumption)
       have q190 : t188 < (t185.length : Int) := of_decide_eq_true (by first | (with_reducible assumption) | assumption)
       obtain ⟨ad190, e190, hx190_0⟩ := Kd.at_string (Kd.R_reads' HO_6.out).2.2 t188 p190 q190
       cases e190
       replace p190 := eq_true p190
       replace q190 := eq_true q190
       go_wp2_with (first | (go_at_call 80; (with_reducible refine (cmp_Compare_string.calls (rdOf ByteArray.empty t182 t188) (rdOf ByteArray.empty t185 t188) t191 _ A16.out).mono ?_); rintro e w' ⟨rfl, ⟨nd, rfl⟩⟩; (try first | exact ⟨rfl, _, World.drewN_drewN _ _ _⟩ | exact ⟨rfl, _, Eq.trans (World.drewN_drewN _ _ _) (congrArg (World.drewN _) (Nat.add_assoc _ _ _))⟩)))
       repeat (go_quiet (first | (go_at_call 80; (with_reducible refine (cmp_Compare_string.calls (rdOf ByteArray.empty t182 t188) (rdOf ByteArray.empty t185 t188) t191 _ A16.out).mono ?_); rintro e w' ⟨rfl, ⟨nd, rfl⟩⟩; (try first | exact ⟨rfl, _, World.drewN_drewN _ _ _⟩ | exact ⟨rfl, _, Eq.trans (World.drewN_drewN _ _ _) (congrArg (World.drewN _) (Nat.add_assoc _ _ _))⟩))); try go_wp2_with (first | (go_at_call 80; (with_reducible refine (cmp_Compare_string.calls (rdOf ByteArray.empty t182 t188) (rdOf ByteArray.empty t185 t188) t191 _ A16.out).mono ?_); rintro e w' ⟨rfl, ⟨nd, rfl⟩⟩; (try first | exact ⟨rfl, _, World.drewN_drewN _ _ _⟩ | exact ⟨rfl, _, Eq.trans (World.drewN_drewN _ _ _) (congrArg (World.drewN _) (Nat.add_assoc _ _ _))⟩))))
       go_ret
       exact ⟨by first | rfl | (simp [errW_none, errW_some] <;> rfl) | (simp [*, errW_none, errW_some] <;> rfl), by repeat (first | (with_reducible first | exact HB.out | apply below_alloc | apply pw_below_drewN | apply below_drew1) | exact HB.out)⟩
      ·rw [if_neg c15] at H
       exact absurd H (by simp)
     ·rw [if_neg c14] at H
      exact absurd H (by simp)
    ·rw [if_neg c13] at H
     exact absurd H (by simp)
   ·replace c12 := Bool.eq_false_iff.mpr c12
    subst c12
    have H1 : ((cmp_Compare_int.f (t182.length : Int) (t185.length : Int)).bind fun t192 => (some t192)) = some r := by rw [if_neg (show ¬ (false = true) by decide)] at H; exact H
    clear H
    have H := H1
    clear H1
    replace H := Option.bind_eq_some_iff.mp H
    obtain ⟨t192, A170, H⟩ := H
    try dsimp only at H
    have A17 := Aside0.mk A170
    clear A170
    obtain rfl := Option.some.inj H
    go_wp2_with (first | (go_at_call 81; (with_reducible refine (cmp_Compare_int.calls (t182.length : Int) (t185.length : Int) t192 _ A17.out).mono ?_); rintro e w' ⟨rfl, ⟨nd, rfl⟩⟩; (try first | exact ⟨rfl, _, World.drewN_drewN _ _ _⟩ | exact ⟨rfl, _, Eq.trans (World.drewN_drewN _ _ _) (congrArg (World.drewN _) (Nat.add_assoc _ _ _))⟩)))
    repeat (go_quiet (first | (go_at_call 81; (with_reducible refine (cmp_Compare_int.calls (t182.length : Int) (t185.length : Int) t192 _ A17.out).mono ?_); rintro e w' ⟨rfl, ⟨nd, rfl⟩⟩; (try first | exact ⟨rfl, _, World.drewN_drewN _ _ _⟩ | exact ⟨rfl, _, Eq.trans (World.drewN_drewN _ _ _) (congrArg (World.drewN _) (Nat.add_assoc _ _ _))⟩))); try go_wp2_with (first | (go_at_call 81; (with_reducible refine (cmp_Compare_int.calls (t182.length : Int) (t185.length : Int) t192 _ A17.out).mono ?_); rintro e w' ⟨rfl, ⟨nd, rfl⟩⟩; (try first | exact ⟨rfl, _, World.drewN_drewN _ _ _⟩ | exact ⟨rfl, _, Eq.trans (World.drewN_drewN _ _ _) (congrArg (World.drewN _) (Nat.add_assoc _ _ _))⟩))))
    go_ret
    exact ⟨by first | rfl | (simp [errW_none, errW_some] <;> rfl) | (simp [*, errW_none, errW_some] <;> rfl), by repeat (first | (with_reducible first | exact HB.out | apply below_alloc | apply pw_below_drewN | apply below_drew1) | exact HB.out)⟩
mutual
def path_Valid.j0 : Nat → ByteArray → Bool → Option (Bool)
 | 0, _, _ => none
 | k + 1, x0, x12 => if x12 = true then (some false) else ((path_Split.f k x0).bind fun t195 => (path_Valid.l0 k t195 (t195.length : Int) 0))
def path_Valid.l0 : Nat → List ByteArray → Int → Int → Option (Bool)
 | 0, _, _, _ => none
 | k + 1, x14, x15, x16 => if x16 < x15 then (if 0 ≤ x16 then (if x16 < (x14.length : Int) then ((path_Component.f k (rdOf ByteArray.empty x14 x16)).bind fun t199 => (if t199 = true then (path_Valid.l0 k x14 x15 (wrap64 (x16 + 1))) else (some false))) else (none)) else (none)) else (some true)
end
def path_Valid.f (k : Nat) (a0 : ByteArray) : Option (Bool) := if (a0.size : Int) > 120 then (path_Valid.j0 k a0 true) else ((path_Depth.f k a0).bind fun t194 => (path_Valid.j0 k a0 (decide (t194 > 12))))
theorem path_Valid.mono_l : ∀ k, (∀ y0 y1, LeO (path_Valid.j0 k y0 y1) (path_Valid.j0 (k + 1) y0 y1)) ∧ (∀ y0 y1 y2, LeO (path_Valid.l0 k y0 y1 y2) (path_Valid.l0 (k + 1) y0 y1 y2))
 | 0 => ⟨fun _ _ r h => by simp [path_Valid.j0] at h, fun _ _ _ r h => by simp [path_Valid.l0] at h⟩
 | k + 1 => by
  obtain ⟨ih0, ih1⟩ := path_Valid.mono_l k
  refine ⟨?_, ?_⟩
  ·intro y0 y1
   unfold path_Valid.j0
   repeat' first
   | (with_reducible exact ih0 _ _)
   | (with_reducible exact ih1 _ _ _)
   | (with_reducible exact path_Component.mono _ _)
   | (with_reducible exact path_Depth.mono _ _)
   | (with_reducible exact path_Split.mono _ _)
   | (with_reducible exact LeO.refl _)
   | (with_reducible exact LeO.none _)
   | (with_reducible refine LeO.ite ?_ ?_)
   | (with_reducible refine LeO.bind ?_ (fun _ => ?_))
   | exact ih0 _ _
   | exact ih1 _ _ _
   | exact path_Component.mono _ _
   | exact path_Depth.mono _ _
   | exact path_Split.mono _ _
   | exact LeO.none _
   | refine LeO.ite ?_ ?_
   | refine LeO.bind ?_ (fun _ => ?_)
  ·intro y0 y1 y2
   unfold path_Valid.l0
   repeat' first
   | (with_reducible exact ih0 _ _)
   | (with_reducible exact ih1 _ _ _)
   | (with_reducible exact path_Component.mono _ _)
   | (with_reducible exact path_Depth.mono _ _)
   | (with_reducible exact path_Split.mono _ _)
   | (with_reducible exact LeO.refl _)
   | (with_reducible exact LeO.none _)
   | (with_reducible refine LeO.ite ?_ ?_)
   | (with_reducible refine LeO.bind ?_ (fun _ => ?_))
   | exact ih0 _ _
   | exact ih1 _ _ _
   | exact path_Component.mono _ _
   | exact path_Depth.mono _ _
   | exact path_Split.mono _ _
   | exact LeO.none _
   | refine LeO.ite ?_ ?_
   | refine LeO.bind ?_ (fun _ => ?_)
theorem path_Valid.mono : ∀ a0 k, LeO (path_Valid.f k a0) (path_Valid.f (k + 1) a0) := by
 intro a0 k
 obtain ⟨ih0, ih1⟩ := path_Valid.mono_l k
 unfold path_Valid.f
 repeat' first
   | (with_reducible exact ih0 _ _)
   | (with_reducible exact ih1 _ _ _)
   | (with_reducible exact path_Component.mono _ _)
   | (with_reducible exact path_Depth.mono _ _)
   | (with_reducible exact path_Split.mono _ _)
   | (with_reducible exact LeO.refl _)
   | (with_reducible exact LeO.none _)
   | (with_reducible refine LeO.ite ?_ ?_)
   | (with_reducible refine LeO.bind ?_ (fun _ => ?_))
   | exact ih0 _ _
   | exact ih1 _ _ _
   | exact path_Component.mono _ _
   | exact path_Depth.mono _ _
   | exact path_Split.mono _ _
   | exact LeO.none _
   | refine LeO.ite ?_ ?_
   | refine LeO.bind ?_ (fun _ => ?_)
set_option maxHeartbeats 8000000 in
set_option maxRecDepth 100000 in
theorem path_Valid.calls (k : Nat) (a0 : ByteArray) (r : Bool) (w : World) (h : path_Valid.f k a0 = some r) :
  Calls Tryd.prog 64 #[.string a0] w fun e w' => e = .returned (.bool r) ∧ Below w.heap.size w w' := by
 have HB := Aside0.mk (Below.refl w.heap.size w)
 have H : (if (a0.size : Int) > 120 then (path_Valid.j0 k a0 true) else ((path_Depth.f k a0).bind fun t194 => (path_Valid.j0 k a0 (decide (t194 > 12))))) = some r := h
 clear h
 have HC2 := Aside0.mk H
 clear H
 go_enter Tryd.func64, Tryd.ntmps64
 go_upto_region 1 with (fail)
 go_cut [12] (fun v12 wc => ∃ (kq : Nat) (x12_1 : Bool), v12 = .bool x12_1 ∧ Aside0 (path_Valid.j0 kq a0 x12_1 = some r) ∧ Aside0 (kq ≤ k) ∧ Aside0 (Below w.heap.size w wc))
 case first =>
  have H := HC2.out
  clear HC2
  by_cases c3 : (a0.size : Int) > 120
  ·rw [if_pos c3] at H
   have c3b0 := decide_eq_true c3
   have c3b1 : decide (120 < a0.size) = true := decide_eq_true (by omega)
   clear c3
   (first | rw [c3b0] | (simp only [i64_w, i32_w]; rw [c3b0]) | skip)
   have H' := Aside0.mk H
   clear H
   go_wp2
   go_meet
   case rel => exact ⟨_, (true), (by first | rfl | (simp; done) | (simp [*]; done)), H', ⟨by first | omega | exact Nat.le_refl _⟩, ⟨by repeat (first | (with_reducible first | exact HB.out | apply below_alloc | apply pw_below_drewN | apply below_drew1) | exact HB.out)⟩⟩
  ·rw [if_neg c3] at H
   have c3b0 := decide_eq_false c3
   have c3b1 : decide (120 < a0.size) = false := decide_eq_false (by omega)
   clear c3
   (first | rw [c3b0] | (simp only [i64_w, i32_w]; rw [c3b0]) | skip)
   replace H := Option.bind_eq_some_iff.mp H
   obtain ⟨t194, A40, H⟩ := H
   try dsimp only at H
   have A4 := Aside0.mk A40
   clear A40
   have H' := Aside0.mk H
   clear H
   go_wp2_with (first | (go_at_call 90; (with_reducible refine (path_Depth.calls k a0 t194 _ A4.out).mono ?_); rintro e w' ⟨rfl, ⟨nd, rfl⟩⟩))
   go_meet
   case rel => exact ⟨_, (decide (t194 > 12)), (by first | rfl | (simp; done) | (simp [*]; done)), H', ⟨by first | omega | exact Nat.le_refl _⟩, ⟨by repeat (first | (with_reducible first | exact HB.out | apply below_alloc | apply pw_below_drewN | apply below_drew1) | exact HB.out)⟩⟩
 case rest =>
  clear HC2
  try clear p2
  try clear c3
  try clear c3b0
  try clear c3b1
  obtain ⟨kq, x12_1, rfl, HA, HJ1, HB⟩ := hcut
  cases kq with
  | zero => exact absurd HA.out (by simp [path_Valid.j0])
  | succ kj1 =>
   have H := HA.out
   clear HA
   simp only [path_Valid.j0] at H
   by_cases c5 : x12_1 = true
   ·subst c5
    rw [if_pos rfl] at H
    have H1 := H
    clear H
    have H := H1
    clear H1
    obtain rfl := Option.some.inj H
    go_wp2
    go_ret
    exact ⟨by first | rfl | (simp [errW_none, errW_some] <;> rfl) | (simp [*, errW_none, errW_some] <;> rfl), by repeat (first | (with_reducible first | exact HB.out | apply below_alloc | apply pw_below_drewN | apply below_drew1) | exact HB.out)⟩
   ·replace c5 := Bool.eq_false_iff.mpr c5
    subst c5
    have H1 : ((path_Split.f kj1 a0).bind fun t195 => (path_Valid.l0 kj1 t195 (t195.length : Int) 0)) = some r := by rw [if_neg (show ¬ (false = true) by decide)] at H; exact H
    clear H
    have H := H1
    clear H1
    replace H := Option.bind_eq_some_iff.mp H
    obtain ⟨t195, A60, H⟩ := H
    try dsimp only at H
    have A6 := Aside0.mk A60
    clear A60
    have H' := Aside0.mk H
    clear H
    go_wp2_with (first | ((with_reducible refine gate_callee (f := 76) rfl ?_); refine goesL_ (some 14) rfl rfl Tryd.func76 (by kernel_rfl) rfl #[.string a0] rfl (by (try simp only [List.map_toArray, List.map_cons, List.map_nil]); first | done | rfl | (simp only [List.length_drop, List.length_take]; rfl)) ?_; (with_reducible refine (path_Split.calls kj1 a0 t195 _ A6.out).mono ?_); rintro e w7 ⟨v196, rfl, ho0, hb⟩; refine ⟨_, rfl, ?_⟩; have n0_ := Aside0.mk (Kd.R_lower ho0 (below_size (by repeat (first | (with_reducible first | exact HB.out | apply below_alloc | apply pw_below_drewN | apply below_drew1) | exact HB.out)))); have n1_ := Aside0.mk (below_step (by repeat (first | (with_reducible first | exact HB.out | apply below_alloc | apply pw_below_drewN | apply below_drew1) | exact HB.out)) hb); clear HB; have HO197 := n0_; have HB := n1_; clear n0_ n1_; (try clear hb); (try clear hb2); (try clear hk); (try clear hi); (try clear ho0); obtain ⟨Ao8, co8, eo8⟩ := Kd.R_slice HO197.out; subst eo8))
    go_loopg [16] kj1 (fun kq v16 w' => ∃ (x16_2 : Int), v16 = .int .i64 x16_2 ∧ Aside0 (path_Valid.l0 kq t195 (t195.length : Int) x16_2 = some r) ∧ Aside0 (kq ≤ kj1) ∧ Aside0 (Kd.R Kd.string 9 w' w.heap.size (fun _ => True) (.slice Ao8 t195.length co8) t195) ∧ Aside0 (Below w.heap.size w w'))
    case atStart => exact ⟨(0), (by first | rfl | (simp; done) | (simp [*]; done)), H', ⟨Nat.le_refl _⟩, ⟨by (with_reducible repeat (first | apply Kd.R_alloc | apply Kd.R_drewN | apply Kd.R_drew)); exact HO197.out⟩, ⟨by repeat (first | (with_reducible first | exact HB.out | apply below_alloc | apply pw_below_drewN | apply below_drew1) | exact HB.out)⟩⟩
    case round =>
     clear H'
     try clear p2
     try clear c3
     try clear c3b0
     try clear c3b1
     try clear c5
     try clear c6
     try clear c7
     try clear p2
     obtain ⟨x16_2, rfl, HA, HK2, HO_14, HB⟩ := hrel
     cases gk with
     | zero => exact absurd HA.out (by simp [path_Valid.l0])
     | succ k2 =>
      have H := HA.out
      clear HA
      simp only [path_Valid.l0] at H
      by_cases c9 : x16_2 < (t195.length : Int)
      ·rw [if_pos c9] at H
       have c9b0 := decide_eq_true c9
       clear c9
       by_cases c10 : 0 ≤ x16_2
       ·rw [if_pos c10] at H
        have c10b0 := decide_eq_true c10
        clear c10
        by_cases c11 : x16_2 < (t195.length : Int)
        ·rw [if_pos c11] at H
         have c11b0 := decide_eq_true c11
         clear c11
         replace H := Option.bind_eq_some_iff.mp H
         obtain ⟨t199, A120, H⟩ := H
         try dsimp only at H
         have A12 := Aside0.mk A120
         clear A120
         by_cases c13 : t199 = true
         ·subst c13
          rw [if_pos rfl] at H
          have H1 := H
          clear H
          have H := H1
          clear H1
          have H' := Aside0.mk H
          clear H
          have p198 : 0 ≤ (x16_2 : Int) := of_decide_eq_true (by first | (with_reducible assumption) | assumption)
          have q198 : x16_2 < (t195.length : Int) := of_decide_eq_true (by first | (with_reducible assumption) | assumption)
          obtain ⟨ad198, e198, hx198_0⟩ := Kd.at_string (Kd.R_reads' HO_14.out).2.2 x16_2 p198 q198
          cases e198
          replace p198 := eq_true p198
          replace q198 := eq_true q198
          go_wp2_with (first | ((with_reducible refine gate_callee (f := 91) rfl ?_); refine goesL_ (some 21) rfl rfl Tryd.func91 (by kernel_rfl) rfl #[.string (rdOf ByteArray.empty t195 x16_2)] rfl (by (try simp only [List.map_toArray, List.map_cons, List.map_nil]); first | done | rfl | (simp only [List.length_drop, List.length_take]; rfl)) ?_; (with_reducible refine (path_Component.calls k2 (rdOf ByteArray.empty t195 x16_2) true _ A12.out).mono ?_); rintro e w' ⟨rfl, ⟨nd, rfl⟩⟩; refine ⟨_, rfl, ?_⟩))
          go_roundg k2
          case measure => have := HJ1.out; have := HK2.out; omega
          case rel => exact ⟨(wrap64 (x16_2 + 1)), (by first | rfl | (simp; done) | (simp [*]; done)), H', ⟨by have := HJ1.out; have := HK2.out; omega⟩, ⟨by (with_reducible repeat (first | apply Kd.R_alloc | apply Kd.R_drewN | apply Kd.R_drew)); exact HO_14.out⟩, ⟨by repeat (first | (with_reducible first | exact HB.out | apply below_alloc | apply pw_below_drewN | apply below_drew1) | exact HB.out)⟩⟩
         ·replace c13 := Bool.eq_false_iff.mpr c13
          subst c13
          have H1 : (some false) = some r := by rw [if_neg (show ¬ (false = true) by decide)] at H; exact H
          clear H
          have H := H1
          clear H1
          obtain rfl := Option.some.inj H
          have p198 : 0 ≤ (x16_2 : Int) := of_decide_eq_true (by first | (with_reducible assumption) | assumption)
          have q198 : x16_2 < (t195.length : Int) := of_decide_eq_true (by first | (with_reducible assumption) | assumption)
          obtain ⟨ad198, e198, hx198_0⟩ := Kd.at_string (Kd.R_reads' HO_14.out).2.2 x16_2 p198 q198
          cases e198
          replace p198 := eq_true p198
          replace q198 := eq_true q198
          go_wp2_with (first | ((with_reducible refine gate_callee (f := 91) rfl ?_); refine goesL_ (some 21) rfl rfl Tryd.func91 (by kernel_rfl) rfl #[.string (rdOf ByteArray.empty t195 x16_2)] rfl (by (try simp only [List.map_toArray, List.map_cons, List.map_nil]); first | done | rfl | (simp only [List.length_drop, List.length_take]; rfl)) ?_; (with_reducible refine (path_Component.calls k2 (rdOf ByteArray.empty t195 x16_2) false _ A12.out).mono ?_); rintro e w' ⟨rfl, ⟨nd, rfl⟩⟩; refine ⟨_, rfl, ?_⟩))
          go_ret
          exact ⟨by first | rfl | (simp [errW_none, errW_some] <;> rfl) | (simp [*, errW_none, errW_some] <;> rfl), by repeat (first | (with_reducible first | exact HB.out | apply below_alloc | apply pw_below_drewN | apply below_drew1) | exact HB.out)⟩
        ·rw [if_neg c11] at H
         exact absurd H (by simp)
       ·rw [if_neg c10] at H
        exact absurd H (by simp)
      ·rw [if_neg c9] at H
       have c9b0 := decide_eq_false c9
       clear c9
       obtain rfl := Option.some.inj H
       go_wp2
       go_ret
       exact ⟨by first | rfl | (simp [errW_none, errW_some] <;> rfl) | (simp [*, errW_none, errW_some] <;> rfl), by repeat (first | (with_reducible first | exact HB.out | apply below_alloc | apply pw_below_drewN | apply below_drew1) | exact HB.out)⟩
def cone_Valid.l0 : Nat → List ByteArray → List ByteArray → Int → Int → Option (Int)
 | 0, _, _, _, _ => none
 | k + 1, x0, x5, x6, x7 => if x7 < x6 then (if 0 ≤ x7 then (if x7 < (x5.length : Int) then ((path_Valid.f k (rdOf ByteArray.empty x5 x7)).bind fun t201 => (if t201 = true then (if x7 > 0 then (if 0 ≤ (wrap64 (x7 - 1)) then (if (wrap64 (x7 - 1)) < (x0.length : Int) then ((path_Cmp.f k (rdOf ByteArray.empty x0 (wrap64 (x7 - 1))) (rdOf ByteArray.empty x5 x7)).bind fun t203 => (if t203 ≥ 0 then (some 13) else ((path_Above.f k (rdOf ByteArray.empty x0 (wrap64 (x7 - 1))) (rdOf ByteArray.empty x5 x7)).bind fun t205 => (if t205 = true then (some 13) else (cone_Valid.l0 k x0 x5 x6 (wrap64 (x7 + 1))))))) else (none)) else (none)) else (cone_Valid.l0 k x0 x5 x6 (wrap64 (x7 + 1)))) else (some 13))) else (none)) else (none)) else (some 0)
def cone_Valid.f (k : Nat) (l0 : List ByteArray) : Option (Int) := cone_Valid.l0 k l0 l0 (l0.length : Int) 0
theorem cone_Valid.mono_l : ∀ k, (∀ y0 y1 y2 y3, LeO (cone_Valid.l0 k y0 y1 y2 y3) (cone_Valid.l0 (k + 1) y0 y1 y2 y3))
 | 0 => fun _ _ _ _ r h => by simp [cone_Valid.l0] at h
 | k + 1 => by
  have ih0 := cone_Valid.mono_l k
  ·intro y0 y1 y2 y3
   unfold cone_Valid.l0
   repeat' first
   | (with_reducible exact ih0 _ _ _ _)
   | (with_reducible exact path_Above.mono _ _ _)
   | (with_reducible exact path_Cmp.mono _ _ _)
   | (with_reducible exact path_Valid.mono _ _)
   | (with_reducible exact LeO.refl _)
   | (with_reducible exact LeO.none _)
   | (with_reducible refine LeO.ite ?_ ?_)
   | (with_reducible refine LeO.bind ?_ (fun _ => ?_))
   | exact ih0 _ _ _ _
   | exact path_Above.mono _ _ _
   | exact path_Cmp.mono _ _ _
   | exact path_Valid.mono _ _
   | exact LeO.none _
   | refine LeO.ite ?_ ?_
   | refine LeO.bind ?_ (fun _ => ?_)
theorem cone_Valid.mono : ∀ a0 k, LeO (cone_Valid.f k a0) (cone_Valid.f (k + 1) a0) := by
 intro a0 k
 have ih0 := cone_Valid.mono_l k
 unfold cone_Valid.f
 repeat' first
   | (with_reducible exact ih0 _ _ _ _)
   | (with_reducible exact path_Above.mono _ _ _)
   | (with_reducible exact path_Cmp.mono _ _ _)
   | (with_reducible exact path_Valid.mono _ _)
   | (with_reducible exact LeO.refl _)
   | (with_reducible exact LeO.none _)
   | (with_reducible refine LeO.ite ?_ ?_)
   | (with_reducible refine LeO.bind ?_ (fun _ => ?_))
   | exact ih0 _ _ _ _
   | exact path_Above.mono _ _ _
   | exact path_Cmp.mono _ _ _
   | exact path_Valid.mono _ _
   | exact LeO.none _
   | refine LeO.ite ?_ ?_
   | refine LeO.bind ?_ (fun _ => ?_)
set_option maxHeartbeats 8000000 in
set_option maxRecDepth 100000 in
theorem cone_Valid.calls (k : Nat) (A0 : Option Addr) (c0 : Nat) (l0 : List ByteArray) (r : Int) (w : World) (hr0 : Kd.C Kd.string w A0 l0.length l0) (hc0 : l0.length ≤ c0) (h : cone_Valid.f k l0 = some r) :
  Calls Tryd.prog 37 #[.slice A0 l0.length c0] w fun e w' => e = .returned (.int .i64 r) ∧ Below w.heap.size w w' := by
 have HR0 := Aside0.mk hr0
 have HC0 := Aside0.mk hc0
 clear hr0 hc0
 have HB := Aside0.mk (Below.refl w.heap.size w)
 have H : (cone_Valid.l0 k l0 l0 (l0.length : Int) 0) = some r := h
 clear h
 have H' := Aside0.mk H
 clear H
 go_enter Tryd.func37, Tryd.ntmps37
 go_wp2
 go_loopg [7] k (fun kq v7 w' => ∃ (x7_1 : Int), v7 = .int .i64 x7_1 ∧ Aside0 (cone_Valid.l0 kq l0 l0 (l0.length : Int) x7_1 = some r) ∧ Aside0 (kq ≤ k) ∧ Aside0 (Below w.heap.size w w'))
 case atStart => exact ⟨(0), (by first | rfl | (simp; done) | (simp [*]; done)), H', ⟨Nat.le_refl _⟩, ⟨by repeat (first | (with_reducible first | exact HB.out | apply below_alloc | apply pw_below_drewN | apply below_drew1) | exact HB.out)⟩⟩
 case round =>
  clear H'
  obtain ⟨x7_1, rfl, HA, HK1, HB⟩ := hrel
  cases gk with
  | zero => exact absurd HA.out (by simp [cone_Valid.l0])
  | succ k1 =>
   have H := HA.out
   clear HA
   simp only [cone_Valid.l0] at H
   by_cases c2 : x7_1 < (l0.length : Int)
   ·rw [if_pos c2] at H
    have c2b0 := decide_eq_true c2
    clear c2
    by_cases c3 : 0 ≤ x7_1
    ·rw [if_pos c3] at H
     have c3b0 := decide_eq_true c3
     clear c3
     by_cases c4 : x7_1 < (l0.length : Int)
     ·rw [if_pos c4] at H
      have c4b0 := decide_eq_true c4
      clear c4
      replace H := Option.bind_eq_some_iff.mp H
      obtain ⟨t201, A50, H⟩ := H
      try dsimp only at H
      have A5 := Aside0.mk A50
      clear A50
      by_cases c6 : t201 = true
      ·subst c6
       rw [if_pos rfl] at H
       have H1 := H
       clear H
       have H := H1
       clear H1
       by_cases c7 : x7_1 > 0
       ·rw [if_pos c7] at H
        have c7b0 := decide_eq_true c7
        clear c7
        obtain ⟨ji8, hji8⟩ : ∃ j_ : Int, (wrap64 (x7_1 - 1)) = j_ := ⟨_, rfl⟩
        replace H : (if 0 ≤ (ji8) then (if (ji8) < (l0.length : Int) then ((path_Cmp.f k1 (rdOf ByteArray.empty l0 (ji8)) (rdOf ByteArray.empty l0 x7_1)).bind fun t203 => (if t203 ≥ 0 then (some 13) else ((path_Above.f k1 (rdOf ByteArray.empty l0 (ji8)) (rdOf ByteArray.empty l0 x7_1)).bind fun t205 => (if t205 = true then (some 13) else (cone_Valid.l0 k1 l0 l0 (l0.length : Int) (wrap64 (x7_1 + 1))))))) else (none)) else (none)) = some r := by first | (rw [hji8] at H; exact H) | (simp only [hji8] at H ⊢; exact H)
        (try rw [hji8] at A5)
        have hji8w : (IntKind.i64.wrap (x7_1 - 1)) = ji8 := (i64_w _).trans hji8
        by_cases c9 : 0 ≤ (ji8)
        ·rw [if_pos c9] at H
         have c9b0 := decide_eq_true c9
         clear c9
         by_cases c10 : (ji8) < (l0.length : Int)
         ·rw [if_pos c10] at H
          have c10b0 := decide_eq_true c10
          clear c10
          replace H := Option.bind_eq_some_iff.mp H
          obtain ⟨t203, A110, H⟩ := H
          try dsimp only at H
          have A11 := Aside0.mk A110
          clear A110
          by_cases c12 : t203 ≥ 0
          ·rw [if_pos c12] at H
           have c12b0 := decide_eq_true c12
           clear c12
           obtain rfl := Option.some.inj H
           have p200 : 0 ≤ (x7_1 : Int) := of_decide_eq_true (by first | (with_reducible assumption) | assumption)
           have q200 : x7_1 < (l0.length : Int) := of_decide_eq_true (by first | (with_reducible assumption) | assumption)
           obtain ⟨ad200, e200, hx200_0⟩ := Kd.at_string HR0.out x7_1 p200 q200
           cases e200
           replace hx200_0 := (HB.out.cell (World.block_lt_of_cell? w _ hx200_0)).trans hx200_0
           replace p200 := eq_true p200
           replace q200 := eq_true q200
           go_wp2_with (first | ((with_reducible refine gate_callee (f := 64) rfl ?_); refine goesL_ (some 13) rfl rfl Tryd.func64 (by kernel_rfl) rfl #[.string (rdOf ByteArray.empty l0 x7_1)] rfl (by (try simp only [List.map_toArray, List.map_cons, List.map_nil]); first | done | rfl | (simp only [List.length_drop, List.length_take]; rfl)) ?_; (with_reducible refine (path_Valid.calls k1 (rdOf ByteArray.empty l0 x7_1) true _ A5.out).mono ?_); rintro e w13 ⟨rfl, hb⟩; refine ⟨_, rfl, ?_⟩; have n0_ := Aside0.mk (below_step (by repeat (first | (with_reducible first | exact HB.out | apply below_alloc | apply pw_below_drewN | apply below_drew1) | exact HB.out)) hb); clear HB; have HB := n0_; clear n0_; (try clear hb); (try clear hb2); (try clear hk); (try clear hi); have p202 : 0 ≤ ((ji8) : Int) := of_decide_eq_true (by first | (with_reducible assumption) | assumption); have q202 : (ji8) < (l0.length : Int) := of_decide_eq_true (by first | (with_reducible assumption) | assumption); obtain ⟨ad202, e202, hx202_0⟩ := Kd.at_string HR0.out (ji8) p202 q202; obtain rfl : ad200 = ad202 := (by injection e202); replace hx202_0 := (HB.out.cell (World.block_lt_of_cell? w _ hx202_0)).trans hx202_0; replace p202 := eq_true p202; replace q202 := eq_true q202) | (go_at_call 50; (with_reducible refine (path_Cmp.calls k1 (rdOf ByteArray.empty l0 (ji8)) (rdOf ByteArray.empty l0 x7_1) t203 _ A11.out).mono ?_); rintro e w14 ⟨rfl, hb⟩; have n0_ := Aside0.mk (below_step (by repeat (first | (with_reducible first | exact HB.out | apply below_alloc | apply pw_below_drewN | apply below_drew1) | exact HB.out)) hb); clear HB; have HB := n0_; clear n0_; (try clear hb); (try clear hb2); (try clear hk); (try clear hi)))
           go_ret
           exact ⟨by first | rfl | (simp [errW_none, errW_some] <;> rfl) | (simp only [← hji8]; first | rfl | (simp [errW_none, errW_some] <;> rfl)) | (simp [*, errW_none, errW_some] <;> rfl), by repeat (first | (with_reducible first | exact HB.out | apply below_alloc | apply pw_below_drewN | apply below_drew1) | exact HB.out)⟩
          ·rw [if_neg c12] at H
           have c12b0 := decide_eq_false c12
           clear c12
           replace H := Option.bind_eq_some_iff.mp H
           obtain ⟨t205, A150, H⟩ := H
           try dsimp only at H
           have A15 := Aside0.mk A150
           clear A150
           by_cases c16 : t205 = true
           ·subst c16
            rw [if_pos rfl] at H
            have H1 := H
            clear H
            have H := H1
            clear H1
            obtain rfl := Option.some.inj H
            have p200 : 0 ≤ (x7_1 : Int) := of_decide_eq_true (by first | (with_reducible assumption) | assumption)
            have q200 : x7_1 < (l0.length : Int) := of_decide_eq_true (by first | (with_reducible assumption) | assumption)
            obtain ⟨ad200, e200, hx200_0⟩ := Kd.at_string HR0.out x7_1 p200 q200
            cases e200
            replace hx200_0 := (HB.out.cell (World.block_lt_of_cell? w _ hx200_0)).trans hx200_0
            replace p200 := eq_true p200
            replace q200 := eq_true q200
            go_wp2_with (first | ((with_reducible refine gate_callee (f := 64) rfl ?_); refine goesL_ (some 13) rfl rfl Tryd.func64 (by kernel_rfl) rfl #[.string (rdOf ByteArray.empty l0 x7_1)] rfl (by (try simp only [List.map_toArray, List.map_cons, List.map_nil]); first | done | rfl | (simp only [List.length_drop, List.length_take]; rfl)) ?_; (with_reducible refine (path_Valid.calls k1 (rdOf ByteArray.empty l0 x7_1) true _ A5.out).mono ?_); rintro e w17 ⟨rfl, hb⟩; refine ⟨_, rfl, ?_⟩; have n0_ := Aside0.mk (below_step (by repeat (first | (with_reducible first | exact HB.out | apply below_alloc | apply pw_below_drewN | apply below_drew1) | exact HB.out)) hb); clear HB; have HB := n0_; clear n0_; (try clear hb); (try clear hb2); (try clear hk); (try clear hi); have p202 : 0 ≤ ((ji8) : Int) := of_decide_eq_true (by first | (with_reducible assumption) | assumption); have q202 : (ji8) < (l0.length : Int) := of_decide_eq_true (by first | (with_reducible assumption) | assumption); obtain ⟨ad202, e202, hx202_0⟩ := Kd.at_string HR0.out (ji8) p202 q202; obtain rfl : ad200 = ad202 := (by injection e202); replace hx202_0 := (HB.out.cell (World.block_lt_of_cell? w _ hx202_0)).trans hx202_0; replace p202 := eq_true p202; replace q202 := eq_true q202) | (go_at_call 50; (with_reducible refine (path_Cmp.calls k1 (rdOf ByteArray.empty l0 (ji8)) (rdOf ByteArray.empty l0 x7_1) t203 _ A11.out).mono ?_); rintro e w18 ⟨rfl, hb⟩; have n0_ := Aside0.mk (below_step (by repeat (first | (with_reducible first | exact HB.out | apply below_alloc | apply pw_below_drewN | apply below_drew1) | exact HB.out)) hb); clear HB; have HB := n0_; clear n0_; (try clear hb); (try clear hb2); (try clear hk); (try clear hi); have p204 : 0 ≤ ((ji8) : Int) := of_decide_eq_true (by first | (with_reducible assumption) | assumption); have q204 : (ji8) < (l0.length : Int) := of_decide_eq_true (by first | (with_reducible assumption) | assumption); obtain ⟨ad204, e204, hx204_0⟩ := Kd.at_string HR0.out (ji8) p204 q204; obtain rfl : ad200 = ad204 := (by injection e204); replace hx204_0 := (HB.out.cell (World.block_lt_of_cell? w _ hx204_0)).trans hx204_0; replace p204 := eq_true p204; replace q204 := eq_true q204) | (go_at_call 46; (with_reducible refine (path_Above.calls k1 (rdOf ByteArray.empty l0 (ji8)) (rdOf ByteArray.empty l0 x7_1) true _ A15.out).mono ?_); rintro e w19 ⟨rfl, hb⟩; have n0_ := Aside0.mk (below_step (by repeat (first | (with_reducible first | exact HB.out | apply below_alloc | apply pw_below_drewN | apply below_drew1) | exact HB.out)) hb); clear HB; have HB := n0_; clear n0_; (try clear hb); (try clear hb2); (try clear hk); (try clear hi)))
            go_ret
            exact ⟨by first | rfl | (simp [errW_none, errW_some] <;> rfl) | (simp only [← hji8]; first | rfl | (simp [errW_none, errW_some] <;> rfl)) | (simp [*, errW_none, errW_some] <;> rfl), by repeat (first | (with_reducible first | exact HB.out | apply below_alloc | apply pw_below_drewN | apply below_drew1) | exact HB.out)⟩
           ·replace c16 := Bool.eq_false_iff.mpr c16
            subst c16
            have H1 : (cone_Valid.l0 k1 l0 l0 (l0.length : Int) (wrap64 (x7_1 + 1))) = some r := by rw [if_neg (show ¬ (false = true) by decide)] at H; exact H
            clear H
            have H := H1
            clear H1
            have H' := Aside0.mk H
            clear H
            have p200 : 0 ≤ (x7_1 : Int) := of_decide_eq_true (by first | (with_reducible assumption) | assumption)
            have q200 : x7_1 < (l0.length : Int) := of_decide_eq_true (by first | (with_reducible assumption) | assumption)
            obtain ⟨ad200, e200, hx200_0⟩ := Kd.at_string HR0.out x7_1 p200 q200
            cases e200
            replace hx200_0 := (HB.out.cell (World.block_lt_of_cell? w _ hx200_0)).trans hx200_0
            replace p200 := eq_true p200
            replace q200 := eq_true q200
            go_wp2_with (first | ((with_reducible refine gate_callee (f := 64) rfl ?_); refine goesL_ (some 13) rfl rfl Tryd.func64 (by kernel_rfl) rfl #[.string (rdOf ByteArray.empty l0 x7_1)] rfl (by (try simp only [List.map_toArray, List.map_cons, List.map_nil]); first | done | rfl | (simp only [List.length_drop, List.length_take]; rfl)) ?_; (with_reducible refine (path_Valid.calls k1 (rdOf ByteArray.empty l0 x7_1) true _ A5.out).mono ?_); rintro e w20 ⟨rfl, hb⟩; refine ⟨_, rfl, ?_⟩; have n0_ := Aside0.mk (below_step (by repeat (first | (with_reducible first | exact HB.out | apply below_alloc | apply pw_below_drewN | apply below_drew1) | exact HB.out)) hb); clear HB; have HB := n0_; clear n0_; (try clear hb); (try clear hb2); (try clear hk); (try clear hi); have p202 : 0 ≤ ((ji8) : Int) := of_decide_eq_true (by first | (with_reducible assumption) | assumption); have q202 : (ji8) < (l0.length : Int) := of_decide_eq_true (by first | (with_reducible assumption) | assumption); obtain ⟨ad202, e202, hx202_0⟩ := Kd.at_string HR0.out (ji8) p202 q202; obtain rfl : ad200 = ad202 := (by injection e202); replace hx202_0 := (HB.out.cell (World.block_lt_of_cell? w _ hx202_0)).trans hx202_0; replace p202 := eq_true p202; replace q202 := eq_true q202) | (go_at_call 50; (with_reducible refine (path_Cmp.calls k1 (rdOf ByteArray.empty l0 (ji8)) (rdOf ByteArray.empty l0 x7_1) t203 _ A11.out).mono ?_); rintro e w21 ⟨rfl, hb⟩; have n0_ := Aside0.mk (below_step (by repeat (first | (with_reducible first | exact HB.out | apply below_alloc | apply pw_below_drewN | apply below_drew1) | exact HB.out)) hb); clear HB; have HB := n0_; clear n0_; (try clear hb); (try clear hb2); (try clear hk); (try clear hi); have p204 : 0 ≤ ((ji8) : Int) := of_decide_eq_true (by first | (with_reducible assumption) | assumption); have q204 : (ji8) < (l0.length : Int) := of_decide_eq_true (by first | (with_reducible assumption) | assumption); obtain ⟨ad204, e204, hx204_0⟩ := Kd.at_string HR0.out (ji8) p204 q204; obtain rfl : ad200 = ad204 := (by injection e204); replace hx204_0 := (HB.out.cell (World.block_lt_of_cell? w _ hx204_0)).trans hx204_0; replace p204 := eq_true p204; replace q204 := eq_true q204) | (go_at_call 46; (with_reducible refine (path_Above.calls k1 (rdOf ByteArray.empty l0 (ji8)) (rdOf ByteArray.empty l0 x7_1) false _ A15.out).mono ?_); rintro e w22 ⟨rfl, hb⟩; have n0_ := Aside0.mk (below_step (by repeat (first | (with_reducible first | exact HB.out | apply below_alloc | apply pw_below_drewN | apply below_drew1) | exact HB.out)) hb); clear HB; have HB := n0_; clear n0_; (try clear hb); (try clear hb2); (try clear hk); (try clear hi)))
            go_roundg k1
            case measure => have := HK1.out; omega
            case rel => exact ⟨(wrap64 (x7_1 + 1)), (by first | rfl | (simp; done) | (simp [*]; done)), H', ⟨by have := HK1.out; omega⟩, ⟨by repeat (first | (with_reducible first | exact HB.out | apply below_alloc | apply pw_below_drewN | apply below_drew1) | exact HB.out)⟩⟩
         ·rw [if_neg c10] at H
          exact absurd H (by simp)
        ·rw [if_neg c9] at H
         exact absurd H (by simp)
       ·rw [if_neg c7] at H
        have c7b0 := decide_eq_false c7
        clear c7
        have H' := Aside0.mk H
        clear H
        have p200 : 0 ≤ (x7_1 : Int) := of_decide_eq_true (by first | (with_reducible assumption) | assumption)
        have q200 : x7_1 < (l0.length : Int) := of_decide_eq_true (by first | (with_reducible assumption) | assumption)
        obtain ⟨ad200, e200, hx200_0⟩ := Kd.at_string HR0.out x7_1 p200 q200
        cases e200
        replace hx200_0 := (HB.out.cell (World.block_lt_of_cell? w _ hx200_0)).trans hx200_0
        replace p200 := eq_true p200
        replace q200 := eq_true q200
        go_wp2_with (first | ((with_reducible refine gate_callee (f := 64) rfl ?_); refine goesL_ (some 13) rfl rfl Tryd.func64 (by kernel_rfl) rfl #[.string (rdOf ByteArray.empty l0 x7_1)] rfl (by (try simp only [List.map_toArray, List.map_cons, List.map_nil]); first | done | rfl | (simp only [List.length_drop, List.length_take]; rfl)) ?_; (with_reducible refine (path_Valid.calls k1 (rdOf ByteArray.empty l0 x7_1) true _ A5.out).mono ?_); rintro e w23 ⟨rfl, hb⟩; refine ⟨_, rfl, ?_⟩; have n0_ := Aside0.mk (below_step (by repeat (first | (with_reducible first | exact HB.out | apply below_alloc | apply pw_below_drewN | apply below_drew1) | exact HB.out)) hb); clear HB; have HB := n0_; clear n0_; (try clear hb); (try clear hb2); (try clear hk); (try clear hi)))
        go_roundg k1
        case measure => have := HK1.out; omega
        case rel => exact ⟨(wrap64 (x7_1 + 1)), (by first | rfl | (simp; done) | (simp [*]; done)), H', ⟨by have := HK1.out; omega⟩, ⟨by repeat (first | (with_reducible first | exact HB.out | apply below_alloc | apply pw_below_drewN | apply below_drew1) | exact HB.out)⟩⟩
      ·replace c6 := Bool.eq_false_iff.mpr c6
       subst c6
       have H1 : (some 13) = some r := by rw [if_neg (show ¬ (false = true) by decide)] at H; exact H
       clear H
       have H := H1
       clear H1
       obtain rfl := Option.some.inj H
       have p200 : 0 ≤ (x7_1 : Int) := of_decide_eq_true (by first | (with_reducible assumption) | assumption)
       have q200 : x7_1 < (l0.length : Int) := of_decide_eq_true (by first | (with_reducible assumption) | assumption)
       obtain ⟨ad200, e200, hx200_0⟩ := Kd.at_string HR0.out x7_1 p200 q200
       cases e200
       replace hx200_0 := (HB.out.cell (World.block_lt_of_cell? w _ hx200_0)).trans hx200_0
       replace p200 := eq_true p200
       replace q200 := eq_true q200
       go_wp2_with (first | ((with_reducible refine gate_callee (f := 64) rfl ?_); refine goesL_ (some 13) rfl rfl Tryd.func64 (by kernel_rfl) rfl #[.string (rdOf ByteArray.empty l0 x7_1)] rfl (by (try simp only [List.map_toArray, List.map_cons, List.map_nil]); first | done | rfl | (simp only [List.length_drop, List.length_take]; rfl)) ?_; (with_reducible refine (path_Valid.calls k1 (rdOf ByteArray.empty l0 x7_1) false _ A5.out).mono ?_); rintro e w24 ⟨rfl, hb⟩; refine ⟨_, rfl, ?_⟩; have n0_ := Aside0.mk (below_step (by repeat (first | (with_reducible first | exact HB.out | apply below_alloc | apply pw_below_drewN | apply below_drew1) | exact HB.out)) hb); clear HB; have HB := n0_; clear n0_; (try clear hb); (try clear hb2); (try clear hk); (try clear hi)))
       go_ret
       exact ⟨by first | rfl | (simp [errW_none, errW_some] <;> rfl) | (simp [*, errW_none, errW_some] <;> rfl), by repeat (first | (with_reducible first | exact HB.out | apply below_alloc | apply pw_below_drewN | apply below_drew1) | exact HB.out)⟩
     ·rw [if_neg c4] at H
      exact absurd H (by simp)
    ·rw [if_neg c3] at H
     exact absurd H (by simp)
   ·rw [if_neg c2] at H
    have c2b0 := decide_eq_false c2
    clear c2
    obtain rfl := Option.some.inj H
    go_wp2
    go_ret
    exact ⟨by first | rfl | (simp [errW_none, errW_some] <;> rfl) | (simp [*, errW_none, errW_some] <;> rfl), by repeat (first | (with_reducible first | exact HB.out | apply below_alloc | apply pw_below_drewN | apply below_drew1) | exact HB.out)⟩
end Go.Proofs.YtehfogjibhnabaaDoor.PAll
namespace Go.Proofs.YtehfogjibhnabaaDoor.PAll
open Go.RowKit Go.Shelf Go.Proofs.YtehfogjibhnabaaDoorW.PrintWords Go.Proofs.YtehfogjibhnabaaDoorW.PrintLast Go.Proofs.YtehfogjibhnabaaDoorW.PrintMore
open Go.Proofs.YtehfogjibhnabaaDoor.Sp Go.Sort
def Gr (w w' : World) : Prop := ∃ (q : Nat) (os : Array Obj), w' = grow (w.drewN q) os
theorem Gr.refl (w : World) : Gr w w := ⟨0, #[], by rw [grow_empty]; rfl⟩
theorem Gr.drewN {w w1 : World} (h : Gr w w1) (n : Nat) : Gr w (w1.drewN n) := by
 obtain ⟨q, os, rfl⟩ := h
 exact ⟨q + n, os, by rw [← World.drewN_drewN]; rfl⟩
theorem Gr.drew {w w1 : World} (h : Gr w w1) : Gr w w1.drew := h.drewN 1
theorem Gr.alloc {w w1 : World} (h : Gr w w1) (o : Obj) : Gr w (w1.alloc o) := by
 obtain ⟨q, os, rfl⟩ := h
 exact ⟨q, os ++ #[o], by rw [alloc_eq_grow, grow_grow]⟩
theorem Gr.trans {w w1 w2 : World} (h : Gr w w1) (k : Gr w1 w2) : Gr w w2 := by
 obtain ⟨q, os, rfl⟩ := h
 obtain ⟨q', os', rfl⟩ := k
 refine ⟨q + q', os ++ os', ?_⟩
 rw [← World.drewN_drewN, ← grow_grow]; rfl
theorem Gr.below {w w1 : World} (h : Gr w w1) : Below w.heap.size w w1 := by
 obtain ⟨q, os, rfl⟩ := h
 exact ⟨rfl, rfl, rfl, by simp [World.drewN], fun k hk => heap_grow_old (w.drewN q) os hk⟩
theorem split_gr (a : ByteArray) (hs : a.size < 4294967281) (w : World) :
  Calls Tryd.prog 76 #[.string a] w fun e w' => ∃ v0_ : Value, e = .returned (v0_) ∧ Kd.R Kd.string 9 w' w.heap.size (fun _ => True) v0_ (pB a) ∧ Gr w w' := by
 by_cases hb : bs a = []
 ·rw [pB_nil hb]
  exact (split_nil a w hb).mono fun e w' ⟨he, hw⟩ => by subst hw; exact ⟨_, he, Kd.R_nil _ _ _ _ _, Gr.refl _⟩
 ·exact (split_some a w hb hs).mono fun e w' ⟨he, hw⟩ => by
   subst hw
   exact ⟨_, he, R_strs w _ _ _ _ (Nat.le_refl _) (by have := pB_length_le a; omega) trivial, (Gr.refl _).alloc _⟩
def comL : List ByteArray → List ByteArray → Nat
 | x :: l, y :: m => if x = y then comL l m + 1 else 0
 | _, _ => 0
theorem comL_same (x : ByteArray) (l m : List ByteArray) : comL (x :: l) (x :: m) = comL l m + 1 := by simp [comL]
theorem comL_diff {x y : ByteArray} (h : x ≠ y) (l m : List ByteArray) : comL (x :: l) (y :: m) = 0 := by simp [comL, h]
theorem comL_le : ∀ l m, comL l m ≤ l.length ∧ comL l m ≤ m.length
 | [], _ => by simp [comL]
 | _ :: _, [] => by simp [comL]
 | x :: l, y :: m => by
  have := comL_le l m
  unfold comL
  split
  ·simp only [List.length_cons]; omega
  ·simp
theorem rdOf_drop (l : List ByteArray) (i : Nat) (h : i < l.length) : l.drop i = rdOf ByteArray.empty l (i : Int) :: l.drop (i + 1) := by
 rw [List.drop_eq_getElem_cons h]
 congr 1
 simp [rdOf, List.getD_eq_getElem?_getD, List.getElem?_eq_getElem h]
theorem wrap_succ {i n : Nat} (h : i < n) (hn : n ≤ 4611686018427387904) : wrap64 ((i : Int) + 1) = ((i + 1 : Nat) : Int) := by unfold wrap64; omega
theorem common_runs (l m : List ByteArray) (hl : l.length ≤ 4611686018427387904) (d : Nat) : ∀ (k i : Nat), l.length - i = d → i ≤ l.length → i ≤ m.length → d < k →
  path_common.l0 k l m (i : Int) = some ((i + comL (l.drop i) (m.drop i) : Nat) : Int) := by
 induction d with
 | zero =>
  intro k i hd hi hm hk
  obtain ⟨k, rfl⟩ : ∃ j, k = j + 1 := ⟨k - 1, by omega⟩
  have e : l.drop i = [] := List.drop_of_length_le (by omega)
  simp only [path_common.l0]
  rw [if_neg (by omega), e]; simp [comL]
 | succ d ih =>
  intro k i hd hi hm hk
  obtain ⟨k, rfl⟩ : ∃ j, k = j + 1 := ⟨k - 1, by omega⟩
  simp only [path_common.l0]
  rw [if_pos (by omega)]
  by_cases h1 : i = m.length
  ·rw [if_pos (by omega), List.drop_of_length_le (l := m) (by omega)]
   cases l.drop i <;> simp [comL]
  ·rw [if_neg (by omega), if_pos (by omega), if_pos (by omega), rdOf_drop l i (by omega), rdOf_drop m i (by omega)]
   by_cases h2 : rdOf ByteArray.empty l (i : Int) = rdOf ByteArray.empty m (i : Int)
   ·rw [if_pos (by rw [h2]), wrap_succ (n := l.length) (by omega) hl, ih k (i + 1) (by omega) (by omega) (by omega) (by omega), h2, comL_same]
    congr 2; omega
   ·rw [if_neg (fun h => h2 (bs_inj (by rw [← toList_bs, ← toList_bs]; exact h))), comL_diff h2]; rfl
theorem common_ends (l m : List ByteArray) (hl : l.length ≤ 4611686018427387904) : path_common.f (l.length + 1) l m = some (comL l m : Int) := by
 unfold path_common.f
 have := common_runs l m hl l.length (l.length + 1) 0 (by omega) (by omega) (by omega) (by omega)
 simpa using this
theorem compare_string_is (a b : ByteArray) : cmp_Compare_string.f a b = some (cmpS (bs a) (bs b)) := by
 unfold cmp_Compare_string.f cmp_isNaN_string.f cmpS
 simp only [Option.bind_some, bne_self_eq_false, Bool.false_eq_true, if_false, toList_bs]
 split
 ·rfl
 ·split <;> rfl
theorem compare_int_is (a b : Int) : cmp_Compare_int.f a b = some (if a < b then -1 else if a > b then 1 else 0) := by
 unfold cmp_Compare_int.f cmp_isNaN_int.f
 simp only [Option.bind_some, bne_self_eq_false, Bool.false_eq_true, if_false]
 split
 ·rfl
 ·split <;> rfl
theorem cmpL_com : ∀ l m : List ByteArray, cmpL (l.map bs) (m.map bs) = if comL l m < l.length ∧ comL l m < m.length then cmpS (bs (l.getD (comL l m) ByteArray.empty)) (bs (m.getD (comL l m) ByteArray.empty)) else (if (l.length : Int) < m.length then -1 else if (l.length : Int) > m.length then 1 else 0)
 | [], [] => by simp [cmpL, comL]
 | [], _ :: _ => by simp [cmpL, comL] <;> omega
 | _ :: _, [] => by simp [cmpL, comL] <;> omega
 | x :: l, y :: m => by
  have ih := cmpL_com l m
  simp only [List.map_cons, cmpL]
  by_cases h : x = y
  ·subst h
   rw [if_pos rfl, ih]
   simp only [comL, if_true, List.length_cons, List.getD_cons_succ, Nat.add_lt_add_iff_right]
   by_cases c : comL l m < l.length ∧ comL l m < m.length
   ·rw [if_pos c, if_pos c]
   ·rw [if_neg c, if_neg c]
    simp only [Int.natCast_add, Int.add_lt_add_iff_right, gt_iff_lt]
  ·rw [if_neg (fun e => h (bs_inj e))]
   simp [comL, h]
theorem cB_com (a b : ByteArray) : cB a b = if comL (pB a) (pB b) < (pB a).length ∧ comL (pB a) (pB b) < (pB b).length then cmpS (bs ((pB a).getD (comL (pB a) (pB b)) ByteArray.empty)) (bs ((pB b).getD (comL (pB a) (pB b)) ByteArray.empty)) else (if ((pB a).length : Int) < (pB b).length then -1 else if ((pB a).length : Int) > (pB b).length then 1 else 0) := by
 rw [← cmpL_com, pB_bs, pB_bs]; rfl
set_option maxHeartbeats 1000000 in
set_option maxRecDepth 100000 in
theorem cmp_in (a b : ByteArray) (x y : List ByteArray) (t r : Int) (k : Nat) (w : World)
  (S1 : Aside0 (∀ w, Calls Tryd.prog 76 #[.string a] w fun e w' => ∃ v0_ : Value, e = .returned (v0_) ∧ Kd.R Kd.string 9 w' w.heap.size (fun _ => True) v0_ x ∧ Gr w w'))
  (S2 : Aside0 (∀ w, Calls Tryd.prog 76 #[.string b] w fun e w' => ∃ v0_ : Value, e = .returned (v0_) ∧ Kd.R Kd.string 9 w' w.heap.size (fun _ => True) v0_ y ∧ Gr w w'))
  (C : Aside0 (path_common.f k x y = some t)) (p : 0 ≤ t) (q1 : t < (x.length : Int)) (q2 : t < (y.length : Int))
  (hr : Aside0 (cmp_Compare_string.f (rdOf ByteArray.empty x t) (rdOf ByteArray.empty y t) = some r)) :
  Calls Tryd.prog 50 #[.string a, .string b] w fun e w' => e = .returned (.int .i64 r) ∧ Gr w w' := by
 have c1 : decide (t < (x.length : Int)) = true := decide_eq_true q1
 have c2 : decide (t < (y.length : Int)) = true := decide_eq_true q2
 have c0 : decide (0 ≤ t) = true := decide_eq_true p
 have P := Aside0.mk (And.intro p (And.intro q1 q2))
 clear p q1 q2
 go_enter Tryd.func50, Tryd.ntmps50
 go_wp2_with fail
 refine (S1.out w).mono ?_
 rintro e w1 ⟨v1, rfl, o1, g1⟩
 have G1 := Aside0.mk g1
 have O1 := Aside0.mk o1
 clear g1 o1
 go_wp2_with fail
 refine (S2.out _).mono ?_
 rintro e w2 ⟨v2, rfl, o2, g2⟩
 obtain ⟨A1, n1, rfl, l1, r1⟩ := Kd.R_reads (Kd.R_below O1.out g2.below)
 obtain ⟨A2, n2, rfl, l2, r2⟩ := Kd.R_reads o2
 have G2 := Aside0.mk (G1.out.trans g2)
 have R1 := Aside0.mk r1
 have R2 := Aside0.mk r2
 have L1 := Aside0.mk l1
 have L2 := Aside0.mk l2
 clear g2 o2 r1 r2 l1 l2 G1 O1
 go_wp2_with fail
 refine (path_common.calls k A1 n1 x A2 n2 y t w2 R1.out L1.out R2.out L2.out C.out).mono ?_
 rintro e w3 ⟨rfl, ⟨⟨nd, rfl⟩⟩⟩
 obtain ⟨ad1, e1, hx1⟩ := Kd.at_string R1.out t P.out.1 P.out.2.1
 cases e1
 obtain ⟨ad2, e2, hx2⟩ := Kd.at_string R2.out t P.out.1 P.out.2.2
 cases e2
 have p1 := eq_true P.out.1
 have p2 := eq_true P.out.2.1
 have p3 := eq_true P.out.2.2
 go_wp2_with (first | (go_at_call 80; (with_reducible refine (cmp_Compare_string.calls (rdOf ByteArray.empty x t) (rdOf ByteArray.empty y t) r _ hr.out).mono ?_); rintro e w' ⟨rfl, ⟨nd, rfl⟩⟩; (try first | exact ⟨rfl, _, World.drewN_drewN _ _ _⟩ | exact ⟨rfl, _, Eq.trans (World.drewN_drewN _ _ _) (congrArg (World.drewN _) (Nat.add_assoc _ _ _))⟩)))
 repeat (go_quiet (first | (go_at_call 80; (with_reducible refine (cmp_Compare_string.calls (rdOf ByteArray.empty x t) (rdOf ByteArray.empty y t) r _ hr.out).mono ?_); rintro e w' ⟨rfl, ⟨nd, rfl⟩⟩; (try first | exact ⟨rfl, _, World.drewN_drewN _ _ _⟩ | exact ⟨rfl, _, Eq.trans (World.drewN_drewN _ _ _) (congrArg (World.drewN _) (Nat.add_assoc _ _ _))⟩))); try go_wp2)
 go_ret
 exact ⟨by first | rfl | (simp; done), by repeat (first | exact G2.out | apply Gr.drewN | apply Gr.drew | apply Gr.alloc)⟩
set_option maxHeartbeats 1000000 in
set_option maxRecDepth 100000 in
theorem cmp_out (a b : ByteArray) (x y : List ByteArray) (t r : Int) (k : Nat) (w : World)
  (S1 : Aside0 (∀ w, Calls Tryd.prog 76 #[.string a] w fun e w' => ∃ v0_ : Value, e = .returned (v0_) ∧ Kd.R Kd.string 9 w' w.heap.size (fun _ => True) v0_ x ∧ Gr w w'))
  (S2 : Aside0 (∀ w, Calls Tryd.prog 76 #[.string b] w fun e w' => ∃ v0_ : Value, e = .returned (v0_) ∧ Kd.R Kd.string 9 w' w.heap.size (fun _ => True) v0_ y ∧ Gr w w'))
  (C : Aside0 (path_common.f k x y = some t)) (d : Bool) (d1 : decide (t < (x.length : Int)) = d) (d2 : d = true → decide (t < (y.length : Int)) = false)
  (hr : Aside0 (cmp_Compare_int.f (x.length : Int) (y.length : Int) = some r)) :
  Calls Tryd.prog 50 #[.string a, .string b] w fun e w' => e = .returned (.int .i64 r) ∧ Gr w w' := by
 cases d with
 | false =>
  clear d2
  go_enter Tryd.func50, Tryd.ntmps50
  go_wp2_with fail
  refine (S1.out w).mono ?_
  rintro e w1 ⟨v1, rfl, o1, g1⟩
  have G1 := Aside0.mk g1
  have O1 := Aside0.mk o1
  clear g1 o1
  go_wp2_with fail
  refine (S2.out _).mono ?_
  rintro e w2 ⟨v2, rfl, o2, g2⟩
  obtain ⟨A1, n1, rfl, l1, r1⟩ := Kd.R_reads (Kd.R_below O1.out g2.below)
  obtain ⟨A2, n2, rfl, l2, r2⟩ := Kd.R_reads o2
  have G2 := Aside0.mk (G1.out.trans g2)
  have R1 := Aside0.mk r1
  have R2 := Aside0.mk r2
  have L1 := Aside0.mk l1
  have L2 := Aside0.mk l2
  clear g2 o2 r1 r2 l1 l2 G1 O1
  go_wp2_with fail
  refine (path_common.calls k A1 n1 x A2 n2 y t w2 R1.out L1.out R2.out L2.out C.out).mono ?_
  rintro e w3 ⟨rfl, ⟨⟨nd, rfl⟩⟩⟩
  go_wp2_with (first | (go_at_call 81; (with_reducible refine (cmp_Compare_int.calls (x.length : Int) (y.length : Int) r _ hr.out).mono ?_); rintro e w' ⟨rfl, ⟨nd, rfl⟩⟩; (try first | exact ⟨rfl, _, World.drewN_drewN _ _ _⟩ | exact ⟨rfl, _, Eq.trans (World.drewN_drewN _ _ _) (congrArg (World.drewN _) (Nat.add_assoc _ _ _))⟩)))
  go_ret
  exact ⟨by first | rfl | (simp; done), by repeat (first | exact G2.out | apply Gr.drewN | apply Gr.drew | apply Gr.alloc)⟩
 | true =>
  have d3 := d2 rfl
  clear d2
  go_enter Tryd.func50, Tryd.ntmps50
  go_wp2_with fail
  refine (S1.out w).mono ?_
  rintro e w1 ⟨v1, rfl, o1, g1⟩
  have G1 := Aside0.mk g1
  have O1 := Aside0.mk o1
  clear g1 o1
  go_wp2_with fail
  refine (S2.out _).mono ?_
  rintro e w2 ⟨v2, rfl, o2, g2⟩
  obtain ⟨A1, n1, rfl, l1, r1⟩ := Kd.R_reads (Kd.R_below O1.out g2.below)
  obtain ⟨A2, n2, rfl, l2, r2⟩ := Kd.R_reads o2
  have G2 := Aside0.mk (G1.out.trans g2)
  have R1 := Aside0.mk r1
  have R2 := Aside0.mk r2
  have L1 := Aside0.mk l1
  have L2 := Aside0.mk l2
  clear g2 o2 r1 r2 l1 l2 G1 O1
  go_wp2_with fail
  refine (path_common.calls k A1 n1 x A2 n2 y t w2 R1.out L1.out R2.out L2.out C.out).mono ?_
  rintro e w3 ⟨rfl, ⟨⟨nd, rfl⟩⟩⟩
  go_wp2_with (first | (go_at_call 81; (with_reducible refine (cmp_Compare_int.calls (x.length : Int) (y.length : Int) r _ hr.out).mono ?_); rintro e w' ⟨rfl, ⟨nd, rfl⟩⟩; (try first | exact ⟨rfl, _, World.drewN_drewN _ _ _⟩ | exact ⟨rfl, _, Eq.trans (World.drewN_drewN _ _ _) (congrArg (World.drewN _) (Nat.add_assoc _ _ _))⟩)))
  go_ret
  exact ⟨by first | rfl | (simp; done), by repeat (first | exact G2.out | apply Gr.drewN | apply Gr.drew | apply Gr.alloc)⟩
theorem rdOf_getD (l : List ByteArray) (i : Nat) : rdOf ByteArray.empty l (i : Int) = l.getD i ByteArray.empty := rfl
theorem cmp_gr (a b : ByteArray) (ha : a.size < 4294967281) (hb : b.size < 4294967281) (w : World) :
  Calls Tryd.prog 50 #[.string a, .string b] w fun e w' => e = .returned (.int .i64 (cB a b)) ∧ Gr w w' := by
 have hla := pB_length_le a
 have hlb := pB_length_le b
 have hc := common_ends (pB a) (pB b) (by omega)
 rw [cB_com]
 by_cases h : comL (pB a) (pB b) < (pB a).length ∧ comL (pB a) (pB b) < (pB b).length
 ·rw [if_pos h]
  exact cmp_in a b (pB a) (pB b) _ _ _ w ⟨split_gr a ha⟩ ⟨split_gr b hb⟩ ⟨hc⟩ (by omega) (by omega) (by omega) ⟨by rw [compare_string_is]; rfl⟩
 ·rw [if_neg h]
  refine cmp_out a b (pB a) (pB b) _ _ _ w ⟨split_gr a ha⟩ ⟨split_gr b hb⟩ ⟨hc⟩ (decide ((comL (pB a) (pB b) : Int) < ((pB a).length : Int))) rfl (fun hd => ?_) ⟨by rw [compare_int_is]⟩
  have := of_decide_eq_true hd
  refine decide_eq_false ?_
  omega
end Go.Proofs.YtehfogjibhnabaaDoor.PAll
namespace Go.Proofs.YtehfogjibhnabaaDoor.PAll
open Go.RowKit Go.Proofs.YtehfogjibhnabaaDoorW.PrintWords Go.Proofs.YtehfogjibhnabaaDoorW.PrintLast Go.Proofs.YtehfogjibhnabaaDoorW.PrintMore
attribute [local go_sem] max2_int min2_int max_two min_two max_three min_three max_four min_four
set_option linter.unusedVariables false
set_option linter.unusedSimpArgs false
attribute [local go_sem high] eqA55
def bytealg_LastIndexByteString.l0 : Nat → ByteArray → Int → Int → Option (Int)
 | 0, _, _, _ => none
 | k + 1, x0, x1, x5 => if x5 ≥ 0 then (if 0 ≤ x5 then (if x5 < (x0.size : Int) then (if (bt x0 x5) = x1 then (some x5) else (bytealg_LastIndexByteString.l0 k x0 x1 (wrap64 (x5 - 1)))) else (none)) else (none)) else (some (-1))
def bytealg_LastIndexByteString.f (k : Nat) (a0 : ByteArray) (a1 : Int) : Option (Int) := bytealg_LastIndexByteString.l0 k a0 a1 (wrap64 ((a0.size : Int) - 1))
set_option maxHeartbeats 8000000 in
set_option maxRecDepth 100000 in
theorem bytealg_LastIndexByteString.calls (k : Nat) (a0 : ByteArray) (a1 : Int) (r : Int) (w : World) (h : bytealg_LastIndexByteString.f k a0 a1 = some r) :
  Calls Tryd.prog 100 #[.string a0, .int .u8 a1] w fun e w' => e = .returned (.int .i64 r) ∧ Drawn0 w w' := by
 have H : (bytealg_LastIndexByteString.l0 k a0 a1 (wrap64 ((a0.size : Int) - 1))) = some r := h
 clear h
 have H' := Aside0.mk H
 clear H
 go_enter Tryd.func100, Tryd.ntmps100
 go_wp2
 go_loopg [5] k (fun kq v5 w' => ∃ (x5_1 : Int), v5 = .int .i64 x5_1 ∧ Aside0 (bytealg_LastIndexByteString.l0 kq a0 a1 x5_1 = some r) ∧ Aside0 (kq ≤ k) ∧ Drawn0 w w')
 case atStart => exact ⟨(wrap64 ((a0.size : Int) - 1)), (by first | rfl | (simp; done) | (simp [*]; done)), H', ⟨Nat.le_refl _⟩, by repeat (first | exact Drawn0.refl _ | apply Drawn0.step)⟩
 case round =>
  clear H'
  try clear c1
  try clear p2
  obtain ⟨x5_1, rfl, HA, HK1, ⟨m1, rfl⟩⟩ := hrel
  cases gk with
  | zero => exact absurd HA.out (by simp [bytealg_LastIndexByteString.l0])
  | succ k1 =>
   have H := HA.out
   clear HA
   simp only [bytealg_LastIndexByteString.l0] at H
   by_cases c3 : x5_1 ≥ 0
   ·rw [if_pos c3] at H
    have c3b0 := decide_eq_true c3
    clear c3
    by_cases c4 : 0 ≤ x5_1
    ·rw [if_pos c4] at H
     have c4b0 := decide_eq_true c4
     clear c4
     by_cases c5 : x5_1 < (a0.size : Int)
     ·rw [if_pos c5] at H
      have c5b0 := decide_eq_true c5
      clear c5
      by_cases c7 : (bt a0 x5_1) = a1
      ·rw [if_pos c7] at H
       have c7b0 : ((bt a0 x5_1) == a1) = true := beq_iff_eq.mpr c7
       have c7b1 : ((bt a0 x5_1) != a1) = false := bne_eq_false_iff_eq.mpr c7
       clear c7
       obtain rfl := Option.some.inj H
       have p6 : 0 ≤ (x5_1 : Int) := of_decide_eq_true (by first | (with_reducible assumption) | assumption)
       have q6 : x5_1 < (a0.size : Int) := of_decide_eq_true (by first | (with_reducible assumption) | assumption)
       have hx6 := bt_at a0 x5_1
       replace p6 := eq_true p6
       replace q6 := eq_true q6
       go_wp2
       go_ret
       exact ⟨by first | rfl | (simp; done) | (simp [*]; done), by repeat (first | exact Drawn0.refl _ | apply Drawn0.step)⟩
      ·rw [if_neg c7] at H
       have c7b0 : ((bt a0 x5_1) == a1) = false := beq_eq_false_iff_ne.mpr c7
       have c7b1 : ((bt a0 x5_1) != a1) = true := bne_iff_ne.mpr c7
       have H' := Aside0.mk H
       clear H
       have p6 : 0 ≤ (x5_1 : Int) := of_decide_eq_true (by first | (with_reducible assumption) | assumption)
       have q6 : x5_1 < (a0.size : Int) := of_decide_eq_true (by first | (with_reducible assumption) | assumption)
       have hx6 := bt_at a0 x5_1
       replace p6 := eq_true p6
       replace q6 := eq_true q6
       go_wp2
       go_roundg k1
       case measure => have := HK1.out; omega
       case rel => exact ⟨(wrap64 (x5_1 - 1)), (by first | rfl | (simp; done) | (simp [*]; done)), H', ⟨by have := HK1.out; omega⟩, by repeat (first | exact Drawn0.refl _ | apply Drawn0.step)⟩
     ·rw [if_neg c5] at H
      exact absurd H (by simp)
    ·rw [if_neg c4] at H
     exact absurd H (by simp)
   ·rw [if_neg c3] at H
    have c3b0 := decide_eq_false c3
    clear c3
    obtain rfl := Option.some.inj H
    go_wp2
    go_ret
    exact ⟨by first | rfl | (simp; done) | (simp [*]; done), by repeat (first | exact Drawn0.refl _ | apply Drawn0.step)⟩
def strings_LastIndexByte.f (k : Nat) (a0 : ByteArray) (a1 : Int) : Option (Int) := (bytealg_LastIndexByteString.f k a0 a1).bind fun t306 => (some t306)
set_option maxHeartbeats 8000000 in
set_option maxRecDepth 100000 in
theorem strings_LastIndexByte.calls (k : Nat) (a0 : ByteArray) (a1 : Int) (r : Int) (w : World) (h : strings_LastIndexByte.f k a0 a1 = some r) :
  Calls Tryd.prog 75 #[.string a0, .int .u8 a1] w fun e w' => e = .returned (.int .i64 r) ∧ Drawn0 w w' := by
 have H : ((bytealg_LastIndexByteString.f k a0 a1).bind fun t306 => (some t306)) = some r := h
 clear h
 replace H := Option.bind_eq_some_iff.mp H
 obtain ⟨t306, A30, H⟩ := H
 try dsimp only at H
 have A3 := Aside0.mk A30
 clear A30
 obtain rfl := Option.some.inj H
 go_enter Tryd.func75, Tryd.ntmps75
 go_wp2_with (first | ((with_reducible refine gate_callee (f := 100) rfl ?_); refine goesL_ (some 7) rfl rfl Tryd.func100 (by kernel_rfl) rfl #[.string a0, .int .u8 a1] rfl (by (try simp only [List.map_toArray, List.map_cons, List.map_nil]); first | done | rfl | (simp only [List.length_drop, List.length_take]; rfl)) ?_; (with_reducible refine (bytealg_LastIndexByteString.calls k a0 a1 t306 _ A3.out).mono ?_); rintro e w' ⟨rfl, ⟨nd, rfl⟩⟩; refine ⟨_, rfl, ?_⟩))
 go_ret
 exact ⟨by first | rfl | (simp; done) | (simp [*]; done), by repeat (first | exact Drawn0.refl _ | apply Drawn0.step)⟩
def path_Dir.f (k : Nat) (a0 : ByteArray) : Option (ByteArray) := (strings_LastIndexByte.f k a0 47).bind fun t307 => (if 0 ≤ (mx 0 t307) then (if (mx 0 t307) ≤ (a0.size : Int) then (some (a0.extract 0 ((mx 0 t307) : Int).toNat)) else (none)) else (none))
set_option maxHeartbeats 8000000 in
set_option maxRecDepth 100000 in
theorem path_Dir.calls (k : Nat) (a0 : ByteArray) (r : ByteArray) (w : World) (h : path_Dir.f k a0 = some r) :
  Calls Tryd.prog 44 #[.string a0] w fun e w' => e = .returned (.string r) ∧ Below w.heap.size w w' := by
 have HB := Aside0.mk (Below.refl w.heap.size w)
 have H : ((strings_LastIndexByte.f k a0 47).bind fun t307 => (if 0 ≤ (mx 0 t307) then (if (mx 0 t307) ≤ (a0.size : Int) then (some (a0.extract 0 ((mx 0 t307) : Int).toNat)) else (none)) else (none))) = some r := h
 clear h
 replace H := Option.bind_eq_some_iff.mp H
 obtain ⟨t307, A20, H⟩ := H
 try dsimp only at H
 have A2 := Aside0.mk A20
 clear A20
 obtain ⟨ji3, hji3⟩ : ∃ j_ : Int, (mx 0 t307) = j_ := ⟨_, rfl⟩
 replace H : (if 0 ≤ (ji3) then (if (ji3) ≤ (a0.size : Int) then (some (a0.extract 0 ((ji3) : Int).toNat)) else (none)) else (none)) = some r := by first | (rw [hji3] at H; exact H) | (simp only [hji3] at H ⊢; exact H)
 (try rw [hji3] at A2)
 (try (have hji3l : 0 ≤ ji3 := by (rw [← hji3]; unfold mx; (repeat' split) <;> omega)))
 (try (have hji3m : 0 ≤ ji3 := by omega))
 have hji3_ : (if 0 < t307 then t307 else 0) = ji3 := hji3
 by_cases c4 : 0 ≤ (ji3)
 ·rw [if_pos c4] at H
  have c4b0 := eq_true c4
  have c4b1 := decide_eq_true c4
  clear c4
  by_cases c5 : (ji3) ≤ (a0.size : Int)
  ·rw [if_pos c5] at H
   have c5b0 := eq_true c5
   have c5b1 := decide_eq_true c5
   clear c5
   obtain rfl := Option.some.inj H
   go_enter Tryd.func44, Tryd.ntmps44
   go_wp2_with (first | ((with_reducible refine gate_callee (f := 75) rfl ?_); refine goesL_ (some 5) rfl rfl Tryd.func75 (by kernel_rfl) rfl #[.string a0, .int .u8 47] rfl (by (try simp only [List.map_toArray, List.map_cons, List.map_nil]); first | done | rfl | (simp only [List.length_drop, List.length_take]; rfl)) ?_; (with_reducible refine (strings_LastIndexByte.calls k a0 47 t307 _ A2.out).mono ?_); rintro e w' ⟨rfl, ⟨nd, rfl⟩⟩; refine ⟨_, rfl, ?_⟩))
   go_ret
   exact ⟨by first | rfl | (simp [errW_none, errW_some] <;> rfl) | (simp only [← hji3]; first | rfl | (simp [errW_none, errW_some] <;> rfl)) | (simp [*, errW_none, errW_some] <;> rfl), by repeat (first | (with_reducible first | exact HB.out | apply below_alloc | apply pw_below_drewN | apply below_drew1) | exact HB.out)⟩
  ·rw [if_neg c5] at H
   exact absurd H (by simp)
 ·rw [if_neg c4] at H
  exact absurd H (by simp)
def copselaw17_same.l0 : Nat → List ByteArray → List ByteArray → Int → Option (Bool)
 | 0, _, _, _ => none
 | k + 1, x0, x1, x5 => if x5 < (x0.length : Int) then (if 0 ≤ x5 then (if x5 < (x1.length : Int) then (if (rdOf ByteArray.empty x0 x5).toList = (rdOf ByteArray.empty x1 x5).toList then (copselaw17_same.l0 k x0 x1 (wrap64 (x5 + 1))) else (some false)) else (none)) else (none)) else (some true)
def copselaw17_same.f (k : Nat) (l0 : List ByteArray) (l1 : List ByteArray) : Option (Bool) := if (l0.length : Int) = (l1.length : Int) then (copselaw17_same.l0 k l0 l1 0) else (some false)
theorem copselaw17_same.mono_l : ∀ k, (∀ y0 y1 y2, LeO (copselaw17_same.l0 k y0 y1 y2) (copselaw17_same.l0 (k + 1) y0 y1 y2))
 | 0 => fun _ _ _ r h => by simp [copselaw17_same.l0] at h
 | k + 1 => by
  have ih0 := copselaw17_same.mono_l k
  ·intro y0 y1 y2
   unfold copselaw17_same.l0
   repeat' first
   | (with_reducible exact ih0 _ _ _)
   | (with_reducible exact LeO.refl _)
   | (with_reducible exact LeO.none _)
   | (with_reducible refine LeO.ite ?_ ?_)
   | (with_reducible refine LeO.bind ?_ (fun _ => ?_))
   | exact ih0 _ _ _
   | exact LeO.none _
   | refine LeO.ite ?_ ?_
   | refine LeO.bind ?_ (fun _ => ?_)
theorem copselaw17_same.mono : ∀ a0 a1 k, LeO (copselaw17_same.f k a0 a1) (copselaw17_same.f (k + 1) a0 a1) := by
 intro a0 a1 k
 have ih0 := copselaw17_same.mono_l k
 unfold copselaw17_same.f
 repeat' first
   | (with_reducible exact ih0 _ _ _)
   | (with_reducible exact LeO.refl _)
   | (with_reducible exact LeO.none _)
   | (with_reducible refine LeO.ite ?_ ?_)
   | (with_reducible refine LeO.bind ?_ (fun _ => ?_))
   | exact ih0 _ _ _
   | exact LeO.none _
   | refine LeO.ite ?_ ?_
   | refine LeO.bind ?_ (fun _ => ?_)
set_option maxHeartbeats 8000000 in
set_option maxRecDepth 100000 in
theorem copselaw17_same.calls (k : Nat) (A0 : Option Addr) (c0 : Nat) (l0 : List ByteArray) (A1 : Option Addr) (c1 : Nat) (l1 : List ByteArray) (r : Bool) (w : World) (hr0 : Kd.C Kd.string w A0 l0.length l0) (hc0 : l0.length ≤ c0) (hr1 : Kd.C Kd.string w A1 l1.length l1) (hc1 : l1.length ≤ c1) (h : copselaw17_same.f k l0 l1 = some r) :
  Calls Tryd.prog 14 #[.slice A0 l0.length c0, .slice A1 l1.length c1] w fun e w' => e = .returned (.bool r) ∧ Drawn0 w w' := by
 have HR0 := Aside0.mk hr0
 have HC0 := Aside0.mk hc0
 clear hr0 hc0
 have HR1 := Aside0.mk hr1
 have HC1 := Aside0.mk hc1
 clear hr1 hc1
 have H : (if (l0.length : Int) = (l1.length : Int) then (copselaw17_same.l0 k l0 l1 0) else (some false)) = some r := h
 clear h
 by_cases c3 : (l0.length : Int) = (l1.length : Int)
 ·rw [if_pos c3] at H
  have c3b0 : ((l0.length : Int) == (l1.length : Int)) = true := beq_iff_eq.mpr c3
  have c3b1 : ((l0.length : Int) != (l1.length : Int)) = false := bne_eq_false_iff_eq.mpr c3
  have c3b2 : (l0.length == l1.length) = true := by first | simpa using c3 | (simp at c3 ⊢; omega)
  clear c3
  have H' := Aside0.mk H
  clear H
  go_enter Tryd.func14, Tryd.ntmps14
  go_wp2
  repeat (go_quiet (fail); try go_wp2)
  go_loopg [5] k (fun kq v5 w' => ∃ (x5_1 : Int), v5 = .int .i64 x5_1 ∧ Aside0 (copselaw17_same.l0 kq l0 l1 x5_1 = some r) ∧ Aside0 (kq ≤ k) ∧ Drawn0 w w')
  case atStart => exact ⟨(0), (by first | rfl | (simp; done) | (simp [*]; done)), H', ⟨Nat.le_refl _⟩, by repeat (first | exact Drawn0.refl _ | apply Drawn0.step)⟩
  case round =>
   clear H'
   try clear c1
   try clear p2
   try clear c3
   try clear c3b0
   try clear c3b1
   try clear c3b2
   obtain ⟨x5_1, rfl, HA, HK1, ⟨m1, rfl⟩⟩ := hrel
   cases gk with
   | zero => exact absurd HA.out (by simp [copselaw17_same.l0])
   | succ k1 =>
    have H := HA.out
    clear HA
    simp only [copselaw17_same.l0] at H
    by_cases c4 : x5_1 < (l0.length : Int)
    ·rw [if_pos c4] at H
     have c4b0 := decide_eq_true c4
     clear c4
     by_cases c5 : 0 ≤ x5_1
     ·rw [if_pos c5] at H
      have c5b0 := decide_eq_true c5
      clear c5
      by_cases c6 : x5_1 < (l1.length : Int)
      ·rw [if_pos c6] at H
       have c6b0 := decide_eq_true c6
       clear c6
       by_cases c7 : (rdOf ByteArray.empty l0 x5_1).toList = (rdOf ByteArray.empty l1 x5_1).toList
       ·rw [if_pos c7] at H
        have c7b0 : ((rdOf ByteArray.empty l0 x5_1).toList == (rdOf ByteArray.empty l1 x5_1).toList) = true := beq_iff_eq.mpr c7
        have c7b1 : ((rdOf ByteArray.empty l0 x5_1).toList != (rdOf ByteArray.empty l1 x5_1).toList) = false := bne_eq_false_iff_eq.mpr c7
        clear c7
        have H' := Aside0.mk H
        clear H
        have p228 : 0 ≤ (x5_1 : Int) := of_decide_eq_true (by first | (with_reducible assumption) | assumption)
        have q228 : x5_1 < (l0.length : Int) := of_decide_eq_true (by first | (with_reducible assumption) | assumption)
        obtain ⟨ad228, e228, hx228_0⟩ := Kd.at_string HR0.out x5_1 p228 q228
        cases e228
        replace p228 := eq_true p228
        replace q228 := eq_true q228
        have p229 : 0 ≤ (x5_1 : Int) := of_decide_eq_true (by first | (with_reducible assumption) | assumption)
        have q229 : x5_1 < (l1.length : Int) := of_decide_eq_true (by first | (with_reducible assumption) | assumption)
        obtain ⟨ad229, e229, hx229_0⟩ := Kd.at_string HR1.out x5_1 p229 q229
        cases e229
        replace p229 := eq_true p229
        replace q229 := eq_true q229
        go_wp2
        repeat (go_quiet (fail); try go_wp2)
        go_roundg k1
        case measure => have := HK1.out; omega
        case rel => exact ⟨(wrap64 (x5_1 + 1)), (by first | rfl | (simp; done) | (simp [*]; done)), H', ⟨by have := HK1.out; omega⟩, by repeat (first | exact Drawn0.refl _ | apply Drawn0.step)⟩
       ·rw [if_neg c7] at H
        have c7b0 : ((rdOf ByteArray.empty l0 x5_1).toList == (rdOf ByteArray.empty l1 x5_1).toList) = false := beq_eq_false_iff_ne.mpr c7
        have c7b1 : ((rdOf ByteArray.empty l0 x5_1).toList != (rdOf ByteArray.empty l1 x5_1).toList) = true := bne_iff_ne.mpr c7
        obtain rfl := Option.some.inj H
        have p228 : 0 ≤ (x5_1 : Int) := of_decide_eq_true (by first | (with_reducible assumption) | assumption)
        have q228 : x5_1 < (l0.length : Int) := of_decide_eq_true (by first | (with_reducible assumption) | assumption)
        obtain ⟨ad228, e228, hx228_0⟩ := Kd.at_string HR0.out x5_1 p228 q228
        cases e228
        replace p228 := eq_true p228
        replace q228 := eq_true q228
        have p229 : 0 ≤ (x5_1 : Int) := of_decide_eq_true (by first | (with_reducible assumption) | assumption)
        have q229 : x5_1 < (l1.length : Int) := of_decide_eq_true (by first | (with_reducible assumption) | assumption)
        obtain ⟨ad229, e229, hx229_0⟩ := Kd.at_string HR1.out x5_1 p229 q229
        cases e229
        replace p229 := eq_true p229
        replace q229 := eq_true q229
        go_wp2
        repeat (go_quiet (fail); try go_wp2)
        go_ret
        exact ⟨by first | rfl | (simp; done) | (simp [*]; done), by repeat (first | exact Drawn0.refl _ | apply Drawn0.step)⟩
      ·rw [if_neg c6] at H
       exact absurd H (by simp)
     ·rw [if_neg c5] at H
      exact absurd H (by simp)
    ·rw [if_neg c4] at H
     have c4b0 := decide_eq_false c4
     clear c4
     obtain rfl := Option.some.inj H
     go_wp2
     repeat (go_quiet (fail); try go_wp2)
     go_ret
     exact ⟨by first | rfl | (simp; done) | (simp [*]; done), by repeat (first | exact Drawn0.refl _ | apply Drawn0.step)⟩
 ·rw [if_neg c3] at H
  have c3b0 : ((l0.length : Int) == (l1.length : Int)) = false := beq_eq_false_iff_ne.mpr c3
  have c3b1 : ((l0.length : Int) != (l1.length : Int)) = true := bne_iff_ne.mpr c3
  have c3b2 : (l0.length == l1.length) = false := by first | simpa using c3 | (simp at c3 ⊢; omega)
  obtain rfl := Option.some.inj H
  go_enter Tryd.func14, Tryd.ntmps14
  go_wp2
  repeat (go_quiet (fail); try go_wp2)
  go_ret
  exact ⟨by first | rfl | (simp; done) | (simp [*]; done), by repeat (first | exact Drawn0.refl _ | apply Drawn0.step)⟩
end Go.Proofs.YtehfogjibhnabaaDoor.PAll
namespace Go.Proofs.YtehfogjibhnabaaDoor.PAll
open Go.RowKit Go.Shelf Go.Proofs.YtehfogjibhnabaaDoorW.PrintWords Go.Proofs.YtehfogjibhnabaaDoorW.PrintLast Go.Proofs.YtehfogjibhnabaaDoorW.PrintMore
open Go.Proofs.YtehfogjibhnabaaDoor.Sp
def KpD (n₀ Bl : Nat) (W W' : World) : Prop := Below n₀ W W' ∧ (Bl < W.heap.size → W'.heap[Bl]? = W.heap[Bl]?)
theorem KpD.t {n₀ Bl : Nat} {A B C : World} (h : KpD n₀ Bl A B) (k : KpD n₀ Bl B C) : KpD n₀ Bl A C := ⟨h.1.trans k.1, fun hl => (k.2 (Nat.lt_of_lt_of_le hl h.1.size)).trans (h.2 hl)⟩
theorem KpD.b {n₀ Bl : Nat} {w : World} (hn : n₀ ≤ w.heap.size) (hB : Bl < w.heap.size) (W : World) (l : Nat) (o o' : Obj) (hl : w.heap.size ≤ l) (h : W.heap[l]? = some o) (h1 : o.isCells = false) (h2 : o.isWalk = false) : KpD n₀ Bl W (W.putObj l o') :=
 ⟨belowK_b hn W l o o' hl h h1 h2, fun _ => (grownBy_putObj' W l o').block Bl (by have := (Array.getElem?_eq_some_iff.1 h).1; omega) (by intro e; cases e; omega)⟩
attribute [local go_sem] Oper.semAt_some
theorem info_str : (Tryd.prog.info? 9).map (fun i => (i.zero, i.size, i.bytes)) = some (some (.string ByteArray.empty), 1, 16) := by kernel_rfl
end Go.Proofs.YtehfogjibhnabaaDoor.PAll
namespace Go.Proofs.YtehfogjibhnabaaDoor.PAll
open Go.RowKit Go.Proofs.YtehfogjibhnabaaDoorW.PrintWords Go.Proofs.YtehfogjibhnabaaDoorW.PrintLast Go.Proofs.YtehfogjibhnabaaDoorW.PrintMore
open Go.Proofs.YtehfogjibhnabaaDoor.Sp
theorem Ev.val {α : Type} {g : Nat → Option α} {r r' : α} (h : Ev g r) (e : r = r') : Ev g r' := e ▸ h
theorem ev_some {α : Type} (r : α) : Ev (fun _ => some r) r := Ev.now r
theorem ev_pure {α : Type} {g : Nat → Option α} {r : α} (h : ∀ k, g k = some r) : Ev g r := ⟨0, fun k _ => h k⟩
theorem wrap_add {x : Int} (h0 : -9223372036854775808 ≤ x) (h1 : x ≤ 9223372036854775807) : wrap64 x = x := by unfold wrap64; omega
theorem bt_get (a : ByteArray) (i : Nat) (h : i < a.size) : bt a (i : Int) = (((bs a)[i]'(by rw [bs_size]; exact h)).toNat : Int) := by
 unfold bt
 rw [dif_pos (by simpa using h)]
 rfl
theorem bt_eq (a : ByteArray) (i : Nat) (h : i < a.size) (c : UInt8) (n : Int) (hn : n = (c.toNat : Int)) : bt a (i : Int) = n ↔ (bs a)[i]'(by rw [bs_size]; exact h) = c := by
 rw [bt_get a i h, hn]
 constructor
 ·intro e; exact UInt8.toNat_inj.1 (by omega)
 ·intro e; rw [e]
theorem bs_drop (a : ByteArray) (i : Nat) (h : i < a.size) : (bs a).drop i = (bs a)[i]'(by rw [bs_size]; exact h) :: (bs a).drop (i + 1) := List.drop_eq_getElem_cons (by rw [bs_size]; exact h)
theorem extract_mk (a : ByteArray) (i j : Nat) : a.extract i j = mk (((bs a).take j).drop i) := by
 apply bs_inj
 rw [bs_mk]
 show (a.extract i j).data.toList = _
 rw [Lib.extract_data, List.drop_take]
 rfl
def splC (cur rest : Str) : List Str := match spl rest with
 | h :: t => (cur ++ h) :: t
 | [] => [cur]
theorem splC_nil (cur : Str) : splC cur [] = [cur] := by simp [splC, spl]
theorem splC_slash (cur r : Str) : splC cur (47 :: r) = cur :: splC [] r := by
 simp only [splC, spl, if_true, List.append_nil]
 congr 1
 cases h : spl r with
 | nil => exact absurd h (spl_ne r)
 | cons x t => simp
theorem splC_other (cur r : Str) {c : UInt8} (hc : c ≠ 47) : splC cur (c :: r) = splC (cur ++ [c]) r := by
 simp only [splC, spl, if_neg hc]
 cases h : spl r with
 | nil => exact absurd h (spl_ne r)
 | cons x t => simp
theorem splC_whole (s : Str) : splC [] s = spl s := by
 unfold splC
 cases h : spl s with
 | nil => exact absurd h (spl_ne s)
 | cons x t => simp
theorem ref_split_run (a : ByteArray) (ha : a.size ≤ 4294967296) (d : Nat) : ∀ (i fr : Nat) (acc : List ByteArray), a.size - i = d → i ≤ a.size → fr ≤ i → acc.length + a.size - i ≤ 4294967297 →
  Ev (fun k => copseref02_Split.l0 k a acc (fr : Int) (i : Int)) (acc ++ (splC (((bs a).take i).drop fr) ((bs a).drop i)).map mk) := by
 induction d with
 | zero =>
  intro i fr acc hd hi hf hl
  have e : i = a.size := by omega
  refine ⟨2, fun k hk => ?_⟩
  obtain ⟨k, rfl⟩ : ∃ m, k = m + 2 := ⟨k - 2, by omega⟩
  simp only [copseref02_Split.l0]
  rw [if_pos (by omega), if_pos (by omega), if_pos (by omega), if_pos (by omega), if_pos (by omega), wrap_succ (n := 4294967299) (by omega) (by omega), if_neg (by omega), Int.toNat_natCast, Int.toNat_natCast, extract_mk, List.drop_of_length_le (l := bs a) (i := i) (by rw [bs_size]; omega), splC_nil]
  rfl
 | succ d ih =>
  intro i fr acc hd hi hf hl
  have hlt : i < a.size := by omega
  rw [bs_drop a i hlt]
  by_cases h : bt a (i : Int) = 47
  ·have h' := (bt_eq a i hlt 47 47 rfl).1 h
   obtain ⟨K, hK⟩ := ih (i + 1) (i + 1) (acc ++ [mk (((bs a).take i).drop fr)]) (by omega) (by omega) (by omega) (by simp; omega)
   dsimp only at hK
   refine ⟨K + 1, fun k hk => ?_⟩
   obtain ⟨k, rfl⟩ : ∃ m, k = m + 1 := ⟨k - 1, by omega⟩
   simp only [copseref02_Split.l0]
   rw [if_pos (by omega), if_neg (by omega), if_pos (by omega), if_pos (by omega), if_pos h, if_pos (by omega), if_pos (by omega), if_pos (by omega), wrap_succ (n := a.size) (by omega) (by omega), Int.toNat_natCast, Int.toNat_natCast, extract_mk, hK k (by omega), h', splC_slash]
   rw [List.drop_of_length_le (l := (bs a).take (i + 1)) (by rw [List.length_take]; omega)]
   simp
  ·have h' : (bs a)[i]'(by rw [bs_size]; exact hlt) ≠ 47 := fun e => h ((bt_eq a i hlt 47 47 rfl).2 e)
   obtain ⟨K, hK⟩ := ih (i + 1) fr acc (by omega) (by omega) (by omega) (by omega)
   dsimp only at hK
   refine ⟨K + 1, fun k hk => ?_⟩
   obtain ⟨k, rfl⟩ : ∃ m, k = m + 1 := ⟨k - 1, by omega⟩
   simp only [copseref02_Split.l0]
   rw [if_pos (by omega), if_neg (by omega), if_pos (by omega), if_pos (by omega), if_neg h, wrap_succ (n := a.size) (by omega) (by omega), hK k (by omega), splC_other _ _ h']
   have hlen : i < (bs a).length := by rw [bs_size]; exact hlt
   rw [List.take_succ_eq_append_getElem hlen, List.drop_append_of_le_length (by rw [List.length_take]; omega)]
theorem ref_split (a : ByteArray) (ha : a.size ≤ 4294967296) : Ev (fun k => copseref02_Split.f k a) (pB a) := by
 by_cases h : bs a = []
 ·rw [pB_nil h]
  refine ev_pure fun k => ?_
  unfold copseref02_Split.f
  rw [if_pos (by rw [toList_bs]; exact h)]
 ·have := ref_split_run a ha a.size 0 0 [] (by omega) (by omega) (by omega) (by simp only [List.length_nil]; omega)
  refine Ev.congr (fun k => ?_) (Ev.val this ?_)
  ·unfold copseref02_Split.f
   rw [if_neg (by rw [toList_bs]; exact h)]; rfl
  ·simp only [List.take_zero, List.drop_zero, List.drop_nil, List.nil_append, splC_whole]
   unfold pB; rw [pcs_of h]
theorem prog_split (a : ByteArray) (ha : a.size < 4294967281) : Ev (fun k => path_Split.f k a) (pB a) := ev_pure fun k => by unfold path_Split.f; rw [if_pos ha]
end Go.Proofs.YtehfogjibhnabaaDoor.PAll
