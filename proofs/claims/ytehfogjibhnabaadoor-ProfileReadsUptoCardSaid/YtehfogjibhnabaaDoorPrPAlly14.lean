/- What functions of the program compute, each with its walk: a contract for every world and every argument of the kind told. -/
import Derived.Test.YtehfogjibhnabaaDoorPrPAllx0
import Derived.Test.YtehfogjibhnabaaDoorPrProf3
import Derived.Test.YtehfogjibhnabaaDoorPrPAlly13
import Derived.Test.YtehfogjibhnabaaDoorPrPAlly5
import Derived.Test.YtehfogjibhnabaaDoorPrPAlly8
import Derived.Test.YtehfogjibhnabaaDoorPrPAlly9
import Derived.Test.YtehfogjibhnabaaDoorPrPAlly11
import Derived.Test.YtehfogjibhnabaaDoorPrPAlly3
import Derived.Test.YtehfogjibhnabaaDoorPrProf1
import Derived.Test.YtehfogjibhnabaaDoorPrRowKit
namespace Go.Proofs.YtehfogjibhnabaaDoor.PAll
open Go.RowKit Go.Proofs.YtehfogjibhnabaaDoorW.PrintWords Go.Proofs.YtehfogjibhnabaaDoorW.PrintLast Go.Proofs.YtehfogjibhnabaaDoorW.PrintMore
attribute [local go_sem] max2_int min2_int max_two min_two max_three min_three max_four min_four
set_option linter.unusedVariables false
set_option linter.unusedSimpArgs false
def copselaw17_ProfileReads.j0 : Nat → ByteArray → List ByteArray → Int → Bool → Option (Bool)
 | 0, _, _, _, _ => none
 | k + 1, x0, x5, x6, x31 => if x31 = true then (some false) else (if x6 = 0 then ((profile_Write.f k x5).bind fun bt291 => (if bt291.2 = 0 then (some (bt291.1.toList == x0.toList)) else (some false))) else (some true))
def copselaw17_ProfileReads.f (k : Nat) (a0 : ByteArray) : Option (Bool) := (copseref17_Read.f k a0).bind fun bt281 => ((profile_Read.f k a0).bind fun bt285 => ((copselaw17_known.f k).bind fun t289 => (if t289 = true then ((copselaw17_same.f k bt285.1 bt281.1).bind fun t290 => (if t290 = true then (copselaw17_ProfileReads.j0 k a0 bt285.1 bt285.2 (bt285.2 != bt281.2)) else (copselaw17_ProfileReads.j0 k a0 bt285.1 bt285.2 true))) else (copselaw17_ProfileReads.j0 k a0 bt285.1 bt285.2 true))))
set_option maxHeartbeats 8000000 in
set_option maxRecDepth 100000 in
theorem copselaw17_ProfileReads.calls (k : Nat) (a0 : ByteArray) (r : Bool) (w : World) (h : copselaw17_ProfileReads.f k a0 = some r) :
  Calls Tryd.prog 4 #[.string a0] w fun e w' => e = .returned (.bool r) ∧ Below w.heap.size w w' := by
 have HB := Aside0.mk (Below.refl w.heap.size w)
 have H : ((copseref17_Read.f k a0).bind fun bt281 => ((profile_Read.f k a0).bind fun bt285 => ((copselaw17_known.f k).bind fun t289 => (if t289 = true then ((copselaw17_same.f k bt285.1 bt281.1).bind fun t290 => (if t290 = true then (copselaw17_ProfileReads.j0 k a0 bt285.1 bt285.2 (bt285.2 != bt281.2)) else (copselaw17_ProfileReads.j0 k a0 bt285.1 bt285.2 true))) else (copselaw17_ProfileReads.j0 k a0 bt285.1 bt285.2 true))))) = some r := h
 clear h
 replace H := Option.bind_eq_some_iff.mp H
 obtain ⟨⟨t281, t282⟩, A20, H⟩ := H
 try dsimp only at H
 have A2 := Aside0.mk A20
 clear A20
 replace H := Option.bind_eq_some_iff.mp H
 obtain ⟨⟨t285, t286⟩, A30, H⟩ := H
 try dsimp only at H
 have A3 := Aside0.mk A30
 clear A30
 have HC4 := Aside0.mk H
 clear H
 go_enter Tryd.func4, Tryd.ntmps4
 go_upto_region 3 with (first | ((with_reducible refine gate_callee (f := 15) rfl ?_); refine goesL_ (some 11) rfl rfl Tryd.func15 (by kernel_rfl) rfl #[.string a0] rfl (by (try simp only [List.map_toArray, List.map_cons, List.map_nil]); first | done | rfl | (simp only [List.length_drop, List.length_take]; rfl)) ?_; (with_reducible refine (copseref17_Read.calls k a0 t281 t282 _ A2.out).mono ?_); rintro e w5 ⟨v283, rfl, ho0, hb⟩; refine ⟨_, rfl, ?_⟩; have n0_ := Aside0.mk (Kd.R_lower ho0 (below_size (by repeat (first | (with_reducible first | exact HB.out | apply below_alloc | apply pw_below_drewN | apply below_drew1) | exact HB.out)))); have n1_ := Aside0.mk (below_step (by repeat (first | (with_reducible first | exact HB.out | apply below_alloc | apply pw_below_drewN | apply below_drew1) | exact HB.out)) hb); clear HB; have HO284 := n0_; have HB := n1_; clear n0_ n1_; (try clear hb); (try clear hb2); (try clear hk); (try clear hi); (try clear ho0)) | ((with_reducible refine gate_callee (f := 13) rfl ?_); refine goesL_ (some 16) rfl rfl Tryd.func13 (by kernel_rfl) rfl #[.string a0] rfl (by (try simp only [List.map_toArray, List.map_cons, List.map_nil]); first | done | rfl | (simp only [List.length_drop, List.length_take]; rfl)) ?_; (with_reducible refine (profile_Read.calls k a0 t285 t286 _ A3.out).mono ?_); rintro e w6 ⟨v287, rfl, ho0, hb⟩; refine ⟨_, rfl, ?_⟩; have n0_ := Aside0.mk (Kd.R_elder' (by (with_reducible repeat (first | apply Kd.R_alloc | apply Kd.R_drewN | apply Kd.R_drew)); exact HO284.out) (Kd.R_base ho0) hb); have n1_ := Aside0.mk (Kd.R_lower (Kd.R_new' ho0 (Kd.R_lt (by (with_reducible repeat (first | apply Kd.R_alloc | apply Kd.R_drewN | apply Kd.R_drew)); exact HO284.out))) (below_size (by repeat (first | (with_reducible first | exact HB.out | apply below_alloc | apply pw_below_drewN | apply below_drew1) | exact HB.out)))); have n2_ := Aside0.mk (below_step (by repeat (first | (with_reducible first | exact HB.out | apply below_alloc | apply pw_below_drewN | apply below_drew1) | exact HB.out)) hb); clear HO284; clear HB; have HO284 := n0_; have HO288 := n1_; have HB := n2_; clear n0_ n1_ n2_; (try clear hb); (try clear hb2); (try clear hk); (try clear hi); (try clear ho0)))
 (try simp only [Act.put, List.setIfInBounds_toArray, List.set_cons_zero, List.set_cons_succ])
 go_cut [31] (fun v31 wc => ∃ (kq : Nat) (x31_3 : Bool), v31 = .bool x31_3 ∧ Aside0 (copselaw17_ProfileReads.j0 kq a0 t285 t286 x31_3 = some r) ∧ Aside0 (kq ≤ k) ∧ Aside0 (Kd.R Kd.string 9 wc w.heap.size (fun _ => True) v287 t285) ∧ Aside0 (Below w.heap.size w wc))
 case first =>
  have H := HC4.out
  clear HC4
  replace H := Option.bind_eq_some_iff.mp H
  obtain ⟨t289, A70, H⟩ := H
  try dsimp only at H
  have A7 := Aside0.mk A70
  clear A70
  by_cases c8 : t289 = true
  ·subst c8
   rw [if_pos rfl] at H
   have H1 := H
   clear H
   have H := H1
   clear H1
   replace H := Option.bind_eq_some_iff.mp H
   obtain ⟨t290, A90, H⟩ := H
   try dsimp only at H
   have A9 := Aside0.mk A90
   clear A90
   by_cases c10 : t290 = true
   ·subst c10
    rw [if_pos rfl] at H
    have H1 := H
    clear H
    have H := H1
    clear H1
    have H' := Aside0.mk H
    clear H
    go_wp2_with (first | ((with_reducible refine gate_callee (f := 12) rfl ?_); refine goesL_ (some 19) rfl rfl Tryd.func12 (by kernel_rfl) rfl #[] rfl (by (try simp only [List.map_toArray, List.map_cons, List.map_nil]); first | done | rfl | (simp only [List.length_drop, List.length_take]; rfl)) ?_; (with_reducible refine (copselaw17_known.calls k  true _ A7.out).mono ?_); rintro e w11 ⟨rfl, hb⟩; refine ⟨_, rfl, ?_⟩; have n0_ := Aside0.mk (Kd.R_below (by (with_reducible repeat (first | apply Kd.R_alloc | apply Kd.R_drewN | apply Kd.R_drew)); exact HO284.out) hb); have n1_ := Aside0.mk (Kd.R_below (by (with_reducible repeat (first | apply Kd.R_alloc | apply Kd.R_drewN | apply Kd.R_drew)); exact HO288.out) hb); have n2_ := Aside0.mk (below_step (by repeat (first | (with_reducible first | exact HB.out | apply below_alloc | apply pw_below_drewN | apply below_drew1) | exact HB.out)) hb); clear HO284; clear HO288; clear HB; have HO284 := n0_; have HO288 := n1_; have HB := n2_; clear n0_ n1_ n2_; (try clear hb); (try clear hb2); (try clear hk); (try clear hi); obtain ⟨Ao12, co12, eo12⟩ := Kd.R_slice HO288.out; subst eo12; obtain ⟨Ao13, co13, eo13⟩ := Kd.R_slice HO284.out; subst eo13) | (go_at_call 14; (with_reducible refine (copselaw17_same.calls k _ _ t285 _ _ t281 true _ ?side1 ?side2 ?side3 ?side4 A9.out).mono ?_); (case side1 => repeat (first | exact (Kd.R_reads' HO288.out).2.2 | (with_reducible refine Kd.C_alloc ?_ _) | (with_reducible refine Kd.C_drewN ?_ _) | (with_reducible refine Kd.C_drew ?_))); (case side2 => exact (Kd.R_reads' HO288.out).2.1); (case side3 => repeat (first | exact (Kd.R_reads' HO284.out).2.2 | (with_reducible refine Kd.C_alloc ?_ _) | (with_reducible refine Kd.C_drewN ?_ _) | (with_reducible refine Kd.C_drew ?_))); (case side4 => exact (Kd.R_reads' HO284.out).2.1); rintro e w' ⟨rfl, ⟨nd, rfl⟩⟩))
    go_meet
    case rel => exact ⟨_, ((t286 != t282)), (by first | rfl | (simp; done) | (simp [*]; done)), H', ⟨by first | omega | exact Nat.le_refl _⟩, ⟨by (with_reducible repeat (first | apply Kd.R_alloc | apply Kd.R_drewN | apply Kd.R_drew)); exact Kd.R_mono HO288.out (fun _ hk => trivial)⟩, ⟨by repeat (first | (with_reducible first | exact HB.out | apply below_alloc | apply pw_below_drewN | apply below_drew1) | exact HB.out)⟩⟩
   ·replace c10 := Bool.eq_false_iff.mpr c10
    subst c10
    have H1 : (copselaw17_ProfileReads.j0 k a0 t285 t286 true) = some r := by rw [if_neg (show ¬ (false = true) by decide)] at H; exact H
    clear H
    have H := H1
    clear H1
    have H' := Aside0.mk H
    clear H
    go_wp2_with (first | ((with_reducible refine gate_callee (f := 12) rfl ?_); refine goesL_ (some 19) rfl rfl Tryd.func12 (by kernel_rfl) rfl #[] rfl (by (try simp only [List.map_toArray, List.map_cons, List.map_nil]); first | done | rfl | (simp only [List.length_drop, List.length_take]; rfl)) ?_; (with_reducible refine (copselaw17_known.calls k  true _ A7.out).mono ?_); rintro e w14 ⟨rfl, hb⟩; refine ⟨_, rfl, ?_⟩; have n0_ := Aside0.mk (Kd.R_below (by (with_reducible repeat (first | apply Kd.R_alloc | apply Kd.R_drewN | apply Kd.R_drew)); exact HO284.out) hb); have n1_ := Aside0.mk (Kd.R_below (by (with_reducible repeat (first | apply Kd.R_alloc | apply Kd.R_drewN | apply Kd.R_drew)); exact HO288.out) hb); have n2_ := Aside0.mk (below_step (by repeat (first | (with_reducible first | exact HB.out | apply below_alloc | apply pw_below_drewN | apply below_drew1) | exact HB.out)) hb); clear HO284; clear HO288; clear HB; have HO284 := n0_; have HO288 := n1_; have HB := n2_; clear n0_ n1_ n2_; (try clear hb); (try clear hb2); (try clear hk); (try clear hi); obtain ⟨Ao15, co15, eo15⟩ := Kd.R_slice HO288.out; subst eo15; obtain ⟨Ao16, co16, eo16⟩ := Kd.R_slice HO284.out; subst eo16) | (go_at_call 14; (with_reducible refine (copselaw17_same.calls k _ _ t285 _ _ t281 false _ ?side1 ?side2 ?side3 ?side4 A9.out).mono ?_); (case side1 => repeat (first | exact (Kd.R_reads' HO288.out).2.2 | (with_reducible refine Kd.C_alloc ?_ _) | (with_reducible refine Kd.C_drewN ?_ _) | (with_reducible refine Kd.C_drew ?_))); (case side2 => exact (Kd.R_reads' HO288.out).2.1); (case side3 => repeat (first | exact (Kd.R_reads' HO284.out).2.2 | (with_reducible refine Kd.C_alloc ?_ _) | (with_reducible refine Kd.C_drewN ?_ _) | (with_reducible refine Kd.C_drew ?_))); (case side4 => exact (Kd.R_reads' HO284.out).2.1); rintro e w' ⟨rfl, ⟨nd, rfl⟩⟩))
    go_meet
    case rel => exact ⟨_, (true), (by first | rfl | (simp; done) | (simp [*]; done)), H', ⟨by first | omega | exact Nat.le_refl _⟩, ⟨by (with_reducible repeat (first | apply Kd.R_alloc | apply Kd.R_drewN | apply Kd.R_drew)); exact Kd.R_mono HO288.out (fun _ hk => trivial)⟩, ⟨by repeat (first | (with_reducible first | exact HB.out | apply below_alloc | apply pw_below_drewN | apply below_drew1) | exact HB.out)⟩⟩
  ·replace c8 := Bool.eq_false_iff.mpr c8
   subst c8
   have H1 : (copselaw17_ProfileReads.j0 k a0 t285 t286 true) = some r := by rw [if_neg (show ¬ (false = true) by decide)] at H; exact H
   clear H
   have H := H1
   clear H1
   have H' := Aside0.mk H
   clear H
   go_wp2_with (first | ((with_reducible refine gate_callee (f := 12) rfl ?_); refine goesL_ (some 19) rfl rfl Tryd.func12 (by kernel_rfl) rfl #[] rfl (by (try simp only [List.map_toArray, List.map_cons, List.map_nil]); first | done | rfl | (simp only [List.length_drop, List.length_take]; rfl)) ?_; (with_reducible refine (copselaw17_known.calls k  false _ A7.out).mono ?_); rintro e w17 ⟨rfl, hb⟩; refine ⟨_, rfl, ?_⟩; have n0_ := Aside0.mk (Kd.R_below (by (with_reducible repeat (first | apply Kd.R_alloc | apply Kd.R_drewN | apply Kd.R_drew)); exact HO284.out) hb); have n1_ := Aside0.mk (Kd.R_below (by (with_reducible repeat (first | apply Kd.R_alloc | apply Kd.R_drewN | apply Kd.R_drew)); exact HO288.out) hb); have n2_ := Aside0.mk (below_step (by repeat (first | (with_reducible first | exact HB.out | apply below_alloc | apply pw_below_drewN | apply below_drew1) | exact HB.out)) hb); clear HO284; clear HO288; clear HB; have HO284 := n0_; have HO288 := n1_; have HB := n2_; clear n0_ n1_ n2_; (try clear hb); (try clear hb2); (try clear hk); (try clear hi)))
   go_meet
   case rel => exact ⟨_, (true), (by first | rfl | (simp; done) | (simp [*]; done)), H', ⟨by first | omega | exact Nat.le_refl _⟩, ⟨by (with_reducible repeat (first | apply Kd.R_alloc | apply Kd.R_drewN | apply Kd.R_drew)); exact Kd.R_mono HO288.out (fun _ hk => trivial)⟩, ⟨by repeat (first | (with_reducible first | exact HB.out | apply below_alloc | apply pw_below_drewN | apply below_drew1) | exact HB.out)⟩⟩
 case rest =>
  clear HC4
  try clear c1
  try clear p2
  try clear c4
  try clear c8
  try clear c10
  try clear c12
  try clear c13
  try clear c15
  obtain ⟨kq, x31_3, rfl, HA, HJ3, HO_5, HB⟩ := hcut
  cases kq with
  | zero => exact absurd HA.out (by simp [copselaw17_ProfileReads.j0])
  | succ kj3 =>
   have H := HA.out
   clear HA
   simp only [copselaw17_ProfileReads.j0] at H
   by_cases c18 : x31_3 = true
   ·subst c18
    rw [if_pos rfl] at H
    have H1 := H
    clear H
    have H := H1
    clear H1
    obtain rfl := Option.some.inj H
    go_wp2
    go_ret
    exact ⟨by first | rfl | (simp [errW_none, errW_some] <;> rfl) | (simp [*, errW_none, errW_some] <;> rfl), by repeat (first | (with_reducible first | exact HB.out | apply below_alloc | apply pw_below_drewN | apply below_drew1) | exact HB.out)⟩
   ·replace c18 := Bool.eq_false_iff.mpr c18
    subst c18
    have H1 : (if t286 = 0 then ((profile_Write.f kj3 t285).bind fun bt291 => (if bt291.2 = 0 then (some (bt291.1.toList == a0.toList)) else (some false))) else (some true)) = some r := by rw [if_neg (show ¬ (false = true) by decide)] at H; exact H
    clear H
    have H := H1
    clear H1
    by_cases c19 : t286 = 0
    ·rw [if_pos c19] at H
     have c19b0 : (t286 == 0) = true := beq_iff_eq.mpr c19
     have c19b1 : (t286 != 0) = false := bne_eq_false_iff_eq.mpr c19
     clear c19
     replace H := Option.bind_eq_some_iff.mp H
     obtain ⟨⟨t291, t292⟩, A200, H⟩ := H
     try dsimp only at H
     have A20 := Aside0.mk A200
     clear A200
     by_cases c21 : t292 = 0
     ·rw [if_pos c21] at H
      have c21b0 : (t292 == 0) = true := beq_iff_eq.mpr c21
      have c21b1 : (t292 != 0) = false := bne_eq_false_iff_eq.mpr c21
      clear c21
      obtain rfl := Option.some.inj H
      obtain ⟨Ao22, co22, eo22⟩ := Kd.R_slice HO_5.out
      subst eo22
      go_wp2_with (first | ((with_reducible refine gate_callee (f := 11) rfl ?_); refine goesL_ (some 36) rfl rfl Tryd.func11 (by kernel_rfl) rfl #[.slice Ao22 t285.length co22] rfl (by (try simp only [List.map_toArray, List.map_cons, List.map_nil]); first | done | rfl | (simp only [List.length_drop, List.length_take]; rfl)) ?_; (with_reducible refine (profile_Write.calls kj3 _ _ t285 t291 t292 _ ?side1 ?side2 A20.out).mono ?_); (case side1 => repeat (first | exact (Kd.R_reads' HO_5.out).2.2 | (with_reducible refine Kd.C_alloc ?_ _) | (with_reducible refine Kd.C_drewN ?_ _) | (with_reducible refine Kd.C_drew ?_))); (case side2 => exact (Kd.R_reads' HO_5.out).2.1); rintro e w23 ⟨rfl, hb⟩; refine ⟨_, rfl, ?_⟩; have n0_ := Aside0.mk (Kd.R_below (by (with_reducible repeat (first | apply Kd.R_alloc | apply Kd.R_drewN | apply Kd.R_drew)); exact HO_5.out) hb); have n1_ := Aside0.mk (below_step (by repeat (first | (with_reducible first | exact HB.out | apply below_alloc | apply pw_below_drewN | apply below_drew1) | exact HB.out)) hb); clear HO_5; clear HB; have HO_5 := n0_; have HB := n1_; clear n0_ n1_; (try clear hb); (try clear hb2); (try clear hk); (try clear hi)))
      go_ret
      exact ⟨by first | rfl | (simp [errW_none, errW_some] <;> rfl) | (simp [*, errW_none, errW_some] <;> rfl), by repeat (first | (with_reducible first | exact HB.out | apply below_alloc | apply pw_below_drewN | apply below_drew1) | exact HB.out)⟩
     ·rw [if_neg c21] at H
      have c21b0 : (t292 == 0) = false := beq_eq_false_iff_ne.mpr c21
      have c21b1 : (t292 != 0) = true := bne_iff_ne.mpr c21
      obtain rfl := Option.some.inj H
      obtain ⟨Ao24, co24, eo24⟩ := Kd.R_slice HO_5.out
      subst eo24
      go_wp2_with (first | ((with_reducible refine gate_callee (f := 11) rfl ?_); refine goesL_ (some 36) rfl rfl Tryd.func11 (by kernel_rfl) rfl #[.slice Ao24 t285.length co24] rfl (by (try simp only [List.map_toArray, List.map_cons, List.map_nil]); first | done | rfl | (simp only [List.length_drop, List.length_take]; rfl)) ?_; (with_reducible refine (profile_Write.calls kj3 _ _ t285 t291 t292 _ ?side1 ?side2 A20.out).mono ?_); (case side1 => repeat (first | exact (Kd.R_reads' HO_5.out).2.2 | (with_reducible refine Kd.C_alloc ?_ _) | (with_reducible refine Kd.C_drewN ?_ _) | (with_reducible refine Kd.C_drew ?_))); (case side2 => exact (Kd.R_reads' HO_5.out).2.1); rintro e w25 ⟨rfl, hb⟩; refine ⟨_, rfl, ?_⟩; have n0_ := Aside0.mk (Kd.R_below (by (with_reducible repeat (first | apply Kd.R_alloc | apply Kd.R_drewN | apply Kd.R_drew)); exact HO_5.out) hb); have n1_ := Aside0.mk (below_step (by repeat (first | (with_reducible first | exact HB.out | apply below_alloc | apply pw_below_drewN | apply below_drew1) | exact HB.out)) hb); clear HO_5; clear HB; have HO_5 := n0_; have HB := n1_; clear n0_ n1_; (try clear hb); (try clear hb2); (try clear hk); (try clear hi)))
      go_ret
      exact ⟨by first | rfl | (simp [errW_none, errW_some] <;> rfl) | (simp [*, errW_none, errW_some] <;> rfl), by repeat (first | (with_reducible first | exact HB.out | apply below_alloc | apply pw_below_drewN | apply below_drew1) | exact HB.out)⟩
    ·rw [if_neg c19] at H
     have c19b0 : (t286 == 0) = false := beq_eq_false_iff_ne.mpr c19
     have c19b1 : (t286 != 0) = true := bne_iff_ne.mpr c19
     obtain rfl := Option.some.inj H
     go_wp2
     go_ret
     exact ⟨by first | rfl | (simp [errW_none, errW_some] <;> rfl) | (simp [*, errW_none, errW_some] <;> rfl), by repeat (first | (with_reducible first | exact HB.out | apply below_alloc | apply pw_below_drewN | apply below_drew1) | exact HB.out)⟩
end Go.Proofs.YtehfogjibhnabaaDoor.PAll
namespace Go.Proofs.YtehfogjibhnabaaDoor.PAll
open Go.RowKit Go.Proofs.YtehfogjibhnabaaDoorW.PrintWords Go.Proofs.YtehfogjibhnabaaDoorW.PrintLast Go.Proofs.YtehfogjibhnabaaDoorW.PrintMore
open Go.Proofs.YtehfogjibhnabaaDoor.Sp
theorem valid_root : validB (⟨#[]⟩ : ByteArray) = true := by kernel_rfl
end Go.Proofs.YtehfogjibhnabaaDoor.PAll
namespace Go.Proofs.YtehfogjibhnabaaDoor.PAll
open Go.RowKit Go.Proofs.YtehfogjibhnabaaDoorW.PrintWords Go.Proofs.YtehfogjibhnabaaDoorW.PrintLast Go.Proofs.YtehfogjibhnabaaDoorW.PrintMore
open Go.Proofs.YtehfogjibhnabaaDoor.Sp
theorem mk_app (a b : Str) : mk a ++ mk b = mk (a ++ b) := by
 apply bs_inj
 rw [bs_mk]
 show (mk a ++ mk b).data.toList = _
 rw [ByteArray.data_append, Array.toList_append]
 rfl
def writeS (s : Str) : ByteArray × Int := if (s.length : Int) > 65536 then (⟨#[]⟩, 18) else (mk s, 0)
def writeR (k : List ByteArray) : ByteArray × Int := if coneR none k = true then writeS (textS k) else (⟨#[]⟩, 13)
theorem write17_run (x D : List ByteArray) (hx : x.length ≤ 4294967296) (hD : D.length ≤ 4294967296) (hs : ∀ d ∈ D, d.size ≤ 120) (d : Nat) : ∀ (i : Nat) (acc : Str), D.length - i = d → i ≤ D.length → acc.length ≤ 8 + 260 * i →
  Ev (fun k => copseref17_Write.l0 k x (mk acc) D (i : Int)) (writeS (acc ++ (D.drop i).flatMap (lineT x))) := by
 induction d with
 | zero =>
  intro i acc hd hi hl
  refine ⟨1, fun k hk => ?_⟩
  obtain ⟨k, rfl⟩ : ∃ m, k = m + 1 := ⟨k - 1, by omega⟩
  simp only [copseref17_Write.l0]
  rw [if_neg (by omega), List.drop_of_length_le (by omega), List.flatMap_nil, List.append_nil, mk_size]
  unfold writeS
  split <;> rfl
 | succ d ih =>
  intro i acc hd hi hl
  have hil : i < D.length := by omega
  have hsz := hs _ (rd_mem D i hil)
  rw [rdOf_drop D i hil, List.flatMap_cons, ← List.append_assoc]
  generalize hc : rdOf ByteArray.empty D (i : Int) = c at hsz
  have e1 : mk acc ++ (⟨#[47]⟩ : ByteArray) = mk (acc ++ [47]) := mk_app acc [47]
  have e2 : mk (acc ++ [47]) ++ c = mk (acc ++ [47] ++ bs c) := by rw [← mk_app (acc ++ [47]), mk_bs]
  have e3 : mk (acc ++ [47] ++ bs c) ++ (⟨#[47, 10]⟩ : ByteArray) = mk (acc ++ [47] ++ bs c ++ [47, 10]) := mk_app _ [47, 10]
  have e4 : mk (acc ++ [47] ++ bs c ++ [47, 10]) ++ (⟨#[33, 47]⟩ : ByteArray) = mk (acc ++ [47] ++ bs c ++ [47, 10] ++ [33, 47]) := mk_app _ [33, 47]
  have e5 : mk (acc ++ [47] ++ bs c ++ [47, 10] ++ [33, 47]) ++ c = mk (acc ++ [47] ++ bs c ++ [47, 10] ++ [33, 47] ++ bs c) := by rw [← mk_app (acc ++ [47] ++ bs c ++ [47, 10] ++ [33, 47]), mk_bs]
  have e6 : mk (acc ++ [47] ++ bs c ++ [47, 10] ++ [33, 47] ++ bs c) ++ (⟨#[47, 42, 47, 10]⟩ : ByteArray) = mk (acc ++ [47] ++ bs c ++ [47, 10] ++ [33, 47] ++ bs c ++ [47, 42, 47, 10]) := mk_app _ [47, 42, 47, 10]
  have hbl : (bs c).length = c.size := bs_size c
  have hll := lineT_length x c
  obtain ⟨K, hK⟩ := ih (i + 1) (acc ++ lineT x c) (by omega) (by omega) (by rw [List.length_append]; omega)
  obtain ⟨K1, hK1⟩ := has17 x c hx
  dsimp only at hK hK1
  refine ⟨max K K1 + 1, fun k hk => ?_⟩
  obtain ⟨k, rfl⟩ : ∃ m, k = m + 1 := ⟨k - 1, by omega⟩
  have hk2 := hK k (by omega)
  simp only [copseref17_Write.l0]
  rw [hc, e1, e2, e3, e4, e5, e6]
  simp only [mk_size, List.length_append, List.length_cons, List.length_nil, hbl]
  rw [if_pos (by omega), if_pos (by omega), if_pos (by omega), if_pos (by omega), if_pos (by omega), hK1 k (by omega), Option.bind_some, wrap_succ (n := D.length) (by omega) (by omega)]
  by_cases hm : c ∈ x
  ·rw [if_pos (by simpa using hm)]
   have el : acc ++ [47] ++ bs c ++ [47, 10] = acc ++ lineT x c := by unfold lineT; simp [hm]
   rw [el]; exact hk2
  ·rw [if_neg (by simpa using hm), if_pos (by omega), if_pos (by omega), if_pos (by omega)]
   have el : acc ++ [47] ++ bs c ++ [47, 10] ++ [33, 47] ++ bs c ++ [47, 42, 47, 10] = acc ++ lineT x c := by unfold lineT; simp [hm]
   rw [el]; exact hk2
theorem write17 (x : List ByteArray) (hx : x.length ≤ 1048576) (hf : Fits x) : Ev (fun k => copseref17_Write.f k x) (writeR x) := by
 obtain ⟨K, hK⟩ := cones17 x (by omega) hf
 dsimp only at hK
 unfold writeR
 by_cases hc : coneR none x = true
 ·rw [if_pos hc]
  obtain ⟨hv, ha⟩ := (cone_all x).1 hc
  have hl := dirsT_length hv
  have hrun : x ≠ [⟨#[]⟩] → Ev (fun k => copseref17_Write.j0 k x false) (writeS (textS x)) := fun h0 => by
   have e : textS x = [47, 42, 10, 33, 47, 42, 47, 10] ++ (dirsT x).flatMap (lineT x) := by unfold textS; rw [if_neg h0]
   refine Ev.step (f := fun k => (copseref17_dirs.f k x).bind fun t159 => copseref17_Write.l0 k x (⟨#[47, 42, 10, 33, 47, 42, 47, 10]⟩ : ByteArray) t159 0) (fun k => ?_) (Ev.bind (dirs17 x hx (fun p hp => valid_size (hv p hp)) ha) ?_)
   ·simp only [copseref17_Write.j0]; rw [if_neg (by simp)]
   ·rw [e]
    exact write17_run x (dirsT x) (by omega) (by omega) (dirsT_size hv) _ 0 _ rfl (by omega) (by simp)
  by_cases h1 : (x.length : Int) = 1
  ·by_cases h2 : x = [⟨#[]⟩]
   ·refine ⟨K + 2, fun k hk => ?_⟩
    obtain ⟨k, rfl⟩ : ∃ m, k = m + 1 := ⟨k - 1, by omega⟩
    unfold copseref17_Write.f
    dsimp only
    rw [hK (k + 1) (by omega), Option.bind_some, if_pos hc, if_pos h1, if_pos (by omega), h2, textS_root]
    simp [copseref17_Write.j0, rdOf, writeS]
    rfl
   ·obtain ⟨K2, hK2⟩ := hrun h2
    refine ⟨max K K2, fun k hk => ?_⟩
    unfold copseref17_Write.f
    have hne : ((rdOf ByteArray.empty x 0).toList == ([] : List UInt8)) = false := by
     have hlen : x.length = 1 := by omega
     match x, hlen with
     | [a], _ =>
      have : a ≠ ⟨#[]⟩ := fun e => h2 (by rw [e])
      have h3 : a.toList ≠ [] := fun e => this (bs_inj (by rw [← toList_bs, e]; rfl))
      simpa [rdOf] using h3
    dsimp only
    rw [hK k (by omega), Option.bind_some, if_pos hc, if_pos h1, if_pos (by omega), hne]
    exact hK2 k (by omega)
  ·have h2 : x ≠ [⟨#[]⟩] := fun e => h1 (by rw [e]; rfl)
   obtain ⟨K2, hK2⟩ := hrun h2
   refine ⟨max K K2, fun k hk => ?_⟩
   unfold copseref17_Write.f
   dsimp only
   rw [hK k (by omega), Option.bind_some, if_pos hc, if_neg h1]
   exact hK2 k (by omega)
 ·rw [if_neg hc]
  refine ⟨K, fun k hk => ?_⟩
  unfold copseref17_Write.f
  dsimp only
  rw [hK k hk, Option.bind_some, if_neg hc]
theorem progWrite (x : List ByteArray) (hx : x.length ≤ 1048576) (hf : Fits x) : Ev (fun k => profile_Write.f k x) (writeR x) := by
 refine Ev.bind (coneValid_ev x (by omega) hf) ?_
 unfold writeR
 by_cases hc : coneR none x = true
 ·rw [if_pos hc, if_pos hc]
  refine ⟨0, fun k _ => ?_⟩
  dsimp only
  rw [if_pos rfl]
  unfold profile_text.f
  rw [if_pos ⟨hc, hx⟩, Option.bind_some, mk_size]
  unfold writeS
  split <;> rfl
 ·rw [if_neg hc, if_neg hc]
  exact ⟨0, fun k _ => by dsimp only; rw [if_neg (by decide)]⟩
def finR (s : ByteArray) (k : List ByteArray) : List ByteArray × Int := if bs s = [47, 42, 10] then ([⟨#[]⟩], 0) else if writeR k = (s, 0) then (k, 0) else ([], 18)
theorem write_root : writeR [(⟨#[]⟩ : ByteArray)] = (mk [47, 42, 10], 0) := by
 have h : coneR none [(⟨#[]⟩ : ByteArray)] = true := by simp [coneR, valid_root]
 unfold writeR
 rw [if_pos h, textS_root]
 rfl
theorem byte_at (l : Str) (i : Nat) (h : i < l.length) (c : UInt8) (n : Int) (hn : n = (c.toNat : Int)) : bt (mk l) (i : Int) = n ↔ l[i]? = some c := by
 rw [bt_eq (mk l) i (by rw [mk_size]; exact h) c n hn, List.getElem?_eq_getElem h]
 simp only [bs_mk]
 exact ⟨fun e => by rw [e], fun e => Option.some.inj e⟩
theorem read17_end (s : ByteArray) (k0 : List ByteArray) (h1 : k0.length ≤ 1048576) (hf : Fits k0) :
  Ev (fun k => if s.toList = ([47, 42, 10] : List UInt8) then ((some (([(⟨#[]⟩ : ByteArray)] : List ByteArray) : List ByteArray)).bind fun y273 => ((copseref17_Write.f k y273).bind fun bt276 => (if bt276.2 = 0 then (if bt276.1.toList = s.toList then (some (y273, 0)) else (some (([] : List ByteArray), 18))) else (some (([] : List ByteArray), (18 : Int)))))) else ((copseref17_Write.f k k0).bind fun bt278 => (if bt278.2 = 0 then (if bt278.1.toList = s.toList then (some (k0, 0)) else (some (([] : List ByteArray), 18))) else (some (([] : List ByteArray), 18))))) (finR s k0) := by
 unfold finR
 simp only [toList_bs]
 by_cases hs : bs s = [47, 42, 10]
 ·simp only [if_pos hs, Option.bind_some]
  refine Ev.bind (write17 [⟨#[]⟩] (by decide) (by intro p hp; rw [List.mem_singleton.1 hp]; decide)) ⟨0, fun k _ => ?_⟩
  dsimp only
  rw [write_root, if_pos rfl, if_pos (by rw [bs_mk, hs])]
 ·simp only [if_neg hs]
  refine Ev.bind (write17 k0 h1 hf) ⟨0, fun k _ => ?_⟩
  generalize writeR k0 = q
  obtain ⟨t, e⟩ := q
  by_cases h : (t, e) = (s, (0 : Int))
  ·obtain ⟨rfl, rfl⟩ := Prod.mk.inj h
   simp
  ·rw [if_neg h]
   by_cases he : e = 0
   ·subst he
    dsimp only; rw [if_pos rfl, if_neg (fun hb => h (by rw [bs_inj hb]))]
   ·dsimp only; rw [if_neg he]
end Go.Proofs.YtehfogjibhnabaaDoor.PAll
namespace Go.Proofs.YtehfogjibhnabaaDoor.PAll
open Go.RowKit Go.Proofs.YtehfogjibhnabaaDoorW.PrintWords Go.Proofs.YtehfogjibhnabaaDoorW.PrintLast Go.Proofs.YtehfogjibhnabaaDoorW.PrintMore
open Go.Proofs.YtehfogjibhnabaaDoor.Sp
def midS (l : Str) : Str := (l.take (l.length - 1)).drop 1
def dirW (l : Str) : Str := if l.head? = some 33 then (if midS (l.drop 1) = [42] then [] else (midS (l.drop 1)).take ((midS (l.drop 1)).length - 2) ++ [47]) else midS l ++ [47]
def stepW (p : Str) (b : Bool) (l : Str) : Bool :=
 if l = [47, 42] then true else if l = [] then b
 else if (dirW l).length < p.length ∧ p.take (dirW l).length = dirW l then
  (if l.head? = some 33 then (if (47 : UInt8) ∈ p.drop (dirW l).length then false else b) else true)
 else b
def okW (l : Str) : Bool := decide (l = [47, 42]) || decide (l = []) || (if l.head? = some 33 then decide (2 ≤ (l.drop 1).length) && (decide (midS (l.drop 1) = [42]) || decide (2 ≤ (midS (l.drop 1)).length)) else decide (2 ≤ l.length))
def shownS (p : Str) (L : List Str) : Bool := L.foldl (stepW p) false
def cut10 : Str → Str → List Str
 | cur, [] => [cur]
 | cur, c :: r => if c = 10 then cur :: cut10 [] r else cut10 (cur ++ [c]) r
theorem cut10_length : ∀ (s cur : Str), (cut10 cur s).length ≤ s.length + 1
 | [], cur => by simp [cut10]
 | c :: r, cur => by
  unfold cut10
  split
  ·have := cut10_length r []; simp only [List.length_cons]; omega
  ·have := cut10_length r (cur ++ [c]); simp only [List.length_cons]; omega
theorem cut10_piece : ∀ (s cur : Str), ∀ l ∈ cut10 cur s, l.length ≤ cur.length + s.length
 | [], cur, l, h => by simp [cut10] at h; rw [h]; simp
 | c :: r, cur, l, h => by
  unfold cut10 at h
  split at h
  ·rcases List.mem_cons.1 h with rfl | h
   ·simp
   ·have := cut10_piece r [] l h; simp only [List.length_cons, List.length_nil] at this ⊢; omega
  ·have := cut10_piece r (cur ++ [c]) l h; simp only [List.length_append, List.length_cons, List.length_nil] at this ⊢; omega
theorem cut10_free : ∀ (l cur r : Str), (10 : UInt8) ∉ l → cut10 cur (l ++ 10 :: r) = (cur ++ l) :: cut10 [] r
 | [], cur, r, _ => by simp [cut10]
 | c :: l, cur, r, h => by
  have hc : c ≠ 10 := fun e => h (by rw [e]; exact List.mem_cons_self)
  rw [List.cons_append, cut10, if_neg hc, cut10_free l _ r fun hm => h (List.mem_cons_of_mem _ hm), List.append_assoc]
  rfl
theorem cut10_join : ∀ L : List Str, (∀ l ∈ L, (10 : UInt8) ∉ l) → cut10 [] (joinL L) = L ++ [[]]
 | [], _ => by simp [joinL, cut10]
 | l :: L, h => by
  have e : joinL (l :: L) = l ++ 10 :: joinL L := by simp [joinL]
  rw [e, cut10_free l [] _ (h l List.mem_cons_self), cut10_join L fun x hx => h x (List.mem_cons_of_mem _ hx)]
  rfl
theorem lines17_run (a : ByteArray) (ha : a.size ≤ 4294967296) (d : Nat) : ∀ (i fr : Nat) (acc : List ByteArray), a.size - i = d → i ≤ a.size → fr ≤ i → acc.length + a.size - i ≤ 4294967297 →
  Ev (fun k => copseref17_Lines.l0 k a acc (fr : Int) (i : Int)) (acc ++ (cut10 (((bs a).take i).drop fr) ((bs a).drop i)).map mk) := by
 induction d with
 | zero =>
  intro i fr acc hd hi hf hl
  have e : i = a.size := by omega
  refine ⟨1, fun k hk => ?_⟩
  obtain ⟨k, rfl⟩ : ∃ m, k = m + 1 := ⟨k - 1, by omega⟩
  simp only [copseref17_Lines.l0]
  rw [if_neg (by omega), if_pos (by omega), if_pos (by omega), if_pos (by omega), Int.toNat_natCast, extract_mk, List.drop_of_length_le (l := bs a) (i := i) (by rw [bs_size]; omega), e]
  rfl
 | succ d ih =>
  intro i fr acc hd hi hf hl
  have hlt : i < a.size := by omega
  rw [bs_drop a i hlt]
  by_cases h : bt a (i : Int) = 10
  ·have h' := (bt_eq a i hlt 10 10 rfl).1 h
   obtain ⟨K, hK⟩ := ih (i + 1) (i + 1) (acc ++ [mk (((bs a).take i).drop fr)]) (by omega) (by omega) (by omega) (by simp; omega)
   dsimp only at hK
   refine ⟨K + 1, fun k hk => ?_⟩
   obtain ⟨k, rfl⟩ : ∃ m, k = m + 1 := ⟨k - 1, by omega⟩
   simp only [copseref17_Lines.l0]
   rw [if_pos (by omega), if_pos (by omega), if_pos h, if_pos (by omega), if_pos (by omega), if_pos (by omega), if_pos (by omega), wrap_succ (n := a.size) (by omega) (by omega), Int.toNat_natCast, Int.toNat_natCast, extract_mk, hK k (by omega), h', cut10, if_pos rfl]
   rw [List.drop_of_length_le (l := (bs a).take (i + 1)) (by rw [List.length_take]; omega)]
   simp
  ·have h' : (bs a)[i]'(by rw [bs_size]; exact hlt) ≠ 10 := fun e => h ((bt_eq a i hlt 10 10 rfl).2 e)
   obtain ⟨K, hK⟩ := ih (i + 1) fr acc (by omega) (by omega) (by omega) (by omega)
   dsimp only at hK
   refine ⟨K + 1, fun k hk => ?_⟩
   obtain ⟨k, rfl⟩ : ∃ m, k = m + 1 := ⟨k - 1, by omega⟩
   simp only [copseref17_Lines.l0]
   rw [if_pos (by omega), if_pos (by omega), if_neg h, wrap_succ (n := a.size) (by omega) (by omega), hK k (by omega), cut10, if_neg h']
   have hlen : i < (bs a).length := by rw [bs_size]; exact hlt
   rw [List.take_succ_eq_append_getElem hlen, List.drop_append_of_le_length (by rw [List.length_take]; omega)]
theorem lines17 (a : ByteArray) (ha : a.size ≤ 4294967296) : Ev (fun k => copseref17_Lines.f k a) ((cut10 [] (bs a)).map mk) := by
 have := lines17_run a ha a.size 0 0 [] (by omega) (by omega) (by omega) (by simp only [List.length_nil]; omega)
 exact Ev.val this (by simp)
def copselaw17_shown.f (_k : Nat) (s p : ByteArray) : Option Bool := if s.size ≤ 65536 ∧ (0 < p.size ∧ p.size ≤ 65536) ∧ (cut10 [] (bs s)).all okW = true then some (shownS (bs p) (cut10 [] (bs s))) else none
theorem copselaw17_shown.mono : ∀ a0 a1 k, LeO (copselaw17_shown.f k a0 a1) (copselaw17_shown.f (k + 1) a0 a1) := fun _ _ _ => LeO.refl _
end Go.Proofs.YtehfogjibhnabaaDoor.PAll
namespace Go.Proofs.YtehfogjibhnabaaDoor.PAll
open Go.RowKit Go.Proofs.YtehfogjibhnabaaDoorW.PrintWords Go.Proofs.YtehfogjibhnabaaDoorW.PrintLast Go.Proofs.YtehfogjibhnabaaDoorW.PrintMore
open Go.Proofs.YtehfogjibhnabaaDoor.Sp
theorem rd_mk (L : List Str) (i : Nat) (h : i < L.length) : rdOf ByteArray.empty (L.map mk) (i : Int) = mk L[i] := by
 simp [rdOf, List.getD_eq_getElem?_getD, List.getElem?_eq_getElem h]
theorem mid_mk (l : Str) (_h : 2 < l.length) : (mk l).extract 1 (((l.length - 1 : Nat) : Int)).toNat = mk ((l.take (l.length - 1)).drop 1) := by
 rw [extract_mk, bs_mk, Int.toNat_natCast]
theorem head_mk (l : Str) (h : 0 < l.length) : bt (mk l) 0 = 47 ↔ l.head? = some 47 := by
 have := byte_at l 0 h 47 47 rfl
 rw [show ((0 : Nat) : Int) = 0 from rfl] at this
 rw [this]
 cases l <;> simp
theorem last_mk (l : Str) (h : 0 < l.length) : bt (mk l) ((l.length - 1 : Nat) : Int) = 47 ↔ l.getLast? = some 47 := by
 rw [byte_at l (l.length - 1) (by omega) 47 47 rfl, List.getLast?_eq_getElem?]
theorem read17_run (s : ByteArray) (L : List Str) (hL : L.length ≤ 1000000) (hl : ∀ l ∈ L, l.length ≤ 1073741800) (d : Nat) : ∀ (i : Nat) (acc : List ByteArray), L.length - i = d → i ≤ L.length → acc.length ≤ i → Fits acc →
  Ev (fun k => copseref17_Read.l0 k s (L.map mk) acc (i : Int)) (finR s (acc ++ refN (L.drop i))) := by
 induction d with
 | zero =>
  intro i acc hd hi ha hf
  have hlm : ((L.map mk).length : Int) = L.length := by simp
  rw [List.drop_of_length_le (by omega), show refN [] = [] from rfl, List.append_nil]
  refine Ev.step (fun k => ?_) (read17_end s acc (by omega) hf)
  simp only [copseref17_Read.l0]
  rw [hlm, if_neg (by omega)]
 | succ d ih =>
  intro i acc hd hi ha hf
  have hil : i < L.length := by omega
  have hlm : ((L.map mk).length : Int) = L.length := by simp
  have hrd := rd_mk L i hil
  have hll := hl L[i] (List.getElem_mem hil)
  have hdr : L.drop i = L[i] :: L.drop (i + 1) := List.drop_eq_getElem_cons hil
  have hw : wrap64 ((i : Int) + 1) = ((i + 1 : Nat) : Int) := wrap_succ (n := L.length) (by omega) (by omega)
  obtain ⟨K, hK⟩ := ih (i + 1) acc (by omega) (by omega) (by omega) hf
  dsimp only at hK
  rw [hdr]
  have hnx : L[i + 1]? = (L.drop (i + 1)).head? := by rw [List.head?_drop]
  generalize hx : L[i] = l at hrd hll
  generalize hr : L.drop (i + 1) = r at hK hnx
  have hsz : ((mk l).size : Int) = l.length := by rw [mk_size]
  have skip : refN (l :: r) = refN r → Ev (fun k => copseref17_Read.l0 k s (L.map mk) acc ((i + 1 : Nat) : Int)) (finR s (acc ++ refN (l :: r))) := fun e => by rw [e]; exact ⟨K, hK⟩
  by_cases h1 : 2 < l.length
  ·have hws : wrap64 ((l.length : Int) - 1) = ((l.length - 1 : Nat) : Int) := by rw [wrap_add (by omega) (by omega)]; omega
   by_cases h2 : l.head? = some 47
   ·have h2' := (head_mk l (by omega)).2 h2
    by_cases h3 : l.getLast? = some 47
    ·have h3' := (last_mk l (by omega)).2 h3
     have take_ : refN (l :: r) = mk ((l.take (l.length - 1)).drop 1) :: refN r → Ev (fun k => copseref17_Read.l0 k s (L.map mk) (acc ++ [mk ((l.take (l.length - 1)).drop 1)]) ((i + 1 : Nat) : Int)) (finR s (acc ++ refN (l :: r))) := fun e => by
      have := ih (i + 1) (acc ++ [mk ((l.take (l.length - 1)).drop 1)]) (by omega) (by omega) (by rw [List.length_append]; simp; omega) (fun p hp => by
       rcases List.mem_append.1 hp with hp | hp
       ·exact hf p hp
       ·rw [List.mem_singleton.1 hp, mk_size, List.length_drop, List.length_take]; omega)
      rw [hr] at this
      rw [e]
      exact Ev.val this (by rw [List.append_assoc]; rfl)
     by_cases h4 : i + 1 = L.length
     ·have hr0 : r = [] := by rw [← hr]; exact List.drop_of_length_le (by omega)
      have e : refN (l :: r) = mk ((l.take (l.length - 1)).drop 1) :: refN r := by rw [refN, if_pos ⟨h1, h2, h3, by rw [hr0]; simp⟩]
      refine Ev.step (fun k => ?_) (take_ e)
      simp only [copseref17_Read.l0]
      rw [hlm, hrd, hsz, hw, hws, if_pos (by omega), if_pos (by omega), if_pos (by omega), if_pos (by omega), if_pos h2', if_pos (by omega), if_pos (by omega), if_pos h3', if_pos (by omega), if_pos (by omega), if_pos (by omega), if_pos (by omega), mid_mk l h1]
     ·have hil2 : i + 1 < L.length := by omega
      have hrd2 := rd_mk L (i + 1) hil2
      have hrh : r.head? = some L[i + 1] := by rw [← hnx, List.getElem?_eq_getElem hil2]
      have ea : (⟨#[33]⟩ : ByteArray) ++ mk l = mk ([33] ++ l) := mk_app [33] l
      have eb : mk ([33] ++ l) ++ (⟨#[42, 47]⟩ : ByteArray) = mk ([33] ++ l ++ [42, 47]) := mk_app _ [42, 47]
      have hsz2 : (mk ([33] ++ l)).size = 1 + l.length := by rw [mk_size]; simp; omega
      have hsn : (mk l).size = l.length := mk_size l
      by_cases h5 : L[i + 1] = [33] ++ l ++ [42, 47]
      ·have e : refN (l :: r) = refN r := by rw [refN, if_neg (fun h => h.2.2.2 (by rw [hrh, h5]))]
       refine Ev.step (fun k => ?_) (skip e)
       simp only [copseref17_Read.l0]
       rw [hlm, hrd, hsz, hw, hws, if_pos (by omega), if_pos (by omega), if_pos (by omega), if_pos (by omega), if_pos h2', if_pos (by omega), if_pos (by omega), if_pos h3', if_neg (by omega), if_pos (by omega), if_pos (by omega), ea, eb, hsz2, hsn, if_pos (by omega), if_pos (by omega), hrd2, if_pos (by rw [h5])]
      ·have e : refN (l :: r) = mk ((l.take (l.length - 1)).drop 1) :: refN r := by rw [refN, if_pos ⟨h1, h2, h3, by rw [hrh]; exact fun h => h5 (Option.some.inj h)⟩]
       refine Ev.step (fun k => ?_) (take_ e)
       simp only [copseref17_Read.l0]
       rw [hlm, hrd, hsz, hw, hws, if_pos (by omega), if_pos (by omega), if_pos (by omega), if_pos (by omega), if_pos h2', if_pos (by omega), if_pos (by omega), if_pos h3', if_neg (by omega), if_pos (by omega), if_pos (by omega), ea, eb, hsz2, hsn, if_pos (by omega), if_pos (by omega), hrd2, if_neg (fun h => h5 (by rw [toList_bs, toList_bs, bs_mk, bs_mk] at h; exact h)), if_pos (by omega), if_pos (by omega), if_pos (by omega), mid_mk l h1]
    ·have e : refN (l :: r) = refN r := by rw [refN, if_neg (fun h => h3 h.2.2.1)]
     refine Ev.step (fun k => ?_) (skip e)
     simp only [copseref17_Read.l0]
     rw [hlm, hrd, hsz, hw, hws, if_pos (by omega), if_pos (by omega), if_pos (by omega), if_pos (by omega), if_pos h2', if_pos (by omega), if_pos (by omega), if_neg (fun h => h3 ((last_mk l (by omega)).1 h))]
   ·have e : refN (l :: r) = refN r := by rw [refN, if_neg (fun h => h2 h.2.1)]
    refine Ev.step (fun k => ?_) (skip e)
    simp only [copseref17_Read.l0]
    rw [hlm, hrd, hsz, hw, if_pos (by omega), if_pos (by omega), if_pos (by omega), if_pos (by omega), if_neg (fun h => h2 ((head_mk l (by omega)).1 h))]
  ·have e : refN (l :: r) = refN r := by rw [refN, if_neg (fun h => h1 h.1)]
   refine Ev.step (fun k => ?_) (skip e)
   simp only [copseref17_Read.l0]
   rw [hlm, hrd, hsz, hw, if_pos (by omega), if_pos (by omega), if_neg (by omega)]
def readR (s : ByteArray) : List ByteArray × Int := if (s.size : Int) > 65536 then ([], 18) else finR s (namedT s)
theorem writeR_ok {k : List ByteArray} {s : ByteArray} (h : writeR k = (s, 0)) : coneR none k = true ∧ s = mk (textS k) ∧ (textS k).length ≤ 65536 := by
 unfold writeR at h
 by_cases hc : coneR none k = true
 ·rw [if_pos hc] at h
  unfold writeS at h
  by_cases hl : ((textS k).length : Int) > 65536
  ·rw [if_pos hl] at h; have := (Prod.mk.inj h).2; omega
  ·rw [if_neg hl] at h
   exact ⟨hc, (Prod.mk.inj h).1.symm, by omega⟩
 ·rw [if_neg hc] at h; have := (Prod.mk.inj h).2; omega
theorem ref_named {k : List ByteArray} {s : ByteArray} (h : writeR k = (s, 0)) (h0 : k ≠ [⟨#[]⟩]) : refN (cut10 [] (bs s)) = k ∧ namedT s = k := by
 obtain ⟨hc, hs, _⟩ := writeR_ok h
 have hk := cones_of hc h0
 rw [hs]
 refine ⟨?_, named_text hk⟩
 rw [bs_mk, textS_lines h0, cut10_join _ (lines_free hk), refN_text hk]
theorem root_text {k : List ByteArray} {s : ByteArray} (h : writeR k = (s, 0)) (hs : bs s ≠ [47, 42, 10]) : k ≠ [⟨#[]⟩] := fun e => by
 obtain ⟨_, h2, _⟩ := writeR_ok h
 rw [e, textS_root] at h2
 exact hs (by rw [h2, bs_mk])
theorem finR_same (s : ByteArray) : finR s (refN (cut10 [] (bs s))) = finR s (namedT s) := by
 unfold finR
 by_cases hs : bs s = [47, 42, 10]
 ·rw [if_pos hs, if_pos hs]
 ·rw [if_neg hs, if_neg hs]
  by_cases h1 : writeR (refN (cut10 [] (bs s))) = (s, 0)
  ·have e := (ref_named h1 (root_text h1 hs)).2
   rw [← e] at h1
   rw [if_pos (by rw [← e]; exact h1), if_pos h1, e]
  ·rw [if_neg h1]
   by_cases h2 : writeR (namedT s) = (s, 0)
   ·have e := (ref_named h2 (root_text h2 hs)).1
    rw [← e] at h2
    exact absurd h2 h1
   ·rw [if_neg h2]
theorem read17 (s : ByteArray) : Ev (fun k => copseref17_Read.f k s) (readR s) := by
 unfold readR copseref17_Read.f
 by_cases h : (s.size : Int) > 65536
 ·simp only [if_pos h]; exact ev_some _
 ·simp only [if_neg h]
  refine Ev.bind (lines17 s (by omega)) ?_
  rw [← finR_same]
  have hl := cut10_length (bs s) []
  rw [bs_size] at hl
  exact Ev.val (read17_run s (cut10 [] (bs s)) (by omega) (fun l hl => by have := cut10_piece (bs s) [] l hl; rw [bs_size] at this; simp at this; omega) _ 0 [] rfl (by omega) (by simp) (fun p hp => absurd hp (by simp))) (by simp)
theorem progRead (s : ByteArray) : Ev (fun k => profile_Read.f k s) (readR s) := by
 unfold readR profile_Read.f
 by_cases h : (s.size : Int) > 65536
 ·simp only [if_pos h]; exact ev_some _
 ·simp only [if_neg h, Option.bind_some]
  unfold finR
  simp only [toList_bs]
  by_cases hs : bs s = [47, 42, 10]
  ·simp only [if_pos hs]
   refine Ev.bind (progWrite [⟨#[]⟩] (by decide) (by intro p hp; rw [List.mem_singleton.1 hp]; decide)) ⟨0, fun k _ => ?_⟩
   dsimp only
   rw [write_root, if_pos rfl, if_pos (by rw [bs_mk, hs])]
  ·simp only [if_neg hs]
   have hb := named_bound s
   refine Ev.bind (a := namedT s) ⟨0, fun k _ => by unfold profile_named.f; rw [if_pos (by omega)]⟩ ?_
   refine Ev.bind (progWrite (namedT s) (by omega) (fun p hp => by have := hb.2 p hp; omega)) ⟨0, fun k _ => ?_⟩
   generalize writeR (namedT s) = q
   obtain ⟨t, e⟩ := q
   by_cases h : (t, e) = (s, (0 : Int))
   ·obtain ⟨rfl, rfl⟩ := Prod.mk.inj h
    simp
   ·rw [if_neg h]
    by_cases he : e = 0
    ·subst he
     dsimp only
     rw [if_pos rfl, if_neg (fun hb => h (by rw [bs_inj hb]))]
    ·dsimp only; rw [if_neg he]
end Go.Proofs.YtehfogjibhnabaaDoor.PAll
namespace Go.Proofs.YtehfogjibhnabaaDoor.PAll
open Go.RowKit Go.Proofs.YtehfogjibhnabaaDoorW.PrintWords Go.Proofs.YtehfogjibhnabaaDoorW.PrintLast Go.Proofs.YtehfogjibhnabaaDoorW.PrintMore
open Go.Proofs.YtehfogjibhnabaaDoor.Sp
theorem same17_run (l : List ByteArray) (hl : l.length ≤ 4294967296) (d : Nat) : ∀ i, l.length - i = d → i ≤ l.length → Ev (fun k => copselaw17_same.l0 k l l (i : Int)) true := by
 induction d with
 | zero =>
  intro i hd hi
  refine ⟨1, fun k hk => ?_⟩
  obtain ⟨k, rfl⟩ : ∃ m, k = m + 1 := ⟨k - 1, by omega⟩
  simp only [copselaw17_same.l0]
  rw [if_neg (by omega)]
 | succ d ih =>
  intro i hd hi
  obtain ⟨K, hK⟩ := ih (i + 1) (by omega) (by omega)
  dsimp only at hK
  refine ⟨K + 1, fun k hk => ?_⟩
  obtain ⟨k, rfl⟩ : ∃ m, k = m + 1 := ⟨k - 1, by omega⟩
  simp only [copselaw17_same.l0]
  rw [if_pos (by omega), if_pos (by omega), if_pos (by omega), if_pos trivial, wrap_succ (n := l.length) (by omega) (by omega)]
  exact hK k (by omega)
theorem same17 (l : List ByteArray) (hl : l.length ≤ 4294967296) : Ev (fun k => copselaw17_same.f k l l) true := by
 refine Ev.congr (fun k => ?_) (same17_run l hl l.length 0 (by omega) (by omega))
 unfold copselaw17_same.f
 rw [if_pos rfl]; rfl
theorem known17 : Ev (fun k => copselaw17_known.f k) true := Ev.of copselaw17_known.mono (k := 60) (by kernel_rfl)
theorem readR_ok {s : ByteArray} {k : List ByteArray} (h : readR s = (k, 0)) : writeR k = (s, 0) := by
 unfold readR at h
 by_cases h1 : (s.size : Int) > 65536
 ·rw [if_pos h1] at h; have := (Prod.mk.inj h).2; omega
 ·rw [if_neg h1] at h
  unfold finR at h
  by_cases h2 : bs s = [47, 42, 10]
  ·rw [if_pos h2] at h
   rw [← (Prod.mk.inj h).1, write_root, ← h2, mk_bs]
  ·rw [if_neg h2] at h
   by_cases h3 : writeR (namedT s) = (s, 0)
   ·rw [if_pos h3] at h
    rw [← (Prod.mk.inj h).1]; exact h3
   ·rw [if_neg h3] at h; have := (Prod.mk.inj h).2; omega
theorem readR_bound (s : ByteArray) : (readR s).1.length ≤ 65537 ∧ Fits (readR s).1 := by
 unfold readR
 by_cases h1 : (s.size : Int) > 65536
 ·rw [if_pos h1]; exact ⟨by simp, fun p hp => absurd hp (by simp)⟩
 ·rw [if_neg h1]
  have hb := named_bound s
  unfold finR
  split
  ·exact ⟨by simp, by intro p hp; rw [List.mem_singleton.1 hp]; decide⟩
  ·split
   ·exact ⟨by have := hb.1; show (namedT s).length ≤ _; omega, fun p hp => by have := hb.2 p hp; omega⟩
   ·exact ⟨by simp, fun p hp => absurd hp (by simp)⟩
theorem ProfileReads (s : ByteArray) : ∃ k, copselaw17_ProfileReads.f k s = some true := by
 refine Ev.rounds ?_
 unfold copselaw17_ProfileReads.f
 refine Ev.bind (read17 s) (Ev.bind (progRead s) (Ev.bind known17 ?_))
 have hb := readR_bound s
 generalize hq : readR s = q at hb
 obtain ⟨k0, e⟩ := q
 simp only [if_true]
 refine Ev.bind (same17 k0 (by have := hb.1; simp only at this; omega)) ?_
 simp only [if_true]
 rw [show ((e != e) = false) by simp]
 by_cases he : e = 0
 ·subst he
  refine Ev.step (f := fun k => (profile_Write.f k k0).bind fun bt290 => (if bt290.2 = 0 then (some (bt290.1.toList == s.toList)) else (some false))) (fun k => ?_) (Ev.bind (progWrite k0 (by have := hb.1; simp only at this; omega) hb.2) ?_)
  ·simp only [copselaw17_ProfileReads.j0]
   rw [if_neg (by simp), if_pos trivial]
  ·rw [readR_ok hq]
   exact ⟨0, fun k _ => by simp⟩
 ·refine Ev.step (f := fun _ => some true) (fun k => ?_) (ev_some true)
  simp only [copselaw17_ProfileReads.j0]
  rw [if_neg (by simp), if_neg he]
end Go.Proofs.YtehfogjibhnabaaDoor.PAll
