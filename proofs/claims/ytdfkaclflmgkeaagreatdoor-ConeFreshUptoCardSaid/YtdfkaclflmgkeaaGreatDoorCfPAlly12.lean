/- What functions of the program compute, each with its walk: a contract for every world and every argument of the kind told. -/
import Derived.Test.YtdfkaclflmgkeaaGreatDoorCfPAllx0
import Derived.Test.YtdfkaclflmgkeaaGreatDoorCfPAlly11
import Derived.Test.YtdfkaclflmgkeaaGreatDoorCfPAlly4
import Derived.Test.YtdfkaclflmgkeaaGreatDoorCfPAlly9
import Derived.Test.YtdfkaclflmgkeaaGreatDoorCfHandB
import Derived.Test.YtdfkaclflmgkeaaGreatDoorCfHandA
import Derived.Test.YtdfkaclflmgkeaaGreatDoorCfRowKit
import Derived.WalkKit
import Derived.BigQuiet
import Derived.Deep.QuietTactic
import Derived.StillTailTactics
import Derived.Outline
namespace Go.Proofs.YtdfkaclflmgkeaaGreatDoor.PAll
open Go.RowKit Go.Proofs.YtdfkaclflmgkeaaGreatDoorW.PrintWords Go.Proofs.YtdfkaclflmgkeaaGreatDoorW.PrintLast Go.Proofs.YtdfkaclflmgkeaaGreatDoorW.PrintMore
attribute [local go_sem] max2_int min2_int max_two min_two max_three min_three max_four min_four
set_option linter.unusedVariables false
set_option linter.unusedSimpArgs false
attribute [local go_sem high] eqA36
def copseref15_View.l0 : Nat → List (S36) → List ByteArray → List (S36) → Int → Option ((List (S36)) × Int)
 | 0, _, _, _, _ => none
 | k + 1, x0, x1, x7, x8 => if x8 < (x0.length : Int) then (if 0 ≤ x8 then ((copseref15_Shows.f k x1 ((rd_T36 x0 x8).f0)).bind fun t347 => (if t347 = true then (if x7.length < 2932031007402 then (copseref15_View.l0 k x0 x1 (x7 ++ [(⟨(rd_T36 x0 x8).f0, (rd_T36 x0 x8).f1, (rd_T36 x0 x8).f2, (rd_T36 x0 x8).f3⟩ : S36)]) (wrap64 (x8 + 1))) else (none)) else (copseref15_View.l0 k x0 x1 x7 (wrap64 (x8 + 1))))) else (none)) else (some (x7, 0))
def copseref15_View.f (k : Nat) (l0 : List (S36)) (l1 : List ByteArray) : Option ((List (S36)) × Int) := (copseref13_Snap.f k l0).bind fun t344 => (if t344 = 0 then ((copseref15_Valid.f k l1).bind fun t345 => (if t345 = 0 then (copseref15_View.l0 k l0 l1 ([] : List (S36)) 0) else (some (([] : List (S36)), 13)))) else (some (([] : List (S36)), t344)))
set_option maxHeartbeats 8000000 in
set_option maxRecDepth 100000 in
theorem copseref15_View.calls (k : Nat) (A0 : Option Addr) (c0 : Nat) (l0 : List (S36)) (A1 : Option Addr) (c1 : Nat) (l1 : List ByteArray) (r1 : List (S36)) (r2 : Int) (w : World) (hr0 : Kd.C k36 w A0 l0.length l0) (hc0 : l0.length ≤ c0) (hr1 : Kd.C Kd.string w A1 l1.length l1) (hc1 : l1.length ≤ c1) (h : copseref15_View.f k l0 l1 = some (r1, r2)) :
  Calls Tryz.prog 10 #[.slice A0 l0.length c0, .slice A1 l1.length c1] w fun e w' => ∃ v0_ : Value, e = .returned (.tuple #[v0_, .int .i64 r2]) ∧ Kd.R k36 36 w' w.heap.size (fun _ => True) v0_ r1 ∧ Below w.heap.size w w' := by
 have hu36 := Tryz.underlying36
 have HR0 := Aside0.mk hr0
 have HC0 := Aside0.mk hc0
 clear hr0 hc0
 have HR1 := Aside0.mk hr1
 have HC1 := Aside0.mk hc1
 clear hr1 hc1
 have HB := Aside0.mk (Below.refl w.heap.size w)
 have H : ((copseref13_Snap.f k l0).bind fun t344 => (if t344 = 0 then ((copseref15_Valid.f k l1).bind fun t345 => (if t345 = 0 then (copseref15_View.l0 k l0 l1 ([] : List (S36)) 0) else (some (([] : List (S36)), 13)))) else (some (([] : List (S36)), t344)))) = some (r1, r2) := h
 clear h
 replace H := Option.bind_eq_some_iff.mp H
 obtain ⟨t344, A30, H⟩ := H
 replace H : (if t344 = 0 then ((copseref15_Valid.f k l1).bind fun t345 => (if t345 = 0 then (copseref15_View.l0 k l0 l1 ([] : List (S36)) 0) else (some (([] : List (S36)), 13)))) else (some (([] : List (S36)), t344))) = some (r1, r2) := H
 have A3 := Aside0.mk A30
 clear A30
 by_cases c4 : t344 = 0
 ·rw [if_pos c4] at H
  have c4b0 : (t344 == 0) = true := beq_iff_eq.mpr c4
  have c4b1 : (t344 != 0) = false := bne_eq_false_iff_eq.mpr c4
  clear c4
  replace H := Option.bind_eq_some_iff.mp H
  obtain ⟨t345, A50, H⟩ := H
  replace H : (if t345 = 0 then (copseref15_View.l0 k l0 l1 ([] : List (S36)) 0) else (some (([] : List (S36)), 13))) = some (r1, r2) := H
  have A5 := Aside0.mk A50
  clear A50
  by_cases c6 : t345 = 0
  ·rw [if_pos c6] at H
   have c6b0 : (t345 == 0) = true := beq_iff_eq.mpr c6
   have c6b1 : (t345 != 0) = false := bne_eq_false_iff_eq.mpr c6
   clear c6
   have H' := Aside0.mk H
   clear H
   go_enter Tryz.func10, Tryz.ntmps10
   go_wp2_with (first | ((with_reducible refine gate_callee (f := 23) rfl ?_); refine goesL_ (some 10) rfl rfl Tryz.func23 (by kernel_rfl) rfl #[.slice A0 l0.length c0] rfl (by (try simp only [List.map_toArray, List.map_cons, List.map_nil]); first | done | rfl | (simp only [List.length_drop, List.length_take]; rfl)) ?_; (with_reducible refine (copseref13_Snap.calls k _ _ l0 t344 _ ?side1 ?side2 A3.out).mono ?_); (case side1 => repeat (first | exact HR0.out | (with_reducible refine Kd.C_alloc ?_ _) | (with_reducible refine Kd.C_drewN ?_ _) | (with_reducible refine Kd.C_drew ?_))); (case side2 => exact HC0.out); rintro e w7 ⟨rfl, hb⟩; refine ⟨_, rfl, ?_⟩; have n0_ := Aside0.mk (below_step (by repeat (first | (with_reducible first | exact HB.out | apply below_alloc | apply pw_below_drewN | apply below_drew1) | exact HB.out)) hb); clear HB; have HB := n0_; clear n0_; (try clear hb); (try clear hb2); (try clear hk); (try clear hi)) | ((with_reducible refine gate_callee (f := 24) rfl ?_); refine goesL_ (some 15) rfl rfl Tryz.func24 (by kernel_rfl) rfl #[.slice A1 l1.length c1] rfl (by (try simp only [List.map_toArray, List.map_cons, List.map_nil]); first | done | rfl | (simp only [List.length_drop, List.length_take]; rfl)) ?_; (with_reducible refine (copseref15_Valid.calls k _ _ l1 t345 _ ?side1 ?side2 A5.out).mono ?_); (case side1 => repeat (first | exact (Kd.C_below HR1.out HB.out) | (with_reducible refine Kd.C_alloc ?_ _) | (with_reducible refine Kd.C_drewN ?_ _) | (with_reducible refine Kd.C_drew ?_))); (case side2 => exact HC1.out); rintro e w8 ⟨rfl, hb⟩; refine ⟨_, rfl, ?_⟩; have n0_ := Aside0.mk (below_step (by repeat (first | (with_reducible first | exact HB.out | apply below_alloc | apply pw_below_drewN | apply below_drew1) | exact HB.out)) hb); clear HB; have HB := n0_; clear n0_; (try clear hb); (try clear hb2); (try clear hk); (try clear hi)))
   go_loopg [7, 8] k (fun kq v7 v8 w' => ∃ (x7_1 : List (S36)) (x8_1 : Int), v8 = .int .i64 x8_1 ∧ Aside0 (copseref15_View.l0 kq l0 l1 x7_1 x8_1 = some (r1, r2)) ∧ Aside0 (kq ≤ k) ∧ Aside0 (Kd.R k36 36 w' w.heap.size (fun _ => True) v7 x7_1) ∧ Aside0 (Below w.heap.size w w'))
   case atStart => exact ⟨(([] : List (S36))), (0), (by first | rfl | (simp; done) | (simp [*]; done)), H', ⟨Nat.le_refl _⟩, ⟨by first | exact Kd.R_nil _ _ _ _ _ | exact Kd.N_nil _ _ _ _ _ | exact Kd.V_nil _ _ _ _ _ | exact Kd.Q_nil _ _ _ _ _ | exact Kd.S_nil _ _ _ _ _⟩, ⟨by repeat (first | (with_reducible first | exact HB.out | apply below_alloc | apply pw_below_drewN | apply below_drew1) | exact HB.out)⟩⟩
   case round =>
    clear H'
    try clear c1
    try clear c2
    try clear p2
    try clear c4
    try clear c4b0
    try clear c4b1
    try clear c6
    try clear c6b0
    try clear c6b1
    obtain ⟨x7_1, x8_1, rfl, HA, HK1, HO_7, HB⟩ := hrel
    cases gk with
    | zero => exact absurd HA.out (by simp [copseref15_View.l0])
    | succ k1 =>
     have H := HA.out
     clear HA
     simp only [copseref15_View.l0] at H
     by_cases c9 : x8_1 < (l0.length : Int)
     ·rw [if_pos c9] at H
      have c9b0 := decide_eq_true c9
      clear c9
      by_cases c10 : 0 ≤ x8_1
      ·rw [if_pos c10] at H
       have c10b0 := decide_eq_true c10
       clear c10
       replace H := Option.bind_eq_some_iff.mp H
       obtain ⟨t347, A110, H⟩ := H
       replace H : (if t347 = true then (if x7_1.length < 2932031007402 then (copseref15_View.l0 k1 l0 l1 (x7_1 ++ [(⟨(rd_T36 l0 x8_1).f0, (rd_T36 l0 x8_1).f1, (rd_T36 l0 x8_1).f2, (rd_T36 l0 x8_1).f3⟩ : S36)]) (wrap64 (x8_1 + 1))) else (none)) else (copseref15_View.l0 k1 l0 l1 x7_1 (wrap64 (x8_1 + 1)))) = some (r1, r2) := H
       have A11 := Aside0.mk A110
       clear A110
       by_cases c12 : t347 = true
       ·subst c12
        have H1 : (if x7_1.length < 2932031007402 then (copseref15_View.l0 k1 l0 l1 (x7_1 ++ [(⟨(rd_T36 l0 x8_1).f0, (rd_T36 l0 x8_1).f1, (rd_T36 l0 x8_1).f2, (rd_T36 l0 x8_1).f3⟩ : S36)]) (wrap64 (x8_1 + 1))) else (none)) = some (r1, r2) := by rw [if_pos rfl] at H; exact H
        clear H
        have H := H1
        clear H1
        by_cases c13 : x7_1.length < 2932031007402
        ·rw [if_pos c13] at H
         have LMc13 := Aside0.mk c13
         clear c13
         obtain ⟨y349, hy349⟩ : ∃ y_ : List (S36), y_ = (x7_1 ++ [(⟨(rd_T36 l0 x8_1).f0, (rd_T36 l0 x8_1).f1, (rd_T36 l0 x8_1).f2, (rd_T36 l0 x8_1).f3⟩ : S36)]) := ⟨_, rfl⟩
         replace H : (copseref15_View.l0 k1 l0 l1 y349 (wrap64 (x8_1 + 1))) = some (r1, r2) := by first | (rw [hy349]; with_reducible exact H) | (have H2_ := (Option.bind_some _ _).symm.trans H; rw [hy349]; with_reducible exact H2_) | (have H2_ := (Option.bind_some _ _).symm.trans H; with_reducible exact H2_) | with_reducible exact H | (rw [hy349]; exact H) | exact H
         have Ny349 := Aside0.mk hy349
         clear hy349
         have H' := Aside0.mk H
         clear H
         have p346 : 0 ≤ (x8_1 : Int) := of_decide_eq_true (by first | (with_reducible assumption) | assumption)
         have q346 : x8_1 < (l0.length : Int) := of_decide_eq_true (by first | (with_reducible assumption) | assumption)
         obtain ⟨ad346, e346, hx346_0, hx346_1, hx346_2, hx346_3⟩ := at_T36 HR0.out x8_1 p346 q346
         cases e346
         replace hx346_0 := (HB.out.cell (World.block_lt_of_cell? w _ hx346_0)).trans hx346_0
         replace hx346_1 := (HB.out.cell (World.block_lt_of_cell? w _ hx346_1)).trans hx346_1
         replace hx346_2 := (HB.out.cell (World.block_lt_of_cell? w _ hx346_2)).trans hx346_2
         replace hx346_3 := (HB.out.cell (World.block_lt_of_cell? w _ hx346_3)).trans hx346_3
         replace p346 := eq_true p346
         replace q346 := eq_true q346
         go_wp2_with (first | ((with_reducible refine gate_callee (f := 25) rfl ?_); refine goesL_ (some 29) rfl rfl Tryz.func25 (by kernel_rfl) rfl #[.slice A1 l1.length c1, .string ((rd_T36 l0 x8_1).f0)] rfl (by (try simp only [List.map_toArray, List.map_cons, List.map_nil]); first | done | rfl | (simp only [List.length_drop, List.length_take]; rfl)) ?_; (with_reducible refine (copseref15_Shows.calls k1 _ _ l1 ((rd_T36 l0 x8_1).f0) true _ ?side1 ?side2 A11.out).mono ?_); (case side1 => repeat (first | exact (Kd.C_below HR1.out HB.out) | (with_reducible refine Kd.C_alloc ?_ _) | (with_reducible refine Kd.C_drewN ?_ _) | (with_reducible refine Kd.C_drew ?_))); (case side2 => exact HC1.out); rintro e w14 ⟨rfl, hb⟩; refine ⟨_, rfl, ?_⟩; have n0_ := Aside0.mk (Kd.R_below (by (with_reducible repeat (first | apply Kd.R_alloc | apply Kd.R_drewN | apply Kd.R_drew)); exact HO_7.out) hb); have n1_ := Aside0.mk (below_step (by repeat (first | (with_reducible first | exact HB.out | apply below_alloc | apply pw_below_drewN | apply below_drew1) | exact HB.out)) hb); clear HO_7; clear HB; have HO_7 := n0_; have HB := n1_; clear n0_ n1_; (try clear hb); (try clear hb2); (try clear hk); (try clear hi); have p348 : 0 ≤ (x8_1 : Int) := of_decide_eq_true (by first | (with_reducible assumption) | assumption); have q348 : x8_1 < (l0.length : Int) := of_decide_eq_true (by first | (with_reducible assumption) | assumption); obtain ⟨ad348, e348, hx348_0, hx348_1, hx348_2, hx348_3⟩ := at_T36 HR0.out x8_1 p348 q348; obtain rfl : ad346 = ad348 := (by injection e348); replace hx348_0 := (HB.out.cell (World.block_lt_of_cell? w _ hx348_0)).trans hx348_0; replace hx348_1 := (HB.out.cell (World.block_lt_of_cell? w _ hx348_1)).trans hx348_1; replace hx348_2 := (HB.out.cell (World.block_lt_of_cell? w _ hx348_2)).trans hx348_2; replace hx348_3 := (HB.out.cell (World.block_lt_of_cell? w _ hx348_3)).trans hx348_3; replace p348 := eq_true p348; replace q348 := eq_true q348) | ((with_reducible refine gate_builtin (b := .append) (xs := #[.tmp 30, .tmp 35]) rfl ?_); at_builtin; refine Kd.R_append k36 (w0 := w) w.heap.size rfl (.tmp 30) (.tmp 35) 22 36 (.agg #[(.string ⟨#[]⟩), (.string ⟨#[]⟩), (.int .i64 0), (.int .i64 0)]) 48 rfl Tryz.underlying22 info36 rfl (by decide) (by omega) u7 x7_1 (⟨(rd_T36 l0 x8_1).f0, (rd_T36 l0 x8_1).f1, (rd_T36 l0 x8_1).f2, (rd_T36 l0 x8_1).f3⟩ : S36) [.string ((rd_T36 l0 x8_1).f0), .string ((rd_T36 l0 x8_1).f1), .int .i64 ((rd_T36 l0 x8_1).f2), .int .i64 ((rd_T36 l0 x8_1).f3)] (fun _ => True) (fun _ => False) rfl rfl ?aP (fun _ hk => hk.elim) ?aF ?aO ?aB ?aS ?aL ?_; (case aP => exact k36_mkM _ _ _ (⟨(rd_T36 l0 x8_1).f0, (rd_T36 l0 x8_1).f1, (rd_T36 l0 x8_1).f2, (rd_T36 l0 x8_1).f3⟩ : S36)); (case aB => exact (by repeat (first | (with_reducible first | exact HB.out | apply below_alloc | apply pw_below_drewN | apply below_drew1) | exact HB.out))); (case aF => exact (fun _ _ => trivial)); (case aO => exact (by (with_reducible repeat (first | apply Kd.R_alloc | apply Kd.R_drewN | apply Kd.R_drew)); exact HO_7.out)); (case aS => exact (below_size (by repeat (first | (with_reducible first | exact HB.out | apply below_alloc | apply pw_below_drewN | apply below_drew1) | exact HB.out)))); (case aL => have := LMc13.out; omega); intro v350 w15 ho hb hg hat; rw [← Ny349.out] at ho; have n0_ := Aside0.mk (hb); have n1_ := Aside0.mk (ho); clear HB; clear HO_7; have HB := n0_; have HO351 := n1_; clear n0_ n1_; clear ho hb hg hat))
         go_roundg k1
         case measure => have := HK1.out; omega
         case rel => exact ⟨(y349), (wrap64 (x8_1 + 1)), (by first | rfl | (simp; done) | (simp [*]; done)), H', ⟨by have := HK1.out; omega⟩, ⟨by (with_reducible repeat (first | apply Kd.R_alloc | apply Kd.R_drewN | apply Kd.R_drew)); exact HO351.out⟩, ⟨by repeat (first | (with_reducible first | exact HB.out | apply below_alloc | apply pw_below_drewN | apply below_drew1) | exact HB.out)⟩⟩
        ·rw [if_neg c13] at H
         exact absurd H (by simp)
       ·replace c12 := Bool.eq_false_iff.mpr c12
        subst c12
        have H1 : (copseref15_View.l0 k1 l0 l1 x7_1 (wrap64 (x8_1 + 1))) = some (r1, r2) := by rw [if_neg (show ¬ (false = true) by decide)] at H; exact H
        clear H
        have H := H1
        clear H1
        have H' := Aside0.mk H
        clear H
        have p346 : 0 ≤ (x8_1 : Int) := of_decide_eq_true (by first | (with_reducible assumption) | assumption)
        have q346 : x8_1 < (l0.length : Int) := of_decide_eq_true (by first | (with_reducible assumption) | assumption)
        obtain ⟨ad346, e346, hx346_0, hx346_1, hx346_2, hx346_3⟩ := at_T36 HR0.out x8_1 p346 q346
        cases e346
        replace hx346_0 := (HB.out.cell (World.block_lt_of_cell? w _ hx346_0)).trans hx346_0
        replace hx346_1 := (HB.out.cell (World.block_lt_of_cell? w _ hx346_1)).trans hx346_1
        replace hx346_2 := (HB.out.cell (World.block_lt_of_cell? w _ hx346_2)).trans hx346_2
        replace hx346_3 := (HB.out.cell (World.block_lt_of_cell? w _ hx346_3)).trans hx346_3
        replace p346 := eq_true p346
        replace q346 := eq_true q346
        go_wp2_with (first | ((with_reducible refine gate_callee (f := 25) rfl ?_); refine goesL_ (some 29) rfl rfl Tryz.func25 (by kernel_rfl) rfl #[.slice A1 l1.length c1, .string ((rd_T36 l0 x8_1).f0)] rfl (by (try simp only [List.map_toArray, List.map_cons, List.map_nil]); first | done | rfl | (simp only [List.length_drop, List.length_take]; rfl)) ?_; (with_reducible refine (copseref15_Shows.calls k1 _ _ l1 ((rd_T36 l0 x8_1).f0) false _ ?side1 ?side2 A11.out).mono ?_); (case side1 => repeat (first | exact (Kd.C_below HR1.out HB.out) | (with_reducible refine Kd.C_alloc ?_ _) | (with_reducible refine Kd.C_drewN ?_ _) | (with_reducible refine Kd.C_drew ?_))); (case side2 => exact HC1.out); rintro e w16 ⟨rfl, hb⟩; refine ⟨_, rfl, ?_⟩; have n0_ := Aside0.mk (Kd.R_below (by (with_reducible repeat (first | apply Kd.R_alloc | apply Kd.R_drewN | apply Kd.R_drew)); exact HO_7.out) hb); have n1_ := Aside0.mk (below_step (by repeat (first | (with_reducible first | exact HB.out | apply below_alloc | apply pw_below_drewN | apply below_drew1) | exact HB.out)) hb); clear HO_7; clear HB; have HO_7 := n0_; have HB := n1_; clear n0_ n1_; (try clear hb); (try clear hb2); (try clear hk); (try clear hi)))
        go_roundg k1
        case measure => have := HK1.out; omega
        case rel => exact ⟨(x7_1), (wrap64 (x8_1 + 1)), (by first | rfl | (simp; done) | (simp [*]; done)), H', ⟨by have := HK1.out; omega⟩, ⟨by (with_reducible repeat (first | apply Kd.R_alloc | apply Kd.R_drewN | apply Kd.R_drew)); exact HO_7.out⟩, ⟨by repeat (first | (with_reducible first | exact HB.out | apply below_alloc | apply pw_below_drewN | apply below_drew1) | exact HB.out)⟩⟩
      ·rw [if_neg c10] at H
       exact absurd H (by simp)
     ·rw [if_neg c9] at H
      have c9b0 := decide_eq_false c9
      clear c9
      simp only [Option.some.injEq, Prod.mk.injEq] at H
      obtain ⟨rfl, rfl⟩ := H
      go_wp2
      go_ret2
      exact ⟨_, by first | rfl | (simp [errW_none, errW_some] <;> rfl) | (simp [*, errW_none, errW_some] <;> rfl), by (with_reducible repeat (first | apply Kd.R_alloc | apply Kd.R_drewN | apply Kd.R_drew)); exact HO_7.out, by repeat (first | (with_reducible first | exact HB.out | apply below_alloc | apply pw_below_drewN | apply below_drew1) | exact HB.out)⟩
  ·rw [if_neg c6] at H
   have c6b0 : (t345 == 0) = false := beq_eq_false_iff_ne.mpr c6
   have c6b1 : (t345 != 0) = true := bne_iff_ne.mpr c6
   simp only [Option.some.injEq, Prod.mk.injEq] at H
   obtain ⟨rfl, rfl⟩ := H
   go_enter Tryz.func10, Tryz.ntmps10
   go_wp2_with (first | ((with_reducible refine gate_callee (f := 23) rfl ?_); refine goesL_ (some 10) rfl rfl Tryz.func23 (by kernel_rfl) rfl #[.slice A0 l0.length c0] rfl (by (try simp only [List.map_toArray, List.map_cons, List.map_nil]); first | done | rfl | (simp only [List.length_drop, List.length_take]; rfl)) ?_; (with_reducible refine (copseref13_Snap.calls k _ _ l0 t344 _ ?side1 ?side2 A3.out).mono ?_); (case side1 => repeat (first | exact HR0.out | (with_reducible refine Kd.C_alloc ?_ _) | (with_reducible refine Kd.C_drewN ?_ _) | (with_reducible refine Kd.C_drew ?_))); (case side2 => exact HC0.out); rintro e w17 ⟨rfl, hb⟩; refine ⟨_, rfl, ?_⟩; have n0_ := Aside0.mk (below_step (by repeat (first | (with_reducible first | exact HB.out | apply below_alloc | apply pw_below_drewN | apply below_drew1) | exact HB.out)) hb); clear HB; have HB := n0_; clear n0_; (try clear hb); (try clear hb2); (try clear hk); (try clear hi)) | ((with_reducible refine gate_callee (f := 24) rfl ?_); refine goesL_ (some 15) rfl rfl Tryz.func24 (by kernel_rfl) rfl #[.slice A1 l1.length c1] rfl (by (try simp only [List.map_toArray, List.map_cons, List.map_nil]); first | done | rfl | (simp only [List.length_drop, List.length_take]; rfl)) ?_; (with_reducible refine (copseref15_Valid.calls k _ _ l1 t345 _ ?side1 ?side2 A5.out).mono ?_); (case side1 => repeat (first | exact (Kd.C_below HR1.out HB.out) | (with_reducible refine Kd.C_alloc ?_ _) | (with_reducible refine Kd.C_drewN ?_ _) | (with_reducible refine Kd.C_drew ?_))); (case side2 => exact HC1.out); rintro e w18 ⟨rfl, hb⟩; refine ⟨_, rfl, ?_⟩; have n0_ := Aside0.mk (below_step (by repeat (first | (with_reducible first | exact HB.out | apply below_alloc | apply pw_below_drewN | apply below_drew1) | exact HB.out)) hb); clear HB; have HB := n0_; clear n0_; (try clear hb); (try clear hb2); (try clear hk); (try clear hi)))
   go_ret2
   exact ⟨_, by first | rfl | (simp [errW_none, errW_some] <;> rfl) | (simp [*, errW_none, errW_some] <;> rfl), by first | exact Kd.R_nil _ _ _ _ _ | exact Kd.N_nil _ _ _ _ _ | exact Kd.V_nil _ _ _ _ _ | exact Kd.Q_nil _ _ _ _ _ | exact Kd.S_nil _ _ _ _ _, by repeat (first | (with_reducible first | exact HB.out | apply below_alloc | apply pw_below_drewN | apply below_drew1) | exact HB.out)⟩
 ·rw [if_neg c4] at H
  have c4b0 : (t344 == 0) = false := beq_eq_false_iff_ne.mpr c4
  have c4b1 : (t344 != 0) = true := bne_iff_ne.mpr c4
  simp only [Option.some.injEq, Prod.mk.injEq] at H
  obtain ⟨rfl, rfl⟩ := H
  go_enter Tryz.func10, Tryz.ntmps10
  go_wp2_with (first | ((with_reducible refine gate_callee (f := 23) rfl ?_); refine goesL_ (some 10) rfl rfl Tryz.func23 (by kernel_rfl) rfl #[.slice A0 l0.length c0] rfl (by (try simp only [List.map_toArray, List.map_cons, List.map_nil]); first | done | rfl | (simp only [List.length_drop, List.length_take]; rfl)) ?_; (with_reducible refine (copseref13_Snap.calls k _ _ l0 t344 _ ?side1 ?side2 A3.out).mono ?_); (case side1 => repeat (first | exact HR0.out | (with_reducible refine Kd.C_alloc ?_ _) | (with_reducible refine Kd.C_drewN ?_ _) | (with_reducible refine Kd.C_drew ?_))); (case side2 => exact HC0.out); rintro e w19 ⟨rfl, hb⟩; refine ⟨_, rfl, ?_⟩; have n0_ := Aside0.mk (below_step (by repeat (first | (with_reducible first | exact HB.out | apply below_alloc | apply pw_below_drewN | apply below_drew1) | exact HB.out)) hb); clear HB; have HB := n0_; clear n0_; (try clear hb); (try clear hb2); (try clear hk); (try clear hi)))
  go_ret2
  exact ⟨_, by first | rfl | (simp [errW_none, errW_some] <;> rfl) | (simp [*, errW_none, errW_some] <;> rfl), by first | exact Kd.R_nil _ _ _ _ _ | exact Kd.N_nil _ _ _ _ _ | exact Kd.V_nil _ _ _ _ _ | exact Kd.Q_nil _ _ _ _ _ | exact Kd.S_nil _ _ _ _ _, by repeat (first | (with_reducible first | exact HB.out | apply below_alloc | apply pw_below_drewN | apply below_drew1) | exact HB.out)⟩
def copselaw15_files.l0 : Nat → List (S36) → List (S36) → Int → Option (Bool)
 | 0, _, _, _ => none
 | k + 1, x0, x1, x5 => if x5 < (x0.length : Int) then (if 0 ≤ x5 then (if x5 < (x1.length : Int) then (if (!((((rd_T36 x0 x5).f0).toList) == (((rd_T36 x1 x5).f0).toList)) || (!((((rd_T36 x0 x5).f1).toList) == (((rd_T36 x1 x5).f1).toList)) || (!(((rd_T36 x0 x5).f2) == ((rd_T36 x1 x5).f2)) || (!(((rd_T36 x0 x5).f3) == ((rd_T36 x1 x5).f3)))))) = true then (some false) else (copselaw15_files.l0 k x0 x1 (wrap64 (x5 + 1)))) else (none)) else (none)) else (some true)
def copselaw15_files.f (k : Nat) (l0 : List (S36)) (l1 : List (S36)) : Option (Bool) := if (l0.length : Int) = (l1.length : Int) then (copselaw15_files.l0 k l0 l1 0) else (some false)
set_option maxHeartbeats 8000000 in
set_option maxRecDepth 100000 in
theorem copselaw15_files.calls (k : Nat) (A0 : Option Addr) (c0 : Nat) (l0 : List (S36)) (A1 : Option Addr) (c1 : Nat) (l1 : List (S36)) (r : Bool) (w : World) (hr0 : Kd.C k36 w A0 l0.length l0) (hc0 : l0.length ≤ c0) (hr1 : Kd.C k36 w A1 l1.length l1) (hc1 : l1.length ≤ c1) (h : copselaw15_files.f k l0 l1 = some r) :
  Calls Tryz.prog 11 #[.slice A0 l0.length c0, .slice A1 l1.length c1] w fun e w' => e = .returned (.bool r) ∧ Drawn0 w w' := by
 have hu36 := Tryz.underlying36
 have HR0 := Aside0.mk hr0
 have HC0 := Aside0.mk hc0
 clear hr0 hc0
 have HR1 := Aside0.mk hr1
 have HC1 := Aside0.mk hc1
 clear hr1 hc1
 have H : (if (l0.length : Int) = (l1.length : Int) then (copselaw15_files.l0 k l0 l1 0) else (some false)) = some r := h
 clear h
 by_cases c3 : (l0.length : Int) = (l1.length : Int)
 ·rw [if_pos c3] at H
  have c3b0 : ((l0.length : Int) == (l1.length : Int)) = true := beq_iff_eq.mpr c3
  have c3b1 : ((l0.length : Int) != (l1.length : Int)) = false := bne_eq_false_iff_eq.mpr c3
  have c3b2 : (l0.length == l1.length) = true := by first | simpa using c3 | (simp at c3 ⊢; omega)
  clear c3
  have H' := Aside0.mk H
  clear H
  go_enter Tryz.func11, Tryz.ntmps11
  go_wp2
  repeat (go_quiet (fail); try go_wp2)
  go_loopg [5] k (fun kq v5 w' => ∃ (x5_1 : Int), v5 = .int .i64 x5_1 ∧ Aside0 (copselaw15_files.l0 kq l0 l1 x5_1 = some r) ∧ Aside0 (kq ≤ k) ∧ Drawn0 w w')
  case atStart => exact ⟨(0), (by first | rfl | (simp; done) | (simp [*]; done)), H', ⟨Nat.le_refl _⟩, by repeat (first | exact Drawn0.refl _ | apply Drawn0.step)⟩
  case round =>
   clear H'
   try clear c1
   try clear p2
   try clear c3
   try clear c3b0
   try clear c3b1
   try clear c3b2
   obtain ⟨x5_1, rfl, HA, HK1, ⟨m1, rfl⟩⟩ := hrel
   cases gk with
   | zero => exact absurd HA.out (by simp [copselaw15_files.l0])
   | succ k1 =>
    have H := HA.out
    clear HA
    simp only [copselaw15_files.l0] at H
    by_cases c4 : x5_1 < (l0.length : Int)
    ·rw [if_pos c4] at H
     have c4b0 := decide_eq_true c4
     clear c4
     by_cases c5 : 0 ≤ x5_1
     ·rw [if_pos c5] at H
      have c5b0 := decide_eq_true c5
      clear c5
      by_cases c6 : x5_1 < (l1.length : Int)
      ·rw [if_pos c6] at H
       have c6b0 := decide_eq_true c6
       clear c6
       by_cases c7 : (!((((rd_T36 l0 x5_1).f0).toList) == (((rd_T36 l1 x5_1).f0).toList)) || (!((((rd_T36 l0 x5_1).f1).toList) == (((rd_T36 l1 x5_1).f1).toList)) || (!(((rd_T36 l0 x5_1).f2) == ((rd_T36 l1 x5_1).f2)) || (!(((rd_T36 l0 x5_1).f3) == ((rd_T36 l1 x5_1).f3)))))) = true
       ·rw [if_pos c7] at H
        have c7b0 : (!((((rd_T36 l0 x5_1).f0).toList) == (((rd_T36 l1 x5_1).f0).toList)) || (!((((rd_T36 l0 x5_1).f1).toList) == (((rd_T36 l1 x5_1).f1).toList)) || (!(((rd_T36 l0 x5_1).f2) == ((rd_T36 l1 x5_1).f2)) || (!(((rd_T36 l0 x5_1).f3) == ((rd_T36 l1 x5_1).f3)))))) = true := c7
        clear c7
        obtain rfl := Option.some.inj H
        have p352 : 0 ≤ (x5_1 : Int) := of_decide_eq_true (by first | (with_reducible assumption) | assumption)
        have q352 : x5_1 < (l0.length : Int) := of_decide_eq_true (by first | (with_reducible assumption) | assumption)
        obtain ⟨ad352, e352, hx352_0, hx352_1, hx352_2, hx352_3⟩ := at_T36 HR0.out x5_1 p352 q352
        cases e352
        replace p352 := eq_true p352
        replace q352 := eq_true q352
        have p353 : 0 ≤ (x5_1 : Int) := of_decide_eq_true (by first | (with_reducible assumption) | assumption)
        have q353 : x5_1 < (l1.length : Int) := of_decide_eq_true (by first | (with_reducible assumption) | assumption)
        obtain ⟨ad353, e353, hx353_0, hx353_1, hx353_2, hx353_3⟩ := at_T36 HR1.out x5_1 p353 q353
        cases e353
        replace p353 := eq_true p353
        replace q353 := eq_true q353
        go_wp2
        repeat (go_quiet (fail); try go_wp2)
        go_ret
        exact ⟨by first | rfl | (simp; done) | (simp [*]; done), by repeat (first | exact Drawn0.refl _ | apply Drawn0.step)⟩
       ·rw [if_neg c7] at H
        have c7b0 : (!((((rd_T36 l0 x5_1).f0).toList) == (((rd_T36 l1 x5_1).f0).toList)) || (!((((rd_T36 l0 x5_1).f1).toList) == (((rd_T36 l1 x5_1).f1).toList)) || (!(((rd_T36 l0 x5_1).f2) == ((rd_T36 l1 x5_1).f2)) || (!(((rd_T36 l0 x5_1).f3) == ((rd_T36 l1 x5_1).f3)))))) = false := by simpa using c7
        clear c7
        have H' := Aside0.mk H
        clear H
        have p352 : 0 ≤ (x5_1 : Int) := of_decide_eq_true (by first | (with_reducible assumption) | assumption)
        have q352 : x5_1 < (l0.length : Int) := of_decide_eq_true (by first | (with_reducible assumption) | assumption)
        obtain ⟨ad352, e352, hx352_0, hx352_1, hx352_2, hx352_3⟩ := at_T36 HR0.out x5_1 p352 q352
        cases e352
        replace p352 := eq_true p352
        replace q352 := eq_true q352
        have p353 : 0 ≤ (x5_1 : Int) := of_decide_eq_true (by first | (with_reducible assumption) | assumption)
        have q353 : x5_1 < (l1.length : Int) := of_decide_eq_true (by first | (with_reducible assumption) | assumption)
        obtain ⟨ad353, e353, hx353_0, hx353_1, hx353_2, hx353_3⟩ := at_T36 HR1.out x5_1 p353 q353
        cases e353
        replace p353 := eq_true p353
        replace q353 := eq_true q353
        go_wp2
        repeat (go_quiet (fail); try go_wp2)
        go_roundg k1
        case measure => have := HK1.out; omega
        case rel => exact ⟨(wrap64 (x5_1 + 1)), (by first | rfl | (simp; done) | (simp [*]; done)), H', ⟨by have := HK1.out; omega⟩, by repeat (first | exact Drawn0.refl _ | apply Drawn0.step)⟩
      ·rw [if_neg c6] at H
       exact absurd H (by simp)
     ·rw [if_neg c5] at H
      exact absurd H (by simp)
    ·rw [if_neg c4] at H
     have c4b0 := decide_eq_false c4
     clear c4
     obtain rfl := Option.some.inj H
     go_wp2
     repeat (go_quiet (fail); try go_wp2)
     go_ret
     exact ⟨by first | rfl | (simp; done) | (simp [*]; done), by repeat (first | exact Drawn0.refl _ | apply Drawn0.step)⟩
 ·rw [if_neg c3] at H
  have c3b0 : ((l0.length : Int) == (l1.length : Int)) = false := beq_eq_false_iff_ne.mpr c3
  have c3b1 : ((l0.length : Int) != (l1.length : Int)) = true := bne_iff_ne.mpr c3
  have c3b2 : (l0.length == l1.length) = false := by first | simpa using c3 | (simp at c3 ⊢; omega)
  obtain rfl := Option.some.inj H
  go_enter Tryz.func11, Tryz.ntmps11
  go_wp2
  repeat (go_quiet (fail); try go_wp2)
  go_ret
  exact ⟨by first | rfl | (simp; done) | (simp [*]; done), by repeat (first | exact Drawn0.refl _ | apply Drawn0.step)⟩
def copselaw15_full.l0 : Nat → List ByteArray → ByteArray → Int → Option (Bool)
 | 0, _, _, _ => none
 | k + 1, x0, x1, x5 => if x5 < (x0.length : Int) then (if 0 ≤ x5 then (if (rdOf ByteArray.empty x0 x5).toList = x1.toList then (copselaw15_full.l0 k x0 x1 (wrap64 (x5 + 1))) else (some false)) else (none)) else (some true)
def copselaw15_full.f (k : Nat) (l0 : List ByteArray) (a1 : ByteArray) : Option (Bool) := copselaw15_full.l0 k l0 a1 0
set_option maxHeartbeats 8000000 in
set_option maxRecDepth 100000 in
theorem copselaw15_full.calls (k : Nat) (A0 : Option Addr) (c0 : Nat) (l0 : List ByteArray) (a1 : ByteArray) (r : Bool) (w : World) (hr0 : Kd.C Kd.string w A0 l0.length l0) (hc0 : l0.length ≤ c0) (h : copselaw15_full.f k l0 a1 = some r) :
  Calls Tryz.prog 21 #[.slice A0 l0.length c0, .string a1] w fun e w' => e = .returned (.bool r) ∧ Drawn0 w w' := by
 have HR0 := Aside0.mk hr0
 have HC0 := Aside0.mk hc0
 clear hr0 hc0
 have H : (copselaw15_full.l0 k l0 a1 0) = some r := h
 clear h
 have H' := Aside0.mk H
 clear H
 go_enter Tryz.func21, Tryz.ntmps21
 go_wp2
 go_loopg [5] k (fun kq v5 w' => ∃ (x5_1 : Int), v5 = .int .i64 x5_1 ∧ Aside0 (copselaw15_full.l0 kq l0 a1 x5_1 = some r) ∧ Aside0 (kq ≤ k) ∧ Drawn0 w w')
 case atStart => exact ⟨(0), (by first | rfl | (simp; done) | (simp [*]; done)), H', ⟨Nat.le_refl _⟩, by repeat (first | exact Drawn0.refl _ | apply Drawn0.step)⟩
 case round =>
  clear H'
  try clear c2
  try clear p2
  obtain ⟨x5_1, rfl, HA, HK1, ⟨m1, rfl⟩⟩ := hrel
  cases gk with
  | zero => exact absurd HA.out (by simp [copselaw15_full.l0])
  | succ k1 =>
   have H := HA.out
   clear HA
   simp only [copselaw15_full.l0] at H
   by_cases c3 : x5_1 < (l0.length : Int)
   ·rw [if_pos c3] at H
    have c3b0 := decide_eq_true c3
    clear c3
    by_cases c4 : 0 ≤ x5_1
    ·rw [if_pos c4] at H
     have c4b0 := decide_eq_true c4
     clear c4
     by_cases c5 : (rdOf ByteArray.empty l0 x5_1).toList = a1.toList
     ·rw [if_pos c5] at H
      have c5b0 : ((rdOf ByteArray.empty l0 x5_1).toList == a1.toList) = true := beq_iff_eq.mpr c5
      have c5b1 : ((rdOf ByteArray.empty l0 x5_1).toList != a1.toList) = false := bne_eq_false_iff_eq.mpr c5
      clear c5
      have H' := Aside0.mk H
      clear H
      have p420 : 0 ≤ (x5_1 : Int) := of_decide_eq_true (by first | (with_reducible assumption) | assumption)
      have q420 : x5_1 < (l0.length : Int) := of_decide_eq_true (by first | (with_reducible assumption) | assumption)
      obtain ⟨ad420, e420, hx420_0⟩ := Kd.at_string HR0.out x5_1 p420 q420
      cases e420
      replace p420 := eq_true p420
      replace q420 := eq_true q420
      go_wp2
      go_roundg k1
      case measure => have := HK1.out; omega
      case rel => exact ⟨(wrap64 (x5_1 + 1)), (by first | rfl | (simp; done) | (simp [*]; done)), H', ⟨by have := HK1.out; omega⟩, by repeat (first | exact Drawn0.refl _ | apply Drawn0.step)⟩
     ·rw [if_neg c5] at H
      have c5b0 : ((rdOf ByteArray.empty l0 x5_1).toList == a1.toList) = false := beq_eq_false_iff_ne.mpr c5
      have c5b1 : ((rdOf ByteArray.empty l0 x5_1).toList != a1.toList) = true := bne_iff_ne.mpr c5
      obtain rfl := Option.some.inj H
      have p420 : 0 ≤ (x5_1 : Int) := of_decide_eq_true (by first | (with_reducible assumption) | assumption)
      have q420 : x5_1 < (l0.length : Int) := of_decide_eq_true (by first | (with_reducible assumption) | assumption)
      obtain ⟨ad420, e420, hx420_0⟩ := Kd.at_string HR0.out x5_1 p420 q420
      cases e420
      replace p420 := eq_true p420
      replace q420 := eq_true q420
      go_wp2
      go_ret
      exact ⟨by first | rfl | (simp; done) | (simp [*]; done), by repeat (first | exact Drawn0.refl _ | apply Drawn0.step)⟩
    ·rw [if_neg c4] at H
     exact absurd H (by simp)
   ·rw [if_neg c3] at H
    have c3b0 := decide_eq_false c3
    clear c3
    obtain rfl := Option.some.inj H
    go_wp2
    go_ret
    exact ⟨by first | rfl | (simp; done) | (simp [*]; done), by repeat (first | exact Drawn0.refl _ | apply Drawn0.step)⟩
end Go.Proofs.YtdfkaclflmgkeaaGreatDoor.PAll
namespace Go.Proofs.YtdfkaclflmgkeaaGreatDoor.PAll
open Go.RowKit Go.Proofs.YtdfkaclflmgkeaaGreatDoorW.PrintWords Go.Proofs.YtdfkaclflmgkeaaGreatDoorW.PrintLast Go.Proofs.YtdfkaclflmgkeaaGreatDoorW.PrintMore
open Go.Proofs.YtdfkaclflmgkeaaGreatDoor.Sp
theorem textsC_run (l : List ByteArray) (hl : l.length ≤ 4294967296) (d : Nat) : ∀ i, l.length - i = d → i ≤ l.length → Ev (fun k => copselaw15_texts.l0 k l l (i : Int)) true := by
 induction d with
 | zero =>
  intro i hd hi
  refine ⟨1, fun k hk => ?_⟩
  obtain ⟨k, rfl⟩ : ∃ m, k = m + 1 := ⟨k - 1, by omega⟩
  simp only [copselaw15_texts.l0]
  rw [if_neg (by omega)]
 | succ d ih =>
  intro i hd hi
  obtain ⟨K, hK⟩ := ih (i + 1) (by omega) (by omega)
  dsimp only at hK
  refine ⟨K + 1, fun k hk => ?_⟩
  obtain ⟨k, rfl⟩ : ∃ m, k = m + 1 := ⟨k - 1, by omega⟩
  simp only [copselaw15_texts.l0]
  rw [if_pos (by omega), if_pos (by omega), if_pos (by omega), if_true, wrap_succ (n := l.length) (by omega) (by omega)]
  exact hK k (by omega)
theorem textsC_same (l : List ByteArray) (hl : l.length ≤ 4294967296) : Ev (fun k => copselaw15_texts.f k l l) true := by
 refine Ev.congr (fun k => ?_) (textsC_run l hl l.length 0 (by omega) (by omega))
 unfold copselaw15_texts.f
 rw [if_pos rfl]; rfl
theorem fileNe_same (a : S36) : (!(a.f0.toList == a.f0.toList) || (!(a.f1.toList == a.f1.toList) || (!(a.f2 == a.f2) || (!(a.f3 == a.f3))))) = false := by simp
theorem filesC_same (x : List S36) (hx : x.length ≤ 4294967296) : Ev (fun k => copselaw15_files.f k x x) true := by
 have run : ∀ d i, x.length - i = d → i ≤ x.length → Ev (fun k => copselaw15_files.l0 k x x (i : Int)) true := by
  intro d
  induction d with
  | zero =>
   intro i hd hi
   refine ⟨1, fun k hk => ?_⟩
   obtain ⟨k, rfl⟩ : ∃ m, k = m + 1 := ⟨k - 1, by omega⟩
   simp only [copselaw15_files.l0]
   rw [if_neg (by omega)]
  | succ d ih =>
   intro i hd hi
   obtain ⟨K, hK⟩ := ih (i + 1) (by omega) (by omega)
   dsimp only at hK
   refine ⟨K + 1, fun k hk => ?_⟩
   obtain ⟨k, rfl⟩ : ∃ m, k = m + 1 := ⟨k - 1, by omega⟩
   simp only [copselaw15_files.l0]
   rw [if_pos (by omega), if_pos (by omega), if_pos (by omega), fileNe_same, if_neg (by simp), wrap_succ (n := x.length) (by omega) (by omega)]
   exact hK k (by omega)
 refine Ev.congr (fun k => ?_) (run x.length 0 (by omega) (by omega))
 unfold copselaw15_files.f
 rw [if_pos rfl]; rfl
end Go.Proofs.YtdfkaclflmgkeaaGreatDoor.PAll
namespace Go.Proofs.YtdfkaclflmgkeaaGreatDoor.PAll
open Go.RowKit Go.Proofs.YtdfkaclflmgkeaaGreatDoorW.PrintWords Go.Proofs.YtdfkaclflmgkeaaGreatDoorW.PrintLast Go.Proofs.YtdfkaclflmgkeaaGreatDoorW.PrintMore
open Go.Proofs.YtdfkaclflmgkeaaGreatDoor.Sp
def copselaw15_apart.f (l m : List (List ByteArray)) : Option Bool := if l = m ∧ l.length = 2 ∧ (∀ x ∈ l, x.length ≤ 4294967000) then some true else none
theorem full_run (m : ByteArray) (l : List ByteArray) (hl : l.length ≤ 4294967296) (hm : ∀ x ∈ l, x = m) (d : Nat) : ∀ i, l.length - i = d → i ≤ l.length → Ev (fun k => copselaw15_full.l0 k l m (i : Int)) true := by
 induction d with
 | zero =>
  intro i hd hi
  refine ⟨1, fun k hk => ?_⟩
  obtain ⟨k, rfl⟩ : ∃ m, k = m + 1 := ⟨k - 1, by omega⟩
  simp only [copselaw15_full.l0]
  rw [if_neg (by omega)]
 | succ d ih =>
  intro i hd hi
  obtain ⟨K, hK⟩ := ih (i + 1) (by omega) (by omega)
  dsimp only at hK
  have hx : rdOf ByteArray.empty l (i : Int) = m := hm _ (by
   have e : rdOf ByteArray.empty l (i : Int) = l[i]'(by omega) := by simp [rdOf, List.getD_eq_getElem?_getD, List.getElem?_eq_getElem (show i < l.length by omega)]
   rw [e]; exact List.getElem_mem _)
  refine ⟨K + 1, fun k hk => ?_⟩
  obtain ⟨k, rfl⟩ : ∃ m, k = m + 1 := ⟨k - 1, by omega⟩
  simp only [copselaw15_full.l0]
  rw [if_pos (by omega), if_pos (by omega), if_pos (by rw [hx]), wrap_succ (n := l.length) (by omega) (by omega)]
  exact hK k (by omega)
theorem full_ev (m : ByteArray) (l : List ByteArray) (hl : l.length ≤ 4294967296) (hm : ∀ x ∈ l, x = m) : ∃ k, copselaw15_full.f k l m = some true := Ev.rounds (full_run m l hl hm l.length 0 (by omega) (by omega))
def markT (n : Nat) : ByteArray := Sp.mk (List.replicate (n + 1) 33)
theorem markT_succ (n : Nat) : markT n ++ ⟨#[33]⟩ = markT (n + 1) := by
 apply bs_inj
 unfold markT
 rw [bs_mk]
 show (Sp.mk (List.replicate (n + 1) 33) ++ (⟨#[33]⟩ : ByteArray)).data.toList = _
 rw [ByteArray.data_append, Array.toList_append]
 show List.replicate (n + 1) 33 ++ [33] = _
 rw [List.replicate_succ' (n := n + 1)]
theorem markT_size (n : Nat) : (markT n).size = n + 1 := by rw [← bs_size]; unfold markT; rw [bs_mk]; simp
theorem mark_at (n : Nat) (hn : n ≤ 1000) (w : World) : Calls Tryz.prog 20 #[.int .i64 (n : Int)] w fun e w' => e = .returned (.string (markT n)) ∧ w' = w := by
 go_enter Tryz.func20, Tryz.ntmps20
 go_wp2
 go_loopg [3, 4] n (fun gg s3 s4 wr => ∃ i : Nat, i ≤ n ∧ n - i ≤ gg ∧ s4 = .int .i64 i ∧ s3 = .string (markT i) ∧ wr = w)
 case atStart => exact ⟨0, by omega, by omega, rfl, rfl, rfl⟩
 case round =>
  obtain ⟨i, hi, hg, rfl, rfl, rfl⟩ := hrel
  by_cases hlt : i < n
  ·have hltz : (i : Int) < (n : Int) := by omega
   have hsz := markT_size i
   go_wp2
   go_roundg (n - (i + 1))
   case measure => omega
   case rel => exact ⟨i + 1, by omega, by omega, by go_num, by rw [← markT_succ], rfl⟩
  ·have hltz : ¬ (i : Int) < (n : Int) := by omega
   obtain rfl : i = n := by omega
   go_wp2
   go_ret
   exact ⟨rfl, rfl⟩
theorem OS.C_ {e : TypeId} {w : World} {A : Option Addr} {n c : Nat} {xs : List ByteArray} (h : OS e w (.slice A n c) xs) (_hn : n = xs.length) : Kd.C Kd.string w A xs.length xs ∧ xs.length ≤ c := by
 obtain ⟨A', c', he, hl, hr⟩ := h.reads
 injection he with h1 h2 h3
 subst h1; subst h3
 exact ⟨hr, hl⟩
theorem infoSS : (Tryz.prog.info? 23).map (fun i => (i.zero, i.size, i.bytes)) = some (some (.slice none 0 0), 1, 24) := by kernel_rfl
def ApSt (ts te : TypeId) (w wr : World) (v2 : Value) (n1 n2 i : Nat) (s5 : Value) : Prop :=
 (i = 0 ∧ s5 = .slice none 0 0) ∨
 (i = 1 ∧ ∃ (G1 : Value) (z1 : List ByteArray), Aside0 (z1.length = n1 + 40 ∧ ∀ x ∈ z1, x = ⟨#[33]⟩) ∧ Aside0 (OS te wr G1 z1) ∧ Aside0 (∀ k, G1.ownBlock = some k → v2.ownBlock ≠ some k) ∧ Aside0 (wr.ownsRow w.heap.size ts 1 s5 1 [G1])) ∨
 (i = 2 ∧ ∃ (G1 : Value) (z1 : List ByteArray) (G2 : Value) (z2 : List ByteArray), Aside0 (z1.length = n1 + 40 ∧ ∀ x ∈ z1, x = ⟨#[33]⟩) ∧ Aside0 (z2.length = n2 + 40 ∧ ∀ x ∈ z2, x = ⟨#[33, 33]⟩) ∧ Aside0 (OS te wr G1 z1) ∧ Aside0 (OS te wr G2 z2) ∧ Aside0 (wr.ownsRow w.heap.size ts 1 s5 2 [G1, G2]))
theorem ApSt.zero {ts te : TypeId} {w wr : World} {v2 : Value} {n1 n2 : Nat} {s5 : Value} (h : ApSt ts te w wr v2 n1 n2 0 s5) : s5 = .slice none 0 0 := by
 rcases h with ⟨_, h⟩ | ⟨h, _⟩ | ⟨h, _⟩
 ·exact h
 ·exact absurd h (by decide)
 ·exact absurd h (by decide)
theorem ApSt.one {ts te : TypeId} {w wr : World} {v2 : Value} {n1 n2 : Nat} {s5 : Value} (h : ApSt ts te w wr v2 n1 n2 1 s5) : ∃ (G1 : Value) (z1 : List ByteArray), Aside0 (z1.length = n1 + 40 ∧ ∀ x ∈ z1, x = ⟨#[33]⟩) ∧ Aside0 (OS te wr G1 z1) ∧ Aside0 (∀ k, G1.ownBlock = some k → v2.ownBlock ≠ some k) ∧ Aside0 (wr.ownsRow w.heap.size ts 1 s5 1 [G1]) := by
 rcases h with ⟨h, _⟩ | ⟨_, h⟩ | ⟨h, _⟩
 ·exact absurd h (by decide)
 ·exact h
 ·exact absurd h (by decide)
theorem ApSt.two {ts te : TypeId} {w wr : World} {v2 : Value} {n1 n2 : Nat} {s5 : Value} (h : ApSt ts te w wr v2 n1 n2 2 s5) : ∃ (G1 : Value) (z1 : List ByteArray) (G2 : Value) (z2 : List ByteArray), Aside0 (z1.length = n1 + 40 ∧ ∀ x ∈ z1, x = ⟨#[33]⟩) ∧ Aside0 (z2.length = n2 + 40 ∧ ∀ x ∈ z2, x = ⟨#[33, 33]⟩) ∧ Aside0 (OS te wr G1 z1) ∧ Aside0 (OS te wr G2 z2) ∧ Aside0 (wr.ownsRow w.heap.size ts 1 s5 2 [G1, G2]) := by
 rcases h with ⟨h, _⟩ | ⟨h, _⟩ | ⟨_, h⟩
 ·exact absurd h (by decide)
 ·exact absurd h (by decide)
 ·exact h
theorem mark_at0 (w : World) : Calls Tryz.prog 20 #[.int .i64 ((0 : Nat) : Int)] w fun e w' => e = .returned (.string ⟨#[33]⟩) ∧ w' = w := mark_at 0 (by omega) w
theorem mark_at1 (w : World) : Calls Tryz.prog 20 #[.int .i64 ((1 : Nat) : Int)] w fun e w' => e = .returned (.string ⟨#[33, 33]⟩) ∧ w' = w := mark_at 1 (by omega) w
theorem mark_q0 (w : World) : Calls Tryz.prog 20 #[.int .i64 ((0 : Nat) : Int)] w fun e w' => e = .returned (.string ⟨#[33]⟩) ∧ Drawn0 w w' := (mark_at0 w).mono fun _ _ ⟨he, hw⟩ => ⟨he, hw ▸ Drawn0.refl _⟩
theorem mark_q1 (w : World) : Calls Tryz.prog 20 #[.int .i64 ((1 : Nat) : Int)] w fun e w' => e = .returned (.string ⟨#[33, 33]⟩) ∧ Drawn0 w w' := (mark_at1 w).mono fun _ _ ⟨he, hw⟩ => ⟨he, hw ▸ Drawn0.refl _⟩
theorem cell_at {w : World} {g j : Nat} {cs : Array Value} {t : TypeId} {fr : Nat × Nat} {v : Value} (h : w.heap[g]? = some (.cells cs t fr)) (hj : cs[j]? = some v) : w.cell? ⟨g, j, none⟩ = some v := by simp [World.cell?, h, hj]
theorem OS.head {e : TypeId} {w : World} {A : Option Addr} {n c : Nat} {xs : List ByteArray} (h : OS e w (.slice A n c) xs) (h0 : 0 < xs.length) : n = xs.length ∧ ∃ g, A = some ⟨g, 0, none⟩ := by
 obtain ⟨g, cap, he, _⟩ := World.ownsRow.form h h0
 injection he with h1 h2 h3
 exact ⟨h2, g, h1⟩
theorem OS.at_ {e : TypeId} {w : World} {g n c : Nat} {xs : List ByteArray} (h : OS e w (.slice (some ⟨g, 0, none⟩) n c) xs) (j : Nat) (hj : j < xs.length) : w.cell? ⟨g, j, none⟩ = some (.string (xs.getD j ByteArray.empty)) ∧ w.frozen? ⟨g, j, none⟩ = false := by
 have hn : n = xs.length := (OS.head h (by omega)).1
 subst hn
 have := own_at_of (enc := Value.string) (d := ByteArray.empty) (xs := xs) (show w.ownsRow 0 e 1 (.slice (some ⟨g, 0, none⟩) xs.length c) xs.length (encs Value.string xs) from h) (j : Int) (by omega) (by omega)
 rw [Int.toNat_natCast] at this
 refine ⟨?_, this.2⟩
 rw [this.1]; simp [rdOf]
theorem quiet_add {P : Program} {f : FuncId} {args : Array Value} {w : World} {m n : Nat} {v : Value} (h : Calls P f args (w.drewN (m + n)) fun e w' => e = .returned v ∧ Drawn0 (w.drewN (m + n)) w') :
  Calls P f args (w.drewN (m + n)) fun e w'' => e = .returned v ∧ ∃ q, w'' = w.drewN (m + q) :=
 h.mono fun _ _ ⟨he, ⟨q, hq⟩⟩ => ⟨he, n + q, by rw [hq, World.drewN_drewN, Nat.add_assoc]⟩
set_option maxRecDepth 100000 in
set_option maxHeartbeats 4000000 in
theorem apart15 (w : World) (gl gw : Nat) (v1 v2 : Value) (x1 x2 : List ByteArray) (B1 B2 : Option Addr) (d1 d2 : Nat)
  (hl : w.heap[gl]? = some (.cells #[v1, v2] 23 (0, 0))) (hw : w.heap[gw]? = some (.cells #[.slice B1 x1.length d1, .slice B2 x2.length d2] 23 (0, 0)))
  (o1 : OS 9 w v1 x1) (o2 : OS 9 w v2 x2) (hd : ∀ k, v1.ownBlock = some k → v2.ownBlock ≠ some k)
  (c1 : Kd.C Kd.string w B1 x1.length x1) (e1 : x1.length ≤ d1) (c2 : Kd.C Kd.string w B2 x2.length x2) (e2 : x2.length ≤ d2) (h1 : x1.length ≤ 4294967000) (h2 : x2.length ≤ 4294967000) :
  Calls Tryz.prog 7 #[.slice (some ⟨gl, 0, none⟩) 2 2, .slice (some ⟨gw, 0, none⟩) 2 2] w fun e w' => e = .returned (.bool true) ∧ Bl (fun k => v1.ownBlock = some k ∨ v2.ownBlock = some k ∨ w.heap.size ≤ k) w w' := by
 obtain ⟨kt1, t1⟩ := Ev.rounds (textsC_same x1 (by omega))
 obtain ⟨kt2, t2⟩ := Ev.rounds (textsC_same x2 (by omega))
 obtain ⟨A1, n1, rfl, l1, r1⟩ := o1.reads
 obtain ⟨A2, n2, rfl, l2, r2⟩ := o2.reads
 have T1 := Aside0.mk t1
 have T2 := Aside0.mk t2
 have O1 := Aside0.mk o1
 have O2 := Aside0.mk o2
 have C1 := Aside0.mk c1
 have C2 := Aside0.mk c2
 have R1 := Aside0.mk r1
 have R2 := Aside0.mk r2
 have D := Aside0.mk hd
 generalize hPb : (fun k => (Value.slice A1 x1.length n1).ownBlock = some k ∨ (Value.slice A2 x2.length n2).ownBlock = some k ∨ w.heap.size ≤ k) = Pb
 have b1' : Aside0 (∀ k, (Value.slice A1 x1.length n1).ownBlock = some k → Pb k) := ⟨fun k hk => by rw [← hPb]; exact .inl hk⟩
 have b2' : Aside0 (∀ k, (Value.slice A2 x2.length n2).ownBlock = some k → Pb k) := ⟨fun k hk => by rw [← hPb]; exact .inr (.inl hk)⟩
 have hN : Aside0 (∀ k, w.heap.size ≤ k → Pb k) := ⟨fun k hk => by rw [← hPb]; exact .inr (.inr hk)⟩
 have HL := Aside0.mk hl
 have HW := Aside0.mk hw
 clear t1 t2 o1 o2 c1 c2 r1 r2 hd hl hw hPb
 have hgl : gl < w.heap.size := (Array.getElem?_eq_some_iff.1 HL.out).1
 have p0 := cell_at (j := 0) HL.out rfl
 have p1 := cell_at (j := 1) HL.out rfl
 have q0 := cell_at (j := 0) HW.out rfl
 have q1 := cell_at (j := 1) HW.out rfl
 go_enter Tryz.func7, Tryz.ntmps7
 go_wp2
 go_loopg [6] 2 (fun gg s6 wr => ∃ i : Nat, i ≤ 2 ∧ 2 - i ≤ gg ∧ s6 = .int .i64 i ∧ Drawn0 w wr)
 case atStart => exact ⟨0, by omega, by omega, rfl, Drawn0.refl _⟩
 case round =>
  obtain ⟨i, hi, hg, rfl, ⟨m, rfl⟩⟩ := hrel
  obtain rfl | rfl | rfl : i = 0 ∨ i = 1 ∨ i = 2 := by omega
  ·go_wp2
   go_quiet ((go_at_call 8; exact quiet_add (copselaw15_texts.calls kt1 _ _ x1 _ _ x1 true _ (Kd.C_drewN R1.out _) l1 (Kd.C_drewN C1.out _) e1 T1.out)))
   go_wp2
   go_roundg 1
   case measure => omega
   case rel => exact ⟨1, by omega, by omega, by go_num, ⟨_, rfl⟩⟩
  ·go_wp2
   go_quiet ((go_at_call 8; exact quiet_add (copselaw15_texts.calls kt2 _ _ x2 _ _ x2 true _ (Kd.C_drewN R2.out _) l2 (Kd.C_drewN C2.out _) e2 T2.out)))
   go_wp2
   go_roundg 0
   case measure => omega
   case rel => exact ⟨2, by omega, by omega, by go_num, ⟨_, rfl⟩⟩
  ·go_wp2
   go_loopg [7] 2 (fun gg s7 wr => ∃ (i : Nat) (y1 y2 : List ByteArray), i ≤ 2 ∧ 2 - i ≤ gg ∧ s7 = .int .i64 i ∧ Aside0 (y1.length = x1.length) ∧ Aside0 (y2.length = x2.length) ∧ Aside0 (OS 9 wr (.slice A1 x1.length n1) y1) ∧ Aside0 (OS 9 wr (.slice A2 x2.length n2) y2) ∧ Aside0 (1 ≤ i → ∀ x ∈ y1, x = ⟨#[33]⟩) ∧ Aside0 (2 ≤ i → ∀ x ∈ y2, x = ⟨#[33, 33]⟩) ∧ Aside0 (wr.heap[gl]? = some (.cells #[.slice A1 x1.length n1, .slice A2 x2.length n2] 23 (0, 0))) ∧ Aside0 (Bl Pb w wr))
   case atStart =>
    have hb := (Drawn0.mk ⟨m, rfl⟩ : Drawn0 w (w.drewN m)).below
    exact ⟨0, x1, x2, by omega, by omega, rfl, ⟨rfl⟩, ⟨rfl⟩, ⟨O1.out.below hb⟩, ⟨O2.out.below hb⟩, ⟨fun h => absurd h (by omega)⟩, ⟨fun h => absurd h (by omega)⟩, ⟨HL.out⟩, ⟨Bl.of_below hb⟩⟩
   case round =>
    obtain ⟨i, y1, y2, hi, hg, rfl, Y1, Y2, P1, P2, M1, M2, HL1, BW⟩ := hrel
    clear p0 p1 q0 q1 R1 R2 C1 C2 T1 T2
    have p0 := cell_at (j := 0) HL1.out rfl
    have p1 := cell_at (j := 1) HL1.out rfl
    obtain rfl | rfl | rfl : i = 0 ∨ i = 1 ∨ i = 2 := by omega
    ·go_wp2
     go_loopg [8] x1.length (fun gg s8 wz => ∃ (j : Nat) (y : List ByteArray), j ≤ x1.length ∧ x1.length - j ≤ gg ∧ s8 = .int .i64 j ∧ Aside0 (y.length = x1.length) ∧ Aside0 (OS 9 wz (.slice A1 x1.length n1) y) ∧ Aside0 (∀ q, q < j → y[q]? = some ⟨#[33]⟩) ∧ Aside0 (OS 9 wz (.slice A2 x2.length n2) y2) ∧ Aside0 (wz.heap[gl]? = some (.cells #[.slice A1 x1.length n1, .slice A2 x2.length n2] 23 (0, 0))) ∧ Aside0 (Bl Pb w wz))
     case atStart => exact ⟨0, y1, by omega, by omega, rfl, Y1, P1, ⟨fun q h => absurd h (by omega)⟩, P2, HL1, BW⟩
     case round =>
      obtain ⟨j, y, hj, hgj, rfl, Y, P, M, P2', HL2, BW2⟩ := hrel
      clear p0 p1 P1 P2 HL1 BW
      have p0 := cell_at (j := 0) HL2.out rfl
      by_cases hlt : j < x1.length
      ·have hltz : (j : Int) < (x1.length : Int) := by omega
       obtain ⟨g1, rfl⟩ := (P.out.head (by have := Y.out; omega)).2
       obtain ⟨hcj, hfj⟩ := P.out.at_ j (by have := Y.out; omega)
       go_wp2
       go_still_tail 8, (by kernel_rfl)
       still_call (mark_at0 _)
       repeat still_step
       refine wpStill_nil ?_
       change wpList _ _ _ _ _ wr.drew
       have PD := Aside0.mk (show OS 9 wr.drew (.slice (some ⟨g1, 0, none⟩) x1.length n1) y from P.out)
       have P2D := Aside0.mk (show OS 9 wr.drew (.slice A2 x2.length n2) y2 from P2'.out)
       have HLD := Aside0.mk (show wr.drew.heap[gl]? = some (.cells #[.slice (some ⟨g1, 0, none⟩) x1.length n1, .slice A2 x2.length n2] 23 (0, 0)) from HL2.out)
       have BD := Aside0.mk (BW2.out.drew)
       have hcd : wr.drew.cell? ⟨g1, j, none⟩ = some (.string (y.getD j ByteArray.empty)) := hcj
       have hfd : wr.drew.frozen? ⟨g1, j, none⟩ = false := hfj
       clear P P2' HL2 BW2 hcj hfj p0
       generalize wr.drew = w2 at PD P2D HLD BD hcd hfd ⊢
       go_wp2
       have hgl : g1 ≠ gl := by
        rintro rfl
        obtain ⟨cs, hcs⟩ := own_typed PD.out g1 rfl
        rw [HLD.out] at hcs
        injection hcs with hcs; injection hcs with _ hcs; exact absurd hcs (by decide)
       go_roundg (x1.length - (j + 1))
       case measure => omega
       case rel =>
        refine ⟨j + 1, y.set j ⟨#[33]⟩, by omega, by omega, by go_num, ⟨by rw [List.length_set]; exact Y.out⟩, ⟨PD.out.set Y.out.symm j _⟩, ⟨fun q hq => ?_⟩, ⟨P2D.out.far _ fun k hk => ?_⟩, ⟨?_⟩, ⟨?_⟩⟩
        ·by_cases e : q = j
         ·subst e; rw [List.getElem?_set_self (by have := Y.out; omega)]
         ·rw [List.getElem?_set_ne (by omega)]; exact M.out q (by omega)
        ·rintro rfl; exact D.out k rfl hk
        ·rw [Below.heap_setCell w2 ⟨g1, j, none⟩ _ gl (Ne.symm hgl)]; exact HLD.out
        ·exact BD.out.setCell (b1'.out g1 rfl) _
      ·have hltz : ¬ (j : Int) < (x1.length : Int) := by omega
       obtain rfl : j = x1.length := by omega
       go_wp2
       go_roundg 1
       case measure => omega
       case rel =>
        refine ⟨1, y, y2, by omega, by omega, by go_num, Y, Y2, P, P2', ⟨fun _ x hx => ?_⟩, ⟨fun h => absurd h (by omega)⟩, HL2, BW2⟩
        obtain ⟨q, hq, rfl⟩ := List.getElem_of_mem hx
        have := M.out q (by have := Y.out; omega)
        rw [List.getElem?_eq_getElem hq] at this
        exact Option.some.inj this
    ·go_wp2
     go_loopg [8] x2.length (fun gg s8 wz => ∃ (j : Nat) (y : List ByteArray), j ≤ x2.length ∧ x2.length - j ≤ gg ∧ s8 = .int .i64 j ∧ Aside0 (y.length = x2.length) ∧ Aside0 (OS 9 wz (.slice A2 x2.length n2) y) ∧ Aside0 (∀ q, q < j → y[q]? = some ⟨#[33, 33]⟩) ∧ Aside0 (OS 9 wz (.slice A1 x1.length n1) y1) ∧ Aside0 (wz.heap[gl]? = some (.cells #[.slice A1 x1.length n1, .slice A2 x2.length n2] 23 (0, 0))) ∧ Aside0 (Bl Pb w wz))
     case atStart => exact ⟨0, y2, by omega, by omega, rfl, Y2, P2, ⟨fun q h => absurd h (by omega)⟩, P1, HL1, BW⟩
     case round =>
      obtain ⟨j, y, hj, hgj, rfl, Y, P, M, P2', HL2, BW2⟩ := hrel
      clear p0 p1 P1 P2 HL1 BW
      have p0 := cell_at (j := 1) HL2.out rfl
      by_cases hlt : j < x2.length
      ·have hltz : (j : Int) < (x2.length : Int) := by omega
       obtain ⟨g1, rfl⟩ := (P.out.head (by have := Y.out; omega)).2
       obtain ⟨hcj, hfj⟩ := P.out.at_ j (by have := Y.out; omega)
       go_wp2
       go_still_tail 8, (by kernel_rfl)
       still_call (mark_at1 _)
       repeat still_step
       refine wpStill_nil ?_
       change wpList _ _ _ _ _ wr.drew
       have PD := Aside0.mk (show OS 9 wr.drew (.slice (some ⟨g1, 0, none⟩) x2.length n2) y from P.out)
       have P2D := Aside0.mk (show OS 9 wr.drew (.slice A1 x1.length n1) y1 from P2'.out)
       have HLD := Aside0.mk (show wr.drew.heap[gl]? = some (.cells #[.slice A1 x1.length n1, .slice (some ⟨g1, 0, none⟩) x2.length n2] 23 (0, 0)) from HL2.out)
       have BD := Aside0.mk (BW2.out.drew)
       have hcd : wr.drew.cell? ⟨g1, j, none⟩ = some (.string (y.getD j ByteArray.empty)) := hcj
       have hfd : wr.drew.frozen? ⟨g1, j, none⟩ = false := hfj
       clear P P2' HL2 BW2 hcj hfj p0
       generalize wr.drew = w2 at PD P2D HLD BD hcd hfd ⊢
       go_wp2
       have hgl : g1 ≠ gl := by
        rintro rfl
        obtain ⟨cs, hcs⟩ := own_typed PD.out g1 rfl
        rw [HLD.out] at hcs
        injection hcs with hcs; injection hcs with _ hcs; exact absurd hcs (by decide)
       go_roundg (x2.length - (j + 1))
       case measure => omega
       case rel =>
        refine ⟨j + 1, y.set j ⟨#[33, 33]⟩, by omega, by omega, by go_num, ⟨by rw [List.length_set]; exact Y.out⟩, ⟨PD.out.set Y.out.symm j _⟩, ⟨fun q hq => ?_⟩, ⟨P2D.out.far _ fun k hk => ?_⟩, ⟨?_⟩, ⟨?_⟩⟩
        ·by_cases e : q = j
         ·subst e; rw [List.getElem?_set_self (by have := Y.out; omega)]
         ·rw [List.getElem?_set_ne (by omega)]; exact M.out q (by omega)
        ·rintro rfl; exact D.out k hk rfl
        ·rw [Below.heap_setCell w2 ⟨g1, j, none⟩ _ gl (Ne.symm hgl)]; exact HLD.out
        ·exact BD.out.setCell (b2'.out g1 rfl) _
      ·have hltz : ¬ (j : Int) < (x2.length : Int) := by omega
       obtain rfl : j = x2.length := by omega
       go_wp2
       go_roundg 0
       case measure => omega
       case rel =>
        refine ⟨2, y1, y, by omega, by omega, by go_num, Y1, Y, P2', P, ⟨fun _ => M1.out (by omega)⟩, ⟨fun _ x hx => ?_⟩, HL2, BW2⟩
        obtain ⟨q, hq, rfl⟩ := List.getElem_of_mem hx
        have := M.out q (by have := Y.out; omega)
        rw [List.getElem?_eq_getElem hq] at this
        exact Option.some.inj this
    ·have hb0 := BW.out
     replace M1 := Aside0.mk (M1.out (by omega))
     replace M2 := Aside0.mk (M2.out (by omega))
     go_wp2
     go_loopg [5, 9] 2 (fun gg s5 s9 wr => ∃ i : Nat, i ≤ 2 ∧ 2 - i ≤ gg ∧ s9 = .int .i64 i ∧ Aside0 (OS 9 wr (.slice A1 x1.length n1) y1) ∧ Aside0 (OS 9 wr (.slice A2 x2.length n2) y2) ∧ Aside0 (wr.heap[gl]? = some (.cells #[.slice A1 x1.length n1, .slice A2 x2.length n2] 23 (0, 0))) ∧ Aside0 (Bl Pb w wr) ∧ ApSt 23 9 w wr (.slice A2 x2.length n2) x1.length x2.length i s5)
     case atStart => exact ⟨0, by omega, by omega, rfl, P1, P2, HL1, BW, .inl ⟨rfl, rfl⟩⟩
     case round =>
      obtain ⟨i, hi, hg, rfl, P1, P2, HL1, BW, ST⟩ := hrel
      clear p0 p1 hb0
      have p0 := cell_at (j := 0) HL1.out rfl
      have p1 := cell_at (j := 1) HL1.out rfl
      obtain rfl | rfl | rfl : i = 0 ∨ i = 1 ∨ i = 2 := by omega
      ·obtain rfl : u5 = .slice none 0 0 := ST.zero
       have MO : Aside0 (wr.ownsRow w.heap.size 23 1 (.slice none 0 0) 0 []) := ⟨World.ownsRow_nil _ _ _ _⟩
       go_wp2
       go_loopg [10, 11] 40 (fun gg s10 s11 wz => ∃ (j : Nat) (zs : List ByteArray), j ≤ 40 ∧ 40 - j ≤ gg ∧ s11 = .int .i64 j ∧ Aside0 (zs.length = x1.length + j ∧ ∀ x ∈ zs, x = ⟨#[33]⟩) ∧ Aside0 (OS 9 wz s10 zs) ∧ Aside0 (OS 9 wz (.slice A1 x1.length n1) y1) ∧ Aside0 (∀ k, s10.ownBlock = some k → Pb k) ∧ Aside0 (∀ p ∈ ([(.slice A2 x2.length n2, y2)] : List (Value × List ByteArray)), OS 9 wz p.1 p.2 ∧ ∀ k, p.1.ownBlock = some k → s10.ownBlock ≠ some k) ∧ Aside0 (wz.ownsRow w.heap.size 23 1 (.slice none 0 0) 0 []) ∧ Aside0 (wz.heap[gl]? = some (.cells #[.slice A1 x1.length n1, .slice A2 x2.length n2] 23 (0, 0))) ∧ Aside0 (Bl Pb w wz))
       case atStart => exact ⟨0, y1, by omega, by omega, rfl, ⟨⟨by have := Y1.out; omega, M1.out⟩⟩, P1, P1, b1', ⟨fun p hp => by rcases List.mem_singleton.1 hp with rfl; exact ⟨P2.out, fun k hk hk2 => D.out k hk2 hk⟩⟩, MO, HL1, BW⟩
       case round =>
        obtain ⟨j, zs, hj, hgj, rfl, ZS, OZ, OV, BZ, OO, MO2, HL2, BW2⟩ := hrel
        clear p0 p1 P1 P2 HL1 BW MO
        have hBz : ∀ k, wr.heap.size ≤ k → Pb k := fun k hk => hN.out k (Nat.le_trans BW2.out.size hk)
        by_cases hlt : j < 40
        ·have hltz : (j : Int) < 40 := by omega
         go_wp2_with (first | (go_at_call 20; refine (mark_at0 _).mono ?_; rintro e w' ⟨rfl, rfl⟩) | (at_builtin; refine app_alias (w0 := w) Pb rfl (.tmp 66) (.tmp 69) 23 9 rfl Tryz.underlying23 info9s u10 zs ⟨#[33]⟩ rfl rfl OZ.out BZ.out BW2.out hBz (by have := ZS.out.1; omega) ?_; intro v1 wn hO1 hB1 hW1 hg1 hat1 keep))
         go_roundg (40 - (j + 1))
         case measure => omega
         case rel =>
          have hgs : some gl ≠ u10.ownBlock := fun e => by
           obtain ⟨cs, hcs⟩ := own_typed OZ.out gl e.symm
           rw [HL2.out] at hcs
           injection hcs with hcs; injection hcs with _ hcs; exact absurd hcs (by decide)
          refine ⟨j + 1, zs ++ [⟨#[33]⟩], by omega, by omega, by go_num, ⟨⟨by rw [List.length_append, ZS.out.1]; simp; omega, fun x hx => ?_⟩⟩, ⟨hO1⟩, ⟨keep _ _ (fun k _ _ => by have := ZS.out.1; have := Y1.out; omega) OV.out⟩, ⟨hB1⟩, ⟨fun p hp => ⟨keep _ _ (fun k hk hk2 => absurd hk2 ((OO.out p hp).2 k hk)) (OO.out p hp).1, fun k hk hk2 => ?_⟩⟩, ⟨own_other MO2.out hg1 (own_type_ne MO2.out OZ.out (by decide))⟩, ⟨(hg1.block gl (Nat.lt_of_lt_of_le hgl BW2.out.size) hgs).trans HL2.out⟩, ⟨hW1⟩⟩
          ·rcases List.mem_append.1 hx with hx | hx
           ·exact ZS.out.2 x hx
           ·exact List.mem_singleton.1 hx
          ·rcases hat1 with hat1 | ⟨b, hb, hlb⟩
           ·exact (OO.out p hp).2 k hk (hat1.symm.trans hk2)
           ·have := own_lt (OO.out p hp).1 k hk
            rw [hb] at hk2
            injection hk2 with hk2
            omega
        ·have hltz : ¬ (j : Int) < 40 := by omega
         obtain rfl : j = 40 := by omega
         obtain ⟨AG, cG, rfl, _, _⟩ := OZ.out.reads
         go_wp2_with (at_builtin; refine print_append (w0 := wr) w.heap.size rfl (.tmp 71) (.tmp 73) 27 23 (.slice none 0 0) 24 rfl Tryz.underlying27 infoSS rfl (by decide) (.slice none 0 0) [] (.slice AG zs.length cG) rfl rfl rfl MO2.out (Below.refl _ _) BW2.out.size (by simp) ?_; intro v5 wn hown hbW hgW _)
         go_roundg 1
         case measure => omega
         case rel =>
          have keep2 : ∀ u ys, OS 9 wr u ys → OS 9 wn u ys := fun u ys hu => own_other hu hgW (own_type_ne hu MO2.out (by decide))
          exact ⟨1, by omega, by omega, by go_num, ⟨keep2 _ _ OV.out⟩, ⟨keep2 _ _ (OO.out _ List.mem_cons_self).1⟩, ⟨(hbW.block gl hgl).trans HL2.out⟩, ⟨BW2.out.trans (Bl.of_below' hbW hN.out)⟩, .inr (.inl ⟨rfl, _, zs, ⟨ZS.out⟩, ⟨keep2 _ _ OZ.out⟩, ⟨fun k hk hk2 => (OO.out _ List.mem_cons_self).2 k hk2 hk⟩, ⟨hown⟩⟩)⟩
      ·obtain ⟨G1, z1, ZG1, OG1, NG1, MO⟩ := ST.one
       go_wp2
       go_loopg [10, 11] 40 (fun gg s10 s11 wz => ∃ (j : Nat) (zs : List ByteArray), j ≤ 40 ∧ 40 - j ≤ gg ∧ s11 = .int .i64 j ∧ Aside0 (zs.length = x2.length + j ∧ ∀ x ∈ zs, x = ⟨#[33, 33]⟩) ∧ Aside0 (OS 9 wz s10 zs) ∧ Aside0 (OS 9 wz (.slice A2 x2.length n2) y2) ∧ Aside0 (∀ k, s10.ownBlock = some k → Pb k) ∧ Aside0 (∀ p ∈ ([(.slice A1 x1.length n1, y1), (G1, z1)] : List (Value × List ByteArray)), OS 9 wz p.1 p.2 ∧ ∀ k, p.1.ownBlock = some k → s10.ownBlock ≠ some k) ∧ Aside0 (wz.ownsRow w.heap.size 23 1 (u5) 1 [G1]) ∧ Aside0 (wz.heap[gl]? = some (.cells #[.slice A1 x1.length n1, .slice A2 x2.length n2] 23 (0, 0))) ∧ Aside0 (Bl Pb w wz))
       case atStart => exact ⟨0, y2, by omega, by omega, rfl, ⟨⟨by have := Y2.out; omega, M2.out⟩⟩, P2, P2, b2', ⟨fun p hp => by rcases List.mem_cons.1 hp with rfl | hp; exact ⟨P1.out, fun k hk hk2 => D.out k hk hk2⟩; rcases List.mem_singleton.1 hp with rfl; exact ⟨OG1.out, fun k hk hk2 => NG1.out k hk hk2⟩⟩, MO, HL1, BW⟩
       case round =>
        obtain ⟨j, zs, hj, hgj, rfl, ZS, OZ, OV, BZ, OO, MO2, HL2, BW2⟩ := hrel
        clear p0 p1 P1 P2 HL1 BW MO
        have hBz : ∀ k, wr.heap.size ≤ k → Pb k := fun k hk => hN.out k (Nat.le_trans BW2.out.size hk)
        by_cases hlt : j < 40
        ·have hltz : (j : Int) < 40 := by omega
         go_wp2_with (first | (go_at_call 20; refine (mark_at1 _).mono ?_; rintro e w' ⟨rfl, rfl⟩) | (at_builtin; refine app_alias (w0 := w) Pb rfl (.tmp 66) (.tmp 69) 23 9 rfl Tryz.underlying23 info9s u10 zs ⟨#[33, 33]⟩ rfl rfl OZ.out BZ.out BW2.out hBz (by have := ZS.out.1; omega) ?_; intro v1 wn hO1 hB1 hW1 hg1 hat1 keep))
         go_roundg (40 - (j + 1))
         case measure => omega
         case rel =>
          have hgs : some gl ≠ u10.ownBlock := fun e => by
           obtain ⟨cs, hcs⟩ := own_typed OZ.out gl e.symm
           rw [HL2.out] at hcs
           injection hcs with hcs; injection hcs with _ hcs; exact absurd hcs (by decide)
          refine ⟨j + 1, zs ++ [⟨#[33, 33]⟩], by omega, by omega, by go_num, ⟨⟨by rw [List.length_append, ZS.out.1]; simp; omega, fun x hx => ?_⟩⟩, ⟨hO1⟩, ⟨keep _ _ (fun k _ _ => by have := ZS.out.1; have := Y2.out; omega) OV.out⟩, ⟨hB1⟩, ⟨fun p hp => ⟨keep _ _ (fun k hk hk2 => absurd hk2 ((OO.out p hp).2 k hk)) (OO.out p hp).1, fun k hk hk2 => ?_⟩⟩, ⟨own_other MO2.out hg1 (own_type_ne MO2.out OZ.out (by decide))⟩, ⟨(hg1.block gl (Nat.lt_of_lt_of_le hgl BW2.out.size) hgs).trans HL2.out⟩, ⟨hW1⟩⟩
          ·rcases List.mem_append.1 hx with hx | hx
           ·exact ZS.out.2 x hx
           ·exact List.mem_singleton.1 hx
          ·rcases hat1 with hat1 | ⟨b, hb, hlb⟩
           ·exact (OO.out p hp).2 k hk (hat1.symm.trans hk2)
           ·have := own_lt (OO.out p hp).1 k hk
            rw [hb] at hk2
            injection hk2 with hk2
            omega
        ·have hltz : ¬ (j : Int) < 40 := by omega
         obtain rfl : j = 40 := by omega
         obtain ⟨AG, cG, rfl, _, _⟩ := OZ.out.reads
         go_wp2_with (at_builtin; refine print_append (w0 := wr) w.heap.size rfl (.tmp 71) (.tmp 73) 27 23 (.slice none 0 0) 24 rfl Tryz.underlying27 infoSS rfl (by decide) (u5) [G1] (.slice AG zs.length cG) rfl rfl rfl MO2.out (Below.refl _ _) BW2.out.size (by simp) ?_; intro v5 wn hown hbW hgW _)
         go_roundg 0
         case measure => omega
         case rel =>
          have keep2 : ∀ u ys, OS 9 wr u ys → OS 9 wn u ys := fun u ys hu => own_other hu hgW (own_type_ne hu MO2.out (by decide))
          exact ⟨2, by omega, by omega, by go_num, ⟨keep2 _ _ (OO.out _ List.mem_cons_self).1⟩, ⟨keep2 _ _ OV.out⟩, ⟨(hbW.block gl hgl).trans HL2.out⟩, ⟨BW2.out.trans (Bl.of_below' hbW hN.out)⟩, .inr (.inr ⟨rfl, G1, z1, _, zs, ⟨ZG1.out⟩, ⟨ZS.out⟩, ⟨keep2 _ _ (OO.out _ (List.mem_cons_of_mem _ List.mem_cons_self)).1⟩, ⟨keep2 _ _ OZ.out⟩, ⟨hown⟩⟩)⟩
      ·obtain ⟨G1, z1, G2, z2, Z1, Z2, Q1, Q2, MO⟩ := ST.two
       obtain ⟨kf0, f0⟩ := full_ev ⟨#[33]⟩ y1 (by have := Y1.out; omega) M1.out
       have F0 : Aside0 (∀ q, Calls Tryz.prog 21 #[.slice A1 x1.length n1, .string ⟨#[33]⟩] (wr.drewN q) fun e w' => e = .returned (.bool true) ∧ Drawn0 (wr.drewN q) w') := ⟨fun q => by
        have hc := OS.C_ P1.out Y1.out.symm
        rw [← Y1.out]
        exact copselaw15_full.calls kf0 _ _ y1 _ true _ (Kd.C_drewN hc.1 _) hc.2 f0⟩
       obtain ⟨kg0, g0⟩ := full_ev ⟨#[33]⟩ z1 (by have := Z1.out.1; omega) Z1.out.2
       obtain ⟨AG0, cG0, rfl, lG0, rG0⟩ := Q1.out.reads
       have H0 : Aside0 (∀ q, Calls Tryz.prog 21 #[.slice AG0 z1.length cG0, .string ⟨#[33]⟩] (wr.drewN q) fun e w' => e = .returned (.bool true) ∧ Drawn0 (wr.drewN q) w') := ⟨fun q => copselaw15_full.calls kg0 _ _ z1 _ true _ (Kd.C_drewN rG0 _) lG0 g0⟩
       obtain ⟨kf1, f1⟩ := full_ev ⟨#[33, 33]⟩ y2 (by have := Y2.out; omega) M2.out
       have F1 : Aside0 (∀ q, Calls Tryz.prog 21 #[.slice A2 x2.length n2, .string ⟨#[33, 33]⟩] (wr.drewN q) fun e w' => e = .returned (.bool true) ∧ Drawn0 (wr.drewN q) w') := ⟨fun q => by
        have hc := OS.C_ P2.out Y2.out.symm
        rw [← Y2.out]
        exact copselaw15_full.calls kf1 _ _ y2 _ true _ (Kd.C_drewN hc.1 _) hc.2 f1⟩
       obtain ⟨kg1, g1⟩ := full_ev ⟨#[33, 33]⟩ z2 (by have := Z2.out.1; omega) Z2.out.2
       obtain ⟨AG1, cG1, rfl, lG1, rG1⟩ := Q2.out.reads
       have H1 : Aside0 (∀ q, Calls Tryz.prog 21 #[.slice AG1 z2.length cG1, .string ⟨#[33, 33]⟩] (wr.drewN q) fun e w' => e = .returned (.bool true) ∧ Drawn0 (wr.drewN q) w') := ⟨fun q => copselaw15_full.calls kg1 _ _ z2 _ true _ (Kd.C_drewN rG1 _) lG1 g1⟩
       obtain ⟨gm, cm, rfl, _, _⟩ := World.ownsRow.form MO.out (by decide)
       have e0 : wr.cell? ⟨gm, 0, none⟩ = some (.slice AG0 z1.length cG0) := by have := MO.out.cells (g := gm) rfl 0 _ rfl; rwa [add_plain] at this
       have e1 : wr.cell? ⟨gm, 1, none⟩ = some (.slice AG1 z2.length cG1) := by have := MO.out.cells (g := gm) rfl 1 _ rfl; rwa [add_plain] at this
       clear rG0 rG1 f0 f1 g0 g1
       go_wp2
       obtain ⟨wo, hwo⟩ : ∃ wo : World, wo = wr := ⟨_, rfl⟩
       rw [← hwo] at e0 e1 p0 p1 BW F0 F1 H0 H1
       go_loopg [12] 2 (fun gg s12 wz => ∃ i : Nat, i ≤ 2 ∧ 2 - i ≤ gg ∧ s12 = .int .i64 i ∧ Drawn0 wo wz)
       case atStart => exact ⟨0, by omega, by omega, rfl, hwo ▸ Drawn0.refl _⟩
       case round =>
        clear hwo
        obtain ⟨i, hi, hg, rfl, ⟨mq, rfl⟩⟩ := hrel
        obtain rfl | rfl | rfl : i = 0 ∨ i = 1 ∨ i = 2 := by omega
        ·have p0' := p0
         have e0' := e0
         go_wp2
         go_quiet ((first | (go_at_call 20; exact quiet_add (mark_q0 _)) | (go_at_call 21; with_reducible exact quiet_add (F0.out _)) | (go_at_call 21; with_reducible exact quiet_add (H0.out _))))
         go_wp2
         go_roundg 1
         case measure => omega
         case rel => exact ⟨1, by omega, by omega, by go_num, ⟨_, rfl⟩⟩
        ·have p0' := p1
         have e0' := e1
         go_wp2
         go_quiet ((first | (go_at_call 20; exact quiet_add (mark_q1 _)) | (go_at_call 21; with_reducible exact quiet_add (F1.out _)) | (go_at_call 21; with_reducible exact quiet_add (H1.out _))))
         go_wp2
         go_roundg 0
         case measure => omega
         case rel => exact ⟨2, by omega, by omega, by go_num, ⟨_, rfl⟩⟩
        ·go_wp2
         go_ret
         exact ⟨rfl, BW.out.drewN _⟩
end Go.Proofs.YtdfkaclflmgkeaaGreatDoor.PAll
