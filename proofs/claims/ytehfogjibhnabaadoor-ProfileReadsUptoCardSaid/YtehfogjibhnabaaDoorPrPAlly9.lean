/- What functions of the program compute, each with its walk: a contract for every world and every argument of the kind told. -/
import Derived.Test.YtehfogjibhnabaaDoorPrPAllx0
import Derived.Test.YtehfogjibhnabaaDoorPrPAlly5
import Derived.Test.YtehfogjibhnabaaDoorPrPAlly8
namespace Go.Proofs.YtehfogjibhnabaaDoor.PAll
open Go.RowKit Go.Proofs.YtehfogjibhnabaaDoorW.PrintWords Go.Proofs.YtehfogjibhnabaaDoorW.PrintLast Go.Proofs.YtehfogjibhnabaaDoorW.PrintMore
attribute [local go_sem] max2_int min2_int max_two min_two max_three min_three max_four min_four
set_option linter.unusedVariables false
set_option linter.unusedSimpArgs false
def copseref17_Read.l0 : Nat → ByteArray → List ByteArray → List ByteArray → Int → Option (List ByteArray × Int)
 | 0, _, _, _, _ => none
 | k + 1, x0, x4, x5, x6 => if x6 < (x4.length : Int) then (if 0 ≤ x6 then (if ((rdOf ByteArray.empty x4 x6).size : Int) > 2 then (if 0 < ((rdOf ByteArray.empty x4 x6).size : Int) then (if (bt (rdOf ByteArray.empty x4 x6) 0) = 47 then (if 0 ≤ (wrap64 (((rdOf ByteArray.empty x4 x6).size : Int) - 1)) then (if (wrap64 (((rdOf ByteArray.empty x4 x6).size : Int) - 1)) < ((rdOf ByteArray.empty x4 x6).size : Int) then (if (bt (rdOf ByteArray.empty x4 x6) (wrap64 (((rdOf ByteArray.empty x4 x6).size : Int) - 1))) = 47 then (if (wrap64 (x6 + 1)) = (x4.length : Int) then (if 1 ≤ (wrap64 (((rdOf ByteArray.empty x4 x6).size : Int) - 1)) then (if (wrap64 (((rdOf ByteArray.empty x4 x6).size : Int) - 1)) ≤ ((rdOf ByteArray.empty x4 x6).size : Int) then (if x5.length < 8796093022208 then (copseref17_Read.l0 k x0 x4 (x5 ++ [(rdOf ByteArray.empty x4 x6).extract 1 ((wrap64 (((rdOf ByteArray.empty x4 x6).size : Int) - 1)) : Int).toNat]) (wrap64 (x6 + 1))) else (none)) else (none)) else (none)) else (if 0 ≤ (wrap64 (x6 + 1)) then (if (wrap64 (x6 + 1)) < (x4.length : Int) then (if 1 + (rdOf ByteArray.empty x4 x6).size ≤ 9223372036854775807 then (if ((⟨#[33]⟩ : ByteArray) ++ (rdOf ByteArray.empty x4 x6)).size + 2 ≤ 9223372036854775807 then (if (rdOf ByteArray.empty x4 (wrap64 (x6 + 1))).toList = (((⟨#[33]⟩ : ByteArray) ++ (rdOf ByteArray.empty x4 x6)) ++ (⟨#[42, 47]⟩ : ByteArray)).toList then (copseref17_Read.l0 k x0 x4 x5 (wrap64 (x6 + 1))) else (if 1 ≤ (wrap64 (((rdOf ByteArray.empty x4 x6).size : Int) - 1)) then (if (wrap64 (((rdOf ByteArray.empty x4 x6).size : Int) - 1)) ≤ ((rdOf ByteArray.empty x4 x6).size : Int) then (if x5.length < 8796093022208 then (copseref17_Read.l0 k x0 x4 (x5 ++ [(rdOf ByteArray.empty x4 x6).extract 1 ((wrap64 (((rdOf ByteArray.empty x4 x6).size : Int) - 1)) : Int).toNat]) (wrap64 (x6 + 1))) else (none)) else (none)) else (none))) else (none)) else (none)) else (none)) else (none))) else (copseref17_Read.l0 k x0 x4 x5 (wrap64 (x6 + 1)))) else (none)) else (none)) else (copseref17_Read.l0 k x0 x4 x5 (wrap64 (x6 + 1)))) else (none)) else (copseref17_Read.l0 k x0 x4 x5 (wrap64 (x6 + 1)))) else (none)) else (if x0.toList = ([47, 42, 10] : List UInt8) then ((some (([(⟨#[]⟩ : ByteArray)] : List ByteArray) : List ByteArray)).bind fun y274 => ((copseref17_Write.f k y274).bind fun bt277 => (if bt277.2 = 0 then (if bt277.1.toList = x0.toList then (some (y274, 0)) else (some (([] : List ByteArray), 18))) else (some (([] : List ByteArray), 18))))) else ((copseref17_Write.f k x5).bind fun bt279 => (if bt279.2 = 0 then (if bt279.1.toList = x0.toList then (some (x5, 0)) else (some (([] : List ByteArray), 18))) else (some (([] : List ByteArray), 18)))))
def copseref17_Read.f (k : Nat) (a0 : ByteArray) : Option (List ByteArray × Int) := if (a0.size : Int) > 65536 then (some (([] : List ByteArray), 18)) else ((copseref17_Lines.f k a0).bind fun t258 => (copseref17_Read.l0 k a0 t258 ([] : List ByteArray) 0))
set_option maxHeartbeats 8000000 in
set_option maxRecDepth 100000 in
theorem copseref17_Read.calls (k : Nat) (a0 : ByteArray) (r1 : List ByteArray) (r2 : Int) (w : World) (h : copseref17_Read.f k a0 = some (r1, r2)) :
  Calls Tryd.prog 15 #[.string a0] w fun e w' => ∃ v0_ : Value, e = .returned (.tuple #[v0_, .int .i64 r2]) ∧ Kd.R Kd.string 9 w' w.heap.size (fun _ => True) v0_ r1 ∧ Below w.heap.size w w' := by
 have HB := Aside0.mk (Below.refl w.heap.size w)
 have H : (if (a0.size : Int) > 65536 then (some (([] : List ByteArray), 18)) else ((copseref17_Lines.f k a0).bind fun t258 => (copseref17_Read.l0 k a0 t258 ([] : List ByteArray) 0))) = some (r1, r2) := h
 clear h
 by_cases c2 : (a0.size : Int) > 65536
 ·rw [if_pos c2] at H
  have c2b0 := decide_eq_true c2
  have c2b1 : decide (65536 < a0.size) = true := decide_eq_true (by omega)
  clear c2
  simp only [Option.some.injEq, Prod.mk.injEq] at H
  obtain ⟨rfl, rfl⟩ := H
  go_enter Tryd.func15, Tryd.ntmps15
  go_wp2
  repeat (go_quiet (fail); try go_wp2)
  go_ret2
  exact ⟨_, by first | rfl | (simp [errW_none, errW_some] <;> rfl) | (simp [*, errW_none, errW_some] <;> rfl), by first | exact Kd.R_nil _ _ _ _ _ | exact Kd.N_nil _ _ _ _ _ | exact Kd.V_nil _ _ _ _ _ | exact Kd.Q_nil _ _ _ _ _ | exact Kd.S_nil _ _ _ _ _, by repeat (first | (with_reducible first | exact HB.out | apply below_alloc | apply pw_below_drewN | apply below_drew1) | exact HB.out)⟩
 ·rw [if_neg c2] at H
  have c2b0 := decide_eq_false c2
  have c2b1 : decide (65536 < a0.size) = false := decide_eq_false (by omega)
  clear c2
  replace H := Option.bind_eq_some_iff.mp H
  obtain ⟨t258, A30, H⟩ := H
  replace H : (copseref17_Read.l0 k a0 t258 ([] : List ByteArray) 0) = some (r1, r2) := H
  have A3 := Aside0.mk A30
  clear A30
  have H' := Aside0.mk H
  clear H
  go_enter Tryd.func15, Tryd.ntmps15
  go_wp2_with (first | (go_at_call 40; (with_reducible refine (copseref17_Lines.calls k a0 t258 _ A3.out).mono ?_); rintro e w4 ⟨v259, rfl, ho0, hb⟩; have n0_ := Aside0.mk (Kd.R_lower ho0 (below_size (by repeat (first | (with_reducible first | exact HB.out | apply below_alloc | apply pw_below_drewN | apply below_drew1) | exact HB.out)))); have n1_ := Aside0.mk (below_step (by repeat (first | (with_reducible first | exact HB.out | apply below_alloc | apply pw_below_drewN | apply below_drew1) | exact HB.out)) hb); clear HB; have HO260 := n0_; have HB := n1_; clear n0_ n1_; (try clear hb); (try clear hb2); (try clear hk); (try clear hi); (try clear ho0)))
  repeat (go_quiet (first | (go_at_call 40; (with_reducible refine (copseref17_Lines.calls k a0 t258 _ A3.out).mono ?_); rintro e w4 ⟨v259, rfl, ho0, hb⟩; have n0_ := Aside0.mk (Kd.R_lower ho0 (below_size (by repeat (first | (with_reducible first | exact HB.out | apply below_alloc | apply pw_below_drewN | apply below_drew1) | exact HB.out)))); have n1_ := Aside0.mk (below_step (by repeat (first | (with_reducible first | exact HB.out | apply below_alloc | apply pw_below_drewN | apply below_drew1) | exact HB.out)) hb); clear HB; have HO260 := n0_; have HB := n1_; clear n0_ n1_; (try clear hb); (try clear hb2); (try clear hk); (try clear hi); (try clear ho0))); try go_wp2_with (first | (go_at_call 40; (with_reducible refine (copseref17_Lines.calls k a0 t258 _ A3.out).mono ?_); rintro e w4 ⟨v259, rfl, ho0, hb⟩; have n0_ := Aside0.mk (Kd.R_lower ho0 (below_size (by repeat (first | (with_reducible first | exact HB.out | apply below_alloc | apply pw_below_drewN | apply below_drew1) | exact HB.out)))); have n1_ := Aside0.mk (below_step (by repeat (first | (with_reducible first | exact HB.out | apply below_alloc | apply pw_below_drewN | apply below_drew1) | exact HB.out)) hb); clear HB; have HO260 := n0_; have HB := n1_; clear n0_ n1_; (try clear hb); (try clear hb2); (try clear hk); (try clear hi); (try clear ho0))))
  go_loopg [5, 6] k (fun kq v5 v6 w' => ∃ (x5_1 : List ByteArray) (x6_1 : Int), v6 = .int .i64 x6_1 ∧ Aside0 (copseref17_Read.l0 kq a0 t258 x5_1 x6_1 = some (r1, r2)) ∧ Aside0 (kq ≤ k) ∧ Aside0 (Kd.R Kd.string 9 w' w.heap.size (fun k_ => some k_ ≠ (v5 : Value).ownBlock) v259 t258) ∧ Aside0 (Kd.R Kd.string 9 w' w.heap.size (fun k_ => some k_ ≠ (v259 : Value).ownBlock) v5 x5_1) ∧ Aside0 (Below w.heap.size w w'))
  case atStart => exact ⟨(([] : List ByteArray)), (0), (by first | rfl | (simp; done) | (simp [*]; done)), H', ⟨Nat.le_refl _⟩, ⟨by (with_reducible repeat (first | apply Kd.R_alloc | apply Kd.R_drewN | apply Kd.R_drew)); exact Kd.R_mono HO260.out (fun _ hk => (by simp [Value.ownBlock]))⟩, ⟨by first | exact Kd.R_nil _ _ _ _ _ | exact Kd.N_nil _ _ _ _ _ | exact Kd.V_nil _ _ _ _ _ | exact Kd.Q_nil _ _ _ _ _ | exact Kd.S_nil _ _ _ _ _⟩, ⟨by repeat (first | (with_reducible first | exact HB.out | apply below_alloc | apply pw_below_drewN | apply below_drew1) | exact HB.out)⟩⟩
  case round =>
   clear H'
   try clear c1
   try clear c2
   try clear c2b0
   try clear c2b1
   try clear p2
   obtain ⟨x5_1, x6_1, rfl, HA, HK1, HO_4, HO_5, HB⟩ := hrel
   cases gk with
   | zero => exact absurd HA.out (by simp [copseref17_Read.l0])
   | succ k1 =>
    have H := HA.out
    clear HA
    simp only [copseref17_Read.l0] at H
    by_cases c5 : x6_1 < (t258.length : Int)
    ·rw [if_pos c5] at H
     have c5b0 := decide_eq_true c5
     clear c5
     by_cases c6 : 0 ≤ x6_1
     ·rw [if_pos c6] at H
      have c6b0 := decide_eq_true c6
      clear c6
      by_cases c7 : ((rdOf ByteArray.empty t258 x6_1).size : Int) > 2
      ·rw [if_pos c7] at H
       have c7b0 := decide_eq_true c7
       have c7b1 : decide (2 < (rdOf ByteArray.empty t258 x6_1).size) = true := decide_eq_true (by omega)
       clear c7
       by_cases c8 : 0 < ((rdOf ByteArray.empty t258 x6_1).size : Int)
       ·rw [if_pos c8] at H
        have c8b0 := decide_eq_true c8
        have c8b1 : decide (0 < (rdOf ByteArray.empty t258 x6_1).size) = true := decide_eq_true (by omega)
        clear c8
        by_cases c10 : (bt (rdOf ByteArray.empty t258 x6_1) 0) = 47
        ·rw [if_pos c10] at H
         have c10b0 : ((bt (rdOf ByteArray.empty t258 x6_1) 0) == 47) = true := beq_iff_eq.mpr c10
         have c10b1 : ((bt (rdOf ByteArray.empty t258 x6_1) 0) != 47) = false := bne_eq_false_iff_eq.mpr c10
         clear c10
         obtain ⟨ji11, hji11⟩ : ∃ j_ : Int, (wrap64 (((rdOf ByteArray.empty t258 x6_1).size : Int) - 1)) = j_ := ⟨_, rfl⟩
         replace H : (if 0 ≤ (ji11) then (if (ji11) < ((rdOf ByteArray.empty t258 x6_1).size : Int) then (if (bt (rdOf ByteArray.empty t258 x6_1) (ji11)) = 47 then (if (wrap64 (x6_1 + 1)) = (t258.length : Int) then (if 1 ≤ (ji11) then (if (ji11) ≤ ((rdOf ByteArray.empty t258 x6_1).size : Int) then (if x5_1.length < 8796093022208 then (copseref17_Read.l0 k1 a0 t258 (x5_1 ++ [(rdOf ByteArray.empty t258 x6_1).extract 1 ((ji11) : Int).toNat]) (wrap64 (x6_1 + 1))) else (none)) else (none)) else (none)) else (if 0 ≤ (wrap64 (x6_1 + 1)) then (if (wrap64 (x6_1 + 1)) < (t258.length : Int) then (if 1 + (rdOf ByteArray.empty t258 x6_1).size ≤ 9223372036854775807 then (if ((⟨#[33]⟩ : ByteArray) ++ (rdOf ByteArray.empty t258 x6_1)).size + 2 ≤ 9223372036854775807 then (if (rdOf ByteArray.empty t258 (wrap64 (x6_1 + 1))).toList = (((⟨#[33]⟩ : ByteArray) ++ (rdOf ByteArray.empty t258 x6_1)) ++ (⟨#[42, 47]⟩ : ByteArray)).toList then (copseref17_Read.l0 k1 a0 t258 x5_1 (wrap64 (x6_1 + 1))) else (if 1 ≤ (ji11) then (if (ji11) ≤ ((rdOf ByteArray.empty t258 x6_1).size : Int) then (if x5_1.length < 8796093022208 then (copseref17_Read.l0 k1 a0 t258 (x5_1 ++ [(rdOf ByteArray.empty t258 x6_1).extract 1 ((ji11) : Int).toNat]) (wrap64 (x6_1 + 1))) else (none)) else (none)) else (none))) else (none)) else (none)) else (none)) else (none))) else (copseref17_Read.l0 k1 a0 t258 x5_1 (wrap64 (x6_1 + 1)))) else (none)) else (none)) = some (r1, r2) := by first | (rw [hji11] at H; exact H) | (simp only [hji11] at H ⊢; exact H)
         have hji11w : (IntKind.i64.wrap (((rdOf ByteArray.empty t258 x6_1).size : Int) - 1)) = ji11 := (i64_w _).trans hji11
         by_cases c12 : 0 ≤ (ji11)
         ·rw [if_pos c12] at H
          have c12b0 := decide_eq_true c12
          clear c12
          by_cases c13 : (ji11) < ((rdOf ByteArray.empty t258 x6_1).size : Int)
          ·rw [if_pos c13] at H
           have c13b0 := decide_eq_true c13
           clear c13
           by_cases c15 : (bt (rdOf ByteArray.empty t258 x6_1) (ji11)) = 47
           ·rw [if_pos c15] at H
            have c15b0 : ((bt (rdOf ByteArray.empty t258 x6_1) (ji11)) == 47) = true := beq_iff_eq.mpr c15
            have c15b1 : ((bt (rdOf ByteArray.empty t258 x6_1) (ji11)) != 47) = false := bne_eq_false_iff_eq.mpr c15
            clear c15
            by_cases c16 : (wrap64 (x6_1 + 1)) = (t258.length : Int)
            ·rw [if_pos c16] at H
             have c16b0 : ((wrap64 (x6_1 + 1)) == (t258.length : Int)) = true := beq_iff_eq.mpr c16
             have c16b1 : ((wrap64 (x6_1 + 1)) != (t258.length : Int)) = false := bne_eq_false_iff_eq.mpr c16
             clear c16
             by_cases c17 : 1 ≤ (ji11)
             ·rw [if_pos c17] at H
              have c17b0 := eq_true c17
              have c17b1 := decide_eq_true c17
              clear c17
              by_cases c18 : (ji11) ≤ ((rdOf ByteArray.empty t258 x6_1).size : Int)
              ·rw [if_pos c18] at H
               have c18b0 := eq_true c18
               have c18b1 := decide_eq_true c18
               clear c18
               by_cases c19 : x5_1.length < 8796093022208
               ·rw [if_pos c19] at H
                have LMc19 := Aside0.mk c19
                clear c19
                obtain ⟨y265, hy265⟩ : ∃ y_ : List ByteArray, y_ = (x5_1 ++ [(rdOf ByteArray.empty t258 x6_1).extract 1 ((ji11) : Int).toNat]) := ⟨_, rfl⟩
                replace H : (copseref17_Read.l0 k1 a0 t258 y265 (wrap64 (x6_1 + 1))) = some (r1, r2) := by first | (rw [hy265]; with_reducible exact H) | (have H2_ := (Option.bind_some _ _).symm.trans H; rw [hy265]; with_reducible exact H2_) | (have H2_ := (Option.bind_some _ _).symm.trans H; with_reducible exact H2_) | with_reducible exact H | (rw [hy265]; exact H) | exact H
                have Ny265 := Aside0.mk hy265
                clear hy265
                have H' := Aside0.mk H
                clear H
                obtain ⟨Ao20, co20, eo20⟩ := Kd.R_slice HO_4.out
                subst eo20
                have p261 : 0 ≤ (x6_1 : Int) := of_decide_eq_true (by first | (with_reducible assumption) | assumption)
                have q261 : x6_1 < (t258.length : Int) := of_decide_eq_true (by first | (with_reducible assumption) | assumption)
                obtain ⟨ad261, e261, hx261_0⟩ := Kd.at_string (Kd.R_reads' HO_4.out).2.2 x6_1 p261 q261
                cases e261
                replace p261 := eq_true p261
                replace q261 := eq_true q261
                have p262 : 0 ≤ (x6_1 : Int) := of_decide_eq_true (by first | (with_reducible assumption) | assumption)
                have q262 : x6_1 < (t258.length : Int) := of_decide_eq_true (by first | (with_reducible assumption) | assumption)
                obtain ⟨ad262, e262, hx262_0⟩ := Kd.at_string (Kd.R_reads' HO_4.out).2.2 x6_1 p262 q262
                obtain rfl : ad261 = ad262 := (by injection e262)
                replace p262 := eq_true p262
                replace q262 := eq_true q262
                have p9 : 0 ≤ (0 : Int) := (by omega)
                have q9 : 0 < (rdOf ByteArray.empty t258 x6_1).size := (by have : (0 : Int) < ((rdOf ByteArray.empty t258 x6_1).size : Int) := of_decide_eq_true (by first | (with_reducible assumption) | assumption); omega)
                have hx9 : ∀ h : 0 < (rdOf ByteArray.empty t258 x6_1).size, (((rdOf ByteArray.empty t258 x6_1)[0]'h).toNat : Int) = bt (rdOf ByteArray.empty t258 x6_1) 0 := bt_at (rdOf ByteArray.empty t258 x6_1) 0
                clear p9
                have qi9 : (0 < ((rdOf ByteArray.empty t258 x6_1).size : Int)) = True := eq_true (of_decide_eq_true (by first | (with_reducible assumption) | assumption))
                replace q9 := eq_true q9
                have p263 : 0 ≤ (x6_1 : Int) := of_decide_eq_true (by first | (with_reducible assumption) | assumption)
                have q263 : x6_1 < (t258.length : Int) := of_decide_eq_true (by first | (with_reducible assumption) | assumption)
                obtain ⟨ad263, e263, hx263_0⟩ := Kd.at_string (Kd.R_reads' HO_4.out).2.2 x6_1 p263 q263
                obtain rfl : ad261 = ad263 := (by injection e263)
                replace p263 := eq_true p263
                replace q263 := eq_true q263
                have p14 : 0 ≤ ((ji11) : Int) := of_decide_eq_true (by first | (with_reducible assumption) | assumption)
                have q14 : (ji11) < ((rdOf ByteArray.empty t258 x6_1).size : Int) := of_decide_eq_true (by first | (with_reducible assumption) | assumption)
                have hx14 := bt_at (rdOf ByteArray.empty t258 x6_1) (ji11)
                replace p14 := eq_true p14
                replace q14 := eq_true q14
                have p264 : 0 ≤ (x6_1 : Int) := of_decide_eq_true (by first | (with_reducible assumption) | assumption)
                have q264 : x6_1 < (t258.length : Int) := of_decide_eq_true (by first | (with_reducible assumption) | assumption)
                obtain ⟨ad264, e264, hx264_0⟩ := Kd.at_string (Kd.R_reads' HO_4.out).2.2 x6_1 p264 q264
                obtain rfl : ad261 = ad264 := (by injection e264)
                replace p264 := eq_true p264
                replace q264 := eq_true q264
                go_wp2_with (first | ((with_reducible refine gate_builtin (b := .append) (xs := #[.tmp 67, .tmp 75]) rfl ?_); (try (refine gate_guard (by rfl) ?_; dsimp only)); at_builtin; refine Kd.R_append Kd.string (w0 := w) w.heap.size rfl (.tmp 67) (.tmp 75) 22 9 (.string ⟨#[]⟩) 16 rfl Tryd.underlying22 info9 rfl (by decide) (by omega) u5 x5_1 ((rdOf ByteArray.empty t258 x6_1).extract 1 ((ji11) : Int).toNat) [.string ((rdOf ByteArray.empty t258 x6_1).extract 1 ((ji11) : Int).toNat)] (fun k_ => some k_ ≠ (.slice (some ad261) t258.length co20 : Value).ownBlock) (fun _ => False) rfl rfl ?aP (fun _ hk => hk.elim) ?aF ?aO ?aB ?aS ?aL ?_; (case aP => exact rfl); (case aB => exact (by repeat (first | (with_reducible first | exact HB.out | apply below_alloc | apply pw_below_drewN | apply below_drew1) | exact HB.out))); (case aF => exact (fun k_ hk => Kd.fresh' (Kd.R_lt (by (with_reducible repeat (first | apply Kd.R_alloc | apply Kd.R_drewN | apply Kd.R_drew)); exact HO_4.out)) k_ hk)); (case aO => exact (by (with_reducible repeat (first | apply Kd.R_alloc | apply Kd.R_drewN | apply Kd.R_drew)); exact HO_5.out)); (case aS => exact (below_size (by repeat (first | (with_reducible first | exact HB.out | apply below_alloc | apply pw_below_drewN | apply below_drew1) | exact HB.out)))); (case aL => have := LMc19.out; omega); intro v266 w21 ho hb hg hat; rw [← Ny265.out] at ho; have n0_ := Aside0.mk (Kd.R_after (ok := (fun _ => True)) (by (with_reducible repeat (first | apply Kd.R_alloc | apply Kd.R_drewN | apply Kd.R_drew)); exact Kd.R_mono HO_4.out (fun _ hk => ⟨trivial, hk⟩)) hg hat); have n1_ := Aside0.mk (hb); have n2_ := Aside0.mk (ho); clear HO_4; clear HB; clear HO_5; have HO_4 := n0_; have HB := n1_; have HO267 := n2_; clear n0_ n1_ n2_; clear ho hb hg hat))
                repeat (go_quiet (first | ((with_reducible refine gate_builtin (b := .append) (xs := #[.tmp 67, .tmp 75]) rfl ?_); (try (refine gate_guard (by rfl) ?_; dsimp only)); at_builtin; refine Kd.R_append Kd.string (w0 := w) w.heap.size rfl (.tmp 67) (.tmp 75) 22 9 (.string ⟨#[]⟩) 16 rfl Tryd.underlying22 info9 rfl (by decide) (by omega) u5 x5_1 ((rdOf ByteArray.empty t258 x6_1).extract 1 ((ji11) : Int).toNat) [.string ((rdOf ByteArray.empty t258 x6_1).extract 1 ((ji11) : Int).toNat)] (fun k_ => some k_ ≠ (.slice (some ad261) t258.length co20 : Value).ownBlock) (fun _ => False) rfl rfl ?aP (fun _ hk => hk.elim) ?aF ?aO ?aB ?aS ?aL ?_; (case aP => exact rfl); (case aB => exact (by repeat (first | (with_reducible first | exact HB.out | apply below_alloc | apply pw_below_drewN | apply below_drew1) | exact HB.out))); (case aF => exact (fun k_ hk => Kd.fresh' (Kd.R_lt (by (with_reducible repeat (first | apply Kd.R_alloc | apply Kd.R_drewN | apply Kd.R_drew)); exact HO_4.out)) k_ hk)); (case aO => exact (by (with_reducible repeat (first | apply Kd.R_alloc | apply Kd.R_drewN | apply Kd.R_drew)); exact HO_5.out)); (case aS => exact (below_size (by repeat (first | (with_reducible first | exact HB.out | apply below_alloc | apply pw_below_drewN | apply below_drew1) | exact HB.out)))); (case aL => have := LMc19.out; omega); intro v266 w21 ho hb hg hat; rw [← Ny265.out] at ho; have n0_ := Aside0.mk (Kd.R_after (ok := (fun _ => True)) (by (with_reducible repeat (first | apply Kd.R_alloc | apply Kd.R_drewN | apply Kd.R_drew)); exact Kd.R_mono HO_4.out (fun _ hk => ⟨trivial, hk⟩)) hg hat); have n1_ := Aside0.mk (hb); have n2_ := Aside0.mk (ho); clear HO_4; clear HB; clear HO_5; have HO_4 := n0_; have HB := n1_; have HO267 := n2_; clear n0_ n1_ n2_; clear ho hb hg hat)); try go_wp2_with (first | ((with_reducible refine gate_builtin (b := .append) (xs := #[.tmp 67, .tmp 75]) rfl ?_); (try (refine gate_guard (by rfl) ?_; dsimp only)); at_builtin; refine Kd.R_append Kd.string (w0 := w) w.heap.size rfl (.tmp 67) (.tmp 75) 22 9 (.string ⟨#[]⟩) 16 rfl Tryd.underlying22 info9 rfl (by decide) (by omega) u5 x5_1 ((rdOf ByteArray.empty t258 x6_1).extract 1 ((ji11) : Int).toNat) [.string ((rdOf ByteArray.empty t258 x6_1).extract 1 ((ji11) : Int).toNat)] (fun k_ => some k_ ≠ (.slice (some ad261) t258.length co20 : Value).ownBlock) (fun _ => False) rfl rfl ?aP (fun _ hk => hk.elim) ?aF ?aO ?aB ?aS ?aL ?_; (case aP => exact rfl); (case aB => exact (by repeat (first | (with_reducible first | exact HB.out | apply below_alloc | apply pw_below_drewN | apply below_drew1) | exact HB.out))); (case aF => exact (fun k_ hk => Kd.fresh' (Kd.R_lt (by (with_reducible repeat (first | apply Kd.R_alloc | apply Kd.R_drewN | apply Kd.R_drew)); exact HO_4.out)) k_ hk)); (case aO => exact (by (with_reducible repeat (first | apply Kd.R_alloc | apply Kd.R_drewN | apply Kd.R_drew)); exact HO_5.out)); (case aS => exact (below_size (by repeat (first | (with_reducible first | exact HB.out | apply below_alloc | apply pw_below_drewN | apply below_drew1) | exact HB.out)))); (case aL => have := LMc19.out; omega); intro v266 w21 ho hb hg hat; rw [← Ny265.out] at ho; have n0_ := Aside0.mk (Kd.R_after (ok := (fun _ => True)) (by (with_reducible repeat (first | apply Kd.R_alloc | apply Kd.R_drewN | apply Kd.R_drew)); exact Kd.R_mono HO_4.out (fun _ hk => ⟨trivial, hk⟩)) hg hat); have n1_ := Aside0.mk (hb); have n2_ := Aside0.mk (ho); clear HO_4; clear HB; clear HO_5; have HO_4 := n0_; have HB := n1_; have HO267 := n2_; clear n0_ n1_ n2_; clear ho hb hg hat)))
                go_roundg k1
                case measure => have := HK1.out; omega
                case rel => exact ⟨(y265), (wrap64 (x6_1 + 1)), (by first | rfl | (simp; done) | (simp [*]; done)), H', ⟨by have := HK1.out; omega⟩, ⟨by (with_reducible repeat (first | apply Kd.R_alloc | apply Kd.R_drewN | apply Kd.R_drew)); exact Kd.R_mono HO_4.out (fun _ hk => hk.2)⟩, ⟨by (with_reducible repeat (first | apply Kd.R_alloc | apply Kd.R_drewN | apply Kd.R_drew)); exact HO267.out⟩, ⟨by repeat (first | (with_reducible first | exact HB.out | apply below_alloc | apply pw_below_drewN | apply below_drew1) | exact HB.out)⟩⟩
               ·rw [if_neg c19] at H
                exact absurd H (by simp)
              ·rw [if_neg c18] at H
               exact absurd H (by simp)
             ·rw [if_neg c17] at H
              exact absurd H (by simp)
            ·rw [if_neg c16] at H
             have c16b0 : ((wrap64 (x6_1 + 1)) == (t258.length : Int)) = false := beq_eq_false_iff_ne.mpr c16
             have c16b1 : ((wrap64 (x6_1 + 1)) != (t258.length : Int)) = true := bne_iff_ne.mpr c16
             obtain ⟨ji22, hji22⟩ : ∃ j_ : Int, (wrap64 (x6_1 + 1)) = j_ := ⟨_, rfl⟩
             replace H : (if 0 ≤ (ji22) then (if (ji22) < (t258.length : Int) then (if 1 + (rdOf ByteArray.empty t258 x6_1).size ≤ 9223372036854775807 then (if ((⟨#[33]⟩ : ByteArray) ++ (rdOf ByteArray.empty t258 x6_1)).size + 2 ≤ 9223372036854775807 then (if (rdOf ByteArray.empty t258 (ji22)).toList = (((⟨#[33]⟩ : ByteArray) ++ (rdOf ByteArray.empty t258 x6_1)) ++ (⟨#[42, 47]⟩ : ByteArray)).toList then (copseref17_Read.l0 k1 a0 t258 x5_1 ji22) else (if 1 ≤ (ji11) then (if (ji11) ≤ ((rdOf ByteArray.empty t258 x6_1).size : Int) then (if x5_1.length < 8796093022208 then (copseref17_Read.l0 k1 a0 t258 (x5_1 ++ [(rdOf ByteArray.empty t258 x6_1).extract 1 ((ji11) : Int).toNat]) ji22) else (none)) else (none)) else (none))) else (none)) else (none)) else (none)) else (none)) = some (r1, r2) := by first | (rw [hji22] at H; exact H) | (simp only [hji22] at H ⊢; exact H)
             (try rw [hji22] at c16b0)
             (try rw [hji22] at c16b1)
             have hji22w : (IntKind.i64.wrap (x6_1 + 1)) = ji22 := (i64_w _).trans hji22
             by_cases c23 : 0 ≤ (ji22)
             ·rw [if_pos c23] at H
              have c23b0 := decide_eq_true c23
              clear c23
              by_cases c24 : (ji22) < (t258.length : Int)
              ·rw [if_pos c24] at H
               have c24b0 := decide_eq_true c24
               clear c24
               by_cases c25 : 1 + (rdOf ByteArray.empty t258 x6_1).size ≤ 9223372036854775807
               ·rw [if_pos c25] at H
                have c25b0 := eq_true c25
                have c25b1 := decide_eq_true c25
                try have c25b2 : (9223372036854775807 < 1 + (rdOf ByteArray.empty t258 x6_1).size) = False := eq_false (Nat.not_lt.2 c25)
                by_cases c26 : ((⟨#[33]⟩ : ByteArray) ++ (rdOf ByteArray.empty t258 x6_1)).size + 2 ≤ 9223372036854775807
                ·rw [if_pos c26] at H
                 have c26b0 := eq_true c26
                 have c26b1 := decide_eq_true c26
                 try have c26b2 : (9223372036854775807 < ((⟨#[33]⟩ : ByteArray) ++ (rdOf ByteArray.empty t258 x6_1)).size + 2) = False := eq_false (Nat.not_lt.2 c26)
                 try have c26b7 : (9223372036854775807 < 1 + (rdOf ByteArray.empty t258 x6_1).size + 2) = False := by have h_ := c26b2; simp only [ByteArray.size_append] at h_; exact h_
                 by_cases c27 : (rdOf ByteArray.empty t258 (ji22)).toList = (((⟨#[33]⟩ : ByteArray) ++ (rdOf ByteArray.empty t258 x6_1)) ++ (⟨#[42, 47]⟩ : ByteArray)).toList
                 ·rw [if_pos c27] at H
                  have c27b0 : ((rdOf ByteArray.empty t258 (ji22)).toList == (((⟨#[33]⟩ : ByteArray) ++ (rdOf ByteArray.empty t258 x6_1)) ++ (⟨#[42, 47]⟩ : ByteArray)).toList) = true := beq_iff_eq.mpr c27
                  have c27b1 : ((rdOf ByteArray.empty t258 (ji22)).toList != (((⟨#[33]⟩ : ByteArray) ++ (rdOf ByteArray.empty t258 x6_1)) ++ (⟨#[42, 47]⟩ : ByteArray)).toList) = false := bne_eq_false_iff_eq.mpr c27
                  clear c27
                  have H' := Aside0.mk H
                  clear H
                  obtain ⟨Ao28, co28, eo28⟩ := Kd.R_slice HO_4.out
                  subst eo28
                  have p261 : 0 ≤ (x6_1 : Int) := of_decide_eq_true (by first | (with_reducible assumption) | assumption)
                  have q261 : x6_1 < (t258.length : Int) := of_decide_eq_true (by first | (with_reducible assumption) | assumption)
                  obtain ⟨ad261, e261, hx261_0⟩ := Kd.at_string (Kd.R_reads' HO_4.out).2.2 x6_1 p261 q261
                  cases e261
                  replace p261 := eq_true p261
                  replace q261 := eq_true q261
                  have p262 : 0 ≤ (x6_1 : Int) := of_decide_eq_true (by first | (with_reducible assumption) | assumption)
                  have q262 : x6_1 < (t258.length : Int) := of_decide_eq_true (by first | (with_reducible assumption) | assumption)
                  obtain ⟨ad262, e262, hx262_0⟩ := Kd.at_string (Kd.R_reads' HO_4.out).2.2 x6_1 p262 q262
                  obtain rfl : ad261 = ad262 := (by injection e262)
                  replace p262 := eq_true p262
                  replace q262 := eq_true q262
                  have p9 : 0 ≤ (0 : Int) := (by omega)
                  have q9 : 0 < (rdOf ByteArray.empty t258 x6_1).size := (by have : (0 : Int) < ((rdOf ByteArray.empty t258 x6_1).size : Int) := of_decide_eq_true (by first | (with_reducible assumption) | assumption); omega)
                  have hx9 : ∀ h : 0 < (rdOf ByteArray.empty t258 x6_1).size, (((rdOf ByteArray.empty t258 x6_1)[0]'h).toNat : Int) = bt (rdOf ByteArray.empty t258 x6_1) 0 := bt_at (rdOf ByteArray.empty t258 x6_1) 0
                  clear p9
                  have qi9 : (0 < ((rdOf ByteArray.empty t258 x6_1).size : Int)) = True := eq_true (of_decide_eq_true (by first | (with_reducible assumption) | assumption))
                  replace q9 := eq_true q9
                  have p263 : 0 ≤ (x6_1 : Int) := of_decide_eq_true (by first | (with_reducible assumption) | assumption)
                  have q263 : x6_1 < (t258.length : Int) := of_decide_eq_true (by first | (with_reducible assumption) | assumption)
                  obtain ⟨ad263, e263, hx263_0⟩ := Kd.at_string (Kd.R_reads' HO_4.out).2.2 x6_1 p263 q263
                  obtain rfl : ad261 = ad263 := (by injection e263)
                  replace p263 := eq_true p263
                  replace q263 := eq_true q263
                  have p14 : 0 ≤ ((ji11) : Int) := of_decide_eq_true (by first | (with_reducible assumption) | assumption)
                  have q14 : (ji11) < ((rdOf ByteArray.empty t258 x6_1).size : Int) := of_decide_eq_true (by first | (with_reducible assumption) | assumption)
                  have hx14 := bt_at (rdOf ByteArray.empty t258 x6_1) (ji11)
                  replace p14 := eq_true p14
                  replace q14 := eq_true q14
                  have p268 : 0 ≤ ((ji22) : Int) := of_decide_eq_true (by first | (with_reducible assumption) | assumption)
                  have q268 : (ji22) < (t258.length : Int) := of_decide_eq_true (by first | (with_reducible assumption) | assumption)
                  obtain ⟨ad268, e268, hx268_0⟩ := Kd.at_string (Kd.R_reads' HO_4.out).2.2 (ji22) p268 q268
                  obtain rfl : ad261 = ad268 := (by injection e268)
                  replace p268 := eq_true p268
                  replace q268 := eq_true q268
                  have p269 : 0 ≤ (x6_1 : Int) := of_decide_eq_true (by first | (with_reducible assumption) | assumption)
                  have q269 : x6_1 < (t258.length : Int) := of_decide_eq_true (by first | (with_reducible assumption) | assumption)
                  obtain ⟨ad269, e269, hx269_0⟩ := Kd.at_string (Kd.R_reads' HO_4.out).2.2 x6_1 p269 q269
                  obtain rfl : ad261 = ad269 := (by injection e269)
                  replace p269 := eq_true p269
                  replace q269 := eq_true q269
                  go_wp2
                  repeat (go_quiet (fail); try go_wp2)
                  go_roundg k1
                  case measure => have := HK1.out; omega
                  case rel => exact ⟨(x5_1), (ji22), (by first | rfl | (simp; done) | (simp only [← hji22] <;> (first | rfl | simp)) | (simp [*]; done)), H', ⟨by have := HK1.out; omega⟩, ⟨by (with_reducible repeat (first | apply Kd.R_alloc | apply Kd.R_drewN | apply Kd.R_drew)); exact HO_4.out⟩, ⟨by (with_reducible repeat (first | apply Kd.R_alloc | apply Kd.R_drewN | apply Kd.R_drew)); exact HO_5.out⟩, ⟨by repeat (first | (with_reducible first | exact HB.out | apply below_alloc | apply pw_below_drewN | apply below_drew1) | exact HB.out)⟩⟩
                 ·rw [if_neg c27] at H
                  have c27b0 : ((rdOf ByteArray.empty t258 (ji22)).toList == (((⟨#[33]⟩ : ByteArray) ++ (rdOf ByteArray.empty t258 x6_1)) ++ (⟨#[42, 47]⟩ : ByteArray)).toList) = false := beq_eq_false_iff_ne.mpr c27
                  have c27b1 : ((rdOf ByteArray.empty t258 (ji22)).toList != (((⟨#[33]⟩ : ByteArray) ++ (rdOf ByteArray.empty t258 x6_1)) ++ (⟨#[42, 47]⟩ : ByteArray)).toList) = true := bne_iff_ne.mpr c27
                  by_cases c29 : 1 ≤ (ji11)
                  ·rw [if_pos c29] at H
                   have c29b0 := eq_true c29
                   have c29b1 := decide_eq_true c29
                   clear c29
                   by_cases c30 : (ji11) ≤ ((rdOf ByteArray.empty t258 x6_1).size : Int)
                   ·rw [if_pos c30] at H
                    have c30b0 := eq_true c30
                    have c30b1 := decide_eq_true c30
                    clear c30
                    by_cases c31 : x5_1.length < 8796093022208
                    ·rw [if_pos c31] at H
                     have LMc31 := Aside0.mk c31
                     clear c31
                     obtain ⟨y271, hy271⟩ : ∃ y_ : List ByteArray, y_ = (x5_1 ++ [(rdOf ByteArray.empty t258 x6_1).extract 1 ((ji11) : Int).toNat]) := ⟨_, rfl⟩
                     replace H : (copseref17_Read.l0 k1 a0 t258 y271 ji22) = some (r1, r2) := by first | (rw [hy271]; with_reducible exact H) | (have H2_ := (Option.bind_some _ _).symm.trans H; rw [hy271]; with_reducible exact H2_) | (have H2_ := (Option.bind_some _ _).symm.trans H; with_reducible exact H2_) | with_reducible exact H | (rw [hy271]; exact H) | exact H
                     have Ny271 := Aside0.mk hy271
                     clear hy271
                     have H' := Aside0.mk H
                     clear H
                     obtain ⟨Ao32, co32, eo32⟩ := Kd.R_slice HO_4.out
                     subst eo32
                     have p261 : 0 ≤ (x6_1 : Int) := of_decide_eq_true (by first | (with_reducible assumption) | assumption)
                     have q261 : x6_1 < (t258.length : Int) := of_decide_eq_true (by first | (with_reducible assumption) | assumption)
                     obtain ⟨ad261, e261, hx261_0⟩ := Kd.at_string (Kd.R_reads' HO_4.out).2.2 x6_1 p261 q261
                     cases e261
                     replace p261 := eq_true p261
                     replace q261 := eq_true q261
                     have p262 : 0 ≤ (x6_1 : Int) := of_decide_eq_true (by first | (with_reducible assumption) | assumption)
                     have q262 : x6_1 < (t258.length : Int) := of_decide_eq_true (by first | (with_reducible assumption) | assumption)
                     obtain ⟨ad262, e262, hx262_0⟩ := Kd.at_string (Kd.R_reads' HO_4.out).2.2 x6_1 p262 q262
                     obtain rfl : ad261 = ad262 := (by injection e262)
                     replace p262 := eq_true p262
                     replace q262 := eq_true q262
                     have p9 : 0 ≤ (0 : Int) := (by omega)
                     have q9 : 0 < (rdOf ByteArray.empty t258 x6_1).size := (by have : (0 : Int) < ((rdOf ByteArray.empty t258 x6_1).size : Int) := of_decide_eq_true (by first | (with_reducible assumption) | assumption); omega)
                     have hx9 : ∀ h : 0 < (rdOf ByteArray.empty t258 x6_1).size, (((rdOf ByteArray.empty t258 x6_1)[0]'h).toNat : Int) = bt (rdOf ByteArray.empty t258 x6_1) 0 := bt_at (rdOf ByteArray.empty t258 x6_1) 0
                     clear p9
                     have qi9 : (0 < ((rdOf ByteArray.empty t258 x6_1).size : Int)) = True := eq_true (of_decide_eq_true (by first | (with_reducible assumption) | assumption))
                     replace q9 := eq_true q9
                     have p263 : 0 ≤ (x6_1 : Int) := of_decide_eq_true (by first | (with_reducible assumption) | assumption)
                     have q263 : x6_1 < (t258.length : Int) := of_decide_eq_true (by first | (with_reducible assumption) | assumption)
                     obtain ⟨ad263, e263, hx263_0⟩ := Kd.at_string (Kd.R_reads' HO_4.out).2.2 x6_1 p263 q263
                     obtain rfl : ad261 = ad263 := (by injection e263)
                     replace p263 := eq_true p263
                     replace q263 := eq_true q263
                     have p14 : 0 ≤ ((ji11) : Int) := of_decide_eq_true (by first | (with_reducible assumption) | assumption)
                     have q14 : (ji11) < ((rdOf ByteArray.empty t258 x6_1).size : Int) := of_decide_eq_true (by first | (with_reducible assumption) | assumption)
                     have hx14 := bt_at (rdOf ByteArray.empty t258 x6_1) (ji11)
                     replace p14 := eq_true p14
                     replace q14 := eq_true q14
                     have p268 : 0 ≤ ((ji22) : Int) := of_decide_eq_true (by first | (with_reducible assumption) | assumption)
                     have q268 : (ji22) < (t258.length : Int) := of_decide_eq_true (by first | (with_reducible assumption) | assumption)
                     obtain ⟨ad268, e268, hx268_0⟩ := Kd.at_string (Kd.R_reads' HO_4.out).2.2 (ji22) p268 q268
                     obtain rfl : ad261 = ad268 := (by injection e268)
                     replace p268 := eq_true p268
                     replace q268 := eq_true q268
                     have p269 : 0 ≤ (x6_1 : Int) := of_decide_eq_true (by first | (with_reducible assumption) | assumption)
                     have q269 : x6_1 < (t258.length : Int) := of_decide_eq_true (by first | (with_reducible assumption) | assumption)
                     obtain ⟨ad269, e269, hx269_0⟩ := Kd.at_string (Kd.R_reads' HO_4.out).2.2 x6_1 p269 q269
                     obtain rfl : ad261 = ad269 := (by injection e269)
                     replace p269 := eq_true p269
                     replace q269 := eq_true q269
                     have p270 : 0 ≤ (x6_1 : Int) := of_decide_eq_true (by first | (with_reducible assumption) | assumption)
                     have q270 : x6_1 < (t258.length : Int) := of_decide_eq_true (by first | (with_reducible assumption) | assumption)
                     obtain ⟨ad270, e270, hx270_0⟩ := Kd.at_string (Kd.R_reads' HO_4.out).2.2 x6_1 p270 q270
                     obtain rfl : ad261 = ad270 := (by injection e270)
                     replace p270 := eq_true p270
                     replace q270 := eq_true q270
                     go_wp2_with (first | ((with_reducible refine gate_builtin (b := .append) (xs := #[.tmp 67, .tmp 75]) rfl ?_); (try (refine gate_guard (by rfl) ?_; dsimp only)); at_builtin; refine Kd.R_append Kd.string (w0 := w) w.heap.size rfl (.tmp 67) (.tmp 75) 22 9 (.string ⟨#[]⟩) 16 rfl Tryd.underlying22 info9 rfl (by decide) (by omega) u5 x5_1 ((rdOf ByteArray.empty t258 x6_1).extract 1 ((ji11) : Int).toNat) [.string ((rdOf ByteArray.empty t258 x6_1).extract 1 ((ji11) : Int).toNat)] (fun k_ => some k_ ≠ (.slice (some ad261) t258.length co32 : Value).ownBlock) (fun _ => False) rfl rfl ?aP (fun _ hk => hk.elim) ?aF ?aO ?aB ?aS ?aL ?_; (case aP => exact rfl); (case aB => exact (by repeat (first | (with_reducible first | exact HB.out | apply below_alloc | apply pw_below_drewN | apply below_drew1) | exact HB.out))); (case aF => exact (fun k_ hk => Kd.fresh' (Kd.R_lt (by (with_reducible repeat (first | apply Kd.R_alloc | apply Kd.R_drewN | apply Kd.R_drew)); exact HO_4.out)) k_ hk)); (case aO => exact (by (with_reducible repeat (first | apply Kd.R_alloc | apply Kd.R_drewN | apply Kd.R_drew)); exact HO_5.out)); (case aS => exact (below_size (by repeat (first | (with_reducible first | exact HB.out | apply below_alloc | apply pw_below_drewN | apply below_drew1) | exact HB.out)))); (case aL => have := LMc31.out; omega); intro v272 w33 ho hb hg hat; rw [← Ny271.out] at ho; have n0_ := Aside0.mk (Kd.R_after (ok := (fun _ => True)) (by (with_reducible repeat (first | apply Kd.R_alloc | apply Kd.R_drewN | apply Kd.R_drew)); exact Kd.R_mono HO_4.out (fun _ hk => ⟨trivial, hk⟩)) hg hat); have n1_ := Aside0.mk (hb); have n2_ := Aside0.mk (ho); clear HO_4; clear HB; clear HO_5; have HO_4 := n0_; have HB := n1_; have HO273 := n2_; clear n0_ n1_ n2_; clear ho hb hg hat))
                     repeat (go_quiet (first | ((with_reducible refine gate_builtin (b := .append) (xs := #[.tmp 67, .tmp 75]) rfl ?_); (try (refine gate_guard (by rfl) ?_; dsimp only)); at_builtin; refine Kd.R_append Kd.string (w0 := w) w.heap.size rfl (.tmp 67) (.tmp 75) 22 9 (.string ⟨#[]⟩) 16 rfl Tryd.underlying22 info9 rfl (by decide) (by omega) u5 x5_1 ((rdOf ByteArray.empty t258 x6_1).extract 1 ((ji11) : Int).toNat) [.string ((rdOf ByteArray.empty t258 x6_1).extract 1 ((ji11) : Int).toNat)] (fun k_ => some k_ ≠ (.slice (some ad261) t258.length co32 : Value).ownBlock) (fun _ => False) rfl rfl ?aP (fun _ hk => hk.elim) ?aF ?aO ?aB ?aS ?aL ?_; (case aP => exact rfl); (case aB => exact (by repeat (first | (with_reducible first | exact HB.out | apply below_alloc | apply pw_below_drewN | apply below_drew1) | exact HB.out))); (case aF => exact (fun k_ hk => Kd.fresh' (Kd.R_lt (by (with_reducible repeat (first | apply Kd.R_alloc | apply Kd.R_drewN | apply Kd.R_drew)); exact HO_4.out)) k_ hk)); (case aO => exact (by (with_reducible repeat (first | apply Kd.R_alloc | apply Kd.R_drewN | apply Kd.R_drew)); exact HO_5.out)); (case aS => exact (below_size (by repeat (first | (with_reducible first | exact HB.out | apply below_alloc | apply pw_below_drewN | apply below_drew1) | exact HB.out)))); (case aL => have := LMc31.out; omega); intro v272 w33 ho hb hg hat; rw [← Ny271.out] at ho; have n0_ := Aside0.mk (Kd.R_after (ok := (fun _ => True)) (by (with_reducible repeat (first | apply Kd.R_alloc | apply Kd.R_drewN | apply Kd.R_drew)); exact Kd.R_mono HO_4.out (fun _ hk => ⟨trivial, hk⟩)) hg hat); have n1_ := Aside0.mk (hb); have n2_ := Aside0.mk (ho); clear HO_4; clear HB; clear HO_5; have HO_4 := n0_; have HB := n1_; have HO273 := n2_; clear n0_ n1_ n2_; clear ho hb hg hat)); try go_wp2_with (first | ((with_reducible refine gate_builtin (b := .append) (xs := #[.tmp 67, .tmp 75]) rfl ?_); (try (refine gate_guard (by rfl) ?_; dsimp only)); at_builtin; refine Kd.R_append Kd.string (w0 := w) w.heap.size rfl (.tmp 67) (.tmp 75) 22 9 (.string ⟨#[]⟩) 16 rfl Tryd.underlying22 info9 rfl (by decide) (by omega) u5 x5_1 ((rdOf ByteArray.empty t258 x6_1).extract 1 ((ji11) : Int).toNat) [.string ((rdOf ByteArray.empty t258 x6_1).extract 1 ((ji11) : Int).toNat)] (fun k_ => some k_ ≠ (.slice (some ad261) t258.length co32 : Value).ownBlock) (fun _ => False) rfl rfl ?aP (fun _ hk => hk.elim) ?aF ?aO ?aB ?aS ?aL ?_; (case aP => exact rfl); (case aB => exact (by repeat (first | (with_reducible first | exact HB.out | apply below_alloc | apply pw_below_drewN | apply below_drew1) | exact HB.out))); (case aF => exact (fun k_ hk => Kd.fresh' (Kd.R_lt (by (with_reducible repeat (first | apply Kd.R_alloc | apply Kd.R_drewN | apply Kd.R_drew)); exact HO_4.out)) k_ hk)); (case aO => exact (by (with_reducible repeat (first | apply Kd.R_alloc | apply Kd.R_drewN | apply Kd.R_drew)); exact HO_5.out)); (case aS => exact (below_size (by repeat (first | (with_reducible first | exact HB.out | apply below_alloc | apply pw_below_drewN | apply below_drew1) | exact HB.out)))); (case aL => have := LMc31.out; omega); intro v272 w33 ho hb hg hat; rw [← Ny271.out] at ho; have n0_ := Aside0.mk (Kd.R_after (ok := (fun _ => True)) (by (with_reducible repeat (first | apply Kd.R_alloc | apply Kd.R_drewN | apply Kd.R_drew)); exact Kd.R_mono HO_4.out (fun _ hk => ⟨trivial, hk⟩)) hg hat); have n1_ := Aside0.mk (hb); have n2_ := Aside0.mk (ho); clear HO_4; clear HB; clear HO_5; have HO_4 := n0_; have HB := n1_; have HO273 := n2_; clear n0_ n1_ n2_; clear ho hb hg hat)))
                     go_roundg k1
                     case measure => have := HK1.out; omega
                     case rel => exact ⟨(y271), (ji22), (by first | rfl | (simp; done) | (simp only [← hji22] <;> (first | rfl | simp)) | (simp [*]; done)), H', ⟨by have := HK1.out; omega⟩, ⟨by (with_reducible repeat (first | apply Kd.R_alloc | apply Kd.R_drewN | apply Kd.R_drew)); exact Kd.R_mono HO_4.out (fun _ hk => hk.2)⟩, ⟨by (with_reducible repeat (first | apply Kd.R_alloc | apply Kd.R_drewN | apply Kd.R_drew)); exact HO273.out⟩, ⟨by repeat (first | (with_reducible first | exact HB.out | apply below_alloc | apply pw_below_drewN | apply below_drew1) | exact HB.out)⟩⟩
                    ·rw [if_neg c31] at H
                     exact absurd H (by simp)
                   ·rw [if_neg c30] at H
                    exact absurd H (by simp)
                  ·rw [if_neg c29] at H
                   exact absurd H (by simp)
                ·rw [if_neg c26] at H
                 exact absurd H (by simp)
               ·rw [if_neg c25] at H
                exact absurd H (by simp)
              ·rw [if_neg c24] at H
               exact absurd H (by simp)
             ·rw [if_neg c23] at H
              exact absurd H (by simp)
           ·rw [if_neg c15] at H
            have c15b0 : ((bt (rdOf ByteArray.empty t258 x6_1) (ji11)) == 47) = false := beq_eq_false_iff_ne.mpr c15
            have c15b1 : ((bt (rdOf ByteArray.empty t258 x6_1) (ji11)) != 47) = true := bne_iff_ne.mpr c15
            have H' := Aside0.mk H
            clear H
            obtain ⟨Ao34, co34, eo34⟩ := Kd.R_slice HO_4.out
            subst eo34
            have p261 : 0 ≤ (x6_1 : Int) := of_decide_eq_true (by first | (with_reducible assumption) | assumption)
            have q261 : x6_1 < (t258.length : Int) := of_decide_eq_true (by first | (with_reducible assumption) | assumption)
            obtain ⟨ad261, e261, hx261_0⟩ := Kd.at_string (Kd.R_reads' HO_4.out).2.2 x6_1 p261 q261
            cases e261
            replace p261 := eq_true p261
            replace q261 := eq_true q261
            have p262 : 0 ≤ (x6_1 : Int) := of_decide_eq_true (by first | (with_reducible assumption) | assumption)
            have q262 : x6_1 < (t258.length : Int) := of_decide_eq_true (by first | (with_reducible assumption) | assumption)
            obtain ⟨ad262, e262, hx262_0⟩ := Kd.at_string (Kd.R_reads' HO_4.out).2.2 x6_1 p262 q262
            obtain rfl : ad261 = ad262 := (by injection e262)
            replace p262 := eq_true p262
            replace q262 := eq_true q262
            have p9 : 0 ≤ (0 : Int) := (by omega)
            have q9 : 0 < (rdOf ByteArray.empty t258 x6_1).size := (by have : (0 : Int) < ((rdOf ByteArray.empty t258 x6_1).size : Int) := of_decide_eq_true (by first | (with_reducible assumption) | assumption); omega)
            have hx9 : ∀ h : 0 < (rdOf ByteArray.empty t258 x6_1).size, (((rdOf ByteArray.empty t258 x6_1)[0]'h).toNat : Int) = bt (rdOf ByteArray.empty t258 x6_1) 0 := bt_at (rdOf ByteArray.empty t258 x6_1) 0
            clear p9
            have qi9 : (0 < ((rdOf ByteArray.empty t258 x6_1).size : Int)) = True := eq_true (of_decide_eq_true (by first | (with_reducible assumption) | assumption))
            replace q9 := eq_true q9
            have p263 : 0 ≤ (x6_1 : Int) := of_decide_eq_true (by first | (with_reducible assumption) | assumption)
            have q263 : x6_1 < (t258.length : Int) := of_decide_eq_true (by first | (with_reducible assumption) | assumption)
            obtain ⟨ad263, e263, hx263_0⟩ := Kd.at_string (Kd.R_reads' HO_4.out).2.2 x6_1 p263 q263
            obtain rfl : ad261 = ad263 := (by injection e263)
            replace p263 := eq_true p263
            replace q263 := eq_true q263
            have p14 : 0 ≤ ((ji11) : Int) := of_decide_eq_true (by first | (with_reducible assumption) | assumption)
            have q14 : (ji11) < ((rdOf ByteArray.empty t258 x6_1).size : Int) := of_decide_eq_true (by first | (with_reducible assumption) | assumption)
            have hx14 := bt_at (rdOf ByteArray.empty t258 x6_1) (ji11)
            replace p14 := eq_true p14
            replace q14 := eq_true q14
            go_wp2
            repeat (go_quiet (fail); try go_wp2)
            go_roundg k1
            case measure => have := HK1.out; omega
            case rel => exact ⟨(x5_1), (wrap64 (x6_1 + 1)), (by first | rfl | (simp; done) | (simp [*]; done)), H', ⟨by have := HK1.out; omega⟩, ⟨by (with_reducible repeat (first | apply Kd.R_alloc | apply Kd.R_drewN | apply Kd.R_drew)); exact HO_4.out⟩, ⟨by (with_reducible repeat (first | apply Kd.R_alloc | apply Kd.R_drewN | apply Kd.R_drew)); exact HO_5.out⟩, ⟨by repeat (first | (with_reducible first | exact HB.out | apply below_alloc | apply pw_below_drewN | apply below_drew1) | exact HB.out)⟩⟩
          ·rw [if_neg c13] at H
           exact absurd H (by simp)
         ·rw [if_neg c12] at H
          exact absurd H (by simp)
        ·rw [if_neg c10] at H
         have c10b0 : ((bt (rdOf ByteArray.empty t258 x6_1) 0) == 47) = false := beq_eq_false_iff_ne.mpr c10
         have c10b1 : ((bt (rdOf ByteArray.empty t258 x6_1) 0) != 47) = true := bne_iff_ne.mpr c10
         have H' := Aside0.mk H
         clear H
         obtain ⟨Ao35, co35, eo35⟩ := Kd.R_slice HO_4.out
         subst eo35
         have p261 : 0 ≤ (x6_1 : Int) := of_decide_eq_true (by first | (with_reducible assumption) | assumption)
         have q261 : x6_1 < (t258.length : Int) := of_decide_eq_true (by first | (with_reducible assumption) | assumption)
         obtain ⟨ad261, e261, hx261_0⟩ := Kd.at_string (Kd.R_reads' HO_4.out).2.2 x6_1 p261 q261
         cases e261
         replace p261 := eq_true p261
         replace q261 := eq_true q261
         have p262 : 0 ≤ (x6_1 : Int) := of_decide_eq_true (by first | (with_reducible assumption) | assumption)
         have q262 : x6_1 < (t258.length : Int) := of_decide_eq_true (by first | (with_reducible assumption) | assumption)
         obtain ⟨ad262, e262, hx262_0⟩ := Kd.at_string (Kd.R_reads' HO_4.out).2.2 x6_1 p262 q262
         obtain rfl : ad261 = ad262 := (by injection e262)
         replace p262 := eq_true p262
         replace q262 := eq_true q262
         have p9 : 0 ≤ (0 : Int) := (by omega)
         have q9 : 0 < (rdOf ByteArray.empty t258 x6_1).size := (by have : (0 : Int) < ((rdOf ByteArray.empty t258 x6_1).size : Int) := of_decide_eq_true (by first | (with_reducible assumption) | assumption); omega)
         have hx9 : ∀ h : 0 < (rdOf ByteArray.empty t258 x6_1).size, (((rdOf ByteArray.empty t258 x6_1)[0]'h).toNat : Int) = bt (rdOf ByteArray.empty t258 x6_1) 0 := bt_at (rdOf ByteArray.empty t258 x6_1) 0
         clear p9
         have qi9 : (0 < ((rdOf ByteArray.empty t258 x6_1).size : Int)) = True := eq_true (of_decide_eq_true (by first | (with_reducible assumption) | assumption))
         replace q9 := eq_true q9
         go_wp2
         repeat (go_quiet (fail); try go_wp2)
         go_roundg k1
         case measure => have := HK1.out; omega
         case rel => exact ⟨(x5_1), (wrap64 (x6_1 + 1)), (by first | rfl | (simp; done) | (simp [*]; done)), H', ⟨by have := HK1.out; omega⟩, ⟨by (with_reducible repeat (first | apply Kd.R_alloc | apply Kd.R_drewN | apply Kd.R_drew)); exact HO_4.out⟩, ⟨by (with_reducible repeat (first | apply Kd.R_alloc | apply Kd.R_drewN | apply Kd.R_drew)); exact HO_5.out⟩, ⟨by repeat (first | (with_reducible first | exact HB.out | apply below_alloc | apply pw_below_drewN | apply below_drew1) | exact HB.out)⟩⟩
       ·rw [if_neg c8] at H
        exact absurd H (by simp)
      ·rw [if_neg c7] at H
       have c7b0 := decide_eq_false c7
       have c7b1 : decide (2 < (rdOf ByteArray.empty t258 x6_1).size) = false := decide_eq_false (by omega)
       clear c7
       have H' := Aside0.mk H
       clear H
       obtain ⟨Ao36, co36, eo36⟩ := Kd.R_slice HO_4.out
       subst eo36
       have p261 : 0 ≤ (x6_1 : Int) := of_decide_eq_true (by first | (with_reducible assumption) | assumption)
       have q261 : x6_1 < (t258.length : Int) := of_decide_eq_true (by first | (with_reducible assumption) | assumption)
       obtain ⟨ad261, e261, hx261_0⟩ := Kd.at_string (Kd.R_reads' HO_4.out).2.2 x6_1 p261 q261
       cases e261
       replace p261 := eq_true p261
       replace q261 := eq_true q261
       go_wp2
       repeat (go_quiet (fail); try go_wp2)
       go_roundg k1
       case measure => have := HK1.out; omega
       case rel => exact ⟨(x5_1), (wrap64 (x6_1 + 1)), (by first | rfl | (simp; done) | (simp [*]; done)), H', ⟨by have := HK1.out; omega⟩, ⟨by (with_reducible repeat (first | apply Kd.R_alloc | apply Kd.R_drewN | apply Kd.R_drew)); exact HO_4.out⟩, ⟨by (with_reducible repeat (first | apply Kd.R_alloc | apply Kd.R_drewN | apply Kd.R_drew)); exact HO_5.out⟩, ⟨by repeat (first | (with_reducible first | exact HB.out | apply below_alloc | apply pw_below_drewN | apply below_drew1) | exact HB.out)⟩⟩
     ·rw [if_neg c6] at H
      exact absurd H (by simp)
    ·rw [if_neg c5] at H
     have c5b0 := decide_eq_false c5
     clear c5
     by_cases c37 : a0.toList = ([47, 42, 10] : List UInt8)
     ·rw [if_pos c37] at H
      have c37b0 : (a0.toList == ([47, 42, 10] : List UInt8)) = true := beq_iff_eq.mpr c37
      have c37b1 : (a0.toList != ([47, 42, 10] : List UInt8)) = false := bne_eq_false_iff_eq.mpr c37
      clear c37
      obtain ⟨y274, hy274⟩ : ∃ y_ : List ByteArray, y_ = (([(⟨#[]⟩ : ByteArray)] : List ByteArray)) := ⟨_, rfl⟩
      replace H : ((copseref17_Write.f k1 y274).bind fun bt277 => (if bt277.2 = 0 then (if bt277.1.toList = a0.toList then (some (y274, 0)) else (some (([] : List ByteArray), 18))) else (some (([] : List ByteArray), 18)))) = some (r1, r2) := by first | (rw [hy274]; with_reducible exact H) | (have H2_ := (Option.bind_some _ _).symm.trans H; rw [hy274]; with_reducible exact H2_) | (have H2_ := (Option.bind_some _ _).symm.trans H; with_reducible exact H2_) | with_reducible exact H | (rw [hy274]; exact H) | exact H
      have Ny274 := Aside0.mk hy274
      clear hy274
      replace H := Option.bind_eq_some_iff.mp H
      obtain ⟨⟨t277, t278⟩, A380, H⟩ := H
      replace H : (if t278 = 0 then (if t277.toList = a0.toList then (some (y274, 0)) else (some (([] : List ByteArray), 18))) else (some (([] : List ByteArray), 18))) = some (r1, r2) := H
      have A38 := Aside0.mk A380
      clear A380
      by_cases c39 : t278 = 0
      ·rw [if_pos c39] at H
       have c39b0 : (t278 == 0) = true := beq_iff_eq.mpr c39
       have c39b1 : (t278 != 0) = false := bne_eq_false_iff_eq.mpr c39
       clear c39
       by_cases c40 : t277.toList = a0.toList
       ·rw [if_pos c40] at H
        have c40b0 : (t277.toList == a0.toList) = true := beq_iff_eq.mpr c40
        have c40b1 : (t277.toList != a0.toList) = false := bne_eq_false_iff_eq.mpr c40
        clear c40
        simp only [Option.some.injEq, Prod.mk.injEq] at H
        obtain ⟨rfl, rfl⟩ := H
        obtain ⟨Ao41, co41, eo41⟩ := Kd.R_slice HO_4.out
        subst eo41
        go_wp2_with (first | ((with_reducible refine gate_dst (N := 79) rfl ?_); (try (refine gate_guard (by rfl) ?_; dsimp only)); refine Kd.R_lit Kd.string _ 9 ?hg (N := 79) ?hd (xs := ([(⟨#[]⟩ : ByteArray)] : List ByteArray)) (inner := [.string (⟨#[]⟩ : ByteArray)]) (ok := fun _ => True) (okp := fun _ => True) ?hr ?hp (fun _ hk => hk) trivial (Below.refl _ _) (Nat.le_refl _) (by simp) ?_; (case hd => rfl); (case hg => rfl); (case hr => first | (go_simp; done) | (go_simp; rfl)); (case hp => exact (Reps.one (show Kd.M Kd.string _ _ _ (⟨#[]⟩ : ByteArray) [.string (⟨#[]⟩ : ByteArray)] from rfl) (Reps.none _ _))); intro v275 w42 ho43 hb hg_ hnew_; clear hg_ hnew_; (first | rw [← Ny274.out] at ho43 | (simp only [Int.reduceToNat] at ho43; rw [← Ny274.out] at ho43)); have n0_ := Aside0.mk (Kd.R_elder' (by (with_reducible repeat (first | apply Kd.R_alloc | apply Kd.R_drewN | apply Kd.R_drew)); exact HO_4.out) (Kd.R_base ho43) hb); have n1_ := Aside0.mk (Kd.R_elder' (by (with_reducible repeat (first | apply Kd.R_alloc | apply Kd.R_drewN | apply Kd.R_drew)); exact HO_5.out) (Kd.R_base ho43) hb); have n2_ := Aside0.mk (Kd.R_lower (Kd.R_new' (Kd.R_new' ho43 (Kd.R_lt (by (with_reducible repeat (first | apply Kd.R_alloc | apply Kd.R_drewN | apply Kd.R_drew)); exact HO_4.out))) (Kd.R_lt (by (with_reducible repeat (first | apply Kd.R_alloc | apply Kd.R_drewN | apply Kd.R_drew)); exact HO_5.out))) (below_size (by repeat (first | (with_reducible first | exact HB.out | apply below_alloc | apply pw_below_drewN | apply below_drew1) | exact HB.out)))); have n3_ := Aside0.mk (below_step (by repeat (first | (with_reducible first | exact HB.out | apply below_alloc | apply pw_below_drewN | apply below_drew1) | exact HB.out)) hb); clear HO_4; clear HO_5; clear HB; have HO_4 := n0_; have HO_5 := n1_; have HO276 := n2_; have HB := n3_; clear n0_ n1_ n2_ n3_; clear hb ho43; obtain ⟨Ao44, co44, eo44⟩ := Kd.R_slice HO276.out; subst eo44) | (go_at_call 10; (with_reducible refine (copseref17_Write.calls k1 _ _ y274 t277 t278 _ ?side1 ?side2 A38.out).mono ?_); (case side1 => repeat (first | exact (Kd.R_reads' HO276.out).2.2 | (with_reducible refine Kd.C_alloc ?_ _) | (with_reducible refine Kd.C_drewN ?_ _) | (with_reducible refine Kd.C_drew ?_))); (case side2 => exact (Kd.R_reads' HO276.out).2.1); rintro e w45 ⟨rfl, hb⟩; have n0_ := Aside0.mk (Kd.R_below (by (with_reducible repeat (first | apply Kd.R_alloc | apply Kd.R_drewN | apply Kd.R_drew)); exact HO_4.out) hb); have n1_ := Aside0.mk (Kd.R_below (by (with_reducible repeat (first | apply Kd.R_alloc | apply Kd.R_drewN | apply Kd.R_drew)); exact HO_5.out) hb); have n2_ := Aside0.mk (Kd.R_below (by (with_reducible repeat (first | apply Kd.R_alloc | apply Kd.R_drewN | apply Kd.R_drew)); exact HO276.out) hb); have n3_ := Aside0.mk (below_step (by repeat (first | (with_reducible first | exact HB.out | apply below_alloc | apply pw_below_drewN | apply below_drew1) | exact HB.out)) hb); clear HO_4; clear HO_5; clear HO276; clear HB; have HO_4 := n0_; have HO_5 := n1_; have HO276 := n2_; have HB := n3_; clear n0_ n1_ n2_ n3_; (try clear hb); (try clear hb2); (try clear hk); (try clear hi)))
        repeat (go_quiet (first | ((with_reducible refine gate_dst (N := 79) rfl ?_); (try (refine gate_guard (by rfl) ?_; dsimp only)); refine Kd.R_lit Kd.string _ 9 ?hg (N := 79) ?hd (xs := ([(⟨#[]⟩ : ByteArray)] : List ByteArray)) (inner := [.string (⟨#[]⟩ : ByteArray)]) (ok := fun _ => True) (okp := fun _ => True) ?hr ?hp (fun _ hk => hk) trivial (Below.refl _ _) (Nat.le_refl _) (by simp) ?_; (case hd => rfl); (case hg => rfl); (case hr => first | (go_simp; done) | (go_simp; rfl)); (case hp => exact (Reps.one (show Kd.M Kd.string _ _ _ (⟨#[]⟩ : ByteArray) [.string (⟨#[]⟩ : ByteArray)] from rfl) (Reps.none _ _))); intro v275 w42 ho43 hb hg_ hnew_; clear hg_ hnew_; (first | rw [← Ny274.out] at ho43 | (simp only [Int.reduceToNat] at ho43; rw [← Ny274.out] at ho43)); have n0_ := Aside0.mk (Kd.R_elder' (by (with_reducible repeat (first | apply Kd.R_alloc | apply Kd.R_drewN | apply Kd.R_drew)); exact HO_4.out) (Kd.R_base ho43) hb); have n1_ := Aside0.mk (Kd.R_elder' (by (with_reducible repeat (first | apply Kd.R_alloc | apply Kd.R_drewN | apply Kd.R_drew)); exact HO_5.out) (Kd.R_base ho43) hb); have n2_ := Aside0.mk (Kd.R_lower (Kd.R_new' (Kd.R_new' ho43 (Kd.R_lt (by (with_reducible repeat (first | apply Kd.R_alloc | apply Kd.R_drewN | apply Kd.R_drew)); exact HO_4.out))) (Kd.R_lt (by (with_reducible repeat (first | apply Kd.R_alloc | apply Kd.R_drewN | apply Kd.R_drew)); exact HO_5.out))) (below_size (by repeat (first | (with_reducible first | exact HB.out | apply below_alloc | apply pw_below_drewN | apply below_drew1) | exact HB.out)))); have n3_ := Aside0.mk (below_step (by repeat (first | (with_reducible first | exact HB.out | apply below_alloc | apply pw_below_drewN | apply below_drew1) | exact HB.out)) hb); clear HO_4; clear HO_5; clear HB; have HO_4 := n0_; have HO_5 := n1_; have HO276 := n2_; have HB := n3_; clear n0_ n1_ n2_ n3_; clear hb ho43; obtain ⟨Ao44, co44, eo44⟩ := Kd.R_slice HO276.out; subst eo44) | (go_at_call 10; (with_reducible refine (copseref17_Write.calls k1 _ _ y274 t277 t278 _ ?side1 ?side2 A38.out).mono ?_); (case side1 => repeat (first | exact (Kd.R_reads' HO276.out).2.2 | (with_reducible refine Kd.C_alloc ?_ _) | (with_reducible refine Kd.C_drewN ?_ _) | (with_reducible refine Kd.C_drew ?_))); (case side2 => exact (Kd.R_reads' HO276.out).2.1); rintro e w45 ⟨rfl, hb⟩; have n0_ := Aside0.mk (Kd.R_below (by (with_reducible repeat (first | apply Kd.R_alloc | apply Kd.R_drewN | apply Kd.R_drew)); exact HO_4.out) hb); have n1_ := Aside0.mk (Kd.R_below (by (with_reducible repeat (first | apply Kd.R_alloc | apply Kd.R_drewN | apply Kd.R_drew)); exact HO_5.out) hb); have n2_ := Aside0.mk (Kd.R_below (by (with_reducible repeat (first | apply Kd.R_alloc | apply Kd.R_drewN | apply Kd.R_drew)); exact HO276.out) hb); have n3_ := Aside0.mk (below_step (by repeat (first | (with_reducible first | exact HB.out | apply below_alloc | apply pw_below_drewN | apply below_drew1) | exact HB.out)) hb); clear HO_4; clear HO_5; clear HO276; clear HB; have HO_4 := n0_; have HO_5 := n1_; have HO276 := n2_; have HB := n3_; clear n0_ n1_ n2_ n3_; (try clear hb); (try clear hb2); (try clear hk); (try clear hi))); try go_wp2_with (first | ((with_reducible refine gate_dst (N := 79) rfl ?_); (try (refine gate_guard (by rfl) ?_; dsimp only)); refine Kd.R_lit Kd.string _ 9 ?hg (N := 79) ?hd (xs := ([(⟨#[]⟩ : ByteArray)] : List ByteArray)) (inner := [.string (⟨#[]⟩ : ByteArray)]) (ok := fun _ => True) (okp := fun _ => True) ?hr ?hp (fun _ hk => hk) trivial (Below.refl _ _) (Nat.le_refl _) (by simp) ?_; (case hd => rfl); (case hg => rfl); (case hr => first | (go_simp; done) | (go_simp; rfl)); (case hp => exact (Reps.one (show Kd.M Kd.string _ _ _ (⟨#[]⟩ : ByteArray) [.string (⟨#[]⟩ : ByteArray)] from rfl) (Reps.none _ _))); intro v275 w42 ho43 hb hg_ hnew_; clear hg_ hnew_; (first | rw [← Ny274.out] at ho43 | (simp only [Int.reduceToNat] at ho43; rw [← Ny274.out] at ho43)); have n0_ := Aside0.mk (Kd.R_elder' (by (with_reducible repeat (first | apply Kd.R_alloc | apply Kd.R_drewN | apply Kd.R_drew)); exact HO_4.out) (Kd.R_base ho43) hb); have n1_ := Aside0.mk (Kd.R_elder' (by (with_reducible repeat (first | apply Kd.R_alloc | apply Kd.R_drewN | apply Kd.R_drew)); exact HO_5.out) (Kd.R_base ho43) hb); have n2_ := Aside0.mk (Kd.R_lower (Kd.R_new' (Kd.R_new' ho43 (Kd.R_lt (by (with_reducible repeat (first | apply Kd.R_alloc | apply Kd.R_drewN | apply Kd.R_drew)); exact HO_4.out))) (Kd.R_lt (by (with_reducible repeat (first | apply Kd.R_alloc | apply Kd.R_drewN | apply Kd.R_drew)); exact HO_5.out))) (below_size (by repeat (first | (with_reducible first | exact HB.out | apply below_alloc | apply pw_below_drewN | apply below_drew1) | exact HB.out)))); have n3_ := Aside0.mk (below_step (by repeat (first | (with_reducible first | exact HB.out | apply below_alloc | apply pw_below_drewN | apply below_drew1) | exact HB.out)) hb); clear HO_4; clear HO_5; clear HB; have HO_4 := n0_; have HO_5 := n1_; have HO276 := n2_; have HB := n3_; clear n0_ n1_ n2_ n3_; clear hb ho43; obtain ⟨Ao44, co44, eo44⟩ := Kd.R_slice HO276.out; subst eo44) | (go_at_call 10; (with_reducible refine (copseref17_Write.calls k1 _ _ y274 t277 t278 _ ?side1 ?side2 A38.out).mono ?_); (case side1 => repeat (first | exact (Kd.R_reads' HO276.out).2.2 | (with_reducible refine Kd.C_alloc ?_ _) | (with_reducible refine Kd.C_drewN ?_ _) | (with_reducible refine Kd.C_drew ?_))); (case side2 => exact (Kd.R_reads' HO276.out).2.1); rintro e w45 ⟨rfl, hb⟩; have n0_ := Aside0.mk (Kd.R_below (by (with_reducible repeat (first | apply Kd.R_alloc | apply Kd.R_drewN | apply Kd.R_drew)); exact HO_4.out) hb); have n1_ := Aside0.mk (Kd.R_below (by (with_reducible repeat (first | apply Kd.R_alloc | apply Kd.R_drewN | apply Kd.R_drew)); exact HO_5.out) hb); have n2_ := Aside0.mk (Kd.R_below (by (with_reducible repeat (first | apply Kd.R_alloc | apply Kd.R_drewN | apply Kd.R_drew)); exact HO276.out) hb); have n3_ := Aside0.mk (below_step (by repeat (first | (with_reducible first | exact HB.out | apply below_alloc | apply pw_below_drewN | apply below_drew1) | exact HB.out)) hb); clear HO_4; clear HO_5; clear HO276; clear HB; have HO_4 := n0_; have HO_5 := n1_; have HO276 := n2_; have HB := n3_; clear n0_ n1_ n2_ n3_; (try clear hb); (try clear hb2); (try clear hk); (try clear hi))))
        go_ret2
        exact ⟨_, by first | rfl | (simp [errW_none, errW_some] <;> rfl) | (simp [*, errW_none, errW_some] <;> rfl), by (with_reducible repeat (first | apply Kd.R_alloc | apply Kd.R_drewN | apply Kd.R_drew)); exact Kd.R_mono HO276.out (fun _ hk => trivial), by repeat (first | (with_reducible first | exact HB.out | apply below_alloc | apply pw_below_drewN | apply below_drew1) | exact HB.out)⟩
       ·rw [if_neg c40] at H
        have c40b0 : (t277.toList == a0.toList) = false := beq_eq_false_iff_ne.mpr c40
        have c40b1 : (t277.toList != a0.toList) = true := bne_iff_ne.mpr c40
        simp only [Option.some.injEq, Prod.mk.injEq] at H
        obtain ⟨rfl, rfl⟩ := H
        obtain ⟨Ao46, co46, eo46⟩ := Kd.R_slice HO_4.out
        subst eo46
        go_wp2_with (first | ((with_reducible refine gate_dst (N := 79) rfl ?_); (try (refine gate_guard (by rfl) ?_; dsimp only)); refine Kd.R_lit Kd.string _ 9 ?hg (N := 79) ?hd (xs := ([(⟨#[]⟩ : ByteArray)] : List ByteArray)) (inner := [.string (⟨#[]⟩ : ByteArray)]) (ok := fun _ => True) (okp := fun _ => True) ?hr ?hp (fun _ hk => hk) trivial (Below.refl _ _) (Nat.le_refl _) (by simp) ?_; (case hd => rfl); (case hg => rfl); (case hr => first | (go_simp; done) | (go_simp; rfl)); (case hp => exact (Reps.one (show Kd.M Kd.string _ _ _ (⟨#[]⟩ : ByteArray) [.string (⟨#[]⟩ : ByteArray)] from rfl) (Reps.none _ _))); intro v275 w47 ho48 hb hg_ hnew_; clear hg_ hnew_; (first | rw [← Ny274.out] at ho48 | (simp only [Int.reduceToNat] at ho48; rw [← Ny274.out] at ho48)); have n0_ := Aside0.mk (Kd.R_elder' (by (with_reducible repeat (first | apply Kd.R_alloc | apply Kd.R_drewN | apply Kd.R_drew)); exact HO_4.out) (Kd.R_base ho48) hb); have n1_ := Aside0.mk (Kd.R_elder' (by (with_reducible repeat (first | apply Kd.R_alloc | apply Kd.R_drewN | apply Kd.R_drew)); exact HO_5.out) (Kd.R_base ho48) hb); have n2_ := Aside0.mk (Kd.R_lower (Kd.R_new' (Kd.R_new' ho48 (Kd.R_lt (by (with_reducible repeat (first | apply Kd.R_alloc | apply Kd.R_drewN | apply Kd.R_drew)); exact HO_4.out))) (Kd.R_lt (by (with_reducible repeat (first | apply Kd.R_alloc | apply Kd.R_drewN | apply Kd.R_drew)); exact HO_5.out))) (below_size (by repeat (first | (with_reducible first | exact HB.out | apply below_alloc | apply pw_below_drewN | apply below_drew1) | exact HB.out)))); have n3_ := Aside0.mk (below_step (by repeat (first | (with_reducible first | exact HB.out | apply below_alloc | apply pw_below_drewN | apply below_drew1) | exact HB.out)) hb); clear HO_4; clear HO_5; clear HB; have HO_4 := n0_; have HO_5 := n1_; have HO276 := n2_; have HB := n3_; clear n0_ n1_ n2_ n3_; clear hb ho48; obtain ⟨Ao49, co49, eo49⟩ := Kd.R_slice HO276.out; subst eo49) | (go_at_call 10; (with_reducible refine (copseref17_Write.calls k1 _ _ y274 t277 t278 _ ?side1 ?side2 A38.out).mono ?_); (case side1 => repeat (first | exact (Kd.R_reads' HO276.out).2.2 | (with_reducible refine Kd.C_alloc ?_ _) | (with_reducible refine Kd.C_drewN ?_ _) | (with_reducible refine Kd.C_drew ?_))); (case side2 => exact (Kd.R_reads' HO276.out).2.1); rintro e w50 ⟨rfl, hb⟩; have n0_ := Aside0.mk (Kd.R_below (by (with_reducible repeat (first | apply Kd.R_alloc | apply Kd.R_drewN | apply Kd.R_drew)); exact HO_4.out) hb); have n1_ := Aside0.mk (Kd.R_below (by (with_reducible repeat (first | apply Kd.R_alloc | apply Kd.R_drewN | apply Kd.R_drew)); exact HO_5.out) hb); have n2_ := Aside0.mk (Kd.R_below (by (with_reducible repeat (first | apply Kd.R_alloc | apply Kd.R_drewN | apply Kd.R_drew)); exact HO276.out) hb); have n3_ := Aside0.mk (below_step (by repeat (first | (with_reducible first | exact HB.out | apply below_alloc | apply pw_below_drewN | apply below_drew1) | exact HB.out)) hb); clear HO_4; clear HO_5; clear HO276; clear HB; have HO_4 := n0_; have HO_5 := n1_; have HO276 := n2_; have HB := n3_; clear n0_ n1_ n2_ n3_; (try clear hb); (try clear hb2); (try clear hk); (try clear hi)))
        repeat (go_quiet (first | ((with_reducible refine gate_dst (N := 79) rfl ?_); (try (refine gate_guard (by rfl) ?_; dsimp only)); refine Kd.R_lit Kd.string _ 9 ?hg (N := 79) ?hd (xs := ([(⟨#[]⟩ : ByteArray)] : List ByteArray)) (inner := [.string (⟨#[]⟩ : ByteArray)]) (ok := fun _ => True) (okp := fun _ => True) ?hr ?hp (fun _ hk => hk) trivial (Below.refl _ _) (Nat.le_refl _) (by simp) ?_; (case hd => rfl); (case hg => rfl); (case hr => first | (go_simp; done) | (go_simp; rfl)); (case hp => exact (Reps.one (show Kd.M Kd.string _ _ _ (⟨#[]⟩ : ByteArray) [.string (⟨#[]⟩ : ByteArray)] from rfl) (Reps.none _ _))); intro v275 w47 ho48 hb hg_ hnew_; clear hg_ hnew_; (first | rw [← Ny274.out] at ho48 | (simp only [Int.reduceToNat] at ho48; rw [← Ny274.out] at ho48)); have n0_ := Aside0.mk (Kd.R_elder' (by (with_reducible repeat (first | apply Kd.R_alloc | apply Kd.R_drewN | apply Kd.R_drew)); exact HO_4.out) (Kd.R_base ho48) hb); have n1_ := Aside0.mk (Kd.R_elder' (by (with_reducible repeat (first | apply Kd.R_alloc | apply Kd.R_drewN | apply Kd.R_drew)); exact HO_5.out) (Kd.R_base ho48) hb); have n2_ := Aside0.mk (Kd.R_lower (Kd.R_new' (Kd.R_new' ho48 (Kd.R_lt (by (with_reducible repeat (first | apply Kd.R_alloc | apply Kd.R_drewN | apply Kd.R_drew)); exact HO_4.out))) (Kd.R_lt (by (with_reducible repeat (first | apply Kd.R_alloc | apply Kd.R_drewN | apply Kd.R_drew)); exact HO_5.out))) (below_size (by repeat (first | (with_reducible first | exact HB.out | apply below_alloc | apply pw_below_drewN | apply below_drew1) | exact HB.out)))); have n3_ := Aside0.mk (below_step (by repeat (first | (with_reducible first | exact HB.out | apply below_alloc | apply pw_below_drewN | apply below_drew1) | exact HB.out)) hb); clear HO_4; clear HO_5; clear HB; have HO_4 := n0_; have HO_5 := n1_; have HO276 := n2_; have HB := n3_; clear n0_ n1_ n2_ n3_; clear hb ho48; obtain ⟨Ao49, co49, eo49⟩ := Kd.R_slice HO276.out; subst eo49) | (go_at_call 10; (with_reducible refine (copseref17_Write.calls k1 _ _ y274 t277 t278 _ ?side1 ?side2 A38.out).mono ?_); (case side1 => repeat (first | exact (Kd.R_reads' HO276.out).2.2 | (with_reducible refine Kd.C_alloc ?_ _) | (with_reducible refine Kd.C_drewN ?_ _) | (with_reducible refine Kd.C_drew ?_))); (case side2 => exact (Kd.R_reads' HO276.out).2.1); rintro e w50 ⟨rfl, hb⟩; have n0_ := Aside0.mk (Kd.R_below (by (with_reducible repeat (first | apply Kd.R_alloc | apply Kd.R_drewN | apply Kd.R_drew)); exact HO_4.out) hb); have n1_ := Aside0.mk (Kd.R_below (by (with_reducible repeat (first | apply Kd.R_alloc | apply Kd.R_drewN | apply Kd.R_drew)); exact HO_5.out) hb); have n2_ := Aside0.mk (Kd.R_below (by (with_reducible repeat (first | apply Kd.R_alloc | apply Kd.R_drewN | apply Kd.R_drew)); exact HO276.out) hb); have n3_ := Aside0.mk (below_step (by repeat (first | (with_reducible first | exact HB.out | apply below_alloc | apply pw_below_drewN | apply below_drew1) | exact HB.out)) hb); clear HO_4; clear HO_5; clear HO276; clear HB; have HO_4 := n0_; have HO_5 := n1_; have HO276 := n2_; have HB := n3_; clear n0_ n1_ n2_ n3_; (try clear hb); (try clear hb2); (try clear hk); (try clear hi))); try go_wp2_with (first | ((with_reducible refine gate_dst (N := 79) rfl ?_); (try (refine gate_guard (by rfl) ?_; dsimp only)); refine Kd.R_lit Kd.string _ 9 ?hg (N := 79) ?hd (xs := ([(⟨#[]⟩ : ByteArray)] : List ByteArray)) (inner := [.string (⟨#[]⟩ : ByteArray)]) (ok := fun _ => True) (okp := fun _ => True) ?hr ?hp (fun _ hk => hk) trivial (Below.refl _ _) (Nat.le_refl _) (by simp) ?_; (case hd => rfl); (case hg => rfl); (case hr => first | (go_simp; done) | (go_simp; rfl)); (case hp => exact (Reps.one (show Kd.M Kd.string _ _ _ (⟨#[]⟩ : ByteArray) [.string (⟨#[]⟩ : ByteArray)] from rfl) (Reps.none _ _))); intro v275 w47 ho48 hb hg_ hnew_; clear hg_ hnew_; (first | rw [← Ny274.out] at ho48 | (simp only [Int.reduceToNat] at ho48; rw [← Ny274.out] at ho48)); have n0_ := Aside0.mk (Kd.R_elder' (by (with_reducible repeat (first | apply Kd.R_alloc | apply Kd.R_drewN | apply Kd.R_drew)); exact HO_4.out) (Kd.R_base ho48) hb); have n1_ := Aside0.mk (Kd.R_elder' (by (with_reducible repeat (first | apply Kd.R_alloc | apply Kd.R_drewN | apply Kd.R_drew)); exact HO_5.out) (Kd.R_base ho48) hb); have n2_ := Aside0.mk (Kd.R_lower (Kd.R_new' (Kd.R_new' ho48 (Kd.R_lt (by (with_reducible repeat (first | apply Kd.R_alloc | apply Kd.R_drewN | apply Kd.R_drew)); exact HO_4.out))) (Kd.R_lt (by (with_reducible repeat (first | apply Kd.R_alloc | apply Kd.R_drewN | apply Kd.R_drew)); exact HO_5.out))) (below_size (by repeat (first | (with_reducible first | exact HB.out | apply below_alloc | apply pw_below_drewN | apply below_drew1) | exact HB.out)))); have n3_ := Aside0.mk (below_step (by repeat (first | (with_reducible first | exact HB.out | apply below_alloc | apply pw_below_drewN | apply below_drew1) | exact HB.out)) hb); clear HO_4; clear HO_5; clear HB; have HO_4 := n0_; have HO_5 := n1_; have HO276 := n2_; have HB := n3_; clear n0_ n1_ n2_ n3_; clear hb ho48; obtain ⟨Ao49, co49, eo49⟩ := Kd.R_slice HO276.out; subst eo49) | (go_at_call 10; (with_reducible refine (copseref17_Write.calls k1 _ _ y274 t277 t278 _ ?side1 ?side2 A38.out).mono ?_); (case side1 => repeat (first | exact (Kd.R_reads' HO276.out).2.2 | (with_reducible refine Kd.C_alloc ?_ _) | (with_reducible refine Kd.C_drewN ?_ _) | (with_reducible refine Kd.C_drew ?_))); (case side2 => exact (Kd.R_reads' HO276.out).2.1); rintro e w50 ⟨rfl, hb⟩; have n0_ := Aside0.mk (Kd.R_below (by (with_reducible repeat (first | apply Kd.R_alloc | apply Kd.R_drewN | apply Kd.R_drew)); exact HO_4.out) hb); have n1_ := Aside0.mk (Kd.R_below (by (with_reducible repeat (first | apply Kd.R_alloc | apply Kd.R_drewN | apply Kd.R_drew)); exact HO_5.out) hb); have n2_ := Aside0.mk (Kd.R_below (by (with_reducible repeat (first | apply Kd.R_alloc | apply Kd.R_drewN | apply Kd.R_drew)); exact HO276.out) hb); have n3_ := Aside0.mk (below_step (by repeat (first | (with_reducible first | exact HB.out | apply below_alloc | apply pw_below_drewN | apply below_drew1) | exact HB.out)) hb); clear HO_4; clear HO_5; clear HO276; clear HB; have HO_4 := n0_; have HO_5 := n1_; have HO276 := n2_; have HB := n3_; clear n0_ n1_ n2_ n3_; (try clear hb); (try clear hb2); (try clear hk); (try clear hi))))
        go_ret2
        exact ⟨_, by first | rfl | (simp [errW_none, errW_some] <;> rfl) | (simp [*, errW_none, errW_some] <;> rfl), by first | exact Kd.R_nil _ _ _ _ _ | exact Kd.N_nil _ _ _ _ _ | exact Kd.V_nil _ _ _ _ _ | exact Kd.Q_nil _ _ _ _ _ | exact Kd.S_nil _ _ _ _ _, by repeat (first | (with_reducible first | exact HB.out | apply below_alloc | apply pw_below_drewN | apply below_drew1) | exact HB.out)⟩
      ·rw [if_neg c39] at H
       have c39b0 : (t278 == 0) = false := beq_eq_false_iff_ne.mpr c39
       have c39b1 : (t278 != 0) = true := bne_iff_ne.mpr c39
       simp only [Option.some.injEq, Prod.mk.injEq] at H
       obtain ⟨rfl, rfl⟩ := H
       obtain ⟨Ao51, co51, eo51⟩ := Kd.R_slice HO_4.out
       subst eo51
       go_wp2_with (first | ((with_reducible refine gate_dst (N := 79) rfl ?_); (try (refine gate_guard (by rfl) ?_; dsimp only)); refine Kd.R_lit Kd.string _ 9 ?hg (N := 79) ?hd (xs := ([(⟨#[]⟩ : ByteArray)] : List ByteArray)) (inner := [.string (⟨#[]⟩ : ByteArray)]) (ok := fun _ => True) (okp := fun _ => True) ?hr ?hp (fun _ hk => hk) trivial (Below.refl _ _) (Nat.le_refl _) (by simp) ?_; (case hd => rfl); (case hg => rfl); (case hr => first | (go_simp; done) | (go_simp; rfl)); (case hp => exact (Reps.one (show Kd.M Kd.string _ _ _ (⟨#[]⟩ : ByteArray) [.string (⟨#[]⟩ : ByteArray)] from rfl) (Reps.none _ _))); intro v275 w52 ho53 hb hg_ hnew_; clear hg_ hnew_; (first | rw [← Ny274.out] at ho53 | (simp only [Int.reduceToNat] at ho53; rw [← Ny274.out] at ho53)); have n0_ := Aside0.mk (Kd.R_elder' (by (with_reducible repeat (first | apply Kd.R_alloc | apply Kd.R_drewN | apply Kd.R_drew)); exact HO_4.out) (Kd.R_base ho53) hb); have n1_ := Aside0.mk (Kd.R_elder' (by (with_reducible repeat (first | apply Kd.R_alloc | apply Kd.R_drewN | apply Kd.R_drew)); exact HO_5.out) (Kd.R_base ho53) hb); have n2_ := Aside0.mk (Kd.R_lower (Kd.R_new' (Kd.R_new' ho53 (Kd.R_lt (by (with_reducible repeat (first | apply Kd.R_alloc | apply Kd.R_drewN | apply Kd.R_drew)); exact HO_4.out))) (Kd.R_lt (by (with_reducible repeat (first | apply Kd.R_alloc | apply Kd.R_drewN | apply Kd.R_drew)); exact HO_5.out))) (below_size (by repeat (first | (with_reducible first | exact HB.out | apply below_alloc | apply pw_below_drewN | apply below_drew1) | exact HB.out)))); have n3_ := Aside0.mk (below_step (by repeat (first | (with_reducible first | exact HB.out | apply below_alloc | apply pw_below_drewN | apply below_drew1) | exact HB.out)) hb); clear HO_4; clear HO_5; clear HB; have HO_4 := n0_; have HO_5 := n1_; have HO276 := n2_; have HB := n3_; clear n0_ n1_ n2_ n3_; clear hb ho53; obtain ⟨Ao54, co54, eo54⟩ := Kd.R_slice HO276.out; subst eo54) | (go_at_call 10; (with_reducible refine (copseref17_Write.calls k1 _ _ y274 t277 t278 _ ?side1 ?side2 A38.out).mono ?_); (case side1 => repeat (first | exact (Kd.R_reads' HO276.out).2.2 | (with_reducible refine Kd.C_alloc ?_ _) | (with_reducible refine Kd.C_drewN ?_ _) | (with_reducible refine Kd.C_drew ?_))); (case side2 => exact (Kd.R_reads' HO276.out).2.1); rintro e w55 ⟨rfl, hb⟩; have n0_ := Aside0.mk (Kd.R_below (by (with_reducible repeat (first | apply Kd.R_alloc | apply Kd.R_drewN | apply Kd.R_drew)); exact HO_4.out) hb); have n1_ := Aside0.mk (Kd.R_below (by (with_reducible repeat (first | apply Kd.R_alloc | apply Kd.R_drewN | apply Kd.R_drew)); exact HO_5.out) hb); have n2_ := Aside0.mk (Kd.R_below (by (with_reducible repeat (first | apply Kd.R_alloc | apply Kd.R_drewN | apply Kd.R_drew)); exact HO276.out) hb); have n3_ := Aside0.mk (below_step (by repeat (first | (with_reducible first | exact HB.out | apply below_alloc | apply pw_below_drewN | apply below_drew1) | exact HB.out)) hb); clear HO_4; clear HO_5; clear HO276; clear HB; have HO_4 := n0_; have HO_5 := n1_; have HO276 := n2_; have HB := n3_; clear n0_ n1_ n2_ n3_; (try clear hb); (try clear hb2); (try clear hk); (try clear hi)))
       repeat (go_quiet (first | ((with_reducible refine gate_dst (N := 79) rfl ?_); (try (refine gate_guard (by rfl) ?_; dsimp only)); refine Kd.R_lit Kd.string _ 9 ?hg (N := 79) ?hd (xs := ([(⟨#[]⟩ : ByteArray)] : List ByteArray)) (inner := [.string (⟨#[]⟩ : ByteArray)]) (ok := fun _ => True) (okp := fun _ => True) ?hr ?hp (fun _ hk => hk) trivial (Below.refl _ _) (Nat.le_refl _) (by simp) ?_; (case hd => rfl); (case hg => rfl); (case hr => first | (go_simp; done) | (go_simp; rfl)); (case hp => exact (Reps.one (show Kd.M Kd.string _ _ _ (⟨#[]⟩ : ByteArray) [.string (⟨#[]⟩ : ByteArray)] from rfl) (Reps.none _ _))); intro v275 w52 ho53 hb hg_ hnew_; clear hg_ hnew_; (first | rw [← Ny274.out] at ho53 | (simp only [Int.reduceToNat] at ho53; rw [← Ny274.out] at ho53)); have n0_ := Aside0.mk (Kd.R_elder' (by (with_reducible repeat (first | apply Kd.R_alloc | apply Kd.R_drewN | apply Kd.R_drew)); exact HO_4.out) (Kd.R_base ho53) hb); have n1_ := Aside0.mk (Kd.R_elder' (by (with_reducible repeat (first | apply Kd.R_alloc | apply Kd.R_drewN | apply Kd.R_drew)); exact HO_5.out) (Kd.R_base ho53) hb); have n2_ := Aside0.mk (Kd.R_lower (Kd.R_new' (Kd.R_new' ho53 (Kd.R_lt (by (with_reducible repeat (first | apply Kd.R_alloc | apply Kd.R_drewN | apply Kd.R_drew)); exact HO_4.out))) (Kd.R_lt (by (with_reducible repeat (first | apply Kd.R_alloc | apply Kd.R_drewN | apply Kd.R_drew)); exact HO_5.out))) (below_size (by repeat (first | (with_reducible first | exact HB.out | apply below_alloc | apply pw_below_drewN | apply below_drew1) | exact HB.out)))); have n3_ := Aside0.mk (below_step (by repeat (first | (with_reducible first | exact HB.out | apply below_alloc | apply pw_below_drewN | apply below_drew1) | exact HB.out)) hb); clear HO_4; clear HO_5; clear HB; have HO_4 := n0_; have HO_5 := n1_; have HO276 := n2_; have HB := n3_; clear n0_ n1_ n2_ n3_; clear hb ho53; obtain ⟨Ao54, co54, eo54⟩ := Kd.R_slice HO276.out; subst eo54) | (go_at_call 10; (with_reducible refine (copseref17_Write.calls k1 _ _ y274 t277 t278 _ ?side1 ?side2 A38.out).mono ?_); (case side1 => repeat (first | exact (Kd.R_reads' HO276.out).2.2 | (with_reducible refine Kd.C_alloc ?_ _) | (with_reducible refine Kd.C_drewN ?_ _) | (with_reducible refine Kd.C_drew ?_))); (case side2 => exact (Kd.R_reads' HO276.out).2.1); rintro e w55 ⟨rfl, hb⟩; have n0_ := Aside0.mk (Kd.R_below (by (with_reducible repeat (first | apply Kd.R_alloc | apply Kd.R_drewN | apply Kd.R_drew)); exact HO_4.out) hb); have n1_ := Aside0.mk (Kd.R_below (by (with_reducible repeat (first | apply Kd.R_alloc | apply Kd.R_drewN | apply Kd.R_drew)); exact HO_5.out) hb); have n2_ := Aside0.mk (Kd.R_below (by (with_reducible repeat (first | apply Kd.R_alloc | apply Kd.R_drewN | apply Kd.R_drew)); exact HO276.out) hb); have n3_ := Aside0.mk (below_step (by repeat (first | (with_reducible first | exact HB.out | apply below_alloc | apply pw_below_drewN | apply below_drew1) | exact HB.out)) hb); clear HO_4; clear HO_5; clear HO276; clear HB; have HO_4 := n0_; have HO_5 := n1_; have HO276 := n2_; have HB := n3_; clear n0_ n1_ n2_ n3_; (try clear hb); (try clear hb2); (try clear hk); (try clear hi))); try go_wp2_with (first | ((with_reducible refine gate_dst (N := 79) rfl ?_); (try (refine gate_guard (by rfl) ?_; dsimp only)); refine Kd.R_lit Kd.string _ 9 ?hg (N := 79) ?hd (xs := ([(⟨#[]⟩ : ByteArray)] : List ByteArray)) (inner := [.string (⟨#[]⟩ : ByteArray)]) (ok := fun _ => True) (okp := fun _ => True) ?hr ?hp (fun _ hk => hk) trivial (Below.refl _ _) (Nat.le_refl _) (by simp) ?_; (case hd => rfl); (case hg => rfl); (case hr => first | (go_simp; done) | (go_simp; rfl)); (case hp => exact (Reps.one (show Kd.M Kd.string _ _ _ (⟨#[]⟩ : ByteArray) [.string (⟨#[]⟩ : ByteArray)] from rfl) (Reps.none _ _))); intro v275 w52 ho53 hb hg_ hnew_; clear hg_ hnew_; (first | rw [← Ny274.out] at ho53 | (simp only [Int.reduceToNat] at ho53; rw [← Ny274.out] at ho53)); have n0_ := Aside0.mk (Kd.R_elder' (by (with_reducible repeat (first | apply Kd.R_alloc | apply Kd.R_drewN | apply Kd.R_drew)); exact HO_4.out) (Kd.R_base ho53) hb); have n1_ := Aside0.mk (Kd.R_elder' (by (with_reducible repeat (first | apply Kd.R_alloc | apply Kd.R_drewN | apply Kd.R_drew)); exact HO_5.out) (Kd.R_base ho53) hb); have n2_ := Aside0.mk (Kd.R_lower (Kd.R_new' (Kd.R_new' ho53 (Kd.R_lt (by (with_reducible repeat (first | apply Kd.R_alloc | apply Kd.R_drewN | apply Kd.R_drew)); exact HO_4.out))) (Kd.R_lt (by (with_reducible repeat (first | apply Kd.R_alloc | apply Kd.R_drewN | apply Kd.R_drew)); exact HO_5.out))) (below_size (by repeat (first | (with_reducible first | exact HB.out | apply below_alloc | apply pw_below_drewN | apply below_drew1) | exact HB.out)))); have n3_ := Aside0.mk (below_step (by repeat (first | (with_reducible first | exact HB.out | apply below_alloc | apply pw_below_drewN | apply below_drew1) | exact HB.out)) hb); clear HO_4; clear HO_5; clear HB; have HO_4 := n0_; have HO_5 := n1_; have HO276 := n2_; have HB := n3_; clear n0_ n1_ n2_ n3_; clear hb ho53; obtain ⟨Ao54, co54, eo54⟩ := Kd.R_slice HO276.out; subst eo54) | (go_at_call 10; (with_reducible refine (copseref17_Write.calls k1 _ _ y274 t277 t278 _ ?side1 ?side2 A38.out).mono ?_); (case side1 => repeat (first | exact (Kd.R_reads' HO276.out).2.2 | (with_reducible refine Kd.C_alloc ?_ _) | (with_reducible refine Kd.C_drewN ?_ _) | (with_reducible refine Kd.C_drew ?_))); (case side2 => exact (Kd.R_reads' HO276.out).2.1); rintro e w55 ⟨rfl, hb⟩; have n0_ := Aside0.mk (Kd.R_below (by (with_reducible repeat (first | apply Kd.R_alloc | apply Kd.R_drewN | apply Kd.R_drew)); exact HO_4.out) hb); have n1_ := Aside0.mk (Kd.R_below (by (with_reducible repeat (first | apply Kd.R_alloc | apply Kd.R_drewN | apply Kd.R_drew)); exact HO_5.out) hb); have n2_ := Aside0.mk (Kd.R_below (by (with_reducible repeat (first | apply Kd.R_alloc | apply Kd.R_drewN | apply Kd.R_drew)); exact HO276.out) hb); have n3_ := Aside0.mk (below_step (by repeat (first | (with_reducible first | exact HB.out | apply below_alloc | apply pw_below_drewN | apply below_drew1) | exact HB.out)) hb); clear HO_4; clear HO_5; clear HO276; clear HB; have HO_4 := n0_; have HO_5 := n1_; have HO276 := n2_; have HB := n3_; clear n0_ n1_ n2_ n3_; (try clear hb); (try clear hb2); (try clear hk); (try clear hi))))
       go_ret2
       exact ⟨_, by first | rfl | (simp [errW_none, errW_some] <;> rfl) | (simp [*, errW_none, errW_some] <;> rfl), by first | exact Kd.R_nil _ _ _ _ _ | exact Kd.N_nil _ _ _ _ _ | exact Kd.V_nil _ _ _ _ _ | exact Kd.Q_nil _ _ _ _ _ | exact Kd.S_nil _ _ _ _ _, by repeat (first | (with_reducible first | exact HB.out | apply below_alloc | apply pw_below_drewN | apply below_drew1) | exact HB.out)⟩
     ·rw [if_neg c37] at H
      have c37b0 : (a0.toList == ([47, 42, 10] : List UInt8)) = false := beq_eq_false_iff_ne.mpr c37
      have c37b1 : (a0.toList != ([47, 42, 10] : List UInt8)) = true := bne_iff_ne.mpr c37
      replace H := Option.bind_eq_some_iff.mp H
      obtain ⟨⟨t279, t280⟩, A560, H⟩ := H
      replace H : (if t280 = 0 then (if t279.toList = a0.toList then (some (x5_1, 0)) else (some (([] : List ByteArray), 18))) else (some (([] : List ByteArray), 18))) = some (r1, r2) := H
      have A56 := Aside0.mk A560
      clear A560
      by_cases c57 : t280 = 0
      ·rw [if_pos c57] at H
       have c57b0 : (t280 == 0) = true := beq_iff_eq.mpr c57
       have c57b1 : (t280 != 0) = false := bne_eq_false_iff_eq.mpr c57
       clear c57
       by_cases c58 : t279.toList = a0.toList
       ·rw [if_pos c58] at H
        have c58b0 : (t279.toList == a0.toList) = true := beq_iff_eq.mpr c58
        have c58b1 : (t279.toList != a0.toList) = false := bne_eq_false_iff_eq.mpr c58
        clear c58
        simp only [Option.some.injEq, Prod.mk.injEq] at H
        obtain ⟨rfl, rfl⟩ := H
        obtain ⟨Ao59, co59, eo59⟩ := Kd.R_slice HO_4.out
        subst eo59
        obtain ⟨Ao60, co60, eo60⟩ := Kd.R_slice HO_5.out
        subst eo60
        go_wp2_with (first | (go_at_call 10; (with_reducible refine (copseref17_Write.calls k1 _ _ x5_1 t279 t280 _ ?side1 ?side2 A56.out).mono ?_); (case side1 => repeat (first | exact (Kd.R_reads' HO_5.out).2.2 | (with_reducible refine Kd.C_alloc ?_ _) | (with_reducible refine Kd.C_drewN ?_ _) | (with_reducible refine Kd.C_drew ?_))); (case side2 => exact (Kd.R_reads' HO_5.out).2.1); rintro e w61 ⟨rfl, hb⟩; have n0_ := Aside0.mk (Kd.R_below (by (with_reducible repeat (first | apply Kd.R_alloc | apply Kd.R_drewN | apply Kd.R_drew)); exact HO_4.out) hb); have n1_ := Aside0.mk (Kd.R_below (by (with_reducible repeat (first | apply Kd.R_alloc | apply Kd.R_drewN | apply Kd.R_drew)); exact HO_5.out) hb); have n2_ := Aside0.mk (below_step (by repeat (first | (with_reducible first | exact HB.out | apply below_alloc | apply pw_below_drewN | apply below_drew1) | exact HB.out)) hb); clear HO_4; clear HO_5; clear HB; have HO_4 := n0_; have HO_5 := n1_; have HB := n2_; clear n0_ n1_ n2_; (try clear hb); (try clear hb2); (try clear hk); (try clear hi)))
        repeat (go_quiet (first | (go_at_call 10; (with_reducible refine (copseref17_Write.calls k1 _ _ x5_1 t279 t280 _ ?side1 ?side2 A56.out).mono ?_); (case side1 => repeat (first | exact (Kd.R_reads' HO_5.out).2.2 | (with_reducible refine Kd.C_alloc ?_ _) | (with_reducible refine Kd.C_drewN ?_ _) | (with_reducible refine Kd.C_drew ?_))); (case side2 => exact (Kd.R_reads' HO_5.out).2.1); rintro e w61 ⟨rfl, hb⟩; have n0_ := Aside0.mk (Kd.R_below (by (with_reducible repeat (first | apply Kd.R_alloc | apply Kd.R_drewN | apply Kd.R_drew)); exact HO_4.out) hb); have n1_ := Aside0.mk (Kd.R_below (by (with_reducible repeat (first | apply Kd.R_alloc | apply Kd.R_drewN | apply Kd.R_drew)); exact HO_5.out) hb); have n2_ := Aside0.mk (below_step (by repeat (first | (with_reducible first | exact HB.out | apply below_alloc | apply pw_below_drewN | apply below_drew1) | exact HB.out)) hb); clear HO_4; clear HO_5; clear HB; have HO_4 := n0_; have HO_5 := n1_; have HB := n2_; clear n0_ n1_ n2_; (try clear hb); (try clear hb2); (try clear hk); (try clear hi))); try go_wp2_with (first | (go_at_call 10; (with_reducible refine (copseref17_Write.calls k1 _ _ x5_1 t279 t280 _ ?side1 ?side2 A56.out).mono ?_); (case side1 => repeat (first | exact (Kd.R_reads' HO_5.out).2.2 | (with_reducible refine Kd.C_alloc ?_ _) | (with_reducible refine Kd.C_drewN ?_ _) | (with_reducible refine Kd.C_drew ?_))); (case side2 => exact (Kd.R_reads' HO_5.out).2.1); rintro e w61 ⟨rfl, hb⟩; have n0_ := Aside0.mk (Kd.R_below (by (with_reducible repeat (first | apply Kd.R_alloc | apply Kd.R_drewN | apply Kd.R_drew)); exact HO_4.out) hb); have n1_ := Aside0.mk (Kd.R_below (by (with_reducible repeat (first | apply Kd.R_alloc | apply Kd.R_drewN | apply Kd.R_drew)); exact HO_5.out) hb); have n2_ := Aside0.mk (below_step (by repeat (first | (with_reducible first | exact HB.out | apply below_alloc | apply pw_below_drewN | apply below_drew1) | exact HB.out)) hb); clear HO_4; clear HO_5; clear HB; have HO_4 := n0_; have HO_5 := n1_; have HB := n2_; clear n0_ n1_ n2_; (try clear hb); (try clear hb2); (try clear hk); (try clear hi))))
        go_ret2
        exact ⟨_, by first | rfl | (simp [errW_none, errW_some] <;> rfl) | (simp [*, errW_none, errW_some] <;> rfl), by (with_reducible repeat (first | apply Kd.R_alloc | apply Kd.R_drewN | apply Kd.R_drew)); exact Kd.R_mono HO_5.out (fun _ hk => trivial), by repeat (first | (with_reducible first | exact HB.out | apply below_alloc | apply pw_below_drewN | apply below_drew1) | exact HB.out)⟩
       ·rw [if_neg c58] at H
        have c58b0 : (t279.toList == a0.toList) = false := beq_eq_false_iff_ne.mpr c58
        have c58b1 : (t279.toList != a0.toList) = true := bne_iff_ne.mpr c58
        simp only [Option.some.injEq, Prod.mk.injEq] at H
        obtain ⟨rfl, rfl⟩ := H
        obtain ⟨Ao62, co62, eo62⟩ := Kd.R_slice HO_4.out
        subst eo62
        obtain ⟨Ao63, co63, eo63⟩ := Kd.R_slice HO_5.out
        subst eo63
        go_wp2_with (first | (go_at_call 10; (with_reducible refine (copseref17_Write.calls k1 _ _ x5_1 t279 t280 _ ?side1 ?side2 A56.out).mono ?_); (case side1 => repeat (first | exact (Kd.R_reads' HO_5.out).2.2 | (with_reducible refine Kd.C_alloc ?_ _) | (with_reducible refine Kd.C_drewN ?_ _) | (with_reducible refine Kd.C_drew ?_))); (case side2 => exact (Kd.R_reads' HO_5.out).2.1); rintro e w64 ⟨rfl, hb⟩; have n0_ := Aside0.mk (Kd.R_below (by (with_reducible repeat (first | apply Kd.R_alloc | apply Kd.R_drewN | apply Kd.R_drew)); exact HO_4.out) hb); have n1_ := Aside0.mk (Kd.R_below (by (with_reducible repeat (first | apply Kd.R_alloc | apply Kd.R_drewN | apply Kd.R_drew)); exact HO_5.out) hb); have n2_ := Aside0.mk (below_step (by repeat (first | (with_reducible first | exact HB.out | apply below_alloc | apply pw_below_drewN | apply below_drew1) | exact HB.out)) hb); clear HO_4; clear HO_5; clear HB; have HO_4 := n0_; have HO_5 := n1_; have HB := n2_; clear n0_ n1_ n2_; (try clear hb); (try clear hb2); (try clear hk); (try clear hi)))
        repeat (go_quiet (first | (go_at_call 10; (with_reducible refine (copseref17_Write.calls k1 _ _ x5_1 t279 t280 _ ?side1 ?side2 A56.out).mono ?_); (case side1 => repeat (first | exact (Kd.R_reads' HO_5.out).2.2 | (with_reducible refine Kd.C_alloc ?_ _) | (with_reducible refine Kd.C_drewN ?_ _) | (with_reducible refine Kd.C_drew ?_))); (case side2 => exact (Kd.R_reads' HO_5.out).2.1); rintro e w64 ⟨rfl, hb⟩; have n0_ := Aside0.mk (Kd.R_below (by (with_reducible repeat (first | apply Kd.R_alloc | apply Kd.R_drewN | apply Kd.R_drew)); exact HO_4.out) hb); have n1_ := Aside0.mk (Kd.R_below (by (with_reducible repeat (first | apply Kd.R_alloc | apply Kd.R_drewN | apply Kd.R_drew)); exact HO_5.out) hb); have n2_ := Aside0.mk (below_step (by repeat (first | (with_reducible first | exact HB.out | apply below_alloc | apply pw_below_drewN | apply below_drew1) | exact HB.out)) hb); clear HO_4; clear HO_5; clear HB; have HO_4 := n0_; have HO_5 := n1_; have HB := n2_; clear n0_ n1_ n2_; (try clear hb); (try clear hb2); (try clear hk); (try clear hi))); try go_wp2_with (first | (go_at_call 10; (with_reducible refine (copseref17_Write.calls k1 _ _ x5_1 t279 t280 _ ?side1 ?side2 A56.out).mono ?_); (case side1 => repeat (first | exact (Kd.R_reads' HO_5.out).2.2 | (with_reducible refine Kd.C_alloc ?_ _) | (with_reducible refine Kd.C_drewN ?_ _) | (with_reducible refine Kd.C_drew ?_))); (case side2 => exact (Kd.R_reads' HO_5.out).2.1); rintro e w64 ⟨rfl, hb⟩; have n0_ := Aside0.mk (Kd.R_below (by (with_reducible repeat (first | apply Kd.R_alloc | apply Kd.R_drewN | apply Kd.R_drew)); exact HO_4.out) hb); have n1_ := Aside0.mk (Kd.R_below (by (with_reducible repeat (first | apply Kd.R_alloc | apply Kd.R_drewN | apply Kd.R_drew)); exact HO_5.out) hb); have n2_ := Aside0.mk (below_step (by repeat (first | (with_reducible first | exact HB.out | apply below_alloc | apply pw_below_drewN | apply below_drew1) | exact HB.out)) hb); clear HO_4; clear HO_5; clear HB; have HO_4 := n0_; have HO_5 := n1_; have HB := n2_; clear n0_ n1_ n2_; (try clear hb); (try clear hb2); (try clear hk); (try clear hi))))
        go_ret2
        exact ⟨_, by first | rfl | (simp [errW_none, errW_some] <;> rfl) | (simp [*, errW_none, errW_some] <;> rfl), by first | exact Kd.R_nil _ _ _ _ _ | exact Kd.N_nil _ _ _ _ _ | exact Kd.V_nil _ _ _ _ _ | exact Kd.Q_nil _ _ _ _ _ | exact Kd.S_nil _ _ _ _ _, by repeat (first | (with_reducible first | exact HB.out | apply below_alloc | apply pw_below_drewN | apply below_drew1) | exact HB.out)⟩
      ·rw [if_neg c57] at H
       have c57b0 : (t280 == 0) = false := beq_eq_false_iff_ne.mpr c57
       have c57b1 : (t280 != 0) = true := bne_iff_ne.mpr c57
       simp only [Option.some.injEq, Prod.mk.injEq] at H
       obtain ⟨rfl, rfl⟩ := H
       obtain ⟨Ao65, co65, eo65⟩ := Kd.R_slice HO_4.out
       subst eo65
       obtain ⟨Ao66, co66, eo66⟩ := Kd.R_slice HO_5.out
       subst eo66
       go_wp2_with (first | (go_at_call 10; (with_reducible refine (copseref17_Write.calls k1 _ _ x5_1 t279 t280 _ ?side1 ?side2 A56.out).mono ?_); (case side1 => repeat (first | exact (Kd.R_reads' HO_5.out).2.2 | (with_reducible refine Kd.C_alloc ?_ _) | (with_reducible refine Kd.C_drewN ?_ _) | (with_reducible refine Kd.C_drew ?_))); (case side2 => exact (Kd.R_reads' HO_5.out).2.1); rintro e w67 ⟨rfl, hb⟩; have n0_ := Aside0.mk (Kd.R_below (by (with_reducible repeat (first | apply Kd.R_alloc | apply Kd.R_drewN | apply Kd.R_drew)); exact HO_4.out) hb); have n1_ := Aside0.mk (Kd.R_below (by (with_reducible repeat (first | apply Kd.R_alloc | apply Kd.R_drewN | apply Kd.R_drew)); exact HO_5.out) hb); have n2_ := Aside0.mk (below_step (by repeat (first | (with_reducible first | exact HB.out | apply below_alloc | apply pw_below_drewN | apply below_drew1) | exact HB.out)) hb); clear HO_4; clear HO_5; clear HB; have HO_4 := n0_; have HO_5 := n1_; have HB := n2_; clear n0_ n1_ n2_; (try clear hb); (try clear hb2); (try clear hk); (try clear hi)))
       repeat (go_quiet (first | (go_at_call 10; (with_reducible refine (copseref17_Write.calls k1 _ _ x5_1 t279 t280 _ ?side1 ?side2 A56.out).mono ?_); (case side1 => repeat (first | exact (Kd.R_reads' HO_5.out).2.2 | (with_reducible refine Kd.C_alloc ?_ _) | (with_reducible refine Kd.C_drewN ?_ _) | (with_reducible refine Kd.C_drew ?_))); (case side2 => exact (Kd.R_reads' HO_5.out).2.1); rintro e w67 ⟨rfl, hb⟩; have n0_ := Aside0.mk (Kd.R_below (by (with_reducible repeat (first | apply Kd.R_alloc | apply Kd.R_drewN | apply Kd.R_drew)); exact HO_4.out) hb); have n1_ := Aside0.mk (Kd.R_below (by (with_reducible repeat (first | apply Kd.R_alloc | apply Kd.R_drewN | apply Kd.R_drew)); exact HO_5.out) hb); have n2_ := Aside0.mk (below_step (by repeat (first | (with_reducible first | exact HB.out | apply below_alloc | apply pw_below_drewN | apply below_drew1) | exact HB.out)) hb); clear HO_4; clear HO_5; clear HB; have HO_4 := n0_; have HO_5 := n1_; have HB := n2_; clear n0_ n1_ n2_; (try clear hb); (try clear hb2); (try clear hk); (try clear hi))); try go_wp2_with (first | (go_at_call 10; (with_reducible refine (copseref17_Write.calls k1 _ _ x5_1 t279 t280 _ ?side1 ?side2 A56.out).mono ?_); (case side1 => repeat (first | exact (Kd.R_reads' HO_5.out).2.2 | (with_reducible refine Kd.C_alloc ?_ _) | (with_reducible refine Kd.C_drewN ?_ _) | (with_reducible refine Kd.C_drew ?_))); (case side2 => exact (Kd.R_reads' HO_5.out).2.1); rintro e w67 ⟨rfl, hb⟩; have n0_ := Aside0.mk (Kd.R_below (by (with_reducible repeat (first | apply Kd.R_alloc | apply Kd.R_drewN | apply Kd.R_drew)); exact HO_4.out) hb); have n1_ := Aside0.mk (Kd.R_below (by (with_reducible repeat (first | apply Kd.R_alloc | apply Kd.R_drewN | apply Kd.R_drew)); exact HO_5.out) hb); have n2_ := Aside0.mk (below_step (by repeat (first | (with_reducible first | exact HB.out | apply below_alloc | apply pw_below_drewN | apply below_drew1) | exact HB.out)) hb); clear HO_4; clear HO_5; clear HB; have HO_4 := n0_; have HO_5 := n1_; have HB := n2_; clear n0_ n1_ n2_; (try clear hb); (try clear hb2); (try clear hk); (try clear hi))))
       go_ret2
       exact ⟨_, by first | rfl | (simp [errW_none, errW_some] <;> rfl) | (simp [*, errW_none, errW_some] <;> rfl), by first | exact Kd.R_nil _ _ _ _ _ | exact Kd.N_nil _ _ _ _ _ | exact Kd.V_nil _ _ _ _ _ | exact Kd.Q_nil _ _ _ _ _ | exact Kd.S_nil _ _ _ _ _, by repeat (first | (with_reducible first | exact HB.out | apply below_alloc | apply pw_below_drewN | apply below_drew1) | exact HB.out)⟩
end Go.Proofs.YtehfogjibhnabaaDoor.PAll
