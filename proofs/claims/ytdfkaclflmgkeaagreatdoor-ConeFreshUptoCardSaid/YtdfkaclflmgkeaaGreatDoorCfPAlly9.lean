/- What functions of the program compute, each with its walk: a contract for every world and every argument of the kind told. -/
import Derived.Test.YtdfkaclflmgkeaaGreatDoorCfPAllx0
import Derived.Test.YtdfkaclflmgkeaaGreatDoorCfPAlly7
namespace Go.Proofs.YtdfkaclflmgkeaaGreatDoor.PAll
open Go.RowKit Go.Proofs.YtdfkaclflmgkeaaGreatDoorW.PrintWords Go.Proofs.YtdfkaclflmgkeaaGreatDoorW.PrintLast Go.Proofs.YtdfkaclflmgkeaaGreatDoorW.PrintMore
attribute [local go_sem] max2_int min2_int max_two min_two max_three min_three max_four min_four
set_option linter.unusedVariables false
set_option linter.unusedSimpArgs false
mutual
def copseref13_Snap.l0 : Nat → List (S36) → Int → Option (Int)
 | 0, _, _ => none
 | k + 1, x0, x3 => if x3 < (x0.length : Int) then (if 0 ≤ x3 then (if ((rd_T36 x0 x3).f0).toList = ([] : List UInt8) then (some 7) else ((copseref13_IsPath.f k ((rd_T36 x0 x3).f0)).bind fun t322 => (if t322 = true then (copseref13_Snap.l0 k x0 (wrap64 (x3 + 1))) else (some 7)))) else (none)) else (if (x0.length : Int) > 512 then (some 8) else (copseref13_Snap.l1 k x0 0))
def copseref13_Snap.l1 : Nat → List (S36) → Int → Option (Int)
 | 0, _, _ => none
 | k + 1, x0, x4 => if x4 < (x0.length : Int) then (if 0 ≤ x4 then ((copseref13_Base.f k ((rd_T36 x0 x4).f0)).bind fun t325 => (if t325.toList = ([84, 65, 82, 71, 69, 84, 83] : List UInt8) then (if ((rd_T36 x0 x4).f2) = 0 then (if ((rd_T36 x0 x4).f3) = (((rd_T36 x0 x4).f1).size : Int) then (copseref13_Snap.j2 k x0 x4 ((rd_T36 x0 x4).f0) ((rd_T36 x0 x4).f1) ((rd_T36 x0 x4).f2) ((rd_T36 x0 x4).f3)) else (some 8)) else (some 8)) else (if ((rd_T36 x0 x4).f1).toList = ([] : List UInt8) then (if ((rd_T36 x0 x4).f2) < 0 then (some 8) else (if ((rd_T36 x0 x4).f2) > 1152921504606846976 then (some 8) else (if ((rd_T36 x0 x4).f3) < 0 then (some 8) else (if ((rd_T36 x0 x4).f3) > 4611686018427387904 then (some 8) else (copseref13_Snap.j2 k x0 x4 ((rd_T36 x0 x4).f0) ((rd_T36 x0 x4).f1) ((rd_T36 x0 x4).f2) ((rd_T36 x0 x4).f3)))))) else (some 8)))) else (none)) else (some 0)
def copseref13_Snap.j2 : Nat → List (S36) → Int → ByteArray → ByteArray → Int → Int → Option (Int)
 | 0, _, _, _, _, _, _ => none
 | k + 1, x0, x4, x325000, x325001, x325002, x325003 => if x4 > 0 then (if 0 ≤ (wrap64 (x4 - 1)) then (if (wrap64 (x4 - 1)) < (x0.length : Int) then ((copseref13_Path.f k ((rd_T36 x0 (wrap64 (x4 - 1))).f0) x325000).bind fun t327 => (if t327 ≥ 0 then (some 8) else ((copseref13_Above.f ((rd_T36 x0 (wrap64 (x4 - 1))).f0) x325000).bind fun t329 => (if t329 = true then (some 8) else (copseref13_Snap.l1 k x0 (wrap64 (x4 + 1))))))) else (none)) else (none)) else (copseref13_Snap.l1 k x0 (wrap64 (x4 + 1)))
end
def copseref13_Snap.f (k : Nat) (l0 : List (S36)) : Option (Int) := copseref13_Snap.l0 k l0 0
def copseref13_Snap.T17 : Bool × List (List Nat × List Nat) := (true, [([], []), ([0], [0]), ([1], [1]), ([2], [2]), ([2], [2]), ([4, 2], [2, 4]), ([3, 5, 2], [2, 3, 5]), ([6, 2], [2, 6]), ([7, 2], [2, 7]), ([2], [2]), ([9, 2], [2, 9]), ([8, 10, 2, 2], [2, 8, 10]), ([11, 2], [2, 11]), ([12, 11, 2], [2, 12]), ([13], [13]), ([13], [13]), ([15, 13], [13, 15]), ([14, 16, 13], [13, 14, 16]), ([17, 13], [13, 17]), ([18, 13], [13, 18]), ([13], [13]), ([20, 13], [13, 20]), ([19, 21, 13, 13], [13, 19, 21]), ([13, 22, 2], [2, 13, 22]), ([2, 23], [2, 23])])
def copseref13_Snap.B17 : List Nat := [0, 1, 3, 7, 7, 23, 63, 127, 255, 7, 519, 2047, 4095, 8191, 16383, 16383, 49151, 131071, 262143, 524287, 16383, 1064959, 4194303, 8388607, 16777215]
theorem copseref13_Snap.tab17 : rtab .any (opsOf Tryz.f23 17) = copseref13_Snap.T17 := by kernel_rfl
theorem copseref13_Snap.bits17 : waitsOk copseref13_Snap.T17.2 copseref13_Snap.B17 = true := by kernel_rfl
set_option maxHeartbeats 8000000 in
set_option maxRecDepth 100000 in
theorem copseref13_Snap.calls (k : Nat) (A0 : Option Addr) (c0 : Nat) (l0 : List (S36)) (r : Int) (w : World) (hr0 : Kd.C k36 w A0 l0.length l0) (hc0 : l0.length ≤ c0) (h : copseref13_Snap.f k l0 = some r) :
  Calls Tryz.prog 23 #[.slice A0 l0.length c0] w fun e w' => e = .returned (.int .i64 r) ∧ Below w.heap.size w w' := by
 have hu36 := Tryz.underlying36
 have HR0 := Aside0.mk hr0
 have HC0 := Aside0.mk hc0
 clear hr0 hc0
 have HB := Aside0.mk (Below.refl w.heap.size w)
 have H : (copseref13_Snap.l0 k l0 0) = some r := h
 clear h
 have H' := Aside0.mk H
 clear H
 go_enter Tryz.func23, Tryz.ntmps23
 go_wp2
 go_loopg [3] k (fun kq v3 w' => ∃ (x3_1 : Int), v3 = .int .i64 x3_1 ∧ Aside0 (copseref13_Snap.l0 kq l0 x3_1 = some r) ∧ Aside0 (kq ≤ k) ∧ Aside0 (Below w.heap.size w w'))
 case atStart => exact ⟨(0), (by first | rfl | (simp; done) | (simp [*]; done)), H', ⟨Nat.le_refl _⟩, ⟨by repeat (first | (with_reducible first | exact HB.out | apply below_alloc | apply pw_below_drewN | apply below_drew1) | exact HB.out)⟩⟩
 case round =>
  clear H'
  obtain ⟨x3_1, rfl, HA, HK1, HB⟩ := hrel
  cases gk with
  | zero => exact absurd HA.out (by simp [copseref13_Snap.l0])
  | succ k1 =>
   have H := HA.out
   clear HA
   simp only [copseref13_Snap.l0] at H
   by_cases c2 : x3_1 < (l0.length : Int)
   ·rw [if_pos c2] at H
    have c2b0 := decide_eq_true c2
    clear c2
    by_cases c3 : 0 ≤ x3_1
    ·rw [if_pos c3] at H
     have c3b0 := decide_eq_true c3
     clear c3
     by_cases c4 : ((rd_T36 l0 x3_1).f0).toList = ([] : List UInt8)
     ·rw [if_pos c4] at H
      have c4b0 : (((rd_T36 l0 x3_1).f0).toList == ([] : List UInt8)) = true := beq_iff_eq.mpr c4
      have c4b1 : (((rd_T36 l0 x3_1).f0).toList != ([] : List UInt8)) = false := bne_eq_false_iff_eq.mpr c4
      clear c4
      obtain rfl := Option.some.inj H
      have p320 : 0 ≤ (x3_1 : Int) := of_decide_eq_true (by first | (with_reducible assumption) | assumption)
      have q320 : x3_1 < (l0.length : Int) := of_decide_eq_true (by first | (with_reducible assumption) | assumption)
      obtain ⟨ad320, e320, hx320_0, hx320_1, hx320_2, hx320_3⟩ := at_T36 HR0.out x3_1 p320 q320
      cases e320
      replace hx320_0 := (HB.out.cell (World.block_lt_of_cell? w _ hx320_0)).trans hx320_0
      replace hx320_1 := (HB.out.cell (World.block_lt_of_cell? w _ hx320_1)).trans hx320_1
      replace hx320_2 := (HB.out.cell (World.block_lt_of_cell? w _ hx320_2)).trans hx320_2
      replace hx320_3 := (HB.out.cell (World.block_lt_of_cell? w _ hx320_3)).trans hx320_3
      replace p320 := eq_true p320
      replace q320 := eq_true q320
      go_wp2
      go_ret
      exact ⟨by first | rfl | (simp [errW_none, errW_some] <;> rfl) | (simp [*, errW_none, errW_some] <;> rfl), by repeat (first | (with_reducible first | exact HB.out | apply below_alloc | apply pw_below_drewN | apply below_drew1) | exact HB.out)⟩
     ·rw [if_neg c4] at H
      have c4b0 : (((rd_T36 l0 x3_1).f0).toList == ([] : List UInt8)) = false := beq_eq_false_iff_ne.mpr c4
      have c4b1 : (((rd_T36 l0 x3_1).f0).toList != ([] : List UInt8)) = true := bne_iff_ne.mpr c4
      replace H := Option.bind_eq_some_iff.mp H
      obtain ⟨t322, A50, H⟩ := H
      try dsimp only at H
      have A5 := Aside0.mk A50
      clear A50
      by_cases c6 : t322 = true
      ·subst c6
       rw [if_pos rfl] at H
       have H1 := H
       clear H
       have H := H1
       clear H1
       have H' := Aside0.mk H
       clear H
       have p320 : 0 ≤ (x3_1 : Int) := of_decide_eq_true (by first | (with_reducible assumption) | assumption)
       have q320 : x3_1 < (l0.length : Int) := of_decide_eq_true (by first | (with_reducible assumption) | assumption)
       obtain ⟨ad320, e320, hx320_0, hx320_1, hx320_2, hx320_3⟩ := at_T36 HR0.out x3_1 p320 q320
       cases e320
       replace hx320_0 := (HB.out.cell (World.block_lt_of_cell? w _ hx320_0)).trans hx320_0
       replace hx320_1 := (HB.out.cell (World.block_lt_of_cell? w _ hx320_1)).trans hx320_1
       replace hx320_2 := (HB.out.cell (World.block_lt_of_cell? w _ hx320_2)).trans hx320_2
       replace hx320_3 := (HB.out.cell (World.block_lt_of_cell? w _ hx320_3)).trans hx320_3
       replace p320 := eq_true p320
       replace q320 := eq_true q320
       have p321 : 0 ≤ (x3_1 : Int) := of_decide_eq_true (by first | (with_reducible assumption) | assumption)
       have q321 : x3_1 < (l0.length : Int) := of_decide_eq_true (by first | (with_reducible assumption) | assumption)
       obtain ⟨ad321, e321, hx321_0, hx321_1, hx321_2, hx321_3⟩ := at_T36 HR0.out x3_1 p321 q321
       obtain rfl : ad320 = ad321 := (by injection e321)
       replace hx321_0 := (HB.out.cell (World.block_lt_of_cell? w _ hx321_0)).trans hx321_0
       replace hx321_1 := (HB.out.cell (World.block_lt_of_cell? w _ hx321_1)).trans hx321_1
       replace hx321_2 := (HB.out.cell (World.block_lt_of_cell? w _ hx321_2)).trans hx321_2
       replace hx321_3 := (HB.out.cell (World.block_lt_of_cell? w _ hx321_3)).trans hx321_3
       replace p321 := eq_true p321
       replace q321 := eq_true q321
       go_wp2_with (first | (go_at_call 40; (with_reducible refine (copseref13_IsPath.calls k1 ((rd_T36 l0 x3_1).f0) true _ A5.out).mono ?_); rintro e w7 ⟨rfl, hb⟩; have n0_ := Aside0.mk (below_step (by repeat (first | (with_reducible first | exact HB.out | apply below_alloc | apply pw_below_drewN | apply below_drew1) | exact HB.out)) hb); clear HB; have HB := n0_; clear n0_; (try clear hb); (try clear hb2); (try clear hk); (try clear hi)))
       go_roundg k1
       case measure => have := HK1.out; omega
       case rel => exact ⟨(wrap64 (x3_1 + 1)), (by first | rfl | (simp; done) | (simp [*]; done)), H', ⟨by have := HK1.out; omega⟩, ⟨by repeat (first | (with_reducible first | exact HB.out | apply below_alloc | apply pw_below_drewN | apply below_drew1) | exact HB.out)⟩⟩
      ·replace c6 := Bool.eq_false_iff.mpr c6
       subst c6
       have H1 : (some 7) = some r := by rw [if_neg (show ¬ (false = true) by decide)] at H; exact H
       clear H
       have H := H1
       clear H1
       obtain rfl := Option.some.inj H
       have p320 : 0 ≤ (x3_1 : Int) := of_decide_eq_true (by first | (with_reducible assumption) | assumption)
       have q320 : x3_1 < (l0.length : Int) := of_decide_eq_true (by first | (with_reducible assumption) | assumption)
       obtain ⟨ad320, e320, hx320_0, hx320_1, hx320_2, hx320_3⟩ := at_T36 HR0.out x3_1 p320 q320
       cases e320
       replace hx320_0 := (HB.out.cell (World.block_lt_of_cell? w _ hx320_0)).trans hx320_0
       replace hx320_1 := (HB.out.cell (World.block_lt_of_cell? w _ hx320_1)).trans hx320_1
       replace hx320_2 := (HB.out.cell (World.block_lt_of_cell? w _ hx320_2)).trans hx320_2
       replace hx320_3 := (HB.out.cell (World.block_lt_of_cell? w _ hx320_3)).trans hx320_3
       replace p320 := eq_true p320
       replace q320 := eq_true q320
       have p321 : 0 ≤ (x3_1 : Int) := of_decide_eq_true (by first | (with_reducible assumption) | assumption)
       have q321 : x3_1 < (l0.length : Int) := of_decide_eq_true (by first | (with_reducible assumption) | assumption)
       obtain ⟨ad321, e321, hx321_0, hx321_1, hx321_2, hx321_3⟩ := at_T36 HR0.out x3_1 p321 q321
       obtain rfl : ad320 = ad321 := (by injection e321)
       replace hx321_0 := (HB.out.cell (World.block_lt_of_cell? w _ hx321_0)).trans hx321_0
       replace hx321_1 := (HB.out.cell (World.block_lt_of_cell? w _ hx321_1)).trans hx321_1
       replace hx321_2 := (HB.out.cell (World.block_lt_of_cell? w _ hx321_2)).trans hx321_2
       replace hx321_3 := (HB.out.cell (World.block_lt_of_cell? w _ hx321_3)).trans hx321_3
       replace p321 := eq_true p321
       replace q321 := eq_true q321
       go_wp2_with (first | (go_at_call 40; (with_reducible refine (copseref13_IsPath.calls k1 ((rd_T36 l0 x3_1).f0) false _ A5.out).mono ?_); rintro e w8 ⟨rfl, hb⟩; have n0_ := Aside0.mk (below_step (by repeat (first | (with_reducible first | exact HB.out | apply below_alloc | apply pw_below_drewN | apply below_drew1) | exact HB.out)) hb); clear HB; have HB := n0_; clear n0_; (try clear hb); (try clear hb2); (try clear hk); (try clear hi)))
       go_ret
       exact ⟨by first | rfl | (simp [errW_none, errW_some] <;> rfl) | (simp [*, errW_none, errW_some] <;> rfl), by repeat (first | (with_reducible first | exact HB.out | apply below_alloc | apply pw_below_drewN | apply below_drew1) | exact HB.out)⟩
    ·rw [if_neg c3] at H
     exact absurd H (by simp)
   ·rw [if_neg c2] at H
    have c2b0 := decide_eq_false c2
    clear c2
    by_cases c9 : (l0.length : Int) > 512
    ·rw [if_pos c9] at H
     have c9b0 := decide_eq_true c9
     have c9b1 : decide (512 < l0.length) = true := decide_eq_true (by omega)
     clear c9
     obtain rfl := Option.some.inj H
     go_wp2
     go_ret
     exact ⟨by first | rfl | (simp [errW_none, errW_some] <;> rfl) | (simp [*, errW_none, errW_some] <;> rfl), by repeat (first | (with_reducible first | exact HB.out | apply below_alloc | apply pw_below_drewN | apply below_drew1) | exact HB.out)⟩
    ·rw [if_neg c9] at H
     have c9b0 := decide_eq_false c9
     have c9b1 : decide (512 < l0.length) = false := decide_eq_false (by omega)
     clear c9
     have H' := Aside0.mk H
     clear H
     go_wp2
     go_loopg [4] k1 (fun kq v4 w' => ∃ (x4_2 : Int), v4 = .int .i64 x4_2 ∧ Aside0 (copseref13_Snap.l1 kq l0 x4_2 = some r) ∧ Aside0 (kq ≤ k1) ∧ Aside0 (Below w.heap.size w w'))
     case atStart => exact ⟨(0), (by first | rfl | (simp; done) | (simp [*]; done)), H', ⟨Nat.le_refl _⟩, ⟨by repeat (first | (with_reducible first | exact HB.out | apply below_alloc | apply pw_below_drewN | apply below_drew1) | exact HB.out)⟩⟩
     case round =>
      clear H'
      try clear c2
      try clear c2b0
      try clear p2
      try clear c3
      try clear c3b0
      try clear p3
      try clear q3
      try clear hx3
      try clear c4
      try clear c4b0
      try clear c4b1
      try clear c6
      try clear p6
      try clear c9
      try clear c9b0
      try clear c9b1
      try clear hx320_0
      try clear hx320_1
      try clear hx320_2
      try clear hx320_3
      try clear hx321_0
      try clear hx321_1
      try clear hx321_2
      try clear hx321_3
      try clear p320
      try clear p321
      try clear q320
      try clear q321
      obtain ⟨x4_2, rfl, HA, HK2, HB⟩ := hrel
      cases gk with
      | zero => exact absurd HA.out (by simp [copseref13_Snap.l1])
      | succ k2 =>
       have H := HA.out
       clear HA
       simp only [copseref13_Snap.l1] at H
       by_cases c10 : x4_2 < (l0.length : Int)
       ·rw [if_pos c10] at H
        have c10b0 := decide_eq_true c10
        clear c10
        by_cases c11 : 0 ≤ x4_2
        ·rw [if_pos c11] at H
         have c11b0 := decide_eq_true c11
         clear c11
         replace H := Option.bind_eq_some_iff.mp H
         obtain ⟨t325, A120, H⟩ := H
         try dsimp only at H
         have A12 := Aside0.mk A120
         clear A120
         have HC13 := Aside0.mk H
         clear H
         have p323 : 0 ≤ (x4_2 : Int) := of_decide_eq_true (by first | (with_reducible assumption) | assumption)
         have q323 : x4_2 < (l0.length : Int) := of_decide_eq_true (by first | (with_reducible assumption) | assumption)
         obtain ⟨ad323, e323, hx323_0, hx323_1, hx323_2, hx323_3⟩ := at_T36 HR0.out x4_2 p323 q323
         cases e323
         replace hx323_0 := (HB.out.cell (World.block_lt_of_cell? w _ hx323_0)).trans hx323_0
         replace hx323_1 := (HB.out.cell (World.block_lt_of_cell? w _ hx323_1)).trans hx323_1
         replace hx323_2 := (HB.out.cell (World.block_lt_of_cell? w _ hx323_2)).trans hx323_2
         replace hx323_3 := (HB.out.cell (World.block_lt_of_cell? w _ hx323_3)).trans hx323_3
         replace p323 := eq_true p323
         replace q323 := eq_true q323
         go_upto_if 43 with (first | ((with_reducible refine gate_dst (N := 5) rfl ?_); (try (refine gate_guard (by rfl) ?_; dsimp only)); refine box_event ?hg (N := 5) ?hd (cs := #[.string (⟨#[]⟩ : ByteArray), .string (⟨#[]⟩ : ByteArray), .int .i64 0, .int .i64 0]) (t := 36) ?hr ?_; (case hd => rfl); (case hg => rfl); (case hr => first | (go_simp; done) | (go_simp; rfl)); intro gb324 hg w14 hbox hb; have n0_ := Aside0.mk (below_step (by repeat (first | (with_reducible first | exact HB.out | apply below_alloc | apply pw_below_drewN | apply below_drew1) | exact HB.out)) hb); have n1_ := Aside0.mk (hbox); have n2_ := Aside0.mk ((by rw [hg]; exact (below_size (by repeat (first | (with_reducible first | exact HB.out | apply below_alloc | apply pw_below_drewN | apply below_drew1) | exact HB.out))) : w.heap.size ≤ gb324)); have n3_ := Aside0.mk ((by rw [hg]; exact (below_size (by repeat (first | (with_reducible first | exact HB.out | apply below_alloc | apply pw_below_drewN | apply below_drew1) | exact HB.out))) : w.heap.size ≤ gb324)); clear HB; have HB := n0_; have BK324 := n1_; have GW324 := n2_; have GE324 := n3_; clear n0_ n1_ n2_ n3_; clear hb hbox hg; have hcz15_0 : w14.cell? ⟨gb324, 0, none⟩ = some (.string (⟨#[]⟩ : ByteArray)) := (blk_cell BK324.out 0).trans rfl; have hcz15_1 : w14.cell? ⟨gb324, 1, none⟩ = some (.string (⟨#[]⟩ : ByteArray)) := (blk_cell BK324.out 1).trans rfl; have hcz15_2 : w14.cell? ⟨gb324, 2, none⟩ = some (.int .i64 0) := (blk_cell BK324.out 2).trans rfl; have hcz15_3 : w14.cell? ⟨gb324, 3, none⟩ = some (.int .i64 0) := (blk_cell BK324.out 3).trans rfl; have hfz15_0 := blk_frozen BK324.out 0; have hfz15_1 := blk_frozen BK324.out 1; have hfz15_2 := blk_frozen BK324.out 2; have hfz15_3 := blk_frozen BK324.out 3) | ((with_reducible refine gate_callee (f := 41) rfl ?_); refine goesL_ (some 42) rfl rfl Tryz.func41 (by kernel_rfl) rfl #[.string ((rd_T36 l0 x4_2).f0)] rfl (by (try simp only [List.map_toArray, List.map_cons, List.map_nil]); first | done | rfl | (simp only [List.length_drop, List.length_take]; rfl)) ?_; (with_reducible refine (copseref13_Base.calls k2 ((rd_T36 l0 x4_2).f0) t325 _ A12.out).mono ?_); rintro e w' ⟨rfl, ⟨nd, rfl⟩⟩; refine ⟨_, rfl, ?_⟩))
         (try simp only [Act.put, List.setIfInBounds_toArray, List.set_cons_zero, List.set_cons_succ])
         go_cut [] (fun wc => ∃ (kq : Nat), Aside0 (copseref13_Snap.j2 kq l0 x4_2 ((rd_T36 l0 x4_2).f0) ((rd_T36 l0 x4_2).f1) ((rd_T36 l0 x4_2).f2) ((rd_T36 l0 x4_2).f3) = some r) ∧ Aside0 (kq ≤ k2) ∧ Aside0 (wc.heap[gb324]? = some (.cells #[.string ((rd_T36 l0 x4_2).f0), .string ((rd_T36 l0 x4_2).f1), .int .i64 ((rd_T36 l0 x4_2).f2), .int .i64 ((rd_T36 l0 x4_2).f3)] 36 (0, 0))) ∧ Aside0 (Below w.heap.size w wc))
         case first =>
          have H := HC13.out
          clear HC13
          by_cases c16 : t325.toList = ([84, 65, 82, 71, 69, 84, 83] : List UInt8)
          ·rw [if_pos c16] at H
           have c16b0 : (t325.toList == ([84, 65, 82, 71, 69, 84, 83] : List UInt8)) = true := beq_iff_eq.mpr c16
           have c16b1 : (t325.toList != ([84, 65, 82, 71, 69, 84, 83] : List UInt8)) = false := bne_eq_false_iff_eq.mpr c16
           clear c16
           (first | rw [c16b0] | (simp only [i64_w, i32_w]; rw [c16b0]) | skip)
           by_cases c17 : ((rd_T36 l0 x4_2).f2) = 0
           ·rw [if_pos c17] at H
            have c17b0 : (((rd_T36 l0 x4_2).f2) == 0) = true := beq_iff_eq.mpr c17
            have c17b1 : (((rd_T36 l0 x4_2).f2) != 0) = false := bne_eq_false_iff_eq.mpr c17
            clear c17
            by_cases c18 : ((rd_T36 l0 x4_2).f3) = (((rd_T36 l0 x4_2).f1).size : Int)
            ·rw [if_pos c18] at H
             have c18b0 : (((rd_T36 l0 x4_2).f3) == (((rd_T36 l0 x4_2).f1).size : Int)) = true := beq_iff_eq.mpr c18
             have c18b1 : (((rd_T36 l0 x4_2).f3) != (((rd_T36 l0 x4_2).f1).size : Int)) = false := bne_eq_false_iff_eq.mpr c18
             clear c18
             have H' := Aside0.mk H
             clear H
             have hcz19_0 : w14.cell? ⟨gb324, 0, none⟩ = some (.string (⟨#[]⟩ : ByteArray)) := (blk_cell BK324.out 0).trans rfl
             have hcz19_1 : w14.cell? ⟨gb324, 1, none⟩ = some (.string (⟨#[]⟩ : ByteArray)) := (blk_cell BK324.out 1).trans rfl
             have hcz19_2 : w14.cell? ⟨gb324, 2, none⟩ = some (.int .i64 0) := (blk_cell BK324.out 2).trans rfl
             have hcz19_3 : w14.cell? ⟨gb324, 3, none⟩ = some (.int .i64 0) := (blk_cell BK324.out 3).trans rfl
             have hfz19_0 := blk_frozen BK324.out 0
             have hfz19_1 := blk_frozen BK324.out 1
             have hfz19_2 := blk_frozen BK324.out 2
             have hfz19_3 := blk_frozen BK324.out 3
             go_wp2
             go_meet
             case rel => exact ⟨_, H', ⟨by have := HK1.out; have := HK2.out; first | omega | exact Nat.le_refl _⟩, ⟨by (with_reducible repeat (first | refine blk_drewN ?_ _ | refine blk_drew ?_ | refine blk_alloc ?_ _)); refine blk_put (cs := #[.string ((rd_T36 l0 x4_2).f0), .string ((rd_T36 l0 x4_2).f1), .int .i64 ((rd_T36 l0 x4_2).f2), .int .i64 0]) ?_ 3 _ rfl; (with_reducible repeat (first | refine blk_drewN ?_ _ | refine blk_drew ?_ | refine blk_alloc ?_ _)); refine blk_put (cs := #[.string ((rd_T36 l0 x4_2).f0), .string ((rd_T36 l0 x4_2).f1), .int .i64 0, .int .i64 0]) ?_ 2 _ rfl; (with_reducible repeat (first | refine blk_drewN ?_ _ | refine blk_drew ?_ | refine blk_alloc ?_ _)); refine blk_put (cs := #[.string ((rd_T36 l0 x4_2).f0), .string (⟨#[]⟩ : ByteArray), .int .i64 0, .int .i64 0]) ?_ 1 _ rfl; (with_reducible repeat (first | refine blk_drewN ?_ _ | refine blk_drew ?_ | refine blk_alloc ?_ _)); refine blk_put (cs := #[.string (⟨#[]⟩ : ByteArray), .string (⟨#[]⟩ : ByteArray), .int .i64 0, .int .i64 0]) ?_ 0 _ rfl; (with_reducible repeat (first | refine blk_drewN ?_ _ | refine blk_drew ?_ | refine blk_alloc ?_ _)); exact BK324.out⟩, ⟨by repeat (first | (with_reducible first | exact HB.out | apply below_alloc | apply pw_below_drewN | apply below_drew1 | refine below_set ?_ GE324.out) | exact HB.out)⟩⟩
            ·rw [if_neg c18] at H
             have c18b0 : (((rd_T36 l0 x4_2).f3) == (((rd_T36 l0 x4_2).f1).size : Int)) = false := beq_eq_false_iff_ne.mpr c18
             have c18b1 : (((rd_T36 l0 x4_2).f3) != (((rd_T36 l0 x4_2).f1).size : Int)) = true := bne_iff_ne.mpr c18
             obtain rfl := Option.some.inj H
             have hcz20_0 : w14.cell? ⟨gb324, 0, none⟩ = some (.string (⟨#[]⟩ : ByteArray)) := (blk_cell BK324.out 0).trans rfl
             have hcz20_1 : w14.cell? ⟨gb324, 1, none⟩ = some (.string (⟨#[]⟩ : ByteArray)) := (blk_cell BK324.out 1).trans rfl
             have hcz20_2 : w14.cell? ⟨gb324, 2, none⟩ = some (.int .i64 0) := (blk_cell BK324.out 2).trans rfl
             have hcz20_3 : w14.cell? ⟨gb324, 3, none⟩ = some (.int .i64 0) := (blk_cell BK324.out 3).trans rfl
             have hfz20_0 := blk_frozen BK324.out 0
             have hfz20_1 := blk_frozen BK324.out 1
             have hfz20_2 := blk_frozen BK324.out 2
             have hfz20_3 := blk_frozen BK324.out 3
             go_wp2
             go_ret
             exact ⟨by first | rfl | (simp [errW_none, errW_some] <;> rfl) | (simp [*, errW_none, errW_some] <;> rfl), by repeat (first | (with_reducible first | exact HB.out | apply below_alloc | apply pw_below_drewN | apply below_drew1 | refine below_set ?_ GE324.out) | exact HB.out)⟩
           ·rw [if_neg c17] at H
            have c17b0 : (((rd_T36 l0 x4_2).f2) == 0) = false := beq_eq_false_iff_ne.mpr c17
            have c17b1 : (((rd_T36 l0 x4_2).f2) != 0) = true := bne_iff_ne.mpr c17
            obtain rfl := Option.some.inj H
            have hcz21_0 : w14.cell? ⟨gb324, 0, none⟩ = some (.string (⟨#[]⟩ : ByteArray)) := (blk_cell BK324.out 0).trans rfl
            have hcz21_1 : w14.cell? ⟨gb324, 1, none⟩ = some (.string (⟨#[]⟩ : ByteArray)) := (blk_cell BK324.out 1).trans rfl
            have hcz21_2 : w14.cell? ⟨gb324, 2, none⟩ = some (.int .i64 0) := (blk_cell BK324.out 2).trans rfl
            have hcz21_3 : w14.cell? ⟨gb324, 3, none⟩ = some (.int .i64 0) := (blk_cell BK324.out 3).trans rfl
            have hfz21_0 := blk_frozen BK324.out 0
            have hfz21_1 := blk_frozen BK324.out 1
            have hfz21_2 := blk_frozen BK324.out 2
            have hfz21_3 := blk_frozen BK324.out 3
            go_wp2
            go_ret
            exact ⟨by first | rfl | (simp [errW_none, errW_some] <;> rfl) | (simp [*, errW_none, errW_some] <;> rfl), by repeat (first | (with_reducible first | exact HB.out | apply below_alloc | apply pw_below_drewN | apply below_drew1 | refine below_set ?_ GE324.out) | exact HB.out)⟩
          ·rw [if_neg c16] at H
           have c16b0 : (t325.toList == ([84, 65, 82, 71, 69, 84, 83] : List UInt8)) = false := beq_eq_false_iff_ne.mpr c16
           have c16b1 : (t325.toList != ([84, 65, 82, 71, 69, 84, 83] : List UInt8)) = true := bne_iff_ne.mpr c16
           (first | rw [c16b0] | (simp only [i64_w, i32_w]; rw [c16b0]) | skip)
           by_cases c22 : ((rd_T36 l0 x4_2).f1).toList = ([] : List UInt8)
           ·rw [if_pos c22] at H
            have c22b0 : (((rd_T36 l0 x4_2).f1).toList == ([] : List UInt8)) = true := beq_iff_eq.mpr c22
            have c22b1 : (((rd_T36 l0 x4_2).f1).toList != ([] : List UInt8)) = false := bne_eq_false_iff_eq.mpr c22
            clear c22
            by_cases c23 : ((rd_T36 l0 x4_2).f2) < 0
            ·rw [if_pos c23] at H
             have c23b0 := decide_eq_true c23
             clear c23
             obtain rfl := Option.some.inj H
             have hcz24_0 : w14.cell? ⟨gb324, 0, none⟩ = some (.string (⟨#[]⟩ : ByteArray)) := (blk_cell BK324.out 0).trans rfl
             have hcz24_1 : w14.cell? ⟨gb324, 1, none⟩ = some (.string (⟨#[]⟩ : ByteArray)) := (blk_cell BK324.out 1).trans rfl
             have hcz24_2 : w14.cell? ⟨gb324, 2, none⟩ = some (.int .i64 0) := (blk_cell BK324.out 2).trans rfl
             have hcz24_3 : w14.cell? ⟨gb324, 3, none⟩ = some (.int .i64 0) := (blk_cell BK324.out 3).trans rfl
             have hfz24_0 := blk_frozen BK324.out 0
             have hfz24_1 := blk_frozen BK324.out 1
             have hfz24_2 := blk_frozen BK324.out 2
             have hfz24_3 := blk_frozen BK324.out 3
             go_wp2
             go_ret
             exact ⟨by first | rfl | (simp [errW_none, errW_some] <;> rfl) | (simp [*, errW_none, errW_some] <;> rfl), by repeat (first | (with_reducible first | exact HB.out | apply below_alloc | apply pw_below_drewN | apply below_drew1 | refine below_set ?_ GE324.out) | exact HB.out)⟩
            ·rw [if_neg c23] at H
             have c23b0 := decide_eq_false c23
             clear c23
             by_cases c25 : ((rd_T36 l0 x4_2).f2) > 1152921504606846976
             ·rw [if_pos c25] at H
              have c25b0 := decide_eq_true c25
              clear c25
              obtain rfl := Option.some.inj H
              have hcz26_0 : w14.cell? ⟨gb324, 0, none⟩ = some (.string (⟨#[]⟩ : ByteArray)) := (blk_cell BK324.out 0).trans rfl
              have hcz26_1 : w14.cell? ⟨gb324, 1, none⟩ = some (.string (⟨#[]⟩ : ByteArray)) := (blk_cell BK324.out 1).trans rfl
              have hcz26_2 : w14.cell? ⟨gb324, 2, none⟩ = some (.int .i64 0) := (blk_cell BK324.out 2).trans rfl
              have hcz26_3 : w14.cell? ⟨gb324, 3, none⟩ = some (.int .i64 0) := (blk_cell BK324.out 3).trans rfl
              have hfz26_0 := blk_frozen BK324.out 0
              have hfz26_1 := blk_frozen BK324.out 1
              have hfz26_2 := blk_frozen BK324.out 2
              have hfz26_3 := blk_frozen BK324.out 3
              go_wp2
              go_ret
              exact ⟨by first | rfl | (simp [errW_none, errW_some] <;> rfl) | (simp [*, errW_none, errW_some] <;> rfl), by repeat (first | (with_reducible first | exact HB.out | apply below_alloc | apply pw_below_drewN | apply below_drew1 | refine below_set ?_ GE324.out) | exact HB.out)⟩
             ·rw [if_neg c25] at H
              have c25b0 := decide_eq_false c25
              clear c25
              by_cases c27 : ((rd_T36 l0 x4_2).f3) < 0
              ·rw [if_pos c27] at H
               have c27b0 := decide_eq_true c27
               clear c27
               obtain rfl := Option.some.inj H
               have hcz28_0 : w14.cell? ⟨gb324, 0, none⟩ = some (.string (⟨#[]⟩ : ByteArray)) := (blk_cell BK324.out 0).trans rfl
               have hcz28_1 : w14.cell? ⟨gb324, 1, none⟩ = some (.string (⟨#[]⟩ : ByteArray)) := (blk_cell BK324.out 1).trans rfl
               have hcz28_2 : w14.cell? ⟨gb324, 2, none⟩ = some (.int .i64 0) := (blk_cell BK324.out 2).trans rfl
               have hcz28_3 : w14.cell? ⟨gb324, 3, none⟩ = some (.int .i64 0) := (blk_cell BK324.out 3).trans rfl
               have hfz28_0 := blk_frozen BK324.out 0
               have hfz28_1 := blk_frozen BK324.out 1
               have hfz28_2 := blk_frozen BK324.out 2
               have hfz28_3 := blk_frozen BK324.out 3
               go_wp2
               go_ret
               exact ⟨by first | rfl | (simp [errW_none, errW_some] <;> rfl) | (simp [*, errW_none, errW_some] <;> rfl), by repeat (first | (with_reducible first | exact HB.out | apply below_alloc | apply pw_below_drewN | apply below_drew1 | refine below_set ?_ GE324.out) | exact HB.out)⟩
              ·rw [if_neg c27] at H
               have c27b0 := decide_eq_false c27
               clear c27
               by_cases c29 : ((rd_T36 l0 x4_2).f3) > 4611686018427387904
               ·rw [if_pos c29] at H
                have c29b0 := decide_eq_true c29
                clear c29
                obtain rfl := Option.some.inj H
                have hcz30_0 : w14.cell? ⟨gb324, 0, none⟩ = some (.string (⟨#[]⟩ : ByteArray)) := (blk_cell BK324.out 0).trans rfl
                have hcz30_1 : w14.cell? ⟨gb324, 1, none⟩ = some (.string (⟨#[]⟩ : ByteArray)) := (blk_cell BK324.out 1).trans rfl
                have hcz30_2 : w14.cell? ⟨gb324, 2, none⟩ = some (.int .i64 0) := (blk_cell BK324.out 2).trans rfl
                have hcz30_3 : w14.cell? ⟨gb324, 3, none⟩ = some (.int .i64 0) := (blk_cell BK324.out 3).trans rfl
                have hfz30_0 := blk_frozen BK324.out 0
                have hfz30_1 := blk_frozen BK324.out 1
                have hfz30_2 := blk_frozen BK324.out 2
                have hfz30_3 := blk_frozen BK324.out 3
                go_wp2
                go_ret
                exact ⟨by first | rfl | (simp [errW_none, errW_some] <;> rfl) | (simp [*, errW_none, errW_some] <;> rfl), by repeat (first | (with_reducible first | exact HB.out | apply below_alloc | apply pw_below_drewN | apply below_drew1 | refine below_set ?_ GE324.out) | exact HB.out)⟩
               ·rw [if_neg c29] at H
                have c29b0 := decide_eq_false c29
                clear c29
                have H' := Aside0.mk H
                clear H
                have hcz31_0 : w14.cell? ⟨gb324, 0, none⟩ = some (.string (⟨#[]⟩ : ByteArray)) := (blk_cell BK324.out 0).trans rfl
                have hcz31_1 : w14.cell? ⟨gb324, 1, none⟩ = some (.string (⟨#[]⟩ : ByteArray)) := (blk_cell BK324.out 1).trans rfl
                have hcz31_2 : w14.cell? ⟨gb324, 2, none⟩ = some (.int .i64 0) := (blk_cell BK324.out 2).trans rfl
                have hcz31_3 : w14.cell? ⟨gb324, 3, none⟩ = some (.int .i64 0) := (blk_cell BK324.out 3).trans rfl
                have hfz31_0 := blk_frozen BK324.out 0
                have hfz31_1 := blk_frozen BK324.out 1
                have hfz31_2 := blk_frozen BK324.out 2
                have hfz31_3 := blk_frozen BK324.out 3
                go_wp2
                go_meet
                case rel => exact ⟨_, H', ⟨by have := HK1.out; have := HK2.out; first | omega | exact Nat.le_refl _⟩, ⟨by (with_reducible repeat (first | refine blk_drewN ?_ _ | refine blk_drew ?_ | refine blk_alloc ?_ _)); refine blk_put (cs := #[.string ((rd_T36 l0 x4_2).f0), .string ((rd_T36 l0 x4_2).f1), .int .i64 ((rd_T36 l0 x4_2).f2), .int .i64 0]) ?_ 3 _ rfl; (with_reducible repeat (first | refine blk_drewN ?_ _ | refine blk_drew ?_ | refine blk_alloc ?_ _)); refine blk_put (cs := #[.string ((rd_T36 l0 x4_2).f0), .string ((rd_T36 l0 x4_2).f1), .int .i64 0, .int .i64 0]) ?_ 2 _ rfl; (with_reducible repeat (first | refine blk_drewN ?_ _ | refine blk_drew ?_ | refine blk_alloc ?_ _)); refine blk_put (cs := #[.string ((rd_T36 l0 x4_2).f0), .string (⟨#[]⟩ : ByteArray), .int .i64 0, .int .i64 0]) ?_ 1 _ rfl; (with_reducible repeat (first | refine blk_drewN ?_ _ | refine blk_drew ?_ | refine blk_alloc ?_ _)); refine blk_put (cs := #[.string (⟨#[]⟩ : ByteArray), .string (⟨#[]⟩ : ByteArray), .int .i64 0, .int .i64 0]) ?_ 0 _ rfl; (with_reducible repeat (first | refine blk_drewN ?_ _ | refine blk_drew ?_ | refine blk_alloc ?_ _)); exact BK324.out⟩, ⟨by repeat (first | (with_reducible first | exact HB.out | apply below_alloc | apply pw_below_drewN | apply below_drew1 | refine below_set ?_ GE324.out) | exact HB.out)⟩⟩
           ·rw [if_neg c22] at H
            have c22b0 : (((rd_T36 l0 x4_2).f1).toList == ([] : List UInt8)) = false := beq_eq_false_iff_ne.mpr c22
            have c22b1 : (((rd_T36 l0 x4_2).f1).toList != ([] : List UInt8)) = true := bne_iff_ne.mpr c22
            obtain rfl := Option.some.inj H
            have hcz32_0 : w14.cell? ⟨gb324, 0, none⟩ = some (.string (⟨#[]⟩ : ByteArray)) := (blk_cell BK324.out 0).trans rfl
            have hcz32_1 : w14.cell? ⟨gb324, 1, none⟩ = some (.string (⟨#[]⟩ : ByteArray)) := (blk_cell BK324.out 1).trans rfl
            have hcz32_2 : w14.cell? ⟨gb324, 2, none⟩ = some (.int .i64 0) := (blk_cell BK324.out 2).trans rfl
            have hcz32_3 : w14.cell? ⟨gb324, 3, none⟩ = some (.int .i64 0) := (blk_cell BK324.out 3).trans rfl
            have hfz32_0 := blk_frozen BK324.out 0
            have hfz32_1 := blk_frozen BK324.out 1
            have hfz32_2 := blk_frozen BK324.out 2
            have hfz32_3 := blk_frozen BK324.out 3
            go_wp2
            go_ret
            exact ⟨by first | rfl | (simp [errW_none, errW_some] <;> rfl) | (simp [*, errW_none, errW_some] <;> rfl), by repeat (first | (with_reducible first | exact HB.out | apply below_alloc | apply pw_below_drewN | apply below_drew1 | refine below_set ?_ GE324.out) | exact HB.out)⟩
         case rest =>
          clear HC13
          try clear c1
          try clear c2
          try clear c2b0
          try clear p2
          try clear c3
          try clear c3b0
          try clear p3
          try clear q3
          try clear hx3
          try clear c4
          try clear c4b0
          try clear c4b1
          try clear c6
          try clear p6
          try clear c9
          try clear c9b0
          try clear c9b1
          try clear c10
          try clear c10b0
          try clear c11
          try clear c11b0
          try clear c16
          try clear c16b0
          try clear c16b1
          try clear c17
          try clear c17b0
          try clear c17b1
          try clear c18
          try clear c18b0
          try clear c18b1
          try clear c22
          try clear c22b0
          try clear c22b1
          try clear c23
          try clear c23b0
          try clear c25
          try clear c25b0
          try clear c27
          try clear c27b0
          try clear c29
          try clear c29b0
          try clear p32
          try clear q32
          try clear hx32
          try clear hcz15_0
          try clear hcz15_1
          try clear hcz15_2
          try clear hcz15_3
          try clear hcz19_0
          try clear hcz19_1
          try clear hcz19_2
          try clear hcz19_3
          try clear hcz20_0
          try clear hcz20_1
          try clear hcz20_2
          try clear hcz20_3
          try clear hcz21_0
          try clear hcz21_1
          try clear hcz21_2
          try clear hcz21_3
          try clear hcz24_0
          try clear hcz24_1
          try clear hcz24_2
          try clear hcz24_3
          try clear hcz26_0
          try clear hcz26_1
          try clear hcz26_2
          try clear hcz26_3
          try clear hcz28_0
          try clear hcz28_1
          try clear hcz28_2
          try clear hcz28_3
          try clear hcz30_0
          try clear hcz30_1
          try clear hcz30_2
          try clear hcz30_3
          try clear hcz31_0
          try clear hcz31_1
          try clear hcz31_2
          try clear hcz31_3
          try clear hcz32_0
          try clear hcz32_1
          try clear hcz32_2
          try clear hcz32_3
          try clear hfz15_0
          try clear hfz15_1
          try clear hfz15_2
          try clear hfz15_3
          try clear hfz19_0
          try clear hfz19_1
          try clear hfz19_2
          try clear hfz19_3
          try clear hfz20_0
          try clear hfz20_1
          try clear hfz20_2
          try clear hfz20_3
          try clear hfz21_0
          try clear hfz21_1
          try clear hfz21_2
          try clear hfz21_3
          try clear hfz24_0
          try clear hfz24_1
          try clear hfz24_2
          try clear hfz24_3
          try clear hfz26_0
          try clear hfz26_1
          try clear hfz26_2
          try clear hfz26_3
          try clear hfz28_0
          try clear hfz28_1
          try clear hfz28_2
          try clear hfz28_3
          try clear hfz30_0
          try clear hfz30_1
          try clear hfz30_2
          try clear hfz30_3
          try clear hfz31_0
          try clear hfz31_1
          try clear hfz31_2
          try clear hfz31_3
          try clear hfz32_0
          try clear hfz32_1
          try clear hfz32_2
          try clear hfz32_3
          try clear hx320_0
          try clear hx320_1
          try clear hx320_2
          try clear hx320_3
          try clear hx321_0
          try clear hx321_1
          try clear hx321_2
          try clear hx321_3
          try clear hx323_0
          try clear hx323_1
          try clear hx323_2
          try clear hx323_3
          try clear p2
          try clear p3
          try clear p320
          try clear p321
          try clear p323
          try clear p6
          try clear q3
          try clear q320
          try clear q321
          try clear q323
          obtain ⟨kq, HA, HJ12, BK324, HB⟩ := hcut
          cases kq with
          | zero => exact absurd HA.out (by simp [copseref13_Snap.j2])
          | succ kj12 =>
           have H := HA.out
           clear HA
           simp only [copseref13_Snap.j2] at H
           by_cases c33 : x4_2 > 0
           ·rw [if_pos c33] at H
            have c33b0 := decide_eq_true c33
            clear c33
            obtain ⟨ji34, hji34⟩ : ∃ j_ : Int, (wrap64 (x4_2 - 1)) = j_ := ⟨_, rfl⟩
            replace H : (if 0 ≤ (ji34) then (if (ji34) < (l0.length : Int) then ((copseref13_Path.f kj12 ((rd_T36 l0 (ji34)).f0) ((rd_T36 l0 x4_2).f0)).bind fun t327 => (if t327 ≥ 0 then (some 8) else ((copseref13_Above.f ((rd_T36 l0 (ji34)).f0) ((rd_T36 l0 x4_2).f0)).bind fun t329 => (if t329 = true then (some 8) else (copseref13_Snap.l1 kj12 l0 (wrap64 (x4_2 + 1))))))) else (none)) else (none)) = some r := by first | (rw [hji34] at H; exact H) | (simp only [hji34] at H ⊢; exact H)
            have hji34w : (IntKind.i64.wrap (x4_2 - 1)) = ji34 := (i64_w _).trans hji34
            by_cases c35 : 0 ≤ (ji34)
            ·rw [if_pos c35] at H
             have c35b0 := decide_eq_true c35
             clear c35
             by_cases c36 : (ji34) < (l0.length : Int)
             ·rw [if_pos c36] at H
              have c36b0 := decide_eq_true c36
              clear c36
              replace H := Option.bind_eq_some_iff.mp H
              obtain ⟨t327, A370, H⟩ := H
              try dsimp only at H
              have A37 := Aside0.mk A370
              clear A370
              by_cases c38 : t327 ≥ 0
              ·rw [if_pos c38] at H
               have c38b0 := decide_eq_true c38
               clear c38
               obtain rfl := Option.some.inj H
               try go_wp2
               have n0_ := Aside0.mk (blk_drew BK324.out)
               have n1_ := Aside0.mk (below_drew1 HB.out)
               clear BK324
               clear HB
               have BK324 := n0_
               have HB := n1_
               clear n0_ n1_
               have p326 : 0 ≤ ((ji34) : Int) := of_decide_eq_true (by first | (with_reducible assumption) | assumption)
               have q326 : (ji34) < (l0.length : Int) := of_decide_eq_true (by first | (with_reducible assumption) | assumption)
               obtain ⟨ad326, e326, hx326_0, hx326_1, hx326_2, hx326_3⟩ := at_T36 HR0.out (ji34) p326 q326
               have hw326_3 := hx326_3
               have hw326_2 := hx326_2
               have hw326_1 := hx326_1
               have hw326_0 := hx326_0
               obtain rfl : ad323 = ad326 := (by injection e326)
               replace hx326_0 := (HB.out.cell (World.block_lt_of_cell? w _ hx326_0)).trans hx326_0
               replace hx326_1 := (HB.out.cell (World.block_lt_of_cell? w _ hx326_1)).trans hx326_1
               replace hx326_2 := (HB.out.cell (World.block_lt_of_cell? w _ hx326_2)).trans hx326_2
               replace hx326_3 := (HB.out.cell (World.block_lt_of_cell? w _ hx326_3)).trans hx326_3
               replace p326 := eq_true p326
               replace q326 := eq_true q326
               refine start_ (n := 25) (S := fun w' => w'.cell? ⟨gb324, 0, none⟩ = some (.string ((rd_T36 l0 x4_2).f0)) ∧ w'.cell? ⟨gb324, 1, none⟩ = some (.string ((rd_T36 l0 x4_2).f1)) ∧ w'.cell? ⟨gb324, 2, none⟩ = some (.int .i64 ((rd_T36 l0 x4_2).f2)) ∧ w'.cell? ⟨gb324, 3, none⟩ = some (.int .i64 ((rd_T36 l0 x4_2).f3)) ∧ w'.cell? (ad323.add (((ji34)).toNat * 4)) = some (.string ((rd_T36 l0 (ji34)).f0)) ∧ w'.cell? ⟨(ad323.add (((ji34)).toNat * 4)).block, (ad323.add (((ji34)).toNat * 4)).off + 1, none⟩ = some (.string ((rd_T36 l0 (ji34)).f1)) ∧ w'.cell? ⟨(ad323.add (((ji34)).toNat * 4)).block, (ad323.add (((ji34)).toNat * 4)).off + 2, none⟩ = some (.int .i64 ((rd_T36 l0 (ji34)).f2)) ∧ w'.cell? ⟨(ad323.add (((ji34)).toNat * 4)).block, (ad323.add (((ji34)).toNat * 4)).off + 3, none⟩ = some (.int .i64 ((rd_T36 l0 (ji34)).f3))) (ds := []) (lb 25 0) (by kernel_rfl) rfl rfl ⟨(blk_cell BK324.out 0).trans rfl, (blk_cell BK324.out 1).trans rfl, (blk_cell BK324.out 2).trans rfl, (blk_cell BK324.out 3).trans rfl, ((HB.out.cell (World.block_lt_of_cell? w _ hw326_0)).trans hw326_0), ((HB.out.cell (World.block_lt_of_cell? w _ hw326_1)).trans hw326_1), ((HB.out.cell (World.block_lt_of_cell? w _ hw326_2)).trans hw326_2), ((HB.out.cell (World.block_lt_of_cell? w _ hw326_3)).trans hw326_3)⟩ (fun hHeld => ?_); refine with_tabW copseref13_Snap.tab17 copseref13_Snap.bits17 (fun HT_ HW_ => ?_)
               generalize wc.drew = w39 at BK324 HB hx326_0 hx326_1 hx326_2 hx326_3 hHeld ⊢
               refine pure_ (i := 0) (N := some 78) (v := ?_) (a' := ?_) (lb 25 1) rfl rfl (any_of HT_.out (by kernel_rfl)) (fun _ _ _ h => h) (Or.inl ⟨by rfl, ?_⟩) ?_ ?_
               rotate_left
               ·intro w'
                go_simp
                with_reducible rfl
               rotate_left
               ·simp only [Act.put, List.setIfInBounds_toArray, List.set_cons_zero, List.set_cons_succ, i64_w, i32_w]
                rfl
               refine pure_ (i := 1) (N := some 79) (v := ?_) (a' := ?_) (lb 25 3) rfl rfl (any_of HT_.out (by kernel_rfl)) (fun _ _ _ h => h) (Or.inl ⟨by rfl, ?_⟩) ?_ ?_
               rotate_left
               ·intro w'
                go_simp
                with_reducible rfl
               rotate_left
               ·simp only [Act.put, List.setIfInBounds_toArray, List.set_cons_zero, List.set_cons_succ, i64_w, i32_w]
                rfl
               refine pure_ (i := 2) (N := some 80) (v := ?_) (a' := ?_) (lb 25 7) rfl rfl (any_of HT_.out (by kernel_rfl)) (fun _ _ _ h => h) (Or.inl ⟨by rfl, ?_⟩) ?_ ?_
               rotate_left
               ·intro w'
                go_simp
                with_reducible rfl
               rotate_left
               ·simp only [Act.put, List.setIfInBounds_toArray, List.set_cons_zero, List.set_cons_succ, i64_w, i32_w]
                rfl
               refine pure_ (i := 3) (N := some 81) (v := ?_) (a' := ?_) (lb 25 15) rfl rfl (any_of HT_.out (by kernel_rfl)) (fun _ _ _ h => h) (Or.inl ⟨by rfl, ?_⟩) ?_ ?_
               rotate_left
               ·intro w'
                go_simp
                with_reducible rfl
               rotate_left
               ·simp only [Act.put, List.setIfInBounds_toArray, List.set_cons_zero, List.set_cons_succ, i64_w, i32_w]
                rfl
               refine pure_ (i := 4) (N := some 82) (v := ?_) (a' := ?_) (lb 25 31) rfl rfl (any_of HT_.out (by kernel_rfl)) (fun _ _ _ h => h) (Or.inl ⟨by rfl, ?_⟩) ?_ ?_
               rotate_left
               ·intro w'
                go_simp
                with_reducible rfl
               rotate_left
               ·simp only [Act.put, List.setIfInBounds_toArray, List.set_cons_zero, List.set_cons_succ, i64_w, i32_w]
                rfl
               refine pure_ (i := 5) (N := some 83) (v := ?_) (a' := ?_) (lb 25 63) rfl rfl (any_of HT_.out (by kernel_rfl)) (fun _ _ _ h => h) (Or.inl ⟨by rfl, ?_⟩) ?_ ?_
               rotate_left
               ·intro w'
                go_simp
                with_reducible rfl
               rotate_left
               ·simp only [Act.put, List.setIfInBounds_toArray, List.set_cons_zero, List.set_cons_succ, i64_w, i32_w]
                rfl
               refine pure_ (i := 6) (N := some 84) (v := ?_) (a' := ?_) (lb 25 127) rfl rfl (any_of HT_.out (by kernel_rfl)) (fun _ _ _ h => h) (Or.inl ⟨by rfl, ?_⟩) ?_ ?_
               rotate_left
               ·intro w'
                go_simp
                with_reducible rfl
               rotate_left
               ·simp only [Act.put, List.setIfInBounds_toArray, List.set_cons_zero, List.set_cons_succ, i64_w, i32_w]
                rfl
               refine pure_ (i := 7) (N := some 85) (v := ?_) (a' := ?_) (lb 25 255) rfl rfl (any_of HT_.out (by kernel_rfl)) (fun _ _ _ h => h) (Or.inl ⟨by rfl, ?_⟩) ?_ ?_
               rotate_left
               ·intro w'
                go_simp
                with_reducible rfl
               rotate_left
               ·simp only [Act.put, List.setIfInBounds_toArray, List.set_cons_zero, List.set_cons_succ, i64_w, i32_w]
                rfl
               refine pure_ (i := 9) (N := some 87) (v := ?_) (a' := ?_) (lb 25 767) rfl rfl (any_of HT_.out (by kernel_rfl)) (fun _ _ _ h => h) (Or.inl ⟨by rfl, ?_⟩) ?_ ?_
               rotate_left
               ·intro w'
                go_simp
                with_reducible rfl
               rotate_left
               ·simp only [Act.put, List.setIfInBounds_toArray, List.set_cons_zero, List.set_cons_succ, i64_w, i32_w]
                rfl
               refine take_ (i := 8) (N := some 86) (v := ?_) (a' := ?_) (lb 25 1023) rfl rfl (take_ofW HT_.out HW_.out (by kernel_rfl)) (fun _ _ _ h => h) (Or.inl ⟨by rfl, ?_⟩) hHeld ?_ ?_
               rotate_left
               ·rintro w' ⟨s0, s1, s2, s3, s4, s5, s6, s7⟩
                go_simp
                with_reducible rfl
               rotate_left
               ·simp only [Act.put, List.setIfInBounds_toArray, List.set_cons_zero, List.set_cons_succ, i64_w, i32_w]
                rfl
               refine take_ (i := 10) (N := some 88) (v := ?_) (a' := ?_) (lb 25 2047) rfl rfl (take_ofW HT_.out HW_.out (by kernel_rfl)) (fun _ _ _ h => h) (Or.inl ⟨by rfl, ?_⟩) hHeld ?_ ?_
               rotate_left
               ·rintro w' ⟨s0, s1, s2, s3, s4, s5, s6, s7⟩
                go_simp
                with_reducible rfl
               rotate_left
               ·simp only [Act.put, List.setIfInBounds_toArray, List.set_cons_zero, List.set_cons_succ, i64_w, i32_w]
                rfl
               refine one_ (i := 11) (N := some 89) (lb 25 4095) rfl rfl (one_of HT_.out (by kernel_rfl)) (by decide) (fun K hK => ?_)
               refine goes_ Tryz.func42 (by kernel_rfl) rfl #[.string ((rd_T36 l0 (ji34)).f0), .string ((rd_T36 l0 x4_2).f0)] (by rfl) rfl rfl (by (try simp only [List.map_toArray, List.map_cons, List.map_nil]); first | done | (simp only [hji34]; rfl) | rfl | (simp only [List.length_drop, List.length_take]; rfl)) ?_
               with_reducible refine (copseref13_Path.calls kj12 ((rd_T36 l0 (ji34)).f0) ((rd_T36 l0 x4_2).f0) t327 _ A37.out).mono ?_
               rintro e w40 ⟨rfl, hb⟩
               refine ⟨_, rfl, ?_⟩
               have n0_ := Aside0.mk (blk_below (g := gb324) (o := .cells #[.string ((rd_T36 l0 x4_2).f0), .string ((rd_T36 l0 x4_2).f1), .int .i64 ((rd_T36 l0 x4_2).f2), .int .i64 ((rd_T36 l0 x4_2).f3)] 36 (0, 0)) (by (with_reducible repeat (first | refine blk_drewN ?_ _ | refine blk_drew ?_ | refine blk_alloc ?_ _)); exact BK324.out) hb)
               have n1_ := Aside0.mk (below_step (by repeat (first | (with_reducible first | exact HB.out | apply below_alloc | apply pw_below_drewN | apply below_drew1 | refine below_set ?_ GE324.out) | exact HB.out)) hb)
               clear BK324
               clear HB
               have BK324 := n0_
               have HB := n1_
               clear n0_ n1_
               (try clear hb)
               (try clear hb2)
               (try clear hk)
               (try clear hi)
               refine hK.out _ _ ⟨(blk_cell BK324.out 0).trans rfl, (blk_cell BK324.out 1).trans rfl, (blk_cell BK324.out 2).trans rfl, (blk_cell BK324.out 3).trans rfl, ((HB.out.cell (World.block_lt_of_cell? w _ hw326_0)).trans hw326_0), ((HB.out.cell (World.block_lt_of_cell? w _ hw326_1)).trans hw326_1), ((HB.out.cell (World.block_lt_of_cell? w _ hw326_2)).trans hw326_2), ((HB.out.cell (World.block_lt_of_cell? w _ hw326_3)).trans hw326_3)⟩ (fun hHeld => ?_)
               clear hK K
               refine norm_ (a' := ?_) ?_ ?_
               rotate_left
               ·show Act.put _ (some 89) _ = _
                simp only [Act.put, List.setIfInBounds_toArray, List.set_cons_zero, List.set_cons_succ, i64_w, i32_w]
                rfl
               refine pure_ (i := 12) (N := some 90) (v := ?_) (a' := ?_) (lb 25 8191) rfl rfl (any_of HT_.out (by kernel_rfl)) (fun _ _ _ h => h) (Or.inl ⟨by rfl, ?_⟩) ?_ ?_
               rotate_left
               ·intro w'
                go_simp
                with_reducible rfl
               rotate_left
               ·simp only [Act.put, List.setIfInBounds_toArray, List.set_cons_zero, List.set_cons_succ, i64_w, i32_w]
                rfl
               refine pure_ (i := 13) (N := some 91) (v := ?_) (a' := ?_) (lb 25 16383) rfl rfl (any_of HT_.out (by kernel_rfl)) (fun _ _ _ h => h) (Or.inl ⟨by rfl, ?_⟩) ?_ ?_
               rotate_left
               ·intro w'
                go_simp
                with_reducible rfl
               rotate_left
               ·simp only [Act.put, List.setIfInBounds_toArray, List.set_cons_zero, List.set_cons_succ, i64_w, i32_w]
                rfl
               refine pure_ (i := 14) (N := some 92) (v := undef) (a' := ?_) (lb 25 32767) rfl rfl (any_of HT_.out (by kernel_rfl)) (fun _ _ _ h => h) (Or.inr ⟨by rfl, rfl⟩) ?_ ?_
               rotate_left
               ·simp only [Act.put, List.setIfInBounds_toArray, List.set_cons_zero, List.set_cons_succ, i64_w, i32_w]
                rfl
               refine pure_ (i := 15) (N := some 93) (v := undef) (a' := ?_) (lb 25 65535) rfl rfl (any_of HT_.out (by kernel_rfl)) (fun _ _ _ h => h) (Or.inr ⟨by rfl, rfl⟩) ?_ ?_
               rotate_left
               ·simp only [Act.put, List.setIfInBounds_toArray, List.set_cons_zero, List.set_cons_succ, i64_w, i32_w]
                rfl
               refine pure_ (i := 16) (N := some 94) (v := undef) (a' := ?_) (lb 25 131071) rfl rfl (any_of HT_.out (by kernel_rfl)) (fun _ _ _ h => h) (Or.inr ⟨by rfl, rfl⟩) ?_ ?_
               rotate_left
               ·simp only [Act.put, List.setIfInBounds_toArray, List.set_cons_zero, List.set_cons_succ, i64_w, i32_w]
                rfl
               refine pure_ (i := 17) (N := some 95) (v := undef) (a' := ?_) (lb 25 262143) rfl rfl (any_of HT_.out (by kernel_rfl)) (fun _ _ _ h => h) (Or.inr ⟨by rfl, rfl⟩) ?_ ?_
               rotate_left
               ·simp only [Act.put, List.setIfInBounds_toArray, List.set_cons_zero, List.set_cons_succ, i64_w, i32_w]
                rfl
               refine pure_ (i := 18) (N := some 96) (v := undef) (a' := ?_) (lb 25 524287) rfl rfl (any_of HT_.out (by kernel_rfl)) (fun _ _ _ h => h) (Or.inr ⟨by rfl, rfl⟩) ?_ ?_
               rotate_left
               ·simp only [Act.put, List.setIfInBounds_toArray, List.set_cons_zero, List.set_cons_succ, i64_w, i32_w]
                rfl
               refine pure_ (i := 19) (N := some 97) (v := undef) (a' := ?_) (lb 25 1048575) rfl rfl (any_of HT_.out (by kernel_rfl)) (fun _ _ _ h => h) (Or.inr ⟨by rfl, rfl⟩) ?_ ?_
               rotate_left
               ·simp only [Act.put, List.setIfInBounds_toArray, List.set_cons_zero, List.set_cons_succ, i64_w, i32_w]
                rfl
               refine pure_ (i := 20) (N := some 98) (v := undef) (a' := ?_) (lb 25 2097151) rfl rfl (any_of HT_.out (by kernel_rfl)) (fun _ _ _ h => h) (Or.inr ⟨by rfl, rfl⟩) ?_ ?_
               rotate_left
               ·simp only [Act.put, List.setIfInBounds_toArray, List.set_cons_zero, List.set_cons_succ, i64_w, i32_w]
                rfl
               refine pure_ (i := 21) (N := some 99) (v := undef) (a' := ?_) (lb 25 4194303) rfl rfl (any_of HT_.out (by kernel_rfl)) (fun _ _ _ h => h) (Or.inr ⟨by rfl, rfl⟩) ?_ ?_
               rotate_left
               ·simp only [Act.put, List.setIfInBounds_toArray, List.set_cons_zero, List.set_cons_succ, i64_w, i32_w]
                rfl
               refine pure_ (i := 22) (N := some 100) (v := undef) (a' := ?_) (lb 25 8388607) rfl rfl (any_of HT_.out (by kernel_rfl)) (fun _ _ _ h => h) (Or.inr ⟨by rfl, rfl⟩) ?_ ?_
               rotate_left
               ·simp only [Act.put, List.setIfInBounds_toArray, List.set_cons_zero, List.set_cons_succ, i64_w, i32_w]
                rfl
               refine pure_ (i := 23) (N := some 101) (v := ?_) (a' := ?_) (lb 25 16777215) rfl rfl (any_of HT_.out (by kernel_rfl)) (fun _ _ _ h => h) (Or.inl ⟨by rfl, ?_⟩) ?_ ?_
               rotate_left
               ·intro w'
                go_simp
                with_reducible rfl
               rotate_left
               ·simp only [Act.put, List.setIfInBounds_toArray, List.set_cons_zero, List.set_cons_succ, i64_w, i32_w]
                rfl
               refine pure_ (i := 24) (N := some 102) (v := ?_) (a' := ?_) (lb 25 33554431) rfl rfl (any_of HT_.out (by kernel_rfl)) (fun _ _ _ h => h) (Or.inl ⟨by rfl, ?_⟩) ?_ ?_
               rotate_left
               ·intro w'
                go_simp
                with_reducible rfl
               rotate_left
               ·simp only [Act.put, List.setIfInBounds_toArray, List.set_cons_zero, List.set_cons_succ, i64_w, i32_w]
                rfl
               refine done_ (done_of HT_.out (by kernel_rfl)) ?_
               try go_wp2
               go_ret
               exact ⟨by first | rfl | (simp [errW_none, errW_some] <;> rfl) | (simp only [← hji34]; first | rfl | (simp [errW_none, errW_some] <;> rfl)) | (simp [*, errW_none, errW_some] <;> rfl), by repeat (first | (with_reducible first | exact HB.out | apply below_alloc | apply pw_below_drewN | apply below_drew1 | refine below_set ?_ GE324.out) | exact HB.out)⟩
              ·rw [if_neg c38] at H
               have c38b0 := decide_eq_false c38
               clear c38
               replace H := Option.bind_eq_some_iff.mp H
               obtain ⟨t329, A410, H⟩ := H
               try dsimp only at H
               have A41 := Aside0.mk A410
               clear A410
               by_cases c42 : t329 = true
               ·subst c42
                rw [if_pos rfl] at H
                have H1 := H
                clear H
                have H := H1
                clear H1
                obtain rfl := Option.some.inj H
                try go_wp2
                have n0_ := Aside0.mk (blk_drew BK324.out)
                have n1_ := Aside0.mk (below_drew1 HB.out)
                clear BK324
                clear HB
                have BK324 := n0_
                have HB := n1_
                clear n0_ n1_
                have p326 : 0 ≤ ((ji34) : Int) := of_decide_eq_true (by first | (with_reducible assumption) | assumption)
                have q326 : (ji34) < (l0.length : Int) := of_decide_eq_true (by first | (with_reducible assumption) | assumption)
                obtain ⟨ad326, e326, hx326_0, hx326_1, hx326_2, hx326_3⟩ := at_T36 HR0.out (ji34) p326 q326
                have hw326_3 := hx326_3
                have hw326_2 := hx326_2
                have hw326_1 := hx326_1
                have hw326_0 := hx326_0
                obtain rfl : ad323 = ad326 := (by injection e326)
                replace hx326_0 := (HB.out.cell (World.block_lt_of_cell? w _ hx326_0)).trans hx326_0
                replace hx326_1 := (HB.out.cell (World.block_lt_of_cell? w _ hx326_1)).trans hx326_1
                replace hx326_2 := (HB.out.cell (World.block_lt_of_cell? w _ hx326_2)).trans hx326_2
                replace hx326_3 := (HB.out.cell (World.block_lt_of_cell? w _ hx326_3)).trans hx326_3
                replace p326 := eq_true p326
                replace q326 := eq_true q326
                have p328 : 0 ≤ ((ji34) : Int) := of_decide_eq_true (by first | (with_reducible assumption) | assumption)
                have q328 : (ji34) < (l0.length : Int) := of_decide_eq_true (by first | (with_reducible assumption) | assumption)
                obtain ⟨ad328, e328, hx328_0, hx328_1, hx328_2, hx328_3⟩ := at_T36 HR0.out (ji34) p328 q328
                have hw328_3 := hx328_3
                have hw328_2 := hx328_2
                have hw328_1 := hx328_1
                have hw328_0 := hx328_0
                obtain rfl : ad323 = ad328 := (by injection e328)
                replace hx328_0 := (HB.out.cell (World.block_lt_of_cell? w _ hx328_0)).trans hx328_0
                replace hx328_1 := (HB.out.cell (World.block_lt_of_cell? w _ hx328_1)).trans hx328_1
                replace hx328_2 := (HB.out.cell (World.block_lt_of_cell? w _ hx328_2)).trans hx328_2
                replace hx328_3 := (HB.out.cell (World.block_lt_of_cell? w _ hx328_3)).trans hx328_3
                replace p328 := eq_true p328
                replace q328 := eq_true q328
                refine start_ (n := 25) (S := fun w' => w'.cell? ⟨gb324, 0, none⟩ = some (.string ((rd_T36 l0 x4_2).f0)) ∧ w'.cell? ⟨gb324, 1, none⟩ = some (.string ((rd_T36 l0 x4_2).f1)) ∧ w'.cell? ⟨gb324, 2, none⟩ = some (.int .i64 ((rd_T36 l0 x4_2).f2)) ∧ w'.cell? ⟨gb324, 3, none⟩ = some (.int .i64 ((rd_T36 l0 x4_2).f3)) ∧ w'.cell? (ad323.add (((ji34)).toNat * 4)) = some (.string ((rd_T36 l0 (ji34)).f0)) ∧ w'.cell? ⟨(ad323.add (((ji34)).toNat * 4)).block, (ad323.add (((ji34)).toNat * 4)).off + 1, none⟩ = some (.string ((rd_T36 l0 (ji34)).f1)) ∧ w'.cell? ⟨(ad323.add (((ji34)).toNat * 4)).block, (ad323.add (((ji34)).toNat * 4)).off + 2, none⟩ = some (.int .i64 ((rd_T36 l0 (ji34)).f2)) ∧ w'.cell? ⟨(ad323.add (((ji34)).toNat * 4)).block, (ad323.add (((ji34)).toNat * 4)).off + 3, none⟩ = some (.int .i64 ((rd_T36 l0 (ji34)).f3)) ∧ w'.cell? (ad323.add (((ji34)).toNat * 4)) = some (.string ((rd_T36 l0 (ji34)).f0)) ∧ w'.cell? ⟨(ad323.add (((ji34)).toNat * 4)).block, (ad323.add (((ji34)).toNat * 4)).off + 1, none⟩ = some (.string ((rd_T36 l0 (ji34)).f1)) ∧ w'.cell? ⟨(ad323.add (((ji34)).toNat * 4)).block, (ad323.add (((ji34)).toNat * 4)).off + 2, none⟩ = some (.int .i64 ((rd_T36 l0 (ji34)).f2)) ∧ w'.cell? ⟨(ad323.add (((ji34)).toNat * 4)).block, (ad323.add (((ji34)).toNat * 4)).off + 3, none⟩ = some (.int .i64 ((rd_T36 l0 (ji34)).f3))) (ds := []) (lb 25 0) (by kernel_rfl) rfl rfl ⟨(blk_cell BK324.out 0).trans rfl, (blk_cell BK324.out 1).trans rfl, (blk_cell BK324.out 2).trans rfl, (blk_cell BK324.out 3).trans rfl, ((HB.out.cell (World.block_lt_of_cell? w _ hw326_0)).trans hw326_0), ((HB.out.cell (World.block_lt_of_cell? w _ hw326_1)).trans hw326_1), ((HB.out.cell (World.block_lt_of_cell? w _ hw326_2)).trans hw326_2), ((HB.out.cell (World.block_lt_of_cell? w _ hw326_3)).trans hw326_3), ((HB.out.cell (World.block_lt_of_cell? w _ hw328_0)).trans hw328_0), ((HB.out.cell (World.block_lt_of_cell? w _ hw328_1)).trans hw328_1), ((HB.out.cell (World.block_lt_of_cell? w _ hw328_2)).trans hw328_2), ((HB.out.cell (World.block_lt_of_cell? w _ hw328_3)).trans hw328_3)⟩ (fun hHeld => ?_); refine with_tabW copseref13_Snap.tab17 copseref13_Snap.bits17 (fun HT_ HW_ => ?_)
                generalize wc.drew = w43 at BK324 HB hx326_0 hx326_1 hx326_2 hx326_3 hx328_0 hx328_1 hx328_2 hx328_3 hHeld ⊢
                refine pure_ (i := 0) (N := some 78) (v := ?_) (a' := ?_) (lb 25 1) rfl rfl (any_of HT_.out (by kernel_rfl)) (fun _ _ _ h => h) (Or.inl ⟨by rfl, ?_⟩) ?_ ?_
                rotate_left
                ·intro w'
                 go_simp
                 with_reducible rfl
                rotate_left
                ·simp only [Act.put, List.setIfInBounds_toArray, List.set_cons_zero, List.set_cons_succ, i64_w, i32_w]
                 rfl
                refine pure_ (i := 1) (N := some 79) (v := ?_) (a' := ?_) (lb 25 3) rfl rfl (any_of HT_.out (by kernel_rfl)) (fun _ _ _ h => h) (Or.inl ⟨by rfl, ?_⟩) ?_ ?_
                rotate_left
                ·intro w'
                 go_simp
                 with_reducible rfl
                rotate_left
                ·simp only [Act.put, List.setIfInBounds_toArray, List.set_cons_zero, List.set_cons_succ, i64_w, i32_w]
                 rfl
                refine pure_ (i := 2) (N := some 80) (v := ?_) (a' := ?_) (lb 25 7) rfl rfl (any_of HT_.out (by kernel_rfl)) (fun _ _ _ h => h) (Or.inl ⟨by rfl, ?_⟩) ?_ ?_
                rotate_left
                ·intro w'
                 go_simp
                 with_reducible rfl
                rotate_left
                ·simp only [Act.put, List.setIfInBounds_toArray, List.set_cons_zero, List.set_cons_succ, i64_w, i32_w]
                 rfl
                refine pure_ (i := 3) (N := some 81) (v := ?_) (a' := ?_) (lb 25 15) rfl rfl (any_of HT_.out (by kernel_rfl)) (fun _ _ _ h => h) (Or.inl ⟨by rfl, ?_⟩) ?_ ?_
                rotate_left
                ·intro w'
                 go_simp
                 with_reducible rfl
                rotate_left
                ·simp only [Act.put, List.setIfInBounds_toArray, List.set_cons_zero, List.set_cons_succ, i64_w, i32_w]
                 rfl
                refine pure_ (i := 4) (N := some 82) (v := ?_) (a' := ?_) (lb 25 31) rfl rfl (any_of HT_.out (by kernel_rfl)) (fun _ _ _ h => h) (Or.inl ⟨by rfl, ?_⟩) ?_ ?_
                rotate_left
                ·intro w'
                 go_simp
                 with_reducible rfl
                rotate_left
                ·simp only [Act.put, List.setIfInBounds_toArray, List.set_cons_zero, List.set_cons_succ, i64_w, i32_w]
                 rfl
                refine pure_ (i := 5) (N := some 83) (v := ?_) (a' := ?_) (lb 25 63) rfl rfl (any_of HT_.out (by kernel_rfl)) (fun _ _ _ h => h) (Or.inl ⟨by rfl, ?_⟩) ?_ ?_
                rotate_left
                ·intro w'
                 go_simp
                 with_reducible rfl
                rotate_left
                ·simp only [Act.put, List.setIfInBounds_toArray, List.set_cons_zero, List.set_cons_succ, i64_w, i32_w]
                 rfl
                refine pure_ (i := 6) (N := some 84) (v := ?_) (a' := ?_) (lb 25 127) rfl rfl (any_of HT_.out (by kernel_rfl)) (fun _ _ _ h => h) (Or.inl ⟨by rfl, ?_⟩) ?_ ?_
                rotate_left
                ·intro w'
                 go_simp
                 with_reducible rfl
                rotate_left
                ·simp only [Act.put, List.setIfInBounds_toArray, List.set_cons_zero, List.set_cons_succ, i64_w, i32_w]
                 rfl
                refine pure_ (i := 7) (N := some 85) (v := ?_) (a' := ?_) (lb 25 255) rfl rfl (any_of HT_.out (by kernel_rfl)) (fun _ _ _ h => h) (Or.inl ⟨by rfl, ?_⟩) ?_ ?_
                rotate_left
                ·intro w'
                 go_simp
                 with_reducible rfl
                rotate_left
                ·simp only [Act.put, List.setIfInBounds_toArray, List.set_cons_zero, List.set_cons_succ, i64_w, i32_w]
                 rfl
                refine pure_ (i := 9) (N := some 87) (v := ?_) (a' := ?_) (lb 25 767) rfl rfl (any_of HT_.out (by kernel_rfl)) (fun _ _ _ h => h) (Or.inl ⟨by rfl, ?_⟩) ?_ ?_
                rotate_left
                ·intro w'
                 go_simp
                 with_reducible rfl
                rotate_left
                ·simp only [Act.put, List.setIfInBounds_toArray, List.set_cons_zero, List.set_cons_succ, i64_w, i32_w]
                 rfl
                refine take_ (i := 8) (N := some 86) (v := ?_) (a' := ?_) (lb 25 1023) rfl rfl (take_ofW HT_.out HW_.out (by kernel_rfl)) (fun _ _ _ h => h) (Or.inl ⟨by rfl, ?_⟩) hHeld ?_ ?_
                rotate_left
                ·rintro w' ⟨s0, s1, s2, s3, s4, s5, s6, s7, s8, s9, s10, s11⟩
                 go_simp
                 with_reducible rfl
                rotate_left
                ·simp only [Act.put, List.setIfInBounds_toArray, List.set_cons_zero, List.set_cons_succ, i64_w, i32_w]
                 rfl
                refine take_ (i := 10) (N := some 88) (v := ?_) (a' := ?_) (lb 25 2047) rfl rfl (take_ofW HT_.out HW_.out (by kernel_rfl)) (fun _ _ _ h => h) (Or.inl ⟨by rfl, ?_⟩) hHeld ?_ ?_
                rotate_left
                ·rintro w' ⟨s0, s1, s2, s3, s4, s5, s6, s7, s8, s9, s10, s11⟩
                 go_simp
                 with_reducible rfl
                rotate_left
                ·simp only [Act.put, List.setIfInBounds_toArray, List.set_cons_zero, List.set_cons_succ, i64_w, i32_w]
                 rfl
                refine one_ (i := 11) (N := some 89) (lb 25 4095) rfl rfl (one_of HT_.out (by kernel_rfl)) (by decide) (fun K hK => ?_)
                refine goes_ Tryz.func42 (by kernel_rfl) rfl #[.string ((rd_T36 l0 (ji34)).f0), .string ((rd_T36 l0 x4_2).f0)] (by rfl) rfl rfl (by (try simp only [List.map_toArray, List.map_cons, List.map_nil]); first | done | (simp only [hji34]; rfl) | rfl | (simp only [List.length_drop, List.length_take]; rfl)) ?_
                with_reducible refine (copseref13_Path.calls kj12 ((rd_T36 l0 (ji34)).f0) ((rd_T36 l0 x4_2).f0) t327 _ A37.out).mono ?_
                rintro e w44 ⟨rfl, hb⟩
                refine ⟨_, rfl, ?_⟩
                have n0_ := Aside0.mk (blk_below (g := gb324) (o := .cells #[.string ((rd_T36 l0 x4_2).f0), .string ((rd_T36 l0 x4_2).f1), .int .i64 ((rd_T36 l0 x4_2).f2), .int .i64 ((rd_T36 l0 x4_2).f3)] 36 (0, 0)) (by (with_reducible repeat (first | refine blk_drewN ?_ _ | refine blk_drew ?_ | refine blk_alloc ?_ _)); exact BK324.out) hb)
                have n1_ := Aside0.mk (below_step (by repeat (first | (with_reducible first | exact HB.out | apply below_alloc | apply pw_below_drewN | apply below_drew1 | refine below_set ?_ GE324.out) | exact HB.out)) hb)
                clear BK324
                clear HB
                have BK324 := n0_
                have HB := n1_
                clear n0_ n1_
                (try clear hb)
                (try clear hb2)
                (try clear hk)
                (try clear hi)
                refine hK.out _ _ ⟨(blk_cell BK324.out 0).trans rfl, (blk_cell BK324.out 1).trans rfl, (blk_cell BK324.out 2).trans rfl, (blk_cell BK324.out 3).trans rfl, ((HB.out.cell (World.block_lt_of_cell? w _ hw326_0)).trans hw326_0), ((HB.out.cell (World.block_lt_of_cell? w _ hw326_1)).trans hw326_1), ((HB.out.cell (World.block_lt_of_cell? w _ hw326_2)).trans hw326_2), ((HB.out.cell (World.block_lt_of_cell? w _ hw326_3)).trans hw326_3), ((HB.out.cell (World.block_lt_of_cell? w _ hw328_0)).trans hw328_0), ((HB.out.cell (World.block_lt_of_cell? w _ hw328_1)).trans hw328_1), ((HB.out.cell (World.block_lt_of_cell? w _ hw328_2)).trans hw328_2), ((HB.out.cell (World.block_lt_of_cell? w _ hw328_3)).trans hw328_3)⟩ (fun hHeld => ?_)
                clear hK K
                refine norm_ (a' := ?_) ?_ ?_
                rotate_left
                ·show Act.put _ (some 89) _ = _
                 simp only [Act.put, List.setIfInBounds_toArray, List.set_cons_zero, List.set_cons_succ, i64_w, i32_w]
                 rfl
                refine pure_ (i := 12) (N := some 90) (v := ?_) (a' := ?_) (lb 25 8191) rfl rfl (any_of HT_.out (by kernel_rfl)) (fun _ _ _ h => h) (Or.inl ⟨by rfl, ?_⟩) ?_ ?_
                rotate_left
                ·intro w'
                 go_simp
                 with_reducible rfl
                rotate_left
                ·simp only [Act.put, List.setIfInBounds_toArray, List.set_cons_zero, List.set_cons_succ, i64_w, i32_w]
                 rfl
                refine pure_ (i := 13) (N := some 91) (v := ?_) (a' := ?_) (lb 25 16383) rfl rfl (any_of HT_.out (by kernel_rfl)) (fun _ _ _ h => h) (Or.inl ⟨by rfl, ?_⟩) ?_ ?_
                rotate_left
                ·intro w'
                 go_simp
                 with_reducible rfl
                rotate_left
                ·simp only [Act.put, List.setIfInBounds_toArray, List.set_cons_zero, List.set_cons_succ, i64_w, i32_w]
                 rfl
                refine pure_ (i := 14) (N := some 92) (v := ?_) (a' := ?_) (lb 25 32767) rfl rfl (any_of HT_.out (by kernel_rfl)) (fun _ _ _ h => h) (Or.inl ⟨by rfl, ?_⟩) ?_ ?_
                rotate_left
                ·intro w'
                 go_simp
                 with_reducible rfl
                rotate_left
                ·simp only [Act.put, List.setIfInBounds_toArray, List.set_cons_zero, List.set_cons_succ, i64_w, i32_w]
                 rfl
                refine pure_ (i := 15) (N := some 93) (v := ?_) (a' := ?_) (lb 25 65535) rfl rfl (any_of HT_.out (by kernel_rfl)) (fun _ _ _ h => h) (Or.inl ⟨by rfl, ?_⟩) ?_ ?_
                rotate_left
                ·intro w'
                 go_simp
                 with_reducible rfl
                rotate_left
                ·simp only [Act.put, List.setIfInBounds_toArray, List.set_cons_zero, List.set_cons_succ, i64_w, i32_w]
                 rfl
                refine pure_ (i := 16) (N := some 94) (v := ?_) (a' := ?_) (lb 25 131071) rfl rfl (any_of HT_.out (by kernel_rfl)) (fun _ _ _ h => h) (Or.inl ⟨by rfl, ?_⟩) ?_ ?_
                rotate_left
                ·intro w'
                 go_simp
                 with_reducible rfl
                rotate_left
                ·simp only [Act.put, List.setIfInBounds_toArray, List.set_cons_zero, List.set_cons_succ, i64_w, i32_w]
                 rfl
                refine pure_ (i := 17) (N := some 95) (v := ?_) (a' := ?_) (lb 25 262143) rfl rfl (any_of HT_.out (by kernel_rfl)) (fun _ _ _ h => h) (Or.inl ⟨by rfl, ?_⟩) ?_ ?_
                rotate_left
                ·intro w'
                 go_simp
                 with_reducible rfl
                rotate_left
                ·simp only [Act.put, List.setIfInBounds_toArray, List.set_cons_zero, List.set_cons_succ, i64_w, i32_w]
                 rfl
                refine pure_ (i := 18) (N := some 96) (v := ?_) (a' := ?_) (lb 25 524287) rfl rfl (any_of HT_.out (by kernel_rfl)) (fun _ _ _ h => h) (Or.inl ⟨by rfl, ?_⟩) ?_ ?_
                rotate_left
                ·intro w'
                 go_simp
                 with_reducible rfl
                rotate_left
                ·simp only [Act.put, List.setIfInBounds_toArray, List.set_cons_zero, List.set_cons_succ, i64_w, i32_w]
                 rfl
                refine pure_ (i := 20) (N := some 98) (v := ?_) (a' := ?_) (lb 25 1572863) rfl rfl (any_of HT_.out (by kernel_rfl)) (fun _ _ _ h => h) (Or.inl ⟨by rfl, ?_⟩) ?_ ?_
                rotate_left
                ·intro w'
                 go_simp
                 with_reducible rfl
                rotate_left
                ·simp only [Act.put, List.setIfInBounds_toArray, List.set_cons_zero, List.set_cons_succ, i64_w, i32_w]
                 rfl
                refine take_ (i := 19) (N := some 97) (v := ?_) (a' := ?_) (lb 25 2097151) rfl rfl (take_ofW HT_.out HW_.out (by kernel_rfl)) (fun _ _ _ h => h) (Or.inl ⟨by rfl, ?_⟩) hHeld ?_ ?_
                rotate_left
                ·rintro w' ⟨s0, s1, s2, s3, s4, s5, s6, s7, s8, s9, s10, s11⟩
                 go_simp
                 with_reducible rfl
                rotate_left
                ·simp only [Act.put, List.setIfInBounds_toArray, List.set_cons_zero, List.set_cons_succ, i64_w, i32_w]
                 rfl
                refine take_ (i := 21) (N := some 99) (v := ?_) (a' := ?_) (lb 25 4194303) rfl rfl (take_ofW HT_.out HW_.out (by kernel_rfl)) (fun _ _ _ h => h) (Or.inl ⟨by rfl, ?_⟩) hHeld ?_ ?_
                rotate_left
                ·rintro w' ⟨s0, s1, s2, s3, s4, s5, s6, s7, s8, s9, s10, s11⟩
                 go_simp
                 with_reducible rfl
                rotate_left
                ·simp only [Act.put, List.setIfInBounds_toArray, List.set_cons_zero, List.set_cons_succ, i64_w, i32_w]
                 rfl
                refine one_ (i := 22) (N := some 100) (lb 25 8388607) rfl rfl (one_of HT_.out (by kernel_rfl)) (by decide) (fun K hK => ?_)
                refine goes_ Tryz.func43 (by kernel_rfl) rfl #[.string ((rd_T36 l0 (ji34)).f0), .string ((rd_T36 l0 x4_2).f0)] (by rfl) rfl rfl (by (try simp only [List.map_toArray, List.map_cons, List.map_nil]); first | done | (simp only [hji34]; rfl) | rfl | (simp only [List.length_drop, List.length_take]; rfl)) ?_
                with_reducible refine (copseref13_Above.calls ((rd_T36 l0 (ji34)).f0) ((rd_T36 l0 x4_2).f0) true _ A41.out).mono ?_
                rintro e w' ⟨rfl, ⟨nd, rfl⟩⟩
                refine ⟨_, rfl, ?_⟩
                refine hK.out _ _ ⟨(blk_cell BK324.out 0).trans rfl, (blk_cell BK324.out 1).trans rfl, (blk_cell BK324.out 2).trans rfl, (blk_cell BK324.out 3).trans rfl, ((HB.out.cell (World.block_lt_of_cell? w _ hw326_0)).trans hw326_0), ((HB.out.cell (World.block_lt_of_cell? w _ hw326_1)).trans hw326_1), ((HB.out.cell (World.block_lt_of_cell? w _ hw326_2)).trans hw326_2), ((HB.out.cell (World.block_lt_of_cell? w _ hw326_3)).trans hw326_3), ((HB.out.cell (World.block_lt_of_cell? w _ hw328_0)).trans hw328_0), ((HB.out.cell (World.block_lt_of_cell? w _ hw328_1)).trans hw328_1), ((HB.out.cell (World.block_lt_of_cell? w _ hw328_2)).trans hw328_2), ((HB.out.cell (World.block_lt_of_cell? w _ hw328_3)).trans hw328_3)⟩ (fun hHeld => ?_)
                clear hK K
                refine norm_ (a' := ?_) ?_ ?_
                rotate_left
                ·show Act.put _ (some 100) _ = _
                 simp only [Act.put, List.setIfInBounds_toArray, List.set_cons_zero, List.set_cons_succ, i64_w, i32_w]
                 rfl
                refine pure_ (i := 23) (N := some 101) (v := ?_) (a' := ?_) (lb 25 16777215) rfl rfl (any_of HT_.out (by kernel_rfl)) (fun _ _ _ h => h) (Or.inl ⟨by rfl, ?_⟩) ?_ ?_
                rotate_left
                ·intro w'
                 go_simp
                 with_reducible rfl
                rotate_left
                ·simp only [Act.put, List.setIfInBounds_toArray, List.set_cons_zero, List.set_cons_succ, i64_w, i32_w]
                 rfl
                refine pure_ (i := 24) (N := some 102) (v := ?_) (a' := ?_) (lb 25 33554431) rfl rfl (any_of HT_.out (by kernel_rfl)) (fun _ _ _ h => h) (Or.inl ⟨by rfl, ?_⟩) ?_ ?_
                rotate_left
                ·intro w'
                 go_simp
                 with_reducible rfl
                rotate_left
                ·simp only [Act.put, List.setIfInBounds_toArray, List.set_cons_zero, List.set_cons_succ, i64_w, i32_w]
                 rfl
                refine done_ (done_of HT_.out (by kernel_rfl)) ?_
                try go_wp2
                go_ret
                exact ⟨by first | rfl | (simp [errW_none, errW_some] <;> rfl) | (simp only [← hji34]; first | rfl | (simp [errW_none, errW_some] <;> rfl)) | (simp [*, errW_none, errW_some] <;> rfl), by repeat (first | (with_reducible first | exact HB.out | apply below_alloc | apply pw_below_drewN | apply below_drew1 | refine below_set ?_ GE324.out) | exact HB.out)⟩
               ·replace c42 := Bool.eq_false_iff.mpr c42
                subst c42
                have H1 : (copseref13_Snap.l1 kj12 l0 (wrap64 (x4_2 + 1))) = some r := by rw [if_neg (show ¬ (false = true) by decide)] at H; exact H
                clear H
                have H := H1
                clear H1
                have H' := Aside0.mk H
                clear H
                try go_wp2
                have n0_ := Aside0.mk (blk_drew BK324.out)
                have n1_ := Aside0.mk (below_drew1 HB.out)
                clear BK324
                clear HB
                have BK324 := n0_
                have HB := n1_
                clear n0_ n1_
                have p326 : 0 ≤ ((ji34) : Int) := of_decide_eq_true (by first | (with_reducible assumption) | assumption)
                have q326 : (ji34) < (l0.length : Int) := of_decide_eq_true (by first | (with_reducible assumption) | assumption)
                obtain ⟨ad326, e326, hx326_0, hx326_1, hx326_2, hx326_3⟩ := at_T36 HR0.out (ji34) p326 q326
                have hw326_3 := hx326_3
                have hw326_2 := hx326_2
                have hw326_1 := hx326_1
                have hw326_0 := hx326_0
                obtain rfl : ad323 = ad326 := (by injection e326)
                replace hx326_0 := (HB.out.cell (World.block_lt_of_cell? w _ hx326_0)).trans hx326_0
                replace hx326_1 := (HB.out.cell (World.block_lt_of_cell? w _ hx326_1)).trans hx326_1
                replace hx326_2 := (HB.out.cell (World.block_lt_of_cell? w _ hx326_2)).trans hx326_2
                replace hx326_3 := (HB.out.cell (World.block_lt_of_cell? w _ hx326_3)).trans hx326_3
                replace p326 := eq_true p326
                replace q326 := eq_true q326
                have p328 : 0 ≤ ((ji34) : Int) := of_decide_eq_true (by first | (with_reducible assumption) | assumption)
                have q328 : (ji34) < (l0.length : Int) := of_decide_eq_true (by first | (with_reducible assumption) | assumption)
                obtain ⟨ad328, e328, hx328_0, hx328_1, hx328_2, hx328_3⟩ := at_T36 HR0.out (ji34) p328 q328
                have hw328_3 := hx328_3
                have hw328_2 := hx328_2
                have hw328_1 := hx328_1
                have hw328_0 := hx328_0
                obtain rfl : ad323 = ad328 := (by injection e328)
                replace hx328_0 := (HB.out.cell (World.block_lt_of_cell? w _ hx328_0)).trans hx328_0
                replace hx328_1 := (HB.out.cell (World.block_lt_of_cell? w _ hx328_1)).trans hx328_1
                replace hx328_2 := (HB.out.cell (World.block_lt_of_cell? w _ hx328_2)).trans hx328_2
                replace hx328_3 := (HB.out.cell (World.block_lt_of_cell? w _ hx328_3)).trans hx328_3
                replace p328 := eq_true p328
                replace q328 := eq_true q328
                refine start_ (n := 25) (S := fun w' => w'.cell? ⟨gb324, 0, none⟩ = some (.string ((rd_T36 l0 x4_2).f0)) ∧ w'.cell? ⟨gb324, 1, none⟩ = some (.string ((rd_T36 l0 x4_2).f1)) ∧ w'.cell? ⟨gb324, 2, none⟩ = some (.int .i64 ((rd_T36 l0 x4_2).f2)) ∧ w'.cell? ⟨gb324, 3, none⟩ = some (.int .i64 ((rd_T36 l0 x4_2).f3)) ∧ w'.cell? (ad323.add (((ji34)).toNat * 4)) = some (.string ((rd_T36 l0 (ji34)).f0)) ∧ w'.cell? ⟨(ad323.add (((ji34)).toNat * 4)).block, (ad323.add (((ji34)).toNat * 4)).off + 1, none⟩ = some (.string ((rd_T36 l0 (ji34)).f1)) ∧ w'.cell? ⟨(ad323.add (((ji34)).toNat * 4)).block, (ad323.add (((ji34)).toNat * 4)).off + 2, none⟩ = some (.int .i64 ((rd_T36 l0 (ji34)).f2)) ∧ w'.cell? ⟨(ad323.add (((ji34)).toNat * 4)).block, (ad323.add (((ji34)).toNat * 4)).off + 3, none⟩ = some (.int .i64 ((rd_T36 l0 (ji34)).f3)) ∧ w'.cell? (ad323.add (((ji34)).toNat * 4)) = some (.string ((rd_T36 l0 (ji34)).f0)) ∧ w'.cell? ⟨(ad323.add (((ji34)).toNat * 4)).block, (ad323.add (((ji34)).toNat * 4)).off + 1, none⟩ = some (.string ((rd_T36 l0 (ji34)).f1)) ∧ w'.cell? ⟨(ad323.add (((ji34)).toNat * 4)).block, (ad323.add (((ji34)).toNat * 4)).off + 2, none⟩ = some (.int .i64 ((rd_T36 l0 (ji34)).f2)) ∧ w'.cell? ⟨(ad323.add (((ji34)).toNat * 4)).block, (ad323.add (((ji34)).toNat * 4)).off + 3, none⟩ = some (.int .i64 ((rd_T36 l0 (ji34)).f3))) (ds := []) (lb 25 0) (by kernel_rfl) rfl rfl ⟨(blk_cell BK324.out 0).trans rfl, (blk_cell BK324.out 1).trans rfl, (blk_cell BK324.out 2).trans rfl, (blk_cell BK324.out 3).trans rfl, ((HB.out.cell (World.block_lt_of_cell? w _ hw326_0)).trans hw326_0), ((HB.out.cell (World.block_lt_of_cell? w _ hw326_1)).trans hw326_1), ((HB.out.cell (World.block_lt_of_cell? w _ hw326_2)).trans hw326_2), ((HB.out.cell (World.block_lt_of_cell? w _ hw326_3)).trans hw326_3), ((HB.out.cell (World.block_lt_of_cell? w _ hw328_0)).trans hw328_0), ((HB.out.cell (World.block_lt_of_cell? w _ hw328_1)).trans hw328_1), ((HB.out.cell (World.block_lt_of_cell? w _ hw328_2)).trans hw328_2), ((HB.out.cell (World.block_lt_of_cell? w _ hw328_3)).trans hw328_3)⟩ (fun hHeld => ?_); refine with_tabW copseref13_Snap.tab17 copseref13_Snap.bits17 (fun HT_ HW_ => ?_)
                generalize wc.drew = w45 at BK324 HB hx326_0 hx326_1 hx326_2 hx326_3 hx328_0 hx328_1 hx328_2 hx328_3 hHeld ⊢
                refine pure_ (i := 0) (N := some 78) (v := ?_) (a' := ?_) (lb 25 1) rfl rfl (any_of HT_.out (by kernel_rfl)) (fun _ _ _ h => h) (Or.inl ⟨by rfl, ?_⟩) ?_ ?_
                rotate_left
                ·intro w'
                 go_simp
                 with_reducible rfl
                rotate_left
                ·simp only [Act.put, List.setIfInBounds_toArray, List.set_cons_zero, List.set_cons_succ, i64_w, i32_w]
                 rfl
                refine pure_ (i := 1) (N := some 79) (v := ?_) (a' := ?_) (lb 25 3) rfl rfl (any_of HT_.out (by kernel_rfl)) (fun _ _ _ h => h) (Or.inl ⟨by rfl, ?_⟩) ?_ ?_
                rotate_left
                ·intro w'
                 go_simp
                 with_reducible rfl
                rotate_left
                ·simp only [Act.put, List.setIfInBounds_toArray, List.set_cons_zero, List.set_cons_succ, i64_w, i32_w]
                 rfl
                refine pure_ (i := 2) (N := some 80) (v := ?_) (a' := ?_) (lb 25 7) rfl rfl (any_of HT_.out (by kernel_rfl)) (fun _ _ _ h => h) (Or.inl ⟨by rfl, ?_⟩) ?_ ?_
                rotate_left
                ·intro w'
                 go_simp
                 with_reducible rfl
                rotate_left
                ·simp only [Act.put, List.setIfInBounds_toArray, List.set_cons_zero, List.set_cons_succ, i64_w, i32_w]
                 rfl
                refine pure_ (i := 3) (N := some 81) (v := ?_) (a' := ?_) (lb 25 15) rfl rfl (any_of HT_.out (by kernel_rfl)) (fun _ _ _ h => h) (Or.inl ⟨by rfl, ?_⟩) ?_ ?_
                rotate_left
                ·intro w'
                 go_simp
                 with_reducible rfl
                rotate_left
                ·simp only [Act.put, List.setIfInBounds_toArray, List.set_cons_zero, List.set_cons_succ, i64_w, i32_w]
                 rfl
                refine pure_ (i := 4) (N := some 82) (v := ?_) (a' := ?_) (lb 25 31) rfl rfl (any_of HT_.out (by kernel_rfl)) (fun _ _ _ h => h) (Or.inl ⟨by rfl, ?_⟩) ?_ ?_
                rotate_left
                ·intro w'
                 go_simp
                 with_reducible rfl
                rotate_left
                ·simp only [Act.put, List.setIfInBounds_toArray, List.set_cons_zero, List.set_cons_succ, i64_w, i32_w]
                 rfl
                refine pure_ (i := 5) (N := some 83) (v := ?_) (a' := ?_) (lb 25 63) rfl rfl (any_of HT_.out (by kernel_rfl)) (fun _ _ _ h => h) (Or.inl ⟨by rfl, ?_⟩) ?_ ?_
                rotate_left
                ·intro w'
                 go_simp
                 with_reducible rfl
                rotate_left
                ·simp only [Act.put, List.setIfInBounds_toArray, List.set_cons_zero, List.set_cons_succ, i64_w, i32_w]
                 rfl
                refine pure_ (i := 6) (N := some 84) (v := ?_) (a' := ?_) (lb 25 127) rfl rfl (any_of HT_.out (by kernel_rfl)) (fun _ _ _ h => h) (Or.inl ⟨by rfl, ?_⟩) ?_ ?_
                rotate_left
                ·intro w'
                 go_simp
                 with_reducible rfl
                rotate_left
                ·simp only [Act.put, List.setIfInBounds_toArray, List.set_cons_zero, List.set_cons_succ, i64_w, i32_w]
                 rfl
                refine pure_ (i := 7) (N := some 85) (v := ?_) (a' := ?_) (lb 25 255) rfl rfl (any_of HT_.out (by kernel_rfl)) (fun _ _ _ h => h) (Or.inl ⟨by rfl, ?_⟩) ?_ ?_
                rotate_left
                ·intro w'
                 go_simp
                 with_reducible rfl
                rotate_left
                ·simp only [Act.put, List.setIfInBounds_toArray, List.set_cons_zero, List.set_cons_succ, i64_w, i32_w]
                 rfl
                refine pure_ (i := 9) (N := some 87) (v := ?_) (a' := ?_) (lb 25 767) rfl rfl (any_of HT_.out (by kernel_rfl)) (fun _ _ _ h => h) (Or.inl ⟨by rfl, ?_⟩) ?_ ?_
                rotate_left
                ·intro w'
                 go_simp
                 with_reducible rfl
                rotate_left
                ·simp only [Act.put, List.setIfInBounds_toArray, List.set_cons_zero, List.set_cons_succ, i64_w, i32_w]
                 rfl
                refine take_ (i := 8) (N := some 86) (v := ?_) (a' := ?_) (lb 25 1023) rfl rfl (take_ofW HT_.out HW_.out (by kernel_rfl)) (fun _ _ _ h => h) (Or.inl ⟨by rfl, ?_⟩) hHeld ?_ ?_
                rotate_left
                ·rintro w' ⟨s0, s1, s2, s3, s4, s5, s6, s7, s8, s9, s10, s11⟩
                 go_simp
                 with_reducible rfl
                rotate_left
                ·simp only [Act.put, List.setIfInBounds_toArray, List.set_cons_zero, List.set_cons_succ, i64_w, i32_w]
                 rfl
                refine take_ (i := 10) (N := some 88) (v := ?_) (a' := ?_) (lb 25 2047) rfl rfl (take_ofW HT_.out HW_.out (by kernel_rfl)) (fun _ _ _ h => h) (Or.inl ⟨by rfl, ?_⟩) hHeld ?_ ?_
                rotate_left
                ·rintro w' ⟨s0, s1, s2, s3, s4, s5, s6, s7, s8, s9, s10, s11⟩
                 go_simp
                 with_reducible rfl
                rotate_left
                ·simp only [Act.put, List.setIfInBounds_toArray, List.set_cons_zero, List.set_cons_succ, i64_w, i32_w]
                 rfl
                refine one_ (i := 11) (N := some 89) (lb 25 4095) rfl rfl (one_of HT_.out (by kernel_rfl)) (by decide) (fun K hK => ?_)
                refine goes_ Tryz.func42 (by kernel_rfl) rfl #[.string ((rd_T36 l0 (ji34)).f0), .string ((rd_T36 l0 x4_2).f0)] (by rfl) rfl rfl (by (try simp only [List.map_toArray, List.map_cons, List.map_nil]); first | done | (simp only [hji34]; rfl) | rfl | (simp only [List.length_drop, List.length_take]; rfl)) ?_
                with_reducible refine (copseref13_Path.calls kj12 ((rd_T36 l0 (ji34)).f0) ((rd_T36 l0 x4_2).f0) t327 _ A37.out).mono ?_
                rintro e w46 ⟨rfl, hb⟩
                refine ⟨_, rfl, ?_⟩
                have n0_ := Aside0.mk (blk_below (g := gb324) (o := .cells #[.string ((rd_T36 l0 x4_2).f0), .string ((rd_T36 l0 x4_2).f1), .int .i64 ((rd_T36 l0 x4_2).f2), .int .i64 ((rd_T36 l0 x4_2).f3)] 36 (0, 0)) (by (with_reducible repeat (first | refine blk_drewN ?_ _ | refine blk_drew ?_ | refine blk_alloc ?_ _)); exact BK324.out) hb)
                have n1_ := Aside0.mk (below_step (by repeat (first | (with_reducible first | exact HB.out | apply below_alloc | apply pw_below_drewN | apply below_drew1 | refine below_set ?_ GE324.out) | exact HB.out)) hb)
                clear BK324
                clear HB
                have BK324 := n0_
                have HB := n1_
                clear n0_ n1_
                (try clear hb)
                (try clear hb2)
                (try clear hk)
                (try clear hi)
                refine hK.out _ _ ⟨(blk_cell BK324.out 0).trans rfl, (blk_cell BK324.out 1).trans rfl, (blk_cell BK324.out 2).trans rfl, (blk_cell BK324.out 3).trans rfl, ((HB.out.cell (World.block_lt_of_cell? w _ hw326_0)).trans hw326_0), ((HB.out.cell (World.block_lt_of_cell? w _ hw326_1)).trans hw326_1), ((HB.out.cell (World.block_lt_of_cell? w _ hw326_2)).trans hw326_2), ((HB.out.cell (World.block_lt_of_cell? w _ hw326_3)).trans hw326_3), ((HB.out.cell (World.block_lt_of_cell? w _ hw328_0)).trans hw328_0), ((HB.out.cell (World.block_lt_of_cell? w _ hw328_1)).trans hw328_1), ((HB.out.cell (World.block_lt_of_cell? w _ hw328_2)).trans hw328_2), ((HB.out.cell (World.block_lt_of_cell? w _ hw328_3)).trans hw328_3)⟩ (fun hHeld => ?_)
                clear hK K
                refine norm_ (a' := ?_) ?_ ?_
                rotate_left
                ·show Act.put _ (some 89) _ = _
                 simp only [Act.put, List.setIfInBounds_toArray, List.set_cons_zero, List.set_cons_succ, i64_w, i32_w]
                 rfl
                refine pure_ (i := 12) (N := some 90) (v := ?_) (a' := ?_) (lb 25 8191) rfl rfl (any_of HT_.out (by kernel_rfl)) (fun _ _ _ h => h) (Or.inl ⟨by rfl, ?_⟩) ?_ ?_
                rotate_left
                ·intro w'
                 go_simp
                 with_reducible rfl
                rotate_left
                ·simp only [Act.put, List.setIfInBounds_toArray, List.set_cons_zero, List.set_cons_succ, i64_w, i32_w]
                 rfl
                refine pure_ (i := 13) (N := some 91) (v := ?_) (a' := ?_) (lb 25 16383) rfl rfl (any_of HT_.out (by kernel_rfl)) (fun _ _ _ h => h) (Or.inl ⟨by rfl, ?_⟩) ?_ ?_
                rotate_left
                ·intro w'
                 go_simp
                 with_reducible rfl
                rotate_left
                ·simp only [Act.put, List.setIfInBounds_toArray, List.set_cons_zero, List.set_cons_succ, i64_w, i32_w]
                 rfl
                refine pure_ (i := 14) (N := some 92) (v := ?_) (a' := ?_) (lb 25 32767) rfl rfl (any_of HT_.out (by kernel_rfl)) (fun _ _ _ h => h) (Or.inl ⟨by rfl, ?_⟩) ?_ ?_
                rotate_left
                ·intro w'
                 go_simp
                 with_reducible rfl
                rotate_left
                ·simp only [Act.put, List.setIfInBounds_toArray, List.set_cons_zero, List.set_cons_succ, i64_w, i32_w]
                 rfl
                refine pure_ (i := 15) (N := some 93) (v := ?_) (a' := ?_) (lb 25 65535) rfl rfl (any_of HT_.out (by kernel_rfl)) (fun _ _ _ h => h) (Or.inl ⟨by rfl, ?_⟩) ?_ ?_
                rotate_left
                ·intro w'
                 go_simp
                 with_reducible rfl
                rotate_left
                ·simp only [Act.put, List.setIfInBounds_toArray, List.set_cons_zero, List.set_cons_succ, i64_w, i32_w]
                 rfl
                refine pure_ (i := 16) (N := some 94) (v := ?_) (a' := ?_) (lb 25 131071) rfl rfl (any_of HT_.out (by kernel_rfl)) (fun _ _ _ h => h) (Or.inl ⟨by rfl, ?_⟩) ?_ ?_
                rotate_left
                ·intro w'
                 go_simp
                 with_reducible rfl
                rotate_left
                ·simp only [Act.put, List.setIfInBounds_toArray, List.set_cons_zero, List.set_cons_succ, i64_w, i32_w]
                 rfl
                refine pure_ (i := 17) (N := some 95) (v := ?_) (a' := ?_) (lb 25 262143) rfl rfl (any_of HT_.out (by kernel_rfl)) (fun _ _ _ h => h) (Or.inl ⟨by rfl, ?_⟩) ?_ ?_
                rotate_left
                ·intro w'
                 go_simp
                 with_reducible rfl
                rotate_left
                ·simp only [Act.put, List.setIfInBounds_toArray, List.set_cons_zero, List.set_cons_succ, i64_w, i32_w]
                 rfl
                refine pure_ (i := 18) (N := some 96) (v := ?_) (a' := ?_) (lb 25 524287) rfl rfl (any_of HT_.out (by kernel_rfl)) (fun _ _ _ h => h) (Or.inl ⟨by rfl, ?_⟩) ?_ ?_
                rotate_left
                ·intro w'
                 go_simp
                 with_reducible rfl
                rotate_left
                ·simp only [Act.put, List.setIfInBounds_toArray, List.set_cons_zero, List.set_cons_succ, i64_w, i32_w]
                 rfl
                refine pure_ (i := 20) (N := some 98) (v := ?_) (a' := ?_) (lb 25 1572863) rfl rfl (any_of HT_.out (by kernel_rfl)) (fun _ _ _ h => h) (Or.inl ⟨by rfl, ?_⟩) ?_ ?_
                rotate_left
                ·intro w'
                 go_simp
                 with_reducible rfl
                rotate_left
                ·simp only [Act.put, List.setIfInBounds_toArray, List.set_cons_zero, List.set_cons_succ, i64_w, i32_w]
                 rfl
                refine take_ (i := 19) (N := some 97) (v := ?_) (a' := ?_) (lb 25 2097151) rfl rfl (take_ofW HT_.out HW_.out (by kernel_rfl)) (fun _ _ _ h => h) (Or.inl ⟨by rfl, ?_⟩) hHeld ?_ ?_
                rotate_left
                ·rintro w' ⟨s0, s1, s2, s3, s4, s5, s6, s7, s8, s9, s10, s11⟩
                 go_simp
                 with_reducible rfl
                rotate_left
                ·simp only [Act.put, List.setIfInBounds_toArray, List.set_cons_zero, List.set_cons_succ, i64_w, i32_w]
                 rfl
                refine take_ (i := 21) (N := some 99) (v := ?_) (a' := ?_) (lb 25 4194303) rfl rfl (take_ofW HT_.out HW_.out (by kernel_rfl)) (fun _ _ _ h => h) (Or.inl ⟨by rfl, ?_⟩) hHeld ?_ ?_
                rotate_left
                ·rintro w' ⟨s0, s1, s2, s3, s4, s5, s6, s7, s8, s9, s10, s11⟩
                 go_simp
                 with_reducible rfl
                rotate_left
                ·simp only [Act.put, List.setIfInBounds_toArray, List.set_cons_zero, List.set_cons_succ, i64_w, i32_w]
                 rfl
                refine one_ (i := 22) (N := some 100) (lb 25 8388607) rfl rfl (one_of HT_.out (by kernel_rfl)) (by decide) (fun K hK => ?_)
                refine goes_ Tryz.func43 (by kernel_rfl) rfl #[.string ((rd_T36 l0 (ji34)).f0), .string ((rd_T36 l0 x4_2).f0)] (by rfl) rfl rfl (by (try simp only [List.map_toArray, List.map_cons, List.map_nil]); first | done | (simp only [hji34]; rfl) | rfl | (simp only [List.length_drop, List.length_take]; rfl)) ?_
                with_reducible refine (copseref13_Above.calls ((rd_T36 l0 (ji34)).f0) ((rd_T36 l0 x4_2).f0) false _ A41.out).mono ?_
                rintro e w' ⟨rfl, ⟨nd, rfl⟩⟩
                refine ⟨_, rfl, ?_⟩
                refine hK.out _ _ ⟨(blk_cell BK324.out 0).trans rfl, (blk_cell BK324.out 1).trans rfl, (blk_cell BK324.out 2).trans rfl, (blk_cell BK324.out 3).trans rfl, ((HB.out.cell (World.block_lt_of_cell? w _ hw326_0)).trans hw326_0), ((HB.out.cell (World.block_lt_of_cell? w _ hw326_1)).trans hw326_1), ((HB.out.cell (World.block_lt_of_cell? w _ hw326_2)).trans hw326_2), ((HB.out.cell (World.block_lt_of_cell? w _ hw326_3)).trans hw326_3), ((HB.out.cell (World.block_lt_of_cell? w _ hw328_0)).trans hw328_0), ((HB.out.cell (World.block_lt_of_cell? w _ hw328_1)).trans hw328_1), ((HB.out.cell (World.block_lt_of_cell? w _ hw328_2)).trans hw328_2), ((HB.out.cell (World.block_lt_of_cell? w _ hw328_3)).trans hw328_3)⟩ (fun hHeld => ?_)
                clear hK K
                refine norm_ (a' := ?_) ?_ ?_
                rotate_left
                ·show Act.put _ (some 100) _ = _
                 simp only [Act.put, List.setIfInBounds_toArray, List.set_cons_zero, List.set_cons_succ, i64_w, i32_w]
                 rfl
                refine pure_ (i := 23) (N := some 101) (v := ?_) (a' := ?_) (lb 25 16777215) rfl rfl (any_of HT_.out (by kernel_rfl)) (fun _ _ _ h => h) (Or.inl ⟨by rfl, ?_⟩) ?_ ?_
                rotate_left
                ·intro w'
                 go_simp
                 with_reducible rfl
                rotate_left
                ·simp only [Act.put, List.setIfInBounds_toArray, List.set_cons_zero, List.set_cons_succ, i64_w, i32_w]
                 rfl
                refine pure_ (i := 24) (N := some 102) (v := ?_) (a' := ?_) (lb 25 33554431) rfl rfl (any_of HT_.out (by kernel_rfl)) (fun _ _ _ h => h) (Or.inl ⟨by rfl, ?_⟩) ?_ ?_
                rotate_left
                ·intro w'
                 go_simp
                 with_reducible rfl
                rotate_left
                ·simp only [Act.put, List.setIfInBounds_toArray, List.set_cons_zero, List.set_cons_succ, i64_w, i32_w]
                 rfl
                refine done_ (done_of HT_.out (by kernel_rfl)) ?_
                try go_wp2
                go_roundg kj12
                case measure => have := HK1.out; have := HK2.out; have := HJ12.out; omega
                case rel => exact ⟨(wrap64 (x4_2 + 1)), (by first | rfl | (simp; done) | (simp [*]; done)), H', ⟨by have := HK1.out; have := HK2.out; have := HJ12.out; omega⟩, ⟨by repeat (first | (with_reducible first | exact HB.out | apply below_alloc | apply pw_below_drewN | apply below_drew1 | refine below_set ?_ GE324.out) | exact HB.out)⟩⟩
             ·rw [if_neg c36] at H
              exact absurd H (by simp)
            ·rw [if_neg c35] at H
             exact absurd H (by simp)
           ·rw [if_neg c33] at H
            have c33b0 := decide_eq_false c33
            clear c33
            have H' := Aside0.mk H
            clear H
            try go_wp2
            have n0_ := Aside0.mk (blk_drew BK324.out)
            have n1_ := Aside0.mk (below_drew1 HB.out)
            clear BK324
            clear HB
            have BK324 := n0_
            have HB := n1_
            clear n0_ n1_
            refine start_ (n := 25) (S := fun w' => True) (ds := []) (lb 25 0) (by kernel_rfl) rfl rfl trivial (fun hHeld => ?_); refine with_tabW copseref13_Snap.tab17 copseref13_Snap.bits17 (fun HT_ HW_ => ?_)
            generalize wc.drew = w47 at BK324 HB hHeld ⊢
            refine pure_ (i := 0) (N := some 78) (v := ?_) (a' := ?_) (lb 25 1) rfl rfl (any_of HT_.out (by kernel_rfl)) (fun _ _ _ h => h) (Or.inl ⟨by rfl, ?_⟩) ?_ ?_
            rotate_left
            ·intro w'
             go_simp
             with_reducible rfl
            rotate_left
            ·simp only [Act.put, List.setIfInBounds_toArray, List.set_cons_zero, List.set_cons_succ, i64_w, i32_w]
             rfl
            refine pure_ (i := 1) (N := some 79) (v := ?_) (a' := ?_) (lb 25 3) rfl rfl (any_of HT_.out (by kernel_rfl)) (fun _ _ _ h => h) (Or.inl ⟨by rfl, ?_⟩) ?_ ?_
            rotate_left
            ·intro w'
             go_simp
             with_reducible rfl
            rotate_left
            ·simp only [Act.put, List.setIfInBounds_toArray, List.set_cons_zero, List.set_cons_succ, i64_w, i32_w]
             rfl
            refine pure_ (i := 2) (N := some 80) (v := ?_) (a' := ?_) (lb 25 7) rfl rfl (any_of HT_.out (by kernel_rfl)) (fun _ _ _ h => h) (Or.inl ⟨by rfl, ?_⟩) ?_ ?_
            rotate_left
            ·intro w'
             go_simp
             with_reducible rfl
            rotate_left
            ·simp only [Act.put, List.setIfInBounds_toArray, List.set_cons_zero, List.set_cons_succ, i64_w, i32_w]
             rfl
            refine pure_ (i := 3) (N := some 81) (v := undef) (a' := ?_) (lb 25 15) rfl rfl (any_of HT_.out (by kernel_rfl)) (fun _ _ _ h => h) (Or.inr ⟨by rfl, rfl⟩) ?_ ?_
            rotate_left
            ·simp only [Act.put, List.setIfInBounds_toArray, List.set_cons_zero, List.set_cons_succ, i64_w, i32_w]
             rfl
            refine pure_ (i := 4) (N := some 82) (v := undef) (a' := ?_) (lb 25 31) rfl rfl (any_of HT_.out (by kernel_rfl)) (fun _ _ _ h => h) (Or.inr ⟨by rfl, rfl⟩) ?_ ?_
            rotate_left
            ·simp only [Act.put, List.setIfInBounds_toArray, List.set_cons_zero, List.set_cons_succ, i64_w, i32_w]
             rfl
            refine pure_ (i := 5) (N := some 83) (v := undef) (a' := ?_) (lb 25 63) rfl rfl (any_of HT_.out (by kernel_rfl)) (fun _ _ _ h => h) (Or.inr ⟨by rfl, rfl⟩) ?_ ?_
            rotate_left
            ·simp only [Act.put, List.setIfInBounds_toArray, List.set_cons_zero, List.set_cons_succ, i64_w, i32_w]
             rfl
            refine pure_ (i := 6) (N := some 84) (v := undef) (a' := ?_) (lb 25 127) rfl rfl (any_of HT_.out (by kernel_rfl)) (fun _ _ _ h => h) (Or.inr ⟨by rfl, rfl⟩) ?_ ?_
            rotate_left
            ·simp only [Act.put, List.setIfInBounds_toArray, List.set_cons_zero, List.set_cons_succ, i64_w, i32_w]
             rfl
            refine pure_ (i := 7) (N := some 85) (v := undef) (a' := ?_) (lb 25 255) rfl rfl (any_of HT_.out (by kernel_rfl)) (fun _ _ _ h => h) (Or.inr ⟨by rfl, rfl⟩) ?_ ?_
            rotate_left
            ·simp only [Act.put, List.setIfInBounds_toArray, List.set_cons_zero, List.set_cons_succ, i64_w, i32_w]
             rfl
            refine pure_ (i := 8) (N := some 86) (v := undef) (a' := ?_) (lb 25 511) rfl rfl (any_of HT_.out (by kernel_rfl)) (fun _ _ _ h => h) (Or.inr ⟨by rfl, rfl⟩) ?_ ?_
            rotate_left
            ·simp only [Act.put, List.setIfInBounds_toArray, List.set_cons_zero, List.set_cons_succ, i64_w, i32_w]
             rfl
            refine pure_ (i := 9) (N := some 87) (v := undef) (a' := ?_) (lb 25 1023) rfl rfl (any_of HT_.out (by kernel_rfl)) (fun _ _ _ h => h) (Or.inr ⟨by rfl, rfl⟩) ?_ ?_
            rotate_left
            ·simp only [Act.put, List.setIfInBounds_toArray, List.set_cons_zero, List.set_cons_succ, i64_w, i32_w]
             rfl
            refine pure_ (i := 10) (N := some 88) (v := undef) (a' := ?_) (lb 25 2047) rfl rfl (any_of HT_.out (by kernel_rfl)) (fun _ _ _ h => h) (Or.inr ⟨by rfl, rfl⟩) ?_ ?_
            rotate_left
            ·simp only [Act.put, List.setIfInBounds_toArray, List.set_cons_zero, List.set_cons_succ, i64_w, i32_w]
             rfl
            refine pure_ (i := 11) (N := some 89) (v := undef) (a' := ?_) (lb 25 4095) rfl rfl (any_of HT_.out (by kernel_rfl)) (fun _ _ _ h => h) (Or.inr ⟨by rfl, rfl⟩) ?_ ?_
            rotate_left
            ·simp only [Act.put, List.setIfInBounds_toArray, List.set_cons_zero, List.set_cons_succ, i64_w, i32_w]
             rfl
            refine pure_ (i := 12) (N := some 90) (v := undef) (a' := ?_) (lb 25 8191) rfl rfl (any_of HT_.out (by kernel_rfl)) (fun _ _ _ h => h) (Or.inr ⟨by rfl, rfl⟩) ?_ ?_
            rotate_left
            ·simp only [Act.put, List.setIfInBounds_toArray, List.set_cons_zero, List.set_cons_succ, i64_w, i32_w]
             rfl
            refine pure_ (i := 13) (N := some 91) (v := undef) (a' := ?_) (lb 25 16383) rfl rfl (any_of HT_.out (by kernel_rfl)) (fun _ _ _ h => h) (Or.inr ⟨by rfl, rfl⟩) ?_ ?_
            rotate_left
            ·simp only [Act.put, List.setIfInBounds_toArray, List.set_cons_zero, List.set_cons_succ, i64_w, i32_w]
             rfl
            refine pure_ (i := 14) (N := some 92) (v := undef) (a' := ?_) (lb 25 32767) rfl rfl (any_of HT_.out (by kernel_rfl)) (fun _ _ _ h => h) (Or.inr ⟨by rfl, rfl⟩) ?_ ?_
            rotate_left
            ·simp only [Act.put, List.setIfInBounds_toArray, List.set_cons_zero, List.set_cons_succ, i64_w, i32_w]
             rfl
            refine pure_ (i := 15) (N := some 93) (v := undef) (a' := ?_) (lb 25 65535) rfl rfl (any_of HT_.out (by kernel_rfl)) (fun _ _ _ h => h) (Or.inr ⟨by rfl, rfl⟩) ?_ ?_
            rotate_left
            ·simp only [Act.put, List.setIfInBounds_toArray, List.set_cons_zero, List.set_cons_succ, i64_w, i32_w]
             rfl
            refine pure_ (i := 16) (N := some 94) (v := undef) (a' := ?_) (lb 25 131071) rfl rfl (any_of HT_.out (by kernel_rfl)) (fun _ _ _ h => h) (Or.inr ⟨by rfl, rfl⟩) ?_ ?_
            rotate_left
            ·simp only [Act.put, List.setIfInBounds_toArray, List.set_cons_zero, List.set_cons_succ, i64_w, i32_w]
             rfl
            refine pure_ (i := 17) (N := some 95) (v := undef) (a' := ?_) (lb 25 262143) rfl rfl (any_of HT_.out (by kernel_rfl)) (fun _ _ _ h => h) (Or.inr ⟨by rfl, rfl⟩) ?_ ?_
            rotate_left
            ·simp only [Act.put, List.setIfInBounds_toArray, List.set_cons_zero, List.set_cons_succ, i64_w, i32_w]
             rfl
            refine pure_ (i := 18) (N := some 96) (v := undef) (a' := ?_) (lb 25 524287) rfl rfl (any_of HT_.out (by kernel_rfl)) (fun _ _ _ h => h) (Or.inr ⟨by rfl, rfl⟩) ?_ ?_
            rotate_left
            ·simp only [Act.put, List.setIfInBounds_toArray, List.set_cons_zero, List.set_cons_succ, i64_w, i32_w]
             rfl
            refine pure_ (i := 19) (N := some 97) (v := undef) (a' := ?_) (lb 25 1048575) rfl rfl (any_of HT_.out (by kernel_rfl)) (fun _ _ _ h => h) (Or.inr ⟨by rfl, rfl⟩) ?_ ?_
            rotate_left
            ·simp only [Act.put, List.setIfInBounds_toArray, List.set_cons_zero, List.set_cons_succ, i64_w, i32_w]
             rfl
            refine pure_ (i := 20) (N := some 98) (v := undef) (a' := ?_) (lb 25 2097151) rfl rfl (any_of HT_.out (by kernel_rfl)) (fun _ _ _ h => h) (Or.inr ⟨by rfl, rfl⟩) ?_ ?_
            rotate_left
            ·simp only [Act.put, List.setIfInBounds_toArray, List.set_cons_zero, List.set_cons_succ, i64_w, i32_w]
             rfl
            refine pure_ (i := 21) (N := some 99) (v := undef) (a' := ?_) (lb 25 4194303) rfl rfl (any_of HT_.out (by kernel_rfl)) (fun _ _ _ h => h) (Or.inr ⟨by rfl, rfl⟩) ?_ ?_
            rotate_left
            ·simp only [Act.put, List.setIfInBounds_toArray, List.set_cons_zero, List.set_cons_succ, i64_w, i32_w]
             rfl
            refine pure_ (i := 22) (N := some 100) (v := undef) (a' := ?_) (lb 25 8388607) rfl rfl (any_of HT_.out (by kernel_rfl)) (fun _ _ _ h => h) (Or.inr ⟨by rfl, rfl⟩) ?_ ?_
            rotate_left
            ·simp only [Act.put, List.setIfInBounds_toArray, List.set_cons_zero, List.set_cons_succ, i64_w, i32_w]
             rfl
            refine pure_ (i := 23) (N := some 101) (v := undef) (a' := ?_) (lb 25 16777215) rfl rfl (any_of HT_.out (by kernel_rfl)) (fun _ _ _ h => h) (Or.inr ⟨by rfl, rfl⟩) ?_ ?_
            rotate_left
            ·simp only [Act.put, List.setIfInBounds_toArray, List.set_cons_zero, List.set_cons_succ, i64_w, i32_w]
             rfl
            refine pure_ (i := 24) (N := some 102) (v := ?_) (a' := ?_) (lb 25 33554431) rfl rfl (any_of HT_.out (by kernel_rfl)) (fun _ _ _ h => h) (Or.inl ⟨by rfl, ?_⟩) ?_ ?_
            rotate_left
            ·intro w'
             go_simp
             with_reducible rfl
            rotate_left
            ·simp only [Act.put, List.setIfInBounds_toArray, List.set_cons_zero, List.set_cons_succ, i64_w, i32_w]
             rfl
            refine done_ (done_of HT_.out (by kernel_rfl)) ?_
            try go_wp2
            go_roundg kj12
            case measure => have := HK1.out; have := HK2.out; have := HJ12.out; omega
            case rel => exact ⟨(wrap64 (x4_2 + 1)), (by first | rfl | (simp; done) | (simp [*]; done)), H', ⟨by have := HK1.out; have := HK2.out; have := HJ12.out; omega⟩, ⟨by repeat (first | (with_reducible first | exact HB.out | apply below_alloc | apply pw_below_drewN | apply below_drew1 | refine below_set ?_ GE324.out) | exact HB.out)⟩⟩
        ·rw [if_neg c11] at H
         exact absurd H (by simp)
       ·rw [if_neg c10] at H
        have c10b0 := decide_eq_false c10
        clear c10
        obtain rfl := Option.some.inj H
        go_wp2
        go_ret
        exact ⟨by first | rfl | (simp [errW_none, errW_some] <;> rfl) | (simp [*, errW_none, errW_some] <;> rfl), by repeat (first | (with_reducible first | exact HB.out | apply below_alloc | apply pw_below_drewN | apply below_drew1) | exact HB.out)⟩
end Go.Proofs.YtdfkaclflmgkeaaGreatDoor.PAll
