/- What functions of the program compute, each with its walk: a contract for every world and every argument of the kind told. -/
import Derived.Test.YtehfogjibhnabaaGreatDoorDtPAllx0
import Derived.Test.YtehfogjibhnabaaGreatDoorDtPAlly3
import Derived.Test.YtehfogjibhnabaaGreatDoorDtPAlly1
import Derived.Test.YtehfogjibhnabaaGreatDoorDtHandA
import Derived.Test.YtehfogjibhnabaaGreatDoorDtPAlly5
namespace Go.Proofs.YtehfogjibhnabaaGreatDoor.PAll
open Go.RowKit Go.Proofs.YtehfogjibhnabaaGreatDoorW.PrintWords Go.Proofs.YtehfogjibhnabaaGreatDoorW.PrintLast Go.Proofs.YtehfogjibhnabaaGreatDoorW.PrintMore
attribute [local go_sem] max2_int min2_int max_two min_two max_three min_three max_four min_four
set_option linter.unusedVariables false
set_option linter.unusedSimpArgs false
mutual
def snap_Valid.l0 : Nat → List (S43) → List (S43) → Int → Int → Option (Int)
 | 0, _, _, _, _ => none
 | k + 1, x0, x7, x8, x9 => if x9 < x8 then (if 0 ≤ x9 then (if x9 < (x7.length : Int) then ((snap_placed.f k ((rd_T43 x7 x9).f0) ((rd_T43 x7 x9).f1) ((rd_T43 x7 x9).f2) ((rd_T43 x7 x9).f3)).bind fun t160 => (if t160 = true then (snap_Valid.l0 k x0 x7 x8 (wrap64 (x9 + 1))) else (some 7))) else (none)) else (none)) else (if (x0.length : Int) > 512 then (some 8) else (snap_Valid.l1 k x0 x0 (x0.length : Int) 0))
def snap_Valid.l1 : Nat → List (S43) → List (S43) → Int → Int → Option (Int)
 | 0, _, _, _, _ => none
 | k + 1, x0, x20, x21, x22 => if x22 < x21 then (if 0 ≤ x22 then (if x22 < (x20.length : Int) then ((snap_File.f k ((rd_T43 x20 x22).f0) ((rd_T43 x20 x22).f1) ((rd_T43 x20 x22).f2) ((rd_T43 x20 x22).f3)).bind fun t163 => (if t163 = 0 then (if x22 > 0 then (if 0 ≤ (wrap64 (x22 - 1)) then (if (wrap64 (x22 - 1)) < (x0.length : Int) then ((path_Cmp.f k ((rd_T43 x0 (wrap64 (x22 - 1))).f0) ((rd_T43 x20 x22).f0)).bind fun t165 => (if t165 ≥ 0 then (some 8) else ((path_Above.f k ((rd_T43 x0 (wrap64 (x22 - 1))).f0) ((rd_T43 x20 x22).f0)).bind fun t167 => (if t167 = true then (some 8) else (snap_Valid.l1 k x0 x20 x21 (wrap64 (x22 + 1))))))) else (none)) else (none)) else (snap_Valid.l1 k x0 x20 x21 (wrap64 (x22 + 1)))) else (some 8))) else (none)) else (none)) else (some 0)
end
def snap_Valid.f (k : Nat) (l0 : List (S43)) : Option (Int) := snap_Valid.l0 k l0 l0 (l0.length : Int) 0
theorem snap_Valid.mono_l : ∀ k, (∀ y0 y1 y2 y3, LeO (snap_Valid.l0 k y0 y1 y2 y3) (snap_Valid.l0 (k + 1) y0 y1 y2 y3)) ∧ (∀ y0 y1 y2 y3, LeO (snap_Valid.l1 k y0 y1 y2 y3) (snap_Valid.l1 (k + 1) y0 y1 y2 y3))
 | 0 => ⟨fun _ _ _ _ r h => by simp [snap_Valid.l0] at h, fun _ _ _ _ r h => by simp [snap_Valid.l1] at h⟩
 | k + 1 => by
  obtain ⟨ih0, ih1⟩ := snap_Valid.mono_l k
  refine ⟨?_, ?_⟩
  ·intro y0 y1 y2 y3
   unfold snap_Valid.l0
   repeat' first
   | (with_reducible exact ih0 _ _ _ _)
   | (with_reducible exact ih1 _ _ _ _)
   | (with_reducible exact path_Above.mono _ _ _)
   | (with_reducible exact path_Cmp.mono _ _ _)
   | (with_reducible exact snap_File.mono _ _ _ _ _)
   | (with_reducible exact snap_placed.mono _ _ _ _ _)
   | (with_reducible exact LeO.refl _)
   | (with_reducible exact LeO.none _)
   | (with_reducible refine LeO.ite ?_ ?_)
   | (with_reducible refine LeO.bind ?_ (fun _ => ?_))
   | exact ih0 _ _ _ _
   | exact ih1 _ _ _ _
   | exact path_Above.mono _ _ _
   | exact path_Cmp.mono _ _ _
   | exact snap_File.mono _ _ _ _ _
   | exact snap_placed.mono _ _ _ _ _
   | exact LeO.none _
   | refine LeO.ite ?_ ?_
   | refine LeO.bind ?_ (fun _ => ?_)
  ·intro y0 y1 y2 y3
   unfold snap_Valid.l1
   repeat' first
   | (with_reducible exact ih0 _ _ _ _)
   | (with_reducible exact ih1 _ _ _ _)
   | (with_reducible exact path_Above.mono _ _ _)
   | (with_reducible exact path_Cmp.mono _ _ _)
   | (with_reducible exact snap_File.mono _ _ _ _ _)
   | (with_reducible exact snap_placed.mono _ _ _ _ _)
   | (with_reducible exact LeO.refl _)
   | (with_reducible exact LeO.none _)
   | (with_reducible refine LeO.ite ?_ ?_)
   | (with_reducible refine LeO.bind ?_ (fun _ => ?_))
   | exact ih0 _ _ _ _
   | exact ih1 _ _ _ _
   | exact path_Above.mono _ _ _
   | exact path_Cmp.mono _ _ _
   | exact snap_File.mono _ _ _ _ _
   | exact snap_placed.mono _ _ _ _ _
   | exact LeO.none _
   | refine LeO.ite ?_ ?_
   | refine LeO.bind ?_ (fun _ => ?_)
theorem snap_Valid.mono : ∀ a0 k, LeO (snap_Valid.f k a0) (snap_Valid.f (k + 1) a0) := by
 intro a0 k
 obtain ⟨ih0, ih1⟩ := snap_Valid.mono_l k
 unfold snap_Valid.f
 repeat' first
   | (with_reducible exact ih0 _ _ _ _)
   | (with_reducible exact ih1 _ _ _ _)
   | (with_reducible exact path_Above.mono _ _ _)
   | (with_reducible exact path_Cmp.mono _ _ _)
   | (with_reducible exact snap_File.mono _ _ _ _ _)
   | (with_reducible exact snap_placed.mono _ _ _ _ _)
   | (with_reducible exact LeO.refl _)
   | (with_reducible exact LeO.none _)
   | (with_reducible refine LeO.ite ?_ ?_)
   | (with_reducible refine LeO.bind ?_ (fun _ => ?_))
   | exact ih0 _ _ _ _
   | exact ih1 _ _ _ _
   | exact path_Above.mono _ _ _
   | exact path_Cmp.mono _ _ _
   | exact snap_File.mono _ _ _ _ _
   | exact snap_placed.mono _ _ _ _ _
   | exact LeO.none _
   | refine LeO.ite ?_ ?_
   | refine LeO.bind ?_ (fun _ => ?_)
def snap_Valid.T14 : Bool × List (List Nat × List Nat) := (true, [([], []), ([0], [0]), ([1], [1]), ([2], [2]), ([2], [2]), ([4, 2], [2, 4]), ([3, 5, 2], [2, 3, 5]), ([6, 2], [2, 6]), ([7, 2], [2, 7]), ([2], [2]), ([9, 2], [2, 9]), ([8, 10, 2, 2], [2, 8, 10]), ([11, 2], [2, 11]), ([12, 11, 2], [2, 12]), ([13], [13]), ([13], [13]), ([15, 13], [13, 15]), ([14, 16, 13], [13, 14, 16]), ([17, 13], [13, 17]), ([18, 13], [13, 18]), ([13], [13]), ([20, 13], [13, 20]), ([19, 21, 13, 13], [13, 19, 21]), ([13, 22, 2], [2, 13, 22]), ([2, 23], [2, 23])])
def snap_Valid.B14 : List Nat := [0, 1, 3, 7, 7, 23, 63, 127, 255, 7, 519, 2047, 4095, 8191, 16383, 16383, 49151, 131071, 262143, 524287, 16383, 1064959, 4194303, 8388607, 16777215]
theorem snap_Valid.tab14 : rtab .any (opsOf Tryz.f27 14) = snap_Valid.T14 := by kernel_rfl
theorem snap_Valid.bits14 : waitsOk snap_Valid.T14.2 snap_Valid.B14 = true := by kernel_rfl
set_option maxHeartbeats 8000000 in
set_option maxRecDepth 100000 in
theorem snap_Valid.calls (k : Nat) (A0 : Option Addr) (c0 : Nat) (l0 : List (S43)) (r : Int) (w : World) (hr0 : Kd.C k43 w A0 l0.length l0) (hc0 : l0.length ≤ c0) (h : snap_Valid.f k l0 = some r) :
  Calls Tryz.prog 27 #[.slice A0 l0.length c0] w fun e w' => e = .returned (.int .i64 r) ∧ Below w.heap.size w w' := by
 have hu43 := Tryz.underlying43
 have HR0 := Aside0.mk hr0
 have HC0 := Aside0.mk hc0
 clear hr0 hc0
 have HB := Aside0.mk (Below.refl w.heap.size w)
 have H : (snap_Valid.l0 k l0 l0 (l0.length : Int) 0) = some r := h
 clear h
 have H' := Aside0.mk H
 clear H
 go_enter Tryz.func27, Tryz.ntmps27
 go_wp2
 go_loopg [9] k (fun kq v9 w' => ∃ (x9_1 : Int), v9 = .int .i64 x9_1 ∧ Aside0 (snap_Valid.l0 kq l0 l0 (l0.length : Int) x9_1 = some r) ∧ Aside0 (kq ≤ k) ∧ Aside0 (Below w.heap.size w w'))
 case atStart => exact ⟨(0), (rf_), H', ⟨Nat.le_refl _⟩, ⟨bel_⟩⟩
 case round =>
  clear H'
  obtain ⟨x9_1, rfl, HA, HK1, HB⟩ := hrel
  cases gk with
  | zero => exact absurd HA.out (by simp [snap_Valid.l0])
  | succ k1 =>
   have H := HA.out
   clear HA
   simp only [snap_Valid.l0] at H
   by_cases c2 : x9_1 < (l0.length : Int)
   ·rw [if_pos c2] at H
    have c2b0 := decide_eq_true c2
    clear c2
    by_cases c3 : 0 ≤ x9_1
    rotate_left
    ·rw [if_neg c3] at H
     exact absurd H (by simp)
    rw [if_pos c3] at H
    have c3b0 := decide_eq_true c3
    clear c3
    by_cases c4 : x9_1 < (l0.length : Int)
    rotate_left
    ·rw [if_neg c4] at H
     exact absurd H (by simp)
    rw [if_pos c4] at H
    have c4b0 := decide_eq_true c4
    clear c4
    replace H := Option.bind_eq_some_iff.mp H
    obtain ⟨t160, A50, H⟩ := H
    try dsimp only at H
    have A5 := Aside0.mk A50
    clear A50
    by_cases c6 : t160 = true
    ·subst c6
     rw [if_pos rfl] at H
     have H1 := H
     clear H
     have H := H1
     clear H1
     have H' := Aside0.mk H
     clear H
     have p158 : 0 ≤ (x9_1 : Int) := of_decide_eq_true (by assumption)
     have q158 : x9_1 < (l0.length : Int) := of_decide_eq_true (by assumption)
     obtain ⟨ad158, e158, hx158_0, hx158_1, hx158_2, hx158_3⟩ := at_T43 HR0.out x9_1 p158 q158
     cases e158
     replace hx158_0 := hk_ HB.out hx158_0
     replace hx158_1 := hk_ HB.out hx158_1
     replace hx158_2 := hk_ HB.out hx158_2
     replace hx158_3 := hk_ HB.out hx158_3
     replace p158 := eq_true p158
     replace q158 := eq_true q158
     go_wp2_with (first | ((with_reducible refine gate_dst (N := 4) rfl ?_); refine box_event ?hg (N := 4) ?hd (cs := #[.string (⟨#[]⟩ : ByteArray), .string (⟨#[]⟩ : ByteArray), .int .i64 0, .int .i64 0]) (t := 43) ?hr ?_; (case hd => rfl); (case hg => rfl); (case hr => first | (go_simp; done) | (go_simp; rfl)); intro gb159 hg w7 hbox hb; have n0_ := Aside0.mk (below_step (bel_) hb); have n1_ := Aside0.mk (hbox); have n2_ := Aside0.mk ((by rw [hg]; exact (below_size (bel_)) : w.heap.size ≤ gb159)); have n3_ := Aside0.mk ((by rw [hg]; exact (below_size (bel_)) : w.heap.size ≤ gb159)); clear HB; have HB := n0_; have BK159 := n1_; have GW159 := n2_; have GE159 := n3_; clear n0_ n1_ n2_ n3_; clear hb hbox hg; have hcz8_0 : w7.cell? ⟨gb159, 0, none⟩ = some (.string (⟨#[]⟩ : ByteArray)) := (blk_cell BK159.out 0).trans rfl; have hcz8_1 : w7.cell? ⟨gb159, 1, none⟩ = some (.string (⟨#[]⟩ : ByteArray)) := (blk_cell BK159.out 1).trans rfl; have hcz8_2 : w7.cell? ⟨gb159, 2, none⟩ = some (.int .i64 0) := (blk_cell BK159.out 2).trans rfl; have hcz8_3 : w7.cell? ⟨gb159, 3, none⟩ = some (.int .i64 0) := (blk_cell BK159.out 3).trans rfl; have hfz8_0 := blk_frozen BK159.out 0; have hfz8_1 := blk_frozen BK159.out 1; have hfz8_2 := blk_frozen BK159.out 2; have hfz8_3 := blk_frozen BK159.out 3) | ((with_reducible refine gate_callee (f := 53) rfl ?_); refine goesL_ (some 14) rfl rfl Tryz.func53 (by kernel_rfl) rfl #[.agg #[.string ((rd_T43 l0 x9_1).f0), .string ((rd_T43 l0 x9_1).f1), .int .i64 ((rd_T43 l0 x9_1).f2), .int .i64 ((rd_T43 l0 x9_1).f3)]] rfl (mp_) ?_; (with_reducible refine (snap_placed.calls k1 ((rd_T43 l0 x9_1).f0) ((rd_T43 l0 x9_1).f1) ((rd_T43 l0 x9_1).f2) ((rd_T43 l0 x9_1).f3) true _ A5.out).mono ?_); rintro e w9 ⟨rfl, hb⟩; refine ⟨_, rfl, ?_⟩; have n0_ := Aside0.mk (blk_below (g := gb159) (o := .cells #[.string ((rd_T43 l0 x9_1).f0), .string ((rd_T43 l0 x9_1).f1), .int .i64 ((rd_T43 l0 x9_1).f2), .int .i64 ((rd_T43 l0 x9_1).f3)] 43 (0, 0)) (by refine ub_ ?_; refine blk_put (cs := #[.string ((rd_T43 l0 x9_1).f0), .string ((rd_T43 l0 x9_1).f1), .int .i64 ((rd_T43 l0 x9_1).f2), .int .i64 0]) ?_ 3 _ rfl; refine ub_ ?_; refine blk_put (cs := #[.string ((rd_T43 l0 x9_1).f0), .string ((rd_T43 l0 x9_1).f1), .int .i64 0, .int .i64 0]) ?_ 2 _ rfl; refine ub_ ?_; refine blk_put (cs := #[.string ((rd_T43 l0 x9_1).f0), .string (⟨#[]⟩ : ByteArray), .int .i64 0, .int .i64 0]) ?_ 1 _ rfl; refine ub_ ?_; refine blk_put (cs := #[.string (⟨#[]⟩ : ByteArray), .string (⟨#[]⟩ : ByteArray), .int .i64 0, .int .i64 0]) ?_ 0 _ rfl; refine ub_ ?_; exact BK159.out) hb); have n1_ := Aside0.mk (below_step (bes_ GE159.out) hb); clear BK159; clear HB; have BK159 := n0_; have HB := n1_; clear n0_ n1_; (try clear hb); (try clear hb2); (try clear hk); (try clear hi)))
     go_roundg k1
     case measure => have := HK1.out; omega
     case rel => exact ⟨(wrap64 (x9_1 + 1)), (rf_), H', ⟨by have := HK1.out; omega⟩, ⟨bes_ GE159.out⟩⟩
    replace c6 := Bool.eq_false_iff.mpr c6
    subst c6
    have H1 : (some 7) = some r := by rw [if_neg (show ¬ (false = true) by decide)] at H; exact H
    clear H
    have H := H1
    clear H1
    obtain rfl := Option.some.inj H
    have p158 : 0 ≤ (x9_1 : Int) := of_decide_eq_true (by assumption)
    have q158 : x9_1 < (l0.length : Int) := of_decide_eq_true (by assumption)
    obtain ⟨ad158, e158, hx158_0, hx158_1, hx158_2, hx158_3⟩ := at_T43 HR0.out x9_1 p158 q158
    cases e158
    replace hx158_0 := hk_ HB.out hx158_0
    replace hx158_1 := hk_ HB.out hx158_1
    replace hx158_2 := hk_ HB.out hx158_2
    replace hx158_3 := hk_ HB.out hx158_3
    replace p158 := eq_true p158
    replace q158 := eq_true q158
    go_wp2_with (first | ((with_reducible refine gate_dst (N := 4) rfl ?_); refine box_event ?hg (N := 4) ?hd (cs := #[.string (⟨#[]⟩ : ByteArray), .string (⟨#[]⟩ : ByteArray), .int .i64 0, .int .i64 0]) (t := 43) ?hr ?_; (case hd => rfl); (case hg => rfl); (case hr => first | (go_simp; done) | (go_simp; rfl)); intro gb159 hg w10 hbox hb; have n0_ := Aside0.mk (below_step (bel_) hb); have n1_ := Aside0.mk (hbox); have n2_ := Aside0.mk ((by rw [hg]; exact (below_size (bel_)) : w.heap.size ≤ gb159)); have n3_ := Aside0.mk ((by rw [hg]; exact (below_size (bel_)) : w.heap.size ≤ gb159)); clear HB; have HB := n0_; have BK159 := n1_; have GW159 := n2_; have GE159 := n3_; clear n0_ n1_ n2_ n3_; clear hb hbox hg; have hcz11_0 : w10.cell? ⟨gb159, 0, none⟩ = some (.string (⟨#[]⟩ : ByteArray)) := (blk_cell BK159.out 0).trans rfl; have hcz11_1 : w10.cell? ⟨gb159, 1, none⟩ = some (.string (⟨#[]⟩ : ByteArray)) := (blk_cell BK159.out 1).trans rfl; have hcz11_2 : w10.cell? ⟨gb159, 2, none⟩ = some (.int .i64 0) := (blk_cell BK159.out 2).trans rfl; have hcz11_3 : w10.cell? ⟨gb159, 3, none⟩ = some (.int .i64 0) := (blk_cell BK159.out 3).trans rfl; have hfz11_0 := blk_frozen BK159.out 0; have hfz11_1 := blk_frozen BK159.out 1; have hfz11_2 := blk_frozen BK159.out 2; have hfz11_3 := blk_frozen BK159.out 3) | ((with_reducible refine gate_callee (f := 53) rfl ?_); refine goesL_ (some 14) rfl rfl Tryz.func53 (by kernel_rfl) rfl #[.agg #[.string ((rd_T43 l0 x9_1).f0), .string ((rd_T43 l0 x9_1).f1), .int .i64 ((rd_T43 l0 x9_1).f2), .int .i64 ((rd_T43 l0 x9_1).f3)]] rfl (mp_) ?_; (with_reducible refine (snap_placed.calls k1 ((rd_T43 l0 x9_1).f0) ((rd_T43 l0 x9_1).f1) ((rd_T43 l0 x9_1).f2) ((rd_T43 l0 x9_1).f3) false _ A5.out).mono ?_); rintro e w12 ⟨rfl, hb⟩; refine ⟨_, rfl, ?_⟩; have n0_ := Aside0.mk (blk_below (g := gb159) (o := .cells #[.string ((rd_T43 l0 x9_1).f0), .string ((rd_T43 l0 x9_1).f1), .int .i64 ((rd_T43 l0 x9_1).f2), .int .i64 ((rd_T43 l0 x9_1).f3)] 43 (0, 0)) (by refine ub_ ?_; refine blk_put (cs := #[.string ((rd_T43 l0 x9_1).f0), .string ((rd_T43 l0 x9_1).f1), .int .i64 ((rd_T43 l0 x9_1).f2), .int .i64 0]) ?_ 3 _ rfl; refine ub_ ?_; refine blk_put (cs := #[.string ((rd_T43 l0 x9_1).f0), .string ((rd_T43 l0 x9_1).f1), .int .i64 0, .int .i64 0]) ?_ 2 _ rfl; refine ub_ ?_; refine blk_put (cs := #[.string ((rd_T43 l0 x9_1).f0), .string (⟨#[]⟩ : ByteArray), .int .i64 0, .int .i64 0]) ?_ 1 _ rfl; refine ub_ ?_; refine blk_put (cs := #[.string (⟨#[]⟩ : ByteArray), .string (⟨#[]⟩ : ByteArray), .int .i64 0, .int .i64 0]) ?_ 0 _ rfl; refine ub_ ?_; exact BK159.out) hb); have n1_ := Aside0.mk (below_step (bes_ GE159.out) hb); clear BK159; clear HB; have BK159 := n0_; have HB := n1_; clear n0_ n1_; (try clear hb); (try clear hb2); (try clear hk); (try clear hi)))
    go_ret
    exact ⟨er_, bes_ GE159.out⟩
   rw [if_neg c2] at H
   have c2b0 := decide_eq_false c2
   clear c2
   by_cases c13 : (l0.length : Int) > 512
   ·rw [if_pos c13] at H
    have c13b0 := decide_eq_true c13
    have c13b1 : decide (512 < l0.length) = true := decide_eq_true (by omega)
    clear c13
    obtain rfl := Option.some.inj H
    go_wp2
    go_ret
    exact ⟨er_, bel_⟩
   rw [if_neg c13] at H
   have c13b0 := decide_eq_false c13
   have c13b1 : decide (512 < l0.length) = false := decide_eq_false (by omega)
   clear c13
   have H' := Aside0.mk H
   clear H
   go_wp2
   go_loopg [22] k1 (fun kq v22 w' => ∃ (x22_2 : Int), v22 = .int .i64 x22_2 ∧ Aside0 (snap_Valid.l1 kq l0 l0 (l0.length : Int) x22_2 = some r) ∧ Aside0 (kq ≤ k1) ∧ Aside0 (Below w.heap.size w w'))
   case atStart => exact ⟨(0), (rf_), H', ⟨Nat.le_refl _⟩, ⟨bel_⟩⟩
   case round =>
    clear H'
    try clear c1
    try clear p1
    try clear q1
    try clear hx1
    try clear c2
    try clear c2b0
    try clear p2
    try clear c3
    try clear c3b0
    try clear c4
    try clear c4b0
    try clear c5
    try clear c6
    try clear p6
    try clear c13
    try clear c13b0
    try clear c13b1
    try clear hcz11_0
    try clear hcz11_1
    try clear hcz11_2
    try clear hcz11_3
    try clear hcz8_0
    try clear hcz8_1
    try clear hcz8_2
    try clear hcz8_3
    try clear hfz11_0
    try clear hfz11_1
    try clear hfz11_2
    try clear hfz11_3
    try clear hfz8_0
    try clear hfz8_1
    try clear hfz8_2
    try clear hfz8_3
    try clear hx158_0
    try clear hx158_1
    try clear hx158_2
    try clear hx158_3
    try clear p158
    try clear q158
    obtain ⟨x22_2, rfl, HA, HK2, HB⟩ := hrel
    cases gk with
    | zero => exact absurd HA.out (by simp [snap_Valid.l1])
    | succ k2 =>
     have H := HA.out
     clear HA
     simp only [snap_Valid.l1] at H
     by_cases c14 : x22_2 < (l0.length : Int)
     rotate_left
     ·rw [if_neg c14] at H
      have c14b0 := decide_eq_false c14
      clear c14
      obtain rfl := Option.some.inj H
      go_wp2
      go_ret
      exact ⟨er_, bel_⟩
     rw [if_pos c14] at H
     have c14b0 := decide_eq_true c14
     clear c14
     by_cases c15 : 0 ≤ x22_2
     rotate_left
     ·rw [if_neg c15] at H
      exact absurd H (by simp)
     rw [if_pos c15] at H
     have c15b0 := decide_eq_true c15
     clear c15
     by_cases c16 : x22_2 < (l0.length : Int)
     rotate_left
     ·rw [if_neg c16] at H
      exact absurd H (by simp)
     rw [if_pos c16] at H
     have c16b0 := decide_eq_true c16
     clear c16
     replace H := Option.bind_eq_some_iff.mp H
     obtain ⟨t163, A170, H⟩ := H
     try dsimp only at H
     have A17 := Aside0.mk A170
     clear A170
     by_cases c18 : t163 = 0
     rotate_left
     ·rw [if_neg c18] at H
      have c18b0 : (t163 == 0) = false := beq_eq_false_iff_ne.mpr c18
      have c18b1 : (t163 != 0) = true := bne_iff_ne.mpr c18
      obtain rfl := Option.some.inj H
      have p161 : 0 ≤ (x22_2 : Int) := of_decide_eq_true (by assumption)
      have q161 : x22_2 < (l0.length : Int) := of_decide_eq_true (by assumption)
      obtain ⟨ad161, e161, hx161_0, hx161_1, hx161_2, hx161_3⟩ := at_T43 HR0.out x22_2 p161 q161
      cases e161
      replace hx161_0 := hk_ HB.out hx161_0
      replace hx161_1 := hk_ HB.out hx161_1
      replace hx161_2 := hk_ HB.out hx161_2
      replace hx161_3 := hk_ HB.out hx161_3
      replace p161 := eq_true p161
      replace q161 := eq_true q161
      go_wp2_with (first | ((with_reducible refine gate_dst (N := 6) rfl ?_); refine box_event ?hg (N := 6) ?hd (cs := #[.string (⟨#[]⟩ : ByteArray), .string (⟨#[]⟩ : ByteArray), .int .i64 0, .int .i64 0]) (t := 43) ?hr ?_; (case hd => rfl); (case hg => rfl); (case hr => first | (go_simp; done) | (go_simp; rfl)); intro gb162 hg w48 hbox hb; have n0_ := Aside0.mk (below_step (bel_) hb); have n1_ := Aside0.mk (hbox); have n2_ := Aside0.mk ((by rw [hg]; exact (below_size (bel_)) : w.heap.size ≤ gb162)); have n3_ := Aside0.mk ((by rw [hg]; exact (below_size (bel_)) : w.heap.size ≤ gb162)); clear HB; have HB := n0_; have BK162 := n1_; have GW162 := n2_; have GE162 := n3_; clear n0_ n1_ n2_ n3_; clear hb hbox hg; have hcz49_0 : w48.cell? ⟨gb162, 0, none⟩ = some (.string (⟨#[]⟩ : ByteArray)) := (blk_cell BK162.out 0).trans rfl; have hcz49_1 : w48.cell? ⟨gb162, 1, none⟩ = some (.string (⟨#[]⟩ : ByteArray)) := (blk_cell BK162.out 1).trans rfl; have hcz49_2 : w48.cell? ⟨gb162, 2, none⟩ = some (.int .i64 0) := (blk_cell BK162.out 2).trans rfl; have hcz49_3 : w48.cell? ⟨gb162, 3, none⟩ = some (.int .i64 0) := (blk_cell BK162.out 3).trans rfl; have hfz49_0 := blk_frozen BK162.out 0; have hfz49_1 := blk_frozen BK162.out 1; have hfz49_2 := blk_frozen BK162.out 2; have hfz49_3 := blk_frozen BK162.out 3) | ((with_reducible refine gate_callee (f := 54) rfl ?_); refine goesL_ (some 28) rfl rfl Tryz.func54 (by kernel_rfl) rfl #[.agg #[.string ((rd_T43 l0 x22_2).f0), .string ((rd_T43 l0 x22_2).f1), .int .i64 ((rd_T43 l0 x22_2).f2), .int .i64 ((rd_T43 l0 x22_2).f3)]] rfl (mp_) ?_; (with_reducible refine (snap_File.calls k2 ((rd_T43 l0 x22_2).f0) ((rd_T43 l0 x22_2).f1) ((rd_T43 l0 x22_2).f2) ((rd_T43 l0 x22_2).f3) t163 _ A17.out).mono ?_); rintro e w50 ⟨rfl, hb⟩; refine ⟨_, rfl, ?_⟩; have n0_ := Aside0.mk (blk_below (g := gb162) (o := .cells #[.string ((rd_T43 l0 x22_2).f0), .string ((rd_T43 l0 x22_2).f1), .int .i64 ((rd_T43 l0 x22_2).f2), .int .i64 ((rd_T43 l0 x22_2).f3)] 43 (0, 0)) (by refine ub_ ?_; refine blk_put (cs := #[.string ((rd_T43 l0 x22_2).f0), .string ((rd_T43 l0 x22_2).f1), .int .i64 ((rd_T43 l0 x22_2).f2), .int .i64 0]) ?_ 3 _ rfl; refine ub_ ?_; refine blk_put (cs := #[.string ((rd_T43 l0 x22_2).f0), .string ((rd_T43 l0 x22_2).f1), .int .i64 0, .int .i64 0]) ?_ 2 _ rfl; refine ub_ ?_; refine blk_put (cs := #[.string ((rd_T43 l0 x22_2).f0), .string (⟨#[]⟩ : ByteArray), .int .i64 0, .int .i64 0]) ?_ 1 _ rfl; refine ub_ ?_; refine blk_put (cs := #[.string (⟨#[]⟩ : ByteArray), .string (⟨#[]⟩ : ByteArray), .int .i64 0, .int .i64 0]) ?_ 0 _ rfl; refine ub_ ?_; exact BK162.out) hb); have n1_ := Aside0.mk (below_step (bes_ GE162.out) hb); clear BK162; clear HB; have BK162 := n0_; have HB := n1_; clear n0_ n1_; (try clear hb); (try clear hb2); (try clear hk); (try clear hi)))
      go_ret
      exact ⟨er_, bes_ GE162.out⟩
     rw [if_pos c18] at H
     have c18b0 : (t163 == 0) = true := beq_iff_eq.mpr c18
     have c18b1 : (t163 != 0) = false := bne_eq_false_iff_eq.mpr c18
     clear c18
     by_cases c19 : x22_2 > 0
     rotate_left
     ·rw [if_neg c19] at H
      have c19b0 := decide_eq_false c19
      clear c19
      have H' := Aside0.mk H
      clear H
      have p161 : 0 ≤ (x22_2 : Int) := of_decide_eq_true (by assumption)
      have q161 : x22_2 < (l0.length : Int) := of_decide_eq_true (by assumption)
      obtain ⟨ad161, e161, hx161_0, hx161_1, hx161_2, hx161_3⟩ := at_T43 HR0.out x22_2 p161 q161
      cases e161
      replace hx161_0 := hk_ HB.out hx161_0
      replace hx161_1 := hk_ HB.out hx161_1
      replace hx161_2 := hk_ HB.out hx161_2
      replace hx161_3 := hk_ HB.out hx161_3
      replace p161 := eq_true p161
      replace q161 := eq_true q161
      try go_wp2_with (first | ((with_reducible refine gate_dst (N := 6) rfl ?_); refine box_event ?hg (N := 6) ?hd (cs := #[.string (⟨#[]⟩ : ByteArray), .string (⟨#[]⟩ : ByteArray), .int .i64 0, .int .i64 0]) (t := 43) ?hr ?_; (case hd => rfl); (case hg => rfl); (case hr => first | (go_simp; done) | (go_simp; rfl)); intro gb162 hg w44 hbox hb; have n0_ := Aside0.mk (below_step (bel_) hb); have n1_ := Aside0.mk (hbox); have n2_ := Aside0.mk ((by rw [hg]; exact (below_size (bel_)) : w.heap.size ≤ gb162)); have n3_ := Aside0.mk ((by rw [hg]; exact (below_size (bel_)) : w.heap.size ≤ gb162)); clear HB; have HB := n0_; have BK162 := n1_; have GW162 := n2_; have GE162 := n3_; clear n0_ n1_ n2_ n3_; clear hb hbox hg; have hcz45_0 : w44.cell? ⟨gb162, 0, none⟩ = some (.string (⟨#[]⟩ : ByteArray)) := (blk_cell BK162.out 0).trans rfl; have hcz45_1 : w44.cell? ⟨gb162, 1, none⟩ = some (.string (⟨#[]⟩ : ByteArray)) := (blk_cell BK162.out 1).trans rfl; have hcz45_2 : w44.cell? ⟨gb162, 2, none⟩ = some (.int .i64 0) := (blk_cell BK162.out 2).trans rfl; have hcz45_3 : w44.cell? ⟨gb162, 3, none⟩ = some (.int .i64 0) := (blk_cell BK162.out 3).trans rfl; have hfz45_0 := blk_frozen BK162.out 0; have hfz45_1 := blk_frozen BK162.out 1; have hfz45_2 := blk_frozen BK162.out 2; have hfz45_3 := blk_frozen BK162.out 3) | ((with_reducible refine gate_callee (f := 54) rfl ?_); refine goesL_ (some 28) rfl rfl Tryz.func54 (by kernel_rfl) rfl #[.agg #[.string ((rd_T43 l0 x22_2).f0), .string ((rd_T43 l0 x22_2).f1), .int .i64 ((rd_T43 l0 x22_2).f2), .int .i64 ((rd_T43 l0 x22_2).f3)]] rfl (mp_) ?_; (with_reducible refine (snap_File.calls k2 ((rd_T43 l0 x22_2).f0) ((rd_T43 l0 x22_2).f1) ((rd_T43 l0 x22_2).f2) ((rd_T43 l0 x22_2).f3) t163 _ A17.out).mono ?_); rintro e w46 ⟨rfl, hb⟩; refine ⟨_, rfl, ?_⟩; have n0_ := Aside0.mk (blk_below (g := gb162) (o := .cells #[.string ((rd_T43 l0 x22_2).f0), .string ((rd_T43 l0 x22_2).f1), .int .i64 ((rd_T43 l0 x22_2).f2), .int .i64 ((rd_T43 l0 x22_2).f3)] 43 (0, 0)) (by refine ub_ ?_; refine blk_put (cs := #[.string ((rd_T43 l0 x22_2).f0), .string ((rd_T43 l0 x22_2).f1), .int .i64 ((rd_T43 l0 x22_2).f2), .int .i64 0]) ?_ 3 _ rfl; refine ub_ ?_; refine blk_put (cs := #[.string ((rd_T43 l0 x22_2).f0), .string ((rd_T43 l0 x22_2).f1), .int .i64 0, .int .i64 0]) ?_ 2 _ rfl; refine ub_ ?_; refine blk_put (cs := #[.string ((rd_T43 l0 x22_2).f0), .string (⟨#[]⟩ : ByteArray), .int .i64 0, .int .i64 0]) ?_ 1 _ rfl; refine ub_ ?_; refine blk_put (cs := #[.string (⟨#[]⟩ : ByteArray), .string (⟨#[]⟩ : ByteArray), .int .i64 0, .int .i64 0]) ?_ 0 _ rfl; refine ub_ ?_; exact BK162.out) hb); have n1_ := Aside0.mk (below_step (bes_ GE162.out) hb); clear BK162; clear HB; have BK162 := n0_; have HB := n1_; clear n0_ n1_; (try clear hb); (try clear hb2); (try clear hk); (try clear hi)))
      have n0_ := Aside0.mk (blk_drew BK162.out)
      have n1_ := Aside0.mk (below_drew1 HB.out)
      clear BK162
      clear HB
      have BK162 := n0_
      have HB := n1_
      clear n0_ n1_
      refine start_ (n := 25) (S := fun w' => True) (ds := []) (lb 25 0) (by kernel_rfl) rfl rfl trivial (fun hHeld => ?_); refine with_tabW snap_Valid.tab14 snap_Valid.bits14 (fun HT_ HW_ => ?_)
      generalize w46.drew = w47 at BK162 HB hHeld ⊢
      refine pv_ 0 30 (lb 25 1) HT_.out ?_
      refine pv_ 1 31 (lb 25 3) HT_.out ?_
      refine pv_ 2 32 (lb 25 7) HT_.out ?_
      refine pg_ 3 33 (lb 25 15) HT_.out ?_
      refine pg_ 4 34 (lb 25 31) HT_.out ?_
      refine pg_ 5 35 (lb 25 63) HT_.out ?_
      refine pg_ 6 36 (lb 25 127) HT_.out ?_
      refine pg_ 7 37 (lb 25 255) HT_.out ?_
      refine pg_ 8 38 (lb 25 511) HT_.out ?_
      refine pg_ 9 39 (lb 25 1023) HT_.out ?_
      refine pg_ 10 40 (lb 25 2047) HT_.out ?_
      refine pg_ 11 41 (lb 25 4095) HT_.out ?_
      refine pg_ 12 42 (lb 25 8191) HT_.out ?_
      refine pg_ 13 43 (lb 25 16383) HT_.out ?_
      refine pg_ 14 44 (lb 25 32767) HT_.out ?_
      refine pg_ 15 45 (lb 25 65535) HT_.out ?_
      refine pg_ 16 46 (lb 25 131071) HT_.out ?_
      refine pg_ 17 47 (lb 25 262143) HT_.out ?_
      refine pg_ 18 48 (lb 25 524287) HT_.out ?_
      refine pg_ 19 49 (lb 25 1048575) HT_.out ?_
      refine pg_ 20 50 (lb 25 2097151) HT_.out ?_
      refine pg_ 21 51 (lb 25 4194303) HT_.out ?_
      refine pg_ 22 52 (lb 25 8388607) HT_.out ?_
      refine pg_ 23 53 (lb 25 16777215) HT_.out ?_
      refine pv_ 24 54 (lb 25 33554431) HT_.out ?_
      refine done_ (done_of HT_.out (by kernel_rfl)) ?_
      try go_wp2
      go_roundg k2
      case measure => have := HK1.out; have := HK2.out; omega
      case rel => exact ⟨(wrap64 (x22_2 + 1)), (rf_), H', ⟨by have := HK1.out; have := HK2.out; omega⟩, ⟨bes_ GE162.out⟩⟩
     rw [if_pos c19] at H
     have c19b0 := decide_eq_true c19
     clear c19
     obtain ⟨ji20, hji20⟩ : ∃ j_ : Int, (wrap64 (x22_2 - 1)) = j_ := ⟨_, rfl⟩
     replace H : (if 0 ≤ (ji20) then (if (ji20) < (l0.length : Int) then ((path_Cmp.f k2 ((rd_T43 l0 (ji20)).f0) ((rd_T43 l0 x22_2).f0)).bind fun t165 => (if t165 ≥ 0 then (some 8) else ((path_Above.f k2 ((rd_T43 l0 (ji20)).f0) ((rd_T43 l0 x22_2).f0)).bind fun t167 => (if t167 = true then (some 8) else (snap_Valid.l1 k2 l0 l0 (l0.length : Int) (wrap64 (x22_2 + 1))))))) else (none)) else (none)) = some r := by first | (rw [hji20] at H; exact H) | (simp only [hji20] at H ⊢; exact H)
     (try rw [hji20] at A17)
     have hji20w : (IntKind.i64.wrap (x22_2 - 1)) = ji20 := (i64_w _).trans hji20
     by_cases c21 : 0 ≤ (ji20)
     rotate_left
     ·rw [if_neg c21] at H
      exact absurd H (by simp)
     rw [if_pos c21] at H
     have c21b0 := decide_eq_true c21
     clear c21
     by_cases c22 : (ji20) < (l0.length : Int)
     rotate_left
     ·rw [if_neg c22] at H
      exact absurd H (by simp)
     rw [if_pos c22] at H
     have c22b0 := decide_eq_true c22
     clear c22
     replace H := Option.bind_eq_some_iff.mp H
     obtain ⟨t165, A230, H⟩ := H
     try dsimp only at H
     have A23 := Aside0.mk A230
     clear A230
     by_cases c24 : t165 ≥ 0
     ·rw [if_pos c24] at H
      have c24b0 := decide_eq_true c24
      clear c24
      obtain rfl := Option.some.inj H
      have p161 : 0 ≤ (x22_2 : Int) := of_decide_eq_true (by assumption)
      have q161 : x22_2 < (l0.length : Int) := of_decide_eq_true (by assumption)
      obtain ⟨ad161, e161, hx161_0, hx161_1, hx161_2, hx161_3⟩ := at_T43 HR0.out x22_2 p161 q161
      cases e161
      replace hx161_0 := hk_ HB.out hx161_0
      replace hx161_1 := hk_ HB.out hx161_1
      replace hx161_2 := hk_ HB.out hx161_2
      replace hx161_3 := hk_ HB.out hx161_3
      replace p161 := eq_true p161
      replace q161 := eq_true q161
      try go_wp2_with (first | ((with_reducible refine gate_dst (N := 6) rfl ?_); refine box_event ?hg (N := 6) ?hd (cs := #[.string (⟨#[]⟩ : ByteArray), .string (⟨#[]⟩ : ByteArray), .int .i64 0, .int .i64 0]) (t := 43) ?hr ?_; (case hd => rfl); (case hg => rfl); (case hr => first | (go_simp; done) | (go_simp; rfl)); intro gb162 hg w25 hbox hb; have n0_ := Aside0.mk (below_step (bel_) hb); have n1_ := Aside0.mk (hbox); have n2_ := Aside0.mk ((by rw [hg]; exact (below_size (bel_)) : w.heap.size ≤ gb162)); have n3_ := Aside0.mk ((by rw [hg]; exact (below_size (bel_)) : w.heap.size ≤ gb162)); clear HB; have HB := n0_; have BK162 := n1_; have GW162 := n2_; have GE162 := n3_; clear n0_ n1_ n2_ n3_; clear hb hbox hg; have hcz26_0 : w25.cell? ⟨gb162, 0, none⟩ = some (.string (⟨#[]⟩ : ByteArray)) := (blk_cell BK162.out 0).trans rfl; have hcz26_1 : w25.cell? ⟨gb162, 1, none⟩ = some (.string (⟨#[]⟩ : ByteArray)) := (blk_cell BK162.out 1).trans rfl; have hcz26_2 : w25.cell? ⟨gb162, 2, none⟩ = some (.int .i64 0) := (blk_cell BK162.out 2).trans rfl; have hcz26_3 : w25.cell? ⟨gb162, 3, none⟩ = some (.int .i64 0) := (blk_cell BK162.out 3).trans rfl; have hfz26_0 := blk_frozen BK162.out 0; have hfz26_1 := blk_frozen BK162.out 1; have hfz26_2 := blk_frozen BK162.out 2; have hfz26_3 := blk_frozen BK162.out 3) | ((with_reducible refine gate_callee (f := 54) rfl ?_); refine goesL_ (some 28) rfl rfl Tryz.func54 (by kernel_rfl) rfl #[.agg #[.string ((rd_T43 l0 x22_2).f0), .string ((rd_T43 l0 x22_2).f1), .int .i64 ((rd_T43 l0 x22_2).f2), .int .i64 ((rd_T43 l0 x22_2).f3)]] rfl (mp_) ?_; (with_reducible refine (snap_File.calls k2 ((rd_T43 l0 x22_2).f0) ((rd_T43 l0 x22_2).f1) ((rd_T43 l0 x22_2).f2) ((rd_T43 l0 x22_2).f3) t163 _ A17.out).mono ?_); rintro e w27 ⟨rfl, hb⟩; refine ⟨_, rfl, ?_⟩; have n0_ := Aside0.mk (blk_below (g := gb162) (o := .cells #[.string ((rd_T43 l0 x22_2).f0), .string ((rd_T43 l0 x22_2).f1), .int .i64 ((rd_T43 l0 x22_2).f2), .int .i64 ((rd_T43 l0 x22_2).f3)] 43 (0, 0)) (by refine ub_ ?_; refine blk_put (cs := #[.string ((rd_T43 l0 x22_2).f0), .string ((rd_T43 l0 x22_2).f1), .int .i64 ((rd_T43 l0 x22_2).f2), .int .i64 0]) ?_ 3 _ rfl; refine ub_ ?_; refine blk_put (cs := #[.string ((rd_T43 l0 x22_2).f0), .string ((rd_T43 l0 x22_2).f1), .int .i64 0, .int .i64 0]) ?_ 2 _ rfl; refine ub_ ?_; refine blk_put (cs := #[.string ((rd_T43 l0 x22_2).f0), .string (⟨#[]⟩ : ByteArray), .int .i64 0, .int .i64 0]) ?_ 1 _ rfl; refine ub_ ?_; refine blk_put (cs := #[.string (⟨#[]⟩ : ByteArray), .string (⟨#[]⟩ : ByteArray), .int .i64 0, .int .i64 0]) ?_ 0 _ rfl; refine ub_ ?_; exact BK162.out) hb); have n1_ := Aside0.mk (below_step (bes_ GE162.out) hb); clear BK162; clear HB; have BK162 := n0_; have HB := n1_; clear n0_ n1_; (try clear hb); (try clear hb2); (try clear hk); (try clear hi)))
      have n0_ := Aside0.mk (blk_drew BK162.out)
      have n1_ := Aside0.mk (below_drew1 HB.out)
      clear BK162
      clear HB
      have BK162 := n0_
      have HB := n1_
      clear n0_ n1_
      have p164 : 0 ≤ ((ji20) : Int) := of_decide_eq_true (by assumption)
      have q164 : (ji20) < (l0.length : Int) := of_decide_eq_true (by assumption)
      obtain ⟨ad164, e164, hx164_0, hx164_1, hx164_2, hx164_3⟩ := at_T43 HR0.out (ji20) p164 q164
      have hw164_3 := hx164_3
      have hw164_2 := hx164_2
      have hw164_1 := hx164_1
      have hw164_0 := hx164_0
      obtain rfl : ad161 = ad164 := (by injection e164)
      replace hx164_0 := hk_ HB.out hx164_0
      replace hx164_1 := hk_ HB.out hx164_1
      replace hx164_2 := hk_ HB.out hx164_2
      replace hx164_3 := hk_ HB.out hx164_3
      replace p164 := eq_true p164
      replace q164 := eq_true q164
      refine start_ (n := 25) (S := fun w' => w'.cell? ⟨gb162, 0, none⟩ = some (.string ((rd_T43 l0 x22_2).f0)) ∧ w'.cell? ⟨gb162, 1, none⟩ = some (.string ((rd_T43 l0 x22_2).f1)) ∧ w'.cell? ⟨gb162, 2, none⟩ = some (.int .i64 ((rd_T43 l0 x22_2).f2)) ∧ w'.cell? ⟨gb162, 3, none⟩ = some (.int .i64 ((rd_T43 l0 x22_2).f3)) ∧ w'.cell? (ad161.add (((ji20)).toNat * 4)) = some (.string ((rd_T43 l0 (ji20)).f0)) ∧ w'.cell? ⟨(ad161.add (((ji20)).toNat * 4)).block, (ad161.add (((ji20)).toNat * 4)).off + 1, none⟩ = some (.string ((rd_T43 l0 (ji20)).f1)) ∧ w'.cell? ⟨(ad161.add (((ji20)).toNat * 4)).block, (ad161.add (((ji20)).toNat * 4)).off + 2, none⟩ = some (.int .i64 ((rd_T43 l0 (ji20)).f2)) ∧ w'.cell? ⟨(ad161.add (((ji20)).toNat * 4)).block, (ad161.add (((ji20)).toNat * 4)).off + 3, none⟩ = some (.int .i64 ((rd_T43 l0 (ji20)).f3))) (ds := []) (lb 25 0) (by kernel_rfl) rfl rfl ⟨(blk_cell BK162.out 0).trans rfl, (blk_cell BK162.out 1).trans rfl, (blk_cell BK162.out 2).trans rfl, (blk_cell BK162.out 3).trans rfl, (hk_ HB.out hw164_0), (hk_ HB.out hw164_1), (hk_ HB.out hw164_2), (hk_ HB.out hw164_3)⟩ (fun hHeld => ?_); refine with_tabW snap_Valid.tab14 snap_Valid.bits14 (fun HT_ HW_ => ?_)
      generalize w27.drew = w28 at BK162 HB hx164_0 hx164_1 hx164_2 hx164_3 hHeld ⊢
      refine pv_ 0 30 (lb 25 1) HT_.out ?_
      refine pv_ 1 31 (lb 25 3) HT_.out ?_
      refine pv_ 2 32 (lb 25 7) HT_.out ?_
      refine pv_ 3 33 (lb 25 15) HT_.out ?_
      refine pv_ 4 34 (lb 25 31) HT_.out ?_
      refine pv_ 5 35 (lb 25 63) HT_.out ?_
      refine pv_ 6 36 (lb 25 127) HT_.out ?_
      refine pv_ 7 37 (lb 25 255) HT_.out ?_
      refine pv_ 9 39 (lb 25 767) HT_.out ?_
      refine tk_ 8 38 (lb 25 1023) HT_.out HW_.out hHeld ?_
      refine tk_ 10 40 (lb 25 2047) HT_.out HW_.out hHeld ?_
      refine one_ (i := 11) (N := some 41) (lb 25 4095) rfl rfl (one_of HT_.out (by kernel_rfl)) (by decide) (fun K hK => ?_)
      refine goes_ Tryz.func24 (by kernel_rfl) rfl #[.string ((rd_T43 l0 (ji20)).f0), .string ((rd_T43 l0 x22_2).f0)] (by rfl) rfl rfl (by (try simp only [List.map_toArray, List.map_cons, List.map_nil]); first | done | (simp only [hji20]; rfl) | rfl | (simp only [List.length_drop, List.length_take]; rfl)) ?_
      with_reducible refine (path_Cmp.calls k2 ((rd_T43 l0 (ji20)).f0) ((rd_T43 l0 x22_2).f0) t165 _ A23.out).mono ?_
      rintro e w29 ⟨rfl, hb⟩
      refine ⟨_, rfl, ?_⟩
      have n0_ := Aside0.mk (blk_below (g := gb162) (o := .cells #[.string ((rd_T43 l0 x22_2).f0), .string ((rd_T43 l0 x22_2).f1), .int .i64 ((rd_T43 l0 x22_2).f2), .int .i64 ((rd_T43 l0 x22_2).f3)] 43 (0, 0)) (ub_ BK162.out) hb)
      have n1_ := Aside0.mk (below_step (bes_ GE162.out) hb)
      clear BK162
      clear HB
      have BK162 := n0_
      have HB := n1_
      clear n0_ n1_
      (try clear hb)
      (try clear hb2)
      (try clear hk)
      (try clear hi)
      refine hK.out _ _ ⟨(blk_cell BK162.out 0).trans rfl, (blk_cell BK162.out 1).trans rfl, (blk_cell BK162.out 2).trans rfl, (blk_cell BK162.out 3).trans rfl, (hk_ HB.out hw164_0), (hk_ HB.out hw164_1), (hk_ HB.out hw164_2), (hk_ HB.out hw164_3)⟩ (fun hHeld => ?_)
      clear hK K
      refine norm_ (a' := ?_) ?_ ?_
      rotate_left
      ·show Act.put _ (some 41) _ = _
       simp only [Act.put, List.setIfInBounds_toArray, List.set_cons_zero, List.set_cons_succ, i64_w, i32_w]
       rfl
      refine pv_ 12 42 (lb 25 8191) HT_.out ?_
      refine pv_ 13 43 (lb 25 16383) HT_.out ?_
      refine pg_ 14 44 (lb 25 32767) HT_.out ?_
      refine pg_ 15 45 (lb 25 65535) HT_.out ?_
      refine pg_ 16 46 (lb 25 131071) HT_.out ?_
      refine pg_ 17 47 (lb 25 262143) HT_.out ?_
      refine pg_ 18 48 (lb 25 524287) HT_.out ?_
      refine pg_ 19 49 (lb 25 1048575) HT_.out ?_
      refine pg_ 20 50 (lb 25 2097151) HT_.out ?_
      refine pg_ 21 51 (lb 25 4194303) HT_.out ?_
      refine pg_ 22 52 (lb 25 8388607) HT_.out ?_
      refine pv_ 23 53 (lb 25 16777215) HT_.out ?_
      refine pv_ 24 54 (lb 25 33554431) HT_.out ?_
      refine done_ (done_of HT_.out (by kernel_rfl)) ?_
      try go_wp2
      go_ret
      exact ⟨by first | rfl | (simp [errW_none, errW_some] <;> rfl) | (simp only [← hji20]; first | rfl | (simp [errW_none, errW_some] <;> rfl)) | (simp [*, errW_none, errW_some] <;> rfl), bes_ GE162.out⟩
     rw [if_neg c24] at H
     have c24b0 := decide_eq_false c24
     clear c24
     replace H := Option.bind_eq_some_iff.mp H
     obtain ⟨t167, A300, H⟩ := H
     try dsimp only at H
     have A30 := Aside0.mk A300
     clear A300
     by_cases c31 : t167 = true
     ·subst c31
      rw [if_pos rfl] at H
      have H1 := H
      clear H
      have H := H1
      clear H1
      obtain rfl := Option.some.inj H
      have p161 : 0 ≤ (x22_2 : Int) := of_decide_eq_true (by assumption)
      have q161 : x22_2 < (l0.length : Int) := of_decide_eq_true (by assumption)
      obtain ⟨ad161, e161, hx161_0, hx161_1, hx161_2, hx161_3⟩ := at_T43 HR0.out x22_2 p161 q161
      cases e161
      replace hx161_0 := hk_ HB.out hx161_0
      replace hx161_1 := hk_ HB.out hx161_1
      replace hx161_2 := hk_ HB.out hx161_2
      replace hx161_3 := hk_ HB.out hx161_3
      replace p161 := eq_true p161
      replace q161 := eq_true q161
      try go_wp2_with (first | ((with_reducible refine gate_dst (N := 6) rfl ?_); refine box_event ?hg (N := 6) ?hd (cs := #[.string (⟨#[]⟩ : ByteArray), .string (⟨#[]⟩ : ByteArray), .int .i64 0, .int .i64 0]) (t := 43) ?hr ?_; (case hd => rfl); (case hg => rfl); (case hr => first | (go_simp; done) | (go_simp; rfl)); intro gb162 hg w32 hbox hb; have n0_ := Aside0.mk (below_step (bel_) hb); have n1_ := Aside0.mk (hbox); have n2_ := Aside0.mk ((by rw [hg]; exact (below_size (bel_)) : w.heap.size ≤ gb162)); have n3_ := Aside0.mk ((by rw [hg]; exact (below_size (bel_)) : w.heap.size ≤ gb162)); clear HB; have HB := n0_; have BK162 := n1_; have GW162 := n2_; have GE162 := n3_; clear n0_ n1_ n2_ n3_; clear hb hbox hg; have hcz33_0 : w32.cell? ⟨gb162, 0, none⟩ = some (.string (⟨#[]⟩ : ByteArray)) := (blk_cell BK162.out 0).trans rfl; have hcz33_1 : w32.cell? ⟨gb162, 1, none⟩ = some (.string (⟨#[]⟩ : ByteArray)) := (blk_cell BK162.out 1).trans rfl; have hcz33_2 : w32.cell? ⟨gb162, 2, none⟩ = some (.int .i64 0) := (blk_cell BK162.out 2).trans rfl; have hcz33_3 : w32.cell? ⟨gb162, 3, none⟩ = some (.int .i64 0) := (blk_cell BK162.out 3).trans rfl; have hfz33_0 := blk_frozen BK162.out 0; have hfz33_1 := blk_frozen BK162.out 1; have hfz33_2 := blk_frozen BK162.out 2; have hfz33_3 := blk_frozen BK162.out 3) | ((with_reducible refine gate_callee (f := 54) rfl ?_); refine goesL_ (some 28) rfl rfl Tryz.func54 (by kernel_rfl) rfl #[.agg #[.string ((rd_T43 l0 x22_2).f0), .string ((rd_T43 l0 x22_2).f1), .int .i64 ((rd_T43 l0 x22_2).f2), .int .i64 ((rd_T43 l0 x22_2).f3)]] rfl (mp_) ?_; (with_reducible refine (snap_File.calls k2 ((rd_T43 l0 x22_2).f0) ((rd_T43 l0 x22_2).f1) ((rd_T43 l0 x22_2).f2) ((rd_T43 l0 x22_2).f3) t163 _ A17.out).mono ?_); rintro e w34 ⟨rfl, hb⟩; refine ⟨_, rfl, ?_⟩; have n0_ := Aside0.mk (blk_below (g := gb162) (o := .cells #[.string ((rd_T43 l0 x22_2).f0), .string ((rd_T43 l0 x22_2).f1), .int .i64 ((rd_T43 l0 x22_2).f2), .int .i64 ((rd_T43 l0 x22_2).f3)] 43 (0, 0)) (by refine ub_ ?_; refine blk_put (cs := #[.string ((rd_T43 l0 x22_2).f0), .string ((rd_T43 l0 x22_2).f1), .int .i64 ((rd_T43 l0 x22_2).f2), .int .i64 0]) ?_ 3 _ rfl; refine ub_ ?_; refine blk_put (cs := #[.string ((rd_T43 l0 x22_2).f0), .string ((rd_T43 l0 x22_2).f1), .int .i64 0, .int .i64 0]) ?_ 2 _ rfl; refine ub_ ?_; refine blk_put (cs := #[.string ((rd_T43 l0 x22_2).f0), .string (⟨#[]⟩ : ByteArray), .int .i64 0, .int .i64 0]) ?_ 1 _ rfl; refine ub_ ?_; refine blk_put (cs := #[.string (⟨#[]⟩ : ByteArray), .string (⟨#[]⟩ : ByteArray), .int .i64 0, .int .i64 0]) ?_ 0 _ rfl; refine ub_ ?_; exact BK162.out) hb); have n1_ := Aside0.mk (below_step (bes_ GE162.out) hb); clear BK162; clear HB; have BK162 := n0_; have HB := n1_; clear n0_ n1_; (try clear hb); (try clear hb2); (try clear hk); (try clear hi)))
      have n0_ := Aside0.mk (blk_drew BK162.out)
      have n1_ := Aside0.mk (below_drew1 HB.out)
      clear BK162
      clear HB
      have BK162 := n0_
      have HB := n1_
      clear n0_ n1_
      have p164 : 0 ≤ ((ji20) : Int) := of_decide_eq_true (by assumption)
      have q164 : (ji20) < (l0.length : Int) := of_decide_eq_true (by assumption)
      obtain ⟨ad164, e164, hx164_0, hx164_1, hx164_2, hx164_3⟩ := at_T43 HR0.out (ji20) p164 q164
      have hw164_3 := hx164_3
      have hw164_2 := hx164_2
      have hw164_1 := hx164_1
      have hw164_0 := hx164_0
      obtain rfl : ad161 = ad164 := (by injection e164)
      replace hx164_0 := hk_ HB.out hx164_0
      replace hx164_1 := hk_ HB.out hx164_1
      replace hx164_2 := hk_ HB.out hx164_2
      replace hx164_3 := hk_ HB.out hx164_3
      replace p164 := eq_true p164
      replace q164 := eq_true q164
      have p166 : 0 ≤ ((ji20) : Int) := of_decide_eq_true (by assumption)
      have q166 : (ji20) < (l0.length : Int) := of_decide_eq_true (by assumption)
      obtain ⟨ad166, e166, hx166_0, hx166_1, hx166_2, hx166_3⟩ := at_T43 HR0.out (ji20) p166 q166
      have hw166_3 := hx166_3
      have hw166_2 := hx166_2
      have hw166_1 := hx166_1
      have hw166_0 := hx166_0
      obtain rfl : ad161 = ad166 := (by injection e166)
      replace hx166_0 := hk_ HB.out hx166_0
      replace hx166_1 := hk_ HB.out hx166_1
      replace hx166_2 := hk_ HB.out hx166_2
      replace hx166_3 := hk_ HB.out hx166_3
      replace p166 := eq_true p166
      replace q166 := eq_true q166
      refine start_ (n := 25) (S := fun w' => w'.cell? ⟨gb162, 0, none⟩ = some (.string ((rd_T43 l0 x22_2).f0)) ∧ w'.cell? ⟨gb162, 1, none⟩ = some (.string ((rd_T43 l0 x22_2).f1)) ∧ w'.cell? ⟨gb162, 2, none⟩ = some (.int .i64 ((rd_T43 l0 x22_2).f2)) ∧ w'.cell? ⟨gb162, 3, none⟩ = some (.int .i64 ((rd_T43 l0 x22_2).f3)) ∧ w'.cell? (ad161.add (((ji20)).toNat * 4)) = some (.string ((rd_T43 l0 (ji20)).f0)) ∧ w'.cell? ⟨(ad161.add (((ji20)).toNat * 4)).block, (ad161.add (((ji20)).toNat * 4)).off + 1, none⟩ = some (.string ((rd_T43 l0 (ji20)).f1)) ∧ w'.cell? ⟨(ad161.add (((ji20)).toNat * 4)).block, (ad161.add (((ji20)).toNat * 4)).off + 2, none⟩ = some (.int .i64 ((rd_T43 l0 (ji20)).f2)) ∧ w'.cell? ⟨(ad161.add (((ji20)).toNat * 4)).block, (ad161.add (((ji20)).toNat * 4)).off + 3, none⟩ = some (.int .i64 ((rd_T43 l0 (ji20)).f3)) ∧ w'.cell? (ad161.add (((ji20)).toNat * 4)) = some (.string ((rd_T43 l0 (ji20)).f0)) ∧ w'.cell? ⟨(ad161.add (((ji20)).toNat * 4)).block, (ad161.add (((ji20)).toNat * 4)).off + 1, none⟩ = some (.string ((rd_T43 l0 (ji20)).f1)) ∧ w'.cell? ⟨(ad161.add (((ji20)).toNat * 4)).block, (ad161.add (((ji20)).toNat * 4)).off + 2, none⟩ = some (.int .i64 ((rd_T43 l0 (ji20)).f2)) ∧ w'.cell? ⟨(ad161.add (((ji20)).toNat * 4)).block, (ad161.add (((ji20)).toNat * 4)).off + 3, none⟩ = some (.int .i64 ((rd_T43 l0 (ji20)).f3))) (ds := []) (lb 25 0) (by kernel_rfl) rfl rfl ⟨(blk_cell BK162.out 0).trans rfl, (blk_cell BK162.out 1).trans rfl, (blk_cell BK162.out 2).trans rfl, (blk_cell BK162.out 3).trans rfl, (hk_ HB.out hw164_0), (hk_ HB.out hw164_1), (hk_ HB.out hw164_2), (hk_ HB.out hw164_3), (hk_ HB.out hw166_0), (hk_ HB.out hw166_1), (hk_ HB.out hw166_2), (hk_ HB.out hw166_3)⟩ (fun hHeld => ?_); refine with_tabW snap_Valid.tab14 snap_Valid.bits14 (fun HT_ HW_ => ?_)
      generalize w34.drew = w35 at BK162 HB hx164_0 hx164_1 hx164_2 hx164_3 hx166_0 hx166_1 hx166_2 hx166_3 hHeld ⊢
      refine pv_ 0 30 (lb 25 1) HT_.out ?_
      refine pv_ 1 31 (lb 25 3) HT_.out ?_
      refine pv_ 2 32 (lb 25 7) HT_.out ?_
      refine pv_ 3 33 (lb 25 15) HT_.out ?_
      refine pv_ 4 34 (lb 25 31) HT_.out ?_
      refine pv_ 5 35 (lb 25 63) HT_.out ?_
      refine pv_ 6 36 (lb 25 127) HT_.out ?_
      refine pv_ 7 37 (lb 25 255) HT_.out ?_
      refine pv_ 9 39 (lb 25 767) HT_.out ?_
      refine tk_ 8 38 (lb 25 1023) HT_.out HW_.out hHeld ?_
      refine tk_ 10 40 (lb 25 2047) HT_.out HW_.out hHeld ?_
      refine one_ (i := 11) (N := some 41) (lb 25 4095) rfl rfl (one_of HT_.out (by kernel_rfl)) (by decide) (fun K hK => ?_)
      refine goes_ Tryz.func24 (by kernel_rfl) rfl #[.string ((rd_T43 l0 (ji20)).f0), .string ((rd_T43 l0 x22_2).f0)] (by rfl) rfl rfl (by (try simp only [List.map_toArray, List.map_cons, List.map_nil]); first | done | (simp only [hji20]; rfl) | rfl | (simp only [List.length_drop, List.length_take]; rfl)) ?_
      with_reducible refine (path_Cmp.calls k2 ((rd_T43 l0 (ji20)).f0) ((rd_T43 l0 x22_2).f0) t165 _ A23.out).mono ?_
      rintro e w36 ⟨rfl, hb⟩
      refine ⟨_, rfl, ?_⟩
      have n0_ := Aside0.mk (blk_below (g := gb162) (o := .cells #[.string ((rd_T43 l0 x22_2).f0), .string ((rd_T43 l0 x22_2).f1), .int .i64 ((rd_T43 l0 x22_2).f2), .int .i64 ((rd_T43 l0 x22_2).f3)] 43 (0, 0)) (ub_ BK162.out) hb)
      have n1_ := Aside0.mk (below_step (bes_ GE162.out) hb)
      clear BK162
      clear HB
      have BK162 := n0_
      have HB := n1_
      clear n0_ n1_
      (try clear hb)
      (try clear hb2)
      (try clear hk)
      (try clear hi)
      refine hK.out _ _ ⟨(blk_cell BK162.out 0).trans rfl, (blk_cell BK162.out 1).trans rfl, (blk_cell BK162.out 2).trans rfl, (blk_cell BK162.out 3).trans rfl, (hk_ HB.out hw164_0), (hk_ HB.out hw164_1), (hk_ HB.out hw164_2), (hk_ HB.out hw164_3), (hk_ HB.out hw166_0), (hk_ HB.out hw166_1), (hk_ HB.out hw166_2), (hk_ HB.out hw166_3)⟩ (fun hHeld => ?_)
      clear hK K
      refine norm_ (a' := ?_) ?_ ?_
      rotate_left
      ·show Act.put _ (some 41) _ = _
       simp only [Act.put, List.setIfInBounds_toArray, List.set_cons_zero, List.set_cons_succ, i64_w, i32_w]
       rfl
      refine pv_ 12 42 (lb 25 8191) HT_.out ?_
      refine pv_ 13 43 (lb 25 16383) HT_.out ?_
      refine pv_ 14 44 (lb 25 32767) HT_.out ?_
      refine pv_ 15 45 (lb 25 65535) HT_.out ?_
      refine pv_ 16 46 (lb 25 131071) HT_.out ?_
      refine pv_ 17 47 (lb 25 262143) HT_.out ?_
      refine pv_ 18 48 (lb 25 524287) HT_.out ?_
      refine pv_ 20 50 (lb 25 1572863) HT_.out ?_
      refine tk_ 19 49 (lb 25 2097151) HT_.out HW_.out hHeld ?_
      refine tk_ 21 51 (lb 25 4194303) HT_.out HW_.out hHeld ?_
      refine one_ (i := 22) (N := some 52) (lb 25 8388607) rfl rfl (one_of HT_.out (by kernel_rfl)) (by decide) (fun K hK => ?_)
      refine goes_ Tryz.func55 (by kernel_rfl) rfl #[.string ((rd_T43 l0 (ji20)).f0), .string ((rd_T43 l0 x22_2).f0)] (by rfl) rfl rfl (by (try simp only [List.map_toArray, List.map_cons, List.map_nil]); first | done | (simp only [hji20]; rfl) | rfl | (simp only [List.length_drop, List.length_take]; rfl)) ?_
      with_reducible refine (path_Above.calls k2 ((rd_T43 l0 (ji20)).f0) ((rd_T43 l0 x22_2).f0) true _ A30.out).mono ?_
      rintro e w37 ⟨rfl, hb⟩
      refine ⟨_, rfl, ?_⟩
      have n0_ := Aside0.mk (blk_below (g := gb162) (o := .cells #[.string ((rd_T43 l0 x22_2).f0), .string ((rd_T43 l0 x22_2).f1), .int .i64 ((rd_T43 l0 x22_2).f2), .int .i64 ((rd_T43 l0 x22_2).f3)] 43 (0, 0)) (ub_ BK162.out) hb)
      have n1_ := Aside0.mk (below_step (bes_ GE162.out) hb)
      clear BK162
      clear HB
      have BK162 := n0_
      have HB := n1_
      clear n0_ n1_
      (try clear hb)
      (try clear hb2)
      (try clear hk)
      (try clear hi)
      refine hK.out _ _ ⟨(blk_cell BK162.out 0).trans rfl, (blk_cell BK162.out 1).trans rfl, (blk_cell BK162.out 2).trans rfl, (blk_cell BK162.out 3).trans rfl, (hk_ HB.out hw164_0), (hk_ HB.out hw164_1), (hk_ HB.out hw164_2), (hk_ HB.out hw164_3), (hk_ HB.out hw166_0), (hk_ HB.out hw166_1), (hk_ HB.out hw166_2), (hk_ HB.out hw166_3)⟩ (fun hHeld => ?_)
      clear hK K
      refine norm_ (a' := ?_) ?_ ?_
      rotate_left
      ·show Act.put _ (some 52) _ = _
       simp only [Act.put, List.setIfInBounds_toArray, List.set_cons_zero, List.set_cons_succ, i64_w, i32_w]
       rfl
      refine pv_ 23 53 (lb 25 16777215) HT_.out ?_
      refine pv_ 24 54 (lb 25 33554431) HT_.out ?_
      refine done_ (done_of HT_.out (by kernel_rfl)) ?_
      try go_wp2
      go_ret
      exact ⟨by first | rfl | (simp [errW_none, errW_some] <;> rfl) | (simp only [← hji20]; first | rfl | (simp [errW_none, errW_some] <;> rfl)) | (simp [*, errW_none, errW_some] <;> rfl), bes_ GE162.out⟩
     replace c31 := Bool.eq_false_iff.mpr c31
     subst c31
     have H1 : (snap_Valid.l1 k2 l0 l0 (l0.length : Int) (wrap64 (x22_2 + 1))) = some r := by rw [if_neg (show ¬ (false = true) by decide)] at H; exact H
     clear H
     have H := H1
     clear H1
     have H' := Aside0.mk H
     clear H
     have p161 : 0 ≤ (x22_2 : Int) := of_decide_eq_true (by assumption)
     have q161 : x22_2 < (l0.length : Int) := of_decide_eq_true (by assumption)
     obtain ⟨ad161, e161, hx161_0, hx161_1, hx161_2, hx161_3⟩ := at_T43 HR0.out x22_2 p161 q161
     cases e161
     replace hx161_0 := hk_ HB.out hx161_0
     replace hx161_1 := hk_ HB.out hx161_1
     replace hx161_2 := hk_ HB.out hx161_2
     replace hx161_3 := hk_ HB.out hx161_3
     replace p161 := eq_true p161
     replace q161 := eq_true q161
     try go_wp2_with (first | ((with_reducible refine gate_dst (N := 6) rfl ?_); refine box_event ?hg (N := 6) ?hd (cs := #[.string (⟨#[]⟩ : ByteArray), .string (⟨#[]⟩ : ByteArray), .int .i64 0, .int .i64 0]) (t := 43) ?hr ?_; (case hd => rfl); (case hg => rfl); (case hr => first | (go_simp; done) | (go_simp; rfl)); intro gb162 hg w38 hbox hb; have n0_ := Aside0.mk (below_step (bel_) hb); have n1_ := Aside0.mk (hbox); have n2_ := Aside0.mk ((by rw [hg]; exact (below_size (bel_)) : w.heap.size ≤ gb162)); have n3_ := Aside0.mk ((by rw [hg]; exact (below_size (bel_)) : w.heap.size ≤ gb162)); clear HB; have HB := n0_; have BK162 := n1_; have GW162 := n2_; have GE162 := n3_; clear n0_ n1_ n2_ n3_; clear hb hbox hg; have hcz39_0 : w38.cell? ⟨gb162, 0, none⟩ = some (.string (⟨#[]⟩ : ByteArray)) := (blk_cell BK162.out 0).trans rfl; have hcz39_1 : w38.cell? ⟨gb162, 1, none⟩ = some (.string (⟨#[]⟩ : ByteArray)) := (blk_cell BK162.out 1).trans rfl; have hcz39_2 : w38.cell? ⟨gb162, 2, none⟩ = some (.int .i64 0) := (blk_cell BK162.out 2).trans rfl; have hcz39_3 : w38.cell? ⟨gb162, 3, none⟩ = some (.int .i64 0) := (blk_cell BK162.out 3).trans rfl; have hfz39_0 := blk_frozen BK162.out 0; have hfz39_1 := blk_frozen BK162.out 1; have hfz39_2 := blk_frozen BK162.out 2; have hfz39_3 := blk_frozen BK162.out 3) | ((with_reducible refine gate_callee (f := 54) rfl ?_); refine goesL_ (some 28) rfl rfl Tryz.func54 (by kernel_rfl) rfl #[.agg #[.string ((rd_T43 l0 x22_2).f0), .string ((rd_T43 l0 x22_2).f1), .int .i64 ((rd_T43 l0 x22_2).f2), .int .i64 ((rd_T43 l0 x22_2).f3)]] rfl (mp_) ?_; (with_reducible refine (snap_File.calls k2 ((rd_T43 l0 x22_2).f0) ((rd_T43 l0 x22_2).f1) ((rd_T43 l0 x22_2).f2) ((rd_T43 l0 x22_2).f3) t163 _ A17.out).mono ?_); rintro e w40 ⟨rfl, hb⟩; refine ⟨_, rfl, ?_⟩; have n0_ := Aside0.mk (blk_below (g := gb162) (o := .cells #[.string ((rd_T43 l0 x22_2).f0), .string ((rd_T43 l0 x22_2).f1), .int .i64 ((rd_T43 l0 x22_2).f2), .int .i64 ((rd_T43 l0 x22_2).f3)] 43 (0, 0)) (by refine ub_ ?_; refine blk_put (cs := #[.string ((rd_T43 l0 x22_2).f0), .string ((rd_T43 l0 x22_2).f1), .int .i64 ((rd_T43 l0 x22_2).f2), .int .i64 0]) ?_ 3 _ rfl; refine ub_ ?_; refine blk_put (cs := #[.string ((rd_T43 l0 x22_2).f0), .string ((rd_T43 l0 x22_2).f1), .int .i64 0, .int .i64 0]) ?_ 2 _ rfl; refine ub_ ?_; refine blk_put (cs := #[.string ((rd_T43 l0 x22_2).f0), .string (⟨#[]⟩ : ByteArray), .int .i64 0, .int .i64 0]) ?_ 1 _ rfl; refine ub_ ?_; refine blk_put (cs := #[.string (⟨#[]⟩ : ByteArray), .string (⟨#[]⟩ : ByteArray), .int .i64 0, .int .i64 0]) ?_ 0 _ rfl; refine ub_ ?_; exact BK162.out) hb); have n1_ := Aside0.mk (below_step (bes_ GE162.out) hb); clear BK162; clear HB; have BK162 := n0_; have HB := n1_; clear n0_ n1_; (try clear hb); (try clear hb2); (try clear hk); (try clear hi)))
     have n0_ := Aside0.mk (blk_drew BK162.out)
     have n1_ := Aside0.mk (below_drew1 HB.out)
     clear BK162
     clear HB
     have BK162 := n0_
     have HB := n1_
     clear n0_ n1_
     have p164 : 0 ≤ ((ji20) : Int) := of_decide_eq_true (by assumption)
     have q164 : (ji20) < (l0.length : Int) := of_decide_eq_true (by assumption)
     obtain ⟨ad164, e164, hx164_0, hx164_1, hx164_2, hx164_3⟩ := at_T43 HR0.out (ji20) p164 q164
     have hw164_3 := hx164_3
     have hw164_2 := hx164_2
     have hw164_1 := hx164_1
     have hw164_0 := hx164_0
     obtain rfl : ad161 = ad164 := (by injection e164)
     replace hx164_0 := hk_ HB.out hx164_0
     replace hx164_1 := hk_ HB.out hx164_1
     replace hx164_2 := hk_ HB.out hx164_2
     replace hx164_3 := hk_ HB.out hx164_3
     replace p164 := eq_true p164
     replace q164 := eq_true q164
     have p166 : 0 ≤ ((ji20) : Int) := of_decide_eq_true (by assumption)
     have q166 : (ji20) < (l0.length : Int) := of_decide_eq_true (by assumption)
     obtain ⟨ad166, e166, hx166_0, hx166_1, hx166_2, hx166_3⟩ := at_T43 HR0.out (ji20) p166 q166
     have hw166_3 := hx166_3
     have hw166_2 := hx166_2
     have hw166_1 := hx166_1
     have hw166_0 := hx166_0
     obtain rfl : ad161 = ad166 := (by injection e166)
     replace hx166_0 := hk_ HB.out hx166_0
     replace hx166_1 := hk_ HB.out hx166_1
     replace hx166_2 := hk_ HB.out hx166_2
     replace hx166_3 := hk_ HB.out hx166_3
     replace p166 := eq_true p166
     replace q166 := eq_true q166
     refine start_ (n := 25) (S := fun w' => w'.cell? ⟨gb162, 0, none⟩ = some (.string ((rd_T43 l0 x22_2).f0)) ∧ w'.cell? ⟨gb162, 1, none⟩ = some (.string ((rd_T43 l0 x22_2).f1)) ∧ w'.cell? ⟨gb162, 2, none⟩ = some (.int .i64 ((rd_T43 l0 x22_2).f2)) ∧ w'.cell? ⟨gb162, 3, none⟩ = some (.int .i64 ((rd_T43 l0 x22_2).f3)) ∧ w'.cell? (ad161.add (((ji20)).toNat * 4)) = some (.string ((rd_T43 l0 (ji20)).f0)) ∧ w'.cell? ⟨(ad161.add (((ji20)).toNat * 4)).block, (ad161.add (((ji20)).toNat * 4)).off + 1, none⟩ = some (.string ((rd_T43 l0 (ji20)).f1)) ∧ w'.cell? ⟨(ad161.add (((ji20)).toNat * 4)).block, (ad161.add (((ji20)).toNat * 4)).off + 2, none⟩ = some (.int .i64 ((rd_T43 l0 (ji20)).f2)) ∧ w'.cell? ⟨(ad161.add (((ji20)).toNat * 4)).block, (ad161.add (((ji20)).toNat * 4)).off + 3, none⟩ = some (.int .i64 ((rd_T43 l0 (ji20)).f3)) ∧ w'.cell? (ad161.add (((ji20)).toNat * 4)) = some (.string ((rd_T43 l0 (ji20)).f0)) ∧ w'.cell? ⟨(ad161.add (((ji20)).toNat * 4)).block, (ad161.add (((ji20)).toNat * 4)).off + 1, none⟩ = some (.string ((rd_T43 l0 (ji20)).f1)) ∧ w'.cell? ⟨(ad161.add (((ji20)).toNat * 4)).block, (ad161.add (((ji20)).toNat * 4)).off + 2, none⟩ = some (.int .i64 ((rd_T43 l0 (ji20)).f2)) ∧ w'.cell? ⟨(ad161.add (((ji20)).toNat * 4)).block, (ad161.add (((ji20)).toNat * 4)).off + 3, none⟩ = some (.int .i64 ((rd_T43 l0 (ji20)).f3))) (ds := []) (lb 25 0) (by kernel_rfl) rfl rfl ⟨(blk_cell BK162.out 0).trans rfl, (blk_cell BK162.out 1).trans rfl, (blk_cell BK162.out 2).trans rfl, (blk_cell BK162.out 3).trans rfl, (hk_ HB.out hw164_0), (hk_ HB.out hw164_1), (hk_ HB.out hw164_2), (hk_ HB.out hw164_3), (hk_ HB.out hw166_0), (hk_ HB.out hw166_1), (hk_ HB.out hw166_2), (hk_ HB.out hw166_3)⟩ (fun hHeld => ?_); refine with_tabW snap_Valid.tab14 snap_Valid.bits14 (fun HT_ HW_ => ?_)
     generalize w40.drew = w41 at BK162 HB hx164_0 hx164_1 hx164_2 hx164_3 hx166_0 hx166_1 hx166_2 hx166_3 hHeld ⊢
     refine pv_ 0 30 (lb 25 1) HT_.out ?_
     refine pv_ 1 31 (lb 25 3) HT_.out ?_
     refine pv_ 2 32 (lb 25 7) HT_.out ?_
     refine pv_ 3 33 (lb 25 15) HT_.out ?_
     refine pv_ 4 34 (lb 25 31) HT_.out ?_
     refine pv_ 5 35 (lb 25 63) HT_.out ?_
     refine pv_ 6 36 (lb 25 127) HT_.out ?_
     refine pv_ 7 37 (lb 25 255) HT_.out ?_
     refine pv_ 9 39 (lb 25 767) HT_.out ?_
     refine tk_ 8 38 (lb 25 1023) HT_.out HW_.out hHeld ?_
     refine tk_ 10 40 (lb 25 2047) HT_.out HW_.out hHeld ?_
     refine one_ (i := 11) (N := some 41) (lb 25 4095) rfl rfl (one_of HT_.out (by kernel_rfl)) (by decide) (fun K hK => ?_)
     refine goes_ Tryz.func24 (by kernel_rfl) rfl #[.string ((rd_T43 l0 (ji20)).f0), .string ((rd_T43 l0 x22_2).f0)] (by rfl) rfl rfl (by (try simp only [List.map_toArray, List.map_cons, List.map_nil]); first | done | (simp only [hji20]; rfl) | rfl | (simp only [List.length_drop, List.length_take]; rfl)) ?_
     with_reducible refine (path_Cmp.calls k2 ((rd_T43 l0 (ji20)).f0) ((rd_T43 l0 x22_2).f0) t165 _ A23.out).mono ?_
     rintro e w42 ⟨rfl, hb⟩
     refine ⟨_, rfl, ?_⟩
     have n0_ := Aside0.mk (blk_below (g := gb162) (o := .cells #[.string ((rd_T43 l0 x22_2).f0), .string ((rd_T43 l0 x22_2).f1), .int .i64 ((rd_T43 l0 x22_2).f2), .int .i64 ((rd_T43 l0 x22_2).f3)] 43 (0, 0)) (ub_ BK162.out) hb)
     have n1_ := Aside0.mk (below_step (bes_ GE162.out) hb)
     clear BK162
     clear HB
     have BK162 := n0_
     have HB := n1_
     clear n0_ n1_
     (try clear hb)
     (try clear hb2)
     (try clear hk)
     (try clear hi)
     refine hK.out _ _ ⟨(blk_cell BK162.out 0).trans rfl, (blk_cell BK162.out 1).trans rfl, (blk_cell BK162.out 2).trans rfl, (blk_cell BK162.out 3).trans rfl, (hk_ HB.out hw164_0), (hk_ HB.out hw164_1), (hk_ HB.out hw164_2), (hk_ HB.out hw164_3), (hk_ HB.out hw166_0), (hk_ HB.out hw166_1), (hk_ HB.out hw166_2), (hk_ HB.out hw166_3)⟩ (fun hHeld => ?_)
     clear hK K
     refine norm_ (a' := ?_) ?_ ?_
     rotate_left
     ·show Act.put _ (some 41) _ = _
      simp only [Act.put, List.setIfInBounds_toArray, List.set_cons_zero, List.set_cons_succ, i64_w, i32_w]
      rfl
     refine pv_ 12 42 (lb 25 8191) HT_.out ?_
     refine pv_ 13 43 (lb 25 16383) HT_.out ?_
     refine pv_ 14 44 (lb 25 32767) HT_.out ?_
     refine pv_ 15 45 (lb 25 65535) HT_.out ?_
     refine pv_ 16 46 (lb 25 131071) HT_.out ?_
     refine pv_ 17 47 (lb 25 262143) HT_.out ?_
     refine pv_ 18 48 (lb 25 524287) HT_.out ?_
     refine pv_ 20 50 (lb 25 1572863) HT_.out ?_
     refine tk_ 19 49 (lb 25 2097151) HT_.out HW_.out hHeld ?_
     refine tk_ 21 51 (lb 25 4194303) HT_.out HW_.out hHeld ?_
     refine one_ (i := 22) (N := some 52) (lb 25 8388607) rfl rfl (one_of HT_.out (by kernel_rfl)) (by decide) (fun K hK => ?_)
     refine goes_ Tryz.func55 (by kernel_rfl) rfl #[.string ((rd_T43 l0 (ji20)).f0), .string ((rd_T43 l0 x22_2).f0)] (by rfl) rfl rfl (by (try simp only [List.map_toArray, List.map_cons, List.map_nil]); first | done | (simp only [hji20]; rfl) | rfl | (simp only [List.length_drop, List.length_take]; rfl)) ?_
     with_reducible refine (path_Above.calls k2 ((rd_T43 l0 (ji20)).f0) ((rd_T43 l0 x22_2).f0) false _ A30.out).mono ?_
     rintro e w43 ⟨rfl, hb⟩
     refine ⟨_, rfl, ?_⟩
     have n0_ := Aside0.mk (blk_below (g := gb162) (o := .cells #[.string ((rd_T43 l0 x22_2).f0), .string ((rd_T43 l0 x22_2).f1), .int .i64 ((rd_T43 l0 x22_2).f2), .int .i64 ((rd_T43 l0 x22_2).f3)] 43 (0, 0)) (ub_ BK162.out) hb)
     have n1_ := Aside0.mk (below_step (bes_ GE162.out) hb)
     clear BK162
     clear HB
     have BK162 := n0_
     have HB := n1_
     clear n0_ n1_
     (try clear hb)
     (try clear hb2)
     (try clear hk)
     (try clear hi)
     refine hK.out _ _ ⟨(blk_cell BK162.out 0).trans rfl, (blk_cell BK162.out 1).trans rfl, (blk_cell BK162.out 2).trans rfl, (blk_cell BK162.out 3).trans rfl, (hk_ HB.out hw164_0), (hk_ HB.out hw164_1), (hk_ HB.out hw164_2), (hk_ HB.out hw164_3), (hk_ HB.out hw166_0), (hk_ HB.out hw166_1), (hk_ HB.out hw166_2), (hk_ HB.out hw166_3)⟩ (fun hHeld => ?_)
     clear hK K
     refine norm_ (a' := ?_) ?_ ?_
     rotate_left
     ·show Act.put _ (some 52) _ = _
      simp only [Act.put, List.setIfInBounds_toArray, List.set_cons_zero, List.set_cons_succ, i64_w, i32_w]
      rfl
     refine pv_ 23 53 (lb 25 16777215) HT_.out ?_
     refine pv_ 24 54 (lb 25 33554431) HT_.out ?_
     refine done_ (done_of HT_.out (by kernel_rfl)) ?_
     try go_wp2
     go_roundg k2
     case measure => have := HK1.out; have := HK2.out; omega
     case rel => exact ⟨(wrap64 (x22_2 + 1)), (rf_), H', ⟨by have := HK1.out; have := HK2.out; omega⟩, ⟨bes_ GE162.out⟩⟩
open Go.Proofs.YtehfogjibhnabaaGreatDoor.Sp
theorem comL_prefix : ∀ l m : List ByteArray, comL l m = l.length ↔ l <+: m
 | [], m => by simp [comL]
 | x :: l, [] => by simp [comL]
 | x :: l, y :: m => by
  by_cases h : x = y
  ·subst h
   rw [comL_same, List.length_cons, List.cons_prefix_cons]
   have := comL_prefix l m
   constructor
   ·intro e; exact ⟨rfl, this.1 (by omega)⟩
   ·rintro ⟨_, e⟩; rw [this.2 e]
  ·rw [comL_diff h, List.cons_prefix_cons]
   simp [h]
theorem above_iff (a b : ByteArray) : aboveB a b = true ↔ pB a <+: pB b ∧ (pB a).length < (pB b).length := by
 unfold aboveB
 rw [Bool.and_eq_true, decide_eq_true_eq, decide_eq_true_eq, comL_prefix, and_comm]
theorem pre_lt : ∀ A B : List Str, A <+: B → A.length < B.length → cmpL A B < 0
 | [], _ :: _, _, _ => by simp [cmpL]
 | _, [], _, h => by simp at h
 | x :: A, y :: B, h, hl => by
  obtain ⟨e, hp⟩ := List.cons_prefix_cons.1 h
  subst e
  simp only [cmpL, if_true]
  exact pre_lt A B hp (by simpa using hl)
theorem pre_between : ∀ A B C : List Str, A <+: B → cmpL A C < 0 → cmpL C B < 0 → A <+: C
 | [], _, _, _, _, _ => List.nil_prefix
 | _ :: _, [], _, h, _, _ => by simp at h
 | _ :: _, _ :: _, [], _, h, _ => by simp [cmpL] at h
 | x :: A, y :: B, z :: C, h, h1, h2 => by
  obtain ⟨e, hp⟩ := List.cons_prefix_cons.1 h
  subst e
  by_cases e : x = z
  ·subst e
   simp only [cmpL, if_true] at h1 h2
   exact List.cons_prefix_cons.2 ⟨rfl, pre_between A B C hp h1 h2⟩
  ·simp only [cmpL, if_neg e, if_neg (Ne.symm e)] at h1 h2
   have := cmpS_neg x z
   omega
theorem pB_map_prefix {a b : ByteArray} : pB a <+: pB b ↔ pcs (bs a) <+: pcs (bs b) := by
 rw [← pB_bs a, ← pB_bs b]
 constructor
 ·rintro ⟨t, h⟩; exact ⟨t.map bs, by rw [← h, List.map_append]⟩
 intro h
 have := h.map mk
 rwa [List.map_map, List.map_map, show mk ∘ bs = id from funext mk_bs, List.map_id, List.map_id] at this
theorem pB_len (a : ByteArray) : (pB a).length = (pcs (bs a)).length := by rw [← pB_bs a, List.length_map]
theorem above_lt {a b : ByteArray} (h : aboveB a b = true) : cB a b < 0 := by
 obtain ⟨h1, h2⟩ := (above_iff a b).1 h
 rw [pB_len, pB_len] at h2
 exact pre_lt _ _ (pB_map_prefix.1 h1) h2
theorem above_self (a : ByteArray) : aboveB a a = false := by
 rw [← Bool.not_eq_true]
 intro h; have := above_lt h; rw [cB_self] at this; omega
theorem above_trans {a b c : ByteArray} (h : aboveB a b = true) (k : aboveB b c = true) : aboveB a c = true := by
 rw [above_iff] at *
 exact ⟨h.1.trans k.1, Nat.lt_trans h.2 k.2⟩
theorem above_between {a b c : ByteArray} (h : aboveB a b = true) (h1 : cB a c < 0) (h2 : cB c b < 0) : aboveB a c = true := by
 rw [above_iff] at *
 have hp := pre_between _ _ _ (pB_map_prefix.1 h.1) h1 h2
 refine ⟨pB_map_prefix.2 hp, ?_⟩
 rcases Nat.lt_or_ge (pB a).length (pB c).length with hl | hl
 ·exact hl
 exfalso
 rw [pB_len, pB_len] at hl
 have e := hp.eq_of_length_le hl
 have : cB a c = 0 := by show cmpL _ _ = 0; rw [e, cmpL_self]
 omega
def isHead (l : List ByteArray) (x : ByteArray) : Bool := l.all fun y => !aboveB y x
theorem isHead_iff {l : List ByteArray} {x : ByteArray} : isHead l x = true ↔ ∀ y ∈ l, aboveB y x = false := by
 unfold isHead
 rw [List.all_eq_true]
 simp
def stepH (out : List ByteArray) (p : ByteArray) : List ByteArray := if out.length = 0 then out ++ [p] else if aboveB (out.getD (out.length - 1) ByteArray.empty) p = true then out else out ++ [p]
structure HeadsOf (n1 out : List ByteArray) : Prop where
 rises : Rises out
 mem : ∀ p, p ∈ out ↔ p ∈ n1 ∧ isHead n1 p = true
 cover : ∀ y ∈ n1, ∃ h ∈ out, h = y ∨ aboveB h y = true
theorem last_mem {out : List ByteArray} (h : out.length ≠ 0) : out.getD (out.length - 1) ByteArray.empty ∈ out := by
 rw [List.getD_eq_getElem?_getD, List.getElem?_eq_getElem (by omega), Option.getD_some]; exact List.getElem_mem _
theorem le_last {out : List ByteArray} (hr : Rises out) (_h : out.length ≠ 0) {z : ByteArray} (hz : z ∈ out) : z = out.getD (out.length - 1) ByteArray.empty ∨ cB z (out.getD (out.length - 1) ByteArray.empty) < 0 := by
 obtain ⟨i, hi, rfl⟩ := List.getElem_of_mem hz
 rw [List.getD_eq_getElem?_getD, List.getElem?_eq_getElem (by omega), Option.getD_some]
 by_cases e : i = out.length - 1
 ·left; subst e; rfl
 right; exact List.pairwise_iff_getElem.1 hr i (out.length - 1) hi (by omega) (by omega)
theorem HeadsOf.step {n1 out : List ByteArray} (h : HeadsOf n1 out) (p : ByteArray) (hp : ∀ y ∈ n1, cB y p < 0) : HeadsOf (n1 ++ [p]) (stepH out p) := by
 have back : ∀ q ∈ n1, (isHead (n1 ++ [p]) q = true ↔ isHead n1 q = true) := fun q hq => by
  rw [isHead_iff, isHead_iff]
  constructor
  ·intro k y hy; exact k y (List.mem_append_left _ hy)
  intro k y hy
  rcases List.mem_append.1 hy with hy | hy
  ·exact k y hy
  rw [List.mem_singleton.1 hy, ← Bool.not_eq_true]
  intro e; have h1 := above_lt e; have h2 := hp q hq; have := cB_neg p q; omega
 have keep : (∃ y ∈ n1, aboveB y p = true) → out.length ≠ 0 ∧ aboveB (out.getD (out.length - 1) ByteArray.empty) p = true := by
  rintro ⟨y, hy, hyp⟩
  obtain ⟨g, hg, hgy⟩ := h.cover y hy
  have hgp : aboveB g p = true := by
   rcases hgy with rfl | hgy
   ·exact hyp
   exact above_trans hgy hyp
  have hne : out.length ≠ 0 := fun e => by rw [List.eq_nil_of_length_eq_zero e] at hg; cases hg
  refine ⟨hne, ?_⟩
  rcases le_last h.rises hne hg with e | hlt
  ·rw [← e]; exact hgp
  have hz := (h.mem _).1 (last_mem hne)
  have := above_between hgp hlt (hp _ hz.1)
  have k := isHead_iff.1 hz.2 g ((h.mem g).1 hg).1
  rw [this] at k; cases k
 by_cases c : ∃ y ∈ n1, aboveB y p = true
 ·obtain ⟨h1, h2⟩ := keep c
  have e : stepH out p = out := by unfold stepH; rw [if_neg h1, if_pos h2]
  rw [e]
  refine ⟨h.rises, fun q => ?_, fun y hy => ?_⟩
  rotate_left
  ·rcases List.mem_append.1 hy with hy | hy
   ·exact h.cover y hy
   rw [List.mem_singleton.1 hy]; exact ⟨_, last_mem h1, .inr h2⟩
  rw [h.mem]
  constructor
  ·rintro ⟨hq, hh⟩; exact ⟨List.mem_append_left _ hq, (back q hq).2 hh⟩
  rintro ⟨hq, hh⟩
  rcases List.mem_append.1 hq with hq | hq
  ·exact ⟨hq, (back q hq).1 hh⟩
  rw [List.mem_singleton.1 hq] at hh
  obtain ⟨y, hy, hyp⟩ := c
  have := isHead_iff.1 hh y (List.mem_append_left _ hy)
  rw [hyp] at this; cases this
 have hnot : ∀ y ∈ n1, aboveB y p = false := fun y hy => by rw [← Bool.not_eq_true]; exact fun e => c ⟨y, hy, e⟩
 have e : stepH out p = out ++ [p] := by
  unfold stepH
  by_cases h0 : out.length = 0
  ·rw [if_pos h0]
  rw [if_neg h0, if_neg (by rw [hnot _ ((h.mem _).1 (last_mem h0)).1]; decide)]
 rw [e]
 refine ⟨List.pairwise_append.2 ⟨h.rises, List.pairwise_singleton _ _, fun a ha b hb => by rw [List.mem_singleton.1 hb]; exact hp a ((h.mem a).1 ha).1⟩, fun q => ?_, fun y hy => ?_⟩
 rotate_left
 ·rcases List.mem_append.1 hy with hy | hy
  ·obtain ⟨g, hg, hgy⟩ := h.cover y hy
   exact ⟨g, List.mem_append_left _ hg, hgy⟩
  exact ⟨p, by simp, .inl (List.mem_singleton.1 hy).symm⟩
 rw [List.mem_append, List.mem_append, h.mem, List.mem_singleton]
 constructor
 ·rintro (⟨hq, hh⟩ | rfl)
  ·exact ⟨.inl hq, (back q hq).2 hh⟩
  refine ⟨.inr rfl, isHead_iff.2 fun y hy => ?_⟩
  rcases List.mem_append.1 hy with hy | hy
  ·exact hnot y hy
  rw [List.mem_singleton.1 hy]; exact above_self q
 rintro ⟨hq | rfl, hh⟩
 ·exact .inl ⟨hq, (back q hq).1 hh⟩
 exact .inr rfl
def chainR {α : Type} (ok : α → Bool) (key : α → ByteArray) : Option ByteArray → List α → Bool
 | _, [] => true
 | none, x :: r => ok x && chainR ok key (some (key x)) r
 | some y, x :: r => ok x && (decide (cB y (key x) < 0) && !aboveB y (key x)) && chainR ok key (some (key x)) r
abbrev Apart2 (a b : ByteArray) : Prop := cB a b < 0 ∧ aboveB a b = false
theorem apart_next {y x z : ByteArray} (h : Apart2 y x) (k : Apart2 x z) : Apart2 y z := by
 refine ⟨cB_trans h.1 k.1, ?_⟩
 cases e : aboveB y z with
 | false => rfl
 | true => exact absurd (above_between e h.1 k.1) (by rw [h.2]; simp)
theorem chain_all {α : Type} (ok : α → Bool) (key : α → ByteArray) : ∀ (l : List α) (o : Option ByteArray), chainR ok key o l = true ↔ (∀ x ∈ l, ok x = true) ∧ l.Pairwise (fun a b => Apart2 (key a) (key b)) ∧ (∀ y, o = some y → ∀ x ∈ l, Apart2 y (key x))
 | [], o => by cases o <;> simp [chainR]
 | x :: r, o => by
  have ih := chain_all ok key r (some (key x))
  have core : ∀ (hx : ok x = true), chainR ok key (some (key x)) r = true ↔ (∀ z ∈ x :: r, ok z = true) ∧ (x :: r).Pairwise (fun a b => Apart2 (key a) (key b)) := fun hx => by
   rw [ih, List.pairwise_cons]
   constructor
   ·rintro ⟨h1, h2, h3⟩
    exact ⟨fun z hz => by rcases List.mem_cons.1 hz with rfl | hz; exact hx; exact h1 z hz, fun z hz => h3 _ rfl z hz, h2⟩
   ·rintro ⟨h1, h2, h3⟩
    exact ⟨fun z hz => h1 z (List.mem_cons_of_mem _ hz), h3, fun y e z hz => by cases e; exact h2 z hz⟩
  cases o with
  | none =>
   simp only [chainR, Bool.and_eq_true]
   constructor
   ·rintro ⟨hx, h⟩
    obtain ⟨h1, h2⟩ := (core hx).1 h
    exact ⟨h1, h2, fun y e => by cases e⟩
   ·rintro ⟨h1, h2, _⟩
    have hx := h1 x List.mem_cons_self
    exact ⟨hx, (core hx).2 ⟨h1, h2⟩⟩
  | some y =>
   simp only [chainR, Bool.and_eq_true, decide_eq_true_eq, Bool.not_eq_true']
   constructor
   ·rintro ⟨⟨hx, hy⟩, h⟩
    obtain ⟨h1, h2⟩ := (core hx).1 h
    refine ⟨h1, h2, fun y' e z hz => ?_⟩
    cases e
    rcases List.mem_cons.1 hz with rfl | hz
    ·exact hy
    ·exact apart_next hy ((List.pairwise_cons.1 h2).1 z hz)
   ·rintro ⟨h1, h2, h3⟩
    have hx := h1 x List.mem_cons_self
    exact ⟨⟨hx, h3 y rfl x List.mem_cons_self⟩, (core hx).2 ⟨h1, h2⟩⟩
abbrev FitsF (l : List S43) : Prop := ∀ f ∈ l, f.f0.size ≤ 1073741824 ∧ f.f1.size ≤ 1073741824
theorem rdF_mem (l : List S43) (i : Nat) (h : i < l.length) : rd_T43 l (i : Int) ∈ l := by
 simp only [rd_T43, Int.toNat_natCast, List.getD_eq_getElem?_getD, List.getElem?_eq_getElem h, Option.getD_some]; exact List.getElem_mem _
theorem rdF_drop (l : List S43) (i : Nat) (h : i < l.length) : l.drop i = rd_T43 l (i : Int) :: l.drop (i + 1) := by
 rw [List.drop_eq_getElem_cons h]
 congr 1
 simp [rd_T43, List.getD_eq_getElem?_getD, List.getElem?_eq_getElem h]
def placedB (f : S43) : Bool := !(bs f.f0 == []) && validB f.f0
def baseB (a : ByteArray) : ByteArray := a.extract (lastS (bs a) + 1).toNat a.size
def fileR (f : S43) : Bool := if bs (baseB f.f0) = [84, 65, 82, 71, 69, 84, 83] then decide (f.f2 = 0) && decide (f.f3 = (f.f1.size : Int)) else decide (bs f.f1 = []) && decide (0 ≤ f.f2) && decide (f.f2 ≤ 1152921504606846976) && decide (0 ≤ f.f3) && decide (f.f3 ≤ 4611686018427387904)
theorem prog_base (a : ByteArray) (ha : a.size ≤ 4294967296) : Ev (fun k => path_Base.f k a) (baseB a) := by
 have hb := lastS_bd (bs a)
 rw [bs_size] at hb
 refine Ev.bind (prog_last a ha) (ev_pure fun k => ?_)
 rw [wrap_add (by omega) (by omega), if_pos (by omega), if_pos (by omega)]; rfl
theorem placed_ev (f : S43) (h : f.f0.size ≤ 1073741824) : Ev (fun k => snap_placed.f k f.f0 f.f1 f.f2 f.f3) (placedB f) := by
 unfold snap_placed.f placedB
 simp only [toList_bs]
 by_cases c : bs f.f0 = []
 ·simp only [c, if_true]; exact Ev.val (ev_some false) (by simp)
 simp only [if_neg c]; exact Ev.val (Ev.bind (prog_valid f.f0 (by omega)) (ev_some _)) (by simp [c])
theorem file_ev (f : S43) (h : f.f0.size ≤ 1073741824) : Ev (fun k => snap_File.f k f.f0 f.f1 f.f2 f.f3) (if placedB f = true then (if fileR f = true then 0 else 8) else 7) := by
 have hj : ∀ b : Bool, Ev (fun k => snap_File.j0 k b) (if b = true then 8 else 0) := fun b => ⟨1, fun k hk => by
  obtain ⟨k, rfl⟩ : ∃ m, k = m + 1 := ⟨k - 1, by omega⟩
  cases b <;> simp [snap_File.j0]⟩
 unfold snap_File.f fileR
 refine Ev.bind (placed_ev f h) ?_
 cases placedB f with
 | false => simp only [Bool.false_eq_true, if_false]; exact ev_some _
 | true =>
  simp only [if_true]
  refine Ev.bind (prog_base f.f0 (by omega)) ?_
  simp only [toList_bs]
  by_cases c : bs (baseB f.f0) = [84, 65, 82, 71, 69, 84, 83]
  ·simp only [if_pos c]
   by_cases c2 : f.f2 = 0
   rotate_left
   ·simp only [if_neg c2]; exact Ev.val (hj true) (by simp [c2])
   simp only [if_pos c2]
   refine Ev.val (hj _) ?_
   by_cases c3 : f.f3 = (f.f1.size : Int)
   ·rw [c3]; simp [c2]
   have e : (f.f3 != (f.f1.size : Int)) = true := bne_iff_ne.mpr c3
   rw [e]; simp [c3]
  simp only [if_neg c]
  by_cases c1 : bs f.f1 = []
  rotate_left
  ·simp only [if_neg c1]; exact Ev.val (ev_some 8) (by simp [c1])
  simp only [if_pos c1]
  by_cases d1 : f.f2 < 0
  ·simp only [if_pos d1]; exact Ev.val (ev_some 8) (by simp [show ¬ 0 ≤ f.f2 by omega])
  simp only [if_neg d1]
  by_cases d2 : f.f2 > 1152921504606846976
  ·simp only [if_pos d2]; exact Ev.val (ev_some 8) (by simp [show ¬ f.f2 ≤ 1152921504606846976 by omega])
  simp only [if_neg d2]
  by_cases d3 : f.f3 < 0
  ·simp only [if_pos d3]; exact Ev.val (ev_some 8) (by simp [show ¬ 0 ≤ f.f3 by omega])
  simp only [if_neg d3]
  by_cases d4 : f.f3 > 4611686018427387904
  ·simp only [if_pos d4]; exact Ev.val (ev_some 8) (by simp [show ¬ f.f3 ≤ 4611686018427387904 by omega])
  simp only [if_neg d4]; exact Ev.val (ev_some 0) (by simp [c1, show 0 ≤ f.f2 by omega, show f.f2 ≤ 1152921504606846976 by omega, show 0 ≤ f.f3 by omega, show f.f3 ≤ 4611686018427387904 by omega])
def snapV (l : List S43) : Int := if l.all placedB = true then (if l.length > 512 then 8 else if chainR fileR S43.f0 none l = true then 0 else 8) else 7
def beforeF (x : List S43) (i : Nat) : Option ByteArray := if i = 0 then none else some (rd_T43 x ((i - 1 : Nat) : Int)).f0
theorem snap_l1 (x : List S43) (hx : x.length ≤ 1073741824) (hf : FitsF x) (hp : x.all placedB = true) (d : Nat) : ∀ i, x.length - i = d → i ≤ x.length → Ev (fun k => snap_Valid.l1 k x x (x.length : Int) (i : Int)) (if chainR fileR S43.f0 (beforeF x i) (x.drop i) = true then 0 else 8) := by
 induction d with
 | zero =>
  intro i hd hi
  refine ⟨1, fun k hk => ?_⟩
  obtain ⟨k, rfl⟩ : ∃ m, k = m + 1 := ⟨k - 1, by omega⟩
  simp only [snap_Valid.l1]
  rw [if_neg (by omega), List.drop_of_length_le (by omega)]
  cases beforeF x i <;> simp [chainR]
 | succ d ih =>
  intro i hd hi
  have hm := rdF_mem x i (by omega)
  have hs := (hf _ hm).1
  obtain ⟨K, hK⟩ := ih (i + 1) (by omega) (by omega)
  obtain ⟨K1, hK1⟩ := file_ev (rd_T43 x (i : Int)) hs
  rw [if_pos (List.all_eq_true.1 hp _ hm)] at hK1
  rw [rdF_drop x i (by omega)]
  have hb : beforeF x (i + 1) = some (rd_T43 x (i : Int)).f0 := by simp [beforeF]
  rw [hb] at hK
  dsimp only at hK hK1
  by_cases h0 : i = 0
  ·subst h0
   refine ⟨max K K1 + 1, fun k hk => ?_⟩
   obtain ⟨k, rfl⟩ : ∃ m, k = m + 1 := ⟨k - 1, by omega⟩
   simp only [snap_Valid.l1]
   rw [if_pos (by omega), if_pos (by omega), if_pos (by omega), hK1 k (by omega), Option.bind_some]
   have h1 := hK k (by omega)
   rw [show beforeF x 0 = none from rfl]
   unfold chainR
   cases fileR (rd_T43 x ((0 : Nat) : Int)) with
   | false => simp
   | true =>
    rw [if_pos rfl, if_pos rfl, if_neg (by omega), wrap_succ (n := x.length) (by omega) (by omega), h1]
    simp
  have hs1 := (hf _ (rdF_mem x (i - 1) (by omega))).1
  obtain ⟨K2, hK2⟩ := prog_cmp (rd_T43 x ((i - 1 : Nat) : Int)).f0 (rd_T43 x (i : Int)).f0 (by omega) (by omega)
  obtain ⟨K3, hK3⟩ := prog_above (rd_T43 x ((i - 1 : Nat) : Int)).f0 (rd_T43 x (i : Int)).f0 (by omega) (by omega)
  dsimp only at hK2 hK3
  refine ⟨max K (max K1 (max K2 K3)) + 1, fun k hk => ?_⟩
  obtain ⟨k, rfl⟩ : ∃ m, k = m + 1 := ⟨k - 1, by omega⟩
  have ew : wrap64 ((i : Int) - 1) = ((i - 1 : Nat) : Int) := by rw [wrap_add (by omega) (by omega)]; omega
  simp only [snap_Valid.l1]
  rw [if_pos (by omega), if_pos (by omega), if_pos (by omega), hK1 k (by omega), Option.bind_some, ew]
  have h1 := hK k (by omega)
  rw [show beforeF x i = some (rd_T43 x ((i - 1 : Nat) : Int)).f0 from by simp [beforeF, h0]]
  unfold chainR
  cases fileR (rd_T43 x (i : Int)) with
  | false => simp
  | true =>
   rw [if_pos rfl, if_pos rfl, if_pos (by omega), if_pos (by omega), if_pos (by omega), hK2 k (by omega), Option.bind_some]
   by_cases c1 : cB (rd_T43 x ((i - 1 : Nat) : Int)).f0 (rd_T43 x (i : Int)).f0 < 0
   rotate_left
   ·rw [if_pos (by omega)]
    simp [c1]
   rw [if_neg (by omega), hK3 k (by omega), Option.bind_some]
   cases c2 : aboveB (rd_T43 x ((i - 1 : Nat) : Int)).f0 (rd_T43 x (i : Int)).f0 with
   | true => simp
   | false =>
    rw [if_neg (by simp), wrap_succ (n := x.length) (by omega) (by omega), h1]
    simp [c1]
theorem snap_l0 (x : List S43) (hx : x.length ≤ 1073741824) (hf : FitsF x) (d : Nat) : ∀ i, x.length - i = d → i ≤ x.length → (∀ f ∈ x.take i, placedB f = true) → Ev (fun k => snap_Valid.l0 k x x (x.length : Int) (i : Int)) (snapV x) := by
 induction d with
 | zero =>
  intro i hd hi hp
  rw [List.take_of_length_le (by omega)] at hp
  have ha : x.all placedB = true := List.all_eq_true.2 hp
  obtain ⟨K, hK⟩ := snap_l1 x hx hf ha x.length 0 (by omega) (by omega)
  dsimp only at hK
  refine ⟨K + 1, fun k hk => ?_⟩
  obtain ⟨k, rfl⟩ : ∃ m, k = m + 1 := ⟨k - 1, by omega⟩
  simp only [snap_Valid.l0]
  unfold snapV
  rw [if_neg (by omega), if_pos ha]
  by_cases c : x.length > 512
  ·rw [if_pos (by omega), if_pos c]
  rw [if_neg (by omega), if_neg c]
  have := hK k (by omega)
  rw [show beforeF x 0 = none from rfl, List.drop_zero] at this
  exact this
 | succ d ih =>
  intro i hd hi hp
  have hm := rdF_mem x i (by omega)
  obtain ⟨K1, hK1⟩ := placed_ev (rd_T43 x (i : Int)) (hf _ hm).1
  dsimp only at hK1
  cases c : placedB (rd_T43 x (i : Int)) with
  | false =>
   rw [c] at hK1
   refine ⟨K1 + 1, fun k hk => ?_⟩
   obtain ⟨k, rfl⟩ : ∃ m, k = m + 1 := ⟨k - 1, by omega⟩
   simp only [snap_Valid.l0]
   rw [if_pos (by omega), if_pos (by omega), if_pos (by omega), hK1 k (by omega), Option.bind_some, if_neg (by simp)]
   unfold snapV
   rw [if_neg (fun h => by rw [List.all_eq_true.1 h _ hm] at c; cases c)]
  | true =>
   rw [c] at hK1
   obtain ⟨K, hK⟩ := ih (i + 1) (by omega) (by omega) (fun f h => by
    have e : x.take (i + 1) = x.take i ++ [rd_T43 x (i : Int)] := by
     rw [List.take_add_one]; congr 1
     simp [rd_T43, List.getD_eq_getElem?_getD, List.getElem?_eq_getElem (show i < x.length by omega)]
    rw [e] at h
    rcases List.mem_append.1 h with h | h
    ·exact hp f h
    ·rw [List.mem_singleton.1 h]; exact c)
   dsimp only at hK
   refine ⟨max K K1 + 1, fun k hk => ?_⟩
   obtain ⟨k, rfl⟩ : ∃ m, k = m + 1 := ⟨k - 1, by omega⟩
   simp only [snap_Valid.l0]
   rw [if_pos (by omega), if_pos (by omega), if_pos (by omega), hK1 k (by omega), Option.bind_some, if_pos rfl, wrap_succ (n := x.length) (by omega) (by omega)]
   exact hK k (by omega)
theorem snap_ev (x : List S43) (hx : x.length ≤ 1073741824) (hf : FitsF x) : Ev (fun k => snap_Valid.f k x) (snapV x) := snap_l0 x hx hf _ 0 rfl (by omega) (by simp)
def eqF (x y : S43) : Bool := x.f0.toList == y.f0.toList && (x.f1.toList == y.f1.toList && (x.f2 == y.f2 && (x.f3 == y.f3)))
theorem eqF_iff {x y : S43} : eqF x y = true ↔ x = y := by
 unfold eqF
 simp only [Bool.and_eq_true, beq_iff_eq, toList_bs]
 constructor
 ·rintro ⟨h0, h1, h2, h3⟩
  cases x
  cases y
  simp only at h0 h1 h2 h3
  rw [bs_inj h0, bs_inj h1, h2, h3]
 rintro rfl
 exact ⟨rfl, rfl, rfl, rfl⟩
theorem eqF_self (x : S43) : eqF x x = true := eqF_iff.2 rfl
theorem eqF_ne {x y : S43} (h : x ≠ y) : eqF x y = false := by
 cases e : eqF x y with
 | false => rfl
 | true => exact absurd (eqF_iff.1 e) h
def outerC (x y : S45) : S45 := ⟨x.f0, x.f1, y.f2, x.f3, y.f4⟩
def idleC (c : S45) : Bool := if c.f1 = true then (if c.f2 = true then eqF c.f3 c.f4 else false) else (if c.f2 = true then false else true)
def halfB (p : ByteArray) (is : Bool) (f : S43) : Bool := if is = true then (f.f0.toList == p.toList) else eqF f z43
def mayB (c : S45) : Bool := validB c.f0 && !(bs c.f0 == []) && (c.f1 || c.f2) && halfB c.f0 c.f1 c.f3 && halfB c.f0 c.f2 c.f4 && !(c.f1 && c.f2 && eqF c.f3 c.f4)
structure DeltaP (d : List S45) : Prop where
 may : ∀ c ∈ d, mayB c = true
 rises : RisesK S45.f0 d
def turnC (c : S45) : S45 := ⟨c.f0, c.f2, c.f1, c.f4, c.f3⟩
def delta_Invert.f (d : List S45) : Option (List S45) := if d.length ≤ 4194304 then some (d.map turnC) else none
def comeC (f : S43) : S45 := ⟨f.f0, false, true, z43, f⟩
def goneC (f : S43) : S45 := ⟨f.f0, true, false, f, z43⟩
def offB (a : List S43) (c : S45) : Bool := match atK S43.f0 a c.f0 with
 | none => c.f1 || !eqF z43 c.f3
 | some x => !c.f1 || !eqF x c.f3
def overC (x y : S45) : S45 := ⟨x.f0, y.f1, y.f2, y.f3, y.f4⟩
def goesC (c : S45) : Bool := !c.f2
def applyL (a : List S43) (d : List S45) : List S43 := (joinK S45.f0 goesC overC (a.length + d.length) (a.map comeC) d).map S45.f4
def risesB : Option ByteArray → List S45 → Bool
 | _, [] => true
 | none, x :: r => risesB (some x.f0) r
 | some y, x :: r => decide (cB y x.f0 < 0) && risesB (some x.f0) r
def validD (d : List S45) : Bool := d.all mayB && risesB none d
def applyV (a : List S43) (d : List S45) : List S43 × Int :=
 if snapV a = 0 then (if validD d = true then (if d.any (offB a) = true then ([], 9) else (if snapV (applyL a d) = 0 then (applyL a d, 0) else ([], 9))) else ([], 9)) else ([], snapV a)
abbrev FitsD (l : List S45) : Prop := ∀ c ∈ l, c.f0.size ≤ 1073741824 ∧ (c.f3.f0.size ≤ 1073741824 ∧ c.f3.f1.size ≤ 1073741824) ∧ c.f4.f0.size ≤ 1073741824 ∧ c.f4.f1.size ≤ 1073741824
def delta_Apply.f (a : List S43) (d : List S45) : Option (List S43 × Int) := if (a.length ≤ 1048576 ∧ d.length ≤ 4194304) ∧ FitsF a ∧ FitsD d then some (applyV a d) else none
end Go.Proofs.YtehfogjibhnabaaGreatDoor.PAll
