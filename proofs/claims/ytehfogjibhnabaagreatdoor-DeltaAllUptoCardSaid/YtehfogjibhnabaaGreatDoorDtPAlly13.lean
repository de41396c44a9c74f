/- What functions of the program compute, each with its walk: a contract for every world and every argument of the kind told. -/
import Derived.Test.YtehfogjibhnabaaGreatDoorDtPAllx0
import Derived.Test.YtehfogjibhnabaaGreatDoorDtPAlly11
import Derived.Test.YtehfogjibhnabaaGreatDoorDtPAlly3
import Derived.Test.YtehfogjibhnabaaGreatDoorDtPAlly15
import Derived.Test.YtehfogjibhnabaaGreatDoorDtHandA
import Derived.Test.YtehfogjibhnabaaGreatDoorDtPAlly5
import Derived.Test.YtehfogjibhnabaaGreatDoorDtRowKit
import Derived.WalkKit
import Derived.Lib.SliceRun
namespace Go.Proofs.YtehfogjibhnabaaGreatDoor.PAll
open Go.RowKit Go.Proofs.YtehfogjibhnabaaGreatDoorW.PrintWords Go.Proofs.YtehfogjibhnabaaGreatDoorW.PrintLast Go.Proofs.YtehfogjibhnabaaGreatDoorW.PrintMore
attribute [local go_sem] max2_int min2_int max_two min_two max_three min_three max_four min_four
set_option linter.unusedVariables false
set_option linter.unusedSimpArgs false
def delta_Valid.l0 : Nat → List (S45) → List (S45) → Int → Int → Option (Bool)
 | 0, _, _, _, _ => none
 | k + 1, x0, x5, x6, x7 => if x7 < x6 then (if 0 ≤ x7 then (if x7 < (x5.length : Int) then ((delta_may.f k ((rd_T45 x5 x7).f0) ((rd_T45 x5 x7).f1) ((rd_T45 x5 x7).f2) ((rd_T45 x5 x7).f3.f0) ((rd_T45 x5 x7).f3.f1) ((rd_T45 x5 x7).f3.f2) ((rd_T45 x5 x7).f3.f3) ((rd_T45 x5 x7).f4.f0) ((rd_T45 x5 x7).f4.f1) ((rd_T45 x5 x7).f4.f2) ((rd_T45 x5 x7).f4.f3)).bind fun t141 => (if t141 = true then (if x7 > 0 then (if 0 ≤ (wrap64 (x7 - 1)) then (if (wrap64 (x7 - 1)) < (x0.length : Int) then ((path_Cmp.f k ((rd_T45 x0 (wrap64 (x7 - 1))).f0) ((rd_T45 x5 x7).f0)).bind fun t143 => (if t143 ≥ 0 then (some false) else (delta_Valid.l0 k x0 x5 x6 (wrap64 (x7 + 1))))) else (none)) else (none)) else (delta_Valid.l0 k x0 x5 x6 (wrap64 (x7 + 1)))) else (some false))) else (none)) else (none)) else (some true)
def delta_Valid.f (k : Nat) (l0 : List (S45)) : Option (Bool) := delta_Valid.l0 k l0 l0 (l0.length : Int) 0
theorem delta_Valid.mono_l : ∀ k, (∀ y0 y1 y2 y3, LeO (delta_Valid.l0 k y0 y1 y2 y3) (delta_Valid.l0 (k + 1) y0 y1 y2 y3))
 | 0 => fun _ _ _ _ r h => by simp [delta_Valid.l0] at h
 | k + 1 => by
  have ih0 := delta_Valid.mono_l k
  ·intro y0 y1 y2 y3
   unfold delta_Valid.l0
   repeat' first
   | (with_reducible exact ih0 _ _ _ _)
   | (with_reducible exact delta_may.mono _ _ _ _ _ _ _ _ _ _ _ _)
   | (with_reducible exact path_Cmp.mono _ _ _)
   | (with_reducible exact LeO.refl _)
   | (with_reducible exact LeO.none _)
   | (with_reducible refine LeO.ite ?_ ?_)
   | (with_reducible refine LeO.bind ?_ (fun _ => ?_))
   | exact ih0 _ _ _ _
   | exact delta_may.mono _ _ _ _ _ _ _ _ _ _ _ _
   | exact path_Cmp.mono _ _ _
   | exact LeO.none _
   | refine LeO.ite ?_ ?_
   | refine LeO.bind ?_ (fun _ => ?_)
theorem delta_Valid.mono : ∀ a0 k, LeO (delta_Valid.f k a0) (delta_Valid.f (k + 1) a0) := by
 intro a0 k
 have ih0 := delta_Valid.mono_l k
 unfold delta_Valid.f
 repeat' first
   | (with_reducible exact ih0 _ _ _ _)
   | (with_reducible exact delta_may.mono _ _ _ _ _ _ _ _ _ _ _ _)
   | (with_reducible exact path_Cmp.mono _ _ _)
   | (with_reducible exact LeO.refl _)
   | (with_reducible exact LeO.none _)
   | (with_reducible refine LeO.ite ?_ ?_)
   | (with_reducible refine LeO.bind ?_ (fun _ => ?_))
   | exact ih0 _ _ _ _
   | exact delta_may.mono _ _ _ _ _ _ _ _ _ _ _ _
   | exact path_Cmp.mono _ _ _
   | exact LeO.none _
   | refine LeO.ite ?_ ?_
   | refine LeO.bind ?_ (fun _ => ?_)
def delta_Valid.T4 : Bool × List (List Nat × List Nat) := (true, [([], []), ([0], [0]), ([1], [1]), ([2, 1], [2]), ([3], [3]), ([4, 3], [3, 4]), ([5, 3, 3], [3, 5]), ([6], [6]), ([6], [6]), ([8, 6], [6, 8]), ([7, 9, 6], [6, 7, 9]), ([10, 6], [6, 10]), ([11, 6], [6, 11]), ([6], [6]), ([13, 6], [6, 13]), ([12, 14, 6, 6], [6, 12, 14]), ([15, 6], [6, 15]), ([6, 16, 3], [3, 6, 16]), ([3, 17], [3, 17])])
def delta_Valid.B4 : List Nat := [0, 1, 3, 7, 15, 31, 63, 127, 127, 383, 1023, 2047, 4095, 127, 8319, 32767, 65535, 131071, 262143]
theorem delta_Valid.tab4 : rtab .any (opsOf Tryz.f7 4) = delta_Valid.T4 := by kernel_rfl
theorem delta_Valid.bits4 : waitsOk delta_Valid.T4.2 delta_Valid.B4 = true := by kernel_rfl
set_option maxHeartbeats 8000000 in
set_option maxRecDepth 100000 in
theorem delta_Valid.calls (k : Nat) (A0 : Option Addr) (c0 : Nat) (l0 : List (S45)) (r : Bool) (w : World) (hr0 : Kd.C k45 w A0 l0.length l0) (hc0 : l0.length ≤ c0) (h : delta_Valid.f k l0 = some r) :
  Calls Tryz.prog 7 #[.slice A0 l0.length c0] w fun e w' => e = .returned (.bool r) ∧ Below w.heap.size w w' := by
 have hu45 := Tryz.underlying45
 have HR0 := Aside0.mk hr0
 have HC0 := Aside0.mk hc0
 clear hr0 hc0
 have HB := Aside0.mk (Below.refl w.heap.size w)
 have H : (delta_Valid.l0 k l0 l0 (l0.length : Int) 0) = some r := h
 clear h
 have H' := Aside0.mk H
 clear H
 go_enter Tryz.func7, Tryz.ntmps7
 go_wp2
 go_loopg [7] k (fun kq v7 w' => ∃ (x7_1 : Int), v7 = .int .i64 x7_1 ∧ Aside0 (delta_Valid.l0 kq l0 l0 (l0.length : Int) x7_1 = some r) ∧ Aside0 (kq ≤ k) ∧ Aside0 (Below w.heap.size w w'))
 case atStart => exact ⟨(0), (rf_), H', ⟨Nat.le_refl _⟩, ⟨bel_⟩⟩
 case round =>
  clear H'
  obtain ⟨x7_1, rfl, HA, HK1, HB⟩ := hrel
  cases gk with
  | zero => exact absurd HA.out (by simp [delta_Valid.l0])
  | succ k1 =>
   have H := HA.out
   clear HA
   simp only [delta_Valid.l0] at H
   by_cases c2 : x7_1 < (l0.length : Int)
   rotate_left
   ·rw [if_neg c2] at H
    have c2b0 := decide_eq_false c2
    clear c2
    obtain rfl := Option.some.inj H
    go_wp2
    go_ret
    exact ⟨er_, bel_⟩
   rw [if_pos c2] at H
   have c2b0 := decide_eq_true c2
   clear c2
   by_cases c3 : 0 ≤ x7_1
   rotate_left
   ·rw [if_neg c3] at H
    exact absurd H (by simp)
   rw [if_pos c3] at H
   have c3b0 := decide_eq_true c3
   clear c3
   by_cases c4 : x7_1 < (l0.length : Int)
   rotate_left
   ·rw [if_neg c4] at H
    exact absurd H (by simp)
   rw [if_pos c4] at H
   have c4b0 := decide_eq_true c4
   clear c4
   replace H := Option.bind_eq_some_iff.mp H
   obtain ⟨t141, A50, H⟩ := H
   try dsimp only at H
   have A5 := Aside0.mk A50
   clear A50
   by_cases c6 : t141 = true
   rotate_left
   ·replace c6 := Bool.eq_false_iff.mpr c6
    subst c6
    have H1 : (some false) = some r := by rw [if_neg (show ¬ (false = true) by decide)] at H; exact H
    clear H
    have H := H1
    clear H1
    obtain rfl := Option.some.inj H
    have p139 : 0 ≤ (x7_1 : Int) := of_decide_eq_true (by assumption)
    have q139 : x7_1 < (l0.length : Int) := of_decide_eq_true (by assumption)
    obtain ⟨ad139, e139, hx139_0, hx139_1, hx139_2, hx139_3, hx139_4, hx139_5, hx139_6, hx139_7, hx139_8, hx139_9, hx139_10⟩ := at_T45 HR0.out x7_1 p139 q139
    cases e139
    replace hx139_0 := hk_ HB.out hx139_0
    replace hx139_1 := hk_ HB.out hx139_1
    replace hx139_2 := hk_ HB.out hx139_2
    replace hx139_3 := hk_ HB.out hx139_3
    replace hx139_4 := hk_ HB.out hx139_4
    replace hx139_5 := hk_ HB.out hx139_5
    replace hx139_6 := hk_ HB.out hx139_6
    replace hx139_7 := hk_ HB.out hx139_7
    replace hx139_8 := hk_ HB.out hx139_8
    replace hx139_9 := hk_ HB.out hx139_9
    replace hx139_10 := hk_ HB.out hx139_10
    replace p139 := eq_true p139
    replace q139 := eq_true q139
    try go_wp2_with (first | ((with_reducible refine gate_dst (N := 4) rfl ?_); refine box_event ?hg (N := 4) ?hd (cs := #[.string (⟨#[]⟩ : ByteArray), .bool false, .bool false, .string (⟨#[]⟩ : ByteArray), .string (⟨#[]⟩ : ByteArray), .int .i64 0, .int .i64 0, .string (⟨#[]⟩ : ByteArray), .string (⟨#[]⟩ : ByteArray), .int .i64 0, .int .i64 0]) (t := 45) ?hr ?_; (case hd => rfl); (case hg => rfl); (case hr => first | (go_simp; done) | (go_simp; rfl)); intro gb140 hg w30 hbox hb; have n0_ := Aside0.mk (below_step (bel_) hb); have n1_ := Aside0.mk (hbox); have n2_ := Aside0.mk ((by rw [hg]; exact (below_size (bel_)) : w.heap.size ≤ gb140)); have n3_ := Aside0.mk ((by rw [hg]; exact (below_size (bel_)) : w.heap.size ≤ gb140)); clear HB; have HB := n0_; have BK140 := n1_; have GW140 := n2_; have GE140 := n3_; clear n0_ n1_ n2_ n3_; clear hb hbox hg; have hcz31_0 : w30.cell? ⟨gb140, 0, none⟩ = some (.string (⟨#[]⟩ : ByteArray)) := (blk_cell BK140.out 0).trans rfl; have hcz31_1 : w30.cell? ⟨gb140, 1, none⟩ = some (.bool false) := (blk_cell BK140.out 1).trans rfl; have hcz31_2 : w30.cell? ⟨gb140, 2, none⟩ = some (.bool false) := (blk_cell BK140.out 2).trans rfl; have hcz31_3 : w30.cell? ⟨gb140, 3, none⟩ = some (.string (⟨#[]⟩ : ByteArray)) := (blk_cell BK140.out 3).trans rfl; have hcz31_4 : w30.cell? ⟨gb140, 4, none⟩ = some (.string (⟨#[]⟩ : ByteArray)) := (blk_cell BK140.out 4).trans rfl; have hcz31_5 : w30.cell? ⟨gb140, 5, none⟩ = some (.int .i64 0) := (blk_cell BK140.out 5).trans rfl; have hcz31_6 : w30.cell? ⟨gb140, 6, none⟩ = some (.int .i64 0) := (blk_cell BK140.out 6).trans rfl; have hcz31_7 : w30.cell? ⟨gb140, 7, none⟩ = some (.string (⟨#[]⟩ : ByteArray)) := (blk_cell BK140.out 7).trans rfl; have hcz31_8 : w30.cell? ⟨gb140, 8, none⟩ = some (.string (⟨#[]⟩ : ByteArray)) := (blk_cell BK140.out 8).trans rfl; have hcz31_9 : w30.cell? ⟨gb140, 9, none⟩ = some (.int .i64 0) := (blk_cell BK140.out 9).trans rfl; have hcz31_10 : w30.cell? ⟨gb140, 10, none⟩ = some (.int .i64 0) := (blk_cell BK140.out 10).trans rfl; have hfz31_0 := blk_frozen BK140.out 0; have hfz31_1 := blk_frozen BK140.out 1; have hfz31_2 := blk_frozen BK140.out 2; have hfz31_3 := blk_frozen BK140.out 3; have hfz31_4 := blk_frozen BK140.out 4; have hfz31_5 := blk_frozen BK140.out 5; have hfz31_6 := blk_frozen BK140.out 6; have hfz31_7 := blk_frozen BK140.out 7; have hfz31_8 := blk_frozen BK140.out 8; have hfz31_9 := blk_frozen BK140.out 9; have hfz31_10 := blk_frozen BK140.out 10))
    have n0_ : Aside0 ((((((((((((w30.setCell ⟨gb140, 0, none⟩ (.string ((rd_T45 l0 x7_1).f0))).setCell ⟨gb140, 1, none⟩ (.bool ((rd_T45 l0 x7_1).f1))).setCell ⟨gb140, 2, none⟩ (.bool ((rd_T45 l0 x7_1).f2))).setCell ⟨gb140, 3, none⟩ (.string ((rd_T45 l0 x7_1).f3.f0))).setCell ⟨gb140, 4, none⟩ (.string ((rd_T45 l0 x7_1).f3.f1))).setCell ⟨gb140, 5, none⟩ (.int .i64 ((rd_T45 l0 x7_1).f3.f2))).setCell ⟨gb140, 6, none⟩ (.int .i64 ((rd_T45 l0 x7_1).f3.f3))).setCell ⟨gb140, 7, none⟩ (.string ((rd_T45 l0 x7_1).f4.f0))).setCell ⟨gb140, 8, none⟩ (.string ((rd_T45 l0 x7_1).f4.f1))).setCell ⟨gb140, 9, none⟩ (.int .i64 ((rd_T45 l0 x7_1).f4.f2))).setCell ⟨gb140, 10, none⟩ (.int .i64 ((rd_T45 l0 x7_1).f4.f3))).heap[gb140]? = some (.cells #[.string ((rd_T45 l0 x7_1).f0), .bool ((rd_T45 l0 x7_1).f1), .bool ((rd_T45 l0 x7_1).f2), .string ((rd_T45 l0 x7_1).f3.f0), .string ((rd_T45 l0 x7_1).f3.f1), .int .i64 ((rd_T45 l0 x7_1).f3.f2), .int .i64 ((rd_T45 l0 x7_1).f3.f3), .string ((rd_T45 l0 x7_1).f4.f0), .string ((rd_T45 l0 x7_1).f4.f1), .int .i64 ((rd_T45 l0 x7_1).f4.f2), .int .i64 ((rd_T45 l0 x7_1).f4.f3)] 45 (0, 0))) := ⟨by refine ub_ ?_; refine blk_put (cs := #[.string ((rd_T45 l0 x7_1).f0), .bool ((rd_T45 l0 x7_1).f1), .bool ((rd_T45 l0 x7_1).f2), .string ((rd_T45 l0 x7_1).f3.f0), .string ((rd_T45 l0 x7_1).f3.f1), .int .i64 ((rd_T45 l0 x7_1).f3.f2), .int .i64 ((rd_T45 l0 x7_1).f3.f3), .string ((rd_T45 l0 x7_1).f4.f0), .string ((rd_T45 l0 x7_1).f4.f1), .int .i64 ((rd_T45 l0 x7_1).f4.f2), .int .i64 0]) ?_ 10 _ rfl; refine ub_ ?_; refine blk_put (cs := #[.string ((rd_T45 l0 x7_1).f0), .bool ((rd_T45 l0 x7_1).f1), .bool ((rd_T45 l0 x7_1).f2), .string ((rd_T45 l0 x7_1).f3.f0), .string ((rd_T45 l0 x7_1).f3.f1), .int .i64 ((rd_T45 l0 x7_1).f3.f2), .int .i64 ((rd_T45 l0 x7_1).f3.f3), .string ((rd_T45 l0 x7_1).f4.f0), .string ((rd_T45 l0 x7_1).f4.f1), .int .i64 0, .int .i64 0]) ?_ 9 _ rfl; refine ub_ ?_; refine blk_put (cs := #[.string ((rd_T45 l0 x7_1).f0), .bool ((rd_T45 l0 x7_1).f1), .bool ((rd_T45 l0 x7_1).f2), .string ((rd_T45 l0 x7_1).f3.f0), .string ((rd_T45 l0 x7_1).f3.f1), .int .i64 ((rd_T45 l0 x7_1).f3.f2), .int .i64 ((rd_T45 l0 x7_1).f3.f3), .string ((rd_T45 l0 x7_1).f4.f0), .string (⟨#[]⟩ : ByteArray), .int .i64 0, .int .i64 0]) ?_ 8 _ rfl; refine ub_ ?_; refine blk_put (cs := #[.string ((rd_T45 l0 x7_1).f0), .bool ((rd_T45 l0 x7_1).f1), .bool ((rd_T45 l0 x7_1).f2), .string ((rd_T45 l0 x7_1).f3.f0), .string ((rd_T45 l0 x7_1).f3.f1), .int .i64 ((rd_T45 l0 x7_1).f3.f2), .int .i64 ((rd_T45 l0 x7_1).f3.f3), .string (⟨#[]⟩ : ByteArray), .string (⟨#[]⟩ : ByteArray), .int .i64 0, .int .i64 0]) ?_ 7 _ rfl; refine ub_ ?_; refine blk_put (cs := #[.string ((rd_T45 l0 x7_1).f0), .bool ((rd_T45 l0 x7_1).f1), .bool ((rd_T45 l0 x7_1).f2), .string ((rd_T45 l0 x7_1).f3.f0), .string ((rd_T45 l0 x7_1).f3.f1), .int .i64 ((rd_T45 l0 x7_1).f3.f2), .int .i64 0, .string (⟨#[]⟩ : ByteArray), .string (⟨#[]⟩ : ByteArray), .int .i64 0, .int .i64 0]) ?_ 6 _ rfl; refine ub_ ?_; refine blk_put (cs := #[.string ((rd_T45 l0 x7_1).f0), .bool ((rd_T45 l0 x7_1).f1), .bool ((rd_T45 l0 x7_1).f2), .string ((rd_T45 l0 x7_1).f3.f0), .string ((rd_T45 l0 x7_1).f3.f1), .int .i64 0, .int .i64 0, .string (⟨#[]⟩ : ByteArray), .string (⟨#[]⟩ : ByteArray), .int .i64 0, .int .i64 0]) ?_ 5 _ rfl; refine ub_ ?_; refine blk_put (cs := #[.string ((rd_T45 l0 x7_1).f0), .bool ((rd_T45 l0 x7_1).f1), .bool ((rd_T45 l0 x7_1).f2), .string ((rd_T45 l0 x7_1).f3.f0), .string (⟨#[]⟩ : ByteArray), .int .i64 0, .int .i64 0, .string (⟨#[]⟩ : ByteArray), .string (⟨#[]⟩ : ByteArray), .int .i64 0, .int .i64 0]) ?_ 4 _ rfl; refine ub_ ?_; refine blk_put (cs := #[.string ((rd_T45 l0 x7_1).f0), .bool ((rd_T45 l0 x7_1).f1), .bool ((rd_T45 l0 x7_1).f2), .string (⟨#[]⟩ : ByteArray), .string (⟨#[]⟩ : ByteArray), .int .i64 0, .int .i64 0, .string (⟨#[]⟩ : ByteArray), .string (⟨#[]⟩ : ByteArray), .int .i64 0, .int .i64 0]) ?_ 3 _ rfl; refine ub_ ?_; refine blk_put (cs := #[.string ((rd_T45 l0 x7_1).f0), .bool ((rd_T45 l0 x7_1).f1), .bool false, .string (⟨#[]⟩ : ByteArray), .string (⟨#[]⟩ : ByteArray), .int .i64 0, .int .i64 0, .string (⟨#[]⟩ : ByteArray), .string (⟨#[]⟩ : ByteArray), .int .i64 0, .int .i64 0]) ?_ 2 _ rfl; refine ub_ ?_; refine blk_put (cs := #[.string ((rd_T45 l0 x7_1).f0), .bool false, .bool false, .string (⟨#[]⟩ : ByteArray), .string (⟨#[]⟩ : ByteArray), .int .i64 0, .int .i64 0, .string (⟨#[]⟩ : ByteArray), .string (⟨#[]⟩ : ByteArray), .int .i64 0, .int .i64 0]) ?_ 1 _ rfl; refine ub_ ?_; refine blk_put (cs := #[.string (⟨#[]⟩ : ByteArray), .bool false, .bool false, .string (⟨#[]⟩ : ByteArray), .string (⟨#[]⟩ : ByteArray), .int .i64 0, .int .i64 0, .string (⟨#[]⟩ : ByteArray), .string (⟨#[]⟩ : ByteArray), .int .i64 0, .int .i64 0]) ?_ 0 _ rfl; refine ub_ ?_; exact BK140.out⟩
    have n1_ : Aside0 (Below w.heap.size w (((((((((((w30.setCell ⟨gb140, 0, none⟩ (.string ((rd_T45 l0 x7_1).f0))).setCell ⟨gb140, 1, none⟩ (.bool ((rd_T45 l0 x7_1).f1))).setCell ⟨gb140, 2, none⟩ (.bool ((rd_T45 l0 x7_1).f2))).setCell ⟨gb140, 3, none⟩ (.string ((rd_T45 l0 x7_1).f3.f0))).setCell ⟨gb140, 4, none⟩ (.string ((rd_T45 l0 x7_1).f3.f1))).setCell ⟨gb140, 5, none⟩ (.int .i64 ((rd_T45 l0 x7_1).f3.f2))).setCell ⟨gb140, 6, none⟩ (.int .i64 ((rd_T45 l0 x7_1).f3.f3))).setCell ⟨gb140, 7, none⟩ (.string ((rd_T45 l0 x7_1).f4.f0))).setCell ⟨gb140, 8, none⟩ (.string ((rd_T45 l0 x7_1).f4.f1))).setCell ⟨gb140, 9, none⟩ (.int .i64 ((rd_T45 l0 x7_1).f4.f2))).setCell ⟨gb140, 10, none⟩ (.int .i64 ((rd_T45 l0 x7_1).f4.f3)))) := ⟨bes_ GE140.out⟩
    (try clear BK140)
    (try clear HB)
    generalize (((((((((((w30.setCell ⟨gb140, 0, none⟩ (.string ((rd_T45 l0 x7_1).f0))).setCell ⟨gb140, 1, none⟩ (.bool ((rd_T45 l0 x7_1).f1))).setCell ⟨gb140, 2, none⟩ (.bool ((rd_T45 l0 x7_1).f2))).setCell ⟨gb140, 3, none⟩ (.string ((rd_T45 l0 x7_1).f3.f0))).setCell ⟨gb140, 4, none⟩ (.string ((rd_T45 l0 x7_1).f3.f1))).setCell ⟨gb140, 5, none⟩ (.int .i64 ((rd_T45 l0 x7_1).f3.f2))).setCell ⟨gb140, 6, none⟩ (.int .i64 ((rd_T45 l0 x7_1).f3.f3))).setCell ⟨gb140, 7, none⟩ (.string ((rd_T45 l0 x7_1).f4.f0))).setCell ⟨gb140, 8, none⟩ (.string ((rd_T45 l0 x7_1).f4.f1))).setCell ⟨gb140, 9, none⟩ (.int .i64 ((rd_T45 l0 x7_1).f4.f2))).setCell ⟨gb140, 10, none⟩ (.int .i64 ((rd_T45 l0 x7_1).f4.f3))) = w32 at n0_ n1_ ⊢
    have BK140 := n0_
    have HB := n1_
    clear n0_ n1_
    have n0_ := Aside0.mk (blk_drew BK140.out)
    have n1_ := Aside0.mk (below_drew1 HB.out)
    clear BK140
    clear HB
    have BK140 := n0_
    have HB := n1_
    clear n0_ n1_
    refine start_ (n := 19) (S := fun w' => w'.cell? ⟨gb140, 0, none⟩ = some (.string ((rd_T45 l0 x7_1).f0)) ∧ w'.cell? ⟨gb140, 1, none⟩ = some (.bool ((rd_T45 l0 x7_1).f1)) ∧ w'.cell? ⟨gb140, 2, none⟩ = some (.bool ((rd_T45 l0 x7_1).f2)) ∧ w'.cell? ⟨gb140, 3, none⟩ = some (.string ((rd_T45 l0 x7_1).f3.f0)) ∧ w'.cell? ⟨gb140, 4, none⟩ = some (.string ((rd_T45 l0 x7_1).f3.f1)) ∧ w'.cell? ⟨gb140, 5, none⟩ = some (.int .i64 ((rd_T45 l0 x7_1).f3.f2)) ∧ w'.cell? ⟨gb140, 6, none⟩ = some (.int .i64 ((rd_T45 l0 x7_1).f3.f3)) ∧ w'.cell? ⟨gb140, 7, none⟩ = some (.string ((rd_T45 l0 x7_1).f4.f0)) ∧ w'.cell? ⟨gb140, 8, none⟩ = some (.string ((rd_T45 l0 x7_1).f4.f1)) ∧ w'.cell? ⟨gb140, 9, none⟩ = some (.int .i64 ((rd_T45 l0 x7_1).f4.f2)) ∧ w'.cell? ⟨gb140, 10, none⟩ = some (.int .i64 ((rd_T45 l0 x7_1).f4.f3))) (ds := []) (lb 19 0) (by kernel_rfl) rfl rfl ⟨(blk_cell BK140.out 0).trans rfl, (blk_cell BK140.out 1).trans rfl, (blk_cell BK140.out 2).trans rfl, (blk_cell BK140.out 3).trans rfl, (blk_cell BK140.out 4).trans rfl, (blk_cell BK140.out 5).trans rfl, (blk_cell BK140.out 6).trans rfl, (blk_cell BK140.out 7).trans rfl, (blk_cell BK140.out 8).trans rfl, (blk_cell BK140.out 9).trans rfl, (blk_cell BK140.out 10).trans rfl⟩ (fun hHeld => ?_); refine with_tabW delta_Valid.tab4 delta_Valid.bits4 (fun HT_ HW_ => ?_)
    generalize w32.drew = w33 at BK140 HB hHeld ⊢
    refine tk_ 0 12 (lb 19 1) HT_.out HW_.out hHeld ?_
    refine one_ (i := 1) (N := some 13) (lb 19 3) rfl rfl (one_of HT_.out (by kernel_rfl)) (by decide) (fun K hK => ?_)
    refine goes_ Tryz.func23 (by kernel_rfl) rfl #[.agg #[.string ((rd_T45 l0 x7_1).f0), .bool ((rd_T45 l0 x7_1).f1), .bool ((rd_T45 l0 x7_1).f2), .string ((rd_T45 l0 x7_1).f3.f0), .string ((rd_T45 l0 x7_1).f3.f1), .int .i64 ((rd_T45 l0 x7_1).f3.f2), .int .i64 ((rd_T45 l0 x7_1).f3.f3), .string ((rd_T45 l0 x7_1).f4.f0), .string ((rd_T45 l0 x7_1).f4.f1), .int .i64 ((rd_T45 l0 x7_1).f4.f2), .int .i64 ((rd_T45 l0 x7_1).f4.f3)]] (by rfl) rfl rfl (mp_) ?_
    with_reducible refine (delta_may.calls k1 ((rd_T45 l0 x7_1).f0) ((rd_T45 l0 x7_1).f1) ((rd_T45 l0 x7_1).f2) ((rd_T45 l0 x7_1).f3.f0) ((rd_T45 l0 x7_1).f3.f1) ((rd_T45 l0 x7_1).f3.f2) ((rd_T45 l0 x7_1).f3.f3) ((rd_T45 l0 x7_1).f4.f0) ((rd_T45 l0 x7_1).f4.f1) ((rd_T45 l0 x7_1).f4.f2) ((rd_T45 l0 x7_1).f4.f3) false _ A5.out).mono ?_
    rintro e w34 ⟨rfl, hb⟩
    refine ⟨_, rfl, ?_⟩
    have n0_ := Aside0.mk (blk_below (g := gb140) (o := .cells #[.string ((rd_T45 l0 x7_1).f0), .bool ((rd_T45 l0 x7_1).f1), .bool ((rd_T45 l0 x7_1).f2), .string ((rd_T45 l0 x7_1).f3.f0), .string ((rd_T45 l0 x7_1).f3.f1), .int .i64 ((rd_T45 l0 x7_1).f3.f2), .int .i64 ((rd_T45 l0 x7_1).f3.f3), .string ((rd_T45 l0 x7_1).f4.f0), .string ((rd_T45 l0 x7_1).f4.f1), .int .i64 ((rd_T45 l0 x7_1).f4.f2), .int .i64 ((rd_T45 l0 x7_1).f4.f3)] 45 (0, 0)) (ub_ BK140.out) hb)
    have n1_ := Aside0.mk (below_step (bes_ GE140.out) hb)
    clear BK140
    clear HB
    have BK140 := n0_
    have HB := n1_
    clear n0_ n1_
    (try clear hb)
    (try clear hb2)
    (try clear hk)
    (try clear hi)
    refine hK.out _ _ ⟨(blk_cell BK140.out 0).trans rfl, (blk_cell BK140.out 1).trans rfl, (blk_cell BK140.out 2).trans rfl, (blk_cell BK140.out 3).trans rfl, (blk_cell BK140.out 4).trans rfl, (blk_cell BK140.out 5).trans rfl, (blk_cell BK140.out 6).trans rfl, (blk_cell BK140.out 7).trans rfl, (blk_cell BK140.out 8).trans rfl, (blk_cell BK140.out 9).trans rfl, (blk_cell BK140.out 10).trans rfl⟩ (fun hHeld => ?_)
    clear hK K
    refine norm_ (a' := ?_) ?_ ?_
    rotate_left
    ·show Act.put _ (some 13) _ = _
     simp only [Act.put, List.setIfInBounds_toArray, List.set_cons_zero, List.set_cons_succ, i64_w, i32_w]
     rfl
    refine pv_ 2 14 (lb 19 7) HT_.out ?_
    refine pv_ 3 15 (lb 19 15) HT_.out ?_
    refine pg_ 4 16 (lb 19 31) HT_.out ?_
    refine pg_ 5 17 (lb 19 63) HT_.out ?_
    refine pg_ 6 18 (lb 19 127) HT_.out ?_
    refine pg_ 7 19 (lb 19 255) HT_.out ?_
    refine pg_ 8 20 (lb 19 511) HT_.out ?_
    refine pg_ 9 21 (lb 19 1023) HT_.out ?_
    refine pg_ 10 22 (lb 19 2047) HT_.out ?_
    refine pg_ 11 23 (lb 19 4095) HT_.out ?_
    refine pg_ 12 24 (lb 19 8191) HT_.out ?_
    refine pg_ 13 25 (lb 19 16383) HT_.out ?_
    refine pg_ 14 26 (lb 19 32767) HT_.out ?_
    refine pg_ 15 27 (lb 19 65535) HT_.out ?_
    refine pg_ 16 28 (lb 19 131071) HT_.out ?_
    refine pg_ 17 29 (lb 19 262143) HT_.out ?_
    refine pv_ 18 30 (lb 19 524287) HT_.out ?_
    refine done_ (done_of HT_.out (by kernel_rfl)) ?_
    try go_wp2
    go_ret
    exact ⟨er_, bes_ GE140.out⟩
   subst c6
   rw [if_pos rfl] at H
   have H1 := H
   clear H
   have H := H1
   clear H1
   by_cases c7 : x7_1 > 0
   rotate_left
   ·rw [if_neg c7] at H
    have c7b0 := decide_eq_false c7
    clear c7
    have H' := Aside0.mk H
    clear H
    have p139 : 0 ≤ (x7_1 : Int) := of_decide_eq_true (by assumption)
    have q139 : x7_1 < (l0.length : Int) := of_decide_eq_true (by assumption)
    obtain ⟨ad139, e139, hx139_0, hx139_1, hx139_2, hx139_3, hx139_4, hx139_5, hx139_6, hx139_7, hx139_8, hx139_9, hx139_10⟩ := at_T45 HR0.out x7_1 p139 q139
    cases e139
    replace hx139_0 := hk_ HB.out hx139_0
    replace hx139_1 := hk_ HB.out hx139_1
    replace hx139_2 := hk_ HB.out hx139_2
    replace hx139_3 := hk_ HB.out hx139_3
    replace hx139_4 := hk_ HB.out hx139_4
    replace hx139_5 := hk_ HB.out hx139_5
    replace hx139_6 := hk_ HB.out hx139_6
    replace hx139_7 := hk_ HB.out hx139_7
    replace hx139_8 := hk_ HB.out hx139_8
    replace hx139_9 := hk_ HB.out hx139_9
    replace hx139_10 := hk_ HB.out hx139_10
    replace p139 := eq_true p139
    replace q139 := eq_true q139
    try go_wp2_with (first | ((with_reducible refine gate_dst (N := 4) rfl ?_); refine box_event ?hg (N := 4) ?hd (cs := #[.string (⟨#[]⟩ : ByteArray), .bool false, .bool false, .string (⟨#[]⟩ : ByteArray), .string (⟨#[]⟩ : ByteArray), .int .i64 0, .int .i64 0, .string (⟨#[]⟩ : ByteArray), .string (⟨#[]⟩ : ByteArray), .int .i64 0, .int .i64 0]) (t := 45) ?hr ?_; (case hd => rfl); (case hg => rfl); (case hr => first | (go_simp; done) | (go_simp; rfl)); intro gb140 hg w25 hbox hb; have n0_ := Aside0.mk (below_step (bel_) hb); have n1_ := Aside0.mk (hbox); have n2_ := Aside0.mk ((by rw [hg]; exact (below_size (bel_)) : w.heap.size ≤ gb140)); have n3_ := Aside0.mk ((by rw [hg]; exact (below_size (bel_)) : w.heap.size ≤ gb140)); clear HB; have HB := n0_; have BK140 := n1_; have GW140 := n2_; have GE140 := n3_; clear n0_ n1_ n2_ n3_; clear hb hbox hg; have hcz26_0 : w25.cell? ⟨gb140, 0, none⟩ = some (.string (⟨#[]⟩ : ByteArray)) := (blk_cell BK140.out 0).trans rfl; have hcz26_1 : w25.cell? ⟨gb140, 1, none⟩ = some (.bool false) := (blk_cell BK140.out 1).trans rfl; have hcz26_2 : w25.cell? ⟨gb140, 2, none⟩ = some (.bool false) := (blk_cell BK140.out 2).trans rfl; have hcz26_3 : w25.cell? ⟨gb140, 3, none⟩ = some (.string (⟨#[]⟩ : ByteArray)) := (blk_cell BK140.out 3).trans rfl; have hcz26_4 : w25.cell? ⟨gb140, 4, none⟩ = some (.string (⟨#[]⟩ : ByteArray)) := (blk_cell BK140.out 4).trans rfl; have hcz26_5 : w25.cell? ⟨gb140, 5, none⟩ = some (.int .i64 0) := (blk_cell BK140.out 5).trans rfl; have hcz26_6 : w25.cell? ⟨gb140, 6, none⟩ = some (.int .i64 0) := (blk_cell BK140.out 6).trans rfl; have hcz26_7 : w25.cell? ⟨gb140, 7, none⟩ = some (.string (⟨#[]⟩ : ByteArray)) := (blk_cell BK140.out 7).trans rfl; have hcz26_8 : w25.cell? ⟨gb140, 8, none⟩ = some (.string (⟨#[]⟩ : ByteArray)) := (blk_cell BK140.out 8).trans rfl; have hcz26_9 : w25.cell? ⟨gb140, 9, none⟩ = some (.int .i64 0) := (blk_cell BK140.out 9).trans rfl; have hcz26_10 : w25.cell? ⟨gb140, 10, none⟩ = some (.int .i64 0) := (blk_cell BK140.out 10).trans rfl; have hfz26_0 := blk_frozen BK140.out 0; have hfz26_1 := blk_frozen BK140.out 1; have hfz26_2 := blk_frozen BK140.out 2; have hfz26_3 := blk_frozen BK140.out 3; have hfz26_4 := blk_frozen BK140.out 4; have hfz26_5 := blk_frozen BK140.out 5; have hfz26_6 := blk_frozen BK140.out 6; have hfz26_7 := blk_frozen BK140.out 7; have hfz26_8 := blk_frozen BK140.out 8; have hfz26_9 := blk_frozen BK140.out 9; have hfz26_10 := blk_frozen BK140.out 10))
    have n0_ : Aside0 ((((((((((((w25.setCell ⟨gb140, 0, none⟩ (.string ((rd_T45 l0 x7_1).f0))).setCell ⟨gb140, 1, none⟩ (.bool ((rd_T45 l0 x7_1).f1))).setCell ⟨gb140, 2, none⟩ (.bool ((rd_T45 l0 x7_1).f2))).setCell ⟨gb140, 3, none⟩ (.string ((rd_T45 l0 x7_1).f3.f0))).setCell ⟨gb140, 4, none⟩ (.string ((rd_T45 l0 x7_1).f3.f1))).setCell ⟨gb140, 5, none⟩ (.int .i64 ((rd_T45 l0 x7_1).f3.f2))).setCell ⟨gb140, 6, none⟩ (.int .i64 ((rd_T45 l0 x7_1).f3.f3))).setCell ⟨gb140, 7, none⟩ (.string ((rd_T45 l0 x7_1).f4.f0))).setCell ⟨gb140, 8, none⟩ (.string ((rd_T45 l0 x7_1).f4.f1))).setCell ⟨gb140, 9, none⟩ (.int .i64 ((rd_T45 l0 x7_1).f4.f2))).setCell ⟨gb140, 10, none⟩ (.int .i64 ((rd_T45 l0 x7_1).f4.f3))).heap[gb140]? = some (.cells #[.string ((rd_T45 l0 x7_1).f0), .bool ((rd_T45 l0 x7_1).f1), .bool ((rd_T45 l0 x7_1).f2), .string ((rd_T45 l0 x7_1).f3.f0), .string ((rd_T45 l0 x7_1).f3.f1), .int .i64 ((rd_T45 l0 x7_1).f3.f2), .int .i64 ((rd_T45 l0 x7_1).f3.f3), .string ((rd_T45 l0 x7_1).f4.f0), .string ((rd_T45 l0 x7_1).f4.f1), .int .i64 ((rd_T45 l0 x7_1).f4.f2), .int .i64 ((rd_T45 l0 x7_1).f4.f3)] 45 (0, 0))) := ⟨by refine ub_ ?_; refine blk_put (cs := #[.string ((rd_T45 l0 x7_1).f0), .bool ((rd_T45 l0 x7_1).f1), .bool ((rd_T45 l0 x7_1).f2), .string ((rd_T45 l0 x7_1).f3.f0), .string ((rd_T45 l0 x7_1).f3.f1), .int .i64 ((rd_T45 l0 x7_1).f3.f2), .int .i64 ((rd_T45 l0 x7_1).f3.f3), .string ((rd_T45 l0 x7_1).f4.f0), .string ((rd_T45 l0 x7_1).f4.f1), .int .i64 ((rd_T45 l0 x7_1).f4.f2), .int .i64 0]) ?_ 10 _ rfl; refine ub_ ?_; refine blk_put (cs := #[.string ((rd_T45 l0 x7_1).f0), .bool ((rd_T45 l0 x7_1).f1), .bool ((rd_T45 l0 x7_1).f2), .string ((rd_T45 l0 x7_1).f3.f0), .string ((rd_T45 l0 x7_1).f3.f1), .int .i64 ((rd_T45 l0 x7_1).f3.f2), .int .i64 ((rd_T45 l0 x7_1).f3.f3), .string ((rd_T45 l0 x7_1).f4.f0), .string ((rd_T45 l0 x7_1).f4.f1), .int .i64 0, .int .i64 0]) ?_ 9 _ rfl; refine ub_ ?_; refine blk_put (cs := #[.string ((rd_T45 l0 x7_1).f0), .bool ((rd_T45 l0 x7_1).f1), .bool ((rd_T45 l0 x7_1).f2), .string ((rd_T45 l0 x7_1).f3.f0), .string ((rd_T45 l0 x7_1).f3.f1), .int .i64 ((rd_T45 l0 x7_1).f3.f2), .int .i64 ((rd_T45 l0 x7_1).f3.f3), .string ((rd_T45 l0 x7_1).f4.f0), .string (⟨#[]⟩ : ByteArray), .int .i64 0, .int .i64 0]) ?_ 8 _ rfl; refine ub_ ?_; refine blk_put (cs := #[.string ((rd_T45 l0 x7_1).f0), .bool ((rd_T45 l0 x7_1).f1), .bool ((rd_T45 l0 x7_1).f2), .string ((rd_T45 l0 x7_1).f3.f0), .string ((rd_T45 l0 x7_1).f3.f1), .int .i64 ((rd_T45 l0 x7_1).f3.f2), .int .i64 ((rd_T45 l0 x7_1).f3.f3), .string (⟨#[]⟩ : ByteArray), .string (⟨#[]⟩ : ByteArray), .int .i64 0, .int .i64 0]) ?_ 7 _ rfl; refine ub_ ?_; refine blk_put (cs := #[.string ((rd_T45 l0 x7_1).f0), .bool ((rd_T45 l0 x7_1).f1), .bool ((rd_T45 l0 x7_1).f2), .string ((rd_T45 l0 x7_1).f3.f0), .string ((rd_T45 l0 x7_1).f3.f1), .int .i64 ((rd_T45 l0 x7_1).f3.f2), .int .i64 0, .string (⟨#[]⟩ : ByteArray), .string (⟨#[]⟩ : ByteArray), .int .i64 0, .int .i64 0]) ?_ 6 _ rfl; refine ub_ ?_; refine blk_put (cs := #[.string ((rd_T45 l0 x7_1).f0), .bool ((rd_T45 l0 x7_1).f1), .bool ((rd_T45 l0 x7_1).f2), .string ((rd_T45 l0 x7_1).f3.f0), .string ((rd_T45 l0 x7_1).f3.f1), .int .i64 0, .int .i64 0, .string (⟨#[]⟩ : ByteArray), .string (⟨#[]⟩ : ByteArray), .int .i64 0, .int .i64 0]) ?_ 5 _ rfl; refine ub_ ?_; refine blk_put (cs := #[.string ((rd_T45 l0 x7_1).f0), .bool ((rd_T45 l0 x7_1).f1), .bool ((rd_T45 l0 x7_1).f2), .string ((rd_T45 l0 x7_1).f3.f0), .string (⟨#[]⟩ : ByteArray), .int .i64 0, .int .i64 0, .string (⟨#[]⟩ : ByteArray), .string (⟨#[]⟩ : ByteArray), .int .i64 0, .int .i64 0]) ?_ 4 _ rfl; refine ub_ ?_; refine blk_put (cs := #[.string ((rd_T45 l0 x7_1).f0), .bool ((rd_T45 l0 x7_1).f1), .bool ((rd_T45 l0 x7_1).f2), .string (⟨#[]⟩ : ByteArray), .string (⟨#[]⟩ : ByteArray), .int .i64 0, .int .i64 0, .string (⟨#[]⟩ : ByteArray), .string (⟨#[]⟩ : ByteArray), .int .i64 0, .int .i64 0]) ?_ 3 _ rfl; refine ub_ ?_; refine blk_put (cs := #[.string ((rd_T45 l0 x7_1).f0), .bool ((rd_T45 l0 x7_1).f1), .bool false, .string (⟨#[]⟩ : ByteArray), .string (⟨#[]⟩ : ByteArray), .int .i64 0, .int .i64 0, .string (⟨#[]⟩ : ByteArray), .string (⟨#[]⟩ : ByteArray), .int .i64 0, .int .i64 0]) ?_ 2 _ rfl; refine ub_ ?_; refine blk_put (cs := #[.string ((rd_T45 l0 x7_1).f0), .bool false, .bool false, .string (⟨#[]⟩ : ByteArray), .string (⟨#[]⟩ : ByteArray), .int .i64 0, .int .i64 0, .string (⟨#[]⟩ : ByteArray), .string (⟨#[]⟩ : ByteArray), .int .i64 0, .int .i64 0]) ?_ 1 _ rfl; refine ub_ ?_; refine blk_put (cs := #[.string (⟨#[]⟩ : ByteArray), .bool false, .bool false, .string (⟨#[]⟩ : ByteArray), .string (⟨#[]⟩ : ByteArray), .int .i64 0, .int .i64 0, .string (⟨#[]⟩ : ByteArray), .string (⟨#[]⟩ : ByteArray), .int .i64 0, .int .i64 0]) ?_ 0 _ rfl; refine ub_ ?_; exact BK140.out⟩
    have n1_ : Aside0 (Below w.heap.size w (((((((((((w25.setCell ⟨gb140, 0, none⟩ (.string ((rd_T45 l0 x7_1).f0))).setCell ⟨gb140, 1, none⟩ (.bool ((rd_T45 l0 x7_1).f1))).setCell ⟨gb140, 2, none⟩ (.bool ((rd_T45 l0 x7_1).f2))).setCell ⟨gb140, 3, none⟩ (.string ((rd_T45 l0 x7_1).f3.f0))).setCell ⟨gb140, 4, none⟩ (.string ((rd_T45 l0 x7_1).f3.f1))).setCell ⟨gb140, 5, none⟩ (.int .i64 ((rd_T45 l0 x7_1).f3.f2))).setCell ⟨gb140, 6, none⟩ (.int .i64 ((rd_T45 l0 x7_1).f3.f3))).setCell ⟨gb140, 7, none⟩ (.string ((rd_T45 l0 x7_1).f4.f0))).setCell ⟨gb140, 8, none⟩ (.string ((rd_T45 l0 x7_1).f4.f1))).setCell ⟨gb140, 9, none⟩ (.int .i64 ((rd_T45 l0 x7_1).f4.f2))).setCell ⟨gb140, 10, none⟩ (.int .i64 ((rd_T45 l0 x7_1).f4.f3)))) := ⟨bes_ GE140.out⟩
    (try clear BK140)
    (try clear HB)
    generalize (((((((((((w25.setCell ⟨gb140, 0, none⟩ (.string ((rd_T45 l0 x7_1).f0))).setCell ⟨gb140, 1, none⟩ (.bool ((rd_T45 l0 x7_1).f1))).setCell ⟨gb140, 2, none⟩ (.bool ((rd_T45 l0 x7_1).f2))).setCell ⟨gb140, 3, none⟩ (.string ((rd_T45 l0 x7_1).f3.f0))).setCell ⟨gb140, 4, none⟩ (.string ((rd_T45 l0 x7_1).f3.f1))).setCell ⟨gb140, 5, none⟩ (.int .i64 ((rd_T45 l0 x7_1).f3.f2))).setCell ⟨gb140, 6, none⟩ (.int .i64 ((rd_T45 l0 x7_1).f3.f3))).setCell ⟨gb140, 7, none⟩ (.string ((rd_T45 l0 x7_1).f4.f0))).setCell ⟨gb140, 8, none⟩ (.string ((rd_T45 l0 x7_1).f4.f1))).setCell ⟨gb140, 9, none⟩ (.int .i64 ((rd_T45 l0 x7_1).f4.f2))).setCell ⟨gb140, 10, none⟩ (.int .i64 ((rd_T45 l0 x7_1).f4.f3))) = w27 at n0_ n1_ ⊢
    have BK140 := n0_
    have HB := n1_
    clear n0_ n1_
    have n0_ := Aside0.mk (blk_drew BK140.out)
    have n1_ := Aside0.mk (below_drew1 HB.out)
    clear BK140
    clear HB
    have BK140 := n0_
    have HB := n1_
    clear n0_ n1_
    refine start_ (n := 19) (S := fun w' => w'.cell? ⟨gb140, 0, none⟩ = some (.string ((rd_T45 l0 x7_1).f0)) ∧ w'.cell? ⟨gb140, 1, none⟩ = some (.bool ((rd_T45 l0 x7_1).f1)) ∧ w'.cell? ⟨gb140, 2, none⟩ = some (.bool ((rd_T45 l0 x7_1).f2)) ∧ w'.cell? ⟨gb140, 3, none⟩ = some (.string ((rd_T45 l0 x7_1).f3.f0)) ∧ w'.cell? ⟨gb140, 4, none⟩ = some (.string ((rd_T45 l0 x7_1).f3.f1)) ∧ w'.cell? ⟨gb140, 5, none⟩ = some (.int .i64 ((rd_T45 l0 x7_1).f3.f2)) ∧ w'.cell? ⟨gb140, 6, none⟩ = some (.int .i64 ((rd_T45 l0 x7_1).f3.f3)) ∧ w'.cell? ⟨gb140, 7, none⟩ = some (.string ((rd_T45 l0 x7_1).f4.f0)) ∧ w'.cell? ⟨gb140, 8, none⟩ = some (.string ((rd_T45 l0 x7_1).f4.f1)) ∧ w'.cell? ⟨gb140, 9, none⟩ = some (.int .i64 ((rd_T45 l0 x7_1).f4.f2)) ∧ w'.cell? ⟨gb140, 10, none⟩ = some (.int .i64 ((rd_T45 l0 x7_1).f4.f3))) (ds := []) (lb 19 0) (by kernel_rfl) rfl rfl ⟨(blk_cell BK140.out 0).trans rfl, (blk_cell BK140.out 1).trans rfl, (blk_cell BK140.out 2).trans rfl, (blk_cell BK140.out 3).trans rfl, (blk_cell BK140.out 4).trans rfl, (blk_cell BK140.out 5).trans rfl, (blk_cell BK140.out 6).trans rfl, (blk_cell BK140.out 7).trans rfl, (blk_cell BK140.out 8).trans rfl, (blk_cell BK140.out 9).trans rfl, (blk_cell BK140.out 10).trans rfl⟩ (fun hHeld => ?_); refine with_tabW delta_Valid.tab4 delta_Valid.bits4 (fun HT_ HW_ => ?_)
    generalize w27.drew = w28 at BK140 HB hHeld ⊢
    refine tk_ 0 12 (lb 19 1) HT_.out HW_.out hHeld ?_
    refine one_ (i := 1) (N := some 13) (lb 19 3) rfl rfl (one_of HT_.out (by kernel_rfl)) (by decide) (fun K hK => ?_)
    refine goes_ Tryz.func23 (by kernel_rfl) rfl #[.agg #[.string ((rd_T45 l0 x7_1).f0), .bool ((rd_T45 l0 x7_1).f1), .bool ((rd_T45 l0 x7_1).f2), .string ((rd_T45 l0 x7_1).f3.f0), .string ((rd_T45 l0 x7_1).f3.f1), .int .i64 ((rd_T45 l0 x7_1).f3.f2), .int .i64 ((rd_T45 l0 x7_1).f3.f3), .string ((rd_T45 l0 x7_1).f4.f0), .string ((rd_T45 l0 x7_1).f4.f1), .int .i64 ((rd_T45 l0 x7_1).f4.f2), .int .i64 ((rd_T45 l0 x7_1).f4.f3)]] (by rfl) rfl rfl (mp_) ?_
    with_reducible refine (delta_may.calls k1 ((rd_T45 l0 x7_1).f0) ((rd_T45 l0 x7_1).f1) ((rd_T45 l0 x7_1).f2) ((rd_T45 l0 x7_1).f3.f0) ((rd_T45 l0 x7_1).f3.f1) ((rd_T45 l0 x7_1).f3.f2) ((rd_T45 l0 x7_1).f3.f3) ((rd_T45 l0 x7_1).f4.f0) ((rd_T45 l0 x7_1).f4.f1) ((rd_T45 l0 x7_1).f4.f2) ((rd_T45 l0 x7_1).f4.f3) true _ A5.out).mono ?_
    rintro e w29 ⟨rfl, hb⟩
    refine ⟨_, rfl, ?_⟩
    have n0_ := Aside0.mk (blk_below (g := gb140) (o := .cells #[.string ((rd_T45 l0 x7_1).f0), .bool ((rd_T45 l0 x7_1).f1), .bool ((rd_T45 l0 x7_1).f2), .string ((rd_T45 l0 x7_1).f3.f0), .string ((rd_T45 l0 x7_1).f3.f1), .int .i64 ((rd_T45 l0 x7_1).f3.f2), .int .i64 ((rd_T45 l0 x7_1).f3.f3), .string ((rd_T45 l0 x7_1).f4.f0), .string ((rd_T45 l0 x7_1).f4.f1), .int .i64 ((rd_T45 l0 x7_1).f4.f2), .int .i64 ((rd_T45 l0 x7_1).f4.f3)] 45 (0, 0)) (ub_ BK140.out) hb)
    have n1_ := Aside0.mk (below_step (bes_ GE140.out) hb)
    clear BK140
    clear HB
    have BK140 := n0_
    have HB := n1_
    clear n0_ n1_
    (try clear hb)
    (try clear hb2)
    (try clear hk)
    (try clear hi)
    refine hK.out _ _ ⟨(blk_cell BK140.out 0).trans rfl, (blk_cell BK140.out 1).trans rfl, (blk_cell BK140.out 2).trans rfl, (blk_cell BK140.out 3).trans rfl, (blk_cell BK140.out 4).trans rfl, (blk_cell BK140.out 5).trans rfl, (blk_cell BK140.out 6).trans rfl, (blk_cell BK140.out 7).trans rfl, (blk_cell BK140.out 8).trans rfl, (blk_cell BK140.out 9).trans rfl, (blk_cell BK140.out 10).trans rfl⟩ (fun hHeld => ?_)
    clear hK K
    refine norm_ (a' := ?_) ?_ ?_
    rotate_left
    ·show Act.put _ (some 13) _ = _
     simp only [Act.put, List.setIfInBounds_toArray, List.set_cons_zero, List.set_cons_succ, i64_w, i32_w]
     rfl
    refine pv_ 2 14 (lb 19 7) HT_.out ?_
    refine pv_ 3 15 (lb 19 15) HT_.out ?_
    refine pv_ 4 16 (lb 19 31) HT_.out ?_
    refine pv_ 5 17 (lb 19 63) HT_.out ?_
    refine pv_ 6 18 (lb 19 127) HT_.out ?_
    refine pg_ 7 19 (lb 19 255) HT_.out ?_
    refine pg_ 8 20 (lb 19 511) HT_.out ?_
    refine pg_ 9 21 (lb 19 1023) HT_.out ?_
    refine pg_ 10 22 (lb 19 2047) HT_.out ?_
    refine pg_ 11 23 (lb 19 4095) HT_.out ?_
    refine pg_ 12 24 (lb 19 8191) HT_.out ?_
    refine pg_ 13 25 (lb 19 16383) HT_.out ?_
    refine pg_ 14 26 (lb 19 32767) HT_.out ?_
    refine pg_ 15 27 (lb 19 65535) HT_.out ?_
    refine pg_ 16 28 (lb 19 131071) HT_.out ?_
    refine pv_ 17 29 (lb 19 262143) HT_.out ?_
    refine pv_ 18 30 (lb 19 524287) HT_.out ?_
    refine done_ (done_of HT_.out (by kernel_rfl)) ?_
    try go_wp2
    go_roundg k1
    case measure => have := HK1.out; omega
    case rel => exact ⟨(wrap64 (x7_1 + 1)), (rf_), H', ⟨by have := HK1.out; omega⟩, ⟨bes_ GE140.out⟩⟩
   rw [if_pos c7] at H
   have c7b0 := decide_eq_true c7
   clear c7
   obtain ⟨ji8, hji8⟩ : ∃ j_ : Int, (wrap64 (x7_1 - 1)) = j_ := ⟨_, rfl⟩
   replace H : (if 0 ≤ (ji8) then (if (ji8) < (l0.length : Int) then ((path_Cmp.f k1 ((rd_T45 l0 (ji8)).f0) ((rd_T45 l0 x7_1).f0)).bind fun t143 => (if t143 ≥ 0 then (some false) else (delta_Valid.l0 k1 l0 l0 (l0.length : Int) (wrap64 (x7_1 + 1))))) else (none)) else (none)) = some r := by first | (rw [hji8] at H; exact H) | (simp only [hji8] at H ⊢; exact H)
   (try rw [hji8] at A5)
   have hji8w : (IntKind.i64.wrap (x7_1 - 1)) = ji8 := (i64_w _).trans hji8
   by_cases c9 : 0 ≤ (ji8)
   rotate_left
   ·rw [if_neg c9] at H
    exact absurd H (by simp)
   rw [if_pos c9] at H
   have c9b0 := decide_eq_true c9
   clear c9
   by_cases c10 : (ji8) < (l0.length : Int)
   rotate_left
   ·rw [if_neg c10] at H
    exact absurd H (by simp)
   rw [if_pos c10] at H
   have c10b0 := decide_eq_true c10
   clear c10
   replace H := Option.bind_eq_some_iff.mp H
   obtain ⟨t143, A110, H⟩ := H
   try dsimp only at H
   have A11 := Aside0.mk A110
   clear A110
   by_cases c12 : t143 ≥ 0
   ·rw [if_pos c12] at H
    have c12b0 := decide_eq_true c12
    clear c12
    obtain rfl := Option.some.inj H
    have p139 : 0 ≤ (x7_1 : Int) := of_decide_eq_true (by assumption)
    have q139 : x7_1 < (l0.length : Int) := of_decide_eq_true (by assumption)
    obtain ⟨ad139, e139, hx139_0, hx139_1, hx139_2, hx139_3, hx139_4, hx139_5, hx139_6, hx139_7, hx139_8, hx139_9, hx139_10⟩ := at_T45 HR0.out x7_1 p139 q139
    cases e139
    replace hx139_0 := hk_ HB.out hx139_0
    replace hx139_1 := hk_ HB.out hx139_1
    replace hx139_2 := hk_ HB.out hx139_2
    replace hx139_3 := hk_ HB.out hx139_3
    replace hx139_4 := hk_ HB.out hx139_4
    replace hx139_5 := hk_ HB.out hx139_5
    replace hx139_6 := hk_ HB.out hx139_6
    replace hx139_7 := hk_ HB.out hx139_7
    replace hx139_8 := hk_ HB.out hx139_8
    replace hx139_9 := hk_ HB.out hx139_9
    replace hx139_10 := hk_ HB.out hx139_10
    replace p139 := eq_true p139
    replace q139 := eq_true q139
    try go_wp2_with (first | ((with_reducible refine gate_dst (N := 4) rfl ?_); refine box_event ?hg (N := 4) ?hd (cs := #[.string (⟨#[]⟩ : ByteArray), .bool false, .bool false, .string (⟨#[]⟩ : ByteArray), .string (⟨#[]⟩ : ByteArray), .int .i64 0, .int .i64 0, .string (⟨#[]⟩ : ByteArray), .string (⟨#[]⟩ : ByteArray), .int .i64 0, .int .i64 0]) (t := 45) ?hr ?_; (case hd => rfl); (case hg => rfl); (case hr => first | (go_simp; done) | (go_simp; rfl)); intro gb140 hg w13 hbox hb; have n0_ := Aside0.mk (below_step (bel_) hb); have n1_ := Aside0.mk (hbox); have n2_ := Aside0.mk ((by rw [hg]; exact (below_size (bel_)) : w.heap.size ≤ gb140)); have n3_ := Aside0.mk ((by rw [hg]; exact (below_size (bel_)) : w.heap.size ≤ gb140)); clear HB; have HB := n0_; have BK140 := n1_; have GW140 := n2_; have GE140 := n3_; clear n0_ n1_ n2_ n3_; clear hb hbox hg; have hcz14_0 : w13.cell? ⟨gb140, 0, none⟩ = some (.string (⟨#[]⟩ : ByteArray)) := (blk_cell BK140.out 0).trans rfl; have hcz14_1 : w13.cell? ⟨gb140, 1, none⟩ = some (.bool false) := (blk_cell BK140.out 1).trans rfl; have hcz14_2 : w13.cell? ⟨gb140, 2, none⟩ = some (.bool false) := (blk_cell BK140.out 2).trans rfl; have hcz14_3 : w13.cell? ⟨gb140, 3, none⟩ = some (.string (⟨#[]⟩ : ByteArray)) := (blk_cell BK140.out 3).trans rfl; have hcz14_4 : w13.cell? ⟨gb140, 4, none⟩ = some (.string (⟨#[]⟩ : ByteArray)) := (blk_cell BK140.out 4).trans rfl; have hcz14_5 : w13.cell? ⟨gb140, 5, none⟩ = some (.int .i64 0) := (blk_cell BK140.out 5).trans rfl; have hcz14_6 : w13.cell? ⟨gb140, 6, none⟩ = some (.int .i64 0) := (blk_cell BK140.out 6).trans rfl; have hcz14_7 : w13.cell? ⟨gb140, 7, none⟩ = some (.string (⟨#[]⟩ : ByteArray)) := (blk_cell BK140.out 7).trans rfl; have hcz14_8 : w13.cell? ⟨gb140, 8, none⟩ = some (.string (⟨#[]⟩ : ByteArray)) := (blk_cell BK140.out 8).trans rfl; have hcz14_9 : w13.cell? ⟨gb140, 9, none⟩ = some (.int .i64 0) := (blk_cell BK140.out 9).trans rfl; have hcz14_10 : w13.cell? ⟨gb140, 10, none⟩ = some (.int .i64 0) := (blk_cell BK140.out 10).trans rfl; have hfz14_0 := blk_frozen BK140.out 0; have hfz14_1 := blk_frozen BK140.out 1; have hfz14_2 := blk_frozen BK140.out 2; have hfz14_3 := blk_frozen BK140.out 3; have hfz14_4 := blk_frozen BK140.out 4; have hfz14_5 := blk_frozen BK140.out 5; have hfz14_6 := blk_frozen BK140.out 6; have hfz14_7 := blk_frozen BK140.out 7; have hfz14_8 := blk_frozen BK140.out 8; have hfz14_9 := blk_frozen BK140.out 9; have hfz14_10 := blk_frozen BK140.out 10))
    have n0_ : Aside0 ((((((((((((w13.setCell ⟨gb140, 0, none⟩ (.string ((rd_T45 l0 x7_1).f0))).setCell ⟨gb140, 1, none⟩ (.bool ((rd_T45 l0 x7_1).f1))).setCell ⟨gb140, 2, none⟩ (.bool ((rd_T45 l0 x7_1).f2))).setCell ⟨gb140, 3, none⟩ (.string ((rd_T45 l0 x7_1).f3.f0))).setCell ⟨gb140, 4, none⟩ (.string ((rd_T45 l0 x7_1).f3.f1))).setCell ⟨gb140, 5, none⟩ (.int .i64 ((rd_T45 l0 x7_1).f3.f2))).setCell ⟨gb140, 6, none⟩ (.int .i64 ((rd_T45 l0 x7_1).f3.f3))).setCell ⟨gb140, 7, none⟩ (.string ((rd_T45 l0 x7_1).f4.f0))).setCell ⟨gb140, 8, none⟩ (.string ((rd_T45 l0 x7_1).f4.f1))).setCell ⟨gb140, 9, none⟩ (.int .i64 ((rd_T45 l0 x7_1).f4.f2))).setCell ⟨gb140, 10, none⟩ (.int .i64 ((rd_T45 l0 x7_1).f4.f3))).heap[gb140]? = some (.cells #[.string ((rd_T45 l0 x7_1).f0), .bool ((rd_T45 l0 x7_1).f1), .bool ((rd_T45 l0 x7_1).f2), .string ((rd_T45 l0 x7_1).f3.f0), .string ((rd_T45 l0 x7_1).f3.f1), .int .i64 ((rd_T45 l0 x7_1).f3.f2), .int .i64 ((rd_T45 l0 x7_1).f3.f3), .string ((rd_T45 l0 x7_1).f4.f0), .string ((rd_T45 l0 x7_1).f4.f1), .int .i64 ((rd_T45 l0 x7_1).f4.f2), .int .i64 ((rd_T45 l0 x7_1).f4.f3)] 45 (0, 0))) := ⟨by refine ub_ ?_; refine blk_put (cs := #[.string ((rd_T45 l0 x7_1).f0), .bool ((rd_T45 l0 x7_1).f1), .bool ((rd_T45 l0 x7_1).f2), .string ((rd_T45 l0 x7_1).f3.f0), .string ((rd_T45 l0 x7_1).f3.f1), .int .i64 ((rd_T45 l0 x7_1).f3.f2), .int .i64 ((rd_T45 l0 x7_1).f3.f3), .string ((rd_T45 l0 x7_1).f4.f0), .string ((rd_T45 l0 x7_1).f4.f1), .int .i64 ((rd_T45 l0 x7_1).f4.f2), .int .i64 0]) ?_ 10 _ rfl; refine ub_ ?_; refine blk_put (cs := #[.string ((rd_T45 l0 x7_1).f0), .bool ((rd_T45 l0 x7_1).f1), .bool ((rd_T45 l0 x7_1).f2), .string ((rd_T45 l0 x7_1).f3.f0), .string ((rd_T45 l0 x7_1).f3.f1), .int .i64 ((rd_T45 l0 x7_1).f3.f2), .int .i64 ((rd_T45 l0 x7_1).f3.f3), .string ((rd_T45 l0 x7_1).f4.f0), .string ((rd_T45 l0 x7_1).f4.f1), .int .i64 0, .int .i64 0]) ?_ 9 _ rfl; refine ub_ ?_; refine blk_put (cs := #[.string ((rd_T45 l0 x7_1).f0), .bool ((rd_T45 l0 x7_1).f1), .bool ((rd_T45 l0 x7_1).f2), .string ((rd_T45 l0 x7_1).f3.f0), .string ((rd_T45 l0 x7_1).f3.f1), .int .i64 ((rd_T45 l0 x7_1).f3.f2), .int .i64 ((rd_T45 l0 x7_1).f3.f3), .string ((rd_T45 l0 x7_1).f4.f0), .string (⟨#[]⟩ : ByteArray), .int .i64 0, .int .i64 0]) ?_ 8 _ rfl; refine ub_ ?_; refine blk_put (cs := #[.string ((rd_T45 l0 x7_1).f0), .bool ((rd_T45 l0 x7_1).f1), .bool ((rd_T45 l0 x7_1).f2), .string ((rd_T45 l0 x7_1).f3.f0), .string ((rd_T45 l0 x7_1).f3.f1), .int .i64 ((rd_T45 l0 x7_1).f3.f2), .int .i64 ((rd_T45 l0 x7_1).f3.f3), .string (⟨#[]⟩ : ByteArray), .string (⟨#[]⟩ : ByteArray), .int .i64 0, .int .i64 0]) ?_ 7 _ rfl; refine ub_ ?_; refine blk_put (cs := #[.string ((rd_T45 l0 x7_1).f0), .bool ((rd_T45 l0 x7_1).f1), .bool ((rd_T45 l0 x7_1).f2), .string ((rd_T45 l0 x7_1).f3.f0), .string ((rd_T45 l0 x7_1).f3.f1), .int .i64 ((rd_T45 l0 x7_1).f3.f2), .int .i64 0, .string (⟨#[]⟩ : ByteArray), .string (⟨#[]⟩ : ByteArray), .int .i64 0, .int .i64 0]) ?_ 6 _ rfl; refine ub_ ?_; refine blk_put (cs := #[.string ((rd_T45 l0 x7_1).f0), .bool ((rd_T45 l0 x7_1).f1), .bool ((rd_T45 l0 x7_1).f2), .string ((rd_T45 l0 x7_1).f3.f0), .string ((rd_T45 l0 x7_1).f3.f1), .int .i64 0, .int .i64 0, .string (⟨#[]⟩ : ByteArray), .string (⟨#[]⟩ : ByteArray), .int .i64 0, .int .i64 0]) ?_ 5 _ rfl; refine ub_ ?_; refine blk_put (cs := #[.string ((rd_T45 l0 x7_1).f0), .bool ((rd_T45 l0 x7_1).f1), .bool ((rd_T45 l0 x7_1).f2), .string ((rd_T45 l0 x7_1).f3.f0), .string (⟨#[]⟩ : ByteArray), .int .i64 0, .int .i64 0, .string (⟨#[]⟩ : ByteArray), .string (⟨#[]⟩ : ByteArray), .int .i64 0, .int .i64 0]) ?_ 4 _ rfl; refine ub_ ?_; refine blk_put (cs := #[.string ((rd_T45 l0 x7_1).f0), .bool ((rd_T45 l0 x7_1).f1), .bool ((rd_T45 l0 x7_1).f2), .string (⟨#[]⟩ : ByteArray), .string (⟨#[]⟩ : ByteArray), .int .i64 0, .int .i64 0, .string (⟨#[]⟩ : ByteArray), .string (⟨#[]⟩ : ByteArray), .int .i64 0, .int .i64 0]) ?_ 3 _ rfl; refine ub_ ?_; refine blk_put (cs := #[.string ((rd_T45 l0 x7_1).f0), .bool ((rd_T45 l0 x7_1).f1), .bool false, .string (⟨#[]⟩ : ByteArray), .string (⟨#[]⟩ : ByteArray), .int .i64 0, .int .i64 0, .string (⟨#[]⟩ : ByteArray), .string (⟨#[]⟩ : ByteArray), .int .i64 0, .int .i64 0]) ?_ 2 _ rfl; refine ub_ ?_; refine blk_put (cs := #[.string ((rd_T45 l0 x7_1).f0), .bool false, .bool false, .string (⟨#[]⟩ : ByteArray), .string (⟨#[]⟩ : ByteArray), .int .i64 0, .int .i64 0, .string (⟨#[]⟩ : ByteArray), .string (⟨#[]⟩ : ByteArray), .int .i64 0, .int .i64 0]) ?_ 1 _ rfl; refine ub_ ?_; refine blk_put (cs := #[.string (⟨#[]⟩ : ByteArray), .bool false, .bool false, .string (⟨#[]⟩ : ByteArray), .string (⟨#[]⟩ : ByteArray), .int .i64 0, .int .i64 0, .string (⟨#[]⟩ : ByteArray), .string (⟨#[]⟩ : ByteArray), .int .i64 0, .int .i64 0]) ?_ 0 _ rfl; refine ub_ ?_; exact BK140.out⟩
    have n1_ : Aside0 (Below w.heap.size w (((((((((((w13.setCell ⟨gb140, 0, none⟩ (.string ((rd_T45 l0 x7_1).f0))).setCell ⟨gb140, 1, none⟩ (.bool ((rd_T45 l0 x7_1).f1))).setCell ⟨gb140, 2, none⟩ (.bool ((rd_T45 l0 x7_1).f2))).setCell ⟨gb140, 3, none⟩ (.string ((rd_T45 l0 x7_1).f3.f0))).setCell ⟨gb140, 4, none⟩ (.string ((rd_T45 l0 x7_1).f3.f1))).setCell ⟨gb140, 5, none⟩ (.int .i64 ((rd_T45 l0 x7_1).f3.f2))).setCell ⟨gb140, 6, none⟩ (.int .i64 ((rd_T45 l0 x7_1).f3.f3))).setCell ⟨gb140, 7, none⟩ (.string ((rd_T45 l0 x7_1).f4.f0))).setCell ⟨gb140, 8, none⟩ (.string ((rd_T45 l0 x7_1).f4.f1))).setCell ⟨gb140, 9, none⟩ (.int .i64 ((rd_T45 l0 x7_1).f4.f2))).setCell ⟨gb140, 10, none⟩ (.int .i64 ((rd_T45 l0 x7_1).f4.f3)))) := ⟨bes_ GE140.out⟩
    (try clear BK140)
    (try clear HB)
    generalize (((((((((((w13.setCell ⟨gb140, 0, none⟩ (.string ((rd_T45 l0 x7_1).f0))).setCell ⟨gb140, 1, none⟩ (.bool ((rd_T45 l0 x7_1).f1))).setCell ⟨gb140, 2, none⟩ (.bool ((rd_T45 l0 x7_1).f2))).setCell ⟨gb140, 3, none⟩ (.string ((rd_T45 l0 x7_1).f3.f0))).setCell ⟨gb140, 4, none⟩ (.string ((rd_T45 l0 x7_1).f3.f1))).setCell ⟨gb140, 5, none⟩ (.int .i64 ((rd_T45 l0 x7_1).f3.f2))).setCell ⟨gb140, 6, none⟩ (.int .i64 ((rd_T45 l0 x7_1).f3.f3))).setCell ⟨gb140, 7, none⟩ (.string ((rd_T45 l0 x7_1).f4.f0))).setCell ⟨gb140, 8, none⟩ (.string ((rd_T45 l0 x7_1).f4.f1))).setCell ⟨gb140, 9, none⟩ (.int .i64 ((rd_T45 l0 x7_1).f4.f2))).setCell ⟨gb140, 10, none⟩ (.int .i64 ((rd_T45 l0 x7_1).f4.f3))) = w15 at n0_ n1_ ⊢
    have BK140 := n0_
    have HB := n1_
    clear n0_ n1_
    have n0_ := Aside0.mk (blk_drew BK140.out)
    have n1_ := Aside0.mk (below_drew1 HB.out)
    clear BK140
    clear HB
    have BK140 := n0_
    have HB := n1_
    clear n0_ n1_
    have p142 : 0 ≤ ((ji8) : Int) := of_decide_eq_true (by assumption)
    have q142 : (ji8) < (l0.length : Int) := of_decide_eq_true (by assumption)
    obtain ⟨ad142, e142, hx142_0, hx142_1, hx142_2, hx142_3, hx142_4, hx142_5, hx142_6, hx142_7, hx142_8, hx142_9, hx142_10⟩ := at_T45 HR0.out (ji8) p142 q142
    have hw142_10 := hx142_10
    have hw142_9 := hx142_9
    have hw142_8 := hx142_8
    have hw142_7 := hx142_7
    have hw142_6 := hx142_6
    have hw142_5 := hx142_5
    have hw142_4 := hx142_4
    have hw142_3 := hx142_3
    have hw142_2 := hx142_2
    have hw142_1 := hx142_1
    have hw142_0 := hx142_0
    obtain rfl : ad139 = ad142 := (by injection e142)
    replace hx142_0 := hk_ HB.out hx142_0
    replace hx142_1 := hk_ HB.out hx142_1
    replace hx142_2 := hk_ HB.out hx142_2
    replace hx142_3 := hk_ HB.out hx142_3
    replace hx142_4 := hk_ HB.out hx142_4
    replace hx142_5 := hk_ HB.out hx142_5
    replace hx142_6 := hk_ HB.out hx142_6
    replace hx142_7 := hk_ HB.out hx142_7
    replace hx142_8 := hk_ HB.out hx142_8
    replace hx142_9 := hk_ HB.out hx142_9
    replace hx142_10 := hk_ HB.out hx142_10
    replace p142 := eq_true p142
    replace q142 := eq_true q142
    refine start_ (n := 19) (S := fun w' => w'.cell? ⟨gb140, 0, none⟩ = some (.string ((rd_T45 l0 x7_1).f0)) ∧ w'.cell? ⟨gb140, 1, none⟩ = some (.bool ((rd_T45 l0 x7_1).f1)) ∧ w'.cell? ⟨gb140, 2, none⟩ = some (.bool ((rd_T45 l0 x7_1).f2)) ∧ w'.cell? ⟨gb140, 3, none⟩ = some (.string ((rd_T45 l0 x7_1).f3.f0)) ∧ w'.cell? ⟨gb140, 4, none⟩ = some (.string ((rd_T45 l0 x7_1).f3.f1)) ∧ w'.cell? ⟨gb140, 5, none⟩ = some (.int .i64 ((rd_T45 l0 x7_1).f3.f2)) ∧ w'.cell? ⟨gb140, 6, none⟩ = some (.int .i64 ((rd_T45 l0 x7_1).f3.f3)) ∧ w'.cell? ⟨gb140, 7, none⟩ = some (.string ((rd_T45 l0 x7_1).f4.f0)) ∧ w'.cell? ⟨gb140, 8, none⟩ = some (.string ((rd_T45 l0 x7_1).f4.f1)) ∧ w'.cell? ⟨gb140, 9, none⟩ = some (.int .i64 ((rd_T45 l0 x7_1).f4.f2)) ∧ w'.cell? ⟨gb140, 10, none⟩ = some (.int .i64 ((rd_T45 l0 x7_1).f4.f3)) ∧ w'.cell? (ad139.add (((ji8)).toNat * 11)) = some (.string ((rd_T45 l0 (ji8)).f0)) ∧ w'.cell? ⟨(ad139.add (((ji8)).toNat * 11)).block, (ad139.add (((ji8)).toNat * 11)).off + 1, none⟩ = some (.bool ((rd_T45 l0 (ji8)).f1)) ∧ w'.cell? ⟨(ad139.add (((ji8)).toNat * 11)).block, (ad139.add (((ji8)).toNat * 11)).off + 2, none⟩ = some (.bool ((rd_T45 l0 (ji8)).f2)) ∧ w'.cell? ⟨(ad139.add (((ji8)).toNat * 11)).block, (ad139.add (((ji8)).toNat * 11)).off + 3, none⟩ = some (.string ((rd_T45 l0 (ji8)).f3.f0)) ∧ w'.cell? ⟨(ad139.add (((ji8)).toNat * 11)).block, (ad139.add (((ji8)).toNat * 11)).off + 4, none⟩ = some (.string ((rd_T45 l0 (ji8)).f3.f1)) ∧ w'.cell? ⟨(ad139.add (((ji8)).toNat * 11)).block, (ad139.add (((ji8)).toNat * 11)).off + 5, none⟩ = some (.int .i64 ((rd_T45 l0 (ji8)).f3.f2)) ∧ w'.cell? ⟨(ad139.add (((ji8)).toNat * 11)).block, (ad139.add (((ji8)).toNat * 11)).off + 6, none⟩ = some (.int .i64 ((rd_T45 l0 (ji8)).f3.f3)) ∧ w'.cell? ⟨(ad139.add (((ji8)).toNat * 11)).block, (ad139.add (((ji8)).toNat * 11)).off + 7, none⟩ = some (.string ((rd_T45 l0 (ji8)).f4.f0)) ∧ w'.cell? ⟨(ad139.add (((ji8)).toNat * 11)).block, (ad139.add (((ji8)).toNat * 11)).off + 8, none⟩ = some (.string ((rd_T45 l0 (ji8)).f4.f1)) ∧ w'.cell? ⟨(ad139.add (((ji8)).toNat * 11)).block, (ad139.add (((ji8)).toNat * 11)).off + 9, none⟩ = some (.int .i64 ((rd_T45 l0 (ji8)).f4.f2)) ∧ w'.cell? ⟨(ad139.add (((ji8)).toNat * 11)).block, (ad139.add (((ji8)).toNat * 11)).off + 10, none⟩ = some (.int .i64 ((rd_T45 l0 (ji8)).f4.f3))) (ds := []) (lb 19 0) (by kernel_rfl) rfl rfl ⟨(blk_cell BK140.out 0).trans rfl, (blk_cell BK140.out 1).trans rfl, (blk_cell BK140.out 2).trans rfl, (blk_cell BK140.out 3).trans rfl, (blk_cell BK140.out 4).trans rfl, (blk_cell BK140.out 5).trans rfl, (blk_cell BK140.out 6).trans rfl, (blk_cell BK140.out 7).trans rfl, (blk_cell BK140.out 8).trans rfl, (blk_cell BK140.out 9).trans rfl, (blk_cell BK140.out 10).trans rfl, (hk_ HB.out hw142_0), (hk_ HB.out hw142_1), (hk_ HB.out hw142_2), (hk_ HB.out hw142_3), (hk_ HB.out hw142_4), (hk_ HB.out hw142_5), (hk_ HB.out hw142_6), (hk_ HB.out hw142_7), (hk_ HB.out hw142_8), (hk_ HB.out hw142_9), (hk_ HB.out hw142_10)⟩ (fun hHeld => ?_); refine with_tabW delta_Valid.tab4 delta_Valid.bits4 (fun HT_ HW_ => ?_)
    generalize w15.drew = w16 at BK140 HB hx142_0 hx142_1 hx142_10 hx142_2 hx142_3 hx142_4 hx142_5 hx142_6 hx142_7 hx142_8 hx142_9 hHeld ⊢
    refine tk_ 0 12 (lb 19 1) HT_.out HW_.out hHeld ?_
    refine one_ (i := 1) (N := some 13) (lb 19 3) rfl rfl (one_of HT_.out (by kernel_rfl)) (by decide) (fun K hK => ?_)
    refine goes_ Tryz.func23 (by kernel_rfl) rfl #[.agg #[.string ((rd_T45 l0 x7_1).f0), .bool ((rd_T45 l0 x7_1).f1), .bool ((rd_T45 l0 x7_1).f2), .string ((rd_T45 l0 x7_1).f3.f0), .string ((rd_T45 l0 x7_1).f3.f1), .int .i64 ((rd_T45 l0 x7_1).f3.f2), .int .i64 ((rd_T45 l0 x7_1).f3.f3), .string ((rd_T45 l0 x7_1).f4.f0), .string ((rd_T45 l0 x7_1).f4.f1), .int .i64 ((rd_T45 l0 x7_1).f4.f2), .int .i64 ((rd_T45 l0 x7_1).f4.f3)]] (by rfl) rfl rfl (mp_) ?_
    with_reducible refine (delta_may.calls k1 ((rd_T45 l0 x7_1).f0) ((rd_T45 l0 x7_1).f1) ((rd_T45 l0 x7_1).f2) ((rd_T45 l0 x7_1).f3.f0) ((rd_T45 l0 x7_1).f3.f1) ((rd_T45 l0 x7_1).f3.f2) ((rd_T45 l0 x7_1).f3.f3) ((rd_T45 l0 x7_1).f4.f0) ((rd_T45 l0 x7_1).f4.f1) ((rd_T45 l0 x7_1).f4.f2) ((rd_T45 l0 x7_1).f4.f3) true _ A5.out).mono ?_
    rintro e w17 ⟨rfl, hb⟩
    refine ⟨_, rfl, ?_⟩
    have n0_ := Aside0.mk (blk_below (g := gb140) (o := .cells #[.string ((rd_T45 l0 x7_1).f0), .bool ((rd_T45 l0 x7_1).f1), .bool ((rd_T45 l0 x7_1).f2), .string ((rd_T45 l0 x7_1).f3.f0), .string ((rd_T45 l0 x7_1).f3.f1), .int .i64 ((rd_T45 l0 x7_1).f3.f2), .int .i64 ((rd_T45 l0 x7_1).f3.f3), .string ((rd_T45 l0 x7_1).f4.f0), .string ((rd_T45 l0 x7_1).f4.f1), .int .i64 ((rd_T45 l0 x7_1).f4.f2), .int .i64 ((rd_T45 l0 x7_1).f4.f3)] 45 (0, 0)) (ub_ BK140.out) hb)
    have n1_ := Aside0.mk (below_step (bes_ GE140.out) hb)
    clear BK140
    clear HB
    have BK140 := n0_
    have HB := n1_
    clear n0_ n1_
    (try clear hb)
    (try clear hb2)
    (try clear hk)
    (try clear hi)
    refine hK.out _ _ ⟨(blk_cell BK140.out 0).trans rfl, (blk_cell BK140.out 1).trans rfl, (blk_cell BK140.out 2).trans rfl, (blk_cell BK140.out 3).trans rfl, (blk_cell BK140.out 4).trans rfl, (blk_cell BK140.out 5).trans rfl, (blk_cell BK140.out 6).trans rfl, (blk_cell BK140.out 7).trans rfl, (blk_cell BK140.out 8).trans rfl, (blk_cell BK140.out 9).trans rfl, (blk_cell BK140.out 10).trans rfl, (hk_ HB.out hw142_0), (hk_ HB.out hw142_1), (hk_ HB.out hw142_2), (hk_ HB.out hw142_3), (hk_ HB.out hw142_4), (hk_ HB.out hw142_5), (hk_ HB.out hw142_6), (hk_ HB.out hw142_7), (hk_ HB.out hw142_8), (hk_ HB.out hw142_9), (hk_ HB.out hw142_10)⟩ (fun hHeld => ?_)
    clear hK K
    refine norm_ (a' := ?_) ?_ ?_
    rotate_left
    ·show Act.put _ (some 13) _ = _
     simp only [Act.put, List.setIfInBounds_toArray, List.set_cons_zero, List.set_cons_succ, i64_w, i32_w]
     rfl
    refine pv_ 2 14 (lb 19 7) HT_.out ?_
    refine pv_ 3 15 (lb 19 15) HT_.out ?_
    refine pv_ 4 16 (lb 19 31) HT_.out ?_
    refine pv_ 5 17 (lb 19 63) HT_.out ?_
    refine pv_ 6 18 (lb 19 127) HT_.out ?_
    refine pv_ 7 19 (lb 19 255) HT_.out ?_
    refine pv_ 8 20 (lb 19 511) HT_.out ?_
    refine pv_ 9 21 (lb 19 1023) HT_.out ?_
    refine pv_ 10 22 (lb 19 2047) HT_.out ?_
    refine pv_ 11 23 (lb 19 4095) HT_.out ?_
    refine pv_ 13 25 (lb 19 12287) HT_.out ?_
    refine tk_ 12 24 (lb 19 16383) HT_.out HW_.out hHeld ?_
    refine tk_ 14 26 (lb 19 32767) HT_.out HW_.out hHeld ?_
    refine one_ (i := 15) (N := some 27) (lb 19 65535) rfl rfl (one_of HT_.out (by kernel_rfl)) (by decide) (fun K hK => ?_)
    refine goes_ Tryz.func24 (by kernel_rfl) rfl #[.string ((rd_T45 l0 (ji8)).f0), .string ((rd_T45 l0 x7_1).f0)] (by rfl) rfl rfl (by (try simp only [List.map_toArray, List.map_cons, List.map_nil]); first | done | (simp only [hji8]; rfl) | rfl | (simp only [List.length_drop, List.length_take]; rfl)) ?_
    with_reducible refine (path_Cmp.calls k1 ((rd_T45 l0 (ji8)).f0) ((rd_T45 l0 x7_1).f0) t143 _ A11.out).mono ?_
    rintro e w18 ⟨rfl, hb⟩
    refine ⟨_, rfl, ?_⟩
    have n0_ := Aside0.mk (blk_below (g := gb140) (o := .cells #[.string ((rd_T45 l0 x7_1).f0), .bool ((rd_T45 l0 x7_1).f1), .bool ((rd_T45 l0 x7_1).f2), .string ((rd_T45 l0 x7_1).f3.f0), .string ((rd_T45 l0 x7_1).f3.f1), .int .i64 ((rd_T45 l0 x7_1).f3.f2), .int .i64 ((rd_T45 l0 x7_1).f3.f3), .string ((rd_T45 l0 x7_1).f4.f0), .string ((rd_T45 l0 x7_1).f4.f1), .int .i64 ((rd_T45 l0 x7_1).f4.f2), .int .i64 ((rd_T45 l0 x7_1).f4.f3)] 45 (0, 0)) (ub_ BK140.out) hb)
    have n1_ := Aside0.mk (below_step (bes_ GE140.out) hb)
    clear BK140
    clear HB
    have BK140 := n0_
    have HB := n1_
    clear n0_ n1_
    (try clear hb)
    (try clear hb2)
    (try clear hk)
    (try clear hi)
    refine hK.out _ _ ⟨(blk_cell BK140.out 0).trans rfl, (blk_cell BK140.out 1).trans rfl, (blk_cell BK140.out 2).trans rfl, (blk_cell BK140.out 3).trans rfl, (blk_cell BK140.out 4).trans rfl, (blk_cell BK140.out 5).trans rfl, (blk_cell BK140.out 6).trans rfl, (blk_cell BK140.out 7).trans rfl, (blk_cell BK140.out 8).trans rfl, (blk_cell BK140.out 9).trans rfl, (blk_cell BK140.out 10).trans rfl, (hk_ HB.out hw142_0), (hk_ HB.out hw142_1), (hk_ HB.out hw142_2), (hk_ HB.out hw142_3), (hk_ HB.out hw142_4), (hk_ HB.out hw142_5), (hk_ HB.out hw142_6), (hk_ HB.out hw142_7), (hk_ HB.out hw142_8), (hk_ HB.out hw142_9), (hk_ HB.out hw142_10)⟩ (fun hHeld => ?_)
    clear hK K
    refine norm_ (a' := ?_) ?_ ?_
    rotate_left
    ·show Act.put _ (some 27) _ = _
     simp only [Act.put, List.setIfInBounds_toArray, List.set_cons_zero, List.set_cons_succ, i64_w, i32_w]
     rfl
    refine pv_ 16 28 (lb 19 131071) HT_.out ?_
    refine pv_ 17 29 (lb 19 262143) HT_.out ?_
    refine pv_ 18 30 (lb 19 524287) HT_.out ?_
    refine done_ (done_of HT_.out (by kernel_rfl)) ?_
    try go_wp2
    go_ret
    exact ⟨by first | rfl | (simp [errW_none, errW_some] <;> rfl) | (simp only [← hji8]; first | rfl | (simp [errW_none, errW_some] <;> rfl)) | (simp [*, errW_none, errW_some] <;> rfl), bes_ GE140.out⟩
   rw [if_neg c12] at H
   have c12b0 := decide_eq_false c12
   clear c12
   have H' := Aside0.mk H
   clear H
   have p139 : 0 ≤ (x7_1 : Int) := of_decide_eq_true (by assumption)
   have q139 : x7_1 < (l0.length : Int) := of_decide_eq_true (by assumption)
   obtain ⟨ad139, e139, hx139_0, hx139_1, hx139_2, hx139_3, hx139_4, hx139_5, hx139_6, hx139_7, hx139_8, hx139_9, hx139_10⟩ := at_T45 HR0.out x7_1 p139 q139
   cases e139
   replace hx139_0 := hk_ HB.out hx139_0
   replace hx139_1 := hk_ HB.out hx139_1
   replace hx139_2 := hk_ HB.out hx139_2
   replace hx139_3 := hk_ HB.out hx139_3
   replace hx139_4 := hk_ HB.out hx139_4
   replace hx139_5 := hk_ HB.out hx139_5
   replace hx139_6 := hk_ HB.out hx139_6
   replace hx139_7 := hk_ HB.out hx139_7
   replace hx139_8 := hk_ HB.out hx139_8
   replace hx139_9 := hk_ HB.out hx139_9
   replace hx139_10 := hk_ HB.out hx139_10
   replace p139 := eq_true p139
   replace q139 := eq_true q139
   try go_wp2_with (first | ((with_reducible refine gate_dst (N := 4) rfl ?_); refine box_event ?hg (N := 4) ?hd (cs := #[.string (⟨#[]⟩ : ByteArray), .bool false, .bool false, .string (⟨#[]⟩ : ByteArray), .string (⟨#[]⟩ : ByteArray), .int .i64 0, .int .i64 0, .string (⟨#[]⟩ : ByteArray), .string (⟨#[]⟩ : ByteArray), .int .i64 0, .int .i64 0]) (t := 45) ?hr ?_; (case hd => rfl); (case hg => rfl); (case hr => first | (go_simp; done) | (go_simp; rfl)); intro gb140 hg w19 hbox hb; have n0_ := Aside0.mk (below_step (bel_) hb); have n1_ := Aside0.mk (hbox); have n2_ := Aside0.mk ((by rw [hg]; exact (below_size (bel_)) : w.heap.size ≤ gb140)); have n3_ := Aside0.mk ((by rw [hg]; exact (below_size (bel_)) : w.heap.size ≤ gb140)); clear HB; have HB := n0_; have BK140 := n1_; have GW140 := n2_; have GE140 := n3_; clear n0_ n1_ n2_ n3_; clear hb hbox hg; have hcz20_0 : w19.cell? ⟨gb140, 0, none⟩ = some (.string (⟨#[]⟩ : ByteArray)) := (blk_cell BK140.out 0).trans rfl; have hcz20_1 : w19.cell? ⟨gb140, 1, none⟩ = some (.bool false) := (blk_cell BK140.out 1).trans rfl; have hcz20_2 : w19.cell? ⟨gb140, 2, none⟩ = some (.bool false) := (blk_cell BK140.out 2).trans rfl; have hcz20_3 : w19.cell? ⟨gb140, 3, none⟩ = some (.string (⟨#[]⟩ : ByteArray)) := (blk_cell BK140.out 3).trans rfl; have hcz20_4 : w19.cell? ⟨gb140, 4, none⟩ = some (.string (⟨#[]⟩ : ByteArray)) := (blk_cell BK140.out 4).trans rfl; have hcz20_5 : w19.cell? ⟨gb140, 5, none⟩ = some (.int .i64 0) := (blk_cell BK140.out 5).trans rfl; have hcz20_6 : w19.cell? ⟨gb140, 6, none⟩ = some (.int .i64 0) := (blk_cell BK140.out 6).trans rfl; have hcz20_7 : w19.cell? ⟨gb140, 7, none⟩ = some (.string (⟨#[]⟩ : ByteArray)) := (blk_cell BK140.out 7).trans rfl; have hcz20_8 : w19.cell? ⟨gb140, 8, none⟩ = some (.string (⟨#[]⟩ : ByteArray)) := (blk_cell BK140.out 8).trans rfl; have hcz20_9 : w19.cell? ⟨gb140, 9, none⟩ = some (.int .i64 0) := (blk_cell BK140.out 9).trans rfl; have hcz20_10 : w19.cell? ⟨gb140, 10, none⟩ = some (.int .i64 0) := (blk_cell BK140.out 10).trans rfl; have hfz20_0 := blk_frozen BK140.out 0; have hfz20_1 := blk_frozen BK140.out 1; have hfz20_2 := blk_frozen BK140.out 2; have hfz20_3 := blk_frozen BK140.out 3; have hfz20_4 := blk_frozen BK140.out 4; have hfz20_5 := blk_frozen BK140.out 5; have hfz20_6 := blk_frozen BK140.out 6; have hfz20_7 := blk_frozen BK140.out 7; have hfz20_8 := blk_frozen BK140.out 8; have hfz20_9 := blk_frozen BK140.out 9; have hfz20_10 := blk_frozen BK140.out 10))
   have n0_ : Aside0 ((((((((((((w19.setCell ⟨gb140, 0, none⟩ (.string ((rd_T45 l0 x7_1).f0))).setCell ⟨gb140, 1, none⟩ (.bool ((rd_T45 l0 x7_1).f1))).setCell ⟨gb140, 2, none⟩ (.bool ((rd_T45 l0 x7_1).f2))).setCell ⟨gb140, 3, none⟩ (.string ((rd_T45 l0 x7_1).f3.f0))).setCell ⟨gb140, 4, none⟩ (.string ((rd_T45 l0 x7_1).f3.f1))).setCell ⟨gb140, 5, none⟩ (.int .i64 ((rd_T45 l0 x7_1).f3.f2))).setCell ⟨gb140, 6, none⟩ (.int .i64 ((rd_T45 l0 x7_1).f3.f3))).setCell ⟨gb140, 7, none⟩ (.string ((rd_T45 l0 x7_1).f4.f0))).setCell ⟨gb140, 8, none⟩ (.string ((rd_T45 l0 x7_1).f4.f1))).setCell ⟨gb140, 9, none⟩ (.int .i64 ((rd_T45 l0 x7_1).f4.f2))).setCell ⟨gb140, 10, none⟩ (.int .i64 ((rd_T45 l0 x7_1).f4.f3))).heap[gb140]? = some (.cells #[.string ((rd_T45 l0 x7_1).f0), .bool ((rd_T45 l0 x7_1).f1), .bool ((rd_T45 l0 x7_1).f2), .string ((rd_T45 l0 x7_1).f3.f0), .string ((rd_T45 l0 x7_1).f3.f1), .int .i64 ((rd_T45 l0 x7_1).f3.f2), .int .i64 ((rd_T45 l0 x7_1).f3.f3), .string ((rd_T45 l0 x7_1).f4.f0), .string ((rd_T45 l0 x7_1).f4.f1), .int .i64 ((rd_T45 l0 x7_1).f4.f2), .int .i64 ((rd_T45 l0 x7_1).f4.f3)] 45 (0, 0))) := ⟨by refine ub_ ?_; refine blk_put (cs := #[.string ((rd_T45 l0 x7_1).f0), .bool ((rd_T45 l0 x7_1).f1), .bool ((rd_T45 l0 x7_1).f2), .string ((rd_T45 l0 x7_1).f3.f0), .string ((rd_T45 l0 x7_1).f3.f1), .int .i64 ((rd_T45 l0 x7_1).f3.f2), .int .i64 ((rd_T45 l0 x7_1).f3.f3), .string ((rd_T45 l0 x7_1).f4.f0), .string ((rd_T45 l0 x7_1).f4.f1), .int .i64 ((rd_T45 l0 x7_1).f4.f2), .int .i64 0]) ?_ 10 _ rfl; refine ub_ ?_; refine blk_put (cs := #[.string ((rd_T45 l0 x7_1).f0), .bool ((rd_T45 l0 x7_1).f1), .bool ((rd_T45 l0 x7_1).f2), .string ((rd_T45 l0 x7_1).f3.f0), .string ((rd_T45 l0 x7_1).f3.f1), .int .i64 ((rd_T45 l0 x7_1).f3.f2), .int .i64 ((rd_T45 l0 x7_1).f3.f3), .string ((rd_T45 l0 x7_1).f4.f0), .string ((rd_T45 l0 x7_1).f4.f1), .int .i64 0, .int .i64 0]) ?_ 9 _ rfl; refine ub_ ?_; refine blk_put (cs := #[.string ((rd_T45 l0 x7_1).f0), .bool ((rd_T45 l0 x7_1).f1), .bool ((rd_T45 l0 x7_1).f2), .string ((rd_T45 l0 x7_1).f3.f0), .string ((rd_T45 l0 x7_1).f3.f1), .int .i64 ((rd_T45 l0 x7_1).f3.f2), .int .i64 ((rd_T45 l0 x7_1).f3.f3), .string ((rd_T45 l0 x7_1).f4.f0), .string (⟨#[]⟩ : ByteArray), .int .i64 0, .int .i64 0]) ?_ 8 _ rfl; refine ub_ ?_; refine blk_put (cs := #[.string ((rd_T45 l0 x7_1).f0), .bool ((rd_T45 l0 x7_1).f1), .bool ((rd_T45 l0 x7_1).f2), .string ((rd_T45 l0 x7_1).f3.f0), .string ((rd_T45 l0 x7_1).f3.f1), .int .i64 ((rd_T45 l0 x7_1).f3.f2), .int .i64 ((rd_T45 l0 x7_1).f3.f3), .string (⟨#[]⟩ : ByteArray), .string (⟨#[]⟩ : ByteArray), .int .i64 0, .int .i64 0]) ?_ 7 _ rfl; refine ub_ ?_; refine blk_put (cs := #[.string ((rd_T45 l0 x7_1).f0), .bool ((rd_T45 l0 x7_1).f1), .bool ((rd_T45 l0 x7_1).f2), .string ((rd_T45 l0 x7_1).f3.f0), .string ((rd_T45 l0 x7_1).f3.f1), .int .i64 ((rd_T45 l0 x7_1).f3.f2), .int .i64 0, .string (⟨#[]⟩ : ByteArray), .string (⟨#[]⟩ : ByteArray), .int .i64 0, .int .i64 0]) ?_ 6 _ rfl; refine ub_ ?_; refine blk_put (cs := #[.string ((rd_T45 l0 x7_1).f0), .bool ((rd_T45 l0 x7_1).f1), .bool ((rd_T45 l0 x7_1).f2), .string ((rd_T45 l0 x7_1).f3.f0), .string ((rd_T45 l0 x7_1).f3.f1), .int .i64 0, .int .i64 0, .string (⟨#[]⟩ : ByteArray), .string (⟨#[]⟩ : ByteArray), .int .i64 0, .int .i64 0]) ?_ 5 _ rfl; refine ub_ ?_; refine blk_put (cs := #[.string ((rd_T45 l0 x7_1).f0), .bool ((rd_T45 l0 x7_1).f1), .bool ((rd_T45 l0 x7_1).f2), .string ((rd_T45 l0 x7_1).f3.f0), .string (⟨#[]⟩ : ByteArray), .int .i64 0, .int .i64 0, .string (⟨#[]⟩ : ByteArray), .string (⟨#[]⟩ : ByteArray), .int .i64 0, .int .i64 0]) ?_ 4 _ rfl; refine ub_ ?_; refine blk_put (cs := #[.string ((rd_T45 l0 x7_1).f0), .bool ((rd_T45 l0 x7_1).f1), .bool ((rd_T45 l0 x7_1).f2), .string (⟨#[]⟩ : ByteArray), .string (⟨#[]⟩ : ByteArray), .int .i64 0, .int .i64 0, .string (⟨#[]⟩ : ByteArray), .string (⟨#[]⟩ : ByteArray), .int .i64 0, .int .i64 0]) ?_ 3 _ rfl; refine ub_ ?_; refine blk_put (cs := #[.string ((rd_T45 l0 x7_1).f0), .bool ((rd_T45 l0 x7_1).f1), .bool false, .string (⟨#[]⟩ : ByteArray), .string (⟨#[]⟩ : ByteArray), .int .i64 0, .int .i64 0, .string (⟨#[]⟩ : ByteArray), .string (⟨#[]⟩ : ByteArray), .int .i64 0, .int .i64 0]) ?_ 2 _ rfl; refine ub_ ?_; refine blk_put (cs := #[.string ((rd_T45 l0 x7_1).f0), .bool false, .bool false, .string (⟨#[]⟩ : ByteArray), .string (⟨#[]⟩ : ByteArray), .int .i64 0, .int .i64 0, .string (⟨#[]⟩ : ByteArray), .string (⟨#[]⟩ : ByteArray), .int .i64 0, .int .i64 0]) ?_ 1 _ rfl; refine ub_ ?_; refine blk_put (cs := #[.string (⟨#[]⟩ : ByteArray), .bool false, .bool false, .string (⟨#[]⟩ : ByteArray), .string (⟨#[]⟩ : ByteArray), .int .i64 0, .int .i64 0, .string (⟨#[]⟩ : ByteArray), .string (⟨#[]⟩ : ByteArray), .int .i64 0, .int .i64 0]) ?_ 0 _ rfl; refine ub_ ?_; exact BK140.out⟩
   have n1_ : Aside0 (Below w.heap.size w (((((((((((w19.setCell ⟨gb140, 0, none⟩ (.string ((rd_T45 l0 x7_1).f0))).setCell ⟨gb140, 1, none⟩ (.bool ((rd_T45 l0 x7_1).f1))).setCell ⟨gb140, 2, none⟩ (.bool ((rd_T45 l0 x7_1).f2))).setCell ⟨gb140, 3, none⟩ (.string ((rd_T45 l0 x7_1).f3.f0))).setCell ⟨gb140, 4, none⟩ (.string ((rd_T45 l0 x7_1).f3.f1))).setCell ⟨gb140, 5, none⟩ (.int .i64 ((rd_T45 l0 x7_1).f3.f2))).setCell ⟨gb140, 6, none⟩ (.int .i64 ((rd_T45 l0 x7_1).f3.f3))).setCell ⟨gb140, 7, none⟩ (.string ((rd_T45 l0 x7_1).f4.f0))).setCell ⟨gb140, 8, none⟩ (.string ((rd_T45 l0 x7_1).f4.f1))).setCell ⟨gb140, 9, none⟩ (.int .i64 ((rd_T45 l0 x7_1).f4.f2))).setCell ⟨gb140, 10, none⟩ (.int .i64 ((rd_T45 l0 x7_1).f4.f3)))) := ⟨bes_ GE140.out⟩
   (try clear BK140)
   (try clear HB)
   generalize (((((((((((w19.setCell ⟨gb140, 0, none⟩ (.string ((rd_T45 l0 x7_1).f0))).setCell ⟨gb140, 1, none⟩ (.bool ((rd_T45 l0 x7_1).f1))).setCell ⟨gb140, 2, none⟩ (.bool ((rd_T45 l0 x7_1).f2))).setCell ⟨gb140, 3, none⟩ (.string ((rd_T45 l0 x7_1).f3.f0))).setCell ⟨gb140, 4, none⟩ (.string ((rd_T45 l0 x7_1).f3.f1))).setCell ⟨gb140, 5, none⟩ (.int .i64 ((rd_T45 l0 x7_1).f3.f2))).setCell ⟨gb140, 6, none⟩ (.int .i64 ((rd_T45 l0 x7_1).f3.f3))).setCell ⟨gb140, 7, none⟩ (.string ((rd_T45 l0 x7_1).f4.f0))).setCell ⟨gb140, 8, none⟩ (.string ((rd_T45 l0 x7_1).f4.f1))).setCell ⟨gb140, 9, none⟩ (.int .i64 ((rd_T45 l0 x7_1).f4.f2))).setCell ⟨gb140, 10, none⟩ (.int .i64 ((rd_T45 l0 x7_1).f4.f3))) = w21 at n0_ n1_ ⊢
   have BK140 := n0_
   have HB := n1_
   clear n0_ n1_
   have n0_ := Aside0.mk (blk_drew BK140.out)
   have n1_ := Aside0.mk (below_drew1 HB.out)
   clear BK140
   clear HB
   have BK140 := n0_
   have HB := n1_
   clear n0_ n1_
   have p142 : 0 ≤ ((ji8) : Int) := of_decide_eq_true (by assumption)
   have q142 : (ji8) < (l0.length : Int) := of_decide_eq_true (by assumption)
   obtain ⟨ad142, e142, hx142_0, hx142_1, hx142_2, hx142_3, hx142_4, hx142_5, hx142_6, hx142_7, hx142_8, hx142_9, hx142_10⟩ := at_T45 HR0.out (ji8) p142 q142
   have hw142_10 := hx142_10
   have hw142_9 := hx142_9
   have hw142_8 := hx142_8
   have hw142_7 := hx142_7
   have hw142_6 := hx142_6
   have hw142_5 := hx142_5
   have hw142_4 := hx142_4
   have hw142_3 := hx142_3
   have hw142_2 := hx142_2
   have hw142_1 := hx142_1
   have hw142_0 := hx142_0
   obtain rfl : ad139 = ad142 := (by injection e142)
   replace hx142_0 := hk_ HB.out hx142_0
   replace hx142_1 := hk_ HB.out hx142_1
   replace hx142_2 := hk_ HB.out hx142_2
   replace hx142_3 := hk_ HB.out hx142_3
   replace hx142_4 := hk_ HB.out hx142_4
   replace hx142_5 := hk_ HB.out hx142_5
   replace hx142_6 := hk_ HB.out hx142_6
   replace hx142_7 := hk_ HB.out hx142_7
   replace hx142_8 := hk_ HB.out hx142_8
   replace hx142_9 := hk_ HB.out hx142_9
   replace hx142_10 := hk_ HB.out hx142_10
   replace p142 := eq_true p142
   replace q142 := eq_true q142
   refine start_ (n := 19) (S := fun w' => w'.cell? ⟨gb140, 0, none⟩ = some (.string ((rd_T45 l0 x7_1).f0)) ∧ w'.cell? ⟨gb140, 1, none⟩ = some (.bool ((rd_T45 l0 x7_1).f1)) ∧ w'.cell? ⟨gb140, 2, none⟩ = some (.bool ((rd_T45 l0 x7_1).f2)) ∧ w'.cell? ⟨gb140, 3, none⟩ = some (.string ((rd_T45 l0 x7_1).f3.f0)) ∧ w'.cell? ⟨gb140, 4, none⟩ = some (.string ((rd_T45 l0 x7_1).f3.f1)) ∧ w'.cell? ⟨gb140, 5, none⟩ = some (.int .i64 ((rd_T45 l0 x7_1).f3.f2)) ∧ w'.cell? ⟨gb140, 6, none⟩ = some (.int .i64 ((rd_T45 l0 x7_1).f3.f3)) ∧ w'.cell? ⟨gb140, 7, none⟩ = some (.string ((rd_T45 l0 x7_1).f4.f0)) ∧ w'.cell? ⟨gb140, 8, none⟩ = some (.string ((rd_T45 l0 x7_1).f4.f1)) ∧ w'.cell? ⟨gb140, 9, none⟩ = some (.int .i64 ((rd_T45 l0 x7_1).f4.f2)) ∧ w'.cell? ⟨gb140, 10, none⟩ = some (.int .i64 ((rd_T45 l0 x7_1).f4.f3)) ∧ w'.cell? (ad139.add (((ji8)).toNat * 11)) = some (.string ((rd_T45 l0 (ji8)).f0)) ∧ w'.cell? ⟨(ad139.add (((ji8)).toNat * 11)).block, (ad139.add (((ji8)).toNat * 11)).off + 1, none⟩ = some (.bool ((rd_T45 l0 (ji8)).f1)) ∧ w'.cell? ⟨(ad139.add (((ji8)).toNat * 11)).block, (ad139.add (((ji8)).toNat * 11)).off + 2, none⟩ = some (.bool ((rd_T45 l0 (ji8)).f2)) ∧ w'.cell? ⟨(ad139.add (((ji8)).toNat * 11)).block, (ad139.add (((ji8)).toNat * 11)).off + 3, none⟩ = some (.string ((rd_T45 l0 (ji8)).f3.f0)) ∧ w'.cell? ⟨(ad139.add (((ji8)).toNat * 11)).block, (ad139.add (((ji8)).toNat * 11)).off + 4, none⟩ = some (.string ((rd_T45 l0 (ji8)).f3.f1)) ∧ w'.cell? ⟨(ad139.add (((ji8)).toNat * 11)).block, (ad139.add (((ji8)).toNat * 11)).off + 5, none⟩ = some (.int .i64 ((rd_T45 l0 (ji8)).f3.f2)) ∧ w'.cell? ⟨(ad139.add (((ji8)).toNat * 11)).block, (ad139.add (((ji8)).toNat * 11)).off + 6, none⟩ = some (.int .i64 ((rd_T45 l0 (ji8)).f3.f3)) ∧ w'.cell? ⟨(ad139.add (((ji8)).toNat * 11)).block, (ad139.add (((ji8)).toNat * 11)).off + 7, none⟩ = some (.string ((rd_T45 l0 (ji8)).f4.f0)) ∧ w'.cell? ⟨(ad139.add (((ji8)).toNat * 11)).block, (ad139.add (((ji8)).toNat * 11)).off + 8, none⟩ = some (.string ((rd_T45 l0 (ji8)).f4.f1)) ∧ w'.cell? ⟨(ad139.add (((ji8)).toNat * 11)).block, (ad139.add (((ji8)).toNat * 11)).off + 9, none⟩ = some (.int .i64 ((rd_T45 l0 (ji8)).f4.f2)) ∧ w'.cell? ⟨(ad139.add (((ji8)).toNat * 11)).block, (ad139.add (((ji8)).toNat * 11)).off + 10, none⟩ = some (.int .i64 ((rd_T45 l0 (ji8)).f4.f3))) (ds := []) (lb 19 0) (by kernel_rfl) rfl rfl ⟨(blk_cell BK140.out 0).trans rfl, (blk_cell BK140.out 1).trans rfl, (blk_cell BK140.out 2).trans rfl, (blk_cell BK140.out 3).trans rfl, (blk_cell BK140.out 4).trans rfl, (blk_cell BK140.out 5).trans rfl, (blk_cell BK140.out 6).trans rfl, (blk_cell BK140.out 7).trans rfl, (blk_cell BK140.out 8).trans rfl, (blk_cell BK140.out 9).trans rfl, (blk_cell BK140.out 10).trans rfl, (hk_ HB.out hw142_0), (hk_ HB.out hw142_1), (hk_ HB.out hw142_2), (hk_ HB.out hw142_3), (hk_ HB.out hw142_4), (hk_ HB.out hw142_5), (hk_ HB.out hw142_6), (hk_ HB.out hw142_7), (hk_ HB.out hw142_8), (hk_ HB.out hw142_9), (hk_ HB.out hw142_10)⟩ (fun hHeld => ?_); refine with_tabW delta_Valid.tab4 delta_Valid.bits4 (fun HT_ HW_ => ?_)
   generalize w21.drew = w22 at BK140 HB hx142_0 hx142_1 hx142_10 hx142_2 hx142_3 hx142_4 hx142_5 hx142_6 hx142_7 hx142_8 hx142_9 hHeld ⊢
   refine tk_ 0 12 (lb 19 1) HT_.out HW_.out hHeld ?_
   refine one_ (i := 1) (N := some 13) (lb 19 3) rfl rfl (one_of HT_.out (by kernel_rfl)) (by decide) (fun K hK => ?_)
   refine goes_ Tryz.func23 (by kernel_rfl) rfl #[.agg #[.string ((rd_T45 l0 x7_1).f0), .bool ((rd_T45 l0 x7_1).f1), .bool ((rd_T45 l0 x7_1).f2), .string ((rd_T45 l0 x7_1).f3.f0), .string ((rd_T45 l0 x7_1).f3.f1), .int .i64 ((rd_T45 l0 x7_1).f3.f2), .int .i64 ((rd_T45 l0 x7_1).f3.f3), .string ((rd_T45 l0 x7_1).f4.f0), .string ((rd_T45 l0 x7_1).f4.f1), .int .i64 ((rd_T45 l0 x7_1).f4.f2), .int .i64 ((rd_T45 l0 x7_1).f4.f3)]] (by rfl) rfl rfl (mp_) ?_
   with_reducible refine (delta_may.calls k1 ((rd_T45 l0 x7_1).f0) ((rd_T45 l0 x7_1).f1) ((rd_T45 l0 x7_1).f2) ((rd_T45 l0 x7_1).f3.f0) ((rd_T45 l0 x7_1).f3.f1) ((rd_T45 l0 x7_1).f3.f2) ((rd_T45 l0 x7_1).f3.f3) ((rd_T45 l0 x7_1).f4.f0) ((rd_T45 l0 x7_1).f4.f1) ((rd_T45 l0 x7_1).f4.f2) ((rd_T45 l0 x7_1).f4.f3) true _ A5.out).mono ?_
   rintro e w23 ⟨rfl, hb⟩
   refine ⟨_, rfl, ?_⟩
   have n0_ := Aside0.mk (blk_below (g := gb140) (o := .cells #[.string ((rd_T45 l0 x7_1).f0), .bool ((rd_T45 l0 x7_1).f1), .bool ((rd_T45 l0 x7_1).f2), .string ((rd_T45 l0 x7_1).f3.f0), .string ((rd_T45 l0 x7_1).f3.f1), .int .i64 ((rd_T45 l0 x7_1).f3.f2), .int .i64 ((rd_T45 l0 x7_1).f3.f3), .string ((rd_T45 l0 x7_1).f4.f0), .string ((rd_T45 l0 x7_1).f4.f1), .int .i64 ((rd_T45 l0 x7_1).f4.f2), .int .i64 ((rd_T45 l0 x7_1).f4.f3)] 45 (0, 0)) (ub_ BK140.out) hb)
   have n1_ := Aside0.mk (below_step (bes_ GE140.out) hb)
   clear BK140
   clear HB
   have BK140 := n0_
   have HB := n1_
   clear n0_ n1_
   (try clear hb)
   (try clear hb2)
   (try clear hk)
   (try clear hi)
   refine hK.out _ _ ⟨(blk_cell BK140.out 0).trans rfl, (blk_cell BK140.out 1).trans rfl, (blk_cell BK140.out 2).trans rfl, (blk_cell BK140.out 3).trans rfl, (blk_cell BK140.out 4).trans rfl, (blk_cell BK140.out 5).trans rfl, (blk_cell BK140.out 6).trans rfl, (blk_cell BK140.out 7).trans rfl, (blk_cell BK140.out 8).trans rfl, (blk_cell BK140.out 9).trans rfl, (blk_cell BK140.out 10).trans rfl, (hk_ HB.out hw142_0), (hk_ HB.out hw142_1), (hk_ HB.out hw142_2), (hk_ HB.out hw142_3), (hk_ HB.out hw142_4), (hk_ HB.out hw142_5), (hk_ HB.out hw142_6), (hk_ HB.out hw142_7), (hk_ HB.out hw142_8), (hk_ HB.out hw142_9), (hk_ HB.out hw142_10)⟩ (fun hHeld => ?_)
   clear hK K
   refine norm_ (a' := ?_) ?_ ?_
   rotate_left
   ·show Act.put _ (some 13) _ = _
    simp only [Act.put, List.setIfInBounds_toArray, List.set_cons_zero, List.set_cons_succ, i64_w, i32_w]
    rfl
   refine pv_ 2 14 (lb 19 7) HT_.out ?_
   refine pv_ 3 15 (lb 19 15) HT_.out ?_
   refine pv_ 4 16 (lb 19 31) HT_.out ?_
   refine pv_ 5 17 (lb 19 63) HT_.out ?_
   refine pv_ 6 18 (lb 19 127) HT_.out ?_
   refine pv_ 7 19 (lb 19 255) HT_.out ?_
   refine pv_ 8 20 (lb 19 511) HT_.out ?_
   refine pv_ 9 21 (lb 19 1023) HT_.out ?_
   refine pv_ 10 22 (lb 19 2047) HT_.out ?_
   refine pv_ 11 23 (lb 19 4095) HT_.out ?_
   refine pv_ 13 25 (lb 19 12287) HT_.out ?_
   refine tk_ 12 24 (lb 19 16383) HT_.out HW_.out hHeld ?_
   refine tk_ 14 26 (lb 19 32767) HT_.out HW_.out hHeld ?_
   refine one_ (i := 15) (N := some 27) (lb 19 65535) rfl rfl (one_of HT_.out (by kernel_rfl)) (by decide) (fun K hK => ?_)
   refine goes_ Tryz.func24 (by kernel_rfl) rfl #[.string ((rd_T45 l0 (ji8)).f0), .string ((rd_T45 l0 x7_1).f0)] (by rfl) rfl rfl (by (try simp only [List.map_toArray, List.map_cons, List.map_nil]); first | done | (simp only [hji8]; rfl) | rfl | (simp only [List.length_drop, List.length_take]; rfl)) ?_
   with_reducible refine (path_Cmp.calls k1 ((rd_T45 l0 (ji8)).f0) ((rd_T45 l0 x7_1).f0) t143 _ A11.out).mono ?_
   rintro e w24 ⟨rfl, hb⟩
   refine ⟨_, rfl, ?_⟩
   have n0_ := Aside0.mk (blk_below (g := gb140) (o := .cells #[.string ((rd_T45 l0 x7_1).f0), .bool ((rd_T45 l0 x7_1).f1), .bool ((rd_T45 l0 x7_1).f2), .string ((rd_T45 l0 x7_1).f3.f0), .string ((rd_T45 l0 x7_1).f3.f1), .int .i64 ((rd_T45 l0 x7_1).f3.f2), .int .i64 ((rd_T45 l0 x7_1).f3.f3), .string ((rd_T45 l0 x7_1).f4.f0), .string ((rd_T45 l0 x7_1).f4.f1), .int .i64 ((rd_T45 l0 x7_1).f4.f2), .int .i64 ((rd_T45 l0 x7_1).f4.f3)] 45 (0, 0)) (ub_ BK140.out) hb)
   have n1_ := Aside0.mk (below_step (bes_ GE140.out) hb)
   clear BK140
   clear HB
   have BK140 := n0_
   have HB := n1_
   clear n0_ n1_
   (try clear hb)
   (try clear hb2)
   (try clear hk)
   (try clear hi)
   refine hK.out _ _ ⟨(blk_cell BK140.out 0).trans rfl, (blk_cell BK140.out 1).trans rfl, (blk_cell BK140.out 2).trans rfl, (blk_cell BK140.out 3).trans rfl, (blk_cell BK140.out 4).trans rfl, (blk_cell BK140.out 5).trans rfl, (blk_cell BK140.out 6).trans rfl, (blk_cell BK140.out 7).trans rfl, (blk_cell BK140.out 8).trans rfl, (blk_cell BK140.out 9).trans rfl, (blk_cell BK140.out 10).trans rfl, (hk_ HB.out hw142_0), (hk_ HB.out hw142_1), (hk_ HB.out hw142_2), (hk_ HB.out hw142_3), (hk_ HB.out hw142_4), (hk_ HB.out hw142_5), (hk_ HB.out hw142_6), (hk_ HB.out hw142_7), (hk_ HB.out hw142_8), (hk_ HB.out hw142_9), (hk_ HB.out hw142_10)⟩ (fun hHeld => ?_)
   clear hK K
   refine norm_ (a' := ?_) ?_ ?_
   rotate_left
   ·show Act.put _ (some 27) _ = _
    simp only [Act.put, List.setIfInBounds_toArray, List.set_cons_zero, List.set_cons_succ, i64_w, i32_w]
    rfl
   refine pv_ 16 28 (lb 19 131071) HT_.out ?_
   refine pv_ 17 29 (lb 19 262143) HT_.out ?_
   refine pv_ 18 30 (lb 19 524287) HT_.out ?_
   refine done_ (done_of HT_.out (by kernel_rfl)) ?_
   try go_wp2
   go_roundg k1
   case measure => have := HK1.out; omega
   case rel => exact ⟨(wrap64 (x7_1 + 1)), (rf_), H', ⟨by have := HK1.out; omega⟩, ⟨bes_ GE140.out⟩⟩
open Go.Proofs.YtehfogjibhnabaaGreatDoor.Sp
theorem half_is (p : ByteArray) (is : Bool) (f : S43) : delta_half.f p is f.f0 f.f1 f.f2 f.f3 = some (halfB p is f) := by
 unfold delta_half.f halfB
 cases is
 ·rw [if_neg (by simp), if_neg (by simp)]
  unfold eqF
  simp only [toList_bs]
  rfl
 rw [if_pos rfl, if_pos rfl]
theorem idle_is (c : S45) : delta_idle.f c.f0 c.f1 c.f2 c.f3.f0 c.f3.f1 c.f3.f2 c.f3.f3 c.f4.f0 c.f4.f1 c.f4.f2 c.f4.f3 = some (idleC c) := by
 unfold delta_idle.f idleC eqF
 split <;> split <;> rfl
theorem may_j0 (c : S45) (q : Bool) : Ev (fun k => delta_may.j0 k q c.f0 c.f1 c.f2 c.f3.f0 c.f3.f1 c.f3.f2 c.f3.f3 c.f4.f0 c.f4.f1 c.f4.f2 c.f4.f3) (!q && (halfB c.f0 c.f1 c.f3 && (halfB c.f0 c.f2 c.f4 && !(c.f1 && c.f2 && eqF c.f3 c.f4)))) := by
 refine ⟨1, fun k hk => ?_⟩
 obtain ⟨k, rfl⟩ : ∃ m, k = m + 1 := ⟨k - 1, by omega⟩
 simp only [delta_may.j0, half_is, Option.bind_some]
 unfold eqF
 cases q <;> cases halfB c.f0 c.f1 c.f3 <;> cases halfB c.f0 c.f2 c.f4 <;> cases c.f1 <;> cases c.f2 <;> simp
theorem may_ev (c : S45) (h : c.f0.size ≤ 1073741824) : Ev (fun k => delta_may.f k c.f0 c.f1 c.f2 c.f3.f0 c.f3.f1 c.f3.f2 c.f3.f3 c.f4.f0 c.f4.f1 c.f4.f2 c.f4.f3) (mayB c) := by
 unfold delta_may.f
 refine Ev.bind (prog_valid c.f0 (by omega)) ?_
 unfold mayB
 by_cases hv : validB c.f0 = true
 rotate_left
 ·simp only [if_neg hv]
  refine Ev.val (may_j0 c true) ?_
  have : validB c.f0 = false := by simpa using hv
  simp [this]
 rw [hv]
 simp only [if_true, Bool.true_and]
 by_cases h0 : bs c.f0 = []
 ·simp only [toList_bs, if_pos h0]
  refine Ev.val (may_j0 c true) ?_
  simp [h0]
 simp only [toList_bs, if_neg h0]
 by_cases h1 : c.f1 = true
 ·simp only [if_pos h1]
  refine Ev.val (may_j0 c false) ?_
  simp [h0, h1, Bool.and_assoc]
 simp only [if_neg h1]
 refine Ev.val (may_j0 c (!c.f2)) ?_
 have h1' : c.f1 = false := by simpa using h1
 simp [h0, h1', Bool.and_assoc]
def beforeC (x : List S45) (i : Nat) : Option ByteArray := if i = 0 then none else some (rd_T45 x ((i - 1 : Nat) : Int)).f0
theorem rdC_mem (l : List S45) (i : Nat) (h : i < l.length) : rd_T45 l (i : Int) ∈ l := by
 unfold rd_T45
 rw [Int.toNat_natCast, List.getD_eq_getElem?_getD, List.getElem?_eq_getElem h]
 exact List.getElem_mem h
theorem rdC_drop (l : List S45) (i : Nat) (h : i < l.length) : l.drop i = rd_T45 l (i : Int) :: l.drop (i + 1) := by
 unfold rd_T45
 rw [Int.toNat_natCast, List.getD_eq_getElem?_getD, List.getElem?_eq_getElem h]
 exact List.drop_eq_getElem_cons h
theorem valid06_run (x : List S45) (hx : x.length ≤ 1073741824) (hf : FitsD x) (d : Nat) : ∀ i, x.length - i = d → i ≤ x.length → Ev (fun k => delta_Valid.l0 k x x (x.length : Int) (i : Int)) ((x.drop i).all mayB && risesB (beforeC x i) (x.drop i)) := by
 induction d with
 | zero =>
  intro i hd hi
  refine ⟨1, fun k hk => ?_⟩
  obtain ⟨k, rfl⟩ : ∃ m, k = m + 1 := ⟨k - 1, by omega⟩
  simp only [delta_Valid.l0]
  rw [if_neg (by omega), List.drop_of_length_le (by omega)]
  cases beforeC x i <;> rfl
 | succ d ih =>
  intro i hd hi
  have hlt : i < x.length := by omega
  have hc := hf _ (rdC_mem x i hlt)
  obtain ⟨K1, h1⟩ := may_ev (rd_T45 x (i : Int)) hc.1
  have hw : wrap64 ((i : Int) + 1) = ((i + 1 : Nat) : Int) := wrap_succ (n := x.length) (by omega) (by omega)
  obtain ⟨K2, h2⟩ := ih (i + 1) (by omega) (by omega)
  dsimp only at h1 h2
  rw [rdC_drop x i hlt, List.all_cons]
  by_cases hm : mayB (rd_T45 x (i : Int)) = true
  rotate_left
  ·refine ⟨K1 + 1, fun k hk => ?_⟩
   obtain ⟨k, rfl⟩ : ∃ m, k = m + 1 := ⟨k - 1, by omega⟩
   simp only [delta_Valid.l0]
   rw [if_pos (by omega), if_pos (by omega), if_pos (by omega), h1 k (by omega), Option.bind_some, if_neg hm]
   have : mayB (rd_T45 x (i : Int)) = false := by simpa using hm
   simp [this]
  by_cases h0 : i = 0
  ·subst h0
   have e : risesB (beforeC x 0) (rd_T45 x ((0 : Nat) : Int) :: x.drop (0 + 1)) = risesB (beforeC x (0 + 1)) (x.drop (0 + 1)) := rfl
   rw [e, hm, Bool.true_and]
   refine ⟨K1 + K2 + 1, fun k hk => ?_⟩
   obtain ⟨k, rfl⟩ : ∃ m, k = m + 1 := ⟨k - 1, by omega⟩
   simp only [delta_Valid.l0]
   rw [if_pos (by omega), if_pos (by omega), if_pos (by omega), h1 k (by omega), Option.bind_some, if_pos hm, if_neg (by omega), hw]
   exact h2 k (by omega)
  have hw1 : wrap64 ((i : Int) - 1) = ((i - 1 : Nat) : Int) := by rw [wrap_add (by omega) (by omega)]; omega
  have hb := hf _ (rdC_mem x (i - 1) (by omega))
  obtain ⟨K3, h3⟩ := prog_cmp (rd_T45 x ((i - 1 : Nat) : Int)).f0 (rd_T45 x (i : Int)).f0 (by have := hb.1; omega) (by have := hc.1; omega)
  dsimp only at h3
  have e : risesB (beforeC x i) (rd_T45 x (i : Int) :: x.drop (i + 1)) = (decide (cB (rd_T45 x ((i - 1 : Nat) : Int)).f0 (rd_T45 x (i : Int)).f0 < 0) && risesB (beforeC x (i + 1)) (x.drop (i + 1))) := by
   unfold beforeC
   rw [if_neg h0, if_neg (by omega)]
   rfl
  rw [e, hm, Bool.true_and]
  refine ⟨K1 + K2 + K3 + 1, fun k hk => ?_⟩
  obtain ⟨k, rfl⟩ : ∃ m, k = m + 1 := ⟨k - 1, by omega⟩
  simp only [delta_Valid.l0]
  rw [if_pos (by omega), if_pos (by omega), if_pos (by omega), h1 k (by omega), Option.bind_some, if_pos hm, if_pos (by omega), hw1, if_pos (by omega), if_pos (by omega), h3 k (by omega), Option.bind_some]
  by_cases hcmp : cB (rd_T45 x ((i - 1 : Nat) : Int)).f0 (rd_T45 x (i : Int)).f0 < 0
  ·rw [if_neg (by omega), hw, decide_eq_true hcmp, Bool.true_and]
   exact h2 k (by omega)
  rw [if_pos (by omega), decide_eq_false hcmp]
  simp
theorem valid06 (x : List S45) (hx : x.length ≤ 1073741824) (hf : FitsD x) : Ev (fun k => delta_Valid.f k x) (validD x) := valid06_run x hx hf _ 0 rfl (by omega)
theorem risesB_iff : ∀ (l : List S45) (o : Option ByteArray), risesB o l = true ↔ RisesK S45.f0 l ∧ ∀ y x, o = some y → l.head? = some x → cB y x.f0 < 0
 | [], o => by cases o <;> simp [risesB, RisesK]
 | x :: l, none => by
  rw [risesB, risesB_iff l]
  constructor
  ·rintro ⟨h1, h2⟩
   refine ⟨h1.cons fun y hy => ?_, fun y x h => by cases h⟩
   rcases l with _ | ⟨z, l⟩
   ·cases hy
   ·have h3 := h2 _ z rfl rfl
    rcases List.mem_cons.1 hy with rfl | hy
    ·exact h3
    ·exact cB_trans h3 (h1.head y hy)
  ·rintro ⟨h1, _⟩
   refine ⟨h1.tail, fun y z hy hz => ?_⟩
   obtain rfl := Option.some.inj hy
   exact h1.head z (List.mem_of_mem_head? hz)
 | x :: l, some w => by
  rw [risesB, Bool.and_eq_true, decide_eq_true_eq, risesB_iff l]
  constructor
  ·rintro ⟨h0, h1, h2⟩
   refine ⟨h1.cons fun y hy => ?_, fun y z hy hz => ?_⟩
   ·rcases l with _ | ⟨z, l⟩
    ·cases hy
    ·have h3 := h2 _ z rfl rfl
     rcases List.mem_cons.1 hy with rfl | hy
     ·exact h3
     ·exact cB_trans h3 (h1.head y hy)
   ·obtain rfl := Option.some.inj hy
    obtain rfl := Option.some.inj hz
    exact h0
  ·rintro ⟨h1, h2⟩
   refine ⟨h2 w x rfl rfl, h1.tail, fun y z hy hz => ?_⟩
   obtain rfl := Option.some.inj hy
   exact h1.head z (List.mem_of_mem_head? hz)
theorem validD_iff {d : List S45} : validD d = true ↔ DeltaP d := by
 unfold validD
 rw [Bool.and_eq_true, List.all_eq_true, risesB_iff]
 exact ⟨fun ⟨h1, h2, _⟩ => ⟨h1, h2⟩, fun ⟨h1, h2⟩ => ⟨h1, h2, fun y x h => by cases h⟩⟩
open Go.RowKit Go.Lib Go.Proofs.YtehfogjibhnabaaGreatDoorW.PrintWords Go.Proofs.YtehfogjibhnabaaGreatDoorW.PrintLast Go.Proofs.YtehfogjibhnabaaGreatDoorW.PrintMore
theorem grown_oneCell (W : World) (p : Addr) (v : Value) : W.grownBy (W.setCell p v) (some p.block) :=
 ⟨rfl, rfl, rfl, by simp [World.setCell], fun k _ hk => Below.heap_setCell _ _ _ k (fun e => hk (by rw [e]))⟩
theorem grown_manyCells (g : Nat) : ∀ (vs : List Value) (o : Nat) (W : World), W.grownBy (W.setCells g o vs) (some g)
 | [], _, W => ⟨rfl, rfl, rfl, Nat.le_refl _, fun _ _ _ => rfl⟩
 | v :: r, o, W => by
  have h1 := grown_oneCell W ⟨g, o, none⟩ v
  have h2 := grown_manyCells g r (o + 1) (W.setCell ⟨g, o, none⟩ v)
  exact ⟨h2.os.trans h1.os, h2.tape.trans h1.tape, h2.output.trans h1.output, Nat.le_trans h1.size h2.size, fun k hk hne => (h2.block k (Nat.lt_of_lt_of_le hk h1.size) hne).trans (h1.block k hk hne)⟩
theorem heap_manyCells (g : Nat) (t : TypeId) (fr : Nat × Nat) : ∀ (vs : List Value) (o : Nat) (W : World) (cur : Array Value), W.heap[g]? = some (.cells cur t fr) → ∃ cur', (W.setCells g o vs).heap[g]? = some (.cells cur' t fr) ∧ cur'.size = cur.size ∧ cur'.toList.take o = cur.toList.take o
 | [], _, _, cur, h => ⟨cur, h, rfl, rfl⟩
 | v :: r, o, W, cur, h => by
  have h1 : (W.setCell ⟨g, o, none⟩ v).heap[g]? = some (.cells (cur.setIfInBounds o v) t fr) := by
   unfold World.setCell
   simp [Array.getElem?_modify, h]
  obtain ⟨c, e1, e2, e3⟩ := heap_manyCells g t fr r (o + 1) _ _ h1
  refine ⟨c, e1, by rw [e2]; simp, ?_⟩
  have h4 := congrArg (List.take o) e3
  rw [List.take_take, List.take_take, Nat.min_eq_left (by omega)] at h4
  rw [h4]
  apply List.ext_getElem?
  intro j
  rw [List.getElem?_take, List.getElem?_take]
  split
  ·simp only [Array.toList_setIfInBounds]
   rw [List.getElem?_set_ne (by omega)]
  ·rfl
theorem own_slice_is {w : World} {base : Nat} {e : TypeId} {size g n n' cap : Nat} {xs : List Value} (h : w.ownsRow base e size (.slice (some ⟨g, 0, none⟩) n cap) n' xs) : ∃ cur, base ≤ g ∧ w.heap[g]? = some (.cells cur e (0, 0)) ∧ n' ≤ cap ∧ cap ≤ maxLen ∧ cur.size = cap * size ∧ cur.toList.take (n' * size) = xs := by
 rcases h.2 with ⟨h', _⟩ | ⟨g', cap', cur, h', hb, hh, h3, h4, h5, h6⟩
 ·cases h'
 injection h' with h1 h2 h3
 injection h1 with h1
 injection h1 with h1
 subst h1 h3
 exact ⟨cur, hb, hh, by assumption, h4, h5, h6⟩
theorem own_clear {P : Program} {w : World} {base : Nat} {e t ty : TypeId} {size g n cap i : Nat} {xs : List Value} (z : Value) (ht : P.underlying t = some (.slice e)) (hv : ∀ w, (zeroValue e).run P w = .ok z w) (hz : z.cells.size = size) (hz1 : ∀ u ∈ z.cells, u.oneCell' = true) (h : w.ownsRow base e size (.slice (some ⟨g, 0, none⟩) n cap) n xs) (hi : i < n) (c' : Nat) :
  ∃ w', (Builtin.clear_ #[t] ty #[.slice (some ⟨g, i * size, none⟩) (n - i) c']).run P w = .ok (.tuple #[]) w' ∧ w'.ownsRow base e size (.slice (some ⟨g, 0, none⟩) i cap) i (xs.take (i * size)) ∧ w.grownBy w' (some g) := by
 have h1 := h.1
 obtain ⟨cur, hb, hh, h3, h4, h5, h6⟩ := own_slice_is h
 obtain ⟨zs, hzs⟩ : ∃ zs, zs = (Builtin.zeroCells z.cells (n - i)).toList := ⟨_, rfl⟩
 have hl : zs.length = (n - i) * size := by rw [hzs]; simp [Builtin.zeroCells, hz]
 have hin : i * size + (n - i) * size ≤ cur.size := by
  rw [← Nat.add_mul, h5, show i + (n - i) = n by omega]
  exact Nat.mul_le_mul_right _ h3
 have hst := run_storeCells_cells (P := P) g (i * size) zs 0 w
  (by
   intro j hj
   have : cur[i * size + 0 + j]? ≠ none := by rw [Array.getElem?_eq_getElem (by omega)]; exact nofun
   simp only [World.cell?, hh]
   simpa [Option.isSome_iff_ne_none] using this)
  (by intro j hj; simp [World.frozen?, hh])
  (by
   intro u hu
   rw [hzs] at hu
   simp only [Builtin.zeroCells, Array.toList_map, List.mem_map] at hu
   obtain ⟨j, hj, rfl⟩ := hu
   have hs0 : 0 < z.cells.size := by
    rcases Nat.eq_zero_or_pos z.cells.size with h0 | h0
    ·simp [h0] at hj
    ·exact h0
   rw [getElem!_pos z.cells (j % z.cells.size) (Nat.mod_lt _ hs0)]
   exact hz1 _ (Array.getElem_mem _))
 rw [Nat.add_zero] at hst
 obtain ⟨c2, e1, e2, e3⟩ := heap_manyCells g e (0, 0) zs (i * size) w cur hh
 refine ⟨_, ?_, ⟨?_, .inr ⟨g, cap, c2, rfl, hb, e1, by omega, h4, e2.trans h5, ?_⟩⟩, grown_manyCells g zs (i * size) w⟩
 ·obtain ⟨m, hm⟩ : ∃ m, n - i = m + 1 := ⟨n - i - 1, by omega⟩
  rw [hm] at hzs ⊢
  simp [Builtin.clear_, run_underlying ht, hv, ← hzs, hst]
 ·rw [List.length_take, h1]
  exact Nat.min_eq_left (Nat.mul_le_mul_right _ (by omega))
 rw [e3, ← h6, List.take_take, Nat.min_eq_left (Nat.mul_le_mul_right _ (by omega))]
theorem cell_new (W : World) (cs : Array Value) (t : TypeId) (j : Nat) : (W.alloc (.cells cs t)).cell? ⟨W.heap.size, j, none⟩ = cs[j]? := by
 simp only [World.cell?, heap_alloc_new]
 rfl
def cellsC (c : S45) : Array Value := #[.string c.f0, .bool c.f1, .bool c.f2, .string c.f3.f0, .string c.f3.f1, .int .i64 c.f3.f2, .int .i64 c.f3.f3, .string c.f4.f0, .string c.f4.f1, .int .i64 c.f4.f2, .int .i64 c.f4.f3]
def cellsF (x : S43) : List Value := [.string x.f0, .string x.f1, .int .i64 x.f2, .int .i64 x.f3]
theorem cellsF_one (x : S43) : ∀ u ∈ cellsF x, u.oneCell' = true := by
 intro u hu
 simp only [cellsF, List.mem_cons, List.mem_nil_iff, or_false] at hu
 rcases hu with rfl | rfl | rfl | rfl <;> rfl
def rowF (l : List S43) : List Value := l.flatMap cellsF
theorem rowF_cons (x : S43) (l : List S43) : rowF (x :: l) = cellsF x ++ rowF l := rfl
theorem rowF_length (l : List S43) : (rowF l).length = l.length * 4 := by
 induction l with
 | nil => rfl
 | cons x l ih => rw [rowF_cons, List.length_append, ih, List.length_cons]; show 4 + _ = _; omega
theorem rowF_at : ∀ {l : List S43} {j : Nat} {p : S43}, l[j]? = some p → ((rowF l).drop (j * 4)).take 4 = cellsF p
 | [], _, _, h => by simp at h
 | x :: l, 0, p, h => by
  obtain rfl : x = p := by simpa using h
  rw [rowF_cons, Nat.zero_mul, List.drop_zero]
  rfl
 | x :: l, j + 1, p, h => by
  rw [rowF_cons, show (j + 1) * 4 = (cellsF x).length + j * 4 by show _ = 4 + _; omega, ← List.drop_drop, List.drop_left]
  exact rowF_at (by simpa using h)
theorem rowF_of : ∀ {l : List S43} {inner : List Value}, inner.length = l.length * 4 → (∀ j p, l[j]? = some p → (inner.drop (j * 4)).take 4 = cellsF p) → inner = rowF l
 | [], inner, h, _ => List.eq_nil_of_length_eq_zero (by simpa using h)
 | x :: l, inner, h, hr => by
  have h0 := hr 0 x rfl
  rw [Nat.zero_mul, List.drop_zero] at h0
  rw [rowF_cons, ← h0, ← rowF_of (l := l) (inner := inner.drop 4) (by rw [List.length_drop, h, List.length_cons]; omega) (fun j p hj => by
   have := hr (j + 1) p (by simpa using hj)
   rw [List.drop_drop]
   rwa [show (j + 1) * 4 = 4 + j * 4 by omega] at this), List.take_append_drop]
theorem R_files_own {w : World} {base : Nat} {ok : Nat → Prop} {v : Value} {l : List S43} (h : Kd.R k43 43 w base ok v l) : w.ownsRow base 43 4 v l.length (rowF l) := by
 obtain ⟨_, inner, ho, hr⟩ := h
 have e : inner = rowF l := rowF_of hr.1 fun j p hj => k43_open (k43.K_of_M (hr.2 j p hj))
 rw [← e]
 exact ho
theorem own_R_files {w : World} {base : Nat} {v : Value} {l : List S43} (h : w.ownsRow base 43 4 v l.length (rowF l)) : Kd.R k43 43 w base (fun _ => True) v l :=
 ⟨fun _ _ => trivial, rowF l, h, rowF_length l, fun j p hj => by
  show k43.M w base _ p (((rowF l).drop (j * 4)).take 4)
  rw [rowF_at hj]
  exact k43_mkM _ _ _ p⟩
end Go.Proofs.YtehfogjibhnabaaGreatDoor.PAll
