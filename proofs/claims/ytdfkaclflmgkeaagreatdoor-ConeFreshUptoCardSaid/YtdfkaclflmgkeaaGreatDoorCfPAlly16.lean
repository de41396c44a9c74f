/- What functions of the program compute, each with its walk: a contract for every world and every argument of the kind told. -/
import Derived.Test.YtdfkaclflmgkeaaGreatDoorCfPAllx0
import Derived.Test.YtdfkaclflmgkeaaGreatDoorCfPAlly13
import Derived.Test.YtdfkaclflmgkeaaGreatDoorCfPAlly15
import Derived.Test.YtdfkaclflmgkeaaGreatDoorCfHandA
import Derived.Test.YtdfkaclflmgkeaaGreatDoorCfPAlly4
import Derived.RangeFuncNested
import Derived.RangeFuncBox
import Derived.RangeFuncBound
import Derived.RangeFuncCalls
import Derived.RangeFuncLeaves
import Derived.Shelf.Abstract
import Derived.Shelf.RegionOpen
import Derived.WalkKit
import Derived.OwnWalkIn
import Derived.TacticsInMore
import Derived.LoopNIn
import Derived.LoopIn
import Derived.Maps.AppendAt
import Derived.BigQuiet
import Derived.Outline
namespace Go.Proofs.YtdfkaclflmgkeaaGreatDoor.PAll
open Go.RowKit Go.Proofs.YtdfkaclflmgkeaaGreatDoorW.PrintWords Go.Proofs.YtdfkaclflmgkeaaGreatDoorW.PrintLast Go.Proofs.YtdfkaclflmgkeaaGreatDoorW.PrintMore
attribute [local go_sem] max2_int min2_int max_two min_two max_three min_three max_four min_four
set_option linter.unusedVariables false
set_option linter.unusedSimpArgs false
def cone_View.l0 : Nat → List ByteArray → List (S36) → List (S36) → Int → Int → Option ((List (S36)) × Int)
 | 0, _, _, _, _, _ => none
 | k + 1, x1, x8, x21, x22, x23 => if x23 < x22 then (if 0 ≤ x23 then (if x23 < (x21.length : Int) then ((cone_Shows.f k x1 ((rd_T36 x21 x23).f0)).bind fun t267 => (if t267 = true then (if x8.length < 2932031007402 then (cone_View.l0 k x1 (x8 ++ [(⟨(rd_T36 x21 x23).f0, (rd_T36 x21 x23).f1, (rd_T36 x21 x23).f2, (rd_T36 x21 x23).f3⟩ : S36)]) x21 x22 (wrap64 (x23 + 1))) else (none)) else (cone_View.l0 k x1 x8 x21 x22 (wrap64 (x23 + 1))))) else (none)) else (none)) else (some (x8, 0))
def cone_View.f (k : Nat) (l0 : List (S36)) (l1 : List ByteArray) : Option ((List (S36)) × Int) := (snap_Valid.f k l0).bind fun t263 => (if t263 = 0 then ((cone_Valid.f k l1).bind fun t264 => (if t264 = 0 then (cone_View.l0 k l1 ([] : List (S36)) l0 (l0.length : Int) 0) else (some (([] : List (S36)), t264)))) else (some (([] : List (S36)), t263)))
theorem cone_View.mono_l : ∀ k, (∀ y0 y1 y2 y3 y4, LeO (cone_View.l0 k y0 y1 y2 y3 y4) (cone_View.l0 (k + 1) y0 y1 y2 y3 y4))
 | 0 => fun _ _ _ _ _ r h => by simp [cone_View.l0] at h
 | k + 1 => by
  have ih0 := cone_View.mono_l k
  ·intro y0 y1 y2 y3 y4
   unfold cone_View.l0
   repeat' first
   | (with_reducible exact ih0 _ _ _ _ _)
   | (with_reducible exact cone_Shows.mono _ _ _)
   | (with_reducible exact cone_Valid.mono _ _)
   | (with_reducible exact snap_Valid.mono _ _)
   | (with_reducible exact LeO.refl _)
   | (with_reducible exact LeO.none _)
   | (with_reducible refine LeO.ite ?_ ?_)
   | (with_reducible refine LeO.bind ?_ (fun _ => ?_))
   | exact ih0 _ _ _ _ _
   | exact cone_Shows.mono _ _ _
   | exact cone_Valid.mono _ _
   | exact snap_Valid.mono _ _
   | exact LeO.none _
   | refine LeO.ite ?_ ?_
   | refine LeO.bind ?_ (fun _ => ?_)
theorem cone_View.mono : ∀ a0 a1 k, LeO (cone_View.f k a0 a1) (cone_View.f (k + 1) a0 a1) := by
 intro a0 a1 k
 have ih0 := cone_View.mono_l k
 unfold cone_View.f
 repeat' first
   | (with_reducible exact ih0 _ _ _ _ _)
   | (with_reducible exact cone_Shows.mono _ _ _)
   | (with_reducible exact cone_Valid.mono _ _)
   | (with_reducible exact snap_Valid.mono _ _)
   | (with_reducible exact LeO.refl _)
   | (with_reducible exact LeO.none _)
   | (with_reducible refine LeO.ite ?_ ?_)
   | (with_reducible refine LeO.bind ?_ (fun _ => ?_))
   | exact ih0 _ _ _ _ _
   | exact cone_Shows.mono _ _ _
   | exact cone_Valid.mono _ _
   | exact snap_Valid.mono _ _
   | exact LeO.none _
   | refine LeO.ite ?_ ?_
   | refine LeO.bind ?_ (fun _ => ?_)
set_option maxHeartbeats 8000000 in
set_option maxRecDepth 100000 in
theorem cone_View.calls (k : Nat) (A0 : Option Addr) (c0 : Nat) (l0 : List (S36)) (A1 : Option Addr) (c1 : Nat) (l1 : List ByteArray) (r1 : List (S36)) (r2 : Int) (w : World) (hr0 : Kd.C k36 w A0 l0.length l0) (hc0 : l0.length ≤ c0) (hr1 : Kd.C Kd.string w A1 l1.length l1) (hc1 : l1.length ≤ c1) (h : cone_View.f k l0 l1 = some (r1, r2)) :
  Calls Tryz.prog 9 #[.slice A0 l0.length c0, .slice A1 l1.length c1] w fun e w' => ∃ v0_ : Value, e = .returned (.tuple #[v0_, .int .i64 r2]) ∧ Kd.R k36 36 w' w.heap.size (fun _ => True) v0_ r1 ∧ Below w.heap.size w w' := by
 have hu36 := Tryz.underlying36
 have HR0 := Aside0.mk hr0
 have HC0 := Aside0.mk hc0
 clear hr0 hc0
 have HR1 := Aside0.mk hr1
 have HC1 := Aside0.mk hc1
 clear hr1 hc1
 have HB := Aside0.mk (Below.refl w.heap.size w)
 have H : ((snap_Valid.f k l0).bind fun t263 => (if t263 = 0 then ((cone_Valid.f k l1).bind fun t264 => (if t264 = 0 then (cone_View.l0 k l1 ([] : List (S36)) l0 (l0.length : Int) 0) else (some (([] : List (S36)), t264)))) else (some (([] : List (S36)), t263)))) = some (r1, r2) := h
 clear h
 replace H := Option.bind_eq_some_iff.mp H
 obtain ⟨t263, A30, H⟩ := H
 replace H : (if t263 = 0 then ((cone_Valid.f k l1).bind fun t264 => (if t264 = 0 then (cone_View.l0 k l1 ([] : List (S36)) l0 (l0.length : Int) 0) else (some (([] : List (S36)), t264)))) else (some (([] : List (S36)), t263))) = some (r1, r2) := H
 have A3 := Aside0.mk A30
 clear A30
 by_cases c4 : t263 = 0
 ·rw [if_pos c4] at H
  have c4b0 : (t263 == 0) = true := beq_iff_eq.mpr c4
  have c4b1 : (t263 != 0) = false := bne_eq_false_iff_eq.mpr c4
  clear c4
  replace H := Option.bind_eq_some_iff.mp H
  obtain ⟨t264, A50, H⟩ := H
  replace H : (if t264 = 0 then (cone_View.l0 k l1 ([] : List (S36)) l0 (l0.length : Int) 0) else (some (([] : List (S36)), t264))) = some (r1, r2) := H
  have A5 := Aside0.mk A50
  clear A50
  by_cases c6 : t264 = 0
  ·rw [if_pos c6] at H
   have c6b0 : (t264 == 0) = true := beq_iff_eq.mpr c6
   have c6b1 : (t264 != 0) = false := bne_eq_false_iff_eq.mpr c6
   clear c6
   have H' := Aside0.mk H
   clear H
   go_enter Tryz.func9, Tryz.ntmps9
   go_wp2_with (first | ((with_reducible refine gate_callee (f := 22) rfl ?_); refine goesL_ (some 12) rfl rfl Tryz.func22 (by kernel_rfl) rfl #[.slice A0 l0.length c0] rfl (by (try simp only [List.map_toArray, List.map_cons, List.map_nil]); first | done | rfl | (simp only [List.length_drop, List.length_take]; rfl)) ?_; (with_reducible refine (snap_Valid.calls k _ _ l0 t263 _ ?side1 ?side2 A3.out).mono ?_); (case side1 => repeat (first | exact HR0.out | (with_reducible refine Kd.C_alloc ?_ _) | (with_reducible refine Kd.C_drewN ?_ _) | (with_reducible refine Kd.C_drew ?_))); (case side2 => exact HC0.out); rintro e w7 ⟨rfl, hb⟩; refine ⟨_, rfl, ?_⟩; have n0_ := Aside0.mk (below_step (by repeat (first | (with_reducible first | exact HB.out | apply below_alloc | apply pw_below_drewN | apply below_drew1) | exact HB.out)) hb); clear HB; have HB := n0_; clear n0_; (try clear hb); (try clear hb2); (try clear hk); (try clear hi)) | ((with_reducible refine gate_callee (f := 19) rfl ?_); refine goesL_ (some 17) rfl rfl Tryz.func19 (by kernel_rfl) rfl #[.slice A1 l1.length c1] rfl (by (try simp only [List.map_toArray, List.map_cons, List.map_nil]); first | done | rfl | (simp only [List.length_drop, List.length_take]; rfl)) ?_; (with_reducible refine (cone_Valid.calls k _ _ l1 t264 _ ?side1 ?side2 A5.out).mono ?_); (case side1 => repeat (first | exact (Kd.C_below HR1.out HB.out) | (with_reducible refine Kd.C_alloc ?_ _) | (with_reducible refine Kd.C_drewN ?_ _) | (with_reducible refine Kd.C_drew ?_))); (case side2 => exact HC1.out); rintro e w8 ⟨rfl, hb⟩; refine ⟨_, rfl, ?_⟩; have n0_ := Aside0.mk (below_step (by repeat (first | (with_reducible first | exact HB.out | apply below_alloc | apply pw_below_drewN | apply below_drew1) | exact HB.out)) hb); clear HB; have HB := n0_; clear n0_; (try clear hb); (try clear hb2); (try clear hk); (try clear hi)))
   go_loopg [8, 23] k (fun kq v8 v23 w' => ∃ (x8_1 : List (S36)) (x23_1 : Int), v23 = .int .i64 x23_1 ∧ Aside0 (cone_View.l0 kq l1 x8_1 l0 (l0.length : Int) x23_1 = some (r1, r2)) ∧ Aside0 (kq ≤ k) ∧ Aside0 (Kd.R k36 36 w' w.heap.size (fun _ => True) v8 x8_1) ∧ Aside0 (Below w.heap.size w w'))
   case atStart => exact ⟨(([] : List (S36))), (0), (by first | rfl | (simp; done) | (simp [*]; done)), H', ⟨Nat.le_refl _⟩, ⟨by first | exact Kd.R_nil _ _ _ _ _ | exact Kd.N_nil _ _ _ _ _ | exact Kd.V_nil _ _ _ _ _ | exact Kd.Q_nil _ _ _ _ _ | exact Kd.S_nil _ _ _ _ _⟩, ⟨by repeat (first | (with_reducible first | exact HB.out | apply below_alloc | apply pw_below_drewN | apply below_drew1) | exact HB.out)⟩⟩
   case round =>
    clear H'
    try clear c1
    try clear c2
    try clear p2
    try clear c4
    try clear c4b0
    try clear c4b1
    try clear c6
    try clear c6b0
    try clear c6b1
    obtain ⟨x8_1, x23_1, rfl, HA, HK1, HO_8, HB⟩ := hrel
    cases gk with
    | zero => exact absurd HA.out (by simp [cone_View.l0])
    | succ k1 =>
     have H := HA.out
     clear HA
     simp only [cone_View.l0] at H
     by_cases c9 : x23_1 < (l0.length : Int)
     ·rw [if_pos c9] at H
      have c9b0 := decide_eq_true c9
      clear c9
      by_cases c10 : 0 ≤ x23_1
      ·rw [if_pos c10] at H
       have c10b0 := decide_eq_true c10
       clear c10
       by_cases c11 : x23_1 < (l0.length : Int)
       ·rw [if_pos c11] at H
        have c11b0 := decide_eq_true c11
        clear c11
        replace H := Option.bind_eq_some_iff.mp H
        obtain ⟨t267, A120, H⟩ := H
        replace H : (if t267 = true then (if x8_1.length < 2932031007402 then (cone_View.l0 k1 l1 (x8_1 ++ [(⟨(rd_T36 l0 x23_1).f0, (rd_T36 l0 x23_1).f1, (rd_T36 l0 x23_1).f2, (rd_T36 l0 x23_1).f3⟩ : S36)]) l0 (l0.length : Int) (wrap64 (x23_1 + 1))) else (none)) else (cone_View.l0 k1 l1 x8_1 l0 (l0.length : Int) (wrap64 (x23_1 + 1)))) = some (r1, r2) := H
        have A12 := Aside0.mk A120
        clear A120
        by_cases c13 : t267 = true
        ·subst c13
         have H1 : (if x8_1.length < 2932031007402 then (cone_View.l0 k1 l1 (x8_1 ++ [(⟨(rd_T36 l0 x23_1).f0, (rd_T36 l0 x23_1).f1, (rd_T36 l0 x23_1).f2, (rd_T36 l0 x23_1).f3⟩ : S36)]) l0 (l0.length : Int) (wrap64 (x23_1 + 1))) else (none)) = some (r1, r2) := by rw [if_pos rfl] at H; exact H
         clear H
         have H := H1
         clear H1
         by_cases c14 : x8_1.length < 2932031007402
         ·rw [if_pos c14] at H
          have LMc14 := Aside0.mk c14
          clear c14
          obtain ⟨y268, hy268⟩ : ∃ y_ : List (S36), y_ = (x8_1 ++ [(⟨(rd_T36 l0 x23_1).f0, (rd_T36 l0 x23_1).f1, (rd_T36 l0 x23_1).f2, (rd_T36 l0 x23_1).f3⟩ : S36)]) := ⟨_, rfl⟩
          replace H : (cone_View.l0 k1 l1 y268 l0 (l0.length : Int) (wrap64 (x23_1 + 1))) = some (r1, r2) := by first | (rw [hy268]; with_reducible exact H) | (have H2_ := (Option.bind_some _ _).symm.trans H; rw [hy268]; with_reducible exact H2_) | (have H2_ := (Option.bind_some _ _).symm.trans H; with_reducible exact H2_) | with_reducible exact H | (rw [hy268]; exact H) | exact H
          have Ny268 := Aside0.mk hy268
          clear hy268
          have H' := Aside0.mk H
          clear H
          have p265 : 0 ≤ (x23_1 : Int) := of_decide_eq_true (by first | (with_reducible assumption) | assumption)
          have q265 : x23_1 < (l0.length : Int) := of_decide_eq_true (by first | (with_reducible assumption) | assumption)
          obtain ⟨ad265, e265, hx265_0, hx265_1, hx265_2, hx265_3⟩ := at_T36 HR0.out x23_1 p265 q265
          cases e265
          replace hx265_0 := (HB.out.cell (World.block_lt_of_cell? w _ hx265_0)).trans hx265_0
          replace hx265_1 := (HB.out.cell (World.block_lt_of_cell? w _ hx265_1)).trans hx265_1
          replace hx265_2 := (HB.out.cell (World.block_lt_of_cell? w _ hx265_2)).trans hx265_2
          replace hx265_3 := (HB.out.cell (World.block_lt_of_cell? w _ hx265_3)).trans hx265_3
          replace p265 := eq_true p265
          replace q265 := eq_true q265
          go_wp2_with (first | ((with_reducible refine gate_dst (N := 10) rfl ?_); refine box_event ?hg (N := 10) ?hd (cs := #[.string (⟨#[]⟩ : ByteArray), .string (⟨#[]⟩ : ByteArray), .int .i64 0, .int .i64 0]) (t := 36) ?hr ?_; (case hd => rfl); (case hg => rfl); (case hr => first | (go_simp; done) | (go_simp; rfl)); intro gb266 hg w15 hbox hb; have n0_ := Aside0.mk (Kd.R_below (Kd.R_elderB (by (with_reducible repeat (first | apply Kd.R_alloc | apply Kd.R_drewN | apply Kd.R_drew)); exact HO_8.out) gb266 (Nat.le_of_eq hg.symm)) hb); have n1_ := Aside0.mk (below_step (by repeat (first | (with_reducible first | exact HB.out | apply below_alloc | apply pw_below_drewN | apply below_drew1) | exact HB.out)) hb); have n2_ := Aside0.mk (hbox); have n3_ := Aside0.mk ((by rw [hg]; exact (below_size (by repeat (first | (with_reducible first | exact HB.out | apply below_alloc | apply pw_below_drewN | apply below_drew1) | exact HB.out))) : w.heap.size ≤ gb266)); have n4_ := Aside0.mk ((by rw [hg]; exact (below_size (by repeat (first | (with_reducible first | exact HB.out | apply below_alloc | apply pw_below_drewN | apply below_drew1) | exact HB.out))) : w.heap.size ≤ gb266)); clear HO_8; clear HB; have HO_8 := n0_; have HB := n1_; have BK266 := n2_; have GW266 := n3_; have GE266 := n4_; clear n0_ n1_ n2_ n3_ n4_; clear hb hbox hg; have hcz16_0 : w15.cell? ⟨gb266, 0, none⟩ = some (.string (⟨#[]⟩ : ByteArray)) := (blk_cell BK266.out 0).trans rfl; have hcz16_1 : w15.cell? ⟨gb266, 1, none⟩ = some (.string (⟨#[]⟩ : ByteArray)) := (blk_cell BK266.out 1).trans rfl; have hcz16_2 : w15.cell? ⟨gb266, 2, none⟩ = some (.int .i64 0) := (blk_cell BK266.out 2).trans rfl; have hcz16_3 : w15.cell? ⟨gb266, 3, none⟩ = some (.int .i64 0) := (blk_cell BK266.out 3).trans rfl; have hfz16_0 := blk_frozen BK266.out 0; have hfz16_1 := blk_frozen BK266.out 1; have hfz16_2 := blk_frozen BK266.out 2; have hfz16_3 := blk_frozen BK266.out 3) | ((with_reducible refine gate_callee (f := 18) rfl ?_); refine goesL_ (some 30) rfl rfl Tryz.func18 (by kernel_rfl) rfl #[.slice A1 l1.length c1, .string ((rd_T36 l0 x23_1).f0)] rfl (by (try simp only [List.map_toArray, List.map_cons, List.map_nil]); first | done | rfl | (simp only [List.length_drop, List.length_take]; rfl)) ?_; (with_reducible refine (cone_Shows.calls k1 _ _ l1 ((rd_T36 l0 x23_1).f0) true _ ?side1 ?side2 A12.out).mono ?_); (case side1 => exact Kd.C_below HR1.out (by repeat (first | (with_reducible first | exact HB.out | apply below_alloc | apply pw_below_drewN | apply below_drew1 | refine below_set ?_ GE266.out) | exact HB.out))); (case side2 => exact HC1.out); rintro e w17 ⟨rfl, hb⟩; refine ⟨_, rfl, ?_⟩; have n0_ := Aside0.mk (Kd.R_below (by (with_reducible repeat (first | apply Kd.R_alloc | apply Kd.R_drewN | apply Kd.R_drew)); exact (Kd.R_mono (Kd.R_far (p := ⟨gb266, 3, none⟩) (Kd.R_far (p := ⟨gb266, 2, none⟩) (Kd.R_far (p := ⟨gb266, 1, none⟩) (Kd.R_far (p := ⟨gb266, 0, none⟩) (Kd.R_mono HO_8.out (fun k_ hk => (⟨hk, hk.2⟩ : _ ∧ k_ ≠ gb266))) (fun _ hk => hk.2) (.string ((rd_T36 l0 x23_1).f0))) (fun _ hk => hk.2) (.string ((rd_T36 l0 x23_1).f1))) (fun _ hk => hk.2) (.int .i64 ((rd_T36 l0 x23_1).f2))) (fun _ hk => hk.2) (.int .i64 ((rd_T36 l0 x23_1).f3))) (fun _ h_ => h_.1))) hb); have n1_ := Aside0.mk (blk_below (g := gb266) (o := .cells #[.string ((rd_T36 l0 x23_1).f0), .string ((rd_T36 l0 x23_1).f1), .int .i64 ((rd_T36 l0 x23_1).f2), .int .i64 ((rd_T36 l0 x23_1).f3)] 36 (0, 0)) (by (with_reducible repeat (first | refine blk_drewN ?_ _ | refine blk_drew ?_ | refine blk_alloc ?_ _)); refine blk_put (cs := #[.string ((rd_T36 l0 x23_1).f0), .string ((rd_T36 l0 x23_1).f1), .int .i64 ((rd_T36 l0 x23_1).f2), .int .i64 0]) ?_ 3 _ rfl; (with_reducible repeat (first | refine blk_drewN ?_ _ | refine blk_drew ?_ | refine blk_alloc ?_ _)); refine blk_put (cs := #[.string ((rd_T36 l0 x23_1).f0), .string ((rd_T36 l0 x23_1).f1), .int .i64 0, .int .i64 0]) ?_ 2 _ rfl; (with_reducible repeat (first | refine blk_drewN ?_ _ | refine blk_drew ?_ | refine blk_alloc ?_ _)); refine blk_put (cs := #[.string ((rd_T36 l0 x23_1).f0), .string (⟨#[]⟩ : ByteArray), .int .i64 0, .int .i64 0]) ?_ 1 _ rfl; (with_reducible repeat (first | refine blk_drewN ?_ _ | refine blk_drew ?_ | refine blk_alloc ?_ _)); refine blk_put (cs := #[.string (⟨#[]⟩ : ByteArray), .string (⟨#[]⟩ : ByteArray), .int .i64 0, .int .i64 0]) ?_ 0 _ rfl; (with_reducible repeat (first | refine blk_drewN ?_ _ | refine blk_drew ?_ | refine blk_alloc ?_ _)); exact BK266.out) hb); have n2_ := Aside0.mk (below_step (by repeat (first | (with_reducible first | exact HB.out | apply below_alloc | apply pw_below_drewN | apply below_drew1 | refine below_set ?_ GE266.out) | exact HB.out)) hb); clear HO_8; clear BK266; clear HB; have HO_8 := n0_; have BK266 := n1_; have HB := n2_; clear n0_ n1_ n2_; (try clear hb); (try clear hb2); (try clear hk); (try clear hi); have hcz18_0 : w17.cell? ⟨gb266, 0, none⟩ = some (.string ((rd_T36 l0 x23_1).f0)) := (blk_cell BK266.out 0).trans rfl; have hcz18_1 : w17.cell? ⟨gb266, 1, none⟩ = some (.string ((rd_T36 l0 x23_1).f1)) := (blk_cell BK266.out 1).trans rfl; have hcz18_2 : w17.cell? ⟨gb266, 2, none⟩ = some (.int .i64 ((rd_T36 l0 x23_1).f2)) := (blk_cell BK266.out 2).trans rfl; have hcz18_3 : w17.cell? ⟨gb266, 3, none⟩ = some (.int .i64 ((rd_T36 l0 x23_1).f3)) := (blk_cell BK266.out 3).trans rfl; have hfz18_0 := blk_frozen BK266.out 0; have hfz18_1 := blk_frozen BK266.out 1; have hfz18_2 := blk_frozen BK266.out 2; have hfz18_3 := blk_frozen BK266.out 3) | ((with_reducible refine gate_builtin (b := .append) (xs := #[.tmp 31, .tmp 33]) rfl ?_); at_builtin; refine Kd.R_append k36 (w0 := w) w.heap.size rfl (.tmp 31) (.tmp 33) 22 36 (.agg #[(.string ⟨#[]⟩), (.string ⟨#[]⟩), (.int .i64 0), (.int .i64 0)]) 48 rfl Tryz.underlying22 info36 rfl (by decide) (by omega) u8 x8_1 (⟨(rd_T36 l0 x23_1).f0, (rd_T36 l0 x23_1).f1, (rd_T36 l0 x23_1).f2, (rd_T36 l0 x23_1).f3⟩ : S36) [.string ((rd_T36 l0 x23_1).f0), .string ((rd_T36 l0 x23_1).f1), .int .i64 ((rd_T36 l0 x23_1).f2), .int .i64 ((rd_T36 l0 x23_1).f3)] (fun k_ => k_ ≠ gb266) (fun _ => False) rfl rfl ?aP (fun _ hk => hk.elim) ?aF ?aO ?aB ?aS ?aL ?_; (case aP => exact k36_mkM _ _ _ (⟨(rd_T36 l0 x23_1).f0, (rd_T36 l0 x23_1).f1, (rd_T36 l0 x23_1).f2, (rd_T36 l0 x23_1).f3⟩ : S36)); (case aB => exact (by repeat (first | (with_reducible first | exact HB.out | apply below_alloc | apply pw_below_drewN | apply below_drew1 | refine below_set ?_ GE266.out) | exact HB.out))); (case aF => exact (fun k_ hk => Kd.freshB (g := gb266) (o := .cells #[.string ((rd_T36 l0 x23_1).f0), .string ((rd_T36 l0 x23_1).f1), .int .i64 ((rd_T36 l0 x23_1).f2), .int .i64 ((rd_T36 l0 x23_1).f3)] 36 (0, 0)) (by (with_reducible repeat (first | refine blk_drewN ?_ _ | refine blk_drew ?_ | refine blk_alloc ?_ _)); exact BK266.out) k_ hk)); (case aO => exact (by (with_reducible repeat (first | apply Kd.R_alloc | apply Kd.R_drewN | apply Kd.R_drew)); exact Kd.R_mono HO_8.out (fun _ hk => hk.2))); (case aS => exact (below_size (by repeat (first | (with_reducible first | exact HB.out | apply below_alloc | apply pw_below_drewN | apply below_drew1 | refine below_set ?_ GE266.out) | exact HB.out)))); (case aL => have := LMc14.out; omega); intro v269 w19 ho hb hg hat; rw [← Ny268.out] at ho; have n0_ := Aside0.mk (blk_grown (g := gb266) (o := .cells #[.string ((rd_T36 l0 x23_1).f0), .string ((rd_T36 l0 x23_1).f1), .int .i64 ((rd_T36 l0 x23_1).f2), .int .i64 ((rd_T36 l0 x23_1).f3)] 36 (0, 0)) (by (with_reducible repeat (first | refine blk_drewN ?_ _ | refine blk_drew ?_ | refine blk_alloc ?_ _)); exact BK266.out) hg (Kd.R_away HO_8.out (fun _ hk => hk.2))); have n1_ := Aside0.mk (hb); have n2_ := Aside0.mk (ho); clear BK266; clear HB; clear HO_8; have BK266 := n0_; have HB := n1_; have HO270 := n2_; clear n0_ n1_ n2_; clear ho hb hg hat))
          go_roundg k1
          case measure => have := HK1.out; omega
          case rel => exact ⟨(y268), (wrap64 (x23_1 + 1)), (by first | rfl | (simp; done) | (simp [*]; done)), H', ⟨by have := HK1.out; omega⟩, ⟨by (with_reducible repeat (first | apply Kd.R_alloc | apply Kd.R_drewN | apply Kd.R_drew)); exact Kd.R_mono HO270.out (fun _ hk => trivial)⟩, ⟨by repeat (first | (with_reducible first | exact HB.out | apply below_alloc | apply pw_below_drewN | apply below_drew1 | refine below_set ?_ GE266.out) | exact HB.out)⟩⟩
         ·rw [if_neg c14] at H
          exact absurd H (by simp)
        ·replace c13 := Bool.eq_false_iff.mpr c13
         subst c13
         have H1 : (cone_View.l0 k1 l1 x8_1 l0 (l0.length : Int) (wrap64 (x23_1 + 1))) = some (r1, r2) := by rw [if_neg (show ¬ (false = true) by decide)] at H; exact H
         clear H
         have H := H1
         clear H1
         have H' := Aside0.mk H
         clear H
         have p265 : 0 ≤ (x23_1 : Int) := of_decide_eq_true (by first | (with_reducible assumption) | assumption)
         have q265 : x23_1 < (l0.length : Int) := of_decide_eq_true (by first | (with_reducible assumption) | assumption)
         obtain ⟨ad265, e265, hx265_0, hx265_1, hx265_2, hx265_3⟩ := at_T36 HR0.out x23_1 p265 q265
         cases e265
         replace hx265_0 := (HB.out.cell (World.block_lt_of_cell? w _ hx265_0)).trans hx265_0
         replace hx265_1 := (HB.out.cell (World.block_lt_of_cell? w _ hx265_1)).trans hx265_1
         replace hx265_2 := (HB.out.cell (World.block_lt_of_cell? w _ hx265_2)).trans hx265_2
         replace hx265_3 := (HB.out.cell (World.block_lt_of_cell? w _ hx265_3)).trans hx265_3
         replace p265 := eq_true p265
         replace q265 := eq_true q265
         go_wp2_with (first | ((with_reducible refine gate_dst (N := 10) rfl ?_); refine box_event ?hg (N := 10) ?hd (cs := #[.string (⟨#[]⟩ : ByteArray), .string (⟨#[]⟩ : ByteArray), .int .i64 0, .int .i64 0]) (t := 36) ?hr ?_; (case hd => rfl); (case hg => rfl); (case hr => first | (go_simp; done) | (go_simp; rfl)); intro gb266 hg w20 hbox hb; have n0_ := Aside0.mk (Kd.R_below (Kd.R_elderB (by (with_reducible repeat (first | apply Kd.R_alloc | apply Kd.R_drewN | apply Kd.R_drew)); exact HO_8.out) gb266 (Nat.le_of_eq hg.symm)) hb); have n1_ := Aside0.mk (below_step (by repeat (first | (with_reducible first | exact HB.out | apply below_alloc | apply pw_below_drewN | apply below_drew1) | exact HB.out)) hb); have n2_ := Aside0.mk (hbox); have n3_ := Aside0.mk ((by rw [hg]; exact (below_size (by repeat (first | (with_reducible first | exact HB.out | apply below_alloc | apply pw_below_drewN | apply below_drew1) | exact HB.out))) : w.heap.size ≤ gb266)); have n4_ := Aside0.mk ((by rw [hg]; exact (below_size (by repeat (first | (with_reducible first | exact HB.out | apply below_alloc | apply pw_below_drewN | apply below_drew1) | exact HB.out))) : w.heap.size ≤ gb266)); clear HO_8; clear HB; have HO_8 := n0_; have HB := n1_; have BK266 := n2_; have GW266 := n3_; have GE266 := n4_; clear n0_ n1_ n2_ n3_ n4_; clear hb hbox hg; have hcz21_0 : w20.cell? ⟨gb266, 0, none⟩ = some (.string (⟨#[]⟩ : ByteArray)) := (blk_cell BK266.out 0).trans rfl; have hcz21_1 : w20.cell? ⟨gb266, 1, none⟩ = some (.string (⟨#[]⟩ : ByteArray)) := (blk_cell BK266.out 1).trans rfl; have hcz21_2 : w20.cell? ⟨gb266, 2, none⟩ = some (.int .i64 0) := (blk_cell BK266.out 2).trans rfl; have hcz21_3 : w20.cell? ⟨gb266, 3, none⟩ = some (.int .i64 0) := (blk_cell BK266.out 3).trans rfl; have hfz21_0 := blk_frozen BK266.out 0; have hfz21_1 := blk_frozen BK266.out 1; have hfz21_2 := blk_frozen BK266.out 2; have hfz21_3 := blk_frozen BK266.out 3) | ((with_reducible refine gate_callee (f := 18) rfl ?_); refine goesL_ (some 30) rfl rfl Tryz.func18 (by kernel_rfl) rfl #[.slice A1 l1.length c1, .string ((rd_T36 l0 x23_1).f0)] rfl (by (try simp only [List.map_toArray, List.map_cons, List.map_nil]); first | done | rfl | (simp only [List.length_drop, List.length_take]; rfl)) ?_; (with_reducible refine (cone_Shows.calls k1 _ _ l1 ((rd_T36 l0 x23_1).f0) false _ ?side1 ?side2 A12.out).mono ?_); (case side1 => exact Kd.C_below HR1.out (by repeat (first | (with_reducible first | exact HB.out | apply below_alloc | apply pw_below_drewN | apply below_drew1 | refine below_set ?_ GE266.out) | exact HB.out))); (case side2 => exact HC1.out); rintro e w22 ⟨rfl, hb⟩; refine ⟨_, rfl, ?_⟩; have n0_ := Aside0.mk (Kd.R_below (by (with_reducible repeat (first | apply Kd.R_alloc | apply Kd.R_drewN | apply Kd.R_drew)); exact (Kd.R_mono (Kd.R_far (p := ⟨gb266, 3, none⟩) (Kd.R_far (p := ⟨gb266, 2, none⟩) (Kd.R_far (p := ⟨gb266, 1, none⟩) (Kd.R_far (p := ⟨gb266, 0, none⟩) (Kd.R_mono HO_8.out (fun k_ hk => (⟨hk, hk.2⟩ : _ ∧ k_ ≠ gb266))) (fun _ hk => hk.2) (.string ((rd_T36 l0 x23_1).f0))) (fun _ hk => hk.2) (.string ((rd_T36 l0 x23_1).f1))) (fun _ hk => hk.2) (.int .i64 ((rd_T36 l0 x23_1).f2))) (fun _ hk => hk.2) (.int .i64 ((rd_T36 l0 x23_1).f3))) (fun _ h_ => h_.1))) hb); have n1_ := Aside0.mk (blk_below (g := gb266) (o := .cells #[.string ((rd_T36 l0 x23_1).f0), .string ((rd_T36 l0 x23_1).f1), .int .i64 ((rd_T36 l0 x23_1).f2), .int .i64 ((rd_T36 l0 x23_1).f3)] 36 (0, 0)) (by (with_reducible repeat (first | refine blk_drewN ?_ _ | refine blk_drew ?_ | refine blk_alloc ?_ _)); refine blk_put (cs := #[.string ((rd_T36 l0 x23_1).f0), .string ((rd_T36 l0 x23_1).f1), .int .i64 ((rd_T36 l0 x23_1).f2), .int .i64 0]) ?_ 3 _ rfl; (with_reducible repeat (first | refine blk_drewN ?_ _ | refine blk_drew ?_ | refine blk_alloc ?_ _)); refine blk_put (cs := #[.string ((rd_T36 l0 x23_1).f0), .string ((rd_T36 l0 x23_1).f1), .int .i64 0, .int .i64 0]) ?_ 2 _ rfl; (with_reducible repeat (first | refine blk_drewN ?_ _ | refine blk_drew ?_ | refine blk_alloc ?_ _)); refine blk_put (cs := #[.string ((rd_T36 l0 x23_1).f0), .string (⟨#[]⟩ : ByteArray), .int .i64 0, .int .i64 0]) ?_ 1 _ rfl; (with_reducible repeat (first | refine blk_drewN ?_ _ | refine blk_drew ?_ | refine blk_alloc ?_ _)); refine blk_put (cs := #[.string (⟨#[]⟩ : ByteArray), .string (⟨#[]⟩ : ByteArray), .int .i64 0, .int .i64 0]) ?_ 0 _ rfl; (with_reducible repeat (first | refine blk_drewN ?_ _ | refine blk_drew ?_ | refine blk_alloc ?_ _)); exact BK266.out) hb); have n2_ := Aside0.mk (below_step (by repeat (first | (with_reducible first | exact HB.out | apply below_alloc | apply pw_below_drewN | apply below_drew1 | refine below_set ?_ GE266.out) | exact HB.out)) hb); clear HO_8; clear BK266; clear HB; have HO_8 := n0_; have BK266 := n1_; have HB := n2_; clear n0_ n1_ n2_; (try clear hb); (try clear hb2); (try clear hk); (try clear hi)))
         go_roundg k1
         case measure => have := HK1.out; omega
         case rel => exact ⟨(x8_1), (wrap64 (x23_1 + 1)), (by first | rfl | (simp; done) | (simp [*]; done)), H', ⟨by have := HK1.out; omega⟩, ⟨by (with_reducible repeat (first | apply Kd.R_alloc | apply Kd.R_drewN | apply Kd.R_drew)); exact Kd.R_mono HO_8.out (fun _ hk => trivial)⟩, ⟨by repeat (first | (with_reducible first | exact HB.out | apply below_alloc | apply pw_below_drewN | apply below_drew1 | refine below_set ?_ GE266.out) | exact HB.out)⟩⟩
       ·rw [if_neg c11] at H
        exact absurd H (by simp)
      ·rw [if_neg c10] at H
       exact absurd H (by simp)
     ·rw [if_neg c9] at H
      have c9b0 := decide_eq_false c9
      clear c9
      simp only [Option.some.injEq, Prod.mk.injEq] at H
      obtain ⟨rfl, rfl⟩ := H
      go_wp2
      go_ret2
      exact ⟨_, by first | rfl | (simp [errW_none, errW_some] <;> rfl) | (simp [*, errW_none, errW_some] <;> rfl), by (with_reducible repeat (first | apply Kd.R_alloc | apply Kd.R_drewN | apply Kd.R_drew)); exact HO_8.out, by repeat (first | (with_reducible first | exact HB.out | apply below_alloc | apply pw_below_drewN | apply below_drew1) | exact HB.out)⟩
  ·rw [if_neg c6] at H
   have c6b0 : (t264 == 0) = false := beq_eq_false_iff_ne.mpr c6
   have c6b1 : (t264 != 0) = true := bne_iff_ne.mpr c6
   simp only [Option.some.injEq, Prod.mk.injEq] at H
   obtain ⟨rfl, rfl⟩ := H
   go_enter Tryz.func9, Tryz.ntmps9
   go_wp2_with (first | ((with_reducible refine gate_callee (f := 22) rfl ?_); refine goesL_ (some 12) rfl rfl Tryz.func22 (by kernel_rfl) rfl #[.slice A0 l0.length c0] rfl (by (try simp only [List.map_toArray, List.map_cons, List.map_nil]); first | done | rfl | (simp only [List.length_drop, List.length_take]; rfl)) ?_; (with_reducible refine (snap_Valid.calls k _ _ l0 t263 _ ?side1 ?side2 A3.out).mono ?_); (case side1 => repeat (first | exact HR0.out | (with_reducible refine Kd.C_alloc ?_ _) | (with_reducible refine Kd.C_drewN ?_ _) | (with_reducible refine Kd.C_drew ?_))); (case side2 => exact HC0.out); rintro e w23 ⟨rfl, hb⟩; refine ⟨_, rfl, ?_⟩; have n0_ := Aside0.mk (below_step (by repeat (first | (with_reducible first | exact HB.out | apply below_alloc | apply pw_below_drewN | apply below_drew1) | exact HB.out)) hb); clear HB; have HB := n0_; clear n0_; (try clear hb); (try clear hb2); (try clear hk); (try clear hi)) | ((with_reducible refine gate_callee (f := 19) rfl ?_); refine goesL_ (some 17) rfl rfl Tryz.func19 (by kernel_rfl) rfl #[.slice A1 l1.length c1] rfl (by (try simp only [List.map_toArray, List.map_cons, List.map_nil]); first | done | rfl | (simp only [List.length_drop, List.length_take]; rfl)) ?_; (with_reducible refine (cone_Valid.calls k _ _ l1 t264 _ ?side1 ?side2 A5.out).mono ?_); (case side1 => repeat (first | exact (Kd.C_below HR1.out HB.out) | (with_reducible refine Kd.C_alloc ?_ _) | (with_reducible refine Kd.C_drewN ?_ _) | (with_reducible refine Kd.C_drew ?_))); (case side2 => exact HC1.out); rintro e w24 ⟨rfl, hb⟩; refine ⟨_, rfl, ?_⟩; have n0_ := Aside0.mk (below_step (by repeat (first | (with_reducible first | exact HB.out | apply below_alloc | apply pw_below_drewN | apply below_drew1) | exact HB.out)) hb); clear HB; have HB := n0_; clear n0_; (try clear hb); (try clear hb2); (try clear hk); (try clear hi)))
   go_ret2
   exact ⟨_, by first | rfl | (simp [errW_none, errW_some] <;> rfl) | (simp [*, errW_none, errW_some] <;> rfl), by first | exact Kd.R_nil _ _ _ _ _ | exact Kd.N_nil _ _ _ _ _ | exact Kd.V_nil _ _ _ _ _ | exact Kd.Q_nil _ _ _ _ _ | exact Kd.S_nil _ _ _ _ _, by repeat (first | (with_reducible first | exact HB.out | apply below_alloc | apply pw_below_drewN | apply below_drew1) | exact HB.out)⟩
 ·rw [if_neg c4] at H
  have c4b0 : (t263 == 0) = false := beq_eq_false_iff_ne.mpr c4
  have c4b1 : (t263 != 0) = true := bne_iff_ne.mpr c4
  simp only [Option.some.injEq, Prod.mk.injEq] at H
  obtain ⟨rfl, rfl⟩ := H
  go_enter Tryz.func9, Tryz.ntmps9
  go_wp2_with (first | ((with_reducible refine gate_callee (f := 22) rfl ?_); refine goesL_ (some 12) rfl rfl Tryz.func22 (by kernel_rfl) rfl #[.slice A0 l0.length c0] rfl (by (try simp only [List.map_toArray, List.map_cons, List.map_nil]); first | done | rfl | (simp only [List.length_drop, List.length_take]; rfl)) ?_; (with_reducible refine (snap_Valid.calls k _ _ l0 t263 _ ?side1 ?side2 A3.out).mono ?_); (case side1 => repeat (first | exact HR0.out | (with_reducible refine Kd.C_alloc ?_ _) | (with_reducible refine Kd.C_drewN ?_ _) | (with_reducible refine Kd.C_drew ?_))); (case side2 => exact HC0.out); rintro e w25 ⟨rfl, hb⟩; refine ⟨_, rfl, ?_⟩; have n0_ := Aside0.mk (below_step (by repeat (first | (with_reducible first | exact HB.out | apply below_alloc | apply pw_below_drewN | apply below_drew1) | exact HB.out)) hb); clear HB; have HB := n0_; clear n0_; (try clear hb); (try clear hb2); (try clear hk); (try clear hi)))
  go_ret2
  exact ⟨_, by first | rfl | (simp [errW_none, errW_some] <;> rfl) | (simp [*, errW_none, errW_some] <;> rfl), by first | exact Kd.R_nil _ _ _ _ _ | exact Kd.N_nil _ _ _ _ _ | exact Kd.V_nil _ _ _ _ _ | exact Kd.Q_nil _ _ _ _ _ | exact Kd.S_nil _ _ _ _ _, by repeat (first | (with_reducible first | exact HB.out | apply below_alloc | apply pw_below_drewN | apply below_drew1) | exact HB.out)⟩
def paths_Heads.l0 : Nat → List ByteArray → List ByteArray → Int → Int → Option (List ByteArray)
 | 0, _, _, _, _ => none
 | k + 1, x3, x7, x8, x9 => if x9 < x8 then (if 0 ≤ x9 then (if x9 < (x7.length : Int) then (if (x3.length : Int) = 0 then (if x3.length < 8796093022208 then (paths_Heads.l0 k (x3 ++ [rdOf ByteArray.empty x7 x9]) x7 x8 (wrap64 (x9 + 1))) else (none)) else (if 0 ≤ (wrap64 ((x3.length : Int) - 1)) then (if (wrap64 ((x3.length : Int) - 1)) < (x3.length : Int) then ((path_Above.f k (rdOf ByteArray.empty x3 (wrap64 ((x3.length : Int) - 1))) (rdOf ByteArray.empty x7 x9)).bind fun t415 => (if t415 = true then (paths_Heads.l0 k x3 x7 x8 (wrap64 (x9 + 1))) else (if x3.length < 8796093022208 then (paths_Heads.l0 k (x3 ++ [rdOf ByteArray.empty x7 x9]) x7 x8 (wrap64 (x9 + 1))) else (none)))) else (none)) else (none))) else (none)) else (none)) else (some x3)
def paths_Heads.f (k : Nat) (l0 : List ByteArray) : Option (List ByteArray) := (paths_Norm.f k l0).bind fun t407 => (paths_Heads.l0 k ([] : List ByteArray) t407 (t407.length : Int) 0)
theorem paths_Heads.mono_l : ∀ k, (∀ y0 y1 y2 y3, LeO (paths_Heads.l0 k y0 y1 y2 y3) (paths_Heads.l0 (k + 1) y0 y1 y2 y3))
 | 0 => fun _ _ _ _ r h => by simp [paths_Heads.l0] at h
 | k + 1 => by
  have ih0 := paths_Heads.mono_l k
  ·intro y0 y1 y2 y3
   unfold paths_Heads.l0
   repeat' first
   | (with_reducible exact ih0 _ _ _ _)
   | (with_reducible exact path_Above.mono _ _ _)
   | (with_reducible exact paths_Norm.mono _ _)
   | (with_reducible exact LeO.refl _)
   | (with_reducible exact LeO.none _)
   | (with_reducible refine LeO.ite ?_ ?_)
   | (with_reducible refine LeO.bind ?_ (fun _ => ?_))
   | exact ih0 _ _ _ _
   | exact path_Above.mono _ _ _
   | exact paths_Norm.mono _ _
   | exact LeO.none _
   | refine LeO.ite ?_ ?_
   | refine LeO.bind ?_ (fun _ => ?_)
theorem paths_Heads.mono : ∀ a0 k, LeO (paths_Heads.f k a0) (paths_Heads.f (k + 1) a0) := by
 intro a0 k
 have ih0 := paths_Heads.mono_l k
 unfold paths_Heads.f
 repeat' first
   | (with_reducible exact ih0 _ _ _ _)
   | (with_reducible exact path_Above.mono _ _ _)
   | (with_reducible exact paths_Norm.mono _ _)
   | (with_reducible exact LeO.refl _)
   | (with_reducible exact LeO.none _)
   | (with_reducible refine LeO.ite ?_ ?_)
   | (with_reducible refine LeO.bind ?_ (fun _ => ?_))
   | exact ih0 _ _ _ _
   | exact path_Above.mono _ _ _
   | exact paths_Norm.mono _ _
   | exact LeO.none _
   | refine LeO.ite ?_ ?_
   | refine LeO.bind ?_ (fun _ => ?_)
set_option maxHeartbeats 8000000 in
set_option maxRecDepth 100000 in
theorem paths_Heads.calls (k : Nat) (A0 : Option Addr) (c0 : Nat) (l0 : List ByteArray) (r : List ByteArray) (w : World) (hr0 : Kd.C Kd.string w A0 l0.length l0) (hc0 : l0.length ≤ c0) (h : paths_Heads.f k l0 = some r) :
  Calls Tryz.prog 13 #[.slice A0 l0.length c0] w fun e w' => ∃ v0_ : Value, e = .returned (v0_) ∧ Kd.R Kd.string 9 w' w.heap.size (fun _ => True) v0_ r ∧ Below w.heap.size w w' := by
 have HR0 := Aside0.mk hr0
 have HC0 := Aside0.mk hc0
 clear hr0 hc0
 have HB := Aside0.mk (Below.refl w.heap.size w)
 have H : ((paths_Norm.f k l0).bind fun t407 => (paths_Heads.l0 k ([] : List ByteArray) t407 (t407.length : Int) 0)) = some r := h
 clear h
 replace H := Option.bind_eq_some_iff.mp H
 obtain ⟨t407, A20, H⟩ := H
 try dsimp only at H
 have A2 := Aside0.mk A20
 clear A20
 have H' := Aside0.mk H
 clear H
 go_enter Tryz.func13, Tryz.ntmps13
 go_wp2_with (first | ((with_reducible refine gate_callee (f := 28) rfl ?_); refine goesL_ (some 7) rfl rfl Tryz.func28 (by kernel_rfl) rfl #[.slice A0 l0.length c0] rfl (by (try simp only [List.map_toArray, List.map_cons, List.map_nil]); first | done | rfl | (simp only [List.length_drop, List.length_take]; rfl)) ?_; (with_reducible refine (paths_Norm.calls k _ _ l0 t407 _ ?side1 ?side2 A2.out).mono ?_); (case side1 => repeat (first | exact HR0.out | (with_reducible refine Kd.C_alloc ?_ _) | (with_reducible refine Kd.C_drewN ?_ _) | (with_reducible refine Kd.C_drew ?_))); (case side2 => exact HC0.out); rintro e w3 ⟨v408, rfl, ho0, hb⟩; refine ⟨_, rfl, ?_⟩; have n0_ := Aside0.mk (Kd.R_lower ho0 (below_size (by repeat (first | (with_reducible first | exact HB.out | apply below_alloc | apply pw_below_drewN | apply below_drew1) | exact HB.out)))); have n1_ := Aside0.mk (below_step (by repeat (first | (with_reducible first | exact HB.out | apply below_alloc | apply pw_below_drewN | apply below_drew1) | exact HB.out)) hb); clear HB; have HO409 := n0_; have HB := n1_; clear n0_ n1_; (try clear hb); (try clear hb2); (try clear hk); (try clear hi); (try clear ho0); obtain ⟨Ao4, co4, eo4⟩ := Kd.R_slice HO409.out; subst eo4))
 go_loopg [3, 9] k (fun kq v3 v9 w' => ∃ (x3_1 : List ByteArray) (x9_1 : Int), v9 = .int .i64 x9_1 ∧ Aside0 (paths_Heads.l0 kq x3_1 t407 (t407.length : Int) x9_1 = some r) ∧ Aside0 (kq ≤ k) ∧ Aside0 (Kd.R Kd.string 9 w' w.heap.size (fun k_ => some k_ ≠ ((.slice Ao4 t407.length co4) : Value).ownBlock) v3 x3_1) ∧ Aside0 (Kd.R Kd.string 9 w' w.heap.size (fun k_ => some k_ ≠ (v3 : Value).ownBlock) (.slice Ao4 t407.length co4) t407) ∧ Aside0 (Below w.heap.size w w'))
 case atStart => exact ⟨(([] : List ByteArray)), (0), (by first | rfl | (simp; done) | (simp [*]; done)), H', ⟨Nat.le_refl _⟩, ⟨by first | exact Kd.R_nil _ _ _ _ _ | exact Kd.N_nil _ _ _ _ _ | exact Kd.V_nil _ _ _ _ _ | exact Kd.Q_nil _ _ _ _ _ | exact Kd.S_nil _ _ _ _ _⟩, ⟨by (with_reducible repeat (first | apply Kd.R_alloc | apply Kd.R_drewN | apply Kd.R_drew)); exact Kd.R_mono HO409.out (fun _ hk => (by simp [Value.ownBlock]))⟩, ⟨by repeat (first | (with_reducible first | exact HB.out | apply below_alloc | apply pw_below_drewN | apply below_drew1) | exact HB.out)⟩⟩
 case round =>
  clear H'
  try clear c1
  try clear c2
  try clear p2
  obtain ⟨x3_1, x9_1, rfl, HA, HK1, HO_3, HO_7, HB⟩ := hrel
  cases gk with
  | zero => exact absurd HA.out (by simp [paths_Heads.l0])
  | succ k1 =>
   have H := HA.out
   clear HA
   simp only [paths_Heads.l0] at H
   by_cases c5 : x9_1 < (t407.length : Int)
   ·rw [if_pos c5] at H
    have c5b0 := decide_eq_true c5
    clear c5
    by_cases c6 : 0 ≤ x9_1
    ·rw [if_pos c6] at H
     have c6b0 := decide_eq_true c6
     clear c6
     by_cases c7 : x9_1 < (t407.length : Int)
     ·rw [if_pos c7] at H
      have c7b0 := decide_eq_true c7
      clear c7
      by_cases c8 : (x3_1.length : Int) = 0
      ·rw [if_pos c8] at H
       have c8b0 : ((x3_1.length : Int) == 0) = true := beq_iff_eq.mpr c8
       have c8b1 : ((x3_1.length : Int) != 0) = false := bne_eq_false_iff_eq.mpr c8
       clear c8
       by_cases c9 : x3_1.length < 8796093022208
       ·rw [if_pos c9] at H
        have LMc9 := Aside0.mk c9
        clear c9
        obtain ⟨y411, hy411⟩ : ∃ y_ : List ByteArray, y_ = (x3_1 ++ [rdOf ByteArray.empty t407 x9_1]) := ⟨_, rfl⟩
        replace H : (paths_Heads.l0 k1 y411 t407 (t407.length : Int) (wrap64 (x9_1 + 1))) = some r := by first | (rw [hy411]; with_reducible exact H) | (have H2_ := (Option.bind_some _ _).symm.trans H; rw [hy411]; with_reducible exact H2_) | (have H2_ := (Option.bind_some _ _).symm.trans H; with_reducible exact H2_) | with_reducible exact H | (rw [hy411]; exact H) | exact H
        have Ny411 := Aside0.mk hy411
        clear hy411
        have H' := Aside0.mk H
        clear H
        have p410 : 0 ≤ (x9_1 : Int) := of_decide_eq_true (by first | (with_reducible assumption) | assumption)
        have q410 : x9_1 < (t407.length : Int) := of_decide_eq_true (by first | (with_reducible assumption) | assumption)
        obtain ⟨ad410, e410, hx410_0⟩ := Kd.at_string (Kd.R_reads' HO_7.out).2.2 x9_1 p410 q410
        cases e410
        replace p410 := eq_true p410
        replace q410 := eq_true q410
        obtain ⟨Ao10, co10, eo10⟩ := Kd.R_slice HO_3.out
        subst eo10
        go_wp2_with (first | ((with_reducible refine gate_builtin (b := .append) (xs := #[.tmp 27, .tmp 29]) rfl ?_); (try (refine gate_guard (by rfl) ?_; dsimp only)); at_builtin; refine Kd.R_append Kd.string (w0 := w) w.heap.size rfl (.tmp 27) (.tmp 29) 23 9 (.string ⟨#[]⟩) 16 rfl Tryz.underlying23 info9 rfl (by decide) (by omega) (.slice Ao10 x3_1.length co10) x3_1 (rdOf ByteArray.empty t407 x9_1) [.string (rdOf ByteArray.empty t407 x9_1)] (fun k_ => some k_ ≠ (.slice (some ad410) t407.length co4 : Value).ownBlock) (fun _ => False) rfl rfl ?aP (fun _ hk => hk.elim) ?aF ?aO ?aB ?aS ?aL ?_; (case aP => exact rfl); (case aB => exact (by repeat (first | (with_reducible first | exact HB.out | apply below_alloc | apply pw_below_drewN | apply below_drew1) | exact HB.out))); (case aF => exact (fun k_ hk => Kd.fresh' (Kd.R_lt (by (with_reducible repeat (first | apply Kd.R_alloc | apply Kd.R_drewN | apply Kd.R_drew)); exact HO_7.out)) k_ hk)); (case aO => exact (by (with_reducible repeat (first | apply Kd.R_alloc | apply Kd.R_drewN | apply Kd.R_drew)); exact HO_3.out)); (case aS => exact (below_size (by repeat (first | (with_reducible first | exact HB.out | apply below_alloc | apply pw_below_drewN | apply below_drew1) | exact HB.out)))); (case aL => have := LMc9.out; omega); intro v412 w11 ho hb hg hat; rw [← Ny411.out] at ho; have n0_ := Aside0.mk (Kd.R_after (ok := (fun _ => True)) (by (with_reducible repeat (first | apply Kd.R_alloc | apply Kd.R_drewN | apply Kd.R_drew)); exact Kd.R_mono HO_7.out (fun _ hk => ⟨trivial, hk⟩)) hg hat); have n1_ := Aside0.mk (hb); have n2_ := Aside0.mk (ho); clear HO_7; clear HB; clear HO_3; have HO_7 := n0_; have HB := n1_; have HO413 := n2_; clear n0_ n1_ n2_; clear ho hb hg hat))
        go_roundg k1
        case measure => have := HK1.out; omega
        case rel => exact ⟨(y411), (wrap64 (x9_1 + 1)), (by first | rfl | (simp; done) | (simp [*]; done)), H', ⟨by have := HK1.out; omega⟩, ⟨by (with_reducible repeat (first | apply Kd.R_alloc | apply Kd.R_drewN | apply Kd.R_drew)); exact HO413.out⟩, ⟨by (with_reducible repeat (first | apply Kd.R_alloc | apply Kd.R_drewN | apply Kd.R_drew)); exact Kd.R_mono HO_7.out (fun _ hk => hk.2)⟩, ⟨by repeat (first | (with_reducible first | exact HB.out | apply below_alloc | apply pw_below_drewN | apply below_drew1) | exact HB.out)⟩⟩
       ·rw [if_neg c9] at H
        exact absurd H (by simp)
      ·rw [if_neg c8] at H
       have c8b0 : ((x3_1.length : Int) == 0) = false := beq_eq_false_iff_ne.mpr c8
       have c8b1 : ((x3_1.length : Int) != 0) = true := bne_iff_ne.mpr c8
       have c8b2 : ¬ (x3_1 = []) := fun h_ => c8 (by rw [h_]; rfl)
       obtain ⟨ji12, hji12⟩ : ∃ j_ : Int, (wrap64 ((x3_1.length : Int) - 1)) = j_ := ⟨_, rfl⟩
       replace H : (if 0 ≤ (ji12) then (if (ji12) < (x3_1.length : Int) then ((path_Above.f k1 (rdOf ByteArray.empty x3_1 (ji12)) (rdOf ByteArray.empty t407 x9_1)).bind fun t415 => (if t415 = true then (paths_Heads.l0 k1 x3_1 t407 (t407.length : Int) (wrap64 (x9_1 + 1))) else (if x3_1.length < 8796093022208 then (paths_Heads.l0 k1 (x3_1 ++ [rdOf ByteArray.empty t407 x9_1]) t407 (t407.length : Int) (wrap64 (x9_1 + 1))) else (none)))) else (none)) else (none)) = some r := by first | (rw [hji12] at H; exact H) | (simp only [hji12] at H ⊢; exact H)
       have hji12w : (IntKind.i64.wrap ((x3_1.length : Int) - 1)) = ji12 := (i64_w _).trans hji12
       by_cases c13 : 0 ≤ (ji12)
       ·rw [if_pos c13] at H
        have c13b0 := decide_eq_true c13
        clear c13
        by_cases c14 : (ji12) < (x3_1.length : Int)
        ·rw [if_pos c14] at H
         have c14b0 := decide_eq_true c14
         clear c14
         replace H := Option.bind_eq_some_iff.mp H
         obtain ⟨t415, A150, H⟩ := H
         try dsimp only at H
         have A15 := Aside0.mk A150
         clear A150
         by_cases c16 : t415 = true
         ·subst c16
          rw [if_pos rfl] at H
          have H1 := H
          clear H
          have H := H1
          clear H1
          have H' := Aside0.mk H
          clear H
          have p410 : 0 ≤ (x9_1 : Int) := of_decide_eq_true (by first | (with_reducible assumption) | assumption)
          have q410 : x9_1 < (t407.length : Int) := of_decide_eq_true (by first | (with_reducible assumption) | assumption)
          obtain ⟨ad410, e410, hx410_0⟩ := Kd.at_string (Kd.R_reads' HO_7.out).2.2 x9_1 p410 q410
          cases e410
          replace p410 := eq_true p410
          replace q410 := eq_true q410
          obtain ⟨Ao17, co17, eo17⟩ := Kd.R_slice HO_3.out
          subst eo17
          have p414 : 0 ≤ ((ji12) : Int) := of_decide_eq_true (by first | (with_reducible assumption) | assumption)
          have q414 : (ji12) < (x3_1.length : Int) := of_decide_eq_true (by first | (with_reducible assumption) | assumption)
          obtain ⟨ad414, e414, hx414_0⟩ := Kd.at_string (Kd.R_reads' HO_3.out).2.2 (ji12) p414 q414
          cases e414
          replace p414 := eq_true p414
          replace q414 := eq_true q414
          go_wp2_with (first | (go_at_call 29; (with_reducible refine (path_Above.calls k1 (rdOf ByteArray.empty x3_1 (ji12)) (rdOf ByteArray.empty t407 x9_1) true _ A15.out).mono ?_); rintro e w18 ⟨rfl, hb⟩; have n0_ := Aside0.mk (Kd.R_below (by (with_reducible repeat (first | apply Kd.R_alloc | apply Kd.R_drewN | apply Kd.R_drew)); exact HO_3.out) hb); have n1_ := Aside0.mk (Kd.R_below (by (with_reducible repeat (first | apply Kd.R_alloc | apply Kd.R_drewN | apply Kd.R_drew)); exact HO_7.out) hb); have n2_ := Aside0.mk (below_step (by repeat (first | (with_reducible first | exact HB.out | apply below_alloc | apply pw_below_drewN | apply below_drew1) | exact HB.out)) hb); clear HO_3; clear HO_7; clear HB; have HO_3 := n0_; have HO_7 := n1_; have HB := n2_; clear n0_ n1_ n2_; (try clear hb); (try clear hb2); (try clear hk); (try clear hi)))
          go_roundg k1
          case measure => have := HK1.out; omega
          case rel => exact ⟨(x3_1), (wrap64 (x9_1 + 1)), (by first | rfl | (simp; done) | (simp [*]; done)), H', ⟨by have := HK1.out; omega⟩, ⟨by (with_reducible repeat (first | apply Kd.R_alloc | apply Kd.R_drewN | apply Kd.R_drew)); exact HO_3.out⟩, ⟨by (with_reducible repeat (first | apply Kd.R_alloc | apply Kd.R_drewN | apply Kd.R_drew)); exact HO_7.out⟩, ⟨by repeat (first | (with_reducible first | exact HB.out | apply below_alloc | apply pw_below_drewN | apply below_drew1) | exact HB.out)⟩⟩
         ·replace c16 := Bool.eq_false_iff.mpr c16
          subst c16
          have H1 : (if x3_1.length < 8796093022208 then (paths_Heads.l0 k1 (x3_1 ++ [rdOf ByteArray.empty t407 x9_1]) t407 (t407.length : Int) (wrap64 (x9_1 + 1))) else (none)) = some r := by rw [if_neg (show ¬ (false = true) by decide)] at H; exact H
          clear H
          have H := H1
          clear H1
          by_cases c19 : x3_1.length < 8796093022208
          ·rw [if_pos c19] at H
           have LMc19 := Aside0.mk c19
           clear c19
           obtain ⟨y416, hy416⟩ : ∃ y_ : List ByteArray, y_ = (x3_1 ++ [rdOf ByteArray.empty t407 x9_1]) := ⟨_, rfl⟩
           replace H : (paths_Heads.l0 k1 y416 t407 (t407.length : Int) (wrap64 (x9_1 + 1))) = some r := by first | (rw [hy416]; with_reducible exact H) | (have H2_ := (Option.bind_some _ _).symm.trans H; rw [hy416]; with_reducible exact H2_) | (have H2_ := (Option.bind_some _ _).symm.trans H; with_reducible exact H2_) | with_reducible exact H | (rw [hy416]; exact H) | exact H
           have Ny416 := Aside0.mk hy416
           clear hy416
           have H' := Aside0.mk H
           clear H
           have p410 : 0 ≤ (x9_1 : Int) := of_decide_eq_true (by first | (with_reducible assumption) | assumption)
           have q410 : x9_1 < (t407.length : Int) := of_decide_eq_true (by first | (with_reducible assumption) | assumption)
           obtain ⟨ad410, e410, hx410_0⟩ := Kd.at_string (Kd.R_reads' HO_7.out).2.2 x9_1 p410 q410
           cases e410
           replace p410 := eq_true p410
           replace q410 := eq_true q410
           obtain ⟨Ao20, co20, eo20⟩ := Kd.R_slice HO_3.out
           subst eo20
           have p414 : 0 ≤ ((ji12) : Int) := of_decide_eq_true (by first | (with_reducible assumption) | assumption)
           have q414 : (ji12) < (x3_1.length : Int) := of_decide_eq_true (by first | (with_reducible assumption) | assumption)
           obtain ⟨ad414, e414, hx414_0⟩ := Kd.at_string (Kd.R_reads' HO_3.out).2.2 (ji12) p414 q414
           cases e414
           replace p414 := eq_true p414
           replace q414 := eq_true q414
           go_wp2_with (first | (go_at_call 29; (with_reducible refine (path_Above.calls k1 (rdOf ByteArray.empty x3_1 (ji12)) (rdOf ByteArray.empty t407 x9_1) false _ A15.out).mono ?_); rintro e w21 ⟨rfl, hb⟩; have n0_ := Aside0.mk (Kd.R_below (by (with_reducible repeat (first | apply Kd.R_alloc | apply Kd.R_drewN | apply Kd.R_drew)); exact HO_3.out) hb); have n1_ := Aside0.mk (Kd.R_below (by (with_reducible repeat (first | apply Kd.R_alloc | apply Kd.R_drewN | apply Kd.R_drew)); exact HO_7.out) hb); have n2_ := Aside0.mk (below_step (by repeat (first | (with_reducible first | exact HB.out | apply below_alloc | apply pw_below_drewN | apply below_drew1) | exact HB.out)) hb); clear HO_3; clear HO_7; clear HB; have HO_3 := n0_; have HO_7 := n1_; have HB := n2_; clear n0_ n1_ n2_; (try clear hb); (try clear hb2); (try clear hk); (try clear hi)) | ((with_reducible refine gate_builtin (b := .append) (xs := #[.tmp 27, .tmp 29]) rfl ?_); (try (refine gate_guard (by rfl) ?_; dsimp only)); at_builtin; refine Kd.R_append Kd.string (w0 := w) w.heap.size rfl (.tmp 27) (.tmp 29) 23 9 (.string ⟨#[]⟩) 16 rfl Tryz.underlying23 info9 rfl (by decide) (by omega) (.slice (some ad414) x3_1.length co20) x3_1 (rdOf ByteArray.empty t407 x9_1) [.string (rdOf ByteArray.empty t407 x9_1)] (fun k_ => some k_ ≠ (.slice (some ad410) t407.length co4 : Value).ownBlock) (fun _ => False) rfl rfl ?aP (fun _ hk => hk.elim) ?aF ?aO ?aB ?aS ?aL ?_; (case aP => exact rfl); (case aB => exact (by repeat (first | (with_reducible first | exact HB.out | apply below_alloc | apply pw_below_drewN | apply below_drew1) | exact HB.out))); (case aF => exact (fun k_ hk => Kd.fresh' (Kd.R_lt (by (with_reducible repeat (first | apply Kd.R_alloc | apply Kd.R_drewN | apply Kd.R_drew)); exact HO_7.out)) k_ hk)); (case aO => exact (by (with_reducible repeat (first | apply Kd.R_alloc | apply Kd.R_drewN | apply Kd.R_drew)); exact HO_3.out)); (case aS => exact (below_size (by repeat (first | (with_reducible first | exact HB.out | apply below_alloc | apply pw_below_drewN | apply below_drew1) | exact HB.out)))); (case aL => have := LMc19.out; omega); intro v417 w22 ho hb hg hat; rw [← Ny416.out] at ho; have n0_ := Aside0.mk (Kd.R_after (ok := (fun _ => True)) (by (with_reducible repeat (first | apply Kd.R_alloc | apply Kd.R_drewN | apply Kd.R_drew)); exact Kd.R_mono HO_7.out (fun _ hk => ⟨trivial, hk⟩)) hg hat); have n1_ := Aside0.mk (hb); have n2_ := Aside0.mk (ho); clear HO_7; clear HB; clear HO_3; have HO_7 := n0_; have HB := n1_; have HO418 := n2_; clear n0_ n1_ n2_; clear ho hb hg hat))
           go_roundg k1
           case measure => have := HK1.out; omega
           case rel => exact ⟨(y416), (wrap64 (x9_1 + 1)), (by first | rfl | (simp; done) | (simp [*]; done)), H', ⟨by have := HK1.out; omega⟩, ⟨by (with_reducible repeat (first | apply Kd.R_alloc | apply Kd.R_drewN | apply Kd.R_drew)); exact HO418.out⟩, ⟨by (with_reducible repeat (first | apply Kd.R_alloc | apply Kd.R_drewN | apply Kd.R_drew)); exact Kd.R_mono HO_7.out (fun _ hk => hk.2)⟩, ⟨by repeat (first | (with_reducible first | exact HB.out | apply below_alloc | apply pw_below_drewN | apply below_drew1) | exact HB.out)⟩⟩
          ·rw [if_neg c19] at H
           exact absurd H (by simp)
        ·rw [if_neg c14] at H
         exact absurd H (by simp)
       ·rw [if_neg c13] at H
        exact absurd H (by simp)
     ·rw [if_neg c7] at H
      exact absurd H (by simp)
    ·rw [if_neg c6] at H
     exact absurd H (by simp)
   ·rw [if_neg c5] at H
    have c5b0 := decide_eq_false c5
    clear c5
    obtain rfl := Option.some.inj H
    go_wp2
    go_ret
    exact ⟨_, by first | rfl | (simp [errW_none, errW_some] <;> rfl) | (simp [*, errW_none, errW_some] <;> rfl), by (with_reducible repeat (first | apply Kd.R_alloc | apply Kd.R_drewN | apply Kd.R_drew)); exact Kd.R_mono HO_3.out (fun _ hk => trivial), by repeat (first | (with_reducible first | exact HB.out | apply below_alloc | apply pw_below_drewN | apply below_drew1) | exact HB.out)⟩
end Go.Proofs.YtdfkaclflmgkeaaGreatDoor.PAll
namespace Go.Proofs.YtdfkaclflmgkeaaGreatDoor.PAll
open Go.RowKit Go.Shelf Go.Proofs.YtdfkaclflmgkeaaGreatDoorW.PrintWords Go.Proofs.YtdfkaclflmgkeaaGreatDoorW.PrintLast Go.Proofs.YtdfkaclflmgkeaaGreatDoorW.PrintMore
open Go.Proofs.YtdfkaclflmgkeaaGreatDoor.Sp
def dirsOf (k : Nat) : List ByteArray → Option (List ByteArray)
 | [] => some []
 | x :: r => (path_Dir.f k x).bind fun d => (dirsOf k r).bind fun t => some (if d.toList = [] then t else d :: t)
def cone_Cover.f (k : Nat) (l0 : List ByteArray) : Option (List ByteArray) := if l0.length < 8796093022208 then (dirsOf k l0).bind fun o => paths_Heads.f k o else none
theorem dirsOf_mono : ∀ l k, LeO (dirsOf k l) (dirsOf (k + 1) l)
 | [], _ => LeO.refl _
 | x :: r, k => by
  unfold dirsOf
  exact LeO.bind (path_Dir.mono _ _) fun _ => LeO.bind (dirsOf_mono r k) fun _ => LeO.refl _
theorem cone_Cover.mono : ∀ a0 k, LeO (cone_Cover.f k a0) (cone_Cover.f (k + 1) a0) := fun _ _ => LeO.ite (LeO.bind (dirsOf_mono _ _) fun _ => paths_Heads.mono _ _) (LeO.refl _)
def dv (k : Nat) (x : ByteArray) : ByteArray := (path_Dir.f k x).getD ByteArray.empty
def gone (k : Nat) (l : List ByteArray) : List ByteArray := (l.map (dv k)).filter fun d => !(d.toList == [])
theorem dirsOf_gone (k : Nat) : ∀ l o, dirsOf k l = some o → (∀ x ∈ l, path_Dir.f k x = some (dv k x)) ∧ o = gone k l
 | [], o, h => by cases Option.some.inj h; exact ⟨fun x hx => absurd hx (by simp), rfl⟩
 | x :: r, o, h => by
  unfold dirsOf at h
  obtain ⟨d, hd, h⟩ := Option.bind_eq_some_iff.mp h
  obtain ⟨t, ht, h⟩ := Option.bind_eq_some_iff.mp h
  obtain ⟨h1, h2⟩ := dirsOf_gone k r t ht
  have e : dv k x = d := by unfold dv; rw [hd]; rfl
  cases Option.some.inj h
  refine ⟨fun y hy => ?_, ?_⟩
  ·rcases List.mem_cons.1 hy with rfl | hy
   ·rw [e]; exact hd
   ·exact h1 y hy
  ·subst h2
   by_cases c : d.toList = []
   ·rw [if_pos c]; simp [gone, e, c]
   ·rw [if_neg c]; simp [gone, e, c]
theorem gone_hit (k : Nat) (l : List ByteArray) (x : ByteArray) (h : (dv k x).toList ≠ []) : gone k (l ++ [x]) = gone k l ++ [dv k x] := by simp [gone, h]
theorem gone_miss (k : Nat) (l : List ByteArray) (x : ByteArray) (h : (dv k x).toList = []) : gone k (l ++ [x]) = gone k l := by simp [gone, h]
theorem gone_length (k : Nat) (l : List ByteArray) : (gone k l).length ≤ l.length := by
 unfold gone; exact Nat.le_trans (List.length_filter_le _ _) (by simp)
theorem gone_split (k : Nat) (l m : List ByteArray) : gone k (l ++ m) = gone k l ++ gone k m := by simp [gone]
theorem take_next (l : List ByteArray) (i : Nat) (h : i < l.length) : l.take (i + 1) = l.take i ++ [rdOf ByteArray.empty l (i : Int)] := by
 rw [List.take_add_one]
 congr 1
 simp [rdOf, List.getD_eq_getElem?_getD, List.getElem?_eq_getElem h]
def KpD (n₀ Bl : Nat) (W W' : World) : Prop := Below n₀ W W' ∧ (Bl < W.heap.size → W'.heap[Bl]? = W.heap[Bl]?)
theorem KpD.t {n₀ Bl : Nat} {A B C : World} (h : KpD n₀ Bl A B) (k : KpD n₀ Bl B C) : KpD n₀ Bl A C := ⟨h.1.trans k.1, fun hl => (k.2 (Nat.lt_of_lt_of_le hl h.1.size)).trans (h.2 hl)⟩
theorem KpD.b {n₀ Bl : Nat} {w : World} (hn : n₀ ≤ w.heap.size) (hB : Bl < w.heap.size) (W : World) (l : Nat) (o o' : Obj) (hl : w.heap.size ≤ l) (h : W.heap[l]? = some o) (h1 : o.isCells = false) (h2 : o.isWalk = false) : KpD n₀ Bl W (W.putObj l o') :=
 ⟨belowK_b hn W l o o' hl h h1 h2, fun _ => (grownBy_putObj' W l o').block Bl (by have := (Array.getElem?_eq_some_iff.1 h).1; omega) (by intro e; cases e; omega)⟩
theorem below_grown {W W' : World} (h : Below W.heap.size W W') : W.grownBy W' none := ⟨h.os, h.tape, h.output, h.size, fun k hk _ => h.block k hk⟩
attribute [local go_sem] Oper.semAt_some
set_option maxRecDepth 100000 in
set_option maxHeartbeats 2000000 in
theorem directories1_in (n : Nat) (hn : 1 ≤ n) (L Bl : Nat) (k : Nat) (A : Option Addr) (c : Nat) (l : List ByteArray) (w : World) (hR : Aside0 (Kd.C Kd.string w A l.length l)) (hd : ∀ x ∈ l, path_Dir.f k x = some (dv k x))
  (J Jx : List ByteArray → World → Prop) (B0 : Nat) (hJ : AbidesFrom B0 J)
  (hY : ∀ pre x W, J pre W → pre.length < l.length → YieldAt Fence.wide (n - 1) Tryz.prog L #[.string x] W fun e W' =>
   (e = .returned (.bool true) ∧ J (pre ++ [x]) W' ∧ KpD w.heap.size Bl W W') ∨ (e = .returned (.bool false) ∧ Jx (pre ++ [x]) W'))
  (W : World) (hW : Aside0 (Below w.heap.size w W)) (hBl : Aside0 (Boxed W Bl 23 (.slice A l.length c))) (h0 : J [] W) :
  CallsIn Fence.wide n Tryz.prog 26 #[.func (.yield L) #[] #[], .pointer (some ⟨Bl, 0, none⟩)] W fun e W' => (∃ v, e = .returned v) ∧
   ((∃ ys, ys = gone k l ∧ J ys W') ∨ (∃ pre, pre <+: gone k l ∧ Jx pre W')) := by
 have hbig : (l.length : Int) ≤ 9223372036854775807 := by have := hR.out.2.1; omega
 have hc0 := hBl.out.cell
 refine callsIn_of_wp Tryz.func26 rfl trivial ?_ rfl
 simp only [Tryz.ntmps26, List.size_toArray, List.length_cons, List.length_nil, Nat.reduceAdd, Nat.reduceSub, Array.replicate_succ, Array.replicate_zero, List.push_toArray, List.append_toArray, List.nil_append, List.cons_append]
 gi_wp2
 gi_loopw [7] (fun i wr => ∃ kk : Nat, kk ≤ l.length ∧ i = .int .i64 kk ∧ J (gone k (l.take kk)) wr ∧ Aside0 (Below w.heap.size w wr) ∧ Aside0 (Boxed wr Bl 23 (.slice A l.length c)))
  (fun i _ => l.length - (intOf i).toNat)
 case atStart => exact ⟨0, Nat.zero_le _, rfl, h0, hW, hBl⟩
 case round =>
  obtain ⟨kk, hk, rfl, hJs, hB, hx⟩ := hrel
  by_cases hlt : kk < l.length
  ·have hltz : (kk : Int) < (l.length : Int) := by omega
   have hcx := hx.out.cell
   obtain ⟨ad, ea, hcell⟩ := Kd.at_string hR.out (kk : Int) (by omega) (by omega)
   cases ea
   rw [Int.toNat_natCast] at hcell
   replace hcell := (hB.out.cell (World.block_lt_of_cell? w _ hcell)).trans hcell
   have hdir := fun wd => path_Dir.calls k (rdOf ByteArray.empty l (kk : Int)) (dv k (rdOf ByteArray.empty l (kk : Int))) wd (hd _ (by simp only [rdOf, Int.toNat_natCast, List.getD_eq_getElem?_getD, List.getElem?_eq_getElem hlt, Option.getD_some]; exact List.getElem_mem hlt))
   have htk := take_next l kk hlt
   generalize rdOf ByteArray.empty l (kk : Int) = x at hcell hdir htk
   have hJ2 : ∀ pre W1 W2, J pre W1 → Below W1.heap.size W1 W2 → J pre W2 := fun pre W1 W2 h hb => hJ pre W1 W2 none h (below_grown hb) (fun r e => by cases e)
   have hB2 : ∀ W2, Below wr.heap.size wr W2 → Below w.heap.size w W2 := fun W2 hb => below_step hB.out hb
   have hX2 : ∀ W2, Below wr.heap.size wr W2 → Boxed W2 Bl 23 (.slice (some ad) l.length c) := fun W2 hb => (hb.block Bl hx.out.lt).trans hx.out
   by_cases c4 : (dv k x).toList = []
   ·have C4 := Aside0.mk c4
    have htk2 : gone k (l.take (kk + 1)) = gone k (l.take kk) := by rw [htk, gone_miss k _ _ c4]
    clear htk
    generalize dv k x = d at hdir c4 C4
    clear c4
    gi_wp2_with (refine ⟨trivial, ?_⟩; gi_at_call 27; refine (callsIn_wide.2 (hdir _)).mono ?_; rintro e w1 ⟨rfl, hb1⟩)
    ·refine ⟨fun _ h => (by cases h), ?_⟩
     gi_wp2
     go_roundw
     case rel => exact ⟨kk + 1, by omega, by simp, by rw [htk2]; exact hJ2 _ _ _ hJs hb1, ⟨hB2 _ hb1⟩, ⟨hX2 _ hb1⟩⟩
     case measure => simp [intOf]; omega
    ·exact absurd C4.out (by assumption)
   ·have C4 := Aside0.mk c4
    have htk2 : gone k (l.take (kk + 1)) = gone k (l.take kk) ++ [dv k x] := by rw [htk, gone_hit k _ _ c4]
    have hlen : (gone k (l.take kk)).length < l.length := by have := gone_length k (l.take kk); simp only [List.length_take] at this; omega
    have hpre : gone k (l.take kk) ++ [dv k x] <+: gone k l := by
     rw [← htk2]; refine ⟨gone k (l.drop (kk + 1)), ?_⟩; rw [← gone_split, List.take_append_drop]
    clear htk
    generalize dv k x = d at hdir c4 C4 htk2 hpre
    clear c4
    gi_wp2_with (refine ⟨trivial, ?_⟩; gi_at_call 27; refine (callsIn_wide.2 (hdir _)).mono ?_; rintro e w1 ⟨rfl, hb1⟩; obtain ⟨fn, tmps, assign, body, hy, hRd⟩ := hY _ d w1 (hJ2 _ _ _ hJs hb1) hlen)
    ·exact absurd (by assumption) C4.out
    ·have hX1 := hX2 _ hb1
     refine hRd.mono ?_
     rintro e W3 (⟨rfl, hJ3, hk3⟩ | ⟨rfl, hJx3⟩)
     ·have hB3 := (hB2 _ hb1).trans hk3.1
      have hX3 : Boxed W3 Bl 23 (.slice (some ad) l.length c) := (hk3.2 hX1.lt).trans hX1
      clear hk3
      gi_wp2
      go_roundw
      case rel => exact ⟨kk + 1, by omega, by simp, by rw [htk2]; exact hJ3, ⟨hB3⟩, ⟨hX3⟩⟩
      case measure => simp [intOf]; omega
     ·have c4e : d.toList.isEmpty = false := by simpa using C4.out
      gi_wp2
      refine bodyPost_ret (results_none rfl _ _ _) rfl ?_
      exact ⟨⟨_, rfl⟩, .inr ⟨_, hpre, hJx3⟩⟩
  ·obtain rfl : kk = l.length := by omega
   gi_wp2
   go_end0
   refine ⟨⟨_, rfl⟩, .inl ⟨_, rfl, ?_⟩⟩
   rw [List.take_length] at hJs; exact hJs
theorem directories_in (n : Nat) (A : Option Addr) (len c : Nat) (w : World) :
  CallsIn Fence.wide n Tryz.prog 12 #[.slice A len c] w fun e w' => e = .returned (.func (.func 26) #[] #[.pointer (some ⟨w.heap.size, 0, none⟩)]) ∧ w' = w.alloc (.cells #[.slice A len c] 23) := by
 refine callsIn_of_wp Tryz.func12 rfl trivial ?_ rfl
 simp only [Tryz.ntmps12, List.size_toArray, List.length_cons, List.length_nil, Nat.reduceAdd, Nat.reduceSub, Array.replicate_succ, Array.replicate_zero, List.push_toArray, List.append_toArray, List.nil_append, List.cons_append]
 gi_wp2
 go_ret
 exact ⟨rfl, rfl⟩
theorem directories_stops (n : Nat) (hn : 1 ≤ n) (Bl : Nat) (k : Nat) (A : Option Addr) (c : Nat) (l : List ByteArray) (w w0 : World) (hR : Aside0 (Kd.C Kd.string w A l.length l)) (hd : ∀ x ∈ l, path_Dir.f k x = some (dv k x))
  (hw : Below w.heap.size w w0) (hBl : Boxed w0 Bl 23 (.slice A l.length c)) :
  SeqStopsK Fence.wide n Tryz.prog 26 #[.pointer (some ⟨Bl, 0, none⟩)] (fun x : ByteArray => #[Value.string x]) (KpD w.heap.size Bl) (fun ys => ys = gone k l) (fun pre => pre <+: gone k l) l.length w0 := fun L J Jx W hW hJ _ hY h0 =>
 directories1_in n hn L Bl k A c l w hR hd J Jx _ hJ hY W ⟨hw.trans (hW.mono hw.size)⟩ ⟨(hW.block Bl hBl.lt).trans hBl⟩ h0
theorem info_str : (Tryz.prog.info? 9).map (fun i => (i.zero, i.size, i.bytes)) = some (some (.string ByteArray.empty), 1, 16) := by kernel_rfl
set_option maxRecDepth 100000 in
set_option maxHeartbeats 2000000 in
theorem cone_Cover.calls (k : Nat) (A0 : Option Addr) (c0 : Nat) (l0 : List ByteArray) (r : List ByteArray) (w : World) (hr0 : Kd.C Kd.string w A0 l0.length l0) (_hc0 : l0.length ≤ c0) (h : cone_Cover.f k l0 = some r) :
  Calls Tryz.prog 4 #[.slice A0 l0.length c0] w fun e w' => ∃ v0_ : Value, e = .returned (v0_) ∧ Kd.R Kd.string 9 w' w.heap.size (fun _ => True) v0_ r ∧ Below w.heap.size w w' := by
 have hR := Aside0.mk hr0
 unfold cone_Cover.f at h
 by_cases hl : l0.length < 8796093022208
 ·rw [if_pos hl] at h
  obtain ⟨o, ho, hH⟩ := Option.bind_eq_some_iff.mp h
  obtain ⟨hd, rfl⟩ := dirsOf_gone k l0 o ho
  clear h ho
  obtain ⟨i0, hi, hz0, hz1, hz2⟩ := info_parts info_str
  refine (callsIn_wide (n := 4)).1 ?_
  refine callsIn_of_wp_marks Tryz.func4 rfl trivial ?_ rfl
  simp only [Tryz.ntmps4, List.size_toArray, List.length_cons, List.length_nil, Nat.reduceAdd, Nat.reduceSub, Array.replicate_succ, Array.replicate_zero, List.push_toArray, List.append_toArray, List.nil_append, List.cons_append]
  gi_wp2_with (refine ⟨trivial, ?_⟩; gi_at_call 12; refine (directories_in _ _ _ _ _).mono ?_; rintro e w' ⟨rfl, rfl⟩)
  have bO := Boxed.new w 23 (.slice none 0 0)
  have bN := Boxed.new (w.alloc (.cells #[.slice none 0 0] 23)) 23 (.slice A0 l0.length c0)
  rw [World.size_alloc] at bN
  have hB0 : Below w.heap.size w ((w.alloc (.cells #[.slice none 0 0] 23)).alloc (.cells #[.slice A0 l0.length c0] 23)) := ((Below.refl _ w).alloc (Nat.le_refl _) _).alloc (by simp) _
  have hm : 8796093022208 ≤ maxLen := by decide
  refine wpIn_rangeFunc_ownG rfl (by omega) (gf := 26) (lb := #[.pointer (some ⟨w.heap.size + 1, 0, none⟩)]) rfl trivial (enters_of Tryz.func26 (by kernel_rfl) rfl)
   (directories_stops _ (by omega) (w.heap.size + 1) k A0 c0 l0 w _ hR hd hB0 bN) KpD.t (KpD.b (by simp; omega) (by simp)) (Below.refl _ _) (fun _ => rfl)
   (fun (pre : List ByteArray) W => (∃ v, Boxed W w.heap.size 23 v ∧ W.ownsRow w.heap.size 9 1 v pre.length (pre.map Value.string) ∧ True) ∧ (Boxed W (w.heap.size + 1) 23 (.slice A0 l0.length c0) ∧ Below w.heap.size w W))
   (fun _ _ _ => False)
   (OwnFrom.and (Own.from (holdsRow_own w.heap.size w.heap.size 23 9 1 (fun pre : List ByteArray => pre.length) (fun pre : List ByteArray => pre.map Value.string) (fun _ _ => True)) _) (OwnFrom.and (Own.from (boxed_own (w.heap.size + 1) 23 (fun _ => .slice A0 l0.length c0)) _) (ownFrom_below (Nat.le_refl _) (by simp; omega))))
   (fun _ _ _ _ _ hs _ _ => hs)
   ⟨⟨_, bO.alloc _, World.ownsRow_nil _ _ _ _, trivial⟩, bN, hB0⟩
   (fun x => { tmps := #[.slice A0 l0.length c0, undef, .slice none 0 0, .pointer (some ⟨w.heap.size, 0, none⟩), .string x, .slice A0 l0.length c0, .func (.func 26) #[] #[.pointer (some ⟨w.heap.size + 1, 0, none⟩)], .string x, undef, undef, undef, undef, undef, undef], defers := [] }) ?assign ?body ?done ?stop
  case assign =>
   intro l x W K hK
   gi_wp2
   exact hK
  case body =>
   rintro l pre x W ⟨⟨v, hv, hrow, _⟩, hX, hB⟩ hlt
   have hc := hv.cell
   gi_wp2_with (gi_at_builtin; refine wpListIn_append_own _ rfl _ _ 23 rfl w.heap.size 9 i0 (.string ByteArray.empty) 1 16 Tryz.underlying23 hi hz0 hz1 hz2 rfl (by decide) _ _ _ rfl (hrow.alloc _) ⟨W.heap.size, 0, none⟩ 1 1 [.string x] rfl rfl (cell_one_new _ _ _) (by simp [Value.oneCell']) (by omega) (by omega) (by have := hB.size; simp; omega) ?_; intro v' w1 hown' hgrow _; obtain ⟨g', cap', rfl⟩ := ownsRow_succ hown'; obtain ⟨hv1, hv2, hr2, hk2, hb2⟩ := hv.appended (by decide) hrow hB.size (Nat.le_refl _) hown' hgrow; have hX2 := ((hX.alloc _).kept hgrow (hX.not_row (by decide) hrow)); have hc1 := hv1.cell; have hf1 := hv1.frozen)
   have hX3 := hX2.other (B' := w.heap.size) (by omega) (.slice (some ⟨g', 0, none⟩) (pre.length + 1) cap')
   exact ⟨hk2.from _, ⟨hb2, fun _ => hX3.trans hX.symm⟩, ⟨_, hv2, by simpa using hr2, trivial⟩, hX3, hB.trans hb2⟩
  case done =>
   rintro D ys W hD rfl ⟨⟨v, hv, hrow, _⟩, hX, hB⟩ hK
   have hD1 : D < W.heap.size := (Array.getElem?_eq_some_iff.1 hK).1
   have hD0 : w.heap.size ≤ D := by simp at hD; omega
   have hRow : Kd.R Kd.string 9 W w.heap.size (fun _ => True) v (gone k l0) := ⟨fun _ _ => trivial, (gone k l0).map Value.string, by simpa [Kd.string, Kd.scalar] using hrow, reps_strs (M := Kd.string.M W w.heap.size (fun k' => (fun _ => True) k' ∧ some k' ≠ v.ownBlock)) (fun _ => rfl) _⟩
   obtain ⟨A1, n1, rfl, l1, r1⟩ := Kd.R_reads hRow
   have hc := hv.cell
   gi_wp2_with (refine ⟨trivial, ?_⟩; gi_at_call 13; refine (callsIn_wide.2 (paths_Heads.calls k A1 n1 (gone k l0) r _ r1 l1 hH)).mono ?_; rintro e w2 ⟨v0, rfl, hv0, hb2⟩)
   have hK2 : w2.heap[D]? = some (.deferred (some [])) := (hb2.block D hD1).trans hK
   refine ⟨by simp, .inl ⟨_, _, rfl, run_takeDeferred hK2, ?_⟩⟩
   refine ⟨_, results_tmp rfl _ _ _, v0, rfl, ?_, ?_⟩
   ·exact Kd.R_mono (Kd.R_lower (Kd.R_grown (Kd.R_bound hv0) (grownBy_putObj' w2 D _) (fun q hq e => by cases e; have := hq.2.1; omega)) hB.size) (fun _ _ => trivial)
   ·exact (below_step hB hb2).trans (belowK_b (w := w) (Nat.le_refl _) w2 D _ _ hD0 hK2 rfl rfl)
  case stop =>
   rintro D c pre W _ _ h _
   exact h.elim
 ·rw [if_neg hl] at h; cases h
end Go.Proofs.YtdfkaclflmgkeaaGreatDoor.PAll
namespace Go.Proofs.YtdfkaclflmgkeaaGreatDoor.PAll
open Go.RowKit Go.Proofs.YtdfkaclflmgkeaaGreatDoorW.PrintWords Go.Proofs.YtdfkaclflmgkeaaGreatDoorW.PrintLast Go.Proofs.YtdfkaclflmgkeaaGreatDoorW.PrintMore
attribute [local go_sem] max2_int min2_int max_two min_two max_three min_three max_four min_four
set_option linter.unusedVariables false
set_option linter.unusedSimpArgs false
def copselaw15_alive.f (k : Nat)  : Option (Bool) := (cone_View.f k (([(⟨(⟨#[97]⟩ : ByteArray), (⟨#[]⟩ : ByteArray), 0, 0⟩ : S36), (⟨(⟨#[98, 47, 99]⟩ : ByteArray), (⟨#[]⟩ : ByteArray), 0, 0⟩ : S36), (⟨(⟨#[98, 47, 100, 47, 101]⟩ : ByteArray), (⟨#[]⟩ : ByteArray), 0, 0⟩ : S36), (⟨(⟨#[106, 47, 107]⟩ : ByteArray), (⟨#[]⟩ : ByteArray), 0, 0⟩ : S36)] : List (S36))) (([(⟨#[98, 47, 100]⟩ : ByteArray)] : List ByteArray))).bind fun bt277 => ((copselaw15_num.f bt277.2).bind fun t281 => (if t281 = 0 then (if (bt277.1.length : Int) = 3 then (if 2 < (bt277.1.length : Int) then (if ((rd_T36 bt277.1 2).f0).toList = ([98, 47, 100, 47, 101] : List UInt8) then ((cone_Cover.f k (([(⟨#[98, 47, 100, 47, 101]⟩ : ByteArray), (⟨#[106, 47, 107]⟩ : ByteArray), (⟨#[97]⟩ : ByteArray)] : List ByteArray))).bind fun t286 => ((copselaw15_texts.f k t286 (([(⟨#[98, 47, 100]⟩ : ByteArray), (⟨#[106]⟩ : ByteArray)] : List ByteArray))).bind fun t292 => (if t292 = true then ((cone_Shows.f k ([] : List ByteArray) (⟨#[97]⟩ : ByteArray)).bind fun t293 => (if t293 = true then ((cone_Valid.f k (([(⟨#[98]⟩ : ByteArray), (⟨#[97]⟩ : ByteArray)] : List ByteArray))).bind fun t297 => ((copselaw15_num.f t297).bind fun t298 => (some (t298 == 13)))) else (some false))) else (some false)))) else (some false)) else (none)) else (some false)) else (some false)))
theorem copselaw15_alive.mono : ∀ k, LeO (copselaw15_alive.f k ) (copselaw15_alive.f (k + 1) ) := by
 intro  k
 unfold copselaw15_alive.f
 repeat' first
   | (with_reducible exact cone_Cover.mono _ _)
   | (with_reducible exact cone_Shows.mono _ _ _)
   | (with_reducible exact cone_Valid.mono _ _)
   | (with_reducible exact cone_View.mono _ _ _)
   | (with_reducible exact copselaw15_texts.mono _ _ _)
   | (with_reducible exact LeO.refl _)
   | (with_reducible exact LeO.none _)
   | (with_reducible refine LeO.ite ?_ ?_)
   | (with_reducible refine LeO.bind ?_ (fun _ => ?_))
   | exact cone_Cover.mono _ _
   | exact cone_Shows.mono _ _ _
   | exact cone_Valid.mono _ _
   | exact cone_View.mono _ _ _
   | exact copselaw15_texts.mono _ _ _
   | exact LeO.none _
   | refine LeO.ite ?_ ?_
   | refine LeO.bind ?_ (fun _ => ?_)
end Go.Proofs.YtdfkaclflmgkeaaGreatDoor.PAll
namespace Go.Proofs.YtdfkaclflmgkeaaGreatDoor.PAll
open Go.RowKit Go.Proofs.YtdfkaclflmgkeaaGreatDoorW.PrintWords Go.Proofs.YtdfkaclflmgkeaaGreatDoorW.PrintLast Go.Proofs.YtdfkaclflmgkeaaGreatDoorW.PrintMore
open Go.Proofs.YtdfkaclflmgkeaaGreatDoor.Sp
theorem C_of_block {α : Type} {d : Kd α} {w : World} {g : Nat} {cs : Array Value} {t : TypeId} {fr : Nat × Nat} {xs : List α} (h : w.heap[g]? = some (.cells cs t fr)) (hr : Reps (d.K w) d.sz xs cs.toList) (hn : xs.length ≤ 9223372036854775807) : d.C w (some ⟨g, 0, none⟩) xs.length xs := by
 refine ⟨rfl, hn, fun _ => ⟨_, rfl, fun j x hj => ⟨_, d.K_len (hr.2 j x hj), hr.2 j x hj, fun q u hq => ?_⟩⟩⟩
 rw [add_plain]
 rw [List.getElem?_take] at hq
 split at hq
 ·rw [List.getElem?_drop, Array.getElem?_toList] at hq
  simp [World.cell?, h, hq]
 ·cases hq
theorem C_strs {w : World} {g : Nat} {t : TypeId} {fr : Nat × Nat} {xs : List ByteArray} {cs : Array Value} (h : w.heap[g]? = some (.cells cs t fr)) (hc : cs.toList = xs.map Value.string) (hn : xs.length ≤ 9223372036854775807) : Kd.C Kd.string w (some ⟨g, 0, none⟩) xs.length xs :=
 C_of_block h (by rw [hc]; exact reps_strs (M := Kd.string.K w) (fun _ => rfl) xs) hn
theorem heap_new' (w : World) (o : Obj) (n : Nat) (h : w.heap.size = n) : (w.alloc o).heap[n]? = some o := h ▸ heap_alloc_new w o
def aFiles : List S36 := [⟨⟨#[97]⟩, ⟨#[]⟩, 0, 0⟩, ⟨⟨#[98, 47, 99]⟩, ⟨#[]⟩, 0, 0⟩, ⟨⟨#[98, 47, 100, 47, 101]⟩, ⟨#[]⟩, 0, 0⟩, ⟨⟨#[106, 47, 107]⟩, ⟨#[]⟩, 0, 0⟩]
def aView : List S36 := [⟨⟨#[97]⟩, ⟨#[]⟩, 0, 0⟩, ⟨⟨#[98, 47, 99]⟩, ⟨#[]⟩, 0, 0⟩, ⟨⟨#[98, 47, 100, 47, 101]⟩, ⟨#[]⟩, 0, 0⟩]
theorem a_view : cone_View.f 40 aFiles [⟨#[98, 47, 100]⟩] = some (aView, 0) := by kernel_rfl
theorem a_cover : cone_Cover.f 40 [⟨#[98, 47, 100, 47, 101]⟩, ⟨#[106, 47, 107]⟩, ⟨#[97]⟩] = some [⟨#[98, 47, 100]⟩, ⟨#[106]⟩] := by kernel_rfl
theorem a_texts : copselaw15_texts.f 40 [⟨#[98, 47, 100]⟩, ⟨#[106]⟩] [⟨#[98, 47, 100]⟩, ⟨#[106]⟩] = some true := by kernel_rfl
theorem a_shows : cone_Shows.f 40 [] ⟨#[97]⟩ = some true := by kernel_rfl
theorem a_valid : cone_Valid.f 40 [⟨#[98]⟩, ⟨#[97]⟩] = some 13 := by kernel_rfl
set_option maxRecDepth 100000 in
set_option maxHeartbeats 4000000 in
theorem aliveCW (w : World) : Calls Tryz.prog 6 #[] w fun e w' => e = .returned (.bool true) ∧ Below w.heap.size w w' := by
 have H0 := Aside0.mk (Below.refl w.heap.size w)
 go_enter Tryz.func6, Tryz.ntmps6
 go_wp2_with fail
 refine (cone_View.calls 40 _ _ aFiles _ _ [⟨#[98, 47, 100]⟩] aView 0 _ ?r0 (Nat.le_refl _) ?r1 (Nat.le_refl _) a_view).mono ?_
 case r0 => exact Kd.C_alloc (C_of_block (xs := aFiles) (heap_alloc_new w _) (((((Reps.none _ _).snoc (k36_mk _ ⟨⟨#[97]⟩, ⟨#[]⟩, 0, 0⟩) rfl).snoc (k36_mk _ ⟨⟨#[98, 47, 99]⟩, ⟨#[]⟩, 0, 0⟩) rfl).snoc (k36_mk _ ⟨⟨#[98, 47, 100, 47, 101]⟩, ⟨#[]⟩, 0, 0⟩) rfl).snoc (k36_mk _ ⟨⟨#[106, 47, 107]⟩, ⟨#[]⟩, 0, 0⟩) rfl) (by decide)) _
 case r1 => exact C_strs (xs := [⟨#[98, 47, 100]⟩]) (heap_new' _ _ _ (by simp)) rfl (by decide)
 rintro e w1 ⟨v1, rfl, ho1, hb1⟩
 have H1 := Aside0.mk (below_step (below_alloc (below_alloc H0.out _) _) hb1)
 obtain ⟨A1, n1, hv, _, r1⟩ := Kd.R_reads ho1
 rw [show aView.length = 3 from rfl] at hv
 subst hv
 clear ho1 hb1 H0
 obtain ⟨ad, hA, hx0, _, _, _⟩ := at_T36 r1 (2 : Int) (by decide) (by decide)
 subst hA
 have hx : w1.cell? ⟨ad.block, ad.off + 8, none⟩ = some (.string ⟨#[98, 47, 100, 47, 101]⟩) := by
  have e : ad.add 8 = ⟨ad.block, ad.off + 8, none⟩ := by unfold Addr.add; rfl
  rw [← e]; exact hx0
 clear hx0 r1
 go_wp2_with fail
 refine (copselaw15_num.calls 0 0 _ rfl).mono ?_
 rintro e w2 ⟨rfl, ⟨⟨q2, rfl⟩⟩⟩
 replace H1 := Aside0.mk (pw_below_drewN H1.out q2)
 replace hx : (w1.drewN q2).cell? ⟨ad.block, ad.off + 8, none⟩ = some (.string ⟨#[98, 47, 100, 47, 101]⟩) := hx
 generalize w1.drewN q2 = w2 at H1 hx ⊢
 go_wp2_with fail
 refine (cone_Cover.calls 40 _ _ [⟨#[98, 47, 100, 47, 101]⟩, ⟨#[106, 47, 107]⟩, ⟨#[97]⟩] [⟨#[98, 47, 100]⟩, ⟨#[106]⟩] _ ?r2 (Nat.le_refl _) a_cover).mono ?_
 case r2 => exact C_strs (xs := [⟨#[98, 47, 100, 47, 101]⟩, ⟨#[106, 47, 107]⟩, ⟨#[97]⟩]) (heap_new' _ _ _ rfl) rfl (by decide)
 rintro e w3 ⟨v3, rfl, ho3, hb3⟩
 have H3 := Aside0.mk (below_step (below_alloc H1.out _) hb3)
 obtain ⟨A3, n3, hv, l3, r3⟩ := Kd.R_reads ho3
 have R3 := Aside0.mk r3
 subst hv
 clear ho3 hb3 r3 hx H1
 go_wp2_with fail
 refine (copselaw15_texts.calls 40 _ _ [⟨#[98, 47, 100]⟩, ⟨#[106]⟩] _ _ [⟨#[98, 47, 100]⟩, ⟨#[106]⟩] true _ (Kd.C_alloc R3.out _) l3 (C_strs (xs := [⟨#[98, 47, 100]⟩, ⟨#[106]⟩]) (heap_new' _ _ _ rfl) rfl (by decide)) (Nat.le_refl _) a_texts).mono ?_
 rintro e w4 ⟨rfl, ⟨⟨q4, rfl⟩⟩⟩
 clear R3
 go_wp2_with fail
 refine (cone_Shows.calls 40 none 0 [] ⟨#[97]⟩ true _ ⟨rfl, by decide, fun h => absurd h (by decide)⟩ (Nat.le_refl _) a_shows).mono ?_
 rintro e w5 ⟨rfl, hb5⟩
 have H5 := Aside0.mk (below_step (pw_below_drewN (below_alloc H3.out _) q4) hb5)
 clear hb5 H3
 go_wp2_with fail
 refine (cone_Valid.calls 40 _ _ [⟨#[98]⟩, ⟨#[97]⟩] 13 _ (C_strs (xs := [⟨#[98]⟩, ⟨#[97]⟩]) (heap_new' _ _ _ rfl) rfl (by decide)) (Nat.le_refl _) a_valid).mono ?_
 rintro e w6 ⟨rfl, hb6⟩
 have H6 := Aside0.mk (below_step (below_alloc H5.out _) hb6)
 clear hb6 H5
 go_wp2_with fail
 refine (copselaw15_num.calls 13 13 _ rfl).mono ?_
 rintro e w7 ⟨rfl, ⟨⟨q7, rfl⟩⟩⟩
 replace H6 := Aside0.mk (pw_below_drewN H6.out q7)
 generalize w6.drewN q7 = w7 at H6 ⊢
 go_wp2
 go_ret
 exact ⟨rfl, H6.out⟩
end Go.Proofs.YtdfkaclflmgkeaaGreatDoor.PAll
