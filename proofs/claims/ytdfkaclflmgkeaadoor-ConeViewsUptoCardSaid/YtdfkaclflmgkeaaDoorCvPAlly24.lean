/- What functions of the program compute, each with its walk: a contract for every world and every argument of the kind told. -/
import Derived.Test.YtdfkaclflmgkeaaDoorCvPAllx0
import Derived.Test.YtdfkaclflmgkeaaDoorCvHandC
import Derived.Test.YtdfkaclflmgkeaaDoorCvPAlly18
import Derived.Test.YtdfkaclflmgkeaaDoorCvPAlly20
namespace Go.Proofs.YtdfkaclflmgkeaaDoor.PAll
open Go.RowKit Go.Proofs.YtdfkaclflmgkeaaDoorW.PrintWords Go.Proofs.YtdfkaclflmgkeaaDoorW.PrintLast Go.Proofs.YtdfkaclflmgkeaaDoorW.PrintMore
attribute [local go_sem] max2_int min2_int max_two min_two max_three min_three max_four min_four
set_option linter.unusedVariables false
set_option linter.unusedSimpArgs false
def cone_View.l0 : Nat → List ByteArray → List (S48) → List (S48) → Int → Int → Option ((List (S48)) × Int)
 | 0, _, _, _, _, _ => none
 | k + 1, x1, x8, x21, x22, x23 => if x23 < x22 then (if 0 ≤ x23 then (if x23 < (x21.length : Int) then ((cone_Shows.f k x1 ((rd_T48 x21 x23).f0)).bind fun t560 => (if t560 = true then (if x8.length < 2932031007402 then (cone_View.l0 k x1 (x8 ++ [(⟨(rd_T48 x21 x23).f0, (rd_T48 x21 x23).f1, (rd_T48 x21 x23).f2, (rd_T48 x21 x23).f3⟩ : S48)]) x21 x22 (wrap64 (x23 + 1))) else (none)) else (cone_View.l0 k x1 x8 x21 x22 (wrap64 (x23 + 1))))) else (none)) else (none)) else (some (x8, 0))
def cone_View.f (k : Nat) (l0 : List (S48)) (l1 : List ByteArray) : Option ((List (S48)) × Int) := (snap_Valid.f k l0).bind fun t556 => (if t556 = 0 then ((cone_Valid.f k l1).bind fun t557 => (if t557 = 0 then (cone_View.l0 k l1 ([] : List (S48)) l0 (l0.length : Int) 0) else (some (([] : List (S48)), t557)))) else (some (([] : List (S48)), t556)))
theorem cone_View.mono_l : ∀ k, (∀ y0 y1 y2 y3 y4, LeO (cone_View.l0 k y0 y1 y2 y3 y4) (cone_View.l0 (k + 1) y0 y1 y2 y3 y4))
 | 0 => fun _ _ _ _ _ r h => by simp [cone_View.l0] at h
 | k + 1 => by
  have ih0 := cone_View.mono_l k
  ·intro y0 y1 y2 y3 y4
   unfold cone_View.l0
   repeat' first
   | (with_reducible exact ih0 _ _ _ _ _)
   | (with_reducible exact cone_Shows.mono _ _ _)
   | (with_reducible exact cone_Valid.mono _ _)
   | (with_reducible exact snap_Valid.mono _ _)
   | (with_reducible exact LeO.refl _)
   | (with_reducible exact LeO.none _)
   | (with_reducible refine LeO.ite ?_ ?_)
   | (with_reducible refine LeO.bind ?_ (fun _ => ?_))
   | exact ih0 _ _ _ _ _
   | exact cone_Shows.mono _ _ _
   | exact cone_Valid.mono _ _
   | exact snap_Valid.mono _ _
   | exact LeO.none _
   | refine LeO.ite ?_ ?_
   | refine LeO.bind ?_ (fun _ => ?_)
theorem cone_View.mono : ∀ a0 a1 k, LeO (cone_View.f k a0 a1) (cone_View.f (k + 1) a0 a1) := by
 intro a0 a1 k
 have ih0 := cone_View.mono_l k
 unfold cone_View.f
 repeat' first
   | (with_reducible exact ih0 _ _ _ _ _)
   | (with_reducible exact cone_Shows.mono _ _ _)
   | (with_reducible exact cone_Valid.mono _ _)
   | (with_reducible exact snap_Valid.mono _ _)
   | (with_reducible exact LeO.refl _)
   | (with_reducible exact LeO.none _)
   | (with_reducible refine LeO.ite ?_ ?_)
   | (with_reducible refine LeO.bind ?_ (fun _ => ?_))
   | exact ih0 _ _ _ _ _
   | exact cone_Shows.mono _ _ _
   | exact cone_Valid.mono _ _
   | exact snap_Valid.mono _ _
   | exact LeO.none _
   | refine LeO.ite ?_ ?_
   | refine LeO.bind ?_ (fun _ => ?_)
set_option maxHeartbeats 8000000 in
set_option maxRecDepth 100000 in
theorem cone_View.calls (k : Nat) (A0 : Option Addr) (c0 : Nat) (l0 : List (S48)) (A1 : Option Addr) (c1 : Nat) (l1 : List ByteArray) (r1 : List (S48)) (r2 : Int) (w : World) (hr0 : Kd.C k48 w A0 l0.length l0) (hc0 : l0.length ≤ c0) (hr1 : Kd.C Kd.string w A1 l1.length l1) (hc1 : l1.length ≤ c1) (h : cone_View.f k l0 l1 = some (r1, r2)) :
  Calls Tryd.prog 28 #[.slice A0 l0.length c0, .slice A1 l1.length c1] w fun e w' => ∃ v0_ : Value, e = .returned (.tuple #[v0_, .int .i64 r2]) ∧ Kd.R k48 48 w' w.heap.size (fun _ => True) v0_ r1 ∧ Below w.heap.size w w' := by
 have hu48 := Tryd.underlying48
 have HR0 := Aside0.mk hr0
 have HC0 := Aside0.mk hc0
 clear hr0 hc0
 have HR1 := Aside0.mk hr1
 have HC1 := Aside0.mk hc1
 clear hr1 hc1
 have HB := Aside0.mk (Below.refl w.heap.size w)
 have H : ((snap_Valid.f k l0).bind fun t556 => (if t556 = 0 then ((cone_Valid.f k l1).bind fun t557 => (if t557 = 0 then (cone_View.l0 k l1 ([] : List (S48)) l0 (l0.length : Int) 0) else (some (([] : List (S48)), t557)))) else (some (([] : List (S48)), t556)))) = some (r1, r2) := h
 clear h
 replace H := Option.bind_eq_some_iff.mp H
 obtain ⟨t556, A30, H⟩ := H
 replace H : (if t556 = 0 then ((cone_Valid.f k l1).bind fun t557 => (if t557 = 0 then (cone_View.l0 k l1 ([] : List (S48)) l0 (l0.length : Int) 0) else (some (([] : List (S48)), t557)))) else (some (([] : List (S48)), t556))) = some (r1, r2) := H
 have A3 := Aside0.mk A30
 clear A30
 by_cases c4 : t556 = 0
 ·rw [if_pos c4] at H
  have c4b0 : (t556 == 0) = true := beq_iff_eq.mpr c4
  have c4b1 : (t556 != 0) = false := bne_eq_false_iff_eq.mpr c4
  clear c4
  replace H := Option.bind_eq_some_iff.mp H
  obtain ⟨t557, A50, H⟩ := H
  replace H : (if t557 = 0 then (cone_View.l0 k l1 ([] : List (S48)) l0 (l0.length : Int) 0) else (some (([] : List (S48)), t557))) = some (r1, r2) := H
  have A5 := Aside0.mk A50
  clear A50
  by_cases c6 : t557 = 0
  ·rw [if_pos c6] at H
   have c6b0 : (t557 == 0) = true := beq_iff_eq.mpr c6
   have c6b1 : (t557 != 0) = false := bne_eq_false_iff_eq.mpr c6
   clear c6
   have H' := Aside0.mk H
   clear H
   go_enter Tryd.func28, Tryd.ntmps28
   go_wp2_with (first | ((with_reducible refine gate_callee (f := 41) rfl ?_); refine goesL_ (some 12) rfl rfl Tryd.func41 (by kernel_rfl) rfl #[.slice A0 l0.length c0] rfl (by (try simp only [List.map_toArray, List.map_cons, List.map_nil]); first | done | rfl | (simp only [List.length_drop, List.length_take]; rfl)) ?_; (with_reducible refine (snap_Valid.calls k _ _ l0 t556 _ ?side1 ?side2 A3.out).mono ?_); (case side1 => repeat (first | exact HR0.out | (with_reducible refine Kd.C_alloc ?_ _) | (with_reducible refine Kd.C_drewN ?_ _) | (with_reducible refine Kd.C_drew ?_))); (case side2 => exact HC0.out); rintro e w7 ⟨rfl, hb⟩; refine ⟨_, rfl, ?_⟩; have n0_ := Aside0.mk (below_step (by repeat (first | (with_reducible first | exact HB.out | apply below_alloc | apply pw_below_drewN | apply below_drew1) | exact HB.out)) hb); clear HB; have HB := n0_; clear n0_; (try clear hb); (try clear hb2); (try clear hk); (try clear hi)) | ((with_reducible refine gate_callee (f := 32) rfl ?_); refine goesL_ (some 17) rfl rfl Tryd.func32 (by kernel_rfl) rfl #[.slice A1 l1.length c1] rfl (by (try simp only [List.map_toArray, List.map_cons, List.map_nil]); first | done | rfl | (simp only [List.length_drop, List.length_take]; rfl)) ?_; (with_reducible refine (cone_Valid.calls k _ _ l1 t557 _ ?side1 ?side2 A5.out).mono ?_); (case side1 => repeat (first | exact (Kd.C_below HR1.out HB.out) | (with_reducible refine Kd.C_alloc ?_ _) | (with_reducible refine Kd.C_drewN ?_ _) | (with_reducible refine Kd.C_drew ?_))); (case side2 => exact HC1.out); rintro e w8 ⟨rfl, hb⟩; refine ⟨_, rfl, ?_⟩; have n0_ := Aside0.mk (below_step (by repeat (first | (with_reducible first | exact HB.out | apply below_alloc | apply pw_below_drewN | apply below_drew1) | exact HB.out)) hb); clear HB; have HB := n0_; clear n0_; (try clear hb); (try clear hb2); (try clear hk); (try clear hi)))
   go_loopg [8, 23] k (fun kq v8 v23 w' => ∃ (x8_1 : List (S48)) (x23_1 : Int), v23 = .int .i64 x23_1 ∧ Aside0 (cone_View.l0 kq l1 x8_1 l0 (l0.length : Int) x23_1 = some (r1, r2)) ∧ Aside0 (kq ≤ k) ∧ Aside0 (Kd.R k48 48 w' w.heap.size (fun _ => True) v8 x8_1) ∧ Aside0 (Below w.heap.size w w'))
   case atStart => exact ⟨(([] : List (S48))), (0), (by first | rfl | (simp; done) | (simp [*]; done)), H', ⟨Nat.le_refl _⟩, ⟨by first | exact Kd.R_nil _ _ _ _ _ | exact Kd.N_nil _ _ _ _ _ | exact Kd.V_nil _ _ _ _ _ | exact Kd.Q_nil _ _ _ _ _ | exact Kd.S_nil _ _ _ _ _⟩, ⟨by repeat (first | (with_reducible first | exact HB.out | apply below_alloc | apply pw_below_drewN | apply below_drew1) | exact HB.out)⟩⟩
   case round =>
    clear H'
    try clear c1
    try clear c2
    try clear p2
    try clear c3
    try clear c4
    try clear c4b0
    try clear c4b1
    try clear c6
    try clear c6b0
    try clear c6b1
    obtain ⟨x8_1, x23_1, rfl, HA, HK1, HO_8, HB⟩ := hrel
    cases gk with
    | zero => exact absurd HA.out (by simp [cone_View.l0])
    | succ k1 =>
     have H := HA.out
     clear HA
     simp only [cone_View.l0] at H
     by_cases c9 : x23_1 < (l0.length : Int)
     ·rw [if_pos c9] at H
      have c9b0 : decide (x23_1 < (l0.length : Int)) = true := decide_eq_true c9
      clear c9
      by_cases c10 : 0 ≤ x23_1
      ·rw [if_pos c10] at H
       have c10b0 : decide (0 ≤ x23_1) = true := decide_eq_true c10
       clear c10
       by_cases c11 : x23_1 < (l0.length : Int)
       ·rw [if_pos c11] at H
        have c11b0 : decide (x23_1 < (l0.length : Int)) = true := decide_eq_true c11
        clear c11
        replace H := Option.bind_eq_some_iff.mp H
        obtain ⟨t560, A120, H⟩ := H
        replace H : (if t560 = true then (if x8_1.length < 2932031007402 then (cone_View.l0 k1 l1 (x8_1 ++ [(⟨(rd_T48 l0 x23_1).f0, (rd_T48 l0 x23_1).f1, (rd_T48 l0 x23_1).f2, (rd_T48 l0 x23_1).f3⟩ : S48)]) l0 (l0.length : Int) (wrap64 (x23_1 + 1))) else (none)) else (cone_View.l0 k1 l1 x8_1 l0 (l0.length : Int) (wrap64 (x23_1 + 1)))) = some (r1, r2) := H
        have A12 := Aside0.mk A120
        clear A120
        by_cases c13 : t560 = true
        ·subst c13
         have H1 : (if x8_1.length < 2932031007402 then (cone_View.l0 k1 l1 (x8_1 ++ [(⟨(rd_T48 l0 x23_1).f0, (rd_T48 l0 x23_1).f1, (rd_T48 l0 x23_1).f2, (rd_T48 l0 x23_1).f3⟩ : S48)]) l0 (l0.length : Int) (wrap64 (x23_1 + 1))) else (none)) = some (r1, r2) := by rw [if_pos rfl] at H; exact H
         clear H
         have H := H1
         clear H1
         by_cases c14 : x8_1.length < 2932031007402
         ·rw [if_pos c14] at H
          have LMc14 := Aside0.mk c14
          clear c14
          obtain ⟨y561, hy561⟩ : ∃ y_ : List (S48), y_ = (x8_1 ++ [(⟨(rd_T48 l0 x23_1).f0, (rd_T48 l0 x23_1).f1, (rd_T48 l0 x23_1).f2, (rd_T48 l0 x23_1).f3⟩ : S48)]) := ⟨_, rfl⟩
          replace H : (cone_View.l0 k1 l1 y561 l0 (l0.length : Int) (wrap64 (x23_1 + 1))) = some (r1, r2) := by first | (rw [hy561]; with_reducible exact H) | (have H2_ := (Option.bind_some _ _).symm.trans H; rw [hy561]; with_reducible exact H2_) | (have H2_ := (Option.bind_some _ _).symm.trans H; with_reducible exact H2_) | with_reducible exact H | (rw [hy561]; exact H) | exact H
          have Ny561 := Aside0.mk hy561
          clear hy561
          have H' := Aside0.mk H
          clear H
          have p558 : 0 ≤ (x23_1 : Int) := of_decide_eq_true (by first | (with_reducible assumption) | assumption)
          have q558 : x23_1 < (l0.length : Int) := of_decide_eq_true (by first | (with_reducible assumption) | assumption)
          obtain ⟨ad558, e558, hx558_0, hx558_1, hx558_2, hx558_3⟩ := at_T48 HR0.out x23_1 p558 q558
          cases e558
          replace hx558_0 := (HB.out.cell (World.block_lt_of_cell? w _ hx558_0)).trans hx558_0
          replace hx558_1 := (HB.out.cell (World.block_lt_of_cell? w _ hx558_1)).trans hx558_1
          replace hx558_2 := (HB.out.cell (World.block_lt_of_cell? w _ hx558_2)).trans hx558_2
          replace hx558_3 := (HB.out.cell (World.block_lt_of_cell? w _ hx558_3)).trans hx558_3
          replace p558 := eq_true p558
          replace q558 := eq_true q558
          go_wp2_with (first | ((with_reducible refine gate_dst (N := 10) rfl ?_); refine box_event ?hg (N := 10) ?hd (cs := #[.string (⟨#[]⟩ : ByteArray), .string (⟨#[]⟩ : ByteArray), .int .i64 0, .int .i64 0]) (t := 48) ?hr ?_; (case hd => rfl); (case hg => rfl); (case hr => first | (go_simp; done) | (go_simp; rfl)); intro gb559 hg w15 hbox hb; have n0_ := Aside0.mk (Kd.R_below (Kd.R_elderB (by (with_reducible repeat (first | apply Kd.R_alloc | apply Kd.R_drewN | apply Kd.R_drew)); exact HO_8.out) gb559 (Nat.le_of_eq hg.symm)) hb); have n1_ := Aside0.mk (below_step (by repeat (first | (with_reducible first | exact HB.out | apply below_alloc | apply pw_below_drewN | apply below_drew1) | exact HB.out)) hb); have n2_ := Aside0.mk (hbox); have n3_ := Aside0.mk ((by rw [hg]; exact (below_size (by repeat (first | (with_reducible first | exact HB.out | apply below_alloc | apply pw_below_drewN | apply below_drew1) | exact HB.out))) : w.heap.size ≤ gb559)); have n4_ := Aside0.mk ((by rw [hg]; exact (below_size (by repeat (first | (with_reducible first | exact HB.out | apply below_alloc | apply pw_below_drewN | apply below_drew1) | exact HB.out))) : w.heap.size ≤ gb559)); clear HO_8; clear HB; have HO_8 := n0_; have HB := n1_; have BK559 := n2_; have GW559 := n3_; have GE559 := n4_; clear n0_ n1_ n2_ n3_ n4_; clear hb hbox hg; have hcz16_0 : w15.cell? ⟨gb559, 0, none⟩ = some (.string (⟨#[]⟩ : ByteArray)) := (blk_cell BK559.out 0).trans rfl; have hcz16_1 : w15.cell? ⟨gb559, 1, none⟩ = some (.string (⟨#[]⟩ : ByteArray)) := (blk_cell BK559.out 1).trans rfl; have hcz16_2 : w15.cell? ⟨gb559, 2, none⟩ = some (.int .i64 0) := (blk_cell BK559.out 2).trans rfl; have hcz16_3 : w15.cell? ⟨gb559, 3, none⟩ = some (.int .i64 0) := (blk_cell BK559.out 3).trans rfl; have hfz16_0 := blk_frozen BK559.out 0; have hfz16_1 := blk_frozen BK559.out 1; have hfz16_2 := blk_frozen BK559.out 2; have hfz16_3 := blk_frozen BK559.out 3) | ((with_reducible refine gate_callee (f := 34) rfl ?_); refine goesL_ (some 30) rfl rfl Tryd.func34 (by kernel_rfl) rfl #[.slice A1 l1.length c1, .string ((rd_T48 l0 x23_1).f0)] rfl (by (try simp only [List.map_toArray, List.map_cons, List.map_nil]); first | done | rfl | (simp only [List.length_drop, List.length_take]; rfl)) ?_; (with_reducible refine (cone_Shows.calls k1 _ _ l1 ((rd_T48 l0 x23_1).f0) true _ ?side1 ?side2 A12.out).mono ?_); (case side1 => exact Kd.C_below HR1.out (by repeat (first | (with_reducible first | exact HB.out | apply below_alloc | apply pw_below_drewN | apply below_drew1 | refine below_set ?_ GE559.out) | exact HB.out))); (case side2 => exact HC1.out); rintro e w17 ⟨rfl, hb⟩; refine ⟨_, rfl, ?_⟩; have n0_ := Aside0.mk (Kd.R_below (by (with_reducible repeat (first | apply Kd.R_alloc | apply Kd.R_drewN | apply Kd.R_drew)); exact (Kd.R_mono (Kd.R_far (p := ⟨gb559, 3, none⟩) (Kd.R_far (p := ⟨gb559, 2, none⟩) (Kd.R_far (p := ⟨gb559, 1, none⟩) (Kd.R_far (p := ⟨gb559, 0, none⟩) (Kd.R_mono HO_8.out (fun k_ hk => (⟨hk, hk.2⟩ : _ ∧ k_ ≠ gb559))) (fun _ hk => hk.2) (.string ((rd_T48 l0 x23_1).f0))) (fun _ hk => hk.2) (.string ((rd_T48 l0 x23_1).f1))) (fun _ hk => hk.2) (.int .i64 ((rd_T48 l0 x23_1).f2))) (fun _ hk => hk.2) (.int .i64 ((rd_T48 l0 x23_1).f3))) (fun _ h_ => h_.1))) hb); have n1_ := Aside0.mk (blk_below (g := gb559) (o := .cells #[.string ((rd_T48 l0 x23_1).f0), .string ((rd_T48 l0 x23_1).f1), .int .i64 ((rd_T48 l0 x23_1).f2), .int .i64 ((rd_T48 l0 x23_1).f3)] 48 (0, 0)) (by (with_reducible repeat (first | refine blk_drewN ?_ _ | refine blk_drew ?_ | refine blk_alloc ?_ _)); refine blk_put (cs := #[.string ((rd_T48 l0 x23_1).f0), .string ((rd_T48 l0 x23_1).f1), .int .i64 ((rd_T48 l0 x23_1).f2), .int .i64 0]) ?_ 3 _ rfl; (with_reducible repeat (first | refine blk_drewN ?_ _ | refine blk_drew ?_ | refine blk_alloc ?_ _)); refine blk_put (cs := #[.string ((rd_T48 l0 x23_1).f0), .string ((rd_T48 l0 x23_1).f1), .int .i64 0, .int .i64 0]) ?_ 2 _ rfl; (with_reducible repeat (first | refine blk_drewN ?_ _ | refine blk_drew ?_ | refine blk_alloc ?_ _)); refine blk_put (cs := #[.string ((rd_T48 l0 x23_1).f0), .string (⟨#[]⟩ : ByteArray), .int .i64 0, .int .i64 0]) ?_ 1 _ rfl; (with_reducible repeat (first | refine blk_drewN ?_ _ | refine blk_drew ?_ | refine blk_alloc ?_ _)); refine blk_put (cs := #[.string (⟨#[]⟩ : ByteArray), .string (⟨#[]⟩ : ByteArray), .int .i64 0, .int .i64 0]) ?_ 0 _ rfl; (with_reducible repeat (first | refine blk_drewN ?_ _ | refine blk_drew ?_ | refine blk_alloc ?_ _)); exact BK559.out) hb); have n2_ := Aside0.mk (below_step (by repeat (first | (with_reducible first | exact HB.out | apply below_alloc | apply pw_below_drewN | apply below_drew1 | refine below_set ?_ GE559.out) | exact HB.out)) hb); clear HO_8; clear BK559; clear HB; have HO_8 := n0_; have BK559 := n1_; have HB := n2_; clear n0_ n1_ n2_; (try clear hb); (try clear hb2); (try clear hk); (try clear hi); have hcz18_0 : w17.cell? ⟨gb559, 0, none⟩ = some (.string ((rd_T48 l0 x23_1).f0)) := (blk_cell BK559.out 0).trans rfl; have hcz18_1 : w17.cell? ⟨gb559, 1, none⟩ = some (.string ((rd_T48 l0 x23_1).f1)) := (blk_cell BK559.out 1).trans rfl; have hcz18_2 : w17.cell? ⟨gb559, 2, none⟩ = some (.int .i64 ((rd_T48 l0 x23_1).f2)) := (blk_cell BK559.out 2).trans rfl; have hcz18_3 : w17.cell? ⟨gb559, 3, none⟩ = some (.int .i64 ((rd_T48 l0 x23_1).f3)) := (blk_cell BK559.out 3).trans rfl; have hfz18_0 := blk_frozen BK559.out 0; have hfz18_1 := blk_frozen BK559.out 1; have hfz18_2 := blk_frozen BK559.out 2; have hfz18_3 := blk_frozen BK559.out 3) | ((with_reducible refine gate_builtin (b := .append) (xs := #[.tmp 31, .tmp 33]) rfl ?_); at_builtin; refine Kd.R_append k48 (w0 := w) w.heap.size rfl (.tmp 31) (.tmp 33) 36 48 (.agg #[(.string ⟨#[]⟩), (.string ⟨#[]⟩), (.int .i64 0), (.int .i64 0)]) 48 rfl Tryd.underlying36 info48 rfl (by decide) (by omega) u8 x8_1 (⟨(rd_T48 l0 x23_1).f0, (rd_T48 l0 x23_1).f1, (rd_T48 l0 x23_1).f2, (rd_T48 l0 x23_1).f3⟩ : S48) [.string ((rd_T48 l0 x23_1).f0), .string ((rd_T48 l0 x23_1).f1), .int .i64 ((rd_T48 l0 x23_1).f2), .int .i64 ((rd_T48 l0 x23_1).f3)] (fun k_ => k_ ≠ gb559) (fun _ => False) rfl rfl ?aP (fun _ hk => hk.elim) ?aF ?aO ?aB ?aS ?aL ?_; (case aP => exact k48_mkM _ _ _ (⟨(rd_T48 l0 x23_1).f0, (rd_T48 l0 x23_1).f1, (rd_T48 l0 x23_1).f2, (rd_T48 l0 x23_1).f3⟩ : S48)); (case aB => exact (by repeat (first | (with_reducible first | exact HB.out | apply below_alloc | apply pw_below_drewN | apply below_drew1 | refine below_set ?_ GE559.out) | exact HB.out))); (case aF => exact (fun k_ hk => Kd.freshB (g := gb559) (o := .cells #[.string ((rd_T48 l0 x23_1).f0), .string ((rd_T48 l0 x23_1).f1), .int .i64 ((rd_T48 l0 x23_1).f2), .int .i64 ((rd_T48 l0 x23_1).f3)] 48 (0, 0)) (by (with_reducible repeat (first | refine blk_drewN ?_ _ | refine blk_drew ?_ | refine blk_alloc ?_ _)); exact BK559.out) k_ hk)); (case aO => exact (by (with_reducible repeat (first | apply Kd.R_alloc | apply Kd.R_drewN | apply Kd.R_drew)); exact Kd.R_mono HO_8.out (fun _ hk => hk.2))); (case aS => exact (below_size (by repeat (first | (with_reducible first | exact HB.out | apply below_alloc | apply pw_below_drewN | apply below_drew1 | refine below_set ?_ GE559.out) | exact HB.out)))); (case aL => have := LMc14.out; omega); intro v562 w19 ho hb hg hat; rw [← Ny561.out] at ho; have n0_ := Aside0.mk (blk_grown (g := gb559) (o := .cells #[.string ((rd_T48 l0 x23_1).f0), .string ((rd_T48 l0 x23_1).f1), .int .i64 ((rd_T48 l0 x23_1).f2), .int .i64 ((rd_T48 l0 x23_1).f3)] 48 (0, 0)) (by (with_reducible repeat (first | refine blk_drewN ?_ _ | refine blk_drew ?_ | refine blk_alloc ?_ _)); exact BK559.out) hg (Kd.R_away HO_8.out (fun _ hk => hk.2))); have n1_ := Aside0.mk (hb); have n2_ := Aside0.mk (ho); clear BK559; clear HB; clear HO_8; have BK559 := n0_; have HB := n1_; have HO563 := n2_; clear n0_ n1_ n2_; clear ho hb hg hat))
          go_roundg k1
          case measure => have := HK1.out; omega
          case rel => exact ⟨(y561), (wrap64 (x23_1 + 1)), (by first | rfl | (simp; done) | (simp [*]; done)), H', ⟨by have := HK1.out; omega⟩, ⟨by (with_reducible repeat (first | apply Kd.R_alloc | apply Kd.R_drewN | apply Kd.R_drew)); exact Kd.R_mono HO563.out (fun _ hk => trivial)⟩, ⟨by repeat (first | (with_reducible first | exact HB.out | apply below_alloc | apply pw_below_drewN | apply below_drew1 | refine below_set ?_ GE559.out) | exact HB.out)⟩⟩
         ·rw [if_neg c14] at H
          exact absurd H (by simp)
        ·replace c13 := Bool.eq_false_iff.mpr c13
         subst c13
         have H1 : (cone_View.l0 k1 l1 x8_1 l0 (l0.length : Int) (wrap64 (x23_1 + 1))) = some (r1, r2) := by rw [if_neg (show ¬ (false = true) by decide)] at H; exact H
         clear H
         have H := H1
         clear H1
         have H' := Aside0.mk H
         clear H
         have p558 : 0 ≤ (x23_1 : Int) := of_decide_eq_true (by first | (with_reducible assumption) | assumption)
         have q558 : x23_1 < (l0.length : Int) := of_decide_eq_true (by first | (with_reducible assumption) | assumption)
         obtain ⟨ad558, e558, hx558_0, hx558_1, hx558_2, hx558_3⟩ := at_T48 HR0.out x23_1 p558 q558
         cases e558
         replace hx558_0 := (HB.out.cell (World.block_lt_of_cell? w _ hx558_0)).trans hx558_0
         replace hx558_1 := (HB.out.cell (World.block_lt_of_cell? w _ hx558_1)).trans hx558_1
         replace hx558_2 := (HB.out.cell (World.block_lt_of_cell? w _ hx558_2)).trans hx558_2
         replace hx558_3 := (HB.out.cell (World.block_lt_of_cell? w _ hx558_3)).trans hx558_3
         replace p558 := eq_true p558
         replace q558 := eq_true q558
         go_wp2_with (first | ((with_reducible refine gate_dst (N := 10) rfl ?_); refine box_event ?hg (N := 10) ?hd (cs := #[.string (⟨#[]⟩ : ByteArray), .string (⟨#[]⟩ : ByteArray), .int .i64 0, .int .i64 0]) (t := 48) ?hr ?_; (case hd => rfl); (case hg => rfl); (case hr => first | (go_simp; done) | (go_simp; rfl)); intro gb559 hg w20 hbox hb; have n0_ := Aside0.mk (Kd.R_below (Kd.R_elderB (by (with_reducible repeat (first | apply Kd.R_alloc | apply Kd.R_drewN | apply Kd.R_drew)); exact HO_8.out) gb559 (Nat.le_of_eq hg.symm)) hb); have n1_ := Aside0.mk (below_step (by repeat (first | (with_reducible first | exact HB.out | apply below_alloc | apply pw_below_drewN | apply below_drew1) | exact HB.out)) hb); have n2_ := Aside0.mk (hbox); have n3_ := Aside0.mk ((by rw [hg]; exact (below_size (by repeat (first | (with_reducible first | exact HB.out | apply below_alloc | apply pw_below_drewN | apply below_drew1) | exact HB.out))) : w.heap.size ≤ gb559)); have n4_ := Aside0.mk ((by rw [hg]; exact (below_size (by repeat (first | (with_reducible first | exact HB.out | apply below_alloc | apply pw_below_drewN | apply below_drew1) | exact HB.out))) : w.heap.size ≤ gb559)); clear HO_8; clear HB; have HO_8 := n0_; have HB := n1_; have BK559 := n2_; have GW559 := n3_; have GE559 := n4_; clear n0_ n1_ n2_ n3_ n4_; clear hb hbox hg; have hcz21_0 : w20.cell? ⟨gb559, 0, none⟩ = some (.string (⟨#[]⟩ : ByteArray)) := (blk_cell BK559.out 0).trans rfl; have hcz21_1 : w20.cell? ⟨gb559, 1, none⟩ = some (.string (⟨#[]⟩ : ByteArray)) := (blk_cell BK559.out 1).trans rfl; have hcz21_2 : w20.cell? ⟨gb559, 2, none⟩ = some (.int .i64 0) := (blk_cell BK559.out 2).trans rfl; have hcz21_3 : w20.cell? ⟨gb559, 3, none⟩ = some (.int .i64 0) := (blk_cell BK559.out 3).trans rfl; have hfz21_0 := blk_frozen BK559.out 0; have hfz21_1 := blk_frozen BK559.out 1; have hfz21_2 := blk_frozen BK559.out 2; have hfz21_3 := blk_frozen BK559.out 3) | ((with_reducible refine gate_callee (f := 34) rfl ?_); refine goesL_ (some 30) rfl rfl Tryd.func34 (by kernel_rfl) rfl #[.slice A1 l1.length c1, .string ((rd_T48 l0 x23_1).f0)] rfl (by (try simp only [List.map_toArray, List.map_cons, List.map_nil]); first | done | rfl | (simp only [List.length_drop, List.length_take]; rfl)) ?_; (with_reducible refine (cone_Shows.calls k1 _ _ l1 ((rd_T48 l0 x23_1).f0) false _ ?side1 ?side2 A12.out).mono ?_); (case side1 => exact Kd.C_below HR1.out (by repeat (first | (with_reducible first | exact HB.out | apply below_alloc | apply pw_below_drewN | apply below_drew1 | refine below_set ?_ GE559.out) | exact HB.out))); (case side2 => exact HC1.out); rintro e w22 ⟨rfl, hb⟩; refine ⟨_, rfl, ?_⟩; have n0_ := Aside0.mk (Kd.R_below (by (with_reducible repeat (first | apply Kd.R_alloc | apply Kd.R_drewN | apply Kd.R_drew)); exact (Kd.R_mono (Kd.R_far (p := ⟨gb559, 3, none⟩) (Kd.R_far (p := ⟨gb559, 2, none⟩) (Kd.R_far (p := ⟨gb559, 1, none⟩) (Kd.R_far (p := ⟨gb559, 0, none⟩) (Kd.R_mono HO_8.out (fun k_ hk => (⟨hk, hk.2⟩ : _ ∧ k_ ≠ gb559))) (fun _ hk => hk.2) (.string ((rd_T48 l0 x23_1).f0))) (fun _ hk => hk.2) (.string ((rd_T48 l0 x23_1).f1))) (fun _ hk => hk.2) (.int .i64 ((rd_T48 l0 x23_1).f2))) (fun _ hk => hk.2) (.int .i64 ((rd_T48 l0 x23_1).f3))) (fun _ h_ => h_.1))) hb); have n1_ := Aside0.mk (blk_below (g := gb559) (o := .cells #[.string ((rd_T48 l0 x23_1).f0), .string ((rd_T48 l0 x23_1).f1), .int .i64 ((rd_T48 l0 x23_1).f2), .int .i64 ((rd_T48 l0 x23_1).f3)] 48 (0, 0)) (by (with_reducible repeat (first | refine blk_drewN ?_ _ | refine blk_drew ?_ | refine blk_alloc ?_ _)); refine blk_put (cs := #[.string ((rd_T48 l0 x23_1).f0), .string ((rd_T48 l0 x23_1).f1), .int .i64 ((rd_T48 l0 x23_1).f2), .int .i64 0]) ?_ 3 _ rfl; (with_reducible repeat (first | refine blk_drewN ?_ _ | refine blk_drew ?_ | refine blk_alloc ?_ _)); refine blk_put (cs := #[.string ((rd_T48 l0 x23_1).f0), .string ((rd_T48 l0 x23_1).f1), .int .i64 0, .int .i64 0]) ?_ 2 _ rfl; (with_reducible repeat (first | refine blk_drewN ?_ _ | refine blk_drew ?_ | refine blk_alloc ?_ _)); refine blk_put (cs := #[.string ((rd_T48 l0 x23_1).f0), .string (⟨#[]⟩ : ByteArray), .int .i64 0, .int .i64 0]) ?_ 1 _ rfl; (with_reducible repeat (first | refine blk_drewN ?_ _ | refine blk_drew ?_ | refine blk_alloc ?_ _)); refine blk_put (cs := #[.string (⟨#[]⟩ : ByteArray), .string (⟨#[]⟩ : ByteArray), .int .i64 0, .int .i64 0]) ?_ 0 _ rfl; (with_reducible repeat (first | refine blk_drewN ?_ _ | refine blk_drew ?_ | refine blk_alloc ?_ _)); exact BK559.out) hb); have n2_ := Aside0.mk (below_step (by repeat (first | (with_reducible first | exact HB.out | apply below_alloc | apply pw_below_drewN | apply below_drew1 | refine below_set ?_ GE559.out) | exact HB.out)) hb); clear HO_8; clear BK559; clear HB; have HO_8 := n0_; have BK559 := n1_; have HB := n2_; clear n0_ n1_ n2_; (try clear hb); (try clear hb2); (try clear hk); (try clear hi)))
         go_roundg k1
         case measure => have := HK1.out; omega
         case rel => exact ⟨(x8_1), (wrap64 (x23_1 + 1)), (by first | rfl | (simp; done) | (simp [*]; done)), H', ⟨by have := HK1.out; omega⟩, ⟨by (with_reducible repeat (first | apply Kd.R_alloc | apply Kd.R_drewN | apply Kd.R_drew)); exact Kd.R_mono HO_8.out (fun _ hk => trivial)⟩, ⟨by repeat (first | (with_reducible first | exact HB.out | apply below_alloc | apply pw_below_drewN | apply below_drew1 | refine below_set ?_ GE559.out) | exact HB.out)⟩⟩
       ·rw [if_neg c11] at H
        exact absurd H (by simp)
      ·rw [if_neg c10] at H
       exact absurd H (by simp)
     ·rw [if_neg c9] at H
      have c9b0 : decide (x23_1 < (l0.length : Int)) = false := decide_eq_false c9
      clear c9
      simp only [Option.some.injEq, Prod.mk.injEq] at H
      obtain ⟨rfl, rfl⟩ := H
      go_wp2
      go_ret2
      exact ⟨_, by first | rfl | (simp [errW_none, errW_some] <;> rfl) | (simp [*, errW_none, errW_some] <;> rfl), by (with_reducible repeat (first | apply Kd.R_alloc | apply Kd.R_drewN | apply Kd.R_drew)); exact HO_8.out, by repeat (first | (with_reducible first | exact HB.out | apply below_alloc | apply pw_below_drewN | apply below_drew1) | exact HB.out)⟩
  ·rw [if_neg c6] at H
   have c6b0 : (t557 == 0) = false := beq_eq_false_iff_ne.mpr c6
   have c6b1 : (t557 != 0) = true := bne_iff_ne.mpr c6
   simp only [Option.some.injEq, Prod.mk.injEq] at H
   obtain ⟨rfl, rfl⟩ := H
   go_enter Tryd.func28, Tryd.ntmps28
   go_wp2_with (first | ((with_reducible refine gate_callee (f := 41) rfl ?_); refine goesL_ (some 12) rfl rfl Tryd.func41 (by kernel_rfl) rfl #[.slice A0 l0.length c0] rfl (by (try simp only [List.map_toArray, List.map_cons, List.map_nil]); first | done | rfl | (simp only [List.length_drop, List.length_take]; rfl)) ?_; (with_reducible refine (snap_Valid.calls k _ _ l0 t556 _ ?side1 ?side2 A3.out).mono ?_); (case side1 => repeat (first | exact HR0.out | (with_reducible refine Kd.C_alloc ?_ _) | (with_reducible refine Kd.C_drewN ?_ _) | (with_reducible refine Kd.C_drew ?_))); (case side2 => exact HC0.out); rintro e w23 ⟨rfl, hb⟩; refine ⟨_, rfl, ?_⟩; have n0_ := Aside0.mk (below_step (by repeat (first | (with_reducible first | exact HB.out | apply below_alloc | apply pw_below_drewN | apply below_drew1) | exact HB.out)) hb); clear HB; have HB := n0_; clear n0_; (try clear hb); (try clear hb2); (try clear hk); (try clear hi)) | ((with_reducible refine gate_callee (f := 32) rfl ?_); refine goesL_ (some 17) rfl rfl Tryd.func32 (by kernel_rfl) rfl #[.slice A1 l1.length c1] rfl (by (try simp only [List.map_toArray, List.map_cons, List.map_nil]); first | done | rfl | (simp only [List.length_drop, List.length_take]; rfl)) ?_; (with_reducible refine (cone_Valid.calls k _ _ l1 t557 _ ?side1 ?side2 A5.out).mono ?_); (case side1 => repeat (first | exact (Kd.C_below HR1.out HB.out) | (with_reducible refine Kd.C_alloc ?_ _) | (with_reducible refine Kd.C_drewN ?_ _) | (with_reducible refine Kd.C_drew ?_))); (case side2 => exact HC1.out); rintro e w24 ⟨rfl, hb⟩; refine ⟨_, rfl, ?_⟩; have n0_ := Aside0.mk (below_step (by repeat (first | (with_reducible first | exact HB.out | apply below_alloc | apply pw_below_drewN | apply below_drew1) | exact HB.out)) hb); clear HB; have HB := n0_; clear n0_; (try clear hb); (try clear hb2); (try clear hk); (try clear hi)))
   go_ret2
   exact ⟨_, by first | rfl | (simp [errW_none, errW_some] <;> rfl) | (simp [*, errW_none, errW_some] <;> rfl), by first | exact Kd.R_nil _ _ _ _ _ | exact Kd.N_nil _ _ _ _ _ | exact Kd.V_nil _ _ _ _ _ | exact Kd.Q_nil _ _ _ _ _ | exact Kd.S_nil _ _ _ _ _, by repeat (first | (with_reducible first | exact HB.out | apply below_alloc | apply pw_below_drewN | apply below_drew1) | exact HB.out)⟩
 ·rw [if_neg c4] at H
  have c4b0 : (t556 == 0) = false := beq_eq_false_iff_ne.mpr c4
  have c4b1 : (t556 != 0) = true := bne_iff_ne.mpr c4
  simp only [Option.some.injEq, Prod.mk.injEq] at H
  obtain ⟨rfl, rfl⟩ := H
  go_enter Tryd.func28, Tryd.ntmps28
  go_wp2_with (first | ((with_reducible refine gate_callee (f := 41) rfl ?_); refine goesL_ (some 12) rfl rfl Tryd.func41 (by kernel_rfl) rfl #[.slice A0 l0.length c0] rfl (by (try simp only [List.map_toArray, List.map_cons, List.map_nil]); first | done | rfl | (simp only [List.length_drop, List.length_take]; rfl)) ?_; (with_reducible refine (snap_Valid.calls k _ _ l0 t556 _ ?side1 ?side2 A3.out).mono ?_); (case side1 => repeat (first | exact HR0.out | (with_reducible refine Kd.C_alloc ?_ _) | (with_reducible refine Kd.C_drewN ?_ _) | (with_reducible refine Kd.C_drew ?_))); (case side2 => exact HC0.out); rintro e w25 ⟨rfl, hb⟩; refine ⟨_, rfl, ?_⟩; have n0_ := Aside0.mk (below_step (by repeat (first | (with_reducible first | exact HB.out | apply below_alloc | apply pw_below_drewN | apply below_drew1) | exact HB.out)) hb); clear HB; have HB := n0_; clear n0_; (try clear hb); (try clear hb2); (try clear hk); (try clear hi)))
  go_ret2
  exact ⟨_, by first | rfl | (simp [errW_none, errW_some] <;> rfl) | (simp [*, errW_none, errW_some] <;> rfl), by first | exact Kd.R_nil _ _ _ _ _ | exact Kd.N_nil _ _ _ _ _ | exact Kd.V_nil _ _ _ _ _ | exact Kd.Q_nil _ _ _ _ _ | exact Kd.S_nil _ _ _ _ _, by repeat (first | (with_reducible first | exact HB.out | apply below_alloc | apply pw_below_drewN | apply below_drew1) | exact HB.out)⟩
end Go.Proofs.YtdfkaclflmgkeaaDoor.PAll
