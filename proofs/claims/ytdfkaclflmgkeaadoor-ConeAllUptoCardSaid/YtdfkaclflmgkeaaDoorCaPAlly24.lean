/- What functions of the program compute, each with its walk: a contract for every world and every argument of the kind told. -/
import Derived.Test.YtdfkaclflmgkeaaDoorCaPAllx0
import Derived.Test.YtdfkaclflmgkeaaDoorCaPAlly3
import Derived.Test.YtdfkaclflmgkeaaDoorCaPAlly7
import Derived.Test.YtdfkaclflmgkeaaDoorCaPAlly20
import Derived.Test.YtdfkaclflmgkeaaDoorCaHandA
import Derived.Test.YtdfkaclflmgkeaaDoorCaFreshW
import Derived.Test.YtdfkaclflmgkeaaDoorCaPAlly5
import Derived.WalkKit
import Derived.BigQuiet
import Derived.Outline
import Derived.Test.YtdfkaclflmgkeaaDoorCaPAlly4
import Derived.Test.YtdfkaclflmgkeaaDoorCaPAlly2
namespace Go.Proofs.YtdfkaclflmgkeaaDoor.PAll
open Go.RowKit Go.Proofs.YtdfkaclflmgkeaaDoorW.PrintWords Go.Proofs.YtdfkaclflmgkeaaDoorW.PrintLast Go.Proofs.YtdfkaclflmgkeaaDoorW.PrintMore
attribute [local go_sem] max2_int min2_int max_two min_two max_three min_three max_four min_four
set_option linter.unusedVariables false
set_option linter.unusedSimpArgs false
def cone_View.l0 : Nat → List ByteArray → List (S48) → List (S48) → Int → Int → Option ((List (S48)) × Int)
 | 0, _, _, _, _, _ => none
 | k + 1, x1, x8, x21, x22, x23 => if x23 < x22 then (if 0 ≤ x23 then (if x23 < (x21.length : Int) then ((cone_Shows.f k x1 ((rd_T48 x21 x23).f0)).bind fun t560 => (if t560 = true then (if x8.length < 2932031007402 then (cone_View.l0 k x1 (x8 ++ [(⟨(rd_T48 x21 x23).f0, (rd_T48 x21 x23).f1, (rd_T48 x21 x23).f2, (rd_T48 x21 x23).f3⟩ : S48)]) x21 x22 (wrap64 (x23 + 1))) else (none)) else (cone_View.l0 k x1 x8 x21 x22 (wrap64 (x23 + 1))))) else (none)) else (none)) else (some (x8, 0))
def cone_View.f (k : Nat) (l0 : List (S48)) (l1 : List ByteArray) : Option ((List (S48)) × Int) := (snap_Valid.f k l0).bind fun t556 => (if t556 = 0 then ((cone_Valid.f k l1).bind fun t557 => (if t557 = 0 then (cone_View.l0 k l1 ([] : List (S48)) l0 (l0.length : Int) 0) else (some (([] : List (S48)), t557)))) else (some (([] : List (S48)), t556)))
set_option maxHeartbeats 8000000 in
set_option maxRecDepth 100000 in
theorem cone_View.calls (k : Nat) (A0 : Option Addr) (c0 : Nat) (l0 : List (S48)) (A1 : Option Addr) (c1 : Nat) (l1 : List ByteArray) (r1 : List (S48)) (r2 : Int) (w : World) (hr0 : Kd.C k48 w A0 l0.length l0) (hc0 : l0.length ≤ c0) (hr1 : Kd.C Kd.string w A1 l1.length l1) (hc1 : l1.length ≤ c1) (h : cone_View.f k l0 l1 = some (r1, r2)) :
  Calls Tryd.prog 28 #[.slice A0 l0.length c0, .slice A1 l1.length c1] w fun e w' => ∃ v0_ : Value, e = .returned (.tuple #[v0_, .int .i64 r2]) ∧ Kd.R k48 48 w' w.heap.size (fun _ => True) v0_ r1 ∧ Below w.heap.size w w' := by
 have hu48 := Tryd.underlying48
 have HR0 := Aside0.mk hr0
 have HC0 := Aside0.mk hc0
 clear hr0 hc0
 have HR1 := Aside0.mk hr1
 have HC1 := Aside0.mk hc1
 clear hr1 hc1
 have HB := Aside0.mk (Below.refl w.heap.size w)
 have H : ((snap_Valid.f k l0).bind fun t556 => (if t556 = 0 then ((cone_Valid.f k l1).bind fun t557 => (if t557 = 0 then (cone_View.l0 k l1 ([] : List (S48)) l0 (l0.length : Int) 0) else (some (([] : List (S48)), t557)))) else (some (([] : List (S48)), t556)))) = some (r1, r2) := h
 clear h
 replace H := Option.bind_eq_some_iff.mp H
 obtain ⟨t556, A30, H⟩ := H
 replace H : (if t556 = 0 then ((cone_Valid.f k l1).bind fun t557 => (if t557 = 0 then (cone_View.l0 k l1 ([] : List (S48)) l0 (l0.length : Int) 0) else (some (([] : List (S48)), t557)))) else (some (([] : List (S48)), t556))) = some (r1, r2) := H
 have A3 := Aside0.mk A30
 clear A30
 by_cases c4 : t556 = 0
 ·rw [if_pos c4] at H
  have c4b0 : (t556 == 0) = true := beq_iff_eq.mpr c4
  have c4b1 : (t556 != 0) = false := bne_eq_false_iff_eq.mpr c4
  clear c4
  replace H := Option.bind_eq_some_iff.mp H
  obtain ⟨t557, A50, H⟩ := H
  replace H : (if t557 = 0 then (cone_View.l0 k l1 ([] : List (S48)) l0 (l0.length : Int) 0) else (some (([] : List (S48)), t557))) = some (r1, r2) := H
  have A5 := Aside0.mk A50
  clear A50
  by_cases c6 : t557 = 0
  ·rw [if_pos c6] at H
   have c6b0 : (t557 == 0) = true := beq_iff_eq.mpr c6
   have c6b1 : (t557 != 0) = false := bne_eq_false_iff_eq.mpr c6
   clear c6
   have H' := Aside0.mk H
   clear H
   go_enter Tryd.func28, Tryd.ntmps28
   go_wp2_with (first | ((with_reducible refine gate_callee (f := 41) rfl ?_); refine goesL_ (some 12) rfl rfl Tryd.func41 (by kernel_rfl) rfl #[.slice A0 l0.length c0] rfl (by (try simp only [List.map_toArray, List.map_cons, List.map_nil]); first | done | rfl | (simp only [List.length_drop, List.length_take]; rfl)) ?_; (with_reducible refine (snap_Valid.calls k _ _ l0 t556 _ ?side1 ?side2 A3.out).mono ?_); (case side1 => repeat (first | exact HR0.out | (with_reducible refine Kd.C_alloc ?_ _) | (with_reducible refine Kd.C_drewN ?_ _) | (with_reducible refine Kd.C_drew ?_))); (case side2 => exact HC0.out); rintro e w7 ⟨rfl, hb⟩; refine ⟨_, rfl, ?_⟩; have n0_ := Aside0.mk (below_step (by repeat (first | (with_reducible first | exact HB.out | apply below_alloc | apply pw_below_drewN | apply below_drew1) | exact HB.out)) hb); clear HB; have HB := n0_; clear n0_; (try clear hb); (try clear hb2); (try clear hk); (try clear hi)) | ((with_reducible refine gate_callee (f := 32) rfl ?_); refine goesL_ (some 17) rfl rfl Tryd.func32 (by kernel_rfl) rfl #[.slice A1 l1.length c1] rfl (by (try simp only [List.map_toArray, List.map_cons, List.map_nil]); first | done | rfl | (simp only [List.length_drop, List.length_take]; rfl)) ?_; (with_reducible refine (cone_Valid.calls k _ _ l1 t557 _ ?side1 ?side2 A5.out).mono ?_); (case side1 => repeat (first | exact (Kd.C_below HR1.out HB.out) | (with_reducible refine Kd.C_alloc ?_ _) | (with_reducible refine Kd.C_drewN ?_ _) | (with_reducible refine Kd.C_drew ?_))); (case side2 => exact HC1.out); rintro e w8 ⟨rfl, hb⟩; refine ⟨_, rfl, ?_⟩; have n0_ := Aside0.mk (below_step (by repeat (first | (with_reducible first | exact HB.out | apply below_alloc | apply pw_below_drewN | apply below_drew1) | exact HB.out)) hb); clear HB; have HB := n0_; clear n0_; (try clear hb); (try clear hb2); (try clear hk); (try clear hi)))
   go_loopg [8, 23] k (fun kq v8 v23 w' => ∃ (x8_1 : List (S48)) (x23_1 : Int), v23 = .int .i64 x23_1 ∧ Aside0 (cone_View.l0 kq l1 x8_1 l0 (l0.length : Int) x23_1 = some (r1, r2)) ∧ Aside0 (kq ≤ k) ∧ Aside0 (Kd.R k48 48 w' w.heap.size (fun _ => True) v8 x8_1) ∧ Aside0 (Below w.heap.size w w'))
   case atStart => exact ⟨(([] : List (S48))), (0), (by first | rfl | (simp; done) | (simp [*]; done)), H', ⟨Nat.le_refl _⟩, ⟨by first | exact Kd.R_nil _ _ _ _ _ | exact Kd.N_nil _ _ _ _ _ | exact Kd.V_nil _ _ _ _ _ | exact Kd.Q_nil _ _ _ _ _ | exact Kd.S_nil _ _ _ _ _⟩, ⟨by repeat (first | (with_reducible first | exact HB.out | apply below_alloc | apply pw_below_drewN | apply below_drew1) | exact HB.out)⟩⟩
   case round =>
    clear H'
    try clear c1
    try clear c2
    try clear p2
    try clear c3
    try clear c4
    try clear c4b0
    try clear c4b1
    try clear c6
    try clear c6b0
    try clear c6b1
    obtain ⟨x8_1, x23_1, rfl, HA, HK1, HO_8, HB⟩ := hrel
    cases gk with
    | zero => exact absurd HA.out (by simp [cone_View.l0])
    | succ k1 =>
     have H := HA.out
     clear HA
     simp only [cone_View.l0] at H
     by_cases c9 : x23_1 < (l0.length : Int)
     ·rw [if_pos c9] at H
      have c9b0 : decide (x23_1 < (l0.length : Int)) = true := decide_eq_true c9
      clear c9
      by_cases c10 : 0 ≤ x23_1
      ·rw [if_pos c10] at H
       have c10b0 : decide (0 ≤ x23_1) = true := decide_eq_true c10
       clear c10
       by_cases c11 : x23_1 < (l0.length : Int)
       ·rw [if_pos c11] at H
        have c11b0 : decide (x23_1 < (l0.length : Int)) = true := decide_eq_true c11
        clear c11
        replace H := Option.bind_eq_some_iff.mp H
        obtain ⟨t560, A120, H⟩ := H
        replace H : (if t560 = true then (if x8_1.length < 2932031007402 then (cone_View.l0 k1 l1 (x8_1 ++ [(⟨(rd_T48 l0 x23_1).f0, (rd_T48 l0 x23_1).f1, (rd_T48 l0 x23_1).f2, (rd_T48 l0 x23_1).f3⟩ : S48)]) l0 (l0.length : Int) (wrap64 (x23_1 + 1))) else (none)) else (cone_View.l0 k1 l1 x8_1 l0 (l0.length : Int) (wrap64 (x23_1 + 1)))) = some (r1, r2) := H
        have A12 := Aside0.mk A120
        clear A120
        by_cases c13 : t560 = true
        ·subst c13
         have H1 : (if x8_1.length < 2932031007402 then (cone_View.l0 k1 l1 (x8_1 ++ [(⟨(rd_T48 l0 x23_1).f0, (rd_T48 l0 x23_1).f1, (rd_T48 l0 x23_1).f2, (rd_T48 l0 x23_1).f3⟩ : S48)]) l0 (l0.length : Int) (wrap64 (x23_1 + 1))) else (none)) = some (r1, r2) := by rw [if_pos rfl] at H; exact H
         clear H
         have H := H1
         clear H1
         by_cases c14 : x8_1.length < 2932031007402
         ·rw [if_pos c14] at H
          have LMc14 := Aside0.mk c14
          clear c14
          obtain ⟨y561, hy561⟩ : ∃ y_ : List (S48), y_ = (x8_1 ++ [(⟨(rd_T48 l0 x23_1).f0, (rd_T48 l0 x23_1).f1, (rd_T48 l0 x23_1).f2, (rd_T48 l0 x23_1).f3⟩ : S48)]) := ⟨_, rfl⟩
          replace H : (cone_View.l0 k1 l1 y561 l0 (l0.length : Int) (wrap64 (x23_1 + 1))) = some (r1, r2) := by first | (rw [hy561]; with_reducible exact H) | (have H2_ := (Option.bind_some _ _).symm.trans H; rw [hy561]; with_reducible exact H2_) | (have H2_ := (Option.bind_some _ _).symm.trans H; with_reducible exact H2_) | with_reducible exact H | (rw [hy561]; exact H) | exact H
          have Ny561 := Aside0.mk hy561
          clear hy561
          have H' := Aside0.mk H
          clear H
          have p558 : 0 ≤ (x23_1 : Int) := of_decide_eq_true (by first | (with_reducible assumption) | assumption)
          have q558 : x23_1 < (l0.length : Int) := of_decide_eq_true (by first | (with_reducible assumption) | assumption)
          obtain ⟨ad558, e558, hx558_0, hx558_1, hx558_2, hx558_3⟩ := at_T48 HR0.out x23_1 p558 q558
          cases e558
          replace hx558_0 := (HB.out.cell (World.block_lt_of_cell? w _ hx558_0)).trans hx558_0
          replace hx558_1 := (HB.out.cell (World.block_lt_of_cell? w _ hx558_1)).trans hx558_1
          replace hx558_2 := (HB.out.cell (World.block_lt_of_cell? w _ hx558_2)).trans hx558_2
          replace hx558_3 := (HB.out.cell (World.block_lt_of_cell? w _ hx558_3)).trans hx558_3
          replace p558 := eq_true p558
          replace q558 := eq_true q558
          go_wp2_with (first | ((with_reducible refine gate_dst (N := 10) rfl ?_); refine box_event ?hg (N := 10) ?hd (cs := #[.string (⟨#[]⟩ : ByteArray), .string (⟨#[]⟩ : ByteArray), .int .i64 0, .int .i64 0]) (t := 48) ?hr ?_; (case hd => rfl); (case hg => rfl); (case hr => first | (go_simp; done) | (go_simp; rfl)); intro gb559 hg w15 hbox hb; have n0_ := Aside0.mk (Kd.R_below (Kd.R_elderB (by (with_reducible repeat (first | apply Kd.R_alloc | apply Kd.R_drewN | apply Kd.R_drew)); exact HO_8.out) gb559 (Nat.le_of_eq hg.symm)) hb); have n1_ := Aside0.mk (below_step (by repeat (first | (with_reducible first | exact HB.out | apply below_alloc | apply pw_below_drewN | apply below_drew1) | exact HB.out)) hb); have n2_ := Aside0.mk (hbox); have n3_ := Aside0.mk ((by rw [hg]; exact (below_size (by repeat (first | (with_reducible first | exact HB.out | apply below_alloc | apply pw_below_drewN | apply below_drew1) | exact HB.out))) : w.heap.size ≤ gb559)); have n4_ := Aside0.mk ((by rw [hg]; exact (below_size (by repeat (first | (with_reducible first | exact HB.out | apply below_alloc | apply pw_below_drewN | apply below_drew1) | exact HB.out))) : w.heap.size ≤ gb559)); clear HO_8; clear HB; have HO_8 := n0_; have HB := n1_; have BK559 := n2_; have GW559 := n3_; have GE559 := n4_; clear n0_ n1_ n2_ n3_ n4_; clear hb hbox hg; have hcz16_0 : w15.cell? ⟨gb559, 0, none⟩ = some (.string (⟨#[]⟩ : ByteArray)) := (blk_cell BK559.out 0).trans rfl; have hcz16_1 : w15.cell? ⟨gb559, 1, none⟩ = some (.string (⟨#[]⟩ : ByteArray)) := (blk_cell BK559.out 1).trans rfl; have hcz16_2 : w15.cell? ⟨gb559, 2, none⟩ = some (.int .i64 0) := (blk_cell BK559.out 2).trans rfl; have hcz16_3 : w15.cell? ⟨gb559, 3, none⟩ = some (.int .i64 0) := (blk_cell BK559.out 3).trans rfl; have hfz16_0 := blk_frozen BK559.out 0; have hfz16_1 := blk_frozen BK559.out 1; have hfz16_2 := blk_frozen BK559.out 2; have hfz16_3 := blk_frozen BK559.out 3) | ((with_reducible refine gate_callee (f := 34) rfl ?_); refine goesL_ (some 30) rfl rfl Tryd.func34 (by kernel_rfl) rfl #[.slice A1 l1.length c1, .string ((rd_T48 l0 x23_1).f0)] rfl (by (try simp only [List.map_toArray, List.map_cons, List.map_nil]); first | done | rfl | (simp only [List.length_drop, List.length_take]; rfl)) ?_; (with_reducible refine (cone_Shows.calls k1 _ _ l1 ((rd_T48 l0 x23_1).f0) true _ ?side1 ?side2 A12.out).mono ?_); (case side1 => exact Kd.C_below HR1.out (by repeat (first | (with_reducible first | exact HB.out | apply below_alloc | apply pw_below_drewN | apply below_drew1 | refine below_set ?_ GE559.out) | exact HB.out))); (case side2 => exact HC1.out); rintro e w17 ⟨rfl, hb⟩; refine ⟨_, rfl, ?_⟩; have n0_ := Aside0.mk (Kd.R_below (by (with_reducible repeat (first | apply Kd.R_alloc | apply Kd.R_drewN | apply Kd.R_drew)); exact (Kd.R_mono (Kd.R_far (p := ⟨gb559, 3, none⟩) (Kd.R_far (p := ⟨gb559, 2, none⟩) (Kd.R_far (p := ⟨gb559, 1, none⟩) (Kd.R_far (p := ⟨gb559, 0, none⟩) (Kd.R_mono HO_8.out (fun k_ hk => (⟨hk, hk.2⟩ : _ ∧ k_ ≠ gb559))) (fun _ hk => hk.2) (.string ((rd_T48 l0 x23_1).f0))) (fun _ hk => hk.2) (.string ((rd_T48 l0 x23_1).f1))) (fun _ hk => hk.2) (.int .i64 ((rd_T48 l0 x23_1).f2))) (fun _ hk => hk.2) (.int .i64 ((rd_T48 l0 x23_1).f3))) (fun _ h_ => h_.1))) hb); have n1_ := Aside0.mk (blk_below (g := gb559) (o := .cells #[.string ((rd_T48 l0 x23_1).f0), .string ((rd_T48 l0 x23_1).f1), .int .i64 ((rd_T48 l0 x23_1).f2), .int .i64 ((rd_T48 l0 x23_1).f3)] 48 (0, 0)) (by (with_reducible repeat (first | refine blk_drewN ?_ _ | refine blk_drew ?_ | refine blk_alloc ?_ _)); refine blk_put (cs := #[.string ((rd_T48 l0 x23_1).f0), .string ((rd_T48 l0 x23_1).f1), .int .i64 ((rd_T48 l0 x23_1).f2), .int .i64 0]) ?_ 3 _ rfl; (with_reducible repeat (first | refine blk_drewN ?_ _ | refine blk_drew ?_ | refine blk_alloc ?_ _)); refine blk_put (cs := #[.string ((rd_T48 l0 x23_1).f0), .string ((rd_T48 l0 x23_1).f1), .int .i64 0, .int .i64 0]) ?_ 2 _ rfl; (with_reducible repeat (first | refine blk_drewN ?_ _ | refine blk_drew ?_ | refine blk_alloc ?_ _)); refine blk_put (cs := #[.string ((rd_T48 l0 x23_1).f0), .string (⟨#[]⟩ : ByteArray), .int .i64 0, .int .i64 0]) ?_ 1 _ rfl; (with_reducible repeat (first | refine blk_drewN ?_ _ | refine blk_drew ?_ | refine blk_alloc ?_ _)); refine blk_put (cs := #[.string (⟨#[]⟩ : ByteArray), .string (⟨#[]⟩ : ByteArray), .int .i64 0, .int .i64 0]) ?_ 0 _ rfl; (with_reducible repeat (first | refine blk_drewN ?_ _ | refine blk_drew ?_ | refine blk_alloc ?_ _)); exact BK559.out) hb); have n2_ := Aside0.mk (below_step (by repeat (first | (with_reducible first | exact HB.out | apply below_alloc | apply pw_below_drewN | apply below_drew1 | refine below_set ?_ GE559.out) | exact HB.out)) hb); clear HO_8; clear BK559; clear HB; have HO_8 := n0_; have BK559 := n1_; have HB := n2_; clear n0_ n1_ n2_; (try clear hb); (try clear hb2); (try clear hk); (try clear hi); have hcz18_0 : w17.cell? ⟨gb559, 0, none⟩ = some (.string ((rd_T48 l0 x23_1).f0)) := (blk_cell BK559.out 0).trans rfl; have hcz18_1 : w17.cell? ⟨gb559, 1, none⟩ = some (.string ((rd_T48 l0 x23_1).f1)) := (blk_cell BK559.out 1).trans rfl; have hcz18_2 : w17.cell? ⟨gb559, 2, none⟩ = some (.int .i64 ((rd_T48 l0 x23_1).f2)) := (blk_cell BK559.out 2).trans rfl; have hcz18_3 : w17.cell? ⟨gb559, 3, none⟩ = some (.int .i64 ((rd_T48 l0 x23_1).f3)) := (blk_cell BK559.out 3).trans rfl; have hfz18_0 := blk_frozen BK559.out 0; have hfz18_1 := blk_frozen BK559.out 1; have hfz18_2 := blk_frozen BK559.out 2; have hfz18_3 := blk_frozen BK559.out 3) | ((with_reducible refine gate_builtin (b := .append) (xs := #[.tmp 31, .tmp 33]) rfl ?_); at_builtin; refine Kd.R_append k48 (w0 := w) w.heap.size rfl (.tmp 31) (.tmp 33) 36 48 (.agg #[(.string ⟨#[]⟩), (.string ⟨#[]⟩), (.int .i64 0), (.int .i64 0)]) 48 rfl Tryd.underlying36 info48 rfl (by decide) (by omega) u8 x8_1 (⟨(rd_T48 l0 x23_1).f0, (rd_T48 l0 x23_1).f1, (rd_T48 l0 x23_1).f2, (rd_T48 l0 x23_1).f3⟩ : S48) [.string ((rd_T48 l0 x23_1).f0), .string ((rd_T48 l0 x23_1).f1), .int .i64 ((rd_T48 l0 x23_1).f2), .int .i64 ((rd_T48 l0 x23_1).f3)] (fun k_ => k_ ≠ gb559) (fun _ => False) rfl rfl ?aP (fun _ hk => hk.elim) ?aF ?aO ?aB ?aS ?aL ?_; (case aP => exact k48_mkM _ _ _ (⟨(rd_T48 l0 x23_1).f0, (rd_T48 l0 x23_1).f1, (rd_T48 l0 x23_1).f2, (rd_T48 l0 x23_1).f3⟩ : S48)); (case aB => exact (by repeat (first | (with_reducible first | exact HB.out | apply below_alloc | apply pw_below_drewN | apply below_drew1 | refine below_set ?_ GE559.out) | exact HB.out))); (case aF => exact (fun k_ hk => Kd.freshB (g := gb559) (o := .cells #[.string ((rd_T48 l0 x23_1).f0), .string ((rd_T48 l0 x23_1).f1), .int .i64 ((rd_T48 l0 x23_1).f2), .int .i64 ((rd_T48 l0 x23_1).f3)] 48 (0, 0)) (by (with_reducible repeat (first | refine blk_drewN ?_ _ | refine blk_drew ?_ | refine blk_alloc ?_ _)); exact BK559.out) k_ hk)); (case aO => exact (by (with_reducible repeat (first | apply Kd.R_alloc | apply Kd.R_drewN | apply Kd.R_drew)); exact Kd.R_mono HO_8.out (fun _ hk => hk.2))); (case aS => exact (below_size (by repeat (first | (with_reducible first | exact HB.out | apply below_alloc | apply pw_below_drewN | apply below_drew1 | refine below_set ?_ GE559.out) | exact HB.out)))); (case aL => have := LMc14.out; omega); intro v562 w19 ho hb hg hat; rw [← Ny561.out] at ho; have n0_ := Aside0.mk (blk_grown (g := gb559) (o := .cells #[.string ((rd_T48 l0 x23_1).f0), .string ((rd_T48 l0 x23_1).f1), .int .i64 ((rd_T48 l0 x23_1).f2), .int .i64 ((rd_T48 l0 x23_1).f3)] 48 (0, 0)) (by (with_reducible repeat (first | refine blk_drewN ?_ _ | refine blk_drew ?_ | refine blk_alloc ?_ _)); exact BK559.out) hg (Kd.R_away HO_8.out (fun _ hk => hk.2))); have n1_ := Aside0.mk (hb); have n2_ := Aside0.mk (ho); clear BK559; clear HB; clear HO_8; have BK559 := n0_; have HB := n1_; have HO563 := n2_; clear n0_ n1_ n2_; clear ho hb hg hat))
          go_roundg k1
          case measure => have := HK1.out; omega
          case rel => exact ⟨(y561), (wrap64 (x23_1 + 1)), (by first | rfl | (simp; done) | (simp [*]; done)), H', ⟨by have := HK1.out; omega⟩, ⟨by (with_reducible repeat (first | apply Kd.R_alloc | apply Kd.R_drewN | apply Kd.R_drew)); exact Kd.R_mono HO563.out (fun _ hk => trivial)⟩, ⟨by repeat (first | (with_reducible first | exact HB.out | apply below_alloc | apply pw_below_drewN | apply below_drew1 | refine below_set ?_ GE559.out) | exact HB.out)⟩⟩
         ·rw [if_neg c14] at H
          exact absurd H (by simp)
        ·replace c13 := Bool.eq_false_iff.mpr c13
         subst c13
         have H1 : (cone_View.l0 k1 l1 x8_1 l0 (l0.length : Int) (wrap64 (x23_1 + 1))) = some (r1, r2) := by rw [if_neg (show ¬ (false = true) by decide)] at H; exact H
         clear H
         have H := H1
         clear H1
         have H' := Aside0.mk H
         clear H
         have p558 : 0 ≤ (x23_1 : Int) := of_decide_eq_true (by first | (with_reducible assumption) | assumption)
         have q558 : x23_1 < (l0.length : Int) := of_decide_eq_true (by first | (with_reducible assumption) | assumption)
         obtain ⟨ad558, e558, hx558_0, hx558_1, hx558_2, hx558_3⟩ := at_T48 HR0.out x23_1 p558 q558
         cases e558
         replace hx558_0 := (HB.out.cell (World.block_lt_of_cell? w _ hx558_0)).trans hx558_0
         replace hx558_1 := (HB.out.cell (World.block_lt_of_cell? w _ hx558_1)).trans hx558_1
         replace hx558_2 := (HB.out.cell (World.block_lt_of_cell? w _ hx558_2)).trans hx558_2
         replace hx558_3 := (HB.out.cell (World.block_lt_of_cell? w _ hx558_3)).trans hx558_3
         replace p558 := eq_true p558
         replace q558 := eq_true q558
         go_wp2_with (first | ((with_reducible refine gate_dst (N := 10) rfl ?_); refine box_event ?hg (N := 10) ?hd (cs := #[.string (⟨#[]⟩ : ByteArray), .string (⟨#[]⟩ : ByteArray), .int .i64 0, .int .i64 0]) (t := 48) ?hr ?_; (case hd => rfl); (case hg => rfl); (case hr => first | (go_simp; done) | (go_simp; rfl)); intro gb559 hg w20 hbox hb; have n0_ := Aside0.mk (Kd.R_below (Kd.R_elderB (by (with_reducible repeat (first | apply Kd.R_alloc | apply Kd.R_drewN | apply Kd.R_drew)); exact HO_8.out) gb559 (Nat.le_of_eq hg.symm)) hb); have n1_ := Aside0.mk (below_step (by repeat (first | (with_reducible first | exact HB.out | apply below_alloc | apply pw_below_drewN | apply below_drew1) | exact HB.out)) hb); have n2_ := Aside0.mk (hbox); have n3_ := Aside0.mk ((by rw [hg]; exact (below_size (by repeat (first | (with_reducible first | exact HB.out | apply below_alloc | apply pw_below_drewN | apply below_drew1) | exact HB.out))) : w.heap.size ≤ gb559)); have n4_ := Aside0.mk ((by rw [hg]; exact (below_size (by repeat (first | (with_reducible first | exact HB.out | apply below_alloc | apply pw_below_drewN | apply below_drew1) | exact HB.out))) : w.heap.size ≤ gb559)); clear HO_8; clear HB; have HO_8 := n0_; have HB := n1_; have BK559 := n2_; have GW559 := n3_; have GE559 := n4_; clear n0_ n1_ n2_ n3_ n4_; clear hb hbox hg; have hcz21_0 : w20.cell? ⟨gb559, 0, none⟩ = some (.string (⟨#[]⟩ : ByteArray)) := (blk_cell BK559.out 0).trans rfl; have hcz21_1 : w20.cell? ⟨gb559, 1, none⟩ = some (.string (⟨#[]⟩ : ByteArray)) := (blk_cell BK559.out 1).trans rfl; have hcz21_2 : w20.cell? ⟨gb559, 2, none⟩ = some (.int .i64 0) := (blk_cell BK559.out 2).trans rfl; have hcz21_3 : w20.cell? ⟨gb559, 3, none⟩ = some (.int .i64 0) := (blk_cell BK559.out 3).trans rfl; have hfz21_0 := blk_frozen BK559.out 0; have hfz21_1 := blk_frozen BK559.out 1; have hfz21_2 := blk_frozen BK559.out 2; have hfz21_3 := blk_frozen BK559.out 3) | ((with_reducible refine gate_callee (f := 34) rfl ?_); refine goesL_ (some 30) rfl rfl Tryd.func34 (by kernel_rfl) rfl #[.slice A1 l1.length c1, .string ((rd_T48 l0 x23_1).f0)] rfl (by (try simp only [List.map_toArray, List.map_cons, List.map_nil]); first | done | rfl | (simp only [List.length_drop, List.length_take]; rfl)) ?_; (with_reducible refine (cone_Shows.calls k1 _ _ l1 ((rd_T48 l0 x23_1).f0) false _ ?side1 ?side2 A12.out).mono ?_); (case side1 => exact Kd.C_below HR1.out (by repeat (first | (with_reducible first | exact HB.out | apply below_alloc | apply pw_below_drewN | apply below_drew1 | refine below_set ?_ GE559.out) | exact HB.out))); (case side2 => exact HC1.out); rintro e w22 ⟨rfl, hb⟩; refine ⟨_, rfl, ?_⟩; have n0_ := Aside0.mk (Kd.R_below (by (with_reducible repeat (first | apply Kd.R_alloc | apply Kd.R_drewN | apply Kd.R_drew)); exact (Kd.R_mono (Kd.R_far (p := ⟨gb559, 3, none⟩) (Kd.R_far (p := ⟨gb559, 2, none⟩) (Kd.R_far (p := ⟨gb559, 1, none⟩) (Kd.R_far (p := ⟨gb559, 0, none⟩) (Kd.R_mono HO_8.out (fun k_ hk => (⟨hk, hk.2⟩ : _ ∧ k_ ≠ gb559))) (fun _ hk => hk.2) (.string ((rd_T48 l0 x23_1).f0))) (fun _ hk => hk.2) (.string ((rd_T48 l0 x23_1).f1))) (fun _ hk => hk.2) (.int .i64 ((rd_T48 l0 x23_1).f2))) (fun _ hk => hk.2) (.int .i64 ((rd_T48 l0 x23_1).f3))) (fun _ h_ => h_.1))) hb); have n1_ := Aside0.mk (blk_below (g := gb559) (o := .cells #[.string ((rd_T48 l0 x23_1).f0), .string ((rd_T48 l0 x23_1).f1), .int .i64 ((rd_T48 l0 x23_1).f2), .int .i64 ((rd_T48 l0 x23_1).f3)] 48 (0, 0)) (by (with_reducible repeat (first | refine blk_drewN ?_ _ | refine blk_drew ?_ | refine blk_alloc ?_ _)); refine blk_put (cs := #[.string ((rd_T48 l0 x23_1).f0), .string ((rd_T48 l0 x23_1).f1), .int .i64 ((rd_T48 l0 x23_1).f2), .int .i64 0]) ?_ 3 _ rfl; (with_reducible repeat (first | refine blk_drewN ?_ _ | refine blk_drew ?_ | refine blk_alloc ?_ _)); refine blk_put (cs := #[.string ((rd_T48 l0 x23_1).f0), .string ((rd_T48 l0 x23_1).f1), .int .i64 0, .int .i64 0]) ?_ 2 _ rfl; (with_reducible repeat (first | refine blk_drewN ?_ _ | refine blk_drew ?_ | refine blk_alloc ?_ _)); refine blk_put (cs := #[.string ((rd_T48 l0 x23_1).f0), .string (⟨#[]⟩ : ByteArray), .int .i64 0, .int .i64 0]) ?_ 1 _ rfl; (with_reducible repeat (first | refine blk_drewN ?_ _ | refine blk_drew ?_ | refine blk_alloc ?_ _)); refine blk_put (cs := #[.string (⟨#[]⟩ : ByteArray), .string (⟨#[]⟩ : ByteArray), .int .i64 0, .int .i64 0]) ?_ 0 _ rfl; (with_reducible repeat (first | refine blk_drewN ?_ _ | refine blk_drew ?_ | refine blk_alloc ?_ _)); exact BK559.out) hb); have n2_ := Aside0.mk (below_step (by repeat (first | (with_reducible first | exact HB.out | apply below_alloc | apply pw_below_drewN | apply below_drew1 | refine below_set ?_ GE559.out) | exact HB.out)) hb); clear HO_8; clear BK559; clear HB; have HO_8 := n0_; have BK559 := n1_; have HB := n2_; clear n0_ n1_ n2_; (try clear hb); (try clear hb2); (try clear hk); (try clear hi)))
         go_roundg k1
         case measure => have := HK1.out; omega
         case rel => exact ⟨(x8_1), (wrap64 (x23_1 + 1)), (by first | rfl | (simp; done) | (simp [*]; done)), H', ⟨by have := HK1.out; omega⟩, ⟨by (with_reducible repeat (first | apply Kd.R_alloc | apply Kd.R_drewN | apply Kd.R_drew)); exact Kd.R_mono HO_8.out (fun _ hk => trivial)⟩, ⟨by repeat (first | (with_reducible first | exact HB.out | apply below_alloc | apply pw_below_drewN | apply below_drew1 | refine below_set ?_ GE559.out) | exact HB.out)⟩⟩
       ·rw [if_neg c11] at H
        exact absurd H (by simp)
      ·rw [if_neg c10] at H
       exact absurd H (by simp)
     ·rw [if_neg c9] at H
      have c9b0 : decide (x23_1 < (l0.length : Int)) = false := decide_eq_false c9
      clear c9
      simp only [Option.some.injEq, Prod.mk.injEq] at H
      obtain ⟨rfl, rfl⟩ := H
      go_wp2
      go_ret2
      exact ⟨_, by first | rfl | (simp [errW_none, errW_some] <;> rfl) | (simp [*, errW_none, errW_some] <;> rfl), by (with_reducible repeat (first | apply Kd.R_alloc | apply Kd.R_drewN | apply Kd.R_drew)); exact HO_8.out, by repeat (first | (with_reducible first | exact HB.out | apply below_alloc | apply pw_below_drewN | apply below_drew1) | exact HB.out)⟩
  ·rw [if_neg c6] at H
   have c6b0 : (t557 == 0) = false := beq_eq_false_iff_ne.mpr c6
   have c6b1 : (t557 != 0) = true := bne_iff_ne.mpr c6
   simp only [Option.some.injEq, Prod.mk.injEq] at H
   obtain ⟨rfl, rfl⟩ := H
   go_enter Tryd.func28, Tryd.ntmps28
   go_wp2_with (first | ((with_reducible refine gate_callee (f := 41) rfl ?_); refine goesL_ (some 12) rfl rfl Tryd.func41 (by kernel_rfl) rfl #[.slice A0 l0.length c0] rfl (by (try simp only [List.map_toArray, List.map_cons, List.map_nil]); first | done | rfl | (simp only [List.length_drop, List.length_take]; rfl)) ?_; (with_reducible refine (snap_Valid.calls k _ _ l0 t556 _ ?side1 ?side2 A3.out).mono ?_); (case side1 => repeat (first | exact HR0.out | (with_reducible refine Kd.C_alloc ?_ _) | (with_reducible refine Kd.C_drewN ?_ _) | (with_reducible refine Kd.C_drew ?_))); (case side2 => exact HC0.out); rintro e w23 ⟨rfl, hb⟩; refine ⟨_, rfl, ?_⟩; have n0_ := Aside0.mk (below_step (by repeat (first | (with_reducible first | exact HB.out | apply below_alloc | apply pw_below_drewN | apply below_drew1) | exact HB.out)) hb); clear HB; have HB := n0_; clear n0_; (try clear hb); (try clear hb2); (try clear hk); (try clear hi)) | ((with_reducible refine gate_callee (f := 32) rfl ?_); refine goesL_ (some 17) rfl rfl Tryd.func32 (by kernel_rfl) rfl #[.slice A1 l1.length c1] rfl (by (try simp only [List.map_toArray, List.map_cons, List.map_nil]); first | done | rfl | (simp only [List.length_drop, List.length_take]; rfl)) ?_; (with_reducible refine (cone_Valid.calls k _ _ l1 t557 _ ?side1 ?side2 A5.out).mono ?_); (case side1 => repeat (first | exact (Kd.C_below HR1.out HB.out) | (with_reducible refine Kd.C_alloc ?_ _) | (with_reducible refine Kd.C_drewN ?_ _) | (with_reducible refine Kd.C_drew ?_))); (case side2 => exact HC1.out); rintro e w24 ⟨rfl, hb⟩; refine ⟨_, rfl, ?_⟩; have n0_ := Aside0.mk (below_step (by repeat (first | (with_reducible first | exact HB.out | apply below_alloc | apply pw_below_drewN | apply below_drew1) | exact HB.out)) hb); clear HB; have HB := n0_; clear n0_; (try clear hb); (try clear hb2); (try clear hk); (try clear hi)))
   go_ret2
   exact ⟨_, by first | rfl | (simp [errW_none, errW_some] <;> rfl) | (simp [*, errW_none, errW_some] <;> rfl), by first | exact Kd.R_nil _ _ _ _ _ | exact Kd.N_nil _ _ _ _ _ | exact Kd.V_nil _ _ _ _ _ | exact Kd.Q_nil _ _ _ _ _ | exact Kd.S_nil _ _ _ _ _, by repeat (first | (with_reducible first | exact HB.out | apply below_alloc | apply pw_below_drewN | apply below_drew1) | exact HB.out)⟩
 ·rw [if_neg c4] at H
  have c4b0 : (t556 == 0) = false := beq_eq_false_iff_ne.mpr c4
  have c4b1 : (t556 != 0) = true := bne_iff_ne.mpr c4
  simp only [Option.some.injEq, Prod.mk.injEq] at H
  obtain ⟨rfl, rfl⟩ := H
  go_enter Tryd.func28, Tryd.ntmps28
  go_wp2_with (first | ((with_reducible refine gate_callee (f := 41) rfl ?_); refine goesL_ (some 12) rfl rfl Tryd.func41 (by kernel_rfl) rfl #[.slice A0 l0.length c0] rfl (by (try simp only [List.map_toArray, List.map_cons, List.map_nil]); first | done | rfl | (simp only [List.length_drop, List.length_take]; rfl)) ?_; (with_reducible refine (snap_Valid.calls k _ _ l0 t556 _ ?side1 ?side2 A3.out).mono ?_); (case side1 => repeat (first | exact HR0.out | (with_reducible refine Kd.C_alloc ?_ _) | (with_reducible refine Kd.C_drewN ?_ _) | (with_reducible refine Kd.C_drew ?_))); (case side2 => exact HC0.out); rintro e w25 ⟨rfl, hb⟩; refine ⟨_, rfl, ?_⟩; have n0_ := Aside0.mk (below_step (by repeat (first | (with_reducible first | exact HB.out | apply below_alloc | apply pw_below_drewN | apply below_drew1) | exact HB.out)) hb); clear HB; have HB := n0_; clear n0_; (try clear hb); (try clear hb2); (try clear hk); (try clear hi)))
  go_ret2
  exact ⟨_, by first | rfl | (simp [errW_none, errW_some] <;> rfl) | (simp [*, errW_none, errW_some] <;> rfl), by first | exact Kd.R_nil _ _ _ _ _ | exact Kd.N_nil _ _ _ _ _ | exact Kd.V_nil _ _ _ _ _ | exact Kd.Q_nil _ _ _ _ _ | exact Kd.S_nil _ _ _ _ _, by repeat (first | (with_reducible first | exact HB.out | apply below_alloc | apply pw_below_drewN | apply below_drew1) | exact HB.out)⟩
end Go.Proofs.YtdfkaclflmgkeaaDoor.PAll
namespace Go.Proofs.YtdfkaclflmgkeaaDoor.PAll
open Go.RowKit Go.Proofs.YtdfkaclflmgkeaaDoorW.PrintWords Go.Proofs.YtdfkaclflmgkeaaDoorW.PrintLast Go.Proofs.YtdfkaclflmgkeaaDoorW.PrintMore
open Go.Proofs.YtdfkaclflmgkeaaDoor.Sp
theorem C_of_block {α : Type} {d : Kd α} {w : World} {g : Nat} {cs : Array Value} {t : TypeId} {fr : Nat × Nat} {xs : List α} (h : w.heap[g]? = some (.cells cs t fr)) (hr : Reps (d.K w) d.sz xs cs.toList) (hn : xs.length ≤ 9223372036854775807) : d.C w (some ⟨g, 0, none⟩) xs.length xs := by
 refine ⟨rfl, hn, fun _ => ⟨_, rfl, fun j x hj => ⟨_, d.K_len (hr.2 j x hj), hr.2 j x hj, fun q u hq => ?_⟩⟩⟩
 rw [add_plain]
 rw [List.getElem?_take] at hq
 split at hq
 ·rw [List.getElem?_drop, Array.getElem?_toList] at hq
  simp [World.cell?, h, hq]
 ·cases hq
theorem C_strs {w : World} {g : Nat} {t : TypeId} {fr : Nat × Nat} {xs : List ByteArray} {cs : Array Value} (h : w.heap[g]? = some (.cells cs t fr)) (hc : cs.toList = xs.map Value.string) (hn : xs.length ≤ 9223372036854775807) : Kd.C Kd.string w (some ⟨g, 0, none⟩) xs.length xs :=
 C_of_block h (by rw [hc]; exact reps_strs (M := Kd.string.K w) (fun _ => rfl) xs) hn
theorem heap_new' (w : World) (o : Obj) (n : Nat) (h : w.heap.size = n) : (w.alloc o).heap[n]? = some o := h ▸ heap_alloc_new w o
def aFiles : List S48 := [⟨⟨#[97]⟩, ⟨#[]⟩, 0, 0⟩, ⟨⟨#[98, 47, 99]⟩, ⟨#[]⟩, 0, 0⟩, ⟨⟨#[98, 47, 100, 47, 101]⟩, ⟨#[]⟩, 0, 0⟩, ⟨⟨#[106, 47, 107]⟩, ⟨#[]⟩, 0, 0⟩]
def aView : List S48 := [⟨⟨#[97]⟩, ⟨#[]⟩, 0, 0⟩, ⟨⟨#[98, 47, 99]⟩, ⟨#[]⟩, 0, 0⟩, ⟨⟨#[98, 47, 100, 47, 101]⟩, ⟨#[]⟩, 0, 0⟩]
theorem a_view : cone_View.f 40 aFiles [⟨#[98, 47, 100]⟩] = some (aView, 0) := by kernel_rfl
theorem a_cover : cone_Cover.f 40 [⟨#[98, 47, 100, 47, 101]⟩, ⟨#[106, 47, 107]⟩, ⟨#[97]⟩] = some [⟨#[98, 47, 100]⟩, ⟨#[106]⟩] := by kernel_rfl
theorem a_texts : copselaw15_texts.f 40 [⟨#[98, 47, 100]⟩, ⟨#[106]⟩] [⟨#[98, 47, 100]⟩, ⟨#[106]⟩] = some true := by kernel_rfl
theorem a_shows : cone_Shows.f 40 [] ⟨#[97]⟩ = some true := by kernel_rfl
theorem a_valid : cone_Valid.f 40 [⟨#[98]⟩, ⟨#[97]⟩] = some 13 := by kernel_rfl
set_option maxRecDepth 100000 in
set_option maxHeartbeats 4000000 in
theorem aliveCW (w : World) : Calls Tryd.prog 36 #[] w fun e w' => e = .returned (.bool true) ∧ Below w.heap.size w w' := by
 have H0 := Aside0.mk (Below.refl w.heap.size w)
 go_enter Tryd.func36, Tryd.ntmps36
 go_wp2_with fail
 refine (cone_View.calls 40 _ _ aFiles _ _ [⟨#[98, 47, 100]⟩] aView 0 _ ?r0 (Nat.le_refl _) ?r1 (Nat.le_refl _) a_view).mono ?_
 case r0 => exact Kd.C_alloc (C_of_block (xs := aFiles) (heap_alloc_new w _) (((((Reps.none _ _).snoc (k48_mk _ ⟨⟨#[97]⟩, ⟨#[]⟩, 0, 0⟩) rfl).snoc (k48_mk _ ⟨⟨#[98, 47, 99]⟩, ⟨#[]⟩, 0, 0⟩) rfl).snoc (k48_mk _ ⟨⟨#[98, 47, 100, 47, 101]⟩, ⟨#[]⟩, 0, 0⟩) rfl).snoc (k48_mk _ ⟨⟨#[106, 47, 107]⟩, ⟨#[]⟩, 0, 0⟩) rfl) (by decide)) _
 case r1 => exact C_strs (xs := [⟨#[98, 47, 100]⟩]) (heap_new' _ _ _ (by simp)) rfl (by decide)
 rintro e w1 ⟨v1, rfl, ho1, hb1⟩
 have H1 := Aside0.mk (below_step (below_alloc (below_alloc H0.out _) _) hb1)
 obtain ⟨A1, n1, hv, _, r1⟩ := Kd.R_reads ho1
 rw [show aView.length = 3 from rfl] at hv
 subst hv
 clear ho1 hb1 H0
 obtain ⟨ad, hA, hx0, _, _, _⟩ := at_T48 r1 (2 : Int) (by decide) (by decide)
 subst hA
 have hx : w1.cell? ⟨ad.block, ad.off + 8, none⟩ = some (.string ⟨#[98, 47, 100, 47, 101]⟩) := by
  have e : ad.add 8 = ⟨ad.block, ad.off + 8, none⟩ := by unfold Addr.add; rfl
  rw [← e]; exact hx0
 clear hx0 r1
 go_wp2_with fail
 refine (copselaw15_num.calls 0 0 _ rfl).mono ?_
 rintro e w2 ⟨rfl, ⟨⟨q2, rfl⟩⟩⟩
 replace H1 := Aside0.mk (pw_below_drewN H1.out q2)
 replace hx : (w1.drewN q2).cell? ⟨ad.block, ad.off + 8, none⟩ = some (.string ⟨#[98, 47, 100, 47, 101]⟩) := hx
 generalize w1.drewN q2 = w2 at H1 hx ⊢
 go_wp2_with fail
 refine (cone_Cover.calls 40 _ _ [⟨#[98, 47, 100, 47, 101]⟩, ⟨#[106, 47, 107]⟩, ⟨#[97]⟩] [⟨#[98, 47, 100]⟩, ⟨#[106]⟩] _ ?r2 (Nat.le_refl _) a_cover).mono ?_
 case r2 => exact C_strs (xs := [⟨#[98, 47, 100, 47, 101]⟩, ⟨#[106, 47, 107]⟩, ⟨#[97]⟩]) (heap_new' _ _ _ rfl) rfl (by decide)
 rintro e w3 ⟨v3, rfl, ho3, hb3⟩
 have H3 := Aside0.mk (below_step (below_alloc H1.out _) hb3)
 obtain ⟨A3, n3, hv, l3, r3⟩ := Kd.R_reads ho3
 have R3 := Aside0.mk r3
 subst hv
 clear ho3 hb3 r3 hx H1
 go_wp2_with fail
 refine (copselaw15_texts.calls 40 _ _ [⟨#[98, 47, 100]⟩, ⟨#[106]⟩] _ _ [⟨#[98, 47, 100]⟩, ⟨#[106]⟩] true _ (Kd.C_alloc R3.out _) l3 (C_strs (xs := [⟨#[98, 47, 100]⟩, ⟨#[106]⟩]) (heap_new' _ _ _ rfl) rfl (by decide)) (Nat.le_refl _) a_texts).mono ?_
 rintro e w4 ⟨rfl, ⟨⟨q4, rfl⟩⟩⟩
 clear R3
 go_wp2_with fail
 refine (cone_Shows.calls 40 none 0 [] ⟨#[97]⟩ true _ ⟨rfl, by decide, fun h => absurd h (by decide)⟩ (Nat.le_refl _) a_shows).mono ?_
 rintro e w5 ⟨rfl, hb5⟩
 have H5 := Aside0.mk (below_step (pw_below_drewN (below_alloc H3.out _) q4) hb5)
 clear hb5 H3
 go_wp2_with fail
 refine (cone_Valid.calls 40 _ _ [⟨#[98]⟩, ⟨#[97]⟩] 13 _ (C_strs (xs := [⟨#[98]⟩, ⟨#[97]⟩]) (heap_new' _ _ _ rfl) rfl (by decide)) (Nat.le_refl _) a_valid).mono ?_
 rintro e w6 ⟨rfl, hb6⟩
 have H6 := Aside0.mk (below_step (below_alloc H5.out _) hb6)
 clear hb6 H5
 go_wp2_with fail
 refine (copselaw15_num.calls 13 13 _ rfl).mono ?_
 rintro e w7 ⟨rfl, ⟨⟨q7, rfl⟩⟩⟩
 replace H6 := Aside0.mk (pw_below_drewN H6.out q7)
 generalize w6.drewN q7 = w7 at H6 ⊢
 go_wp2
 go_ret
 exact ⟨rfl, H6.out⟩
end Go.Proofs.YtdfkaclflmgkeaaDoor.PAll
namespace Go.Proofs.YtdfkaclflmgkeaaDoor.PAll
open Go.RowKit Go.Proofs.YtdfkaclflmgkeaaDoorW.PrintWords Go.Proofs.YtdfkaclflmgkeaaDoorW.PrintLast Go.Proofs.YtdfkaclflmgkeaaDoorW.PrintMore
attribute [local go_sem] max2_int min2_int max_two min_two max_three min_three max_four min_four
set_option linter.unusedVariables false
set_option linter.unusedSimpArgs false
mutual
def copselaw15_lent.l0 : Nat → List ByteArray → List ByteArray → Int → Option (List ByteArray)
 | 0, _, _, _ => none
 | k + 1, x0, x3, x4 => if x4 < (x0.length : Int) then (if 0 ≤ x4 then (if x4 < (x3.length : Int) then (copselaw15_lent.l0 k x0 (x3.set (x4 : Int).toNat (rdOf ByteArray.empty x0 x4)) (wrap64 (x4 + 1))) else (none)) else (none)) else (copselaw15_lent.l1 k x3 (x0.length : Int))
def copselaw15_lent.l1 : Nat → List ByteArray → Int → Option (List ByteArray)
 | 0, _, _ => none
 | k + 1, x3, x5 => if x5 < (x3.length : Int) then (if 0 ≤ x5 then (copselaw15_lent.l1 k (x3.set (x5 : Int).toNat (⟨#[63]⟩ : ByteArray)) (wrap64 (x5 + 1))) else (none)) else (some x3)
end
def copselaw15_lent.f (k : Nat) (l0 : List ByteArray) : Option (List ByteArray) := if 0 ≤ (wrap64 ((l0.length : Int) + 30)) then (if (wrap64 ((l0.length : Int) + 30) : Int).toNat ≤ 17592186044416 then (copselaw15_lent.l0 k l0 (List.replicate (wrap64 ((l0.length : Int) + 30) : Int).toNat (⟨#[]⟩ : ByteArray)) 0) else (none)) else (none)
set_option maxHeartbeats 8000000 in
set_option maxRecDepth 100000 in
theorem copselaw15_lent.calls (k : Nat) (A0 : Option Addr) (c0 : Nat) (l0 : List ByteArray) (r : List ByteArray) (w : World) (hr0 : Kd.C Kd.string w A0 l0.length l0) (hc0 : l0.length ≤ c0) (h : copselaw15_lent.f k l0 = some r) :
  Calls Tryd.prog 27 #[.slice A0 l0.length c0] w fun e w' => ∃ v0_ : Value, e = .returned (v0_) ∧ Kd.R Kd.string 9 w' w.heap.size (fun _ => True) v0_ r ∧ Below w.heap.size w w' := by
 have HR0 := Aside0.mk hr0
 have HC0 := Aside0.mk hc0
 clear hr0 hc0
 have HB := Aside0.mk (Below.refl w.heap.size w)
 have H : (if 0 ≤ (wrap64 ((l0.length : Int) + 30)) then (if (wrap64 ((l0.length : Int) + 30) : Int).toNat ≤ 17592186044416 then (copselaw15_lent.l0 k l0 (List.replicate (wrap64 ((l0.length : Int) + 30) : Int).toNat (⟨#[]⟩ : ByteArray)) 0) else (none)) else (none)) = some r := h
 clear h
 obtain ⟨ji2, hji2⟩ : ∃ j_ : Int, (wrap64 ((l0.length : Int) + 30)) = j_ := ⟨_, rfl⟩
 replace H : (if 0 ≤ (ji2) then (if (ji2 : Int).toNat ≤ 17592186044416 then (copselaw15_lent.l0 k l0 (List.replicate (ji2 : Int).toNat (⟨#[]⟩ : ByteArray)) 0) else (none)) else (none)) = some r := by first | (rw [hji2] at H; exact H) | (simp only [hji2] at H ⊢; exact H)
 have hji2w : (IntKind.i64.wrap ((l0.length : Int) + 30)) = ji2 := (i64_w _).trans hji2
 by_cases c3 : 0 ≤ (ji2)
 ·rw [if_pos c3] at H
  have c3b0 := eq_true c3
  have c3b1 : decide (0 ≤ (ji2)) = true := decide_eq_true c3
  clear c3
  by_cases c4 : (ji2 : Int).toNat ≤ 17592186044416
  ·rw [if_pos c4] at H
   have c4b0 := eq_true c4
   have c4b1 : decide ((ji2 : Int).toNat ≤ 17592186044416) = true := decide_eq_true c4
   clear c4
   obtain ⟨y514, hy514⟩ : ∃ y_ : List ByteArray, y_ = (List.replicate (ji2 : Int).toNat (⟨#[]⟩ : ByteArray)) := ⟨_, rfl⟩
   replace H : (copselaw15_lent.l0 k l0 y514 0) = some r := by first | (rw [hy514]; with_reducible exact H) | (have H2_ := (Option.bind_some _ _).symm.trans H; rw [hy514]; with_reducible exact H2_) | (have H2_ := (Option.bind_some _ _).symm.trans H; with_reducible exact H2_) | with_reducible exact H | (rw [hy514]; exact H) | exact H
   have Ny514 := Aside0.mk hy514
   clear hy514
   have H' := Aside0.mk H
   clear H
   go_enter Tryd.func27, Tryd.ntmps27
   go_wp2_with (first | ((with_reducible refine gate_dst (N := 9) rfl ?_); refine Kd.R_make Kd.string _ 9 rfl (N := 9) rfl 22 _ _ rfl ji2 rfl rfl Tryd.underlying22 (.string ⟨#[]⟩) 16 info9 rfl (by decide) (by omega) (⟨#[]⟩ : ByteArray) (ok := fun _ => True) (okp := fun _ => True) rfl (fun _ hk => hk) trivial (of_decide_eq_true (by first | (with_reducible assumption) | assumption)) (Nat.le_trans (Nat.mul_le_mul_right _ (of_decide_eq_true (by first | (with_reducible assumption) | assumption) : ji2.toNat ≤ 17592186044416)) (by omega)) (Below.refl _ _) (Nat.le_refl _) ?_; intro v515 w5 ho6 hb hg_ hnew_; clear hg_ hnew_; (first | rw [← Ny514.out] at ho6 | (simp only [Int.reduceToNat] at ho6; rw [← Ny514.out] at ho6)); have n0_ := Aside0.mk (Kd.R_lower ho6 (below_size (by repeat (first | (with_reducible first | exact HB.out | apply below_alloc | apply pw_below_drewN | apply below_drew1) | exact HB.out)))); have n1_ := Aside0.mk (below_step (by repeat (first | (with_reducible first | exact HB.out | apply below_alloc | apply pw_below_drewN | apply below_drew1) | exact HB.out)) hb); clear HB; have HO516 := n0_; have HB := n1_; clear n0_ n1_; clear hb ho6))
   go_loopg [4] k (fun kq v4 w' => ∃ (x3_1 : List ByteArray) (x4_1 : Int), v4 = .int .i64 x4_1 ∧ Aside0 (copselaw15_lent.l0 kq l0 x3_1 x4_1 = some r) ∧ Aside0 (kq ≤ k) ∧ Aside0 (Kd.R Kd.string 9 w' w.heap.size (fun _ => True) v515 x3_1) ∧ Aside0 (Below w.heap.size w w'))
   case atStart => exact ⟨(y514), (0), (by first | rfl | (simp; done) | (simp [*]; done)), H', ⟨Nat.le_refl _⟩, ⟨by (with_reducible repeat (first | apply Kd.R_alloc | apply Kd.R_drewN | apply Kd.R_drew)); exact HO516.out⟩, ⟨by repeat (first | (with_reducible first | exact HB.out | apply below_alloc | apply pw_below_drewN | apply below_drew1) | exact HB.out)⟩⟩
   case round =>
    clear H'
    try clear c2
    try clear p2
    try clear c3
    try clear c3b0
    try clear c3b1
    try clear c4
    try clear c4b0
    try clear c4b1
    try clear p6
    obtain ⟨x3_1, x4_1, rfl, HA, HK1, HO_3, HB⟩ := hrel
    cases gk with
    | zero => exact absurd HA.out (by simp [copselaw15_lent.l0])
    | succ k1 =>
     have H := HA.out
     clear HA
     simp only [copselaw15_lent.l0] at H
     by_cases c7 : x4_1 < (l0.length : Int)
     ·rw [if_pos c7] at H
      have c7b0 : decide (x4_1 < (l0.length : Int)) = true := decide_eq_true c7
      clear c7
      by_cases c8 : 0 ≤ x4_1
      ·rw [if_pos c8] at H
       have c8b0 : decide (0 ≤ x4_1) = true := decide_eq_true c8
       clear c8
       by_cases c9 : x4_1 < (x3_1.length : Int)
       ·rw [if_pos c9] at H
        have c9b0 : decide (x4_1 < (x3_1.length : Int)) = true := decide_eq_true c9
        clear c9
        obtain ⟨y518, hy518⟩ : ∃ y_ : List ByteArray, y_ = (x3_1.set (x4_1 : Int).toNat (rdOf ByteArray.empty l0 x4_1)) := ⟨_, rfl⟩
        replace H : (copselaw15_lent.l0 k1 l0 y518 (wrap64 (x4_1 + 1))) = some r := by first | (rw [hy518]; with_reducible exact H) | (have H2_ := (Option.bind_some _ _).symm.trans H; rw [hy518]; with_reducible exact H2_) | (have H2_ := (Option.bind_some _ _).symm.trans H; with_reducible exact H2_) | with_reducible exact H | (rw [hy518]; exact H) | exact H
        have Ny518 := Aside0.mk hy518
        clear hy518
        have H' := Aside0.mk H
        clear H
        have p517 : 0 ≤ (x4_1 : Int) := of_decide_eq_true (by first | (with_reducible assumption) | assumption)
        have q517 : x4_1 < (l0.length : Int) := of_decide_eq_true (by first | (with_reducible assumption) | assumption)
        obtain ⟨ad517, e517, hx517_0⟩ := Kd.at_string HR0.out x4_1 p517 q517
        cases e517
        replace hx517_0 := (HB.out.cell (World.block_lt_of_cell? w _ hx517_0)).trans hx517_0
        replace p517 := eq_true p517
        replace q517 := eq_true q517
        have p10 : 0 ≤ (x4_1 : Int) := of_decide_eq_true (by first | (with_reducible assumption) | assumption)
        have q10 : (x4_1 : Int) < ((x3_1.length : Int) : Int) := of_decide_eq_true (by first | (with_reducible assumption) | assumption)
        obtain ⟨go10, co10, eo10, gb10, gl10, cl10, HG10⟩ := Kd.R_form HO_3.out (by omega)
        (first | cases eo10 | (injection eo10 with ea_ en_ ec_; (first | subst ea_ | (injection ea_ with ea_; subst ea_)); subst ec_; clear en_))
        have GB10 := Aside0.mk gb10
        have GG10 := Aside0.mk HG10
        clear gb10 gl10 HG10
        obtain ⟨hx10_0, hf10_0⟩ := Kd.R_celln (⟨#[]⟩ : ByteArray) HO_3.out (x4_1 : Int) p10 q10
        replace p10 := eq_true p10
        replace q10 := eq_true q10
        have HP11 := Kd.R_putg HO_3.out (x4_1 : Int) (rdOf ByteArray.empty l0 x4_1)
        go_wp2_with (first | ((with_reducible refine gate_store (t := 9) (p := 22) rfl ?_); refine store_event (t := 9) (p := 22) (v := ?vo_w12) (w1 := (wr.setCell ⟨go10, (x4_1 : Int).toNat, none⟩ (.string (rdOf ByteArray.empty l0 x4_1)))) ?hg ?ho ?hn ?hr ?_; (case ho => rfl); (case hg => rfl); (case hn => rfl); (case hr => first | (go_simp; done) | (go_simp; rfl)); intro w12 hw; have hg : wr.grownBy w12 (some go10) := (by rw [hw]; exact HP11.2); have hp_ : Kd.R Kd.string 9 w12 w.heap.size (fun _ => True) (.slice (some ⟨go10, 0, none⟩) x3_1.length co10) y518 := (by rw [hw, Ny518.out]; exact HP11.1); clear HP11; have n0_ := Aside0.mk (hp_); have n1_ := Aside0.mk ((by rw [hw]; exact below_set (HB.out) GB10.out : Below w.heap.size w w12)); clear HO_3; clear HB; have HO_3 := n0_; have HB := n1_; clear n0_ n1_; clear hg hw hp_))
        go_roundg k1
        case measure => have := HK1.out; omega
        case rel => exact ⟨(y518), (wrap64 (x4_1 + 1)), (by first | rfl | (simp; done) | (simp [*]; done)), H', ⟨by have := HK1.out; omega⟩, ⟨by (with_reducible repeat (first | apply Kd.R_alloc | apply Kd.R_drewN | apply Kd.R_drew)); exact HO_3.out⟩, ⟨by repeat (first | (with_reducible first | exact HB.out | apply below_alloc | apply pw_below_drewN | apply below_drew1) | exact HB.out)⟩⟩
       ·rw [if_neg c9] at H
        exact absurd H (by simp)
      ·rw [if_neg c8] at H
       exact absurd H (by simp)
     ·rw [if_neg c7] at H
      have c7b0 : decide (x4_1 < (l0.length : Int)) = false := decide_eq_false c7
      clear c7
      have H' := Aside0.mk H
      clear H
      go_wp2
      go_loopg [5] k1 (fun kq v5 w' => ∃ (x3_2 : List ByteArray) (x5_2 : Int), v5 = .int .i64 x5_2 ∧ Aside0 (copselaw15_lent.l1 kq x3_2 x5_2 = some r) ∧ Aside0 (kq ≤ k1) ∧ Aside0 (Kd.R Kd.string 9 w' w.heap.size (fun _ => True) v515 x3_2) ∧ Aside0 (Below w.heap.size w w'))
      case atStart => exact ⟨(x3_1), ((l0.length : Int)), (by first | rfl | (simp; done) | (simp [*]; done)), H', ⟨Nat.le_refl _⟩, ⟨by (with_reducible repeat (first | apply Kd.R_alloc | apply Kd.R_drewN | apply Kd.R_drew)); exact HO_3.out⟩, ⟨by repeat (first | (with_reducible first | exact HB.out | apply below_alloc | apply pw_below_drewN | apply below_drew1) | exact HB.out)⟩⟩
      case round =>
       clear H'
       try clear p1
       try clear q1
       try clear hx1
       try clear hf1
       try clear c2
       try clear p2
       try clear c3
       try clear c3b0
       try clear c3b1
       try clear c4
       try clear c4b0
       try clear c4b1
       try clear p5
       try clear q5
       try clear hx5
       try clear p6
       try clear c7
       try clear c7b0
       try clear c8
       try clear c8b0
       try clear c9
       try clear c9b0
       try clear p10
       try clear q10
       try clear hx10
       try clear hf10
       try clear hx10_0
       try clear hx517_0
       try clear p10
       try clear p2
       try clear p517
       try clear p6
       try clear q10
       try clear q517
       obtain ⟨x3_2, x5_2, rfl, HA, HK2, HO_3, HB⟩ := hrel
       cases gk with
       | zero => exact absurd HA.out (by simp [copselaw15_lent.l1])
       | succ k2 =>
        have H := HA.out
        clear HA
        simp only [copselaw15_lent.l1] at H
        by_cases c13 : x5_2 < (x3_2.length : Int)
        ·rw [if_pos c13] at H
         have c13b0 : decide (x5_2 < (x3_2.length : Int)) = true := decide_eq_true c13
         clear c13
         by_cases c14 : 0 ≤ x5_2
         ·rw [if_pos c14] at H
          have c14b0 : decide (0 ≤ x5_2) = true := decide_eq_true c14
          clear c14
          obtain ⟨y519, hy519⟩ : ∃ y_ : List ByteArray, y_ = (x3_2.set (x5_2 : Int).toNat (⟨#[63]⟩ : ByteArray)) := ⟨_, rfl⟩
          replace H : (copselaw15_lent.l1 k2 y519 (wrap64 (x5_2 + 1))) = some r := by first | (rw [hy519]; with_reducible exact H) | (have H2_ := (Option.bind_some _ _).symm.trans H; rw [hy519]; with_reducible exact H2_) | (have H2_ := (Option.bind_some _ _).symm.trans H; with_reducible exact H2_) | with_reducible exact H | (rw [hy519]; exact H) | exact H
          have Ny519 := Aside0.mk hy519
          clear hy519
          have H' := Aside0.mk H
          clear H
          obtain ⟨Ao16, co16, eo16⟩ := Kd.R_slice HO_3.out
          subst eo16
          have p15 : 0 ≤ (x5_2 : Int) := of_decide_eq_true (by first | (with_reducible assumption) | assumption)
          have q15 : (x5_2 : Int) < ((x3_2.length : Int) : Int) := of_decide_eq_true (by first | (with_reducible assumption) | assumption)
          obtain ⟨go15, co15, eo15, gb15, gl15, cl15, HG15⟩ := Kd.R_form HO_3.out (by omega)
          (first | cases eo15 | (injection eo15 with ea_ en_ ec_; (first | subst ea_ | (injection ea_ with ea_; subst ea_)); subst ec_; clear en_))
          have GB15 := Aside0.mk gb15
          have GG15 := Aside0.mk HG15
          clear gb15 gl15 HG15
          obtain ⟨hx15_0, hf15_0⟩ := Kd.R_celln (⟨#[]⟩ : ByteArray) HO_3.out (x5_2 : Int) p15 q15
          replace p15 := eq_true p15
          replace q15 := eq_true q15
          have HP17 := Kd.R_putg HO_3.out (x5_2 : Int) (⟨#[63]⟩ : ByteArray)
          go_wp2_with (first | ((with_reducible refine gate_store (t := 9) (p := 33) rfl ?_); refine store_event (t := 9) (p := 33) (v := ?vo_w18) (w1 := (wr.setCell ⟨go15, (x5_2 : Int).toNat, none⟩ (.string (⟨#[63]⟩ : ByteArray)))) ?hg ?ho ?hn ?hr ?_; (case ho => rfl); (case hg => rfl); (case hn => rfl); (case hr => first | (go_simp; done) | (go_simp; rfl)); intro w18 hw; have hg : wr.grownBy w18 (some go15) := (by rw [hw]; exact HP17.2); have hp_ : Kd.R Kd.string 9 w18 w.heap.size (fun _ => True) (.slice (some ⟨go15, 0, none⟩) x3_2.length co16) y519 := (by rw [hw, Ny519.out]; exact HP17.1); clear HP17; have n0_ := Aside0.mk (hp_); have n1_ := Aside0.mk ((by rw [hw]; exact below_set (HB.out) GB15.out : Below w.heap.size w w18)); clear HO_3; clear HB; have HO_3 := n0_; have HB := n1_; clear n0_ n1_; clear hg hw hp_))
          go_roundg k2
          case measure => have := HK1.out; have := HK2.out; omega
          case rel => exact ⟨(y519), (wrap64 (x5_2 + 1)), (by first | rfl | (simp; done) | (simp [*]; done)), H', ⟨by have := HK1.out; have := HK2.out; omega⟩, ⟨by (with_reducible repeat (first | apply Kd.R_alloc | apply Kd.R_drewN | apply Kd.R_drew)); exact HO_3.out⟩, ⟨by repeat (first | (with_reducible first | exact HB.out | apply below_alloc | apply pw_below_drewN | apply below_drew1) | exact HB.out)⟩⟩
         ·rw [if_neg c14] at H
          exact absurd H (by simp)
        ·rw [if_neg c13] at H
         have c13b0 : decide (x5_2 < (x3_2.length : Int)) = false := decide_eq_false c13
         clear c13
         obtain rfl := Option.some.inj H
         obtain ⟨Ao19, co19, eo19⟩ := Kd.R_slice HO_3.out
         subst eo19
         go_wp2
         go_ret
         exact ⟨_, by first | rfl | (simp [errW_none, errW_some] <;> rfl) | (simp only [← hji2]; first | rfl | (simp [errW_none, errW_some] <;> rfl)) | (simp [*, errW_none, errW_some] <;> rfl), by (with_reducible repeat (first | apply Kd.R_alloc | apply Kd.R_drewN | apply Kd.R_drew)); exact HO_3.out, by repeat (first | (with_reducible first | exact HB.out | apply below_alloc | apply pw_below_drewN | apply below_drew1) | exact HB.out)⟩
  ·rw [if_neg c4] at H
   exact absurd H (by simp)
 ·rw [if_neg c3] at H
  exact absurd H (by simp)
end Go.Proofs.YtdfkaclflmgkeaaDoor.PAll
namespace Go.Proofs.YtdfkaclflmgkeaaDoor.PAll
open Go.RowKit Go.Proofs.YtdfkaclflmgkeaaDoorW.PrintWords Go.Proofs.YtdfkaclflmgkeaaDoorW.PrintLast Go.Proofs.YtdfkaclflmgkeaaDoorW.PrintMore
open Go.Proofs.YtdfkaclflmgkeaaDoor.Sp
theorem Ev.val {α : Type} {g : Nat → Option α} {r r' : α} (h : Ev g r) (e : r = r') : Ev g r' := e ▸ h
theorem ev_some {α : Type} (r : α) : Ev (fun _ => some r) r := Ev.now r
theorem ev_pure {α : Type} {g : Nat → Option α} {r : α} (h : ∀ k, g k = some r) : Ev g r := ⟨0, fun k _ => h k⟩
theorem wrap_add {x : Int} (h0 : -9223372036854775808 ≤ x) (h1 : x ≤ 9223372036854775807) : wrap64 x = x := by unfold wrap64; omega
theorem bt_get (a : ByteArray) (i : Nat) (h : i < a.size) : bt a (i : Int) = (((bs a)[i]'(by rw [bs_size]; exact h)).toNat : Int) := by
 unfold bt
 rw [dif_pos (by simpa using h)]
 rfl
theorem bt_eq (a : ByteArray) (i : Nat) (h : i < a.size) (c : UInt8) (n : Int) (hn : n = (c.toNat : Int)) : bt a (i : Int) = n ↔ (bs a)[i]'(by rw [bs_size]; exact h) = c := by
 rw [bt_get a i h, hn]
 constructor
 ·intro e; exact UInt8.toNat_inj.1 (by omega)
 ·intro e; rw [e]
theorem bs_drop (a : ByteArray) (i : Nat) (h : i < a.size) : (bs a).drop i = (bs a)[i]'(by rw [bs_size]; exact h) :: (bs a).drop (i + 1) := List.drop_eq_getElem_cons (by rw [bs_size]; exact h)
theorem extract_mk (a : ByteArray) (i j : Nat) : a.extract i j = mk (((bs a).take j).drop i) := by
 apply bs_inj
 rw [bs_mk]
 show (a.extract i j).data.toList = _
 rw [Lib.extract_data, List.drop_take]
 rfl
theorem ref_has_run (l : List ByteArray) (p : ByteArray) (hl : l.length ≤ 4294967296) (d : Nat) : ∀ i, l.length - i = d → i ≤ l.length → Ev (fun k => copseref03_Has.l0 k l p (i : Int)) (decide (p ∈ l.drop i)) := by
 induction d with
 | zero =>
  intro i hd hi
  refine ⟨1, fun k hk => ?_⟩
  obtain ⟨k, rfl⟩ : ∃ m, k = m + 1 := ⟨k - 1, by omega⟩
  simp only [copseref03_Has.l0]
  rw [if_neg (by omega), List.drop_of_length_le (by omega)]; rfl
 | succ d ih =>
  intro i hd hi
  obtain ⟨K, hK⟩ := ih (i + 1) (by omega) (by omega)
  dsimp only at hK
  refine ⟨K + 1, fun k hk => ?_⟩
  obtain ⟨k, rfl⟩ : ∃ m, k = m + 1 := ⟨k - 1, by omega⟩
  simp only [copseref03_Has.l0]
  rw [if_pos (by omega), if_pos (by omega), rdOf_drop l i (by omega)]
  by_cases h : rdOf ByteArray.empty l (i : Int) = p
  ·rw [if_pos (by rw [h]), h]; simp
  ·rw [if_neg (fun e => h (bs_inj (by rw [← toList_bs, ← toList_bs]; exact e))), wrap_succ (n := l.length) (by omega) (by omega), hK k (by omega)]
   simp [Ne.symm h]
theorem ref_has (l : List ByteArray) (p : ByteArray) (hl : l.length ≤ 4294967296) : Ev (fun k => copseref03_Has.f k l p) (decide (p ∈ l)) :=
 ref_has_run l p hl l.length 0 (by omega) (by omega)
def splC (cur rest : Str) : List Str := match spl rest with
 | h :: t => (cur ++ h) :: t
 | [] => [cur]
theorem splC_nil (cur : Str) : splC cur [] = [cur] := by simp [splC, spl]
theorem splC_slash (cur r : Str) : splC cur (47 :: r) = cur :: splC [] r := by
 simp only [splC, spl, if_true, List.append_nil]
 congr 1
 cases h : spl r with
 | nil => exact absurd h (spl_ne r)
 | cons x t => simp
theorem splC_other (cur r : Str) {c : UInt8} (hc : c ≠ 47) : splC cur (c :: r) = splC (cur ++ [c]) r := by
 simp only [splC, spl, if_neg hc]
 cases h : spl r with
 | nil => exact absurd h (spl_ne r)
 | cons x t => simp
theorem splC_whole (s : Str) : splC [] s = spl s := by
 unfold splC
 cases h : spl s with
 | nil => exact absurd h (spl_ne s)
 | cons x t => simp
theorem ref_split_run (a : ByteArray) (ha : a.size ≤ 4294967296) (d : Nat) : ∀ (i fr : Nat) (acc : List ByteArray), a.size - i = d → i ≤ a.size → fr ≤ i → acc.length + a.size - i ≤ 4294967297 →
  Ev (fun k => copseref02_Split.l0 k a acc (fr : Int) (i : Int)) (acc ++ (splC (((bs a).take i).drop fr) ((bs a).drop i)).map mk) := by
 induction d with
 | zero =>
  intro i fr acc hd hi hf hl
  have e : i = a.size := by omega
  refine ⟨2, fun k hk => ?_⟩
  obtain ⟨k, rfl⟩ : ∃ m, k = m + 2 := ⟨k - 2, by omega⟩
  simp only [copseref02_Split.l0]
  rw [if_pos (by omega), if_pos (by omega), if_pos (by omega), if_pos (by omega), if_pos (by omega), wrap_succ (n := 4294967299) (by omega) (by omega), if_neg (by omega), Int.toNat_natCast, Int.toNat_natCast, extract_mk, List.drop_of_length_le (l := bs a) (i := i) (by rw [bs_size]; omega), splC_nil]
  rfl
 | succ d ih =>
  intro i fr acc hd hi hf hl
  have hlt : i < a.size := by omega
  rw [bs_drop a i hlt]
  by_cases h : bt a (i : Int) = 47
  ·have h' := (bt_eq a i hlt 47 47 rfl).1 h
   obtain ⟨K, hK⟩ := ih (i + 1) (i + 1) (acc ++ [mk (((bs a).take i).drop fr)]) (by omega) (by omega) (by omega) (by simp; omega)
   dsimp only at hK
   refine ⟨K + 1, fun k hk => ?_⟩
   obtain ⟨k, rfl⟩ : ∃ m, k = m + 1 := ⟨k - 1, by omega⟩
   simp only [copseref02_Split.l0]
   rw [if_pos (by omega), if_neg (by omega), if_pos (by omega), if_pos (by omega), if_pos h, if_pos (by omega), if_pos (by omega), if_pos (by omega), wrap_succ (n := a.size) (by omega) (by omega), Int.toNat_natCast, Int.toNat_natCast, extract_mk, hK k (by omega), h', splC_slash]
   rw [List.drop_of_length_le (l := (bs a).take (i + 1)) (by rw [List.length_take]; omega)]
   simp
  ·have h' : (bs a)[i]'(by rw [bs_size]; exact hlt) ≠ 47 := fun e => h ((bt_eq a i hlt 47 47 rfl).2 e)
   obtain ⟨K, hK⟩ := ih (i + 1) fr acc (by omega) (by omega) (by omega) (by omega)
   dsimp only at hK
   refine ⟨K + 1, fun k hk => ?_⟩
   obtain ⟨k, rfl⟩ : ∃ m, k = m + 1 := ⟨k - 1, by omega⟩
   simp only [copseref02_Split.l0]
   rw [if_pos (by omega), if_neg (by omega), if_pos (by omega), if_pos (by omega), if_neg h, wrap_succ (n := a.size) (by omega) (by omega), hK k (by omega), splC_other _ _ h']
   have hlen : i < (bs a).length := by rw [bs_size]; exact hlt
   rw [List.take_succ_eq_append_getElem hlen, List.drop_append_of_le_length (by rw [List.length_take]; omega)]
theorem ref_split (a : ByteArray) (ha : a.size ≤ 4294967296) : Ev (fun k => copseref02_Split.f k a) (pB a) := by
 by_cases h : bs a = []
 ·rw [pB_nil h]
  refine ev_pure fun k => ?_
  unfold copseref02_Split.f
  rw [if_pos (by rw [toList_bs]; exact h)]
 ·have := ref_split_run a ha a.size 0 0 [] (by omega) (by omega) (by omega) (by simp only [List.length_nil]; omega)
  refine Ev.congr (fun k => ?_) (Ev.val this ?_)
  ·unfold copseref02_Split.f
   rw [if_neg (by rw [toList_bs]; exact h)]; rfl
  ·simp only [List.take_zero, List.drop_zero, List.drop_nil, List.nil_append, splC_whole]
   unfold pB; rw [pcs_of h]
theorem prog_split (a : ByteArray) (ha : a.size < 4294967281) : Ev (fun k => path_Split.f k a) (pB a) := ev_pure fun k => by unfold path_Split.f; rw [if_pos ha]
end Go.Proofs.YtdfkaclflmgkeaaDoor.PAll
namespace Go.Proofs.YtdfkaclflmgkeaaDoor.PAll
open Go.RowKit Go.Proofs.YtdfkaclflmgkeaaDoorW.PrintWords Go.Proofs.YtdfkaclflmgkeaaDoorW.PrintLast Go.Proofs.YtdfkaclflmgkeaaDoorW.PrintMore
open Go.Proofs.YtdfkaclflmgkeaaDoor.Sp
theorem cmpS_cons_same (c : UInt8) (x y : Str) : cmpS (c :: x) (c :: y) = cmpS x y := by simp [cmpS, Op.bytesLess]
theorem cmpS_cons_lt {c d : UInt8} (h : c.toNat < d.toNat) (x y : Str) : cmpS (c :: x) (d :: y) = -1 := by
 have : c < d := by rw [UInt8.lt_iff_toNat_lt]; exact h
 simp [cmpS, Op.bytesLess, this]
theorem cmpS_cons_gt {c d : UInt8} (h : d.toNat < c.toNat) (x y : Str) : cmpS (c :: x) (d :: y) = 1 := by
 have h1 : d < c := by rw [UInt8.lt_iff_toNat_lt]; exact h
 have h2 : ¬ c < d := by rw [UInt8.lt_iff_toNat_lt]; omega
 have h3 : ¬ c = d := by rintro rfl; omega
 simp [cmpS, Op.bytesLess, h1, h2, h3]
theorem cmpS_nil_cons (c : UInt8) (x : Str) : cmpS [] (c :: x) = -1 := by simp [cmpS, Op.bytesLess]
theorem cmpS_cons_nil (c : UInt8) (x : Str) : cmpS (c :: x) [] = 1 := by simp [cmpS, Op.bytesLess]
theorem cmpS_nil : cmpS [] [] = 0 := by simp [cmpS, Op.bytesLess]
theorem ref_bytes_run (a b : ByteArray) (ha : a.size ≤ 4294967296) (d : Nat) : ∀ i, a.size - i = d → i ≤ a.size → i ≤ b.size → Ev (fun k => copseref02_bytes.l0 k a b (i : Int)) (cmpS ((bs a).drop i) ((bs b).drop i)) := by
 induction d with
 | zero =>
  intro i hd hi hb
  refine ⟨2, fun k hk => ?_⟩
  obtain ⟨k, rfl⟩ : ∃ m, k = m + 2 := ⟨k - 2, by omega⟩
  simp only [copseref02_bytes.l0, copseref02_bytes.j1]
  rw [if_neg (by omega), if_neg (by decide), List.drop_of_length_le (l := bs a) (by rw [bs_size]; omega)]
  by_cases h : i = b.size
  ·rw [if_neg (by omega), if_neg (by omega), List.drop_of_length_le (l := bs b) (by rw [bs_size]; omega), cmpS_nil]
  ·rw [if_pos (by omega), bs_drop b i (by omega), cmpS_nil_cons]
 | succ d ih =>
  intro i hd hi hb
  rw [bs_drop a i (by omega)]
  by_cases h : i = b.size
  ·refine ⟨2, fun k hk => ?_⟩
   obtain ⟨k, rfl⟩ : ∃ m, k = m + 2 := ⟨k - 2, by omega⟩
   simp only [copseref02_bytes.l0, copseref02_bytes.j1]
   rw [if_pos (by omega), if_neg (by rw [decide_eq_true_eq]; omega), if_neg (by omega), if_pos (by omega), List.drop_of_length_le (l := bs b) (by rw [bs_size]; omega), cmpS_cons_nil]
  ·have hA := bt_get a i (by omega)
   have hB := bt_get b i (by omega)
   rw [bs_drop b i (by omega)]
   obtain ⟨K, hK⟩ := ih (i + 1) (by omega) (by omega) (by omega)
   dsimp only at hK
   refine ⟨K + 2, fun k hk => ?_⟩
   obtain ⟨k, rfl⟩ : ∃ m, k = m + 2 := ⟨k - 2, by omega⟩
   simp only [copseref02_bytes.l0, copseref02_bytes.j1]
   rw [if_pos (by omega), if_pos (by rw [decide_eq_true_eq]; omega), if_pos (by omega), if_pos (by omega), if_pos (by omega), hA, hB]
   by_cases h1 : ((bs a)[i]'(by rw [bs_size]; omega)).toNat < ((bs b)[i]'(by rw [bs_size]; omega)).toNat
   ·rw [if_pos (by omega), cmpS_cons_lt h1]
   ·rw [if_neg (by omega)]
    by_cases h2 : ((bs b)[i]'(by rw [bs_size]; omega)).toNat < ((bs a)[i]'(by rw [bs_size]; omega)).toNat
    ·rw [if_pos (by omega), cmpS_cons_gt h2]
    ·rw [if_neg (by omega), wrap_succ (n := a.size) (by omega) (by omega), hK k (by omega)]
     have e : (bs a)[i]'(by rw [bs_size]; omega) = (bs b)[i]'(by rw [bs_size]; omega) := UInt8.toNat_inj.1 (by omega)
     rw [e, cmpS_cons_same]
theorem ref_bytes (a b : ByteArray) (ha : a.size ≤ 4294967296) : Ev (fun k => copseref02_bytes.f k a b) (cmpS (bs a) (bs b)) :=
 ref_bytes_run a b ha a.size 0 (by omega) (by omega) (by omega)
theorem ref_cmp_run (x y : List ByteArray) (hx : x.length ≤ 4294967296) (hs : ∀ p ∈ x, p.size ≤ 4294967296) (d : Nat) : ∀ i, x.length - i = d → i ≤ x.length → i ≤ y.length → Ev (fun k => copseref02_Cmp.l0 k x y (i : Int)) (cmpL ((x.drop i).map bs) ((y.drop i).map bs)) := by
 induction d with
 | zero =>
  intro i hd hi hb
  refine ⟨2, fun k hk => ?_⟩
  obtain ⟨k, rfl⟩ : ∃ m, k = m + 2 := ⟨k - 2, by omega⟩
  simp only [copseref02_Cmp.l0, copseref02_Cmp.j1]
  rw [if_neg (by omega), if_neg (by decide), List.drop_of_length_le (l := x) (by omega)]
  by_cases h : i = y.length
  ·rw [if_neg (by omega), if_neg (by omega), List.drop_of_length_le (l := y) (by omega)]; rfl
  ·rw [if_pos (by omega), rdOf_drop y i (by omega)]; rfl
 | succ d ih =>
  intro i hd hi hb
  rw [rdOf_drop x i (by omega)]
  by_cases h : i = y.length
  ·refine ⟨2, fun k hk => ?_⟩
   obtain ⟨k, rfl⟩ : ∃ m, k = m + 2 := ⟨k - 2, by omega⟩
   simp only [copseref02_Cmp.l0, copseref02_Cmp.j1]
   rw [if_pos (by omega), if_neg (by rw [decide_eq_true_eq]; omega), if_neg (by omega), if_pos (by omega), List.drop_of_length_le (l := y) (by omega)]; rfl
  ·rw [rdOf_drop y i (by omega)]
   have hmem : rdOf ByteArray.empty x (i : Int) ∈ x := List.mem_of_mem_drop (i := i) (by rw [rdOf_drop x i (by omega)]; exact List.mem_cons_self)
   obtain ⟨K, hK⟩ := ih (i + 1) (by omega) (by omega) (by omega)
   dsimp only at hK
   obtain ⟨K2, hK2⟩ := ref_bytes (rdOf ByteArray.empty x (i : Int)) (rdOf ByteArray.empty y (i : Int)) (hs _ hmem)
   dsimp only at hK2
   refine ⟨max K K2 + 2, fun k hk => ?_⟩
   obtain ⟨k, rfl⟩ : ∃ m, k = m + 2 := ⟨k - 2, by omega⟩
   simp only [copseref02_Cmp.l0, copseref02_Cmp.j1]
   rw [if_pos (by omega), if_pos (by rw [decide_eq_true_eq]; omega), if_pos (by omega), if_pos (by omega), if_pos (by omega), hK2 k (by omega), Option.bind_some]
   simp only [List.map_cons, cmpL]
   by_cases e : rdOf ByteArray.empty x (i : Int) = rdOf ByteArray.empty y (i : Int)
   ·rw [if_pos (by rw [e, cmpS_self]), if_pos (by rw [e]), wrap_succ (n := x.length) (by omega) (by omega), hK k (by omega)]
   ·have e' : ¬ bs (rdOf ByteArray.empty x (i : Int)) = bs (rdOf ByteArray.empty y (i : Int)) := fun h => e (bs_inj h)
    rw [if_neg (fun h => e' (cmpS_eq h)), if_neg e']
theorem spl_piece_le (s : Str) : ∀ cur, ∀ p ∈ splC cur s, p.length ≤ cur.length + s.length := by
 induction s with
 | nil => intro cur p hp; rw [splC_nil] at hp; rw [List.mem_singleton.1 hp]; simp
 | cons c r ih =>
  intro cur p hp
  by_cases h : c = 47
  ·subst h
   rw [splC_slash] at hp
   rcases List.mem_cons.1 hp with rfl | hp
   ·simp
   ·have := ih [] p hp; simp only [List.length_nil, List.length_cons] at this ⊢; omega
  ·rw [splC_other cur r h] at hp
   have := ih _ p hp
   simp only [List.length_append, List.length_cons, List.length_nil] at this ⊢; omega
theorem pB_piece_le (a : ByteArray) : ∀ p ∈ pB a, p.size ≤ a.size := by
 intro p hp
 unfold pB at hp
 obtain ⟨q, hq, rfl⟩ := List.mem_map.1 hp
 have : (mk q).size = q.length := by rw [← bs_size, bs_mk]
 rw [this]
 unfold pcs at hq
 split at hq
 ·cases hq
 ·rw [← splC_whole] at hq
  have := spl_piece_le (bs a) [] q hq
  rw [bs_size] at this; simpa using this
theorem ref_cmp (a b : ByteArray) (ha : a.size ≤ 4294967295) (hb : b.size ≤ 4294967295) : Ev (fun k => copseref02_Cmp.f k a b) (cB a b) := by
 have hla := pB_length_le a
 refine Ev.bind (ref_split a (by omega)) (Ev.bind (ref_split b (by omega)) ?_)
 have := ref_cmp_run (pB a) (pB b) (by omega) (fun p hp => by have := pB_piece_le a p hp; omega) (pB a).length 0 (by omega) (by omega) (by omega)
 refine Ev.val this ?_
 rw [List.drop_zero, List.drop_zero, pB_bs, pB_bs]; rfl
theorem prog_common (x y : List ByteArray) (hx : x.length ≤ 4294967296) : Ev (fun k => path_common.f k x y) (comL x y : Int) := Ev.of (path_common.mono x y) (common_ends x y (by omega))
theorem prog_cmp (a b : ByteArray) (ha : a.size < 4294967281) (hb : b.size < 4294967281) : Ev (fun k => path_Cmp.f k a b) (cB a b) := by
 have hla := pB_length_le a
 refine Ev.bind (prog_split a ha) (Ev.bind (prog_split b hb) (Ev.bind (prog_common (pB a) (pB b) (by omega)) ?_))
 refine ⟨1, fun k hk => ?_⟩
 obtain ⟨k, rfl⟩ : ∃ m, k = m + 1 := ⟨k - 1, by omega⟩
 rw [cB_com]
 obtain ⟨hc1, hc2⟩ := comL_le (pB a) (pB b)
 simp only [path_Cmp.j0]
 by_cases h1 : comL (pB a) (pB b) < (pB a).length
 ·rw [if_pos (by omega)]
  by_cases h2 : comL (pB a) (pB b) < (pB b).length
  ·rw [if_pos (by rw [decide_eq_true_eq]; omega), if_pos (by omega), if_pos (by omega), if_pos (by omega), compare_string_is, if_pos ⟨h1, h2⟩]; rfl
  ·rw [if_neg (by rw [decide_eq_true_eq]; omega), compare_int_is, if_neg (show ¬ (comL (pB a) (pB b) < (pB a).length ∧ comL (pB a) (pB b) < (pB b).length) from fun h => h2 h.2)]; rfl
 ·rw [if_neg (by omega), if_neg (by decide), compare_int_is, if_neg (show ¬ (comL (pB a) (pB b) < (pB a).length ∧ comL (pB a) (pB b) < (pB b).length) from fun h => h1 h.1)]; rfl
def aboveB (a b : ByteArray) : Bool := decide ((pB a).length < (pB b).length) && decide (comL (pB a) (pB b) = (pB a).length)
theorem ref_shared_run (x y : List ByteArray) (hx : x.length ≤ 4294967296) (d : Nat) : ∀ i, x.length - i = d → i ≤ x.length → i ≤ y.length → Ev (fun k => copseref02_shared.l0 k x y (i : Int)) ((i + comL (x.drop i) (y.drop i) : Nat) : Int) := by
 induction d with
 | zero =>
  intro i hd hi hb
  refine ⟨1, fun k hk => ?_⟩
  obtain ⟨k, rfl⟩ : ∃ m, k = m + 1 := ⟨k - 1, by omega⟩
  simp only [copseref02_shared.l0]
  rw [if_neg (by omega), List.drop_of_length_le (l := x) (by omega)]; simp [comL]
 | succ d ih =>
  intro i hd hi hb
  rw [rdOf_drop x i (by omega)]
  by_cases h : i = y.length
  ·refine ⟨1, fun k hk => ?_⟩
   obtain ⟨k, rfl⟩ : ∃ m, k = m + 1 := ⟨k - 1, by omega⟩
   simp only [copseref02_shared.l0]
   rw [if_pos (by omega), if_neg (by omega), List.drop_of_length_le (l := y) (by omega)]; simp [comL]
  ·rw [rdOf_drop y i (by omega)]
   obtain ⟨K, hK⟩ := ih (i + 1) (by omega) (by omega) (by omega)
   dsimp only at hK
   refine ⟨K + 1, fun k hk => ?_⟩
   obtain ⟨k, rfl⟩ : ∃ m, k = m + 1 := ⟨k - 1, by omega⟩
   simp only [copseref02_shared.l0]
   rw [if_pos (by omega), if_pos (by omega), if_pos (by omega)]
   by_cases e : rdOf ByteArray.empty x (i : Int) = rdOf ByteArray.empty y (i : Int)
   ·rw [if_pos (by rw [e]), wrap_succ (n := x.length) (by omega) (by omega), hK k (by omega), e, comL_same]
    congr 2; omega
   ·rw [if_neg (fun h => e (bs_inj (by rw [← toList_bs, ← toList_bs]; exact h))), comL_diff e]; rfl
theorem ref_shared (x y : List ByteArray) (hx : x.length ≤ 4294967296) : Ev (fun k => copseref02_shared.f k x y) (comL x y : Int) := by
 have := ref_shared_run x y hx x.length 0 (by omega) (by omega) (by omega)
 refine Ev.val this ?_
 simp
theorem above_val (x y : List ByteArray) : ((comL x y : Int) == (x.length : Int)) = decide (comL x y = x.length) := by
 rw [Bool.eq_iff_iff, beq_iff_eq, decide_eq_true_eq]; omega
theorem ref_above (a b : ByteArray) (ha : a.size ≤ 4294967295) (hb : b.size ≤ 4294967295) : Ev (fun k => copseref02_Above.f k a b) (aboveB a b) := by
 have hla := pB_length_le a
 refine Ev.bind (ref_split a (by omega)) (Ev.bind (ref_split b (by omega)) ?_)
 unfold aboveB
 by_cases h : (pB a).length < (pB b).length
 ·refine Ev.congr (f := fun k => (copseref02_shared.f k (pB a) (pB b)).bind fun t => some (t == ((pB a).length : Int))) (fun k => by rw [if_pos (by omega)]) ?_
  refine Ev.bind (ref_shared (pB a) (pB b) (by omega)) (ev_pure fun k => ?_)
  rw [above_val, decide_eq_true h, Bool.true_and]
 ·refine ev_pure fun k => ?_
  rw [if_neg (by omega), decide_eq_false h, Bool.false_and]
theorem prog_above (a b : ByteArray) (ha : a.size < 4294967281) (hb : b.size < 4294967281) : Ev (fun k => path_Above.f k a b) (aboveB a b) := by
 have hla := pB_length_le a
 refine Ev.bind (prog_split a ha) (Ev.bind (prog_split b hb) ?_)
 unfold aboveB
 by_cases h : (pB a).length < (pB b).length
 ·refine Ev.congr (f := fun k => (path_common.f k (pB a) (pB b)).bind fun t => some (t == ((pB a).length : Int))) (fun k => by rw [if_pos (by omega)]) ?_
  refine Ev.bind (prog_common (pB a) (pB b) (by omega)) (ev_pure fun k => ?_)
  rw [above_val, decide_eq_true h, Bool.true_and]
 ·refine ev_pure fun k => ?_
  rw [if_neg (by omega), decide_eq_false h, Bool.false_and]
def lastIx : Str → Int → Int → Int
 | [], _, acc => acc
 | c :: r, i, acc => lastIx r (i + 1) (if c = 47 then i else acc)
theorem lastIx_snoc (l : Str) (c : UInt8) : ∀ i acc, lastIx (l ++ [c]) i acc = if c = 47 then i + l.length else lastIx l i acc := by
 induction l with
 | nil => intro i acc; simp [lastIx]
 | cons x l ih =>
  intro i acc
  simp only [List.cons_append, lastIx, ih, List.length_cons]
  split
  ·omega
  ·rfl
theorem lastIx_le (l : Str) : ∀ i acc : Int, acc < i + l.length → -1 ≤ acc → 0 ≤ i → lastIx l i acc < i + l.length ∧ -1 ≤ lastIx l i acc := by
 induction l with
 | nil => intro i acc h h1 _; exact ⟨h, h1⟩
 | cons x l ih =>
  intro i acc h h1 h0
  simp only [lastIx, List.length_cons] at h ⊢
  have := ih (i + 1) (if x = 47 then i else acc) (by split <;> omega) (by split <;> omega) (by omega)
  omega
def lastS (s : Str) : Int := lastIx s 0 (-1)
theorem lastS_bd (s : Str) : lastS s < s.length ∧ -1 ≤ lastS s := by
 have := lastIx_le s 0 (-1) (by omega) (by omega) (by omega)
 unfold lastS; omega
theorem ref_last_run (a : ByteArray) (ha : a.size ≤ 4294967296) (d : Nat) : ∀ (i : Nat) (acc : Int), a.size - i = d → i ≤ a.size → Ev (fun k => copseref02_last.l0 k a acc (i : Int)) (lastIx ((bs a).drop i) i acc) := by
 induction d with
 | zero =>
  intro i acc hd hi
  refine ⟨1, fun k hk => ?_⟩
  obtain ⟨k, rfl⟩ : ∃ m, k = m + 1 := ⟨k - 1, by omega⟩
  simp only [copseref02_last.l0]
  rw [if_neg (by omega), List.drop_of_length_le (by rw [bs_size]; omega)]; rfl
 | succ d ih =>
  intro i acc hd hi
  rw [bs_drop a i (by omega)]
  by_cases h : bt a (i : Int) = 47
  ·obtain ⟨K, hK⟩ := ih (i + 1) i (by omega) (by omega)
   dsimp only at hK
   refine ⟨K + 1, fun k hk => ?_⟩
   obtain ⟨k, rfl⟩ : ∃ m, k = m + 1 := ⟨k - 1, by omega⟩
   simp only [copseref02_last.l0]
   rw [if_pos (by omega), if_pos (by omega), if_pos h, wrap_succ (n := a.size) (by omega) (by omega), hK k (by omega), (bt_eq a i (by omega) 47 47 rfl).1 h]
   simp [lastIx]
  ·obtain ⟨K, hK⟩ := ih (i + 1) acc (by omega) (by omega)
   dsimp only at hK
   refine ⟨K + 1, fun k hk => ?_⟩
   obtain ⟨k, rfl⟩ : ∃ m, k = m + 1 := ⟨k - 1, by omega⟩
   simp only [copseref02_last.l0]
   have h' : (bs a)[i]'(by rw [bs_size]; omega) ≠ 47 := fun e => h ((bt_eq a i (by omega) 47 47 rfl).2 e)
   rw [if_pos (by omega), if_pos (by omega), if_neg h, wrap_succ (n := a.size) (by omega) (by omega), hK k (by omega)]
   simp [lastIx, h']
theorem ref_last (a : ByteArray) (ha : a.size ≤ 4294967296) : Ev (fun k => copseref02_last.f k a) (lastS (bs a)) :=
 Ev.val (ref_last_run a ha a.size 0 (-1) (by omega) (by omega)) rfl
theorem prog_last_run (a : ByteArray) (ha : a.size ≤ 4294967296) : ∀ j : Nat, j ≤ a.size → Ev (fun k => bytealg_LastIndexByteString.l0 k a 47 ((j : Int) - 1)) (lastIx ((bs a).take j) 0 (-1))
 | 0, _ => by
  refine ⟨1, fun k hk => ?_⟩
  obtain ⟨k, rfl⟩ : ∃ m, k = m + 1 := ⟨k - 1, by omega⟩
  simp only [bytealg_LastIndexByteString.l0]
  rw [if_neg (by omega)]; rfl
 | j + 1, hj => by
  have hlen : j < (bs a).length := by rw [bs_size]; omega
  rw [List.take_succ_eq_append_getElem hlen, lastIx_snoc]
  have ej : ((j + 1 : Nat) : Int) - 1 = (j : Int) := by omega
  rw [ej]
  by_cases h : bt a (j : Int) = 47
  ·refine ⟨1, fun k hk => ?_⟩
   obtain ⟨k, rfl⟩ : ∃ m, k = m + 1 := ⟨k - 1, by omega⟩
   simp only [bytealg_LastIndexByteString.l0]
   rw [if_pos (by omega), if_pos (by omega), if_pos (by omega), if_pos h, if_pos ((bt_eq a j (by omega) 47 47 rfl).1 h)]
   congr 1; rw [List.length_take]; omega
  ·obtain ⟨K, hK⟩ := prog_last_run a ha j (by omega)
   dsimp only at hK
   refine ⟨K + 1, fun k hk => ?_⟩
   obtain ⟨k, rfl⟩ : ∃ m, k = m + 1 := ⟨k - 1, by omega⟩
   simp only [bytealg_LastIndexByteString.l0]
   rw [if_pos (by omega), if_pos (by omega), if_pos (by omega), if_neg h, wrap_add (by omega) (by omega), hK k (by omega), if_neg (fun e => h ((bt_eq a j (by omega) 47 47 rfl).2 e))]
theorem prog_last (a : ByteArray) (ha : a.size ≤ 4294967296) : Ev (fun k => strings_LastIndexByte.f k a 47) (lastS (bs a)) := by
 refine Ev.bind (a := lastS (bs a)) (Ev.congr (f := fun k => bytealg_LastIndexByteString.l0 k a 47 ((a.size : Int) - 1)) (fun k => ?_) ?_) (ev_pure fun _ => rfl)
 ·unfold bytealg_LastIndexByteString.f
  rw [wrap_add (by omega) (by omega)]
 ·refine Ev.val (prog_last_run a ha a.size (Nat.le_refl _)) ?_
  rw [List.take_of_length_le (by rw [bs_size]; exact Nat.le_refl _)]; rfl
def dirB (a : ByteArray) : ByteArray := if lastS (bs a) < 0 then mk [] else a.extract 0 (lastS (bs a)).toNat
theorem ref_dir (a : ByteArray) (ha : a.size ≤ 4294967296) : Ev (fun k => copseref02_Dir.f k a) (dirB a) := by
 have hb := lastS_bd (bs a)
 rw [bs_size] at hb
 refine Ev.bind (ref_last a ha) (ev_pure fun k => ?_)
 unfold dirB
 by_cases h : lastS (bs a) < 0
 ·rw [if_pos h, if_pos h]; rfl
 ·rw [if_neg h, if_neg h, if_pos (by omega), if_pos (by omega)]
theorem prog_dir (a : ByteArray) (ha : a.size ≤ 4294967296) : Ev (fun k => path_Dir.f k a) (dirB a) := by
 have hb := lastS_bd (bs a)
 rw [bs_size] at hb
 refine Ev.bind (prog_last a ha) (ev_pure fun k => ?_)
 unfold dirB
 by_cases h : lastS (bs a) < 0
 ·have e : mx 0 (lastS (bs a)) = 0 := by unfold mx; omega
  rw [e, if_pos (by omega), if_pos (by omega), if_pos h]
  congr 1
  apply bs_inj
  rw [Int.toNat_zero, extract_mk, bs_mk]; rfl
 ·have e : mx 0 (lastS (bs a)) = lastS (bs a) := by unfold mx; omega
  rw [e, if_neg h, if_pos (by omega), if_pos (by omega)]
theorem dirB_size (a : ByteArray) : (dirB a).size ≤ a.size := by
 unfold dirB
 split
 ·exact Nat.zero_le _
 ·rw [ByteArray.size_extract]; omega
end Go.Proofs.YtdfkaclflmgkeaaDoor.PAll
namespace Go.Proofs.YtdfkaclflmgkeaaDoor.PAll
open Go.RowKit Go.Proofs.YtdfkaclflmgkeaaDoorW.PrintWords Go.Proofs.YtdfkaclflmgkeaaDoorW.PrintLast Go.Proofs.YtdfkaclflmgkeaaDoorW.PrintMore
open Go.Proofs.YtdfkaclflmgkeaaDoor.Sp
abbrev Fits (l : List ByteArray) : Prop := ∀ p ∈ l, p.size ≤ 1073741824
theorem Fits.at_ {l : List ByteArray} (h : Fits l) {i : Nat} (hi : i < l.length) : (rdOf ByteArray.empty l (i : Int)).size ≤ 1073741824 :=
 h _ (List.mem_of_mem_drop (i := i) (by rw [rdOf_drop l i hi]; exact List.mem_cons_self))
def put (x : ByteArray) : List ByteArray → List ByteArray
 | [] => [x]
 | y :: l => if cB x y < 0 then x :: y :: l else y :: put x l
theorem put_length (x : ByteArray) : ∀ l, (put x l).length = l.length + 1
 | [] => rfl
 | y :: l => by unfold put; split <;> simp [put_length x l]
theorem mem_put {x z : ByteArray} : ∀ {l : List ByteArray}, z ∈ put x l ↔ z = x ∨ z ∈ l
 | [] => by simp [put]
 | y :: l => by
  unfold put
  split
  ·simp
  ·simp only [List.mem_cons, mem_put (l := l)]
   constructor <;> (intro h; rcases h with h | h | h <;> simp [h])
theorem put_ins {x : ByteArray} : ∀ {l : List ByteArray}, x ∉ l → put x l = ins x l
 | [], _ => rfl
 | y :: l, h => by
  unfold put ins
  split
  ·rfl
  ·rw [if_neg (fun e => h (by rw [e]; exact List.mem_cons_self)), put_ins (fun hx => h (List.mem_cons_of_mem _ hx))]
theorem ins_mem {x : ByteArray} {l : List ByteArray} (h : Rises l) (hx : x ∈ l) : ins x l = l :=
 rises_uniq _ _ (rises_ins h) h fun z => by
  rw [mem_ins]
  constructor
  ·rintro (rfl | h)
   ·exact hx
   ·exact h
  ·exact .inr
theorem norm_fold_ins : ∀ (l acc : List ByteArray), Rises acc → l.foldl (fun acc x => if x ∈ acc then acc else put x acc) acc = l.foldl (fun acc x => ins x acc) acc
 | [], _, _ => rfl
 | x :: l, acc, h => by
  simp only [List.foldl_cons]
  have e : (if x ∈ acc then acc else put x acc) = ins x acc := by
   split
   ·rename_i hx; exact (ins_mem h hx).symm
   ·rename_i hx; exact put_ins hx
  rw [e]
  exact norm_fold_ins l _ (rises_ins h)
theorem ref_norm_in (x0 out : List ByteArray) (i : Nat) (hi : i < x0.length) (hx0 : x0.length ≤ 4294967296) (ho : out.length ≤ 4294967296) (hf0 : Fits x0) (hfo : Fits out) (R : List ByteArray) (d : Nat) :
  ∀ (kk : Nat) (next : List ByteArray) (laid : Bool), out.length - kk = d → kk ≤ out.length → next.length ≤ 2 * kk →
   Ev (fun k => copseref03_Norm.l0 k x0 (next ++ (if laid = true then out.drop kk else put (rdOf ByteArray.empty x0 (i : Int)) (out.drop kk))) ((i + 1 : Nat) : Int)) R →
   Ev (fun k => copseref03_Norm.l1 k x0 out (i : Int) next laid (kk : Int)) R := by
 induction d with
 | zero =>
  intro kk next laid hd hk hn ⟨K, hK⟩
  dsimp only at hK
  refine ⟨K + 1, fun k hk => ?_⟩
  obtain ⟨k, rfl⟩ : ∃ m, k = m + 1 := ⟨k - 1, by omega⟩
  simp only [copseref03_Norm.l1]
  rw [List.drop_of_length_le (l := out) (by omega)] at hK
  rw [if_neg (by omega)]
  cases laid with
  | true =>
   rw [if_pos rfl] at hK
   rw [if_pos rfl]
   rw [List.append_nil] at hK
   rw [wrap_succ (n := x0.length) (by omega) (by omega)]
   exact hK k (by omega)
  | false =>
   rw [if_neg (by decide)] at hK ⊢
   rw [if_pos (by omega), if_pos (by omega), if_pos (by omega), wrap_succ (n := x0.length) (by omega) (by omega)]
   exact hK k (by omega)
 | succ d ih =>
  intro kk next laid hd hk hn h
  have hlt : kk < out.length := by omega
  rw [rdOf_drop out kk hlt] at h
  cases laid with
  | true =>
   obtain ⟨K, hK⟩ := ih (kk + 1) (next ++ [rdOf ByteArray.empty out (kk : Int)]) true (by omega) (by omega) (by simp; omega) (by
    rw [if_pos rfl] at h ⊢
    rw [List.append_assoc]; exact h)
   dsimp only at hK
   refine ⟨K + 1, fun k hk => ?_⟩
   obtain ⟨k, rfl⟩ : ∃ m, k = m + 1 := ⟨k - 1, by omega⟩
   simp only [copseref03_Norm.l1]
   rw [if_pos (by omega), if_pos trivial, if_pos (by omega), if_pos (by omega), wrap_succ (n := out.length) (by omega) (by omega)]
   exact hK k (by omega)
  | false =>
   have hs1 := hf0.at_ hi
   have hs2 := hfo.at_ hlt
   obtain ⟨K2, hK2⟩ := ref_cmp (rdOf ByteArray.empty x0 (i : Int)) (rdOf ByteArray.empty out (kk : Int)) (by omega) (by omega)
   dsimp only at hK2
   rw [if_neg (by decide)] at h
   unfold put at h
   by_cases c : cB (rdOf ByteArray.empty x0 (i : Int)) (rdOf ByteArray.empty out (kk : Int)) < 0
   ·rw [if_pos c] at h
    obtain ⟨K, hK⟩ := ih (kk + 1) (next ++ [rdOf ByteArray.empty x0 (i : Int)] ++ [rdOf ByteArray.empty out (kk : Int)]) true (by omega) (by omega) (by simp; omega) (by
     rw [if_pos rfl, List.append_assoc, List.append_assoc]; exact h)
    dsimp only at hK
    refine ⟨max K K2 + 1, fun k hk => ?_⟩
    obtain ⟨k, rfl⟩ : ∃ m, k = m + 1 := ⟨k - 1, by omega⟩
    simp only [copseref03_Norm.l1]
    rw [if_pos (by omega), if_neg (by decide), if_pos (by omega), if_pos (by omega), if_pos (by omega), hK2 k (by omega), Option.bind_some, if_pos c, if_pos (by omega), Option.bind_some, if_pos (by rw [List.length_append, List.length_singleton]; omega), wrap_succ (n := out.length) (by omega) (by omega)]
    exact hK k (by omega)
   ·rw [if_neg c] at h
    obtain ⟨K, hK⟩ := ih (kk + 1) (next ++ [rdOf ByteArray.empty out (kk : Int)]) false (by omega) (by omega) (by simp; omega) (by
     rw [if_neg (by decide), List.append_assoc]; exact h)
    dsimp only at hK
    refine ⟨max K K2 + 1, fun k hk => ?_⟩
    obtain ⟨k, rfl⟩ : ∃ m, k = m + 1 := ⟨k - 1, by omega⟩
    simp only [copseref03_Norm.l1]
    rw [if_pos (by omega), if_neg (by decide), if_pos (by omega), if_pos (by omega), if_pos (by omega), hK2 k (by omega), Option.bind_some, if_neg c, if_pos (by omega), wrap_succ (n := out.length) (by omega) (by omega)]
    exact hK k (by omega)
theorem ref_norm_run (x0 : List ByteArray) (hx0 : x0.length ≤ 4294967295) (hf0 : Fits x0) (d : Nat) : ∀ (i : Nat) (acc : List ByteArray), x0.length - i = d → i ≤ x0.length → acc.length ≤ i → Fits acc →
  Ev (fun k => copseref03_Norm.l0 k x0 acc (i : Int)) ((x0.drop i).foldl (fun acc x => if x ∈ acc then acc else put x acc) acc) := by
 induction d with
 | zero =>
  intro i acc hd hi ha hf
  refine ⟨1, fun k hk => ?_⟩
  obtain ⟨k, rfl⟩ : ∃ m, k = m + 1 := ⟨k - 1, by omega⟩
  simp only [copseref03_Norm.l0]
  rw [if_neg (by omega), List.drop_of_length_le (by omega)]; rfl
 | succ d ih =>
  intro i acc hd hi ha hf
  have hlt : i < x0.length := by omega
  rw [rdOf_drop x0 i hlt, List.foldl_cons]
  obtain ⟨K2, hK2⟩ := ref_has acc (rdOf ByteArray.empty x0 (i : Int)) (by omega)
  dsimp only at hK2
  by_cases h : rdOf ByteArray.empty x0 (i : Int) ∈ acc
  ·obtain ⟨K, hK⟩ := ih (i + 1) acc (by omega) (by omega) (by omega) hf
   dsimp only at hK
   rw [if_pos h]
   refine ⟨max K K2 + 1, fun k hk => ?_⟩
   obtain ⟨k, rfl⟩ : ∃ m, k = m + 1 := ⟨k - 1, by omega⟩
   simp only [copseref03_Norm.l0]
   rw [if_pos (by omega), if_pos (by omega), hK2 k (by omega), Option.bind_some, if_pos (by simpa using h), wrap_succ (n := x0.length) (by omega) (by omega)]
   exact hK k (by omega)
  ·rw [if_neg h]
   have hnext := ih (i + 1) (put (rdOf ByteArray.empty x0 (i : Int)) acc) (by omega) (by omega) (by rw [put_length]; omega) (fun p hp => by
    rcases mem_put.1 hp with rfl | hp
    ·exact hf0.at_ hlt
    ·exact hf p hp)
   obtain ⟨K, hK⟩ := ref_norm_in x0 acc i hlt (by omega) (by omega) hf0 hf _ acc.length 0 [] false (by omega) (by omega) (by simp) (by
    rw [if_neg (by decide), List.nil_append, List.drop_zero]; exact hnext)
   dsimp only at hK
   refine ⟨max K K2 + 1, fun k hk => ?_⟩
   obtain ⟨k, rfl⟩ : ∃ m, k = m + 1 := ⟨k - 1, by omega⟩
   simp only [copseref03_Norm.l0]
   rw [if_pos (by omega), if_pos (by omega), hK2 k (by omega), Option.bind_some, if_neg (by simpa using h)]
   exact hK k (by omega)
theorem ref_norm (l : List ByteArray) (hl : l.length ≤ 4294967295) (hf : Fits l) : Ev (fun k => copseref03_Norm.f k l) (norm l) := by
 refine Ev.val (ref_norm_run l hl hf l.length 0 [] (by omega) (by omega) (by simp) (fun p hp => by cases hp)) ?_
 rw [List.drop_zero]
 exact norm_fold_ins l [] List.Pairwise.nil
theorem prog_norm (l : List ByteArray) (hl : l.length ≤ 4294967295) (hf : Fits l) : Ev (fun k => paths_Norm.f k l) (norm l) :=
 ev_pure fun k => by unfold paths_Norm.f; rw [if_pos ⟨by omega, fun x hx => by have := hf x hx; omega⟩]
theorem fits_norm {l : List ByteArray} (h : Fits l) : Fits (norm l) := fun p hp => h p (mem_norm.1 hp)
theorem ref_some_run (a b : List ByteArray) (inn : Bool) (ha : a.length ≤ 1073741824) (hb : b.length ≤ 1073741824) (hfa : Fits a) (d : Nat) : ∀ (i : Nat) (acc : List ByteArray), a.length - i = d → i ≤ a.length → acc.length ≤ i → Fits acc →
  Ev (fun k => copseref03_some.l0 k a b inn acc (i : Int)) (norm (acc ++ (a.drop i).filter fun x => decide (x ∈ b) == inn)) := by
 induction d with
 | zero =>
  intro i acc hd hi hl hf
  obtain ⟨K, hK⟩ := ref_norm acc (by omega) hf
  dsimp only at hK
  refine ⟨K + 1, fun k hk => ?_⟩
  obtain ⟨k, rfl⟩ : ∃ m, k = m + 1 := ⟨k - 1, by omega⟩
  simp only [copseref03_some.l0]
  rw [if_neg (by omega), hK k (by omega), List.drop_of_length_le (by omega)]; simp
 | succ d ih =>
  intro i acc hd hi hl hf
  have hlt : i < a.length := by omega
  rw [rdOf_drop a i hlt]
  obtain ⟨K2, hK2⟩ := ref_has b (rdOf ByteArray.empty a (i : Int)) (by omega)
  dsimp only at hK2
  by_cases h : (decide (rdOf ByteArray.empty a (i : Int) ∈ b) == inn) = true
  ·obtain ⟨K, hK⟩ := ih (i + 1) (acc ++ [rdOf ByteArray.empty a (i : Int)]) (by omega) (by omega) (by simp; omega) (fun p hp => by
    rcases List.mem_append.1 hp with hp | hp
    ·exact hf p hp
    ·rw [List.mem_singleton.1 hp]; exact hfa.at_ hlt)
   dsimp only at hK
   refine ⟨max K K2 + 1, fun k hk => ?_⟩
   obtain ⟨k, rfl⟩ : ∃ m, k = m + 1 := ⟨k - 1, by omega⟩
   simp only [copseref03_some.l0]
   rw [if_pos (by omega), if_pos (by omega), hK2 k (by omega), Option.bind_some, if_pos h, if_pos (by omega), wrap_succ (n := a.length) (by omega) (by omega), hK k (by omega), List.filter_cons_of_pos (by exact h), List.append_assoc]; rfl
  ·obtain ⟨K, hK⟩ := ih (i + 1) acc (by omega) (by omega) (by omega) hf
   dsimp only at hK
   refine ⟨max K K2 + 1, fun k hk => ?_⟩
   obtain ⟨k, rfl⟩ : ∃ m, k = m + 1 := ⟨k - 1, by omega⟩
   simp only [copseref03_some.l0]
   rw [if_pos (by omega), if_pos (by omega), hK2 k (by omega), Option.bind_some, if_neg h, wrap_succ (n := a.length) (by omega) (by omega), hK k (by omega), List.filter_cons_of_neg (by exact h)]
theorem ref_some (a b : List ByteArray) (inn : Bool) (ha : a.length ≤ 1073741824) (hb : b.length ≤ 1073741824) (hfa : Fits a) : Ev (fun k => copseref03_some.f k a b inn) (norm (a.filter fun x => decide (x ∈ b) == inn)) :=
 Ev.val (ref_some_run a b inn ha hb hfa a.length 0 [] (by omega) (by omega) (by simp) (fun p hp => by cases hp)) (by simp)
theorem ref_minus (a b : List ByteArray) (ha : a.length ≤ 1073741824) (hb : b.length ≤ 1073741824) (hfa : Fits a) : Ev (fun k => copseref03_Minus.f k a b) (norm (a.filter fun x => decide (x ∈ b) == false)) := Ev.bind (ref_some a b false ha hb hfa) (ev_pure fun _ => rfl)
end Go.Proofs.YtdfkaclflmgkeaaDoor.PAll
