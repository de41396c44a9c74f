/- What functions of the program compute, each with its walk: a contract for every world and every argument of the kind told. -/
import Derived.Test.YtehfogjibhnabaaDoorDfPAllx0
import Derived.Test.YtehfogjibhnabaaDoorDfPAlly6
import Derived.Test.YtehfogjibhnabaaDoorDfPure5
namespace Go.Proofs.YtehfogjibhnabaaDoor.PAll
open Go.RowKit Go.Proofs.YtehfogjibhnabaaDoorW.PrintWords Go.Proofs.YtehfogjibhnabaaDoorW.PrintLast Go.Proofs.YtehfogjibhnabaaDoorW.PrintMore
attribute [local go_sem] max2_int min2_int max_two min_two max_three min_three max_four min_four
set_option linter.unusedVariables false
set_option linter.unusedSimpArgs false
def delta_Valid.l0 : Nat → List (S61) → List (S61) → Int → Int → Option (Bool)
 | 0, _, _, _, _ => none
 | k + 1, x0, x5, x6, x7 => if x7 < x6 then (if 0 ≤ x7 then (if x7 < (x5.length : Int) then ((delta_may.f k ((rd_T61 x5 x7).f0) ((rd_T61 x5 x7).f1) ((rd_T61 x5 x7).f2) ((rd_T61 x5 x7).f3.f0) ((rd_T61 x5 x7).f3.f1) ((rd_T61 x5 x7).f3.f2) ((rd_T61 x5 x7).f3.f3) ((rd_T61 x5 x7).f4.f0) ((rd_T61 x5 x7).f4.f1) ((rd_T61 x5 x7).f4.f2) ((rd_T61 x5 x7).f4.f3)).bind fun t238 => (if t238 = true then (if x7 > 0 then (if 0 ≤ (wrap64 (x7 - 1)) then (if (wrap64 (x7 - 1)) < (x0.length : Int) then ((path_Cmp.f k ((rd_T61 x0 (wrap64 (x7 - 1))).f0) ((rd_T61 x5 x7).f0)).bind fun t240 => (if t240 ≥ 0 then (some false) else (delta_Valid.l0 k x0 x5 x6 (wrap64 (x7 + 1))))) else (none)) else (none)) else (delta_Valid.l0 k x0 x5 x6 (wrap64 (x7 + 1)))) else (some false))) else (none)) else (none)) else (some true)
def delta_Valid.f (k : Nat) (l0 : List (S61)) : Option (Bool) := delta_Valid.l0 k l0 l0 (l0.length : Int) 0
theorem delta_Valid.mono_l : ∀ k, (∀ y0 y1 y2 y3, LeO (delta_Valid.l0 k y0 y1 y2 y3) (delta_Valid.l0 (k + 1) y0 y1 y2 y3))
 | 0 => fun _ _ _ _ r h => by simp [delta_Valid.l0] at h
 | k + 1 => by
  have ih0 := delta_Valid.mono_l k
  ·intro y0 y1 y2 y3
   unfold delta_Valid.l0
   repeat' first
   | (with_reducible exact ih0 _ _ _ _)
   | (with_reducible exact delta_may.mono _ _ _ _ _ _ _ _ _ _ _ _)
   | (with_reducible exact path_Cmp.mono _ _ _)
   | (with_reducible exact LeO.refl _)
   | (with_reducible exact LeO.none _)
   | (with_reducible refine LeO.ite ?_ ?_)
   | (with_reducible refine LeO.bind ?_ (fun _ => ?_))
   | exact ih0 _ _ _ _
   | exact delta_may.mono _ _ _ _ _ _ _ _ _ _ _ _
   | exact path_Cmp.mono _ _ _
   | exact LeO.none _
   | refine LeO.ite ?_ ?_
   | refine LeO.bind ?_ (fun _ => ?_)
theorem delta_Valid.mono : ∀ a0 k, LeO (delta_Valid.f k a0) (delta_Valid.f (k + 1) a0) := by
 intro a0 k
 have ih0 := delta_Valid.mono_l k
 unfold delta_Valid.f
 repeat' first
   | (with_reducible exact ih0 _ _ _ _)
   | (with_reducible exact delta_may.mono _ _ _ _ _ _ _ _ _ _ _ _)
   | (with_reducible exact path_Cmp.mono _ _ _)
   | (with_reducible exact LeO.refl _)
   | (with_reducible exact LeO.none _)
   | (with_reducible refine LeO.ite ?_ ?_)
   | (with_reducible refine LeO.bind ?_ (fun _ => ?_))
   | exact ih0 _ _ _ _
   | exact delta_may.mono _ _ _ _ _ _ _ _ _ _ _ _
   | exact path_Cmp.mono _ _ _
   | exact LeO.none _
   | refine LeO.ite ?_ ?_
   | refine LeO.bind ?_ (fun _ => ?_)
def delta_Valid.T4 : Bool × List (List Nat × List Nat) := (true, [([], []), ([0], [0]), ([1], [1]), ([2, 1], [2]), ([3], [3]), ([4, 3], [3, 4]), ([5, 3, 3], [3, 5]), ([6], [6]), ([6], [6]), ([8, 6], [6, 8]), ([7, 9, 6], [6, 7, 9]), ([10, 6], [6, 10]), ([11, 6], [6, 11]), ([6], [6]), ([13, 6], [6, 13]), ([12, 14, 6, 6], [6, 12, 14]), ([15, 6], [6, 15]), ([6, 16, 3], [3, 6, 16]), ([3, 17], [3, 17])])
def delta_Valid.B4 : List Nat := [0, 1, 3, 7, 15, 31, 63, 127, 127, 383, 1023, 2047, 4095, 127, 8319, 32767, 65535, 131071, 262143]
theorem delta_Valid.tab4 : rtab .any (opsOf Tryd.f27 4) = delta_Valid.T4 := by kernel_rfl
theorem delta_Valid.bits4 : waitsOk delta_Valid.T4.2 delta_Valid.B4 = true := by kernel_rfl
set_option maxHeartbeats 8000000 in
set_option maxRecDepth 100000 in
theorem delta_Valid.calls (k : Nat) (A0 : Option Addr) (c0 : Nat) (l0 : List (S61)) (r : Bool) (w : World) (hr0 : Kd.C k61 w A0 l0.length l0) (hc0 : l0.length ≤ c0) (h : delta_Valid.f k l0 = some r) :
  Calls Tryd.prog 27 #[.slice A0 l0.length c0] w fun e w' => e = .returned (.bool r) ∧ Below w.heap.size w w' := by
 have hu61 := Tryd.underlying61
 have HR0 := Aside0.mk hr0
 have HC0 := Aside0.mk hc0
 clear hr0 hc0
 have HB := Aside0.mk (Below.refl w.heap.size w)
 have H : (delta_Valid.l0 k l0 l0 (l0.length : Int) 0) = some r := h
 clear h
 have H' := Aside0.mk H
 clear H
 go_enter Tryd.func27, Tryd.ntmps27
 go_wp2
 go_loopg [7] k (fun kq v7 w' => ∃ (x7_1 : Int), v7 = .int .i64 x7_1 ∧ Aside0 (delta_Valid.l0 kq l0 l0 (l0.length : Int) x7_1 = some r) ∧ Aside0 (kq ≤ k) ∧ Aside0 (Below w.heap.size w w'))
 case atStart => exact ⟨(0), (by first | rfl | (simp; done) | (simp [*]; done)), H', ⟨Nat.le_refl _⟩, ⟨by repeat (first | (with_reducible first | exact HB.out | apply below_alloc | apply pw_below_drewN | apply below_drew1) | exact HB.out)⟩⟩
 case round =>
  clear H'
  obtain ⟨x7_1, rfl, HA, HK1, HB⟩ := hrel
  cases gk with
  | zero => exact absurd HA.out (by simp [delta_Valid.l0])
  | succ k1 =>
   have H := HA.out
   clear HA
   simp only [delta_Valid.l0] at H
   by_cases c2 : x7_1 < (l0.length : Int)
   ·rw [if_pos c2] at H
    have c2b0 := decide_eq_true c2
    clear c2
    by_cases c3 : 0 ≤ x7_1
    ·rw [if_pos c3] at H
     have c3b0 := decide_eq_true c3
     clear c3
     by_cases c4 : x7_1 < (l0.length : Int)
     ·rw [if_pos c4] at H
      have c4b0 := decide_eq_true c4
      clear c4
      replace H := Option.bind_eq_some_iff.mp H
      obtain ⟨t238, A50, H⟩ := H
      try dsimp only at H
      have A5 := Aside0.mk A50
      clear A50
      by_cases c6 : t238 = true
      ·subst c6
       rw [if_pos rfl] at H
       have H1 := H
       clear H
       have H := H1
       clear H1
       by_cases c7 : x7_1 > 0
       ·rw [if_pos c7] at H
        have c7b0 := decide_eq_true c7
        clear c7
        obtain ⟨ji8, hji8⟩ : ∃ j_ : Int, (wrap64 (x7_1 - 1)) = j_ := ⟨_, rfl⟩
        replace H : (if 0 ≤ (ji8) then (if (ji8) < (l0.length : Int) then ((path_Cmp.f k1 ((rd_T61 l0 (ji8)).f0) ((rd_T61 l0 x7_1).f0)).bind fun t240 => (if t240 ≥ 0 then (some false) else (delta_Valid.l0 k1 l0 l0 (l0.length : Int) (wrap64 (x7_1 + 1))))) else (none)) else (none)) = some r := by first | (rw [hji8] at H; exact H) | (simp only [hji8] at H ⊢; exact H)
        (try rw [hji8] at A5)
        have hji8w : (IntKind.i64.wrap (x7_1 - 1)) = ji8 := (i64_w _).trans hji8
        by_cases c9 : 0 ≤ (ji8)
        ·rw [if_pos c9] at H
         have c9b0 := decide_eq_true c9
         clear c9
         by_cases c10 : (ji8) < (l0.length : Int)
         ·rw [if_pos c10] at H
          have c10b0 := decide_eq_true c10
          clear c10
          replace H := Option.bind_eq_some_iff.mp H
          obtain ⟨t240, A110, H⟩ := H
          try dsimp only at H
          have A11 := Aside0.mk A110
          clear A110
          by_cases c12 : t240 ≥ 0
          ·rw [if_pos c12] at H
           have c12b0 := decide_eq_true c12
           clear c12
           obtain rfl := Option.some.inj H
           have p236 : 0 ≤ (x7_1 : Int) := of_decide_eq_true (by first | (with_reducible assumption) | assumption)
           have q236 : x7_1 < (l0.length : Int) := of_decide_eq_true (by first | (with_reducible assumption) | assumption)
           obtain ⟨ad236, e236, hx236_0, hx236_1, hx236_2, hx236_3, hx236_4, hx236_5, hx236_6, hx236_7, hx236_8, hx236_9, hx236_10⟩ := at_T61 HR0.out x7_1 p236 q236
           cases e236
           replace hx236_0 := (HB.out.cell (World.block_lt_of_cell? w _ hx236_0)).trans hx236_0
           replace hx236_1 := (HB.out.cell (World.block_lt_of_cell? w _ hx236_1)).trans hx236_1
           replace hx236_2 := (HB.out.cell (World.block_lt_of_cell? w _ hx236_2)).trans hx236_2
           replace hx236_3 := (HB.out.cell (World.block_lt_of_cell? w _ hx236_3)).trans hx236_3
           replace hx236_4 := (HB.out.cell (World.block_lt_of_cell? w _ hx236_4)).trans hx236_4
           replace hx236_5 := (HB.out.cell (World.block_lt_of_cell? w _ hx236_5)).trans hx236_5
           replace hx236_6 := (HB.out.cell (World.block_lt_of_cell? w _ hx236_6)).trans hx236_6
           replace hx236_7 := (HB.out.cell (World.block_lt_of_cell? w _ hx236_7)).trans hx236_7
           replace hx236_8 := (HB.out.cell (World.block_lt_of_cell? w _ hx236_8)).trans hx236_8
           replace hx236_9 := (HB.out.cell (World.block_lt_of_cell? w _ hx236_9)).trans hx236_9
           replace hx236_10 := (HB.out.cell (World.block_lt_of_cell? w _ hx236_10)).trans hx236_10
           replace p236 := eq_true p236
           replace q236 := eq_true q236
           try go_wp2_with (first | ((with_reducible refine gate_dst (N := 4) rfl ?_); refine box_event ?hg (N := 4) ?hd (cs := #[.string (⟨#[]⟩ : ByteArray), .bool false, .bool false, .string (⟨#[]⟩ : ByteArray), .string (⟨#[]⟩ : ByteArray), .int .i64 0, .int .i64 0, .string (⟨#[]⟩ : ByteArray), .string (⟨#[]⟩ : ByteArray), .int .i64 0, .int .i64 0]) (t := 61) ?hr ?_; (case hd => rfl); (case hg => rfl); (case hr => first | (go_simp; done) | (go_simp; rfl)); intro gb237 hg w13 hbox hb; have n0_ := Aside0.mk (below_step (by repeat (first | (with_reducible first | exact HB.out | apply below_alloc | apply pw_below_drewN | apply below_drew1) | exact HB.out)) hb); have n1_ := Aside0.mk (hbox); have n2_ := Aside0.mk ((by rw [hg]; exact (below_size (by repeat (first | (with_reducible first | exact HB.out | apply below_alloc | apply pw_below_drewN | apply below_drew1) | exact HB.out))) : w.heap.size ≤ gb237)); have n3_ := Aside0.mk ((by rw [hg]; exact (below_size (by repeat (first | (with_reducible first | exact HB.out | apply below_alloc | apply pw_below_drewN | apply below_drew1) | exact HB.out))) : w.heap.size ≤ gb237)); clear HB; have HB := n0_; have BK237 := n1_; have GW237 := n2_; have GE237 := n3_; clear n0_ n1_ n2_ n3_; clear hb hbox hg; have hcz14_0 : w13.cell? ⟨gb237, 0, none⟩ = some (.string (⟨#[]⟩ : ByteArray)) := (blk_cell BK237.out 0).trans rfl; have hcz14_1 : w13.cell? ⟨gb237, 1, none⟩ = some (.bool false) := (blk_cell BK237.out 1).trans rfl; have hcz14_2 : w13.cell? ⟨gb237, 2, none⟩ = some (.bool false) := (blk_cell BK237.out 2).trans rfl; have hcz14_3 : w13.cell? ⟨gb237, 3, none⟩ = some (.string (⟨#[]⟩ : ByteArray)) := (blk_cell BK237.out 3).trans rfl; have hcz14_4 : w13.cell? ⟨gb237, 4, none⟩ = some (.string (⟨#[]⟩ : ByteArray)) := (blk_cell BK237.out 4).trans rfl; have hcz14_5 : w13.cell? ⟨gb237, 5, none⟩ = some (.int .i64 0) := (blk_cell BK237.out 5).trans rfl; have hcz14_6 : w13.cell? ⟨gb237, 6, none⟩ = some (.int .i64 0) := (blk_cell BK237.out 6).trans rfl; have hcz14_7 : w13.cell? ⟨gb237, 7, none⟩ = some (.string (⟨#[]⟩ : ByteArray)) := (blk_cell BK237.out 7).trans rfl; have hcz14_8 : w13.cell? ⟨gb237, 8, none⟩ = some (.string (⟨#[]⟩ : ByteArray)) := (blk_cell BK237.out 8).trans rfl; have hcz14_9 : w13.cell? ⟨gb237, 9, none⟩ = some (.int .i64 0) := (blk_cell BK237.out 9).trans rfl; have hcz14_10 : w13.cell? ⟨gb237, 10, none⟩ = some (.int .i64 0) := (blk_cell BK237.out 10).trans rfl; have hfz14_0 := blk_frozen BK237.out 0; have hfz14_1 := blk_frozen BK237.out 1; have hfz14_2 := blk_frozen BK237.out 2; have hfz14_3 := blk_frozen BK237.out 3; have hfz14_4 := blk_frozen BK237.out 4; have hfz14_5 := blk_frozen BK237.out 5; have hfz14_6 := blk_frozen BK237.out 6; have hfz14_7 := blk_frozen BK237.out 7; have hfz14_8 := blk_frozen BK237.out 8; have hfz14_9 := blk_frozen BK237.out 9; have hfz14_10 := blk_frozen BK237.out 10))
           have n0_ : Aside0 ((((((((((((w13.setCell ⟨gb237, 0, none⟩ (.string ((rd_T61 l0 x7_1).f0))).setCell ⟨gb237, 1, none⟩ (.bool ((rd_T61 l0 x7_1).f1))).setCell ⟨gb237, 2, none⟩ (.bool ((rd_T61 l0 x7_1).f2))).setCell ⟨gb237, 3, none⟩ (.string ((rd_T61 l0 x7_1).f3.f0))).setCell ⟨gb237, 4, none⟩ (.string ((rd_T61 l0 x7_1).f3.f1))).setCell ⟨gb237, 5, none⟩ (.int .i64 ((rd_T61 l0 x7_1).f3.f2))).setCell ⟨gb237, 6, none⟩ (.int .i64 ((rd_T61 l0 x7_1).f3.f3))).setCell ⟨gb237, 7, none⟩ (.string ((rd_T61 l0 x7_1).f4.f0))).setCell ⟨gb237, 8, none⟩ (.string ((rd_T61 l0 x7_1).f4.f1))).setCell ⟨gb237, 9, none⟩ (.int .i64 ((rd_T61 l0 x7_1).f4.f2))).setCell ⟨gb237, 10, none⟩ (.int .i64 ((rd_T61 l0 x7_1).f4.f3))).heap[gb237]? = some (.cells #[.string ((rd_T61 l0 x7_1).f0), .bool ((rd_T61 l0 x7_1).f1), .bool ((rd_T61 l0 x7_1).f2), .string ((rd_T61 l0 x7_1).f3.f0), .string ((rd_T61 l0 x7_1).f3.f1), .int .i64 ((rd_T61 l0 x7_1).f3.f2), .int .i64 ((rd_T61 l0 x7_1).f3.f3), .string ((rd_T61 l0 x7_1).f4.f0), .string ((rd_T61 l0 x7_1).f4.f1), .int .i64 ((rd_T61 l0 x7_1).f4.f2), .int .i64 ((rd_T61 l0 x7_1).f4.f3)] 61 (0, 0))) := ⟨by (with_reducible repeat (first | refine blk_drewN ?_ _ | refine blk_drew ?_ | refine blk_alloc ?_ _)); refine blk_put (cs := #[.string ((rd_T61 l0 x7_1).f0), .bool ((rd_T61 l0 x7_1).f1), .bool ((rd_T61 l0 x7_1).f2), .string ((rd_T61 l0 x7_1).f3.f0), .string ((rd_T61 l0 x7_1).f3.f1), .int .i64 ((rd_T61 l0 x7_1).f3.f2), .int .i64 ((rd_T61 l0 x7_1).f3.f3), .string ((rd_T61 l0 x7_1).f4.f0), .string ((rd_T61 l0 x7_1).f4.f1), .int .i64 ((rd_T61 l0 x7_1).f4.f2), .int .i64 0]) ?_ 10 _ rfl; (with_reducible repeat (first | refine blk_drewN ?_ _ | refine blk_drew ?_ | refine blk_alloc ?_ _)); refine blk_put (cs := #[.string ((rd_T61 l0 x7_1).f0), .bool ((rd_T61 l0 x7_1).f1), .bool ((rd_T61 l0 x7_1).f2), .string ((rd_T61 l0 x7_1).f3.f0), .string ((rd_T61 l0 x7_1).f3.f1), .int .i64 ((rd_T61 l0 x7_1).f3.f2), .int .i64 ((rd_T61 l0 x7_1).f3.f3), .string ((rd_T61 l0 x7_1).f4.f0), .string ((rd_T61 l0 x7_1).f4.f1), .int .i64 0, .int .i64 0]) ?_ 9 _ rfl; (with_reducible repeat (first | refine blk_drewN ?_ _ | refine blk_drew ?_ | refine blk_alloc ?_ _)); refine blk_put (cs := #[.string ((rd_T61 l0 x7_1).f0), .bool ((rd_T61 l0 x7_1).f1), .bool ((rd_T61 l0 x7_1).f2), .string ((rd_T61 l0 x7_1).f3.f0), .string ((rd_T61 l0 x7_1).f3.f1), .int .i64 ((rd_T61 l0 x7_1).f3.f2), .int .i64 ((rd_T61 l0 x7_1).f3.f3), .string ((rd_T61 l0 x7_1).f4.f0), .string (⟨#[]⟩ : ByteArray), .int .i64 0, .int .i64 0]) ?_ 8 _ rfl; (with_reducible repeat (first | refine blk_drewN ?_ _ | refine blk_drew ?_ | refine blk_alloc ?_ _)); refine blk_put (cs := #[.string ((rd_T61 l0 x7_1).f0), .bool ((rd_T61 l0 x7_1).f1), .bool ((rd_T61 l0 x7_1).f2), .string ((rd_T61 l0 x7_1).f3.f0), .string ((rd_T61 l0 x7_1).f3.f1), .int .i64 ((rd_T61 l0 x7_1).f3.f2), .int .i64 ((rd_T61 l0 x7_1).f3.f3), .string (⟨#[]⟩ : ByteArray), .string (⟨#[]⟩ : ByteArray), .int .i64 0, .int .i64 0]) ?_ 7 _ rfl; (with_reducible repeat (first | refine blk_drewN ?_ _ | refine blk_drew ?_ | refine blk_alloc ?_ _)); refine blk_put (cs := #[.string ((rd_T61 l0 x7_1).f0), .bool ((rd_T61 l0 x7_1).f1), .bool ((rd_T61 l0 x7_1).f2), .string ((rd_T61 l0 x7_1).f3.f0), .string ((rd_T61 l0 x7_1).f3.f1), .int .i64 ((rd_T61 l0 x7_1).f3.f2), .int .i64 0, .string (⟨#[]⟩ : ByteArray), .string (⟨#[]⟩ : ByteArray), .int .i64 0, .int .i64 0]) ?_ 6 _ rfl; (with_reducible repeat (first | refine blk_drewN ?_ _ | refine blk_drew ?_ | refine blk_alloc ?_ _)); refine blk_put (cs := #[.string ((rd_T61 l0 x7_1).f0), .bool ((rd_T61 l0 x7_1).f1), .bool ((rd_T61 l0 x7_1).f2), .string ((rd_T61 l0 x7_1).f3.f0), .string ((rd_T61 l0 x7_1).f3.f1), .int .i64 0, .int .i64 0, .string (⟨#[]⟩ : ByteArray), .string (⟨#[]⟩ : ByteArray), .int .i64 0, .int .i64 0]) ?_ 5 _ rfl; (with_reducible repeat (first | refine blk_drewN ?_ _ | refine blk_drew ?_ | refine blk_alloc ?_ _)); refine blk_put (cs := #[.string ((rd_T61 l0 x7_1).f0), .bool ((rd_T61 l0 x7_1).f1), .bool ((rd_T61 l0 x7_1).f2), .string ((rd_T61 l0 x7_1).f3.f0), .string (⟨#[]⟩ : ByteArray), .int .i64 0, .int .i64 0, .string (⟨#[]⟩ : ByteArray), .string (⟨#[]⟩ : ByteArray), .int .i64 0, .int .i64 0]) ?_ 4 _ rfl; (with_reducible repeat (first | refine blk_drewN ?_ _ | refine blk_drew ?_ | refine blk_alloc ?_ _)); refine blk_put (cs := #[.string ((rd_T61 l0 x7_1).f0), .bool ((rd_T61 l0 x7_1).f1), .bool ((rd_T61 l0 x7_1).f2), .string (⟨#[]⟩ : ByteArray), .string (⟨#[]⟩ : ByteArray), .int .i64 0, .int .i64 0, .string (⟨#[]⟩ : ByteArray), .string (⟨#[]⟩ : ByteArray), .int .i64 0, .int .i64 0]) ?_ 3 _ rfl; (with_reducible repeat (first | refine blk_drewN ?_ _ | refine blk_drew ?_ | refine blk_alloc ?_ _)); refine blk_put (cs := #[.string ((rd_T61 l0 x7_1).f0), .bool ((rd_T61 l0 x7_1).f1), .bool false, .string (⟨#[]⟩ : ByteArray), .string (⟨#[]⟩ : ByteArray), .int .i64 0, .int .i64 0, .string (⟨#[]⟩ : ByteArray), .string (⟨#[]⟩ : ByteArray), .int .i64 0, .int .i64 0]) ?_ 2 _ rfl; (with_reducible repeat (first | refine blk_drewN ?_ _ | refine blk_drew ?_ | refine blk_alloc ?_ _)); refine blk_put (cs := #[.string ((rd_T61 l0 x7_1).f0), .bool false, .bool false, .string (⟨#[]⟩ : ByteArray), .string (⟨#[]⟩ : ByteArray), .int .i64 0, .int .i64 0, .string (⟨#[]⟩ : ByteArray), .string (⟨#[]⟩ : ByteArray), .int .i64 0, .int .i64 0]) ?_ 1 _ rfl; (with_reducible repeat (first | refine blk_drewN ?_ _ | refine blk_drew ?_ | refine blk_alloc ?_ _)); refine blk_put (cs := #[.string (⟨#[]⟩ : ByteArray), .bool false, .bool false, .string (⟨#[]⟩ : ByteArray), .string (⟨#[]⟩ : ByteArray), .int .i64 0, .int .i64 0, .string (⟨#[]⟩ : ByteArray), .string (⟨#[]⟩ : ByteArray), .int .i64 0, .int .i64 0]) ?_ 0 _ rfl; (with_reducible repeat (first | refine blk_drewN ?_ _ | refine blk_drew ?_ | refine blk_alloc ?_ _)); exact BK237.out⟩
           have n1_ : Aside0 (Below w.heap.size w (((((((((((w13.setCell ⟨gb237, 0, none⟩ (.string ((rd_T61 l0 x7_1).f0))).setCell ⟨gb237, 1, none⟩ (.bool ((rd_T61 l0 x7_1).f1))).setCell ⟨gb237, 2, none⟩ (.bool ((rd_T61 l0 x7_1).f2))).setCell ⟨gb237, 3, none⟩ (.string ((rd_T61 l0 x7_1).f3.f0))).setCell ⟨gb237, 4, none⟩ (.string ((rd_T61 l0 x7_1).f3.f1))).setCell ⟨gb237, 5, none⟩ (.int .i64 ((rd_T61 l0 x7_1).f3.f2))).setCell ⟨gb237, 6, none⟩ (.int .i64 ((rd_T61 l0 x7_1).f3.f3))).setCell ⟨gb237, 7, none⟩ (.string ((rd_T61 l0 x7_1).f4.f0))).setCell ⟨gb237, 8, none⟩ (.string ((rd_T61 l0 x7_1).f4.f1))).setCell ⟨gb237, 9, none⟩ (.int .i64 ((rd_T61 l0 x7_1).f4.f2))).setCell ⟨gb237, 10, none⟩ (.int .i64 ((rd_T61 l0 x7_1).f4.f3)))) := ⟨by repeat (first | (with_reducible first | exact HB.out | apply below_alloc | apply pw_below_drewN | apply below_drew1 | refine below_set ?_ GE237.out) | exact HB.out)⟩
           (try clear BK237)
           (try clear HB)
           generalize (((((((((((w13.setCell ⟨gb237, 0, none⟩ (.string ((rd_T61 l0 x7_1).f0))).setCell ⟨gb237, 1, none⟩ (.bool ((rd_T61 l0 x7_1).f1))).setCell ⟨gb237, 2, none⟩ (.bool ((rd_T61 l0 x7_1).f2))).setCell ⟨gb237, 3, none⟩ (.string ((rd_T61 l0 x7_1).f3.f0))).setCell ⟨gb237, 4, none⟩ (.string ((rd_T61 l0 x7_1).f3.f1))).setCell ⟨gb237, 5, none⟩ (.int .i64 ((rd_T61 l0 x7_1).f3.f2))).setCell ⟨gb237, 6, none⟩ (.int .i64 ((rd_T61 l0 x7_1).f3.f3))).setCell ⟨gb237, 7, none⟩ (.string ((rd_T61 l0 x7_1).f4.f0))).setCell ⟨gb237, 8, none⟩ (.string ((rd_T61 l0 x7_1).f4.f1))).setCell ⟨gb237, 9, none⟩ (.int .i64 ((rd_T61 l0 x7_1).f4.f2))).setCell ⟨gb237, 10, none⟩ (.int .i64 ((rd_T61 l0 x7_1).f4.f3))) = w15 at n0_ n1_ ⊢
           have BK237 := n0_
           have HB := n1_
           clear n0_ n1_
           have n0_ := Aside0.mk (blk_drew BK237.out)
           have n1_ := Aside0.mk (below_drew1 HB.out)
           clear BK237
           clear HB
           have BK237 := n0_
           have HB := n1_
           clear n0_ n1_
           have p239 : 0 ≤ ((ji8) : Int) := of_decide_eq_true (by first | (with_reducible assumption) | assumption)
           have q239 : (ji8) < (l0.length : Int) := of_decide_eq_true (by first | (with_reducible assumption) | assumption)
           obtain ⟨ad239, e239, hx239_0, hx239_1, hx239_2, hx239_3, hx239_4, hx239_5, hx239_6, hx239_7, hx239_8, hx239_9, hx239_10⟩ := at_T61 HR0.out (ji8) p239 q239
           have hw239_10 := hx239_10
           have hw239_9 := hx239_9
           have hw239_8 := hx239_8
           have hw239_7 := hx239_7
           have hw239_6 := hx239_6
           have hw239_5 := hx239_5
           have hw239_4 := hx239_4
           have hw239_3 := hx239_3
           have hw239_2 := hx239_2
           have hw239_1 := hx239_1
           have hw239_0 := hx239_0
           obtain rfl : ad236 = ad239 := (by injection e239)
           replace hx239_0 := (HB.out.cell (World.block_lt_of_cell? w _ hx239_0)).trans hx239_0
           replace hx239_1 := (HB.out.cell (World.block_lt_of_cell? w _ hx239_1)).trans hx239_1
           replace hx239_2 := (HB.out.cell (World.block_lt_of_cell? w _ hx239_2)).trans hx239_2
           replace hx239_3 := (HB.out.cell (World.block_lt_of_cell? w _ hx239_3)).trans hx239_3
           replace hx239_4 := (HB.out.cell (World.block_lt_of_cell? w _ hx239_4)).trans hx239_4
           replace hx239_5 := (HB.out.cell (World.block_lt_of_cell? w _ hx239_5)).trans hx239_5
           replace hx239_6 := (HB.out.cell (World.block_lt_of_cell? w _ hx239_6)).trans hx239_6
           replace hx239_7 := (HB.out.cell (World.block_lt_of_cell? w _ hx239_7)).trans hx239_7
           replace hx239_8 := (HB.out.cell (World.block_lt_of_cell? w _ hx239_8)).trans hx239_8
           replace hx239_9 := (HB.out.cell (World.block_lt_of_cell? w _ hx239_9)).trans hx239_9
           replace hx239_10 := (HB.out.cell (World.block_lt_of_cell? w _ hx239_10)).trans hx239_10
           replace p239 := eq_true p239
           replace q239 := eq_true q239
           refine start_ (n := 19) (S := fun w' => w'.cell? ⟨gb237, 0, none⟩ = some (.string ((rd_T61 l0 x7_1).f0)) ∧ w'.cell? ⟨gb237, 1, none⟩ = some (.bool ((rd_T61 l0 x7_1).f1)) ∧ w'.cell? ⟨gb237, 2, none⟩ = some (.bool ((rd_T61 l0 x7_1).f2)) ∧ w'.cell? ⟨gb237, 3, none⟩ = some (.string ((rd_T61 l0 x7_1).f3.f0)) ∧ w'.cell? ⟨gb237, 4, none⟩ = some (.string ((rd_T61 l0 x7_1).f3.f1)) ∧ w'.cell? ⟨gb237, 5, none⟩ = some (.int .i64 ((rd_T61 l0 x7_1).f3.f2)) ∧ w'.cell? ⟨gb237, 6, none⟩ = some (.int .i64 ((rd_T61 l0 x7_1).f3.f3)) ∧ w'.cell? ⟨gb237, 7, none⟩ = some (.string ((rd_T61 l0 x7_1).f4.f0)) ∧ w'.cell? ⟨gb237, 8, none⟩ = some (.string ((rd_T61 l0 x7_1).f4.f1)) ∧ w'.cell? ⟨gb237, 9, none⟩ = some (.int .i64 ((rd_T61 l0 x7_1).f4.f2)) ∧ w'.cell? ⟨gb237, 10, none⟩ = some (.int .i64 ((rd_T61 l0 x7_1).f4.f3)) ∧ w'.cell? (ad236.add (((ji8)).toNat * 11)) = some (.string ((rd_T61 l0 (ji8)).f0)) ∧ w'.cell? ⟨(ad236.add (((ji8)).toNat * 11)).block, (ad236.add (((ji8)).toNat * 11)).off + 1, none⟩ = some (.bool ((rd_T61 l0 (ji8)).f1)) ∧ w'.cell? ⟨(ad236.add (((ji8)).toNat * 11)).block, (ad236.add (((ji8)).toNat * 11)).off + 2, none⟩ = some (.bool ((rd_T61 l0 (ji8)).f2)) ∧ w'.cell? ⟨(ad236.add (((ji8)).toNat * 11)).block, (ad236.add (((ji8)).toNat * 11)).off + 3, none⟩ = some (.string ((rd_T61 l0 (ji8)).f3.f0)) ∧ w'.cell? ⟨(ad236.add (((ji8)).toNat * 11)).block, (ad236.add (((ji8)).toNat * 11)).off + 4, none⟩ = some (.string ((rd_T61 l0 (ji8)).f3.f1)) ∧ w'.cell? ⟨(ad236.add (((ji8)).toNat * 11)).block, (ad236.add (((ji8)).toNat * 11)).off + 5, none⟩ = some (.int .i64 ((rd_T61 l0 (ji8)).f3.f2)) ∧ w'.cell? ⟨(ad236.add (((ji8)).toNat * 11)).block, (ad236.add (((ji8)).toNat * 11)).off + 6, none⟩ = some (.int .i64 ((rd_T61 l0 (ji8)).f3.f3)) ∧ w'.cell? ⟨(ad236.add (((ji8)).toNat * 11)).block, (ad236.add (((ji8)).toNat * 11)).off + 7, none⟩ = some (.string ((rd_T61 l0 (ji8)).f4.f0)) ∧ w'.cell? ⟨(ad236.add (((ji8)).toNat * 11)).block, (ad236.add (((ji8)).toNat * 11)).off + 8, none⟩ = some (.string ((rd_T61 l0 (ji8)).f4.f1)) ∧ w'.cell? ⟨(ad236.add (((ji8)).toNat * 11)).block, (ad236.add (((ji8)).toNat * 11)).off + 9, none⟩ = some (.int .i64 ((rd_T61 l0 (ji8)).f4.f2)) ∧ w'.cell? ⟨(ad236.add (((ji8)).toNat * 11)).block, (ad236.add (((ji8)).toNat * 11)).off + 10, none⟩ = some (.int .i64 ((rd_T61 l0 (ji8)).f4.f3))) (ds := []) (lb 19 0) (by kernel_rfl) rfl rfl ⟨(blk_cell BK237.out 0).trans rfl, (blk_cell BK237.out 1).trans rfl, (blk_cell BK237.out 2).trans rfl, (blk_cell BK237.out 3).trans rfl, (blk_cell BK237.out 4).trans rfl, (blk_cell BK237.out 5).trans rfl, (blk_cell BK237.out 6).trans rfl, (blk_cell BK237.out 7).trans rfl, (blk_cell BK237.out 8).trans rfl, (blk_cell BK237.out 9).trans rfl, (blk_cell BK237.out 10).trans rfl, ((HB.out.cell (World.block_lt_of_cell? w _ hw239_0)).trans hw239_0), ((HB.out.cell (World.block_lt_of_cell? w _ hw239_1)).trans hw239_1), ((HB.out.cell (World.block_lt_of_cell? w _ hw239_2)).trans hw239_2), ((HB.out.cell (World.block_lt_of_cell? w _ hw239_3)).trans hw239_3), ((HB.out.cell (World.block_lt_of_cell? w _ hw239_4)).trans hw239_4), ((HB.out.cell (World.block_lt_of_cell? w _ hw239_5)).trans hw239_5), ((HB.out.cell (World.block_lt_of_cell? w _ hw239_6)).trans hw239_6), ((HB.out.cell (World.block_lt_of_cell? w _ hw239_7)).trans hw239_7), ((HB.out.cell (World.block_lt_of_cell? w _ hw239_8)).trans hw239_8), ((HB.out.cell (World.block_lt_of_cell? w _ hw239_9)).trans hw239_9), ((HB.out.cell (World.block_lt_of_cell? w _ hw239_10)).trans hw239_10)⟩ (fun hHeld => ?_); refine with_tabW delta_Valid.tab4 delta_Valid.bits4 (fun HT_ HW_ => ?_)
           generalize w15.drew = w16 at BK237 HB hx239_0 hx239_1 hx239_10 hx239_2 hx239_3 hx239_4 hx239_5 hx239_6 hx239_7 hx239_8 hx239_9 hHeld ⊢
           refine take_ (i := 0) (N := some 12) (v := ?_) (a' := ?_) (lb 19 1) rfl rfl (take_ofW HT_.out HW_.out (by kernel_rfl)) (fun _ _ _ h => h) (Or.inl ⟨by rfl, ?_⟩) hHeld ?_ ?_
           rotate_left
           ·rintro w' ⟨s0, s1, s2, s3, s4, s5, s6, s7, s8, s9, s10, s11, s12, s13, s14, s15, s16, s17, s18, s19, s20, s21⟩
            go_simp
            with_reducible rfl
           rotate_left
           ·simp only [Act.put, List.setIfInBounds_toArray, List.set_cons_zero, List.set_cons_succ, i64_w, i32_w]
            rfl
           refine one_ (i := 1) (N := some 13) (lb 19 3) rfl rfl (one_of HT_.out (by kernel_rfl)) (by decide) (fun K hK => ?_)
           refine goes_ Tryd.func60 (by kernel_rfl) rfl #[.agg #[.string ((rd_T61 l0 x7_1).f0), .bool ((rd_T61 l0 x7_1).f1), .bool ((rd_T61 l0 x7_1).f2), .string ((rd_T61 l0 x7_1).f3.f0), .string ((rd_T61 l0 x7_1).f3.f1), .int .i64 ((rd_T61 l0 x7_1).f3.f2), .int .i64 ((rd_T61 l0 x7_1).f3.f3), .string ((rd_T61 l0 x7_1).f4.f0), .string ((rd_T61 l0 x7_1).f4.f1), .int .i64 ((rd_T61 l0 x7_1).f4.f2), .int .i64 ((rd_T61 l0 x7_1).f4.f3)]] (by rfl) rfl rfl (by (try simp only [List.map_toArray, List.map_cons, List.map_nil]); first | done | rfl | (simp only [List.length_drop, List.length_take]; rfl)) ?_
           with_reducible refine (delta_may.calls k1 ((rd_T61 l0 x7_1).f0) ((rd_T61 l0 x7_1).f1) ((rd_T61 l0 x7_1).f2) ((rd_T61 l0 x7_1).f3.f0) ((rd_T61 l0 x7_1).f3.f1) ((rd_T61 l0 x7_1).f3.f2) ((rd_T61 l0 x7_1).f3.f3) ((rd_T61 l0 x7_1).f4.f0) ((rd_T61 l0 x7_1).f4.f1) ((rd_T61 l0 x7_1).f4.f2) ((rd_T61 l0 x7_1).f4.f3) true _ A5.out).mono ?_
           rintro e w17 ⟨rfl, hb⟩
           refine ⟨_, rfl, ?_⟩
           have n0_ := Aside0.mk (blk_below (g := gb237) (o := .cells #[.string ((rd_T61 l0 x7_1).f0), .bool ((rd_T61 l0 x7_1).f1), .bool ((rd_T61 l0 x7_1).f2), .string ((rd_T61 l0 x7_1).f3.f0), .string ((rd_T61 l0 x7_1).f3.f1), .int .i64 ((rd_T61 l0 x7_1).f3.f2), .int .i64 ((rd_T61 l0 x7_1).f3.f3), .string ((rd_T61 l0 x7_1).f4.f0), .string ((rd_T61 l0 x7_1).f4.f1), .int .i64 ((rd_T61 l0 x7_1).f4.f2), .int .i64 ((rd_T61 l0 x7_1).f4.f3)] 61 (0, 0)) (by (with_reducible repeat (first | refine blk_drewN ?_ _ | refine blk_drew ?_ | refine blk_alloc ?_ _)); exact BK237.out) hb)
           have n1_ := Aside0.mk (below_step (by repeat (first | (with_reducible first | exact HB.out | apply below_alloc | apply pw_below_drewN | apply below_drew1 | refine below_set ?_ GE237.out) | exact HB.out)) hb)
           clear BK237
           clear HB
           have BK237 := n0_
           have HB := n1_
           clear n0_ n1_
           (try clear hb)
           (try clear hb2)
           (try clear hk)
           (try clear hi)
           refine hK.out _ _ ⟨(blk_cell BK237.out 0).trans rfl, (blk_cell BK237.out 1).trans rfl, (blk_cell BK237.out 2).trans rfl, (blk_cell BK237.out 3).trans rfl, (blk_cell BK237.out 4).trans rfl, (blk_cell BK237.out 5).trans rfl, (blk_cell BK237.out 6).trans rfl, (blk_cell BK237.out 7).trans rfl, (blk_cell BK237.out 8).trans rfl, (blk_cell BK237.out 9).trans rfl, (blk_cell BK237.out 10).trans rfl, ((HB.out.cell (World.block_lt_of_cell? w _ hw239_0)).trans hw239_0), ((HB.out.cell (World.block_lt_of_cell? w _ hw239_1)).trans hw239_1), ((HB.out.cell (World.block_lt_of_cell? w _ hw239_2)).trans hw239_2), ((HB.out.cell (World.block_lt_of_cell? w _ hw239_3)).trans hw239_3), ((HB.out.cell (World.block_lt_of_cell? w _ hw239_4)).trans hw239_4), ((HB.out.cell (World.block_lt_of_cell? w _ hw239_5)).trans hw239_5), ((HB.out.cell (World.block_lt_of_cell? w _ hw239_6)).trans hw239_6), ((HB.out.cell (World.block_lt_of_cell? w _ hw239_7)).trans hw239_7), ((HB.out.cell (World.block_lt_of_cell? w _ hw239_8)).trans hw239_8), ((HB.out.cell (World.block_lt_of_cell? w _ hw239_9)).trans hw239_9), ((HB.out.cell (World.block_lt_of_cell? w _ hw239_10)).trans hw239_10)⟩ (fun hHeld => ?_)
           clear hK K
           refine norm_ (a' := ?_) ?_ ?_
           rotate_left
           ·show Act.put _ (some 13) _ = _
            simp only [Act.put, List.setIfInBounds_toArray, List.set_cons_zero, List.set_cons_succ, i64_w, i32_w]
            rfl
           refine pure_ (i := 2) (N := some 14) (v := ?_) (a' := ?_) (lb 19 7) rfl rfl (any_of HT_.out (by kernel_rfl)) (fun _ _ _ h => h) (Or.inl ⟨by rfl, ?_⟩) ?_ ?_
           rotate_left
           ·intro w'
            go_simp
            with_reducible rfl
           rotate_left
           ·simp only [Act.put, List.setIfInBounds_toArray, List.set_cons_zero, List.set_cons_succ, i64_w, i32_w]
            rfl
           refine pure_ (i := 3) (N := some 15) (v := ?_) (a' := ?_) (lb 19 15) rfl rfl (any_of HT_.out (by kernel_rfl)) (fun _ _ _ h => h) (Or.inl ⟨by rfl, ?_⟩) ?_ ?_
           rotate_left
           ·intro w'
            go_simp
            with_reducible rfl
           rotate_left
           ·simp only [Act.put, List.setIfInBounds_toArray, List.set_cons_zero, List.set_cons_succ, i64_w, i32_w]
            rfl
           refine pure_ (i := 4) (N := some 16) (v := ?_) (a' := ?_) (lb 19 31) rfl rfl (any_of HT_.out (by kernel_rfl)) (fun _ _ _ h => h) (Or.inl ⟨by rfl, ?_⟩) ?_ ?_
           rotate_left
           ·intro w'
            go_simp
            with_reducible rfl
           rotate_left
           ·simp only [Act.put, List.setIfInBounds_toArray, List.set_cons_zero, List.set_cons_succ, i64_w, i32_w]
            rfl
           refine pure_ (i := 5) (N := some 17) (v := ?_) (a' := ?_) (lb 19 63) rfl rfl (any_of HT_.out (by kernel_rfl)) (fun _ _ _ h => h) (Or.inl ⟨by rfl, ?_⟩) ?_ ?_
           rotate_left
           ·intro w'
            go_simp
            with_reducible rfl
           rotate_left
           ·simp only [Act.put, List.setIfInBounds_toArray, List.set_cons_zero, List.set_cons_succ, i64_w, i32_w]
            rfl
           refine pure_ (i := 6) (N := some 18) (v := ?_) (a' := ?_) (lb 19 127) rfl rfl (any_of HT_.out (by kernel_rfl)) (fun _ _ _ h => h) (Or.inl ⟨by rfl, ?_⟩) ?_ ?_
           rotate_left
           ·intro w'
            go_simp
            with_reducible rfl
           rotate_left
           ·simp only [Act.put, List.setIfInBounds_toArray, List.set_cons_zero, List.set_cons_succ, i64_w, i32_w]
            rfl
           refine pure_ (i := 7) (N := some 19) (v := ?_) (a' := ?_) (lb 19 255) rfl rfl (any_of HT_.out (by kernel_rfl)) (fun _ _ _ h => h) (Or.inl ⟨by rfl, ?_⟩) ?_ ?_
           rotate_left
           ·intro w'
            go_simp
            with_reducible rfl
           rotate_left
           ·simp only [Act.put, List.setIfInBounds_toArray, List.set_cons_zero, List.set_cons_succ, i64_w, i32_w]
            rfl
           refine pure_ (i := 8) (N := some 20) (v := ?_) (a' := ?_) (lb 19 511) rfl rfl (any_of HT_.out (by kernel_rfl)) (fun _ _ _ h => h) (Or.inl ⟨by rfl, ?_⟩) ?_ ?_
           rotate_left
           ·intro w'
            go_simp
            with_reducible rfl
           rotate_left
           ·simp only [Act.put, List.setIfInBounds_toArray, List.set_cons_zero, List.set_cons_succ, i64_w, i32_w]
            rfl
           refine pure_ (i := 9) (N := some 21) (v := ?_) (a' := ?_) (lb 19 1023) rfl rfl (any_of HT_.out (by kernel_rfl)) (fun _ _ _ h => h) (Or.inl ⟨by rfl, ?_⟩) ?_ ?_
           rotate_left
           ·intro w'
            go_simp
            with_reducible rfl
           rotate_left
           ·simp only [Act.put, List.setIfInBounds_toArray, List.set_cons_zero, List.set_cons_succ, i64_w, i32_w]
            rfl
           refine pure_ (i := 10) (N := some 22) (v := ?_) (a' := ?_) (lb 19 2047) rfl rfl (any_of HT_.out (by kernel_rfl)) (fun _ _ _ h => h) (Or.inl ⟨by rfl, ?_⟩) ?_ ?_
           rotate_left
           ·intro w'
            go_simp
            with_reducible rfl
           rotate_left
           ·simp only [Act.put, List.setIfInBounds_toArray, List.set_cons_zero, List.set_cons_succ, i64_w, i32_w]
            rfl
           refine pure_ (i := 11) (N := some 23) (v := ?_) (a' := ?_) (lb 19 4095) rfl rfl (any_of HT_.out (by kernel_rfl)) (fun _ _ _ h => h) (Or.inl ⟨by rfl, ?_⟩) ?_ ?_
           rotate_left
           ·intro w'
            go_simp
            with_reducible rfl
           rotate_left
           ·simp only [Act.put, List.setIfInBounds_toArray, List.set_cons_zero, List.set_cons_succ, i64_w, i32_w]
            rfl
           refine pure_ (i := 13) (N := some 25) (v := ?_) (a' := ?_) (lb 19 12287) rfl rfl (any_of HT_.out (by kernel_rfl)) (fun _ _ _ h => h) (Or.inl ⟨by rfl, ?_⟩) ?_ ?_
           rotate_left
           ·intro w'
            go_simp
            with_reducible rfl
           rotate_left
           ·simp only [Act.put, List.setIfInBounds_toArray, List.set_cons_zero, List.set_cons_succ, i64_w, i32_w]
            rfl
           refine take_ (i := 12) (N := some 24) (v := ?_) (a' := ?_) (lb 19 16383) rfl rfl (take_ofW HT_.out HW_.out (by kernel_rfl)) (fun _ _ _ h => h) (Or.inl ⟨by rfl, ?_⟩) hHeld ?_ ?_
           rotate_left
           ·rintro w' ⟨s0, s1, s2, s3, s4, s5, s6, s7, s8, s9, s10, s11, s12, s13, s14, s15, s16, s17, s18, s19, s20, s21⟩
            go_simp
            with_reducible rfl
           rotate_left
           ·simp only [Act.put, List.setIfInBounds_toArray, List.set_cons_zero, List.set_cons_succ, i64_w, i32_w]
            rfl
           refine take_ (i := 14) (N := some 26) (v := ?_) (a' := ?_) (lb 19 32767) rfl rfl (take_ofW HT_.out HW_.out (by kernel_rfl)) (fun _ _ _ h => h) (Or.inl ⟨by rfl, ?_⟩) hHeld ?_ ?_
           rotate_left
           ·rintro w' ⟨s0, s1, s2, s3, s4, s5, s6, s7, s8, s9, s10, s11, s12, s13, s14, s15, s16, s17, s18, s19, s20, s21⟩
            go_simp
            with_reducible rfl
           rotate_left
           ·simp only [Act.put, List.setIfInBounds_toArray, List.set_cons_zero, List.set_cons_succ, i64_w, i32_w]
            rfl
           refine one_ (i := 15) (N := some 27) (lb 19 65535) rfl rfl (one_of HT_.out (by kernel_rfl)) (by decide) (fun K hK => ?_)
           refine goes_ Tryd.func50 (by kernel_rfl) rfl #[.string ((rd_T61 l0 (ji8)).f0), .string ((rd_T61 l0 x7_1).f0)] (by rfl) rfl rfl (by (try simp only [List.map_toArray, List.map_cons, List.map_nil]); first | done | (simp only [hji8]; rfl) | rfl | (simp only [List.length_drop, List.length_take]; rfl)) ?_
           with_reducible refine (path_Cmp.calls k1 ((rd_T61 l0 (ji8)).f0) ((rd_T61 l0 x7_1).f0) t240 _ A11.out).mono ?_
           rintro e w18 ⟨rfl, hb⟩
           refine ⟨_, rfl, ?_⟩
           have n0_ := Aside0.mk (blk_below (g := gb237) (o := .cells #[.string ((rd_T61 l0 x7_1).f0), .bool ((rd_T61 l0 x7_1).f1), .bool ((rd_T61 l0 x7_1).f2), .string ((rd_T61 l0 x7_1).f3.f0), .string ((rd_T61 l0 x7_1).f3.f1), .int .i64 ((rd_T61 l0 x7_1).f3.f2), .int .i64 ((rd_T61 l0 x7_1).f3.f3), .string ((rd_T61 l0 x7_1).f4.f0), .string ((rd_T61 l0 x7_1).f4.f1), .int .i64 ((rd_T61 l0 x7_1).f4.f2), .int .i64 ((rd_T61 l0 x7_1).f4.f3)] 61 (0, 0)) (by (with_reducible repeat (first | refine blk_drewN ?_ _ | refine blk_drew ?_ | refine blk_alloc ?_ _)); exact BK237.out) hb)
           have n1_ := Aside0.mk (below_step (by repeat (first | (with_reducible first | exact HB.out | apply below_alloc | apply pw_below_drewN | apply below_drew1 | refine below_set ?_ GE237.out) | exact HB.out)) hb)
           clear BK237
           clear HB
           have BK237 := n0_
           have HB := n1_
           clear n0_ n1_
           (try clear hb)
           (try clear hb2)
           (try clear hk)
           (try clear hi)
           refine hK.out _ _ ⟨(blk_cell BK237.out 0).trans rfl, (blk_cell BK237.out 1).trans rfl, (blk_cell BK237.out 2).trans rfl, (blk_cell BK237.out 3).trans rfl, (blk_cell BK237.out 4).trans rfl, (blk_cell BK237.out 5).trans rfl, (blk_cell BK237.out 6).trans rfl, (blk_cell BK237.out 7).trans rfl, (blk_cell BK237.out 8).trans rfl, (blk_cell BK237.out 9).trans rfl, (blk_cell BK237.out 10).trans rfl, ((HB.out.cell (World.block_lt_of_cell? w _ hw239_0)).trans hw239_0), ((HB.out.cell (World.block_lt_of_cell? w _ hw239_1)).trans hw239_1), ((HB.out.cell (World.block_lt_of_cell? w _ hw239_2)).trans hw239_2), ((HB.out.cell (World.block_lt_of_cell? w _ hw239_3)).trans hw239_3), ((HB.out.cell (World.block_lt_of_cell? w _ hw239_4)).trans hw239_4), ((HB.out.cell (World.block_lt_of_cell? w _ hw239_5)).trans hw239_5), ((HB.out.cell (World.block_lt_of_cell? w _ hw239_6)).trans hw239_6), ((HB.out.cell (World.block_lt_of_cell? w _ hw239_7)).trans hw239_7), ((HB.out.cell (World.block_lt_of_cell? w _ hw239_8)).trans hw239_8), ((HB.out.cell (World.block_lt_of_cell? w _ hw239_9)).trans hw239_9), ((HB.out.cell (World.block_lt_of_cell? w _ hw239_10)).trans hw239_10)⟩ (fun hHeld => ?_)
           clear hK K
           refine norm_ (a' := ?_) ?_ ?_
           rotate_left
           ·show Act.put _ (some 27) _ = _
            simp only [Act.put, List.setIfInBounds_toArray, List.set_cons_zero, List.set_cons_succ, i64_w, i32_w]
            rfl
           refine pure_ (i := 16) (N := some 28) (v := ?_) (a' := ?_) (lb 19 131071) rfl rfl (any_of HT_.out (by kernel_rfl)) (fun _ _ _ h => h) (Or.inl ⟨by rfl, ?_⟩) ?_ ?_
           rotate_left
           ·intro w'
            go_simp
            with_reducible rfl
           rotate_left
           ·simp only [Act.put, List.setIfInBounds_toArray, List.set_cons_zero, List.set_cons_succ, i64_w, i32_w]
            rfl
           refine pure_ (i := 17) (N := some 29) (v := ?_) (a' := ?_) (lb 19 262143) rfl rfl (any_of HT_.out (by kernel_rfl)) (fun _ _ _ h => h) (Or.inl ⟨by rfl, ?_⟩) ?_ ?_
           rotate_left
           ·intro w'
            go_simp
            with_reducible rfl
           rotate_left
           ·simp only [Act.put, List.setIfInBounds_toArray, List.set_cons_zero, List.set_cons_succ, i64_w, i32_w]
            rfl
           refine pure_ (i := 18) (N := some 30) (v := ?_) (a' := ?_) (lb 19 524287) rfl rfl (any_of HT_.out (by kernel_rfl)) (fun _ _ _ h => h) (Or.inl ⟨by rfl, ?_⟩) ?_ ?_
           rotate_left
           ·intro w'
            go_simp
            with_reducible rfl
           rotate_left
           ·simp only [Act.put, List.setIfInBounds_toArray, List.set_cons_zero, List.set_cons_succ, i64_w, i32_w]
            rfl
           refine done_ (done_of HT_.out (by kernel_rfl)) ?_
           try go_wp2
           go_ret
           exact ⟨by first | rfl | (simp [errW_none, errW_some] <;> rfl) | (simp only [← hji8]; first | rfl | (simp [errW_none, errW_some] <;> rfl)) | (simp [*, errW_none, errW_some] <;> rfl), by repeat (first | (with_reducible first | exact HB.out | apply below_alloc | apply pw_below_drewN | apply below_drew1 | refine below_set ?_ GE237.out) | exact HB.out)⟩
          ·rw [if_neg c12] at H
           have c12b0 := decide_eq_false c12
           clear c12
           have H' := Aside0.mk H
           clear H
           have p236 : 0 ≤ (x7_1 : Int) := of_decide_eq_true (by first | (with_reducible assumption) | assumption)
           have q236 : x7_1 < (l0.length : Int) := of_decide_eq_true (by first | (with_reducible assumption) | assumption)
           obtain ⟨ad236, e236, hx236_0, hx236_1, hx236_2, hx236_3, hx236_4, hx236_5, hx236_6, hx236_7, hx236_8, hx236_9, hx236_10⟩ := at_T61 HR0.out x7_1 p236 q236
           cases e236
           replace hx236_0 := (HB.out.cell (World.block_lt_of_cell? w _ hx236_0)).trans hx236_0
           replace hx236_1 := (HB.out.cell (World.block_lt_of_cell? w _ hx236_1)).trans hx236_1
           replace hx236_2 := (HB.out.cell (World.block_lt_of_cell? w _ hx236_2)).trans hx236_2
           replace hx236_3 := (HB.out.cell (World.block_lt_of_cell? w _ hx236_3)).trans hx236_3
           replace hx236_4 := (HB.out.cell (World.block_lt_of_cell? w _ hx236_4)).trans hx236_4
           replace hx236_5 := (HB.out.cell (World.block_lt_of_cell? w _ hx236_5)).trans hx236_5
           replace hx236_6 := (HB.out.cell (World.block_lt_of_cell? w _ hx236_6)).trans hx236_6
           replace hx236_7 := (HB.out.cell (World.block_lt_of_cell? w _ hx236_7)).trans hx236_7
           replace hx236_8 := (HB.out.cell (World.block_lt_of_cell? w _ hx236_8)).trans hx236_8
           replace hx236_9 := (HB.out.cell (World.block_lt_of_cell? w _ hx236_9)).trans hx236_9
           replace hx236_10 := (HB.out.cell (World.block_lt_of_cell? w _ hx236_10)).trans hx236_10
           replace p236 := eq_true p236
           replace q236 := eq_true q236
           try go_wp2_with (first | ((with_reducible refine gate_dst (N := 4) rfl ?_); refine box_event ?hg (N := 4) ?hd (cs := #[.string (⟨#[]⟩ : ByteArray), .bool false, .bool false, .string (⟨#[]⟩ : ByteArray), .string (⟨#[]⟩ : ByteArray), .int .i64 0, .int .i64 0, .string (⟨#[]⟩ : ByteArray), .string (⟨#[]⟩ : ByteArray), .int .i64 0, .int .i64 0]) (t := 61) ?hr ?_; (case hd => rfl); (case hg => rfl); (case hr => first | (go_simp; done) | (go_simp; rfl)); intro gb237 hg w19 hbox hb; have n0_ := Aside0.mk (below_step (by repeat (first | (with_reducible first | exact HB.out | apply below_alloc | apply pw_below_drewN | apply below_drew1) | exact HB.out)) hb); have n1_ := Aside0.mk (hbox); have n2_ := Aside0.mk ((by rw [hg]; exact (below_size (by repeat (first | (with_reducible first | exact HB.out | apply below_alloc | apply pw_below_drewN | apply below_drew1) | exact HB.out))) : w.heap.size ≤ gb237)); have n3_ := Aside0.mk ((by rw [hg]; exact (below_size (by repeat (first | (with_reducible first | exact HB.out | apply below_alloc | apply pw_below_drewN | apply below_drew1) | exact HB.out))) : w.heap.size ≤ gb237)); clear HB; have HB := n0_; have BK237 := n1_; have GW237 := n2_; have GE237 := n3_; clear n0_ n1_ n2_ n3_; clear hb hbox hg; have hcz20_0 : w19.cell? ⟨gb237, 0, none⟩ = some (.string (⟨#[]⟩ : ByteArray)) := (blk_cell BK237.out 0).trans rfl; have hcz20_1 : w19.cell? ⟨gb237, 1, none⟩ = some (.bool false) := (blk_cell BK237.out 1).trans rfl; have hcz20_2 : w19.cell? ⟨gb237, 2, none⟩ = some (.bool false) := (blk_cell BK237.out 2).trans rfl; have hcz20_3 : w19.cell? ⟨gb237, 3, none⟩ = some (.string (⟨#[]⟩ : ByteArray)) := (blk_cell BK237.out 3).trans rfl; have hcz20_4 : w19.cell? ⟨gb237, 4, none⟩ = some (.string (⟨#[]⟩ : ByteArray)) := (blk_cell BK237.out 4).trans rfl; have hcz20_5 : w19.cell? ⟨gb237, 5, none⟩ = some (.int .i64 0) := (blk_cell BK237.out 5).trans rfl; have hcz20_6 : w19.cell? ⟨gb237, 6, none⟩ = some (.int .i64 0) := (blk_cell BK237.out 6).trans rfl; have hcz20_7 : w19.cell? ⟨gb237, 7, none⟩ = some (.string (⟨#[]⟩ : ByteArray)) := (blk_cell BK237.out 7).trans rfl; have hcz20_8 : w19.cell? ⟨gb237, 8, none⟩ = some (.string (⟨#[]⟩ : ByteArray)) := (blk_cell BK237.out 8).trans rfl; have hcz20_9 : w19.cell? ⟨gb237, 9, none⟩ = some (.int .i64 0) := (blk_cell BK237.out 9).trans rfl; have hcz20_10 : w19.cell? ⟨gb237, 10, none⟩ = some (.int .i64 0) := (blk_cell BK237.out 10).trans rfl; have hfz20_0 := blk_frozen BK237.out 0; have hfz20_1 := blk_frozen BK237.out 1; have hfz20_2 := blk_frozen BK237.out 2; have hfz20_3 := blk_frozen BK237.out 3; have hfz20_4 := blk_frozen BK237.out 4; have hfz20_5 := blk_frozen BK237.out 5; have hfz20_6 := blk_frozen BK237.out 6; have hfz20_7 := blk_frozen BK237.out 7; have hfz20_8 := blk_frozen BK237.out 8; have hfz20_9 := blk_frozen BK237.out 9; have hfz20_10 := blk_frozen BK237.out 10))
           have n0_ : Aside0 ((((((((((((w19.setCell ⟨gb237, 0, none⟩ (.string ((rd_T61 l0 x7_1).f0))).setCell ⟨gb237, 1, none⟩ (.bool ((rd_T61 l0 x7_1).f1))).setCell ⟨gb237, 2, none⟩ (.bool ((rd_T61 l0 x7_1).f2))).setCell ⟨gb237, 3, none⟩ (.string ((rd_T61 l0 x7_1).f3.f0))).setCell ⟨gb237, 4, none⟩ (.string ((rd_T61 l0 x7_1).f3.f1))).setCell ⟨gb237, 5, none⟩ (.int .i64 ((rd_T61 l0 x7_1).f3.f2))).setCell ⟨gb237, 6, none⟩ (.int .i64 ((rd_T61 l0 x7_1).f3.f3))).setCell ⟨gb237, 7, none⟩ (.string ((rd_T61 l0 x7_1).f4.f0))).setCell ⟨gb237, 8, none⟩ (.string ((rd_T61 l0 x7_1).f4.f1))).setCell ⟨gb237, 9, none⟩ (.int .i64 ((rd_T61 l0 x7_1).f4.f2))).setCell ⟨gb237, 10, none⟩ (.int .i64 ((rd_T61 l0 x7_1).f4.f3))).heap[gb237]? = some (.cells #[.string ((rd_T61 l0 x7_1).f0), .bool ((rd_T61 l0 x7_1).f1), .bool ((rd_T61 l0 x7_1).f2), .string ((rd_T61 l0 x7_1).f3.f0), .string ((rd_T61 l0 x7_1).f3.f1), .int .i64 ((rd_T61 l0 x7_1).f3.f2), .int .i64 ((rd_T61 l0 x7_1).f3.f3), .string ((rd_T61 l0 x7_1).f4.f0), .string ((rd_T61 l0 x7_1).f4.f1), .int .i64 ((rd_T61 l0 x7_1).f4.f2), .int .i64 ((rd_T61 l0 x7_1).f4.f3)] 61 (0, 0))) := ⟨by (with_reducible repeat (first | refine blk_drewN ?_ _ | refine blk_drew ?_ | refine blk_alloc ?_ _)); refine blk_put (cs := #[.string ((rd_T61 l0 x7_1).f0), .bool ((rd_T61 l0 x7_1).f1), .bool ((rd_T61 l0 x7_1).f2), .string ((rd_T61 l0 x7_1).f3.f0), .string ((rd_T61 l0 x7_1).f3.f1), .int .i64 ((rd_T61 l0 x7_1).f3.f2), .int .i64 ((rd_T61 l0 x7_1).f3.f3), .string ((rd_T61 l0 x7_1).f4.f0), .string ((rd_T61 l0 x7_1).f4.f1), .int .i64 ((rd_T61 l0 x7_1).f4.f2), .int .i64 0]) ?_ 10 _ rfl; (with_reducible repeat (first | refine blk_drewN ?_ _ | refine blk_drew ?_ | refine blk_alloc ?_ _)); refine blk_put (cs := #[.string ((rd_T61 l0 x7_1).f0), .bool ((rd_T61 l0 x7_1).f1), .bool ((rd_T61 l0 x7_1).f2), .string ((rd_T61 l0 x7_1).f3.f0), .string ((rd_T61 l0 x7_1).f3.f1), .int .i64 ((rd_T61 l0 x7_1).f3.f2), .int .i64 ((rd_T61 l0 x7_1).f3.f3), .string ((rd_T61 l0 x7_1).f4.f0), .string ((rd_T61 l0 x7_1).f4.f1), .int .i64 0, .int .i64 0]) ?_ 9 _ rfl; (with_reducible repeat (first | refine blk_drewN ?_ _ | refine blk_drew ?_ | refine blk_alloc ?_ _)); refine blk_put (cs := #[.string ((rd_T61 l0 x7_1).f0), .bool ((rd_T61 l0 x7_1).f1), .bool ((rd_T61 l0 x7_1).f2), .string ((rd_T61 l0 x7_1).f3.f0), .string ((rd_T61 l0 x7_1).f3.f1), .int .i64 ((rd_T61 l0 x7_1).f3.f2), .int .i64 ((rd_T61 l0 x7_1).f3.f3), .string ((rd_T61 l0 x7_1).f4.f0), .string (⟨#[]⟩ : ByteArray), .int .i64 0, .int .i64 0]) ?_ 8 _ rfl; (with_reducible repeat (first | refine blk_drewN ?_ _ | refine blk_drew ?_ | refine blk_alloc ?_ _)); refine blk_put (cs := #[.string ((rd_T61 l0 x7_1).f0), .bool ((rd_T61 l0 x7_1).f1), .bool ((rd_T61 l0 x7_1).f2), .string ((rd_T61 l0 x7_1).f3.f0), .string ((rd_T61 l0 x7_1).f3.f1), .int .i64 ((rd_T61 l0 x7_1).f3.f2), .int .i64 ((rd_T61 l0 x7_1).f3.f3), .string (⟨#[]⟩ : ByteArray), .string (⟨#[]⟩ : ByteArray), .int .i64 0, .int .i64 0]) ?_ 7 _ rfl; (with_reducible repeat (first | refine blk_drewN ?_ _ | refine blk_drew ?_ | refine blk_alloc ?_ _)); refine blk_put (cs := #[.string ((rd_T61 l0 x7_1).f0), .bool ((rd_T61 l0 x7_1).f1), .bool ((rd_T61 l0 x7_1).f2), .string ((rd_T61 l0 x7_1).f3.f0), .string ((rd_T61 l0 x7_1).f3.f1), .int .i64 ((rd_T61 l0 x7_1).f3.f2), .int .i64 0, .string (⟨#[]⟩ : ByteArray), .string (⟨#[]⟩ : ByteArray), .int .i64 0, .int .i64 0]) ?_ 6 _ rfl; (with_reducible repeat (first | refine blk_drewN ?_ _ | refine blk_drew ?_ | refine blk_alloc ?_ _)); refine blk_put (cs := #[.string ((rd_T61 l0 x7_1).f0), .bool ((rd_T61 l0 x7_1).f1), .bool ((rd_T61 l0 x7_1).f2), .string ((rd_T61 l0 x7_1).f3.f0), .string ((rd_T61 l0 x7_1).f3.f1), .int .i64 0, .int .i64 0, .string (⟨#[]⟩ : ByteArray), .string (⟨#[]⟩ : ByteArray), .int .i64 0, .int .i64 0]) ?_ 5 _ rfl; (with_reducible repeat (first | refine blk_drewN ?_ _ | refine blk_drew ?_ | refine blk_alloc ?_ _)); refine blk_put (cs := #[.string ((rd_T61 l0 x7_1).f0), .bool ((rd_T61 l0 x7_1).f1), .bool ((rd_T61 l0 x7_1).f2), .string ((rd_T61 l0 x7_1).f3.f0), .string (⟨#[]⟩ : ByteArray), .int .i64 0, .int .i64 0, .string (⟨#[]⟩ : ByteArray), .string (⟨#[]⟩ : ByteArray), .int .i64 0, .int .i64 0]) ?_ 4 _ rfl; (with_reducible repeat (first | refine blk_drewN ?_ _ | refine blk_drew ?_ | refine blk_alloc ?_ _)); refine blk_put (cs := #[.string ((rd_T61 l0 x7_1).f0), .bool ((rd_T61 l0 x7_1).f1), .bool ((rd_T61 l0 x7_1).f2), .string (⟨#[]⟩ : ByteArray), .string (⟨#[]⟩ : ByteArray), .int .i64 0, .int .i64 0, .string (⟨#[]⟩ : ByteArray), .string (⟨#[]⟩ : ByteArray), .int .i64 0, .int .i64 0]) ?_ 3 _ rfl; (with_reducible repeat (first | refine blk_drewN ?_ _ | refine blk_drew ?_ | refine blk_alloc ?_ _)); refine blk_put (cs := #[.string ((rd_T61 l0 x7_1).f0), .bool ((rd_T61 l0 x7_1).f1), .bool false, .string (⟨#[]⟩ : ByteArray), .string (⟨#[]⟩ : ByteArray), .int .i64 0, .int .i64 0, .string (⟨#[]⟩ : ByteArray), .string (⟨#[]⟩ : ByteArray), .int .i64 0, .int .i64 0]) ?_ 2 _ rfl; (with_reducible repeat (first | refine blk_drewN ?_ _ | refine blk_drew ?_ | refine blk_alloc ?_ _)); refine blk_put (cs := #[.string ((rd_T61 l0 x7_1).f0), .bool false, .bool false, .string (⟨#[]⟩ : ByteArray), .string (⟨#[]⟩ : ByteArray), .int .i64 0, .int .i64 0, .string (⟨#[]⟩ : ByteArray), .string (⟨#[]⟩ : ByteArray), .int .i64 0, .int .i64 0]) ?_ 1 _ rfl; (with_reducible repeat (first | refine blk_drewN ?_ _ | refine blk_drew ?_ | refine blk_alloc ?_ _)); refine blk_put (cs := #[.string (⟨#[]⟩ : ByteArray), .bool false, .bool false, .string (⟨#[]⟩ : ByteArray), .string (⟨#[]⟩ : ByteArray), .int .i64 0, .int .i64 0, .string (⟨#[]⟩ : ByteArray), .string (⟨#[]⟩ : ByteArray), .int .i64 0, .int .i64 0]) ?_ 0 _ rfl; (with_reducible repeat (first | refine blk_drewN ?_ _ | refine blk_drew ?_ | refine blk_alloc ?_ _)); exact BK237.out⟩
           have n1_ : Aside0 (Below w.heap.size w (((((((((((w19.setCell ⟨gb237, 0, none⟩ (.string ((rd_T61 l0 x7_1).f0))).setCell ⟨gb237, 1, none⟩ (.bool ((rd_T61 l0 x7_1).f1))).setCell ⟨gb237, 2, none⟩ (.bool ((rd_T61 l0 x7_1).f2))).setCell ⟨gb237, 3, none⟩ (.string ((rd_T61 l0 x7_1).f3.f0))).setCell ⟨gb237, 4, none⟩ (.string ((rd_T61 l0 x7_1).f3.f1))).setCell ⟨gb237, 5, none⟩ (.int .i64 ((rd_T61 l0 x7_1).f3.f2))).setCell ⟨gb237, 6, none⟩ (.int .i64 ((rd_T61 l0 x7_1).f3.f3))).setCell ⟨gb237, 7, none⟩ (.string ((rd_T61 l0 x7_1).f4.f0))).setCell ⟨gb237, 8, none⟩ (.string ((rd_T61 l0 x7_1).f4.f1))).setCell ⟨gb237, 9, none⟩ (.int .i64 ((rd_T61 l0 x7_1).f4.f2))).setCell ⟨gb237, 10, none⟩ (.int .i64 ((rd_T61 l0 x7_1).f4.f3)))) := ⟨by repeat (first | (with_reducible first | exact HB.out | apply below_alloc | apply pw_below_drewN | apply below_drew1 | refine below_set ?_ GE237.out) | exact HB.out)⟩
           (try clear BK237)
           (try clear HB)
           generalize (((((((((((w19.setCell ⟨gb237, 0, none⟩ (.string ((rd_T61 l0 x7_1).f0))).setCell ⟨gb237, 1, none⟩ (.bool ((rd_T61 l0 x7_1).f1))).setCell ⟨gb237, 2, none⟩ (.bool ((rd_T61 l0 x7_1).f2))).setCell ⟨gb237, 3, none⟩ (.string ((rd_T61 l0 x7_1).f3.f0))).setCell ⟨gb237, 4, none⟩ (.string ((rd_T61 l0 x7_1).f3.f1))).setCell ⟨gb237, 5, none⟩ (.int .i64 ((rd_T61 l0 x7_1).f3.f2))).setCell ⟨gb237, 6, none⟩ (.int .i64 ((rd_T61 l0 x7_1).f3.f3))).setCell ⟨gb237, 7, none⟩ (.string ((rd_T61 l0 x7_1).f4.f0))).setCell ⟨gb237, 8, none⟩ (.string ((rd_T61 l0 x7_1).f4.f1))).setCell ⟨gb237, 9, none⟩ (.int .i64 ((rd_T61 l0 x7_1).f4.f2))).setCell ⟨gb237, 10, none⟩ (.int .i64 ((rd_T61 l0 x7_1).f4.f3))) = w21 at n0_ n1_ ⊢
           have BK237 := n0_
           have HB := n1_
           clear n0_ n1_
           have n0_ := Aside0.mk (blk_drew BK237.out)
           have n1_ := Aside0.mk (below_drew1 HB.out)
           clear BK237
           clear HB
           have BK237 := n0_
           have HB := n1_
           clear n0_ n1_
           have p239 : 0 ≤ ((ji8) : Int) := of_decide_eq_true (by first | (with_reducible assumption) | assumption)
           have q239 : (ji8) < (l0.length : Int) := of_decide_eq_true (by first | (with_reducible assumption) | assumption)
           obtain ⟨ad239, e239, hx239_0, hx239_1, hx239_2, hx239_3, hx239_4, hx239_5, hx239_6, hx239_7, hx239_8, hx239_9, hx239_10⟩ := at_T61 HR0.out (ji8) p239 q239
           have hw239_10 := hx239_10
           have hw239_9 := hx239_9
           have hw239_8 := hx239_8
           have hw239_7 := hx239_7
           have hw239_6 := hx239_6
           have hw239_5 := hx239_5
           have hw239_4 := hx239_4
           have hw239_3 := hx239_3
           have hw239_2 := hx239_2
           have hw239_1 := hx239_1
           have hw239_0 := hx239_0
           obtain rfl : ad236 = ad239 := (by injection e239)
           replace hx239_0 := (HB.out.cell (World.block_lt_of_cell? w _ hx239_0)).trans hx239_0
           replace hx239_1 := (HB.out.cell (World.block_lt_of_cell? w _ hx239_1)).trans hx239_1
           replace hx239_2 := (HB.out.cell (World.block_lt_of_cell? w _ hx239_2)).trans hx239_2
           replace hx239_3 := (HB.out.cell (World.block_lt_of_cell? w _ hx239_3)).trans hx239_3
           replace hx239_4 := (HB.out.cell (World.block_lt_of_cell? w _ hx239_4)).trans hx239_4
           replace hx239_5 := (HB.out.cell (World.block_lt_of_cell? w _ hx239_5)).trans hx239_5
           replace hx239_6 := (HB.out.cell (World.block_lt_of_cell? w _ hx239_6)).trans hx239_6
           replace hx239_7 := (HB.out.cell (World.block_lt_of_cell? w _ hx239_7)).trans hx239_7
           replace hx239_8 := (HB.out.cell (World.block_lt_of_cell? w _ hx239_8)).trans hx239_8
           replace hx239_9 := (HB.out.cell (World.block_lt_of_cell? w _ hx239_9)).trans hx239_9
           replace hx239_10 := (HB.out.cell (World.block_lt_of_cell? w _ hx239_10)).trans hx239_10
           replace p239 := eq_true p239
           replace q239 := eq_true q239
           refine start_ (n := 19) (S := fun w' => w'.cell? ⟨gb237, 0, none⟩ = some (.string ((rd_T61 l0 x7_1).f0)) ∧ w'.cell? ⟨gb237, 1, none⟩ = some (.bool ((rd_T61 l0 x7_1).f1)) ∧ w'.cell? ⟨gb237, 2, none⟩ = some (.bool ((rd_T61 l0 x7_1).f2)) ∧ w'.cell? ⟨gb237, 3, none⟩ = some (.string ((rd_T61 l0 x7_1).f3.f0)) ∧ w'.cell? ⟨gb237, 4, none⟩ = some (.string ((rd_T61 l0 x7_1).f3.f1)) ∧ w'.cell? ⟨gb237, 5, none⟩ = some (.int .i64 ((rd_T61 l0 x7_1).f3.f2)) ∧ w'.cell? ⟨gb237, 6, none⟩ = some (.int .i64 ((rd_T61 l0 x7_1).f3.f3)) ∧ w'.cell? ⟨gb237, 7, none⟩ = some (.string ((rd_T61 l0 x7_1).f4.f0)) ∧ w'.cell? ⟨gb237, 8, none⟩ = some (.string ((rd_T61 l0 x7_1).f4.f1)) ∧ w'.cell? ⟨gb237, 9, none⟩ = some (.int .i64 ((rd_T61 l0 x7_1).f4.f2)) ∧ w'.cell? ⟨gb237, 10, none⟩ = some (.int .i64 ((rd_T61 l0 x7_1).f4.f3)) ∧ w'.cell? (ad236.add (((ji8)).toNat * 11)) = some (.string ((rd_T61 l0 (ji8)).f0)) ∧ w'.cell? ⟨(ad236.add (((ji8)).toNat * 11)).block, (ad236.add (((ji8)).toNat * 11)).off + 1, none⟩ = some (.bool ((rd_T61 l0 (ji8)).f1)) ∧ w'.cell? ⟨(ad236.add (((ji8)).toNat * 11)).block, (ad236.add (((ji8)).toNat * 11)).off + 2, none⟩ = some (.bool ((rd_T61 l0 (ji8)).f2)) ∧ w'.cell? ⟨(ad236.add (((ji8)).toNat * 11)).block, (ad236.add (((ji8)).toNat * 11)).off + 3, none⟩ = some (.string ((rd_T61 l0 (ji8)).f3.f0)) ∧ w'.cell? ⟨(ad236.add (((ji8)).toNat * 11)).block, (ad236.add (((ji8)).toNat * 11)).off + 4, none⟩ = some (.string ((rd_T61 l0 (ji8)).f3.f1)) ∧ w'.cell? ⟨(ad236.add (((ji8)).toNat * 11)).block, (ad236.add (((ji8)).toNat * 11)).off + 5, none⟩ = some (.int .i64 ((rd_T61 l0 (ji8)).f3.f2)) ∧ w'.cell? ⟨(ad236.add (((ji8)).toNat * 11)).block, (ad236.add (((ji8)).toNat * 11)).off + 6, none⟩ = some (.int .i64 ((rd_T61 l0 (ji8)).f3.f3)) ∧ w'.cell? ⟨(ad236.add (((ji8)).toNat * 11)).block, (ad236.add (((ji8)).toNat * 11)).off + 7, none⟩ = some (.string ((rd_T61 l0 (ji8)).f4.f0)) ∧ w'.cell? ⟨(ad236.add (((ji8)).toNat * 11)).block, (ad236.add (((ji8)).toNat * 11)).off + 8, none⟩ = some (.string ((rd_T61 l0 (ji8)).f4.f1)) ∧ w'.cell? ⟨(ad236.add (((ji8)).toNat * 11)).block, (ad236.add (((ji8)).toNat * 11)).off + 9, none⟩ = some (.int .i64 ((rd_T61 l0 (ji8)).f4.f2)) ∧ w'.cell? ⟨(ad236.add (((ji8)).toNat * 11)).block, (ad236.add (((ji8)).toNat * 11)).off + 10, none⟩ = some (.int .i64 ((rd_T61 l0 (ji8)).f4.f3))) (ds := []) (lb 19 0) (by kernel_rfl) rfl rfl ⟨(blk_cell BK237.out 0).trans rfl, (blk_cell BK237.out 1).trans rfl, (blk_cell BK237.out 2).trans rfl, (blk_cell BK237.out 3).trans rfl, (blk_cell BK237.out 4).trans rfl, (blk_cell BK237.out 5).trans rfl, (blk_cell BK237.out 6).trans rfl, (blk_cell BK237.out 7).trans rfl, (blk_cell BK237.out 8).trans rfl, (blk_cell BK237.out 9).trans rfl, (blk_cell BK237.out 10).trans rfl, ((HB.out.cell (World.block_lt_of_cell? w _ hw239_0)).trans hw239_0), ((HB.out.cell (World.block_lt_of_cell? w _ hw239_1)).trans hw239_1), ((HB.out.cell (World.block_lt_of_cell? w _ hw239_2)).trans hw239_2), ((HB.out.cell (World.block_lt_of_cell? w _ hw239_3)).trans hw239_3), ((HB.out.cell (World.block_lt_of_cell? w _ hw239_4)).trans hw239_4), ((HB.out.cell (World.block_lt_of_cell? w _ hw239_5)).trans hw239_5), ((HB.out.cell (World.block_lt_of_cell? w _ hw239_6)).trans hw239_6), ((HB.out.cell (World.block_lt_of_cell? w _ hw239_7)).trans hw239_7), ((HB.out.cell (World.block_lt_of_cell? w _ hw239_8)).trans hw239_8), ((HB.out.cell (World.block_lt_of_cell? w _ hw239_9)).trans hw239_9), ((HB.out.cell (World.block_lt_of_cell? w _ hw239_10)).trans hw239_10)⟩ (fun hHeld => ?_); refine with_tabW delta_Valid.tab4 delta_Valid.bits4 (fun HT_ HW_ => ?_)
           generalize w21.drew = w22 at BK237 HB hx239_0 hx239_1 hx239_10 hx239_2 hx239_3 hx239_4 hx239_5 hx239_6 hx239_7 hx239_8 hx239_9 hHeld ⊢
           refine take_ (i := 0) (N := some 12) (v := ?_) (a' := ?_) (lb 19 1) rfl rfl (take_ofW HT_.out HW_.out (by kernel_rfl)) (fun _ _ _ h => h) (Or.inl ⟨by rfl, ?_⟩) hHeld ?_ ?_
           rotate_left
           ·rintro w' ⟨s0, s1, s2, s3, s4, s5, s6, s7, s8, s9, s10, s11, s12, s13, s14, s15, s16, s17, s18, s19, s20, s21⟩
            go_simp
            with_reducible rfl
           rotate_left
           ·simp only [Act.put, List.setIfInBounds_toArray, List.set_cons_zero, List.set_cons_succ, i64_w, i32_w]
            rfl
           refine one_ (i := 1) (N := some 13) (lb 19 3) rfl rfl (one_of HT_.out (by kernel_rfl)) (by decide) (fun K hK => ?_)
           refine goes_ Tryd.func60 (by kernel_rfl) rfl #[.agg #[.string ((rd_T61 l0 x7_1).f0), .bool ((rd_T61 l0 x7_1).f1), .bool ((rd_T61 l0 x7_1).f2), .string ((rd_T61 l0 x7_1).f3.f0), .string ((rd_T61 l0 x7_1).f3.f1), .int .i64 ((rd_T61 l0 x7_1).f3.f2), .int .i64 ((rd_T61 l0 x7_1).f3.f3), .string ((rd_T61 l0 x7_1).f4.f0), .string ((rd_T61 l0 x7_1).f4.f1), .int .i64 ((rd_T61 l0 x7_1).f4.f2), .int .i64 ((rd_T61 l0 x7_1).f4.f3)]] (by rfl) rfl rfl (by (try simp only [List.map_toArray, List.map_cons, List.map_nil]); first | done | rfl | (simp only [List.length_drop, List.length_take]; rfl)) ?_
           with_reducible refine (delta_may.calls k1 ((rd_T61 l0 x7_1).f0) ((rd_T61 l0 x7_1).f1) ((rd_T61 l0 x7_1).f2) ((rd_T61 l0 x7_1).f3.f0) ((rd_T61 l0 x7_1).f3.f1) ((rd_T61 l0 x7_1).f3.f2) ((rd_T61 l0 x7_1).f3.f3) ((rd_T61 l0 x7_1).f4.f0) ((rd_T61 l0 x7_1).f4.f1) ((rd_T61 l0 x7_1).f4.f2) ((rd_T61 l0 x7_1).f4.f3) true _ A5.out).mono ?_
           rintro e w23 ⟨rfl, hb⟩
           refine ⟨_, rfl, ?_⟩
           have n0_ := Aside0.mk (blk_below (g := gb237) (o := .cells #[.string ((rd_T61 l0 x7_1).f0), .bool ((rd_T61 l0 x7_1).f1), .bool ((rd_T61 l0 x7_1).f2), .string ((rd_T61 l0 x7_1).f3.f0), .string ((rd_T61 l0 x7_1).f3.f1), .int .i64 ((rd_T61 l0 x7_1).f3.f2), .int .i64 ((rd_T61 l0 x7_1).f3.f3), .string ((rd_T61 l0 x7_1).f4.f0), .string ((rd_T61 l0 x7_1).f4.f1), .int .i64 ((rd_T61 l0 x7_1).f4.f2), .int .i64 ((rd_T61 l0 x7_1).f4.f3)] 61 (0, 0)) (by (with_reducible repeat (first | refine blk_drewN ?_ _ | refine blk_drew ?_ | refine blk_alloc ?_ _)); exact BK237.out) hb)
           have n1_ := Aside0.mk (below_step (by repeat (first | (with_reducible first | exact HB.out | apply below_alloc | apply pw_below_drewN | apply below_drew1 | refine below_set ?_ GE237.out) | exact HB.out)) hb)
           clear BK237
           clear HB
           have BK237 := n0_
           have HB := n1_
           clear n0_ n1_
           (try clear hb)
           (try clear hb2)
           (try clear hk)
           (try clear hi)
           refine hK.out _ _ ⟨(blk_cell BK237.out 0).trans rfl, (blk_cell BK237.out 1).trans rfl, (blk_cell BK237.out 2).trans rfl, (blk_cell BK237.out 3).trans rfl, (blk_cell BK237.out 4).trans rfl, (blk_cell BK237.out 5).trans rfl, (blk_cell BK237.out 6).trans rfl, (blk_cell BK237.out 7).trans rfl, (blk_cell BK237.out 8).trans rfl, (blk_cell BK237.out 9).trans rfl, (blk_cell BK237.out 10).trans rfl, ((HB.out.cell (World.block_lt_of_cell? w _ hw239_0)).trans hw239_0), ((HB.out.cell (World.block_lt_of_cell? w _ hw239_1)).trans hw239_1), ((HB.out.cell (World.block_lt_of_cell? w _ hw239_2)).trans hw239_2), ((HB.out.cell (World.block_lt_of_cell? w _ hw239_3)).trans hw239_3), ((HB.out.cell (World.block_lt_of_cell? w _ hw239_4)).trans hw239_4), ((HB.out.cell (World.block_lt_of_cell? w _ hw239_5)).trans hw239_5), ((HB.out.cell (World.block_lt_of_cell? w _ hw239_6)).trans hw239_6), ((HB.out.cell (World.block_lt_of_cell? w _ hw239_7)).trans hw239_7), ((HB.out.cell (World.block_lt_of_cell? w _ hw239_8)).trans hw239_8), ((HB.out.cell (World.block_lt_of_cell? w _ hw239_9)).trans hw239_9), ((HB.out.cell (World.block_lt_of_cell? w _ hw239_10)).trans hw239_10)⟩ (fun hHeld => ?_)
           clear hK K
           refine norm_ (a' := ?_) ?_ ?_
           rotate_left
           ·show Act.put _ (some 13) _ = _
            simp only [Act.put, List.setIfInBounds_toArray, List.set_cons_zero, List.set_cons_succ, i64_w, i32_w]
            rfl
           refine pure_ (i := 2) (N := some 14) (v := ?_) (a' := ?_) (lb 19 7) rfl rfl (any_of HT_.out (by kernel_rfl)) (fun _ _ _ h => h) (Or.inl ⟨by rfl, ?_⟩) ?_ ?_
           rotate_left
           ·intro w'
            go_simp
            with_reducible rfl
           rotate_left
           ·simp only [Act.put, List.setIfInBounds_toArray, List.set_cons_zero, List.set_cons_succ, i64_w, i32_w]
            rfl
           refine pure_ (i := 3) (N := some 15) (v := ?_) (a' := ?_) (lb 19 15) rfl rfl (any_of HT_.out (by kernel_rfl)) (fun _ _ _ h => h) (Or.inl ⟨by rfl, ?_⟩) ?_ ?_
           rotate_left
           ·intro w'
            go_simp
            with_reducible rfl
           rotate_left
           ·simp only [Act.put, List.setIfInBounds_toArray, List.set_cons_zero, List.set_cons_succ, i64_w, i32_w]
            rfl
           refine pure_ (i := 4) (N := some 16) (v := ?_) (a' := ?_) (lb 19 31) rfl rfl (any_of HT_.out (by kernel_rfl)) (fun _ _ _ h => h) (Or.inl ⟨by rfl, ?_⟩) ?_ ?_
           rotate_left
           ·intro w'
            go_simp
            with_reducible rfl
           rotate_left
           ·simp only [Act.put, List.setIfInBounds_toArray, List.set_cons_zero, List.set_cons_succ, i64_w, i32_w]
            rfl
           refine pure_ (i := 5) (N := some 17) (v := ?_) (a' := ?_) (lb 19 63) rfl rfl (any_of HT_.out (by kernel_rfl)) (fun _ _ _ h => h) (Or.inl ⟨by rfl, ?_⟩) ?_ ?_
           rotate_left
           ·intro w'
            go_simp
            with_reducible rfl
           rotate_left
           ·simp only [Act.put, List.setIfInBounds_toArray, List.set_cons_zero, List.set_cons_succ, i64_w, i32_w]
            rfl
           refine pure_ (i := 6) (N := some 18) (v := ?_) (a' := ?_) (lb 19 127) rfl rfl (any_of HT_.out (by kernel_rfl)) (fun _ _ _ h => h) (Or.inl ⟨by rfl, ?_⟩) ?_ ?_
           rotate_left
           ·intro w'
            go_simp
            with_reducible rfl
           rotate_left
           ·simp only [Act.put, List.setIfInBounds_toArray, List.set_cons_zero, List.set_cons_succ, i64_w, i32_w]
            rfl
           refine pure_ (i := 7) (N := some 19) (v := ?_) (a' := ?_) (lb 19 255) rfl rfl (any_of HT_.out (by kernel_rfl)) (fun _ _ _ h => h) (Or.inl ⟨by rfl, ?_⟩) ?_ ?_
           rotate_left
           ·intro w'
            go_simp
            with_reducible rfl
           rotate_left
           ·simp only [Act.put, List.setIfInBounds_toArray, List.set_cons_zero, List.set_cons_succ, i64_w, i32_w]
            rfl
           refine pure_ (i := 8) (N := some 20) (v := ?_) (a' := ?_) (lb 19 511) rfl rfl (any_of HT_.out (by kernel_rfl)) (fun _ _ _ h => h) (Or.inl ⟨by rfl, ?_⟩) ?_ ?_
           rotate_left
           ·intro w'
            go_simp
            with_reducible rfl
           rotate_left
           ·simp only [Act.put, List.setIfInBounds_toArray, List.set_cons_zero, List.set_cons_succ, i64_w, i32_w]
            rfl
           refine pure_ (i := 9) (N := some 21) (v := ?_) (a' := ?_) (lb 19 1023) rfl rfl (any_of HT_.out (by kernel_rfl)) (fun _ _ _ h => h) (Or.inl ⟨by rfl, ?_⟩) ?_ ?_
           rotate_left
           ·intro w'
            go_simp
            with_reducible rfl
           rotate_left
           ·simp only [Act.put, List.setIfInBounds_toArray, List.set_cons_zero, List.set_cons_succ, i64_w, i32_w]
            rfl
           refine pure_ (i := 10) (N := some 22) (v := ?_) (a' := ?_) (lb 19 2047) rfl rfl (any_of HT_.out (by kernel_rfl)) (fun _ _ _ h => h) (Or.inl ⟨by rfl, ?_⟩) ?_ ?_
           rotate_left
           ·intro w'
            go_simp
            with_reducible rfl
           rotate_left
           ·simp only [Act.put, List.setIfInBounds_toArray, List.set_cons_zero, List.set_cons_succ, i64_w, i32_w]
            rfl
           refine pure_ (i := 11) (N := some 23) (v := ?_) (a' := ?_) (lb 19 4095) rfl rfl (any_of HT_.out (by kernel_rfl)) (fun _ _ _ h => h) (Or.inl ⟨by rfl, ?_⟩) ?_ ?_
           rotate_left
           ·intro w'
            go_simp
            with_reducible rfl
           rotate_left
           ·simp only [Act.put, List.setIfInBounds_toArray, List.set_cons_zero, List.set_cons_succ, i64_w, i32_w]
            rfl
           refine pure_ (i := 13) (N := some 25) (v := ?_) (a' := ?_) (lb 19 12287) rfl rfl (any_of HT_.out (by kernel_rfl)) (fun _ _ _ h => h) (Or.inl ⟨by rfl, ?_⟩) ?_ ?_
           rotate_left
           ·intro w'
            go_simp
            with_reducible rfl
           rotate_left
           ·simp only [Act.put, List.setIfInBounds_toArray, List.set_cons_zero, List.set_cons_succ, i64_w, i32_w]
            rfl
           refine take_ (i := 12) (N := some 24) (v := ?_) (a' := ?_) (lb 19 16383) rfl rfl (take_ofW HT_.out HW_.out (by kernel_rfl)) (fun _ _ _ h => h) (Or.inl ⟨by rfl, ?_⟩) hHeld ?_ ?_
           rotate_left
           ·rintro w' ⟨s0, s1, s2, s3, s4, s5, s6, s7, s8, s9, s10, s11, s12, s13, s14, s15, s16, s17, s18, s19, s20, s21⟩
            go_simp
            with_reducible rfl
           rotate_left
           ·simp only [Act.put, List.setIfInBounds_toArray, List.set_cons_zero, List.set_cons_succ, i64_w, i32_w]
            rfl
           refine take_ (i := 14) (N := some 26) (v := ?_) (a' := ?_) (lb 19 32767) rfl rfl (take_ofW HT_.out HW_.out (by kernel_rfl)) (fun _ _ _ h => h) (Or.inl ⟨by rfl, ?_⟩) hHeld ?_ ?_
           rotate_left
           ·rintro w' ⟨s0, s1, s2, s3, s4, s5, s6, s7, s8, s9, s10, s11, s12, s13, s14, s15, s16, s17, s18, s19, s20, s21⟩
            go_simp
            with_reducible rfl
           rotate_left
           ·simp only [Act.put, List.setIfInBounds_toArray, List.set_cons_zero, List.set_cons_succ, i64_w, i32_w]
            rfl
           refine one_ (i := 15) (N := some 27) (lb 19 65535) rfl rfl (one_of HT_.out (by kernel_rfl)) (by decide) (fun K hK => ?_)
           refine goes_ Tryd.func50 (by kernel_rfl) rfl #[.string ((rd_T61 l0 (ji8)).f0), .string ((rd_T61 l0 x7_1).f0)] (by rfl) rfl rfl (by (try simp only [List.map_toArray, List.map_cons, List.map_nil]); first | done | (simp only [hji8]; rfl) | rfl | (simp only [List.length_drop, List.length_take]; rfl)) ?_
           with_reducible refine (path_Cmp.calls k1 ((rd_T61 l0 (ji8)).f0) ((rd_T61 l0 x7_1).f0) t240 _ A11.out).mono ?_
           rintro e w24 ⟨rfl, hb⟩
           refine ⟨_, rfl, ?_⟩
           have n0_ := Aside0.mk (blk_below (g := gb237) (o := .cells #[.string ((rd_T61 l0 x7_1).f0), .bool ((rd_T61 l0 x7_1).f1), .bool ((rd_T61 l0 x7_1).f2), .string ((rd_T61 l0 x7_1).f3.f0), .string ((rd_T61 l0 x7_1).f3.f1), .int .i64 ((rd_T61 l0 x7_1).f3.f2), .int .i64 ((rd_T61 l0 x7_1).f3.f3), .string ((rd_T61 l0 x7_1).f4.f0), .string ((rd_T61 l0 x7_1).f4.f1), .int .i64 ((rd_T61 l0 x7_1).f4.f2), .int .i64 ((rd_T61 l0 x7_1).f4.f3)] 61 (0, 0)) (by (with_reducible repeat (first | refine blk_drewN ?_ _ | refine blk_drew ?_ | refine blk_alloc ?_ _)); exact BK237.out) hb)
           have n1_ := Aside0.mk (below_step (by repeat (first | (with_reducible first | exact HB.out | apply below_alloc | apply pw_below_drewN | apply below_drew1 | refine below_set ?_ GE237.out) | exact HB.out)) hb)
           clear BK237
           clear HB
           have BK237 := n0_
           have HB := n1_
           clear n0_ n1_
           (try clear hb)
           (try clear hb2)
           (try clear hk)
           (try clear hi)
           refine hK.out _ _ ⟨(blk_cell BK237.out 0).trans rfl, (blk_cell BK237.out 1).trans rfl, (blk_cell BK237.out 2).trans rfl, (blk_cell BK237.out 3).trans rfl, (blk_cell BK237.out 4).trans rfl, (blk_cell BK237.out 5).trans rfl, (blk_cell BK237.out 6).trans rfl, (blk_cell BK237.out 7).trans rfl, (blk_cell BK237.out 8).trans rfl, (blk_cell BK237.out 9).trans rfl, (blk_cell BK237.out 10).trans rfl, ((HB.out.cell (World.block_lt_of_cell? w _ hw239_0)).trans hw239_0), ((HB.out.cell (World.block_lt_of_cell? w _ hw239_1)).trans hw239_1), ((HB.out.cell (World.block_lt_of_cell? w _ hw239_2)).trans hw239_2), ((HB.out.cell (World.block_lt_of_cell? w _ hw239_3)).trans hw239_3), ((HB.out.cell (World.block_lt_of_cell? w _ hw239_4)).trans hw239_4), ((HB.out.cell (World.block_lt_of_cell? w _ hw239_5)).trans hw239_5), ((HB.out.cell (World.block_lt_of_cell? w _ hw239_6)).trans hw239_6), ((HB.out.cell (World.block_lt_of_cell? w _ hw239_7)).trans hw239_7), ((HB.out.cell (World.block_lt_of_cell? w _ hw239_8)).trans hw239_8), ((HB.out.cell (World.block_lt_of_cell? w _ hw239_9)).trans hw239_9), ((HB.out.cell (World.block_lt_of_cell? w _ hw239_10)).trans hw239_10)⟩ (fun hHeld => ?_)
           clear hK K
           refine norm_ (a' := ?_) ?_ ?_
           rotate_left
           ·show Act.put _ (some 27) _ = _
            simp only [Act.put, List.setIfInBounds_toArray, List.set_cons_zero, List.set_cons_succ, i64_w, i32_w]
            rfl
           refine pure_ (i := 16) (N := some 28) (v := ?_) (a' := ?_) (lb 19 131071) rfl rfl (any_of HT_.out (by kernel_rfl)) (fun _ _ _ h => h) (Or.inl ⟨by rfl, ?_⟩) ?_ ?_
           rotate_left
           ·intro w'
            go_simp
            with_reducible rfl
           rotate_left
           ·simp only [Act.put, List.setIfInBounds_toArray, List.set_cons_zero, List.set_cons_succ, i64_w, i32_w]
            rfl
           refine pure_ (i := 17) (N := some 29) (v := ?_) (a' := ?_) (lb 19 262143) rfl rfl (any_of HT_.out (by kernel_rfl)) (fun _ _ _ h => h) (Or.inl ⟨by rfl, ?_⟩) ?_ ?_
           rotate_left
           ·intro w'
            go_simp
            with_reducible rfl
           rotate_left
           ·simp only [Act.put, List.setIfInBounds_toArray, List.set_cons_zero, List.set_cons_succ, i64_w, i32_w]
            rfl
           refine pure_ (i := 18) (N := some 30) (v := ?_) (a' := ?_) (lb 19 524287) rfl rfl (any_of HT_.out (by kernel_rfl)) (fun _ _ _ h => h) (Or.inl ⟨by rfl, ?_⟩) ?_ ?_
           rotate_left
           ·intro w'
            go_simp
            with_reducible rfl
           rotate_left
           ·simp only [Act.put, List.setIfInBounds_toArray, List.set_cons_zero, List.set_cons_succ, i64_w, i32_w]
            rfl
           refine done_ (done_of HT_.out (by kernel_rfl)) ?_
           try go_wp2
           go_roundg k1
           case measure => have := HK1.out; omega
           case rel => exact ⟨(wrap64 (x7_1 + 1)), (by first | rfl | (simp; done) | (simp [*]; done)), H', ⟨by have := HK1.out; omega⟩, ⟨by repeat (first | (with_reducible first | exact HB.out | apply below_alloc | apply pw_below_drewN | apply below_drew1 | refine below_set ?_ GE237.out) | exact HB.out)⟩⟩
         ·rw [if_neg c10] at H
          exact absurd H (by simp)
        ·rw [if_neg c9] at H
         exact absurd H (by simp)
       ·rw [if_neg c7] at H
        have c7b0 := decide_eq_false c7
        clear c7
        have H' := Aside0.mk H
        clear H
        have p236 : 0 ≤ (x7_1 : Int) := of_decide_eq_true (by first | (with_reducible assumption) | assumption)
        have q236 : x7_1 < (l0.length : Int) := of_decide_eq_true (by first | (with_reducible assumption) | assumption)
        obtain ⟨ad236, e236, hx236_0, hx236_1, hx236_2, hx236_3, hx236_4, hx236_5, hx236_6, hx236_7, hx236_8, hx236_9, hx236_10⟩ := at_T61 HR0.out x7_1 p236 q236
        cases e236
        replace hx236_0 := (HB.out.cell (World.block_lt_of_cell? w _ hx236_0)).trans hx236_0
        replace hx236_1 := (HB.out.cell (World.block_lt_of_cell? w _ hx236_1)).trans hx236_1
        replace hx236_2 := (HB.out.cell (World.block_lt_of_cell? w _ hx236_2)).trans hx236_2
        replace hx236_3 := (HB.out.cell (World.block_lt_of_cell? w _ hx236_3)).trans hx236_3
        replace hx236_4 := (HB.out.cell (World.block_lt_of_cell? w _ hx236_4)).trans hx236_4
        replace hx236_5 := (HB.out.cell (World.block_lt_of_cell? w _ hx236_5)).trans hx236_5
        replace hx236_6 := (HB.out.cell (World.block_lt_of_cell? w _ hx236_6)).trans hx236_6
        replace hx236_7 := (HB.out.cell (World.block_lt_of_cell? w _ hx236_7)).trans hx236_7
        replace hx236_8 := (HB.out.cell (World.block_lt_of_cell? w _ hx236_8)).trans hx236_8
        replace hx236_9 := (HB.out.cell (World.block_lt_of_cell? w _ hx236_9)).trans hx236_9
        replace hx236_10 := (HB.out.cell (World.block_lt_of_cell? w _ hx236_10)).trans hx236_10
        replace p236 := eq_true p236
        replace q236 := eq_true q236
        try go_wp2_with (first | ((with_reducible refine gate_dst (N := 4) rfl ?_); refine box_event ?hg (N := 4) ?hd (cs := #[.string (⟨#[]⟩ : ByteArray), .bool false, .bool false, .string (⟨#[]⟩ : ByteArray), .string (⟨#[]⟩ : ByteArray), .int .i64 0, .int .i64 0, .string (⟨#[]⟩ : ByteArray), .string (⟨#[]⟩ : ByteArray), .int .i64 0, .int .i64 0]) (t := 61) ?hr ?_; (case hd => rfl); (case hg => rfl); (case hr => first | (go_simp; done) | (go_simp; rfl)); intro gb237 hg w25 hbox hb; have n0_ := Aside0.mk (below_step (by repeat (first | (with_reducible first | exact HB.out | apply below_alloc | apply pw_below_drewN | apply below_drew1) | exact HB.out)) hb); have n1_ := Aside0.mk (hbox); have n2_ := Aside0.mk ((by rw [hg]; exact (below_size (by repeat (first | (with_reducible first | exact HB.out | apply below_alloc | apply pw_below_drewN | apply below_drew1) | exact HB.out))) : w.heap.size ≤ gb237)); have n3_ := Aside0.mk ((by rw [hg]; exact (below_size (by repeat (first | (with_reducible first | exact HB.out | apply below_alloc | apply pw_below_drewN | apply below_drew1) | exact HB.out))) : w.heap.size ≤ gb237)); clear HB; have HB := n0_; have BK237 := n1_; have GW237 := n2_; have GE237 := n3_; clear n0_ n1_ n2_ n3_; clear hb hbox hg; have hcz26_0 : w25.cell? ⟨gb237, 0, none⟩ = some (.string (⟨#[]⟩ : ByteArray)) := (blk_cell BK237.out 0).trans rfl; have hcz26_1 : w25.cell? ⟨gb237, 1, none⟩ = some (.bool false) := (blk_cell BK237.out 1).trans rfl; have hcz26_2 : w25.cell? ⟨gb237, 2, none⟩ = some (.bool false) := (blk_cell BK237.out 2).trans rfl; have hcz26_3 : w25.cell? ⟨gb237, 3, none⟩ = some (.string (⟨#[]⟩ : ByteArray)) := (blk_cell BK237.out 3).trans rfl; have hcz26_4 : w25.cell? ⟨gb237, 4, none⟩ = some (.string (⟨#[]⟩ : ByteArray)) := (blk_cell BK237.out 4).trans rfl; have hcz26_5 : w25.cell? ⟨gb237, 5, none⟩ = some (.int .i64 0) := (blk_cell BK237.out 5).trans rfl; have hcz26_6 : w25.cell? ⟨gb237, 6, none⟩ = some (.int .i64 0) := (blk_cell BK237.out 6).trans rfl; have hcz26_7 : w25.cell? ⟨gb237, 7, none⟩ = some (.string (⟨#[]⟩ : ByteArray)) := (blk_cell BK237.out 7).trans rfl; have hcz26_8 : w25.cell? ⟨gb237, 8, none⟩ = some (.string (⟨#[]⟩ : ByteArray)) := (blk_cell BK237.out 8).trans rfl; have hcz26_9 : w25.cell? ⟨gb237, 9, none⟩ = some (.int .i64 0) := (blk_cell BK237.out 9).trans rfl; have hcz26_10 : w25.cell? ⟨gb237, 10, none⟩ = some (.int .i64 0) := (blk_cell BK237.out 10).trans rfl; have hfz26_0 := blk_frozen BK237.out 0; have hfz26_1 := blk_frozen BK237.out 1; have hfz26_2 := blk_frozen BK237.out 2; have hfz26_3 := blk_frozen BK237.out 3; have hfz26_4 := blk_frozen BK237.out 4; have hfz26_5 := blk_frozen BK237.out 5; have hfz26_6 := blk_frozen BK237.out 6; have hfz26_7 := blk_frozen BK237.out 7; have hfz26_8 := blk_frozen BK237.out 8; have hfz26_9 := blk_frozen BK237.out 9; have hfz26_10 := blk_frozen BK237.out 10))
        have n0_ : Aside0 ((((((((((((w25.setCell ⟨gb237, 0, none⟩ (.string ((rd_T61 l0 x7_1).f0))).setCell ⟨gb237, 1, none⟩ (.bool ((rd_T61 l0 x7_1).f1))).setCell ⟨gb237, 2, none⟩ (.bool ((rd_T61 l0 x7_1).f2))).setCell ⟨gb237, 3, none⟩ (.string ((rd_T61 l0 x7_1).f3.f0))).setCell ⟨gb237, 4, none⟩ (.string ((rd_T61 l0 x7_1).f3.f1))).setCell ⟨gb237, 5, none⟩ (.int .i64 ((rd_T61 l0 x7_1).f3.f2))).setCell ⟨gb237, 6, none⟩ (.int .i64 ((rd_T61 l0 x7_1).f3.f3))).setCell ⟨gb237, 7, none⟩ (.string ((rd_T61 l0 x7_1).f4.f0))).setCell ⟨gb237, 8, none⟩ (.string ((rd_T61 l0 x7_1).f4.f1))).setCell ⟨gb237, 9, none⟩ (.int .i64 ((rd_T61 l0 x7_1).f4.f2))).setCell ⟨gb237, 10, none⟩ (.int .i64 ((rd_T61 l0 x7_1).f4.f3))).heap[gb237]? = some (.cells #[.string ((rd_T61 l0 x7_1).f0), .bool ((rd_T61 l0 x7_1).f1), .bool ((rd_T61 l0 x7_1).f2), .string ((rd_T61 l0 x7_1).f3.f0), .string ((rd_T61 l0 x7_1).f3.f1), .int .i64 ((rd_T61 l0 x7_1).f3.f2), .int .i64 ((rd_T61 l0 x7_1).f3.f3), .string ((rd_T61 l0 x7_1).f4.f0), .string ((rd_T61 l0 x7_1).f4.f1), .int .i64 ((rd_T61 l0 x7_1).f4.f2), .int .i64 ((rd_T61 l0 x7_1).f4.f3)] 61 (0, 0))) := ⟨by (with_reducible repeat (first | refine blk_drewN ?_ _ | refine blk_drew ?_ | refine blk_alloc ?_ _)); refine blk_put (cs := #[.string ((rd_T61 l0 x7_1).f0), .bool ((rd_T61 l0 x7_1).f1), .bool ((rd_T61 l0 x7_1).f2), .string ((rd_T61 l0 x7_1).f3.f0), .string ((rd_T61 l0 x7_1).f3.f1), .int .i64 ((rd_T61 l0 x7_1).f3.f2), .int .i64 ((rd_T61 l0 x7_1).f3.f3), .string ((rd_T61 l0 x7_1).f4.f0), .string ((rd_T61 l0 x7_1).f4.f1), .int .i64 ((rd_T61 l0 x7_1).f4.f2), .int .i64 0]) ?_ 10 _ rfl; (with_reducible repeat (first | refine blk_drewN ?_ _ | refine blk_drew ?_ | refine blk_alloc ?_ _)); refine blk_put (cs := #[.string ((rd_T61 l0 x7_1).f0), .bool ((rd_T61 l0 x7_1).f1), .bool ((rd_T61 l0 x7_1).f2), .string ((rd_T61 l0 x7_1).f3.f0), .string ((rd_T61 l0 x7_1).f3.f1), .int .i64 ((rd_T61 l0 x7_1).f3.f2), .int .i64 ((rd_T61 l0 x7_1).f3.f3), .string ((rd_T61 l0 x7_1).f4.f0), .string ((rd_T61 l0 x7_1).f4.f1), .int .i64 0, .int .i64 0]) ?_ 9 _ rfl; (with_reducible repeat (first | refine blk_drewN ?_ _ | refine blk_drew ?_ | refine blk_alloc ?_ _)); refine blk_put (cs := #[.string ((rd_T61 l0 x7_1).f0), .bool ((rd_T61 l0 x7_1).f1), .bool ((rd_T61 l0 x7_1).f2), .string ((rd_T61 l0 x7_1).f3.f0), .string ((rd_T61 l0 x7_1).f3.f1), .int .i64 ((rd_T61 l0 x7_1).f3.f2), .int .i64 ((rd_T61 l0 x7_1).f3.f3), .string ((rd_T61 l0 x7_1).f4.f0), .string (⟨#[]⟩ : ByteArray), .int .i64 0, .int .i64 0]) ?_ 8 _ rfl; (with_reducible repeat (first | refine blk_drewN ?_ _ | refine blk_drew ?_ | refine blk_alloc ?_ _)); refine blk_put (cs := #[.string ((rd_T61 l0 x7_1).f0), .bool ((rd_T61 l0 x7_1).f1), .bool ((rd_T61 l0 x7_1).f2), .string ((rd_T61 l0 x7_1).f3.f0), .string ((rd_T61 l0 x7_1).f3.f1), .int .i64 ((rd_T61 l0 x7_1).f3.f2), .int .i64 ((rd_T61 l0 x7_1).f3.f3), .string (⟨#[]⟩ : ByteArray), .string (⟨#[]⟩ : ByteArray), .int .i64 0, .int .i64 0]) ?_ 7 _ rfl; (with_reducible repeat (first | refine blk_drewN ?_ _ | refine blk_drew ?_ | refine blk_alloc ?_ _)); refine blk_put (cs := #[.string ((rd_T61 l0 x7_1).f0), .bool ((rd_T61 l0 x7_1).f1), .bool ((rd_T61 l0 x7_1).f2), .string ((rd_T61 l0 x7_1).f3.f0), .string ((rd_T61 l0 x7_1).f3.f1), .int .i64 ((rd_T61 l0 x7_1).f3.f2), .int .i64 0, .string (⟨#[]⟩ : ByteArray), .string (⟨#[]⟩ : ByteArray), .int .i64 0, .int .i64 0]) ?_ 6 _ rfl; (with_reducible repeat (first | refine blk_drewN ?_ _ | refine blk_drew ?_ | refine blk_alloc ?_ _)); refine blk_put (cs := #[.string ((rd_T61 l0 x7_1).f0), .bool ((rd_T61 l0 x7_1).f1), .bool ((rd_T61 l0 x7_1).f2), .string ((rd_T61 l0 x7_1).f3.f0), .string ((rd_T61 l0 x7_1).f3.f1), .int .i64 0, .int .i64 0, .string (⟨#[]⟩ : ByteArray), .string (⟨#[]⟩ : ByteArray), .int .i64 0, .int .i64 0]) ?_ 5 _ rfl; (with_reducible repeat (first | refine blk_drewN ?_ _ | refine blk_drew ?_ | refine blk_alloc ?_ _)); refine blk_put (cs := #[.string ((rd_T61 l0 x7_1).f0), .bool ((rd_T61 l0 x7_1).f1), .bool ((rd_T61 l0 x7_1).f2), .string ((rd_T61 l0 x7_1).f3.f0), .string (⟨#[]⟩ : ByteArray), .int .i64 0, .int .i64 0, .string (⟨#[]⟩ : ByteArray), .string (⟨#[]⟩ : ByteArray), .int .i64 0, .int .i64 0]) ?_ 4 _ rfl; (with_reducible repeat (first | refine blk_drewN ?_ _ | refine blk_drew ?_ | refine blk_alloc ?_ _)); refine blk_put (cs := #[.string ((rd_T61 l0 x7_1).f0), .bool ((rd_T61 l0 x7_1).f1), .bool ((rd_T61 l0 x7_1).f2), .string (⟨#[]⟩ : ByteArray), .string (⟨#[]⟩ : ByteArray), .int .i64 0, .int .i64 0, .string (⟨#[]⟩ : ByteArray), .string (⟨#[]⟩ : ByteArray), .int .i64 0, .int .i64 0]) ?_ 3 _ rfl; (with_reducible repeat (first | refine blk_drewN ?_ _ | refine blk_drew ?_ | refine blk_alloc ?_ _)); refine blk_put (cs := #[.string ((rd_T61 l0 x7_1).f0), .bool ((rd_T61 l0 x7_1).f1), .bool false, .string (⟨#[]⟩ : ByteArray), .string (⟨#[]⟩ : ByteArray), .int .i64 0, .int .i64 0, .string (⟨#[]⟩ : ByteArray), .string (⟨#[]⟩ : ByteArray), .int .i64 0, .int .i64 0]) ?_ 2 _ rfl; (with_reducible repeat (first | refine blk_drewN ?_ _ | refine blk_drew ?_ | refine blk_alloc ?_ _)); refine blk_put (cs := #[.string ((rd_T61 l0 x7_1).f0), .bool false, .bool false, .string (⟨#[]⟩ : ByteArray), .string (⟨#[]⟩ : ByteArray), .int .i64 0, .int .i64 0, .string (⟨#[]⟩ : ByteArray), .string (⟨#[]⟩ : ByteArray), .int .i64 0, .int .i64 0]) ?_ 1 _ rfl; (with_reducible repeat (first | refine blk_drewN ?_ _ | refine blk_drew ?_ | refine blk_alloc ?_ _)); refine blk_put (cs := #[.string (⟨#[]⟩ : ByteArray), .bool false, .bool false, .string (⟨#[]⟩ : ByteArray), .string (⟨#[]⟩ : ByteArray), .int .i64 0, .int .i64 0, .string (⟨#[]⟩ : ByteArray), .string (⟨#[]⟩ : ByteArray), .int .i64 0, .int .i64 0]) ?_ 0 _ rfl; (with_reducible repeat (first | refine blk_drewN ?_ _ | refine blk_drew ?_ | refine blk_alloc ?_ _)); exact BK237.out⟩
        have n1_ : Aside0 (Below w.heap.size w (((((((((((w25.setCell ⟨gb237, 0, none⟩ (.string ((rd_T61 l0 x7_1).f0))).setCell ⟨gb237, 1, none⟩ (.bool ((rd_T61 l0 x7_1).f1))).setCell ⟨gb237, 2, none⟩ (.bool ((rd_T61 l0 x7_1).f2))).setCell ⟨gb237, 3, none⟩ (.string ((rd_T61 l0 x7_1).f3.f0))).setCell ⟨gb237, 4, none⟩ (.string ((rd_T61 l0 x7_1).f3.f1))).setCell ⟨gb237, 5, none⟩ (.int .i64 ((rd_T61 l0 x7_1).f3.f2))).setCell ⟨gb237, 6, none⟩ (.int .i64 ((rd_T61 l0 x7_1).f3.f3))).setCell ⟨gb237, 7, none⟩ (.string ((rd_T61 l0 x7_1).f4.f0))).setCell ⟨gb237, 8, none⟩ (.string ((rd_T61 l0 x7_1).f4.f1))).setCell ⟨gb237, 9, none⟩ (.int .i64 ((rd_T61 l0 x7_1).f4.f2))).setCell ⟨gb237, 10, none⟩ (.int .i64 ((rd_T61 l0 x7_1).f4.f3)))) := ⟨by repeat (first | (with_reducible first | exact HB.out | apply below_alloc | apply pw_below_drewN | apply below_drew1 | refine below_set ?_ GE237.out) | exact HB.out)⟩
        (try clear BK237)
        (try clear HB)
        generalize (((((((((((w25.setCell ⟨gb237, 0, none⟩ (.string ((rd_T61 l0 x7_1).f0))).setCell ⟨gb237, 1, none⟩ (.bool ((rd_T61 l0 x7_1).f1))).setCell ⟨gb237, 2, none⟩ (.bool ((rd_T61 l0 x7_1).f2))).setCell ⟨gb237, 3, none⟩ (.string ((rd_T61 l0 x7_1).f3.f0))).setCell ⟨gb237, 4, none⟩ (.string ((rd_T61 l0 x7_1).f3.f1))).setCell ⟨gb237, 5, none⟩ (.int .i64 ((rd_T61 l0 x7_1).f3.f2))).setCell ⟨gb237, 6, none⟩ (.int .i64 ((rd_T61 l0 x7_1).f3.f3))).setCell ⟨gb237, 7, none⟩ (.string ((rd_T61 l0 x7_1).f4.f0))).setCell ⟨gb237, 8, none⟩ (.string ((rd_T61 l0 x7_1).f4.f1))).setCell ⟨gb237, 9, none⟩ (.int .i64 ((rd_T61 l0 x7_1).f4.f2))).setCell ⟨gb237, 10, none⟩ (.int .i64 ((rd_T61 l0 x7_1).f4.f3))) = w27 at n0_ n1_ ⊢
        have BK237 := n0_
        have HB := n1_
        clear n0_ n1_
        have n0_ := Aside0.mk (blk_drew BK237.out)
        have n1_ := Aside0.mk (below_drew1 HB.out)
        clear BK237
        clear HB
        have BK237 := n0_
        have HB := n1_
        clear n0_ n1_
        refine start_ (n := 19) (S := fun w' => w'.cell? ⟨gb237, 0, none⟩ = some (.string ((rd_T61 l0 x7_1).f0)) ∧ w'.cell? ⟨gb237, 1, none⟩ = some (.bool ((rd_T61 l0 x7_1).f1)) ∧ w'.cell? ⟨gb237, 2, none⟩ = some (.bool ((rd_T61 l0 x7_1).f2)) ∧ w'.cell? ⟨gb237, 3, none⟩ = some (.string ((rd_T61 l0 x7_1).f3.f0)) ∧ w'.cell? ⟨gb237, 4, none⟩ = some (.string ((rd_T61 l0 x7_1).f3.f1)) ∧ w'.cell? ⟨gb237, 5, none⟩ = some (.int .i64 ((rd_T61 l0 x7_1).f3.f2)) ∧ w'.cell? ⟨gb237, 6, none⟩ = some (.int .i64 ((rd_T61 l0 x7_1).f3.f3)) ∧ w'.cell? ⟨gb237, 7, none⟩ = some (.string ((rd_T61 l0 x7_1).f4.f0)) ∧ w'.cell? ⟨gb237, 8, none⟩ = some (.string ((rd_T61 l0 x7_1).f4.f1)) ∧ w'.cell? ⟨gb237, 9, none⟩ = some (.int .i64 ((rd_T61 l0 x7_1).f4.f2)) ∧ w'.cell? ⟨gb237, 10, none⟩ = some (.int .i64 ((rd_T61 l0 x7_1).f4.f3))) (ds := []) (lb 19 0) (by kernel_rfl) rfl rfl ⟨(blk_cell BK237.out 0).trans rfl, (blk_cell BK237.out 1).trans rfl, (blk_cell BK237.out 2).trans rfl, (blk_cell BK237.out 3).trans rfl, (blk_cell BK237.out 4).trans rfl, (blk_cell BK237.out 5).trans rfl, (blk_cell BK237.out 6).trans rfl, (blk_cell BK237.out 7).trans rfl, (blk_cell BK237.out 8).trans rfl, (blk_cell BK237.out 9).trans rfl, (blk_cell BK237.out 10).trans rfl⟩ (fun hHeld => ?_); refine with_tabW delta_Valid.tab4 delta_Valid.bits4 (fun HT_ HW_ => ?_)
        generalize w27.drew = w28 at BK237 HB hHeld ⊢
        refine take_ (i := 0) (N := some 12) (v := ?_) (a' := ?_) (lb 19 1) rfl rfl (take_ofW HT_.out HW_.out (by kernel_rfl)) (fun _ _ _ h => h) (Or.inl ⟨by rfl, ?_⟩) hHeld ?_ ?_
        rotate_left
        ·rintro w' ⟨s0, s1, s2, s3, s4, s5, s6, s7, s8, s9, s10⟩
         go_simp
         with_reducible rfl
        rotate_left
        ·simp only [Act.put, List.setIfInBounds_toArray, List.set_cons_zero, List.set_cons_succ, i64_w, i32_w]
         rfl
        refine one_ (i := 1) (N := some 13) (lb 19 3) rfl rfl (one_of HT_.out (by kernel_rfl)) (by decide) (fun K hK => ?_)
        refine goes_ Tryd.func60 (by kernel_rfl) rfl #[.agg #[.string ((rd_T61 l0 x7_1).f0), .bool ((rd_T61 l0 x7_1).f1), .bool ((rd_T61 l0 x7_1).f2), .string ((rd_T61 l0 x7_1).f3.f0), .string ((rd_T61 l0 x7_1).f3.f1), .int .i64 ((rd_T61 l0 x7_1).f3.f2), .int .i64 ((rd_T61 l0 x7_1).f3.f3), .string ((rd_T61 l0 x7_1).f4.f0), .string ((rd_T61 l0 x7_1).f4.f1), .int .i64 ((rd_T61 l0 x7_1).f4.f2), .int .i64 ((rd_T61 l0 x7_1).f4.f3)]] (by rfl) rfl rfl (by (try simp only [List.map_toArray, List.map_cons, List.map_nil]); first | done | rfl | (simp only [List.length_drop, List.length_take]; rfl)) ?_
        with_reducible refine (delta_may.calls k1 ((rd_T61 l0 x7_1).f0) ((rd_T61 l0 x7_1).f1) ((rd_T61 l0 x7_1).f2) ((rd_T61 l0 x7_1).f3.f0) ((rd_T61 l0 x7_1).f3.f1) ((rd_T61 l0 x7_1).f3.f2) ((rd_T61 l0 x7_1).f3.f3) ((rd_T61 l0 x7_1).f4.f0) ((rd_T61 l0 x7_1).f4.f1) ((rd_T61 l0 x7_1).f4.f2) ((rd_T61 l0 x7_1).f4.f3) true _ A5.out).mono ?_
        rintro e w29 ⟨rfl, hb⟩
        refine ⟨_, rfl, ?_⟩
        have n0_ := Aside0.mk (blk_below (g := gb237) (o := .cells #[.string ((rd_T61 l0 x7_1).f0), .bool ((rd_T61 l0 x7_1).f1), .bool ((rd_T61 l0 x7_1).f2), .string ((rd_T61 l0 x7_1).f3.f0), .string ((rd_T61 l0 x7_1).f3.f1), .int .i64 ((rd_T61 l0 x7_1).f3.f2), .int .i64 ((rd_T61 l0 x7_1).f3.f3), .string ((rd_T61 l0 x7_1).f4.f0), .string ((rd_T61 l0 x7_1).f4.f1), .int .i64 ((rd_T61 l0 x7_1).f4.f2), .int .i64 ((rd_T61 l0 x7_1).f4.f3)] 61 (0, 0)) (by (with_reducible repeat (first | refine blk_drewN ?_ _ | refine blk_drew ?_ | refine blk_alloc ?_ _)); exact BK237.out) hb)
        have n1_ := Aside0.mk (below_step (by repeat (first | (with_reducible first | exact HB.out | apply below_alloc | apply pw_below_drewN | apply below_drew1 | refine below_set ?_ GE237.out) | exact HB.out)) hb)
        clear BK237
        clear HB
        have BK237 := n0_
        have HB := n1_
        clear n0_ n1_
        (try clear hb)
        (try clear hb2)
        (try clear hk)
        (try clear hi)
        refine hK.out _ _ ⟨(blk_cell BK237.out 0).trans rfl, (blk_cell BK237.out 1).trans rfl, (blk_cell BK237.out 2).trans rfl, (blk_cell BK237.out 3).trans rfl, (blk_cell BK237.out 4).trans rfl, (blk_cell BK237.out 5).trans rfl, (blk_cell BK237.out 6).trans rfl, (blk_cell BK237.out 7).trans rfl, (blk_cell BK237.out 8).trans rfl, (blk_cell BK237.out 9).trans rfl, (blk_cell BK237.out 10).trans rfl⟩ (fun hHeld => ?_)
        clear hK K
        refine norm_ (a' := ?_) ?_ ?_
        rotate_left
        ·show Act.put _ (some 13) _ = _
         simp only [Act.put, List.setIfInBounds_toArray, List.set_cons_zero, List.set_cons_succ, i64_w, i32_w]
         rfl
        refine pure_ (i := 2) (N := some 14) (v := ?_) (a' := ?_) (lb 19 7) rfl rfl (any_of HT_.out (by kernel_rfl)) (fun _ _ _ h => h) (Or.inl ⟨by rfl, ?_⟩) ?_ ?_
        rotate_left
        ·intro w'
         go_simp
         with_reducible rfl
        rotate_left
        ·simp only [Act.put, List.setIfInBounds_toArray, List.set_cons_zero, List.set_cons_succ, i64_w, i32_w]
         rfl
        refine pure_ (i := 3) (N := some 15) (v := ?_) (a' := ?_) (lb 19 15) rfl rfl (any_of HT_.out (by kernel_rfl)) (fun _ _ _ h => h) (Or.inl ⟨by rfl, ?_⟩) ?_ ?_
        rotate_left
        ·intro w'
         go_simp
         with_reducible rfl
        rotate_left
        ·simp only [Act.put, List.setIfInBounds_toArray, List.set_cons_zero, List.set_cons_succ, i64_w, i32_w]
         rfl
        refine pure_ (i := 4) (N := some 16) (v := ?_) (a' := ?_) (lb 19 31) rfl rfl (any_of HT_.out (by kernel_rfl)) (fun _ _ _ h => h) (Or.inl ⟨by rfl, ?_⟩) ?_ ?_
        rotate_left
        ·intro w'
         go_simp
         with_reducible rfl
        rotate_left
        ·simp only [Act.put, List.setIfInBounds_toArray, List.set_cons_zero, List.set_cons_succ, i64_w, i32_w]
         rfl
        refine pure_ (i := 5) (N := some 17) (v := ?_) (a' := ?_) (lb 19 63) rfl rfl (any_of HT_.out (by kernel_rfl)) (fun _ _ _ h => h) (Or.inl ⟨by rfl, ?_⟩) ?_ ?_
        rotate_left
        ·intro w'
         go_simp
         with_reducible rfl
        rotate_left
        ·simp only [Act.put, List.setIfInBounds_toArray, List.set_cons_zero, List.set_cons_succ, i64_w, i32_w]
         rfl
        refine pure_ (i := 6) (N := some 18) (v := ?_) (a' := ?_) (lb 19 127) rfl rfl (any_of HT_.out (by kernel_rfl)) (fun _ _ _ h => h) (Or.inl ⟨by rfl, ?_⟩) ?_ ?_
        rotate_left
        ·intro w'
         go_simp
         with_reducible rfl
        rotate_left
        ·simp only [Act.put, List.setIfInBounds_toArray, List.set_cons_zero, List.set_cons_succ, i64_w, i32_w]
         rfl
        refine pure_ (i := 7) (N := some 19) (v := undef) (a' := ?_) (lb 19 255) rfl rfl (any_of HT_.out (by kernel_rfl)) (fun _ _ _ h => h) (Or.inr ⟨by rfl, rfl⟩) ?_ ?_
        rotate_left
        ·simp only [Act.put, List.setIfInBounds_toArray, List.set_cons_zero, List.set_cons_succ, i64_w, i32_w]
         rfl
        refine pure_ (i := 8) (N := some 20) (v := undef) (a' := ?_) (lb 19 511) rfl rfl (any_of HT_.out (by kernel_rfl)) (fun _ _ _ h => h) (Or.inr ⟨by rfl, rfl⟩) ?_ ?_
        rotate_left
        ·simp only [Act.put, List.setIfInBounds_toArray, List.set_cons_zero, List.set_cons_succ, i64_w, i32_w]
         rfl
        refine pure_ (i := 9) (N := some 21) (v := undef) (a' := ?_) (lb 19 1023) rfl rfl (any_of HT_.out (by kernel_rfl)) (fun _ _ _ h => h) (Or.inr ⟨by rfl, rfl⟩) ?_ ?_
        rotate_left
        ·simp only [Act.put, List.setIfInBounds_toArray, List.set_cons_zero, List.set_cons_succ, i64_w, i32_w]
         rfl
        refine pure_ (i := 10) (N := some 22) (v := undef) (a' := ?_) (lb 19 2047) rfl rfl (any_of HT_.out (by kernel_rfl)) (fun _ _ _ h => h) (Or.inr ⟨by rfl, rfl⟩) ?_ ?_
        rotate_left
        ·simp only [Act.put, List.setIfInBounds_toArray, List.set_cons_zero, List.set_cons_succ, i64_w, i32_w]
         rfl
        refine pure_ (i := 11) (N := some 23) (v := undef) (a' := ?_) (lb 19 4095) rfl rfl (any_of HT_.out (by kernel_rfl)) (fun _ _ _ h => h) (Or.inr ⟨by rfl, rfl⟩) ?_ ?_
        rotate_left
        ·simp only [Act.put, List.setIfInBounds_toArray, List.set_cons_zero, List.set_cons_succ, i64_w, i32_w]
         rfl
        refine pure_ (i := 12) (N := some 24) (v := undef) (a' := ?_) (lb 19 8191) rfl rfl (any_of HT_.out (by kernel_rfl)) (fun _ _ _ h => h) (Or.inr ⟨by rfl, rfl⟩) ?_ ?_
        rotate_left
        ·simp only [Act.put, List.setIfInBounds_toArray, List.set_cons_zero, List.set_cons_succ, i64_w, i32_w]
         rfl
        refine pure_ (i := 13) (N := some 25) (v := undef) (a' := ?_) (lb 19 16383) rfl rfl (any_of HT_.out (by kernel_rfl)) (fun _ _ _ h => h) (Or.inr ⟨by rfl, rfl⟩) ?_ ?_
        rotate_left
        ·simp only [Act.put, List.setIfInBounds_toArray, List.set_cons_zero, List.set_cons_succ, i64_w, i32_w]
         rfl
        refine pure_ (i := 14) (N := some 26) (v := undef) (a' := ?_) (lb 19 32767) rfl rfl (any_of HT_.out (by kernel_rfl)) (fun _ _ _ h => h) (Or.inr ⟨by rfl, rfl⟩) ?_ ?_
        rotate_left
        ·simp only [Act.put, List.setIfInBounds_toArray, List.set_cons_zero, List.set_cons_succ, i64_w, i32_w]
         rfl
        refine pure_ (i := 15) (N := some 27) (v := undef) (a' := ?_) (lb 19 65535) rfl rfl (any_of HT_.out (by kernel_rfl)) (fun _ _ _ h => h) (Or.inr ⟨by rfl, rfl⟩) ?_ ?_
        rotate_left
        ·simp only [Act.put, List.setIfInBounds_toArray, List.set_cons_zero, List.set_cons_succ, i64_w, i32_w]
         rfl
        refine pure_ (i := 16) (N := some 28) (v := undef) (a' := ?_) (lb 19 131071) rfl rfl (any_of HT_.out (by kernel_rfl)) (fun _ _ _ h => h) (Or.inr ⟨by rfl, rfl⟩) ?_ ?_
        rotate_left
        ·simp only [Act.put, List.setIfInBounds_toArray, List.set_cons_zero, List.set_cons_succ, i64_w, i32_w]
         rfl
        refine pure_ (i := 17) (N := some 29) (v := ?_) (a' := ?_) (lb 19 262143) rfl rfl (any_of HT_.out (by kernel_rfl)) (fun _ _ _ h => h) (Or.inl ⟨by rfl, ?_⟩) ?_ ?_
        rotate_left
        ·intro w'
         go_simp
         with_reducible rfl
        rotate_left
        ·simp only [Act.put, List.setIfInBounds_toArray, List.set_cons_zero, List.set_cons_succ, i64_w, i32_w]
         rfl
        refine pure_ (i := 18) (N := some 30) (v := ?_) (a' := ?_) (lb 19 524287) rfl rfl (any_of HT_.out (by kernel_rfl)) (fun _ _ _ h => h) (Or.inl ⟨by rfl, ?_⟩) ?_ ?_
        rotate_left
        ·intro w'
         go_simp
         with_reducible rfl
        rotate_left
        ·simp only [Act.put, List.setIfInBounds_toArray, List.set_cons_zero, List.set_cons_succ, i64_w, i32_w]
         rfl
        refine done_ (done_of HT_.out (by kernel_rfl)) ?_
        try go_wp2
        go_roundg k1
        case measure => have := HK1.out; omega
        case rel => exact ⟨(wrap64 (x7_1 + 1)), (by first | rfl | (simp; done) | (simp [*]; done)), H', ⟨by have := HK1.out; omega⟩, ⟨by repeat (first | (with_reducible first | exact HB.out | apply below_alloc | apply pw_below_drewN | apply below_drew1 | refine below_set ?_ GE237.out) | exact HB.out)⟩⟩
      ·replace c6 := Bool.eq_false_iff.mpr c6
       subst c6
       have H1 : (some false) = some r := by rw [if_neg (show ¬ (false = true) by decide)] at H; exact H
       clear H
       have H := H1
       clear H1
       obtain rfl := Option.some.inj H
       have p236 : 0 ≤ (x7_1 : Int) := of_decide_eq_true (by first | (with_reducible assumption) | assumption)
       have q236 : x7_1 < (l0.length : Int) := of_decide_eq_true (by first | (with_reducible assumption) | assumption)
       obtain ⟨ad236, e236, hx236_0, hx236_1, hx236_2, hx236_3, hx236_4, hx236_5, hx236_6, hx236_7, hx236_8, hx236_9, hx236_10⟩ := at_T61 HR0.out x7_1 p236 q236
       cases e236
       replace hx236_0 := (HB.out.cell (World.block_lt_of_cell? w _ hx236_0)).trans hx236_0
       replace hx236_1 := (HB.out.cell (World.block_lt_of_cell? w _ hx236_1)).trans hx236_1
       replace hx236_2 := (HB.out.cell (World.block_lt_of_cell? w _ hx236_2)).trans hx236_2
       replace hx236_3 := (HB.out.cell (World.block_lt_of_cell? w _ hx236_3)).trans hx236_3
       replace hx236_4 := (HB.out.cell (World.block_lt_of_cell? w _ hx236_4)).trans hx236_4
       replace hx236_5 := (HB.out.cell (World.block_lt_of_cell? w _ hx236_5)).trans hx236_5
       replace hx236_6 := (HB.out.cell (World.block_lt_of_cell? w _ hx236_6)).trans hx236_6
       replace hx236_7 := (HB.out.cell (World.block_lt_of_cell? w _ hx236_7)).trans hx236_7
       replace hx236_8 := (HB.out.cell (World.block_lt_of_cell? w _ hx236_8)).trans hx236_8
       replace hx236_9 := (HB.out.cell (World.block_lt_of_cell? w _ hx236_9)).trans hx236_9
       replace hx236_10 := (HB.out.cell (World.block_lt_of_cell? w _ hx236_10)).trans hx236_10
       replace p236 := eq_true p236
       replace q236 := eq_true q236
       try go_wp2_with (first | ((with_reducible refine gate_dst (N := 4) rfl ?_); refine box_event ?hg (N := 4) ?hd (cs := #[.string (⟨#[]⟩ : ByteArray), .bool false, .bool false, .string (⟨#[]⟩ : ByteArray), .string (⟨#[]⟩ : ByteArray), .int .i64 0, .int .i64 0, .string (⟨#[]⟩ : ByteArray), .string (⟨#[]⟩ : ByteArray), .int .i64 0, .int .i64 0]) (t := 61) ?hr ?_; (case hd => rfl); (case hg => rfl); (case hr => first | (go_simp; done) | (go_simp; rfl)); intro gb237 hg w30 hbox hb; have n0_ := Aside0.mk (below_step (by repeat (first | (with_reducible first | exact HB.out | apply below_alloc | apply pw_below_drewN | apply below_drew1) | exact HB.out)) hb); have n1_ := Aside0.mk (hbox); have n2_ := Aside0.mk ((by rw [hg]; exact (below_size (by repeat (first | (with_reducible first | exact HB.out | apply below_alloc | apply pw_below_drewN | apply below_drew1) | exact HB.out))) : w.heap.size ≤ gb237)); have n3_ := Aside0.mk ((by rw [hg]; exact (below_size (by repeat (first | (with_reducible first | exact HB.out | apply below_alloc | apply pw_below_drewN | apply below_drew1) | exact HB.out))) : w.heap.size ≤ gb237)); clear HB; have HB := n0_; have BK237 := n1_; have GW237 := n2_; have GE237 := n3_; clear n0_ n1_ n2_ n3_; clear hb hbox hg; have hcz31_0 : w30.cell? ⟨gb237, 0, none⟩ = some (.string (⟨#[]⟩ : ByteArray)) := (blk_cell BK237.out 0).trans rfl; have hcz31_1 : w30.cell? ⟨gb237, 1, none⟩ = some (.bool false) := (blk_cell BK237.out 1).trans rfl; have hcz31_2 : w30.cell? ⟨gb237, 2, none⟩ = some (.bool false) := (blk_cell BK237.out 2).trans rfl; have hcz31_3 : w30.cell? ⟨gb237, 3, none⟩ = some (.string (⟨#[]⟩ : ByteArray)) := (blk_cell BK237.out 3).trans rfl; have hcz31_4 : w30.cell? ⟨gb237, 4, none⟩ = some (.string (⟨#[]⟩ : ByteArray)) := (blk_cell BK237.out 4).trans rfl; have hcz31_5 : w30.cell? ⟨gb237, 5, none⟩ = some (.int .i64 0) := (blk_cell BK237.out 5).trans rfl; have hcz31_6 : w30.cell? ⟨gb237, 6, none⟩ = some (.int .i64 0) := (blk_cell BK237.out 6).trans rfl; have hcz31_7 : w30.cell? ⟨gb237, 7, none⟩ = some (.string (⟨#[]⟩ : ByteArray)) := (blk_cell BK237.out 7).trans rfl; have hcz31_8 : w30.cell? ⟨gb237, 8, none⟩ = some (.string (⟨#[]⟩ : ByteArray)) := (blk_cell BK237.out 8).trans rfl; have hcz31_9 : w30.cell? ⟨gb237, 9, none⟩ = some (.int .i64 0) := (blk_cell BK237.out 9).trans rfl; have hcz31_10 : w30.cell? ⟨gb237, 10, none⟩ = some (.int .i64 0) := (blk_cell BK237.out 10).trans rfl; have hfz31_0 := blk_frozen BK237.out 0; have hfz31_1 := blk_frozen BK237.out 1; have hfz31_2 := blk_frozen BK237.out 2; have hfz31_3 := blk_frozen BK237.out 3; have hfz31_4 := blk_frozen BK237.out 4; have hfz31_5 := blk_frozen BK237.out 5; have hfz31_6 := blk_frozen BK237.out 6; have hfz31_7 := blk_frozen BK237.out 7; have hfz31_8 := blk_frozen BK237.out 8; have hfz31_9 := blk_frozen BK237.out 9; have hfz31_10 := blk_frozen BK237.out 10))
       have n0_ : Aside0 ((((((((((((w30.setCell ⟨gb237, 0, none⟩ (.string ((rd_T61 l0 x7_1).f0))).setCell ⟨gb237, 1, none⟩ (.bool ((rd_T61 l0 x7_1).f1))).setCell ⟨gb237, 2, none⟩ (.bool ((rd_T61 l0 x7_1).f2))).setCell ⟨gb237, 3, none⟩ (.string ((rd_T61 l0 x7_1).f3.f0))).setCell ⟨gb237, 4, none⟩ (.string ((rd_T61 l0 x7_1).f3.f1))).setCell ⟨gb237, 5, none⟩ (.int .i64 ((rd_T61 l0 x7_1).f3.f2))).setCell ⟨gb237, 6, none⟩ (.int .i64 ((rd_T61 l0 x7_1).f3.f3))).setCell ⟨gb237, 7, none⟩ (.string ((rd_T61 l0 x7_1).f4.f0))).setCell ⟨gb237, 8, none⟩ (.string ((rd_T61 l0 x7_1).f4.f1))).setCell ⟨gb237, 9, none⟩ (.int .i64 ((rd_T61 l0 x7_1).f4.f2))).setCell ⟨gb237, 10, none⟩ (.int .i64 ((rd_T61 l0 x7_1).f4.f3))).heap[gb237]? = some (.cells #[.string ((rd_T61 l0 x7_1).f0), .bool ((rd_T61 l0 x7_1).f1), .bool ((rd_T61 l0 x7_1).f2), .string ((rd_T61 l0 x7_1).f3.f0), .string ((rd_T61 l0 x7_1).f3.f1), .int .i64 ((rd_T61 l0 x7_1).f3.f2), .int .i64 ((rd_T61 l0 x7_1).f3.f3), .string ((rd_T61 l0 x7_1).f4.f0), .string ((rd_T61 l0 x7_1).f4.f1), .int .i64 ((rd_T61 l0 x7_1).f4.f2), .int .i64 ((rd_T61 l0 x7_1).f4.f3)] 61 (0, 0))) := ⟨by (with_reducible repeat (first | refine blk_drewN ?_ _ | refine blk_drew ?_ | refine blk_alloc ?_ _)); refine blk_put (cs := #[.string ((rd_T61 l0 x7_1).f0), .bool ((rd_T61 l0 x7_1).f1), .bool ((rd_T61 l0 x7_1).f2), .string ((rd_T61 l0 x7_1).f3.f0), .string ((rd_T61 l0 x7_1).f3.f1), .int .i64 ((rd_T61 l0 x7_1).f3.f2), .int .i64 ((rd_T61 l0 x7_1).f3.f3), .string ((rd_T61 l0 x7_1).f4.f0), .string ((rd_T61 l0 x7_1).f4.f1), .int .i64 ((rd_T61 l0 x7_1).f4.f2), .int .i64 0]) ?_ 10 _ rfl; (with_reducible repeat (first | refine blk_drewN ?_ _ | refine blk_drew ?_ | refine blk_alloc ?_ _)); refine blk_put (cs := #[.string ((rd_T61 l0 x7_1).f0), .bool ((rd_T61 l0 x7_1).f1), .bool ((rd_T61 l0 x7_1).f2), .string ((rd_T61 l0 x7_1).f3.f0), .string ((rd_T61 l0 x7_1).f3.f1), .int .i64 ((rd_T61 l0 x7_1).f3.f2), .int .i64 ((rd_T61 l0 x7_1).f3.f3), .string ((rd_T61 l0 x7_1).f4.f0), .string ((rd_T61 l0 x7_1).f4.f1), .int .i64 0, .int .i64 0]) ?_ 9 _ rfl; (with_reducible repeat (first | refine blk_drewN ?_ _ | refine blk_drew ?_ | refine blk_alloc ?_ _)); refine blk_put (cs := #[.string ((rd_T61 l0 x7_1).f0), .bool ((rd_T61 l0 x7_1).f1), .bool ((rd_T61 l0 x7_1).f2), .string ((rd_T61 l0 x7_1).f3.f0), .string ((rd_T61 l0 x7_1).f3.f1), .int .i64 ((rd_T61 l0 x7_1).f3.f2), .int .i64 ((rd_T61 l0 x7_1).f3.f3), .string ((rd_T61 l0 x7_1).f4.f0), .string (⟨#[]⟩ : ByteArray), .int .i64 0, .int .i64 0]) ?_ 8 _ rfl; (with_reducible repeat (first | refine blk_drewN ?_ _ | refine blk_drew ?_ | refine blk_alloc ?_ _)); refine blk_put (cs := #[.string ((rd_T61 l0 x7_1).f0), .bool ((rd_T61 l0 x7_1).f1), .bool ((rd_T61 l0 x7_1).f2), .string ((rd_T61 l0 x7_1).f3.f0), .string ((rd_T61 l0 x7_1).f3.f1), .int .i64 ((rd_T61 l0 x7_1).f3.f2), .int .i64 ((rd_T61 l0 x7_1).f3.f3), .string (⟨#[]⟩ : ByteArray), .string (⟨#[]⟩ : ByteArray), .int .i64 0, .int .i64 0]) ?_ 7 _ rfl; (with_reducible repeat (first | refine blk_drewN ?_ _ | refine blk_drew ?_ | refine blk_alloc ?_ _)); refine blk_put (cs := #[.string ((rd_T61 l0 x7_1).f0), .bool ((rd_T61 l0 x7_1).f1), .bool ((rd_T61 l0 x7_1).f2), .string ((rd_T61 l0 x7_1).f3.f0), .string ((rd_T61 l0 x7_1).f3.f1), .int .i64 ((rd_T61 l0 x7_1).f3.f2), .int .i64 0, .string (⟨#[]⟩ : ByteArray), .string (⟨#[]⟩ : ByteArray), .int .i64 0, .int .i64 0]) ?_ 6 _ rfl; (with_reducible repeat (first | refine blk_drewN ?_ _ | refine blk_drew ?_ | refine blk_alloc ?_ _)); refine blk_put (cs := #[.string ((rd_T61 l0 x7_1).f0), .bool ((rd_T61 l0 x7_1).f1), .bool ((rd_T61 l0 x7_1).f2), .string ((rd_T61 l0 x7_1).f3.f0), .string ((rd_T61 l0 x7_1).f3.f1), .int .i64 0, .int .i64 0, .string (⟨#[]⟩ : ByteArray), .string (⟨#[]⟩ : ByteArray), .int .i64 0, .int .i64 0]) ?_ 5 _ rfl; (with_reducible repeat (first | refine blk_drewN ?_ _ | refine blk_drew ?_ | refine blk_alloc ?_ _)); refine blk_put (cs := #[.string ((rd_T61 l0 x7_1).f0), .bool ((rd_T61 l0 x7_1).f1), .bool ((rd_T61 l0 x7_1).f2), .string ((rd_T61 l0 x7_1).f3.f0), .string (⟨#[]⟩ : ByteArray), .int .i64 0, .int .i64 0, .string (⟨#[]⟩ : ByteArray), .string (⟨#[]⟩ : ByteArray), .int .i64 0, .int .i64 0]) ?_ 4 _ rfl; (with_reducible repeat (first | refine blk_drewN ?_ _ | refine blk_drew ?_ | refine blk_alloc ?_ _)); refine blk_put (cs := #[.string ((rd_T61 l0 x7_1).f0), .bool ((rd_T61 l0 x7_1).f1), .bool ((rd_T61 l0 x7_1).f2), .string (⟨#[]⟩ : ByteArray), .string (⟨#[]⟩ : ByteArray), .int .i64 0, .int .i64 0, .string (⟨#[]⟩ : ByteArray), .string (⟨#[]⟩ : ByteArray), .int .i64 0, .int .i64 0]) ?_ 3 _ rfl; (with_reducible repeat (first | refine blk_drewN ?_ _ | refine blk_drew ?_ | refine blk_alloc ?_ _)); refine blk_put (cs := #[.string ((rd_T61 l0 x7_1).f0), .bool ((rd_T61 l0 x7_1).f1), .bool false, .string (⟨#[]⟩ : ByteArray), .string (⟨#[]⟩ : ByteArray), .int .i64 0, .int .i64 0, .string (⟨#[]⟩ : ByteArray), .string (⟨#[]⟩ : ByteArray), .int .i64 0, .int .i64 0]) ?_ 2 _ rfl; (with_reducible repeat (first | refine blk_drewN ?_ _ | refine blk_drew ?_ | refine blk_alloc ?_ _)); refine blk_put (cs := #[.string ((rd_T61 l0 x7_1).f0), .bool false, .bool false, .string (⟨#[]⟩ : ByteArray), .string (⟨#[]⟩ : ByteArray), .int .i64 0, .int .i64 0, .string (⟨#[]⟩ : ByteArray), .string (⟨#[]⟩ : ByteArray), .int .i64 0, .int .i64 0]) ?_ 1 _ rfl; (with_reducible repeat (first | refine blk_drewN ?_ _ | refine blk_drew ?_ | refine blk_alloc ?_ _)); refine blk_put (cs := #[.string (⟨#[]⟩ : ByteArray), .bool false, .bool false, .string (⟨#[]⟩ : ByteArray), .string (⟨#[]⟩ : ByteArray), .int .i64 0, .int .i64 0, .string (⟨#[]⟩ : ByteArray), .string (⟨#[]⟩ : ByteArray), .int .i64 0, .int .i64 0]) ?_ 0 _ rfl; (with_reducible repeat (first | refine blk_drewN ?_ _ | refine blk_drew ?_ | refine blk_alloc ?_ _)); exact BK237.out⟩
       have n1_ : Aside0 (Below w.heap.size w (((((((((((w30.setCell ⟨gb237, 0, none⟩ (.string ((rd_T61 l0 x7_1).f0))).setCell ⟨gb237, 1, none⟩ (.bool ((rd_T61 l0 x7_1).f1))).setCell ⟨gb237, 2, none⟩ (.bool ((rd_T61 l0 x7_1).f2))).setCell ⟨gb237, 3, none⟩ (.string ((rd_T61 l0 x7_1).f3.f0))).setCell ⟨gb237, 4, none⟩ (.string ((rd_T61 l0 x7_1).f3.f1))).setCell ⟨gb237, 5, none⟩ (.int .i64 ((rd_T61 l0 x7_1).f3.f2))).setCell ⟨gb237, 6, none⟩ (.int .i64 ((rd_T61 l0 x7_1).f3.f3))).setCell ⟨gb237, 7, none⟩ (.string ((rd_T61 l0 x7_1).f4.f0))).setCell ⟨gb237, 8, none⟩ (.string ((rd_T61 l0 x7_1).f4.f1))).setCell ⟨gb237, 9, none⟩ (.int .i64 ((rd_T61 l0 x7_1).f4.f2))).setCell ⟨gb237, 10, none⟩ (.int .i64 ((rd_T61 l0 x7_1).f4.f3)))) := ⟨by repeat (first | (with_reducible first | exact HB.out | apply below_alloc | apply pw_below_drewN | apply below_drew1 | refine below_set ?_ GE237.out) | exact HB.out)⟩
       (try clear BK237)
       (try clear HB)
       generalize (((((((((((w30.setCell ⟨gb237, 0, none⟩ (.string ((rd_T61 l0 x7_1).f0))).setCell ⟨gb237, 1, none⟩ (.bool ((rd_T61 l0 x7_1).f1))).setCell ⟨gb237, 2, none⟩ (.bool ((rd_T61 l0 x7_1).f2))).setCell ⟨gb237, 3, none⟩ (.string ((rd_T61 l0 x7_1).f3.f0))).setCell ⟨gb237, 4, none⟩ (.string ((rd_T61 l0 x7_1).f3.f1))).setCell ⟨gb237, 5, none⟩ (.int .i64 ((rd_T61 l0 x7_1).f3.f2))).setCell ⟨gb237, 6, none⟩ (.int .i64 ((rd_T61 l0 x7_1).f3.f3))).setCell ⟨gb237, 7, none⟩ (.string ((rd_T61 l0 x7_1).f4.f0))).setCell ⟨gb237, 8, none⟩ (.string ((rd_T61 l0 x7_1).f4.f1))).setCell ⟨gb237, 9, none⟩ (.int .i64 ((rd_T61 l0 x7_1).f4.f2))).setCell ⟨gb237, 10, none⟩ (.int .i64 ((rd_T61 l0 x7_1).f4.f3))) = w32 at n0_ n1_ ⊢
       have BK237 := n0_
       have HB := n1_
       clear n0_ n1_
       have n0_ := Aside0.mk (blk_drew BK237.out)
       have n1_ := Aside0.mk (below_drew1 HB.out)
       clear BK237
       clear HB
       have BK237 := n0_
       have HB := n1_
       clear n0_ n1_
       refine start_ (n := 19) (S := fun w' => w'.cell? ⟨gb237, 0, none⟩ = some (.string ((rd_T61 l0 x7_1).f0)) ∧ w'.cell? ⟨gb237, 1, none⟩ = some (.bool ((rd_T61 l0 x7_1).f1)) ∧ w'.cell? ⟨gb237, 2, none⟩ = some (.bool ((rd_T61 l0 x7_1).f2)) ∧ w'.cell? ⟨gb237, 3, none⟩ = some (.string ((rd_T61 l0 x7_1).f3.f0)) ∧ w'.cell? ⟨gb237, 4, none⟩ = some (.string ((rd_T61 l0 x7_1).f3.f1)) ∧ w'.cell? ⟨gb237, 5, none⟩ = some (.int .i64 ((rd_T61 l0 x7_1).f3.f2)) ∧ w'.cell? ⟨gb237, 6, none⟩ = some (.int .i64 ((rd_T61 l0 x7_1).f3.f3)) ∧ w'.cell? ⟨gb237, 7, none⟩ = some (.string ((rd_T61 l0 x7_1).f4.f0)) ∧ w'.cell? ⟨gb237, 8, none⟩ = some (.string ((rd_T61 l0 x7_1).f4.f1)) ∧ w'.cell? ⟨gb237, 9, none⟩ = some (.int .i64 ((rd_T61 l0 x7_1).f4.f2)) ∧ w'.cell? ⟨gb237, 10, none⟩ = some (.int .i64 ((rd_T61 l0 x7_1).f4.f3))) (ds := []) (lb 19 0) (by kernel_rfl) rfl rfl ⟨(blk_cell BK237.out 0).trans rfl, (blk_cell BK237.out 1).trans rfl, (blk_cell BK237.out 2).trans rfl, (blk_cell BK237.out 3).trans rfl, (blk_cell BK237.out 4).trans rfl, (blk_cell BK237.out 5).trans rfl, (blk_cell BK237.out 6).trans rfl, (blk_cell BK237.out 7).trans rfl, (blk_cell BK237.out 8).trans rfl, (blk_cell BK237.out 9).trans rfl, (blk_cell BK237.out 10).trans rfl⟩ (fun hHeld => ?_); refine with_tabW delta_Valid.tab4 delta_Valid.bits4 (fun HT_ HW_ => ?_)
       generalize w32.drew = w33 at BK237 HB hHeld ⊢
       refine take_ (i := 0) (N := some 12) (v := ?_) (a' := ?_) (lb 19 1) rfl rfl (take_ofW HT_.out HW_.out (by kernel_rfl)) (fun _ _ _ h => h) (Or.inl ⟨by rfl, ?_⟩) hHeld ?_ ?_
       rotate_left
       ·rintro w' ⟨s0, s1, s2, s3, s4, s5, s6, s7, s8, s9, s10⟩
        go_simp
        with_reducible rfl
       rotate_left
       ·simp only [Act.put, List.setIfInBounds_toArray, List.set_cons_zero, List.set_cons_succ, i64_w, i32_w]
        rfl
       refine one_ (i := 1) (N := some 13) (lb 19 3) rfl rfl (one_of HT_.out (by kernel_rfl)) (by decide) (fun K hK => ?_)
       refine goes_ Tryd.func60 (by kernel_rfl) rfl #[.agg #[.string ((rd_T61 l0 x7_1).f0), .bool ((rd_T61 l0 x7_1).f1), .bool ((rd_T61 l0 x7_1).f2), .string ((rd_T61 l0 x7_1).f3.f0), .string ((rd_T61 l0 x7_1).f3.f1), .int .i64 ((rd_T61 l0 x7_1).f3.f2), .int .i64 ((rd_T61 l0 x7_1).f3.f3), .string ((rd_T61 l0 x7_1).f4.f0), .string ((rd_T61 l0 x7_1).f4.f1), .int .i64 ((rd_T61 l0 x7_1).f4.f2), .int .i64 ((rd_T61 l0 x7_1).f4.f3)]] (by rfl) rfl rfl (by (try simp only [List.map_toArray, List.map_cons, List.map_nil]); first | done | rfl | (simp only [List.length_drop, List.length_take]; rfl)) ?_
       with_reducible refine (delta_may.calls k1 ((rd_T61 l0 x7_1).f0) ((rd_T61 l0 x7_1).f1) ((rd_T61 l0 x7_1).f2) ((rd_T61 l0 x7_1).f3.f0) ((rd_T61 l0 x7_1).f3.f1) ((rd_T61 l0 x7_1).f3.f2) ((rd_T61 l0 x7_1).f3.f3) ((rd_T61 l0 x7_1).f4.f0) ((rd_T61 l0 x7_1).f4.f1) ((rd_T61 l0 x7_1).f4.f2) ((rd_T61 l0 x7_1).f4.f3) false _ A5.out).mono ?_
       rintro e w34 ⟨rfl, hb⟩
       refine ⟨_, rfl, ?_⟩
       have n0_ := Aside0.mk (blk_below (g := gb237) (o := .cells #[.string ((rd_T61 l0 x7_1).f0), .bool ((rd_T61 l0 x7_1).f1), .bool ((rd_T61 l0 x7_1).f2), .string ((rd_T61 l0 x7_1).f3.f0), .string ((rd_T61 l0 x7_1).f3.f1), .int .i64 ((rd_T61 l0 x7_1).f3.f2), .int .i64 ((rd_T61 l0 x7_1).f3.f3), .string ((rd_T61 l0 x7_1).f4.f0), .string ((rd_T61 l0 x7_1).f4.f1), .int .i64 ((rd_T61 l0 x7_1).f4.f2), .int .i64 ((rd_T61 l0 x7_1).f4.f3)] 61 (0, 0)) (by (with_reducible repeat (first | refine blk_drewN ?_ _ | refine blk_drew ?_ | refine blk_alloc ?_ _)); exact BK237.out) hb)
       have n1_ := Aside0.mk (below_step (by repeat (first | (with_reducible first | exact HB.out | apply below_alloc | apply pw_below_drewN | apply below_drew1 | refine below_set ?_ GE237.out) | exact HB.out)) hb)
       clear BK237
       clear HB
       have BK237 := n0_
       have HB := n1_
       clear n0_ n1_
       (try clear hb)
       (try clear hb2)
       (try clear hk)
       (try clear hi)
       refine hK.out _ _ ⟨(blk_cell BK237.out 0).trans rfl, (blk_cell BK237.out 1).trans rfl, (blk_cell BK237.out 2).trans rfl, (blk_cell BK237.out 3).trans rfl, (blk_cell BK237.out 4).trans rfl, (blk_cell BK237.out 5).trans rfl, (blk_cell BK237.out 6).trans rfl, (blk_cell BK237.out 7).trans rfl, (blk_cell BK237.out 8).trans rfl, (blk_cell BK237.out 9).trans rfl, (blk_cell BK237.out 10).trans rfl⟩ (fun hHeld => ?_)
       clear hK K
       refine norm_ (a' := ?_) ?_ ?_
       rotate_left
       ·show Act.put _ (some 13) _ = _
        simp only [Act.put, List.setIfInBounds_toArray, List.set_cons_zero, List.set_cons_succ, i64_w, i32_w]
        rfl
       refine pure_ (i := 2) (N := some 14) (v := ?_) (a' := ?_) (lb 19 7) rfl rfl (any_of HT_.out (by kernel_rfl)) (fun _ _ _ h => h) (Or.inl ⟨by rfl, ?_⟩) ?_ ?_
       rotate_left
       ·intro w'
        go_simp
        with_reducible rfl
       rotate_left
       ·simp only [Act.put, List.setIfInBounds_toArray, List.set_cons_zero, List.set_cons_succ, i64_w, i32_w]
        rfl
       refine pure_ (i := 3) (N := some 15) (v := ?_) (a' := ?_) (lb 19 15) rfl rfl (any_of HT_.out (by kernel_rfl)) (fun _ _ _ h => h) (Or.inl ⟨by rfl, ?_⟩) ?_ ?_
       rotate_left
       ·intro w'
        go_simp
        with_reducible rfl
       rotate_left
       ·simp only [Act.put, List.setIfInBounds_toArray, List.set_cons_zero, List.set_cons_succ, i64_w, i32_w]
        rfl
       refine pure_ (i := 4) (N := some 16) (v := undef) (a' := ?_) (lb 19 31) rfl rfl (any_of HT_.out (by kernel_rfl)) (fun _ _ _ h => h) (Or.inr ⟨by rfl, rfl⟩) ?_ ?_
       rotate_left
       ·simp only [Act.put, List.setIfInBounds_toArray, List.set_cons_zero, List.set_cons_succ, i64_w, i32_w]
        rfl
       refine pure_ (i := 5) (N := some 17) (v := undef) (a' := ?_) (lb 19 63) rfl rfl (any_of HT_.out (by kernel_rfl)) (fun _ _ _ h => h) (Or.inr ⟨by rfl, rfl⟩) ?_ ?_
       rotate_left
       ·simp only [Act.put, List.setIfInBounds_toArray, List.set_cons_zero, List.set_cons_succ, i64_w, i32_w]
        rfl
       refine pure_ (i := 6) (N := some 18) (v := undef) (a' := ?_) (lb 19 127) rfl rfl (any_of HT_.out (by kernel_rfl)) (fun _ _ _ h => h) (Or.inr ⟨by rfl, rfl⟩) ?_ ?_
       rotate_left
       ·simp only [Act.put, List.setIfInBounds_toArray, List.set_cons_zero, List.set_cons_succ, i64_w, i32_w]
        rfl
       refine pure_ (i := 7) (N := some 19) (v := undef) (a' := ?_) (lb 19 255) rfl rfl (any_of HT_.out (by kernel_rfl)) (fun _ _ _ h => h) (Or.inr ⟨by rfl, rfl⟩) ?_ ?_
       rotate_left
       ·simp only [Act.put, List.setIfInBounds_toArray, List.set_cons_zero, List.set_cons_succ, i64_w, i32_w]
        rfl
       refine pure_ (i := 8) (N := some 20) (v := undef) (a' := ?_) (lb 19 511) rfl rfl (any_of HT_.out (by kernel_rfl)) (fun _ _ _ h => h) (Or.inr ⟨by rfl, rfl⟩) ?_ ?_
       rotate_left
       ·simp only [Act.put, List.setIfInBounds_toArray, List.set_cons_zero, List.set_cons_succ, i64_w, i32_w]
        rfl
       refine pure_ (i := 9) (N := some 21) (v := undef) (a' := ?_) (lb 19 1023) rfl rfl (any_of HT_.out (by kernel_rfl)) (fun _ _ _ h => h) (Or.inr ⟨by rfl, rfl⟩) ?_ ?_
       rotate_left
       ·simp only [Act.put, List.setIfInBounds_toArray, List.set_cons_zero, List.set_cons_succ, i64_w, i32_w]
        rfl
       refine pure_ (i := 10) (N := some 22) (v := undef) (a' := ?_) (lb 19 2047) rfl rfl (any_of HT_.out (by kernel_rfl)) (fun _ _ _ h => h) (Or.inr ⟨by rfl, rfl⟩) ?_ ?_
       rotate_left
       ·simp only [Act.put, List.setIfInBounds_toArray, List.set_cons_zero, List.set_cons_succ, i64_w, i32_w]
        rfl
       refine pure_ (i := 11) (N := some 23) (v := undef) (a' := ?_) (lb 19 4095) rfl rfl (any_of HT_.out (by kernel_rfl)) (fun _ _ _ h => h) (Or.inr ⟨by rfl, rfl⟩) ?_ ?_
       rotate_left
       ·simp only [Act.put, List.setIfInBounds_toArray, List.set_cons_zero, List.set_cons_succ, i64_w, i32_w]
        rfl
       refine pure_ (i := 12) (N := some 24) (v := undef) (a' := ?_) (lb 19 8191) rfl rfl (any_of HT_.out (by kernel_rfl)) (fun _ _ _ h => h) (Or.inr ⟨by rfl, rfl⟩) ?_ ?_
       rotate_left
       ·simp only [Act.put, List.setIfInBounds_toArray, List.set_cons_zero, List.set_cons_succ, i64_w, i32_w]
        rfl
       refine pure_ (i := 13) (N := some 25) (v := undef) (a' := ?_) (lb 19 16383) rfl rfl (any_of HT_.out (by kernel_rfl)) (fun _ _ _ h => h) (Or.inr ⟨by rfl, rfl⟩) ?_ ?_
       rotate_left
       ·simp only [Act.put, List.setIfInBounds_toArray, List.set_cons_zero, List.set_cons_succ, i64_w, i32_w]
        rfl
       refine pure_ (i := 14) (N := some 26) (v := undef) (a' := ?_) (lb 19 32767) rfl rfl (any_of HT_.out (by kernel_rfl)) (fun _ _ _ h => h) (Or.inr ⟨by rfl, rfl⟩) ?_ ?_
       rotate_left
       ·simp only [Act.put, List.setIfInBounds_toArray, List.set_cons_zero, List.set_cons_succ, i64_w, i32_w]
        rfl
       refine pure_ (i := 15) (N := some 27) (v := undef) (a' := ?_) (lb 19 65535) rfl rfl (any_of HT_.out (by kernel_rfl)) (fun _ _ _ h => h) (Or.inr ⟨by rfl, rfl⟩) ?_ ?_
       rotate_left
       ·simp only [Act.put, List.setIfInBounds_toArray, List.set_cons_zero, List.set_cons_succ, i64_w, i32_w]
        rfl
       refine pure_ (i := 16) (N := some 28) (v := undef) (a' := ?_) (lb 19 131071) rfl rfl (any_of HT_.out (by kernel_rfl)) (fun _ _ _ h => h) (Or.inr ⟨by rfl, rfl⟩) ?_ ?_
       rotate_left
       ·simp only [Act.put, List.setIfInBounds_toArray, List.set_cons_zero, List.set_cons_succ, i64_w, i32_w]
        rfl
       refine pure_ (i := 17) (N := some 29) (v := undef) (a' := ?_) (lb 19 262143) rfl rfl (any_of HT_.out (by kernel_rfl)) (fun _ _ _ h => h) (Or.inr ⟨by rfl, rfl⟩) ?_ ?_
       rotate_left
       ·simp only [Act.put, List.setIfInBounds_toArray, List.set_cons_zero, List.set_cons_succ, i64_w, i32_w]
        rfl
       refine pure_ (i := 18) (N := some 30) (v := ?_) (a' := ?_) (lb 19 524287) rfl rfl (any_of HT_.out (by kernel_rfl)) (fun _ _ _ h => h) (Or.inl ⟨by rfl, ?_⟩) ?_ ?_
       rotate_left
       ·intro w'
        go_simp
        with_reducible rfl
       rotate_left
       ·simp only [Act.put, List.setIfInBounds_toArray, List.set_cons_zero, List.set_cons_succ, i64_w, i32_w]
        rfl
       refine done_ (done_of HT_.out (by kernel_rfl)) ?_
       try go_wp2
       go_ret
       exact ⟨by first | rfl | (simp [errW_none, errW_some] <;> rfl) | (simp [*, errW_none, errW_some] <;> rfl), by repeat (first | (with_reducible first | exact HB.out | apply below_alloc | apply pw_below_drewN | apply below_drew1 | refine below_set ?_ GE237.out) | exact HB.out)⟩
     ·rw [if_neg c4] at H
      exact absurd H (by simp)
    ·rw [if_neg c3] at H
     exact absurd H (by simp)
   ·rw [if_neg c2] at H
    have c2b0 := decide_eq_false c2
    clear c2
    obtain rfl := Option.some.inj H
    go_wp2
    go_ret
    exact ⟨by first | rfl | (simp [errW_none, errW_some] <;> rfl) | (simp [*, errW_none, errW_some] <;> rfl), by repeat (first | (with_reducible first | exact HB.out | apply below_alloc | apply pw_below_drewN | apply below_drew1) | exact HB.out)⟩
end Go.Proofs.YtehfogjibhnabaaDoor.PAll
