/- What functions of the program compute, each with its walk: a contract for every world and every argument of the kind told. -/
import Derived.Test.YtehfogjibhnabaaGreatDoorDtPAllx0
import Derived.Test.YtehfogjibhnabaaGreatDoorDtHandA
import Derived.Test.YtehfogjibhnabaaGreatDoorDtPAlly1
namespace Go.Proofs.YtehfogjibhnabaaGreatDoor.PAll
open Go.RowKit Go.Proofs.YtehfogjibhnabaaGreatDoorW.PrintWords Go.Proofs.YtehfogjibhnabaaGreatDoorW.PrintLast Go.Proofs.YtehfogjibhnabaaGreatDoorW.PrintMore
attribute [local go_sem] max2_int min2_int max_two min_two max_three min_three max_four min_four
set_option linter.unusedVariables false
set_option linter.unusedSimpArgs false
attribute [local go_sem high] eqA43
def delta_may.j0 : Nat → Bool → ByteArray → Bool → Bool → ByteArray → ByteArray → Int → Int → ByteArray → ByteArray → Int → Int → Option (Bool)
 | 0, _, _, _, _, _, _, _, _, _, _, _, _ => none
 | k + 1, x21, x119000, x119001, x119002, x119003, x119004, x119005, x119006, x119007, x119008, x119009, x119010 => if x21 = true then (some false) else ((delta_half.f x119000 x119001 x119003 x119004 x119005 x119006).bind fun t120 => (if t120 = true then ((delta_half.f x119000 x119002 x119007 x119008 x119009 x119010).bind fun t121 => (if t121 = true then (if x119001 = true then (if x119002 = true then (some (!(x119003.toList == x119007.toList && (x119004.toList == x119008.toList && (x119005 == x119009 && (x119006 == x119010)))))) else (some (!false))) else (some (!false))) else (some false))) else (some false)))
def delta_may.f (k : Nat) (a0_0 : ByteArray) (a0_1 : Bool) (a0_2 : Bool) (a0_3 : ByteArray) (a0_4 : ByteArray) (a0_5 : Int) (a0_6 : Int) (a0_7 : ByteArray) (a0_8 : ByteArray) (a0_9 : Int) (a0_10 : Int) : Option (Bool) := (path_Valid.f k a0_0).bind fun t119 => (if t119 = true then (if a0_0.toList = ([] : List UInt8) then (delta_may.j0 k true a0_0 a0_1 a0_2 a0_3 a0_4 a0_5 a0_6 a0_7 a0_8 a0_9 a0_10) else (if a0_1 = true then (delta_may.j0 k false a0_0 a0_1 a0_2 a0_3 a0_4 a0_5 a0_6 a0_7 a0_8 a0_9 a0_10) else (delta_may.j0 k (!a0_2) a0_0 a0_1 a0_2 a0_3 a0_4 a0_5 a0_6 a0_7 a0_8 a0_9 a0_10))) else (delta_may.j0 k true a0_0 a0_1 a0_2 a0_3 a0_4 a0_5 a0_6 a0_7 a0_8 a0_9 a0_10))
theorem delta_may.mono_l : ∀ k, (∀ y0 y1 y2 y3 y4 y5 y6 y7 y8 y9 y10 y11, LeO (delta_may.j0 k y0 y1 y2 y3 y4 y5 y6 y7 y8 y9 y10 y11) (delta_may.j0 (k + 1) y0 y1 y2 y3 y4 y5 y6 y7 y8 y9 y10 y11))
 | 0 => fun _ _ _ _ _ _ _ _ _ _ _ _ r h => by simp [delta_may.j0] at h
 | k + 1 => by
  have ih0 := delta_may.mono_l k
  ·intro y0 y1 y2 y3 y4 y5 y6 y7 y8 y9 y10 y11
   unfold delta_may.j0
   repeat' first
   | (with_reducible exact ih0 _ _ _ _ _ _ _ _ _ _ _ _)
   | (with_reducible exact path_Valid.mono _ _)
   | (with_reducible exact LeO.refl _)
   | (with_reducible exact LeO.none _)
   | (with_reducible refine LeO.ite ?_ ?_)
   | (with_reducible refine LeO.bind ?_ (fun _ => ?_))
   | exact ih0 _ _ _ _ _ _ _ _ _ _ _ _
   | exact path_Valid.mono _ _
   | exact LeO.none _
   | refine LeO.ite ?_ ?_
   | refine LeO.bind ?_ (fun _ => ?_)
theorem delta_may.mono : ∀ a0 a1 a2 a3 a4 a5 a6 a7 a8 a9 a10 k, LeO (delta_may.f k a0 a1 a2 a3 a4 a5 a6 a7 a8 a9 a10) (delta_may.f (k + 1) a0 a1 a2 a3 a4 a5 a6 a7 a8 a9 a10) := by
 intro a0 a1 a2 a3 a4 a5 a6 a7 a8 a9 a10 k
 have ih0 := delta_may.mono_l k
 unfold delta_may.f
 repeat' first
   | (with_reducible exact ih0 _ _ _ _ _ _ _ _ _ _ _ _)
   | (with_reducible exact path_Valid.mono _ _)
   | (with_reducible exact LeO.refl _)
   | (with_reducible exact LeO.none _)
   | (with_reducible refine LeO.ite ?_ ?_)
   | (with_reducible refine LeO.bind ?_ (fun _ => ?_))
   | exact ih0 _ _ _ _ _ _ _ _ _ _ _ _
   | exact path_Valid.mono _ _
   | exact LeO.none _
   | refine LeO.ite ?_ ?_
   | refine LeO.bind ?_ (fun _ => ?_)
set_option maxHeartbeats 8000000 in
set_option maxRecDepth 100000 in
theorem delta_may.calls (k : Nat) (a0_0 : ByteArray) (a0_1 : Bool) (a0_2 : Bool) (a0_3 : ByteArray) (a0_4 : ByteArray) (a0_5 : Int) (a0_6 : Int) (a0_7 : ByteArray) (a0_8 : ByteArray) (a0_9 : Int) (a0_10 : Int) (r : Bool) (w : World) (h : delta_may.f k a0_0 a0_1 a0_2 a0_3 a0_4 a0_5 a0_6 a0_7 a0_8 a0_9 a0_10 = some r) :
  Calls Tryz.prog 23 #[.agg #[.string a0_0, .bool a0_1, .bool a0_2, .string a0_3, .string a0_4, .int .i64 a0_5, .int .i64 a0_6, .string a0_7, .string a0_8, .int .i64 a0_9, .int .i64 a0_10]] w fun e w' => e = .returned (.bool r) ∧ Below w.heap.size w w' := by
 have hu45 := Tryz.underlying45
 have hu43 := Tryz.underlying43
 have HB := Aside0.mk (Below.refl w.heap.size w)
 have H : ((path_Valid.f k a0_0).bind fun t119 => (if t119 = true then (if a0_0.toList = ([] : List UInt8) then (delta_may.j0 k true a0_0 a0_1 a0_2 a0_3 a0_4 a0_5 a0_6 a0_7 a0_8 a0_9 a0_10) else (if a0_1 = true then (delta_may.j0 k false a0_0 a0_1 a0_2 a0_3 a0_4 a0_5 a0_6 a0_7 a0_8 a0_9 a0_10) else (delta_may.j0 k (!a0_2) a0_0 a0_1 a0_2 a0_3 a0_4 a0_5 a0_6 a0_7 a0_8 a0_9 a0_10))) else (delta_may.j0 k true a0_0 a0_1 a0_2 a0_3 a0_4 a0_5 a0_6 a0_7 a0_8 a0_9 a0_10))) = some r := h
 clear h
 have HC2 := Aside0.mk H
 clear H
 go_enter Tryz.func23, Tryz.ntmps23
 go_upto_region 1 with (first | ((with_reducible refine gate_dst (N := 1) rfl ?_); refine box_event ?hg (N := 1) ?hd (cs := #[.string a0_0, .bool a0_1, .bool a0_2, .string a0_3, .string a0_4, .int .i64 a0_5, .int .i64 a0_6, .string a0_7, .string a0_8, .int .i64 a0_9, .int .i64 a0_10]) (t := 45) ?hr ?_; (case hd => rfl); (case hg => rfl); (case hr => first | (go_simp; done) | (go_simp; rfl)); intro gb118 hg w3 hbox hb; have n0_ := Aside0.mk (below_step (bel_) hb); have n1_ := Aside0.mk (hbox); have n2_ := Aside0.mk ((by rw [hg]; exact (below_size (bel_)) : w.heap.size ≤ gb118)); have n3_ := Aside0.mk ((by rw [hg]; exact (below_size (bel_)) : w.heap.size ≤ gb118)); clear HB; have HB := n0_; have BK118 := n1_; have GW118 := n2_; have GE118 := n3_; clear n0_ n1_ n2_ n3_; clear hb hbox hg))
 (try simp only [Act.put, List.setIfInBounds_toArray, List.set_cons_zero, List.set_cons_succ])
 go_cut [21] (fun v21 wc => ∃ (kq : Nat) (x21_1 : Bool), v21 = .bool x21_1 ∧ Aside0 (delta_may.j0 kq x21_1 a0_0 a0_1 a0_2 a0_3 a0_4 a0_5 a0_6 a0_7 a0_8 a0_9 a0_10 = some r) ∧ Aside0 (kq ≤ k) ∧ Aside0 (wc.heap[gb118]? = some (.cells #[.string a0_0, .bool a0_1, .bool a0_2, .string a0_3, .string a0_4, .int .i64 a0_5, .int .i64 a0_6, .string a0_7, .string a0_8, .int .i64 a0_9, .int .i64 a0_10] 45 (0, 0))) ∧ Aside0 (Below w.heap.size w wc))
 case first =>
  have H := HC2.out
  clear HC2
  replace H := Option.bind_eq_some_iff.mp H
  obtain ⟨t119, A40, H⟩ := H
  try dsimp only at H
  have A4 := Aside0.mk A40
  clear A40
  by_cases c5 : t119 = true
  rotate_left
  ·replace c5 := Bool.eq_false_iff.mpr c5
   subst c5
   have H1 : (delta_may.j0 k true a0_0 a0_1 a0_2 a0_3 a0_4 a0_5 a0_6 a0_7 a0_8 a0_9 a0_10) = some r := by rw [if_neg (show ¬ (false = true) by decide)] at H; exact H
   clear H
   have H := H1
   clear H1
   have H' := Aside0.mk H
   clear H
   have hcz17_0 : w3.cell? ⟨gb118, 0, none⟩ = some (.string a0_0) := (blk_cell BK118.out 0).trans rfl
   have hcz17_1 : w3.cell? ⟨gb118, 1, none⟩ = some (.bool a0_1) := (blk_cell BK118.out 1).trans rfl
   have hcz17_2 : w3.cell? ⟨gb118, 2, none⟩ = some (.bool a0_2) := (blk_cell BK118.out 2).trans rfl
   have hcz17_3 : w3.cell? ⟨gb118, 3, none⟩ = some (.string a0_3) := (blk_cell BK118.out 3).trans rfl
   have hcz17_4 : w3.cell? ⟨gb118, 4, none⟩ = some (.string a0_4) := (blk_cell BK118.out 4).trans rfl
   have hcz17_5 : w3.cell? ⟨gb118, 5, none⟩ = some (.int .i64 a0_5) := (blk_cell BK118.out 5).trans rfl
   have hcz17_6 : w3.cell? ⟨gb118, 6, none⟩ = some (.int .i64 a0_6) := (blk_cell BK118.out 6).trans rfl
   have hcz17_7 : w3.cell? ⟨gb118, 7, none⟩ = some (.string a0_7) := (blk_cell BK118.out 7).trans rfl
   have hcz17_8 : w3.cell? ⟨gb118, 8, none⟩ = some (.string a0_8) := (blk_cell BK118.out 8).trans rfl
   have hcz17_9 : w3.cell? ⟨gb118, 9, none⟩ = some (.int .i64 a0_9) := (blk_cell BK118.out 9).trans rfl
   have hcz17_10 : w3.cell? ⟨gb118, 10, none⟩ = some (.int .i64 a0_10) := (blk_cell BK118.out 10).trans rfl
   have hfz17_0 := blk_frozen BK118.out 0
   have hfz17_1 := blk_frozen BK118.out 1
   have hfz17_2 := blk_frozen BK118.out 2
   have hfz17_3 := blk_frozen BK118.out 3
   have hfz17_4 := blk_frozen BK118.out 4
   have hfz17_5 := blk_frozen BK118.out 5
   have hfz17_6 := blk_frozen BK118.out 6
   have hfz17_7 := blk_frozen BK118.out 7
   have hfz17_8 := blk_frozen BK118.out 8
   have hfz17_9 := blk_frozen BK118.out 9
   have hfz17_10 := blk_frozen BK118.out 10
   go_wp2_with (first | ((with_reducible refine gate_callee (f := 43) rfl ?_); refine goesL_ (some 5) rfl rfl Tryz.func43 (by kernel_rfl) rfl #[.string a0_0] rfl (mp_) ?_; (with_reducible refine (path_Valid.calls k a0_0 false _ A4.out).mono ?_); rintro e w18 ⟨rfl, hb⟩; refine ⟨_, rfl, ?_⟩; have n0_ := Aside0.mk (blk_below (g := gb118) (o := .cells #[.string a0_0, .bool a0_1, .bool a0_2, .string a0_3, .string a0_4, .int .i64 a0_5, .int .i64 a0_6, .string a0_7, .string a0_8, .int .i64 a0_9, .int .i64 a0_10] 45 (0, 0)) (ub_ BK118.out) hb); have n1_ := Aside0.mk (below_step (bes_ GE118.out) hb); clear BK118; clear HB; have BK118 := n0_; have HB := n1_; clear n0_ n1_; (try clear hb); (try clear hb2); (try clear hk); (try clear hi)))
   go_meet
   case rel => exact ⟨_, (true), (rf_), H', ⟨by first | omega | exact Nat.le_refl _⟩, ⟨ub_ BK118.out⟩, ⟨bes_ GE118.out⟩⟩
  subst c5
  rw [if_pos rfl] at H
  have H1 := H
  clear H
  have H := H1
  clear H1
  by_cases c6 : a0_0.toList = ([] : List UInt8)
  ·rw [if_pos c6] at H
   have c6b0 : (a0_0.toList == ([] : List UInt8)) = true := beq_iff_eq.mpr c6
   have c6b1 : (a0_0.toList != ([] : List UInt8)) = false := bne_eq_false_iff_eq.mpr c6
   clear c6
   (first | rw [c6b0] | (simp only [i64_w, i32_w]; rw [c6b0]) | skip)
   have H' := Aside0.mk H
   clear H
   have hcz7_0 : w3.cell? ⟨gb118, 0, none⟩ = some (.string a0_0) := (blk_cell BK118.out 0).trans rfl
   have hcz7_1 : w3.cell? ⟨gb118, 1, none⟩ = some (.bool a0_1) := (blk_cell BK118.out 1).trans rfl
   have hcz7_2 : w3.cell? ⟨gb118, 2, none⟩ = some (.bool a0_2) := (blk_cell BK118.out 2).trans rfl
   have hcz7_3 : w3.cell? ⟨gb118, 3, none⟩ = some (.string a0_3) := (blk_cell BK118.out 3).trans rfl
   have hcz7_4 : w3.cell? ⟨gb118, 4, none⟩ = some (.string a0_4) := (blk_cell BK118.out 4).trans rfl
   have hcz7_5 : w3.cell? ⟨gb118, 5, none⟩ = some (.int .i64 a0_5) := (blk_cell BK118.out 5).trans rfl
   have hcz7_6 : w3.cell? ⟨gb118, 6, none⟩ = some (.int .i64 a0_6) := (blk_cell BK118.out 6).trans rfl
   have hcz7_7 : w3.cell? ⟨gb118, 7, none⟩ = some (.string a0_7) := (blk_cell BK118.out 7).trans rfl
   have hcz7_8 : w3.cell? ⟨gb118, 8, none⟩ = some (.string a0_8) := (blk_cell BK118.out 8).trans rfl
   have hcz7_9 : w3.cell? ⟨gb118, 9, none⟩ = some (.int .i64 a0_9) := (blk_cell BK118.out 9).trans rfl
   have hcz7_10 : w3.cell? ⟨gb118, 10, none⟩ = some (.int .i64 a0_10) := (blk_cell BK118.out 10).trans rfl
   have hfz7_0 := blk_frozen BK118.out 0
   have hfz7_1 := blk_frozen BK118.out 1
   have hfz7_2 := blk_frozen BK118.out 2
   have hfz7_3 := blk_frozen BK118.out 3
   have hfz7_4 := blk_frozen BK118.out 4
   have hfz7_5 := blk_frozen BK118.out 5
   have hfz7_6 := blk_frozen BK118.out 6
   have hfz7_7 := blk_frozen BK118.out 7
   have hfz7_8 := blk_frozen BK118.out 8
   have hfz7_9 := blk_frozen BK118.out 9
   have hfz7_10 := blk_frozen BK118.out 10
   go_wp2_with (first | ((with_reducible refine gate_callee (f := 43) rfl ?_); refine goesL_ (some 5) rfl rfl Tryz.func43 (by kernel_rfl) rfl #[.string a0_0] rfl (mp_) ?_; (with_reducible refine (path_Valid.calls k a0_0 true _ A4.out).mono ?_); rintro e w8 ⟨rfl, hb⟩; refine ⟨_, rfl, ?_⟩; have n0_ := Aside0.mk (blk_below (g := gb118) (o := .cells #[.string a0_0, .bool a0_1, .bool a0_2, .string a0_3, .string a0_4, .int .i64 a0_5, .int .i64 a0_6, .string a0_7, .string a0_8, .int .i64 a0_9, .int .i64 a0_10] 45 (0, 0)) (ub_ BK118.out) hb); have n1_ := Aside0.mk (below_step (bes_ GE118.out) hb); clear BK118; clear HB; have BK118 := n0_; have HB := n1_; clear n0_ n1_; (try clear hb); (try clear hb2); (try clear hk); (try clear hi); have hcz9_0 : w8.cell? ⟨gb118, 0, none⟩ = some (.string a0_0) := (blk_cell BK118.out 0).trans rfl; have hcz9_1 : w8.cell? ⟨gb118, 1, none⟩ = some (.bool a0_1) := (blk_cell BK118.out 1).trans rfl; have hcz9_2 : w8.cell? ⟨gb118, 2, none⟩ = some (.bool a0_2) := (blk_cell BK118.out 2).trans rfl; have hcz9_3 : w8.cell? ⟨gb118, 3, none⟩ = some (.string a0_3) := (blk_cell BK118.out 3).trans rfl; have hcz9_4 : w8.cell? ⟨gb118, 4, none⟩ = some (.string a0_4) := (blk_cell BK118.out 4).trans rfl; have hcz9_5 : w8.cell? ⟨gb118, 5, none⟩ = some (.int .i64 a0_5) := (blk_cell BK118.out 5).trans rfl; have hcz9_6 : w8.cell? ⟨gb118, 6, none⟩ = some (.int .i64 a0_6) := (blk_cell BK118.out 6).trans rfl; have hcz9_7 : w8.cell? ⟨gb118, 7, none⟩ = some (.string a0_7) := (blk_cell BK118.out 7).trans rfl; have hcz9_8 : w8.cell? ⟨gb118, 8, none⟩ = some (.string a0_8) := (blk_cell BK118.out 8).trans rfl; have hcz9_9 : w8.cell? ⟨gb118, 9, none⟩ = some (.int .i64 a0_9) := (blk_cell BK118.out 9).trans rfl; have hcz9_10 : w8.cell? ⟨gb118, 10, none⟩ = some (.int .i64 a0_10) := (blk_cell BK118.out 10).trans rfl; have hfz9_0 := blk_frozen BK118.out 0; have hfz9_1 := blk_frozen BK118.out 1; have hfz9_2 := blk_frozen BK118.out 2; have hfz9_3 := blk_frozen BK118.out 3; have hfz9_4 := blk_frozen BK118.out 4; have hfz9_5 := blk_frozen BK118.out 5; have hfz9_6 := blk_frozen BK118.out 6; have hfz9_7 := blk_frozen BK118.out 7; have hfz9_8 := blk_frozen BK118.out 8; have hfz9_9 := blk_frozen BK118.out 9; have hfz9_10 := blk_frozen BK118.out 10))
   go_meet
   case rel => exact ⟨_, (true), (rf_), H', ⟨by first | omega | exact Nat.le_refl _⟩, ⟨ub_ BK118.out⟩, ⟨bes_ GE118.out⟩⟩
  rw [if_neg c6] at H
  have c6b0 : (a0_0.toList == ([] : List UInt8)) = false := beq_eq_false_iff_ne.mpr c6
  have c6b1 : (a0_0.toList != ([] : List UInt8)) = true := bne_iff_ne.mpr c6
  (first | rw [c6b0] | (simp only [i64_w, i32_w]; rw [c6b0]) | skip)
  by_cases c10 : a0_1 = true
  ·subst c10
   rw [if_pos rfl] at H
   have H1 := H
   clear H
   have H := H1
   clear H1
   have H' := Aside0.mk H
   clear H
   have hcz11_0 : w3.cell? ⟨gb118, 0, none⟩ = some (.string a0_0) := (blk_cell BK118.out 0).trans rfl
   have hcz11_1 : w3.cell? ⟨gb118, 1, none⟩ = some (.bool true) := (blk_cell BK118.out 1).trans rfl
   have hcz11_2 : w3.cell? ⟨gb118, 2, none⟩ = some (.bool a0_2) := (blk_cell BK118.out 2).trans rfl
   have hcz11_3 : w3.cell? ⟨gb118, 3, none⟩ = some (.string a0_3) := (blk_cell BK118.out 3).trans rfl
   have hcz11_4 : w3.cell? ⟨gb118, 4, none⟩ = some (.string a0_4) := (blk_cell BK118.out 4).trans rfl
   have hcz11_5 : w3.cell? ⟨gb118, 5, none⟩ = some (.int .i64 a0_5) := (blk_cell BK118.out 5).trans rfl
   have hcz11_6 : w3.cell? ⟨gb118, 6, none⟩ = some (.int .i64 a0_6) := (blk_cell BK118.out 6).trans rfl
   have hcz11_7 : w3.cell? ⟨gb118, 7, none⟩ = some (.string a0_7) := (blk_cell BK118.out 7).trans rfl
   have hcz11_8 : w3.cell? ⟨gb118, 8, none⟩ = some (.string a0_8) := (blk_cell BK118.out 8).trans rfl
   have hcz11_9 : w3.cell? ⟨gb118, 9, none⟩ = some (.int .i64 a0_9) := (blk_cell BK118.out 9).trans rfl
   have hcz11_10 : w3.cell? ⟨gb118, 10, none⟩ = some (.int .i64 a0_10) := (blk_cell BK118.out 10).trans rfl
   have hfz11_0 := blk_frozen BK118.out 0
   have hfz11_1 := blk_frozen BK118.out 1
   have hfz11_2 := blk_frozen BK118.out 2
   have hfz11_3 := blk_frozen BK118.out 3
   have hfz11_4 := blk_frozen BK118.out 4
   have hfz11_5 := blk_frozen BK118.out 5
   have hfz11_6 := blk_frozen BK118.out 6
   have hfz11_7 := blk_frozen BK118.out 7
   have hfz11_8 := blk_frozen BK118.out 8
   have hfz11_9 := blk_frozen BK118.out 9
   have hfz11_10 := blk_frozen BK118.out 10
   go_wp2_with (first | ((with_reducible refine gate_callee (f := 43) rfl ?_); refine goesL_ (some 5) rfl rfl Tryz.func43 (by kernel_rfl) rfl #[.string a0_0] rfl (mp_) ?_; (with_reducible refine (path_Valid.calls k a0_0 true _ A4.out).mono ?_); rintro e w12 ⟨rfl, hb⟩; refine ⟨_, rfl, ?_⟩; have n0_ := Aside0.mk (blk_below (g := gb118) (o := .cells #[.string a0_0, .bool true, .bool a0_2, .string a0_3, .string a0_4, .int .i64 a0_5, .int .i64 a0_6, .string a0_7, .string a0_8, .int .i64 a0_9, .int .i64 a0_10] 45 (0, 0)) (ub_ BK118.out) hb); have n1_ := Aside0.mk (below_step (bes_ GE118.out) hb); clear BK118; clear HB; have BK118 := n0_; have HB := n1_; clear n0_ n1_; (try clear hb); (try clear hb2); (try clear hk); (try clear hi); have hcz13_0 : w12.cell? ⟨gb118, 0, none⟩ = some (.string a0_0) := (blk_cell BK118.out 0).trans rfl; have hcz13_1 : w12.cell? ⟨gb118, 1, none⟩ = some (.bool true) := (blk_cell BK118.out 1).trans rfl; have hcz13_2 : w12.cell? ⟨gb118, 2, none⟩ = some (.bool a0_2) := (blk_cell BK118.out 2).trans rfl; have hcz13_3 : w12.cell? ⟨gb118, 3, none⟩ = some (.string a0_3) := (blk_cell BK118.out 3).trans rfl; have hcz13_4 : w12.cell? ⟨gb118, 4, none⟩ = some (.string a0_4) := (blk_cell BK118.out 4).trans rfl; have hcz13_5 : w12.cell? ⟨gb118, 5, none⟩ = some (.int .i64 a0_5) := (blk_cell BK118.out 5).trans rfl; have hcz13_6 : w12.cell? ⟨gb118, 6, none⟩ = some (.int .i64 a0_6) := (blk_cell BK118.out 6).trans rfl; have hcz13_7 : w12.cell? ⟨gb118, 7, none⟩ = some (.string a0_7) := (blk_cell BK118.out 7).trans rfl; have hcz13_8 : w12.cell? ⟨gb118, 8, none⟩ = some (.string a0_8) := (blk_cell BK118.out 8).trans rfl; have hcz13_9 : w12.cell? ⟨gb118, 9, none⟩ = some (.int .i64 a0_9) := (blk_cell BK118.out 9).trans rfl; have hcz13_10 : w12.cell? ⟨gb118, 10, none⟩ = some (.int .i64 a0_10) := (blk_cell BK118.out 10).trans rfl; have hfz13_0 := blk_frozen BK118.out 0; have hfz13_1 := blk_frozen BK118.out 1; have hfz13_2 := blk_frozen BK118.out 2; have hfz13_3 := blk_frozen BK118.out 3; have hfz13_4 := blk_frozen BK118.out 4; have hfz13_5 := blk_frozen BK118.out 5; have hfz13_6 := blk_frozen BK118.out 6; have hfz13_7 := blk_frozen BK118.out 7; have hfz13_8 := blk_frozen BK118.out 8; have hfz13_9 := blk_frozen BK118.out 9; have hfz13_10 := blk_frozen BK118.out 10))
   go_meet
   case rel => exact ⟨_, (false), (rf_), H', ⟨by first | omega | exact Nat.le_refl _⟩, ⟨ub_ BK118.out⟩, ⟨bes_ GE118.out⟩⟩
  replace c10 := Bool.eq_false_iff.mpr c10
  subst c10
  have H1 : (delta_may.j0 k (!a0_2) a0_0 false a0_2 a0_3 a0_4 a0_5 a0_6 a0_7 a0_8 a0_9 a0_10) = some r := by rw [if_neg (show ¬ (false = true) by decide)] at H; exact H
  clear H
  have H := H1
  clear H1
  have H' := Aside0.mk H
  clear H
  have hcz14_0 : w3.cell? ⟨gb118, 0, none⟩ = some (.string a0_0) := (blk_cell BK118.out 0).trans rfl
  have hcz14_1 : w3.cell? ⟨gb118, 1, none⟩ = some (.bool false) := (blk_cell BK118.out 1).trans rfl
  have hcz14_2 : w3.cell? ⟨gb118, 2, none⟩ = some (.bool a0_2) := (blk_cell BK118.out 2).trans rfl
  have hcz14_3 : w3.cell? ⟨gb118, 3, none⟩ = some (.string a0_3) := (blk_cell BK118.out 3).trans rfl
  have hcz14_4 : w3.cell? ⟨gb118, 4, none⟩ = some (.string a0_4) := (blk_cell BK118.out 4).trans rfl
  have hcz14_5 : w3.cell? ⟨gb118, 5, none⟩ = some (.int .i64 a0_5) := (blk_cell BK118.out 5).trans rfl
  have hcz14_6 : w3.cell? ⟨gb118, 6, none⟩ = some (.int .i64 a0_6) := (blk_cell BK118.out 6).trans rfl
  have hcz14_7 : w3.cell? ⟨gb118, 7, none⟩ = some (.string a0_7) := (blk_cell BK118.out 7).trans rfl
  have hcz14_8 : w3.cell? ⟨gb118, 8, none⟩ = some (.string a0_8) := (blk_cell BK118.out 8).trans rfl
  have hcz14_9 : w3.cell? ⟨gb118, 9, none⟩ = some (.int .i64 a0_9) := (blk_cell BK118.out 9).trans rfl
  have hcz14_10 : w3.cell? ⟨gb118, 10, none⟩ = some (.int .i64 a0_10) := (blk_cell BK118.out 10).trans rfl
  have hfz14_0 := blk_frozen BK118.out 0
  have hfz14_1 := blk_frozen BK118.out 1
  have hfz14_2 := blk_frozen BK118.out 2
  have hfz14_3 := blk_frozen BK118.out 3
  have hfz14_4 := blk_frozen BK118.out 4
  have hfz14_5 := blk_frozen BK118.out 5
  have hfz14_6 := blk_frozen BK118.out 6
  have hfz14_7 := blk_frozen BK118.out 7
  have hfz14_8 := blk_frozen BK118.out 8
  have hfz14_9 := blk_frozen BK118.out 9
  have hfz14_10 := blk_frozen BK118.out 10
  go_wp2_with (first | ((with_reducible refine gate_callee (f := 43) rfl ?_); refine goesL_ (some 5) rfl rfl Tryz.func43 (by kernel_rfl) rfl #[.string a0_0] rfl (mp_) ?_; (with_reducible refine (path_Valid.calls k a0_0 true _ A4.out).mono ?_); rintro e w15 ⟨rfl, hb⟩; refine ⟨_, rfl, ?_⟩; have n0_ := Aside0.mk (blk_below (g := gb118) (o := .cells #[.string a0_0, .bool false, .bool a0_2, .string a0_3, .string a0_4, .int .i64 a0_5, .int .i64 a0_6, .string a0_7, .string a0_8, .int .i64 a0_9, .int .i64 a0_10] 45 (0, 0)) (ub_ BK118.out) hb); have n1_ := Aside0.mk (below_step (bes_ GE118.out) hb); clear BK118; clear HB; have BK118 := n0_; have HB := n1_; clear n0_ n1_; (try clear hb); (try clear hb2); (try clear hk); (try clear hi); have hcz16_0 : w15.cell? ⟨gb118, 0, none⟩ = some (.string a0_0) := (blk_cell BK118.out 0).trans rfl; have hcz16_1 : w15.cell? ⟨gb118, 1, none⟩ = some (.bool false) := (blk_cell BK118.out 1).trans rfl; have hcz16_2 : w15.cell? ⟨gb118, 2, none⟩ = some (.bool a0_2) := (blk_cell BK118.out 2).trans rfl; have hcz16_3 : w15.cell? ⟨gb118, 3, none⟩ = some (.string a0_3) := (blk_cell BK118.out 3).trans rfl; have hcz16_4 : w15.cell? ⟨gb118, 4, none⟩ = some (.string a0_4) := (blk_cell BK118.out 4).trans rfl; have hcz16_5 : w15.cell? ⟨gb118, 5, none⟩ = some (.int .i64 a0_5) := (blk_cell BK118.out 5).trans rfl; have hcz16_6 : w15.cell? ⟨gb118, 6, none⟩ = some (.int .i64 a0_6) := (blk_cell BK118.out 6).trans rfl; have hcz16_7 : w15.cell? ⟨gb118, 7, none⟩ = some (.string a0_7) := (blk_cell BK118.out 7).trans rfl; have hcz16_8 : w15.cell? ⟨gb118, 8, none⟩ = some (.string a0_8) := (blk_cell BK118.out 8).trans rfl; have hcz16_9 : w15.cell? ⟨gb118, 9, none⟩ = some (.int .i64 a0_9) := (blk_cell BK118.out 9).trans rfl; have hcz16_10 : w15.cell? ⟨gb118, 10, none⟩ = some (.int .i64 a0_10) := (blk_cell BK118.out 10).trans rfl; have hfz16_0 := blk_frozen BK118.out 0; have hfz16_1 := blk_frozen BK118.out 1; have hfz16_2 := blk_frozen BK118.out 2; have hfz16_3 := blk_frozen BK118.out 3; have hfz16_4 := blk_frozen BK118.out 4; have hfz16_5 := blk_frozen BK118.out 5; have hfz16_6 := blk_frozen BK118.out 6; have hfz16_7 := blk_frozen BK118.out 7; have hfz16_8 := blk_frozen BK118.out 8; have hfz16_9 := blk_frozen BK118.out 9; have hfz16_10 := blk_frozen BK118.out 10))
  go_meet
  case rel => exact ⟨_, (!a0_2), (rf_), H', ⟨by first | omega | exact Nat.le_refl _⟩, ⟨ub_ BK118.out⟩, ⟨bes_ GE118.out⟩⟩
 case rest =>
  clear HC2
  try clear c1
  try clear c2
  try clear p2
  try clear c4
  try clear c5
  try clear c6
  try clear c6b0
  try clear c6b1
  try clear c10
  try clear hcz11_0
  try clear hcz11_1
  try clear hcz11_10
  try clear hcz11_2
  try clear hcz11_3
  try clear hcz11_4
  try clear hcz11_5
  try clear hcz11_6
  try clear hcz11_7
  try clear hcz11_8
  try clear hcz11_9
  try clear hcz13_0
  try clear hcz13_1
  try clear hcz13_10
  try clear hcz13_2
  try clear hcz13_3
  try clear hcz13_4
  try clear hcz13_5
  try clear hcz13_6
  try clear hcz13_7
  try clear hcz13_8
  try clear hcz13_9
  try clear hcz14_0
  try clear hcz14_1
  try clear hcz14_10
  try clear hcz14_2
  try clear hcz14_3
  try clear hcz14_4
  try clear hcz14_5
  try clear hcz14_6
  try clear hcz14_7
  try clear hcz14_8
  try clear hcz14_9
  try clear hcz16_0
  try clear hcz16_1
  try clear hcz16_10
  try clear hcz16_2
  try clear hcz16_3
  try clear hcz16_4
  try clear hcz16_5
  try clear hcz16_6
  try clear hcz16_7
  try clear hcz16_8
  try clear hcz16_9
  try clear hcz17_0
  try clear hcz17_1
  try clear hcz17_10
  try clear hcz17_2
  try clear hcz17_3
  try clear hcz17_4
  try clear hcz17_5
  try clear hcz17_6
  try clear hcz17_7
  try clear hcz17_8
  try clear hcz17_9
  try clear hcz7_0
  try clear hcz7_1
  try clear hcz7_10
  try clear hcz7_2
  try clear hcz7_3
  try clear hcz7_4
  try clear hcz7_5
  try clear hcz7_6
  try clear hcz7_7
  try clear hcz7_8
  try clear hcz7_9
  try clear hcz9_0
  try clear hcz9_1
  try clear hcz9_10
  try clear hcz9_2
  try clear hcz9_3
  try clear hcz9_4
  try clear hcz9_5
  try clear hcz9_6
  try clear hcz9_7
  try clear hcz9_8
  try clear hcz9_9
  try clear hfz11_0
  try clear hfz11_1
  try clear hfz11_10
  try clear hfz11_2
  try clear hfz11_3
  try clear hfz11_4
  try clear hfz11_5
  try clear hfz11_6
  try clear hfz11_7
  try clear hfz11_8
  try clear hfz11_9
  try clear hfz13_0
  try clear hfz13_1
  try clear hfz13_10
  try clear hfz13_2
  try clear hfz13_3
  try clear hfz13_4
  try clear hfz13_5
  try clear hfz13_6
  try clear hfz13_7
  try clear hfz13_8
  try clear hfz13_9
  try clear hfz14_0
  try clear hfz14_1
  try clear hfz14_10
  try clear hfz14_2
  try clear hfz14_3
  try clear hfz14_4
  try clear hfz14_5
  try clear hfz14_6
  try clear hfz14_7
  try clear hfz14_8
  try clear hfz14_9
  try clear hfz16_0
  try clear hfz16_1
  try clear hfz16_10
  try clear hfz16_2
  try clear hfz16_3
  try clear hfz16_4
  try clear hfz16_5
  try clear hfz16_6
  try clear hfz16_7
  try clear hfz16_8
  try clear hfz16_9
  try clear hfz17_0
  try clear hfz17_1
  try clear hfz17_10
  try clear hfz17_2
  try clear hfz17_3
  try clear hfz17_4
  try clear hfz17_5
  try clear hfz17_6
  try clear hfz17_7
  try clear hfz17_8
  try clear hfz17_9
  try clear hfz7_0
  try clear hfz7_1
  try clear hfz7_10
  try clear hfz7_2
  try clear hfz7_3
  try clear hfz7_4
  try clear hfz7_5
  try clear hfz7_6
  try clear hfz7_7
  try clear hfz7_8
  try clear hfz7_9
  try clear hfz9_0
  try clear hfz9_1
  try clear hfz9_10
  try clear hfz9_2
  try clear hfz9_3
  try clear hfz9_4
  try clear hfz9_5
  try clear hfz9_6
  try clear hfz9_7
  try clear hfz9_8
  try clear hfz9_9
  obtain ⟨kq, x21_1, rfl, HA, HJ1, BK118, HB⟩ := hcut
  cases kq with
  | zero => exact absurd HA.out (by simp [delta_may.j0])
  | succ kj1 =>
   have H := HA.out
   clear HA
   simp only [delta_may.j0] at H
   by_cases c19 : x21_1 = true
   ·subst c19
    rw [if_pos rfl] at H
    have H1 := H
    clear H
    have H := H1
    clear H1
    obtain rfl := Option.some.inj H
    go_wp2
    go_ret
    exact ⟨er_, bes_ GE118.out⟩
   replace c19 := Bool.eq_false_iff.mpr c19
   subst c19
   have H1 : ((delta_half.f a0_0 a0_1 a0_3 a0_4 a0_5 a0_6).bind fun t120 => (if t120 = true then ((delta_half.f a0_0 a0_2 a0_7 a0_8 a0_9 a0_10).bind fun t121 => (if t121 = true then (if a0_1 = true then (if a0_2 = true then (some (!(a0_3.toList == a0_7.toList && (a0_4.toList == a0_8.toList && (a0_5 == a0_9 && (a0_6 == a0_10)))))) else (some (!false))) else (some (!false))) else (some false))) else (some false))) = some r := by rw [if_neg (show ¬ (false = true) by decide)] at H; exact H
   clear H
   have H := H1
   clear H1
   replace H := Option.bind_eq_some_iff.mp H
   obtain ⟨t120, A200, H⟩ := H
   try dsimp only at H
   have A20 := Aside0.mk A200
   clear A200
   by_cases c21 : t120 = true
   rotate_left
   ·replace c21 := Bool.eq_false_iff.mpr c21
    subst c21
    have H1 : (some false) = some r := by rw [if_neg (show ¬ (false = true) by decide)] at H; exact H
    clear H
    have H := H1
    clear H1
    obtain rfl := Option.some.inj H
    have hcz45_0 : wc.cell? ⟨gb118, 0, none⟩ = some (.string a0_0) := (blk_cell BK118.out 0).trans rfl
    have hcz45_1 : wc.cell? ⟨gb118, 1, none⟩ = some (.bool a0_1) := (blk_cell BK118.out 1).trans rfl
    have hcz45_2 : wc.cell? ⟨gb118, 2, none⟩ = some (.bool a0_2) := (blk_cell BK118.out 2).trans rfl
    have hcz45_3 : wc.cell? ⟨gb118, 3, none⟩ = some (.string a0_3) := (blk_cell BK118.out 3).trans rfl
    have hcz45_4 : wc.cell? ⟨gb118, 4, none⟩ = some (.string a0_4) := (blk_cell BK118.out 4).trans rfl
    have hcz45_5 : wc.cell? ⟨gb118, 5, none⟩ = some (.int .i64 a0_5) := (blk_cell BK118.out 5).trans rfl
    have hcz45_6 : wc.cell? ⟨gb118, 6, none⟩ = some (.int .i64 a0_6) := (blk_cell BK118.out 6).trans rfl
    have hcz45_7 : wc.cell? ⟨gb118, 7, none⟩ = some (.string a0_7) := (blk_cell BK118.out 7).trans rfl
    have hcz45_8 : wc.cell? ⟨gb118, 8, none⟩ = some (.string a0_8) := (blk_cell BK118.out 8).trans rfl
    have hcz45_9 : wc.cell? ⟨gb118, 9, none⟩ = some (.int .i64 a0_9) := (blk_cell BK118.out 9).trans rfl
    have hcz45_10 : wc.cell? ⟨gb118, 10, none⟩ = some (.int .i64 a0_10) := (blk_cell BK118.out 10).trans rfl
    have hfz45_0 := blk_frozen BK118.out 0
    have hfz45_1 := blk_frozen BK118.out 1
    have hfz45_2 := blk_frozen BK118.out 2
    have hfz45_3 := blk_frozen BK118.out 3
    have hfz45_4 := blk_frozen BK118.out 4
    have hfz45_5 := blk_frozen BK118.out 5
    have hfz45_6 := blk_frozen BK118.out 6
    have hfz45_7 := blk_frozen BK118.out 7
    have hfz45_8 := blk_frozen BK118.out 8
    have hfz45_9 := blk_frozen BK118.out 9
    have hfz45_10 := blk_frozen BK118.out 10
    go_wp2_with (first | ((with_reducible refine gate_callee (f := 44) rfl ?_); refine goesL_ (some 28) rfl rfl Tryz.func44 (by kernel_rfl) rfl #[.string a0_0, .bool a0_1, .agg #[.string a0_3, .string a0_4, .int .i64 a0_5, .int .i64 a0_6]] rfl (mp_) ?_; (with_reducible refine (delta_half.calls a0_0 a0_1 a0_3 a0_4 a0_5 a0_6 false _ A20.out).mono ?_); rintro e w46 ⟨rfl, hb⟩; refine ⟨_, rfl, ?_⟩; have n0_ := Aside0.mk (blk_below (g := gb118) (o := .cells #[.string a0_0, .bool a0_1, .bool a0_2, .string a0_3, .string a0_4, .int .i64 a0_5, .int .i64 a0_6, .string a0_7, .string a0_8, .int .i64 a0_9, .int .i64 a0_10] 45 (0, 0)) (ub_ BK118.out) hb); have n1_ := Aside0.mk (below_step (bes_ GE118.out) hb); clear BK118; clear HB; have BK118 := n0_; have HB := n1_; clear n0_ n1_; (try clear hb); (try clear hb2); (try clear hk); (try clear hi)))
    go_ret
    exact ⟨er_, bes_ GE118.out⟩
   subst c21
   rw [if_pos rfl] at H
   have H1 := H
   clear H
   have H := H1
   clear H1
   replace H := Option.bind_eq_some_iff.mp H
   obtain ⟨t121, A220, H⟩ := H
   try dsimp only at H
   have A22 := Aside0.mk A220
   clear A220
   by_cases c23 : t121 = true
   rotate_left
   ·replace c23 := Bool.eq_false_iff.mpr c23
    subst c23
    have H1 : (some false) = some r := by rw [if_neg (show ¬ (false = true) by decide)] at H; exact H
    clear H
    have H := H1
    clear H1
    obtain rfl := Option.some.inj H
    have hcz41_0 : wc.cell? ⟨gb118, 0, none⟩ = some (.string a0_0) := (blk_cell BK118.out 0).trans rfl
    have hcz41_1 : wc.cell? ⟨gb118, 1, none⟩ = some (.bool a0_1) := (blk_cell BK118.out 1).trans rfl
    have hcz41_2 : wc.cell? ⟨gb118, 2, none⟩ = some (.bool a0_2) := (blk_cell BK118.out 2).trans rfl
    have hcz41_3 : wc.cell? ⟨gb118, 3, none⟩ = some (.string a0_3) := (blk_cell BK118.out 3).trans rfl
    have hcz41_4 : wc.cell? ⟨gb118, 4, none⟩ = some (.string a0_4) := (blk_cell BK118.out 4).trans rfl
    have hcz41_5 : wc.cell? ⟨gb118, 5, none⟩ = some (.int .i64 a0_5) := (blk_cell BK118.out 5).trans rfl
    have hcz41_6 : wc.cell? ⟨gb118, 6, none⟩ = some (.int .i64 a0_6) := (blk_cell BK118.out 6).trans rfl
    have hcz41_7 : wc.cell? ⟨gb118, 7, none⟩ = some (.string a0_7) := (blk_cell BK118.out 7).trans rfl
    have hcz41_8 : wc.cell? ⟨gb118, 8, none⟩ = some (.string a0_8) := (blk_cell BK118.out 8).trans rfl
    have hcz41_9 : wc.cell? ⟨gb118, 9, none⟩ = some (.int .i64 a0_9) := (blk_cell BK118.out 9).trans rfl
    have hcz41_10 : wc.cell? ⟨gb118, 10, none⟩ = some (.int .i64 a0_10) := (blk_cell BK118.out 10).trans rfl
    have hfz41_0 := blk_frozen BK118.out 0
    have hfz41_1 := blk_frozen BK118.out 1
    have hfz41_2 := blk_frozen BK118.out 2
    have hfz41_3 := blk_frozen BK118.out 3
    have hfz41_4 := blk_frozen BK118.out 4
    have hfz41_5 := blk_frozen BK118.out 5
    have hfz41_6 := blk_frozen BK118.out 6
    have hfz41_7 := blk_frozen BK118.out 7
    have hfz41_8 := blk_frozen BK118.out 8
    have hfz41_9 := blk_frozen BK118.out 9
    have hfz41_10 := blk_frozen BK118.out 10
    go_wp2_with (first | ((with_reducible refine gate_callee (f := 44) rfl ?_); refine goesL_ (some 28) rfl rfl Tryz.func44 (by kernel_rfl) rfl #[.string a0_0, .bool a0_1, .agg #[.string a0_3, .string a0_4, .int .i64 a0_5, .int .i64 a0_6]] rfl (mp_) ?_; (with_reducible refine (delta_half.calls a0_0 a0_1 a0_3 a0_4 a0_5 a0_6 true _ A20.out).mono ?_); rintro e w42 ⟨rfl, hb⟩; refine ⟨_, rfl, ?_⟩; have n0_ := Aside0.mk (blk_below (g := gb118) (o := .cells #[.string a0_0, .bool a0_1, .bool a0_2, .string a0_3, .string a0_4, .int .i64 a0_5, .int .i64 a0_6, .string a0_7, .string a0_8, .int .i64 a0_9, .int .i64 a0_10] 45 (0, 0)) (ub_ BK118.out) hb); have n1_ := Aside0.mk (below_step (bes_ GE118.out) hb); clear BK118; clear HB; have BK118 := n0_; have HB := n1_; clear n0_ n1_; (try clear hb); (try clear hb2); (try clear hk); (try clear hi); have hcz43_0 : w42.cell? ⟨gb118, 0, none⟩ = some (.string a0_0) := (blk_cell BK118.out 0).trans rfl; have hcz43_1 : w42.cell? ⟨gb118, 1, none⟩ = some (.bool a0_1) := (blk_cell BK118.out 1).trans rfl; have hcz43_2 : w42.cell? ⟨gb118, 2, none⟩ = some (.bool a0_2) := (blk_cell BK118.out 2).trans rfl; have hcz43_3 : w42.cell? ⟨gb118, 3, none⟩ = some (.string a0_3) := (blk_cell BK118.out 3).trans rfl; have hcz43_4 : w42.cell? ⟨gb118, 4, none⟩ = some (.string a0_4) := (blk_cell BK118.out 4).trans rfl; have hcz43_5 : w42.cell? ⟨gb118, 5, none⟩ = some (.int .i64 a0_5) := (blk_cell BK118.out 5).trans rfl; have hcz43_6 : w42.cell? ⟨gb118, 6, none⟩ = some (.int .i64 a0_6) := (blk_cell BK118.out 6).trans rfl; have hcz43_7 : w42.cell? ⟨gb118, 7, none⟩ = some (.string a0_7) := (blk_cell BK118.out 7).trans rfl; have hcz43_8 : w42.cell? ⟨gb118, 8, none⟩ = some (.string a0_8) := (blk_cell BK118.out 8).trans rfl; have hcz43_9 : w42.cell? ⟨gb118, 9, none⟩ = some (.int .i64 a0_9) := (blk_cell BK118.out 9).trans rfl; have hcz43_10 : w42.cell? ⟨gb118, 10, none⟩ = some (.int .i64 a0_10) := (blk_cell BK118.out 10).trans rfl; have hfz43_0 := blk_frozen BK118.out 0; have hfz43_1 := blk_frozen BK118.out 1; have hfz43_2 := blk_frozen BK118.out 2; have hfz43_3 := blk_frozen BK118.out 3; have hfz43_4 := blk_frozen BK118.out 4; have hfz43_5 := blk_frozen BK118.out 5; have hfz43_6 := blk_frozen BK118.out 6; have hfz43_7 := blk_frozen BK118.out 7; have hfz43_8 := blk_frozen BK118.out 8; have hfz43_9 := blk_frozen BK118.out 9; have hfz43_10 := blk_frozen BK118.out 10) | (go_at_call 44; (with_reducible refine (delta_half.calls a0_0 a0_2 a0_7 a0_8 a0_9 a0_10 false _ A22.out).mono ?_); rintro e w44 ⟨rfl, hb⟩; have n0_ := Aside0.mk (blk_below (g := gb118) (o := .cells #[.string a0_0, .bool a0_1, .bool a0_2, .string a0_3, .string a0_4, .int .i64 a0_5, .int .i64 a0_6, .string a0_7, .string a0_8, .int .i64 a0_9, .int .i64 a0_10] 45 (0, 0)) (ub_ BK118.out) hb); have n1_ := Aside0.mk (below_step (bes_ GE118.out) hb); clear BK118; clear HB; have BK118 := n0_; have HB := n1_; clear n0_ n1_; (try clear hb); (try clear hb2); (try clear hk); (try clear hi)))
    go_ret
    exact ⟨er_, bes_ GE118.out⟩
   subst c23
   rw [if_pos rfl] at H
   have H1 := H
   clear H
   have H := H1
   clear H1
   by_cases c24 : a0_1 = true
   rotate_left
   ·replace c24 := Bool.eq_false_iff.mpr c24
    subst c24
    have H1 : (some (!false)) = some r := by rw [if_neg (show ¬ (false = true) by decide)] at H; exact H
    clear H
    have H := H1
    clear H1
    obtain rfl := Option.some.inj H
    have hcz36_0 : wc.cell? ⟨gb118, 0, none⟩ = some (.string a0_0) := (blk_cell BK118.out 0).trans rfl
    have hcz36_1 : wc.cell? ⟨gb118, 1, none⟩ = some (.bool false) := (blk_cell BK118.out 1).trans rfl
    have hcz36_2 : wc.cell? ⟨gb118, 2, none⟩ = some (.bool a0_2) := (blk_cell BK118.out 2).trans rfl
    have hcz36_3 : wc.cell? ⟨gb118, 3, none⟩ = some (.string a0_3) := (blk_cell BK118.out 3).trans rfl
    have hcz36_4 : wc.cell? ⟨gb118, 4, none⟩ = some (.string a0_4) := (blk_cell BK118.out 4).trans rfl
    have hcz36_5 : wc.cell? ⟨gb118, 5, none⟩ = some (.int .i64 a0_5) := (blk_cell BK118.out 5).trans rfl
    have hcz36_6 : wc.cell? ⟨gb118, 6, none⟩ = some (.int .i64 a0_6) := (blk_cell BK118.out 6).trans rfl
    have hcz36_7 : wc.cell? ⟨gb118, 7, none⟩ = some (.string a0_7) := (blk_cell BK118.out 7).trans rfl
    have hcz36_8 : wc.cell? ⟨gb118, 8, none⟩ = some (.string a0_8) := (blk_cell BK118.out 8).trans rfl
    have hcz36_9 : wc.cell? ⟨gb118, 9, none⟩ = some (.int .i64 a0_9) := (blk_cell BK118.out 9).trans rfl
    have hcz36_10 : wc.cell? ⟨gb118, 10, none⟩ = some (.int .i64 a0_10) := (blk_cell BK118.out 10).trans rfl
    have hfz36_0 := blk_frozen BK118.out 0
    have hfz36_1 := blk_frozen BK118.out 1
    have hfz36_2 := blk_frozen BK118.out 2
    have hfz36_3 := blk_frozen BK118.out 3
    have hfz36_4 := blk_frozen BK118.out 4
    have hfz36_5 := blk_frozen BK118.out 5
    have hfz36_6 := blk_frozen BK118.out 6
    have hfz36_7 := blk_frozen BK118.out 7
    have hfz36_8 := blk_frozen BK118.out 8
    have hfz36_9 := blk_frozen BK118.out 9
    have hfz36_10 := blk_frozen BK118.out 10
    go_wp2_with (first | ((with_reducible refine gate_callee (f := 44) rfl ?_); refine goesL_ (some 28) rfl rfl Tryz.func44 (by kernel_rfl) rfl #[.string a0_0, .bool false, .agg #[.string a0_3, .string a0_4, .int .i64 a0_5, .int .i64 a0_6]] rfl (mp_) ?_; (with_reducible refine (delta_half.calls a0_0 false a0_3 a0_4 a0_5 a0_6 true _ A20.out).mono ?_); rintro e w37 ⟨rfl, hb⟩; refine ⟨_, rfl, ?_⟩; have n0_ := Aside0.mk (blk_below (g := gb118) (o := .cells #[.string a0_0, .bool false, .bool a0_2, .string a0_3, .string a0_4, .int .i64 a0_5, .int .i64 a0_6, .string a0_7, .string a0_8, .int .i64 a0_9, .int .i64 a0_10] 45 (0, 0)) (ub_ BK118.out) hb); have n1_ := Aside0.mk (below_step (bes_ GE118.out) hb); clear BK118; clear HB; have BK118 := n0_; have HB := n1_; clear n0_ n1_; (try clear hb); (try clear hb2); (try clear hk); (try clear hi); have hcz38_0 : w37.cell? ⟨gb118, 0, none⟩ = some (.string a0_0) := (blk_cell BK118.out 0).trans rfl; have hcz38_1 : w37.cell? ⟨gb118, 1, none⟩ = some (.bool false) := (blk_cell BK118.out 1).trans rfl; have hcz38_2 : w37.cell? ⟨gb118, 2, none⟩ = some (.bool a0_2) := (blk_cell BK118.out 2).trans rfl; have hcz38_3 : w37.cell? ⟨gb118, 3, none⟩ = some (.string a0_3) := (blk_cell BK118.out 3).trans rfl; have hcz38_4 : w37.cell? ⟨gb118, 4, none⟩ = some (.string a0_4) := (blk_cell BK118.out 4).trans rfl; have hcz38_5 : w37.cell? ⟨gb118, 5, none⟩ = some (.int .i64 a0_5) := (blk_cell BK118.out 5).trans rfl; have hcz38_6 : w37.cell? ⟨gb118, 6, none⟩ = some (.int .i64 a0_6) := (blk_cell BK118.out 6).trans rfl; have hcz38_7 : w37.cell? ⟨gb118, 7, none⟩ = some (.string a0_7) := (blk_cell BK118.out 7).trans rfl; have hcz38_8 : w37.cell? ⟨gb118, 8, none⟩ = some (.string a0_8) := (blk_cell BK118.out 8).trans rfl; have hcz38_9 : w37.cell? ⟨gb118, 9, none⟩ = some (.int .i64 a0_9) := (blk_cell BK118.out 9).trans rfl; have hcz38_10 : w37.cell? ⟨gb118, 10, none⟩ = some (.int .i64 a0_10) := (blk_cell BK118.out 10).trans rfl; have hfz38_0 := blk_frozen BK118.out 0; have hfz38_1 := blk_frozen BK118.out 1; have hfz38_2 := blk_frozen BK118.out 2; have hfz38_3 := blk_frozen BK118.out 3; have hfz38_4 := blk_frozen BK118.out 4; have hfz38_5 := blk_frozen BK118.out 5; have hfz38_6 := blk_frozen BK118.out 6; have hfz38_7 := blk_frozen BK118.out 7; have hfz38_8 := blk_frozen BK118.out 8; have hfz38_9 := blk_frozen BK118.out 9; have hfz38_10 := blk_frozen BK118.out 10) | (go_at_call 44; (with_reducible refine (delta_half.calls a0_0 a0_2 a0_7 a0_8 a0_9 a0_10 true _ A22.out).mono ?_); rintro e w39 ⟨rfl, hb⟩; have n0_ := Aside0.mk (blk_below (g := gb118) (o := .cells #[.string a0_0, .bool false, .bool a0_2, .string a0_3, .string a0_4, .int .i64 a0_5, .int .i64 a0_6, .string a0_7, .string a0_8, .int .i64 a0_9, .int .i64 a0_10] 45 (0, 0)) (ub_ BK118.out) hb); have n1_ := Aside0.mk (below_step (bes_ GE118.out) hb); clear BK118; clear HB; have BK118 := n0_; have HB := n1_; clear n0_ n1_; (try clear hb); (try clear hb2); (try clear hk); (try clear hi); have hcz40_0 : w39.cell? ⟨gb118, 0, none⟩ = some (.string a0_0) := (blk_cell BK118.out 0).trans rfl; have hcz40_1 : w39.cell? ⟨gb118, 1, none⟩ = some (.bool false) := (blk_cell BK118.out 1).trans rfl; have hcz40_2 : w39.cell? ⟨gb118, 2, none⟩ = some (.bool a0_2) := (blk_cell BK118.out 2).trans rfl; have hcz40_3 : w39.cell? ⟨gb118, 3, none⟩ = some (.string a0_3) := (blk_cell BK118.out 3).trans rfl; have hcz40_4 : w39.cell? ⟨gb118, 4, none⟩ = some (.string a0_4) := (blk_cell BK118.out 4).trans rfl; have hcz40_5 : w39.cell? ⟨gb118, 5, none⟩ = some (.int .i64 a0_5) := (blk_cell BK118.out 5).trans rfl; have hcz40_6 : w39.cell? ⟨gb118, 6, none⟩ = some (.int .i64 a0_6) := (blk_cell BK118.out 6).trans rfl; have hcz40_7 : w39.cell? ⟨gb118, 7, none⟩ = some (.string a0_7) := (blk_cell BK118.out 7).trans rfl; have hcz40_8 : w39.cell? ⟨gb118, 8, none⟩ = some (.string a0_8) := (blk_cell BK118.out 8).trans rfl; have hcz40_9 : w39.cell? ⟨gb118, 9, none⟩ = some (.int .i64 a0_9) := (blk_cell BK118.out 9).trans rfl; have hcz40_10 : w39.cell? ⟨gb118, 10, none⟩ = some (.int .i64 a0_10) := (blk_cell BK118.out 10).trans rfl; have hfz40_0 := blk_frozen BK118.out 0; have hfz40_1 := blk_frozen BK118.out 1; have hfz40_2 := blk_frozen BK118.out 2; have hfz40_3 := blk_frozen BK118.out 3; have hfz40_4 := blk_frozen BK118.out 4; have hfz40_5 := blk_frozen BK118.out 5; have hfz40_6 := blk_frozen BK118.out 6; have hfz40_7 := blk_frozen BK118.out 7; have hfz40_8 := blk_frozen BK118.out 8; have hfz40_9 := blk_frozen BK118.out 9; have hfz40_10 := blk_frozen BK118.out 10))
    go_ret
    exact ⟨er_, bes_ GE118.out⟩
   subst c24
   rw [if_pos rfl] at H
   have H1 := H
   clear H
   have H := H1
   clear H1
   by_cases c25 : a0_2 = true
   ·subst c25
    rw [if_pos rfl] at H
    have H1 := H
    clear H
    have H := H1
    clear H1
    obtain rfl := Option.some.inj H
    have hcz26_0 : wc.cell? ⟨gb118, 0, none⟩ = some (.string a0_0) := (blk_cell BK118.out 0).trans rfl
    have hcz26_1 : wc.cell? ⟨gb118, 1, none⟩ = some (.bool true) := (blk_cell BK118.out 1).trans rfl
    have hcz26_2 : wc.cell? ⟨gb118, 2, none⟩ = some (.bool true) := (blk_cell BK118.out 2).trans rfl
    have hcz26_3 : wc.cell? ⟨gb118, 3, none⟩ = some (.string a0_3) := (blk_cell BK118.out 3).trans rfl
    have hcz26_4 : wc.cell? ⟨gb118, 4, none⟩ = some (.string a0_4) := (blk_cell BK118.out 4).trans rfl
    have hcz26_5 : wc.cell? ⟨gb118, 5, none⟩ = some (.int .i64 a0_5) := (blk_cell BK118.out 5).trans rfl
    have hcz26_6 : wc.cell? ⟨gb118, 6, none⟩ = some (.int .i64 a0_6) := (blk_cell BK118.out 6).trans rfl
    have hcz26_7 : wc.cell? ⟨gb118, 7, none⟩ = some (.string a0_7) := (blk_cell BK118.out 7).trans rfl
    have hcz26_8 : wc.cell? ⟨gb118, 8, none⟩ = some (.string a0_8) := (blk_cell BK118.out 8).trans rfl
    have hcz26_9 : wc.cell? ⟨gb118, 9, none⟩ = some (.int .i64 a0_9) := (blk_cell BK118.out 9).trans rfl
    have hcz26_10 : wc.cell? ⟨gb118, 10, none⟩ = some (.int .i64 a0_10) := (blk_cell BK118.out 10).trans rfl
    have hfz26_0 := blk_frozen BK118.out 0
    have hfz26_1 := blk_frozen BK118.out 1
    have hfz26_2 := blk_frozen BK118.out 2
    have hfz26_3 := blk_frozen BK118.out 3
    have hfz26_4 := blk_frozen BK118.out 4
    have hfz26_5 := blk_frozen BK118.out 5
    have hfz26_6 := blk_frozen BK118.out 6
    have hfz26_7 := blk_frozen BK118.out 7
    have hfz26_8 := blk_frozen BK118.out 8
    have hfz26_9 := blk_frozen BK118.out 9
    have hfz26_10 := blk_frozen BK118.out 10
    go_wp2_with (first | ((with_reducible refine gate_callee (f := 44) rfl ?_); refine goesL_ (some 28) rfl rfl Tryz.func44 (by kernel_rfl) rfl #[.string a0_0, .bool true, .agg #[.string a0_3, .string a0_4, .int .i64 a0_5, .int .i64 a0_6]] rfl (mp_) ?_; (with_reducible refine (delta_half.calls a0_0 true a0_3 a0_4 a0_5 a0_6 true _ A20.out).mono ?_); rintro e w27 ⟨rfl, hb⟩; refine ⟨_, rfl, ?_⟩; have n0_ := Aside0.mk (blk_below (g := gb118) (o := .cells #[.string a0_0, .bool true, .bool true, .string a0_3, .string a0_4, .int .i64 a0_5, .int .i64 a0_6, .string a0_7, .string a0_8, .int .i64 a0_9, .int .i64 a0_10] 45 (0, 0)) (ub_ BK118.out) hb); have n1_ := Aside0.mk (below_step (bes_ GE118.out) hb); clear BK118; clear HB; have BK118 := n0_; have HB := n1_; clear n0_ n1_; (try clear hb); (try clear hb2); (try clear hk); (try clear hi); have hcz28_0 : w27.cell? ⟨gb118, 0, none⟩ = some (.string a0_0) := (blk_cell BK118.out 0).trans rfl; have hcz28_1 : w27.cell? ⟨gb118, 1, none⟩ = some (.bool true) := (blk_cell BK118.out 1).trans rfl; have hcz28_2 : w27.cell? ⟨gb118, 2, none⟩ = some (.bool true) := (blk_cell BK118.out 2).trans rfl; have hcz28_3 : w27.cell? ⟨gb118, 3, none⟩ = some (.string a0_3) := (blk_cell BK118.out 3).trans rfl; have hcz28_4 : w27.cell? ⟨gb118, 4, none⟩ = some (.string a0_4) := (blk_cell BK118.out 4).trans rfl; have hcz28_5 : w27.cell? ⟨gb118, 5, none⟩ = some (.int .i64 a0_5) := (blk_cell BK118.out 5).trans rfl; have hcz28_6 : w27.cell? ⟨gb118, 6, none⟩ = some (.int .i64 a0_6) := (blk_cell BK118.out 6).trans rfl; have hcz28_7 : w27.cell? ⟨gb118, 7, none⟩ = some (.string a0_7) := (blk_cell BK118.out 7).trans rfl; have hcz28_8 : w27.cell? ⟨gb118, 8, none⟩ = some (.string a0_8) := (blk_cell BK118.out 8).trans rfl; have hcz28_9 : w27.cell? ⟨gb118, 9, none⟩ = some (.int .i64 a0_9) := (blk_cell BK118.out 9).trans rfl; have hcz28_10 : w27.cell? ⟨gb118, 10, none⟩ = some (.int .i64 a0_10) := (blk_cell BK118.out 10).trans rfl; have hfz28_0 := blk_frozen BK118.out 0; have hfz28_1 := blk_frozen BK118.out 1; have hfz28_2 := blk_frozen BK118.out 2; have hfz28_3 := blk_frozen BK118.out 3; have hfz28_4 := blk_frozen BK118.out 4; have hfz28_5 := blk_frozen BK118.out 5; have hfz28_6 := blk_frozen BK118.out 6; have hfz28_7 := blk_frozen BK118.out 7; have hfz28_8 := blk_frozen BK118.out 8; have hfz28_9 := blk_frozen BK118.out 9; have hfz28_10 := blk_frozen BK118.out 10) | (go_at_call 44; (with_reducible refine (delta_half.calls a0_0 true a0_7 a0_8 a0_9 a0_10 true _ A22.out).mono ?_); rintro e w29 ⟨rfl, hb⟩; have n0_ := Aside0.mk (blk_below (g := gb118) (o := .cells #[.string a0_0, .bool true, .bool true, .string a0_3, .string a0_4, .int .i64 a0_5, .int .i64 a0_6, .string a0_7, .string a0_8, .int .i64 a0_9, .int .i64 a0_10] 45 (0, 0)) (ub_ BK118.out) hb); have n1_ := Aside0.mk (below_step (bes_ GE118.out) hb); clear BK118; clear HB; have BK118 := n0_; have HB := n1_; clear n0_ n1_; (try clear hb); (try clear hb2); (try clear hk); (try clear hi); have hcz30_0 : w29.cell? ⟨gb118, 0, none⟩ = some (.string a0_0) := (blk_cell BK118.out 0).trans rfl; have hcz30_1 : w29.cell? ⟨gb118, 1, none⟩ = some (.bool true) := (blk_cell BK118.out 1).trans rfl; have hcz30_2 : w29.cell? ⟨gb118, 2, none⟩ = some (.bool true) := (blk_cell BK118.out 2).trans rfl; have hcz30_3 : w29.cell? ⟨gb118, 3, none⟩ = some (.string a0_3) := (blk_cell BK118.out 3).trans rfl; have hcz30_4 : w29.cell? ⟨gb118, 4, none⟩ = some (.string a0_4) := (blk_cell BK118.out 4).trans rfl; have hcz30_5 : w29.cell? ⟨gb118, 5, none⟩ = some (.int .i64 a0_5) := (blk_cell BK118.out 5).trans rfl; have hcz30_6 : w29.cell? ⟨gb118, 6, none⟩ = some (.int .i64 a0_6) := (blk_cell BK118.out 6).trans rfl; have hcz30_7 : w29.cell? ⟨gb118, 7, none⟩ = some (.string a0_7) := (blk_cell BK118.out 7).trans rfl; have hcz30_8 : w29.cell? ⟨gb118, 8, none⟩ = some (.string a0_8) := (blk_cell BK118.out 8).trans rfl; have hcz30_9 : w29.cell? ⟨gb118, 9, none⟩ = some (.int .i64 a0_9) := (blk_cell BK118.out 9).trans rfl; have hcz30_10 : w29.cell? ⟨gb118, 10, none⟩ = some (.int .i64 a0_10) := (blk_cell BK118.out 10).trans rfl; have hfz30_0 := blk_frozen BK118.out 0; have hfz30_1 := blk_frozen BK118.out 1; have hfz30_2 := blk_frozen BK118.out 2; have hfz30_3 := blk_frozen BK118.out 3; have hfz30_4 := blk_frozen BK118.out 4; have hfz30_5 := blk_frozen BK118.out 5; have hfz30_6 := blk_frozen BK118.out 6; have hfz30_7 := blk_frozen BK118.out 7; have hfz30_8 := blk_frozen BK118.out 8; have hfz30_9 := blk_frozen BK118.out 9; have hfz30_10 := blk_frozen BK118.out 10))
    go_ret
    exact ⟨er_, bes_ GE118.out⟩
   replace c25 := Bool.eq_false_iff.mpr c25
   subst c25
   have H1 : (some (!false)) = some r := by rw [if_neg (show ¬ (false = true) by decide)] at H; exact H
   clear H
   have H := H1
   clear H1
   obtain rfl := Option.some.inj H
   have hcz31_0 : wc.cell? ⟨gb118, 0, none⟩ = some (.string a0_0) := (blk_cell BK118.out 0).trans rfl
   have hcz31_1 : wc.cell? ⟨gb118, 1, none⟩ = some (.bool true) := (blk_cell BK118.out 1).trans rfl
   have hcz31_2 : wc.cell? ⟨gb118, 2, none⟩ = some (.bool false) := (blk_cell BK118.out 2).trans rfl
   have hcz31_3 : wc.cell? ⟨gb118, 3, none⟩ = some (.string a0_3) := (blk_cell BK118.out 3).trans rfl
   have hcz31_4 : wc.cell? ⟨gb118, 4, none⟩ = some (.string a0_4) := (blk_cell BK118.out 4).trans rfl
   have hcz31_5 : wc.cell? ⟨gb118, 5, none⟩ = some (.int .i64 a0_5) := (blk_cell BK118.out 5).trans rfl
   have hcz31_6 : wc.cell? ⟨gb118, 6, none⟩ = some (.int .i64 a0_6) := (blk_cell BK118.out 6).trans rfl
   have hcz31_7 : wc.cell? ⟨gb118, 7, none⟩ = some (.string a0_7) := (blk_cell BK118.out 7).trans rfl
   have hcz31_8 : wc.cell? ⟨gb118, 8, none⟩ = some (.string a0_8) := (blk_cell BK118.out 8).trans rfl
   have hcz31_9 : wc.cell? ⟨gb118, 9, none⟩ = some (.int .i64 a0_9) := (blk_cell BK118.out 9).trans rfl
   have hcz31_10 : wc.cell? ⟨gb118, 10, none⟩ = some (.int .i64 a0_10) := (blk_cell BK118.out 10).trans rfl
   have hfz31_0 := blk_frozen BK118.out 0
   have hfz31_1 := blk_frozen BK118.out 1
   have hfz31_2 := blk_frozen BK118.out 2
   have hfz31_3 := blk_frozen BK118.out 3
   have hfz31_4 := blk_frozen BK118.out 4
   have hfz31_5 := blk_frozen BK118.out 5
   have hfz31_6 := blk_frozen BK118.out 6
   have hfz31_7 := blk_frozen BK118.out 7
   have hfz31_8 := blk_frozen BK118.out 8
   have hfz31_9 := blk_frozen BK118.out 9
   have hfz31_10 := blk_frozen BK118.out 10
   go_wp2_with (first | ((with_reducible refine gate_callee (f := 44) rfl ?_); refine goesL_ (some 28) rfl rfl Tryz.func44 (by kernel_rfl) rfl #[.string a0_0, .bool true, .agg #[.string a0_3, .string a0_4, .int .i64 a0_5, .int .i64 a0_6]] rfl (mp_) ?_; (with_reducible refine (delta_half.calls a0_0 true a0_3 a0_4 a0_5 a0_6 true _ A20.out).mono ?_); rintro e w32 ⟨rfl, hb⟩; refine ⟨_, rfl, ?_⟩; have n0_ := Aside0.mk (blk_below (g := gb118) (o := .cells #[.string a0_0, .bool true, .bool false, .string a0_3, .string a0_4, .int .i64 a0_5, .int .i64 a0_6, .string a0_7, .string a0_8, .int .i64 a0_9, .int .i64 a0_10] 45 (0, 0)) (ub_ BK118.out) hb); have n1_ := Aside0.mk (below_step (bes_ GE118.out) hb); clear BK118; clear HB; have BK118 := n0_; have HB := n1_; clear n0_ n1_; (try clear hb); (try clear hb2); (try clear hk); (try clear hi); have hcz33_0 : w32.cell? ⟨gb118, 0, none⟩ = some (.string a0_0) := (blk_cell BK118.out 0).trans rfl; have hcz33_1 : w32.cell? ⟨gb118, 1, none⟩ = some (.bool true) := (blk_cell BK118.out 1).trans rfl; have hcz33_2 : w32.cell? ⟨gb118, 2, none⟩ = some (.bool false) := (blk_cell BK118.out 2).trans rfl; have hcz33_3 : w32.cell? ⟨gb118, 3, none⟩ = some (.string a0_3) := (blk_cell BK118.out 3).trans rfl; have hcz33_4 : w32.cell? ⟨gb118, 4, none⟩ = some (.string a0_4) := (blk_cell BK118.out 4).trans rfl; have hcz33_5 : w32.cell? ⟨gb118, 5, none⟩ = some (.int .i64 a0_5) := (blk_cell BK118.out 5).trans rfl; have hcz33_6 : w32.cell? ⟨gb118, 6, none⟩ = some (.int .i64 a0_6) := (blk_cell BK118.out 6).trans rfl; have hcz33_7 : w32.cell? ⟨gb118, 7, none⟩ = some (.string a0_7) := (blk_cell BK118.out 7).trans rfl; have hcz33_8 : w32.cell? ⟨gb118, 8, none⟩ = some (.string a0_8) := (blk_cell BK118.out 8).trans rfl; have hcz33_9 : w32.cell? ⟨gb118, 9, none⟩ = some (.int .i64 a0_9) := (blk_cell BK118.out 9).trans rfl; have hcz33_10 : w32.cell? ⟨gb118, 10, none⟩ = some (.int .i64 a0_10) := (blk_cell BK118.out 10).trans rfl; have hfz33_0 := blk_frozen BK118.out 0; have hfz33_1 := blk_frozen BK118.out 1; have hfz33_2 := blk_frozen BK118.out 2; have hfz33_3 := blk_frozen BK118.out 3; have hfz33_4 := blk_frozen BK118.out 4; have hfz33_5 := blk_frozen BK118.out 5; have hfz33_6 := blk_frozen BK118.out 6; have hfz33_7 := blk_frozen BK118.out 7; have hfz33_8 := blk_frozen BK118.out 8; have hfz33_9 := blk_frozen BK118.out 9; have hfz33_10 := blk_frozen BK118.out 10) | (go_at_call 44; (with_reducible refine (delta_half.calls a0_0 false a0_7 a0_8 a0_9 a0_10 true _ A22.out).mono ?_); rintro e w34 ⟨rfl, hb⟩; have n0_ := Aside0.mk (blk_below (g := gb118) (o := .cells #[.string a0_0, .bool true, .bool false, .string a0_3, .string a0_4, .int .i64 a0_5, .int .i64 a0_6, .string a0_7, .string a0_8, .int .i64 a0_9, .int .i64 a0_10] 45 (0, 0)) (ub_ BK118.out) hb); have n1_ := Aside0.mk (below_step (bes_ GE118.out) hb); clear BK118; clear HB; have BK118 := n0_; have HB := n1_; clear n0_ n1_; (try clear hb); (try clear hb2); (try clear hk); (try clear hi); have hcz35_0 : w34.cell? ⟨gb118, 0, none⟩ = some (.string a0_0) := (blk_cell BK118.out 0).trans rfl; have hcz35_1 : w34.cell? ⟨gb118, 1, none⟩ = some (.bool true) := (blk_cell BK118.out 1).trans rfl; have hcz35_2 : w34.cell? ⟨gb118, 2, none⟩ = some (.bool false) := (blk_cell BK118.out 2).trans rfl; have hcz35_3 : w34.cell? ⟨gb118, 3, none⟩ = some (.string a0_3) := (blk_cell BK118.out 3).trans rfl; have hcz35_4 : w34.cell? ⟨gb118, 4, none⟩ = some (.string a0_4) := (blk_cell BK118.out 4).trans rfl; have hcz35_5 : w34.cell? ⟨gb118, 5, none⟩ = some (.int .i64 a0_5) := (blk_cell BK118.out 5).trans rfl; have hcz35_6 : w34.cell? ⟨gb118, 6, none⟩ = some (.int .i64 a0_6) := (blk_cell BK118.out 6).trans rfl; have hcz35_7 : w34.cell? ⟨gb118, 7, none⟩ = some (.string a0_7) := (blk_cell BK118.out 7).trans rfl; have hcz35_8 : w34.cell? ⟨gb118, 8, none⟩ = some (.string a0_8) := (blk_cell BK118.out 8).trans rfl; have hcz35_9 : w34.cell? ⟨gb118, 9, none⟩ = some (.int .i64 a0_9) := (blk_cell BK118.out 9).trans rfl; have hcz35_10 : w34.cell? ⟨gb118, 10, none⟩ = some (.int .i64 a0_10) := (blk_cell BK118.out 10).trans rfl; have hfz35_0 := blk_frozen BK118.out 0; have hfz35_1 := blk_frozen BK118.out 1; have hfz35_2 := blk_frozen BK118.out 2; have hfz35_3 := blk_frozen BK118.out 3; have hfz35_4 := blk_frozen BK118.out 4; have hfz35_5 := blk_frozen BK118.out 5; have hfz35_6 := blk_frozen BK118.out 6; have hfz35_7 := blk_frozen BK118.out 7; have hfz35_8 := blk_frozen BK118.out 8; have hfz35_9 := blk_frozen BK118.out 9; have hfz35_10 := blk_frozen BK118.out 10))
   go_ret
   exact ⟨er_, bes_ GE118.out⟩
end Go.Proofs.YtehfogjibhnabaaGreatDoor.PAll
