/- What functions of the program compute, each with its walk: a contract for every world and every argument of the kind told. -/
import Derived.Test.YtehfogjibhnabaaGreatDoorDtPAllx0
import Derived.Test.YtehfogjibhnabaaGreatDoorDtHandA
import Derived.Test.YtehfogjibhnabaaGreatDoorDtPAlly13
import Derived.Test.YtehfogjibhnabaaGreatDoorDtDelJ
import Derived.Test.YtehfogjibhnabaaGreatDoorDtPAlly15
import Derived.Test.YtehfogjibhnabaaGreatDoorDtPAlly3
import Derived.Test.YtehfogjibhnabaaGreatDoorDtRowKit
namespace Go.Proofs.YtehfogjibhnabaaGreatDoor.PAll
open Go.RowKit Go.Proofs.YtehfogjibhnabaaGreatDoorW.PrintWords Go.Proofs.YtehfogjibhnabaaGreatDoorW.PrintLast Go.Proofs.YtehfogjibhnabaaGreatDoorW.PrintMore
attribute [local go_sem] max2_int min2_int max_two min_two max_three min_three max_four min_four
set_option linter.unusedVariables false
set_option linter.unusedSimpArgs false
attribute [local go_sem high] eqA43 eqA45
def delta_Paths.l0 : Nat → List ByteArray → List (S45) → Int → Int → Option (List ByteArray)
 | 0, _, _, _, _ => none
 | k + 1, x3, x6, x7, x8 => if x8 < x7 then (if 0 ≤ x8 then (if x8 < (x6.length : Int) then (if x3.length < 8796093022208 then (delta_Paths.l0 k (x3 ++ [(rd_T45 x6 x8).f0]) x6 x7 (wrap64 (x8 + 1))) else (none)) else (none)) else (none)) else (some x3)
def delta_Paths.f (k : Nat) (l0 : List (S45)) : Option (List ByteArray) := delta_Paths.l0 k ([] : List ByteArray) l0 (l0.length : Int) 0
theorem delta_Paths.mono_l : ∀ k, (∀ y0 y1 y2 y3, LeO (delta_Paths.l0 k y0 y1 y2 y3) (delta_Paths.l0 (k + 1) y0 y1 y2 y3))
 | 0 => fun _ _ _ _ r h => by simp [delta_Paths.l0] at h
 | k + 1 => by
  have ih0 := delta_Paths.mono_l k
  ·intro y0 y1 y2 y3
   unfold delta_Paths.l0
   repeat' first
   | (with_reducible exact ih0 _ _ _ _)
   | (with_reducible exact LeO.refl _)
   | (with_reducible exact LeO.none _)
   | (with_reducible refine LeO.ite ?_ ?_)
   | (with_reducible refine LeO.bind ?_ (fun _ => ?_))
   | exact ih0 _ _ _ _
   | exact LeO.none _
   | refine LeO.ite ?_ ?_
   | refine LeO.bind ?_ (fun _ => ?_)
theorem delta_Paths.mono : ∀ a0 k, LeO (delta_Paths.f k a0) (delta_Paths.f (k + 1) a0) := by
 intro a0 k
 have ih0 := delta_Paths.mono_l k
 unfold delta_Paths.f
 repeat' first
   | (with_reducible exact ih0 _ _ _ _)
   | (with_reducible exact LeO.refl _)
   | (with_reducible exact LeO.none _)
   | (with_reducible refine LeO.ite ?_ ?_)
   | (with_reducible refine LeO.bind ?_ (fun _ => ?_))
   | exact ih0 _ _ _ _
   | exact LeO.none _
   | refine LeO.ite ?_ ?_
   | refine LeO.bind ?_ (fun _ => ?_)
set_option maxHeartbeats 8000000 in
set_option maxRecDepth 100000 in
theorem delta_Paths.calls (k : Nat) (A0 : Option Addr) (c0 : Nat) (l0 : List (S45)) (r : List ByteArray) (w : World) (hr0 : Kd.C k45 w A0 l0.length l0) (hc0 : l0.length ≤ c0) (h : delta_Paths.f k l0 = some r) :
  Calls Tryz.prog 15 #[.slice A0 l0.length c0] w fun e w' => ∃ v0_ : Value, e = .returned (v0_) ∧ Kd.R Kd.string 9 w' w.heap.size (fun _ => True) v0_ r ∧ Below w.heap.size w w' := by
 have hu45 := Tryz.underlying45
 have HR0 := Aside0.mk hr0
 have HC0 := Aside0.mk hc0
 clear hr0 hc0
 have HB := Aside0.mk (Below.refl w.heap.size w)
 have H : (delta_Paths.l0 k ([] : List ByteArray) l0 (l0.length : Int) 0) = some r := h
 clear h
 have H' := Aside0.mk H
 clear H
 go_enter Tryz.func15, Tryz.ntmps15
 go_wp2
 go_loopg [3, 8] k (fun kq v3 v8 w' => ∃ (x3_1 : List ByteArray) (x8_1 : Int), v8 = .int .i64 x8_1 ∧ Aside0 (delta_Paths.l0 kq x3_1 l0 (l0.length : Int) x8_1 = some r) ∧ Aside0 (kq ≤ k) ∧ Aside0 (Kd.R Kd.string 9 w' w.heap.size (fun _ => True) v3 x3_1) ∧ Aside0 (Below w.heap.size w w'))
 case atStart => exact ⟨(([] : List ByteArray)), (0), (rf_), H', ⟨Nat.le_refl _⟩, ⟨nl_⟩, ⟨bel_⟩⟩
 case round =>
  clear H'
  try clear c1
  obtain ⟨x3_1, x8_1, rfl, HA, HK1, HO_3, HB⟩ := hrel
  cases gk with
  | zero => exact absurd HA.out (by simp [delta_Paths.l0])
  | succ k1 =>
   have H := HA.out
   clear HA
   simp only [delta_Paths.l0] at H
   by_cases c2 : x8_1 < (l0.length : Int)
   rotate_left
   ·rw [if_neg c2] at H
    have c2b0 := decide_eq_false c2
    clear c2
    obtain rfl := Option.some.inj H
    go_wp2
    go_ret
    exact ⟨_, er_, ur_ HO_3.out, bel_⟩
   rw [if_pos c2] at H
   have c2b0 := decide_eq_true c2
   clear c2
   by_cases c3 : 0 ≤ x8_1
   rotate_left
   ·rw [if_neg c3] at H
    exact absurd H (by simp)
   rw [if_pos c3] at H
   have c3b0 := decide_eq_true c3
   clear c3
   by_cases c4 : x8_1 < (l0.length : Int)
   rotate_left
   ·rw [if_neg c4] at H
    exact absurd H (by simp)
   rw [if_pos c4] at H
   have c4b0 := decide_eq_true c4
   clear c4
   by_cases c5 : x3_1.length < 8796093022208
   rotate_left
   ·rw [if_neg c5] at H
    exact absurd H (by simp)
   rw [if_pos c5] at H
   have LMc5 := Aside0.mk c5
   clear c5
   obtain ⟨y243, hy243⟩ : ∃ y_ : List ByteArray, y_ = (x3_1 ++ [(rd_T45 l0 x8_1).f0]) := ⟨_, rfl⟩
   replace H : (delta_Paths.l0 k1 y243 l0 (l0.length : Int) (wrap64 (x8_1 + 1))) = some r := by first | (rw [hy243]; with_reducible exact H) | (have H2_ := (Option.bind_some _ _).symm.trans H; rw [hy243]; with_reducible exact H2_) | (have H2_ := (Option.bind_some _ _).symm.trans H; with_reducible exact H2_) | with_reducible exact H | (rw [hy243]; exact H) | exact H
   have Ny243 := Aside0.mk hy243
   clear hy243
   have H' := Aside0.mk H
   clear H
   have p241 : 0 ≤ (x8_1 : Int) := of_decide_eq_true (by assumption)
   have q241 : x8_1 < (l0.length : Int) := of_decide_eq_true (by assumption)
   obtain ⟨ad241, e241, hx241_0, hx241_1, hx241_2, hx241_3, hx241_4, hx241_5, hx241_6, hx241_7, hx241_8, hx241_9, hx241_10⟩ := at_T45 HR0.out x8_1 p241 q241
   cases e241
   replace hx241_0 := hk_ HB.out hx241_0
   replace hx241_1 := hk_ HB.out hx241_1
   replace hx241_2 := hk_ HB.out hx241_2
   replace hx241_3 := hk_ HB.out hx241_3
   replace hx241_4 := hk_ HB.out hx241_4
   replace hx241_5 := hk_ HB.out hx241_5
   replace hx241_6 := hk_ HB.out hx241_6
   replace hx241_7 := hk_ HB.out hx241_7
   replace hx241_8 := hk_ HB.out hx241_8
   replace hx241_9 := hk_ HB.out hx241_9
   replace hx241_10 := hk_ HB.out hx241_10
   replace p241 := eq_true p241
   replace q241 := eq_true q241
   go_wp2_with (first | ((with_reducible refine gate_dst (N := 5) rfl ?_); refine box_event ?hg (N := 5) ?hd (cs := #[.string (⟨#[]⟩ : ByteArray), .bool false, .bool false, .string (⟨#[]⟩ : ByteArray), .string (⟨#[]⟩ : ByteArray), .int .i64 0, .int .i64 0, .string (⟨#[]⟩ : ByteArray), .string (⟨#[]⟩ : ByteArray), .int .i64 0, .int .i64 0]) (t := 45) ?hr ?_; (case hd => rfl); (case hg => rfl); (case hr => first | (go_simp; done) | (go_simp; rfl)); intro gb242 hg w6 hbox hb; have n0_ := Aside0.mk (Kd.R_below (ur_ HO_3.out) hb); have n1_ := Aside0.mk (below_step (bel_) hb); have n2_ := Aside0.mk (hbox); have n3_ := Aside0.mk ((by rw [hg]; exact (below_size (bel_)) : w.heap.size ≤ gb242)); have n4_ := Aside0.mk ((by rw [hg]; exact (below_size (bel_)) : w.heap.size ≤ gb242)); clear HO_3; clear HB; have HO_3 := n0_; have HB := n1_; have BK242 := n2_; have GW242 := n3_; have GE242 := n4_; clear n0_ n1_ n2_ n3_ n4_; clear hb hbox hg; have hcz7_0 : w6.cell? ⟨gb242, 0, none⟩ = some (.string (⟨#[]⟩ : ByteArray)) := (blk_cell BK242.out 0).trans rfl; have hcz7_1 : w6.cell? ⟨gb242, 1, none⟩ = some (.bool false) := (blk_cell BK242.out 1).trans rfl; have hcz7_2 : w6.cell? ⟨gb242, 2, none⟩ = some (.bool false) := (blk_cell BK242.out 2).trans rfl; have hcz7_3 : w6.cell? ⟨gb242, 3, none⟩ = some (.string (⟨#[]⟩ : ByteArray)) := (blk_cell BK242.out 3).trans rfl; have hcz7_4 : w6.cell? ⟨gb242, 4, none⟩ = some (.string (⟨#[]⟩ : ByteArray)) := (blk_cell BK242.out 4).trans rfl; have hcz7_5 : w6.cell? ⟨gb242, 5, none⟩ = some (.int .i64 0) := (blk_cell BK242.out 5).trans rfl; have hcz7_6 : w6.cell? ⟨gb242, 6, none⟩ = some (.int .i64 0) := (blk_cell BK242.out 6).trans rfl; have hcz7_7 : w6.cell? ⟨gb242, 7, none⟩ = some (.string (⟨#[]⟩ : ByteArray)) := (blk_cell BK242.out 7).trans rfl; have hcz7_8 : w6.cell? ⟨gb242, 8, none⟩ = some (.string (⟨#[]⟩ : ByteArray)) := (blk_cell BK242.out 8).trans rfl; have hcz7_9 : w6.cell? ⟨gb242, 9, none⟩ = some (.int .i64 0) := (blk_cell BK242.out 9).trans rfl; have hcz7_10 : w6.cell? ⟨gb242, 10, none⟩ = some (.int .i64 0) := (blk_cell BK242.out 10).trans rfl; have hfz7_0 := blk_frozen BK242.out 0; have hfz7_1 := blk_frozen BK242.out 1; have hfz7_2 := blk_frozen BK242.out 2; have hfz7_3 := blk_frozen BK242.out 3; have hfz7_4 := blk_frozen BK242.out 4; have hfz7_5 := blk_frozen BK242.out 5; have hfz7_6 := blk_frozen BK242.out 6; have hfz7_7 := blk_frozen BK242.out 7; have hfz7_8 := blk_frozen BK242.out 8; have hfz7_9 := blk_frozen BK242.out 9; have hfz7_10 := blk_frozen BK242.out 10) | ((with_reducible refine gate_builtin (b := .append) (xs := #[.tmp 12, .tmp 15]) rfl ?_); at_builtin; refine Kd.R_append Kd.string (w0 := w) w.heap.size rfl (.tmp 12) (.tmp 15) 38 9 (.string ⟨#[]⟩) 16 rfl Tryz.underlying38 info9 rfl (by decide) (by omega) u3 x3_1 ((rd_T45 l0 x8_1).f0) [.string ((rd_T45 l0 x8_1).f0)] (fun _ => True) (fun _ => False) rfl (by first | (go_simp; done) | (go_simp; rfl)) ?aP (fun _ hk => hk.elim) ?aF ?aO ?aB ?aS ?aL ?_; (case aP => exact rfl); (case aB => exact (bes_ GE242.out)); (case aF => exact (fun _ _ => trivial)); (case aO => exact (by (with_reducible repeat (first | apply Kd.R_alloc | apply Kd.R_drewN | apply Kd.R_drew)); exact Kd.R_mono (Kd.R_far (p := ⟨gb242, 10, none⟩) (Kd.R_far (p := ⟨gb242, 9, none⟩) (Kd.R_far (p := ⟨gb242, 8, none⟩) (Kd.R_far (p := ⟨gb242, 7, none⟩) (Kd.R_far (p := ⟨gb242, 6, none⟩) (Kd.R_far (p := ⟨gb242, 5, none⟩) (Kd.R_far (p := ⟨gb242, 4, none⟩) (Kd.R_far (p := ⟨gb242, 3, none⟩) (Kd.R_far (p := ⟨gb242, 2, none⟩) (Kd.R_far (p := ⟨gb242, 1, none⟩) (Kd.R_far (p := ⟨gb242, 0, none⟩) (Kd.R_types HO_3.out BK242.out (by decide)) (fun _ hk => hk.2) (.string ((rd_T45 l0 x8_1).f0))) (fun _ hk => hk.2) (.bool ((rd_T45 l0 x8_1).f1))) (fun _ hk => hk.2) (.bool ((rd_T45 l0 x8_1).f2))) (fun _ hk => hk.2) (.string ((rd_T45 l0 x8_1).f3.f0))) (fun _ hk => hk.2) (.string ((rd_T45 l0 x8_1).f3.f1))) (fun _ hk => hk.2) (.int .i64 ((rd_T45 l0 x8_1).f3.f2))) (fun _ hk => hk.2) (.int .i64 ((rd_T45 l0 x8_1).f3.f3))) (fun _ hk => hk.2) (.string ((rd_T45 l0 x8_1).f4.f0))) (fun _ hk => hk.2) (.string ((rd_T45 l0 x8_1).f4.f1))) (fun _ hk => hk.2) (.int .i64 ((rd_T45 l0 x8_1).f4.f2))) (fun _ hk => hk.2) (.int .i64 ((rd_T45 l0 x8_1).f4.f3))) (fun _ hk => trivial))); (case aS => exact (below_size (bes_ GE242.out))); (case aL => have := LMc5.out; omega); intro v244 w8 ho hb hg hat; rw [← Ny243.out] at ho; have n0_ := Aside0.mk (blk_grown (g := gb242) (o := .cells #[.string ((rd_T45 l0 x8_1).f0), .bool ((rd_T45 l0 x8_1).f1), .bool ((rd_T45 l0 x8_1).f2), .string ((rd_T45 l0 x8_1).f3.f0), .string ((rd_T45 l0 x8_1).f3.f1), .int .i64 ((rd_T45 l0 x8_1).f3.f2), .int .i64 ((rd_T45 l0 x8_1).f3.f3), .string ((rd_T45 l0 x8_1).f4.f0), .string ((rd_T45 l0 x8_1).f4.f1), .int .i64 ((rd_T45 l0 x8_1).f4.f2), .int .i64 ((rd_T45 l0 x8_1).f4.f3)] 45 (0, 0)) (by refine ub_ ?_; refine blk_put (cs := #[.string ((rd_T45 l0 x8_1).f0), .bool ((rd_T45 l0 x8_1).f1), .bool ((rd_T45 l0 x8_1).f2), .string ((rd_T45 l0 x8_1).f3.f0), .string ((rd_T45 l0 x8_1).f3.f1), .int .i64 ((rd_T45 l0 x8_1).f3.f2), .int .i64 ((rd_T45 l0 x8_1).f3.f3), .string ((rd_T45 l0 x8_1).f4.f0), .string ((rd_T45 l0 x8_1).f4.f1), .int .i64 ((rd_T45 l0 x8_1).f4.f2), .int .i64 0]) ?_ 10 _ rfl; refine ub_ ?_; refine blk_put (cs := #[.string ((rd_T45 l0 x8_1).f0), .bool ((rd_T45 l0 x8_1).f1), .bool ((rd_T45 l0 x8_1).f2), .string ((rd_T45 l0 x8_1).f3.f0), .string ((rd_T45 l0 x8_1).f3.f1), .int .i64 ((rd_T45 l0 x8_1).f3.f2), .int .i64 ((rd_T45 l0 x8_1).f3.f3), .string ((rd_T45 l0 x8_1).f4.f0), .string ((rd_T45 l0 x8_1).f4.f1), .int .i64 0, .int .i64 0]) ?_ 9 _ rfl; refine ub_ ?_; refine blk_put (cs := #[.string ((rd_T45 l0 x8_1).f0), .bool ((rd_T45 l0 x8_1).f1), .bool ((rd_T45 l0 x8_1).f2), .string ((rd_T45 l0 x8_1).f3.f0), .string ((rd_T45 l0 x8_1).f3.f1), .int .i64 ((rd_T45 l0 x8_1).f3.f2), .int .i64 ((rd_T45 l0 x8_1).f3.f3), .string ((rd_T45 l0 x8_1).f4.f0), .string (⟨#[]⟩ : ByteArray), .int .i64 0, .int .i64 0]) ?_ 8 _ rfl; refine ub_ ?_; refine blk_put (cs := #[.string ((rd_T45 l0 x8_1).f0), .bool ((rd_T45 l0 x8_1).f1), .bool ((rd_T45 l0 x8_1).f2), .string ((rd_T45 l0 x8_1).f3.f0), .string ((rd_T45 l0 x8_1).f3.f1), .int .i64 ((rd_T45 l0 x8_1).f3.f2), .int .i64 ((rd_T45 l0 x8_1).f3.f3), .string (⟨#[]⟩ : ByteArray), .string (⟨#[]⟩ : ByteArray), .int .i64 0, .int .i64 0]) ?_ 7 _ rfl; refine ub_ ?_; refine blk_put (cs := #[.string ((rd_T45 l0 x8_1).f0), .bool ((rd_T45 l0 x8_1).f1), .bool ((rd_T45 l0 x8_1).f2), .string ((rd_T45 l0 x8_1).f3.f0), .string ((rd_T45 l0 x8_1).f3.f1), .int .i64 ((rd_T45 l0 x8_1).f3.f2), .int .i64 0, .string (⟨#[]⟩ : ByteArray), .string (⟨#[]⟩ : ByteArray), .int .i64 0, .int .i64 0]) ?_ 6 _ rfl; refine ub_ ?_; refine blk_put (cs := #[.string ((rd_T45 l0 x8_1).f0), .bool ((rd_T45 l0 x8_1).f1), .bool ((rd_T45 l0 x8_1).f2), .string ((rd_T45 l0 x8_1).f3.f0), .string ((rd_T45 l0 x8_1).f3.f1), .int .i64 0, .int .i64 0, .string (⟨#[]⟩ : ByteArray), .string (⟨#[]⟩ : ByteArray), .int .i64 0, .int .i64 0]) ?_ 5 _ rfl; refine ub_ ?_; refine blk_put (cs := #[.string ((rd_T45 l0 x8_1).f0), .bool ((rd_T45 l0 x8_1).f1), .bool ((rd_T45 l0 x8_1).f2), .string ((rd_T45 l0 x8_1).f3.f0), .string (⟨#[]⟩ : ByteArray), .int .i64 0, .int .i64 0, .string (⟨#[]⟩ : ByteArray), .string (⟨#[]⟩ : ByteArray), .int .i64 0, .int .i64 0]) ?_ 4 _ rfl; refine ub_ ?_; refine blk_put (cs := #[.string ((rd_T45 l0 x8_1).f0), .bool ((rd_T45 l0 x8_1).f1), .bool ((rd_T45 l0 x8_1).f2), .string (⟨#[]⟩ : ByteArray), .string (⟨#[]⟩ : ByteArray), .int .i64 0, .int .i64 0, .string (⟨#[]⟩ : ByteArray), .string (⟨#[]⟩ : ByteArray), .int .i64 0, .int .i64 0]) ?_ 3 _ rfl; refine ub_ ?_; refine blk_put (cs := #[.string ((rd_T45 l0 x8_1).f0), .bool ((rd_T45 l0 x8_1).f1), .bool false, .string (⟨#[]⟩ : ByteArray), .string (⟨#[]⟩ : ByteArray), .int .i64 0, .int .i64 0, .string (⟨#[]⟩ : ByteArray), .string (⟨#[]⟩ : ByteArray), .int .i64 0, .int .i64 0]) ?_ 2 _ rfl; refine ub_ ?_; refine blk_put (cs := #[.string ((rd_T45 l0 x8_1).f0), .bool false, .bool false, .string (⟨#[]⟩ : ByteArray), .string (⟨#[]⟩ : ByteArray), .int .i64 0, .int .i64 0, .string (⟨#[]⟩ : ByteArray), .string (⟨#[]⟩ : ByteArray), .int .i64 0, .int .i64 0]) ?_ 1 _ rfl; refine ub_ ?_; refine blk_put (cs := #[.string (⟨#[]⟩ : ByteArray), .bool false, .bool false, .string (⟨#[]⟩ : ByteArray), .string (⟨#[]⟩ : ByteArray), .int .i64 0, .int .i64 0, .string (⟨#[]⟩ : ByteArray), .string (⟨#[]⟩ : ByteArray), .int .i64 0, .int .i64 0]) ?_ 0 _ rfl; refine ub_ ?_; exact BK242.out) hg (Kd.R_ne HO_3.out BK242.out (by decide))); have n1_ := Aside0.mk (hb); have n2_ := Aside0.mk (ho); clear BK242; clear HB; clear HO_3; have BK242 := n0_; have HB := n1_; have HO245 := n2_; clear n0_ n1_ n2_; clear ho hb hg hat))
   go_roundg k1
   case measure => have := HK1.out; omega
   case rel => exact ⟨(y243), (wrap64 (x8_1 + 1)), (rf_), H', ⟨by have := HK1.out; omega⟩, ⟨ur_ HO245.out⟩, ⟨bes_ GE242.out⟩⟩
def copselaw06_files.l0 : Nat → List (S43) → List (S43) → Int → Option (Bool)
 | 0, _, _, _ => none
 | k + 1, x0, x1, x5 => if x5 < (x0.length : Int) then (if 0 ≤ x5 then (if x5 < (x1.length : Int) then (if (!((((rd_T43 x0 x5).f0).toList) == (((rd_T43 x1 x5).f0).toList)) || (!((((rd_T43 x0 x5).f1).toList) == (((rd_T43 x1 x5).f1).toList)) || (!(((rd_T43 x0 x5).f2) == ((rd_T43 x1 x5).f2)) || (!(((rd_T43 x0 x5).f3) == ((rd_T43 x1 x5).f3)))))) = true then (some false) else (copselaw06_files.l0 k x0 x1 (wrap64 (x5 + 1)))) else (none)) else (none)) else (some true)
def copselaw06_files.f (k : Nat) (l0 : List (S43)) (l1 : List (S43)) : Option (Bool) := if (l0.length : Int) = (l1.length : Int) then (copselaw06_files.l0 k l0 l1 0) else (some false)
theorem copselaw06_files.mono_l : ∀ k, (∀ y0 y1 y2, LeO (copselaw06_files.l0 k y0 y1 y2) (copselaw06_files.l0 (k + 1) y0 y1 y2))
 | 0 => fun _ _ _ r h => by simp [copselaw06_files.l0] at h
 | k + 1 => by
  have ih0 := copselaw06_files.mono_l k
  ·intro y0 y1 y2
   unfold copselaw06_files.l0
   repeat' first
   | (with_reducible exact ih0 _ _ _)
   | (with_reducible exact LeO.refl _)
   | (with_reducible exact LeO.none _)
   | (with_reducible refine LeO.ite ?_ ?_)
   | (with_reducible refine LeO.bind ?_ (fun _ => ?_))
   | exact ih0 _ _ _
   | exact LeO.none _
   | refine LeO.ite ?_ ?_
   | refine LeO.bind ?_ (fun _ => ?_)
theorem copselaw06_files.mono : ∀ a0 a1 k, LeO (copselaw06_files.f k a0 a1) (copselaw06_files.f (k + 1) a0 a1) := by
 intro a0 a1 k
 have ih0 := copselaw06_files.mono_l k
 unfold copselaw06_files.f
 repeat' first
   | (with_reducible exact ih0 _ _ _)
   | (with_reducible exact LeO.refl _)
   | (with_reducible exact LeO.none _)
   | (with_reducible refine LeO.ite ?_ ?_)
   | (with_reducible refine LeO.bind ?_ (fun _ => ?_))
   | exact ih0 _ _ _
   | exact LeO.none _
   | refine LeO.ite ?_ ?_
   | refine LeO.bind ?_ (fun _ => ?_)
set_option maxHeartbeats 8000000 in
set_option maxRecDepth 100000 in
theorem copselaw06_files.calls (k : Nat) (A0 : Option Addr) (c0 : Nat) (l0 : List (S43)) (A1 : Option Addr) (c1 : Nat) (l1 : List (S43)) (r : Bool) (w : World) (hr0 : Kd.C k43 w A0 l0.length l0) (hc0 : l0.length ≤ c0) (hr1 : Kd.C k43 w A1 l1.length l1) (hc1 : l1.length ≤ c1) (h : copselaw06_files.f k l0 l1 = some r) :
  Calls Tryz.prog 16 #[.slice A0 l0.length c0, .slice A1 l1.length c1] w fun e w' => e = .returned (.bool r) ∧ Drawn0 w w' := by
 have hu43 := Tryz.underlying43
 have HR0 := Aside0.mk hr0
 have HC0 := Aside0.mk hc0
 clear hr0 hc0
 have HR1 := Aside0.mk hr1
 have HC1 := Aside0.mk hc1
 clear hr1 hc1
 have H : (if (l0.length : Int) = (l1.length : Int) then (copselaw06_files.l0 k l0 l1 0) else (some false)) = some r := h
 clear h
 by_cases c3 : (l0.length : Int) = (l1.length : Int)
 rotate_left
 ·rw [if_neg c3] at H
  have c3b0 : ((l0.length : Int) == (l1.length : Int)) = false := beq_eq_false_iff_ne.mpr c3
  have c3b1 : ((l0.length : Int) != (l1.length : Int)) = true := bne_iff_ne.mpr c3
  have c3b2 : (l0.length == l1.length) = false := by first | simpa using c3 | (simp at c3 ⊢; omega)
  obtain rfl := Option.some.inj H
  go_enter Tryz.func16, Tryz.ntmps16
  go_wp2
  repeat (go_quiet (fail); try go_wp2)
  go_ret
  exact ⟨rf_, dr_⟩
 rw [if_pos c3] at H
 have c3b0 : ((l0.length : Int) == (l1.length : Int)) = true := beq_iff_eq.mpr c3
 have c3b1 : ((l0.length : Int) != (l1.length : Int)) = false := bne_eq_false_iff_eq.mpr c3
 have c3b2 : (l0.length == l1.length) = true := by first | simpa using c3 | (simp at c3 ⊢; omega)
 clear c3
 have H' := Aside0.mk H
 clear H
 go_enter Tryz.func16, Tryz.ntmps16
 go_wp2
 repeat (go_quiet (fail); try go_wp2)
 go_loopg [5] k (fun kq v5 w' => ∃ (x5_1 : Int), v5 = .int .i64 x5_1 ∧ Aside0 (copselaw06_files.l0 kq l0 l1 x5_1 = some r) ∧ Aside0 (kq ≤ k) ∧ Drawn0 w w')
 case atStart => exact ⟨(0), (rf_), H', ⟨Nat.le_refl _⟩, dr_⟩
 case round =>
  clear H'
  try clear c1
  try clear p2
  try clear c3
  try clear c3b0
  try clear c3b1
  try clear c3b2
  obtain ⟨x5_1, rfl, HA, HK1, ⟨m1, rfl⟩⟩ := hrel
  cases gk with
  | zero => exact absurd HA.out (by simp [copselaw06_files.l0])
  | succ k1 =>
   have H := HA.out
   clear HA
   simp only [copselaw06_files.l0] at H
   by_cases c4 : x5_1 < (l0.length : Int)
   rotate_left
   ·rw [if_neg c4] at H
    have c4b0 := decide_eq_false c4
    clear c4
    obtain rfl := Option.some.inj H
    go_wp2
    repeat (go_quiet (fail); try go_wp2)
    go_ret
    exact ⟨rf_, dr_⟩
   rw [if_pos c4] at H
   have c4b0 := decide_eq_true c4
   clear c4
   by_cases c5 : 0 ≤ x5_1
   rotate_left
   ·rw [if_neg c5] at H
    exact absurd H (by simp)
   rw [if_pos c5] at H
   have c5b0 := decide_eq_true c5
   clear c5
   by_cases c6 : x5_1 < (l1.length : Int)
   rotate_left
   ·rw [if_neg c6] at H
    exact absurd H (by simp)
   rw [if_pos c6] at H
   have c6b0 := decide_eq_true c6
   clear c6
   by_cases c7 : (!((((rd_T43 l0 x5_1).f0).toList) == (((rd_T43 l1 x5_1).f0).toList)) || (!((((rd_T43 l0 x5_1).f1).toList) == (((rd_T43 l1 x5_1).f1).toList)) || (!(((rd_T43 l0 x5_1).f2) == ((rd_T43 l1 x5_1).f2)) || (!(((rd_T43 l0 x5_1).f3) == ((rd_T43 l1 x5_1).f3)))))) = true
   ·rw [if_pos c7] at H
    have c7b0 : (!((((rd_T43 l0 x5_1).f0).toList) == (((rd_T43 l1 x5_1).f0).toList)) || (!((((rd_T43 l0 x5_1).f1).toList) == (((rd_T43 l1 x5_1).f1).toList)) || (!(((rd_T43 l0 x5_1).f2) == ((rd_T43 l1 x5_1).f2)) || (!(((rd_T43 l0 x5_1).f3) == ((rd_T43 l1 x5_1).f3)))))) = true := c7
    clear c7
    obtain rfl := Option.some.inj H
    have p246 : 0 ≤ (x5_1 : Int) := of_decide_eq_true (by assumption)
    have q246 : x5_1 < (l0.length : Int) := of_decide_eq_true (by assumption)
    obtain ⟨ad246, e246, hx246_0, hx246_1, hx246_2, hx246_3⟩ := at_T43 HR0.out x5_1 p246 q246
    cases e246
    replace p246 := eq_true p246
    replace q246 := eq_true q246
    have p247 : 0 ≤ (x5_1 : Int) := of_decide_eq_true (by assumption)
    have q247 : x5_1 < (l1.length : Int) := of_decide_eq_true (by assumption)
    obtain ⟨ad247, e247, hx247_0, hx247_1, hx247_2, hx247_3⟩ := at_T43 HR1.out x5_1 p247 q247
    cases e247
    replace p247 := eq_true p247
    replace q247 := eq_true q247
    go_wp2
    repeat (go_quiet (fail); try go_wp2)
    go_ret
    exact ⟨rf_, dr_⟩
   rw [if_neg c7] at H
   have c7b0 : (!((((rd_T43 l0 x5_1).f0).toList) == (((rd_T43 l1 x5_1).f0).toList)) || (!((((rd_T43 l0 x5_1).f1).toList) == (((rd_T43 l1 x5_1).f1).toList)) || (!(((rd_T43 l0 x5_1).f2) == ((rd_T43 l1 x5_1).f2)) || (!(((rd_T43 l0 x5_1).f3) == ((rd_T43 l1 x5_1).f3)))))) = false := by simpa using c7
   clear c7
   have H' := Aside0.mk H
   clear H
   have p246 : 0 ≤ (x5_1 : Int) := of_decide_eq_true (by assumption)
   have q246 : x5_1 < (l0.length : Int) := of_decide_eq_true (by assumption)
   obtain ⟨ad246, e246, hx246_0, hx246_1, hx246_2, hx246_3⟩ := at_T43 HR0.out x5_1 p246 q246
   cases e246
   replace p246 := eq_true p246
   replace q246 := eq_true q246
   have p247 : 0 ≤ (x5_1 : Int) := of_decide_eq_true (by assumption)
   have q247 : x5_1 < (l1.length : Int) := of_decide_eq_true (by assumption)
   obtain ⟨ad247, e247, hx247_0, hx247_1, hx247_2, hx247_3⟩ := at_T43 HR1.out x5_1 p247 q247
   cases e247
   replace p247 := eq_true p247
   replace q247 := eq_true q247
   go_wp2
   repeat (go_quiet (fail); try go_wp2)
   go_roundg k1
   case measure => have := HK1.out; omega
   case rel => exact ⟨(wrap64 (x5_1 + 1)), (rf_), H', ⟨by have := HK1.out; omega⟩, dr_⟩
def copselaw06_num.f (a0 : Int) : Option (Int) := some a0
set_option maxHeartbeats 8000000 in
set_option maxRecDepth 100000 in
theorem copselaw06_num.calls (a0 : Int) (r : Int) (w : World) (h : copselaw06_num.f a0 = some r) :
  Calls Tryz.prog 19 #[.int .i64 a0] w fun e w' => e = .returned (.int .i64 r) ∧ Drawn0 w w' := by
 have H : (some a0) = some r := h
 clear h
 obtain rfl := Option.some.inj H
 go_enter Tryz.func19, Tryz.ntmps19
 go_wp2
 go_ret
 exact ⟨rf_, dr_⟩
def copselaw06_texts.l0 : Nat → List ByteArray → List ByteArray → Int → Option (Bool)
 | 0, _, _, _ => none
 | k + 1, x0, x1, x5 => if x5 < (x0.length : Int) then (if 0 ≤ x5 then (if x5 < (x1.length : Int) then (if (rdOf ByteArray.empty x0 x5).toList = (rdOf ByteArray.empty x1 x5).toList then (copselaw06_texts.l0 k x0 x1 (wrap64 (x5 + 1))) else (some false)) else (none)) else (none)) else (some true)
def copselaw06_texts.f (k : Nat) (l0 : List ByteArray) (l1 : List ByteArray) : Option (Bool) := if (l0.length : Int) = (l1.length : Int) then (copselaw06_texts.l0 k l0 l1 0) else (some false)
theorem copselaw06_texts.mono_l : ∀ k, (∀ y0 y1 y2, LeO (copselaw06_texts.l0 k y0 y1 y2) (copselaw06_texts.l0 (k + 1) y0 y1 y2))
 | 0 => fun _ _ _ r h => by simp [copselaw06_texts.l0] at h
 | k + 1 => by
  have ih0 := copselaw06_texts.mono_l k
  ·intro y0 y1 y2
   unfold copselaw06_texts.l0
   repeat' first
   | (with_reducible exact ih0 _ _ _)
   | (with_reducible exact LeO.refl _)
   | (with_reducible exact LeO.none _)
   | (with_reducible refine LeO.ite ?_ ?_)
   | (with_reducible refine LeO.bind ?_ (fun _ => ?_))
   | exact ih0 _ _ _
   | exact LeO.none _
   | refine LeO.ite ?_ ?_
   | refine LeO.bind ?_ (fun _ => ?_)
theorem copselaw06_texts.mono : ∀ a0 a1 k, LeO (copselaw06_texts.f k a0 a1) (copselaw06_texts.f (k + 1) a0 a1) := by
 intro a0 a1 k
 have ih0 := copselaw06_texts.mono_l k
 unfold copselaw06_texts.f
 repeat' first
   | (with_reducible exact ih0 _ _ _)
   | (with_reducible exact LeO.refl _)
   | (with_reducible exact LeO.none _)
   | (with_reducible refine LeO.ite ?_ ?_)
   | (with_reducible refine LeO.bind ?_ (fun _ => ?_))
   | exact ih0 _ _ _
   | exact LeO.none _
   | refine LeO.ite ?_ ?_
   | refine LeO.bind ?_ (fun _ => ?_)
set_option maxHeartbeats 8000000 in
set_option maxRecDepth 100000 in
theorem copselaw06_texts.calls (k : Nat) (A0 : Option Addr) (c0 : Nat) (l0 : List ByteArray) (A1 : Option Addr) (c1 : Nat) (l1 : List ByteArray) (r : Bool) (w : World) (hr0 : Kd.C Kd.string w A0 l0.length l0) (hc0 : l0.length ≤ c0) (hr1 : Kd.C Kd.string w A1 l1.length l1) (hc1 : l1.length ≤ c1) (h : copselaw06_texts.f k l0 l1 = some r) :
  Calls Tryz.prog 21 #[.slice A0 l0.length c0, .slice A1 l1.length c1] w fun e w' => e = .returned (.bool r) ∧ Drawn0 w w' := by
 have HR0 := Aside0.mk hr0
 have HC0 := Aside0.mk hc0
 clear hr0 hc0
 have HR1 := Aside0.mk hr1
 have HC1 := Aside0.mk hc1
 clear hr1 hc1
 have H : (if (l0.length : Int) = (l1.length : Int) then (copselaw06_texts.l0 k l0 l1 0) else (some false)) = some r := h
 clear h
 by_cases c3 : (l0.length : Int) = (l1.length : Int)
 rotate_left
 ·rw [if_neg c3] at H
  have c3b0 : ((l0.length : Int) == (l1.length : Int)) = false := beq_eq_false_iff_ne.mpr c3
  have c3b1 : ((l0.length : Int) != (l1.length : Int)) = true := bne_iff_ne.mpr c3
  have c3b2 : (l0.length == l1.length) = false := by first | simpa using c3 | (simp at c3 ⊢; omega)
  obtain rfl := Option.some.inj H
  go_enter Tryz.func21, Tryz.ntmps21
  go_wp2
  repeat (go_quiet (fail); try go_wp2)
  go_ret
  exact ⟨rf_, dr_⟩
 rw [if_pos c3] at H
 have c3b0 : ((l0.length : Int) == (l1.length : Int)) = true := beq_iff_eq.mpr c3
 have c3b1 : ((l0.length : Int) != (l1.length : Int)) = false := bne_eq_false_iff_eq.mpr c3
 have c3b2 : (l0.length == l1.length) = true := by first | simpa using c3 | (simp at c3 ⊢; omega)
 clear c3
 have H' := Aside0.mk H
 clear H
 go_enter Tryz.func21, Tryz.ntmps21
 go_wp2
 repeat (go_quiet (fail); try go_wp2)
 go_loopg [5] k (fun kq v5 w' => ∃ (x5_1 : Int), v5 = .int .i64 x5_1 ∧ Aside0 (copselaw06_texts.l0 kq l0 l1 x5_1 = some r) ∧ Aside0 (kq ≤ k) ∧ Drawn0 w w')
 case atStart => exact ⟨(0), (rf_), H', ⟨Nat.le_refl _⟩, dr_⟩
 case round =>
  clear H'
  try clear c1
  try clear c2
  try clear p2
  try clear c3
  try clear c3b0
  try clear c3b1
  try clear c3b2
  obtain ⟨x5_1, rfl, HA, HK1, ⟨m1, rfl⟩⟩ := hrel
  cases gk with
  | zero => exact absurd HA.out (by simp [copselaw06_texts.l0])
  | succ k1 =>
   have H := HA.out
   clear HA
   simp only [copselaw06_texts.l0] at H
   by_cases c4 : x5_1 < (l0.length : Int)
   rotate_left
   ·rw [if_neg c4] at H
    have c4b0 := decide_eq_false c4
    clear c4
    obtain rfl := Option.some.inj H
    go_wp2
    repeat (go_quiet (fail); try go_wp2)
    go_ret
    exact ⟨rf_, dr_⟩
   rw [if_pos c4] at H
   have c4b0 := decide_eq_true c4
   clear c4
   by_cases c5 : 0 ≤ x5_1
   rotate_left
   ·rw [if_neg c5] at H
    exact absurd H (by simp)
   rw [if_pos c5] at H
   have c5b0 := decide_eq_true c5
   clear c5
   by_cases c6 : x5_1 < (l1.length : Int)
   rotate_left
   ·rw [if_neg c6] at H
    exact absurd H (by simp)
   rw [if_pos c6] at H
   have c6b0 := decide_eq_true c6
   clear c6
   by_cases c7 : (rdOf ByteArray.empty l0 x5_1).toList = (rdOf ByteArray.empty l1 x5_1).toList
   ·rw [if_pos c7] at H
    have c7b0 : ((rdOf ByteArray.empty l0 x5_1).toList == (rdOf ByteArray.empty l1 x5_1).toList) = true := beq_iff_eq.mpr c7
    have c7b1 : ((rdOf ByteArray.empty l0 x5_1).toList != (rdOf ByteArray.empty l1 x5_1).toList) = false := bne_eq_false_iff_eq.mpr c7
    clear c7
    have H' := Aside0.mk H
    clear H
    have p248 : 0 ≤ (x5_1 : Int) := of_decide_eq_true (by assumption)
    have q248 : x5_1 < (l0.length : Int) := of_decide_eq_true (by assumption)
    obtain ⟨ad248, e248, hx248_0⟩ := Kd.at_string HR0.out x5_1 p248 q248
    cases e248
    replace p248 := eq_true p248
    replace q248 := eq_true q248
    have p249 : 0 ≤ (x5_1 : Int) := of_decide_eq_true (by assumption)
    have q249 : x5_1 < (l1.length : Int) := of_decide_eq_true (by assumption)
    obtain ⟨ad249, e249, hx249_0⟩ := Kd.at_string HR1.out x5_1 p249 q249
    cases e249
    replace p249 := eq_true p249
    replace q249 := eq_true q249
    go_wp2
    repeat (go_quiet (fail); try go_wp2)
    go_roundg k1
    case measure => have := HK1.out; omega
    case rel => exact ⟨(wrap64 (x5_1 + 1)), (rf_), H', ⟨by have := HK1.out; omega⟩, dr_⟩
   rw [if_neg c7] at H
   have c7b0 : ((rdOf ByteArray.empty l0 x5_1).toList == (rdOf ByteArray.empty l1 x5_1).toList) = false := beq_eq_false_iff_ne.mpr c7
   have c7b1 : ((rdOf ByteArray.empty l0 x5_1).toList != (rdOf ByteArray.empty l1 x5_1).toList) = true := bne_iff_ne.mpr c7
   obtain rfl := Option.some.inj H
   have p248 : 0 ≤ (x5_1 : Int) := of_decide_eq_true (by assumption)
   have q248 : x5_1 < (l0.length : Int) := of_decide_eq_true (by assumption)
   obtain ⟨ad248, e248, hx248_0⟩ := Kd.at_string HR0.out x5_1 p248 q248
   cases e248
   replace p248 := eq_true p248
   replace q248 := eq_true q248
   have p249 : 0 ≤ (x5_1 : Int) := of_decide_eq_true (by assumption)
   have q249 : x5_1 < (l1.length : Int) := of_decide_eq_true (by assumption)
   obtain ⟨ad249, e249, hx249_0⟩ := Kd.at_string HR1.out x5_1 p249 q249
   cases e249
   replace p249 := eq_true p249
   replace q249 := eq_true q249
   go_wp2
   repeat (go_quiet (fail); try go_wp2)
   go_ret
   exact ⟨rf_, dr_⟩
def snap_Find.l0 : Nat → ByteArray → List (S43) → Int → Int → Option (ByteArray × ByteArray × Int × Int × Bool)
 | 0, _, _, _, _ => none
 | k + 1, x1, x8, x9, x10 => if x10 < x9 then (if 0 ≤ x10 then (if x10 < (x8.length : Int) then (if ((rd_T43 x8 x10).f0).toList = x1.toList then (some ((rd_T43 x8 x10).f0, (rd_T43 x8 x10).f1, (rd_T43 x8 x10).f2, (rd_T43 x8 x10).f3, true)) else (snap_Find.l0 k x1 x8 x9 (wrap64 (x10 + 1)))) else (none)) else (none)) else (some ((⟨#[]⟩ : ByteArray), (⟨#[]⟩ : ByteArray), 0, 0, false))
def snap_Find.f (k : Nat) (l0 : List (S43)) (a1 : ByteArray) : Option (ByteArray × ByteArray × Int × Int × Bool) := snap_Find.l0 k a1 l0 (l0.length : Int) 0
set_option maxHeartbeats 8000000 in
set_option maxRecDepth 100000 in
theorem snap_Find.calls (k : Nat) (A0 : Option Addr) (c0 : Nat) (l0 : List (S43)) (a1 : ByteArray) (r1 : ByteArray) (r2 : ByteArray) (r3 : Int) (r4 : Int) (r5 : Bool) (w : World) (hr0 : Kd.C k43 w A0 l0.length l0) (hc0 : l0.length ≤ c0) (h : snap_Find.f k l0 a1 = some (r1, r2, r3, r4, r5)) :
  Calls Tryz.prog 31 #[.slice A0 l0.length c0, .string a1] w fun e w' => e = .returned (.tuple #[.agg #[.string r1, .string r2, .int .i64 r3, .int .i64 r4], .bool r5]) ∧ Below w.heap.size w w' := by
 have hu43 := Tryz.underlying43
 have HR0 := Aside0.mk hr0
 have HC0 := Aside0.mk hc0
 clear hr0 hc0
 have HB := Aside0.mk (Below.refl w.heap.size w)
 have H : (snap_Find.l0 k a1 l0 (l0.length : Int) 0) = some (r1, r2, r3, r4, r5) := h
 clear h
 have H' := Aside0.mk H
 clear H
 go_enter Tryz.func31, Tryz.ntmps31
 go_wp2_with (first | ((with_reducible refine gate_dst (N := 4) rfl ?_); refine box_event ?hg (N := 4) ?hd (cs := #[.string (⟨#[]⟩ : ByteArray), .string (⟨#[]⟩ : ByteArray), .int .i64 0, .int .i64 0]) (t := 43) ?hr ?_; (case hd => rfl); (case hg => rfl); (case hr => first | (go_simp; done) | (go_simp; rfl)); intro gb299 hg w3 hbox hb; have n0_ := Aside0.mk (below_step (bel_) hb); have n1_ := Aside0.mk (hbox); have n2_ := Aside0.mk ((by rw [hg]; exact (below_size (bel_)) : w.heap.size ≤ gb299)); have n3_ := Aside0.mk ((by rw [hg]; exact (below_size (bel_)) : w.heap.size ≤ gb299)); clear HB; have HB := n0_; have BK299 := n1_; have GW299 := n2_; have GE299 := n3_; clear n0_ n1_ n2_ n3_; clear hb hbox hg))
 go_loopg [10] k (fun kq v10 w' => ∃ (x10_1 : Int) (x300000_1 : ByteArray) (x300001_1 : ByteArray) (x300002_1 : Int) (x300003_1 : Int), v10 = .int .i64 x10_1 ∧ Aside0 (snap_Find.l0 kq a1 l0 (l0.length : Int) x10_1 = some (r1, r2, r3, r4, r5)) ∧ Aside0 (kq ≤ k) ∧ Aside0 (w'.heap[gb299]? = some (.cells #[.string x300000_1, .string x300001_1, .int .i64 x300002_1, .int .i64 x300003_1] 43 (0, 0))) ∧ Aside0 (Below w.heap.size w w'))
 case atStart => exact ⟨(0), ((⟨#[]⟩ : ByteArray)), ((⟨#[]⟩ : ByteArray)), (0), (0), (rf_), H', ⟨Nat.le_refl _⟩, ⟨ub_ BK299.out⟩, ⟨bes_ GE299.out⟩⟩
 case round =>
  clear H'
  try clear p2
  try clear c3
  obtain ⟨x10_1, x300000_1, x300001_1, x300002_1, x300003_1, rfl, HA, HK1, BK299, HB⟩ := hrel
  cases gk with
  | zero => exact absurd HA.out (by simp [snap_Find.l0])
  | succ k1 =>
   have H := HA.out
   clear HA
   simp only [snap_Find.l0] at H
   by_cases c4 : x10_1 < (l0.length : Int)
   rotate_left
   ·rw [if_neg c4] at H
    have c4b0 := decide_eq_false c4
    clear c4
    simp only [Option.some.injEq, Prod.mk.injEq] at H
    obtain ⟨rfl, rfl, rfl, rfl, rfl⟩ := H
    have hcz15_0 : wr.cell? ⟨gb299, 0, none⟩ = some (.string x300000_1) := (blk_cell BK299.out 0).trans rfl
    have hcz15_1 : wr.cell? ⟨gb299, 1, none⟩ = some (.string x300001_1) := (blk_cell BK299.out 1).trans rfl
    have hcz15_2 : wr.cell? ⟨gb299, 2, none⟩ = some (.int .i64 x300002_1) := (blk_cell BK299.out 2).trans rfl
    have hcz15_3 : wr.cell? ⟨gb299, 3, none⟩ = some (.int .i64 x300003_1) := (blk_cell BK299.out 3).trans rfl
    have hfz15_0 := blk_frozen BK299.out 0
    have hfz15_1 := blk_frozen BK299.out 1
    have hfz15_2 := blk_frozen BK299.out 2
    have hfz15_3 := blk_frozen BK299.out 3
    go_wp2
    refine bodyPost_ret (results_ct rfl _ _ gb299 43 #[.string (⟨#[]⟩ : ByteArray), .string (⟨#[]⟩ : ByteArray), .int .i64 0, .int .i64 0] (0, 0) _ rfl (by refine ub_ ?_; refine blk_put (cs := #[.string (⟨#[]⟩ : ByteArray), .string (⟨#[]⟩ : ByteArray), .int .i64 0, .int .i64 x300003_1]) ?_ 3 _ rfl; refine ub_ ?_; refine blk_put (cs := #[.string (⟨#[]⟩ : ByteArray), .string (⟨#[]⟩ : ByteArray), .int .i64 x300002_1, .int .i64 x300003_1]) ?_ 2 _ rfl; refine ub_ ?_; refine blk_put (cs := #[.string (⟨#[]⟩ : ByteArray), .string x300001_1, .int .i64 x300002_1, .int .i64 x300003_1]) ?_ 1 _ rfl; refine ub_ ?_; refine blk_put (cs := #[.string x300000_1, .string x300001_1, .int .i64 x300002_1, .int .i64 x300003_1]) ?_ 0 _ rfl; refine ub_ ?_; exact BK299.out) Tryz.underlying43 rfl (by kernel_rfl)) rfl ?_
    exact ⟨er_, bes_ GE299.out⟩
   rw [if_pos c4] at H
   have c4b0 := decide_eq_true c4
   clear c4
   by_cases c5 : 0 ≤ x10_1
   rotate_left
   ·rw [if_neg c5] at H
    exact absurd H (by simp)
   rw [if_pos c5] at H
   have c5b0 := decide_eq_true c5
   clear c5
   by_cases c6 : x10_1 < (l0.length : Int)
   rotate_left
   ·rw [if_neg c6] at H
    exact absurd H (by simp)
   rw [if_pos c6] at H
   have c6b0 := decide_eq_true c6
   clear c6
   by_cases c7 : ((rd_T43 l0 x10_1).f0).toList = a1.toList
   ·rw [if_pos c7] at H
    have c7b0 : (((rd_T43 l0 x10_1).f0).toList == a1.toList) = true := beq_iff_eq.mpr c7
    have c7b1 : (((rd_T43 l0 x10_1).f0).toList != a1.toList) = false := bne_eq_false_iff_eq.mpr c7
    clear c7
    simp only [Option.some.injEq, Prod.mk.injEq] at H
    obtain ⟨rfl, rfl, rfl, rfl, rfl⟩ := H
    have p300 : 0 ≤ (x10_1 : Int) := of_decide_eq_true (by assumption)
    have q300 : x10_1 < (l0.length : Int) := of_decide_eq_true (by assumption)
    obtain ⟨ad300, e300, hx300_0, hx300_1, hx300_2, hx300_3⟩ := at_T43 HR0.out x10_1 p300 q300
    cases e300
    replace hx300_0 := hk_ HB.out hx300_0
    replace hx300_1 := hk_ HB.out hx300_1
    replace hx300_2 := hk_ HB.out hx300_2
    replace hx300_3 := hk_ HB.out hx300_3
    replace p300 := eq_true p300
    replace q300 := eq_true q300
    go_wp2_with (first | ((with_reducible refine gate_dst (N := 7) rfl ?_); refine box_event ?hg (N := 7) ?hd (cs := #[.string (⟨#[]⟩ : ByteArray), .string (⟨#[]⟩ : ByteArray), .int .i64 0, .int .i64 0]) (t := 43) ?hr ?_; (case hd => rfl); (case hg => rfl); (case hr => first | (go_simp; done) | (go_simp; rfl)); intro gb301 hg w8 hbox hb; have n0_ := Aside0.mk (blk_below (g := gb299) (o := .cells #[.string x300000_1, .string x300001_1, .int .i64 x300002_1, .int .i64 x300003_1] 43 (0, 0)) (ub_ BK299.out) hb); have n1_ := Aside0.mk (below_step (bes_ GE299.out) hb); have n2_ := Aside0.mk (hbox); have n3_ := Aside0.mk ((by rw [hg]; exact (below_size (bes_ GE299.out)) : w.heap.size ≤ gb301)); have n4_ := Aside0.mk ((by rw [hg]; exact (below_size (bes_ GE299.out)) : w.heap.size ≤ gb301)); have n5_ := Aside0.mk ((by rw [hg]; exact Nat.ne_of_lt (blk_lt (g := gb299) (o := .cells #[.string x300000_1, .string x300001_1, .int .i64 x300002_1, .int .i64 x300003_1] 43 (0, 0)) (ub_ BK299.out)) : gb299 ≠ gb301)); have n6_ := Aside0.mk ((by rw [hg]; exact Nat.ne_of_gt (blk_lt (g := gb299) (o := .cells #[.string x300000_1, .string x300001_1, .int .i64 x300002_1, .int .i64 x300003_1] 43 (0, 0)) (ub_ BK299.out)) : gb301 ≠ gb299)); clear BK299; clear HB; have BK299 := n0_; have HB := n1_; have BK301 := n2_; have GW301 := n3_; have GE301 := n4_; have NB299_301 := n5_; have NB301_299 := n6_; clear n0_ n1_ n2_ n3_ n4_ n5_ n6_; clear hb hbox hg; have hnb9 := NB301_299.out; have hnc9 := NB299_301.out; have hcz10_0 : w8.cell? ⟨gb301, 0, none⟩ = some (.string (⟨#[]⟩ : ByteArray)) := (blk_cell BK301.out 0).trans rfl; have hcz10_1 : w8.cell? ⟨gb301, 1, none⟩ = some (.string (⟨#[]⟩ : ByteArray)) := (blk_cell BK301.out 1).trans rfl; have hcz10_2 : w8.cell? ⟨gb301, 2, none⟩ = some (.int .i64 0) := (blk_cell BK301.out 2).trans rfl; have hcz10_3 : w8.cell? ⟨gb301, 3, none⟩ = some (.int .i64 0) := (blk_cell BK301.out 3).trans rfl; have hfz10_0 := blk_frozen BK301.out 0; have hfz10_1 := blk_frozen BK301.out 1; have hfz10_2 := blk_frozen BK301.out 2; have hfz10_3 := blk_frozen BK301.out 3; have hcz11_0 : w8.cell? ⟨gb299, 0, none⟩ = some (.string x300000_1) := (blk_cell BK299.out 0).trans rfl; have hcz11_1 : w8.cell? ⟨gb299, 1, none⟩ = some (.string x300001_1) := (blk_cell BK299.out 1).trans rfl; have hcz11_2 : w8.cell? ⟨gb299, 2, none⟩ = some (.int .i64 x300002_1) := (blk_cell BK299.out 2).trans rfl; have hcz11_3 : w8.cell? ⟨gb299, 3, none⟩ = some (.int .i64 x300003_1) := (blk_cell BK299.out 3).trans rfl; have hfz11_0 := blk_frozen BK299.out 0; have hfz11_1 := blk_frozen BK299.out 1; have hfz11_2 := blk_frozen BK299.out 2; have hfz11_3 := blk_frozen BK299.out 3))
    refine bodyPost_ret (results_ct rfl _ _ gb299 43 #[.string ((rd_T43 l0 x10_1).f0), .string ((rd_T43 l0 x10_1).f1), .int .i64 ((rd_T43 l0 x10_1).f2), .int .i64 ((rd_T43 l0 x10_1).f3)] (0, 0) _ rfl (by refine ub_ ?_; refine blk_put (cs := #[.string ((rd_T43 l0 x10_1).f0), .string ((rd_T43 l0 x10_1).f1), .int .i64 ((rd_T43 l0 x10_1).f2), .int .i64 x300003_1]) ?_ 3 _ rfl; refine ub_ ?_; refine blk_put (cs := #[.string ((rd_T43 l0 x10_1).f0), .string ((rd_T43 l0 x10_1).f1), .int .i64 x300002_1, .int .i64 x300003_1]) ?_ 2 _ rfl; refine ub_ ?_; refine blk_put (cs := #[.string ((rd_T43 l0 x10_1).f0), .string x300001_1, .int .i64 x300002_1, .int .i64 x300003_1]) ?_ 1 _ rfl; refine ub_ ?_; refine blk_put (cs := #[.string x300000_1, .string x300001_1, .int .i64 x300002_1, .int .i64 x300003_1]) ?_ 0 _ rfl; refine ub_ ?_; refine blk_far ?_ NB299_301.out _; refine ub_ ?_; refine blk_far ?_ NB299_301.out _; refine ub_ ?_; refine blk_far ?_ NB299_301.out _; refine ub_ ?_; refine blk_far ?_ NB299_301.out _; refine ub_ ?_; exact BK299.out) Tryz.underlying43 rfl (by kernel_rfl)) rfl ?_
    exact ⟨er_, by repeat (first | (with_reducible first | exact HB.out | apply below_alloc | apply pw_below_drewN | apply below_drew1 | refine below_set ?_ GE299.out | refine below_set ?_ GE301.out) | exact HB.out)⟩
   rw [if_neg c7] at H
   have c7b0 : (((rd_T43 l0 x10_1).f0).toList == a1.toList) = false := beq_eq_false_iff_ne.mpr c7
   have c7b1 : (((rd_T43 l0 x10_1).f0).toList != a1.toList) = true := bne_iff_ne.mpr c7
   have H' := Aside0.mk H
   clear H
   have p300 : 0 ≤ (x10_1 : Int) := of_decide_eq_true (by assumption)
   have q300 : x10_1 < (l0.length : Int) := of_decide_eq_true (by assumption)
   obtain ⟨ad300, e300, hx300_0, hx300_1, hx300_2, hx300_3⟩ := at_T43 HR0.out x10_1 p300 q300
   cases e300
   replace hx300_0 := hk_ HB.out hx300_0
   replace hx300_1 := hk_ HB.out hx300_1
   replace hx300_2 := hk_ HB.out hx300_2
   replace hx300_3 := hk_ HB.out hx300_3
   replace p300 := eq_true p300
   replace q300 := eq_true q300
   go_wp2_with (first | ((with_reducible refine gate_dst (N := 7) rfl ?_); refine box_event ?hg (N := 7) ?hd (cs := #[.string (⟨#[]⟩ : ByteArray), .string (⟨#[]⟩ : ByteArray), .int .i64 0, .int .i64 0]) (t := 43) ?hr ?_; (case hd => rfl); (case hg => rfl); (case hr => first | (go_simp; done) | (go_simp; rfl)); intro gb301 hg w12 hbox hb; have n0_ := Aside0.mk (blk_below (g := gb299) (o := .cells #[.string x300000_1, .string x300001_1, .int .i64 x300002_1, .int .i64 x300003_1] 43 (0, 0)) (ub_ BK299.out) hb); have n1_ := Aside0.mk (below_step (bes_ GE299.out) hb); have n2_ := Aside0.mk (hbox); have n3_ := Aside0.mk ((by rw [hg]; exact (below_size (bes_ GE299.out)) : w.heap.size ≤ gb301)); have n4_ := Aside0.mk ((by rw [hg]; exact (below_size (bes_ GE299.out)) : w.heap.size ≤ gb301)); have n5_ := Aside0.mk ((by rw [hg]; exact Nat.ne_of_lt (blk_lt (g := gb299) (o := .cells #[.string x300000_1, .string x300001_1, .int .i64 x300002_1, .int .i64 x300003_1] 43 (0, 0)) (ub_ BK299.out)) : gb299 ≠ gb301)); have n6_ := Aside0.mk ((by rw [hg]; exact Nat.ne_of_gt (blk_lt (g := gb299) (o := .cells #[.string x300000_1, .string x300001_1, .int .i64 x300002_1, .int .i64 x300003_1] 43 (0, 0)) (ub_ BK299.out)) : gb301 ≠ gb299)); clear BK299; clear HB; have BK299 := n0_; have HB := n1_; have BK301 := n2_; have GW301 := n3_; have GE301 := n4_; have NB299_301 := n5_; have NB301_299 := n6_; clear n0_ n1_ n2_ n3_ n4_ n5_ n6_; clear hb hbox hg; have hnb13 := NB301_299.out; have hnc13 := NB299_301.out; have hcz14_0 : w12.cell? ⟨gb301, 0, none⟩ = some (.string (⟨#[]⟩ : ByteArray)) := (blk_cell BK301.out 0).trans rfl; have hcz14_1 : w12.cell? ⟨gb301, 1, none⟩ = some (.string (⟨#[]⟩ : ByteArray)) := (blk_cell BK301.out 1).trans rfl; have hcz14_2 : w12.cell? ⟨gb301, 2, none⟩ = some (.int .i64 0) := (blk_cell BK301.out 2).trans rfl; have hcz14_3 : w12.cell? ⟨gb301, 3, none⟩ = some (.int .i64 0) := (blk_cell BK301.out 3).trans rfl; have hfz14_0 := blk_frozen BK301.out 0; have hfz14_1 := blk_frozen BK301.out 1; have hfz14_2 := blk_frozen BK301.out 2; have hfz14_3 := blk_frozen BK301.out 3))
   go_roundg k1
   case measure => have := HK1.out; omega
   case rel => exact ⟨(wrap64 (x10_1 + 1)), (x300000_1), (x300001_1), (x300002_1), (x300003_1), (rf_), H', ⟨by have := HK1.out; omega⟩, ⟨by refine ub_ ?_; refine blk_far ?_ NB299_301.out _; refine ub_ ?_; refine blk_far ?_ NB299_301.out _; refine ub_ ?_; refine blk_far ?_ NB299_301.out _; refine ub_ ?_; refine blk_far ?_ NB299_301.out _; refine ub_ ?_; exact BK299.out⟩, ⟨by repeat (first | (with_reducible first | exact HB.out | apply below_alloc | apply pw_below_drewN | apply below_drew1 | refine below_set ?_ GE299.out | refine below_set ?_ GE301.out) | exact HB.out)⟩⟩
def copselaw06_changes.l0 : Nat → List (S45) → List (S45) → Int → Option (Bool)
 | 0, _, _, _ => none
 | k + 1, x0, x1, x5 => if x5 < (x0.length : Int) then (if 0 ≤ x5 then (if x5 < (x1.length : Int) then (if (!((((rd_T45 x0 x5).f0).toList) == (((rd_T45 x1 x5).f0).toList)) || (!(((rd_T45 x0 x5).f1) == ((rd_T45 x1 x5).f1)) || (!(((rd_T45 x0 x5).f2) == ((rd_T45 x1 x5).f2)) || ((!((((rd_T45 x0 x5).f3.f0).toList) == (((rd_T45 x1 x5).f3.f0).toList)) || (!((((rd_T45 x0 x5).f3.f1).toList) == (((rd_T45 x1 x5).f3.f1).toList)) || (!(((rd_T45 x0 x5).f3.f2) == ((rd_T45 x1 x5).f3.f2)) || (!(((rd_T45 x0 x5).f3.f3) == ((rd_T45 x1 x5).f3.f3)))))) || ((!((((rd_T45 x0 x5).f4.f0).toList) == (((rd_T45 x1 x5).f4.f0).toList)) || (!((((rd_T45 x0 x5).f4.f1).toList) == (((rd_T45 x1 x5).f4.f1).toList)) || (!(((rd_T45 x0 x5).f4.f2) == ((rd_T45 x1 x5).f4.f2)) || (!(((rd_T45 x0 x5).f4.f3) == ((rd_T45 x1 x5).f4.f3))))))))))) = true then (some false) else (copselaw06_changes.l0 k x0 x1 (wrap64 (x5 + 1)))) else (none)) else (none)) else (some true)
def copselaw06_changes.f (k : Nat) (l0 : List (S45)) (l1 : List (S45)) : Option (Bool) := if (l0.length : Int) = (l1.length : Int) then (copselaw06_changes.l0 k l0 l1 0) else (some false)
set_option maxHeartbeats 8000000 in
set_option maxRecDepth 100000 in
theorem copselaw06_changes.calls (k : Nat) (A0 : Option Addr) (c0 : Nat) (l0 : List (S45)) (A1 : Option Addr) (c1 : Nat) (l1 : List (S45)) (r : Bool) (w : World) (hr0 : Kd.C k45 w A0 l0.length l0) (hc0 : l0.length ≤ c0) (hr1 : Kd.C k45 w A1 l1.length l1) (hc1 : l1.length ≤ c1) (h : copselaw06_changes.f k l0 l1 = some r) :
  Calls Tryz.prog 17 #[.slice A0 l0.length c0, .slice A1 l1.length c1] w fun e w' => e = .returned (.bool r) ∧ Drawn0 w w' := by
 have hu45 := Tryz.underlying45
 have HR0 := Aside0.mk hr0
 have HC0 := Aside0.mk hc0
 clear hr0 hc0
 have HR1 := Aside0.mk hr1
 have HC1 := Aside0.mk hc1
 clear hr1 hc1
 have H : (if (l0.length : Int) = (l1.length : Int) then (copselaw06_changes.l0 k l0 l1 0) else (some false)) = some r := h
 clear h
 by_cases c3 : (l0.length : Int) = (l1.length : Int)
 rotate_left
 ·rw [if_neg c3] at H
  have c3b0 : ((l0.length : Int) == (l1.length : Int)) = false := beq_eq_false_iff_ne.mpr c3
  have c3b1 : ((l0.length : Int) != (l1.length : Int)) = true := bne_iff_ne.mpr c3
  have c3b2 : (l0.length == l1.length) = false := by first | simpa using c3 | (simp at c3 ⊢; omega)
  obtain rfl := Option.some.inj H
  go_enter Tryz.func17, Tryz.ntmps17
  go_wp2
  repeat (go_quiet (fail); try go_wp2)
  go_ret
  exact ⟨rf_, dr_⟩
 rw [if_pos c3] at H
 have c3b0 : ((l0.length : Int) == (l1.length : Int)) = true := beq_iff_eq.mpr c3
 have c3b1 : ((l0.length : Int) != (l1.length : Int)) = false := bne_eq_false_iff_eq.mpr c3
 have c3b2 : (l0.length == l1.length) = true := by first | simpa using c3 | (simp at c3 ⊢; omega)
 clear c3
 have H' := Aside0.mk H
 clear H
 go_enter Tryz.func17, Tryz.ntmps17
 go_wp2
 repeat (go_quiet (fail); try go_wp2)
 go_loopg [5] k (fun kq v5 w' => ∃ (x5_1 : Int), v5 = .int .i64 x5_1 ∧ Aside0 (copselaw06_changes.l0 kq l0 l1 x5_1 = some r) ∧ Aside0 (kq ≤ k) ∧ Drawn0 w w')
 case atStart => exact ⟨(0), (rf_), H', ⟨Nat.le_refl _⟩, dr_⟩
 case round =>
  clear H'
  try clear c1
  try clear p2
  try clear c3
  try clear c3b0
  try clear c3b1
  try clear c3b2
  obtain ⟨x5_1, rfl, HA, HK1, ⟨m1, rfl⟩⟩ := hrel
  cases gk with
  | zero => exact absurd HA.out (by simp [copselaw06_changes.l0])
  | succ k1 =>
   have H := HA.out
   clear HA
   simp only [copselaw06_changes.l0] at H
   by_cases c4 : x5_1 < (l0.length : Int)
   rotate_left
   ·rw [if_neg c4] at H
    have c4b0 := decide_eq_false c4
    clear c4
    obtain rfl := Option.some.inj H
    go_wp2
    repeat (go_quiet (fail); try go_wp2)
    go_ret
    exact ⟨rf_, dr_⟩
   rw [if_pos c4] at H
   have c4b0 := decide_eq_true c4
   clear c4
   by_cases c5 : 0 ≤ x5_1
   rotate_left
   ·rw [if_neg c5] at H
    exact absurd H (by simp)
   rw [if_pos c5] at H
   have c5b0 := decide_eq_true c5
   clear c5
   by_cases c6 : x5_1 < (l1.length : Int)
   rotate_left
   ·rw [if_neg c6] at H
    exact absurd H (by simp)
   rw [if_pos c6] at H
   have c6b0 := decide_eq_true c6
   clear c6
   by_cases c7 : (!((((rd_T45 l0 x5_1).f0).toList) == (((rd_T45 l1 x5_1).f0).toList)) || (!(((rd_T45 l0 x5_1).f1) == ((rd_T45 l1 x5_1).f1)) || (!(((rd_T45 l0 x5_1).f2) == ((rd_T45 l1 x5_1).f2)) || ((!((((rd_T45 l0 x5_1).f3.f0).toList) == (((rd_T45 l1 x5_1).f3.f0).toList)) || (!((((rd_T45 l0 x5_1).f3.f1).toList) == (((rd_T45 l1 x5_1).f3.f1).toList)) || (!(((rd_T45 l0 x5_1).f3.f2) == ((rd_T45 l1 x5_1).f3.f2)) || (!(((rd_T45 l0 x5_1).f3.f3) == ((rd_T45 l1 x5_1).f3.f3)))))) || ((!((((rd_T45 l0 x5_1).f4.f0).toList) == (((rd_T45 l1 x5_1).f4.f0).toList)) || (!((((rd_T45 l0 x5_1).f4.f1).toList) == (((rd_T45 l1 x5_1).f4.f1).toList)) || (!(((rd_T45 l0 x5_1).f4.f2) == ((rd_T45 l1 x5_1).f4.f2)) || (!(((rd_T45 l0 x5_1).f4.f3) == ((rd_T45 l1 x5_1).f4.f3))))))))))) = true
   ·rw [if_pos c7] at H
    have c7b0 : (!((((rd_T45 l0 x5_1).f0).toList) == (((rd_T45 l1 x5_1).f0).toList)) || (!(((rd_T45 l0 x5_1).f1) == ((rd_T45 l1 x5_1).f1)) || (!(((rd_T45 l0 x5_1).f2) == ((rd_T45 l1 x5_1).f2)) || ((!((((rd_T45 l0 x5_1).f3.f0).toList) == (((rd_T45 l1 x5_1).f3.f0).toList)) || (!((((rd_T45 l0 x5_1).f3.f1).toList) == (((rd_T45 l1 x5_1).f3.f1).toList)) || (!(((rd_T45 l0 x5_1).f3.f2) == ((rd_T45 l1 x5_1).f3.f2)) || (!(((rd_T45 l0 x5_1).f3.f3) == ((rd_T45 l1 x5_1).f3.f3)))))) || ((!((((rd_T45 l0 x5_1).f4.f0).toList) == (((rd_T45 l1 x5_1).f4.f0).toList)) || (!((((rd_T45 l0 x5_1).f4.f1).toList) == (((rd_T45 l1 x5_1).f4.f1).toList)) || (!(((rd_T45 l0 x5_1).f4.f2) == ((rd_T45 l1 x5_1).f4.f2)) || (!(((rd_T45 l0 x5_1).f4.f3) == ((rd_T45 l1 x5_1).f4.f3))))))))))) = true := c7
    clear c7
    obtain rfl := Option.some.inj H
    have p285 : 0 ≤ (x5_1 : Int) := of_decide_eq_true (by assumption)
    have q285 : x5_1 < (l0.length : Int) := of_decide_eq_true (by assumption)
    obtain ⟨ad285, e285, hx285_0, hx285_1, hx285_2, hx285_3, hx285_4, hx285_5, hx285_6, hx285_7, hx285_8, hx285_9, hx285_10⟩ := at_T45 HR0.out x5_1 p285 q285
    cases e285
    replace p285 := eq_true p285
    replace q285 := eq_true q285
    have p286 : 0 ≤ (x5_1 : Int) := of_decide_eq_true (by assumption)
    have q286 : x5_1 < (l1.length : Int) := of_decide_eq_true (by assumption)
    obtain ⟨ad286, e286, hx286_0, hx286_1, hx286_2, hx286_3, hx286_4, hx286_5, hx286_6, hx286_7, hx286_8, hx286_9, hx286_10⟩ := at_T45 HR1.out x5_1 p286 q286
    cases e286
    replace p286 := eq_true p286
    replace q286 := eq_true q286
    go_wp2
    repeat (go_quiet (fail); try go_wp2)
    go_ret
    exact ⟨rf_, dr_⟩
   rw [if_neg c7] at H
   have c7b0 : (!((((rd_T45 l0 x5_1).f0).toList) == (((rd_T45 l1 x5_1).f0).toList)) || (!(((rd_T45 l0 x5_1).f1) == ((rd_T45 l1 x5_1).f1)) || (!(((rd_T45 l0 x5_1).f2) == ((rd_T45 l1 x5_1).f2)) || ((!((((rd_T45 l0 x5_1).f3.f0).toList) == (((rd_T45 l1 x5_1).f3.f0).toList)) || (!((((rd_T45 l0 x5_1).f3.f1).toList) == (((rd_T45 l1 x5_1).f3.f1).toList)) || (!(((rd_T45 l0 x5_1).f3.f2) == ((rd_T45 l1 x5_1).f3.f2)) || (!(((rd_T45 l0 x5_1).f3.f3) == ((rd_T45 l1 x5_1).f3.f3)))))) || ((!((((rd_T45 l0 x5_1).f4.f0).toList) == (((rd_T45 l1 x5_1).f4.f0).toList)) || (!((((rd_T45 l0 x5_1).f4.f1).toList) == (((rd_T45 l1 x5_1).f4.f1).toList)) || (!(((rd_T45 l0 x5_1).f4.f2) == ((rd_T45 l1 x5_1).f4.f2)) || (!(((rd_T45 l0 x5_1).f4.f3) == ((rd_T45 l1 x5_1).f4.f3))))))))))) = false := by simpa using c7
   clear c7
   have H' := Aside0.mk H
   clear H
   have p285 : 0 ≤ (x5_1 : Int) := of_decide_eq_true (by assumption)
   have q285 : x5_1 < (l0.length : Int) := of_decide_eq_true (by assumption)
   obtain ⟨ad285, e285, hx285_0, hx285_1, hx285_2, hx285_3, hx285_4, hx285_5, hx285_6, hx285_7, hx285_8, hx285_9, hx285_10⟩ := at_T45 HR0.out x5_1 p285 q285
   cases e285
   replace p285 := eq_true p285
   replace q285 := eq_true q285
   have p286 : 0 ≤ (x5_1 : Int) := of_decide_eq_true (by assumption)
   have q286 : x5_1 < (l1.length : Int) := of_decide_eq_true (by assumption)
   obtain ⟨ad286, e286, hx286_0, hx286_1, hx286_2, hx286_3, hx286_4, hx286_5, hx286_6, hx286_7, hx286_8, hx286_9, hx286_10⟩ := at_T45 HR1.out x5_1 p286 q286
   cases e286
   replace p286 := eq_true p286
   replace q286 := eq_true q286
   go_wp2
   repeat (go_quiet (fail); try go_wp2)
   go_roundg k1
   case measure => have := HK1.out; omega
   case rel => exact ⟨(wrap64 (x5_1 + 1)), (rf_), H', ⟨by have := HK1.out; omega⟩, dr_⟩
open Go.Proofs.YtehfogjibhnabaaGreatDoor.Sp
theorem paths06_run (x : List S45) (hx : x.length ≤ 1073741824) (d : Nat) : ∀ (i : Nat) (acc : List ByteArray), x.length - i = d → i ≤ x.length → acc.length = i → Ev (fun k => delta_Paths.l0 k acc x (x.length : Int) (i : Int)) (acc ++ (x.drop i).map S45.f0) := by
 induction d with
 | zero =>
  intro i acc hd hi ha
  refine ⟨1, fun k hk => ?_⟩
  obtain ⟨k, rfl⟩ : ∃ m, k = m + 1 := ⟨k - 1, by omega⟩
  simp only [delta_Paths.l0]
  rw [if_neg (by omega), List.drop_of_length_le (by omega)]
  simp
 | succ d ih =>
  intro i acc hd hi ha
  have hlt : i < x.length := by omega
  obtain ⟨K, hK⟩ := ih (i + 1) (acc ++ [(rd_T45 x (i : Int)).f0]) (by omega) (by omega) (by simp [ha])
  dsimp only at hK
  refine ⟨K + 1, fun k hk => ?_⟩
  obtain ⟨k, rfl⟩ : ∃ m, k = m + 1 := ⟨k - 1, by omega⟩
  simp only [delta_Paths.l0]
  rw [if_pos (by omega), if_pos (by omega), if_pos (by omega), if_pos (by omega), wrap_succ (n := x.length) (by omega) (by omega), hK k (by omega), rdC_drop x i hlt]
  simp
theorem paths06 (x : List S45) (hx : x.length ≤ 1073741824) : Ev (fun k => delta_Paths.f k x) (x.map S45.f0) :=
 Ev.val (paths06_run x hx _ 0 [] rfl (by omega) rfl) (by simp)
def foundF (o : Option S43) : ByteArray × ByteArray × Int × Int × Bool := match o with
 | some x => (x.f0, x.f1, x.f2, x.f3, true)
 | none => (⟨#[]⟩, ⟨#[]⟩, 0, 0, false)
theorem rdF06_drop (l : List S43) (i : Nat) (h : i < l.length) : l.drop i = rd_T43 l (i : Int) :: l.drop (i + 1) := by
 unfold rd_T43
 rw [Int.toNat_natCast, List.getD_eq_getElem?_getD, List.getElem?_eq_getElem h]
 exact List.drop_eq_getElem_cons h
theorem find06_run (l : List S43) (p : ByteArray) (hl : l.length ≤ 1073741824) (d : Nat) : ∀ i, l.length - i = d → i ≤ l.length → Ev (fun k => snap_Find.l0 k p l (l.length : Int) (i : Int)) (foundF (atK S43.f0 (l.drop i) p)) := by
 induction d with
 | zero =>
  intro i hd hi
  refine ⟨1, fun k hk => ?_⟩
  obtain ⟨k, rfl⟩ : ∃ m, k = m + 1 := ⟨k - 1, by omega⟩
  simp only [snap_Find.l0]
  rw [if_neg (by omega), List.drop_of_length_le (by omega)]; rfl
 | succ d ih =>
  intro i hd hi
  have hlt : i < l.length := by omega
  obtain ⟨K, hK⟩ := ih (i + 1) (by omega) (by omega)
  dsimp only at hK
  refine ⟨K + 1, fun k hk => ?_⟩
  obtain ⟨k, rfl⟩ : ∃ m, k = m + 1 := ⟨k - 1, by omega⟩
  simp only [snap_Find.l0]
  rw [if_pos (by omega), if_pos (by omega), if_pos (by omega), rdF06_drop l i hlt, atK_cons]
  by_cases h : (rd_T43 l (i : Int)).f0 = p
  ·rw [if_pos (by rw [h]), if_pos h]
   rfl
  rw [if_neg (fun e => h (bs_inj (by rw [← toList_bs, ← toList_bs]; exact e))), if_neg h, wrap_succ (n := l.length) (by omega) (by omega), hK k (by omega)]
theorem find06 (l : List S43) (p : ByteArray) (hl : l.length ≤ 1073741824) : Ev (fun k => snap_Find.f k l p) (foundF (atK S43.f0 l p)) := find06_run l p hl _ 0 rfl (by omega)
theorem neF (x y : S43) : (!(x.f0.toList == y.f0.toList) || (!(x.f1.toList == y.f1.toList) || (!(x.f2 == y.f2) || (!(x.f3 == y.f3))))) = !eqF x y := by
 unfold eqF
 simp only [Bool.not_and]
theorem files06_run (a b : List S43) (ha : a.length ≤ 1073741824) (hab : a.length = b.length) (d : Nat) : ∀ i, a.length - i = d → i ≤ a.length → ∃ r, Ev (fun k => copselaw06_files.l0 k a b (i : Int)) r ∧ (r = true ↔ a.drop i = b.drop i) := by
 induction d with
 | zero =>
  intro i hd hi
  refine ⟨true, ⟨1, fun k hk => ?_⟩, by rw [List.drop_of_length_le (by omega), List.drop_of_length_le (by omega)]; simp⟩
  obtain ⟨k, rfl⟩ : ∃ m, k = m + 1 := ⟨k - 1, by omega⟩
  simp only [copselaw06_files.l0]
  rw [if_neg (by omega)]
 | succ d ih =>
  intro i hd hi
  have hlt : i < a.length := by omega
  obtain ⟨r, ⟨K, hK⟩, hr⟩ := ih (i + 1) (by omega) (by omega)
  dsimp only at hK
  rw [rdF06_drop a i hlt, rdF06_drop b i (by omega)]
  by_cases h : rd_T43 a (i : Int) = rd_T43 b (i : Int)
  ·refine ⟨r, ⟨K + 1, fun k hk => ?_⟩, by rw [hr, h]; simp⟩
   obtain ⟨k, rfl⟩ : ∃ m, k = m + 1 := ⟨k - 1, by omega⟩
   simp only [copselaw06_files.l0]
   rw [if_pos (by omega), if_pos (by omega), if_pos (by omega), neF, h, eqF_self, if_neg (by simp), wrap_succ (n := a.length) (by omega) (by omega)]
   exact hK k (by omega)
  refine ⟨false, ⟨1, fun k hk => ?_⟩, by simp [h]⟩
  obtain ⟨k, rfl⟩ : ∃ m, k = m + 1 := ⟨k - 1, by omega⟩
  simp only [copselaw06_files.l0]
  rw [if_pos (by omega), if_pos (by omega), if_pos (by omega), neF, eqF_ne h, if_pos (show (!false) = true from rfl)]
theorem files06 (a b : List S43) (ha : a.length ≤ 1073741824) : ∃ r, Ev (fun k => copselaw06_files.f k a b) r ∧ (r = true ↔ a = b) := by
 by_cases h : a.length = b.length
 ·obtain ⟨r, h1, h2⟩ := files06_run a b ha h a.length 0 (by omega) (by omega)
  refine ⟨r, Ev.congr (fun k => ?_) h1, by simpa using h2⟩
  unfold copselaw06_files.f
  rw [if_pos (by omega)]; rfl
 refine ⟨false, Ev.congr (fun k => ?_) (ev_some false), by simp; intro e; exact h (by rw [e])⟩
 unfold copselaw06_files.f
 rw [if_neg (by omega)]
theorem files06_same (a : List S43) (ha : a.length ≤ 1073741824) : Ev (fun k => copselaw06_files.f k a a) true := by
 obtain ⟨r, h1, h2⟩ := files06 a a ha
 rw [h2.2 rfl] at h1
 exact h1
theorem changes06_run (a : List S45) (ha : a.length ≤ 1073741824) (d : Nat) : ∀ i, a.length - i = d → i ≤ a.length → Ev (fun k => copselaw06_changes.l0 k a a (i : Int)) true := by
 induction d with
 | zero =>
  intro i hd hi
  refine ⟨1, fun k hk => ?_⟩
  obtain ⟨k, rfl⟩ : ∃ m, k = m + 1 := ⟨k - 1, by omega⟩
  simp only [copselaw06_changes.l0]
  rw [if_neg (by omega)]
 | succ d ih =>
  intro i hd hi
  obtain ⟨K, hK⟩ := ih (i + 1) (by omega) (by omega)
  dsimp only at hK
  refine ⟨K + 1, fun k hk => ?_⟩
  obtain ⟨k, rfl⟩ : ∃ m, k = m + 1 := ⟨k - 1, by omega⟩
  simp only [copselaw06_changes.l0]
  rw [if_pos (by omega), if_pos (by omega), if_pos (by omega), if_neg (by simp), wrap_succ (n := a.length) (by omega) (by omega)]
  exact hK k (by omega)
theorem changes06_same (a : List S45) (ha : a.length ≤ 1073741824) : Ev (fun k => copselaw06_changes.f k a a) true := by
 refine Ev.congr (fun k => ?_) (changes06_run a ha a.length 0 (by omega) (by omega))
 unfold copselaw06_changes.f
 rw [if_pos rfl]; rfl
def diffD (a b : List S43) : List S45 := joinK S45.f0 idleC outerC (a.length + b.length) (a.map goneC) (b.map comeC)
theorem z_fits : z43.f0.size ≤ 1073741824 ∧ z43.f1.size ≤ 1073741824 := by decide
theorem fits_gone {a : List S43} (h : FitsF a) : FitsD (a.map goneC) := fun c hc => by
 obtain ⟨f, hf, rfl⟩ := List.mem_map.1 hc
 exact ⟨(h f hf).1, ⟨(h f hf).1, (h f hf).2⟩, z_fits.1, z_fits.2⟩
theorem fits_come {a : List S43} (h : FitsF a) : FitsD (a.map comeC) := fun c hc => by
 obtain ⟨f, hf, rfl⟩ := List.mem_map.1 hc
 exact ⟨(h f hf).1, z_fits, (h f hf).1, (h f hf).2⟩
theorem joined06 (k : Nat) (d e : List S45) (q : Bool) (hd : d.length ≤ 4194304) (he : e.length ≤ 4194304) (fd : FitsD d) (fe : FitsD e) : delta_joined.f k d e q = some (joinK S45.f0 idleC outerC (d.length + e.length) d e) := by
 unfold delta_joined.f
 rw [if_pos ⟨⟨hd, he⟩, fd, fe⟩]
theorem diff06_l1 (a : List S45) (b : List S43) (ha : a.length ≤ 4194304) (fa : FitsD a) (hb : b.length ≤ 4194304) (fb : FitsF b) (d : Nat) : ∀ (i : Nat) (acc : List S45), b.length - i = d → i ≤ b.length → acc = (b.take i).map comeC → Ev (fun k => delta_Diff.l1 k a acc b (b.length : Int) (i : Int)) (joinK S45.f0 idleC outerC (a.length + b.length) a (b.map comeC)) := by
 induction d with
 | zero =>
  intro i acc hd hi hacc
  refine ⟨1, fun k hk => ?_⟩
  obtain ⟨k, rfl⟩ : ∃ m, k = m + 1 := ⟨k - 1, by omega⟩
  simp only [delta_Diff.l1]
  rw [if_neg (by omega), hacc, List.take_of_length_le (by omega), joined06 k a _ true ha (by simpa using hb) fa (fits_come fb), Option.bind_some, List.length_map]
 | succ d ih =>
  intro i acc hd hi hacc
  have hlt : i < b.length := by omega
  obtain ⟨K, hK⟩ := ih (i + 1) (acc ++ [comeC (rd_T43 b (i : Int))]) (by omega) (by omega) (by
   rw [hacc, List.take_succ_eq_append_getElem hlt, List.map_append]
   unfold rd_T43
   rw [Int.toNat_natCast, List.getD_eq_getElem?_getD, List.getElem?_eq_getElem hlt]
   rfl)
  dsimp only at hK
  refine ⟨K + 1, fun k hk => ?_⟩
  obtain ⟨k, rfl⟩ : ∃ m, k = m + 1 := ⟨k - 1, by omega⟩
  simp only [delta_Diff.l1]
  rw [if_pos (by omega), if_pos (by omega), if_pos (by omega), if_pos (by rw [hacc]; simp; omega), wrap_succ (n := b.length) (by omega) (by omega)]
  exact hK k (by omega)
theorem diff06_l0 (a b : List S43) (ha : a.length ≤ 4194304) (fa : FitsF a) (hb : b.length ≤ 4194304) (fb : FitsF b) (d : Nat) : ∀ (i : Nat) (acc : List S45), a.length - i = d → i ≤ a.length → acc = (a.take i).map goneC → Ev (fun k => delta_Diff.l0 k b acc a (a.length : Int) (i : Int)) (diffD a b) := by
 induction d with
 | zero =>
  intro i acc hd hi hacc
  refine Ev.step (f := fun k => delta_Diff.l1 k acc [] b (b.length : Int) ((0 : Nat) : Int)) (fun k => ?_) ?_
  ·simp only [delta_Diff.l0]
   rw [if_neg (by omega)]
   rfl
  have e : acc = a.map goneC := by rw [hacc, List.take_of_length_le (by omega)]
  rw [e]
  refine Ev.val (diff06_l1 (a.map goneC) b (by simpa using ha) (fits_gone fa) hb fb b.length 0 [] (by omega) (by omega) rfl) ?_
  unfold diffD
  rw [List.length_map]
 | succ d ih =>
  intro i acc hd hi hacc
  have hlt : i < a.length := by omega
  obtain ⟨K, hK⟩ := ih (i + 1) (acc ++ [goneC (rd_T43 a (i : Int))]) (by omega) (by omega) (by
   rw [hacc, List.take_succ_eq_append_getElem hlt, List.map_append]
   unfold rd_T43
   rw [Int.toNat_natCast, List.getD_eq_getElem?_getD, List.getElem?_eq_getElem hlt]
   rfl)
  dsimp only at hK
  refine ⟨K + 1, fun k hk => ?_⟩
  obtain ⟨k, rfl⟩ : ∃ m, k = m + 1 := ⟨k - 1, by omega⟩
  simp only [delta_Diff.l0]
  rw [if_pos (by omega), if_pos (by omega), if_pos (by omega), if_pos (by rw [hacc]; simp; omega), wrap_succ (n := a.length) (by omega) (by omega)]
  exact hK k (by omega)
theorem diff06 (a b : List S43) (ha : a.length ≤ 4194304) (fa : FitsF a) (hb : b.length ≤ 4194304) (fb : FitsF b) : Ev (fun k => delta_Diff.f k a b) (if snapV a = 0 ∧ snapV b = 0 then diffD a b else []) := by
 have nope : Ev (fun k => delta_Diff.j0 k a b true) [] := by
  refine Ev.step (f := fun _ => some []) (fun k => ?_) (ev_some [])
  simp only [delta_Diff.j0]
  rw [if_pos trivial]
 refine Ev.bind (snap_ev a (by omega) fa) ?_
 by_cases h1 : snapV a = 0
 rotate_left
 ·rw [if_neg (fun h => h1 h.1)]
  simp only [if_neg h1]
  exact nope
 simp only [if_pos h1]
 refine Ev.bind (snap_ev b (by omega) fb) ?_
 by_cases h2 : snapV b = 0
 ·rw [if_pos ⟨h1, h2⟩, h2]
  refine Ev.step (f := fun k => delta_Diff.l0 k b [] a (a.length : Int) ((0 : Nat) : Int)) (fun k => ?_) (diff06_l0 a b ha fa hb fb a.length 0 [] (by omega) (by omega) rfl)
  simp only [delta_Diff.j0]
  rw [if_neg (by simp)]
  rfl
 rw [if_neg (fun h => h2 h.2), show (snapV b != 0) = true by simpa using h2]
 exact nope
end Go.Proofs.YtehfogjibhnabaaGreatDoor.PAll
