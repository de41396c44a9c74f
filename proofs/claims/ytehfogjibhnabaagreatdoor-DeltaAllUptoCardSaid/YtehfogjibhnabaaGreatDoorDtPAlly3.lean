/- What functions of the program compute, each with its walk: a contract for every world and every argument of the kind told. -/
import Derived.Test.YtehfogjibhnabaaGreatDoorDtPAllx0
import Derived.Test.YtehfogjibhnabaaGreatDoorDtHandA
import Derived.Test.YtehfogjibhnabaaGreatDoorDtPAlly1
import Derived.Test.YtehfogjibhnabaaGreatDoorDtShelf
import Derived.Sort.Grow
import Derived.Lib.SlicesCompact
import Derived.Sort.EncStr
import Derived.Shelf.SlSortCmp.NoneTotal
namespace Go.Proofs.YtehfogjibhnabaaGreatDoor.PAll
open Go.RowKit Go.Proofs.YtehfogjibhnabaaGreatDoorW.PrintWords Go.Proofs.YtehfogjibhnabaaGreatDoorW.PrintLast Go.Proofs.YtehfogjibhnabaaGreatDoorW.PrintMore
attribute [local go_sem] max2_int min2_int max_two min_two max_three min_three max_four min_four
set_option linter.unusedVariables false
set_option linter.unusedSimpArgs false
attribute [local go_sem high] eqA43
def delta_idle.f (a0_0 : ByteArray) (a0_1 : Bool) (a0_2 : Bool) (a0_3 : ByteArray) (a0_4 : ByteArray) (a0_5 : Int) (a0_6 : Int) (a0_7 : ByteArray) (a0_8 : ByteArray) (a0_9 : Int) (a0_10 : Int) : Option (Bool) := if a0_1 = true then (if a0_2 = true then (some (a0_3.toList == a0_7.toList && (a0_4.toList == a0_8.toList && (a0_5 == a0_9 && (a0_6 == a0_10))))) else (some false)) else (if a0_2 = true then (some false) else (some true))
set_option maxHeartbeats 8000000 in
set_option maxRecDepth 100000 in
theorem delta_idle.calls (a0_0 : ByteArray) (a0_1 : Bool) (a0_2 : Bool) (a0_3 : ByteArray) (a0_4 : ByteArray) (a0_5 : Int) (a0_6 : Int) (a0_7 : ByteArray) (a0_8 : ByteArray) (a0_9 : Int) (a0_10 : Int) (r : Bool) (w : World) (h : delta_idle.f a0_0 a0_1 a0_2 a0_3 a0_4 a0_5 a0_6 a0_7 a0_8 a0_9 a0_10 = some r) :
  Calls Tryz.prog 56 #[.agg #[.string a0_0, .bool a0_1, .bool a0_2, .string a0_3, .string a0_4, .int .i64 a0_5, .int .i64 a0_6, .string a0_7, .string a0_8, .int .i64 a0_9, .int .i64 a0_10]] w fun e w' => e = .returned (.bool r) ∧ Below w.heap.size w w' := by
 have hu45 := Tryz.underlying45
 have hu43 := Tryz.underlying43
 have HB := Aside0.mk (Below.refl w.heap.size w)
 have H : (if a0_1 = true then (if a0_2 = true then (some (a0_3.toList == a0_7.toList && (a0_4.toList == a0_8.toList && (a0_5 == a0_9 && (a0_6 == a0_10))))) else (some false)) else (if a0_2 = true then (some false) else (some true))) = some r := h
 clear h
 by_cases c2 : a0_1 = true
 ·subst c2
  rw [if_pos rfl] at H
  have H1 := H
  clear H
  have H := H1
  clear H1
  by_cases c3 : a0_2 = true
  ·subst c3
   rw [if_pos rfl] at H
   have H1 := H
   clear H
   have H := H1
   clear H1
   obtain rfl := Option.some.inj H
   go_enter Tryz.func56, Tryz.ntmps56
   go_wp2_with (first | ((with_reducible refine gate_dst (N := 1) rfl ?_); refine box_event ?hg (N := 1) ?hd (cs := #[.string a0_0, .bool true, .bool true, .string a0_3, .string a0_4, .int .i64 a0_5, .int .i64 a0_6, .string a0_7, .string a0_8, .int .i64 a0_9, .int .i64 a0_10]) (t := 45) ?hr ?_; (case hd => rfl); (case hg => rfl); (case hr => first | (go_simp; done) | (go_simp; rfl)); intro gb171 hg w4 hbox hb; have n0_ := Aside0.mk (below_step (bel_) hb); have n1_ := Aside0.mk (hbox); have n2_ := Aside0.mk ((by rw [hg]; exact (below_size (bel_)) : w.heap.size ≤ gb171)); have n3_ := Aside0.mk ((by rw [hg]; exact (below_size (bel_)) : w.heap.size ≤ gb171)); clear HB; have HB := n0_; have BK171 := n1_; have GW171 := n2_; have GE171 := n3_; clear n0_ n1_ n2_ n3_; clear hb hbox hg; have hcz5_0 : w4.cell? ⟨gb171, 0, none⟩ = some (.string a0_0) := (blk_cell BK171.out 0).trans rfl; have hcz5_1 : w4.cell? ⟨gb171, 1, none⟩ = some (.bool true) := (blk_cell BK171.out 1).trans rfl; have hcz5_2 : w4.cell? ⟨gb171, 2, none⟩ = some (.bool true) := (blk_cell BK171.out 2).trans rfl; have hcz5_3 : w4.cell? ⟨gb171, 3, none⟩ = some (.string a0_3) := (blk_cell BK171.out 3).trans rfl; have hcz5_4 : w4.cell? ⟨gb171, 4, none⟩ = some (.string a0_4) := (blk_cell BK171.out 4).trans rfl; have hcz5_5 : w4.cell? ⟨gb171, 5, none⟩ = some (.int .i64 a0_5) := (blk_cell BK171.out 5).trans rfl; have hcz5_6 : w4.cell? ⟨gb171, 6, none⟩ = some (.int .i64 a0_6) := (blk_cell BK171.out 6).trans rfl; have hcz5_7 : w4.cell? ⟨gb171, 7, none⟩ = some (.string a0_7) := (blk_cell BK171.out 7).trans rfl; have hcz5_8 : w4.cell? ⟨gb171, 8, none⟩ = some (.string a0_8) := (blk_cell BK171.out 8).trans rfl; have hcz5_9 : w4.cell? ⟨gb171, 9, none⟩ = some (.int .i64 a0_9) := (blk_cell BK171.out 9).trans rfl; have hcz5_10 : w4.cell? ⟨gb171, 10, none⟩ = some (.int .i64 a0_10) := (blk_cell BK171.out 10).trans rfl; have hfz5_0 := blk_frozen BK171.out 0; have hfz5_1 := blk_frozen BK171.out 1; have hfz5_2 := blk_frozen BK171.out 2; have hfz5_3 := blk_frozen BK171.out 3; have hfz5_4 := blk_frozen BK171.out 4; have hfz5_5 := blk_frozen BK171.out 5; have hfz5_6 := blk_frozen BK171.out 6; have hfz5_7 := blk_frozen BK171.out 7; have hfz5_8 := blk_frozen BK171.out 8; have hfz5_9 := blk_frozen BK171.out 9; have hfz5_10 := blk_frozen BK171.out 10))
   go_ret
   exact ⟨er_, bes_ GE171.out⟩
  replace c3 := Bool.eq_false_iff.mpr c3
  subst c3
  have H1 : (some false) = some r := by rw [if_neg (show ¬ (false = true) by decide)] at H; exact H
  clear H
  have H := H1
  clear H1
  obtain rfl := Option.some.inj H
  go_enter Tryz.func56, Tryz.ntmps56
  go_wp2_with (first | ((with_reducible refine gate_dst (N := 1) rfl ?_); refine box_event ?hg (N := 1) ?hd (cs := #[.string a0_0, .bool true, .bool false, .string a0_3, .string a0_4, .int .i64 a0_5, .int .i64 a0_6, .string a0_7, .string a0_8, .int .i64 a0_9, .int .i64 a0_10]) (t := 45) ?hr ?_; (case hd => rfl); (case hg => rfl); (case hr => first | (go_simp; done) | (go_simp; rfl)); intro gb171 hg w6 hbox hb; have n0_ := Aside0.mk (below_step (bel_) hb); have n1_ := Aside0.mk (hbox); have n2_ := Aside0.mk ((by rw [hg]; exact (below_size (bel_)) : w.heap.size ≤ gb171)); have n3_ := Aside0.mk ((by rw [hg]; exact (below_size (bel_)) : w.heap.size ≤ gb171)); clear HB; have HB := n0_; have BK171 := n1_; have GW171 := n2_; have GE171 := n3_; clear n0_ n1_ n2_ n3_; clear hb hbox hg; have hcz7_0 : w6.cell? ⟨gb171, 0, none⟩ = some (.string a0_0) := (blk_cell BK171.out 0).trans rfl; have hcz7_1 : w6.cell? ⟨gb171, 1, none⟩ = some (.bool true) := (blk_cell BK171.out 1).trans rfl; have hcz7_2 : w6.cell? ⟨gb171, 2, none⟩ = some (.bool false) := (blk_cell BK171.out 2).trans rfl; have hcz7_3 : w6.cell? ⟨gb171, 3, none⟩ = some (.string a0_3) := (blk_cell BK171.out 3).trans rfl; have hcz7_4 : w6.cell? ⟨gb171, 4, none⟩ = some (.string a0_4) := (blk_cell BK171.out 4).trans rfl; have hcz7_5 : w6.cell? ⟨gb171, 5, none⟩ = some (.int .i64 a0_5) := (blk_cell BK171.out 5).trans rfl; have hcz7_6 : w6.cell? ⟨gb171, 6, none⟩ = some (.int .i64 a0_6) := (blk_cell BK171.out 6).trans rfl; have hcz7_7 : w6.cell? ⟨gb171, 7, none⟩ = some (.string a0_7) := (blk_cell BK171.out 7).trans rfl; have hcz7_8 : w6.cell? ⟨gb171, 8, none⟩ = some (.string a0_8) := (blk_cell BK171.out 8).trans rfl; have hcz7_9 : w6.cell? ⟨gb171, 9, none⟩ = some (.int .i64 a0_9) := (blk_cell BK171.out 9).trans rfl; have hcz7_10 : w6.cell? ⟨gb171, 10, none⟩ = some (.int .i64 a0_10) := (blk_cell BK171.out 10).trans rfl; have hfz7_0 := blk_frozen BK171.out 0; have hfz7_1 := blk_frozen BK171.out 1; have hfz7_2 := blk_frozen BK171.out 2; have hfz7_3 := blk_frozen BK171.out 3; have hfz7_4 := blk_frozen BK171.out 4; have hfz7_5 := blk_frozen BK171.out 5; have hfz7_6 := blk_frozen BK171.out 6; have hfz7_7 := blk_frozen BK171.out 7; have hfz7_8 := blk_frozen BK171.out 8; have hfz7_9 := blk_frozen BK171.out 9; have hfz7_10 := blk_frozen BK171.out 10))
  go_ret
  exact ⟨er_, bes_ GE171.out⟩
 replace c2 := Bool.eq_false_iff.mpr c2
 subst c2
 have H1 : (if a0_2 = true then (some false) else (some true)) = some r := by rw [if_neg (show ¬ (false = true) by decide)] at H; exact H
 clear H
 have H := H1
 clear H1
 by_cases c8 : a0_2 = true
 ·subst c8
  rw [if_pos rfl] at H
  have H1 := H
  clear H
  have H := H1
  clear H1
  obtain rfl := Option.some.inj H
  go_enter Tryz.func56, Tryz.ntmps56
  go_wp2_with (first | ((with_reducible refine gate_dst (N := 1) rfl ?_); refine box_event ?hg (N := 1) ?hd (cs := #[.string a0_0, .bool false, .bool true, .string a0_3, .string a0_4, .int .i64 a0_5, .int .i64 a0_6, .string a0_7, .string a0_8, .int .i64 a0_9, .int .i64 a0_10]) (t := 45) ?hr ?_; (case hd => rfl); (case hg => rfl); (case hr => first | (go_simp; done) | (go_simp; rfl)); intro gb171 hg w9 hbox hb; have n0_ := Aside0.mk (below_step (bel_) hb); have n1_ := Aside0.mk (hbox); have n2_ := Aside0.mk ((by rw [hg]; exact (below_size (bel_)) : w.heap.size ≤ gb171)); have n3_ := Aside0.mk ((by rw [hg]; exact (below_size (bel_)) : w.heap.size ≤ gb171)); clear HB; have HB := n0_; have BK171 := n1_; have GW171 := n2_; have GE171 := n3_; clear n0_ n1_ n2_ n3_; clear hb hbox hg; have hcz10_0 : w9.cell? ⟨gb171, 0, none⟩ = some (.string a0_0) := (blk_cell BK171.out 0).trans rfl; have hcz10_1 : w9.cell? ⟨gb171, 1, none⟩ = some (.bool false) := (blk_cell BK171.out 1).trans rfl; have hcz10_2 : w9.cell? ⟨gb171, 2, none⟩ = some (.bool true) := (blk_cell BK171.out 2).trans rfl; have hcz10_3 : w9.cell? ⟨gb171, 3, none⟩ = some (.string a0_3) := (blk_cell BK171.out 3).trans rfl; have hcz10_4 : w9.cell? ⟨gb171, 4, none⟩ = some (.string a0_4) := (blk_cell BK171.out 4).trans rfl; have hcz10_5 : w9.cell? ⟨gb171, 5, none⟩ = some (.int .i64 a0_5) := (blk_cell BK171.out 5).trans rfl; have hcz10_6 : w9.cell? ⟨gb171, 6, none⟩ = some (.int .i64 a0_6) := (blk_cell BK171.out 6).trans rfl; have hcz10_7 : w9.cell? ⟨gb171, 7, none⟩ = some (.string a0_7) := (blk_cell BK171.out 7).trans rfl; have hcz10_8 : w9.cell? ⟨gb171, 8, none⟩ = some (.string a0_8) := (blk_cell BK171.out 8).trans rfl; have hcz10_9 : w9.cell? ⟨gb171, 9, none⟩ = some (.int .i64 a0_9) := (blk_cell BK171.out 9).trans rfl; have hcz10_10 : w9.cell? ⟨gb171, 10, none⟩ = some (.int .i64 a0_10) := (blk_cell BK171.out 10).trans rfl; have hfz10_0 := blk_frozen BK171.out 0; have hfz10_1 := blk_frozen BK171.out 1; have hfz10_2 := blk_frozen BK171.out 2; have hfz10_3 := blk_frozen BK171.out 3; have hfz10_4 := blk_frozen BK171.out 4; have hfz10_5 := blk_frozen BK171.out 5; have hfz10_6 := blk_frozen BK171.out 6; have hfz10_7 := blk_frozen BK171.out 7; have hfz10_8 := blk_frozen BK171.out 8; have hfz10_9 := blk_frozen BK171.out 9; have hfz10_10 := blk_frozen BK171.out 10))
  go_ret
  exact ⟨er_, bes_ GE171.out⟩
 replace c8 := Bool.eq_false_iff.mpr c8
 subst c8
 have H1 : (some true) = some r := by rw [if_neg (show ¬ (false = true) by decide)] at H; exact H
 clear H
 have H := H1
 clear H1
 obtain rfl := Option.some.inj H
 go_enter Tryz.func56, Tryz.ntmps56
 go_wp2_with (first | ((with_reducible refine gate_dst (N := 1) rfl ?_); refine box_event ?hg (N := 1) ?hd (cs := #[.string a0_0, .bool false, .bool false, .string a0_3, .string a0_4, .int .i64 a0_5, .int .i64 a0_6, .string a0_7, .string a0_8, .int .i64 a0_9, .int .i64 a0_10]) (t := 45) ?hr ?_; (case hd => rfl); (case hg => rfl); (case hr => first | (go_simp; done) | (go_simp; rfl)); intro gb171 hg w11 hbox hb; have n0_ := Aside0.mk (below_step (bel_) hb); have n1_ := Aside0.mk (hbox); have n2_ := Aside0.mk ((by rw [hg]; exact (below_size (bel_)) : w.heap.size ≤ gb171)); have n3_ := Aside0.mk ((by rw [hg]; exact (below_size (bel_)) : w.heap.size ≤ gb171)); clear HB; have HB := n0_; have BK171 := n1_; have GW171 := n2_; have GE171 := n3_; clear n0_ n1_ n2_ n3_; clear hb hbox hg; have hcz12_0 : w11.cell? ⟨gb171, 0, none⟩ = some (.string a0_0) := (blk_cell BK171.out 0).trans rfl; have hcz12_1 : w11.cell? ⟨gb171, 1, none⟩ = some (.bool false) := (blk_cell BK171.out 1).trans rfl; have hcz12_2 : w11.cell? ⟨gb171, 2, none⟩ = some (.bool false) := (blk_cell BK171.out 2).trans rfl; have hcz12_3 : w11.cell? ⟨gb171, 3, none⟩ = some (.string a0_3) := (blk_cell BK171.out 3).trans rfl; have hcz12_4 : w11.cell? ⟨gb171, 4, none⟩ = some (.string a0_4) := (blk_cell BK171.out 4).trans rfl; have hcz12_5 : w11.cell? ⟨gb171, 5, none⟩ = some (.int .i64 a0_5) := (blk_cell BK171.out 5).trans rfl; have hcz12_6 : w11.cell? ⟨gb171, 6, none⟩ = some (.int .i64 a0_6) := (blk_cell BK171.out 6).trans rfl; have hcz12_7 : w11.cell? ⟨gb171, 7, none⟩ = some (.string a0_7) := (blk_cell BK171.out 7).trans rfl; have hcz12_8 : w11.cell? ⟨gb171, 8, none⟩ = some (.string a0_8) := (blk_cell BK171.out 8).trans rfl; have hcz12_9 : w11.cell? ⟨gb171, 9, none⟩ = some (.int .i64 a0_9) := (blk_cell BK171.out 9).trans rfl; have hcz12_10 : w11.cell? ⟨gb171, 10, none⟩ = some (.int .i64 a0_10) := (blk_cell BK171.out 10).trans rfl; have hfz12_0 := blk_frozen BK171.out 0; have hfz12_1 := blk_frozen BK171.out 1; have hfz12_2 := blk_frozen BK171.out 2; have hfz12_3 := blk_frozen BK171.out 3; have hfz12_4 := blk_frozen BK171.out 4; have hfz12_5 := blk_frozen BK171.out 5; have hfz12_6 := blk_frozen BK171.out 6; have hfz12_7 := blk_frozen BK171.out 7; have hfz12_8 := blk_frozen BK171.out 8; have hfz12_9 := blk_frozen BK171.out 9; have hfz12_10 := blk_frozen BK171.out 10))
 go_ret
 exact ⟨er_, bes_ GE171.out⟩
def copseref03_Has.l0 : Nat → List ByteArray → ByteArray → Int → Option (Bool)
 | 0, _, _, _ => none
 | k + 1, x0, x1, x5 => if x5 < (x0.length : Int) then (if 0 ≤ x5 then (if (rdOf ByteArray.empty x0 x5).toList = x1.toList then (some true) else (copseref03_Has.l0 k x0 x1 (wrap64 (x5 + 1)))) else (none)) else (some false)
def copseref03_Has.f (k : Nat) (l0 : List ByteArray) (a1 : ByteArray) : Option (Bool) := copseref03_Has.l0 k l0 a1 0
set_option maxHeartbeats 8000000 in
set_option maxRecDepth 100000 in
theorem copseref03_Has.calls (k : Nat) (A0 : Option Addr) (c0 : Nat) (l0 : List ByteArray) (a1 : ByteArray) (r : Bool) (w : World) (hr0 : Kd.C Kd.string w A0 l0.length l0) (hc0 : l0.length ≤ c0) (h : copseref03_Has.f k l0 a1 = some r) :
  Calls Tryz.prog 61 #[.slice A0 l0.length c0, .string a1] w fun e w' => e = .returned (.bool r) ∧ Drawn0 w w' := by
 have HR0 := Aside0.mk hr0
 have HC0 := Aside0.mk hc0
 clear hr0 hc0
 have H : (copseref03_Has.l0 k l0 a1 0) = some r := h
 clear h
 have H' := Aside0.mk H
 clear H
 go_enter Tryz.func61, Tryz.ntmps61
 go_wp2
 go_loopg [5] k (fun kq v5 w' => ∃ (x5_1 : Int), v5 = .int .i64 x5_1 ∧ Aside0 (copseref03_Has.l0 kq l0 a1 x5_1 = some r) ∧ Aside0 (kq ≤ k) ∧ Drawn0 w w')
 case atStart => exact ⟨(0), (rf_), H', ⟨Nat.le_refl _⟩, dr_⟩
 case round =>
  clear H'
  try clear p2
  obtain ⟨x5_1, rfl, HA, HK1, ⟨m1, rfl⟩⟩ := hrel
  cases gk with
  | zero => exact absurd HA.out (by simp [copseref03_Has.l0])
  | succ k1 =>
   have H := HA.out
   clear HA
   simp only [copseref03_Has.l0] at H
   by_cases c3 : x5_1 < (l0.length : Int)
   rotate_left
   ·rw [if_neg c3] at H
    have c3b0 := decide_eq_false c3
    clear c3
    obtain rfl := Option.some.inj H
    go_wp2
    go_ret
    exact ⟨rf_, dr_⟩
   rw [if_pos c3] at H
   have c3b0 := decide_eq_true c3
   clear c3
   by_cases c4 : 0 ≤ x5_1
   rotate_left
   ·rw [if_neg c4] at H
    exact absurd H (by simp)
   rw [if_pos c4] at H
   have c4b0 := decide_eq_true c4
   clear c4
   by_cases c5 : (rdOf ByteArray.empty l0 x5_1).toList = a1.toList
   ·rw [if_pos c5] at H
    have c5b0 : ((rdOf ByteArray.empty l0 x5_1).toList == a1.toList) = true := beq_iff_eq.mpr c5
    have c5b1 : ((rdOf ByteArray.empty l0 x5_1).toList != a1.toList) = false := bne_eq_false_iff_eq.mpr c5
    clear c5
    obtain rfl := Option.some.inj H
    have p321 : 0 ≤ (x5_1 : Int) := of_decide_eq_true (by assumption)
    have q321 : x5_1 < (l0.length : Int) := of_decide_eq_true (by assumption)
    obtain ⟨ad321, e321, hx321_0⟩ := Kd.at_string HR0.out x5_1 p321 q321
    cases e321
    replace p321 := eq_true p321
    replace q321 := eq_true q321
    go_wp2
    go_ret
    exact ⟨rf_, dr_⟩
   rw [if_neg c5] at H
   have c5b0 : ((rdOf ByteArray.empty l0 x5_1).toList == a1.toList) = false := beq_eq_false_iff_ne.mpr c5
   have c5b1 : ((rdOf ByteArray.empty l0 x5_1).toList != a1.toList) = true := bne_iff_ne.mpr c5
   have H' := Aside0.mk H
   clear H
   have p321 : 0 ≤ (x5_1 : Int) := of_decide_eq_true (by assumption)
   have q321 : x5_1 < (l0.length : Int) := of_decide_eq_true (by assumption)
   obtain ⟨ad321, e321, hx321_0⟩ := Kd.at_string HR0.out x5_1 p321 q321
   cases e321
   replace p321 := eq_true p321
   replace q321 := eq_true q321
   go_wp2
   go_roundg k1
   case measure => have := HK1.out; omega
   case rel => exact ⟨(wrap64 (x5_1 + 1)), (rf_), H', ⟨by have := HK1.out; omega⟩, dr_⟩
mutual
def copseref02_bytes.l0 : Nat → ByteArray → ByteArray → Int → Option (Int)
 | 0, _, _, _ => none
 | k + 1, x0, x1, x5 => if x5 < (x0.size : Int) then (copseref02_bytes.j1 k x0 x1 x5 (decide (x5 < (x1.size : Int)))) else (copseref02_bytes.j1 k x0 x1 x5 false)
def copseref02_bytes.j1 : Nat → ByteArray → ByteArray → Int → Bool → Option (Int)
 | 0, _, _, _, _ => none
 | k + 1, x0, x1, x5, x15 => if x15 = true then (if 0 ≤ x5 then (if x5 < (x0.size : Int) then (if x5 < (x1.size : Int) then (if (bt x0 x5) < (bt x1 x5) then (some (-1)) else (if (bt x0 x5) > (bt x1 x5) then (some 1) else (copseref02_bytes.l0 k x0 x1 (wrap64 (x5 + 1))))) else (none)) else (none)) else (none)) else (if (x0.size : Int) < (x1.size : Int) then (some (-1)) else (if (x0.size : Int) > (x1.size : Int) then (some 1) else (some 0)))
end
def copseref02_bytes.f (k : Nat) (a0 : ByteArray) (a1 : ByteArray) : Option (Int) := copseref02_bytes.l0 k a0 a1 0
set_option maxHeartbeats 8000000 in
set_option maxRecDepth 100000 in
theorem copseref02_bytes.calls (k : Nat) (a0 : ByteArray) (a1 : ByteArray) (r : Int) (w : World) (h : copseref02_bytes.f k a0 a1 = some r) :
  Calls Tryz.prog 52 #[.string a0, .string a1] w fun e w' => e = .returned (.int .i64 r) ∧ Drawn0 w w' := by
 have H : (copseref02_bytes.l0 k a0 a1 0) = some r := h
 clear h
 have H' := Aside0.mk H
 clear H
 go_enter Tryz.func52, Tryz.ntmps52
 go_wp2
 repeat (go_quiet (fail); try go_wp2)
 go_loopg [5] k (fun kq v5 w' => ∃ (x5_1 : Int), v5 = .int .i64 x5_1 ∧ Aside0 (copseref02_bytes.l0 kq a0 a1 x5_1 = some r) ∧ Aside0 (kq ≤ k) ∧ Drawn0 w w')
 case atStart => exact ⟨(0), (rf_), H', ⟨Nat.le_refl _⟩, dr_⟩
 case round =>
  clear H'
  try clear p2
  obtain ⟨x5_1, rfl, HA, HK1, ⟨m1, rfl⟩⟩ := hrel
  cases gk with
  | zero => exact absurd HA.out (by simp [copseref02_bytes.l0])
  | succ k1 =>
   have H := HA.out
   clear HA
   simp only [copseref02_bytes.l0] at H
   have HC3 := Aside0.mk H
   clear H
   go_upto_region 2 with (fail)
   repeat (go_quiet (fail); go_upto_region 2 with (fail))
   go_cut [15] (fun v15 wc => ∃ (kq : Nat) (x15_2 : Bool), v15 = .bool x15_2 ∧ Aside0 (copseref02_bytes.j1 kq a0 a1 x5_1 x15_2 = some r) ∧ Aside0 (kq ≤ k1) ∧ Drawn0 w wc)
   case first =>
    have H := HC3.out
    clear HC3
    by_cases c4 : x5_1 < (a0.size : Int)
    ·rw [if_pos c4] at H
     have c4b0 := decide_eq_true c4
     clear c4
     (first | rw [c4b0] | (simp only [i64_w, i32_w]; rw [c4b0]) | skip)
     have H' := Aside0.mk H
     clear H
     go_wp2
     repeat (go_quiet (fail); try go_wp2)
     go_meet
     case rel => exact ⟨_, (decide (x5_1 < (a1.size : Int))), (rf_), H', ⟨by have := HK1.out; first | omega | exact Nat.le_refl _⟩, dr_⟩
    rw [if_neg c4] at H
    have c4b0 := decide_eq_false c4
    clear c4
    (first | rw [c4b0] | (simp only [i64_w, i32_w]; rw [c4b0]) | skip)
    have H' := Aside0.mk H
    clear H
    go_wp2
    repeat (go_quiet (fail); try go_wp2)
    go_meet
    case rel => exact ⟨_, (false), (rf_), H', ⟨by have := HK1.out; first | omega | exact Nat.le_refl _⟩, dr_⟩
   case rest =>
    clear HC3
    try clear p2
    try clear c4
    try clear c4b0
    try clear p2
    obtain ⟨kq, x15_2, rfl, HA, HJ2, ⟨mc2, rfl⟩⟩ := hcut
    cases kq with
    | zero => exact absurd HA.out (by simp [copseref02_bytes.j1])
    | succ kj2 =>
     have H := HA.out
     clear HA
     simp only [copseref02_bytes.j1] at H
     by_cases c5 : x15_2 = true
     rotate_left
     ·replace c5 := Bool.eq_false_iff.mpr c5
      subst c5
      have H1 : (if (a0.size : Int) < (a1.size : Int) then (some (-1)) else (if (a0.size : Int) > (a1.size : Int) then (some 1) else (some 0))) = some r := by rw [if_neg (show ¬ (false = true) by decide)] at H; exact H
      clear H
      have H := H1
      clear H1
      by_cases c15 : (a0.size : Int) < (a1.size : Int)
      ·rw [if_pos c15] at H
       have c15b0 := decide_eq_true c15
       have c15b1 : decide (a0.size < a1.size) = true := decide_eq_true (Int.ofNat_lt.mp c15)
       clear c15
       obtain rfl := Option.some.inj H
       go_wp2
       repeat (go_quiet (fail); try go_wp2)
       go_ret
       exact ⟨rf_, dr_⟩
      rw [if_neg c15] at H
      have c15b0 := decide_eq_false c15
      have c15b1 : decide (a0.size < a1.size) = false := decide_eq_false (fun h => c15 (Int.ofNat_lt.mpr h))
      clear c15
      by_cases c16 : (a0.size : Int) > (a1.size : Int)
      ·rw [if_pos c16] at H
       have c16b0 := decide_eq_true c16
       have c16b1 : decide (a1.size < a0.size) = true := decide_eq_true (Int.ofNat_lt.mp c16)
       clear c16
       obtain rfl := Option.some.inj H
       go_wp2
       repeat (go_quiet (fail); try go_wp2)
       go_ret
       exact ⟨rf_, dr_⟩
      rw [if_neg c16] at H
      have c16b0 := decide_eq_false c16
      have c16b1 : decide (a1.size < a0.size) = false := decide_eq_false (fun h => c16 (Int.ofNat_lt.mpr h))
      clear c16
      obtain rfl := Option.some.inj H
      go_wp2
      repeat (go_quiet (fail); try go_wp2)
      go_ret
      exact ⟨rf_, dr_⟩
     subst c5
     rw [if_pos rfl] at H
     have H1 := H
     clear H
     have H := H1
     clear H1
     by_cases c6 : 0 ≤ x5_1
     rotate_left
     ·rw [if_neg c6] at H
      exact absurd H (by simp)
     rw [if_pos c6] at H
     have c6b0 := decide_eq_true c6
     clear c6
     by_cases c7 : x5_1 < (a0.size : Int)
     rotate_left
     ·rw [if_neg c7] at H
      exact absurd H (by simp)
     rw [if_pos c7] at H
     have c7b0 := decide_eq_true c7
     clear c7
     by_cases c9 : x5_1 < (a1.size : Int)
     rotate_left
     ·rw [if_neg c9] at H
      exact absurd H (by simp)
     rw [if_pos c9] at H
     have c9b0 := decide_eq_true c9
     clear c9
     by_cases c11 : (bt a0 x5_1) < (bt a1 x5_1)
     ·rw [if_pos c11] at H
      have c11b0 := decide_eq_true c11
      clear c11
      obtain rfl := Option.some.inj H
      have p8 : 0 ≤ (x5_1 : Int) := of_decide_eq_true (by assumption)
      have q8 : x5_1 < (a0.size : Int) := of_decide_eq_true (by assumption)
      have hx8 := bt_at a0 x5_1
      replace p8 := eq_true p8
      replace q8 := eq_true q8
      have p10 : 0 ≤ (x5_1 : Int) := of_decide_eq_true (by assumption)
      have q10 : x5_1 < (a1.size : Int) := of_decide_eq_true (by assumption)
      have hx10 := bt_at a1 x5_1
      replace p10 := eq_true p10
      replace q10 := eq_true q10
      go_wp2
      repeat (go_quiet (fail); try go_wp2)
      go_ret
      exact ⟨rf_, dr_⟩
     rw [if_neg c11] at H
     have c11b0 := decide_eq_false c11
     clear c11
     by_cases c14 : (bt a0 x5_1) > (bt a1 x5_1)
     ·rw [if_pos c14] at H
      have c14b0 := decide_eq_true c14
      clear c14
      obtain rfl := Option.some.inj H
      have p8 : 0 ≤ (x5_1 : Int) := of_decide_eq_true (by assumption)
      have q8 : x5_1 < (a0.size : Int) := of_decide_eq_true (by assumption)
      have hx8 := bt_at a0 x5_1
      replace p8 := eq_true p8
      replace q8 := eq_true q8
      have p10 : 0 ≤ (x5_1 : Int) := of_decide_eq_true (by assumption)
      have q10 : x5_1 < (a1.size : Int) := of_decide_eq_true (by assumption)
      have hx10 := bt_at a1 x5_1
      replace p10 := eq_true p10
      replace q10 := eq_true q10
      have p12 : 0 ≤ (x5_1 : Int) := of_decide_eq_true (by assumption)
      have q12 : x5_1 < (a0.size : Int) := of_decide_eq_true (by assumption)
      have hx12 := bt_at a0 x5_1
      replace p12 := eq_true p12
      replace q12 := eq_true q12
      have p13 : 0 ≤ (x5_1 : Int) := of_decide_eq_true (by assumption)
      have q13 : x5_1 < (a1.size : Int) := of_decide_eq_true (by assumption)
      have hx13 := bt_at a1 x5_1
      replace p13 := eq_true p13
      replace q13 := eq_true q13
      go_wp2
      repeat (go_quiet (fail); try go_wp2)
      go_ret
      exact ⟨rf_, dr_⟩
     rw [if_neg c14] at H
     have c14b0 := decide_eq_false c14
     clear c14
     have H' := Aside0.mk H
     clear H
     have p8 : 0 ≤ (x5_1 : Int) := of_decide_eq_true (by assumption)
     have q8 : x5_1 < (a0.size : Int) := of_decide_eq_true (by assumption)
     have hx8 := bt_at a0 x5_1
     replace p8 := eq_true p8
     replace q8 := eq_true q8
     have p10 : 0 ≤ (x5_1 : Int) := of_decide_eq_true (by assumption)
     have q10 : x5_1 < (a1.size : Int) := of_decide_eq_true (by assumption)
     have hx10 := bt_at a1 x5_1
     replace p10 := eq_true p10
     replace q10 := eq_true q10
     have p12 : 0 ≤ (x5_1 : Int) := of_decide_eq_true (by assumption)
     have q12 : x5_1 < (a0.size : Int) := of_decide_eq_true (by assumption)
     have hx12 := bt_at a0 x5_1
     replace p12 := eq_true p12
     replace q12 := eq_true q12
     have p13 : 0 ≤ (x5_1 : Int) := of_decide_eq_true (by assumption)
     have q13 : x5_1 < (a1.size : Int) := of_decide_eq_true (by assumption)
     have hx13 := bt_at a1 x5_1
     replace p13 := eq_true p13
     replace q13 := eq_true q13
     go_wp2
     repeat (go_quiet (fail); try go_wp2)
     go_roundg kj2
     case measure => have := HK1.out; have := HJ2.out; omega
     case rel => exact ⟨(wrap64 (x5_1 + 1)), (rf_), H', ⟨by have := HK1.out; have := HJ2.out; omega⟩, dr_⟩
mutual
def copseref02_Cmp.l0 : Nat → List ByteArray → List ByteArray → Int → Option (Int)
 | 0, _, _, _ => none
 | k + 1, x5, x6, x7 => if x7 < (x5.length : Int) then (copseref02_Cmp.j1 k x5 x6 x7 (decide (x7 < (x6.length : Int)))) else (copseref02_Cmp.j1 k x5 x6 x7 false)
def copseref02_Cmp.j1 : Nat → List ByteArray → List ByteArray → Int → Bool → Option (Int)
 | 0, _, _, _, _ => none
 | k + 1, x5, x6, x7, x22 => if x22 = true then (if 0 ≤ x7 then (if x7 < (x5.length : Int) then (if x7 < (x6.length : Int) then ((copseref02_bytes.f k (rdOf ByteArray.empty x5 x7) (rdOf ByteArray.empty x6 x7)).bind fun t320 => (if t320 = 0 then (copseref02_Cmp.l0 k x5 x6 (wrap64 (x7 + 1))) else (some t320))) else (none)) else (none)) else (none)) else (if (x5.length : Int) < (x6.length : Int) then (some (-1)) else (if (x5.length : Int) > (x6.length : Int) then (some 1) else (some 0)))
end
def copseref02_Cmp.f (k : Nat) (a0 : ByteArray) (a1 : ByteArray) : Option (Int) := (copseref02_Split.f k a0).bind fun t312 => ((copseref02_Split.f k a1).bind fun t315 => (copseref02_Cmp.l0 k t312 t315 0))
set_option maxHeartbeats 8000000 in
set_option maxRecDepth 100000 in
theorem copseref02_Cmp.calls (k : Nat) (a0 : ByteArray) (a1 : ByteArray) (r : Int) (w : World) (h : copseref02_Cmp.f k a0 a1 = some r) :
  Calls Tryz.prog 26 #[.string a0, .string a1] w fun e w' => e = .returned (.int .i64 r) ∧ Below w.heap.size w w' := by
 have HB := Aside0.mk (Below.refl w.heap.size w)
 have H : ((copseref02_Split.f k a0).bind fun t312 => ((copseref02_Split.f k a1).bind fun t315 => (copseref02_Cmp.l0 k t312 t315 0))) = some r := h
 clear h
 replace H := Option.bind_eq_some_iff.mp H
 obtain ⟨t312, A30, H⟩ := H
 try dsimp only at H
 have A3 := Aside0.mk A30
 clear A30
 replace H := Option.bind_eq_some_iff.mp H
 obtain ⟨t315, A40, H⟩ := H
 try dsimp only at H
 have A4 := Aside0.mk A40
 clear A40
 have H' := Aside0.mk H
 clear H
 go_enter Tryz.func26, Tryz.ntmps26
 go_wp2_with (first | (go_at_call 51; (with_reducible refine (copseref02_Split.calls k a0 t312 _ A3.out).mono ?_); rintro e w5 ⟨v313, rfl, ho0, hb⟩; have n0_ := Aside0.mk (Kd.R_lower ho0 (below_size (bel_))); have n1_ := Aside0.mk (below_step (bel_) hb); clear HB; have HO314 := n0_; have HB := n1_; clear n0_ n1_; (try clear hb); (try clear hb2); (try clear hk); (try clear hi); (try clear ho0)) | (go_at_call 51; (with_reducible refine (copseref02_Split.calls k a1 t315 _ A4.out).mono ?_); rintro e w6 ⟨v316, rfl, ho0, hb⟩; have n0_ := Aside0.mk (Kd.R_elder' (ur_ HO314.out) (Kd.R_base ho0) hb); have n1_ := Aside0.mk (Kd.R_lower (Kd.R_new' ho0 (Kd.R_lt (ur_ HO314.out))) (below_size (bel_))); have n2_ := Aside0.mk (below_step (bel_) hb); clear HO314; clear HB; have HO314 := n0_; have HO317 := n1_; have HB := n2_; clear n0_ n1_ n2_; (try clear hb); (try clear hb2); (try clear hk); (try clear hi); (try clear ho0)))
 repeat (go_quiet (first | (go_at_call 51; (with_reducible refine (copseref02_Split.calls k a0 t312 _ A3.out).mono ?_); rintro e w5 ⟨v313, rfl, ho0, hb⟩; have n0_ := Aside0.mk (Kd.R_lower ho0 (below_size (bel_))); have n1_ := Aside0.mk (below_step (bel_) hb); clear HB; have HO314 := n0_; have HB := n1_; clear n0_ n1_; (try clear hb); (try clear hb2); (try clear hk); (try clear hi); (try clear ho0)) | (go_at_call 51; (with_reducible refine (copseref02_Split.calls k a1 t315 _ A4.out).mono ?_); rintro e w6 ⟨v316, rfl, ho0, hb⟩; have n0_ := Aside0.mk (Kd.R_elder' (ur_ HO314.out) (Kd.R_base ho0) hb); have n1_ := Aside0.mk (Kd.R_lower (Kd.R_new' ho0 (Kd.R_lt (ur_ HO314.out))) (below_size (bel_))); have n2_ := Aside0.mk (below_step (bel_) hb); clear HO314; clear HB; have HO314 := n0_; have HO317 := n1_; have HB := n2_; clear n0_ n1_ n2_; (try clear hb); (try clear hb2); (try clear hk); (try clear hi); (try clear ho0))); try go_wp2_with (first | (go_at_call 51; (with_reducible refine (copseref02_Split.calls k a0 t312 _ A3.out).mono ?_); rintro e w5 ⟨v313, rfl, ho0, hb⟩; have n0_ := Aside0.mk (Kd.R_lower ho0 (below_size (bel_))); have n1_ := Aside0.mk (below_step (bel_) hb); clear HB; have HO314 := n0_; have HB := n1_; clear n0_ n1_; (try clear hb); (try clear hb2); (try clear hk); (try clear hi); (try clear ho0)) | (go_at_call 51; (with_reducible refine (copseref02_Split.calls k a1 t315 _ A4.out).mono ?_); rintro e w6 ⟨v316, rfl, ho0, hb⟩; have n0_ := Aside0.mk (Kd.R_elder' (ur_ HO314.out) (Kd.R_base ho0) hb); have n1_ := Aside0.mk (Kd.R_lower (Kd.R_new' ho0 (Kd.R_lt (ur_ HO314.out))) (below_size (bel_))); have n2_ := Aside0.mk (below_step (bel_) hb); clear HO314; clear HB; have HO314 := n0_; have HO317 := n1_; have HB := n2_; clear n0_ n1_ n2_; (try clear hb); (try clear hb2); (try clear hk); (try clear hi); (try clear ho0))))
 go_loopg [7] k (fun kq v7 w' => ∃ (x7_1 : Int), v7 = .int .i64 x7_1 ∧ Aside0 (copseref02_Cmp.l0 kq t312 t315 x7_1 = some r) ∧ Aside0 (kq ≤ k) ∧ Aside0 (Kd.R Kd.string 9 w' w.heap.size (fun k_ => some k_ ≠ (v316 : Value).ownBlock) v313 t312) ∧ Aside0 (Kd.R Kd.string 9 w' w.heap.size (fun k_ => some k_ ≠ (v313 : Value).ownBlock) v316 t315) ∧ Aside0 (Below w.heap.size w w'))
 case atStart => exact ⟨(0), (rf_), H', ⟨Nat.le_refl _⟩, ⟨by (with_reducible repeat (first | apply Kd.R_alloc | apply Kd.R_drewN | apply Kd.R_drew)); exact Kd.R_mono HO314.out (fun _ hk => hk.2)⟩, ⟨by (with_reducible repeat (first | apply Kd.R_alloc | apply Kd.R_drewN | apply Kd.R_drew)); exact Kd.R_mono HO317.out (fun _ hk => hk.2)⟩, ⟨bel_⟩⟩
 case round =>
  clear H'
  try clear c2
  try clear p2
  obtain ⟨x7_1, rfl, HA, HK1, HO_5, HO_6, HB⟩ := hrel
  cases gk with
  | zero => exact absurd HA.out (by simp [copseref02_Cmp.l0])
  | succ k1 =>
   have H := HA.out
   clear HA
   simp only [copseref02_Cmp.l0] at H
   have HC7 := Aside0.mk H
   clear H
   go_upto_region 4 with (fail)
   repeat (go_quiet (fail); go_upto_region 4 with (fail))
   go_cut [22] (fun v22 wc => ∃ (kq : Nat) (x22_6 : Bool), v22 = .bool x22_6 ∧ Aside0 (copseref02_Cmp.j1 kq t312 t315 x7_1 x22_6 = some r) ∧ Aside0 (kq ≤ k1) ∧ Aside0 (Kd.R Kd.string 9 wc w.heap.size (fun k_ => some k_ ≠ (v316 : Value).ownBlock) v313 t312) ∧ Aside0 (Kd.R Kd.string 9 wc w.heap.size (fun k_ => some k_ ≠ (v313 : Value).ownBlock) v316 t315) ∧ Aside0 (Below w.heap.size w wc))
   case first =>
    have H := HC7.out
    clear HC7
    by_cases c8 : x7_1 < (t312.length : Int)
    ·rw [if_pos c8] at H
     have c8b0 := decide_eq_true c8
     clear c8
     (first | rw [c8b0] | (simp only [i64_w, i32_w]; rw [c8b0]) | skip)
     have H' := Aside0.mk H
     clear H
     obtain ⟨Ao9, co9, eo9⟩ := Kd.R_slice HO_5.out
     subst eo9
     obtain ⟨Ao10, co10, eo10⟩ := Kd.R_slice HO_6.out
     subst eo10
     go_wp2
     repeat (go_quiet (fail); try go_wp2)
     go_meet
     case rel => exact ⟨_, (decide (x7_1 < (t315.length : Int))), (rf_), H', ⟨by have := HK1.out; first | omega | exact Nat.le_refl _⟩, ⟨ur_ HO_5.out⟩, ⟨ur_ HO_6.out⟩, ⟨bel_⟩⟩
    rw [if_neg c8] at H
    have c8b0 := decide_eq_false c8
    clear c8
    (first | rw [c8b0] | (simp only [i64_w, i32_w]; rw [c8b0]) | skip)
    have H' := Aside0.mk H
    clear H
    obtain ⟨Ao11, co11, eo11⟩ := Kd.R_slice HO_5.out
    subst eo11
    go_wp2
    repeat (go_quiet (fail); try go_wp2)
    go_meet
    case rel => exact ⟨_, (false), (rf_), H', ⟨by have := HK1.out; first | omega | exact Nat.le_refl _⟩, ⟨ur_ HO_5.out⟩, ⟨ur_ HO_6.out⟩, ⟨bel_⟩⟩
   case rest =>
    clear HC7
    try clear c2
    try clear p2
    try clear c8
    try clear c8b0
    try clear p2
    obtain ⟨kq, x22_6, rfl, HA, HJ6, HO_5, HO_6, HB⟩ := hcut
    cases kq with
    | zero => exact absurd HA.out (by simp [copseref02_Cmp.j1])
    | succ kj6 =>
     have H := HA.out
     clear HA
     simp only [copseref02_Cmp.j1] at H
     by_cases c12 : x22_6 = true
     rotate_left
     ·replace c12 := Bool.eq_false_iff.mpr c12
      subst c12
      have H1 : (if (t312.length : Int) < (t315.length : Int) then (some (-1)) else (if (t312.length : Int) > (t315.length : Int) then (some 1) else (some 0))) = some r := by rw [if_neg (show ¬ (false = true) by decide)] at H; exact H
      clear H
      have H := H1
      clear H1
      by_cases c22 : (t312.length : Int) < (t315.length : Int)
      ·rw [if_pos c22] at H
       have c22b0 := decide_eq_true c22
       have c22b1 : decide (t312.length < t315.length) = true := decide_eq_true (Int.ofNat_lt.mp c22)
       clear c22
       obtain rfl := Option.some.inj H
       obtain ⟨Ao23, co23, eo23⟩ := Kd.R_slice HO_5.out
       subst eo23
       obtain ⟨Ao24, co24, eo24⟩ := Kd.R_slice HO_6.out
       subst eo24
       go_wp2
       repeat (go_quiet (fail); try go_wp2)
       go_ret
       exact ⟨er_, bel_⟩
      rw [if_neg c22] at H
      have c22b0 := decide_eq_false c22
      have c22b1 : decide (t312.length < t315.length) = false := decide_eq_false (fun h => c22 (Int.ofNat_lt.mpr h))
      clear c22
      by_cases c25 : (t312.length : Int) > (t315.length : Int)
      ·rw [if_pos c25] at H
       have c25b0 := decide_eq_true c25
       have c25b1 : decide (t315.length < t312.length) = true := decide_eq_true (Int.ofNat_lt.mp c25)
       clear c25
       obtain rfl := Option.some.inj H
       obtain ⟨Ao26, co26, eo26⟩ := Kd.R_slice HO_5.out
       subst eo26
       obtain ⟨Ao27, co27, eo27⟩ := Kd.R_slice HO_6.out
       subst eo27
       go_wp2
       repeat (go_quiet (fail); try go_wp2)
       go_ret
       exact ⟨er_, bel_⟩
      rw [if_neg c25] at H
      have c25b0 := decide_eq_false c25
      have c25b1 : decide (t315.length < t312.length) = false := decide_eq_false (fun h => c25 (Int.ofNat_lt.mpr h))
      clear c25
      obtain rfl := Option.some.inj H
      obtain ⟨Ao28, co28, eo28⟩ := Kd.R_slice HO_5.out
      subst eo28
      obtain ⟨Ao29, co29, eo29⟩ := Kd.R_slice HO_6.out
      subst eo29
      go_wp2
      repeat (go_quiet (fail); try go_wp2)
      go_ret
      exact ⟨er_, bel_⟩
     subst c12
     rw [if_pos rfl] at H
     have H1 := H
     clear H
     have H := H1
     clear H1
     by_cases c13 : 0 ≤ x7_1
     rotate_left
     ·rw [if_neg c13] at H
      exact absurd H (by simp)
     rw [if_pos c13] at H
     have c13b0 := decide_eq_true c13
     clear c13
     by_cases c14 : x7_1 < (t312.length : Int)
     rotate_left
     ·rw [if_neg c14] at H
      exact absurd H (by simp)
     rw [if_pos c14] at H
     have c14b0 := decide_eq_true c14
     clear c14
     by_cases c15 : x7_1 < (t315.length : Int)
     rotate_left
     ·rw [if_neg c15] at H
      exact absurd H (by simp)
     rw [if_pos c15] at H
     have c15b0 := decide_eq_true c15
     clear c15
     replace H := Option.bind_eq_some_iff.mp H
     obtain ⟨t320, A160, H⟩ := H
     try dsimp only at H
     have A16 := Aside0.mk A160
     clear A160
     by_cases c17 : t320 = 0
     ·rw [if_pos c17] at H
      have c17b0 : (t320 == 0) = true := beq_iff_eq.mpr c17
      have c17b1 : (t320 != 0) = false := bne_eq_false_iff_eq.mpr c17
      clear c17
      have H' := Aside0.mk H
      clear H
      obtain ⟨Ao18, co18, eo18⟩ := Kd.R_slice HO_5.out
      subst eo18
      have p318 : 0 ≤ (x7_1 : Int) := of_decide_eq_true (by assumption)
      have q318 : x7_1 < (t312.length : Int) := of_decide_eq_true (by assumption)
      obtain ⟨ad318, e318, hx318_0⟩ := Kd.at_string (Kd.R_reads' HO_5.out).2.2 x7_1 p318 q318
      cases e318
      replace p318 := eq_true p318
      replace q318 := eq_true q318
      obtain ⟨Ao19, co19, eo19⟩ := Kd.R_slice HO_6.out
      subst eo19
      have p319 : 0 ≤ (x7_1 : Int) := of_decide_eq_true (by assumption)
      have q319 : x7_1 < (t315.length : Int) := of_decide_eq_true (by assumption)
      obtain ⟨ad319, e319, hx319_0⟩ := Kd.at_string (Kd.R_reads' HO_6.out).2.2 x7_1 p319 q319
      cases e319
      replace p319 := eq_true p319
      replace q319 := eq_true q319
      go_wp2_with (first | (go_at_call 52; (with_reducible refine (copseref02_bytes.calls kj6 (rdOf ByteArray.empty t312 x7_1) (rdOf ByteArray.empty t315 x7_1) t320 _ A16.out).mono ?_); rintro e w' ⟨rfl, ⟨nd, rfl⟩⟩; (try first | exact ⟨rfl, _, World.drewN_drewN _ _ _⟩ | exact ⟨rfl, _, Eq.trans (World.drewN_drewN _ _ _) (congrArg (World.drewN _) (Nat.add_assoc _ _ _))⟩)))
      repeat (go_quiet (first | (go_at_call 52; (with_reducible refine (copseref02_bytes.calls kj6 (rdOf ByteArray.empty t312 x7_1) (rdOf ByteArray.empty t315 x7_1) t320 _ A16.out).mono ?_); rintro e w' ⟨rfl, ⟨nd, rfl⟩⟩; (try first | exact ⟨rfl, _, World.drewN_drewN _ _ _⟩ | exact ⟨rfl, _, Eq.trans (World.drewN_drewN _ _ _) (congrArg (World.drewN _) (Nat.add_assoc _ _ _))⟩))); try go_wp2_with (first | (go_at_call 52; (with_reducible refine (copseref02_bytes.calls kj6 (rdOf ByteArray.empty t312 x7_1) (rdOf ByteArray.empty t315 x7_1) t320 _ A16.out).mono ?_); rintro e w' ⟨rfl, ⟨nd, rfl⟩⟩; (try first | exact ⟨rfl, _, World.drewN_drewN _ _ _⟩ | exact ⟨rfl, _, Eq.trans (World.drewN_drewN _ _ _) (congrArg (World.drewN _) (Nat.add_assoc _ _ _))⟩))))
      go_roundg kj6
      case measure => have := HK1.out; have := HJ6.out; omega
      case rel => exact ⟨(wrap64 (x7_1 + 1)), (rf_), H', ⟨by have := HK1.out; have := HJ6.out; omega⟩, ⟨ur_ HO_5.out⟩, ⟨ur_ HO_6.out⟩, ⟨bel_⟩⟩
     rw [if_neg c17] at H
     have c17b0 : (t320 == 0) = false := beq_eq_false_iff_ne.mpr c17
     have c17b1 : (t320 != 0) = true := bne_iff_ne.mpr c17
     obtain rfl := Option.some.inj H
     obtain ⟨Ao20, co20, eo20⟩ := Kd.R_slice HO_5.out
     subst eo20
     have p318 : 0 ≤ (x7_1 : Int) := of_decide_eq_true (by assumption)
     have q318 : x7_1 < (t312.length : Int) := of_decide_eq_true (by assumption)
     obtain ⟨ad318, e318, hx318_0⟩ := Kd.at_string (Kd.R_reads' HO_5.out).2.2 x7_1 p318 q318
     cases e318
     replace p318 := eq_true p318
     replace q318 := eq_true q318
     obtain ⟨Ao21, co21, eo21⟩ := Kd.R_slice HO_6.out
     subst eo21
     have p319 : 0 ≤ (x7_1 : Int) := of_decide_eq_true (by assumption)
     have q319 : x7_1 < (t315.length : Int) := of_decide_eq_true (by assumption)
     obtain ⟨ad319, e319, hx319_0⟩ := Kd.at_string (Kd.R_reads' HO_6.out).2.2 x7_1 p319 q319
     cases e319
     replace p319 := eq_true p319
     replace q319 := eq_true q319
     go_wp2_with (first | (go_at_call 52; (with_reducible refine (copseref02_bytes.calls kj6 (rdOf ByteArray.empty t312 x7_1) (rdOf ByteArray.empty t315 x7_1) t320 _ A16.out).mono ?_); rintro e w' ⟨rfl, ⟨nd, rfl⟩⟩; (try first | exact ⟨rfl, _, World.drewN_drewN _ _ _⟩ | exact ⟨rfl, _, Eq.trans (World.drewN_drewN _ _ _) (congrArg (World.drewN _) (Nat.add_assoc _ _ _))⟩)))
     repeat (go_quiet (first | (go_at_call 52; (with_reducible refine (copseref02_bytes.calls kj6 (rdOf ByteArray.empty t312 x7_1) (rdOf ByteArray.empty t315 x7_1) t320 _ A16.out).mono ?_); rintro e w' ⟨rfl, ⟨nd, rfl⟩⟩; (try first | exact ⟨rfl, _, World.drewN_drewN _ _ _⟩ | exact ⟨rfl, _, Eq.trans (World.drewN_drewN _ _ _) (congrArg (World.drewN _) (Nat.add_assoc _ _ _))⟩))); try go_wp2_with (first | (go_at_call 52; (with_reducible refine (copseref02_bytes.calls kj6 (rdOf ByteArray.empty t312 x7_1) (rdOf ByteArray.empty t315 x7_1) t320 _ A16.out).mono ?_); rintro e w' ⟨rfl, ⟨nd, rfl⟩⟩; (try first | exact ⟨rfl, _, World.drewN_drewN _ _ _⟩ | exact ⟨rfl, _, Eq.trans (World.drewN_drewN _ _ _) (congrArg (World.drewN _) (Nat.add_assoc _ _ _))⟩))))
     go_ret
     exact ⟨er_, bel_⟩
open Go.Proofs.YtehfogjibhnabaaGreatDoor.Sp
theorem Ev.val {α : Type} {g : Nat → Option α} {r r' : α} (h : Ev g r) (e : r = r') : Ev g r' := e ▸ h
theorem ev_some {α : Type} (r : α) : Ev (fun _ => some r) r := Ev.now r
theorem ev_pure {α : Type} {g : Nat → Option α} {r : α} (h : ∀ k, g k = some r) : Ev g r := ⟨0, fun k _ => h k⟩
theorem wrap_add {x : Int} (h0 : -9223372036854775808 ≤ x) (h1 : x ≤ 9223372036854775807) : wrap64 x = x := by unfold wrap64; omega
theorem bt_get (a : ByteArray) (i : Nat) (h : i < a.size) : bt a (i : Int) = (((bs a)[i]'(by rw [bs_size]; exact h)).toNat : Int) := by
 unfold bt
 rw [dif_pos (by simpa using h)]
 rfl
theorem bt_eq (a : ByteArray) (i : Nat) (h : i < a.size) (c : UInt8) (n : Int) (hn : n = (c.toNat : Int)) : bt a (i : Int) = n ↔ (bs a)[i]'(by rw [bs_size]; exact h) = c := by
 rw [bt_get a i h, hn]
 constructor
 ·intro e; exact UInt8.toNat_inj.1 (by omega)
 intro e; rw [e]
theorem bs_drop (a : ByteArray) (i : Nat) (h : i < a.size) : (bs a).drop i = (bs a)[i]'(by rw [bs_size]; exact h) :: (bs a).drop (i + 1) := List.drop_eq_getElem_cons (by rw [bs_size]; exact h)
theorem extract_mk (a : ByteArray) (i j : Nat) : a.extract i j = mk (((bs a).take j).drop i) := by
 apply bs_inj
 rw [bs_mk]
 show (a.extract i j).data.toList = _
 rw [Lib.extract_data, List.drop_take]
 rfl
theorem ref_has_run (l : List ByteArray) (p : ByteArray) (hl : l.length ≤ 4294967296) (d : Nat) : ∀ i, l.length - i = d → i ≤ l.length → Ev (fun k => copseref03_Has.l0 k l p (i : Int)) (decide (p ∈ l.drop i)) := by
 induction d with
 | zero =>
  intro i hd hi
  refine ⟨1, fun k hk => ?_⟩
  obtain ⟨k, rfl⟩ : ∃ m, k = m + 1 := ⟨k - 1, by omega⟩
  simp only [copseref03_Has.l0]
  rw [if_neg (by omega), List.drop_of_length_le (by omega)]; rfl
 | succ d ih =>
  intro i hd hi
  obtain ⟨K, hK⟩ := ih (i + 1) (by omega) (by omega)
  dsimp only at hK
  refine ⟨K + 1, fun k hk => ?_⟩
  obtain ⟨k, rfl⟩ : ∃ m, k = m + 1 := ⟨k - 1, by omega⟩
  simp only [copseref03_Has.l0]
  rw [if_pos (by omega), if_pos (by omega), rdOf_drop l i (by omega)]
  by_cases h : rdOf ByteArray.empty l (i : Int) = p
  ·rw [if_pos (by rw [h]), h]; simp
  rw [if_neg (fun e => h (bs_inj (by rw [← toList_bs, ← toList_bs]; exact e))), wrap_succ (n := l.length) (by omega) (by omega), hK k (by omega)]
  simp [Ne.symm h]
theorem ref_has (l : List ByteArray) (p : ByteArray) (hl : l.length ≤ 4294967296) : Ev (fun k => copseref03_Has.f k l p) (decide (p ∈ l)) :=
 ref_has_run l p hl l.length 0 (by omega) (by omega)
def splC (cur rest : Str) : List Str := match spl rest with
 | h :: t => (cur ++ h) :: t
 | [] => [cur]
theorem splC_nil (cur : Str) : splC cur [] = [cur] := by simp [splC, spl]
theorem splC_slash (cur r : Str) : splC cur (47 :: r) = cur :: splC [] r := by
 simp only [splC, spl, if_true, List.append_nil]
 congr 1
 cases h : spl r with
 | nil => exact absurd h (spl_ne r)
 | cons x t => simp
theorem splC_other (cur r : Str) {c : UInt8} (hc : c ≠ 47) : splC cur (c :: r) = splC (cur ++ [c]) r := by
 simp only [splC, spl, if_neg hc]
 cases h : spl r with
 | nil => exact absurd h (spl_ne r)
 | cons x t => simp
theorem splC_whole (s : Str) : splC [] s = spl s := by
 unfold splC
 cases h : spl s with
 | nil => exact absurd h (spl_ne s)
 | cons x t => simp
theorem ref_split_run (a : ByteArray) (ha : a.size ≤ 4294967296) (d : Nat) : ∀ (i fr : Nat) (acc : List ByteArray), a.size - i = d → i ≤ a.size → fr ≤ i → acc.length + a.size - i ≤ 4294967297 →
  Ev (fun k => copseref02_Split.l0 k a acc (fr : Int) (i : Int)) (acc ++ (splC (((bs a).take i).drop fr) ((bs a).drop i)).map mk) := by
 induction d with
 | zero =>
  intro i fr acc hd hi hf hl
  have e : i = a.size := by omega
  refine ⟨2, fun k hk => ?_⟩
  obtain ⟨k, rfl⟩ : ∃ m, k = m + 2 := ⟨k - 2, by omega⟩
  simp only [copseref02_Split.l0]
  rw [if_pos (by omega), if_pos (by omega), if_pos (by omega), if_pos (by omega), if_pos (by omega), wrap_succ (n := 4294967299) (by omega) (by omega), if_neg (by omega), Int.toNat_natCast, Int.toNat_natCast, extract_mk, List.drop_of_length_le (l := bs a) (i := i) (by rw [bs_size]; omega), splC_nil]
  rfl
 | succ d ih =>
  intro i fr acc hd hi hf hl
  have hlt : i < a.size := by omega
  rw [bs_drop a i hlt]
  by_cases h : bt a (i : Int) = 47
  ·have h' := (bt_eq a i hlt 47 47 rfl).1 h
   obtain ⟨K, hK⟩ := ih (i + 1) (i + 1) (acc ++ [mk (((bs a).take i).drop fr)]) (by omega) (by omega) (by omega) (by simp; omega)
   dsimp only at hK
   refine ⟨K + 1, fun k hk => ?_⟩
   obtain ⟨k, rfl⟩ : ∃ m, k = m + 1 := ⟨k - 1, by omega⟩
   simp only [copseref02_Split.l0]
   rw [if_pos (by omega), if_neg (by omega), if_pos (by omega), if_pos (by omega), if_pos h, if_pos (by omega), if_pos (by omega), if_pos (by omega), wrap_succ (n := a.size) (by omega) (by omega), Int.toNat_natCast, Int.toNat_natCast, extract_mk, hK k (by omega), h', splC_slash]
   rw [List.drop_of_length_le (l := (bs a).take (i + 1)) (by rw [List.length_take]; omega)]
   simp
  have h' : (bs a)[i]'(by rw [bs_size]; exact hlt) ≠ 47 := fun e => h ((bt_eq a i hlt 47 47 rfl).2 e)
  obtain ⟨K, hK⟩ := ih (i + 1) fr acc (by omega) (by omega) (by omega) (by omega)
  dsimp only at hK
  refine ⟨K + 1, fun k hk => ?_⟩
  obtain ⟨k, rfl⟩ : ∃ m, k = m + 1 := ⟨k - 1, by omega⟩
  simp only [copseref02_Split.l0]
  rw [if_pos (by omega), if_neg (by omega), if_pos (by omega), if_pos (by omega), if_neg h, wrap_succ (n := a.size) (by omega) (by omega), hK k (by omega), splC_other _ _ h']
  have hlen : i < (bs a).length := by rw [bs_size]; exact hlt
  rw [List.take_succ_eq_append_getElem hlen, List.drop_append_of_le_length (by rw [List.length_take]; omega)]
theorem ref_split (a : ByteArray) (ha : a.size ≤ 4294967296) : Ev (fun k => copseref02_Split.f k a) (pB a) := by
 by_cases h : bs a = []
 ·rw [pB_nil h]
  refine ev_pure fun k => ?_
  unfold copseref02_Split.f
  rw [if_pos (by rw [toList_bs]; exact h)]
 have := ref_split_run a ha a.size 0 0 [] (by omega) (by omega) (by omega) (by simp only [List.length_nil]; omega)
 refine Ev.congr (fun k => ?_) (Ev.val this ?_)
 ·unfold copseref02_Split.f
  rw [if_neg (by rw [toList_bs]; exact h)]; rfl
 simp only [List.take_zero, List.drop_zero, List.drop_nil, List.nil_append, splC_whole]
 unfold pB; rw [pcs_of h]
theorem prog_split (a : ByteArray) (ha : a.size < 4294967281) : Ev (fun k => path_Split.f k a) (pB a) := ev_pure fun k => by unfold path_Split.f; rw [if_pos ha]
attribute [local go_sem] max2_int min2_int max_two min_two max_three min_three max_four min_four
set_option linter.unusedVariables false
set_option linter.unusedSimpArgs false
def path_Cmp.j0 : Nat → List ByteArray → List ByteArray → Int → Bool → Option (Int)
 | 0, _, _, _, _ => none
 | k + 1, x5, x6, x7, x24 => if x24 = true then (if 0 ≤ x7 then (if x7 < (x5.length : Int) then (if x7 < (x6.length : Int) then ((cmp_Compare_string.f (rdOf ByteArray.empty x5 x7) (rdOf ByteArray.empty x6 x7)).bind fun t137 => (some t137)) else (none)) else (none)) else (none)) else ((cmp_Compare_int.f (x5.length : Int) (x6.length : Int)).bind fun t138 => (some t138))
def path_Cmp.f (k : Nat) (a0 : ByteArray) (a1 : ByteArray) : Option (Int) := (path_Split.f k a0).bind fun t128 => ((path_Split.f k a1).bind fun t131 => ((path_common.f k t128 t131).bind fun t134 => (if t134 < (t128.length : Int) then (path_Cmp.j0 k t128 t131 t134 (decide (t134 < (t131.length : Int)))) else (path_Cmp.j0 k t128 t131 t134 false))))
theorem path_Cmp.mono_l : ∀ k, (∀ y0 y1 y2 y3, LeO (path_Cmp.j0 k y0 y1 y2 y3) (path_Cmp.j0 (k + 1) y0 y1 y2 y3))
 | 0 => fun _ _ _ _ r h => by simp [path_Cmp.j0] at h
 | k + 1 => by
  have ih0 := path_Cmp.mono_l k
  ·intro y0 y1 y2 y3
   unfold path_Cmp.j0
   repeat' first
   | (with_reducible exact ih0 _ _ _ _)
   | (with_reducible exact path_Split.mono _ _)
   | (with_reducible exact path_common.mono _ _ _)
   | (with_reducible exact LeO.refl _)
   | (with_reducible exact LeO.none _)
   | (with_reducible refine LeO.ite ?_ ?_)
   | (with_reducible refine LeO.bind ?_ (fun _ => ?_))
   | exact ih0 _ _ _ _
   | exact path_Split.mono _ _
   | exact path_common.mono _ _ _
   | exact LeO.none _
   | refine LeO.ite ?_ ?_
   | refine LeO.bind ?_ (fun _ => ?_)
theorem path_Cmp.mono : ∀ a0 a1 k, LeO (path_Cmp.f k a0 a1) (path_Cmp.f (k + 1) a0 a1) := by
 intro a0 a1 k
 have ih0 := path_Cmp.mono_l k
 unfold path_Cmp.f
 repeat' first
   | (with_reducible exact ih0 _ _ _ _)
   | (with_reducible exact path_Split.mono _ _)
   | (with_reducible exact path_common.mono _ _ _)
   | (with_reducible exact LeO.refl _)
   | (with_reducible exact LeO.none _)
   | (with_reducible refine LeO.ite ?_ ?_)
   | (with_reducible refine LeO.bind ?_ (fun _ => ?_))
   | exact ih0 _ _ _ _
   | exact path_Split.mono _ _
   | exact path_common.mono _ _ _
   | exact LeO.none _
   | refine LeO.ite ?_ ?_
   | refine LeO.bind ?_ (fun _ => ?_)
set_option maxHeartbeats 8000000 in
set_option maxRecDepth 100000 in
theorem path_Cmp.calls (k : Nat) (a0 : ByteArray) (a1 : ByteArray) (r : Int) (w : World) (h : path_Cmp.f k a0 a1 = some r) :
  Calls Tryz.prog 24 #[.string a0, .string a1] w fun e w' => e = .returned (.int .i64 r) ∧ Below w.heap.size w w' := by
 have HB := Aside0.mk (Below.refl w.heap.size w)
 have H : ((path_Split.f k a0).bind fun t128 => ((path_Split.f k a1).bind fun t131 => ((path_common.f k t128 t131).bind fun t134 => (if t134 < (t128.length : Int) then (path_Cmp.j0 k t128 t131 t134 (decide (t134 < (t131.length : Int)))) else (path_Cmp.j0 k t128 t131 t134 false))))) = some r := h
 clear h
 replace H := Option.bind_eq_some_iff.mp H
 obtain ⟨t128, A30, H⟩ := H
 try dsimp only at H
 have A3 := Aside0.mk A30
 clear A30
 replace H := Option.bind_eq_some_iff.mp H
 obtain ⟨t131, A40, H⟩ := H
 try dsimp only at H
 have A4 := Aside0.mk A40
 clear A40
 replace H := Option.bind_eq_some_iff.mp H
 obtain ⟨t134, A50, H⟩ := H
 try dsimp only at H
 have A5 := Aside0.mk A50
 clear A50
 have HC6 := Aside0.mk H
 clear H
 go_enter Tryz.func24, Tryz.ntmps24
 go_upto_region 3 with (first | (go_at_call 45; (with_reducible refine (path_Split.calls k a0 t128 _ A3.out).mono ?_); rintro e w7 ⟨v129, rfl, ho0, hb⟩; have n0_ := Aside0.mk (Kd.R_lower ho0 (below_size (bel_))); have n1_ := Aside0.mk (below_step (bel_) hb); clear HB; have HO130 := n0_; have HB := n1_; clear n0_ n1_; (try clear hb); (try clear hb2); (try clear hk); (try clear hi); (try clear ho0)) | (go_at_call 45; (with_reducible refine (path_Split.calls k a1 t131 _ A4.out).mono ?_); rintro e w8 ⟨v132, rfl, ho0, hb⟩; have n0_ := Aside0.mk (Kd.R_elder' (ur_ HO130.out) (Kd.R_base ho0) hb); have n1_ := Aside0.mk (Kd.R_lower (Kd.R_new' ho0 (Kd.R_lt (ur_ HO130.out))) (below_size (bel_))); have n2_ := Aside0.mk (below_step (bel_) hb); clear HO130; clear HB; have HO130 := n0_; have HO133 := n1_; have HB := n2_; clear n0_ n1_ n2_; (try clear hb); (try clear hb2); (try clear hk); (try clear hi); (try clear ho0); obtain ⟨Ao9, co9, eo9⟩ := Kd.R_slice HO130.out; subst eo9; obtain ⟨Ao10, co10, eo10⟩ := Kd.R_slice HO133.out; subst eo10) | (go_at_call 46; (with_reducible refine (path_common.calls k _ _ t128 _ _ t131 t134 _ ?side1 ?side2 ?side3 ?side4 A5.out).mono ?_); (case side1 => repeat (first | exact (Kd.R_reads' HO130.out).2.2 | (with_reducible refine Kd.C_alloc ?_ _) | (with_reducible refine Kd.C_drewN ?_ _) | (with_reducible refine Kd.C_drew ?_))); (case side2 => exact (Kd.R_reads' HO130.out).2.1); (case side3 => repeat (first | exact (Kd.R_reads' HO133.out).2.2 | (with_reducible refine Kd.C_alloc ?_ _) | (with_reducible refine Kd.C_drewN ?_ _) | (with_reducible refine Kd.C_drew ?_))); (case side4 => exact (Kd.R_reads' HO133.out).2.1); rintro e w' ⟨rfl, ⟨nd, rfl⟩⟩; (try first | exact ⟨rfl, _, World.drewN_drewN _ _ _⟩ | exact ⟨rfl, _, Eq.trans (World.drewN_drewN _ _ _) (congrArg (World.drewN _) (Nat.add_assoc _ _ _))⟩)))
 repeat (go_quiet (first | (go_at_call 45; (with_reducible refine (path_Split.calls k a0 t128 _ A3.out).mono ?_); rintro e w7 ⟨v129, rfl, ho0, hb⟩; have n0_ := Aside0.mk (Kd.R_lower ho0 (below_size (bel_))); have n1_ := Aside0.mk (below_step (bel_) hb); clear HB; have HO130 := n0_; have HB := n1_; clear n0_ n1_; (try clear hb); (try clear hb2); (try clear hk); (try clear hi); (try clear ho0)) | (go_at_call 45; (with_reducible refine (path_Split.calls k a1 t131 _ A4.out).mono ?_); rintro e w8 ⟨v132, rfl, ho0, hb⟩; have n0_ := Aside0.mk (Kd.R_elder' (ur_ HO130.out) (Kd.R_base ho0) hb); have n1_ := Aside0.mk (Kd.R_lower (Kd.R_new' ho0 (Kd.R_lt (ur_ HO130.out))) (below_size (bel_))); have n2_ := Aside0.mk (below_step (bel_) hb); clear HO130; clear HB; have HO130 := n0_; have HO133 := n1_; have HB := n2_; clear n0_ n1_ n2_; (try clear hb); (try clear hb2); (try clear hk); (try clear hi); (try clear ho0); obtain ⟨Ao9, co9, eo9⟩ := Kd.R_slice HO130.out; subst eo9; obtain ⟨Ao10, co10, eo10⟩ := Kd.R_slice HO133.out; subst eo10) | (go_at_call 46; (with_reducible refine (path_common.calls k _ _ t128 _ _ t131 t134 _ ?side1 ?side2 ?side3 ?side4 A5.out).mono ?_); (case side1 => repeat (first | exact (Kd.R_reads' HO130.out).2.2 | (with_reducible refine Kd.C_alloc ?_ _) | (with_reducible refine Kd.C_drewN ?_ _) | (with_reducible refine Kd.C_drew ?_))); (case side2 => exact (Kd.R_reads' HO130.out).2.1); (case side3 => repeat (first | exact (Kd.R_reads' HO133.out).2.2 | (with_reducible refine Kd.C_alloc ?_ _) | (with_reducible refine Kd.C_drewN ?_ _) | (with_reducible refine Kd.C_drew ?_))); (case side4 => exact (Kd.R_reads' HO133.out).2.1); rintro e w' ⟨rfl, ⟨nd, rfl⟩⟩; (try first | exact ⟨rfl, _, World.drewN_drewN _ _ _⟩ | exact ⟨rfl, _, Eq.trans (World.drewN_drewN _ _ _) (congrArg (World.drewN _) (Nat.add_assoc _ _ _))⟩))); go_upto_region 3 with (first | (go_at_call 45; (with_reducible refine (path_Split.calls k a0 t128 _ A3.out).mono ?_); rintro e w7 ⟨v129, rfl, ho0, hb⟩; have n0_ := Aside0.mk (Kd.R_lower ho0 (below_size (bel_))); have n1_ := Aside0.mk (below_step (bel_) hb); clear HB; have HO130 := n0_; have HB := n1_; clear n0_ n1_; (try clear hb); (try clear hb2); (try clear hk); (try clear hi); (try clear ho0)) | (go_at_call 45; (with_reducible refine (path_Split.calls k a1 t131 _ A4.out).mono ?_); rintro e w8 ⟨v132, rfl, ho0, hb⟩; have n0_ := Aside0.mk (Kd.R_elder' (ur_ HO130.out) (Kd.R_base ho0) hb); have n1_ := Aside0.mk (Kd.R_lower (Kd.R_new' ho0 (Kd.R_lt (ur_ HO130.out))) (below_size (bel_))); have n2_ := Aside0.mk (below_step (bel_) hb); clear HO130; clear HB; have HO130 := n0_; have HO133 := n1_; have HB := n2_; clear n0_ n1_ n2_; (try clear hb); (try clear hb2); (try clear hk); (try clear hi); (try clear ho0); obtain ⟨Ao9, co9, eo9⟩ := Kd.R_slice HO130.out; subst eo9; obtain ⟨Ao10, co10, eo10⟩ := Kd.R_slice HO133.out; subst eo10) | (go_at_call 46; (with_reducible refine (path_common.calls k _ _ t128 _ _ t131 t134 _ ?side1 ?side2 ?side3 ?side4 A5.out).mono ?_); (case side1 => repeat (first | exact (Kd.R_reads' HO130.out).2.2 | (with_reducible refine Kd.C_alloc ?_ _) | (with_reducible refine Kd.C_drewN ?_ _) | (with_reducible refine Kd.C_drew ?_))); (case side2 => exact (Kd.R_reads' HO130.out).2.1); (case side3 => repeat (first | exact (Kd.R_reads' HO133.out).2.2 | (with_reducible refine Kd.C_alloc ?_ _) | (with_reducible refine Kd.C_drewN ?_ _) | (with_reducible refine Kd.C_drew ?_))); (case side4 => exact (Kd.R_reads' HO133.out).2.1); rintro e w' ⟨rfl, ⟨nd, rfl⟩⟩; (try first | exact ⟨rfl, _, World.drewN_drewN _ _ _⟩ | exact ⟨rfl, _, Eq.trans (World.drewN_drewN _ _ _) (congrArg (World.drewN _) (Nat.add_assoc _ _ _))⟩))))
 (try simp only [Act.put, List.setIfInBounds_toArray, List.set_cons_zero, List.set_cons_succ])
 go_cut [24] (fun v24 wc => ∃ (kq : Nat) (x24_5 : Bool), v24 = .bool x24_5 ∧ Aside0 (path_Cmp.j0 kq t128 t131 t134 x24_5 = some r) ∧ Aside0 (kq ≤ k) ∧ Aside0 (Kd.R Kd.string 9 wc w.heap.size (fun k_ => some k_ ≠ ((.slice Ao10 t131.length co10) : Value).ownBlock) (.slice Ao9 t128.length co9) t128) ∧ Aside0 (Kd.R Kd.string 9 wc w.heap.size (fun k_ => some k_ ≠ ((.slice Ao9 t128.length co9) : Value).ownBlock) (.slice Ao10 t131.length co10) t131) ∧ Aside0 (Below w.heap.size w wc))
 case first =>
  have H := HC6.out
  clear HC6
  by_cases c11 : t134 < (t128.length : Int)
  ·rw [if_pos c11] at H
   have c11b0 := decide_eq_true c11
   clear c11
   (first | rw [c11b0] | (simp only [i64_w, i32_w]; rw [c11b0]) | skip)
   have H' := Aside0.mk H
   clear H
   go_wp2
   repeat (go_quiet (fail); try go_wp2)
   go_meet
   case rel => exact ⟨_, (decide (t134 < (t131.length : Int))), (rf_), H', ⟨by first | omega | exact Nat.le_refl _⟩, ⟨by (with_reducible repeat (first | apply Kd.R_alloc | apply Kd.R_drewN | apply Kd.R_drew)); exact Kd.R_mono HO130.out (fun _ hk => hk.2)⟩, ⟨by (with_reducible repeat (first | apply Kd.R_alloc | apply Kd.R_drewN | apply Kd.R_drew)); exact Kd.R_mono HO133.out (fun _ hk => hk.2)⟩, ⟨bel_⟩⟩
  rw [if_neg c11] at H
  have c11b0 := decide_eq_false c11
  clear c11
  (first | rw [c11b0] | (simp only [i64_w, i32_w]; rw [c11b0]) | skip)
  have H' := Aside0.mk H
  clear H
  go_wp2
  repeat (go_quiet (fail); try go_wp2)
  go_meet
  case rel => exact ⟨_, (false), (rf_), H', ⟨by first | omega | exact Nat.le_refl _⟩, ⟨by (with_reducible repeat (first | apply Kd.R_alloc | apply Kd.R_drewN | apply Kd.R_drew)); exact Kd.R_mono HO130.out (fun _ hk => hk.2)⟩, ⟨by (with_reducible repeat (first | apply Kd.R_alloc | apply Kd.R_drewN | apply Kd.R_drew)); exact Kd.R_mono HO133.out (fun _ hk => hk.2)⟩, ⟨bel_⟩⟩
 case rest =>
  clear HC6
  try clear c1
  try clear c2
  try clear p2
  try clear c11
  try clear c11b0
  obtain ⟨kq, x24_5, rfl, HA, HJ5, HO_5, HO_6, HB⟩ := hcut
  cases kq with
  | zero => exact absurd HA.out (by simp [path_Cmp.j0])
  | succ kj5 =>
   have H := HA.out
   clear HA
   simp only [path_Cmp.j0] at H
   by_cases c12 : x24_5 = true
   rotate_left
   ·replace c12 := Bool.eq_false_iff.mpr c12
    subst c12
    have H1 : ((cmp_Compare_int.f (t128.length : Int) (t131.length : Int)).bind fun t138 => (some t138)) = some r := by rw [if_neg (show ¬ (false = true) by decide)] at H; exact H
    clear H
    have H := H1
    clear H1
    replace H := Option.bind_eq_some_iff.mp H
    obtain ⟨t138, A170, H⟩ := H
    try dsimp only at H
    have A17 := Aside0.mk A170
    clear A170
    obtain rfl := Option.some.inj H
    go_wp2_with (first | (go_at_call 48; (with_reducible refine (cmp_Compare_int.calls (t128.length : Int) (t131.length : Int) t138 _ A17.out).mono ?_); rintro e w' ⟨rfl, ⟨nd, rfl⟩⟩; (try first | exact ⟨rfl, _, World.drewN_drewN _ _ _⟩ | exact ⟨rfl, _, Eq.trans (World.drewN_drewN _ _ _) (congrArg (World.drewN _) (Nat.add_assoc _ _ _))⟩)))
    repeat (go_quiet (first | (go_at_call 48; (with_reducible refine (cmp_Compare_int.calls (t128.length : Int) (t131.length : Int) t138 _ A17.out).mono ?_); rintro e w' ⟨rfl, ⟨nd, rfl⟩⟩; (try first | exact ⟨rfl, _, World.drewN_drewN _ _ _⟩ | exact ⟨rfl, _, Eq.trans (World.drewN_drewN _ _ _) (congrArg (World.drewN _) (Nat.add_assoc _ _ _))⟩))); try go_wp2_with (first | (go_at_call 48; (with_reducible refine (cmp_Compare_int.calls (t128.length : Int) (t131.length : Int) t138 _ A17.out).mono ?_); rintro e w' ⟨rfl, ⟨nd, rfl⟩⟩; (try first | exact ⟨rfl, _, World.drewN_drewN _ _ _⟩ | exact ⟨rfl, _, Eq.trans (World.drewN_drewN _ _ _) (congrArg (World.drewN _) (Nat.add_assoc _ _ _))⟩))))
    go_ret
    exact ⟨er_, bel_⟩
   subst c12
   rw [if_pos rfl] at H
   have H1 := H
   clear H
   have H := H1
   clear H1
   by_cases c13 : 0 ≤ t134
   rotate_left
   ·rw [if_neg c13] at H
    exact absurd H (by simp)
   rw [if_pos c13] at H
   have c13b0 := decide_eq_true c13
   clear c13
   by_cases c14 : t134 < (t128.length : Int)
   rotate_left
   ·rw [if_neg c14] at H
    exact absurd H (by simp)
   rw [if_pos c14] at H
   have c14b0 := decide_eq_true c14
   clear c14
   by_cases c15 : t134 < (t131.length : Int)
   rotate_left
   ·rw [if_neg c15] at H
    exact absurd H (by simp)
   rw [if_pos c15] at H
   have c15b0 := decide_eq_true c15
   clear c15
   replace H := Option.bind_eq_some_iff.mp H
   obtain ⟨t137, A160, H⟩ := H
   try dsimp only at H
   have A16 := Aside0.mk A160
   clear A160
   obtain rfl := Option.some.inj H
   have p135 : 0 ≤ (t134 : Int) := of_decide_eq_true (by assumption)
   have q135 : t134 < (t128.length : Int) := of_decide_eq_true (by assumption)
   obtain ⟨ad135, e135, hx135_0⟩ := Kd.at_string (Kd.R_reads' HO_5.out).2.2 t134 p135 q135
   cases e135
   replace p135 := eq_true p135
   replace q135 := eq_true q135
   have p136 : 0 ≤ (t134 : Int) := of_decide_eq_true (by assumption)
   have q136 : t134 < (t131.length : Int) := of_decide_eq_true (by assumption)
   obtain ⟨ad136, e136, hx136_0⟩ := Kd.at_string (Kd.R_reads' HO_6.out).2.2 t134 p136 q136
   cases e136
   replace p136 := eq_true p136
   replace q136 := eq_true q136
   go_wp2_with (first | (go_at_call 47; (with_reducible refine (cmp_Compare_string.calls (rdOf ByteArray.empty t128 t134) (rdOf ByteArray.empty t131 t134) t137 _ A16.out).mono ?_); rintro e w' ⟨rfl, ⟨nd, rfl⟩⟩; (try first | exact ⟨rfl, _, World.drewN_drewN _ _ _⟩ | exact ⟨rfl, _, Eq.trans (World.drewN_drewN _ _ _) (congrArg (World.drewN _) (Nat.add_assoc _ _ _))⟩)))
   repeat (go_quiet (first | (go_at_call 47; (with_reducible refine (cmp_Compare_string.calls (rdOf ByteArray.empty t128 t134) (rdOf ByteArray.empty t131 t134) t137 _ A16.out).mono ?_); rintro e w' ⟨rfl, ⟨nd, rfl⟩⟩; (try first | exact ⟨rfl, _, World.drewN_drewN _ _ _⟩ | exact ⟨rfl, _, Eq.trans (World.drewN_drewN _ _ _) (congrArg (World.drewN _) (Nat.add_assoc _ _ _))⟩))); try go_wp2_with (first | (go_at_call 47; (with_reducible refine (cmp_Compare_string.calls (rdOf ByteArray.empty t128 t134) (rdOf ByteArray.empty t131 t134) t137 _ A16.out).mono ?_); rintro e w' ⟨rfl, ⟨nd, rfl⟩⟩; (try first | exact ⟨rfl, _, World.drewN_drewN _ _ _⟩ | exact ⟨rfl, _, Eq.trans (World.drewN_drewN _ _ _) (congrArg (World.drewN _) (Nat.add_assoc _ _ _))⟩))))
   go_ret
   exact ⟨er_, bel_⟩
attribute [local go_sem] max2_int min2_int max_two min_two max_three min_three max_four min_four
set_option linter.unusedVariables false
set_option linter.unusedSimpArgs false
def copseref02_shared.l0 : Nat → List ByteArray → List ByteArray → Int → Option (Int)
 | 0, _, _, _ => none
 | k + 1, x0, x1, x5 => if x5 < (x0.length : Int) then (if x5 < (x1.length : Int) then (if 0 ≤ x5 then (if (rdOf ByteArray.empty x0 x5).toList = (rdOf ByteArray.empty x1 x5).toList then (copseref02_shared.l0 k x0 x1 (wrap64 (x5 + 1))) else (some x5)) else (none)) else (some x5)) else (some x5)
def copseref02_shared.f (k : Nat) (l0 : List ByteArray) (l1 : List ByteArray) : Option (Int) := copseref02_shared.l0 k l0 l1 0
set_option maxHeartbeats 8000000 in
set_option maxRecDepth 100000 in
theorem copseref02_shared.calls (k : Nat) (A0 : Option Addr) (c0 : Nat) (l0 : List ByteArray) (A1 : Option Addr) (c1 : Nat) (l1 : List ByteArray) (r : Int) (w : World) (hr0 : Kd.C Kd.string w A0 l0.length l0) (hc0 : l0.length ≤ c0) (hr1 : Kd.C Kd.string w A1 l1.length l1) (hc1 : l1.length ≤ c1) (h : copseref02_shared.f k l0 l1 = some r) :
  Calls Tryz.prog 91 #[.slice A0 l0.length c0, .slice A1 l1.length c1] w fun e w' => e = .returned (.int .i64 r) ∧ Drawn0 w w' := by
 have HR0 := Aside0.mk hr0
 have HC0 := Aside0.mk hc0
 clear hr0 hc0
 have HR1 := Aside0.mk hr1
 have HC1 := Aside0.mk hc1
 clear hr1 hc1
 have H : (copseref02_shared.l0 k l0 l1 0) = some r := h
 clear h
 have H' := Aside0.mk H
 clear H
 go_enter Tryz.func91, Tryz.ntmps91
 go_wp2
 repeat (go_quiet (fail); try go_wp2)
 go_loopg [5] k (fun kq v5 w' => ∃ (x5_1 : Int), v5 = .int .i64 x5_1 ∧ Aside0 (copseref02_shared.l0 kq l0 l1 x5_1 = some r) ∧ Aside0 (kq ≤ k) ∧ Drawn0 w w')
 case atStart => exact ⟨(0), (rf_), H', ⟨Nat.le_refl _⟩, dr_⟩
 case round =>
  clear H'
  try clear c1
  try clear p2
  obtain ⟨x5_1, rfl, HA, HK1, ⟨m1, rfl⟩⟩ := hrel
  cases gk with
  | zero => exact absurd HA.out (by simp [copseref02_shared.l0])
  | succ k1 =>
   have H := HA.out
   clear HA
   simp only [copseref02_shared.l0] at H
   by_cases c3 : x5_1 < (l0.length : Int)
   rotate_left
   ·rw [if_neg c3] at H
    have c3b0 := decide_eq_false c3
    clear c3
    obtain rfl := Option.some.inj H
    go_wp2
    repeat (go_quiet (fail); try go_wp2)
    go_ret
    exact ⟨rf_, dr_⟩
   rw [if_pos c3] at H
   have c3b0 := decide_eq_true c3
   clear c3
   by_cases c4 : x5_1 < (l1.length : Int)
   rotate_left
   ·rw [if_neg c4] at H
    have c4b0 := decide_eq_false c4
    clear c4
    obtain rfl := Option.some.inj H
    go_wp2
    repeat (go_quiet (fail); try go_wp2)
    go_ret
    exact ⟨rf_, dr_⟩
   rw [if_pos c4] at H
   have c4b0 := decide_eq_true c4
   clear c4
   by_cases c5 : 0 ≤ x5_1
   rotate_left
   ·rw [if_neg c5] at H
    exact absurd H (by simp)
   rw [if_pos c5] at H
   have c5b0 := decide_eq_true c5
   clear c5
   by_cases c6 : (rdOf ByteArray.empty l0 x5_1).toList = (rdOf ByteArray.empty l1 x5_1).toList
   ·rw [if_pos c6] at H
    have c6b0 : ((rdOf ByteArray.empty l0 x5_1).toList == (rdOf ByteArray.empty l1 x5_1).toList) = true := beq_iff_eq.mpr c6
    have c6b1 : ((rdOf ByteArray.empty l0 x5_1).toList != (rdOf ByteArray.empty l1 x5_1).toList) = false := bne_eq_false_iff_eq.mpr c6
    clear c6
    have H' := Aside0.mk H
    clear H
    have p368 : 0 ≤ (x5_1 : Int) := of_decide_eq_true (by assumption)
    have q368 : x5_1 < (l0.length : Int) := of_decide_eq_true (by assumption)
    obtain ⟨ad368, e368, hx368_0⟩ := Kd.at_string HR0.out x5_1 p368 q368
    cases e368
    replace p368 := eq_true p368
    replace q368 := eq_true q368
    have p369 : 0 ≤ (x5_1 : Int) := of_decide_eq_true (by assumption)
    have q369 : x5_1 < (l1.length : Int) := of_decide_eq_true (by assumption)
    obtain ⟨ad369, e369, hx369_0⟩ := Kd.at_string HR1.out x5_1 p369 q369
    cases e369
    replace p369 := eq_true p369
    replace q369 := eq_true q369
    go_wp2
    repeat (go_quiet (fail); try go_wp2)
    go_roundg k1
    case measure => have := HK1.out; omega
    case rel => exact ⟨(wrap64 (x5_1 + 1)), (rf_), H', ⟨by have := HK1.out; omega⟩, dr_⟩
   rw [if_neg c6] at H
   have c6b0 : ((rdOf ByteArray.empty l0 x5_1).toList == (rdOf ByteArray.empty l1 x5_1).toList) = false := beq_eq_false_iff_ne.mpr c6
   have c6b1 : ((rdOf ByteArray.empty l0 x5_1).toList != (rdOf ByteArray.empty l1 x5_1).toList) = true := bne_iff_ne.mpr c6
   obtain rfl := Option.some.inj H
   have p368 : 0 ≤ (x5_1 : Int) := of_decide_eq_true (by assumption)
   have q368 : x5_1 < (l0.length : Int) := of_decide_eq_true (by assumption)
   obtain ⟨ad368, e368, hx368_0⟩ := Kd.at_string HR0.out x5_1 p368 q368
   cases e368
   replace p368 := eq_true p368
   replace q368 := eq_true q368
   have p369 : 0 ≤ (x5_1 : Int) := of_decide_eq_true (by assumption)
   have q369 : x5_1 < (l1.length : Int) := of_decide_eq_true (by assumption)
   obtain ⟨ad369, e369, hx369_0⟩ := Kd.at_string HR1.out x5_1 p369 q369
   cases e369
   replace p369 := eq_true p369
   replace q369 := eq_true q369
   go_wp2
   repeat (go_quiet (fail); try go_wp2)
   go_ret
   exact ⟨rf_, dr_⟩
def copseref02_Above.f (k : Nat) (a0 : ByteArray) (a1 : ByteArray) : Option (Bool) := (copseref02_Split.f k a0).bind fun t370 => ((copseref02_Split.f k a1).bind fun t373 => (if (t370.length : Int) < (t373.length : Int) then ((copseref02_shared.f k t370 t373).bind fun t376 => (some (t376 == (t370.length : Int)))) else (some false)))
set_option maxHeartbeats 8000000 in
set_option maxRecDepth 100000 in
theorem copseref02_Above.calls (k : Nat) (a0 : ByteArray) (a1 : ByteArray) (r : Bool) (w : World) (h : copseref02_Above.f k a0 a1 = some r) :
  Calls Tryz.prog 80 #[.string a0, .string a1] w fun e w' => e = .returned (.bool r) ∧ Below w.heap.size w w' := by
 have HB := Aside0.mk (Below.refl w.heap.size w)
 have H : ((copseref02_Split.f k a0).bind fun t370 => ((copseref02_Split.f k a1).bind fun t373 => (if (t370.length : Int) < (t373.length : Int) then ((copseref02_shared.f k t370 t373).bind fun t376 => (some (t376 == (t370.length : Int)))) else (some false)))) = some r := h
 clear h
 replace H := Option.bind_eq_some_iff.mp H
 obtain ⟨t370, A30, H⟩ := H
 try dsimp only at H
 have A3 := Aside0.mk A30
 clear A30
 replace H := Option.bind_eq_some_iff.mp H
 obtain ⟨t373, A40, H⟩ := H
 try dsimp only at H
 have A4 := Aside0.mk A40
 clear A40
 by_cases c5 : (t370.length : Int) < (t373.length : Int)
 rotate_left
 ·rw [if_neg c5] at H
  have c5b0 := decide_eq_false c5
  have c5b1 : decide (t370.length < t373.length) = false := decide_eq_false (fun h => c5 (Int.ofNat_lt.mpr h))
  clear c5
  obtain rfl := Option.some.inj H
  go_enter Tryz.func80, Tryz.ntmps80
  go_wp2_with (first | ((with_reducible refine gate_callee (f := 51) rfl ?_); refine goesL_ (some 8) rfl rfl Tryz.func51 (by kernel_rfl) rfl #[.string a0] rfl (mp_) ?_; (with_reducible refine (copseref02_Split.calls k a0 t370 _ A3.out).mono ?_); rintro e w11 ⟨v371, rfl, ho0, hb⟩; refine ⟨_, rfl, ?_⟩; have n0_ := Aside0.mk (Kd.R_lower ho0 (below_size (bel_))); have n1_ := Aside0.mk (below_step (bel_) hb); clear HB; have HO372 := n0_; have HB := n1_; clear n0_ n1_; (try clear hb); (try clear hb2); (try clear hk); (try clear hi); (try clear ho0)) | ((with_reducible refine gate_callee (f := 51) rfl ?_); refine goesL_ (some 10) rfl rfl Tryz.func51 (by kernel_rfl) rfl #[.string a1] rfl (mp_) ?_; (with_reducible refine (copseref02_Split.calls k a1 t373 _ A4.out).mono ?_); rintro e w12 ⟨v374, rfl, ho0, hb⟩; refine ⟨_, rfl, ?_⟩; have n0_ := Aside0.mk (Kd.R_elder' (ur_ HO372.out) (Kd.R_base ho0) hb); have n1_ := Aside0.mk (Kd.R_lower (Kd.R_new' ho0 (Kd.R_lt (ur_ HO372.out))) (below_size (bel_))); have n2_ := Aside0.mk (below_step (bel_) hb); clear HO372; clear HB; have HO372 := n0_; have HO375 := n1_; have HB := n2_; clear n0_ n1_ n2_; (try clear hb); (try clear hb2); (try clear hk); (try clear hi); (try clear ho0); obtain ⟨Ao13, co13, eo13⟩ := Kd.R_slice HO372.out; subst eo13; obtain ⟨Ao14, co14, eo14⟩ := Kd.R_slice HO375.out; subst eo14))
  go_ret
  exact ⟨er_, bel_⟩
 rw [if_pos c5] at H
 have c5b0 := decide_eq_true c5
 have c5b1 : decide (t370.length < t373.length) = true := decide_eq_true (Int.ofNat_lt.mp c5)
 clear c5
 replace H := Option.bind_eq_some_iff.mp H
 obtain ⟨t376, A60, H⟩ := H
 try dsimp only at H
 have A6 := Aside0.mk A60
 clear A60
 obtain rfl := Option.some.inj H
 go_enter Tryz.func80, Tryz.ntmps80
 go_wp2_with (first | ((with_reducible refine gate_callee (f := 51) rfl ?_); refine goesL_ (some 8) rfl rfl Tryz.func51 (by kernel_rfl) rfl #[.string a0] rfl (mp_) ?_; (with_reducible refine (copseref02_Split.calls k a0 t370 _ A3.out).mono ?_); rintro e w7 ⟨v371, rfl, ho0, hb⟩; refine ⟨_, rfl, ?_⟩; have n0_ := Aside0.mk (Kd.R_lower ho0 (below_size (bel_))); have n1_ := Aside0.mk (below_step (bel_) hb); clear HB; have HO372 := n0_; have HB := n1_; clear n0_ n1_; (try clear hb); (try clear hb2); (try clear hk); (try clear hi); (try clear ho0)) | ((with_reducible refine gate_callee (f := 51) rfl ?_); refine goesL_ (some 10) rfl rfl Tryz.func51 (by kernel_rfl) rfl #[.string a1] rfl (mp_) ?_; (with_reducible refine (copseref02_Split.calls k a1 t373 _ A4.out).mono ?_); rintro e w8 ⟨v374, rfl, ho0, hb⟩; refine ⟨_, rfl, ?_⟩; have n0_ := Aside0.mk (Kd.R_elder' (ur_ HO372.out) (Kd.R_base ho0) hb); have n1_ := Aside0.mk (Kd.R_lower (Kd.R_new' ho0 (Kd.R_lt (ur_ HO372.out))) (below_size (bel_))); have n2_ := Aside0.mk (below_step (bel_) hb); clear HO372; clear HB; have HO372 := n0_; have HO375 := n1_; have HB := n2_; clear n0_ n1_ n2_; (try clear hb); (try clear hb2); (try clear hk); (try clear hi); (try clear ho0); obtain ⟨Ao9, co9, eo9⟩ := Kd.R_slice HO372.out; subst eo9; obtain ⟨Ao10, co10, eo10⟩ := Kd.R_slice HO375.out; subst eo10) | (go_at_call 91; (with_reducible refine (copseref02_shared.calls k _ _ t370 _ _ t373 t376 _ ?side1 ?side2 ?side3 ?side4 A6.out).mono ?_); (case side1 => repeat (first | exact (Kd.R_reads' HO372.out).2.2 | (with_reducible refine Kd.C_alloc ?_ _) | (with_reducible refine Kd.C_drewN ?_ _) | (with_reducible refine Kd.C_drew ?_))); (case side2 => exact (Kd.R_reads' HO372.out).2.1); (case side3 => repeat (first | exact (Kd.R_reads' HO375.out).2.2 | (with_reducible refine Kd.C_alloc ?_ _) | (with_reducible refine Kd.C_drewN ?_ _) | (with_reducible refine Kd.C_drew ?_))); (case side4 => exact (Kd.R_reads' HO375.out).2.1); rintro e w' ⟨rfl, ⟨nd, rfl⟩⟩))
 go_ret
 exact ⟨er_, bel_⟩
theorem cmpS_cons_same (c : UInt8) (x y : Str) : cmpS (c :: x) (c :: y) = cmpS x y := by simp [cmpS, Op.bytesLess]
theorem cmpS_cons_lt {c d : UInt8} (h : c.toNat < d.toNat) (x y : Str) : cmpS (c :: x) (d :: y) = -1 := by
 have : c < d := by rw [UInt8.lt_iff_toNat_lt]; exact h
 simp [cmpS, Op.bytesLess, this]
theorem cmpS_cons_gt {c d : UInt8} (h : d.toNat < c.toNat) (x y : Str) : cmpS (c :: x) (d :: y) = 1 := by
 have h1 : d < c := by rw [UInt8.lt_iff_toNat_lt]; exact h
 have h2 : ¬ c < d := by rw [UInt8.lt_iff_toNat_lt]; omega
 have h3 : ¬ c = d := by rintro rfl; omega
 simp [cmpS, Op.bytesLess, h1, h2, h3]
theorem cmpS_nil_cons (c : UInt8) (x : Str) : cmpS [] (c :: x) = -1 := by simp [cmpS, Op.bytesLess]
theorem cmpS_cons_nil (c : UInt8) (x : Str) : cmpS (c :: x) [] = 1 := by simp [cmpS, Op.bytesLess]
theorem cmpS_nil : cmpS [] [] = 0 := by simp [cmpS, Op.bytesLess]
theorem ref_bytes_run (a b : ByteArray) (ha : a.size ≤ 4294967296) (d : Nat) : ∀ i, a.size - i = d → i ≤ a.size → i ≤ b.size → Ev (fun k => copseref02_bytes.l0 k a b (i : Int)) (cmpS ((bs a).drop i) ((bs b).drop i)) := by
 induction d with
 | zero =>
  intro i hd hi hb
  refine ⟨2, fun k hk => ?_⟩
  obtain ⟨k, rfl⟩ : ∃ m, k = m + 2 := ⟨k - 2, by omega⟩
  simp only [copseref02_bytes.l0, copseref02_bytes.j1]
  rw [if_neg (by omega), if_neg (by decide), List.drop_of_length_le (l := bs a) (by rw [bs_size]; omega)]
  by_cases h : i = b.size
  ·rw [if_neg (by omega), if_neg (by omega), List.drop_of_length_le (l := bs b) (by rw [bs_size]; omega), cmpS_nil]
  rw [if_pos (by omega), bs_drop b i (by omega), cmpS_nil_cons]
 | succ d ih =>
  intro i hd hi hb
  rw [bs_drop a i (by omega)]
  by_cases h : i = b.size
  ·refine ⟨2, fun k hk => ?_⟩
   obtain ⟨k, rfl⟩ : ∃ m, k = m + 2 := ⟨k - 2, by omega⟩
   simp only [copseref02_bytes.l0, copseref02_bytes.j1]
   rw [if_pos (by omega), if_neg (by rw [decide_eq_true_eq]; omega), if_neg (by omega), if_pos (by omega), List.drop_of_length_le (l := bs b) (by rw [bs_size]; omega), cmpS_cons_nil]
  have hA := bt_get a i (by omega)
  have hB := bt_get b i (by omega)
  rw [bs_drop b i (by omega)]
  obtain ⟨K, hK⟩ := ih (i + 1) (by omega) (by omega) (by omega)
  dsimp only at hK
  refine ⟨K + 2, fun k hk => ?_⟩
  obtain ⟨k, rfl⟩ : ∃ m, k = m + 2 := ⟨k - 2, by omega⟩
  simp only [copseref02_bytes.l0, copseref02_bytes.j1]
  rw [if_pos (by omega), if_pos (by rw [decide_eq_true_eq]; omega), if_pos (by omega), if_pos (by omega), if_pos (by omega), hA, hB]
  by_cases h1 : ((bs a)[i]'(by rw [bs_size]; omega)).toNat < ((bs b)[i]'(by rw [bs_size]; omega)).toNat
  ·rw [if_pos (by omega), cmpS_cons_lt h1]
  rw [if_neg (by omega)]
  by_cases h2 : ((bs b)[i]'(by rw [bs_size]; omega)).toNat < ((bs a)[i]'(by rw [bs_size]; omega)).toNat
  ·rw [if_pos (by omega), cmpS_cons_gt h2]
  rw [if_neg (by omega), wrap_succ (n := a.size) (by omega) (by omega), hK k (by omega)]
  have e : (bs a)[i]'(by rw [bs_size]; omega) = (bs b)[i]'(by rw [bs_size]; omega) := UInt8.toNat_inj.1 (by omega)
  rw [e, cmpS_cons_same]
theorem ref_bytes (a b : ByteArray) (ha : a.size ≤ 4294967296) : Ev (fun k => copseref02_bytes.f k a b) (cmpS (bs a) (bs b)) :=
 ref_bytes_run a b ha a.size 0 (by omega) (by omega) (by omega)
theorem ref_cmp_run (x y : List ByteArray) (hx : x.length ≤ 4294967296) (hs : ∀ p ∈ x, p.size ≤ 4294967296) (d : Nat) : ∀ i, x.length - i = d → i ≤ x.length → i ≤ y.length → Ev (fun k => copseref02_Cmp.l0 k x y (i : Int)) (cmpL ((x.drop i).map bs) ((y.drop i).map bs)) := by
 induction d with
 | zero =>
  intro i hd hi hb
  refine ⟨2, fun k hk => ?_⟩
  obtain ⟨k, rfl⟩ : ∃ m, k = m + 2 := ⟨k - 2, by omega⟩
  simp only [copseref02_Cmp.l0, copseref02_Cmp.j1]
  rw [if_neg (by omega), if_neg (by decide), List.drop_of_length_le (l := x) (by omega)]
  by_cases h : i = y.length
  ·rw [if_neg (by omega), if_neg (by omega), List.drop_of_length_le (l := y) (by omega)]; rfl
  rw [if_pos (by omega), rdOf_drop y i (by omega)]; rfl
 | succ d ih =>
  intro i hd hi hb
  rw [rdOf_drop x i (by omega)]
  by_cases h : i = y.length
  ·refine ⟨2, fun k hk => ?_⟩
   obtain ⟨k, rfl⟩ : ∃ m, k = m + 2 := ⟨k - 2, by omega⟩
   simp only [copseref02_Cmp.l0, copseref02_Cmp.j1]
   rw [if_pos (by omega), if_neg (by rw [decide_eq_true_eq]; omega), if_neg (by omega), if_pos (by omega), List.drop_of_length_le (l := y) (by omega)]; rfl
  rw [rdOf_drop y i (by omega)]
  have hmem : rdOf ByteArray.empty x (i : Int) ∈ x := List.mem_of_mem_drop (i := i) (by rw [rdOf_drop x i (by omega)]; exact List.mem_cons_self)
  obtain ⟨K, hK⟩ := ih (i + 1) (by omega) (by omega) (by omega)
  dsimp only at hK
  obtain ⟨K2, hK2⟩ := ref_bytes (rdOf ByteArray.empty x (i : Int)) (rdOf ByteArray.empty y (i : Int)) (hs _ hmem)
  dsimp only at hK2
  refine ⟨max K K2 + 2, fun k hk => ?_⟩
  obtain ⟨k, rfl⟩ : ∃ m, k = m + 2 := ⟨k - 2, by omega⟩
  simp only [copseref02_Cmp.l0, copseref02_Cmp.j1]
  rw [if_pos (by omega), if_pos (by rw [decide_eq_true_eq]; omega), if_pos (by omega), if_pos (by omega), if_pos (by omega), hK2 k (by omega), Option.bind_some]
  simp only [List.map_cons, cmpL]
  by_cases e : rdOf ByteArray.empty x (i : Int) = rdOf ByteArray.empty y (i : Int)
  ·rw [if_pos (by rw [e, cmpS_self]), if_pos (by rw [e]), wrap_succ (n := x.length) (by omega) (by omega), hK k (by omega)]
  have e' : ¬ bs (rdOf ByteArray.empty x (i : Int)) = bs (rdOf ByteArray.empty y (i : Int)) := fun h => e (bs_inj h)
  rw [if_neg (fun h => e' (cmpS_eq h)), if_neg e']
theorem spl_piece_le (s : Str) : ∀ cur, ∀ p ∈ splC cur s, p.length ≤ cur.length + s.length := by
 induction s with
 | nil => intro cur p hp; rw [splC_nil] at hp; rw [List.mem_singleton.1 hp]; simp
 | cons c r ih =>
  intro cur p hp
  by_cases h : c = 47
  ·subst h
   rw [splC_slash] at hp
   rcases List.mem_cons.1 hp with rfl | hp
   ·simp
   have := ih [] p hp; simp only [List.length_nil, List.length_cons] at this ⊢; omega
  rw [splC_other cur r h] at hp
  have := ih _ p hp
  simp only [List.length_append, List.length_cons, List.length_nil] at this ⊢; omega
theorem pB_piece_le (a : ByteArray) : ∀ p ∈ pB a, p.size ≤ a.size := by
 intro p hp
 unfold pB at hp
 obtain ⟨q, hq, rfl⟩ := List.mem_map.1 hp
 have : (mk q).size = q.length := by rw [← bs_size, bs_mk]
 rw [this]
 unfold pcs at hq
 split at hq
 ·cases hq
 rw [← splC_whole] at hq
 have := spl_piece_le (bs a) [] q hq
 rw [bs_size] at this; simpa using this
theorem ref_cmp (a b : ByteArray) (ha : a.size ≤ 4294967295) (hb : b.size ≤ 4294967295) : Ev (fun k => copseref02_Cmp.f k a b) (cB a b) := by
 have hla := pB_length_le a
 refine Ev.bind (ref_split a (by omega)) (Ev.bind (ref_split b (by omega)) ?_)
 have := ref_cmp_run (pB a) (pB b) (by omega) (fun p hp => by have := pB_piece_le a p hp; omega) (pB a).length 0 (by omega) (by omega) (by omega)
 refine Ev.val this ?_
 rw [List.drop_zero, List.drop_zero, pB_bs, pB_bs]; rfl
theorem prog_common (x y : List ByteArray) (hx : x.length ≤ 4294967296) : Ev (fun k => path_common.f k x y) (comL x y : Int) := Ev.of (path_common.mono x y) (common_ends x y (by omega))
theorem prog_cmp (a b : ByteArray) (ha : a.size < 4294967281) (hb : b.size < 4294967281) : Ev (fun k => path_Cmp.f k a b) (cB a b) := by
 have hla := pB_length_le a
 refine Ev.bind (prog_split a ha) (Ev.bind (prog_split b hb) (Ev.bind (prog_common (pB a) (pB b) (by omega)) ?_))
 refine ⟨1, fun k hk => ?_⟩
 obtain ⟨k, rfl⟩ : ∃ m, k = m + 1 := ⟨k - 1, by omega⟩
 rw [cB_com]
 obtain ⟨hc1, hc2⟩ := comL_le (pB a) (pB b)
 simp only [path_Cmp.j0]
 by_cases h1 : comL (pB a) (pB b) < (pB a).length
 ·rw [if_pos (by omega)]
  by_cases h2 : comL (pB a) (pB b) < (pB b).length
  ·rw [if_pos (by rw [decide_eq_true_eq]; omega), if_pos (by omega), if_pos (by omega), if_pos (by omega), compare_string_is, if_pos ⟨h1, h2⟩]; rfl
  rw [if_neg (by rw [decide_eq_true_eq]; omega), compare_int_is, if_neg (show ¬ (comL (pB a) (pB b) < (pB a).length ∧ comL (pB a) (pB b) < (pB b).length) from fun h => h2 h.2)]; rfl
 rw [if_neg (by omega), if_neg (by decide), compare_int_is, if_neg (show ¬ (comL (pB a) (pB b) < (pB a).length ∧ comL (pB a) (pB b) < (pB b).length) from fun h => h1 h.1)]; rfl
def aboveB (a b : ByteArray) : Bool := decide ((pB a).length < (pB b).length) && decide (comL (pB a) (pB b) = (pB a).length)
theorem ref_shared_run (x y : List ByteArray) (hx : x.length ≤ 4294967296) (d : Nat) : ∀ i, x.length - i = d → i ≤ x.length → i ≤ y.length → Ev (fun k => copseref02_shared.l0 k x y (i : Int)) ((i + comL (x.drop i) (y.drop i) : Nat) : Int) := by
 induction d with
 | zero =>
  intro i hd hi hb
  refine ⟨1, fun k hk => ?_⟩
  obtain ⟨k, rfl⟩ : ∃ m, k = m + 1 := ⟨k - 1, by omega⟩
  simp only [copseref02_shared.l0]
  rw [if_neg (by omega), List.drop_of_length_le (l := x) (by omega)]; simp [comL]
 | succ d ih =>
  intro i hd hi hb
  rw [rdOf_drop x i (by omega)]
  by_cases h : i = y.length
  ·refine ⟨1, fun k hk => ?_⟩
   obtain ⟨k, rfl⟩ : ∃ m, k = m + 1 := ⟨k - 1, by omega⟩
   simp only [copseref02_shared.l0]
   rw [if_pos (by omega), if_neg (by omega), List.drop_of_length_le (l := y) (by omega)]; simp [comL]
  rw [rdOf_drop y i (by omega)]
  obtain ⟨K, hK⟩ := ih (i + 1) (by omega) (by omega) (by omega)
  dsimp only at hK
  refine ⟨K + 1, fun k hk => ?_⟩
  obtain ⟨k, rfl⟩ : ∃ m, k = m + 1 := ⟨k - 1, by omega⟩
  simp only [copseref02_shared.l0]
  rw [if_pos (by omega), if_pos (by omega), if_pos (by omega)]
  by_cases e : rdOf ByteArray.empty x (i : Int) = rdOf ByteArray.empty y (i : Int)
  ·rw [if_pos (by rw [e]), wrap_succ (n := x.length) (by omega) (by omega), hK k (by omega), e, comL_same]
   congr 2; omega
  rw [if_neg (fun h => e (bs_inj (by rw [← toList_bs, ← toList_bs]; exact h))), comL_diff e]; rfl
theorem ref_shared (x y : List ByteArray) (hx : x.length ≤ 4294967296) : Ev (fun k => copseref02_shared.f k x y) (comL x y : Int) := by
 have := ref_shared_run x y hx x.length 0 (by omega) (by omega) (by omega)
 refine Ev.val this ?_
 simp
theorem above_val (x y : List ByteArray) : ((comL x y : Int) == (x.length : Int)) = decide (comL x y = x.length) := by
 rw [Bool.eq_iff_iff, beq_iff_eq, decide_eq_true_eq]; omega
theorem ref_above (a b : ByteArray) (ha : a.size ≤ 4294967295) (hb : b.size ≤ 4294967295) : Ev (fun k => copseref02_Above.f k a b) (aboveB a b) := by
 have hla := pB_length_le a
 refine Ev.bind (ref_split a (by omega)) (Ev.bind (ref_split b (by omega)) ?_)
 unfold aboveB
 by_cases h : (pB a).length < (pB b).length
 ·refine Ev.congr (f := fun k => (copseref02_shared.f k (pB a) (pB b)).bind fun t => some (t == ((pB a).length : Int))) (fun k => by rw [if_pos (by omega)]) ?_
  refine Ev.bind (ref_shared (pB a) (pB b) (by omega)) (ev_pure fun k => ?_)
  rw [above_val, decide_eq_true h, Bool.true_and]
 refine ev_pure fun k => ?_
 rw [if_neg (by omega), decide_eq_false h, Bool.false_and]
theorem prog_above (a b : ByteArray) (ha : a.size < 4294967281) (hb : b.size < 4294967281) : Ev (fun k => path_Above.f k a b) (aboveB a b) := by
 have hla := pB_length_le a
 refine Ev.bind (prog_split a ha) (Ev.bind (prog_split b hb) ?_)
 unfold aboveB
 by_cases h : (pB a).length < (pB b).length
 ·refine Ev.congr (f := fun k => (path_common.f k (pB a) (pB b)).bind fun t => some (t == ((pB a).length : Int))) (fun k => by rw [if_pos (by omega)]) ?_
  refine Ev.bind (prog_common (pB a) (pB b) (by omega)) (ev_pure fun k => ?_)
  rw [above_val, decide_eq_true h, Bool.true_and]
 refine ev_pure fun k => ?_
 rw [if_neg (by omega), decide_eq_false h, Bool.false_and]
def lastIx : Str → Int → Int → Int
 | [], _, acc => acc
 | c :: r, i, acc => lastIx r (i + 1) (if c = 47 then i else acc)
theorem lastIx_snoc (l : Str) (c : UInt8) : ∀ i acc, lastIx (l ++ [c]) i acc = if c = 47 then i + l.length else lastIx l i acc := by
 induction l with
 | nil => intro i acc; simp [lastIx]
 | cons x l ih =>
  intro i acc
  simp only [List.cons_append, lastIx, ih, List.length_cons]
  split
  ·omega
  rfl
theorem lastIx_le (l : Str) : ∀ i acc : Int, acc < i + l.length → -1 ≤ acc → 0 ≤ i → lastIx l i acc < i + l.length ∧ -1 ≤ lastIx l i acc := by
 induction l with
 | nil => intro i acc h h1 _; exact ⟨h, h1⟩
 | cons x l ih =>
  intro i acc h h1 h0
  simp only [lastIx, List.length_cons] at h ⊢
  have := ih (i + 1) (if x = 47 then i else acc) (by split <;> omega) (by split <;> omega) (by omega)
  omega
def lastS (s : Str) : Int := lastIx s 0 (-1)
theorem lastS_bd (s : Str) : lastS s < s.length ∧ -1 ≤ lastS s := by
 have := lastIx_le s 0 (-1) (by omega) (by omega) (by omega)
 unfold lastS; omega
theorem ref_last_run (a : ByteArray) (ha : a.size ≤ 4294967296) (d : Nat) : ∀ (i : Nat) (acc : Int), a.size - i = d → i ≤ a.size → Ev (fun k => copseref02_last.l0 k a acc (i : Int)) (lastIx ((bs a).drop i) i acc) := by
 induction d with
 | zero =>
  intro i acc hd hi
  refine ⟨1, fun k hk => ?_⟩
  obtain ⟨k, rfl⟩ : ∃ m, k = m + 1 := ⟨k - 1, by omega⟩
  simp only [copseref02_last.l0]
  rw [if_neg (by omega), List.drop_of_length_le (by rw [bs_size]; omega)]; rfl
 | succ d ih =>
  intro i acc hd hi
  rw [bs_drop a i (by omega)]
  by_cases h : bt a (i : Int) = 47
  ·obtain ⟨K, hK⟩ := ih (i + 1) i (by omega) (by omega)
   dsimp only at hK
   refine ⟨K + 1, fun k hk => ?_⟩
   obtain ⟨k, rfl⟩ : ∃ m, k = m + 1 := ⟨k - 1, by omega⟩
   simp only [copseref02_last.l0]
   rw [if_pos (by omega), if_pos (by omega), if_pos h, wrap_succ (n := a.size) (by omega) (by omega), hK k (by omega), (bt_eq a i (by omega) 47 47 rfl).1 h]
   simp [lastIx]
  obtain ⟨K, hK⟩ := ih (i + 1) acc (by omega) (by omega)
  dsimp only at hK
  refine ⟨K + 1, fun k hk => ?_⟩
  obtain ⟨k, rfl⟩ : ∃ m, k = m + 1 := ⟨k - 1, by omega⟩
  simp only [copseref02_last.l0]
  have h' : (bs a)[i]'(by rw [bs_size]; omega) ≠ 47 := fun e => h ((bt_eq a i (by omega) 47 47 rfl).2 e)
  rw [if_pos (by omega), if_pos (by omega), if_neg h, wrap_succ (n := a.size) (by omega) (by omega), hK k (by omega)]
  simp [lastIx, h']
theorem ref_last (a : ByteArray) (ha : a.size ≤ 4294967296) : Ev (fun k => copseref02_last.f k a) (lastS (bs a)) :=
 Ev.val (ref_last_run a ha a.size 0 (-1) (by omega) (by omega)) rfl
theorem prog_last_run (a : ByteArray) (ha : a.size ≤ 4294967296) : ∀ j : Nat, j ≤ a.size → Ev (fun k => bytealg_LastIndexByteString.l0 k a 47 ((j : Int) - 1)) (lastIx ((bs a).take j) 0 (-1))
 | 0, _ => by
  refine ⟨1, fun k hk => ?_⟩
  obtain ⟨k, rfl⟩ : ∃ m, k = m + 1 := ⟨k - 1, by omega⟩
  simp only [bytealg_LastIndexByteString.l0]
  rw [if_neg (by omega)]; rfl
 | j + 1, hj => by
  have hlen : j < (bs a).length := by rw [bs_size]; omega
  rw [List.take_succ_eq_append_getElem hlen, lastIx_snoc]
  have ej : ((j + 1 : Nat) : Int) - 1 = (j : Int) := by omega
  rw [ej]
  by_cases h : bt a (j : Int) = 47
  ·refine ⟨1, fun k hk => ?_⟩
   obtain ⟨k, rfl⟩ : ∃ m, k = m + 1 := ⟨k - 1, by omega⟩
   simp only [bytealg_LastIndexByteString.l0]
   rw [if_pos (by omega), if_pos (by omega), if_pos (by omega), if_pos h, if_pos ((bt_eq a j (by omega) 47 47 rfl).1 h)]
   congr 1; rw [List.length_take]; omega
  ·obtain ⟨K, hK⟩ := prog_last_run a ha j (by omega)
   dsimp only at hK
   refine ⟨K + 1, fun k hk => ?_⟩
   obtain ⟨k, rfl⟩ : ∃ m, k = m + 1 := ⟨k - 1, by omega⟩
   simp only [bytealg_LastIndexByteString.l0]
   rw [if_pos (by omega), if_pos (by omega), if_pos (by omega), if_neg h, wrap_add (by omega) (by omega), hK k (by omega), if_neg (fun e => h ((bt_eq a j (by omega) 47 47 rfl).2 e))]
theorem prog_last (a : ByteArray) (ha : a.size ≤ 4294967296) : Ev (fun k => strings_LastIndexByte.f k a 47) (lastS (bs a)) := by
 refine Ev.bind (a := lastS (bs a)) (Ev.congr (f := fun k => bytealg_LastIndexByteString.l0 k a 47 ((a.size : Int) - 1)) (fun k => ?_) ?_) (ev_pure fun _ => rfl)
 ·unfold bytealg_LastIndexByteString.f
  rw [wrap_add (by omega) (by omega)]
 refine Ev.val (prog_last_run a ha a.size (Nat.le_refl _)) ?_
 rw [List.take_of_length_le (by rw [bs_size]; exact Nat.le_refl _)]; rfl
open Go.RowKit Go.Shelf Go.Proofs.YtehfogjibhnabaaGreatDoorW.PrintWords Go.Proofs.YtehfogjibhnabaaGreatDoorW.PrintLast Go.Proofs.YtehfogjibhnabaaGreatDoorW.PrintMore
open Go.Proofs.YtehfogjibhnabaaGreatDoor.Sp Go.Sort
theorem le_lt {a b c : Str} (h : cmpP a b ≤ 0) (k : cmpP b c < 0) : cmpP a c < 0 := by
 by_cases e : cmpP a b = 0
 ·rw [cmpP_eq e]; exact k
 exact cmpP_trans (by omega) k
theorem le_le {a b c : Str} (h : cmpP a b ≤ 0) (k : cmpP b c ≤ 0) : cmpP a c ≤ 0 := by
 by_cases e : cmpP b c = 0
 ·rw [← cmpP_eq e]; exact h
 have := le_lt h (show cmpP b c < 0 by omega); omega
abbrev Sh := { s : ByteArray // s.size < 4294967281 }
instance : Inhabited Sh := ⟨⟨ByteArray.empty, by decide⟩⟩
def cmpSh (x y : Sh) : Int := cB x.1 y.1
theorem ltSh (x y : Sh) : ltOf cmpSh x y = true ↔ cB x.1 y.1 < 0 := by unfold ltOf cmpSh; exact decide_eq_true_iff
theorem swoSh : SWO (ltOf cmpSh) where
 irrefl x := by simp [ltOf, cmpSh, cB_self]
 trans x y z h k := (ltSh x z).2 (cB_trans ((ltSh x y).1 h) ((ltSh y z).1 k))
 ntrans x y z h k := by
  have h' : ¬ cB x.1 y.1 < 0 := fun e => by rw [(ltSh x y).2 e] at h; cases h
  have k' : ¬ cB y.1 z.1 < 0 := fun e => by rw [(ltSh y z).2 e] at k; cases k
  rw [← Bool.not_eq_true, ltSh]
  have h1 := cB_neg x.1 y.1
  have k1 := cB_neg y.1 z.1
  intro e
  have e1 := cB_neg x.1 z.1
  have : cmpP (bs z.1) (bs x.1) ≤ 0 := le_le (b := bs y.1) (by show cB z.1 y.1 ≤ 0; omega) (by show cB y.1 x.1 ≤ 0; omega)
  have : cB z.1 x.1 ≤ 0 := this
  omega
theorem heap_putRow {α : Type} [Inhabited α] (enc : α → Value) (w : World) (g off : Nat) (d : Array α) {c : Array Value} {e : TypeId} {fr : Nat × Nat} (h : w.heap[g]? = some (.cells c e fr)) : (putRow enc w g off d).heap[g]? = some (.cells (putCells enc off d c) e fr) := by
 unfold putRow mapBlock
 simp [Array.getElem?_modify, h, onCells]
theorem heap_putRow_other {α : Type} [Inhabited α] (enc : α → Value) (w : World) (g off : Nat) (d : Array α) {k : Nat} (h : k ≠ g) : (putRow enc w g off d).heap[k]? = w.heap[k]? := by
 unfold putRow mapBlock
 simp [Array.getElem?_modify, Ne.symm h]
theorem size_putCells {α : Type} [Inhabited α] (enc : α → Value) (off : Nat) (d : Array α) (c : Array Value) : (putCells enc off d c).size = c.size := by simp [putCells]
def paths_Norm.f (_k : Nat) (l0 : List ByteArray) : Option (List ByteArray) := if l0.length < 8796093022208 ∧ ∀ x ∈ l0, x.size < 4294967281 then some (norm l0) else none
theorem paths_Norm.mono : ∀ a0 k, LeO (paths_Norm.f k a0) (paths_Norm.f (k + 1) a0) := fun _ _ => LeO.refl _
end Go.Proofs.YtehfogjibhnabaaGreatDoor.PAll
