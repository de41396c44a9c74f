/- What functions of the program compute, each with its walk: a contract for every world and every argument of the kind told. -/
import Derived.Test.YtehfogjibhnabaaGreatDoorDtPAllx0
import Derived.Test.YtehfogjibhnabaaGreatDoorDtDelJ
import Derived.Test.YtehfogjibhnabaaGreatDoorDtHandA
import Derived.Test.YtehfogjibhnabaaGreatDoorDtPAlly13
import Derived.Test.YtehfogjibhnabaaGreatDoorDtPAlly3
import Derived.Test.YtehfogjibhnabaaGreatDoorDtPAlly5
import Derived.Test.YtehfogjibhnabaaGreatDoorDtPAlly15
import Derived.Test.YtehfogjibhnabaaGreatDoorDtPAlly6
import Derived.WalkKit
import Derived.WalkSpells
import Derived.BigQuiet
import Derived.Outline
import Derived.Lib.SliceRun
import Derived.RangeFuncBox
namespace Go.Proofs.YtehfogjibhnabaaGreatDoor.PAll
open Go.RowKit Go.Proofs.YtehfogjibhnabaaGreatDoorW.PrintWords Go.Proofs.YtehfogjibhnabaaGreatDoorW.PrintLast Go.Proofs.YtehfogjibhnabaaGreatDoorW.PrintMore
attribute [local go_sem] max2_int min2_int max_two min_two max_three min_three max_four min_four
set_option linter.unusedVariables false
set_option linter.unusedSimpArgs false
attribute [local go_sem high] eqA43
mutual
def delta_Join.j0 : Nat → List (S45) → List (S45) → Bool → Option ((List (S45)) × Int)
 | 0, _, _, _ => none
 | k + 1, x0, x1, x17 => if x17 = true then (some (([] : List (S45)), 9)) else (delta_Join.l0 k x0 x1 x0 (x0.length : Int) 0)
def delta_Join.l0 : Nat → List (S45) → List (S45) → List (S45) → Int → Int → Option ((List (S45)) × Int)
 | 0, _, _, _, _, _ => none
 | k + 1, x0, x1, x18, x19, x20 => if x20 < x19 then (if 0 ≤ x20 then (if x20 < (x18.length : Int) then (delta_Join.l1 k x0 x1 x18 x19 x20 x1 (x1.length : Int) 0 ((rd_T45 x18 x20).f0) ((rd_T45 x18 x20).f1) ((rd_T45 x18 x20).f2) ((rd_T45 x18 x20).f3.f0) ((rd_T45 x18 x20).f3.f1) ((rd_T45 x18 x20).f3.f2) ((rd_T45 x18 x20).f3.f3) ((rd_T45 x18 x20).f4.f0) ((rd_T45 x18 x20).f4.f1) ((rd_T45 x18 x20).f4.f2) ((rd_T45 x18 x20).f4.f3)) else (none)) else (none)) else ((delta_joined.f k x0 x1 true).bind fun t289 => (some (t289, 0)))
def delta_Join.l1 : Nat → List (S45) → List (S45) → List (S45) → Int → Int → List (S45) → Int → Int → ByteArray → Bool → Bool → ByteArray → ByteArray → Int → Int → ByteArray → ByteArray → Int → Int → Option ((List (S45)) × Int)
 | 0, _, _, _, _, _, _, _, _, _, _, _, _, _, _, _, _, _, _, _ => none
 | k + 1, x0, x1, x18, x19, x20, x24, x25, x26, x294000, x294001, x294002, x294003, x294004, x294005, x294006, x294007, x294008, x294009, x294010 => if x26 < x25 then (if 0 ≤ x26 then (if x26 < (x24.length : Int) then (if x294000.toList = ((rd_T45 x24 x26).f0).toList then (if (x294002 != ((rd_T45 x24 x26).f1)) = true then (some (([] : List (S45)), 9)) else (if (!(x294007.toList == (((rd_T45 x24 x26).f3.f0).toList)) || (!(x294008.toList == (((rd_T45 x24 x26).f3.f1).toList)) || (!(x294009 == ((rd_T45 x24 x26).f3.f2)) || (!(x294010 == ((rd_T45 x24 x26).f3.f3)))))) = true then (some (([] : List (S45)), 9)) else (delta_Join.l1 k x0 x1 x18 x19 x20 x24 x25 (wrap64 (x26 + 1)) x294000 x294001 x294002 x294003 x294004 x294005 x294006 x294007 x294008 x294009 x294010))) else (delta_Join.l1 k x0 x1 x18 x19 x20 x24 x25 (wrap64 (x26 + 1)) x294000 x294001 x294002 x294003 x294004 x294005 x294006 x294007 x294008 x294009 x294010)) else (none)) else (none)) else (delta_Join.l0 k x0 x1 x18 x19 (wrap64 (x20 + 1)))
end
def delta_Join.f (k : Nat) (l0 : List (S45)) (l1 : List (S45)) : Option ((List (S45)) × Int) := (delta_Valid.f k l0).bind fun t287 => (if t287 = true then ((delta_Valid.f k l1).bind fun t288 => (delta_Join.j0 k l0 l1 (!t288))) else (delta_Join.j0 k l0 l1 true))
set_option maxHeartbeats 8000000 in
set_option maxRecDepth 100000 in
theorem delta_Join.calls (k : Nat) (A0 : Option Addr) (c0 : Nat) (l0 : List (S45)) (A1 : Option Addr) (c1 : Nat) (l1 : List (S45)) (r1 : List (S45)) (r2 : Int) (w : World) (hr0 : Kd.C k45 w A0 l0.length l0) (hc0 : l0.length ≤ c0) (hr1 : Kd.C k45 w A1 l1.length l1) (hc1 : l1.length ≤ c1) (h : delta_Join.f k l0 l1 = some (r1, r2)) :
  Calls Tryz.prog 13 #[.slice A0 l0.length c0, .slice A1 l1.length c1] w fun e w' => ∃ v0_ : Value, e = .returned (.tuple #[v0_, .int .i64 r2]) ∧ Kd.R k45 45 w' w.heap.size (fun _ => True) v0_ r1 ∧ Below w.heap.size w w' := by
 have hu45 := Tryz.underlying45
 have hu43 := Tryz.underlying43
 have HR0 := Aside0.mk hr0
 have HC0 := Aside0.mk hc0
 clear hr0 hc0
 have HR1 := Aside0.mk hr1
 have HC1 := Aside0.mk hc1
 clear hr1 hc1
 have HB := Aside0.mk (Below.refl w.heap.size w)
 have H : ((delta_Valid.f k l0).bind fun t287 => (if t287 = true then ((delta_Valid.f k l1).bind fun t288 => (delta_Join.j0 k l0 l1 (!t288))) else (delta_Join.j0 k l0 l1 true))) = some (r1, r2) := h
 clear h
 have HC3 := Aside0.mk H
 clear H
 go_enter Tryz.func13, Tryz.ntmps13
 go_upto_region 1 with (fail)
 go_cut [17] (fun v17 wc => ∃ (kq : Nat) (x17_2 : Bool), v17 = .bool x17_2 ∧ Aside0 (delta_Join.j0 kq l0 l1 x17_2 = some (r1, r2)) ∧ Aside0 (kq ≤ k) ∧ Aside0 (Below w.heap.size w wc))
 case first =>
  have H := HC3.out
  clear HC3
  replace H := Option.bind_eq_some_iff.mp H
  obtain ⟨t287, A40, H⟩ := H
  replace H : (if t287 = true then ((delta_Valid.f k l1).bind fun t288 => (delta_Join.j0 k l0 l1 (!t288))) else (delta_Join.j0 k l0 l1 true)) = some (r1, r2) := H
  have A4 := Aside0.mk A40
  clear A40
  by_cases c5 : t287 = true
  rotate_left
  ·replace c5 := Bool.eq_false_iff.mpr c5
   subst c5
   have H1 : (delta_Join.j0 k l0 l1 true) = some (r1, r2) := by rw [if_neg (show ¬ (false = true) by decide)] at H; exact H
   clear H
   have H := H1
   clear H1
   have H' := Aside0.mk H
   clear H
   go_wp2_with (first | ((with_reducible refine gate_callee (f := 7) rfl ?_); refine goesL_ (some 11) rfl rfl Tryz.func7 (by kernel_rfl) rfl #[.slice A0 l0.length c0] rfl (mp_) ?_; (with_reducible refine (delta_Valid.calls k _ _ l0 false _ ?side1 ?side2 A4.out).mono ?_); (case side1 => repeat (first | exact (Kd.C_below HR0.out HB.out) | (with_reducible refine Kd.C_alloc ?_ _) | (with_reducible refine Kd.C_drewN ?_ _) | (with_reducible refine Kd.C_drew ?_))); (case side2 => exact HC0.out); rintro e w9 ⟨rfl, hb⟩; refine ⟨_, rfl, ?_⟩; have n0_ := Aside0.mk (below_step (bel_) hb); clear HB; have HB := n0_; clear n0_; (try clear hb); (try clear hb2); (try clear hk); (try clear hi)))
   go_meet
   case rel => exact ⟨_, (true), (rf_), H', ⟨by first | omega | exact Nat.le_refl _⟩, ⟨bel_⟩⟩
  subst c5
  have H1 : ((delta_Valid.f k l1).bind fun t288 => (delta_Join.j0 k l0 l1 (!t288))) = some (r1, r2) := by rw [if_pos rfl] at H; exact H
  clear H
  have H := H1
  clear H1
  replace H := Option.bind_eq_some_iff.mp H
  obtain ⟨t288, A60, H⟩ := H
  replace H : (delta_Join.j0 k l0 l1 (!t288)) = some (r1, r2) := H
  have A6 := Aside0.mk A60
  clear A60
  have H' := Aside0.mk H
  clear H
  go_wp2_with (first | ((with_reducible refine gate_callee (f := 7) rfl ?_); refine goesL_ (some 11) rfl rfl Tryz.func7 (by kernel_rfl) rfl #[.slice A0 l0.length c0] rfl (mp_) ?_; (with_reducible refine (delta_Valid.calls k _ _ l0 true _ ?side1 ?side2 A4.out).mono ?_); (case side1 => repeat (first | exact (Kd.C_below HR0.out HB.out) | (with_reducible refine Kd.C_alloc ?_ _) | (with_reducible refine Kd.C_drewN ?_ _) | (with_reducible refine Kd.C_drew ?_))); (case side2 => exact HC0.out); rintro e w7 ⟨rfl, hb⟩; refine ⟨_, rfl, ?_⟩; have n0_ := Aside0.mk (below_step (bel_) hb); clear HB; have HB := n0_; clear n0_; (try clear hb); (try clear hb2); (try clear hk); (try clear hi)) | (go_at_call 7; (with_reducible refine (delta_Valid.calls k _ _ l1 t288 _ ?side1 ?side2 A6.out).mono ?_); (case side1 => repeat (first | exact (Kd.C_below HR1.out HB.out) | (with_reducible refine Kd.C_alloc ?_ _) | (with_reducible refine Kd.C_drewN ?_ _) | (with_reducible refine Kd.C_drew ?_))); (case side2 => exact HC1.out); rintro e w8 ⟨rfl, hb⟩; have n0_ := Aside0.mk (below_step (bel_) hb); clear HB; have HB := n0_; clear n0_; (try clear hb); (try clear hb2); (try clear hk); (try clear hi)))
  go_meet
  case rel => exact ⟨_, (!t288), (rf_), H', ⟨by first | omega | exact Nat.le_refl _⟩, ⟨bel_⟩⟩
 case rest =>
  clear HC3
  try clear c1
  try clear p2
  try clear c5
  try clear c7
  obtain ⟨kq, x17_2, rfl, HA, HJ2, HB⟩ := hcut
  cases kq with
  | zero => exact absurd HA.out (by simp [delta_Join.j0])
  | succ kj2 =>
   have H := HA.out
   clear HA
   simp only [delta_Join.j0] at H
   by_cases c10 : x17_2 = true
   ·subst c10
    have H1 : (some (([] : List (S45)), 9)) = some (r1, r2) := by rw [if_pos rfl] at H; exact H
    clear H
    have H := H1
    clear H1
    simp only [Option.some.injEq, Prod.mk.injEq] at H
    obtain ⟨rfl, rfl⟩ := H
    go_wp2
    go_ret2
    exact ⟨_, er_, nl_, bel_⟩
   replace c10 := Bool.eq_false_iff.mpr c10
   subst c10
   have H1 : (delta_Join.l0 kj2 l0 l1 l0 (l0.length : Int) 0) = some (r1, r2) := by rw [if_neg (show ¬ (false = true) by decide)] at H; exact H
   clear H
   have H := H1
   clear H1
   have H' := Aside0.mk H
   clear H
   go_wp2
   go_loopg [20] kj2 (fun kq v20 w' => ∃ (x20_2 : Int), v20 = .int .i64 x20_2 ∧ Aside0 (delta_Join.l0 kq l0 l1 l0 (l0.length : Int) x20_2 = some (r1, r2)) ∧ Aside0 (kq ≤ kj2) ∧ Aside0 (Below w.heap.size w w'))
   case atStart => exact ⟨(0), (rf_), H', ⟨Nat.le_refl _⟩, ⟨bel_⟩⟩
   case round =>
    clear H'
    try clear c1
    try clear p2
    try clear c5
    try clear c7
    try clear c10
    try clear p2
    obtain ⟨x20_2, rfl, HA, HK2, HB⟩ := hrel
    cases gk with
    | zero => exact absurd HA.out (by simp [delta_Join.l0])
    | succ k2 =>
     have H := HA.out
     clear HA
     simp only [delta_Join.l0] at H
     by_cases c11 : x20_2 < (l0.length : Int)
     rotate_left
     ·rw [if_neg c11] at H
      have c11b0 := decide_eq_false c11
      clear c11
      replace H := Option.bind_eq_some_iff.mp H
      obtain ⟨t289, A380, H⟩ := H
      replace H : (some (t289, 0)) = some (r1, r2) := H
      have A38 := Aside0.mk A380
      clear A380
      simp only [Option.some.injEq, Prod.mk.injEq] at H
      obtain ⟨rfl, rfl⟩ := H
      go_wp2_with (first | ((with_reducible refine gate_callee (f := 28) rfl ?_); refine goesL_ (some 53) rfl rfl Tryz.func28 (by kernel_rfl) rfl #[.slice A0 l0.length c0, .slice A1 l1.length c1, .func (.func 29) #[] #[]] rfl (mp_) ?_; (with_reducible refine (delta_joined.calls k2 (fun k_ => k_ < w.heap.size) _ _ l0 (fun k_ => k_ < w.heap.size) _ _ l1 true t289 _ ?side1 ?side2 A38.out).mono ?_); (case side1 => exact Kd.V_mk HC0.out (Kd.F_below (Kd.C_F k45_heap HR0.out) (bel_))); (case side2 => exact Kd.V_mk HC1.out (Kd.F_below (Kd.C_F k45_heap HR1.out) (bel_))); rintro e w39 ⟨v290, rfl, ho0, hb⟩; refine ⟨_, rfl, ?_⟩; have n0_ := Aside0.mk (Kd.R_lower (Kd.R_mono (ok' := fun k_ => True) ho0 (fun _ hk_ => trivial)) (below_size (bel_))); have n1_ := Aside0.mk (below_step (bel_) hb); clear HB; have HO291 := n0_; have HB := n1_; clear n0_ n1_; (try clear hb); (try clear hb2); (try clear hk); (try clear hi); (try clear ho0)))
      go_ret2
      exact ⟨_, er_, ur_ HO291.out, bel_⟩
     rw [if_pos c11] at H
     have c11b0 := decide_eq_true c11
     clear c11
     by_cases c12 : 0 ≤ x20_2
     rotate_left
     ·rw [if_neg c12] at H
      exact absurd H (by simp)
     rw [if_pos c12] at H
     have c12b0 := decide_eq_true c12
     clear c12
     by_cases c13 : x20_2 < (l0.length : Int)
     rotate_left
     ·rw [if_neg c13] at H
      exact absurd H (by simp)
     rw [if_pos c13] at H
     have c13b0 := decide_eq_true c13
     clear c13
     have H' := Aside0.mk H
     clear H
     have p292 : 0 ≤ (x20_2 : Int) := of_decide_eq_true (by assumption)
     have q292 : x20_2 < (l0.length : Int) := of_decide_eq_true (by assumption)
     obtain ⟨ad292, e292, hx292_0, hx292_1, hx292_2, hx292_3, hx292_4, hx292_5, hx292_6, hx292_7, hx292_8, hx292_9, hx292_10⟩ := at_T45 HR0.out x20_2 p292 q292
     cases e292
     replace hx292_0 := hk_ HB.out hx292_0
     replace hx292_1 := hk_ HB.out hx292_1
     replace hx292_2 := hk_ HB.out hx292_2
     replace hx292_3 := hk_ HB.out hx292_3
     replace hx292_4 := hk_ HB.out hx292_4
     replace hx292_5 := hk_ HB.out hx292_5
     replace hx292_6 := hk_ HB.out hx292_6
     replace hx292_7 := hk_ HB.out hx292_7
     replace hx292_8 := hk_ HB.out hx292_8
     replace hx292_9 := hk_ HB.out hx292_9
     replace hx292_10 := hk_ HB.out hx292_10
     replace p292 := eq_true p292
     replace q292 := eq_true q292
     go_wp2_with (first | ((with_reducible refine gate_dst (N := 7) rfl ?_); refine box_event ?hg (N := 7) ?hd (cs := #[.string (⟨#[]⟩ : ByteArray), .bool false, .bool false, .string (⟨#[]⟩ : ByteArray), .string (⟨#[]⟩ : ByteArray), .int .i64 0, .int .i64 0, .string (⟨#[]⟩ : ByteArray), .string (⟨#[]⟩ : ByteArray), .int .i64 0, .int .i64 0]) (t := 45) ?hr ?_; (case hd => rfl); (case hg => rfl); (case hr => first | (go_simp; done) | (go_simp; rfl)); intro gb293 hg w14 hbox hb; have n0_ := Aside0.mk (below_step (bel_) hb); have n1_ := Aside0.mk (hbox); have n2_ := Aside0.mk ((by rw [hg]; exact (below_size (bel_)) : w.heap.size ≤ gb293)); have n3_ := Aside0.mk ((by rw [hg]; exact (below_size (bel_)) : w.heap.size ≤ gb293)); clear HB; have HB := n0_; have BK293 := n1_; have GW293 := n2_; have GE293 := n3_; clear n0_ n1_ n2_ n3_; clear hb hbox hg; have hcz15_0 : w14.cell? ⟨gb293, 0, none⟩ = some (.string (⟨#[]⟩ : ByteArray)) := (blk_cell BK293.out 0).trans rfl; have hcz15_1 : w14.cell? ⟨gb293, 1, none⟩ = some (.bool false) := (blk_cell BK293.out 1).trans rfl; have hcz15_2 : w14.cell? ⟨gb293, 2, none⟩ = some (.bool false) := (blk_cell BK293.out 2).trans rfl; have hcz15_3 : w14.cell? ⟨gb293, 3, none⟩ = some (.string (⟨#[]⟩ : ByteArray)) := (blk_cell BK293.out 3).trans rfl; have hcz15_4 : w14.cell? ⟨gb293, 4, none⟩ = some (.string (⟨#[]⟩ : ByteArray)) := (blk_cell BK293.out 4).trans rfl; have hcz15_5 : w14.cell? ⟨gb293, 5, none⟩ = some (.int .i64 0) := (blk_cell BK293.out 5).trans rfl; have hcz15_6 : w14.cell? ⟨gb293, 6, none⟩ = some (.int .i64 0) := (blk_cell BK293.out 6).trans rfl; have hcz15_7 : w14.cell? ⟨gb293, 7, none⟩ = some (.string (⟨#[]⟩ : ByteArray)) := (blk_cell BK293.out 7).trans rfl; have hcz15_8 : w14.cell? ⟨gb293, 8, none⟩ = some (.string (⟨#[]⟩ : ByteArray)) := (blk_cell BK293.out 8).trans rfl; have hcz15_9 : w14.cell? ⟨gb293, 9, none⟩ = some (.int .i64 0) := (blk_cell BK293.out 9).trans rfl; have hcz15_10 : w14.cell? ⟨gb293, 10, none⟩ = some (.int .i64 0) := (blk_cell BK293.out 10).trans rfl; have hfz15_0 := blk_frozen BK293.out 0; have hfz15_1 := blk_frozen BK293.out 1; have hfz15_2 := blk_frozen BK293.out 2; have hfz15_3 := blk_frozen BK293.out 3; have hfz15_4 := blk_frozen BK293.out 4; have hfz15_5 := blk_frozen BK293.out 5; have hfz15_6 := blk_frozen BK293.out 6; have hfz15_7 := blk_frozen BK293.out 7; have hfz15_8 := blk_frozen BK293.out 8; have hfz15_9 := blk_frozen BK293.out 9; have hfz15_10 := blk_frozen BK293.out 10))
     go_loopg [26] k2 (fun kq v26 w' => ∃ (x26_3 : Int), v26 = .int .i64 x26_3 ∧ Aside0 (delta_Join.l1 kq l0 l1 l0 (l0.length : Int) x20_2 l1 (l1.length : Int) x26_3 ((rd_T45 l0 x20_2).f0) ((rd_T45 l0 x20_2).f1) ((rd_T45 l0 x20_2).f2) ((rd_T45 l0 x20_2).f3.f0) ((rd_T45 l0 x20_2).f3.f1) ((rd_T45 l0 x20_2).f3.f2) ((rd_T45 l0 x20_2).f3.f3) ((rd_T45 l0 x20_2).f4.f0) ((rd_T45 l0 x20_2).f4.f1) ((rd_T45 l0 x20_2).f4.f2) ((rd_T45 l0 x20_2).f4.f3) = some (r1, r2)) ∧ Aside0 (kq ≤ k2) ∧ Aside0 (w'.heap[gb293]? = some (.cells #[.string ((rd_T45 l0 x20_2).f0), .bool ((rd_T45 l0 x20_2).f1), .bool ((rd_T45 l0 x20_2).f2), .string ((rd_T45 l0 x20_2).f3.f0), .string ((rd_T45 l0 x20_2).f3.f1), .int .i64 ((rd_T45 l0 x20_2).f3.f2), .int .i64 ((rd_T45 l0 x20_2).f3.f3), .string ((rd_T45 l0 x20_2).f4.f0), .string ((rd_T45 l0 x20_2).f4.f1), .int .i64 ((rd_T45 l0 x20_2).f4.f2), .int .i64 ((rd_T45 l0 x20_2).f4.f3)] 45 (0, 0))) ∧ Aside0 (Below w.heap.size w w'))
     case atStart => exact ⟨(0), (rf_), H', ⟨Nat.le_refl _⟩, ⟨by refine ub_ ?_; refine blk_put (cs := #[.string ((rd_T45 l0 x20_2).f0), .bool ((rd_T45 l0 x20_2).f1), .bool ((rd_T45 l0 x20_2).f2), .string ((rd_T45 l0 x20_2).f3.f0), .string ((rd_T45 l0 x20_2).f3.f1), .int .i64 ((rd_T45 l0 x20_2).f3.f2), .int .i64 ((rd_T45 l0 x20_2).f3.f3), .string ((rd_T45 l0 x20_2).f4.f0), .string ((rd_T45 l0 x20_2).f4.f1), .int .i64 ((rd_T45 l0 x20_2).f4.f2), .int .i64 0]) ?_ 10 _ rfl; refine ub_ ?_; refine blk_put (cs := #[.string ((rd_T45 l0 x20_2).f0), .bool ((rd_T45 l0 x20_2).f1), .bool ((rd_T45 l0 x20_2).f2), .string ((rd_T45 l0 x20_2).f3.f0), .string ((rd_T45 l0 x20_2).f3.f1), .int .i64 ((rd_T45 l0 x20_2).f3.f2), .int .i64 ((rd_T45 l0 x20_2).f3.f3), .string ((rd_T45 l0 x20_2).f4.f0), .string ((rd_T45 l0 x20_2).f4.f1), .int .i64 0, .int .i64 0]) ?_ 9 _ rfl; refine ub_ ?_; refine blk_put (cs := #[.string ((rd_T45 l0 x20_2).f0), .bool ((rd_T45 l0 x20_2).f1), .bool ((rd_T45 l0 x20_2).f2), .string ((rd_T45 l0 x20_2).f3.f0), .string ((rd_T45 l0 x20_2).f3.f1), .int .i64 ((rd_T45 l0 x20_2).f3.f2), .int .i64 ((rd_T45 l0 x20_2).f3.f3), .string ((rd_T45 l0 x20_2).f4.f0), .string (⟨#[]⟩ : ByteArray), .int .i64 0, .int .i64 0]) ?_ 8 _ rfl; refine ub_ ?_; refine blk_put (cs := #[.string ((rd_T45 l0 x20_2).f0), .bool ((rd_T45 l0 x20_2).f1), .bool ((rd_T45 l0 x20_2).f2), .string ((rd_T45 l0 x20_2).f3.f0), .string ((rd_T45 l0 x20_2).f3.f1), .int .i64 ((rd_T45 l0 x20_2).f3.f2), .int .i64 ((rd_T45 l0 x20_2).f3.f3), .string (⟨#[]⟩ : ByteArray), .string (⟨#[]⟩ : ByteArray), .int .i64 0, .int .i64 0]) ?_ 7 _ rfl; refine ub_ ?_; refine blk_put (cs := #[.string ((rd_T45 l0 x20_2).f0), .bool ((rd_T45 l0 x20_2).f1), .bool ((rd_T45 l0 x20_2).f2), .string ((rd_T45 l0 x20_2).f3.f0), .string ((rd_T45 l0 x20_2).f3.f1), .int .i64 ((rd_T45 l0 x20_2).f3.f2), .int .i64 0, .string (⟨#[]⟩ : ByteArray), .string (⟨#[]⟩ : ByteArray), .int .i64 0, .int .i64 0]) ?_ 6 _ rfl; refine ub_ ?_; refine blk_put (cs := #[.string ((rd_T45 l0 x20_2).f0), .bool ((rd_T45 l0 x20_2).f1), .bool ((rd_T45 l0 x20_2).f2), .string ((rd_T45 l0 x20_2).f3.f0), .string ((rd_T45 l0 x20_2).f3.f1), .int .i64 0, .int .i64 0, .string (⟨#[]⟩ : ByteArray), .string (⟨#[]⟩ : ByteArray), .int .i64 0, .int .i64 0]) ?_ 5 _ rfl; refine ub_ ?_; refine blk_put (cs := #[.string ((rd_T45 l0 x20_2).f0), .bool ((rd_T45 l0 x20_2).f1), .bool ((rd_T45 l0 x20_2).f2), .string ((rd_T45 l0 x20_2).f3.f0), .string (⟨#[]⟩ : ByteArray), .int .i64 0, .int .i64 0, .string (⟨#[]⟩ : ByteArray), .string (⟨#[]⟩ : ByteArray), .int .i64 0, .int .i64 0]) ?_ 4 _ rfl; refine ub_ ?_; refine blk_put (cs := #[.string ((rd_T45 l0 x20_2).f0), .bool ((rd_T45 l0 x20_2).f1), .bool ((rd_T45 l0 x20_2).f2), .string (⟨#[]⟩ : ByteArray), .string (⟨#[]⟩ : ByteArray), .int .i64 0, .int .i64 0, .string (⟨#[]⟩ : ByteArray), .string (⟨#[]⟩ : ByteArray), .int .i64 0, .int .i64 0]) ?_ 3 _ rfl; refine ub_ ?_; refine blk_put (cs := #[.string ((rd_T45 l0 x20_2).f0), .bool ((rd_T45 l0 x20_2).f1), .bool false, .string (⟨#[]⟩ : ByteArray), .string (⟨#[]⟩ : ByteArray), .int .i64 0, .int .i64 0, .string (⟨#[]⟩ : ByteArray), .string (⟨#[]⟩ : ByteArray), .int .i64 0, .int .i64 0]) ?_ 2 _ rfl; refine ub_ ?_; refine blk_put (cs := #[.string ((rd_T45 l0 x20_2).f0), .bool false, .bool false, .string (⟨#[]⟩ : ByteArray), .string (⟨#[]⟩ : ByteArray), .int .i64 0, .int .i64 0, .string (⟨#[]⟩ : ByteArray), .string (⟨#[]⟩ : ByteArray), .int .i64 0, .int .i64 0]) ?_ 1 _ rfl; refine ub_ ?_; refine blk_put (cs := #[.string (⟨#[]⟩ : ByteArray), .bool false, .bool false, .string (⟨#[]⟩ : ByteArray), .string (⟨#[]⟩ : ByteArray), .int .i64 0, .int .i64 0, .string (⟨#[]⟩ : ByteArray), .string (⟨#[]⟩ : ByteArray), .int .i64 0, .int .i64 0]) ?_ 0 _ rfl; refine ub_ ?_; exact BK293.out⟩, ⟨bes_ GE293.out⟩⟩
     case round =>
      clear H'
      try clear c1
      try clear p2
      try clear q2
      try clear hx2
      try clear c5
      try clear c7
      try clear c10
      try clear c11
      try clear c11b0
      try clear c12
      try clear c12b0
      try clear c13
      try clear c13b0
      try clear hcz15_0
      try clear hcz15_1
      try clear hcz15_10
      try clear hcz15_2
      try clear hcz15_3
      try clear hcz15_4
      try clear hcz15_5
      try clear hcz15_6
      try clear hcz15_7
      try clear hcz15_8
      try clear hcz15_9
      try clear hfz15_0
      try clear hfz15_1
      try clear hfz15_10
      try clear hfz15_2
      try clear hfz15_3
      try clear hfz15_4
      try clear hfz15_5
      try clear hfz15_6
      try clear hfz15_7
      try clear hfz15_8
      try clear hfz15_9
      try clear hx292_0
      try clear hx292_1
      try clear hx292_10
      try clear hx292_2
      try clear hx292_3
      try clear hx292_4
      try clear hx292_5
      try clear hx292_6
      try clear hx292_7
      try clear hx292_8
      try clear hx292_9
      try clear p2
      try clear p292
      try clear q292
      obtain ⟨x26_3, rfl, HA, HK3, BK293, HB⟩ := hrel
      cases gk with
      | zero => exact absurd HA.out (by simp [delta_Join.l1])
      | succ k3 =>
       have H := HA.out
       clear HA
       simp only [delta_Join.l1] at H
       by_cases c16 : x26_3 < (l1.length : Int)
       rotate_left
       ·rw [if_neg c16] at H
        have c16b0 := decide_eq_false c16
        clear c16
        have H' := Aside0.mk H
        clear H
        go_wp2
        go_roundg k3
        case measure => have := HJ2.out; have := HK2.out; have := HK3.out; omega
        case rel => exact ⟨(wrap64 (x20_2 + 1)), (rf_), H', ⟨by have := HJ2.out; have := HK2.out; have := HK3.out; omega⟩, ⟨bes_ GE293.out⟩⟩
       rw [if_pos c16] at H
       have c16b0 := decide_eq_true c16
       clear c16
       by_cases c17 : 0 ≤ x26_3
       rotate_left
       ·rw [if_neg c17] at H
        exact absurd H (by simp)
       rw [if_pos c17] at H
       have c17b0 := decide_eq_true c17
       clear c17
       by_cases c18 : x26_3 < (l1.length : Int)
       rotate_left
       ·rw [if_neg c18] at H
        exact absurd H (by simp)
       rw [if_pos c18] at H
       have c18b0 := decide_eq_true c18
       clear c18
       by_cases c19 : ((rd_T45 l0 x20_2).f0).toList = ((rd_T45 l1 x26_3).f0).toList
       rotate_left
       ·rw [if_neg c19] at H
        have c19b0 : (((rd_T45 l0 x20_2).f0).toList == ((rd_T45 l1 x26_3).f0).toList) = false := beq_eq_false_iff_ne.mpr c19
        have c19b1 : (((rd_T45 l0 x20_2).f0).toList != ((rd_T45 l1 x26_3).f0).toList) = true := bne_iff_ne.mpr c19
        have H' := Aside0.mk H
        clear H
        have p294 : 0 ≤ (x26_3 : Int) := of_decide_eq_true (by assumption)
        have q294 : x26_3 < (l1.length : Int) := of_decide_eq_true (by assumption)
        obtain ⟨ad294, e294, hx294_0, hx294_1, hx294_2, hx294_3, hx294_4, hx294_5, hx294_6, hx294_7, hx294_8, hx294_9, hx294_10⟩ := at_T45 HR1.out x26_3 p294 q294
        cases e294
        replace hx294_0 := hk_ HB.out hx294_0
        replace hx294_1 := hk_ HB.out hx294_1
        replace hx294_2 := hk_ HB.out hx294_2
        replace hx294_3 := hk_ HB.out hx294_3
        replace hx294_4 := hk_ HB.out hx294_4
        replace hx294_5 := hk_ HB.out hx294_5
        replace hx294_6 := hk_ HB.out hx294_6
        replace hx294_7 := hk_ HB.out hx294_7
        replace hx294_8 := hk_ HB.out hx294_8
        replace hx294_9 := hk_ HB.out hx294_9
        replace hx294_10 := hk_ HB.out hx294_10
        replace p294 := eq_true p294
        replace q294 := eq_true q294
        go_wp2_with (first | ((with_reducible refine gate_dst (N := 9) rfl ?_); refine box_event ?hg (N := 9) ?hd (cs := #[.string (⟨#[]⟩ : ByteArray), .bool false, .bool false, .string (⟨#[]⟩ : ByteArray), .string (⟨#[]⟩ : ByteArray), .int .i64 0, .int .i64 0, .string (⟨#[]⟩ : ByteArray), .string (⟨#[]⟩ : ByteArray), .int .i64 0, .int .i64 0]) (t := 45) ?hr ?_; (case hd => rfl); (case hg => rfl); (case hr => first | (go_simp; done) | (go_simp; rfl)); intro gb295 hg w34 hbox hb; have n0_ := Aside0.mk (blk_below (g := gb293) (o := .cells #[.string ((rd_T45 l0 x20_2).f0), .bool ((rd_T45 l0 x20_2).f1), .bool ((rd_T45 l0 x20_2).f2), .string ((rd_T45 l0 x20_2).f3.f0), .string ((rd_T45 l0 x20_2).f3.f1), .int .i64 ((rd_T45 l0 x20_2).f3.f2), .int .i64 ((rd_T45 l0 x20_2).f3.f3), .string ((rd_T45 l0 x20_2).f4.f0), .string ((rd_T45 l0 x20_2).f4.f1), .int .i64 ((rd_T45 l0 x20_2).f4.f2), .int .i64 ((rd_T45 l0 x20_2).f4.f3)] 45 (0, 0)) (ub_ BK293.out) hb); have n1_ := Aside0.mk (below_step (bes_ GE293.out) hb); have n2_ := Aside0.mk (hbox); have n3_ := Aside0.mk ((by rw [hg]; exact (below_size (bes_ GE293.out)) : w.heap.size ≤ gb295)); have n4_ := Aside0.mk ((by rw [hg]; exact (below_size (bes_ GE293.out)) : w.heap.size ≤ gb295)); have n5_ := Aside0.mk ((by rw [hg]; exact Nat.ne_of_lt (blk_lt (g := gb293) (o := .cells #[.string ((rd_T45 l0 x20_2).f0), .bool ((rd_T45 l0 x20_2).f1), .bool ((rd_T45 l0 x20_2).f2), .string ((rd_T45 l0 x20_2).f3.f0), .string ((rd_T45 l0 x20_2).f3.f1), .int .i64 ((rd_T45 l0 x20_2).f3.f2), .int .i64 ((rd_T45 l0 x20_2).f3.f3), .string ((rd_T45 l0 x20_2).f4.f0), .string ((rd_T45 l0 x20_2).f4.f1), .int .i64 ((rd_T45 l0 x20_2).f4.f2), .int .i64 ((rd_T45 l0 x20_2).f4.f3)] 45 (0, 0)) (ub_ BK293.out)) : gb293 ≠ gb295)); have n6_ := Aside0.mk ((by rw [hg]; exact Nat.ne_of_gt (blk_lt (g := gb293) (o := .cells #[.string ((rd_T45 l0 x20_2).f0), .bool ((rd_T45 l0 x20_2).f1), .bool ((rd_T45 l0 x20_2).f2), .string ((rd_T45 l0 x20_2).f3.f0), .string ((rd_T45 l0 x20_2).f3.f1), .int .i64 ((rd_T45 l0 x20_2).f3.f2), .int .i64 ((rd_T45 l0 x20_2).f3.f3), .string ((rd_T45 l0 x20_2).f4.f0), .string ((rd_T45 l0 x20_2).f4.f1), .int .i64 ((rd_T45 l0 x20_2).f4.f2), .int .i64 ((rd_T45 l0 x20_2).f4.f3)] 45 (0, 0)) (ub_ BK293.out)) : gb295 ≠ gb293)); clear BK293; clear HB; have BK293 := n0_; have HB := n1_; have BK295 := n2_; have GW295 := n3_; have GE295 := n4_; have NB293_295 := n5_; have NB295_293 := n6_; clear n0_ n1_ n2_ n3_ n4_ n5_ n6_; clear hb hbox hg; have hnb35 := NB295_293.out; have hnc35 := NB293_295.out; have hcz36_0 : w34.cell? ⟨gb295, 0, none⟩ = some (.string (⟨#[]⟩ : ByteArray)) := (blk_cell BK295.out 0).trans rfl; have hcz36_1 : w34.cell? ⟨gb295, 1, none⟩ = some (.bool false) := (blk_cell BK295.out 1).trans rfl; have hcz36_2 : w34.cell? ⟨gb295, 2, none⟩ = some (.bool false) := (blk_cell BK295.out 2).trans rfl; have hcz36_3 : w34.cell? ⟨gb295, 3, none⟩ = some (.string (⟨#[]⟩ : ByteArray)) := (blk_cell BK295.out 3).trans rfl; have hcz36_4 : w34.cell? ⟨gb295, 4, none⟩ = some (.string (⟨#[]⟩ : ByteArray)) := (blk_cell BK295.out 4).trans rfl; have hcz36_5 : w34.cell? ⟨gb295, 5, none⟩ = some (.int .i64 0) := (blk_cell BK295.out 5).trans rfl; have hcz36_6 : w34.cell? ⟨gb295, 6, none⟩ = some (.int .i64 0) := (blk_cell BK295.out 6).trans rfl; have hcz36_7 : w34.cell? ⟨gb295, 7, none⟩ = some (.string (⟨#[]⟩ : ByteArray)) := (blk_cell BK295.out 7).trans rfl; have hcz36_8 : w34.cell? ⟨gb295, 8, none⟩ = some (.string (⟨#[]⟩ : ByteArray)) := (blk_cell BK295.out 8).trans rfl; have hcz36_9 : w34.cell? ⟨gb295, 9, none⟩ = some (.int .i64 0) := (blk_cell BK295.out 9).trans rfl; have hcz36_10 : w34.cell? ⟨gb295, 10, none⟩ = some (.int .i64 0) := (blk_cell BK295.out 10).trans rfl; have hfz36_0 := blk_frozen BK295.out 0; have hfz36_1 := blk_frozen BK295.out 1; have hfz36_2 := blk_frozen BK295.out 2; have hfz36_3 := blk_frozen BK295.out 3; have hfz36_4 := blk_frozen BK295.out 4; have hfz36_5 := blk_frozen BK295.out 5; have hfz36_6 := blk_frozen BK295.out 6; have hfz36_7 := blk_frozen BK295.out 7; have hfz36_8 := blk_frozen BK295.out 8; have hfz36_9 := blk_frozen BK295.out 9; have hfz36_10 := blk_frozen BK295.out 10; have hcz37_0 : w34.cell? ⟨gb293, 0, none⟩ = some (.string ((rd_T45 l0 x20_2).f0)) := (blk_cell BK293.out 0).trans rfl; have hcz37_1 : w34.cell? ⟨gb293, 1, none⟩ = some (.bool ((rd_T45 l0 x20_2).f1)) := (blk_cell BK293.out 1).trans rfl; have hcz37_2 : w34.cell? ⟨gb293, 2, none⟩ = some (.bool ((rd_T45 l0 x20_2).f2)) := (blk_cell BK293.out 2).trans rfl; have hcz37_3 : w34.cell? ⟨gb293, 3, none⟩ = some (.string ((rd_T45 l0 x20_2).f3.f0)) := (blk_cell BK293.out 3).trans rfl; have hcz37_4 : w34.cell? ⟨gb293, 4, none⟩ = some (.string ((rd_T45 l0 x20_2).f3.f1)) := (blk_cell BK293.out 4).trans rfl; have hcz37_5 : w34.cell? ⟨gb293, 5, none⟩ = some (.int .i64 ((rd_T45 l0 x20_2).f3.f2)) := (blk_cell BK293.out 5).trans rfl; have hcz37_6 : w34.cell? ⟨gb293, 6, none⟩ = some (.int .i64 ((rd_T45 l0 x20_2).f3.f3)) := (blk_cell BK293.out 6).trans rfl; have hcz37_7 : w34.cell? ⟨gb293, 7, none⟩ = some (.string ((rd_T45 l0 x20_2).f4.f0)) := (blk_cell BK293.out 7).trans rfl; have hcz37_8 : w34.cell? ⟨gb293, 8, none⟩ = some (.string ((rd_T45 l0 x20_2).f4.f1)) := (blk_cell BK293.out 8).trans rfl; have hcz37_9 : w34.cell? ⟨gb293, 9, none⟩ = some (.int .i64 ((rd_T45 l0 x20_2).f4.f2)) := (blk_cell BK293.out 9).trans rfl; have hcz37_10 : w34.cell? ⟨gb293, 10, none⟩ = some (.int .i64 ((rd_T45 l0 x20_2).f4.f3)) := (blk_cell BK293.out 10).trans rfl; have hfz37_0 := blk_frozen BK293.out 0; have hfz37_1 := blk_frozen BK293.out 1; have hfz37_2 := blk_frozen BK293.out 2; have hfz37_3 := blk_frozen BK293.out 3; have hfz37_4 := blk_frozen BK293.out 4; have hfz37_5 := blk_frozen BK293.out 5; have hfz37_6 := blk_frozen BK293.out 6; have hfz37_7 := blk_frozen BK293.out 7; have hfz37_8 := blk_frozen BK293.out 8; have hfz37_9 := blk_frozen BK293.out 9; have hfz37_10 := blk_frozen BK293.out 10))
        go_roundg k3
        case measure => have := HJ2.out; have := HK2.out; have := HK3.out; omega
        case rel => exact ⟨(wrap64 (x26_3 + 1)), (rf_), H', ⟨by have := HJ2.out; have := HK2.out; have := HK3.out; omega⟩, ⟨by refine ub_ ?_; refine blk_far ?_ NB293_295.out _; refine ub_ ?_; refine blk_far ?_ NB293_295.out _; refine ub_ ?_; refine blk_far ?_ NB293_295.out _; refine ub_ ?_; refine blk_far ?_ NB293_295.out _; refine ub_ ?_; refine blk_far ?_ NB293_295.out _; refine ub_ ?_; refine blk_far ?_ NB293_295.out _; refine ub_ ?_; refine blk_far ?_ NB293_295.out _; refine ub_ ?_; refine blk_far ?_ NB293_295.out _; refine ub_ ?_; refine blk_far ?_ NB293_295.out _; refine ub_ ?_; refine blk_far ?_ NB293_295.out _; refine ub_ ?_; refine blk_far ?_ NB293_295.out _; refine ub_ ?_; exact BK293.out⟩, ⟨by repeat (first | (with_reducible first | exact HB.out | apply below_alloc | apply pw_below_drewN | apply below_drew1 | refine below_set ?_ GE293.out | refine below_set ?_ GE295.out) | exact HB.out)⟩⟩
       rw [if_pos c19] at H
       have c19b0 : (((rd_T45 l0 x20_2).f0).toList == ((rd_T45 l1 x26_3).f0).toList) = true := beq_iff_eq.mpr c19
       have c19b1 : (((rd_T45 l0 x20_2).f0).toList != ((rd_T45 l1 x26_3).f0).toList) = false := bne_eq_false_iff_eq.mpr c19
       clear c19
       by_cases c20 : (((rd_T45 l0 x20_2).f2) != ((rd_T45 l1 x26_3).f1)) = true
       ·rw [if_pos c20] at H
        have c20b0 : (((rd_T45 l0 x20_2).f2) != ((rd_T45 l1 x26_3).f1)) = true := c20
        (try (have c20b1 : decide (((rd_T45 l0 x20_2).f2) = ((rd_T45 l1 x26_3).f1)) = false := by simpa using c20))
        (try (have c20b2 : (((rd_T45 l0 x20_2).f2) == ((rd_T45 l1 x26_3).f1)) = false := by simpa using c20))
        (try (have c20b3 : ¬ (((rd_T45 l0 x20_2).f2) = ((rd_T45 l1 x26_3).f1)) := by simpa using c20))
        clear c20
        simp only [Option.some.injEq, Prod.mk.injEq] at H
        obtain ⟨rfl, rfl⟩ := H
        have p294 : 0 ≤ (x26_3 : Int) := of_decide_eq_true (by assumption)
        have q294 : x26_3 < (l1.length : Int) := of_decide_eq_true (by assumption)
        obtain ⟨ad294, e294, hx294_0, hx294_1, hx294_2, hx294_3, hx294_4, hx294_5, hx294_6, hx294_7, hx294_8, hx294_9, hx294_10⟩ := at_T45 HR1.out x26_3 p294 q294
        cases e294
        replace hx294_0 := hk_ HB.out hx294_0
        replace hx294_1 := hk_ HB.out hx294_1
        replace hx294_2 := hk_ HB.out hx294_2
        replace hx294_3 := hk_ HB.out hx294_3
        replace hx294_4 := hk_ HB.out hx294_4
        replace hx294_5 := hk_ HB.out hx294_5
        replace hx294_6 := hk_ HB.out hx294_6
        replace hx294_7 := hk_ HB.out hx294_7
        replace hx294_8 := hk_ HB.out hx294_8
        replace hx294_9 := hk_ HB.out hx294_9
        replace hx294_10 := hk_ HB.out hx294_10
        replace p294 := eq_true p294
        replace q294 := eq_true q294
        go_wp2_with (first | ((with_reducible refine gate_dst (N := 9) rfl ?_); refine box_event ?hg (N := 9) ?hd (cs := #[.string (⟨#[]⟩ : ByteArray), .bool false, .bool false, .string (⟨#[]⟩ : ByteArray), .string (⟨#[]⟩ : ByteArray), .int .i64 0, .int .i64 0, .string (⟨#[]⟩ : ByteArray), .string (⟨#[]⟩ : ByteArray), .int .i64 0, .int .i64 0]) (t := 45) ?hr ?_; (case hd => rfl); (case hg => rfl); (case hr => first | (go_simp; done) | (go_simp; rfl)); intro gb295 hg w21 hbox hb; have n0_ := Aside0.mk (blk_below (g := gb293) (o := .cells #[.string ((rd_T45 l0 x20_2).f0), .bool ((rd_T45 l0 x20_2).f1), .bool ((rd_T45 l0 x20_2).f2), .string ((rd_T45 l0 x20_2).f3.f0), .string ((rd_T45 l0 x20_2).f3.f1), .int .i64 ((rd_T45 l0 x20_2).f3.f2), .int .i64 ((rd_T45 l0 x20_2).f3.f3), .string ((rd_T45 l0 x20_2).f4.f0), .string ((rd_T45 l0 x20_2).f4.f1), .int .i64 ((rd_T45 l0 x20_2).f4.f2), .int .i64 ((rd_T45 l0 x20_2).f4.f3)] 45 (0, 0)) (ub_ BK293.out) hb); have n1_ := Aside0.mk (below_step (bes_ GE293.out) hb); have n2_ := Aside0.mk (hbox); have n3_ := Aside0.mk ((by rw [hg]; exact (below_size (bes_ GE293.out)) : w.heap.size ≤ gb295)); have n4_ := Aside0.mk ((by rw [hg]; exact (below_size (bes_ GE293.out)) : w.heap.size ≤ gb295)); have n5_ := Aside0.mk ((by rw [hg]; exact Nat.ne_of_lt (blk_lt (g := gb293) (o := .cells #[.string ((rd_T45 l0 x20_2).f0), .bool ((rd_T45 l0 x20_2).f1), .bool ((rd_T45 l0 x20_2).f2), .string ((rd_T45 l0 x20_2).f3.f0), .string ((rd_T45 l0 x20_2).f3.f1), .int .i64 ((rd_T45 l0 x20_2).f3.f2), .int .i64 ((rd_T45 l0 x20_2).f3.f3), .string ((rd_T45 l0 x20_2).f4.f0), .string ((rd_T45 l0 x20_2).f4.f1), .int .i64 ((rd_T45 l0 x20_2).f4.f2), .int .i64 ((rd_T45 l0 x20_2).f4.f3)] 45 (0, 0)) (ub_ BK293.out)) : gb293 ≠ gb295)); have n6_ := Aside0.mk ((by rw [hg]; exact Nat.ne_of_gt (blk_lt (g := gb293) (o := .cells #[.string ((rd_T45 l0 x20_2).f0), .bool ((rd_T45 l0 x20_2).f1), .bool ((rd_T45 l0 x20_2).f2), .string ((rd_T45 l0 x20_2).f3.f0), .string ((rd_T45 l0 x20_2).f3.f1), .int .i64 ((rd_T45 l0 x20_2).f3.f2), .int .i64 ((rd_T45 l0 x20_2).f3.f3), .string ((rd_T45 l0 x20_2).f4.f0), .string ((rd_T45 l0 x20_2).f4.f1), .int .i64 ((rd_T45 l0 x20_2).f4.f2), .int .i64 ((rd_T45 l0 x20_2).f4.f3)] 45 (0, 0)) (ub_ BK293.out)) : gb295 ≠ gb293)); clear BK293; clear HB; have BK293 := n0_; have HB := n1_; have BK295 := n2_; have GW295 := n3_; have GE295 := n4_; have NB293_295 := n5_; have NB295_293 := n6_; clear n0_ n1_ n2_ n3_ n4_ n5_ n6_; clear hb hbox hg; have hnb22 := NB295_293.out; have hnc22 := NB293_295.out; have hcz23_0 : w21.cell? ⟨gb295, 0, none⟩ = some (.string (⟨#[]⟩ : ByteArray)) := (blk_cell BK295.out 0).trans rfl; have hcz23_1 : w21.cell? ⟨gb295, 1, none⟩ = some (.bool false) := (blk_cell BK295.out 1).trans rfl; have hcz23_2 : w21.cell? ⟨gb295, 2, none⟩ = some (.bool false) := (blk_cell BK295.out 2).trans rfl; have hcz23_3 : w21.cell? ⟨gb295, 3, none⟩ = some (.string (⟨#[]⟩ : ByteArray)) := (blk_cell BK295.out 3).trans rfl; have hcz23_4 : w21.cell? ⟨gb295, 4, none⟩ = some (.string (⟨#[]⟩ : ByteArray)) := (blk_cell BK295.out 4).trans rfl; have hcz23_5 : w21.cell? ⟨gb295, 5, none⟩ = some (.int .i64 0) := (blk_cell BK295.out 5).trans rfl; have hcz23_6 : w21.cell? ⟨gb295, 6, none⟩ = some (.int .i64 0) := (blk_cell BK295.out 6).trans rfl; have hcz23_7 : w21.cell? ⟨gb295, 7, none⟩ = some (.string (⟨#[]⟩ : ByteArray)) := (blk_cell BK295.out 7).trans rfl; have hcz23_8 : w21.cell? ⟨gb295, 8, none⟩ = some (.string (⟨#[]⟩ : ByteArray)) := (blk_cell BK295.out 8).trans rfl; have hcz23_9 : w21.cell? ⟨gb295, 9, none⟩ = some (.int .i64 0) := (blk_cell BK295.out 9).trans rfl; have hcz23_10 : w21.cell? ⟨gb295, 10, none⟩ = some (.int .i64 0) := (blk_cell BK295.out 10).trans rfl; have hfz23_0 := blk_frozen BK295.out 0; have hfz23_1 := blk_frozen BK295.out 1; have hfz23_2 := blk_frozen BK295.out 2; have hfz23_3 := blk_frozen BK295.out 3; have hfz23_4 := blk_frozen BK295.out 4; have hfz23_5 := blk_frozen BK295.out 5; have hfz23_6 := blk_frozen BK295.out 6; have hfz23_7 := blk_frozen BK295.out 7; have hfz23_8 := blk_frozen BK295.out 8; have hfz23_9 := blk_frozen BK295.out 9; have hfz23_10 := blk_frozen BK295.out 10; have hcz24_0 : w21.cell? ⟨gb293, 0, none⟩ = some (.string ((rd_T45 l0 x20_2).f0)) := (blk_cell BK293.out 0).trans rfl; have hcz24_1 : w21.cell? ⟨gb293, 1, none⟩ = some (.bool ((rd_T45 l0 x20_2).f1)) := (blk_cell BK293.out 1).trans rfl; have hcz24_2 : w21.cell? ⟨gb293, 2, none⟩ = some (.bool ((rd_T45 l0 x20_2).f2)) := (blk_cell BK293.out 2).trans rfl; have hcz24_3 : w21.cell? ⟨gb293, 3, none⟩ = some (.string ((rd_T45 l0 x20_2).f3.f0)) := (blk_cell BK293.out 3).trans rfl; have hcz24_4 : w21.cell? ⟨gb293, 4, none⟩ = some (.string ((rd_T45 l0 x20_2).f3.f1)) := (blk_cell BK293.out 4).trans rfl; have hcz24_5 : w21.cell? ⟨gb293, 5, none⟩ = some (.int .i64 ((rd_T45 l0 x20_2).f3.f2)) := (blk_cell BK293.out 5).trans rfl; have hcz24_6 : w21.cell? ⟨gb293, 6, none⟩ = some (.int .i64 ((rd_T45 l0 x20_2).f3.f3)) := (blk_cell BK293.out 6).trans rfl; have hcz24_7 : w21.cell? ⟨gb293, 7, none⟩ = some (.string ((rd_T45 l0 x20_2).f4.f0)) := (blk_cell BK293.out 7).trans rfl; have hcz24_8 : w21.cell? ⟨gb293, 8, none⟩ = some (.string ((rd_T45 l0 x20_2).f4.f1)) := (blk_cell BK293.out 8).trans rfl; have hcz24_9 : w21.cell? ⟨gb293, 9, none⟩ = some (.int .i64 ((rd_T45 l0 x20_2).f4.f2)) := (blk_cell BK293.out 9).trans rfl; have hcz24_10 : w21.cell? ⟨gb293, 10, none⟩ = some (.int .i64 ((rd_T45 l0 x20_2).f4.f3)) := (blk_cell BK293.out 10).trans rfl; have hfz24_0 := blk_frozen BK293.out 0; have hfz24_1 := blk_frozen BK293.out 1; have hfz24_2 := blk_frozen BK293.out 2; have hfz24_3 := blk_frozen BK293.out 3; have hfz24_4 := blk_frozen BK293.out 4; have hfz24_5 := blk_frozen BK293.out 5; have hfz24_6 := blk_frozen BK293.out 6; have hfz24_7 := blk_frozen BK293.out 7; have hfz24_8 := blk_frozen BK293.out 8; have hfz24_9 := blk_frozen BK293.out 9; have hfz24_10 := blk_frozen BK293.out 10))
        go_ret2
        exact ⟨_, er_, nl_, by repeat (first | (with_reducible first | exact HB.out | apply below_alloc | apply pw_below_drewN | apply below_drew1 | refine below_set ?_ GE293.out | refine below_set ?_ GE295.out) | exact HB.out)⟩
       rw [if_neg c20] at H
       have c20b0 : (((rd_T45 l0 x20_2).f2) != ((rd_T45 l1 x26_3).f1)) = false := by simpa using c20
       (try (have c20b1 : decide (((rd_T45 l0 x20_2).f2) = ((rd_T45 l1 x26_3).f1)) = true := by simpa using c20))
       (try (have c20b2 : (((rd_T45 l0 x20_2).f2) == ((rd_T45 l1 x26_3).f1)) = true := by simpa using c20))
       clear c20
       by_cases c25 : (!(((rd_T45 l0 x20_2).f4.f0).toList == (((rd_T45 l1 x26_3).f3.f0).toList)) || (!(((rd_T45 l0 x20_2).f4.f1).toList == (((rd_T45 l1 x26_3).f3.f1).toList)) || (!(((rd_T45 l0 x20_2).f4.f2) == ((rd_T45 l1 x26_3).f3.f2)) || (!(((rd_T45 l0 x20_2).f4.f3) == ((rd_T45 l1 x26_3).f3.f3)))))) = true
       ·rw [if_pos c25] at H
        have c25b0 : (!(((rd_T45 l0 x20_2).f4.f0).toList == (((rd_T45 l1 x26_3).f3.f0).toList)) || (!(((rd_T45 l0 x20_2).f4.f1).toList == (((rd_T45 l1 x26_3).f3.f1).toList)) || (!(((rd_T45 l0 x20_2).f4.f2) == ((rd_T45 l1 x26_3).f3.f2)) || (!(((rd_T45 l0 x20_2).f4.f3) == ((rd_T45 l1 x26_3).f3.f3)))))) = true := c25
        clear c25
        simp only [Option.some.injEq, Prod.mk.injEq] at H
        obtain ⟨rfl, rfl⟩ := H
        have p294 : 0 ≤ (x26_3 : Int) := of_decide_eq_true (by assumption)
        have q294 : x26_3 < (l1.length : Int) := of_decide_eq_true (by assumption)
        obtain ⟨ad294, e294, hx294_0, hx294_1, hx294_2, hx294_3, hx294_4, hx294_5, hx294_6, hx294_7, hx294_8, hx294_9, hx294_10⟩ := at_T45 HR1.out x26_3 p294 q294
        cases e294
        replace hx294_0 := hk_ HB.out hx294_0
        replace hx294_1 := hk_ HB.out hx294_1
        replace hx294_2 := hk_ HB.out hx294_2
        replace hx294_3 := hk_ HB.out hx294_3
        replace hx294_4 := hk_ HB.out hx294_4
        replace hx294_5 := hk_ HB.out hx294_5
        replace hx294_6 := hk_ HB.out hx294_6
        replace hx294_7 := hk_ HB.out hx294_7
        replace hx294_8 := hk_ HB.out hx294_8
        replace hx294_9 := hk_ HB.out hx294_9
        replace hx294_10 := hk_ HB.out hx294_10
        replace p294 := eq_true p294
        replace q294 := eq_true q294
        go_wp2_with (first | ((with_reducible refine gate_dst (N := 9) rfl ?_); refine box_event ?hg (N := 9) ?hd (cs := #[.string (⟨#[]⟩ : ByteArray), .bool false, .bool false, .string (⟨#[]⟩ : ByteArray), .string (⟨#[]⟩ : ByteArray), .int .i64 0, .int .i64 0, .string (⟨#[]⟩ : ByteArray), .string (⟨#[]⟩ : ByteArray), .int .i64 0, .int .i64 0]) (t := 45) ?hr ?_; (case hd => rfl); (case hg => rfl); (case hr => first | (go_simp; done) | (go_simp; rfl)); intro gb295 hg w26 hbox hb; have n0_ := Aside0.mk (blk_below (g := gb293) (o := .cells #[.string ((rd_T45 l0 x20_2).f0), .bool ((rd_T45 l0 x20_2).f1), .bool ((rd_T45 l0 x20_2).f2), .string ((rd_T45 l0 x20_2).f3.f0), .string ((rd_T45 l0 x20_2).f3.f1), .int .i64 ((rd_T45 l0 x20_2).f3.f2), .int .i64 ((rd_T45 l0 x20_2).f3.f3), .string ((rd_T45 l0 x20_2).f4.f0), .string ((rd_T45 l0 x20_2).f4.f1), .int .i64 ((rd_T45 l0 x20_2).f4.f2), .int .i64 ((rd_T45 l0 x20_2).f4.f3)] 45 (0, 0)) (ub_ BK293.out) hb); have n1_ := Aside0.mk (below_step (bes_ GE293.out) hb); have n2_ := Aside0.mk (hbox); have n3_ := Aside0.mk ((by rw [hg]; exact (below_size (bes_ GE293.out)) : w.heap.size ≤ gb295)); have n4_ := Aside0.mk ((by rw [hg]; exact (below_size (bes_ GE293.out)) : w.heap.size ≤ gb295)); have n5_ := Aside0.mk ((by rw [hg]; exact Nat.ne_of_lt (blk_lt (g := gb293) (o := .cells #[.string ((rd_T45 l0 x20_2).f0), .bool ((rd_T45 l0 x20_2).f1), .bool ((rd_T45 l0 x20_2).f2), .string ((rd_T45 l0 x20_2).f3.f0), .string ((rd_T45 l0 x20_2).f3.f1), .int .i64 ((rd_T45 l0 x20_2).f3.f2), .int .i64 ((rd_T45 l0 x20_2).f3.f3), .string ((rd_T45 l0 x20_2).f4.f0), .string ((rd_T45 l0 x20_2).f4.f1), .int .i64 ((rd_T45 l0 x20_2).f4.f2), .int .i64 ((rd_T45 l0 x20_2).f4.f3)] 45 (0, 0)) (ub_ BK293.out)) : gb293 ≠ gb295)); have n6_ := Aside0.mk ((by rw [hg]; exact Nat.ne_of_gt (blk_lt (g := gb293) (o := .cells #[.string ((rd_T45 l0 x20_2).f0), .bool ((rd_T45 l0 x20_2).f1), .bool ((rd_T45 l0 x20_2).f2), .string ((rd_T45 l0 x20_2).f3.f0), .string ((rd_T45 l0 x20_2).f3.f1), .int .i64 ((rd_T45 l0 x20_2).f3.f2), .int .i64 ((rd_T45 l0 x20_2).f3.f3), .string ((rd_T45 l0 x20_2).f4.f0), .string ((rd_T45 l0 x20_2).f4.f1), .int .i64 ((rd_T45 l0 x20_2).f4.f2), .int .i64 ((rd_T45 l0 x20_2).f4.f3)] 45 (0, 0)) (ub_ BK293.out)) : gb295 ≠ gb293)); clear BK293; clear HB; have BK293 := n0_; have HB := n1_; have BK295 := n2_; have GW295 := n3_; have GE295 := n4_; have NB293_295 := n5_; have NB295_293 := n6_; clear n0_ n1_ n2_ n3_ n4_ n5_ n6_; clear hb hbox hg; have hnb27 := NB295_293.out; have hnc27 := NB293_295.out; have hcz28_0 : w26.cell? ⟨gb295, 0, none⟩ = some (.string (⟨#[]⟩ : ByteArray)) := (blk_cell BK295.out 0).trans rfl; have hcz28_1 : w26.cell? ⟨gb295, 1, none⟩ = some (.bool false) := (blk_cell BK295.out 1).trans rfl; have hcz28_2 : w26.cell? ⟨gb295, 2, none⟩ = some (.bool false) := (blk_cell BK295.out 2).trans rfl; have hcz28_3 : w26.cell? ⟨gb295, 3, none⟩ = some (.string (⟨#[]⟩ : ByteArray)) := (blk_cell BK295.out 3).trans rfl; have hcz28_4 : w26.cell? ⟨gb295, 4, none⟩ = some (.string (⟨#[]⟩ : ByteArray)) := (blk_cell BK295.out 4).trans rfl; have hcz28_5 : w26.cell? ⟨gb295, 5, none⟩ = some (.int .i64 0) := (blk_cell BK295.out 5).trans rfl; have hcz28_6 : w26.cell? ⟨gb295, 6, none⟩ = some (.int .i64 0) := (blk_cell BK295.out 6).trans rfl; have hcz28_7 : w26.cell? ⟨gb295, 7, none⟩ = some (.string (⟨#[]⟩ : ByteArray)) := (blk_cell BK295.out 7).trans rfl; have hcz28_8 : w26.cell? ⟨gb295, 8, none⟩ = some (.string (⟨#[]⟩ : ByteArray)) := (blk_cell BK295.out 8).trans rfl; have hcz28_9 : w26.cell? ⟨gb295, 9, none⟩ = some (.int .i64 0) := (blk_cell BK295.out 9).trans rfl; have hcz28_10 : w26.cell? ⟨gb295, 10, none⟩ = some (.int .i64 0) := (blk_cell BK295.out 10).trans rfl; have hfz28_0 := blk_frozen BK295.out 0; have hfz28_1 := blk_frozen BK295.out 1; have hfz28_2 := blk_frozen BK295.out 2; have hfz28_3 := blk_frozen BK295.out 3; have hfz28_4 := blk_frozen BK295.out 4; have hfz28_5 := blk_frozen BK295.out 5; have hfz28_6 := blk_frozen BK295.out 6; have hfz28_7 := blk_frozen BK295.out 7; have hfz28_8 := blk_frozen BK295.out 8; have hfz28_9 := blk_frozen BK295.out 9; have hfz28_10 := blk_frozen BK295.out 10; have hcz29_0 : w26.cell? ⟨gb293, 0, none⟩ = some (.string ((rd_T45 l0 x20_2).f0)) := (blk_cell BK293.out 0).trans rfl; have hcz29_1 : w26.cell? ⟨gb293, 1, none⟩ = some (.bool ((rd_T45 l0 x20_2).f1)) := (blk_cell BK293.out 1).trans rfl; have hcz29_2 : w26.cell? ⟨gb293, 2, none⟩ = some (.bool ((rd_T45 l0 x20_2).f2)) := (blk_cell BK293.out 2).trans rfl; have hcz29_3 : w26.cell? ⟨gb293, 3, none⟩ = some (.string ((rd_T45 l0 x20_2).f3.f0)) := (blk_cell BK293.out 3).trans rfl; have hcz29_4 : w26.cell? ⟨gb293, 4, none⟩ = some (.string ((rd_T45 l0 x20_2).f3.f1)) := (blk_cell BK293.out 4).trans rfl; have hcz29_5 : w26.cell? ⟨gb293, 5, none⟩ = some (.int .i64 ((rd_T45 l0 x20_2).f3.f2)) := (blk_cell BK293.out 5).trans rfl; have hcz29_6 : w26.cell? ⟨gb293, 6, none⟩ = some (.int .i64 ((rd_T45 l0 x20_2).f3.f3)) := (blk_cell BK293.out 6).trans rfl; have hcz29_7 : w26.cell? ⟨gb293, 7, none⟩ = some (.string ((rd_T45 l0 x20_2).f4.f0)) := (blk_cell BK293.out 7).trans rfl; have hcz29_8 : w26.cell? ⟨gb293, 8, none⟩ = some (.string ((rd_T45 l0 x20_2).f4.f1)) := (blk_cell BK293.out 8).trans rfl; have hcz29_9 : w26.cell? ⟨gb293, 9, none⟩ = some (.int .i64 ((rd_T45 l0 x20_2).f4.f2)) := (blk_cell BK293.out 9).trans rfl; have hcz29_10 : w26.cell? ⟨gb293, 10, none⟩ = some (.int .i64 ((rd_T45 l0 x20_2).f4.f3)) := (blk_cell BK293.out 10).trans rfl; have hfz29_0 := blk_frozen BK293.out 0; have hfz29_1 := blk_frozen BK293.out 1; have hfz29_2 := blk_frozen BK293.out 2; have hfz29_3 := blk_frozen BK293.out 3; have hfz29_4 := blk_frozen BK293.out 4; have hfz29_5 := blk_frozen BK293.out 5; have hfz29_6 := blk_frozen BK293.out 6; have hfz29_7 := blk_frozen BK293.out 7; have hfz29_8 := blk_frozen BK293.out 8; have hfz29_9 := blk_frozen BK293.out 9; have hfz29_10 := blk_frozen BK293.out 10))
        go_ret2
        exact ⟨_, er_, nl_, by repeat (first | (with_reducible first | exact HB.out | apply below_alloc | apply pw_below_drewN | apply below_drew1 | refine below_set ?_ GE293.out | refine below_set ?_ GE295.out) | exact HB.out)⟩
       rw [if_neg c25] at H
       have c25b0 : (!(((rd_T45 l0 x20_2).f4.f0).toList == (((rd_T45 l1 x26_3).f3.f0).toList)) || (!(((rd_T45 l0 x20_2).f4.f1).toList == (((rd_T45 l1 x26_3).f3.f1).toList)) || (!(((rd_T45 l0 x20_2).f4.f2) == ((rd_T45 l1 x26_3).f3.f2)) || (!(((rd_T45 l0 x20_2).f4.f3) == ((rd_T45 l1 x26_3).f3.f3)))))) = false := by simpa using c25
       clear c25
       have H' := Aside0.mk H
       clear H
       have p294 : 0 ≤ (x26_3 : Int) := of_decide_eq_true (by assumption)
       have q294 : x26_3 < (l1.length : Int) := of_decide_eq_true (by assumption)
       obtain ⟨ad294, e294, hx294_0, hx294_1, hx294_2, hx294_3, hx294_4, hx294_5, hx294_6, hx294_7, hx294_8, hx294_9, hx294_10⟩ := at_T45 HR1.out x26_3 p294 q294
       cases e294
       replace hx294_0 := hk_ HB.out hx294_0
       replace hx294_1 := hk_ HB.out hx294_1
       replace hx294_2 := hk_ HB.out hx294_2
       replace hx294_3 := hk_ HB.out hx294_3
       replace hx294_4 := hk_ HB.out hx294_4
       replace hx294_5 := hk_ HB.out hx294_5
       replace hx294_6 := hk_ HB.out hx294_6
       replace hx294_7 := hk_ HB.out hx294_7
       replace hx294_8 := hk_ HB.out hx294_8
       replace hx294_9 := hk_ HB.out hx294_9
       replace hx294_10 := hk_ HB.out hx294_10
       replace p294 := eq_true p294
       replace q294 := eq_true q294
       go_wp2_with (first | ((with_reducible refine gate_dst (N := 9) rfl ?_); refine box_event ?hg (N := 9) ?hd (cs := #[.string (⟨#[]⟩ : ByteArray), .bool false, .bool false, .string (⟨#[]⟩ : ByteArray), .string (⟨#[]⟩ : ByteArray), .int .i64 0, .int .i64 0, .string (⟨#[]⟩ : ByteArray), .string (⟨#[]⟩ : ByteArray), .int .i64 0, .int .i64 0]) (t := 45) ?hr ?_; (case hd => rfl); (case hg => rfl); (case hr => first | (go_simp; done) | (go_simp; rfl)); intro gb295 hg w30 hbox hb; have n0_ := Aside0.mk (blk_below (g := gb293) (o := .cells #[.string ((rd_T45 l0 x20_2).f0), .bool ((rd_T45 l0 x20_2).f1), .bool ((rd_T45 l0 x20_2).f2), .string ((rd_T45 l0 x20_2).f3.f0), .string ((rd_T45 l0 x20_2).f3.f1), .int .i64 ((rd_T45 l0 x20_2).f3.f2), .int .i64 ((rd_T45 l0 x20_2).f3.f3), .string ((rd_T45 l0 x20_2).f4.f0), .string ((rd_T45 l0 x20_2).f4.f1), .int .i64 ((rd_T45 l0 x20_2).f4.f2), .int .i64 ((rd_T45 l0 x20_2).f4.f3)] 45 (0, 0)) (ub_ BK293.out) hb); have n1_ := Aside0.mk (below_step (bes_ GE293.out) hb); have n2_ := Aside0.mk (hbox); have n3_ := Aside0.mk ((by rw [hg]; exact (below_size (bes_ GE293.out)) : w.heap.size ≤ gb295)); have n4_ := Aside0.mk ((by rw [hg]; exact (below_size (bes_ GE293.out)) : w.heap.size ≤ gb295)); have n5_ := Aside0.mk ((by rw [hg]; exact Nat.ne_of_lt (blk_lt (g := gb293) (o := .cells #[.string ((rd_T45 l0 x20_2).f0), .bool ((rd_T45 l0 x20_2).f1), .bool ((rd_T45 l0 x20_2).f2), .string ((rd_T45 l0 x20_2).f3.f0), .string ((rd_T45 l0 x20_2).f3.f1), .int .i64 ((rd_T45 l0 x20_2).f3.f2), .int .i64 ((rd_T45 l0 x20_2).f3.f3), .string ((rd_T45 l0 x20_2).f4.f0), .string ((rd_T45 l0 x20_2).f4.f1), .int .i64 ((rd_T45 l0 x20_2).f4.f2), .int .i64 ((rd_T45 l0 x20_2).f4.f3)] 45 (0, 0)) (ub_ BK293.out)) : gb293 ≠ gb295)); have n6_ := Aside0.mk ((by rw [hg]; exact Nat.ne_of_gt (blk_lt (g := gb293) (o := .cells #[.string ((rd_T45 l0 x20_2).f0), .bool ((rd_T45 l0 x20_2).f1), .bool ((rd_T45 l0 x20_2).f2), .string ((rd_T45 l0 x20_2).f3.f0), .string ((rd_T45 l0 x20_2).f3.f1), .int .i64 ((rd_T45 l0 x20_2).f3.f2), .int .i64 ((rd_T45 l0 x20_2).f3.f3), .string ((rd_T45 l0 x20_2).f4.f0), .string ((rd_T45 l0 x20_2).f4.f1), .int .i64 ((rd_T45 l0 x20_2).f4.f2), .int .i64 ((rd_T45 l0 x20_2).f4.f3)] 45 (0, 0)) (ub_ BK293.out)) : gb295 ≠ gb293)); clear BK293; clear HB; have BK293 := n0_; have HB := n1_; have BK295 := n2_; have GW295 := n3_; have GE295 := n4_; have NB293_295 := n5_; have NB295_293 := n6_; clear n0_ n1_ n2_ n3_ n4_ n5_ n6_; clear hb hbox hg; have hnb31 := NB295_293.out; have hnc31 := NB293_295.out; have hcz32_0 : w30.cell? ⟨gb295, 0, none⟩ = some (.string (⟨#[]⟩ : ByteArray)) := (blk_cell BK295.out 0).trans rfl; have hcz32_1 : w30.cell? ⟨gb295, 1, none⟩ = some (.bool false) := (blk_cell BK295.out 1).trans rfl; have hcz32_2 : w30.cell? ⟨gb295, 2, none⟩ = some (.bool false) := (blk_cell BK295.out 2).trans rfl; have hcz32_3 : w30.cell? ⟨gb295, 3, none⟩ = some (.string (⟨#[]⟩ : ByteArray)) := (blk_cell BK295.out 3).trans rfl; have hcz32_4 : w30.cell? ⟨gb295, 4, none⟩ = some (.string (⟨#[]⟩ : ByteArray)) := (blk_cell BK295.out 4).trans rfl; have hcz32_5 : w30.cell? ⟨gb295, 5, none⟩ = some (.int .i64 0) := (blk_cell BK295.out 5).trans rfl; have hcz32_6 : w30.cell? ⟨gb295, 6, none⟩ = some (.int .i64 0) := (blk_cell BK295.out 6).trans rfl; have hcz32_7 : w30.cell? ⟨gb295, 7, none⟩ = some (.string (⟨#[]⟩ : ByteArray)) := (blk_cell BK295.out 7).trans rfl; have hcz32_8 : w30.cell? ⟨gb295, 8, none⟩ = some (.string (⟨#[]⟩ : ByteArray)) := (blk_cell BK295.out 8).trans rfl; have hcz32_9 : w30.cell? ⟨gb295, 9, none⟩ = some (.int .i64 0) := (blk_cell BK295.out 9).trans rfl; have hcz32_10 : w30.cell? ⟨gb295, 10, none⟩ = some (.int .i64 0) := (blk_cell BK295.out 10).trans rfl; have hfz32_0 := blk_frozen BK295.out 0; have hfz32_1 := blk_frozen BK295.out 1; have hfz32_2 := blk_frozen BK295.out 2; have hfz32_3 := blk_frozen BK295.out 3; have hfz32_4 := blk_frozen BK295.out 4; have hfz32_5 := blk_frozen BK295.out 5; have hfz32_6 := blk_frozen BK295.out 6; have hfz32_7 := blk_frozen BK295.out 7; have hfz32_8 := blk_frozen BK295.out 8; have hfz32_9 := blk_frozen BK295.out 9; have hfz32_10 := blk_frozen BK295.out 10; have hcz33_0 : w30.cell? ⟨gb293, 0, none⟩ = some (.string ((rd_T45 l0 x20_2).f0)) := (blk_cell BK293.out 0).trans rfl; have hcz33_1 : w30.cell? ⟨gb293, 1, none⟩ = some (.bool ((rd_T45 l0 x20_2).f1)) := (blk_cell BK293.out 1).trans rfl; have hcz33_2 : w30.cell? ⟨gb293, 2, none⟩ = some (.bool ((rd_T45 l0 x20_2).f2)) := (blk_cell BK293.out 2).trans rfl; have hcz33_3 : w30.cell? ⟨gb293, 3, none⟩ = some (.string ((rd_T45 l0 x20_2).f3.f0)) := (blk_cell BK293.out 3).trans rfl; have hcz33_4 : w30.cell? ⟨gb293, 4, none⟩ = some (.string ((rd_T45 l0 x20_2).f3.f1)) := (blk_cell BK293.out 4).trans rfl; have hcz33_5 : w30.cell? ⟨gb293, 5, none⟩ = some (.int .i64 ((rd_T45 l0 x20_2).f3.f2)) := (blk_cell BK293.out 5).trans rfl; have hcz33_6 : w30.cell? ⟨gb293, 6, none⟩ = some (.int .i64 ((rd_T45 l0 x20_2).f3.f3)) := (blk_cell BK293.out 6).trans rfl; have hcz33_7 : w30.cell? ⟨gb293, 7, none⟩ = some (.string ((rd_T45 l0 x20_2).f4.f0)) := (blk_cell BK293.out 7).trans rfl; have hcz33_8 : w30.cell? ⟨gb293, 8, none⟩ = some (.string ((rd_T45 l0 x20_2).f4.f1)) := (blk_cell BK293.out 8).trans rfl; have hcz33_9 : w30.cell? ⟨gb293, 9, none⟩ = some (.int .i64 ((rd_T45 l0 x20_2).f4.f2)) := (blk_cell BK293.out 9).trans rfl; have hcz33_10 : w30.cell? ⟨gb293, 10, none⟩ = some (.int .i64 ((rd_T45 l0 x20_2).f4.f3)) := (blk_cell BK293.out 10).trans rfl; have hfz33_0 := blk_frozen BK293.out 0; have hfz33_1 := blk_frozen BK293.out 1; have hfz33_2 := blk_frozen BK293.out 2; have hfz33_3 := blk_frozen BK293.out 3; have hfz33_4 := blk_frozen BK293.out 4; have hfz33_5 := blk_frozen BK293.out 5; have hfz33_6 := blk_frozen BK293.out 6; have hfz33_7 := blk_frozen BK293.out 7; have hfz33_8 := blk_frozen BK293.out 8; have hfz33_9 := blk_frozen BK293.out 9; have hfz33_10 := blk_frozen BK293.out 10))
       go_roundg k3
       case measure => have := HJ2.out; have := HK2.out; have := HK3.out; omega
       case rel => exact ⟨(wrap64 (x26_3 + 1)), (rf_), H', ⟨by have := HJ2.out; have := HK2.out; have := HK3.out; omega⟩, ⟨by refine ub_ ?_; refine blk_far ?_ NB293_295.out _; refine ub_ ?_; refine blk_far ?_ NB293_295.out _; refine ub_ ?_; refine blk_far ?_ NB293_295.out _; refine ub_ ?_; refine blk_far ?_ NB293_295.out _; refine ub_ ?_; refine blk_far ?_ NB293_295.out _; refine ub_ ?_; refine blk_far ?_ NB293_295.out _; refine ub_ ?_; refine blk_far ?_ NB293_295.out _; refine ub_ ?_; refine blk_far ?_ NB293_295.out _; refine ub_ ?_; refine blk_far ?_ NB293_295.out _; refine ub_ ?_; refine blk_far ?_ NB293_295.out _; refine ub_ ?_; refine blk_far ?_ NB293_295.out _; refine ub_ ?_; exact BK293.out⟩, ⟨by repeat (first | (with_reducible first | exact HB.out | apply below_alloc | apply pw_below_drewN | apply below_drew1 | refine below_set ?_ GE293.out | refine below_set ?_ GE295.out) | exact HB.out)⟩⟩
open Go.Proofs.YtehfogjibhnabaaGreatDoor.Sp
theorem rd_mem (l : List ByteArray) (i : Nat) (h : i < l.length) : rdOf ByteArray.empty l (i : Int) ∈ l := by
 simp only [rdOf, Int.toNat_natCast, List.getD_eq_getElem?_getD, List.getElem?_eq_getElem h, Option.getD_some]; exact List.getElem_mem _
theorem snap_zero (l : List S43) : snapV l = 0 ↔ l.all placedB = true ∧ l.length ≤ 512 ∧ (∀ f ∈ l, fileR f = true) ∧ l.Pairwise (fun a b => Apart2 a.f0 b.f0) := by
 unfold snapV
 by_cases h1 : l.all placedB = true
 rotate_left
 ·rw [if_neg h1]; constructor
  ·intro h; exact absurd h (by decide)
  rintro ⟨h, _⟩; exact absurd h h1
 rw [if_pos h1]
 by_cases h2 : l.length > 512
 ·rw [if_pos h2]; constructor
  ·intro h; exact absurd h (by decide)
  rintro ⟨_, h, _⟩; omega
 rw [if_neg h2]
 have e := chain_all fileR S43.f0 l none
 constructor
 ·intro h
  by_cases c : chainR fileR S43.f0 none l = true
  ·obtain ⟨a, b, _⟩ := e.1 c; exact ⟨h1, by omega, a, b⟩
  rw [if_neg c] at h; exact absurd h (by decide)
 rintro ⟨_, _, a, b⟩
 rw [if_pos (e.2 ⟨a, b, fun y e => by cases e⟩)]
def clash1 (x y : S45) : Bool := decide (x.f0 = y.f0) && (x.f2 != y.f1 || !eqF x.f4 y.f3)
def clashB (d e : List S45) : Bool := d.any fun x => e.any (clash1 x)
def joinV (d e : List S45) : List S45 × Int :=
 if validD d = true ∧ validD e = true then (if clashB d e = true then ([], 9) else (joinK S45.f0 idleC outerC (d.length + e.length) d e, 0)) else ([], 9)
theorem join06_l1 (d e : List S45) (i : Nat) (hd : d.length ≤ 4194304) (he : e.length ≤ 4194304) (x : S45) (hi : i < d.length) (r : List S45 × Int)
  (hr : Ev (fun k => delta_Join.l0 k d e d (d.length : Int) ((i + 1 : Nat) : Int)) r) (n : Nat) : ∀ j, e.length - j = n → j ≤ e.length →
  Ev (fun k => delta_Join.l1 k d e d (d.length : Int) (i : Int) e (e.length : Int) (j : Int) x.f0 x.f1 x.f2 x.f3.f0 x.f3.f1 x.f3.f2 x.f3.f3 x.f4.f0 x.f4.f1 x.f4.f2 x.f4.f3) (if (e.drop j).any (clash1 x) = true then ([], 9) else r) := by
 induction n with
 | zero =>
  intro j hn hj
  refine Ev.step (f := fun k => delta_Join.l0 k d e d (d.length : Int) ((i + 1 : Nat) : Int)) (fun k => ?_) ?_
  ·simp only [delta_Join.l1]
   rw [if_neg (by omega), wrap_succ (n := d.length) (by omega) (by omega)]
  rw [List.drop_of_length_le (by omega), if_neg (by simp)]
  exact hr
 | succ n ih =>
  intro j hn hj
  have hlt : j < e.length := by omega
  obtain ⟨K, hK⟩ := ih (j + 1) (by omega) (by omega)
  dsimp only at hK
  have hw : wrap64 ((j : Int) + 1) = ((j + 1 : Nat) : Int) := wrap_succ (n := e.length) (by omega) (by omega)
  rw [rdC_drop e j hlt, List.any_cons]
  refine ⟨K + 1, fun k hk => ?_⟩
  obtain ⟨k, rfl⟩ : ∃ m, k = m + 1 := ⟨k - 1, by omega⟩
  simp only [delta_Join.l1]
  rw [if_pos (by omega), if_pos (by omega), if_pos (by omega), hw]
  generalize rd_T45 e (j : Int) = y
  unfold clash1 at hK ⊢
  by_cases h0 : x.f0 = y.f0
  rotate_left
  ·rw [if_neg (fun h => h0 (bs_inj (by rw [← toList_bs, ← toList_bs]; exact h))), decide_eq_false h0, Bool.false_and, Bool.false_or]
   exact hK k (by omega)
  rw [if_pos (by rw [h0]), decide_eq_true h0, Bool.true_and]
  by_cases h1 : (x.f2 != y.f1) = true
  ·rw [if_pos h1, h1]; rfl
  have h1' : (x.f2 != y.f1) = false := by simpa using h1
  rw [if_neg h1, h1', Bool.false_or, neF]
  by_cases h2 : eqF x.f4 y.f3 = true
  ·rw [h2, if_neg (by simp)]
   simp only [Bool.not_true, Bool.false_or]
   exact hK k (by omega)
  have h2' : eqF x.f4 y.f3 = false := by simpa using h2
  rw [h2', if_pos (show (!false) = true from rfl)]; rfl
theorem join06_l0 (d e : List S45) (hd : d.length ≤ 4194304) (he : e.length ≤ 4194304) (fd : FitsD d) (fe : FitsD e) (n : Nat) : ∀ i, d.length - i = n → i ≤ d.length →
  Ev (fun k => delta_Join.l0 k d e d (d.length : Int) (i : Int)) (if clashB (d.drop i) e = true then ([], 9) else (joinK S45.f0 idleC outerC (d.length + e.length) d e, 0)) := by
 induction n with
 | zero =>
  intro i hn hi
  refine ⟨1, fun k hk => ?_⟩
  obtain ⟨k, rfl⟩ : ∃ m, k = m + 1 := ⟨k - 1, by omega⟩
  simp only [delta_Join.l0]
  rw [if_neg (by omega), joined06 k d e true hd he fd fe, Option.bind_some, List.drop_of_length_le (by omega)]
  rfl
 | succ n ih =>
  intro i hn hi
  have hlt : i < d.length := by omega
  refine Ev.step (f := fun k => delta_Join.l1 k d e d (d.length : Int) (i : Int) e (e.length : Int) ((0 : Nat) : Int) (rd_T45 d (i : Int)).f0 (rd_T45 d (i : Int)).f1 (rd_T45 d (i : Int)).f2 (rd_T45 d (i : Int)).f3.f0 (rd_T45 d (i : Int)).f3.f1 (rd_T45 d (i : Int)).f3.f2 (rd_T45 d (i : Int)).f3.f3 (rd_T45 d (i : Int)).f4.f0 (rd_T45 d (i : Int)).f4.f1 (rd_T45 d (i : Int)).f4.f2 (rd_T45 d (i : Int)).f4.f3) (fun k => ?_) ?_
  ·simp only [delta_Join.l0]
   rw [if_pos (by omega), if_pos (by omega), if_pos (by omega)]
   rfl
  refine Ev.val (join06_l1 d e i hd he (rd_T45 d (i : Int)) hlt _ (ih (i + 1) (by omega) (by omega)) e.length 0 (by omega) (by omega)) ?_
  rw [rdC_drop d i hlt]
  unfold clashB
  rw [List.any_cons, List.drop_zero]
  by_cases h : e.any (clash1 (rd_T45 d (i : Int))) = true
  ·rw [if_pos h, h, Bool.true_or, if_pos rfl]
  have h' : e.any (clash1 (rd_T45 d (i : Int))) = false := by simpa using h
  rw [if_neg h, h', Bool.false_or]
theorem join06 (d e : List S45) (hd : d.length ≤ 4194304) (he : e.length ≤ 4194304) (fd : FitsD d) (fe : FitsD e) : Ev (fun k => delta_Join.f k d e) (joinV d e) := by
 have nope : Ev (fun k => delta_Join.j0 k d e true) ([], 9) := by
  refine Ev.step (f := fun _ => some ([], 9)) (fun k => ?_) (ev_some _)
  simp only [delta_Join.j0]
  rw [if_pos trivial]
 unfold joinV
 refine Ev.bind (valid06 d (by omega) fd) ?_
 by_cases h1 : validD d = true
 rotate_left
 ·have h1' : validD d = false := by simpa using h1
  simp only [h1', if_neg (show ¬ (false = true) by decide)]
  rw [if_neg (by simp)]
  exact nope
 rw [h1]
 simp only [if_true]
 refine Ev.bind (valid06 e (by omega) fe) ?_
 by_cases h2 : validD e = true
 ·rw [h2, if_pos (by simp)]
  refine Ev.step (f := fun k => delta_Join.l0 k d e d (d.length : Int) ((0 : Nat) : Int)) (fun k => ?_) (Ev.val (join06_l0 d e hd he fd fe d.length 0 (by omega) (by omega)) (by rw [List.drop_zero]))
  simp only [delta_Join.j0]
  rw [if_neg (by simp)]
  rfl
 have h2' : validD e = false := by simpa using h2
 rw [h2', if_neg (by simp)]
 exact nope
section
variable {a b c : List S43} {d e : List S45}
abbrev atF (l : List S43) (p : ByteArray) : Option S43 := atK S43.f0 l p
abbrev atC (l : List S45) (p : ByteArray) : Option S45 := atK S45.f0 l p
theorem snap_rises (h : snapV a = 0) : RisesK S43.f0 a := ((snap_zero a).1 h).2.2.2.imp fun h => h.1
def partsO (x y : Option S43) (p : ByteArray) : Option S45 := match x, y with
 | none, none => none
 | some x, none => some ⟨p, true, false, x, z43⟩
 | none, some y => some ⟨p, false, true, z43, y⟩
 | some x, some y => if eqF x y = true then none else some ⟨p, true, true, x, y⟩
theorem diff_spec (ha : RisesK S43.f0 a) (hb : RisesK S43.f0 b) : RisesK S45.f0 (diffD a b) ∧ ∀ p, atC (diffD a b) p = partsO (atF a p) (atF b p) p := by
 have h := joinK_spec (key := S45.f0) (idle := idleC) (comb := outerC) (fun _ _ => rfl) (a.length + b.length) (a.map goneC) (b.map comeC) (by simp) (ha.map goneC fun _ => rfl) (hb.map comeC fun _ => rfl)
 refine ⟨h.1, fun p => (h.2 p).trans ?_⟩
 rw [atK_map goneC (key := S43.f0) (fun _ => rfl), atK_map comeC (key := S43.f0) (fun _ => rfl)]
 change (bothO outerC ((atF a p).map goneC) ((atF b p).map comeC)).filter (fun z => !idleC z) = partsO (atF a p) (atF b p) p
 unfold partsO
 cases hx : atF a p with
 | none =>
  cases hy : atF b p with
  | none => rfl
  | some y =>
   have := (atK_some hy).1
   subst this
   rfl
 | some x =>
  have e := (atK_some hx).1
  subst e
  cases hy : atF b x.f0 with
  | none => rfl
  | some y =>
   have e := (atK_some hy).1
   show (some (outerC (goneC x) (comeC y))).filter (fun z => !idleC z) = _
   have hi : idleC (outerC (goneC x) (comeC y)) = eqF x y := rfl
   by_cases hxy : x = y
   ·subst hxy
    simp [Option.filter, hi, eqF_self]
   have hi2 : idleC ⟨x.f0, true, true, x, y⟩ = false := (show _ = eqF x y from rfl).trans (eqF_ne hxy)
   simp [Option.filter, hi2, eqF_ne hxy, outerC, goneC, comeC]
theorem apply_spec (ha : RisesK S43.f0 a) (hd : RisesK S45.f0 d) (hm : ∀ c ∈ d, c.f2 = true → c.f4.f0 = c.f0) :
  RisesK S43.f0 (applyL a d) ∧ ∀ p, atF (applyL a d) p = match atC d p with | none => atF a p | some c => if c.f2 = true then some c.f4 else none := by
 have h := joinK_spec (key := S45.f0) (idle := goesC) (comb := overC) (fun _ _ => rfl) (a.length + d.length) (a.map comeC) d (by simp) (ha.map comeC fun _ => rfl) hd
 have hat : ∀ p, atC (joinK S45.f0 goesC overC (a.length + d.length) (a.map comeC) d) p = (bothO overC ((atF a p).map comeC) (atC d p)).filter (fun z => !goesC z) := fun p => by
  rw [← atK_map comeC (key := S43.f0) (key2 := S45.f0) (fun _ => rfl)]
  exact h.2 p
 have hin : ∀ z ∈ joinK S45.f0 goesC overC (a.length + d.length) (a.map comeC) d, z.f4.f0 = z.f0 := fun z hz => by
  have h1 := h.1.mem hz
  have h2 := (hat z.f0).symm.trans h1
  cases hx : atF a z.f0 with
  | none =>
   rw [hx] at h2
   cases hy : atC d z.f0 with
   | none => rw [hy] at h2; simp [bothO] at h2
   | some y =>
    rw [hy] at h2
    by_cases hg : y.f2 = true
    ·simp [bothO, Option.filter, goesC, hg] at h2
     subst h2
     exact hm _ (atK_some hy).2 hg
    simp [bothO, Option.filter, goesC, hg] at h2
  | some x =>
   rw [hx] at h2
   cases hy : atC d z.f0 with
   | none =>
    rw [hy] at h2
    simp only [Option.map_some, bothO, Option.filter, goesC, comeC] at h2
    obtain rfl := Option.some.inj h2
    rfl
   | some y =>
    rw [hy] at h2
    by_cases hg : y.f2 = true
    ·simp [bothO, Option.filter, goesC, overC, hg] at h2
     have e1 : z.f4 = y.f4 := by rw [← h2]
     rw [e1, hm y (atK_some hy).2 hg, (atK_some hy).1]
    simp [bothO, Option.filter, goesC, overC, hg] at h2
 refine ⟨h.1.mapM S45.f4 hin, fun p => ?_⟩
 refine (atK_mapM S45.f4 _ hin p).trans ?_
 refine (congrArg (Option.map S45.f4) (hat p)).trans ?_
 cases hx : atF a p with
 | none =>
  cases hy : atC d p with
  | none => rfl
  | some y =>
   by_cases hg : y.f2 = true <;> simp [bothO, Option.filter, goesC, hg]
 | some x =>
  cases hy : atC d p with
  | none => rfl
  | some y =>
   by_cases hg : y.f2 = true <;> simp [bothO, Option.filter, goesC, overC, hg]
end
section
variable {a b c : List S43} {d e : List S45}
theorem may_new (h : DeltaP d) : ∀ c ∈ d, c.f2 = true → c.f4.f0 = c.f0 := fun c hc h2 => by
 have := h.may c hc
 unfold mayB halfB at this
 simp only [Bool.and_eq_true, if_pos h2, beq_iff_eq, toList_bs] at this
 exact bs_inj this.1.2
end
section
variable {α : Type} {key : α → ByteArray}
theorem atK_mem_ne {l : List α} (h : l.Pairwise fun x y => key x ≠ key y) {x : α} (hx : x ∈ l) : atK key l (key x) = some x := by
 induction l with
 | nil => cases hx
 | cons y l ih =>
  rw [atK_cons]
  obtain ⟨h1, h2⟩ := List.pairwise_cons.1 h
  rcases List.mem_cons.1 hx with rfl | hx
  ·rw [if_pos rfl]
  rw [if_neg (h1 x hx), ih h2 hx]
theorem atK_perm {l m : List α} (h : l.Pairwise fun x y => key x ≠ key y) (hp : m.Perm l) (p : ByteArray) : atK key m p = atK key l p := by
 have h2 : m.Pairwise fun x y => key x ≠ key y := hp.symm.pairwise h fun h => Ne.symm h
 cases e : atK key l p with
 | none =>
  rw [atK_none] at e ⊢
  exact fun x hx => e x (hp.mem_iff.1 hx)
 | some x =>
  obtain ⟨rfl, e2⟩ := atK_some e
  exact atK_mem_ne h2 (hp.mem_iff.2 e2)
theorem risesK_of_le {l : List α} (h : l.Pairwise fun x y => key x ≠ key y) (hs : l.Pairwise fun x y => ¬ cB (key y) (key x) < 0) : RisesK key l := by
 refine (h.and hs).imp ?_
 rintro x y ⟨h1, h2⟩
 have h3 := cB_neg (key x) (key y)
 rcases Int.lt_trichotomy (cB (key x) (key y)) 0 with c | c | c
 ·exact c
 ·exact absurd (cB_eq c) h1
 omega
end
def lay06 (l : List S43) (c : S45) : List S43 := l.filter (fun f => !(f.f0.toList == c.f0.toList)) ++ (if c.f2 = true then [c.f4] else [])
theorem lay06_key (x p : ByteArray) : (x.toList == p.toList) = decide (x = p) := by
 rw [Bool.eq_iff_iff, beq_iff_eq, decide_eq_true_iff]
 exact ⟨fun h => bs_inj (by rw [← toList_bs, ← toList_bs]; exact h), fun h => by rw [h]⟩
theorem atF_cons (x : S43) (l : List S43) (p : ByteArray) : atF (x :: l) p = if x.f0 = p then some x else atF l p := atK_cons x l p
theorem atF_nil (p : ByteArray) : atF [] p = none := rfl
theorem atF_append (m n : List S43) (p : ByteArray) : atF (m ++ n) p = (atF m p).or (atF n p) := List.find?_append
theorem lay06_ne {l : List S43} {c : S45} (h : l.Pairwise fun x y => x.f0 ≠ y.f0) (hm : c.f2 = true → c.f4.f0 = c.f0) : (lay06 l c).Pairwise fun x y => x.f0 ≠ y.f0 := by
 unfold lay06
 rw [List.pairwise_append]
 refine ⟨h.filter _, ?_, ?_⟩
 ·split <;> simp
 intro x hx y hy
 split at hy
 rotate_left
 ·cases hy
 rename_i hc
 rw [List.mem_singleton] at hy
 subst hy
 rw [hm hc]
 have := (List.mem_filter.1 hx).2
 rw [lay06_key] at this
 simpa using this
theorem lay06_find (l : List S43) (c : S45) (hm : c.f2 = true → c.f4.f0 = c.f0) (p : ByteArray) : atF (lay06 l c) p = if c.f0 = p then (if c.f2 = true then some c.f4 else none) else atF l p := by
 have h1 : atF (l.filter fun f => !(f.f0.toList == c.f0.toList)) p = if c.f0 = p then none else atF l p := by
  induction l with
  | nil => simp [atF_nil]
  | cons x l ih =>
   rw [List.filter_cons, lay06_key]
   by_cases hx : x.f0 = c.f0
   ·simp only [hx, decide_true, Bool.not_true, Bool.false_eq_true, if_false]
    rw [ih, atF_cons, hx]
    by_cases hp : c.f0 = p <;> simp [hp]
   simp only [hx, decide_false, Bool.not_false, if_true]
   rw [atF_cons, ih, atF_cons]
   by_cases hp : c.f0 = p
   ·rw [if_pos hp, if_pos hp, if_neg (fun e => hx (e.trans hp.symm))]
   rw [if_neg hp, if_neg hp]
 unfold lay06
 rw [atF_append, h1]
 by_cases hp : c.f0 = p
 ·rw [if_pos hp, if_pos hp]
  by_cases hc : c.f2 = true
  ·rw [if_pos hc, if_pos hc, atF_cons, if_pos ((hm hc).trans hp)]; rfl
  rw [if_neg hc, if_neg hc]; rfl
 rw [if_neg hp, if_neg hp]
 by_cases hc : c.f2 = true
 ·rw [if_pos hc, atF_cons, if_neg (fun e => hp ((hm hc).symm.trans e)), atF_nil]; simp
 rw [if_neg hc, atF_nil]; simp
theorem lays06 (d : List S45) : ∀ l : List S43, (l.Pairwise fun x y => x.f0 ≠ y.f0) → RisesK S45.f0 d → (∀ c ∈ d, c.f2 = true → c.f4.f0 = c.f0) →
  ((d.foldl lay06 l).Pairwise fun x y => x.f0 ≠ y.f0) ∧ ∀ p, atF (d.foldl lay06 l) p = match atC d p with | none => atF l p | some c => if c.f2 = true then some c.f4 else none := by
 induction d with
 | nil => exact fun l h _ _ => ⟨h, fun p => rfl⟩
 | cons c d ih =>
  intro l h hd hm
  obtain ⟨i1, i2⟩ := ih (lay06 l c) (lay06_ne h (hm c (List.mem_cons_self ..))) hd.tail (fun z hz => hm z (List.mem_cons_of_mem _ hz))
  refine ⟨i1, fun p => (i2 p).trans ?_⟩
  rw [lay06_find l c (hm c (List.mem_cons_self ..)) p]
  show _ = match atK S45.f0 (c :: d) p with | none => atF l p | some c => if c.f2 = true then some c.f4 else none
  rw [atK_cons]
  by_cases hp : c.f0 = p
  ·rw [if_pos hp, show atC d p = none from atK_none.2 fun z hz => fun e => cB_ne (hd.head z hz) (hp.trans e.symm), if_pos hp]
  rw [if_neg hp, if_neg hp]
theorem turned06 {a : List S43} {d : List S45} (ha : RisesK S43.f0 a) (hd : RisesK S45.f0 d) (hm : ∀ c ∈ d, c.f2 = true → c.f4.f0 = c.f0) {s : List S43} (hp : s.Perm (d.foldl lay06 a)) (hs : s.Pairwise fun x y => ¬ cB y.f0 x.f0 < 0) : s = applyL a d := by
 obtain ⟨h1, h2⟩ := apply_spec ha hd hm
 obtain ⟨h3, h4⟩ := lays06 d a (ha.imp fun h => cB_ne h) hd hm
 refine risesK_ext _ _ (risesK_of_le (hp.symm.pairwise h3 fun h => Ne.symm h) hs) h1 fun p => ?_
 rw [atK_perm h3 hp p]
 exact (h4 p).trans (h2 p).symm
theorem lit_R55 (w : World) : Kd.R k43 43 (w.alloc (.cells #[] 43)) w.heap.size (fun _ => True) (.slice (some ⟨w.heap.size, 0, none⟩) 0 0) [] := by
 refine ⟨fun _ _ => trivial, [], World.ownsRow_made (size := _) w #[] 0 (Nat.le_refl _) (by decide) (by simp), ⟨rfl, fun j x h => by simp at h⟩⟩
set_option maxHeartbeats 4000000 in
set_option maxRecDepth 100000 in
theorem clone55_calls (A0 : Option Addr) (c0 : Nat) (l : List S43) (w : World) (hr0 : Kd.C k43 w A0 l.length l) (hl : l.length ≤ 4194304) :
  Calls Tryz.prog 30 #[.slice A0 l.length c0] w fun e w' => ∃ v : Value, e = .returned v ∧ Kd.R k43 43 w' w.heap.size (fun _ => True) v l ∧ Below w.heap.size w w' := by
 have HR0 := Aside0.mk hr0
 clear hr0
 rcases A0 with _ | ad
 rotate_left
 ·have hk := fun W => Lib.run_eql_slice_nil (P := Tryz.prog) W 22 43 (some ad) l.length c0 0 0 Tryz.underlying22
  go_enter Tryz.func30, Tryz.ntmps30
  go_wp2_with (first
   | ((with_reducible refine gate_builtin (b := .append) (xs := #[.tmp 5, .tmp 6]) rfl ?_); at_builtin; refine Kd.R_append_rows k43 (w0 := w) w.heap.size rfl (.tmp 5) (.tmp 6) 22 43 (.agg #[(.string ⟨#[]⟩), (.string ⟨#[]⟩), (.int .i64 0), (.int .i64 0)]) 48 rfl Tryz.underlying22 info43 rfl (by decide) (by omega) (.slice (some ⟨w.heap.size, 0, none⟩) 0 0) ([] : List S43) l (some ad) l.length c0 (fun _ => True) (fun _ => False) rfl rfl (lit_R55 w) (Kd.C_alloc HR0.out _) (fun _ _ h => h) (fun _ h => h.elim) (fun _ _ => trivial) (below_alloc (Below.refl _ _) _) (by simp) (by simp; omega) ?_; intro v2 w2 ho hb h4 h5; clear h4 h5; rw [List.nil_append] at ho; obtain ⟨A2, c2, rfl, l2, r2⟩ := Kd.R_reads ho; have O2 := Aside0.mk ho; have B2 := Aside0.mk hb; clear ho hb l2 r2)
   | fail)
  go_ret
  exact ⟨_, rfl, O2.out, B2.out⟩
 have h0 : l = [] := by
  rcases Nat.eq_zero_or_pos l.length with h | h
  ·exact List.eq_nil_of_length_eq_zero h
  obtain ⟨ad, e, _⟩ := HR0.out.2.2 h
  cases e
 subst h0
 clear HR0
 have hk := fun W => Lib.run_eql_slice_nil (P := Tryz.prog) W 22 43 none 0 c0 0 0 Tryz.underlying22
 go_enter Tryz.func30, Tryz.ntmps30
 go_wp2
 go_ret
 exact ⟨_, rfl, Kd.R_nil _ _ _ _ _, Below.refl _ _⟩
set_option maxHeartbeats 4000000 in
set_option maxRecDepth 100000 in
theorem pred56_calls (x : S43) (p : ByteArray) (cb : Nat) (W : World) (hc : W.cell? ⟨cb, 0, none⟩ = some (.string p)) :
  Calls Tryz.prog 34 #[.agg #[.string x.f0, .string x.f1, .int .i64 x.f2, .int .i64 x.f3], .pointer (some ⟨cb, 0, none⟩)] W fun e W' => e = .returned (.bool (x.f0.toList == p.toList)) ∧ Below W.heap.size W W' := by
 have hc2 : ∀ o, (W.alloc o).cell? ⟨cb, 0, none⟩ = some (.string p) := fun o => Lib.cell?_alloc_some o hc
 clear hc
 go_enter Tryz.func34, Tryz.ntmps34
 go_wp2
 go_ret
 exact ⟨rfl, below_alloc (Below.refl _ _) _⟩
def atP (p : ByteArray) (x : S43) : Bool := x.f0.toList == p.toList
set_option maxHeartbeats 4000000 in
set_option maxRecDepth 100000 in
theorem index83_calls (l : List S43) (p : ByteArray) (cb g c : Nat) (w : World) (hr : Kd.C k43 w (some ⟨g, 0, none⟩) l.length l) (hl : l.length ≤ 9000000) (hc : w.cell? ⟨cb, 0, none⟩ = some (.string p)) :
  Calls Tryz.prog 57 #[.slice (some ⟨g, 0, none⟩) l.length c, .func (.func 34) #[] #[.pointer (some ⟨cb, 0, none⟩)]] w fun e w' => (∃ r : Int, e = .returned (.int .i64 r) ∧ ((r = -1 ∧ ∀ x ∈ l, atP p x = false) ∨ ∃ k : Nat, r = k ∧ k < l.length ∧ atP p (rd_T43 l k) = true ∧ ∀ x ∈ l.take k, atP p x = false)) ∧ Below w.heap.size w w' := by
 have HR := Aside0.mk hr
 have HC := Aside0.mk hc
 clear hr hc
 go_enter Tryz.func57, Tryz.ntmps57
 go_wp2
 go_loopg [5, 8] l.length (fun gg s5 s8 wr => ∃ i : Nat, i ≤ l.length ∧ l.length - i ≤ gg ∧ s8 = .int .i64 i ∧ Aside0 (Below w.heap.size w wr) ∧ Aside0 (∀ x ∈ l.take i, atP p x = false))
 case atStart => exact ⟨0, by omega, by omega, by first | rfl | go_num, ⟨Below.refl _ _⟩, ⟨by simp⟩⟩
 case round =>
  obtain ⟨i, hi, hg, rfl, B1, F1⟩ := hrel
  by_cases hlt : i < l.length
  rotate_left
  ·have hltz : ¬ (i : Int) < (l.length : Int) := by omega
   obtain rfl : i = l.length := by omega
   go_wp2
   go_ret
   exact ⟨⟨-1, rfl, .inl ⟨rfl, by have := F1.out; rwa [List.take_length] at this⟩⟩, B1.out⟩
  have hltz : (i : Int) < (l.length : Int) := by omega
  have C1 := Kd.C_below HR.out B1.out
  have hcb := B1.out.cell (p := ⟨cb, 0, none⟩) (World.block_lt_of_cell? w _ HC.out) |>.trans HC.out
  obtain ⟨ad, e1, h0, h1, h2, h3⟩ := at_T43 C1 (i : Int) (by omega) hltz
  injection e1 with e1
  subst e1
  obtain ⟨x, hx⟩ : ∃ x, rd_T43 l (i : Int) = x := ⟨_, rfl⟩
  rw [hx] at h0 h1 h2 h3
  simp only [add_plain, Int.toNat_natCast] at h0 h1 h2 h3
  have X := Aside0.mk hx
  clear hx C1
  have hcall := pred56_calls x p cb wr hcb
  clear hcb
  cases hq : (x.f0.toList == p.toList) with
  | true =>
   rw [hq] at hcall
   go_wp2_with fail
   refine hcall.mono ?_
   rintro e w1 ⟨rfl, hb⟩
   go_wp2
   go_ret
   exact ⟨⟨i, rfl, .inr ⟨i, rfl, hlt, by rw [X.out]; exact hq, F1.out⟩⟩, below_then B1.out B1.out.size hb⟩
  | false =>
   rw [hq] at hcall
   go_wp2_with fail
   refine hcall.mono ?_
   rintro e w1 ⟨rfl, hb⟩
   go_wp2
   go_roundg (l.length - (i + 1))
   case measure => omega
   case rel =>
    refine ⟨i + 1, by omega, by omega, by go_num, ⟨below_then B1.out B1.out.size hb⟩, ⟨fun y hy => ?_⟩⟩
    rw [List.take_succ_eq_append_getElem hlt, List.mem_append, List.mem_singleton] at hy
    rcases hy with hy | rfl
    ·exact F1.out y hy
    have := X.out
    unfold rd_T43 at this
    rw [Int.toNat_natCast, List.getD_eq_getElem?_getD, List.getElem?_eq_getElem hlt] at this
    obtain rfl : l[i] = x := this
    exact hq
set_option maxHeartbeats 4000000 in
set_option maxRecDepth 100000 in
theorem index83_none (cb : Nat) (w : World) :
  Calls Tryz.prog 57 #[.slice none 0 0, .func (.func 34) #[] #[.pointer (some ⟨cb, 0, none⟩)]] w fun e w' => e = .returned (.int .i64 (-1)) ∧ w' = w := by
 go_enter Tryz.func57, Tryz.ntmps57
 go_wp2
 go_loopg [5, 8] 0 (fun _ _ s8 wr => s8 = .int .i64 0 ∧ wr = w)
 case atStart => exact ⟨rfl, rfl⟩
 case round =>
  obtain ⟨rfl, rfl⟩ := hrel
  go_wp2
  go_ret
  exact ⟨rfl, rfl⟩
theorem grown_of_below {W W1 : World} (hb : Below W.heap.size W W1) (row : Option Nat) : W.grownBy W1 row := ⟨hb.os, hb.tape, hb.output, hb.size, fun k hk _ => hb.block k hk⟩
theorem rowF_append (l m : List S43) : rowF (l ++ m) = rowF l ++ rowF m := List.flatMap_append
set_option maxHeartbeats 4000000 in
set_option maxRecDepth 100000 in
theorem delete55_some (l : List S43) (p : ByteArray) (cb base g c : Nat) (c0 : Array Value) (w : World) (hr : Kd.R k43 43 w base (fun _ => True) (.slice (some ⟨g, 0, none⟩) l.length c) l) (hlc : l.length ≤ c) (hl : l.length ≤ 9000000) (hb : w.heap[cb]? = some (.cells c0 45 (0, 0))) (hc : w.cell? ⟨cb, 0, none⟩ = some (.string p)) :
  Calls Tryz.prog 33 #[.slice (some ⟨g, 0, none⟩) l.length c, .func (.func 34) #[] #[.pointer (some ⟨cb, 0, none⟩)]] w fun e w' => ∃ v' : Value, e = .returned v' ∧ Kd.R k43 43 w' base (fun _ => True) v' (l.filter fun x => !atP p x) ∧ w.grownBy w' (some g) ∧ v'.ownBlock = some g := by
 have hne : some cb ≠ some g := Kd.R_ne hr hb (by decide)
 have HR := Aside0.mk hr
 have HB := Aside0.mk hb
 have HC := Aside0.mk hc
 have HN := Aside0.mk hne
 have HBG : Aside0 (base ≤ g) := ⟨own_base (R_files_own hr) g rfl⟩
 clear hr hb hc hne
 go_enter Tryz.func33, Tryz.ntmps33
 go_wp2_with fail
 refine (index83_calls l p cb g c w (Kd.R_reads' HR.out).2.2 hl HC.out).mono ?_
 rintro e w1 ⟨⟨r, rfl, hr⟩, hb1⟩
 have HR1 := Aside0.mk (Kd.R_below HR.out hb1)
 have HG1 := Aside0.mk (grown_of_below hb1 (some g))
 clear hb1
 rcases hr with ⟨rfl, hall⟩ | ⟨k, rfl, hk, ht, hall⟩
 ·go_wp2
  go_ret
  refine ⟨_, rfl, ?_, HG1.out, rfl⟩
  rw [List.filter_eq_self.2 (fun x hx => by rw [hall x hx]; rfl)]
  exact HR1.out
 have hk1 : ((k : Int) == -1) = false := by rw [beq_eq_false_iff_ne]; omega
 have HT := Aside0.mk ht
 have HA := Aside0.mk hall
 clear ht hall
 go_wp2
 go_loopg [5, 6, 7] l.length (fun gg s5 s6 _ wr => ∃ (i j : Nat) (F M : List S43), s5 = .int .i64 i ∧ s6 = .int .i64 j ∧ j ≤ l.length ∧ l.length - j ≤ gg ∧ i < j ∧ F.length = i ∧ M.length = j - i ∧ Aside0 (F = (l.take j).filter fun x => !atP p x) ∧ Aside0 (Kd.R k43 43 wr base (fun _ => True) (.slice (some ⟨g, 0, none⟩) l.length c) (F ++ M ++ l.drop j)) ∧ Aside0 (w.grownBy wr (some g)))
 case atStart =>
  refine ⟨k, k + 1, l.take k, [l[k]], rfl, by go_num, by omega, by omega, by omega, by rw [List.length_take]; omega, by simp, ⟨?_⟩, ⟨?_⟩, HG1⟩
  rotate_left
  ·rw [← List.take_succ_eq_append_getElem hk, List.take_append_drop]
   exact HR1.out
  rw [List.take_succ_eq_append_getElem hk, List.filter_append, List.filter_eq_self.2 (fun x hx => by rw [HA.out x hx]; rfl)]
  have h := HT.out
  unfold rd_T43 at h
  rw [Int.toNat_natCast, List.getD_eq_getElem?_getD, List.getElem?_eq_getElem hk] at h
  replace h : atP p l[k] = true := h
  simp [h]
 case round =>
  clear HT HA HR HR1 HG1
  obtain ⟨i, j, F, M, rfl, rfl, hj, hg, hij, hF, hM, FF, O1, G1⟩ := hrel
  obtain ⟨dk, hdk⟩ : ∃ dk, dk = F ++ M ++ l.drop j := ⟨_, rfl⟩
  rw [← hdk] at O1
  have hdl : dk.length = l.length := by rw [hdk, List.length_append, List.length_append, List.length_drop]; omega
  have C1 := (Kd.R_reads' O1.out).2.2
  have hcb : wr.cell? ⟨cb, 0, none⟩ = some (.string p) := G1.out.cell HC.out HN.out
  by_cases hlt : j < l.length
  rotate_left
  ·have hltz : ¬ (j : Int) < (l.length : Int) := by omega
   have hjl : j = l.length := by omega
   subst hjl
   rw [List.drop_length, List.append_nil] at hdk
   have hown := R_files_own O1.out
   rw [hdl] at hown
   obtain ⟨w2, hr2, ho2, hg2⟩ := own_clear (P := Tryz.prog) (t := 22) (ty := 0) (i := i) (size := 4) (.agg #[.string ⟨#[]⟩, .string ⟨#[]⟩, .int .i64 0, .int .i64 0]) Tryz.underlying22 (fun w => by kernel_rfl) rfl (by simp [Value.cells, Value.oneCell']) hown (by omega) (c - i)
   have hcl2 : ∀ ty, (Builtin.clear_ #[22] ty #[.slice (some ⟨g, i * 4, none⟩) (l.length - i) (c - i)]).run Tryz.prog wr = .ok (.tuple #[]) w2 := fun _ => hr2
   have hiz : (i : Int) ≤ (l.length : Int) := by omega
   have hlcz : (l.length : Int) ≤ (c : Int) := by omega
   have hicz : (i : Int) ≤ (c : Int) := by omega
   have FIN : Aside0 (Kd.R k43 43 w2 base (fun _ => True) (.slice (some ⟨g, 0, none⟩) i c) (l.filter fun x => !atP p x)) := ⟨by
    have h := FF.out
    rw [List.take_length] at h
    rw [← h]
    refine own_R_files ?_
    rw [hF]
    rw [hdk, rowF_append, List.take_left' (by rw [rowF_length, hF])] at ho2
    exact ho2⟩
   have G2 := Aside0.mk (G1.out.trans hg2)
   clear hr2 ho2 hg2 hown hdk
   go_wp2
   go_ret
   exact ⟨_, rfl, FIN.out, G2.out, rfl⟩
  have hltz : (j : Int) < (l.length : Int) := by omega
  obtain ⟨ad, e1, h0, h1, h2, h3⟩ := at_T43 C1 (j : Int) (by omega) (by rw [hdl]; exact hltz)
  injection e1 with e1
  subst e1
  have hx : rd_T43 dk (j : Int) = l[j] := by
   unfold rd_T43
   rw [Int.toNat_natCast, List.getD_eq_getElem?_getD, hdk, List.getElem?_append_right (by rw [List.length_append]; omega), List.length_append, List.getElem?_drop, show j + (j - (F.length + M.length)) = j by omega, List.getElem?_eq_getElem hlt]
   rfl
  obtain ⟨x, hxx⟩ : ∃ x, x = l[j] := ⟨_, rfl⟩
  rw [hx, ← hxx] at h0 h1 h2 h3
  simp only [add_plain, Int.toNat_natCast] at h0 h1 h2 h3
  have X := Aside0.mk hxx
  have DK := Aside0.mk hdk
  have DL := Aside0.mk hdl
  have C1' := Aside0.mk C1
  have hcall := fun o => pred56_calls x p cb (wr.alloc o) (Lib.cell?_alloc_some o hcb)
  clear hx hxx C1 hdk hcb
  cases hq : (x.f0.toList == p.toList) with
  | true =>
   rw [hq] at hcall
   go_wp2_with fail
   refine (hcall _).mono ?_
   rintro e w2 ⟨rfl, hb⟩
   go_wp2
   go_roundg (l.length - (j + 1))
   case measure => omega
   case rel =>
    refine ⟨i, j + 1, F, M ++ [x], rfl, by go_num, by omega, by omega, by omega, hF, by rw [List.length_append, hM]; simp; omega, ⟨?_⟩, ⟨?_⟩, ⟨(G1.out.trans (World.grownBy_alloc wr _ _)).trans (grown_of_below hb (some g))⟩⟩
    ·rw [List.take_succ_eq_append_getElem hlt, List.filter_append, ← FF.out, ← X.out, List.filter_cons, if_neg (by show ¬ (!(x.f0.toList == p.toList)) = true; rw [hq]; decide)]
     simp
    have h := Kd.R_below (Kd.R_alloc O1.out _) hb
    rw [DK.out, List.drop_eq_getElem_cons hlt, ← X.out] at h
    simpa using h
  | false =>
   rw [hq] at hcall
   go_wp2_with fail
   refine (hcall _).mono ?_
   rintro e w2 ⟨rfl, hb⟩
   have q0 : w2.cell? ⟨wr.heap.size, 0, none⟩ = some (.string x.f0) := (hb.cell (p := ⟨wr.heap.size, 0, none⟩) (by simp)).trans (cell_new wr _ _ 0)
   have q1 : w2.cell? ⟨wr.heap.size, 1, none⟩ = some (.string x.f1) := (hb.cell (p := ⟨wr.heap.size, 1, none⟩) (by simp)).trans (cell_new wr _ _ 1)
   have q2 : w2.cell? ⟨wr.heap.size, 2, none⟩ = some (.int .i64 x.f2) := (hb.cell (p := ⟨wr.heap.size, 2, none⟩) (by simp)).trans (cell_new wr _ _ 2)
   have q3 : w2.cell? ⟨wr.heap.size, 3, none⟩ = some (.int .i64 x.f3) := (hb.cell (p := ⟨wr.heap.size, 3, none⟩) (by simp)).trans (cell_new wr _ _ 3)
   have O2 := Aside0.mk (Kd.R_below (Kd.R_alloc O1.out _) hb)
   have G2 := Aside0.mk ((G1.out.trans (World.grownBy_alloc wr _ _)).trans (grown_of_below hb (some g)))
   have C2 := (Kd.R_reads' O2.out).2.2
   have hiz : (i : Int) < (l.length : Int) := by omega
   obtain ⟨ad, cc, e1, hcl, hK, hcc⟩ := Kd.C_get C2 z43 (i : Int) (by omega) (by rw [DL.out]; exact hiz)
   injection e1 with e1
   subst e1
   have HCC := Aside0.mk hcc
   have HCL := Aside0.mk hcl
   clear hK hcc hcl C2 hcall hb
   go_wp2_with (first
    | ((with_reducible refine gate_store (t := 43) (p := 33) (v := .tmp 32) rfl ?_); refine Kd.R_store k43 (w0 := w2) base rfl rfl 43 (.tmp 33) (.tmp 32) rfl 43 (i : Int) 0 dk x _ [.string x.f0, .string x.f1, .int .i64 x.f2, .int .i64 x.f3] cc (fun _ => True) (fun _ => False) rfl (by rw [Int.toNat_natCast]; rfl) rfl rfl (by kernel_rfl) (by simp [Value.oneCell']) O2.out (by omega) hiz HCL.out (fun j u hu => by have := HCC.out j u hu; rwa [add_plain] at this) (Nat.le_refl 4) (by rw [List.take_zero, List.nil_append, List.drop_eq_nil_of_le (by rw [HCL.out]; exact Nat.le_refl 4), List.append_nil]; exact k43_mkM _ _ _ x) (fun _ h => h.elim) (Below.refl _ _) ?_; intro w3 ho hb hgr; rw [Int.toNat_natCast] at ho; have O3 := Aside0.mk ho; have G3 := Aside0.mk (G2.out.trans hgr); clear ho hb hgr)
    | fail)
   go_roundg (l.length - (j + 1))
   case measure => omega
   case rel =>
    obtain ⟨m, M', rfl⟩ : ∃ m M', M = m :: M' := by
     cases M with
     | nil => simp at hM; omega
     | cons m M' => exact ⟨m, M', rfl⟩
    refine ⟨i + 1, j + 1, F ++ [x], M' ++ [x], by go_num, by go_num, by omega, by omega, by omega, by rw [List.length_append, hF]; rfl, by simp at hM ⊢; omega, ⟨?_⟩, ⟨?_⟩, G3⟩
    ·rw [List.take_succ_eq_append_getElem hlt, List.filter_append, ← FF.out, ← X.out]
     congr 1
     rw [List.filter_cons, if_pos (by show (!(x.f0.toList == p.toList)) = true; rw [hq]; rfl)]
     rfl
    have h := O3.out
    rw [DK.out, List.append_assoc, List.set_append_right _ _ (by omega), hF, Nat.sub_self, List.cons_append, List.set_cons_zero, List.drop_eq_getElem_cons hlt, ← X.out] at h
    simpa using h
theorem delete55_calls (l : List S43) (p : ByteArray) (cb base : Nat) (v : Value) (c0 : Array Value) (w : World) (hr : Kd.R k43 43 w base (fun _ => True) v l) (hl : l.length ≤ 9000000) (hb : w.heap[cb]? = some (.cells c0 45 (0, 0))) (hc : w.cell? ⟨cb, 0, none⟩ = some (.string p)) :
  Calls Tryz.prog 33 #[v, .func (.func 34) #[] #[.pointer (some ⟨cb, 0, none⟩)]] w fun e w' => ∃ v' : Value, e = .returned v' ∧ Kd.R k43 43 w' base (fun _ => True) v' (l.filter fun x => !atP p x) ∧ w.grownBy w' v.ownBlock ∧ v'.ownBlock = v.ownBlock := by
 rcases (R_files_own hr).2 with ⟨rfl, h0⟩ | ⟨g, c, cur, rfl, h1, h2, h3, _⟩
 rotate_left
 ·exact delete55_some l p cb base g c c0 w hr h3 hl hb hc
 obtain rfl : l = [] := List.eq_nil_of_length_eq_zero h0
 clear hb hc
 go_enter Tryz.func33, Tryz.ntmps33
 go_wp2_with fail
 refine (index83_none cb w).mono ?_
 rintro e w1 ⟨rfl, rfl⟩
 go_wp2
 go_ret
 exact ⟨_, rfl, Kd.R_nil _ _ _ _ _, grown_of_below (Below.refl _ _) _, rfl⟩
set_option maxHeartbeats 4000000 in
set_option maxRecDepth 100000 in
theorem lay54_calls (l : List S43) (c : S45) (ob cb base : Nat) (v : Value) (w : World) (hr : Kd.R k43 43 w base (fun _ => True) v l) (hl : l.length ≤ 8000000) (hbase : base ≤ ob) (ho : w.heap[ob]? = some (.cells #[v] 22 (0, 0))) (hb : w.heap[cb]? = some (.cells (cellsC c) 45 (0, 0))) :
  Calls Tryz.prog 32 #[.pointer (some ⟨ob, 0, none⟩), .pointer (some ⟨cb, 0, none⟩)] w fun e w' => ∃ v' : Value, e = .returned (.tuple #[]) ∧ Kd.R k43 43 w' base (fun _ => True) v' (lay06 l c) ∧ w'.heap[ob]? = some (.cells #[v'] 22 (0, 0)) ∧ Below base w w' ∧ ∀ k, k < w.heap.size → k ≠ ob → some k ≠ v.ownBlock → w'.heap[k]? = w.heap[k]? := by
 have HR := Aside0.mk hr
 have HO := Aside0.mk ho
 have HB := Aside0.mk hb
 have o0 : w.cell? ⟨ob, 0, none⟩ = some v := by simp [World.cell?, ho]
 have c0 : w.cell? ⟨cb, 0, none⟩ = some (.string c.f0) := by simp [World.cell?, hb, cellsC]
 clear hr ho hb
 go_enter Tryz.func32, Tryz.ntmps32
 go_wp2_with fail
 refine (delete55_calls l c.f0 cb base v _ w HR.out (by omega) HB.out c0).mono ?_
 rintro e w1 ⟨v1, rfl, hr1, hg1, hv1⟩
 obtain ⟨A1, n1, rfl, hn1, -⟩ := Kd.R_reads hr1
 obtain ⟨l1, hl1⟩ : ∃ l1, l1 = l.filter fun x => !atP c.f0 x := ⟨_, rfl⟩
 rw [← hl1] at hr1 hn1 hv1
 have hl1l : l1.length ≤ l.length := by rw [hl1]; exact List.length_filter_le _ _
 rw [← hl1]
 have ne1 : some ob ≠ v.ownBlock := Kd.R_ne HR.out HO.out (by decide)
 have ne2 : some cb ≠ v.ownBlock := Kd.R_ne HR.out HB.out (by decide)
 have ne3 : cb ≠ ob := by
  rintro rfl
  have := HB.out.symm.trans HO.out
  injection this with this
  injection this with _ this
  revert this
  decide
 have ob1 : w1.heap[ob]? = some (.cells #[v] 22 (0, 0)) := (hg1.block ob (Array.getElem?_eq_some_iff.1 HO.out).1 ne1).trans HO.out
 have cb1 : w1.heap[cb]? = some (.cells (cellsC c) 45 (0, 0)) := (hg1.block cb (Array.getElem?_eq_some_iff.1 HB.out).1 ne2).trans HB.out
 have BW1 : Below base w w1 := ⟨hg1.os, hg1.tape, hg1.output, hg1.size, fun k hk => by
  by_cases hkw : k < w.heap.size
  ·refine hg1.block k hkw fun e => ?_
   have := own_base (R_files_own HR.out) k e.symm
   omega
  ·have := (Array.getElem?_eq_some_iff.1 HO.out).1
   omega⟩
 have k1 : w1.cell? ⟨ob, 0, none⟩ = some v := by simp [World.cell?, ob1]
 have f1 : w1.frozen? ⟨ob, 0, none⟩ = false := by simp [World.frozen?, ob1]
 obtain ⟨w2, hw2⟩ : ∃ w2, w2 = w1.setCell ⟨ob, 0, none⟩ (.slice A1 l1.length n1) := ⟨_, rfl⟩
 have R2 : Aside0 (Kd.R k43 43 w2 base (fun _ => True) (.slice A1 l1.length n1) l1) := ⟨by rw [hw2]; exact Kd.R_set hr1 ob1 (by decide) 0 _⟩
 have O2 : Aside0 (w2.heap[ob]? = some (.cells #[.slice A1 l1.length n1] 22 (0, 0))) := ⟨by rw [hw2]; exact Boxed.set _ ob1⟩
 have B2 : Aside0 (w2.heap[cb]? = some (.cells (cellsC c) 45 (0, 0))) := ⟨by rw [hw2]; exact (Below.heap_setCell _ _ _ cb ne3).trans cb1⟩
 have BW2 : Aside0 (Below base w w2) := ⟨by rw [hw2]; exact BW1.setCell (p := ⟨ob, 0, none⟩) hbase _⟩
 have F2 : Aside0 (∀ k, k < w.heap.size → k ≠ ob → some k ≠ v.ownBlock → w2.heap[k]? = w.heap[k]?) := ⟨fun k hk h1 h2 => by rw [hw2]; exact (Below.heap_setCell _ _ _ k h1).trans (hg1.block k hk h2)⟩
 have S2 : Aside0 (w.heap.size ≤ w2.heap.size) := ⟨BW2.out.size⟩
 have L1 := Aside0.mk hl1
 have LL := Aside0.mk hl1l
 have V1 := Aside0.mk hv1
 clear hr1 hn1 hl1 hl1l ne1 ne2 ne3 ob1 cb1 BW1 HR HO HB hg1 o0 c0 hv1
 have d0 : w2.cell? ⟨ob, 0, none⟩ = some (.slice A1 l1.length n1) := by simp [World.cell?, O2.out]
 have d2 : w2.cell? ⟨cb, 2, none⟩ = some (.bool c.f2) := by simp [World.cell?, B2.out, cellsC]
 have d7 : w2.cell? ⟨cb, 7, none⟩ = some (.string c.f4.f0) := by simp [World.cell?, B2.out, cellsC]
 have d8 : w2.cell? ⟨cb, 8, none⟩ = some (.string c.f4.f1) := by simp [World.cell?, B2.out, cellsC]
 have d9 : w2.cell? ⟨cb, 9, none⟩ = some (.int .i64 c.f4.f2) := by simp [World.cell?, B2.out, cellsC]
 have d10 : w2.cell? ⟨cb, 10, none⟩ = some (.int .i64 c.f4.f3) := by simp [World.cell?, B2.out, cellsC]
 have HF : Aside0 (∃ b, b = c.f2) := ⟨_, rfl⟩
 subst hw2
 cases hf : c.f2 with
 | false =>
  rw [hf] at d2
  go_wp2
  go_end0
  refine ⟨_, rfl, ?_, O2.out, BW2.out, F2.out⟩
  unfold lay06
  rw [hf]
  have h := R2.out
  rw [L1.out] at h
  simpa [atP, L1.out] using h
 | true =>
  rw [hf] at d2
  go_wp2_with (first
   | ((with_reducible refine gate_builtin (b := .append) (xs := #[.tmp 7, .tmp 10]) rfl ?_); at_builtin; refine Kd.R_append k43 (w0 := w) base rfl (.tmp 7) (.tmp 10) 22 43 (.agg #[(.string ⟨#[]⟩), (.string ⟨#[]⟩), (.int .i64 0), (.int .i64 0)]) 48 rfl Tryz.underlying22 info43 rfl (by decide) (by omega) (.slice A1 l1.length n1) l1 c.f4 [.string c.f4.f0, .string c.f4.f1, .int .i64 c.f4.f2, .int .i64 c.f4.f3] (fun _ => True) (fun _ => False) rfl (by first | (go_simp; done) | (go_simp; rfl)) (k43_mkM _ _ _ c.f4) (fun _ h => h.elim) (fun _ _ => trivial) R2.out BW2.out (Nat.le_trans hbase (Nat.le_of_lt (Array.getElem?_eq_some_iff.1 O2.out).1)) (by have := LL.out; omega) ?_; intro v3 w3 hr3 hb3 hg3 hat3; obtain ⟨A3, n3, rfl, -, -⟩ := Kd.R_reads hr3; have ob3 : w3.heap[ob]? = some (.cells #[.slice A1 l1.length n1] 22 (0, 0)) := (hg3.block ob (Array.getElem?_eq_some_iff.1 O2.out).1 (Kd.R_ne R2.out O2.out (by decide))).trans O2.out; have k3 : w3.cell? ⟨ob, 0, none⟩ = some (.slice A1 l1.length n1) := (by simp [World.cell?, ob3]); have f3 : w3.frozen? ⟨ob, 0, none⟩ = false := (by simp [World.frozen?, ob3]); have R3 := Aside0.mk hr3; have B3 := Aside0.mk hb3; have G3 := Aside0.mk hg3; have OB3 := Aside0.mk ob3; clear hr3 hb3 hg3 hat3 ob3)
   | fail)
  go_end0
  refine ⟨_, rfl, ?_, Boxed.set _ OB3.out, B3.out.setCell (p := ⟨ob, 0, none⟩) hbase _, fun k hk h1 h2 => ?_⟩
  rotate_left
  ·exact (Below.heap_setCell _ _ _ k h1).trans ((G3.out.block k (Nat.lt_of_lt_of_le hk S2.out) (by rw [V1.out]; exact h2)).trans (F2.out k hk h1 h2))
  have h := Kd.R_set R3.out OB3.out (by decide) 0 (Value.slice A3 (l1.length + 1) n3)
  rw [List.length_append, List.length_singleton] at h
  unfold lay06
  rw [hf]
  have e : l1 = l.filter fun f => !(f.f0.toList == c.f0.toList) := L1.out
  rw [← e]
  exact h
end Go.Proofs.YtehfogjibhnabaaGreatDoor.PAll
