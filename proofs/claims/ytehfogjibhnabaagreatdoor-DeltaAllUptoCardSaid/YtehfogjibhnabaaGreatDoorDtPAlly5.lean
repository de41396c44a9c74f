/- What functions of the program compute, each with its walk: a contract for every world and every argument of the kind told. -/
import Derived.Test.YtehfogjibhnabaaGreatDoorDtPAllx0
import Derived.Test.YtehfogjibhnabaaGreatDoorDtPAlly3
import Derived.Test.YtehfogjibhnabaaGreatDoorDtHandA
import Derived.Test.YtehfogjibhnabaaGreatDoorDtPAlly1
import Derived.Test.YtehfogjibhnabaaGreatDoorDtShelf
import Derived.Shelf.Abstract
namespace Go.Proofs.YtehfogjibhnabaaGreatDoor.PAll
open Go.RowKit Go.Proofs.YtehfogjibhnabaaGreatDoorW.PrintWords Go.Proofs.YtehfogjibhnabaaGreatDoorW.PrintLast Go.Proofs.YtehfogjibhnabaaGreatDoorW.PrintMore
attribute [local go_sem] max2_int min2_int max_two min_two max_three min_three max_four min_four
set_option linter.unusedVariables false
set_option linter.unusedSimpArgs false
mutual
def copseref03_Norm.l0 : Nat → List ByteArray → List ByteArray → Int → Option (List ByteArray)
 | 0, _, _, _ => none
 | k + 1, x0, x3, x4 => if x4 < (x0.length : Int) then (if 0 ≤ x4 then ((copseref03_Has.f k x3 (rdOf ByteArray.empty x0 x4)).bind fun t323 => (if t323 = true then (copseref03_Norm.l0 k x0 x3 (wrap64 (x4 + 1))) else (copseref03_Norm.l1 k x0 x3 x4 ([] : List ByteArray) false 0))) else (none)) else (some x3)
def copseref03_Norm.l1 : Nat → List ByteArray → List ByteArray → Int → List ByteArray → Bool → Int → Option (List ByteArray)
 | 0, _, _, _, _, _, _ => none
 | k + 1, x0, x3, x4, x5, x6, x7 => if x7 < (x3.length : Int) then (if x6 = true then (if 0 ≤ x7 then (if x5.length < 8796093022208 then (copseref03_Norm.l1 k x0 x3 x4 (x5 ++ [rdOf ByteArray.empty x3 x7]) x6 (wrap64 (x7 + 1))) else (none)) else (none)) else (if 0 ≤ x4 then (if x4 < (x0.length : Int) then (if 0 ≤ x7 then ((copseref02_Cmp.f k (rdOf ByteArray.empty x0 x4) (rdOf ByteArray.empty x3 x7)).bind fun t330 => (if t330 < 0 then (if x5.length < 8796093022208 then ((some (x5 ++ [rdOf ByteArray.empty x0 x4] : List ByteArray)).bind fun y332 => (if y332.length < 8796093022208 then (copseref03_Norm.l1 k x0 x3 x4 (y332 ++ [rdOf ByteArray.empty x3 x7]) true (wrap64 (x7 + 1))) else (none))) else (none)) else (if x5.length < 8796093022208 then (copseref03_Norm.l1 k x0 x3 x4 (x5 ++ [rdOf ByteArray.empty x3 x7]) x6 (wrap64 (x7 + 1))) else (none)))) else (none)) else (none)) else (none))) else (if x6 = true then (copseref03_Norm.l0 k x0 x5 (wrap64 (x4 + 1))) else (if 0 ≤ x4 then (if x4 < (x0.length : Int) then (if x5.length < 8796093022208 then (copseref03_Norm.l0 k x0 (x5 ++ [rdOf ByteArray.empty x0 x4]) (wrap64 (x4 + 1))) else (none)) else (none)) else (none)))
end
def copseref03_Norm.f (k : Nat) (l0 : List ByteArray) : Option (List ByteArray) := copseref03_Norm.l0 k l0 ([] : List ByteArray) 0
def copseref03_Norm.T11 : Bool × List (List Nat × List Nat) := (true, [([], []), ([0], [0]), ([1], [1]), ([2], [2]), ([2], [2]), ([3, 4, 2], [2, 3, 4]), ([5, 2], [2, 5]), ([2], [2]), ([2], [2]), ([7, 8, 2], [2, 7, 8]), ([9, 2], [2, 9]), ([6, 10, 2, 2], [2, 6, 10]), ([11, 2], [2, 11]), ([2, 12], [2, 12])])
def copseref03_Norm.B11 : List Nat := [0, 1, 3, 7, 7, 31, 63, 7, 7, 391, 903, 2047, 4095, 8191]
theorem copseref03_Norm.tab11 : rtab .any (opsOf Tryz.f39 11) = copseref03_Norm.T11 := by kernel_rfl
theorem copseref03_Norm.bits11 : waitsOk copseref03_Norm.T11.2 copseref03_Norm.B11 = true := by kernel_rfl
set_option maxHeartbeats 8000000 in
set_option maxRecDepth 100000 in
theorem copseref03_Norm.calls (k : Nat) (A0 : Option Addr) (c0 : Nat) (l0 : List ByteArray) (r : List ByteArray) (w : World) (hr0 : Kd.C Kd.string w A0 l0.length l0) (hc0 : l0.length ≤ c0) (h : copseref03_Norm.f k l0 = some r) :
  Calls Tryz.prog 39 #[.slice A0 l0.length c0] w fun e w' => ∃ v0_ : Value, e = .returned (v0_) ∧ Kd.R Kd.string 9 w' w.heap.size (fun _ => True) v0_ r ∧ Below w.heap.size w w' := by
 have HR0 := Aside0.mk hr0
 have HC0 := Aside0.mk hc0
 clear hr0 hc0
 have HB := Aside0.mk (Below.refl w.heap.size w)
 have H : (copseref03_Norm.l0 k l0 ([] : List ByteArray) 0) = some r := h
 clear h
 have H' := Aside0.mk H
 clear H
 go_enter Tryz.func39, Tryz.ntmps39
 go_wp2
 go_loopg [3, 4] k (fun kq v3 v4 w' => ∃ (x3_1 : List ByteArray) (x4_1 : Int), v4 = .int .i64 x4_1 ∧ Aside0 (copseref03_Norm.l0 kq l0 x3_1 x4_1 = some r) ∧ Aside0 (kq ≤ k) ∧ Aside0 (Kd.R Kd.string 9 w' w.heap.size (fun _ => True) v3 x3_1) ∧ Aside0 (Below w.heap.size w w'))
 case atStart => exact ⟨(([] : List ByteArray)), (0), (rf_), H', ⟨Nat.le_refl _⟩, ⟨nl_⟩, ⟨bel_⟩⟩
 case round =>
  clear H'
  obtain ⟨x3_1, x4_1, rfl, HA, HK1, HO_3, HB⟩ := hrel
  cases gk with
  | zero => exact absurd HA.out (by simp [copseref03_Norm.l0])
  | succ k1 =>
   have H := HA.out
   clear HA
   simp only [copseref03_Norm.l0] at H
   by_cases c2 : x4_1 < (l0.length : Int)
   rotate_left
   ·rw [if_neg c2] at H
    have c2b0 := decide_eq_false c2
    clear c2
    obtain rfl := Option.some.inj H
    go_wp2
    go_ret
    exact ⟨_, er_, ur_ HO_3.out, bel_⟩
   rw [if_pos c2] at H
   have c2b0 := decide_eq_true c2
   clear c2
   by_cases c3 : 0 ≤ x4_1
   rotate_left
   ·rw [if_neg c3] at H
    exact absurd H (by simp)
   rw [if_pos c3] at H
   have c3b0 := decide_eq_true c3
   clear c3
   replace H := Option.bind_eq_some_iff.mp H
   obtain ⟨t323, A40, H⟩ := H
   try dsimp only at H
   have A4 := Aside0.mk A40
   clear A40
   by_cases c5 : t323 = true
   ·subst c5
    rw [if_pos rfl] at H
    have H1 := H
    clear H
    have H := H1
    clear H1
    have H' := Aside0.mk H
    clear H
    have p322 : 0 ≤ (x4_1 : Int) := of_decide_eq_true (by assumption)
    have q322 : x4_1 < (l0.length : Int) := of_decide_eq_true (by assumption)
    obtain ⟨ad322, e322, hx322_0⟩ := Kd.at_string HR0.out x4_1 p322 q322
    cases e322
    replace hx322_0 := hk_ HB.out hx322_0
    replace p322 := eq_true p322
    replace q322 := eq_true q322
    obtain ⟨Ao6, co6, eo6⟩ := Kd.R_slice HO_3.out
    subst eo6
    go_wp2_with (first | ((with_reducible refine gate_callee (f := 61) rfl ?_); refine goesL_ (some 19) rfl rfl Tryz.func61 (by kernel_rfl) rfl #[.slice Ao6 x3_1.length co6, .string (rdOf ByteArray.empty l0 x4_1)] rfl (mp_) ?_; (with_reducible refine (copseref03_Has.calls k1 _ _ x3_1 (rdOf ByteArray.empty l0 x4_1) true _ ?side1 ?side2 A4.out).mono ?_); (case side1 => repeat (first | exact (Kd.R_reads' HO_3.out).2.2 | (with_reducible refine Kd.C_alloc ?_ _) | (with_reducible refine Kd.C_drewN ?_ _) | (with_reducible refine Kd.C_drew ?_))); (case side2 => exact (Kd.R_reads' HO_3.out).2.1); rintro e w' ⟨rfl, ⟨nd, rfl⟩⟩; refine ⟨_, rfl, ?_⟩))
    go_roundg k1
    case measure => have := HK1.out; omega
    case rel => exact ⟨(x3_1), (wrap64 (x4_1 + 1)), (rf_), H', ⟨by have := HK1.out; omega⟩, ⟨ur_ HO_3.out⟩, ⟨bel_⟩⟩
   replace c5 := Bool.eq_false_iff.mpr c5
   subst c5
   have H1 : (copseref03_Norm.l1 k1 l0 x3_1 x4_1 ([] : List ByteArray) false 0) = some r := by rw [if_neg (show ¬ (false = true) by decide)] at H; exact H
   clear H
   have H := H1
   clear H1
   have H' := Aside0.mk H
   clear H
   have p322 : 0 ≤ (x4_1 : Int) := of_decide_eq_true (by assumption)
   have q322 : x4_1 < (l0.length : Int) := of_decide_eq_true (by assumption)
   obtain ⟨ad322, e322, hx322_0⟩ := Kd.at_string HR0.out x4_1 p322 q322
   cases e322
   replace hx322_0 := hk_ HB.out hx322_0
   replace p322 := eq_true p322
   replace q322 := eq_true q322
   obtain ⟨Ao7, co7, eo7⟩ := Kd.R_slice HO_3.out
   subst eo7
   go_wp2_with (first | ((with_reducible refine gate_callee (f := 61) rfl ?_); refine goesL_ (some 19) rfl rfl Tryz.func61 (by kernel_rfl) rfl #[.slice Ao7 x3_1.length co7, .string (rdOf ByteArray.empty l0 x4_1)] rfl (mp_) ?_; (with_reducible refine (copseref03_Has.calls k1 _ _ x3_1 (rdOf ByteArray.empty l0 x4_1) false _ ?side1 ?side2 A4.out).mono ?_); (case side1 => repeat (first | exact (Kd.R_reads' HO_3.out).2.2 | (with_reducible refine Kd.C_alloc ?_ _) | (with_reducible refine Kd.C_drewN ?_ _) | (with_reducible refine Kd.C_drew ?_))); (case side2 => exact (Kd.R_reads' HO_3.out).2.1); rintro e w' ⟨rfl, ⟨nd, rfl⟩⟩; refine ⟨_, rfl, ?_⟩))
   go_loopg [5, 6, 7] k1 (fun kq v5 v6 v7 w' => ∃ (x5_2 : List ByteArray) (x6_2 : Bool) (x7_2 : Int), v6 = .bool x6_2 ∧ v7 = .int .i64 x7_2 ∧ Aside0 (copseref03_Norm.l1 kq l0 x3_1 x4_1 x5_2 x6_2 x7_2 = some r) ∧ Aside0 (kq ≤ k1) ∧ Aside0 (Kd.R Kd.string 9 w' w.heap.size (fun k_ => some k_ ≠ (v5 : Value).ownBlock) (.slice Ao7 x3_1.length co7) x3_1) ∧ Aside0 (Kd.R Kd.string 9 w' w.heap.size (fun k_ => some k_ ≠ ((.slice Ao7 x3_1.length co7) : Value).ownBlock) v5 x5_2) ∧ Aside0 (Below w.heap.size w w'))
   case atStart => exact ⟨(([] : List ByteArray)), (false), (0), (rf_), (rf_), H', ⟨Nat.le_refl _⟩, ⟨by (with_reducible repeat (first | apply Kd.R_alloc | apply Kd.R_drewN | apply Kd.R_drew)); exact Kd.R_mono HO_3.out (fun _ hk => (by simp [Value.ownBlock]))⟩, ⟨nl_⟩, ⟨bel_⟩⟩
   case round =>
    clear H'
    try clear c2
    try clear c2b0
    try clear p2
    try clear c3
    try clear c3b0
    try clear p3
    try clear q3
    try clear hx3
    try clear c5
    try clear c6
    try clear p6
    try clear hx322_0
    try clear p322
    try clear q322
    obtain ⟨x5_2, x6_2, x7_2, rfl, rfl, HA, HK2, HO_3, HO_5, HB⟩ := hrel
    cases gk with
    | zero => exact absurd HA.out (by simp [copseref03_Norm.l1])
    | succ k2 =>
     have H := HA.out
     clear HA
     simp only [copseref03_Norm.l1] at H
     by_cases c8 : x7_2 < (x3_1.length : Int)
     rotate_left
     ·rw [if_neg c8] at H
      have c8b0 := decide_eq_false c8
      clear c8
      by_cases c29 : x6_2 = true
      ·subst c29
       rw [if_pos rfl] at H
       have H1 := H
       clear H
       have H := H1
       clear H1
       have H' := Aside0.mk H
       clear H
       go_wp2
       go_roundg k2
       case measure => have := HK1.out; have := HK2.out; omega
       case rel => exact ⟨(x5_2), (wrap64 (x4_1 + 1)), (rf_), H', ⟨by have := HK1.out; have := HK2.out; omega⟩, ⟨by (with_reducible repeat (first | apply Kd.R_alloc | apply Kd.R_drewN | apply Kd.R_drew)); exact Kd.R_mono HO_5.out (fun _ hk => trivial)⟩, ⟨bel_⟩⟩
      replace c29 := Bool.eq_false_iff.mpr c29
      subst c29
      have H1 : (if 0 ≤ x4_1 then (if x4_1 < (l0.length : Int) then (if x5_2.length < 8796093022208 then (copseref03_Norm.l0 k2 l0 (x5_2 ++ [rdOf ByteArray.empty l0 x4_1]) (wrap64 (x4_1 + 1))) else (none)) else (none)) else (none)) = some r := by rw [if_neg (show ¬ (false = true) by decide)] at H; exact H
      clear H
      have H := H1
      clear H1
      by_cases c30 : 0 ≤ x4_1
      rotate_left
      ·rw [if_neg c30] at H
       exact absurd H (by simp)
      rw [if_pos c30] at H
      have c30b0 := decide_eq_true c30
      clear c30
      by_cases c31 : x4_1 < (l0.length : Int)
      rotate_left
      ·rw [if_neg c31] at H
       exact absurd H (by simp)
      rw [if_pos c31] at H
      have c31b0 := decide_eq_true c31
      clear c31
      by_cases c32 : x5_2.length < 8796093022208
      rotate_left
      ·rw [if_neg c32] at H
       exact absurd H (by simp)
      rw [if_pos c32] at H
      have LMc32 := Aside0.mk c32
      clear c32
      obtain ⟨y344, hy344⟩ : ∃ y_ : List ByteArray, y_ = (x5_2 ++ [rdOf ByteArray.empty l0 x4_1]) := ⟨_, rfl⟩
      replace H : (copseref03_Norm.l0 k2 l0 y344 (wrap64 (x4_1 + 1))) = some r := by first | (rw [hy344]; with_reducible exact H) | (have H2_ := (Option.bind_some _ _).symm.trans H; rw [hy344]; with_reducible exact H2_) | (have H2_ := (Option.bind_some _ _).symm.trans H; with_reducible exact H2_) | with_reducible exact H | (rw [hy344]; exact H) | exact H
      have Ny344 := Aside0.mk hy344
      clear hy344
      have H' := Aside0.mk H
      clear H
      have p343 : 0 ≤ (x4_1 : Int) := of_decide_eq_true (by assumption)
      have q343 : x4_1 < (l0.length : Int) := of_decide_eq_true (by assumption)
      obtain ⟨ad343, e343, hx343_0⟩ := Kd.at_string HR0.out x4_1 p343 q343
      obtain rfl : ad322 = ad343 := (by injection e343)
      replace hx343_0 := hk_ HB.out hx343_0
      replace p343 := eq_true p343
      replace q343 := eq_true q343
      go_wp2_with (first | ((with_reducible refine gate_builtin (b := .append) (xs := #[.tmp 56, .tmp 61]) rfl ?_); at_builtin; refine Kd.R_append Kd.string (w0 := w) w.heap.size rfl (.tmp 56) (.tmp 61) 38 9 (.string ⟨#[]⟩) 16 rfl Tryz.underlying38 info9 rfl (by decide) (by omega) u5 x5_2 (rdOf ByteArray.empty l0 x4_1) [.string (rdOf ByteArray.empty l0 x4_1)] (fun k_ => some k_ ≠ (.slice Ao7 x3_1.length co7 : Value).ownBlock) (fun _ => False) rfl rfl ?aP (fun _ hk => hk.elim) ?aF ?aO ?aB ?aS ?aL ?_; (case aP => exact rfl); (case aB => exact (bel_)); (case aF => exact (fun k_ hk => Kd.fresh' (Kd.R_lt (ur_ HO_3.out)) k_ hk)); (case aO => exact (ur_ HO_5.out)); (case aS => exact (below_size (bel_))); (case aL => have := LMc32.out; omega); intro v345 w33 ho hb hg hat; rw [← Ny344.out] at ho; have n0_ := Aside0.mk (Kd.R_after (ok := (fun _ => True)) (by (with_reducible repeat (first | apply Kd.R_alloc | apply Kd.R_drewN | apply Kd.R_drew)); exact Kd.R_mono HO_3.out (fun _ hk => ⟨trivial, hk⟩)) hg hat); have n1_ := Aside0.mk (hb); have n2_ := Aside0.mk (ho); clear HO_3; clear HB; clear HO_5; have HO_3 := n0_; have HB := n1_; have HO346 := n2_; clear n0_ n1_ n2_; clear ho hb hg hat))
      go_roundg k2
      case measure => have := HK1.out; have := HK2.out; omega
      case rel => exact ⟨(y344), (wrap64 (x4_1 + 1)), (rf_), H', ⟨by have := HK1.out; have := HK2.out; omega⟩, ⟨by (with_reducible repeat (first | apply Kd.R_alloc | apply Kd.R_drewN | apply Kd.R_drew)); exact Kd.R_mono HO346.out (fun _ hk => trivial)⟩, ⟨bel_⟩⟩
     rw [if_pos c8] at H
     have c8b0 := decide_eq_true c8
     clear c8
     by_cases c9 : x6_2 = true
     ·subst c9
      rw [if_pos rfl] at H
      have H1 := H
      clear H
      have H := H1
      clear H1
      by_cases c10 : 0 ≤ x7_2
      rotate_left
      ·rw [if_neg c10] at H
       exact absurd H (by simp)
      rw [if_pos c10] at H
      have c10b0 := decide_eq_true c10
      clear c10
      by_cases c11 : x5_2.length < 8796093022208
      rotate_left
      ·rw [if_neg c11] at H
       exact absurd H (by simp)
      rw [if_pos c11] at H
      have LMc11 := Aside0.mk c11
      clear c11
      obtain ⟨y325, hy325⟩ : ∃ y_ : List ByteArray, y_ = (x5_2 ++ [rdOf ByteArray.empty x3_1 x7_2]) := ⟨_, rfl⟩
      replace H : (copseref03_Norm.l1 k2 l0 x3_1 x4_1 y325 true (wrap64 (x7_2 + 1))) = some r := by first | (rw [hy325]; with_reducible exact H) | (have H2_ := (Option.bind_some _ _).symm.trans H; rw [hy325]; with_reducible exact H2_) | (have H2_ := (Option.bind_some _ _).symm.trans H; with_reducible exact H2_) | with_reducible exact H | (rw [hy325]; exact H) | exact H
      have Ny325 := Aside0.mk hy325
      clear hy325
      have H' := Aside0.mk H
      clear H
      try go_wp2
      have n0_ := Aside0.mk (Kd.R_drew HO_3.out)
      have n1_ := Aside0.mk (Kd.R_drew HO_5.out)
      have n2_ := Aside0.mk (below_drew1 HB.out)
      clear HO_3
      clear HO_5
      clear HB
      have HO_3 := n0_
      have HO_5 := n1_
      have HB := n2_
      clear n0_ n1_ n2_
      refine start_ (n := 14) (S := fun w' => True) (ds := []) (lb 14 0) (by kernel_rfl) rfl rfl trivial (fun hHeld => ?_); refine with_tabW copseref03_Norm.tab11 copseref03_Norm.bits11 (fun HT_ HW_ => ?_)
      generalize wr.drew = w12 at HO_3 HO_5 HB hHeld ⊢
      refine pv_ 0 26 (lb 14 1) HT_.out ?_
      refine pv_ 1 27 (lb 14 3) HT_.out ?_
      refine pv_ 2 28 (lb 14 7) HT_.out ?_
      refine pg_ 3 29 (lb 14 15) HT_.out ?_
      refine pg_ 4 30 (lb 14 31) HT_.out ?_
      refine pg_ 5 31 (lb 14 63) HT_.out ?_
      refine pg_ 6 32 (lb 14 127) HT_.out ?_
      refine pg_ 7 33 (lb 14 255) HT_.out ?_
      refine pg_ 8 34 (lb 14 511) HT_.out ?_
      refine pg_ 9 35 (lb 14 1023) HT_.out ?_
      refine pg_ 10 36 (lb 14 2047) HT_.out ?_
      refine pg_ 11 37 (lb 14 4095) HT_.out ?_
      refine pg_ 12 38 (lb 14 8191) HT_.out ?_
      refine pv_ 13 39 (lb 14 16383) HT_.out ?_
      refine done_ (done_of HT_.out (by kernel_rfl)) ?_
      have p324 : 0 ≤ (x7_2 : Int) := of_decide_eq_true (by assumption)
      have q324 : x7_2 < (x3_1.length : Int) := of_decide_eq_true (by assumption)
      obtain ⟨ad324, e324, hx324_0⟩ := Kd.at_string (Kd.R_reads' HO_3.out).2.2 x7_2 p324 q324
      cases e324
      replace p324 := eq_true p324
      replace q324 := eq_true q324
      try go_wp2_with (first | ((with_reducible refine gate_builtin (b := .append) (xs := #[.tmp 47, .tmp 52]) rfl ?_); at_builtin; refine Kd.R_append Kd.string (w0 := w) w.heap.size rfl (.tmp 47) (.tmp 52) 38 9 (.string ⟨#[]⟩) 16 rfl Tryz.underlying38 info9 rfl (by decide) (by omega) u5 x5_2 (rdOf ByteArray.empty x3_1 x7_2) [.string (rdOf ByteArray.empty x3_1 x7_2)] (fun k_ => some k_ ≠ (.slice (some ad324) x3_1.length co7 : Value).ownBlock) (fun _ => False) rfl rfl ?aP (fun _ hk => hk.elim) ?aF ?aO ?aB ?aS ?aL ?_; (case aP => exact rfl); (case aB => exact (bel_)); (case aF => exact (fun k_ hk => Kd.fresh' (Kd.R_lt (ur_ HO_3.out)) k_ hk)); (case aO => exact (ur_ HO_5.out)); (case aS => exact (below_size (bel_))); (case aL => have := LMc11.out; omega); intro v326 w13 ho hb hg hat; rw [← Ny325.out] at ho; have n0_ := Aside0.mk (Kd.R_after (ok := (fun _ => True)) (by (with_reducible repeat (first | apply Kd.R_alloc | apply Kd.R_drewN | apply Kd.R_drew)); exact Kd.R_mono HO_3.out (fun _ hk => ⟨trivial, hk⟩)) hg hat); have n1_ := Aside0.mk (hb); have n2_ := Aside0.mk (ho); clear HO_3; clear HB; clear HO_5; have HO_3 := n0_; have HB := n1_; have HO327 := n2_; clear n0_ n1_ n2_; clear ho hb hg hat))
      go_roundg k2
      case measure => have := HK1.out; have := HK2.out; omega
      case rel => exact ⟨(y325), (true), (wrap64 (x7_2 + 1)), (rf_), (rf_), H', ⟨by have := HK1.out; have := HK2.out; omega⟩, ⟨by (with_reducible repeat (first | apply Kd.R_alloc | apply Kd.R_drewN | apply Kd.R_drew)); exact Kd.R_mono HO_3.out (fun _ hk => hk.2)⟩, ⟨ur_ HO327.out⟩, ⟨bel_⟩⟩
     replace c9 := Bool.eq_false_iff.mpr c9
     subst c9
     have H1 : (if 0 ≤ x4_1 then (if x4_1 < (l0.length : Int) then (if 0 ≤ x7_2 then ((copseref02_Cmp.f k2 (rdOf ByteArray.empty l0 x4_1) (rdOf ByteArray.empty x3_1 x7_2)).bind fun t330 => (if t330 < 0 then (if x5_2.length < 8796093022208 then ((some (x5_2 ++ [rdOf ByteArray.empty l0 x4_1] : List ByteArray)).bind fun y332 => (if y332.length < 8796093022208 then (copseref03_Norm.l1 k2 l0 x3_1 x4_1 (y332 ++ [rdOf ByteArray.empty x3_1 x7_2]) true (wrap64 (x7_2 + 1))) else (none))) else (none)) else (if x5_2.length < 8796093022208 then (copseref03_Norm.l1 k2 l0 x3_1 x4_1 (x5_2 ++ [rdOf ByteArray.empty x3_1 x7_2]) false (wrap64 (x7_2 + 1))) else (none)))) else (none)) else (none)) else (none)) = some r := by rw [if_neg (show ¬ (false = true) by decide)] at H; exact H
     clear H
     have H := H1
     clear H1
     by_cases c14 : 0 ≤ x4_1
     rotate_left
     ·rw [if_neg c14] at H
      exact absurd H (by simp)
     rw [if_pos c14] at H
     have c14b0 := decide_eq_true c14
     clear c14
     by_cases c15 : x4_1 < (l0.length : Int)
     rotate_left
     ·rw [if_neg c15] at H
      exact absurd H (by simp)
     rw [if_pos c15] at H
     have c15b0 := decide_eq_true c15
     clear c15
     by_cases c16 : 0 ≤ x7_2
     rotate_left
     ·rw [if_neg c16] at H
      exact absurd H (by simp)
     rw [if_pos c16] at H
     have c16b0 := decide_eq_true c16
     clear c16
     replace H := Option.bind_eq_some_iff.mp H
     obtain ⟨t330, A170, H⟩ := H
     try dsimp only at H
     have A17 := Aside0.mk A170
     clear A170
     by_cases c18 : t330 < 0
     rotate_left
     ·rw [if_neg c18] at H
      have c18b0 := decide_eq_false c18
      clear c18
      by_cases c25 : x5_2.length < 8796093022208
      rotate_left
      ·rw [if_neg c25] at H
       exact absurd H (by simp)
      rw [if_pos c25] at H
      have LMc25 := Aside0.mk c25
      clear c25
      obtain ⟨y340, hy340⟩ : ∃ y_ : List ByteArray, y_ = (x5_2 ++ [rdOf ByteArray.empty x3_1 x7_2]) := ⟨_, rfl⟩
      replace H : (copseref03_Norm.l1 k2 l0 x3_1 x4_1 y340 false (wrap64 (x7_2 + 1))) = some r := by first | (rw [hy340]; with_reducible exact H) | (have H2_ := (Option.bind_some _ _).symm.trans H; rw [hy340]; with_reducible exact H2_) | (have H2_ := (Option.bind_some _ _).symm.trans H; with_reducible exact H2_) | with_reducible exact H | (rw [hy340]; exact H) | exact H
      have Ny340 := Aside0.mk hy340
      clear hy340
      have H' := Aside0.mk H
      clear H
      try go_wp2
      have n0_ := Aside0.mk (Kd.R_drew HO_3.out)
      have n1_ := Aside0.mk (Kd.R_drew HO_5.out)
      have n2_ := Aside0.mk (below_drew1 HB.out)
      clear HO_3
      clear HO_5
      clear HB
      have HO_3 := n0_
      have HO_5 := n1_
      have HB := n2_
      clear n0_ n1_ n2_
      have p328 : 0 ≤ (x4_1 : Int) := of_decide_eq_true (by assumption)
      have q328 : x4_1 < (l0.length : Int) := of_decide_eq_true (by assumption)
      obtain ⟨ad328, e328, hx328_0⟩ := Kd.at_string HR0.out x4_1 p328 q328
      have hw328_0 := hx328_0
      obtain rfl : ad322 = ad328 := (by injection e328)
      replace hx328_0 := hk_ HB.out hx328_0
      replace p328 := eq_true p328
      replace q328 := eq_true q328
      have p329 : 0 ≤ (x7_2 : Int) := of_decide_eq_true (by assumption)
      have q329 : x7_2 < (x3_1.length : Int) := of_decide_eq_true (by assumption)
      obtain ⟨ad329, e329, hx329_0⟩ := Kd.at_string (Kd.R_reads' HO_3.out).2.2 x7_2 p329 q329
      cases e329
      replace p329 := eq_true p329
      replace q329 := eq_true q329
      refine start_ (n := 14) (S := fun w' => w'.cell? (ad322.add (x4_1).toNat) = some (.string (rdOf ByteArray.empty l0 x4_1)) ∧ w'.cell? (ad329.add (x7_2).toNat) = some (.string (rdOf ByteArray.empty x3_1 x7_2))) (ds := []) (lb 14 0) (by kernel_rfl) rfl rfl ⟨(hk_ HB.out hw328_0), hx329_0⟩ (fun hHeld => ?_); refine with_tabW copseref03_Norm.tab11 copseref03_Norm.bits11 (fun HT_ HW_ => ?_)
      generalize wr.drew = w26 at HO_3 HO_5 HB hx328_0 hx329_0 hHeld ⊢
      refine pv_ 0 26 (lb 14 1) HT_.out ?_
      refine pv_ 1 27 (lb 14 3) HT_.out ?_
      refine pv_ 2 28 (lb 14 7) HT_.out ?_
      refine pv_ 3 29 (lb 14 15) HT_.out ?_
      refine pv_ 4 30 (lb 14 31) HT_.out ?_
      refine pv_ 5 31 (lb 14 63) HT_.out ?_
      refine pv_ 7 33 (lb 14 191) HT_.out ?_
      refine pv_ 8 34 (lb 14 447) HT_.out ?_
      refine pv_ 9 35 (lb 14 959) HT_.out ?_
      refine tk_ 6 32 (lb 14 1023) HT_.out HW_.out hHeld ?_
      refine tk_ 10 36 (lb 14 2047) HT_.out HW_.out hHeld ?_
      refine one_ (i := 11) (N := some 37) (lb 14 4095) rfl rfl (one_of HT_.out (by kernel_rfl)) (by decide) (fun K hK => ?_)
      refine goes_ Tryz.func26 (by kernel_rfl) rfl #[.string (rdOf ByteArray.empty l0 x4_1), .string (rdOf ByteArray.empty x3_1 x7_2)] (by rfl) rfl rfl (mp_) ?_
      with_reducible refine (copseref02_Cmp.calls k2 (rdOf ByteArray.empty l0 x4_1) (rdOf ByteArray.empty x3_1 x7_2) t330 _ A17.out).mono ?_
      rintro e w27 ⟨rfl, hb⟩
      have HS1_ := (hb.cell (World.block_lt_of_cell? _ _ (hHeld.2))).trans (hHeld.2)
      refine ⟨_, rfl, ?_⟩
      have n0_ := Aside0.mk (Kd.R_below (ur_ HO_3.out) hb)
      have n1_ := Aside0.mk (Kd.R_below (ur_ HO_5.out) hb)
      have n2_ := Aside0.mk (below_step (bel_) hb)
      clear HO_3
      clear HO_5
      clear HB
      have HO_3 := n0_
      have HO_5 := n1_
      have HB := n2_
      clear n0_ n1_ n2_
      (try clear hb)
      (try clear hb2)
      (try clear hk)
      (try clear hi)
      refine hK.out _ _ ⟨(hk_ HB.out hw328_0), HS1_⟩ (fun hHeld => ?_)
      clear hK K
      refine norm_ (a' := ?_) ?_ ?_
      rotate_left
      ·show Act.put _ (some 37) _ = _
       simp only [Act.put, List.setIfInBounds_toArray, List.set_cons_zero, List.set_cons_succ, i64_w, i32_w]
       rfl
      refine pv_ 12 38 (lb 14 8191) HT_.out ?_
      refine pv_ 13 39 (lb 14 16383) HT_.out ?_
      refine done_ (done_of HT_.out (by kernel_rfl)) ?_
      have p339 : 0 ≤ (x7_2 : Int) := of_decide_eq_true (by assumption)
      have q339 : x7_2 < (x3_1.length : Int) := of_decide_eq_true (by assumption)
      obtain ⟨ad339, e339, hx339_0⟩ := Kd.at_string (Kd.R_reads' HO_3.out).2.2 x7_2 p339 q339
      obtain rfl : ad329 = ad339 := (by injection e339)
      replace p339 := eq_true p339
      replace q339 := eq_true q339
      try go_wp2_with (first | ((with_reducible refine gate_builtin (b := .append) (xs := #[.tmp 47, .tmp 52]) rfl ?_); at_builtin; refine Kd.R_append Kd.string (w0 := w) w.heap.size rfl (.tmp 47) (.tmp 52) 38 9 (.string ⟨#[]⟩) 16 rfl Tryz.underlying38 info9 rfl (by decide) (by omega) u5 x5_2 (rdOf ByteArray.empty x3_1 x7_2) [.string (rdOf ByteArray.empty x3_1 x7_2)] (fun k_ => some k_ ≠ (.slice (some ad329) x3_1.length co7 : Value).ownBlock) (fun _ => False) rfl rfl ?aP (fun _ hk => hk.elim) ?aF ?aO ?aB ?aS ?aL ?_; (case aP => exact rfl); (case aB => exact (bel_)); (case aF => exact (fun k_ hk => Kd.fresh' (Kd.R_lt (ur_ HO_3.out)) k_ hk)); (case aO => exact (ur_ HO_5.out)); (case aS => exact (below_size (bel_))); (case aL => have := LMc25.out; omega); intro v341 w28 ho hb hg hat; rw [← Ny340.out] at ho; have n0_ := Aside0.mk (Kd.R_after (ok := (fun _ => True)) (by (with_reducible repeat (first | apply Kd.R_alloc | apply Kd.R_drewN | apply Kd.R_drew)); exact Kd.R_mono HO_3.out (fun _ hk => ⟨trivial, hk⟩)) hg hat); have n1_ := Aside0.mk (hb); have n2_ := Aside0.mk (ho); clear HO_3; clear HB; clear HO_5; have HO_3 := n0_; have HB := n1_; have HO342 := n2_; clear n0_ n1_ n2_; clear ho hb hg hat))
      go_roundg k2
      case measure => have := HK1.out; have := HK2.out; omega
      case rel => exact ⟨(y340), (false), (wrap64 (x7_2 + 1)), (rf_), (rf_), H', ⟨by have := HK1.out; have := HK2.out; omega⟩, ⟨by (with_reducible repeat (first | apply Kd.R_alloc | apply Kd.R_drewN | apply Kd.R_drew)); exact Kd.R_mono HO_3.out (fun _ hk => hk.2)⟩, ⟨ur_ HO342.out⟩, ⟨bel_⟩⟩
     rw [if_pos c18] at H
     have c18b0 := decide_eq_true c18
     clear c18
     by_cases c19 : x5_2.length < 8796093022208
     rotate_left
     ·rw [if_neg c19] at H
      exact absurd H (by simp)
     rw [if_pos c19] at H
     have LMc19 := Aside0.mk c19
     clear c19
     obtain ⟨y332, hy332⟩ : ∃ y_ : List ByteArray, y_ = (x5_2 ++ [rdOf ByteArray.empty l0 x4_1]) := ⟨_, rfl⟩
     replace H : (if y332.length < 8796093022208 then (copseref03_Norm.l1 k2 l0 x3_1 x4_1 (y332 ++ [rdOf ByteArray.empty x3_1 x7_2]) true (wrap64 (x7_2 + 1))) else (none)) = some r := by first | (rw [hy332]; with_reducible exact H) | (have H2_ := (Option.bind_some _ _).symm.trans H; rw [hy332]; with_reducible exact H2_) | (have H2_ := (Option.bind_some _ _).symm.trans H; with_reducible exact H2_) | with_reducible exact H | (rw [hy332]; exact H) | exact H
     have Ny332 := Aside0.mk hy332
     clear hy332
     by_cases c20 : y332.length < 8796093022208
     rotate_left
     ·rw [if_neg c20] at H
      exact absurd H (by simp)
     rw [if_pos c20] at H
     have LMc20 := Aside0.mk c20
     clear c20
     obtain ⟨y336, hy336⟩ : ∃ y_ : List ByteArray, y_ = (y332 ++ [rdOf ByteArray.empty x3_1 x7_2]) := ⟨_, rfl⟩
     replace H : (copseref03_Norm.l1 k2 l0 x3_1 x4_1 y336 true (wrap64 (x7_2 + 1))) = some r := by first | (rw [hy336]; with_reducible exact H) | (have H2_ := (Option.bind_some _ _).symm.trans H; rw [hy336]; with_reducible exact H2_) | (have H2_ := (Option.bind_some _ _).symm.trans H; with_reducible exact H2_) | with_reducible exact H | (rw [hy336]; exact H) | exact H
     have Ny336 := Aside0.mk hy336
     clear hy336
     have H' := Aside0.mk H
     clear H
     try go_wp2
     have n0_ := Aside0.mk (Kd.R_drew HO_3.out)
     have n1_ := Aside0.mk (Kd.R_drew HO_5.out)
     have n2_ := Aside0.mk (below_drew1 HB.out)
     clear HO_3
     clear HO_5
     clear HB
     have HO_3 := n0_
     have HO_5 := n1_
     have HB := n2_
     clear n0_ n1_ n2_
     have p328 : 0 ≤ (x4_1 : Int) := of_decide_eq_true (by assumption)
     have q328 : x4_1 < (l0.length : Int) := of_decide_eq_true (by assumption)
     obtain ⟨ad328, e328, hx328_0⟩ := Kd.at_string HR0.out x4_1 p328 q328
     have hw328_0 := hx328_0
     obtain rfl : ad322 = ad328 := (by injection e328)
     replace hx328_0 := hk_ HB.out hx328_0
     replace p328 := eq_true p328
     replace q328 := eq_true q328
     have p329 : 0 ≤ (x7_2 : Int) := of_decide_eq_true (by assumption)
     have q329 : x7_2 < (x3_1.length : Int) := of_decide_eq_true (by assumption)
     obtain ⟨ad329, e329, hx329_0⟩ := Kd.at_string (Kd.R_reads' HO_3.out).2.2 x7_2 p329 q329
     cases e329
     replace p329 := eq_true p329
     replace q329 := eq_true q329
     refine start_ (n := 14) (S := fun w' => w'.cell? (ad322.add (x4_1).toNat) = some (.string (rdOf ByteArray.empty l0 x4_1)) ∧ w'.cell? (ad329.add (x7_2).toNat) = some (.string (rdOf ByteArray.empty x3_1 x7_2))) (ds := []) (lb 14 0) (by kernel_rfl) rfl rfl ⟨(hk_ HB.out hw328_0), hx329_0⟩ (fun hHeld => ?_); refine with_tabW copseref03_Norm.tab11 copseref03_Norm.bits11 (fun HT_ HW_ => ?_)
     generalize wr.drew = w21 at HO_3 HO_5 HB hx328_0 hx329_0 hHeld ⊢
     refine pv_ 0 26 (lb 14 1) HT_.out ?_
     refine pv_ 1 27 (lb 14 3) HT_.out ?_
     refine pv_ 2 28 (lb 14 7) HT_.out ?_
     refine pv_ 3 29 (lb 14 15) HT_.out ?_
     refine pv_ 4 30 (lb 14 31) HT_.out ?_
     refine pv_ 5 31 (lb 14 63) HT_.out ?_
     refine pv_ 7 33 (lb 14 191) HT_.out ?_
     refine pv_ 8 34 (lb 14 447) HT_.out ?_
     refine pv_ 9 35 (lb 14 959) HT_.out ?_
     refine tk_ 6 32 (lb 14 1023) HT_.out HW_.out hHeld ?_
     refine tk_ 10 36 (lb 14 2047) HT_.out HW_.out hHeld ?_
     refine one_ (i := 11) (N := some 37) (lb 14 4095) rfl rfl (one_of HT_.out (by kernel_rfl)) (by decide) (fun K hK => ?_)
     refine goes_ Tryz.func26 (by kernel_rfl) rfl #[.string (rdOf ByteArray.empty l0 x4_1), .string (rdOf ByteArray.empty x3_1 x7_2)] (by rfl) rfl rfl (mp_) ?_
     with_reducible refine (copseref02_Cmp.calls k2 (rdOf ByteArray.empty l0 x4_1) (rdOf ByteArray.empty x3_1 x7_2) t330 _ A17.out).mono ?_
     rintro e w22 ⟨rfl, hb⟩
     have HS1_ := (hb.cell (World.block_lt_of_cell? _ _ (hHeld.2))).trans (hHeld.2)
     refine ⟨_, rfl, ?_⟩
     have n0_ := Aside0.mk (Kd.R_below (ur_ HO_3.out) hb)
     have n1_ := Aside0.mk (Kd.R_below (ur_ HO_5.out) hb)
     have n2_ := Aside0.mk (below_step (bel_) hb)
     clear HO_3
     clear HO_5
     clear HB
     have HO_3 := n0_
     have HO_5 := n1_
     have HB := n2_
     clear n0_ n1_ n2_
     (try clear hb)
     (try clear hb2)
     (try clear hk)
     (try clear hi)
     refine hK.out _ _ ⟨(hk_ HB.out hw328_0), HS1_⟩ (fun hHeld => ?_)
     clear hK K
     refine norm_ (a' := ?_) ?_ ?_
     rotate_left
     ·show Act.put _ (some 37) _ = _
      simp only [Act.put, List.setIfInBounds_toArray, List.set_cons_zero, List.set_cons_succ, i64_w, i32_w]
      rfl
     refine pv_ 12 38 (lb 14 8191) HT_.out ?_
     refine pv_ 13 39 (lb 14 16383) HT_.out ?_
     refine done_ (done_of HT_.out (by kernel_rfl)) ?_
     have p331 : 0 ≤ (x4_1 : Int) := of_decide_eq_true (by assumption)
     have q331 : x4_1 < (l0.length : Int) := of_decide_eq_true (by assumption)
     obtain ⟨ad331, e331, hx331_0⟩ := Kd.at_string HR0.out x4_1 p331 q331
     obtain rfl : ad322 = ad331 := (by injection e331)
     replace hx331_0 := hk_ HB.out hx331_0
     replace p331 := eq_true p331
     replace q331 := eq_true q331
     try go_wp2_with (first | ((with_reducible refine gate_builtin (b := .append) (xs := #[.tmp 40, .tmp 45]) rfl ?_); at_builtin; refine Kd.R_append Kd.string (w0 := w) w.heap.size rfl (.tmp 40) (.tmp 45) 38 9 (.string ⟨#[]⟩) 16 rfl Tryz.underlying38 info9 rfl (by decide) (by omega) u5 x5_2 (rdOf ByteArray.empty l0 x4_1) [.string (rdOf ByteArray.empty l0 x4_1)] (fun k_ => some k_ ≠ (.slice (some ad329) x3_1.length co7 : Value).ownBlock) (fun _ => False) rfl rfl ?aP (fun _ hk => hk.elim) ?aF ?aO ?aB ?aS ?aL ?_; (case aP => exact rfl); (case aB => exact (bel_)); (case aF => exact (fun k_ hk => Kd.fresh' (Kd.R_lt (ur_ HO_3.out)) k_ hk)); (case aO => exact (ur_ HO_5.out)); (case aS => exact (below_size (bel_))); (case aL => have := LMc19.out; omega); intro v333 w23 ho hb hg hat; rw [← Ny332.out] at ho; have n0_ := Aside0.mk (Kd.R_after (ok := (fun _ => True)) (by (with_reducible repeat (first | apply Kd.R_alloc | apply Kd.R_drewN | apply Kd.R_drew)); exact Kd.R_mono HO_3.out (fun _ hk => ⟨trivial, hk⟩)) hg hat); have n1_ := Aside0.mk (hb); have n2_ := Aside0.mk (ho); clear HO_3; clear HB; clear HO_5; have HO_3 := n0_; have HB := n1_; have HO334 := n2_; clear n0_ n1_ n2_; clear ho hb hg hat; have p335 : 0 ≤ (x7_2 : Int) := of_decide_eq_true (by assumption); have q335 : x7_2 < (x3_1.length : Int) := of_decide_eq_true (by assumption); obtain ⟨ad335, e335, hx335_0⟩ := Kd.at_string (Kd.R_reads' HO_3.out).2.2 x7_2 p335 q335; obtain rfl : ad329 = ad335 := (by injection e335); replace p335 := eq_true p335; replace q335 := eq_true q335) | ((with_reducible refine gate_builtin (b := .append) (xs := #[.tmp 47, .tmp 52]) rfl ?_); at_builtin; refine Kd.R_append Kd.string (w0 := w) w.heap.size rfl (.tmp 47) (.tmp 52) 38 9 (.string ⟨#[]⟩) 16 rfl Tryz.underlying38 info9 rfl (by decide) (by omega) v333 y332 (rdOf ByteArray.empty x3_1 x7_2) [.string (rdOf ByteArray.empty x3_1 x7_2)] (fun k_ => some k_ ≠ (.slice (some ad329) x3_1.length co7 : Value).ownBlock) (fun _ => False) rfl rfl ?aP (fun _ hk => hk.elim) ?aF ?aO ?aB ?aS ?aL ?_; (case aP => exact rfl); (case aB => exact (bel_)); (case aF => exact (fun k_ hk => Kd.fresh' (Kd.R_lt (ur_ HO_3.out)) k_ hk)); (case aO => exact (ur_ HO334.out)); (case aS => exact (below_size (bel_))); (case aL => have := LMc20.out; omega); intro v337 w24 ho hb hg hat; rw [← Ny336.out] at ho; have n0_ := Aside0.mk (Kd.R_after (ok := (fun _ => True)) (ur_ HO_3.out) hg hat); have n1_ := Aside0.mk (hb); have n2_ := Aside0.mk (ho); clear HO_3; clear HB; clear HO334; have HO_3 := n0_; have HB := n1_; have HO338 := n2_; clear n0_ n1_ n2_; clear ho hb hg hat))
     go_roundg k2
     case measure => have := HK1.out; have := HK2.out; omega
     case rel => exact ⟨(y336), (true), (wrap64 (x7_2 + 1)), (rf_), (rf_), H', ⟨by have := HK1.out; have := HK2.out; omega⟩, ⟨by (with_reducible repeat (first | apply Kd.R_alloc | apply Kd.R_drewN | apply Kd.R_drew)); exact Kd.R_mono HO_3.out (fun _ hk => hk.2)⟩, ⟨ur_ HO338.out⟩, ⟨bel_⟩⟩
open Go.Proofs.YtehfogjibhnabaaGreatDoor.Sp
abbrev Fits (l : List ByteArray) : Prop := ∀ p ∈ l, p.size ≤ 1073741824
theorem Fits.at_ {l : List ByteArray} (h : Fits l) {i : Nat} (hi : i < l.length) : (rdOf ByteArray.empty l (i : Int)).size ≤ 1073741824 :=
 h _ (List.mem_of_mem_drop (i := i) (by rw [rdOf_drop l i hi]; exact List.mem_cons_self))
def put (x : ByteArray) : List ByteArray → List ByteArray
 | [] => [x]
 | y :: l => if cB x y < 0 then x :: y :: l else y :: put x l
theorem put_length (x : ByteArray) : ∀ l, (put x l).length = l.length + 1
 | [] => rfl
 | y :: l => by unfold put; split <;> simp [put_length x l]
theorem mem_put {x z : ByteArray} : ∀ {l : List ByteArray}, z ∈ put x l ↔ z = x ∨ z ∈ l
 | [] => by simp [put]
 | y :: l => by
  unfold put
  split
  ·simp
  ·simp only [List.mem_cons, mem_put (l := l)]
   constructor <;> (intro h; rcases h with h | h | h <;> simp [h])
theorem put_ins {x : ByteArray} : ∀ {l : List ByteArray}, x ∉ l → put x l = ins x l
 | [], _ => rfl
 | y :: l, h => by
  unfold put ins
  split
  ·rfl
  ·rw [if_neg (fun e => h (by rw [e]; exact List.mem_cons_self)), put_ins (fun hx => h (List.mem_cons_of_mem _ hx))]
theorem ins_mem {x : ByteArray} {l : List ByteArray} (h : Rises l) (hx : x ∈ l) : ins x l = l :=
 rises_uniq _ _ (rises_ins h) h fun z => by
  rw [mem_ins]
  constructor
  ·rintro (rfl | h)
   ·exact hx
   ·exact h
  ·exact .inr
theorem norm_fold_ins : ∀ (l acc : List ByteArray), Rises acc → l.foldl (fun acc x => if x ∈ acc then acc else put x acc) acc = l.foldl (fun acc x => ins x acc) acc
 | [], _, _ => rfl
 | x :: l, acc, h => by
  simp only [List.foldl_cons]
  have e : (if x ∈ acc then acc else put x acc) = ins x acc := by
   split
   ·rename_i hx; exact (ins_mem h hx).symm
   ·rename_i hx; exact put_ins hx
  rw [e]
  exact norm_fold_ins l _ (rises_ins h)
theorem ref_norm_in (x0 out : List ByteArray) (i : Nat) (hi : i < x0.length) (hx0 : x0.length ≤ 4294967296) (ho : out.length ≤ 4294967296) (hf0 : Fits x0) (hfo : Fits out) (R : List ByteArray) (d : Nat) :
  ∀ (kk : Nat) (next : List ByteArray) (laid : Bool), out.length - kk = d → kk ≤ out.length → next.length ≤ 2 * kk →
   Ev (fun k => copseref03_Norm.l0 k x0 (next ++ (if laid = true then out.drop kk else put (rdOf ByteArray.empty x0 (i : Int)) (out.drop kk))) ((i + 1 : Nat) : Int)) R →
   Ev (fun k => copseref03_Norm.l1 k x0 out (i : Int) next laid (kk : Int)) R := by
 induction d with
 | zero =>
  intro kk next laid hd hk hn ⟨K, hK⟩
  dsimp only at hK
  refine ⟨K + 1, fun k hk => ?_⟩
  obtain ⟨k, rfl⟩ : ∃ m, k = m + 1 := ⟨k - 1, by omega⟩
  simp only [copseref03_Norm.l1]
  rw [List.drop_of_length_le (l := out) (by omega)] at hK
  rw [if_neg (by omega)]
  cases laid with
  | true =>
   rw [if_pos rfl] at hK
   rw [if_pos rfl]
   rw [List.append_nil] at hK
   rw [wrap_succ (n := x0.length) (by omega) (by omega)]
   exact hK k (by omega)
  | false =>
   rw [if_neg (by decide)] at hK ⊢
   rw [if_pos (by omega), if_pos (by omega), if_pos (by omega), wrap_succ (n := x0.length) (by omega) (by omega)]
   exact hK k (by omega)
 | succ d ih =>
  intro kk next laid hd hk hn h
  have hlt : kk < out.length := by omega
  rw [rdOf_drop out kk hlt] at h
  cases laid with
  | true =>
   obtain ⟨K, hK⟩ := ih (kk + 1) (next ++ [rdOf ByteArray.empty out (kk : Int)]) true (by omega) (by omega) (by simp; omega) (by
    rw [if_pos rfl] at h ⊢
    rw [List.append_assoc]; exact h)
   dsimp only at hK
   refine ⟨K + 1, fun k hk => ?_⟩
   obtain ⟨k, rfl⟩ : ∃ m, k = m + 1 := ⟨k - 1, by omega⟩
   simp only [copseref03_Norm.l1]
   rw [if_pos (by omega), if_pos trivial, if_pos (by omega), if_pos (by omega), wrap_succ (n := out.length) (by omega) (by omega)]
   exact hK k (by omega)
  | false =>
   have hs1 := hf0.at_ hi
   have hs2 := hfo.at_ hlt
   obtain ⟨K2, hK2⟩ := ref_cmp (rdOf ByteArray.empty x0 (i : Int)) (rdOf ByteArray.empty out (kk : Int)) (by omega) (by omega)
   dsimp only at hK2
   rw [if_neg (by decide)] at h
   unfold put at h
   by_cases c : cB (rdOf ByteArray.empty x0 (i : Int)) (rdOf ByteArray.empty out (kk : Int)) < 0
   ·rw [if_pos c] at h
    obtain ⟨K, hK⟩ := ih (kk + 1) (next ++ [rdOf ByteArray.empty x0 (i : Int)] ++ [rdOf ByteArray.empty out (kk : Int)]) true (by omega) (by omega) (by simp; omega) (by
     rw [if_pos rfl, List.append_assoc, List.append_assoc]; exact h)
    dsimp only at hK
    refine ⟨max K K2 + 1, fun k hk => ?_⟩
    obtain ⟨k, rfl⟩ : ∃ m, k = m + 1 := ⟨k - 1, by omega⟩
    simp only [copseref03_Norm.l1]
    rw [if_pos (by omega), if_neg (by decide), if_pos (by omega), if_pos (by omega), if_pos (by omega), hK2 k (by omega), Option.bind_some, if_pos c, if_pos (by omega), Option.bind_some, if_pos (by rw [List.length_append, List.length_singleton]; omega), wrap_succ (n := out.length) (by omega) (by omega)]
    exact hK k (by omega)
   rw [if_neg c] at h
   obtain ⟨K, hK⟩ := ih (kk + 1) (next ++ [rdOf ByteArray.empty out (kk : Int)]) false (by omega) (by omega) (by simp; omega) (by
    rw [if_neg (by decide), List.append_assoc]; exact h)
   dsimp only at hK
   refine ⟨max K K2 + 1, fun k hk => ?_⟩
   obtain ⟨k, rfl⟩ : ∃ m, k = m + 1 := ⟨k - 1, by omega⟩
   simp only [copseref03_Norm.l1]
   rw [if_pos (by omega), if_neg (by decide), if_pos (by omega), if_pos (by omega), if_pos (by omega), hK2 k (by omega), Option.bind_some, if_neg c, if_pos (by omega), wrap_succ (n := out.length) (by omega) (by omega)]
   exact hK k (by omega)
theorem ref_norm_run (x0 : List ByteArray) (hx0 : x0.length ≤ 4294967295) (hf0 : Fits x0) (d : Nat) : ∀ (i : Nat) (acc : List ByteArray), x0.length - i = d → i ≤ x0.length → acc.length ≤ i → Fits acc →
  Ev (fun k => copseref03_Norm.l0 k x0 acc (i : Int)) ((x0.drop i).foldl (fun acc x => if x ∈ acc then acc else put x acc) acc) := by
 induction d with
 | zero =>
  intro i acc hd hi ha hf
  refine ⟨1, fun k hk => ?_⟩
  obtain ⟨k, rfl⟩ : ∃ m, k = m + 1 := ⟨k - 1, by omega⟩
  simp only [copseref03_Norm.l0]
  rw [if_neg (by omega), List.drop_of_length_le (by omega)]; rfl
 | succ d ih =>
  intro i acc hd hi ha hf
  have hlt : i < x0.length := by omega
  rw [rdOf_drop x0 i hlt, List.foldl_cons]
  obtain ⟨K2, hK2⟩ := ref_has acc (rdOf ByteArray.empty x0 (i : Int)) (by omega)
  dsimp only at hK2
  by_cases h : rdOf ByteArray.empty x0 (i : Int) ∈ acc
  ·obtain ⟨K, hK⟩ := ih (i + 1) acc (by omega) (by omega) (by omega) hf
   dsimp only at hK
   rw [if_pos h]
   refine ⟨max K K2 + 1, fun k hk => ?_⟩
   obtain ⟨k, rfl⟩ : ∃ m, k = m + 1 := ⟨k - 1, by omega⟩
   simp only [copseref03_Norm.l0]
   rw [if_pos (by omega), if_pos (by omega), hK2 k (by omega), Option.bind_some, if_pos (by simpa using h), wrap_succ (n := x0.length) (by omega) (by omega)]
   exact hK k (by omega)
  rw [if_neg h]
  have hnext := ih (i + 1) (put (rdOf ByteArray.empty x0 (i : Int)) acc) (by omega) (by omega) (by rw [put_length]; omega) (fun p hp => by
   rcases mem_put.1 hp with rfl | hp
   ·exact hf0.at_ hlt
   ·exact hf p hp)
  obtain ⟨K, hK⟩ := ref_norm_in x0 acc i hlt (by omega) (by omega) hf0 hf _ acc.length 0 [] false (by omega) (by omega) (by simp) (by
   rw [if_neg (by decide), List.nil_append, List.drop_zero]; exact hnext)
  dsimp only at hK
  refine ⟨max K K2 + 1, fun k hk => ?_⟩
  obtain ⟨k, rfl⟩ : ∃ m, k = m + 1 := ⟨k - 1, by omega⟩
  simp only [copseref03_Norm.l0]
  rw [if_pos (by omega), if_pos (by omega), hK2 k (by omega), Option.bind_some, if_neg (by simpa using h)]
  exact hK k (by omega)
theorem ref_norm (l : List ByteArray) (hl : l.length ≤ 4294967295) (hf : Fits l) : Ev (fun k => copseref03_Norm.f k l) (norm l) := by
 refine Ev.val (ref_norm_run l hl hf l.length 0 [] (by omega) (by omega) (by simp) (fun p hp => by cases hp)) ?_
 rw [List.drop_zero]
 exact norm_fold_ins l [] List.Pairwise.nil
def okc (v : Int) : Bool := (decide (97 ≤ v) && decide (v ≤ 122)) || (decide (65 ≤ v) && decide (v ≤ 90)) || (decide (48 ≤ v) && decide (v ≤ 57)) || decide (v = 46) || decide (v = 95) || decide (v = 45)
def compB (a : ByteArray) : Bool := !(bs a == []) && decide (a.size ≤ 32) && !(bs a == [46]) && !(bs a == [46, 46]) && !(bs a == [46, 46, 46]) && (bs a).all (fun c => okc (c.toNat : Int))
def validB (a : ByteArray) : Bool := decide (a.size ≤ 120) && decide ((pB a).length ≤ 12) && (pB a).all compB
theorem comp_run (a : ByteArray) (ha : a.size ≤ 4294967296) (d : Nat) : ∀ i, a.size - i = d → i ≤ a.size → Ev (fun k => path_Component.l0 k a (a.size : Int) (i : Int)) (((bs a).drop i).all fun c => okc (c.toNat : Int)) := by
 induction d with
 | zero =>
  intro i hd hi
  refine ⟨1, fun k hk => ?_⟩
  obtain ⟨k, rfl⟩ : ∃ m, k = m + 1 := ⟨k - 1, by omega⟩
  simp only [path_Component.l0]
  rw [if_neg (by omega), List.drop_of_length_le (by rw [bs_size]; omega)]; rfl
 | succ d ih =>
  intro i hd hi
  have hv := bt_get a i (by omega)
  obtain ⟨K, hK⟩ := ih (i + 1) (by omega) (by omega)
  rw [bs_drop a i (by omega), List.all_cons, ← hv]
  dsimp only at hK
  refine ⟨K + 1, fun k hk => ?_⟩
  obtain ⟨k, rfl⟩ : ∃ m, k = m + 1 := ⟨k - 1, by omega⟩
  have hk1 := hK k (by omega)
  simp only [path_Component.l0]
  rw [if_pos (by omega), if_pos (by omega), if_pos (by omega), wrap_succ (n := a.size) (by omega) (by omega), hk1]
  clear hk1 hK hv ih
  generalize bt a (i : Int) = v
  generalize (((bs a).drop (i + 1)).all fun c => okc (c.toNat : Int)) = R
  by_cases h : okc v = true
  ·rw [h, Bool.true_and]
   simp only [okc, Bool.or_eq_true, Bool.and_eq_true, decide_eq_true_eq] at h
   repeat' split
   all_goals first | rfl | (exfalso; omega)
  rw [Bool.not_eq_true] at h
  rw [h, Bool.false_and]
  simp only [okc, Bool.or_eq_false_iff, Bool.and_eq_false_iff, decide_eq_false_iff_not] at h
  repeat' split
  all_goals first | rfl | (exfalso; omega)
theorem prog_comp (a : ByteArray) (ha : a.size ≤ 4294967296) : Ev (fun k => path_Component.f k a) (compB a) := by
 have hj : Ev (fun k => path_Component.j0 k a true) false := ⟨1, fun k hk => by
  obtain ⟨k, rfl⟩ : ∃ m, k = m + 1 := ⟨k - 1, by omega⟩
  simp [path_Component.j0]⟩
 unfold path_Component.f compB
 simp only [toList_bs]
 by_cases h1 : bs a = []
 ·simp only [h1, if_true]; exact Ev.val hj (by simp)
 simp only [if_neg h1]
 by_cases h2 : (a.size : Int) > 32
 ·simp only [if_pos h2]; exact Ev.val hj (by simp; omega)
 simp only [if_neg h2]
 by_cases h3 : bs a = [46]
 ·simp only [h3, if_true]; exact Ev.val hj (by simp)
 simp only [if_neg h3]
 by_cases h4 : bs a = [46, 46]
 ·simp only [h4, if_true]; exact Ev.val hj (by simp)
 simp only [if_neg h4]
 by_cases h5 : bs a = [46, 46, 46]
 ·simp only [h5, beq_self_eq_true]; exact Ev.val hj (by simp)
 have e5 : (bs a == [46, 46, 46]) = false := beq_eq_false_iff_ne.mpr h5
 simp only [e5]
 obtain ⟨K, hK⟩ := comp_run a ha a.size 0 (by omega) (by omega)
 dsimp only at hK
 refine ⟨K + 1, fun k hk => ?_⟩
 obtain ⟨k, rfl⟩ : ∃ m, k = m + 1 := ⟨k - 1, by omega⟩
 have := hK k (by omega)
 simp only [path_Component.j0, Bool.false_eq_true, if_false]
 rw [show ((0 : Nat) : Int) = 0 from rfl] at this
 rw [this]
 have g2 : a.size ≤ 32 := by omega
 simp [h1, g2, h3, h4]
theorem valid_run (x : List ByteArray) (hx : x.length ≤ 4294967296) (hs : ∀ p ∈ x, p.size ≤ 4294967296) (d : Nat) : ∀ i, x.length - i = d → i ≤ x.length → Ev (fun k => path_Valid.l0 k x (x.length : Int) (i : Int)) ((x.drop i).all compB) := by
 induction d with
 | zero =>
  intro i hd hi
  refine ⟨1, fun k hk => ?_⟩
  obtain ⟨k, rfl⟩ : ∃ m, k = m + 1 := ⟨k - 1, by omega⟩
  simp only [path_Valid.l0]
  rw [if_neg (by omega), List.drop_of_length_le (by omega)]; rfl
 | succ d ih =>
  intro i hd hi
  have hm : rdOf ByteArray.empty x (i : Int) ∈ x := by
   simp only [rdOf, Int.toNat_natCast, List.getD_eq_getElem?_getD, List.getElem?_eq_getElem (show i < x.length by omega), Option.getD_some]; exact List.getElem_mem _
  obtain ⟨K, hK⟩ := ih (i + 1) (by omega) (by omega)
  obtain ⟨K1, hK1⟩ := prog_comp _ (hs _ hm)
  rw [rdOf_drop x i (by omega), List.all_cons]
  dsimp only at hK hK1
  refine ⟨max K K1 + 1, fun k hk => ?_⟩
  obtain ⟨k, rfl⟩ : ∃ m, k = m + 1 := ⟨k - 1, by omega⟩
  simp only [path_Valid.l0]
  rw [if_pos (by omega), if_pos (by omega), if_pos (by omega), hK1 k (by omega), Option.bind_some, wrap_succ (n := x.length) (by omega) (by omega), hK k (by omega)]
  cases compB (rdOf ByteArray.empty x (i : Int)) <;> simp
theorem prog_valid (a : ByteArray) (ha : a.size < 4294967281) : Ev (fun k => path_Valid.f k a) (validB a) := by
 have hj : Ev (fun k => path_Valid.j0 k a true) false := ⟨1, fun k hk => by
  obtain ⟨k, rfl⟩ : ∃ m, k = m + 1 := ⟨k - 1, by omega⟩
  simp [path_Valid.j0]⟩
 unfold path_Valid.f validB
 by_cases h1 : (a.size : Int) > 120
 ·simp only [if_pos h1]; exact Ev.val hj (by simp; omega)
 simp only [if_neg h1]
 refine Ev.bind (a := ((pB a).length : Int)) (ev_pure fun k => by unfold path_Depth.f; rw [if_pos ha]) ?_
 by_cases h2 : ((pB a).length : Int) > 12
 ·rw [decide_eq_true h2]; exact Ev.val hj (by simp; omega)
 rw [decide_eq_false h2]
 have g1 : a.size ≤ 120 := by omega
 have g2 : (pB a).length ≤ 12 := by omega
 obtain ⟨K, hK⟩ := prog_split a ha
 obtain ⟨K1, hK1⟩ := valid_run (pB a) (by omega) (fun p hp => by have := pB_piece_le a p hp; omega) (pB a).length 0 (by omega) (by omega)
 dsimp only at hK hK1
 refine ⟨max K K1 + 1, fun k hk => ?_⟩
 obtain ⟨k, rfl⟩ : ∃ m, k = m + 1 := ⟨k - 1, by omega⟩
 simp only [path_Valid.j0, Bool.false_eq_true, if_false]
 rw [hK k (by omega), Option.bind_some]
 have := hK1 k (by omega)
 rw [show ((0 : Nat) : Int) = 0 from rfl] at this
 rw [this]
 simp [g1, g2]
def before (x : List ByteArray) (i : Nat) : Option ByteArray := if i = 0 then none else some (rdOf ByteArray.empty x ((i - 1 : Nat) : Int))
end Go.Proofs.YtehfogjibhnabaaGreatDoor.PAll
