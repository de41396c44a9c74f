/- What functions of the program compute, each with its walk: a contract for every world and every argument of the kind told. -/
import Derived.Test.YtehfogjibhnabaaDoorPrPAllx0
import Derived.Test.YtehfogjibhnabaaDoorPrHandA
import Derived.Test.YtehfogjibhnabaaDoorPrPAlly11
import Derived.RangeFuncNested
import Derived.RangeFuncBox
import Derived.RangeFuncBound
import Derived.RangeFuncCalls
import Derived.RangeFuncLeaves
import Derived.Shelf.Abstract
import Derived.Shelf.RegionOpen
import Derived.WalkKit
import Derived.OwnWalkIn
import Derived.TacticsInMore
import Derived.LoopNIn
import Derived.LoopIn
import Derived.Maps.AppendAt
import Derived.Test.YtehfogjibhnabaaDoorPrPAlly1
import Derived.Test.YtehfogjibhnabaaDoorPrPAlly3
import Derived.Test.YtehfogjibhnabaaDoorPrPAlly5
import Derived.Test.YtehfogjibhnabaaDoorPrShelf
import Derived.Sort.Grow
import Derived.Shelf.SlSortCmp.NoneTotal
import Derived.Test.YtehfogjibhnabaaDoorPrPAlly7
namespace Go.Proofs.YtehfogjibhnabaaDoor.PAll
open Go.RowKit Go.Proofs.YtehfogjibhnabaaDoorW.PrintWords Go.Proofs.YtehfogjibhnabaaDoorW.PrintLast Go.Proofs.YtehfogjibhnabaaDoorW.PrintMore
attribute [local go_sem] max2_int min2_int max_two min_two max_three min_three max_four min_four
set_option linter.unusedVariables false
set_option linter.unusedSimpArgs false
attribute [local go_sem high] eqA55
def bytealg_LastIndexByteString.l0 : Nat → ByteArray → Int → Int → Option (Int)
 | 0, _, _, _ => none
 | k + 1, x0, x1, x5 => if x5 ≥ 0 then (if 0 ≤ x5 then (if x5 < (x0.size : Int) then (if (bt x0 x5) = x1 then (some x5) else (bytealg_LastIndexByteString.l0 k x0 x1 (wrap64 (x5 - 1)))) else (none)) else (none)) else (some (-1))
def bytealg_LastIndexByteString.f (k : Nat) (a0 : ByteArray) (a1 : Int) : Option (Int) := bytealg_LastIndexByteString.l0 k a0 a1 (wrap64 ((a0.size : Int) - 1))
set_option maxHeartbeats 8000000 in
set_option maxRecDepth 100000 in
theorem bytealg_LastIndexByteString.calls (k : Nat) (a0 : ByteArray) (a1 : Int) (r : Int) (w : World) (h : bytealg_LastIndexByteString.f k a0 a1 = some r) :
  Calls Tryd.prog 100 #[.string a0, .int .u8 a1] w fun e w' => e = .returned (.int .i64 r) ∧ Drawn0 w w' := by
 have H : (bytealg_LastIndexByteString.l0 k a0 a1 (wrap64 ((a0.size : Int) - 1))) = some r := h
 clear h
 have H' := Aside0.mk H
 clear H
 go_enter Tryd.func100, Tryd.ntmps100
 go_wp2
 go_loopg [5] k (fun kq v5 w' => ∃ (x5_1 : Int), v5 = .int .i64 x5_1 ∧ Aside0 (bytealg_LastIndexByteString.l0 kq a0 a1 x5_1 = some r) ∧ Aside0 (kq ≤ k) ∧ Drawn0 w w')
 case atStart => exact ⟨(wrap64 ((a0.size : Int) - 1)), (by first | rfl | (simp; done) | (simp [*]; done)), H', ⟨Nat.le_refl _⟩, by repeat (first | exact Drawn0.refl _ | apply Drawn0.step)⟩
 case round =>
  clear H'
  try clear c1
  try clear p2
  obtain ⟨x5_1, rfl, HA, HK1, ⟨m1, rfl⟩⟩ := hrel
  cases gk with
  | zero => exact absurd HA.out (by simp [bytealg_LastIndexByteString.l0])
  | succ k1 =>
   have H := HA.out
   clear HA
   simp only [bytealg_LastIndexByteString.l0] at H
   by_cases c3 : x5_1 ≥ 0
   ·rw [if_pos c3] at H
    have c3b0 := decide_eq_true c3
    clear c3
    by_cases c4 : 0 ≤ x5_1
    ·rw [if_pos c4] at H
     have c4b0 := decide_eq_true c4
     clear c4
     by_cases c5 : x5_1 < (a0.size : Int)
     ·rw [if_pos c5] at H
      have c5b0 := decide_eq_true c5
      clear c5
      by_cases c7 : (bt a0 x5_1) = a1
      ·rw [if_pos c7] at H
       have c7b0 : ((bt a0 x5_1) == a1) = true := beq_iff_eq.mpr c7
       have c7b1 : ((bt a0 x5_1) != a1) = false := bne_eq_false_iff_eq.mpr c7
       clear c7
       obtain rfl := Option.some.inj H
       have p6 : 0 ≤ (x5_1 : Int) := of_decide_eq_true (by first | (with_reducible assumption) | assumption)
       have q6 : x5_1 < (a0.size : Int) := of_decide_eq_true (by first | (with_reducible assumption) | assumption)
       have hx6 := bt_at a0 x5_1
       replace p6 := eq_true p6
       replace q6 := eq_true q6
       go_wp2
       go_ret
       exact ⟨by first | rfl | (simp; done) | (simp [*]; done), by repeat (first | exact Drawn0.refl _ | apply Drawn0.step)⟩
      ·rw [if_neg c7] at H
       have c7b0 : ((bt a0 x5_1) == a1) = false := beq_eq_false_iff_ne.mpr c7
       have c7b1 : ((bt a0 x5_1) != a1) = true := bne_iff_ne.mpr c7
       have H' := Aside0.mk H
       clear H
       have p6 : 0 ≤ (x5_1 : Int) := of_decide_eq_true (by first | (with_reducible assumption) | assumption)
       have q6 : x5_1 < (a0.size : Int) := of_decide_eq_true (by first | (with_reducible assumption) | assumption)
       have hx6 := bt_at a0 x5_1
       replace p6 := eq_true p6
       replace q6 := eq_true q6
       go_wp2
       go_roundg k1
       case measure => have := HK1.out; omega
       case rel => exact ⟨(wrap64 (x5_1 - 1)), (by first | rfl | (simp; done) | (simp [*]; done)), H', ⟨by have := HK1.out; omega⟩, by repeat (first | exact Drawn0.refl _ | apply Drawn0.step)⟩
     ·rw [if_neg c5] at H
      exact absurd H (by simp)
    ·rw [if_neg c4] at H
     exact absurd H (by simp)
   ·rw [if_neg c3] at H
    have c3b0 := decide_eq_false c3
    clear c3
    obtain rfl := Option.some.inj H
    go_wp2
    go_ret
    exact ⟨by first | rfl | (simp; done) | (simp [*]; done), by repeat (first | exact Drawn0.refl _ | apply Drawn0.step)⟩
def strings_LastIndexByte.f (k : Nat) (a0 : ByteArray) (a1 : Int) : Option (Int) := (bytealg_LastIndexByteString.f k a0 a1).bind fun t306 => (some t306)
set_option maxHeartbeats 8000000 in
set_option maxRecDepth 100000 in
theorem strings_LastIndexByte.calls (k : Nat) (a0 : ByteArray) (a1 : Int) (r : Int) (w : World) (h : strings_LastIndexByte.f k a0 a1 = some r) :
  Calls Tryd.prog 75 #[.string a0, .int .u8 a1] w fun e w' => e = .returned (.int .i64 r) ∧ Drawn0 w w' := by
 have H : ((bytealg_LastIndexByteString.f k a0 a1).bind fun t306 => (some t306)) = some r := h
 clear h
 replace H := Option.bind_eq_some_iff.mp H
 obtain ⟨t306, A30, H⟩ := H
 try dsimp only at H
 have A3 := Aside0.mk A30
 clear A30
 obtain rfl := Option.some.inj H
 go_enter Tryd.func75, Tryd.ntmps75
 go_wp2_with (first | ((with_reducible refine gate_callee (f := 100) rfl ?_); refine goesL_ (some 7) rfl rfl Tryd.func100 (by kernel_rfl) rfl #[.string a0, .int .u8 a1] rfl (by (try simp only [List.map_toArray, List.map_cons, List.map_nil]); first | done | rfl | (simp only [List.length_drop, List.length_take]; rfl)) ?_; (with_reducible refine (bytealg_LastIndexByteString.calls k a0 a1 t306 _ A3.out).mono ?_); rintro e w' ⟨rfl, ⟨nd, rfl⟩⟩; refine ⟨_, rfl, ?_⟩))
 go_ret
 exact ⟨by first | rfl | (simp; done) | (simp [*]; done), by repeat (first | exact Drawn0.refl _ | apply Drawn0.step)⟩
def path_Dir.f (k : Nat) (a0 : ByteArray) : Option (ByteArray) := (strings_LastIndexByte.f k a0 47).bind fun t307 => (if 0 ≤ (mx 0 t307) then (if (mx 0 t307) ≤ (a0.size : Int) then (some (a0.extract 0 ((mx 0 t307) : Int).toNat)) else (none)) else (none))
set_option maxHeartbeats 8000000 in
set_option maxRecDepth 100000 in
theorem path_Dir.calls (k : Nat) (a0 : ByteArray) (r : ByteArray) (w : World) (h : path_Dir.f k a0 = some r) :
  Calls Tryd.prog 44 #[.string a0] w fun e w' => e = .returned (.string r) ∧ Below w.heap.size w w' := by
 have HB := Aside0.mk (Below.refl w.heap.size w)
 have H : ((strings_LastIndexByte.f k a0 47).bind fun t307 => (if 0 ≤ (mx 0 t307) then (if (mx 0 t307) ≤ (a0.size : Int) then (some (a0.extract 0 ((mx 0 t307) : Int).toNat)) else (none)) else (none))) = some r := h
 clear h
 replace H := Option.bind_eq_some_iff.mp H
 obtain ⟨t307, A20, H⟩ := H
 try dsimp only at H
 have A2 := Aside0.mk A20
 clear A20
 obtain ⟨ji3, hji3⟩ : ∃ j_ : Int, (mx 0 t307) = j_ := ⟨_, rfl⟩
 replace H : (if 0 ≤ (ji3) then (if (ji3) ≤ (a0.size : Int) then (some (a0.extract 0 ((ji3) : Int).toNat)) else (none)) else (none)) = some r := by first | (rw [hji3] at H; exact H) | (simp only [hji3] at H ⊢; exact H)
 (try rw [hji3] at A2)
 (try (have hji3l : 0 ≤ ji3 := by (rw [← hji3]; unfold mx; (repeat' split) <;> omega)))
 (try (have hji3m : 0 ≤ ji3 := by omega))
 have hji3_ : (if 0 < t307 then t307 else 0) = ji3 := hji3
 by_cases c4 : 0 ≤ (ji3)
 ·rw [if_pos c4] at H
  have c4b0 := eq_true c4
  have c4b1 := decide_eq_true c4
  clear c4
  by_cases c5 : (ji3) ≤ (a0.size : Int)
  ·rw [if_pos c5] at H
   have c5b0 := eq_true c5
   have c5b1 := decide_eq_true c5
   clear c5
   obtain rfl := Option.some.inj H
   go_enter Tryd.func44, Tryd.ntmps44
   go_wp2_with (first | ((with_reducible refine gate_callee (f := 75) rfl ?_); refine goesL_ (some 5) rfl rfl Tryd.func75 (by kernel_rfl) rfl #[.string a0, .int .u8 47] rfl (by (try simp only [List.map_toArray, List.map_cons, List.map_nil]); first | done | rfl | (simp only [List.length_drop, List.length_take]; rfl)) ?_; (with_reducible refine (strings_LastIndexByte.calls k a0 47 t307 _ A2.out).mono ?_); rintro e w' ⟨rfl, ⟨nd, rfl⟩⟩; refine ⟨_, rfl, ?_⟩))
   go_ret
   exact ⟨by first | rfl | (simp [errW_none, errW_some] <;> rfl) | (simp only [← hji3]; first | rfl | (simp [errW_none, errW_some] <;> rfl)) | (simp [*, errW_none, errW_some] <;> rfl), by repeat (first | (with_reducible first | exact HB.out | apply below_alloc | apply pw_below_drewN | apply below_drew1) | exact HB.out)⟩
  ·rw [if_neg c5] at H
   exact absurd H (by simp)
 ·rw [if_neg c4] at H
  exact absurd H (by simp)
def copseref17_Lines.l0 : Nat → ByteArray → List ByteArray → Int → Int → Option (List ByteArray)
 | 0, _, _, _, _ => none
 | k + 1, x0, x3, x4, x5 => if x5 < (x0.size : Int) then (if 0 ≤ x5 then (if (bt x0 x5) = 10 then (if 0 ≤ x4 then (if x4 ≤ x5 then (if x5 ≤ (x0.size : Int) then (if x3.length < 8796093022208 then (copseref17_Lines.l0 k x0 (x3 ++ [x0.extract (x4 : Int).toNat (x5 : Int).toNat]) (wrap64 (x5 + 1)) (wrap64 (x5 + 1))) else (none)) else (none)) else (none)) else (none)) else (copseref17_Lines.l0 k x0 x3 x4 (wrap64 (x5 + 1)))) else (none)) else (if 0 ≤ x4 then (if x4 ≤ (x0.size : Int) then (if x3.length < 8796093022208 then (some (x3 ++ [x0.extract (x4 : Int).toNat x0.size])) else (none)) else (none)) else (none))
def copseref17_Lines.f (k : Nat) (a0 : ByteArray) : Option (List ByteArray) := copseref17_Lines.l0 k a0 ([] : List ByteArray) 0 0
set_option maxHeartbeats 8000000 in
set_option maxRecDepth 100000 in
theorem copseref17_Lines.calls (k : Nat) (a0 : ByteArray) (r : List ByteArray) (w : World) (h : copseref17_Lines.f k a0 = some r) :
  Calls Tryd.prog 40 #[.string a0] w fun e w' => ∃ v0_ : Value, e = .returned (v0_) ∧ Kd.R Kd.string 9 w' w.heap.size (fun _ => True) v0_ r ∧ Below w.heap.size w w' := by
 have HB := Aside0.mk (Below.refl w.heap.size w)
 have H : (copseref17_Lines.l0 k a0 ([] : List ByteArray) 0 0) = some r := h
 clear h
 have H' := Aside0.mk H
 clear H
 go_enter Tryd.func40, Tryd.ntmps40
 go_wp2
 go_loopg [3, 4, 5] k (fun kq v3 v4 v5 w' => ∃ (x3_1 : List ByteArray) (x4_1 : Int) (x5_1 : Int), v4 = .int .i64 x4_1 ∧ v5 = .int .i64 x5_1 ∧ Aside0 (copseref17_Lines.l0 kq a0 x3_1 x4_1 x5_1 = some r) ∧ Aside0 (kq ≤ k) ∧ Aside0 (Kd.R Kd.string 9 w' w.heap.size (fun _ => True) v3 x3_1) ∧ Aside0 (Below w.heap.size w w'))
 case atStart => exact ⟨(([] : List ByteArray)), (0), (0), (by first | rfl | (simp; done) | (simp [*]; done)), (by first | rfl | (simp; done) | (simp [*]; done)), H', ⟨Nat.le_refl _⟩, ⟨by first | exact Kd.R_nil _ _ _ _ _ | exact Kd.N_nil _ _ _ _ _ | exact Kd.V_nil _ _ _ _ _ | exact Kd.Q_nil _ _ _ _ _ | exact Kd.S_nil _ _ _ _ _⟩, ⟨by repeat (first | (with_reducible first | exact HB.out | apply below_alloc | apply pw_below_drewN | apply below_drew1) | exact HB.out)⟩⟩
 case round =>
  clear H'
  obtain ⟨x3_1, x4_1, x5_1, rfl, rfl, HA, HK1, HO_3, HB⟩ := hrel
  cases gk with
  | zero => exact absurd HA.out (by simp [copseref17_Lines.l0])
  | succ k1 =>
   have H := HA.out
   clear HA
   simp only [copseref17_Lines.l0] at H
   by_cases c2 : x5_1 < (a0.size : Int)
   ·rw [if_pos c2] at H
    have c2b0 := decide_eq_true c2
    clear c2
    by_cases c3 : 0 ≤ x5_1
    ·rw [if_pos c3] at H
     have c3b0 := decide_eq_true c3
     clear c3
     by_cases c5 : (bt a0 x5_1) = 10
     ·rw [if_pos c5] at H
      have c5b0 : ((bt a0 x5_1) == 10) = true := beq_iff_eq.mpr c5
      have c5b1 : ((bt a0 x5_1) != 10) = false := bne_eq_false_iff_eq.mpr c5
      clear c5
      by_cases c6 : 0 ≤ x4_1
      ·rw [if_pos c6] at H
       have c6b0 := eq_true c6
       have c6b1 := decide_eq_true c6
       clear c6
       by_cases c7 : x4_1 ≤ x5_1
       ·rw [if_pos c7] at H
        have c7b0 := eq_true c7
        have c7b1 := decide_eq_true c7
        clear c7
        by_cases c8 : x5_1 ≤ (a0.size : Int)
        ·rw [if_pos c8] at H
         have c8b0 := eq_true c8
         have c8b1 := decide_eq_true c8
         clear c8
         by_cases c9 : x3_1.length < 8796093022208
         ·rw [if_pos c9] at H
          have LMc9 := Aside0.mk c9
          clear c9
          obtain ⟨y209, hy209⟩ : ∃ y_ : List ByteArray, y_ = (x3_1 ++ [a0.extract (x4_1 : Int).toNat (x5_1 : Int).toNat]) := ⟨_, rfl⟩
          replace H : (copseref17_Lines.l0 k1 a0 y209 (wrap64 (x5_1 + 1)) (wrap64 (x5_1 + 1))) = some r := by first | (rw [hy209]; with_reducible exact H) | (have H2_ := (Option.bind_some _ _).symm.trans H; rw [hy209]; with_reducible exact H2_) | (have H2_ := (Option.bind_some _ _).symm.trans H; with_reducible exact H2_) | with_reducible exact H | (rw [hy209]; exact H) | exact H
          have Ny209 := Aside0.mk hy209
          clear hy209
          have H' := Aside0.mk H
          clear H
          have p4 : 0 ≤ (x5_1 : Int) := of_decide_eq_true (by first | (with_reducible assumption) | assumption)
          have q4 : x5_1 < (a0.size : Int) := of_decide_eq_true (by first | (with_reducible assumption) | assumption)
          have hx4 := bt_at a0 x5_1
          replace p4 := eq_true p4
          replace q4 := eq_true q4
          go_wp2_with (first | ((with_reducible refine gate_builtin (b := .append) (xs := #[.tmp 16, .tmp 21]) rfl ?_); at_builtin; refine Kd.R_append Kd.string (w0 := w) w.heap.size rfl (.tmp 16) (.tmp 21) 22 9 (.string ⟨#[]⟩) 16 rfl Tryd.underlying22 info9 rfl (by decide) (by omega) u3 x3_1 (a0.extract (x4_1 : Int).toNat (x5_1 : Int).toNat) [.string (a0.extract (x4_1 : Int).toNat (x5_1 : Int).toNat)] (fun _ => True) (fun _ => False) rfl rfl ?aP (fun _ hk => hk.elim) ?aF ?aO ?aB ?aS ?aL ?_; (case aP => exact rfl); (case aB => exact (by repeat (first | (with_reducible first | exact HB.out | apply below_alloc | apply pw_below_drewN | apply below_drew1) | exact HB.out))); (case aF => exact (fun _ _ => trivial)); (case aO => exact (by (with_reducible repeat (first | apply Kd.R_alloc | apply Kd.R_drewN | apply Kd.R_drew)); exact HO_3.out)); (case aS => exact (below_size (by repeat (first | (with_reducible first | exact HB.out | apply below_alloc | apply pw_below_drewN | apply below_drew1) | exact HB.out)))); (case aL => have := LMc9.out; omega); intro v210 w10 ho hb hg hat; rw [← Ny209.out] at ho; have n0_ := Aside0.mk (hb); have n1_ := Aside0.mk (ho); clear HB; clear HO_3; have HB := n0_; have HO211 := n1_; clear n0_ n1_; clear ho hb hg hat))
          go_roundg k1
          case measure => have := HK1.out; omega
          case rel => exact ⟨(y209), (wrap64 (x5_1 + 1)), (wrap64 (x5_1 + 1)), (by first | rfl | (simp; done) | (simp [*]; done)), (by first | rfl | (simp; done) | (simp [*]; done)), H', ⟨by have := HK1.out; omega⟩, ⟨by (with_reducible repeat (first | apply Kd.R_alloc | apply Kd.R_drewN | apply Kd.R_drew)); exact HO211.out⟩, ⟨by repeat (first | (with_reducible first | exact HB.out | apply below_alloc | apply pw_below_drewN | apply below_drew1) | exact HB.out)⟩⟩
         ·rw [if_neg c9] at H
          exact absurd H (by simp)
        ·rw [if_neg c8] at H
         exact absurd H (by simp)
       ·rw [if_neg c7] at H
        exact absurd H (by simp)
      ·rw [if_neg c6] at H
       exact absurd H (by simp)
     ·rw [if_neg c5] at H
      have c5b0 : ((bt a0 x5_1) == 10) = false := beq_eq_false_iff_ne.mpr c5
      have c5b1 : ((bt a0 x5_1) != 10) = true := bne_iff_ne.mpr c5
      have H' := Aside0.mk H
      clear H
      have p4 : 0 ≤ (x5_1 : Int) := of_decide_eq_true (by first | (with_reducible assumption) | assumption)
      have q4 : x5_1 < (a0.size : Int) := of_decide_eq_true (by first | (with_reducible assumption) | assumption)
      have hx4 := bt_at a0 x5_1
      replace p4 := eq_true p4
      replace q4 := eq_true q4
      go_wp2
      go_roundg k1
      case measure => have := HK1.out; omega
      case rel => exact ⟨(x3_1), (x4_1), (wrap64 (x5_1 + 1)), (by first | rfl | (simp; done) | (simp [*]; done)), (by first | rfl | (simp; done) | (simp [*]; done)), H', ⟨by have := HK1.out; omega⟩, ⟨by (with_reducible repeat (first | apply Kd.R_alloc | apply Kd.R_drewN | apply Kd.R_drew)); exact HO_3.out⟩, ⟨by repeat (first | (with_reducible first | exact HB.out | apply below_alloc | apply pw_below_drewN | apply below_drew1) | exact HB.out)⟩⟩
    ·rw [if_neg c3] at H
     exact absurd H (by simp)
   ·rw [if_neg c2] at H
    have c2b0 := decide_eq_false c2
    clear c2
    by_cases c11 : 0 ≤ x4_1
    ·rw [if_pos c11] at H
     have c11b0 := eq_true c11
     have c11b1 := decide_eq_true c11
     clear c11
     by_cases c12 : x4_1 ≤ (a0.size : Int)
     ·rw [if_pos c12] at H
      have c12b0 := eq_true c12
      have c12b1 := decide_eq_true c12
      clear c12
      by_cases c13 : x3_1.length < 8796093022208
      ·rw [if_pos c13] at H
       have LMc13 := Aside0.mk c13
       clear c13
       obtain ⟨y212, hy212⟩ : ∃ y_ : List ByteArray, y_ = (x3_1 ++ [a0.extract (x4_1 : Int).toNat a0.size]) := ⟨_, rfl⟩
       replace H : (some y212) = some r := by first | (rw [hy212]; with_reducible exact H) | (have H2_ := (Option.bind_some _ _).symm.trans H; rw [hy212]; with_reducible exact H2_) | (have H2_ := (Option.bind_some _ _).symm.trans H; with_reducible exact H2_) | with_reducible exact H | (rw [hy212]; exact H) | exact H
       have Ny212 := Aside0.mk hy212
       clear hy212
       obtain rfl := Option.some.inj H
       go_wp2_with (first | ((with_reducible refine gate_builtin (b := .append) (xs := #[.tmp 25, .tmp 29]) rfl ?_); at_builtin; refine Kd.R_append Kd.string (w0 := w) w.heap.size rfl (.tmp 25) (.tmp 29) 22 9 (.string ⟨#[]⟩) 16 rfl Tryd.underlying22 info9 rfl (by decide) (by omega) u3 x3_1 (a0.extract (x4_1 : Int).toNat a0.size) [.string (a0.extract (x4_1 : Int).toNat a0.size)] (fun _ => True) (fun _ => False) rfl rfl ?aP (fun _ hk => hk.elim) ?aF ?aO ?aB ?aS ?aL ?_; (case aP => exact rfl); (case aB => exact (by repeat (first | (with_reducible first | exact HB.out | apply below_alloc | apply pw_below_drewN | apply below_drew1) | exact HB.out))); (case aF => exact (fun _ _ => trivial)); (case aO => exact (by (with_reducible repeat (first | apply Kd.R_alloc | apply Kd.R_drewN | apply Kd.R_drew)); exact HO_3.out)); (case aS => exact (below_size (by repeat (first | (with_reducible first | exact HB.out | apply below_alloc | apply pw_below_drewN | apply below_drew1) | exact HB.out)))); (case aL => have := LMc13.out; omega); intro v213 w14 ho hb hg hat; rw [← Ny212.out] at ho; have n0_ := Aside0.mk (hb); have n1_ := Aside0.mk (ho); clear HB; clear HO_3; have HB := n0_; have HO214 := n1_; clear n0_ n1_; clear ho hb hg hat))
       go_ret
       exact ⟨_, by first | rfl | (simp [errW_none, errW_some] <;> rfl) | (simp [*, errW_none, errW_some] <;> rfl), by (with_reducible repeat (first | apply Kd.R_alloc | apply Kd.R_drewN | apply Kd.R_drew)); exact HO214.out, by repeat (first | (with_reducible first | exact HB.out | apply below_alloc | apply pw_below_drewN | apply below_drew1) | exact HB.out)⟩
      ·rw [if_neg c13] at H
       exact absurd H (by simp)
     ·rw [if_neg c12] at H
      exact absurd H (by simp)
    ·rw [if_neg c11] at H
     exact absurd H (by simp)
def copselaw17_same.l0 : Nat → List ByteArray → List ByteArray → Int → Option (Bool)
 | 0, _, _, _ => none
 | k + 1, x0, x1, x5 => if x5 < (x0.length : Int) then (if 0 ≤ x5 then (if x5 < (x1.length : Int) then (if (rdOf ByteArray.empty x0 x5).toList = (rdOf ByteArray.empty x1 x5).toList then (copselaw17_same.l0 k x0 x1 (wrap64 (x5 + 1))) else (some false)) else (none)) else (none)) else (some true)
def copselaw17_same.f (k : Nat) (l0 : List ByteArray) (l1 : List ByteArray) : Option (Bool) := if (l0.length : Int) = (l1.length : Int) then (copselaw17_same.l0 k l0 l1 0) else (some false)
theorem copselaw17_same.mono_l : ∀ k, (∀ y0 y1 y2, LeO (copselaw17_same.l0 k y0 y1 y2) (copselaw17_same.l0 (k + 1) y0 y1 y2))
 | 0 => fun _ _ _ r h => by simp [copselaw17_same.l0] at h
 | k + 1 => by
  have ih0 := copselaw17_same.mono_l k
  ·intro y0 y1 y2
   unfold copselaw17_same.l0
   repeat' first
   | (with_reducible exact ih0 _ _ _)
   | (with_reducible exact LeO.refl _)
   | (with_reducible exact LeO.none _)
   | (with_reducible refine LeO.ite ?_ ?_)
   | (with_reducible refine LeO.bind ?_ (fun _ => ?_))
   | exact ih0 _ _ _
   | exact LeO.none _
   | refine LeO.ite ?_ ?_
   | refine LeO.bind ?_ (fun _ => ?_)
theorem copselaw17_same.mono : ∀ a0 a1 k, LeO (copselaw17_same.f k a0 a1) (copselaw17_same.f (k + 1) a0 a1) := by
 intro a0 a1 k
 have ih0 := copselaw17_same.mono_l k
 unfold copselaw17_same.f
 repeat' first
   | (with_reducible exact ih0 _ _ _)
   | (with_reducible exact LeO.refl _)
   | (with_reducible exact LeO.none _)
   | (with_reducible refine LeO.ite ?_ ?_)
   | (with_reducible refine LeO.bind ?_ (fun _ => ?_))
   | exact ih0 _ _ _
   | exact LeO.none _
   | refine LeO.ite ?_ ?_
   | refine LeO.bind ?_ (fun _ => ?_)
set_option maxHeartbeats 8000000 in
set_option maxRecDepth 100000 in
theorem copselaw17_same.calls (k : Nat) (A0 : Option Addr) (c0 : Nat) (l0 : List ByteArray) (A1 : Option Addr) (c1 : Nat) (l1 : List ByteArray) (r : Bool) (w : World) (hr0 : Kd.C Kd.string w A0 l0.length l0) (hc0 : l0.length ≤ c0) (hr1 : Kd.C Kd.string w A1 l1.length l1) (hc1 : l1.length ≤ c1) (h : copselaw17_same.f k l0 l1 = some r) :
  Calls Tryd.prog 14 #[.slice A0 l0.length c0, .slice A1 l1.length c1] w fun e w' => e = .returned (.bool r) ∧ Drawn0 w w' := by
 have HR0 := Aside0.mk hr0
 have HC0 := Aside0.mk hc0
 clear hr0 hc0
 have HR1 := Aside0.mk hr1
 have HC1 := Aside0.mk hc1
 clear hr1 hc1
 have H : (if (l0.length : Int) = (l1.length : Int) then (copselaw17_same.l0 k l0 l1 0) else (some false)) = some r := h
 clear h
 by_cases c3 : (l0.length : Int) = (l1.length : Int)
 ·rw [if_pos c3] at H
  have c3b0 : ((l0.length : Int) == (l1.length : Int)) = true := beq_iff_eq.mpr c3
  have c3b1 : ((l0.length : Int) != (l1.length : Int)) = false := bne_eq_false_iff_eq.mpr c3
  have c3b2 : (l0.length == l1.length) = true := by first | simpa using c3 | (simp at c3 ⊢; omega)
  clear c3
  have H' := Aside0.mk H
  clear H
  go_enter Tryd.func14, Tryd.ntmps14
  go_wp2
  repeat (go_quiet (fail); try go_wp2)
  go_loopg [5] k (fun kq v5 w' => ∃ (x5_1 : Int), v5 = .int .i64 x5_1 ∧ Aside0 (copselaw17_same.l0 kq l0 l1 x5_1 = some r) ∧ Aside0 (kq ≤ k) ∧ Drawn0 w w')
  case atStart => exact ⟨(0), (by first | rfl | (simp; done) | (simp [*]; done)), H', ⟨Nat.le_refl _⟩, by repeat (first | exact Drawn0.refl _ | apply Drawn0.step)⟩
  case round =>
   clear H'
   try clear c1
   try clear p2
   try clear c3
   try clear c3b0
   try clear c3b1
   try clear c3b2
   obtain ⟨x5_1, rfl, HA, HK1, ⟨m1, rfl⟩⟩ := hrel
   cases gk with
   | zero => exact absurd HA.out (by simp [copselaw17_same.l0])
   | succ k1 =>
    have H := HA.out
    clear HA
    simp only [copselaw17_same.l0] at H
    by_cases c4 : x5_1 < (l0.length : Int)
    ·rw [if_pos c4] at H
     have c4b0 := decide_eq_true c4
     clear c4
     by_cases c5 : 0 ≤ x5_1
     ·rw [if_pos c5] at H
      have c5b0 := decide_eq_true c5
      clear c5
      by_cases c6 : x5_1 < (l1.length : Int)
      ·rw [if_pos c6] at H
       have c6b0 := decide_eq_true c6
       clear c6
       by_cases c7 : (rdOf ByteArray.empty l0 x5_1).toList = (rdOf ByteArray.empty l1 x5_1).toList
       ·rw [if_pos c7] at H
        have c7b0 : ((rdOf ByteArray.empty l0 x5_1).toList == (rdOf ByteArray.empty l1 x5_1).toList) = true := beq_iff_eq.mpr c7
        have c7b1 : ((rdOf ByteArray.empty l0 x5_1).toList != (rdOf ByteArray.empty l1 x5_1).toList) = false := bne_eq_false_iff_eq.mpr c7
        clear c7
        have H' := Aside0.mk H
        clear H
        have p228 : 0 ≤ (x5_1 : Int) := of_decide_eq_true (by first | (with_reducible assumption) | assumption)
        have q228 : x5_1 < (l0.length : Int) := of_decide_eq_true (by first | (with_reducible assumption) | assumption)
        obtain ⟨ad228, e228, hx228_0⟩ := Kd.at_string HR0.out x5_1 p228 q228
        cases e228
        replace p228 := eq_true p228
        replace q228 := eq_true q228
        have p229 : 0 ≤ (x5_1 : Int) := of_decide_eq_true (by first | (with_reducible assumption) | assumption)
        have q229 : x5_1 < (l1.length : Int) := of_decide_eq_true (by first | (with_reducible assumption) | assumption)
        obtain ⟨ad229, e229, hx229_0⟩ := Kd.at_string HR1.out x5_1 p229 q229
        cases e229
        replace p229 := eq_true p229
        replace q229 := eq_true q229
        go_wp2
        repeat (go_quiet (fail); try go_wp2)
        go_roundg k1
        case measure => have := HK1.out; omega
        case rel => exact ⟨(wrap64 (x5_1 + 1)), (by first | rfl | (simp; done) | (simp [*]; done)), H', ⟨by have := HK1.out; omega⟩, by repeat (first | exact Drawn0.refl _ | apply Drawn0.step)⟩
       ·rw [if_neg c7] at H
        have c7b0 : ((rdOf ByteArray.empty l0 x5_1).toList == (rdOf ByteArray.empty l1 x5_1).toList) = false := beq_eq_false_iff_ne.mpr c7
        have c7b1 : ((rdOf ByteArray.empty l0 x5_1).toList != (rdOf ByteArray.empty l1 x5_1).toList) = true := bne_iff_ne.mpr c7
        obtain rfl := Option.some.inj H
        have p228 : 0 ≤ (x5_1 : Int) := of_decide_eq_true (by first | (with_reducible assumption) | assumption)
        have q228 : x5_1 < (l0.length : Int) := of_decide_eq_true (by first | (with_reducible assumption) | assumption)
        obtain ⟨ad228, e228, hx228_0⟩ := Kd.at_string HR0.out x5_1 p228 q228
        cases e228
        replace p228 := eq_true p228
        replace q228 := eq_true q228
        have p229 : 0 ≤ (x5_1 : Int) := of_decide_eq_true (by first | (with_reducible assumption) | assumption)
        have q229 : x5_1 < (l1.length : Int) := of_decide_eq_true (by first | (with_reducible assumption) | assumption)
        obtain ⟨ad229, e229, hx229_0⟩ := Kd.at_string HR1.out x5_1 p229 q229
        cases e229
        replace p229 := eq_true p229
        replace q229 := eq_true q229
        go_wp2
        repeat (go_quiet (fail); try go_wp2)
        go_ret
        exact ⟨by first | rfl | (simp; done) | (simp [*]; done), by repeat (first | exact Drawn0.refl _ | apply Drawn0.step)⟩
      ·rw [if_neg c6] at H
       exact absurd H (by simp)
     ·rw [if_neg c5] at H
      exact absurd H (by simp)
    ·rw [if_neg c4] at H
     have c4b0 := decide_eq_false c4
     clear c4
     obtain rfl := Option.some.inj H
     go_wp2
     repeat (go_quiet (fail); try go_wp2)
     go_ret
     exact ⟨by first | rfl | (simp; done) | (simp [*]; done), by repeat (first | exact Drawn0.refl _ | apply Drawn0.step)⟩
 ·rw [if_neg c3] at H
  have c3b0 : ((l0.length : Int) == (l1.length : Int)) = false := beq_eq_false_iff_ne.mpr c3
  have c3b1 : ((l0.length : Int) != (l1.length : Int)) = true := bne_iff_ne.mpr c3
  have c3b2 : (l0.length == l1.length) = false := by first | simpa using c3 | (simp at c3 ⊢; omega)
  obtain rfl := Option.some.inj H
  go_enter Tryd.func14, Tryd.ntmps14
  go_wp2
  repeat (go_quiet (fail); try go_wp2)
  go_ret
  exact ⟨by first | rfl | (simp; done) | (simp [*]; done), by repeat (first | exact Drawn0.refl _ | apply Drawn0.step)⟩
end Go.Proofs.YtehfogjibhnabaaDoor.PAll
namespace Go.Proofs.YtehfogjibhnabaaDoor.PAll
open Go.RowKit Go.Shelf Go.Proofs.YtehfogjibhnabaaDoorW.PrintWords Go.Proofs.YtehfogjibhnabaaDoorW.PrintLast Go.Proofs.YtehfogjibhnabaaDoorW.PrintMore
open Go.Proofs.YtehfogjibhnabaaDoor.Sp
def KpD (n₀ Bl : Nat) (W W' : World) : Prop := Below n₀ W W' ∧ (Bl < W.heap.size → W'.heap[Bl]? = W.heap[Bl]?)
theorem KpD.t {n₀ Bl : Nat} {A B C : World} (h : KpD n₀ Bl A B) (k : KpD n₀ Bl B C) : KpD n₀ Bl A C := ⟨h.1.trans k.1, fun hl => (k.2 (Nat.lt_of_lt_of_le hl h.1.size)).trans (h.2 hl)⟩
theorem KpD.b {n₀ Bl : Nat} {w : World} (hn : n₀ ≤ w.heap.size) (hB : Bl < w.heap.size) (W : World) (l : Nat) (o o' : Obj) (hl : w.heap.size ≤ l) (h : W.heap[l]? = some o) (h1 : o.isCells = false) (h2 : o.isWalk = false) : KpD n₀ Bl W (W.putObj l o') :=
 ⟨belowK_b hn W l o o' hl h h1 h2, fun _ => (grownBy_putObj' W l o').block Bl (by have := (Array.getElem?_eq_some_iff.1 h).1; omega) (by intro e; cases e; omega)⟩
attribute [local go_sem] Oper.semAt_some
theorem info_str : (Tryd.prog.info? 9).map (fun i => (i.zero, i.size, i.bytes)) = some (some (.string ByteArray.empty), 1, 16) := by kernel_rfl
end Go.Proofs.YtehfogjibhnabaaDoor.PAll
namespace Go.Proofs.YtehfogjibhnabaaDoor.PAll
open Go.RowKit Go.Proofs.YtehfogjibhnabaaDoorW.PrintWords Go.Proofs.YtehfogjibhnabaaDoorW.PrintLast Go.Proofs.YtehfogjibhnabaaDoorW.PrintMore
open Go.Proofs.YtehfogjibhnabaaDoor.Sp
theorem Ev.val {α : Type} {g : Nat → Option α} {r r' : α} (h : Ev g r) (e : r = r') : Ev g r' := e ▸ h
theorem ev_some {α : Type} (r : α) : Ev (fun _ => some r) r := Ev.now r
theorem ev_pure {α : Type} {g : Nat → Option α} {r : α} (h : ∀ k, g k = some r) : Ev g r := ⟨0, fun k _ => h k⟩
theorem wrap_add {x : Int} (h0 : -9223372036854775808 ≤ x) (h1 : x ≤ 9223372036854775807) : wrap64 x = x := by unfold wrap64; omega
theorem bt_get (a : ByteArray) (i : Nat) (h : i < a.size) : bt a (i : Int) = (((bs a)[i]'(by rw [bs_size]; exact h)).toNat : Int) := by
 unfold bt
 rw [dif_pos (by simpa using h)]
 rfl
theorem bt_eq (a : ByteArray) (i : Nat) (h : i < a.size) (c : UInt8) (n : Int) (hn : n = (c.toNat : Int)) : bt a (i : Int) = n ↔ (bs a)[i]'(by rw [bs_size]; exact h) = c := by
 rw [bt_get a i h, hn]
 constructor
 ·intro e; exact UInt8.toNat_inj.1 (by omega)
 ·intro e; rw [e]
theorem bs_drop (a : ByteArray) (i : Nat) (h : i < a.size) : (bs a).drop i = (bs a)[i]'(by rw [bs_size]; exact h) :: (bs a).drop (i + 1) := List.drop_eq_getElem_cons (by rw [bs_size]; exact h)
theorem extract_mk (a : ByteArray) (i j : Nat) : a.extract i j = mk (((bs a).take j).drop i) := by
 apply bs_inj
 rw [bs_mk]
 show (a.extract i j).data.toList = _
 rw [Lib.extract_data, List.drop_take]
 rfl
def splC (cur rest : Str) : List Str := match spl rest with
 | h :: t => (cur ++ h) :: t
 | [] => [cur]
theorem splC_nil (cur : Str) : splC cur [] = [cur] := by simp [splC, spl]
theorem splC_slash (cur r : Str) : splC cur (47 :: r) = cur :: splC [] r := by
 simp only [splC, spl, if_true, List.append_nil]
 congr 1
 cases h : spl r with
 | nil => exact absurd h (spl_ne r)
 | cons x t => simp
theorem splC_other (cur r : Str) {c : UInt8} (hc : c ≠ 47) : splC cur (c :: r) = splC (cur ++ [c]) r := by
 simp only [splC, spl, if_neg hc]
 cases h : spl r with
 | nil => exact absurd h (spl_ne r)
 | cons x t => simp
theorem splC_whole (s : Str) : splC [] s = spl s := by
 unfold splC
 cases h : spl s with
 | nil => exact absurd h (spl_ne s)
 | cons x t => simp
theorem ref_split_run (a : ByteArray) (ha : a.size ≤ 4294967296) (d : Nat) : ∀ (i fr : Nat) (acc : List ByteArray), a.size - i = d → i ≤ a.size → fr ≤ i → acc.length + a.size - i ≤ 4294967297 →
  Ev (fun k => copseref02_Split.l0 k a acc (fr : Int) (i : Int)) (acc ++ (splC (((bs a).take i).drop fr) ((bs a).drop i)).map mk) := by
 induction d with
 | zero =>
  intro i fr acc hd hi hf hl
  have e : i = a.size := by omega
  refine ⟨2, fun k hk => ?_⟩
  obtain ⟨k, rfl⟩ : ∃ m, k = m + 2 := ⟨k - 2, by omega⟩
  simp only [copseref02_Split.l0]
  rw [if_pos (by omega), if_pos (by omega), if_pos (by omega), if_pos (by omega), if_pos (by omega), wrap_succ (n := 4294967299) (by omega) (by omega), if_neg (by omega), Int.toNat_natCast, Int.toNat_natCast, extract_mk, List.drop_of_length_le (l := bs a) (i := i) (by rw [bs_size]; omega), splC_nil]
  rfl
 | succ d ih =>
  intro i fr acc hd hi hf hl
  have hlt : i < a.size := by omega
  rw [bs_drop a i hlt]
  by_cases h : bt a (i : Int) = 47
  ·have h' := (bt_eq a i hlt 47 47 rfl).1 h
   obtain ⟨K, hK⟩ := ih (i + 1) (i + 1) (acc ++ [mk (((bs a).take i).drop fr)]) (by omega) (by omega) (by omega) (by simp; omega)
   dsimp only at hK
   refine ⟨K + 1, fun k hk => ?_⟩
   obtain ⟨k, rfl⟩ : ∃ m, k = m + 1 := ⟨k - 1, by omega⟩
   simp only [copseref02_Split.l0]
   rw [if_pos (by omega), if_neg (by omega), if_pos (by omega), if_pos (by omega), if_pos h, if_pos (by omega), if_pos (by omega), if_pos (by omega), wrap_succ (n := a.size) (by omega) (by omega), Int.toNat_natCast, Int.toNat_natCast, extract_mk, hK k (by omega), h', splC_slash]
   rw [List.drop_of_length_le (l := (bs a).take (i + 1)) (by rw [List.length_take]; omega)]
   simp
  ·have h' : (bs a)[i]'(by rw [bs_size]; exact hlt) ≠ 47 := fun e => h ((bt_eq a i hlt 47 47 rfl).2 e)
   obtain ⟨K, hK⟩ := ih (i + 1) fr acc (by omega) (by omega) (by omega) (by omega)
   dsimp only at hK
   refine ⟨K + 1, fun k hk => ?_⟩
   obtain ⟨k, rfl⟩ : ∃ m, k = m + 1 := ⟨k - 1, by omega⟩
   simp only [copseref02_Split.l0]
   rw [if_pos (by omega), if_neg (by omega), if_pos (by omega), if_pos (by omega), if_neg h, wrap_succ (n := a.size) (by omega) (by omega), hK k (by omega), splC_other _ _ h']
   have hlen : i < (bs a).length := by rw [bs_size]; exact hlt
   rw [List.take_succ_eq_append_getElem hlen, List.drop_append_of_le_length (by rw [List.length_take]; omega)]
theorem ref_split (a : ByteArray) (ha : a.size ≤ 4294967296) : Ev (fun k => copseref02_Split.f k a) (pB a) := by
 by_cases h : bs a = []
 ·rw [pB_nil h]
  refine ev_pure fun k => ?_
  unfold copseref02_Split.f
  rw [if_pos (by rw [toList_bs]; exact h)]
 ·have := ref_split_run a ha a.size 0 0 [] (by omega) (by omega) (by omega) (by simp only [List.length_nil]; omega)
  refine Ev.congr (fun k => ?_) (Ev.val this ?_)
  ·unfold copseref02_Split.f
   rw [if_neg (by rw [toList_bs]; exact h)]; rfl
  ·simp only [List.take_zero, List.drop_zero, List.drop_nil, List.nil_append, splC_whole]
   unfold pB; rw [pcs_of h]
theorem prog_split (a : ByteArray) (ha : a.size < 4294967281) : Ev (fun k => path_Split.f k a) (pB a) := ev_pure fun k => by unfold path_Split.f; rw [if_pos ha]
end Go.Proofs.YtehfogjibhnabaaDoor.PAll
namespace Go.Proofs.YtehfogjibhnabaaDoor.PAll
open Go.RowKit Go.Proofs.YtehfogjibhnabaaDoorW.PrintWords Go.Proofs.YtehfogjibhnabaaDoorW.PrintLast Go.Proofs.YtehfogjibhnabaaDoorW.PrintMore
open Go.Proofs.YtehfogjibhnabaaDoor.Sp
theorem cmpS_cons_same (c : UInt8) (x y : Str) : cmpS (c :: x) (c :: y) = cmpS x y := by simp [cmpS, Op.bytesLess]
theorem cmpS_cons_lt {c d : UInt8} (h : c.toNat < d.toNat) (x y : Str) : cmpS (c :: x) (d :: y) = -1 := by
 have : c < d := by rw [UInt8.lt_iff_toNat_lt]; exact h
 simp [cmpS, Op.bytesLess, this]
theorem cmpS_cons_gt {c d : UInt8} (h : d.toNat < c.toNat) (x y : Str) : cmpS (c :: x) (d :: y) = 1 := by
 have h1 : d < c := by rw [UInt8.lt_iff_toNat_lt]; exact h
 have h2 : ¬ c < d := by rw [UInt8.lt_iff_toNat_lt]; omega
 have h3 : ¬ c = d := by rintro rfl; omega
 simp [cmpS, Op.bytesLess, h1, h2, h3]
theorem cmpS_nil_cons (c : UInt8) (x : Str) : cmpS [] (c :: x) = -1 := by simp [cmpS, Op.bytesLess]
theorem cmpS_cons_nil (c : UInt8) (x : Str) : cmpS (c :: x) [] = 1 := by simp [cmpS, Op.bytesLess]
theorem cmpS_nil : cmpS [] [] = 0 := by simp [cmpS, Op.bytesLess]
theorem ref_bytes_run (a b : ByteArray) (ha : a.size ≤ 4294967296) (d : Nat) : ∀ i, a.size - i = d → i ≤ a.size → i ≤ b.size → Ev (fun k => copseref02_bytes.l0 k a b (i : Int)) (cmpS ((bs a).drop i) ((bs b).drop i)) := by
 induction d with
 | zero =>
  intro i hd hi hb
  refine ⟨2, fun k hk => ?_⟩
  obtain ⟨k, rfl⟩ : ∃ m, k = m + 2 := ⟨k - 2, by omega⟩
  simp only [copseref02_bytes.l0, copseref02_bytes.j1]
  rw [if_neg (by omega), if_neg (by decide), List.drop_of_length_le (l := bs a) (by rw [bs_size]; omega)]
  by_cases h : i = b.size
  ·rw [if_neg (by omega), if_neg (by omega), List.drop_of_length_le (l := bs b) (by rw [bs_size]; omega), cmpS_nil]
  ·rw [if_pos (by omega), bs_drop b i (by omega), cmpS_nil_cons]
 | succ d ih =>
  intro i hd hi hb
  rw [bs_drop a i (by omega)]
  by_cases h : i = b.size
  ·refine ⟨2, fun k hk => ?_⟩
   obtain ⟨k, rfl⟩ : ∃ m, k = m + 2 := ⟨k - 2, by omega⟩
   simp only [copseref02_bytes.l0, copseref02_bytes.j1]
   rw [if_pos (by omega), if_neg (by rw [decide_eq_true_eq]; omega), if_neg (by omega), if_pos (by omega), List.drop_of_length_le (l := bs b) (by rw [bs_size]; omega), cmpS_cons_nil]
  ·have hA := bt_get a i (by omega)
   have hB := bt_get b i (by omega)
   rw [bs_drop b i (by omega)]
   obtain ⟨K, hK⟩ := ih (i + 1) (by omega) (by omega) (by omega)
   dsimp only at hK
   refine ⟨K + 2, fun k hk => ?_⟩
   obtain ⟨k, rfl⟩ : ∃ m, k = m + 2 := ⟨k - 2, by omega⟩
   simp only [copseref02_bytes.l0, copseref02_bytes.j1]
   rw [if_pos (by omega), if_pos (by rw [decide_eq_true_eq]; omega), if_pos (by omega), if_pos (by omega), if_pos (by omega), hA, hB]
   by_cases h1 : ((bs a)[i]'(by rw [bs_size]; omega)).toNat < ((bs b)[i]'(by rw [bs_size]; omega)).toNat
   ·rw [if_pos (by omega), cmpS_cons_lt h1]
   ·rw [if_neg (by omega)]
    by_cases h2 : ((bs b)[i]'(by rw [bs_size]; omega)).toNat < ((bs a)[i]'(by rw [bs_size]; omega)).toNat
    ·rw [if_pos (by omega), cmpS_cons_gt h2]
    ·rw [if_neg (by omega), wrap_succ (n := a.size) (by omega) (by omega), hK k (by omega)]
     have e : (bs a)[i]'(by rw [bs_size]; omega) = (bs b)[i]'(by rw [bs_size]; omega) := UInt8.toNat_inj.1 (by omega)
     rw [e, cmpS_cons_same]
theorem ref_bytes (a b : ByteArray) (ha : a.size ≤ 4294967296) : Ev (fun k => copseref02_bytes.f k a b) (cmpS (bs a) (bs b)) :=
 ref_bytes_run a b ha a.size 0 (by omega) (by omega) (by omega)
theorem ref_cmp_run (x y : List ByteArray) (hx : x.length ≤ 4294967296) (hs : ∀ p ∈ x, p.size ≤ 4294967296) (d : Nat) : ∀ i, x.length - i = d → i ≤ x.length → i ≤ y.length → Ev (fun k => copseref02_Cmp.l0 k x y (i : Int)) (cmpL ((x.drop i).map bs) ((y.drop i).map bs)) := by
 induction d with
 | zero =>
  intro i hd hi hb
  refine ⟨2, fun k hk => ?_⟩
  obtain ⟨k, rfl⟩ : ∃ m, k = m + 2 := ⟨k - 2, by omega⟩
  simp only [copseref02_Cmp.l0, copseref02_Cmp.j1]
  rw [if_neg (by omega), if_neg (by decide), List.drop_of_length_le (l := x) (by omega)]
  by_cases h : i = y.length
  ·rw [if_neg (by omega), if_neg (by omega), List.drop_of_length_le (l := y) (by omega)]; rfl
  ·rw [if_pos (by omega), rdOf_drop y i (by omega)]; rfl
 | succ d ih =>
  intro i hd hi hb
  rw [rdOf_drop x i (by omega)]
  by_cases h : i = y.length
  ·refine ⟨2, fun k hk => ?_⟩
   obtain ⟨k, rfl⟩ : ∃ m, k = m + 2 := ⟨k - 2, by omega⟩
   simp only [copseref02_Cmp.l0, copseref02_Cmp.j1]
   rw [if_pos (by omega), if_neg (by rw [decide_eq_true_eq]; omega), if_neg (by omega), if_pos (by omega), List.drop_of_length_le (l := y) (by omega)]; rfl
  ·rw [rdOf_drop y i (by omega)]
   have hmem : rdOf ByteArray.empty x (i : Int) ∈ x := List.mem_of_mem_drop (i := i) (by rw [rdOf_drop x i (by omega)]; exact List.mem_cons_self)
   obtain ⟨K, hK⟩ := ih (i + 1) (by omega) (by omega) (by omega)
   dsimp only at hK
   obtain ⟨K2, hK2⟩ := ref_bytes (rdOf ByteArray.empty x (i : Int)) (rdOf ByteArray.empty y (i : Int)) (hs _ hmem)
   dsimp only at hK2
   refine ⟨max K K2 + 2, fun k hk => ?_⟩
   obtain ⟨k, rfl⟩ : ∃ m, k = m + 2 := ⟨k - 2, by omega⟩
   simp only [copseref02_Cmp.l0, copseref02_Cmp.j1]
   rw [if_pos (by omega), if_pos (by rw [decide_eq_true_eq]; omega), if_pos (by omega), if_pos (by omega), if_pos (by omega), hK2 k (by omega), Option.bind_some]
   simp only [List.map_cons, cmpL]
   by_cases e : rdOf ByteArray.empty x (i : Int) = rdOf ByteArray.empty y (i : Int)
   ·rw [if_pos (by rw [e, cmpS_self]), if_pos (by rw [e]), wrap_succ (n := x.length) (by omega) (by omega), hK k (by omega)]
   ·have e' : ¬ bs (rdOf ByteArray.empty x (i : Int)) = bs (rdOf ByteArray.empty y (i : Int)) := fun h => e (bs_inj h)
    rw [if_neg (fun h => e' (cmpS_eq h)), if_neg e']
theorem spl_piece_le (s : Str) : ∀ cur, ∀ p ∈ splC cur s, p.length ≤ cur.length + s.length := by
 induction s with
 | nil => intro cur p hp; rw [splC_nil] at hp; rw [List.mem_singleton.1 hp]; simp
 | cons c r ih =>
  intro cur p hp
  by_cases h : c = 47
  ·subst h
   rw [splC_slash] at hp
   rcases List.mem_cons.1 hp with rfl | hp
   ·simp
   ·have := ih [] p hp; simp only [List.length_nil, List.length_cons] at this ⊢; omega
  ·rw [splC_other cur r h] at hp
   have := ih _ p hp
   simp only [List.length_append, List.length_cons, List.length_nil] at this ⊢; omega
theorem pB_piece_le (a : ByteArray) : ∀ p ∈ pB a, p.size ≤ a.size := by
 intro p hp
 unfold pB at hp
 obtain ⟨q, hq, rfl⟩ := List.mem_map.1 hp
 have : (mk q).size = q.length := by rw [← bs_size, bs_mk]
 rw [this]
 unfold pcs at hq
 split at hq
 ·cases hq
 ·rw [← splC_whole] at hq
  have := spl_piece_le (bs a) [] q hq
  rw [bs_size] at this; simpa using this
theorem ref_cmp (a b : ByteArray) (ha : a.size ≤ 4294967295) (hb : b.size ≤ 4294967295) : Ev (fun k => copseref02_Cmp.f k a b) (cB a b) := by
 have hla := pB_length_le a
 refine Ev.bind (ref_split a (by omega)) (Ev.bind (ref_split b (by omega)) ?_)
 have := ref_cmp_run (pB a) (pB b) (by omega) (fun p hp => by have := pB_piece_le a p hp; omega) (pB a).length 0 (by omega) (by omega) (by omega)
 refine Ev.val this ?_
 rw [List.drop_zero, List.drop_zero, pB_bs, pB_bs]; rfl
theorem prog_common (x y : List ByteArray) (hx : x.length ≤ 4294967296) : Ev (fun k => path_common.f k x y) (comL x y : Int) := Ev.of (path_common.mono x y) (common_ends x y (by omega))
theorem prog_cmp (a b : ByteArray) (ha : a.size < 4294967281) (hb : b.size < 4294967281) : Ev (fun k => path_Cmp.f k a b) (cB a b) := by
 have hla := pB_length_le a
 refine Ev.bind (prog_split a ha) (Ev.bind (prog_split b hb) (Ev.bind (prog_common (pB a) (pB b) (by omega)) ?_))
 refine ⟨1, fun k hk => ?_⟩
 obtain ⟨k, rfl⟩ : ∃ m, k = m + 1 := ⟨k - 1, by omega⟩
 rw [cB_com]
 obtain ⟨hc1, hc2⟩ := comL_le (pB a) (pB b)
 simp only [path_Cmp.j0]
 by_cases h1 : comL (pB a) (pB b) < (pB a).length
 ·rw [if_pos (by omega)]
  by_cases h2 : comL (pB a) (pB b) < (pB b).length
  ·rw [if_pos (by rw [decide_eq_true_eq]; omega), if_pos (by omega), if_pos (by omega), if_pos (by omega), compare_string_is, if_pos ⟨h1, h2⟩]; rfl
  ·rw [if_neg (by rw [decide_eq_true_eq]; omega), compare_int_is, if_neg (show ¬ (comL (pB a) (pB b) < (pB a).length ∧ comL (pB a) (pB b) < (pB b).length) from fun h => h2 h.2)]; rfl
 ·rw [if_neg (by omega), if_neg (by decide), compare_int_is, if_neg (show ¬ (comL (pB a) (pB b) < (pB a).length ∧ comL (pB a) (pB b) < (pB b).length) from fun h => h1 h.1)]; rfl
def aboveB (a b : ByteArray) : Bool := decide ((pB a).length < (pB b).length) && decide (comL (pB a) (pB b) = (pB a).length)
theorem ref_shared_run (x y : List ByteArray) (hx : x.length ≤ 4294967296) (d : Nat) : ∀ i, x.length - i = d → i ≤ x.length → i ≤ y.length → Ev (fun k => copseref02_shared.l0 k x y (i : Int)) ((i + comL (x.drop i) (y.drop i) : Nat) : Int) := by
 induction d with
 | zero =>
  intro i hd hi hb
  refine ⟨1, fun k hk => ?_⟩
  obtain ⟨k, rfl⟩ : ∃ m, k = m + 1 := ⟨k - 1, by omega⟩
  simp only [copseref02_shared.l0]
  rw [if_neg (by omega), List.drop_of_length_le (l := x) (by omega)]; simp [comL]
 | succ d ih =>
  intro i hd hi hb
  rw [rdOf_drop x i (by omega)]
  by_cases h : i = y.length
  ·refine ⟨1, fun k hk => ?_⟩
   obtain ⟨k, rfl⟩ : ∃ m, k = m + 1 := ⟨k - 1, by omega⟩
   simp only [copseref02_shared.l0]
   rw [if_pos (by omega), if_neg (by omega), List.drop_of_length_le (l := y) (by omega)]; simp [comL]
  ·rw [rdOf_drop y i (by omega)]
   obtain ⟨K, hK⟩ := ih (i + 1) (by omega) (by omega) (by omega)
   dsimp only at hK
   refine ⟨K + 1, fun k hk => ?_⟩
   obtain ⟨k, rfl⟩ : ∃ m, k = m + 1 := ⟨k - 1, by omega⟩
   simp only [copseref02_shared.l0]
   rw [if_pos (by omega), if_pos (by omega), if_pos (by omega)]
   by_cases e : rdOf ByteArray.empty x (i : Int) = rdOf ByteArray.empty y (i : Int)
   ·rw [if_pos (by rw [e]), wrap_succ (n := x.length) (by omega) (by omega), hK k (by omega), e, comL_same]
    congr 2; omega
   ·rw [if_neg (fun h => e (bs_inj (by rw [← toList_bs, ← toList_bs]; exact h))), comL_diff e]; rfl
theorem ref_shared (x y : List ByteArray) (hx : x.length ≤ 4294967296) : Ev (fun k => copseref02_shared.f k x y) (comL x y : Int) := by
 have := ref_shared_run x y hx x.length 0 (by omega) (by omega) (by omega)
 refine Ev.val this ?_
 simp
theorem above_val (x y : List ByteArray) : ((comL x y : Int) == (x.length : Int)) = decide (comL x y = x.length) := by
 rw [Bool.eq_iff_iff, beq_iff_eq, decide_eq_true_eq]; omega
theorem ref_above (a b : ByteArray) (ha : a.size ≤ 4294967295) (hb : b.size ≤ 4294967295) : Ev (fun k => copseref02_Above.f k a b) (aboveB a b) := by
 have hla := pB_length_le a
 refine Ev.bind (ref_split a (by omega)) (Ev.bind (ref_split b (by omega)) ?_)
 unfold aboveB
 by_cases h : (pB a).length < (pB b).length
 ·refine Ev.congr (f := fun k => (copseref02_shared.f k (pB a) (pB b)).bind fun t => some (t == ((pB a).length : Int))) (fun k => by rw [if_pos (by omega)]) ?_
  refine Ev.bind (ref_shared (pB a) (pB b) (by omega)) (ev_pure fun k => ?_)
  rw [above_val, decide_eq_true h, Bool.true_and]
 ·refine ev_pure fun k => ?_
  rw [if_neg (by omega), decide_eq_false h, Bool.false_and]
theorem prog_above (a b : ByteArray) (ha : a.size < 4294967281) (hb : b.size < 4294967281) : Ev (fun k => path_Above.f k a b) (aboveB a b) := by
 have hla := pB_length_le a
 refine Ev.bind (prog_split a ha) (Ev.bind (prog_split b hb) ?_)
 unfold aboveB
 by_cases h : (pB a).length < (pB b).length
 ·refine Ev.congr (f := fun k => (path_common.f k (pB a) (pB b)).bind fun t => some (t == ((pB a).length : Int))) (fun k => by rw [if_pos (by omega)]) ?_
  refine Ev.bind (prog_common (pB a) (pB b) (by omega)) (ev_pure fun k => ?_)
  rw [above_val, decide_eq_true h, Bool.true_and]
 ·refine ev_pure fun k => ?_
  rw [if_neg (by omega), decide_eq_false h, Bool.false_and]
def lastIx : Str → Int → Int → Int
 | [], _, acc => acc
 | c :: r, i, acc => lastIx r (i + 1) (if c = 47 then i else acc)
theorem lastIx_snoc (l : Str) (c : UInt8) : ∀ i acc, lastIx (l ++ [c]) i acc = if c = 47 then i + l.length else lastIx l i acc := by
 induction l with
 | nil => intro i acc; simp [lastIx]
 | cons x l ih =>
  intro i acc
  simp only [List.cons_append, lastIx, ih, List.length_cons]
  split
  ·omega
  ·rfl
theorem lastIx_le (l : Str) : ∀ i acc : Int, acc < i + l.length → -1 ≤ acc → 0 ≤ i → lastIx l i acc < i + l.length ∧ -1 ≤ lastIx l i acc := by
 induction l with
 | nil => intro i acc h h1 _; exact ⟨h, h1⟩
 | cons x l ih =>
  intro i acc h h1 h0
  simp only [lastIx, List.length_cons] at h ⊢
  have := ih (i + 1) (if x = 47 then i else acc) (by split <;> omega) (by split <;> omega) (by omega)
  omega
def lastS (s : Str) : Int := lastIx s 0 (-1)
theorem lastS_bd (s : Str) : lastS s < s.length ∧ -1 ≤ lastS s := by
 have := lastIx_le s 0 (-1) (by omega) (by omega) (by omega)
 unfold lastS; omega
theorem ref_last_run (a : ByteArray) (ha : a.size ≤ 4294967296) (d : Nat) : ∀ (i : Nat) (acc : Int), a.size - i = d → i ≤ a.size → Ev (fun k => copseref02_last.l0 k a acc (i : Int)) (lastIx ((bs a).drop i) i acc) := by
 induction d with
 | zero =>
  intro i acc hd hi
  refine ⟨1, fun k hk => ?_⟩
  obtain ⟨k, rfl⟩ : ∃ m, k = m + 1 := ⟨k - 1, by omega⟩
  simp only [copseref02_last.l0]
  rw [if_neg (by omega), List.drop_of_length_le (by rw [bs_size]; omega)]; rfl
 | succ d ih =>
  intro i acc hd hi
  rw [bs_drop a i (by omega)]
  by_cases h : bt a (i : Int) = 47
  ·obtain ⟨K, hK⟩ := ih (i + 1) i (by omega) (by omega)
   dsimp only at hK
   refine ⟨K + 1, fun k hk => ?_⟩
   obtain ⟨k, rfl⟩ : ∃ m, k = m + 1 := ⟨k - 1, by omega⟩
   simp only [copseref02_last.l0]
   rw [if_pos (by omega), if_pos (by omega), if_pos h, wrap_succ (n := a.size) (by omega) (by omega), hK k (by omega), (bt_eq a i (by omega) 47 47 rfl).1 h]
   simp [lastIx]
  ·obtain ⟨K, hK⟩ := ih (i + 1) acc (by omega) (by omega)
   dsimp only at hK
   refine ⟨K + 1, fun k hk => ?_⟩
   obtain ⟨k, rfl⟩ : ∃ m, k = m + 1 := ⟨k - 1, by omega⟩
   simp only [copseref02_last.l0]
   have h' : (bs a)[i]'(by rw [bs_size]; omega) ≠ 47 := fun e => h ((bt_eq a i (by omega) 47 47 rfl).2 e)
   rw [if_pos (by omega), if_pos (by omega), if_neg h, wrap_succ (n := a.size) (by omega) (by omega), hK k (by omega)]
   simp [lastIx, h']
theorem ref_last (a : ByteArray) (ha : a.size ≤ 4294967296) : Ev (fun k => copseref02_last.f k a) (lastS (bs a)) :=
 Ev.val (ref_last_run a ha a.size 0 (-1) (by omega) (by omega)) rfl
theorem prog_last_run (a : ByteArray) (ha : a.size ≤ 4294967296) : ∀ j : Nat, j ≤ a.size → Ev (fun k => bytealg_LastIndexByteString.l0 k a 47 ((j : Int) - 1)) (lastIx ((bs a).take j) 0 (-1))
 | 0, _ => by
  refine ⟨1, fun k hk => ?_⟩
  obtain ⟨k, rfl⟩ : ∃ m, k = m + 1 := ⟨k - 1, by omega⟩
  simp only [bytealg_LastIndexByteString.l0]
  rw [if_neg (by omega)]; rfl
 | j + 1, hj => by
  have hlen : j < (bs a).length := by rw [bs_size]; omega
  rw [List.take_succ_eq_append_getElem hlen, lastIx_snoc]
  have ej : ((j + 1 : Nat) : Int) - 1 = (j : Int) := by omega
  rw [ej]
  by_cases h : bt a (j : Int) = 47
  ·refine ⟨1, fun k hk => ?_⟩
   obtain ⟨k, rfl⟩ : ∃ m, k = m + 1 := ⟨k - 1, by omega⟩
   simp only [bytealg_LastIndexByteString.l0]
   rw [if_pos (by omega), if_pos (by omega), if_pos (by omega), if_pos h, if_pos ((bt_eq a j (by omega) 47 47 rfl).1 h)]
   congr 1; rw [List.length_take]; omega
  ·obtain ⟨K, hK⟩ := prog_last_run a ha j (by omega)
   dsimp only at hK
   refine ⟨K + 1, fun k hk => ?_⟩
   obtain ⟨k, rfl⟩ : ∃ m, k = m + 1 := ⟨k - 1, by omega⟩
   simp only [bytealg_LastIndexByteString.l0]
   rw [if_pos (by omega), if_pos (by omega), if_pos (by omega), if_neg h, wrap_add (by omega) (by omega), hK k (by omega), if_neg (fun e => h ((bt_eq a j (by omega) 47 47 rfl).2 e))]
theorem prog_last (a : ByteArray) (ha : a.size ≤ 4294967296) : Ev (fun k => strings_LastIndexByte.f k a 47) (lastS (bs a)) := by
 refine Ev.bind (a := lastS (bs a)) (Ev.congr (f := fun k => bytealg_LastIndexByteString.l0 k a 47 ((a.size : Int) - 1)) (fun k => ?_) ?_) (ev_pure fun _ => rfl)
 ·unfold bytealg_LastIndexByteString.f
  rw [wrap_add (by omega) (by omega)]
 ·refine Ev.val (prog_last_run a ha a.size (Nat.le_refl _)) ?_
  rw [List.take_of_length_le (by rw [bs_size]; exact Nat.le_refl _)]; rfl
def dirB (a : ByteArray) : ByteArray := if lastS (bs a) < 0 then mk [] else a.extract 0 (lastS (bs a)).toNat
theorem ref_dir (a : ByteArray) (ha : a.size ≤ 4294967296) : Ev (fun k => copseref02_Dir.f k a) (dirB a) := by
 have hb := lastS_bd (bs a)
 rw [bs_size] at hb
 refine Ev.bind (ref_last a ha) (ev_pure fun k => ?_)
 unfold dirB
 by_cases h : lastS (bs a) < 0
 ·rw [if_pos h, if_pos h]; rfl
 ·rw [if_neg h, if_neg h, if_pos (by omega), if_pos (by omega)]
theorem prog_dir (a : ByteArray) (ha : a.size ≤ 4294967296) : Ev (fun k => path_Dir.f k a) (dirB a) := by
 have hb := lastS_bd (bs a)
 rw [bs_size] at hb
 refine Ev.bind (prog_last a ha) (ev_pure fun k => ?_)
 unfold dirB
 by_cases h : lastS (bs a) < 0
 ·have e : mx 0 (lastS (bs a)) = 0 := by unfold mx; omega
  rw [e, if_pos (by omega), if_pos (by omega), if_pos h]
  congr 1
  apply bs_inj
  rw [Int.toNat_zero, extract_mk, bs_mk]; rfl
 ·have e : mx 0 (lastS (bs a)) = lastS (bs a) := by unfold mx; omega
  rw [e, if_neg h, if_pos (by omega), if_pos (by omega)]
end Go.Proofs.YtehfogjibhnabaaDoor.PAll
namespace Go.Proofs.YtehfogjibhnabaaDoor.PAll
open Go.RowKit Go.Shelf Go.Proofs.YtehfogjibhnabaaDoorW.PrintWords Go.Proofs.YtehfogjibhnabaaDoorW.PrintLast Go.Proofs.YtehfogjibhnabaaDoorW.PrintMore
open Go.Proofs.YtehfogjibhnabaaDoor.Sp Go.Sort
theorem le_lt {a b c : Str} (h : cmpP a b ≤ 0) (k : cmpP b c < 0) : cmpP a c < 0 := by
 by_cases e : cmpP a b = 0
 ·rw [cmpP_eq e]; exact k
 ·exact cmpP_trans (by omega) k
theorem le_le {a b c : Str} (h : cmpP a b ≤ 0) (k : cmpP b c ≤ 0) : cmpP a c ≤ 0 := by
 by_cases e : cmpP b c = 0
 ·rw [← cmpP_eq e]; exact h
 ·have := le_lt h (show cmpP b c < 0 by omega); omega
theorem comp_spec (d : Array Str) (hs : ∀ i j, i < j → j < d.size → 0 ≤ cmpP d[j]! d[i]!) : ∀ m, m ≤ d.size →
  (Lib.compactUpTo d m).Pairwise (fun a b => cmpP a b < 0) ∧ (∀ z, z ∈ Lib.compactUpTo d m ↔ ∃ j, j < m ∧ d[j]! = z) ∧ ∀ z ∈ Lib.compactUpTo d m, cmpP z d[m - 1]! ≤ 0
 | 0, _ => by simp [Lib.compactUpTo]
 | m + 1, hm => by
  obtain ⟨h1, h2, h3⟩ := comp_spec d hs m (by omega)
  have hstep : 0 < m → cmpP d[m - 1]! d[m]! ≤ 0 := fun h0 => by
   have := hs (m - 1) m (by omega) (by omega)
   have := cmpP_neg d[m - 1]! d[m]!
   omega
  rw [Lib.compactUpTo_succ]
  by_cases hk : Lib.keeps d m = true
  ·rw [if_pos hk]
   have hk' : m = 0 ∨ d[m]! ≠ d[m - 1]! := by simpa [Lib.keeps] using hk
   have hlt : ∀ z ∈ Lib.compactUpTo d m, cmpP z d[m]! < 0 := fun z hz => by
    rcases hk' with rfl | hne
    ·simp [Lib.compactUpTo] at hz
    ·rcases Nat.eq_zero_or_pos m with rfl | h0
     ·simp [Lib.compactUpTo] at hz
     ·have := hstep h0
      refine le_lt (h3 z hz) ?_
      have : cmpP d[m - 1]! d[m]! ≠ 0 := fun e => hne (cmpP_eq e).symm
      omega
   refine ⟨List.pairwise_append.2 ⟨h1, List.pairwise_singleton _ _, fun a ha b hb => by rw [List.mem_singleton.1 hb]; exact hlt a ha⟩, fun z => ?_, fun z hz => ?_⟩
   ·rw [List.mem_append, h2, List.mem_singleton]
    constructor
    ·rintro (⟨j, hj, rfl⟩ | rfl)
     ·exact ⟨j, by omega, rfl⟩
     ·exact ⟨m, by omega, rfl⟩
    ·rintro ⟨j, hj, rfl⟩
     by_cases e : j = m
     ·exact .inr (by rw [e])
     ·exact .inl ⟨j, by omega, rfl⟩
   ·rcases List.mem_append.1 hz with hz | hz
    ·have := hlt z hz; simp only [Nat.add_sub_cancel]; omega
    ·rw [List.mem_singleton.1 hz]; simp only [Nat.add_sub_cancel]; rw [cmpP_self]; exact Int.le_refl _
  ·rw [if_neg hk, List.append_nil]
   have hk' : m ≠ 0 ∧ d[m]! = d[m - 1]! := by simpa [Lib.keeps] using hk
   refine ⟨h1, fun z => ?_, fun z hz => by simp only [Nat.add_sub_cancel]; rw [hk'.2]; exact h3 z hz⟩
   rw [h2]
   constructor
   ·rintro ⟨j, hj, rfl⟩; exact ⟨j, by omega, rfl⟩
   ·rintro ⟨j, hj, rfl⟩
    by_cases e : j = m
    ·exact ⟨m - 1, by omega, by rw [e, hk'.2]⟩
    ·exact ⟨j, by omega, rfl⟩
abbrev Sh := { s : ByteArray // s.size < 4294967281 }
instance : Inhabited Sh := ⟨⟨ByteArray.empty, by decide⟩⟩
def encSh (s : Sh) : Value := .string s.1
def cmpSh (x y : Sh) : Int := cB x.1 y.1
theorem ltSh (x y : Sh) : ltOf cmpSh x y = true ↔ cB x.1 y.1 < 0 := by unfold ltOf cmpSh; exact decide_eq_true_iff
theorem swoSh : SWO (ltOf cmpSh) where
 irrefl x := by simp [ltOf, cmpSh, cB_self]
 trans x y z h k := (ltSh x z).2 (cB_trans ((ltSh x y).1 h) ((ltSh y z).1 k))
 ntrans x y z h k := by
  have h' : ¬ cB x.1 y.1 < 0 := fun e => by rw [(ltSh x y).2 e] at h; cases h
  have k' : ¬ cB y.1 z.1 < 0 := fun e => by rw [(ltSh y z).2 e] at k; cases k
  rw [← Bool.not_eq_true, ltSh]
  have h1 := cB_neg x.1 y.1
  have k1 := cB_neg y.1 z.1
  intro e
  have e1 := cB_neg x.1 z.1
  have : cmpP (bs z.1) (bs x.1) ≤ 0 := le_le (b := bs y.1) (by show cB z.1 y.1 ≤ 0; omega) (by show cB y.1 x.1 ≤ 0; omega)
  have : cB z.1 x.1 ≤ 0 := this
  omega
theorem compact_sorted (d : Array Sh) (hs : SortedIn (ltOf cmpSh) 0 d.size d) (l : List ByteArray) (hp : (d.toList.map (·.1)).Perm l) :
  (Lib.compact (d.toList.map fun s : Sh => bs s.1)).map mk = norm l := by
 have hsz : ((d.toList.map fun s : Sh => bs s.1).toArray).size = d.size := by simp
 have hget : ∀ j, j < d.size → ((d.toList.map fun s : Sh => bs s.1).toArray)[j]! = bs d[j]!.1 := fun j hj => by
  rw [getElem!_pos _ j (by simpa using hj), getElem!_pos d j hj]; simp
 obtain ⟨h1, h2, _⟩ := comp_spec (d.toList.map fun s : Sh => bs s.1).toArray (fun i j hij hj => by
  rw [hsz] at hj
  rw [hget j hj, hget i (by omega)]
  have := hs i j (Nat.zero_le _) hij hj
  have h3 : ¬ cB d[j]!.1 d[i]!.1 < 0 := fun e => by rw [(ltSh _ _).2 e] at this; cases this
  show 0 ≤ cB d[j]!.1 d[i]!.1
  omega) (d.toList.map fun s : Sh => bs s.1).toArray.size (Nat.le_refl _)
 refine (norm_is ?_ fun z => ?_).symm
 ·refine List.pairwise_map.2 ?_
  have : Lib.compact (d.toList.map fun s : Sh => bs s.1) = Lib.compactUpTo (d.toList.map fun s : Sh => bs s.1).toArray (d.toList.map fun s : Sh => bs s.1).toArray.size := by simp [Lib.compact]
  rw [this]
  exact h1.imp fun {a b} h => by show cmpP (bs (mk a)) (bs (mk b)) < 0; rw [bs_mk, bs_mk]; exact h
 ·have : Lib.compact (d.toList.map fun s : Sh => bs s.1) = Lib.compactUpTo (d.toList.map fun s : Sh => bs s.1).toArray (d.toList.map fun s : Sh => bs s.1).toArray.size := by simp [Lib.compact]
  rw [this, List.mem_map]
  rw [← hp.mem_iff]
  constructor
  ·rintro ⟨y, hy, rfl⟩
   obtain ⟨j, hj, rfl⟩ := (h2 y).1 hy
   rw [hsz] at hj
   rw [hget j hj, mk_bs, getElem!_pos d j hj]
   exact List.mem_map.2 ⟨d[j], by simp, rfl⟩
  ·intro hz
   obtain ⟨s, hs', rfl⟩ := List.mem_map.1 hz
   obtain ⟨j, hj, rfl⟩ := List.getElem_of_mem hs'
   have hj' : j < d.size := by simpa using hj
   exact ⟨bs d[j].1, (h2 _).2 ⟨j, by rw [hsz]; exact hj', by rw [hget j hj', getElem!_pos d j hj']⟩, by rw [mk_bs]; simp⟩
theorem heap_putRow {α : Type} [Inhabited α] (enc : α → Value) (w : World) (g off : Nat) (d : Array α) {c : Array Value} {e : TypeId} {fr : Nat × Nat} (h : w.heap[g]? = some (.cells c e fr)) : (putRow enc w g off d).heap[g]? = some (.cells (putCells enc off d c) e fr) := by
 unfold putRow mapBlock
 simp [Array.getElem?_modify, h, onCells]
theorem heap_putRow_other {α : Type} [Inhabited α] (enc : α → Value) (w : World) (g off : Nat) (d : Array α) {k : Nat} (h : k ≠ g) : (putRow enc w g off d).heap[k]? = w.heap[k]? := by
 unfold putRow mapBlock
 simp [Array.getElem?_modify, Ne.symm h]
theorem size_putCells {α : Type} [Inhabited α] (enc : α → Value) (off : Nat) (d : Array α) (c : Array Value) : (putCells enc off d c).size = c.size := by simp [putCells]
theorem below_putRow {α : Type} [Inhabited α] (enc : α → Value) {w W : World} {B : Nat} (g off : Nat) (d : Array α) (hb : Below B w W) (hg : B ≤ g) : Below B w (putRow enc W g off d) :=
 ⟨hb.os, hb.tape, hb.output, by rw [show (putRow enc W g off d).heap.size = W.heap.size by simp [putRow, mapBlock]]; exact hb.size, fun k hk => (heap_putRow_other enc W g off d (by omega)).trans (hb.block k hk)⟩
theorem below_ahead {w W : World} {B : Nat} (n : Nat) (hb : Below B w W) : Below B w (Sort.ahead W n) := ⟨hb.os, hb.tape, hb.output, hb.size, hb.block⟩
theorem below_grow {w W : World} {B : Nat} (os : Array Obj) (hb : Below B w W) (hB : B ≤ W.heap.size) : Below B w (grow W os) :=
 ⟨hb.os, hb.tape, hb.output, by rw [size_grow]; have := hb.size; omega, fun k hk => (heap_grow_old W os (by omega)).trans (hb.block k hk)⟩
theorem take_putCells (l : List ByteArray) (n : Nat) (d : Array Str) (c : Array Value) (hl : l.length = n) (hn : n ≤ d.size) (hc : d.size ≤ c.size) (hd : ∀ j, j < n → d[j]! = bs (l.getD j ByteArray.empty)) : ((putCells encStr 0 d c).toList.take n) = l.map Value.string := by
 apply List.ext_getElem
 ·simp [size_putCells]; omega
 ·intro i h1 h2
  have hi : i < n := by simpa [hl] using h2
  have e : (putCells encStr 0 d c)[i]? = some (.string (l.getD i ByteArray.empty)) := by
   unfold putCells
   rw [Array.getElem?_mapIdx, Array.getElem?_eq_getElem (by omega), Option.map_some, if_pos ⟨by omega, by omega⟩, Nat.sub_zero, hd i hi]
   show some (Value.string (mk (bs (l.getD i ByteArray.empty)))) = _
   rw [mk_bs]
  simp only [List.getElem_take, List.getElem_map, Array.getElem_toList]
  have hi' : i < (putCells encStr 0 d c).size := by rw [size_putCells]; omega
  rw [Array.getElem?_eq_getElem hi'] at e
  rw [Option.some.inj e]
  simp [List.getD_eq_getElem?_getD, List.getElem?_eq_getElem (show i < l.length by omega)]
def paths_Norm.f (_k : Nat) (l0 : List ByteArray) : Option (List ByteArray) := if l0.length < 8796093022208 ∧ ∀ x ∈ l0, x.size < 4294967281 then some (norm l0) else none
theorem paths_Norm.mono : ∀ a0 k, LeO (paths_Norm.f k a0) (paths_Norm.f (k + 1) a0) := fun _ _ => LeO.refl _
theorem cmpLays (g n : Nat) (w : World) : CmpLays1 Tryd.prog 50 #[] encSh cmpSh g 0 n w := fun m os dk _ x y => by
 have h := cmp_gr x.1 y.1 x.2 y.2 (sortWorld encSh w g 0 m dk os)
 exact h
theorem holds_sh {w : World} {g cap n : Nat} {base : Nat} {l : List ByteArray} (h : w.ownsRow base 9 1 (.slice (some ⟨g, 0, none⟩) n cap) n (encs Value.string l)) (d : Array Sh) (hd : d.toList.map (·.1) = l) : Holds encSh w g 0 d := by
 intro j hj
 have hl : l.length = d.size := by rw [← hd]; simp
 have hn : l.length = n := by have := h.1; simp [encs] at this; exact this
 obtain ⟨h1, h2⟩ := own_at_of (d := ByteArray.empty) h (j : Int) (by omega) (by omega)
 have e : rdOf ByteArray.empty l (j : Int) = d[j]!.1 := by
  rw [rdOf_getD, ← hd, getElem!_pos d j hj]
  simp [List.getD_eq_getElem?_getD, hj]
 simp only [Int.toNat_natCast] at h1 h2
 rw [Nat.zero_add]
 exact ⟨by rw [h1, e]; rfl, h2⟩
theorem holds_map {w : World} {g : Nat} {d : Array Sh} (h : Holds encSh w g 0 d) : Holds encStr w g 0 (d.toList.map fun s : Sh => bs s.1).toArray := by
 intro j hj
 have hj' : j < d.size := by simpa using hj
 refine ⟨?_, (h j hj').2⟩
 rw [(h j hj').1, getElem!_pos (d.toList.map fun s : Sh => bs s.1).toArray j hj, getElem!_pos d j hj']
 show some (Value.string _) = some (Value.string (mk _))
 simp [mk_bs]
def shs (d : Array Sh) : List Str := d.toList.map fun s : Sh => bs s.1
theorem shs_length (d : Array Sh) : (shs d).length = d.size := by unfold shs; rw [List.length_map, Array.length_toList]
theorem holds_map' {w : World} {g : Nat} {d : Array Sh} (h : Holds encSh w g 0 d) : Holds encStr w g 0 (shs d).toArray := holds_map h
theorem own_norm {w1 : World} {base g cap n m : Nat} {l : List ByteArray} (h : w1.ownsRow base 9 1 (.slice (some ⟨g, 0, none⟩) n cap) n (encs Value.string l)) (d : Array Sh) (os : Array Obj) (q : Nat) (r : List ByteArray) (z : Array Str) (hz : z.size = n) (hr : r.length ≤ n) (hzr : ∀ j, j < r.length → z[j]! = bs (r.getD j ByteArray.empty)) (hg : g < w1.heap.size) :
  Kd.R Kd.string 9 (putRow encStr (Sort.ahead (sortWorld encSh w1 g 0 m d os) q) g 0 z) base (fun _ => True) (.slice (some ⟨g, 0, none⟩) r.length cap) r := by
 obtain ⟨_, h2⟩ := h
 rcases h2 with ⟨h', _⟩ | ⟨g', cap', cur, h', hb, hh, h3, h4, h5, h6⟩
 ·cases h'
 ·obtain ⟨rfl, rfl⟩ : g = g' ∧ cap = cap' := by
   injection h' with h1 h2 h3
   injection h1 with h1
   injection h1 with h1
   exact ⟨h1, h3⟩
  have e1 : (putRow encStr (Sort.ahead (sortWorld encSh w1 g 0 m d os) q) g 0 z).heap[g]? = some (.cells (putCells encStr 0 z (putCells encSh 0 d cur)) 9 (0, 0)) := by
   refine heap_putRow encStr _ g 0 z ?_
   show (sortWorld encSh w1 g 0 m d os).heap[g]? = _
   unfold sortWorld
   rw [heap_grow_old _ _ (by simpa [putRow, mapBlock, Sort.ahead] using hg)]
   exact heap_putRow encSh _ g 0 d hh
  refine ⟨fun _ _ => trivial, r.map Value.string, ⟨by rw [List.length_map]; exact (Nat.mul_one _).symm, .inr ⟨g, cap, _, rfl, hb, e1, by omega, h4, by rw [size_putCells, size_putCells]; exact h5, ?_⟩⟩, reps_strs (M := Kd.string.M _ _ _) (fun _ => rfl) r⟩
  show (putCells encStr 0 z (putCells encSh 0 d cur)).toList.take (r.length * 1) = _
  rw [Nat.mul_one]
  exact take_putCells r r.length z _ rfl (by omega) (by rw [size_putCells]; omega) hzr
theorem sort_none (p : Option Addr) (cap : Nat) (w : World) : Calls Tryd.prog 93 #[.slice p 0 cap, .func (.func 50) #[] #[]] w fun e w' => e = .returned (.tuple #[]) ∧ w' = w :=
 AnyF.slices_SortFunc_none (P := Tryd.prog) (ρ := Tryd.laysSlF6_f93_ren) { Tryd.laysSlF6_f93 with } p cap (.func (.func 50) #[] #[]) w
end Go.Proofs.YtehfogjibhnabaaDoor.PAll
namespace Go.Proofs.YtehfogjibhnabaaDoor.PAll
open Go.RowKit Go.Proofs.YtehfogjibhnabaaDoorW.PrintWords Go.Proofs.YtehfogjibhnabaaDoorW.PrintLast Go.Proofs.YtehfogjibhnabaaDoorW.PrintMore
open Go.Proofs.YtehfogjibhnabaaDoor.Sp
abbrev Fits (l : List ByteArray) : Prop := ∀ p ∈ l, p.size ≤ 1073741824
theorem Fits.at_ {l : List ByteArray} (h : Fits l) {i : Nat} (hi : i < l.length) : (rdOf ByteArray.empty l (i : Int)).size ≤ 1073741824 :=
 h _ (List.mem_of_mem_drop (i := i) (by rw [rdOf_drop l i hi]; exact List.mem_cons_self))
def put (x : ByteArray) : List ByteArray → List ByteArray
 | [] => [x]
 | y :: l => if cB x y < 0 then x :: y :: l else y :: put x l
end Go.Proofs.YtehfogjibhnabaaDoor.PAll
namespace Go.Proofs.YtehfogjibhnabaaDoor.PAll
open Go.RowKit Go.Proofs.YtehfogjibhnabaaDoorW.PrintWords Go.Proofs.YtehfogjibhnabaaDoorW.PrintLast Go.Proofs.YtehfogjibhnabaaDoorW.PrintMore
open Go.Proofs.YtehfogjibhnabaaDoor.Sp
def okc (v : Int) : Bool := (decide (97 ≤ v) && decide (v ≤ 122)) || (decide (65 ≤ v) && decide (v ≤ 90)) || (decide (48 ≤ v) && decide (v ≤ 57)) || decide (v = 46) || decide (v = 95) || decide (v = 45)
def compB (a : ByteArray) : Bool := !(bs a == []) && decide (a.size ≤ 32) && !(bs a == [46]) && !(bs a == [46, 46]) && !(bs a == [46, 46, 46]) && (bs a).all (fun c => okc (c.toNat : Int))
def validB (a : ByteArray) : Bool := decide (a.size ≤ 120) && decide ((pB a).length ≤ 12) && (pB a).all compB
theorem comp_run (a : ByteArray) (ha : a.size ≤ 4294967296) (d : Nat) : ∀ i, a.size - i = d → i ≤ a.size → Ev (fun k => path_Component.l0 k a (a.size : Int) (i : Int)) (((bs a).drop i).all fun c => okc (c.toNat : Int)) := by
 induction d with
 | zero =>
  intro i hd hi
  refine ⟨1, fun k hk => ?_⟩
  obtain ⟨k, rfl⟩ : ∃ m, k = m + 1 := ⟨k - 1, by omega⟩
  simp only [path_Component.l0]
  rw [if_neg (by omega), List.drop_of_length_le (by rw [bs_size]; omega)]; rfl
 | succ d ih =>
  intro i hd hi
  have hv := bt_get a i (by omega)
  obtain ⟨K, hK⟩ := ih (i + 1) (by omega) (by omega)
  rw [bs_drop a i (by omega), List.all_cons, ← hv]
  dsimp only at hK
  refine ⟨K + 1, fun k hk => ?_⟩
  obtain ⟨k, rfl⟩ : ∃ m, k = m + 1 := ⟨k - 1, by omega⟩
  have hk1 := hK k (by omega)
  simp only [path_Component.l0]
  rw [if_pos (by omega), if_pos (by omega), if_pos (by omega), wrap_succ (n := a.size) (by omega) (by omega), hk1]
  clear hk1 hK hv ih
  generalize bt a (i : Int) = v
  generalize (((bs a).drop (i + 1)).all fun c => okc (c.toNat : Int)) = R
  by_cases h : okc v = true
  ·rw [h, Bool.true_and]
   simp only [okc, Bool.or_eq_true, Bool.and_eq_true, decide_eq_true_eq] at h
   repeat' split
   all_goals first | rfl | (exfalso; omega)
  ·rw [Bool.not_eq_true] at h
   rw [h, Bool.false_and]
   simp only [okc, Bool.or_eq_false_iff, Bool.and_eq_false_iff, decide_eq_false_iff_not] at h
   repeat' split
   all_goals first | rfl | (exfalso; omega)
theorem prog_comp (a : ByteArray) (ha : a.size ≤ 4294967296) : Ev (fun k => path_Component.f k a) (compB a) := by
 have hj : Ev (fun k => path_Component.j0 k a true) false := ⟨1, fun k hk => by
  obtain ⟨k, rfl⟩ : ∃ m, k = m + 1 := ⟨k - 1, by omega⟩
  simp [path_Component.j0]⟩
 unfold path_Component.f compB
 simp only [toList_bs]
 by_cases h1 : bs a = []
 ·simp only [h1, if_true]; exact Ev.val hj (by simp)
 ·simp only [if_neg h1]
  by_cases h2 : (a.size : Int) > 32
  ·simp only [if_pos h2]; exact Ev.val hj (by simp; omega)
  ·simp only [if_neg h2]
   by_cases h3 : bs a = [46]
   ·simp only [h3, if_true]; exact Ev.val hj (by simp)
   ·simp only [if_neg h3]
    by_cases h4 : bs a = [46, 46]
    ·simp only [h4, if_true]; exact Ev.val hj (by simp)
    ·simp only [if_neg h4]
     by_cases h5 : bs a = [46, 46, 46]
     ·simp only [h5, beq_self_eq_true]; exact Ev.val hj (by simp)
     ·have e5 : (bs a == [46, 46, 46]) = false := beq_eq_false_iff_ne.mpr h5
      simp only [e5]
      obtain ⟨K, hK⟩ := comp_run a ha a.size 0 (by omega) (by omega)
      dsimp only at hK
      refine ⟨K + 1, fun k hk => ?_⟩
      obtain ⟨k, rfl⟩ : ∃ m, k = m + 1 := ⟨k - 1, by omega⟩
      have := hK k (by omega)
      simp only [path_Component.j0, Bool.false_eq_true, if_false]
      rw [show ((0 : Nat) : Int) = 0 from rfl] at this
      rw [this]
      have g2 : a.size ≤ 32 := by omega
      simp [h1, g2, h3, h4]
theorem valid_run (x : List ByteArray) (hx : x.length ≤ 4294967296) (hs : ∀ p ∈ x, p.size ≤ 4294967296) (d : Nat) : ∀ i, x.length - i = d → i ≤ x.length → Ev (fun k => path_Valid.l0 k x (x.length : Int) (i : Int)) ((x.drop i).all compB) := by
 induction d with
 | zero =>
  intro i hd hi
  refine ⟨1, fun k hk => ?_⟩
  obtain ⟨k, rfl⟩ : ∃ m, k = m + 1 := ⟨k - 1, by omega⟩
  simp only [path_Valid.l0]
  rw [if_neg (by omega), List.drop_of_length_le (by omega)]; rfl
 | succ d ih =>
  intro i hd hi
  have hm : rdOf ByteArray.empty x (i : Int) ∈ x := by
   simp only [rdOf, Int.toNat_natCast, List.getD_eq_getElem?_getD, List.getElem?_eq_getElem (show i < x.length by omega), Option.getD_some]; exact List.getElem_mem _
  obtain ⟨K, hK⟩ := ih (i + 1) (by omega) (by omega)
  obtain ⟨K1, hK1⟩ := prog_comp _ (hs _ hm)
  rw [rdOf_drop x i (by omega), List.all_cons]
  dsimp only at hK hK1
  refine ⟨max K K1 + 1, fun k hk => ?_⟩
  obtain ⟨k, rfl⟩ : ∃ m, k = m + 1 := ⟨k - 1, by omega⟩
  simp only [path_Valid.l0]
  rw [if_pos (by omega), if_pos (by omega), if_pos (by omega), hK1 k (by omega), Option.bind_some, wrap_succ (n := x.length) (by omega) (by omega), hK k (by omega)]
  cases compB (rdOf ByteArray.empty x (i : Int)) <;> simp
theorem prog_valid (a : ByteArray) (ha : a.size < 4294967281) : Ev (fun k => path_Valid.f k a) (validB a) := by
 have hj : Ev (fun k => path_Valid.j0 k a true) false := ⟨1, fun k hk => by
  obtain ⟨k, rfl⟩ : ∃ m, k = m + 1 := ⟨k - 1, by omega⟩
  simp [path_Valid.j0]⟩
 unfold path_Valid.f validB
 by_cases h1 : (a.size : Int) > 120
 ·simp only [if_pos h1]; exact Ev.val hj (by simp; omega)
 ·simp only [if_neg h1]
  refine Ev.bind (a := ((pB a).length : Int)) (ev_pure fun k => by unfold path_Depth.f; rw [if_pos ha]) ?_
  by_cases h2 : ((pB a).length : Int) > 12
  ·rw [decide_eq_true h2]; exact Ev.val hj (by simp; omega)
  ·rw [decide_eq_false h2]
   have g1 : a.size ≤ 120 := by omega
   have g2 : (pB a).length ≤ 12 := by omega
   obtain ⟨K, hK⟩ := prog_split a ha
   obtain ⟨K1, hK1⟩ := valid_run (pB a) (by omega) (fun p hp => by have := pB_piece_le a p hp; omega) (pB a).length 0 (by omega) (by omega)
   dsimp only at hK hK1
   refine ⟨max K K1 + 1, fun k hk => ?_⟩
   obtain ⟨k, rfl⟩ : ∃ m, k = m + 1 := ⟨k - 1, by omega⟩
   simp only [path_Valid.j0, Bool.false_eq_true, if_false]
   rw [hK k (by omega), Option.bind_some]
   have := hK1 k (by omega)
   rw [show ((0 : Nat) : Int) = 0 from rfl] at this
   rw [this]
   simp [g1, g2]
def hd1 (c : UInt8) : List Str → List Str
 | [] => [[c]]
 | h :: t => (c :: h) :: t
theorem spl_other {c : UInt8} {r : Str} (h : c ≠ 47) : spl (c :: r) = hd1 c (spl r) := by
 rw [spl, if_neg h]
 cases spl r <;> rfl
theorem spl_append (x y : Str) : spl (x ++ 47 :: y) = spl x ++ spl y := by
 induction x with
 | nil => simp [spl]
 | cons c r ih =>
  rw [List.cons_append]
  by_cases h : c = 47
  ·subst h; simp [spl, ih]
  ·rw [spl_other h, spl_other h, ih]
   cases e : spl r with
   | nil => exact absurd e (spl_ne r)
   | cons p q => rfl
theorem spl_plain (y : Str) (h : (47 : UInt8) ∉ y) : spl y = [y] := by
 induction y with
 | nil => rfl
 | cons c r ih =>
  have hc : c ≠ 47 := fun e => h (by simp [e])
  have hr : (47 : UInt8) ∉ r := fun e => h (by simp [e])
  rw [spl, if_neg hc, ih hr]
theorem last_cut (n : Nat) : ∀ s : Str, s.length = n → (lastS s < 0 → (47 : UInt8) ∉ s) ∧ (0 ≤ lastS s → ∃ x y, s = x ++ 47 :: y ∧ (x.length : Int) = lastS s ∧ (47 : UInt8) ∉ y) := by
 induction n with
 | zero => intro s hs; obtain rfl := List.length_eq_zero_iff.1 hs; refine ⟨fun _ => by simp, fun h => absurd h (by decide)⟩
 | succ n ih =>
  intro s hs
  have hne : s ≠ [] := fun e => by subst e; simp at hs
  have es := List.dropLast_concat_getLast hne
  obtain ⟨l, c, rfl⟩ : ∃ l c, s = l ++ [c] := ⟨_, _, es.symm⟩
  have hl : l.length = n := by simp at hs; exact hs
  have e : lastS (l ++ [c]) = if c = 47 then (0 : Int) + l.length else lastS l := lastIx_snoc l c 0 (-1)
  obtain ⟨i1, i2⟩ := ih l hl
  by_cases h : c = 47
  ·subst h
   rw [if_pos rfl] at e
   refine ⟨fun h => by omega, fun _ => ⟨l, [], by simp, by omega, by simp⟩⟩
  ·rw [if_neg h] at e
   refine ⟨fun h' => ?_, fun h' => ?_⟩
   ·have := i1 (by omega)
    simp [this, Ne.symm h]
   ·obtain ⟨x, y, rfl, hx, hy⟩ := i2 (by omega)
    exact ⟨x, y ++ [c], by simp, by omega, by simp [hy, Ne.symm h]⟩
theorem bs_dir (a : ByteArray) (h : bs (dirB a) ≠ []) : ∃ y, bs a = bs (dirB a) ++ 47 :: y ∧ (47 : UInt8) ∉ y := by
 unfold dirB at h ⊢
 by_cases h0 : lastS (bs a) < 0
 ·rw [if_pos h0, bs_mk] at h; exact absurd rfl h
 ·rw [if_neg h0] at h ⊢
  obtain ⟨x, y, e, hx, hy⟩ := (last_cut _ (bs a) rfl).2 (by omega)
  refine ⟨y, ?_, hy⟩
  rw [extract_mk, bs_mk, List.drop_zero]
  have hn : (lastS (bs a)).toNat = x.length := by omega
  rw [hn]
  conv => rhs; rw [e]
  rw [List.take_left]
  exact e
theorem pB_dir (a : ByteArray) (h : bs (dirB a) ≠ []) : ∃ y, pB a = pB (dirB a) ++ [y] := by
 obtain ⟨y, e, hy⟩ := bs_dir a h
 refine ⟨mk y, ?_⟩
 have hne : bs a ≠ [] := by rw [e]; simp
 unfold pB
 rw [pcs_of hne, pcs_of h, e, spl_append, spl_plain y hy]
 simp
def coneR : Option ByteArray → List ByteArray → Bool
 | _, [] => true
 | none, x :: r => validB x && coneR (some x) r
 | some y, x :: r => validB x && (decide (cB y x < 0) && !aboveB y x) && coneR (some x) r
def before (x : List ByteArray) (i : Nat) : Option ByteArray := if i = 0 then none else some (rdOf ByteArray.empty x ((i - 1 : Nat) : Int))
theorem coneValid_run (x : List ByteArray) (hx : x.length ≤ 4294967296) (hf : Fits x) (d : Nat) : ∀ i, x.length - i = d → i ≤ x.length → Ev (fun k => cone_Valid.l0 k x x (x.length : Int) (i : Int)) (if coneR (before x i) (x.drop i) = true then 0 else 13) := by
 induction d with
 | zero =>
  intro i hd hi
  refine ⟨1, fun k hk => ?_⟩
  obtain ⟨k, rfl⟩ : ∃ m, k = m + 1 := ⟨k - 1, by omega⟩
  simp only [cone_Valid.l0]
  rw [if_neg (by omega), List.drop_of_length_le (by omega)]
  cases before x i <;> simp [coneR]
 | succ d ih =>
  intro i hd hi
  have hs := hf.at_ (show i < x.length by omega)
  obtain ⟨K, hK⟩ := ih (i + 1) (by omega) (by omega)
  obtain ⟨K1, hK1⟩ := prog_valid (rdOf ByteArray.empty x (i : Int)) (by omega)
  rw [rdOf_drop x i (by omega)]
  have hb : before x (i + 1) = some (rdOf ByteArray.empty x (i : Int)) := by simp [before]
  rw [hb] at hK
  dsimp only at hK hK1
  by_cases h0 : i = 0
  ·subst h0
   refine ⟨max K K1 + 1, fun k hk => ?_⟩
   obtain ⟨k, rfl⟩ : ∃ m, k = m + 1 := ⟨k - 1, by omega⟩
   simp only [cone_Valid.l0]
   rw [if_pos (by omega), if_pos (by omega), if_pos (by omega), hK1 k (by omega), Option.bind_some]
   have h1 := hK k (by omega)
   rw [show before x 0 = none from rfl]
   unfold coneR
   cases validB (rdOf ByteArray.empty x ((0 : Nat) : Int)) with
   | false => simp
   | true =>
    rw [if_pos rfl, if_neg (by omega), wrap_succ (n := x.length) (by omega) (by omega), h1]
    simp
  ·have hs1 := hf.at_ (show i - 1 < x.length by omega)
   obtain ⟨K2, hK2⟩ := prog_cmp (rdOf ByteArray.empty x ((i - 1 : Nat) : Int)) (rdOf ByteArray.empty x (i : Int)) (by omega) (by omega)
   obtain ⟨K3, hK3⟩ := prog_above (rdOf ByteArray.empty x ((i - 1 : Nat) : Int)) (rdOf ByteArray.empty x (i : Int)) (by omega) (by omega)
   dsimp only at hK2 hK3
   refine ⟨max K (max K1 (max K2 K3)) + 1, fun k hk => ?_⟩
   obtain ⟨k, rfl⟩ : ∃ m, k = m + 1 := ⟨k - 1, by omega⟩
   have ew : wrap64 ((i : Int) - 1) = ((i - 1 : Nat) : Int) := by rw [wrap_add (by omega) (by omega)]; omega
   simp only [cone_Valid.l0]
   rw [if_pos (by omega), if_pos (by omega), if_pos (by omega), hK1 k (by omega), Option.bind_some, ew]
   have h1 := hK k (by omega)
   rw [show before x i = some (rdOf ByteArray.empty x ((i - 1 : Nat) : Int)) from by simp [before, h0]]
   unfold coneR
   cases validB (rdOf ByteArray.empty x (i : Int)) with
   | false => simp
   | true =>
    rw [if_pos rfl, if_pos (by omega), if_pos (by omega), if_pos (by omega), hK2 k (by omega), Option.bind_some]
    by_cases c1 : cB (rdOf ByteArray.empty x ((i - 1 : Nat) : Int)) (rdOf ByteArray.empty x (i : Int)) < 0
    ·rw [if_neg (by omega), hK3 k (by omega), Option.bind_some]
     cases c2 : aboveB (rdOf ByteArray.empty x ((i - 1 : Nat) : Int)) (rdOf ByteArray.empty x (i : Int)) with
     | true => simp
     | false =>
      rw [if_neg (by simp), wrap_succ (n := x.length) (by omega) (by omega), h1]
      simp [c1]
    ·rw [if_pos (by omega)]
     simp [c1]
theorem coneValid_ev (x : List ByteArray) (hx : x.length ≤ 4294967296) (hf : Fits x) : Ev (fun k => cone_Valid.f k x) (if coneR none x = true then 0 else 13) :=
 Ev.val (coneValid_run x hx hf x.length 0 (by omega) (by omega)) (by rw [show before x 0 = none from rfl, List.drop_zero])
end Go.Proofs.YtehfogjibhnabaaDoor.PAll
namespace Go.Proofs.YtehfogjibhnabaaDoor.PAll
open Go.RowKit Go.Proofs.YtehfogjibhnabaaDoorW.PrintWords Go.Proofs.YtehfogjibhnabaaDoorW.PrintLast Go.Proofs.YtehfogjibhnabaaDoorW.PrintMore
open Go.Proofs.YtehfogjibhnabaaDoor.Sp
def upsN : Nat → ByteArray → List ByteArray
 | 0, _ => []
 | n + 1, d => if bs d = [] then [] else d :: upsN n (dirB d)
theorem dirB_less {a : ByteArray} (h : bs a ≠ []) : (dirB a).size < a.size := by
 have h0 : 0 < a.size := by rw [← bs_size]; exact List.length_pos_iff.2 h
 have hl := lastS_bd (bs a)
 rw [bs_size] at hl
 unfold dirB
 split
 ·rw [← bs_size, bs_mk]; exact h0
 ·rw [extract_mk, ← bs_size, bs_mk]
  simp only [List.drop_zero, List.length_take, bs_size]
  omega
theorem upsN_more : ∀ (n : Nat) (d : ByteArray), d.size < n → upsN (n + 1) d = upsN n d
 | 0, d, h => by omega
 | n + 1, d, h => by
  show (if bs d = [] then [] else d :: upsN (n + 1) (dirB d)) = (if bs d = [] then [] else d :: upsN n (dirB d))
  by_cases h0 : bs d = []
  ·rw [if_pos h0, if_pos h0]
  ·have := dirB_less h0
   rw [if_neg h0, if_neg h0, upsN_more n _ (by omega)]
theorem upsN_le {m n : Nat} {d : ByteArray} (hm : d.size < m) (h : m ≤ n) : upsN n d = upsN m d := by
 induction n with
 | zero => exfalso; omega
 | succ n ih =>
  by_cases e : m = n + 1
  ·subst e; rfl
  ·rw [upsN_more n d (by omega)]; exact ih (by omega)
def ups (d : ByteArray) : List ByteArray := upsN (d.size + 1) d
theorem ups_nil {d : ByteArray} (h : bs d = []) : ups d = [] := by unfold ups; rw [upsN, if_pos h]
theorem ups_cons {d : ByteArray} (h : bs d ≠ []) : ups d = d :: ups (dirB d) := by
 have := dirB_less h
 unfold ups
 rw [upsN, if_neg h]
 congr 1
 exact upsN_le (by omega) (by omega)
theorem ups_length (n : Nat) : ∀ d : ByteArray, d.size ≤ n → (ups d).length ≤ d.size := by
 induction n with
 | zero =>
  intro d h
  have : bs d = [] := List.eq_nil_of_length_eq_zero (by rw [bs_size]; omega)
  rw [ups_nil this]; simp
 | succ n ih =>
  intro d h
  by_cases h0 : bs d = []
  ·rw [ups_nil h0]; simp
  ·have h1 := dirB_less h0
   have := ih (dirB d) (by omega)
   rw [ups_cons h0, List.length_cons]; omega
theorem ups_size (n : Nat) : ∀ d : ByteArray, d.size ≤ n → ∀ x ∈ ups d, x.size ≤ d.size ∧ bs x ≠ [] := by
 induction n with
 | zero =>
  intro d h x hx
  have : bs d = [] := List.eq_nil_of_length_eq_zero (by rw [bs_size]; omega)
  rw [ups_nil this] at hx; simp at hx
 | succ n ih =>
  intro d h x hx
  by_cases h0 : bs d = []
  ·rw [ups_nil h0] at hx; simp at hx
  ·have h1 := dirB_less h0
   rw [ups_cons h0] at hx
   rcases List.mem_cons.1 hx with rfl | hx
   ·exact ⟨Nat.le_refl _, h0⟩
   ·have := ih (dirB d) (by omega) x hx
    exact ⟨by omega, this.2⟩
def dirsT (k : List ByteArray) : List ByteArray := norm (k.flatMap ups)
def lineT (k : List ByteArray) (d : ByteArray) : Str := (47 :: bs d ++ [47, 10]) ++ (if d ∈ k then [] else [33, 47] ++ bs d ++ [47, 42, 47, 10])
def textS (k : List ByteArray) : Str := if k = [⟨#[]⟩] then [47, 42, 10] else [47, 42, 10, 33, 47, 42, 47, 10] ++ (dirsT k).flatMap (lineT k)
def profile_text.f (_k : Nat) (l0 : List ByteArray) : Option ByteArray := if coneR none l0 = true ∧ l0.length ≤ 1048576 then some (mk (textS l0)) else none
theorem profile_text.mono : ∀ a0 k, LeO (profile_text.f k a0) (profile_text.f (k + 1) a0) := fun _ _ => LeO.refl _
def rawN : Nat → Str → List Str
 | 0, _ => []
 | n + 1, s => if s = [] then [] else if Lib.indexByte s 10 < 0 then [s] else s.take ((Lib.indexByte s 10).toNat + 1) :: rawN n (s.drop ((Lib.indexByte s 10).toNat + 1))
def trimS (l : Str) : Str := if l.getLast? = some 10 then l.dropLast else l
def stepN (out : List ByteArray) (l : Str) : List ByteArray :=
 if 2 < l.length ∧ l.head? = some 47 ∧ l.getLast? = some 47 then out ++ [mk ((l.take (l.length - 1)).drop 1)]
 else if out ≠ [] ∧ l = [33, 47] ++ bs (out.getD (out.length - 1) ByteArray.empty) ++ [47, 42, 47] then out.take (out.length - 1) else out
def namedT (s : ByteArray) : List ByteArray := ((rawN (s.size + 1) (bs s)).map trimS).foldl stepN []
def profile_named.f (_k : Nat) (a0 : ByteArray) : Option (List ByteArray) := if a0.size ≤ 65536 then some (namedT a0) else none
theorem profile_named.mono : ∀ a0 k, LeO (profile_named.f k a0) (profile_named.f (k + 1) a0) := fun _ _ => LeO.refl _
end Go.Proofs.YtehfogjibhnabaaDoor.PAll
namespace Go.Proofs.YtehfogjibhnabaaDoor.PAll
open Go.RowKit Go.Proofs.YtehfogjibhnabaaDoorW.PrintWords Go.Proofs.YtehfogjibhnabaaDoorW.PrintLast Go.Proofs.YtehfogjibhnabaaDoorW.PrintMore
open Go.Proofs.YtehfogjibhnabaaDoor.Sp
theorem comL_prefix : ∀ l m : List ByteArray, comL l m = l.length ↔ l <+: m
 | [], m => by simp [comL]
 | x :: l, [] => by simp [comL]
 | x :: l, y :: m => by
  by_cases h : x = y
  ·subst h
   rw [comL_same, List.length_cons, List.cons_prefix_cons]
   have := comL_prefix l m
   constructor
   ·intro e; exact ⟨rfl, this.1 (by omega)⟩
   ·rintro ⟨_, e⟩; rw [this.2 e]
  ·rw [comL_diff h, List.cons_prefix_cons]
   simp [h]
theorem above_iff (a b : ByteArray) : aboveB a b = true ↔ pB a <+: pB b ∧ (pB a).length < (pB b).length := by
 unfold aboveB
 rw [Bool.and_eq_true, decide_eq_true_eq, decide_eq_true_eq, comL_prefix, and_comm]
theorem pre_lt : ∀ A B : List Str, A <+: B → A.length < B.length → cmpL A B < 0
 | [], _ :: _, _, _ => by simp [cmpL]
 | _, [], _, h => by simp at h
 | x :: A, y :: B, h, hl => by
  obtain ⟨e, hp⟩ := List.cons_prefix_cons.1 h
  subst e
  simp only [cmpL, if_true]
  exact pre_lt A B hp (by simpa using hl)
theorem pre_between : ∀ A B C : List Str, A <+: B → cmpL A C < 0 → cmpL C B < 0 → A <+: C
 | [], _, _, _, _, _ => List.nil_prefix
 | _ :: _, [], _, h, _, _ => by simp at h
 | _ :: _, _ :: _, [], _, h, _ => by simp [cmpL] at h
 | x :: A, y :: B, z :: C, h, h1, h2 => by
  obtain ⟨e, hp⟩ := List.cons_prefix_cons.1 h
  subst e
  by_cases e : x = z
  ·subst e
   simp only [cmpL, if_true] at h1 h2
   exact List.cons_prefix_cons.2 ⟨rfl, pre_between A B C hp h1 h2⟩
  ·simp only [cmpL, if_neg e, if_neg (Ne.symm e)] at h1 h2
   have := cmpS_neg x z
   omega
theorem pB_map_prefix {a b : ByteArray} : pB a <+: pB b ↔ pcs (bs a) <+: pcs (bs b) := by
 rw [← pB_bs a, ← pB_bs b]
 constructor
 ·rintro ⟨t, h⟩; exact ⟨t.map bs, by rw [← h, List.map_append]⟩
 ·intro h
  have := h.map mk
  rwa [List.map_map, List.map_map, show mk ∘ bs = id from funext mk_bs, List.map_id, List.map_id] at this
theorem pB_len (a : ByteArray) : (pB a).length = (pcs (bs a)).length := by rw [← pB_bs a, List.length_map]
theorem above_lt {a b : ByteArray} (h : aboveB a b = true) : cB a b < 0 := by
 obtain ⟨h1, h2⟩ := (above_iff a b).1 h
 rw [pB_len, pB_len] at h2
 exact pre_lt _ _ (pB_map_prefix.1 h1) h2
theorem above_self (a : ByteArray) : aboveB a a = false := by
 rw [← Bool.not_eq_true]
 intro h; have := above_lt h; rw [cB_self] at this; omega
theorem above_trans {a b c : ByteArray} (h : aboveB a b = true) (k : aboveB b c = true) : aboveB a c = true := by
 rw [above_iff] at *
 exact ⟨h.1.trans k.1, Nat.lt_trans h.2 k.2⟩
theorem above_between {a b c : ByteArray} (h : aboveB a b = true) (h1 : cB a c < 0) (h2 : cB c b < 0) : aboveB a c = true := by
 rw [above_iff] at *
 have hp := pre_between _ _ _ (pB_map_prefix.1 h.1) h1 h2
 refine ⟨pB_map_prefix.2 hp, ?_⟩
 rcases Nat.lt_or_ge (pB a).length (pB c).length with hl | hl
 ·exact hl
 ·exfalso
  rw [pB_len, pB_len] at hl
  have e := hp.eq_of_length_le hl
  have : cB a c = 0 := by show cmpL _ _ = 0; rw [e, cmpL_self]
  omega
def isHead (l : List ByteArray) (x : ByteArray) : Bool := l.all fun y => !aboveB y x
theorem isHead_iff {l : List ByteArray} {x : ByteArray} : isHead l x = true ↔ ∀ y ∈ l, aboveB y x = false := by
 unfold isHead
 rw [List.all_eq_true]
 simp
def stepH (out : List ByteArray) (p : ByteArray) : List ByteArray := if out.length = 0 then out ++ [p] else if aboveB (out.getD (out.length - 1) ByteArray.empty) p = true then out else out ++ [p]
structure HeadsOf (n1 out : List ByteArray) : Prop where
 rises : Rises out
 mem : ∀ p, p ∈ out ↔ p ∈ n1 ∧ isHead n1 p = true
 cover : ∀ y ∈ n1, ∃ h ∈ out, h = y ∨ aboveB h y = true
theorem last_mem {out : List ByteArray} (h : out.length ≠ 0) : out.getD (out.length - 1) ByteArray.empty ∈ out := by
 rw [List.getD_eq_getElem?_getD, List.getElem?_eq_getElem (by omega), Option.getD_some]; exact List.getElem_mem _
theorem le_last {out : List ByteArray} (hr : Rises out) (_h : out.length ≠ 0) {z : ByteArray} (hz : z ∈ out) : z = out.getD (out.length - 1) ByteArray.empty ∨ cB z (out.getD (out.length - 1) ByteArray.empty) < 0 := by
 obtain ⟨i, hi, rfl⟩ := List.getElem_of_mem hz
 rw [List.getD_eq_getElem?_getD, List.getElem?_eq_getElem (by omega), Option.getD_some]
 by_cases e : i = out.length - 1
 ·left; subst e; rfl
 ·right; exact List.pairwise_iff_getElem.1 hr i (out.length - 1) hi (by omega) (by omega)
theorem HeadsOf.step {n1 out : List ByteArray} (h : HeadsOf n1 out) (p : ByteArray) (hp : ∀ y ∈ n1, cB y p < 0) : HeadsOf (n1 ++ [p]) (stepH out p) := by
 have back : ∀ q ∈ n1, (isHead (n1 ++ [p]) q = true ↔ isHead n1 q = true) := fun q hq => by
  rw [isHead_iff, isHead_iff]
  constructor
  ·intro k y hy; exact k y (List.mem_append_left _ hy)
  ·intro k y hy
   rcases List.mem_append.1 hy with hy | hy
   ·exact k y hy
   ·rw [List.mem_singleton.1 hy, ← Bool.not_eq_true]
    intro e; have h1 := above_lt e; have h2 := hp q hq; have := cB_neg p q; omega
 have keep : (∃ y ∈ n1, aboveB y p = true) → out.length ≠ 0 ∧ aboveB (out.getD (out.length - 1) ByteArray.empty) p = true := by
  rintro ⟨y, hy, hyp⟩
  obtain ⟨g, hg, hgy⟩ := h.cover y hy
  have hgp : aboveB g p = true := by
   rcases hgy with rfl | hgy
   ·exact hyp
   ·exact above_trans hgy hyp
  have hne : out.length ≠ 0 := fun e => by rw [List.eq_nil_of_length_eq_zero e] at hg; cases hg
  refine ⟨hne, ?_⟩
  rcases le_last h.rises hne hg with e | hlt
  ·rw [← e]; exact hgp
  ·have hz := (h.mem _).1 (last_mem hne)
   have := above_between hgp hlt (hp _ hz.1)
   have k := isHead_iff.1 hz.2 g ((h.mem g).1 hg).1
   rw [this] at k; cases k
 by_cases c : ∃ y ∈ n1, aboveB y p = true
 ·obtain ⟨h1, h2⟩ := keep c
  have e : stepH out p = out := by unfold stepH; rw [if_neg h1, if_pos h2]
  rw [e]
  refine ⟨h.rises, fun q => ?_, fun y hy => ?_⟩
  ·rw [h.mem]
   constructor
   ·rintro ⟨hq, hh⟩; exact ⟨List.mem_append_left _ hq, (back q hq).2 hh⟩
   ·rintro ⟨hq, hh⟩
    rcases List.mem_append.1 hq with hq | hq
    ·exact ⟨hq, (back q hq).1 hh⟩
    ·rw [List.mem_singleton.1 hq] at hh
     obtain ⟨y, hy, hyp⟩ := c
     have := isHead_iff.1 hh y (List.mem_append_left _ hy)
     rw [hyp] at this; cases this
  ·rcases List.mem_append.1 hy with hy | hy
   ·exact h.cover y hy
   ·rw [List.mem_singleton.1 hy]; exact ⟨_, last_mem h1, .inr h2⟩
 ·have hnot : ∀ y ∈ n1, aboveB y p = false := fun y hy => by rw [← Bool.not_eq_true]; exact fun e => c ⟨y, hy, e⟩
  have e : stepH out p = out ++ [p] := by
   unfold stepH
   by_cases h0 : out.length = 0
   ·rw [if_pos h0]
   ·rw [if_neg h0, if_neg (by rw [hnot _ ((h.mem _).1 (last_mem h0)).1]; decide)]
  rw [e]
  refine ⟨List.pairwise_append.2 ⟨h.rises, List.pairwise_singleton _ _, fun a ha b hb => by rw [List.mem_singleton.1 hb]; exact hp a ((h.mem a).1 ha).1⟩, fun q => ?_, fun y hy => ?_⟩
  ·rw [List.mem_append, List.mem_append, h.mem, List.mem_singleton]
   constructor
   ·rintro (⟨hq, hh⟩ | rfl)
    ·exact ⟨.inl hq, (back q hq).2 hh⟩
    ·refine ⟨.inr rfl, isHead_iff.2 fun y hy => ?_⟩
     rcases List.mem_append.1 hy with hy | hy
     ·exact hnot y hy
     ·rw [List.mem_singleton.1 hy]; exact above_self q
   ·rintro ⟨hq | rfl, hh⟩
    ·exact .inl ⟨hq, (back q hq).1 hh⟩
    ·exact .inr rfl
  ·rcases List.mem_append.1 hy with hy | hy
   ·obtain ⟨g, hg, hgy⟩ := h.cover y hy
    exact ⟨g, List.mem_append_left _ hg, hgy⟩
   ·exact ⟨p, by simp, .inl (List.mem_singleton.1 hy).symm⟩
end Go.Proofs.YtehfogjibhnabaaDoor.PAll
namespace Go.Proofs.YtehfogjibhnabaaDoor.PAll
open Go.RowKit Go.Proofs.YtehfogjibhnabaaDoorW.PrintWords Go.Proofs.YtehfogjibhnabaaDoorW.PrintLast Go.Proofs.YtehfogjibhnabaaDoorW.PrintMore
open Go.Proofs.YtehfogjibhnabaaDoor.Sp
def chainR {α : Type} (ok : α → Bool) (key : α → ByteArray) : Option ByteArray → List α → Bool
 | _, [] => true
 | none, x :: r => ok x && chainR ok key (some (key x)) r
 | some y, x :: r => ok x && (decide (cB y (key x) < 0) && !aboveB y (key x)) && chainR ok key (some (key x)) r
abbrev Apart2 (a b : ByteArray) : Prop := cB a b < 0 ∧ aboveB a b = false
theorem coneR_chain : ∀ (o : Option ByteArray) (l : List ByteArray), coneR o l = chainR validB id o l
 | o, [] => by cases o <;> rfl
 | o, x :: r => by have := coneR_chain (some x) r; cases o <;> simp [coneR, chainR, this]
theorem apart_next {y x z : ByteArray} (h : Apart2 y x) (k : Apart2 x z) : Apart2 y z := by
 refine ⟨cB_trans h.1 k.1, ?_⟩
 cases e : aboveB y z with
 | false => rfl
 | true => exact absurd (above_between e h.1 k.1) (by rw [h.2]; simp)
theorem chain_all {α : Type} (ok : α → Bool) (key : α → ByteArray) : ∀ (l : List α) (o : Option ByteArray), chainR ok key o l = true ↔ (∀ x ∈ l, ok x = true) ∧ l.Pairwise (fun a b => Apart2 (key a) (key b)) ∧ (∀ y, o = some y → ∀ x ∈ l, Apart2 y (key x))
 | [], o => by cases o <;> simp [chainR]
 | x :: r, o => by
  have ih := chain_all ok key r (some (key x))
  have core : ∀ (hx : ok x = true), chainR ok key (some (key x)) r = true ↔ (∀ z ∈ x :: r, ok z = true) ∧ (x :: r).Pairwise (fun a b => Apart2 (key a) (key b)) := fun hx => by
   rw [ih, List.pairwise_cons]
   constructor
   ·rintro ⟨h1, h2, h3⟩
    exact ⟨fun z hz => by rcases List.mem_cons.1 hz with rfl | hz; exact hx; exact h1 z hz, fun z hz => h3 _ rfl z hz, h2⟩
   ·rintro ⟨h1, h2, h3⟩
    exact ⟨fun z hz => h1 z (List.mem_cons_of_mem _ hz), h3, fun y e z hz => by cases e; exact h2 z hz⟩
  cases o with
  | none =>
   simp only [chainR, Bool.and_eq_true]
   constructor
   ·rintro ⟨hx, h⟩
    obtain ⟨h1, h2⟩ := (core hx).1 h
    exact ⟨h1, h2, fun y e => by cases e⟩
   ·rintro ⟨h1, h2, _⟩
    have hx := h1 x List.mem_cons_self
    exact ⟨hx, (core hx).2 ⟨h1, h2⟩⟩
  | some y =>
   simp only [chainR, Bool.and_eq_true, decide_eq_true_eq, Bool.not_eq_true']
   constructor
   ·rintro ⟨⟨hx, hy⟩, h⟩
    obtain ⟨h1, h2⟩ := (core hx).1 h
    refine ⟨h1, h2, fun y' e z hz => ?_⟩
    cases e
    rcases List.mem_cons.1 hz with rfl | hz
    ·exact hy
    ·exact apart_next hy ((List.pairwise_cons.1 h2).1 z hz)
   ·rintro ⟨h1, h2, h3⟩
    have hx := h1 x List.mem_cons_self
    exact ⟨⟨hx, h3 y rfl x List.mem_cons_self⟩, (core hx).2 ⟨h1, h2⟩⟩
theorem cone_all (l : List ByteArray) : coneR none l = true ↔ (∀ x ∈ l, validB x = true) ∧ l.Pairwise Apart2 := by
 rw [coneR_chain, chain_all]
 constructor
 ·rintro ⟨h1, h2, _⟩; exact ⟨h1, h2⟩
 ·rintro ⟨h1, h2⟩; exact ⟨h1, h2, fun y e => by cases e⟩
end Go.Proofs.YtehfogjibhnabaaDoor.PAll
namespace Go.Proofs.YtehfogjibhnabaaDoor.PAll
open Go.RowKit Go.Proofs.YtehfogjibhnabaaDoorW.PrintWords Go.Proofs.YtehfogjibhnabaaDoorW.PrintLast Go.Proofs.YtehfogjibhnabaaDoorW.PrintMore
open Go.Proofs.YtehfogjibhnabaaDoor.Sp
theorem rd_mem (l : List ByteArray) (i : Nat) (h : i < l.length) : rdOf ByteArray.empty l (i : Int) ∈ l := by
 simp only [rdOf, Int.toNat_natCast, List.getD_eq_getElem?_getD, List.getElem?_eq_getElem h, Option.getD_some]; exact List.getElem_mem _
theorem above_root {d : ByteArray} (h : bs d ≠ []) : aboveB (⟨#[]⟩ : ByteArray) d = true := by
 rw [above_iff]
 have e : pB (⟨#[]⟩ : ByteArray) = [] := pB_nil rfl
 rw [e]
 refine ⟨List.nil_prefix, ?_⟩
 rw [pB_len, pcs_of h, List.length_nil]
 exact List.length_pos_iff.2 (spl_ne _)
end Go.Proofs.YtehfogjibhnabaaDoor.PAll
