/- What functions of the program compute, each with its walk: a contract for every world and every argument of the kind told. -/
import Derived.Test.YtdfkaclflmgkeaaDoorCvPAllx0
import Derived.Test.YtdfkaclflmgkeaaDoorCvHandC
import Derived.Test.YtdfkaclflmgkeaaDoorCvPAlly15
import Derived.Test.YtdfkaclflmgkeaaDoorCvPAlly16
import Derived.Test.YtdfkaclflmgkeaaDoorCvPAlly24
import Derived.Test.YtdfkaclflmgkeaaDoorCvPAlly3
namespace Go.Proofs.YtdfkaclflmgkeaaDoor.PAll
open Go.RowKit Go.Proofs.YtdfkaclflmgkeaaDoorW.PrintWords Go.Proofs.YtdfkaclflmgkeaaDoorW.PrintLast Go.Proofs.YtdfkaclflmgkeaaDoorW.PrintMore
attribute [local go_sem] max2_int min2_int max_two min_two max_three min_three max_four min_four
set_option linter.unusedVariables false
set_option linter.unusedSimpArgs false
mutual
def copselaw15_wider.l0 : Nat → List (S48) → List ByteArray → List (S48) → Int → Option (Bool)
 | 0, _, _, _, _ => none
 | k + 1, x0, x1, x2, x7 => if x7 < (x1.length : Int) then (if 0 ≤ x7 then ((path_Dir.f k (rdOf ByteArray.empty x1 x7)).bind fun t765 => (copselaw15_wider.l1 k x0 x1 x2 x7 t765 ([] : List ByteArray) false 0)) else (none)) else (some true)
def copselaw15_wider.l1 : Nat → List (S48) → List ByteArray → List (S48) → Int → ByteArray → List ByteArray → Bool → Int → Option (Bool)
 | 0, _, _, _, _, _, _, _, _ => none
 | k + 1, x0, x1, x2, x7, x8, x9, x10, x11 => if x11 < (x1.length : Int) then (if 0 ≤ x11 then (if (rdOf ByteArray.empty x1 x11).toList = x8.toList then (copselaw15_wider.j2 k x0 x1 x2 x7 x8 x9 x10 x11 true) else ((path_Above.f k x8 (rdOf ByteArray.empty x1 x11)).bind fun t768 => (copselaw15_wider.j2 k x0 x1 x2 x7 x8 x9 x10 x11 t768))) else (none)) else ((cone_View.f k x0 x9).bind fun bt776 => ((copselaw15_num.f bt776.2).bind fun t780 => (if t780 = 0 then (copselaw15_wider.j3 k x0 x1 x2 x7 x9 (decide ((bt776.1.length : Int) < (x2.length : Int)))) else (copselaw15_wider.j3 k x0 x1 x2 x7 x9 true))))
def copselaw15_wider.j2 : Nat → List (S48) → List ByteArray → List (S48) → Int → ByteArray → List ByteArray → Bool → Int → Bool → Option (Bool)
 | 0, _, _, _, _, _, _, _, _, _ => none
 | k + 1, x0, x1, x2, x7, x8, x9, x10, x11, x45 => if x45 = true then (if x10 = true then (copselaw15_wider.l1 k x0 x1 x2 x7 x8 x9 true (wrap64 (x11 + 1))) else (if x9.length < 8796093022208 then (copselaw15_wider.l1 k x0 x1 x2 x7 x8 (x9 ++ [x8]) true (wrap64 (x11 + 1))) else (none))) else (if 0 ≤ x11 then (if x11 < (x1.length : Int) then (if x9.length < 8796093022208 then (copselaw15_wider.l1 k x0 x1 x2 x7 x8 (x9 ++ [rdOf ByteArray.empty x1 x11]) x10 (wrap64 (x11 + 1))) else (none)) else (none)) else (none))
def copselaw15_wider.j3 : Nat → List (S48) → List ByteArray → List (S48) → Int → List ByteArray → Bool → Option (Bool)
 | 0, _, _, _, _, _, _ => none
 | k + 1, x0, x1, x2, x7, x9, x74 => if x74 = true then (some false) else (copselaw15_wider.l2 k x0 x1 x2 x7 x9 0)
def copselaw15_wider.l2 : Nat → List (S48) → List ByteArray → List (S48) → Int → List ByteArray → Int → Option (Bool)
 | 0, _, _, _, _, _, _ => none
 | k + 1, x0, x1, x2, x7, x9, x14 => if x14 < (x2.length : Int) then (if 0 ≤ x14 then ((cone_Shows.f k x9 ((rd_T48 x2 x14).f0)).bind fun t782 => (if t782 = true then (copselaw15_wider.l2 k x0 x1 x2 x7 x9 (wrap64 (x14 + 1))) else (some false))) else (none)) else (copselaw15_wider.l0 k x0 x1 x2 (wrap64 (x7 + 1)))
end
def copselaw15_wider.f (k : Nat) (l0 : List (S48)) (l1 : List ByteArray) (l2 : List (S48)) : Option (Bool) := copselaw15_wider.l0 k l0 l1 l2 0
set_option maxHeartbeats 8000000 in
set_option maxRecDepth 100000 in
theorem copselaw15_wider.calls (k : Nat) (A0 : Option Addr) (c0 : Nat) (l0 : List (S48)) (A1 : Option Addr) (c1 : Nat) (l1 : List ByteArray) (A2 : Option Addr) (c2 : Nat) (l2 : List (S48)) (r : Bool) (w : World) (hr0 : Kd.C k48 w A0 l0.length l0) (hc0 : l0.length ≤ c0) (hr1 : Kd.C Kd.string w A1 l1.length l1) (hc1 : l1.length ≤ c1) (hr2 : Kd.C k48 w A2 l2.length l2) (hc2 : l2.length ≤ c2) (h : copselaw15_wider.f k l0 l1 l2 = some r) :
  Calls Tryd.prog 42 #[.slice A0 l0.length c0, .slice A1 l1.length c1, .slice A2 l2.length c2] w fun e w' => e = .returned (.bool r) ∧ Below w.heap.size w w' := by
 have HR0 := Aside0.mk hr0
 have HC0 := Aside0.mk hc0
 clear hr0 hc0
 have HR1 := Aside0.mk hr1
 have HC1 := Aside0.mk hc1
 clear hr1 hc1
 have HR2 := Aside0.mk hr2
 have HC2 := Aside0.mk hc2
 clear hr2 hc2
 have HB := Aside0.mk (Below.refl w.heap.size w)
 have H : (copselaw15_wider.l0 k l0 l1 l2 0) = some r := h
 clear h
 have H' := Aside0.mk H
 clear H
 go_enter Tryd.func42, Tryd.ntmps42
 go_wp2
 go_loopg [7] k (fun kq v7 w' => ∃ (x7_1 : Int), v7 = .int .i64 x7_1 ∧ Aside0 (copselaw15_wider.l0 kq l0 l1 l2 x7_1 = some r) ∧ Aside0 (kq ≤ k) ∧ Aside0 (Below w.heap.size w w'))
 case atStart => exact ⟨(0), (by first | rfl | (simp; done) | (simp [*]; done)), H', ⟨Nat.le_refl _⟩, ⟨by repeat (first | (with_reducible first | exact HB.out | apply below_alloc | apply pw_below_drewN | apply below_drew1) | exact HB.out)⟩⟩
 case round =>
  clear H'
  try clear c1
  try clear c2
  try clear p2
  obtain ⟨x7_1, rfl, HA, HK1, HB⟩ := hrel
  cases gk with
  | zero => exact absurd HA.out (by simp [copselaw15_wider.l0])
  | succ k1 =>
   have H := HA.out
   clear HA
   simp only [copselaw15_wider.l0] at H
   by_cases c4 : x7_1 < (l1.length : Int)
   ·rw [if_pos c4] at H
    have c4b0 : decide (x7_1 < (l1.length : Int)) = true := decide_eq_true c4
    clear c4
    by_cases c5 : 0 ≤ x7_1
    ·rw [if_pos c5] at H
     have c5b0 : decide (0 ≤ x7_1) = true := decide_eq_true c5
     clear c5
     replace H := Option.bind_eq_some_iff.mp H
     obtain ⟨t765, A60, H⟩ := H
     replace H : (copselaw15_wider.l1 k1 l0 l1 l2 x7_1 t765 ([] : List ByteArray) false 0) = some r := H
     have A6 := Aside0.mk A60
     clear A60
     have H' := Aside0.mk H
     clear H
     have p764 : 0 ≤ (x7_1 : Int) := of_decide_eq_true (by first | (with_reducible assumption) | assumption)
     have q764 : x7_1 < (l1.length : Int) := of_decide_eq_true (by first | (with_reducible assumption) | assumption)
     obtain ⟨ad764, e764, hx764_0⟩ := Kd.at_string HR1.out x7_1 p764 q764
     cases e764
     replace hx764_0 := (HB.out.cell (World.block_lt_of_cell? w _ hx764_0)).trans hx764_0
     replace p764 := eq_true p764
     replace q764 := eq_true q764
     go_wp2_with (first | ((with_reducible refine gate_callee (f := 23) rfl ?_); refine goesL_ (some 25) rfl rfl Tryd.func23 (by kernel_rfl) rfl #[.string (rdOf ByteArray.empty l1 x7_1)] rfl (by (try simp only [List.map_toArray, List.map_cons, List.map_nil]); first | done | rfl | (simp only [List.length_drop, List.length_take]; rfl)) ?_; (with_reducible refine (path_Dir.calls k1 (rdOf ByteArray.empty l1 x7_1) t765 _ A6.out).mono ?_); rintro e w7 ⟨rfl, hb⟩; refine ⟨_, rfl, ?_⟩; have n0_ := Aside0.mk (below_step (by repeat (first | (with_reducible first | exact HB.out | apply below_alloc | apply pw_below_drewN | apply below_drew1) | exact HB.out)) hb); clear HB; have HB := n0_; clear n0_; (try clear hb); (try clear hb2); (try clear hk); (try clear hi)))
     go_loopg [9, 10, 11] k1 (fun kq v9 v10 v11 w' => ∃ (x9_2 : List ByteArray) (x10_2 : Bool) (x11_2 : Int), v10 = .bool x10_2 ∧ v11 = .int .i64 x11_2 ∧ Aside0 (copselaw15_wider.l1 kq l0 l1 l2 x7_1 t765 x9_2 x10_2 x11_2 = some r) ∧ Aside0 (kq ≤ k1) ∧ Aside0 (Kd.R Kd.string 9 w' w.heap.size (fun _ => True) v9 x9_2) ∧ Aside0 (Below w.heap.size w w'))
     case atStart => exact ⟨(([] : List ByteArray)), (false), (0), (by first | rfl | (simp; done) | (simp [*]; done)), (by first | rfl | (simp; done) | (simp [*]; done)), H', ⟨Nat.le_refl _⟩, ⟨by first | exact Kd.R_nil _ _ _ _ _ | exact Kd.N_nil _ _ _ _ _ | exact Kd.V_nil _ _ _ _ _ | exact Kd.Q_nil _ _ _ _ _ | exact Kd.S_nil _ _ _ _ _⟩, ⟨by repeat (first | (with_reducible first | exact HB.out | apply below_alloc | apply pw_below_drewN | apply below_drew1) | exact HB.out)⟩⟩
     case round =>
      clear H'
      try clear c1
      try clear c2
      try clear p2
      try clear c4
      try clear c4b0
      try clear c5
      try clear c5b0
      try clear p7
      try clear q7
      try clear hx7
      try clear hx764_0
      try clear p2
      try clear p764
      try clear q764
      obtain ⟨x9_2, x10_2, x11_2, rfl, rfl, HA, HK2, HO_9, HB⟩ := hrel
      cases gk with
      | zero => exact absurd HA.out (by simp [copselaw15_wider.l1])
      | succ k2 =>
       have H := HA.out
       clear HA
       simp only [copselaw15_wider.l1] at H
       by_cases c8 : x11_2 < (l1.length : Int)
       ·rw [if_pos c8] at H
        have c8b0 : decide (x11_2 < (l1.length : Int)) = true := decide_eq_true c8
        clear c8
        have HC9 := Aside0.mk H
        clear H
        go_upto_region 10 with (fail)
        go_cut [45] (fun v45 wc => ∃ (kq : Nat) (x45_8 : Bool), v45 = .bool x45_8 ∧ Aside0 (copselaw15_wider.j2 kq l0 l1 l2 x7_1 t765 x9_2 x10_2 x11_2 x45_8 = some r) ∧ Aside0 (kq ≤ k2) ∧ Aside0 (Kd.R Kd.string 9 wc w.heap.size (fun _ => True) u9 x9_2) ∧ Aside0 (Below w.heap.size w wc))
        case first =>
         have H := HC9.out
         clear HC9
         by_cases c10 : 0 ≤ x11_2
         ·rw [if_pos c10] at H
          have c10b0 : decide (0 ≤ x11_2) = true := decide_eq_true c10
          clear c10
          (first | rw [c10b0] | (simp only [i64_w, i32_w]; rw [c10b0]) | skip)
          by_cases c11 : (rdOf ByteArray.empty l1 x11_2).toList = t765.toList
          ·rw [if_pos c11] at H
           have c11b0 : ((rdOf ByteArray.empty l1 x11_2).toList == t765.toList) = true := beq_iff_eq.mpr c11
           have c11b1 : ((rdOf ByteArray.empty l1 x11_2).toList != t765.toList) = false := bne_eq_false_iff_eq.mpr c11
           clear c11
           have H' := Aside0.mk H
           clear H
           have p766 : 0 ≤ (x11_2 : Int) := of_decide_eq_true (by first | (with_reducible assumption) | assumption)
           have q766 : x11_2 < (l1.length : Int) := of_decide_eq_true (by first | (with_reducible assumption) | assumption)
           obtain ⟨ad766, e766, hx766_0⟩ := Kd.at_string HR1.out x11_2 p766 q766
           obtain rfl : ad764 = ad766 := (by injection e766)
           replace hx766_0 := (HB.out.cell (World.block_lt_of_cell? w _ hx766_0)).trans hx766_0
           replace p766 := eq_true p766
           replace q766 := eq_true q766
           go_wp2
           go_meet
           case rel => exact ⟨_, (true), (by first | rfl | (simp; done) | (simp [*]; done)), H', ⟨by have := HK1.out; have := HK2.out; first | omega | exact Nat.le_refl _⟩, ⟨by (with_reducible repeat (first | apply Kd.R_alloc | apply Kd.R_drewN | apply Kd.R_drew)); exact HO_9.out⟩, ⟨by repeat (first | (with_reducible first | exact HB.out | apply below_alloc | apply pw_below_drewN | apply below_drew1) | exact HB.out)⟩⟩
          ·rw [if_neg c11] at H
           have c11b0 : ((rdOf ByteArray.empty l1 x11_2).toList == t765.toList) = false := beq_eq_false_iff_ne.mpr c11
           have c11b1 : ((rdOf ByteArray.empty l1 x11_2).toList != t765.toList) = true := bne_iff_ne.mpr c11
           replace H := Option.bind_eq_some_iff.mp H
           obtain ⟨t768, A120, H⟩ := H
           replace H : (copselaw15_wider.j2 k2 l0 l1 l2 x7_1 t765 x9_2 x10_2 x11_2 t768) = some r := H
           have A12 := Aside0.mk A120
           clear A120
           have H' := Aside0.mk H
           clear H
           have p766 : 0 ≤ (x11_2 : Int) := of_decide_eq_true (by first | (with_reducible assumption) | assumption)
           have q766 : x11_2 < (l1.length : Int) := of_decide_eq_true (by first | (with_reducible assumption) | assumption)
           obtain ⟨ad766, e766, hx766_0⟩ := Kd.at_string HR1.out x11_2 p766 q766
           obtain rfl : ad764 = ad766 := (by injection e766)
           replace hx766_0 := (HB.out.cell (World.block_lt_of_cell? w _ hx766_0)).trans hx766_0
           replace p766 := eq_true p766
           replace q766 := eq_true q766
           have p767 : 0 ≤ (x11_2 : Int) := of_decide_eq_true (by first | (with_reducible assumption) | assumption)
           have q767 : x11_2 < (l1.length : Int) := of_decide_eq_true (by first | (with_reducible assumption) | assumption)
           obtain ⟨ad767, e767, hx767_0⟩ := Kd.at_string HR1.out x11_2 p767 q767
           obtain rfl : ad764 = ad767 := (by injection e767)
           replace hx767_0 := (HB.out.cell (World.block_lt_of_cell? w _ hx767_0)).trans hx767_0
           replace p767 := eq_true p767
           replace q767 := eq_true q767
           go_wp2_with (first | (go_at_call 22; (with_reducible refine (path_Above.calls k2 t765 (rdOf ByteArray.empty l1 x11_2) t768 _ A12.out).mono ?_); rintro e w13 ⟨rfl, hb⟩; have n0_ := Aside0.mk (Kd.R_below (by (with_reducible repeat (first | apply Kd.R_alloc | apply Kd.R_drewN | apply Kd.R_drew)); exact HO_9.out) hb); have n1_ := Aside0.mk (below_step (by repeat (first | (with_reducible first | exact HB.out | apply below_alloc | apply pw_below_drewN | apply below_drew1) | exact HB.out)) hb); clear HO_9; clear HB; have HO_9 := n0_; have HB := n1_; clear n0_ n1_; (try clear hb); (try clear hb2); (try clear hk); (try clear hi)))
           go_meet
           case rel => exact ⟨_, (t768), (by first | rfl | (simp; done) | (simp [*]; done)), H', ⟨by have := HK1.out; have := HK2.out; first | omega | exact Nat.le_refl _⟩, ⟨by (with_reducible repeat (first | apply Kd.R_alloc | apply Kd.R_drewN | apply Kd.R_drew)); exact HO_9.out⟩, ⟨by repeat (first | (with_reducible first | exact HB.out | apply below_alloc | apply pw_below_drewN | apply below_drew1) | exact HB.out)⟩⟩
         ·rw [if_neg c10] at H
          exact absurd H (by simp)
        case rest =>
         clear HC9
         try clear c1
         try clear c2
         try clear p2
         try clear c4
         try clear c4b0
         try clear c5
         try clear c5b0
         try clear p7
         try clear q7
         try clear hx7
         try clear c8
         try clear c8b0
         try clear c10
         try clear c10b0
         try clear c11
         try clear c11b0
         try clear c11b1
         try clear hx764_0
         try clear hx766_0
         try clear hx767_0
         try clear p2
         try clear p7
         try clear p764
         try clear p766
         try clear p767
         try clear q7
         try clear q764
         try clear q766
         try clear q767
         obtain ⟨kq, x45_8, rfl, HA, HJ8, HO_9, HB⟩ := hcut
         cases kq with
         | zero => exact absurd HA.out (by simp [copselaw15_wider.j2])
         | succ kj8 =>
          have H := HA.out
          clear HA
          simp only [copselaw15_wider.j2] at H
          by_cases c14 : x45_8 = true
          ·subst c14
           have H1 : (if x10_2 = true then (copselaw15_wider.l1 kj8 l0 l1 l2 x7_1 t765 x9_2 true (wrap64 (x11_2 + 1))) else (if x9_2.length < 8796093022208 then (copselaw15_wider.l1 kj8 l0 l1 l2 x7_1 t765 (x9_2 ++ [t765]) true (wrap64 (x11_2 + 1))) else (none))) = some r := by rw [if_pos rfl] at H; exact H
           clear H
           have H := H1
           clear H1
           by_cases c15 : x10_2 = true
           ·subst c15
            have H1 : (copselaw15_wider.l1 kj8 l0 l1 l2 x7_1 t765 x9_2 true (wrap64 (x11_2 + 1))) = some r := by rw [if_pos rfl] at H; exact H
            clear H
            have H := H1
            clear H1
            have H' := Aside0.mk H
            clear H
            go_wp2
            go_roundg kj8
            case measure => have := HK1.out; have := HK2.out; have := HJ8.out; omega
            case rel => exact ⟨(x9_2), (true), (wrap64 (x11_2 + 1)), (by first | rfl | (simp; done) | (simp [*]; done)), (by first | rfl | (simp; done) | (simp [*]; done)), H', ⟨by have := HK1.out; have := HK2.out; have := HJ8.out; omega⟩, ⟨by (with_reducible repeat (first | apply Kd.R_alloc | apply Kd.R_drewN | apply Kd.R_drew)); exact HO_9.out⟩, ⟨by repeat (first | (with_reducible first | exact HB.out | apply below_alloc | apply pw_below_drewN | apply below_drew1) | exact HB.out)⟩⟩
           ·replace c15 := Bool.eq_false_iff.mpr c15
            subst c15
            have H1 : (if x9_2.length < 8796093022208 then (copselaw15_wider.l1 kj8 l0 l1 l2 x7_1 t765 (x9_2 ++ [t765]) true (wrap64 (x11_2 + 1))) else (none)) = some r := by rw [if_neg (show ¬ (false = true) by decide)] at H; exact H
            clear H
            have H := H1
            clear H1
            by_cases c16 : x9_2.length < 8796093022208
            ·rw [if_pos c16] at H
             have LMc16 := Aside0.mk c16
             clear c16
             obtain ⟨y769, hy769⟩ : ∃ y_ : List ByteArray, y_ = (x9_2 ++ [t765]) := ⟨_, rfl⟩
             replace H : (copselaw15_wider.l1 kj8 l0 l1 l2 x7_1 t765 y769 true (wrap64 (x11_2 + 1))) = some r := by first | (rw [hy769]; with_reducible exact H) | (have H2_ := (Option.bind_some _ _).symm.trans H; rw [hy769]; with_reducible exact H2_) | (have H2_ := (Option.bind_some _ _).symm.trans H; with_reducible exact H2_) | with_reducible exact H | (rw [hy769]; exact H) | exact H
             have Ny769 := Aside0.mk hy769
             clear hy769
             have H' := Aside0.mk H
             clear H
             go_wp2_with (first | ((with_reducible refine gate_builtin (b := .append) (xs := #[.tmp 48, .tmp 50]) rfl ?_); (try (refine gate_guard (by rfl) ?_; dsimp only)); at_builtin; refine Kd.R_append Kd.string (w0 := w) w.heap.size rfl (.tmp 48) (.tmp 50) 22 9 (.string ⟨#[]⟩) 16 rfl Tryd.underlying22 info9 rfl (by decide) (by omega) u9 x9_2 t765 [.string t765] (fun _ => True) (fun _ => False) rfl rfl ?aP (fun _ hk => hk.elim) ?aF ?aO ?aB ?aS ?aL ?_; (case aP => exact rfl); (case aB => exact (by repeat (first | (with_reducible first | exact HB.out | apply below_alloc | apply pw_below_drewN | apply below_drew1) | exact HB.out))); (case aF => exact (fun _ _ => trivial)); (case aO => exact (by (with_reducible repeat (first | apply Kd.R_alloc | apply Kd.R_drewN | apply Kd.R_drew)); exact HO_9.out)); (case aS => exact (below_size (by repeat (first | (with_reducible first | exact HB.out | apply below_alloc | apply pw_below_drewN | apply below_drew1) | exact HB.out)))); (case aL => have := LMc16.out; omega); intro v770 w17 ho hb hg hat; rw [← Ny769.out] at ho; have n0_ := Aside0.mk (hb); have n1_ := Aside0.mk (ho); clear HB; clear HO_9; have HB := n0_; have HO771 := n1_; clear n0_ n1_; clear ho hb hg hat))
             go_roundg kj8
             case measure => have := HK1.out; have := HK2.out; have := HJ8.out; omega
             case rel => exact ⟨(y769), (true), (wrap64 (x11_2 + 1)), (by first | rfl | (simp; done) | (simp [*]; done)), (by first | rfl | (simp; done) | (simp [*]; done)), H', ⟨by have := HK1.out; have := HK2.out; have := HJ8.out; omega⟩, ⟨by (with_reducible repeat (first | apply Kd.R_alloc | apply Kd.R_drewN | apply Kd.R_drew)); exact HO771.out⟩, ⟨by repeat (first | (with_reducible first | exact HB.out | apply below_alloc | apply pw_below_drewN | apply below_drew1) | exact HB.out)⟩⟩
            ·rw [if_neg c16] at H
             exact absurd H (by simp)
          ·replace c14 := Bool.eq_false_iff.mpr c14
           subst c14
           have H1 : (if 0 ≤ x11_2 then (if x11_2 < (l1.length : Int) then (if x9_2.length < 8796093022208 then (copselaw15_wider.l1 kj8 l0 l1 l2 x7_1 t765 (x9_2 ++ [rdOf ByteArray.empty l1 x11_2]) x10_2 (wrap64 (x11_2 + 1))) else (none)) else (none)) else (none)) = some r := by rw [if_neg (show ¬ (false = true) by decide)] at H; exact H
           clear H
           have H := H1
           clear H1
           by_cases c18 : 0 ≤ x11_2
           ·rw [if_pos c18] at H
            have c18b0 : decide (0 ≤ x11_2) = true := decide_eq_true c18
            clear c18
            by_cases c19 : x11_2 < (l1.length : Int)
            ·rw [if_pos c19] at H
             have c19b0 : decide (x11_2 < (l1.length : Int)) = true := decide_eq_true c19
             clear c19
             by_cases c20 : x9_2.length < 8796093022208
             ·rw [if_pos c20] at H
              have LMc20 := Aside0.mk c20
              clear c20
              obtain ⟨y773, hy773⟩ : ∃ y_ : List ByteArray, y_ = (x9_2 ++ [rdOf ByteArray.empty l1 x11_2]) := ⟨_, rfl⟩
              replace H : (copselaw15_wider.l1 kj8 l0 l1 l2 x7_1 t765 y773 x10_2 (wrap64 (x11_2 + 1))) = some r := by first | (rw [hy773]; with_reducible exact H) | (have H2_ := (Option.bind_some _ _).symm.trans H; rw [hy773]; with_reducible exact H2_) | (have H2_ := (Option.bind_some _ _).symm.trans H; with_reducible exact H2_) | with_reducible exact H | (rw [hy773]; exact H) | exact H
              have Ny773 := Aside0.mk hy773
              clear hy773
              have H' := Aside0.mk H
              clear H
              have p772 : 0 ≤ (x11_2 : Int) := of_decide_eq_true (by first | (with_reducible assumption) | assumption)
              have q772 : x11_2 < (l1.length : Int) := of_decide_eq_true (by first | (with_reducible assumption) | assumption)
              obtain ⟨ad772, e772, hx772_0⟩ := Kd.at_string HR1.out x11_2 p772 q772
              obtain rfl : ad764 = ad772 := (by injection e772)
              replace hx772_0 := (HB.out.cell (World.block_lt_of_cell? w _ hx772_0)).trans hx772_0
              replace p772 := eq_true p772
              replace q772 := eq_true q772
              go_wp2_with (first | ((with_reducible refine gate_builtin (b := .append) (xs := #[.tmp 52, .tmp 57]) rfl ?_); (try (refine gate_guard (by rfl) ?_; dsimp only)); at_builtin; refine Kd.R_append Kd.string (w0 := w) w.heap.size rfl (.tmp 52) (.tmp 57) 22 9 (.string ⟨#[]⟩) 16 rfl Tryd.underlying22 info9 rfl (by decide) (by omega) u9 x9_2 (rdOf ByteArray.empty l1 x11_2) [.string (rdOf ByteArray.empty l1 x11_2)] (fun _ => True) (fun _ => False) rfl rfl ?aP (fun _ hk => hk.elim) ?aF ?aO ?aB ?aS ?aL ?_; (case aP => exact rfl); (case aB => exact (by repeat (first | (with_reducible first | exact HB.out | apply below_alloc | apply pw_below_drewN | apply below_drew1) | exact HB.out))); (case aF => exact (fun _ _ => trivial)); (case aO => exact (by (with_reducible repeat (first | apply Kd.R_alloc | apply Kd.R_drewN | apply Kd.R_drew)); exact HO_9.out)); (case aS => exact (below_size (by repeat (first | (with_reducible first | exact HB.out | apply below_alloc | apply pw_below_drewN | apply below_drew1) | exact HB.out)))); (case aL => have := LMc20.out; omega); intro v774 w21 ho hb hg hat; rw [← Ny773.out] at ho; have n0_ := Aside0.mk (hb); have n1_ := Aside0.mk (ho); clear HB; clear HO_9; have HB := n0_; have HO775 := n1_; clear n0_ n1_; clear ho hb hg hat))
              go_roundg kj8
              case measure => have := HK1.out; have := HK2.out; have := HJ8.out; omega
              case rel => exact ⟨(y773), (x10_2), (wrap64 (x11_2 + 1)), (by first | rfl | (simp; done) | (simp [*]; done)), (by first | rfl | (simp; done) | (simp [*]; done)), H', ⟨by have := HK1.out; have := HK2.out; have := HJ8.out; omega⟩, ⟨by (with_reducible repeat (first | apply Kd.R_alloc | apply Kd.R_drewN | apply Kd.R_drew)); exact HO775.out⟩, ⟨by repeat (first | (with_reducible first | exact HB.out | apply below_alloc | apply pw_below_drewN | apply below_drew1) | exact HB.out)⟩⟩
             ·rw [if_neg c20] at H
              exact absurd H (by simp)
            ·rw [if_neg c19] at H
             exact absurd H (by simp)
           ·rw [if_neg c18] at H
            exact absurd H (by simp)
       ·rw [if_neg c8] at H
        have c8b0 : decide (x11_2 < (l1.length : Int)) = false := decide_eq_false c8
        clear c8
        replace H := Option.bind_eq_some_iff.mp H
        obtain ⟨⟨t776, t777⟩, A220, H⟩ := H
        replace H : ((copselaw15_num.f t777).bind fun t780 => (if t780 = 0 then (copselaw15_wider.j3 k2 l0 l1 l2 x7_1 x9_2 (decide ((t776.length : Int) < (l2.length : Int)))) else (copselaw15_wider.j3 k2 l0 l1 l2 x7_1 x9_2 true))) = some r := H
        have A22 := Aside0.mk A220
        clear A220
        have HC23 := Aside0.mk H
        clear H
        obtain ⟨Ao24, co24, eo24⟩ := Kd.R_slice HO_9.out
        subst eo24
        go_upto_region 16 with (first | ((with_reducible refine gate_callee (f := 28) rfl ?_); refine goesL_ (some 62) rfl rfl Tryd.func28 (by kernel_rfl) rfl #[.slice A0 l0.length c0, .slice Ao24 x9_2.length co24] rfl (by (try simp only [List.map_toArray, List.map_cons, List.map_nil]); first | done | rfl | (simp only [List.length_drop, List.length_take]; rfl)) ?_; (with_reducible refine (cone_View.calls k2 _ _ l0 _ _ x9_2 t776 t777 _ ?side1 ?side2 ?side3 ?side4 A22.out).mono ?_); (case side1 => repeat (first | exact (Kd.C_below HR0.out HB.out) | (with_reducible refine Kd.C_alloc ?_ _) | (with_reducible refine Kd.C_drewN ?_ _) | (with_reducible refine Kd.C_drew ?_))); (case side2 => exact HC0.out); (case side3 => repeat (first | exact (Kd.R_reads' HO_9.out).2.2 | (with_reducible refine Kd.C_alloc ?_ _) | (with_reducible refine Kd.C_drewN ?_ _) | (with_reducible refine Kd.C_drew ?_))); (case side4 => exact (Kd.R_reads' HO_9.out).2.1); rintro e w25 ⟨v778, rfl, ho0, hb⟩; refine ⟨_, rfl, ?_⟩; have n0_ := Aside0.mk (Kd.R_below (by (with_reducible repeat (first | apply Kd.R_alloc | apply Kd.R_drewN | apply Kd.R_drew)); exact HO_9.out) hb); have n1_ := Aside0.mk (Kd.R_lower ho0 (below_size (by repeat (first | (with_reducible first | exact HB.out | apply below_alloc | apply pw_below_drewN | apply below_drew1) | exact HB.out)))); have n2_ := Aside0.mk (below_step (by repeat (first | (with_reducible first | exact HB.out | apply below_alloc | apply pw_below_drewN | apply below_drew1) | exact HB.out)) hb); clear HO_9; clear HB; have HO_9 := n0_; have HO779 := n1_; have HB := n2_; clear n0_ n1_ n2_; (try clear hb); (try clear hb2); (try clear hk); (try clear hi); (try clear ho0)))
        (try simp only [Act.put, List.setIfInBounds_toArray, List.set_cons_zero, List.set_cons_succ])
        go_cut [74] (fun v74 wc => ∃ (kq : Nat) (x74_22 : Bool), v74 = .bool x74_22 ∧ Aside0 (copselaw15_wider.j3 kq l0 l1 l2 x7_1 x9_2 x74_22 = some r) ∧ Aside0 (kq ≤ k2) ∧ Aside0 (Kd.R Kd.string 9 wc w.heap.size (fun _ => True) (.slice Ao24 x9_2.length co24) x9_2) ∧ Aside0 (Below w.heap.size w wc))
        case first =>
         have H := HC23.out
         clear HC23
         replace H := Option.bind_eq_some_iff.mp H
         obtain ⟨t780, A260, H⟩ := H
         replace H : (if t780 = 0 then (copselaw15_wider.j3 k2 l0 l1 l2 x7_1 x9_2 (decide ((t776.length : Int) < (l2.length : Int)))) else (copselaw15_wider.j3 k2 l0 l1 l2 x7_1 x9_2 true)) = some r := H
         have A26 := Aside0.mk A260
         clear A260
         by_cases c27 : t780 = 0
         ·rw [if_pos c27] at H
          have c27b0 : (t780 == 0) = true := beq_iff_eq.mpr c27
          have c27b1 : (t780 != 0) = false := bne_eq_false_iff_eq.mpr c27
          clear c27
          (first | rw [c27b0] | (simp only [i64_w, i32_w]; rw [c27b0]) | skip)
          have H' := Aside0.mk H
          clear H
          go_wp2_with (first | ((with_reducible refine gate_callee (f := 31) rfl ?_); refine goesL_ (some 66) rfl rfl Tryd.func31 (by kernel_rfl) rfl #[.int .i64 t777] rfl (by (try simp only [List.map_toArray, List.map_cons, List.map_nil]); first | done | rfl | (simp only [List.length_drop, List.length_take]; rfl)) ?_; (with_reducible refine (copselaw15_num.calls t777 t780 _ A26.out).mono ?_); rintro e w' ⟨rfl, ⟨nd, rfl⟩⟩; refine ⟨_, rfl, ?_⟩; obtain ⟨Ao28, co28, eo28⟩ := Kd.R_slice HO779.out; subst eo28))
          go_meet
          case rel => exact ⟨_, (decide ((t776.length : Int) < (l2.length : Int))), (by first | rfl | (simp; done) | (simp [*]; done)), H', ⟨by have := HK1.out; have := HK2.out; first | omega | exact Nat.le_refl _⟩, ⟨by (with_reducible repeat (first | apply Kd.R_alloc | apply Kd.R_drewN | apply Kd.R_drew)); exact HO_9.out⟩, ⟨by repeat (first | (with_reducible first | exact HB.out | apply below_alloc | apply pw_below_drewN | apply below_drew1) | exact HB.out)⟩⟩
         ·rw [if_neg c27] at H
          have c27b0 : (t780 == 0) = false := beq_eq_false_iff_ne.mpr c27
          have c27b1 : (t780 != 0) = true := bne_iff_ne.mpr c27
          (first | rw [c27b0] | (simp only [i64_w, i32_w]; rw [c27b0]) | skip)
          have H' := Aside0.mk H
          clear H
          go_wp2_with (first | ((with_reducible refine gate_callee (f := 31) rfl ?_); refine goesL_ (some 66) rfl rfl Tryd.func31 (by kernel_rfl) rfl #[.int .i64 t777] rfl (by (try simp only [List.map_toArray, List.map_cons, List.map_nil]); first | done | rfl | (simp only [List.length_drop, List.length_take]; rfl)) ?_; (with_reducible refine (copselaw15_num.calls t777 t780 _ A26.out).mono ?_); rintro e w' ⟨rfl, ⟨nd, rfl⟩⟩; refine ⟨_, rfl, ?_⟩))
          go_meet
          case rel => exact ⟨_, (true), (by first | rfl | (simp; done) | (simp [*]; done)), H', ⟨by have := HK1.out; have := HK2.out; first | omega | exact Nat.le_refl _⟩, ⟨by (with_reducible repeat (first | apply Kd.R_alloc | apply Kd.R_drewN | apply Kd.R_drew)); exact HO_9.out⟩, ⟨by repeat (first | (with_reducible first | exact HB.out | apply below_alloc | apply pw_below_drewN | apply below_drew1) | exact HB.out)⟩⟩
        case rest =>
         clear HC23
         try clear c1
         try clear c2
         try clear p2
         try clear c3
         try clear c4
         try clear c4b0
         try clear c5
         try clear c5b0
         try clear p6
         try clear p7
         try clear q7
         try clear hx7
         try clear c8
         try clear c8b0
         try clear c10
         try clear c10b0
         try clear c11
         try clear c11b0
         try clear c11b1
         try clear c14
         try clear c15
         try clear c16
         try clear c18
         try clear c18b0
         try clear c19
         try clear c19b0
         try clear c20
         try clear c23
         try clear c27
         try clear c27b0
         try clear c27b1
         try clear c28
         try clear hx764_0
         try clear hx766_0
         try clear hx767_0
         try clear hx772_0
         try clear p2
         try clear p7
         try clear p764
         try clear p766
         try clear p767
         try clear p772
         try clear q7
         try clear q764
         try clear q766
         try clear q767
         try clear q772
         obtain ⟨kq, x74_22, rfl, HA, HJ22, HO_9, HB⟩ := hcut
         cases kq with
         | zero => exact absurd HA.out (by simp [copselaw15_wider.j3])
         | succ kj22 =>
          have H := HA.out
          clear HA
          simp only [copselaw15_wider.j3] at H
          by_cases c29 : x74_22 = true
          ·subst c29
           have H1 : (some false) = some r := by rw [if_pos rfl] at H; exact H
           clear H
           have H := H1
           clear H1
           obtain rfl := Option.some.inj H
           go_wp2
           go_ret
           exact ⟨by first | rfl | (simp [errW_none, errW_some] <;> rfl) | (simp [*, errW_none, errW_some] <;> rfl), by repeat (first | (with_reducible first | exact HB.out | apply below_alloc | apply pw_below_drewN | apply below_drew1) | exact HB.out)⟩
          ·replace c29 := Bool.eq_false_iff.mpr c29
           subst c29
           have H1 : (copselaw15_wider.l2 kj22 l0 l1 l2 x7_1 x9_2 0) = some r := by rw [if_neg (show ¬ (false = true) by decide)] at H; exact H
           clear H
           have H := H1
           clear H1
           have H' := Aside0.mk H
           clear H
           go_wp2
           go_loopg [14] kj22 (fun kq v14 w' => ∃ (x14_4 : Int), v14 = .int .i64 x14_4 ∧ Aside0 (copselaw15_wider.l2 kq l0 l1 l2 x7_1 x9_2 x14_4 = some r) ∧ Aside0 (kq ≤ kj22) ∧ Aside0 (Kd.R Kd.string 9 w' w.heap.size (fun _ => True) (.slice Ao24 x9_2.length co24) x9_2) ∧ Aside0 (Below w.heap.size w w'))
           case atStart => exact ⟨(0), (by first | rfl | (simp; done) | (simp [*]; done)), H', ⟨Nat.le_refl _⟩, ⟨by (with_reducible repeat (first | apply Kd.R_alloc | apply Kd.R_drewN | apply Kd.R_drew)); exact HO_9.out⟩, ⟨by repeat (first | (with_reducible first | exact HB.out | apply below_alloc | apply pw_below_drewN | apply below_drew1) | exact HB.out)⟩⟩
           case round =>
            clear H'
            try clear c1
            try clear c2
            try clear p2
            try clear c3
            try clear c4
            try clear c4b0
            try clear c5
            try clear c5b0
            try clear p6
            try clear p7
            try clear q7
            try clear hx7
            try clear c8
            try clear c8b0
            try clear c10
            try clear c10b0
            try clear c11
            try clear c11b0
            try clear c11b1
            try clear c14
            try clear c15
            try clear c16
            try clear c18
            try clear c18b0
            try clear c19
            try clear c19b0
            try clear c20
            try clear c23
            try clear c27
            try clear c27b0
            try clear c27b1
            try clear c28
            try clear c29
            try clear hx764_0
            try clear hx766_0
            try clear hx767_0
            try clear hx772_0
            try clear p2
            try clear p6
            try clear p7
            try clear p764
            try clear p766
            try clear p767
            try clear p772
            try clear q7
            try clear q764
            try clear q766
            try clear q767
            try clear q772
            obtain ⟨x14_4, rfl, HA, HK4, HO_9, HB⟩ := hrel
            cases gk with
            | zero => exact absurd HA.out (by simp [copselaw15_wider.l2])
            | succ k4 =>
             have H := HA.out
             clear HA
             simp only [copselaw15_wider.l2] at H
             by_cases c30 : x14_4 < (l2.length : Int)
             ·rw [if_pos c30] at H
              have c30b0 : decide (x14_4 < (l2.length : Int)) = true := decide_eq_true c30
              clear c30
              by_cases c31 : 0 ≤ x14_4
              ·rw [if_pos c31] at H
               have c31b0 : decide (0 ≤ x14_4) = true := decide_eq_true c31
               clear c31
               replace H := Option.bind_eq_some_iff.mp H
               obtain ⟨t782, A320, H⟩ := H
               replace H : (if t782 = true then (copselaw15_wider.l2 k4 l0 l1 l2 x7_1 x9_2 (wrap64 (x14_4 + 1))) else (some false)) = some r := H
               have A32 := Aside0.mk A320
               clear A320
               by_cases c33 : t782 = true
               ·subst c33
                have H1 : (copselaw15_wider.l2 k4 l0 l1 l2 x7_1 x9_2 (wrap64 (x14_4 + 1))) = some r := by rw [if_pos rfl] at H; exact H
                clear H
                have H := H1
                clear H1
                have H' := Aside0.mk H
                clear H
                have p781 : 0 ≤ (x14_4 : Int) := of_decide_eq_true (by first | (with_reducible assumption) | assumption)
                have q781 : x14_4 < (l2.length : Int) := of_decide_eq_true (by first | (with_reducible assumption) | assumption)
                obtain ⟨ad781, e781, hx781_0, hx781_1, hx781_2, hx781_3⟩ := at_T48 HR2.out x14_4 p781 q781
                cases e781
                replace hx781_0 := (HB.out.cell (World.block_lt_of_cell? w _ hx781_0)).trans hx781_0
                replace hx781_1 := (HB.out.cell (World.block_lt_of_cell? w _ hx781_1)).trans hx781_1
                replace hx781_2 := (HB.out.cell (World.block_lt_of_cell? w _ hx781_2)).trans hx781_2
                replace hx781_3 := (HB.out.cell (World.block_lt_of_cell? w _ hx781_3)).trans hx781_3
                replace p781 := eq_true p781
                replace q781 := eq_true q781
                go_wp2_with (first | ((with_reducible refine gate_callee (f := 34) rfl ?_); refine goesL_ (some 87) rfl rfl Tryd.func34 (by kernel_rfl) rfl #[.slice Ao24 x9_2.length co24, .string ((rd_T48 l2 x14_4).f0)] rfl (by (try simp only [List.map_toArray, List.map_cons, List.map_nil]); first | done | rfl | (simp only [List.length_drop, List.length_take]; rfl)) ?_; (with_reducible refine (cone_Shows.calls k4 _ _ x9_2 ((rd_T48 l2 x14_4).f0) true _ ?side1 ?side2 A32.out).mono ?_); (case side1 => repeat (first | exact (Kd.R_reads' HO_9.out).2.2 | (with_reducible refine Kd.C_alloc ?_ _) | (with_reducible refine Kd.C_drewN ?_ _) | (with_reducible refine Kd.C_drew ?_))); (case side2 => exact (Kd.R_reads' HO_9.out).2.1); rintro e w34 ⟨rfl, hb⟩; refine ⟨_, rfl, ?_⟩; have n0_ := Aside0.mk (Kd.R_below (by (with_reducible repeat (first | apply Kd.R_alloc | apply Kd.R_drewN | apply Kd.R_drew)); exact HO_9.out) hb); have n1_ := Aside0.mk (below_step (by repeat (first | (with_reducible first | exact HB.out | apply below_alloc | apply pw_below_drewN | apply below_drew1) | exact HB.out)) hb); clear HO_9; clear HB; have HO_9 := n0_; have HB := n1_; clear n0_ n1_; (try clear hb); (try clear hb2); (try clear hk); (try clear hi)))
                go_roundg k4
                case measure => have := HK1.out; have := HK2.out; have := HJ22.out; have := HK4.out; omega
                case rel => exact ⟨(wrap64 (x14_4 + 1)), (by first | rfl | (simp; done) | (simp [*]; done)), H', ⟨by have := HK1.out; have := HK2.out; have := HJ22.out; have := HK4.out; omega⟩, ⟨by (with_reducible repeat (first | apply Kd.R_alloc | apply Kd.R_drewN | apply Kd.R_drew)); exact HO_9.out⟩, ⟨by repeat (first | (with_reducible first | exact HB.out | apply below_alloc | apply pw_below_drewN | apply below_drew1) | exact HB.out)⟩⟩
               ·replace c33 := Bool.eq_false_iff.mpr c33
                subst c33
                have H1 : (some false) = some r := by rw [if_neg (show ¬ (false = true) by decide)] at H; exact H
                clear H
                have H := H1
                clear H1
                obtain rfl := Option.some.inj H
                have p781 : 0 ≤ (x14_4 : Int) := of_decide_eq_true (by first | (with_reducible assumption) | assumption)
                have q781 : x14_4 < (l2.length : Int) := of_decide_eq_true (by first | (with_reducible assumption) | assumption)
                obtain ⟨ad781, e781, hx781_0, hx781_1, hx781_2, hx781_3⟩ := at_T48 HR2.out x14_4 p781 q781
                cases e781
                replace hx781_0 := (HB.out.cell (World.block_lt_of_cell? w _ hx781_0)).trans hx781_0
                replace hx781_1 := (HB.out.cell (World.block_lt_of_cell? w _ hx781_1)).trans hx781_1
                replace hx781_2 := (HB.out.cell (World.block_lt_of_cell? w _ hx781_2)).trans hx781_2
                replace hx781_3 := (HB.out.cell (World.block_lt_of_cell? w _ hx781_3)).trans hx781_3
                replace p781 := eq_true p781
                replace q781 := eq_true q781
                go_wp2_with (first | ((with_reducible refine gate_callee (f := 34) rfl ?_); refine goesL_ (some 87) rfl rfl Tryd.func34 (by kernel_rfl) rfl #[.slice Ao24 x9_2.length co24, .string ((rd_T48 l2 x14_4).f0)] rfl (by (try simp only [List.map_toArray, List.map_cons, List.map_nil]); first | done | rfl | (simp only [List.length_drop, List.length_take]; rfl)) ?_; (with_reducible refine (cone_Shows.calls k4 _ _ x9_2 ((rd_T48 l2 x14_4).f0) false _ ?side1 ?side2 A32.out).mono ?_); (case side1 => repeat (first | exact (Kd.R_reads' HO_9.out).2.2 | (with_reducible refine Kd.C_alloc ?_ _) | (with_reducible refine Kd.C_drewN ?_ _) | (with_reducible refine Kd.C_drew ?_))); (case side2 => exact (Kd.R_reads' HO_9.out).2.1); rintro e w35 ⟨rfl, hb⟩; refine ⟨_, rfl, ?_⟩; have n0_ := Aside0.mk (Kd.R_below (by (with_reducible repeat (first | apply Kd.R_alloc | apply Kd.R_drewN | apply Kd.R_drew)); exact HO_9.out) hb); have n1_ := Aside0.mk (below_step (by repeat (first | (with_reducible first | exact HB.out | apply below_alloc | apply pw_below_drewN | apply below_drew1) | exact HB.out)) hb); clear HO_9; clear HB; have HO_9 := n0_; have HB := n1_; clear n0_ n1_; (try clear hb); (try clear hb2); (try clear hk); (try clear hi)))
                go_ret
                exact ⟨by first | rfl | (simp [errW_none, errW_some] <;> rfl) | (simp [*, errW_none, errW_some] <;> rfl), by repeat (first | (with_reducible first | exact HB.out | apply below_alloc | apply pw_below_drewN | apply below_drew1) | exact HB.out)⟩
              ·rw [if_neg c31] at H
               exact absurd H (by simp)
             ·rw [if_neg c30] at H
              have c30b0 : decide (x14_4 < (l2.length : Int)) = false := decide_eq_false c30
              clear c30
              have H' := Aside0.mk H
              clear H
              go_wp2
              go_roundg k4
              case measure => have := HK1.out; have := HK2.out; have := HJ22.out; have := HK4.out; omega
              case rel => exact ⟨(wrap64 (x7_1 + 1)), (by first | rfl | (simp; done) | (simp [*]; done)), H', ⟨by have := HK1.out; have := HK2.out; have := HJ22.out; have := HK4.out; omega⟩, ⟨by repeat (first | (with_reducible first | exact HB.out | apply below_alloc | apply pw_below_drewN | apply below_drew1) | exact HB.out)⟩⟩
    ·rw [if_neg c5] at H
     exact absurd H (by simp)
   ·rw [if_neg c4] at H
    have c4b0 : decide (x7_1 < (l1.length : Int)) = false := decide_eq_false c4
    clear c4
    obtain rfl := Option.some.inj H
    go_wp2
    go_ret
    exact ⟨by first | rfl | (simp [errW_none, errW_some] <;> rfl) | (simp [*, errW_none, errW_some] <;> rfl), by repeat (first | (with_reducible first | exact HB.out | apply below_alloc | apply pw_below_drewN | apply below_drew1) | exact HB.out)⟩
end Go.Proofs.YtdfkaclflmgkeaaDoor.PAll
