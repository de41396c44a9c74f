/- What functions of the program compute, each with its walk: a contract for every world and every argument of the kind told. -/
import Derived.Test.YtehfogjibhnabaaDoorDfPAllx0
import Derived.Test.YtehfogjibhnabaaDoorDfHandA
namespace Go.Proofs.YtehfogjibhnabaaDoor.PAll
open Go.RowKit Go.Proofs.YtehfogjibhnabaaDoorW.PrintWords Go.Proofs.YtehfogjibhnabaaDoorW.PrintLast Go.Proofs.YtehfogjibhnabaaDoorW.PrintMore
attribute [local go_sem] max2_int min2_int max_two min_two max_three min_three max_four min_four
set_option linter.unusedVariables false
set_option linter.unusedSimpArgs false
attribute [local go_sem high] eqA55 eqA61
def delta_half.f (a0 : ByteArray) (a1 : Bool) (a2_0 : ByteArray) (a2_1 : ByteArray) (a2_2 : Int) (a2_3 : Int) : Option (Bool) := if a1 = true then (some (a2_0.toList == a0.toList)) else (some (a2_0.toList == ([] : List UInt8) && (a2_1.toList == ([] : List UInt8) && (a2_2 == 0 && (a2_3 == 0)))))
set_option maxHeartbeats 8000000 in
set_option maxRecDepth 100000 in
theorem delta_half.calls (a0 : ByteArray) (a1 : Bool) (a2_0 : ByteArray) (a2_1 : ByteArray) (a2_2 : Int) (a2_3 : Int) (r : Bool) (w : World) (h : delta_half.f a0 a1 a2_0 a2_1 a2_2 a2_3 = some r) :
  Calls Tryd.prog 86 #[.string a0, .bool a1, .agg #[.string a2_0, .string a2_1, .int .i64 a2_2, .int .i64 a2_3]] w fun e w' => e = .returned (.bool r) ∧ Below w.heap.size w w' := by
 have hu55 := Tryd.underlying55
 have HB := Aside0.mk (Below.refl w.heap.size w)
 have H : (if a1 = true then (some (a2_0.toList == a0.toList)) else (some (a2_0.toList == ([] : List UInt8) && (a2_1.toList == ([] : List UInt8) && (a2_2 == 0 && (a2_3 == 0)))))) = some r := h
 clear h
 by_cases c4 : a1 = true
 ·subst c4
  rw [if_pos rfl] at H
  have H1 := H
  clear H
  have H := H1
  clear H1
  obtain rfl := Option.some.inj H
  go_enter Tryd.func86, Tryd.ntmps86
  go_wp2_with (first | ((with_reducible refine gate_dst (N := 5) rfl ?_); refine box_event ?hg (N := 5) ?hd (cs := #[.string a2_0, .string a2_1, .int .i64 a2_2, .int .i64 a2_3]) (t := 55) ?hr ?_; (case hd => rfl); (case hg => rfl); (case hr => first | (go_simp; done) | (go_simp; rfl)); intro gb231 hg w5 hbox hb; have n0_ := Aside0.mk (below_step (by repeat (first | (with_reducible first | exact HB.out | apply below_alloc | apply pw_below_drewN | apply below_drew1) | exact HB.out)) hb); have n1_ := Aside0.mk (hbox); have n2_ := Aside0.mk ((by rw [hg]; exact (below_size (by repeat (first | (with_reducible first | exact HB.out | apply below_alloc | apply pw_below_drewN | apply below_drew1) | exact HB.out))) : w.heap.size ≤ gb231)); have n3_ := Aside0.mk ((by rw [hg]; exact (below_size (by repeat (first | (with_reducible first | exact HB.out | apply below_alloc | apply pw_below_drewN | apply below_drew1) | exact HB.out))) : w.heap.size ≤ gb231)); clear HB; have HB := n0_; have BK231 := n1_; have GW231 := n2_; have GE231 := n3_; clear n0_ n1_ n2_ n3_; clear hb hbox hg; have hcz6_0 : w5.cell? ⟨gb231, 0, none⟩ = some (.string a2_0) := (blk_cell BK231.out 0).trans rfl; have hcz6_1 : w5.cell? ⟨gb231, 1, none⟩ = some (.string a2_1) := (blk_cell BK231.out 1).trans rfl; have hcz6_2 : w5.cell? ⟨gb231, 2, none⟩ = some (.int .i64 a2_2) := (blk_cell BK231.out 2).trans rfl; have hcz6_3 : w5.cell? ⟨gb231, 3, none⟩ = some (.int .i64 a2_3) := (blk_cell BK231.out 3).trans rfl; have hfz6_0 := blk_frozen BK231.out 0; have hfz6_1 := blk_frozen BK231.out 1; have hfz6_2 := blk_frozen BK231.out 2; have hfz6_3 := blk_frozen BK231.out 3))
  go_ret
  exact ⟨by first | rfl | (simp [errW_none, errW_some] <;> rfl) | (simp [*, errW_none, errW_some] <;> rfl), by repeat (first | (with_reducible first | exact HB.out | apply below_alloc | apply pw_below_drewN | apply below_drew1 | refine below_set ?_ GE231.out) | exact HB.out)⟩
 ·replace c4 := Bool.eq_false_iff.mpr c4
  subst c4
  have H1 : (some (a2_0.toList == ([] : List UInt8) && (a2_1.toList == ([] : List UInt8) && (a2_2 == 0 && (a2_3 == 0))))) = some r := by rw [if_neg (show ¬ (false = true) by decide)] at H; exact H
  clear H
  have H := H1
  clear H1
  obtain rfl := Option.some.inj H
  go_enter Tryd.func86, Tryd.ntmps86
  go_wp2_with (first | ((with_reducible refine gate_dst (N := 5) rfl ?_); refine box_event ?hg (N := 5) ?hd (cs := #[.string a2_0, .string a2_1, .int .i64 a2_2, .int .i64 a2_3]) (t := 55) ?hr ?_; (case hd => rfl); (case hg => rfl); (case hr => first | (go_simp; done) | (go_simp; rfl)); intro gb231 hg w7 hbox hb; have n0_ := Aside0.mk (below_step (by repeat (first | (with_reducible first | exact HB.out | apply below_alloc | apply pw_below_drewN | apply below_drew1) | exact HB.out)) hb); have n1_ := Aside0.mk (hbox); have n2_ := Aside0.mk ((by rw [hg]; exact (below_size (by repeat (first | (with_reducible first | exact HB.out | apply below_alloc | apply pw_below_drewN | apply below_drew1) | exact HB.out))) : w.heap.size ≤ gb231)); have n3_ := Aside0.mk ((by rw [hg]; exact (below_size (by repeat (first | (with_reducible first | exact HB.out | apply below_alloc | apply pw_below_drewN | apply below_drew1) | exact HB.out))) : w.heap.size ≤ gb231)); clear HB; have HB := n0_; have BK231 := n1_; have GW231 := n2_; have GE231 := n3_; clear n0_ n1_ n2_ n3_; clear hb hbox hg; have hcz8_0 : w7.cell? ⟨gb231, 0, none⟩ = some (.string a2_0) := (blk_cell BK231.out 0).trans rfl; have hcz8_1 : w7.cell? ⟨gb231, 1, none⟩ = some (.string a2_1) := (blk_cell BK231.out 1).trans rfl; have hcz8_2 : w7.cell? ⟨gb231, 2, none⟩ = some (.int .i64 a2_2) := (blk_cell BK231.out 2).trans rfl; have hcz8_3 : w7.cell? ⟨gb231, 3, none⟩ = some (.int .i64 a2_3) := (blk_cell BK231.out 3).trans rfl; have hfz8_0 := blk_frozen BK231.out 0; have hfz8_1 := blk_frozen BK231.out 1; have hfz8_2 := blk_frozen BK231.out 2; have hfz8_3 := blk_frozen BK231.out 3))
  go_ret
  exact ⟨by first | rfl | (simp [errW_none, errW_some] <;> rfl) | (simp [*, errW_none, errW_some] <;> rfl), by repeat (first | (with_reducible first | exact HB.out | apply below_alloc | apply pw_below_drewN | apply below_drew1 | refine below_set ?_ GE231.out) | exact HB.out)⟩
def copselaw06_files.l0 : Nat → List (S55) → List (S55) → Int → Option (Bool)
 | 0, _, _, _ => none
 | k + 1, x0, x1, x5 => if x5 < (x0.length : Int) then (if 0 ≤ x5 then (if x5 < (x1.length : Int) then (if (!((((rd_T55 x0 x5).f0).toList) == (((rd_T55 x1 x5).f0).toList)) || (!((((rd_T55 x0 x5).f1).toList) == (((rd_T55 x1 x5).f1).toList)) || (!(((rd_T55 x0 x5).f2) == ((rd_T55 x1 x5).f2)) || (!(((rd_T55 x0 x5).f3) == ((rd_T55 x1 x5).f3)))))) = true then (some false) else (copselaw06_files.l0 k x0 x1 (wrap64 (x5 + 1)))) else (none)) else (none)) else (some true)
def copselaw06_files.f (k : Nat) (l0 : List (S55)) (l1 : List (S55)) : Option (Bool) := if (l0.length : Int) = (l1.length : Int) then (copselaw06_files.l0 k l0 l1 0) else (some false)
theorem copselaw06_files.mono_l : ∀ k, (∀ y0 y1 y2, LeO (copselaw06_files.l0 k y0 y1 y2) (copselaw06_files.l0 (k + 1) y0 y1 y2))
 | 0 => fun _ _ _ r h => by simp [copselaw06_files.l0] at h
 | k + 1 => by
  have ih0 := copselaw06_files.mono_l k
  ·intro y0 y1 y2
   unfold copselaw06_files.l0
   repeat' first
   | (with_reducible exact ih0 _ _ _)
   | (with_reducible exact LeO.refl _)
   | (with_reducible exact LeO.none _)
   | (with_reducible refine LeO.ite ?_ ?_)
   | (with_reducible refine LeO.bind ?_ (fun _ => ?_))
   | exact ih0 _ _ _
   | exact LeO.none _
   | refine LeO.ite ?_ ?_
   | refine LeO.bind ?_ (fun _ => ?_)
theorem copselaw06_files.mono : ∀ a0 a1 k, LeO (copselaw06_files.f k a0 a1) (copselaw06_files.f (k + 1) a0 a1) := by
 intro a0 a1 k
 have ih0 := copselaw06_files.mono_l k
 unfold copselaw06_files.f
 repeat' first
   | (with_reducible exact ih0 _ _ _)
   | (with_reducible exact LeO.refl _)
   | (with_reducible exact LeO.none _)
   | (with_reducible refine LeO.ite ?_ ?_)
   | (with_reducible refine LeO.bind ?_ (fun _ => ?_))
   | exact ih0 _ _ _
   | exact LeO.none _
   | refine LeO.ite ?_ ?_
   | refine LeO.bind ?_ (fun _ => ?_)
set_option maxHeartbeats 8000000 in
set_option maxRecDepth 100000 in
theorem copselaw06_files.calls (k : Nat) (A0 : Option Addr) (c0 : Nat) (l0 : List (S55)) (A1 : Option Addr) (c1 : Nat) (l1 : List (S55)) (r : Bool) (w : World) (hr0 : Kd.C k55 w A0 l0.length l0) (hc0 : l0.length ≤ c0) (hr1 : Kd.C k55 w A1 l1.length l1) (hc1 : l1.length ≤ c1) (h : copselaw06_files.f k l0 l1 = some r) :
  Calls Tryd.prog 28 #[.slice A0 l0.length c0, .slice A1 l1.length c1] w fun e w' => e = .returned (.bool r) ∧ Drawn0 w w' := by
 have hu55 := Tryd.underlying55
 have HR0 := Aside0.mk hr0
 have HC0 := Aside0.mk hc0
 clear hr0 hc0
 have HR1 := Aside0.mk hr1
 have HC1 := Aside0.mk hc1
 clear hr1 hc1
 have H : (if (l0.length : Int) = (l1.length : Int) then (copselaw06_files.l0 k l0 l1 0) else (some false)) = some r := h
 clear h
 by_cases c3 : (l0.length : Int) = (l1.length : Int)
 ·rw [if_pos c3] at H
  have c3b0 : ((l0.length : Int) == (l1.length : Int)) = true := beq_iff_eq.mpr c3
  have c3b1 : ((l0.length : Int) != (l1.length : Int)) = false := bne_eq_false_iff_eq.mpr c3
  have c3b2 : (l0.length == l1.length) = true := by first | simpa using c3 | (simp at c3 ⊢; omega)
  clear c3
  have H' := Aside0.mk H
  clear H
  go_enter Tryd.func28, Tryd.ntmps28
  go_wp2
  repeat (go_quiet (fail); try go_wp2)
  go_loopg [5] k (fun kq v5 w' => ∃ (x5_1 : Int), v5 = .int .i64 x5_1 ∧ Aside0 (copselaw06_files.l0 kq l0 l1 x5_1 = some r) ∧ Aside0 (kq ≤ k) ∧ Drawn0 w w')
  case atStart => exact ⟨(0), (by first | rfl | (simp; done) | (simp [*]; done)), H', ⟨Nat.le_refl _⟩, by repeat (first | exact Drawn0.refl _ | apply Drawn0.step)⟩
  case round =>
   clear H'
   try clear c1
   try clear c2
   try clear p2
   try clear c3
   try clear c3b0
   try clear c3b1
   try clear c3b2
   obtain ⟨x5_1, rfl, HA, HK1, ⟨m1, rfl⟩⟩ := hrel
   cases gk with
   | zero => exact absurd HA.out (by simp [copselaw06_files.l0])
   | succ k1 =>
    have H := HA.out
    clear HA
    simp only [copselaw06_files.l0] at H
    by_cases c4 : x5_1 < (l0.length : Int)
    ·rw [if_pos c4] at H
     have c4b0 := decide_eq_true c4
     clear c4
     by_cases c5 : 0 ≤ x5_1
     ·rw [if_pos c5] at H
      have c5b0 := decide_eq_true c5
      clear c5
      by_cases c6 : x5_1 < (l1.length : Int)
      ·rw [if_pos c6] at H
       have c6b0 := decide_eq_true c6
       clear c6
       by_cases c7 : (!((((rd_T55 l0 x5_1).f0).toList) == (((rd_T55 l1 x5_1).f0).toList)) || (!((((rd_T55 l0 x5_1).f1).toList) == (((rd_T55 l1 x5_1).f1).toList)) || (!(((rd_T55 l0 x5_1).f2) == ((rd_T55 l1 x5_1).f2)) || (!(((rd_T55 l0 x5_1).f3) == ((rd_T55 l1 x5_1).f3)))))) = true
       ·rw [if_pos c7] at H
        have c7b0 : (!((((rd_T55 l0 x5_1).f0).toList) == (((rd_T55 l1 x5_1).f0).toList)) || (!((((rd_T55 l0 x5_1).f1).toList) == (((rd_T55 l1 x5_1).f1).toList)) || (!(((rd_T55 l0 x5_1).f2) == ((rd_T55 l1 x5_1).f2)) || (!(((rd_T55 l0 x5_1).f3) == ((rd_T55 l1 x5_1).f3)))))) = true := c7
        clear c7
        obtain rfl := Option.some.inj H
        have p241 : 0 ≤ (x5_1 : Int) := of_decide_eq_true (by first | (with_reducible assumption) | assumption)
        have q241 : x5_1 < (l0.length : Int) := of_decide_eq_true (by first | (with_reducible assumption) | assumption)
        obtain ⟨ad241, e241, hx241_0, hx241_1, hx241_2, hx241_3⟩ := at_T55 HR0.out x5_1 p241 q241
        cases e241
        replace p241 := eq_true p241
        replace q241 := eq_true q241
        have p242 : 0 ≤ (x5_1 : Int) := of_decide_eq_true (by first | (with_reducible assumption) | assumption)
        have q242 : x5_1 < (l1.length : Int) := of_decide_eq_true (by first | (with_reducible assumption) | assumption)
        obtain ⟨ad242, e242, hx242_0, hx242_1, hx242_2, hx242_3⟩ := at_T55 HR1.out x5_1 p242 q242
        cases e242
        replace p242 := eq_true p242
        replace q242 := eq_true q242
        go_wp2
        repeat (go_quiet (fail); try go_wp2)
        go_ret
        exact ⟨by first | rfl | (simp; done) | (simp [*]; done), by repeat (first | exact Drawn0.refl _ | apply Drawn0.step)⟩
       ·rw [if_neg c7] at H
        have c7b0 : (!((((rd_T55 l0 x5_1).f0).toList) == (((rd_T55 l1 x5_1).f0).toList)) || (!((((rd_T55 l0 x5_1).f1).toList) == (((rd_T55 l1 x5_1).f1).toList)) || (!(((rd_T55 l0 x5_1).f2) == ((rd_T55 l1 x5_1).f2)) || (!(((rd_T55 l0 x5_1).f3) == ((rd_T55 l1 x5_1).f3)))))) = false := by simpa using c7
        clear c7
        have H' := Aside0.mk H
        clear H
        have p241 : 0 ≤ (x5_1 : Int) := of_decide_eq_true (by first | (with_reducible assumption) | assumption)
        have q241 : x5_1 < (l0.length : Int) := of_decide_eq_true (by first | (with_reducible assumption) | assumption)
        obtain ⟨ad241, e241, hx241_0, hx241_1, hx241_2, hx241_3⟩ := at_T55 HR0.out x5_1 p241 q241
        cases e241
        replace p241 := eq_true p241
        replace q241 := eq_true q241
        have p242 : 0 ≤ (x5_1 : Int) := of_decide_eq_true (by first | (with_reducible assumption) | assumption)
        have q242 : x5_1 < (l1.length : Int) := of_decide_eq_true (by first | (with_reducible assumption) | assumption)
        obtain ⟨ad242, e242, hx242_0, hx242_1, hx242_2, hx242_3⟩ := at_T55 HR1.out x5_1 p242 q242
        cases e242
        replace p242 := eq_true p242
        replace q242 := eq_true q242
        go_wp2
        repeat (go_quiet (fail); try go_wp2)
        go_roundg k1
        case measure => have := HK1.out; omega
        case rel => exact ⟨(wrap64 (x5_1 + 1)), (by first | rfl | (simp; done) | (simp [*]; done)), H', ⟨by have := HK1.out; omega⟩, by repeat (first | exact Drawn0.refl _ | apply Drawn0.step)⟩
      ·rw [if_neg c6] at H
       exact absurd H (by simp)
     ·rw [if_neg c5] at H
      exact absurd H (by simp)
    ·rw [if_neg c4] at H
     have c4b0 := decide_eq_false c4
     clear c4
     obtain rfl := Option.some.inj H
     go_wp2
     repeat (go_quiet (fail); try go_wp2)
     go_ret
     exact ⟨by first | rfl | (simp; done) | (simp [*]; done), by repeat (first | exact Drawn0.refl _ | apply Drawn0.step)⟩
 ·rw [if_neg c3] at H
  have c3b0 : ((l0.length : Int) == (l1.length : Int)) = false := beq_eq_false_iff_ne.mpr c3
  have c3b1 : ((l0.length : Int) != (l1.length : Int)) = true := bne_iff_ne.mpr c3
  have c3b2 : (l0.length == l1.length) = false := by first | simpa using c3 | (simp at c3 ⊢; omega)
  obtain rfl := Option.some.inj H
  go_enter Tryd.func28, Tryd.ntmps28
  go_wp2
  repeat (go_quiet (fail); try go_wp2)
  go_ret
  exact ⟨by first | rfl | (simp; done) | (simp [*]; done), by repeat (first | exact Drawn0.refl _ | apply Drawn0.step)⟩
def delta_Paths.l0 : Nat → List ByteArray → List (S61) → Int → Int → Option (List ByteArray)
 | 0, _, _, _, _ => none
 | k + 1, x3, x6, x7, x8 => if x8 < x7 then (if 0 ≤ x8 then (if x8 < (x6.length : Int) then (if x3.length < 8796093022208 then (delta_Paths.l0 k (x3 ++ [(rd_T61 x6 x8).f0]) x6 x7 (wrap64 (x8 + 1))) else (none)) else (none)) else (none)) else (some x3)
def delta_Paths.f (k : Nat) (l0 : List (S61)) : Option (List ByteArray) := delta_Paths.l0 k ([] : List ByteArray) l0 (l0.length : Int) 0
theorem delta_Paths.mono_l : ∀ k, (∀ y0 y1 y2 y3, LeO (delta_Paths.l0 k y0 y1 y2 y3) (delta_Paths.l0 (k + 1) y0 y1 y2 y3))
 | 0 => fun _ _ _ _ r h => by simp [delta_Paths.l0] at h
 | k + 1 => by
  have ih0 := delta_Paths.mono_l k
  ·intro y0 y1 y2 y3
   unfold delta_Paths.l0
   repeat' first
   | (with_reducible exact ih0 _ _ _ _)
   | (with_reducible exact LeO.refl _)
   | (with_reducible exact LeO.none _)
   | (with_reducible refine LeO.ite ?_ ?_)
   | (with_reducible refine LeO.bind ?_ (fun _ => ?_))
   | exact ih0 _ _ _ _
   | exact LeO.none _
   | refine LeO.ite ?_ ?_
   | refine LeO.bind ?_ (fun _ => ?_)
theorem delta_Paths.mono : ∀ a0 k, LeO (delta_Paths.f k a0) (delta_Paths.f (k + 1) a0) := by
 intro a0 k
 have ih0 := delta_Paths.mono_l k
 unfold delta_Paths.f
 repeat' first
   | (with_reducible exact ih0 _ _ _ _)
   | (with_reducible exact LeO.refl _)
   | (with_reducible exact LeO.none _)
   | (with_reducible refine LeO.ite ?_ ?_)
   | (with_reducible refine LeO.bind ?_ (fun _ => ?_))
   | exact ih0 _ _ _ _
   | exact LeO.none _
   | refine LeO.ite ?_ ?_
   | refine LeO.bind ?_ (fun _ => ?_)
set_option maxHeartbeats 8000000 in
set_option maxRecDepth 100000 in
theorem delta_Paths.calls (k : Nat) (A0 : Option Addr) (c0 : Nat) (l0 : List (S61)) (r : List ByteArray) (w : World) (hr0 : Kd.C k61 w A0 l0.length l0) (hc0 : l0.length ≤ c0) (h : delta_Paths.f k l0 = some r) :
  Calls Tryd.prog 30 #[.slice A0 l0.length c0] w fun e w' => ∃ v0_ : Value, e = .returned (v0_) ∧ Kd.R Kd.string 9 w' w.heap.size (fun _ => True) v0_ r ∧ Below w.heap.size w w' := by
 have hu61 := Tryd.underlying61
 have HR0 := Aside0.mk hr0
 have HC0 := Aside0.mk hc0
 clear hr0 hc0
 have HB := Aside0.mk (Below.refl w.heap.size w)
 have H : (delta_Paths.l0 k ([] : List ByteArray) l0 (l0.length : Int) 0) = some r := h
 clear h
 have H' := Aside0.mk H
 clear H
 go_enter Tryd.func30, Tryd.ntmps30
 go_wp2
 go_loopg [3, 8] k (fun kq v3 v8 w' => ∃ (x3_1 : List ByteArray) (x8_1 : Int), v8 = .int .i64 x8_1 ∧ Aside0 (delta_Paths.l0 kq x3_1 l0 (l0.length : Int) x8_1 = some r) ∧ Aside0 (kq ≤ k) ∧ Aside0 (Kd.R Kd.string 9 w' w.heap.size (fun _ => True) v3 x3_1) ∧ Aside0 (Below w.heap.size w w'))
 case atStart => exact ⟨(([] : List ByteArray)), (0), (by first | rfl | (simp; done) | (simp [*]; done)), H', ⟨Nat.le_refl _⟩, ⟨by first | exact Kd.R_nil _ _ _ _ _ | exact Kd.N_nil _ _ _ _ _ | exact Kd.V_nil _ _ _ _ _ | exact Kd.Q_nil _ _ _ _ _ | exact Kd.S_nil _ _ _ _ _⟩, ⟨by repeat (first | (with_reducible first | exact HB.out | apply below_alloc | apply pw_below_drewN | apply below_drew1) | exact HB.out)⟩⟩
 case round =>
  clear H'
  obtain ⟨x3_1, x8_1, rfl, HA, HK1, HO_3, HB⟩ := hrel
  cases gk with
  | zero => exact absurd HA.out (by simp [delta_Paths.l0])
  | succ k1 =>
   have H := HA.out
   clear HA
   simp only [delta_Paths.l0] at H
   by_cases c2 : x8_1 < (l0.length : Int)
   ·rw [if_pos c2] at H
    have c2b0 := decide_eq_true c2
    clear c2
    by_cases c3 : 0 ≤ x8_1
    ·rw [if_pos c3] at H
     have c3b0 := decide_eq_true c3
     clear c3
     by_cases c4 : x8_1 < (l0.length : Int)
     ·rw [if_pos c4] at H
      have c4b0 := decide_eq_true c4
      clear c4
      by_cases c5 : x3_1.length < 8796093022208
      ·rw [if_pos c5] at H
       have LMc5 := Aside0.mk c5
       clear c5
       obtain ⟨y245, hy245⟩ : ∃ y_ : List ByteArray, y_ = (x3_1 ++ [(rd_T61 l0 x8_1).f0]) := ⟨_, rfl⟩
       replace H : (delta_Paths.l0 k1 y245 l0 (l0.length : Int) (wrap64 (x8_1 + 1))) = some r := by first | (rw [hy245]; with_reducible exact H) | (have H2_ := (Option.bind_some _ _).symm.trans H; rw [hy245]; with_reducible exact H2_) | (have H2_ := (Option.bind_some _ _).symm.trans H; with_reducible exact H2_) | with_reducible exact H | (rw [hy245]; exact H) | exact H
       have Ny245 := Aside0.mk hy245
       clear hy245
       have H' := Aside0.mk H
       clear H
       have p243 : 0 ≤ (x8_1 : Int) := of_decide_eq_true (by first | (with_reducible assumption) | assumption)
       have q243 : x8_1 < (l0.length : Int) := of_decide_eq_true (by first | (with_reducible assumption) | assumption)
       obtain ⟨ad243, e243, hx243_0, hx243_1, hx243_2, hx243_3, hx243_4, hx243_5, hx243_6, hx243_7, hx243_8, hx243_9, hx243_10⟩ := at_T61 HR0.out x8_1 p243 q243
       cases e243
       replace hx243_0 := (HB.out.cell (World.block_lt_of_cell? w _ hx243_0)).trans hx243_0
       replace hx243_1 := (HB.out.cell (World.block_lt_of_cell? w _ hx243_1)).trans hx243_1
       replace hx243_2 := (HB.out.cell (World.block_lt_of_cell? w _ hx243_2)).trans hx243_2
       replace hx243_3 := (HB.out.cell (World.block_lt_of_cell? w _ hx243_3)).trans hx243_3
       replace hx243_4 := (HB.out.cell (World.block_lt_of_cell? w _ hx243_4)).trans hx243_4
       replace hx243_5 := (HB.out.cell (World.block_lt_of_cell? w _ hx243_5)).trans hx243_5
       replace hx243_6 := (HB.out.cell (World.block_lt_of_cell? w _ hx243_6)).trans hx243_6
       replace hx243_7 := (HB.out.cell (World.block_lt_of_cell? w _ hx243_7)).trans hx243_7
       replace hx243_8 := (HB.out.cell (World.block_lt_of_cell? w _ hx243_8)).trans hx243_8
       replace hx243_9 := (HB.out.cell (World.block_lt_of_cell? w _ hx243_9)).trans hx243_9
       replace hx243_10 := (HB.out.cell (World.block_lt_of_cell? w _ hx243_10)).trans hx243_10
       replace p243 := eq_true p243
       replace q243 := eq_true q243
       go_wp2_with (first | ((with_reducible refine gate_dst (N := 5) rfl ?_); refine box_event ?hg (N := 5) ?hd (cs := #[.string (⟨#[]⟩ : ByteArray), .bool false, .bool false, .string (⟨#[]⟩ : ByteArray), .string (⟨#[]⟩ : ByteArray), .int .i64 0, .int .i64 0, .string (⟨#[]⟩ : ByteArray), .string (⟨#[]⟩ : ByteArray), .int .i64 0, .int .i64 0]) (t := 61) ?hr ?_; (case hd => rfl); (case hg => rfl); (case hr => first | (go_simp; done) | (go_simp; rfl)); intro gb244 hg w6 hbox hb; have n0_ := Aside0.mk (Kd.R_below (by (with_reducible repeat (first | apply Kd.R_alloc | apply Kd.R_drewN | apply Kd.R_drew)); exact HO_3.out) hb); have n1_ := Aside0.mk (below_step (by repeat (first | (with_reducible first | exact HB.out | apply below_alloc | apply pw_below_drewN | apply below_drew1) | exact HB.out)) hb); have n2_ := Aside0.mk (hbox); have n3_ := Aside0.mk ((by rw [hg]; exact (below_size (by repeat (first | (with_reducible first | exact HB.out | apply below_alloc | apply pw_below_drewN | apply below_drew1) | exact HB.out))) : w.heap.size ≤ gb244)); have n4_ := Aside0.mk ((by rw [hg]; exact (below_size (by repeat (first | (with_reducible first | exact HB.out | apply below_alloc | apply pw_below_drewN | apply below_drew1) | exact HB.out))) : w.heap.size ≤ gb244)); clear HO_3; clear HB; have HO_3 := n0_; have HB := n1_; have BK244 := n2_; have GW244 := n3_; have GE244 := n4_; clear n0_ n1_ n2_ n3_ n4_; clear hb hbox hg; have hcz7_0 : w6.cell? ⟨gb244, 0, none⟩ = some (.string (⟨#[]⟩ : ByteArray)) := (blk_cell BK244.out 0).trans rfl; have hcz7_1 : w6.cell? ⟨gb244, 1, none⟩ = some (.bool false) := (blk_cell BK244.out 1).trans rfl; have hcz7_2 : w6.cell? ⟨gb244, 2, none⟩ = some (.bool false) := (blk_cell BK244.out 2).trans rfl; have hcz7_3 : w6.cell? ⟨gb244, 3, none⟩ = some (.string (⟨#[]⟩ : ByteArray)) := (blk_cell BK244.out 3).trans rfl; have hcz7_4 : w6.cell? ⟨gb244, 4, none⟩ = some (.string (⟨#[]⟩ : ByteArray)) := (blk_cell BK244.out 4).trans rfl; have hcz7_5 : w6.cell? ⟨gb244, 5, none⟩ = some (.int .i64 0) := (blk_cell BK244.out 5).trans rfl; have hcz7_6 : w6.cell? ⟨gb244, 6, none⟩ = some (.int .i64 0) := (blk_cell BK244.out 6).trans rfl; have hcz7_7 : w6.cell? ⟨gb244, 7, none⟩ = some (.string (⟨#[]⟩ : ByteArray)) := (blk_cell BK244.out 7).trans rfl; have hcz7_8 : w6.cell? ⟨gb244, 8, none⟩ = some (.string (⟨#[]⟩ : ByteArray)) := (blk_cell BK244.out 8).trans rfl; have hcz7_9 : w6.cell? ⟨gb244, 9, none⟩ = some (.int .i64 0) := (blk_cell BK244.out 9).trans rfl; have hcz7_10 : w6.cell? ⟨gb244, 10, none⟩ = some (.int .i64 0) := (blk_cell BK244.out 10).trans rfl; have hfz7_0 := blk_frozen BK244.out 0; have hfz7_1 := blk_frozen BK244.out 1; have hfz7_2 := blk_frozen BK244.out 2; have hfz7_3 := blk_frozen BK244.out 3; have hfz7_4 := blk_frozen BK244.out 4; have hfz7_5 := blk_frozen BK244.out 5; have hfz7_6 := blk_frozen BK244.out 6; have hfz7_7 := blk_frozen BK244.out 7; have hfz7_8 := blk_frozen BK244.out 8; have hfz7_9 := blk_frozen BK244.out 9; have hfz7_10 := blk_frozen BK244.out 10) | ((with_reducible refine gate_builtin (b := .append) (xs := #[.tmp 12, .tmp 15]) rfl ?_); at_builtin; refine Kd.R_append Kd.string (w0 := w) w.heap.size rfl (.tmp 12) (.tmp 15) 22 9 (.string ⟨#[]⟩) 16 rfl Tryd.underlying22 info9 rfl (by decide) (by omega) u3 x3_1 ((rd_T61 l0 x8_1).f0) [.string ((rd_T61 l0 x8_1).f0)] (fun _ => True) (fun _ => False) rfl (by first | (go_simp; done) | (go_simp; rfl)) ?aP (fun _ hk => hk.elim) ?aF ?aO ?aB ?aS ?aL ?_; (case aP => exact rfl); (case aB => exact (by repeat (first | (with_reducible first | exact HB.out | apply below_alloc | apply pw_below_drewN | apply below_drew1 | refine below_set ?_ GE244.out) | exact HB.out))); (case aF => exact (fun _ _ => trivial)); (case aO => exact (by (with_reducible repeat (first | apply Kd.R_alloc | apply Kd.R_drewN | apply Kd.R_drew)); exact Kd.R_mono (Kd.R_far (p := ⟨gb244, 10, none⟩) (Kd.R_far (p := ⟨gb244, 9, none⟩) (Kd.R_far (p := ⟨gb244, 8, none⟩) (Kd.R_far (p := ⟨gb244, 7, none⟩) (Kd.R_far (p := ⟨gb244, 6, none⟩) (Kd.R_far (p := ⟨gb244, 5, none⟩) (Kd.R_far (p := ⟨gb244, 4, none⟩) (Kd.R_far (p := ⟨gb244, 3, none⟩) (Kd.R_far (p := ⟨gb244, 2, none⟩) (Kd.R_far (p := ⟨gb244, 1, none⟩) (Kd.R_far (p := ⟨gb244, 0, none⟩) (Kd.R_types HO_3.out BK244.out (by decide)) (fun _ hk => hk.2) (.string ((rd_T61 l0 x8_1).f0))) (fun _ hk => hk.2) (.bool ((rd_T61 l0 x8_1).f1))) (fun _ hk => hk.2) (.bool ((rd_T61 l0 x8_1).f2))) (fun _ hk => hk.2) (.string ((rd_T61 l0 x8_1).f3.f0))) (fun _ hk => hk.2) (.string ((rd_T61 l0 x8_1).f3.f1))) (fun _ hk => hk.2) (.int .i64 ((rd_T61 l0 x8_1).f3.f2))) (fun _ hk => hk.2) (.int .i64 ((rd_T61 l0 x8_1).f3.f3))) (fun _ hk => hk.2) (.string ((rd_T61 l0 x8_1).f4.f0))) (fun _ hk => hk.2) (.string ((rd_T61 l0 x8_1).f4.f1))) (fun _ hk => hk.2) (.int .i64 ((rd_T61 l0 x8_1).f4.f2))) (fun _ hk => hk.2) (.int .i64 ((rd_T61 l0 x8_1).f4.f3))) (fun _ hk => trivial))); (case aS => exact (below_size (by repeat (first | (with_reducible first | exact HB.out | apply below_alloc | apply pw_below_drewN | apply below_drew1 | refine below_set ?_ GE244.out) | exact HB.out)))); (case aL => have := LMc5.out; omega); intro v246 w8 ho hb hg hat; rw [← Ny245.out] at ho; have n0_ := Aside0.mk (blk_grown (g := gb244) (o := .cells #[.string ((rd_T61 l0 x8_1).f0), .bool ((rd_T61 l0 x8_1).f1), .bool ((rd_T61 l0 x8_1).f2), .string ((rd_T61 l0 x8_1).f3.f0), .string ((rd_T61 l0 x8_1).f3.f1), .int .i64 ((rd_T61 l0 x8_1).f3.f2), .int .i64 ((rd_T61 l0 x8_1).f3.f3), .string ((rd_T61 l0 x8_1).f4.f0), .string ((rd_T61 l0 x8_1).f4.f1), .int .i64 ((rd_T61 l0 x8_1).f4.f2), .int .i64 ((rd_T61 l0 x8_1).f4.f3)] 61 (0, 0)) (by (with_reducible repeat (first | refine blk_drewN ?_ _ | refine blk_drew ?_ | refine blk_alloc ?_ _)); refine blk_put (cs := #[.string ((rd_T61 l0 x8_1).f0), .bool ((rd_T61 l0 x8_1).f1), .bool ((rd_T61 l0 x8_1).f2), .string ((rd_T61 l0 x8_1).f3.f0), .string ((rd_T61 l0 x8_1).f3.f1), .int .i64 ((rd_T61 l0 x8_1).f3.f2), .int .i64 ((rd_T61 l0 x8_1).f3.f3), .string ((rd_T61 l0 x8_1).f4.f0), .string ((rd_T61 l0 x8_1).f4.f1), .int .i64 ((rd_T61 l0 x8_1).f4.f2), .int .i64 0]) ?_ 10 _ rfl; (with_reducible repeat (first | refine blk_drewN ?_ _ | refine blk_drew ?_ | refine blk_alloc ?_ _)); refine blk_put (cs := #[.string ((rd_T61 l0 x8_1).f0), .bool ((rd_T61 l0 x8_1).f1), .bool ((rd_T61 l0 x8_1).f2), .string ((rd_T61 l0 x8_1).f3.f0), .string ((rd_T61 l0 x8_1).f3.f1), .int .i64 ((rd_T61 l0 x8_1).f3.f2), .int .i64 ((rd_T61 l0 x8_1).f3.f3), .string ((rd_T61 l0 x8_1).f4.f0), .string ((rd_T61 l0 x8_1).f4.f1), .int .i64 0, .int .i64 0]) ?_ 9 _ rfl; (with_reducible repeat (first | refine blk_drewN ?_ _ | refine blk_drew ?_ | refine blk_alloc ?_ _)); refine blk_put (cs := #[.string ((rd_T61 l0 x8_1).f0), .bool ((rd_T61 l0 x8_1).f1), .bool ((rd_T61 l0 x8_1).f2), .string ((rd_T61 l0 x8_1).f3.f0), .string ((rd_T61 l0 x8_1).f3.f1), .int .i64 ((rd_T61 l0 x8_1).f3.f2), .int .i64 ((rd_T61 l0 x8_1).f3.f3), .string ((rd_T61 l0 x8_1).f4.f0), .string (⟨#[]⟩ : ByteArray), .int .i64 0, .int .i64 0]) ?_ 8 _ rfl; (with_reducible repeat (first | refine blk_drewN ?_ _ | refine blk_drew ?_ | refine blk_alloc ?_ _)); refine blk_put (cs := #[.string ((rd_T61 l0 x8_1).f0), .bool ((rd_T61 l0 x8_1).f1), .bool ((rd_T61 l0 x8_1).f2), .string ((rd_T61 l0 x8_1).f3.f0), .string ((rd_T61 l0 x8_1).f3.f1), .int .i64 ((rd_T61 l0 x8_1).f3.f2), .int .i64 ((rd_T61 l0 x8_1).f3.f3), .string (⟨#[]⟩ : ByteArray), .string (⟨#[]⟩ : ByteArray), .int .i64 0, .int .i64 0]) ?_ 7 _ rfl; (with_reducible repeat (first | refine blk_drewN ?_ _ | refine blk_drew ?_ | refine blk_alloc ?_ _)); refine blk_put (cs := #[.string ((rd_T61 l0 x8_1).f0), .bool ((rd_T61 l0 x8_1).f1), .bool ((rd_T61 l0 x8_1).f2), .string ((rd_T61 l0 x8_1).f3.f0), .string ((rd_T61 l0 x8_1).f3.f1), .int .i64 ((rd_T61 l0 x8_1).f3.f2), .int .i64 0, .string (⟨#[]⟩ : ByteArray), .string (⟨#[]⟩ : ByteArray), .int .i64 0, .int .i64 0]) ?_ 6 _ rfl; (with_reducible repeat (first | refine blk_drewN ?_ _ | refine blk_drew ?_ | refine blk_alloc ?_ _)); refine blk_put (cs := #[.string ((rd_T61 l0 x8_1).f0), .bool ((rd_T61 l0 x8_1).f1), .bool ((rd_T61 l0 x8_1).f2), .string ((rd_T61 l0 x8_1).f3.f0), .string ((rd_T61 l0 x8_1).f3.f1), .int .i64 0, .int .i64 0, .string (⟨#[]⟩ : ByteArray), .string (⟨#[]⟩ : ByteArray), .int .i64 0, .int .i64 0]) ?_ 5 _ rfl; (with_reducible repeat (first | refine blk_drewN ?_ _ | refine blk_drew ?_ | refine blk_alloc ?_ _)); refine blk_put (cs := #[.string ((rd_T61 l0 x8_1).f0), .bool ((rd_T61 l0 x8_1).f1), .bool ((rd_T61 l0 x8_1).f2), .string ((rd_T61 l0 x8_1).f3.f0), .string (⟨#[]⟩ : ByteArray), .int .i64 0, .int .i64 0, .string (⟨#[]⟩ : ByteArray), .string (⟨#[]⟩ : ByteArray), .int .i64 0, .int .i64 0]) ?_ 4 _ rfl; (with_reducible repeat (first | refine blk_drewN ?_ _ | refine blk_drew ?_ | refine blk_alloc ?_ _)); refine blk_put (cs := #[.string ((rd_T61 l0 x8_1).f0), .bool ((rd_T61 l0 x8_1).f1), .bool ((rd_T61 l0 x8_1).f2), .string (⟨#[]⟩ : ByteArray), .string (⟨#[]⟩ : ByteArray), .int .i64 0, .int .i64 0, .string (⟨#[]⟩ : ByteArray), .string (⟨#[]⟩ : ByteArray), .int .i64 0, .int .i64 0]) ?_ 3 _ rfl; (with_reducible repeat (first | refine blk_drewN ?_ _ | refine blk_drew ?_ | refine blk_alloc ?_ _)); refine blk_put (cs := #[.string ((rd_T61 l0 x8_1).f0), .bool ((rd_T61 l0 x8_1).f1), .bool false, .string (⟨#[]⟩ : ByteArray), .string (⟨#[]⟩ : ByteArray), .int .i64 0, .int .i64 0, .string (⟨#[]⟩ : ByteArray), .string (⟨#[]⟩ : ByteArray), .int .i64 0, .int .i64 0]) ?_ 2 _ rfl; (with_reducible repeat (first | refine blk_drewN ?_ _ | refine blk_drew ?_ | refine blk_alloc ?_ _)); refine blk_put (cs := #[.string ((rd_T61 l0 x8_1).f0), .bool false, .bool false, .string (⟨#[]⟩ : ByteArray), .string (⟨#[]⟩ : ByteArray), .int .i64 0, .int .i64 0, .string (⟨#[]⟩ : ByteArray), .string (⟨#[]⟩ : ByteArray), .int .i64 0, .int .i64 0]) ?_ 1 _ rfl; (with_reducible repeat (first | refine blk_drewN ?_ _ | refine blk_drew ?_ | refine blk_alloc ?_ _)); refine blk_put (cs := #[.string (⟨#[]⟩ : ByteArray), .bool false, .bool false, .string (⟨#[]⟩ : ByteArray), .string (⟨#[]⟩ : ByteArray), .int .i64 0, .int .i64 0, .string (⟨#[]⟩ : ByteArray), .string (⟨#[]⟩ : ByteArray), .int .i64 0, .int .i64 0]) ?_ 0 _ rfl; (with_reducible repeat (first | refine blk_drewN ?_ _ | refine blk_drew ?_ | refine blk_alloc ?_ _)); exact BK244.out) hg (Kd.R_ne HO_3.out BK244.out (by decide))); have n1_ := Aside0.mk (hb); have n2_ := Aside0.mk (ho); clear BK244; clear HB; clear HO_3; have BK244 := n0_; have HB := n1_; have HO247 := n2_; clear n0_ n1_ n2_; clear ho hb hg hat))
       go_roundg k1
       case measure => have := HK1.out; omega
       case rel => exact ⟨(y245), (wrap64 (x8_1 + 1)), (by first | rfl | (simp; done) | (simp [*]; done)), H', ⟨by have := HK1.out; omega⟩, ⟨by (with_reducible repeat (first | apply Kd.R_alloc | apply Kd.R_drewN | apply Kd.R_drew)); exact HO247.out⟩, ⟨by repeat (first | (with_reducible first | exact HB.out | apply below_alloc | apply pw_below_drewN | apply below_drew1 | refine below_set ?_ GE244.out) | exact HB.out)⟩⟩
      ·rw [if_neg c5] at H
       exact absurd H (by simp)
     ·rw [if_neg c4] at H
      exact absurd H (by simp)
    ·rw [if_neg c3] at H
     exact absurd H (by simp)
   ·rw [if_neg c2] at H
    have c2b0 := decide_eq_false c2
    clear c2
    obtain rfl := Option.some.inj H
    go_wp2
    go_ret
    exact ⟨_, by first | rfl | (simp [errW_none, errW_some] <;> rfl) | (simp [*, errW_none, errW_some] <;> rfl), by (with_reducible repeat (first | apply Kd.R_alloc | apply Kd.R_drewN | apply Kd.R_drew)); exact HO_3.out, by repeat (first | (with_reducible first | exact HB.out | apply below_alloc | apply pw_below_drewN | apply below_drew1) | exact HB.out)⟩
def copselaw06_texts.l0 : Nat → List ByteArray → List ByteArray → Int → Option (Bool)
 | 0, _, _, _ => none
 | k + 1, x0, x1, x5 => if x5 < (x0.length : Int) then (if 0 ≤ x5 then (if x5 < (x1.length : Int) then (if (rdOf ByteArray.empty x0 x5).toList = (rdOf ByteArray.empty x1 x5).toList then (copselaw06_texts.l0 k x0 x1 (wrap64 (x5 + 1))) else (some false)) else (none)) else (none)) else (some true)
def copselaw06_texts.f (k : Nat) (l0 : List ByteArray) (l1 : List ByteArray) : Option (Bool) := if (l0.length : Int) = (l1.length : Int) then (copselaw06_texts.l0 k l0 l1 0) else (some false)
theorem copselaw06_texts.mono_l : ∀ k, (∀ y0 y1 y2, LeO (copselaw06_texts.l0 k y0 y1 y2) (copselaw06_texts.l0 (k + 1) y0 y1 y2))
 | 0 => fun _ _ _ r h => by simp [copselaw06_texts.l0] at h
 | k + 1 => by
  have ih0 := copselaw06_texts.mono_l k
  ·intro y0 y1 y2
   unfold copselaw06_texts.l0
   repeat' first
   | (with_reducible exact ih0 _ _ _)
   | (with_reducible exact LeO.refl _)
   | (with_reducible exact LeO.none _)
   | (with_reducible refine LeO.ite ?_ ?_)
   | (with_reducible refine LeO.bind ?_ (fun _ => ?_))
   | exact ih0 _ _ _
   | exact LeO.none _
   | refine LeO.ite ?_ ?_
   | refine LeO.bind ?_ (fun _ => ?_)
theorem copselaw06_texts.mono : ∀ a0 a1 k, LeO (copselaw06_texts.f k a0 a1) (copselaw06_texts.f (k + 1) a0 a1) := by
 intro a0 a1 k
 have ih0 := copselaw06_texts.mono_l k
 unfold copselaw06_texts.f
 repeat' first
   | (with_reducible exact ih0 _ _ _)
   | (with_reducible exact LeO.refl _)
   | (with_reducible exact LeO.none _)
   | (with_reducible refine LeO.ite ?_ ?_)
   | (with_reducible refine LeO.bind ?_ (fun _ => ?_))
   | exact ih0 _ _ _
   | exact LeO.none _
   | refine LeO.ite ?_ ?_
   | refine LeO.bind ?_ (fun _ => ?_)
set_option maxHeartbeats 8000000 in
set_option maxRecDepth 100000 in
theorem copselaw06_texts.calls (k : Nat) (A0 : Option Addr) (c0 : Nat) (l0 : List ByteArray) (A1 : Option Addr) (c1 : Nat) (l1 : List ByteArray) (r : Bool) (w : World) (hr0 : Kd.C Kd.string w A0 l0.length l0) (hc0 : l0.length ≤ c0) (hr1 : Kd.C Kd.string w A1 l1.length l1) (hc1 : l1.length ≤ c1) (h : copselaw06_texts.f k l0 l1 = some r) :
  Calls Tryd.prog 33 #[.slice A0 l0.length c0, .slice A1 l1.length c1] w fun e w' => e = .returned (.bool r) ∧ Drawn0 w w' := by
 have HR0 := Aside0.mk hr0
 have HC0 := Aside0.mk hc0
 clear hr0 hc0
 have HR1 := Aside0.mk hr1
 have HC1 := Aside0.mk hc1
 clear hr1 hc1
 have H : (if (l0.length : Int) = (l1.length : Int) then (copselaw06_texts.l0 k l0 l1 0) else (some false)) = some r := h
 clear h
 by_cases c3 : (l0.length : Int) = (l1.length : Int)
 ·rw [if_pos c3] at H
  have c3b0 : ((l0.length : Int) == (l1.length : Int)) = true := beq_iff_eq.mpr c3
  have c3b1 : ((l0.length : Int) != (l1.length : Int)) = false := bne_eq_false_iff_eq.mpr c3
  have c3b2 : (l0.length == l1.length) = true := by first | simpa using c3 | (simp at c3 ⊢; omega)
  clear c3
  have H' := Aside0.mk H
  clear H
  go_enter Tryd.func33, Tryd.ntmps33
  go_wp2
  repeat (go_quiet (fail); try go_wp2)
  go_loopg [5] k (fun kq v5 w' => ∃ (x5_1 : Int), v5 = .int .i64 x5_1 ∧ Aside0 (copselaw06_texts.l0 kq l0 l1 x5_1 = some r) ∧ Aside0 (kq ≤ k) ∧ Drawn0 w w')
  case atStart => exact ⟨(0), (by first | rfl | (simp; done) | (simp [*]; done)), H', ⟨Nat.le_refl _⟩, by repeat (first | exact Drawn0.refl _ | apply Drawn0.step)⟩
  case round =>
   clear H'
   try clear c1
   try clear p2
   try clear c3
   try clear c3b0
   try clear c3b1
   try clear c3b2
   obtain ⟨x5_1, rfl, HA, HK1, ⟨m1, rfl⟩⟩ := hrel
   cases gk with
   | zero => exact absurd HA.out (by simp [copselaw06_texts.l0])
   | succ k1 =>
    have H := HA.out
    clear HA
    simp only [copselaw06_texts.l0] at H
    by_cases c4 : x5_1 < (l0.length : Int)
    ·rw [if_pos c4] at H
     have c4b0 := decide_eq_true c4
     clear c4
     by_cases c5 : 0 ≤ x5_1
     ·rw [if_pos c5] at H
      have c5b0 := decide_eq_true c5
      clear c5
      by_cases c6 : x5_1 < (l1.length : Int)
      ·rw [if_pos c6] at H
       have c6b0 := decide_eq_true c6
       clear c6
       by_cases c7 : (rdOf ByteArray.empty l0 x5_1).toList = (rdOf ByteArray.empty l1 x5_1).toList
       ·rw [if_pos c7] at H
        have c7b0 : ((rdOf ByteArray.empty l0 x5_1).toList == (rdOf ByteArray.empty l1 x5_1).toList) = true := beq_iff_eq.mpr c7
        have c7b1 : ((rdOf ByteArray.empty l0 x5_1).toList != (rdOf ByteArray.empty l1 x5_1).toList) = false := bne_eq_false_iff_eq.mpr c7
        clear c7
        have H' := Aside0.mk H
        clear H
        have p248 : 0 ≤ (x5_1 : Int) := of_decide_eq_true (by first | (with_reducible assumption) | assumption)
        have q248 : x5_1 < (l0.length : Int) := of_decide_eq_true (by first | (with_reducible assumption) | assumption)
        obtain ⟨ad248, e248, hx248_0⟩ := Kd.at_string HR0.out x5_1 p248 q248
        cases e248
        replace p248 := eq_true p248
        replace q248 := eq_true q248
        have p249 : 0 ≤ (x5_1 : Int) := of_decide_eq_true (by first | (with_reducible assumption) | assumption)
        have q249 : x5_1 < (l1.length : Int) := of_decide_eq_true (by first | (with_reducible assumption) | assumption)
        obtain ⟨ad249, e249, hx249_0⟩ := Kd.at_string HR1.out x5_1 p249 q249
        cases e249
        replace p249 := eq_true p249
        replace q249 := eq_true q249
        go_wp2
        repeat (go_quiet (fail); try go_wp2)
        go_roundg k1
        case measure => have := HK1.out; omega
        case rel => exact ⟨(wrap64 (x5_1 + 1)), (by first | rfl | (simp; done) | (simp [*]; done)), H', ⟨by have := HK1.out; omega⟩, by repeat (first | exact Drawn0.refl _ | apply Drawn0.step)⟩
       ·rw [if_neg c7] at H
        have c7b0 : ((rdOf ByteArray.empty l0 x5_1).toList == (rdOf ByteArray.empty l1 x5_1).toList) = false := beq_eq_false_iff_ne.mpr c7
        have c7b1 : ((rdOf ByteArray.empty l0 x5_1).toList != (rdOf ByteArray.empty l1 x5_1).toList) = true := bne_iff_ne.mpr c7
        obtain rfl := Option.some.inj H
        have p248 : 0 ≤ (x5_1 : Int) := of_decide_eq_true (by first | (with_reducible assumption) | assumption)
        have q248 : x5_1 < (l0.length : Int) := of_decide_eq_true (by first | (with_reducible assumption) | assumption)
        obtain ⟨ad248, e248, hx248_0⟩ := Kd.at_string HR0.out x5_1 p248 q248
        cases e248
        replace p248 := eq_true p248
        replace q248 := eq_true q248
        have p249 : 0 ≤ (x5_1 : Int) := of_decide_eq_true (by first | (with_reducible assumption) | assumption)
        have q249 : x5_1 < (l1.length : Int) := of_decide_eq_true (by first | (with_reducible assumption) | assumption)
        obtain ⟨ad249, e249, hx249_0⟩ := Kd.at_string HR1.out x5_1 p249 q249
        cases e249
        replace p249 := eq_true p249
        replace q249 := eq_true q249
        go_wp2
        repeat (go_quiet (fail); try go_wp2)
        go_ret
        exact ⟨by first | rfl | (simp; done) | (simp [*]; done), by repeat (first | exact Drawn0.refl _ | apply Drawn0.step)⟩
      ·rw [if_neg c6] at H
       exact absurd H (by simp)
     ·rw [if_neg c5] at H
      exact absurd H (by simp)
    ·rw [if_neg c4] at H
     have c4b0 := decide_eq_false c4
     clear c4
     obtain rfl := Option.some.inj H
     go_wp2
     repeat (go_quiet (fail); try go_wp2)
     go_ret
     exact ⟨by first | rfl | (simp; done) | (simp [*]; done), by repeat (first | exact Drawn0.refl _ | apply Drawn0.step)⟩
 ·rw [if_neg c3] at H
  have c3b0 : ((l0.length : Int) == (l1.length : Int)) = false := beq_eq_false_iff_ne.mpr c3
  have c3b1 : ((l0.length : Int) != (l1.length : Int)) = true := bne_iff_ne.mpr c3
  have c3b2 : (l0.length == l1.length) = false := by first | simpa using c3 | (simp at c3 ⊢; omega)
  obtain rfl := Option.some.inj H
  go_enter Tryd.func33, Tryd.ntmps33
  go_wp2
  repeat (go_quiet (fail); try go_wp2)
  go_ret
  exact ⟨by first | rfl | (simp; done) | (simp [*]; done), by repeat (first | exact Drawn0.refl _ | apply Drawn0.step)⟩
def snap_Find.l0 : Nat → ByteArray → List (S55) → Int → Int → Option (ByteArray × ByteArray × Int × Int × Bool)
 | 0, _, _, _, _ => none
 | k + 1, x1, x8, x9, x10 => if x10 < x9 then (if 0 ≤ x10 then (if x10 < (x8.length : Int) then (if ((rd_T55 x8 x10).f0).toList = x1.toList then (some ((rd_T55 x8 x10).f0, (rd_T55 x8 x10).f1, (rd_T55 x8 x10).f2, (rd_T55 x8 x10).f3, true)) else (snap_Find.l0 k x1 x8 x9 (wrap64 (x10 + 1)))) else (none)) else (none)) else (some ((⟨#[]⟩ : ByteArray), (⟨#[]⟩ : ByteArray), 0, 0, false))
def snap_Find.f (k : Nat) (l0 : List (S55)) (a1 : ByteArray) : Option (ByteArray × ByteArray × Int × Int × Bool) := snap_Find.l0 k a1 l0 (l0.length : Int) 0
set_option maxHeartbeats 8000000 in
set_option maxRecDepth 100000 in
theorem snap_Find.calls (k : Nat) (A0 : Option Addr) (c0 : Nat) (l0 : List (S55)) (a1 : ByteArray) (r1 : ByteArray) (r2 : ByteArray) (r3 : Int) (r4 : Int) (r5 : Bool) (w : World) (hr0 : Kd.C k55 w A0 l0.length l0) (hc0 : l0.length ≤ c0) (h : snap_Find.f k l0 a1 = some (r1, r2, r3, r4, r5)) :
  Calls Tryd.prog 31 #[.slice A0 l0.length c0, .string a1] w fun e w' => e = .returned (.tuple #[.agg #[.string r1, .string r2, .int .i64 r3, .int .i64 r4], .bool r5]) ∧ Below w.heap.size w w' := by
 have hu55 := Tryd.underlying55
 have HR0 := Aside0.mk hr0
 have HC0 := Aside0.mk hc0
 clear hr0 hc0
 have HB := Aside0.mk (Below.refl w.heap.size w)
 have H : (snap_Find.l0 k a1 l0 (l0.length : Int) 0) = some (r1, r2, r3, r4, r5) := h
 clear h
 have H' := Aside0.mk H
 clear H
 go_enter Tryd.func31, Tryd.ntmps31
 go_wp2_with (first | ((with_reducible refine gate_dst (N := 4) rfl ?_); refine box_event ?hg (N := 4) ?hd (cs := #[.string (⟨#[]⟩ : ByteArray), .string (⟨#[]⟩ : ByteArray), .int .i64 0, .int .i64 0]) (t := 55) ?hr ?_; (case hd => rfl); (case hg => rfl); (case hr => first | (go_simp; done) | (go_simp; rfl)); intro gb285 hg w3 hbox hb; have n0_ := Aside0.mk (below_step (by repeat (first | (with_reducible first | exact HB.out | apply below_alloc | apply pw_below_drewN | apply below_drew1) | exact HB.out)) hb); have n1_ := Aside0.mk (hbox); have n2_ := Aside0.mk ((by rw [hg]; exact (below_size (by repeat (first | (with_reducible first | exact HB.out | apply below_alloc | apply pw_below_drewN | apply below_drew1) | exact HB.out))) : w.heap.size ≤ gb285)); have n3_ := Aside0.mk ((by rw [hg]; exact (below_size (by repeat (first | (with_reducible first | exact HB.out | apply below_alloc | apply pw_below_drewN | apply below_drew1) | exact HB.out))) : w.heap.size ≤ gb285)); clear HB; have HB := n0_; have BK285 := n1_; have GW285 := n2_; have GE285 := n3_; clear n0_ n1_ n2_ n3_; clear hb hbox hg))
 go_loopg [10] k (fun kq v10 w' => ∃ (x10_1 : Int) (x286000_1 : ByteArray) (x286001_1 : ByteArray) (x286002_1 : Int) (x286003_1 : Int), v10 = .int .i64 x10_1 ∧ Aside0 (snap_Find.l0 kq a1 l0 (l0.length : Int) x10_1 = some (r1, r2, r3, r4, r5)) ∧ Aside0 (kq ≤ k) ∧ Aside0 (w'.heap[gb285]? = some (.cells #[.string x286000_1, .string x286001_1, .int .i64 x286002_1, .int .i64 x286003_1] 55 (0, 0))) ∧ Aside0 (Below w.heap.size w w'))
 case atStart => exact ⟨(0), ((⟨#[]⟩ : ByteArray)), ((⟨#[]⟩ : ByteArray)), (0), (0), (by first | rfl | (simp; done) | (simp [*]; done)), H', ⟨Nat.le_refl _⟩, ⟨by (with_reducible repeat (first | refine blk_drewN ?_ _ | refine blk_drew ?_ | refine blk_alloc ?_ _)); exact BK285.out⟩, ⟨by repeat (first | (with_reducible first | exact HB.out | apply below_alloc | apply pw_below_drewN | apply below_drew1 | refine below_set ?_ GE285.out) | exact HB.out)⟩⟩
 case round =>
  clear H'
  try clear p2
  try clear c3
  obtain ⟨x10_1, x286000_1, x286001_1, x286002_1, x286003_1, rfl, HA, HK1, BK285, HB⟩ := hrel
  cases gk with
  | zero => exact absurd HA.out (by simp [snap_Find.l0])
  | succ k1 =>
   have H := HA.out
   clear HA
   simp only [snap_Find.l0] at H
   by_cases c4 : x10_1 < (l0.length : Int)
   ·rw [if_pos c4] at H
    have c4b0 := decide_eq_true c4
    clear c4
    by_cases c5 : 0 ≤ x10_1
    ·rw [if_pos c5] at H
     have c5b0 := decide_eq_true c5
     clear c5
     by_cases c6 : x10_1 < (l0.length : Int)
     ·rw [if_pos c6] at H
      have c6b0 := decide_eq_true c6
      clear c6
      by_cases c7 : ((rd_T55 l0 x10_1).f0).toList = a1.toList
      ·rw [if_pos c7] at H
       have c7b0 : (((rd_T55 l0 x10_1).f0).toList == a1.toList) = true := beq_iff_eq.mpr c7
       have c7b1 : (((rd_T55 l0 x10_1).f0).toList != a1.toList) = false := bne_eq_false_iff_eq.mpr c7
       clear c7
       simp only [Option.some.injEq, Prod.mk.injEq] at H
       obtain ⟨rfl, rfl, rfl, rfl, rfl⟩ := H
       have p286 : 0 ≤ (x10_1 : Int) := of_decide_eq_true (by first | (with_reducible assumption) | assumption)
       have q286 : x10_1 < (l0.length : Int) := of_decide_eq_true (by first | (with_reducible assumption) | assumption)
       obtain ⟨ad286, e286, hx286_0, hx286_1, hx286_2, hx286_3⟩ := at_T55 HR0.out x10_1 p286 q286
       cases e286
       replace hx286_0 := (HB.out.cell (World.block_lt_of_cell? w _ hx286_0)).trans hx286_0
       replace hx286_1 := (HB.out.cell (World.block_lt_of_cell? w _ hx286_1)).trans hx286_1
       replace hx286_2 := (HB.out.cell (World.block_lt_of_cell? w _ hx286_2)).trans hx286_2
       replace hx286_3 := (HB.out.cell (World.block_lt_of_cell? w _ hx286_3)).trans hx286_3
       replace p286 := eq_true p286
       replace q286 := eq_true q286
       go_wp2_with (first | ((with_reducible refine gate_dst (N := 7) rfl ?_); refine box_event ?hg (N := 7) ?hd (cs := #[.string (⟨#[]⟩ : ByteArray), .string (⟨#[]⟩ : ByteArray), .int .i64 0, .int .i64 0]) (t := 55) ?hr ?_; (case hd => rfl); (case hg => rfl); (case hr => first | (go_simp; done) | (go_simp; rfl)); intro gb287 hg w8 hbox hb; have n0_ := Aside0.mk (blk_below (g := gb285) (o := .cells #[.string x286000_1, .string x286001_1, .int .i64 x286002_1, .int .i64 x286003_1] 55 (0, 0)) (by (with_reducible repeat (first | refine blk_drewN ?_ _ | refine blk_drew ?_ | refine blk_alloc ?_ _)); exact BK285.out) hb); have n1_ := Aside0.mk (below_step (by repeat (first | (with_reducible first | exact HB.out | apply below_alloc | apply pw_below_drewN | apply below_drew1 | refine below_set ?_ GE285.out) | exact HB.out)) hb); have n2_ := Aside0.mk (hbox); have n3_ := Aside0.mk ((by rw [hg]; exact (below_size (by repeat (first | (with_reducible first | exact HB.out | apply below_alloc | apply pw_below_drewN | apply below_drew1 | refine below_set ?_ GE285.out) | exact HB.out))) : w.heap.size ≤ gb287)); have n4_ := Aside0.mk ((by rw [hg]; exact (below_size (by repeat (first | (with_reducible first | exact HB.out | apply below_alloc | apply pw_below_drewN | apply below_drew1 | refine below_set ?_ GE285.out) | exact HB.out))) : w.heap.size ≤ gb287)); have n5_ := Aside0.mk ((by rw [hg]; exact Nat.ne_of_lt (blk_lt (g := gb285) (o := .cells #[.string x286000_1, .string x286001_1, .int .i64 x286002_1, .int .i64 x286003_1] 55 (0, 0)) (by (with_reducible repeat (first | refine blk_drewN ?_ _ | refine blk_drew ?_ | refine blk_alloc ?_ _)); exact BK285.out)) : gb285 ≠ gb287)); have n6_ := Aside0.mk ((by rw [hg]; exact Nat.ne_of_gt (blk_lt (g := gb285) (o := .cells #[.string x286000_1, .string x286001_1, .int .i64 x286002_1, .int .i64 x286003_1] 55 (0, 0)) (by (with_reducible repeat (first | refine blk_drewN ?_ _ | refine blk_drew ?_ | refine blk_alloc ?_ _)); exact BK285.out)) : gb287 ≠ gb285)); clear BK285; clear HB; have BK285 := n0_; have HB := n1_; have BK287 := n2_; have GW287 := n3_; have GE287 := n4_; have NB285_287 := n5_; have NB287_285 := n6_; clear n0_ n1_ n2_ n3_ n4_ n5_ n6_; clear hb hbox hg; have hnb9 := NB287_285.out; have hnc9 := NB285_287.out; have hcz10_0 : w8.cell? ⟨gb287, 0, none⟩ = some (.string (⟨#[]⟩ : ByteArray)) := (blk_cell BK287.out 0).trans rfl; have hcz10_1 : w8.cell? ⟨gb287, 1, none⟩ = some (.string (⟨#[]⟩ : ByteArray)) := (blk_cell BK287.out 1).trans rfl; have hcz10_2 : w8.cell? ⟨gb287, 2, none⟩ = some (.int .i64 0) := (blk_cell BK287.out 2).trans rfl; have hcz10_3 : w8.cell? ⟨gb287, 3, none⟩ = some (.int .i64 0) := (blk_cell BK287.out 3).trans rfl; have hfz10_0 := blk_frozen BK287.out 0; have hfz10_1 := blk_frozen BK287.out 1; have hfz10_2 := blk_frozen BK287.out 2; have hfz10_3 := blk_frozen BK287.out 3; have hcz11_0 : w8.cell? ⟨gb285, 0, none⟩ = some (.string x286000_1) := (blk_cell BK285.out 0).trans rfl; have hcz11_1 : w8.cell? ⟨gb285, 1, none⟩ = some (.string x286001_1) := (blk_cell BK285.out 1).trans rfl; have hcz11_2 : w8.cell? ⟨gb285, 2, none⟩ = some (.int .i64 x286002_1) := (blk_cell BK285.out 2).trans rfl; have hcz11_3 : w8.cell? ⟨gb285, 3, none⟩ = some (.int .i64 x286003_1) := (blk_cell BK285.out 3).trans rfl; have hfz11_0 := blk_frozen BK285.out 0; have hfz11_1 := blk_frozen BK285.out 1; have hfz11_2 := blk_frozen BK285.out 2; have hfz11_3 := blk_frozen BK285.out 3))
       refine bodyPost_ret (results_ct rfl _ _ gb285 55 #[.string ((rd_T55 l0 x10_1).f0), .string ((rd_T55 l0 x10_1).f1), .int .i64 ((rd_T55 l0 x10_1).f2), .int .i64 ((rd_T55 l0 x10_1).f3)] (0, 0) _ rfl (by (with_reducible repeat (first | refine blk_drewN ?_ _ | refine blk_drew ?_ | refine blk_alloc ?_ _)); refine blk_put (cs := #[.string ((rd_T55 l0 x10_1).f0), .string ((rd_T55 l0 x10_1).f1), .int .i64 ((rd_T55 l0 x10_1).f2), .int .i64 x286003_1]) ?_ 3 _ rfl; (with_reducible repeat (first | refine blk_drewN ?_ _ | refine blk_drew ?_ | refine blk_alloc ?_ _)); refine blk_put (cs := #[.string ((rd_T55 l0 x10_1).f0), .string ((rd_T55 l0 x10_1).f1), .int .i64 x286002_1, .int .i64 x286003_1]) ?_ 2 _ rfl; (with_reducible repeat (first | refine blk_drewN ?_ _ | refine blk_drew ?_ | refine blk_alloc ?_ _)); refine blk_put (cs := #[.string ((rd_T55 l0 x10_1).f0), .string x286001_1, .int .i64 x286002_1, .int .i64 x286003_1]) ?_ 1 _ rfl; (with_reducible repeat (first | refine blk_drewN ?_ _ | refine blk_drew ?_ | refine blk_alloc ?_ _)); refine blk_put (cs := #[.string x286000_1, .string x286001_1, .int .i64 x286002_1, .int .i64 x286003_1]) ?_ 0 _ rfl; (with_reducible repeat (first | refine blk_drewN ?_ _ | refine blk_drew ?_ | refine blk_alloc ?_ _)); refine blk_far ?_ NB285_287.out _; (with_reducible repeat (first | refine blk_drewN ?_ _ | refine blk_drew ?_ | refine blk_alloc ?_ _)); refine blk_far ?_ NB285_287.out _; (with_reducible repeat (first | refine blk_drewN ?_ _ | refine blk_drew ?_ | refine blk_alloc ?_ _)); refine blk_far ?_ NB285_287.out _; (with_reducible repeat (first | refine blk_drewN ?_ _ | refine blk_drew ?_ | refine blk_alloc ?_ _)); refine blk_far ?_ NB285_287.out _; (with_reducible repeat (first | refine blk_drewN ?_ _ | refine blk_drew ?_ | refine blk_alloc ?_ _)); exact BK285.out) Tryd.underlying55 rfl (by kernel_rfl)) rfl ?_
       exact ⟨by first | rfl | (simp [errW_none, errW_some] <;> rfl) | (simp [*, errW_none, errW_some] <;> rfl), by repeat (first | (with_reducible first | exact HB.out | apply below_alloc | apply pw_below_drewN | apply below_drew1 | refine below_set ?_ GE285.out | refine below_set ?_ GE287.out) | exact HB.out)⟩
      ·rw [if_neg c7] at H
       have c7b0 : (((rd_T55 l0 x10_1).f0).toList == a1.toList) = false := beq_eq_false_iff_ne.mpr c7
       have c7b1 : (((rd_T55 l0 x10_1).f0).toList != a1.toList) = true := bne_iff_ne.mpr c7
       have H' := Aside0.mk H
       clear H
       have p286 : 0 ≤ (x10_1 : Int) := of_decide_eq_true (by first | (with_reducible assumption) | assumption)
       have q286 : x10_1 < (l0.length : Int) := of_decide_eq_true (by first | (with_reducible assumption) | assumption)
       obtain ⟨ad286, e286, hx286_0, hx286_1, hx286_2, hx286_3⟩ := at_T55 HR0.out x10_1 p286 q286
       cases e286
       replace hx286_0 := (HB.out.cell (World.block_lt_of_cell? w _ hx286_0)).trans hx286_0
       replace hx286_1 := (HB.out.cell (World.block_lt_of_cell? w _ hx286_1)).trans hx286_1
       replace hx286_2 := (HB.out.cell (World.block_lt_of_cell? w _ hx286_2)).trans hx286_2
       replace hx286_3 := (HB.out.cell (World.block_lt_of_cell? w _ hx286_3)).trans hx286_3
       replace p286 := eq_true p286
       replace q286 := eq_true q286
       go_wp2_with (first | ((with_reducible refine gate_dst (N := 7) rfl ?_); refine box_event ?hg (N := 7) ?hd (cs := #[.string (⟨#[]⟩ : ByteArray), .string (⟨#[]⟩ : ByteArray), .int .i64 0, .int .i64 0]) (t := 55) ?hr ?_; (case hd => rfl); (case hg => rfl); (case hr => first | (go_simp; done) | (go_simp; rfl)); intro gb287 hg w12 hbox hb; have n0_ := Aside0.mk (blk_below (g := gb285) (o := .cells #[.string x286000_1, .string x286001_1, .int .i64 x286002_1, .int .i64 x286003_1] 55 (0, 0)) (by (with_reducible repeat (first | refine blk_drewN ?_ _ | refine blk_drew ?_ | refine blk_alloc ?_ _)); exact BK285.out) hb); have n1_ := Aside0.mk (below_step (by repeat (first | (with_reducible first | exact HB.out | apply below_alloc | apply pw_below_drewN | apply below_drew1 | refine below_set ?_ GE285.out) | exact HB.out)) hb); have n2_ := Aside0.mk (hbox); have n3_ := Aside0.mk ((by rw [hg]; exact (below_size (by repeat (first | (with_reducible first | exact HB.out | apply below_alloc | apply pw_below_drewN | apply below_drew1 | refine below_set ?_ GE285.out) | exact HB.out))) : w.heap.size ≤ gb287)); have n4_ := Aside0.mk ((by rw [hg]; exact (below_size (by repeat (first | (with_reducible first | exact HB.out | apply below_alloc | apply pw_below_drewN | apply below_drew1 | refine below_set ?_ GE285.out) | exact HB.out))) : w.heap.size ≤ gb287)); have n5_ := Aside0.mk ((by rw [hg]; exact Nat.ne_of_lt (blk_lt (g := gb285) (o := .cells #[.string x286000_1, .string x286001_1, .int .i64 x286002_1, .int .i64 x286003_1] 55 (0, 0)) (by (with_reducible repeat (first | refine blk_drewN ?_ _ | refine blk_drew ?_ | refine blk_alloc ?_ _)); exact BK285.out)) : gb285 ≠ gb287)); have n6_ := Aside0.mk ((by rw [hg]; exact Nat.ne_of_gt (blk_lt (g := gb285) (o := .cells #[.string x286000_1, .string x286001_1, .int .i64 x286002_1, .int .i64 x286003_1] 55 (0, 0)) (by (with_reducible repeat (first | refine blk_drewN ?_ _ | refine blk_drew ?_ | refine blk_alloc ?_ _)); exact BK285.out)) : gb287 ≠ gb285)); clear BK285; clear HB; have BK285 := n0_; have HB := n1_; have BK287 := n2_; have GW287 := n3_; have GE287 := n4_; have NB285_287 := n5_; have NB287_285 := n6_; clear n0_ n1_ n2_ n3_ n4_ n5_ n6_; clear hb hbox hg; have hnb13 := NB287_285.out; have hnc13 := NB285_287.out; have hcz14_0 : w12.cell? ⟨gb287, 0, none⟩ = some (.string (⟨#[]⟩ : ByteArray)) := (blk_cell BK287.out 0).trans rfl; have hcz14_1 : w12.cell? ⟨gb287, 1, none⟩ = some (.string (⟨#[]⟩ : ByteArray)) := (blk_cell BK287.out 1).trans rfl; have hcz14_2 : w12.cell? ⟨gb287, 2, none⟩ = some (.int .i64 0) := (blk_cell BK287.out 2).trans rfl; have hcz14_3 : w12.cell? ⟨gb287, 3, none⟩ = some (.int .i64 0) := (blk_cell BK287.out 3).trans rfl; have hfz14_0 := blk_frozen BK287.out 0; have hfz14_1 := blk_frozen BK287.out 1; have hfz14_2 := blk_frozen BK287.out 2; have hfz14_3 := blk_frozen BK287.out 3))
       go_roundg k1
       case measure => have := HK1.out; omega
       case rel => exact ⟨(wrap64 (x10_1 + 1)), (x286000_1), (x286001_1), (x286002_1), (x286003_1), (by first | rfl | (simp; done) | (simp [*]; done)), H', ⟨by have := HK1.out; omega⟩, ⟨by (with_reducible repeat (first | refine blk_drewN ?_ _ | refine blk_drew ?_ | refine blk_alloc ?_ _)); refine blk_far ?_ NB285_287.out _; (with_reducible repeat (first | refine blk_drewN ?_ _ | refine blk_drew ?_ | refine blk_alloc ?_ _)); refine blk_far ?_ NB285_287.out _; (with_reducible repeat (first | refine blk_drewN ?_ _ | refine blk_drew ?_ | refine blk_alloc ?_ _)); refine blk_far ?_ NB285_287.out _; (with_reducible repeat (first | refine blk_drewN ?_ _ | refine blk_drew ?_ | refine blk_alloc ?_ _)); refine blk_far ?_ NB285_287.out _; (with_reducible repeat (first | refine blk_drewN ?_ _ | refine blk_drew ?_ | refine blk_alloc ?_ _)); exact BK285.out⟩, ⟨by repeat (first | (with_reducible first | exact HB.out | apply below_alloc | apply pw_below_drewN | apply below_drew1 | refine below_set ?_ GE285.out | refine below_set ?_ GE287.out) | exact HB.out)⟩⟩
     ·rw [if_neg c6] at H
      exact absurd H (by simp)
    ·rw [if_neg c5] at H
     exact absurd H (by simp)
   ·rw [if_neg c4] at H
    have c4b0 := decide_eq_false c4
    clear c4
    simp only [Option.some.injEq, Prod.mk.injEq] at H
    obtain ⟨rfl, rfl, rfl, rfl, rfl⟩ := H
    have hcz15_0 : wr.cell? ⟨gb285, 0, none⟩ = some (.string x286000_1) := (blk_cell BK285.out 0).trans rfl
    have hcz15_1 : wr.cell? ⟨gb285, 1, none⟩ = some (.string x286001_1) := (blk_cell BK285.out 1).trans rfl
    have hcz15_2 : wr.cell? ⟨gb285, 2, none⟩ = some (.int .i64 x286002_1) := (blk_cell BK285.out 2).trans rfl
    have hcz15_3 : wr.cell? ⟨gb285, 3, none⟩ = some (.int .i64 x286003_1) := (blk_cell BK285.out 3).trans rfl
    have hfz15_0 := blk_frozen BK285.out 0
    have hfz15_1 := blk_frozen BK285.out 1
    have hfz15_2 := blk_frozen BK285.out 2
    have hfz15_3 := blk_frozen BK285.out 3
    go_wp2
    refine bodyPost_ret (results_ct rfl _ _ gb285 55 #[.string (⟨#[]⟩ : ByteArray), .string (⟨#[]⟩ : ByteArray), .int .i64 0, .int .i64 0] (0, 0) _ rfl (by (with_reducible repeat (first | refine blk_drewN ?_ _ | refine blk_drew ?_ | refine blk_alloc ?_ _)); refine blk_put (cs := #[.string (⟨#[]⟩ : ByteArray), .string (⟨#[]⟩ : ByteArray), .int .i64 0, .int .i64 x286003_1]) ?_ 3 _ rfl; (with_reducible repeat (first | refine blk_drewN ?_ _ | refine blk_drew ?_ | refine blk_alloc ?_ _)); refine blk_put (cs := #[.string (⟨#[]⟩ : ByteArray), .string (⟨#[]⟩ : ByteArray), .int .i64 x286002_1, .int .i64 x286003_1]) ?_ 2 _ rfl; (with_reducible repeat (first | refine blk_drewN ?_ _ | refine blk_drew ?_ | refine blk_alloc ?_ _)); refine blk_put (cs := #[.string (⟨#[]⟩ : ByteArray), .string x286001_1, .int .i64 x286002_1, .int .i64 x286003_1]) ?_ 1 _ rfl; (with_reducible repeat (first | refine blk_drewN ?_ _ | refine blk_drew ?_ | refine blk_alloc ?_ _)); refine blk_put (cs := #[.string x286000_1, .string x286001_1, .int .i64 x286002_1, .int .i64 x286003_1]) ?_ 0 _ rfl; (with_reducible repeat (first | refine blk_drewN ?_ _ | refine blk_drew ?_ | refine blk_alloc ?_ _)); exact BK285.out) Tryd.underlying55 rfl (by kernel_rfl)) rfl ?_
    exact ⟨by first | rfl | (simp [errW_none, errW_some] <;> rfl) | (simp [*, errW_none, errW_some] <;> rfl), by repeat (first | (with_reducible first | exact HB.out | apply below_alloc | apply pw_below_drewN | apply below_drew1 | refine below_set ?_ GE285.out) | exact HB.out)⟩
end Go.Proofs.YtehfogjibhnabaaDoor.PAll
