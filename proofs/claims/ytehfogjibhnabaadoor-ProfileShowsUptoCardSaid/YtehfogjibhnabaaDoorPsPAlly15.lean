/- What functions of the program compute, each with its walk: a contract for every world and every argument of the kind told. -/
import Derived.Test.YtehfogjibhnabaaDoorPsPAllx0
import Derived.Test.YtehfogjibhnabaaDoorPsPAlly11
import Derived.Test.YtehfogjibhnabaaDoorPsHandA
import Derived.Test.YtehfogjibhnabaaDoorPsPAlly12
import Derived.Test.YtehfogjibhnabaaDoorPsProfW
import Derived.Test.YtehfogjibhnabaaDoorPsHandB
import Derived.Test.YtehfogjibhnabaaDoorPsFreshW
import Derived.Test.YtehfogjibhnabaaDoorPsProfQ
import Derived.Test.YtehfogjibhnabaaDoorPsRowKit
namespace Go.Proofs.YtehfogjibhnabaaDoor.PAll
open Go.RowKit Go.Proofs.YtehfogjibhnabaaDoorW.PrintWords Go.Proofs.YtehfogjibhnabaaDoorW.PrintLast Go.Proofs.YtehfogjibhnabaaDoorW.PrintMore
attribute [local go_sem] max2_int min2_int max_two min_two max_three min_three max_four min_four
set_option linter.unusedVariables false
set_option linter.unusedSimpArgs false
mutual
def copselaw17_ProfileShows.j0 : Nat → List ByteArray → List ByteArray → ByteArray → Bool → Option (Bool)
 | 0, _, _, _, _ => none
 | k + 1, x0, x1, x5, x18 => if x18 = true then ((copselaw17_known.f k).bind fun t298 => (some t298)) else (copselaw17_ProfileShows.l0 k x0 x1 x5 0)
def copselaw17_ProfileShows.l0 : Nat → List ByteArray → List ByteArray → ByteArray → Int → Option (Bool)
 | 0, _, _, _, _ => none
 | k + 1, x0, x1, x5, x7 => if x7 < (x1.length : Int) then (copselaw17_ProfileShows.j2 k x0 x1 x5 x7 (decide (x7 < 40))) else (copselaw17_ProfileShows.j2 k x0 x1 x5 x7 false)
def copselaw17_ProfileShows.j2 : Nat → List ByteArray → List ByteArray → ByteArray → Int → Bool → Option (Bool)
 | 0, _, _, _, _, _ => none
 | k + 1, x0, x1, x5, x7, x27 => if x27 = true then (if 0 ≤ x7 then (if x7 < (x1.length : Int) then (if (rdOf ByteArray.empty x1 x7).toList = ([] : List UInt8) then (copselaw17_ProfileShows.l0 k x0 x1 x5 (wrap64 (x7 + 1))) else ((copseref02_Valid.f k (rdOf ByteArray.empty x1 x7)).bind fun t301 => (if t301 = true then ((copselaw17_shown.f k x5 (rdOf ByteArray.empty x1 x7)).bind fun t303 => ((cone_Shows.f k x0 (rdOf ByteArray.empty x1 x7)).bind fun t305 => (if (t303 != t305) = true then (some false) else (copselaw17_ProfileShows.l0 k x0 x1 x5 (wrap64 (x7 + 1)))))) else (copselaw17_ProfileShows.l0 k x0 x1 x5 (wrap64 (x7 + 1)))))) else (none)) else (none)) else (some true)
end
def copselaw17_ProfileShows.f (k : Nat) (l0 : List ByteArray) (l1 : List ByteArray) : Option (Bool) := (profile_Write.f k l0).bind fun bt295 => ((copselaw17_known.f k).bind fun t297 => (if t297 = true then (copselaw17_ProfileShows.j0 k l0 l1 bt295.1 (bt295.2 != 0)) else (copselaw17_ProfileShows.j0 k l0 l1 bt295.1 true)))
def copselaw17_ProfileShows.T7 : Bool × List (List Nat × List Nat) := (true, [([], []), ([], []), ([0, 1], [0, 1]), ([2], [2]), ([3], [3]), ([4], [4]), ([5], [5]), ([5], [5]), ([6, 7, 5], [5, 6, 7]), ([8, 5], [5, 8]), ([9, 5, 5], [5, 9]), ([5, 10], [5, 10]), ([11, 10], [11]), ([12], [12]), ([12], [12]), ([12], [12]), ([14, 15, 12], [12, 14, 15]), ([16, 12], [12, 16]), ([13, 17, 12, 12], [12, 13, 17]), ([12], [12]), ([12], [12]), ([12], [12]), ([20, 21, 12], [12, 20, 21]), ([22, 12], [12, 22]), ([19, 23, 18, 12], [12, 19, 23]), ([18, 24, 12], [12, 18, 24]), ([12, 25], [12, 25])])
def copselaw17_ProfileShows.B7 : List Nat := [0, 0, 3, 7, 15, 31, 63, 63, 255, 511, 1023, 2047, 4095, 8191, 8191, 8191, 57343, 122879, 262143, 8191, 8191, 8191, 3153919, 7348223, 16777215, 33554431, 67108863]
theorem copselaw17_ProfileShows.tab7 : rtab .any (opsOf Tryd.f6 7) = copselaw17_ProfileShows.T7 := by kernel_rfl
theorem copselaw17_ProfileShows.bits7 : waitsOk copselaw17_ProfileShows.T7.2 copselaw17_ProfileShows.B7 = true := by kernel_rfl
set_option maxHeartbeats 8000000 in
set_option maxRecDepth 100000 in
theorem copselaw17_ProfileShows.calls (k : Nat) (A0 : Option Addr) (c0 : Nat) (l0 : List ByteArray) (A1 : Option Addr) (c1 : Nat) (l1 : List ByteArray) (r : Bool) (w : World) (hr0 : Kd.C Kd.string w A0 l0.length l0) (hc0 : l0.length ≤ c0) (hr1 : Kd.C Kd.string w A1 l1.length l1) (hc1 : l1.length ≤ c1) (h : copselaw17_ProfileShows.f k l0 l1 = some r) :
  Calls Tryd.prog 6 #[.slice A0 l0.length c0, .slice A1 l1.length c1] w fun e w' => e = .returned (.bool r) ∧ Below w.heap.size w w' := by
 have HR0 := Aside0.mk hr0
 have HC0 := Aside0.mk hc0
 clear hr0 hc0
 have HR1 := Aside0.mk hr1
 have HC1 := Aside0.mk hc1
 clear hr1 hc1
 have HB := Aside0.mk (Below.refl w.heap.size w)
 have H : ((profile_Write.f k l0).bind fun bt295 => ((copselaw17_known.f k).bind fun t297 => (if t297 = true then (copselaw17_ProfileShows.j0 k l0 l1 bt295.1 (bt295.2 != 0)) else (copselaw17_ProfileShows.j0 k l0 l1 bt295.1 true)))) = some r := h
 clear h
 replace H := Option.bind_eq_some_iff.mp H
 obtain ⟨⟨t295, t296⟩, A30, H⟩ := H
 try dsimp only at H
 have A3 := Aside0.mk A30
 clear A30
 have HC4 := Aside0.mk H
 clear H
 go_enter Tryd.func6, Tryd.ntmps6
 go_upto_region 2 with (first | ((with_reducible refine gate_callee (f := 11) rfl ?_); refine goesL_ (some 10) rfl rfl Tryd.func11 (by kernel_rfl) rfl #[.slice A0 l0.length c0] rfl (by (try simp only [List.map_toArray, List.map_cons, List.map_nil]); first | done | rfl | (simp only [List.length_drop, List.length_take]; rfl)) ?_; (with_reducible refine (profile_Write.calls k _ _ l0 t295 t296 _ ?side1 ?side2 A3.out).mono ?_); (case side1 => repeat (first | exact HR0.out | (with_reducible refine Kd.C_alloc ?_ _) | (with_reducible refine Kd.C_drewN ?_ _) | (with_reducible refine Kd.C_drew ?_))); (case side2 => exact HC0.out); rintro e w5 ⟨rfl, hb⟩; refine ⟨_, rfl, ?_⟩; have n0_ := Aside0.mk (below_step (by repeat (first | (with_reducible first | exact HB.out | apply below_alloc | apply pw_below_drewN | apply below_drew1) | exact HB.out)) hb); clear HB; have HB := n0_; clear n0_; (try clear hb); (try clear hb2); (try clear hk); (try clear hi)))
 (try simp only [Act.put, List.setIfInBounds_toArray, List.set_cons_zero, List.set_cons_succ])
 go_cut [18] (fun v18 wc => ∃ (kq : Nat) (x18_3 : Bool), v18 = .bool x18_3 ∧ Aside0 (copselaw17_ProfileShows.j0 kq l0 l1 t295 x18_3 = some r) ∧ Aside0 (kq ≤ k) ∧ Aside0 (Below w.heap.size w wc))
 case first =>
  have H := HC4.out
  clear HC4
  replace H := Option.bind_eq_some_iff.mp H
  obtain ⟨t297, A60, H⟩ := H
  try dsimp only at H
  have A6 := Aside0.mk A60
  clear A60
  by_cases c7 : t297 = true
  ·subst c7
   rw [if_pos rfl] at H
   have H1 := H
   clear H
   have H := H1
   clear H1
   have H' := Aside0.mk H
   clear H
   go_wp2_with (first | ((with_reducible refine gate_callee (f := 12) rfl ?_); refine goesL_ (some 13) rfl rfl Tryd.func12 (by kernel_rfl) rfl #[] rfl (by (try simp only [List.map_toArray, List.map_cons, List.map_nil]); first | done | rfl | (simp only [List.length_drop, List.length_take]; rfl)) ?_; (with_reducible refine (copselaw17_known.calls k  true _ A6.out).mono ?_); rintro e w8 ⟨rfl, hb⟩; refine ⟨_, rfl, ?_⟩; have n0_ := Aside0.mk (below_step (by repeat (first | (with_reducible first | exact HB.out | apply below_alloc | apply pw_below_drewN | apply below_drew1) | exact HB.out)) hb); clear HB; have HB := n0_; clear n0_; (try clear hb); (try clear hb2); (try clear hk); (try clear hi)))
   go_meet
   case rel => exact ⟨_, ((t296 != 0)), (by first | rfl | (simp; done) | (simp [*]; done)), H', ⟨by first | omega | exact Nat.le_refl _⟩, ⟨by repeat (first | (with_reducible first | exact HB.out | apply below_alloc | apply pw_below_drewN | apply below_drew1) | exact HB.out)⟩⟩
  ·replace c7 := Bool.eq_false_iff.mpr c7
   subst c7
   have H1 : (copselaw17_ProfileShows.j0 k l0 l1 t295 true) = some r := by rw [if_neg (show ¬ (false = true) by decide)] at H; exact H
   clear H
   have H := H1
   clear H1
   have H' := Aside0.mk H
   clear H
   go_wp2_with (first | ((with_reducible refine gate_callee (f := 12) rfl ?_); refine goesL_ (some 13) rfl rfl Tryd.func12 (by kernel_rfl) rfl #[] rfl (by (try simp only [List.map_toArray, List.map_cons, List.map_nil]); first | done | rfl | (simp only [List.length_drop, List.length_take]; rfl)) ?_; (with_reducible refine (copselaw17_known.calls k  false _ A6.out).mono ?_); rintro e w9 ⟨rfl, hb⟩; refine ⟨_, rfl, ?_⟩; have n0_ := Aside0.mk (below_step (by repeat (first | (with_reducible first | exact HB.out | apply below_alloc | apply pw_below_drewN | apply below_drew1) | exact HB.out)) hb); clear HB; have HB := n0_; clear n0_; (try clear hb); (try clear hb2); (try clear hk); (try clear hi)))
   go_meet
   case rel => exact ⟨_, (true), (by first | rfl | (simp; done) | (simp [*]; done)), H', ⟨by first | omega | exact Nat.le_refl _⟩, ⟨by repeat (first | (with_reducible first | exact HB.out | apply below_alloc | apply pw_below_drewN | apply below_drew1) | exact HB.out)⟩⟩
 case rest =>
  clear HC4
  try clear c1
  try clear p2
  try clear c6
  try clear c7
  obtain ⟨kq, x18_3, rfl, HA, HJ3, HB⟩ := hcut
  cases kq with
  | zero => exact absurd HA.out (by simp [copselaw17_ProfileShows.j0])
  | succ kj3 =>
   have H := HA.out
   clear HA
   simp only [copselaw17_ProfileShows.j0] at H
   by_cases c10 : x18_3 = true
   ·subst c10
    rw [if_pos rfl] at H
    have H1 := H
    clear H
    have H := H1
    clear H1
    replace H := Option.bind_eq_some_iff.mp H
    obtain ⟨t298, A110, H⟩ := H
    try dsimp only at H
    have A11 := Aside0.mk A110
    clear A110
    obtain rfl := Option.some.inj H
    go_wp2_with (first | ((with_reducible refine gate_callee (f := 12) rfl ?_); refine goesL_ (some 19) rfl rfl Tryd.func12 (by kernel_rfl) rfl #[] rfl (by (try simp only [List.map_toArray, List.map_cons, List.map_nil]); first | done | rfl | (simp only [List.length_drop, List.length_take]; rfl)) ?_; (with_reducible refine (copselaw17_known.calls kj3  t298 _ A11.out).mono ?_); rintro e w12 ⟨rfl, hb⟩; refine ⟨_, rfl, ?_⟩; have n0_ := Aside0.mk (below_step (by repeat (first | (with_reducible first | exact HB.out | apply below_alloc | apply pw_below_drewN | apply below_drew1) | exact HB.out)) hb); clear HB; have HB := n0_; clear n0_; (try clear hb); (try clear hb2); (try clear hk); (try clear hi)))
    go_ret
    exact ⟨by first | rfl | (simp [errW_none, errW_some] <;> rfl) | (simp [*, errW_none, errW_some] <;> rfl), by repeat (first | (with_reducible first | exact HB.out | apply below_alloc | apply pw_below_drewN | apply below_drew1) | exact HB.out)⟩
   ·replace c10 := Bool.eq_false_iff.mpr c10
    subst c10
    have H1 : (copselaw17_ProfileShows.l0 kj3 l0 l1 t295 0) = some r := by rw [if_neg (show ¬ (false = true) by decide)] at H; exact H
    clear H
    have H := H1
    clear H1
    have H' := Aside0.mk H
    clear H
    go_wp2
    go_loopg [7] kj3 (fun kq v7 w' => ∃ (x7_2 : Int), v7 = .int .i64 x7_2 ∧ Aside0 (copselaw17_ProfileShows.l0 kq l0 l1 t295 x7_2 = some r) ∧ Aside0 (kq ≤ kj3) ∧ Aside0 (Below w.heap.size w w'))
    case atStart => exact ⟨(0), (by first | rfl | (simp; done) | (simp [*]; done)), H', ⟨Nat.le_refl _⟩, ⟨by repeat (first | (with_reducible first | exact HB.out | apply below_alloc | apply pw_below_drewN | apply below_drew1) | exact HB.out)⟩⟩
    case round =>
     clear H'
     try clear c1
     try clear p2
     try clear c6
     try clear c7
     try clear c10
     try clear c11
     try clear c12
     try clear p2
     obtain ⟨x7_2, rfl, HA, HK2, HB⟩ := hrel
     cases gk with
     | zero => exact absurd HA.out (by simp [copselaw17_ProfileShows.l0])
     | succ k2 =>
      have H := HA.out
      clear HA
      simp only [copselaw17_ProfileShows.l0] at H
      have HC13 := Aside0.mk H
      clear H
      go_upto_region 5 with (fail)
      go_cut [27] (fun v27 wc => ∃ (kq : Nat) (x27_12 : Bool), v27 = .bool x27_12 ∧ Aside0 (copselaw17_ProfileShows.j2 kq l0 l1 t295 x7_2 x27_12 = some r) ∧ Aside0 (kq ≤ k2) ∧ Aside0 (Below w.heap.size w wc))
      case first =>
       have H := HC13.out
       clear HC13
       by_cases c14 : x7_2 < (l1.length : Int)
       ·rw [if_pos c14] at H
        have c14b0 := decide_eq_true c14
        clear c14
        (first | rw [c14b0] | (simp only [i64_w, i32_w]; rw [c14b0]) | skip)
        have H' := Aside0.mk H
        clear H
        go_wp2
        go_meet
        case rel => exact ⟨_, (decide (x7_2 < 40)), (by first | rfl | (simp; done) | (simp [*]; done)), H', ⟨by have := HJ3.out; have := HK2.out; first | omega | exact Nat.le_refl _⟩, ⟨by repeat (first | (with_reducible first | exact HB.out | apply below_alloc | apply pw_below_drewN | apply below_drew1) | exact HB.out)⟩⟩
       ·rw [if_neg c14] at H
        have c14b0 := decide_eq_false c14
        clear c14
        (first | rw [c14b0] | (simp only [i64_w, i32_w]; rw [c14b0]) | skip)
        have H' := Aside0.mk H
        clear H
        go_wp2
        go_meet
        case rel => exact ⟨_, (false), (by first | rfl | (simp; done) | (simp [*]; done)), H', ⟨by have := HJ3.out; have := HK2.out; first | omega | exact Nat.le_refl _⟩, ⟨by repeat (first | (with_reducible first | exact HB.out | apply below_alloc | apply pw_below_drewN | apply below_drew1) | exact HB.out)⟩⟩
      case rest =>
       clear HC13
       try clear c1
       try clear p2
       try clear c6
       try clear c7
       try clear c10
       try clear c11
       try clear c12
       try clear c14
       try clear c14b0
       try clear p2
       obtain ⟨kq, x27_12, rfl, HA, HJ12, HB⟩ := hcut
       cases kq with
       | zero => exact absurd HA.out (by simp [copselaw17_ProfileShows.j2])
       | succ kj12 =>
        have H := HA.out
        clear HA
        simp only [copselaw17_ProfileShows.j2] at H
        by_cases c15 : x27_12 = true
        ·subst c15
         rw [if_pos rfl] at H
         have H1 := H
         clear H
         have H := H1
         clear H1
         by_cases c16 : 0 ≤ x7_2
         ·rw [if_pos c16] at H
          have c16b0 := decide_eq_true c16
          clear c16
          by_cases c17 : x7_2 < (l1.length : Int)
          ·rw [if_pos c17] at H
           have c17b0 := decide_eq_true c17
           clear c17
           by_cases c18 : (rdOf ByteArray.empty l1 x7_2).toList = ([] : List UInt8)
           ·rw [if_pos c18] at H
            have c18b0 : ((rdOf ByteArray.empty l1 x7_2).toList == ([] : List UInt8)) = true := beq_iff_eq.mpr c18
            have c18b1 : ((rdOf ByteArray.empty l1 x7_2).toList != ([] : List UInt8)) = false := bne_eq_false_iff_eq.mpr c18
            clear c18
            have H' := Aside0.mk H
            clear H
            try go_wp2
            have n0_ := Aside0.mk (below_drew1 HB.out)
            clear HB
            have HB := n0_
            clear n0_
            have p299 : 0 ≤ (x7_2 : Int) := of_decide_eq_true (by first | (with_reducible assumption) | assumption)
            have q299 : x7_2 < (l1.length : Int) := of_decide_eq_true (by first | (with_reducible assumption) | assumption)
            obtain ⟨ad299, e299, hx299_0⟩ := Kd.at_string HR1.out x7_2 p299 q299
            have hw299_0 := hx299_0
            cases e299
            replace hx299_0 := (HB.out.cell (World.block_lt_of_cell? w _ hx299_0)).trans hx299_0
            replace p299 := eq_true p299
            replace q299 := eq_true q299
            refine start_ (n := 27) (S := fun w' => w'.cell? (ad299.add (x7_2).toNat) = some (.string (rdOf ByteArray.empty l1 x7_2))) (ds := []) (lb 27 0) (by kernel_rfl) rfl rfl (((HB.out.cell (World.block_lt_of_cell? w _ hw299_0)).trans hw299_0)) (fun hHeld => ?_); refine with_tabW copselaw17_ProfileShows.tab7 copselaw17_ProfileShows.bits7 (fun HT_ HW_ => ?_)
            generalize wc.drew = w19 at HB hx299_0 hHeld ⊢
            refine pure_ (i := 0) (N := some 30) (v := ?_) (a' := ?_) (lb 27 1) rfl rfl (any_of HT_.out (by kernel_rfl)) (fun _ _ _ h => h) (Or.inl ⟨by rfl, ?_⟩) ?_ ?_
            rotate_left
            ·intro w'
             go_simp
             with_reducible rfl
            rotate_left
            ·simp only [Act.put, List.setIfInBounds_toArray, List.set_cons_zero, List.set_cons_succ, i64_w, i32_w]
             rfl
            refine pure_ (i := 1) (N := some 31) (v := ?_) (a' := ?_) (lb 27 3) rfl rfl (any_of HT_.out (by kernel_rfl)) (fun _ _ _ h => h) (Or.inl ⟨by rfl, ?_⟩) ?_ ?_
            rotate_left
            ·intro w'
             go_simp
             with_reducible rfl
            rotate_left
            ·simp only [Act.put, List.setIfInBounds_toArray, List.set_cons_zero, List.set_cons_succ, i64_w, i32_w]
             rfl
            refine pure_ (i := 2) (N := some 32) (v := ?_) (a' := ?_) (lb 27 7) rfl rfl (any_of HT_.out (by kernel_rfl)) (fun _ _ _ h => h) (Or.inl ⟨by rfl, ?_⟩) ?_ ?_
            rotate_left
            ·intro w'
             go_simp
             with_reducible rfl
            rotate_left
            ·simp only [Act.put, List.setIfInBounds_toArray, List.set_cons_zero, List.set_cons_succ, i64_w, i32_w]
             rfl
            refine take_ (i := 3) (N := some 33) (v := ?_) (a' := ?_) (lb 27 15) rfl rfl (take_ofW HT_.out HW_.out (by kernel_rfl)) (fun _ _ _ h => h) (Or.inl ⟨by rfl, ?_⟩) hHeld ?_ ?_
            rotate_left
            ·intro w' s0
             go_simp
             with_reducible rfl
            rotate_left
            ·simp only [Act.put, List.setIfInBounds_toArray, List.set_cons_zero, List.set_cons_succ, i64_w, i32_w]
             rfl
            refine pure_ (i := 4) (N := some 34) (v := ?_) (a' := ?_) (lb 27 31) rfl rfl (any_of HT_.out (by kernel_rfl)) (fun _ _ _ h => h) (Or.inl ⟨by rfl, ?_⟩) ?_ ?_
            rotate_left
            ·intro w'
             go_simp
             with_reducible rfl
            rotate_left
            ·simp only [Act.put, List.setIfInBounds_toArray, List.set_cons_zero, List.set_cons_succ, i64_w, i32_w]
             rfl
            refine pure_ (i := 5) (N := some 35) (v := ?_) (a' := ?_) (lb 27 63) rfl rfl (any_of HT_.out (by kernel_rfl)) (fun _ _ _ h => h) (Or.inl ⟨by rfl, ?_⟩) ?_ ?_
            rotate_left
            ·intro w'
             go_simp
             with_reducible rfl
            rotate_left
            ·simp only [Act.put, List.setIfInBounds_toArray, List.set_cons_zero, List.set_cons_succ, i64_w, i32_w]
             rfl
            refine pure_ (i := 6) (N := some 36) (v := undef) (a' := ?_) (lb 27 127) rfl rfl (any_of HT_.out (by kernel_rfl)) (fun _ _ _ h => h) (Or.inr ⟨by rfl, rfl⟩) ?_ ?_
            rotate_left
            ·simp only [Act.put, List.setIfInBounds_toArray, List.set_cons_zero, List.set_cons_succ, i64_w, i32_w]
             rfl
            refine pure_ (i := 7) (N := some 37) (v := undef) (a' := ?_) (lb 27 255) rfl rfl (any_of HT_.out (by kernel_rfl)) (fun _ _ _ h => h) (Or.inr ⟨by rfl, rfl⟩) ?_ ?_
            rotate_left
            ·simp only [Act.put, List.setIfInBounds_toArray, List.set_cons_zero, List.set_cons_succ, i64_w, i32_w]
             rfl
            refine pure_ (i := 8) (N := some 38) (v := undef) (a' := ?_) (lb 27 511) rfl rfl (any_of HT_.out (by kernel_rfl)) (fun _ _ _ h => h) (Or.inr ⟨by rfl, rfl⟩) ?_ ?_
            rotate_left
            ·simp only [Act.put, List.setIfInBounds_toArray, List.set_cons_zero, List.set_cons_succ, i64_w, i32_w]
             rfl
            refine pure_ (i := 9) (N := some 39) (v := undef) (a' := ?_) (lb 27 1023) rfl rfl (any_of HT_.out (by kernel_rfl)) (fun _ _ _ h => h) (Or.inr ⟨by rfl, rfl⟩) ?_ ?_
            rotate_left
            ·simp only [Act.put, List.setIfInBounds_toArray, List.set_cons_zero, List.set_cons_succ, i64_w, i32_w]
             rfl
            refine pure_ (i := 10) (N := some 40) (v := undef) (a' := ?_) (lb 27 2047) rfl rfl (any_of HT_.out (by kernel_rfl)) (fun _ _ _ h => h) (Or.inr ⟨by rfl, rfl⟩) ?_ ?_
            rotate_left
            ·simp only [Act.put, List.setIfInBounds_toArray, List.set_cons_zero, List.set_cons_succ, i64_w, i32_w]
             rfl
            refine pure_ (i := 11) (N := some 41) (v := ?_) (a' := ?_) (lb 27 4095) rfl rfl (any_of HT_.out (by kernel_rfl)) (fun _ _ _ h => h) (Or.inl ⟨by rfl, ?_⟩) ?_ ?_
            rotate_left
            ·intro w'
             go_simp
             with_reducible rfl
            rotate_left
            ·simp only [Act.put, List.setIfInBounds_toArray, List.set_cons_zero, List.set_cons_succ, i64_w, i32_w]
             rfl
            refine pure_ (i := 12) (N := some 42) (v := ?_) (a' := ?_) (lb 27 8191) rfl rfl (any_of HT_.out (by kernel_rfl)) (fun _ _ _ h => h) (Or.inl ⟨by rfl, ?_⟩) ?_ ?_
            rotate_left
            ·intro w'
             go_simp
             with_reducible rfl
            rotate_left
            ·simp only [Act.put, List.setIfInBounds_toArray, List.set_cons_zero, List.set_cons_succ, i64_w, i32_w]
             rfl
            refine pure_ (i := 13) (N := some 43) (v := undef) (a' := ?_) (lb 27 16383) rfl rfl (any_of HT_.out (by kernel_rfl)) (fun _ _ _ h => h) (Or.inr ⟨by rfl, rfl⟩) ?_ ?_
            rotate_left
            ·simp only [Act.put, List.setIfInBounds_toArray, List.set_cons_zero, List.set_cons_succ, i64_w, i32_w]
             rfl
            refine pure_ (i := 14) (N := some 44) (v := undef) (a' := ?_) (lb 27 32767) rfl rfl (any_of HT_.out (by kernel_rfl)) (fun _ _ _ h => h) (Or.inr ⟨by rfl, rfl⟩) ?_ ?_
            rotate_left
            ·simp only [Act.put, List.setIfInBounds_toArray, List.set_cons_zero, List.set_cons_succ, i64_w, i32_w]
             rfl
            refine pure_ (i := 15) (N := some 45) (v := undef) (a' := ?_) (lb 27 65535) rfl rfl (any_of HT_.out (by kernel_rfl)) (fun _ _ _ h => h) (Or.inr ⟨by rfl, rfl⟩) ?_ ?_
            rotate_left
            ·simp only [Act.put, List.setIfInBounds_toArray, List.set_cons_zero, List.set_cons_succ, i64_w, i32_w]
             rfl
            refine pure_ (i := 16) (N := some 46) (v := undef) (a' := ?_) (lb 27 131071) rfl rfl (any_of HT_.out (by kernel_rfl)) (fun _ _ _ h => h) (Or.inr ⟨by rfl, rfl⟩) ?_ ?_
            rotate_left
            ·simp only [Act.put, List.setIfInBounds_toArray, List.set_cons_zero, List.set_cons_succ, i64_w, i32_w]
             rfl
            refine pure_ (i := 17) (N := some 47) (v := undef) (a' := ?_) (lb 27 262143) rfl rfl (any_of HT_.out (by kernel_rfl)) (fun _ _ _ h => h) (Or.inr ⟨by rfl, rfl⟩) ?_ ?_
            rotate_left
            ·simp only [Act.put, List.setIfInBounds_toArray, List.set_cons_zero, List.set_cons_succ, i64_w, i32_w]
             rfl
            refine pure_ (i := 18) (N := some 48) (v := undef) (a' := ?_) (lb 27 524287) rfl rfl (any_of HT_.out (by kernel_rfl)) (fun _ _ _ h => h) (Or.inr ⟨by rfl, rfl⟩) ?_ ?_
            rotate_left
            ·simp only [Act.put, List.setIfInBounds_toArray, List.set_cons_zero, List.set_cons_succ, i64_w, i32_w]
             rfl
            refine pure_ (i := 19) (N := some 49) (v := undef) (a' := ?_) (lb 27 1048575) rfl rfl (any_of HT_.out (by kernel_rfl)) (fun _ _ _ h => h) (Or.inr ⟨by rfl, rfl⟩) ?_ ?_
            rotate_left
            ·simp only [Act.put, List.setIfInBounds_toArray, List.set_cons_zero, List.set_cons_succ, i64_w, i32_w]
             rfl
            refine pure_ (i := 20) (N := some 50) (v := undef) (a' := ?_) (lb 27 2097151) rfl rfl (any_of HT_.out (by kernel_rfl)) (fun _ _ _ h => h) (Or.inr ⟨by rfl, rfl⟩) ?_ ?_
            rotate_left
            ·simp only [Act.put, List.setIfInBounds_toArray, List.set_cons_zero, List.set_cons_succ, i64_w, i32_w]
             rfl
            refine pure_ (i := 21) (N := some 51) (v := undef) (a' := ?_) (lb 27 4194303) rfl rfl (any_of HT_.out (by kernel_rfl)) (fun _ _ _ h => h) (Or.inr ⟨by rfl, rfl⟩) ?_ ?_
            rotate_left
            ·simp only [Act.put, List.setIfInBounds_toArray, List.set_cons_zero, List.set_cons_succ, i64_w, i32_w]
             rfl
            refine pure_ (i := 22) (N := some 52) (v := undef) (a' := ?_) (lb 27 8388607) rfl rfl (any_of HT_.out (by kernel_rfl)) (fun _ _ _ h => h) (Or.inr ⟨by rfl, rfl⟩) ?_ ?_
            rotate_left
            ·simp only [Act.put, List.setIfInBounds_toArray, List.set_cons_zero, List.set_cons_succ, i64_w, i32_w]
             rfl
            refine pure_ (i := 23) (N := some 53) (v := undef) (a' := ?_) (lb 27 16777215) rfl rfl (any_of HT_.out (by kernel_rfl)) (fun _ _ _ h => h) (Or.inr ⟨by rfl, rfl⟩) ?_ ?_
            rotate_left
            ·simp only [Act.put, List.setIfInBounds_toArray, List.set_cons_zero, List.set_cons_succ, i64_w, i32_w]
             rfl
            refine pure_ (i := 24) (N := some 54) (v := undef) (a' := ?_) (lb 27 33554431) rfl rfl (any_of HT_.out (by kernel_rfl)) (fun _ _ _ h => h) (Or.inr ⟨by rfl, rfl⟩) ?_ ?_
            rotate_left
            ·simp only [Act.put, List.setIfInBounds_toArray, List.set_cons_zero, List.set_cons_succ, i64_w, i32_w]
             rfl
            refine pure_ (i := 25) (N := some 55) (v := undef) (a' := ?_) (lb 27 67108863) rfl rfl (any_of HT_.out (by kernel_rfl)) (fun _ _ _ h => h) (Or.inr ⟨by rfl, rfl⟩) ?_ ?_
            rotate_left
            ·simp only [Act.put, List.setIfInBounds_toArray, List.set_cons_zero, List.set_cons_succ, i64_w, i32_w]
             rfl
            refine pure_ (i := 26) (N := some 56) (v := ?_) (a' := ?_) (lb 27 134217727) rfl rfl (any_of HT_.out (by kernel_rfl)) (fun _ _ _ h => h) (Or.inl ⟨by rfl, ?_⟩) ?_ ?_
            rotate_left
            ·intro w'
             go_simp
             with_reducible rfl
            rotate_left
            ·simp only [Act.put, List.setIfInBounds_toArray, List.set_cons_zero, List.set_cons_succ, i64_w, i32_w]
             rfl
            refine done_ (done_of HT_.out (by kernel_rfl)) ?_
            try go_wp2
            go_roundg kj12
            case measure => have := HJ3.out; have := HK2.out; have := HJ12.out; omega
            case rel => exact ⟨(wrap64 (x7_2 + 1)), (by first | rfl | (simp; done) | (simp [*]; done)), H', ⟨by have := HJ3.out; have := HK2.out; have := HJ12.out; omega⟩, ⟨by repeat (first | (with_reducible first | exact HB.out | apply below_alloc | apply pw_below_drewN | apply below_drew1) | exact HB.out)⟩⟩
           ·rw [if_neg c18] at H
            have c18b0 : ((rdOf ByteArray.empty l1 x7_2).toList == ([] : List UInt8)) = false := beq_eq_false_iff_ne.mpr c18
            have c18b1 : ((rdOf ByteArray.empty l1 x7_2).toList != ([] : List UInt8)) = true := bne_iff_ne.mpr c18
            replace H := Option.bind_eq_some_iff.mp H
            obtain ⟨t301, A200, H⟩ := H
            try dsimp only at H
            have A20 := Aside0.mk A200
            clear A200
            by_cases c21 : t301 = true
            ·subst c21
             rw [if_pos rfl] at H
             have H1 := H
             clear H
             have H := H1
             clear H1
             replace H := Option.bind_eq_some_iff.mp H
             obtain ⟨t303, A220, H⟩ := H
             try dsimp only at H
             have A22 := Aside0.mk A220
             clear A220
             replace H := Option.bind_eq_some_iff.mp H
             obtain ⟨t305, A230, H⟩ := H
             try dsimp only at H
             have A23 := Aside0.mk A230
             clear A230
             by_cases c24 : (t303 != t305) = true
             ·rw [if_pos c24] at H
              have c24b0 : (t303 != t305) = true := c24
              (try (have c24b1 : decide (t303 = t305) = false := by simpa using c24))
              (try (have c24b2 : (t303 == t305) = false := by simpa using c24))
              (try (have c24b3 : ¬ (t303 = t305) := by simpa using c24))
              clear c24
              obtain rfl := Option.some.inj H
              try go_wp2
              have n0_ := Aside0.mk (below_drew1 HB.out)
              clear HB
              have HB := n0_
              clear n0_
              have p299 : 0 ≤ (x7_2 : Int) := of_decide_eq_true (by first | (with_reducible assumption) | assumption)
              have q299 : x7_2 < (l1.length : Int) := of_decide_eq_true (by first | (with_reducible assumption) | assumption)
              obtain ⟨ad299, e299, hx299_0⟩ := Kd.at_string HR1.out x7_2 p299 q299
              have hw299_0 := hx299_0
              cases e299
              replace hx299_0 := (HB.out.cell (World.block_lt_of_cell? w _ hx299_0)).trans hx299_0
              replace p299 := eq_true p299
              replace q299 := eq_true q299
              have p300 : 0 ≤ (x7_2 : Int) := of_decide_eq_true (by first | (with_reducible assumption) | assumption)
              have q300 : x7_2 < (l1.length : Int) := of_decide_eq_true (by first | (with_reducible assumption) | assumption)
              obtain ⟨ad300, e300, hx300_0⟩ := Kd.at_string HR1.out x7_2 p300 q300
              have hw300_0 := hx300_0
              obtain rfl : ad299 = ad300 := (by injection e300)
              replace hx300_0 := (HB.out.cell (World.block_lt_of_cell? w _ hx300_0)).trans hx300_0
              replace p300 := eq_true p300
              replace q300 := eq_true q300
              have p302 : 0 ≤ (x7_2 : Int) := of_decide_eq_true (by first | (with_reducible assumption) | assumption)
              have q302 : x7_2 < (l1.length : Int) := of_decide_eq_true (by first | (with_reducible assumption) | assumption)
              obtain ⟨ad302, e302, hx302_0⟩ := Kd.at_string HR1.out x7_2 p302 q302
              have hw302_0 := hx302_0
              obtain rfl : ad299 = ad302 := (by injection e302)
              replace hx302_0 := (HB.out.cell (World.block_lt_of_cell? w _ hx302_0)).trans hx302_0
              replace p302 := eq_true p302
              replace q302 := eq_true q302
              have p304 : 0 ≤ (x7_2 : Int) := of_decide_eq_true (by first | (with_reducible assumption) | assumption)
              have q304 : x7_2 < (l1.length : Int) := of_decide_eq_true (by first | (with_reducible assumption) | assumption)
              obtain ⟨ad304, e304, hx304_0⟩ := Kd.at_string HR1.out x7_2 p304 q304
              have hw304_0 := hx304_0
              obtain rfl : ad299 = ad304 := (by injection e304)
              replace hx304_0 := (HB.out.cell (World.block_lt_of_cell? w _ hx304_0)).trans hx304_0
              replace p304 := eq_true p304
              replace q304 := eq_true q304
              refine start_ (n := 27) (S := fun w' => w'.cell? (ad299.add (x7_2).toNat) = some (.string (rdOf ByteArray.empty l1 x7_2)) ∧ w'.cell? (ad299.add (x7_2).toNat) = some (.string (rdOf ByteArray.empty l1 x7_2)) ∧ w'.cell? (ad299.add (x7_2).toNat) = some (.string (rdOf ByteArray.empty l1 x7_2)) ∧ w'.cell? (ad299.add (x7_2).toNat) = some (.string (rdOf ByteArray.empty l1 x7_2))) (ds := []) (lb 27 0) (by kernel_rfl) rfl rfl ⟨((HB.out.cell (World.block_lt_of_cell? w _ hw299_0)).trans hw299_0), ((HB.out.cell (World.block_lt_of_cell? w _ hw300_0)).trans hw300_0), ((HB.out.cell (World.block_lt_of_cell? w _ hw302_0)).trans hw302_0), ((HB.out.cell (World.block_lt_of_cell? w _ hw304_0)).trans hw304_0)⟩ (fun hHeld => ?_); refine with_tabW copselaw17_ProfileShows.tab7 copselaw17_ProfileShows.bits7 (fun HT_ HW_ => ?_)
              generalize wc.drew = w25 at HB hx299_0 hx300_0 hx302_0 hx304_0 hHeld ⊢
              refine pure_ (i := 0) (N := some 30) (v := ?_) (a' := ?_) (lb 27 1) rfl rfl (any_of HT_.out (by kernel_rfl)) (fun _ _ _ h => h) (Or.inl ⟨by rfl, ?_⟩) ?_ ?_
              rotate_left
              ·intro w'
               go_simp
               with_reducible rfl
              rotate_left
              ·simp only [Act.put, List.setIfInBounds_toArray, List.set_cons_zero, List.set_cons_succ, i64_w, i32_w]
               rfl
              refine pure_ (i := 1) (N := some 31) (v := ?_) (a' := ?_) (lb 27 3) rfl rfl (any_of HT_.out (by kernel_rfl)) (fun _ _ _ h => h) (Or.inl ⟨by rfl, ?_⟩) ?_ ?_
              rotate_left
              ·intro w'
               go_simp
               with_reducible rfl
              rotate_left
              ·simp only [Act.put, List.setIfInBounds_toArray, List.set_cons_zero, List.set_cons_succ, i64_w, i32_w]
               rfl
              refine pure_ (i := 2) (N := some 32) (v := ?_) (a' := ?_) (lb 27 7) rfl rfl (any_of HT_.out (by kernel_rfl)) (fun _ _ _ h => h) (Or.inl ⟨by rfl, ?_⟩) ?_ ?_
              rotate_left
              ·intro w'
               go_simp
               with_reducible rfl
              rotate_left
              ·simp only [Act.put, List.setIfInBounds_toArray, List.set_cons_zero, List.set_cons_succ, i64_w, i32_w]
               rfl
              refine take_ (i := 3) (N := some 33) (v := ?_) (a' := ?_) (lb 27 15) rfl rfl (take_ofW HT_.out HW_.out (by kernel_rfl)) (fun _ _ _ h => h) (Or.inl ⟨by rfl, ?_⟩) hHeld ?_ ?_
              rotate_left
              ·rintro w' ⟨s0, s1, s2, s3⟩
               go_simp
               with_reducible rfl
              rotate_left
              ·simp only [Act.put, List.setIfInBounds_toArray, List.set_cons_zero, List.set_cons_succ, i64_w, i32_w]
               rfl
              refine pure_ (i := 4) (N := some 34) (v := ?_) (a' := ?_) (lb 27 31) rfl rfl (any_of HT_.out (by kernel_rfl)) (fun _ _ _ h => h) (Or.inl ⟨by rfl, ?_⟩) ?_ ?_
              rotate_left
              ·intro w'
               go_simp
               with_reducible rfl
              rotate_left
              ·simp only [Act.put, List.setIfInBounds_toArray, List.set_cons_zero, List.set_cons_succ, i64_w, i32_w]
               rfl
              refine pure_ (i := 5) (N := some 35) (v := ?_) (a' := ?_) (lb 27 63) rfl rfl (any_of HT_.out (by kernel_rfl)) (fun _ _ _ h => h) (Or.inl ⟨by rfl, ?_⟩) ?_ ?_
              rotate_left
              ·intro w'
               go_simp
               with_reducible rfl
              rotate_left
              ·simp only [Act.put, List.setIfInBounds_toArray, List.set_cons_zero, List.set_cons_succ, i64_w, i32_w]
               rfl
              refine pure_ (i := 6) (N := some 36) (v := ?_) (a' := ?_) (lb 27 127) rfl rfl (any_of HT_.out (by kernel_rfl)) (fun _ _ _ h => h) (Or.inl ⟨by rfl, ?_⟩) ?_ ?_
              rotate_left
              ·intro w'
               go_simp
               with_reducible rfl
              rotate_left
              ·simp only [Act.put, List.setIfInBounds_toArray, List.set_cons_zero, List.set_cons_succ, i64_w, i32_w]
               rfl
              refine pure_ (i := 7) (N := some 37) (v := ?_) (a' := ?_) (lb 27 255) rfl rfl (any_of HT_.out (by kernel_rfl)) (fun _ _ _ h => h) (Or.inl ⟨by rfl, ?_⟩) ?_ ?_
              rotate_left
              ·intro w'
               go_simp
               with_reducible rfl
              rotate_left
              ·simp only [Act.put, List.setIfInBounds_toArray, List.set_cons_zero, List.set_cons_succ, i64_w, i32_w]
               rfl
              refine pure_ (i := 8) (N := some 38) (v := ?_) (a' := ?_) (lb 27 511) rfl rfl (any_of HT_.out (by kernel_rfl)) (fun _ _ _ h => h) (Or.inl ⟨by rfl, ?_⟩) ?_ ?_
              rotate_left
              ·intro w'
               go_simp
               with_reducible rfl
              rotate_left
              ·simp only [Act.put, List.setIfInBounds_toArray, List.set_cons_zero, List.set_cons_succ, i64_w, i32_w]
               rfl
              refine take_ (i := 9) (N := some 39) (v := ?_) (a' := ?_) (lb 27 1023) rfl rfl (take_ofW HT_.out HW_.out (by kernel_rfl)) (fun _ _ _ h => h) (Or.inl ⟨by rfl, ?_⟩) hHeld ?_ ?_
              rotate_left
              ·rintro w' ⟨s0, s1, s2, s3⟩
               go_simp
               with_reducible rfl
              rotate_left
              ·simp only [Act.put, List.setIfInBounds_toArray, List.set_cons_zero, List.set_cons_succ, i64_w, i32_w]
               rfl
              refine one_ (i := 10) (N := some 40) (lb 27 2047) rfl rfl (one_of HT_.out (by kernel_rfl)) (by decide) (fun K hK => ?_)
              refine goes_ Tryd.func17 (by kernel_rfl) rfl #[.string (rdOf ByteArray.empty l1 x7_2)] (by rfl) rfl rfl (by (try simp only [List.map_toArray, List.map_cons, List.map_nil]); first | done | rfl | (simp only [List.length_drop, List.length_take]; rfl)) ?_
              with_reducible refine (copseref02_Valid.calls kj12 (rdOf ByteArray.empty l1 x7_2) true _ A20.out).mono ?_
              rintro e w26 ⟨rfl, hb⟩
              refine ⟨_, rfl, ?_⟩
              have n0_ := Aside0.mk (below_step (by repeat (first | (with_reducible first | exact HB.out | apply below_alloc | apply pw_below_drewN | apply below_drew1) | exact HB.out)) hb)
              clear HB
              have HB := n0_
              clear n0_
              (try clear hb)
              (try clear hb2)
              (try clear hk)
              (try clear hi)
              refine hK.out _ _ ⟨((HB.out.cell (World.block_lt_of_cell? w _ hw299_0)).trans hw299_0), ((HB.out.cell (World.block_lt_of_cell? w _ hw300_0)).trans hw300_0), ((HB.out.cell (World.block_lt_of_cell? w _ hw302_0)).trans hw302_0), ((HB.out.cell (World.block_lt_of_cell? w _ hw304_0)).trans hw304_0)⟩ (fun hHeld => ?_)
              clear hK K
              refine norm_ (a' := ?_) ?_ ?_
              rotate_left
              ·show Act.put _ (some 40) _ = _
               simp only [Act.put, List.setIfInBounds_toArray, List.set_cons_zero, List.set_cons_succ, i64_w, i32_w]
               rfl
              refine pure_ (i := 11) (N := some 41) (v := ?_) (a' := ?_) (lb 27 4095) rfl rfl (any_of HT_.out (by kernel_rfl)) (fun _ _ _ h => h) (Or.inl ⟨by rfl, ?_⟩) ?_ ?_
              rotate_left
              ·intro w'
               go_simp
               with_reducible rfl
              rotate_left
              ·simp only [Act.put, List.setIfInBounds_toArray, List.set_cons_zero, List.set_cons_succ, i64_w, i32_w]
               rfl
              refine pure_ (i := 12) (N := some 42) (v := ?_) (a' := ?_) (lb 27 8191) rfl rfl (any_of HT_.out (by kernel_rfl)) (fun _ _ _ h => h) (Or.inl ⟨by rfl, ?_⟩) ?_ ?_
              rotate_left
              ·intro w'
               go_simp
               with_reducible rfl
              rotate_left
              ·simp only [Act.put, List.setIfInBounds_toArray, List.set_cons_zero, List.set_cons_succ, i64_w, i32_w]
               rfl
              refine pure_ (i := 13) (N := some 43) (v := ?_) (a' := ?_) (lb 27 16383) rfl rfl (any_of HT_.out (by kernel_rfl)) (fun _ _ _ h => h) (Or.inl ⟨by rfl, ?_⟩) ?_ ?_
              rotate_left
              ·intro w'
               go_simp
               with_reducible rfl
              rotate_left
              ·simp only [Act.put, List.setIfInBounds_toArray, List.set_cons_zero, List.set_cons_succ, i64_w, i32_w]
               rfl
              refine pure_ (i := 14) (N := some 44) (v := ?_) (a' := ?_) (lb 27 32767) rfl rfl (any_of HT_.out (by kernel_rfl)) (fun _ _ _ h => h) (Or.inl ⟨by rfl, ?_⟩) ?_ ?_
              rotate_left
              ·intro w'
               go_simp
               with_reducible rfl
              rotate_left
              ·simp only [Act.put, List.setIfInBounds_toArray, List.set_cons_zero, List.set_cons_succ, i64_w, i32_w]
               rfl
              refine pure_ (i := 15) (N := some 45) (v := ?_) (a' := ?_) (lb 27 65535) rfl rfl (any_of HT_.out (by kernel_rfl)) (fun _ _ _ h => h) (Or.inl ⟨by rfl, ?_⟩) ?_ ?_
              rotate_left
              ·intro w'
               go_simp
               with_reducible rfl
              rotate_left
              ·simp only [Act.put, List.setIfInBounds_toArray, List.set_cons_zero, List.set_cons_succ, i64_w, i32_w]
               rfl
              refine pure_ (i := 16) (N := some 46) (v := ?_) (a' := ?_) (lb 27 131071) rfl rfl (any_of HT_.out (by kernel_rfl)) (fun _ _ _ h => h) (Or.inl ⟨by rfl, ?_⟩) ?_ ?_
              rotate_left
              ·intro w'
               go_simp
               with_reducible rfl
              rotate_left
              ·simp only [Act.put, List.setIfInBounds_toArray, List.set_cons_zero, List.set_cons_succ, i64_w, i32_w]
               rfl
              refine pure_ (i := 19) (N := some 49) (v := ?_) (a' := ?_) (lb 27 655359) rfl rfl (any_of HT_.out (by kernel_rfl)) (fun _ _ _ h => h) (Or.inl ⟨by rfl, ?_⟩) ?_ ?_
              rotate_left
              ·intro w'
               go_simp
               with_reducible rfl
              rotate_left
              ·simp only [Act.put, List.setIfInBounds_toArray, List.set_cons_zero, List.set_cons_succ, i64_w, i32_w]
               rfl
              refine pure_ (i := 20) (N := some 50) (v := ?_) (a' := ?_) (lb 27 1703935) rfl rfl (any_of HT_.out (by kernel_rfl)) (fun _ _ _ h => h) (Or.inl ⟨by rfl, ?_⟩) ?_ ?_
              rotate_left
              ·intro w'
               go_simp
               with_reducible rfl
              rotate_left
              ·simp only [Act.put, List.setIfInBounds_toArray, List.set_cons_zero, List.set_cons_succ, i64_w, i32_w]
               rfl
              refine pure_ (i := 21) (N := some 51) (v := ?_) (a' := ?_) (lb 27 3801087) rfl rfl (any_of HT_.out (by kernel_rfl)) (fun _ _ _ h => h) (Or.inl ⟨by rfl, ?_⟩) ?_ ?_
              rotate_left
              ·intro w'
               go_simp
               with_reducible rfl
              rotate_left
              ·simp only [Act.put, List.setIfInBounds_toArray, List.set_cons_zero, List.set_cons_succ, i64_w, i32_w]
               rfl
              refine pure_ (i := 22) (N := some 52) (v := ?_) (a' := ?_) (lb 27 7995391) rfl rfl (any_of HT_.out (by kernel_rfl)) (fun _ _ _ h => h) (Or.inl ⟨by rfl, ?_⟩) ?_ ?_
              rotate_left
              ·intro w'
               go_simp
               with_reducible rfl
              rotate_left
              ·simp only [Act.put, List.setIfInBounds_toArray, List.set_cons_zero, List.set_cons_succ, i64_w, i32_w]
               rfl
              refine take_ (i := 17) (N := some 47) (v := ?_) (a' := ?_) (lb 27 8126463) rfl rfl (take_ofW HT_.out HW_.out (by kernel_rfl)) (fun _ _ _ h => h) (Or.inl ⟨by rfl, ?_⟩) hHeld ?_ ?_
              rotate_left
              ·rintro w' ⟨s0, s1, s2, s3⟩
               go_simp
               with_reducible rfl
              rotate_left
              ·simp only [Act.put, List.setIfInBounds_toArray, List.set_cons_zero, List.set_cons_succ, i64_w, i32_w]
               rfl
              refine take_ (i := 23) (N := some 53) (v := ?_) (a' := ?_) (lb 27 16515071) rfl rfl (take_ofW HT_.out HW_.out (by kernel_rfl)) (fun _ _ _ h => h) (Or.inl ⟨by rfl, ?_⟩) hHeld ?_ ?_
              rotate_left
              ·rintro w' ⟨s0, s1, s2, s3⟩
               go_simp
               with_reducible rfl
              rotate_left
              ·simp only [Act.put, List.setIfInBounds_toArray, List.set_cons_zero, List.set_cons_succ, i64_w, i32_w]
               rfl
              refine one_ (i := 18) (N := some 48) (lb 27 16777215) rfl rfl (one_of HT_.out (by kernel_rfl)) (by decide) (fun K hK => ?_)
              refine goes_ Tryd.func18 (by kernel_rfl) rfl #[.string t295, .string (rdOf ByteArray.empty l1 x7_2)] (by rfl) rfl rfl (by (try simp only [List.map_toArray, List.map_cons, List.map_nil]); first | done | rfl | (simp only [List.length_drop, List.length_take]; rfl)) ?_
              with_reducible refine (copselaw17_shown.calls kj12 t295 (rdOf ByteArray.empty l1 x7_2) t303 _ A22.out).mono ?_
              rintro e w27 ⟨rfl, hb⟩
              refine ⟨_, rfl, ?_⟩
              have n0_ := Aside0.mk (below_step (by repeat (first | (with_reducible first | exact HB.out | apply below_alloc | apply pw_below_drewN | apply below_drew1) | exact HB.out)) hb)
              clear HB
              have HB := n0_
              clear n0_
              (try clear hb)
              (try clear hb2)
              (try clear hk)
              (try clear hi)
              refine hK.out _ _ ⟨((HB.out.cell (World.block_lt_of_cell? w _ hw299_0)).trans hw299_0), ((HB.out.cell (World.block_lt_of_cell? w _ hw300_0)).trans hw300_0), ((HB.out.cell (World.block_lt_of_cell? w _ hw302_0)).trans hw302_0), ((HB.out.cell (World.block_lt_of_cell? w _ hw304_0)).trans hw304_0)⟩ (fun hHeld => ?_)
              clear hK K
              refine norm_ (a' := ?_) ?_ ?_
              rotate_left
              ·show Act.put _ (some 48) _ = _
               simp only [Act.put, List.setIfInBounds_toArray, List.set_cons_zero, List.set_cons_succ, i64_w, i32_w]
               rfl
              refine one_ (i := 24) (N := some 54) (lb 27 33554431) rfl rfl (one_of HT_.out (by kernel_rfl)) (by decide) (fun K hK => ?_)
              refine goes_ Tryd.func19 (by kernel_rfl) rfl #[.slice A0 l0.length c0, .string (rdOf ByteArray.empty l1 x7_2)] (by rfl) rfl rfl (by (try simp only [List.map_toArray, List.map_cons, List.map_nil]); first | done | rfl | (simp only [List.length_drop, List.length_take]; rfl)) ?_
              with_reducible refine (cone_Shows.calls kj12 _ _ l0 (rdOf ByteArray.empty l1 x7_2) t305 _ ?side1 ?side2 A23.out).mono ?_
              (case side1 => repeat (first | exact (Kd.C_below HR0.out HB.out) | (with_reducible refine Kd.C_alloc ?_ _) | (with_reducible refine Kd.C_drewN ?_ _) | (with_reducible refine Kd.C_drew ?_)))
              (case side2 => exact HC0.out)
              rintro e w28 ⟨rfl, hb⟩
              refine ⟨_, rfl, ?_⟩
              have n0_ := Aside0.mk (below_step (by repeat (first | (with_reducible first | exact HB.out | apply below_alloc | apply pw_below_drewN | apply below_drew1) | exact HB.out)) hb)
              clear HB
              have HB := n0_
              clear n0_
              (try clear hb)
              (try clear hb2)
              (try clear hk)
              (try clear hi)
              refine hK.out _ _ ⟨((HB.out.cell (World.block_lt_of_cell? w _ hw299_0)).trans hw299_0), ((HB.out.cell (World.block_lt_of_cell? w _ hw300_0)).trans hw300_0), ((HB.out.cell (World.block_lt_of_cell? w _ hw302_0)).trans hw302_0), ((HB.out.cell (World.block_lt_of_cell? w _ hw304_0)).trans hw304_0)⟩ (fun hHeld => ?_)
              clear hK K
              refine norm_ (a' := ?_) ?_ ?_
              rotate_left
              ·show Act.put _ (some 54) _ = _
               simp only [Act.put, List.setIfInBounds_toArray, List.set_cons_zero, List.set_cons_succ, i64_w, i32_w]
               rfl
              refine pure_ (i := 25) (N := some 55) (v := ?_) (a' := ?_) (lb 27 67108863) rfl rfl (any_of HT_.out (by kernel_rfl)) (fun _ _ _ h => h) (Or.inl ⟨by rfl, ?_⟩) ?_ ?_
              rotate_left
              ·intro w'
               go_simp
               with_reducible rfl
              rotate_left
              ·simp only [Act.put, List.setIfInBounds_toArray, List.set_cons_zero, List.set_cons_succ, i64_w, i32_w]
               rfl
              refine pure_ (i := 26) (N := some 56) (v := ?_) (a' := ?_) (lb 27 134217727) rfl rfl (any_of HT_.out (by kernel_rfl)) (fun _ _ _ h => h) (Or.inl ⟨by rfl, ?_⟩) ?_ ?_
              rotate_left
              ·intro w'
               go_simp
               with_reducible rfl
              rotate_left
              ·simp only [Act.put, List.setIfInBounds_toArray, List.set_cons_zero, List.set_cons_succ, i64_w, i32_w]
               rfl
              refine done_ (done_of HT_.out (by kernel_rfl)) ?_
              try go_wp2
              go_ret
              exact ⟨by first | rfl | (simp [errW_none, errW_some] <;> rfl) | (simp [*, errW_none, errW_some] <;> rfl), by repeat (first | (with_reducible first | exact HB.out | apply below_alloc | apply pw_below_drewN | apply below_drew1) | exact HB.out)⟩
             ·rw [if_neg c24] at H
              have c24b0 : (t303 != t305) = false := by simpa using c24
              (try (have c24b1 : decide (t303 = t305) = true := by simpa using c24))
              (try (have c24b2 : (t303 == t305) = true := by simpa using c24))
              clear c24
              have H' := Aside0.mk H
              clear H
              try go_wp2
              have n0_ := Aside0.mk (below_drew1 HB.out)
              clear HB
              have HB := n0_
              clear n0_
              have p299 : 0 ≤ (x7_2 : Int) := of_decide_eq_true (by first | (with_reducible assumption) | assumption)
              have q299 : x7_2 < (l1.length : Int) := of_decide_eq_true (by first | (with_reducible assumption) | assumption)
              obtain ⟨ad299, e299, hx299_0⟩ := Kd.at_string HR1.out x7_2 p299 q299
              have hw299_0 := hx299_0
              cases e299
              replace hx299_0 := (HB.out.cell (World.block_lt_of_cell? w _ hx299_0)).trans hx299_0
              replace p299 := eq_true p299
              replace q299 := eq_true q299
              have p300 : 0 ≤ (x7_2 : Int) := of_decide_eq_true (by first | (with_reducible assumption) | assumption)
              have q300 : x7_2 < (l1.length : Int) := of_decide_eq_true (by first | (with_reducible assumption) | assumption)
              obtain ⟨ad300, e300, hx300_0⟩ := Kd.at_string HR1.out x7_2 p300 q300
              have hw300_0 := hx300_0
              obtain rfl : ad299 = ad300 := (by injection e300)
              replace hx300_0 := (HB.out.cell (World.block_lt_of_cell? w _ hx300_0)).trans hx300_0
              replace p300 := eq_true p300
              replace q300 := eq_true q300
              have p302 : 0 ≤ (x7_2 : Int) := of_decide_eq_true (by first | (with_reducible assumption) | assumption)
              have q302 : x7_2 < (l1.length : Int) := of_decide_eq_true (by first | (with_reducible assumption) | assumption)
              obtain ⟨ad302, e302, hx302_0⟩ := Kd.at_string HR1.out x7_2 p302 q302
              have hw302_0 := hx302_0
              obtain rfl : ad299 = ad302 := (by injection e302)
              replace hx302_0 := (HB.out.cell (World.block_lt_of_cell? w _ hx302_0)).trans hx302_0
              replace p302 := eq_true p302
              replace q302 := eq_true q302
              have p304 : 0 ≤ (x7_2 : Int) := of_decide_eq_true (by first | (with_reducible assumption) | assumption)
              have q304 : x7_2 < (l1.length : Int) := of_decide_eq_true (by first | (with_reducible assumption) | assumption)
              obtain ⟨ad304, e304, hx304_0⟩ := Kd.at_string HR1.out x7_2 p304 q304
              have hw304_0 := hx304_0
              obtain rfl : ad299 = ad304 := (by injection e304)
              replace hx304_0 := (HB.out.cell (World.block_lt_of_cell? w _ hx304_0)).trans hx304_0
              replace p304 := eq_true p304
              replace q304 := eq_true q304
              refine start_ (n := 27) (S := fun w' => w'.cell? (ad299.add (x7_2).toNat) = some (.string (rdOf ByteArray.empty l1 x7_2)) ∧ w'.cell? (ad299.add (x7_2).toNat) = some (.string (rdOf ByteArray.empty l1 x7_2)) ∧ w'.cell? (ad299.add (x7_2).toNat) = some (.string (rdOf ByteArray.empty l1 x7_2)) ∧ w'.cell? (ad299.add (x7_2).toNat) = some (.string (rdOf ByteArray.empty l1 x7_2))) (ds := []) (lb 27 0) (by kernel_rfl) rfl rfl ⟨((HB.out.cell (World.block_lt_of_cell? w _ hw299_0)).trans hw299_0), ((HB.out.cell (World.block_lt_of_cell? w _ hw300_0)).trans hw300_0), ((HB.out.cell (World.block_lt_of_cell? w _ hw302_0)).trans hw302_0), ((HB.out.cell (World.block_lt_of_cell? w _ hw304_0)).trans hw304_0)⟩ (fun hHeld => ?_); refine with_tabW copselaw17_ProfileShows.tab7 copselaw17_ProfileShows.bits7 (fun HT_ HW_ => ?_)
              generalize wc.drew = w29 at HB hx299_0 hx300_0 hx302_0 hx304_0 hHeld ⊢
              refine pure_ (i := 0) (N := some 30) (v := ?_) (a' := ?_) (lb 27 1) rfl rfl (any_of HT_.out (by kernel_rfl)) (fun _ _ _ h => h) (Or.inl ⟨by rfl, ?_⟩) ?_ ?_
              rotate_left
              ·intro w'
               go_simp
               with_reducible rfl
              rotate_left
              ·simp only [Act.put, List.setIfInBounds_toArray, List.set_cons_zero, List.set_cons_succ, i64_w, i32_w]
               rfl
              refine pure_ (i := 1) (N := some 31) (v := ?_) (a' := ?_) (lb 27 3) rfl rfl (any_of HT_.out (by kernel_rfl)) (fun _ _ _ h => h) (Or.inl ⟨by rfl, ?_⟩) ?_ ?_
              rotate_left
              ·intro w'
               go_simp
               with_reducible rfl
              rotate_left
              ·simp only [Act.put, List.setIfInBounds_toArray, List.set_cons_zero, List.set_cons_succ, i64_w, i32_w]
               rfl
              refine pure_ (i := 2) (N := some 32) (v := ?_) (a' := ?_) (lb 27 7) rfl rfl (any_of HT_.out (by kernel_rfl)) (fun _ _ _ h => h) (Or.inl ⟨by rfl, ?_⟩) ?_ ?_
              rotate_left
              ·intro w'
               go_simp
               with_reducible rfl
              rotate_left
              ·simp only [Act.put, List.setIfInBounds_toArray, List.set_cons_zero, List.set_cons_succ, i64_w, i32_w]
               rfl
              refine take_ (i := 3) (N := some 33) (v := ?_) (a' := ?_) (lb 27 15) rfl rfl (take_ofW HT_.out HW_.out (by kernel_rfl)) (fun _ _ _ h => h) (Or.inl ⟨by rfl, ?_⟩) hHeld ?_ ?_
              rotate_left
              ·rintro w' ⟨s0, s1, s2, s3⟩
               go_simp
               with_reducible rfl
              rotate_left
              ·simp only [Act.put, List.setIfInBounds_toArray, List.set_cons_zero, List.set_cons_succ, i64_w, i32_w]
               rfl
              refine pure_ (i := 4) (N := some 34) (v := ?_) (a' := ?_) (lb 27 31) rfl rfl (any_of HT_.out (by kernel_rfl)) (fun _ _ _ h => h) (Or.inl ⟨by rfl, ?_⟩) ?_ ?_
              rotate_left
              ·intro w'
               go_simp
               with_reducible rfl
              rotate_left
              ·simp only [Act.put, List.setIfInBounds_toArray, List.set_cons_zero, List.set_cons_succ, i64_w, i32_w]
               rfl
              refine pure_ (i := 5) (N := some 35) (v := ?_) (a' := ?_) (lb 27 63) rfl rfl (any_of HT_.out (by kernel_rfl)) (fun _ _ _ h => h) (Or.inl ⟨by rfl, ?_⟩) ?_ ?_
              rotate_left
              ·intro w'
               go_simp
               with_reducible rfl
              rotate_left
              ·simp only [Act.put, List.setIfInBounds_toArray, List.set_cons_zero, List.set_cons_succ, i64_w, i32_w]
               rfl
              refine pure_ (i := 6) (N := some 36) (v := ?_) (a' := ?_) (lb 27 127) rfl rfl (any_of HT_.out (by kernel_rfl)) (fun _ _ _ h => h) (Or.inl ⟨by rfl, ?_⟩) ?_ ?_
              rotate_left
              ·intro w'
               go_simp
               with_reducible rfl
              rotate_left
              ·simp only [Act.put, List.setIfInBounds_toArray, List.set_cons_zero, List.set_cons_succ, i64_w, i32_w]
               rfl
              refine pure_ (i := 7) (N := some 37) (v := ?_) (a' := ?_) (lb 27 255) rfl rfl (any_of HT_.out (by kernel_rfl)) (fun _ _ _ h => h) (Or.inl ⟨by rfl, ?_⟩) ?_ ?_
              rotate_left
              ·intro w'
               go_simp
               with_reducible rfl
              rotate_left
              ·simp only [Act.put, List.setIfInBounds_toArray, List.set_cons_zero, List.set_cons_succ, i64_w, i32_w]
               rfl
              refine pure_ (i := 8) (N := some 38) (v := ?_) (a' := ?_) (lb 27 511) rfl rfl (any_of HT_.out (by kernel_rfl)) (fun _ _ _ h => h) (Or.inl ⟨by rfl, ?_⟩) ?_ ?_
              rotate_left
              ·intro w'
               go_simp
               with_reducible rfl
              rotate_left
              ·simp only [Act.put, List.setIfInBounds_toArray, List.set_cons_zero, List.set_cons_succ, i64_w, i32_w]
               rfl
              refine take_ (i := 9) (N := some 39) (v := ?_) (a' := ?_) (lb 27 1023) rfl rfl (take_ofW HT_.out HW_.out (by kernel_rfl)) (fun _ _ _ h => h) (Or.inl ⟨by rfl, ?_⟩) hHeld ?_ ?_
              rotate_left
              ·rintro w' ⟨s0, s1, s2, s3⟩
               go_simp
               with_reducible rfl
              rotate_left
              ·simp only [Act.put, List.setIfInBounds_toArray, List.set_cons_zero, List.set_cons_succ, i64_w, i32_w]
               rfl
              refine one_ (i := 10) (N := some 40) (lb 27 2047) rfl rfl (one_of HT_.out (by kernel_rfl)) (by decide) (fun K hK => ?_)
              refine goes_ Tryd.func17 (by kernel_rfl) rfl #[.string (rdOf ByteArray.empty l1 x7_2)] (by rfl) rfl rfl (by (try simp only [List.map_toArray, List.map_cons, List.map_nil]); first | done | rfl | (simp only [List.length_drop, List.length_take]; rfl)) ?_
              with_reducible refine (copseref02_Valid.calls kj12 (rdOf ByteArray.empty l1 x7_2) true _ A20.out).mono ?_
              rintro e w30 ⟨rfl, hb⟩
              refine ⟨_, rfl, ?_⟩
              have n0_ := Aside0.mk (below_step (by repeat (first | (with_reducible first | exact HB.out | apply below_alloc | apply pw_below_drewN | apply below_drew1) | exact HB.out)) hb)
              clear HB
              have HB := n0_
              clear n0_
              (try clear hb)
              (try clear hb2)
              (try clear hk)
              (try clear hi)
              refine hK.out _ _ ⟨((HB.out.cell (World.block_lt_of_cell? w _ hw299_0)).trans hw299_0), ((HB.out.cell (World.block_lt_of_cell? w _ hw300_0)).trans hw300_0), ((HB.out.cell (World.block_lt_of_cell? w _ hw302_0)).trans hw302_0), ((HB.out.cell (World.block_lt_of_cell? w _ hw304_0)).trans hw304_0)⟩ (fun hHeld => ?_)
              clear hK K
              refine norm_ (a' := ?_) ?_ ?_
              rotate_left
              ·show Act.put _ (some 40) _ = _
               simp only [Act.put, List.setIfInBounds_toArray, List.set_cons_zero, List.set_cons_succ, i64_w, i32_w]
               rfl
              refine pure_ (i := 11) (N := some 41) (v := ?_) (a' := ?_) (lb 27 4095) rfl rfl (any_of HT_.out (by kernel_rfl)) (fun _ _ _ h => h) (Or.inl ⟨by rfl, ?_⟩) ?_ ?_
              rotate_left
              ·intro w'
               go_simp
               with_reducible rfl
              rotate_left
              ·simp only [Act.put, List.setIfInBounds_toArray, List.set_cons_zero, List.set_cons_succ, i64_w, i32_w]
               rfl
              refine pure_ (i := 12) (N := some 42) (v := ?_) (a' := ?_) (lb 27 8191) rfl rfl (any_of HT_.out (by kernel_rfl)) (fun _ _ _ h => h) (Or.inl ⟨by rfl, ?_⟩) ?_ ?_
              rotate_left
              ·intro w'
               go_simp
               with_reducible rfl
              rotate_left
              ·simp only [Act.put, List.setIfInBounds_toArray, List.set_cons_zero, List.set_cons_succ, i64_w, i32_w]
               rfl
              refine pure_ (i := 13) (N := some 43) (v := ?_) (a' := ?_) (lb 27 16383) rfl rfl (any_of HT_.out (by kernel_rfl)) (fun _ _ _ h => h) (Or.inl ⟨by rfl, ?_⟩) ?_ ?_
              rotate_left
              ·intro w'
               go_simp
               with_reducible rfl
              rotate_left
              ·simp only [Act.put, List.setIfInBounds_toArray, List.set_cons_zero, List.set_cons_succ, i64_w, i32_w]
               rfl
              refine pure_ (i := 14) (N := some 44) (v := ?_) (a' := ?_) (lb 27 32767) rfl rfl (any_of HT_.out (by kernel_rfl)) (fun _ _ _ h => h) (Or.inl ⟨by rfl, ?_⟩) ?_ ?_
              rotate_left
              ·intro w'
               go_simp
               with_reducible rfl
              rotate_left
              ·simp only [Act.put, List.setIfInBounds_toArray, List.set_cons_zero, List.set_cons_succ, i64_w, i32_w]
               rfl
              refine pure_ (i := 15) (N := some 45) (v := ?_) (a' := ?_) (lb 27 65535) rfl rfl (any_of HT_.out (by kernel_rfl)) (fun _ _ _ h => h) (Or.inl ⟨by rfl, ?_⟩) ?_ ?_
              rotate_left
              ·intro w'
               go_simp
               with_reducible rfl
              rotate_left
              ·simp only [Act.put, List.setIfInBounds_toArray, List.set_cons_zero, List.set_cons_succ, i64_w, i32_w]
               rfl
              refine pure_ (i := 16) (N := some 46) (v := ?_) (a' := ?_) (lb 27 131071) rfl rfl (any_of HT_.out (by kernel_rfl)) (fun _ _ _ h => h) (Or.inl ⟨by rfl, ?_⟩) ?_ ?_
              rotate_left
              ·intro w'
               go_simp
               with_reducible rfl
              rotate_left
              ·simp only [Act.put, List.setIfInBounds_toArray, List.set_cons_zero, List.set_cons_succ, i64_w, i32_w]
               rfl
              refine pure_ (i := 19) (N := some 49) (v := ?_) (a' := ?_) (lb 27 655359) rfl rfl (any_of HT_.out (by kernel_rfl)) (fun _ _ _ h => h) (Or.inl ⟨by rfl, ?_⟩) ?_ ?_
              rotate_left
              ·intro w'
               go_simp
               with_reducible rfl
              rotate_left
              ·simp only [Act.put, List.setIfInBounds_toArray, List.set_cons_zero, List.set_cons_succ, i64_w, i32_w]
               rfl
              refine pure_ (i := 20) (N := some 50) (v := ?_) (a' := ?_) (lb 27 1703935) rfl rfl (any_of HT_.out (by kernel_rfl)) (fun _ _ _ h => h) (Or.inl ⟨by rfl, ?_⟩) ?_ ?_
              rotate_left
              ·intro w'
               go_simp
               with_reducible rfl
              rotate_left
              ·simp only [Act.put, List.setIfInBounds_toArray, List.set_cons_zero, List.set_cons_succ, i64_w, i32_w]
               rfl
              refine pure_ (i := 21) (N := some 51) (v := ?_) (a' := ?_) (lb 27 3801087) rfl rfl (any_of HT_.out (by kernel_rfl)) (fun _ _ _ h => h) (Or.inl ⟨by rfl, ?_⟩) ?_ ?_
              rotate_left
              ·intro w'
               go_simp
               with_reducible rfl
              rotate_left
              ·simp only [Act.put, List.setIfInBounds_toArray, List.set_cons_zero, List.set_cons_succ, i64_w, i32_w]
               rfl
              refine pure_ (i := 22) (N := some 52) (v := ?_) (a' := ?_) (lb 27 7995391) rfl rfl (any_of HT_.out (by kernel_rfl)) (fun _ _ _ h => h) (Or.inl ⟨by rfl, ?_⟩) ?_ ?_
              rotate_left
              ·intro w'
               go_simp
               with_reducible rfl
              rotate_left
              ·simp only [Act.put, List.setIfInBounds_toArray, List.set_cons_zero, List.set_cons_succ, i64_w, i32_w]
               rfl
              refine take_ (i := 17) (N := some 47) (v := ?_) (a' := ?_) (lb 27 8126463) rfl rfl (take_ofW HT_.out HW_.out (by kernel_rfl)) (fun _ _ _ h => h) (Or.inl ⟨by rfl, ?_⟩) hHeld ?_ ?_
              rotate_left
              ·rintro w' ⟨s0, s1, s2, s3⟩
               go_simp
               with_reducible rfl
              rotate_left
              ·simp only [Act.put, List.setIfInBounds_toArray, List.set_cons_zero, List.set_cons_succ, i64_w, i32_w]
               rfl
              refine take_ (i := 23) (N := some 53) (v := ?_) (a' := ?_) (lb 27 16515071) rfl rfl (take_ofW HT_.out HW_.out (by kernel_rfl)) (fun _ _ _ h => h) (Or.inl ⟨by rfl, ?_⟩) hHeld ?_ ?_
              rotate_left
              ·rintro w' ⟨s0, s1, s2, s3⟩
               go_simp
               with_reducible rfl
              rotate_left
              ·simp only [Act.put, List.setIfInBounds_toArray, List.set_cons_zero, List.set_cons_succ, i64_w, i32_w]
               rfl
              refine one_ (i := 18) (N := some 48) (lb 27 16777215) rfl rfl (one_of HT_.out (by kernel_rfl)) (by decide) (fun K hK => ?_)
              refine goes_ Tryd.func18 (by kernel_rfl) rfl #[.string t295, .string (rdOf ByteArray.empty l1 x7_2)] (by rfl) rfl rfl (by (try simp only [List.map_toArray, List.map_cons, List.map_nil]); first | done | rfl | (simp only [List.length_drop, List.length_take]; rfl)) ?_
              with_reducible refine (copselaw17_shown.calls kj12 t295 (rdOf ByteArray.empty l1 x7_2) t303 _ A22.out).mono ?_
              rintro e w31 ⟨rfl, hb⟩
              refine ⟨_, rfl, ?_⟩
              have n0_ := Aside0.mk (below_step (by repeat (first | (with_reducible first | exact HB.out | apply below_alloc | apply pw_below_drewN | apply below_drew1) | exact HB.out)) hb)
              clear HB
              have HB := n0_
              clear n0_
              (try clear hb)
              (try clear hb2)
              (try clear hk)
              (try clear hi)
              refine hK.out _ _ ⟨((HB.out.cell (World.block_lt_of_cell? w _ hw299_0)).trans hw299_0), ((HB.out.cell (World.block_lt_of_cell? w _ hw300_0)).trans hw300_0), ((HB.out.cell (World.block_lt_of_cell? w _ hw302_0)).trans hw302_0), ((HB.out.cell (World.block_lt_of_cell? w _ hw304_0)).trans hw304_0)⟩ (fun hHeld => ?_)
              clear hK K
              refine norm_ (a' := ?_) ?_ ?_
              rotate_left
              ·show Act.put _ (some 48) _ = _
               simp only [Act.put, List.setIfInBounds_toArray, List.set_cons_zero, List.set_cons_succ, i64_w, i32_w]
               rfl
              refine one_ (i := 24) (N := some 54) (lb 27 33554431) rfl rfl (one_of HT_.out (by kernel_rfl)) (by decide) (fun K hK => ?_)
              refine goes_ Tryd.func19 (by kernel_rfl) rfl #[.slice A0 l0.length c0, .string (rdOf ByteArray.empty l1 x7_2)] (by rfl) rfl rfl (by (try simp only [List.map_toArray, List.map_cons, List.map_nil]); first | done | rfl | (simp only [List.length_drop, List.length_take]; rfl)) ?_
              with_reducible refine (cone_Shows.calls kj12 _ _ l0 (rdOf ByteArray.empty l1 x7_2) t305 _ ?side1 ?side2 A23.out).mono ?_
              (case side1 => repeat (first | exact (Kd.C_below HR0.out HB.out) | (with_reducible refine Kd.C_alloc ?_ _) | (with_reducible refine Kd.C_drewN ?_ _) | (with_reducible refine Kd.C_drew ?_)))
              (case side2 => exact HC0.out)
              rintro e w32 ⟨rfl, hb⟩
              refine ⟨_, rfl, ?_⟩
              have n0_ := Aside0.mk (below_step (by repeat (first | (with_reducible first | exact HB.out | apply below_alloc | apply pw_below_drewN | apply below_drew1) | exact HB.out)) hb)
              clear HB
              have HB := n0_
              clear n0_
              (try clear hb)
              (try clear hb2)
              (try clear hk)
              (try clear hi)
              refine hK.out _ _ ⟨((HB.out.cell (World.block_lt_of_cell? w _ hw299_0)).trans hw299_0), ((HB.out.cell (World.block_lt_of_cell? w _ hw300_0)).trans hw300_0), ((HB.out.cell (World.block_lt_of_cell? w _ hw302_0)).trans hw302_0), ((HB.out.cell (World.block_lt_of_cell? w _ hw304_0)).trans hw304_0)⟩ (fun hHeld => ?_)
              clear hK K
              refine norm_ (a' := ?_) ?_ ?_
              rotate_left
              ·show Act.put _ (some 54) _ = _
               simp only [Act.put, List.setIfInBounds_toArray, List.set_cons_zero, List.set_cons_succ, i64_w, i32_w]
               rfl
              refine pure_ (i := 25) (N := some 55) (v := ?_) (a' := ?_) (lb 27 67108863) rfl rfl (any_of HT_.out (by kernel_rfl)) (fun _ _ _ h => h) (Or.inl ⟨by rfl, ?_⟩) ?_ ?_
              rotate_left
              ·intro w'
               go_simp
               with_reducible rfl
              rotate_left
              ·simp only [Act.put, List.setIfInBounds_toArray, List.set_cons_zero, List.set_cons_succ, i64_w, i32_w]
               rfl
              refine pure_ (i := 26) (N := some 56) (v := ?_) (a' := ?_) (lb 27 134217727) rfl rfl (any_of HT_.out (by kernel_rfl)) (fun _ _ _ h => h) (Or.inl ⟨by rfl, ?_⟩) ?_ ?_
              rotate_left
              ·intro w'
               go_simp
               with_reducible rfl
              rotate_left
              ·simp only [Act.put, List.setIfInBounds_toArray, List.set_cons_zero, List.set_cons_succ, i64_w, i32_w]
               rfl
              refine done_ (done_of HT_.out (by kernel_rfl)) ?_
              try go_wp2
              go_roundg kj12
              case measure => have := HJ3.out; have := HK2.out; have := HJ12.out; omega
              case rel => exact ⟨(wrap64 (x7_2 + 1)), (by first | rfl | (simp; done) | (simp [*]; done)), H', ⟨by have := HJ3.out; have := HK2.out; have := HJ12.out; omega⟩, ⟨by repeat (first | (with_reducible first | exact HB.out | apply below_alloc | apply pw_below_drewN | apply below_drew1) | exact HB.out)⟩⟩
            ·replace c21 := Bool.eq_false_iff.mpr c21
             subst c21
             have H1 : (copselaw17_ProfileShows.l0 kj12 l0 l1 t295 (wrap64 (x7_2 + 1))) = some r := by rw [if_neg (show ¬ (false = true) by decide)] at H; exact H
             clear H
             have H := H1
             clear H1
             have H' := Aside0.mk H
             clear H
             try go_wp2
             have n0_ := Aside0.mk (below_drew1 HB.out)
             clear HB
             have HB := n0_
             clear n0_
             have p299 : 0 ≤ (x7_2 : Int) := of_decide_eq_true (by first | (with_reducible assumption) | assumption)
             have q299 : x7_2 < (l1.length : Int) := of_decide_eq_true (by first | (with_reducible assumption) | assumption)
             obtain ⟨ad299, e299, hx299_0⟩ := Kd.at_string HR1.out x7_2 p299 q299
             have hw299_0 := hx299_0
             cases e299
             replace hx299_0 := (HB.out.cell (World.block_lt_of_cell? w _ hx299_0)).trans hx299_0
             replace p299 := eq_true p299
             replace q299 := eq_true q299
             have p300 : 0 ≤ (x7_2 : Int) := of_decide_eq_true (by first | (with_reducible assumption) | assumption)
             have q300 : x7_2 < (l1.length : Int) := of_decide_eq_true (by first | (with_reducible assumption) | assumption)
             obtain ⟨ad300, e300, hx300_0⟩ := Kd.at_string HR1.out x7_2 p300 q300
             have hw300_0 := hx300_0
             obtain rfl : ad299 = ad300 := (by injection e300)
             replace hx300_0 := (HB.out.cell (World.block_lt_of_cell? w _ hx300_0)).trans hx300_0
             replace p300 := eq_true p300
             replace q300 := eq_true q300
             refine start_ (n := 27) (S := fun w' => w'.cell? (ad299.add (x7_2).toNat) = some (.string (rdOf ByteArray.empty l1 x7_2)) ∧ w'.cell? (ad299.add (x7_2).toNat) = some (.string (rdOf ByteArray.empty l1 x7_2))) (ds := []) (lb 27 0) (by kernel_rfl) rfl rfl ⟨((HB.out.cell (World.block_lt_of_cell? w _ hw299_0)).trans hw299_0), ((HB.out.cell (World.block_lt_of_cell? w _ hw300_0)).trans hw300_0)⟩ (fun hHeld => ?_); refine with_tabW copselaw17_ProfileShows.tab7 copselaw17_ProfileShows.bits7 (fun HT_ HW_ => ?_)
             generalize wc.drew = w33 at HB hx299_0 hx300_0 hHeld ⊢
             refine pure_ (i := 0) (N := some 30) (v := ?_) (a' := ?_) (lb 27 1) rfl rfl (any_of HT_.out (by kernel_rfl)) (fun _ _ _ h => h) (Or.inl ⟨by rfl, ?_⟩) ?_ ?_
             rotate_left
             ·intro w'
              go_simp
              with_reducible rfl
             rotate_left
             ·simp only [Act.put, List.setIfInBounds_toArray, List.set_cons_zero, List.set_cons_succ, i64_w, i32_w]
              rfl
             refine pure_ (i := 1) (N := some 31) (v := ?_) (a' := ?_) (lb 27 3) rfl rfl (any_of HT_.out (by kernel_rfl)) (fun _ _ _ h => h) (Or.inl ⟨by rfl, ?_⟩) ?_ ?_
             rotate_left
             ·intro w'
              go_simp
              with_reducible rfl
             rotate_left
             ·simp only [Act.put, List.setIfInBounds_toArray, List.set_cons_zero, List.set_cons_succ, i64_w, i32_w]
              rfl
             refine pure_ (i := 2) (N := some 32) (v := ?_) (a' := ?_) (lb 27 7) rfl rfl (any_of HT_.out (by kernel_rfl)) (fun _ _ _ h => h) (Or.inl ⟨by rfl, ?_⟩) ?_ ?_
             rotate_left
             ·intro w'
              go_simp
              with_reducible rfl
             rotate_left
             ·simp only [Act.put, List.setIfInBounds_toArray, List.set_cons_zero, List.set_cons_succ, i64_w, i32_w]
              rfl
             refine take_ (i := 3) (N := some 33) (v := ?_) (a' := ?_) (lb 27 15) rfl rfl (take_ofW HT_.out HW_.out (by kernel_rfl)) (fun _ _ _ h => h) (Or.inl ⟨by rfl, ?_⟩) hHeld ?_ ?_
             rotate_left
             ·rintro w' ⟨s0, s1⟩
              go_simp
              with_reducible rfl
             rotate_left
             ·simp only [Act.put, List.setIfInBounds_toArray, List.set_cons_zero, List.set_cons_succ, i64_w, i32_w]
              rfl
             refine pure_ (i := 4) (N := some 34) (v := ?_) (a' := ?_) (lb 27 31) rfl rfl (any_of HT_.out (by kernel_rfl)) (fun _ _ _ h => h) (Or.inl ⟨by rfl, ?_⟩) ?_ ?_
             rotate_left
             ·intro w'
              go_simp
              with_reducible rfl
             rotate_left
             ·simp only [Act.put, List.setIfInBounds_toArray, List.set_cons_zero, List.set_cons_succ, i64_w, i32_w]
              rfl
             refine pure_ (i := 5) (N := some 35) (v := ?_) (a' := ?_) (lb 27 63) rfl rfl (any_of HT_.out (by kernel_rfl)) (fun _ _ _ h => h) (Or.inl ⟨by rfl, ?_⟩) ?_ ?_
             rotate_left
             ·intro w'
              go_simp
              with_reducible rfl
             rotate_left
             ·simp only [Act.put, List.setIfInBounds_toArray, List.set_cons_zero, List.set_cons_succ, i64_w, i32_w]
              rfl
             refine pure_ (i := 6) (N := some 36) (v := ?_) (a' := ?_) (lb 27 127) rfl rfl (any_of HT_.out (by kernel_rfl)) (fun _ _ _ h => h) (Or.inl ⟨by rfl, ?_⟩) ?_ ?_
             rotate_left
             ·intro w'
              go_simp
              with_reducible rfl
             rotate_left
             ·simp only [Act.put, List.setIfInBounds_toArray, List.set_cons_zero, List.set_cons_succ, i64_w, i32_w]
              rfl
             refine pure_ (i := 7) (N := some 37) (v := ?_) (a' := ?_) (lb 27 255) rfl rfl (any_of HT_.out (by kernel_rfl)) (fun _ _ _ h => h) (Or.inl ⟨by rfl, ?_⟩) ?_ ?_
             rotate_left
             ·intro w'
              go_simp
              with_reducible rfl
             rotate_left
             ·simp only [Act.put, List.setIfInBounds_toArray, List.set_cons_zero, List.set_cons_succ, i64_w, i32_w]
              rfl
             refine pure_ (i := 8) (N := some 38) (v := ?_) (a' := ?_) (lb 27 511) rfl rfl (any_of HT_.out (by kernel_rfl)) (fun _ _ _ h => h) (Or.inl ⟨by rfl, ?_⟩) ?_ ?_
             rotate_left
             ·intro w'
              go_simp
              with_reducible rfl
             rotate_left
             ·simp only [Act.put, List.setIfInBounds_toArray, List.set_cons_zero, List.set_cons_succ, i64_w, i32_w]
              rfl
             refine take_ (i := 9) (N := some 39) (v := ?_) (a' := ?_) (lb 27 1023) rfl rfl (take_ofW HT_.out HW_.out (by kernel_rfl)) (fun _ _ _ h => h) (Or.inl ⟨by rfl, ?_⟩) hHeld ?_ ?_
             rotate_left
             ·rintro w' ⟨s0, s1⟩
              go_simp
              with_reducible rfl
             rotate_left
             ·simp only [Act.put, List.setIfInBounds_toArray, List.set_cons_zero, List.set_cons_succ, i64_w, i32_w]
              rfl
             refine one_ (i := 10) (N := some 40) (lb 27 2047) rfl rfl (one_of HT_.out (by kernel_rfl)) (by decide) (fun K hK => ?_)
             refine goes_ Tryd.func17 (by kernel_rfl) rfl #[.string (rdOf ByteArray.empty l1 x7_2)] (by rfl) rfl rfl (by (try simp only [List.map_toArray, List.map_cons, List.map_nil]); first | done | rfl | (simp only [List.length_drop, List.length_take]; rfl)) ?_
             with_reducible refine (copseref02_Valid.calls kj12 (rdOf ByteArray.empty l1 x7_2) false _ A20.out).mono ?_
             rintro e w34 ⟨rfl, hb⟩
             refine ⟨_, rfl, ?_⟩
             have n0_ := Aside0.mk (below_step (by repeat (first | (with_reducible first | exact HB.out | apply below_alloc | apply pw_below_drewN | apply below_drew1) | exact HB.out)) hb)
             clear HB
             have HB := n0_
             clear n0_
             (try clear hb)
             (try clear hb2)
             (try clear hk)
             (try clear hi)
             refine hK.out _ _ ⟨((HB.out.cell (World.block_lt_of_cell? w _ hw299_0)).trans hw299_0), ((HB.out.cell (World.block_lt_of_cell? w _ hw300_0)).trans hw300_0)⟩ (fun hHeld => ?_)
             clear hK K
             refine norm_ (a' := ?_) ?_ ?_
             rotate_left
             ·show Act.put _ (some 40) _ = _
              simp only [Act.put, List.setIfInBounds_toArray, List.set_cons_zero, List.set_cons_succ, i64_w, i32_w]
              rfl
             refine pure_ (i := 11) (N := some 41) (v := ?_) (a' := ?_) (lb 27 4095) rfl rfl (any_of HT_.out (by kernel_rfl)) (fun _ _ _ h => h) (Or.inl ⟨by rfl, ?_⟩) ?_ ?_
             rotate_left
             ·intro w'
              go_simp
              with_reducible rfl
             rotate_left
             ·simp only [Act.put, List.setIfInBounds_toArray, List.set_cons_zero, List.set_cons_succ, i64_w, i32_w]
              rfl
             refine pure_ (i := 12) (N := some 42) (v := ?_) (a' := ?_) (lb 27 8191) rfl rfl (any_of HT_.out (by kernel_rfl)) (fun _ _ _ h => h) (Or.inl ⟨by rfl, ?_⟩) ?_ ?_
             rotate_left
             ·intro w'
              go_simp
              with_reducible rfl
             rotate_left
             ·simp only [Act.put, List.setIfInBounds_toArray, List.set_cons_zero, List.set_cons_succ, i64_w, i32_w]
              rfl
             refine pure_ (i := 13) (N := some 43) (v := undef) (a' := ?_) (lb 27 16383) rfl rfl (any_of HT_.out (by kernel_rfl)) (fun _ _ _ h => h) (Or.inr ⟨by rfl, rfl⟩) ?_ ?_
             rotate_left
             ·simp only [Act.put, List.setIfInBounds_toArray, List.set_cons_zero, List.set_cons_succ, i64_w, i32_w]
              rfl
             refine pure_ (i := 14) (N := some 44) (v := undef) (a' := ?_) (lb 27 32767) rfl rfl (any_of HT_.out (by kernel_rfl)) (fun _ _ _ h => h) (Or.inr ⟨by rfl, rfl⟩) ?_ ?_
             rotate_left
             ·simp only [Act.put, List.setIfInBounds_toArray, List.set_cons_zero, List.set_cons_succ, i64_w, i32_w]
              rfl
             refine pure_ (i := 15) (N := some 45) (v := undef) (a' := ?_) (lb 27 65535) rfl rfl (any_of HT_.out (by kernel_rfl)) (fun _ _ _ h => h) (Or.inr ⟨by rfl, rfl⟩) ?_ ?_
             rotate_left
             ·simp only [Act.put, List.setIfInBounds_toArray, List.set_cons_zero, List.set_cons_succ, i64_w, i32_w]
              rfl
             refine pure_ (i := 16) (N := some 46) (v := undef) (a' := ?_) (lb 27 131071) rfl rfl (any_of HT_.out (by kernel_rfl)) (fun _ _ _ h => h) (Or.inr ⟨by rfl, rfl⟩) ?_ ?_
             rotate_left
             ·simp only [Act.put, List.setIfInBounds_toArray, List.set_cons_zero, List.set_cons_succ, i64_w, i32_w]
              rfl
             refine pure_ (i := 17) (N := some 47) (v := undef) (a' := ?_) (lb 27 262143) rfl rfl (any_of HT_.out (by kernel_rfl)) (fun _ _ _ h => h) (Or.inr ⟨by rfl, rfl⟩) ?_ ?_
             rotate_left
             ·simp only [Act.put, List.setIfInBounds_toArray, List.set_cons_zero, List.set_cons_succ, i64_w, i32_w]
              rfl
             refine pure_ (i := 18) (N := some 48) (v := undef) (a' := ?_) (lb 27 524287) rfl rfl (any_of HT_.out (by kernel_rfl)) (fun _ _ _ h => h) (Or.inr ⟨by rfl, rfl⟩) ?_ ?_
             rotate_left
             ·simp only [Act.put, List.setIfInBounds_toArray, List.set_cons_zero, List.set_cons_succ, i64_w, i32_w]
              rfl
             refine pure_ (i := 19) (N := some 49) (v := undef) (a' := ?_) (lb 27 1048575) rfl rfl (any_of HT_.out (by kernel_rfl)) (fun _ _ _ h => h) (Or.inr ⟨by rfl, rfl⟩) ?_ ?_
             rotate_left
             ·simp only [Act.put, List.setIfInBounds_toArray, List.set_cons_zero, List.set_cons_succ, i64_w, i32_w]
              rfl
             refine pure_ (i := 20) (N := some 50) (v := undef) (a' := ?_) (lb 27 2097151) rfl rfl (any_of HT_.out (by kernel_rfl)) (fun _ _ _ h => h) (Or.inr ⟨by rfl, rfl⟩) ?_ ?_
             rotate_left
             ·simp only [Act.put, List.setIfInBounds_toArray, List.set_cons_zero, List.set_cons_succ, i64_w, i32_w]
              rfl
             refine pure_ (i := 21) (N := some 51) (v := undef) (a' := ?_) (lb 27 4194303) rfl rfl (any_of HT_.out (by kernel_rfl)) (fun _ _ _ h => h) (Or.inr ⟨by rfl, rfl⟩) ?_ ?_
             rotate_left
             ·simp only [Act.put, List.setIfInBounds_toArray, List.set_cons_zero, List.set_cons_succ, i64_w, i32_w]
              rfl
             refine pure_ (i := 22) (N := some 52) (v := undef) (a' := ?_) (lb 27 8388607) rfl rfl (any_of HT_.out (by kernel_rfl)) (fun _ _ _ h => h) (Or.inr ⟨by rfl, rfl⟩) ?_ ?_
             rotate_left
             ·simp only [Act.put, List.setIfInBounds_toArray, List.set_cons_zero, List.set_cons_succ, i64_w, i32_w]
              rfl
             refine pure_ (i := 23) (N := some 53) (v := undef) (a' := ?_) (lb 27 16777215) rfl rfl (any_of HT_.out (by kernel_rfl)) (fun _ _ _ h => h) (Or.inr ⟨by rfl, rfl⟩) ?_ ?_
             rotate_left
             ·simp only [Act.put, List.setIfInBounds_toArray, List.set_cons_zero, List.set_cons_succ, i64_w, i32_w]
              rfl
             refine pure_ (i := 24) (N := some 54) (v := undef) (a' := ?_) (lb 27 33554431) rfl rfl (any_of HT_.out (by kernel_rfl)) (fun _ _ _ h => h) (Or.inr ⟨by rfl, rfl⟩) ?_ ?_
             rotate_left
             ·simp only [Act.put, List.setIfInBounds_toArray, List.set_cons_zero, List.set_cons_succ, i64_w, i32_w]
              rfl
             refine pure_ (i := 25) (N := some 55) (v := undef) (a' := ?_) (lb 27 67108863) rfl rfl (any_of HT_.out (by kernel_rfl)) (fun _ _ _ h => h) (Or.inr ⟨by rfl, rfl⟩) ?_ ?_
             rotate_left
             ·simp only [Act.put, List.setIfInBounds_toArray, List.set_cons_zero, List.set_cons_succ, i64_w, i32_w]
              rfl
             refine pure_ (i := 26) (N := some 56) (v := ?_) (a' := ?_) (lb 27 134217727) rfl rfl (any_of HT_.out (by kernel_rfl)) (fun _ _ _ h => h) (Or.inl ⟨by rfl, ?_⟩) ?_ ?_
             rotate_left
             ·intro w'
              go_simp
              with_reducible rfl
             rotate_left
             ·simp only [Act.put, List.setIfInBounds_toArray, List.set_cons_zero, List.set_cons_succ, i64_w, i32_w]
              rfl
             refine done_ (done_of HT_.out (by kernel_rfl)) ?_
             try go_wp2
             go_roundg kj12
             case measure => have := HJ3.out; have := HK2.out; have := HJ12.out; omega
             case rel => exact ⟨(wrap64 (x7_2 + 1)), (by first | rfl | (simp; done) | (simp [*]; done)), H', ⟨by have := HJ3.out; have := HK2.out; have := HJ12.out; omega⟩, ⟨by repeat (first | (with_reducible first | exact HB.out | apply below_alloc | apply pw_below_drewN | apply below_drew1) | exact HB.out)⟩⟩
          ·rw [if_neg c17] at H
           exact absurd H (by simp)
         ·rw [if_neg c16] at H
          exact absurd H (by simp)
        ·replace c15 := Bool.eq_false_iff.mpr c15
         subst c15
         have H1 : (some true) = some r := by rw [if_neg (show ¬ (false = true) by decide)] at H; exact H
         clear H
         have H := H1
         clear H1
         obtain rfl := Option.some.inj H
         go_wp2
         go_ret
         exact ⟨by first | rfl | (simp [errW_none, errW_some] <;> rfl) | (simp [*, errW_none, errW_some] <;> rfl), by repeat (first | (with_reducible first | exact HB.out | apply below_alloc | apply pw_below_drewN | apply below_drew1) | exact HB.out)⟩
end Go.Proofs.YtehfogjibhnabaaDoor.PAll
namespace Go.Proofs.YtehfogjibhnabaaDoor.PAll
open Go.RowKit Go.Proofs.YtehfogjibhnabaaDoorW.PrintWords Go.Proofs.YtehfogjibhnabaaDoorW.PrintLast Go.Proofs.YtehfogjibhnabaaDoorW.PrintMore
open Go.Proofs.YtehfogjibhnabaaDoor.Sp
def writeS (s : Str) : ByteArray × Int := if (s.length : Int) > 65536 then (⟨#[]⟩, 18) else (mk s, 0)
def writeR (k : List ByteArray) : ByteArray × Int := if coneR none k = true then writeS (textS k) else (⟨#[]⟩, 13)
theorem progWrite (x : List ByteArray) (hx : x.length ≤ 1048576) (hf : Fits x) : Ev (fun k => profile_Write.f k x) (writeR x) := by
 refine Ev.bind (coneValid_ev x (by omega) hf) ?_
 unfold writeR
 by_cases hc : coneR none x = true
 ·rw [if_pos hc, if_pos hc]
  refine ⟨0, fun k _ => ?_⟩
  dsimp only
  rw [if_pos rfl]
  unfold profile_text.f
  rw [if_pos ⟨hc, hx⟩, Option.bind_some, mk_size]
  unfold writeS
  split <;> rfl
 ·rw [if_neg hc, if_neg hc]
  exact ⟨0, fun k _ => by dsimp only; rw [if_neg (by decide)]⟩
end Go.Proofs.YtehfogjibhnabaaDoor.PAll
namespace Go.Proofs.YtehfogjibhnabaaDoor.PAll
open Go.RowKit Go.Proofs.YtehfogjibhnabaaDoorW.PrintWords Go.Proofs.YtehfogjibhnabaaDoorW.PrintLast Go.Proofs.YtehfogjibhnabaaDoorW.PrintMore
open Go.Proofs.YtehfogjibhnabaaDoor.Sp
theorem writeR_ok {k : List ByteArray} {s : ByteArray} (h : writeR k = (s, 0)) : coneR none k = true ∧ s = mk (textS k) ∧ (textS k).length ≤ 65536 := by
 unfold writeR at h
 by_cases hc : coneR none k = true
 ·rw [if_pos hc] at h
  unfold writeS at h
  by_cases hl : ((textS k).length : Int) > 65536
  ·rw [if_pos hl] at h; have := (Prod.mk.inj h).2; omega
  ·rw [if_neg hl] at h
   exact ⟨hc, (Prod.mk.inj h).1.symm, by omega⟩
 ·rw [if_neg hc] at h; have := (Prod.mk.inj h).2; omega
end Go.Proofs.YtehfogjibhnabaaDoor.PAll
namespace Go.Proofs.YtehfogjibhnabaaDoor.PAll
open Go.RowKit Go.Proofs.YtehfogjibhnabaaDoorW.PrintWords Go.Proofs.YtehfogjibhnabaaDoorW.PrintLast Go.Proofs.YtehfogjibhnabaaDoorW.PrintMore
open Go.Proofs.YtehfogjibhnabaaDoor.Sp
theorem known17 : Ev (fun k => copselaw17_known.f k) true := Ev.of copselaw17_known.mono (k := 60) (by kernel_rfl)
end Go.Proofs.YtehfogjibhnabaaDoor.PAll
namespace Go.Proofs.YtehfogjibhnabaaDoor.PAll
open Go.RowKit Go.Proofs.YtehfogjibhnabaaDoorW.PrintWords Go.Proofs.YtehfogjibhnabaaDoorW.PrintLast Go.Proofs.YtehfogjibhnabaaDoorW.PrintMore
open Go.Proofs.YtehfogjibhnabaaDoor.Sp
theorem valid_end {p : ByteArray} (hv : validB p = true) {x y : Str} (h : bs p = x ++ 47 :: y) (_hx : x ≠ []) : y ≠ [] := by
 rintro rfl
 have h1 : ([] : Str) ∈ pcs (bs p) := by
  rw [h, pcs_of (by simp), spl_append]
  exact List.mem_append_right _ (by simp [spl])
 rw [← pB_bs] at h1
 obtain ⟨q, hq, hq0⟩ := List.mem_map.1 h1
 unfold validB at hv
 simp only [Bool.and_eq_true, List.all_eq_true] at hv
 have h2 := hv.2 q hq
 unfold compB at h2
 simp [hq0] at h2
theorem front_iff {p d : ByteArray} (hv : validB p = true) (hd : bs d ≠ []) : ((bs d ++ [47]).length < (bs p).length ∧ (bs p).take (bs d ++ [47]).length = bs d ++ [47]) ↔ aboveB d p = true := by
 rw [above_text hd]
 constructor
 ·rintro ⟨_, h2⟩
  refine ⟨(bs p).drop (bs d ++ [47]).length, ?_⟩
  have := List.take_append_drop (bs d ++ [47]).length (bs p)
  rw [h2] at this
  rw [← this]; simp
 ·rintro ⟨y, hy⟩
  have hn := valid_end hv hy hd
  have := List.length_pos_iff.2 hn
  rw [hy]
  refine ⟨by simp; omega, ?_⟩
  rw [show bs d ++ 47 :: y = (bs d ++ [47]) ++ y by simp]
  exact List.take_left' rfl
theorem deep_iff {p d : ByteArray} (hd : bs d ≠ []) (ha : aboveB d p = true) : (47 : UInt8) ∈ (bs p).drop (bs d ++ [47]).length ↔ d ≠ dirB p := by
 obtain ⟨y, hy⟩ := (above_text hd).1 ha
 have e : (bs p).drop (bs d ++ [47]).length = y := by
  rw [hy, show bs d ++ 47 :: y = (bs d ++ [47]) ++ y by simp]; exact List.drop_left' rfl
 have ep : p = mk (bs d ++ 47 :: y) := by rw [← hy, mk_bs]
 rw [e]
 constructor
 ·rintro h rfl
  rcases last_slash y with h1 | ⟨y1, y2, rfl, h2⟩
  ·exact h1 h
  ·have : dirB p = mk (bs (dirB p) ++ 47 :: y1) := by
    conv => lhs; rw [ep]
    rw [show bs (dirB p) ++ 47 :: (y1 ++ 47 :: y2) = (bs (dirB p) ++ 47 :: y1) ++ 47 :: y2 by simp, dir_split h2]
   have := congrArg (fun a => (bs a).length) this
   simp [bs_mk] at this
 ·intro hne
  by_cases h : (47 : UInt8) ∈ y
  ·exact h
  ·exfalso
   apply hne
   rw [ep, dir_split h, mk_bs]
theorem head_dir {d : ByteArray} : (openL d).head? = some 47 := rfl
theorem step_open {p d : ByteArray} (hv : validB p = true) (hd : bs d ≠ []) (b : Bool) : stepW (bs p) b (openL d) = if aboveB d p = true then true else b := by
 unfold stepW
 have h1 : openL d ≠ [47, 42] := fun e => by
  have := congrArg List.getLast? e
  unfold openL at this
  rw [List.getLast?_append] at this
  simp at this
 have h2 : openL d ≠ [] := by unfold openL; simp
 have h3 : ¬ (openL d).head? = some 33 := by rw [head_dir]; decide
 have h4 : dirW (openL d) = bs d ++ [47] := by
  unfold dirW
  rw [if_neg h3]
  unfold midS openL
  simp
 rw [if_neg h1, if_neg h2, h4, if_neg h3]
 by_cases ha : aboveB d p = true
 ·rw [if_pos ((front_iff hv hd).2 ha), if_pos ha]
 ·rw [if_neg (fun h => ha ((front_iff hv hd).1 h)), if_neg ha]
theorem step_shut {p d : ByteArray} (hv : validB p = true) (hd : bs d ≠ []) (b : Bool) : stepW (bs p) b (shutL d) = if aboveB d p = true then (if d ≠ dirB p then false else b) else b := by
 unfold stepW
 have h1 : shutL d ≠ [47, 42] := by unfold shutL; simp
 have h2 : shutL d ≠ [] := by unfold shutL; simp
 have h3 : (shutL d).head? = some 33 := rfl
 have h5 : midS ((shutL d).drop 1) = bs d ++ [47, 42] := by
  unfold midS shutL
  simp
  rw [show bs d ++ [47, 42, 47] = (bs d ++ [47, 42]) ++ [47] by simp]
  exact List.take_left' (by simp)
 have h6 : bs d ++ [47, 42] ≠ [42] := fun e => by
  have := congrArg List.length e
  simp at this
 have h4 : dirW (shutL d) = bs d ++ [47] := by
  unfold dirW
  rw [if_pos h3, h5, if_neg h6]
  simp
 rw [if_neg h1, if_neg h2, h4, if_pos h3]
 by_cases ha : aboveB d p = true
 ·rw [if_pos ((front_iff hv hd).2 ha), if_pos ha]
  by_cases hq : d ≠ dirB p
  ·rw [if_pos hq, if_pos ((deep_iff hd ha).2 hq)]
  ·rw [if_neg hq, if_neg (fun h => hq ((deep_iff hd ha).1 h))]
 ·rw [if_neg (fun h => ha ((front_iff hv hd).1 h)), if_neg ha]
theorem step_two {p d : ByteArray} (k : List ByteArray) (hv : validB p = true) (hd : bs d ≠ []) (b : Bool) : (twoL k d).foldl (stepW (bs p)) b = if aboveB d p = true then decide (d ∈ k ∨ d = dirB p) else b := by
 unfold twoL
 rw [List.foldl_cons, step_open hv hd]
 by_cases ha : aboveB d p = true
 ·rw [if_pos ha, if_pos ha]
  by_cases hk : d ∈ k
  ·simp [hk]
  ·rw [if_neg hk, List.foldl_cons, step_shut hv hd, if_pos ha]
   by_cases hq : d = dirB p
   ·simp [hq]
   ·simp [hq, hk]
 ·rw [if_neg ha, if_neg ha]
  by_cases hk : d ∈ k
  ·simp [hk]
  ·rw [if_neg hk, List.foldl_cons, step_shut hv hd, if_neg ha]; rfl
theorem step_root {p : ByteArray} (hv : validB p = true) (hp : bs p ≠ []) : stepW (bs p) true [33, 47, 42, 47] = decide (bs (dirB p) = []) := by
 unfold stepW
 have h4 : dirW [33, 47, 42, 47] = [] := rfl
 rw [if_neg (by decide), if_neg (by decide), h4, if_pos ⟨List.length_pos_iff.2 hp, rfl⟩, if_pos (show ([33, 47, 42, 47] : Str).head? = some 33 from rfl)]
 show (if (47 : UInt8) ∈ bs p then false else true) = _
 by_cases h : (47 : UInt8) ∈ bs p
 ·rw [if_pos h]
  obtain ⟨x, y, e⟩ := List.append_of_mem h
  refine (decide_eq_false fun h0 => ?_).symm
  rcases last_slash y with h1 | ⟨y1, y2, rfl, h2⟩
  ·have e2 : dirB p = mk x := by rw [← dir_split h1, ← e, mk_bs]
   rw [e2, bs_mk] at h0
   subst h0
   have h3 : ([] : Str) ∈ pcs (bs p) := by
    rw [e, pcs_of (by simp)]
    simp [spl]
   rw [← pB_bs] at h3
   obtain ⟨q, hq, hq0⟩ := List.mem_map.1 h3
   unfold validB at hv
   simp only [Bool.and_eq_true, List.all_eq_true] at hv
   have h2 := hv.2 q hq
   unfold compB at h2
   simp [hq0] at h2
  ·have e2 : dirB p = mk (x ++ 47 :: y1) := by
    rw [← dir_split h2, List.append_assoc, List.cons_append, ← e, mk_bs]
   rw [e2, bs_mk] at h0
   simp at h0
 ·rw [if_neg h]
  refine (decide_eq_true ?_).symm
  by_cases h0 : bs (dirB p) = []
  ·exact h0
  ·obtain ⟨y, e⟩ := (above_text h0).1 (above_dirB h0)
   exact absurd (by rw [e]; simp) h
theorem dirs_fold {p : ByteArray} (k : List ByteArray) (hv : validB p = true) (b : Bool) : ∀ L : List ByteArray, (∀ d ∈ L, bs d ≠ []) → Rises L →
  ((∀ d ∈ L, aboveB d p = false) ∧ (L.flatMap (twoL k)).foldl (stepW (bs p)) b = b) ∨
  ∃ d ∈ L, aboveB d p = true ∧ (∀ e ∈ L, aboveB e p = true → e = d ∨ cB e d < 0) ∧ (L.flatMap (twoL k)).foldl (stepW (bs p)) b = decide (d ∈ k ∨ d = dirB p) := by
 intro L
 induction L generalizing b with
 | nil => exact fun _ _ => .inl ⟨by simp, rfl⟩
 | cons d L ih =>
  intro h0 hr
  have hr' := List.pairwise_cons.1 hr
  have hd := h0 d List.mem_cons_self
  rw [List.flatMap_cons, List.foldl_append, step_two k hv hd]
  by_cases ha : aboveB d p = true
  ·rw [if_pos ha]
   rcases ih (decide (d ∈ k ∨ d = dirB p)) (fun e he => h0 e (List.mem_cons_of_mem _ he)) hr'.2 with ⟨h1, h2⟩ | ⟨e, he, hea, hel, hev⟩
   ·refine .inr ⟨d, List.mem_cons_self, ha, fun e he hea => ?_, h2⟩
    rcases List.mem_cons.1 he with rfl | he
    ·exact .inl rfl
    ·rw [h1 e he] at hea; cases hea
   ·refine .inr ⟨e, List.mem_cons_of_mem _ he, hea, fun f hf hfa => ?_, hev⟩
    rcases List.mem_cons.1 hf with rfl | hf
    ·exact .inr (hr'.1 e he)
    ·exact hel f hf hfa
  ·rw [if_neg ha]
   rcases ih b (fun e he => h0 e (List.mem_cons_of_mem _ he)) hr'.2 with ⟨h1, h2⟩ | ⟨e, he, hea, hel, hev⟩
   ·refine .inl ⟨fun e he => ?_, h2⟩
    rcases List.mem_cons.1 he with rfl | he
    ·simpa using ha
    ·exact h1 e he
   ·refine .inr ⟨e, List.mem_cons_of_mem _ he, hea, fun f hf hfa => ?_, hev⟩
    rcases List.mem_cons.1 hf with rfl | hf
    ·exact absurd hfa ha
    ·exact hel f hf hfa
theorem above_chain {a b p : ByteArray} (ha : aboveB a p = true) (hb : aboveB b p = true) (h : cB a b < 0) : aboveB a b = true := above_between ha h (above_lt hb)
theorem shown_is {k : List ByteArray} {p : ByteArray} (hk : ConesP k) (hv : validB p = true) (hp : bs p ≠ []) : shownS (bs p) (linesT k ++ [[]]) = showsB k p := by
 have hr : Rises (dirsT k) := rises_norm _
 have hs : ∀ d ∈ dirsT k, bs d ≠ [] := fun d hd => dirs_some hd
 have e0 : shownS (bs p) (linesT k ++ [[]]) = ((dirsT k).flatMap (twoL k)).foldl (stepW (bs p)) (decide (bs (dirB p) = [])) := by
  unfold shownS linesT
  simp only [List.foldl_append, List.foldl_cons, List.foldl_nil, List.cons_append]
  rw [show stepW (bs p) false [47, 42] = true from rfl, step_root hv hp]
  exact step_nil _ _
 rw [e0]
 have hup : ∀ d ∈ dirsT k, ∃ c ∈ k, d = c ∨ aboveB d c = true := fun d hd => by
  obtain ⟨c, hc, hdc⟩ := mem_dirsT.1 hd
  exact ⟨c, hc, ups_above c.size c (Nat.le_refl _) d hdc⟩
 have hin : ∀ c ∈ k, ∀ d, bs d ≠ [] → (d = c ∨ aboveB d c = true) → d ∈ dirsT k := fun c hc d hd h => by
  refine mem_dirsT.2 ⟨c, hc, ?_⟩
  rcases h with rfl | h
  ·exact self_ups hd
  ·exact above_ups c.size d c (Nat.le_refl _) hd h
 unfold showsB
 by_cases hD : bs (dirB p) = []
 ·have hno : ∀ d ∈ dirsT k, aboveB d p = false := fun d hd => by
   cases e : aboveB d p with
   | false => rfl
   | true =>
    obtain ⟨y, hy⟩ := (above_text (hs d hd)).1 e
    have ep : p = mk (bs d ++ 47 :: y) := by rw [← hy, mk_bs]
    rcases last_slash y with h1 | ⟨y1, y2, rfl, h2⟩
    ·have := dir_split (a := bs d) h1
     rw [← ep, mk_bs] at this
     rw [this] at hD
     exact absurd hD (hs d hd)
    ·have e3 : dirB p = mk (bs d ++ 47 :: y1) := by
      conv => lhs; rw [ep]
      rw [show bs d ++ 47 :: (y1 ++ 47 :: y2) = (bs d ++ 47 :: y1) ++ 47 :: y2 by simp, dir_split h2]
     rw [e3, bs_mk] at hD
     simp at hD
  rcases dirs_fold k hv (decide (bs (dirB p) = [])) (dirsT k) hs hr with ⟨_, h⟩ | ⟨d, hd, hda, _, _⟩
  ·rw [h]; simp [hD]
  ·rw [hno d hd] at hda; cases hda
 ·have hDa := above_dirB hD
  have hf : decide (bs (dirB p) = []) = false := decide_eq_false hD
  rw [hf, Bool.false_or]
  rcases dirs_fold k hv false (dirsT k) hs hr with ⟨hno, h⟩ | ⟨d, hd, hda, hlast, h⟩
  ·rw [h]
   symm
   rw [List.any_eq_false]
   intro c hc hn
   unfold nearB at hn
   simp only [Bool.or_eq_true, decide_eq_true_eq] at hn
   rcases hn with (rfl | hn) | hn
   ·have := hno _ (hin _ hc _ hD (.inl rfl)); rw [hDa] at this; cases this
   ·have := hno c (hin c hc c (hk.some_ c hc) (.inl rfl)); rw [above_trans hn hDa] at this; cases this
   ·have := hno _ (hin c hc _ hD (.inr hn)); rw [hDa] at this; cases this
  ·rw [h]
   obtain ⟨c, hc, hdc⟩ := hup d hd
   by_cases hdk : d ∈ k ∨ d = dirB p
   ·rw [decide_eq_true hdk]
    symm
    rw [List.any_eq_true]
    rcases hdk with hdk | rfl
    ·refine ⟨d, hdk, ?_⟩
     unfold nearB
     by_cases e : d = dirB p
     ·simp [e]
     ·have : aboveB d (dirB p) = true := by
       rcases Int.lt_trichotomy (cB d (dirB p)) 0 with h1 | h1 | h1
       ·exact above_chain hda hDa h1
       ·exact absurd (cB_eq h1) e
       ·exfalso
        have h2 : cB (dirB p) d < 0 := by have := cB_neg d (dirB p); omega
        have h3 := above_chain hDa hda h2
        obtain ⟨y, hy⟩ := (above_text (hs d hd)).1 hda
        rcases last_slash y with h4 | ⟨y1, y2, rfl, h5⟩
        ·have := dir_split (a := bs d) h4
         rw [← hy, mk_bs, mk_bs] at this
         exact e this.symm
        ·have e3 : dirB p = mk (bs d ++ 47 :: y1) := by
          conv => lhs; rw [show p = mk (bs d ++ 47 :: (y1 ++ 47 :: y2)) by rw [← hy, mk_bs]]
          rw [show bs d ++ 47 :: (y1 ++ 47 :: y2) = (bs d ++ 47 :: y1) ++ 47 :: y2 by simp, dir_split h5]
         obtain ⟨z, hz⟩ := (above_text hD).1 h3
         have := congrArg List.length hz
         rw [e3, bs_mk] at this
         simp at this
      simp [this]
    ·refine ⟨c, hc, ?_⟩
     unfold nearB
     rcases hdc with e | e
     ·simp [e]
     ·simp [e]
   ·rw [decide_eq_false hdk]
    symm
    rw [List.any_eq_false]
    intro c' hc' hn
    have hne : d ≠ dirB p := fun e => hdk (.inr e)
    unfold nearB at hn
    simp only [Bool.or_eq_true, decide_eq_true_eq] at hn
    have hDn : dirB p ∉ dirsT k := fun hm => by
     rcases hlast _ hm hDa with e | h1
     ·exact hne e.symm
     ·have h3 := above_chain hDa hda h1
      obtain ⟨y, hy⟩ := (above_text (hs d hd)).1 hda
      rcases last_slash y with h4 | ⟨y1, y2, rfl, h5⟩
      ·have := dir_split (a := bs d) h4
       rw [← hy, mk_bs, mk_bs] at this
       exact hne this.symm
      ·have e3 : dirB p = mk (bs d ++ 47 :: y1) := by
        conv => lhs; rw [show p = mk (bs d ++ 47 :: (y1 ++ 47 :: y2)) by rw [← hy, mk_bs]]
        rw [show bs d ++ 47 :: (y1 ++ 47 :: y2) = (bs d ++ 47 :: y1) ++ 47 :: y2 by simp, dir_split h5]
       obtain ⟨z, hz⟩ := (above_text hD).1 h3
       have := congrArg List.length hz
       rw [e3, bs_mk] at this
       simp at this
    rcases hn with (rfl | hn) | hn
    ·exact hDn (hin _ hc' _ hD (.inl rfl))
    ·have hcp := above_trans hn hDa
     have hcd := hin c' hc' c' (hk.some_ c' hc') (.inl rfl)
     rcases hlast c' hcd hcp with e | h1
     ·exact hdk (.inl (e ▸ hc'))
     ·have h2 := above_chain hcp hda h1
      have h3 : aboveB c' c = true := by
       rcases hdc with e | e
       ·rw [← e]; exact h2
       ·exact above_trans h2 e
      rw [apart_of hk.apart c' hc' c hc] at h3
      cases h3
    ·exact hDn (hin c' hc' _ hD (.inr hn))
end Go.Proofs.YtehfogjibhnabaaDoor.PAll
