/- What functions of the program compute, each with its walk: a contract for every world and every argument of the kind told. -/
import Derived.Test.YtehfogjibhnabaaDoorPfPAllx0
import Derived.Test.YtehfogjibhnabaaDoorPfProfT
import Derived.Test.YtehfogjibhnabaaDoorPfPAlly11
import Derived.Test.YtehfogjibhnabaaDoorPfPure2
import Derived.Test.YtehfogjibhnabaaDoorPfPAlly3
import Derived.Test.YtehfogjibhnabaaDoorPfPAlly5
import Derived.Test.YtehfogjibhnabaaDoorPfProfQ
import Derived.Test.YtehfogjibhnabaaDoorPfRowKit
import Derived.Test.YtehfogjibhnabaaDoorPfHandA
import Derived.Deep.Onto
import Derived.Deep.RegionLaw
namespace Go.Proofs.YtehfogjibhnabaaDoor.PAll
open Go.RowKit Go.Proofs.YtehfogjibhnabaaDoorW.PrintWords Go.Proofs.YtehfogjibhnabaaDoorW.PrintLast Go.Proofs.YtehfogjibhnabaaDoorW.PrintMore
attribute [local go_sem] max2_int min2_int max_two min_two max_three min_three max_four min_four
set_option linter.unusedVariables false
set_option linter.unusedSimpArgs false
def copselaw17_known.f (k : Nat)  : Option (Bool) := (profile_Write.f k (([(⟨#[97, 47, 98]⟩ : ByteArray), (⟨#[99]⟩ : ByteArray)] : List ByteArray))).bind fun bt233 => ((profile_Read.f k (⟨#[47, 42, 10, 33, 47, 42, 47, 10, 47, 97, 47, 10]⟩ : ByteArray)).bind fun bt235 => ((profile_Write.f k (([(⟨#[98]⟩ : ByteArray), (⟨#[97]⟩ : ByteArray)] : List ByteArray))).bind fun bt242 => (if bt233.2 = 0 then (if bt233.1.toList = ([47, 42, 10, 33, 47, 42, 47, 10, 47, 97, 47, 10, 33, 47, 97, 47, 42, 47, 10, 47, 97, 47, 98, 47, 10, 47, 99, 47, 10] : List UInt8) then (if bt235.2 = 0 then ((copselaw17_same.f k bt235.1 (([(⟨#[97]⟩ : ByteArray)] : List ByteArray))).bind fun t247 => (if t247 = true then (some (bt242.2 == 13)) else (some false))) else (some false)) else (some false)) else (some false))))
theorem copselaw17_known.mono : ∀ k, LeO (copselaw17_known.f k ) (copselaw17_known.f (k + 1) ) := by
 intro  k
 unfold copselaw17_known.f
 repeat' first
   | (with_reducible exact copselaw17_same.mono _ _ _)
   | (with_reducible exact profile_Read.mono _ _)
   | (with_reducible exact profile_Write.mono _ _)
   | (with_reducible exact LeO.refl _)
   | (with_reducible exact LeO.none _)
   | (with_reducible refine LeO.ite ?_ ?_)
   | (with_reducible refine LeO.bind ?_ (fun _ => ?_))
   | exact copselaw17_same.mono _ _ _
   | exact profile_Read.mono _ _
   | exact profile_Write.mono _ _
   | exact LeO.none _
   | refine LeO.ite ?_ ?_
   | refine LeO.bind ?_ (fun _ => ?_)
set_option maxHeartbeats 8000000 in
set_option maxRecDepth 100000 in
theorem copselaw17_known.calls (k : Nat)  (r : Bool) (w : World) (h : copselaw17_known.f k  = some r) :
  Calls Tryd.prog 12 #[] w fun e w' => e = .returned (.bool r) ∧ Below w.heap.size w w' := by
 have HB := Aside0.mk (Below.refl w.heap.size w)
 have H : ((profile_Write.f k (([(⟨#[97, 47, 98]⟩ : ByteArray), (⟨#[99]⟩ : ByteArray)] : List ByteArray))).bind fun bt233 => ((profile_Read.f k (⟨#[47, 42, 10, 33, 47, 42, 47, 10, 47, 97, 47, 10]⟩ : ByteArray)).bind fun bt235 => ((profile_Write.f k (([(⟨#[98]⟩ : ByteArray), (⟨#[97]⟩ : ByteArray)] : List ByteArray))).bind fun bt242 => (if bt233.2 = 0 then (if bt233.1.toList = ([47, 42, 10, 33, 47, 42, 47, 10, 47, 97, 47, 10, 33, 47, 97, 47, 42, 47, 10, 47, 97, 47, 98, 47, 10, 47, 99, 47, 10] : List UInt8) then (if bt235.2 = 0 then ((copselaw17_same.f k bt235.1 (([(⟨#[97]⟩ : ByteArray)] : List ByteArray))).bind fun t247 => (if t247 = true then (some (bt242.2 == 13)) else (some false))) else (some false)) else (some false)) else (some false))))) = some r := h
 clear h
 obtain ⟨y230, hy230⟩ : ∃ y_ : List ByteArray, y_ = (([(⟨#[97, 47, 98]⟩ : ByteArray), (⟨#[99]⟩ : ByteArray)] : List ByteArray)) := ⟨_, rfl⟩
 replace H : ((profile_Write.f k y230).bind fun bt233 => ((profile_Read.f k (⟨#[47, 42, 10, 33, 47, 42, 47, 10, 47, 97, 47, 10]⟩ : ByteArray)).bind fun bt235 => ((profile_Write.f k (([(⟨#[98]⟩ : ByteArray), (⟨#[97]⟩ : ByteArray)] : List ByteArray))).bind fun bt242 => (if bt233.2 = 0 then (if bt233.1.toList = ([47, 42, 10, 33, 47, 42, 47, 10, 47, 97, 47, 10, 33, 47, 97, 47, 42, 47, 10, 47, 97, 47, 98, 47, 10, 47, 99, 47, 10] : List UInt8) then (if bt235.2 = 0 then ((copselaw17_same.f k bt235.1 (([(⟨#[97]⟩ : ByteArray)] : List ByteArray))).bind fun t247 => (if t247 = true then (some (bt242.2 == 13)) else (some false))) else (some false)) else (some false)) else (some false))))) = some r := by first | (rw [hy230]; with_reducible exact H) | (have H2_ := (Option.bind_some _ _).symm.trans H; rw [hy230]; with_reducible exact H2_) | (have H2_ := (Option.bind_some _ _).symm.trans H; with_reducible exact H2_) | with_reducible exact H | (rw [hy230]; exact H) | exact H
 have Ny230 := Aside0.mk hy230
 clear hy230
 replace H := Option.bind_eq_some_iff.mp H
 obtain ⟨⟨t233, t234⟩, A10, H⟩ := H
 try dsimp only at H
 have A1 := Aside0.mk A10
 clear A10
 replace H := Option.bind_eq_some_iff.mp H
 obtain ⟨⟨t235, t236⟩, A20, H⟩ := H
 try dsimp only at H
 have A2 := Aside0.mk A20
 clear A20
 obtain ⟨y239, hy239⟩ : ∃ y_ : List ByteArray, y_ = (([(⟨#[98]⟩ : ByteArray), (⟨#[97]⟩ : ByteArray)] : List ByteArray)) := ⟨_, rfl⟩
 replace H : ((profile_Write.f k y239).bind fun bt242 => (if t234 = 0 then (if t233.toList = ([47, 42, 10, 33, 47, 42, 47, 10, 47, 97, 47, 10, 33, 47, 97, 47, 42, 47, 10, 47, 97, 47, 98, 47, 10, 47, 99, 47, 10] : List UInt8) then (if t236 = 0 then ((copselaw17_same.f k t235 (([(⟨#[97]⟩ : ByteArray)] : List ByteArray))).bind fun t247 => (if t247 = true then (some (bt242.2 == 13)) else (some false))) else (some false)) else (some false)) else (some false))) = some r := by first | (rw [hy239]; with_reducible exact H) | (have H2_ := (Option.bind_some _ _).symm.trans H; rw [hy239]; with_reducible exact H2_) | (have H2_ := (Option.bind_some _ _).symm.trans H; with_reducible exact H2_) | with_reducible exact H | (rw [hy239]; exact H) | exact H
 have Ny239 := Aside0.mk hy239
 clear hy239
 replace H := Option.bind_eq_some_iff.mp H
 obtain ⟨⟨t242, t243⟩, A30, H⟩ := H
 try dsimp only at H
 have A3 := Aside0.mk A30
 clear A30
 by_cases c4 : t234 = 0
 ·rw [if_pos c4] at H
  have c4b0 : (t234 == 0) = true := beq_iff_eq.mpr c4
  have c4b1 : (t234 != 0) = false := bne_eq_false_iff_eq.mpr c4
  clear c4
  by_cases c5 : t233.toList = ([47, 42, 10, 33, 47, 42, 47, 10, 47, 97, 47, 10, 33, 47, 97, 47, 42, 47, 10, 47, 97, 47, 98, 47, 10, 47, 99, 47, 10] : List UInt8)
  ·rw [if_pos c5] at H
   have c5b0 : (t233.toList == ([47, 42, 10, 33, 47, 42, 47, 10, 47, 97, 47, 10, 33, 47, 97, 47, 42, 47, 10, 47, 97, 47, 98, 47, 10, 47, 99, 47, 10] : List UInt8)) = true := beq_iff_eq.mpr c5
   have c5b1 : (t233.toList != ([47, 42, 10, 33, 47, 42, 47, 10, 47, 97, 47, 10, 33, 47, 97, 47, 42, 47, 10, 47, 97, 47, 98, 47, 10, 47, 99, 47, 10] : List UInt8)) = false := bne_eq_false_iff_eq.mpr c5
   clear c5
   by_cases c6 : t236 = 0
   ·rw [if_pos c6] at H
    have c6b0 : (t236 == 0) = true := beq_iff_eq.mpr c6
    have c6b1 : (t236 != 0) = false := bne_eq_false_iff_eq.mpr c6
    clear c6
    obtain ⟨y244, hy244⟩ : ∃ y_ : List ByteArray, y_ = (([(⟨#[97]⟩ : ByteArray)] : List ByteArray)) := ⟨_, rfl⟩
    replace H : ((copselaw17_same.f k t235 y244).bind fun t247 => (if t247 = true then (some (t243 == 13)) else (some false))) = some r := by first | (rw [hy244]; with_reducible exact H) | (have H2_ := (Option.bind_some _ _).symm.trans H; rw [hy244]; with_reducible exact H2_) | (have H2_ := (Option.bind_some _ _).symm.trans H; with_reducible exact H2_) | with_reducible exact H | (rw [hy244]; exact H) | exact H
    have Ny244 := Aside0.mk hy244
    clear hy244
    replace H := Option.bind_eq_some_iff.mp H
    obtain ⟨t247, A70, H⟩ := H
    try dsimp only at H
    have A7 := Aside0.mk A70
    clear A70
    by_cases c8 : t247 = true
    ·subst c8
     rw [if_pos rfl] at H
     have H1 := H
     clear H
     have H := H1
     clear H1
     obtain rfl := Option.some.inj H
     go_enter Tryd.func12, Tryd.ntmps12
     go_wp2_with (first | ((with_reducible refine gate_dst (N := 8) rfl ?_); (try (refine gate_guard (by rfl) ?_; dsimp only)); refine Kd.R_lit Kd.string _ 9 ?hg (N := 8) ?hd (xs := ([(⟨#[97, 47, 98]⟩ : ByteArray), (⟨#[99]⟩ : ByteArray)] : List ByteArray)) (inner := [.string (⟨#[97, 47, 98]⟩ : ByteArray), .string (⟨#[99]⟩ : ByteArray)]) (ok := fun _ => True) (okp := fun _ => True) ?hr ?hp (fun _ hk => hk) trivial (Below.refl _ _) (Nat.le_refl _) (by simp) ?_; (case hd => rfl); (case hg => rfl); (case hr => first | (go_simp; done) | (go_simp; rfl)); (case hp => exact (Reps.one (show Kd.M Kd.string _ _ _ (⟨#[97, 47, 98]⟩ : ByteArray) [.string (⟨#[97, 47, 98]⟩ : ByteArray)] from rfl) (Reps.one (show Kd.M Kd.string _ _ _ (⟨#[99]⟩ : ByteArray) [.string (⟨#[99]⟩ : ByteArray)] from rfl) (Reps.none _ _)))); intro v231 w9 ho10 hb hg_ hnew_; clear hg_ hnew_; (first | rw [← Ny230.out] at ho10 | (simp only [Int.reduceToNat] at ho10; rw [← Ny230.out] at ho10)); have n0_ := Aside0.mk (Kd.R_lower ho10 (below_size (by repeat (first | (with_reducible first | exact HB.out | apply below_alloc | apply pw_below_drewN | apply below_drew1) | exact HB.out)))); have n1_ := Aside0.mk (below_step (by repeat (first | (with_reducible first | exact HB.out | apply below_alloc | apply pw_below_drewN | apply below_drew1) | exact HB.out)) hb); clear HB; have HO232 := n0_; have HB := n1_; clear n0_ n1_; clear hb ho10; obtain ⟨Ao11, co11, eo11⟩ := Kd.R_slice HO232.out; subst eo11) | ((with_reducible refine gate_callee (f := 11) rfl ?_); refine goesL_ (some 9) rfl rfl Tryd.func11 (by kernel_rfl) rfl #[.slice Ao11 y230.length co11] rfl (by (try simp only [List.map_toArray, List.map_cons, List.map_nil]); first | done | rfl | (simp only [List.length_drop, List.length_take]; rfl)) ?_; (with_reducible refine (profile_Write.calls k _ _ y230 t233 t234 _ ?side1 ?side2 A1.out).mono ?_); (case side1 => repeat (first | exact (Kd.R_reads' HO232.out).2.2 | (with_reducible refine Kd.C_alloc ?_ _) | (with_reducible refine Kd.C_drewN ?_ _) | (with_reducible refine Kd.C_drew ?_))); (case side2 => exact (Kd.R_reads' HO232.out).2.1); rintro e w12 ⟨rfl, hb⟩; refine ⟨_, rfl, ?_⟩; have n0_ := Aside0.mk (Kd.R_below (by (with_reducible repeat (first | apply Kd.R_alloc | apply Kd.R_drewN | apply Kd.R_drew)); exact HO232.out) hb); have n1_ := Aside0.mk (below_step (by repeat (first | (with_reducible first | exact HB.out | apply below_alloc | apply pw_below_drewN | apply below_drew1) | exact HB.out)) hb); clear HO232; clear HB; have HO232 := n0_; have HB := n1_; clear n0_ n1_; (try clear hb); (try clear hb2); (try clear hk); (try clear hi)) | ((with_reducible refine gate_callee (f := 13) rfl ?_); refine goesL_ (some 13) rfl rfl Tryd.func13 (by kernel_rfl) rfl #[.string (⟨#[47, 42, 10, 33, 47, 42, 47, 10, 47, 97, 47, 10]⟩ : ByteArray)] rfl (by (try simp only [List.map_toArray, List.map_cons, List.map_nil]); first | done | rfl | (simp only [List.length_drop, List.length_take]; rfl)) ?_; (with_reducible refine (profile_Read.calls k (⟨#[47, 42, 10, 33, 47, 42, 47, 10, 47, 97, 47, 10]⟩ : ByteArray) t235 t236 _ A2.out).mono ?_); rintro e w13 ⟨v237, rfl, ho0, hb⟩; refine ⟨_, rfl, ?_⟩; have n0_ := Aside0.mk (Kd.R_elder' (by (with_reducible repeat (first | apply Kd.R_alloc | apply Kd.R_drewN | apply Kd.R_drew)); exact HO232.out) (Kd.R_base ho0) hb); have n1_ := Aside0.mk (Kd.R_lower (Kd.R_new' ho0 (Kd.R_lt (by (with_reducible repeat (first | apply Kd.R_alloc | apply Kd.R_drewN | apply Kd.R_drew)); exact HO232.out))) (below_size (by repeat (first | (with_reducible first | exact HB.out | apply below_alloc | apply pw_below_drewN | apply below_drew1) | exact HB.out)))); have n2_ := Aside0.mk (below_step (by repeat (first | (with_reducible first | exact HB.out | apply below_alloc | apply pw_below_drewN | apply below_drew1) | exact HB.out)) hb); clear HO232; clear HB; have HO232 := n0_; have HO238 := n1_; have HB := n2_; clear n0_ n1_ n2_; (try clear hb); (try clear hb2); (try clear hk); (try clear hi); (try clear ho0)) | ((with_reducible refine gate_dst (N := 17) rfl ?_); (try (refine gate_guard (by rfl) ?_; dsimp only)); refine Kd.R_lit Kd.string _ 9 ?hg (N := 17) ?hd (xs := ([(⟨#[98]⟩ : ByteArray), (⟨#[97]⟩ : ByteArray)] : List ByteArray)) (inner := [.string (⟨#[98]⟩ : ByteArray), .string (⟨#[97]⟩ : ByteArray)]) (ok := fun _ => True) (okp := fun _ => True) ?hr ?hp (fun _ hk => hk) trivial (Below.refl _ _) (Nat.le_refl _) (by simp) ?_; (case hd => rfl); (case hg => rfl); (case hr => first | (go_simp; done) | (go_simp; rfl)); (case hp => exact (Reps.one (show Kd.M Kd.string _ _ _ (⟨#[98]⟩ : ByteArray) [.string (⟨#[98]⟩ : ByteArray)] from rfl) (Reps.one (show Kd.M Kd.string _ _ _ (⟨#[97]⟩ : ByteArray) [.string (⟨#[97]⟩ : ByteArray)] from rfl) (Reps.none _ _)))); intro v240 w14 ho15 hb hg_ hnew_; clear hg_ hnew_; (first | rw [← Ny239.out] at ho15 | (simp only [Int.reduceToNat] at ho15; rw [← Ny239.out] at ho15)); have n0_ := Aside0.mk (Kd.R_elder' (by (with_reducible repeat (first | apply Kd.R_alloc | apply Kd.R_drewN | apply Kd.R_drew)); exact HO232.out) (Kd.R_base ho15) hb); have n1_ := Aside0.mk (Kd.R_elder' (by (with_reducible repeat (first | apply Kd.R_alloc | apply Kd.R_drewN | apply Kd.R_drew)); exact HO238.out) (Kd.R_base ho15) hb); have n2_ := Aside0.mk (Kd.R_lower (Kd.R_new' (Kd.R_new' ho15 (Kd.R_lt (by (with_reducible repeat (first | apply Kd.R_alloc | apply Kd.R_drewN | apply Kd.R_drew)); exact HO232.out))) (Kd.R_lt (by (with_reducible repeat (first | apply Kd.R_alloc | apply Kd.R_drewN | apply Kd.R_drew)); exact HO238.out))) (below_size (by repeat (first | (with_reducible first | exact HB.out | apply below_alloc | apply pw_below_drewN | apply below_drew1) | exact HB.out)))); have n3_ := Aside0.mk (below_step (by repeat (first | (with_reducible first | exact HB.out | apply below_alloc | apply pw_below_drewN | apply below_drew1) | exact HB.out)) hb); clear HO232; clear HO238; clear HB; have HO232 := n0_; have HO238 := n1_; have HO241 := n2_; have HB := n3_; clear n0_ n1_ n2_ n3_; clear hb ho15; obtain ⟨Ao16, co16, eo16⟩ := Kd.R_slice HO241.out; subst eo16) | ((with_reducible refine gate_callee (f := 11) rfl ?_); refine goesL_ (some 18) rfl rfl Tryd.func11 (by kernel_rfl) rfl #[.slice Ao16 y239.length co16] rfl (by (try simp only [List.map_toArray, List.map_cons, List.map_nil]); first | done | rfl | (simp only [List.length_drop, List.length_take]; rfl)) ?_; (with_reducible refine (profile_Write.calls k _ _ y239 t242 t243 _ ?side1 ?side2 A3.out).mono ?_); (case side1 => repeat (first | exact (Kd.R_reads' HO241.out).2.2 | (with_reducible refine Kd.C_alloc ?_ _) | (with_reducible refine Kd.C_drewN ?_ _) | (with_reducible refine Kd.C_drew ?_))); (case side2 => exact (Kd.R_reads' HO241.out).2.1); rintro e w17 ⟨rfl, hb⟩; refine ⟨_, rfl, ?_⟩; have n0_ := Aside0.mk (Kd.R_below (by (with_reducible repeat (first | apply Kd.R_alloc | apply Kd.R_drewN | apply Kd.R_drew)); exact HO232.out) hb); have n1_ := Aside0.mk (Kd.R_below (by (with_reducible repeat (first | apply Kd.R_alloc | apply Kd.R_drewN | apply Kd.R_drew)); exact HO238.out) hb); have n2_ := Aside0.mk (Kd.R_below (by (with_reducible repeat (first | apply Kd.R_alloc | apply Kd.R_drewN | apply Kd.R_drew)); exact HO241.out) hb); have n3_ := Aside0.mk (below_step (by repeat (first | (with_reducible first | exact HB.out | apply below_alloc | apply pw_below_drewN | apply below_drew1) | exact HB.out)) hb); clear HO232; clear HO238; clear HO241; clear HB; have HO232 := n0_; have HO238 := n1_; have HO241 := n2_; have HB := n3_; clear n0_ n1_ n2_ n3_; (try clear hb); (try clear hb2); (try clear hk); (try clear hi)) | ((with_reducible refine gate_dst (N := 33) rfl ?_); (try (refine gate_guard (by rfl) ?_; dsimp only)); refine Kd.R_lit Kd.string _ 9 ?hg (N := 33) ?hd (xs := ([(⟨#[97]⟩ : ByteArray)] : List ByteArray)) (inner := [.string (⟨#[97]⟩ : ByteArray)]) (ok := fun _ => True) (okp := fun _ => True) ?hr ?hp (fun _ hk => hk) trivial (Below.refl _ _) (Nat.le_refl _) (by simp) ?_; (case hd => rfl); (case hg => rfl); (case hr => first | (go_simp; done) | (go_simp; rfl)); (case hp => exact (Reps.one (show Kd.M Kd.string _ _ _ (⟨#[97]⟩ : ByteArray) [.string (⟨#[97]⟩ : ByteArray)] from rfl) (Reps.none _ _))); intro v245 w18 ho19 hb hg_ hnew_; clear hg_ hnew_; (first | rw [← Ny244.out] at ho19 | (simp only [Int.reduceToNat] at ho19; rw [← Ny244.out] at ho19)); have n0_ := Aside0.mk (Kd.R_elder' (by (with_reducible repeat (first | apply Kd.R_alloc | apply Kd.R_drewN | apply Kd.R_drew)); exact HO232.out) (Kd.R_base ho19) hb); have n1_ := Aside0.mk (Kd.R_elder' (by (with_reducible repeat (first | apply Kd.R_alloc | apply Kd.R_drewN | apply Kd.R_drew)); exact HO238.out) (Kd.R_base ho19) hb); have n2_ := Aside0.mk (Kd.R_elder' (by (with_reducible repeat (first | apply Kd.R_alloc | apply Kd.R_drewN | apply Kd.R_drew)); exact HO241.out) (Kd.R_base ho19) hb); have n3_ := Aside0.mk (Kd.R_lower (Kd.R_new' (Kd.R_new' (Kd.R_new' ho19 (Kd.R_lt (by (with_reducible repeat (first | apply Kd.R_alloc | apply Kd.R_drewN | apply Kd.R_drew)); exact HO232.out))) (Kd.R_lt (by (with_reducible repeat (first | apply Kd.R_alloc | apply Kd.R_drewN | apply Kd.R_drew)); exact HO238.out))) (Kd.R_lt (by (with_reducible repeat (first | apply Kd.R_alloc | apply Kd.R_drewN | apply Kd.R_drew)); exact HO241.out))) (below_size (by repeat (first | (with_reducible first | exact HB.out | apply below_alloc | apply pw_below_drewN | apply below_drew1) | exact HB.out)))); have n4_ := Aside0.mk (below_step (by repeat (first | (with_reducible first | exact HB.out | apply below_alloc | apply pw_below_drewN | apply below_drew1) | exact HB.out)) hb); clear HO232; clear HO238; clear HO241; clear HB; have HO232 := n0_; have HO238 := n1_; have HO241 := n2_; have HO246 := n3_; have HB := n4_; clear n0_ n1_ n2_ n3_ n4_; clear hb ho19; obtain ⟨Ao20, co20, eo20⟩ := Kd.R_slice HO238.out; subst eo20; obtain ⟨Ao21, co21, eo21⟩ := Kd.R_slice HO246.out; subst eo21) | (go_at_call 14; (with_reducible refine (copselaw17_same.calls k _ _ t235 _ _ y244 true _ ?side1 ?side2 ?side3 ?side4 A7.out).mono ?_); (case side1 => repeat (first | exact (Kd.R_reads' HO238.out).2.2 | (with_reducible refine Kd.C_alloc ?_ _) | (with_reducible refine Kd.C_drewN ?_ _) | (with_reducible refine Kd.C_drew ?_))); (case side2 => exact (Kd.R_reads' HO238.out).2.1); (case side3 => repeat (first | exact (Kd.R_reads' HO246.out).2.2 | (with_reducible refine Kd.C_alloc ?_ _) | (with_reducible refine Kd.C_drewN ?_ _) | (with_reducible refine Kd.C_drew ?_))); (case side4 => exact (Kd.R_reads' HO246.out).2.1); rintro e w' ⟨rfl, ⟨nd, rfl⟩⟩))
     go_ret
     exact ⟨by first | rfl | (simp [errW_none, errW_some] <;> rfl) | (simp [*, errW_none, errW_some] <;> rfl), by repeat (first | (with_reducible first | exact HB.out | apply below_alloc | apply pw_below_drewN | apply below_drew1) | exact HB.out)⟩
    ·replace c8 := Bool.eq_false_iff.mpr c8
     subst c8
     have H1 : (some false) = some r := by rw [if_neg (show ¬ (false = true) by decide)] at H; exact H
     clear H
     have H := H1
     clear H1
     obtain rfl := Option.some.inj H
     go_enter Tryd.func12, Tryd.ntmps12
     go_wp2_with (first | ((with_reducible refine gate_dst (N := 8) rfl ?_); (try (refine gate_guard (by rfl) ?_; dsimp only)); refine Kd.R_lit Kd.string _ 9 ?hg (N := 8) ?hd (xs := ([(⟨#[97, 47, 98]⟩ : ByteArray), (⟨#[99]⟩ : ByteArray)] : List ByteArray)) (inner := [.string (⟨#[97, 47, 98]⟩ : ByteArray), .string (⟨#[99]⟩ : ByteArray)]) (ok := fun _ => True) (okp := fun _ => True) ?hr ?hp (fun _ hk => hk) trivial (Below.refl _ _) (Nat.le_refl _) (by simp) ?_; (case hd => rfl); (case hg => rfl); (case hr => first | (go_simp; done) | (go_simp; rfl)); (case hp => exact (Reps.one (show Kd.M Kd.string _ _ _ (⟨#[97, 47, 98]⟩ : ByteArray) [.string (⟨#[97, 47, 98]⟩ : ByteArray)] from rfl) (Reps.one (show Kd.M Kd.string _ _ _ (⟨#[99]⟩ : ByteArray) [.string (⟨#[99]⟩ : ByteArray)] from rfl) (Reps.none _ _)))); intro v231 w22 ho23 hb hg_ hnew_; clear hg_ hnew_; (first | rw [← Ny230.out] at ho23 | (simp only [Int.reduceToNat] at ho23; rw [← Ny230.out] at ho23)); have n0_ := Aside0.mk (Kd.R_lower ho23 (below_size (by repeat (first | (with_reducible first | exact HB.out | apply below_alloc | apply pw_below_drewN | apply below_drew1) | exact HB.out)))); have n1_ := Aside0.mk (below_step (by repeat (first | (with_reducible first | exact HB.out | apply below_alloc | apply pw_below_drewN | apply below_drew1) | exact HB.out)) hb); clear HB; have HO232 := n0_; have HB := n1_; clear n0_ n1_; clear hb ho23; obtain ⟨Ao24, co24, eo24⟩ := Kd.R_slice HO232.out; subst eo24) | ((with_reducible refine gate_callee (f := 11) rfl ?_); refine goesL_ (some 9) rfl rfl Tryd.func11 (by kernel_rfl) rfl #[.slice Ao24 y230.length co24] rfl (by (try simp only [List.map_toArray, List.map_cons, List.map_nil]); first | done | rfl | (simp only [List.length_drop, List.length_take]; rfl)) ?_; (with_reducible refine (profile_Write.calls k _ _ y230 t233 t234 _ ?side1 ?side2 A1.out).mono ?_); (case side1 => repeat (first | exact (Kd.R_reads' HO232.out).2.2 | (with_reducible refine Kd.C_alloc ?_ _) | (with_reducible refine Kd.C_drewN ?_ _) | (with_reducible refine Kd.C_drew ?_))); (case side2 => exact (Kd.R_reads' HO232.out).2.1); rintro e w25 ⟨rfl, hb⟩; refine ⟨_, rfl, ?_⟩; have n0_ := Aside0.mk (Kd.R_below (by (with_reducible repeat (first | apply Kd.R_alloc | apply Kd.R_drewN | apply Kd.R_drew)); exact HO232.out) hb); have n1_ := Aside0.mk (below_step (by repeat (first | (with_reducible first | exact HB.out | apply below_alloc | apply pw_below_drewN | apply below_drew1) | exact HB.out)) hb); clear HO232; clear HB; have HO232 := n0_; have HB := n1_; clear n0_ n1_; (try clear hb); (try clear hb2); (try clear hk); (try clear hi)) | ((with_reducible refine gate_callee (f := 13) rfl ?_); refine goesL_ (some 13) rfl rfl Tryd.func13 (by kernel_rfl) rfl #[.string (⟨#[47, 42, 10, 33, 47, 42, 47, 10, 47, 97, 47, 10]⟩ : ByteArray)] rfl (by (try simp only [List.map_toArray, List.map_cons, List.map_nil]); first | done | rfl | (simp only [List.length_drop, List.length_take]; rfl)) ?_; (with_reducible refine (profile_Read.calls k (⟨#[47, 42, 10, 33, 47, 42, 47, 10, 47, 97, 47, 10]⟩ : ByteArray) t235 t236 _ A2.out).mono ?_); rintro e w26 ⟨v237, rfl, ho0, hb⟩; refine ⟨_, rfl, ?_⟩; have n0_ := Aside0.mk (Kd.R_elder' (by (with_reducible repeat (first | apply Kd.R_alloc | apply Kd.R_drewN | apply Kd.R_drew)); exact HO232.out) (Kd.R_base ho0) hb); have n1_ := Aside0.mk (Kd.R_lower (Kd.R_new' ho0 (Kd.R_lt (by (with_reducible repeat (first | apply Kd.R_alloc | apply Kd.R_drewN | apply Kd.R_drew)); exact HO232.out))) (below_size (by repeat (first | (with_reducible first | exact HB.out | apply below_alloc | apply pw_below_drewN | apply below_drew1) | exact HB.out)))); have n2_ := Aside0.mk (below_step (by repeat (first | (with_reducible first | exact HB.out | apply below_alloc | apply pw_below_drewN | apply below_drew1) | exact HB.out)) hb); clear HO232; clear HB; have HO232 := n0_; have HO238 := n1_; have HB := n2_; clear n0_ n1_ n2_; (try clear hb); (try clear hb2); (try clear hk); (try clear hi); (try clear ho0)) | ((with_reducible refine gate_dst (N := 17) rfl ?_); (try (refine gate_guard (by rfl) ?_; dsimp only)); refine Kd.R_lit Kd.string _ 9 ?hg (N := 17) ?hd (xs := ([(⟨#[98]⟩ : ByteArray), (⟨#[97]⟩ : ByteArray)] : List ByteArray)) (inner := [.string (⟨#[98]⟩ : ByteArray), .string (⟨#[97]⟩ : ByteArray)]) (ok := fun _ => True) (okp := fun _ => True) ?hr ?hp (fun _ hk => hk) trivial (Below.refl _ _) (Nat.le_refl _) (by simp) ?_; (case hd => rfl); (case hg => rfl); (case hr => first | (go_simp; done) | (go_simp; rfl)); (case hp => exact (Reps.one (show Kd.M Kd.string _ _ _ (⟨#[98]⟩ : ByteArray) [.string (⟨#[98]⟩ : ByteArray)] from rfl) (Reps.one (show Kd.M Kd.string _ _ _ (⟨#[97]⟩ : ByteArray) [.string (⟨#[97]⟩ : ByteArray)] from rfl) (Reps.none _ _)))); intro v240 w27 ho28 hb hg_ hnew_; clear hg_ hnew_; (first | rw [← Ny239.out] at ho28 | (simp only [Int.reduceToNat] at ho28; rw [← Ny239.out] at ho28)); have n0_ := Aside0.mk (Kd.R_elder' (by (with_reducible repeat (first | apply Kd.R_alloc | apply Kd.R_drewN | apply Kd.R_drew)); exact HO232.out) (Kd.R_base ho28) hb); have n1_ := Aside0.mk (Kd.R_elder' (by (with_reducible repeat (first | apply Kd.R_alloc | apply Kd.R_drewN | apply Kd.R_drew)); exact HO238.out) (Kd.R_base ho28) hb); have n2_ := Aside0.mk (Kd.R_lower (Kd.R_new' (Kd.R_new' ho28 (Kd.R_lt (by (with_reducible repeat (first | apply Kd.R_alloc | apply Kd.R_drewN | apply Kd.R_drew)); exact HO232.out))) (Kd.R_lt (by (with_reducible repeat (first | apply Kd.R_alloc | apply Kd.R_drewN | apply Kd.R_drew)); exact HO238.out))) (below_size (by repeat (first | (with_reducible first | exact HB.out | apply below_alloc | apply pw_below_drewN | apply below_drew1) | exact HB.out)))); have n3_ := Aside0.mk (below_step (by repeat (first | (with_reducible first | exact HB.out | apply below_alloc | apply pw_below_drewN | apply below_drew1) | exact HB.out)) hb); clear HO232; clear HO238; clear HB; have HO232 := n0_; have HO238 := n1_; have HO241 := n2_; have HB := n3_; clear n0_ n1_ n2_ n3_; clear hb ho28; obtain ⟨Ao29, co29, eo29⟩ := Kd.R_slice HO241.out; subst eo29) | ((with_reducible refine gate_callee (f := 11) rfl ?_); refine goesL_ (some 18) rfl rfl Tryd.func11 (by kernel_rfl) rfl #[.slice Ao29 y239.length co29] rfl (by (try simp only [List.map_toArray, List.map_cons, List.map_nil]); first | done | rfl | (simp only [List.length_drop, List.length_take]; rfl)) ?_; (with_reducible refine (profile_Write.calls k _ _ y239 t242 t243 _ ?side1 ?side2 A3.out).mono ?_); (case side1 => repeat (first | exact (Kd.R_reads' HO241.out).2.2 | (with_reducible refine Kd.C_alloc ?_ _) | (with_reducible refine Kd.C_drewN ?_ _) | (with_reducible refine Kd.C_drew ?_))); (case side2 => exact (Kd.R_reads' HO241.out).2.1); rintro e w30 ⟨rfl, hb⟩; refine ⟨_, rfl, ?_⟩; have n0_ := Aside0.mk (Kd.R_below (by (with_reducible repeat (first | apply Kd.R_alloc | apply Kd.R_drewN | apply Kd.R_drew)); exact HO232.out) hb); have n1_ := Aside0.mk (Kd.R_below (by (with_reducible repeat (first | apply Kd.R_alloc | apply Kd.R_drewN | apply Kd.R_drew)); exact HO238.out) hb); have n2_ := Aside0.mk (Kd.R_below (by (with_reducible repeat (first | apply Kd.R_alloc | apply Kd.R_drewN | apply Kd.R_drew)); exact HO241.out) hb); have n3_ := Aside0.mk (below_step (by repeat (first | (with_reducible first | exact HB.out | apply below_alloc | apply pw_below_drewN | apply below_drew1) | exact HB.out)) hb); clear HO232; clear HO238; clear HO241; clear HB; have HO232 := n0_; have HO238 := n1_; have HO241 := n2_; have HB := n3_; clear n0_ n1_ n2_ n3_; (try clear hb); (try clear hb2); (try clear hk); (try clear hi)) | ((with_reducible refine gate_dst (N := 33) rfl ?_); (try (refine gate_guard (by rfl) ?_; dsimp only)); refine Kd.R_lit Kd.string _ 9 ?hg (N := 33) ?hd (xs := ([(⟨#[97]⟩ : ByteArray)] : List ByteArray)) (inner := [.string (⟨#[97]⟩ : ByteArray)]) (ok := fun _ => True) (okp := fun _ => True) ?hr ?hp (fun _ hk => hk) trivial (Below.refl _ _) (Nat.le_refl _) (by simp) ?_; (case hd => rfl); (case hg => rfl); (case hr => first | (go_simp; done) | (go_simp; rfl)); (case hp => exact (Reps.one (show Kd.M Kd.string _ _ _ (⟨#[97]⟩ : ByteArray) [.string (⟨#[97]⟩ : ByteArray)] from rfl) (Reps.none _ _))); intro v245 w31 ho32 hb hg_ hnew_; clear hg_ hnew_; (first | rw [← Ny244.out] at ho32 | (simp only [Int.reduceToNat] at ho32; rw [← Ny244.out] at ho32)); have n0_ := Aside0.mk (Kd.R_elder' (by (with_reducible repeat (first | apply Kd.R_alloc | apply Kd.R_drewN | apply Kd.R_drew)); exact HO232.out) (Kd.R_base ho32) hb); have n1_ := Aside0.mk (Kd.R_elder' (by (with_reducible repeat (first | apply Kd.R_alloc | apply Kd.R_drewN | apply Kd.R_drew)); exact HO238.out) (Kd.R_base ho32) hb); have n2_ := Aside0.mk (Kd.R_elder' (by (with_reducible repeat (first | apply Kd.R_alloc | apply Kd.R_drewN | apply Kd.R_drew)); exact HO241.out) (Kd.R_base ho32) hb); have n3_ := Aside0.mk (Kd.R_lower (Kd.R_new' (Kd.R_new' (Kd.R_new' ho32 (Kd.R_lt (by (with_reducible repeat (first | apply Kd.R_alloc | apply Kd.R_drewN | apply Kd.R_drew)); exact HO232.out))) (Kd.R_lt (by (with_reducible repeat (first | apply Kd.R_alloc | apply Kd.R_drewN | apply Kd.R_drew)); exact HO238.out))) (Kd.R_lt (by (with_reducible repeat (first | apply Kd.R_alloc | apply Kd.R_drewN | apply Kd.R_drew)); exact HO241.out))) (below_size (by repeat (first | (with_reducible first | exact HB.out | apply below_alloc | apply pw_below_drewN | apply below_drew1) | exact HB.out)))); have n4_ := Aside0.mk (below_step (by repeat (first | (with_reducible first | exact HB.out | apply below_alloc | apply pw_below_drewN | apply below_drew1) | exact HB.out)) hb); clear HO232; clear HO238; clear HO241; clear HB; have HO232 := n0_; have HO238 := n1_; have HO241 := n2_; have HO246 := n3_; have HB := n4_; clear n0_ n1_ n2_ n3_ n4_; clear hb ho32; obtain ⟨Ao33, co33, eo33⟩ := Kd.R_slice HO238.out; subst eo33; obtain ⟨Ao34, co34, eo34⟩ := Kd.R_slice HO246.out; subst eo34) | (go_at_call 14; (with_reducible refine (copselaw17_same.calls k _ _ t235 _ _ y244 false _ ?side1 ?side2 ?side3 ?side4 A7.out).mono ?_); (case side1 => repeat (first | exact (Kd.R_reads' HO238.out).2.2 | (with_reducible refine Kd.C_alloc ?_ _) | (with_reducible refine Kd.C_drewN ?_ _) | (with_reducible refine Kd.C_drew ?_))); (case side2 => exact (Kd.R_reads' HO238.out).2.1); (case side3 => repeat (first | exact (Kd.R_reads' HO246.out).2.2 | (with_reducible refine Kd.C_alloc ?_ _) | (with_reducible refine Kd.C_drewN ?_ _) | (with_reducible refine Kd.C_drew ?_))); (case side4 => exact (Kd.R_reads' HO246.out).2.1); rintro e w' ⟨rfl, ⟨nd, rfl⟩⟩))
     go_ret
     exact ⟨by first | rfl | (simp [errW_none, errW_some] <;> rfl) | (simp [*, errW_none, errW_some] <;> rfl), by repeat (first | (with_reducible first | exact HB.out | apply below_alloc | apply pw_below_drewN | apply below_drew1) | exact HB.out)⟩
   ·rw [if_neg c6] at H
    have c6b0 : (t236 == 0) = false := beq_eq_false_iff_ne.mpr c6
    have c6b1 : (t236 != 0) = true := bne_iff_ne.mpr c6
    obtain rfl := Option.some.inj H
    go_enter Tryd.func12, Tryd.ntmps12
    go_wp2_with (first | ((with_reducible refine gate_dst (N := 8) rfl ?_); (try (refine gate_guard (by rfl) ?_; dsimp only)); refine Kd.R_lit Kd.string _ 9 ?hg (N := 8) ?hd (xs := ([(⟨#[97, 47, 98]⟩ : ByteArray), (⟨#[99]⟩ : ByteArray)] : List ByteArray)) (inner := [.string (⟨#[97, 47, 98]⟩ : ByteArray), .string (⟨#[99]⟩ : ByteArray)]) (ok := fun _ => True) (okp := fun _ => True) ?hr ?hp (fun _ hk => hk) trivial (Below.refl _ _) (Nat.le_refl _) (by simp) ?_; (case hd => rfl); (case hg => rfl); (case hr => first | (go_simp; done) | (go_simp; rfl)); (case hp => exact (Reps.one (show Kd.M Kd.string _ _ _ (⟨#[97, 47, 98]⟩ : ByteArray) [.string (⟨#[97, 47, 98]⟩ : ByteArray)] from rfl) (Reps.one (show Kd.M Kd.string _ _ _ (⟨#[99]⟩ : ByteArray) [.string (⟨#[99]⟩ : ByteArray)] from rfl) (Reps.none _ _)))); intro v231 w35 ho36 hb hg_ hnew_; clear hg_ hnew_; (first | rw [← Ny230.out] at ho36 | (simp only [Int.reduceToNat] at ho36; rw [← Ny230.out] at ho36)); have n0_ := Aside0.mk (Kd.R_lower ho36 (below_size (by repeat (first | (with_reducible first | exact HB.out | apply below_alloc | apply pw_below_drewN | apply below_drew1) | exact HB.out)))); have n1_ := Aside0.mk (below_step (by repeat (first | (with_reducible first | exact HB.out | apply below_alloc | apply pw_below_drewN | apply below_drew1) | exact HB.out)) hb); clear HB; have HO232 := n0_; have HB := n1_; clear n0_ n1_; clear hb ho36; obtain ⟨Ao37, co37, eo37⟩ := Kd.R_slice HO232.out; subst eo37) | ((with_reducible refine gate_callee (f := 11) rfl ?_); refine goesL_ (some 9) rfl rfl Tryd.func11 (by kernel_rfl) rfl #[.slice Ao37 y230.length co37] rfl (by (try simp only [List.map_toArray, List.map_cons, List.map_nil]); first | done | rfl | (simp only [List.length_drop, List.length_take]; rfl)) ?_; (with_reducible refine (profile_Write.calls k _ _ y230 t233 t234 _ ?side1 ?side2 A1.out).mono ?_); (case side1 => repeat (first | exact (Kd.R_reads' HO232.out).2.2 | (with_reducible refine Kd.C_alloc ?_ _) | (with_reducible refine Kd.C_drewN ?_ _) | (with_reducible refine Kd.C_drew ?_))); (case side2 => exact (Kd.R_reads' HO232.out).2.1); rintro e w38 ⟨rfl, hb⟩; refine ⟨_, rfl, ?_⟩; have n0_ := Aside0.mk (Kd.R_below (by (with_reducible repeat (first | apply Kd.R_alloc | apply Kd.R_drewN | apply Kd.R_drew)); exact HO232.out) hb); have n1_ := Aside0.mk (below_step (by repeat (first | (with_reducible first | exact HB.out | apply below_alloc | apply pw_below_drewN | apply below_drew1) | exact HB.out)) hb); clear HO232; clear HB; have HO232 := n0_; have HB := n1_; clear n0_ n1_; (try clear hb); (try clear hb2); (try clear hk); (try clear hi)) | ((with_reducible refine gate_callee (f := 13) rfl ?_); refine goesL_ (some 13) rfl rfl Tryd.func13 (by kernel_rfl) rfl #[.string (⟨#[47, 42, 10, 33, 47, 42, 47, 10, 47, 97, 47, 10]⟩ : ByteArray)] rfl (by (try simp only [List.map_toArray, List.map_cons, List.map_nil]); first | done | rfl | (simp only [List.length_drop, List.length_take]; rfl)) ?_; (with_reducible refine (profile_Read.calls k (⟨#[47, 42, 10, 33, 47, 42, 47, 10, 47, 97, 47, 10]⟩ : ByteArray) t235 t236 _ A2.out).mono ?_); rintro e w39 ⟨v237, rfl, ho0, hb⟩; refine ⟨_, rfl, ?_⟩; have n0_ := Aside0.mk (Kd.R_elder' (by (with_reducible repeat (first | apply Kd.R_alloc | apply Kd.R_drewN | apply Kd.R_drew)); exact HO232.out) (Kd.R_base ho0) hb); have n1_ := Aside0.mk (Kd.R_lower (Kd.R_new' ho0 (Kd.R_lt (by (with_reducible repeat (first | apply Kd.R_alloc | apply Kd.R_drewN | apply Kd.R_drew)); exact HO232.out))) (below_size (by repeat (first | (with_reducible first | exact HB.out | apply below_alloc | apply pw_below_drewN | apply below_drew1) | exact HB.out)))); have n2_ := Aside0.mk (below_step (by repeat (first | (with_reducible first | exact HB.out | apply below_alloc | apply pw_below_drewN | apply below_drew1) | exact HB.out)) hb); clear HO232; clear HB; have HO232 := n0_; have HO238 := n1_; have HB := n2_; clear n0_ n1_ n2_; (try clear hb); (try clear hb2); (try clear hk); (try clear hi); (try clear ho0)) | ((with_reducible refine gate_dst (N := 17) rfl ?_); (try (refine gate_guard (by rfl) ?_; dsimp only)); refine Kd.R_lit Kd.string _ 9 ?hg (N := 17) ?hd (xs := ([(⟨#[98]⟩ : ByteArray), (⟨#[97]⟩ : ByteArray)] : List ByteArray)) (inner := [.string (⟨#[98]⟩ : ByteArray), .string (⟨#[97]⟩ : ByteArray)]) (ok := fun _ => True) (okp := fun _ => True) ?hr ?hp (fun _ hk => hk) trivial (Below.refl _ _) (Nat.le_refl _) (by simp) ?_; (case hd => rfl); (case hg => rfl); (case hr => first | (go_simp; done) | (go_simp; rfl)); (case hp => exact (Reps.one (show Kd.M Kd.string _ _ _ (⟨#[98]⟩ : ByteArray) [.string (⟨#[98]⟩ : ByteArray)] from rfl) (Reps.one (show Kd.M Kd.string _ _ _ (⟨#[97]⟩ : ByteArray) [.string (⟨#[97]⟩ : ByteArray)] from rfl) (Reps.none _ _)))); intro v240 w40 ho41 hb hg_ hnew_; clear hg_ hnew_; (first | rw [← Ny239.out] at ho41 | (simp only [Int.reduceToNat] at ho41; rw [← Ny239.out] at ho41)); have n0_ := Aside0.mk (Kd.R_elder' (by (with_reducible repeat (first | apply Kd.R_alloc | apply Kd.R_drewN | apply Kd.R_drew)); exact HO232.out) (Kd.R_base ho41) hb); have n1_ := Aside0.mk (Kd.R_elder' (by (with_reducible repeat (first | apply Kd.R_alloc | apply Kd.R_drewN | apply Kd.R_drew)); exact HO238.out) (Kd.R_base ho41) hb); have n2_ := Aside0.mk (Kd.R_lower (Kd.R_new' (Kd.R_new' ho41 (Kd.R_lt (by (with_reducible repeat (first | apply Kd.R_alloc | apply Kd.R_drewN | apply Kd.R_drew)); exact HO232.out))) (Kd.R_lt (by (with_reducible repeat (first | apply Kd.R_alloc | apply Kd.R_drewN | apply Kd.R_drew)); exact HO238.out))) (below_size (by repeat (first | (with_reducible first | exact HB.out | apply below_alloc | apply pw_below_drewN | apply below_drew1) | exact HB.out)))); have n3_ := Aside0.mk (below_step (by repeat (first | (with_reducible first | exact HB.out | apply below_alloc | apply pw_below_drewN | apply below_drew1) | exact HB.out)) hb); clear HO232; clear HO238; clear HB; have HO232 := n0_; have HO238 := n1_; have HO241 := n2_; have HB := n3_; clear n0_ n1_ n2_ n3_; clear hb ho41; obtain ⟨Ao42, co42, eo42⟩ := Kd.R_slice HO241.out; subst eo42) | ((with_reducible refine gate_callee (f := 11) rfl ?_); refine goesL_ (some 18) rfl rfl Tryd.func11 (by kernel_rfl) rfl #[.slice Ao42 y239.length co42] rfl (by (try simp only [List.map_toArray, List.map_cons, List.map_nil]); first | done | rfl | (simp only [List.length_drop, List.length_take]; rfl)) ?_; (with_reducible refine (profile_Write.calls k _ _ y239 t242 t243 _ ?side1 ?side2 A3.out).mono ?_); (case side1 => repeat (first | exact (Kd.R_reads' HO241.out).2.2 | (with_reducible refine Kd.C_alloc ?_ _) | (with_reducible refine Kd.C_drewN ?_ _) | (with_reducible refine Kd.C_drew ?_))); (case side2 => exact (Kd.R_reads' HO241.out).2.1); rintro e w43 ⟨rfl, hb⟩; refine ⟨_, rfl, ?_⟩; have n0_ := Aside0.mk (Kd.R_below (by (with_reducible repeat (first | apply Kd.R_alloc | apply Kd.R_drewN | apply Kd.R_drew)); exact HO232.out) hb); have n1_ := Aside0.mk (Kd.R_below (by (with_reducible repeat (first | apply Kd.R_alloc | apply Kd.R_drewN | apply Kd.R_drew)); exact HO238.out) hb); have n2_ := Aside0.mk (Kd.R_below (by (with_reducible repeat (first | apply Kd.R_alloc | apply Kd.R_drewN | apply Kd.R_drew)); exact HO241.out) hb); have n3_ := Aside0.mk (below_step (by repeat (first | (with_reducible first | exact HB.out | apply below_alloc | apply pw_below_drewN | apply below_drew1) | exact HB.out)) hb); clear HO232; clear HO238; clear HO241; clear HB; have HO232 := n0_; have HO238 := n1_; have HO241 := n2_; have HB := n3_; clear n0_ n1_ n2_ n3_; (try clear hb); (try clear hb2); (try clear hk); (try clear hi)))
    go_ret
    exact ⟨by first | rfl | (simp [errW_none, errW_some] <;> rfl) | (simp [*, errW_none, errW_some] <;> rfl), by repeat (first | (with_reducible first | exact HB.out | apply below_alloc | apply pw_below_drewN | apply below_drew1) | exact HB.out)⟩
  ·rw [if_neg c5] at H
   have c5b0 : (t233.toList == ([47, 42, 10, 33, 47, 42, 47, 10, 47, 97, 47, 10, 33, 47, 97, 47, 42, 47, 10, 47, 97, 47, 98, 47, 10, 47, 99, 47, 10] : List UInt8)) = false := beq_eq_false_iff_ne.mpr c5
   have c5b1 : (t233.toList != ([47, 42, 10, 33, 47, 42, 47, 10, 47, 97, 47, 10, 33, 47, 97, 47, 42, 47, 10, 47, 97, 47, 98, 47, 10, 47, 99, 47, 10] : List UInt8)) = true := bne_iff_ne.mpr c5
   obtain rfl := Option.some.inj H
   go_enter Tryd.func12, Tryd.ntmps12
   go_wp2_with (first | ((with_reducible refine gate_dst (N := 8) rfl ?_); (try (refine gate_guard (by rfl) ?_; dsimp only)); refine Kd.R_lit Kd.string _ 9 ?hg (N := 8) ?hd (xs := ([(⟨#[97, 47, 98]⟩ : ByteArray), (⟨#[99]⟩ : ByteArray)] : List ByteArray)) (inner := [.string (⟨#[97, 47, 98]⟩ : ByteArray), .string (⟨#[99]⟩ : ByteArray)]) (ok := fun _ => True) (okp := fun _ => True) ?hr ?hp (fun _ hk => hk) trivial (Below.refl _ _) (Nat.le_refl _) (by simp) ?_; (case hd => rfl); (case hg => rfl); (case hr => first | (go_simp; done) | (go_simp; rfl)); (case hp => exact (Reps.one (show Kd.M Kd.string _ _ _ (⟨#[97, 47, 98]⟩ : ByteArray) [.string (⟨#[97, 47, 98]⟩ : ByteArray)] from rfl) (Reps.one (show Kd.M Kd.string _ _ _ (⟨#[99]⟩ : ByteArray) [.string (⟨#[99]⟩ : ByteArray)] from rfl) (Reps.none _ _)))); intro v231 w44 ho45 hb hg_ hnew_; clear hg_ hnew_; (first | rw [← Ny230.out] at ho45 | (simp only [Int.reduceToNat] at ho45; rw [← Ny230.out] at ho45)); have n0_ := Aside0.mk (Kd.R_lower ho45 (below_size (by repeat (first | (with_reducible first | exact HB.out | apply below_alloc | apply pw_below_drewN | apply below_drew1) | exact HB.out)))); have n1_ := Aside0.mk (below_step (by repeat (first | (with_reducible first | exact HB.out | apply below_alloc | apply pw_below_drewN | apply below_drew1) | exact HB.out)) hb); clear HB; have HO232 := n0_; have HB := n1_; clear n0_ n1_; clear hb ho45; obtain ⟨Ao46, co46, eo46⟩ := Kd.R_slice HO232.out; subst eo46) | ((with_reducible refine gate_callee (f := 11) rfl ?_); refine goesL_ (some 9) rfl rfl Tryd.func11 (by kernel_rfl) rfl #[.slice Ao46 y230.length co46] rfl (by (try simp only [List.map_toArray, List.map_cons, List.map_nil]); first | done | rfl | (simp only [List.length_drop, List.length_take]; rfl)) ?_; (with_reducible refine (profile_Write.calls k _ _ y230 t233 t234 _ ?side1 ?side2 A1.out).mono ?_); (case side1 => repeat (first | exact (Kd.R_reads' HO232.out).2.2 | (with_reducible refine Kd.C_alloc ?_ _) | (with_reducible refine Kd.C_drewN ?_ _) | (with_reducible refine Kd.C_drew ?_))); (case side2 => exact (Kd.R_reads' HO232.out).2.1); rintro e w47 ⟨rfl, hb⟩; refine ⟨_, rfl, ?_⟩; have n0_ := Aside0.mk (Kd.R_below (by (with_reducible repeat (first | apply Kd.R_alloc | apply Kd.R_drewN | apply Kd.R_drew)); exact HO232.out) hb); have n1_ := Aside0.mk (below_step (by repeat (first | (with_reducible first | exact HB.out | apply below_alloc | apply pw_below_drewN | apply below_drew1) | exact HB.out)) hb); clear HO232; clear HB; have HO232 := n0_; have HB := n1_; clear n0_ n1_; (try clear hb); (try clear hb2); (try clear hk); (try clear hi)) | ((with_reducible refine gate_callee (f := 13) rfl ?_); refine goesL_ (some 13) rfl rfl Tryd.func13 (by kernel_rfl) rfl #[.string (⟨#[47, 42, 10, 33, 47, 42, 47, 10, 47, 97, 47, 10]⟩ : ByteArray)] rfl (by (try simp only [List.map_toArray, List.map_cons, List.map_nil]); first | done | rfl | (simp only [List.length_drop, List.length_take]; rfl)) ?_; (with_reducible refine (profile_Read.calls k (⟨#[47, 42, 10, 33, 47, 42, 47, 10, 47, 97, 47, 10]⟩ : ByteArray) t235 t236 _ A2.out).mono ?_); rintro e w48 ⟨v237, rfl, ho0, hb⟩; refine ⟨_, rfl, ?_⟩; have n0_ := Aside0.mk (Kd.R_elder' (by (with_reducible repeat (first | apply Kd.R_alloc | apply Kd.R_drewN | apply Kd.R_drew)); exact HO232.out) (Kd.R_base ho0) hb); have n1_ := Aside0.mk (Kd.R_lower (Kd.R_new' ho0 (Kd.R_lt (by (with_reducible repeat (first | apply Kd.R_alloc | apply Kd.R_drewN | apply Kd.R_drew)); exact HO232.out))) (below_size (by repeat (first | (with_reducible first | exact HB.out | apply below_alloc | apply pw_below_drewN | apply below_drew1) | exact HB.out)))); have n2_ := Aside0.mk (below_step (by repeat (first | (with_reducible first | exact HB.out | apply below_alloc | apply pw_below_drewN | apply below_drew1) | exact HB.out)) hb); clear HO232; clear HB; have HO232 := n0_; have HO238 := n1_; have HB := n2_; clear n0_ n1_ n2_; (try clear hb); (try clear hb2); (try clear hk); (try clear hi); (try clear ho0)) | ((with_reducible refine gate_dst (N := 17) rfl ?_); (try (refine gate_guard (by rfl) ?_; dsimp only)); refine Kd.R_lit Kd.string _ 9 ?hg (N := 17) ?hd (xs := ([(⟨#[98]⟩ : ByteArray), (⟨#[97]⟩ : ByteArray)] : List ByteArray)) (inner := [.string (⟨#[98]⟩ : ByteArray), .string (⟨#[97]⟩ : ByteArray)]) (ok := fun _ => True) (okp := fun _ => True) ?hr ?hp (fun _ hk => hk) trivial (Below.refl _ _) (Nat.le_refl _) (by simp) ?_; (case hd => rfl); (case hg => rfl); (case hr => first | (go_simp; done) | (go_simp; rfl)); (case hp => exact (Reps.one (show Kd.M Kd.string _ _ _ (⟨#[98]⟩ : ByteArray) [.string (⟨#[98]⟩ : ByteArray)] from rfl) (Reps.one (show Kd.M Kd.string _ _ _ (⟨#[97]⟩ : ByteArray) [.string (⟨#[97]⟩ : ByteArray)] from rfl) (Reps.none _ _)))); intro v240 w49 ho50 hb hg_ hnew_; clear hg_ hnew_; (first | rw [← Ny239.out] at ho50 | (simp only [Int.reduceToNat] at ho50; rw [← Ny239.out] at ho50)); have n0_ := Aside0.mk (Kd.R_elder' (by (with_reducible repeat (first | apply Kd.R_alloc | apply Kd.R_drewN | apply Kd.R_drew)); exact HO232.out) (Kd.R_base ho50) hb); have n1_ := Aside0.mk (Kd.R_elder' (by (with_reducible repeat (first | apply Kd.R_alloc | apply Kd.R_drewN | apply Kd.R_drew)); exact HO238.out) (Kd.R_base ho50) hb); have n2_ := Aside0.mk (Kd.R_lower (Kd.R_new' (Kd.R_new' ho50 (Kd.R_lt (by (with_reducible repeat (first | apply Kd.R_alloc | apply Kd.R_drewN | apply Kd.R_drew)); exact HO232.out))) (Kd.R_lt (by (with_reducible repeat (first | apply Kd.R_alloc | apply Kd.R_drewN | apply Kd.R_drew)); exact HO238.out))) (below_size (by repeat (first | (with_reducible first | exact HB.out | apply below_alloc | apply pw_below_drewN | apply below_drew1) | exact HB.out)))); have n3_ := Aside0.mk (below_step (by repeat (first | (with_reducible first | exact HB.out | apply below_alloc | apply pw_below_drewN | apply below_drew1) | exact HB.out)) hb); clear HO232; clear HO238; clear HB; have HO232 := n0_; have HO238 := n1_; have HO241 := n2_; have HB := n3_; clear n0_ n1_ n2_ n3_; clear hb ho50; obtain ⟨Ao51, co51, eo51⟩ := Kd.R_slice HO241.out; subst eo51) | ((with_reducible refine gate_callee (f := 11) rfl ?_); refine goesL_ (some 18) rfl rfl Tryd.func11 (by kernel_rfl) rfl #[.slice Ao51 y239.length co51] rfl (by (try simp only [List.map_toArray, List.map_cons, List.map_nil]); first | done | rfl | (simp only [List.length_drop, List.length_take]; rfl)) ?_; (with_reducible refine (profile_Write.calls k _ _ y239 t242 t243 _ ?side1 ?side2 A3.out).mono ?_); (case side1 => repeat (first | exact (Kd.R_reads' HO241.out).2.2 | (with_reducible refine Kd.C_alloc ?_ _) | (with_reducible refine Kd.C_drewN ?_ _) | (with_reducible refine Kd.C_drew ?_))); (case side2 => exact (Kd.R_reads' HO241.out).2.1); rintro e w52 ⟨rfl, hb⟩; refine ⟨_, rfl, ?_⟩; have n0_ := Aside0.mk (Kd.R_below (by (with_reducible repeat (first | apply Kd.R_alloc | apply Kd.R_drewN | apply Kd.R_drew)); exact HO232.out) hb); have n1_ := Aside0.mk (Kd.R_below (by (with_reducible repeat (first | apply Kd.R_alloc | apply Kd.R_drewN | apply Kd.R_drew)); exact HO238.out) hb); have n2_ := Aside0.mk (Kd.R_below (by (with_reducible repeat (first | apply Kd.R_alloc | apply Kd.R_drewN | apply Kd.R_drew)); exact HO241.out) hb); have n3_ := Aside0.mk (below_step (by repeat (first | (with_reducible first | exact HB.out | apply below_alloc | apply pw_below_drewN | apply below_drew1) | exact HB.out)) hb); clear HO232; clear HO238; clear HO241; clear HB; have HO232 := n0_; have HO238 := n1_; have HO241 := n2_; have HB := n3_; clear n0_ n1_ n2_ n3_; (try clear hb); (try clear hb2); (try clear hk); (try clear hi)))
   go_ret
   exact ⟨by first | rfl | (simp [errW_none, errW_some] <;> rfl) | (simp [*, errW_none, errW_some] <;> rfl), by repeat (first | (with_reducible first | exact HB.out | apply below_alloc | apply pw_below_drewN | apply below_drew1) | exact HB.out)⟩
 ·rw [if_neg c4] at H
  have c4b0 : (t234 == 0) = false := beq_eq_false_iff_ne.mpr c4
  have c4b1 : (t234 != 0) = true := bne_iff_ne.mpr c4
  obtain rfl := Option.some.inj H
  go_enter Tryd.func12, Tryd.ntmps12
  go_wp2_with (first | ((with_reducible refine gate_dst (N := 8) rfl ?_); (try (refine gate_guard (by rfl) ?_; dsimp only)); refine Kd.R_lit Kd.string _ 9 ?hg (N := 8) ?hd (xs := ([(⟨#[97, 47, 98]⟩ : ByteArray), (⟨#[99]⟩ : ByteArray)] : List ByteArray)) (inner := [.string (⟨#[97, 47, 98]⟩ : ByteArray), .string (⟨#[99]⟩ : ByteArray)]) (ok := fun _ => True) (okp := fun _ => True) ?hr ?hp (fun _ hk => hk) trivial (Below.refl _ _) (Nat.le_refl _) (by simp) ?_; (case hd => rfl); (case hg => rfl); (case hr => first | (go_simp; done) | (go_simp; rfl)); (case hp => exact (Reps.one (show Kd.M Kd.string _ _ _ (⟨#[97, 47, 98]⟩ : ByteArray) [.string (⟨#[97, 47, 98]⟩ : ByteArray)] from rfl) (Reps.one (show Kd.M Kd.string _ _ _ (⟨#[99]⟩ : ByteArray) [.string (⟨#[99]⟩ : ByteArray)] from rfl) (Reps.none _ _)))); intro v231 w53 ho54 hb hg_ hnew_; clear hg_ hnew_; (first | rw [← Ny230.out] at ho54 | (simp only [Int.reduceToNat] at ho54; rw [← Ny230.out] at ho54)); have n0_ := Aside0.mk (Kd.R_lower ho54 (below_size (by repeat (first | (with_reducible first | exact HB.out | apply below_alloc | apply pw_below_drewN | apply below_drew1) | exact HB.out)))); have n1_ := Aside0.mk (below_step (by repeat (first | (with_reducible first | exact HB.out | apply below_alloc | apply pw_below_drewN | apply below_drew1) | exact HB.out)) hb); clear HB; have HO232 := n0_; have HB := n1_; clear n0_ n1_; clear hb ho54; obtain ⟨Ao55, co55, eo55⟩ := Kd.R_slice HO232.out; subst eo55) | ((with_reducible refine gate_callee (f := 11) rfl ?_); refine goesL_ (some 9) rfl rfl Tryd.func11 (by kernel_rfl) rfl #[.slice Ao55 y230.length co55] rfl (by (try simp only [List.map_toArray, List.map_cons, List.map_nil]); first | done | rfl | (simp only [List.length_drop, List.length_take]; rfl)) ?_; (with_reducible refine (profile_Write.calls k _ _ y230 t233 t234 _ ?side1 ?side2 A1.out).mono ?_); (case side1 => repeat (first | exact (Kd.R_reads' HO232.out).2.2 | (with_reducible refine Kd.C_alloc ?_ _) | (with_reducible refine Kd.C_drewN ?_ _) | (with_reducible refine Kd.C_drew ?_))); (case side2 => exact (Kd.R_reads' HO232.out).2.1); rintro e w56 ⟨rfl, hb⟩; refine ⟨_, rfl, ?_⟩; have n0_ := Aside0.mk (Kd.R_below (by (with_reducible repeat (first | apply Kd.R_alloc | apply Kd.R_drewN | apply Kd.R_drew)); exact HO232.out) hb); have n1_ := Aside0.mk (below_step (by repeat (first | (with_reducible first | exact HB.out | apply below_alloc | apply pw_below_drewN | apply below_drew1) | exact HB.out)) hb); clear HO232; clear HB; have HO232 := n0_; have HB := n1_; clear n0_ n1_; (try clear hb); (try clear hb2); (try clear hk); (try clear hi)) | ((with_reducible refine gate_callee (f := 13) rfl ?_); refine goesL_ (some 13) rfl rfl Tryd.func13 (by kernel_rfl) rfl #[.string (⟨#[47, 42, 10, 33, 47, 42, 47, 10, 47, 97, 47, 10]⟩ : ByteArray)] rfl (by (try simp only [List.map_toArray, List.map_cons, List.map_nil]); first | done | rfl | (simp only [List.length_drop, List.length_take]; rfl)) ?_; (with_reducible refine (profile_Read.calls k (⟨#[47, 42, 10, 33, 47, 42, 47, 10, 47, 97, 47, 10]⟩ : ByteArray) t235 t236 _ A2.out).mono ?_); rintro e w57 ⟨v237, rfl, ho0, hb⟩; refine ⟨_, rfl, ?_⟩; have n0_ := Aside0.mk (Kd.R_elder' (by (with_reducible repeat (first | apply Kd.R_alloc | apply Kd.R_drewN | apply Kd.R_drew)); exact HO232.out) (Kd.R_base ho0) hb); have n1_ := Aside0.mk (Kd.R_lower (Kd.R_new' ho0 (Kd.R_lt (by (with_reducible repeat (first | apply Kd.R_alloc | apply Kd.R_drewN | apply Kd.R_drew)); exact HO232.out))) (below_size (by repeat (first | (with_reducible first | exact HB.out | apply below_alloc | apply pw_below_drewN | apply below_drew1) | exact HB.out)))); have n2_ := Aside0.mk (below_step (by repeat (first | (with_reducible first | exact HB.out | apply below_alloc | apply pw_below_drewN | apply below_drew1) | exact HB.out)) hb); clear HO232; clear HB; have HO232 := n0_; have HO238 := n1_; have HB := n2_; clear n0_ n1_ n2_; (try clear hb); (try clear hb2); (try clear hk); (try clear hi); (try clear ho0)) | ((with_reducible refine gate_dst (N := 17) rfl ?_); (try (refine gate_guard (by rfl) ?_; dsimp only)); refine Kd.R_lit Kd.string _ 9 ?hg (N := 17) ?hd (xs := ([(⟨#[98]⟩ : ByteArray), (⟨#[97]⟩ : ByteArray)] : List ByteArray)) (inner := [.string (⟨#[98]⟩ : ByteArray), .string (⟨#[97]⟩ : ByteArray)]) (ok := fun _ => True) (okp := fun _ => True) ?hr ?hp (fun _ hk => hk) trivial (Below.refl _ _) (Nat.le_refl _) (by simp) ?_; (case hd => rfl); (case hg => rfl); (case hr => first | (go_simp; done) | (go_simp; rfl)); (case hp => exact (Reps.one (show Kd.M Kd.string _ _ _ (⟨#[98]⟩ : ByteArray) [.string (⟨#[98]⟩ : ByteArray)] from rfl) (Reps.one (show Kd.M Kd.string _ _ _ (⟨#[97]⟩ : ByteArray) [.string (⟨#[97]⟩ : ByteArray)] from rfl) (Reps.none _ _)))); intro v240 w58 ho59 hb hg_ hnew_; clear hg_ hnew_; (first | rw [← Ny239.out] at ho59 | (simp only [Int.reduceToNat] at ho59; rw [← Ny239.out] at ho59)); have n0_ := Aside0.mk (Kd.R_elder' (by (with_reducible repeat (first | apply Kd.R_alloc | apply Kd.R_drewN | apply Kd.R_drew)); exact HO232.out) (Kd.R_base ho59) hb); have n1_ := Aside0.mk (Kd.R_elder' (by (with_reducible repeat (first | apply Kd.R_alloc | apply Kd.R_drewN | apply Kd.R_drew)); exact HO238.out) (Kd.R_base ho59) hb); have n2_ := Aside0.mk (Kd.R_lower (Kd.R_new' (Kd.R_new' ho59 (Kd.R_lt (by (with_reducible repeat (first | apply Kd.R_alloc | apply Kd.R_drewN | apply Kd.R_drew)); exact HO232.out))) (Kd.R_lt (by (with_reducible repeat (first | apply Kd.R_alloc | apply Kd.R_drewN | apply Kd.R_drew)); exact HO238.out))) (below_size (by repeat (first | (with_reducible first | exact HB.out | apply below_alloc | apply pw_below_drewN | apply below_drew1) | exact HB.out)))); have n3_ := Aside0.mk (below_step (by repeat (first | (with_reducible first | exact HB.out | apply below_alloc | apply pw_below_drewN | apply below_drew1) | exact HB.out)) hb); clear HO232; clear HO238; clear HB; have HO232 := n0_; have HO238 := n1_; have HO241 := n2_; have HB := n3_; clear n0_ n1_ n2_ n3_; clear hb ho59; obtain ⟨Ao60, co60, eo60⟩ := Kd.R_slice HO241.out; subst eo60) | ((with_reducible refine gate_callee (f := 11) rfl ?_); refine goesL_ (some 18) rfl rfl Tryd.func11 (by kernel_rfl) rfl #[.slice Ao60 y239.length co60] rfl (by (try simp only [List.map_toArray, List.map_cons, List.map_nil]); first | done | rfl | (simp only [List.length_drop, List.length_take]; rfl)) ?_; (with_reducible refine (profile_Write.calls k _ _ y239 t242 t243 _ ?side1 ?side2 A3.out).mono ?_); (case side1 => repeat (first | exact (Kd.R_reads' HO241.out).2.2 | (with_reducible refine Kd.C_alloc ?_ _) | (with_reducible refine Kd.C_drewN ?_ _) | (with_reducible refine Kd.C_drew ?_))); (case side2 => exact (Kd.R_reads' HO241.out).2.1); rintro e w61 ⟨rfl, hb⟩; refine ⟨_, rfl, ?_⟩; have n0_ := Aside0.mk (Kd.R_below (by (with_reducible repeat (first | apply Kd.R_alloc | apply Kd.R_drewN | apply Kd.R_drew)); exact HO232.out) hb); have n1_ := Aside0.mk (Kd.R_below (by (with_reducible repeat (first | apply Kd.R_alloc | apply Kd.R_drewN | apply Kd.R_drew)); exact HO238.out) hb); have n2_ := Aside0.mk (Kd.R_below (by (with_reducible repeat (first | apply Kd.R_alloc | apply Kd.R_drewN | apply Kd.R_drew)); exact HO241.out) hb); have n3_ := Aside0.mk (below_step (by repeat (first | (with_reducible first | exact HB.out | apply below_alloc | apply pw_below_drewN | apply below_drew1) | exact HB.out)) hb); clear HO232; clear HO238; clear HO241; clear HB; have HO232 := n0_; have HO238 := n1_; have HO241 := n2_; have HB := n3_; clear n0_ n1_ n2_ n3_; (try clear hb); (try clear hb2); (try clear hk); (try clear hi)))
  go_ret
  exact ⟨by first | rfl | (simp [errW_none, errW_some] <;> rfl) | (simp [*, errW_none, errW_some] <;> rfl), by repeat (first | (with_reducible first | exact HB.out | apply below_alloc | apply pw_below_drewN | apply below_drew1) | exact HB.out)⟩
end Go.Proofs.YtehfogjibhnabaaDoor.PAll
namespace Go.Proofs.YtehfogjibhnabaaDoor.PAll
open Go.RowKit Go.Proofs.YtehfogjibhnabaaDoorW.PrintWords Go.Proofs.YtehfogjibhnabaaDoorW.PrintLast Go.Proofs.YtehfogjibhnabaaDoorW.PrintMore
open Go.Proofs.YtehfogjibhnabaaDoor.Sp
theorem valid_root : validB (⟨#[]⟩ : ByteArray) = true := by kernel_rfl
end Go.Proofs.YtehfogjibhnabaaDoor.PAll
namespace Go.Proofs.YtehfogjibhnabaaDoor.PAll
open Go.RowKit Go.Proofs.YtehfogjibhnabaaDoorW.PrintWords Go.Proofs.YtehfogjibhnabaaDoorW.PrintLast Go.Proofs.YtehfogjibhnabaaDoorW.PrintMore
open Go.Proofs.YtehfogjibhnabaaDoor.Sp
theorem mk_app (a b : Str) : mk a ++ mk b = mk (a ++ b) := by
 apply bs_inj
 rw [bs_mk]
 show (mk a ++ mk b).data.toList = _
 rw [ByteArray.data_append, Array.toList_append]
 rfl
def writeS (s : Str) : ByteArray × Int := if (s.length : Int) > 65536 then (⟨#[]⟩, 18) else (mk s, 0)
def writeR (k : List ByteArray) : ByteArray × Int := if coneR none k = true then writeS (textS k) else (⟨#[]⟩, 13)
theorem write17_run (x D : List ByteArray) (hx : x.length ≤ 4294967296) (hD : D.length ≤ 4294967296) (hs : ∀ d ∈ D, d.size ≤ 120) (d : Nat) : ∀ (i : Nat) (acc : Str), D.length - i = d → i ≤ D.length → acc.length ≤ 8 + 260 * i →
  Ev (fun k => copseref17_Write.l0 k x (mk acc) D (i : Int)) (writeS (acc ++ (D.drop i).flatMap (lineT x))) := by
 induction d with
 | zero =>
  intro i acc hd hi hl
  refine ⟨1, fun k hk => ?_⟩
  obtain ⟨k, rfl⟩ : ∃ m, k = m + 1 := ⟨k - 1, by omega⟩
  simp only [copseref17_Write.l0]
  rw [if_neg (by omega), List.drop_of_length_le (by omega), List.flatMap_nil, List.append_nil, mk_size]
  unfold writeS
  split <;> rfl
 | succ d ih =>
  intro i acc hd hi hl
  have hil : i < D.length := by omega
  have hsz := hs _ (rd_mem D i hil)
  rw [rdOf_drop D i hil, List.flatMap_cons, ← List.append_assoc]
  generalize hc : rdOf ByteArray.empty D (i : Int) = c at hsz
  have e1 : mk acc ++ (⟨#[47]⟩ : ByteArray) = mk (acc ++ [47]) := mk_app acc [47]
  have e2 : mk (acc ++ [47]) ++ c = mk (acc ++ [47] ++ bs c) := by rw [← mk_app (acc ++ [47]), mk_bs]
  have e3 : mk (acc ++ [47] ++ bs c) ++ (⟨#[47, 10]⟩ : ByteArray) = mk (acc ++ [47] ++ bs c ++ [47, 10]) := mk_app _ [47, 10]
  have e4 : mk (acc ++ [47] ++ bs c ++ [47, 10]) ++ (⟨#[33, 47]⟩ : ByteArray) = mk (acc ++ [47] ++ bs c ++ [47, 10] ++ [33, 47]) := mk_app _ [33, 47]
  have e5 : mk (acc ++ [47] ++ bs c ++ [47, 10] ++ [33, 47]) ++ c = mk (acc ++ [47] ++ bs c ++ [47, 10] ++ [33, 47] ++ bs c) := by rw [← mk_app (acc ++ [47] ++ bs c ++ [47, 10] ++ [33, 47]), mk_bs]
  have e6 : mk (acc ++ [47] ++ bs c ++ [47, 10] ++ [33, 47] ++ bs c) ++ (⟨#[47, 42, 47, 10]⟩ : ByteArray) = mk (acc ++ [47] ++ bs c ++ [47, 10] ++ [33, 47] ++ bs c ++ [47, 42, 47, 10]) := mk_app _ [47, 42, 47, 10]
  have hbl : (bs c).length = c.size := bs_size c
  have hll := lineT_length x c
  obtain ⟨K, hK⟩ := ih (i + 1) (acc ++ lineT x c) (by omega) (by omega) (by rw [List.length_append]; omega)
  obtain ⟨K1, hK1⟩ := has17 x c hx
  dsimp only at hK hK1
  refine ⟨max K K1 + 1, fun k hk => ?_⟩
  obtain ⟨k, rfl⟩ : ∃ m, k = m + 1 := ⟨k - 1, by omega⟩
  have hk2 := hK k (by omega)
  simp only [copseref17_Write.l0]
  rw [hc, e1, e2, e3, e4, e5, e6]
  simp only [mk_size, List.length_append, List.length_cons, List.length_nil, hbl]
  rw [if_pos (by omega), if_pos (by omega), if_pos (by omega), if_pos (by omega), if_pos (by omega), hK1 k (by omega), Option.bind_some, wrap_succ (n := D.length) (by omega) (by omega)]
  by_cases hm : c ∈ x
  ·rw [if_pos (by simpa using hm)]
   have el : acc ++ [47] ++ bs c ++ [47, 10] = acc ++ lineT x c := by unfold lineT; simp [hm]
   rw [el]; exact hk2
  ·rw [if_neg (by simpa using hm), if_pos (by omega), if_pos (by omega), if_pos (by omega)]
   have el : acc ++ [47] ++ bs c ++ [47, 10] ++ [33, 47] ++ bs c ++ [47, 42, 47, 10] = acc ++ lineT x c := by unfold lineT; simp [hm]
   rw [el]; exact hk2
theorem write17 (x : List ByteArray) (hx : x.length ≤ 1048576) (hf : Fits x) : Ev (fun k => copseref17_Write.f k x) (writeR x) := by
 obtain ⟨K, hK⟩ := cones17 x (by omega) hf
 dsimp only at hK
 unfold writeR
 by_cases hc : coneR none x = true
 ·rw [if_pos hc]
  obtain ⟨hv, ha⟩ := (cone_all x).1 hc
  have hl := dirsT_length hv
  have hrun : x ≠ [⟨#[]⟩] → Ev (fun k => copseref17_Write.j0 k x false) (writeS (textS x)) := fun h0 => by
   have e : textS x = [47, 42, 10, 33, 47, 42, 47, 10] ++ (dirsT x).flatMap (lineT x) := by unfold textS; rw [if_neg h0]
   refine Ev.step (f := fun k => (copseref17_dirs.f k x).bind fun t159 => copseref17_Write.l0 k x (⟨#[47, 42, 10, 33, 47, 42, 47, 10]⟩ : ByteArray) t159 0) (fun k => ?_) (Ev.bind (dirs17 x hx (fun p hp => valid_size (hv p hp)) ha) ?_)
   ·simp only [copseref17_Write.j0]; rw [if_neg (by simp)]
   ·rw [e]
    exact write17_run x (dirsT x) (by omega) (by omega) (dirsT_size hv) _ 0 _ rfl (by omega) (by simp)
  by_cases h1 : (x.length : Int) = 1
  ·by_cases h2 : x = [⟨#[]⟩]
   ·refine ⟨K + 2, fun k hk => ?_⟩
    obtain ⟨k, rfl⟩ : ∃ m, k = m + 1 := ⟨k - 1, by omega⟩
    unfold copseref17_Write.f
    dsimp only
    rw [hK (k + 1) (by omega), Option.bind_some, if_pos hc, if_pos h1, if_pos (by omega), h2, textS_root]
    simp [copseref17_Write.j0, rdOf, writeS]
    rfl
   ·obtain ⟨K2, hK2⟩ := hrun h2
    refine ⟨max K K2, fun k hk => ?_⟩
    unfold copseref17_Write.f
    have hne : ((rdOf ByteArray.empty x 0).toList == ([] : List UInt8)) = false := by
     have hlen : x.length = 1 := by omega
     match x, hlen with
     | [a], _ =>
      have : a ≠ ⟨#[]⟩ := fun e => h2 (by rw [e])
      have h3 : a.toList ≠ [] := fun e => this (bs_inj (by rw [← toList_bs, e]; rfl))
      simpa [rdOf] using h3
    dsimp only
    rw [hK k (by omega), Option.bind_some, if_pos hc, if_pos h1, if_pos (by omega), hne]
    exact hK2 k (by omega)
  ·have h2 : x ≠ [⟨#[]⟩] := fun e => h1 (by rw [e]; rfl)
   obtain ⟨K2, hK2⟩ := hrun h2
   refine ⟨max K K2, fun k hk => ?_⟩
   unfold copseref17_Write.f
   dsimp only
   rw [hK k (by omega), Option.bind_some, if_pos hc, if_neg h1]
   exact hK2 k (by omega)
 ·rw [if_neg hc]
  refine ⟨K, fun k hk => ?_⟩
  unfold copseref17_Write.f
  dsimp only
  rw [hK k hk, Option.bind_some, if_neg hc]
theorem progWrite (x : List ByteArray) (hx : x.length ≤ 1048576) (hf : Fits x) : Ev (fun k => profile_Write.f k x) (writeR x) := by
 refine Ev.bind (coneValid_ev x (by omega) hf) ?_
 unfold writeR
 by_cases hc : coneR none x = true
 ·rw [if_pos hc, if_pos hc]
  refine ⟨0, fun k _ => ?_⟩
  dsimp only
  rw [if_pos rfl]
  unfold profile_text.f
  rw [if_pos ⟨hc, hx⟩, Option.bind_some, mk_size]
  unfold writeS
  split <;> rfl
 ·rw [if_neg hc, if_neg hc]
  exact ⟨0, fun k _ => by dsimp only; rw [if_neg (by decide)]⟩
def finR (s : ByteArray) (k : List ByteArray) : List ByteArray × Int := if bs s = [47, 42, 10] then ([⟨#[]⟩], 0) else if writeR k = (s, 0) then (k, 0) else ([], 18)
theorem write_root : writeR [(⟨#[]⟩ : ByteArray)] = (mk [47, 42, 10], 0) := by
 have h : coneR none [(⟨#[]⟩ : ByteArray)] = true := by simp [coneR, valid_root]
 unfold writeR
 rw [if_pos h, textS_root]
 rfl
end Go.Proofs.YtehfogjibhnabaaDoor.PAll
namespace Go.Proofs.YtehfogjibhnabaaDoor.PAll
open Go.RowKit Go.Proofs.YtehfogjibhnabaaDoorW.PrintWords Go.Proofs.YtehfogjibhnabaaDoorW.PrintLast Go.Proofs.YtehfogjibhnabaaDoorW.PrintMore
open Go.Proofs.YtehfogjibhnabaaDoor.Sp
def midS (l : Str) : Str := (l.take (l.length - 1)).drop 1
def dirW (l : Str) : Str := if l.head? = some 33 then (if midS (l.drop 1) = [42] then [] else (midS (l.drop 1)).take ((midS (l.drop 1)).length - 2) ++ [47]) else midS l ++ [47]
def stepW (p : Str) (b : Bool) (l : Str) : Bool :=
 if l = [47, 42] then true else if l = [] then b
 else if (dirW l).length < p.length ∧ p.take (dirW l).length = dirW l then
  (if l.head? = some 33 then (if (47 : UInt8) ∈ p.drop (dirW l).length then false else b) else true)
 else b
def okW (l : Str) : Bool := decide (l = [47, 42]) || decide (l = []) || (if l.head? = some 33 then decide (2 ≤ (l.drop 1).length) && (decide (midS (l.drop 1) = [42]) || decide (2 ≤ (midS (l.drop 1)).length)) else decide (2 ≤ l.length))
def shownS (p : Str) (L : List Str) : Bool := L.foldl (stepW p) false
def cut10 : Str → Str → List Str
 | cur, [] => [cur]
 | cur, c :: r => if c = 10 then cur :: cut10 [] r else cut10 (cur ++ [c]) r
theorem cut10_free : ∀ (l cur r : Str), (10 : UInt8) ∉ l → cut10 cur (l ++ 10 :: r) = (cur ++ l) :: cut10 [] r
 | [], cur, r, _ => by simp [cut10]
 | c :: l, cur, r, h => by
  have hc : c ≠ 10 := fun e => h (by rw [e]; exact List.mem_cons_self)
  rw [List.cons_append, cut10, if_neg hc, cut10_free l _ r fun hm => h (List.mem_cons_of_mem _ hm), List.append_assoc]
  rfl
theorem cut10_join : ∀ L : List Str, (∀ l ∈ L, (10 : UInt8) ∉ l) → cut10 [] (joinL L) = L ++ [[]]
 | [], _ => by simp [joinL, cut10]
 | l :: L, h => by
  have e : joinL (l :: L) = l ++ 10 :: joinL L := by simp [joinL]
  rw [e, cut10_free l [] _ (h l List.mem_cons_self), cut10_join L fun x hx => h x (List.mem_cons_of_mem _ hx)]
  rfl
def copselaw17_shown.f (_k : Nat) (s p : ByteArray) : Option Bool := if s.size ≤ 65536 ∧ (0 < p.size ∧ p.size ≤ 65536) ∧ (cut10 [] (bs s)).all okW = true then some (shownS (bs p) (cut10 [] (bs s))) else none
theorem copselaw17_shown.mono : ∀ a0 a1 k, LeO (copselaw17_shown.f k a0 a1) (copselaw17_shown.f (k + 1) a0 a1) := fun _ _ _ => LeO.refl _
end Go.Proofs.YtehfogjibhnabaaDoor.PAll
namespace Go.Proofs.YtehfogjibhnabaaDoor.PAll
open Go.RowKit Go.Proofs.YtehfogjibhnabaaDoorW.PrintWords Go.Proofs.YtehfogjibhnabaaDoorW.PrintLast Go.Proofs.YtehfogjibhnabaaDoorW.PrintMore
open Go.Proofs.YtehfogjibhnabaaDoor.Sp
def readR (s : ByteArray) : List ByteArray × Int := if (s.size : Int) > 65536 then ([], 18) else finR s (namedT s)
theorem writeR_ok {k : List ByteArray} {s : ByteArray} (h : writeR k = (s, 0)) : coneR none k = true ∧ s = mk (textS k) ∧ (textS k).length ≤ 65536 := by
 unfold writeR at h
 by_cases hc : coneR none k = true
 ·rw [if_pos hc] at h
  unfold writeS at h
  by_cases hl : ((textS k).length : Int) > 65536
  ·rw [if_pos hl] at h; have := (Prod.mk.inj h).2; omega
  ·rw [if_neg hl] at h
   exact ⟨hc, (Prod.mk.inj h).1.symm, by omega⟩
 ·rw [if_neg hc] at h; have := (Prod.mk.inj h).2; omega
theorem ref_named {k : List ByteArray} {s : ByteArray} (h : writeR k = (s, 0)) (h0 : k ≠ [⟨#[]⟩]) : refN (cut10 [] (bs s)) = k ∧ namedT s = k := by
 obtain ⟨hc, hs, _⟩ := writeR_ok h
 have hk := cones_of hc h0
 rw [hs]
 refine ⟨?_, named_text hk⟩
 rw [bs_mk, textS_lines h0, cut10_join _ (lines_free hk), refN_text hk]
theorem progRead (s : ByteArray) : Ev (fun k => profile_Read.f k s) (readR s) := by
 unfold readR profile_Read.f
 by_cases h : (s.size : Int) > 65536
 ·simp only [if_pos h]; exact ev_some _
 ·simp only [if_neg h, Option.bind_some]
  unfold finR
  simp only [toList_bs]
  by_cases hs : bs s = [47, 42, 10]
  ·simp only [if_pos hs]
   refine Ev.bind (progWrite [⟨#[]⟩] (by decide) (by intro p hp; rw [List.mem_singleton.1 hp]; decide)) ⟨0, fun k _ => ?_⟩
   dsimp only
   rw [write_root, if_pos rfl, if_pos (by rw [bs_mk, hs])]
  ·simp only [if_neg hs]
   have hb := named_bound s
   refine Ev.bind (a := namedT s) ⟨0, fun k _ => by unfold profile_named.f; rw [if_pos (by omega)]⟩ ?_
   refine Ev.bind (progWrite (namedT s) (by omega) (fun p hp => by have := hb.2 p hp; omega)) ⟨0, fun k _ => ?_⟩
   generalize writeR (namedT s) = q
   obtain ⟨t, e⟩ := q
   by_cases h : (t, e) = (s, (0 : Int))
   ·obtain ⟨rfl, rfl⟩ := Prod.mk.inj h
    simp
   ·rw [if_neg h]
    by_cases he : e = 0
    ·subst he
     dsimp only
     rw [if_pos rfl, if_neg (fun hb => h (by rw [bs_inj hb]))]
    ·dsimp only; rw [if_neg he]
end Go.Proofs.YtehfogjibhnabaaDoor.PAll
namespace Go.Proofs.YtehfogjibhnabaaDoor.PAll
open Go.RowKit Go.Proofs.YtehfogjibhnabaaDoorW.PrintWords Go.Proofs.YtehfogjibhnabaaDoorW.PrintLast Go.Proofs.YtehfogjibhnabaaDoorW.PrintMore
open Go.Proofs.YtehfogjibhnabaaDoor.Sp
theorem same17_run (l : List ByteArray) (hl : l.length ≤ 4294967296) (d : Nat) : ∀ i, l.length - i = d → i ≤ l.length → Ev (fun k => copselaw17_same.l0 k l l (i : Int)) true := by
 induction d with
 | zero =>
  intro i hd hi
  refine ⟨1, fun k hk => ?_⟩
  obtain ⟨k, rfl⟩ : ∃ m, k = m + 1 := ⟨k - 1, by omega⟩
  simp only [copselaw17_same.l0]
  rw [if_neg (by omega)]
 | succ d ih =>
  intro i hd hi
  obtain ⟨K, hK⟩ := ih (i + 1) (by omega) (by omega)
  dsimp only at hK
  refine ⟨K + 1, fun k hk => ?_⟩
  obtain ⟨k, rfl⟩ : ∃ m, k = m + 1 := ⟨k - 1, by omega⟩
  simp only [copselaw17_same.l0]
  rw [if_pos (by omega), if_pos (by omega), if_pos (by omega), if_pos trivial, wrap_succ (n := l.length) (by omega) (by omega)]
  exact hK k (by omega)
theorem same17 (l : List ByteArray) (hl : l.length ≤ 4294967296) : Ev (fun k => copselaw17_same.f k l l) true := by
 refine Ev.congr (fun k => ?_) (same17_run l hl l.length 0 (by omega) (by omega))
 unfold copselaw17_same.f
 rw [if_pos rfl]; rfl
theorem known17 : Ev (fun k => copselaw17_known.f k) true := Ev.of copselaw17_known.mono (k := 60) (by kernel_rfl)
theorem read_back {k : List ByteArray} {t : ByteArray} (h : writeR k = (t, 0)) : readR t = (k, 0) := by
 obtain ⟨hc, hs, hl⟩ := writeR_ok h
 unfold readR
 rw [if_neg (by rw [hs, mk_size]; omega)]
 unfold finR
 by_cases h0 : k = [⟨#[]⟩]
 ·rw [if_pos (by rw [hs, bs_mk, h0, textS_root]), h0]
 ·have hne : bs t ≠ [47, 42, 10] := by rw [hs, bs_mk]; exact textS_long h0
  rw [if_neg hne, (ref_named h h0).2, if_pos h]
theorem readR_bound (s : ByteArray) : (readR s).1.length ≤ 65537 ∧ Fits (readR s).1 := by
 unfold readR
 by_cases h1 : (s.size : Int) > 65536
 ·rw [if_pos h1]; exact ⟨by simp, fun p hp => absurd hp (by simp)⟩
 ·rw [if_neg h1]
  have hb := named_bound s
  unfold finR
  split
  ·exact ⟨by simp, by intro p hp; rw [List.mem_singleton.1 hp]; decide⟩
  ·split
   ·exact ⟨by have := hb.1; show (namedT s).length ≤ _; omega, fun p hp => by have := hb.2 p hp; omega⟩
   ·exact ⟨by simp, fun p hp => absurd hp (by simp)⟩
end Go.Proofs.YtehfogjibhnabaaDoor.PAll
namespace Go.Proofs.YtehfogjibhnabaaDoor.PAll
open Go.RowKit Go.Proofs.YtehfogjibhnabaaDoorW.PrintWords Go.Proofs.YtehfogjibhnabaaDoorW.PrintLast Go.Proofs.YtehfogjibhnabaaDoorW.PrintMore
section
variable {P : Program}
theorem run_append_marks (w : World) (base : Nat) (t ty e : TypeId) (i : TypeInfo) (z : Value) (bytes : Nat) (ht : P.underlying t = some (.slice e)) (hi : P.info? e = some i) (hz : i.zero = some z)
  (hsize : i.size = 1) (hby : i.bytes = bytes) (hzs : z.cells.size = 1)
  (v : Value) (n : Nat) (xs : List Value) (hown : w.ownsRow base e 1 v n xs)
  (a : Addr) (m c : Nat) (news : List Value) (hl : news.length = m) (hnews : ∀ j u, news[j]? = some u → w.cell? (a.add j) = some u) (h1 : ∀ u ∈ news, u.oneCell' = true)
  (h63 : n + m ≤ maxLen) (hbytes : (n + m) * bytes ≤ 140737488355328) (hbase : base ≤ w.heap.size) :
  ∃ v' w', (Builtin.append_ #[t, t] ty #[v, .slice (some a) m c]).run P w = .ok v' w' ∧ w'.ownsRow base e 1 v' (n + m) (xs ++ news) ∧ w.grownBy w' v.ownBlock ∧
   (v'.ownBlock = v.ownBlock ∨ v'.ownBlock = some w.heap.size) ∧
   ∀ b0 u n0 xs0 y, (∀ k, u.ownBlock = some k → v.ownBlock = some k → (∀ x ∈ news, x = y) ∧ ∀ x ∈ xs0, x = y) → w.ownsRow b0 e 1 u n0 xs0 → w'.ownsRow b0 e 1 u n0 xs0 := by
 obtain ⟨v', w', hr, h2, h3, _, h5⟩ := run_append_own_at (P := P) w base t ty e i z 1 bytes ht hi hz hsize hby hzs (by decide) v n xs hown a m c news (by omega) hnews h1 h63 hbytes hbase
 refine ⟨v', w', hr, h2, h3, h5, ?_⟩
 intro b0 u n0 xs0 y hle hu
 by_cases hk : ∃ k, u.ownBlock = some k ∧ v.ownBlock = some k
 ·obtain ⟨k, hk1, hk2⟩ := hk
  obtain ⟨hy1, hy2⟩ := hle k hk1 hk2
  rcases hown.2 with ⟨rfl, _⟩ | ⟨g, cap, cur, rfl, hbg, hg, hnc, hcm, hcs, htake⟩
  ·simp [Value.ownBlock] at hk2
  obtain rfl : g = k := by simpa [Value.ownBlock] using hk2
  have hsmall : n + m ≤ 9223372036854775807 := by simp only [maxLen] at h63; omega
  have same : w'.heap[g]? = w.heap[g]? → w'.ownsRow b0 e 1 u n0 xs0 := by
   intro hw
   obtain ⟨hu1, hu2⟩ := hu
   refine ⟨hu1, ?_⟩
   rcases hu2 with ⟨rfl, hn⟩ | ⟨g', cap', cur', rfl, hb, hh, q⟩
   ·exact .inl ⟨rfl, hn⟩
   ·obtain rfl : g' = g := by simpa [Value.ownBlock] using hk1
    exact .inr ⟨g', cap', cur', rfl, hb, by rw [hw]; exact hh, q⟩
  by_cases hroom : n + m ≤ cap
  ·have hfit : n * i.size + news.length ≤ cur.size := by rw [hl, hcs, hsize]; omega
   have hr2 := run_append_room (P := P) w t ty e i ht hi g n cap cur hg a m c news (by rw [hsize]; omega) hnews h1 hroom hfit
   obtain ⟨rfl, rfl⟩ : v' = _ ∧ w' = _ := by
    have := hr.symm.trans hr2
    injection this with e1 e2
    exact ⟨e1, e2⟩
   obtain ⟨hu1, hu2⟩ := hu
   refine ⟨hu1, ?_⟩
   rcases hu2 with ⟨rfl, hn⟩ | ⟨g', cap', cur', rfl, hb, hh, q1, q2, q3, q4⟩
   ·exact .inl ⟨rfl, hn⟩
   ·obtain rfl : g' = g := by simpa [Value.ownBlock] using hk1
    obtain rfl : cur' = cur := by rw [hg] at hh; simpa using hh.symm
    refine .inr ⟨g', cap', _, rfl, hb, setRow_heap w g' cur' _ e _ hg, q1, q2, ?_, ?_⟩
    ·rw [← q3]
     simp only [List.size_toArray, List.length_append, List.length_take, List.length_drop, Array.length_toList]
     omega
    ·apply List.ext_getElem?
     intro j
     simp only [hsize, Nat.mul_one]
     have hl0 : xs0.length = n0 := by rw [hu1, Nat.mul_one]
     by_cases hj : j < n0
     ·have e0 : xs0[j]? = cur'.toList[j]? := by rw [← q4, List.getElem?_take, if_pos (by omega)]
      rw [List.getElem?_take, if_pos hj]
      have hcl : cur'.toList.length = cur'.size := Array.length_toList
      have hx0 : ∃ x0, xs0[j]? = some x0 := ⟨_, List.getElem?_eq_getElem (by omega)⟩
      obtain ⟨x0, hx0⟩ := hx0
      have ex0 := hy2 x0 (List.mem_of_getElem? hx0)
      by_cases j1 : j < n
      ·rw [List.append_assoc, List.getElem?_append_left (by rw [List.length_take]; omega), List.getElem?_take, if_pos j1, e0]
      ·by_cases j2 : j < n + m
       ·rw [List.append_assoc, List.getElem?_append_right (by rw [List.length_take]; omega), List.length_take, Nat.min_eq_left (by omega), List.getElem?_append_left (by omega)]
        obtain ⟨x1, hx1⟩ : ∃ x1, news[j - n]? = some x1 := ⟨_, List.getElem?_eq_getElem (by omega)⟩
        rw [hx1, hx0, ex0, hy1 x1 (List.mem_of_getElem? hx1)]
       ·rw [List.getElem?_append_right (by rw [List.length_append, List.length_take]; omega), List.getElem?_drop, List.length_append, List.length_take, Nat.min_eq_left (by omega), e0]
        congr 1
        omega
     ·rw [List.getElem?_take, if_neg (by omega), List.getElem?_eq_none (by omega)]
  ·have holds : ∀ j u, xs[j]? = some u → w.cell? ((⟨g, 0, none⟩ : Addr).add j) = some u := hown.cells (g := g) rfl
   have hr2 := run_append_grow (P := P) w t ty e i z ht hi hz ⟨g, 0, none⟩ n cap xs (by rw [hsize]; exact hown.1) holds a m c news (by rw [hsize]; omega) hnews (by omega) (by omega) (growslice_fits (by omega) (by rw [hby]; exact hbytes))
   obtain ⟨rfl, rfl⟩ : v' = _ ∧ w' = _ := by
    have := hr.symm.trans hr2
    injection this with e1 e2
    exact ⟨e1, e2⟩
   exact same (heap_alloc_old w.drew _ (Array.getElem?_eq_some_iff.1 hg).1)
 ·exact hu.kept h3 (by
   cases hub : u.ownBlock with
   | none => exact .inl rfl
   | some k => exact .inr fun e => hk ⟨k, hub, e.symm⟩)
end
section
variable {P : Program} {ops : Array Oper} {rest : List Oper} {o : Oper} {a : Act} {Q : Exit → Act → World → Prop}
theorem run_marks {w0 W : World} (Pb : Nat → Prop) (t ty e : TypeId)
  (ht : P.underlying t = some (.slice e)) (hinfo : (P.info? e).map (fun i => (i.zero, i.size, i.bytes)) = some (some (.string ByteArray.empty), 1, 16))
  (v : Value) (xs ys : List ByteArray) (cs : Array Value) (hcs : cs = (ys.map Value.string).toArray) (n c : Nat) (hn : n = ys.length)
  (HO : OS e W v xs) (hbk : ∀ k, v.ownBlock = some k → Pb k) (HB : Bl Pb w0 W) (hbase : ∀ k, W.heap.size ≤ k → Pb k) (hl : xs.length + ys.length ≤ 4294967296) :
  ∃ v1 w1, (Builtin.append_ #[t, t] ty #[v, .slice (some ⟨W.heap.size, 0, none⟩) n c]).run P (W.alloc (.cells cs e)) = .ok v1 w1 ∧ OS e w1 v1 (xs ++ ys) ∧ (∀ k, v1.ownBlock = some k → Pb k) ∧ Bl Pb w0 w1 ∧ W.grownBy w1 v.ownBlock ∧ (v1.ownBlock = v.ownBlock ∨ ∃ b, v1.ownBlock = some b ∧ W.heap.size ≤ b) ∧
   (∀ u zs y, (∀ k, u.ownBlock = some k → v.ownBlock = some k → (∀ q ∈ ys, q = y) ∧ ∀ q ∈ zs, q = y) → OS e W u zs → OS e w1 u zs) := by
 subst hcs hn
 obtain ⟨i0, hi, hzz⟩ := Option.map_eq_some_iff.1 hinfo
 simp only [Prod.mk.injEq] at hzz
 obtain ⟨hz0, hz1, hz2⟩ := hzz
 obtain ⟨v1, w1, hr, hown, hg, hat, hk⟩ := run_append_marks (P := P) (W.alloc (.cells (ys.map Value.string).toArray e)) 0 t ty e i0 (.string ByteArray.empty) 16 ht hi hz0 hz1 hz2 rfl v xs.length _ (HO.alloc _) ⟨W.heap.size, 0, none⟩ ys.length c (ys.map Value.string) (by simp)
  (by simpa using World.news_of_block (cs := (ys.map Value.string).toArray) (t := e) (fr := (0, 0)) (heap_alloc_new W (.cells (ys.map Value.string).toArray e))) (fun u hu => by obtain ⟨y, _, rfl⟩ := List.mem_map.1 hu; rfl) (by simp only [maxLen]; omega) (by omega) (Nat.zero_le _)
 have hlen : (xs ++ ys).length = xs.length + ys.length := by simp
 refine ⟨v1, w1, hr, by show World.ownsRow _ _ _ _ _ _ _; rw [hlen, List.map_append]; exact hown, ?_, HB.trans (Bl.of_grown (World.grownBy.trans (World.grownBy_alloc W _ _) hg) hbk), World.grownBy.trans (World.grownBy_alloc W _ _) hg, ?_, fun u zs y hle hu => hk 0 u zs.length _ (Value.string y) (fun k h1 h2 => ⟨fun q hq => ?_, fun q hq => ?_⟩) (hu.alloc _)⟩
 ·intro k hk'
  rcases hat with hat | hat
  ·exact hbk k (by rw [← hat]; exact hk')
  ·rw [hat] at hk'
   have : (W.alloc (.cells (ys.map Value.string).toArray e)).heap.size = k := Option.some.inj hk'
   simp at this
   exact hbase k (by omega)
 ·rcases hat with hat | hat
  ·exact .inl hat
  ·exact .inr ⟨_, hat, by simp⟩
 ·obtain ⟨q', hq', rfl⟩ := List.mem_map.1 hq
  rw [(hle k h1 h2).1 q' hq']
 ·obtain ⟨q', hq', rfl⟩ := List.mem_map.1 hq
  rw [(hle k h1 h2).2 q' hq']
theorem step_marks {w0 W : World} {K : Act → World → Prop} {E : Prop} (Pb : Nat → Prop) (hgd : o.guard = none) (s x : Operand) (t e : TypeId)
  (ho : o.op = .call { callee := .builtin .append, args := #[s, x], argTypes := #[t, t] })
  (ht : P.underlying t = some (.slice e)) (hinfo : (P.info? e).map (fun i => (i.zero, i.size, i.bytes)) = some (some (.string ByteArray.empty), 1, 16))
  (v : Value) (xs ys : List ByteArray) (hs : a.eval s = v) (cs : Array Value) (hcs : cs = (ys.map Value.string).toArray) (n c : Nat) (hn : n = ys.length) (hx : a.eval x = .slice (some ⟨W.heap.size, 0, none⟩) n c)
  (HO : OS e W v xs) (hbk : ∀ k, v.ownBlock = some k → Pb k) (HB : Bl Pb w0 W) (hbase : ∀ k, W.heap.size ≤ k → Pb k) (hl : xs.length + ys.length ≤ 4294967296)
  (h : ∀ v1 w1, OS e w1 v1 (xs ++ ys) → (∀ k, v1.ownBlock = some k → Pb k) → Bl Pb w0 w1 → W.grownBy w1 v.ownBlock → (v1.ownBlock = v.ownBlock ∨ ∃ b, v1.ownBlock = some b ∧ W.heap.size ≤ b) →
   (∀ u zs y, (∀ k, u.ownBlock = some k → v.ownBlock = some k → (∀ q ∈ ys, q = y) ∧ ∀ q ∈ zs, q = y) → OS e W u zs → OS e w1 u zs) → K (a.put o.dst v1) w1) :
  if Region.wanted o (yielded ops a.tmps) = true then Oper.wp P o a (W.alloc (.cells cs e)) K Q else E := by
 have hw : Region.wanted o (yielded ops a.tmps) = true := by simp [Region.wanted, hgd]
 rw [if_pos hw]
 obtain ⟨v1, w1, hr, p1, p2, p3, p4, p5, p6⟩ := run_marks (P := P) (w0 := w0) (W := W) Pb t o.type e ht hinfo v xs ys cs hcs n c hn HO hbk HB hbase hl
 unfold Oper.wp
 simp only [execOp, ho, resolve, invoke, builtin, Sem.run_bind, Sem.run_pure, Result.andThen_ok, List.map_toArray, List.map_cons, List.map_nil, hs, hx, hr]
 exact h v1 w1 p1 p2 p3 p4 p5 p6
theorem app_marks {w0 W : World} (Pb : Nat → Prop) (hgd : o.guard = none) (s x : Operand) (t e : TypeId)
  (ho : o.op = .call { callee := .builtin .append, args := #[s, x], argTypes := #[t, t] })
  (ht : P.underlying t = some (.slice e)) (hinfo : (P.info? e).map (fun i => (i.zero, i.size, i.bytes)) = some (some (.string ByteArray.empty), 1, 16))
  (v : Value) (xs ys : List ByteArray) (hs : a.eval s = v) (cs : Array Value) (hcs : cs = (ys.map Value.string).toArray) (n c : Nat) (hn : n = ys.length) (hx : a.eval x = .slice (some ⟨W.heap.size, 0, none⟩) n c)
  (HO : OS e W v xs) (hbk : ∀ k, v.ownBlock = some k → Pb k) (HB : Bl Pb w0 W) (hbase : ∀ k, W.heap.size ≤ k → Pb k) (hl : xs.length + ys.length ≤ 4294967296)
  (h : ∀ v1 w1, OS e w1 v1 (xs ++ ys) → (∀ k, v1.ownBlock = some k → Pb k) → Bl Pb w0 w1 → W.grownBy w1 v.ownBlock → (v1.ownBlock = v.ownBlock ∨ ∃ b, v1.ownBlock = some b ∧ W.heap.size ≤ b) →
   (∀ u zs y, (∀ k, u.ownBlock = some k → v.ownBlock = some k → (∀ q ∈ ys, q = y) ∧ ∀ q ∈ zs, q = y) → OS e W u zs → OS e w1 u zs) → wpList P ops Q rest (a.put o.dst v1) w1) :
  wpList P ops Q (o :: rest) a (W.alloc (.cells cs e)) := by
 obtain ⟨v1, w1, hr, p1, p2, p3, p4, p5, p6⟩ := run_marks (P := P) (w0 := w0) (W := W) Pb t o.type e ht hinfo v xs ys cs hcs n c hn HO hbk HB hbase hl
 refine wpList_plain hgd fun K hK => ?_
 unfold Oper.wp execOp
 simp only [ho, resolve, invoke, builtin, Sem.run_bind, Sem.run_pure, Result.andThen_ok, List.map_toArray, List.map_cons, List.map_nil, hs, hx, hr]
 exact hK _ _ (h v1 w1 p1 p2 p3 p4 p5 p6)
end
structure Fam (B : Nat) (w : World) (vs ls : List Value) (xs zs : List (List ByteArray)) : Prop where
 l1 : ls.length = vs.length
 l2 : xs.length = vs.length
 l3 : zs.length = vs.length
 row : ∀ (q : Nat) (v : Value) (x : List ByteArray), vs[q]? = some v → xs[q]? = some x → OS 9 w v x
 long : ∀ (q : Nat) (v : Value) (x : List ByteArray), ls[q]? = some v → zs[q]? = some x → OS 9 w v x
 apart : ∀ (q r : Nat) (u v : Value) (k : Nat), q ≠ r → (vs[q]? = some u ∨ ls[q]? = some u) → (vs[r]? = some v ∨ ls[r]? = some v) → u.ownBlock = some k → v.ownBlock ≠ some k
 low : ∀ (q : Nat) (u : Value) (k : Nat), (vs[q]? = some u ∨ ls[q]? = some u) → u.ownBlock = some k → B ≤ k
def Full (m : Nat → ByteArray) (i : Nat) (xs : List (List ByteArray)) : Prop := ∀ (q : Nat) (x : List ByteArray), q < i → xs[q]? = some x → ∀ y ∈ x, y = m q
section
variable {B : Nat} {w w1 : World} {vs ls : List Value} {xs zs : List (List ByteArray)}
theorem getElem?_some_of {α β : Type} {l : List α} {l' : List β} (h : l.length = l'.length) {i : Nat} {v : β} (hv : l'[i]? = some v) : ∃ x, l[i]? = some x :=
 ⟨_, List.getElem?_eq_getElem (by have := (List.getElem?_eq_some_iff.1 hv).1; omega)⟩
theorem Fam.move (h : Fam B w vs ls xs zs) (hm : ∀ (q : Nat) (v : Value) (x : List ByteArray), (vs[q]? = some v ∧ xs[q]? = some x) ∨ (ls[q]? = some v ∧ zs[q]? = some x) → OS 9 w v x → OS 9 w1 v x) : Fam B w1 vs ls xs zs :=
 ⟨h.l1, h.l2, h.l3, fun q v x hv hx => hm q v x (.inl ⟨hv, hx⟩) (h.row q v x hv hx), fun q v x hv hx => hm q v x (.inr ⟨hv, hx⟩) (h.long q v x hv hx), h.apart, h.low⟩
theorem Fam.below (h : Fam B w vs ls xs zs) (hb : Below w.heap.size w w1) : Fam B w1 vs ls xs zs := h.move fun _ _ _ _ ho => ho.below hb
theorem Fam.set (h : Fam B w vs ls xs zs) {i g c : Nat} {x : List ByteArray} (hv : vs[i]? = some (.slice (some ⟨g, 0, none⟩) x.length c)) (hx : xs[i]? = some x) (hn : ∀ (q : Nat) (u : Value), ls[q]? = some u → u.ownBlock = none) (j : Nat) (m : ByteArray) :
  Fam B (w.setCell ⟨g, j, none⟩ (.string m)) vs ls (xs.set i (x.set j m)) zs := by
 refine ⟨h.l1, by rw [List.length_set]; exact h.l2, h.l3, fun q u y hu hy => ?_, fun q u y hu hy => ?_, h.apart, h.low⟩
 ·by_cases hq : q = i
  ·subst hq
   rw [List.getElem?_set_self (by have := (List.getElem?_eq_some_iff.1 hx).1; omega)] at hy
   injection hy with hy
   subst hy
   rw [hv] at hu
   injection hu with hu
   subst hu
   exact (h.row q _ x hv hx).set rfl j m
  ·rw [List.getElem?_set_ne (by omega)] at hy
   exact (h.row q u y hu hy).far _ fun k hk => by
    rintro rfl
    exact h.apart i q _ u _ (by omega) (.inl hv) (.inl hu) rfl hk
 ·exact (h.long q u y hu hy).far _ fun k hk => by rw [hn q u hu] at hk; cases hk
theorem Fam.put (h : Fam B w vs ls xs zs) {i : Nat} {v : Value} {x : List ByteArray} (hv : vs[i]? = some v) (hx : xs[i]? = some x) : Fam B w vs (ls.set i v) xs (zs.set i x) := by
 have hi : i < vs.length := (List.getElem?_eq_some_iff.1 hv).1
 have hin : ∀ (q : Nat) (u : Value), (vs[q]? = some u ∨ (ls.set i v)[q]? = some u) → vs[q]? = some u ∨ ls[q]? = some u := by
  intro q u hu
  rcases hu with hu | hu
  ·exact .inl hu
  ·by_cases hq : q = i
   ·subst hq
    rw [List.getElem?_set_self (by have := h.l1; omega)] at hu
    exact .inl (hv.trans hu)
   ·rw [List.getElem?_set_ne (by omega)] at hu
    exact .inr hu
 refine ⟨by rw [List.length_set]; exact h.l1, h.l2, by rw [List.length_set]; exact h.l3, h.row, fun q u y hu hy => ?_, fun q r u u' k hqr hu hu' => h.apart q r u u' k hqr (hin q u hu) (hin r u' hu'), fun q u k hu => h.low q u k (hin q u hu)⟩
 by_cases hq : q = i
 ·subst hq
  rw [List.getElem?_set_self (by have := h.l1; omega)] at hu
  rw [List.getElem?_set_self (by have := h.l3; omega)] at hy
  exact h.row q u y (hv.trans hu) (hx.trans hy)
 ·rw [List.getElem?_set_ne (by omega)] at hu hy
  exact h.long q u y hu hy
theorem Fam.grow (h : Fam B w vs ls xs zs) (m : Nat → ByteArray) {i : Nat} {v v1 : Value} {z : List ByteArray} (hv : ls[i]? = some v) (hz : zs[i]? = some z) (fx : Full m vs.length xs) (fz : Full m vs.length zs)
  (ho : OS 9 w1 v1 (z ++ [m i])) (hk : ∀ k, v1.ownBlock = some k → B ≤ k) (hat : v1.ownBlock = v.ownBlock ∨ ∃ b, v1.ownBlock = some b ∧ w.heap.size ≤ b)
  (keep : ∀ u ys y, (∀ k, u.ownBlock = some k → v.ownBlock = some k → (∀ q ∈ [m i], q = y) ∧ ∀ q ∈ ys, q = y) → OS 9 w u ys → OS 9 w1 u ys) :
  Fam B w1 vs (ls.set i v1) xs (zs.set i (z ++ [m i])) ∧ Full m vs.length (zs.set i (z ++ [m i])) := by
 have hi : i < vs.length := by have := (List.getElem?_eq_some_iff.1 hv).1; have := h.l1; omega
 have hlt : ∀ (q : Nat) (u : Value) (k : Nat), (vs[q]? = some u ∨ ls[q]? = some u) → u.ownBlock = some k → k < w.heap.size := by
  intro q u k hu hk
  rcases hu with hu | hu
  ·obtain ⟨x, hx⟩ := getElem?_some_of h.l2 hu
   exact own_lt (h.row q u x hu hx) k hk
  ·obtain ⟨x, hx⟩ := getElem?_some_of (l := zs) (by have := h.l1; have := h.l3; omega) hu
   exact own_lt (h.long q u x hu hx) k hk
 have hin : ∀ (q : Nat) (u : Value), (vs[q]? = some u ∨ (ls.set i v1)[q]? = some u) → (vs[q]? = some u ∨ ls[q]? = some u) ∨ (q = i ∧ u = v1) := by
  intro q u hu
  rcases hu with hu | hu
  ·exact .inl (.inl hu)
  ·by_cases hq : q = i
   ·subst hq
    rw [List.getElem?_set_self (by have := h.l1; omega)] at hu
    exact .inr ⟨rfl, (Option.some.inj hu).symm⟩
   ·rw [List.getElem?_set_ne (by omega)] at hu
    exact .inl (.inr hu)
 have far : ∀ (r : Nat) (u : Value) (k : Nat), r ≠ i → (vs[r]? = some u ∨ ls[r]? = some u) → u.ownBlock = some k → v1.ownBlock ≠ some k := by
  intro r u k hr hu hk1 hk2
  rcases hat with e | ⟨b, e, hb⟩
  ·exact h.apart i r v u k (by omega) (.inr hv) hu (e ▸ hk2) hk1
  ·have := hlt r u k hu hk1
   rw [e] at hk2
   injection hk2 with hk2
   omega
 refine ⟨⟨by rw [List.length_set]; exact h.l1, h.l2, by rw [List.length_set]; exact h.l3, fun q u y hu hy => ?_, fun q u y hu hy => ?_, fun q r u u' k hqr hu hu' hk1 hk2 => ?_, fun q u k hu hk1 => ?_⟩, fun q y hq hy t ht => ?_⟩
 ·refine keep u y (m i) (fun k h1 h2 => ⟨fun t ht => List.mem_singleton.1 ht, ?_⟩) (h.row q u y hu hy)
  by_cases hq : q = i
  ·subst hq
   exact fx q y hi hy
  ·exact absurd h2 (h.apart q i u v k hq (.inl hu) (.inr hv) h1)
 ·by_cases hq : q = i
  ·subst hq
   rw [List.getElem?_set_self (by have := h.l1; omega)] at hu
   rw [List.getElem?_set_self (by have := h.l3; omega)] at hy
   obtain rfl := Option.some.inj hu
   obtain rfl := Option.some.inj hy
   exact ho
  ·rw [List.getElem?_set_ne (by omega)] at hu hy
   exact keep u y (m i) (fun k h1 h2 => absurd h2 (h.apart q i u v k hq (.inr hu) (.inr hv) h1)) (h.long q u y hu hy)
 ·rcases hin q u hu with a1 | ⟨e1, e2⟩ <;> rcases hin r u' hu' with a2 | ⟨e3, e4⟩
  ·exact h.apart q r u u' k hqr a1 a2 hk1 hk2
  ·exact far q u k (by omega) a1 hk1 (e4 ▸ hk2)
  ·exact far r u' k (by omega) a2 hk2 (e2 ▸ hk1)
  ·exact hqr (e1.trans e3.symm)
 ·rcases hin q u hu with hu | ⟨_, rfl⟩
  ·exact h.low q u k hu hk1
  ·exact hk k hk1
 ·by_cases hqi : q = i
  ·subst hqi
   rw [List.getElem?_set_self (by have := h.l3; omega)] at hy
   obtain rfl := Option.some.inj hy
   rcases List.mem_append.1 ht with ht | ht
   ·exact fz q z hi hz t ht
   ·exact List.mem_singleton.1 ht
  ·rw [List.getElem?_set_ne (by omega)] at hy
   exact fz q y hq hy t ht
theorem Fam.keep (h : Fam B w vs ls xs zs) (m : Nat → ByteArray) {i : Nat} {v : Value} (hv : vs[i]? = some v) (fx : Full m vs.length xs) (fz : Full m vs.length zs) {ys : List ByteArray} (hys : ∀ q ∈ ys, q = m i)
  (keep : ∀ u zs y, (∀ k, u.ownBlock = some k → v.ownBlock = some k → (∀ q ∈ ys, q = y) ∧ ∀ q ∈ zs, q = y) → OS 9 w u zs → OS 9 w1 u zs) : Fam B w1 vs ls xs zs := by
 have hi : i < vs.length := (List.getElem?_eq_some_iff.1 hv).1
 refine h.move fun q u y hu ho => keep u y (m i) (fun k h1 h2 => ⟨hys, ?_⟩) ho
 have hu' : vs[q]? = some u ∨ ls[q]? = some u := hu.imp And.left And.left
 by_cases hq : q = i
 ·subst hq
  rcases hu with ⟨_, hy⟩ | ⟨_, hy⟩
  ·exact fx q y hi hy
  ·exact fz q y hi hy
 ·exact absurd h2 (h.apart q i u v k hq hu' (.inl hv) h1)
end
theorem Full.set {m : Nat → ByteArray} {n i : Nat} {zs : List (List ByteArray)} {x : List ByteArray} (h : Full m n zs) (hx : ∀ y ∈ x, y = m i) : Full m n (zs.set i x) := by
 intro q y hq hy t ht
 by_cases hqi : q = i
 ·subst hqi
  by_cases hl : q < zs.length
  ·rw [List.getElem?_set_self hl] at hy
   obtain rfl := Option.some.inj hy
   exact hx t ht
  ·rw [List.getElem?_eq_none (by rw [List.length_set]; omega)] at hy; cases hy
 ·rw [List.getElem?_set_ne (by omega)] at hy
  exact h q y hq hy t ht
abbrev OwnS (B : Nat) (w : World) (s : Value) (vs : List Value) : Prop := w.ownsRow B 22 1 s vs.length vs
theorem OwnS.cell {B g n c : Nat} {w : World} {vs : List Value} (h : OwnS B w (.slice (some ⟨g, 0, none⟩) n c) vs) {i : Nat} {v : Value} (hv : vs[i]? = some v) : w.cell? ⟨g, i, none⟩ = some v ∧ w.frozen? ⟨g, i, none⟩ = false := by
 have h1 := h.cells (g := g) rfl i v hv
 rw [add_plain] at h1
 have hn : n = vs.length := by
  rcases h.2 with ⟨h', _⟩ | ⟨_, _, _, h', _⟩
  ·cases h'
  ·injection h'
 subst hn
 exact ⟨h1, h.frozenAt i⟩
theorem OwnS.form {B : Nat} {w : World} {s : Value} {vs : List Value} (h : OwnS B w s vs) (h0 : 0 < vs.length) : ∃ g c, s = .slice (some ⟨g, 0, none⟩) vs.length c ∧ B ≤ g ∧ g < w.heap.size := by
 obtain ⟨g, cap, he, h1, h2⟩ := World.ownsRow.form h h0
 exact ⟨g, cap, he, h1, h2⟩
theorem OwnS.below {B : Nat} {w w1 : World} {s : Value} {vs : List Value} (h : OwnS B w s vs) (hb : Below w.heap.size w w1) : OwnS B w1 s vs := own_move h fun k hk => hb.block k (own_lt h k hk)
theorem OwnS.set {B g j : Nat} {w : World} {s : Value} {vs : List Value} (h : OwnS B w s vs) {v : Value} {x : List ByteArray} (ho : OS 9 w v x) (hv : v.ownBlock = some g) (u : Value) : OwnS B (w.setCell ⟨g, j, none⟩ u) s vs := by
 refine own_move h fun k hk => Below.heap_setCell w ⟨g, j, none⟩ _ k ?_
 rintro rfl
 rcases own_type_ne h ho (by decide) with h1 | h1
 ·rw [h1] at hk; cases hk
 ·exact h1 (hk.trans hv.symm)
theorem OwnS.grown {B : Nat} {w w1 : World} {s : Value} {vs : List Value} (h : OwnS B w s vs) {v : Value} {x : List ByteArray} (ho : OS 9 w v x) (hg : w.grownBy w1 v.ownBlock) : OwnS B w1 s vs := own_other h hg (own_type_ne h ho (by decide))
theorem OwnS.put {B g c : Nat} {w : World} {vs : List Value} (h : OwnS B w (.slice (some ⟨g, 0, none⟩) vs.length c) vs) {i : Nat} (u : Value) : OwnS B (w.setCell ⟨g, i, none⟩ u) (.slice (some ⟨g, 0, none⟩) vs.length c) (vs.set i u) := by
 have := (h.stored i u).1
 show World.ownsRow _ _ _ _ _ _ _
 rw [List.length_set]
 exact this
theorem OS.row_far {w : World} {v s : Value} {x : List ByteArray} {B g j : Nat} {vs : List Value} (h : OS 9 w v x) (ho : OwnS B w s vs) (hs : s.ownBlock = some g) (u : Value) : OS 9 (w.setCell ⟨g, j, none⟩ u) v x :=
 h.far u fun k hk => by
  rintro rfl
  rcases own_type_ne h ho (by decide) with h1 | h1
  ·rw [h1] at hk; cases hk
  ·exact h1 (hk.trans hs.symm)
end Go.Proofs.YtehfogjibhnabaaDoor.PAll
