/- What functions of the program compute, each with its walk: a contract for every world and every argument of the kind told. -/
import Derived.Test.YtehfogjibhnabaaDoorDfPAllx0
import Derived.Test.YtehfogjibhnabaaDoorDfPure5
import Derived.Test.YtehfogjibhnabaaDoorDfDelD
import Derived.Test.YtehfogjibhnabaaDoorDfHandA
import Derived.Test.YtehfogjibhnabaaDoorDfDelB
import Derived.Test.YtehfogjibhnabaaDoorDfPAlly3
import Derived.Test.YtehfogjibhnabaaDoorDfPAlly9
import Derived.Test.YtehfogjibhnabaaDoorDfPAlly4
import Derived.Test.YtehfogjibhnabaaDoorDfPAlly6
import Derived.WalkKit
import Derived.WalkSpells
import Derived.BigQuiet
import Derived.Outline
namespace Go.Proofs.YtehfogjibhnabaaDoor.PAll
open Go.RowKit Go.Proofs.YtehfogjibhnabaaDoorW.PrintWords Go.Proofs.YtehfogjibhnabaaDoorW.PrintLast Go.Proofs.YtehfogjibhnabaaDoorW.PrintMore
attribute [local go_sem] max2_int min2_int max_two min_two max_three min_three max_four min_four
set_option linter.unusedVariables false
set_option linter.unusedSimpArgs false
attribute [local go_sem high] eqA55
def copselaw06_alive.f (k : Nat)  : Option (Bool) := (some (([(⟨(⟨#[97]⟩ : ByteArray), (⟨#[]⟩ : ByteArray), 1, 1⟩ : S55), (⟨(⟨#[98]⟩ : ByteArray), (⟨#[]⟩ : ByteArray), 1, 1⟩ : S55)] : List (S55)) : List (S55))).bind fun y250 => ((some (([(⟨(⟨#[98]⟩ : ByteArray), (⟨#[]⟩ : ByteArray), 2, 1⟩ : S55)] : List (S55)) : List (S55))).bind fun y253 => ((delta_Diff.f k y250 y253).bind fun t256 => ((delta_Apply.f y250 t256).bind fun bt259 => (if (t256.length : Int) = 2 then ((delta_Valid.f k t256).bind fun t263 => (if t263 = true then ((copselaw06_num.f bt259.2).bind fun t264 => (if t264 = 0 then ((copselaw06_files.f k bt259.1 y253).bind fun t265 => (if t265 = true then ((delta_Paths.f k t256).bind fun t266 => ((copselaw06_texts.f k t266 (([(⟨#[97]⟩ : ByteArray), (⟨#[98]⟩ : ByteArray)] : List ByteArray))).bind fun t272 => (some t272))) else (some false))) else (some false))) else (some false))) else (some false)))))
theorem copselaw06_alive.mono : ∀ k, LeO (copselaw06_alive.f k ) (copselaw06_alive.f (k + 1) ) := by
 intro  k
 unfold copselaw06_alive.f
 repeat' first
   | (with_reducible exact copselaw06_files.mono _ _ _)
   | (with_reducible exact copselaw06_texts.mono _ _ _)
   | (with_reducible exact delta_Diff.mono _ _ _)
   | (with_reducible exact delta_Paths.mono _ _)
   | (with_reducible exact delta_Valid.mono _ _)
   | (with_reducible exact LeO.refl _)
   | (with_reducible exact LeO.none _)
   | (with_reducible refine LeO.ite ?_ ?_)
   | (with_reducible refine LeO.bind ?_ (fun _ => ?_))
   | exact copselaw06_files.mono _ _ _
   | exact copselaw06_texts.mono _ _ _
   | exact delta_Diff.mono _ _ _
   | exact delta_Paths.mono _ _
   | exact delta_Valid.mono _ _
   | exact LeO.none _
   | refine LeO.ite ?_ ?_
   | refine LeO.bind ?_ (fun _ => ?_)
set_option maxHeartbeats 8000000 in
set_option maxRecDepth 100000 in
theorem copselaw06_alive.calls (k : Nat)  (r : Bool) (w : World) (h : copselaw06_alive.f k  = some r) :
  Calls Tryd.prog 20 #[] w fun e w' => e = .returned (.bool r) ∧ Below w.heap.size w w' := by
 have hu55 := Tryd.underlying55
 have HB := Aside0.mk (Below.refl w.heap.size w)
 have H : ((some (([(⟨(⟨#[97]⟩ : ByteArray), (⟨#[]⟩ : ByteArray), 1, 1⟩ : S55), (⟨(⟨#[98]⟩ : ByteArray), (⟨#[]⟩ : ByteArray), 1, 1⟩ : S55)] : List (S55)) : List (S55))).bind fun y250 => ((some (([(⟨(⟨#[98]⟩ : ByteArray), (⟨#[]⟩ : ByteArray), 2, 1⟩ : S55)] : List (S55)) : List (S55))).bind fun y253 => ((delta_Diff.f k y250 y253).bind fun t256 => ((delta_Apply.f y250 t256).bind fun bt259 => (if (t256.length : Int) = 2 then ((delta_Valid.f k t256).bind fun t263 => (if t263 = true then ((copselaw06_num.f bt259.2).bind fun t264 => (if t264 = 0 then ((copselaw06_files.f k bt259.1 y253).bind fun t265 => (if t265 = true then ((delta_Paths.f k t256).bind fun t266 => ((copselaw06_texts.f k t266 (([(⟨#[97]⟩ : ByteArray), (⟨#[98]⟩ : ByteArray)] : List ByteArray))).bind fun t272 => (some t272))) else (some false))) else (some false))) else (some false))) else (some false)))))) = some r := h
 clear h
 obtain ⟨y250, hy250⟩ : ∃ y_ : List (S55), y_ = (([(⟨(⟨#[97]⟩ : ByteArray), (⟨#[]⟩ : ByteArray), 1, 1⟩ : S55), (⟨(⟨#[98]⟩ : ByteArray), (⟨#[]⟩ : ByteArray), 1, 1⟩ : S55)] : List (S55))) := ⟨_, rfl⟩
 replace H : ((some (([(⟨(⟨#[98]⟩ : ByteArray), (⟨#[]⟩ : ByteArray), 2, 1⟩ : S55)] : List (S55)) : List (S55))).bind fun y253 => ((delta_Diff.f k y250 y253).bind fun t256 => ((delta_Apply.f y250 t256).bind fun bt259 => (if (t256.length : Int) = 2 then ((delta_Valid.f k t256).bind fun t263 => (if t263 = true then ((copselaw06_num.f bt259.2).bind fun t264 => (if t264 = 0 then ((copselaw06_files.f k bt259.1 y253).bind fun t265 => (if t265 = true then ((delta_Paths.f k t256).bind fun t266 => ((copselaw06_texts.f k t266 (([(⟨#[97]⟩ : ByteArray), (⟨#[98]⟩ : ByteArray)] : List ByteArray))).bind fun t272 => (some t272))) else (some false))) else (some false))) else (some false))) else (some false))))) = some r := by first | (rw [hy250]; with_reducible exact H) | (have H2_ := (Option.bind_some _ _).symm.trans H; rw [hy250]; with_reducible exact H2_) | (have H2_ := (Option.bind_some _ _).symm.trans H; with_reducible exact H2_) | with_reducible exact H | (rw [hy250]; exact H) | exact H
 have Ny250 := Aside0.mk hy250
 clear hy250
 obtain ⟨y253, hy253⟩ : ∃ y_ : List (S55), y_ = (([(⟨(⟨#[98]⟩ : ByteArray), (⟨#[]⟩ : ByteArray), 2, 1⟩ : S55)] : List (S55))) := ⟨_, rfl⟩
 replace H : ((delta_Diff.f k y250 y253).bind fun t256 => ((delta_Apply.f y250 t256).bind fun bt259 => (if (t256.length : Int) = 2 then ((delta_Valid.f k t256).bind fun t263 => (if t263 = true then ((copselaw06_num.f bt259.2).bind fun t264 => (if t264 = 0 then ((copselaw06_files.f k bt259.1 y253).bind fun t265 => (if t265 = true then ((delta_Paths.f k t256).bind fun t266 => ((copselaw06_texts.f k t266 (([(⟨#[97]⟩ : ByteArray), (⟨#[98]⟩ : ByteArray)] : List ByteArray))).bind fun t272 => (some t272))) else (some false))) else (some false))) else (some false))) else (some false)))) = some r := by first | (rw [hy253]; with_reducible exact H) | (have H2_ := (Option.bind_some _ _).symm.trans H; rw [hy253]; with_reducible exact H2_) | (have H2_ := (Option.bind_some _ _).symm.trans H; with_reducible exact H2_) | with_reducible exact H | (rw [hy253]; exact H) | exact H
 have Ny253 := Aside0.mk hy253
 clear hy253
 replace H := Option.bind_eq_some_iff.mp H
 obtain ⟨t256, A10, H⟩ := H
 try dsimp only at H
 have A1 := Aside0.mk A10
 clear A10
 replace H := Option.bind_eq_some_iff.mp H
 obtain ⟨⟨t259, t260⟩, A20, H⟩ := H
 try dsimp only at H
 have A2 := Aside0.mk A20
 clear A20
 by_cases c3 : (t256.length : Int) = 2
 ·rw [if_pos c3] at H
  have c3b0 : ((t256.length : Int) == 2) = true := beq_iff_eq.mpr c3
  have c3b1 : ((t256.length : Int) != 2) = false := bne_eq_false_iff_eq.mpr c3
  clear c3
  replace H := Option.bind_eq_some_iff.mp H
  obtain ⟨t263, A40, H⟩ := H
  try dsimp only at H
  have A4 := Aside0.mk A40
  clear A40
  by_cases c5 : t263 = true
  ·subst c5
   rw [if_pos rfl] at H
   have H1 := H
   clear H
   have H := H1
   clear H1
   replace H := Option.bind_eq_some_iff.mp H
   obtain ⟨t264, A60, H⟩ := H
   try dsimp only at H
   have A6 := Aside0.mk A60
   clear A60
   by_cases c7 : t264 = 0
   ·rw [if_pos c7] at H
    have c7b0 : (t264 == 0) = true := beq_iff_eq.mpr c7
    have c7b1 : (t264 != 0) = false := bne_eq_false_iff_eq.mpr c7
    clear c7
    replace H := Option.bind_eq_some_iff.mp H
    obtain ⟨t265, A80, H⟩ := H
    try dsimp only at H
    have A8 := Aside0.mk A80
    clear A80
    by_cases c9 : t265 = true
    ·subst c9
     rw [if_pos rfl] at H
     have H1 := H
     clear H
     have H := H1
     clear H1
     replace H := Option.bind_eq_some_iff.mp H
     obtain ⟨t266, A100, H⟩ := H
     try dsimp only at H
     have A10 := Aside0.mk A100
     clear A100
     obtain ⟨y269, hy269⟩ : ∃ y_ : List ByteArray, y_ = (([(⟨#[97]⟩ : ByteArray), (⟨#[98]⟩ : ByteArray)] : List ByteArray)) := ⟨_, rfl⟩
     replace H : ((copselaw06_texts.f k t266 y269).bind fun t272 => (some t272)) = some r := by first | (rw [hy269]; with_reducible exact H) | (have H2_ := (Option.bind_some _ _).symm.trans H; rw [hy269]; with_reducible exact H2_) | (have H2_ := (Option.bind_some _ _).symm.trans H; with_reducible exact H2_) | with_reducible exact H | (rw [hy269]; exact H) | exact H
     have Ny269 := Aside0.mk hy269
     clear hy269
     replace H := Option.bind_eq_some_iff.mp H
     obtain ⟨t272, A110, H⟩ := H
     try dsimp only at H
     have A11 := Aside0.mk A110
     clear A110
     obtain rfl := Option.some.inj H
     go_enter Tryd.func20, Tryd.ntmps20
     go_wp2_with (first | ((with_reducible refine gate_dst (N := 8) rfl ?_); (try (refine gate_guard (by rfl) ?_; dsimp only)); refine Kd.R_lit k55 _ 55 ?hg (N := 8) ?hd (xs := ([(⟨(⟨#[97]⟩ : ByteArray), (⟨#[]⟩ : ByteArray), 1, 1⟩ : S55), (⟨(⟨#[98]⟩ : ByteArray), (⟨#[]⟩ : ByteArray), 1, 1⟩ : S55)] : List (S55))) (inner := [.string (⟨#[97]⟩ : ByteArray), .string (⟨#[]⟩ : ByteArray), .int .i64 1, .int .i64 1, .string (⟨#[98]⟩ : ByteArray), .string (⟨#[]⟩ : ByteArray), .int .i64 1, .int .i64 1]) (ok := fun _ => True) (okp := fun _ => True) ?hr ?hp (fun _ hk => hk) trivial (Below.refl _ _) (Nat.le_refl _) (by simp) ?_; (case hd => rfl); (case hg => rfl); (case hr => first | (go_simp; done) | (go_simp; rfl)); (case hp => exact (Reps.c4 (show Kd.M k55 _ _ _ (⟨(⟨#[97]⟩ : ByteArray), (⟨#[]⟩ : ByteArray), 1, 1⟩ : S55) [.string (⟨#[97]⟩ : ByteArray), .string (⟨#[]⟩ : ByteArray), .int .i64 1, .int .i64 1] from (k55_mkM _ _ _ (⟨(⟨#[97]⟩ : ByteArray), (⟨#[]⟩ : ByteArray), 1, 1⟩ : S55) )) (Reps.c4 (show Kd.M k55 _ _ _ (⟨(⟨#[98]⟩ : ByteArray), (⟨#[]⟩ : ByteArray), 1, 1⟩ : S55) [.string (⟨#[98]⟩ : ByteArray), .string (⟨#[]⟩ : ByteArray), .int .i64 1, .int .i64 1] from (k55_mkM _ _ _ (⟨(⟨#[98]⟩ : ByteArray), (⟨#[]⟩ : ByteArray), 1, 1⟩ : S55) )) (Reps.none _ _)))); intro v251 w12 ho13 hb hg_ hnew_; clear hg_ hnew_; (first | rw [← Ny250.out] at ho13 | (simp only [Int.reduceToNat] at ho13; rw [← Ny250.out] at ho13)); have n0_ := Aside0.mk (Kd.R_lower ho13 (below_size (by repeat (first | (with_reducible first | exact HB.out | apply below_alloc | apply pw_below_drewN | apply below_drew1) | exact HB.out)))); have n1_ := Aside0.mk (below_step (by repeat (first | (with_reducible first | exact HB.out | apply below_alloc | apply pw_below_drewN | apply below_drew1) | exact HB.out)) hb); clear HB; have HO252 := n0_; have HB := n1_; clear n0_ n1_; clear hb ho13) | ((with_reducible refine gate_dst (N := 10) rfl ?_); (try (refine gate_guard (by rfl) ?_; dsimp only)); refine Kd.R_lit k55 _ 55 ?hg (N := 10) ?hd (xs := ([(⟨(⟨#[98]⟩ : ByteArray), (⟨#[]⟩ : ByteArray), 2, 1⟩ : S55)] : List (S55))) (inner := [.string (⟨#[98]⟩ : ByteArray), .string (⟨#[]⟩ : ByteArray), .int .i64 2, .int .i64 1]) (ok := fun _ => True) (okp := fun _ => True) ?hr ?hp (fun _ hk => hk) trivial (Below.refl _ _) (Nat.le_refl _) (by simp) ?_; (case hd => rfl); (case hg => rfl); (case hr => first | (go_simp; done) | (go_simp; rfl)); (case hp => exact (Reps.c4 (show Kd.M k55 _ _ _ (⟨(⟨#[98]⟩ : ByteArray), (⟨#[]⟩ : ByteArray), 2, 1⟩ : S55) [.string (⟨#[98]⟩ : ByteArray), .string (⟨#[]⟩ : ByteArray), .int .i64 2, .int .i64 1] from (k55_mkM _ _ _ (⟨(⟨#[98]⟩ : ByteArray), (⟨#[]⟩ : ByteArray), 2, 1⟩ : S55) )) (Reps.none _ _))); intro v254 w14 ho15 hb hg_ hnew_; clear hg_ hnew_; (first | rw [← Ny253.out] at ho15 | (simp only [Int.reduceToNat] at ho15; rw [← Ny253.out] at ho15)); have n0_ := Aside0.mk (Kd.R_elder' (by (with_reducible repeat (first | apply Kd.R_alloc | apply Kd.R_drewN | apply Kd.R_drew)); exact HO252.out) (Kd.R_base ho15) hb); have n1_ := Aside0.mk (Kd.R_lower (Kd.R_new' ho15 (Kd.R_lt (by (with_reducible repeat (first | apply Kd.R_alloc | apply Kd.R_drewN | apply Kd.R_drew)); exact HO252.out))) (below_size (by repeat (first | (with_reducible first | exact HB.out | apply below_alloc | apply pw_below_drewN | apply below_drew1) | exact HB.out)))); have n2_ := Aside0.mk (below_step (by repeat (first | (with_reducible first | exact HB.out | apply below_alloc | apply pw_below_drewN | apply below_drew1) | exact HB.out)) hb); clear HO252; clear HB; have HO252 := n0_; have HO255 := n1_; have HB := n2_; clear n0_ n1_ n2_; clear hb ho15; obtain ⟨Ao16, co16, eo16⟩ := Kd.R_slice HO252.out; subst eo16; obtain ⟨Ao17, co17, eo17⟩ := Kd.R_slice HO255.out; subst eo17) | ((with_reducible refine gate_callee (f := 23) rfl ?_); refine goesL_ (some 13) rfl rfl Tryd.func23 (by kernel_rfl) rfl #[.slice Ao16 y250.length co16, .slice Ao17 y253.length co17] rfl (by (try simp only [List.map_toArray, List.map_cons, List.map_nil]); first | done | rfl | (simp only [List.length_drop, List.length_take]; rfl)) ?_; (with_reducible refine (delta_Diff.calls k _ _ y250 _ _ y253 t256 _ ?side1 ?side2 ?side3 ?side4 A1.out).mono ?_); (case side1 => repeat (first | exact (Kd.R_reads' HO252.out).2.2 | (with_reducible refine Kd.C_alloc ?_ _) | (with_reducible refine Kd.C_drewN ?_ _) | (with_reducible refine Kd.C_drew ?_))); (case side2 => exact (Kd.R_reads' HO252.out).2.1); (case side3 => repeat (first | exact (Kd.R_reads' HO255.out).2.2 | (with_reducible refine Kd.C_alloc ?_ _) | (with_reducible refine Kd.C_drewN ?_ _) | (with_reducible refine Kd.C_drew ?_))); (case side4 => exact (Kd.R_reads' HO255.out).2.1); rintro e w18 ⟨v257, rfl, ho0, hb⟩; refine ⟨_, rfl, ?_⟩; have n0_ := Aside0.mk (Kd.R_below (by (with_reducible repeat (first | apply Kd.R_alloc | apply Kd.R_drewN | apply Kd.R_drew)); exact HO252.out) hb); have n1_ := Aside0.mk (Kd.R_below (by (with_reducible repeat (first | apply Kd.R_alloc | apply Kd.R_drewN | apply Kd.R_drew)); exact HO255.out) hb); have n2_ := Aside0.mk (Kd.R_lower ho0 (below_size (by repeat (first | (with_reducible first | exact HB.out | apply below_alloc | apply pw_below_drewN | apply below_drew1) | exact HB.out)))); have n3_ := Aside0.mk (below_step (by repeat (first | (with_reducible first | exact HB.out | apply below_alloc | apply pw_below_drewN | apply below_drew1) | exact HB.out)) hb); clear HO252; clear HO255; clear HB; have HO252 := n0_; have HO255 := n1_; have HO258 := n2_; have HB := n3_; clear n0_ n1_ n2_ n3_; (try clear hb); (try clear hb2); (try clear hk); (try clear hi); (try clear ho0); obtain ⟨Ao19, co19, eo19⟩ := Kd.R_slice HO258.out; subst eo19) | ((with_reducible refine gate_callee (f := 24) rfl ?_); refine goesL_ (some 17) rfl rfl Tryd.func24 (by kernel_rfl) rfl #[.slice Ao16 y250.length co16, .slice Ao19 t256.length co19] rfl (by (try simp only [List.map_toArray, List.map_cons, List.map_nil]); first | done | rfl | (simp only [List.length_drop, List.length_take]; rfl)) ?_; (with_reducible refine (delta_Apply.calls _ _ y250 _ _ t256 t259 t260 _ ?side1 ?side2 ?side3 ?side4 A2.out).mono ?_); (case side1 => repeat (first | exact (Kd.R_reads' HO252.out).2.2 | (with_reducible refine Kd.C_alloc ?_ _) | (with_reducible refine Kd.C_drewN ?_ _) | (with_reducible refine Kd.C_drew ?_))); (case side2 => exact (Kd.R_reads' HO252.out).2.1); (case side3 => repeat (first | exact (Kd.R_reads' HO258.out).2.2 | (with_reducible refine Kd.C_alloc ?_ _) | (with_reducible refine Kd.C_drewN ?_ _) | (with_reducible refine Kd.C_drew ?_))); (case side4 => exact (Kd.R_reads' HO258.out).2.1); rintro e w20 ⟨v261, rfl, ho0, hb⟩; refine ⟨_, rfl, ?_⟩; have n0_ := Aside0.mk (Kd.R_elder' (by (with_reducible repeat (first | apply Kd.R_alloc | apply Kd.R_drewN | apply Kd.R_drew)); exact HO252.out) (Kd.R_base ho0) hb); have n1_ := Aside0.mk (Kd.R_elder' (by (with_reducible repeat (first | apply Kd.R_alloc | apply Kd.R_drewN | apply Kd.R_drew)); exact HO255.out) (Kd.R_base ho0) hb); have n2_ := Aside0.mk (Kd.R_below (by (with_reducible repeat (first | apply Kd.R_alloc | apply Kd.R_drewN | apply Kd.R_drew)); exact HO258.out) hb); have n3_ := Aside0.mk (Kd.R_lower (Kd.R_new' (Kd.R_new' ho0 (Kd.R_lt (by (with_reducible repeat (first | apply Kd.R_alloc | apply Kd.R_drewN | apply Kd.R_drew)); exact HO252.out))) (Kd.R_lt (by (with_reducible repeat (first | apply Kd.R_alloc | apply Kd.R_drewN | apply Kd.R_drew)); exact HO255.out))) (below_size (by repeat (first | (with_reducible first | exact HB.out | apply below_alloc | apply pw_below_drewN | apply below_drew1) | exact HB.out)))); have n4_ := Aside0.mk (below_step (by repeat (first | (with_reducible first | exact HB.out | apply below_alloc | apply pw_below_drewN | apply below_drew1) | exact HB.out)) hb); clear HO252; clear HO255; clear HO258; clear HB; have HO252 := n0_; have HO255 := n1_; have HO258 := n2_; have HO262 := n3_; have HB := n4_; clear n0_ n1_ n2_ n3_ n4_; (try clear hb); (try clear hb2); (try clear hk); (try clear hi); (try clear ho0)) | (go_at_call 27; (with_reducible refine (delta_Valid.calls k _ _ t256 true _ ?side1 ?side2 A4.out).mono ?_); (case side1 => repeat (first | exact (Kd.R_reads' HO258.out).2.2 | (with_reducible refine Kd.C_alloc ?_ _) | (with_reducible refine Kd.C_drewN ?_ _) | (with_reducible refine Kd.C_drew ?_))); (case side2 => exact (Kd.R_reads' HO258.out).2.1); rintro e w21 ⟨rfl, hb⟩; have n0_ := Aside0.mk (Kd.R_below (by (with_reducible repeat (first | apply Kd.R_alloc | apply Kd.R_drewN | apply Kd.R_drew)); exact HO252.out) hb); have n1_ := Aside0.mk (Kd.R_below (by (with_reducible repeat (first | apply Kd.R_alloc | apply Kd.R_drewN | apply Kd.R_drew)); exact HO255.out) hb); have n2_ := Aside0.mk (Kd.R_below (by (with_reducible repeat (first | apply Kd.R_alloc | apply Kd.R_drewN | apply Kd.R_drew)); exact HO258.out) hb); have n3_ := Aside0.mk (Kd.R_below (by (with_reducible repeat (first | apply Kd.R_alloc | apply Kd.R_drewN | apply Kd.R_drew)); exact HO262.out) hb); have n4_ := Aside0.mk (below_step (by repeat (first | (with_reducible first | exact HB.out | apply below_alloc | apply pw_below_drewN | apply below_drew1) | exact HB.out)) hb); clear HO252; clear HO255; clear HO258; clear HO262; clear HB; have HO252 := n0_; have HO255 := n1_; have HO258 := n2_; have HO262 := n3_; have HB := n4_; clear n0_ n1_ n2_ n3_ n4_; (try clear hb); (try clear hb2); (try clear hk); (try clear hi)) | (go_at_call 21; (with_reducible refine (copselaw06_num.calls t260 t264 _ A6.out).mono ?_); rintro e w' ⟨rfl, ⟨nd, rfl⟩⟩; obtain ⟨Ao22, co22, eo22⟩ := Kd.R_slice HO262.out; subst eo22) | (go_at_call 28; (with_reducible refine (copselaw06_files.calls k _ _ t259 _ _ y253 true _ ?side1 ?side2 ?side3 ?side4 A8.out).mono ?_); (case side1 => repeat (first | exact (Kd.R_reads' HO262.out).2.2 | (with_reducible refine Kd.C_alloc ?_ _) | (with_reducible refine Kd.C_drewN ?_ _) | (with_reducible refine Kd.C_drew ?_))); (case side2 => exact (Kd.R_reads' HO262.out).2.1); (case side3 => repeat (first | exact (Kd.R_reads' HO255.out).2.2 | (with_reducible refine Kd.C_alloc ?_ _) | (with_reducible refine Kd.C_drewN ?_ _) | (with_reducible refine Kd.C_drew ?_))); (case side4 => exact (Kd.R_reads' HO255.out).2.1); rintro e w' ⟨rfl, ⟨nd, rfl⟩⟩) | (go_at_call 30; (with_reducible refine (delta_Paths.calls k _ _ t256 t266 _ ?side1 ?side2 A10.out).mono ?_); (case side1 => repeat (first | exact (Kd.R_reads' HO258.out).2.2 | (with_reducible refine Kd.C_alloc ?_ _) | (with_reducible refine Kd.C_drewN ?_ _) | (with_reducible refine Kd.C_drew ?_))); (case side2 => exact (Kd.R_reads' HO258.out).2.1); rintro e w23 ⟨v267, rfl, ho0, hb⟩; have n0_ := Aside0.mk (Kd.R_below (by (with_reducible repeat (first | apply Kd.R_alloc | apply Kd.R_drewN | apply Kd.R_drew)); exact HO252.out) hb); have n1_ := Aside0.mk (Kd.R_below (by (with_reducible repeat (first | apply Kd.R_alloc | apply Kd.R_drewN | apply Kd.R_drew)); exact HO255.out) hb); have n2_ := Aside0.mk (Kd.R_below (by (with_reducible repeat (first | apply Kd.R_alloc | apply Kd.R_drewN | apply Kd.R_drew)); exact HO258.out) hb); have n3_ := Aside0.mk (Kd.R_below (by (with_reducible repeat (first | apply Kd.R_alloc | apply Kd.R_drewN | apply Kd.R_drew)); exact HO262.out) hb); have n4_ := Aside0.mk (Kd.R_lower ho0 (below_size (by repeat (first | (with_reducible first | exact HB.out | apply below_alloc | apply pw_below_drewN | apply below_drew1) | exact HB.out)))); have n5_ := Aside0.mk (below_step (by repeat (first | (with_reducible first | exact HB.out | apply below_alloc | apply pw_below_drewN | apply below_drew1) | exact HB.out)) hb); clear HO252; clear HO255; clear HO258; clear HO262; clear HB; have HO252 := n0_; have HO255 := n1_; have HO258 := n2_; have HO262 := n3_; have HO268 := n4_; have HB := n5_; clear n0_ n1_ n2_ n3_ n4_ n5_; (try clear hb); (try clear hb2); (try clear hk); (try clear hi); (try clear ho0)) | ((with_reducible refine gate_dst (N := 40) rfl ?_); (try (refine gate_guard (by rfl) ?_; dsimp only)); refine Kd.R_lit Kd.string _ 9 ?hg (N := 40) ?hd (xs := ([(⟨#[97]⟩ : ByteArray), (⟨#[98]⟩ : ByteArray)] : List ByteArray)) (inner := [.string (⟨#[97]⟩ : ByteArray), .string (⟨#[98]⟩ : ByteArray)]) (ok := fun _ => True) (okp := fun _ => True) ?hr ?hp (fun _ hk => hk) trivial (Below.refl _ _) (Nat.le_refl _) (by simp) ?_; (case hd => rfl); (case hg => rfl); (case hr => first | (go_simp; done) | (go_simp; rfl)); (case hp => exact (Reps.one (show Kd.M Kd.string _ _ _ (⟨#[97]⟩ : ByteArray) [.string (⟨#[97]⟩ : ByteArray)] from rfl) (Reps.one (show Kd.M Kd.string _ _ _ (⟨#[98]⟩ : ByteArray) [.string (⟨#[98]⟩ : ByteArray)] from rfl) (Reps.none _ _)))); intro v270 w24 ho25 hb hg_ hnew_; clear hg_ hnew_; (first | rw [← Ny269.out] at ho25 | (simp only [Int.reduceToNat] at ho25; rw [← Ny269.out] at ho25)); have n0_ := Aside0.mk (Kd.R_below (by (with_reducible repeat (first | apply Kd.R_alloc | apply Kd.R_drewN | apply Kd.R_drew)); exact HO252.out) hb); have n1_ := Aside0.mk (Kd.R_below (by (with_reducible repeat (first | apply Kd.R_alloc | apply Kd.R_drewN | apply Kd.R_drew)); exact HO255.out) hb); have n2_ := Aside0.mk (Kd.R_below (by (with_reducible repeat (first | apply Kd.R_alloc | apply Kd.R_drewN | apply Kd.R_drew)); exact HO258.out) hb); have n3_ := Aside0.mk (Kd.R_below (by (with_reducible repeat (first | apply Kd.R_alloc | apply Kd.R_drewN | apply Kd.R_drew)); exact HO262.out) hb); have n4_ := Aside0.mk (Kd.R_elder' (by (with_reducible repeat (first | apply Kd.R_alloc | apply Kd.R_drewN | apply Kd.R_drew)); exact HO268.out) (Kd.R_base ho25) hb); have n5_ := Aside0.mk (Kd.R_lower (Kd.R_new' ho25 (Kd.R_lt (by (with_reducible repeat (first | apply Kd.R_alloc | apply Kd.R_drewN | apply Kd.R_drew)); exact HO268.out))) (below_size (by repeat (first | (with_reducible first | exact HB.out | apply below_alloc | apply pw_below_drewN | apply below_drew1) | exact HB.out)))); have n6_ := Aside0.mk (below_step (by repeat (first | (with_reducible first | exact HB.out | apply below_alloc | apply pw_below_drewN | apply below_drew1) | exact HB.out)) hb); clear HO252; clear HO255; clear HO258; clear HO262; clear HO268; clear HB; have HO252 := n0_; have HO255 := n1_; have HO258 := n2_; have HO262 := n3_; have HO268 := n4_; have HO271 := n5_; have HB := n6_; clear n0_ n1_ n2_ n3_ n4_ n5_ n6_; clear hb ho25; obtain ⟨Ao26, co26, eo26⟩ := Kd.R_slice HO268.out; subst eo26; obtain ⟨Ao27, co27, eo27⟩ := Kd.R_slice HO271.out; subst eo27) | (go_at_call 33; (with_reducible refine (copselaw06_texts.calls k _ _ t266 _ _ y269 t272 _ ?side1 ?side2 ?side3 ?side4 A11.out).mono ?_); (case side1 => repeat (first | exact (Kd.R_reads' HO268.out).2.2 | (with_reducible refine Kd.C_alloc ?_ _) | (with_reducible refine Kd.C_drewN ?_ _) | (with_reducible refine Kd.C_drew ?_))); (case side2 => exact (Kd.R_reads' HO268.out).2.1); (case side3 => repeat (first | exact (Kd.R_reads' HO271.out).2.2 | (with_reducible refine Kd.C_alloc ?_ _) | (with_reducible refine Kd.C_drewN ?_ _) | (with_reducible refine Kd.C_drew ?_))); (case side4 => exact (Kd.R_reads' HO271.out).2.1); rintro e w' ⟨rfl, ⟨nd, rfl⟩⟩))
     go_ret
     exact ⟨by first | rfl | (simp [errW_none, errW_some] <;> rfl) | (simp [*, errW_none, errW_some] <;> rfl), by repeat (first | (with_reducible first | exact HB.out | apply below_alloc | apply pw_below_drewN | apply below_drew1) | exact HB.out)⟩
    ·replace c9 := Bool.eq_false_iff.mpr c9
     subst c9
     have H1 : (some false) = some r := by rw [if_neg (show ¬ (false = true) by decide)] at H; exact H
     clear H
     have H := H1
     clear H1
     obtain rfl := Option.some.inj H
     go_enter Tryd.func20, Tryd.ntmps20
     go_wp2_with (first | ((with_reducible refine gate_dst (N := 8) rfl ?_); (try (refine gate_guard (by rfl) ?_; dsimp only)); refine Kd.R_lit k55 _ 55 ?hg (N := 8) ?hd (xs := ([(⟨(⟨#[97]⟩ : ByteArray), (⟨#[]⟩ : ByteArray), 1, 1⟩ : S55), (⟨(⟨#[98]⟩ : ByteArray), (⟨#[]⟩ : ByteArray), 1, 1⟩ : S55)] : List (S55))) (inner := [.string (⟨#[97]⟩ : ByteArray), .string (⟨#[]⟩ : ByteArray), .int .i64 1, .int .i64 1, .string (⟨#[98]⟩ : ByteArray), .string (⟨#[]⟩ : ByteArray), .int .i64 1, .int .i64 1]) (ok := fun _ => True) (okp := fun _ => True) ?hr ?hp (fun _ hk => hk) trivial (Below.refl _ _) (Nat.le_refl _) (by simp) ?_; (case hd => rfl); (case hg => rfl); (case hr => first | (go_simp; done) | (go_simp; rfl)); (case hp => exact (Reps.c4 (show Kd.M k55 _ _ _ (⟨(⟨#[97]⟩ : ByteArray), (⟨#[]⟩ : ByteArray), 1, 1⟩ : S55) [.string (⟨#[97]⟩ : ByteArray), .string (⟨#[]⟩ : ByteArray), .int .i64 1, .int .i64 1] from (k55_mkM _ _ _ (⟨(⟨#[97]⟩ : ByteArray), (⟨#[]⟩ : ByteArray), 1, 1⟩ : S55) )) (Reps.c4 (show Kd.M k55 _ _ _ (⟨(⟨#[98]⟩ : ByteArray), (⟨#[]⟩ : ByteArray), 1, 1⟩ : S55) [.string (⟨#[98]⟩ : ByteArray), .string (⟨#[]⟩ : ByteArray), .int .i64 1, .int .i64 1] from (k55_mkM _ _ _ (⟨(⟨#[98]⟩ : ByteArray), (⟨#[]⟩ : ByteArray), 1, 1⟩ : S55) )) (Reps.none _ _)))); intro v251 w28 ho29 hb hg_ hnew_; clear hg_ hnew_; (first | rw [← Ny250.out] at ho29 | (simp only [Int.reduceToNat] at ho29; rw [← Ny250.out] at ho29)); have n0_ := Aside0.mk (Kd.R_lower ho29 (below_size (by repeat (first | (with_reducible first | exact HB.out | apply below_alloc | apply pw_below_drewN | apply below_drew1) | exact HB.out)))); have n1_ := Aside0.mk (below_step (by repeat (first | (with_reducible first | exact HB.out | apply below_alloc | apply pw_below_drewN | apply below_drew1) | exact HB.out)) hb); clear HB; have HO252 := n0_; have HB := n1_; clear n0_ n1_; clear hb ho29) | ((with_reducible refine gate_dst (N := 10) rfl ?_); (try (refine gate_guard (by rfl) ?_; dsimp only)); refine Kd.R_lit k55 _ 55 ?hg (N := 10) ?hd (xs := ([(⟨(⟨#[98]⟩ : ByteArray), (⟨#[]⟩ : ByteArray), 2, 1⟩ : S55)] : List (S55))) (inner := [.string (⟨#[98]⟩ : ByteArray), .string (⟨#[]⟩ : ByteArray), .int .i64 2, .int .i64 1]) (ok := fun _ => True) (okp := fun _ => True) ?hr ?hp (fun _ hk => hk) trivial (Below.refl _ _) (Nat.le_refl _) (by simp) ?_; (case hd => rfl); (case hg => rfl); (case hr => first | (go_simp; done) | (go_simp; rfl)); (case hp => exact (Reps.c4 (show Kd.M k55 _ _ _ (⟨(⟨#[98]⟩ : ByteArray), (⟨#[]⟩ : ByteArray), 2, 1⟩ : S55) [.string (⟨#[98]⟩ : ByteArray), .string (⟨#[]⟩ : ByteArray), .int .i64 2, .int .i64 1] from (k55_mkM _ _ _ (⟨(⟨#[98]⟩ : ByteArray), (⟨#[]⟩ : ByteArray), 2, 1⟩ : S55) )) (Reps.none _ _))); intro v254 w30 ho31 hb hg_ hnew_; clear hg_ hnew_; (first | rw [← Ny253.out] at ho31 | (simp only [Int.reduceToNat] at ho31; rw [← Ny253.out] at ho31)); have n0_ := Aside0.mk (Kd.R_elder' (by (with_reducible repeat (first | apply Kd.R_alloc | apply Kd.R_drewN | apply Kd.R_drew)); exact HO252.out) (Kd.R_base ho31) hb); have n1_ := Aside0.mk (Kd.R_lower (Kd.R_new' ho31 (Kd.R_lt (by (with_reducible repeat (first | apply Kd.R_alloc | apply Kd.R_drewN | apply Kd.R_drew)); exact HO252.out))) (below_size (by repeat (first | (with_reducible first | exact HB.out | apply below_alloc | apply pw_below_drewN | apply below_drew1) | exact HB.out)))); have n2_ := Aside0.mk (below_step (by repeat (first | (with_reducible first | exact HB.out | apply below_alloc | apply pw_below_drewN | apply below_drew1) | exact HB.out)) hb); clear HO252; clear HB; have HO252 := n0_; have HO255 := n1_; have HB := n2_; clear n0_ n1_ n2_; clear hb ho31; obtain ⟨Ao32, co32, eo32⟩ := Kd.R_slice HO252.out; subst eo32; obtain ⟨Ao33, co33, eo33⟩ := Kd.R_slice HO255.out; subst eo33) | ((with_reducible refine gate_callee (f := 23) rfl ?_); refine goesL_ (some 13) rfl rfl Tryd.func23 (by kernel_rfl) rfl #[.slice Ao32 y250.length co32, .slice Ao33 y253.length co33] rfl (by (try simp only [List.map_toArray, List.map_cons, List.map_nil]); first | done | rfl | (simp only [List.length_drop, List.length_take]; rfl)) ?_; (with_reducible refine (delta_Diff.calls k _ _ y250 _ _ y253 t256 _ ?side1 ?side2 ?side3 ?side4 A1.out).mono ?_); (case side1 => repeat (first | exact (Kd.R_reads' HO252.out).2.2 | (with_reducible refine Kd.C_alloc ?_ _) | (with_reducible refine Kd.C_drewN ?_ _) | (with_reducible refine Kd.C_drew ?_))); (case side2 => exact (Kd.R_reads' HO252.out).2.1); (case side3 => repeat (first | exact (Kd.R_reads' HO255.out).2.2 | (with_reducible refine Kd.C_alloc ?_ _) | (with_reducible refine Kd.C_drewN ?_ _) | (with_reducible refine Kd.C_drew ?_))); (case side4 => exact (Kd.R_reads' HO255.out).2.1); rintro e w34 ⟨v257, rfl, ho0, hb⟩; refine ⟨_, rfl, ?_⟩; have n0_ := Aside0.mk (Kd.R_below (by (with_reducible repeat (first | apply Kd.R_alloc | apply Kd.R_drewN | apply Kd.R_drew)); exact HO252.out) hb); have n1_ := Aside0.mk (Kd.R_below (by (with_reducible repeat (first | apply Kd.R_alloc | apply Kd.R_drewN | apply Kd.R_drew)); exact HO255.out) hb); have n2_ := Aside0.mk (Kd.R_lower ho0 (below_size (by repeat (first | (with_reducible first | exact HB.out | apply below_alloc | apply pw_below_drewN | apply below_drew1) | exact HB.out)))); have n3_ := Aside0.mk (below_step (by repeat (first | (with_reducible first | exact HB.out | apply below_alloc | apply pw_below_drewN | apply below_drew1) | exact HB.out)) hb); clear HO252; clear HO255; clear HB; have HO252 := n0_; have HO255 := n1_; have HO258 := n2_; have HB := n3_; clear n0_ n1_ n2_ n3_; (try clear hb); (try clear hb2); (try clear hk); (try clear hi); (try clear ho0); obtain ⟨Ao35, co35, eo35⟩ := Kd.R_slice HO258.out; subst eo35) | ((with_reducible refine gate_callee (f := 24) rfl ?_); refine goesL_ (some 17) rfl rfl Tryd.func24 (by kernel_rfl) rfl #[.slice Ao32 y250.length co32, .slice Ao35 t256.length co35] rfl (by (try simp only [List.map_toArray, List.map_cons, List.map_nil]); first | done | rfl | (simp only [List.length_drop, List.length_take]; rfl)) ?_; (with_reducible refine (delta_Apply.calls _ _ y250 _ _ t256 t259 t260 _ ?side1 ?side2 ?side3 ?side4 A2.out).mono ?_); (case side1 => repeat (first | exact (Kd.R_reads' HO252.out).2.2 | (with_reducible refine Kd.C_alloc ?_ _) | (with_reducible refine Kd.C_drewN ?_ _) | (with_reducible refine Kd.C_drew ?_))); (case side2 => exact (Kd.R_reads' HO252.out).2.1); (case side3 => repeat (first | exact (Kd.R_reads' HO258.out).2.2 | (with_reducible refine Kd.C_alloc ?_ _) | (with_reducible refine Kd.C_drewN ?_ _) | (with_reducible refine Kd.C_drew ?_))); (case side4 => exact (Kd.R_reads' HO258.out).2.1); rintro e w36 ⟨v261, rfl, ho0, hb⟩; refine ⟨_, rfl, ?_⟩; have n0_ := Aside0.mk (Kd.R_elder' (by (with_reducible repeat (first | apply Kd.R_alloc | apply Kd.R_drewN | apply Kd.R_drew)); exact HO252.out) (Kd.R_base ho0) hb); have n1_ := Aside0.mk (Kd.R_elder' (by (with_reducible repeat (first | apply Kd.R_alloc | apply Kd.R_drewN | apply Kd.R_drew)); exact HO255.out) (Kd.R_base ho0) hb); have n2_ := Aside0.mk (Kd.R_below (by (with_reducible repeat (first | apply Kd.R_alloc | apply Kd.R_drewN | apply Kd.R_drew)); exact HO258.out) hb); have n3_ := Aside0.mk (Kd.R_lower (Kd.R_new' (Kd.R_new' ho0 (Kd.R_lt (by (with_reducible repeat (first | apply Kd.R_alloc | apply Kd.R_drewN | apply Kd.R_drew)); exact HO252.out))) (Kd.R_lt (by (with_reducible repeat (first | apply Kd.R_alloc | apply Kd.R_drewN | apply Kd.R_drew)); exact HO255.out))) (below_size (by repeat (first | (with_reducible first | exact HB.out | apply below_alloc | apply pw_below_drewN | apply below_drew1) | exact HB.out)))); have n4_ := Aside0.mk (below_step (by repeat (first | (with_reducible first | exact HB.out | apply below_alloc | apply pw_below_drewN | apply below_drew1) | exact HB.out)) hb); clear HO252; clear HO255; clear HO258; clear HB; have HO252 := n0_; have HO255 := n1_; have HO258 := n2_; have HO262 := n3_; have HB := n4_; clear n0_ n1_ n2_ n3_ n4_; (try clear hb); (try clear hb2); (try clear hk); (try clear hi); (try clear ho0)) | (go_at_call 27; (with_reducible refine (delta_Valid.calls k _ _ t256 true _ ?side1 ?side2 A4.out).mono ?_); (case side1 => repeat (first | exact (Kd.R_reads' HO258.out).2.2 | (with_reducible refine Kd.C_alloc ?_ _) | (with_reducible refine Kd.C_drewN ?_ _) | (with_reducible refine Kd.C_drew ?_))); (case side2 => exact (Kd.R_reads' HO258.out).2.1); rintro e w37 ⟨rfl, hb⟩; have n0_ := Aside0.mk (Kd.R_below (by (with_reducible repeat (first | apply Kd.R_alloc | apply Kd.R_drewN | apply Kd.R_drew)); exact HO252.out) hb); have n1_ := Aside0.mk (Kd.R_below (by (with_reducible repeat (first | apply Kd.R_alloc | apply Kd.R_drewN | apply Kd.R_drew)); exact HO255.out) hb); have n2_ := Aside0.mk (Kd.R_below (by (with_reducible repeat (first | apply Kd.R_alloc | apply Kd.R_drewN | apply Kd.R_drew)); exact HO258.out) hb); have n3_ := Aside0.mk (Kd.R_below (by (with_reducible repeat (first | apply Kd.R_alloc | apply Kd.R_drewN | apply Kd.R_drew)); exact HO262.out) hb); have n4_ := Aside0.mk (below_step (by repeat (first | (with_reducible first | exact HB.out | apply below_alloc | apply pw_below_drewN | apply below_drew1) | exact HB.out)) hb); clear HO252; clear HO255; clear HO258; clear HO262; clear HB; have HO252 := n0_; have HO255 := n1_; have HO258 := n2_; have HO262 := n3_; have HB := n4_; clear n0_ n1_ n2_ n3_ n4_; (try clear hb); (try clear hb2); (try clear hk); (try clear hi)) | (go_at_call 21; (with_reducible refine (copselaw06_num.calls t260 t264 _ A6.out).mono ?_); rintro e w' ⟨rfl, ⟨nd, rfl⟩⟩; obtain ⟨Ao38, co38, eo38⟩ := Kd.R_slice HO262.out; subst eo38) | (go_at_call 28; (with_reducible refine (copselaw06_files.calls k _ _ t259 _ _ y253 false _ ?side1 ?side2 ?side3 ?side4 A8.out).mono ?_); (case side1 => repeat (first | exact (Kd.R_reads' HO262.out).2.2 | (with_reducible refine Kd.C_alloc ?_ _) | (with_reducible refine Kd.C_drewN ?_ _) | (with_reducible refine Kd.C_drew ?_))); (case side2 => exact (Kd.R_reads' HO262.out).2.1); (case side3 => repeat (first | exact (Kd.R_reads' HO255.out).2.2 | (with_reducible refine Kd.C_alloc ?_ _) | (with_reducible refine Kd.C_drewN ?_ _) | (with_reducible refine Kd.C_drew ?_))); (case side4 => exact (Kd.R_reads' HO255.out).2.1); rintro e w' ⟨rfl, ⟨nd, rfl⟩⟩))
     go_ret
     exact ⟨by first | rfl | (simp [errW_none, errW_some] <;> rfl) | (simp [*, errW_none, errW_some] <;> rfl), by repeat (first | (with_reducible first | exact HB.out | apply below_alloc | apply pw_below_drewN | apply below_drew1) | exact HB.out)⟩
   ·rw [if_neg c7] at H
    have c7b0 : (t264 == 0) = false := beq_eq_false_iff_ne.mpr c7
    have c7b1 : (t264 != 0) = true := bne_iff_ne.mpr c7
    obtain rfl := Option.some.inj H
    go_enter Tryd.func20, Tryd.ntmps20
    go_wp2_with (first | ((with_reducible refine gate_dst (N := 8) rfl ?_); (try (refine gate_guard (by rfl) ?_; dsimp only)); refine Kd.R_lit k55 _ 55 ?hg (N := 8) ?hd (xs := ([(⟨(⟨#[97]⟩ : ByteArray), (⟨#[]⟩ : ByteArray), 1, 1⟩ : S55), (⟨(⟨#[98]⟩ : ByteArray), (⟨#[]⟩ : ByteArray), 1, 1⟩ : S55)] : List (S55))) (inner := [.string (⟨#[97]⟩ : ByteArray), .string (⟨#[]⟩ : ByteArray), .int .i64 1, .int .i64 1, .string (⟨#[98]⟩ : ByteArray), .string (⟨#[]⟩ : ByteArray), .int .i64 1, .int .i64 1]) (ok := fun _ => True) (okp := fun _ => True) ?hr ?hp (fun _ hk => hk) trivial (Below.refl _ _) (Nat.le_refl _) (by simp) ?_; (case hd => rfl); (case hg => rfl); (case hr => first | (go_simp; done) | (go_simp; rfl)); (case hp => exact (Reps.c4 (show Kd.M k55 _ _ _ (⟨(⟨#[97]⟩ : ByteArray), (⟨#[]⟩ : ByteArray), 1, 1⟩ : S55) [.string (⟨#[97]⟩ : ByteArray), .string (⟨#[]⟩ : ByteArray), .int .i64 1, .int .i64 1] from (k55_mkM _ _ _ (⟨(⟨#[97]⟩ : ByteArray), (⟨#[]⟩ : ByteArray), 1, 1⟩ : S55) )) (Reps.c4 (show Kd.M k55 _ _ _ (⟨(⟨#[98]⟩ : ByteArray), (⟨#[]⟩ : ByteArray), 1, 1⟩ : S55) [.string (⟨#[98]⟩ : ByteArray), .string (⟨#[]⟩ : ByteArray), .int .i64 1, .int .i64 1] from (k55_mkM _ _ _ (⟨(⟨#[98]⟩ : ByteArray), (⟨#[]⟩ : ByteArray), 1, 1⟩ : S55) )) (Reps.none _ _)))); intro v251 w39 ho40 hb hg_ hnew_; clear hg_ hnew_; (first | rw [← Ny250.out] at ho40 | (simp only [Int.reduceToNat] at ho40; rw [← Ny250.out] at ho40)); have n0_ := Aside0.mk (Kd.R_lower ho40 (below_size (by repeat (first | (with_reducible first | exact HB.out | apply below_alloc | apply pw_below_drewN | apply below_drew1) | exact HB.out)))); have n1_ := Aside0.mk (below_step (by repeat (first | (with_reducible first | exact HB.out | apply below_alloc | apply pw_below_drewN | apply below_drew1) | exact HB.out)) hb); clear HB; have HO252 := n0_; have HB := n1_; clear n0_ n1_; clear hb ho40) | ((with_reducible refine gate_dst (N := 10) rfl ?_); (try (refine gate_guard (by rfl) ?_; dsimp only)); refine Kd.R_lit k55 _ 55 ?hg (N := 10) ?hd (xs := ([(⟨(⟨#[98]⟩ : ByteArray), (⟨#[]⟩ : ByteArray), 2, 1⟩ : S55)] : List (S55))) (inner := [.string (⟨#[98]⟩ : ByteArray), .string (⟨#[]⟩ : ByteArray), .int .i64 2, .int .i64 1]) (ok := fun _ => True) (okp := fun _ => True) ?hr ?hp (fun _ hk => hk) trivial (Below.refl _ _) (Nat.le_refl _) (by simp) ?_; (case hd => rfl); (case hg => rfl); (case hr => first | (go_simp; done) | (go_simp; rfl)); (case hp => exact (Reps.c4 (show Kd.M k55 _ _ _ (⟨(⟨#[98]⟩ : ByteArray), (⟨#[]⟩ : ByteArray), 2, 1⟩ : S55) [.string (⟨#[98]⟩ : ByteArray), .string (⟨#[]⟩ : ByteArray), .int .i64 2, .int .i64 1] from (k55_mkM _ _ _ (⟨(⟨#[98]⟩ : ByteArray), (⟨#[]⟩ : ByteArray), 2, 1⟩ : S55) )) (Reps.none _ _))); intro v254 w41 ho42 hb hg_ hnew_; clear hg_ hnew_; (first | rw [← Ny253.out] at ho42 | (simp only [Int.reduceToNat] at ho42; rw [← Ny253.out] at ho42)); have n0_ := Aside0.mk (Kd.R_elder' (by (with_reducible repeat (first | apply Kd.R_alloc | apply Kd.R_drewN | apply Kd.R_drew)); exact HO252.out) (Kd.R_base ho42) hb); have n1_ := Aside0.mk (Kd.R_lower (Kd.R_new' ho42 (Kd.R_lt (by (with_reducible repeat (first | apply Kd.R_alloc | apply Kd.R_drewN | apply Kd.R_drew)); exact HO252.out))) (below_size (by repeat (first | (with_reducible first | exact HB.out | apply below_alloc | apply pw_below_drewN | apply below_drew1) | exact HB.out)))); have n2_ := Aside0.mk (below_step (by repeat (first | (with_reducible first | exact HB.out | apply below_alloc | apply pw_below_drewN | apply below_drew1) | exact HB.out)) hb); clear HO252; clear HB; have HO252 := n0_; have HO255 := n1_; have HB := n2_; clear n0_ n1_ n2_; clear hb ho42; obtain ⟨Ao43, co43, eo43⟩ := Kd.R_slice HO252.out; subst eo43; obtain ⟨Ao44, co44, eo44⟩ := Kd.R_slice HO255.out; subst eo44) | ((with_reducible refine gate_callee (f := 23) rfl ?_); refine goesL_ (some 13) rfl rfl Tryd.func23 (by kernel_rfl) rfl #[.slice Ao43 y250.length co43, .slice Ao44 y253.length co44] rfl (by (try simp only [List.map_toArray, List.map_cons, List.map_nil]); first | done | rfl | (simp only [List.length_drop, List.length_take]; rfl)) ?_; (with_reducible refine (delta_Diff.calls k _ _ y250 _ _ y253 t256 _ ?side1 ?side2 ?side3 ?side4 A1.out).mono ?_); (case side1 => repeat (first | exact (Kd.R_reads' HO252.out).2.2 | (with_reducible refine Kd.C_alloc ?_ _) | (with_reducible refine Kd.C_drewN ?_ _) | (with_reducible refine Kd.C_drew ?_))); (case side2 => exact (Kd.R_reads' HO252.out).2.1); (case side3 => repeat (first | exact (Kd.R_reads' HO255.out).2.2 | (with_reducible refine Kd.C_alloc ?_ _) | (with_reducible refine Kd.C_drewN ?_ _) | (with_reducible refine Kd.C_drew ?_))); (case side4 => exact (Kd.R_reads' HO255.out).2.1); rintro e w45 ⟨v257, rfl, ho0, hb⟩; refine ⟨_, rfl, ?_⟩; have n0_ := Aside0.mk (Kd.R_below (by (with_reducible repeat (first | apply Kd.R_alloc | apply Kd.R_drewN | apply Kd.R_drew)); exact HO252.out) hb); have n1_ := Aside0.mk (Kd.R_below (by (with_reducible repeat (first | apply Kd.R_alloc | apply Kd.R_drewN | apply Kd.R_drew)); exact HO255.out) hb); have n2_ := Aside0.mk (Kd.R_lower ho0 (below_size (by repeat (first | (with_reducible first | exact HB.out | apply below_alloc | apply pw_below_drewN | apply below_drew1) | exact HB.out)))); have n3_ := Aside0.mk (below_step (by repeat (first | (with_reducible first | exact HB.out | apply below_alloc | apply pw_below_drewN | apply below_drew1) | exact HB.out)) hb); clear HO252; clear HO255; clear HB; have HO252 := n0_; have HO255 := n1_; have HO258 := n2_; have HB := n3_; clear n0_ n1_ n2_ n3_; (try clear hb); (try clear hb2); (try clear hk); (try clear hi); (try clear ho0); obtain ⟨Ao46, co46, eo46⟩ := Kd.R_slice HO258.out; subst eo46) | ((with_reducible refine gate_callee (f := 24) rfl ?_); refine goesL_ (some 17) rfl rfl Tryd.func24 (by kernel_rfl) rfl #[.slice Ao43 y250.length co43, .slice Ao46 t256.length co46] rfl (by (try simp only [List.map_toArray, List.map_cons, List.map_nil]); first | done | rfl | (simp only [List.length_drop, List.length_take]; rfl)) ?_; (with_reducible refine (delta_Apply.calls _ _ y250 _ _ t256 t259 t260 _ ?side1 ?side2 ?side3 ?side4 A2.out).mono ?_); (case side1 => repeat (first | exact (Kd.R_reads' HO252.out).2.2 | (with_reducible refine Kd.C_alloc ?_ _) | (with_reducible refine Kd.C_drewN ?_ _) | (with_reducible refine Kd.C_drew ?_))); (case side2 => exact (Kd.R_reads' HO252.out).2.1); (case side3 => repeat (first | exact (Kd.R_reads' HO258.out).2.2 | (with_reducible refine Kd.C_alloc ?_ _) | (with_reducible refine Kd.C_drewN ?_ _) | (with_reducible refine Kd.C_drew ?_))); (case side4 => exact (Kd.R_reads' HO258.out).2.1); rintro e w47 ⟨v261, rfl, ho0, hb⟩; refine ⟨_, rfl, ?_⟩; have n0_ := Aside0.mk (Kd.R_elder' (by (with_reducible repeat (first | apply Kd.R_alloc | apply Kd.R_drewN | apply Kd.R_drew)); exact HO252.out) (Kd.R_base ho0) hb); have n1_ := Aside0.mk (Kd.R_elder' (by (with_reducible repeat (first | apply Kd.R_alloc | apply Kd.R_drewN | apply Kd.R_drew)); exact HO255.out) (Kd.R_base ho0) hb); have n2_ := Aside0.mk (Kd.R_below (by (with_reducible repeat (first | apply Kd.R_alloc | apply Kd.R_drewN | apply Kd.R_drew)); exact HO258.out) hb); have n3_ := Aside0.mk (Kd.R_lower (Kd.R_new' (Kd.R_new' ho0 (Kd.R_lt (by (with_reducible repeat (first | apply Kd.R_alloc | apply Kd.R_drewN | apply Kd.R_drew)); exact HO252.out))) (Kd.R_lt (by (with_reducible repeat (first | apply Kd.R_alloc | apply Kd.R_drewN | apply Kd.R_drew)); exact HO255.out))) (below_size (by repeat (first | (with_reducible first | exact HB.out | apply below_alloc | apply pw_below_drewN | apply below_drew1) | exact HB.out)))); have n4_ := Aside0.mk (below_step (by repeat (first | (with_reducible first | exact HB.out | apply below_alloc | apply pw_below_drewN | apply below_drew1) | exact HB.out)) hb); clear HO252; clear HO255; clear HO258; clear HB; have HO252 := n0_; have HO255 := n1_; have HO258 := n2_; have HO262 := n3_; have HB := n4_; clear n0_ n1_ n2_ n3_ n4_; (try clear hb); (try clear hb2); (try clear hk); (try clear hi); (try clear ho0)) | (go_at_call 27; (with_reducible refine (delta_Valid.calls k _ _ t256 true _ ?side1 ?side2 A4.out).mono ?_); (case side1 => repeat (first | exact (Kd.R_reads' HO258.out).2.2 | (with_reducible refine Kd.C_alloc ?_ _) | (with_reducible refine Kd.C_drewN ?_ _) | (with_reducible refine Kd.C_drew ?_))); (case side2 => exact (Kd.R_reads' HO258.out).2.1); rintro e w48 ⟨rfl, hb⟩; have n0_ := Aside0.mk (Kd.R_below (by (with_reducible repeat (first | apply Kd.R_alloc | apply Kd.R_drewN | apply Kd.R_drew)); exact HO252.out) hb); have n1_ := Aside0.mk (Kd.R_below (by (with_reducible repeat (first | apply Kd.R_alloc | apply Kd.R_drewN | apply Kd.R_drew)); exact HO255.out) hb); have n2_ := Aside0.mk (Kd.R_below (by (with_reducible repeat (first | apply Kd.R_alloc | apply Kd.R_drewN | apply Kd.R_drew)); exact HO258.out) hb); have n3_ := Aside0.mk (Kd.R_below (by (with_reducible repeat (first | apply Kd.R_alloc | apply Kd.R_drewN | apply Kd.R_drew)); exact HO262.out) hb); have n4_ := Aside0.mk (below_step (by repeat (first | (with_reducible first | exact HB.out | apply below_alloc | apply pw_below_drewN | apply below_drew1) | exact HB.out)) hb); clear HO252; clear HO255; clear HO258; clear HO262; clear HB; have HO252 := n0_; have HO255 := n1_; have HO258 := n2_; have HO262 := n3_; have HB := n4_; clear n0_ n1_ n2_ n3_ n4_; (try clear hb); (try clear hb2); (try clear hk); (try clear hi)) | (go_at_call 21; (with_reducible refine (copselaw06_num.calls t260 t264 _ A6.out).mono ?_); rintro e w' ⟨rfl, ⟨nd, rfl⟩⟩))
    go_ret
    exact ⟨by first | rfl | (simp [errW_none, errW_some] <;> rfl) | (simp [*, errW_none, errW_some] <;> rfl), by repeat (first | (with_reducible first | exact HB.out | apply below_alloc | apply pw_below_drewN | apply below_drew1) | exact HB.out)⟩
  ·replace c5 := Bool.eq_false_iff.mpr c5
   subst c5
   have H1 : (some false) = some r := by rw [if_neg (show ¬ (false = true) by decide)] at H; exact H
   clear H
   have H := H1
   clear H1
   obtain rfl := Option.some.inj H
   go_enter Tryd.func20, Tryd.ntmps20
   go_wp2_with (first | ((with_reducible refine gate_dst (N := 8) rfl ?_); (try (refine gate_guard (by rfl) ?_; dsimp only)); refine Kd.R_lit k55 _ 55 ?hg (N := 8) ?hd (xs := ([(⟨(⟨#[97]⟩ : ByteArray), (⟨#[]⟩ : ByteArray), 1, 1⟩ : S55), (⟨(⟨#[98]⟩ : ByteArray), (⟨#[]⟩ : ByteArray), 1, 1⟩ : S55)] : List (S55))) (inner := [.string (⟨#[97]⟩ : ByteArray), .string (⟨#[]⟩ : ByteArray), .int .i64 1, .int .i64 1, .string (⟨#[98]⟩ : ByteArray), .string (⟨#[]⟩ : ByteArray), .int .i64 1, .int .i64 1]) (ok := fun _ => True) (okp := fun _ => True) ?hr ?hp (fun _ hk => hk) trivial (Below.refl _ _) (Nat.le_refl _) (by simp) ?_; (case hd => rfl); (case hg => rfl); (case hr => first | (go_simp; done) | (go_simp; rfl)); (case hp => exact (Reps.c4 (show Kd.M k55 _ _ _ (⟨(⟨#[97]⟩ : ByteArray), (⟨#[]⟩ : ByteArray), 1, 1⟩ : S55) [.string (⟨#[97]⟩ : ByteArray), .string (⟨#[]⟩ : ByteArray), .int .i64 1, .int .i64 1] from (k55_mkM _ _ _ (⟨(⟨#[97]⟩ : ByteArray), (⟨#[]⟩ : ByteArray), 1, 1⟩ : S55) )) (Reps.c4 (show Kd.M k55 _ _ _ (⟨(⟨#[98]⟩ : ByteArray), (⟨#[]⟩ : ByteArray), 1, 1⟩ : S55) [.string (⟨#[98]⟩ : ByteArray), .string (⟨#[]⟩ : ByteArray), .int .i64 1, .int .i64 1] from (k55_mkM _ _ _ (⟨(⟨#[98]⟩ : ByteArray), (⟨#[]⟩ : ByteArray), 1, 1⟩ : S55) )) (Reps.none _ _)))); intro v251 w49 ho50 hb hg_ hnew_; clear hg_ hnew_; (first | rw [← Ny250.out] at ho50 | (simp only [Int.reduceToNat] at ho50; rw [← Ny250.out] at ho50)); have n0_ := Aside0.mk (Kd.R_lower ho50 (below_size (by repeat (first | (with_reducible first | exact HB.out | apply below_alloc | apply pw_below_drewN | apply below_drew1) | exact HB.out)))); have n1_ := Aside0.mk (below_step (by repeat (first | (with_reducible first | exact HB.out | apply below_alloc | apply pw_below_drewN | apply below_drew1) | exact HB.out)) hb); clear HB; have HO252 := n0_; have HB := n1_; clear n0_ n1_; clear hb ho50) | ((with_reducible refine gate_dst (N := 10) rfl ?_); (try (refine gate_guard (by rfl) ?_; dsimp only)); refine Kd.R_lit k55 _ 55 ?hg (N := 10) ?hd (xs := ([(⟨(⟨#[98]⟩ : ByteArray), (⟨#[]⟩ : ByteArray), 2, 1⟩ : S55)] : List (S55))) (inner := [.string (⟨#[98]⟩ : ByteArray), .string (⟨#[]⟩ : ByteArray), .int .i64 2, .int .i64 1]) (ok := fun _ => True) (okp := fun _ => True) ?hr ?hp (fun _ hk => hk) trivial (Below.refl _ _) (Nat.le_refl _) (by simp) ?_; (case hd => rfl); (case hg => rfl); (case hr => first | (go_simp; done) | (go_simp; rfl)); (case hp => exact (Reps.c4 (show Kd.M k55 _ _ _ (⟨(⟨#[98]⟩ : ByteArray), (⟨#[]⟩ : ByteArray), 2, 1⟩ : S55) [.string (⟨#[98]⟩ : ByteArray), .string (⟨#[]⟩ : ByteArray), .int .i64 2, .int .i64 1] from (k55_mkM _ _ _ (⟨(⟨#[98]⟩ : ByteArray), (⟨#[]⟩ : ByteArray), 2, 1⟩ : S55) )) (Reps.none _ _))); intro v254 w51 ho52 hb hg_ hnew_; clear hg_ hnew_; (first | rw [← Ny253.out] at ho52 | (simp only [Int.reduceToNat] at ho52; rw [← Ny253.out] at ho52)); have n0_ := Aside0.mk (Kd.R_elder' (by (with_reducible repeat (first | apply Kd.R_alloc | apply Kd.R_drewN | apply Kd.R_drew)); exact HO252.out) (Kd.R_base ho52) hb); have n1_ := Aside0.mk (Kd.R_lower (Kd.R_new' ho52 (Kd.R_lt (by (with_reducible repeat (first | apply Kd.R_alloc | apply Kd.R_drewN | apply Kd.R_drew)); exact HO252.out))) (below_size (by repeat (first | (with_reducible first | exact HB.out | apply below_alloc | apply pw_below_drewN | apply below_drew1) | exact HB.out)))); have n2_ := Aside0.mk (below_step (by repeat (first | (with_reducible first | exact HB.out | apply below_alloc | apply pw_below_drewN | apply below_drew1) | exact HB.out)) hb); clear HO252; clear HB; have HO252 := n0_; have HO255 := n1_; have HB := n2_; clear n0_ n1_ n2_; clear hb ho52; obtain ⟨Ao53, co53, eo53⟩ := Kd.R_slice HO252.out; subst eo53; obtain ⟨Ao54, co54, eo54⟩ := Kd.R_slice HO255.out; subst eo54) | ((with_reducible refine gate_callee (f := 23) rfl ?_); refine goesL_ (some 13) rfl rfl Tryd.func23 (by kernel_rfl) rfl #[.slice Ao53 y250.length co53, .slice Ao54 y253.length co54] rfl (by (try simp only [List.map_toArray, List.map_cons, List.map_nil]); first | done | rfl | (simp only [List.length_drop, List.length_take]; rfl)) ?_; (with_reducible refine (delta_Diff.calls k _ _ y250 _ _ y253 t256 _ ?side1 ?side2 ?side3 ?side4 A1.out).mono ?_); (case side1 => repeat (first | exact (Kd.R_reads' HO252.out).2.2 | (with_reducible refine Kd.C_alloc ?_ _) | (with_reducible refine Kd.C_drewN ?_ _) | (with_reducible refine Kd.C_drew ?_))); (case side2 => exact (Kd.R_reads' HO252.out).2.1); (case side3 => repeat (first | exact (Kd.R_reads' HO255.out).2.2 | (with_reducible refine Kd.C_alloc ?_ _) | (with_reducible refine Kd.C_drewN ?_ _) | (with_reducible refine Kd.C_drew ?_))); (case side4 => exact (Kd.R_reads' HO255.out).2.1); rintro e w55 ⟨v257, rfl, ho0, hb⟩; refine ⟨_, rfl, ?_⟩; have n0_ := Aside0.mk (Kd.R_below (by (with_reducible repeat (first | apply Kd.R_alloc | apply Kd.R_drewN | apply Kd.R_drew)); exact HO252.out) hb); have n1_ := Aside0.mk (Kd.R_below (by (with_reducible repeat (first | apply Kd.R_alloc | apply Kd.R_drewN | apply Kd.R_drew)); exact HO255.out) hb); have n2_ := Aside0.mk (Kd.R_lower ho0 (below_size (by repeat (first | (with_reducible first | exact HB.out | apply below_alloc | apply pw_below_drewN | apply below_drew1) | exact HB.out)))); have n3_ := Aside0.mk (below_step (by repeat (first | (with_reducible first | exact HB.out | apply below_alloc | apply pw_below_drewN | apply below_drew1) | exact HB.out)) hb); clear HO252; clear HO255; clear HB; have HO252 := n0_; have HO255 := n1_; have HO258 := n2_; have HB := n3_; clear n0_ n1_ n2_ n3_; (try clear hb); (try clear hb2); (try clear hk); (try clear hi); (try clear ho0); obtain ⟨Ao56, co56, eo56⟩ := Kd.R_slice HO258.out; subst eo56) | ((with_reducible refine gate_callee (f := 24) rfl ?_); refine goesL_ (some 17) rfl rfl Tryd.func24 (by kernel_rfl) rfl #[.slice Ao53 y250.length co53, .slice Ao56 t256.length co56] rfl (by (try simp only [List.map_toArray, List.map_cons, List.map_nil]); first | done | rfl | (simp only [List.length_drop, List.length_take]; rfl)) ?_; (with_reducible refine (delta_Apply.calls _ _ y250 _ _ t256 t259 t260 _ ?side1 ?side2 ?side3 ?side4 A2.out).mono ?_); (case side1 => repeat (first | exact (Kd.R_reads' HO252.out).2.2 | (with_reducible refine Kd.C_alloc ?_ _) | (with_reducible refine Kd.C_drewN ?_ _) | (with_reducible refine Kd.C_drew ?_))); (case side2 => exact (Kd.R_reads' HO252.out).2.1); (case side3 => repeat (first | exact (Kd.R_reads' HO258.out).2.2 | (with_reducible refine Kd.C_alloc ?_ _) | (with_reducible refine Kd.C_drewN ?_ _) | (with_reducible refine Kd.C_drew ?_))); (case side4 => exact (Kd.R_reads' HO258.out).2.1); rintro e w57 ⟨v261, rfl, ho0, hb⟩; refine ⟨_, rfl, ?_⟩; have n0_ := Aside0.mk (Kd.R_elder' (by (with_reducible repeat (first | apply Kd.R_alloc | apply Kd.R_drewN | apply Kd.R_drew)); exact HO252.out) (Kd.R_base ho0) hb); have n1_ := Aside0.mk (Kd.R_elder' (by (with_reducible repeat (first | apply Kd.R_alloc | apply Kd.R_drewN | apply Kd.R_drew)); exact HO255.out) (Kd.R_base ho0) hb); have n2_ := Aside0.mk (Kd.R_below (by (with_reducible repeat (first | apply Kd.R_alloc | apply Kd.R_drewN | apply Kd.R_drew)); exact HO258.out) hb); have n3_ := Aside0.mk (Kd.R_lower (Kd.R_new' (Kd.R_new' ho0 (Kd.R_lt (by (with_reducible repeat (first | apply Kd.R_alloc | apply Kd.R_drewN | apply Kd.R_drew)); exact HO252.out))) (Kd.R_lt (by (with_reducible repeat (first | apply Kd.R_alloc | apply Kd.R_drewN | apply Kd.R_drew)); exact HO255.out))) (below_size (by repeat (first | (with_reducible first | exact HB.out | apply below_alloc | apply pw_below_drewN | apply below_drew1) | exact HB.out)))); have n4_ := Aside0.mk (below_step (by repeat (first | (with_reducible first | exact HB.out | apply below_alloc | apply pw_below_drewN | apply below_drew1) | exact HB.out)) hb); clear HO252; clear HO255; clear HO258; clear HB; have HO252 := n0_; have HO255 := n1_; have HO258 := n2_; have HO262 := n3_; have HB := n4_; clear n0_ n1_ n2_ n3_ n4_; (try clear hb); (try clear hb2); (try clear hk); (try clear hi); (try clear ho0)) | (go_at_call 27; (with_reducible refine (delta_Valid.calls k _ _ t256 false _ ?side1 ?side2 A4.out).mono ?_); (case side1 => repeat (first | exact (Kd.R_reads' HO258.out).2.2 | (with_reducible refine Kd.C_alloc ?_ _) | (with_reducible refine Kd.C_drewN ?_ _) | (with_reducible refine Kd.C_drew ?_))); (case side2 => exact (Kd.R_reads' HO258.out).2.1); rintro e w58 ⟨rfl, hb⟩; have n0_ := Aside0.mk (Kd.R_below (by (with_reducible repeat (first | apply Kd.R_alloc | apply Kd.R_drewN | apply Kd.R_drew)); exact HO252.out) hb); have n1_ := Aside0.mk (Kd.R_below (by (with_reducible repeat (first | apply Kd.R_alloc | apply Kd.R_drewN | apply Kd.R_drew)); exact HO255.out) hb); have n2_ := Aside0.mk (Kd.R_below (by (with_reducible repeat (first | apply Kd.R_alloc | apply Kd.R_drewN | apply Kd.R_drew)); exact HO258.out) hb); have n3_ := Aside0.mk (Kd.R_below (by (with_reducible repeat (first | apply Kd.R_alloc | apply Kd.R_drewN | apply Kd.R_drew)); exact HO262.out) hb); have n4_ := Aside0.mk (below_step (by repeat (first | (with_reducible first | exact HB.out | apply below_alloc | apply pw_below_drewN | apply below_drew1) | exact HB.out)) hb); clear HO252; clear HO255; clear HO258; clear HO262; clear HB; have HO252 := n0_; have HO255 := n1_; have HO258 := n2_; have HO262 := n3_; have HB := n4_; clear n0_ n1_ n2_ n3_ n4_; (try clear hb); (try clear hb2); (try clear hk); (try clear hi)))
   go_ret
   exact ⟨by first | rfl | (simp [errW_none, errW_some] <;> rfl) | (simp [*, errW_none, errW_some] <;> rfl), by repeat (first | (with_reducible first | exact HB.out | apply below_alloc | apply pw_below_drewN | apply below_drew1) | exact HB.out)⟩
 ·rw [if_neg c3] at H
  have c3b0 : ((t256.length : Int) == 2) = false := beq_eq_false_iff_ne.mpr c3
  have c3b1 : ((t256.length : Int) != 2) = true := bne_iff_ne.mpr c3
  obtain rfl := Option.some.inj H
  go_enter Tryd.func20, Tryd.ntmps20
  go_wp2_with (first | ((with_reducible refine gate_dst (N := 8) rfl ?_); (try (refine gate_guard (by rfl) ?_; dsimp only)); refine Kd.R_lit k55 _ 55 ?hg (N := 8) ?hd (xs := ([(⟨(⟨#[97]⟩ : ByteArray), (⟨#[]⟩ : ByteArray), 1, 1⟩ : S55), (⟨(⟨#[98]⟩ : ByteArray), (⟨#[]⟩ : ByteArray), 1, 1⟩ : S55)] : List (S55))) (inner := [.string (⟨#[97]⟩ : ByteArray), .string (⟨#[]⟩ : ByteArray), .int .i64 1, .int .i64 1, .string (⟨#[98]⟩ : ByteArray), .string (⟨#[]⟩ : ByteArray), .int .i64 1, .int .i64 1]) (ok := fun _ => True) (okp := fun _ => True) ?hr ?hp (fun _ hk => hk) trivial (Below.refl _ _) (Nat.le_refl _) (by simp) ?_; (case hd => rfl); (case hg => rfl); (case hr => first | (go_simp; done) | (go_simp; rfl)); (case hp => exact (Reps.c4 (show Kd.M k55 _ _ _ (⟨(⟨#[97]⟩ : ByteArray), (⟨#[]⟩ : ByteArray), 1, 1⟩ : S55) [.string (⟨#[97]⟩ : ByteArray), .string (⟨#[]⟩ : ByteArray), .int .i64 1, .int .i64 1] from (k55_mkM _ _ _ (⟨(⟨#[97]⟩ : ByteArray), (⟨#[]⟩ : ByteArray), 1, 1⟩ : S55) )) (Reps.c4 (show Kd.M k55 _ _ _ (⟨(⟨#[98]⟩ : ByteArray), (⟨#[]⟩ : ByteArray), 1, 1⟩ : S55) [.string (⟨#[98]⟩ : ByteArray), .string (⟨#[]⟩ : ByteArray), .int .i64 1, .int .i64 1] from (k55_mkM _ _ _ (⟨(⟨#[98]⟩ : ByteArray), (⟨#[]⟩ : ByteArray), 1, 1⟩ : S55) )) (Reps.none _ _)))); intro v251 w59 ho60 hb hg_ hnew_; clear hg_ hnew_; (first | rw [← Ny250.out] at ho60 | (simp only [Int.reduceToNat] at ho60; rw [← Ny250.out] at ho60)); have n0_ := Aside0.mk (Kd.R_lower ho60 (below_size (by repeat (first | (with_reducible first | exact HB.out | apply below_alloc | apply pw_below_drewN | apply below_drew1) | exact HB.out)))); have n1_ := Aside0.mk (below_step (by repeat (first | (with_reducible first | exact HB.out | apply below_alloc | apply pw_below_drewN | apply below_drew1) | exact HB.out)) hb); clear HB; have HO252 := n0_; have HB := n1_; clear n0_ n1_; clear hb ho60) | ((with_reducible refine gate_dst (N := 10) rfl ?_); (try (refine gate_guard (by rfl) ?_; dsimp only)); refine Kd.R_lit k55 _ 55 ?hg (N := 10) ?hd (xs := ([(⟨(⟨#[98]⟩ : ByteArray), (⟨#[]⟩ : ByteArray), 2, 1⟩ : S55)] : List (S55))) (inner := [.string (⟨#[98]⟩ : ByteArray), .string (⟨#[]⟩ : ByteArray), .int .i64 2, .int .i64 1]) (ok := fun _ => True) (okp := fun _ => True) ?hr ?hp (fun _ hk => hk) trivial (Below.refl _ _) (Nat.le_refl _) (by simp) ?_; (case hd => rfl); (case hg => rfl); (case hr => first | (go_simp; done) | (go_simp; rfl)); (case hp => exact (Reps.c4 (show Kd.M k55 _ _ _ (⟨(⟨#[98]⟩ : ByteArray), (⟨#[]⟩ : ByteArray), 2, 1⟩ : S55) [.string (⟨#[98]⟩ : ByteArray), .string (⟨#[]⟩ : ByteArray), .int .i64 2, .int .i64 1] from (k55_mkM _ _ _ (⟨(⟨#[98]⟩ : ByteArray), (⟨#[]⟩ : ByteArray), 2, 1⟩ : S55) )) (Reps.none _ _))); intro v254 w61 ho62 hb hg_ hnew_; clear hg_ hnew_; (first | rw [← Ny253.out] at ho62 | (simp only [Int.reduceToNat] at ho62; rw [← Ny253.out] at ho62)); have n0_ := Aside0.mk (Kd.R_elder' (by (with_reducible repeat (first | apply Kd.R_alloc | apply Kd.R_drewN | apply Kd.R_drew)); exact HO252.out) (Kd.R_base ho62) hb); have n1_ := Aside0.mk (Kd.R_lower (Kd.R_new' ho62 (Kd.R_lt (by (with_reducible repeat (first | apply Kd.R_alloc | apply Kd.R_drewN | apply Kd.R_drew)); exact HO252.out))) (below_size (by repeat (first | (with_reducible first | exact HB.out | apply below_alloc | apply pw_below_drewN | apply below_drew1) | exact HB.out)))); have n2_ := Aside0.mk (below_step (by repeat (first | (with_reducible first | exact HB.out | apply below_alloc | apply pw_below_drewN | apply below_drew1) | exact HB.out)) hb); clear HO252; clear HB; have HO252 := n0_; have HO255 := n1_; have HB := n2_; clear n0_ n1_ n2_; clear hb ho62; obtain ⟨Ao63, co63, eo63⟩ := Kd.R_slice HO252.out; subst eo63; obtain ⟨Ao64, co64, eo64⟩ := Kd.R_slice HO255.out; subst eo64) | ((with_reducible refine gate_callee (f := 23) rfl ?_); refine goesL_ (some 13) rfl rfl Tryd.func23 (by kernel_rfl) rfl #[.slice Ao63 y250.length co63, .slice Ao64 y253.length co64] rfl (by (try simp only [List.map_toArray, List.map_cons, List.map_nil]); first | done | rfl | (simp only [List.length_drop, List.length_take]; rfl)) ?_; (with_reducible refine (delta_Diff.calls k _ _ y250 _ _ y253 t256 _ ?side1 ?side2 ?side3 ?side4 A1.out).mono ?_); (case side1 => repeat (first | exact (Kd.R_reads' HO252.out).2.2 | (with_reducible refine Kd.C_alloc ?_ _) | (with_reducible refine Kd.C_drewN ?_ _) | (with_reducible refine Kd.C_drew ?_))); (case side2 => exact (Kd.R_reads' HO252.out).2.1); (case side3 => repeat (first | exact (Kd.R_reads' HO255.out).2.2 | (with_reducible refine Kd.C_alloc ?_ _) | (with_reducible refine Kd.C_drewN ?_ _) | (with_reducible refine Kd.C_drew ?_))); (case side4 => exact (Kd.R_reads' HO255.out).2.1); rintro e w65 ⟨v257, rfl, ho0, hb⟩; refine ⟨_, rfl, ?_⟩; have n0_ := Aside0.mk (Kd.R_below (by (with_reducible repeat (first | apply Kd.R_alloc | apply Kd.R_drewN | apply Kd.R_drew)); exact HO252.out) hb); have n1_ := Aside0.mk (Kd.R_below (by (with_reducible repeat (first | apply Kd.R_alloc | apply Kd.R_drewN | apply Kd.R_drew)); exact HO255.out) hb); have n2_ := Aside0.mk (Kd.R_lower ho0 (below_size (by repeat (first | (with_reducible first | exact HB.out | apply below_alloc | apply pw_below_drewN | apply below_drew1) | exact HB.out)))); have n3_ := Aside0.mk (below_step (by repeat (first | (with_reducible first | exact HB.out | apply below_alloc | apply pw_below_drewN | apply below_drew1) | exact HB.out)) hb); clear HO252; clear HO255; clear HB; have HO252 := n0_; have HO255 := n1_; have HO258 := n2_; have HB := n3_; clear n0_ n1_ n2_ n3_; (try clear hb); (try clear hb2); (try clear hk); (try clear hi); (try clear ho0); obtain ⟨Ao66, co66, eo66⟩ := Kd.R_slice HO258.out; subst eo66) | ((with_reducible refine gate_callee (f := 24) rfl ?_); refine goesL_ (some 17) rfl rfl Tryd.func24 (by kernel_rfl) rfl #[.slice Ao63 y250.length co63, .slice Ao66 t256.length co66] rfl (by (try simp only [List.map_toArray, List.map_cons, List.map_nil]); first | done | rfl | (simp only [List.length_drop, List.length_take]; rfl)) ?_; (with_reducible refine (delta_Apply.calls _ _ y250 _ _ t256 t259 t260 _ ?side1 ?side2 ?side3 ?side4 A2.out).mono ?_); (case side1 => repeat (first | exact (Kd.R_reads' HO252.out).2.2 | (with_reducible refine Kd.C_alloc ?_ _) | (with_reducible refine Kd.C_drewN ?_ _) | (with_reducible refine Kd.C_drew ?_))); (case side2 => exact (Kd.R_reads' HO252.out).2.1); (case side3 => repeat (first | exact (Kd.R_reads' HO258.out).2.2 | (with_reducible refine Kd.C_alloc ?_ _) | (with_reducible refine Kd.C_drewN ?_ _) | (with_reducible refine Kd.C_drew ?_))); (case side4 => exact (Kd.R_reads' HO258.out).2.1); rintro e w67 ⟨v261, rfl, ho0, hb⟩; refine ⟨_, rfl, ?_⟩; have n0_ := Aside0.mk (Kd.R_elder' (by (with_reducible repeat (first | apply Kd.R_alloc | apply Kd.R_drewN | apply Kd.R_drew)); exact HO252.out) (Kd.R_base ho0) hb); have n1_ := Aside0.mk (Kd.R_elder' (by (with_reducible repeat (first | apply Kd.R_alloc | apply Kd.R_drewN | apply Kd.R_drew)); exact HO255.out) (Kd.R_base ho0) hb); have n2_ := Aside0.mk (Kd.R_below (by (with_reducible repeat (first | apply Kd.R_alloc | apply Kd.R_drewN | apply Kd.R_drew)); exact HO258.out) hb); have n3_ := Aside0.mk (Kd.R_lower (Kd.R_new' (Kd.R_new' ho0 (Kd.R_lt (by (with_reducible repeat (first | apply Kd.R_alloc | apply Kd.R_drewN | apply Kd.R_drew)); exact HO252.out))) (Kd.R_lt (by (with_reducible repeat (first | apply Kd.R_alloc | apply Kd.R_drewN | apply Kd.R_drew)); exact HO255.out))) (below_size (by repeat (first | (with_reducible first | exact HB.out | apply below_alloc | apply pw_below_drewN | apply below_drew1) | exact HB.out)))); have n4_ := Aside0.mk (below_step (by repeat (first | (with_reducible first | exact HB.out | apply below_alloc | apply pw_below_drewN | apply below_drew1) | exact HB.out)) hb); clear HO252; clear HO255; clear HO258; clear HB; have HO252 := n0_; have HO255 := n1_; have HO258 := n2_; have HO262 := n3_; have HB := n4_; clear n0_ n1_ n2_ n3_ n4_; (try clear hb); (try clear hb2); (try clear hk); (try clear hi); (try clear ho0)))
  go_ret
  exact ⟨by first | rfl | (simp [errW_none, errW_some] <;> rfl) | (simp [*, errW_none, errW_some] <;> rfl), by repeat (first | (with_reducible first | exact HB.out | apply below_alloc | apply pw_below_drewN | apply below_drew1) | exact HB.out)⟩
end Go.Proofs.YtehfogjibhnabaaDoor.PAll
namespace Go.Proofs.YtehfogjibhnabaaDoor.PAll
open Go.RowKit Go.Proofs.YtehfogjibhnabaaDoorW.PrintWords Go.Proofs.YtehfogjibhnabaaDoorW.PrintLast Go.Proofs.YtehfogjibhnabaaDoorW.PrintMore
open Go.Proofs.YtehfogjibhnabaaDoor.Sp
theorem joinK_length {α : Type} {key : α → ByteArray} {idle : α → Bool} {comb : α → α → α} (n : Nat) : ∀ d e : List α, (joinK key idle comb n d e).length ≤ d.length + e.length := by
 induction n with
 | zero => intro d e; simp [joinK]
 | succ n ih =>
  have put : ∀ (x : α) (l : List α), ((if idle x = true then [] else [x]) ++ l).length ≤ l.length + 1 := fun x l => by split <;> simp
  intro d e
  rcases d with _ | ⟨x, d⟩ <;> rcases e with _ | ⟨y, e⟩
  ·simp [joinK]
  ·have := ih [] e
   have h := put y (joinK key idle comb n [] e)
   simp only [List.length_cons, List.length_nil] at this ⊢
   unfold joinK
   dsimp only
   omega
  ·have := ih d []
   have h := put x (joinK key idle comb n d [])
   simp only [List.length_cons, List.length_nil] at this ⊢
   unfold joinK
   dsimp only
   omega
  ·have h1 := ih d (y :: e)
   have h2 := ih (x :: d) e
   have h3 := ih d e
   have p1 := put x (joinK key idle comb n d (y :: e))
   have p2 := put y (joinK key idle comb n (x :: d) e)
   have p3 := put (comb x y) (joinK key idle comb n d e)
   simp only [List.length_cons] at *
   unfold joinK
   dsimp only
   split
   ·omega
   ·split <;> omega
section
variable {a b c : List S55} {d e : List S61}
theorem diff_length (a b : List S55) : (diffD a b).length ≤ a.length + b.length := by
 have := joinK_length (key := S61.f0) (idle := idleC) (comb := outerC) (a.length + b.length) (a.map goneC) (b.map comeC)
 simpa [diffD] using this
theorem fits_diffD (ha : snapV a = 0) (hb : snapV b = 0) (fa : FitsF a) (fb : FitsF b) : FitsD (diffD a b) := fun c hc => by
 obtain ⟨h1, h2⟩ := diff_spec (snap_rises ha) (snap_rises hb)
 have h3 := (h2 c.f0).symm.trans (h1.mem hc)
 unfold partsO at h3
 cases hx : atF a c.f0 with
 | none =>
  cases hy : atF b c.f0 with
  | none => rw [hx, hy] at h3; cases h3
  | some y =>
   rw [hx, hy] at h3
   obtain ⟨e1, e2⟩ := atK_some hy
   have f := fb y e2
   have e := Option.some.inj h3
   rw [← e]
   exact ⟨by rw [← e1]; exact f.1, z_fits, f⟩
 | some x =>
  obtain ⟨e1, e2⟩ := atK_some hx
  have f := fa x e2
  cases hy : atF b c.f0 with
  | none =>
   rw [hx, hy] at h3
   have e := Option.some.inj h3
   rw [← e]
   exact ⟨by rw [← e1]; exact f.1, f, z_fits⟩
  | some y =>
   have g := fb y (atK_some hy).2
   rw [hx, hy] at h3
   dsimp only at h3
   split at h3
   ·cases h3
   ·have e := Option.some.inj h3
    rw [← e]
    exact ⟨by rw [← e1]; exact f.1, f, g⟩
theorem apply_is (ha : a.length ≤ 1048576) (hd : d.length ≤ 4194304) (fa : FitsF a) (fd : FitsD d) : delta_Apply.f a d = some (applyV a d) := by
 unfold delta_Apply.f
 rw [if_pos ⟨⟨ha, hd⟩, fa, fd⟩]
theorem invert_is (hd : d.length ≤ 4194304) : delta_Invert.f d = some (d.map turnC) := by
 unfold delta_Invert.f
 rw [if_pos hd]
end
theorem alive06 : Ev (fun k => copselaw06_alive.f k) true := Ev.of copselaw06_alive.mono (k := 60) (by kernel_rfl)
end Go.Proofs.YtehfogjibhnabaaDoor.PAll
namespace Go.Proofs.YtehfogjibhnabaaDoor.PAll
open Go.RowKit Go.Proofs.YtehfogjibhnabaaDoorW.PrintWords Go.Proofs.YtehfogjibhnabaaDoorW.PrintLast Go.Proofs.YtehfogjibhnabaaDoorW.PrintMore
open Go.Proofs.YtehfogjibhnabaaDoor.Sp
theorem lit_R61 (w : World) : Kd.R k61 61 (w.alloc (.cells #[] 61)) w.heap.size (fun _ => True) (.slice (some ⟨w.heap.size, 0, none⟩) 0 0) [] := by
 refine ⟨fun _ _ => trivial, [], World.ownsRow_made (size := _) w #[] 0 (Nat.le_refl _) (by decide) (by simp), ⟨rfl, fun j x h => by simp at h⟩⟩
set_option maxHeartbeats 4000000 in
set_option maxRecDepth 100000 in
theorem clone61_calls (A0 : Option Addr) (c0 : Nat) (l : List S61) (w : World) (hr0 : Kd.C k61 w A0 l.length l) (hl : l.length ≤ 4194304) :
  Calls Tryd.prog 59 #[.slice A0 l.length c0] w fun e w' => ∃ v : Value, e = .returned v ∧ Kd.R k61 61 w' w.heap.size (fun _ => True) v l ∧ Below w.heap.size w w' := by
 have HR0 := Aside0.mk hr0
 clear hr0
 rcases A0 with _ | ad
 ·have h0 : l = [] := by
   rcases Nat.eq_zero_or_pos l.length with h | h
   ·exact List.eq_nil_of_length_eq_zero h
   ·obtain ⟨ad, e, _⟩ := HR0.out.2.2 h
    cases e
  subst h0
  clear HR0
  have hk := fun W => Lib.run_eql_slice_nil (P := Tryd.prog) W 43 61 none 0 c0 0 0 Tryd.underlying43
  go_enter Tryd.func59, Tryd.ntmps59
  go_wp2
  go_ret
  exact ⟨_, rfl, Kd.R_nil _ _ _ _ _, Below.refl _ _⟩
 ·have hk := fun W => Lib.run_eql_slice_nil (P := Tryd.prog) W 43 61 (some ad) l.length c0 0 0 Tryd.underlying43
  go_enter Tryd.func59, Tryd.ntmps59
  go_wp2_with (first
   | ((with_reducible refine gate_builtin (b := .append) (xs := #[.tmp 5, .tmp 6]) rfl ?_); at_builtin; refine Kd.R_append_rows k61 (w0 := w) w.heap.size rfl (.tmp 5) (.tmp 6) 43 61 (.agg #[(.string ⟨#[]⟩), (.bool false), (.bool false), (.string ⟨#[]⟩), (.string ⟨#[]⟩), (.int .i64 0), (.int .i64 0), (.string ⟨#[]⟩), (.string ⟨#[]⟩), (.int .i64 0), (.int .i64 0)]) 120 rfl Tryd.underlying43 info61 rfl (by decide) (by omega) (.slice (some ⟨w.heap.size, 0, none⟩) 0 0) ([] : List S61) l (some ad) l.length c0 (fun _ => True) (fun _ => False) rfl rfl (lit_R61 w) (Kd.C_alloc HR0.out _) (fun _ _ h => h) (fun _ h => h.elim) (fun _ _ => trivial) (below_alloc (Below.refl _ _) _) (by simp) (by simp; omega) ?_; intro v2 w2 ho hb h4 h5; clear h4 h5; rw [List.nil_append] at ho; obtain ⟨A2, c2, rfl, l2, r2⟩ := Kd.R_reads ho; have O2 := Aside0.mk ho; have B2 := Aside0.mk hb; clear ho hb l2 r2)
   | fail)
  go_ret
  exact ⟨_, rfl, O2.out, B2.out⟩
theorem turn_set (l : List S61) (i : Nat) (h : i < l.length) : ((l.take i).map turnC ++ l.drop i).set i (turnC l[i]) = (l.take (i + 1)).map turnC ++ l.drop (i + 1) := by
 rw [List.drop_eq_getElem_cons h, List.set_append_right _ _ (by simp; omega), List.length_map, List.length_take, Nat.min_eq_left (by omega), Nat.sub_self, List.set_cons_zero, List.take_succ_eq_append_getElem h, List.map_append]
 simp
set_option maxHeartbeats 4000000 in
set_option maxRecDepth 100000 in
theorem delta_Invert_walk (A0 : Option Addr) (c0 : Nat) (l : List S61) (w : World) (hr0 : Kd.C k61 w A0 l.length l) (hl : l.length ≤ 4194304) :
  Calls Tryd.prog 25 #[.slice A0 l.length c0] w fun e w' => ∃ v : Value, e = .returned v ∧ Kd.R k61 61 w' w.heap.size (fun _ => True) v (l.map turnC) ∧ Below w.heap.size w w' := by
 have HR0 := Aside0.mk hr0
 clear hr0
 go_enter Tryd.func25, Tryd.ntmps25
 go_wp2_with fail
 refine (clone61_calls A0 c0 l w HR0.out hl).mono ?_
 rintro e w1 ⟨v1, rfl, ho, hb⟩
 obtain ⟨A2, c2, rfl, l2, r2⟩ := Kd.R_reads ho
 have O1 := Aside0.mk ho
 have B1 := Aside0.mk hb
 clear ho hb l2 r2 HR0
 go_wp2
 go_loopg [10] l.length (fun gg s10 wr => ∃ i : Nat, i ≤ l.length ∧ l.length - i ≤ gg ∧ s10 = .int .i64 i ∧ Aside0 (Kd.R k61 61 wr w.heap.size (fun _ => True) (.slice A2 l.length c2) ((l.take i).map turnC ++ l.drop i)) ∧ Aside0 (Below w.heap.size w wr))
 case atStart => exact ⟨0, by omega, by omega, by first | rfl | go_num, by simpa using O1, B1⟩
 case round =>
  clear O1 B1
  obtain ⟨i, hi, hg, rfl, O1, B1⟩ := hrel
  by_cases hlt : i < l.length
  ·have hltz : (i : Int) < (l.length : Int) := by omega
   obtain ⟨y, hy⟩ : ∃ y, y = (l.take i).map turnC ++ l.drop i := ⟨_, rfl⟩
   have Y := Aside0.mk hy
   rw [← hy] at O1
   have hyl : y.length = l.length := by rw [hy, List.length_append, List.length_map, List.length_take, List.length_drop]; omega
   have hyx : rd_T61 y (i : Int) = l[i] := by
    unfold rd_T61
    rw [Int.toNat_natCast, List.getD_eq_getElem?_getD, hy, List.getElem?_append_right (by simp; omega), List.length_map, List.length_take, Nat.min_eq_left (by omega), Nat.sub_self, List.getElem?_drop, Nat.add_zero, List.getElem?_eq_getElem hlt]
    rfl
   have C1 := (Kd.R_reads' O1.out).2.2
   obtain ⟨g, rfl, hg0⟩ : ∃ g, A2 = some ⟨g, 0, none⟩ ∧ w.heap.size ≤ g := by
    obtain ⟨g, cap, he, h1, h2⟩ := Kd.R_form O1.out (by omega)
    injection he with he _ _
    exact ⟨g, he, h1⟩
   obtain ⟨ad, e1, h0, h1, h2, h3, h4, h5, h6, h7, h8, h9, h10⟩ := at_T61 C1 (i : Int) (by omega) (by rw [hyl]; exact hltz)
   injection e1 with e1
   subst e1
   have XI : Aside0 (∃ x, x = l[i]) := ⟨_, rfl⟩
   generalize hxx : l[i] = x at hyx
   rw [hyx] at h0 h1 h2 h3 h4 h5 h6 h7 h8 h9 h10
   simp only [add_plain, Int.toNat_natCast] at h0 h1 h2 h3 h4 h5 h6 h7 h8 h9 h10
   have HX := Aside0.mk hxx
   have YL := Aside0.mk hyl
   have GL : Aside0 (g < wr.heap.size) := ⟨by obtain ⟨g', cap, he, _, h2, _⟩ := Kd.R_form O1.out (by omega); injection he with he _ _; injection he with he; injection he with he; rw [he]; exact h2⟩
   have HC : Aside0 (∀ (j : Nat) (u : Value), ([.string x.f0, .bool x.f1, .bool x.f2, .string x.f3.f0, .string x.f3.f1, .int .i64 x.f3.f2, .int .i64 x.f3.f3, .string x.f4.f0, .string x.f4.f1, .int .i64 x.f4.f2, .int .i64 x.f4.f3] : List Value)[j]? = some u → wr.cell? ⟨g, (i : Int).toNat * 11 + j, none⟩ = some u) := ⟨by
    obtain ⟨ad, c, e, _, hK, hc0⟩ := Kd.C_get C1 z61 (i : Int) (by omega) (by rw [hyl]; exact hltz)
    injection e with e
    subst e
    have hK2 := k61_open hK
    have e3 : y.getD (i : Int).toNat z61 = x := hyx
    rw [e3] at hK2
    subst hK2
    intro j u hu
    have := hc0 j u hu
    rwa [add_plain] at this⟩
   clear hy C1 hyx hxx hyl XI
   go_wp2_with (first
    | ((with_reducible refine gate_store (t := 61) (p := 28) (v := .tmp 27) rfl ?_); refine Kd.R_store k61 (w0 := w) w.heap.size rfl rfl 61 (.tmp 28) (.tmp 27) rfl 61 (i : Int) 0 y (turnC x) _ [.string x.f0, .bool x.f2, .bool x.f1, .string x.f4.f0, .string x.f4.f1, .int .i64 x.f4.f2, .int .i64 x.f4.f3, .string x.f3.f0, .string x.f3.f1, .int .i64 x.f3.f2, .int .i64 x.f3.f3] [.string x.f0, .bool x.f1, .bool x.f2, .string x.f3.f0, .string x.f3.f1, .int .i64 x.f3.f2, .int .i64 x.f3.f3, .string x.f4.f0, .string x.f4.f1, .int .i64 x.f4.f2, .int .i64 x.f4.f3] (fun _ => True) (fun _ => False) rfl (by rw [Int.toNat_natCast]; rfl) rfl rfl (by kernel_rfl) (by simp [Value.oneCell']) (Kd.R_alloc O1.out _) (by omega) hltz rfl (fun j u hu => ((below_alloc (Below.refl wr.heap.size wr) _).cell (p := ⟨g, _, none⟩) GL.out).trans (HC.out j u hu)) (Nat.le_refl 11) (k61_mkM _ _ _ (turnC x)) (fun _ h => h.elim) (below_alloc B1.out _) ?_; intro w2 ho hb hgr; rw [Int.toNat_natCast] at ho; have O2 := Aside0.mk ho; have B2 := Aside0.mk hb; clear ho hb hgr)
    | fail)
   go_roundg (l.length - (i + 1))
   case measure => omega
   case rel => exact ⟨i + 1, by omega, by omega, by go_num, ⟨by have h := O2.out; rw [Y.out, ← HX.out, turn_set l i hlt] at h; exact h⟩, B2⟩
  ·have hltz : ¬ (i : Int) < (l.length : Int) := by omega
   obtain rfl : i = l.length := by omega
   go_wp2
   go_ret
   exact ⟨_, rfl, by have := O1.out; rw [List.take_length, List.drop_length, List.append_nil] at this; exact this, B1.out⟩
theorem delta_Invert.calls (A0 : Option Addr) (c0 : Nat) (l0 : List S61) (r : List S61) (w : World) (hr0 : Kd.C k61 w A0 l0.length l0) (_hc0 : l0.length ≤ c0) (h : delta_Invert.f l0 = some r) :
  Calls Tryd.prog 25 #[.slice A0 l0.length c0] w fun e w' => ∃ v0_ : Value, e = .returned (v0_) ∧ Kd.R k61 61 w' w.heap.size (fun _ => True) v0_ r ∧ Below w.heap.size w w' := by
 unfold delta_Invert.f at h
 split at h
 ·rename_i hl
  obtain rfl := Option.some.inj h
  exact delta_Invert_walk A0 c0 l0 w hr0 hl
 ·cases h
end Go.Proofs.YtehfogjibhnabaaDoor.PAll
namespace Go.Proofs.YtehfogjibhnabaaDoor.PAll
open Go.RowKit Go.Proofs.YtehfogjibhnabaaDoorW.PrintWords Go.Proofs.YtehfogjibhnabaaDoorW.PrintLast Go.Proofs.YtehfogjibhnabaaDoorW.PrintMore
open Go.Proofs.YtehfogjibhnabaaDoor.Sp
theorem R_aside {α : Type} {d : Kd α} {e base : Nat} {W W1 : World} {v : Value} {xs : List α} {row : Option Nat} (hE : d.E = []) (h : d.R e W base (fun _ => True) v xs) (hg : W.grownBy W1 row) (hne : ∀ k, v.ownBlock = some k → some k ≠ row) : d.R e W1 base (fun _ => True) v xs :=
 Kd.R_mono (Kd.R_grown (Kd.R_tight hE h) hg (fun k hk => hne k hk.symm)) (fun _ _ => trivial)
theorem R_types_ne {α β : Type} {d : Kd α} {d' : Kd β} {e e' base base' : Nat} {ok ok' : Nat → Prop} {W : World} {v v' : Value} {xs : List α} {ys : List β} (h : d.R e W base ok v xs) (h' : d'.R e' W base' ok' v' ys) (ht : e ≠ e') : ∀ k, v.ownBlock = some k → some k ≠ v'.ownBlock := by
 intro k hk
 obtain ⟨_, ho⟩ := Kd.R_own h
 obtain ⟨cells, hc⟩ := own_typed ho k hk
 exact Kd.R_ne h' hc (fun e => ht e.symm)
theorem R_lt_size {α : Type} {d : Kd α} {e base : Nat} {ok : Nat → Prop} {W : World} {v : Value} {xs : List α} (h : d.R e W base ok v xs) : ∀ k, v.ownBlock = some k → k < W.heap.size := by
 intro k hk
 obtain ⟨_, ho⟩ := Kd.R_own h
 exact own_lt ho k hk
structure Held6 (s0 s1 s4 s5 s6 s7 s8 s9 N : Nat) (w WN : World) (vd vi vl vp : Value) (ld li : List S61) (ll : List S55) (lp : List ByteArray) (W : World) : Prop where
 le : s0 ≤ s1 ∧ s1 ≤ s4 ∧ s4 ≤ s5 ∧ s5 ≤ s6 ∧ s6 ≤ s7 ∧ s7 ≤ s8 ∧ s8 ≤ s9 ∧ s9 ≤ N
 bw : Below s0 w W
 sz : N ≤ W.heap.size
 fr : ∀ k, k < N → ¬ (s0 ≤ k ∧ k < s1) → ¬ (s4 ≤ k ∧ k < s5) → ¬ (s6 ≤ k ∧ k < s7) → ¬ (s8 ≤ k ∧ k < s9) → W.heap[k]? = WN.heap[k]?
 rd : Kd.R k61 61 W s0 (fun _ => True) vd ld
 ri : Kd.R k61 61 W s0 (fun _ => True) vi li
 rl : Kd.R k55 55 W s0 (fun _ => True) vl ll
 rp : Kd.R Kd.string 9 W s0 (fun _ => True) vp lp
 od : ∀ k, vd.ownBlock = some k → (s0 ≤ k ∧ k < s1) ∨ N ≤ k
 oi : ∀ k, vi.ownBlock = some k → (s4 ≤ k ∧ k < s5) ∨ N ≤ k
 ol : ∀ k, vl.ownBlock = some k → (s6 ≤ k ∧ k < s7) ∨ N ≤ k
 op : ∀ k, vp.ownBlock = some k → (s8 ≤ k ∧ k < s9) ∨ N ≤ k
 di : ∀ k, vd.ownBlock = some k → vi.ownBlock ≠ some k
section
variable {s0 s1 s4 s5 s6 s7 s8 s9 N : Nat} {w WN W W1 : World} {vd vi vl vp v' : Value} {ld li l' : List S61} {ll lf : List S55} {lp lt : List ByteArray}
theorem Held6.base (h : Held6 s0 s1 s4 s5 s6 s7 s8 s9 N w WN vd vi vl vp ld li ll lp W) : s0 ≤ W.heap.size := by
 have := h.le
 have := h.sz
 omega
theorem at_new {o : Nat → Prop} {k : Nat} {u v' : Value} (ho : ∀ k, u.ownBlock = some k → o k ∨ N ≤ k) (hn : N ≤ W.heap.size) (hat : v'.ownBlock = u.ownBlock ∨ ∃ b, v'.ownBlock = some b ∧ W.heap.size ≤ b) (hk : v'.ownBlock = some k) : o k ∨ N ≤ k := by
 rcases hat with e | ⟨b, e, hb⟩
 ·exact ho k (e ▸ hk)
 ·rw [e] at hk
  injection hk with hk
  exact .inr (by omega)
theorem Held6.d_step (h : Held6 s0 s1 s4 s5 s6 s7 s8 s9 N w WN vd vi vl vp ld li ll lp W) (hg : W.grownBy W1 vd.ownBlock) (hr : Kd.R k61 61 W1 s0 (fun _ => True) v' l') (hat : v'.ownBlock = vd.ownBlock ∨ ∃ b, v'.ownBlock = some b ∧ W.heap.size ≤ b) : Held6 s0 s1 s4 s5 s6 s7 s8 s9 N w WN v' vi vl vp l' li ll lp W1 := by
 have hle := h.le
 have hsz := h.sz
 refine ⟨hle, h.bw.grown hg h.base (fun k hk => Kd.R_base h.rd k hk), Nat.le_trans hsz hg.size, fun k hk q0 q1 q2 q3 => (hg.block k (by omega) (fun e => ?_)).trans (h.fr k hk q0 q1 q2 q3), hr, R_aside rfl h.ri hg (fun k hk e => h.di k e.symm hk), R_aside rfl h.rl hg (R_types_ne h.rl h.rd (by decide)), R_aside rfl h.rp hg (R_types_ne h.rp h.rd (by decide)), fun k hk => at_new h.od hsz hat hk, h.oi, h.ol, h.op, fun k hk hk2 => ?_⟩
 ·have := h.od k e.symm
  omega
 ·rcases hat with e | ⟨b, e, hb⟩
  ·exact h.di k (e ▸ hk) hk2
  ·rw [e] at hk
   injection hk with hk
   have := R_lt_size h.ri k hk2
   omega
theorem Held6.i_step (h : Held6 s0 s1 s4 s5 s6 s7 s8 s9 N w WN vd vi vl vp ld li ll lp W) (hg : W.grownBy W1 vi.ownBlock) (hr : Kd.R k61 61 W1 s0 (fun _ => True) v' l') (hat : v'.ownBlock = vi.ownBlock ∨ ∃ b, v'.ownBlock = some b ∧ W.heap.size ≤ b) : Held6 s0 s1 s4 s5 s6 s7 s8 s9 N w WN vd v' vl vp ld l' ll lp W1 := by
 have hle := h.le
 have hsz := h.sz
 refine ⟨hle, h.bw.grown hg h.base (fun k hk => Kd.R_base h.ri k hk), Nat.le_trans hsz hg.size, fun k hk q0 q1 q2 q3 => (hg.block k (by omega) (fun e => ?_)).trans (h.fr k hk q0 q1 q2 q3), R_aside rfl h.rd hg (fun k hk e => h.di k hk e.symm), hr, R_aside rfl h.rl hg (R_types_ne h.rl h.ri (by decide)), R_aside rfl h.rp hg (R_types_ne h.rp h.ri (by decide)), h.od, fun k hk => at_new h.oi hsz hat hk, h.ol, h.op, fun k hk hk2 => ?_⟩
 ·have := h.oi k e.symm
  omega
 ·rcases hat with e | ⟨b, e, hb⟩
  ·exact h.di k hk (e ▸ hk2)
  ·rw [e] at hk2
   injection hk2 with hk2
   have := R_lt_size h.rd k hk
   omega
theorem Held6.l_step (h : Held6 s0 s1 s4 s5 s6 s7 s8 s9 N w WN vd vi vl vp ld li ll lp W) (hg : W.grownBy W1 vl.ownBlock) (hr : Kd.R k55 55 W1 s0 (fun _ => True) v' lf) (hat : v'.ownBlock = vl.ownBlock ∨ ∃ b, v'.ownBlock = some b ∧ W.heap.size ≤ b) : Held6 s0 s1 s4 s5 s6 s7 s8 s9 N w WN vd vi v' vp ld li lf lp W1 := by
 have hle := h.le
 have hsz := h.sz
 refine ⟨hle, h.bw.grown hg h.base (fun k hk => Kd.R_base h.rl k hk), Nat.le_trans hsz hg.size, fun k hk q0 q1 q2 q3 => (hg.block k (by omega) (fun e => ?_)).trans (h.fr k hk q0 q1 q2 q3), R_aside rfl h.rd hg (R_types_ne h.rd h.rl (by decide)), R_aside rfl h.ri hg (R_types_ne h.ri h.rl (by decide)), hr, R_aside rfl h.rp hg (R_types_ne h.rp h.rl (by decide)), h.od, h.oi, fun k hk => at_new h.ol hsz hat hk, h.op, h.di⟩
 have := h.ol k e.symm
 omega
theorem Held6.p_step (h : Held6 s0 s1 s4 s5 s6 s7 s8 s9 N w WN vd vi vl vp ld li ll lp W) (hg : W.grownBy W1 vp.ownBlock) (hr : Kd.R Kd.string 9 W1 s0 (fun _ => True) v' lt) (hat : v'.ownBlock = vp.ownBlock ∨ ∃ b, v'.ownBlock = some b ∧ W.heap.size ≤ b) : Held6 s0 s1 s4 s5 s6 s7 s8 s9 N w WN vd vi vl v' ld li ll lt W1 := by
 have hle := h.le
 have hsz := h.sz
 refine ⟨hle, h.bw.grown hg h.base (fun k hk => Kd.R_base h.rp k hk), Nat.le_trans hsz hg.size, fun k hk q0 q1 q2 q3 => (hg.block k (by omega) (fun e => ?_)).trans (h.fr k hk q0 q1 q2 q3), R_aside rfl h.rd hg (R_types_ne h.rd h.rp (by decide)), R_aside rfl h.ri hg (R_types_ne h.ri h.rp (by decide)), R_aside rfl h.rl hg (R_types_ne h.rl h.rp (by decide)), hr, h.od, h.oi, h.ol, fun k hk => at_new h.op hsz hat hk, h.di⟩
 have := h.op k e.symm
 omega
theorem Held6.kept {α : Type} {d : Kd α} {e b lo hi : Nat} {v : Value} {xs : List α} (h : Held6 s0 s1 s4 s5 s6 s7 s8 s9 N w WN vd vi vl vp ld li ll lp W) (hr : d.R e WN b (fun k => lo ≤ k ∧ k < hi) v xs) (hN : hi ≤ N) (h0 : s1 ≤ lo ∨ hi ≤ s0) (h1 : s5 ≤ lo ∨ hi ≤ s4) (h2 : s7 ≤ lo ∨ hi ≤ s6) (h3 : s9 ≤ lo ∨ hi ≤ s8) : d.R e W b (fun k => lo ≤ k ∧ k < hi) v xs :=
 Kd.R_step hr fun k hk _ => h.fr k (by omega) (by omega) (by omega) (by omega) (by omega)
end
end Go.Proofs.YtehfogjibhnabaaDoor.PAll
