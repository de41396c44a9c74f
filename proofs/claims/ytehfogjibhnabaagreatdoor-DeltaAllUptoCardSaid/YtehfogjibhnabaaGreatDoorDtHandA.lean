/- path.Split, path.Depth: what they answer; their walks. -/
import Derived.Test.YtehfogjibhnabaaGreatDoorDtPAllx0
import Derived.Test.YtehfogjibhnabaaGreatDoorDtRowKit
import Derived.Test.YtehfogjibhnabaaGreatDoorDtShelf
import Derived.WalkMore
import Derived.Sort.Grow
namespace Go.Proofs.YtehfogjibhnabaaGreatDoor.PAll
open Go.RowKit Go.Shelf Go.Proofs.YtehfogjibhnabaaGreatDoorW.PrintWords Go.Proofs.YtehfogjibhnabaaGreatDoorW.PrintLast Go.Proofs.YtehfogjibhnabaaGreatDoorW.PrintMore
open Go.Proofs.YtehfogjibhnabaaGreatDoor.Sp
section
variable {P : Program} {ρ : Ren}
theorem split_one (L : Lays.n146 P ρ) (hi9 : (P.info? (ρ.t 9)).map (fun i => (i.zero, i.size, i.bytes)) = some (some (.string ByteArray.empty), 1, 16)) (s : ByteArray) (w : World) (hs : s.size < 4294967281) :
  Calls P (ρ.f 146) #[.string s, .string ⟨#[47]⟩] w fun e w' =>
   e = .returned (.slice (some ⟨w.heap.size, 0, none⟩) (Lib.countB s ⟨#[47]⟩ + 1) (Lib.countB s ⟨#[47]⟩ + 1)) ∧ w' = w.alloc (.cells ((Lib.splitB ⟨#[47]⟩ 0 (Lib.countB s ⟨#[47]⟩) s).map Value.string).toArray (ρ.t 9)) := by
 have h1 : 1 ≤ (⟨#[47]⟩ : ByteArray).size := by decide
 have hle := Lib.countB_le ⟨#[47]⟩ h1 s.size s (Nat.le_refl _)
 have hlen := Lib.splitB_all ⟨#[47]⟩ h1 0 _ s rfl
 have c := Any.strings_genSplit_core { L with } hi9 s ⟨#[47]⟩ 0 (-1) (Lib.countB s ⟨#[47]⟩ + 1) w hs h1 (Nat.zero_le _)
  (fun x c _ => (Any.strings_Index_one { L with } x 47 _).mono fun e w' ⟨he, hw⟩ => ⟨by rw [he]; show Ending.returned (Value.int .i64 (Lib.indexByte x.data.toList 47)) = Ending.returned (Value.int .i64 (Lib.index x.data.toList [47])); rw [Lib.index_one], hw⟩)
  ((Any.strings_Count_one { L with } s 47 w).mono fun e w' ⟨he, hw⟩ => ⟨by rw [he]; show _ = Ending.returned (Value.int .i64 ((Lib.count s.data.toList [47] : Nat) : Int)); rw [Lib.count_one]; rfl, hw⟩)
  (by decide) (by decide) (by rw [if_pos (by decide)]; omega)
 rw [Nat.add_sub_cancel, hlen] at c
 have e2 : Lib.cellsOf (Lib.splitB ⟨#[47]⟩ 0 (Lib.countB s ⟨#[47]⟩) s) (Lib.countB s ⟨#[47]⟩ + 1) = ((Lib.splitB ⟨#[47]⟩ 0 (Lib.countB s ⟨#[47]⟩) s).map Value.string).toArray := by rw [← hlen]; exact Lib.cellsOf_full _
 rw [e2] at c
 have t3 := L.t3; have t9 := L.t9; have t31 := L.t31
 have a3 := L.a3; have a9 := L.a9; have a31 := L.a31
 have z3 := L.z3; have v3 := L.v3; have z9 := L.z9; have v9 := L.v9; have z31 := L.z31; have v31 := L.v31
 have e221 : ∀ args w, (callFunc (ρ.f 221) args).run P w = .ok (.enter (ρ.f 221) args) w := enters_of L.f221 (by kernel_rfl) rfl
 go_enter L.f146, Body.n146_ntmps ρ
 go_wp2_with (go_at_fn (ρ.f 221); refine c.mono ?_; rintro e w' ⟨rfl, hw⟩; rw [hw])
 go_ret
 exact ⟨rfl, rfl⟩
end
def path_Split.f (_k : Nat) (a0 : ByteArray) : Option (List ByteArray) := if a0.size < 4294967281 then some (pB a0) else none
theorem path_Split.mono : ∀ a0 k, LeO (path_Split.f k a0) (path_Split.f (k + 1) a0) := fun _ _ => LeO.refl _
theorem info9s : (Tryz.prog.info? 9).map (fun i => (i.zero, i.size, i.bytes)) = some (some (.string ByteArray.empty), 1, 16) := by kernel_rfl
theorem split_nil (a0 : ByteArray) (w : World) (h : bs a0 = []) :
  Calls Tryz.prog 45 #[.string a0] w fun e w' => e = .returned (.slice none 0 0) ∧ w = w' := by
 have h1 : a0.toList = [] := by rw [toList_bs]; exact h
 have h2 : a0.toList.isEmpty = true := by rw [h1]; rfl
 clear h
 go_enter Tryz.func45, Tryz.ntmps45
 go_wp2
 go_ret
 exact ⟨rfl, rfl⟩
theorem split_some (a0 : ByteArray) (w : World) (h : bs a0 ≠ []) (hs : a0.size < 4294967281) :
  Calls Tryz.prog 45 #[.string a0] w fun e w' => e = .returned (.slice (some ⟨w.heap.size, 0, none⟩) (pB a0).length (pB a0).length) ∧ w.alloc (.cells ((pB a0).map Value.string).toArray 9) = w' := by
 have c := split_one Tryz.lays146 info9s a0 w hs
 have e1 : Lib.splitB ⟨#[47]⟩ 0 (Lib.countB a0 ⟨#[47]⟩) a0 = pB a0 := by rw [splitB_spl]; unfold pB; rw [pcs_of h]
 have e2 : Lib.countB a0 ⟨#[47]⟩ + 1 = (pB a0).length := by rw [← e1]; exact (Lib.splitB_all ⟨#[47]⟩ (by decide) 0 _ a0 rfl).symm
 rw [e1, e2] at c
 have h2 : a0.toList.isEmpty = false := by
  rw [toList_bs]
  cases hb : bs a0 with
  | nil => exact absurd hb h
  | cons _ _ => rfl
 clear h e1 e2 hs
 go_enter Tryz.func45, Tryz.ntmps45
 go_wp2_with (go_at_call 64; refine c.mono ?_; rintro e w' ⟨rfl, rfl⟩)
 go_ret
 exact ⟨rfl, rfl⟩
theorem reps_strs {M : ByteArray → List Value → Prop} (hM : ∀ x, M x [.string x]) : ∀ xs : List ByteArray, Reps M 1 xs (xs.map Value.string)
 | [] => Reps.none _ _
 | x :: xs => Reps.one (hM x) (reps_strs hM xs)
theorem R_strs (W : World) (base : Nat) (e : Nat) (xs : List ByteArray) (ok : Nat → Prop) (hb : base ≤ W.heap.size) (hm : xs.length ≤ 9223372036854775807) (hok : ok W.heap.size) :
  Kd.R Kd.string e (W.alloc (.cells (xs.map Value.string).toArray e)) base ok (.slice (some ⟨W.heap.size, 0, none⟩) xs.length xs.length) xs := by
 refine ⟨fun k hk => ?_, OwnRow.lit W base (reps_strs (M := Kd.string.M (W.alloc (.cells (xs.map Value.string).toArray e)) base (fun k => ok k ∧ some k ≠ (Value.slice (some ⟨W.heap.size, 0, none⟩) xs.length xs.length).ownBlock)) (fun _ => rfl) xs) hb hm⟩
 have : W.heap.size = k := by simpa [Value.ownBlock] using hk
 subst this
 exact hok
theorem pB_length_le (a : ByteArray) : (pB a).length ≤ a.size + 1 := by
 unfold pB
 rw [List.length_map]
 unfold pcs
 split
 ·simp
 rename_i h
 have := congrArg List.length (splitB_spl a)
 rw [List.length_map, Lib.splitB_all ⟨#[47]⟩ (by decide) 0 _ a rfl] at this
 have := Lib.countB_le ⟨#[47]⟩ (by decide) a.size a (Nat.le_refl _)
 omega
theorem path_Split.calls (k : Nat) (a0 : ByteArray) (r : List ByteArray) (w : World) (h : path_Split.f k a0 = some r) :
  Calls Tryz.prog 45 #[.string a0] w fun e w' => ∃ v0_ : Value, e = .returned (v0_) ∧ Kd.R Kd.string 9 w' w.heap.size (fun _ => True) v0_ r ∧ Below w.heap.size w w' := by
 unfold path_Split.f at h
 split at h
 rotate_left
 ·cases h
 rename_i hs
 obtain rfl := Option.some.inj h
 by_cases hb : bs a0 = []
 ·rw [pB_nil hb]
  exact (split_nil a0 w hb).mono fun e w' ⟨he, hw⟩ => by subst hw; exact ⟨_, he, Kd.R_nil _ _ _ _ _, Below.refl _ _⟩
 exact (split_some a0 w hb hs).mono fun e w' ⟨he, hw⟩ => by
  subst hw
  exact ⟨_, he, R_strs w _ _ _ _ (Nat.le_refl _) (by have := pB_length_le a0; omega) trivial, below_alloc (Below.refl _ _) _⟩
def path_Depth.f (_k : Nat) (a0 : ByteArray) : Option (Int) := if a0.size < 4294967281 then some ((pB a0).length : Int) else none
theorem path_Depth.mono : ∀ a0 k, LeO (path_Depth.f k a0) (path_Depth.f (k + 1) a0) := fun _ _ => LeO.refl _
theorem depth_nil (a0 : ByteArray) (w : World) (h : bs a0 = []) : Calls Tryz.prog 62 #[.string a0] w fun e w' => e = .returned (.int .i64 0) ∧ w = w' := by
 have h1 : a0.toList = [] := by rw [toList_bs]; exact h
 have h2 : a0.toList.isEmpty = true := by rw [h1]; rfl
 clear h
 go_enter Tryz.func62, Tryz.ntmps62
 go_wp2
 go_ret
 exact ⟨rfl, rfl⟩
theorem depth_some (a0 : ByteArray) (w : World) (h : bs a0 ≠ []) (n : Nat) (hn : n < 4294967281) (hc : Lib.countByte a0.data.toList 47 = n) : Calls Tryz.prog 62 #[.string a0] w fun e w' => e = .returned (.int .i64 (n + 1)) ∧ w = w' := by
 have c := Tryz.strings_Count_one a0 47 w
 rw [hc] at c
 have h2 : a0.toList.isEmpty = false := by
  rw [toList_bs]
  cases hb : bs a0 with
  | nil => exact absurd hb h
  | cons _ _ => rfl
 clear h hc
 go_enter Tryz.func62, Tryz.ntmps62
 go_wp2_with (go_at_call 81; refine c.mono ?_; rintro e w' ⟨rfl, rfl⟩)
 go_ret
 exact ⟨rfl, rfl⟩
theorem path_Depth.calls (k : Nat) (a0 : ByteArray) (r : Int) (w : World) (h : path_Depth.f k a0 = some r) :
  Calls Tryz.prog 62 #[.string a0] w fun e w' => e = .returned (.int .i64 r) ∧ Drawn0 w w' := by
 unfold path_Depth.f at h
 split at h
 rotate_left
 ·cases h
 rename_i hs
 obtain rfl := Option.some.inj h
 by_cases hb : bs a0 = []
 ·rw [pB_nil hb]
  exact (depth_nil a0 w hb).mono fun e w' ⟨he, hw⟩ => by subst hw; exact ⟨he, Drawn0.refl _⟩
 have e1 : Lib.splitB ⟨#[47]⟩ 0 (Lib.countB a0 ⟨#[47]⟩) a0 = pB a0 := by rw [splitB_spl]; unfold pB; rw [pcs_of hb]
 have e2 : Lib.countB a0 ⟨#[47]⟩ + 1 = (pB a0).length := by rw [← e1]; exact (Lib.splitB_all ⟨#[47]⟩ (by decide) 0 _ a0 rfl).symm
 have e3 : Lib.countByte a0.data.toList 47 = Lib.countB a0 ⟨#[47]⟩ := (Lib.count_one 47 a0.data.toList).symm
 have hle := Lib.countB_le ⟨#[47]⟩ (by decide) a0.size a0 (Nat.le_refl _)
 exact (depth_some a0 w hb _ (by omega) e3).mono fun e w' ⟨he, hw⟩ => by
  subst hw
  exact ⟨by rw [he, ← e2]; rfl, Drawn0.refl _⟩
open Go.RowKit Go.Proofs.YtehfogjibhnabaaGreatDoorW.PrintWords Go.Proofs.YtehfogjibhnabaaGreatDoorW.PrintLast Go.Proofs.YtehfogjibhnabaaGreatDoorW.PrintMore
attribute [local go_sem] max2_int min2_int max_two min_two max_three min_three max_four min_four
set_option linter.unusedVariables false
set_option linter.unusedSimpArgs false
theorem eqA43 (d : Nat) (w : World) (x0 y0 : ByteArray) (x1 y1 : ByteArray) (x2 y2 : Int) (x3 y3 : Int) :
  (Op.equalIn (d + 2) 43 (.agg #[.string x0, .string x1, .int .i64 x2, .int .i64 x3]) (.agg #[.string y0, .string y1, .int .i64 y2, .int .i64 y3])).run Tryz.prog w = .ok (x0.toList == y0.toList && (x1.toList == y1.toList && (x2 == y2 && (x3 == y3)))) w := by
 refine eqA_of Tryz.underlying43 (by kernel_rfl) ?_
 refine eqf_cons (by rfl) (by go_simp; rfl) (by go_simp; rfl) (by go_simp) ?_
 refine eqf_cons (by rfl) (by go_simp; rfl) (by go_simp; rfl) (by go_simp) ?_
 refine eqf_cons (by rfl) (by go_simp; rfl) (by go_simp; rfl) (by go_simp) ?_
 exact eqf_last (by rfl) (by go_simp; rfl) (by go_simp; rfl) (by go_simp)
theorem eqA45 (d : Nat) (w : World) (x0 y0 : ByteArray) (x1 y1 : Bool) (x2 y2 : Bool) (x3 y3 : ByteArray) (x4 y4 : ByteArray) (x5 y5 : Int) (x6 y6 : Int) (x7 y7 : ByteArray) (x8 y8 : ByteArray) (x9 y9 : Int) (x10 y10 : Int) :
  (Op.equalIn (d + 3) 45 (.agg #[.string x0, .bool x1, .bool x2, .string x3, .string x4, .int .i64 x5, .int .i64 x6, .string x7, .string x8, .int .i64 x9, .int .i64 x10]) (.agg #[.string y0, .bool y1, .bool y2, .string y3, .string y4, .int .i64 y5, .int .i64 y6, .string y7, .string y8, .int .i64 y9, .int .i64 y10])).run Tryz.prog w = .ok (x0.toList == y0.toList && (x1 == y1 && (x2 == y2 && ((x3.toList == y3.toList && (x4.toList == y4.toList && (x5 == y5 && (x6 == y6)))) && ((x7.toList == y7.toList && (x8.toList == y8.toList && (x9 == y9 && (x10 == y10))))))))) w := by
 refine eqA_of Tryz.underlying45 (by kernel_rfl) ?_
 refine eqf_cons (by rfl) (by go_simp; rfl) (by go_simp; rfl) (by go_simp) ?_
 refine eqf_cons (by rfl) (by go_simp; rfl) (by go_simp; rfl) (by go_simp) ?_
 refine eqf_cons (by rfl) (by go_simp; rfl) (by go_simp; rfl) (by go_simp) ?_
 refine eqf_cons (by rfl) (by go_simp) (by go_simp) (eqA43 (d + 0) w _ _ _ _ _ _ _ _) ?_
 exact eqf_last (by rfl) (by go_simp) (by go_simp) (eqA43 (d + 0) w _ _ _ _ _ _ _ _)
def copseref02_Split.l0 : Nat → ByteArray → List ByteArray → Int → Int → Option (List ByteArray)
 | 0, _, _, _, _ => none
 | k + 1, x0, x3, x4, x5 => if x5 ≤ (x0.size : Int) then (if x5 = (x0.size : Int) then (if 0 ≤ x4 then (if x4 ≤ x5 then (if x3.length < 8796093022208 then (copseref02_Split.l0 k x0 (x3 ++ [x0.extract (x4 : Int).toNat (x5 : Int).toNat]) (wrap64 (x5 + 1)) (wrap64 (x5 + 1))) else (none)) else (none)) else (none)) else (if 0 ≤ x5 then (if x5 < (x0.size : Int) then (if (bt x0 x5) = 47 then (if 0 ≤ x4 then (if x4 ≤ x5 then (if x3.length < 8796093022208 then (copseref02_Split.l0 k x0 (x3 ++ [x0.extract (x4 : Int).toNat (x5 : Int).toNat]) (wrap64 (x5 + 1)) (wrap64 (x5 + 1))) else (none)) else (none)) else (none)) else (copseref02_Split.l0 k x0 x3 x4 (wrap64 (x5 + 1)))) else (none)) else (none))) else (some x3)
def copseref02_Split.f (k : Nat) (a0 : ByteArray) : Option (List ByteArray) := if a0.toList = ([] : List UInt8) then (some ([] : List ByteArray)) else (copseref02_Split.l0 k a0 ([] : List ByteArray) 0 0)
set_option maxHeartbeats 8000000 in
set_option maxRecDepth 100000 in
theorem copseref02_Split.calls (k : Nat) (a0 : ByteArray) (r : List ByteArray) (w : World) (h : copseref02_Split.f k a0 = some r) :
  Calls Tryz.prog 51 #[.string a0] w fun e w' => ∃ v0_ : Value, e = .returned (v0_) ∧ Kd.R Kd.string 9 w' w.heap.size (fun _ => True) v0_ r ∧ Below w.heap.size w w' := by
 have HB := Aside0.mk (Below.refl w.heap.size w)
 have H : (if a0.toList = ([] : List UInt8) then (some ([] : List ByteArray)) else (copseref02_Split.l0 k a0 ([] : List ByteArray) 0 0)) = some r := h
 clear h
 by_cases c2 : a0.toList = ([] : List UInt8)
 ·rw [if_pos c2] at H
  have c2b0 : (a0.toList == ([] : List UInt8)) = true := beq_iff_eq.mpr c2
  have c2b1 : (a0.toList != ([] : List UInt8)) = false := bne_eq_false_iff_eq.mpr c2
  clear c2
  obtain rfl := Option.some.inj H
  go_enter Tryz.func51, Tryz.ntmps51
  go_wp2
  go_ret
  exact ⟨_, er_, nl_, bel_⟩
 rw [if_neg c2] at H
 have c2b0 : (a0.toList == ([] : List UInt8)) = false := beq_eq_false_iff_ne.mpr c2
 have c2b1 : (a0.toList != ([] : List UInt8)) = true := bne_iff_ne.mpr c2
 have H' := Aside0.mk H
 clear H
 go_enter Tryz.func51, Tryz.ntmps51
 go_wp2
 go_loopg [3, 4, 5] k (fun kq v3 v4 v5 w' => ∃ (x3_1 : List ByteArray) (x4_1 : Int) (x5_1 : Int), v4 = .int .i64 x4_1 ∧ v5 = .int .i64 x5_1 ∧ Aside0 (copseref02_Split.l0 kq a0 x3_1 x4_1 x5_1 = some r) ∧ Aside0 (kq ≤ k) ∧ Aside0 (Kd.R Kd.string 9 w' w.heap.size (fun _ => True) v3 x3_1) ∧ Aside0 (Below w.heap.size w w'))
 case atStart => exact ⟨(([] : List ByteArray)), (0), (0), (rf_), (rf_), H', ⟨Nat.le_refl _⟩, ⟨nl_⟩, ⟨bel_⟩⟩
 case round =>
  clear H'
  try clear c2
  try clear c2b0
  try clear c2b1
  try clear p2
  obtain ⟨x3_1, x4_1, x5_1, rfl, rfl, HA, HK1, HO_3, HB⟩ := hrel
  cases gk with
  | zero => exact absurd HA.out (by simp [copseref02_Split.l0])
  | succ k1 =>
   have H := HA.out
   clear HA
   simp only [copseref02_Split.l0] at H
   by_cases c3 : x5_1 ≤ (a0.size : Int)
   rotate_left
   ·rw [if_neg c3] at H
    have c3b0 := decide_eq_false c3
    clear c3
    obtain rfl := Option.some.inj H
    go_wp2
    go_ret
    exact ⟨_, er_, ur_ HO_3.out, bel_⟩
   rw [if_pos c3] at H
   have c3b0 := decide_eq_true c3
   clear c3
   by_cases c4 : x5_1 = (a0.size : Int)
   ·rw [if_pos c4] at H
    have c4b0 : (x5_1 == (a0.size : Int)) = true := beq_iff_eq.mpr c4
    have c4b1 : (x5_1 != (a0.size : Int)) = false := bne_eq_false_iff_eq.mpr c4
    clear c4
    by_cases c5 : 0 ≤ x4_1
    rotate_left
    ·rw [if_neg c5] at H
     exact absurd H (by simp)
    rw [if_pos c5] at H
    have c5b0 := eq_true c5
    have c5b1 := decide_eq_true c5
    clear c5
    by_cases c6 : x4_1 ≤ x5_1
    rotate_left
    ·rw [if_neg c6] at H
     exact absurd H (by simp)
    rw [if_pos c6] at H
    have c6b0 := eq_true c6
    have c6b1 := decide_eq_true c6
    clear c6
    have c7b0 := eq_true (of_decide_eq_true (by assumption) : x5_1 ≤ (a0.size : Int))
    by_cases c8 : x3_1.length < 8796093022208
    rotate_left
    ·rw [if_neg c8] at H
     exact absurd H (by simp)
    rw [if_pos c8] at H
    have LMc8 := Aside0.mk c8
    clear c8
    obtain ⟨y101, hy101⟩ : ∃ y_ : List ByteArray, y_ = (x3_1 ++ [a0.extract (x4_1 : Int).toNat (x5_1 : Int).toNat]) := ⟨_, rfl⟩
    replace H : (copseref02_Split.l0 k1 a0 y101 (wrap64 (x5_1 + 1)) (wrap64 (x5_1 + 1))) = some r := by first | (rw [hy101]; with_reducible exact H) | (have H2_ := (Option.bind_some _ _).symm.trans H; rw [hy101]; with_reducible exact H2_) | (have H2_ := (Option.bind_some _ _).symm.trans H; with_reducible exact H2_) | with_reducible exact H | (rw [hy101]; exact H) | exact H
    have Ny101 := Aside0.mk hy101
    clear hy101
    have H' := Aside0.mk H
    clear H
    go_wp2_with (first | ((with_reducible refine gate_builtin (b := .append) (xs := #[.tmp 25, .tmp 30]) rfl ?_); at_builtin; refine Kd.R_append Kd.string (w0 := w) w.heap.size rfl (.tmp 25) (.tmp 30) 38 9 (.string ⟨#[]⟩) 16 rfl Tryz.underlying38 info9 rfl (by decide) (by omega) u3 x3_1 (a0.extract (x4_1 : Int).toNat (x5_1 : Int).toNat) [.string (a0.extract (x4_1 : Int).toNat (x5_1 : Int).toNat)] (fun _ => True) (fun _ => False) rfl rfl ?aP (fun _ hk => hk.elim) ?aF ?aO ?aB ?aS ?aL ?_; (case aP => exact rfl); (case aB => exact (bel_)); (case aF => exact (fun _ _ => trivial)); (case aO => exact (ur_ HO_3.out)); (case aS => exact (below_size (bel_))); (case aL => have := LMc8.out; omega); intro v102 w9 ho hb hg hat; rw [← Ny101.out] at ho; have n0_ := Aside0.mk (hb); have n1_ := Aside0.mk (ho); clear HB; clear HO_3; have HB := n0_; have HO103 := n1_; clear n0_ n1_; clear ho hb hg hat))
    go_roundg k1
    case measure => have := HK1.out; omega
    case rel => exact ⟨(y101), (wrap64 (x5_1 + 1)), (wrap64 (x5_1 + 1)), (rf_), (rf_), H', ⟨by have := HK1.out; omega⟩, ⟨ur_ HO103.out⟩, ⟨bel_⟩⟩
   rw [if_neg c4] at H
   have c4b0 : (x5_1 == (a0.size : Int)) = false := beq_eq_false_iff_ne.mpr c4
   have c4b1 : (x5_1 != (a0.size : Int)) = true := bne_iff_ne.mpr c4
   by_cases c10 : 0 ≤ x5_1
   rotate_left
   ·rw [if_neg c10] at H
    exact absurd H (by simp)
   rw [if_pos c10] at H
   have c10b0 := decide_eq_true c10
   clear c10
   by_cases c11 : x5_1 < (a0.size : Int)
   rotate_left
   ·rw [if_neg c11] at H
    exact absurd H (by simp)
   rw [if_pos c11] at H
   have c11b0 := decide_eq_true c11
   clear c11
   by_cases c13 : (bt a0 x5_1) = 47
   rotate_left
   ·rw [if_neg c13] at H
    have c13b0 : ((bt a0 x5_1) == 47) = false := beq_eq_false_iff_ne.mpr c13
    have c13b1 : ((bt a0 x5_1) != 47) = true := bne_iff_ne.mpr c13
    have H' := Aside0.mk H
    clear H
    have p12 : 0 ≤ (x5_1 : Int) := of_decide_eq_true (by assumption)
    have q12 : x5_1 < (a0.size : Int) := of_decide_eq_true (by assumption)
    have hx12 := bt_at a0 x5_1
    replace p12 := eq_true p12
    replace q12 := eq_true q12
    go_wp2
    go_roundg k1
    case measure => have := HK1.out; omega
    case rel => exact ⟨(x3_1), (x4_1), (wrap64 (x5_1 + 1)), (rf_), (rf_), H', ⟨by have := HK1.out; omega⟩, ⟨ur_ HO_3.out⟩, ⟨bel_⟩⟩
   rw [if_pos c13] at H
   have c13b0 : ((bt a0 x5_1) == 47) = true := beq_iff_eq.mpr c13
   have c13b1 : ((bt a0 x5_1) != 47) = false := bne_eq_false_iff_eq.mpr c13
   clear c13
   by_cases c14 : 0 ≤ x4_1
   rotate_left
   ·rw [if_neg c14] at H
    exact absurd H (by simp)
   rw [if_pos c14] at H
   have c14b0 := eq_true c14
   have c14b1 := decide_eq_true c14
   clear c14
   by_cases c15 : x4_1 ≤ x5_1
   rotate_left
   ·rw [if_neg c15] at H
    exact absurd H (by simp)
   rw [if_pos c15] at H
   have c15b0 := eq_true c15
   have c15b1 := decide_eq_true c15
   clear c15
   have c16b0 := eq_true (of_decide_eq_true (by assumption) : x5_1 ≤ (a0.size : Int))
   by_cases c17 : x3_1.length < 8796093022208
   rotate_left
   ·rw [if_neg c17] at H
    exact absurd H (by simp)
   rw [if_pos c17] at H
   have LMc17 := Aside0.mk c17
   clear c17
   obtain ⟨y104, hy104⟩ : ∃ y_ : List ByteArray, y_ = (x3_1 ++ [a0.extract (x4_1 : Int).toNat (x5_1 : Int).toNat]) := ⟨_, rfl⟩
   replace H : (copseref02_Split.l0 k1 a0 y104 (wrap64 (x5_1 + 1)) (wrap64 (x5_1 + 1))) = some r := by first | (rw [hy104]; with_reducible exact H) | (have H2_ := (Option.bind_some _ _).symm.trans H; rw [hy104]; with_reducible exact H2_) | (have H2_ := (Option.bind_some _ _).symm.trans H; with_reducible exact H2_) | with_reducible exact H | (rw [hy104]; exact H) | exact H
   have Ny104 := Aside0.mk hy104
   clear hy104
   have H' := Aside0.mk H
   clear H
   have p12 : 0 ≤ (x5_1 : Int) := of_decide_eq_true (by assumption)
   have q12 : x5_1 < (a0.size : Int) := of_decide_eq_true (by assumption)
   have hx12 := bt_at a0 x5_1
   replace p12 := eq_true p12
   replace q12 := eq_true q12
   go_wp2_with (first | ((with_reducible refine gate_builtin (b := .append) (xs := #[.tmp 25, .tmp 30]) rfl ?_); at_builtin; refine Kd.R_append Kd.string (w0 := w) w.heap.size rfl (.tmp 25) (.tmp 30) 38 9 (.string ⟨#[]⟩) 16 rfl Tryz.underlying38 info9 rfl (by decide) (by omega) u3 x3_1 (a0.extract (x4_1 : Int).toNat (x5_1 : Int).toNat) [.string (a0.extract (x4_1 : Int).toNat (x5_1 : Int).toNat)] (fun _ => True) (fun _ => False) rfl rfl ?aP (fun _ hk => hk.elim) ?aF ?aO ?aB ?aS ?aL ?_; (case aP => exact rfl); (case aB => exact (bel_)); (case aF => exact (fun _ _ => trivial)); (case aO => exact (ur_ HO_3.out)); (case aS => exact (below_size (bel_))); (case aL => have := LMc17.out; omega); intro v105 w18 ho hb hg hat; rw [← Ny104.out] at ho; have n0_ := Aside0.mk (hb); have n1_ := Aside0.mk (ho); clear HB; clear HO_3; have HB := n0_; have HO106 := n1_; clear n0_ n1_; clear ho hb hg hat))
   go_roundg k1
   case measure => have := HK1.out; omega
   case rel => exact ⟨(y104), (wrap64 (x5_1 + 1)), (wrap64 (x5_1 + 1)), (rf_), (rf_), H', ⟨by have := HK1.out; omega⟩, ⟨ur_ HO106.out⟩, ⟨bel_⟩⟩
def copseref02_last.l0 : Nat → ByteArray → Int → Int → Option (Int)
 | 0, _, _, _ => none
 | k + 1, x0, x3, x4 => if x4 < (x0.size : Int) then (if 0 ≤ x4 then (if (bt x0 x4) = 47 then (copseref02_last.l0 k x0 x4 (wrap64 (x4 + 1))) else (copseref02_last.l0 k x0 x3 (wrap64 (x4 + 1)))) else (none)) else (some x3)
def copseref02_last.f (k : Nat) (a0 : ByteArray) : Option (Int) := copseref02_last.l0 k a0 (-1) 0
set_option maxHeartbeats 8000000 in
set_option maxRecDepth 100000 in
theorem copseref02_last.calls (k : Nat) (a0 : ByteArray) (r : Int) (w : World) (h : copseref02_last.f k a0 = some r) :
  Calls Tryz.prog 98 #[.string a0] w fun e w' => e = .returned (.int .i64 r) ∧ Drawn0 w w' := by
 have H : (copseref02_last.l0 k a0 (-1) 0) = some r := h
 clear h
 have H' := Aside0.mk H
 clear H
 go_enter Tryz.func98, Tryz.ntmps98
 go_wp2
 go_loopg [3, 4] k (fun kq v3 v4 w' => ∃ (x3_1 : Int) (x4_1 : Int), v3 = .int .i64 x3_1 ∧ v4 = .int .i64 x4_1 ∧ Aside0 (copseref02_last.l0 kq a0 x3_1 x4_1 = some r) ∧ Aside0 (kq ≤ k) ∧ Drawn0 w w')
 case atStart => exact ⟨((-1)), (0), (rf_), (rf_), H', ⟨Nat.le_refl _⟩, dr_⟩
 case round =>
  clear H'
  obtain ⟨x3_1, x4_1, rfl, rfl, HA, HK1, ⟨m1, rfl⟩⟩ := hrel
  cases gk with
  | zero => exact absurd HA.out (by simp [copseref02_last.l0])
  | succ k1 =>
   have H := HA.out
   clear HA
   simp only [copseref02_last.l0] at H
   by_cases c2 : x4_1 < (a0.size : Int)
   rotate_left
   ·rw [if_neg c2] at H
    have c2b0 := decide_eq_false c2
    clear c2
    obtain rfl := Option.some.inj H
    go_wp2
    go_ret
    exact ⟨rf_, dr_⟩
   rw [if_pos c2] at H
   have c2b0 := decide_eq_true c2
   clear c2
   by_cases c3 : 0 ≤ x4_1
   rotate_left
   ·rw [if_neg c3] at H
    exact absurd H (by simp)
   rw [if_pos c3] at H
   have c3b0 := decide_eq_true c3
   clear c3
   by_cases c5 : (bt a0 x4_1) = 47
   ·rw [if_pos c5] at H
    have c5b0 : ((bt a0 x4_1) == 47) = true := beq_iff_eq.mpr c5
    have c5b1 : ((bt a0 x4_1) != 47) = false := bne_eq_false_iff_eq.mpr c5
    clear c5
    have H' := Aside0.mk H
    clear H
    have p4 : 0 ≤ (x4_1 : Int) := of_decide_eq_true (by assumption)
    have q4 : x4_1 < (a0.size : Int) := of_decide_eq_true (by assumption)
    have hx4 := bt_at a0 x4_1
    replace p4 := eq_true p4
    replace q4 := eq_true q4
    go_wp2
    go_roundg k1
    case measure => have := HK1.out; omega
    case rel => exact ⟨(x4_1), (wrap64 (x4_1 + 1)), (rf_), (rf_), H', ⟨by have := HK1.out; omega⟩, dr_⟩
   rw [if_neg c5] at H
   have c5b0 : ((bt a0 x4_1) == 47) = false := beq_eq_false_iff_ne.mpr c5
   have c5b1 : ((bt a0 x4_1) != 47) = true := bne_iff_ne.mpr c5
   have H' := Aside0.mk H
   clear H
   have p4 : 0 ≤ (x4_1 : Int) := of_decide_eq_true (by assumption)
   have q4 : x4_1 < (a0.size : Int) := of_decide_eq_true (by assumption)
   have hx4 := bt_at a0 x4_1
   replace p4 := eq_true p4
   replace q4 := eq_true q4
   go_wp2
   go_roundg k1
   case measure => have := HK1.out; omega
   case rel => exact ⟨(x3_1), (wrap64 (x4_1 + 1)), (rf_), (rf_), H', ⟨by have := HK1.out; omega⟩, dr_⟩
attribute [local go_sem] max2_int min2_int max_two min_two max_three min_three max_four min_four
set_option linter.unusedVariables false
set_option linter.unusedSimpArgs false
attribute [local go_sem high] eqA43
def delta_half.f (a0 : ByteArray) (a1 : Bool) (a2_0 : ByteArray) (a2_1 : ByteArray) (a2_2 : Int) (a2_3 : Int) : Option (Bool) := if a1 = true then (some (a2_0.toList == a0.toList)) else (some (a2_0.toList == ([] : List UInt8) && (a2_1.toList == ([] : List UInt8) && (a2_2 == 0 && (a2_3 == 0)))))
set_option maxHeartbeats 8000000 in
set_option maxRecDepth 100000 in
theorem delta_half.calls (a0 : ByteArray) (a1 : Bool) (a2_0 : ByteArray) (a2_1 : ByteArray) (a2_2 : Int) (a2_3 : Int) (r : Bool) (w : World) (h : delta_half.f a0 a1 a2_0 a2_1 a2_2 a2_3 = some r) :
  Calls Tryz.prog 44 #[.string a0, .bool a1, .agg #[.string a2_0, .string a2_1, .int .i64 a2_2, .int .i64 a2_3]] w fun e w' => e = .returned (.bool r) ∧ Below w.heap.size w w' := by
 have hu43 := Tryz.underlying43
 have HB := Aside0.mk (Below.refl w.heap.size w)
 have H : (if a1 = true then (some (a2_0.toList == a0.toList)) else (some (a2_0.toList == ([] : List UInt8) && (a2_1.toList == ([] : List UInt8) && (a2_2 == 0 && (a2_3 == 0)))))) = some r := h
 clear h
 by_cases c4 : a1 = true
 ·subst c4
  rw [if_pos rfl] at H
  have H1 := H
  clear H
  have H := H1
  clear H1
  obtain rfl := Option.some.inj H
  go_enter Tryz.func44, Tryz.ntmps44
  go_wp2_with (first | ((with_reducible refine gate_dst (N := 5) rfl ?_); refine box_event ?hg (N := 5) ?hd (cs := #[.string a2_0, .string a2_1, .int .i64 a2_2, .int .i64 a2_3]) (t := 43) ?hr ?_; (case hd => rfl); (case hg => rfl); (case hr => first | (go_simp; done) | (go_simp; rfl)); intro gb117 hg w5 hbox hb; have n0_ := Aside0.mk (below_step (bel_) hb); have n1_ := Aside0.mk (hbox); have n2_ := Aside0.mk ((by rw [hg]; exact (below_size (bel_)) : w.heap.size ≤ gb117)); have n3_ := Aside0.mk ((by rw [hg]; exact (below_size (bel_)) : w.heap.size ≤ gb117)); clear HB; have HB := n0_; have BK117 := n1_; have GW117 := n2_; have GE117 := n3_; clear n0_ n1_ n2_ n3_; clear hb hbox hg; have hcz6_0 : w5.cell? ⟨gb117, 0, none⟩ = some (.string a2_0) := (blk_cell BK117.out 0).trans rfl; have hcz6_1 : w5.cell? ⟨gb117, 1, none⟩ = some (.string a2_1) := (blk_cell BK117.out 1).trans rfl; have hcz6_2 : w5.cell? ⟨gb117, 2, none⟩ = some (.int .i64 a2_2) := (blk_cell BK117.out 2).trans rfl; have hcz6_3 : w5.cell? ⟨gb117, 3, none⟩ = some (.int .i64 a2_3) := (blk_cell BK117.out 3).trans rfl; have hfz6_0 := blk_frozen BK117.out 0; have hfz6_1 := blk_frozen BK117.out 1; have hfz6_2 := blk_frozen BK117.out 2; have hfz6_3 := blk_frozen BK117.out 3))
  go_ret
  exact ⟨er_, bes_ GE117.out⟩
 replace c4 := Bool.eq_false_iff.mpr c4
 subst c4
 have H1 : (some (a2_0.toList == ([] : List UInt8) && (a2_1.toList == ([] : List UInt8) && (a2_2 == 0 && (a2_3 == 0))))) = some r := by rw [if_neg (show ¬ (false = true) by decide)] at H; exact H
 clear H
 have H := H1
 clear H1
 obtain rfl := Option.some.inj H
 go_enter Tryz.func44, Tryz.ntmps44
 go_wp2_with (first | ((with_reducible refine gate_dst (N := 5) rfl ?_); refine box_event ?hg (N := 5) ?hd (cs := #[.string a2_0, .string a2_1, .int .i64 a2_2, .int .i64 a2_3]) (t := 43) ?hr ?_; (case hd => rfl); (case hg => rfl); (case hr => first | (go_simp; done) | (go_simp; rfl)); intro gb117 hg w7 hbox hb; have n0_ := Aside0.mk (below_step (bel_) hb); have n1_ := Aside0.mk (hbox); have n2_ := Aside0.mk ((by rw [hg]; exact (below_size (bel_)) : w.heap.size ≤ gb117)); have n3_ := Aside0.mk ((by rw [hg]; exact (below_size (bel_)) : w.heap.size ≤ gb117)); clear HB; have HB := n0_; have BK117 := n1_; have GW117 := n2_; have GE117 := n3_; clear n0_ n1_ n2_ n3_; clear hb hbox hg; have hcz8_0 : w7.cell? ⟨gb117, 0, none⟩ = some (.string a2_0) := (blk_cell BK117.out 0).trans rfl; have hcz8_1 : w7.cell? ⟨gb117, 1, none⟩ = some (.string a2_1) := (blk_cell BK117.out 1).trans rfl; have hcz8_2 : w7.cell? ⟨gb117, 2, none⟩ = some (.int .i64 a2_2) := (blk_cell BK117.out 2).trans rfl; have hcz8_3 : w7.cell? ⟨gb117, 3, none⟩ = some (.int .i64 a2_3) := (blk_cell BK117.out 3).trans rfl; have hfz8_0 := blk_frozen BK117.out 0; have hfz8_1 := blk_frozen BK117.out 1; have hfz8_2 := blk_frozen BK117.out 2; have hfz8_3 := blk_frozen BK117.out 3))
 go_ret
 exact ⟨er_, bes_ GE117.out⟩
def path_common.l0 : Nat → List ByteArray → List ByteArray → Int → Option (Int)
 | 0, _, _, _ => none
 | k + 1, x0, x1, x5 => if x5 < (x0.length : Int) then (if x5 = (x1.length : Int) then (some x5) else (if 0 ≤ x5 then (if x5 < (x1.length : Int) then (if (rdOf ByteArray.empty x0 x5).toList = (rdOf ByteArray.empty x1 x5).toList then (path_common.l0 k x0 x1 (wrap64 (x5 + 1))) else (some x5)) else (none)) else (none))) else (some x5)
def path_common.f (k : Nat) (l0 : List ByteArray) (l1 : List ByteArray) : Option (Int) := path_common.l0 k l0 l1 0
theorem path_common.mono_l : ∀ k, (∀ y0 y1 y2, LeO (path_common.l0 k y0 y1 y2) (path_common.l0 (k + 1) y0 y1 y2))
 | 0 => fun _ _ _ r h => by simp [path_common.l0] at h
 | k + 1 => by
  have ih0 := path_common.mono_l k
  ·intro y0 y1 y2
   unfold path_common.l0
   repeat' first
   | (with_reducible exact ih0 _ _ _)
   | (with_reducible exact LeO.refl _)
   | (with_reducible exact LeO.none _)
   | (with_reducible refine LeO.ite ?_ ?_)
   | (with_reducible refine LeO.bind ?_ (fun _ => ?_))
   | exact ih0 _ _ _
   | exact LeO.none _
   | refine LeO.ite ?_ ?_
   | refine LeO.bind ?_ (fun _ => ?_)
theorem path_common.mono : ∀ a0 a1 k, LeO (path_common.f k a0 a1) (path_common.f (k + 1) a0 a1) := by
 intro a0 a1 k
 have ih0 := path_common.mono_l k
 unfold path_common.f
 repeat' first
   | (with_reducible exact ih0 _ _ _)
   | (with_reducible exact LeO.refl _)
   | (with_reducible exact LeO.none _)
   | (with_reducible refine LeO.ite ?_ ?_)
   | (with_reducible refine LeO.bind ?_ (fun _ => ?_))
   | exact ih0 _ _ _
   | exact LeO.none _
   | refine LeO.ite ?_ ?_
   | refine LeO.bind ?_ (fun _ => ?_)
set_option maxHeartbeats 8000000 in
set_option maxRecDepth 100000 in
theorem path_common.calls (k : Nat) (A0 : Option Addr) (c0 : Nat) (l0 : List ByteArray) (A1 : Option Addr) (c1 : Nat) (l1 : List ByteArray) (r : Int) (w : World) (hr0 : Kd.C Kd.string w A0 l0.length l0) (hc0 : l0.length ≤ c0) (hr1 : Kd.C Kd.string w A1 l1.length l1) (hc1 : l1.length ≤ c1) (h : path_common.f k l0 l1 = some r) :
  Calls Tryz.prog 46 #[.slice A0 l0.length c0, .slice A1 l1.length c1] w fun e w' => e = .returned (.int .i64 r) ∧ Drawn0 w w' := by
 have HR0 := Aside0.mk hr0
 have HC0 := Aside0.mk hc0
 clear hr0 hc0
 have HR1 := Aside0.mk hr1
 have HC1 := Aside0.mk hc1
 clear hr1 hc1
 have H : (path_common.l0 k l0 l1 0) = some r := h
 clear h
 have H' := Aside0.mk H
 clear H
 go_enter Tryz.func46, Tryz.ntmps46
 go_wp2
 go_step3
 go_wp2
 go_step3
 go_wp2
 repeat (go_quiet (fail); try go_wp2)
 go_loopg [5] k (fun kq v5 w' => ∃ (x5_1 : Int), v5 = .int .i64 x5_1 ∧ Aside0 (path_common.l0 kq l0 l1 x5_1 = some r) ∧ Aside0 (kq ≤ k) ∧ Drawn0 w w')
 case atStart => exact ⟨(0), (rf_), H', ⟨Nat.le_refl _⟩, dr_⟩
 case round =>
  clear H'
  try clear c1
  try clear p2
  obtain ⟨x5_1, rfl, HA, HK1, ⟨m1, rfl⟩⟩ := hrel
  cases gk with
  | zero => exact absurd HA.out (by simp [path_common.l0])
  | succ k1 =>
   have H := HA.out
   clear HA
   simp only [path_common.l0] at H
   by_cases c3 : x5_1 < (l0.length : Int)
   rotate_left
   ·rw [if_neg c3] at H
    have c3b0 := decide_eq_false c3
    clear c3
    obtain rfl := Option.some.inj H
    go_wp2
    repeat (go_quiet (fail); try go_wp2)
    (try rw [Exit.noGoto_ret])
    go_ret
    exact ⟨rf_, dr_⟩
   rw [if_pos c3] at H
   have c3b0 := decide_eq_true c3
   clear c3
   by_cases c4 : x5_1 = (l1.length : Int)
   ·rw [if_pos c4] at H
    have c4b0 : (x5_1 == (l1.length : Int)) = true := beq_iff_eq.mpr c4
    have c4b1 : (x5_1 != (l1.length : Int)) = false := bne_eq_false_iff_eq.mpr c4
    clear c4
    obtain rfl := Option.some.inj H
    go_wp2
    repeat (go_quiet (fail); try go_wp2)
    (try rw [Exit.noGoto_ret])
    go_ret
    exact ⟨rf_, dr_⟩
   rw [if_neg c4] at H
   have c4b0 : (x5_1 == (l1.length : Int)) = false := beq_eq_false_iff_ne.mpr c4
   have c4b1 : (x5_1 != (l1.length : Int)) = true := bne_iff_ne.mpr c4
   by_cases c5 : 0 ≤ x5_1
   rotate_left
   ·rw [if_neg c5] at H
    exact absurd H (by simp)
   rw [if_pos c5] at H
   have c5b0 := decide_eq_true c5
   clear c5
   by_cases c6 : x5_1 < (l1.length : Int)
   rotate_left
   ·rw [if_neg c6] at H
    exact absurd H (by simp)
   rw [if_pos c6] at H
   have c6b0 := decide_eq_true c6
   clear c6
   by_cases c7 : (rdOf ByteArray.empty l0 x5_1).toList = (rdOf ByteArray.empty l1 x5_1).toList
   ·rw [if_pos c7] at H
    have c7b0 : ((rdOf ByteArray.empty l0 x5_1).toList == (rdOf ByteArray.empty l1 x5_1).toList) = true := beq_iff_eq.mpr c7
    have c7b1 : ((rdOf ByteArray.empty l0 x5_1).toList != (rdOf ByteArray.empty l1 x5_1).toList) = false := bne_eq_false_iff_eq.mpr c7
    clear c7
    have H' := Aside0.mk H
    clear H
    have p122 : 0 ≤ (x5_1 : Int) := of_decide_eq_true (by assumption)
    have q122 : x5_1 < (l0.length : Int) := of_decide_eq_true (by assumption)
    obtain ⟨ad122, e122, hx122_0⟩ := Kd.at_string HR0.out x5_1 p122 q122
    cases e122
    replace p122 := eq_true p122
    replace q122 := eq_true q122
    have p123 : 0 ≤ (x5_1 : Int) := of_decide_eq_true (by assumption)
    have q123 : x5_1 < (l1.length : Int) := of_decide_eq_true (by assumption)
    obtain ⟨ad123, e123, hx123_0⟩ := Kd.at_string HR1.out x5_1 p123 q123
    cases e123
    replace p123 := eq_true p123
    replace q123 := eq_true q123
    go_wp2
    repeat (go_quiet (fail); try go_wp2)
    go_roundg k1
    case measure => have := HK1.out; omega
    case rel => exact ⟨(wrap64 (x5_1 + 1)), (rf_), H', ⟨by have := HK1.out; omega⟩, dr_⟩
   rw [if_neg c7] at H
   have c7b0 : ((rdOf ByteArray.empty l0 x5_1).toList == (rdOf ByteArray.empty l1 x5_1).toList) = false := beq_eq_false_iff_ne.mpr c7
   have c7b1 : ((rdOf ByteArray.empty l0 x5_1).toList != (rdOf ByteArray.empty l1 x5_1).toList) = true := bne_iff_ne.mpr c7
   obtain rfl := Option.some.inj H
   have p122 : 0 ≤ (x5_1 : Int) := of_decide_eq_true (by assumption)
   have q122 : x5_1 < (l0.length : Int) := of_decide_eq_true (by assumption)
   obtain ⟨ad122, e122, hx122_0⟩ := Kd.at_string HR0.out x5_1 p122 q122
   cases e122
   replace p122 := eq_true p122
   replace q122 := eq_true q122
   have p123 : 0 ≤ (x5_1 : Int) := of_decide_eq_true (by assumption)
   have q123 : x5_1 < (l1.length : Int) := of_decide_eq_true (by assumption)
   obtain ⟨ad123, e123, hx123_0⟩ := Kd.at_string HR1.out x5_1 p123 q123
   cases e123
   replace p123 := eq_true p123
   replace q123 := eq_true q123
   go_wp2
   repeat (go_quiet (fail); try go_wp2)
   (try rw [Exit.noGoto_ret])
   go_ret
   exact ⟨rf_, dr_⟩
def cmp_isNaN_string.f (a0 : ByteArray) : Option (Bool) := some (a0.toList != a0.toList)
set_option maxHeartbeats 8000000 in
set_option maxRecDepth 100000 in
theorem cmp_isNaN_string.calls (a0 : ByteArray) (r : Bool) (w : World) (h : cmp_isNaN_string.f a0 = some r) :
  Calls Tryz.prog 65 #[.string a0] w fun e w' => e = .returned (.bool r) ∧ Drawn0 w w' := by
 have H : (some (a0.toList != a0.toList)) = some r := h
 clear h
 obtain rfl := Option.some.inj H
 go_enter Tryz.func65, Tryz.ntmps65
 go_wp2
 go_ret
 exact ⟨rf_, dr_⟩
def cmp_Compare_string.f (a0 : ByteArray) (a1 : ByteArray) : Option (Int) := (cmp_isNaN_string.f a0).bind fun t124 => ((cmp_isNaN_string.f a1).bind fun t125 => (if t124 = true then (if t125 = true then (some 0) else (some (-1))) else (if t125 = true then (some 1) else (if (Op.bytesLess a0.toList a1.toList) = true then (some (-1)) else (if (Op.bytesLess a1.toList a0.toList) = true then (some 1) else (some 0))))))
set_option maxHeartbeats 8000000 in
set_option maxRecDepth 100000 in
theorem cmp_Compare_string.calls (a0 : ByteArray) (a1 : ByteArray) (r : Int) (w : World) (h : cmp_Compare_string.f a0 a1 = some r) :
  Calls Tryz.prog 47 #[.string a0, .string a1] w fun e w' => e = .returned (.int .i64 r) ∧ Drawn0 w w' := by
 have H : ((cmp_isNaN_string.f a0).bind fun t124 => ((cmp_isNaN_string.f a1).bind fun t125 => (if t124 = true then (if t125 = true then (some 0) else (some (-1))) else (if t125 = true then (some 1) else (if (Op.bytesLess a0.toList a1.toList) = true then (some (-1)) else (if (Op.bytesLess a1.toList a0.toList) = true then (some 1) else (some 0))))))) = some r := h
 clear h
 replace H := Option.bind_eq_some_iff.mp H
 obtain ⟨t124, A30, H⟩ := H
 try dsimp only at H
 have A3 := Aside0.mk A30
 clear A30
 replace H := Option.bind_eq_some_iff.mp H
 obtain ⟨t125, A40, H⟩ := H
 try dsimp only at H
 have A4 := Aside0.mk A40
 clear A40
 by_cases c5 : t124 = true
 ·subst c5
  rw [if_pos rfl] at H
  have H1 := H
  clear H
  have H := H1
  clear H1
  by_cases c6 : t125 = true
  ·subst c6
   rw [if_pos rfl] at H
   have H1 := H
   clear H
   have H := H1
   clear H1
   obtain rfl := Option.some.inj H
   go_enter Tryz.func47, Tryz.ntmps47
   go_wp2_with (first | ((with_reducible refine gate_callee (f := 65) rfl ?_); refine goesL_ (some 8) rfl rfl Tryz.func65 (by kernel_rfl) rfl #[.string a0] rfl (mp_) ?_; (with_reducible refine (cmp_isNaN_string.calls a0 true _ A3.out).mono ?_); rintro e w' ⟨rfl, ⟨nd, rfl⟩⟩; refine ⟨_, rfl, ?_⟩) | ((with_reducible refine gate_callee (f := 65) rfl ?_); refine goesL_ (some 10) rfl rfl Tryz.func65 (by kernel_rfl) rfl #[.string a1] rfl (mp_) ?_; (with_reducible refine (cmp_isNaN_string.calls a1 true _ A4.out).mono ?_); rintro e w' ⟨rfl, ⟨nd, rfl⟩⟩; refine ⟨_, rfl, ?_⟩))
   go_ret
   exact ⟨rf_, dr_⟩
  replace c6 := Bool.eq_false_iff.mpr c6
  subst c6
  have H1 : (some (-1)) = some r := by rw [if_neg (show ¬ (false = true) by decide)] at H; exact H
  clear H
  have H := H1
  clear H1
  obtain rfl := Option.some.inj H
  go_enter Tryz.func47, Tryz.ntmps47
  go_wp2_with (first | ((with_reducible refine gate_callee (f := 65) rfl ?_); refine goesL_ (some 8) rfl rfl Tryz.func65 (by kernel_rfl) rfl #[.string a0] rfl (mp_) ?_; (with_reducible refine (cmp_isNaN_string.calls a0 true _ A3.out).mono ?_); rintro e w' ⟨rfl, ⟨nd, rfl⟩⟩; refine ⟨_, rfl, ?_⟩) | ((with_reducible refine gate_callee (f := 65) rfl ?_); refine goesL_ (some 10) rfl rfl Tryz.func65 (by kernel_rfl) rfl #[.string a1] rfl (mp_) ?_; (with_reducible refine (cmp_isNaN_string.calls a1 false _ A4.out).mono ?_); rintro e w' ⟨rfl, ⟨nd, rfl⟩⟩; refine ⟨_, rfl, ?_⟩))
  go_ret
  exact ⟨rf_, dr_⟩
 replace c5 := Bool.eq_false_iff.mpr c5
 subst c5
 have H1 : (if t125 = true then (some 1) else (if (Op.bytesLess a0.toList a1.toList) = true then (some (-1)) else (if (Op.bytesLess a1.toList a0.toList) = true then (some 1) else (some 0)))) = some r := by rw [if_neg (show ¬ (false = true) by decide)] at H; exact H
 clear H
 have H := H1
 clear H1
 by_cases c7 : t125 = true
 ·subst c7
  rw [if_pos rfl] at H
  have H1 := H
  clear H
  have H := H1
  clear H1
  obtain rfl := Option.some.inj H
  go_enter Tryz.func47, Tryz.ntmps47
  go_wp2_with (first | ((with_reducible refine gate_callee (f := 65) rfl ?_); refine goesL_ (some 8) rfl rfl Tryz.func65 (by kernel_rfl) rfl #[.string a0] rfl (mp_) ?_; (with_reducible refine (cmp_isNaN_string.calls a0 false _ A3.out).mono ?_); rintro e w' ⟨rfl, ⟨nd, rfl⟩⟩; refine ⟨_, rfl, ?_⟩) | ((with_reducible refine gate_callee (f := 65) rfl ?_); refine goesL_ (some 10) rfl rfl Tryz.func65 (by kernel_rfl) rfl #[.string a1] rfl (mp_) ?_; (with_reducible refine (cmp_isNaN_string.calls a1 true _ A4.out).mono ?_); rintro e w' ⟨rfl, ⟨nd, rfl⟩⟩; refine ⟨_, rfl, ?_⟩))
  go_ret
  exact ⟨rf_, dr_⟩
 replace c7 := Bool.eq_false_iff.mpr c7
 subst c7
 have H1 : (if (Op.bytesLess a0.toList a1.toList) = true then (some (-1)) else (if (Op.bytesLess a1.toList a0.toList) = true then (some 1) else (some 0))) = some r := by rw [if_neg (show ¬ (false = true) by decide)] at H; exact H
 clear H
 have H := H1
 clear H1
 by_cases c8 : (Op.bytesLess a0.toList a1.toList) = true
 ·rw [if_pos c8] at H
  have c8b0 : (Op.bytesLess a0.toList a1.toList) = true := c8
  clear c8
  obtain rfl := Option.some.inj H
  go_enter Tryz.func47, Tryz.ntmps47
  go_wp2_with (first | ((with_reducible refine gate_callee (f := 65) rfl ?_); refine goesL_ (some 8) rfl rfl Tryz.func65 (by kernel_rfl) rfl #[.string a0] rfl (mp_) ?_; (with_reducible refine (cmp_isNaN_string.calls a0 false _ A3.out).mono ?_); rintro e w' ⟨rfl, ⟨nd, rfl⟩⟩; refine ⟨_, rfl, ?_⟩) | ((with_reducible refine gate_callee (f := 65) rfl ?_); refine goesL_ (some 10) rfl rfl Tryz.func65 (by kernel_rfl) rfl #[.string a1] rfl (mp_) ?_; (with_reducible refine (cmp_isNaN_string.calls a1 false _ A4.out).mono ?_); rintro e w' ⟨rfl, ⟨nd, rfl⟩⟩; refine ⟨_, rfl, ?_⟩))
  go_ret
  exact ⟨rf_, dr_⟩
 rw [if_neg c8] at H
 have c8b0 : (Op.bytesLess a0.toList a1.toList) = false := by simpa using c8
 clear c8
 by_cases c9 : (Op.bytesLess a1.toList a0.toList) = true
 ·rw [if_pos c9] at H
  have c9b0 : (Op.bytesLess a1.toList a0.toList) = true := c9
  have c9b9 : (a0.toList == a1.toList) = false := Go.Proofs.YtehfogjibhnabaaGreatDoor.Sp.gt_ne c8b0 c9b0
  clear c9
  obtain rfl := Option.some.inj H
  go_enter Tryz.func47, Tryz.ntmps47
  go_wp2_with (first | ((with_reducible refine gate_callee (f := 65) rfl ?_); refine goesL_ (some 8) rfl rfl Tryz.func65 (by kernel_rfl) rfl #[.string a0] rfl (mp_) ?_; (with_reducible refine (cmp_isNaN_string.calls a0 false _ A3.out).mono ?_); rintro e w' ⟨rfl, ⟨nd, rfl⟩⟩; refine ⟨_, rfl, ?_⟩) | ((with_reducible refine gate_callee (f := 65) rfl ?_); refine goesL_ (some 10) rfl rfl Tryz.func65 (by kernel_rfl) rfl #[.string a1] rfl (mp_) ?_; (with_reducible refine (cmp_isNaN_string.calls a1 false _ A4.out).mono ?_); rintro e w' ⟨rfl, ⟨nd, rfl⟩⟩; refine ⟨_, rfl, ?_⟩))
  go_ret
  exact ⟨rf_, dr_⟩
 rw [if_neg c9] at H
 have c9b0 : (Op.bytesLess a1.toList a0.toList) = false := by simpa using c9
 have c9b9 : (a0.toList == a1.toList) = true := Go.Proofs.YtehfogjibhnabaaGreatDoor.Sp.gt_eq c8b0 c9b0
 clear c9
 obtain rfl := Option.some.inj H
 go_enter Tryz.func47, Tryz.ntmps47
 go_wp2_with (first | ((with_reducible refine gate_callee (f := 65) rfl ?_); refine goesL_ (some 8) rfl rfl Tryz.func65 (by kernel_rfl) rfl #[.string a0] rfl (mp_) ?_; (with_reducible refine (cmp_isNaN_string.calls a0 false _ A3.out).mono ?_); rintro e w' ⟨rfl, ⟨nd, rfl⟩⟩; refine ⟨_, rfl, ?_⟩) | ((with_reducible refine gate_callee (f := 65) rfl ?_); refine goesL_ (some 10) rfl rfl Tryz.func65 (by kernel_rfl) rfl #[.string a1] rfl (mp_) ?_; (with_reducible refine (cmp_isNaN_string.calls a1 false _ A4.out).mono ?_); rintro e w' ⟨rfl, ⟨nd, rfl⟩⟩; refine ⟨_, rfl, ?_⟩))
 go_ret
 exact ⟨rf_, dr_⟩
def cmp_isNaN_int.f (a0 : Int) : Option (Bool) := some (a0 != a0)
set_option maxHeartbeats 8000000 in
set_option maxRecDepth 100000 in
theorem cmp_isNaN_int.calls (a0 : Int) (r : Bool) (w : World) (h : cmp_isNaN_int.f a0 = some r) :
  Calls Tryz.prog 66 #[.int .i64 a0] w fun e w' => e = .returned (.bool r) ∧ Drawn0 w w' := by
 have H : (some (a0 != a0)) = some r := h
 clear h
 obtain rfl := Option.some.inj H
 go_enter Tryz.func66, Tryz.ntmps66
 go_wp2
 go_ret
 exact ⟨rf_, dr_⟩
def cmp_Compare_int.f (a0 : Int) (a1 : Int) : Option (Int) := (cmp_isNaN_int.f a0).bind fun t126 => ((cmp_isNaN_int.f a1).bind fun t127 => (if t126 = true then (if t127 = true then (some 0) else (some (-1))) else (if t127 = true then (some 1) else (if a0 < a1 then (some (-1)) else (if a0 > a1 then (some 1) else (some 0))))))
set_option maxHeartbeats 8000000 in
set_option maxRecDepth 100000 in
theorem cmp_Compare_int.calls (a0 : Int) (a1 : Int) (r : Int) (w : World) (h : cmp_Compare_int.f a0 a1 = some r) :
  Calls Tryz.prog 48 #[.int .i64 a0, .int .i64 a1] w fun e w' => e = .returned (.int .i64 r) ∧ Drawn0 w w' := by
 have H : ((cmp_isNaN_int.f a0).bind fun t126 => ((cmp_isNaN_int.f a1).bind fun t127 => (if t126 = true then (if t127 = true then (some 0) else (some (-1))) else (if t127 = true then (some 1) else (if a0 < a1 then (some (-1)) else (if a0 > a1 then (some 1) else (some 0))))))) = some r := h
 clear h
 replace H := Option.bind_eq_some_iff.mp H
 obtain ⟨t126, A30, H⟩ := H
 try dsimp only at H
 have A3 := Aside0.mk A30
 clear A30
 replace H := Option.bind_eq_some_iff.mp H
 obtain ⟨t127, A40, H⟩ := H
 try dsimp only at H
 have A4 := Aside0.mk A40
 clear A40
 by_cases c5 : t126 = true
 ·subst c5
  rw [if_pos rfl] at H
  have H1 := H
  clear H
  have H := H1
  clear H1
  by_cases c6 : t127 = true
  ·subst c6
   rw [if_pos rfl] at H
   have H1 := H
   clear H
   have H := H1
   clear H1
   obtain rfl := Option.some.inj H
   go_enter Tryz.func48, Tryz.ntmps48
   go_wp2_with (first | ((with_reducible refine gate_callee (f := 66) rfl ?_); refine goesL_ (some 8) rfl rfl Tryz.func66 (by kernel_rfl) rfl #[.int .i64 a0] rfl (mp_) ?_; (with_reducible refine (cmp_isNaN_int.calls a0 true _ A3.out).mono ?_); rintro e w' ⟨rfl, ⟨nd, rfl⟩⟩; refine ⟨_, rfl, ?_⟩) | ((with_reducible refine gate_callee (f := 66) rfl ?_); refine goesL_ (some 10) rfl rfl Tryz.func66 (by kernel_rfl) rfl #[.int .i64 a1] rfl (mp_) ?_; (with_reducible refine (cmp_isNaN_int.calls a1 true _ A4.out).mono ?_); rintro e w' ⟨rfl, ⟨nd, rfl⟩⟩; refine ⟨_, rfl, ?_⟩))
   go_ret
   exact ⟨rf_, dr_⟩
  replace c6 := Bool.eq_false_iff.mpr c6
  subst c6
  have H1 : (some (-1)) = some r := by rw [if_neg (show ¬ (false = true) by decide)] at H; exact H
  clear H
  have H := H1
  clear H1
  obtain rfl := Option.some.inj H
  go_enter Tryz.func48, Tryz.ntmps48
  go_wp2_with (first | ((with_reducible refine gate_callee (f := 66) rfl ?_); refine goesL_ (some 8) rfl rfl Tryz.func66 (by kernel_rfl) rfl #[.int .i64 a0] rfl (mp_) ?_; (with_reducible refine (cmp_isNaN_int.calls a0 true _ A3.out).mono ?_); rintro e w' ⟨rfl, ⟨nd, rfl⟩⟩; refine ⟨_, rfl, ?_⟩) | ((with_reducible refine gate_callee (f := 66) rfl ?_); refine goesL_ (some 10) rfl rfl Tryz.func66 (by kernel_rfl) rfl #[.int .i64 a1] rfl (mp_) ?_; (with_reducible refine (cmp_isNaN_int.calls a1 false _ A4.out).mono ?_); rintro e w' ⟨rfl, ⟨nd, rfl⟩⟩; refine ⟨_, rfl, ?_⟩))
  go_ret
  exact ⟨rf_, dr_⟩
 replace c5 := Bool.eq_false_iff.mpr c5
 subst c5
 have H1 : (if t127 = true then (some 1) else (if a0 < a1 then (some (-1)) else (if a0 > a1 then (some 1) else (some 0)))) = some r := by rw [if_neg (show ¬ (false = true) by decide)] at H; exact H
 clear H
 have H := H1
 clear H1
 by_cases c7 : t127 = true
 ·subst c7
  rw [if_pos rfl] at H
  have H1 := H
  clear H
  have H := H1
  clear H1
  obtain rfl := Option.some.inj H
  go_enter Tryz.func48, Tryz.ntmps48
  go_wp2_with (first | ((with_reducible refine gate_callee (f := 66) rfl ?_); refine goesL_ (some 8) rfl rfl Tryz.func66 (by kernel_rfl) rfl #[.int .i64 a0] rfl (mp_) ?_; (with_reducible refine (cmp_isNaN_int.calls a0 false _ A3.out).mono ?_); rintro e w' ⟨rfl, ⟨nd, rfl⟩⟩; refine ⟨_, rfl, ?_⟩) | ((with_reducible refine gate_callee (f := 66) rfl ?_); refine goesL_ (some 10) rfl rfl Tryz.func66 (by kernel_rfl) rfl #[.int .i64 a1] rfl (mp_) ?_; (with_reducible refine (cmp_isNaN_int.calls a1 true _ A4.out).mono ?_); rintro e w' ⟨rfl, ⟨nd, rfl⟩⟩; refine ⟨_, rfl, ?_⟩))
  go_ret
  exact ⟨rf_, dr_⟩
 replace c7 := Bool.eq_false_iff.mpr c7
 subst c7
 have H1 : (if a0 < a1 then (some (-1)) else (if a0 > a1 then (some 1) else (some 0))) = some r := by rw [if_neg (show ¬ (false = true) by decide)] at H; exact H
 clear H
 have H := H1
 clear H1
 by_cases c8 : a0 < a1
 ·rw [if_pos c8] at H
  have c8b0 := decide_eq_true c8
  clear c8
  obtain rfl := Option.some.inj H
  go_enter Tryz.func48, Tryz.ntmps48
  go_wp2_with (first | ((with_reducible refine gate_callee (f := 66) rfl ?_); refine goesL_ (some 8) rfl rfl Tryz.func66 (by kernel_rfl) rfl #[.int .i64 a0] rfl (mp_) ?_; (with_reducible refine (cmp_isNaN_int.calls a0 false _ A3.out).mono ?_); rintro e w' ⟨rfl, ⟨nd, rfl⟩⟩; refine ⟨_, rfl, ?_⟩) | ((with_reducible refine gate_callee (f := 66) rfl ?_); refine goesL_ (some 10) rfl rfl Tryz.func66 (by kernel_rfl) rfl #[.int .i64 a1] rfl (mp_) ?_; (with_reducible refine (cmp_isNaN_int.calls a1 false _ A4.out).mono ?_); rintro e w' ⟨rfl, ⟨nd, rfl⟩⟩; refine ⟨_, rfl, ?_⟩))
  go_ret
  exact ⟨rf_, dr_⟩
 rw [if_neg c8] at H
 have c8b0 := decide_eq_false c8
 clear c8
 by_cases c9 : a0 > a1
 ·rw [if_pos c9] at H
  have c9b0 := decide_eq_true c9
  clear c9
  obtain rfl := Option.some.inj H
  go_enter Tryz.func48, Tryz.ntmps48
  go_wp2_with (first | ((with_reducible refine gate_callee (f := 66) rfl ?_); refine goesL_ (some 8) rfl rfl Tryz.func66 (by kernel_rfl) rfl #[.int .i64 a0] rfl (mp_) ?_; (with_reducible refine (cmp_isNaN_int.calls a0 false _ A3.out).mono ?_); rintro e w' ⟨rfl, ⟨nd, rfl⟩⟩; refine ⟨_, rfl, ?_⟩) | ((with_reducible refine gate_callee (f := 66) rfl ?_); refine goesL_ (some 10) rfl rfl Tryz.func66 (by kernel_rfl) rfl #[.int .i64 a1] rfl (mp_) ?_; (with_reducible refine (cmp_isNaN_int.calls a1 false _ A4.out).mono ?_); rintro e w' ⟨rfl, ⟨nd, rfl⟩⟩; refine ⟨_, rfl, ?_⟩))
  go_ret
  exact ⟨rf_, dr_⟩
 rw [if_neg c9] at H
 have c9b0 := decide_eq_false c9
 clear c9
 obtain rfl := Option.some.inj H
 go_enter Tryz.func48, Tryz.ntmps48
 go_wp2_with (first | ((with_reducible refine gate_callee (f := 66) rfl ?_); refine goesL_ (some 8) rfl rfl Tryz.func66 (by kernel_rfl) rfl #[.int .i64 a0] rfl (mp_) ?_; (with_reducible refine (cmp_isNaN_int.calls a0 false _ A3.out).mono ?_); rintro e w' ⟨rfl, ⟨nd, rfl⟩⟩; refine ⟨_, rfl, ?_⟩) | ((with_reducible refine gate_callee (f := 66) rfl ?_); refine goesL_ (some 10) rfl rfl Tryz.func66 (by kernel_rfl) rfl #[.int .i64 a1] rfl (mp_) ?_; (with_reducible refine (cmp_isNaN_int.calls a1 false _ A4.out).mono ?_); rintro e w' ⟨rfl, ⟨nd, rfl⟩⟩; refine ⟨_, rfl, ?_⟩))
 go_ret
 exact ⟨rf_, dr_⟩
def bytealg_LastIndexByteString.l0 : Nat → ByteArray → Int → Int → Option (Int)
 | 0, _, _, _ => none
 | k + 1, x0, x1, x5 => if x5 ≥ 0 then (if 0 ≤ x5 then (if x5 < (x0.size : Int) then (if (bt x0 x5) = x1 then (some x5) else (bytealg_LastIndexByteString.l0 k x0 x1 (wrap64 (x5 - 1)))) else (none)) else (none)) else (some (-1))
def bytealg_LastIndexByteString.f (k : Nat) (a0 : ByteArray) (a1 : Int) : Option (Int) := bytealg_LastIndexByteString.l0 k a0 a1 (wrap64 ((a0.size : Int) - 1))
theorem bytealg_LastIndexByteString.mono_l : ∀ k, (∀ y0 y1 y2, LeO (bytealg_LastIndexByteString.l0 k y0 y1 y2) (bytealg_LastIndexByteString.l0 (k + 1) y0 y1 y2))
 | 0 => fun _ _ _ r h => by simp [bytealg_LastIndexByteString.l0] at h
 | k + 1 => by
  have ih0 := bytealg_LastIndexByteString.mono_l k
  ·intro y0 y1 y2
   unfold bytealg_LastIndexByteString.l0
   repeat' first
   | (with_reducible exact ih0 _ _ _)
   | (with_reducible exact LeO.refl _)
   | (with_reducible exact LeO.none _)
   | (with_reducible refine LeO.ite ?_ ?_)
   | (with_reducible refine LeO.bind ?_ (fun _ => ?_))
   | exact ih0 _ _ _
   | exact LeO.none _
   | refine LeO.ite ?_ ?_
   | refine LeO.bind ?_ (fun _ => ?_)
theorem bytealg_LastIndexByteString.mono : ∀ a0 a1 k, LeO (bytealg_LastIndexByteString.f k a0 a1) (bytealg_LastIndexByteString.f (k + 1) a0 a1) := by
 intro a0 a1 k
 have ih0 := bytealg_LastIndexByteString.mono_l k
 unfold bytealg_LastIndexByteString.f
 repeat' first
   | (with_reducible exact ih0 _ _ _)
   | (with_reducible exact LeO.refl _)
   | (with_reducible exact LeO.none _)
   | (with_reducible refine LeO.ite ?_ ?_)
   | (with_reducible refine LeO.bind ?_ (fun _ => ?_))
   | exact ih0 _ _ _
   | exact LeO.none _
   | refine LeO.ite ?_ ?_
   | refine LeO.bind ?_ (fun _ => ?_)
set_option maxHeartbeats 8000000 in
set_option maxRecDepth 100000 in
theorem bytealg_LastIndexByteString.calls (k : Nat) (a0 : ByteArray) (a1 : Int) (r : Int) (w : World) (h : bytealg_LastIndexByteString.f k a0 a1 = some r) :
  Calls Tryz.prog 96 #[.string a0, .int .u8 a1] w fun e w' => e = .returned (.int .i64 r) ∧ Drawn0 w w' := by
 have H : (bytealg_LastIndexByteString.l0 k a0 a1 (wrap64 ((a0.size : Int) - 1))) = some r := h
 clear h
 have H' := Aside0.mk H
 clear H
 go_enter Tryz.func96, Tryz.ntmps96
 go_wp2
 go_loopg [5] k (fun kq v5 w' => ∃ (x5_1 : Int), v5 = .int .i64 x5_1 ∧ Aside0 (bytealg_LastIndexByteString.l0 kq a0 a1 x5_1 = some r) ∧ Aside0 (kq ≤ k) ∧ Drawn0 w w')
 case atStart => exact ⟨(wrap64 ((a0.size : Int) - 1)), (rf_), H', ⟨Nat.le_refl _⟩, dr_⟩
 case round =>
  clear H'
  try clear p2
  obtain ⟨x5_1, rfl, HA, HK1, ⟨m1, rfl⟩⟩ := hrel
  cases gk with
  | zero => exact absurd HA.out (by simp [bytealg_LastIndexByteString.l0])
  | succ k1 =>
   have H := HA.out
   clear HA
   simp only [bytealg_LastIndexByteString.l0] at H
   by_cases c3 : x5_1 ≥ 0
   rotate_left
   ·rw [if_neg c3] at H
    have c3b0 := decide_eq_false c3
    clear c3
    obtain rfl := Option.some.inj H
    go_wp2
    go_ret
    exact ⟨rf_, dr_⟩
   rw [if_pos c3] at H
   have c3b0 := decide_eq_true c3
   clear c3
   by_cases c4 : 0 ≤ x5_1
   rotate_left
   ·rw [if_neg c4] at H
    exact absurd H (by simp)
   rw [if_pos c4] at H
   have c4b0 := decide_eq_true c4
   clear c4
   by_cases c5 : x5_1 < (a0.size : Int)
   rotate_left
   ·rw [if_neg c5] at H
    exact absurd H (by simp)
   rw [if_pos c5] at H
   have c5b0 := decide_eq_true c5
   clear c5
   by_cases c7 : (bt a0 x5_1) = a1
   ·rw [if_pos c7] at H
    have c7b0 : ((bt a0 x5_1) == a1) = true := beq_iff_eq.mpr c7
    have c7b1 : ((bt a0 x5_1) != a1) = false := bne_eq_false_iff_eq.mpr c7
    clear c7
    obtain rfl := Option.some.inj H
    have p6 : 0 ≤ (x5_1 : Int) := of_decide_eq_true (by assumption)
    have q6 : x5_1 < (a0.size : Int) := of_decide_eq_true (by assumption)
    have hx6 := bt_at a0 x5_1
    replace p6 := eq_true p6
    replace q6 := eq_true q6
    go_wp2
    go_ret
    exact ⟨rf_, dr_⟩
   rw [if_neg c7] at H
   have c7b0 : ((bt a0 x5_1) == a1) = false := beq_eq_false_iff_ne.mpr c7
   have c7b1 : ((bt a0 x5_1) != a1) = true := bne_iff_ne.mpr c7
   have H' := Aside0.mk H
   clear H
   have p6 : 0 ≤ (x5_1 : Int) := of_decide_eq_true (by assumption)
   have q6 : x5_1 < (a0.size : Int) := of_decide_eq_true (by assumption)
   have hx6 := bt_at a0 x5_1
   replace p6 := eq_true p6
   replace q6 := eq_true q6
   go_wp2
   go_roundg k1
   case measure => have := HK1.out; omega
   case rel => exact ⟨(wrap64 (x5_1 - 1)), (rf_), H', ⟨by have := HK1.out; omega⟩, dr_⟩
def strings_LastIndexByte.f (k : Nat) (a0 : ByteArray) (a1 : Int) : Option (Int) := (bytealg_LastIndexByteString.f k a0 a1).bind fun t146 => (some t146)
theorem strings_LastIndexByte.mono : ∀ a0 a1 k, LeO (strings_LastIndexByte.f k a0 a1) (strings_LastIndexByte.f (k + 1) a0 a1) := by
 intro a0 a1 k
 unfold strings_LastIndexByte.f
 repeat' first
   | (with_reducible exact bytealg_LastIndexByteString.mono _ _ _)
   | (with_reducible exact LeO.refl _)
   | (with_reducible exact LeO.none _)
   | (with_reducible refine LeO.ite ?_ ?_)
   | (with_reducible refine LeO.bind ?_ (fun _ => ?_))
   | exact bytealg_LastIndexByteString.mono _ _ _
   | exact LeO.none _
   | refine LeO.ite ?_ ?_
   | refine LeO.bind ?_ (fun _ => ?_)
set_option maxHeartbeats 8000000 in
set_option maxRecDepth 100000 in
theorem strings_LastIndexByte.calls (k : Nat) (a0 : ByteArray) (a1 : Int) (r : Int) (w : World) (h : strings_LastIndexByte.f k a0 a1 = some r) :
  Calls Tryz.prog 84 #[.string a0, .int .u8 a1] w fun e w' => e = .returned (.int .i64 r) ∧ Drawn0 w w' := by
 have H : ((bytealg_LastIndexByteString.f k a0 a1).bind fun t146 => (some t146)) = some r := h
 clear h
 replace H := Option.bind_eq_some_iff.mp H
 obtain ⟨t146, A30, H⟩ := H
 try dsimp only at H
 have A3 := Aside0.mk A30
 clear A30
 obtain rfl := Option.some.inj H
 go_enter Tryz.func84, Tryz.ntmps84
 go_wp2_with (first | ((with_reducible refine gate_callee (f := 96) rfl ?_); refine goesL_ (some 7) rfl rfl Tryz.func96 (by kernel_rfl) rfl #[.string a0, .int .u8 a1] rfl (mp_) ?_; (with_reducible refine (bytealg_LastIndexByteString.calls k a0 a1 t146 _ A3.out).mono ?_); rintro e w' ⟨rfl, ⟨nd, rfl⟩⟩; refine ⟨_, rfl, ?_⟩))
 go_ret
 exact ⟨rf_, dr_⟩
def path_Base.f (k : Nat) (a0 : ByteArray) : Option (ByteArray) := (strings_LastIndexByte.f k a0 47).bind fun t147 => (if 0 ≤ (wrap64 (t147 + 1)) then (if (wrap64 (t147 + 1)) ≤ (a0.size : Int) then (some (a0.extract ((wrap64 (t147 + 1)) : Int).toNat a0.size)) else (none)) else (none))
theorem path_Base.mono : ∀ a0 k, LeO (path_Base.f k a0) (path_Base.f (k + 1) a0) := by
 intro a0 k
 unfold path_Base.f
 repeat' first
   | (with_reducible exact strings_LastIndexByte.mono _ _ _)
   | (with_reducible exact LeO.refl _)
   | (with_reducible exact LeO.none _)
   | (with_reducible refine LeO.ite ?_ ?_)
   | (with_reducible refine LeO.bind ?_ (fun _ => ?_))
   | exact strings_LastIndexByte.mono _ _ _
   | exact LeO.none _
   | refine LeO.ite ?_ ?_
   | refine LeO.bind ?_ (fun _ => ?_)
set_option maxHeartbeats 8000000 in
set_option maxRecDepth 100000 in
theorem path_Base.calls (k : Nat) (a0 : ByteArray) (r : ByteArray) (w : World) (h : path_Base.f k a0 = some r) :
  Calls Tryz.prog 68 #[.string a0] w fun e w' => e = .returned (.string r) ∧ Drawn0 w w' := by
 have H : ((strings_LastIndexByte.f k a0 47).bind fun t147 => (if 0 ≤ (wrap64 (t147 + 1)) then (if (wrap64 (t147 + 1)) ≤ (a0.size : Int) then (some (a0.extract ((wrap64 (t147 + 1)) : Int).toNat a0.size)) else (none)) else (none))) = some r := h
 clear h
 replace H := Option.bind_eq_some_iff.mp H
 obtain ⟨t147, A20, H⟩ := H
 try dsimp only at H
 have A2 := Aside0.mk A20
 clear A20
 obtain ⟨ji3, hji3⟩ : ∃ j_ : Int, (wrap64 (t147 + 1)) = j_ := ⟨_, rfl⟩
 replace H : (if 0 ≤ (ji3) then (if (ji3) ≤ (a0.size : Int) then (some (a0.extract ((ji3) : Int).toNat a0.size)) else (none)) else (none)) = some r := by first | (rw [hji3] at H; exact H) | (simp only [hji3] at H ⊢; exact H)
 (try rw [hji3] at A2)
 have hji3w : (IntKind.i64.wrap (t147 + 1)) = ji3 := (i64_w _).trans hji3
 by_cases c4 : 0 ≤ (ji3)
 rotate_left
 ·rw [if_neg c4] at H
  exact absurd H (by simp)
 rw [if_pos c4] at H
 have c4b0 := eq_true c4
 have c4b1 := decide_eq_true c4
 clear c4
 by_cases c5 : (ji3) ≤ (a0.size : Int)
 rotate_left
 ·rw [if_neg c5] at H
  exact absurd H (by simp)
 rw [if_pos c5] at H
 have c5b0 := eq_true c5
 have c5b1 := decide_eq_true c5
 clear c5
 obtain rfl := Option.some.inj H
 go_enter Tryz.func68, Tryz.ntmps68
 go_wp2_with (first | ((with_reducible refine gate_callee (f := 84) rfl ?_); refine goesL_ (some 5) rfl rfl Tryz.func84 (by kernel_rfl) rfl #[.string a0, .int .u8 47] rfl (mp_) ?_; (with_reducible refine (strings_LastIndexByte.calls k a0 47 t147 _ A2.out).mono ?_); rintro e w' ⟨rfl, ⟨nd, rfl⟩⟩; refine ⟨_, rfl, ?_⟩))
 go_ret
 exact ⟨by first | rfl | (simp; done) | (simp only [← hji3] <;> (first | rfl | simp)) | (simp [*]; done), dr_⟩
def delta_outer.f (a0_0 : ByteArray) (a0_1 : Bool) (a0_2 : Bool) (a0_3 : ByteArray) (a0_4 : ByteArray) (a0_5 : Int) (a0_6 : Int) (a0_7 : ByteArray) (a0_8 : ByteArray) (a0_9 : Int) (a0_10 : Int) (a1_0 : ByteArray) (a1_1 : Bool) (a1_2 : Bool) (a1_3 : ByteArray) (a1_4 : ByteArray) (a1_5 : Int) (a1_6 : Int) (a1_7 : ByteArray) (a1_8 : ByteArray) (a1_9 : Int) (a1_10 : Int) : Option (ByteArray × Bool × Bool × ByteArray × ByteArray × Int × Int × ByteArray × ByteArray × Int × Int) := some (a0_0, a0_1, a1_2, a0_3, a0_4, a0_5, a0_6, a1_7, a1_8, a1_9, a1_10)
set_option maxHeartbeats 8000000 in
set_option maxRecDepth 100000 in
theorem delta_outer.calls (a0_0 : ByteArray) (a0_1 : Bool) (a0_2 : Bool) (a0_3 : ByteArray) (a0_4 : ByteArray) (a0_5 : Int) (a0_6 : Int) (a0_7 : ByteArray) (a0_8 : ByteArray) (a0_9 : Int) (a0_10 : Int) (a1_0 : ByteArray) (a1_1 : Bool) (a1_2 : Bool) (a1_3 : ByteArray) (a1_4 : ByteArray) (a1_5 : Int) (a1_6 : Int) (a1_7 : ByteArray) (a1_8 : ByteArray) (a1_9 : Int) (a1_10 : Int) (r1 : ByteArray) (r2 : Bool) (r3 : Bool) (r4 : ByteArray) (r5 : ByteArray) (r6 : Int) (r7 : Int) (r8 : ByteArray) (r9 : ByteArray) (r10 : Int) (r11 : Int) (w : World) (h : delta_outer.f a0_0 a0_1 a0_2 a0_3 a0_4 a0_5 a0_6 a0_7 a0_8 a0_9 a0_10 a1_0 a1_1 a1_2 a1_3 a1_4 a1_5 a1_6 a1_7 a1_8 a1_9 a1_10 = some (r1, r2, r3, r4, r5, r6, r7, r8, r9, r10, r11)) :
  Calls Tryz.prog 29 #[.agg #[.string a0_0, .bool a0_1, .bool a0_2, .string a0_3, .string a0_4, .int .i64 a0_5, .int .i64 a0_6, .string a0_7, .string a0_8, .int .i64 a0_9, .int .i64 a0_10], .agg #[.string a1_0, .bool a1_1, .bool a1_2, .string a1_3, .string a1_4, .int .i64 a1_5, .int .i64 a1_6, .string a1_7, .string a1_8, .int .i64 a1_9, .int .i64 a1_10]] w fun e w' => e = .returned (.agg #[.string r1, .bool r2, .bool r3, .string r4, .string r5, .int .i64 r6, .int .i64 r7, .string r8, .string r9, .int .i64 r10, .int .i64 r11]) ∧ Below w.heap.size w w' := by
 have hu45 := Tryz.underlying45
 have hu43 := Tryz.underlying43
 have HB := Aside0.mk (Below.refl w.heap.size w)
 have H : (some (a0_0, a0_1, a1_2, a0_3, a0_4, a0_5, a0_6, a1_7, a1_8, a1_9, a1_10)) = some (r1, r2, r3, r4, r5, r6, r7, r8, r9, r10, r11) := h
 clear h
 simp only [Option.some.injEq, Prod.mk.injEq] at H
 obtain ⟨rfl, rfl, rfl, rfl, rfl, rfl, rfl, rfl, rfl, rfl, rfl⟩ := H
 go_enter Tryz.func29, Tryz.ntmps29
 go_wp2_with (first | ((with_reducible refine gate_dst (N := 2) rfl ?_); refine box_event ?hg (N := 2) ?hd (cs := #[.string a0_0, .bool a0_1, .bool a0_2, .string a0_3, .string a0_4, .int .i64 a0_5, .int .i64 a0_6, .string a0_7, .string a0_8, .int .i64 a0_9, .int .i64 a0_10]) (t := 45) ?hr ?_; (case hd => rfl); (case hg => rfl); (case hr => first | (go_simp; done) | (go_simp; rfl)); intro gb168 hg w3 hbox hb; have n0_ := Aside0.mk (below_step (bel_) hb); have n1_ := Aside0.mk (hbox); have n2_ := Aside0.mk ((by rw [hg]; exact (below_size (bel_)) : w.heap.size ≤ gb168)); have n3_ := Aside0.mk ((by rw [hg]; exact (below_size (bel_)) : w.heap.size ≤ gb168)); clear HB; have HB := n0_; have BK168 := n1_; have GW168 := n2_; have GE168 := n3_; clear n0_ n1_ n2_ n3_; clear hb hbox hg) | ((with_reducible refine gate_dst (N := 3) rfl ?_); refine box_event ?hg (N := 3) ?hd (cs := #[.string a1_0, .bool a1_1, .bool a1_2, .string a1_3, .string a1_4, .int .i64 a1_5, .int .i64 a1_6, .string a1_7, .string a1_8, .int .i64 a1_9, .int .i64 a1_10]) (t := 45) ?hr ?_; (case hd => rfl); (case hg => rfl); (case hr => first | (go_simp; done) | (go_simp; rfl)); intro gb169 hg w4 hbox hb; have n0_ := Aside0.mk (blk_below (g := gb168) (o := .cells #[.string a0_0, .bool a0_1, .bool a0_2, .string a0_3, .string a0_4, .int .i64 a0_5, .int .i64 a0_6, .string a0_7, .string a0_8, .int .i64 a0_9, .int .i64 a0_10] 45 (0, 0)) (ub_ BK168.out) hb); have n1_ := Aside0.mk (below_step (bes_ GE168.out) hb); have n2_ := Aside0.mk (hbox); have n3_ := Aside0.mk ((by rw [hg]; exact (below_size (bes_ GE168.out)) : w.heap.size ≤ gb169)); have n4_ := Aside0.mk ((by rw [hg]; exact (below_size (bes_ GE168.out)) : w.heap.size ≤ gb169)); have n5_ := Aside0.mk ((by rw [hg]; exact Nat.ne_of_lt (blk_lt (g := gb168) (o := .cells #[.string a0_0, .bool a0_1, .bool a0_2, .string a0_3, .string a0_4, .int .i64 a0_5, .int .i64 a0_6, .string a0_7, .string a0_8, .int .i64 a0_9, .int .i64 a0_10] 45 (0, 0)) (ub_ BK168.out)) : gb168 ≠ gb169)); have n6_ := Aside0.mk ((by rw [hg]; exact Nat.ne_of_gt (blk_lt (g := gb168) (o := .cells #[.string a0_0, .bool a0_1, .bool a0_2, .string a0_3, .string a0_4, .int .i64 a0_5, .int .i64 a0_6, .string a0_7, .string a0_8, .int .i64 a0_9, .int .i64 a0_10] 45 (0, 0)) (ub_ BK168.out)) : gb169 ≠ gb168)); clear BK168; clear HB; have BK168 := n0_; have HB := n1_; have BK169 := n2_; have GW169 := n3_; have GE169 := n4_; have NB168_169 := n5_; have NB169_168 := n6_; clear n0_ n1_ n2_ n3_ n4_ n5_ n6_; clear hb hbox hg) | ((with_reducible refine gate_dst (N := 4) rfl ?_); refine box_event ?hg (N := 4) ?hd (cs := #[.string (⟨#[]⟩ : ByteArray), .bool false, .bool false, .string (⟨#[]⟩ : ByteArray), .string (⟨#[]⟩ : ByteArray), .int .i64 0, .int .i64 0, .string (⟨#[]⟩ : ByteArray), .string (⟨#[]⟩ : ByteArray), .int .i64 0, .int .i64 0]) (t := 45) ?hr ?_; (case hd => rfl); (case hg => rfl); (case hr => first | (go_simp; done) | (go_simp; rfl)); intro gb170 hg w5 hbox hb; have n0_ := Aside0.mk (blk_below (g := gb168) (o := .cells #[.string a0_0, .bool a0_1, .bool a0_2, .string a0_3, .string a0_4, .int .i64 a0_5, .int .i64 a0_6, .string a0_7, .string a0_8, .int .i64 a0_9, .int .i64 a0_10] 45 (0, 0)) (ub_ BK168.out) hb); have n1_ := Aside0.mk (blk_below (g := gb169) (o := .cells #[.string a1_0, .bool a1_1, .bool a1_2, .string a1_3, .string a1_4, .int .i64 a1_5, .int .i64 a1_6, .string a1_7, .string a1_8, .int .i64 a1_9, .int .i64 a1_10] 45 (0, 0)) (ub_ BK169.out) hb); have n2_ := Aside0.mk (below_step (by repeat (first | (with_reducible first | exact HB.out | apply below_alloc | apply pw_below_drewN | apply below_drew1 | refine below_set ?_ GE168.out | refine below_set ?_ GE169.out) | exact HB.out)) hb); have n3_ := Aside0.mk (hbox); have n4_ := Aside0.mk ((by rw [hg]; exact (below_size (by repeat (first | (with_reducible first | exact HB.out | apply below_alloc | apply pw_below_drewN | apply below_drew1 | refine below_set ?_ GE168.out | refine below_set ?_ GE169.out) | exact HB.out))) : w.heap.size ≤ gb170)); have n5_ := Aside0.mk ((by rw [hg]; exact (below_size (by repeat (first | (with_reducible first | exact HB.out | apply below_alloc | apply pw_below_drewN | apply below_drew1 | refine below_set ?_ GE168.out | refine below_set ?_ GE169.out) | exact HB.out))) : w.heap.size ≤ gb170)); have n6_ := Aside0.mk ((by rw [hg]; exact Nat.ne_of_lt (blk_lt (g := gb168) (o := .cells #[.string a0_0, .bool a0_1, .bool a0_2, .string a0_3, .string a0_4, .int .i64 a0_5, .int .i64 a0_6, .string a0_7, .string a0_8, .int .i64 a0_9, .int .i64 a0_10] 45 (0, 0)) (ub_ BK168.out)) : gb168 ≠ gb170)); have n7_ := Aside0.mk ((by rw [hg]; exact Nat.ne_of_gt (blk_lt (g := gb168) (o := .cells #[.string a0_0, .bool a0_1, .bool a0_2, .string a0_3, .string a0_4, .int .i64 a0_5, .int .i64 a0_6, .string a0_7, .string a0_8, .int .i64 a0_9, .int .i64 a0_10] 45 (0, 0)) (ub_ BK168.out)) : gb170 ≠ gb168)); have n8_ := Aside0.mk ((by rw [hg]; exact Nat.ne_of_lt (blk_lt (g := gb169) (o := .cells #[.string a1_0, .bool a1_1, .bool a1_2, .string a1_3, .string a1_4, .int .i64 a1_5, .int .i64 a1_6, .string a1_7, .string a1_8, .int .i64 a1_9, .int .i64 a1_10] 45 (0, 0)) (ub_ BK169.out)) : gb169 ≠ gb170)); have n9_ := Aside0.mk ((by rw [hg]; exact Nat.ne_of_gt (blk_lt (g := gb169) (o := .cells #[.string a1_0, .bool a1_1, .bool a1_2, .string a1_3, .string a1_4, .int .i64 a1_5, .int .i64 a1_6, .string a1_7, .string a1_8, .int .i64 a1_9, .int .i64 a1_10] 45 (0, 0)) (ub_ BK169.out)) : gb170 ≠ gb169)); clear BK168; clear BK169; clear HB; have BK168 := n0_; have BK169 := n1_; have HB := n2_; have BK170 := n3_; have GW170 := n4_; have GE170 := n5_; have NB168_170 := n6_; have NB170_168 := n7_; have NB169_170 := n8_; have NB170_169 := n9_; clear n0_ n1_ n2_ n3_ n4_ n5_ n6_ n7_ n8_ n9_; clear hb hbox hg; have hnb6 := NB168_169.out; have hnc6 := NB169_168.out; have hnb7 := NB168_170.out; have hnc7 := NB170_168.out; have hcz8_0 : w5.cell? ⟨gb168, 0, none⟩ = some (.string a0_0) := (blk_cell BK168.out 0).trans rfl; have hcz8_1 : w5.cell? ⟨gb168, 1, none⟩ = some (.bool a0_1) := (blk_cell BK168.out 1).trans rfl; have hcz8_2 : w5.cell? ⟨gb168, 2, none⟩ = some (.bool a0_2) := (blk_cell BK168.out 2).trans rfl; have hcz8_3 : w5.cell? ⟨gb168, 3, none⟩ = some (.string a0_3) := (blk_cell BK168.out 3).trans rfl; have hcz8_4 : w5.cell? ⟨gb168, 4, none⟩ = some (.string a0_4) := (blk_cell BK168.out 4).trans rfl; have hcz8_5 : w5.cell? ⟨gb168, 5, none⟩ = some (.int .i64 a0_5) := (blk_cell BK168.out 5).trans rfl; have hcz8_6 : w5.cell? ⟨gb168, 6, none⟩ = some (.int .i64 a0_6) := (blk_cell BK168.out 6).trans rfl; have hcz8_7 : w5.cell? ⟨gb168, 7, none⟩ = some (.string a0_7) := (blk_cell BK168.out 7).trans rfl; have hcz8_8 : w5.cell? ⟨gb168, 8, none⟩ = some (.string a0_8) := (blk_cell BK168.out 8).trans rfl; have hcz8_9 : w5.cell? ⟨gb168, 9, none⟩ = some (.int .i64 a0_9) := (blk_cell BK168.out 9).trans rfl; have hcz8_10 : w5.cell? ⟨gb168, 10, none⟩ = some (.int .i64 a0_10) := (blk_cell BK168.out 10).trans rfl; have hfz8_0 := blk_frozen BK168.out 0; have hfz8_1 := blk_frozen BK168.out 1; have hfz8_2 := blk_frozen BK168.out 2; have hfz8_3 := blk_frozen BK168.out 3; have hfz8_4 := blk_frozen BK168.out 4; have hfz8_5 := blk_frozen BK168.out 5; have hfz8_6 := blk_frozen BK168.out 6; have hfz8_7 := blk_frozen BK168.out 7; have hfz8_8 := blk_frozen BK168.out 8; have hfz8_9 := blk_frozen BK168.out 9; have hfz8_10 := blk_frozen BK168.out 10; have hnb9 := NB169_170.out; have hnc9 := NB170_169.out; have hcz10_0 : w5.cell? ⟨gb169, 0, none⟩ = some (.string a1_0) := (blk_cell BK169.out 0).trans rfl; have hcz10_1 : w5.cell? ⟨gb169, 1, none⟩ = some (.bool a1_1) := (blk_cell BK169.out 1).trans rfl; have hcz10_2 : w5.cell? ⟨gb169, 2, none⟩ = some (.bool a1_2) := (blk_cell BK169.out 2).trans rfl; have hcz10_3 : w5.cell? ⟨gb169, 3, none⟩ = some (.string a1_3) := (blk_cell BK169.out 3).trans rfl; have hcz10_4 : w5.cell? ⟨gb169, 4, none⟩ = some (.string a1_4) := (blk_cell BK169.out 4).trans rfl; have hcz10_5 : w5.cell? ⟨gb169, 5, none⟩ = some (.int .i64 a1_5) := (blk_cell BK169.out 5).trans rfl; have hcz10_6 : w5.cell? ⟨gb169, 6, none⟩ = some (.int .i64 a1_6) := (blk_cell BK169.out 6).trans rfl; have hcz10_7 : w5.cell? ⟨gb169, 7, none⟩ = some (.string a1_7) := (blk_cell BK169.out 7).trans rfl; have hcz10_8 : w5.cell? ⟨gb169, 8, none⟩ = some (.string a1_8) := (blk_cell BK169.out 8).trans rfl; have hcz10_9 : w5.cell? ⟨gb169, 9, none⟩ = some (.int .i64 a1_9) := (blk_cell BK169.out 9).trans rfl; have hcz10_10 : w5.cell? ⟨gb169, 10, none⟩ = some (.int .i64 a1_10) := (blk_cell BK169.out 10).trans rfl; have hfz10_0 := blk_frozen BK169.out 0; have hfz10_1 := blk_frozen BK169.out 1; have hfz10_2 := blk_frozen BK169.out 2; have hfz10_3 := blk_frozen BK169.out 3; have hfz10_4 := blk_frozen BK169.out 4; have hfz10_5 := blk_frozen BK169.out 5; have hfz10_6 := blk_frozen BK169.out 6; have hfz10_7 := blk_frozen BK169.out 7; have hfz10_8 := blk_frozen BK169.out 8; have hfz10_9 := blk_frozen BK169.out 9; have hfz10_10 := blk_frozen BK169.out 10; have hcz11_0 : w5.cell? ⟨gb170, 0, none⟩ = some (.string (⟨#[]⟩ : ByteArray)) := (blk_cell BK170.out 0).trans rfl; have hcz11_1 : w5.cell? ⟨gb170, 1, none⟩ = some (.bool false) := (blk_cell BK170.out 1).trans rfl; have hcz11_2 : w5.cell? ⟨gb170, 2, none⟩ = some (.bool false) := (blk_cell BK170.out 2).trans rfl; have hcz11_3 : w5.cell? ⟨gb170, 3, none⟩ = some (.string (⟨#[]⟩ : ByteArray)) := (blk_cell BK170.out 3).trans rfl; have hcz11_4 : w5.cell? ⟨gb170, 4, none⟩ = some (.string (⟨#[]⟩ : ByteArray)) := (blk_cell BK170.out 4).trans rfl; have hcz11_5 : w5.cell? ⟨gb170, 5, none⟩ = some (.int .i64 0) := (blk_cell BK170.out 5).trans rfl; have hcz11_6 : w5.cell? ⟨gb170, 6, none⟩ = some (.int .i64 0) := (blk_cell BK170.out 6).trans rfl; have hcz11_7 : w5.cell? ⟨gb170, 7, none⟩ = some (.string (⟨#[]⟩ : ByteArray)) := (blk_cell BK170.out 7).trans rfl; have hcz11_8 : w5.cell? ⟨gb170, 8, none⟩ = some (.string (⟨#[]⟩ : ByteArray)) := (blk_cell BK170.out 8).trans rfl; have hcz11_9 : w5.cell? ⟨gb170, 9, none⟩ = some (.int .i64 0) := (blk_cell BK170.out 9).trans rfl; have hcz11_10 : w5.cell? ⟨gb170, 10, none⟩ = some (.int .i64 0) := (blk_cell BK170.out 10).trans rfl; have hfz11_0 := blk_frozen BK170.out 0; have hfz11_1 := blk_frozen BK170.out 1; have hfz11_2 := blk_frozen BK170.out 2; have hfz11_3 := blk_frozen BK170.out 3; have hfz11_4 := blk_frozen BK170.out 4; have hfz11_5 := blk_frozen BK170.out 5; have hfz11_6 := blk_frozen BK170.out 6; have hfz11_7 := blk_frozen BK170.out 7; have hfz11_8 := blk_frozen BK170.out 8; have hfz11_9 := blk_frozen BK170.out 9; have hfz11_10 := blk_frozen BK170.out 10))
 refine bodyPost_ret (results_cell_row rfl _ _ gb170 45 #[.string a0_0, .bool a0_1, .bool a1_2, .string a0_3, .string a0_4, .int .i64 a0_5, .int .i64 a0_6, .string a1_7, .string a1_8, .int .i64 a1_9, .int .i64 a1_10] (0, 0) _ rfl (by refine ub_ ?_; refine blk_put (cs := #[.string a0_0, .bool a0_1, .bool a1_2, .string a0_3, .string a0_4, .int .i64 a0_5, .int .i64 a0_6, .string a1_7, .string a1_8, .int .i64 a1_9, .int .i64 0]) ?_ 10 _ rfl; refine ub_ ?_; refine blk_put (cs := #[.string a0_0, .bool a0_1, .bool a1_2, .string a0_3, .string a0_4, .int .i64 a0_5, .int .i64 a0_6, .string a1_7, .string a1_8, .int .i64 0, .int .i64 0]) ?_ 9 _ rfl; refine ub_ ?_; refine blk_put (cs := #[.string a0_0, .bool a0_1, .bool a1_2, .string a0_3, .string a0_4, .int .i64 a0_5, .int .i64 a0_6, .string a1_7, .string (⟨#[]⟩ : ByteArray), .int .i64 0, .int .i64 0]) ?_ 8 _ rfl; refine ub_ ?_; refine blk_put (cs := #[.string a0_0, .bool a0_1, .bool a1_2, .string a0_3, .string a0_4, .int .i64 a0_5, .int .i64 a0_6, .string (⟨#[]⟩ : ByteArray), .string (⟨#[]⟩ : ByteArray), .int .i64 0, .int .i64 0]) ?_ 7 _ rfl; refine ub_ ?_; refine blk_put (cs := #[.string a0_0, .bool a0_1, .bool a1_2, .string a0_3, .string a0_4, .int .i64 a0_5, .int .i64 0, .string (⟨#[]⟩ : ByteArray), .string (⟨#[]⟩ : ByteArray), .int .i64 0, .int .i64 0]) ?_ 6 _ rfl; refine ub_ ?_; refine blk_put (cs := #[.string a0_0, .bool a0_1, .bool a1_2, .string a0_3, .string a0_4, .int .i64 0, .int .i64 0, .string (⟨#[]⟩ : ByteArray), .string (⟨#[]⟩ : ByteArray), .int .i64 0, .int .i64 0]) ?_ 5 _ rfl; refine ub_ ?_; refine blk_put (cs := #[.string a0_0, .bool a0_1, .bool a1_2, .string a0_3, .string (⟨#[]⟩ : ByteArray), .int .i64 0, .int .i64 0, .string (⟨#[]⟩ : ByteArray), .string (⟨#[]⟩ : ByteArray), .int .i64 0, .int .i64 0]) ?_ 4 _ rfl; refine ub_ ?_; refine blk_put (cs := #[.string a0_0, .bool a0_1, .bool a1_2, .string (⟨#[]⟩ : ByteArray), .string (⟨#[]⟩ : ByteArray), .int .i64 0, .int .i64 0, .string (⟨#[]⟩ : ByteArray), .string (⟨#[]⟩ : ByteArray), .int .i64 0, .int .i64 0]) ?_ 3 _ rfl; refine ub_ ?_; refine blk_put (cs := #[.string a0_0, .bool a0_1, .bool false, .string (⟨#[]⟩ : ByteArray), .string (⟨#[]⟩ : ByteArray), .int .i64 0, .int .i64 0, .string (⟨#[]⟩ : ByteArray), .string (⟨#[]⟩ : ByteArray), .int .i64 0, .int .i64 0]) ?_ 2 _ rfl; refine ub_ ?_; refine blk_put (cs := #[.string a0_0, .bool false, .bool false, .string (⟨#[]⟩ : ByteArray), .string (⟨#[]⟩ : ByteArray), .int .i64 0, .int .i64 0, .string (⟨#[]⟩ : ByteArray), .string (⟨#[]⟩ : ByteArray), .int .i64 0, .int .i64 0]) ?_ 1 _ rfl; refine ub_ ?_; refine blk_put (cs := #[.string (⟨#[]⟩ : ByteArray), .bool false, .bool false, .string (⟨#[]⟩ : ByteArray), .string (⟨#[]⟩ : ByteArray), .int .i64 0, .int .i64 0, .string (⟨#[]⟩ : ByteArray), .string (⟨#[]⟩ : ByteArray), .int .i64 0, .int .i64 0]) ?_ 0 _ rfl; refine ub_ ?_; exact BK170.out) Tryz.underlying45 rfl (by kernel_rfl)) rfl ?_
 exact ⟨er_, by repeat (first | (with_reducible first | exact HB.out | apply below_alloc | apply pw_below_drewN | apply below_drew1 | refine below_set ?_ GE168.out | refine below_set ?_ GE169.out | refine below_set ?_ GE170.out) | exact HB.out)⟩
open Go.Proofs.YtehfogjibhnabaaGreatDoor.Sp Go.Sort
def Gr (w w' : World) : Prop := ∃ (q : Nat) (os : Array Obj), w' = grow (w.drewN q) os
theorem Gr.refl (w : World) : Gr w w := ⟨0, #[], by rw [grow_empty]; rfl⟩
theorem Gr.drewN {w w1 : World} (h : Gr w w1) (n : Nat) : Gr w (w1.drewN n) := by
 obtain ⟨q, os, rfl⟩ := h
 exact ⟨q + n, os, by rw [← World.drewN_drewN]; rfl⟩
theorem Gr.drew {w w1 : World} (h : Gr w w1) : Gr w w1.drew := h.drewN 1
theorem Gr.alloc {w w1 : World} (h : Gr w w1) (o : Obj) : Gr w (w1.alloc o) := by
 obtain ⟨q, os, rfl⟩ := h
 exact ⟨q, os ++ #[o], by rw [alloc_eq_grow, grow_grow]⟩
theorem Gr.trans {w w1 w2 : World} (h : Gr w w1) (k : Gr w1 w2) : Gr w w2 := by
 obtain ⟨q, os, rfl⟩ := h
 obtain ⟨q', os', rfl⟩ := k
 refine ⟨q + q', os ++ os', ?_⟩
 rw [← World.drewN_drewN, ← grow_grow]; rfl
theorem Gr.below {w w1 : World} (h : Gr w w1) : Below w.heap.size w w1 := by
 obtain ⟨q, os, rfl⟩ := h
 exact ⟨rfl, rfl, rfl, by simp [World.drewN], fun k hk => heap_grow_old (w.drewN q) os hk⟩
theorem split_gr (a : ByteArray) (hs : a.size < 4294967281) (w : World) :
  Calls Tryz.prog 45 #[.string a] w fun e w' => ∃ v0_ : Value, e = .returned (v0_) ∧ Kd.R Kd.string 9 w' w.heap.size (fun _ => True) v0_ (pB a) ∧ Gr w w' := by
 by_cases hb : bs a = []
 ·rw [pB_nil hb]
  exact (split_nil a w hb).mono fun e w' ⟨he, hw⟩ => by subst hw; exact ⟨_, he, Kd.R_nil _ _ _ _ _, Gr.refl _⟩
 exact (split_some a w hb hs).mono fun e w' ⟨he, hw⟩ => by
  subst hw
  exact ⟨_, he, R_strs w _ _ _ _ (Nat.le_refl _) (by have := pB_length_le a; omega) trivial, (Gr.refl _).alloc _⟩
def comL : List ByteArray → List ByteArray → Nat
 | x :: l, y :: m => if x = y then comL l m + 1 else 0
 | _, _ => 0
theorem comL_same (x : ByteArray) (l m : List ByteArray) : comL (x :: l) (x :: m) = comL l m + 1 := by simp [comL]
theorem comL_diff {x y : ByteArray} (h : x ≠ y) (l m : List ByteArray) : comL (x :: l) (y :: m) = 0 := by simp [comL, h]
theorem comL_le : ∀ l m, comL l m ≤ l.length ∧ comL l m ≤ m.length
 | [], _ => by simp [comL]
 | _ :: _, [] => by simp [comL]
 | x :: l, y :: m => by
  have := comL_le l m
  unfold comL
  split
  ·simp only [List.length_cons]; omega
  ·simp
theorem rdOf_drop (l : List ByteArray) (i : Nat) (h : i < l.length) : l.drop i = rdOf ByteArray.empty l (i : Int) :: l.drop (i + 1) := by
 rw [List.drop_eq_getElem_cons h]
 congr 1
 simp [rdOf, List.getD_eq_getElem?_getD, List.getElem?_eq_getElem h]
theorem wrap_succ {i n : Nat} (h : i < n) (hn : n ≤ 4611686018427387904) : wrap64 ((i : Int) + 1) = ((i + 1 : Nat) : Int) := by unfold wrap64; omega
theorem common_runs (l m : List ByteArray) (hl : l.length ≤ 4611686018427387904) (d : Nat) : ∀ (k i : Nat), l.length - i = d → i ≤ l.length → i ≤ m.length → d < k →
  path_common.l0 k l m (i : Int) = some ((i + comL (l.drop i) (m.drop i) : Nat) : Int) := by
 induction d with
 | zero =>
  intro k i hd hi hm hk
  obtain ⟨k, rfl⟩ : ∃ j, k = j + 1 := ⟨k - 1, by omega⟩
  have e : l.drop i = [] := List.drop_of_length_le (by omega)
  simp only [path_common.l0]
  rw [if_neg (by omega), e]; simp [comL]
 | succ d ih =>
  intro k i hd hi hm hk
  obtain ⟨k, rfl⟩ : ∃ j, k = j + 1 := ⟨k - 1, by omega⟩
  simp only [path_common.l0]
  rw [if_pos (by omega)]
  by_cases h1 : i = m.length
  ·rw [if_pos (by omega), List.drop_of_length_le (l := m) (by omega)]
   cases l.drop i <;> simp [comL]
  rw [if_neg (by omega), if_pos (by omega), if_pos (by omega), rdOf_drop l i (by omega), rdOf_drop m i (by omega)]
  by_cases h2 : rdOf ByteArray.empty l (i : Int) = rdOf ByteArray.empty m (i : Int)
  ·rw [if_pos (by rw [h2]), wrap_succ (n := l.length) (by omega) hl, ih k (i + 1) (by omega) (by omega) (by omega) (by omega), h2, comL_same]
   congr 2; omega
  rw [if_neg (fun h => h2 (bs_inj (by rw [← toList_bs, ← toList_bs]; exact h))), comL_diff h2]; rfl
theorem common_ends (l m : List ByteArray) (hl : l.length ≤ 4611686018427387904) : path_common.f (l.length + 1) l m = some (comL l m : Int) := by
 unfold path_common.f
 have := common_runs l m hl l.length (l.length + 1) 0 (by omega) (by omega) (by omega) (by omega)
 simpa using this
theorem compare_string_is (a b : ByteArray) : cmp_Compare_string.f a b = some (cmpS (bs a) (bs b)) := by
 unfold cmp_Compare_string.f cmp_isNaN_string.f cmpS
 simp only [Option.bind_some, bne_self_eq_false, Bool.false_eq_true, if_false, toList_bs]
 split
 ·rfl
 split <;> rfl
theorem compare_int_is (a b : Int) : cmp_Compare_int.f a b = some (if a < b then -1 else if a > b then 1 else 0) := by
 unfold cmp_Compare_int.f cmp_isNaN_int.f
 simp only [Option.bind_some, bne_self_eq_false, Bool.false_eq_true, if_false]
 split
 ·rfl
 split <;> rfl
theorem cmpL_com : ∀ l m : List ByteArray, cmpL (l.map bs) (m.map bs) = if comL l m < l.length ∧ comL l m < m.length then cmpS (bs (l.getD (comL l m) ByteArray.empty)) (bs (m.getD (comL l m) ByteArray.empty)) else (if (l.length : Int) < m.length then -1 else if (l.length : Int) > m.length then 1 else 0)
 | [], [] => by simp [cmpL, comL]
 | [], _ :: _ => by simp [cmpL, comL] <;> omega
 | _ :: _, [] => by simp [cmpL, comL] <;> omega
 | x :: l, y :: m => by
  have ih := cmpL_com l m
  simp only [List.map_cons, cmpL]
  by_cases h : x = y
  ·subst h
   rw [if_pos rfl, ih]
   simp only [comL, if_true, List.length_cons, List.getD_cons_succ, Nat.add_lt_add_iff_right]
   by_cases c : comL l m < l.length ∧ comL l m < m.length
   ·rw [if_pos c, if_pos c]
   ·rw [if_neg c, if_neg c]
    simp only [Int.natCast_add, Int.add_lt_add_iff_right, gt_iff_lt]
  ·rw [if_neg (fun e => h (bs_inj e))]
   simp [comL, h]
theorem cB_com (a b : ByteArray) : cB a b = if comL (pB a) (pB b) < (pB a).length ∧ comL (pB a) (pB b) < (pB b).length then cmpS (bs ((pB a).getD (comL (pB a) (pB b)) ByteArray.empty)) (bs ((pB b).getD (comL (pB a) (pB b)) ByteArray.empty)) else (if ((pB a).length : Int) < (pB b).length then -1 else if ((pB a).length : Int) > (pB b).length then 1 else 0) := by
 rw [← cmpL_com, pB_bs, pB_bs]; rfl
set_option maxHeartbeats 1000000 in
set_option maxRecDepth 100000 in
theorem cmp_in (a b : ByteArray) (x y : List ByteArray) (t r : Int) (k : Nat) (w : World)
  (S1 : Aside0 (∀ w, Calls Tryz.prog 45 #[.string a] w fun e w' => ∃ v0_ : Value, e = .returned (v0_) ∧ Kd.R Kd.string 9 w' w.heap.size (fun _ => True) v0_ x ∧ Gr w w'))
  (S2 : Aside0 (∀ w, Calls Tryz.prog 45 #[.string b] w fun e w' => ∃ v0_ : Value, e = .returned (v0_) ∧ Kd.R Kd.string 9 w' w.heap.size (fun _ => True) v0_ y ∧ Gr w w'))
  (C : Aside0 (path_common.f k x y = some t)) (p : 0 ≤ t) (q1 : t < (x.length : Int)) (q2 : t < (y.length : Int))
  (hr : Aside0 (cmp_Compare_string.f (rdOf ByteArray.empty x t) (rdOf ByteArray.empty y t) = some r)) :
  Calls Tryz.prog 24 #[.string a, .string b] w fun e w' => e = .returned (.int .i64 r) ∧ Gr w w' := by
 have c1 : decide (t < (x.length : Int)) = true := decide_eq_true q1
 have c2 : decide (t < (y.length : Int)) = true := decide_eq_true q2
 have c0 : decide (0 ≤ t) = true := decide_eq_true p
 have P := Aside0.mk (And.intro p (And.intro q1 q2))
 clear p q1 q2
 go_enter Tryz.func24, Tryz.ntmps24
 go_wp2_with fail
 refine (S1.out w).mono ?_
 rintro e w1 ⟨v1, rfl, o1, g1⟩
 have G1 := Aside0.mk g1
 have O1 := Aside0.mk o1
 clear g1 o1
 go_wp2_with fail
 refine (S2.out _).mono ?_
 rintro e w2 ⟨v2, rfl, o2, g2⟩
 obtain ⟨A1, n1, rfl, l1, r1⟩ := Kd.R_reads (Kd.R_below O1.out g2.below)
 obtain ⟨A2, n2, rfl, l2, r2⟩ := Kd.R_reads o2
 have G2 := Aside0.mk (G1.out.trans g2)
 have R1 := Aside0.mk r1
 have R2 := Aside0.mk r2
 have L1 := Aside0.mk l1
 have L2 := Aside0.mk l2
 clear g2 o2 r1 r2 l1 l2 G1 O1
 go_wp2_with fail
 refine (path_common.calls k A1 n1 x A2 n2 y t w2 R1.out L1.out R2.out L2.out C.out).mono ?_
 rintro e w3 ⟨rfl, ⟨⟨nd, rfl⟩⟩⟩
 obtain ⟨ad1, e1, hx1⟩ := Kd.at_string R1.out t P.out.1 P.out.2.1
 cases e1
 obtain ⟨ad2, e2, hx2⟩ := Kd.at_string R2.out t P.out.1 P.out.2.2
 cases e2
 have p1 := eq_true P.out.1
 have p2 := eq_true P.out.2.1
 have p3 := eq_true P.out.2.2
 go_wp2_with (first | (go_at_call 47; (with_reducible refine (cmp_Compare_string.calls (rdOf ByteArray.empty x t) (rdOf ByteArray.empty y t) r _ hr.out).mono ?_); rintro e w' ⟨rfl, ⟨nd, rfl⟩⟩; (try first | exact ⟨rfl, _, World.drewN_drewN _ _ _⟩ | exact ⟨rfl, _, Eq.trans (World.drewN_drewN _ _ _) (congrArg (World.drewN _) (Nat.add_assoc _ _ _))⟩)))
 repeat (go_quiet (first | (go_at_call 47; (with_reducible refine (cmp_Compare_string.calls (rdOf ByteArray.empty x t) (rdOf ByteArray.empty y t) r _ hr.out).mono ?_); rintro e w' ⟨rfl, ⟨nd, rfl⟩⟩; (try first | exact ⟨rfl, _, World.drewN_drewN _ _ _⟩ | exact ⟨rfl, _, Eq.trans (World.drewN_drewN _ _ _) (congrArg (World.drewN _) (Nat.add_assoc _ _ _))⟩))); try go_wp2)
 go_ret
 exact ⟨by first | rfl | (simp; done), by repeat (first | exact G2.out | apply Gr.drewN | apply Gr.drew | apply Gr.alloc)⟩
set_option maxHeartbeats 1000000 in
set_option maxRecDepth 100000 in
theorem cmp_out (a b : ByteArray) (x y : List ByteArray) (t r : Int) (k : Nat) (w : World)
  (S1 : Aside0 (∀ w, Calls Tryz.prog 45 #[.string a] w fun e w' => ∃ v0_ : Value, e = .returned (v0_) ∧ Kd.R Kd.string 9 w' w.heap.size (fun _ => True) v0_ x ∧ Gr w w'))
  (S2 : Aside0 (∀ w, Calls Tryz.prog 45 #[.string b] w fun e w' => ∃ v0_ : Value, e = .returned (v0_) ∧ Kd.R Kd.string 9 w' w.heap.size (fun _ => True) v0_ y ∧ Gr w w'))
  (C : Aside0 (path_common.f k x y = some t)) (d : Bool) (d1 : decide (t < (x.length : Int)) = d) (d2 : d = true → decide (t < (y.length : Int)) = false)
  (hr : Aside0 (cmp_Compare_int.f (x.length : Int) (y.length : Int) = some r)) :
  Calls Tryz.prog 24 #[.string a, .string b] w fun e w' => e = .returned (.int .i64 r) ∧ Gr w w' := by
 cases d with
 | false =>
  clear d2
  go_enter Tryz.func24, Tryz.ntmps24
  go_wp2_with fail
  refine (S1.out w).mono ?_
  rintro e w1 ⟨v1, rfl, o1, g1⟩
  have G1 := Aside0.mk g1
  have O1 := Aside0.mk o1
  clear g1 o1
  go_wp2_with fail
  refine (S2.out _).mono ?_
  rintro e w2 ⟨v2, rfl, o2, g2⟩
  obtain ⟨A1, n1, rfl, l1, r1⟩ := Kd.R_reads (Kd.R_below O1.out g2.below)
  obtain ⟨A2, n2, rfl, l2, r2⟩ := Kd.R_reads o2
  have G2 := Aside0.mk (G1.out.trans g2)
  have R1 := Aside0.mk r1
  have R2 := Aside0.mk r2
  have L1 := Aside0.mk l1
  have L2 := Aside0.mk l2
  clear g2 o2 r1 r2 l1 l2 G1 O1
  go_wp2_with fail
  refine (path_common.calls k A1 n1 x A2 n2 y t w2 R1.out L1.out R2.out L2.out C.out).mono ?_
  rintro e w3 ⟨rfl, ⟨⟨nd, rfl⟩⟩⟩
  go_wp2_with (first | (go_at_call 48; (with_reducible refine (cmp_Compare_int.calls (x.length : Int) (y.length : Int) r _ hr.out).mono ?_); rintro e w' ⟨rfl, ⟨nd, rfl⟩⟩; (try first | exact ⟨rfl, _, World.drewN_drewN _ _ _⟩ | exact ⟨rfl, _, Eq.trans (World.drewN_drewN _ _ _) (congrArg (World.drewN _) (Nat.add_assoc _ _ _))⟩)))
  go_ret
  exact ⟨by first | rfl | (simp; done), by repeat (first | exact G2.out | apply Gr.drewN | apply Gr.drew | apply Gr.alloc)⟩
 | true =>
  have d3 := d2 rfl
  clear d2
  go_enter Tryz.func24, Tryz.ntmps24
  go_wp2_with fail
  refine (S1.out w).mono ?_
  rintro e w1 ⟨v1, rfl, o1, g1⟩
  have G1 := Aside0.mk g1
  have O1 := Aside0.mk o1
  clear g1 o1
  go_wp2_with fail
  refine (S2.out _).mono ?_
  rintro e w2 ⟨v2, rfl, o2, g2⟩
  obtain ⟨A1, n1, rfl, l1, r1⟩ := Kd.R_reads (Kd.R_below O1.out g2.below)
  obtain ⟨A2, n2, rfl, l2, r2⟩ := Kd.R_reads o2
  have G2 := Aside0.mk (G1.out.trans g2)
  have R1 := Aside0.mk r1
  have R2 := Aside0.mk r2
  have L1 := Aside0.mk l1
  have L2 := Aside0.mk l2
  clear g2 o2 r1 r2 l1 l2 G1 O1
  go_wp2_with fail
  refine (path_common.calls k A1 n1 x A2 n2 y t w2 R1.out L1.out R2.out L2.out C.out).mono ?_
  rintro e w3 ⟨rfl, ⟨⟨nd, rfl⟩⟩⟩
  go_wp2_with (first | (go_at_call 48; (with_reducible refine (cmp_Compare_int.calls (x.length : Int) (y.length : Int) r _ hr.out).mono ?_); rintro e w' ⟨rfl, ⟨nd, rfl⟩⟩; (try first | exact ⟨rfl, _, World.drewN_drewN _ _ _⟩ | exact ⟨rfl, _, Eq.trans (World.drewN_drewN _ _ _) (congrArg (World.drewN _) (Nat.add_assoc _ _ _))⟩)))
  go_ret
  exact ⟨by first | rfl | (simp; done), by repeat (first | exact G2.out | apply Gr.drewN | apply Gr.drew | apply Gr.alloc)⟩
theorem cmp_gr (a b : ByteArray) (ha : a.size < 4294967281) (hb : b.size < 4294967281) (w : World) :
  Calls Tryz.prog 24 #[.string a, .string b] w fun e w' => e = .returned (.int .i64 (cB a b)) ∧ Gr w w' := by
 have hla := pB_length_le a
 have hlb := pB_length_le b
 have hc := common_ends (pB a) (pB b) (by omega)
 rw [cB_com]
 by_cases h : comL (pB a) (pB b) < (pB a).length ∧ comL (pB a) (pB b) < (pB b).length
 ·rw [if_pos h]
  exact cmp_in a b (pB a) (pB b) _ _ _ w ⟨split_gr a ha⟩ ⟨split_gr b hb⟩ ⟨hc⟩ (by omega) (by omega) (by omega) ⟨by rw [compare_string_is]; rfl⟩
 rw [if_neg h]
 refine cmp_out a b (pB a) (pB b) _ _ _ w ⟨split_gr a ha⟩ ⟨split_gr b hb⟩ ⟨hc⟩ (decide ((comL (pB a) (pB b) : Int) < ((pB a).length : Int))) rfl (fun hd => ?_) ⟨by rw [compare_int_is]⟩
 have := of_decide_eq_true hd
 refine decide_eq_false ?_
 omega
end Go.Proofs.YtehfogjibhnabaaGreatDoor.PAll
