/- paths.Norm: what it answers; its walk. -/
import Derived.Test.YtdfkaclflmgkeaaGreatDoorCfPAllx0
import Derived.Test.YtdfkaclflmgkeaaGreatDoorCfHandA
import Derived.Test.YtdfkaclflmgkeaaGreatDoorCfPAlly4
import Derived.Test.YtdfkaclflmgkeaaGreatDoorCfShelf
import Derived.Sort.Grow
namespace Go.Proofs.YtdfkaclflmgkeaaGreatDoor.PAll
open Go.RowKit Go.Shelf Go.Proofs.YtdfkaclflmgkeaaGreatDoorW.PrintWords Go.Proofs.YtdfkaclflmgkeaaGreatDoorW.PrintLast Go.Proofs.YtdfkaclflmgkeaaGreatDoorW.PrintMore
open Go.Proofs.YtdfkaclflmgkeaaGreatDoor.Sp Go.Sort
def Gr (w w' : World) : Prop := ∃ (q : Nat) (os : Array Obj), w' = grow (w.drewN q) os
theorem Gr.refl (w : World) : Gr w w := ⟨0, #[], by rw [grow_empty]; rfl⟩
theorem Gr.drewN {w w1 : World} (h : Gr w w1) (n : Nat) : Gr w (w1.drewN n) := by
 obtain ⟨q, os, rfl⟩ := h
 exact ⟨q + n, os, by rw [← World.drewN_drewN]; rfl⟩
theorem Gr.drew {w w1 : World} (h : Gr w w1) : Gr w w1.drew := h.drewN 1
theorem Gr.alloc {w w1 : World} (h : Gr w w1) (o : Obj) : Gr w (w1.alloc o) := by
 obtain ⟨q, os, rfl⟩ := h
 exact ⟨q, os ++ #[o], by rw [alloc_eq_grow, grow_grow]⟩
theorem Gr.trans {w w1 w2 : World} (h : Gr w w1) (k : Gr w1 w2) : Gr w w2 := by
 obtain ⟨q, os, rfl⟩ := h
 obtain ⟨q', os', rfl⟩ := k
 refine ⟨q + q', os ++ os', ?_⟩
 rw [← World.drewN_drewN, ← grow_grow]; rfl
theorem Gr.below {w w1 : World} (h : Gr w w1) : Below w.heap.size w w1 := by
 obtain ⟨q, os, rfl⟩ := h
 exact ⟨rfl, rfl, rfl, by simp [World.drewN], fun k hk => heap_grow_old (w.drewN q) os hk⟩
theorem split_gr (a : ByteArray) (hs : a.size < 4294967281) (w : World) :
  Calls Tryz.prog 50 #[.string a] w fun e w' => ∃ v0_ : Value, e = .returned (v0_) ∧ Kd.R Kd.string 9 w' w.heap.size (fun _ => True) v0_ (pB a) ∧ Gr w w' := by
 by_cases hb : bs a = []
 ·rw [pB_nil hb]
  exact (split_nil a w hb).mono fun e w' ⟨he, hw⟩ => by subst hw; exact ⟨_, he, Kd.R_nil _ _ _ _ _, Gr.refl _⟩
 ·exact (split_some a w hb hs).mono fun e w' ⟨he, hw⟩ => by
   subst hw
   exact ⟨_, he, R_strs w _ _ _ _ (Nat.le_refl _) (by have := pB_length_le a; omega) trivial, (Gr.refl _).alloc _⟩
def comL : List ByteArray → List ByteArray → Nat
 | x :: l, y :: m => if x = y then comL l m + 1 else 0
 | _, _ => 0
theorem comL_same (x : ByteArray) (l m : List ByteArray) : comL (x :: l) (x :: m) = comL l m + 1 := by simp [comL]
theorem comL_diff {x y : ByteArray} (h : x ≠ y) (l m : List ByteArray) : comL (x :: l) (y :: m) = 0 := by simp [comL, h]
theorem comL_le : ∀ l m, comL l m ≤ l.length ∧ comL l m ≤ m.length
 | [], _ => by simp [comL]
 | _ :: _, [] => by simp [comL]
 | x :: l, y :: m => by
  have := comL_le l m
  unfold comL
  split
  ·simp only [List.length_cons]; omega
  ·simp
theorem rdOf_drop (l : List ByteArray) (i : Nat) (h : i < l.length) : l.drop i = rdOf ByteArray.empty l (i : Int) :: l.drop (i + 1) := by
 rw [List.drop_eq_getElem_cons h]
 congr 1
 simp [rdOf, List.getD_eq_getElem?_getD, List.getElem?_eq_getElem h]
theorem wrap_succ {i n : Nat} (h : i < n) (hn : n ≤ 4611686018427387904) : wrap64 ((i : Int) + 1) = ((i + 1 : Nat) : Int) := by unfold wrap64; omega
theorem common_runs (l m : List ByteArray) (hl : l.length ≤ 4611686018427387904) (d : Nat) : ∀ (k i : Nat), l.length - i = d → i ≤ l.length → i ≤ m.length → d < k →
  path_common.l0 k l m (i : Int) = some ((i + comL (l.drop i) (m.drop i) : Nat) : Int) := by
 induction d with
 | zero =>
  intro k i hd hi hm hk
  obtain ⟨k, rfl⟩ : ∃ j, k = j + 1 := ⟨k - 1, by omega⟩
  have e : l.drop i = [] := List.drop_of_length_le (by omega)
  simp only [path_common.l0]
  rw [if_neg (by omega), e]; simp [comL]
 | succ d ih =>
  intro k i hd hi hm hk
  obtain ⟨k, rfl⟩ : ∃ j, k = j + 1 := ⟨k - 1, by omega⟩
  simp only [path_common.l0]
  rw [if_pos (by omega)]
  by_cases h1 : i = m.length
  ·rw [if_pos (by omega), List.drop_of_length_le (l := m) (by omega)]
   cases l.drop i <;> simp [comL]
  ·rw [if_neg (by omega), if_pos (by omega), if_pos (by omega), rdOf_drop l i (by omega), rdOf_drop m i (by omega)]
   by_cases h2 : rdOf ByteArray.empty l (i : Int) = rdOf ByteArray.empty m (i : Int)
   ·rw [if_pos (by rw [h2]), wrap_succ (n := l.length) (by omega) hl, ih k (i + 1) (by omega) (by omega) (by omega) (by omega), h2, comL_same]
    congr 2; omega
   ·rw [if_neg (fun h => h2 (bs_inj (by rw [← toList_bs, ← toList_bs]; exact h))), comL_diff h2]; rfl
theorem common_ends (l m : List ByteArray) (hl : l.length ≤ 4611686018427387904) : path_common.f (l.length + 1) l m = some (comL l m : Int) := by
 unfold path_common.f
 have := common_runs l m hl l.length (l.length + 1) 0 (by omega) (by omega) (by omega) (by omega)
 simpa using this
theorem compare_string_is (a b : ByteArray) : cmp_Compare_string.f a b = some (cmpS (bs a) (bs b)) := by
 unfold cmp_Compare_string.f cmp_isNaN_string.f cmpS
 simp only [Option.bind_some, bne_self_eq_false, Bool.false_eq_true, if_false, toList_bs]
 split
 ·rfl
 ·split <;> rfl
theorem compare_int_is (a b : Int) : cmp_Compare_int.f a b = some (if a < b then -1 else if a > b then 1 else 0) := by
 unfold cmp_Compare_int.f cmp_isNaN_int.f
 simp only [Option.bind_some, bne_self_eq_false, Bool.false_eq_true, if_false]
 split
 ·rfl
 ·split <;> rfl
theorem cmpL_com : ∀ l m : List ByteArray, cmpL (l.map bs) (m.map bs) = if comL l m < l.length ∧ comL l m < m.length then cmpS (bs (l.getD (comL l m) ByteArray.empty)) (bs (m.getD (comL l m) ByteArray.empty)) else (if (l.length : Int) < m.length then -1 else if (l.length : Int) > m.length then 1 else 0)
 | [], [] => by simp [cmpL, comL]
 | [], _ :: _ => by simp [cmpL, comL] <;> omega
 | _ :: _, [] => by simp [cmpL, comL] <;> omega
 | x :: l, y :: m => by
  have ih := cmpL_com l m
  simp only [List.map_cons, cmpL]
  by_cases h : x = y
  ·subst h
   rw [if_pos rfl, ih]
   simp only [comL, if_true, List.length_cons, List.getD_cons_succ, Nat.add_lt_add_iff_right]
   by_cases c : comL l m < l.length ∧ comL l m < m.length
   ·rw [if_pos c, if_pos c]
   ·rw [if_neg c, if_neg c]
    simp only [Int.natCast_add, Int.add_lt_add_iff_right, gt_iff_lt]
  ·rw [if_neg (fun e => h (bs_inj e))]
   simp [comL, h]
theorem cB_com (a b : ByteArray) : cB a b = if comL (pB a) (pB b) < (pB a).length ∧ comL (pB a) (pB b) < (pB b).length then cmpS (bs ((pB a).getD (comL (pB a) (pB b)) ByteArray.empty)) (bs ((pB b).getD (comL (pB a) (pB b)) ByteArray.empty)) else (if ((pB a).length : Int) < (pB b).length then -1 else if ((pB a).length : Int) > (pB b).length then 1 else 0) := by
 rw [← cmpL_com, pB_bs, pB_bs]; rfl
set_option maxHeartbeats 1000000 in
set_option maxRecDepth 100000 in
theorem cmp_in (a b : ByteArray) (x y : List ByteArray) (t r : Int) (k : Nat) (w : World)
  (S1 : Aside0 (∀ w, Calls Tryz.prog 50 #[.string a] w fun e w' => ∃ v0_ : Value, e = .returned (v0_) ∧ Kd.R Kd.string 9 w' w.heap.size (fun _ => True) v0_ x ∧ Gr w w'))
  (S2 : Aside0 (∀ w, Calls Tryz.prog 50 #[.string b] w fun e w' => ∃ v0_ : Value, e = .returned (v0_) ∧ Kd.R Kd.string 9 w' w.heap.size (fun _ => True) v0_ y ∧ Gr w w'))
  (C : Aside0 (path_common.f k x y = some t)) (p : 0 ≤ t) (q1 : t < (x.length : Int)) (q2 : t < (y.length : Int))
  (hr : Aside0 (cmp_Compare_string.f (rdOf ByteArray.empty x t) (rdOf ByteArray.empty y t) = some r)) :
  Calls Tryz.prog 37 #[.string a, .string b] w fun e w' => e = .returned (.int .i64 r) ∧ Gr w w' := by
 have c1 : decide (t < (x.length : Int)) = true := decide_eq_true q1
 have c2 : decide (t < (y.length : Int)) = true := decide_eq_true q2
 have c0 : decide (0 ≤ t) = true := decide_eq_true p
 have P := Aside0.mk (And.intro p (And.intro q1 q2))
 clear p q1 q2
 go_enter Tryz.func37, Tryz.ntmps37
 go_wp2_with fail
 refine (S1.out w).mono ?_
 rintro e w1 ⟨v1, rfl, o1, g1⟩
 have G1 := Aside0.mk g1
 have O1 := Aside0.mk o1
 clear g1 o1
 go_wp2_with fail
 refine (S2.out _).mono ?_
 rintro e w2 ⟨v2, rfl, o2, g2⟩
 obtain ⟨A1, n1, rfl, l1, r1⟩ := Kd.R_reads (Kd.R_below O1.out g2.below)
 obtain ⟨A2, n2, rfl, l2, r2⟩ := Kd.R_reads o2
 have G2 := Aside0.mk (G1.out.trans g2)
 have R1 := Aside0.mk r1
 have R2 := Aside0.mk r2
 have L1 := Aside0.mk l1
 have L2 := Aside0.mk l2
 clear g2 o2 r1 r2 l1 l2 G1 O1
 go_wp2_with fail
 refine (path_common.calls k A1 n1 x A2 n2 y t w2 R1.out L1.out R2.out L2.out C.out).mono ?_
 rintro e w3 ⟨rfl, ⟨⟨nd, rfl⟩⟩⟩
 obtain ⟨ad1, e1, hx1⟩ := Kd.at_string R1.out t P.out.1 P.out.2.1
 cases e1
 obtain ⟨ad2, e2, hx2⟩ := Kd.at_string R2.out t P.out.1 P.out.2.2
 cases e2
 have p1 := eq_true P.out.1
 have p2 := eq_true P.out.2.1
 have p3 := eq_true P.out.2.2
 go_wp2_with (first | (go_at_call 59; (with_reducible refine (cmp_Compare_string.calls (rdOf ByteArray.empty x t) (rdOf ByteArray.empty y t) r _ hr.out).mono ?_); rintro e w' ⟨rfl, ⟨nd, rfl⟩⟩; (try first | exact ⟨rfl, _, World.drewN_drewN _ _ _⟩ | exact ⟨rfl, _, Eq.trans (World.drewN_drewN _ _ _) (congrArg (World.drewN _) (Nat.add_assoc _ _ _))⟩)))
 repeat (go_quiet (first | (go_at_call 59; (with_reducible refine (cmp_Compare_string.calls (rdOf ByteArray.empty x t) (rdOf ByteArray.empty y t) r _ hr.out).mono ?_); rintro e w' ⟨rfl, ⟨nd, rfl⟩⟩; (try first | exact ⟨rfl, _, World.drewN_drewN _ _ _⟩ | exact ⟨rfl, _, Eq.trans (World.drewN_drewN _ _ _) (congrArg (World.drewN _) (Nat.add_assoc _ _ _))⟩))); try go_wp2)
 go_ret
 exact ⟨by first | rfl | (simp; done), by repeat (first | exact G2.out | apply Gr.drewN | apply Gr.drew | apply Gr.alloc)⟩
set_option maxHeartbeats 1000000 in
set_option maxRecDepth 100000 in
theorem cmp_out (a b : ByteArray) (x y : List ByteArray) (t r : Int) (k : Nat) (w : World)
  (S1 : Aside0 (∀ w, Calls Tryz.prog 50 #[.string a] w fun e w' => ∃ v0_ : Value, e = .returned (v0_) ∧ Kd.R Kd.string 9 w' w.heap.size (fun _ => True) v0_ x ∧ Gr w w'))
  (S2 : Aside0 (∀ w, Calls Tryz.prog 50 #[.string b] w fun e w' => ∃ v0_ : Value, e = .returned (v0_) ∧ Kd.R Kd.string 9 w' w.heap.size (fun _ => True) v0_ y ∧ Gr w w'))
  (C : Aside0 (path_common.f k x y = some t)) (d : Bool) (d1 : decide (t < (x.length : Int)) = d) (d2 : d = true → decide (t < (y.length : Int)) = false)
  (hr : Aside0 (cmp_Compare_int.f (x.length : Int) (y.length : Int) = some r)) :
  Calls Tryz.prog 37 #[.string a, .string b] w fun e w' => e = .returned (.int .i64 r) ∧ Gr w w' := by
 cases d with
 | false =>
  clear d2
  go_enter Tryz.func37, Tryz.ntmps37
  go_wp2_with fail
  refine (S1.out w).mono ?_
  rintro e w1 ⟨v1, rfl, o1, g1⟩
  have G1 := Aside0.mk g1
  have O1 := Aside0.mk o1
  clear g1 o1
  go_wp2_with fail
  refine (S2.out _).mono ?_
  rintro e w2 ⟨v2, rfl, o2, g2⟩
  obtain ⟨A1, n1, rfl, l1, r1⟩ := Kd.R_reads (Kd.R_below O1.out g2.below)
  obtain ⟨A2, n2, rfl, l2, r2⟩ := Kd.R_reads o2
  have G2 := Aside0.mk (G1.out.trans g2)
  have R1 := Aside0.mk r1
  have R2 := Aside0.mk r2
  have L1 := Aside0.mk l1
  have L2 := Aside0.mk l2
  clear g2 o2 r1 r2 l1 l2 G1 O1
  go_wp2_with fail
  refine (path_common.calls k A1 n1 x A2 n2 y t w2 R1.out L1.out R2.out L2.out C.out).mono ?_
  rintro e w3 ⟨rfl, ⟨⟨nd, rfl⟩⟩⟩
  go_wp2_with (first | (go_at_call 60; (with_reducible refine (cmp_Compare_int.calls (x.length : Int) (y.length : Int) r _ hr.out).mono ?_); rintro e w' ⟨rfl, ⟨nd, rfl⟩⟩; (try first | exact ⟨rfl, _, World.drewN_drewN _ _ _⟩ | exact ⟨rfl, _, Eq.trans (World.drewN_drewN _ _ _) (congrArg (World.drewN _) (Nat.add_assoc _ _ _))⟩)))
  go_ret
  exact ⟨by first | rfl | (simp; done), by repeat (first | exact G2.out | apply Gr.drewN | apply Gr.drew | apply Gr.alloc)⟩
 | true =>
  have d3 := d2 rfl
  clear d2
  go_enter Tryz.func37, Tryz.ntmps37
  go_wp2_with fail
  refine (S1.out w).mono ?_
  rintro e w1 ⟨v1, rfl, o1, g1⟩
  have G1 := Aside0.mk g1
  have O1 := Aside0.mk o1
  clear g1 o1
  go_wp2_with fail
  refine (S2.out _).mono ?_
  rintro e w2 ⟨v2, rfl, o2, g2⟩
  obtain ⟨A1, n1, rfl, l1, r1⟩ := Kd.R_reads (Kd.R_below O1.out g2.below)
  obtain ⟨A2, n2, rfl, l2, r2⟩ := Kd.R_reads o2
  have G2 := Aside0.mk (G1.out.trans g2)
  have R1 := Aside0.mk r1
  have R2 := Aside0.mk r2
  have L1 := Aside0.mk l1
  have L2 := Aside0.mk l2
  clear g2 o2 r1 r2 l1 l2 G1 O1
  go_wp2_with fail
  refine (path_common.calls k A1 n1 x A2 n2 y t w2 R1.out L1.out R2.out L2.out C.out).mono ?_
  rintro e w3 ⟨rfl, ⟨⟨nd, rfl⟩⟩⟩
  go_wp2_with (first | (go_at_call 60; (with_reducible refine (cmp_Compare_int.calls (x.length : Int) (y.length : Int) r _ hr.out).mono ?_); rintro e w' ⟨rfl, ⟨nd, rfl⟩⟩; (try first | exact ⟨rfl, _, World.drewN_drewN _ _ _⟩ | exact ⟨rfl, _, Eq.trans (World.drewN_drewN _ _ _) (congrArg (World.drewN _) (Nat.add_assoc _ _ _))⟩)))
  go_ret
  exact ⟨by first | rfl | (simp; done), by repeat (first | exact G2.out | apply Gr.drewN | apply Gr.drew | apply Gr.alloc)⟩
theorem rdOf_getD (l : List ByteArray) (i : Nat) : rdOf ByteArray.empty l (i : Int) = l.getD i ByteArray.empty := rfl
theorem cmp_gr (a b : ByteArray) (ha : a.size < 4294967281) (hb : b.size < 4294967281) (w : World) :
  Calls Tryz.prog 37 #[.string a, .string b] w fun e w' => e = .returned (.int .i64 (cB a b)) ∧ Gr w w' := by
 have hla := pB_length_le a
 have hlb := pB_length_le b
 have hc := common_ends (pB a) (pB b) (by omega)
 rw [cB_com]
 by_cases h : comL (pB a) (pB b) < (pB a).length ∧ comL (pB a) (pB b) < (pB b).length
 ·rw [if_pos h]
  exact cmp_in a b (pB a) (pB b) _ _ _ w ⟨split_gr a ha⟩ ⟨split_gr b hb⟩ ⟨hc⟩ (by omega) (by omega) (by omega) ⟨by rw [compare_string_is]; rfl⟩
 ·rw [if_neg h]
  refine cmp_out a b (pB a) (pB b) _ _ _ w ⟨split_gr a ha⟩ ⟨split_gr b hb⟩ ⟨hc⟩ (decide ((comL (pB a) (pB b) : Int) < ((pB a).length : Int))) rfl (fun hd => ?_) ⟨by rw [compare_int_is]⟩
  have := of_decide_eq_true hd
  refine decide_eq_false ?_
  omega
end Go.Proofs.YtdfkaclflmgkeaaGreatDoor.PAll
namespace Go.Proofs.YtdfkaclflmgkeaaGreatDoor.PAll
open Go.RowKit Go.Proofs.YtdfkaclflmgkeaaGreatDoorW.PrintWords Go.Proofs.YtdfkaclflmgkeaaGreatDoorW.PrintLast Go.Proofs.YtdfkaclflmgkeaaGreatDoorW.PrintMore
attribute [local go_sem] max2_int min2_int max_two min_two max_three min_three max_four min_four
set_option linter.unusedVariables false
set_option linter.unusedSimpArgs false
def copseref02_Byte.f (a0 : Int) : Option (Bool) := if a0 ≥ 97 then (if a0 ≤ 122 then (some true) else (if a0 ≥ 65 then (if a0 ≤ 90 then (some true) else (if a0 ≥ 48 then (if a0 ≤ 57 then (some true) else (if a0 = 46 then (some true) else (if a0 = 95 then (some true) else (some (a0 == 45))))) else (if a0 = 46 then (some true) else (if a0 = 95 then (some true) else (some (a0 == 45)))))) else (if a0 ≥ 48 then (if a0 ≤ 57 then (some true) else (if a0 = 46 then (some true) else (if a0 = 95 then (some true) else (some (a0 == 45))))) else (if a0 = 46 then (some true) else (if a0 = 95 then (some true) else (some (a0 == 45))))))) else (if a0 ≥ 65 then (if a0 ≤ 90 then (some true) else (if a0 ≥ 48 then (if a0 ≤ 57 then (some true) else (if a0 = 46 then (some true) else (if a0 = 95 then (some true) else (some (a0 == 45))))) else (if a0 = 46 then (some true) else (if a0 = 95 then (some true) else (some (a0 == 45)))))) else (if a0 ≥ 48 then (if a0 ≤ 57 then (some true) else (if a0 = 46 then (some true) else (if a0 = 95 then (some true) else (some (a0 == 45))))) else (if a0 = 46 then (some true) else (if a0 = 95 then (some true) else (some (a0 == 45))))))
set_option maxHeartbeats 8000000 in
set_option maxRecDepth 100000 in
theorem copseref02_Byte.calls (a0 : Int) (r : Bool) (w : World) (h : copseref02_Byte.f a0 = some r) :
  Calls Tryz.prog 73 #[.int .u8 a0] w fun e w' => e = .returned (.bool r) ∧ Drawn0 w w' := by
 have H : (if a0 ≥ 97 then (if a0 ≤ 122 then (some true) else (if a0 ≥ 65 then (if a0 ≤ 90 then (some true) else (if a0 ≥ 48 then (if a0 ≤ 57 then (some true) else (if a0 = 46 then (some true) else (if a0 = 95 then (some true) else (some (a0 == 45))))) else (if a0 = 46 then (some true) else (if a0 = 95 then (some true) else (some (a0 == 45)))))) else (if a0 ≥ 48 then (if a0 ≤ 57 then (some true) else (if a0 = 46 then (some true) else (if a0 = 95 then (some true) else (some (a0 == 45))))) else (if a0 = 46 then (some true) else (if a0 = 95 then (some true) else (some (a0 == 45))))))) else (if a0 ≥ 65 then (if a0 ≤ 90 then (some true) else (if a0 ≥ 48 then (if a0 ≤ 57 then (some true) else (if a0 = 46 then (some true) else (if a0 = 95 then (some true) else (some (a0 == 45))))) else (if a0 = 46 then (some true) else (if a0 = 95 then (some true) else (some (a0 == 45)))))) else (if a0 ≥ 48 then (if a0 ≤ 57 then (some true) else (if a0 = 46 then (some true) else (if a0 = 95 then (some true) else (some (a0 == 45))))) else (if a0 = 46 then (some true) else (if a0 = 95 then (some true) else (some (a0 == 45))))))) = some r := h
 clear h
 by_cases c2 : a0 ≥ 97
 ·rw [if_pos c2] at H
  have c2b0 := decide_eq_true c2
  clear c2
  by_cases c3 : a0 ≤ 122
  ·rw [if_pos c3] at H
   have c3b0 := decide_eq_true c3
   clear c3
   obtain rfl := Option.some.inj H
   go_enter Tryz.func73, Tryz.ntmps73
   go_wp2
   go_ret
   exact ⟨by first | rfl | (simp; done) | (simp [*]; done), by repeat (first | exact Drawn0.refl _ | apply Drawn0.step)⟩
  ·rw [if_neg c3] at H
   have c3b0 := decide_eq_false c3
   clear c3
   by_cases c4 : a0 ≥ 65
   ·rw [if_pos c4] at H
    have c4b0 := decide_eq_true c4
    clear c4
    by_cases c5 : a0 ≤ 90
    ·rw [if_pos c5] at H
     have c5b0 := decide_eq_true c5
     clear c5
     obtain rfl := Option.some.inj H
     go_enter Tryz.func73, Tryz.ntmps73
     go_wp2
     go_ret
     exact ⟨by first | rfl | (simp; done) | (simp [*]; done), by repeat (first | exact Drawn0.refl _ | apply Drawn0.step)⟩
    ·rw [if_neg c5] at H
     have c5b0 := decide_eq_false c5
     clear c5
     by_cases c6 : a0 ≥ 48
     ·rw [if_pos c6] at H
      have c6b0 := decide_eq_true c6
      clear c6
      by_cases c7 : a0 ≤ 57
      ·rw [if_pos c7] at H
       have c7b0 := decide_eq_true c7
       clear c7
       obtain rfl := Option.some.inj H
       go_enter Tryz.func73, Tryz.ntmps73
       go_wp2
       go_ret
       exact ⟨by first | rfl | (simp; done) | (simp [*]; done), by repeat (first | exact Drawn0.refl _ | apply Drawn0.step)⟩
      ·rw [if_neg c7] at H
       have c7b0 := decide_eq_false c7
       clear c7
       by_cases c8 : a0 = 46
       ·rw [if_pos c8] at H
        have c8b0 : (a0 == 46) = true := beq_iff_eq.mpr c8
        have c8b1 : (a0 != 46) = false := bne_eq_false_iff_eq.mpr c8
        clear c8
        obtain rfl := Option.some.inj H
        go_enter Tryz.func73, Tryz.ntmps73
        go_wp2
        go_ret
        exact ⟨by first | rfl | (simp; done) | (simp [*]; done), by repeat (first | exact Drawn0.refl _ | apply Drawn0.step)⟩
       ·rw [if_neg c8] at H
        have c8b0 : (a0 == 46) = false := beq_eq_false_iff_ne.mpr c8
        have c8b1 : (a0 != 46) = true := bne_iff_ne.mpr c8
        by_cases c9 : a0 = 95
        ·rw [if_pos c9] at H
         have c9b0 : (a0 == 95) = true := beq_iff_eq.mpr c9
         have c9b1 : (a0 != 95) = false := bne_eq_false_iff_eq.mpr c9
         clear c9
         obtain rfl := Option.some.inj H
         go_enter Tryz.func73, Tryz.ntmps73
         go_wp2
         go_ret
         exact ⟨by first | rfl | (simp; done) | (simp [*]; done), by repeat (first | exact Drawn0.refl _ | apply Drawn0.step)⟩
        ·rw [if_neg c9] at H
         have c9b0 : (a0 == 95) = false := beq_eq_false_iff_ne.mpr c9
         have c9b1 : (a0 != 95) = true := bne_iff_ne.mpr c9
         obtain rfl := Option.some.inj H
         go_enter Tryz.func73, Tryz.ntmps73
         go_wp2
         go_ret
         exact ⟨by first | rfl | (simp; done) | (simp [*]; done), by repeat (first | exact Drawn0.refl _ | apply Drawn0.step)⟩
     ·rw [if_neg c6] at H
      have c6b0 := decide_eq_false c6
      clear c6
      by_cases c10 : a0 = 46
      ·rw [if_pos c10] at H
       have c10b0 : (a0 == 46) = true := beq_iff_eq.mpr c10
       have c10b1 : (a0 != 46) = false := bne_eq_false_iff_eq.mpr c10
       clear c10
       obtain rfl := Option.some.inj H
       go_enter Tryz.func73, Tryz.ntmps73
       go_wp2
       go_ret
       exact ⟨by first | rfl | (simp; done) | (simp [*]; done), by repeat (first | exact Drawn0.refl _ | apply Drawn0.step)⟩
      ·rw [if_neg c10] at H
       have c10b0 : (a0 == 46) = false := beq_eq_false_iff_ne.mpr c10
       have c10b1 : (a0 != 46) = true := bne_iff_ne.mpr c10
       by_cases c11 : a0 = 95
       ·rw [if_pos c11] at H
        have c11b0 : (a0 == 95) = true := beq_iff_eq.mpr c11
        have c11b1 : (a0 != 95) = false := bne_eq_false_iff_eq.mpr c11
        clear c11
        obtain rfl := Option.some.inj H
        go_enter Tryz.func73, Tryz.ntmps73
        go_wp2
        go_ret
        exact ⟨by first | rfl | (simp; done) | (simp [*]; done), by repeat (first | exact Drawn0.refl _ | apply Drawn0.step)⟩
       ·rw [if_neg c11] at H
        have c11b0 : (a0 == 95) = false := beq_eq_false_iff_ne.mpr c11
        have c11b1 : (a0 != 95) = true := bne_iff_ne.mpr c11
        obtain rfl := Option.some.inj H
        go_enter Tryz.func73, Tryz.ntmps73
        go_wp2
        go_ret
        exact ⟨by first | rfl | (simp; done) | (simp [*]; done), by repeat (first | exact Drawn0.refl _ | apply Drawn0.step)⟩
   ·rw [if_neg c4] at H
    have c4b0 := decide_eq_false c4
    clear c4
    by_cases c12 : a0 ≥ 48
    ·rw [if_pos c12] at H
     have c12b0 := decide_eq_true c12
     clear c12
     by_cases c13 : a0 ≤ 57
     ·rw [if_pos c13] at H
      have c13b0 := decide_eq_true c13
      clear c13
      obtain rfl := Option.some.inj H
      go_enter Tryz.func73, Tryz.ntmps73
      go_wp2
      go_ret
      exact ⟨by first | rfl | (simp; done) | (simp [*]; done), by repeat (first | exact Drawn0.refl _ | apply Drawn0.step)⟩
     ·rw [if_neg c13] at H
      have c13b0 := decide_eq_false c13
      clear c13
      by_cases c14 : a0 = 46
      ·rw [if_pos c14] at H
       have c14b0 : (a0 == 46) = true := beq_iff_eq.mpr c14
       have c14b1 : (a0 != 46) = false := bne_eq_false_iff_eq.mpr c14
       clear c14
       obtain rfl := Option.some.inj H
       go_enter Tryz.func73, Tryz.ntmps73
       go_wp2
       go_ret
       exact ⟨by first | rfl | (simp; done) | (simp [*]; done), by repeat (first | exact Drawn0.refl _ | apply Drawn0.step)⟩
      ·rw [if_neg c14] at H
       have c14b0 : (a0 == 46) = false := beq_eq_false_iff_ne.mpr c14
       have c14b1 : (a0 != 46) = true := bne_iff_ne.mpr c14
       by_cases c15 : a0 = 95
       ·rw [if_pos c15] at H
        have c15b0 : (a0 == 95) = true := beq_iff_eq.mpr c15
        have c15b1 : (a0 != 95) = false := bne_eq_false_iff_eq.mpr c15
        clear c15
        obtain rfl := Option.some.inj H
        go_enter Tryz.func73, Tryz.ntmps73
        go_wp2
        go_ret
        exact ⟨by first | rfl | (simp; done) | (simp [*]; done), by repeat (first | exact Drawn0.refl _ | apply Drawn0.step)⟩
       ·rw [if_neg c15] at H
        have c15b0 : (a0 == 95) = false := beq_eq_false_iff_ne.mpr c15
        have c15b1 : (a0 != 95) = true := bne_iff_ne.mpr c15
        obtain rfl := Option.some.inj H
        go_enter Tryz.func73, Tryz.ntmps73
        go_wp2
        go_ret
        exact ⟨by first | rfl | (simp; done) | (simp [*]; done), by repeat (first | exact Drawn0.refl _ | apply Drawn0.step)⟩
    ·rw [if_neg c12] at H
     have c12b0 := decide_eq_false c12
     clear c12
     by_cases c16 : a0 = 46
     ·rw [if_pos c16] at H
      have c16b0 : (a0 == 46) = true := beq_iff_eq.mpr c16
      have c16b1 : (a0 != 46) = false := bne_eq_false_iff_eq.mpr c16
      clear c16
      obtain rfl := Option.some.inj H
      go_enter Tryz.func73, Tryz.ntmps73
      go_wp2
      go_ret
      exact ⟨by first | rfl | (simp; done) | (simp [*]; done), by repeat (first | exact Drawn0.refl _ | apply Drawn0.step)⟩
     ·rw [if_neg c16] at H
      have c16b0 : (a0 == 46) = false := beq_eq_false_iff_ne.mpr c16
      have c16b1 : (a0 != 46) = true := bne_iff_ne.mpr c16
      by_cases c17 : a0 = 95
      ·rw [if_pos c17] at H
       have c17b0 : (a0 == 95) = true := beq_iff_eq.mpr c17
       have c17b1 : (a0 != 95) = false := bne_eq_false_iff_eq.mpr c17
       clear c17
       obtain rfl := Option.some.inj H
       go_enter Tryz.func73, Tryz.ntmps73
       go_wp2
       go_ret
       exact ⟨by first | rfl | (simp; done) | (simp [*]; done), by repeat (first | exact Drawn0.refl _ | apply Drawn0.step)⟩
      ·rw [if_neg c17] at H
       have c17b0 : (a0 == 95) = false := beq_eq_false_iff_ne.mpr c17
       have c17b1 : (a0 != 95) = true := bne_iff_ne.mpr c17
       obtain rfl := Option.some.inj H
       go_enter Tryz.func73, Tryz.ntmps73
       go_wp2
       go_ret
       exact ⟨by first | rfl | (simp; done) | (simp [*]; done), by repeat (first | exact Drawn0.refl _ | apply Drawn0.step)⟩
 ·rw [if_neg c2] at H
  have c2b0 := decide_eq_false c2
  clear c2
  by_cases c18 : a0 ≥ 65
  ·rw [if_pos c18] at H
   have c18b0 := decide_eq_true c18
   clear c18
   by_cases c19 : a0 ≤ 90
   ·rw [if_pos c19] at H
    have c19b0 := decide_eq_true c19
    clear c19
    obtain rfl := Option.some.inj H
    go_enter Tryz.func73, Tryz.ntmps73
    go_wp2
    go_ret
    exact ⟨by first | rfl | (simp; done) | (simp [*]; done), by repeat (first | exact Drawn0.refl _ | apply Drawn0.step)⟩
   ·rw [if_neg c19] at H
    have c19b0 := decide_eq_false c19
    clear c19
    by_cases c20 : a0 ≥ 48
    ·rw [if_pos c20] at H
     have c20b0 := decide_eq_true c20
     clear c20
     by_cases c21 : a0 ≤ 57
     ·rw [if_pos c21] at H
      have c21b0 := decide_eq_true c21
      clear c21
      obtain rfl := Option.some.inj H
      go_enter Tryz.func73, Tryz.ntmps73
      go_wp2
      go_ret
      exact ⟨by first | rfl | (simp; done) | (simp [*]; done), by repeat (first | exact Drawn0.refl _ | apply Drawn0.step)⟩
     ·rw [if_neg c21] at H
      have c21b0 := decide_eq_false c21
      clear c21
      by_cases c22 : a0 = 46
      ·rw [if_pos c22] at H
       have c22b0 : (a0 == 46) = true := beq_iff_eq.mpr c22
       have c22b1 : (a0 != 46) = false := bne_eq_false_iff_eq.mpr c22
       clear c22
       obtain rfl := Option.some.inj H
       go_enter Tryz.func73, Tryz.ntmps73
       go_wp2
       go_ret
       exact ⟨by first | rfl | (simp; done) | (simp [*]; done), by repeat (first | exact Drawn0.refl _ | apply Drawn0.step)⟩
      ·rw [if_neg c22] at H
       have c22b0 : (a0 == 46) = false := beq_eq_false_iff_ne.mpr c22
       have c22b1 : (a0 != 46) = true := bne_iff_ne.mpr c22
       by_cases c23 : a0 = 95
       ·rw [if_pos c23] at H
        have c23b0 : (a0 == 95) = true := beq_iff_eq.mpr c23
        have c23b1 : (a0 != 95) = false := bne_eq_false_iff_eq.mpr c23
        clear c23
        obtain rfl := Option.some.inj H
        go_enter Tryz.func73, Tryz.ntmps73
        go_wp2
        go_ret
        exact ⟨by first | rfl | (simp; done) | (simp [*]; done), by repeat (first | exact Drawn0.refl _ | apply Drawn0.step)⟩
       ·rw [if_neg c23] at H
        have c23b0 : (a0 == 95) = false := beq_eq_false_iff_ne.mpr c23
        have c23b1 : (a0 != 95) = true := bne_iff_ne.mpr c23
        obtain rfl := Option.some.inj H
        go_enter Tryz.func73, Tryz.ntmps73
        go_wp2
        go_ret
        exact ⟨by first | rfl | (simp; done) | (simp [*]; done), by repeat (first | exact Drawn0.refl _ | apply Drawn0.step)⟩
    ·rw [if_neg c20] at H
     have c20b0 := decide_eq_false c20
     clear c20
     by_cases c24 : a0 = 46
     ·rw [if_pos c24] at H
      have c24b0 : (a0 == 46) = true := beq_iff_eq.mpr c24
      have c24b1 : (a0 != 46) = false := bne_eq_false_iff_eq.mpr c24
      clear c24
      obtain rfl := Option.some.inj H
      go_enter Tryz.func73, Tryz.ntmps73
      go_wp2
      go_ret
      exact ⟨by first | rfl | (simp; done) | (simp [*]; done), by repeat (first | exact Drawn0.refl _ | apply Drawn0.step)⟩
     ·rw [if_neg c24] at H
      have c24b0 : (a0 == 46) = false := beq_eq_false_iff_ne.mpr c24
      have c24b1 : (a0 != 46) = true := bne_iff_ne.mpr c24
      by_cases c25 : a0 = 95
      ·rw [if_pos c25] at H
       have c25b0 : (a0 == 95) = true := beq_iff_eq.mpr c25
       have c25b1 : (a0 != 95) = false := bne_eq_false_iff_eq.mpr c25
       clear c25
       obtain rfl := Option.some.inj H
       go_enter Tryz.func73, Tryz.ntmps73
       go_wp2
       go_ret
       exact ⟨by first | rfl | (simp; done) | (simp [*]; done), by repeat (first | exact Drawn0.refl _ | apply Drawn0.step)⟩
      ·rw [if_neg c25] at H
       have c25b0 : (a0 == 95) = false := beq_eq_false_iff_ne.mpr c25
       have c25b1 : (a0 != 95) = true := bne_iff_ne.mpr c25
       obtain rfl := Option.some.inj H
       go_enter Tryz.func73, Tryz.ntmps73
       go_wp2
       go_ret
       exact ⟨by first | rfl | (simp; done) | (simp [*]; done), by repeat (first | exact Drawn0.refl _ | apply Drawn0.step)⟩
  ·rw [if_neg c18] at H
   have c18b0 := decide_eq_false c18
   clear c18
   by_cases c26 : a0 ≥ 48
   ·rw [if_pos c26] at H
    have c26b0 := decide_eq_true c26
    clear c26
    by_cases c27 : a0 ≤ 57
    ·rw [if_pos c27] at H
     have c27b0 := decide_eq_true c27
     clear c27
     obtain rfl := Option.some.inj H
     go_enter Tryz.func73, Tryz.ntmps73
     go_wp2
     go_ret
     exact ⟨by first | rfl | (simp; done) | (simp [*]; done), by repeat (first | exact Drawn0.refl _ | apply Drawn0.step)⟩
    ·rw [if_neg c27] at H
     have c27b0 := decide_eq_false c27
     clear c27
     by_cases c28 : a0 = 46
     ·rw [if_pos c28] at H
      have c28b0 : (a0 == 46) = true := beq_iff_eq.mpr c28
      have c28b1 : (a0 != 46) = false := bne_eq_false_iff_eq.mpr c28
      clear c28
      obtain rfl := Option.some.inj H
      go_enter Tryz.func73, Tryz.ntmps73
      go_wp2
      go_ret
      exact ⟨by first | rfl | (simp; done) | (simp [*]; done), by repeat (first | exact Drawn0.refl _ | apply Drawn0.step)⟩
     ·rw [if_neg c28] at H
      have c28b0 : (a0 == 46) = false := beq_eq_false_iff_ne.mpr c28
      have c28b1 : (a0 != 46) = true := bne_iff_ne.mpr c28
      by_cases c29 : a0 = 95
      ·rw [if_pos c29] at H
       have c29b0 : (a0 == 95) = true := beq_iff_eq.mpr c29
       have c29b1 : (a0 != 95) = false := bne_eq_false_iff_eq.mpr c29
       clear c29
       obtain rfl := Option.some.inj H
       go_enter Tryz.func73, Tryz.ntmps73
       go_wp2
       go_ret
       exact ⟨by first | rfl | (simp; done) | (simp [*]; done), by repeat (first | exact Drawn0.refl _ | apply Drawn0.step)⟩
      ·rw [if_neg c29] at H
       have c29b0 : (a0 == 95) = false := beq_eq_false_iff_ne.mpr c29
       have c29b1 : (a0 != 95) = true := bne_iff_ne.mpr c29
       obtain rfl := Option.some.inj H
       go_enter Tryz.func73, Tryz.ntmps73
       go_wp2
       go_ret
       exact ⟨by first | rfl | (simp; done) | (simp [*]; done), by repeat (first | exact Drawn0.refl _ | apply Drawn0.step)⟩
   ·rw [if_neg c26] at H
    have c26b0 := decide_eq_false c26
    clear c26
    by_cases c30 : a0 = 46
    ·rw [if_pos c30] at H
     have c30b0 : (a0 == 46) = true := beq_iff_eq.mpr c30
     have c30b1 : (a0 != 46) = false := bne_eq_false_iff_eq.mpr c30
     clear c30
     obtain rfl := Option.some.inj H
     go_enter Tryz.func73, Tryz.ntmps73
     go_wp2
     go_ret
     exact ⟨by first | rfl | (simp; done) | (simp [*]; done), by repeat (first | exact Drawn0.refl _ | apply Drawn0.step)⟩
    ·rw [if_neg c30] at H
     have c30b0 : (a0 == 46) = false := beq_eq_false_iff_ne.mpr c30
     have c30b1 : (a0 != 46) = true := bne_iff_ne.mpr c30
     by_cases c31 : a0 = 95
     ·rw [if_pos c31] at H
      have c31b0 : (a0 == 95) = true := beq_iff_eq.mpr c31
      have c31b1 : (a0 != 95) = false := bne_eq_false_iff_eq.mpr c31
      clear c31
      obtain rfl := Option.some.inj H
      go_enter Tryz.func73, Tryz.ntmps73
      go_wp2
      go_ret
      exact ⟨by first | rfl | (simp; done) | (simp [*]; done), by repeat (first | exact Drawn0.refl _ | apply Drawn0.step)⟩
     ·rw [if_neg c31] at H
      have c31b0 : (a0 == 95) = false := beq_eq_false_iff_ne.mpr c31
      have c31b1 : (a0 != 95) = true := bne_iff_ne.mpr c31
      obtain rfl := Option.some.inj H
      go_enter Tryz.func73, Tryz.ntmps73
      go_wp2
      go_ret
      exact ⟨by first | rfl | (simp; done) | (simp [*]; done), by repeat (first | exact Drawn0.refl _ | apply Drawn0.step)⟩
mutual
def copseref02_Component.j0 : Nat → ByteArray → Bool → Option (Bool)
 | 0, _, _ => none
 | k + 1, x0, x23 => if x23 = true then (some false) else (copseref02_Component.l0 k x0 0)
def copseref02_Component.l0 : Nat → ByteArray → Int → Option (Bool)
 | 0, _, _ => none
 | k + 1, x0, x3 => if x3 < (x0.size : Int) then (if 0 ≤ x3 then ((copseref02_Byte.f (bt x0 x3)).bind fun t330 => (if t330 = true then (copseref02_Component.l0 k x0 (wrap64 (x3 + 1))) else (some false))) else (none)) else (some true)
end
def copseref02_Component.f (k : Nat) (a0 : ByteArray) : Option (Bool) := if (a0.size : Int) < 1 then (copseref02_Component.j0 k a0 true) else (if (a0.size : Int) > 32 then (copseref02_Component.j0 k a0 true) else (if a0.toList = ([46] : List UInt8) then (copseref02_Component.j0 k a0 true) else (if a0.toList = ([46, 46] : List UInt8) then (copseref02_Component.j0 k a0 true) else (copseref02_Component.j0 k a0 (a0.toList == ([46, 46, 46] : List UInt8))))))
set_option maxHeartbeats 8000000 in
set_option maxRecDepth 100000 in
theorem copseref02_Component.calls (k : Nat) (a0 : ByteArray) (r : Bool) (w : World) (h : copseref02_Component.f k a0 = some r) :
  Calls Tryz.prog 64 #[.string a0] w fun e w' => e = .returned (.bool r) ∧ Drawn0 w w' := by
 have H : (if (a0.size : Int) < 1 then (copseref02_Component.j0 k a0 true) else (if (a0.size : Int) > 32 then (copseref02_Component.j0 k a0 true) else (if a0.toList = ([46] : List UInt8) then (copseref02_Component.j0 k a0 true) else (if a0.toList = ([46, 46] : List UInt8) then (copseref02_Component.j0 k a0 true) else (copseref02_Component.j0 k a0 (a0.toList == ([46, 46, 46] : List UInt8))))))) = some r := h
 clear h
 have HC2 := Aside0.mk H
 clear H
 go_enter Tryz.func64, Tryz.ntmps64
 go_upto_region 1 with (fail)
 go_cut [23] (fun v23 wc => ∃ (kq : Nat) (x23_1 : Bool), v23 = .bool x23_1 ∧ Aside0 (copseref02_Component.j0 kq a0 x23_1 = some r) ∧ Aside0 (kq ≤ k) ∧ Drawn0 w wc)
 case first =>
  have H := HC2.out
  clear HC2
  by_cases c3 : (a0.size : Int) < 1
  ·rw [if_pos c3] at H
   have c3b0 := decide_eq_true c3
   have c3b1 : decide (a0.size < 1) = true := decide_eq_true (by omega)
   clear c3
   (first | rw [c3b0] | (simp only [i64_w, i32_w]; rw [c3b0]) | skip)
   have H' := Aside0.mk H
   clear H
   go_wp2
   go_meet
   case rel => exact ⟨_, (true), (by first | rfl | (simp; done) | (simp [*]; done)), H', ⟨by first | omega | exact Nat.le_refl _⟩, by repeat (first | exact Drawn0.refl _ | apply Drawn0.step)⟩
  ·rw [if_neg c3] at H
   have c3b0 := decide_eq_false c3
   have c3b1 : decide (a0.size < 1) = false := decide_eq_false (by omega)
   clear c3
   (first | rw [c3b0] | (simp only [i64_w, i32_w]; rw [c3b0]) | skip)
   by_cases c4 : (a0.size : Int) > 32
   ·rw [if_pos c4] at H
    have c4b0 := decide_eq_true c4
    have c4b1 : decide (32 < a0.size) = true := decide_eq_true (by omega)
    clear c4
    have H' := Aside0.mk H
    clear H
    go_wp2
    go_meet
    case rel => exact ⟨_, (true), (by first | rfl | (simp; done) | (simp [*]; done)), H', ⟨by first | omega | exact Nat.le_refl _⟩, by repeat (first | exact Drawn0.refl _ | apply Drawn0.step)⟩
   ·rw [if_neg c4] at H
    have c4b0 := decide_eq_false c4
    have c4b1 : decide (32 < a0.size) = false := decide_eq_false (by omega)
    clear c4
    by_cases c5 : a0.toList = ([46] : List UInt8)
    ·rw [if_pos c5] at H
     have c5b0 : (a0.toList == ([46] : List UInt8)) = true := beq_iff_eq.mpr c5
     have c5b1 : (a0.toList != ([46] : List UInt8)) = false := bne_eq_false_iff_eq.mpr c5
     clear c5
     have H' := Aside0.mk H
     clear H
     go_wp2
     go_meet
     case rel => exact ⟨_, (true), (by first | rfl | (simp; done) | (simp [*]; done)), H', ⟨by first | omega | exact Nat.le_refl _⟩, by repeat (first | exact Drawn0.refl _ | apply Drawn0.step)⟩
    ·rw [if_neg c5] at H
     have c5b0 : (a0.toList == ([46] : List UInt8)) = false := beq_eq_false_iff_ne.mpr c5
     have c5b1 : (a0.toList != ([46] : List UInt8)) = true := bne_iff_ne.mpr c5
     by_cases c6 : a0.toList = ([46, 46] : List UInt8)
     ·rw [if_pos c6] at H
      have c6b0 : (a0.toList == ([46, 46] : List UInt8)) = true := beq_iff_eq.mpr c6
      have c6b1 : (a0.toList != ([46, 46] : List UInt8)) = false := bne_eq_false_iff_eq.mpr c6
      clear c6
      have H' := Aside0.mk H
      clear H
      go_wp2
      go_meet
      case rel => exact ⟨_, (true), (by first | rfl | (simp; done) | (simp [*]; done)), H', ⟨by first | omega | exact Nat.le_refl _⟩, by repeat (first | exact Drawn0.refl _ | apply Drawn0.step)⟩
     ·rw [if_neg c6] at H
      have c6b0 : (a0.toList == ([46, 46] : List UInt8)) = false := beq_eq_false_iff_ne.mpr c6
      have c6b1 : (a0.toList != ([46, 46] : List UInt8)) = true := bne_iff_ne.mpr c6
      have H' := Aside0.mk H
      clear H
      go_wp2
      go_meet
      case rel => exact ⟨_, ((a0.toList == ([46, 46, 46] : List UInt8))), (by first | rfl | (simp; done) | (simp [*]; done)), H', ⟨by first | omega | exact Nat.le_refl _⟩, by repeat (first | exact Drawn0.refl _ | apply Drawn0.step)⟩
 case rest =>
  clear HC2
  try clear p2
  try clear c3
  try clear c3b0
  try clear c3b1
  try clear c4
  try clear c4b0
  try clear c4b1
  try clear c5
  try clear c5b0
  try clear c5b1
  try clear c6
  try clear c6b0
  try clear c6b1
  obtain ⟨kq, x23_1, rfl, HA, HJ1, ⟨mc1, rfl⟩⟩ := hcut
  cases kq with
  | zero => exact absurd HA.out (by simp [copseref02_Component.j0])
  | succ kj1 =>
   have H := HA.out
   clear HA
   simp only [copseref02_Component.j0] at H
   by_cases c7 : x23_1 = true
   ·subst c7
    rw [if_pos rfl] at H
    have H1 := H
    clear H
    have H := H1
    clear H1
    obtain rfl := Option.some.inj H
    go_wp2
    go_ret
    exact ⟨by first | rfl | (simp; done) | (simp [*]; done), by repeat (first | exact Drawn0.refl _ | apply Drawn0.step)⟩
   ·replace c7 := Bool.eq_false_iff.mpr c7
    subst c7
    have H1 : (copseref02_Component.l0 kj1 a0 0) = some r := by rw [if_neg (show ¬ (false = true) by decide)] at H; exact H
    clear H
    have H := H1
    clear H1
    have H' := Aside0.mk H
    clear H
    go_wp2
    go_loopg [3] kj1 (fun kq v3 w' => ∃ (x3_2 : Int), v3 = .int .i64 x3_2 ∧ Aside0 (copseref02_Component.l0 kq a0 x3_2 = some r) ∧ Aside0 (kq ≤ kj1) ∧ Drawn0 w w')
    case atStart => exact ⟨(0), (by first | rfl | (simp; done) | (simp [*]; done)), H', ⟨Nat.le_refl _⟩, by repeat (first | exact Drawn0.refl _ | apply Drawn0.step)⟩
    case round =>
     clear H'
     try clear c1
     try clear p2
     try clear c3
     try clear c3b0
     try clear c3b1
     try clear c4
     try clear c4b0
     try clear c4b1
     try clear c5
     try clear c5b0
     try clear c5b1
     try clear c6
     try clear c6b0
     try clear c6b1
     try clear c7
     try clear p2
     obtain ⟨x3_2, rfl, HA, HK2, ⟨m2, rfl⟩⟩ := hrel
     cases gk with
     | zero => exact absurd HA.out (by simp [copseref02_Component.l0])
     | succ k2 =>
      have H := HA.out
      clear HA
      simp only [copseref02_Component.l0] at H
      by_cases c8 : x3_2 < (a0.size : Int)
      ·rw [if_pos c8] at H
       have c8b0 := decide_eq_true c8
       clear c8
       by_cases c9 : 0 ≤ x3_2
       ·rw [if_pos c9] at H
        have c9b0 := decide_eq_true c9
        clear c9
        replace H := Option.bind_eq_some_iff.mp H
        obtain ⟨t330, A110, H⟩ := H
        try dsimp only at H
        have A11 := Aside0.mk A110
        clear A110
        by_cases c12 : t330 = true
        ·subst c12
         rw [if_pos rfl] at H
         have H1 := H
         clear H
         have H := H1
         clear H1
         have H' := Aside0.mk H
         clear H
         have p10 : 0 ≤ (x3_2 : Int) := of_decide_eq_true (by first | (with_reducible assumption) | assumption)
         have q10 : x3_2 < (a0.size : Int) := of_decide_eq_true (by first | (with_reducible assumption) | assumption)
         have hx10 := bt_at a0 x3_2
         replace p10 := eq_true p10
         replace q10 := eq_true q10
         go_wp2_with (first | ((with_reducible refine gate_callee (f := 73) rfl ?_); refine goesL_ (some 33) rfl rfl Tryz.func73 (by kernel_rfl) rfl #[.int .u8 (bt a0 x3_2)] rfl (by (try simp only [List.map_toArray, List.map_cons, List.map_nil]); first | done | rfl | (simp only [List.length_drop, List.length_take]; rfl)) ?_; (with_reducible refine (copseref02_Byte.calls (bt a0 x3_2) true _ A11.out).mono ?_); rintro e w' ⟨rfl, ⟨nd, rfl⟩⟩; refine ⟨_, rfl, ?_⟩))
         go_roundg k2
         case measure => have := HJ1.out; have := HK2.out; omega
         case rel => exact ⟨(wrap64 (x3_2 + 1)), (by first | rfl | (simp; done) | (simp [*]; done)), H', ⟨by have := HJ1.out; have := HK2.out; omega⟩, by repeat (first | exact Drawn0.refl _ | apply Drawn0.step)⟩
        ·replace c12 := Bool.eq_false_iff.mpr c12
         subst c12
         have H1 : (some false) = some r := by rw [if_neg (show ¬ (false = true) by decide)] at H; exact H
         clear H
         have H := H1
         clear H1
         obtain rfl := Option.some.inj H
         have p10 : 0 ≤ (x3_2 : Int) := of_decide_eq_true (by first | (with_reducible assumption) | assumption)
         have q10 : x3_2 < (a0.size : Int) := of_decide_eq_true (by first | (with_reducible assumption) | assumption)
         have hx10 := bt_at a0 x3_2
         replace p10 := eq_true p10
         replace q10 := eq_true q10
         go_wp2_with (first | ((with_reducible refine gate_callee (f := 73) rfl ?_); refine goesL_ (some 33) rfl rfl Tryz.func73 (by kernel_rfl) rfl #[.int .u8 (bt a0 x3_2)] rfl (by (try simp only [List.map_toArray, List.map_cons, List.map_nil]); first | done | rfl | (simp only [List.length_drop, List.length_take]; rfl)) ?_; (with_reducible refine (copseref02_Byte.calls (bt a0 x3_2) false _ A11.out).mono ?_); rintro e w' ⟨rfl, ⟨nd, rfl⟩⟩; refine ⟨_, rfl, ?_⟩))
         go_ret
         exact ⟨by first | rfl | (simp; done) | (simp [*]; done), by repeat (first | exact Drawn0.refl _ | apply Drawn0.step)⟩
       ·rw [if_neg c9] at H
        exact absurd H (by simp)
      ·rw [if_neg c8] at H
       have c8b0 := decide_eq_false c8
       clear c8
       obtain rfl := Option.some.inj H
       go_wp2
       go_ret
       exact ⟨by first | rfl | (simp; done) | (simp [*]; done), by repeat (first | exact Drawn0.refl _ | apply Drawn0.step)⟩
mutual
def copseref02_Valid.j0 : Nat → List ByteArray → Bool → Option (Bool)
 | 0, _, _ => none
 | k + 1, x3, x14 => if x14 = true then (some false) else (copseref02_Valid.l0 k x3 0)
def copseref02_Valid.l0 : Nat → List ByteArray → Int → Option (Bool)
 | 0, _, _ => none
 | k + 1, x3, x4 => if x4 < (x3.length : Int) then (if 0 ≤ x4 then ((copseref02_Component.f k (rdOf ByteArray.empty x3 x4)).bind fun t335 => (if t335 = true then (copseref02_Valid.l0 k x3 (wrap64 (x4 + 1))) else (some false))) else (none)) else (some true)
end
def copseref02_Valid.f (k : Nat) (a0 : ByteArray) : Option (Bool) := (copseref02_Split.f k a0).bind fun t331 => (if (a0.size : Int) > 120 then (copseref02_Valid.j0 k t331 true) else (copseref02_Valid.j0 k t331 (decide ((t331.length : Int) > 12))))
set_option maxHeartbeats 8000000 in
set_option maxRecDepth 100000 in
theorem copseref02_Valid.calls (k : Nat) (a0 : ByteArray) (r : Bool) (w : World) (h : copseref02_Valid.f k a0 = some r) :
  Calls Tryz.prog 44 #[.string a0] w fun e w' => e = .returned (.bool r) ∧ Below w.heap.size w w' := by
 have HB := Aside0.mk (Below.refl w.heap.size w)
 have H : ((copseref02_Split.f k a0).bind fun t331 => (if (a0.size : Int) > 120 then (copseref02_Valid.j0 k t331 true) else (copseref02_Valid.j0 k t331 (decide ((t331.length : Int) > 12))))) = some r := h
 clear h
 replace H := Option.bind_eq_some_iff.mp H
 obtain ⟨t331, A20, H⟩ := H
 try dsimp only at H
 have A2 := Aside0.mk A20
 clear A20
 have HC3 := Aside0.mk H
 clear H
 go_enter Tryz.func44, Tryz.ntmps44
 go_upto_region 2 with (first | ((with_reducible refine gate_callee (f := 52) rfl ?_); refine goesL_ (some 6) rfl rfl Tryz.func52 (by kernel_rfl) rfl #[.string a0] rfl (by (try simp only [List.map_toArray, List.map_cons, List.map_nil]); first | done | rfl | (simp only [List.length_drop, List.length_take]; rfl)) ?_; (with_reducible refine (copseref02_Split.calls k a0 t331 _ A2.out).mono ?_); rintro e w4 ⟨v332, rfl, ho0, hb⟩; refine ⟨_, rfl, ?_⟩; have n0_ := Aside0.mk (Kd.R_lower ho0 (below_size (by repeat (first | (with_reducible first | exact HB.out | apply below_alloc | apply pw_below_drewN | apply below_drew1) | exact HB.out)))); have n1_ := Aside0.mk (below_step (by repeat (first | (with_reducible first | exact HB.out | apply below_alloc | apply pw_below_drewN | apply below_drew1) | exact HB.out)) hb); clear HB; have HO333 := n0_; have HB := n1_; clear n0_ n1_; (try clear hb); (try clear hb2); (try clear hk); (try clear hi); (try clear ho0)))
 (try simp only [Act.put, List.setIfInBounds_toArray, List.set_cons_zero, List.set_cons_succ])
 go_cut [14] (fun v14 wc => ∃ (kq : Nat) (x14_2 : Bool), v14 = .bool x14_2 ∧ Aside0 (copseref02_Valid.j0 kq t331 x14_2 = some r) ∧ Aside0 (kq ≤ k) ∧ Aside0 (Kd.R Kd.string 9 wc w.heap.size (fun _ => True) v332 t331) ∧ Aside0 (Below w.heap.size w wc))
 case first =>
  have H := HC3.out
  clear HC3
  by_cases c5 : (a0.size : Int) > 120
  ·rw [if_pos c5] at H
   have c5b0 := decide_eq_true c5
   have c5b1 : decide (120 < a0.size) = true := decide_eq_true (by omega)
   clear c5
   (first | rw [c5b0] | (simp only [i64_w, i32_w]; rw [c5b0]) | skip)
   have H' := Aside0.mk H
   clear H
   go_wp2
   go_meet
   case rel => exact ⟨_, (true), (by first | rfl | (simp; done) | (simp [*]; done)), H', ⟨by first | omega | exact Nat.le_refl _⟩, ⟨by (with_reducible repeat (first | apply Kd.R_alloc | apply Kd.R_drewN | apply Kd.R_drew)); exact HO333.out⟩, ⟨by repeat (first | (with_reducible first | exact HB.out | apply below_alloc | apply pw_below_drewN | apply below_drew1) | exact HB.out)⟩⟩
  ·rw [if_neg c5] at H
   have c5b0 := decide_eq_false c5
   have c5b1 : decide (120 < a0.size) = false := decide_eq_false (by omega)
   clear c5
   (first | rw [c5b0] | (simp only [i64_w, i32_w]; rw [c5b0]) | skip)
   have H' := Aside0.mk H
   clear H
   obtain ⟨Ao6, co6, eo6⟩ := Kd.R_slice HO333.out
   subst eo6
   go_wp2
   go_meet
   case rel => exact ⟨_, (decide ((t331.length : Int) > 12)), (by first | rfl | (simp; done) | (simp [*]; done)), H', ⟨by first | omega | exact Nat.le_refl _⟩, ⟨by (with_reducible repeat (first | apply Kd.R_alloc | apply Kd.R_drewN | apply Kd.R_drew)); exact HO333.out⟩, ⟨by repeat (first | (with_reducible first | exact HB.out | apply below_alloc | apply pw_below_drewN | apply below_drew1) | exact HB.out)⟩⟩
 case rest =>
  clear HC3
  try clear p2
  try clear c4
  try clear c5
  try clear c5b0
  try clear c5b1
  obtain ⟨kq, x14_2, rfl, HA, HJ2, HO_3, HB⟩ := hcut
  cases kq with
  | zero => exact absurd HA.out (by simp [copseref02_Valid.j0])
  | succ kj2 =>
   have H := HA.out
   clear HA
   simp only [copseref02_Valid.j0] at H
   by_cases c7 : x14_2 = true
   ·subst c7
    rw [if_pos rfl] at H
    have H1 := H
    clear H
    have H := H1
    clear H1
    obtain rfl := Option.some.inj H
    go_wp2
    go_ret
    exact ⟨by first | rfl | (simp [errW_none, errW_some] <;> rfl) | (simp [*, errW_none, errW_some] <;> rfl), by repeat (first | (with_reducible first | exact HB.out | apply below_alloc | apply pw_below_drewN | apply below_drew1) | exact HB.out)⟩
   ·replace c7 := Bool.eq_false_iff.mpr c7
    subst c7
    have H1 : (copseref02_Valid.l0 kj2 t331 0) = some r := by rw [if_neg (show ¬ (false = true) by decide)] at H; exact H
    clear H
    have H := H1
    clear H1
    have H' := Aside0.mk H
    clear H
    go_wp2
    go_loopg [4] kj2 (fun kq v4 w' => ∃ (x4_2 : Int), v4 = .int .i64 x4_2 ∧ Aside0 (copseref02_Valid.l0 kq t331 x4_2 = some r) ∧ Aside0 (kq ≤ kj2) ∧ Aside0 (Kd.R Kd.string 9 w' w.heap.size (fun _ => True) v332 t331) ∧ Aside0 (Below w.heap.size w w'))
    case atStart => exact ⟨(0), (by first | rfl | (simp; done) | (simp [*]; done)), H', ⟨Nat.le_refl _⟩, ⟨by (with_reducible repeat (first | apply Kd.R_alloc | apply Kd.R_drewN | apply Kd.R_drew)); exact HO_3.out⟩, ⟨by repeat (first | (with_reducible first | exact HB.out | apply below_alloc | apply pw_below_drewN | apply below_drew1) | exact HB.out)⟩⟩
    case round =>
     clear H'
     try clear p2
     try clear c4
     try clear c5
     try clear c5b0
     try clear c5b1
     try clear c7
     try clear p2
     obtain ⟨x4_2, rfl, HA, HK2, HO_3, HB⟩ := hrel
     cases gk with
     | zero => exact absurd HA.out (by simp [copseref02_Valid.l0])
     | succ k2 =>
      have H := HA.out
      clear HA
      simp only [copseref02_Valid.l0] at H
      by_cases c8 : x4_2 < (t331.length : Int)
      ·rw [if_pos c8] at H
       have c8b0 := decide_eq_true c8
       clear c8
       by_cases c9 : 0 ≤ x4_2
       ·rw [if_pos c9] at H
        have c9b0 := decide_eq_true c9
        clear c9
        replace H := Option.bind_eq_some_iff.mp H
        obtain ⟨t335, A100, H⟩ := H
        try dsimp only at H
        have A10 := Aside0.mk A100
        clear A100
        by_cases c11 : t335 = true
        ·subst c11
         rw [if_pos rfl] at H
         have H1 := H
         clear H
         have H := H1
         clear H1
         have H' := Aside0.mk H
         clear H
         obtain ⟨Ao12, co12, eo12⟩ := Kd.R_slice HO_3.out
         subst eo12
         have p334 : 0 ≤ (x4_2 : Int) := of_decide_eq_true (by first | (with_reducible assumption) | assumption)
         have q334 : x4_2 < (t331.length : Int) := of_decide_eq_true (by first | (with_reducible assumption) | assumption)
         obtain ⟨ad334, e334, hx334_0⟩ := Kd.at_string (Kd.R_reads' HO_3.out).2.2 x4_2 p334 q334
         cases e334
         replace p334 := eq_true p334
         replace q334 := eq_true q334
         go_wp2_with (first | ((with_reducible refine gate_callee (f := 64) rfl ?_); refine goesL_ (some 25) rfl rfl Tryz.func64 (by kernel_rfl) rfl #[.string (rdOf ByteArray.empty t331 x4_2)] rfl (by (try simp only [List.map_toArray, List.map_cons, List.map_nil]); first | done | rfl | (simp only [List.length_drop, List.length_take]; rfl)) ?_; (with_reducible refine (copseref02_Component.calls k2 (rdOf ByteArray.empty t331 x4_2) true _ A10.out).mono ?_); rintro e w' ⟨rfl, ⟨nd, rfl⟩⟩; refine ⟨_, rfl, ?_⟩))
         go_roundg k2
         case measure => have := HJ2.out; have := HK2.out; omega
         case rel => exact ⟨(wrap64 (x4_2 + 1)), (by first | rfl | (simp; done) | (simp [*]; done)), H', ⟨by have := HJ2.out; have := HK2.out; omega⟩, ⟨by (with_reducible repeat (first | apply Kd.R_alloc | apply Kd.R_drewN | apply Kd.R_drew)); exact HO_3.out⟩, ⟨by repeat (first | (with_reducible first | exact HB.out | apply below_alloc | apply pw_below_drewN | apply below_drew1) | exact HB.out)⟩⟩
        ·replace c11 := Bool.eq_false_iff.mpr c11
         subst c11
         have H1 : (some false) = some r := by rw [if_neg (show ¬ (false = true) by decide)] at H; exact H
         clear H
         have H := H1
         clear H1
         obtain rfl := Option.some.inj H
         obtain ⟨Ao13, co13, eo13⟩ := Kd.R_slice HO_3.out
         subst eo13
         have p334 : 0 ≤ (x4_2 : Int) := of_decide_eq_true (by first | (with_reducible assumption) | assumption)
         have q334 : x4_2 < (t331.length : Int) := of_decide_eq_true (by first | (with_reducible assumption) | assumption)
         obtain ⟨ad334, e334, hx334_0⟩ := Kd.at_string (Kd.R_reads' HO_3.out).2.2 x4_2 p334 q334
         cases e334
         replace p334 := eq_true p334
         replace q334 := eq_true q334
         go_wp2_with (first | ((with_reducible refine gate_callee (f := 64) rfl ?_); refine goesL_ (some 25) rfl rfl Tryz.func64 (by kernel_rfl) rfl #[.string (rdOf ByteArray.empty t331 x4_2)] rfl (by (try simp only [List.map_toArray, List.map_cons, List.map_nil]); first | done | rfl | (simp only [List.length_drop, List.length_take]; rfl)) ?_; (with_reducible refine (copseref02_Component.calls k2 (rdOf ByteArray.empty t331 x4_2) false _ A10.out).mono ?_); rintro e w' ⟨rfl, ⟨nd, rfl⟩⟩; refine ⟨_, rfl, ?_⟩))
         go_ret
         exact ⟨by first | rfl | (simp [errW_none, errW_some] <;> rfl) | (simp [*, errW_none, errW_some] <;> rfl), by repeat (first | (with_reducible first | exact HB.out | apply below_alloc | apply pw_below_drewN | apply below_drew1) | exact HB.out)⟩
       ·rw [if_neg c9] at H
        exact absurd H (by simp)
      ·rw [if_neg c8] at H
       have c8b0 := decide_eq_false c8
       clear c8
       obtain rfl := Option.some.inj H
       obtain ⟨Ao14, co14, eo14⟩ := Kd.R_slice HO_3.out
       subst eo14
       go_wp2
       go_ret
       exact ⟨by first | rfl | (simp [errW_none, errW_some] <;> rfl) | (simp [*, errW_none, errW_some] <;> rfl), by repeat (first | (with_reducible first | exact HB.out | apply below_alloc | apply pw_below_drewN | apply below_drew1) | exact HB.out)⟩
end Go.Proofs.YtdfkaclflmgkeaaGreatDoor.PAll
