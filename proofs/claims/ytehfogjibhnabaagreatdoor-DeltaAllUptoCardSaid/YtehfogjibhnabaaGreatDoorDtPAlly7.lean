/- What functions of the program compute, each with its walk: a contract for every world and every argument of the kind told. -/
import Derived.Test.YtehfogjibhnabaaGreatDoorDtPAllx0
import Derived.Test.YtehfogjibhnabaaGreatDoorDtHandA
import Derived.Test.YtehfogjibhnabaaGreatDoorDtPAlly5
import Derived.Test.YtehfogjibhnabaaGreatDoorDtPAlly13
import Derived.Test.YtehfogjibhnabaaGreatDoorDtPAlly6
import Derived.Test.YtehfogjibhnabaaGreatDoorDtPAlly3
import Derived.Test.YtehfogjibhnabaaGreatDoorDtPAlly15
namespace Go.Proofs.YtehfogjibhnabaaGreatDoor.PAll
open Go.RowKit Go.Proofs.YtehfogjibhnabaaGreatDoorW.PrintWords Go.Proofs.YtehfogjibhnabaaGreatDoorW.PrintLast Go.Proofs.YtehfogjibhnabaaGreatDoorW.PrintMore
attribute [local go_sem] max2_int min2_int max_two min_two max_three min_three max_four min_four
set_option linter.unusedVariables false
set_option linter.unusedSimpArgs false
attribute [local go_sem high] eqA43 eqA45
def copselaw06_lentFiles.l0 : Nat → List (S43) → Int → Option ((List (S43)))
 | 0, _, _ => none
 | k + 1, x3, x4 => if x4 < 20 then (if x3.length < 2932031007402 then (copselaw06_lentFiles.l0 k (x3 ++ [(⟨(⟨#[63]⟩ : ByteArray), (⟨#[]⟩ : ByteArray), x4, 0⟩ : S43)]) (wrap64 (x4 + 1))) else (none)) else (some x3)
def copselaw06_lentFiles.f (k : Nat) (l0 : List (S43)) : Option ((List (S43))) := if ([] : List (S43)).length + l0.length < 2932031007402 then (copselaw06_lentFiles.l0 k (([] : List (S43)) ++ l0) 0) else (none)
set_option maxHeartbeats 8000000 in
set_option maxRecDepth 100000 in
theorem copselaw06_lentFiles.calls (k : Nat) (A0 : Option Addr) (c0 : Nat) (l0 : List (S43)) (r : List (S43)) (w : World) (hr0 : Kd.C k43 w A0 l0.length l0) (hc0 : l0.length ≤ c0) (h : copselaw06_lentFiles.f k l0 = some r) :
  Calls Tryz.prog 4 #[.slice A0 l0.length c0] w fun e w' => ∃ v0_ : Value, e = .returned (v0_) ∧ Kd.R k43 43 w' w.heap.size (fun _ => True) v0_ r ∧ Below w.heap.size w w' := by
 have hu43 := Tryz.underlying43
 have HR0 := Aside0.mk hr0
 have HC0 := Aside0.mk hc0
 clear hr0 hc0
 have HB := Aside0.mk (Below.refl w.heap.size w)
 have H : (if ([] : List (S43)).length + l0.length < 2932031007402 then (copselaw06_lentFiles.l0 k (([] : List (S43)) ++ l0) 0) else (none)) = some r := h
 clear h
 by_cases c2 : ([] : List (S43)).length + l0.length < 2932031007402
 rotate_left
 ·rw [if_neg c2] at H
  exact absurd H (by simp)
 rw [if_pos c2] at H
 have LMc2 := Aside0.mk c2
 clear c2
 obtain ⟨y273, hy273⟩ : ∃ y_ : List (S43), y_ = (([] : List (S43)) ++ l0) := ⟨_, rfl⟩
 replace H : (copselaw06_lentFiles.l0 k y273 0) = some r := by first | (rw [hy273]; with_reducible exact H) | (have H2_ := (Option.bind_some _ _).symm.trans H; rw [hy273]; with_reducible exact H2_) | (have H2_ := (Option.bind_some _ _).symm.trans H; with_reducible exact H2_) | with_reducible exact H | (rw [hy273]; exact H) | exact H
 have Ny273 := Aside0.mk hy273
 clear hy273
 have H' := Aside0.mk H
 clear H
 go_enter Tryz.func4, Tryz.ntmps4
 go_wp2_with (first | ((with_reducible refine gate_builtin (b := .append) (xs := #[.tmp 5, .tmp 6]) rfl ?_); at_builtin; refine Kd.R_append_rows k43 (w0 := w) w.heap.size rfl (.tmp 5) (.tmp 6) 22 43 (.agg #[(.string ⟨#[]⟩), (.string ⟨#[]⟩), (.int .i64 0), (.int .i64 0)]) 48 rfl Tryz.underlying22 info43 rfl (by decide) (by omega) (.slice none 0 0) ([] : List (S43)) l0 _ _ _ (fun _ => True) (fun _ => False) rfl rfl ?aO ?aR (fun _ _ h => h) (fun _ h => h.elim) ?aF ?aB ?aS ?aL ?_; (case aR => repeat (first | exact HR0.out | (with_reducible refine Kd.C_alloc ?_ _) | (with_reducible refine Kd.C_drewN ?_ _) | (with_reducible refine Kd.C_drew ?_))); (case aB => exact (bel_)); (case aF => exact (fun _ _ => trivial)); (case aO => exact ((Kd.R_nil _ _ _ _ (fun _ => True)))); (case aS => exact (below_size (bel_))); (case aL => have := LMc2.out; omega); intro v274 w3 ho hb hg hat; rw [← Ny273.out] at ho; have n0_ := Aside0.mk (hb); have n1_ := Aside0.mk (ho); clear HB; have HB := n0_; have HO275 := n1_; clear n0_ n1_; clear ho hb hg hat))
 go_loopg [3, 4] k (fun kq v3 v4 w' => ∃ (x3_1 : List (S43)) (x4_1 : Int), v4 = .int .i64 x4_1 ∧ Aside0 (copselaw06_lentFiles.l0 kq x3_1 x4_1 = some r) ∧ Aside0 (kq ≤ k) ∧ Aside0 (Kd.R k43 43 w' w.heap.size (fun _ => True) v3 x3_1) ∧ Aside0 (Below w.heap.size w w'))
 case atStart => exact ⟨(y273), (0), (rf_), H', ⟨Nat.le_refl _⟩, ⟨ur_ HO275.out⟩, ⟨bel_⟩⟩
 case round =>
  clear H'
  try clear c2
  try clear p2
  obtain ⟨x3_1, x4_1, rfl, HA, HK1, HO_3, HB⟩ := hrel
  cases gk with
  | zero => exact absurd HA.out (by simp [copselaw06_lentFiles.l0])
  | succ k1 =>
   have H := HA.out
   clear HA
   simp only [copselaw06_lentFiles.l0] at H
   by_cases c4 : x4_1 < 20
   rotate_left
   ·rw [if_neg c4] at H
    have c4b0 := decide_eq_false c4
    clear c4
    obtain rfl := Option.some.inj H
    go_wp2
    go_ret
    exact ⟨_, er_, ur_ HO_3.out, bel_⟩
   rw [if_pos c4] at H
   have c4b0 := decide_eq_true c4
   clear c4
   by_cases c5 : x3_1.length < 2932031007402
   rotate_left
   ·rw [if_neg c5] at H
    exact absurd H (by simp)
   rw [if_pos c5] at H
   have LMc5 := Aside0.mk c5
   clear c5
   obtain ⟨y276, hy276⟩ : ∃ y_ : List (S43), y_ = (x3_1 ++ [(⟨(⟨#[63]⟩ : ByteArray), (⟨#[]⟩ : ByteArray), x4_1, 0⟩ : S43)]) := ⟨_, rfl⟩
   replace H : (copselaw06_lentFiles.l0 k1 y276 (wrap64 (x4_1 + 1))) = some r := by first | (rw [hy276]; with_reducible exact H) | (have H2_ := (Option.bind_some _ _).symm.trans H; rw [hy276]; with_reducible exact H2_) | (have H2_ := (Option.bind_some _ _).symm.trans H; with_reducible exact H2_) | with_reducible exact H | (rw [hy276]; exact H) | exact H
   have Ny276 := Aside0.mk hy276
   clear hy276
   have H' := Aside0.mk H
   clear H
   go_wp2_with (first | ((with_reducible refine gate_builtin (b := .append) (xs := #[.tmp 12, .tmp 15]) rfl ?_); at_builtin; refine Kd.R_append k43 (w0 := w) w.heap.size rfl (.tmp 12) (.tmp 15) 22 43 (.agg #[(.string ⟨#[]⟩), (.string ⟨#[]⟩), (.int .i64 0), (.int .i64 0)]) 48 rfl Tryz.underlying22 info43 rfl (by decide) (by omega) u3 x3_1 (⟨(⟨#[63]⟩ : ByteArray), (⟨#[]⟩ : ByteArray), x4_1, 0⟩ : S43) [.string (⟨#[63]⟩ : ByteArray), .string (⟨#[]⟩ : ByteArray), .int .i64 x4_1, .int .i64 0] (fun _ => True) (fun _ => False) rfl rfl ?aP (fun _ hk => hk.elim) ?aF ?aO ?aB ?aS ?aL ?_; (case aP => exact k43_mkM _ _ _ (⟨(⟨#[63]⟩ : ByteArray), (⟨#[]⟩ : ByteArray), x4_1, 0⟩ : S43)); (case aB => exact (bel_)); (case aF => exact (fun _ _ => trivial)); (case aO => exact (ur_ HO_3.out)); (case aS => exact (below_size (bel_))); (case aL => have := LMc5.out; omega); intro v277 w6 ho hb hg hat; rw [← Ny276.out] at ho; have n0_ := Aside0.mk (hb); have n1_ := Aside0.mk (ho); clear HB; clear HO_3; have HB := n0_; have HO278 := n1_; clear n0_ n1_; clear ho hb hg hat))
   go_roundg k1
   case measure => have := HK1.out; omega
   case rel => exact ⟨(y276), (wrap64 (x4_1 + 1)), (rf_), H', ⟨by have := HK1.out; omega⟩, ⟨ur_ HO278.out⟩, ⟨bel_⟩⟩
def copselaw06_lentChanges.l0 : Nat → List (S45) → Int → Option ((List (S45)))
 | 0, _, _ => none
 | k + 1, x3, x4 => if x4 < 20 then (if x3.length < 1172812402961 then (copselaw06_lentChanges.l0 k (x3 ++ [(⟨(⟨#[63]⟩ : ByteArray), false, false, (⟨(⟨#[]⟩ : ByteArray), (⟨#[]⟩ : ByteArray), x4, 0⟩ : S43), (⟨(⟨#[]⟩ : ByteArray), (⟨#[]⟩ : ByteArray), 0, 0⟩ : S43)⟩ : S45)]) (wrap64 (x4 + 1))) else (none)) else (some x3)
def copselaw06_lentChanges.f (k : Nat) (l0 : List (S45)) : Option ((List (S45))) := if ([] : List (S45)).length + l0.length < 1172812402961 then (copselaw06_lentChanges.l0 k (([] : List (S45)) ++ l0) 0) else (none)
set_option maxHeartbeats 8000000 in
set_option maxRecDepth 100000 in
theorem copselaw06_lentChanges.calls (k : Nat) (A0 : Option Addr) (c0 : Nat) (l0 : List (S45)) (r : List (S45)) (w : World) (hr0 : Kd.C k45 w A0 l0.length l0) (hc0 : l0.length ≤ c0) (h : copselaw06_lentChanges.f k l0 = some r) :
  Calls Tryz.prog 5 #[.slice A0 l0.length c0] w fun e w' => ∃ v0_ : Value, e = .returned (v0_) ∧ Kd.R k45 45 w' w.heap.size (fun _ => True) v0_ r ∧ Below w.heap.size w w' := by
 have hu43 := Tryz.underlying43
 have hu45 := Tryz.underlying45
 have HR0 := Aside0.mk hr0
 have HC0 := Aside0.mk hc0
 clear hr0 hc0
 have HB := Aside0.mk (Below.refl w.heap.size w)
 have H : (if ([] : List (S45)).length + l0.length < 1172812402961 then (copselaw06_lentChanges.l0 k (([] : List (S45)) ++ l0) 0) else (none)) = some r := h
 clear h
 by_cases c2 : ([] : List (S45)).length + l0.length < 1172812402961
 rotate_left
 ·rw [if_neg c2] at H
  exact absurd H (by simp)
 rw [if_pos c2] at H
 have LMc2 := Aside0.mk c2
 clear c2
 obtain ⟨y279, hy279⟩ : ∃ y_ : List (S45), y_ = (([] : List (S45)) ++ l0) := ⟨_, rfl⟩
 replace H : (copselaw06_lentChanges.l0 k y279 0) = some r := by first | (rw [hy279]; with_reducible exact H) | (have H2_ := (Option.bind_some _ _).symm.trans H; rw [hy279]; with_reducible exact H2_) | (have H2_ := (Option.bind_some _ _).symm.trans H; with_reducible exact H2_) | with_reducible exact H | (rw [hy279]; exact H) | exact H
 have Ny279 := Aside0.mk hy279
 clear hy279
 have H' := Aside0.mk H
 clear H
 go_enter Tryz.func5, Tryz.ntmps5
 go_wp2_with (first | ((with_reducible refine gate_builtin (b := .append) (xs := #[.tmp 5, .tmp 6]) rfl ?_); at_builtin; refine Kd.R_append_rows k45 (w0 := w) w.heap.size rfl (.tmp 5) (.tmp 6) 23 45 (.agg #[(.string ⟨#[]⟩), (.bool false), (.bool false), (.string ⟨#[]⟩), (.string ⟨#[]⟩), (.int .i64 0), (.int .i64 0), (.string ⟨#[]⟩), (.string ⟨#[]⟩), (.int .i64 0), (.int .i64 0)]) 120 rfl Tryz.underlying23 info45 rfl (by decide) (by omega) (.slice none 0 0) ([] : List (S45)) l0 _ _ _ (fun _ => True) (fun _ => False) rfl rfl ?aO ?aR (fun _ _ h => h) (fun _ h => h.elim) ?aF ?aB ?aS ?aL ?_; (case aR => repeat (first | exact HR0.out | (with_reducible refine Kd.C_alloc ?_ _) | (with_reducible refine Kd.C_drewN ?_ _) | (with_reducible refine Kd.C_drew ?_))); (case aB => exact (bel_)); (case aF => exact (fun _ _ => trivial)); (case aO => exact ((Kd.R_nil _ _ _ _ (fun _ => True)))); (case aS => exact (below_size (bel_))); (case aL => have := LMc2.out; omega); intro v280 w3 ho hb hg hat; rw [← Ny279.out] at ho; have n0_ := Aside0.mk (hb); have n1_ := Aside0.mk (ho); clear HB; have HB := n0_; have HO281 := n1_; clear n0_ n1_; clear ho hb hg hat))
 go_loopg [3, 4] k (fun kq v3 v4 w' => ∃ (x3_1 : List (S45)) (x4_1 : Int), v4 = .int .i64 x4_1 ∧ Aside0 (copselaw06_lentChanges.l0 kq x3_1 x4_1 = some r) ∧ Aside0 (kq ≤ k) ∧ Aside0 (Kd.R k45 45 w' w.heap.size (fun _ => True) v3 x3_1) ∧ Aside0 (Below w.heap.size w w'))
 case atStart => exact ⟨(y279), (0), (rf_), H', ⟨Nat.le_refl _⟩, ⟨ur_ HO281.out⟩, ⟨bel_⟩⟩
 case round =>
  clear H'
  try clear c2
  try clear p2
  obtain ⟨x3_1, x4_1, rfl, HA, HK1, HO_3, HB⟩ := hrel
  cases gk with
  | zero => exact absurd HA.out (by simp [copselaw06_lentChanges.l0])
  | succ k1 =>
   have H := HA.out
   clear HA
   simp only [copselaw06_lentChanges.l0] at H
   by_cases c4 : x4_1 < 20
   rotate_left
   ·rw [if_neg c4] at H
    have c4b0 := decide_eq_false c4
    clear c4
    obtain rfl := Option.some.inj H
    go_wp2
    go_ret
    exact ⟨_, er_, ur_ HO_3.out, bel_⟩
   rw [if_pos c4] at H
   have c4b0 := decide_eq_true c4
   clear c4
   by_cases c5 : x3_1.length < 1172812402961
   rotate_left
   ·rw [if_neg c5] at H
    exact absurd H (by simp)
   rw [if_pos c5] at H
   have LMc5 := Aside0.mk c5
   clear c5
   obtain ⟨y282, hy282⟩ : ∃ y_ : List (S45), y_ = (x3_1 ++ [(⟨(⟨#[63]⟩ : ByteArray), false, false, (⟨(⟨#[]⟩ : ByteArray), (⟨#[]⟩ : ByteArray), x4_1, 0⟩ : S43), (⟨(⟨#[]⟩ : ByteArray), (⟨#[]⟩ : ByteArray), 0, 0⟩ : S43)⟩ : S45)]) := ⟨_, rfl⟩
   replace H : (copselaw06_lentChanges.l0 k1 y282 (wrap64 (x4_1 + 1))) = some r := by first | (rw [hy282]; with_reducible exact H) | (have H2_ := (Option.bind_some _ _).symm.trans H; rw [hy282]; with_reducible exact H2_) | (have H2_ := (Option.bind_some _ _).symm.trans H; with_reducible exact H2_) | with_reducible exact H | (rw [hy282]; exact H) | exact H
   have Ny282 := Aside0.mk hy282
   clear hy282
   have H' := Aside0.mk H
   clear H
   go_wp2_with (first | ((with_reducible refine gate_builtin (b := .append) (xs := #[.tmp 12, .tmp 16]) rfl ?_); at_builtin; refine Kd.R_append k45 (w0 := w) w.heap.size rfl (.tmp 12) (.tmp 16) 23 45 (.agg #[(.string ⟨#[]⟩), (.bool false), (.bool false), (.string ⟨#[]⟩), (.string ⟨#[]⟩), (.int .i64 0), (.int .i64 0), (.string ⟨#[]⟩), (.string ⟨#[]⟩), (.int .i64 0), (.int .i64 0)]) 120 rfl Tryz.underlying23 info45 rfl (by decide) (by omega) u3 x3_1 (⟨(⟨#[63]⟩ : ByteArray), false, false, (⟨(⟨#[]⟩ : ByteArray), (⟨#[]⟩ : ByteArray), x4_1, 0⟩ : S43), (⟨(⟨#[]⟩ : ByteArray), (⟨#[]⟩ : ByteArray), 0, 0⟩ : S43)⟩ : S45) [.string (⟨#[63]⟩ : ByteArray), .bool false, .bool false, .string (⟨#[]⟩ : ByteArray), .string (⟨#[]⟩ : ByteArray), .int .i64 x4_1, .int .i64 0, .string (⟨#[]⟩ : ByteArray), .string (⟨#[]⟩ : ByteArray), .int .i64 0, .int .i64 0] (fun _ => True) (fun _ => False) rfl rfl ?aP (fun _ hk => hk.elim) ?aF ?aO ?aB ?aS ?aL ?_; (case aP => exact k45_mkM _ _ _ (⟨(⟨#[63]⟩ : ByteArray), false, false, (⟨(⟨#[]⟩ : ByteArray), (⟨#[]⟩ : ByteArray), x4_1, 0⟩ : S43), (⟨(⟨#[]⟩ : ByteArray), (⟨#[]⟩ : ByteArray), 0, 0⟩ : S43)⟩ : S45)); (case aB => exact (bel_)); (case aF => exact (fun _ _ => trivial)); (case aO => exact (ur_ HO_3.out)); (case aS => exact (below_size (bel_))); (case aL => have := LMc5.out; omega); intro v283 w6 ho hb hg hat; rw [← Ny282.out] at ho; have n0_ := Aside0.mk (hb); have n1_ := Aside0.mk (ho); clear HB; clear HO_3; have HB := n0_; have HO284 := n1_; clear n0_ n1_; clear ho hb hg hat))
   go_roundg k1
   case measure => have := HK1.out; omega
   case rel => exact ⟨(y282), (wrap64 (x4_1 + 1)), (rf_), H', ⟨by have := HK1.out; omega⟩, ⟨ur_ HO284.out⟩, ⟨bel_⟩⟩
def copseref06_Paths.l0 : Nat → List (S45) → List ByteArray → Int → Option (List ByteArray)
 | 0, _, _, _ => none
 | k + 1, x0, x3, x4 => if x4 < (x0.length : Int) then (if 0 ≤ x4 then (if x3.length < 8796093022208 then (copseref06_Paths.l0 k x0 (x3 ++ [(rd_T45 x0 x4).f0]) (wrap64 (x4 + 1))) else (none)) else (none)) else (some x3)
def copseref06_Paths.f (k : Nat) (l0 : List (S45)) : Option (List ByteArray) := copseref06_Paths.l0 k l0 ([] : List ByteArray) 0
set_option maxHeartbeats 8000000 in
set_option maxRecDepth 100000 in
theorem copseref06_Paths.calls (k : Nat) (A0 : Option Addr) (c0 : Nat) (l0 : List (S45)) (r : List ByteArray) (w : World) (hr0 : Kd.C k45 w A0 l0.length l0) (hc0 : l0.length ≤ c0) (h : copseref06_Paths.f k l0 = some r) :
  Calls Tryz.prog 22 #[.slice A0 l0.length c0] w fun e w' => ∃ v0_ : Value, e = .returned (v0_) ∧ Kd.R Kd.string 9 w' w.heap.size (fun _ => True) v0_ r ∧ Below w.heap.size w w' := by
 have HR0 := Aside0.mk hr0
 have HC0 := Aside0.mk hc0
 clear hr0 hc0
 have HB := Aside0.mk (Below.refl w.heap.size w)
 have H : (copseref06_Paths.l0 k l0 ([] : List ByteArray) 0) = some r := h
 clear h
 have H' := Aside0.mk H
 clear H
 go_enter Tryz.func22, Tryz.ntmps22
 go_wp2
 go_loopg [3, 4] k (fun kq v3 v4 w' => ∃ (x3_1 : List ByteArray) (x4_1 : Int), v4 = .int .i64 x4_1 ∧ Aside0 (copseref06_Paths.l0 kq l0 x3_1 x4_1 = some r) ∧ Aside0 (kq ≤ k) ∧ Aside0 (Kd.R Kd.string 9 w' w.heap.size (fun _ => True) v3 x3_1) ∧ Aside0 (Below w.heap.size w w'))
 case atStart => exact ⟨(([] : List ByteArray)), (0), (rf_), H', ⟨Nat.le_refl _⟩, ⟨nl_⟩, ⟨bel_⟩⟩
 case round =>
  clear H'
  obtain ⟨x3_1, x4_1, rfl, HA, HK1, HO_3, HB⟩ := hrel
  cases gk with
  | zero => exact absurd HA.out (by simp [copseref06_Paths.l0])
  | succ k1 =>
   have H := HA.out
   clear HA
   simp only [copseref06_Paths.l0] at H
   by_cases c2 : x4_1 < (l0.length : Int)
   rotate_left
   ·rw [if_neg c2] at H
    have c2b0 := decide_eq_false c2
    clear c2
    obtain rfl := Option.some.inj H
    go_wp2
    go_ret
    exact ⟨_, er_, ur_ HO_3.out, bel_⟩
   rw [if_pos c2] at H
   have c2b0 := decide_eq_true c2
   clear c2
   by_cases c3 : 0 ≤ x4_1
   rotate_left
   ·rw [if_neg c3] at H
    exact absurd H (by simp)
   rw [if_pos c3] at H
   have c3b0 := decide_eq_true c3
   clear c3
   by_cases c4 : x3_1.length < 8796093022208
   rotate_left
   ·rw [if_neg c4] at H
    exact absurd H (by simp)
   rw [if_pos c4] at H
   have LMc4 := Aside0.mk c4
   clear c4
   obtain ⟨y303, hy303⟩ : ∃ y_ : List ByteArray, y_ = (x3_1 ++ [(rd_T45 l0 x4_1).f0]) := ⟨_, rfl⟩
   replace H : (copseref06_Paths.l0 k1 l0 y303 (wrap64 (x4_1 + 1))) = some r := by first | (rw [hy303]; with_reducible exact H) | (have H2_ := (Option.bind_some _ _).symm.trans H; rw [hy303]; with_reducible exact H2_) | (have H2_ := (Option.bind_some _ _).symm.trans H; with_reducible exact H2_) | with_reducible exact H | (rw [hy303]; exact H) | exact H
   have Ny303 := Aside0.mk hy303
   clear hy303
   have H' := Aside0.mk H
   clear H
   have p302 : 0 ≤ (x4_1 : Int) := of_decide_eq_true (by assumption)
   have q302 : x4_1 < (l0.length : Int) := of_decide_eq_true (by assumption)
   obtain ⟨ad302, e302, hx302_0, hx302_1, hx302_2, hx302_3, hx302_4, hx302_5, hx302_6, hx302_7, hx302_8, hx302_9, hx302_10⟩ := at_T45 HR0.out x4_1 p302 q302
   cases e302
   replace hx302_0 := hk_ HB.out hx302_0
   replace hx302_1 := hk_ HB.out hx302_1
   replace hx302_2 := hk_ HB.out hx302_2
   replace hx302_3 := hk_ HB.out hx302_3
   replace hx302_4 := hk_ HB.out hx302_4
   replace hx302_5 := hk_ HB.out hx302_5
   replace hx302_6 := hk_ HB.out hx302_6
   replace hx302_7 := hk_ HB.out hx302_7
   replace hx302_8 := hk_ HB.out hx302_8
   replace hx302_9 := hk_ HB.out hx302_9
   replace hx302_10 := hk_ HB.out hx302_10
   replace p302 := eq_true p302
   replace q302 := eq_true q302
   go_wp2_with (first | ((with_reducible refine gate_builtin (b := .append) (xs := #[.tmp 11, .tmp 17]) rfl ?_); at_builtin; refine Kd.R_append Kd.string (w0 := w) w.heap.size rfl (.tmp 11) (.tmp 17) 38 9 (.string ⟨#[]⟩) 16 rfl Tryz.underlying38 info9 rfl (by decide) (by omega) u3 x3_1 ((rd_T45 l0 x4_1).f0) [.string ((rd_T45 l0 x4_1).f0)] (fun _ => True) (fun _ => False) rfl rfl ?aP (fun _ hk => hk.elim) ?aF ?aO ?aB ?aS ?aL ?_; (case aP => exact rfl); (case aB => exact (bel_)); (case aF => exact (fun _ _ => trivial)); (case aO => exact (ur_ HO_3.out)); (case aS => exact (below_size (bel_))); (case aL => have := LMc4.out; omega); intro v304 w5 ho hb hg hat; rw [← Ny303.out] at ho; have n0_ := Aside0.mk (hb); have n1_ := Aside0.mk (ho); clear HB; clear HO_3; have HB := n0_; have HO305 := n1_; clear n0_ n1_; clear ho hb hg hat))
   go_roundg k1
   case measure => have := HK1.out; omega
   case rel => exact ⟨(y303), (wrap64 (x4_1 + 1)), (rf_), H', ⟨by have := HK1.out; omega⟩, ⟨ur_ HO305.out⟩, ⟨bel_⟩⟩
def copseref06_at.l0 : Nat → List (S43) → ByteArray → Int → Option (ByteArray × ByteArray × Int × Int × Bool)
 | 0, _, _, _ => none
 | k + 1, x0, x1, x6 => if x6 < (x0.length : Int) then (if 0 ≤ x6 then (if ((rd_T43 x0 x6).f0).toList = x1.toList then (some ((rd_T43 x0 x6).f0, (rd_T43 x0 x6).f1, (rd_T43 x0 x6).f2, (rd_T43 x0 x6).f3, true)) else (copseref06_at.l0 k x0 x1 (wrap64 (x6 + 1)))) else (none)) else (some ((⟨#[]⟩ : ByteArray), (⟨#[]⟩ : ByteArray), 0, 0, false))
def copseref06_at.f (k : Nat) (l0 : List (S43)) (a1 : ByteArray) : Option (ByteArray × ByteArray × Int × Int × Bool) := copseref06_at.l0 k l0 a1 0
set_option maxHeartbeats 8000000 in
set_option maxRecDepth 100000 in
theorem copseref06_at.calls (k : Nat) (A0 : Option Addr) (c0 : Nat) (l0 : List (S43)) (a1 : ByteArray) (r1 : ByteArray) (r2 : ByteArray) (r3 : Int) (r4 : Int) (r5 : Bool) (w : World) (hr0 : Kd.C k43 w A0 l0.length l0) (hc0 : l0.length ≤ c0) (h : copseref06_at.f k l0 a1 = some (r1, r2, r3, r4, r5)) :
  Calls Tryz.prog 38 #[.slice A0 l0.length c0, .string a1] w fun e w' => e = .returned (.tuple #[.agg #[.string r1, .string r2, .int .i64 r3, .int .i64 r4], .bool r5]) ∧ Below w.heap.size w w' := by
 have hu43 := Tryz.underlying43
 have HR0 := Aside0.mk hr0
 have HC0 := Aside0.mk hc0
 clear hr0 hc0
 have HB := Aside0.mk (Below.refl w.heap.size w)
 have H : (copseref06_at.l0 k l0 a1 0) = some (r1, r2, r3, r4, r5) := h
 clear h
 have H' := Aside0.mk H
 clear H
 go_enter Tryz.func38, Tryz.ntmps38
 go_wp2_with (first | ((with_reducible refine gate_dst (N := 4) rfl ?_); refine box_event ?hg (N := 4) ?hd (cs := #[.string (⟨#[]⟩ : ByteArray), .string (⟨#[]⟩ : ByteArray), .int .i64 0, .int .i64 0]) (t := 43) ?hr ?_; (case hd => rfl); (case hg => rfl); (case hr => first | (go_simp; done) | (go_simp; rfl)); intro gb306 hg w3 hbox hb; have n0_ := Aside0.mk (below_step (bel_) hb); have n1_ := Aside0.mk (hbox); have n2_ := Aside0.mk ((by rw [hg]; exact (below_size (bel_)) : w.heap.size ≤ gb306)); have n3_ := Aside0.mk ((by rw [hg]; exact (below_size (bel_)) : w.heap.size ≤ gb306)); clear HB; have HB := n0_; have BK306 := n1_; have GW306 := n2_; have GE306 := n3_; clear n0_ n1_ n2_ n3_; clear hb hbox hg))
 go_loopg [6] k (fun kq v6 w' => ∃ (x6_1 : Int) (x307000_1 : ByteArray) (x307001_1 : ByteArray) (x307002_1 : Int) (x307003_1 : Int), v6 = .int .i64 x6_1 ∧ Aside0 (copseref06_at.l0 kq l0 a1 x6_1 = some (r1, r2, r3, r4, r5)) ∧ Aside0 (kq ≤ k) ∧ Aside0 (w'.heap[gb306]? = some (.cells #[.string x307000_1, .string x307001_1, .int .i64 x307002_1, .int .i64 x307003_1] 43 (0, 0))) ∧ Aside0 (Below w.heap.size w w'))
 case atStart => exact ⟨(0), ((⟨#[]⟩ : ByteArray)), ((⟨#[]⟩ : ByteArray)), (0), (0), (rf_), H', ⟨Nat.le_refl _⟩, ⟨ub_ BK306.out⟩, ⟨bes_ GE306.out⟩⟩
 case round =>
  clear H'
  try clear p2
  try clear c3
  obtain ⟨x6_1, x307000_1, x307001_1, x307002_1, x307003_1, rfl, HA, HK1, BK306, HB⟩ := hrel
  cases gk with
  | zero => exact absurd HA.out (by simp [copseref06_at.l0])
  | succ k1 =>
   have H := HA.out
   clear HA
   simp only [copseref06_at.l0] at H
   by_cases c4 : x6_1 < (l0.length : Int)
   rotate_left
   ·rw [if_neg c4] at H
    have c4b0 := decide_eq_false c4
    clear c4
    simp only [Option.some.injEq, Prod.mk.injEq] at H
    obtain ⟨rfl, rfl, rfl, rfl, rfl⟩ := H
    have hcz8_0 : wr.cell? ⟨gb306, 0, none⟩ = some (.string x307000_1) := (blk_cell BK306.out 0).trans rfl
    have hcz8_1 : wr.cell? ⟨gb306, 1, none⟩ = some (.string x307001_1) := (blk_cell BK306.out 1).trans rfl
    have hcz8_2 : wr.cell? ⟨gb306, 2, none⟩ = some (.int .i64 x307002_1) := (blk_cell BK306.out 2).trans rfl
    have hcz8_3 : wr.cell? ⟨gb306, 3, none⟩ = some (.int .i64 x307003_1) := (blk_cell BK306.out 3).trans rfl
    have hfz8_0 := blk_frozen BK306.out 0
    have hfz8_1 := blk_frozen BK306.out 1
    have hfz8_2 := blk_frozen BK306.out 2
    have hfz8_3 := blk_frozen BK306.out 3
    go_wp2
    refine bodyPost_ret (results_ct rfl _ _ gb306 43 #[.string (⟨#[]⟩ : ByteArray), .string (⟨#[]⟩ : ByteArray), .int .i64 0, .int .i64 0] (0, 0) _ rfl (by refine ub_ ?_; refine blk_put (cs := #[.string (⟨#[]⟩ : ByteArray), .string (⟨#[]⟩ : ByteArray), .int .i64 0, .int .i64 x307003_1]) ?_ 3 _ rfl; refine ub_ ?_; refine blk_put (cs := #[.string (⟨#[]⟩ : ByteArray), .string (⟨#[]⟩ : ByteArray), .int .i64 x307002_1, .int .i64 x307003_1]) ?_ 2 _ rfl; refine ub_ ?_; refine blk_put (cs := #[.string (⟨#[]⟩ : ByteArray), .string x307001_1, .int .i64 x307002_1, .int .i64 x307003_1]) ?_ 1 _ rfl; refine ub_ ?_; refine blk_put (cs := #[.string x307000_1, .string x307001_1, .int .i64 x307002_1, .int .i64 x307003_1]) ?_ 0 _ rfl; refine ub_ ?_; exact BK306.out) Tryz.underlying43 rfl (by kernel_rfl)) rfl ?_
    exact ⟨er_, bes_ GE306.out⟩
   rw [if_pos c4] at H
   have c4b0 := decide_eq_true c4
   clear c4
   by_cases c5 : 0 ≤ x6_1
   rotate_left
   ·rw [if_neg c5] at H
    exact absurd H (by simp)
   rw [if_pos c5] at H
   have c5b0 := decide_eq_true c5
   clear c5
   by_cases c6 : ((rd_T43 l0 x6_1).f0).toList = a1.toList
   rotate_left
   ·rw [if_neg c6] at H
    have c6b0 : (((rd_T43 l0 x6_1).f0).toList == a1.toList) = false := beq_eq_false_iff_ne.mpr c6
    have c6b1 : (((rd_T43 l0 x6_1).f0).toList != a1.toList) = true := bne_iff_ne.mpr c6
    have H' := Aside0.mk H
    clear H
    have p307 : 0 ≤ (x6_1 : Int) := of_decide_eq_true (by assumption)
    have q307 : x6_1 < (l0.length : Int) := of_decide_eq_true (by assumption)
    obtain ⟨ad307, e307, hx307_0, hx307_1, hx307_2, hx307_3⟩ := at_T43 HR0.out x6_1 p307 q307
    cases e307
    replace hx307_0 := hk_ HB.out hx307_0
    replace hx307_1 := hk_ HB.out hx307_1
    replace hx307_2 := hk_ HB.out hx307_2
    replace hx307_3 := hk_ HB.out hx307_3
    replace p307 := eq_true p307
    replace q307 := eq_true q307
    go_wp2
    go_roundg k1
    case measure => have := HK1.out; omega
    case rel => exact ⟨(wrap64 (x6_1 + 1)), (x307000_1), (x307001_1), (x307002_1), (x307003_1), (rf_), H', ⟨by have := HK1.out; omega⟩, ⟨ub_ BK306.out⟩, ⟨bes_ GE306.out⟩⟩
   rw [if_pos c6] at H
   have c6b0 : (((rd_T43 l0 x6_1).f0).toList == a1.toList) = true := beq_iff_eq.mpr c6
   have c6b1 : (((rd_T43 l0 x6_1).f0).toList != a1.toList) = false := bne_eq_false_iff_eq.mpr c6
   clear c6
   simp only [Option.some.injEq, Prod.mk.injEq] at H
   obtain ⟨rfl, rfl, rfl, rfl, rfl⟩ := H
   have p307 : 0 ≤ (x6_1 : Int) := of_decide_eq_true (by assumption)
   have q307 : x6_1 < (l0.length : Int) := of_decide_eq_true (by assumption)
   obtain ⟨ad307, e307, hx307_0, hx307_1, hx307_2, hx307_3⟩ := at_T43 HR0.out x6_1 p307 q307
   cases e307
   replace hx307_0 := hk_ HB.out hx307_0
   replace hx307_1 := hk_ HB.out hx307_1
   replace hx307_2 := hk_ HB.out hx307_2
   replace hx307_3 := hk_ HB.out hx307_3
   replace p307 := eq_true p307
   replace q307 := eq_true q307
   have p308 : 0 ≤ (x6_1 : Int) := of_decide_eq_true (by assumption)
   have q308 : x6_1 < (l0.length : Int) := of_decide_eq_true (by assumption)
   obtain ⟨ad308, e308, hx308_0, hx308_1, hx308_2, hx308_3⟩ := at_T43 HR0.out x6_1 p308 q308
   obtain rfl : ad307 = ad308 := (by injection e308)
   replace hx308_0 := hk_ HB.out hx308_0
   replace hx308_1 := hk_ HB.out hx308_1
   replace hx308_2 := hk_ HB.out hx308_2
   replace hx308_3 := hk_ HB.out hx308_3
   replace p308 := eq_true p308
   replace q308 := eq_true q308
   have hcz7_0 : wr.cell? ⟨gb306, 0, none⟩ = some (.string x307000_1) := (blk_cell BK306.out 0).trans rfl
   have hcz7_1 : wr.cell? ⟨gb306, 1, none⟩ = some (.string x307001_1) := (blk_cell BK306.out 1).trans rfl
   have hcz7_2 : wr.cell? ⟨gb306, 2, none⟩ = some (.int .i64 x307002_1) := (blk_cell BK306.out 2).trans rfl
   have hcz7_3 : wr.cell? ⟨gb306, 3, none⟩ = some (.int .i64 x307003_1) := (blk_cell BK306.out 3).trans rfl
   have hfz7_0 := blk_frozen BK306.out 0
   have hfz7_1 := blk_frozen BK306.out 1
   have hfz7_2 := blk_frozen BK306.out 2
   have hfz7_3 := blk_frozen BK306.out 3
   go_wp2
   refine bodyPost_ret (results_ct rfl _ _ gb306 43 #[.string ((rd_T43 l0 x6_1).f0), .string ((rd_T43 l0 x6_1).f1), .int .i64 ((rd_T43 l0 x6_1).f2), .int .i64 ((rd_T43 l0 x6_1).f3)] (0, 0) _ rfl (by refine ub_ ?_; refine blk_put (cs := #[.string ((rd_T43 l0 x6_1).f0), .string ((rd_T43 l0 x6_1).f1), .int .i64 ((rd_T43 l0 x6_1).f2), .int .i64 x307003_1]) ?_ 3 _ rfl; refine ub_ ?_; refine blk_put (cs := #[.string ((rd_T43 l0 x6_1).f0), .string ((rd_T43 l0 x6_1).f1), .int .i64 x307002_1, .int .i64 x307003_1]) ?_ 2 _ rfl; refine ub_ ?_; refine blk_put (cs := #[.string ((rd_T43 l0 x6_1).f0), .string x307001_1, .int .i64 x307002_1, .int .i64 x307003_1]) ?_ 1 _ rfl; refine ub_ ?_; refine blk_put (cs := #[.string x307000_1, .string x307001_1, .int .i64 x307002_1, .int .i64 x307003_1]) ?_ 0 _ rfl; refine ub_ ?_; exact BK306.out) Tryz.underlying43 rfl (by kernel_rfl)) rfl ?_
   exact ⟨er_, bes_ GE306.out⟩
def copseref06_change.l0 : Nat → List (S45) → ByteArray → Int → Option (ByteArray × Bool × Bool × ByteArray × ByteArray × Int × Int × ByteArray × ByteArray × Int × Int × Bool)
 | 0, _, _, _ => none
 | k + 1, x0, x1, x6 => if x6 < (x0.length : Int) then (if 0 ≤ x6 then (if ((rd_T45 x0 x6).f0).toList = x1.toList then (some ((rd_T45 x0 x6).f0, (rd_T45 x0 x6).f1, (rd_T45 x0 x6).f2, (rd_T45 x0 x6).f3.f0, (rd_T45 x0 x6).f3.f1, (rd_T45 x0 x6).f3.f2, (rd_T45 x0 x6).f3.f3, (rd_T45 x0 x6).f4.f0, (rd_T45 x0 x6).f4.f1, (rd_T45 x0 x6).f4.f2, (rd_T45 x0 x6).f4.f3, true)) else (copseref06_change.l0 k x0 x1 (wrap64 (x6 + 1)))) else (none)) else (some ((⟨#[]⟩ : ByteArray), false, false, (⟨#[]⟩ : ByteArray), (⟨#[]⟩ : ByteArray), 0, 0, (⟨#[]⟩ : ByteArray), (⟨#[]⟩ : ByteArray), 0, 0, false))
def copseref06_change.f (k : Nat) (l0 : List (S45)) (a1 : ByteArray) : Option (ByteArray × Bool × Bool × ByteArray × ByteArray × Int × Int × ByteArray × ByteArray × Int × Int × Bool) := copseref06_change.l0 k l0 a1 0
set_option maxHeartbeats 8000000 in
set_option maxRecDepth 100000 in
theorem copseref06_change.calls (k : Nat) (A0 : Option Addr) (c0 : Nat) (l0 : List (S45)) (a1 : ByteArray) (r1 : ByteArray) (r2 : Bool) (r3 : Bool) (r4 : ByteArray) (r5 : ByteArray) (r6 : Int) (r7 : Int) (r8 : ByteArray) (r9 : ByteArray) (r10 : Int) (r11 : Int) (r12 : Bool) (w : World) (hr0 : Kd.C k45 w A0 l0.length l0) (hc0 : l0.length ≤ c0) (h : copseref06_change.f k l0 a1 = some (r1, r2, r3, r4, r5, r6, r7, r8, r9, r10, r11, r12)) :
  Calls Tryz.prog 41 #[.slice A0 l0.length c0, .string a1] w fun e w' => e = .returned (.tuple #[.agg #[.string r1, .bool r2, .bool r3, .string r4, .string r5, .int .i64 r6, .int .i64 r7, .string r8, .string r9, .int .i64 r10, .int .i64 r11], .bool r12]) ∧ Below w.heap.size w w' := by
 have hu45 := Tryz.underlying45
 have HR0 := Aside0.mk hr0
 have HC0 := Aside0.mk hc0
 clear hr0 hc0
 have HB := Aside0.mk (Below.refl w.heap.size w)
 have H : (copseref06_change.l0 k l0 a1 0) = some (r1, r2, r3, r4, r5, r6, r7, r8, r9, r10, r11, r12) := h
 clear h
 have H' := Aside0.mk H
 clear H
 go_enter Tryz.func41, Tryz.ntmps41
 go_wp2_with (first | ((with_reducible refine gate_dst (N := 4) rfl ?_); refine box_event ?hg (N := 4) ?hd (cs := #[.string (⟨#[]⟩ : ByteArray), .bool false, .bool false, .string (⟨#[]⟩ : ByteArray), .string (⟨#[]⟩ : ByteArray), .int .i64 0, .int .i64 0, .string (⟨#[]⟩ : ByteArray), .string (⟨#[]⟩ : ByteArray), .int .i64 0, .int .i64 0]) (t := 45) ?hr ?_; (case hd => rfl); (case hg => rfl); (case hr => first | (go_simp; done) | (go_simp; rfl)); intro gb309 hg w3 hbox hb; have n0_ := Aside0.mk (below_step (bel_) hb); have n1_ := Aside0.mk (hbox); have n2_ := Aside0.mk ((by rw [hg]; exact (below_size (bel_)) : w.heap.size ≤ gb309)); have n3_ := Aside0.mk ((by rw [hg]; exact (below_size (bel_)) : w.heap.size ≤ gb309)); clear HB; have HB := n0_; have BK309 := n1_; have GW309 := n2_; have GE309 := n3_; clear n0_ n1_ n2_ n3_; clear hb hbox hg))
 go_loopg [6] k (fun kq v6 w' => ∃ (x6_1 : Int) (x310000_1 : ByteArray) (x310001_1 : Bool) (x310002_1 : Bool) (x310003_1 : ByteArray) (x310004_1 : ByteArray) (x310005_1 : Int) (x310006_1 : Int) (x310007_1 : ByteArray) (x310008_1 : ByteArray) (x310009_1 : Int) (x310010_1 : Int), v6 = .int .i64 x6_1 ∧ Aside0 (copseref06_change.l0 kq l0 a1 x6_1 = some (r1, r2, r3, r4, r5, r6, r7, r8, r9, r10, r11, r12)) ∧ Aside0 (kq ≤ k) ∧ Aside0 (w'.heap[gb309]? = some (.cells #[.string x310000_1, .bool x310001_1, .bool x310002_1, .string x310003_1, .string x310004_1, .int .i64 x310005_1, .int .i64 x310006_1, .string x310007_1, .string x310008_1, .int .i64 x310009_1, .int .i64 x310010_1] 45 (0, 0))) ∧ Aside0 (Below w.heap.size w w'))
 case atStart => exact ⟨(0), ((⟨#[]⟩ : ByteArray)), (false), (false), ((⟨#[]⟩ : ByteArray)), ((⟨#[]⟩ : ByteArray)), (0), (0), ((⟨#[]⟩ : ByteArray)), ((⟨#[]⟩ : ByteArray)), (0), (0), (rf_), H', ⟨Nat.le_refl _⟩, ⟨ub_ BK309.out⟩, ⟨bes_ GE309.out⟩⟩
 case round =>
  clear H'
  try clear p2
  obtain ⟨x6_1, x310000_1, x310001_1, x310002_1, x310003_1, x310004_1, x310005_1, x310006_1, x310007_1, x310008_1, x310009_1, x310010_1, rfl, HA, HK1, BK309, HB⟩ := hrel
  cases gk with
  | zero => exact absurd HA.out (by simp [copseref06_change.l0])
  | succ k1 =>
   have H := HA.out
   clear HA
   simp only [copseref06_change.l0] at H
   by_cases c4 : x6_1 < (l0.length : Int)
   rotate_left
   ·rw [if_neg c4] at H
    have c4b0 := decide_eq_false c4
    clear c4
    simp only [Option.some.injEq, Prod.mk.injEq] at H
    obtain ⟨rfl, rfl, rfl, rfl, rfl, rfl, rfl, rfl, rfl, rfl, rfl, rfl⟩ := H
    have hcz8_0 : wr.cell? ⟨gb309, 0, none⟩ = some (.string x310000_1) := (blk_cell BK309.out 0).trans rfl
    have hcz8_1 : wr.cell? ⟨gb309, 1, none⟩ = some (.bool x310001_1) := (blk_cell BK309.out 1).trans rfl
    have hcz8_2 : wr.cell? ⟨gb309, 2, none⟩ = some (.bool x310002_1) := (blk_cell BK309.out 2).trans rfl
    have hcz8_3 : wr.cell? ⟨gb309, 3, none⟩ = some (.string x310003_1) := (blk_cell BK309.out 3).trans rfl
    have hcz8_4 : wr.cell? ⟨gb309, 4, none⟩ = some (.string x310004_1) := (blk_cell BK309.out 4).trans rfl
    have hcz8_5 : wr.cell? ⟨gb309, 5, none⟩ = some (.int .i64 x310005_1) := (blk_cell BK309.out 5).trans rfl
    have hcz8_6 : wr.cell? ⟨gb309, 6, none⟩ = some (.int .i64 x310006_1) := (blk_cell BK309.out 6).trans rfl
    have hcz8_7 : wr.cell? ⟨gb309, 7, none⟩ = some (.string x310007_1) := (blk_cell BK309.out 7).trans rfl
    have hcz8_8 : wr.cell? ⟨gb309, 8, none⟩ = some (.string x310008_1) := (blk_cell BK309.out 8).trans rfl
    have hcz8_9 : wr.cell? ⟨gb309, 9, none⟩ = some (.int .i64 x310009_1) := (blk_cell BK309.out 9).trans rfl
    have hcz8_10 : wr.cell? ⟨gb309, 10, none⟩ = some (.int .i64 x310010_1) := (blk_cell BK309.out 10).trans rfl
    have hfz8_0 := blk_frozen BK309.out 0
    have hfz8_1 := blk_frozen BK309.out 1
    have hfz8_2 := blk_frozen BK309.out 2
    have hfz8_3 := blk_frozen BK309.out 3
    have hfz8_4 := blk_frozen BK309.out 4
    have hfz8_5 := blk_frozen BK309.out 5
    have hfz8_6 := blk_frozen BK309.out 6
    have hfz8_7 := blk_frozen BK309.out 7
    have hfz8_8 := blk_frozen BK309.out 8
    have hfz8_9 := blk_frozen BK309.out 9
    have hfz8_10 := blk_frozen BK309.out 10
    go_wp2
    refine bodyPost_ret (results_ct rfl _ _ gb309 45 #[.string (⟨#[]⟩ : ByteArray), .bool false, .bool false, .string (⟨#[]⟩ : ByteArray), .string (⟨#[]⟩ : ByteArray), .int .i64 0, .int .i64 0, .string (⟨#[]⟩ : ByteArray), .string (⟨#[]⟩ : ByteArray), .int .i64 0, .int .i64 0] (0, 0) _ rfl (by refine ub_ ?_; refine blk_put (cs := #[.string (⟨#[]⟩ : ByteArray), .bool false, .bool false, .string (⟨#[]⟩ : ByteArray), .string (⟨#[]⟩ : ByteArray), .int .i64 0, .int .i64 0, .string (⟨#[]⟩ : ByteArray), .string (⟨#[]⟩ : ByteArray), .int .i64 0, .int .i64 x310010_1]) ?_ 10 _ rfl; refine ub_ ?_; refine blk_put (cs := #[.string (⟨#[]⟩ : ByteArray), .bool false, .bool false, .string (⟨#[]⟩ : ByteArray), .string (⟨#[]⟩ : ByteArray), .int .i64 0, .int .i64 0, .string (⟨#[]⟩ : ByteArray), .string (⟨#[]⟩ : ByteArray), .int .i64 x310009_1, .int .i64 x310010_1]) ?_ 9 _ rfl; refine ub_ ?_; refine blk_put (cs := #[.string (⟨#[]⟩ : ByteArray), .bool false, .bool false, .string (⟨#[]⟩ : ByteArray), .string (⟨#[]⟩ : ByteArray), .int .i64 0, .int .i64 0, .string (⟨#[]⟩ : ByteArray), .string x310008_1, .int .i64 x310009_1, .int .i64 x310010_1]) ?_ 8 _ rfl; refine ub_ ?_; refine blk_put (cs := #[.string (⟨#[]⟩ : ByteArray), .bool false, .bool false, .string (⟨#[]⟩ : ByteArray), .string (⟨#[]⟩ : ByteArray), .int .i64 0, .int .i64 0, .string x310007_1, .string x310008_1, .int .i64 x310009_1, .int .i64 x310010_1]) ?_ 7 _ rfl; refine ub_ ?_; refine blk_put (cs := #[.string (⟨#[]⟩ : ByteArray), .bool false, .bool false, .string (⟨#[]⟩ : ByteArray), .string (⟨#[]⟩ : ByteArray), .int .i64 0, .int .i64 x310006_1, .string x310007_1, .string x310008_1, .int .i64 x310009_1, .int .i64 x310010_1]) ?_ 6 _ rfl; refine ub_ ?_; refine blk_put (cs := #[.string (⟨#[]⟩ : ByteArray), .bool false, .bool false, .string (⟨#[]⟩ : ByteArray), .string (⟨#[]⟩ : ByteArray), .int .i64 x310005_1, .int .i64 x310006_1, .string x310007_1, .string x310008_1, .int .i64 x310009_1, .int .i64 x310010_1]) ?_ 5 _ rfl; refine ub_ ?_; refine blk_put (cs := #[.string (⟨#[]⟩ : ByteArray), .bool false, .bool false, .string (⟨#[]⟩ : ByteArray), .string x310004_1, .int .i64 x310005_1, .int .i64 x310006_1, .string x310007_1, .string x310008_1, .int .i64 x310009_1, .int .i64 x310010_1]) ?_ 4 _ rfl; refine ub_ ?_; refine blk_put (cs := #[.string (⟨#[]⟩ : ByteArray), .bool false, .bool false, .string x310003_1, .string x310004_1, .int .i64 x310005_1, .int .i64 x310006_1, .string x310007_1, .string x310008_1, .int .i64 x310009_1, .int .i64 x310010_1]) ?_ 3 _ rfl; refine ub_ ?_; refine blk_put (cs := #[.string (⟨#[]⟩ : ByteArray), .bool false, .bool x310002_1, .string x310003_1, .string x310004_1, .int .i64 x310005_1, .int .i64 x310006_1, .string x310007_1, .string x310008_1, .int .i64 x310009_1, .int .i64 x310010_1]) ?_ 2 _ rfl; refine ub_ ?_; refine blk_put (cs := #[.string (⟨#[]⟩ : ByteArray), .bool x310001_1, .bool x310002_1, .string x310003_1, .string x310004_1, .int .i64 x310005_1, .int .i64 x310006_1, .string x310007_1, .string x310008_1, .int .i64 x310009_1, .int .i64 x310010_1]) ?_ 1 _ rfl; refine ub_ ?_; refine blk_put (cs := #[.string x310000_1, .bool x310001_1, .bool x310002_1, .string x310003_1, .string x310004_1, .int .i64 x310005_1, .int .i64 x310006_1, .string x310007_1, .string x310008_1, .int .i64 x310009_1, .int .i64 x310010_1]) ?_ 0 _ rfl; refine ub_ ?_; exact BK309.out) Tryz.underlying45 rfl (by kernel_rfl)) rfl ?_
    exact ⟨er_, bes_ GE309.out⟩
   rw [if_pos c4] at H
   have c4b0 := decide_eq_true c4
   clear c4
   by_cases c5 : 0 ≤ x6_1
   rotate_left
   ·rw [if_neg c5] at H
    exact absurd H (by simp)
   rw [if_pos c5] at H
   have c5b0 := decide_eq_true c5
   clear c5
   by_cases c6 : ((rd_T45 l0 x6_1).f0).toList = a1.toList
   rotate_left
   ·rw [if_neg c6] at H
    have c6b0 : (((rd_T45 l0 x6_1).f0).toList == a1.toList) = false := beq_eq_false_iff_ne.mpr c6
    have c6b1 : (((rd_T45 l0 x6_1).f0).toList != a1.toList) = true := bne_iff_ne.mpr c6
    have H' := Aside0.mk H
    clear H
    have p310 : 0 ≤ (x6_1 : Int) := of_decide_eq_true (by assumption)
    have q310 : x6_1 < (l0.length : Int) := of_decide_eq_true (by assumption)
    obtain ⟨ad310, e310, hx310_0, hx310_1, hx310_2, hx310_3, hx310_4, hx310_5, hx310_6, hx310_7, hx310_8, hx310_9, hx310_10⟩ := at_T45 HR0.out x6_1 p310 q310
    cases e310
    replace hx310_0 := hk_ HB.out hx310_0
    replace hx310_1 := hk_ HB.out hx310_1
    replace hx310_2 := hk_ HB.out hx310_2
    replace hx310_3 := hk_ HB.out hx310_3
    replace hx310_4 := hk_ HB.out hx310_4
    replace hx310_5 := hk_ HB.out hx310_5
    replace hx310_6 := hk_ HB.out hx310_6
    replace hx310_7 := hk_ HB.out hx310_7
    replace hx310_8 := hk_ HB.out hx310_8
    replace hx310_9 := hk_ HB.out hx310_9
    replace hx310_10 := hk_ HB.out hx310_10
    replace p310 := eq_true p310
    replace q310 := eq_true q310
    go_wp2
    go_roundg k1
    case measure => have := HK1.out; omega
    case rel => exact ⟨(wrap64 (x6_1 + 1)), (x310000_1), (x310001_1), (x310002_1), (x310003_1), (x310004_1), (x310005_1), (x310006_1), (x310007_1), (x310008_1), (x310009_1), (x310010_1), (rf_), H', ⟨by have := HK1.out; omega⟩, ⟨ub_ BK309.out⟩, ⟨bes_ GE309.out⟩⟩
   rw [if_pos c6] at H
   have c6b0 : (((rd_T45 l0 x6_1).f0).toList == a1.toList) = true := beq_iff_eq.mpr c6
   have c6b1 : (((rd_T45 l0 x6_1).f0).toList != a1.toList) = false := bne_eq_false_iff_eq.mpr c6
   clear c6
   simp only [Option.some.injEq, Prod.mk.injEq] at H
   obtain ⟨rfl, rfl, rfl, rfl, rfl, rfl, rfl, rfl, rfl, rfl, rfl, rfl⟩ := H
   have p310 : 0 ≤ (x6_1 : Int) := of_decide_eq_true (by assumption)
   have q310 : x6_1 < (l0.length : Int) := of_decide_eq_true (by assumption)
   obtain ⟨ad310, e310, hx310_0, hx310_1, hx310_2, hx310_3, hx310_4, hx310_5, hx310_6, hx310_7, hx310_8, hx310_9, hx310_10⟩ := at_T45 HR0.out x6_1 p310 q310
   cases e310
   replace hx310_0 := hk_ HB.out hx310_0
   replace hx310_1 := hk_ HB.out hx310_1
   replace hx310_2 := hk_ HB.out hx310_2
   replace hx310_3 := hk_ HB.out hx310_3
   replace hx310_4 := hk_ HB.out hx310_4
   replace hx310_5 := hk_ HB.out hx310_5
   replace hx310_6 := hk_ HB.out hx310_6
   replace hx310_7 := hk_ HB.out hx310_7
   replace hx310_8 := hk_ HB.out hx310_8
   replace hx310_9 := hk_ HB.out hx310_9
   replace hx310_10 := hk_ HB.out hx310_10
   replace p310 := eq_true p310
   replace q310 := eq_true q310
   have p311 : 0 ≤ (x6_1 : Int) := of_decide_eq_true (by assumption)
   have q311 : x6_1 < (l0.length : Int) := of_decide_eq_true (by assumption)
   obtain ⟨ad311, e311, hx311_0, hx311_1, hx311_2, hx311_3, hx311_4, hx311_5, hx311_6, hx311_7, hx311_8, hx311_9, hx311_10⟩ := at_T45 HR0.out x6_1 p311 q311
   obtain rfl : ad310 = ad311 := (by injection e311)
   replace hx311_0 := hk_ HB.out hx311_0
   replace hx311_1 := hk_ HB.out hx311_1
   replace hx311_2 := hk_ HB.out hx311_2
   replace hx311_3 := hk_ HB.out hx311_3
   replace hx311_4 := hk_ HB.out hx311_4
   replace hx311_5 := hk_ HB.out hx311_5
   replace hx311_6 := hk_ HB.out hx311_6
   replace hx311_7 := hk_ HB.out hx311_7
   replace hx311_8 := hk_ HB.out hx311_8
   replace hx311_9 := hk_ HB.out hx311_9
   replace hx311_10 := hk_ HB.out hx311_10
   replace p311 := eq_true p311
   replace q311 := eq_true q311
   have hcz7_0 : wr.cell? ⟨gb309, 0, none⟩ = some (.string x310000_1) := (blk_cell BK309.out 0).trans rfl
   have hcz7_1 : wr.cell? ⟨gb309, 1, none⟩ = some (.bool x310001_1) := (blk_cell BK309.out 1).trans rfl
   have hcz7_2 : wr.cell? ⟨gb309, 2, none⟩ = some (.bool x310002_1) := (blk_cell BK309.out 2).trans rfl
   have hcz7_3 : wr.cell? ⟨gb309, 3, none⟩ = some (.string x310003_1) := (blk_cell BK309.out 3).trans rfl
   have hcz7_4 : wr.cell? ⟨gb309, 4, none⟩ = some (.string x310004_1) := (blk_cell BK309.out 4).trans rfl
   have hcz7_5 : wr.cell? ⟨gb309, 5, none⟩ = some (.int .i64 x310005_1) := (blk_cell BK309.out 5).trans rfl
   have hcz7_6 : wr.cell? ⟨gb309, 6, none⟩ = some (.int .i64 x310006_1) := (blk_cell BK309.out 6).trans rfl
   have hcz7_7 : wr.cell? ⟨gb309, 7, none⟩ = some (.string x310007_1) := (blk_cell BK309.out 7).trans rfl
   have hcz7_8 : wr.cell? ⟨gb309, 8, none⟩ = some (.string x310008_1) := (blk_cell BK309.out 8).trans rfl
   have hcz7_9 : wr.cell? ⟨gb309, 9, none⟩ = some (.int .i64 x310009_1) := (blk_cell BK309.out 9).trans rfl
   have hcz7_10 : wr.cell? ⟨gb309, 10, none⟩ = some (.int .i64 x310010_1) := (blk_cell BK309.out 10).trans rfl
   have hfz7_0 := blk_frozen BK309.out 0
   have hfz7_1 := blk_frozen BK309.out 1
   have hfz7_2 := blk_frozen BK309.out 2
   have hfz7_3 := blk_frozen BK309.out 3
   have hfz7_4 := blk_frozen BK309.out 4
   have hfz7_5 := blk_frozen BK309.out 5
   have hfz7_6 := blk_frozen BK309.out 6
   have hfz7_7 := blk_frozen BK309.out 7
   have hfz7_8 := blk_frozen BK309.out 8
   have hfz7_9 := blk_frozen BK309.out 9
   have hfz7_10 := blk_frozen BK309.out 10
   go_wp2
   refine bodyPost_ret (results_ct rfl _ _ gb309 45 #[.string ((rd_T45 l0 x6_1).f0), .bool ((rd_T45 l0 x6_1).f1), .bool ((rd_T45 l0 x6_1).f2), .string ((rd_T45 l0 x6_1).f3.f0), .string ((rd_T45 l0 x6_1).f3.f1), .int .i64 ((rd_T45 l0 x6_1).f3.f2), .int .i64 ((rd_T45 l0 x6_1).f3.f3), .string ((rd_T45 l0 x6_1).f4.f0), .string ((rd_T45 l0 x6_1).f4.f1), .int .i64 ((rd_T45 l0 x6_1).f4.f2), .int .i64 ((rd_T45 l0 x6_1).f4.f3)] (0, 0) _ rfl (by refine ub_ ?_; refine blk_put (cs := #[.string ((rd_T45 l0 x6_1).f0), .bool ((rd_T45 l0 x6_1).f1), .bool ((rd_T45 l0 x6_1).f2), .string ((rd_T45 l0 x6_1).f3.f0), .string ((rd_T45 l0 x6_1).f3.f1), .int .i64 ((rd_T45 l0 x6_1).f3.f2), .int .i64 ((rd_T45 l0 x6_1).f3.f3), .string ((rd_T45 l0 x6_1).f4.f0), .string ((rd_T45 l0 x6_1).f4.f1), .int .i64 ((rd_T45 l0 x6_1).f4.f2), .int .i64 x310010_1]) ?_ 10 _ rfl; refine ub_ ?_; refine blk_put (cs := #[.string ((rd_T45 l0 x6_1).f0), .bool ((rd_T45 l0 x6_1).f1), .bool ((rd_T45 l0 x6_1).f2), .string ((rd_T45 l0 x6_1).f3.f0), .string ((rd_T45 l0 x6_1).f3.f1), .int .i64 ((rd_T45 l0 x6_1).f3.f2), .int .i64 ((rd_T45 l0 x6_1).f3.f3), .string ((rd_T45 l0 x6_1).f4.f0), .string ((rd_T45 l0 x6_1).f4.f1), .int .i64 x310009_1, .int .i64 x310010_1]) ?_ 9 _ rfl; refine ub_ ?_; refine blk_put (cs := #[.string ((rd_T45 l0 x6_1).f0), .bool ((rd_T45 l0 x6_1).f1), .bool ((rd_T45 l0 x6_1).f2), .string ((rd_T45 l0 x6_1).f3.f0), .string ((rd_T45 l0 x6_1).f3.f1), .int .i64 ((rd_T45 l0 x6_1).f3.f2), .int .i64 ((rd_T45 l0 x6_1).f3.f3), .string ((rd_T45 l0 x6_1).f4.f0), .string x310008_1, .int .i64 x310009_1, .int .i64 x310010_1]) ?_ 8 _ rfl; refine ub_ ?_; refine blk_put (cs := #[.string ((rd_T45 l0 x6_1).f0), .bool ((rd_T45 l0 x6_1).f1), .bool ((rd_T45 l0 x6_1).f2), .string ((rd_T45 l0 x6_1).f3.f0), .string ((rd_T45 l0 x6_1).f3.f1), .int .i64 ((rd_T45 l0 x6_1).f3.f2), .int .i64 ((rd_T45 l0 x6_1).f3.f3), .string x310007_1, .string x310008_1, .int .i64 x310009_1, .int .i64 x310010_1]) ?_ 7 _ rfl; refine ub_ ?_; refine blk_put (cs := #[.string ((rd_T45 l0 x6_1).f0), .bool ((rd_T45 l0 x6_1).f1), .bool ((rd_T45 l0 x6_1).f2), .string ((rd_T45 l0 x6_1).f3.f0), .string ((rd_T45 l0 x6_1).f3.f1), .int .i64 ((rd_T45 l0 x6_1).f3.f2), .int .i64 x310006_1, .string x310007_1, .string x310008_1, .int .i64 x310009_1, .int .i64 x310010_1]) ?_ 6 _ rfl; refine ub_ ?_; refine blk_put (cs := #[.string ((rd_T45 l0 x6_1).f0), .bool ((rd_T45 l0 x6_1).f1), .bool ((rd_T45 l0 x6_1).f2), .string ((rd_T45 l0 x6_1).f3.f0), .string ((rd_T45 l0 x6_1).f3.f1), .int .i64 x310005_1, .int .i64 x310006_1, .string x310007_1, .string x310008_1, .int .i64 x310009_1, .int .i64 x310010_1]) ?_ 5 _ rfl; refine ub_ ?_; refine blk_put (cs := #[.string ((rd_T45 l0 x6_1).f0), .bool ((rd_T45 l0 x6_1).f1), .bool ((rd_T45 l0 x6_1).f2), .string ((rd_T45 l0 x6_1).f3.f0), .string x310004_1, .int .i64 x310005_1, .int .i64 x310006_1, .string x310007_1, .string x310008_1, .int .i64 x310009_1, .int .i64 x310010_1]) ?_ 4 _ rfl; refine ub_ ?_; refine blk_put (cs := #[.string ((rd_T45 l0 x6_1).f0), .bool ((rd_T45 l0 x6_1).f1), .bool ((rd_T45 l0 x6_1).f2), .string x310003_1, .string x310004_1, .int .i64 x310005_1, .int .i64 x310006_1, .string x310007_1, .string x310008_1, .int .i64 x310009_1, .int .i64 x310010_1]) ?_ 3 _ rfl; refine ub_ ?_; refine blk_put (cs := #[.string ((rd_T45 l0 x6_1).f0), .bool ((rd_T45 l0 x6_1).f1), .bool x310002_1, .string x310003_1, .string x310004_1, .int .i64 x310005_1, .int .i64 x310006_1, .string x310007_1, .string x310008_1, .int .i64 x310009_1, .int .i64 x310010_1]) ?_ 2 _ rfl; refine ub_ ?_; refine blk_put (cs := #[.string ((rd_T45 l0 x6_1).f0), .bool x310001_1, .bool x310002_1, .string x310003_1, .string x310004_1, .int .i64 x310005_1, .int .i64 x310006_1, .string x310007_1, .string x310008_1, .int .i64 x310009_1, .int .i64 x310010_1]) ?_ 1 _ rfl; refine ub_ ?_; refine blk_put (cs := #[.string x310000_1, .bool x310001_1, .bool x310002_1, .string x310003_1, .string x310004_1, .int .i64 x310005_1, .int .i64 x310006_1, .string x310007_1, .string x310008_1, .int .i64 x310009_1, .int .i64 x310010_1]) ?_ 0 _ rfl; refine ub_ ?_; exact BK309.out) Tryz.underlying45 rfl (by kernel_rfl)) rfl ?_
   exact ⟨er_, bes_ GE309.out⟩
attribute [local go_sem] max2_int min2_int max_two min_two max_three min_three max_four min_four
set_option linter.unusedVariables false
set_option linter.unusedSimpArgs false
mutual
def copseref06_all.l0 : Nat → List (S43) → List (S43) → List ByteArray → Int → Option (List ByteArray)
 | 0, _, _, _, _ => none
 | k + 1, x0, x1, x5, x6 => if x6 < (x0.length : Int) then (if 0 ≤ x6 then (if x5.length < 8796093022208 then (copseref06_all.l0 k x0 x1 (x5 ++ [(rd_T43 x0 x6).f0]) (wrap64 (x6 + 1))) else (none)) else (none)) else (copseref06_all.l1 k x1 x5 0)
def copseref06_all.l1 : Nat → List (S43) → List ByteArray → Int → Option (List ByteArray)
 | 0, _, _, _ => none
 | k + 1, x1, x5, x7 => if x7 < (x1.length : Int) then (if 0 ≤ x7 then (if x5.length < 8796093022208 then (copseref06_all.l1 k x1 (x5 ++ [(rd_T43 x1 x7).f0]) (wrap64 (x7 + 1))) else (none)) else (none)) else ((copseref03_Norm.f k x5).bind fun t355 => (some t355))
end
def copseref06_all.f (k : Nat) (l0 : List (S43)) (l1 : List (S43)) : Option (List ByteArray) := copseref06_all.l0 k l0 l1 ([] : List ByteArray) 0
set_option maxHeartbeats 8000000 in
set_option maxRecDepth 100000 in
theorem copseref06_all.calls (k : Nat) (A0 : Option Addr) (c0 : Nat) (l0 : List (S43)) (A1 : Option Addr) (c1 : Nat) (l1 : List (S43)) (r : List ByteArray) (w : World) (hr0 : Kd.C k43 w A0 l0.length l0) (hc0 : l0.length ≤ c0) (hr1 : Kd.C k43 w A1 l1.length l1) (hc1 : l1.length ≤ c1) (h : copseref06_all.f k l0 l1 = some r) :
  Calls Tryz.prog 42 #[.slice A0 l0.length c0, .slice A1 l1.length c1] w fun e w' => ∃ v0_ : Value, e = .returned (v0_) ∧ Kd.R Kd.string 9 w' w.heap.size (fun _ => True) v0_ r ∧ Below w.heap.size w w' := by
 have HR0 := Aside0.mk hr0
 have HC0 := Aside0.mk hc0
 clear hr0 hc0
 have HR1 := Aside0.mk hr1
 have HC1 := Aside0.mk hc1
 clear hr1 hc1
 have HB := Aside0.mk (Below.refl w.heap.size w)
 have H : (copseref06_all.l0 k l0 l1 ([] : List ByteArray) 0) = some r := h
 clear h
 have H' := Aside0.mk H
 clear H
 go_enter Tryz.func42, Tryz.ntmps42
 go_wp2
 go_loopg [5, 6] k (fun kq v5 v6 w' => ∃ (x5_1 : List ByteArray) (x6_1 : Int), v6 = .int .i64 x6_1 ∧ Aside0 (copseref06_all.l0 kq l0 l1 x5_1 x6_1 = some r) ∧ Aside0 (kq ≤ k) ∧ Aside0 (Kd.R Kd.string 9 w' w.heap.size (fun _ => True) v5 x5_1) ∧ Aside0 (Below w.heap.size w w'))
 case atStart => exact ⟨(([] : List ByteArray)), (0), (rf_), H', ⟨Nat.le_refl _⟩, ⟨nl_⟩, ⟨bel_⟩⟩
 case round =>
  clear H'
  try clear c1
  try clear p2
  obtain ⟨x5_1, x6_1, rfl, HA, HK1, HO_5, HB⟩ := hrel
  cases gk with
  | zero => exact absurd HA.out (by simp [copseref06_all.l0])
  | succ k1 =>
   have H := HA.out
   clear HA
   simp only [copseref06_all.l0] at H
   by_cases c3 : x6_1 < (l0.length : Int)
   ·rw [if_pos c3] at H
    have c3b0 := decide_eq_true c3
    clear c3
    by_cases c4 : 0 ≤ x6_1
    rotate_left
    ·rw [if_neg c4] at H
     exact absurd H (by simp)
    rw [if_pos c4] at H
    have c4b0 := decide_eq_true c4
    clear c4
    by_cases c5 : x5_1.length < 8796093022208
    rotate_left
    ·rw [if_neg c5] at H
     exact absurd H (by simp)
    rw [if_pos c5] at H
    have LMc5 := Aside0.mk c5
    clear c5
    obtain ⟨y348, hy348⟩ : ∃ y_ : List ByteArray, y_ = (x5_1 ++ [(rd_T43 l0 x6_1).f0]) := ⟨_, rfl⟩
    replace H : (copseref06_all.l0 k1 l0 l1 y348 (wrap64 (x6_1 + 1))) = some r := by first | (rw [hy348]; with_reducible exact H) | (have H2_ := (Option.bind_some _ _).symm.trans H; rw [hy348]; with_reducible exact H2_) | (have H2_ := (Option.bind_some _ _).symm.trans H; with_reducible exact H2_) | with_reducible exact H | (rw [hy348]; exact H) | exact H
    have Ny348 := Aside0.mk hy348
    clear hy348
    have H' := Aside0.mk H
    clear H
    have p347 : 0 ≤ (x6_1 : Int) := of_decide_eq_true (by assumption)
    have q347 : x6_1 < (l0.length : Int) := of_decide_eq_true (by assumption)
    obtain ⟨ad347, e347, hx347_0, hx347_1, hx347_2, hx347_3⟩ := at_T43 HR0.out x6_1 p347 q347
    cases e347
    replace hx347_0 := hk_ HB.out hx347_0
    replace hx347_1 := hk_ HB.out hx347_1
    replace hx347_2 := hk_ HB.out hx347_2
    replace hx347_3 := hk_ HB.out hx347_3
    replace p347 := eq_true p347
    replace q347 := eq_true q347
    go_wp2_with (first | ((with_reducible refine gate_builtin (b := .append) (xs := #[.tmp 14, .tmp 20]) rfl ?_); at_builtin; refine Kd.R_append Kd.string (w0 := w) w.heap.size rfl (.tmp 14) (.tmp 20) 38 9 (.string ⟨#[]⟩) 16 rfl Tryz.underlying38 info9 rfl (by decide) (by omega) u5 x5_1 ((rd_T43 l0 x6_1).f0) [.string ((rd_T43 l0 x6_1).f0)] (fun _ => True) (fun _ => False) rfl rfl ?aP (fun _ hk => hk.elim) ?aF ?aO ?aB ?aS ?aL ?_; (case aP => exact rfl); (case aB => exact (bel_)); (case aF => exact (fun _ _ => trivial)); (case aO => exact (ur_ HO_5.out)); (case aS => exact (below_size (bel_))); (case aL => have := LMc5.out; omega); intro v349 w6 ho hb hg hat; rw [← Ny348.out] at ho; have n0_ := Aside0.mk (hb); have n1_ := Aside0.mk (ho); clear HB; clear HO_5; have HB := n0_; have HO350 := n1_; clear n0_ n1_; clear ho hb hg hat))
    go_roundg k1
    case measure => have := HK1.out; omega
    case rel => exact ⟨(y348), (wrap64 (x6_1 + 1)), (rf_), H', ⟨by have := HK1.out; omega⟩, ⟨ur_ HO350.out⟩, ⟨bel_⟩⟩
   rw [if_neg c3] at H
   have c3b0 := decide_eq_false c3
   clear c3
   have H' := Aside0.mk H
   clear H
   go_wp2
   go_loopg [5, 7] k1 (fun kq v5 v7 w' => ∃ (x5_2 : List ByteArray) (x7_2 : Int), v7 = .int .i64 x7_2 ∧ Aside0 (copseref06_all.l1 kq l1 x5_2 x7_2 = some r) ∧ Aside0 (kq ≤ k1) ∧ Aside0 (Kd.R Kd.string 9 w' w.heap.size (fun _ => True) v5 x5_2) ∧ Aside0 (Below w.heap.size w w'))
   case atStart => exact ⟨(x5_1), (0), (rf_), H', ⟨Nat.le_refl _⟩, ⟨ur_ HO_5.out⟩, ⟨bel_⟩⟩
   case round =>
    clear H'
    try clear c1
    try clear p2
    try clear c3
    try clear c3b0
    try clear p3
    try clear q3
    try clear hx3
    try clear c4
    try clear c4b0
    try clear c5
    try clear p6
    try clear hx347_0
    try clear hx347_1
    try clear hx347_2
    try clear hx347_3
    try clear p2
    try clear p347
    try clear q347
    obtain ⟨x5_2, x7_2, rfl, HA, HK2, HO_5, HB⟩ := hrel
    cases gk with
    | zero => exact absurd HA.out (by simp [copseref06_all.l1])
    | succ k2 =>
     have H := HA.out
     clear HA
     simp only [copseref06_all.l1] at H
     by_cases c7 : x7_2 < (l1.length : Int)
     rotate_left
     ·rw [if_neg c7] at H
      have c7b0 := decide_eq_false c7
      clear c7
      replace H := Option.bind_eq_some_iff.mp H
      obtain ⟨t355, A110, H⟩ := H
      try dsimp only at H
      have A11 := Aside0.mk A110
      clear A110
      obtain rfl := Option.some.inj H
      obtain ⟨Ao12, co12, eo12⟩ := Kd.R_slice HO_5.out
      subst eo12
      go_wp2_with (first | ((with_reducible refine gate_callee (f := 39) rfl ?_); refine goesL_ (some 37) rfl rfl Tryz.func39 (by kernel_rfl) rfl #[.slice Ao12 x5_2.length co12] rfl (mp_) ?_; (with_reducible refine (copseref03_Norm.calls k2 _ _ x5_2 t355 _ ?side1 ?side2 A11.out).mono ?_); (case side1 => repeat (first | exact (Kd.R_reads' HO_5.out).2.2 | (with_reducible refine Kd.C_alloc ?_ _) | (with_reducible refine Kd.C_drewN ?_ _) | (with_reducible refine Kd.C_drew ?_))); (case side2 => exact (Kd.R_reads' HO_5.out).2.1); rintro e w13 ⟨v356, rfl, ho0, hb⟩; refine ⟨_, rfl, ?_⟩; have n0_ := Aside0.mk (Kd.R_elder' (ur_ HO_5.out) (Kd.R_base ho0) hb); have n1_ := Aside0.mk (Kd.R_lower (Kd.R_new' ho0 (Kd.R_lt (ur_ HO_5.out))) (below_size (bel_))); have n2_ := Aside0.mk (below_step (bel_) hb); clear HO_5; clear HB; have HO_5 := n0_; have HO357 := n1_; have HB := n2_; clear n0_ n1_ n2_; (try clear hb); (try clear hb2); (try clear hk); (try clear hi); (try clear ho0)))
      go_ret
      exact ⟨_, er_, by (with_reducible repeat (first | apply Kd.R_alloc | apply Kd.R_drewN | apply Kd.R_drew)); exact Kd.R_mono HO357.out (fun _ hk => trivial), bel_⟩
     rw [if_pos c7] at H
     have c7b0 := decide_eq_true c7
     clear c7
     by_cases c8 : 0 ≤ x7_2
     rotate_left
     ·rw [if_neg c8] at H
      exact absurd H (by simp)
     rw [if_pos c8] at H
     have c8b0 := decide_eq_true c8
     clear c8
     by_cases c9 : x5_2.length < 8796093022208
     rotate_left
     ·rw [if_neg c9] at H
      exact absurd H (by simp)
     rw [if_pos c9] at H
     have LMc9 := Aside0.mk c9
     clear c9
     obtain ⟨y352, hy352⟩ : ∃ y_ : List ByteArray, y_ = (x5_2 ++ [(rd_T43 l1 x7_2).f0]) := ⟨_, rfl⟩
     replace H : (copseref06_all.l1 k2 l1 y352 (wrap64 (x7_2 + 1))) = some r := by first | (rw [hy352]; with_reducible exact H) | (have H2_ := (Option.bind_some _ _).symm.trans H; rw [hy352]; with_reducible exact H2_) | (have H2_ := (Option.bind_some _ _).symm.trans H; with_reducible exact H2_) | with_reducible exact H | (rw [hy352]; exact H) | exact H
     have Ny352 := Aside0.mk hy352
     clear hy352
     have H' := Aside0.mk H
     clear H
     have p351 : 0 ≤ (x7_2 : Int) := of_decide_eq_true (by assumption)
     have q351 : x7_2 < (l1.length : Int) := of_decide_eq_true (by assumption)
     obtain ⟨ad351, e351, hx351_0, hx351_1, hx351_2, hx351_3⟩ := at_T43 HR1.out x7_2 p351 q351
     cases e351
     replace hx351_0 := hk_ HB.out hx351_0
     replace hx351_1 := hk_ HB.out hx351_1
     replace hx351_2 := hk_ HB.out hx351_2
     replace hx351_3 := hk_ HB.out hx351_3
     replace p351 := eq_true p351
     replace q351 := eq_true q351
     go_wp2_with (first | ((with_reducible refine gate_builtin (b := .append) (xs := #[.tmp 28, .tmp 34]) rfl ?_); at_builtin; refine Kd.R_append Kd.string (w0 := w) w.heap.size rfl (.tmp 28) (.tmp 34) 38 9 (.string ⟨#[]⟩) 16 rfl Tryz.underlying38 info9 rfl (by decide) (by omega) u5 x5_2 ((rd_T43 l1 x7_2).f0) [.string ((rd_T43 l1 x7_2).f0)] (fun _ => True) (fun _ => False) rfl rfl ?aP (fun _ hk => hk.elim) ?aF ?aO ?aB ?aS ?aL ?_; (case aP => exact rfl); (case aB => exact (bel_)); (case aF => exact (fun _ _ => trivial)); (case aO => exact (ur_ HO_5.out)); (case aS => exact (below_size (bel_))); (case aL => have := LMc9.out; omega); intro v353 w10 ho hb hg hat; rw [← Ny352.out] at ho; have n0_ := Aside0.mk (hb); have n1_ := Aside0.mk (ho); clear HB; clear HO_5; have HB := n0_; have HO354 := n1_; clear n0_ n1_; clear ho hb hg hat))
     go_roundg k2
     case measure => have := HK1.out; have := HK2.out; omega
     case rel => exact ⟨(y352), (wrap64 (x7_2 + 1)), (rf_), H', ⟨by have := HK1.out; have := HK2.out; omega⟩, ⟨ur_ HO354.out⟩, ⟨bel_⟩⟩
def copseref02_Byte.f (a0 : Int) : Option (Bool) := if a0 ≥ 97 then (if a0 ≤ 122 then (some true) else (if a0 ≥ 65 then (if a0 ≤ 90 then (some true) else (if a0 ≥ 48 then (if a0 ≤ 57 then (some true) else (if a0 = 46 then (some true) else (if a0 = 95 then (some true) else (some (a0 == 45))))) else (if a0 = 46 then (some true) else (if a0 = 95 then (some true) else (some (a0 == 45)))))) else (if a0 ≥ 48 then (if a0 ≤ 57 then (some true) else (if a0 = 46 then (some true) else (if a0 = 95 then (some true) else (some (a0 == 45))))) else (if a0 = 46 then (some true) else (if a0 = 95 then (some true) else (some (a0 == 45))))))) else (if a0 ≥ 65 then (if a0 ≤ 90 then (some true) else (if a0 ≥ 48 then (if a0 ≤ 57 then (some true) else (if a0 = 46 then (some true) else (if a0 = 95 then (some true) else (some (a0 == 45))))) else (if a0 = 46 then (some true) else (if a0 = 95 then (some true) else (some (a0 == 45)))))) else (if a0 ≥ 48 then (if a0 ≤ 57 then (some true) else (if a0 = 46 then (some true) else (if a0 = 95 then (some true) else (some (a0 == 45))))) else (if a0 = 46 then (some true) else (if a0 = 95 then (some true) else (some (a0 == 45))))))
set_option maxHeartbeats 8000000 in
set_option maxRecDepth 100000 in
theorem copseref02_Byte.calls (a0 : Int) (r : Bool) (w : World) (h : copseref02_Byte.f a0 = some r) :
  Calls Tryz.prog 83 #[.int .u8 a0] w fun e w' => e = .returned (.bool r) ∧ Drawn0 w w' := by
 have H : (if a0 ≥ 97 then (if a0 ≤ 122 then (some true) else (if a0 ≥ 65 then (if a0 ≤ 90 then (some true) else (if a0 ≥ 48 then (if a0 ≤ 57 then (some true) else (if a0 = 46 then (some true) else (if a0 = 95 then (some true) else (some (a0 == 45))))) else (if a0 = 46 then (some true) else (if a0 = 95 then (some true) else (some (a0 == 45)))))) else (if a0 ≥ 48 then (if a0 ≤ 57 then (some true) else (if a0 = 46 then (some true) else (if a0 = 95 then (some true) else (some (a0 == 45))))) else (if a0 = 46 then (some true) else (if a0 = 95 then (some true) else (some (a0 == 45))))))) else (if a0 ≥ 65 then (if a0 ≤ 90 then (some true) else (if a0 ≥ 48 then (if a0 ≤ 57 then (some true) else (if a0 = 46 then (some true) else (if a0 = 95 then (some true) else (some (a0 == 45))))) else (if a0 = 46 then (some true) else (if a0 = 95 then (some true) else (some (a0 == 45)))))) else (if a0 ≥ 48 then (if a0 ≤ 57 then (some true) else (if a0 = 46 then (some true) else (if a0 = 95 then (some true) else (some (a0 == 45))))) else (if a0 = 46 then (some true) else (if a0 = 95 then (some true) else (some (a0 == 45))))))) = some r := h
 clear h
 by_cases c2 : a0 ≥ 97
 rotate_left
 ·rw [if_neg c2] at H
  have c2b0 := decide_eq_false c2
  clear c2
  by_cases c18 : a0 ≥ 65
  rotate_left
  ·rw [if_neg c18] at H
   have c18b0 := decide_eq_false c18
   clear c18
   by_cases c26 : a0 ≥ 48
   rotate_left
   ·rw [if_neg c26] at H
    have c26b0 := decide_eq_false c26
    clear c26
    by_cases c30 : a0 = 46
    ·rw [if_pos c30] at H
     have c30b0 : (a0 == 46) = true := beq_iff_eq.mpr c30
     have c30b1 : (a0 != 46) = false := bne_eq_false_iff_eq.mpr c30
     clear c30
     obtain rfl := Option.some.inj H
     go_enter Tryz.func83, Tryz.ntmps83
     go_wp2
     go_ret
     exact ⟨rf_, dr_⟩
    rw [if_neg c30] at H
    have c30b0 : (a0 == 46) = false := beq_eq_false_iff_ne.mpr c30
    have c30b1 : (a0 != 46) = true := bne_iff_ne.mpr c30
    by_cases c31 : a0 = 95
    ·rw [if_pos c31] at H
     have c31b0 : (a0 == 95) = true := beq_iff_eq.mpr c31
     have c31b1 : (a0 != 95) = false := bne_eq_false_iff_eq.mpr c31
     clear c31
     obtain rfl := Option.some.inj H
     go_enter Tryz.func83, Tryz.ntmps83
     go_wp2
     go_ret
     exact ⟨rf_, dr_⟩
    rw [if_neg c31] at H
    have c31b0 : (a0 == 95) = false := beq_eq_false_iff_ne.mpr c31
    have c31b1 : (a0 != 95) = true := bne_iff_ne.mpr c31
    obtain rfl := Option.some.inj H
    go_enter Tryz.func83, Tryz.ntmps83
    go_wp2
    go_ret
    exact ⟨rf_, dr_⟩
   rw [if_pos c26] at H
   have c26b0 := decide_eq_true c26
   clear c26
   by_cases c27 : a0 ≤ 57
   ·rw [if_pos c27] at H
    have c27b0 := decide_eq_true c27
    clear c27
    obtain rfl := Option.some.inj H
    go_enter Tryz.func83, Tryz.ntmps83
    go_wp2
    go_ret
    exact ⟨rf_, dr_⟩
   rw [if_neg c27] at H
   have c27b0 := decide_eq_false c27
   clear c27
   by_cases c28 : a0 = 46
   ·rw [if_pos c28] at H
    have c28b0 : (a0 == 46) = true := beq_iff_eq.mpr c28
    have c28b1 : (a0 != 46) = false := bne_eq_false_iff_eq.mpr c28
    clear c28
    obtain rfl := Option.some.inj H
    go_enter Tryz.func83, Tryz.ntmps83
    go_wp2
    go_ret
    exact ⟨rf_, dr_⟩
   rw [if_neg c28] at H
   have c28b0 : (a0 == 46) = false := beq_eq_false_iff_ne.mpr c28
   have c28b1 : (a0 != 46) = true := bne_iff_ne.mpr c28
   by_cases c29 : a0 = 95
   ·rw [if_pos c29] at H
    have c29b0 : (a0 == 95) = true := beq_iff_eq.mpr c29
    have c29b1 : (a0 != 95) = false := bne_eq_false_iff_eq.mpr c29
    clear c29
    obtain rfl := Option.some.inj H
    go_enter Tryz.func83, Tryz.ntmps83
    go_wp2
    go_ret
    exact ⟨rf_, dr_⟩
   rw [if_neg c29] at H
   have c29b0 : (a0 == 95) = false := beq_eq_false_iff_ne.mpr c29
   have c29b1 : (a0 != 95) = true := bne_iff_ne.mpr c29
   obtain rfl := Option.some.inj H
   go_enter Tryz.func83, Tryz.ntmps83
   go_wp2
   go_ret
   exact ⟨rf_, dr_⟩
  rw [if_pos c18] at H
  have c18b0 := decide_eq_true c18
  clear c18
  by_cases c19 : a0 ≤ 90
  ·rw [if_pos c19] at H
   have c19b0 := decide_eq_true c19
   clear c19
   obtain rfl := Option.some.inj H
   go_enter Tryz.func83, Tryz.ntmps83
   go_wp2
   go_ret
   exact ⟨rf_, dr_⟩
  rw [if_neg c19] at H
  have c19b0 := decide_eq_false c19
  clear c19
  by_cases c20 : a0 ≥ 48
  rotate_left
  ·rw [if_neg c20] at H
   have c20b0 := decide_eq_false c20
   clear c20
   by_cases c24 : a0 = 46
   ·rw [if_pos c24] at H
    have c24b0 : (a0 == 46) = true := beq_iff_eq.mpr c24
    have c24b1 : (a0 != 46) = false := bne_eq_false_iff_eq.mpr c24
    clear c24
    obtain rfl := Option.some.inj H
    go_enter Tryz.func83, Tryz.ntmps83
    go_wp2
    go_ret
    exact ⟨rf_, dr_⟩
   rw [if_neg c24] at H
   have c24b0 : (a0 == 46) = false := beq_eq_false_iff_ne.mpr c24
   have c24b1 : (a0 != 46) = true := bne_iff_ne.mpr c24
   by_cases c25 : a0 = 95
   ·rw [if_pos c25] at H
    have c25b0 : (a0 == 95) = true := beq_iff_eq.mpr c25
    have c25b1 : (a0 != 95) = false := bne_eq_false_iff_eq.mpr c25
    clear c25
    obtain rfl := Option.some.inj H
    go_enter Tryz.func83, Tryz.ntmps83
    go_wp2
    go_ret
    exact ⟨rf_, dr_⟩
   rw [if_neg c25] at H
   have c25b0 : (a0 == 95) = false := beq_eq_false_iff_ne.mpr c25
   have c25b1 : (a0 != 95) = true := bne_iff_ne.mpr c25
   obtain rfl := Option.some.inj H
   go_enter Tryz.func83, Tryz.ntmps83
   go_wp2
   go_ret
   exact ⟨rf_, dr_⟩
  rw [if_pos c20] at H
  have c20b0 := decide_eq_true c20
  clear c20
  by_cases c21 : a0 ≤ 57
  ·rw [if_pos c21] at H
   have c21b0 := decide_eq_true c21
   clear c21
   obtain rfl := Option.some.inj H
   go_enter Tryz.func83, Tryz.ntmps83
   go_wp2
   go_ret
   exact ⟨rf_, dr_⟩
  rw [if_neg c21] at H
  have c21b0 := decide_eq_false c21
  clear c21
  by_cases c22 : a0 = 46
  ·rw [if_pos c22] at H
   have c22b0 : (a0 == 46) = true := beq_iff_eq.mpr c22
   have c22b1 : (a0 != 46) = false := bne_eq_false_iff_eq.mpr c22
   clear c22
   obtain rfl := Option.some.inj H
   go_enter Tryz.func83, Tryz.ntmps83
   go_wp2
   go_ret
   exact ⟨rf_, dr_⟩
  rw [if_neg c22] at H
  have c22b0 : (a0 == 46) = false := beq_eq_false_iff_ne.mpr c22
  have c22b1 : (a0 != 46) = true := bne_iff_ne.mpr c22
  by_cases c23 : a0 = 95
  ·rw [if_pos c23] at H
   have c23b0 : (a0 == 95) = true := beq_iff_eq.mpr c23
   have c23b1 : (a0 != 95) = false := bne_eq_false_iff_eq.mpr c23
   clear c23
   obtain rfl := Option.some.inj H
   go_enter Tryz.func83, Tryz.ntmps83
   go_wp2
   go_ret
   exact ⟨rf_, dr_⟩
  rw [if_neg c23] at H
  have c23b0 : (a0 == 95) = false := beq_eq_false_iff_ne.mpr c23
  have c23b1 : (a0 != 95) = true := bne_iff_ne.mpr c23
  obtain rfl := Option.some.inj H
  go_enter Tryz.func83, Tryz.ntmps83
  go_wp2
  go_ret
  exact ⟨rf_, dr_⟩
 rw [if_pos c2] at H
 have c2b0 := decide_eq_true c2
 clear c2
 by_cases c3 : a0 ≤ 122
 ·rw [if_pos c3] at H
  have c3b0 := decide_eq_true c3
  clear c3
  obtain rfl := Option.some.inj H
  go_enter Tryz.func83, Tryz.ntmps83
  go_wp2
  go_ret
  exact ⟨rf_, dr_⟩
 rw [if_neg c3] at H
 have c3b0 := decide_eq_false c3
 clear c3
 by_cases c4 : a0 ≥ 65
 rotate_left
 ·rw [if_neg c4] at H
  have c4b0 := decide_eq_false c4
  clear c4
  by_cases c12 : a0 ≥ 48
  rotate_left
  ·rw [if_neg c12] at H
   have c12b0 := decide_eq_false c12
   clear c12
   by_cases c16 : a0 = 46
   ·rw [if_pos c16] at H
    have c16b0 : (a0 == 46) = true := beq_iff_eq.mpr c16
    have c16b1 : (a0 != 46) = false := bne_eq_false_iff_eq.mpr c16
    clear c16
    obtain rfl := Option.some.inj H
    go_enter Tryz.func83, Tryz.ntmps83
    go_wp2
    go_ret
    exact ⟨rf_, dr_⟩
   rw [if_neg c16] at H
   have c16b0 : (a0 == 46) = false := beq_eq_false_iff_ne.mpr c16
   have c16b1 : (a0 != 46) = true := bne_iff_ne.mpr c16
   by_cases c17 : a0 = 95
   ·rw [if_pos c17] at H
    have c17b0 : (a0 == 95) = true := beq_iff_eq.mpr c17
    have c17b1 : (a0 != 95) = false := bne_eq_false_iff_eq.mpr c17
    clear c17
    obtain rfl := Option.some.inj H
    go_enter Tryz.func83, Tryz.ntmps83
    go_wp2
    go_ret
    exact ⟨rf_, dr_⟩
   rw [if_neg c17] at H
   have c17b0 : (a0 == 95) = false := beq_eq_false_iff_ne.mpr c17
   have c17b1 : (a0 != 95) = true := bne_iff_ne.mpr c17
   obtain rfl := Option.some.inj H
   go_enter Tryz.func83, Tryz.ntmps83
   go_wp2
   go_ret
   exact ⟨rf_, dr_⟩
  rw [if_pos c12] at H
  have c12b0 := decide_eq_true c12
  clear c12
  by_cases c13 : a0 ≤ 57
  ·rw [if_pos c13] at H
   have c13b0 := decide_eq_true c13
   clear c13
   obtain rfl := Option.some.inj H
   go_enter Tryz.func83, Tryz.ntmps83
   go_wp2
   go_ret
   exact ⟨rf_, dr_⟩
  rw [if_neg c13] at H
  have c13b0 := decide_eq_false c13
  clear c13
  by_cases c14 : a0 = 46
  ·rw [if_pos c14] at H
   have c14b0 : (a0 == 46) = true := beq_iff_eq.mpr c14
   have c14b1 : (a0 != 46) = false := bne_eq_false_iff_eq.mpr c14
   clear c14
   obtain rfl := Option.some.inj H
   go_enter Tryz.func83, Tryz.ntmps83
   go_wp2
   go_ret
   exact ⟨rf_, dr_⟩
  rw [if_neg c14] at H
  have c14b0 : (a0 == 46) = false := beq_eq_false_iff_ne.mpr c14
  have c14b1 : (a0 != 46) = true := bne_iff_ne.mpr c14
  by_cases c15 : a0 = 95
  ·rw [if_pos c15] at H
   have c15b0 : (a0 == 95) = true := beq_iff_eq.mpr c15
   have c15b1 : (a0 != 95) = false := bne_eq_false_iff_eq.mpr c15
   clear c15
   obtain rfl := Option.some.inj H
   go_enter Tryz.func83, Tryz.ntmps83
   go_wp2
   go_ret
   exact ⟨rf_, dr_⟩
  rw [if_neg c15] at H
  have c15b0 : (a0 == 95) = false := beq_eq_false_iff_ne.mpr c15
  have c15b1 : (a0 != 95) = true := bne_iff_ne.mpr c15
  obtain rfl := Option.some.inj H
  go_enter Tryz.func83, Tryz.ntmps83
  go_wp2
  go_ret
  exact ⟨rf_, dr_⟩
 rw [if_pos c4] at H
 have c4b0 := decide_eq_true c4
 clear c4
 by_cases c5 : a0 ≤ 90
 ·rw [if_pos c5] at H
  have c5b0 := decide_eq_true c5
  clear c5
  obtain rfl := Option.some.inj H
  go_enter Tryz.func83, Tryz.ntmps83
  go_wp2
  go_ret
  exact ⟨rf_, dr_⟩
 rw [if_neg c5] at H
 have c5b0 := decide_eq_false c5
 clear c5
 by_cases c6 : a0 ≥ 48
 rotate_left
 ·rw [if_neg c6] at H
  have c6b0 := decide_eq_false c6
  clear c6
  by_cases c10 : a0 = 46
  ·rw [if_pos c10] at H
   have c10b0 : (a0 == 46) = true := beq_iff_eq.mpr c10
   have c10b1 : (a0 != 46) = false := bne_eq_false_iff_eq.mpr c10
   clear c10
   obtain rfl := Option.some.inj H
   go_enter Tryz.func83, Tryz.ntmps83
   go_wp2
   go_ret
   exact ⟨rf_, dr_⟩
  rw [if_neg c10] at H
  have c10b0 : (a0 == 46) = false := beq_eq_false_iff_ne.mpr c10
  have c10b1 : (a0 != 46) = true := bne_iff_ne.mpr c10
  by_cases c11 : a0 = 95
  ·rw [if_pos c11] at H
   have c11b0 : (a0 == 95) = true := beq_iff_eq.mpr c11
   have c11b1 : (a0 != 95) = false := bne_eq_false_iff_eq.mpr c11
   clear c11
   obtain rfl := Option.some.inj H
   go_enter Tryz.func83, Tryz.ntmps83
   go_wp2
   go_ret
   exact ⟨rf_, dr_⟩
  rw [if_neg c11] at H
  have c11b0 : (a0 == 95) = false := beq_eq_false_iff_ne.mpr c11
  have c11b1 : (a0 != 95) = true := bne_iff_ne.mpr c11
  obtain rfl := Option.some.inj H
  go_enter Tryz.func83, Tryz.ntmps83
  go_wp2
  go_ret
  exact ⟨rf_, dr_⟩
 rw [if_pos c6] at H
 have c6b0 := decide_eq_true c6
 clear c6
 by_cases c7 : a0 ≤ 57
 ·rw [if_pos c7] at H
  have c7b0 := decide_eq_true c7
  clear c7
  obtain rfl := Option.some.inj H
  go_enter Tryz.func83, Tryz.ntmps83
  go_wp2
  go_ret
  exact ⟨rf_, dr_⟩
 rw [if_neg c7] at H
 have c7b0 := decide_eq_false c7
 clear c7
 by_cases c8 : a0 = 46
 ·rw [if_pos c8] at H
  have c8b0 : (a0 == 46) = true := beq_iff_eq.mpr c8
  have c8b1 : (a0 != 46) = false := bne_eq_false_iff_eq.mpr c8
  clear c8
  obtain rfl := Option.some.inj H
  go_enter Tryz.func83, Tryz.ntmps83
  go_wp2
  go_ret
  exact ⟨rf_, dr_⟩
 rw [if_neg c8] at H
 have c8b0 : (a0 == 46) = false := beq_eq_false_iff_ne.mpr c8
 have c8b1 : (a0 != 46) = true := bne_iff_ne.mpr c8
 by_cases c9 : a0 = 95
 ·rw [if_pos c9] at H
  have c9b0 : (a0 == 95) = true := beq_iff_eq.mpr c9
  have c9b1 : (a0 != 95) = false := bne_eq_false_iff_eq.mpr c9
  clear c9
  obtain rfl := Option.some.inj H
  go_enter Tryz.func83, Tryz.ntmps83
  go_wp2
  go_ret
  exact ⟨rf_, dr_⟩
 rw [if_neg c9] at H
 have c9b0 : (a0 == 95) = false := beq_eq_false_iff_ne.mpr c9
 have c9b1 : (a0 != 95) = true := bne_iff_ne.mpr c9
 obtain rfl := Option.some.inj H
 go_enter Tryz.func83, Tryz.ntmps83
 go_wp2
 go_ret
 exact ⟨rf_, dr_⟩
mutual
def copseref02_Component.j0 : Nat → ByteArray → Bool → Option (Bool)
 | 0, _, _ => none
 | k + 1, x0, x23 => if x23 = true then (some false) else (copseref02_Component.l0 k x0 0)
def copseref02_Component.l0 : Nat → ByteArray → Int → Option (Bool)
 | 0, _, _ => none
 | k + 1, x0, x3 => if x3 < (x0.size : Int) then (if 0 ≤ x3 then ((copseref02_Byte.f (bt x0 x3)).bind fun t358 => (if t358 = true then (copseref02_Component.l0 k x0 (wrap64 (x3 + 1))) else (some false))) else (none)) else (some true)
end
def copseref02_Component.f (k : Nat) (a0 : ByteArray) : Option (Bool) := if (a0.size : Int) < 1 then (copseref02_Component.j0 k a0 true) else (if (a0.size : Int) > 32 then (copseref02_Component.j0 k a0 true) else (if a0.toList = ([46] : List UInt8) then (copseref02_Component.j0 k a0 true) else (if a0.toList = ([46, 46] : List UInt8) then (copseref02_Component.j0 k a0 true) else (copseref02_Component.j0 k a0 (a0.toList == ([46, 46, 46] : List UInt8))))))
set_option maxHeartbeats 8000000 in
set_option maxRecDepth 100000 in
theorem copseref02_Component.calls (k : Nat) (a0 : ByteArray) (r : Bool) (w : World) (h : copseref02_Component.f k a0 = some r) :
  Calls Tryz.prog 67 #[.string a0] w fun e w' => e = .returned (.bool r) ∧ Drawn0 w w' := by
 have H : (if (a0.size : Int) < 1 then (copseref02_Component.j0 k a0 true) else (if (a0.size : Int) > 32 then (copseref02_Component.j0 k a0 true) else (if a0.toList = ([46] : List UInt8) then (copseref02_Component.j0 k a0 true) else (if a0.toList = ([46, 46] : List UInt8) then (copseref02_Component.j0 k a0 true) else (copseref02_Component.j0 k a0 (a0.toList == ([46, 46, 46] : List UInt8))))))) = some r := h
 clear h
 have HC2 := Aside0.mk H
 clear H
 go_enter Tryz.func67, Tryz.ntmps67
 go_upto_region 1 with (fail)
 go_cut [23] (fun v23 wc => ∃ (kq : Nat) (x23_1 : Bool), v23 = .bool x23_1 ∧ Aside0 (copseref02_Component.j0 kq a0 x23_1 = some r) ∧ Aside0 (kq ≤ k) ∧ Drawn0 w wc)
 case first =>
  have H := HC2.out
  clear HC2
  by_cases c3 : (a0.size : Int) < 1
  ·rw [if_pos c3] at H
   have c3b0 := decide_eq_true c3
   have c3b1 : decide (a0.size < 1) = true := decide_eq_true (by omega)
   clear c3
   (first | rw [c3b0] | (simp only [i64_w, i32_w]; rw [c3b0]) | skip)
   have H' := Aside0.mk H
   clear H
   go_wp2
   go_meet
   case rel => exact ⟨_, (true), (rf_), H', ⟨by first | omega | exact Nat.le_refl _⟩, dr_⟩
  rw [if_neg c3] at H
  have c3b0 := decide_eq_false c3
  have c3b1 : decide (a0.size < 1) = false := decide_eq_false (by omega)
  clear c3
  (first | rw [c3b0] | (simp only [i64_w, i32_w]; rw [c3b0]) | skip)
  by_cases c4 : (a0.size : Int) > 32
  ·rw [if_pos c4] at H
   have c4b0 := decide_eq_true c4
   have c4b1 : decide (32 < a0.size) = true := decide_eq_true (by omega)
   clear c4
   have H' := Aside0.mk H
   clear H
   go_wp2
   go_meet
   case rel => exact ⟨_, (true), (rf_), H', ⟨by first | omega | exact Nat.le_refl _⟩, dr_⟩
  rw [if_neg c4] at H
  have c4b0 := decide_eq_false c4
  have c4b1 : decide (32 < a0.size) = false := decide_eq_false (by omega)
  clear c4
  by_cases c5 : a0.toList = ([46] : List UInt8)
  ·rw [if_pos c5] at H
   have c5b0 : (a0.toList == ([46] : List UInt8)) = true := beq_iff_eq.mpr c5
   have c5b1 : (a0.toList != ([46] : List UInt8)) = false := bne_eq_false_iff_eq.mpr c5
   clear c5
   have H' := Aside0.mk H
   clear H
   go_wp2
   go_meet
   case rel => exact ⟨_, (true), (rf_), H', ⟨by first | omega | exact Nat.le_refl _⟩, dr_⟩
  rw [if_neg c5] at H
  have c5b0 : (a0.toList == ([46] : List UInt8)) = false := beq_eq_false_iff_ne.mpr c5
  have c5b1 : (a0.toList != ([46] : List UInt8)) = true := bne_iff_ne.mpr c5
  by_cases c6 : a0.toList = ([46, 46] : List UInt8)
  ·rw [if_pos c6] at H
   have c6b0 : (a0.toList == ([46, 46] : List UInt8)) = true := beq_iff_eq.mpr c6
   have c6b1 : (a0.toList != ([46, 46] : List UInt8)) = false := bne_eq_false_iff_eq.mpr c6
   clear c6
   have H' := Aside0.mk H
   clear H
   go_wp2
   go_meet
   case rel => exact ⟨_, (true), (rf_), H', ⟨by first | omega | exact Nat.le_refl _⟩, dr_⟩
  rw [if_neg c6] at H
  have c6b0 : (a0.toList == ([46, 46] : List UInt8)) = false := beq_eq_false_iff_ne.mpr c6
  have c6b1 : (a0.toList != ([46, 46] : List UInt8)) = true := bne_iff_ne.mpr c6
  have H' := Aside0.mk H
  clear H
  go_wp2
  go_meet
  case rel => exact ⟨_, ((a0.toList == ([46, 46, 46] : List UInt8))), (rf_), H', ⟨by first | omega | exact Nat.le_refl _⟩, dr_⟩
 case rest =>
  clear HC2
  try clear p2
  try clear c3
  try clear c3b0
  try clear c3b1
  try clear c4
  try clear c4b0
  try clear c4b1
  try clear c5
  try clear c5b0
  try clear c5b1
  try clear c6
  try clear c6b0
  try clear c6b1
  obtain ⟨kq, x23_1, rfl, HA, HJ1, ⟨mc1, rfl⟩⟩ := hcut
  cases kq with
  | zero => exact absurd HA.out (by simp [copseref02_Component.j0])
  | succ kj1 =>
   have H := HA.out
   clear HA
   simp only [copseref02_Component.j0] at H
   by_cases c7 : x23_1 = true
   ·subst c7
    rw [if_pos rfl] at H
    have H1 := H
    clear H
    have H := H1
    clear H1
    obtain rfl := Option.some.inj H
    go_wp2
    go_ret
    exact ⟨rf_, dr_⟩
   replace c7 := Bool.eq_false_iff.mpr c7
   subst c7
   have H1 : (copseref02_Component.l0 kj1 a0 0) = some r := by rw [if_neg (show ¬ (false = true) by decide)] at H; exact H
   clear H
   have H := H1
   clear H1
   have H' := Aside0.mk H
   clear H
   go_wp2
   go_loopg [3] kj1 (fun kq v3 w' => ∃ (x3_2 : Int), v3 = .int .i64 x3_2 ∧ Aside0 (copseref02_Component.l0 kq a0 x3_2 = some r) ∧ Aside0 (kq ≤ kj1) ∧ Drawn0 w w')
   case atStart => exact ⟨(0), (rf_), H', ⟨Nat.le_refl _⟩, dr_⟩
   case round =>
    clear H'
    try clear c1
    try clear p2
    try clear c3
    try clear c3b0
    try clear c3b1
    try clear c4
    try clear c4b0
    try clear c4b1
    try clear c5
    try clear c5b0
    try clear c5b1
    try clear c6
    try clear c6b0
    try clear c6b1
    try clear c7
    try clear p2
    obtain ⟨x3_2, rfl, HA, HK2, ⟨m2, rfl⟩⟩ := hrel
    cases gk with
    | zero => exact absurd HA.out (by simp [copseref02_Component.l0])
    | succ k2 =>
     have H := HA.out
     clear HA
     simp only [copseref02_Component.l0] at H
     by_cases c8 : x3_2 < (a0.size : Int)
     rotate_left
     ·rw [if_neg c8] at H
      have c8b0 := decide_eq_false c8
      clear c8
      obtain rfl := Option.some.inj H
      go_wp2
      go_ret
      exact ⟨rf_, dr_⟩
     rw [if_pos c8] at H
     have c8b0 := decide_eq_true c8
     clear c8
     by_cases c9 : 0 ≤ x3_2
     rotate_left
     ·rw [if_neg c9] at H
      exact absurd H (by simp)
     rw [if_pos c9] at H
     have c9b0 := decide_eq_true c9
     clear c9
     replace H := Option.bind_eq_some_iff.mp H
     obtain ⟨t358, A110, H⟩ := H
     try dsimp only at H
     have A11 := Aside0.mk A110
     clear A110
     by_cases c12 : t358 = true
     ·subst c12
      rw [if_pos rfl] at H
      have H1 := H
      clear H
      have H := H1
      clear H1
      have H' := Aside0.mk H
      clear H
      have p10 : 0 ≤ (x3_2 : Int) := of_decide_eq_true (by assumption)
      have q10 : x3_2 < (a0.size : Int) := of_decide_eq_true (by assumption)
      have hx10 := bt_at a0 x3_2
      replace p10 := eq_true p10
      replace q10 := eq_true q10
      go_wp2_with (first | ((with_reducible refine gate_callee (f := 83) rfl ?_); refine goesL_ (some 33) rfl rfl Tryz.func83 (by kernel_rfl) rfl #[.int .u8 (bt a0 x3_2)] rfl (mp_) ?_; (with_reducible refine (copseref02_Byte.calls (bt a0 x3_2) true _ A11.out).mono ?_); rintro e w' ⟨rfl, ⟨nd, rfl⟩⟩; refine ⟨_, rfl, ?_⟩))
      go_roundg k2
      case measure => have := HJ1.out; have := HK2.out; omega
      case rel => exact ⟨(wrap64 (x3_2 + 1)), (rf_), H', ⟨by have := HJ1.out; have := HK2.out; omega⟩, dr_⟩
     replace c12 := Bool.eq_false_iff.mpr c12
     subst c12
     have H1 : (some false) = some r := by rw [if_neg (show ¬ (false = true) by decide)] at H; exact H
     clear H
     have H := H1
     clear H1
     obtain rfl := Option.some.inj H
     have p10 : 0 ≤ (x3_2 : Int) := of_decide_eq_true (by assumption)
     have q10 : x3_2 < (a0.size : Int) := of_decide_eq_true (by assumption)
     have hx10 := bt_at a0 x3_2
     replace p10 := eq_true p10
     replace q10 := eq_true q10
     go_wp2_with (first | ((with_reducible refine gate_callee (f := 83) rfl ?_); refine goesL_ (some 33) rfl rfl Tryz.func83 (by kernel_rfl) rfl #[.int .u8 (bt a0 x3_2)] rfl (mp_) ?_; (with_reducible refine (copseref02_Byte.calls (bt a0 x3_2) false _ A11.out).mono ?_); rintro e w' ⟨rfl, ⟨nd, rfl⟩⟩; refine ⟨_, rfl, ?_⟩))
     go_ret
     exact ⟨rf_, dr_⟩
mutual
def copseref02_Valid.j0 : Nat → List ByteArray → Bool → Option (Bool)
 | 0, _, _ => none
 | k + 1, x3, x14 => if x14 = true then (some false) else (copseref02_Valid.l0 k x3 0)
def copseref02_Valid.l0 : Nat → List ByteArray → Int → Option (Bool)
 | 0, _, _ => none
 | k + 1, x3, x4 => if x4 < (x3.length : Int) then (if 0 ≤ x4 then ((copseref02_Component.f k (rdOf ByteArray.empty x3 x4)).bind fun t363 => (if t363 = true then (copseref02_Valid.l0 k x3 (wrap64 (x4 + 1))) else (some false))) else (none)) else (some true)
end
def copseref02_Valid.f (k : Nat) (a0 : ByteArray) : Option (Bool) := (copseref02_Split.f k a0).bind fun t359 => (if (a0.size : Int) > 120 then (copseref02_Valid.j0 k t359 true) else (copseref02_Valid.j0 k t359 (decide ((t359.length : Int) > 12))))
set_option maxHeartbeats 8000000 in
set_option maxRecDepth 100000 in
theorem copseref02_Valid.calls (k : Nat) (a0 : ByteArray) (r : Bool) (w : World) (h : copseref02_Valid.f k a0 = some r) :
  Calls Tryz.prog 49 #[.string a0] w fun e w' => e = .returned (.bool r) ∧ Below w.heap.size w w' := by
 have HB := Aside0.mk (Below.refl w.heap.size w)
 have H : ((copseref02_Split.f k a0).bind fun t359 => (if (a0.size : Int) > 120 then (copseref02_Valid.j0 k t359 true) else (copseref02_Valid.j0 k t359 (decide ((t359.length : Int) > 12))))) = some r := h
 clear h
 replace H := Option.bind_eq_some_iff.mp H
 obtain ⟨t359, A20, H⟩ := H
 try dsimp only at H
 have A2 := Aside0.mk A20
 clear A20
 have HC3 := Aside0.mk H
 clear H
 go_enter Tryz.func49, Tryz.ntmps49
 go_upto_region 2 with (first | ((with_reducible refine gate_callee (f := 51) rfl ?_); refine goesL_ (some 6) rfl rfl Tryz.func51 (by kernel_rfl) rfl #[.string a0] rfl (mp_) ?_; (with_reducible refine (copseref02_Split.calls k a0 t359 _ A2.out).mono ?_); rintro e w4 ⟨v360, rfl, ho0, hb⟩; refine ⟨_, rfl, ?_⟩; have n0_ := Aside0.mk (Kd.R_lower ho0 (below_size (bel_))); have n1_ := Aside0.mk (below_step (bel_) hb); clear HB; have HO361 := n0_; have HB := n1_; clear n0_ n1_; (try clear hb); (try clear hb2); (try clear hk); (try clear hi); (try clear ho0)))
 (try simp only [Act.put, List.setIfInBounds_toArray, List.set_cons_zero, List.set_cons_succ])
 go_cut [14] (fun v14 wc => ∃ (kq : Nat) (x14_2 : Bool), v14 = .bool x14_2 ∧ Aside0 (copseref02_Valid.j0 kq t359 x14_2 = some r) ∧ Aside0 (kq ≤ k) ∧ Aside0 (Kd.R Kd.string 9 wc w.heap.size (fun _ => True) v360 t359) ∧ Aside0 (Below w.heap.size w wc))
 case first =>
  have H := HC3.out
  clear HC3
  by_cases c5 : (a0.size : Int) > 120
  ·rw [if_pos c5] at H
   have c5b0 := decide_eq_true c5
   have c5b1 : decide (120 < a0.size) = true := decide_eq_true (by omega)
   clear c5
   (first | rw [c5b0] | (simp only [i64_w, i32_w]; rw [c5b0]) | skip)
   have H' := Aside0.mk H
   clear H
   go_wp2
   go_meet
   case rel => exact ⟨_, (true), (rf_), H', ⟨by first | omega | exact Nat.le_refl _⟩, ⟨ur_ HO361.out⟩, ⟨bel_⟩⟩
  rw [if_neg c5] at H
  have c5b0 := decide_eq_false c5
  have c5b1 : decide (120 < a0.size) = false := decide_eq_false (by omega)
  clear c5
  (first | rw [c5b0] | (simp only [i64_w, i32_w]; rw [c5b0]) | skip)
  have H' := Aside0.mk H
  clear H
  obtain ⟨Ao6, co6, eo6⟩ := Kd.R_slice HO361.out
  subst eo6
  go_wp2
  go_meet
  case rel => exact ⟨_, (decide ((t359.length : Int) > 12)), (rf_), H', ⟨by first | omega | exact Nat.le_refl _⟩, ⟨ur_ HO361.out⟩, ⟨bel_⟩⟩
 case rest =>
  clear HC3
  try clear p2
  try clear c4
  try clear c5
  try clear c5b0
  try clear c5b1
  obtain ⟨kq, x14_2, rfl, HA, HJ2, HO_3, HB⟩ := hcut
  cases kq with
  | zero => exact absurd HA.out (by simp [copseref02_Valid.j0])
  | succ kj2 =>
   have H := HA.out
   clear HA
   simp only [copseref02_Valid.j0] at H
   by_cases c7 : x14_2 = true
   ·subst c7
    rw [if_pos rfl] at H
    have H1 := H
    clear H
    have H := H1
    clear H1
    obtain rfl := Option.some.inj H
    go_wp2
    go_ret
    exact ⟨er_, bel_⟩
   replace c7 := Bool.eq_false_iff.mpr c7
   subst c7
   have H1 : (copseref02_Valid.l0 kj2 t359 0) = some r := by rw [if_neg (show ¬ (false = true) by decide)] at H; exact H
   clear H
   have H := H1
   clear H1
   have H' := Aside0.mk H
   clear H
   go_wp2
   go_loopg [4] kj2 (fun kq v4 w' => ∃ (x4_2 : Int), v4 = .int .i64 x4_2 ∧ Aside0 (copseref02_Valid.l0 kq t359 x4_2 = some r) ∧ Aside0 (kq ≤ kj2) ∧ Aside0 (Kd.R Kd.string 9 w' w.heap.size (fun _ => True) v360 t359) ∧ Aside0 (Below w.heap.size w w'))
   case atStart => exact ⟨(0), (rf_), H', ⟨Nat.le_refl _⟩, ⟨ur_ HO_3.out⟩, ⟨bel_⟩⟩
   case round =>
    clear H'
    try clear p2
    try clear c4
    try clear c5
    try clear c5b0
    try clear c5b1
    try clear c7
    try clear p2
    obtain ⟨x4_2, rfl, HA, HK2, HO_3, HB⟩ := hrel
    cases gk with
    | zero => exact absurd HA.out (by simp [copseref02_Valid.l0])
    | succ k2 =>
     have H := HA.out
     clear HA
     simp only [copseref02_Valid.l0] at H
     by_cases c8 : x4_2 < (t359.length : Int)
     rotate_left
     ·rw [if_neg c8] at H
      have c8b0 := decide_eq_false c8
      clear c8
      obtain rfl := Option.some.inj H
      obtain ⟨Ao14, co14, eo14⟩ := Kd.R_slice HO_3.out
      subst eo14
      go_wp2
      go_ret
      exact ⟨er_, bel_⟩
     rw [if_pos c8] at H
     have c8b0 := decide_eq_true c8
     clear c8
     by_cases c9 : 0 ≤ x4_2
     rotate_left
     ·rw [if_neg c9] at H
      exact absurd H (by simp)
     rw [if_pos c9] at H
     have c9b0 := decide_eq_true c9
     clear c9
     replace H := Option.bind_eq_some_iff.mp H
     obtain ⟨t363, A100, H⟩ := H
     try dsimp only at H
     have A10 := Aside0.mk A100
     clear A100
     by_cases c11 : t363 = true
     ·subst c11
      rw [if_pos rfl] at H
      have H1 := H
      clear H
      have H := H1
      clear H1
      have H' := Aside0.mk H
      clear H
      obtain ⟨Ao12, co12, eo12⟩ := Kd.R_slice HO_3.out
      subst eo12
      have p362 : 0 ≤ (x4_2 : Int) := of_decide_eq_true (by assumption)
      have q362 : x4_2 < (t359.length : Int) := of_decide_eq_true (by assumption)
      obtain ⟨ad362, e362, hx362_0⟩ := Kd.at_string (Kd.R_reads' HO_3.out).2.2 x4_2 p362 q362
      cases e362
      replace p362 := eq_true p362
      replace q362 := eq_true q362
      go_wp2_with (first | ((with_reducible refine gate_callee (f := 67) rfl ?_); refine goesL_ (some 25) rfl rfl Tryz.func67 (by kernel_rfl) rfl #[.string (rdOf ByteArray.empty t359 x4_2)] rfl (mp_) ?_; (with_reducible refine (copseref02_Component.calls k2 (rdOf ByteArray.empty t359 x4_2) true _ A10.out).mono ?_); rintro e w' ⟨rfl, ⟨nd, rfl⟩⟩; refine ⟨_, rfl, ?_⟩))
      go_roundg k2
      case measure => have := HJ2.out; have := HK2.out; omega
      case rel => exact ⟨(wrap64 (x4_2 + 1)), (rf_), H', ⟨by have := HJ2.out; have := HK2.out; omega⟩, ⟨ur_ HO_3.out⟩, ⟨bel_⟩⟩
     replace c11 := Bool.eq_false_iff.mpr c11
     subst c11
     have H1 : (some false) = some r := by rw [if_neg (show ¬ (false = true) by decide)] at H; exact H
     clear H
     have H := H1
     clear H1
     obtain rfl := Option.some.inj H
     obtain ⟨Ao13, co13, eo13⟩ := Kd.R_slice HO_3.out
     subst eo13
     have p362 : 0 ≤ (x4_2 : Int) := of_decide_eq_true (by assumption)
     have q362 : x4_2 < (t359.length : Int) := of_decide_eq_true (by assumption)
     obtain ⟨ad362, e362, hx362_0⟩ := Kd.at_string (Kd.R_reads' HO_3.out).2.2 x4_2 p362 q362
     cases e362
     replace p362 := eq_true p362
     replace q362 := eq_true q362
     go_wp2_with (first | ((with_reducible refine gate_callee (f := 67) rfl ?_); refine goesL_ (some 25) rfl rfl Tryz.func67 (by kernel_rfl) rfl #[.string (rdOf ByteArray.empty t359 x4_2)] rfl (mp_) ?_; (with_reducible refine (copseref02_Component.calls k2 (rdOf ByteArray.empty t359 x4_2) false _ A10.out).mono ?_); rintro e w' ⟨rfl, ⟨nd, rfl⟩⟩; refine ⟨_, rfl, ?_⟩))
     go_ret
     exact ⟨er_, bel_⟩
open Go.Proofs.YtehfogjibhnabaaGreatDoor.Sp
theorem refat06_run (l : List S43) (p : ByteArray) (hl : l.length ≤ 1073741824) (d : Nat) : ∀ i, l.length - i = d → i ≤ l.length → Ev (fun k => copseref06_at.l0 k l p (i : Int)) (foundF (atK S43.f0 (l.drop i) p)) := by
 induction d with
 | zero =>
  intro i hd hi
  refine ⟨1, fun k hk => ?_⟩
  obtain ⟨k, rfl⟩ : ∃ m, k = m + 1 := ⟨k - 1, by omega⟩
  simp only [copseref06_at.l0]
  rw [if_neg (by omega), List.drop_of_length_le (by omega)]; rfl
 | succ d ih =>
  intro i hd hi
  have hlt : i < l.length := by omega
  obtain ⟨K, hK⟩ := ih (i + 1) (by omega) (by omega)
  dsimp only at hK
  refine ⟨K + 1, fun k hk => ?_⟩
  obtain ⟨k, rfl⟩ : ∃ m, k = m + 1 := ⟨k - 1, by omega⟩
  simp only [copseref06_at.l0]
  rw [if_pos (by omega), if_pos (by omega), rdF06_drop l i hlt, atK_cons]
  by_cases h : (rd_T43 l (i : Int)).f0 = p
  ·rw [if_pos (by rw [h]), if_pos h]
   rfl
  rw [if_neg (fun e => h (bs_inj (by rw [← toList_bs, ← toList_bs]; exact e))), if_neg h, wrap_succ (n := l.length) (by omega) (by omega), hK k (by omega)]
theorem refat06 (l : List S43) (p : ByteArray) (hl : l.length ≤ 1073741824) : Ev (fun k => copseref06_at.f k l p) (foundF (atK S43.f0 l p)) := refat06_run l p hl _ 0 rfl (by omega)
def foundC (o : Option S45) : ByteArray × Bool × Bool × ByteArray × ByteArray × Int × Int × ByteArray × ByteArray × Int × Int × Bool := match o with
 | some c => (c.f0, c.f1, c.f2, c.f3.f0, c.f3.f1, c.f3.f2, c.f3.f3, c.f4.f0, c.f4.f1, c.f4.f2, c.f4.f3, true)
 | none => (⟨#[]⟩, false, false, ⟨#[]⟩, ⟨#[]⟩, 0, 0, ⟨#[]⟩, ⟨#[]⟩, 0, 0, false)
theorem refchange06_run (l : List S45) (p : ByteArray) (hl : l.length ≤ 1073741824) (d : Nat) : ∀ i, l.length - i = d → i ≤ l.length → Ev (fun k => copseref06_change.l0 k l p (i : Int)) (foundC (atK S45.f0 (l.drop i) p)) := by
 induction d with
 | zero =>
  intro i hd hi
  refine ⟨1, fun k hk => ?_⟩
  obtain ⟨k, rfl⟩ : ∃ m, k = m + 1 := ⟨k - 1, by omega⟩
  simp only [copseref06_change.l0]
  rw [if_neg (by omega), List.drop_of_length_le (by omega)]; rfl
 | succ d ih =>
  intro i hd hi
  have hlt : i < l.length := by omega
  obtain ⟨K, hK⟩ := ih (i + 1) (by omega) (by omega)
  dsimp only at hK
  refine ⟨K + 1, fun k hk => ?_⟩
  obtain ⟨k, rfl⟩ : ∃ m, k = m + 1 := ⟨k - 1, by omega⟩
  simp only [copseref06_change.l0]
  rw [if_pos (by omega), if_pos (by omega), rdC_drop l i hlt, atK_cons]
  by_cases h : (rd_T45 l (i : Int)).f0 = p
  ·rw [if_pos (by rw [h]), if_pos h]
   rfl
  rw [if_neg (fun e => h (bs_inj (by rw [← toList_bs, ← toList_bs]; exact e))), if_neg h, wrap_succ (n := l.length) (by omega) (by omega), hK k (by omega)]
theorem refchange06 (l : List S45) (p : ByteArray) (hl : l.length ≤ 1073741824) : Ev (fun k => copseref06_change.f k l p) (foundC (atK S45.f0 l p)) := refchange06_run l p hl _ 0 rfl (by omega)
theorem refpaths06_run (x : List S45) (hx : x.length ≤ 1073741824) (d : Nat) : ∀ (i : Nat) (acc : List ByteArray), x.length - i = d → i ≤ x.length → acc.length = i → Ev (fun k => copseref06_Paths.l0 k x acc (i : Int)) (acc ++ (x.drop i).map S45.f0) := by
 induction d with
 | zero =>
  intro i acc hd hi ha
  refine ⟨1, fun k hk => ?_⟩
  obtain ⟨k, rfl⟩ : ∃ m, k = m + 1 := ⟨k - 1, by omega⟩
  simp only [copseref06_Paths.l0]
  rw [if_neg (by omega), List.drop_of_length_le (by omega)]
  simp
 | succ d ih =>
  intro i acc hd hi ha
  have hlt : i < x.length := by omega
  obtain ⟨K, hK⟩ := ih (i + 1) (acc ++ [(rd_T45 x (i : Int)).f0]) (by omega) (by omega) (by simp [ha])
  dsimp only at hK
  refine ⟨K + 1, fun k hk => ?_⟩
  obtain ⟨k, rfl⟩ : ∃ m, k = m + 1 := ⟨k - 1, by omega⟩
  simp only [copseref06_Paths.l0]
  rw [if_pos (by omega), if_pos (by omega), if_pos (by omega), wrap_succ (n := x.length) (by omega) (by omega), hK k (by omega), rdC_drop x i hlt]
  simp
theorem refpaths06 (x : List S45) (hx : x.length ≤ 1073741824) : Ev (fun k => copseref06_Paths.f k x) (x.map S45.f0) :=
 Ev.val (refpaths06_run x hx _ 0 [] rfl (by omega) rfl) (by simp)
theorem refall06_l1 (b : List S43) (hb : b.length ≤ 1073741824) (r : List ByteArray) (acc0 : List ByteArray) (ha0 : acc0.length ≤ 1073741824) (hr : Ev (fun k => copseref03_Norm.f k (acc0 ++ b.map S43.f0)) r) (d : Nat) : ∀ (i : Nat) (acc : List ByteArray), b.length - i = d → i ≤ b.length → acc = acc0 ++ (b.take i).map S43.f0 → Ev (fun k => copseref06_all.l1 k b acc (i : Int)) r := by
 induction d with
 | zero =>
  intro i acc hd hi ha
  have hib : i = b.length := by omega
  subst hib
  rw [List.take_length] at ha
  refine Ev.step (f := fun k => (copseref03_Norm.f k acc).bind fun t => some t) (fun k => ?_) (Ev.bind (by rw [ha]; exact hr) (ev_pure fun _ => rfl))
  simp only [copseref06_all.l1]
  rw [if_neg (by omega)]
 | succ d ih =>
  intro i acc hd hi ha
  have hlt : i < b.length := by omega
  have hal : acc.length = acc0.length + i := by rw [ha]; simp; omega
  refine Ev.step (f := fun k => copseref06_all.l1 k b (acc ++ [(rd_T43 b (i : Int)).f0]) ((i + 1 : Nat) : Int)) (fun k => ?_) (ih (i + 1) _ (by omega) (by omega) ?_)
  ·simp only [copseref06_all.l1]
   rw [if_pos (by omega), if_pos (by omega), if_pos (by omega), wrap_succ (n := b.length) (by omega) (by omega)]
  rw [ha, List.take_succ_eq_append_getElem hlt, List.map_append, List.append_assoc]
  congr 2
  unfold rd_T43
  rw [Int.toNat_natCast, List.getD_eq_getElem?_getD, List.getElem?_eq_getElem hlt]
  rfl
theorem refall06_l0 (a b : List S43) (la : a.length ≤ 1073741824) (hb : b.length ≤ 1073741824) (r : List ByteArray) (hr : Ev (fun k => copseref03_Norm.f k (a.map S43.f0 ++ b.map S43.f0)) r) (d : Nat) : ∀ (i : Nat) (acc : List ByteArray), a.length - i = d → i ≤ a.length → acc = (a.take i).map S43.f0 → Ev (fun k => copseref06_all.l0 k a b acc (i : Int)) r := by
 induction d with
 | zero =>
  intro i acc hd hi ha
  have hib : i = a.length := by omega
  subst hib
  rw [List.take_length] at ha
  refine Ev.step (f := fun k => copseref06_all.l1 k b acc ((0 : Nat) : Int)) (fun k => ?_) (refall06_l1 b hb r acc (by rw [ha, List.length_map]; exact la) (by rw [ha]; exact hr) b.length 0 acc (by omega) (by omega) (by simp))
  simp only [copseref06_all.l0]
  rw [if_neg (by omega)]
  rfl
 | succ d ih =>
  intro i acc hd hi ha
  have hlt : i < a.length := by omega
  have hal : acc.length = i := by rw [ha]; simp; omega
  refine Ev.step (f := fun k => copseref06_all.l0 k a b (acc ++ [(rd_T43 a (i : Int)).f0]) ((i + 1 : Nat) : Int)) (fun k => ?_) (ih (i + 1) _ (by omega) (by omega) ?_)
  ·simp only [copseref06_all.l0]
   rw [if_pos (by omega), if_pos (by omega), if_pos (by omega), wrap_succ (n := a.length) (by omega) (by omega)]
  rw [ha, List.take_succ_eq_append_getElem hlt, List.map_append]
  congr 1
  unfold rd_T43
  rw [Int.toNat_natCast, List.getD_eq_getElem?_getD, List.getElem?_eq_getElem hlt]
  rfl
theorem refall06 (a b : List S43) (la : a.length ≤ 1073741824) (lb : b.length ≤ 1073741824) (fa : FitsF a) (fb : FitsF b) : Ev (fun k => copseref06_all.f k a b) (norm (a.map S43.f0 ++ b.map S43.f0)) := by
 refine refall06_l0 a b la lb _ (ref_norm _ (by rw [List.length_append, List.length_map, List.length_map]; omega) (fun p hp => ?_)) a.length 0 [] (by omega) (by omega) (by simp)
 rcases List.mem_append.1 hp with hp | hp
 ·obtain ⟨x, hx, rfl⟩ := List.mem_map.1 hp
  have := (fa x hx).1
  omega
 obtain ⟨x, hx, rfl⟩ := List.mem_map.1 hp
 have := (fb x hx).1
 omega
end Go.Proofs.YtehfogjibhnabaaGreatDoor.PAll
