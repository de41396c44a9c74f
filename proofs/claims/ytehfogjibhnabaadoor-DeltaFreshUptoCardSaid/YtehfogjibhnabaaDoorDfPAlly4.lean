/- What functions of the program compute, each with its walk: a contract for every world and every argument of the kind told. -/
import Derived.Test.YtehfogjibhnabaaDoorDfPAllx0
import Derived.Test.YtehfogjibhnabaaDoorDfHandA
import Derived.Test.YtehfogjibhnabaaDoorDfDelB
import Derived.Test.YtehfogjibhnabaaDoorDfPure5
import Derived.Test.YtehfogjibhnabaaDoorDfPAlly3
import Derived.Test.YtehfogjibhnabaaDoorDfPAlly1
import Derived.Test.YtehfogjibhnabaaDoorDfRowKit
import Derived.Test.YtehfogjibhnabaaDoorDfPAlly9
import Derived.Test.YtehfogjibhnabaaDoorDfPAlly6
namespace Go.Proofs.YtehfogjibhnabaaDoor.PAll
open Go.RowKit Go.Proofs.YtehfogjibhnabaaDoorW.PrintWords Go.Proofs.YtehfogjibhnabaaDoorW.PrintLast Go.Proofs.YtehfogjibhnabaaDoorW.PrintMore
attribute [local go_sem] max2_int min2_int max_two min_two max_three min_three max_four min_four
set_option linter.unusedVariables false
set_option linter.unusedSimpArgs false
attribute [local go_sem high] eqA55 eqA61
def copselaw06_changes.l0 : Nat → List (S61) → List (S61) → Int → Option (Bool)
 | 0, _, _, _ => none
 | k + 1, x0, x1, x5 => if x5 < (x0.length : Int) then (if 0 ≤ x5 then (if x5 < (x1.length : Int) then (if (!((((rd_T61 x0 x5).f0).toList) == (((rd_T61 x1 x5).f0).toList)) || (!(((rd_T61 x0 x5).f1) == ((rd_T61 x1 x5).f1)) || (!(((rd_T61 x0 x5).f2) == ((rd_T61 x1 x5).f2)) || ((!((((rd_T61 x0 x5).f3.f0).toList) == (((rd_T61 x1 x5).f3.f0).toList)) || (!((((rd_T61 x0 x5).f3.f1).toList) == (((rd_T61 x1 x5).f3.f1).toList)) || (!(((rd_T61 x0 x5).f3.f2) == ((rd_T61 x1 x5).f3.f2)) || (!(((rd_T61 x0 x5).f3.f3) == ((rd_T61 x1 x5).f3.f3)))))) || ((!((((rd_T61 x0 x5).f4.f0).toList) == (((rd_T61 x1 x5).f4.f0).toList)) || (!((((rd_T61 x0 x5).f4.f1).toList) == (((rd_T61 x1 x5).f4.f1).toList)) || (!(((rd_T61 x0 x5).f4.f2) == ((rd_T61 x1 x5).f4.f2)) || (!(((rd_T61 x0 x5).f4.f3) == ((rd_T61 x1 x5).f4.f3))))))))))) = true then (some false) else (copselaw06_changes.l0 k x0 x1 (wrap64 (x5 + 1)))) else (none)) else (none)) else (some true)
def copselaw06_changes.f (k : Nat) (l0 : List (S61)) (l1 : List (S61)) : Option (Bool) := if (l0.length : Int) = (l1.length : Int) then (copselaw06_changes.l0 k l0 l1 0) else (some false)
set_option maxHeartbeats 8000000 in
set_option maxRecDepth 100000 in
theorem copselaw06_changes.calls (k : Nat) (A0 : Option Addr) (c0 : Nat) (l0 : List (S61)) (A1 : Option Addr) (c1 : Nat) (l1 : List (S61)) (r : Bool) (w : World) (hr0 : Kd.C k61 w A0 l0.length l0) (hc0 : l0.length ≤ c0) (hr1 : Kd.C k61 w A1 l1.length l1) (hc1 : l1.length ≤ c1) (h : copselaw06_changes.f k l0 l1 = some r) :
  Calls Tryd.prog 29 #[.slice A0 l0.length c0, .slice A1 l1.length c1] w fun e w' => e = .returned (.bool r) ∧ Drawn0 w w' := by
 have hu61 := Tryd.underlying61
 have HR0 := Aside0.mk hr0
 have HC0 := Aside0.mk hc0
 clear hr0 hc0
 have HR1 := Aside0.mk hr1
 have HC1 := Aside0.mk hc1
 clear hr1 hc1
 have H : (if (l0.length : Int) = (l1.length : Int) then (copselaw06_changes.l0 k l0 l1 0) else (some false)) = some r := h
 clear h
 by_cases c3 : (l0.length : Int) = (l1.length : Int)
 ·rw [if_pos c3] at H
  have c3b0 : ((l0.length : Int) == (l1.length : Int)) = true := beq_iff_eq.mpr c3
  have c3b1 : ((l0.length : Int) != (l1.length : Int)) = false := bne_eq_false_iff_eq.mpr c3
  have c3b2 : (l0.length == l1.length) = true := by first | simpa using c3 | (simp at c3 ⊢; omega)
  clear c3
  have H' := Aside0.mk H
  clear H
  go_enter Tryd.func29, Tryd.ntmps29
  go_wp2
  repeat (go_quiet (fail); try go_wp2)
  go_loopg [5] k (fun kq v5 w' => ∃ (x5_1 : Int), v5 = .int .i64 x5_1 ∧ Aside0 (copselaw06_changes.l0 kq l0 l1 x5_1 = some r) ∧ Aside0 (kq ≤ k) ∧ Drawn0 w w')
  case atStart => exact ⟨(0), (by first | rfl | (simp; done) | (simp [*]; done)), H', ⟨Nat.le_refl _⟩, by repeat (first | exact Drawn0.refl _ | apply Drawn0.step)⟩
  case round =>
   clear H'
   try clear c1
   try clear c2
   try clear p2
   try clear c3
   try clear c3b0
   try clear c3b1
   try clear c3b2
   obtain ⟨x5_1, rfl, HA, HK1, ⟨m1, rfl⟩⟩ := hrel
   cases gk with
   | zero => exact absurd HA.out (by simp [copselaw06_changes.l0])
   | succ k1 =>
    have H := HA.out
    clear HA
    simp only [copselaw06_changes.l0] at H
    by_cases c4 : x5_1 < (l0.length : Int)
    ·rw [if_pos c4] at H
     have c4b0 := decide_eq_true c4
     clear c4
     by_cases c5 : 0 ≤ x5_1
     ·rw [if_pos c5] at H
      have c5b0 := decide_eq_true c5
      clear c5
      by_cases c6 : x5_1 < (l1.length : Int)
      ·rw [if_pos c6] at H
       have c6b0 := decide_eq_true c6
       clear c6
       by_cases c7 : (!((((rd_T61 l0 x5_1).f0).toList) == (((rd_T61 l1 x5_1).f0).toList)) || (!(((rd_T61 l0 x5_1).f1) == ((rd_T61 l1 x5_1).f1)) || (!(((rd_T61 l0 x5_1).f2) == ((rd_T61 l1 x5_1).f2)) || ((!((((rd_T61 l0 x5_1).f3.f0).toList) == (((rd_T61 l1 x5_1).f3.f0).toList)) || (!((((rd_T61 l0 x5_1).f3.f1).toList) == (((rd_T61 l1 x5_1).f3.f1).toList)) || (!(((rd_T61 l0 x5_1).f3.f2) == ((rd_T61 l1 x5_1).f3.f2)) || (!(((rd_T61 l0 x5_1).f3.f3) == ((rd_T61 l1 x5_1).f3.f3)))))) || ((!((((rd_T61 l0 x5_1).f4.f0).toList) == (((rd_T61 l1 x5_1).f4.f0).toList)) || (!((((rd_T61 l0 x5_1).f4.f1).toList) == (((rd_T61 l1 x5_1).f4.f1).toList)) || (!(((rd_T61 l0 x5_1).f4.f2) == ((rd_T61 l1 x5_1).f4.f2)) || (!(((rd_T61 l0 x5_1).f4.f3) == ((rd_T61 l1 x5_1).f4.f3))))))))))) = true
       ·rw [if_pos c7] at H
        have c7b0 : (!((((rd_T61 l0 x5_1).f0).toList) == (((rd_T61 l1 x5_1).f0).toList)) || (!(((rd_T61 l0 x5_1).f1) == ((rd_T61 l1 x5_1).f1)) || (!(((rd_T61 l0 x5_1).f2) == ((rd_T61 l1 x5_1).f2)) || ((!((((rd_T61 l0 x5_1).f3.f0).toList) == (((rd_T61 l1 x5_1).f3.f0).toList)) || (!((((rd_T61 l0 x5_1).f3.f1).toList) == (((rd_T61 l1 x5_1).f3.f1).toList)) || (!(((rd_T61 l0 x5_1).f3.f2) == ((rd_T61 l1 x5_1).f3.f2)) || (!(((rd_T61 l0 x5_1).f3.f3) == ((rd_T61 l1 x5_1).f3.f3)))))) || ((!((((rd_T61 l0 x5_1).f4.f0).toList) == (((rd_T61 l1 x5_1).f4.f0).toList)) || (!((((rd_T61 l0 x5_1).f4.f1).toList) == (((rd_T61 l1 x5_1).f4.f1).toList)) || (!(((rd_T61 l0 x5_1).f4.f2) == ((rd_T61 l1 x5_1).f4.f2)) || (!(((rd_T61 l0 x5_1).f4.f3) == ((rd_T61 l1 x5_1).f4.f3))))))))))) = true := c7
        clear c7
        obtain rfl := Option.some.inj H
        have p289 : 0 ≤ (x5_1 : Int) := of_decide_eq_true (by first | (with_reducible assumption) | assumption)
        have q289 : x5_1 < (l0.length : Int) := of_decide_eq_true (by first | (with_reducible assumption) | assumption)
        obtain ⟨ad289, e289, hx289_0, hx289_1, hx289_2, hx289_3, hx289_4, hx289_5, hx289_6, hx289_7, hx289_8, hx289_9, hx289_10⟩ := at_T61 HR0.out x5_1 p289 q289
        cases e289
        replace p289 := eq_true p289
        replace q289 := eq_true q289
        have p290 : 0 ≤ (x5_1 : Int) := of_decide_eq_true (by first | (with_reducible assumption) | assumption)
        have q290 : x5_1 < (l1.length : Int) := of_decide_eq_true (by first | (with_reducible assumption) | assumption)
        obtain ⟨ad290, e290, hx290_0, hx290_1, hx290_2, hx290_3, hx290_4, hx290_5, hx290_6, hx290_7, hx290_8, hx290_9, hx290_10⟩ := at_T61 HR1.out x5_1 p290 q290
        cases e290
        replace p290 := eq_true p290
        replace q290 := eq_true q290
        go_wp2
        repeat (go_quiet (fail); try go_wp2)
        go_ret
        exact ⟨by first | rfl | (simp; done) | (simp [*]; done), by repeat (first | exact Drawn0.refl _ | apply Drawn0.step)⟩
       ·rw [if_neg c7] at H
        have c7b0 : (!((((rd_T61 l0 x5_1).f0).toList) == (((rd_T61 l1 x5_1).f0).toList)) || (!(((rd_T61 l0 x5_1).f1) == ((rd_T61 l1 x5_1).f1)) || (!(((rd_T61 l0 x5_1).f2) == ((rd_T61 l1 x5_1).f2)) || ((!((((rd_T61 l0 x5_1).f3.f0).toList) == (((rd_T61 l1 x5_1).f3.f0).toList)) || (!((((rd_T61 l0 x5_1).f3.f1).toList) == (((rd_T61 l1 x5_1).f3.f1).toList)) || (!(((rd_T61 l0 x5_1).f3.f2) == ((rd_T61 l1 x5_1).f3.f2)) || (!(((rd_T61 l0 x5_1).f3.f3) == ((rd_T61 l1 x5_1).f3.f3)))))) || ((!((((rd_T61 l0 x5_1).f4.f0).toList) == (((rd_T61 l1 x5_1).f4.f0).toList)) || (!((((rd_T61 l0 x5_1).f4.f1).toList) == (((rd_T61 l1 x5_1).f4.f1).toList)) || (!(((rd_T61 l0 x5_1).f4.f2) == ((rd_T61 l1 x5_1).f4.f2)) || (!(((rd_T61 l0 x5_1).f4.f3) == ((rd_T61 l1 x5_1).f4.f3))))))))))) = false := by simpa using c7
        clear c7
        have H' := Aside0.mk H
        clear H
        have p289 : 0 ≤ (x5_1 : Int) := of_decide_eq_true (by first | (with_reducible assumption) | assumption)
        have q289 : x5_1 < (l0.length : Int) := of_decide_eq_true (by first | (with_reducible assumption) | assumption)
        obtain ⟨ad289, e289, hx289_0, hx289_1, hx289_2, hx289_3, hx289_4, hx289_5, hx289_6, hx289_7, hx289_8, hx289_9, hx289_10⟩ := at_T61 HR0.out x5_1 p289 q289
        cases e289
        replace p289 := eq_true p289
        replace q289 := eq_true q289
        have p290 : 0 ≤ (x5_1 : Int) := of_decide_eq_true (by first | (with_reducible assumption) | assumption)
        have q290 : x5_1 < (l1.length : Int) := of_decide_eq_true (by first | (with_reducible assumption) | assumption)
        obtain ⟨ad290, e290, hx290_0, hx290_1, hx290_2, hx290_3, hx290_4, hx290_5, hx290_6, hx290_7, hx290_8, hx290_9, hx290_10⟩ := at_T61 HR1.out x5_1 p290 q290
        cases e290
        replace p290 := eq_true p290
        replace q290 := eq_true q290
        go_wp2
        repeat (go_quiet (fail); try go_wp2)
        go_roundg k1
        case measure => have := HK1.out; omega
        case rel => exact ⟨(wrap64 (x5_1 + 1)), (by first | rfl | (simp; done) | (simp [*]; done)), H', ⟨by have := HK1.out; omega⟩, by repeat (first | exact Drawn0.refl _ | apply Drawn0.step)⟩
      ·rw [if_neg c6] at H
       exact absurd H (by simp)
     ·rw [if_neg c5] at H
      exact absurd H (by simp)
    ·rw [if_neg c4] at H
     have c4b0 := decide_eq_false c4
     clear c4
     obtain rfl := Option.some.inj H
     go_wp2
     repeat (go_quiet (fail); try go_wp2)
     go_ret
     exact ⟨by first | rfl | (simp; done) | (simp [*]; done), by repeat (first | exact Drawn0.refl _ | apply Drawn0.step)⟩
 ·rw [if_neg c3] at H
  have c3b0 : ((l0.length : Int) == (l1.length : Int)) = false := beq_eq_false_iff_ne.mpr c3
  have c3b1 : ((l0.length : Int) != (l1.length : Int)) = true := bne_iff_ne.mpr c3
  have c3b2 : (l0.length == l1.length) = false := by first | simpa using c3 | (simp at c3 ⊢; omega)
  obtain rfl := Option.some.inj H
  go_enter Tryd.func29, Tryd.ntmps29
  go_wp2
  repeat (go_quiet (fail); try go_wp2)
  go_ret
  exact ⟨by first | rfl | (simp; done) | (simp [*]; done), by repeat (first | exact Drawn0.refl _ | apply Drawn0.step)⟩
end Go.Proofs.YtehfogjibhnabaaDoor.PAll
namespace Go.Proofs.YtehfogjibhnabaaDoor.PAll
open Go.RowKit Go.Proofs.YtehfogjibhnabaaDoorW.PrintWords Go.Proofs.YtehfogjibhnabaaDoorW.PrintLast Go.Proofs.YtehfogjibhnabaaDoorW.PrintMore
open Go.Proofs.YtehfogjibhnabaaDoor.Sp
theorem paths06_run (x : List S61) (hx : x.length ≤ 1073741824) (d : Nat) : ∀ (i : Nat) (acc : List ByteArray), x.length - i = d → i ≤ x.length → acc.length = i → Ev (fun k => delta_Paths.l0 k acc x (x.length : Int) (i : Int)) (acc ++ (x.drop i).map S61.f0) := by
 induction d with
 | zero =>
  intro i acc hd hi ha
  refine ⟨1, fun k hk => ?_⟩
  obtain ⟨k, rfl⟩ : ∃ m, k = m + 1 := ⟨k - 1, by omega⟩
  simp only [delta_Paths.l0]
  rw [if_neg (by omega), List.drop_of_length_le (by omega)]
  simp
 | succ d ih =>
  intro i acc hd hi ha
  have hlt : i < x.length := by omega
  obtain ⟨K, hK⟩ := ih (i + 1) (acc ++ [(rd_T61 x (i : Int)).f0]) (by omega) (by omega) (by simp [ha])
  dsimp only at hK
  refine ⟨K + 1, fun k hk => ?_⟩
  obtain ⟨k, rfl⟩ : ∃ m, k = m + 1 := ⟨k - 1, by omega⟩
  simp only [delta_Paths.l0]
  rw [if_pos (by omega), if_pos (by omega), if_pos (by omega), if_pos (by omega), wrap_succ (n := x.length) (by omega) (by omega), hK k (by omega), rdC_drop x i hlt]
  simp
theorem paths06 (x : List S61) (hx : x.length ≤ 1073741824) : Ev (fun k => delta_Paths.f k x) (x.map S61.f0) :=
 Ev.val (paths06_run x hx _ 0 [] rfl (by omega) rfl) (by simp)
def foundF (o : Option S55) : ByteArray × ByteArray × Int × Int × Bool := match o with
 | some x => (x.f0, x.f1, x.f2, x.f3, true)
 | none => (⟨#[]⟩, ⟨#[]⟩, 0, 0, false)
theorem rdF06_drop (l : List S55) (i : Nat) (h : i < l.length) : l.drop i = rd_T55 l (i : Int) :: l.drop (i + 1) := by
 unfold rd_T55
 rw [Int.toNat_natCast, List.getD_eq_getElem?_getD, List.getElem?_eq_getElem h]
 exact List.drop_eq_getElem_cons h
theorem find06_run (l : List S55) (p : ByteArray) (hl : l.length ≤ 1073741824) (d : Nat) : ∀ i, l.length - i = d → i ≤ l.length → Ev (fun k => snap_Find.l0 k p l (l.length : Int) (i : Int)) (foundF (atK S55.f0 (l.drop i) p)) := by
 induction d with
 | zero =>
  intro i hd hi
  refine ⟨1, fun k hk => ?_⟩
  obtain ⟨k, rfl⟩ : ∃ m, k = m + 1 := ⟨k - 1, by omega⟩
  simp only [snap_Find.l0]
  rw [if_neg (by omega), List.drop_of_length_le (by omega)]; rfl
 | succ d ih =>
  intro i hd hi
  have hlt : i < l.length := by omega
  obtain ⟨K, hK⟩ := ih (i + 1) (by omega) (by omega)
  dsimp only at hK
  refine ⟨K + 1, fun k hk => ?_⟩
  obtain ⟨k, rfl⟩ : ∃ m, k = m + 1 := ⟨k - 1, by omega⟩
  simp only [snap_Find.l0]
  rw [if_pos (by omega), if_pos (by omega), if_pos (by omega), rdF06_drop l i hlt, atK_cons]
  by_cases h : (rd_T55 l (i : Int)).f0 = p
  ·rw [if_pos (by rw [h]), if_pos h]
   rfl
  ·rw [if_neg (fun e => h (bs_inj (by rw [← toList_bs, ← toList_bs]; exact e))), if_neg h, wrap_succ (n := l.length) (by omega) (by omega), hK k (by omega)]
theorem find06 (l : List S55) (p : ByteArray) (hl : l.length ≤ 1073741824) : Ev (fun k => snap_Find.f k l p) (foundF (atK S55.f0 l p)) := find06_run l p hl _ 0 rfl (by omega)
theorem neF (x y : S55) : (!(x.f0.toList == y.f0.toList) || (!(x.f1.toList == y.f1.toList) || (!(x.f2 == y.f2) || (!(x.f3 == y.f3))))) = !eqF x y := by
 unfold eqF
 simp only [Bool.not_and]
theorem files06_run (a b : List S55) (ha : a.length ≤ 1073741824) (hab : a.length = b.length) (d : Nat) : ∀ i, a.length - i = d → i ≤ a.length → ∃ r, Ev (fun k => copselaw06_files.l0 k a b (i : Int)) r ∧ (r = true ↔ a.drop i = b.drop i) := by
 induction d with
 | zero =>
  intro i hd hi
  refine ⟨true, ⟨1, fun k hk => ?_⟩, by rw [List.drop_of_length_le (by omega), List.drop_of_length_le (by omega)]; simp⟩
  obtain ⟨k, rfl⟩ : ∃ m, k = m + 1 := ⟨k - 1, by omega⟩
  simp only [copselaw06_files.l0]
  rw [if_neg (by omega)]
 | succ d ih =>
  intro i hd hi
  have hlt : i < a.length := by omega
  obtain ⟨r, ⟨K, hK⟩, hr⟩ := ih (i + 1) (by omega) (by omega)
  dsimp only at hK
  rw [rdF06_drop a i hlt, rdF06_drop b i (by omega)]
  by_cases h : rd_T55 a (i : Int) = rd_T55 b (i : Int)
  ·refine ⟨r, ⟨K + 1, fun k hk => ?_⟩, by rw [hr, h]; simp⟩
   obtain ⟨k, rfl⟩ : ∃ m, k = m + 1 := ⟨k - 1, by omega⟩
   simp only [copselaw06_files.l0]
   rw [if_pos (by omega), if_pos (by omega), if_pos (by omega), neF, h, eqF_self, if_neg (by simp), wrap_succ (n := a.length) (by omega) (by omega)]
   exact hK k (by omega)
  ·refine ⟨false, ⟨1, fun k hk => ?_⟩, by simp [h]⟩
   obtain ⟨k, rfl⟩ : ∃ m, k = m + 1 := ⟨k - 1, by omega⟩
   simp only [copselaw06_files.l0]
   rw [if_pos (by omega), if_pos (by omega), if_pos (by omega), neF, eqF_ne h, if_pos (show (!false) = true from rfl)]
theorem files06 (a b : List S55) (ha : a.length ≤ 1073741824) : ∃ r, Ev (fun k => copselaw06_files.f k a b) r ∧ (r = true ↔ a = b) := by
 by_cases h : a.length = b.length
 ·obtain ⟨r, h1, h2⟩ := files06_run a b ha h a.length 0 (by omega) (by omega)
  refine ⟨r, Ev.congr (fun k => ?_) h1, by simpa using h2⟩
  unfold copselaw06_files.f
  rw [if_pos (by omega)]; rfl
 ·refine ⟨false, Ev.congr (fun k => ?_) (ev_some false), by simp; intro e; exact h (by rw [e])⟩
  unfold copselaw06_files.f
  rw [if_neg (by omega)]
theorem files06_same (a : List S55) (ha : a.length ≤ 1073741824) : Ev (fun k => copselaw06_files.f k a a) true := by
 obtain ⟨r, h1, h2⟩ := files06 a a ha
 rw [h2.2 rfl] at h1
 exact h1
theorem changes06_run (a : List S61) (ha : a.length ≤ 1073741824) (d : Nat) : ∀ i, a.length - i = d → i ≤ a.length → Ev (fun k => copselaw06_changes.l0 k a a (i : Int)) true := by
 induction d with
 | zero =>
  intro i hd hi
  refine ⟨1, fun k hk => ?_⟩
  obtain ⟨k, rfl⟩ : ∃ m, k = m + 1 := ⟨k - 1, by omega⟩
  simp only [copselaw06_changes.l0]
  rw [if_neg (by omega)]
 | succ d ih =>
  intro i hd hi
  obtain ⟨K, hK⟩ := ih (i + 1) (by omega) (by omega)
  dsimp only at hK
  refine ⟨K + 1, fun k hk => ?_⟩
  obtain ⟨k, rfl⟩ : ∃ m, k = m + 1 := ⟨k - 1, by omega⟩
  simp only [copselaw06_changes.l0]
  rw [if_pos (by omega), if_pos (by omega), if_pos (by omega), if_neg (by simp), wrap_succ (n := a.length) (by omega) (by omega)]
  exact hK k (by omega)
theorem changes06_same (a : List S61) (ha : a.length ≤ 1073741824) : Ev (fun k => copselaw06_changes.f k a a) true := by
 refine Ev.congr (fun k => ?_) (changes06_run a ha a.length 0 (by omega) (by omega))
 unfold copselaw06_changes.f
 rw [if_pos rfl]; rfl
def diffD (a b : List S55) : List S61 := joinK S61.f0 idleC outerC (a.length + b.length) (a.map goneC) (b.map comeC)
theorem z_fits : z55.f0.size ≤ 1073741824 ∧ z55.f1.size ≤ 1073741824 := by decide
theorem fits_gone {a : List S55} (h : FitsF a) : FitsD (a.map goneC) := fun c hc => by
 obtain ⟨f, hf, rfl⟩ := List.mem_map.1 hc
 exact ⟨(h f hf).1, ⟨(h f hf).1, (h f hf).2⟩, z_fits.1, z_fits.2⟩
theorem fits_come {a : List S55} (h : FitsF a) : FitsD (a.map comeC) := fun c hc => by
 obtain ⟨f, hf, rfl⟩ := List.mem_map.1 hc
 exact ⟨(h f hf).1, z_fits, (h f hf).1, (h f hf).2⟩
theorem joined06 (k : Nat) (d e : List S61) (q : Bool) (hd : d.length ≤ 4194304) (he : e.length ≤ 4194304) (fd : FitsD d) (fe : FitsD e) : delta_joined.f k d e q = some (joinK S61.f0 idleC outerC (d.length + e.length) d e) := by
 unfold delta_joined.f
 rw [if_pos ⟨⟨hd, he⟩, fd, fe⟩]
theorem diff06_l1 (a : List S61) (b : List S55) (ha : a.length ≤ 4194304) (fa : FitsD a) (hb : b.length ≤ 4194304) (fb : FitsF b) (d : Nat) : ∀ (i : Nat) (acc : List S61), b.length - i = d → i ≤ b.length → acc = (b.take i).map comeC → Ev (fun k => delta_Diff.l1 k a acc b (b.length : Int) (i : Int)) (joinK S61.f0 idleC outerC (a.length + b.length) a (b.map comeC)) := by
 induction d with
 | zero =>
  intro i acc hd hi hacc
  refine ⟨1, fun k hk => ?_⟩
  obtain ⟨k, rfl⟩ : ∃ m, k = m + 1 := ⟨k - 1, by omega⟩
  simp only [delta_Diff.l1]
  rw [if_neg (by omega), hacc, List.take_of_length_le (by omega), joined06 k a _ true ha (by simpa using hb) fa (fits_come fb), Option.bind_some, List.length_map]
 | succ d ih =>
  intro i acc hd hi hacc
  have hlt : i < b.length := by omega
  obtain ⟨K, hK⟩ := ih (i + 1) (acc ++ [comeC (rd_T55 b (i : Int))]) (by omega) (by omega) (by
   rw [hacc, List.take_succ_eq_append_getElem hlt, List.map_append]
   unfold rd_T55
   rw [Int.toNat_natCast, List.getD_eq_getElem?_getD, List.getElem?_eq_getElem hlt]
   rfl)
  dsimp only at hK
  refine ⟨K + 1, fun k hk => ?_⟩
  obtain ⟨k, rfl⟩ : ∃ m, k = m + 1 := ⟨k - 1, by omega⟩
  simp only [delta_Diff.l1]
  rw [if_pos (by omega), if_pos (by omega), if_pos (by omega), if_pos (by rw [hacc]; simp; omega), wrap_succ (n := b.length) (by omega) (by omega)]
  exact hK k (by omega)
theorem diff06_l0 (a b : List S55) (ha : a.length ≤ 4194304) (fa : FitsF a) (hb : b.length ≤ 4194304) (fb : FitsF b) (d : Nat) : ∀ (i : Nat) (acc : List S61), a.length - i = d → i ≤ a.length → acc = (a.take i).map goneC → Ev (fun k => delta_Diff.l0 k b acc a (a.length : Int) (i : Int)) (diffD a b) := by
 induction d with
 | zero =>
  intro i acc hd hi hacc
  refine Ev.step (f := fun k => delta_Diff.l1 k acc [] b (b.length : Int) ((0 : Nat) : Int)) (fun k => ?_) ?_
  ·simp only [delta_Diff.l0]
   rw [if_neg (by omega)]
   rfl
  ·have e : acc = a.map goneC := by rw [hacc, List.take_of_length_le (by omega)]
   rw [e]
   refine Ev.val (diff06_l1 (a.map goneC) b (by simpa using ha) (fits_gone fa) hb fb b.length 0 [] (by omega) (by omega) rfl) ?_
   unfold diffD
   rw [List.length_map]
 | succ d ih =>
  intro i acc hd hi hacc
  have hlt : i < a.length := by omega
  obtain ⟨K, hK⟩ := ih (i + 1) (acc ++ [goneC (rd_T55 a (i : Int))]) (by omega) (by omega) (by
   rw [hacc, List.take_succ_eq_append_getElem hlt, List.map_append]
   unfold rd_T55
   rw [Int.toNat_natCast, List.getD_eq_getElem?_getD, List.getElem?_eq_getElem hlt]
   rfl)
  dsimp only at hK
  refine ⟨K + 1, fun k hk => ?_⟩
  obtain ⟨k, rfl⟩ : ∃ m, k = m + 1 := ⟨k - 1, by omega⟩
  simp only [delta_Diff.l0]
  rw [if_pos (by omega), if_pos (by omega), if_pos (by omega), if_pos (by rw [hacc]; simp; omega), wrap_succ (n := a.length) (by omega) (by omega)]
  exact hK k (by omega)
theorem diff06 (a b : List S55) (ha : a.length ≤ 4194304) (fa : FitsF a) (hb : b.length ≤ 4194304) (fb : FitsF b) : Ev (fun k => delta_Diff.f k a b) (if snapV a = 0 ∧ snapV b = 0 then diffD a b else []) := by
 have nope : Ev (fun k => delta_Diff.j0 k a b true) [] := by
  refine Ev.step (f := fun _ => some []) (fun k => ?_) (ev_some [])
  simp only [delta_Diff.j0]
  rw [if_pos trivial]
 refine Ev.bind (snap_ev a (by omega) fa) ?_
 by_cases h1 : snapV a = 0
 ·simp only [if_pos h1]
  refine Ev.bind (snap_ev b (by omega) fb) ?_
  by_cases h2 : snapV b = 0
  ·rw [if_pos ⟨h1, h2⟩, h2]
   refine Ev.step (f := fun k => delta_Diff.l0 k b [] a (a.length : Int) ((0 : Nat) : Int)) (fun k => ?_) (diff06_l0 a b ha fa hb fb a.length 0 [] (by omega) (by omega) rfl)
   simp only [delta_Diff.j0]
   rw [if_neg (by simp)]
   rfl
  ·rw [if_neg (fun h => h2 h.2), show (snapV b != 0) = true by simpa using h2]
   exact nope
 ·rw [if_neg (fun h => h1 h.1)]
  simp only [if_neg h1]
  exact nope
end Go.Proofs.YtehfogjibhnabaaDoor.PAll
namespace Go.Proofs.YtehfogjibhnabaaDoor.PAll
open Go.RowKit Go.Proofs.YtehfogjibhnabaaDoorW.PrintWords Go.Proofs.YtehfogjibhnabaaDoorW.PrintLast Go.Proofs.YtehfogjibhnabaaDoorW.PrintMore
attribute [local go_sem] max2_int min2_int max_two min_two max_three min_three max_four min_four
set_option linter.unusedVariables false
set_option linter.unusedSimpArgs false
attribute [local go_sem high] eqA55 eqA61
mutual
def delta_Join.j0 : Nat → List (S61) → List (S61) → Bool → Option ((List (S61)) × Int)
 | 0, _, _, _ => none
 | k + 1, x0, x1, x17 => if x17 = true then (some (([] : List (S61)), 9)) else (delta_Join.l0 k x0 x1 x0 (x0.length : Int) 0)
def delta_Join.l0 : Nat → List (S61) → List (S61) → List (S61) → Int → Int → Option ((List (S61)) × Int)
 | 0, _, _, _, _, _ => none
 | k + 1, x0, x1, x18, x19, x20 => if x20 < x19 then (if 0 ≤ x20 then (if x20 < (x18.length : Int) then (delta_Join.l1 k x0 x1 x18 x19 x20 x1 (x1.length : Int) 0 ((rd_T61 x18 x20).f0) ((rd_T61 x18 x20).f1) ((rd_T61 x18 x20).f2) ((rd_T61 x18 x20).f3.f0) ((rd_T61 x18 x20).f3.f1) ((rd_T61 x18 x20).f3.f2) ((rd_T61 x18 x20).f3.f3) ((rd_T61 x18 x20).f4.f0) ((rd_T61 x18 x20).f4.f1) ((rd_T61 x18 x20).f4.f2) ((rd_T61 x18 x20).f4.f3)) else (none)) else (none)) else ((delta_joined.f k x0 x1 true).bind fun t275 => (some (t275, 0)))
def delta_Join.l1 : Nat → List (S61) → List (S61) → List (S61) → Int → Int → List (S61) → Int → Int → ByteArray → Bool → Bool → ByteArray → ByteArray → Int → Int → ByteArray → ByteArray → Int → Int → Option ((List (S61)) × Int)
 | 0, _, _, _, _, _, _, _, _, _, _, _, _, _, _, _, _, _, _, _ => none
 | k + 1, x0, x1, x18, x19, x20, x24, x25, x26, x280000, x280001, x280002, x280003, x280004, x280005, x280006, x280007, x280008, x280009, x280010 => if x26 < x25 then (if 0 ≤ x26 then (if x26 < (x24.length : Int) then (if x280000.toList = ((rd_T61 x24 x26).f0).toList then (if (x280002 != ((rd_T61 x24 x26).f1)) = true then (some (([] : List (S61)), 9)) else (if (!(x280007.toList == (((rd_T61 x24 x26).f3.f0).toList)) || (!(x280008.toList == (((rd_T61 x24 x26).f3.f1).toList)) || (!(x280009 == ((rd_T61 x24 x26).f3.f2)) || (!(x280010 == ((rd_T61 x24 x26).f3.f3)))))) = true then (some (([] : List (S61)), 9)) else (delta_Join.l1 k x0 x1 x18 x19 x20 x24 x25 (wrap64 (x26 + 1)) x280000 x280001 x280002 x280003 x280004 x280005 x280006 x280007 x280008 x280009 x280010))) else (delta_Join.l1 k x0 x1 x18 x19 x20 x24 x25 (wrap64 (x26 + 1)) x280000 x280001 x280002 x280003 x280004 x280005 x280006 x280007 x280008 x280009 x280010)) else (none)) else (none)) else (delta_Join.l0 k x0 x1 x18 x19 (wrap64 (x20 + 1)))
end
def delta_Join.f (k : Nat) (l0 : List (S61)) (l1 : List (S61)) : Option ((List (S61)) × Int) := (delta_Valid.f k l0).bind fun t273 => (if t273 = true then ((delta_Valid.f k l1).bind fun t274 => (delta_Join.j0 k l0 l1 (!t274))) else (delta_Join.j0 k l0 l1 true))
set_option maxHeartbeats 8000000 in
set_option maxRecDepth 100000 in
theorem delta_Join.calls (k : Nat) (A0 : Option Addr) (c0 : Nat) (l0 : List (S61)) (A1 : Option Addr) (c1 : Nat) (l1 : List (S61)) (r1 : List (S61)) (r2 : Int) (w : World) (hr0 : Kd.C k61 w A0 l0.length l0) (hc0 : l0.length ≤ c0) (hr1 : Kd.C k61 w A1 l1.length l1) (hc1 : l1.length ≤ c1) (h : delta_Join.f k l0 l1 = some (r1, r2)) :
  Calls Tryd.prog 26 #[.slice A0 l0.length c0, .slice A1 l1.length c1] w fun e w' => ∃ v0_ : Value, e = .returned (.tuple #[v0_, .int .i64 r2]) ∧ Kd.R k61 61 w' w.heap.size (fun _ => True) v0_ r1 ∧ Below w.heap.size w w' := by
 have hu61 := Tryd.underlying61
 have hu55 := Tryd.underlying55
 have HR0 := Aside0.mk hr0
 have HC0 := Aside0.mk hc0
 clear hr0 hc0
 have HR1 := Aside0.mk hr1
 have HC1 := Aside0.mk hc1
 clear hr1 hc1
 have HB := Aside0.mk (Below.refl w.heap.size w)
 have H : ((delta_Valid.f k l0).bind fun t273 => (if t273 = true then ((delta_Valid.f k l1).bind fun t274 => (delta_Join.j0 k l0 l1 (!t274))) else (delta_Join.j0 k l0 l1 true))) = some (r1, r2) := h
 clear h
 have HC3 := Aside0.mk H
 clear H
 go_enter Tryd.func26, Tryd.ntmps26
 go_upto_region 1 with (fail)
 go_cut [17] (fun v17 wc => ∃ (kq : Nat) (x17_2 : Bool), v17 = .bool x17_2 ∧ Aside0 (delta_Join.j0 kq l0 l1 x17_2 = some (r1, r2)) ∧ Aside0 (kq ≤ k) ∧ Aside0 (Below w.heap.size w wc))
 case first =>
  have H := HC3.out
  clear HC3
  replace H := Option.bind_eq_some_iff.mp H
  obtain ⟨t273, A40, H⟩ := H
  replace H : (if t273 = true then ((delta_Valid.f k l1).bind fun t274 => (delta_Join.j0 k l0 l1 (!t274))) else (delta_Join.j0 k l0 l1 true)) = some (r1, r2) := H
  have A4 := Aside0.mk A40
  clear A40
  by_cases c5 : t273 = true
  ·subst c5
   have H1 : ((delta_Valid.f k l1).bind fun t274 => (delta_Join.j0 k l0 l1 (!t274))) = some (r1, r2) := by rw [if_pos rfl] at H; exact H
   clear H
   have H := H1
   clear H1
   replace H := Option.bind_eq_some_iff.mp H
   obtain ⟨t274, A60, H⟩ := H
   replace H : (delta_Join.j0 k l0 l1 (!t274)) = some (r1, r2) := H
   have A6 := Aside0.mk A60
   clear A60
   have H' := Aside0.mk H
   clear H
   go_wp2_with (first | ((with_reducible refine gate_callee (f := 27) rfl ?_); refine goesL_ (some 11) rfl rfl Tryd.func27 (by kernel_rfl) rfl #[.slice A0 l0.length c0] rfl (by (try simp only [List.map_toArray, List.map_cons, List.map_nil]); first | done | rfl | (simp only [List.length_drop, List.length_take]; rfl)) ?_; (with_reducible refine (delta_Valid.calls k _ _ l0 true _ ?side1 ?side2 A4.out).mono ?_); (case side1 => repeat (first | exact (Kd.C_below HR0.out HB.out) | (with_reducible refine Kd.C_alloc ?_ _) | (with_reducible refine Kd.C_drewN ?_ _) | (with_reducible refine Kd.C_drew ?_))); (case side2 => exact HC0.out); rintro e w7 ⟨rfl, hb⟩; refine ⟨_, rfl, ?_⟩; have n0_ := Aside0.mk (below_step (by repeat (first | (with_reducible first | exact HB.out | apply below_alloc | apply pw_below_drewN | apply below_drew1) | exact HB.out)) hb); clear HB; have HB := n0_; clear n0_; (try clear hb); (try clear hb2); (try clear hk); (try clear hi)) | (go_at_call 27; (with_reducible refine (delta_Valid.calls k _ _ l1 t274 _ ?side1 ?side2 A6.out).mono ?_); (case side1 => repeat (first | exact (Kd.C_below HR1.out HB.out) | (with_reducible refine Kd.C_alloc ?_ _) | (with_reducible refine Kd.C_drewN ?_ _) | (with_reducible refine Kd.C_drew ?_))); (case side2 => exact HC1.out); rintro e w8 ⟨rfl, hb⟩; have n0_ := Aside0.mk (below_step (by repeat (first | (with_reducible first | exact HB.out | apply below_alloc | apply pw_below_drewN | apply below_drew1) | exact HB.out)) hb); clear HB; have HB := n0_; clear n0_; (try clear hb); (try clear hb2); (try clear hk); (try clear hi)))
   go_meet
   case rel => exact ⟨_, (!t274), (by first | rfl | (simp; done) | (simp [*]; done)), H', ⟨by first | omega | exact Nat.le_refl _⟩, ⟨by repeat (first | (with_reducible first | exact HB.out | apply below_alloc | apply pw_below_drewN | apply below_drew1) | exact HB.out)⟩⟩
  ·replace c5 := Bool.eq_false_iff.mpr c5
   subst c5
   have H1 : (delta_Join.j0 k l0 l1 true) = some (r1, r2) := by rw [if_neg (show ¬ (false = true) by decide)] at H; exact H
   clear H
   have H := H1
   clear H1
   have H' := Aside0.mk H
   clear H
   go_wp2_with (first | ((with_reducible refine gate_callee (f := 27) rfl ?_); refine goesL_ (some 11) rfl rfl Tryd.func27 (by kernel_rfl) rfl #[.slice A0 l0.length c0] rfl (by (try simp only [List.map_toArray, List.map_cons, List.map_nil]); first | done | rfl | (simp only [List.length_drop, List.length_take]; rfl)) ?_; (with_reducible refine (delta_Valid.calls k _ _ l0 false _ ?side1 ?side2 A4.out).mono ?_); (case side1 => repeat (first | exact (Kd.C_below HR0.out HB.out) | (with_reducible refine Kd.C_alloc ?_ _) | (with_reducible refine Kd.C_drewN ?_ _) | (with_reducible refine Kd.C_drew ?_))); (case side2 => exact HC0.out); rintro e w9 ⟨rfl, hb⟩; refine ⟨_, rfl, ?_⟩; have n0_ := Aside0.mk (below_step (by repeat (first | (with_reducible first | exact HB.out | apply below_alloc | apply pw_below_drewN | apply below_drew1) | exact HB.out)) hb); clear HB; have HB := n0_; clear n0_; (try clear hb); (try clear hb2); (try clear hk); (try clear hi)))
   go_meet
   case rel => exact ⟨_, (true), (by first | rfl | (simp; done) | (simp [*]; done)), H', ⟨by first | omega | exact Nat.le_refl _⟩, ⟨by repeat (first | (with_reducible first | exact HB.out | apply below_alloc | apply pw_below_drewN | apply below_drew1) | exact HB.out)⟩⟩
 case rest =>
  clear HC3
  try clear c1
  try clear c2
  try clear p2
  try clear c5
  obtain ⟨kq, x17_2, rfl, HA, HJ2, HB⟩ := hcut
  cases kq with
  | zero => exact absurd HA.out (by simp [delta_Join.j0])
  | succ kj2 =>
   have H := HA.out
   clear HA
   simp only [delta_Join.j0] at H
   by_cases c10 : x17_2 = true
   ·subst c10
    have H1 : (some (([] : List (S61)), 9)) = some (r1, r2) := by rw [if_pos rfl] at H; exact H
    clear H
    have H := H1
    clear H1
    simp only [Option.some.injEq, Prod.mk.injEq] at H
    obtain ⟨rfl, rfl⟩ := H
    go_wp2
    go_ret2
    exact ⟨_, by first | rfl | (simp [errW_none, errW_some] <;> rfl) | (simp [*, errW_none, errW_some] <;> rfl), by first | exact Kd.R_nil _ _ _ _ _ | exact Kd.N_nil _ _ _ _ _ | exact Kd.V_nil _ _ _ _ _ | exact Kd.Q_nil _ _ _ _ _ | exact Kd.S_nil _ _ _ _ _, by repeat (first | (with_reducible first | exact HB.out | apply below_alloc | apply pw_below_drewN | apply below_drew1) | exact HB.out)⟩
   ·replace c10 := Bool.eq_false_iff.mpr c10
    subst c10
    have H1 : (delta_Join.l0 kj2 l0 l1 l0 (l0.length : Int) 0) = some (r1, r2) := by rw [if_neg (show ¬ (false = true) by decide)] at H; exact H
    clear H
    have H := H1
    clear H1
    have H' := Aside0.mk H
    clear H
    go_wp2
    go_loopg [20] kj2 (fun kq v20 w' => ∃ (x20_2 : Int), v20 = .int .i64 x20_2 ∧ Aside0 (delta_Join.l0 kq l0 l1 l0 (l0.length : Int) x20_2 = some (r1, r2)) ∧ Aside0 (kq ≤ kj2) ∧ Aside0 (Below w.heap.size w w'))
    case atStart => exact ⟨(0), (by first | rfl | (simp; done) | (simp [*]; done)), H', ⟨Nat.le_refl _⟩, ⟨by repeat (first | (with_reducible first | exact HB.out | apply below_alloc | apply pw_below_drewN | apply below_drew1) | exact HB.out)⟩⟩
    case round =>
     clear H'
     try clear c1
     try clear c2
     try clear p2
     try clear c5
     try clear c10
     try clear p2
     obtain ⟨x20_2, rfl, HA, HK2, HB⟩ := hrel
     cases gk with
     | zero => exact absurd HA.out (by simp [delta_Join.l0])
     | succ k2 =>
      have H := HA.out
      clear HA
      simp only [delta_Join.l0] at H
      by_cases c11 : x20_2 < (l0.length : Int)
      ·rw [if_pos c11] at H
       have c11b0 := decide_eq_true c11
       clear c11
       by_cases c12 : 0 ≤ x20_2
       ·rw [if_pos c12] at H
        have c12b0 := decide_eq_true c12
        clear c12
        by_cases c13 : x20_2 < (l0.length : Int)
        ·rw [if_pos c13] at H
         have c13b0 := decide_eq_true c13
         clear c13
         have H' := Aside0.mk H
         clear H
         have p278 : 0 ≤ (x20_2 : Int) := of_decide_eq_true (by first | (with_reducible assumption) | assumption)
         have q278 : x20_2 < (l0.length : Int) := of_decide_eq_true (by first | (with_reducible assumption) | assumption)
         obtain ⟨ad278, e278, hx278_0, hx278_1, hx278_2, hx278_3, hx278_4, hx278_5, hx278_6, hx278_7, hx278_8, hx278_9, hx278_10⟩ := at_T61 HR0.out x20_2 p278 q278
         cases e278
         replace hx278_0 := (HB.out.cell (World.block_lt_of_cell? w _ hx278_0)).trans hx278_0
         replace hx278_1 := (HB.out.cell (World.block_lt_of_cell? w _ hx278_1)).trans hx278_1
         replace hx278_2 := (HB.out.cell (World.block_lt_of_cell? w _ hx278_2)).trans hx278_2
         replace hx278_3 := (HB.out.cell (World.block_lt_of_cell? w _ hx278_3)).trans hx278_3
         replace hx278_4 := (HB.out.cell (World.block_lt_of_cell? w _ hx278_4)).trans hx278_4
         replace hx278_5 := (HB.out.cell (World.block_lt_of_cell? w _ hx278_5)).trans hx278_5
         replace hx278_6 := (HB.out.cell (World.block_lt_of_cell? w _ hx278_6)).trans hx278_6
         replace hx278_7 := (HB.out.cell (World.block_lt_of_cell? w _ hx278_7)).trans hx278_7
         replace hx278_8 := (HB.out.cell (World.block_lt_of_cell? w _ hx278_8)).trans hx278_8
         replace hx278_9 := (HB.out.cell (World.block_lt_of_cell? w _ hx278_9)).trans hx278_9
         replace hx278_10 := (HB.out.cell (World.block_lt_of_cell? w _ hx278_10)).trans hx278_10
         replace p278 := eq_true p278
         replace q278 := eq_true q278
         go_wp2_with (first | ((with_reducible refine gate_dst (N := 7) rfl ?_); refine box_event ?hg (N := 7) ?hd (cs := #[.string (⟨#[]⟩ : ByteArray), .bool false, .bool false, .string (⟨#[]⟩ : ByteArray), .string (⟨#[]⟩ : ByteArray), .int .i64 0, .int .i64 0, .string (⟨#[]⟩ : ByteArray), .string (⟨#[]⟩ : ByteArray), .int .i64 0, .int .i64 0]) (t := 61) ?hr ?_; (case hd => rfl); (case hg => rfl); (case hr => first | (go_simp; done) | (go_simp; rfl)); intro gb279 hg w14 hbox hb; have n0_ := Aside0.mk (below_step (by repeat (first | (with_reducible first | exact HB.out | apply below_alloc | apply pw_below_drewN | apply below_drew1) | exact HB.out)) hb); have n1_ := Aside0.mk (hbox); have n2_ := Aside0.mk ((by rw [hg]; exact (below_size (by repeat (first | (with_reducible first | exact HB.out | apply below_alloc | apply pw_below_drewN | apply below_drew1) | exact HB.out))) : w.heap.size ≤ gb279)); have n3_ := Aside0.mk ((by rw [hg]; exact (below_size (by repeat (first | (with_reducible first | exact HB.out | apply below_alloc | apply pw_below_drewN | apply below_drew1) | exact HB.out))) : w.heap.size ≤ gb279)); clear HB; have HB := n0_; have BK279 := n1_; have GW279 := n2_; have GE279 := n3_; clear n0_ n1_ n2_ n3_; clear hb hbox hg; have hcz15_0 : w14.cell? ⟨gb279, 0, none⟩ = some (.string (⟨#[]⟩ : ByteArray)) := (blk_cell BK279.out 0).trans rfl; have hcz15_1 : w14.cell? ⟨gb279, 1, none⟩ = some (.bool false) := (blk_cell BK279.out 1).trans rfl; have hcz15_2 : w14.cell? ⟨gb279, 2, none⟩ = some (.bool false) := (blk_cell BK279.out 2).trans rfl; have hcz15_3 : w14.cell? ⟨gb279, 3, none⟩ = some (.string (⟨#[]⟩ : ByteArray)) := (blk_cell BK279.out 3).trans rfl; have hcz15_4 : w14.cell? ⟨gb279, 4, none⟩ = some (.string (⟨#[]⟩ : ByteArray)) := (blk_cell BK279.out 4).trans rfl; have hcz15_5 : w14.cell? ⟨gb279, 5, none⟩ = some (.int .i64 0) := (blk_cell BK279.out 5).trans rfl; have hcz15_6 : w14.cell? ⟨gb279, 6, none⟩ = some (.int .i64 0) := (blk_cell BK279.out 6).trans rfl; have hcz15_7 : w14.cell? ⟨gb279, 7, none⟩ = some (.string (⟨#[]⟩ : ByteArray)) := (blk_cell BK279.out 7).trans rfl; have hcz15_8 : w14.cell? ⟨gb279, 8, none⟩ = some (.string (⟨#[]⟩ : ByteArray)) := (blk_cell BK279.out 8).trans rfl; have hcz15_9 : w14.cell? ⟨gb279, 9, none⟩ = some (.int .i64 0) := (blk_cell BK279.out 9).trans rfl; have hcz15_10 : w14.cell? ⟨gb279, 10, none⟩ = some (.int .i64 0) := (blk_cell BK279.out 10).trans rfl; have hfz15_0 := blk_frozen BK279.out 0; have hfz15_1 := blk_frozen BK279.out 1; have hfz15_2 := blk_frozen BK279.out 2; have hfz15_3 := blk_frozen BK279.out 3; have hfz15_4 := blk_frozen BK279.out 4; have hfz15_5 := blk_frozen BK279.out 5; have hfz15_6 := blk_frozen BK279.out 6; have hfz15_7 := blk_frozen BK279.out 7; have hfz15_8 := blk_frozen BK279.out 8; have hfz15_9 := blk_frozen BK279.out 9; have hfz15_10 := blk_frozen BK279.out 10))
         go_loopg [26] k2 (fun kq v26 w' => ∃ (x26_3 : Int), v26 = .int .i64 x26_3 ∧ Aside0 (delta_Join.l1 kq l0 l1 l0 (l0.length : Int) x20_2 l1 (l1.length : Int) x26_3 ((rd_T61 l0 x20_2).f0) ((rd_T61 l0 x20_2).f1) ((rd_T61 l0 x20_2).f2) ((rd_T61 l0 x20_2).f3.f0) ((rd_T61 l0 x20_2).f3.f1) ((rd_T61 l0 x20_2).f3.f2) ((rd_T61 l0 x20_2).f3.f3) ((rd_T61 l0 x20_2).f4.f0) ((rd_T61 l0 x20_2).f4.f1) ((rd_T61 l0 x20_2).f4.f2) ((rd_T61 l0 x20_2).f4.f3) = some (r1, r2)) ∧ Aside0 (kq ≤ k2) ∧ Aside0 (w'.heap[gb279]? = some (.cells #[.string ((rd_T61 l0 x20_2).f0), .bool ((rd_T61 l0 x20_2).f1), .bool ((rd_T61 l0 x20_2).f2), .string ((rd_T61 l0 x20_2).f3.f0), .string ((rd_T61 l0 x20_2).f3.f1), .int .i64 ((rd_T61 l0 x20_2).f3.f2), .int .i64 ((rd_T61 l0 x20_2).f3.f3), .string ((rd_T61 l0 x20_2).f4.f0), .string ((rd_T61 l0 x20_2).f4.f1), .int .i64 ((rd_T61 l0 x20_2).f4.f2), .int .i64 ((rd_T61 l0 x20_2).f4.f3)] 61 (0, 0))) ∧ Aside0 (Below w.heap.size w w'))
         case atStart => exact ⟨(0), (by first | rfl | (simp; done) | (simp [*]; done)), H', ⟨Nat.le_refl _⟩, ⟨by (with_reducible repeat (first | refine blk_drewN ?_ _ | refine blk_drew ?_ | refine blk_alloc ?_ _)); refine blk_put (cs := #[.string ((rd_T61 l0 x20_2).f0), .bool ((rd_T61 l0 x20_2).f1), .bool ((rd_T61 l0 x20_2).f2), .string ((rd_T61 l0 x20_2).f3.f0), .string ((rd_T61 l0 x20_2).f3.f1), .int .i64 ((rd_T61 l0 x20_2).f3.f2), .int .i64 ((rd_T61 l0 x20_2).f3.f3), .string ((rd_T61 l0 x20_2).f4.f0), .string ((rd_T61 l0 x20_2).f4.f1), .int .i64 ((rd_T61 l0 x20_2).f4.f2), .int .i64 0]) ?_ 10 _ rfl; (with_reducible repeat (first | refine blk_drewN ?_ _ | refine blk_drew ?_ | refine blk_alloc ?_ _)); refine blk_put (cs := #[.string ((rd_T61 l0 x20_2).f0), .bool ((rd_T61 l0 x20_2).f1), .bool ((rd_T61 l0 x20_2).f2), .string ((rd_T61 l0 x20_2).f3.f0), .string ((rd_T61 l0 x20_2).f3.f1), .int .i64 ((rd_T61 l0 x20_2).f3.f2), .int .i64 ((rd_T61 l0 x20_2).f3.f3), .string ((rd_T61 l0 x20_2).f4.f0), .string ((rd_T61 l0 x20_2).f4.f1), .int .i64 0, .int .i64 0]) ?_ 9 _ rfl; (with_reducible repeat (first | refine blk_drewN ?_ _ | refine blk_drew ?_ | refine blk_alloc ?_ _)); refine blk_put (cs := #[.string ((rd_T61 l0 x20_2).f0), .bool ((rd_T61 l0 x20_2).f1), .bool ((rd_T61 l0 x20_2).f2), .string ((rd_T61 l0 x20_2).f3.f0), .string ((rd_T61 l0 x20_2).f3.f1), .int .i64 ((rd_T61 l0 x20_2).f3.f2), .int .i64 ((rd_T61 l0 x20_2).f3.f3), .string ((rd_T61 l0 x20_2).f4.f0), .string (⟨#[]⟩ : ByteArray), .int .i64 0, .int .i64 0]) ?_ 8 _ rfl; (with_reducible repeat (first | refine blk_drewN ?_ _ | refine blk_drew ?_ | refine blk_alloc ?_ _)); refine blk_put (cs := #[.string ((rd_T61 l0 x20_2).f0), .bool ((rd_T61 l0 x20_2).f1), .bool ((rd_T61 l0 x20_2).f2), .string ((rd_T61 l0 x20_2).f3.f0), .string ((rd_T61 l0 x20_2).f3.f1), .int .i64 ((rd_T61 l0 x20_2).f3.f2), .int .i64 ((rd_T61 l0 x20_2).f3.f3), .string (⟨#[]⟩ : ByteArray), .string (⟨#[]⟩ : ByteArray), .int .i64 0, .int .i64 0]) ?_ 7 _ rfl; (with_reducible repeat (first | refine blk_drewN ?_ _ | refine blk_drew ?_ | refine blk_alloc ?_ _)); refine blk_put (cs := #[.string ((rd_T61 l0 x20_2).f0), .bool ((rd_T61 l0 x20_2).f1), .bool ((rd_T61 l0 x20_2).f2), .string ((rd_T61 l0 x20_2).f3.f0), .string ((rd_T61 l0 x20_2).f3.f1), .int .i64 ((rd_T61 l0 x20_2).f3.f2), .int .i64 0, .string (⟨#[]⟩ : ByteArray), .string (⟨#[]⟩ : ByteArray), .int .i64 0, .int .i64 0]) ?_ 6 _ rfl; (with_reducible repeat (first | refine blk_drewN ?_ _ | refine blk_drew ?_ | refine blk_alloc ?_ _)); refine blk_put (cs := #[.string ((rd_T61 l0 x20_2).f0), .bool ((rd_T61 l0 x20_2).f1), .bool ((rd_T61 l0 x20_2).f2), .string ((rd_T61 l0 x20_2).f3.f0), .string ((rd_T61 l0 x20_2).f3.f1), .int .i64 0, .int .i64 0, .string (⟨#[]⟩ : ByteArray), .string (⟨#[]⟩ : ByteArray), .int .i64 0, .int .i64 0]) ?_ 5 _ rfl; (with_reducible repeat (first | refine blk_drewN ?_ _ | refine blk_drew ?_ | refine blk_alloc ?_ _)); refine blk_put (cs := #[.string ((rd_T61 l0 x20_2).f0), .bool ((rd_T61 l0 x20_2).f1), .bool ((rd_T61 l0 x20_2).f2), .string ((rd_T61 l0 x20_2).f3.f0), .string (⟨#[]⟩ : ByteArray), .int .i64 0, .int .i64 0, .string (⟨#[]⟩ : ByteArray), .string (⟨#[]⟩ : ByteArray), .int .i64 0, .int .i64 0]) ?_ 4 _ rfl; (with_reducible repeat (first | refine blk_drewN ?_ _ | refine blk_drew ?_ | refine blk_alloc ?_ _)); refine blk_put (cs := #[.string ((rd_T61 l0 x20_2).f0), .bool ((rd_T61 l0 x20_2).f1), .bool ((rd_T61 l0 x20_2).f2), .string (⟨#[]⟩ : ByteArray), .string (⟨#[]⟩ : ByteArray), .int .i64 0, .int .i64 0, .string (⟨#[]⟩ : ByteArray), .string (⟨#[]⟩ : ByteArray), .int .i64 0, .int .i64 0]) ?_ 3 _ rfl; (with_reducible repeat (first | refine blk_drewN ?_ _ | refine blk_drew ?_ | refine blk_alloc ?_ _)); refine blk_put (cs := #[.string ((rd_T61 l0 x20_2).f0), .bool ((rd_T61 l0 x20_2).f1), .bool false, .string (⟨#[]⟩ : ByteArray), .string (⟨#[]⟩ : ByteArray), .int .i64 0, .int .i64 0, .string (⟨#[]⟩ : ByteArray), .string (⟨#[]⟩ : ByteArray), .int .i64 0, .int .i64 0]) ?_ 2 _ rfl; (with_reducible repeat (first | refine blk_drewN ?_ _ | refine blk_drew ?_ | refine blk_alloc ?_ _)); refine blk_put (cs := #[.string ((rd_T61 l0 x20_2).f0), .bool false, .bool false, .string (⟨#[]⟩ : ByteArray), .string (⟨#[]⟩ : ByteArray), .int .i64 0, .int .i64 0, .string (⟨#[]⟩ : ByteArray), .string (⟨#[]⟩ : ByteArray), .int .i64 0, .int .i64 0]) ?_ 1 _ rfl; (with_reducible repeat (first | refine blk_drewN ?_ _ | refine blk_drew ?_ | refine blk_alloc ?_ _)); refine blk_put (cs := #[.string (⟨#[]⟩ : ByteArray), .bool false, .bool false, .string (⟨#[]⟩ : ByteArray), .string (⟨#[]⟩ : ByteArray), .int .i64 0, .int .i64 0, .string (⟨#[]⟩ : ByteArray), .string (⟨#[]⟩ : ByteArray), .int .i64 0, .int .i64 0]) ?_ 0 _ rfl; (with_reducible repeat (first | refine blk_drewN ?_ _ | refine blk_drew ?_ | refine blk_alloc ?_ _)); exact BK279.out⟩, ⟨by repeat (first | (with_reducible first | exact HB.out | apply below_alloc | apply pw_below_drewN | apply below_drew1 | refine below_set ?_ GE279.out) | exact HB.out)⟩⟩
         case round =>
          clear H'
          try clear c1
          try clear c2
          try clear p2
          try clear q2
          try clear hx2
          try clear c5
          try clear c10
          try clear c11
          try clear c11b0
          try clear c12
          try clear c12b0
          try clear c13
          try clear c13b0
          try clear hcz15_0
          try clear hcz15_1
          try clear hcz15_10
          try clear hcz15_2
          try clear hcz15_3
          try clear hcz15_4
          try clear hcz15_5
          try clear hcz15_6
          try clear hcz15_7
          try clear hcz15_8
          try clear hcz15_9
          try clear hfz15_0
          try clear hfz15_1
          try clear hfz15_10
          try clear hfz15_2
          try clear hfz15_3
          try clear hfz15_4
          try clear hfz15_5
          try clear hfz15_6
          try clear hfz15_7
          try clear hfz15_8
          try clear hfz15_9
          try clear hx278_0
          try clear hx278_1
          try clear hx278_10
          try clear hx278_2
          try clear hx278_3
          try clear hx278_4
          try clear hx278_5
          try clear hx278_6
          try clear hx278_7
          try clear hx278_8
          try clear hx278_9
          try clear p2
          try clear p278
          try clear q278
          obtain ⟨x26_3, rfl, HA, HK3, BK279, HB⟩ := hrel
          cases gk with
          | zero => exact absurd HA.out (by simp [delta_Join.l1])
          | succ k3 =>
           have H := HA.out
           clear HA
           simp only [delta_Join.l1] at H
           by_cases c16 : x26_3 < (l1.length : Int)
           ·rw [if_pos c16] at H
            have c16b0 := decide_eq_true c16
            clear c16
            by_cases c17 : 0 ≤ x26_3
            ·rw [if_pos c17] at H
             have c17b0 := decide_eq_true c17
             clear c17
             by_cases c18 : x26_3 < (l1.length : Int)
             ·rw [if_pos c18] at H
              have c18b0 := decide_eq_true c18
              clear c18
              by_cases c19 : ((rd_T61 l0 x20_2).f0).toList = ((rd_T61 l1 x26_3).f0).toList
              ·rw [if_pos c19] at H
               have c19b0 : (((rd_T61 l0 x20_2).f0).toList == ((rd_T61 l1 x26_3).f0).toList) = true := beq_iff_eq.mpr c19
               have c19b1 : (((rd_T61 l0 x20_2).f0).toList != ((rd_T61 l1 x26_3).f0).toList) = false := bne_eq_false_iff_eq.mpr c19
               clear c19
               by_cases c20 : (((rd_T61 l0 x20_2).f2) != ((rd_T61 l1 x26_3).f1)) = true
               ·rw [if_pos c20] at H
                have c20b0 : (((rd_T61 l0 x20_2).f2) != ((rd_T61 l1 x26_3).f1)) = true := c20
                (try (have c20b1 : decide (((rd_T61 l0 x20_2).f2) = ((rd_T61 l1 x26_3).f1)) = false := by simpa using c20))
                (try (have c20b2 : (((rd_T61 l0 x20_2).f2) == ((rd_T61 l1 x26_3).f1)) = false := by simpa using c20))
                (try (have c20b3 : ¬ (((rd_T61 l0 x20_2).f2) = ((rd_T61 l1 x26_3).f1)) := by simpa using c20))
                clear c20
                simp only [Option.some.injEq, Prod.mk.injEq] at H
                obtain ⟨rfl, rfl⟩ := H
                have p280 : 0 ≤ (x26_3 : Int) := of_decide_eq_true (by first | (with_reducible assumption) | assumption)
                have q280 : x26_3 < (l1.length : Int) := of_decide_eq_true (by first | (with_reducible assumption) | assumption)
                obtain ⟨ad280, e280, hx280_0, hx280_1, hx280_2, hx280_3, hx280_4, hx280_5, hx280_6, hx280_7, hx280_8, hx280_9, hx280_10⟩ := at_T61 HR1.out x26_3 p280 q280
                cases e280
                replace hx280_0 := (HB.out.cell (World.block_lt_of_cell? w _ hx280_0)).trans hx280_0
                replace hx280_1 := (HB.out.cell (World.block_lt_of_cell? w _ hx280_1)).trans hx280_1
                replace hx280_2 := (HB.out.cell (World.block_lt_of_cell? w _ hx280_2)).trans hx280_2
                replace hx280_3 := (HB.out.cell (World.block_lt_of_cell? w _ hx280_3)).trans hx280_3
                replace hx280_4 := (HB.out.cell (World.block_lt_of_cell? w _ hx280_4)).trans hx280_4
                replace hx280_5 := (HB.out.cell (World.block_lt_of_cell? w _ hx280_5)).trans hx280_5
                replace hx280_6 := (HB.out.cell (World.block_lt_of_cell? w _ hx280_6)).trans hx280_6
                replace hx280_7 := (HB.out.cell (World.block_lt_of_cell? w _ hx280_7)).trans hx280_7
                replace hx280_8 := (HB.out.cell (World.block_lt_of_cell? w _ hx280_8)).trans hx280_8
                replace hx280_9 := (HB.out.cell (World.block_lt_of_cell? w _ hx280_9)).trans hx280_9
                replace hx280_10 := (HB.out.cell (World.block_lt_of_cell? w _ hx280_10)).trans hx280_10
                replace p280 := eq_true p280
                replace q280 := eq_true q280
                go_wp2_with (first | ((with_reducible refine gate_dst (N := 9) rfl ?_); refine box_event ?hg (N := 9) ?hd (cs := #[.string (⟨#[]⟩ : ByteArray), .bool false, .bool false, .string (⟨#[]⟩ : ByteArray), .string (⟨#[]⟩ : ByteArray), .int .i64 0, .int .i64 0, .string (⟨#[]⟩ : ByteArray), .string (⟨#[]⟩ : ByteArray), .int .i64 0, .int .i64 0]) (t := 61) ?hr ?_; (case hd => rfl); (case hg => rfl); (case hr => first | (go_simp; done) | (go_simp; rfl)); intro gb281 hg w21 hbox hb; have n0_ := Aside0.mk (blk_below (g := gb279) (o := .cells #[.string ((rd_T61 l0 x20_2).f0), .bool ((rd_T61 l0 x20_2).f1), .bool ((rd_T61 l0 x20_2).f2), .string ((rd_T61 l0 x20_2).f3.f0), .string ((rd_T61 l0 x20_2).f3.f1), .int .i64 ((rd_T61 l0 x20_2).f3.f2), .int .i64 ((rd_T61 l0 x20_2).f3.f3), .string ((rd_T61 l0 x20_2).f4.f0), .string ((rd_T61 l0 x20_2).f4.f1), .int .i64 ((rd_T61 l0 x20_2).f4.f2), .int .i64 ((rd_T61 l0 x20_2).f4.f3)] 61 (0, 0)) (by (with_reducible repeat (first | refine blk_drewN ?_ _ | refine blk_drew ?_ | refine blk_alloc ?_ _)); exact BK279.out) hb); have n1_ := Aside0.mk (below_step (by repeat (first | (with_reducible first | exact HB.out | apply below_alloc | apply pw_below_drewN | apply below_drew1 | refine below_set ?_ GE279.out) | exact HB.out)) hb); have n2_ := Aside0.mk (hbox); have n3_ := Aside0.mk ((by rw [hg]; exact (below_size (by repeat (first | (with_reducible first | exact HB.out | apply below_alloc | apply pw_below_drewN | apply below_drew1 | refine below_set ?_ GE279.out) | exact HB.out))) : w.heap.size ≤ gb281)); have n4_ := Aside0.mk ((by rw [hg]; exact (below_size (by repeat (first | (with_reducible first | exact HB.out | apply below_alloc | apply pw_below_drewN | apply below_drew1 | refine below_set ?_ GE279.out) | exact HB.out))) : w.heap.size ≤ gb281)); have n5_ := Aside0.mk ((by rw [hg]; exact Nat.ne_of_lt (blk_lt (g := gb279) (o := .cells #[.string ((rd_T61 l0 x20_2).f0), .bool ((rd_T61 l0 x20_2).f1), .bool ((rd_T61 l0 x20_2).f2), .string ((rd_T61 l0 x20_2).f3.f0), .string ((rd_T61 l0 x20_2).f3.f1), .int .i64 ((rd_T61 l0 x20_2).f3.f2), .int .i64 ((rd_T61 l0 x20_2).f3.f3), .string ((rd_T61 l0 x20_2).f4.f0), .string ((rd_T61 l0 x20_2).f4.f1), .int .i64 ((rd_T61 l0 x20_2).f4.f2), .int .i64 ((rd_T61 l0 x20_2).f4.f3)] 61 (0, 0)) (by (with_reducible repeat (first | refine blk_drewN ?_ _ | refine blk_drew ?_ | refine blk_alloc ?_ _)); exact BK279.out)) : gb279 ≠ gb281)); have n6_ := Aside0.mk ((by rw [hg]; exact Nat.ne_of_gt (blk_lt (g := gb279) (o := .cells #[.string ((rd_T61 l0 x20_2).f0), .bool ((rd_T61 l0 x20_2).f1), .bool ((rd_T61 l0 x20_2).f2), .string ((rd_T61 l0 x20_2).f3.f0), .string ((rd_T61 l0 x20_2).f3.f1), .int .i64 ((rd_T61 l0 x20_2).f3.f2), .int .i64 ((rd_T61 l0 x20_2).f3.f3), .string ((rd_T61 l0 x20_2).f4.f0), .string ((rd_T61 l0 x20_2).f4.f1), .int .i64 ((rd_T61 l0 x20_2).f4.f2), .int .i64 ((rd_T61 l0 x20_2).f4.f3)] 61 (0, 0)) (by (with_reducible repeat (first | refine blk_drewN ?_ _ | refine blk_drew ?_ | refine blk_alloc ?_ _)); exact BK279.out)) : gb281 ≠ gb279)); clear BK279; clear HB; have BK279 := n0_; have HB := n1_; have BK281 := n2_; have GW281 := n3_; have GE281 := n4_; have NB279_281 := n5_; have NB281_279 := n6_; clear n0_ n1_ n2_ n3_ n4_ n5_ n6_; clear hb hbox hg; have hnb22 := NB281_279.out; have hnc22 := NB279_281.out; have hcz23_0 : w21.cell? ⟨gb281, 0, none⟩ = some (.string (⟨#[]⟩ : ByteArray)) := (blk_cell BK281.out 0).trans rfl; have hcz23_1 : w21.cell? ⟨gb281, 1, none⟩ = some (.bool false) := (blk_cell BK281.out 1).trans rfl; have hcz23_2 : w21.cell? ⟨gb281, 2, none⟩ = some (.bool false) := (blk_cell BK281.out 2).trans rfl; have hcz23_3 : w21.cell? ⟨gb281, 3, none⟩ = some (.string (⟨#[]⟩ : ByteArray)) := (blk_cell BK281.out 3).trans rfl; have hcz23_4 : w21.cell? ⟨gb281, 4, none⟩ = some (.string (⟨#[]⟩ : ByteArray)) := (blk_cell BK281.out 4).trans rfl; have hcz23_5 : w21.cell? ⟨gb281, 5, none⟩ = some (.int .i64 0) := (blk_cell BK281.out 5).trans rfl; have hcz23_6 : w21.cell? ⟨gb281, 6, none⟩ = some (.int .i64 0) := (blk_cell BK281.out 6).trans rfl; have hcz23_7 : w21.cell? ⟨gb281, 7, none⟩ = some (.string (⟨#[]⟩ : ByteArray)) := (blk_cell BK281.out 7).trans rfl; have hcz23_8 : w21.cell? ⟨gb281, 8, none⟩ = some (.string (⟨#[]⟩ : ByteArray)) := (blk_cell BK281.out 8).trans rfl; have hcz23_9 : w21.cell? ⟨gb281, 9, none⟩ = some (.int .i64 0) := (blk_cell BK281.out 9).trans rfl; have hcz23_10 : w21.cell? ⟨gb281, 10, none⟩ = some (.int .i64 0) := (blk_cell BK281.out 10).trans rfl; have hfz23_0 := blk_frozen BK281.out 0; have hfz23_1 := blk_frozen BK281.out 1; have hfz23_2 := blk_frozen BK281.out 2; have hfz23_3 := blk_frozen BK281.out 3; have hfz23_4 := blk_frozen BK281.out 4; have hfz23_5 := blk_frozen BK281.out 5; have hfz23_6 := blk_frozen BK281.out 6; have hfz23_7 := blk_frozen BK281.out 7; have hfz23_8 := blk_frozen BK281.out 8; have hfz23_9 := blk_frozen BK281.out 9; have hfz23_10 := blk_frozen BK281.out 10; have hcz24_0 : w21.cell? ⟨gb279, 0, none⟩ = some (.string ((rd_T61 l0 x20_2).f0)) := (blk_cell BK279.out 0).trans rfl; have hcz24_1 : w21.cell? ⟨gb279, 1, none⟩ = some (.bool ((rd_T61 l0 x20_2).f1)) := (blk_cell BK279.out 1).trans rfl; have hcz24_2 : w21.cell? ⟨gb279, 2, none⟩ = some (.bool ((rd_T61 l0 x20_2).f2)) := (blk_cell BK279.out 2).trans rfl; have hcz24_3 : w21.cell? ⟨gb279, 3, none⟩ = some (.string ((rd_T61 l0 x20_2).f3.f0)) := (blk_cell BK279.out 3).trans rfl; have hcz24_4 : w21.cell? ⟨gb279, 4, none⟩ = some (.string ((rd_T61 l0 x20_2).f3.f1)) := (blk_cell BK279.out 4).trans rfl; have hcz24_5 : w21.cell? ⟨gb279, 5, none⟩ = some (.int .i64 ((rd_T61 l0 x20_2).f3.f2)) := (blk_cell BK279.out 5).trans rfl; have hcz24_6 : w21.cell? ⟨gb279, 6, none⟩ = some (.int .i64 ((rd_T61 l0 x20_2).f3.f3)) := (blk_cell BK279.out 6).trans rfl; have hcz24_7 : w21.cell? ⟨gb279, 7, none⟩ = some (.string ((rd_T61 l0 x20_2).f4.f0)) := (blk_cell BK279.out 7).trans rfl; have hcz24_8 : w21.cell? ⟨gb279, 8, none⟩ = some (.string ((rd_T61 l0 x20_2).f4.f1)) := (blk_cell BK279.out 8).trans rfl; have hcz24_9 : w21.cell? ⟨gb279, 9, none⟩ = some (.int .i64 ((rd_T61 l0 x20_2).f4.f2)) := (blk_cell BK279.out 9).trans rfl; have hcz24_10 : w21.cell? ⟨gb279, 10, none⟩ = some (.int .i64 ((rd_T61 l0 x20_2).f4.f3)) := (blk_cell BK279.out 10).trans rfl; have hfz24_0 := blk_frozen BK279.out 0; have hfz24_1 := blk_frozen BK279.out 1; have hfz24_2 := blk_frozen BK279.out 2; have hfz24_3 := blk_frozen BK279.out 3; have hfz24_4 := blk_frozen BK279.out 4; have hfz24_5 := blk_frozen BK279.out 5; have hfz24_6 := blk_frozen BK279.out 6; have hfz24_7 := blk_frozen BK279.out 7; have hfz24_8 := blk_frozen BK279.out 8; have hfz24_9 := blk_frozen BK279.out 9; have hfz24_10 := blk_frozen BK279.out 10))
                go_ret2
                exact ⟨_, by first | rfl | (simp [errW_none, errW_some] <;> rfl) | (simp [*, errW_none, errW_some] <;> rfl), by first | exact Kd.R_nil _ _ _ _ _ | exact Kd.N_nil _ _ _ _ _ | exact Kd.V_nil _ _ _ _ _ | exact Kd.Q_nil _ _ _ _ _ | exact Kd.S_nil _ _ _ _ _, by repeat (first | (with_reducible first | exact HB.out | apply below_alloc | apply pw_below_drewN | apply below_drew1 | refine below_set ?_ GE279.out | refine below_set ?_ GE281.out) | exact HB.out)⟩
               ·rw [if_neg c20] at H
                have c20b0 : (((rd_T61 l0 x20_2).f2) != ((rd_T61 l1 x26_3).f1)) = false := by simpa using c20
                (try (have c20b1 : decide (((rd_T61 l0 x20_2).f2) = ((rd_T61 l1 x26_3).f1)) = true := by simpa using c20))
                (try (have c20b2 : (((rd_T61 l0 x20_2).f2) == ((rd_T61 l1 x26_3).f1)) = true := by simpa using c20))
                clear c20
                by_cases c25 : (!(((rd_T61 l0 x20_2).f4.f0).toList == (((rd_T61 l1 x26_3).f3.f0).toList)) || (!(((rd_T61 l0 x20_2).f4.f1).toList == (((rd_T61 l1 x26_3).f3.f1).toList)) || (!(((rd_T61 l0 x20_2).f4.f2) == ((rd_T61 l1 x26_3).f3.f2)) || (!(((rd_T61 l0 x20_2).f4.f3) == ((rd_T61 l1 x26_3).f3.f3)))))) = true
                ·rw [if_pos c25] at H
                 have c25b0 : (!(((rd_T61 l0 x20_2).f4.f0).toList == (((rd_T61 l1 x26_3).f3.f0).toList)) || (!(((rd_T61 l0 x20_2).f4.f1).toList == (((rd_T61 l1 x26_3).f3.f1).toList)) || (!(((rd_T61 l0 x20_2).f4.f2) == ((rd_T61 l1 x26_3).f3.f2)) || (!(((rd_T61 l0 x20_2).f4.f3) == ((rd_T61 l1 x26_3).f3.f3)))))) = true := c25
                 clear c25
                 simp only [Option.some.injEq, Prod.mk.injEq] at H
                 obtain ⟨rfl, rfl⟩ := H
                 have p280 : 0 ≤ (x26_3 : Int) := of_decide_eq_true (by first | (with_reducible assumption) | assumption)
                 have q280 : x26_3 < (l1.length : Int) := of_decide_eq_true (by first | (with_reducible assumption) | assumption)
                 obtain ⟨ad280, e280, hx280_0, hx280_1, hx280_2, hx280_3, hx280_4, hx280_5, hx280_6, hx280_7, hx280_8, hx280_9, hx280_10⟩ := at_T61 HR1.out x26_3 p280 q280
                 cases e280
                 replace hx280_0 := (HB.out.cell (World.block_lt_of_cell? w _ hx280_0)).trans hx280_0
                 replace hx280_1 := (HB.out.cell (World.block_lt_of_cell? w _ hx280_1)).trans hx280_1
                 replace hx280_2 := (HB.out.cell (World.block_lt_of_cell? w _ hx280_2)).trans hx280_2
                 replace hx280_3 := (HB.out.cell (World.block_lt_of_cell? w _ hx280_3)).trans hx280_3
                 replace hx280_4 := (HB.out.cell (World.block_lt_of_cell? w _ hx280_4)).trans hx280_4
                 replace hx280_5 := (HB.out.cell (World.block_lt_of_cell? w _ hx280_5)).trans hx280_5
                 replace hx280_6 := (HB.out.cell (World.block_lt_of_cell? w _ hx280_6)).trans hx280_6
                 replace hx280_7 := (HB.out.cell (World.block_lt_of_cell? w _ hx280_7)).trans hx280_7
                 replace hx280_8 := (HB.out.cell (World.block_lt_of_cell? w _ hx280_8)).trans hx280_8
                 replace hx280_9 := (HB.out.cell (World.block_lt_of_cell? w _ hx280_9)).trans hx280_9
                 replace hx280_10 := (HB.out.cell (World.block_lt_of_cell? w _ hx280_10)).trans hx280_10
                 replace p280 := eq_true p280
                 replace q280 := eq_true q280
                 go_wp2_with (first | ((with_reducible refine gate_dst (N := 9) rfl ?_); refine box_event ?hg (N := 9) ?hd (cs := #[.string (⟨#[]⟩ : ByteArray), .bool false, .bool false, .string (⟨#[]⟩ : ByteArray), .string (⟨#[]⟩ : ByteArray), .int .i64 0, .int .i64 0, .string (⟨#[]⟩ : ByteArray), .string (⟨#[]⟩ : ByteArray), .int .i64 0, .int .i64 0]) (t := 61) ?hr ?_; (case hd => rfl); (case hg => rfl); (case hr => first | (go_simp; done) | (go_simp; rfl)); intro gb281 hg w26 hbox hb; have n0_ := Aside0.mk (blk_below (g := gb279) (o := .cells #[.string ((rd_T61 l0 x20_2).f0), .bool ((rd_T61 l0 x20_2).f1), .bool ((rd_T61 l0 x20_2).f2), .string ((rd_T61 l0 x20_2).f3.f0), .string ((rd_T61 l0 x20_2).f3.f1), .int .i64 ((rd_T61 l0 x20_2).f3.f2), .int .i64 ((rd_T61 l0 x20_2).f3.f3), .string ((rd_T61 l0 x20_2).f4.f0), .string ((rd_T61 l0 x20_2).f4.f1), .int .i64 ((rd_T61 l0 x20_2).f4.f2), .int .i64 ((rd_T61 l0 x20_2).f4.f3)] 61 (0, 0)) (by (with_reducible repeat (first | refine blk_drewN ?_ _ | refine blk_drew ?_ | refine blk_alloc ?_ _)); exact BK279.out) hb); have n1_ := Aside0.mk (below_step (by repeat (first | (with_reducible first | exact HB.out | apply below_alloc | apply pw_below_drewN | apply below_drew1 | refine below_set ?_ GE279.out) | exact HB.out)) hb); have n2_ := Aside0.mk (hbox); have n3_ := Aside0.mk ((by rw [hg]; exact (below_size (by repeat (first | (with_reducible first | exact HB.out | apply below_alloc | apply pw_below_drewN | apply below_drew1 | refine below_set ?_ GE279.out) | exact HB.out))) : w.heap.size ≤ gb281)); have n4_ := Aside0.mk ((by rw [hg]; exact (below_size (by repeat (first | (with_reducible first | exact HB.out | apply below_alloc | apply pw_below_drewN | apply below_drew1 | refine below_set ?_ GE279.out) | exact HB.out))) : w.heap.size ≤ gb281)); have n5_ := Aside0.mk ((by rw [hg]; exact Nat.ne_of_lt (blk_lt (g := gb279) (o := .cells #[.string ((rd_T61 l0 x20_2).f0), .bool ((rd_T61 l0 x20_2).f1), .bool ((rd_T61 l0 x20_2).f2), .string ((rd_T61 l0 x20_2).f3.f0), .string ((rd_T61 l0 x20_2).f3.f1), .int .i64 ((rd_T61 l0 x20_2).f3.f2), .int .i64 ((rd_T61 l0 x20_2).f3.f3), .string ((rd_T61 l0 x20_2).f4.f0), .string ((rd_T61 l0 x20_2).f4.f1), .int .i64 ((rd_T61 l0 x20_2).f4.f2), .int .i64 ((rd_T61 l0 x20_2).f4.f3)] 61 (0, 0)) (by (with_reducible repeat (first | refine blk_drewN ?_ _ | refine blk_drew ?_ | refine blk_alloc ?_ _)); exact BK279.out)) : gb279 ≠ gb281)); have n6_ := Aside0.mk ((by rw [hg]; exact Nat.ne_of_gt (blk_lt (g := gb279) (o := .cells #[.string ((rd_T61 l0 x20_2).f0), .bool ((rd_T61 l0 x20_2).f1), .bool ((rd_T61 l0 x20_2).f2), .string ((rd_T61 l0 x20_2).f3.f0), .string ((rd_T61 l0 x20_2).f3.f1), .int .i64 ((rd_T61 l0 x20_2).f3.f2), .int .i64 ((rd_T61 l0 x20_2).f3.f3), .string ((rd_T61 l0 x20_2).f4.f0), .string ((rd_T61 l0 x20_2).f4.f1), .int .i64 ((rd_T61 l0 x20_2).f4.f2), .int .i64 ((rd_T61 l0 x20_2).f4.f3)] 61 (0, 0)) (by (with_reducible repeat (first | refine blk_drewN ?_ _ | refine blk_drew ?_ | refine blk_alloc ?_ _)); exact BK279.out)) : gb281 ≠ gb279)); clear BK279; clear HB; have BK279 := n0_; have HB := n1_; have BK281 := n2_; have GW281 := n3_; have GE281 := n4_; have NB279_281 := n5_; have NB281_279 := n6_; clear n0_ n1_ n2_ n3_ n4_ n5_ n6_; clear hb hbox hg; have hnb27 := NB281_279.out; have hnc27 := NB279_281.out; have hcz28_0 : w26.cell? ⟨gb281, 0, none⟩ = some (.string (⟨#[]⟩ : ByteArray)) := (blk_cell BK281.out 0).trans rfl; have hcz28_1 : w26.cell? ⟨gb281, 1, none⟩ = some (.bool false) := (blk_cell BK281.out 1).trans rfl; have hcz28_2 : w26.cell? ⟨gb281, 2, none⟩ = some (.bool false) := (blk_cell BK281.out 2).trans rfl; have hcz28_3 : w26.cell? ⟨gb281, 3, none⟩ = some (.string (⟨#[]⟩ : ByteArray)) := (blk_cell BK281.out 3).trans rfl; have hcz28_4 : w26.cell? ⟨gb281, 4, none⟩ = some (.string (⟨#[]⟩ : ByteArray)) := (blk_cell BK281.out 4).trans rfl; have hcz28_5 : w26.cell? ⟨gb281, 5, none⟩ = some (.int .i64 0) := (blk_cell BK281.out 5).trans rfl; have hcz28_6 : w26.cell? ⟨gb281, 6, none⟩ = some (.int .i64 0) := (blk_cell BK281.out 6).trans rfl; have hcz28_7 : w26.cell? ⟨gb281, 7, none⟩ = some (.string (⟨#[]⟩ : ByteArray)) := (blk_cell BK281.out 7).trans rfl; have hcz28_8 : w26.cell? ⟨gb281, 8, none⟩ = some (.string (⟨#[]⟩ : ByteArray)) := (blk_cell BK281.out 8).trans rfl; have hcz28_9 : w26.cell? ⟨gb281, 9, none⟩ = some (.int .i64 0) := (blk_cell BK281.out 9).trans rfl; have hcz28_10 : w26.cell? ⟨gb281, 10, none⟩ = some (.int .i64 0) := (blk_cell BK281.out 10).trans rfl; have hfz28_0 := blk_frozen BK281.out 0; have hfz28_1 := blk_frozen BK281.out 1; have hfz28_2 := blk_frozen BK281.out 2; have hfz28_3 := blk_frozen BK281.out 3; have hfz28_4 := blk_frozen BK281.out 4; have hfz28_5 := blk_frozen BK281.out 5; have hfz28_6 := blk_frozen BK281.out 6; have hfz28_7 := blk_frozen BK281.out 7; have hfz28_8 := blk_frozen BK281.out 8; have hfz28_9 := blk_frozen BK281.out 9; have hfz28_10 := blk_frozen BK281.out 10; have hcz29_0 : w26.cell? ⟨gb279, 0, none⟩ = some (.string ((rd_T61 l0 x20_2).f0)) := (blk_cell BK279.out 0).trans rfl; have hcz29_1 : w26.cell? ⟨gb279, 1, none⟩ = some (.bool ((rd_T61 l0 x20_2).f1)) := (blk_cell BK279.out 1).trans rfl; have hcz29_2 : w26.cell? ⟨gb279, 2, none⟩ = some (.bool ((rd_T61 l0 x20_2).f2)) := (blk_cell BK279.out 2).trans rfl; have hcz29_3 : w26.cell? ⟨gb279, 3, none⟩ = some (.string ((rd_T61 l0 x20_2).f3.f0)) := (blk_cell BK279.out 3).trans rfl; have hcz29_4 : w26.cell? ⟨gb279, 4, none⟩ = some (.string ((rd_T61 l0 x20_2).f3.f1)) := (blk_cell BK279.out 4).trans rfl; have hcz29_5 : w26.cell? ⟨gb279, 5, none⟩ = some (.int .i64 ((rd_T61 l0 x20_2).f3.f2)) := (blk_cell BK279.out 5).trans rfl; have hcz29_6 : w26.cell? ⟨gb279, 6, none⟩ = some (.int .i64 ((rd_T61 l0 x20_2).f3.f3)) := (blk_cell BK279.out 6).trans rfl; have hcz29_7 : w26.cell? ⟨gb279, 7, none⟩ = some (.string ((rd_T61 l0 x20_2).f4.f0)) := (blk_cell BK279.out 7).trans rfl; have hcz29_8 : w26.cell? ⟨gb279, 8, none⟩ = some (.string ((rd_T61 l0 x20_2).f4.f1)) := (blk_cell BK279.out 8).trans rfl; have hcz29_9 : w26.cell? ⟨gb279, 9, none⟩ = some (.int .i64 ((rd_T61 l0 x20_2).f4.f2)) := (blk_cell BK279.out 9).trans rfl; have hcz29_10 : w26.cell? ⟨gb279, 10, none⟩ = some (.int .i64 ((rd_T61 l0 x20_2).f4.f3)) := (blk_cell BK279.out 10).trans rfl; have hfz29_0 := blk_frozen BK279.out 0; have hfz29_1 := blk_frozen BK279.out 1; have hfz29_2 := blk_frozen BK279.out 2; have hfz29_3 := blk_frozen BK279.out 3; have hfz29_4 := blk_frozen BK279.out 4; have hfz29_5 := blk_frozen BK279.out 5; have hfz29_6 := blk_frozen BK279.out 6; have hfz29_7 := blk_frozen BK279.out 7; have hfz29_8 := blk_frozen BK279.out 8; have hfz29_9 := blk_frozen BK279.out 9; have hfz29_10 := blk_frozen BK279.out 10))
                 go_ret2
                 exact ⟨_, by first | rfl | (simp [errW_none, errW_some] <;> rfl) | (simp [*, errW_none, errW_some] <;> rfl), by first | exact Kd.R_nil _ _ _ _ _ | exact Kd.N_nil _ _ _ _ _ | exact Kd.V_nil _ _ _ _ _ | exact Kd.Q_nil _ _ _ _ _ | exact Kd.S_nil _ _ _ _ _, by repeat (first | (with_reducible first | exact HB.out | apply below_alloc | apply pw_below_drewN | apply below_drew1 | refine below_set ?_ GE279.out | refine below_set ?_ GE281.out) | exact HB.out)⟩
                ·rw [if_neg c25] at H
                 have c25b0 : (!(((rd_T61 l0 x20_2).f4.f0).toList == (((rd_T61 l1 x26_3).f3.f0).toList)) || (!(((rd_T61 l0 x20_2).f4.f1).toList == (((rd_T61 l1 x26_3).f3.f1).toList)) || (!(((rd_T61 l0 x20_2).f4.f2) == ((rd_T61 l1 x26_3).f3.f2)) || (!(((rd_T61 l0 x20_2).f4.f3) == ((rd_T61 l1 x26_3).f3.f3)))))) = false := by simpa using c25
                 clear c25
                 have H' := Aside0.mk H
                 clear H
                 have p280 : 0 ≤ (x26_3 : Int) := of_decide_eq_true (by first | (with_reducible assumption) | assumption)
                 have q280 : x26_3 < (l1.length : Int) := of_decide_eq_true (by first | (with_reducible assumption) | assumption)
                 obtain ⟨ad280, e280, hx280_0, hx280_1, hx280_2, hx280_3, hx280_4, hx280_5, hx280_6, hx280_7, hx280_8, hx280_9, hx280_10⟩ := at_T61 HR1.out x26_3 p280 q280
                 cases e280
                 replace hx280_0 := (HB.out.cell (World.block_lt_of_cell? w _ hx280_0)).trans hx280_0
                 replace hx280_1 := (HB.out.cell (World.block_lt_of_cell? w _ hx280_1)).trans hx280_1
                 replace hx280_2 := (HB.out.cell (World.block_lt_of_cell? w _ hx280_2)).trans hx280_2
                 replace hx280_3 := (HB.out.cell (World.block_lt_of_cell? w _ hx280_3)).trans hx280_3
                 replace hx280_4 := (HB.out.cell (World.block_lt_of_cell? w _ hx280_4)).trans hx280_4
                 replace hx280_5 := (HB.out.cell (World.block_lt_of_cell? w _ hx280_5)).trans hx280_5
                 replace hx280_6 := (HB.out.cell (World.block_lt_of_cell? w _ hx280_6)).trans hx280_6
                 replace hx280_7 := (HB.out.cell (World.block_lt_of_cell? w _ hx280_7)).trans hx280_7
                 replace hx280_8 := (HB.out.cell (World.block_lt_of_cell? w _ hx280_8)).trans hx280_8
                 replace hx280_9 := (HB.out.cell (World.block_lt_of_cell? w _ hx280_9)).trans hx280_9
                 replace hx280_10 := (HB.out.cell (World.block_lt_of_cell? w _ hx280_10)).trans hx280_10
                 replace p280 := eq_true p280
                 replace q280 := eq_true q280
                 go_wp2_with (first | ((with_reducible refine gate_dst (N := 9) rfl ?_); refine box_event ?hg (N := 9) ?hd (cs := #[.string (⟨#[]⟩ : ByteArray), .bool false, .bool false, .string (⟨#[]⟩ : ByteArray), .string (⟨#[]⟩ : ByteArray), .int .i64 0, .int .i64 0, .string (⟨#[]⟩ : ByteArray), .string (⟨#[]⟩ : ByteArray), .int .i64 0, .int .i64 0]) (t := 61) ?hr ?_; (case hd => rfl); (case hg => rfl); (case hr => first | (go_simp; done) | (go_simp; rfl)); intro gb281 hg w30 hbox hb; have n0_ := Aside0.mk (blk_below (g := gb279) (o := .cells #[.string ((rd_T61 l0 x20_2).f0), .bool ((rd_T61 l0 x20_2).f1), .bool ((rd_T61 l0 x20_2).f2), .string ((rd_T61 l0 x20_2).f3.f0), .string ((rd_T61 l0 x20_2).f3.f1), .int .i64 ((rd_T61 l0 x20_2).f3.f2), .int .i64 ((rd_T61 l0 x20_2).f3.f3), .string ((rd_T61 l0 x20_2).f4.f0), .string ((rd_T61 l0 x20_2).f4.f1), .int .i64 ((rd_T61 l0 x20_2).f4.f2), .int .i64 ((rd_T61 l0 x20_2).f4.f3)] 61 (0, 0)) (by (with_reducible repeat (first | refine blk_drewN ?_ _ | refine blk_drew ?_ | refine blk_alloc ?_ _)); exact BK279.out) hb); have n1_ := Aside0.mk (below_step (by repeat (first | (with_reducible first | exact HB.out | apply below_alloc | apply pw_below_drewN | apply below_drew1 | refine below_set ?_ GE279.out) | exact HB.out)) hb); have n2_ := Aside0.mk (hbox); have n3_ := Aside0.mk ((by rw [hg]; exact (below_size (by repeat (first | (with_reducible first | exact HB.out | apply below_alloc | apply pw_below_drewN | apply below_drew1 | refine below_set ?_ GE279.out) | exact HB.out))) : w.heap.size ≤ gb281)); have n4_ := Aside0.mk ((by rw [hg]; exact (below_size (by repeat (first | (with_reducible first | exact HB.out | apply below_alloc | apply pw_below_drewN | apply below_drew1 | refine below_set ?_ GE279.out) | exact HB.out))) : w.heap.size ≤ gb281)); have n5_ := Aside0.mk ((by rw [hg]; exact Nat.ne_of_lt (blk_lt (g := gb279) (o := .cells #[.string ((rd_T61 l0 x20_2).f0), .bool ((rd_T61 l0 x20_2).f1), .bool ((rd_T61 l0 x20_2).f2), .string ((rd_T61 l0 x20_2).f3.f0), .string ((rd_T61 l0 x20_2).f3.f1), .int .i64 ((rd_T61 l0 x20_2).f3.f2), .int .i64 ((rd_T61 l0 x20_2).f3.f3), .string ((rd_T61 l0 x20_2).f4.f0), .string ((rd_T61 l0 x20_2).f4.f1), .int .i64 ((rd_T61 l0 x20_2).f4.f2), .int .i64 ((rd_T61 l0 x20_2).f4.f3)] 61 (0, 0)) (by (with_reducible repeat (first | refine blk_drewN ?_ _ | refine blk_drew ?_ | refine blk_alloc ?_ _)); exact BK279.out)) : gb279 ≠ gb281)); have n6_ := Aside0.mk ((by rw [hg]; exact Nat.ne_of_gt (blk_lt (g := gb279) (o := .cells #[.string ((rd_T61 l0 x20_2).f0), .bool ((rd_T61 l0 x20_2).f1), .bool ((rd_T61 l0 x20_2).f2), .string ((rd_T61 l0 x20_2).f3.f0), .string ((rd_T61 l0 x20_2).f3.f1), .int .i64 ((rd_T61 l0 x20_2).f3.f2), .int .i64 ((rd_T61 l0 x20_2).f3.f3), .string ((rd_T61 l0 x20_2).f4.f0), .string ((rd_T61 l0 x20_2).f4.f1), .int .i64 ((rd_T61 l0 x20_2).f4.f2), .int .i64 ((rd_T61 l0 x20_2).f4.f3)] 61 (0, 0)) (by (with_reducible repeat (first | refine blk_drewN ?_ _ | refine blk_drew ?_ | refine blk_alloc ?_ _)); exact BK279.out)) : gb281 ≠ gb279)); clear BK279; clear HB; have BK279 := n0_; have HB := n1_; have BK281 := n2_; have GW281 := n3_; have GE281 := n4_; have NB279_281 := n5_; have NB281_279 := n6_; clear n0_ n1_ n2_ n3_ n4_ n5_ n6_; clear hb hbox hg; have hnb31 := NB281_279.out; have hnc31 := NB279_281.out; have hcz32_0 : w30.cell? ⟨gb281, 0, none⟩ = some (.string (⟨#[]⟩ : ByteArray)) := (blk_cell BK281.out 0).trans rfl; have hcz32_1 : w30.cell? ⟨gb281, 1, none⟩ = some (.bool false) := (blk_cell BK281.out 1).trans rfl; have hcz32_2 : w30.cell? ⟨gb281, 2, none⟩ = some (.bool false) := (blk_cell BK281.out 2).trans rfl; have hcz32_3 : w30.cell? ⟨gb281, 3, none⟩ = some (.string (⟨#[]⟩ : ByteArray)) := (blk_cell BK281.out 3).trans rfl; have hcz32_4 : w30.cell? ⟨gb281, 4, none⟩ = some (.string (⟨#[]⟩ : ByteArray)) := (blk_cell BK281.out 4).trans rfl; have hcz32_5 : w30.cell? ⟨gb281, 5, none⟩ = some (.int .i64 0) := (blk_cell BK281.out 5).trans rfl; have hcz32_6 : w30.cell? ⟨gb281, 6, none⟩ = some (.int .i64 0) := (blk_cell BK281.out 6).trans rfl; have hcz32_7 : w30.cell? ⟨gb281, 7, none⟩ = some (.string (⟨#[]⟩ : ByteArray)) := (blk_cell BK281.out 7).trans rfl; have hcz32_8 : w30.cell? ⟨gb281, 8, none⟩ = some (.string (⟨#[]⟩ : ByteArray)) := (blk_cell BK281.out 8).trans rfl; have hcz32_9 : w30.cell? ⟨gb281, 9, none⟩ = some (.int .i64 0) := (blk_cell BK281.out 9).trans rfl; have hcz32_10 : w30.cell? ⟨gb281, 10, none⟩ = some (.int .i64 0) := (blk_cell BK281.out 10).trans rfl; have hfz32_0 := blk_frozen BK281.out 0; have hfz32_1 := blk_frozen BK281.out 1; have hfz32_2 := blk_frozen BK281.out 2; have hfz32_3 := blk_frozen BK281.out 3; have hfz32_4 := blk_frozen BK281.out 4; have hfz32_5 := blk_frozen BK281.out 5; have hfz32_6 := blk_frozen BK281.out 6; have hfz32_7 := blk_frozen BK281.out 7; have hfz32_8 := blk_frozen BK281.out 8; have hfz32_9 := blk_frozen BK281.out 9; have hfz32_10 := blk_frozen BK281.out 10; have hcz33_0 : w30.cell? ⟨gb279, 0, none⟩ = some (.string ((rd_T61 l0 x20_2).f0)) := (blk_cell BK279.out 0).trans rfl; have hcz33_1 : w30.cell? ⟨gb279, 1, none⟩ = some (.bool ((rd_T61 l0 x20_2).f1)) := (blk_cell BK279.out 1).trans rfl; have hcz33_2 : w30.cell? ⟨gb279, 2, none⟩ = some (.bool ((rd_T61 l0 x20_2).f2)) := (blk_cell BK279.out 2).trans rfl; have hcz33_3 : w30.cell? ⟨gb279, 3, none⟩ = some (.string ((rd_T61 l0 x20_2).f3.f0)) := (blk_cell BK279.out 3).trans rfl; have hcz33_4 : w30.cell? ⟨gb279, 4, none⟩ = some (.string ((rd_T61 l0 x20_2).f3.f1)) := (blk_cell BK279.out 4).trans rfl; have hcz33_5 : w30.cell? ⟨gb279, 5, none⟩ = some (.int .i64 ((rd_T61 l0 x20_2).f3.f2)) := (blk_cell BK279.out 5).trans rfl; have hcz33_6 : w30.cell? ⟨gb279, 6, none⟩ = some (.int .i64 ((rd_T61 l0 x20_2).f3.f3)) := (blk_cell BK279.out 6).trans rfl; have hcz33_7 : w30.cell? ⟨gb279, 7, none⟩ = some (.string ((rd_T61 l0 x20_2).f4.f0)) := (blk_cell BK279.out 7).trans rfl; have hcz33_8 : w30.cell? ⟨gb279, 8, none⟩ = some (.string ((rd_T61 l0 x20_2).f4.f1)) := (blk_cell BK279.out 8).trans rfl; have hcz33_9 : w30.cell? ⟨gb279, 9, none⟩ = some (.int .i64 ((rd_T61 l0 x20_2).f4.f2)) := (blk_cell BK279.out 9).trans rfl; have hcz33_10 : w30.cell? ⟨gb279, 10, none⟩ = some (.int .i64 ((rd_T61 l0 x20_2).f4.f3)) := (blk_cell BK279.out 10).trans rfl; have hfz33_0 := blk_frozen BK279.out 0; have hfz33_1 := blk_frozen BK279.out 1; have hfz33_2 := blk_frozen BK279.out 2; have hfz33_3 := blk_frozen BK279.out 3; have hfz33_4 := blk_frozen BK279.out 4; have hfz33_5 := blk_frozen BK279.out 5; have hfz33_6 := blk_frozen BK279.out 6; have hfz33_7 := blk_frozen BK279.out 7; have hfz33_8 := blk_frozen BK279.out 8; have hfz33_9 := blk_frozen BK279.out 9; have hfz33_10 := blk_frozen BK279.out 10))
                 go_roundg k3
                 case measure => have := HJ2.out; have := HK2.out; have := HK3.out; omega
                 case rel => exact ⟨(wrap64 (x26_3 + 1)), (by first | rfl | (simp; done) | (simp [*]; done)), H', ⟨by have := HJ2.out; have := HK2.out; have := HK3.out; omega⟩, ⟨by (with_reducible repeat (first | refine blk_drewN ?_ _ | refine blk_drew ?_ | refine blk_alloc ?_ _)); refine blk_far ?_ NB279_281.out _; (with_reducible repeat (first | refine blk_drewN ?_ _ | refine blk_drew ?_ | refine blk_alloc ?_ _)); refine blk_far ?_ NB279_281.out _; (with_reducible repeat (first | refine blk_drewN ?_ _ | refine blk_drew ?_ | refine blk_alloc ?_ _)); refine blk_far ?_ NB279_281.out _; (with_reducible repeat (first | refine blk_drewN ?_ _ | refine blk_drew ?_ | refine blk_alloc ?_ _)); refine blk_far ?_ NB279_281.out _; (with_reducible repeat (first | refine blk_drewN ?_ _ | refine blk_drew ?_ | refine blk_alloc ?_ _)); refine blk_far ?_ NB279_281.out _; (with_reducible repeat (first | refine blk_drewN ?_ _ | refine blk_drew ?_ | refine blk_alloc ?_ _)); refine blk_far ?_ NB279_281.out _; (with_reducible repeat (first | refine blk_drewN ?_ _ | refine blk_drew ?_ | refine blk_alloc ?_ _)); refine blk_far ?_ NB279_281.out _; (with_reducible repeat (first | refine blk_drewN ?_ _ | refine blk_drew ?_ | refine blk_alloc ?_ _)); refine blk_far ?_ NB279_281.out _; (with_reducible repeat (first | refine blk_drewN ?_ _ | refine blk_drew ?_ | refine blk_alloc ?_ _)); refine blk_far ?_ NB279_281.out _; (with_reducible repeat (first | refine blk_drewN ?_ _ | refine blk_drew ?_ | refine blk_alloc ?_ _)); refine blk_far ?_ NB279_281.out _; (with_reducible repeat (first | refine blk_drewN ?_ _ | refine blk_drew ?_ | refine blk_alloc ?_ _)); refine blk_far ?_ NB279_281.out _; (with_reducible repeat (first | refine blk_drewN ?_ _ | refine blk_drew ?_ | refine blk_alloc ?_ _)); exact BK279.out⟩, ⟨by repeat (first | (with_reducible first | exact HB.out | apply below_alloc | apply pw_below_drewN | apply below_drew1 | refine below_set ?_ GE279.out | refine below_set ?_ GE281.out) | exact HB.out)⟩⟩
              ·rw [if_neg c19] at H
               have c19b0 : (((rd_T61 l0 x20_2).f0).toList == ((rd_T61 l1 x26_3).f0).toList) = false := beq_eq_false_iff_ne.mpr c19
               have c19b1 : (((rd_T61 l0 x20_2).f0).toList != ((rd_T61 l1 x26_3).f0).toList) = true := bne_iff_ne.mpr c19
               have H' := Aside0.mk H
               clear H
               have p280 : 0 ≤ (x26_3 : Int) := of_decide_eq_true (by first | (with_reducible assumption) | assumption)
               have q280 : x26_3 < (l1.length : Int) := of_decide_eq_true (by first | (with_reducible assumption) | assumption)
               obtain ⟨ad280, e280, hx280_0, hx280_1, hx280_2, hx280_3, hx280_4, hx280_5, hx280_6, hx280_7, hx280_8, hx280_9, hx280_10⟩ := at_T61 HR1.out x26_3 p280 q280
               cases e280
               replace hx280_0 := (HB.out.cell (World.block_lt_of_cell? w _ hx280_0)).trans hx280_0
               replace hx280_1 := (HB.out.cell (World.block_lt_of_cell? w _ hx280_1)).trans hx280_1
               replace hx280_2 := (HB.out.cell (World.block_lt_of_cell? w _ hx280_2)).trans hx280_2
               replace hx280_3 := (HB.out.cell (World.block_lt_of_cell? w _ hx280_3)).trans hx280_3
               replace hx280_4 := (HB.out.cell (World.block_lt_of_cell? w _ hx280_4)).trans hx280_4
               replace hx280_5 := (HB.out.cell (World.block_lt_of_cell? w _ hx280_5)).trans hx280_5
               replace hx280_6 := (HB.out.cell (World.block_lt_of_cell? w _ hx280_6)).trans hx280_6
               replace hx280_7 := (HB.out.cell (World.block_lt_of_cell? w _ hx280_7)).trans hx280_7
               replace hx280_8 := (HB.out.cell (World.block_lt_of_cell? w _ hx280_8)).trans hx280_8
               replace hx280_9 := (HB.out.cell (World.block_lt_of_cell? w _ hx280_9)).trans hx280_9
               replace hx280_10 := (HB.out.cell (World.block_lt_of_cell? w _ hx280_10)).trans hx280_10
               replace p280 := eq_true p280
               replace q280 := eq_true q280
               go_wp2_with (first | ((with_reducible refine gate_dst (N := 9) rfl ?_); refine box_event ?hg (N := 9) ?hd (cs := #[.string (⟨#[]⟩ : ByteArray), .bool false, .bool false, .string (⟨#[]⟩ : ByteArray), .string (⟨#[]⟩ : ByteArray), .int .i64 0, .int .i64 0, .string (⟨#[]⟩ : ByteArray), .string (⟨#[]⟩ : ByteArray), .int .i64 0, .int .i64 0]) (t := 61) ?hr ?_; (case hd => rfl); (case hg => rfl); (case hr => first | (go_simp; done) | (go_simp; rfl)); intro gb281 hg w34 hbox hb; have n0_ := Aside0.mk (blk_below (g := gb279) (o := .cells #[.string ((rd_T61 l0 x20_2).f0), .bool ((rd_T61 l0 x20_2).f1), .bool ((rd_T61 l0 x20_2).f2), .string ((rd_T61 l0 x20_2).f3.f0), .string ((rd_T61 l0 x20_2).f3.f1), .int .i64 ((rd_T61 l0 x20_2).f3.f2), .int .i64 ((rd_T61 l0 x20_2).f3.f3), .string ((rd_T61 l0 x20_2).f4.f0), .string ((rd_T61 l0 x20_2).f4.f1), .int .i64 ((rd_T61 l0 x20_2).f4.f2), .int .i64 ((rd_T61 l0 x20_2).f4.f3)] 61 (0, 0)) (by (with_reducible repeat (first | refine blk_drewN ?_ _ | refine blk_drew ?_ | refine blk_alloc ?_ _)); exact BK279.out) hb); have n1_ := Aside0.mk (below_step (by repeat (first | (with_reducible first | exact HB.out | apply below_alloc | apply pw_below_drewN | apply below_drew1 | refine below_set ?_ GE279.out) | exact HB.out)) hb); have n2_ := Aside0.mk (hbox); have n3_ := Aside0.mk ((by rw [hg]; exact (below_size (by repeat (first | (with_reducible first | exact HB.out | apply below_alloc | apply pw_below_drewN | apply below_drew1 | refine below_set ?_ GE279.out) | exact HB.out))) : w.heap.size ≤ gb281)); have n4_ := Aside0.mk ((by rw [hg]; exact (below_size (by repeat (first | (with_reducible first | exact HB.out | apply below_alloc | apply pw_below_drewN | apply below_drew1 | refine below_set ?_ GE279.out) | exact HB.out))) : w.heap.size ≤ gb281)); have n5_ := Aside0.mk ((by rw [hg]; exact Nat.ne_of_lt (blk_lt (g := gb279) (o := .cells #[.string ((rd_T61 l0 x20_2).f0), .bool ((rd_T61 l0 x20_2).f1), .bool ((rd_T61 l0 x20_2).f2), .string ((rd_T61 l0 x20_2).f3.f0), .string ((rd_T61 l0 x20_2).f3.f1), .int .i64 ((rd_T61 l0 x20_2).f3.f2), .int .i64 ((rd_T61 l0 x20_2).f3.f3), .string ((rd_T61 l0 x20_2).f4.f0), .string ((rd_T61 l0 x20_2).f4.f1), .int .i64 ((rd_T61 l0 x20_2).f4.f2), .int .i64 ((rd_T61 l0 x20_2).f4.f3)] 61 (0, 0)) (by (with_reducible repeat (first | refine blk_drewN ?_ _ | refine blk_drew ?_ | refine blk_alloc ?_ _)); exact BK279.out)) : gb279 ≠ gb281)); have n6_ := Aside0.mk ((by rw [hg]; exact Nat.ne_of_gt (blk_lt (g := gb279) (o := .cells #[.string ((rd_T61 l0 x20_2).f0), .bool ((rd_T61 l0 x20_2).f1), .bool ((rd_T61 l0 x20_2).f2), .string ((rd_T61 l0 x20_2).f3.f0), .string ((rd_T61 l0 x20_2).f3.f1), .int .i64 ((rd_T61 l0 x20_2).f3.f2), .int .i64 ((rd_T61 l0 x20_2).f3.f3), .string ((rd_T61 l0 x20_2).f4.f0), .string ((rd_T61 l0 x20_2).f4.f1), .int .i64 ((rd_T61 l0 x20_2).f4.f2), .int .i64 ((rd_T61 l0 x20_2).f4.f3)] 61 (0, 0)) (by (with_reducible repeat (first | refine blk_drewN ?_ _ | refine blk_drew ?_ | refine blk_alloc ?_ _)); exact BK279.out)) : gb281 ≠ gb279)); clear BK279; clear HB; have BK279 := n0_; have HB := n1_; have BK281 := n2_; have GW281 := n3_; have GE281 := n4_; have NB279_281 := n5_; have NB281_279 := n6_; clear n0_ n1_ n2_ n3_ n4_ n5_ n6_; clear hb hbox hg; have hnb35 := NB281_279.out; have hnc35 := NB279_281.out; have hcz36_0 : w34.cell? ⟨gb281, 0, none⟩ = some (.string (⟨#[]⟩ : ByteArray)) := (blk_cell BK281.out 0).trans rfl; have hcz36_1 : w34.cell? ⟨gb281, 1, none⟩ = some (.bool false) := (blk_cell BK281.out 1).trans rfl; have hcz36_2 : w34.cell? ⟨gb281, 2, none⟩ = some (.bool false) := (blk_cell BK281.out 2).trans rfl; have hcz36_3 : w34.cell? ⟨gb281, 3, none⟩ = some (.string (⟨#[]⟩ : ByteArray)) := (blk_cell BK281.out 3).trans rfl; have hcz36_4 : w34.cell? ⟨gb281, 4, none⟩ = some (.string (⟨#[]⟩ : ByteArray)) := (blk_cell BK281.out 4).trans rfl; have hcz36_5 : w34.cell? ⟨gb281, 5, none⟩ = some (.int .i64 0) := (blk_cell BK281.out 5).trans rfl; have hcz36_6 : w34.cell? ⟨gb281, 6, none⟩ = some (.int .i64 0) := (blk_cell BK281.out 6).trans rfl; have hcz36_7 : w34.cell? ⟨gb281, 7, none⟩ = some (.string (⟨#[]⟩ : ByteArray)) := (blk_cell BK281.out 7).trans rfl; have hcz36_8 : w34.cell? ⟨gb281, 8, none⟩ = some (.string (⟨#[]⟩ : ByteArray)) := (blk_cell BK281.out 8).trans rfl; have hcz36_9 : w34.cell? ⟨gb281, 9, none⟩ = some (.int .i64 0) := (blk_cell BK281.out 9).trans rfl; have hcz36_10 : w34.cell? ⟨gb281, 10, none⟩ = some (.int .i64 0) := (blk_cell BK281.out 10).trans rfl; have hfz36_0 := blk_frozen BK281.out 0; have hfz36_1 := blk_frozen BK281.out 1; have hfz36_2 := blk_frozen BK281.out 2; have hfz36_3 := blk_frozen BK281.out 3; have hfz36_4 := blk_frozen BK281.out 4; have hfz36_5 := blk_frozen BK281.out 5; have hfz36_6 := blk_frozen BK281.out 6; have hfz36_7 := blk_frozen BK281.out 7; have hfz36_8 := blk_frozen BK281.out 8; have hfz36_9 := blk_frozen BK281.out 9; have hfz36_10 := blk_frozen BK281.out 10; have hcz37_0 : w34.cell? ⟨gb279, 0, none⟩ = some (.string ((rd_T61 l0 x20_2).f0)) := (blk_cell BK279.out 0).trans rfl; have hcz37_1 : w34.cell? ⟨gb279, 1, none⟩ = some (.bool ((rd_T61 l0 x20_2).f1)) := (blk_cell BK279.out 1).trans rfl; have hcz37_2 : w34.cell? ⟨gb279, 2, none⟩ = some (.bool ((rd_T61 l0 x20_2).f2)) := (blk_cell BK279.out 2).trans rfl; have hcz37_3 : w34.cell? ⟨gb279, 3, none⟩ = some (.string ((rd_T61 l0 x20_2).f3.f0)) := (blk_cell BK279.out 3).trans rfl; have hcz37_4 : w34.cell? ⟨gb279, 4, none⟩ = some (.string ((rd_T61 l0 x20_2).f3.f1)) := (blk_cell BK279.out 4).trans rfl; have hcz37_5 : w34.cell? ⟨gb279, 5, none⟩ = some (.int .i64 ((rd_T61 l0 x20_2).f3.f2)) := (blk_cell BK279.out 5).trans rfl; have hcz37_6 : w34.cell? ⟨gb279, 6, none⟩ = some (.int .i64 ((rd_T61 l0 x20_2).f3.f3)) := (blk_cell BK279.out 6).trans rfl; have hcz37_7 : w34.cell? ⟨gb279, 7, none⟩ = some (.string ((rd_T61 l0 x20_2).f4.f0)) := (blk_cell BK279.out 7).trans rfl; have hcz37_8 : w34.cell? ⟨gb279, 8, none⟩ = some (.string ((rd_T61 l0 x20_2).f4.f1)) := (blk_cell BK279.out 8).trans rfl; have hcz37_9 : w34.cell? ⟨gb279, 9, none⟩ = some (.int .i64 ((rd_T61 l0 x20_2).f4.f2)) := (blk_cell BK279.out 9).trans rfl; have hcz37_10 : w34.cell? ⟨gb279, 10, none⟩ = some (.int .i64 ((rd_T61 l0 x20_2).f4.f3)) := (blk_cell BK279.out 10).trans rfl; have hfz37_0 := blk_frozen BK279.out 0; have hfz37_1 := blk_frozen BK279.out 1; have hfz37_2 := blk_frozen BK279.out 2; have hfz37_3 := blk_frozen BK279.out 3; have hfz37_4 := blk_frozen BK279.out 4; have hfz37_5 := blk_frozen BK279.out 5; have hfz37_6 := blk_frozen BK279.out 6; have hfz37_7 := blk_frozen BK279.out 7; have hfz37_8 := blk_frozen BK279.out 8; have hfz37_9 := blk_frozen BK279.out 9; have hfz37_10 := blk_frozen BK279.out 10))
               go_roundg k3
               case measure => have := HJ2.out; have := HK2.out; have := HK3.out; omega
               case rel => exact ⟨(wrap64 (x26_3 + 1)), (by first | rfl | (simp; done) | (simp [*]; done)), H', ⟨by have := HJ2.out; have := HK2.out; have := HK3.out; omega⟩, ⟨by (with_reducible repeat (first | refine blk_drewN ?_ _ | refine blk_drew ?_ | refine blk_alloc ?_ _)); refine blk_far ?_ NB279_281.out _; (with_reducible repeat (first | refine blk_drewN ?_ _ | refine blk_drew ?_ | refine blk_alloc ?_ _)); refine blk_far ?_ NB279_281.out _; (with_reducible repeat (first | refine blk_drewN ?_ _ | refine blk_drew ?_ | refine blk_alloc ?_ _)); refine blk_far ?_ NB279_281.out _; (with_reducible repeat (first | refine blk_drewN ?_ _ | refine blk_drew ?_ | refine blk_alloc ?_ _)); refine blk_far ?_ NB279_281.out _; (with_reducible repeat (first | refine blk_drewN ?_ _ | refine blk_drew ?_ | refine blk_alloc ?_ _)); refine blk_far ?_ NB279_281.out _; (with_reducible repeat (first | refine blk_drewN ?_ _ | refine blk_drew ?_ | refine blk_alloc ?_ _)); refine blk_far ?_ NB279_281.out _; (with_reducible repeat (first | refine blk_drewN ?_ _ | refine blk_drew ?_ | refine blk_alloc ?_ _)); refine blk_far ?_ NB279_281.out _; (with_reducible repeat (first | refine blk_drewN ?_ _ | refine blk_drew ?_ | refine blk_alloc ?_ _)); refine blk_far ?_ NB279_281.out _; (with_reducible repeat (first | refine blk_drewN ?_ _ | refine blk_drew ?_ | refine blk_alloc ?_ _)); refine blk_far ?_ NB279_281.out _; (with_reducible repeat (first | refine blk_drewN ?_ _ | refine blk_drew ?_ | refine blk_alloc ?_ _)); refine blk_far ?_ NB279_281.out _; (with_reducible repeat (first | refine blk_drewN ?_ _ | refine blk_drew ?_ | refine blk_alloc ?_ _)); refine blk_far ?_ NB279_281.out _; (with_reducible repeat (first | refine blk_drewN ?_ _ | refine blk_drew ?_ | refine blk_alloc ?_ _)); exact BK279.out⟩, ⟨by repeat (first | (with_reducible first | exact HB.out | apply below_alloc | apply pw_below_drewN | apply below_drew1 | refine below_set ?_ GE279.out | refine below_set ?_ GE281.out) | exact HB.out)⟩⟩
             ·rw [if_neg c18] at H
              exact absurd H (by simp)
            ·rw [if_neg c17] at H
             exact absurd H (by simp)
           ·rw [if_neg c16] at H
            have c16b0 := decide_eq_false c16
            clear c16
            have H' := Aside0.mk H
            clear H
            go_wp2
            go_roundg k3
            case measure => have := HJ2.out; have := HK2.out; have := HK3.out; omega
            case rel => exact ⟨(wrap64 (x20_2 + 1)), (by first | rfl | (simp; done) | (simp [*]; done)), H', ⟨by have := HJ2.out; have := HK2.out; have := HK3.out; omega⟩, ⟨by repeat (first | (with_reducible first | exact HB.out | apply below_alloc | apply pw_below_drewN | apply below_drew1 | refine below_set ?_ GE279.out) | exact HB.out)⟩⟩
        ·rw [if_neg c13] at H
         exact absurd H (by simp)
       ·rw [if_neg c12] at H
        exact absurd H (by simp)
      ·rw [if_neg c11] at H
       have c11b0 := decide_eq_false c11
       clear c11
       replace H := Option.bind_eq_some_iff.mp H
       obtain ⟨t275, A380, H⟩ := H
       replace H : (some (t275, 0)) = some (r1, r2) := H
       have A38 := Aside0.mk A380
       clear A380
       simp only [Option.some.injEq, Prod.mk.injEq] at H
       obtain ⟨rfl, rfl⟩ := H
       go_wp2_with (first | ((with_reducible refine gate_callee (f := 51) rfl ?_); refine goesL_ (some 53) rfl rfl Tryd.func51 (by kernel_rfl) rfl #[.slice A0 l0.length c0, .slice A1 l1.length c1, .func (.func 52) #[] #[]] rfl (by (try simp only [List.map_toArray, List.map_cons, List.map_nil]); first | done | rfl | (simp only [List.length_drop, List.length_take]; rfl)) ?_; (with_reducible refine (delta_joined.calls k2 (fun k_ => k_ < w.heap.size) _ _ l0 (fun k_ => k_ < w.heap.size) _ _ l1 true t275 _ ?side1 ?side2 A38.out).mono ?_); (case side1 => exact Kd.V_mk HC0.out (Kd.F_below (Kd.C_F k61_heap HR0.out) (by repeat (first | (with_reducible first | exact HB.out | apply below_alloc | apply pw_below_drewN | apply below_drew1) | exact HB.out)))); (case side2 => exact Kd.V_mk HC1.out (Kd.F_below (Kd.C_F k61_heap HR1.out) (by repeat (first | (with_reducible first | exact HB.out | apply below_alloc | apply pw_below_drewN | apply below_drew1) | exact HB.out)))); rintro e w39 ⟨v276, rfl, ho0, hb⟩; refine ⟨_, rfl, ?_⟩; have n0_ := Aside0.mk (Kd.R_lower (Kd.R_mono (ok' := fun k_ => True) ho0 (fun _ hk_ => trivial)) (below_size (by repeat (first | (with_reducible first | exact HB.out | apply below_alloc | apply pw_below_drewN | apply below_drew1) | exact HB.out)))); have n1_ := Aside0.mk (below_step (by repeat (first | (with_reducible first | exact HB.out | apply below_alloc | apply pw_below_drewN | apply below_drew1) | exact HB.out)) hb); clear HB; have HO277 := n0_; have HB := n1_; clear n0_ n1_; (try clear hb); (try clear hb2); (try clear hk); (try clear hi); (try clear ho0)))
       go_ret2
       exact ⟨_, by first | rfl | (simp [errW_none, errW_some] <;> rfl) | (simp [*, errW_none, errW_some] <;> rfl), by (with_reducible repeat (first | apply Kd.R_alloc | apply Kd.R_drewN | apply Kd.R_drew)); exact HO277.out, by repeat (first | (with_reducible first | exact HB.out | apply below_alloc | apply pw_below_drewN | apply below_drew1) | exact HB.out)⟩
end Go.Proofs.YtehfogjibhnabaaDoor.PAll
namespace Go.Proofs.YtehfogjibhnabaaDoor.PAll
open Go.RowKit Go.Proofs.YtehfogjibhnabaaDoorW.PrintWords Go.Proofs.YtehfogjibhnabaaDoorW.PrintLast Go.Proofs.YtehfogjibhnabaaDoorW.PrintMore
open Go.Proofs.YtehfogjibhnabaaDoor.Sp
theorem snap_zero (l : List S55) : snapV l = 0 ↔ l.all placedB = true ∧ l.length ≤ 512 ∧ (∀ f ∈ l, fileR f = true) ∧ l.Pairwise (fun a b => Apart2 a.f0 b.f0) := by
 unfold snapV
 by_cases h1 : l.all placedB = true
 ·rw [if_pos h1]
  by_cases h2 : l.length > 512
  ·rw [if_pos h2]; constructor
   ·intro h; exact absurd h (by decide)
   ·rintro ⟨_, h, _⟩; omega
  ·rw [if_neg h2]
   have e := chain_all fileR S55.f0 l none
   constructor
   ·intro h
    by_cases c : chainR fileR S55.f0 none l = true
    ·obtain ⟨a, b, _⟩ := e.1 c; exact ⟨h1, by omega, a, b⟩
    ·rw [if_neg c] at h; exact absurd h (by decide)
   ·rintro ⟨_, _, a, b⟩
    rw [if_pos (e.2 ⟨a, b, fun y e => by cases e⟩)]
 ·rw [if_neg h1]; constructor
  ·intro h; exact absurd h (by decide)
  ·rintro ⟨h, _⟩; exact absurd h h1
end Go.Proofs.YtehfogjibhnabaaDoor.PAll
