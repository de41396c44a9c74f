/- What functions of the program compute, each with its walk: a contract for every world and every argument of the kind told. -/
import Derived.Test.YtdfkaclflmgkeaaDoorPAllx0
import Derived.Test.YtdfkaclflmgkeaaDoorPAlly0
import Derived.Test.YtdfkaclflmgkeaaDoorPAlly23
import Derived.Test.YtdfkaclflmgkeaaDoorPAlly24
import Derived.Test.YtdfkaclflmgkeaaDoorPAlly3
namespace Go.Proofs.YtdfkaclflmgkeaaDoor.PAll
open Go.RowKit Go.Proofs.YtdfkaclflmgkeaaDoorW.PrintWords Go.Proofs.YtdfkaclflmgkeaaDoorW.PrintLast Go.Proofs.YtdfkaclflmgkeaaDoorW.PrintMore
attribute [local go_sem] max2_int min2_int max_two min_two max_three min_three max_four min_four   -- for this text's walks alone
set_option linter.unusedVariables false
set_option linter.unusedSimpArgs false
/-! ### copselaw03_PathsAll: function 3 -/
mutual
def copselaw03_PathsAll.j0 : Nat → List ByteArray → List ByteArray → Bool → Option (Bool)
  | 0, _, _, _ => none
  | k + 1, x0, x1, x33 => if x33 = true then (some false) else (copselaw03_PathsAll.l0 k x0 x1 0)
def copselaw03_PathsAll.l0 : Nat → List ByteArray → List ByteArray → Int → Option (Bool)
  | 0, _, _, _ => none
  | k + 1, x0, x1, x7 => if x7 < 6 then ((copselaw03_lent.f k x0).bind fun t370 => ((copselaw03_lent.f k x1).bind fun t373 => (if 0 ≤ (x0.length : Int) then (if (x0.length : Int) ≤ (t370.length : Int) then (if 0 ≤ (x1.length : Int) then (if (x1.length : Int) ≤ (t373.length : Int) then ((copselaw03_called.f k x7 (t370.take ((x0.length : Int) : Int).toNat) (t373.take ((x1.length : Int) : Int).toNat) x0 x1).bind fun bt384 => ((copselaw03_texts.f k bt384.1 bt384.2).bind fun t390 => (if t390 = true then ((copselaw03_lent.f k x0).bind fun t391 => ((copselaw03_texts.f k t370 t391).bind fun t394 => (if t394 = true then ((copselaw03_lent.f k x1).bind fun t395 => ((copselaw03_texts.f k t373 t395).bind fun t398 => (copselaw03_PathsAll.j2 k x0 x1 x7 t370 t373 bt384.1 bt384.2 (!t398)))) else (copselaw03_PathsAll.j2 k x0 x1 x7 t370 t373 bt384.1 bt384.2 true)))) else (copselaw03_PathsAll.j2 k x0 x1 x7 t370 t373 bt384.1 bt384.2 true)))) else (none)) else (none)) else (none)) else (none)))) else (some true)
def copselaw03_PathsAll.j2 : Nat → List ByteArray → List ByteArray → Int → List ByteArray → List ByteArray → List ByteArray → List ByteArray → Bool → Option (Bool)
  | 0, _, _, _, _, _, _, _, _ => none
  | k + 1, x0, x1, x7, x8, x9, x10, x11, x74 => if x74 = true then (some false) else (copselaw03_PathsAll.l1 k x0 x1 x7 x8 x9 x10 x11 0)
def copselaw03_PathsAll.l1 : Nat → List ByteArray → List ByteArray → Int → List ByteArray → List ByteArray → List ByteArray → List ByteArray → Int → Option (Bool)
  | 0, _, _, _, _, _, _, _, _ => none
  | k + 1, x0, x1, x7, x8, x9, x10, x11, x12 => if x12 < (x8.length : Int) then (if 0 ≤ x12 then (copselaw03_PathsAll.l1 k x0 x1 x7 (x8.set (x12 : Int).toNat (⟨#[37]⟩ : ByteArray)) x9 x10 x11 (wrap64 (x12 + 1))) else (none)) else (copselaw03_PathsAll.l2 k x0 x1 x7 x9 x10 x11 0)
def copselaw03_PathsAll.l2 : Nat → List ByteArray → List ByteArray → Int → List ByteArray → List ByteArray → List ByteArray → Int → Option (Bool)
  | 0, _, _, _, _, _, _, _ => none
  | k + 1, x0, x1, x7, x9, x10, x11, x13 => if x13 < (x9.length : Int) then (if 0 ≤ x13 then (copselaw03_PathsAll.l2 k x0 x1 x7 (x9.set (x13 : Int).toNat (⟨#[37]⟩ : ByteArray)) x10 x11 (wrap64 (x13 + 1))) else (none)) else ((copselaw03_texts.f k x10 x11).bind fun t401 => (if t401 = true then (copselaw03_PathsAll.l0 k x0 x1 (wrap64 (x7 + 1))) else (some false)))
end
def copselaw03_PathsAll.f (k : Nat) (l0 : List ByteArray) (l1 : List ByteArray) (a2 : ByteArray) : Option (Bool) := (copselaw03_alive.f k).bind fun t365 => (if t365 = true then ((paths_Has.f k l0 a2).bind fun t366 => ((copseref03_Has.f k l0 a2).bind fun t367 => (if (t366 != t367) = true then (copselaw03_PathsAll.j0 k l0 l1 true) else ((paths_Has.f k l1 a2).bind fun t368 => ((copseref03_Has.f k l1 a2).bind fun t369 => (copselaw03_PathsAll.j0 k l0 l1 (t368 != t369))))))) else (copselaw03_PathsAll.j0 k l0 l1 true))
theorem copselaw03_PathsAll.mono_l : ∀ k, (∀ y0 y1 y2, LeO (copselaw03_PathsAll.j0 k y0 y1 y2) (copselaw03_PathsAll.j0 (k + 1) y0 y1 y2)) ∧ (∀ y0 y1 y2, LeO (copselaw03_PathsAll.l0 k y0 y1 y2) (copselaw03_PathsAll.l0 (k + 1) y0 y1 y2)) ∧ (∀ y0 y1 y2 y3 y4 y5 y6 y7, LeO (copselaw03_PathsAll.j2 k y0 y1 y2 y3 y4 y5 y6 y7) (copselaw03_PathsAll.j2 (k + 1) y0 y1 y2 y3 y4 y5 y6 y7)) ∧ (∀ y0 y1 y2 y3 y4 y5 y6 y7, LeO (copselaw03_PathsAll.l1 k y0 y1 y2 y3 y4 y5 y6 y7) (copselaw03_PathsAll.l1 (k + 1) y0 y1 y2 y3 y4 y5 y6 y7)) ∧ (∀ y0 y1 y2 y3 y4 y5 y6, LeO (copselaw03_PathsAll.l2 k y0 y1 y2 y3 y4 y5 y6) (copselaw03_PathsAll.l2 (k + 1) y0 y1 y2 y3 y4 y5 y6))
  | 0 => ⟨fun _ _ _ r h => by simp [copselaw03_PathsAll.j0] at h, fun _ _ _ r h => by simp [copselaw03_PathsAll.l0] at h, fun _ _ _ _ _ _ _ _ r h => by simp [copselaw03_PathsAll.j2] at h, fun _ _ _ _ _ _ _ _ r h => by simp [copselaw03_PathsAll.l1] at h, fun _ _ _ _ _ _ _ r h => by simp [copselaw03_PathsAll.l2] at h⟩
  | k + 1 => by
    obtain ⟨ih0, ih1, ih2, ih3, ih4⟩ := copselaw03_PathsAll.mono_l k
    refine ⟨?_, ?_, ?_, ?_, ?_⟩
    · intro y0 y1 y2
      unfold copselaw03_PathsAll.j0
      repeat' first
      | (with_reducible exact ih0 _ _ _)
      | (with_reducible exact ih1 _ _ _)
      | (with_reducible exact ih2 _ _ _ _ _ _ _ _)
      | (with_reducible exact ih3 _ _ _ _ _ _ _ _)
      | (with_reducible exact ih4 _ _ _ _ _ _ _)
      | (with_reducible exact copselaw03_alive.mono _)
      | (with_reducible exact copselaw03_called.mono _ _ _ _ _ _)
      | (with_reducible exact copselaw03_lent.mono _ _)
      | (with_reducible exact copselaw03_texts.mono _ _ _)
      | (with_reducible exact copseref03_Has.mono _ _ _)
      | (with_reducible exact paths_Has.mono _ _ _)
      | (with_reducible exact LeO.refl _)
      | (with_reducible exact LeO.none _)
      | (with_reducible refine LeO.ite ?_ ?_)
      | (with_reducible refine LeO.bind ?_ (fun _ => ?_))
      | exact ih0 _ _ _
      | exact ih1 _ _ _
      | exact ih2 _ _ _ _ _ _ _ _
      | exact ih3 _ _ _ _ _ _ _ _
      | exact ih4 _ _ _ _ _ _ _
      | exact copselaw03_alive.mono _
      | exact copselaw03_called.mono _ _ _ _ _ _
      | exact copselaw03_lent.mono _ _
      | exact copselaw03_texts.mono _ _ _
      | exact copseref03_Has.mono _ _ _
      | exact paths_Has.mono _ _ _
      | exact LeO.none _
      | refine LeO.ite ?_ ?_
      | refine LeO.bind ?_ (fun _ => ?_)
    · intro y0 y1 y2
      unfold copselaw03_PathsAll.l0
      repeat' first
      | (with_reducible exact ih0 _ _ _)
      | (with_reducible exact ih1 _ _ _)
      | (with_reducible exact ih2 _ _ _ _ _ _ _ _)
      | (with_reducible exact ih3 _ _ _ _ _ _ _ _)
      | (with_reducible exact ih4 _ _ _ _ _ _ _)
      | (with_reducible exact copselaw03_alive.mono _)
      | (with_reducible exact copselaw03_called.mono _ _ _ _ _ _)
      | (with_reducible exact copselaw03_lent.mono _ _)
      | (with_reducible exact copselaw03_texts.mono _ _ _)
      | (with_reducible exact copseref03_Has.mono _ _ _)
      | (with_reducible exact paths_Has.mono _ _ _)
      | (with_reducible exact LeO.refl _)
      | (with_reducible exact LeO.none _)
      | (with_reducible refine LeO.ite ?_ ?_)
      | (with_reducible refine LeO.bind ?_ (fun _ => ?_))
      | exact ih0 _ _ _
      | exact ih1 _ _ _
      | exact ih2 _ _ _ _ _ _ _ _
      | exact ih3 _ _ _ _ _ _ _ _
      | exact ih4 _ _ _ _ _ _ _
      | exact copselaw03_alive.mono _
      | exact copselaw03_called.mono _ _ _ _ _ _
      | exact copselaw03_lent.mono _ _
      | exact copselaw03_texts.mono _ _ _
      | exact copseref03_Has.mono _ _ _
      | exact paths_Has.mono _ _ _
      | exact LeO.none _
      | refine LeO.ite ?_ ?_
      | refine LeO.bind ?_ (fun _ => ?_)
    · intro y0 y1 y2 y3 y4 y5 y6 y7
      unfold copselaw03_PathsAll.j2
      repeat' first
      | (with_reducible exact ih0 _ _ _)
      | (with_reducible exact ih1 _ _ _)
      | (with_reducible exact ih2 _ _ _ _ _ _ _ _)
      | (with_reducible exact ih3 _ _ _ _ _ _ _ _)
      | (with_reducible exact ih4 _ _ _ _ _ _ _)
      | (with_reducible exact copselaw03_alive.mono _)
      | (with_reducible exact copselaw03_called.mono _ _ _ _ _ _)
      | (with_reducible exact copselaw03_lent.mono _ _)
      | (with_reducible exact copselaw03_texts.mono _ _ _)
      | (with_reducible exact copseref03_Has.mono _ _ _)
      | (with_reducible exact paths_Has.mono _ _ _)
      | (with_reducible exact LeO.refl _)
      | (with_reducible exact LeO.none _)
      | (with_reducible refine LeO.ite ?_ ?_)
      | (with_reducible refine LeO.bind ?_ (fun _ => ?_))
      | exact ih0 _ _ _
      | exact ih1 _ _ _
      | exact ih2 _ _ _ _ _ _ _ _
      | exact ih3 _ _ _ _ _ _ _ _
      | exact ih4 _ _ _ _ _ _ _
      | exact copselaw03_alive.mono _
      | exact copselaw03_called.mono _ _ _ _ _ _
      | exact copselaw03_lent.mono _ _
      | exact copselaw03_texts.mono _ _ _
      | exact copseref03_Has.mono _ _ _
      | exact paths_Has.mono _ _ _
      | exact LeO.none _
      | refine LeO.ite ?_ ?_
      | refine LeO.bind ?_ (fun _ => ?_)
    · intro y0 y1 y2 y3 y4 y5 y6 y7
      unfold copselaw03_PathsAll.l1
      repeat' first
      | (with_reducible exact ih0 _ _ _)
      | (with_reducible exact ih1 _ _ _)
      | (with_reducible exact ih2 _ _ _ _ _ _ _ _)
      | (with_reducible exact ih3 _ _ _ _ _ _ _ _)
      | (with_reducible exact ih4 _ _ _ _ _ _ _)
      | (with_reducible exact copselaw03_alive.mono _)
      | (with_reducible exact copselaw03_called.mono _ _ _ _ _ _)
      | (with_reducible exact copselaw03_lent.mono _ _)
      | (with_reducible exact copselaw03_texts.mono _ _ _)
      | (with_reducible exact copseref03_Has.mono _ _ _)
      | (with_reducible exact paths_Has.mono _ _ _)
      | (with_reducible exact LeO.refl _)
      | (with_reducible exact LeO.none _)
      | (with_reducible refine LeO.ite ?_ ?_)
      | (with_reducible refine LeO.bind ?_ (fun _ => ?_))
      | exact ih0 _ _ _
      | exact ih1 _ _ _
      | exact ih2 _ _ _ _ _ _ _ _
      | exact ih3 _ _ _ _ _ _ _ _
      | exact ih4 _ _ _ _ _ _ _
      | exact copselaw03_alive.mono _
      | exact copselaw03_called.mono _ _ _ _ _ _
      | exact copselaw03_lent.mono _ _
      | exact copselaw03_texts.mono _ _ _
      | exact copseref03_Has.mono _ _ _
      | exact paths_Has.mono _ _ _
      | exact LeO.none _
      | refine LeO.ite ?_ ?_
      | refine LeO.bind ?_ (fun _ => ?_)
    · intro y0 y1 y2 y3 y4 y5 y6
      unfold copselaw03_PathsAll.l2
      repeat' first
      | (with_reducible exact ih0 _ _ _)
      | (with_reducible exact ih1 _ _ _)
      | (with_reducible exact ih2 _ _ _ _ _ _ _ _)
      | (with_reducible exact ih3 _ _ _ _ _ _ _ _)
      | (with_reducible exact ih4 _ _ _ _ _ _ _)
      | (with_reducible exact copselaw03_alive.mono _)
      | (with_reducible exact copselaw03_called.mono _ _ _ _ _ _)
      | (with_reducible exact copselaw03_lent.mono _ _)
      | (with_reducible exact copselaw03_texts.mono _ _ _)
      | (with_reducible exact copseref03_Has.mono _ _ _)
      | (with_reducible exact paths_Has.mono _ _ _)
      | (with_reducible exact LeO.refl _)
      | (with_reducible exact LeO.none _)
      | (with_reducible refine LeO.ite ?_ ?_)
      | (with_reducible refine LeO.bind ?_ (fun _ => ?_))
      | exact ih0 _ _ _
      | exact ih1 _ _ _
      | exact ih2 _ _ _ _ _ _ _ _
      | exact ih3 _ _ _ _ _ _ _ _
      | exact ih4 _ _ _ _ _ _ _
      | exact copselaw03_alive.mono _
      | exact copselaw03_called.mono _ _ _ _ _ _
      | exact copselaw03_lent.mono _ _
      | exact copselaw03_texts.mono _ _ _
      | exact copseref03_Has.mono _ _ _
      | exact paths_Has.mono _ _ _
      | exact LeO.none _
      | refine LeO.ite ?_ ?_
      | refine LeO.bind ?_ (fun _ => ?_)
theorem copselaw03_PathsAll.mono : ∀ a0 a1 a2 k, LeO (copselaw03_PathsAll.f k a0 a1 a2) (copselaw03_PathsAll.f (k + 1) a0 a1 a2) := by
  intro a0 a1 a2 k
  obtain ⟨ih0, ih1, ih2, ih3, ih4⟩ := copselaw03_PathsAll.mono_l k
  unfold copselaw03_PathsAll.f
  repeat' first
      | (with_reducible exact ih0 _ _ _)
      | (with_reducible exact ih1 _ _ _)
      | (with_reducible exact ih2 _ _ _ _ _ _ _ _)
      | (with_reducible exact ih3 _ _ _ _ _ _ _ _)
      | (with_reducible exact ih4 _ _ _ _ _ _ _)
      | (with_reducible exact copselaw03_alive.mono _)
      | (with_reducible exact copselaw03_called.mono _ _ _ _ _ _)
      | (with_reducible exact copselaw03_lent.mono _ _)
      | (with_reducible exact copselaw03_texts.mono _ _ _)
      | (with_reducible exact copseref03_Has.mono _ _ _)
      | (with_reducible exact paths_Has.mono _ _ _)
      | (with_reducible exact LeO.refl _)
      | (with_reducible exact LeO.none _)
      | (with_reducible refine LeO.ite ?_ ?_)
      | (with_reducible refine LeO.bind ?_ (fun _ => ?_))
      | exact ih0 _ _ _
      | exact ih1 _ _ _
      | exact ih2 _ _ _ _ _ _ _ _
      | exact ih3 _ _ _ _ _ _ _ _
      | exact ih4 _ _ _ _ _ _ _
      | exact copselaw03_alive.mono _
      | exact copselaw03_called.mono _ _ _ _ _ _
      | exact copselaw03_lent.mono _ _
      | exact copselaw03_texts.mono _ _ _
      | exact copseref03_Has.mono _ _ _
      | exact paths_Has.mono _ _ _
      | exact LeO.none _
      | refine LeO.ite ?_ ?_
      | refine LeO.bind ?_ (fun _ => ?_)
def copselaw03_PathsAll.T8 : Bool × List (List Nat × List Nat) := (true, [([], []), ([], []), ([], []), ([2], [2]), ([1, 3], [1, 3]), ([], []), ([], []), ([6], [6]), ([5, 7], [5, 7]), ([], []), ([], []), ([0, 4, 8, 9, 10], [0, 4, 8, 9, 10]), ([11], [11]), ([12], [12]), ([12], [12]), ([13, 11, 0, 1, 2, 3, 4, 5, 6, 7, 8, 9, 10, 11, 12, 13], [13]), ([14, 15, 0, 1, 2, 3, 4, 5, 6, 7, 8, 9, 10, 11, 12, 13, 14, 15], [14])])
def copselaw03_PathsAll.B8 : List Nat := [0, 0, 0, 4, 14, 0, 0, 64, 224, 0, 0, 2047, 4095, 8191, 8191, 16383, 65535]
theorem copselaw03_PathsAll.tab8 : rtab .any (opsOf Tryd.f3 8) = copselaw03_PathsAll.T8 := by kernel_rfl
theorem copselaw03_PathsAll.bits8 : waitsOk copselaw03_PathsAll.T8.2 copselaw03_PathsAll.B8 = true := by kernel_rfl
set_option maxHeartbeats 8000000 in
set_option maxRecDepth 100000 in
theorem copselaw03_PathsAll.calls (k : Nat) (A0 : Option Addr) (c0 : Nat) (l0 : List ByteArray) (A1 : Option Addr) (c1 : Nat) (l1 : List ByteArray) (a2 : ByteArray) (r : Bool) (w : World) (hr0 : Kd.C Kd.string w A0 l0.length l0) (hc0 : l0.length ≤ c0) (hr1 : Kd.C Kd.string w A1 l1.length l1) (hc1 : l1.length ≤ c1) (h : copselaw03_PathsAll.f k l0 l1 a2 = some r) :
    Calls Tryd.prog 3 #[.slice A0 l0.length c0, .slice A1 l1.length c1, .string a2] w fun e w' => e = .returned (.bool r) ∧ Below w.heap.size w w' := by
  have HR0 := Aside0.mk hr0
  have HC0 := Aside0.mk hc0
  clear hr0 hc0
  have HR1 := Aside0.mk hr1
  have HC1 := Aside0.mk hc1
  clear hr1 hc1
  have HB := Aside0.mk (Below.refl w.heap.size w)
  have H : ((copselaw03_alive.f k).bind fun t365 => (if t365 = true then ((paths_Has.f k l0 a2).bind fun t366 => ((copseref03_Has.f k l0 a2).bind fun t367 => (if (t366 != t367) = true then (copselaw03_PathsAll.j0 k l0 l1 true) else ((paths_Has.f k l1 a2).bind fun t368 => ((copseref03_Has.f k l1 a2).bind fun t369 => (copselaw03_PathsAll.j0 k l0 l1 (t368 != t369))))))) else (copselaw03_PathsAll.j0 k l0 l1 true))) = some r := h
  clear h
  have HC4 := Aside0.mk H
  clear H
  go_enter Tryd.func3, Tryd.ntmps3
  go_upto_region 1 with (fail)
  go_cut [33] (fun v33 wc => ∃ (kq : Nat) (x33_3 : Bool), v33 = .bool x33_3 ∧ Aside0 (copselaw03_PathsAll.j0 kq l0 l1 x33_3 = some r) ∧ Aside0 (kq ≤ k) ∧ Aside0 (Below w.heap.size w wc))
  case first =>
    have H := HC4.out
    clear HC4
    replace H := Option.bind_eq_some_iff.mp H
    obtain ⟨t365, A50, H⟩ := H
    replace H : (if t365 = true then ((paths_Has.f k l0 a2).bind fun t366 => ((copseref03_Has.f k l0 a2).bind fun t367 => (if (t366 != t367) = true then (copselaw03_PathsAll.j0 k l0 l1 true) else ((paths_Has.f k l1 a2).bind fun t368 => ((copseref03_Has.f k l1 a2).bind fun t369 => (copselaw03_PathsAll.j0 k l0 l1 (t368 != t369))))))) else (copselaw03_PathsAll.j0 k l0 l1 true)) = some r := H
    have A5 := Aside0.mk A50
    clear A50
    by_cases c6 : t365 = true
    · subst c6
      have H1 : ((paths_Has.f k l0 a2).bind fun t366 => ((copseref03_Has.f k l0 a2).bind fun t367 => (if (t366 != t367) = true then (copselaw03_PathsAll.j0 k l0 l1 true) else ((paths_Has.f k l1 a2).bind fun t368 => ((copseref03_Has.f k l1 a2).bind fun t369 => (copselaw03_PathsAll.j0 k l0 l1 (t368 != t369))))))) = some r := by rw [if_pos rfl] at H; exact H
      clear H
      have H := H1
      clear H1
      replace H := Option.bind_eq_some_iff.mp H
      obtain ⟨t366, A70, H⟩ := H
      replace H : ((copseref03_Has.f k l0 a2).bind fun t367 => (if (t366 != t367) = true then (copselaw03_PathsAll.j0 k l0 l1 true) else ((paths_Has.f k l1 a2).bind fun t368 => ((copseref03_Has.f k l1 a2).bind fun t369 => (copselaw03_PathsAll.j0 k l0 l1 (t368 != t369)))))) = some r := H
      have A7 := Aside0.mk A70
      clear A70
      replace H := Option.bind_eq_some_iff.mp H
      obtain ⟨t367, A80, H⟩ := H
      replace H : (if (t366 != t367) = true then (copselaw03_PathsAll.j0 k l0 l1 true) else ((paths_Has.f k l1 a2).bind fun t368 => ((copseref03_Has.f k l1 a2).bind fun t369 => (copselaw03_PathsAll.j0 k l0 l1 (t368 != t369))))) = some r := H
      have A8 := Aside0.mk A80
      clear A80
      by_cases c9 : (t366 != t367) = true
      · rw [if_pos c9] at H
        have c9b0 : (t366 != t367) = true := c9
        (try (have c9b1 : decide (t366 = t367) = false := by simpa using c9))
        (try (have c9b2 : (t366 == t367) = false := by simpa using c9))
        (try (have c9b3 : ¬ (t366 = t367) := by simpa using c9))
        clear c9
        (first | rw [c9b0] | (simp only [i64_w, i32_w]; rw [c9b0]) | skip)
        have H' := Aside0.mk H
        clear H
        go_wp2_with (first | ((with_reducible refine gate_callee (f := 9) rfl ?_); refine goesL_ (some 14) rfl rfl Tryd.func9 (by kernel_rfl) rfl #[] rfl (by (try simp only [List.map_toArray, List.map_cons, List.map_nil]); first | done | rfl | (simp only [List.length_drop, List.length_take]; rfl)) ?_; (with_reducible refine (copselaw03_alive.calls k  true _ A5.out).mono ?_); rintro e w10 ⟨rfl, hb⟩; refine ⟨_, rfl, ?_⟩; have n0_ := Aside0.mk (below_step (by repeat (first | (with_reducible first | exact HB.out | apply below_alloc | apply pw_below_drewN | apply below_drew1) | exact HB.out)) hb); clear HB; have HB := n0_; clear n0_; (try clear hb); (try clear hb2); (try clear hk); (try clear hi)) | (go_at_call 10; (with_reducible refine (paths_Has.calls k _ _ l0 a2 t366 _ ?side1 ?side2 A7.out).mono ?_); (case side1 => repeat (first | exact (Kd.C_below HR0.out HB.out) | (with_reducible refine Kd.C_alloc ?_ _) | (with_reducible refine Kd.C_drewN ?_ _) | (with_reducible refine Kd.C_drew ?_))); (case side2 => exact HC0.out); rintro e w' ⟨rfl, ⟨nd, rfl⟩⟩) | (go_at_call 11; (with_reducible refine (copseref03_Has.calls k _ _ l0 a2 t367 _ ?side1 ?side2 A8.out).mono ?_); (case side1 => repeat (first | exact (Kd.C_below HR0.out (by repeat (first | (with_reducible first | exact HB.out | apply below_alloc | apply pw_below_drewN | apply below_drew1) | exact HB.out))) | (with_reducible refine Kd.C_alloc ?_ _) | (with_reducible refine Kd.C_drewN ?_ _) | (with_reducible refine Kd.C_drew ?_))); (case side2 => exact HC0.out); rintro e w' ⟨rfl, ⟨nd, rfl⟩⟩))
        go_meet
        case rel => exact ⟨_, (true), (by first | rfl | (simp; done) | (simp [*]; done)), H', ⟨by first | omega | exact Nat.le_refl _⟩, ⟨by repeat (first | (with_reducible first | exact HB.out | apply below_alloc | apply pw_below_drewN | apply below_drew1) | exact HB.out)⟩⟩
      · rw [if_neg c9] at H
        have c9b0 : (t366 != t367) = false := by simpa using c9
        (try (have c9b1 : decide (t366 = t367) = true := by simpa using c9))
        (try (have c9b2 : (t366 == t367) = true := by simpa using c9))
        clear c9
        (first | rw [c9b0] | (simp only [i64_w, i32_w]; rw [c9b0]) | skip)
        replace H := Option.bind_eq_some_iff.mp H
        obtain ⟨t368, A110, H⟩ := H
        replace H : ((copseref03_Has.f k l1 a2).bind fun t369 => (copselaw03_PathsAll.j0 k l0 l1 (t368 != t369))) = some r := H
        have A11 := Aside0.mk A110
        clear A110
        replace H := Option.bind_eq_some_iff.mp H
        obtain ⟨t369, A120, H⟩ := H
        replace H : (copselaw03_PathsAll.j0 k l0 l1 (t368 != t369)) = some r := H
        have A12 := Aside0.mk A120
        clear A120
        have H' := Aside0.mk H
        clear H
        go_wp2_with (first | ((with_reducible refine gate_callee (f := 9) rfl ?_); refine goesL_ (some 14) rfl rfl Tryd.func9 (by kernel_rfl) rfl #[] rfl (by (try simp only [List.map_toArray, List.map_cons, List.map_nil]); first | done | rfl | (simp only [List.length_drop, List.length_take]; rfl)) ?_; (with_reducible refine (copselaw03_alive.calls k  true _ A5.out).mono ?_); rintro e w13 ⟨rfl, hb⟩; refine ⟨_, rfl, ?_⟩; have n0_ := Aside0.mk (below_step (by repeat (first | (with_reducible first | exact HB.out | apply below_alloc | apply pw_below_drewN | apply below_drew1) | exact HB.out)) hb); clear HB; have HB := n0_; clear n0_; (try clear hb); (try clear hb2); (try clear hk); (try clear hi)) | (go_at_call 10; (with_reducible refine (paths_Has.calls k _ _ l0 a2 t366 _ ?side1 ?side2 A7.out).mono ?_); (case side1 => repeat (first | exact (Kd.C_below HR0.out HB.out) | (with_reducible refine Kd.C_alloc ?_ _) | (with_reducible refine Kd.C_drewN ?_ _) | (with_reducible refine Kd.C_drew ?_))); (case side2 => exact HC0.out); rintro e w' ⟨rfl, ⟨nd, rfl⟩⟩) | (go_at_call 11; (with_reducible refine (copseref03_Has.calls k _ _ l0 a2 t367 _ ?side1 ?side2 A8.out).mono ?_); (case side1 => repeat (first | exact (Kd.C_below HR0.out (by repeat (first | (with_reducible first | exact HB.out | apply below_alloc | apply pw_below_drewN | apply below_drew1) | exact HB.out))) | (with_reducible refine Kd.C_alloc ?_ _) | (with_reducible refine Kd.C_drewN ?_ _) | (with_reducible refine Kd.C_drew ?_))); (case side2 => exact HC0.out); rintro e w' ⟨rfl, ⟨nd, rfl⟩⟩) | (go_at_call 10; (with_reducible refine (paths_Has.calls k _ _ l1 a2 t368 _ ?side1 ?side2 A11.out).mono ?_); (case side1 => repeat (first | exact (Kd.C_below HR1.out (by repeat (first | (with_reducible first | exact HB.out | apply below_alloc | apply pw_below_drewN | apply below_drew1) | exact HB.out))) | (with_reducible refine Kd.C_alloc ?_ _) | (with_reducible refine Kd.C_drewN ?_ _) | (with_reducible refine Kd.C_drew ?_))); (case side2 => exact HC1.out); rintro e w' ⟨rfl, ⟨nd, rfl⟩⟩) | (go_at_call 11; (with_reducible refine (copseref03_Has.calls k _ _ l1 a2 t369 _ ?side1 ?side2 A12.out).mono ?_); (case side1 => repeat (first | exact (Kd.C_below HR1.out (by repeat (first | (with_reducible first | exact HB.out | apply below_alloc | apply pw_below_drewN | apply below_drew1) | exact HB.out))) | (with_reducible refine Kd.C_alloc ?_ _) | (with_reducible refine Kd.C_drewN ?_ _) | (with_reducible refine Kd.C_drew ?_))); (case side2 => exact HC1.out); rintro e w' ⟨rfl, ⟨nd, rfl⟩⟩))
        go_meet
        case rel => exact ⟨_, ((t368 != t369)), (by first | rfl | (simp; done) | (simp [*]; done)), H', ⟨by first | omega | exact Nat.le_refl _⟩, ⟨by repeat (first | (with_reducible first | exact HB.out | apply below_alloc | apply pw_below_drewN | apply below_drew1) | exact HB.out)⟩⟩
    · replace c6 := Bool.eq_false_iff.mpr c6
      subst c6
      have H1 : (copselaw03_PathsAll.j0 k l0 l1 true) = some r := by rw [if_neg (show ¬ (false = true) by decide)] at H; exact H
      clear H
      have H := H1
      clear H1
      have H' := Aside0.mk H
      clear H
      go_wp2_with (first | ((with_reducible refine gate_callee (f := 9) rfl ?_); refine goesL_ (some 14) rfl rfl Tryd.func9 (by kernel_rfl) rfl #[] rfl (by (try simp only [List.map_toArray, List.map_cons, List.map_nil]); first | done | rfl | (simp only [List.length_drop, List.length_take]; rfl)) ?_; (with_reducible refine (copselaw03_alive.calls k  false _ A5.out).mono ?_); rintro e w14 ⟨rfl, hb⟩; refine ⟨_, rfl, ?_⟩; have n0_ := Aside0.mk (below_step (by repeat (first | (with_reducible first | exact HB.out | apply below_alloc | apply pw_below_drewN | apply below_drew1) | exact HB.out)) hb); clear HB; have HB := n0_; clear n0_; (try clear hb); (try clear hb2); (try clear hk); (try clear hi)))
      go_meet
      case rel => exact ⟨_, (true), (by first | rfl | (simp; done) | (simp [*]; done)), H', ⟨by first | omega | exact Nat.le_refl _⟩, ⟨by repeat (first | (with_reducible first | exact HB.out | apply below_alloc | apply pw_below_drewN | apply below_drew1) | exact HB.out)⟩⟩
  case rest =>
    clear HC4
    try clear c1
    try clear p2
    try clear c3
    try clear c6
    try clear c9
    try clear c9b0
    try clear c9b1
    try clear c9b2
    obtain ⟨kq, x33_3, rfl, HA, HJ3, HB⟩ := hcut
    cases kq with
    | zero => exact absurd HA.out (by simp [copselaw03_PathsAll.j0])
    | succ kj3 =>
      have H := HA.out
      clear HA
      simp only [copselaw03_PathsAll.j0] at H
      by_cases c15 : x33_3 = true
      · subst c15
        have H1 : (some false) = some r := by rw [if_pos rfl] at H; exact H
        clear H
        have H := H1
        clear H1
        obtain rfl := Option.some.inj H
        go_wp2
        go_ret
        exact ⟨by first | rfl | (simp [errW_none, errW_some] <;> rfl) | (simp [*, errW_none, errW_some] <;> rfl), by repeat (first | (with_reducible first | exact HB.out | apply below_alloc | apply pw_below_drewN | apply below_drew1) | exact HB.out)⟩
      · replace c15 := Bool.eq_false_iff.mpr c15
        subst c15
        have H1 : (copselaw03_PathsAll.l0 kj3 l0 l1 0) = some r := by rw [if_neg (show ¬ (false = true) by decide)] at H; exact H
        clear H
        have H := H1
        clear H1
        have H' := Aside0.mk H
        clear H
        go_wp2
        go_loopg [7] kj3 (fun kq v7 w' => ∃ (x7_2 : Int), v7 = .int .i64 x7_2 ∧ Aside0 (copselaw03_PathsAll.l0 kq l0 l1 x7_2 = some r) ∧ Aside0 (kq ≤ kj3) ∧ Aside0 (Below w.heap.size w w'))
        case atStart => exact ⟨(0), (by first | rfl | (simp; done) | (simp [*]; done)), H', ⟨Nat.le_refl _⟩, ⟨by repeat (first | (with_reducible first | exact HB.out | apply below_alloc | apply pw_below_drewN | apply below_drew1) | exact HB.out)⟩⟩
        case round =>
          clear H'
          try clear c1
          try clear p2
          try clear c3
          try clear c6
          try clear c9
          try clear c9b0
          try clear c9b1
          try clear c9b2
          try clear c15
          try clear p2
          obtain ⟨x7_2, rfl, HA, HK2, HB⟩ := hrel
          cases gk with
          | zero => exact absurd HA.out (by simp [copselaw03_PathsAll.l0])
          | succ k2 =>
            have H := HA.out
            clear HA
            simp only [copselaw03_PathsAll.l0] at H
            by_cases c16 : x7_2 < 6
            · rw [if_pos c16] at H
              have c16b0 : decide (x7_2 < 6) = true := decide_eq_true c16
              clear c16
              replace H := Option.bind_eq_some_iff.mp H
              obtain ⟨t370, A170, H⟩ := H
              replace H : ((copselaw03_lent.f k2 l1).bind fun t373 => (if 0 ≤ (l0.length : Int) then (if (l0.length : Int) ≤ (t370.length : Int) then (if 0 ≤ (l1.length : Int) then (if (l1.length : Int) ≤ (t373.length : Int) then ((copselaw03_called.f k2 x7_2 (t370.take ((l0.length : Int) : Int).toNat) (t373.take ((l1.length : Int) : Int).toNat) l0 l1).bind fun bt384 => ((copselaw03_texts.f k2 bt384.1 bt384.2).bind fun t390 => (if t390 = true then ((copselaw03_lent.f k2 l0).bind fun t391 => ((copselaw03_texts.f k2 t370 t391).bind fun t394 => (if t394 = true then ((copselaw03_lent.f k2 l1).bind fun t395 => ((copselaw03_texts.f k2 t373 t395).bind fun t398 => (copselaw03_PathsAll.j2 k2 l0 l1 x7_2 t370 t373 bt384.1 bt384.2 (!t398)))) else (copselaw03_PathsAll.j2 k2 l0 l1 x7_2 t370 t373 bt384.1 bt384.2 true)))) else (copselaw03_PathsAll.j2 k2 l0 l1 x7_2 t370 t373 bt384.1 bt384.2 true)))) else (none)) else (none)) else (none)) else (none))) = some r := H
              have A17 := Aside0.mk A170
              clear A170
              replace H := Option.bind_eq_some_iff.mp H
              obtain ⟨t373, A180, H⟩ := H
              replace H : (if 0 ≤ (l0.length : Int) then (if (l0.length : Int) ≤ (t370.length : Int) then (if 0 ≤ (l1.length : Int) then (if (l1.length : Int) ≤ (t373.length : Int) then ((copselaw03_called.f k2 x7_2 (t370.take ((l0.length : Int) : Int).toNat) (t373.take ((l1.length : Int) : Int).toNat) l0 l1).bind fun bt384 => ((copselaw03_texts.f k2 bt384.1 bt384.2).bind fun t390 => (if t390 = true then ((copselaw03_lent.f k2 l0).bind fun t391 => ((copselaw03_texts.f k2 t370 t391).bind fun t394 => (if t394 = true then ((copselaw03_lent.f k2 l1).bind fun t395 => ((copselaw03_texts.f k2 t373 t395).bind fun t398 => (copselaw03_PathsAll.j2 k2 l0 l1 x7_2 t370 t373 bt384.1 bt384.2 (!t398)))) else (copselaw03_PathsAll.j2 k2 l0 l1 x7_2 t370 t373 bt384.1 bt384.2 true)))) else (copselaw03_PathsAll.j2 k2 l0 l1 x7_2 t370 t373 bt384.1 bt384.2 true)))) else (none)) else (none)) else (none)) else (none)) = some r := H
              have A18 := Aside0.mk A180
              clear A180
              by_cases c19 : 0 ≤ (l0.length : Int)
              · rw [if_pos c19] at H
                have c19b0 := eq_true c19
                have c19b1 : decide (0 ≤ (l0.length : Int)) = true := decide_eq_true c19
                clear c19
                by_cases c20 : (l0.length : Int) ≤ (t370.length : Int)
                · rw [if_pos c20] at H
                  have c20b0 := eq_true c20
                  have c20b1 : decide ((l0.length : Int) ≤ (t370.length : Int)) = true := decide_eq_true c20
                  clear c20
                  obtain ⟨y376, hy376⟩ : ∃ y_ : List ByteArray, y_ = (t370.take ((l0.length : Int) : Int).toNat) := ⟨_, rfl⟩
                  replace H : (if 0 ≤ (l1.length : Int) then (if (l1.length : Int) ≤ (t373.length : Int) then ((copselaw03_called.f k2 x7_2 y376 (t373.take ((l1.length : Int) : Int).toNat) l0 l1).bind fun bt384 => ((copselaw03_texts.f k2 bt384.1 bt384.2).bind fun t390 => (if t390 = true then ((copselaw03_lent.f k2 l0).bind fun t391 => ((copselaw03_texts.f k2 t370 t391).bind fun t394 => (if t394 = true then ((copselaw03_lent.f k2 l1).bind fun t395 => ((copselaw03_texts.f k2 t373 t395).bind fun t398 => (copselaw03_PathsAll.j2 k2 l0 l1 x7_2 t370 t373 bt384.1 bt384.2 (!t398)))) else (copselaw03_PathsAll.j2 k2 l0 l1 x7_2 t370 t373 bt384.1 bt384.2 true)))) else (copselaw03_PathsAll.j2 k2 l0 l1 x7_2 t370 t373 bt384.1 bt384.2 true)))) else (none)) else (none)) = some r := by first | (rw [hy376]; with_reducible exact H) | (have H2_ := (Option.bind_some _ _).symm.trans H; rw [hy376]; with_reducible exact H2_) | (have H2_ := (Option.bind_some _ _).symm.trans H; with_reducible exact H2_) | with_reducible exact H | (rw [hy376]; exact H) | exact H
                  have Ny376 := Aside0.mk hy376
                  clear hy376
                  by_cases c21 : 0 ≤ (l1.length : Int)
                  · rw [if_pos c21] at H
                    have c21b0 := eq_true c21
                    have c21b1 : decide (0 ≤ (l1.length : Int)) = true := decide_eq_true c21
                    clear c21
                    by_cases c22 : (l1.length : Int) ≤ (t373.length : Int)
                    · rw [if_pos c22] at H
                      have c22b0 := eq_true c22
                      have c22b1 : decide ((l1.length : Int) ≤ (t373.length : Int)) = true := decide_eq_true c22
                      clear c22
                      obtain ⟨y380, hy380⟩ : ∃ y_ : List ByteArray, y_ = (t373.take ((l1.length : Int) : Int).toNat) := ⟨_, rfl⟩
                      replace H : ((copselaw03_called.f k2 x7_2 y376 y380 l0 l1).bind fun bt384 => ((copselaw03_texts.f k2 bt384.1 bt384.2).bind fun t390 => (if t390 = true then ((copselaw03_lent.f k2 l0).bind fun t391 => ((copselaw03_texts.f k2 t370 t391).bind fun t394 => (if t394 = true then ((copselaw03_lent.f k2 l1).bind fun t395 => ((copselaw03_texts.f k2 t373 t395).bind fun t398 => (copselaw03_PathsAll.j2 k2 l0 l1 x7_2 t370 t373 bt384.1 bt384.2 (!t398)))) else (copselaw03_PathsAll.j2 k2 l0 l1 x7_2 t370 t373 bt384.1 bt384.2 true)))) else (copselaw03_PathsAll.j2 k2 l0 l1 x7_2 t370 t373 bt384.1 bt384.2 true)))) = some r := by first | (rw [hy380]; with_reducible exact H) | (have H2_ := (Option.bind_some _ _).symm.trans H; rw [hy380]; with_reducible exact H2_) | (have H2_ := (Option.bind_some _ _).symm.trans H; with_reducible exact H2_) | with_reducible exact H | (rw [hy380]; exact H) | exact H
                      have Ny380 := Aside0.mk hy380
                      clear hy380
                      replace H := Option.bind_eq_some_iff.mp H
                      obtain ⟨⟨t384, t385⟩, A230, H⟩ := H
                      replace H : ((copselaw03_texts.f k2 t384 t385).bind fun t390 => (if t390 = true then ((copselaw03_lent.f k2 l0).bind fun t391 => ((copselaw03_texts.f k2 t370 t391).bind fun t394 => (if t394 = true then ((copselaw03_lent.f k2 l1).bind fun t395 => ((copselaw03_texts.f k2 t373 t395).bind fun t398 => (copselaw03_PathsAll.j2 k2 l0 l1 x7_2 t370 t373 t384 t385 (!t398)))) else (copselaw03_PathsAll.j2 k2 l0 l1 x7_2 t370 t373 t384 t385 true)))) else (copselaw03_PathsAll.j2 k2 l0 l1 x7_2 t370 t373 t384 t385 true))) = some r := H
                      have A23 := Aside0.mk A230
                      clear A230
                      have HC24 := Aside0.mk H
                      clear H
                      try go_wp2_with (first | ((with_reducible refine gate_callee (f := 12) rfl ?_); refine goesL_ (some 39) rfl rfl Tryd.func12 (by kernel_rfl) rfl #[.slice A0 l0.length c0] rfl (by (try simp only [List.map_toArray, List.map_cons, List.map_nil]); first | done | rfl | (simp only [List.length_drop, List.length_take]; rfl)) ?_; (with_reducible refine (copselaw03_lent.calls k2 _ _ l0 t370 _ ?side1 ?side2 A17.out).mono ?_); (case side1 => repeat (first | exact (Kd.C_below HR0.out HB.out) | (with_reducible refine Kd.C_alloc ?_ _) | (with_reducible refine Kd.C_drewN ?_ _) | (with_reducible refine Kd.C_drew ?_))); (case side2 => exact HC0.out); rintro e w25 ⟨v371, rfl, ho0, hb⟩; refine ⟨_, rfl, ?_⟩; have n0_ := Aside0.mk (Kd.R_lower ho0 (below_size (by repeat (first | (with_reducible first | exact HB.out | apply below_alloc | apply pw_below_drewN | apply below_drew1) | exact HB.out)))); have n1_ := Aside0.mk (below_step (by repeat (first | (with_reducible first | exact HB.out | apply below_alloc | apply pw_below_drewN | apply below_drew1) | exact HB.out)) hb); clear HB; have HO372 := n0_; have HB := n1_; clear n0_ n1_; (try clear hb); (try clear hb2); (try clear hk); (try clear hi); (try clear ho0)) | ((with_reducible refine gate_callee (f := 12) rfl ?_); refine goesL_ (some 41) rfl rfl Tryd.func12 (by kernel_rfl) rfl #[.slice A1 l1.length c1] rfl (by (try simp only [List.map_toArray, List.map_cons, List.map_nil]); first | done | rfl | (simp only [List.length_drop, List.length_take]; rfl)) ?_; (with_reducible refine (copselaw03_lent.calls k2 _ _ l1 t373 _ ?side1 ?side2 A18.out).mono ?_); (case side1 => repeat (first | exact (Kd.C_below HR1.out HB.out) | (with_reducible refine Kd.C_alloc ?_ _) | (with_reducible refine Kd.C_drewN ?_ _) | (with_reducible refine Kd.C_drew ?_))); (case side2 => exact HC1.out); rintro e w26 ⟨v374, rfl, ho0, hb⟩; refine ⟨_, rfl, ?_⟩; have n0_ := Aside0.mk (Kd.R_elder' (by (with_reducible repeat (first | apply Kd.R_alloc | apply Kd.R_drewN | apply Kd.R_drew)); exact HO372.out) (Kd.R_base ho0) hb); have n1_ := Aside0.mk (Kd.R_lower (Kd.R_new' ho0 (Kd.R_lt (by (with_reducible repeat (first | apply Kd.R_alloc | apply Kd.R_drewN | apply Kd.R_drew)); exact HO372.out))) (below_size (by repeat (first | (with_reducible first | exact HB.out | apply below_alloc | apply pw_below_drewN | apply below_drew1) | exact HB.out)))); have n2_ := Aside0.mk (below_step (by repeat (first | (with_reducible first | exact HB.out | apply below_alloc | apply pw_below_drewN | apply below_drew1) | exact HB.out)) hb); clear HO372; clear HB; have HO372 := n0_; have HO375 := n1_; have HB := n2_; clear n0_ n1_ n2_; (try clear hb); (try clear hb2); (try clear hk); (try clear hi); (try clear ho0)))
                      have n0_ := Aside0.mk (Kd.R_drew HO372.out)
                      have n1_ := Aside0.mk (Kd.R_drew HO375.out)
                      have n2_ := Aside0.mk (below_drew1 HB.out)
                      clear HO372
                      clear HO375
                      clear HB
                      have HO372 := n0_
                      have HO375 := n1_
                      have HB := n2_
                      clear n0_ n1_ n2_
                      obtain ⟨Ao29, co29, eo29⟩ := Kd.R_slice HO372.out
                      (first | subst eo29 | (injection eo29 with f1_ f2_ f3_; have f4_ := f1_.symm; have f5_ := f3_.symm; clear f1_ f2_ f3_; subst f4_; subst f5_))
                      have q28 : ((l0.length : Int) : Int) ≤ ((t370.length : Int) : Int) := of_decide_eq_true (by first | (with_reducible assumption) | assumption)
                      obtain ⟨i028, hi028, _, hsz28, _⟩ := info_parts info9
                      have hroom28 : t370.length ≤ co29 := (Kd.R_reads' HO372.out).2.1
                      have hC28 : Kd.C Kd.string _ Ao29 t370.length t370 := (Kd.R_reads' HO372.out).2.2
                      have hcut28 := cut_to (P := Tryd.prog) 22 9 .i64 Tryd.underlying22 hi028 Ao29 t370.length co29 (l0.length : Int) (of_decide_eq_true (by first | (with_reducible assumption) | assumption)) q28 hroom28
                      have hr28 := Kd.C_take (m := ((l0.length : Int) : Int).toNat) hC28 (by omega)
                      have hy28 : y376.length = ((l0.length : Int) : Int).toNat := (by rw [Ny376.out, List.length_take]; omega)
                      rw [← Ny376.out] at hr28
                      rw [← hy28] at hcut28
                      have HR379 := Aside0.mk hr28
                      have HC379 := Aside0.mk (show y376.length ≤ co29 from by omega)
                      clear hr28 hC28 hroom28 hi028 hsz28
                      have KY28 := Aside0.mk hy28
                      clear hy28
                      have KL28 := Aside0.mk (show ((l0.length : Int) : Int).toNat ≤ t370.length from by omega)
                      replace q28 := eq_true q28
                      obtain ⟨Ao31, co31, eo31⟩ := Kd.R_slice HO375.out
                      (first | subst eo31 | (injection eo31 with f1_ f2_ f3_; have f4_ := f1_.symm; have f5_ := f3_.symm; clear f1_ f2_ f3_; subst f4_; subst f5_))
                      have q30 : ((l1.length : Int) : Int) ≤ ((t373.length : Int) : Int) := of_decide_eq_true (by first | (with_reducible assumption) | assumption)
                      obtain ⟨i030, hi030, _, hsz30, _⟩ := info_parts info9
                      have hroom30 : t373.length ≤ co31 := (Kd.R_reads' HO375.out).2.1
                      have hC30 : Kd.C Kd.string _ Ao31 t373.length t373 := (Kd.R_reads' HO375.out).2.2
                      have hcut30 := cut_to (P := Tryd.prog) 22 9 .i64 Tryd.underlying22 hi030 Ao31 t373.length co31 (l1.length : Int) (of_decide_eq_true (by first | (with_reducible assumption) | assumption)) q30 hroom30
                      have hr30 := Kd.C_take (m := ((l1.length : Int) : Int).toNat) hC30 (by omega)
                      have hy30 : y380.length = ((l1.length : Int) : Int).toNat := (by rw [Ny380.out, List.length_take]; omega)
                      rw [← Ny380.out] at hr30
                      rw [← hy30] at hcut30
                      have HR383 := Aside0.mk hr30
                      have HC383 := Aside0.mk (show y380.length ≤ co31 from by omega)
                      clear hr30 hC30 hroom30 hi030 hsz30
                      have KY30 := Aside0.mk hy30
                      clear hy30
                      have KL30 := Aside0.mk (show ((l1.length : Int) : Int).toNat ≤ t373.length from by omega)
                      replace q30 := eq_true q30
                      refine start_ (n := 17) (S := fun w' => True) (ds := []) #[false, false, false, false, false, false, false, false, false, false, false, false, false, false, false, false, false] (by kernel_rfl) rfl rfl trivial (fun hHeld => ?_); refine with_tabW copselaw03_PathsAll.tab8 copselaw03_PathsAll.bits8 (fun HT_ HW_ => ?_)
                      generalize w26.drew = w27 at HO372 HO375 HB HR379 HR383 hHeld ⊢
                      refine pure_ (i := 0) (N := some 43) (v := ?_) (a' := ?_) #[true, false, false, false, false, false, false, false, false, false, false, false, false, false, false, false, false] rfl rfl (any_of HT_.out (by kernel_rfl)) (fun _ _ _ h => h) (Or.inl ⟨by rfl, ?_⟩) ?_ ?_
                      rotate_left
                      · intro w'
                        go_simp
                        with_reducible rfl
                      rotate_left
                      · simp only [Act.put, List.setIfInBounds_toArray, List.set_cons_zero, List.set_cons_succ, i64_w, i32_w]
                        rfl
                      refine pure_ (i := 1) (N := some 44) (v := ?_) (a' := ?_) #[true, true, false, false, false, false, false, false, false, false, false, false, false, false, false, false, false] rfl rfl (any_of HT_.out (by kernel_rfl)) (fun _ _ _ h => h) (Or.inl ⟨by rfl, ?_⟩) ?_ ?_
                      rotate_left
                      · intro w'
                        go_simp
                        with_reducible rfl
                      rotate_left
                      · simp only [Act.put, List.setIfInBounds_toArray, List.set_cons_zero, List.set_cons_succ, i64_w, i32_w]
                        rfl
                      refine pure_ (i := 2) (N := some 45) (v := ?_) (a' := ?_) #[true, true, true, false, false, false, false, false, false, false, false, false, false, false, false, false, false] rfl rfl (any_of HT_.out (by kernel_rfl)) (fun _ _ _ h => h) (Or.inl ⟨by rfl, ?_⟩) ?_ ?_
                      rotate_left
                      · intro w'
                        go_simp
                        with_reducible rfl
                      rotate_left
                      · simp only [Act.put, List.setIfInBounds_toArray, List.set_cons_zero, List.set_cons_succ, i64_w, i32_w]
                        rfl
                      refine pure_ (i := 3) (N := some 46) (v := ?_) (a' := ?_) #[true, true, true, true, false, false, false, false, false, false, false, false, false, false, false, false, false] rfl rfl (any_of HT_.out (by kernel_rfl)) (fun _ _ _ h => h) (Or.inl ⟨by rfl, ?_⟩) ?_ ?_
                      rotate_left
                      · intro w'
                        go_simp
                        with_reducible rfl
                      rotate_left
                      · simp only [Act.put, List.setIfInBounds_toArray, List.set_cons_zero, List.set_cons_succ, i64_w, i32_w]
                        rfl
                      refine pure_ (i := 4) (N := some 47) (v := ?_) (a' := ?_) #[true, true, true, true, true, false, false, false, false, false, false, false, false, false, false, false, false] rfl rfl (any_of HT_.out (by kernel_rfl)) (fun _ _ _ h => h) (Or.inl ⟨by rfl, ?_⟩) ?_ ?_
                      rotate_left
                      · intro w'
                        go_simp
                        with_reducible rfl
                      rotate_left
                      · simp only [Act.put, List.setIfInBounds_toArray, List.set_cons_zero, List.set_cons_succ, i64_w, i32_w]
                        rfl
                      refine pure_ (i := 5) (N := some 48) (v := ?_) (a' := ?_) #[true, true, true, true, true, true, false, false, false, false, false, false, false, false, false, false, false] rfl rfl (any_of HT_.out (by kernel_rfl)) (fun _ _ _ h => h) (Or.inl ⟨by rfl, ?_⟩) ?_ ?_
                      rotate_left
                      · intro w'
                        go_simp
                        with_reducible rfl
                      rotate_left
                      · simp only [Act.put, List.setIfInBounds_toArray, List.set_cons_zero, List.set_cons_succ, i64_w, i32_w]
                        rfl
                      refine pure_ (i := 6) (N := some 49) (v := ?_) (a' := ?_) #[true, true, true, true, true, true, true, false, false, false, false, false, false, false, false, false, false] rfl rfl (any_of HT_.out (by kernel_rfl)) (fun _ _ _ h => h) (Or.inl ⟨by rfl, ?_⟩) ?_ ?_
                      rotate_left
                      · intro w'
                        go_simp
                        with_reducible rfl
                      rotate_left
                      · simp only [Act.put, List.setIfInBounds_toArray, List.set_cons_zero, List.set_cons_succ, i64_w, i32_w]
                        rfl
                      refine pure_ (i := 7) (N := some 50) (v := ?_) (a' := ?_) #[true, true, true, true, true, true, true, true, false, false, false, false, false, false, false, false, false] rfl rfl (any_of HT_.out (by kernel_rfl)) (fun _ _ _ h => h) (Or.inl ⟨by rfl, ?_⟩) ?_ ?_
                      rotate_left
                      · intro w'
                        go_simp
                        with_reducible rfl
                      rotate_left
                      · simp only [Act.put, List.setIfInBounds_toArray, List.set_cons_zero, List.set_cons_succ, i64_w, i32_w]
                        rfl
                      refine pure_ (i := 8) (N := some 51) (v := ?_) (a' := ?_) #[true, true, true, true, true, true, true, true, true, false, false, false, false, false, false, false, false] rfl rfl (any_of HT_.out (by kernel_rfl)) (fun _ _ _ h => h) (Or.inl ⟨by rfl, ?_⟩) ?_ ?_
                      rotate_left
                      · intro w'
                        go_simp
                        with_reducible rfl
                      rotate_left
                      · simp only [Act.put, List.setIfInBounds_toArray, List.set_cons_zero, List.set_cons_succ, i64_w, i32_w]
                        rfl
                      refine pure_ (i := 9) (N := some 52) (v := ?_) (a' := ?_) #[true, true, true, true, true, true, true, true, true, true, false, false, false, false, false, false, false] rfl rfl (any_of HT_.out (by kernel_rfl)) (fun _ _ _ h => h) (Or.inl ⟨by rfl, ?_⟩) ?_ ?_
                      rotate_left
                      · intro w'
                        go_simp
                        with_reducible rfl
                      rotate_left
                      · simp only [Act.put, List.setIfInBounds_toArray, List.set_cons_zero, List.set_cons_succ, i64_w, i32_w]
                        rfl
                      refine pure_ (i := 10) (N := some 53) (v := ?_) (a' := ?_) #[true, true, true, true, true, true, true, true, true, true, true, false, false, false, false, false, false] rfl rfl (any_of HT_.out (by kernel_rfl)) (fun _ _ _ h => h) (Or.inl ⟨by rfl, ?_⟩) ?_ ?_
                      rotate_left
                      · intro w'
                        go_simp
                        with_reducible rfl
                      rotate_left
                      · simp only [Act.put, List.setIfInBounds_toArray, List.set_cons_zero, List.set_cons_succ, i64_w, i32_w]
                        rfl
                      refine one_ (i := 11) (N := some 54) #[true, true, true, true, true, true, true, true, true, true, true, true, false, false, false, false, false] rfl rfl (one_of HT_.out (by kernel_rfl)) (by decide) (fun K hK => ?_)
                      refine goes_ Tryd.func13 (by kernel_rfl) rfl #[.int .i64 x7_2, .slice Ao29 y376.length co29, .slice Ao31 y380.length co31, .slice A0 l0.length c0, .slice A1 l1.length c1] (by rfl) rfl rfl (by (try simp only [List.map_toArray, List.map_cons, List.map_nil]); first | done | rfl | (simp only [List.length_drop, List.length_take]; rfl)) ?_
                      with_reducible refine (copselaw03_called.calls k2 x7_2 _ _ y376 _ _ y380 _ _ l0 _ _ l1 t384 t385 _ ?side1 ?side2 ?side3 ?side4 ?side5 ?side6 ?side7 ?side8 A23.out).mono ?_
                      (case side1 => repeat (first | exact (by repeat (first | (with_reducible exact HR379.out) | (with_reducible refine Kd.C_alloc ?_ _) | (with_reducible refine Kd.C_drewN ?_ _) | (with_reducible refine Kd.C_drew ?_) | exact HR379.out)) | (with_reducible refine Kd.C_alloc ?_ _) | (with_reducible refine Kd.C_drewN ?_ _) | (with_reducible refine Kd.C_drew ?_)))
                      (case side2 => exact HC379.out)
                      (case side3 => repeat (first | exact (by repeat (first | (with_reducible exact HR383.out) | (with_reducible refine Kd.C_alloc ?_ _) | (with_reducible refine Kd.C_drewN ?_ _) | (with_reducible refine Kd.C_drew ?_) | exact HR383.out)) | (with_reducible refine Kd.C_alloc ?_ _) | (with_reducible refine Kd.C_drewN ?_ _) | (with_reducible refine Kd.C_drew ?_)))
                      (case side4 => exact HC383.out)
                      (case side5 => repeat (first | exact (Kd.C_below HR0.out HB.out) | (with_reducible refine Kd.C_alloc ?_ _) | (with_reducible refine Kd.C_drewN ?_ _) | (with_reducible refine Kd.C_drew ?_)))
                      (case side6 => exact HC0.out)
                      (case side7 => repeat (first | exact (Kd.C_below HR1.out HB.out) | (with_reducible refine Kd.C_alloc ?_ _) | (with_reducible refine Kd.C_drewN ?_ _) | (with_reducible refine Kd.C_drew ?_)))
                      (case side8 => exact HC1.out)
                      rintro e w32 ⟨v386, v388, rfl, ho0, ho1, hb⟩
                      refine ⟨_, rfl, ?_⟩
                      have n0_ := Aside0.mk (Kd.R_mono (Kd.R_told (Kd.R_told (Kd.R_old (by (with_reducible repeat (first | apply Kd.R_alloc | apply Kd.R_drewN | apply Kd.R_drew)); exact HO372.out) hb) (Kd.R_base ho0)) (Kd.R_base ho1)) (fun _ h_ => h_.1))
                      have n1_ := Aside0.mk (Kd.R_mono (Kd.R_told (Kd.R_told (Kd.R_old (by (with_reducible repeat (first | apply Kd.R_alloc | apply Kd.R_drewN | apply Kd.R_drew)); exact HO375.out) hb) (Kd.R_base ho0)) (Kd.R_base ho1)) (fun _ h_ => h_.1))
                      have n2_ := Aside0.mk (Kd.R_lower (Kd.R_new' (Kd.R_new' ho0 (Kd.R_lt (by (with_reducible repeat (first | apply Kd.R_alloc | apply Kd.R_drewN | apply Kd.R_drew)); exact HO372.out))) (Kd.R_lt (by (with_reducible repeat (first | apply Kd.R_alloc | apply Kd.R_drewN | apply Kd.R_drew)); exact HO375.out))) (below_size (by repeat (first | (with_reducible first | exact HB.out | apply below_alloc | apply pw_below_drewN | apply below_drew1) | exact HB.out))))
                      have n3_ := Aside0.mk (Kd.R_lower (Kd.R_new' (Kd.R_new' ho1 (Kd.R_lt (by (with_reducible repeat (first | apply Kd.R_alloc | apply Kd.R_drewN | apply Kd.R_drew)); exact HO372.out))) (Kd.R_lt (by (with_reducible repeat (first | apply Kd.R_alloc | apply Kd.R_drewN | apply Kd.R_drew)); exact HO375.out))) (below_size (by repeat (first | (with_reducible first | exact HB.out | apply below_alloc | apply pw_below_drewN | apply below_drew1) | exact HB.out))))
                      have n4_ := Aside0.mk (Kd.C_below (by repeat (first | (with_reducible exact HR379.out) | (with_reducible refine Kd.C_alloc ?_ _) | (with_reducible refine Kd.C_drewN ?_ _) | (with_reducible refine Kd.C_drew ?_) | exact HR379.out)) hb)
                      have n5_ := Aside0.mk (Kd.C_below (by repeat (first | (with_reducible exact HR383.out) | (with_reducible refine Kd.C_alloc ?_ _) | (with_reducible refine Kd.C_drewN ?_ _) | (with_reducible refine Kd.C_drew ?_) | exact HR383.out)) hb)
                      have n6_ := Aside0.mk (below_step (by repeat (first | (with_reducible first | exact HB.out | apply below_alloc | apply pw_below_drewN | apply below_drew1) | exact HB.out)) hb)
                      clear HO372
                      clear HO375
                      clear HR379
                      clear HR383
                      clear HB
                      have HO372 := n0_
                      have HO375 := n1_
                      have HO387 := n2_
                      have HO389 := n3_
                      have HR379 := n4_
                      have HR383 := n5_
                      have HB := n6_
                      clear n0_ n1_ n2_ n3_ n4_ n5_ n6_
                      (try clear hb)
                      (try clear hb2)
                      (try clear hk)
                      (try clear hi)
                      (try clear ho0)
                      (try clear ho1)
                      refine hK.out _ _ trivial (fun hHeld => ?_)
                      clear hK K
                      refine norm_ (a' := ?_) ?_ ?_
                      rotate_left
                      · show Act.put _ (some 54) _ = _
                        simp only [Act.put, List.setIfInBounds_toArray, List.set_cons_zero, List.set_cons_succ, i64_w, i32_w]
                        rfl
                      refine pure_ (i := 12) (N := some 42) (v := ?_) (a' := ?_) #[true, true, true, true, true, true, true, true, true, true, true, true, true, false, false, false, false] rfl rfl (any_of HT_.out (by kernel_rfl)) (fun _ _ _ h => h) (Or.inl ⟨by rfl, ?_⟩) ?_ ?_
                      rotate_left
                      · intro w'
                        go_simp
                        with_reducible rfl
                      rotate_left
                      · simp only [Act.put, List.setIfInBounds_toArray, List.set_cons_zero, List.set_cons_succ, i64_w, i32_w]
                        rfl
                      refine pure_ (i := 13) (N := some 55) (v := ?_) (a' := ?_) #[true, true, true, true, true, true, true, true, true, true, true, true, true, true, false, false, false] rfl rfl (any_of HT_.out (by kernel_rfl)) (fun _ _ _ h => h) (Or.inl ⟨by rfl, ?_⟩) ?_ ?_
                      rotate_left
                      · intro w'
                        go_simp
                        with_reducible rfl
                      rotate_left
                      · simp only [Act.put, List.setIfInBounds_toArray, List.set_cons_zero, List.set_cons_succ, i64_w, i32_w]
                        rfl
                      refine pure_ (i := 14) (N := some 56) (v := ?_) (a' := ?_) #[true, true, true, true, true, true, true, true, true, true, true, true, true, true, true, false, false] rfl rfl (any_of HT_.out (by kernel_rfl)) (fun _ _ _ h => h) (Or.inl ⟨by rfl, ?_⟩) ?_ ?_
                      rotate_left
                      · intro w'
                        go_simp
                        with_reducible rfl
                      rotate_left
                      · simp only [Act.put, List.setIfInBounds_toArray, List.set_cons_zero, List.set_cons_succ, i64_w, i32_w]
                        rfl
                      refine pure_ (i := 15) (N := some 10) (v := ?_) (a' := ?_) #[true, true, true, true, true, true, true, true, true, true, true, true, true, true, true, true, false] rfl rfl (any_of HT_.out (by kernel_rfl)) (fun _ _ _ h => h) (Or.inl ⟨by rfl, ?_⟩) ?_ ?_
                      rotate_left
                      · intro w'
                        go_simp
                        with_reducible rfl
                      rotate_left
                      · simp only [Act.put, List.setIfInBounds_toArray, List.set_cons_zero, List.set_cons_succ, i64_w, i32_w]
                        rfl
                      refine pure_ (i := 16) (N := some 11) (v := ?_) (a' := ?_) #[true, true, true, true, true, true, true, true, true, true, true, true, true, true, true, true, true] rfl rfl (any_of HT_.out (by kernel_rfl)) (fun _ _ _ h => h) (Or.inl ⟨by rfl, ?_⟩) ?_ ?_
                      rotate_left
                      · intro w'
                        go_simp
                        with_reducible rfl
                      rotate_left
                      · simp only [Act.put, List.setIfInBounds_toArray, List.set_cons_zero, List.set_cons_succ, i64_w, i32_w]
                        rfl
                      refine done_ (done_of HT_.out (by kernel_rfl)) ?_
                      go_upto_region 9 with (fail)
                      go_cut [74] (fun v74 wc => ∃ (kq : Nat) (x74_23 : Bool), v74 = .bool x74_23 ∧ Aside0 (copselaw03_PathsAll.j2 kq l0 l1 x7_2 t370 t373 t384 t385 x74_23 = some r) ∧ Aside0 (kq ≤ k2) ∧ Aside0 (Kd.R Kd.string 9 wc w.heap.size (fun k_ => some k_ ≠ ((.slice Ao31 t373.length co31) : Value).ownBlock ∧ some k_ ≠ (v386 : Value).ownBlock ∧ some k_ ≠ (v388 : Value).ownBlock) (.slice Ao29 t370.length co29) t370) ∧ Aside0 (Kd.R Kd.string 9 wc w.heap.size (fun k_ => some k_ ≠ ((.slice Ao29 t370.length co29) : Value).ownBlock ∧ some k_ ≠ (v386 : Value).ownBlock ∧ some k_ ≠ (v388 : Value).ownBlock) (.slice Ao31 t373.length co31) t373) ∧ Aside0 (Kd.R Kd.string 9 wc w.heap.size (fun k_ => some k_ ≠ ((.slice Ao29 t370.length co29) : Value).ownBlock ∧ some k_ ≠ ((.slice Ao31 t373.length co31) : Value).ownBlock ∧ some k_ ≠ (v388 : Value).ownBlock) v386 t384) ∧ Aside0 (Kd.R Kd.string 9 wc w.heap.size (fun k_ => some k_ ≠ ((.slice Ao29 t370.length co29) : Value).ownBlock ∧ some k_ ≠ ((.slice Ao31 t373.length co31) : Value).ownBlock ∧ some k_ ≠ (v386 : Value).ownBlock) v388 t385) ∧ Aside0 (Kd.C Kd.string wc Ao29 y376.length y376) ∧ Aside0 (Kd.C Kd.string wc Ao31 y380.length y380) ∧ Aside0 (Below w.heap.size w wc))
                      case first =>
                        have H := HC24.out
                        clear HC24
                        replace H := Option.bind_eq_some_iff.mp H
                        obtain ⟨t390, A330, H⟩ := H
                        replace H : (if t390 = true then ((copselaw03_lent.f k2 l0).bind fun t391 => ((copselaw03_texts.f k2 t370 t391).bind fun t394 => (if t394 = true then ((copselaw03_lent.f k2 l1).bind fun t395 => ((copselaw03_texts.f k2 t373 t395).bind fun t398 => (copselaw03_PathsAll.j2 k2 l0 l1 x7_2 t370 t373 t384 t385 (!t398)))) else (copselaw03_PathsAll.j2 k2 l0 l1 x7_2 t370 t373 t384 t385 true)))) else (copselaw03_PathsAll.j2 k2 l0 l1 x7_2 t370 t373 t384 t385 true)) = some r := H
                        have A33 := Aside0.mk A330
                        clear A330
                        by_cases c34 : t390 = true
                        · subst c34
                          have H1 : ((copselaw03_lent.f k2 l0).bind fun t391 => ((copselaw03_texts.f k2 t370 t391).bind fun t394 => (if t394 = true then ((copselaw03_lent.f k2 l1).bind fun t395 => ((copselaw03_texts.f k2 t373 t395).bind fun t398 => (copselaw03_PathsAll.j2 k2 l0 l1 x7_2 t370 t373 t384 t385 (!t398)))) else (copselaw03_PathsAll.j2 k2 l0 l1 x7_2 t370 t373 t384 t385 true)))) = some r := by rw [if_pos rfl] at H; exact H
                          clear H
                          have H := H1
                          clear H1
                          replace H := Option.bind_eq_some_iff.mp H
                          obtain ⟨t391, A350, H⟩ := H
                          replace H : ((copselaw03_texts.f k2 t370 t391).bind fun t394 => (if t394 = true then ((copselaw03_lent.f k2 l1).bind fun t395 => ((copselaw03_texts.f k2 t373 t395).bind fun t398 => (copselaw03_PathsAll.j2 k2 l0 l1 x7_2 t370 t373 t384 t385 (!t398)))) else (copselaw03_PathsAll.j2 k2 l0 l1 x7_2 t370 t373 t384 t385 true))) = some r := H
                          have A35 := Aside0.mk A350
                          clear A350
                          replace H := Option.bind_eq_some_iff.mp H
                          obtain ⟨t394, A360, H⟩ := H
                          replace H : (if t394 = true then ((copselaw03_lent.f k2 l1).bind fun t395 => ((copselaw03_texts.f k2 t373 t395).bind fun t398 => (copselaw03_PathsAll.j2 k2 l0 l1 x7_2 t370 t373 t384 t385 (!t398)))) else (copselaw03_PathsAll.j2 k2 l0 l1 x7_2 t370 t373 t384 t385 true)) = some r := H
                          have A36 := Aside0.mk A360
                          clear A360
                          by_cases c37 : t394 = true
                          · subst c37
                            have H1 : ((copselaw03_lent.f k2 l1).bind fun t395 => ((copselaw03_texts.f k2 t373 t395).bind fun t398 => (copselaw03_PathsAll.j2 k2 l0 l1 x7_2 t370 t373 t384 t385 (!t398)))) = some r := by rw [if_pos rfl] at H; exact H
                            clear H
                            have H := H1
                            clear H1
                            replace H := Option.bind_eq_some_iff.mp H
                            obtain ⟨t395, A380, H⟩ := H
                            replace H : ((copselaw03_texts.f k2 t373 t395).bind fun t398 => (copselaw03_PathsAll.j2 k2 l0 l1 x7_2 t370 t373 t384 t385 (!t398))) = some r := H
                            have A38 := Aside0.mk A380
                            clear A380
                            replace H := Option.bind_eq_some_iff.mp H
                            obtain ⟨t398, A390, H⟩ := H
                            replace H : (copselaw03_PathsAll.j2 k2 l0 l1 x7_2 t370 t373 t384 t385 (!t398)) = some r := H
                            have A39 := Aside0.mk A390
                            clear A390
                            have H' := Aside0.mk H
                            clear H
                            obtain ⟨Ao40, co40, eo40⟩ := Kd.R_slice HO387.out
                            subst eo40
                            obtain ⟨Ao41, co41, eo41⟩ := Kd.R_slice HO389.out
                            subst eo41
                            go_wp2_with (first | ((with_reducible refine gate_callee (f := 14) rfl ?_); refine goesL_ (some 59) rfl rfl Tryd.func14 (by kernel_rfl) rfl #[.slice Ao40 t384.length co40, .slice Ao41 t385.length co41] rfl (by (try simp only [List.map_toArray, List.map_cons, List.map_nil]); first | done | rfl | (simp only [List.length_drop, List.length_take]; rfl)) ?_; (with_reducible refine (copselaw03_texts.calls k2 _ _ t384 _ _ t385 true _ ?side1 ?side2 ?side3 ?side4 A33.out).mono ?_); (case side1 => repeat (first | exact (Kd.R_reads' HO387.out).2.2 | (with_reducible refine Kd.C_alloc ?_ _) | (with_reducible refine Kd.C_drewN ?_ _) | (with_reducible refine Kd.C_drew ?_))); (case side2 => exact (Kd.R_reads' HO387.out).2.1); (case side3 => repeat (first | exact (Kd.R_reads' HO389.out).2.2 | (with_reducible refine Kd.C_alloc ?_ _) | (with_reducible refine Kd.C_drewN ?_ _) | (with_reducible refine Kd.C_drew ?_))); (case side4 => exact (Kd.R_reads' HO389.out).2.1); rintro e w' ⟨rfl, ⟨nd, rfl⟩⟩; refine ⟨_, rfl, ?_⟩) | (go_at_call 12; (with_reducible refine (copselaw03_lent.calls k2 _ _ l0 t391 _ ?side1 ?side2 A35.out).mono ?_); (case side1 => repeat (first | exact (Kd.C_below HR0.out (by repeat (first | (with_reducible first | exact HB.out | apply below_alloc | apply pw_below_drewN | apply below_drew1) | exact HB.out))) | (with_reducible refine Kd.C_alloc ?_ _) | (with_reducible refine Kd.C_drewN ?_ _) | (with_reducible refine Kd.C_drew ?_))); (case side2 => exact HC0.out); rintro e w42 ⟨v392, rfl, ho0, hb⟩; have n0_ := Aside0.mk (Kd.R_elder' (by (with_reducible repeat (first | apply Kd.R_alloc | apply Kd.R_drewN | apply Kd.R_drew)); exact HO372.out) (Kd.R_base ho0) hb); have n1_ := Aside0.mk (Kd.R_elder' (by (with_reducible repeat (first | apply Kd.R_alloc | apply Kd.R_drewN | apply Kd.R_drew)); exact HO375.out) (Kd.R_base ho0) hb); have n2_ := Aside0.mk (Kd.R_elder' (by (with_reducible repeat (first | apply Kd.R_alloc | apply Kd.R_drewN | apply Kd.R_drew)); exact HO387.out) (Kd.R_base ho0) hb); have n3_ := Aside0.mk (Kd.R_elder' (by (with_reducible repeat (first | apply Kd.R_alloc | apply Kd.R_drewN | apply Kd.R_drew)); exact HO389.out) (Kd.R_base ho0) hb); have n4_ := Aside0.mk (Kd.R_lower (Kd.R_new' (Kd.R_new' (Kd.R_new' (Kd.R_new' ho0 (Kd.R_lt (by (with_reducible repeat (first | apply Kd.R_alloc | apply Kd.R_drewN | apply Kd.R_drew)); exact HO372.out))) (Kd.R_lt (by (with_reducible repeat (first | apply Kd.R_alloc | apply Kd.R_drewN | apply Kd.R_drew)); exact HO375.out))) (Kd.R_lt (by (with_reducible repeat (first | apply Kd.R_alloc | apply Kd.R_drewN | apply Kd.R_drew)); exact HO387.out))) (Kd.R_lt (by (with_reducible repeat (first | apply Kd.R_alloc | apply Kd.R_drewN | apply Kd.R_drew)); exact HO389.out))) (below_size (by repeat (first | (with_reducible first | exact HB.out | apply below_alloc | apply pw_below_drewN | apply below_drew1) | exact HB.out)))); have n5_ := Aside0.mk (Kd.C_below (by repeat (first | (with_reducible exact HR379.out) | (with_reducible refine Kd.C_alloc ?_ _) | (with_reducible refine Kd.C_drewN ?_ _) | (with_reducible refine Kd.C_drew ?_) | exact HR379.out)) hb); have n6_ := Aside0.mk (Kd.C_below (by repeat (first | (with_reducible exact HR383.out) | (with_reducible refine Kd.C_alloc ?_ _) | (with_reducible refine Kd.C_drewN ?_ _) | (with_reducible refine Kd.C_drew ?_) | exact HR383.out)) hb); have n7_ := Aside0.mk (below_step (by repeat (first | (with_reducible first | exact HB.out | apply below_alloc | apply pw_below_drewN | apply below_drew1) | exact HB.out)) hb); clear HO372; clear HO375; clear HO387; clear HO389; clear HR379; clear HR383; clear HB; have HO372 := n0_; have HO375 := n1_; have HO387 := n2_; have HO389 := n3_; have HO393 := n4_; have HR379 := n5_; have HR383 := n6_; have HB := n7_; clear n0_ n1_ n2_ n3_ n4_ n5_ n6_ n7_; (try clear hb); (try clear hb2); (try clear hk); (try clear hi); (try clear ho0); obtain ⟨Ao43, co43, eo43⟩ := Kd.R_slice HO393.out; subst eo43) | (go_at_call 14; (with_reducible refine (copselaw03_texts.calls k2 _ _ t370 _ _ t391 true _ ?side1 ?side2 ?side3 ?side4 A36.out).mono ?_); (case side1 => repeat (first | exact (Kd.R_reads' HO372.out).2.2 | (with_reducible refine Kd.C_alloc ?_ _) | (with_reducible refine Kd.C_drewN ?_ _) | (with_reducible refine Kd.C_drew ?_))); (case side2 => exact (Kd.R_reads' HO372.out).2.1); (case side3 => repeat (first | exact (Kd.R_reads' HO393.out).2.2 | (with_reducible refine Kd.C_alloc ?_ _) | (with_reducible refine Kd.C_drewN ?_ _) | (with_reducible refine Kd.C_drew ?_))); (case side4 => exact (Kd.R_reads' HO393.out).2.1); rintro e w' ⟨rfl, ⟨nd, rfl⟩⟩) | (go_at_call 12; (with_reducible refine (copselaw03_lent.calls k2 _ _ l1 t395 _ ?side1 ?side2 A38.out).mono ?_); (case side1 => repeat (first | exact (Kd.C_below HR1.out (by repeat (first | (with_reducible first | exact HB.out | apply below_alloc | apply pw_below_drewN | apply below_drew1) | exact HB.out))) | (with_reducible refine Kd.C_alloc ?_ _) | (with_reducible refine Kd.C_drewN ?_ _) | (with_reducible refine Kd.C_drew ?_))); (case side2 => exact HC1.out); rintro e w44 ⟨v396, rfl, ho0, hb⟩; have n0_ := Aside0.mk (Kd.R_elder' (by (with_reducible repeat (first | apply Kd.R_alloc | apply Kd.R_drewN | apply Kd.R_drew)); exact HO372.out) (Kd.R_base ho0) hb); have n1_ := Aside0.mk (Kd.R_elder' (by (with_reducible repeat (first | apply Kd.R_alloc | apply Kd.R_drewN | apply Kd.R_drew)); exact HO375.out) (Kd.R_base ho0) hb); have n2_ := Aside0.mk (Kd.R_elder' (by (with_reducible repeat (first | apply Kd.R_alloc | apply Kd.R_drewN | apply Kd.R_drew)); exact HO387.out) (Kd.R_base ho0) hb); have n3_ := Aside0.mk (Kd.R_elder' (by (with_reducible repeat (first | apply Kd.R_alloc | apply Kd.R_drewN | apply Kd.R_drew)); exact HO389.out) (Kd.R_base ho0) hb); have n4_ := Aside0.mk (Kd.R_elder' (by (with_reducible repeat (first | apply Kd.R_alloc | apply Kd.R_drewN | apply Kd.R_drew)); exact HO393.out) (Kd.R_base ho0) hb); have n5_ := Aside0.mk (Kd.R_lower (Kd.R_new' (Kd.R_new' (Kd.R_new' (Kd.R_new' (Kd.R_new' ho0 (Kd.R_lt (by (with_reducible repeat (first | apply Kd.R_alloc | apply Kd.R_drewN | apply Kd.R_drew)); exact HO372.out))) (Kd.R_lt (by (with_reducible repeat (first | apply Kd.R_alloc | apply Kd.R_drewN | apply Kd.R_drew)); exact HO375.out))) (Kd.R_lt (by (with_reducible repeat (first | apply Kd.R_alloc | apply Kd.R_drewN | apply Kd.R_drew)); exact HO387.out))) (Kd.R_lt (by (with_reducible repeat (first | apply Kd.R_alloc | apply Kd.R_drewN | apply Kd.R_drew)); exact HO389.out))) (Kd.R_lt (by (with_reducible repeat (first | apply Kd.R_alloc | apply Kd.R_drewN | apply Kd.R_drew)); exact HO393.out))) (below_size (by repeat (first | (with_reducible first | exact HB.out | apply below_alloc | apply pw_below_drewN | apply below_drew1) | exact HB.out)))); have n6_ := Aside0.mk (Kd.C_below (by repeat (first | (with_reducible exact HR379.out) | (with_reducible refine Kd.C_alloc ?_ _) | (with_reducible refine Kd.C_drewN ?_ _) | (with_reducible refine Kd.C_drew ?_) | exact HR379.out)) hb); have n7_ := Aside0.mk (Kd.C_below (by repeat (first | (with_reducible exact HR383.out) | (with_reducible refine Kd.C_alloc ?_ _) | (with_reducible refine Kd.C_drewN ?_ _) | (with_reducible refine Kd.C_drew ?_) | exact HR383.out)) hb); have n8_ := Aside0.mk (below_step (by repeat (first | (with_reducible first | exact HB.out | apply below_alloc | apply pw_below_drewN | apply below_drew1) | exact HB.out)) hb); clear HO372; clear HO375; clear HO387; clear HO389; clear HO393; clear HR379; clear HR383; clear HB; have HO372 := n0_; have HO375 := n1_; have HO387 := n2_; have HO389 := n3_; have HO393 := n4_; have HO397 := n5_; have HR379 := n6_; have HR383 := n7_; have HB := n8_; clear n0_ n1_ n2_ n3_ n4_ n5_ n6_ n7_ n8_; (try clear hb); (try clear hb2); (try clear hk); (try clear hi); (try clear ho0); obtain ⟨Ao45, co45, eo45⟩ := Kd.R_slice HO397.out; subst eo45) | (go_at_call 14; (with_reducible refine (copselaw03_texts.calls k2 _ _ t373 _ _ t395 t398 _ ?side1 ?side2 ?side3 ?side4 A39.out).mono ?_); (case side1 => repeat (first | exact (Kd.R_reads' HO375.out).2.2 | (with_reducible refine Kd.C_alloc ?_ _) | (with_reducible refine Kd.C_drewN ?_ _) | (with_reducible refine Kd.C_drew ?_))); (case side2 => exact (Kd.R_reads' HO375.out).2.1); (case side3 => repeat (first | exact (Kd.R_reads' HO397.out).2.2 | (with_reducible refine Kd.C_alloc ?_ _) | (with_reducible refine Kd.C_drewN ?_ _) | (with_reducible refine Kd.C_drew ?_))); (case side4 => exact (Kd.R_reads' HO397.out).2.1); rintro e w' ⟨rfl, ⟨nd, rfl⟩⟩))
                            go_meet
                            case rel => exact ⟨_, (!t398), (by first | rfl | (simp; done) | (simp [*]; done)), H', ⟨by have := HJ3.out; have := HK2.out; first | omega | exact Nat.le_refl _⟩, ⟨by (with_reducible repeat (first | apply Kd.R_alloc | apply Kd.R_drewN | apply Kd.R_drew)); exact Kd.R_mono HO372.out (fun _ hk => ⟨hk.1.1.1.1.2, ⟨hk.1.1.1.2, hk.1.1.2⟩⟩)⟩, ⟨by (with_reducible repeat (first | apply Kd.R_alloc | apply Kd.R_drewN | apply Kd.R_drew)); exact Kd.R_mono HO375.out (fun _ hk => ⟨hk.1.1.1.1.2, ⟨hk.1.1.1.2, hk.1.1.2⟩⟩)⟩, ⟨by (with_reducible repeat (first | apply Kd.R_alloc | apply Kd.R_drewN | apply Kd.R_drew)); exact Kd.R_mono HO387.out (fun _ hk => ⟨hk.1.1.1.2, ⟨hk.1.1.2, hk.1.1.1.1⟩⟩)⟩, ⟨by (with_reducible repeat (first | apply Kd.R_alloc | apply Kd.R_drewN | apply Kd.R_drew)); exact Kd.R_mono HO389.out (fun _ hk => ⟨hk.1.1.1.2, ⟨hk.1.1.2, hk.1.1.1.1⟩⟩)⟩, ⟨by repeat (first | (with_reducible exact HR379.out) | (with_reducible refine Kd.C_alloc ?_ _) | (with_reducible refine Kd.C_drewN ?_ _) | (with_reducible refine Kd.C_drew ?_) | exact HR379.out)⟩, ⟨by repeat (first | (with_reducible exact HR383.out) | (with_reducible refine Kd.C_alloc ?_ _) | (with_reducible refine Kd.C_drewN ?_ _) | (with_reducible refine Kd.C_drew ?_) | exact HR383.out)⟩, ⟨by repeat (first | (with_reducible first | exact HB.out | apply below_alloc | apply pw_below_drewN | apply below_drew1) | exact HB.out)⟩⟩
                          · replace c37 := Bool.eq_false_iff.mpr c37
                            subst c37
                            have H1 : (copselaw03_PathsAll.j2 k2 l0 l1 x7_2 t370 t373 t384 t385 true) = some r := by rw [if_neg (show ¬ (false = true) by decide)] at H; exact H
                            clear H
                            have H := H1
                            clear H1
                            have H' := Aside0.mk H
                            clear H
                            obtain ⟨Ao46, co46, eo46⟩ := Kd.R_slice HO387.out
                            subst eo46
                            obtain ⟨Ao47, co47, eo47⟩ := Kd.R_slice HO389.out
                            subst eo47
                            go_wp2_with (first | ((with_reducible refine gate_callee (f := 14) rfl ?_); refine goesL_ (some 59) rfl rfl Tryd.func14 (by kernel_rfl) rfl #[.slice Ao46 t384.length co46, .slice Ao47 t385.length co47] rfl (by (try simp only [List.map_toArray, List.map_cons, List.map_nil]); first | done | rfl | (simp only [List.length_drop, List.length_take]; rfl)) ?_; (with_reducible refine (copselaw03_texts.calls k2 _ _ t384 _ _ t385 true _ ?side1 ?side2 ?side3 ?side4 A33.out).mono ?_); (case side1 => repeat (first | exact (Kd.R_reads' HO387.out).2.2 | (with_reducible refine Kd.C_alloc ?_ _) | (with_reducible refine Kd.C_drewN ?_ _) | (with_reducible refine Kd.C_drew ?_))); (case side2 => exact (Kd.R_reads' HO387.out).2.1); (case side3 => repeat (first | exact (Kd.R_reads' HO389.out).2.2 | (with_reducible refine Kd.C_alloc ?_ _) | (with_reducible refine Kd.C_drewN ?_ _) | (with_reducible refine Kd.C_drew ?_))); (case side4 => exact (Kd.R_reads' HO389.out).2.1); rintro e w' ⟨rfl, ⟨nd, rfl⟩⟩; refine ⟨_, rfl, ?_⟩) | (go_at_call 12; (with_reducible refine (copselaw03_lent.calls k2 _ _ l0 t391 _ ?side1 ?side2 A35.out).mono ?_); (case side1 => repeat (first | exact (Kd.C_below HR0.out (by repeat (first | (with_reducible first | exact HB.out | apply below_alloc | apply pw_below_drewN | apply below_drew1) | exact HB.out))) | (with_reducible refine Kd.C_alloc ?_ _) | (with_reducible refine Kd.C_drewN ?_ _) | (with_reducible refine Kd.C_drew ?_))); (case side2 => exact HC0.out); rintro e w48 ⟨v392, rfl, ho0, hb⟩; have n0_ := Aside0.mk (Kd.R_elder' (by (with_reducible repeat (first | apply Kd.R_alloc | apply Kd.R_drewN | apply Kd.R_drew)); exact HO372.out) (Kd.R_base ho0) hb); have n1_ := Aside0.mk (Kd.R_elder' (by (with_reducible repeat (first | apply Kd.R_alloc | apply Kd.R_drewN | apply Kd.R_drew)); exact HO375.out) (Kd.R_base ho0) hb); have n2_ := Aside0.mk (Kd.R_elder' (by (with_reducible repeat (first | apply Kd.R_alloc | apply Kd.R_drewN | apply Kd.R_drew)); exact HO387.out) (Kd.R_base ho0) hb); have n3_ := Aside0.mk (Kd.R_elder' (by (with_reducible repeat (first | apply Kd.R_alloc | apply Kd.R_drewN | apply Kd.R_drew)); exact HO389.out) (Kd.R_base ho0) hb); have n4_ := Aside0.mk (Kd.R_lower (Kd.R_new' (Kd.R_new' (Kd.R_new' (Kd.R_new' ho0 (Kd.R_lt (by (with_reducible repeat (first | apply Kd.R_alloc | apply Kd.R_drewN | apply Kd.R_drew)); exact HO372.out))) (Kd.R_lt (by (with_reducible repeat (first | apply Kd.R_alloc | apply Kd.R_drewN | apply Kd.R_drew)); exact HO375.out))) (Kd.R_lt (by (with_reducible repeat (first | apply Kd.R_alloc | apply Kd.R_drewN | apply Kd.R_drew)); exact HO387.out))) (Kd.R_lt (by (with_reducible repeat (first | apply Kd.R_alloc | apply Kd.R_drewN | apply Kd.R_drew)); exact HO389.out))) (below_size (by repeat (first | (with_reducible first | exact HB.out | apply below_alloc | apply pw_below_drewN | apply below_drew1) | exact HB.out)))); have n5_ := Aside0.mk (Kd.C_below (by repeat (first | (with_reducible exact HR379.out) | (with_reducible refine Kd.C_alloc ?_ _) | (with_reducible refine Kd.C_drewN ?_ _) | (with_reducible refine Kd.C_drew ?_) | exact HR379.out)) hb); have n6_ := Aside0.mk (Kd.C_below (by repeat (first | (with_reducible exact HR383.out) | (with_reducible refine Kd.C_alloc ?_ _) | (with_reducible refine Kd.C_drewN ?_ _) | (with_reducible refine Kd.C_drew ?_) | exact HR383.out)) hb); have n7_ := Aside0.mk (below_step (by repeat (first | (with_reducible first | exact HB.out | apply below_alloc | apply pw_below_drewN | apply below_drew1) | exact HB.out)) hb); clear HO372; clear HO375; clear HO387; clear HO389; clear HR379; clear HR383; clear HB; have HO372 := n0_; have HO375 := n1_; have HO387 := n2_; have HO389 := n3_; have HO393 := n4_; have HR379 := n5_; have HR383 := n6_; have HB := n7_; clear n0_ n1_ n2_ n3_ n4_ n5_ n6_ n7_; (try clear hb); (try clear hb2); (try clear hk); (try clear hi); (try clear ho0); obtain ⟨Ao49, co49, eo49⟩ := Kd.R_slice HO393.out; subst eo49) | (go_at_call 14; (with_reducible refine (copselaw03_texts.calls k2 _ _ t370 _ _ t391 false _ ?side1 ?side2 ?side3 ?side4 A36.out).mono ?_); (case side1 => repeat (first | exact (Kd.R_reads' HO372.out).2.2 | (with_reducible refine Kd.C_alloc ?_ _) | (with_reducible refine Kd.C_drewN ?_ _) | (with_reducible refine Kd.C_drew ?_))); (case side2 => exact (Kd.R_reads' HO372.out).2.1); (case side3 => repeat (first | exact (Kd.R_reads' HO393.out).2.2 | (with_reducible refine Kd.C_alloc ?_ _) | (with_reducible refine Kd.C_drewN ?_ _) | (with_reducible refine Kd.C_drew ?_))); (case side4 => exact (Kd.R_reads' HO393.out).2.1); rintro e w' ⟨rfl, ⟨nd, rfl⟩⟩))
                            go_meet
                            case rel => exact ⟨_, (true), (by first | rfl | (simp; done) | (simp [*]; done)), H', ⟨by have := HJ3.out; have := HK2.out; first | omega | exact Nat.le_refl _⟩, ⟨by (with_reducible repeat (first | apply Kd.R_alloc | apply Kd.R_drewN | apply Kd.R_drew)); exact Kd.R_mono HO372.out (fun _ hk => ⟨hk.1.1.1.2, ⟨hk.1.1.2, hk.1.2⟩⟩)⟩, ⟨by (with_reducible repeat (first | apply Kd.R_alloc | apply Kd.R_drewN | apply Kd.R_drew)); exact Kd.R_mono HO375.out (fun _ hk => ⟨hk.1.1.1.2, ⟨hk.1.1.2, hk.1.2⟩⟩)⟩, ⟨by (with_reducible repeat (first | apply Kd.R_alloc | apply Kd.R_drewN | apply Kd.R_drew)); exact Kd.R_mono HO387.out (fun _ hk => ⟨hk.1.1.2, ⟨hk.1.2, hk.1.1.1⟩⟩)⟩, ⟨by (with_reducible repeat (first | apply Kd.R_alloc | apply Kd.R_drewN | apply Kd.R_drew)); exact Kd.R_mono HO389.out (fun _ hk => ⟨hk.1.1.2, ⟨hk.1.2, hk.1.1.1⟩⟩)⟩, ⟨by repeat (first | (with_reducible exact HR379.out) | (with_reducible refine Kd.C_alloc ?_ _) | (with_reducible refine Kd.C_drewN ?_ _) | (with_reducible refine Kd.C_drew ?_) | exact HR379.out)⟩, ⟨by repeat (first | (with_reducible exact HR383.out) | (with_reducible refine Kd.C_alloc ?_ _) | (with_reducible refine Kd.C_drewN ?_ _) | (with_reducible refine Kd.C_drew ?_) | exact HR383.out)⟩, ⟨by repeat (first | (with_reducible first | exact HB.out | apply below_alloc | apply pw_below_drewN | apply below_drew1) | exact HB.out)⟩⟩
                        · replace c34 := Bool.eq_false_iff.mpr c34
                          subst c34
                          have H1 : (copselaw03_PathsAll.j2 k2 l0 l1 x7_2 t370 t373 t384 t385 true) = some r := by rw [if_neg (show ¬ (false = true) by decide)] at H; exact H
                          clear H
                          have H := H1
                          clear H1
                          have H' := Aside0.mk H
                          clear H
                          obtain ⟨Ao50, co50, eo50⟩ := Kd.R_slice HO387.out
                          subst eo50
                          obtain ⟨Ao51, co51, eo51⟩ := Kd.R_slice HO389.out
                          subst eo51
                          go_wp2_with (first | ((with_reducible refine gate_callee (f := 14) rfl ?_); refine goesL_ (some 59) rfl rfl Tryd.func14 (by kernel_rfl) rfl #[.slice Ao50 t384.length co50, .slice Ao51 t385.length co51] rfl (by (try simp only [List.map_toArray, List.map_cons, List.map_nil]); first | done | rfl | (simp only [List.length_drop, List.length_take]; rfl)) ?_; (with_reducible refine (copselaw03_texts.calls k2 _ _ t384 _ _ t385 false _ ?side1 ?side2 ?side3 ?side4 A33.out).mono ?_); (case side1 => repeat (first | exact (Kd.R_reads' HO387.out).2.2 | (with_reducible refine Kd.C_alloc ?_ _) | (with_reducible refine Kd.C_drewN ?_ _) | (with_reducible refine Kd.C_drew ?_))); (case side2 => exact (Kd.R_reads' HO387.out).2.1); (case side3 => repeat (first | exact (Kd.R_reads' HO389.out).2.2 | (with_reducible refine Kd.C_alloc ?_ _) | (with_reducible refine Kd.C_drewN ?_ _) | (with_reducible refine Kd.C_drew ?_))); (case side4 => exact (Kd.R_reads' HO389.out).2.1); rintro e w' ⟨rfl, ⟨nd, rfl⟩⟩; refine ⟨_, rfl, ?_⟩))
                          go_meet
                          case rel => exact ⟨_, (true), (by first | rfl | (simp; done) | (simp [*]; done)), H', ⟨by have := HJ3.out; have := HK2.out; first | omega | exact Nat.le_refl _⟩, ⟨by (with_reducible repeat (first | apply Kd.R_alloc | apply Kd.R_drewN | apply Kd.R_drew)); exact Kd.R_mono HO372.out (fun _ hk => ⟨hk.1.1.2, ⟨hk.1.2, hk.2⟩⟩)⟩, ⟨by (with_reducible repeat (first | apply Kd.R_alloc | apply Kd.R_drewN | apply Kd.R_drew)); exact Kd.R_mono HO375.out (fun _ hk => ⟨hk.1.1.2, ⟨hk.1.2, hk.2⟩⟩)⟩, ⟨by (with_reducible repeat (first | apply Kd.R_alloc | apply Kd.R_drewN | apply Kd.R_drew)); exact Kd.R_mono HO387.out (fun _ hk => ⟨hk.1.2, ⟨hk.2, hk.1.1⟩⟩)⟩, ⟨by (with_reducible repeat (first | apply Kd.R_alloc | apply Kd.R_drewN | apply Kd.R_drew)); exact Kd.R_mono HO389.out (fun _ hk => ⟨hk.1.2, ⟨hk.2, hk.1.1⟩⟩)⟩, ⟨by repeat (first | (with_reducible exact HR379.out) | (with_reducible refine Kd.C_alloc ?_ _) | (with_reducible refine Kd.C_drewN ?_ _) | (with_reducible refine Kd.C_drew ?_) | exact HR379.out)⟩, ⟨by repeat (first | (with_reducible exact HR383.out) | (with_reducible refine Kd.C_alloc ?_ _) | (with_reducible refine Kd.C_drewN ?_ _) | (with_reducible refine Kd.C_drew ?_) | exact HR383.out)⟩, ⟨by repeat (first | (with_reducible first | exact HB.out | apply below_alloc | apply pw_below_drewN | apply below_drew1) | exact HB.out)⟩⟩
                      case rest =>
                        clear HC24
                        try clear c1
                        try clear c2
                        try clear p2
                        try clear q2
                        try clear c3
                        try clear q3
                        try clear c6
                        try clear c9
                        try clear c9b0
                        try clear c9b1
                        try clear c9b2
                        try clear c12
                        try clear c13
                        try clear c14
                        try clear c15
                        try clear c16
                        try clear c16b0
                        try clear c19
                        try clear c19b0
                        try clear c19b1
                        try clear c20
                        try clear c20b0
                        try clear c20b1
                        try clear c21
                        try clear c21b0
                        try clear c21b1
                        try clear c22
                        try clear c22b0
                        try clear c22b1
                        try clear q28
                        try clear q30
                        try clear c34
                        try clear c37
                        try clear p2
                        try clear q28
                        try clear q30
                        obtain ⟨kq, x74_23, rfl, HA, HJ23, HO_8, HO_9, HO_10, HO_11, HR379, HR383, HB⟩ := hcut
                        cases kq with
                        | zero => exact absurd HA.out (by simp [copselaw03_PathsAll.j2])
                        | succ kj23 =>
                          have H := HA.out
                          clear HA
                          simp only [copselaw03_PathsAll.j2] at H
                          by_cases c52 : x74_23 = true
                          · subst c52
                            have H1 : (some false) = some r := by rw [if_pos rfl] at H; exact H
                            clear H
                            have H := H1
                            clear H1
                            obtain rfl := Option.some.inj H
                            go_wp2
                            go_ret
                            exact ⟨by first | rfl | (simp [errW_none, errW_some] <;> rfl) | (simp [*, errW_none, errW_some] <;> rfl), by repeat (first | (with_reducible first | exact HB.out | apply below_alloc | apply pw_below_drewN | apply below_drew1) | exact HB.out)⟩
                          · replace c52 := Bool.eq_false_iff.mpr c52
                            subst c52
                            have H1 : (copselaw03_PathsAll.l1 kj23 l0 l1 x7_2 t370 t373 t384 t385 0) = some r := by rw [if_neg (show ¬ (false = true) by decide)] at H; exact H
                            clear H
                            have H := H1
                            clear H1
                            have H' := Aside0.mk H
                            clear H
                            go_wp2
                            go_loopg [12] kj23 (fun kq v12 w' => ∃ (x8_4 : List ByteArray) (x12_4 : Int), v12 = .int .i64 x12_4 ∧ Aside0 (copselaw03_PathsAll.l1 kq l0 l1 x7_2 x8_4 t373 t384 t385 x12_4 = some r) ∧ Aside0 (kq ≤ kj23) ∧ Aside0 (Kd.R Kd.string 9 w' w.heap.size (fun k_ => some k_ ≠ ((.slice Ao31 t373.length co31) : Value).ownBlock ∧ some k_ ≠ (v386 : Value).ownBlock ∧ some k_ ≠ (v388 : Value).ownBlock) (.slice Ao29 t370.length co29) x8_4) ∧ Aside0 (Kd.R Kd.string 9 w' w.heap.size (fun k_ => some k_ ≠ ((.slice Ao29 t370.length co29) : Value).ownBlock ∧ some k_ ≠ (v386 : Value).ownBlock ∧ some k_ ≠ (v388 : Value).ownBlock) (.slice Ao31 t373.length co31) t373) ∧ Aside0 (Kd.R Kd.string 9 w' w.heap.size (fun k_ => some k_ ≠ ((.slice Ao29 t370.length co29) : Value).ownBlock ∧ some k_ ≠ ((.slice Ao31 t373.length co31) : Value).ownBlock ∧ some k_ ≠ (v388 : Value).ownBlock) v386 t384) ∧ Aside0 (Kd.R Kd.string 9 w' w.heap.size (fun k_ => some k_ ≠ ((.slice Ao29 t370.length co29) : Value).ownBlock ∧ some k_ ≠ ((.slice Ao31 t373.length co31) : Value).ownBlock ∧ some k_ ≠ (v386 : Value).ownBlock) v388 t385) ∧ Aside0 (Below w.heap.size w w'))
                            case atStart => exact ⟨(t370), (0), (by first | rfl | (simp; done) | (simp [*]; done)), H', ⟨Nat.le_refl _⟩, ⟨by (with_reducible repeat (first | apply Kd.R_alloc | apply Kd.R_drewN | apply Kd.R_drew)); exact HO_8.out⟩, ⟨by (with_reducible repeat (first | apply Kd.R_alloc | apply Kd.R_drewN | apply Kd.R_drew)); exact HO_9.out⟩, ⟨by (with_reducible repeat (first | apply Kd.R_alloc | apply Kd.R_drewN | apply Kd.R_drew)); exact HO_10.out⟩, ⟨by (with_reducible repeat (first | apply Kd.R_alloc | apply Kd.R_drewN | apply Kd.R_drew)); exact HO_11.out⟩, ⟨by repeat (first | (with_reducible first | exact HB.out | apply below_alloc | apply pw_below_drewN | apply below_drew1) | exact HB.out)⟩⟩
                            case round =>
                              clear H'
                              try clear c1
                              try clear c2
                              try clear p2
                              try clear q2
                              try clear c3
                              try clear q3
                              try clear c5
                              try clear c6
                              try clear c9
                              try clear c9b0
                              try clear c9b1
                              try clear c9b2
                              try clear c12
                              try clear c13
                              try clear c14
                              try clear c15
                              try clear c16
                              try clear c16b0
                              try clear c19
                              try clear c19b0
                              try clear c19b1
                              try clear c20
                              try clear c20b0
                              try clear c20b1
                              try clear c21
                              try clear c21b0
                              try clear c21b1
                              try clear c22
                              try clear c22b0
                              try clear c22b1
                              try clear q28
                              try clear q30
                              try clear c34
                              try clear c37
                              try clear c52
                              try clear p2
                              try clear q2
                              try clear q28
                              try clear q3
                              try clear q30
                              obtain ⟨x8_4, x12_4, rfl, HA, HK4, HO_8, HO_9, HO_10, HO_11, HB⟩ := hrel
                              have hl8_4 := (Kd.R_reads' HO_8.out).1
                              rw [hl8_4] at HO_8
                              (try simp only [hl8_4])
                              (try simp only [hl8_4] at HO_9)
                              (try simp only [hl8_4] at HO_10)
                              (try simp only [hl8_4] at HO_11)
                              cases gk with
                              | zero => exact absurd HA.out (by simp [copselaw03_PathsAll.l1])
                              | succ k4 =>
                                have H := HA.out
                                clear HA
                                simp only [copselaw03_PathsAll.l1] at H
                                by_cases c53 : x12_4 < (x8_4.length : Int)
                                · rw [if_pos c53] at H
                                  have c53b0 : decide (x12_4 < (x8_4.length : Int)) = true := decide_eq_true c53
                                  clear c53
                                  by_cases c54 : 0 ≤ x12_4
                                  · rw [if_pos c54] at H
                                    have c54b0 : decide (0 ≤ x12_4) = true := decide_eq_true c54
                                    clear c54
                                    obtain ⟨y399, hy399⟩ : ∃ y_ : List ByteArray, y_ = (x8_4.set (x12_4 : Int).toNat (⟨#[37]⟩ : ByteArray)) := ⟨_, rfl⟩
                                    replace H : (copselaw03_PathsAll.l1 k4 l0 l1 x7_2 y399 t373 t384 t385 (wrap64 (x12_4 + 1))) = some r := by first | (rw [hy399]; with_reducible exact H) | (have H2_ := (Option.bind_some _ _).symm.trans H; rw [hy399]; with_reducible exact H2_) | (have H2_ := (Option.bind_some _ _).symm.trans H; with_reducible exact H2_) | with_reducible exact H | (rw [hy399]; exact H) | exact H
                                    have Ny399 := Aside0.mk hy399
                                    clear hy399
                                    have H' := Aside0.mk H
                                    clear H
                                    have p55 : 0 ≤ (x12_4 : Int) := of_decide_eq_true (by first | (with_reducible assumption) | assumption)
                                    have q55 : (x12_4 : Int) < ((x8_4.length : Int) : Int) := of_decide_eq_true (by first | (with_reducible assumption) | assumption)
                                    obtain ⟨go55, co55, eo55, gb55, gl55, cl55, HG55⟩ := Kd.R_form HO_8.out (by omega)
                                    (first | cases eo55 | (injection eo55 with ea_ en_ ec_; (first | subst ea_ | (injection ea_ with ea_; subst ea_)); subst ec_; clear en_))
                                    have GB55 := Aside0.mk gb55
                                    have GG55 := Aside0.mk HG55
                                    clear gb55 gl55 HG55
                                    obtain ⟨hx55_0, hf55_0⟩ := Kd.R_celln (⟨#[]⟩ : ByteArray) HO_8.out (x12_4 : Int) p55 q55
                                    replace p55 := eq_true p55
                                    replace q55 := eq_true q55
                                    have HP56 := Kd.R_putg HO_8.out (x12_4 : Int) (⟨#[37]⟩ : ByteArray)
                                    go_wp2_with (first | ((with_reducible refine gate_store (t := 9) (p := 83) rfl ?_); refine store_event (t := 9) (p := 83) (v := ?vo_w57) (w1 := (wr.setCell ⟨go55, (x12_4 : Int).toNat, none⟩ (.string (⟨#[37]⟩ : ByteArray)))) ?hg ?ho ?hn ?hr ?_; (case ho => rfl); (case hg => rfl); (case hn => rfl); (case hr => first | (go_simp; done) | (go_simp; rfl)); intro w57 hw; have hg : wr.grownBy w57 (some go55) := (by rw [hw]; exact HP56.2); have hp_ : Kd.R Kd.string 9 w57 w.heap.size (fun k_ => some k_ ≠ (.slice Ao31 t373.length co31 : Value).ownBlock ∧ some k_ ≠ (v386 : Value).ownBlock ∧ some k_ ≠ (v388 : Value).ownBlock) (.slice (some ⟨go55, 0, none⟩) x8_4.length co29) y399 := (by rw [hw, Ny399.out]; exact HP56.1); clear HP56; have n0_ := Aside0.mk (hp_); have n1_ := Aside0.mk (Kd.R_after (v := (.slice (some ⟨go55, 0, none⟩) x8_4.length co29)) (v1 := (.slice (some ⟨go55, 0, none⟩) x8_4.length co29)) (ok := (fun k_ => some k_ ≠ (v386 : Value).ownBlock ∧ some k_ ≠ (v388 : Value).ownBlock)) (by (with_reducible repeat (first | apply Kd.R_alloc | apply Kd.R_drewN | apply Kd.R_drew)); exact Kd.R_mono HO_9.out (fun _ hk => ⟨⟨hk.2.1, hk.2.2⟩, hk.1⟩)) hg (.inl rfl)); have n2_ := Aside0.mk (Kd.R_after (v := (.slice (some ⟨go55, 0, none⟩) x8_4.length co29)) (v1 := (.slice (some ⟨go55, 0, none⟩) x8_4.length co29)) (ok := (fun k_ => some k_ ≠ (.slice Ao31 t373.length co31 : Value).ownBlock ∧ some k_ ≠ (v388 : Value).ownBlock)) (by (with_reducible repeat (first | apply Kd.R_alloc | apply Kd.R_drewN | apply Kd.R_drew)); exact Kd.R_mono HO_10.out (fun _ hk => ⟨⟨hk.2.1, hk.2.2⟩, hk.1⟩)) hg (.inl rfl)); have n3_ := Aside0.mk (Kd.R_after (v := (.slice (some ⟨go55, 0, none⟩) x8_4.length co29)) (v1 := (.slice (some ⟨go55, 0, none⟩) x8_4.length co29)) (ok := (fun k_ => some k_ ≠ (.slice Ao31 t373.length co31 : Value).ownBlock ∧ some k_ ≠ (v386 : Value).ownBlock)) (by (with_reducible repeat (first | apply Kd.R_alloc | apply Kd.R_drewN | apply Kd.R_drew)); exact Kd.R_mono HO_11.out (fun _ hk => ⟨⟨hk.2.1, hk.2.2⟩, hk.1⟩)) hg (.inl rfl)); have n4_ := Aside0.mk ((by rw [hw]; exact below_set (HB.out) GB55.out : Below w.heap.size w w57)); clear HO_8; clear HO_9; clear HO_10; clear HO_11; clear HB; have HO_8 := n0_; have HO_9 := n1_; have HO_10 := n2_; have HO_11 := n3_; have HB := n4_; clear n0_ n1_ n2_ n3_ n4_; clear hg hw hp_))
                                    (try simp only [← hl8_4])
                                    go_roundg k4
                                    case measure => have := HJ3.out; have := HK2.out; have := HJ23.out; have := HK4.out; omega
                                    case rel => exact ⟨(y399), (wrap64 (x12_4 + 1)), (by first | rfl | (simp; done) | (simp [*]; done)), H', ⟨by have := HJ3.out; have := HK2.out; have := HJ23.out; have := HK4.out; omega⟩, ⟨by (try simp only [hl8_4]); (with_reducible repeat (first | apply Kd.R_alloc | apply Kd.R_drewN | apply Kd.R_drew)); exact HO_8.out⟩, ⟨by (try simp only [hl8_4]); (with_reducible repeat (first | apply Kd.R_alloc | apply Kd.R_drewN | apply Kd.R_drew)); exact Kd.R_mono HO_9.out (fun _ hk => ⟨hk.2, ⟨hk.1.1, hk.1.2⟩⟩)⟩, ⟨by (try simp only [hl8_4]); (with_reducible repeat (first | apply Kd.R_alloc | apply Kd.R_drewN | apply Kd.R_drew)); exact Kd.R_mono HO_10.out (fun _ hk => ⟨hk.2, ⟨hk.1.1, hk.1.2⟩⟩)⟩, ⟨by (try simp only [hl8_4]); (with_reducible repeat (first | apply Kd.R_alloc | apply Kd.R_drewN | apply Kd.R_drew)); exact Kd.R_mono HO_11.out (fun _ hk => ⟨hk.2, ⟨hk.1.1, hk.1.2⟩⟩)⟩, ⟨by repeat (first | (with_reducible first | exact HB.out | apply below_alloc | apply pw_below_drewN | apply below_drew1) | exact HB.out)⟩⟩
                                  · rw [if_neg c54] at H
                                    exact absurd H (by simp)
                                · rw [if_neg c53] at H
                                  have c53b0 : decide (x12_4 < (x8_4.length : Int)) = false := decide_eq_false c53
                                  clear c53
                                  have H' := Aside0.mk H
                                  clear H
                                  go_wp2
                                  go_loopg [13] k4 (fun kq v13 w' => ∃ (x9_5 : List ByteArray) (x13_5 : Int), v13 = .int .i64 x13_5 ∧ Aside0 (copselaw03_PathsAll.l2 kq l0 l1 x7_2 x9_5 t384 t385 x13_5 = some r) ∧ Aside0 (kq ≤ k4) ∧ Aside0 (Kd.R Kd.string 9 w' w.heap.size (fun k_ => some k_ ≠ (v386 : Value).ownBlock ∧ some k_ ≠ (v388 : Value).ownBlock) (.slice Ao31 t373.length co31) x9_5) ∧ Aside0 (Kd.R Kd.string 9 w' w.heap.size (fun k_ => some k_ ≠ ((.slice Ao31 t373.length co31) : Value).ownBlock ∧ some k_ ≠ (v388 : Value).ownBlock) v386 t384) ∧ Aside0 (Kd.R Kd.string 9 w' w.heap.size (fun k_ => some k_ ≠ ((.slice Ao31 t373.length co31) : Value).ownBlock ∧ some k_ ≠ (v386 : Value).ownBlock) v388 t385) ∧ Aside0 (Below w.heap.size w w'))
                                  case atStart => exact ⟨(t373), (0), (by first | rfl | (simp; done) | (simp [*]; done)), H', ⟨Nat.le_refl _⟩, ⟨by (try simp only [hl8_4]); (with_reducible repeat (first | apply Kd.R_alloc | apply Kd.R_drewN | apply Kd.R_drew)); exact Kd.R_mono HO_9.out (fun _ hk => ⟨hk.2.1, hk.2.2⟩)⟩, ⟨by (try simp only [hl8_4]); (with_reducible repeat (first | apply Kd.R_alloc | apply Kd.R_drewN | apply Kd.R_drew)); exact Kd.R_mono HO_10.out (fun _ hk => ⟨hk.2.1, hk.2.2⟩)⟩, ⟨by (try simp only [hl8_4]); (with_reducible repeat (first | apply Kd.R_alloc | apply Kd.R_drewN | apply Kd.R_drew)); exact Kd.R_mono HO_11.out (fun _ hk => ⟨hk.2.1, hk.2.2⟩)⟩, ⟨by repeat (first | (with_reducible first | exact HB.out | apply below_alloc | apply pw_below_drewN | apply below_drew1) | exact HB.out)⟩⟩
                                  case round =>
                                    clear H'
                                    try clear c1
                                    try clear c2
                                    try clear p2
                                    try clear q2
                                    try clear c3
                                    try clear q3
                                    try clear c5
                                    try clear p5
                                    try clear q5
                                    try clear hx5
                                    try clear hf5
                                    try clear c6
                                    try clear p6
                                    try clear c9
                                    try clear c9b0
                                    try clear c9b1
                                    try clear c9b2
                                    try clear c12
                                    try clear c13
                                    try clear c14
                                    try clear c15
                                    try clear c16
                                    try clear c16b0
                                    try clear c19
                                    try clear c19b0
                                    try clear c19b1
                                    try clear c20
                                    try clear c20b0
                                    try clear c20b1
                                    try clear c21
                                    try clear c21b0
                                    try clear c21b1
                                    try clear c22
                                    try clear c22b0
                                    try clear c22b1
                                    try clear q28
                                    try clear q30
                                    try clear c34
                                    try clear c37
                                    try clear c52
                                    try clear c53
                                    try clear c53b0
                                    try clear c54
                                    try clear c54b0
                                    try clear p55
                                    try clear q55
                                    try clear hx55
                                    try clear hf55
                                    try clear hx55_0
                                    try clear p2
                                    try clear p55
                                    try clear q2
                                    try clear q28
                                    try clear q3
                                    try clear q30
                                    try clear q55
                                    obtain ⟨x9_5, x13_5, rfl, HA, HK5, HO_9, HO_10, HO_11, HB⟩ := hrel
                                    have hl9_5 := (Kd.R_reads' HO_9.out).1
                                    rw [hl9_5] at HO_9
                                    (try simp only [hl9_5])
                                    (try simp only [hl9_5] at HO_10)
                                    (try simp only [hl9_5] at HO_11)
                                    cases gk with
                                    | zero => exact absurd HA.out (by simp [copselaw03_PathsAll.l2])
                                    | succ k5 =>
                                      have H := HA.out
                                      clear HA
                                      simp only [copselaw03_PathsAll.l2] at H
                                      by_cases c58 : x13_5 < (x9_5.length : Int)
                                      · rw [if_pos c58] at H
                                        have c58b0 : decide (x13_5 < (x9_5.length : Int)) = true := decide_eq_true c58
                                        clear c58
                                        by_cases c59 : 0 ≤ x13_5
                                        · rw [if_pos c59] at H
                                          have c59b0 : decide (0 ≤ x13_5) = true := decide_eq_true c59
                                          clear c59
                                          obtain ⟨y400, hy400⟩ : ∃ y_ : List ByteArray, y_ = (x9_5.set (x13_5 : Int).toNat (⟨#[37]⟩ : ByteArray)) := ⟨_, rfl⟩
                                          replace H : (copselaw03_PathsAll.l2 k5 l0 l1 x7_2 y400 t384 t385 (wrap64 (x13_5 + 1))) = some r := by first | (rw [hy400]; with_reducible exact H) | (have H2_ := (Option.bind_some _ _).symm.trans H; rw [hy400]; with_reducible exact H2_) | (have H2_ := (Option.bind_some _ _).symm.trans H; with_reducible exact H2_) | with_reducible exact H | (rw [hy400]; exact H) | exact H
                                          have Ny400 := Aside0.mk hy400
                                          clear hy400
                                          have H' := Aside0.mk H
                                          clear H
                                          have p60 : 0 ≤ (x13_5 : Int) := of_decide_eq_true (by first | (with_reducible assumption) | assumption)
                                          have q60 : (x13_5 : Int) < ((x9_5.length : Int) : Int) := of_decide_eq_true (by first | (with_reducible assumption) | assumption)
                                          obtain ⟨go60, co60, eo60, gb60, gl60, cl60, HG60⟩ := Kd.R_form HO_9.out (by omega)
                                          (first | cases eo60 | (injection eo60 with ea_ en_ ec_; (first | subst ea_ | (injection ea_ with ea_; subst ea_)); subst ec_; clear en_))
                                          have GB60 := Aside0.mk gb60
                                          have GG60 := Aside0.mk HG60
                                          clear gb60 gl60 HG60
                                          obtain ⟨hx60_0, hf60_0⟩ := Kd.R_celln (⟨#[]⟩ : ByteArray) HO_9.out (x13_5 : Int) p60 q60
                                          replace p60 := eq_true p60
                                          replace q60 := eq_true q60
                                          have HP61 := Kd.R_putg HO_9.out (x13_5 : Int) (⟨#[37]⟩ : ByteArray)
                                          go_wp2_with (first | ((with_reducible refine gate_store (t := 9) (p := 92) rfl ?_); refine store_event (t := 9) (p := 92) (v := ?vo_w62) (w1 := (wr.setCell ⟨go60, (x13_5 : Int).toNat, none⟩ (.string (⟨#[37]⟩ : ByteArray)))) ?hg ?ho ?hn ?hr ?_; (case ho => rfl); (case hg => rfl); (case hn => rfl); (case hr => first | (go_simp; done) | (go_simp; rfl)); intro w62 hw; have hg : wr.grownBy w62 (some go60) := (by rw [hw]; exact HP61.2); have hp_ : Kd.R Kd.string 9 w62 w.heap.size (fun k_ => some k_ ≠ (v386 : Value).ownBlock ∧ some k_ ≠ (v388 : Value).ownBlock) (.slice (some ⟨go60, 0, none⟩) x9_5.length co31) y400 := (by rw [hw, Ny400.out]; exact HP61.1); clear HP61; have n0_ := Aside0.mk (hp_); have n1_ := Aside0.mk (Kd.R_after (v := (.slice (some ⟨go60, 0, none⟩) x9_5.length co31)) (v1 := (.slice (some ⟨go60, 0, none⟩) x9_5.length co31)) (ok := (fun k_ => some k_ ≠ (v388 : Value).ownBlock)) (by (with_reducible repeat (first | apply Kd.R_alloc | apply Kd.R_drewN | apply Kd.R_drew)); exact Kd.R_mono HO_10.out (fun _ hk => ⟨hk.2, hk.1⟩)) hg (.inl rfl)); have n2_ := Aside0.mk (Kd.R_after (v := (.slice (some ⟨go60, 0, none⟩) x9_5.length co31)) (v1 := (.slice (some ⟨go60, 0, none⟩) x9_5.length co31)) (ok := (fun k_ => some k_ ≠ (v386 : Value).ownBlock)) (by (with_reducible repeat (first | apply Kd.R_alloc | apply Kd.R_drewN | apply Kd.R_drew)); exact Kd.R_mono HO_11.out (fun _ hk => ⟨hk.2, hk.1⟩)) hg (.inl rfl)); have n3_ := Aside0.mk ((by rw [hw]; exact below_set (HB.out) GB60.out : Below w.heap.size w w62)); clear HO_9; clear HO_10; clear HO_11; clear HB; have HO_9 := n0_; have HO_10 := n1_; have HO_11 := n2_; have HB := n3_; clear n0_ n1_ n2_ n3_; clear hg hw hp_))
                                          (try simp only [← hl9_5])
                                          go_roundg k5
                                          case measure => have := HJ3.out; have := HK2.out; have := HJ23.out; have := HK4.out; have := HK5.out; omega
                                          case rel => exact ⟨(y400), (wrap64 (x13_5 + 1)), (by first | rfl | (simp; done) | (simp [*]; done)), H', ⟨by have := HJ3.out; have := HK2.out; have := HJ23.out; have := HK4.out; have := HK5.out; omega⟩, ⟨by (try simp only [hl8_4]); (try simp only [hl9_5]); (with_reducible repeat (first | apply Kd.R_alloc | apply Kd.R_drewN | apply Kd.R_drew)); exact HO_9.out⟩, ⟨by (try simp only [hl8_4]); (try simp only [hl9_5]); (with_reducible repeat (first | apply Kd.R_alloc | apply Kd.R_drewN | apply Kd.R_drew)); exact Kd.R_mono HO_10.out (fun _ hk => ⟨hk.2, hk.1⟩)⟩, ⟨by (try simp only [hl8_4]); (try simp only [hl9_5]); (with_reducible repeat (first | apply Kd.R_alloc | apply Kd.R_drewN | apply Kd.R_drew)); exact Kd.R_mono HO_11.out (fun _ hk => ⟨hk.2, hk.1⟩)⟩, ⟨by repeat (first | (with_reducible first | exact HB.out | apply below_alloc | apply pw_below_drewN | apply below_drew1) | exact HB.out)⟩⟩
                                        · rw [if_neg c59] at H
                                          exact absurd H (by simp)
                                      · rw [if_neg c58] at H
                                        have c58b0 : decide (x13_5 < (x9_5.length : Int)) = false := decide_eq_false c58
                                        clear c58
                                        replace H := Option.bind_eq_some_iff.mp H
                                        obtain ⟨t401, A630, H⟩ := H
                                        replace H : (if t401 = true then (copselaw03_PathsAll.l0 k5 l0 l1 (wrap64 (x7_2 + 1))) else (some false)) = some r := H
                                        have A63 := Aside0.mk A630
                                        clear A630
                                        by_cases c64 : t401 = true
                                        · subst c64
                                          have H1 : (copselaw03_PathsAll.l0 k5 l0 l1 (wrap64 (x7_2 + 1))) = some r := by rw [if_pos rfl] at H; exact H
                                          clear H
                                          have H := H1
                                          clear H1
                                          have H' := Aside0.mk H
                                          clear H
                                          obtain ⟨Ao65, co65, eo65⟩ := Kd.R_slice HO_10.out
                                          subst eo65
                                          obtain ⟨Ao66, co66, eo66⟩ := Kd.R_slice HO_11.out
                                          subst eo66
                                          go_wp2_with (first | ((with_reducible refine gate_callee (f := 14) rfl ?_); refine goesL_ (some 95) rfl rfl Tryd.func14 (by kernel_rfl) rfl #[.slice Ao65 t384.length co65, .slice Ao66 t385.length co66] rfl (by (try simp only [List.map_toArray, List.map_cons, List.map_nil]); first | done | rfl | (simp only [List.length_drop, List.length_take]; rfl)) ?_; (with_reducible refine (copselaw03_texts.calls k5 _ _ t384 _ _ t385 true _ ?side1 ?side2 ?side3 ?side4 A63.out).mono ?_); (case side1 => repeat (first | exact (Kd.R_reads' HO_10.out).2.2 | (with_reducible refine Kd.C_alloc ?_ _) | (with_reducible refine Kd.C_drewN ?_ _) | (with_reducible refine Kd.C_drew ?_))); (case side2 => exact (Kd.R_reads' HO_10.out).2.1); (case side3 => repeat (first | exact (Kd.R_reads' HO_11.out).2.2 | (with_reducible refine Kd.C_alloc ?_ _) | (with_reducible refine Kd.C_drewN ?_ _) | (with_reducible refine Kd.C_drew ?_))); (case side4 => exact (Kd.R_reads' HO_11.out).2.1); rintro e w' ⟨rfl, ⟨nd, rfl⟩⟩; refine ⟨_, rfl, ?_⟩))
                                          (try simp only [← hl8_4, ← hl9_5])
                                          go_roundg k5
                                          case measure => have := HJ3.out; have := HK2.out; have := HJ23.out; have := HK4.out; have := HK5.out; omega
                                          case rel => exact ⟨(wrap64 (x7_2 + 1)), (by first | rfl | (simp; done) | (simp [*]; done)), H', ⟨by have := HJ3.out; have := HK2.out; have := HJ23.out; have := HK4.out; have := HK5.out; omega⟩, ⟨by repeat (first | (with_reducible first | exact HB.out | apply below_alloc | apply pw_below_drewN | apply below_drew1) | exact HB.out)⟩⟩
                                        · replace c64 := Bool.eq_false_iff.mpr c64
                                          subst c64
                                          have H1 : (some false) = some r := by rw [if_neg (show ¬ (false = true) by decide)] at H; exact H
                                          clear H
                                          have H := H1
                                          clear H1
                                          obtain rfl := Option.some.inj H
                                          obtain ⟨Ao67, co67, eo67⟩ := Kd.R_slice HO_10.out
                                          subst eo67
                                          obtain ⟨Ao68, co68, eo68⟩ := Kd.R_slice HO_11.out
                                          subst eo68
                                          go_wp2_with (first | ((with_reducible refine gate_callee (f := 14) rfl ?_); refine goesL_ (some 95) rfl rfl Tryd.func14 (by kernel_rfl) rfl #[.slice Ao67 t384.length co67, .slice Ao68 t385.length co68] rfl (by (try simp only [List.map_toArray, List.map_cons, List.map_nil]); first | done | rfl | (simp only [List.length_drop, List.length_take]; rfl)) ?_; (with_reducible refine (copselaw03_texts.calls k5 _ _ t384 _ _ t385 false _ ?side1 ?side2 ?side3 ?side4 A63.out).mono ?_); (case side1 => repeat (first | exact (Kd.R_reads' HO_10.out).2.2 | (with_reducible refine Kd.C_alloc ?_ _) | (with_reducible refine Kd.C_drewN ?_ _) | (with_reducible refine Kd.C_drew ?_))); (case side2 => exact (Kd.R_reads' HO_10.out).2.1); (case side3 => repeat (first | exact (Kd.R_reads' HO_11.out).2.2 | (with_reducible refine Kd.C_alloc ?_ _) | (with_reducible refine Kd.C_drewN ?_ _) | (with_reducible refine Kd.C_drew ?_))); (case side4 => exact (Kd.R_reads' HO_11.out).2.1); rintro e w' ⟨rfl, ⟨nd, rfl⟩⟩; refine ⟨_, rfl, ?_⟩))
                                          go_ret
                                          exact ⟨by first | rfl | (simp [errW_none, errW_some] <;> rfl) | (simp [*, errW_none, errW_some] <;> rfl), by repeat (first | (with_reducible first | exact HB.out | apply below_alloc | apply pw_below_drewN | apply below_drew1) | exact HB.out)⟩
                    · rw [if_neg c22] at H
                      exact absurd H (by simp)
                  · rw [if_neg c21] at H
                    exact absurd H (by simp)
                · rw [if_neg c20] at H
                  exact absurd H (by simp)
              · rw [if_neg c19] at H
                exact absurd H (by simp)
            · rw [if_neg c16] at H
              have c16b0 : decide (x7_2 < 6) = false := decide_eq_false c16
              clear c16
              obtain rfl := Option.some.inj H
              go_wp2
              go_ret
              exact ⟨by first | rfl | (simp [errW_none, errW_some] <;> rfl) | (simp [*, errW_none, errW_some] <;> rfl), by repeat (first | (with_reducible first | exact HB.out | apply below_alloc | apply pw_below_drewN | apply below_drew1) | exact HB.out)⟩

end Go.Proofs.YtdfkaclflmgkeaaDoor.PAll
