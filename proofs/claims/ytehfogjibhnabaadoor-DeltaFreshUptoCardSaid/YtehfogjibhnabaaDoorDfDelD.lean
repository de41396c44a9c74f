/- Layer 6: what the printed Join answers; what Diff, Apply, Join and Invert do to each other. Plain Lean. -/
import Derived.Test.YtehfogjibhnabaaDoorDfPAllx0
import Derived.Test.YtehfogjibhnabaaDoorDfDelB
import Derived.Test.YtehfogjibhnabaaDoorDfPAlly4
import Derived.Test.YtehfogjibhnabaaDoorDfPure5
import Derived.Test.YtehfogjibhnabaaDoorDfHandA
import Derived.Test.YtehfogjibhnabaaDoorDfPAlly1
import Derived.Test.YtehfogjibhnabaaDoorDfPAlly6
import Derived.WalkKit
import Derived.WalkSpells
import Derived.BigQuiet
import Derived.Outline
import Derived.Lib.SliceRun
import Derived.RangeFuncBox
import Derived.Shelf.SlSortCmp.WholeK
import Derived.Test.YtehfogjibhnabaaDoorDfPAlly3
import Derived.Test.YtehfogjibhnabaaDoorDfPAlly7
import Derived.Test.YtehfogjibhnabaaDoorDfPAlly9
namespace Go.Proofs.YtehfogjibhnabaaDoor.PAll
open Go.RowKit Go.Proofs.YtehfogjibhnabaaDoorW.PrintWords Go.Proofs.YtehfogjibhnabaaDoorW.PrintLast Go.Proofs.YtehfogjibhnabaaDoorW.PrintMore
open Go.Proofs.YtehfogjibhnabaaDoor.Sp
def clash1 (x y : S61) : Bool := decide (x.f0 = y.f0) && (x.f2 != y.f1 || !eqF x.f4 y.f3)
def clashB (d e : List S61) : Bool := d.any fun x => e.any (clash1 x)
def joinV (d e : List S61) : List S61 × Int :=
 if validD d = true ∧ validD e = true then (if clashB d e = true then ([], 9) else (joinK S61.f0 idleC outerC (d.length + e.length) d e, 0)) else ([], 9)
theorem join06_l1 (d e : List S61) (i : Nat) (hd : d.length ≤ 4194304) (he : e.length ≤ 4194304) (x : S61) (hi : i < d.length) (r : List S61 × Int)
  (hr : Ev (fun k => delta_Join.l0 k d e d (d.length : Int) ((i + 1 : Nat) : Int)) r) (n : Nat) : ∀ j, e.length - j = n → j ≤ e.length →
  Ev (fun k => delta_Join.l1 k d e d (d.length : Int) (i : Int) e (e.length : Int) (j : Int) x.f0 x.f1 x.f2 x.f3.f0 x.f3.f1 x.f3.f2 x.f3.f3 x.f4.f0 x.f4.f1 x.f4.f2 x.f4.f3) (if (e.drop j).any (clash1 x) = true then ([], 9) else r) := by
 induction n with
 | zero =>
  intro j hn hj
  refine Ev.step (f := fun k => delta_Join.l0 k d e d (d.length : Int) ((i + 1 : Nat) : Int)) (fun k => ?_) ?_
  ·simp only [delta_Join.l1]
   rw [if_neg (by omega), wrap_succ (n := d.length) (by omega) (by omega)]
  ·rw [List.drop_of_length_le (by omega), if_neg (by simp)]
   exact hr
 | succ n ih =>
  intro j hn hj
  have hlt : j < e.length := by omega
  obtain ⟨K, hK⟩ := ih (j + 1) (by omega) (by omega)
  dsimp only at hK
  have hw : wrap64 ((j : Int) + 1) = ((j + 1 : Nat) : Int) := wrap_succ (n := e.length) (by omega) (by omega)
  rw [rdC_drop e j hlt, List.any_cons]
  refine ⟨K + 1, fun k hk => ?_⟩
  obtain ⟨k, rfl⟩ : ∃ m, k = m + 1 := ⟨k - 1, by omega⟩
  simp only [delta_Join.l1]
  rw [if_pos (by omega), if_pos (by omega), if_pos (by omega), hw]
  generalize rd_T61 e (j : Int) = y
  unfold clash1 at hK ⊢
  by_cases h0 : x.f0 = y.f0
  ·rw [if_pos (by rw [h0]), decide_eq_true h0, Bool.true_and]
   by_cases h1 : (x.f2 != y.f1) = true
   ·rw [if_pos h1, h1]; rfl
   ·have h1' : (x.f2 != y.f1) = false := by simpa using h1
    rw [if_neg h1, h1', Bool.false_or, neF]
    by_cases h2 : eqF x.f4 y.f3 = true
    ·rw [h2, if_neg (by simp)]
     simp only [Bool.not_true, Bool.false_or]
     exact hK k (by omega)
    ·have h2' : eqF x.f4 y.f3 = false := by simpa using h2
     rw [h2', if_pos (show (!false) = true from rfl)]; rfl
  ·rw [if_neg (fun h => h0 (bs_inj (by rw [← toList_bs, ← toList_bs]; exact h))), decide_eq_false h0, Bool.false_and, Bool.false_or]
   exact hK k (by omega)
theorem join06_l0 (d e : List S61) (hd : d.length ≤ 4194304) (he : e.length ≤ 4194304) (fd : FitsD d) (fe : FitsD e) (n : Nat) : ∀ i, d.length - i = n → i ≤ d.length →
  Ev (fun k => delta_Join.l0 k d e d (d.length : Int) (i : Int)) (if clashB (d.drop i) e = true then ([], 9) else (joinK S61.f0 idleC outerC (d.length + e.length) d e, 0)) := by
 induction n with
 | zero =>
  intro i hn hi
  refine ⟨1, fun k hk => ?_⟩
  obtain ⟨k, rfl⟩ : ∃ m, k = m + 1 := ⟨k - 1, by omega⟩
  simp only [delta_Join.l0]
  rw [if_neg (by omega), joined06 k d e true hd he fd fe, Option.bind_some, List.drop_of_length_le (by omega)]
  rfl
 | succ n ih =>
  intro i hn hi
  have hlt : i < d.length := by omega
  refine Ev.step (f := fun k => delta_Join.l1 k d e d (d.length : Int) (i : Int) e (e.length : Int) ((0 : Nat) : Int) (rd_T61 d (i : Int)).f0 (rd_T61 d (i : Int)).f1 (rd_T61 d (i : Int)).f2 (rd_T61 d (i : Int)).f3.f0 (rd_T61 d (i : Int)).f3.f1 (rd_T61 d (i : Int)).f3.f2 (rd_T61 d (i : Int)).f3.f3 (rd_T61 d (i : Int)).f4.f0 (rd_T61 d (i : Int)).f4.f1 (rd_T61 d (i : Int)).f4.f2 (rd_T61 d (i : Int)).f4.f3) (fun k => ?_) ?_
  ·simp only [delta_Join.l0]
   rw [if_pos (by omega), if_pos (by omega), if_pos (by omega)]
   rfl
  ·refine Ev.val (join06_l1 d e i hd he (rd_T61 d (i : Int)) hlt _ (ih (i + 1) (by omega) (by omega)) e.length 0 (by omega) (by omega)) ?_
   rw [rdC_drop d i hlt]
   unfold clashB
   rw [List.any_cons, List.drop_zero]
   by_cases h : e.any (clash1 (rd_T61 d (i : Int))) = true
   ·rw [if_pos h, h, Bool.true_or, if_pos rfl]
   ·have h' : e.any (clash1 (rd_T61 d (i : Int))) = false := by simpa using h
    rw [if_neg h, h', Bool.false_or]
theorem join06 (d e : List S61) (hd : d.length ≤ 4194304) (he : e.length ≤ 4194304) (fd : FitsD d) (fe : FitsD e) : Ev (fun k => delta_Join.f k d e) (joinV d e) := by
 have nope : Ev (fun k => delta_Join.j0 k d e true) ([], 9) := by
  refine Ev.step (f := fun _ => some ([], 9)) (fun k => ?_) (ev_some _)
  simp only [delta_Join.j0]
  rw [if_pos trivial]
 unfold joinV
 refine Ev.bind (valid06 d (by omega) fd) ?_
 by_cases h1 : validD d = true
 ·rw [h1]
  simp only [if_true]
  refine Ev.bind (valid06 e (by omega) fe) ?_
  by_cases h2 : validD e = true
  ·rw [h2, if_pos (by simp)]
   refine Ev.step (f := fun k => delta_Join.l0 k d e d (d.length : Int) ((0 : Nat) : Int)) (fun k => ?_) (Ev.val (join06_l0 d e hd he fd fe d.length 0 (by omega) (by omega)) (by rw [List.drop_zero]))
   simp only [delta_Join.j0]
   rw [if_neg (by simp)]
   rfl
  ·have h2' : validD e = false := by simpa using h2
   rw [h2', if_neg (by simp)]
   exact nope
 ·have h1' : validD d = false := by simpa using h1
  simp only [h1', if_neg (show ¬ (false = true) by decide)]
  rw [if_neg (by simp)]
  exact nope
section
variable {a b c : List S55} {d e : List S61}
abbrev atF (l : List S55) (p : ByteArray) : Option S55 := atK S55.f0 l p
abbrev atC (l : List S61) (p : ByteArray) : Option S61 := atK S61.f0 l p
theorem snap_rises (h : snapV a = 0) : RisesK S55.f0 a := ((snap_zero a).1 h).2.2.2.imp fun h => h.1
def partsO (x y : Option S55) (p : ByteArray) : Option S61 := match x, y with
 | none, none => none
 | some x, none => some ⟨p, true, false, x, z55⟩
 | none, some y => some ⟨p, false, true, z55, y⟩
 | some x, some y => if eqF x y = true then none else some ⟨p, true, true, x, y⟩
theorem diff_spec (ha : RisesK S55.f0 a) (hb : RisesK S55.f0 b) : RisesK S61.f0 (diffD a b) ∧ ∀ p, atC (diffD a b) p = partsO (atF a p) (atF b p) p := by
 have h := joinK_spec (key := S61.f0) (idle := idleC) (comb := outerC) (fun _ _ => rfl) (a.length + b.length) (a.map goneC) (b.map comeC) (by simp) (ha.map goneC fun _ => rfl) (hb.map comeC fun _ => rfl)
 refine ⟨h.1, fun p => (h.2 p).trans ?_⟩
 rw [atK_map goneC (key := S55.f0) (fun _ => rfl), atK_map comeC (key := S55.f0) (fun _ => rfl)]
 change (bothO outerC ((atF a p).map goneC) ((atF b p).map comeC)).filter (fun z => !idleC z) = partsO (atF a p) (atF b p) p
 unfold partsO
 cases hx : atF a p with
 | none =>
  cases hy : atF b p with
  | none => rfl
  | some y =>
   have := (atK_some hy).1
   subst this
   rfl
 | some x =>
  have e := (atK_some hx).1
  subst e
  cases hy : atF b x.f0 with
  | none => rfl
  | some y =>
   have e := (atK_some hy).1
   show (some (outerC (goneC x) (comeC y))).filter (fun z => !idleC z) = _
   have hi : idleC (outerC (goneC x) (comeC y)) = eqF x y := rfl
   by_cases hxy : x = y
   ·subst hxy
    simp [Option.filter, hi, eqF_self]
   ·have hi2 : idleC ⟨x.f0, true, true, x, y⟩ = false := (show _ = eqF x y from rfl).trans (eqF_ne hxy)
    simp [Option.filter, hi2, eqF_ne hxy, outerC, goneC, comeC]
theorem apply_spec (ha : RisesK S55.f0 a) (hd : RisesK S61.f0 d) (hm : ∀ c ∈ d, c.f2 = true → c.f4.f0 = c.f0) :
  RisesK S55.f0 (applyL a d) ∧ ∀ p, atF (applyL a d) p = match atC d p with | none => atF a p | some c => if c.f2 = true then some c.f4 else none := by
 have h := joinK_spec (key := S61.f0) (idle := goesC) (comb := overC) (fun _ _ => rfl) (a.length + d.length) (a.map comeC) d (by simp) (ha.map comeC fun _ => rfl) hd
 have hat : ∀ p, atC (joinK S61.f0 goesC overC (a.length + d.length) (a.map comeC) d) p = (bothO overC ((atF a p).map comeC) (atC d p)).filter (fun z => !goesC z) := fun p => by
  rw [← atK_map comeC (key := S55.f0) (key2 := S61.f0) (fun _ => rfl)]
  exact h.2 p
 have hin : ∀ z ∈ joinK S61.f0 goesC overC (a.length + d.length) (a.map comeC) d, z.f4.f0 = z.f0 := fun z hz => by
  have h1 := h.1.mem hz
  have h2 := (hat z.f0).symm.trans h1
  cases hx : atF a z.f0 with
  | none =>
   rw [hx] at h2
   cases hy : atC d z.f0 with
   | none => rw [hy] at h2; simp [bothO] at h2
   | some y =>
    rw [hy] at h2
    by_cases hg : y.f2 = true
    ·simp [bothO, Option.filter, goesC, hg] at h2
     subst h2
     exact hm _ (atK_some hy).2 hg
    ·simp [bothO, Option.filter, goesC, hg] at h2
  | some x =>
   rw [hx] at h2
   cases hy : atC d z.f0 with
   | none =>
    rw [hy] at h2
    simp only [Option.map_some, bothO, Option.filter, goesC, comeC] at h2
    obtain rfl := Option.some.inj h2
    rfl
   | some y =>
    rw [hy] at h2
    by_cases hg : y.f2 = true
    ·simp [bothO, Option.filter, goesC, overC, hg] at h2
     have e1 : z.f4 = y.f4 := by rw [← h2]
     rw [e1, hm y (atK_some hy).2 hg, (atK_some hy).1]
    ·simp [bothO, Option.filter, goesC, overC, hg] at h2
 refine ⟨h.1.mapM S61.f4 hin, fun p => ?_⟩
 refine (atK_mapM S61.f4 _ hin p).trans ?_
 refine (congrArg (Option.map S61.f4) (hat p)).trans ?_
 cases hx : atF a p with
 | none =>
  cases hy : atC d p with
  | none => rfl
  | some y =>
   by_cases hg : y.f2 = true <;> simp [bothO, Option.filter, goesC, hg]
 | some x =>
  cases hy : atC d p with
  | none => rfl
  | some y =>
   by_cases hg : y.f2 = true <;> simp [bothO, Option.filter, goesC, overC, hg]
end
end Go.Proofs.YtehfogjibhnabaaDoor.PAll
namespace Go.Proofs.YtehfogjibhnabaaDoor.PAll
open Go.RowKit Go.Proofs.YtehfogjibhnabaaDoorW.PrintWords Go.Proofs.YtehfogjibhnabaaDoorW.PrintLast Go.Proofs.YtehfogjibhnabaaDoorW.PrintMore
open Go.Proofs.YtehfogjibhnabaaDoor.Sp
section
variable {a b c : List S55} {d e : List S61}
theorem snap_holds {p : ByteArray} {x : S55} (h : snapV a = 0) (hx : atF a p = some x) : validB p = true ∧ bs p ≠ [] ∧ x.f0 = p := by
 obtain ⟨h1, h2⟩ := atK_some hx
 have h3 := List.all_eq_true.1 ((snap_zero a).1 h).1 x h2
 unfold placedB at h3
 simp only [Bool.and_eq_true, Bool.not_eq_true', beq_eq_false_iff_ne] at h3
 exact ⟨h1 ▸ h3.2, h1 ▸ h3.1, h1⟩
theorem diff_delta (ha : snapV a = 0) (hb : snapV b = 0) : DeltaP (diffD a b) := by
 obtain ⟨h1, h2⟩ := diff_spec (snap_rises ha) (snap_rises hb)
 refine ⟨fun c hc => ?_, h1⟩
 have h3 := (h2 c.f0).symm.trans (h1.mem hc)
 unfold partsO at h3
 cases hx : atF a c.f0 with
 | none =>
  cases hy : atF b c.f0 with
  | none => rw [hx, hy] at h3; cases h3
  | some y =>
   rw [hx, hy] at h3
   obtain ⟨q1, q2, q3⟩ := snap_holds hb hy
   have e := Option.some.inj h3
   generalize c.f0 = p at *
   subst e
   simp [mayB, halfB, q1, q2, q3, eqF_self]
 | some x =>
  obtain ⟨q1, q2, q3⟩ := snap_holds ha hx
  cases hy : atF b c.f0 with
  | none =>
   rw [hx, hy] at h3
   have e := Option.some.inj h3
   generalize c.f0 = p at *
   subst e
   simp [mayB, halfB, q1, q2, q3, eqF_self]
  | some y =>
   obtain ⟨_, _, q4⟩ := snap_holds hb hy
   rw [hx, hy] at h3
   dsimp only at h3
   split at h3
   ·cases h3
   ·rename_i hne
    have e := Option.some.inj h3
    generalize c.f0 = p at *
    subst e
    simp [mayB, halfB, q1, q2, q3, q4, hne]
theorem may_new (h : DeltaP d) : ∀ c ∈ d, c.f2 = true → c.f4.f0 = c.f0 := fun c hc h2 => by
 have := h.may c hc
 unfold mayB halfB at this
 simp only [Bool.and_eq_true, if_pos h2, beq_iff_eq, toList_bs] at this
 exact bs_inj this.1.2
theorem diff_join (ha : snapV a = 0) (hb : snapV b = 0) (hc : snapV c = 0) : joinK S61.f0 idleC outerC ((diffD a b).length + (diffD b c).length) (diffD a b) (diffD b c) = diffD a c := by
 obtain ⟨h1, h2⟩ := diff_spec (snap_rises ha) (snap_rises hb)
 obtain ⟨h3, h4⟩ := diff_spec (snap_rises hb) (snap_rises hc)
 obtain ⟨h5, h6⟩ := diff_spec (snap_rises ha) (snap_rises hc)
 obtain ⟨h7, h8⟩ := joinK_spec (key := S61.f0) (idle := idleC) (comb := outerC) (fun _ _ => rfl) _ (diffD a b) (diffD b c) (Nat.le_refl _) h1 h3
 refine risesK_ext _ _ h7 h5 fun p => ?_
 refine (h8 p).trans (Eq.trans ?_ (h6 p).symm)
 show (bothO outerC (atC (diffD a b) p) (atC (diffD b c) p)).filter _ = _
 rw [h2 p, h4 p]
 unfold partsO
 have i1 : ∀ (x y : S55), idleC ⟨p, true, true, x, y⟩ = eqF x y := fun _ _ => rfl
 have i2 : ∀ (x y : S55), idleC ⟨p, true, false, x, y⟩ = false := fun _ _ => rfl
 have i3 : ∀ (x y : S55), idleC ⟨p, false, true, x, y⟩ = false := fun _ _ => rfl
 have i4 : ∀ (x y : S55), idleC ⟨p, false, false, x, y⟩ = true := fun _ _ => rfl
 cases hx : atF a p with
 | none =>
  cases hy : atF b p with
  | none => cases hz : atF c p <;> simp [bothO, Option.filter, i3]
  | some y =>
   cases hz : atF c p with
   | none => simp [bothO, Option.filter, outerC, i4]
   | some z =>
    by_cases h : y = z
    ·subst h; simp [bothO, Option.filter, eqF_self, i3]
    ·simp [bothO, Option.filter, eqF_ne h, outerC, i3]
 | some x =>
  cases hy : atF b p with
  | none =>
   cases hz : atF c p with
   | none => simp [bothO, Option.filter, i2]
   | some z =>
    by_cases h : x = z
    ·subst h; simp [bothO, Option.filter, eqF_self, outerC, i1]
    ·simp [bothO, Option.filter, eqF_ne h, outerC, i1]
  | some y =>
   cases hz : atF c p with
   | none =>
    by_cases h : x = y
    ·subst h; simp [bothO, Option.filter, eqF_self, i2]
    ·simp [bothO, Option.filter, eqF_ne h, outerC, i2]
   | some z =>
    by_cases h : x = y
    ·subst h
     by_cases h' : x = z
     ·subst h'; simp [bothO, Option.filter, eqF_self]
     ·simp [bothO, Option.filter, eqF_self, eqF_ne h', i1]
    ·by_cases h' : y = z
     ·subst h'; simp [bothO, Option.filter, eqF_self, eqF_ne h, i1]
     ·by_cases h2 : x = z
      ·subst h2; simp [bothO, Option.filter, eqF_self, eqF_ne h, eqF_ne h', outerC, i1]
      ·simp [bothO, Option.filter, eqF_ne h, eqF_ne h', eqF_ne h2, outerC, i1]
theorem diff_clash (ha : snapV a = 0) (hb : snapV b = 0) (hc : snapV c = 0) : clashB (diffD a b) (diffD b c) = false := by
 obtain ⟨h1, h2⟩ := diff_spec (snap_rises ha) (snap_rises hb)
 obtain ⟨h3, h4⟩ := diff_spec (snap_rises hb) (snap_rises hc)
 unfold clashB
 rw [List.any_eq_false]
 intro x hx
 rw [Bool.not_eq_true, List.any_eq_false]
 intro y hy
 unfold clash1
 by_cases hp : x.f0 = y.f0
 ·have e1 := (h2 x.f0).symm.trans (h1.mem hx)
  have e2 := (h4 y.f0).symm.trans (h3.mem hy)
  rw [← hp] at e2
  generalize x.f0 = p at *
  unfold partsO at e1 e2
  cases hu : atF a p <;> cases hv : atF b p <;> cases hw : atF c p <;> rw [hu, hv] at e1 <;> rw [hv, hw] at e2 <;> dsimp only at e1 e2 <;> (try split at e1) <;> (try split at e2) <;>
   first
    | (cases e1; done)
    | (cases e2; done)
    | (obtain rfl := Option.some.inj e1; obtain rfl := Option.some.inj e2; simp [eqF_self])
 ·simp [hp]
theorem joinV_diff (ha : snapV a = 0) (hb : snapV b = 0) (hc : snapV c = 0) : joinV (diffD a b) (diffD b c) = (diffD a c, 0) := by
 unfold joinV
 rw [if_pos ⟨validD_iff.2 (diff_delta ha hb), validD_iff.2 (diff_delta hb hc)⟩, diff_clash ha hb hc, if_neg (by simp), diff_join ha hb hc]
theorem diff_nil (ha : snapV a = 0) (hb : snapV b = 0) : diffD a b = [] ↔ a = b := by
 obtain ⟨h1, h2⟩ := diff_spec (snap_rises ha) (snap_rises hb)
 constructor
 ·intro h
  refine risesK_ext _ _ (snap_rises ha) (snap_rises hb) fun p => ?_
  have := h2 p
  rw [h] at this
  unfold partsO at this
  show atF a p = atF b p
  cases hx : atF a p with
  | none =>
   cases hy : atF b p with
   | none => rfl
   | some y => rw [hx, hy] at this; cases this
  | some x =>
   cases hy : atF b p with
   | none => rw [hx, hy] at this; cases this
   | some y =>
    rw [hx, hy] at this
    dsimp only at this
    split at this
    ·rename_i h; rw [eqF_iff.1 h]
    ·cases this
 ·rintro rfl
  refine risesK_ext _ _ h1 List.Pairwise.nil fun p => ?_
  refine (h2 p).trans ?_
  unfold partsO
  cases atF a p with
  | none => rfl
  | some x => simp [eqF_self, atK_nil]
end
end Go.Proofs.YtehfogjibhnabaaDoor.PAll
namespace Go.Proofs.YtehfogjibhnabaaDoor.PAll
open Go.RowKit Go.Proofs.YtehfogjibhnabaaDoorW.PrintWords Go.Proofs.YtehfogjibhnabaaDoorW.PrintLast Go.Proofs.YtehfogjibhnabaaDoorW.PrintMore
open Go.Proofs.YtehfogjibhnabaaDoor.Sp
section
variable {α : Type} {key : α → ByteArray}
theorem atK_mem_ne {l : List α} (h : l.Pairwise fun x y => key x ≠ key y) {x : α} (hx : x ∈ l) : atK key l (key x) = some x := by
 induction l with
 | nil => cases hx
 | cons y l ih =>
  rw [atK_cons]
  obtain ⟨h1, h2⟩ := List.pairwise_cons.1 h
  rcases List.mem_cons.1 hx with rfl | hx
  ·rw [if_pos rfl]
  ·rw [if_neg (h1 x hx), ih h2 hx]
theorem atK_perm {l m : List α} (h : l.Pairwise fun x y => key x ≠ key y) (hp : m.Perm l) (p : ByteArray) : atK key m p = atK key l p := by
 have h2 : m.Pairwise fun x y => key x ≠ key y := hp.symm.pairwise h fun h => Ne.symm h
 cases e : atK key l p with
 | none =>
  rw [atK_none] at e ⊢
  exact fun x hx => e x (hp.mem_iff.1 hx)
 | some x =>
  obtain ⟨rfl, e2⟩ := atK_some e
  exact atK_mem_ne h2 (hp.mem_iff.2 e2)
theorem risesK_of_le {l : List α} (h : l.Pairwise fun x y => key x ≠ key y) (hs : l.Pairwise fun x y => ¬ cB (key y) (key x) < 0) : RisesK key l := by
 refine (h.and hs).imp ?_
 rintro x y ⟨h1, h2⟩
 have h3 := cB_neg (key x) (key y)
 rcases Int.lt_trichotomy (cB (key x) (key y)) 0 with c | c | c
 ·exact c
 ·exact absurd (cB_eq c) h1
 ·omega
end
def lay06 (l : List S55) (c : S61) : List S55 := l.filter (fun f => !(f.f0.toList == c.f0.toList)) ++ (if c.f2 = true then [c.f4] else [])
theorem lay06_key (x p : ByteArray) : (x.toList == p.toList) = decide (x = p) := by
 rw [Bool.eq_iff_iff, beq_iff_eq, decide_eq_true_iff]
 exact ⟨fun h => bs_inj (by rw [← toList_bs, ← toList_bs]; exact h), fun h => by rw [h]⟩
theorem atF_cons (x : S55) (l : List S55) (p : ByteArray) : atF (x :: l) p = if x.f0 = p then some x else atF l p := atK_cons x l p
theorem atF_nil (p : ByteArray) : atF [] p = none := rfl
theorem atF_append (m n : List S55) (p : ByteArray) : atF (m ++ n) p = (atF m p).or (atF n p) := List.find?_append
theorem lay06_ne {l : List S55} {c : S61} (h : l.Pairwise fun x y => x.f0 ≠ y.f0) (hm : c.f2 = true → c.f4.f0 = c.f0) : (lay06 l c).Pairwise fun x y => x.f0 ≠ y.f0 := by
 unfold lay06
 rw [List.pairwise_append]
 refine ⟨h.filter _, ?_, ?_⟩
 ·split <;> simp
 ·intro x hx y hy
  split at hy
  ·rename_i hc
   rw [List.mem_singleton] at hy
   subst hy
   rw [hm hc]
   have := (List.mem_filter.1 hx).2
   rw [lay06_key] at this
   simpa using this
  ·cases hy
theorem lay06_find (l : List S55) (c : S61) (hm : c.f2 = true → c.f4.f0 = c.f0) (p : ByteArray) : atF (lay06 l c) p = if c.f0 = p then (if c.f2 = true then some c.f4 else none) else atF l p := by
 have h1 : atF (l.filter fun f => !(f.f0.toList == c.f0.toList)) p = if c.f0 = p then none else atF l p := by
  induction l with
  | nil => simp [atF_nil]
  | cons x l ih =>
   rw [List.filter_cons, lay06_key]
   by_cases hx : x.f0 = c.f0
   ·simp only [hx, decide_true, Bool.not_true, Bool.false_eq_true, if_false]
    rw [ih, atF_cons, hx]
    by_cases hp : c.f0 = p <;> simp [hp]
   ·simp only [hx, decide_false, Bool.not_false, if_true]
    rw [atF_cons, ih, atF_cons]
    by_cases hp : c.f0 = p
    ·rw [if_pos hp, if_pos hp, if_neg (fun e => hx (e.trans hp.symm))]
    ·rw [if_neg hp, if_neg hp]
 unfold lay06
 rw [atF_append, h1]
 by_cases hp : c.f0 = p
 ·rw [if_pos hp, if_pos hp]
  by_cases hc : c.f2 = true
  ·rw [if_pos hc, if_pos hc, atF_cons, if_pos ((hm hc).trans hp)]; rfl
  ·rw [if_neg hc, if_neg hc]; rfl
 ·rw [if_neg hp, if_neg hp]
  by_cases hc : c.f2 = true
  ·rw [if_pos hc, atF_cons, if_neg (fun e => hp ((hm hc).symm.trans e)), atF_nil]; simp
  ·rw [if_neg hc, atF_nil]; simp
theorem lays06 (d : List S61) : ∀ l : List S55, (l.Pairwise fun x y => x.f0 ≠ y.f0) → RisesK S61.f0 d → (∀ c ∈ d, c.f2 = true → c.f4.f0 = c.f0) →
  ((d.foldl lay06 l).Pairwise fun x y => x.f0 ≠ y.f0) ∧ ∀ p, atF (d.foldl lay06 l) p = match atC d p with | none => atF l p | some c => if c.f2 = true then some c.f4 else none := by
 induction d with
 | nil => exact fun l h _ _ => ⟨h, fun p => rfl⟩
 | cons c d ih =>
  intro l h hd hm
  obtain ⟨i1, i2⟩ := ih (lay06 l c) (lay06_ne h (hm c (List.mem_cons_self ..))) hd.tail (fun z hz => hm z (List.mem_cons_of_mem _ hz))
  refine ⟨i1, fun p => (i2 p).trans ?_⟩
  rw [lay06_find l c (hm c (List.mem_cons_self ..)) p]
  show _ = match atK S61.f0 (c :: d) p with | none => atF l p | some c => if c.f2 = true then some c.f4 else none
  rw [atK_cons]
  by_cases hp : c.f0 = p
  ·rw [if_pos hp, show atC d p = none from atK_none.2 fun z hz => fun e => cB_ne (hd.head z hz) (hp.trans e.symm), if_pos hp]
  ·rw [if_neg hp, if_neg hp]
theorem turned06 {a : List S55} {d : List S61} (ha : RisesK S55.f0 a) (hd : RisesK S61.f0 d) (hm : ∀ c ∈ d, c.f2 = true → c.f4.f0 = c.f0) {s : List S55} (hp : s.Perm (d.foldl lay06 a)) (hs : s.Pairwise fun x y => ¬ cB y.f0 x.f0 < 0) : s = applyL a d := by
 obtain ⟨h1, h2⟩ := apply_spec ha hd hm
 obtain ⟨h3, h4⟩ := lays06 d a (ha.imp fun h => cB_ne h) hd hm
 refine risesK_ext _ _ (risesK_of_le (hp.symm.pairwise h3 fun h => Ne.symm h) hs) h1 fun p => ?_
 rw [atK_perm h3 hp p]
 exact (h4 p).trans (h2 p).symm
end Go.Proofs.YtehfogjibhnabaaDoor.PAll
namespace Go.Proofs.YtehfogjibhnabaaDoor.PAll
open Go.RowKit Go.Proofs.YtehfogjibhnabaaDoorW.PrintWords Go.Proofs.YtehfogjibhnabaaDoorW.PrintLast Go.Proofs.YtehfogjibhnabaaDoorW.PrintMore
open Go.Proofs.YtehfogjibhnabaaDoor.Sp
theorem lit_R55 (w : World) : Kd.R k55 55 (w.alloc (.cells #[] 55)) w.heap.size (fun _ => True) (.slice (some ⟨w.heap.size, 0, none⟩) 0 0) [] := by
 refine ⟨fun _ _ => trivial, [], World.ownsRow_made (size := _) w #[] 0 (Nat.le_refl _) (by decide) (by simp), ⟨rfl, fun j x h => by simp at h⟩⟩
set_option maxHeartbeats 4000000 in
set_option maxRecDepth 100000 in
theorem clone55_calls (A0 : Option Addr) (c0 : Nat) (l : List S55) (w : World) (hr0 : Kd.C k55 w A0 l.length l) (hl : l.length ≤ 4194304) :
  Calls Tryd.prog 53 #[.slice A0 l.length c0] w fun e w' => ∃ v : Value, e = .returned v ∧ Kd.R k55 55 w' w.heap.size (fun _ => True) v l ∧ Below w.heap.size w w' := by
 have HR0 := Aside0.mk hr0
 clear hr0
 rcases A0 with _ | ad
 ·have h0 : l = [] := by
   rcases Nat.eq_zero_or_pos l.length with h | h
   ·exact List.eq_nil_of_length_eq_zero h
   ·obtain ⟨ad, e, _⟩ := HR0.out.2.2 h
    cases e
  subst h0
  clear HR0
  have hk := fun W => Lib.run_eql_slice_nil (P := Tryd.prog) W 40 55 none 0 c0 0 0 Tryd.underlying40
  go_enter Tryd.func53, Tryd.ntmps53
  go_wp2
  go_ret
  exact ⟨_, rfl, Kd.R_nil _ _ _ _ _, Below.refl _ _⟩
 ·have hk := fun W => Lib.run_eql_slice_nil (P := Tryd.prog) W 40 55 (some ad) l.length c0 0 0 Tryd.underlying40
  go_enter Tryd.func53, Tryd.ntmps53
  go_wp2_with (first
   | ((with_reducible refine gate_builtin (b := .append) (xs := #[.tmp 5, .tmp 6]) rfl ?_); at_builtin; refine Kd.R_append_rows k55 (w0 := w) w.heap.size rfl (.tmp 5) (.tmp 6) 40 55 (.agg #[(.string ⟨#[]⟩), (.string ⟨#[]⟩), (.int .i64 0), (.int .i64 0)]) 48 rfl Tryd.underlying40 info55 rfl (by decide) (by omega) (.slice (some ⟨w.heap.size, 0, none⟩) 0 0) ([] : List S55) l (some ad) l.length c0 (fun _ => True) (fun _ => False) rfl rfl (lit_R55 w) (Kd.C_alloc HR0.out _) (fun _ _ h => h) (fun _ h => h.elim) (fun _ _ => trivial) (below_alloc (Below.refl _ _) _) (by simp) (by simp; omega) ?_; intro v2 w2 ho hb h4 h5; clear h4 h5; rw [List.nil_append] at ho; obtain ⟨A2, c2, rfl, l2, r2⟩ := Kd.R_reads ho; have O2 := Aside0.mk ho; have B2 := Aside0.mk hb; clear ho hb l2 r2)
   | fail)
  go_ret
  exact ⟨_, rfl, O2.out, B2.out⟩
end Go.Proofs.YtehfogjibhnabaaDoor.PAll
namespace Go.Proofs.YtehfogjibhnabaaDoor.PAll
open Go.RowKit Go.Proofs.YtehfogjibhnabaaDoorW.PrintWords Go.Proofs.YtehfogjibhnabaaDoorW.PrintLast Go.Proofs.YtehfogjibhnabaaDoorW.PrintMore
open Go.Proofs.YtehfogjibhnabaaDoor.Sp
set_option maxHeartbeats 4000000 in
set_option maxRecDepth 100000 in
theorem pred56_calls (x : S55) (p : ByteArray) (cb : Nat) (W : World) (hc : W.cell? ⟨cb, 0, none⟩ = some (.string p)) :
  Calls Tryd.prog 56 #[.agg #[.string x.f0, .string x.f1, .int .i64 x.f2, .int .i64 x.f3], .pointer (some ⟨cb, 0, none⟩)] W fun e W' => e = .returned (.bool (x.f0.toList == p.toList)) ∧ Below W.heap.size W W' := by
 have hc2 : ∀ o, (W.alloc o).cell? ⟨cb, 0, none⟩ = some (.string p) := fun o => Lib.cell?_alloc_some o hc
 clear hc
 go_enter Tryd.func56, Tryd.ntmps56
 go_wp2
 go_ret
 exact ⟨rfl, below_alloc (Below.refl _ _) _⟩
def atP (p : ByteArray) (x : S55) : Bool := x.f0.toList == p.toList
set_option maxHeartbeats 4000000 in
set_option maxRecDepth 100000 in
theorem index83_calls (l : List S55) (p : ByteArray) (cb g c : Nat) (w : World) (hr : Kd.C k55 w (some ⟨g, 0, none⟩) l.length l) (hl : l.length ≤ 9000000) (hc : w.cell? ⟨cb, 0, none⟩ = some (.string p)) :
  Calls Tryd.prog 83 #[.slice (some ⟨g, 0, none⟩) l.length c, .func (.func 56) #[] #[.pointer (some ⟨cb, 0, none⟩)]] w fun e w' => (∃ r : Int, e = .returned (.int .i64 r) ∧ ((r = -1 ∧ ∀ x ∈ l, atP p x = false) ∨ ∃ k : Nat, r = k ∧ k < l.length ∧ atP p (rd_T55 l k) = true ∧ ∀ x ∈ l.take k, atP p x = false)) ∧ Below w.heap.size w w' := by
 have HR := Aside0.mk hr
 have HC := Aside0.mk hc
 clear hr hc
 go_enter Tryd.func83, Tryd.ntmps83
 go_wp2
 go_loopg [5, 8] l.length (fun gg s5 s8 wr => ∃ i : Nat, i ≤ l.length ∧ l.length - i ≤ gg ∧ s8 = .int .i64 i ∧ Aside0 (Below w.heap.size w wr) ∧ Aside0 (∀ x ∈ l.take i, atP p x = false))
 case atStart => exact ⟨0, by omega, by omega, by first | rfl | go_num, ⟨Below.refl _ _⟩, ⟨by simp⟩⟩
 case round =>
  obtain ⟨i, hi, hg, rfl, B1, F1⟩ := hrel
  by_cases hlt : i < l.length
  ·have hltz : (i : Int) < (l.length : Int) := by omega
   have C1 := Kd.C_below HR.out B1.out
   have hcb := B1.out.cell (p := ⟨cb, 0, none⟩) (World.block_lt_of_cell? w _ HC.out) |>.trans HC.out
   obtain ⟨ad, e1, h0, h1, h2, h3⟩ := at_T55 C1 (i : Int) (by omega) hltz
   injection e1 with e1
   subst e1
   obtain ⟨x, hx⟩ : ∃ x, rd_T55 l (i : Int) = x := ⟨_, rfl⟩
   rw [hx] at h0 h1 h2 h3
   simp only [add_plain, Int.toNat_natCast] at h0 h1 h2 h3
   have X := Aside0.mk hx
   clear hx C1
   have hcall := pred56_calls x p cb wr hcb
   clear hcb
   cases hq : (x.f0.toList == p.toList) with
   | true =>
    rw [hq] at hcall
    go_wp2_with fail
    refine hcall.mono ?_
    rintro e w1 ⟨rfl, hb⟩
    go_wp2
    go_ret
    exact ⟨⟨i, rfl, .inr ⟨i, rfl, hlt, by rw [X.out]; exact hq, F1.out⟩⟩, below_then B1.out B1.out.size hb⟩
   | false =>
    rw [hq] at hcall
    go_wp2_with fail
    refine hcall.mono ?_
    rintro e w1 ⟨rfl, hb⟩
    go_wp2
    go_roundg (l.length - (i + 1))
    case measure => omega
    case rel =>
     refine ⟨i + 1, by omega, by omega, by go_num, ⟨below_then B1.out B1.out.size hb⟩, ⟨fun y hy => ?_⟩⟩
     rw [List.take_succ_eq_append_getElem hlt, List.mem_append, List.mem_singleton] at hy
     rcases hy with hy | rfl
     ·exact F1.out y hy
     ·have := X.out
      unfold rd_T55 at this
      rw [Int.toNat_natCast, List.getD_eq_getElem?_getD, List.getElem?_eq_getElem hlt] at this
      obtain rfl : l[i] = x := this
      exact hq
  ·have hltz : ¬ (i : Int) < (l.length : Int) := by omega
   obtain rfl : i = l.length := by omega
   go_wp2
   go_ret
   exact ⟨⟨-1, rfl, .inl ⟨rfl, by have := F1.out; rwa [List.take_length] at this⟩⟩, B1.out⟩
set_option maxHeartbeats 4000000 in
set_option maxRecDepth 100000 in
theorem index83_none (cb : Nat) (w : World) :
  Calls Tryd.prog 83 #[.slice none 0 0, .func (.func 56) #[] #[.pointer (some ⟨cb, 0, none⟩)]] w fun e w' => e = .returned (.int .i64 (-1)) ∧ w' = w := by
 go_enter Tryd.func83, Tryd.ntmps83
 go_wp2
 go_loopg [5, 8] 0 (fun _ _ s8 wr => s8 = .int .i64 0 ∧ wr = w)
 case atStart => exact ⟨rfl, rfl⟩
 case round =>
  obtain ⟨rfl, rfl⟩ := hrel
  go_wp2
  go_ret
  exact ⟨rfl, rfl⟩
theorem grown_of_below {W W1 : World} (hb : Below W.heap.size W W1) (row : Option Nat) : W.grownBy W1 row := ⟨hb.os, hb.tape, hb.output, hb.size, fun k hk _ => hb.block k hk⟩
theorem rowF_append (l m : List S55) : rowF (l ++ m) = rowF l ++ rowF m := List.flatMap_append
set_option maxHeartbeats 4000000 in
set_option maxRecDepth 100000 in
theorem delete55_some (l : List S55) (p : ByteArray) (cb base g c : Nat) (c0 : Array Value) (w : World) (hr : Kd.R k55 55 w base (fun _ => True) (.slice (some ⟨g, 0, none⟩) l.length c) l) (hlc : l.length ≤ c) (hl : l.length ≤ 9000000) (hb : w.heap[cb]? = some (.cells c0 61 (0, 0))) (hc : w.cell? ⟨cb, 0, none⟩ = some (.string p)) :
  Calls Tryd.prog 55 #[.slice (some ⟨g, 0, none⟩) l.length c, .func (.func 56) #[] #[.pointer (some ⟨cb, 0, none⟩)]] w fun e w' => ∃ v' : Value, e = .returned v' ∧ Kd.R k55 55 w' base (fun _ => True) v' (l.filter fun x => !atP p x) ∧ w.grownBy w' (some g) ∧ v'.ownBlock = some g := by
 have hne : some cb ≠ some g := Kd.R_ne hr hb (by decide)
 have HR := Aside0.mk hr
 have HB := Aside0.mk hb
 have HC := Aside0.mk hc
 have HN := Aside0.mk hne
 have HBG : Aside0 (base ≤ g) := ⟨own_base (R_files_own hr) g rfl⟩
 clear hr hb hc hne
 go_enter Tryd.func55, Tryd.ntmps55
 go_wp2_with fail
 refine (index83_calls l p cb g c w (Kd.R_reads' HR.out).2.2 hl HC.out).mono ?_
 rintro e w1 ⟨⟨r, rfl, hr⟩, hb1⟩
 have HR1 := Aside0.mk (Kd.R_below HR.out hb1)
 have HG1 := Aside0.mk (grown_of_below hb1 (some g))
 clear hb1
 rcases hr with ⟨rfl, hall⟩ | ⟨k, rfl, hk, ht, hall⟩
 ·go_wp2
  go_ret
  refine ⟨_, rfl, ?_, HG1.out, rfl⟩
  rw [List.filter_eq_self.2 (fun x hx => by rw [hall x hx]; rfl)]
  exact HR1.out
 ·have hk1 : ((k : Int) == -1) = false := by rw [beq_eq_false_iff_ne]; omega
  have HT := Aside0.mk ht
  have HA := Aside0.mk hall
  clear ht hall
  go_wp2
  go_loopg [5, 6, 7] l.length (fun gg s5 s6 _ wr => ∃ (i j : Nat) (F M : List S55), s5 = .int .i64 i ∧ s6 = .int .i64 j ∧ j ≤ l.length ∧ l.length - j ≤ gg ∧ i < j ∧ F.length = i ∧ M.length = j - i ∧ Aside0 (F = (l.take j).filter fun x => !atP p x) ∧ Aside0 (Kd.R k55 55 wr base (fun _ => True) (.slice (some ⟨g, 0, none⟩) l.length c) (F ++ M ++ l.drop j)) ∧ Aside0 (w.grownBy wr (some g)))
  case atStart =>
   refine ⟨k, k + 1, l.take k, [l[k]], rfl, by go_num, by omega, by omega, by omega, by rw [List.length_take]; omega, by simp, ⟨?_⟩, ⟨?_⟩, HG1⟩
   ·rw [List.take_succ_eq_append_getElem hk, List.filter_append, List.filter_eq_self.2 (fun x hx => by rw [HA.out x hx]; rfl)]
    have h := HT.out
    unfold rd_T55 at h
    rw [Int.toNat_natCast, List.getD_eq_getElem?_getD, List.getElem?_eq_getElem hk] at h
    replace h : atP p l[k] = true := h
    simp [h]
   ·rw [← List.take_succ_eq_append_getElem hk, List.take_append_drop]
    exact HR1.out
  case round =>
   clear HT HA HR HR1 HG1
   obtain ⟨i, j, F, M, rfl, rfl, hj, hg, hij, hF, hM, FF, O1, G1⟩ := hrel
   obtain ⟨dk, hdk⟩ : ∃ dk, dk = F ++ M ++ l.drop j := ⟨_, rfl⟩
   rw [← hdk] at O1
   have hdl : dk.length = l.length := by rw [hdk, List.length_append, List.length_append, List.length_drop]; omega
   have C1 := (Kd.R_reads' O1.out).2.2
   have hcb : wr.cell? ⟨cb, 0, none⟩ = some (.string p) := G1.out.cell HC.out HN.out
   by_cases hlt : j < l.length
   ·have hltz : (j : Int) < (l.length : Int) := by omega
    obtain ⟨ad, e1, h0, h1, h2, h3⟩ := at_T55 C1 (j : Int) (by omega) (by rw [hdl]; exact hltz)
    injection e1 with e1
    subst e1
    have hx : rd_T55 dk (j : Int) = l[j] := by
     unfold rd_T55
     rw [Int.toNat_natCast, List.getD_eq_getElem?_getD, hdk, List.getElem?_append_right (by rw [List.length_append]; omega), List.length_append, List.getElem?_drop, show j + (j - (F.length + M.length)) = j by omega, List.getElem?_eq_getElem hlt]
     rfl
    obtain ⟨x, hxx⟩ : ∃ x, x = l[j] := ⟨_, rfl⟩
    rw [hx, ← hxx] at h0 h1 h2 h3
    simp only [add_plain, Int.toNat_natCast] at h0 h1 h2 h3
    have X := Aside0.mk hxx
    have DK := Aside0.mk hdk
    have DL := Aside0.mk hdl
    have C1' := Aside0.mk C1
    have hcall := fun o => pred56_calls x p cb (wr.alloc o) (Lib.cell?_alloc_some o hcb)
    clear hx hxx C1 hdk hcb
    cases hq : (x.f0.toList == p.toList) with
    | true =>
     rw [hq] at hcall
     go_wp2_with fail
     refine (hcall _).mono ?_
     rintro e w2 ⟨rfl, hb⟩
     go_wp2
     go_roundg (l.length - (j + 1))
     case measure => omega
     case rel =>
      refine ⟨i, j + 1, F, M ++ [x], rfl, by go_num, by omega, by omega, by omega, hF, by rw [List.length_append, hM]; simp; omega, ⟨?_⟩, ⟨?_⟩, ⟨(G1.out.trans (World.grownBy_alloc wr _ _)).trans (grown_of_below hb (some g))⟩⟩
      ·rw [List.take_succ_eq_append_getElem hlt, List.filter_append, ← FF.out, ← X.out, List.filter_cons, if_neg (by show ¬ (!(x.f0.toList == p.toList)) = true; rw [hq]; decide)]
       simp
      ·have h := Kd.R_below (Kd.R_alloc O1.out _) hb
       rw [DK.out, List.drop_eq_getElem_cons hlt, ← X.out] at h
       simpa using h
    | false =>
     rw [hq] at hcall
     go_wp2_with fail
     refine (hcall _).mono ?_
     rintro e w2 ⟨rfl, hb⟩
     have q0 : w2.cell? ⟨wr.heap.size, 0, none⟩ = some (.string x.f0) := (hb.cell (p := ⟨wr.heap.size, 0, none⟩) (by simp)).trans (cell_new wr _ _ 0)
     have q1 : w2.cell? ⟨wr.heap.size, 1, none⟩ = some (.string x.f1) := (hb.cell (p := ⟨wr.heap.size, 1, none⟩) (by simp)).trans (cell_new wr _ _ 1)
     have q2 : w2.cell? ⟨wr.heap.size, 2, none⟩ = some (.int .i64 x.f2) := (hb.cell (p := ⟨wr.heap.size, 2, none⟩) (by simp)).trans (cell_new wr _ _ 2)
     have q3 : w2.cell? ⟨wr.heap.size, 3, none⟩ = some (.int .i64 x.f3) := (hb.cell (p := ⟨wr.heap.size, 3, none⟩) (by simp)).trans (cell_new wr _ _ 3)
     have O2 := Aside0.mk (Kd.R_below (Kd.R_alloc O1.out _) hb)
     have G2 := Aside0.mk ((G1.out.trans (World.grownBy_alloc wr _ _)).trans (grown_of_below hb (some g)))
     have C2 := (Kd.R_reads' O2.out).2.2
     have hiz : (i : Int) < (l.length : Int) := by omega
     obtain ⟨ad, cc, e1, hcl, hK, hcc⟩ := Kd.C_get C2 z55 (i : Int) (by omega) (by rw [DL.out]; exact hiz)
     injection e1 with e1
     subst e1
     have HCC := Aside0.mk hcc
     have HCL := Aside0.mk hcl
     clear hK hcc hcl C2 hcall hb
     go_wp2_with (first
      | ((with_reducible refine gate_store (t := 55) (p := 33) (v := .tmp 32) rfl ?_); refine Kd.R_store k55 (w0 := w2) base rfl rfl 55 (.tmp 33) (.tmp 32) rfl 55 (i : Int) 0 dk x _ [.string x.f0, .string x.f1, .int .i64 x.f2, .int .i64 x.f3] cc (fun _ => True) (fun _ => False) rfl (by rw [Int.toNat_natCast]; rfl) rfl rfl (by kernel_rfl) (by simp [Value.oneCell']) O2.out (by omega) hiz HCL.out (fun j u hu => by have := HCC.out j u hu; rwa [add_plain] at this) (Nat.le_refl 4) (by rw [List.take_zero, List.nil_append, List.drop_eq_nil_of_le (by rw [HCL.out]; exact Nat.le_refl 4), List.append_nil]; exact k55_mkM _ _ _ x) (fun _ h => h.elim) (Below.refl _ _) ?_; intro w3 ho hb hgr; rw [Int.toNat_natCast] at ho; have O3 := Aside0.mk ho; have G3 := Aside0.mk (G2.out.trans hgr); clear ho hb hgr)
      | fail)
     go_roundg (l.length - (j + 1))
     case measure => omega
     case rel =>
      obtain ⟨m, M', rfl⟩ : ∃ m M', M = m :: M' := by
       cases M with
       | nil => simp at hM; omega
       | cons m M' => exact ⟨m, M', rfl⟩
      refine ⟨i + 1, j + 1, F ++ [x], M' ++ [x], by go_num, by go_num, by omega, by omega, by omega, by rw [List.length_append, hF]; rfl, by simp at hM ⊢; omega, ⟨?_⟩, ⟨?_⟩, G3⟩
      ·rw [List.take_succ_eq_append_getElem hlt, List.filter_append, ← FF.out, ← X.out]
       congr 1
       rw [List.filter_cons, if_pos (by show (!(x.f0.toList == p.toList)) = true; rw [hq]; rfl)]
       rfl
      ·have h := O3.out
       rw [DK.out, List.append_assoc, List.set_append_right _ _ (by omega), hF, Nat.sub_self, List.cons_append, List.set_cons_zero, List.drop_eq_getElem_cons hlt, ← X.out] at h
       simpa using h
   ·have hltz : ¬ (j : Int) < (l.length : Int) := by omega
    have hjl : j = l.length := by omega
    subst hjl
    rw [List.drop_length, List.append_nil] at hdk
    have hown := R_files_own O1.out
    rw [hdl] at hown
    obtain ⟨w2, hr2, ho2, hg2⟩ := own_clear (P := Tryd.prog) (t := 40) (ty := 0) (i := i) (size := 4) (.agg #[.string ⟨#[]⟩, .string ⟨#[]⟩, .int .i64 0, .int .i64 0]) Tryd.underlying40 (fun w => by kernel_rfl) rfl (by simp [Value.cells, Value.oneCell']) hown (by omega) (c - i)
    have hcl2 : ∀ ty, (Builtin.clear_ #[40] ty #[.slice (some ⟨g, i * 4, none⟩) (l.length - i) (c - i)]).run Tryd.prog wr = .ok (.tuple #[]) w2 := fun _ => hr2
    have hiz : (i : Int) ≤ (l.length : Int) := by omega
    have hlcz : (l.length : Int) ≤ (c : Int) := by omega
    have hicz : (i : Int) ≤ (c : Int) := by omega
    have FIN : Aside0 (Kd.R k55 55 w2 base (fun _ => True) (.slice (some ⟨g, 0, none⟩) i c) (l.filter fun x => !atP p x)) := ⟨by
     have h := FF.out
     rw [List.take_length] at h
     rw [← h]
     refine own_R_files ?_
     rw [hF]
     rw [hdk, rowF_append, List.take_left' (by rw [rowF_length, hF])] at ho2
     exact ho2⟩
    have G2 := Aside0.mk (G1.out.trans hg2)
    clear hr2 ho2 hg2 hown hdk
    go_wp2
    go_ret
    exact ⟨_, rfl, FIN.out, G2.out, rfl⟩
theorem delete55_calls (l : List S55) (p : ByteArray) (cb base : Nat) (v : Value) (c0 : Array Value) (w : World) (hr : Kd.R k55 55 w base (fun _ => True) v l) (hl : l.length ≤ 9000000) (hb : w.heap[cb]? = some (.cells c0 61 (0, 0))) (hc : w.cell? ⟨cb, 0, none⟩ = some (.string p)) :
  Calls Tryd.prog 55 #[v, .func (.func 56) #[] #[.pointer (some ⟨cb, 0, none⟩)]] w fun e w' => ∃ v' : Value, e = .returned v' ∧ Kd.R k55 55 w' base (fun _ => True) v' (l.filter fun x => !atP p x) ∧ w.grownBy w' v.ownBlock ∧ v'.ownBlock = v.ownBlock := by
 rcases (R_files_own hr).2 with ⟨rfl, h0⟩ | ⟨g, c, cur, rfl, h1, h2, h3, _⟩
 ·obtain rfl : l = [] := List.eq_nil_of_length_eq_zero h0
  clear hb hc
  go_enter Tryd.func55, Tryd.ntmps55
  go_wp2_with fail
  refine (index83_none cb w).mono ?_
  rintro e w1 ⟨rfl, rfl⟩
  go_wp2
  go_ret
  exact ⟨_, rfl, Kd.R_nil _ _ _ _ _, grown_of_below (Below.refl _ _) _, rfl⟩
 ·exact delete55_some l p cb base g c c0 w hr h3 hl hb hc
set_option maxHeartbeats 4000000 in
set_option maxRecDepth 100000 in
theorem lay54_calls (l : List S55) (c : S61) (ob cb base : Nat) (v : Value) (w : World) (hr : Kd.R k55 55 w base (fun _ => True) v l) (hl : l.length ≤ 8000000) (hbase : base ≤ ob) (ho : w.heap[ob]? = some (.cells #[v] 40 (0, 0))) (hb : w.heap[cb]? = some (.cells (cellsC c) 61 (0, 0))) :
  Calls Tryd.prog 54 #[.pointer (some ⟨ob, 0, none⟩), .pointer (some ⟨cb, 0, none⟩)] w fun e w' => ∃ v' : Value, e = .returned (.tuple #[]) ∧ Kd.R k55 55 w' base (fun _ => True) v' (lay06 l c) ∧ w'.heap[ob]? = some (.cells #[v'] 40 (0, 0)) ∧ Below base w w' ∧ ∀ k, k < w.heap.size → k ≠ ob → some k ≠ v.ownBlock → w'.heap[k]? = w.heap[k]? := by
 have HR := Aside0.mk hr
 have HO := Aside0.mk ho
 have HB := Aside0.mk hb
 have o0 : w.cell? ⟨ob, 0, none⟩ = some v := by simp [World.cell?, ho]
 have c0 : w.cell? ⟨cb, 0, none⟩ = some (.string c.f0) := by simp [World.cell?, hb, cellsC]
 clear hr ho hb
 go_enter Tryd.func54, Tryd.ntmps54
 go_wp2_with fail
 refine (delete55_calls l c.f0 cb base v _ w HR.out (by omega) HB.out c0).mono ?_
 rintro e w1 ⟨v1, rfl, hr1, hg1, hv1⟩
 obtain ⟨A1, n1, rfl, hn1, -⟩ := Kd.R_reads hr1
 obtain ⟨l1, hl1⟩ : ∃ l1, l1 = l.filter fun x => !atP c.f0 x := ⟨_, rfl⟩
 rw [← hl1] at hr1 hn1 hv1
 have hl1l : l1.length ≤ l.length := by rw [hl1]; exact List.length_filter_le _ _
 rw [← hl1]
 have ne1 : some ob ≠ v.ownBlock := Kd.R_ne HR.out HO.out (by decide)
 have ne2 : some cb ≠ v.ownBlock := Kd.R_ne HR.out HB.out (by decide)
 have ne3 : cb ≠ ob := by
  rintro rfl
  have := HB.out.symm.trans HO.out
  injection this with this
  injection this with _ this
  revert this
  decide
 have ob1 : w1.heap[ob]? = some (.cells #[v] 40 (0, 0)) := (hg1.block ob (Array.getElem?_eq_some_iff.1 HO.out).1 ne1).trans HO.out
 have cb1 : w1.heap[cb]? = some (.cells (cellsC c) 61 (0, 0)) := (hg1.block cb (Array.getElem?_eq_some_iff.1 HB.out).1 ne2).trans HB.out
 have BW1 : Below base w w1 := ⟨hg1.os, hg1.tape, hg1.output, hg1.size, fun k hk => by
  by_cases hkw : k < w.heap.size
  ·refine hg1.block k hkw fun e => ?_
   have := own_base (R_files_own HR.out) k e.symm
   omega
  ·have := (Array.getElem?_eq_some_iff.1 HO.out).1
   omega⟩
 have k1 : w1.cell? ⟨ob, 0, none⟩ = some v := by simp [World.cell?, ob1]
 have f1 : w1.frozen? ⟨ob, 0, none⟩ = false := by simp [World.frozen?, ob1]
 obtain ⟨w2, hw2⟩ : ∃ w2, w2 = w1.setCell ⟨ob, 0, none⟩ (.slice A1 l1.length n1) := ⟨_, rfl⟩
 have R2 : Aside0 (Kd.R k55 55 w2 base (fun _ => True) (.slice A1 l1.length n1) l1) := ⟨by rw [hw2]; exact Kd.R_set hr1 ob1 (by decide) 0 _⟩
 have O2 : Aside0 (w2.heap[ob]? = some (.cells #[.slice A1 l1.length n1] 40 (0, 0))) := ⟨by rw [hw2]; exact Boxed.set _ ob1⟩
 have B2 : Aside0 (w2.heap[cb]? = some (.cells (cellsC c) 61 (0, 0))) := ⟨by rw [hw2]; exact (Below.heap_setCell _ _ _ cb ne3).trans cb1⟩
 have BW2 : Aside0 (Below base w w2) := ⟨by rw [hw2]; exact BW1.setCell (p := ⟨ob, 0, none⟩) hbase _⟩
 have F2 : Aside0 (∀ k, k < w.heap.size → k ≠ ob → some k ≠ v.ownBlock → w2.heap[k]? = w.heap[k]?) := ⟨fun k hk h1 h2 => by rw [hw2]; exact (Below.heap_setCell _ _ _ k h1).trans (hg1.block k hk h2)⟩
 have S2 : Aside0 (w.heap.size ≤ w2.heap.size) := ⟨BW2.out.size⟩
 have L1 := Aside0.mk hl1
 have LL := Aside0.mk hl1l
 have V1 := Aside0.mk hv1
 clear hr1 hn1 hl1 hl1l ne1 ne2 ne3 ob1 cb1 BW1 HR HO HB hg1 o0 c0 hv1
 have d0 : w2.cell? ⟨ob, 0, none⟩ = some (.slice A1 l1.length n1) := by simp [World.cell?, O2.out]
 have d2 : w2.cell? ⟨cb, 2, none⟩ = some (.bool c.f2) := by simp [World.cell?, B2.out, cellsC]
 have d7 : w2.cell? ⟨cb, 7, none⟩ = some (.string c.f4.f0) := by simp [World.cell?, B2.out, cellsC]
 have d8 : w2.cell? ⟨cb, 8, none⟩ = some (.string c.f4.f1) := by simp [World.cell?, B2.out, cellsC]
 have d9 : w2.cell? ⟨cb, 9, none⟩ = some (.int .i64 c.f4.f2) := by simp [World.cell?, B2.out, cellsC]
 have d10 : w2.cell? ⟨cb, 10, none⟩ = some (.int .i64 c.f4.f3) := by simp [World.cell?, B2.out, cellsC]
 have HF : Aside0 (∃ b, b = c.f2) := ⟨_, rfl⟩
 subst hw2
 cases hf : c.f2 with
 | false =>
  rw [hf] at d2
  go_wp2
  go_end0
  refine ⟨_, rfl, ?_, O2.out, BW2.out, F2.out⟩
  unfold lay06
  rw [hf]
  have h := R2.out
  rw [L1.out] at h
  simpa [atP, L1.out] using h
 | true =>
  rw [hf] at d2
  go_wp2_with (first
   | ((with_reducible refine gate_builtin (b := .append) (xs := #[.tmp 7, .tmp 10]) rfl ?_); at_builtin; refine Kd.R_append k55 (w0 := w) base rfl (.tmp 7) (.tmp 10) 40 55 (.agg #[(.string ⟨#[]⟩), (.string ⟨#[]⟩), (.int .i64 0), (.int .i64 0)]) 48 rfl Tryd.underlying40 info55 rfl (by decide) (by omega) (.slice A1 l1.length n1) l1 c.f4 [.string c.f4.f0, .string c.f4.f1, .int .i64 c.f4.f2, .int .i64 c.f4.f3] (fun _ => True) (fun _ => False) rfl (by first | (go_simp; done) | (go_simp; rfl)) (k55_mkM _ _ _ c.f4) (fun _ h => h.elim) (fun _ _ => trivial) R2.out BW2.out (Nat.le_trans hbase (Nat.le_of_lt (Array.getElem?_eq_some_iff.1 O2.out).1)) (by have := LL.out; omega) ?_; intro v3 w3 hr3 hb3 hg3 hat3; obtain ⟨A3, n3, rfl, -, -⟩ := Kd.R_reads hr3; have ob3 : w3.heap[ob]? = some (.cells #[.slice A1 l1.length n1] 40 (0, 0)) := (hg3.block ob (Array.getElem?_eq_some_iff.1 O2.out).1 (Kd.R_ne R2.out O2.out (by decide))).trans O2.out; have k3 : w3.cell? ⟨ob, 0, none⟩ = some (.slice A1 l1.length n1) := (by simp [World.cell?, ob3]); have f3 : w3.frozen? ⟨ob, 0, none⟩ = false := (by simp [World.frozen?, ob3]); have R3 := Aside0.mk hr3; have B3 := Aside0.mk hb3; have G3 := Aside0.mk hg3; have OB3 := Aside0.mk ob3; clear hr3 hb3 hg3 hat3 ob3)
   | fail)
  go_end0
  refine ⟨_, rfl, ?_, Boxed.set _ OB3.out, B3.out.setCell (p := ⟨ob, 0, none⟩) hbase _, fun k hk h1 h2 => ?_⟩
  ·have h := Kd.R_set R3.out OB3.out (by decide) 0 (Value.slice A3 (l1.length + 1) n3)
   rw [List.length_append, List.length_singleton] at h
   unfold lay06
   rw [hf]
   have e : l1 = l.filter fun f => !(f.f0.toList == c.f0.toList) := L1.out
   rw [← e]
   exact h
  ·exact (Below.heap_setCell _ _ _ k h1).trans ((G3.out.block k (Nat.lt_of_lt_of_le hk S2.out) (by rw [V1.out]; exact h2)).trans (F2.out k hk h1 h2))
end Go.Proofs.YtehfogjibhnabaaDoor.PAll
namespace Go.Proofs.YtehfogjibhnabaaDoor.PAll
open Go.RowKit Go.Lib Go.Sort Go.Proofs.YtehfogjibhnabaaDoorW.PrintWords Go.Proofs.YtehfogjibhnabaaDoorW.PrintLast Go.Proofs.YtehfogjibhnabaaDoorW.PrintMore
open Go.Proofs.YtehfogjibhnabaaDoor.Sp
abbrev FSh := { f : S55 // f.f0.size < 4294967281 }
instance : Inhabited FSh := ⟨⟨⟨ByteArray.empty, ByteArray.empty, 0, 0⟩, by decide⟩⟩
def encFS (f : FSh) : List Value := cellsF f.1
def cmpFS (x y : FSh) : Int := cB x.1.f0 y.1.f0
theorem swoFS : SWO (ltOf cmpFS) where
 irrefl x := swoSh.irrefl ⟨x.1.f0, x.2⟩
 trans x y z := swoSh.trans ⟨x.1.f0, x.2⟩ ⟨y.1.f0, y.2⟩ ⟨z.1.f0, z.2⟩
 ntrans x y z := swoSh.ntrans ⟨x.1.f0, x.2⟩ ⟨y.1.f0, y.2⟩ ⟨z.1.f0, z.2⟩
theorem flat_FS (d : Array FSh) : (flatK encFS 4 d).toList = rowF (d.toList.map (·.1)) := by
 refine rowF_of (by simp) fun j p hj => ?_
 have hjl : j < d.size := by simpa using (List.getElem?_eq_some_iff.1 hj).1
 obtain rfl : d[j]!.1 = p := by
  rw [getElem!_pos d j hjl]
  simpa [hjl] using hj
 apply List.ext_getElem?
 intro i
 rw [List.getElem?_take]
 split
 ·rename_i hi
  have ht : j * 4 + i < (flatK encFS 4 d).size := by rw [size_flatK]; omega
  have hg := get_flatK encFS 4 d (j * 4 + i) (by rw [size_flatK] at ht; exact ht)
  rw [getElem!_pos (flatK encFS 4 d) (j * 4 + i) ht] at hg
  rw [List.getElem?_drop, Array.getElem?_toList, Array.getElem?_eq_getElem ht, hg, show (j * 4 + i) / 4 = j by omega, show (j * 4 + i) % 4 = i by omega]
  exact (getElem?_pos (encFS d[j]!) i hi).symm ▸ (by rw [getElem!_pos (encFS d[j]!) i hi])
 ·rename_i hi
  rw [List.getElem?_eq_none (by show 4 ≤ _; omega)]
theorem holds_FS {w : World} {g cap n base : Nat} {d : Array FSh} (h : w.ownsRow base 55 4 (.slice (some ⟨g, 0, none⟩) n cap) n (rowF (d.toList.map (·.1)))) : HoldsK encFS 4 w g 0 d := by
 intro t ht
 have hn : n * 4 = d.size * 4 := by have := h.1; rw [rowF_length] at this; simp at this; omega
 have ht' : t < n * 4 := by rw [size_flatK] at ht; omega
 rw [Nat.zero_add]
 refine ⟨?_, h.frozenAt t⟩
 rw [h.cellAt t ht', ← flat_FS, Array.getElem?_toList, Array.getElem?_eq_getElem ht, getElem!_pos (flatK encFS 4 d) t ht]
 rfl
theorem take_flat (F : Array Value) (c : Array Value) (h : F.size ≤ c.size) : (putCells id 0 F c).toList.take F.size = F.toList := by
 apply List.ext_getElem?
 intro j
 rw [List.getElem?_take]
 split
 ·rename_i hj
  rw [Array.getElem?_toList, Array.getElem?_toList]
  unfold putCells
  rw [Array.getElem?_mapIdx, Array.getElem?_eq_getElem (by omega), Option.map_some, if_pos ⟨by omega, by omega⟩, Nat.sub_zero, getElem!_pos F j hj, Array.getElem?_eq_getElem hj]
  rfl
 ·rename_i hj
  rw [Array.getElem?_toList, Array.getElem?_eq_none (by omega)]
theorem own_sortedFS {w : World} {base g cap n m : Nat} {xs : List Value} (h : w.ownsRow base 55 4 (.slice (some ⟨g, 0, none⟩) n cap) n xs) (d : Array FSh) (hd : d.size = n) (os : Array Obj) :
  (sortWorldK encFS 4 w g 0 m d os).ownsRow base 55 4 (.slice (some ⟨g, 0, none⟩) n cap) n (rowF (d.toList.map (·.1))) ∧ w.grownBy (sortWorldK encFS 4 w g 0 m d os) (some g) := by
 obtain ⟨cur, hb, hh, h3, h4, h5, h6⟩ := own_slice_is h
 have hg : g < w.heap.size := (Array.getElem?_eq_some_iff.1 hh).1
 have e1 : (sortWorldK encFS 4 w g 0 m d os).heap[g]? = some (.cells (putCells id 0 (flatK encFS 4 d) cur) 55 (0, 0)) := by
  unfold sortWorldK putRowK
  rw [heap_grow_old _ _ (by simpa [putRow, mapBlock, Sort.ahead] using hg)]
  exact heap_putRow id _ g 0 _ hh
 refine ⟨⟨by rw [rowF_length]; simp [hd], .inr ⟨g, cap, _, rfl, hb, e1, h3, h4, by rw [size_putCells]; exact h5, ?_⟩⟩, rfl, rfl, rfl, ?_, fun k hk hne => ?_⟩
 ·rw [← flat_FS, ← hd]
  have := take_flat (flatK encFS 4 d) cur (by rw [size_flatK, h5, hd]; exact Nat.mul_le_mul_right _ h3)
  rwa [size_flatK] at this
 ·unfold sortWorldK putRowK
  rw [size_grow]
  simp [putRow, mapBlock, Sort.ahead]
 ·unfold sortWorldK putRowK
  rw [heap_grow_old _ _ (by simpa [putRow, mapBlock, Sort.ahead] using hk), heap_putRow_other _ _ _ _ _ (fun e => hne (by rw [e]))]
  rfl
set_option maxHeartbeats 4000000 in
set_option maxRecDepth 100000 in
theorem cmp58_calls (x y : S55) (hx : x.f0.size < 4294967281) (hy : y.f0.size < 4294967281) (W : World) :
  Calls Tryd.prog 58 #[.agg #[.string x.f0, .string x.f1, .int .i64 x.f2, .int .i64 x.f3], .agg #[.string y.f0, .string y.f1, .int .i64 y.f2, .int .i64 y.f3]] W fun e w' => e = .returned (.int .i64 (cB x.f0 y.f0)) ∧ Gr W w' := by
 go_enter Tryd.func58, Tryd.ntmps58
 go_wp2_with fail
 refine (cmp_gr x.f0 y.f0 hx hy _).mono ?_
 rintro e w1 ⟨rfl, hgr⟩
 go_wp2
 go_ret
 exact ⟨rfl, (((Gr.refl W).alloc _).alloc _).trans hgr⟩
theorem cmpFS_lays (g n : Nat) (w : World) : CmpLays Tryd.prog 58 #[] encFS 4 cmpFS g 0 n w := fun m os dk _ x y => cmp58_calls x.1 y.1 x.2 y.2 (sortWorldK encFS 4 w g 0 m dk os)
theorem perm_FS {d d' : Array FSh} {l : List S55} (hd : d.toList.map (·.1) = l) (hp : PermIn 0 d.size d d') : (d'.toList.map (·.1)).Perm l := by
 have h := hp.2.2
 rw [show d'.extract 0 d.size = d' by rw [← hp.1, Array.extract_size], show d.extract 0 d.size = d by rw [Array.extract_size]] at h
 rw [← hd]
 exact h.map _
theorem sorted_FS {d' : Array FSh} (hs : SortedIn (ltOf cmpFS) 0 d'.size d') : (d'.toList.map (·.1)).Pairwise fun x y => ¬ cB y.f0 x.f0 < 0 := by
 rw [List.pairwise_map, List.pairwise_iff_getElem]
 intro i j hi hj hij
 have hj' : j < d'.size := by simpa using hj
 have h := hs i j (Nat.zero_le _) hij hj'
 rw [getElem!_pos d' j hj', getElem!_pos d' i (by omega)] at h
 unfold ltOf cmpFS at h
 simpa using h
set_option maxHeartbeats 4000000 in
set_option maxRecDepth 100000 in
theorem sort57_calls (l : List S55) (base : Nat) (v : Value) (w : World) (hr : Kd.R k55 55 w base (fun _ => True) v l) (hl : l.length ≤ 9000000) (hsm : ∀ x ∈ l, x.f0.size < 4294967281) :
  Calls Tryd.prog 57 #[v, .func (.func 58) #[] #[]] w fun e w' => e = .returned (.tuple #[]) ∧ ∃ s : List S55, s.Perm l ∧ (s.Pairwise fun x y => ¬ cB y.f0 x.f0 < 0) ∧ Kd.R k55 55 w' base (fun _ => True) v s ∧ w.grownBy w' v.ownBlock := by
 have hown := R_files_own hr
 rcases hown.2 with ⟨rfl, h0⟩ | ⟨g, c, cur, rfl, h1, h2, h3, h4, h5⟩
 ·obtain rfl : l = [] := List.eq_nil_of_length_eq_zero h0
  refine (AnyF.slices_SortFunc_none (P := Tryd.prog) (ρ := Tryd.laysSlF06_f57_ren) { Tryd.laysSlF06_f57 with } none 0 (.func (.func 58) #[] #[]) w).mono ?_
  rintro e w' ⟨rfl, rfl⟩
  exact ⟨rfl, [], List.Perm.refl _, List.Pairwise.nil, hr, rfl, rfl, rfl, Nat.le_refl _, fun _ _ _ => rfl⟩
 ·obtain ⟨d, hd⟩ : ∃ d : Array FSh, d.toList.map (·.1) = l := ⟨(l.pmap (fun x hx => (⟨x, hx⟩ : FSh)) hsm).toArray, by simp [List.map_pmap]⟩
  have hdn : d.size = l.length := by rw [← hd]; simp
  have hg : g < w.heap.size := (Array.getElem?_eq_some_iff.1 h2).1
  have hS := AnyQ.slices_SortFunc (P := Tryd.prog) (ρ := Tryd.laysSlF06_f57_ren) Tryd.laysSlF06_f57 4 (fun w => by kernel_rfl) (fun w => by kernel_rfl) encFS (fun _ => rfl) (fun x => cellsF_one x.1) cmpFS swoFS 58 #[] g 0 c d w (enters_of Tryd.func58 (by kernel_rfl) rfl) (cmpFS_lays g d.size w) (holds_FS (by rw [hd]; exact hown)) hg (by omega)
  rw [hdn] at hS
  refine hS.mono ?_
  rintro e w' ⟨rfl, d', m, os, hp, hs, rfl⟩
  rw [← hdn] at hp hs
  have hd' : d'.size = l.length := hp.1.trans hdn
  obtain ⟨o1, o2⟩ := own_sortedFS (m := m) hown d' hd' os
  refine ⟨rfl, d'.toList.map (·.1), perm_FS hd hp, sorted_FS (by rw [hp.1]; exact hs), own_R_files ?_, o2⟩
  have e : (d'.toList.map (·.1)).length = l.length := by simp [hd']
  rw [e]
  exact o1
end Go.Proofs.YtehfogjibhnabaaDoor.PAll
namespace Go.Proofs.YtehfogjibhnabaaDoor.PAll
open Go.RowKit Go.Proofs.YtehfogjibhnabaaDoorW.PrintWords Go.Proofs.YtehfogjibhnabaaDoorW.PrintLast Go.Proofs.YtehfogjibhnabaaDoorW.PrintMore
open Go.Proofs.YtehfogjibhnabaaDoor.Sp
theorem off06 {a : List S55} {c : S61} {q1 q2 : ByteArray} {q3 q4 : Int} {q5 : Bool} (h : foundF (atK S55.f0 a c.f0) = (q1, q2, q3, q4, q5)) : offB a c = (!(q5 == c.f1) || !eqF ⟨q1, q2, q3, q4⟩ c.f3) := by
 unfold offB
 cases hk : atK S55.f0 a c.f0 with
 | none =>
  rw [hk] at h
  simp only [foundF, Prod.mk.injEq] at h
  obtain ⟨rfl, rfl, rfl, rfl, rfl⟩ := h
  show (c.f1 || !eqF z55 c.f3) = _
  cases c.f1 <;> rfl
 | some x =>
  rw [hk] at h
  simp only [foundF, Prod.mk.injEq] at h
  obtain ⟨rfl, rfl, rfl, rfl, rfl⟩ := h
  show (!c.f1 || !eqF x c.f3) = _
  cases c.f1 <;> rfl
theorem size_alloc' (w : World) (o : Obj) : (w.alloc o).heap.size = w.heap.size + 1 := by simp
theorem infoFn : (Tryd.prog.info? 1).map (fun i => (i.zero, i.size, i.bytes)) = some (some .nilFunc, 1, 8) := by kernel_rfl
theorem lay06_length (l : List S55) (c : S61) : (lay06 l c).length ≤ l.length + 1 := by
 unfold lay06
 rw [List.length_append]
 have := List.length_filter_le (fun f : S55 => !(f.f0.toList == c.f0.toList)) l
 split
 ·simp; omega
 ·simp; omega
theorem fits_lays : ∀ (d : List S61) (l : List S55), FitsF l → FitsD d → FitsF (d.foldl lay06 l)
 | [], _, h, _ => h
 | c :: d, l, h, hd => fits_lays d (lay06 l c) (fun x hx => by
   unfold lay06 at hx
   rcases List.mem_append.1 hx with hx | hx
   ·exact h x (List.mem_filter.1 hx).1
   ·split at hx
    ·rw [List.mem_singleton.1 hx]
     exact (hd c (List.mem_cons_self ..)).2.2
    ·cases hx) (fun z hz => hd z (List.mem_cons_of_mem _ hz))
def kLay54 (ob : Nat) : Kd Nat := Kd.scalar (fun b => .func (.func 54) #[] #[.pointer (some ⟨ob, 0, none⟩), .pointer (some ⟨b, 0, none⟩)]) (fun _ => rfl)
set_option maxHeartbeats 4000000 in
set_option maxRecDepth 100000 in
theorem delta_Apply.calls (A0 : Option Addr) (c0 : Nat) (l0 : List S55) (A1 : Option Addr) (c1 : Nat) (l1 : List S61) (r1 : List S55) (r2 : Int) (w : World) (hr0 : Kd.C k55 w A0 l0.length l0) (_hc0 : l0.length ≤ c0) (hr1 : Kd.C k61 w A1 l1.length l1) (_hc1 : l1.length ≤ c1) (h : delta_Apply.f l0 l1 = some (r1, r2)) :
  Calls Tryd.prog 24 #[.slice A0 l0.length c0, .slice A1 l1.length c1] w fun e w' => ∃ v0_ : Value, e = .returned (.tuple #[v0_, .int .i64 r2]) ∧ Kd.R k55 55 w' w.heap.size (fun _ => True) v0_ r1 ∧ Below w.heap.size w w' := by
 obtain ⟨⟨hl1, hl2⟩, hf1, hf2⟩ : (l0.length ≤ 1048576 ∧ l1.length ≤ 4194304) ∧ FitsF l0 ∧ FitsD l1 := by
  unfold delta_Apply.f at h
  split at h
  ·assumption
  ·cases h
 have hv : applyV l0 l1 = (r1, r2) := by
  unfold delta_Apply.f at h
  rw [if_pos ⟨⟨hl1, hl2⟩, hf1, hf2⟩] at h
  exact Option.some.inj h
 clear h
 have HA := Aside0.mk hv
 have HR0 := Aside0.mk hr0
 have HR1 := Aside0.mk hr1
 have HC0 := Aside0.mk _hc0
 have HC1 := Aside0.mk _hc1
 clear hv hr0 hr1 _hc0 _hc1
 obtain ⟨k1, h1⟩ := Ev.rounds (snap_ev l0 (by omega) hf1)
 obtain ⟨va, hva⟩ : ∃ v, v = snapV l0 := ⟨_, rfl⟩
 rw [← hva] at h1
 have Va := Aside0.mk hva
 have HS1 := Aside0.mk h1
 clear hva h1
 obtain ⟨k2, h2⟩ := Ev.rounds (valid06 l1 (by omega) hf2)
 obtain ⟨vd, hvd⟩ : ∃ v, v = validD l1 := ⟨_, rfl⟩
 rw [← hvd] at h2
 have Vd := Aside0.mk hvd
 have HS2 := Aside0.mk h2
 clear hvd h2
 go_enter Tryd.func24, Tryd.ntmps24
 go_wp2_with fail
 refine (snap_Valid.calls k1 A0 c0 l0 va _ HR0.out HC0.out HS1.out).mono ?_
 rintro e1 w1 ⟨rfl, hb⟩
 have HR0 := Aside0.mk (Kd.C_below HR0.out hb)
 have HR1 := Aside0.mk (Kd.C_below HR1.out hb)
 have BW := Aside0.mk hb
 clear hb
 by_cases hz : va = 0
 ·subst hz
  go_wp2_with fail
  refine (delta_Valid.calls k2 A1 c1 l1 vd _ HR1.out HC1.out HS2.out).mono ?_
  rintro e2 w2 ⟨rfl, hb⟩
  have HR0 := Aside0.mk (Kd.C_below HR0.out hb)
  have HR1 := Aside0.mk (Kd.C_below HR1.out hb)
  have BW := Aside0.mk (below_then BW.out BW.out.size hb)
  clear hb
  cases vd with
  | false =>
   obtain ⟨rfl, rfl⟩ : r1 = [] ∧ r2 = 9 := by
    have := HA.out
    rw [applyV, if_pos Va.out.symm, if_neg (by rw [← Vd.out]; decide)] at this
    exact ⟨(congrArg Prod.fst this).symm, (congrArg Prod.snd this).symm⟩
   go_wp2_with fail
   go_ret2
   exact ⟨_, rfl, Kd.R_nil _ _ _ _ _, BW.out⟩
  | true =>
   go_wp2_with fail
   refine (clone55_calls A0 c0 l0 _ HR0.out (by omega)).mono ?_
   rintro e3 w3 ⟨v3, rfl, ho, hb⟩
   obtain ⟨Ao, co, rfl, lo, ro⟩ := Kd.R_reads ho
   have HO := Aside0.mk (Kd.R_lower ho BW.out.size)
   have HR0 := Aside0.mk (Kd.C_below HR0.out hb)
   have HR1 := Aside0.mk (Kd.C_below HR1.out hb)
   have BW := Aside0.mk (below_then BW.out BW.out.size hb)
   clear ho hb lo ro
   go_wp2
   go_loopg [8, 10, 11, 12, 27] l1.length (fun gg s8 _ _ _ s27 wr => ∃ (i : Nat) (bs : List Nat), i ≤ l1.length ∧ l1.length - i ≤ gg ∧ s27 = .int .i64 i ∧ bs.length = i ∧ Aside0 (Kd.R (kLay54 w3.heap.size) 1 wr (w3.heap.size + 1) (fun _ => True) s8 bs) ∧ Aside0 (Below (w3.heap.size + 1) (w3.alloc (.cells #[.slice Ao l0.length co] 40)) wr) ∧ Aside0 (∀ (j b : Nat) (c : S61), bs[j]? = some b → l1[j]? = some c → w3.heap.size < b ∧ wr.heap[b]? = some (.cells (cellsC c) 61 (0, 0))) ∧ Aside0 (∀ c ∈ l1.take i, offB l0 c = false))
   case atStart => exact ⟨0, [], by omega, by omega, by first | rfl | go_num, rfl, ⟨Kd.R_nil _ _ _ _ _⟩, ⟨Below.refl _ _⟩, ⟨by simp⟩, ⟨by simp⟩⟩
   case round =>
    obtain ⟨i, bs, hi, hg, rfl, hbl, T1, B1, CB1, F1⟩ := hrel
    have B3 : Aside0 (Below w3.heap.size w3 wr) := ⟨by
     have h2 := B1.out
     refine ⟨h2.os, h2.tape, h2.output, ?_, fun k hk => (h2.block k (by omega)).trans ((World.grownBy_alloc w3 _ none).block k hk (by simp))⟩
     have := h2.size
     rw [size_alloc'] at this
     omega⟩
    have BW1 := Aside0.mk (below_then BW.out BW.out.size B3.out)
    by_cases hlt : i < l1.length
    ·have hltz : (i : Int) < (l1.length : Int) := by omega
     obtain ⟨ad, e1, h0, h1, h2, h3, h4, h5, h6, h7, h8, h9, h10⟩ := at_T61 (Kd.C_below HR1.out B3.out) (i : Int) (by omega) hltz
     subst e1
     have hx : rd_T61 l1 (i : Int) = l1[i] := by
      unfold rd_T61
      rw [Int.toNat_natCast, List.getD_eq_getElem?_getD, List.getElem?_eq_getElem hlt]
      rfl
     rw [hx] at h0 h1 h2 h3 h4 h5 h6 h7 h8 h9 h10
     simp only [Int.toNat_natCast] at h0 h1 h2 h3 h4 h5 h6 h7 h8 h9 h10
     have XI : Aside0 (∃ x, x = l1[i]) := ⟨_, rfl⟩
     obtain ⟨c, hc⟩ : ∃ c, c = l1[i] := ⟨_, rfl⟩
     rw [← hc] at h0 h1 h2 h3 h4 h5 h6 h7 h8 h9 h10
     have XC := Aside0.mk hc
     clear hc hx XI
     obtain ⟨q1, q2, q3, q4, q5, hq⟩ : ∃ q1 q2 q3 q4 q5, foundF (atK S55.f0 l0 c.f0) = (q1, q2, q3, q4, q5) := ⟨_, _, _, _, _, rfl⟩
     obtain ⟨kf, hfn⟩ := Ev.rounds (find06 l0 c.f0 (by omega))
     rw [hq] at hfn
     have FQ := Aside0.mk hq
     have FN := Aside0.mk hfn
     clear hq hfn
     go_wp2_with fail
     refine (snap_Find.calls kf A0 c0 l0 c.f0 q1 q2 q3 q4 q5 _ (Kd.C_alloc (Kd.C_below HR0.out B3.out) _) HC0.out FN.out).mono ?_
     rintro e w5 ⟨rfl, hb⟩
     have u1 : ∀ o, (w5.alloc o).cell? ⟨wr.heap.size, 1, none⟩ = some (.bool c.f1) := fun o => Lib.cell?_alloc_some o ((hb.cell (p := ⟨wr.heap.size, 1, none⟩) (by simp)).trans (cell_new wr _ _ 1))
     have u3 : ∀ o, (w5.alloc o).cell? ⟨wr.heap.size, 3, none⟩ = some (.string c.f3.f0) := fun o => Lib.cell?_alloc_some o ((hb.cell (p := ⟨wr.heap.size, 3, none⟩) (by simp)).trans (cell_new wr _ _ 3))
     have u4 : ∀ o, (w5.alloc o).cell? ⟨wr.heap.size, 4, none⟩ = some (.string c.f3.f1) := fun o => Lib.cell?_alloc_some o ((hb.cell (p := ⟨wr.heap.size, 4, none⟩) (by simp)).trans (cell_new wr _ _ 4))
     have u5 : ∀ o, (w5.alloc o).cell? ⟨wr.heap.size, 5, none⟩ = some (.int .i64 c.f3.f2) := fun o => Lib.cell?_alloc_some o ((hb.cell (p := ⟨wr.heap.size, 5, none⟩) (by simp)).trans (cell_new wr _ _ 5))
     have u6 : ∀ o, (w5.alloc o).cell? ⟨wr.heap.size, 6, none⟩ = some (.int .i64 c.f3.f3) := fun o => Lib.cell?_alloc_some o ((hb.cell (p := ⟨wr.heap.size, 6, none⟩) (by simp)).trans (cell_new wr _ _ 6))
     have NB : Aside0 (w5.heap[wr.heap.size]? = some (.cells (cellsC c) 61 (0, 0))) := ⟨(hb.block wr.heap.size (by simp)).trans (heap_alloc_new wr _)⟩
     have S5 : Aside0 (wr.heap.size < w5.heap.size) := ⟨by have := hb.size; rw [size_alloc'] at this; omega⟩
     have B5 : Aside0 (Below wr.heap.size wr w5) := ⟨below_then (below_alloc (Below.refl _ _) _) (by simp) hb⟩
     have OFF := Aside0.mk (off06 FQ.out)
     clear hb h0 h1 h2 h3 h4 h5 h6 h7 h8 h9 h10
     generalize hg1 : c.f1 = g1 at u1 OFF
     have HG1 := Aside0.mk hg1
     clear hg1
     have BW5 := Aside0.mk (below_then BW1.out BW1.out.size B5.out)
     have NINE : Aside0 (offB l0 c = true → r1 = [] ∧ r2 = 9) := ⟨fun ho => by
      have h := HA.out
      have hany : l1.any (offB l0) = true := List.any_eq_true.2 ⟨c, by rw [XC.out]; exact List.getElem_mem hlt, ho⟩
      rw [applyV, if_pos Va.out.symm, if_pos Vd.out.symm, if_pos hany] at h
      exact ⟨(congrArg Prod.fst h).symm, (congrArg Prod.snd h).symm⟩⟩
     by_cases hq5 : q5 = g1
     ·subst hq5
      by_cases hqf : eqF ⟨q1, q2, q3, q4⟩ c.f3 = true
      ·have he := eqF_iff.1 hqf
       have OFF0 : Aside0 (offB l0 c = false) := ⟨by rw [OFF.out, hqf]; simp⟩
       rw [← he] at u3 u4 u5 u6
       clear hqf he OFF NINE
       have SR : Aside0 (w3.heap.size + 1 ≤ wr.heap.size) := ⟨by have := B1.out.size; rwa [size_alloc'] at this⟩
       have BT : Aside0 (Below (w3.heap.size + 1) (w3.alloc (.cells #[.slice Ao l0.length co] 40)) w5) := ⟨below_then B1.out SR.out B5.out⟩
       have TT : Aside0 (Kd.R (kLay54 w3.heap.size) 1 w5 (w3.heap.size + 1) (fun _ => True) u8 bs) := ⟨Kd.R_below T1.out B5.out⟩
       go_wp2_with (first
        | ((with_reducible refine gate_builtin (b := .append) (xs := #[.tmp 48, .tmp 50]) rfl ?_); at_builtin; refine Kd.R_append (kLay54 w3.heap.size) (w0 := w3.alloc (.cells #[.slice Ao l0.length co] 40)) (w3.heap.size + 1) rfl (.tmp 48) (.tmp 50) 75 1 .nilFunc 8 rfl Tryd.underlying75 infoFn rfl Nat.one_pos (by omega) u8 bs wr.heap.size [.func (.func 54) #[] #[.pointer (some ⟨w3.heap.size, 0, none⟩), .pointer (some ⟨wr.heap.size, 0, none⟩)]] (fun _ => True) (fun _ => False) rfl (by first | (go_simp; done) | (go_simp; rfl)) rfl (fun _ h => h.elim) (fun _ _ => trivial) (Kd.R_alloc TT.out _) (BT.out.alloc (by have := SR.out; have := S5.out; omega) _) (by have := SR.out; have := S5.out; rw [size_alloc']; omega) (by omega) ?_; intro v6 w6 ho hb hgr hat; have T6 := Aside0.mk ho; have B6 := Aside0.mk hb; have G6 := Aside0.mk hgr; clear ho hb hgr hat)
        | fail)
       go_roundg (l1.length - (i + 1))
       case measure => omega
       case rel =>
        have mv : ∀ (b : Nat) (d : S61), w5.heap[b]? = some (.cells (cellsC d) 61 (0, 0)) → w6.heap[b]? = some (.cells (cellsC d) 61 (0, 0)) := fun b d hbd => by
         have hlt5 : b < w5.heap.size := (Array.getElem?_eq_some_iff.1 hbd).1
         exact (G6.out.block b (by rw [size_alloc']; omega) (Kd.R_ne TT.out hbd (by decide))).trans (((World.grownBy_alloc w5 _ none).block b hlt5 (by simp)).trans hbd)
        refine ⟨i + 1, bs ++ [wr.heap.size], by omega, by omega, by go_num, by simp [hbl], T6, B6, ⟨fun j b d hj hd => ?_⟩, ⟨fun d hd => ?_⟩⟩
        ·by_cases hjl : j < bs.length
         ·rw [List.getElem?_append_left hjl] at hj
          obtain ⟨p1, p2⟩ := CB1.out j b d hj hd
          exact ⟨p1, mv b d ((B5.out.block b (Array.getElem?_eq_some_iff.1 p2).1).trans p2)⟩
         ·have hjl2 : j = bs.length := by
           have := (List.getElem?_eq_some_iff.1 hj).1
           simp at this
           omega
          subst hjl2
          rw [List.getElem?_append_right (Nat.le_refl _), Nat.sub_self] at hj
          obtain rfl : wr.heap.size = b := by simpa using hj
          rw [hbl, List.getElem?_eq_getElem hlt] at hd
          obtain rfl : l1[i] = d := Option.some.inj hd
          have := SR.out
          exact ⟨by omega, mv _ _ (by rw [← XC.out]; exact NB.out)⟩
        ·rw [List.take_succ_eq_append_getElem hlt, List.mem_append, List.mem_singleton] at hd
         rcases hd with hd | rfl
         ·exact F1.out d hd
         ·rw [← XC.out]; exact OFF0.out
      ·obtain ⟨rfl, rfl⟩ := NINE.out (by rw [OFF.out]; simp [hqf])
       have hor : (q1.toList == c.f3.f0.toList) = false ∨ (q2.toList == c.f3.f1.toList) = false ∨ ¬ q3 = c.f3.f2 ∨ ¬ q4 = c.f3.f3 := by
        refine Classical.byContradiction fun hn => hqf ?_
        simp only [not_or, Classical.not_not, Bool.not_eq_false] at hn
        obtain ⟨a1, a2, a3, a4⟩ := hn
        unfold eqF
        simp [a1, a2, a3, a4]
       clear hqf OFF NINE
       rcases hor with h | h | h | h
       all_goals go_wp2_with fail
       all_goals (go_ret2; exact ⟨_, rfl, Kd.R_nil _ _ _ _ _, below_alloc BW5.out _⟩)
     ·obtain ⟨rfl, rfl⟩ := NINE.out (by rw [OFF.out]; simp [hq5])
      clear OFF NINE
      have hq5' : (q5 == g1) = false := by simpa using hq5
      go_wp2_with fail
      go_ret2
      exact ⟨_, rfl, Kd.R_nil _ _ _ _ _, below_alloc BW5.out _⟩
    ·have hltz : ¬ (i : Int) < (l1.length : Int) := by omega
     have hil : i = l1.length := by omega
     subst hil
     obtain ⟨gt, ct, rfl, ltt, rtt⟩ := Kd.R_reads T1.out
     rw [hbl] at rtt
     have RT := Aside0.mk rtt
     clear rtt ltt
     have OB0 : Aside0 (wr.heap[w3.heap.size]? = some (.cells #[.slice Ao l0.length co] 40 (0, 0))) := ⟨(B1.out.block w3.heap.size (by omega)).trans (heap_alloc_new w3 _)⟩
     have HO0 : Aside0 (Kd.R k55 55 wr w.heap.size (fun _ => True) (.slice Ao l0.length co) l0) := ⟨Kd.R_below HO.out B3.out⟩
     have HBO : Aside0 (w.heap.size ≤ w3.heap.size) := ⟨BW.out.size⟩
     have F1' : Aside0 (∀ c ∈ l1, offB l0 c = false) := ⟨by have := F1.out; rwa [List.take_length] at this⟩
     clear F1 HO B3 B1 RT
     go_wp2
     go_loopg [14, 55] l1.length (fun gg _ s55 wr => ∃ (j : Nat) (v : Value) (l : List S55), j ≤ l1.length ∧ l1.length - j ≤ gg ∧ s55 = .int .i64 j ∧ Aside0 (l = (l1.take j).foldl lay06 l0) ∧ Aside0 (l.length ≤ l0.length + j) ∧ Aside0 (Kd.R k55 55 wr w.heap.size (fun _ => True) v l) ∧ Aside0 (wr.heap[w3.heap.size]? = some (.cells #[v] 40 (0, 0))) ∧ Aside0 (Kd.R (kLay54 w3.heap.size) 1 wr (w3.heap.size + 1) (fun _ => True) (.slice gt bs.length ct) bs) ∧ Aside0 (∀ (j b : Nat) (c : S61), bs[j]? = some b → l1[j]? = some c → w3.heap.size < b ∧ wr.heap[b]? = some (.cells (cellsC c) 61 (0, 0))) ∧ Aside0 (Below w.heap.size w wr))
     case atStart => exact ⟨0, _, l0, by omega, by omega, by first | rfl | go_num, ⟨rfl⟩, ⟨by omega⟩, HO0, OB0, T1, CB1, BW1⟩
     case round =>
      clear HO0 OB0 T1 CB1 BW1
      obtain ⟨j, v, l, hj, hgj, rfl, LV, LN, RV, OB, TD, CB, BX⟩ := hrel
      have hbl' : bs.length = l1.length := hbl
      by_cases hjl : j < l1.length
      ·have hjz : (j : Int) < (l1.length : Int) := by omega
       obtain ⟨at', cs, e1, hcsl, hK, hcc⟩ := Kd.C_get (Kd.R_reads' TD.out).2.2 0 (j : Int) (by omega) (by rw [hbl']; exact hjz)
       subst e1
       obtain ⟨b, hb⟩ : ∃ b, bs[j]? = some b := ⟨_, List.getElem?_eq_getElem (by omega)⟩
       obtain ⟨cb1, cb2⟩ := CB.out j b l1[j] hb (List.getElem?_eq_getElem hjl)
       have hbd : bs.getD (j : Int).toNat 0 = b := by rw [Int.toNat_natCast, List.getD_eq_getElem?_getD, hb]; rfl
       rw [hbd] at hK
       have hcs : cs = [.func (.func 54) #[] #[.pointer (some ⟨w3.heap.size, 0, none⟩), .pointer (some ⟨b, 0, none⟩)]] := hK
       have hcell := hcc 0 _ (by rw [hcs]; rfl)
       have hcell2 : wr.cell? (at'.add j) = some (.func (.func 54) #[] #[.pointer (some ⟨w3.heap.size, 0, none⟩), .pointer (some ⟨b, 0, none⟩)]) := by
        have e : (j : Int).toNat * (kLay54 w3.heap.size).sz + 0 = j := by show (j : Int).toNat * 1 + 0 = j; omega
        rw [e] at hcell
        exact hcell
       have CB2 := Aside0.mk cb2
       clear hcell hcc hK hcs hcsl hbd hb cb2
       go_wp2_with fail
       refine (lay54_calls l l1[j] w3.heap.size b w.heap.size v wr RV.out (by have := LN.out; omega) HBO.out OB.out CB2.out).mono ?_
       rintro e w5 ⟨v', rfl, rv, ov, bv, fr⟩
       have FR : Aside0 (∀ (k q : Nat) (cells : Array Value), q ≠ 40 → q ≠ 55 → wr.heap[k]? = some (.cells cells q (0, 0)) → w5.heap[k]? = some (.cells cells q (0, 0))) := ⟨fun k q cells hq1 hq2 hk => by
        refine (fr k (Array.getElem?_eq_some_iff.1 hk).1 ?_ (Kd.R_ne RV.out hk hq2.symm)).trans hk
        rintro rfl
        rw [OB.out] at hk
        injection hk with hk
        injection hk with _ hk
        exact hq1 hk.symm⟩
       clear fr
       have RV5 := Aside0.mk rv
       have OB5 := Aside0.mk ov
       have BX5 := Aside0.mk (BX.out.trans bv)
       clear rv ov bv
       go_wp2
       go_roundg (l1.length - (j + 1))
       case measure => omega
       case rel =>
        refine ⟨j + 1, v', lay06 l l1[j], by omega, by omega, by go_num, ⟨?_⟩, ⟨?_⟩, RV5, OB5, ⟨?_⟩, ⟨fun j' b' c' h1' h2' => ?_⟩, BX5⟩
        ·rw [List.take_succ_eq_append_getElem hjl, List.foldl_append, ← LV.out]
         rfl
        ·have := LN.out
         have := lay06_length l l1[j]
         omega
        ·refine Kd.R_mono (Kd.R_move (Kd.R_bound TD.out) (fun k hk => ?_)) (fun _ _ => trivial)
         obtain ⟨_, _, _, q, hq, cells, hc⟩ := hk
         have hq1 : q = 1 := List.mem_singleton.1 hq
         subst hq1
         exact (FR.out k _ cells (by decide) (by decide) hc).trans hc.symm
        ·obtain ⟨p1, p2⟩ := CB.out j' b' c' h1' h2'
         exact ⟨p1, FR.out b' _ _ (by decide) (by decide) p2⟩
      ·have hjz : ¬ (j : Int) < (l1.length : Int) := by omega
       have hjn : j = l1.length := by omega
       subst hjn
       have hl : l = l1.foldl lay06 l0 := by have := LV.out; rwa [List.take_length] at this
       obtain ⟨Av, cv, rfl, hcv, -⟩ := Kd.R_reads RV.out
       have k0 : wr.cell? ⟨w3.heap.size, 0, none⟩ = some (.slice Av l.length cv) := by simp [World.cell?, OB.out]
       have hmem : FitsF l := by rw [hl]; exact fits_lays l1 l0 hf1 hf2
       have HL := Aside0.mk hl
       have HM := Aside0.mk hmem
       have HCV := Aside0.mk hcv
       clear hl hmem hcv TD CB
       go_wp2_with fail
       refine (sort57_calls l w.heap.size _ wr RV.out (by have := LN.out; omega) (fun x hx => by have := (HM.out x hx).1; omega)).mono ?_
       rintro e w5 ⟨rfl, s, hperm, hsort, rs, gs⟩
       have k5 : w5.cell? ⟨w3.heap.size, 0, none⟩ = some (.slice Av l.length cv) := gs.cell k0 (Kd.R_ne RV.out OB.out (by decide))
       have hsl : s.length = l.length := hperm.length_eq
       have hs : s = applyL l0 l1 := turned06 (snap_rises Va.out.symm) (validD_iff.1 Vd.out.symm).rises (may_new (validD_iff.1 Vd.out.symm)) (by rw [← HL.out]; exact hperm) hsort
       obtain ⟨ks, hks⟩ := Ev.rounds (snap_ev s (by have := LN.out; omega) (fun x hx => HM.out x (hperm.mem_iff.1 hx)))
       obtain ⟨vs, hvs⟩ : ∃ vs, vs = snapV s := ⟨_, rfl⟩
       rw [← hvs] at hks
       have hV := snap_Valid.calls ks Av cv s vs w5 (Kd.R_reads' rs).2.2 (by rw [hsl]; exact HCV.out) hks
       rw [hsl] at hV
       have BS : Aside0 (Below w.heap.size w w5) := ⟨BX.out.grown gs BX.out.size (fun k hk => own_base (R_files_own RV.out) k hk)⟩
       have RS := Aside0.mk rs
       have VS := Aside0.mk hvs
       have SA := Aside0.mk hs
       have SV := Aside0.mk hV
       clear hperm hsort rs gs hks hvs hs hV k0
       go_wp2_with fail
       refine SV.out.mono ?_
       rintro e w6 ⟨rfl, hb⟩
       have k6 : w6.cell? ⟨w3.heap.size, 0, none⟩ = some (.slice Av l.length cv) := (hb.cell (p := ⟨w3.heap.size, 0, none⟩) (World.block_lt_of_cell? w5 _ k5)).trans k5
       have R6 := Aside0.mk (Kd.R_below RS.out hb)
       have B6 := Aside0.mk (below_then BS.out BS.out.size hb)
       have hAp : applyV l0 l1 = if vs = 0 then (s, 0) else ([], 9) := by
        rw [applyV, if_pos Va.out.symm, if_pos Vd.out.symm, if_neg (by simpa using F1'.out), ← SA.out, VS.out]
       rw [HA.out] at hAp
       have AP := Aside0.mk hAp
       clear hb k5 hAp
       by_cases hz : vs = 0
       ·subst hz
        obtain ⟨rfl, rfl⟩ : r1 = s ∧ r2 = 0 := by
         have := AP.out
         rw [if_pos rfl] at this
         exact ⟨congrArg Prod.fst this, congrArg Prod.snd this⟩
        go_wp2_with fail
        go_ret2
        exact ⟨_, rfl, R6.out, B6.out⟩
       ·obtain ⟨rfl, rfl⟩ : r1 = [] ∧ r2 = 9 := by
         have := AP.out
         rw [if_neg hz] at this
         exact ⟨congrArg Prod.fst this, congrArg Prod.snd this⟩
        have hz' : (vs == 0) = false := by simpa using hz
        go_wp2_with fail
        go_ret2
        exact ⟨_, rfl, Kd.R_nil _ _ _ _ _, B6.out⟩
 ·obtain ⟨rfl, rfl⟩ : r1 = [] ∧ r2 = va := by
   have := HA.out
   rw [applyV, if_neg (by rw [← Va.out]; exact hz)] at this
   exact ⟨(congrArg Prod.fst this).symm, (congrArg Prod.snd this).symm.trans Va.out.symm⟩
  go_wp2_with fail
  go_ret2
  exact ⟨_, rfl, Kd.R_nil _ _ _ _ _, BW.out⟩
end Go.Proofs.YtehfogjibhnabaaDoor.PAll
