/- Components, valid paths, the pieces of a directory; what Cover, Shows and cone.Valid answer, as plain Lean. -/
import Derived.Test.YtdfkaclflmgkeaaDoorCvPAllx0
import Derived.Test.YtdfkaclflmgkeaaDoorCvHandA
import Derived.Test.YtdfkaclflmgkeaaDoorCvHandB
import Derived.Test.YtdfkaclflmgkeaaDoorCvHandC
import Derived.Test.YtdfkaclflmgkeaaDoorCvHandD
import Derived.Test.YtdfkaclflmgkeaaDoorCvPAlly18
import Derived.Test.YtdfkaclflmgkeaaDoorCvPAlly21
import Derived.Test.YtdfkaclflmgkeaaDoorCvPAlly3
import Derived.Test.YtdfkaclflmgkeaaDoorCvPAlly7
import Derived.Test.YtdfkaclflmgkeaaDoorCvPure1
import Derived.Test.YtdfkaclflmgkeaaDoorCvPure2
import Derived.Test.YtdfkaclflmgkeaaDoorCvPure3
import Derived.Test.YtdfkaclflmgkeaaDoorCvPure5
import Derived.Test.YtdfkaclflmgkeaaDoorCvSpec
namespace Go.Proofs.YtdfkaclflmgkeaaDoor.PAll
open Go.RowKit Go.Proofs.YtdfkaclflmgkeaaDoorW.PrintWords Go.Proofs.YtdfkaclflmgkeaaDoorW.PrintLast Go.Proofs.YtdfkaclflmgkeaaDoorW.PrintMore
open Go.Proofs.YtdfkaclflmgkeaaDoor.Sp
def okc (v : Int) : Bool := (decide (97 ≤ v) && decide (v ≤ 122)) || (decide (65 ≤ v) && decide (v ≤ 90)) || (decide (48 ≤ v) && decide (v ≤ 57)) || decide (v = 46) || decide (v = 95) || decide (v = 45)
def compB (a : ByteArray) : Bool := !(bs a == []) && decide (a.size ≤ 32) && !(bs a == [46]) && !(bs a == [46, 46]) && !(bs a == [46, 46, 46]) && (bs a).all (fun c => okc (c.toNat : Int))
def validB (a : ByteArray) : Bool := decide (a.size ≤ 120) && decide ((pB a).length ≤ 12) && (pB a).all compB
theorem comp_run (a : ByteArray) (ha : a.size ≤ 4294967296) (d : Nat) : ∀ i, a.size - i = d → i ≤ a.size → Ev (fun k => path_Component.l0 k a (a.size : Int) (i : Int)) (((bs a).drop i).all fun c => okc (c.toNat : Int)) := by
 induction d with
 | zero =>
  intro i hd hi
  refine ⟨1, fun k hk => ?_⟩
  obtain ⟨k, rfl⟩ : ∃ m, k = m + 1 := ⟨k - 1, by omega⟩
  simp only [path_Component.l0]
  rw [if_neg (by omega), List.drop_of_length_le (by rw [bs_size]; omega)]; rfl
 | succ d ih =>
  intro i hd hi
  have hv := bt_get a i (by omega)
  obtain ⟨K, hK⟩ := ih (i + 1) (by omega) (by omega)
  rw [bs_drop a i (by omega), List.all_cons, ← hv]
  dsimp only at hK
  refine ⟨K + 1, fun k hk => ?_⟩
  obtain ⟨k, rfl⟩ : ∃ m, k = m + 1 := ⟨k - 1, by omega⟩
  have hk1 := hK k (by omega)
  simp only [path_Component.l0]
  rw [if_pos (by omega), if_pos (by omega), if_pos (by omega), wrap_succ (n := a.size) (by omega) (by omega), hk1]
  clear hk1 hK hv ih
  generalize bt a (i : Int) = v
  generalize (((bs a).drop (i + 1)).all fun c => okc (c.toNat : Int)) = R
  by_cases h : okc v = true
  ·rw [h, Bool.true_and]
   simp only [okc, Bool.or_eq_true, Bool.and_eq_true, decide_eq_true_eq] at h
   repeat' split
   all_goals first | rfl | (exfalso; omega)
  ·rw [Bool.not_eq_true] at h
   rw [h, Bool.false_and]
   simp only [okc, Bool.or_eq_false_iff, Bool.and_eq_false_iff, decide_eq_false_iff_not] at h
   repeat' split
   all_goals first | rfl | (exfalso; omega)
theorem prog_comp (a : ByteArray) (ha : a.size ≤ 4294967296) : Ev (fun k => path_Component.f k a) (compB a) := by
 have hj : Ev (fun k => path_Component.j0 k a true) false := ⟨1, fun k hk => by
  obtain ⟨k, rfl⟩ : ∃ m, k = m + 1 := ⟨k - 1, by omega⟩
  simp [path_Component.j0]⟩
 unfold path_Component.f compB
 simp only [toList_bs]
 by_cases h1 : bs a = []
 ·simp only [h1, if_true]; exact Ev.val hj (by simp)
 ·simp only [if_neg h1]
  by_cases h2 : (a.size : Int) > 32
  ·simp only [if_pos h2]; exact Ev.val hj (by simp; omega)
  ·simp only [if_neg h2]
   by_cases h3 : bs a = [46]
   ·simp only [h3, if_true]; exact Ev.val hj (by simp)
   ·simp only [if_neg h3]
    by_cases h4 : bs a = [46, 46]
    ·simp only [h4, if_true]; exact Ev.val hj (by simp)
    ·simp only [if_neg h4]
     by_cases h5 : bs a = [46, 46, 46]
     ·simp only [h5, beq_self_eq_true]; exact Ev.val hj (by simp)
     ·have e5 : (bs a == [46, 46, 46]) = false := beq_eq_false_iff_ne.mpr h5
      simp only [e5]
      obtain ⟨K, hK⟩ := comp_run a ha a.size 0 (by omega) (by omega)
      dsimp only at hK
      refine ⟨K + 1, fun k hk => ?_⟩
      obtain ⟨k, rfl⟩ : ∃ m, k = m + 1 := ⟨k - 1, by omega⟩
      have := hK k (by omega)
      simp only [path_Component.j0, Bool.false_eq_true, if_false]
      rw [show ((0 : Nat) : Int) = 0 from rfl] at this
      rw [this]
      have g2 : a.size ≤ 32 := by omega
      simp [h1, g2, h3, h4]
theorem valid_run (x : List ByteArray) (hx : x.length ≤ 4294967296) (hs : ∀ p ∈ x, p.size ≤ 4294967296) (d : Nat) : ∀ i, x.length - i = d → i ≤ x.length → Ev (fun k => path_Valid.l0 k x (x.length : Int) (i : Int)) ((x.drop i).all compB) := by
 induction d with
 | zero =>
  intro i hd hi
  refine ⟨1, fun k hk => ?_⟩
  obtain ⟨k, rfl⟩ : ∃ m, k = m + 1 := ⟨k - 1, by omega⟩
  simp only [path_Valid.l0]
  rw [if_neg (by omega), List.drop_of_length_le (by omega)]; rfl
 | succ d ih =>
  intro i hd hi
  have hm : rdOf ByteArray.empty x (i : Int) ∈ x := by
   simp only [rdOf, Int.toNat_natCast, List.getD_eq_getElem?_getD, List.getElem?_eq_getElem (show i < x.length by omega), Option.getD_some]; exact List.getElem_mem _
  obtain ⟨K, hK⟩ := ih (i + 1) (by omega) (by omega)
  obtain ⟨K1, hK1⟩ := prog_comp _ (hs _ hm)
  rw [rdOf_drop x i (by omega), List.all_cons]
  dsimp only at hK hK1
  refine ⟨max K K1 + 1, fun k hk => ?_⟩
  obtain ⟨k, rfl⟩ : ∃ m, k = m + 1 := ⟨k - 1, by omega⟩
  simp only [path_Valid.l0]
  rw [if_pos (by omega), if_pos (by omega), if_pos (by omega), hK1 k (by omega), Option.bind_some, wrap_succ (n := x.length) (by omega) (by omega), hK k (by omega)]
  cases compB (rdOf ByteArray.empty x (i : Int)) <;> simp
theorem prog_valid (a : ByteArray) (ha : a.size < 4294967281) : Ev (fun k => path_Valid.f k a) (validB a) := by
 have hj : Ev (fun k => path_Valid.j0 k a true) false := ⟨1, fun k hk => by
  obtain ⟨k, rfl⟩ : ∃ m, k = m + 1 := ⟨k - 1, by omega⟩
  simp [path_Valid.j0]⟩
 unfold path_Valid.f validB
 by_cases h1 : (a.size : Int) > 120
 ·simp only [if_pos h1]; exact Ev.val hj (by simp; omega)
 ·simp only [if_neg h1]
  refine Ev.bind (a := ((pB a).length : Int)) (ev_pure fun k => by unfold path_Depth.f; rw [if_pos ha]) ?_
  by_cases h2 : ((pB a).length : Int) > 12
  ·rw [decide_eq_true h2]; exact Ev.val hj (by simp; omega)
  ·rw [decide_eq_false h2]
   have g1 : a.size ≤ 120 := by omega
   have g2 : (pB a).length ≤ 12 := by omega
   obtain ⟨K, hK⟩ := prog_split a ha
   obtain ⟨K1, hK1⟩ := valid_run (pB a) (by omega) (fun p hp => by have := pB_piece_le a p hp; omega) (pB a).length 0 (by omega) (by omega)
   dsimp only at hK hK1
   refine ⟨max K K1 + 1, fun k hk => ?_⟩
   obtain ⟨k, rfl⟩ : ∃ m, k = m + 1 := ⟨k - 1, by omega⟩
   simp only [path_Valid.j0, Bool.false_eq_true, if_false]
   rw [hK k (by omega), Option.bind_some]
   have := hK1 k (by omega)
   rw [show ((0 : Nat) : Int) = 0 from rfl] at this
   rw [this]
   simp [g1, g2]
def hd1 (c : UInt8) : List Str → List Str
 | [] => [[c]]
 | h :: t => (c :: h) :: t
theorem spl_other {c : UInt8} {r : Str} (h : c ≠ 47) : spl (c :: r) = hd1 c (spl r) := by
 rw [spl, if_neg h]
 cases spl r <;> rfl
theorem spl_append (x y : Str) : spl (x ++ 47 :: y) = spl x ++ spl y := by
 induction x with
 | nil => simp [spl]
 | cons c r ih =>
  rw [List.cons_append]
  by_cases h : c = 47
  ·subst h; simp [spl, ih]
  ·rw [spl_other h, spl_other h, ih]
   cases e : spl r with
   | nil => exact absurd e (spl_ne r)
   | cons p q => rfl
theorem spl_plain (y : Str) (h : (47 : UInt8) ∉ y) : spl y = [y] := by
 induction y with
 | nil => rfl
 | cons c r ih =>
  have hc : c ≠ 47 := fun e => h (by simp [e])
  have hr : (47 : UInt8) ∉ r := fun e => h (by simp [e])
  rw [spl, if_neg hc, ih hr]
theorem last_cut (n : Nat) : ∀ s : Str, s.length = n → (lastS s < 0 → (47 : UInt8) ∉ s) ∧ (0 ≤ lastS s → ∃ x y, s = x ++ 47 :: y ∧ (x.length : Int) = lastS s ∧ (47 : UInt8) ∉ y) := by
 induction n with
 | zero => intro s hs; obtain rfl := List.length_eq_zero_iff.1 hs; refine ⟨fun _ => by simp, fun h => absurd h (by decide)⟩
 | succ n ih =>
  intro s hs
  have hne : s ≠ [] := fun e => by subst e; simp at hs
  have es := List.dropLast_concat_getLast hne
  obtain ⟨l, c, rfl⟩ : ∃ l c, s = l ++ [c] := ⟨_, _, es.symm⟩
  have hl : l.length = n := by simp at hs; exact hs
  have e : lastS (l ++ [c]) = if c = 47 then (0 : Int) + l.length else lastS l := lastIx_snoc l c 0 (-1)
  obtain ⟨i1, i2⟩ := ih l hl
  by_cases h : c = 47
  ·subst h
   rw [if_pos rfl] at e
   refine ⟨fun h => by omega, fun _ => ⟨l, [], by simp, by omega, by simp⟩⟩
  ·rw [if_neg h] at e
   refine ⟨fun h' => ?_, fun h' => ?_⟩
   ·have := i1 (by omega)
    simp [this, Ne.symm h]
   ·obtain ⟨x, y, rfl, hx, hy⟩ := i2 (by omega)
    exact ⟨x, y ++ [c], by simp, by omega, by simp [hy, Ne.symm h]⟩
theorem bs_dir (a : ByteArray) (h : bs (dirB a) ≠ []) : ∃ y, bs a = bs (dirB a) ++ 47 :: y ∧ (47 : UInt8) ∉ y := by
 unfold dirB at h ⊢
 by_cases h0 : lastS (bs a) < 0
 ·rw [if_pos h0, bs_mk] at h; exact absurd rfl h
 ·rw [if_neg h0] at h ⊢
  obtain ⟨x, y, e, hx, hy⟩ := (last_cut _ (bs a) rfl).2 (by omega)
  refine ⟨y, ?_, hy⟩
  rw [extract_mk, bs_mk, List.drop_zero]
  have hn : (lastS (bs a)).toNat = x.length := by omega
  rw [hn]
  conv => rhs; rw [e]
  rw [List.take_left]
  exact e
theorem pB_dir (a : ByteArray) (h : bs (dirB a) ≠ []) : ∃ y, pB a = pB (dirB a) ++ [y] := by
 obtain ⟨y, e, hy⟩ := bs_dir a h
 refine ⟨mk y, ?_⟩
 have hne : bs a ≠ [] := by rw [e]; simp
 unfold pB
 rw [pcs_of hne, pcs_of h, e, spl_append, spl_plain y hy]
 simp
theorem valid_dir (a : ByteArray) (hv : validB a = true) (h : bs (dirB a) ≠ []) : validB (dirB a) = true := by
 obtain ⟨y, e⟩ := pB_dir a h
 have hz := dirB_size a
 unfold validB at hv ⊢
 simp only [Bool.and_eq_true, decide_eq_true_eq, e, List.length_append, List.length_singleton, List.all_append] at hv ⊢
 exact ⟨⟨by omega, by omega⟩, hv.2.1⟩
def nearB (d c : ByteArray) : Bool := decide (c = d) || aboveB c d || aboveB d c
theorem near1_ev (d c : ByteArray) (hd : d.size < 4294967281) (hc : c.size < 4294967281) : Ev (fun k => near1 k d c) (nearB d c) := by
 unfold near1 nearB
 by_cases h : c = d
 ·subst h; simp only [if_true]; exact Ev.val (ev_some true) (by simp)
 ·have h' : ¬ c.toList = d.toList := fun e => h (bs_inj (by rw [← toList_bs, ← toList_bs]; exact e))
  simp only [if_neg h']
  refine Ev.bind (prog_above c d hc hd) ?_
  cases e : aboveB c d with
  | true => simp only [if_true]; exact Ev.val (ev_some true) (by simp)
  | false => simp only [Bool.false_eq_true, if_false]; exact Ev.val (prog_above d c hd hc) (by simp [h])
theorem near_ev (d : ByteArray) (hd : d.size < 4294967281) : ∀ l : List ByteArray, Fits l → Ev (fun k => near k d l) (l.any (nearB d))
 | [], _ => ev_pure fun k => rfl
 | c :: r, hf => by
  have hc := hf c List.mem_cons_self
  refine Ev.congr (f := fun k => (near1 k d c).bind fun b => if b = true then some true else near k d r) (fun k => by rw [near]) ?_
  refine Ev.bind (near1_ev d c hd (by omega)) ?_
  rw [List.any_cons]
  cases e : nearB d c with
  | true => simp only [if_true]; exact Ev.val (ev_some true) (by simp)
  | false => simp only [Bool.false_eq_true, if_false]; exact Ev.val (near_ev d hd r (fun p hp => hf p (List.mem_cons_of_mem _ hp))) (by simp)
def showsB (k : List ByteArray) (p : ByteArray) : Bool := decide (bs (dirB p) = []) || k.any (nearB (dirB p))
theorem shows_ev (k : List ByteArray) (p : ByteArray) (hf : Fits k) (hp : p.size ≤ 1073741824) : Ev (fun n => cone_Shows.f n k p) (showsB k p) := by
 have hz := dirB_size p
 refine Ev.bind (prog_dir p (by omega)) ?_
 unfold showsB
 simp only [toList_bs]
 by_cases h : bs (dirB p) = []
 ·simp only [if_pos h]; exact Ev.val (ev_some true) (by simp [h])
 ·simp only [if_neg h]; exact Ev.val (near_ev _ (by omega) k hf) (by simp [h])
def coneR : Option ByteArray → List ByteArray → Bool
 | _, [] => true
 | none, x :: r => validB x && coneR (some x) r
 | some y, x :: r => validB x && (decide (cB y x < 0) && !aboveB y x) && coneR (some x) r
def before (x : List ByteArray) (i : Nat) : Option ByteArray := if i = 0 then none else some (rdOf ByteArray.empty x ((i - 1 : Nat) : Int))
theorem coneValid_run (x : List ByteArray) (hx : x.length ≤ 4294967296) (hf : Fits x) (d : Nat) : ∀ i, x.length - i = d → i ≤ x.length → Ev (fun k => cone_Valid.l0 k x x (x.length : Int) (i : Int)) (if coneR (before x i) (x.drop i) = true then 0 else 13) := by
 induction d with
 | zero =>
  intro i hd hi
  refine ⟨1, fun k hk => ?_⟩
  obtain ⟨k, rfl⟩ : ∃ m, k = m + 1 := ⟨k - 1, by omega⟩
  simp only [cone_Valid.l0]
  rw [if_neg (by omega), List.drop_of_length_le (by omega)]
  cases before x i <;> simp [coneR]
 | succ d ih =>
  intro i hd hi
  have hs := hf.at_ (show i < x.length by omega)
  obtain ⟨K, hK⟩ := ih (i + 1) (by omega) (by omega)
  obtain ⟨K1, hK1⟩ := prog_valid (rdOf ByteArray.empty x (i : Int)) (by omega)
  rw [rdOf_drop x i (by omega)]
  have hb : before x (i + 1) = some (rdOf ByteArray.empty x (i : Int)) := by simp [before]
  rw [hb] at hK
  dsimp only at hK hK1
  by_cases h0 : i = 0
  ·subst h0
   refine ⟨max K K1 + 1, fun k hk => ?_⟩
   obtain ⟨k, rfl⟩ : ∃ m, k = m + 1 := ⟨k - 1, by omega⟩
   simp only [cone_Valid.l0]
   rw [if_pos (by omega), if_pos (by omega), if_pos (by omega), hK1 k (by omega), Option.bind_some]
   have h1 := hK k (by omega)
   rw [show before x 0 = none from rfl]
   unfold coneR
   cases validB (rdOf ByteArray.empty x ((0 : Nat) : Int)) with
   | false => simp
   | true =>
    rw [if_pos rfl, if_neg (by omega), wrap_succ (n := x.length) (by omega) (by omega), h1]
    simp
  ·have hs1 := hf.at_ (show i - 1 < x.length by omega)
   obtain ⟨K2, hK2⟩ := prog_cmp (rdOf ByteArray.empty x ((i - 1 : Nat) : Int)) (rdOf ByteArray.empty x (i : Int)) (by omega) (by omega)
   obtain ⟨K3, hK3⟩ := prog_above (rdOf ByteArray.empty x ((i - 1 : Nat) : Int)) (rdOf ByteArray.empty x (i : Int)) (by omega) (by omega)
   dsimp only at hK2 hK3
   refine ⟨max K (max K1 (max K2 K3)) + 1, fun k hk => ?_⟩
   obtain ⟨k, rfl⟩ : ∃ m, k = m + 1 := ⟨k - 1, by omega⟩
   have ew : wrap64 ((i : Int) - 1) = ((i - 1 : Nat) : Int) := by rw [wrap_add (by omega) (by omega)]; omega
   simp only [cone_Valid.l0]
   rw [if_pos (by omega), if_pos (by omega), if_pos (by omega), hK1 k (by omega), Option.bind_some, ew]
   have h1 := hK k (by omega)
   rw [show before x i = some (rdOf ByteArray.empty x ((i - 1 : Nat) : Int)) from by simp [before, h0]]
   unfold coneR
   cases validB (rdOf ByteArray.empty x (i : Int)) with
   | false => simp
   | true =>
    rw [if_pos rfl, if_pos (by omega), if_pos (by omega), if_pos (by omega), hK2 k (by omega), Option.bind_some]
    by_cases c1 : cB (rdOf ByteArray.empty x ((i - 1 : Nat) : Int)) (rdOf ByteArray.empty x (i : Int)) < 0
    ·rw [if_neg (by omega), hK3 k (by omega), Option.bind_some]
     cases c2 : aboveB (rdOf ByteArray.empty x ((i - 1 : Nat) : Int)) (rdOf ByteArray.empty x (i : Int)) with
     | true => simp
     | false =>
      rw [if_neg (by simp), wrap_succ (n := x.length) (by omega) (by omega), h1]
      simp [c1]
    ·rw [if_pos (by omega)]
     simp [c1]
theorem coneValid_ev (x : List ByteArray) (hx : x.length ≤ 4294967296) (hf : Fits x) : Ev (fun k => cone_Valid.f k x) (if coneR none x = true then 0 else 13) :=
 Ev.val (coneValid_run x hx hf x.length 0 (by omega) (by omega)) (by rw [show before x 0 = none from rfl, List.drop_zero])
end Go.Proofs.YtdfkaclflmgkeaaDoor.PAll
