/- The document's snapshots, cones, views and covers: plain Lean. -/
import Derived.Test.YtdfkaclflmgkeaaGreatDoorCfPAllx0
import Derived.Test.YtdfkaclflmgkeaaGreatDoorCfHandB
import Derived.Test.YtdfkaclflmgkeaaGreatDoorCfPAlly7
import Derived.Test.YtdfkaclflmgkeaaGreatDoorCfPAlly9
import Derived.Test.YtdfkaclflmgkeaaGreatDoorCfPAlly18
import Derived.Test.YtdfkaclflmgkeaaGreatDoorCfPure2
import Derived.Test.YtdfkaclflmgkeaaGreatDoorCfPAlly4
import Derived.Test.YtdfkaclflmgkeaaGreatDoorCfPAlly11
import Derived.Test.YtdfkaclflmgkeaaGreatDoorCfPAlly12
import Derived.Test.YtdfkaclflmgkeaaGreatDoorCfPAlly16
namespace Go.Proofs.YtdfkaclflmgkeaaGreatDoor.PAll
open Go.RowKit Go.Proofs.YtdfkaclflmgkeaaGreatDoorW.PrintWords Go.Proofs.YtdfkaclflmgkeaaGreatDoorW.PrintLast Go.Proofs.YtdfkaclflmgkeaaGreatDoorW.PrintMore
open Go.Proofs.YtdfkaclflmgkeaaGreatDoor.Sp
theorem chain_bad {c : S36} {o : Option ByteArray} {r : List S36} (h : fileR c = false) : chainR fileR S36.f0 o (c :: r) = false := by cases o <;> simp [chainR, h]
theorem chain_none (c : S36) (r : List S36) : chainR fileR S36.f0 none (c :: r) = (fileR c && chainR fileR S36.f0 (some c.f0) r) := rfl
theorem chain_some (y : ByteArray) (c : S36) (r : List S36) : chainR fileR S36.f0 (some y) (c :: r) = (fileR c && (decide (cB y c.f0 < 0) && !aboveB y c.f0) && chainR fileR S36.f0 (some c.f0) r) := rfl
theorem snap13_j2 (x : List S36) (hx : x.length ≤ 1073741824) (hf : FitsF x) (i : Nat) (hi : i < x.length) (hok : fileR (rd_T36 x (i : Int)) = true)
  (ih : Ev (fun k => copseref13_Snap.l1 k x ((i + 1 : Nat) : Int)) (if chainR fileR S36.f0 (some (rd_T36 x (i : Int)).f0) (x.drop (i + 1)) = true then 0 else 8)) :
  Ev (fun k => copseref13_Snap.j2 k x (i : Int) (rd_T36 x (i : Int)).f0 (rd_T36 x (i : Int)).f1 (rd_T36 x (i : Int)).f2 (rd_T36 x (i : Int)).f3) (if chainR fileR S36.f0 (beforeF x i) (rd_T36 x (i : Int) :: x.drop (i + 1)) = true then 0 else 8) := by
 have hs := (hf _ (rdF_mem x i hi)).1
 have ew2 : wrap64 ((i : Int) + 1) = ((i + 1 : Nat) : Int) := wrap_succ (n := x.length) (by omega) (by omega)
 obtain ⟨K, hK⟩ := ih
 dsimp only at hK
 by_cases h0 : i = 0
 ·subst h0
  refine ⟨K + 1, fun k hk => ?_⟩
  obtain ⟨k, rfl⟩ : ∃ m, k = m + 1 := ⟨k - 1, by omega⟩
  simp only [copseref13_Snap.j2]
  rw [if_neg (by omega), ew2, hK k (by omega), show beforeF x 0 = none from rfl, chain_none, hok, Bool.true_and]
 ·have hs1 := (hf _ (rdF_mem x (i - 1) (by omega))).1
  obtain ⟨K2, hK2⟩ := ref_path13 (rd_T36 x ((i - 1 : Nat) : Int)).f0 (rd_T36 x (i : Int)).f0 (by omega) (by omega)
  dsimp only at hK2
  refine ⟨max K K2 + 1, fun k hk => ?_⟩
  obtain ⟨k, rfl⟩ : ∃ m, k = m + 1 := ⟨k - 1, by omega⟩
  have ew : wrap64 ((i : Int) - 1) = ((i - 1 : Nat) : Int) := by rw [wrap_add (by omega) (by omega)]; omega
  simp only [copseref13_Snap.j2]
  rw [if_pos (by omega), ew, if_pos (by omega), if_pos (by omega), hK2 k (by omega), Option.bind_some, above13_is, Option.bind_some, ew2, hK k (by omega), show beforeF x i = some (rd_T36 x ((i - 1 : Nat) : Int)).f0 from by simp [beforeF, h0]]
  rw [chain_some, hok, Bool.true_and]
  by_cases c1 : cB (rd_T36 x ((i - 1 : Nat) : Int)).f0 (rd_T36 x (i : Int)).f0 < 0
  ·rw [if_neg (by omega)]
   cases c2 : aboveB (rd_T36 x ((i - 1 : Nat) : Int)).f0 (rd_T36 x (i : Int)).f0 <;> simp [c1]
  ·rw [if_pos (by omega)]
   simp [c1]
theorem snap13_l1 (x : List S36) (hx : x.length ≤ 1073741824) (hf : FitsF x) (d : Nat) : ∀ i, x.length - i = d → i ≤ x.length → Ev (fun k => copseref13_Snap.l1 k x (i : Int)) (if chainR fileR S36.f0 (beforeF x i) (x.drop i) = true then 0 else 8) := by
 induction d with
 | zero =>
  intro i hd hi
  refine ⟨1, fun k hk => ?_⟩
  obtain ⟨k, rfl⟩ : ∃ m, k = m + 1 := ⟨k - 1, by omega⟩
  simp only [copseref13_Snap.l1]
  rw [if_neg (by omega), List.drop_of_length_le (by omega)]
  cases beforeF x i <;> simp [chainR]
 | succ d ih =>
  intro i hd hi
  have hs := (hf _ (rdF_mem x i (by omega))).1
  have nx := ih (i + 1) (by omega) (by omega)
  have hb : beforeF x (i + 1) = some (rd_T36 x (i : Int)).f0 := by simp [beforeF]
  rw [hb] at nx
  rw [rdF_drop x i (by omega)]
  have j2 := fun hok => snap13_j2 x hx hf i (by omega) hok nx
  refine Ev.step (f := fun k => (copseref13_Base.f k (rd_T36 x (i : Int)).f0).bind fun t604 => (if t604.toList = ([84, 65, 82, 71, 69, 84, 83] : List UInt8) then (if ((rd_T36 x (i : Int)).f2) = 0 then (if ((rd_T36 x (i : Int)).f3) = (((rd_T36 x (i : Int)).f1).size : Int) then (copseref13_Snap.j2 k x (i : Int) ((rd_T36 x (i : Int)).f0) ((rd_T36 x (i : Int)).f1) ((rd_T36 x (i : Int)).f2) ((rd_T36 x (i : Int)).f3)) else (some 8)) else (some 8)) else (if ((rd_T36 x (i : Int)).f1).toList = ([] : List UInt8) then (if ((rd_T36 x (i : Int)).f2) < 0 then (some 8) else (if ((rd_T36 x (i : Int)).f2) > 1152921504606846976 then (some 8) else (if ((rd_T36 x (i : Int)).f3) < 0 then (some 8) else (if ((rd_T36 x (i : Int)).f3) > 4611686018427387904 then (some 8) else (copseref13_Snap.j2 k x (i : Int) ((rd_T36 x (i : Int)).f0) ((rd_T36 x (i : Int)).f1) ((rd_T36 x (i : Int)).f2) ((rd_T36 x (i : Int)).f3)))))) else (some 8)))) (fun k => by
   simp only [copseref13_Snap.l1]
   rw [if_pos (by omega), if_pos (by omega)]) ?_
  refine Ev.bind (ref_base _ (by omega)) ?_
  generalize hC : rd_T36 x (i : Int) = c at j2 hs ⊢
  have bad : fileR c = false → Ev (fun _ => some (8 : Int)) (if chainR fileR S36.f0 (beforeF x i) (c :: x.drop (i + 1)) = true then 0 else 8) := fun h => Ev.val (ev_some (8 : Int)) (by rw [chain_bad h]; rfl)
  simp only [toList_bs]
  by_cases t : bs (baseB c.f0) = [84, 65, 82, 71, 69, 84, 83]
  ·simp only [if_pos t]
   by_cases c2 : c.f2 = 0
   ·simp only [if_pos c2]
    by_cases c3 : c.f3 = (c.f1.size : Int)
    ·simp only [if_pos c3]; exact j2 (by simp [fileR, t, c2, c3])
    ·simp only [if_neg c3]; exact bad (by simp [fileR, t, c3])
   ·simp only [if_neg c2]; exact bad (by simp [fileR, t, c2])
  ·simp only [if_neg t]
   by_cases c1 : bs c.f1 = []
   ·simp only [if_pos c1]
    by_cases d1 : c.f2 < 0
    ·simp only [if_pos d1]; exact bad (by simp [fileR, t, show ¬ 0 ≤ c.f2 by omega])
    ·simp only [if_neg d1]
     by_cases d2 : c.f2 > 1152921504606846976
     ·simp only [if_pos d2]; exact bad (by simp [fileR, t, show ¬ c.f2 ≤ 1152921504606846976 by omega])
     ·simp only [if_neg d2]
      by_cases d3 : c.f3 < 0
      ·simp only [if_pos d3]; exact bad (by simp [fileR, t, show ¬ 0 ≤ c.f3 by omega])
      ·simp only [if_neg d3]
       by_cases d4 : c.f3 > 4611686018427387904
       ·simp only [if_pos d4]; exact bad (by simp [fileR, t, show ¬ c.f3 ≤ 4611686018427387904 by omega])
       ·simp only [if_neg d4]; exact j2 (by simp [fileR, t, c1, show 0 ≤ c.f2 by omega, show c.f2 ≤ 1152921504606846976 by omega, show 0 ≤ c.f3 by omega, show c.f3 ≤ 4611686018427387904 by omega])
   ·simp only [if_neg c1]; exact bad (by simp [fileR, t, c1])
theorem snap13_l0 (x : List S36) (hx : x.length ≤ 1073741824) (hf : FitsF x) (d : Nat) : ∀ i, x.length - i = d → i ≤ x.length → (∀ f ∈ x.take i, placedB f = true) → Ev (fun k => copseref13_Snap.l0 k x (i : Int)) (snapV x) := by
 induction d with
 | zero =>
  intro i hd hi hp
  rw [List.take_of_length_le (by omega)] at hp
  have ha : x.all placedB = true := List.all_eq_true.2 hp
  obtain ⟨K, hK⟩ := snap13_l1 x hx hf x.length 0 (by omega) (by omega)
  dsimp only at hK
  refine ⟨K + 1, fun k hk => ?_⟩
  obtain ⟨k, rfl⟩ : ∃ m, k = m + 1 := ⟨k - 1, by omega⟩
  simp only [copseref13_Snap.l0]
  unfold snapV
  rw [if_neg (by omega), if_pos ha]
  by_cases c : x.length > 512
  ·rw [if_pos (by omega), if_pos c]
  ·rw [if_neg (by omega), if_neg c]
   have := hK k (by omega)
   rw [show beforeF x 0 = none from rfl, List.drop_zero] at this
   exact this
 | succ d ih =>
  intro i hd hi hp
  have hm := rdF_mem x i (by omega)
  have hs := (hf _ hm).1
  have hbad : placedB (rd_T36 x (i : Int)) = false → snapV x = 7 := fun c => by
   unfold snapV
   rw [if_neg (fun h => by rw [List.all_eq_true.1 h _ hm] at c; cases c)]
  have hgood : placedB (rd_T36 x (i : Int)) = true → Ev (fun k => copseref13_Snap.l0 k x ((i + 1 : Nat) : Int)) (snapV x) := fun c => ih (i + 1) (by omega) (by omega) (fun f h => by
   have e : x.take (i + 1) = x.take i ++ [rd_T36 x (i : Int)] := by
    rw [List.take_add_one]; congr 1
    simp [rd_T36, List.getD_eq_getElem?_getD, List.getElem?_eq_getElem (show i < x.length by omega)]
   rw [e] at h
   rcases List.mem_append.1 h with h | h
   ·exact hp f h
   ·rw [List.mem_singleton.1 h]; exact c)
  have ew2 : wrap64 ((i : Int) + 1) = ((i + 1 : Nat) : Int) := wrap_succ (n := x.length) (by omega) (by omega)
  refine Ev.step (f := fun k => if ((rd_T36 x (i : Int)).f0).toList = ([] : List UInt8) then (some 7) else ((copseref13_IsPath.f k ((rd_T36 x (i : Int)).f0)).bind fun t601 => (if t601 = true then (copseref13_Snap.l0 k x ((i + 1 : Nat) : Int)) else (some 7)))) (fun k => by
   simp only [copseref13_Snap.l0]
   rw [if_pos (by omega), if_pos (by omega), ew2]) ?_
  simp only [toList_bs]
  by_cases c0 : bs (rd_T36 x (i : Int)).f0 = []
  ·simp only [if_pos c0]; exact Ev.val (ev_some (7 : Int)) (hbad (by simp [placedB, c0])).symm
  ·simp only [if_neg c0]
   refine Ev.bind (ref_isPath _ (by omega)) ?_
   cases v : validB (rd_T36 x (i : Int)).f0 with
   | true => simp only [if_true]; exact hgood (by simp [placedB, c0, v])
   | false => simp only [Bool.false_eq_true, if_false]; exact Ev.val (ev_some (7 : Int)) (hbad (by simp [placedB, v])).symm
theorem snap13_ev (x : List S36) (hx : x.length ≤ 1073741824) (hf : FitsF x) : Ev (fun k => copseref13_Snap.f k x) (snapV x) := snap13_l0 x hx hf _ 0 rfl (by omega) (by simp)
end Go.Proofs.YtdfkaclflmgkeaaGreatDoor.PAll
namespace Go.Proofs.YtdfkaclflmgkeaaGreatDoor.PAll
open Go.RowKit Go.Proofs.YtdfkaclflmgkeaaGreatDoorW.PrintWords Go.Proofs.YtdfkaclflmgkeaaGreatDoorW.PrintLast Go.Proofs.YtdfkaclflmgkeaaGreatDoorW.PrintMore
open Go.Proofs.YtdfkaclflmgkeaaGreatDoor.Sp
section
variable (a b : List ByteArray) (ha : a.length ≤ 1073741824) (hb : b.length ≤ 1073741824) (hfa : Fits a) (hfb : Fits b)
include ha hb hfa hfb
end
theorem ref_dirs_run (l : List ByteArray) (hl : l.length ≤ 1073741824) (hf : Fits l) (d : Nat) : ∀ (i : Nat) (acc : List ByteArray), l.length - i = d → i ≤ l.length → acc.length ≤ i → Fits acc →
  Ev (fun k => copseref03_Dirs.l0 k l acc (i : Int)) (norm (acc ++ (l.drop i).map dirB)) := by
 induction d with
 | zero =>
  intro i acc hd hi ha hfa
  obtain ⟨K, hK⟩ := ref_norm acc (by omega) hfa
  dsimp only at hK
  refine ⟨K + 1, fun k hk => ?_⟩
  obtain ⟨k, rfl⟩ : ∃ m, k = m + 1 := ⟨k - 1, by omega⟩
  simp only [copseref03_Dirs.l0]
  rw [if_neg (by omega), hK k (by omega), List.drop_of_length_le (by omega)]; simp
 | succ d ih =>
  intro i acc hd hi ha hfa
  have hlt : i < l.length := by omega
  have hsz := hf.at_ hlt
  rw [rdOf_drop l i hlt]
  obtain ⟨K2, hK2⟩ := ref_dir (rdOf ByteArray.empty l (i : Int)) (by omega)
  dsimp only at hK2
  obtain ⟨K, hK⟩ := ih (i + 1) (acc ++ [dirB (rdOf ByteArray.empty l (i : Int))]) (by omega) (by omega) (by simp; omega) (fun p hp => by
   rcases List.mem_append.1 hp with hp | hp
   ·exact hfa p hp
   ·rw [List.mem_singleton.1 hp]; have := dirB_size (rdOf ByteArray.empty l (i : Int)); omega)
  dsimp only at hK
  refine ⟨max K K2 + 1, fun k hk => ?_⟩
  obtain ⟨k, rfl⟩ : ∃ m, k = m + 1 := ⟨k - 1, by omega⟩
  simp only [copseref03_Dirs.l0]
  rw [if_pos (by omega), if_pos (by omega), hK2 k (by omega), Option.bind_some, if_pos (by omega), wrap_succ (n := l.length) (by omega) (by omega), hK k (by omega)]
  simp
theorem ref_dirs (l : List ByteArray) (hl : l.length ≤ 1073741824) (hf : Fits l) : Ev (fun k => copseref03_Dirs.f k l) (norm (l.map dirB)) :=
 Ev.val (ref_dirs_run l hl hf l.length 0 [] (by omega) (by omega) (by simp) (fun p hp => by cases hp)) (by simp)
end Go.Proofs.YtdfkaclflmgkeaaGreatDoor.PAll
namespace Go.Proofs.YtdfkaclflmgkeaaGreatDoor.PAll
open Go.RowKit Go.Proofs.YtdfkaclflmgkeaaGreatDoorW.PrintWords Go.Proofs.YtdfkaclflmgkeaaGreatDoorW.PrintLast Go.Proofs.YtdfkaclflmgkeaaGreatDoorW.PrintMore
open Go.Proofs.YtdfkaclflmgkeaaGreatDoor.Sp
theorem shows15_run (c : List ByteArray) (D : ByteArray) (hc : c.length ≤ 1073741824) (hf : Fits c) (hD : D.size ≤ 1073741824) (d : Nat) : ∀ i, c.length - i = d → i ≤ c.length → Ev (fun k => copseref15_Shows.l0 k c D (i : Int)) ((c.drop i).any (nearB D)) := by
 induction d with
 | zero =>
  intro i hd hi
  refine ⟨1, fun k hk => ?_⟩
  obtain ⟨k, rfl⟩ : ∃ m, k = m + 1 := ⟨k - 1, by omega⟩
  simp only [copseref15_Shows.l0]
  rw [if_neg (by omega), List.drop_of_length_le (by omega)]; rfl
 | succ d ih =>
  intro i hd hi
  have hz := hf.at_ (show i < c.length by omega)
  have ew : wrap64 ((i : Int) + 1) = ((i + 1 : Nat) : Int) := wrap_succ (n := c.length) (by omega) (by omega)
  obtain ⟨K, hK⟩ := ih (i + 1) (by omega) (by omega)
  rw [rdOf_drop c i (by omega), List.any_cons]
  generalize hX : rdOf ByteArray.empty c (i : Int) = x at hz ⊢
  obtain ⟨K1, hK1⟩ := ref_above x D (by omega) (by omega)
  obtain ⟨K2, hK2⟩ := ref_above D x (by omega) (by omega)
  dsimp only at hK hK1 hK2
  refine ⟨max K (max K1 K2) + 1, fun k hk => ?_⟩
  obtain ⟨k, rfl⟩ : ∃ m, k = m + 1 := ⟨k - 1, by omega⟩
  simp only [copseref15_Shows.l0]
  rw [if_pos (by omega), if_pos (by omega), hX, hK1 k (by omega), Option.bind_some, hK2 k (by omega), Option.bind_some, ew, hK k (by omega)]
  unfold nearB
  by_cases e : x = D
  ·subst e; simp
  ·rw [if_neg (fun h => e (bs_inj (by rw [← toList_bs, ← toList_bs]; exact h.symm)))]
   cases aboveB x D <;> cases aboveB D x <;> simp [e]
theorem shows15_ev (c : List ByteArray) (p : ByteArray) (hc : c.length ≤ 1073741824) (hf : Fits c) (hp : p.size ≤ 1073741824) : Ev (fun n => copseref15_Shows.f n c p) (showsB c p) := by
 have hz := dirB_size p
 refine Ev.bind (ref_dir p (by omega)) ?_
 unfold showsB
 simp only [toList_bs]
 by_cases h : bs (dirB p) = []
 ·simp only [if_pos h]; exact Ev.val (ev_some true) (by simp [h])
 ·simp only [if_neg h]; exact Ev.val (shows15_run c (dirB p) hc hf (by omega) _ 0 rfl (by omega)) (by simp [h])
def ApartTo (x : List ByteArray) (i : Nat) : Prop := ∀ a b : Nat, a < b → b < i → Apart2 (rdOf ByteArray.empty x (a : Int)) (rdOf ByteArray.empty x (b : Int))
theorem rd_get (x : List ByteArray) (a : Nat) (h : a < x.length) : rdOf ByteArray.empty x (a : Int) = x[a] := by
 simp [rdOf, List.getD_eq_getElem?_getD, List.getElem?_eq_getElem h]
theorem cone_places (x : List ByteArray) : coneR none x = true ↔ (∀ a : Nat, a < x.length → validB (rdOf ByteArray.empty x (a : Int)) = true) ∧ ApartTo x x.length := by
 rw [cone_all, List.pairwise_iff_getElem]
 constructor
 ·rintro ⟨h1, h2⟩
  refine ⟨fun a ha => h1 _ (rd_mem x a ha), fun a b hab hb => ?_⟩
  rw [rd_get x a (by omega), rd_get x b hb]
  exact h2 a b (by omega) hb hab
 ·rintro ⟨h1, h2⟩
  refine ⟨fun y hy => ?_, fun a b ha hb hab => ?_⟩
  ·obtain ⟨a, ha, rfl⟩ := List.mem_iff_getElem.1 hy
   rw [← rd_get x a ha]; exact h1 a ha
  ·rw [← rd_get x a ha, ← rd_get x b hb]; exact h2 a b hab hb
theorem valid15_l1 (x : List ByteArray) (hx : x.length ≤ 1073741824) (hf : Fits x) (i : Nat) (hi : i < x.length) (hv : ∀ a : Nat, a ≤ i → validB (rdOf ByteArray.empty x (a : Int)) = true) (hp : ApartTo x i)
  (next : ApartTo x (i + 1) → Ev (fun k => copseref15_Valid.l0 k x ((i + 1 : Nat) : Int)) (if coneR none x = true then 0 else 13)) (d : Nat) :
  ∀ j : Nat, i - j = d → j ≤ i → (∀ a : Nat, a < j → Apart2 (rdOf ByteArray.empty x (a : Int)) (rdOf ByteArray.empty x (i : Int))) → Ev (fun k => copseref15_Valid.l1 k x (i : Int) (j : Int)) (if coneR none x = true then 0 else 13) := by
 have ew : wrap64 ((i : Int) + 1) = ((i + 1 : Nat) : Int) := wrap_succ (n := x.length) (by omega) (by omega)
 have hzi := hf.at_ hi
 induction d with
 | zero =>
  intro j hd hj hjs
  obtain ⟨K, hK⟩ := next (fun a b hab hb => by
   by_cases c : b = i
   ·subst c; exact hjs a (by omega)
   ·exact hp a b hab (by omega))
  dsimp only at hK
  refine ⟨K + 1, fun k hk => ?_⟩
  obtain ⟨k, rfl⟩ : ∃ m, k = m + 1 := ⟨k - 1, by omega⟩
  simp only [copseref15_Valid.l1]
  rw [if_neg (by omega), ew]
  exact hK k (by omega)
 | succ d ih =>
  intro j hd hj hjs
  have hz := hf.at_ (show j < x.length by omega)
  obtain ⟨K1, hK1⟩ := ref_cmp (rdOf ByteArray.empty x (j : Int)) (rdOf ByteArray.empty x (i : Int)) (by omega) (by omega)
  obtain ⟨K2, hK2⟩ := ref_above (rdOf ByteArray.empty x (j : Int)) (rdOf ByteArray.empty x (i : Int)) (by omega) (by omega)
  dsimp only at hK1 hK2
  have ew2 : wrap64 ((j : Int) + 1) = ((j + 1 : Nat) : Int) := wrap_succ (n := x.length) (by omega) (by omega)
  by_cases q : Apart2 (rdOf ByteArray.empty x (j : Int)) (rdOf ByteArray.empty x (i : Int))
  ·obtain ⟨K, hK⟩ := ih (j + 1) (by omega) (by omega) (fun a ha => by
    by_cases c : a = j
    ·subst c; exact q
    ·exact hjs a (by omega))
   dsimp only at hK
   refine ⟨max K (max K1 K2) + 1, fun k hk => ?_⟩
   obtain ⟨k, rfl⟩ : ∃ m, k = m + 1 := ⟨k - 1, by omega⟩
   have q1 := q.1
   simp only [copseref15_Valid.l1]
   rw [if_pos (by omega), if_pos (by omega), if_pos (by omega), if_pos (by omega), if_pos (by omega), hK1 k (by omega), Option.bind_some, if_neg (by omega), hK2 k (by omega), Option.bind_some, q.2, if_neg (by simp), ew2]
   exact hK k (by omega)
  ·have hbad : ¬ coneR none x = true := fun h => q (((cone_places x).1 h).2 j i (by omega) hi)
   rw [if_neg hbad]
   refine ⟨max K1 K2 + 1, fun k hk => ?_⟩
   obtain ⟨k, rfl⟩ : ∃ m, k = m + 1 := ⟨k - 1, by omega⟩
   simp only [copseref15_Valid.l1]
   rw [if_pos (by omega), if_pos (by omega), if_pos (by omega), if_pos (by omega), if_pos (by omega), hK1 k (by omega), Option.bind_some, hK2 k (by omega), Option.bind_some]
   by_cases c1 : cB (rdOf ByteArray.empty x (j : Int)) (rdOf ByteArray.empty x (i : Int)) < 0
   ·rw [if_neg (by omega)]
    cases c2 : aboveB (rdOf ByteArray.empty x (j : Int)) (rdOf ByteArray.empty x (i : Int)) with
    | true => rw [if_pos rfl]
    | false => exact absurd ⟨c1, c2⟩ q
   ·rw [if_pos (by omega)]
theorem valid15_l0 (x : List ByteArray) (hx : x.length ≤ 1073741824) (hf : Fits x) (d : Nat) : ∀ i : Nat, x.length - i = d → i ≤ x.length → (∀ a : Nat, a < i → validB (rdOf ByteArray.empty x (a : Int)) = true) → ApartTo x i → Ev (fun k => copseref15_Valid.l0 k x (i : Int)) (if coneR none x = true then 0 else 13) := by
 induction d with
 | zero =>
  intro i hd hi hv hp
  have e : i = x.length := by omega
  subst e
  rw [if_pos ((cone_places x).2 ⟨hv, hp⟩)]
  refine ⟨1, fun k hk => ?_⟩
  obtain ⟨k, rfl⟩ : ∃ m, k = m + 1 := ⟨k - 1, by omega⟩
  simp only [copseref15_Valid.l0]
  rw [if_neg (by omega)]
 | succ d ih =>
  intro i hd hi hv hp
  have hz := hf.at_ (show i < x.length by omega)
  obtain ⟨K1, hK1⟩ := ref_valid (rdOf ByteArray.empty x (i : Int)) (by omega)
  dsimp only at hK1
  cases v : validB (rdOf ByteArray.empty x (i : Int)) with
  | false =>
   have hbad : ¬ coneR none x = true := fun h => by rw [((cone_places x).1 h).1 i (by omega)] at v; cases v
   rw [if_neg hbad]
   rw [v] at hK1
   refine ⟨K1 + 1, fun k hk => ?_⟩
   obtain ⟨k, rfl⟩ : ∃ m, k = m + 1 := ⟨k - 1, by omega⟩
   simp only [copseref15_Valid.l0]
   rw [if_pos (by omega), if_pos (by omega), hK1 k (by omega), Option.bind_some, if_neg (by simp)]
  | true =>
   rw [v] at hK1
   have hv' : ∀ a : Nat, a ≤ i → validB (rdOf ByteArray.empty x (a : Int)) = true := fun a ha => by
    by_cases c : a = i
    ·subst c; exact v
    ·exact hv a (by omega)
   obtain ⟨K, hK⟩ := valid15_l1 x hx hf i (by omega) hv' hp (fun h => ih (i + 1) (by omega) (by omega) (fun a ha => hv' a (by omega)) h) _ 0 rfl (by omega) (fun a ha => absurd ha (by omega))
   dsimp only at hK
   refine ⟨max K K1 + 1, fun k hk => ?_⟩
   obtain ⟨k, rfl⟩ : ∃ m, k = m + 1 := ⟨k - 1, by omega⟩
   simp only [copseref15_Valid.l0]
   rw [if_pos (by omega), if_pos (by omega), hK1 k (by omega), Option.bind_some, if_pos rfl]
   exact hK k (by omega)
theorem valid15_ev (x : List ByteArray) (hx : x.length ≤ 1073741824) (hf : Fits x) : Ev (fun k => copseref15_Valid.f k x) (if coneR none x = true then 0 else 13) :=
 valid15_l0 x hx hf _ 0 rfl (by omega) (fun a ha => absurd ha (by omega)) (fun a b _ hb => absurd hb (by omega))
theorem view15_run (x : List S36) (c : List ByteArray) (hx : x.length ≤ 1073741824) (hf : FitsF x) (hcl : c.length ≤ 1073741824) (hc : Fits c) (d : Nat) : ∀ (i : Nat) (acc : List S36), x.length - i = d → i ≤ x.length → acc.length ≤ i →
  Ev (fun k => copseref15_View.l0 k x c acc (i : Int)) (acc ++ (x.drop i).filter (fun f => showsB c f.f0), 0) := by
 induction d with
 | zero =>
  intro i acc hd hi ha
  refine ⟨1, fun k hk => ?_⟩
  obtain ⟨k, rfl⟩ : ∃ m, k = m + 1 := ⟨k - 1, by omega⟩
  simp only [copseref15_View.l0]
  rw [if_neg (by omega), List.drop_of_length_le (by omega)]; simp
 | succ d ih =>
  intro i acc hd hi ha
  have hm := rdF_mem x i (by omega)
  obtain ⟨K1, hK1⟩ := shows15_ev c (rd_T36 x (i : Int)).f0 hcl hc (hf _ hm).1
  rw [rdF_drop x i (by omega)]
  dsimp only at hK1
  cases e : showsB c (rd_T36 x (i : Int)).f0 with
  | true =>
   rw [e] at hK1
   obtain ⟨K, hK⟩ := ih (i + 1) (acc ++ [rd_T36 x (i : Int)]) (by omega) (by omega) (by simp; omega)
   dsimp only at hK
   refine ⟨max K K1 + 1, fun k hk => ?_⟩
   obtain ⟨k, rfl⟩ : ∃ m, k = m + 1 := ⟨k - 1, by omega⟩
   simp only [copseref15_View.l0]
   rw [if_pos (by omega), if_pos (by omega), hK1 k (by omega), Option.bind_some, if_pos rfl, if_pos (by omega), wrap_succ (n := x.length) (by omega) (by omega)]
   refine (hK k (by omega)).trans ?_
   simp [e]
  | false =>
   rw [e] at hK1
   obtain ⟨K, hK⟩ := ih (i + 1) acc (by omega) (by omega) (by omega)
   dsimp only at hK
   refine ⟨max K K1 + 1, fun k hk => ?_⟩
   obtain ⟨k, rfl⟩ : ∃ m, k = m + 1 := ⟨k - 1, by omega⟩
   simp only [copseref15_View.l0]
   rw [if_pos (by omega), if_pos (by omega), hK1 k (by omega), Option.bind_some, if_neg (by simp), wrap_succ (n := x.length) (by omega) (by omega)]
   refine (hK k (by omega)).trans ?_
   simp [e]
theorem view15_ev (x : List S36) (c : List ByteArray) (hx : x.length ≤ 1073741824) (hf : FitsF x) (hcl : c.length ≤ 1073741824) (hc : Fits c) : Ev (fun k => copseref15_View.f k x c) (viewV x c) := by
 refine Ev.bind (snap13_ev x hx hf) ?_
 unfold viewV
 by_cases h : snapV x = 0
 ·simp only [h, if_true]
  refine Ev.bind (valid15_ev c hcl hc) ?_
  cases e : coneR none c with
  | true => simp only [if_true]; exact Ev.val (view15_run x c hx hf hcl hc _ 0 [] rfl (by omega) (by simp)) (by simp)
  | false => simp only [Bool.false_eq_true, if_false, show ¬ (13 : Int) = 0 by decide]; exact ev_some _
 ·simp only [if_neg h]; exact ev_some _
theorem heads_congr {l m : List ByteArray} (h : ∀ z, z ∈ l ↔ z ∈ m) : heads l = heads m := by
 refine rises_uniq _ _ (rises_heads l) (rises_heads m) fun z => ?_
 rw [mem_heads, mem_heads, h z]
 exact and_congr_right fun _ => ⟨fun q y hy => q y ((h y).2 hy), fun q y hy => q y ((h y).1 hy)⟩
theorem cover15_ev (l : List ByteArray) (hl : l.length ≤ 1073741824) (hf : Fits l) : Ev (fun k => copseref15_Cover.f k l) (heads (dirsL l)) := by
 have hn := norm_length_le (l.map dirB)
 rw [List.length_map] at hn
 have fd : Fits (norm (l.map dirB)) := fun p hp => by
  obtain ⟨q, hq, rfl⟩ := List.mem_map.1 (mem_norm.1 hp)
  have := dirB_size q; have := hf q hq; omega
 have hn2 : (norm ((norm (l.map dirB)).filter fun x => decide (x ∈ [(⟨#[]⟩ : ByteArray)]) == false)).length ≤ l.length := Nat.le_trans (Nat.le_trans (norm_length_le _) (List.length_filter_le _ _)) hn
 refine Ev.bind (ref_dirs l hl hf) (Ev.bind (ref_minus _ [(⟨#[]⟩ : ByteArray)] (by omega) (by simp) fd) (Ev.bind (Ev.val (ref_heads _ (by omega) (fits_norm fun p hp => fd p (List.mem_filter.1 hp).1)) ?_) (ev_some _)))
 refine heads_congr fun z => ?_
 rw [mem_norm, List.mem_filter, mem_norm, mem_dirsL, List.mem_map]
 simp only [List.mem_singleton, beq_iff_eq, decide_eq_false_iff_not]
 constructor
 ·rintro ⟨h1, h2⟩; exact ⟨fun e => h2 (bs_inj e), h1⟩
 ·rintro ⟨h1, h2⟩; exact ⟨h2, fun e => h1 (by rw [e]; rfl)⟩
end Go.Proofs.YtdfkaclflmgkeaaGreatDoor.PAll
namespace Go.Proofs.YtdfkaclflmgkeaaGreatDoor.PAll
open Go.RowKit Go.Proofs.YtdfkaclflmgkeaaGreatDoorW.PrintWords Go.Proofs.YtdfkaclflmgkeaaGreatDoorW.PrintLast Go.Proofs.YtdfkaclflmgkeaaGreatDoorW.PrintMore
open Go.Proofs.YtdfkaclflmgkeaaGreatDoor.Sp
theorem aliveF_ev : Ev (fun k => copselaw15_alive.f k) true := Ev.of copselaw15_alive.mono (k := 40) (by kernel_rfl)
theorem h49 : (⟨#[49]⟩ : ByteArray).toList = [49] := by rw [toList_bs]; rfl
theorem h50 : (⟨#[50]⟩ : ByteArray).toList = [50] := by rw [toList_bs]; rfl
theorem marks_set {x : List S36} {i : Nat} {m : ByteArray} (h : ∀ q a, q < i → x[q]? = some a → a.f0 = m) (z : S36) (hz : z.f0 = m) : ∀ q a, q < i + 1 → (x.set i z)[q]? = some a → a.f0 = m := fun q a hq ha => by
 by_cases e : q = i
 ·subst e
  by_cases hl : q < x.length
  ·rw [List.getElem?_set_self hl] at ha
   rw [← Option.some.inj ha]; exact hz
  ·rw [List.getElem?_eq_none (by simp; omega)] at ha; cases ha
 ·rw [List.getElem?_set_ne (by omega)] at ha
  exact h q a (by omega) ha
section
variable {l : List S36} {H : List ByteArray} {V : List S36} {e : Int} (hv : Ev (fun k => cone_View.f k l H) (V, e)) (hf : Ev (fun k => copselaw15_files.f k V V) true)
include hv hf
theorem coneF_l4 (x y : List S36) (hxl : x.length ≤ 4294967296) (hlen : x.length = y.length) (hx : ∀ a ∈ x, a.f0 = ⟨#[49]⟩) (hy : ∀ a ∈ y, a.f0 = ⟨#[50]⟩) (d : Nat) : ∀ i : Nat, x.length - i = d → i ≤ x.length →
  Ev (fun k => copselaw15_ConeFresh.l4 k l H V x y (i : Int)) true := by
 induction d with
 | zero =>
  intro i hd hi
  obtain ⟨K1, hK1⟩ := hv
  obtain ⟨K2, hK2⟩ := hf
  dsimp only at hK1 hK2
  refine ⟨K1 + K2 + 1, fun k hk => ?_⟩
  obtain ⟨k, rfl⟩ : ∃ m, k = m + 1 := ⟨k - 1, by omega⟩
  simp only [copselaw15_ConeFresh.l4]
  rw [if_neg (by omega), hK1 k (by omega), Option.bind_some, hK2 k (by omega), Option.bind_some]
 | succ d ih =>
  intro i hd hi
  obtain ⟨K, hK⟩ := ih (i + 1) (by omega) (by omega)
  dsimp only at hK
  have e1 := hx _ (rdF_mem x i (by omega))
  have e2 := hy _ (rdF_mem y i (by omega))
  refine ⟨K + 1, fun k hk => ?_⟩
  obtain ⟨k, rfl⟩ : ∃ m, k = m + 1 := ⟨k - 1, by omega⟩
  simp only [copselaw15_ConeFresh.l4]
  rw [if_pos (by omega), if_pos (by omega), e1, if_pos h49, if_pos (by omega), e2, if_pos h50, wrap_succ (n := x.length) (by omega) (by omega)]
  exact hK k (by omega)
theorem coneF_l3 (x : List S36) (hxl : x.length ≤ 4294967296) (hx : ∀ a ∈ x, a.f0 = ⟨#[49]⟩) (d : Nat) : ∀ (y : List S36) (i : Nat), 30 - i = d → i ≤ 30 → y.length + (30 - i) = x.length → (∀ a ∈ y, a.f0 = ⟨#[50]⟩) →
  Ev (fun k => copselaw15_ConeFresh.l3 k l H V x y (i : Int)) true := by
 induction d with
 | zero =>
  intro y i hd hi hy hm
  obtain ⟨K, hK⟩ := coneF_l4 hv hf x y hxl (by omega) hx hm x.length 0 (by omega) (by omega)
  dsimp only at hK
  refine ⟨K + 1, fun k hk => ?_⟩
  obtain ⟨k, rfl⟩ : ∃ m, k = m + 1 := ⟨k - 1, by omega⟩
  simp only [copselaw15_ConeFresh.l3]
  rw [if_neg (by omega)]
  exact hK k (by omega)
 | succ d ih =>
  intro y i hd hi hy hm
  obtain ⟨K, hK⟩ := ih (y ++ [(⟨(⟨#[50]⟩ : ByteArray), (⟨#[]⟩ : ByteArray), 0, 0⟩ : S36)]) (i + 1) (by omega) (by omega) (by simp; omega) (fun a ha => by
   rcases List.mem_append.1 ha with h | h
   ·exact hm a h
   ·rw [List.mem_singleton.1 h])
  dsimp only at hK
  refine ⟨K + 1, fun k hk => ?_⟩
  obtain ⟨k, rfl⟩ : ∃ m, k = m + 1 := ⟨k - 1, by omega⟩
  simp only [copselaw15_ConeFresh.l3]
  rw [if_pos (by omega), if_pos (by omega), wrap_succ (n := 30) (by omega) (by omega)]
  exact hK k (by omega)
theorem coneF_l2 (y : List S36) (hyl : y.length ≤ 4294967000) (hy : ∀ a ∈ y, a.f0 = ⟨#[50]⟩) (d : Nat) : ∀ (x : List S36) (i : Nat), 30 - i = d → i ≤ 30 → x.length = y.length + i → (∀ a ∈ x, a.f0 = ⟨#[49]⟩) →
  Ev (fun k => copselaw15_ConeFresh.l2 k l H V x y (i : Int)) true := by
 induction d with
 | zero =>
  intro x i hd hi hx hm
  obtain ⟨K, hK⟩ := coneF_l3 hv hf x (by omega) hm 30 y 0 (by omega) (by omega) (by omega) hy
  dsimp only at hK
  refine ⟨K + 1, fun k hk => ?_⟩
  obtain ⟨k, rfl⟩ : ∃ m, k = m + 1 := ⟨k - 1, by omega⟩
  simp only [copselaw15_ConeFresh.l2]
  rw [if_neg (by omega)]
  exact hK k (by omega)
 | succ d ih =>
  intro x i hd hi hx hm
  obtain ⟨K, hK⟩ := ih (x ++ [(⟨(⟨#[49]⟩ : ByteArray), (⟨#[]⟩ : ByteArray), 0, 0⟩ : S36)]) (i + 1) (by omega) (by omega) (by simp; omega) (fun a ha => by
   rcases List.mem_append.1 ha with h | h
   ·exact hm a h
   ·rw [List.mem_singleton.1 h])
  dsimp only at hK
  refine ⟨K + 1, fun k hk => ?_⟩
  obtain ⟨k, rfl⟩ : ∃ m, k = m + 1 := ⟨k - 1, by omega⟩
  simp only [copselaw15_ConeFresh.l2]
  rw [if_pos (by omega), if_pos (by omega), wrap_succ (n := 30) (by omega) (by omega)]
  exact hK k (by omega)
theorem coneF_l1 (x : List S36) (hx : ∀ a ∈ x, a.f0 = ⟨#[49]⟩) (hxl : x.length ≤ 4294967000) (d : Nat) : ∀ (y : List S36) (i : Nat), y.length - i = d → i ≤ y.length → y.length = x.length → (∀ q a, q < i → y[q]? = some a → a.f0 = ⟨#[50]⟩) →
  Ev (fun k => copselaw15_ConeFresh.l1 k l H x y V (i : Int)) true := by
 induction d with
 | zero =>
  intro y i hd hi hy hm
  obtain ⟨K, hK⟩ := coneF_l2 hv hf y (by omega) (fun a ha => by
   obtain ⟨q, hq, rfl⟩ := List.getElem_of_mem ha
   exact hm q _ (by omega) (List.getElem?_eq_getElem hq)) 30 x 0 (by omega) (by omega) (by omega) hx
  dsimp only at hK
  refine ⟨K + 1, fun k hk => ?_⟩
  obtain ⟨k, rfl⟩ : ∃ m, k = m + 1 := ⟨k - 1, by omega⟩
  simp only [copselaw15_ConeFresh.l1]
  rw [if_neg (by omega)]
  exact hK k (by omega)
 | succ d ih =>
  intro y i hd hi hy hm
  obtain ⟨K, hK⟩ := ih (y.set i (⟨(⟨#[50]⟩ : ByteArray), (⟨#[]⟩ : ByteArray), 0, 0⟩ : S36)) (i + 1) (by simp; omega) (by simp; omega) (by simpa using hy) (marks_set hm _ rfl)
  dsimp only at hK
  refine ⟨K + 1, fun k hk => ?_⟩
  obtain ⟨k, rfl⟩ : ∃ m, k = m + 1 := ⟨k - 1, by omega⟩
  simp only [copselaw15_ConeFresh.l1]
  rw [if_pos (by omega), if_pos (by omega), wrap_succ (n := y.length) (by omega) (by omega), Int.toNat_natCast]
  exact hK k (by omega)
theorem coneF_l0 (hVl : V.length ≤ 4294967000) (d : Nat) : ∀ (x : List S36) (i : Nat), x.length - i = d → i ≤ x.length → x.length = V.length → (∀ q a, q < i → x[q]? = some a → a.f0 = ⟨#[49]⟩) →
  Ev (fun k => copselaw15_ConeFresh.l0 k l H x V V (i : Int)) true := by
 induction d with
 | zero =>
  intro x i hd hi hx hm
  obtain ⟨K, hK⟩ := coneF_l1 hv hf x (fun a ha => by
   obtain ⟨q, hq, rfl⟩ := List.getElem_of_mem ha
   exact hm q _ (by omega) (List.getElem?_eq_getElem hq)) (by omega) V.length V 0 (by omega) (by omega) (by omega) (fun q a hq => absurd hq (by omega))
  dsimp only at hK
  refine ⟨K + 1, fun k hk => ?_⟩
  obtain ⟨k, rfl⟩ : ∃ m, k = m + 1 := ⟨k - 1, by omega⟩
  simp only [copselaw15_ConeFresh.l0]
  rw [if_neg (by omega)]
  exact hK k (by omega)
 | succ d ih =>
  intro x i hd hi hx hm
  obtain ⟨K, hK⟩ := ih (x.set i (⟨(⟨#[49]⟩ : ByteArray), (⟨#[]⟩ : ByteArray), 0, 0⟩ : S36)) (i + 1) (by simp; omega) (by simp; omega) (by simpa using hx) (marks_set hm _ rfl)
  dsimp only at hK
  refine ⟨K + 1, fun k hk => ?_⟩
  obtain ⟨k, rfl⟩ : ∃ m, k = m + 1 := ⟨k - 1, by omega⟩
  simp only [copselaw15_ConeFresh.l0]
  rw [if_pos (by omega), if_pos (by omega), wrap_succ (n := x.length) (by omega) (by omega), Int.toNat_natCast]
  exact hK k (by omega)
end
theorem ConeFresh (l : List S36) (c : List ByteArray) (hl : l.length ≤ 1073741824) (hcl : c.length ≤ 1073741824) (hf : FitsF l) (hfc : Fits c) : ∃ k, copselaw15_ConeFresh.f k l c = some true := by
 refine Ev.rounds (g := fun k => copselaw15_ConeFresh.f k l c) ?_
 have hHl : (heads (dirsL c)).length ≤ 1073741824 := by
  have := heads_length (dirsL c)
  have := dirsL_length c
  omega
 have fH : Fits (heads (dirsL c)) := fits_heads (fits_dirs hfc)
 have v1 := cover_ev c hcl hfc
 have v2 := cover15_ev c hcl hfc
 generalize heads (dirsL c) = H at *
 have vv := view_ev l H hl hf hHl fH
 have vw := view15_ev l H hl hf hHl fH
 have hvl : (viewV l H).1.length ≤ 4294967000 := by
  unfold viewV
  split
  ·split
   ·have := List.length_filter_le (fun f : S36 => showsB H f.f0) l
    show (l.filter fun f => showsB H f.f0).length ≤ _
    omega
   ·simp
  ·simp
 generalize viewV l H = VV at *
 obtain ⟨V, e⟩ := VV
 replace hvl : V.length ≤ 4294967000 := hvl
 have fv := filesC_same V (by omega)
 have th := textsC_same H (by omega)
 have h0 := coneF_l0 vv fv hvl V.length V 0 (by omega) (by omega) rfl (fun q a hq => absurd hq (by omega))
 have h1 : Ev (fun k => copselaw15_ConeFresh.j1 k l H V V V (!true)) true := by
  obtain ⟨K, hK⟩ := h0
  dsimp only at hK
  refine ⟨K + 1, fun k hk => ?_⟩
  obtain ⟨k, rfl⟩ : ∃ m, k = m + 1 := ⟨k - 1, by omega⟩
  simp only [copselaw15_ConeFresh.j1, Bool.not_true, Bool.false_eq_true, if_false]
  exact hK k (by omega)
 have h2 : Ev (fun k => copselaw15_ConeFresh.j0 k l H (!true)) true := by
  obtain ⟨K1, hK1⟩ := vv
  obtain ⟨K2, hK2⟩ := vw
  obtain ⟨K3, hK3⟩ := fv
  obtain ⟨K4, hK4⟩ := h1
  dsimp only at hK1 hK2 hK3 hK4
  refine ⟨K1 + K2 + K3 + K4 + 1, fun k hk => ?_⟩
  obtain ⟨k, rfl⟩ : ∃ m, k = m + 1 := ⟨k - 1, by omega⟩
  simp only [copselaw15_ConeFresh.j0, Bool.not_true, Bool.false_eq_true, if_false]
  rw [hK1 k (by omega), Option.bind_some, Option.bind_some, hK2 k (by omega), Option.bind_some, hK3 k (by omega), Option.bind_some, if_pos rfl, Option.bind_some]
  exact hK4 k (by omega)
 obtain ⟨K1, hK1⟩ := v1
 obtain ⟨K2, hK2⟩ := v2
 obtain ⟨K3, hK3⟩ := aliveF_ev
 obtain ⟨K4, hK4⟩ := th
 obtain ⟨K5, hK5⟩ := h2
 dsimp only at hK1 hK2 hK3 hK4 hK5
 have ap : copselaw15_apart.f [H, H] [H, H] = some true := by
  unfold copselaw15_apart.f
  rw [if_pos ⟨rfl, rfl, fun x hx => by
   rcases List.mem_cons.1 hx with rfl | hx
   ·omega
   ·rw [List.mem_singleton.1 hx]; omega⟩]
 refine ⟨K1 + K2 + K3 + K4 + K5, fun k hk => ?_⟩
 unfold copselaw15_ConeFresh.f
 dsimp only
 rw [hK1 k (by omega), Option.bind_some, Option.bind_some, hK2 k (by omega), Option.bind_some, hK3 k (by omega), Option.bind_some, if_pos rfl, ap, Option.bind_some, if_pos rfl, Option.bind_some, hK4 k (by omega), Option.bind_some]
 exact hK5 k (by omega)
end Go.Proofs.YtdfkaclflmgkeaaGreatDoor.PAll
