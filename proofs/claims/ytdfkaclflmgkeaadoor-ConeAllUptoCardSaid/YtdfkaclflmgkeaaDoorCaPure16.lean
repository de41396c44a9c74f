/- The document's cones, views and covers; lists lent and copied: plain Lean. -/
import Derived.Test.YtdfkaclflmgkeaaDoorCaPAllx0
import Derived.Test.YtdfkaclflmgkeaaDoorCaPAlly3
import Derived.Test.YtdfkaclflmgkeaaDoorCaPAlly10
import Derived.Test.YtdfkaclflmgkeaaDoorCaPAlly5
import Derived.Test.YtdfkaclflmgkeaaDoorCaPAlly8
import Derived.Test.YtdfkaclflmgkeaaDoorCaPAlly24
import Derived.Test.YtdfkaclflmgkeaaDoorCaPure5
import Derived.Test.YtdfkaclflmgkeaaDoorCaFreshW
import Derived.Test.YtdfkaclflmgkeaaDoorCaPAlly7
import Derived.WalkKit
import Derived.BigQuiet
import Derived.Deep.QuietTactic
import Derived.Deep.RegionHeld3
import Derived.Outline
namespace Go.Proofs.YtdfkaclflmgkeaaDoor.PAll
open Go.RowKit Go.Proofs.YtdfkaclflmgkeaaDoorW.PrintWords Go.Proofs.YtdfkaclflmgkeaaDoorW.PrintLast Go.Proofs.YtdfkaclflmgkeaaDoorW.PrintMore
open Go.Proofs.YtdfkaclflmgkeaaDoor.Sp
theorem shows15_run (c : List ByteArray) (D : ByteArray) (hc : c.length ≤ 1073741824) (hf : Fits c) (hD : D.size ≤ 1073741824) (d : Nat) : ∀ i, c.length - i = d → i ≤ c.length → Ev (fun k => copseref15_Shows.l0 k c D (i : Int)) ((c.drop i).any (nearB D)) := by
 induction d with
 | zero =>
  intro i hd hi
  refine ⟨1, fun k hk => ?_⟩
  obtain ⟨k, rfl⟩ : ∃ m, k = m + 1 := ⟨k - 1, by omega⟩
  simp only [copseref15_Shows.l0]
  rw [if_neg (by omega), List.drop_of_length_le (by omega)]; rfl
 | succ d ih =>
  intro i hd hi
  have hz := hf.at_ (show i < c.length by omega)
  have ew : wrap64 ((i : Int) + 1) = ((i + 1 : Nat) : Int) := wrap_succ (n := c.length) (by omega) (by omega)
  obtain ⟨K, hK⟩ := ih (i + 1) (by omega) (by omega)
  rw [rdOf_drop c i (by omega), List.any_cons]
  generalize hX : rdOf ByteArray.empty c (i : Int) = x at hz ⊢
  obtain ⟨K1, hK1⟩ := ref_above x D (by omega) (by omega)
  obtain ⟨K2, hK2⟩ := ref_above D x (by omega) (by omega)
  dsimp only at hK hK1 hK2
  refine ⟨max K (max K1 K2) + 1, fun k hk => ?_⟩
  obtain ⟨k, rfl⟩ : ∃ m, k = m + 1 := ⟨k - 1, by omega⟩
  simp only [copseref15_Shows.l0]
  rw [if_pos (by omega), if_pos (by omega), hX, hK1 k (by omega), Option.bind_some, hK2 k (by omega), Option.bind_some, ew, hK k (by omega)]
  unfold nearB
  by_cases e : x = D
  ·subst e; simp
  ·rw [if_neg (fun h => e (bs_inj (by rw [← toList_bs, ← toList_bs]; exact h.symm)))]
   cases aboveB x D <;> cases aboveB D x <;> simp [e]
theorem shows15_ev (c : List ByteArray) (p : ByteArray) (hc : c.length ≤ 1073741824) (hf : Fits c) (hp : p.size ≤ 1073741824) : Ev (fun n => copseref15_Shows.f n c p) (showsB c p) := by
 have hz := dirB_size p
 refine Ev.bind (ref_dir p (by omega)) ?_
 unfold showsB
 simp only [toList_bs]
 by_cases h : bs (dirB p) = []
 ·simp only [if_pos h]; exact Ev.val (ev_some true) (by simp [h])
 ·simp only [if_neg h]; exact Ev.val (shows15_run c (dirB p) hc hf (by omega) _ 0 rfl (by omega)) (by simp [h])
def ApartTo (x : List ByteArray) (i : Nat) : Prop := ∀ a b : Nat, a < b → b < i → Apart2 (rdOf ByteArray.empty x (a : Int)) (rdOf ByteArray.empty x (b : Int))
theorem rd_get (x : List ByteArray) (a : Nat) (h : a < x.length) : rdOf ByteArray.empty x (a : Int) = x[a] := by
 simp [rdOf, List.getD_eq_getElem?_getD, List.getElem?_eq_getElem h]
theorem cone_places (x : List ByteArray) : coneR none x = true ↔ (∀ a : Nat, a < x.length → validB (rdOf ByteArray.empty x (a : Int)) = true) ∧ ApartTo x x.length := by
 rw [cone_all, List.pairwise_iff_getElem]
 constructor
 ·rintro ⟨h1, h2⟩
  refine ⟨fun a ha => h1 _ (rd_mem x a ha), fun a b hab hb => ?_⟩
  rw [rd_get x a (by omega), rd_get x b hb]
  exact h2 a b (by omega) hb hab
 ·rintro ⟨h1, h2⟩
  refine ⟨fun y hy => ?_, fun a b ha hb hab => ?_⟩
  ·obtain ⟨a, ha, rfl⟩ := List.mem_iff_getElem.1 hy
   rw [← rd_get x a ha]; exact h1 a ha
  ·rw [← rd_get x a ha, ← rd_get x b hb]; exact h2 a b hab hb
theorem valid15_l1 (x : List ByteArray) (hx : x.length ≤ 1073741824) (hf : Fits x) (i : Nat) (hi : i < x.length) (hv : ∀ a : Nat, a ≤ i → validB (rdOf ByteArray.empty x (a : Int)) = true) (hp : ApartTo x i)
  (next : ApartTo x (i + 1) → Ev (fun k => copseref15_Valid.l0 k x ((i + 1 : Nat) : Int)) (if coneR none x = true then 0 else 13)) (d : Nat) :
  ∀ j : Nat, i - j = d → j ≤ i → (∀ a : Nat, a < j → Apart2 (rdOf ByteArray.empty x (a : Int)) (rdOf ByteArray.empty x (i : Int))) → Ev (fun k => copseref15_Valid.l1 k x (i : Int) (j : Int)) (if coneR none x = true then 0 else 13) := by
 have ew : wrap64 ((i : Int) + 1) = ((i + 1 : Nat) : Int) := wrap_succ (n := x.length) (by omega) (by omega)
 have hzi := hf.at_ hi
 induction d with
 | zero =>
  intro j hd hj hjs
  obtain ⟨K, hK⟩ := next (fun a b hab hb => by
   by_cases c : b = i
   ·subst c; exact hjs a (by omega)
   ·exact hp a b hab (by omega))
  dsimp only at hK
  refine ⟨K + 1, fun k hk => ?_⟩
  obtain ⟨k, rfl⟩ : ∃ m, k = m + 1 := ⟨k - 1, by omega⟩
  simp only [copseref15_Valid.l1]
  rw [if_neg (by omega), ew]
  exact hK k (by omega)
 | succ d ih =>
  intro j hd hj hjs
  have hz := hf.at_ (show j < x.length by omega)
  obtain ⟨K1, hK1⟩ := ref_cmp (rdOf ByteArray.empty x (j : Int)) (rdOf ByteArray.empty x (i : Int)) (by omega) (by omega)
  obtain ⟨K2, hK2⟩ := ref_above (rdOf ByteArray.empty x (j : Int)) (rdOf ByteArray.empty x (i : Int)) (by omega) (by omega)
  dsimp only at hK1 hK2
  have ew2 : wrap64 ((j : Int) + 1) = ((j + 1 : Nat) : Int) := wrap_succ (n := x.length) (by omega) (by omega)
  by_cases q : Apart2 (rdOf ByteArray.empty x (j : Int)) (rdOf ByteArray.empty x (i : Int))
  ·obtain ⟨K, hK⟩ := ih (j + 1) (by omega) (by omega) (fun a ha => by
    by_cases c : a = j
    ·subst c; exact q
    ·exact hjs a (by omega))
   dsimp only at hK
   refine ⟨max K (max K1 K2) + 1, fun k hk => ?_⟩
   obtain ⟨k, rfl⟩ : ∃ m, k = m + 1 := ⟨k - 1, by omega⟩
   have q1 := q.1
   simp only [copseref15_Valid.l1]
   rw [if_pos (by omega), if_pos (by omega), if_pos (by omega), if_pos (by omega), if_pos (by omega), hK1 k (by omega), Option.bind_some, if_neg (by omega), hK2 k (by omega), Option.bind_some, q.2, if_neg (by simp), ew2]
   exact hK k (by omega)
  ·have hbad : ¬ coneR none x = true := fun h => q (((cone_places x).1 h).2 j i (by omega) hi)
   rw [if_neg hbad]
   refine ⟨max K1 K2 + 1, fun k hk => ?_⟩
   obtain ⟨k, rfl⟩ : ∃ m, k = m + 1 := ⟨k - 1, by omega⟩
   simp only [copseref15_Valid.l1]
   rw [if_pos (by omega), if_pos (by omega), if_pos (by omega), if_pos (by omega), if_pos (by omega), hK1 k (by omega), Option.bind_some, hK2 k (by omega), Option.bind_some]
   by_cases c1 : cB (rdOf ByteArray.empty x (j : Int)) (rdOf ByteArray.empty x (i : Int)) < 0
   ·rw [if_neg (by omega)]
    cases c2 : aboveB (rdOf ByteArray.empty x (j : Int)) (rdOf ByteArray.empty x (i : Int)) with
    | true => rw [if_pos rfl]
    | false => exact absurd ⟨c1, c2⟩ q
   ·rw [if_pos (by omega)]
theorem valid15_l0 (x : List ByteArray) (hx : x.length ≤ 1073741824) (hf : Fits x) (d : Nat) : ∀ i : Nat, x.length - i = d → i ≤ x.length → (∀ a : Nat, a < i → validB (rdOf ByteArray.empty x (a : Int)) = true) → ApartTo x i → Ev (fun k => copseref15_Valid.l0 k x (i : Int)) (if coneR none x = true then 0 else 13) := by
 induction d with
 | zero =>
  intro i hd hi hv hp
  have e : i = x.length := by omega
  subst e
  rw [if_pos ((cone_places x).2 ⟨hv, hp⟩)]
  refine ⟨1, fun k hk => ?_⟩
  obtain ⟨k, rfl⟩ : ∃ m, k = m + 1 := ⟨k - 1, by omega⟩
  simp only [copseref15_Valid.l0]
  rw [if_neg (by omega)]
 | succ d ih =>
  intro i hd hi hv hp
  have hz := hf.at_ (show i < x.length by omega)
  obtain ⟨K1, hK1⟩ := ref_valid (rdOf ByteArray.empty x (i : Int)) (by omega)
  dsimp only at hK1
  cases v : validB (rdOf ByteArray.empty x (i : Int)) with
  | false =>
   have hbad : ¬ coneR none x = true := fun h => by rw [((cone_places x).1 h).1 i (by omega)] at v; cases v
   rw [if_neg hbad]
   rw [v] at hK1
   refine ⟨K1 + 1, fun k hk => ?_⟩
   obtain ⟨k, rfl⟩ : ∃ m, k = m + 1 := ⟨k - 1, by omega⟩
   simp only [copseref15_Valid.l0]
   rw [if_pos (by omega), if_pos (by omega), hK1 k (by omega), Option.bind_some, if_neg (by simp)]
  | true =>
   rw [v] at hK1
   have hv' : ∀ a : Nat, a ≤ i → validB (rdOf ByteArray.empty x (a : Int)) = true := fun a ha => by
    by_cases c : a = i
    ·subst c; exact v
    ·exact hv a (by omega)
   obtain ⟨K, hK⟩ := valid15_l1 x hx hf i (by omega) hv' hp (fun h => ih (i + 1) (by omega) (by omega) (fun a ha => hv' a (by omega)) h) _ 0 rfl (by omega) (fun a ha => absurd ha (by omega))
   dsimp only at hK
   refine ⟨max K K1 + 1, fun k hk => ?_⟩
   obtain ⟨k, rfl⟩ : ∃ m, k = m + 1 := ⟨k - 1, by omega⟩
   simp only [copseref15_Valid.l0]
   rw [if_pos (by omega), if_pos (by omega), hK1 k (by omega), Option.bind_some, if_pos rfl]
   exact hK k (by omega)
theorem valid15_ev (x : List ByteArray) (hx : x.length ≤ 1073741824) (hf : Fits x) : Ev (fun k => copseref15_Valid.f k x) (if coneR none x = true then 0 else 13) :=
 valid15_l0 x hx hf _ 0 rfl (by omega) (fun a ha => absurd ha (by omega)) (fun a b _ hb => absurd hb (by omega))
theorem view15_run (x : List S48) (c : List ByteArray) (hx : x.length ≤ 1073741824) (hf : FitsF x) (hcl : c.length ≤ 1073741824) (hc : Fits c) (d : Nat) : ∀ (i : Nat) (acc : List S48), x.length - i = d → i ≤ x.length → acc.length ≤ i →
  Ev (fun k => copseref15_View.l0 k x c acc (i : Int)) (acc ++ (x.drop i).filter (fun f => showsB c f.f0), 0) := by
 induction d with
 | zero =>
  intro i acc hd hi ha
  refine ⟨1, fun k hk => ?_⟩
  obtain ⟨k, rfl⟩ : ∃ m, k = m + 1 := ⟨k - 1, by omega⟩
  simp only [copseref15_View.l0]
  rw [if_neg (by omega), List.drop_of_length_le (by omega)]; simp
 | succ d ih =>
  intro i acc hd hi ha
  have hm := rdF_mem x i (by omega)
  obtain ⟨K1, hK1⟩ := shows15_ev c (rd_T48 x (i : Int)).f0 hcl hc (hf _ hm).1
  rw [rdF_drop x i (by omega)]
  dsimp only at hK1
  cases e : showsB c (rd_T48 x (i : Int)).f0 with
  | true =>
   rw [e] at hK1
   obtain ⟨K, hK⟩ := ih (i + 1) (acc ++ [rd_T48 x (i : Int)]) (by omega) (by omega) (by simp; omega)
   dsimp only at hK
   refine ⟨max K K1 + 1, fun k hk => ?_⟩
   obtain ⟨k, rfl⟩ : ∃ m, k = m + 1 := ⟨k - 1, by omega⟩
   simp only [copseref15_View.l0]
   rw [if_pos (by omega), if_pos (by omega), hK1 k (by omega), Option.bind_some, if_pos rfl, if_pos (by omega), wrap_succ (n := x.length) (by omega) (by omega)]
   refine (hK k (by omega)).trans ?_
   simp [e]
  | false =>
   rw [e] at hK1
   obtain ⟨K, hK⟩ := ih (i + 1) acc (by omega) (by omega) (by omega)
   dsimp only at hK
   refine ⟨max K K1 + 1, fun k hk => ?_⟩
   obtain ⟨k, rfl⟩ : ∃ m, k = m + 1 := ⟨k - 1, by omega⟩
   simp only [copseref15_View.l0]
   rw [if_pos (by omega), if_pos (by omega), hK1 k (by omega), Option.bind_some, if_neg (by simp), wrap_succ (n := x.length) (by omega) (by omega)]
   refine (hK k (by omega)).trans ?_
   simp [e]
theorem view15_ev (x : List S48) (c : List ByteArray) (hx : x.length ≤ 1073741824) (hf : FitsF x) (hcl : c.length ≤ 1073741824) (hc : Fits c) : Ev (fun k => copseref15_View.f k x c) (viewV x c) := by
 refine Ev.bind (snap13_ev x hx hf) ?_
 unfold viewV
 by_cases h : snapV x = 0
 ·simp only [h, if_true]
  refine Ev.bind (valid15_ev c hcl hc) ?_
  cases e : coneR none c with
  | true => simp only [if_true]; exact Ev.val (view15_run x c hx hf hcl hc _ 0 [] rfl (by omega) (by simp)) (by simp)
  | false => simp only [Bool.false_eq_true, if_false, show ¬ (13 : Int) = 0 by decide]; exact ev_some _
 ·simp only [if_neg h]; exact ev_some _
theorem heads_congr {l m : List ByteArray} (h : ∀ z, z ∈ l ↔ z ∈ m) : heads l = heads m := by
 refine rises_uniq _ _ (rises_heads l) (rises_heads m) fun z => ?_
 rw [mem_heads, mem_heads, h z]
 exact and_congr_right fun _ => ⟨fun q y hy => q y ((h y).2 hy), fun q y hy => q y ((h y).1 hy)⟩
theorem cover15_ev (l : List ByteArray) (hl : l.length ≤ 1073741824) (hf : Fits l) : Ev (fun k => copseref15_Cover.f k l) (heads (dirsL l)) := by
 have hn := norm_length_le (l.map dirB)
 rw [List.length_map] at hn
 have fd : Fits (norm (l.map dirB)) := fun p hp => by
  obtain ⟨q, hq, rfl⟩ := List.mem_map.1 (mem_norm.1 hp)
  have := dirB_size q; have := hf q hq; omega
 have hn2 : (norm ((norm (l.map dirB)).filter fun x => decide (x ∈ [(⟨#[]⟩ : ByteArray)]) == false)).length ≤ l.length := Nat.le_trans (Nat.le_trans (norm_length_le _) (List.length_filter_le _ _)) hn
 refine Ev.bind (ref_dirs l hl hf) (Ev.bind (ref_minus _ [(⟨#[]⟩ : ByteArray)] (by omega) (by simp) fd) (Ev.bind (Ev.val (ref_heads _ (by omega) (fits_norm fun p hp => fd p (List.mem_filter.1 hp).1)) ?_) (ev_some _)))
 refine heads_congr fun z => ?_
 rw [mem_norm, List.mem_filter, mem_norm, mem_dirsL, List.mem_map]
 simp only [List.mem_singleton, beq_iff_eq, decide_eq_false_iff_not]
 constructor
 ·rintro ⟨h1, h2⟩; exact ⟨fun e => h2 (bs_inj e), h1⟩
 ·rintro ⟨h1, h2⟩; exact ⟨h2, fun e => h1 (by rw [e]; rfl)⟩
end Go.Proofs.YtdfkaclflmgkeaaDoor.PAll
namespace Go.Proofs.YtdfkaclflmgkeaaDoor.PAll
open Go.RowKit Go.Proofs.YtdfkaclflmgkeaaDoorW.PrintWords Go.Proofs.YtdfkaclflmgkeaaDoorW.PrintLast Go.Proofs.YtdfkaclflmgkeaaDoorW.PrintMore
open Go.Proofs.YtdfkaclflmgkeaaDoor.Sp
theorem textsC_run (l : List ByteArray) (hl : l.length ≤ 4294967296) (d : Nat) : ∀ i, l.length - i = d → i ≤ l.length → Ev (fun k => copselaw15_texts.l0 k l l (i : Int)) true := by
 induction d with
 | zero =>
  intro i hd hi
  refine ⟨1, fun k hk => ?_⟩
  obtain ⟨k, rfl⟩ : ∃ m, k = m + 1 := ⟨k - 1, by omega⟩
  simp only [copselaw15_texts.l0]
  rw [if_neg (by omega)]
 | succ d ih =>
  intro i hd hi
  obtain ⟨K, hK⟩ := ih (i + 1) (by omega) (by omega)
  dsimp only at hK
  refine ⟨K + 1, fun k hk => ?_⟩
  obtain ⟨k, rfl⟩ : ∃ m, k = m + 1 := ⟨k - 1, by omega⟩
  simp only [copselaw15_texts.l0]
  rw [if_pos (by omega), if_pos (by omega), if_pos (by omega), if_true, wrap_succ (n := l.length) (by omega) (by omega)]
  exact hK k (by omega)
theorem textsC_same (l : List ByteArray) (hl : l.length ≤ 4294967296) : Ev (fun k => copselaw15_texts.f k l l) true := by
 refine Ev.congr (fun k => ?_) (textsC_run l hl l.length 0 (by omega) (by omega))
 unfold copselaw15_texts.f
 rw [if_pos rfl]; rfl
theorem lentC1_run (l : List ByteArray) (hl : l.length ≤ 4294967296) (d : Nat) : ∀ (x : List ByteArray) (i : Nat), x.length = l.length + 30 → x.length - i = d → l.length ≤ i → i ≤ x.length → (∀ j, j < l.length → x[j]? = l[j]?) →
  ∃ r, Ev (fun k => copselaw15_lent.l1 k x (i : Int)) r ∧ r.length = l.length + 30 ∧ ∀ j, j < l.length → r[j]? = l[j]? := by
 induction d with
 | zero =>
  intro x i h1 h2 h3 h4 h5
  refine ⟨x, ⟨1, fun k hk => ?_⟩, h1, h5⟩
  obtain ⟨k, rfl⟩ : ∃ m, k = m + 1 := ⟨k - 1, by omega⟩
  simp only [copselaw15_lent.l1]
  rw [if_neg (by omega)]
 | succ d ih =>
  intro x i h1 h2 h3 h4 h5
  obtain ⟨r, ⟨K, hK⟩, h6, h7⟩ := ih (x.set i (⟨#[63]⟩ : ByteArray)) (i + 1) (by simpa using h1) (by simp; omega) (by omega) (by simp; omega) (fun j hj => by rw [List.getElem?_set_ne (by omega)]; exact h5 j hj)
  dsimp only at hK
  refine ⟨r, ⟨K + 1, fun k hk => ?_⟩, h6, h7⟩
  obtain ⟨k, rfl⟩ : ∃ m, k = m + 1 := ⟨k - 1, by omega⟩
  simp only [copselaw15_lent.l1]
  rw [if_pos (by omega), if_pos (by omega), wrap_succ (n := x.length) (by omega) (by omega), Int.toNat_natCast]
  exact hK k (by omega)
theorem lentC0_run (l : List ByteArray) (hl : l.length ≤ 4294967296) (d : Nat) : ∀ (x : List ByteArray) (i : Nat), x.length = l.length + 30 → l.length - i = d → i ≤ l.length → (∀ j, j < i → x[j]? = l[j]?) →
  ∃ r, Ev (fun k => copselaw15_lent.l0 k l x (i : Int)) r ∧ r.length = l.length + 30 ∧ ∀ j, j < l.length → r[j]? = l[j]? := by
 induction d with
 | zero =>
  intro x i h1 h2 h3 h5
  obtain ⟨r, ⟨K, hK⟩, h6, h7⟩ := lentC1_run l hl (x.length - l.length) x l.length h1 rfl (Nat.le_refl _) (by omega) (fun j hj => h5 j (by omega))
  dsimp only at hK
  refine ⟨r, ⟨K + 1, fun k hk => ?_⟩, h6, h7⟩
  obtain ⟨k, rfl⟩ : ∃ m, k = m + 1 := ⟨k - 1, by omega⟩
  simp only [copselaw15_lent.l0]
  rw [if_neg (by omega)]
  exact hK k (by omega)
 | succ d ih =>
  intro x i h1 h2 h3 h5
  obtain ⟨r, ⟨K, hK⟩, h6, h7⟩ := ih (x.set i (rdOf ByteArray.empty l (i : Int))) (i + 1) (by simpa using h1) (by omega) (by omega) (fun j hj => by
   by_cases e : j = i
   ·subst e
    rw [List.getElem?_set_self (by omega), rdOf_getD, List.getD_eq_getElem?_getD, List.getElem?_eq_getElem (by omega)]; rfl
   ·rw [List.getElem?_set_ne (by omega)]; exact h5 j (by omega))
  dsimp only at hK
  refine ⟨r, ⟨K + 1, fun k hk => ?_⟩, h6, h7⟩
  obtain ⟨k, rfl⟩ : ∃ m, k = m + 1 := ⟨k - 1, by omega⟩
  simp only [copselaw15_lent.l0]
  rw [if_pos (by omega), if_pos (by omega), if_pos (by omega), wrap_succ (n := l.length) (by omega) (by omega), Int.toNat_natCast]
  exact hK k (by omega)
theorem lentC_ev (l : List ByteArray) (hl : l.length ≤ 4294967296) : ∃ r, Ev (fun k => copselaw15_lent.f k l) r ∧ r.length = l.length + 30 ∧ r.take l.length = l := by
 obtain ⟨r, h, h1, h2⟩ := lentC0_run l hl l.length (List.replicate (l.length + 30) (⟨#[]⟩ : ByteArray)) 0 (by simp) (by omega) (by omega) (by simp)
 refine ⟨r, Ev.congr (fun k => ?_) h, h1, ?_⟩
 ·unfold copselaw15_lent.f
  rw [wrap_add (by omega) (by omega), if_pos (by omega), if_pos (by omega), show ((l.length : Int) + 30).toNat = l.length + 30 by omega]; rfl
 ·apply List.ext_getElem?
  intro j
  rw [List.getElem?_take]
  by_cases hj : j < l.length
  ·rw [if_pos hj, h2 j hj]
  ·rw [if_neg hj, List.getElem?_eq_none (by omega)]
theorem copied_run (d : Nat) : ∀ (x : List S48) (i : Nat), x.length ≤ 4294967296 + i → 20 - i = d → i ≤ 20 → ∃ t, Ev (fun k => copselaw15_copied.l0 k x (i : Int)) (x ++ t) ∧ t.length = 20 - i := by
 induction d with
 | zero =>
  intro x i h1 h2 h3
  refine ⟨[], ⟨1, fun k hk => ?_⟩, by simp; omega⟩
  obtain ⟨k, rfl⟩ : ∃ m, k = m + 1 := ⟨k - 1, by omega⟩
  simp only [copselaw15_copied.l0]
  rw [if_neg (by omega), List.append_nil]
 | succ d ih =>
  intro x i h1 h2 h3
  obtain ⟨t, ⟨K, hK⟩, h6⟩ := ih (x ++ [(⟨(⟨#[63]⟩ : ByteArray), (⟨#[]⟩ : ByteArray), (i : Int), 0⟩ : S48)]) (i + 1) (by simp; omega) (by omega) (by omega)
  dsimp only at hK
  refine ⟨(⟨(⟨#[63]⟩ : ByteArray), (⟨#[]⟩ : ByteArray), (i : Int), 0⟩ : S48) :: t, ⟨K + 1, fun k hk => ?_⟩, by simp; omega⟩
  obtain ⟨k, rfl⟩ : ∃ m, k = m + 1 := ⟨k - 1, by omega⟩
  simp only [copselaw15_copied.l0]
  rw [if_pos (by omega), if_pos (by omega), wrap_succ (n := 20) (by omega) (by omega), hK k (by omega), List.append_assoc]; rfl
theorem copied_ev (l : List S48) (hl : l.length ≤ 1073741824) : ∃ r, Ev (fun k => copselaw15_copied.f k l) r ∧ r.length = l.length + 20 ∧ r.take l.length = l := by
 obtain ⟨t, h, h1⟩ := copied_run 20 l 0 (by omega) (by omega) (by omega)
 refine ⟨l ++ t, Ev.congr (fun k => ?_) h, by simp [h1], by simp⟩
 unfold copselaw15_copied.f
 rw [if_pos (by simp only [List.length_nil]; omega), List.nil_append]; rfl
end Go.Proofs.YtdfkaclflmgkeaaDoor.PAll
namespace Go.Proofs.YtdfkaclflmgkeaaDoor.PAll
set_option linter.unusedSimpArgs false
open Go.RowKit Go.Proofs.YtdfkaclflmgkeaaDoorW.PrintWords Go.Proofs.YtdfkaclflmgkeaaDoorW.PrintLast Go.Proofs.YtdfkaclflmgkeaaDoorW.PrintMore
open Go.Proofs.YtdfkaclflmgkeaaDoor.Sp
theorem R_block {α : Type} {d : Kd α} {e : TypeId} {w : World} {base : Nat} {ok : Nat → Prop} {A : Option Addr} {n cap : Nat} {xs : List α} (h : d.R e w base ok (.slice A n cap) xs) (hp : 0 < xs.length) :
  ∃ g, A = some ⟨g, 0, none⟩ ∧ base ≤ g ∧ g < w.heap.size ∧ w.ownsRow 0 e d.sz (.slice (some ⟨g, 0, none⟩) 0 cap) 0 [] ∧ n = xs.length ∧ xs.length ≤ cap := by
 obtain ⟨inner, ho⟩ := Kd.R_own h
 have ho' := ho
 rcases ho.2 with ⟨he, h0⟩ | ⟨g, cap', cur, he, hb, hh, h3, h4, h5, h6⟩
 ·omega
 ·obtain ⟨rfl, rfl, rfl⟩ : A = some ⟨g, 0, none⟩ ∧ n = xs.length ∧ cap = cap' := by injection he with h1 h2 h3; exact ⟨h1, h2, h3⟩
  refine ⟨g, rfl, hb, (Array.getElem?_eq_some_iff.1 hh).1, ⟨by simp, .inr ⟨g, _, cur, rfl, Nat.zero_le _, hh, Nat.zero_le _, h4, h5, by simp⟩⟩, rfl, h3⟩
abbrev Shp (e sz : Nat) (w : World) (g n : Nat) : Prop := w.ownsRow 0 e sz (.slice (some ⟨g, 0, none⟩) 0 n) 0 []
theorem Shp.at_ {e sz : Nat} {w : World} {g n : Nat} (h : Shp e sz w g n) (j : Nat) (hj : j < n * sz) : (∃ v, w.cell? ⟨g, j, none⟩ = some v) ∧ w.frozen? ⟨g, j, none⟩ = false := by
 rcases h.2 with ⟨h', _⟩ | ⟨g', cap, cur, h', _, hh, _, _, h5, _⟩
 ·cases h'
 ·obtain ⟨rfl, rfl⟩ : g = g' ∧ n = cap := by injection h' with h1 h2 h3; injection h1 with h1; injection h1 with h1; exact ⟨h1, h3⟩
  constructor
  ·exact ⟨cur[j]'(by omega), by simp [World.cell?, hh, show j < cur.size by omega]⟩
  ·simp [World.frozen?, hh]
theorem Shp.set {e sz : Nat} {w : World} {g n : Nat} (h : Shp e sz w g n) (j : Nat) (u : Value) : Shp e sz (w.setCell ⟨g, j, none⟩ u) g n := by
 have := (World.ownsRow.stored h j u).1
 simpa using this
theorem Shp.far {e sz : Nat} {w : World} {g n : Nat} (h : Shp e sz w g n) {g' j : Nat} (u : Value) (hne : g ≠ g') : Shp e sz (w.setCell ⟨g', j, none⟩ u) g n :=
 own_move h fun k hk => Below.heap_setCell w ⟨g', j, none⟩ u k (by have : g = k := Option.some.inj hk; subst this; exact hne)
theorem Shp.below {e sz : Nat} {w w1 : World} {g n : Nat} (h : Shp e sz w g n) (hb : Below w.heap.size w w1) : Shp e sz w1 g n := own_move h fun k hk => hb.block k (own_lt h k hk)
def ConeAllW.T3 : Bool × List (List Nat × List Nat) := (true, [([], []), ([], []), ([1], [1]), ([0, 2], [0, 2]), ([], []), ([], []), ([5], [5]), ([4, 6], [4, 6]), ([3, 7], [3, 7]), ([8], [8]), ([9], [9]), ([9], [9]), ([10, 8, 0, 1, 2, 3, 4, 5, 6, 7, 8, 9, 10], [10]), ([11, 12, 0, 1, 2, 3, 4, 5, 6, 7, 8, 9, 10, 11, 12], [11])])
def ConeAllW.B3 : List Nat := [0, 0, 2, 7, 0, 0, 32, 112, 255, 511, 1023, 1023, 2047, 8191]
theorem ConeAllW.tab3 : rtab .any (opsOf Tryd.f6 3) = ConeAllW.T3 := by kernel_rfl
theorem ConeAllW.bits3 : waitsOk ConeAllW.T3.2 ConeAllW.B3 = true := by kernel_rfl
def ConeAllW.T22 : Bool × List (List Nat × List Nat) := (true, [([], []), ([], []), ([], []), ([1, 2], [1, 2]), ([3], [3]), ([4], [4]), ([0, 5], [0, 5]), ([], []), ([], []), ([], []), ([8, 9], [8, 9]), ([10], [10]), ([11], [11]), ([7, 12, 6], [7, 12]), ([6, 13], [6, 13])])
def ConeAllW.B22 : List Nat := [0, 0, 0, 6, 14, 30, 63, 0, 0, 0, 768, 1792, 3840, 8191, 16383]
theorem ConeAllW.tab22 : rtab .any (opsOf Tryd.f6 22) = ConeAllW.T22 := by kernel_rfl
theorem ConeAllW.bits22 : waitsOk ConeAllW.T22.2 ConeAllW.B22 = true := by kernel_rfl
set_option maxRecDepth 100000 in
set_option maxHeartbeats 8000000 in
theorem ConeAllW (l : List S48) (c : List ByteArray) (p : ByteArray) (A0 A1 : Option Addr) (c0 c1 : Nat) (w : World) (hr0 : Kd.C k48 w A0 l.length l) (hc0 : l.length ≤ c0) (hr1 : Kd.C Kd.string w A1 c.length c) (hc1 : c.length ≤ c1)
  (hl : l.length ≤ 1073741824) (hcl : c.length ≤ 1073741824) (hf : FitsF l) (hfc : Fits c) (hp : p.size ≤ 1073741824) :
  Calls Tryd.prog 6 #[.slice A0 l.length c0, .slice A1 c.length c1, .string p] w fun e w' => e = .returned (.bool true) ∧ Below w.heap.size w w' := by
 obtain ⟨x, vx, lx, tx⟩ := copied_ev l hl
 obtain ⟨y, vy, ly, ty⟩ := lentC_ev c (by omega)
 obtain ⟨kx, hx⟩ := vx.rounds
 obtain ⟨ky, hy⟩ := vy.rounds
 obtain ⟨kv, hv⟩ := (view_ev l c hl hf hcl hfc).rounds
 obtain ⟨kw, hw⟩ := (view15_ev l c hl hf hcl hfc).rounds
 obtain ⟨kc, hc⟩ := (cover_ev c hcl hfc).rounds
 obtain ⟨kd, hd⟩ := (cover15_ev c hcl hfc).rounds
 obtain ⟨ka, ha⟩ := (coneValid_ev c (by omega) hfc).rounds
 obtain ⟨kb, hb⟩ := (valid15_ev c hcl hfc).rounds
 obtain ⟨ks, hs⟩ := (shows_ev c p hfc hp).rounds
 obtain ⟨kt, ht⟩ := (shows15_ev c p hcl hfc hp).rounds
 obtain ⟨kfx, hfx⟩ := (filesC_same x (by omega)).rounds
 obtain ⟨kty, hty⟩ := (textsC_same y (by omega)).rounds
 have hvl : (viewV l c).1.length ≤ 4294967296 := by
  unfold viewV
  split
  ·split
   ·have := List.length_filter_le (fun f : S48 => showsB c f.f0) l
    show (l.filter fun f => showsB c f.f0).length ≤ _
    omega
   ·simp
  ·simp
 have hHl : (heads (dirsL c)).length ≤ 4294967296 := by
  have := norm_length_le ((dirsL c).filter (isHead (dirsL c)))
  have := List.length_filter_le (isHead (dirsL c)) (dirsL c)
  have := dirsL_length c
  unfold heads; omega
 obtain ⟨kfv, hfv⟩ := (filesC_same (viewV l c).1 hvl).rounds
 obtain ⟨kth, hth⟩ := (textsC_same (heads (dirsL c)) hHl).rounds
 generalize heads (dirsL c) = H at *
 generalize hvv : viewV l c = VV at *
 obtain ⟨V, ev⟩ := VV
 clear hvv vx vy hvl hHl
 generalize hce : (if coneR none c = true then (0 : Int) else 13) = ce at *
 clear hce
 have hsh : ∀ i : Nat, i < l.length → (∃ k, cone_Shows.f k c (rd_T48 l (i : Int)).f0 = some (showsB c (rd_T48 l (i : Int)).f0)) ∧ ∃ k, copseref15_Shows.f k c (rd_T48 l (i : Int)).f0 = some (showsB c (rd_T48 l (i : Int)).f0) := fun i hi =>
  ⟨(shows_ev c _ hfc (hf _ (rdF_mem l i hi)).1).rounds, (shows15_ev c _ hcl hfc (hf _ (rdF_mem l i hi)).1).rounds⟩
 generalize showsB c p = sb at *
 have HR0 := Aside0.mk hr0
 have HR1 := Aside0.mk hr1
 have X := Aside0.mk hx
 have Y := Aside0.mk hy
 have VW := Aside0.mk hv
 have WW := Aside0.mk hw
 have CO := Aside0.mk hc
 have CD := Aside0.mk hd
 have VA := Aside0.mk ha
 have VB := Aside0.mk hb
 have SA := Aside0.mk hs
 have SB := Aside0.mk ht
 have FX := Aside0.mk hfx
 have TY := Aside0.mk hty
 have FV := Aside0.mk hfv
 have TH := Aside0.mk hth
 have SH := Aside0.mk hsh
 have TX := Aside0.mk tx
 have TTY := Aside0.mk ty
 have LX := Aside0.mk lx
 have LY := Aside0.mk ly
 clear hr0 hr1 hx hy hv hw hc hd ha hb hs ht hfx hty hfv hth hsh tx ty lx ly hf hfc
 go_enter Tryd.func6, Tryd.ntmps6
 go_wp2_with fail
 refine (copselaw15_copied.calls kx _ _ l x _ HR0.out hc0 X.out).mono ?_
 rintro e w1 ⟨vx, rfl, hx, hb1⟩
 obtain ⟨Ax, cx, rfl, hlx, _⟩ := Kd.R_reads hx
 have OX := Aside0.mk hx
 have B1 := Aside0.mk hb1
 clear hx hb1
 go_wp2_with fail
 refine (copselaw15_lent.calls ky _ _ c y _ (Kd.C_below HR1.out B1.out) hc1 Y.out).mono ?_
 rintro e w2 ⟨vy, rfl, hy, hb2⟩
 obtain ⟨Ay, cy, rfl, hly, _⟩ := Kd.R_reads hy
 have OY := Aside0.mk hy
 have B2 := Aside0.mk hb2
 clear hy hb2
 have hlx' : l.length ≤ x.length := by have := LX.out; omega
 have hly' : c.length ≤ y.length := by have := LY.out; omega
 obtain ⟨i48, hi48, _, hsz48, _⟩ := info_parts info48
 obtain ⟨i9, hi9, _, hsz9, _⟩ := info_parts info9
 have cutx := cut_to (P := Tryd.prog) 36 48 .i64 Tryd.underlying36 hi48 Ax x.length cx (l.length : Int) (by omega) (by omega) hlx
 have cuty := cut_to (P := Tryd.prog) 22 9 .i64 Tryd.underlying22 hi9 Ay y.length cy (c.length : Int) (by omega) (by omega) hly
 rw [Int.toNat_natCast] at cutx cuty
 clear hi48 hi9 hsz48 hsz9
 have CXl := Aside0.mk (show Kd.C k48 w2 Ax l.length l from by
  have := Kd.C_take (m := l.length) (Kd.R_reads' (Kd.R_below OX.out B2.out)).2.2 hlx'
  rwa [TX.out] at this)
 have CYc := Aside0.mk (show Kd.C Kd.string w2 Ay c.length c from by
  have := Kd.C_take (m := c.length) (Kd.R_reads' OY.out).2.2 hly'
  rwa [TTY.out] at this)
 have OX2 := Aside0.mk (Kd.R_below OX.out B2.out)
 have HB := Aside0.mk (below_step B1.out B2.out)
 have hw1 : w.heap.size ≤ w1.heap.size := B1.out.size
 clear OX B1 B2
 replace CXl := Aside0.mk (Kd.C_drew CXl.out)
 replace CYc := Aside0.mk (Kd.C_drew CYc.out)
 replace OX2 := Aside0.mk (Kd.R_drew OX2.out)
 replace OY := Aside0.mk (Kd.R_drew OY.out)
 replace HB := Aside0.mk (below_drew HB.out)
 go_wp2
 refine start_ (n := 14) (S := fun _ => True) (ds := []) (lb 14 0) (by kernel_rfl) rfl rfl trivial (fun hHeld => ?_); refine with_tabW ConeAllW.tab3 ConeAllW.bits3 (fun HT_ HW_ => ?_)
 generalize w2.drew = w3 at CXl CYc OX2 OY HB hHeld ⊢
 refine pure_ (i := 0) (N := some 23) (v := ?_) (a' := ?_) (lb 14 1) rfl rfl (any_of HT_.out (by kernel_rfl)) (fun _ _ _ h => h) (Or.inl ⟨by rfl, ?_⟩) ?_ ?_
 rotate_left
 ·intro w'
  go_simp
  with_reducible rfl
 rotate_left
 ·simp only [Act.put, List.setIfInBounds_toArray, List.set_cons_zero, List.set_cons_succ, i64_w, i32_w]
  rfl
 refine pure_ (i := 1) (N := some 24) (v := ?_) (a' := ?_) (lb 14 3) rfl rfl (any_of HT_.out (by kernel_rfl)) (fun _ _ _ h => h) (Or.inl ⟨by rfl, ?_⟩) ?_ ?_
 rotate_left
 ·intro w'
  go_simp
  with_reducible rfl
 rotate_left
 ·simp only [Act.put, List.setIfInBounds_toArray, List.set_cons_zero, List.set_cons_succ, i64_w, i32_w]
  rfl
 refine pure_ (i := 2) (N := some 25) (v := ?_) (a' := ?_) (lb 14 7) rfl rfl (any_of HT_.out (by kernel_rfl)) (fun _ _ _ h => h) (Or.inl ⟨by rfl, ?_⟩) ?_ ?_
 rotate_left
 ·intro w'
  go_simp
  with_reducible rfl
 rotate_left
 ·simp only [Act.put, List.setIfInBounds_toArray, List.set_cons_zero, List.set_cons_succ, i64_w, i32_w]
  rfl
 refine pure_ (i := 3) (N := some 26) (v := ?_) (a' := ?_) (lb 14 15) rfl rfl (any_of HT_.out (by kernel_rfl)) (fun _ _ _ h => h) (Or.inl ⟨by rfl, ?_⟩) ?_ ?_
 rotate_left
 ·intro w'
  go_simp
  with_reducible rfl
 rotate_left
 ·simp only [Act.put, List.setIfInBounds_toArray, List.set_cons_zero, List.set_cons_succ, i64_w, i32_w]
  rfl
 refine pure_ (i := 4) (N := some 27) (v := ?_) (a' := ?_) (lb 14 31) rfl rfl (any_of HT_.out (by kernel_rfl)) (fun _ _ _ h => h) (Or.inl ⟨by rfl, ?_⟩) ?_ ?_
 rotate_left
 ·intro w'
  go_simp
  with_reducible rfl
 rotate_left
 ·simp only [Act.put, List.setIfInBounds_toArray, List.set_cons_zero, List.set_cons_succ, i64_w, i32_w]
  rfl
 refine pure_ (i := 5) (N := some 28) (v := ?_) (a' := ?_) (lb 14 63) rfl rfl (any_of HT_.out (by kernel_rfl)) (fun _ _ _ h => h) (Or.inl ⟨by rfl, ?_⟩) ?_ ?_
 rotate_left
 ·intro w'
  go_simp
  with_reducible rfl
 rotate_left
 ·simp only [Act.put, List.setIfInBounds_toArray, List.set_cons_zero, List.set_cons_succ, i64_w, i32_w]
  rfl
 refine pure_ (i := 6) (N := some 29) (v := ?_) (a' := ?_) (lb 14 127) rfl rfl (any_of HT_.out (by kernel_rfl)) (fun _ _ _ h => h) (Or.inl ⟨by rfl, ?_⟩) ?_ ?_
 rotate_left
 ·intro w'
  go_simp
  with_reducible rfl
 rotate_left
 ·simp only [Act.put, List.setIfInBounds_toArray, List.set_cons_zero, List.set_cons_succ, i64_w, i32_w]
  rfl
 refine pure_ (i := 7) (N := some 30) (v := ?_) (a' := ?_) (lb 14 255) rfl rfl (any_of HT_.out (by kernel_rfl)) (fun _ _ _ h => h) (Or.inl ⟨by rfl, ?_⟩) ?_ ?_
 rotate_left
 ·intro w'
  go_simp
  with_reducible rfl
 rotate_left
 ·simp only [Act.put, List.setIfInBounds_toArray, List.set_cons_zero, List.set_cons_succ, i64_w, i32_w]
  rfl
 refine one_ (i := 8) (N := some 31) (lb 14 511) rfl rfl (one_of HT_.out (by kernel_rfl)) (by decide) (fun K hK => ?_)
 refine goes_ Tryd.func28 (by kernel_rfl) rfl #[.slice Ax l.length cx, .slice Ay c.length cy] (by rfl) rfl rfl (by (try simp only [List.map_toArray, List.map_cons, List.map_nil]); first | done | rfl) ?_
 with_reducible refine (cone_View.calls kv _ _ l _ _ c V ev _ CXl.out (by omega) CYc.out (by omega) VW.out).mono ?_
 rintro e w4 ⟨v4, rfl, ho4, hb4⟩
 refine ⟨_, rfl, ?_⟩
 refine hK.out _ _ trivial (fun hHeld => ?_)
 clear hK K
 refine norm_ (a' := ?_) ?_ ?_
 rotate_left
 ·show Act.put _ (some 31) _ = _
  simp only [Act.put, List.setIfInBounds_toArray, List.set_cons_zero, List.set_cons_succ, i64_w, i32_w]
  rfl
 refine pure_ (i := 9) (N := some 22) (v := ?_) (a' := ?_) (lb 14 1023) rfl rfl (any_of HT_.out (by kernel_rfl)) (fun _ _ _ h => h) (Or.inl ⟨by rfl, ?_⟩) ?_ ?_
 rotate_left
 ·intro w'
  go_simp
  with_reducible rfl
 rotate_left
 ·simp only [Act.put, List.setIfInBounds_toArray, List.set_cons_zero, List.set_cons_succ, i64_w, i32_w]
  rfl
 refine pure_ (i := 10) (N := some 32) (v := ?_) (a' := ?_) (lb 14 2047) rfl rfl (any_of HT_.out (by kernel_rfl)) (fun _ _ _ h => h) (Or.inl ⟨by rfl, ?_⟩) ?_ ?_
 rotate_left
 ·intro w'
  go_simp
  with_reducible rfl
 rotate_left
 ·simp only [Act.put, List.setIfInBounds_toArray, List.set_cons_zero, List.set_cons_succ, i64_w, i32_w]
  rfl
 refine pure_ (i := 11) (N := some 33) (v := ?_) (a' := ?_) (lb 14 4095) rfl rfl (any_of HT_.out (by kernel_rfl)) (fun _ _ _ h => h) (Or.inl ⟨by rfl, ?_⟩) ?_ ?_
 rotate_left
 ·intro w'
  go_simp
  with_reducible rfl
 rotate_left
 ·simp only [Act.put, List.setIfInBounds_toArray, List.set_cons_zero, List.set_cons_succ, i64_w, i32_w]
  rfl
 refine pure_ (i := 12) (N := some 9) (v := ?_) (a' := ?_) (lb 14 8191) rfl rfl (any_of HT_.out (by kernel_rfl)) (fun _ _ _ h => h) (Or.inl ⟨by rfl, ?_⟩) ?_ ?_
 rotate_left
 ·intro w'
  go_simp
  with_reducible rfl
 rotate_left
 ·simp only [Act.put, List.setIfInBounds_toArray, List.set_cons_zero, List.set_cons_succ, i64_w, i32_w]
  rfl
 refine pure_ (i := 13) (N := some 10) (v := ?_) (a' := ?_) (lb 14 16383) rfl rfl (any_of HT_.out (by kernel_rfl)) (fun _ _ _ h => h) (Or.inl ⟨by rfl, ?_⟩) ?_ ?_
 rotate_left
 ·intro w'
  go_simp
  with_reducible rfl
 rotate_left
 ·simp only [Act.put, List.setIfInBounds_toArray, List.set_cons_zero, List.set_cons_succ, i64_w, i32_w]
  rfl
 refine done_ (done_of HT_.out (by kernel_rfl)) ?_
 have B4 := Aside0.mk hb4
 have O4 := Aside0.mk ho4
 have HB4 := Aside0.mk (below_step HB.out hb4)
 clear ho4 hb4
 go_wp2_with fail
 refine (copseref15_View.calls kw _ _ l _ _ c V ev _ (Kd.C_below HR0.out HB4.out) hc0 (Kd.C_below HR1.out HB4.out) hc1 WW.out).mono ?_
 rintro e w5 ⟨v5, rfl, ho5, hb5⟩
 have B5 := Aside0.mk (below_step B4.out hb5)
 have O5 := Aside0.mk (Kd.R_lower ho5 B4.out.size)
 have O4' := Aside0.mk (Kd.R_below O4.out hb5)
 have HB5 := Aside0.mk (below_step HB4.out hb5)
 clear ho5 hb5 O4 B4 HB4
 go_wp2_with fail
 refine (cone_Cover.calls kc _ _ c H _ (Kd.C_below CYc.out B5.out) (by omega) CO.out).mono ?_
 rintro e w6 ⟨v6, rfl, ho6, hb6⟩
 have O6 := Aside0.mk (Kd.R_lower ho6 B5.out.size)
 have B6 := Aside0.mk (below_step B5.out hb6)
 have O5' := Aside0.mk (Kd.R_below O5.out hb6)
 have O4 := Aside0.mk (Kd.R_below O4'.out hb6)
 have HB6 := Aside0.mk (below_step HB5.out hb6)
 clear ho6 hb6 O5 O4' HB5 B5
 go_wp2_with fail
 refine (cone_Valid.calls ka _ _ c ce _ (Kd.C_below CYc.out B6.out) (by omega) VA.out).mono ?_
 rintro e w7 ⟨rfl, hb7⟩
 have B7 := Aside0.mk (below_step B6.out hb7)
 have HB7 := Aside0.mk (below_step HB6.out hb7)
 have O6' := Aside0.mk (Kd.R_below O6.out hb7)
 have O5 := Aside0.mk (Kd.R_below O5'.out hb7)
 have O4' := Aside0.mk (Kd.R_below O4.out hb7)
 clear hb7 O6 O5' O4 HB6 B6
 go_wp2_with fail
 refine (copselaw15_num.calls ce ce _ rfl).mono ?_
 rintro e w8 ⟨rfl, ⟨⟨q8, rfl⟩⟩⟩
 replace B7 := Aside0.mk (pw_below_drewN B7.out q8)
 replace HB7 := Aside0.mk (pw_below_drewN HB7.out q8)
 replace O6' := Aside0.mk (Kd.R_drewN O6'.out q8)
 replace O5 := Aside0.mk (Kd.R_drewN O5.out q8)
 replace O4' := Aside0.mk (Kd.R_drewN O4'.out q8)
 generalize w7.drewN q8 = w8 at B7 HB7 O6' O5 O4' ⊢
 go_wp2_with fail
 refine (copseref15_Valid.calls kb _ _ c ce _ (Kd.C_below HR1.out HB7.out) hc1 VB.out).mono ?_
 rintro e w9 ⟨rfl, hb9⟩
 have B9 := Aside0.mk (below_step B7.out hb9)
 have HB9 := Aside0.mk (below_step HB7.out hb9)
 have O6 := Aside0.mk (Kd.R_below O6'.out hb9)
 have O5' := Aside0.mk (Kd.R_below O5.out hb9)
 have O4 := Aside0.mk (Kd.R_below O4'.out hb9)
 clear hb9 O6' O5 O4' HB7 B7
 go_wp2_with fail
 refine (cone_Shows.calls ks _ _ c p sb _ (Kd.C_below CYc.out B9.out) (by omega) SA.out).mono ?_
 rintro e w10 ⟨rfl, hb10⟩
 have B10 := Aside0.mk (below_step B9.out hb10)
 have HB10 := Aside0.mk (below_step HB9.out hb10)
 have O6' := Aside0.mk (Kd.R_below O6.out hb10)
 have O5 := Aside0.mk (Kd.R_below O5'.out hb10)
 have O4' := Aside0.mk (Kd.R_below O4.out hb10)
 clear hb10 O6 O5' O4 HB9 B9
 go_wp2_with fail
 refine (copseref15_Shows.calls kt _ _ c p sb _ (Kd.C_below HR1.out HB10.out) hc1 SB.out).mono ?_
 rintro e w11 ⟨rfl, hb11⟩
 have B11 := Aside0.mk (below_step B10.out hb11)
 have HB11 := Aside0.mk (below_step HB10.out hb11)
 have O6 := Aside0.mk (Kd.R_below O6'.out hb11)
 have O5' := Aside0.mk (Kd.R_below O5.out hb11)
 have O4 := Aside0.mk (Kd.R_below O4'.out hb11)
 clear hb11 O6' O5 O4' HB10 B10
 go_wp2_with fail
 refine (aliveCW _).mono ?_
 rintro e w12 ⟨rfl, hb12⟩
 have B12 := Aside0.mk (below_step B11.out hb12)
 have HB12 := Aside0.mk (below_step HB11.out hb12)
 have O6' := Aside0.mk (Kd.R_below O6.out hb12)
 have O5 := Aside0.mk (Kd.R_below O5'.out hb12)
 have O4' := Aside0.mk (Kd.R_below O4.out hb12)
 clear hb12 O6 O5' O4 HB11 B11
 go_wp2_with fail
 refine (copselaw15_num.calls ev ev _ rfl).mono ?_
 rintro e w13 ⟨rfl, ⟨⟨q13, rfl⟩⟩⟩
 replace B12 := Aside0.mk (pw_below_drewN B12.out q13)
 replace HB12 := Aside0.mk (pw_below_drewN HB12.out q13)
 replace O6' := Aside0.mk (Kd.R_drewN O6'.out q13)
 replace O5 := Aside0.mk (Kd.R_drewN O5.out q13)
 replace O4' := Aside0.mk (Kd.R_drewN O4'.out q13)
 generalize w12.drewN q13 = w13 at B12 HB12 O6' O5 O4' ⊢
 go_wp2_with fail
 refine (copselaw15_copied.calls kx _ _ l x _ (Kd.C_below HR0.out HB12.out) hc0 X.out).mono ?_
 rintro e w14 ⟨v14, rfl, ho14, hb14⟩
 have B14 := Aside0.mk (below_step B12.out hb14)
 have HB14 := Aside0.mk (below_step HB12.out hb14)
 have O6 := Aside0.mk (Kd.R_below O6'.out hb14)
 have O5' := Aside0.mk (Kd.R_below O5.out hb14)
 have O4 := Aside0.mk (Kd.R_below O4'.out hb14)
 obtain ⟨A14, c14, rfl, l14, r14⟩ := Kd.R_reads ho14
 have R14 := Aside0.mk r14
 clear hb14 ho14 r14 O6' O5 O4' HB12 B12
 go_wp2_with fail
 refine (copselaw15_files.calls kfx _ _ x _ _ x true _ (Kd.R_reads' (Kd.R_below OX2.out B14.out)).2.2 hlx R14.out l14 FX.out).mono ?_
 rintro e w15 ⟨rfl, ⟨⟨q15, rfl⟩⟩⟩
 replace B14 := Aside0.mk (pw_below_drewN B14.out q15)
 replace HB14 := Aside0.mk (pw_below_drewN HB14.out q15)
 replace O6 := Aside0.mk (Kd.R_drewN O6.out q15)
 replace O5' := Aside0.mk (Kd.R_drewN O5'.out q15)
 replace O4 := Aside0.mk (Kd.R_drewN O4.out q15)
 clear R14
 generalize w14.drewN q15 = w15 at B14 HB14 O6 O5' O4 ⊢
 go_wp2_with fail
 refine (copselaw15_lent.calls ky _ _ c y _ (Kd.C_below HR1.out HB14.out) hc1 Y.out).mono ?_
 rintro e w16 ⟨v16, rfl, ho16, hb16⟩
 have B16 := Aside0.mk (below_step B14.out hb16)
 have HB16 := Aside0.mk (below_step HB14.out hb16)
 have O6' := Aside0.mk (Kd.R_below O6.out hb16)
 have O5 := Aside0.mk (Kd.R_below O5'.out hb16)
 have O4' := Aside0.mk (Kd.R_below O4.out hb16)
 obtain ⟨A16, c16, rfl, l16, r16⟩ := Kd.R_reads ho16
 have R16 := Aside0.mk r16
 clear hb16 ho16 r16 O6 O5' O4 HB14 B14
 go_wp2_with fail
 refine (copselaw15_texts.calls kty _ _ y _ _ y true _ (Kd.R_reads' (Kd.R_below OY.out B16.out)).2.2 hly R16.out l16 TY.out).mono ?_
 rintro e w17 ⟨rfl, ⟨⟨q17, rfl⟩⟩⟩
 replace B16 := Aside0.mk (pw_below_drewN B16.out q17)
 replace HB16 := Aside0.mk (pw_below_drewN HB16.out q17)
 replace O6' := Aside0.mk (Kd.R_drewN O6'.out q17)
 replace O5 := Aside0.mk (Kd.R_drewN O5.out q17)
 replace O4' := Aside0.mk (Kd.R_drewN O4'.out q17)
 clear R16
 generalize w16.drewN q17 = w17 at B16 HB16 O6' O5 O4' ⊢
 obtain ⟨gx, rfl, hgx0, hgx1, hgx2, _, hgx3⟩ := R_block OX2.out (by have := LX.out; omega)
 obtain ⟨gy, rfl, hgy0, hgy1, hgy2, _, hgy3⟩ := R_block OY.out (by have := LY.out; omega)
 have hxy : gx ≠ gy := by
  intro e
  subst e
  obtain ⟨c1, h1⟩ := own_typed hgx2 gx rfl
  obtain ⟨c2, h2⟩ := own_typed hgy2 gx rfl
  rw [h1] at h2
  injection h2 with h2; injection h2 with _ h2; exact absurd h2 (by decide)
 have SX := Aside0.mk (show Shp 48 4 w17 gx cx from Shp.below hgx2 B16.out)
 have SY := Aside0.mk (show Shp 9 1 w17 gy cy from Shp.below hgy2 B16.out)
 have far : ∀ k, w3.heap.size ≤ k → k ≠ gx ∧ k ≠ gy := fun k hk => ⟨by omega, by omega⟩
 have P4 := Aside0.mk (Kd.R_mono (ok' := fun k => k ≠ gx ∧ k ≠ gy) (Kd.R_bound O4'.out) (fun k hk => far k hk.2.1))
 have P5 := Aside0.mk (Kd.R_mono (ok' := fun k => k ≠ gx ∧ k ≠ gy) (Kd.R_bound O5.out) (fun k hk => far k hk.2.1))
 have P6 := Aside0.mk (Kd.R_mono (ok' := fun k => k ≠ gx ∧ k ≠ gy) (Kd.R_bound O6'.out) (fun k hk => far k hk.2.1))
 have GB : w.heap.size ≤ gx ∧ w.heap.size ≤ gy := ⟨hgx0, Nat.le_trans hw1 hgy0⟩
 have hxl : x.length ≤ 2147483648 := by have := LX.out; omega
 have hyl : y.length ≤ 2147483648 := by have := LY.out; omega
 clear O4' O5 O6' OX2 OY B16 HB hgx2 hgy2 far cutx cuty CXl CYc
 go_wp2
 go_loopg [15] x.length (fun gg s15 wr => ∃ i : Nat, i ≤ x.length ∧ x.length - i ≤ gg ∧ s15 = .int .i64 i ∧ Aside0 (Shp 48 4 wr gx cx) ∧ Aside0 (Shp 9 1 wr gy cy) ∧ Aside0 (Kd.R k48 48 wr w3.heap.size (fun k => k ≠ gx ∧ k ≠ gy) v4 V) ∧ Aside0 (Kd.R k48 48 wr w3.heap.size (fun k => k ≠ gx ∧ k ≠ gy) v5 V) ∧ Aside0 (Kd.R Kd.string 9 wr w3.heap.size (fun k => k ≠ gx ∧ k ≠ gy) v6 H) ∧ Aside0 (Below w.heap.size w wr))
 case atStart => exact ⟨0, by omega, by omega, rfl, SX, SY, P4, P5, P6, HB16⟩
 case round =>
  obtain ⟨i, hi, hg, rfl, SX, SY, P4, P5, P6, HB16⟩ := hrel
  by_cases hlt : i < x.length
  ·have hltz : (i : Int) < (x.length : Int) := by omega
   obtain ⟨⟨u0, hu0⟩, hf0⟩ := SX.out.at_ (i * 4) (by omega)
   obtain ⟨⟨u1, hu1⟩, hf1⟩ := SX.out.at_ (i * 4 + 1) (by omega)
   obtain ⟨⟨u2, hu2⟩, hf2⟩ := SX.out.at_ (i * 4 + 2) (by omega)
   obtain ⟨⟨u3, hu3⟩, hf3⟩ := SX.out.at_ (i * 4 + 3) (by omega)
   go_wp2
   go_roundg (x.length - (i + 1))
   case measure => omega
   case rel => exact ⟨i + 1, by omega, by omega, by go_num, ⟨by repeat (first | exact SX.out | apply Shp.set)⟩, ⟨by repeat (first | exact SY.out | (refine Shp.far ?_ _ (Ne.symm hxy)))⟩, ⟨by repeat (first | exact P4.out | (refine Kd.R_far ?_ (fun k hk => hk.1) _))⟩, ⟨by repeat (first | exact P5.out | (refine Kd.R_far ?_ (fun k hk => hk.1) _))⟩, ⟨by repeat (first | exact P6.out | (refine Kd.R_far ?_ (fun k hk => hk.1) _))⟩, ⟨by repeat (first | exact HB16.out | (refine Below.setCell ?_ GB.1 _))⟩⟩
  ·have hltz : ¬ (i : Int) < (x.length : Int) := by omega
   clear SX
   go_wp2
   go_loopg [16] y.length (fun gg s16 wr => ∃ i : Nat, i ≤ y.length ∧ y.length - i ≤ gg ∧ s16 = .int .i64 i ∧ Aside0 (Shp 9 1 wr gy cy) ∧ Aside0 (Kd.R k48 48 wr w3.heap.size (fun k => k ≠ gx ∧ k ≠ gy) v4 V) ∧ Aside0 (Kd.R k48 48 wr w3.heap.size (fun k => k ≠ gx ∧ k ≠ gy) v5 V) ∧ Aside0 (Kd.R Kd.string 9 wr w3.heap.size (fun k => k ≠ gx ∧ k ≠ gy) v6 H) ∧ Aside0 (Below w.heap.size w wr))
   case atStart => exact ⟨0, by omega, by omega, rfl, SY, P4, P5, P6, HB16⟩
   case round =>
    clear SY P4 P5 P6 HB16
    obtain ⟨j, hj, hgj, rfl, SY, P4, P5, P6, HB16⟩ := hrel
    by_cases hlt2 : j < y.length
    ·have hltz2 : (j : Int) < (y.length : Int) := by omega
     obtain ⟨⟨u0, hu0⟩, hf0⟩ := SY.out.at_ j (by omega)
     go_wp2
     go_roundg (y.length - (j + 1))
     case measure => omega
     case rel => exact ⟨j + 1, by omega, by omega, by go_num, ⟨by repeat (first | exact SY.out | apply Shp.set)⟩, ⟨by repeat (first | exact P4.out | (refine Kd.R_far ?_ (fun k hk => hk.2) _))⟩, ⟨by repeat (first | exact P5.out | (refine Kd.R_far ?_ (fun k hk => hk.2) _))⟩, ⟨by repeat (first | exact P6.out | (refine Kd.R_far ?_ (fun k hk => hk.2) _))⟩, ⟨by repeat (first | exact HB16.out | (refine Below.setCell ?_ GB.2 _))⟩⟩
    ·have hltz2 : ¬ (j : Int) < (y.length : Int) := by omega
     obtain ⟨A4, n4, rfl, l4, r4⟩ := Kd.R_reads P4.out
     obtain ⟨A5, n5, rfl, l5, r5⟩ := Kd.R_reads P5.out
     obtain ⟨A6, n6, rfl, l6, r6⟩ := Kd.R_reads P6.out
     have R4 := Aside0.mk r4
     have R5 := Aside0.mk r5
     have R6 := Aside0.mk r6
     clear r4 r5 r6 P4 P5 P6 SY
     go_wp2_with fail
     refine (copselaw15_files.calls kfv _ _ V _ _ V true _ R4.out l4 R5.out l5 FV.out).mono ?_
     rintro e w18 ⟨rfl, ⟨⟨q18, rfl⟩⟩⟩
     replace HB16 := Aside0.mk (pw_below_drewN HB16.out q18)
     replace R6 := Aside0.mk (Kd.C_drewN R6.out q18)
     clear R4 R5
     generalize wr.drewN q18 = w18 at HB16 R6 ⊢
     go_wp2_with fail
     refine (copseref15_Cover.calls kd _ _ c H _ (Kd.C_below HR1.out HB16.out) hc1 CD.out).mono ?_
     rintro e w19 ⟨v19, rfl, ho19, hb19⟩
     obtain ⟨A19, n19, rfl, l19, r19⟩ := Kd.R_reads ho19
     have R19 := Aside0.mk r19
     have HB19 := Aside0.mk (below_step HB16.out hb19)
     replace R6 := Aside0.mk (Kd.C_below R6.out hb19)
     clear r19 ho19 hb19 HB16
     go_wp2_with fail
     refine (copselaw15_texts.calls kth _ _ H _ _ H true _ R6.out l6 R19.out l19 TH.out).mono ?_
     rintro e w20 ⟨rfl, ⟨⟨q20, rfl⟩⟩⟩
     replace HB19 := Aside0.mk (pw_below_drewN HB19.out q20)
     clear R6 R19
     generalize w19.drewN q20 = w20 at HB19 ⊢
     go_wp2
     go_loopg [17] l.length (fun gg s17 wr => ∃ i : Nat, i ≤ l.length ∧ l.length - i ≤ gg ∧ s17 = .int .i64 i ∧ Aside0 (Below w.heap.size w wr))
     case atStart => exact ⟨0, by omega, by omega, rfl, HB19⟩
     case round =>
      clear HB19
      obtain ⟨i, hi, hgi, rfl, BW⟩ := hrel
      by_cases hlt3 : i < l.length
      ·have hltz3 : (i : Int) < (l.length : Int) := by omega
       obtain ⟨⟨k1, h1⟩, ⟨k2, h2⟩⟩ := SH.out i hlt3
       have S1 := Aside0.mk h1
       have S2 := Aside0.mk h2
       clear h1 h2
       obtain ⟨ad, rfl, hx0, _, _, _⟩ := at_T48 HR0.out (i : Int) (by omega) hltz3
       rw [Int.toNat_natCast] at hx0
       have hcell : ∀ w', Below w.heap.size w w' → w'.cell? (ad.add (i * 4)) = some (.string (rd_T48 l (i : Int)).f0) := fun w' hb => (hb.cell (World.block_lt_of_cell? w _ hx0)).trans hx0
       have HC := Aside0.mk hcell
       have hcd := hcell _ (below_drew BW.out)
       have BWd := Aside0.mk (below_drew BW.out)
       clear hcell hx0 BW
       go_wp2
       refine start_ (n := 15) (S := fun w' => w'.cell? (ad.add (i * 4)) = some (.string (rd_T48 l (i : Int)).f0)) (ds := []) (lb 15 0) (by kernel_rfl) rfl rfl hcd (fun hHeld => ?_); refine with_tabW ConeAllW.tab22 ConeAllW.bits22 (fun HT_ HW_ => ?_)
       generalize wr.drew = w7 at BWd hcd hHeld ⊢
       refine pure_ (i := 0) (N := some 128) (v := ?_) (a' := ?_) (lb 15 1) rfl rfl (any_of HT_.out (by kernel_rfl)) (fun _ _ _ h => h) (Or.inl ⟨by rfl, ?_⟩) ?_ ?_
       rotate_left
       ·intro w'
        go_simp
        with_reducible rfl
       rotate_left
       ·simp only [Act.put, List.setIfInBounds_toArray, List.set_cons_zero, List.set_cons_succ, i64_w, i32_w]
        rfl
       refine pure_ (i := 1) (N := some 129) (v := ?_) (a' := ?_) (lb 15 3) rfl rfl (any_of HT_.out (by kernel_rfl)) (fun _ _ _ h => h) (Or.inl ⟨by rfl, ?_⟩) ?_ ?_
       rotate_left
       ·intro w'
        go_simp
        with_reducible rfl
       rotate_left
       ·simp only [Act.put, List.setIfInBounds_toArray, List.set_cons_zero, List.set_cons_succ, i64_w, i32_w]
        rfl
       refine pure_ (i := 2) (N := some 130) (v := ?_) (a' := ?_) (lb 15 7) rfl rfl (any_of HT_.out (by kernel_rfl)) (fun _ _ _ h => h) (Or.inl ⟨by rfl, ?_⟩) ?_ ?_
       rotate_left
       ·intro w'
        go_simp
        with_reducible rfl
       rotate_left
       ·simp only [Act.put, List.setIfInBounds_toArray, List.set_cons_zero, List.set_cons_succ, i64_w, i32_w]
        rfl
       refine pure_ (i := 3) (N := some 131) (v := ?_) (a' := ?_) (lb 15 15) rfl rfl (any_of HT_.out (by kernel_rfl)) (fun _ _ _ h => h) (Or.inl ⟨by rfl, ?_⟩) ?_ ?_
       rotate_left
       ·intro w'
        go_simp
        with_reducible rfl
       rotate_left
       ·simp only [Act.put, List.setIfInBounds_toArray, List.set_cons_zero, List.set_cons_succ, i64_w, i32_w]
        rfl
       refine pure_ (i := 4) (N := some 132) (v := ?_) (a' := ?_) (lb 15 31) rfl rfl (any_of HT_.out (by kernel_rfl)) (fun _ _ _ h => h) (Or.inl ⟨by rfl, ?_⟩) ?_ ?_
       rotate_left
       ·intro w'
        go_simp
        with_reducible rfl
       rotate_left
       ·simp only [Act.put, List.setIfInBounds_toArray, List.set_cons_zero, List.set_cons_succ, i64_w, i32_w]
        rfl
       refine pure_ (i := 7) (N := some 135) (v := ?_) (a' := ?_) (lb 15 159) rfl rfl (any_of HT_.out (by kernel_rfl)) (fun _ _ _ h => h) (Or.inl ⟨by rfl, ?_⟩) ?_ ?_
       rotate_left
       ·intro w'
        go_simp
        with_reducible rfl
       rotate_left
       ·simp only [Act.put, List.setIfInBounds_toArray, List.set_cons_zero, List.set_cons_succ, i64_w, i32_w]
        rfl
       refine pure_ (i := 8) (N := some 136) (v := ?_) (a' := ?_) (lb 15 415) rfl rfl (any_of HT_.out (by kernel_rfl)) (fun _ _ _ h => h) (Or.inl ⟨by rfl, ?_⟩) ?_ ?_
       rotate_left
       ·intro w'
        go_simp
        with_reducible rfl
       rotate_left
       ·simp only [Act.put, List.setIfInBounds_toArray, List.set_cons_zero, List.set_cons_succ, i64_w, i32_w]
        rfl
       refine pure_ (i := 9) (N := some 137) (v := ?_) (a' := ?_) (lb 15 927) rfl rfl (any_of HT_.out (by kernel_rfl)) (fun _ _ _ h => h) (Or.inl ⟨by rfl, ?_⟩) ?_ ?_
       rotate_left
       ·intro w'
        go_simp
        with_reducible rfl
       rotate_left
       ·simp only [Act.put, List.setIfInBounds_toArray, List.set_cons_zero, List.set_cons_succ, i64_w, i32_w]
        rfl
       refine pure_ (i := 10) (N := some 138) (v := ?_) (a' := ?_) (lb 15 1951) rfl rfl (any_of HT_.out (by kernel_rfl)) (fun _ _ _ h => h) (Or.inl ⟨by rfl, ?_⟩) ?_ ?_
       rotate_left
       ·intro w'
        go_simp
        with_reducible rfl
       rotate_left
       ·simp only [Act.put, List.setIfInBounds_toArray, List.set_cons_zero, List.set_cons_succ, i64_w, i32_w]
        rfl
       refine pure_ (i := 11) (N := some 139) (v := ?_) (a' := ?_) (lb 15 3999) rfl rfl (any_of HT_.out (by kernel_rfl)) (fun _ _ _ h => h) (Or.inl ⟨by rfl, ?_⟩) ?_ ?_
       rotate_left
       ·intro w'
        go_simp
        with_reducible rfl
       rotate_left
       ·simp only [Act.put, List.setIfInBounds_toArray, List.set_cons_zero, List.set_cons_succ, i64_w, i32_w]
        rfl
       refine take_ (i := 5) (N := some 133) (v := ?_) (a' := ?_) (lb 15 4031) rfl rfl (take_ofW HT_.out HW_.out (by kernel_rfl)) (fun _ _ _ h => h) (Or.inl ⟨by rfl, ?_⟩) hHeld ?_ ?_
       rotate_left
       ·rintro w' s0
        go_simp
        with_reducible rfl
       rotate_left
       ·simp only [Act.put, List.setIfInBounds_toArray, List.set_cons_zero, List.set_cons_succ, i64_w, i32_w]
        rfl
       refine take_ (i := 12) (N := some 140) (v := ?_) (a' := ?_) (lb 15 8127) rfl rfl (take_ofW HT_.out HW_.out (by kernel_rfl)) (fun _ _ _ h => h) (Or.inl ⟨by rfl, ?_⟩) hHeld ?_ ?_
       rotate_left
       ·rintro w' s0
        go_simp
        with_reducible rfl
       rotate_left
       ·simp only [Act.put, List.setIfInBounds_toArray, List.set_cons_zero, List.set_cons_succ, i64_w, i32_w]
        rfl
       refine one_ (i := 6) (N := some 134) (lb 15 8191) rfl rfl (one_of HT_.out (by kernel_rfl)) (by decide) (fun K hK => ?_)
       refine goes_ Tryd.func34 (by kernel_rfl) rfl #[.slice A1 c.length c1, .string (rd_T48 l (i : Int)).f0] (by rfl) rfl rfl (by (try simp only [List.map_toArray, List.map_cons, List.map_nil]); first | done | rfl) ?_
       with_reducible refine (cone_Shows.calls k1 _ _ c _ _ _ (Kd.C_below HR1.out BWd.out) hc1 S1.out).mono ?_
       rintro e w8 ⟨rfl, hb8⟩
       refine ⟨_, rfl, ?_⟩
       have BW8 := Aside0.mk (below_step BWd.out hb8)
       clear hb8
       refine hK.out _ _ (HC.out _ BW8.out) (fun hHeld => ?_)
       clear hK K
       refine norm_ (a' := ?_) ?_ ?_
       rotate_left
       ·show Act.put _ (some 134) _ = _
        simp only [Act.put, List.setIfInBounds_toArray, List.set_cons_zero, List.set_cons_succ, i64_w, i32_w]
        rfl
       refine one_ (i := 13) (N := some 141) (lb 15 16383) rfl rfl (one_of HT_.out (by kernel_rfl)) (by decide) (fun K hK => ?_)
       refine goes_ Tryd.func35 (by kernel_rfl) rfl #[.slice A1 c.length c1, .string (rd_T48 l (i : Int)).f0] (by rfl) rfl rfl (by (try simp only [List.map_toArray, List.map_cons, List.map_nil]); first | done | rfl) ?_
       with_reducible refine (copseref15_Shows.calls k2 _ _ c _ _ _ (Kd.C_below HR1.out BW8.out) hc1 S2.out).mono ?_
       rintro e w9 ⟨rfl, hb9⟩
       refine ⟨_, rfl, ?_⟩
       have BW9 := Aside0.mk (below_step BW8.out hb9)
       clear hb9
       refine hK.out _ _ (HC.out _ BW9.out) (fun hHeld => ?_)
       clear hK K
       refine norm_ (a' := ?_) ?_ ?_
       rotate_left
       ·show Act.put _ (some 141) _ = _
        simp only [Act.put, List.setIfInBounds_toArray, List.set_cons_zero, List.set_cons_succ, i64_w, i32_w]
        rfl
       refine pure_ (i := 14) (N := some 142) (v := ?_) (a' := ?_) (lb 15 32767) rfl rfl (any_of HT_.out (by kernel_rfl)) (fun _ _ _ h => h) (Or.inl ⟨by rfl, ?_⟩) ?_ ?_
       rotate_left
       ·intro w'
        go_simp
        with_reducible rfl
       rotate_left
       ·simp only [Act.put, List.setIfInBounds_toArray, List.set_cons_zero, List.set_cons_succ, i64_w, i32_w]
        rfl
       refine done_ (done_of HT_.out (by kernel_rfl)) ?_
       go_wp2
       go_roundg (l.length - (i + 1))
       case measure => omega
       case rel => exact ⟨i + 1, by omega, by omega, by go_num, BW9⟩
      ·have hltz3 : ¬ (i : Int) < (l.length : Int) := by omega
       go_wp2
       go_ret
       exact ⟨rfl, BW.out⟩
end Go.Proofs.YtdfkaclflmgkeaaDoor.PAll
