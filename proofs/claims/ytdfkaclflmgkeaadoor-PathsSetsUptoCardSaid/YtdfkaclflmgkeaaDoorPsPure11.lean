/- PathsSets: the law's printed function answers true, of any two lists whose texts and lengths are not too great. -/
import Derived.Test.YtdfkaclflmgkeaaDoorPsPAllx0
import Derived.Test.YtdfkaclflmgkeaaDoorPsHandB
import Derived.Test.YtdfkaclflmgkeaaDoorPsHandN
import Derived.Test.YtdfkaclflmgkeaaDoorPsPAlly0
import Derived.Test.YtdfkaclflmgkeaaDoorPsPAlly18
import Derived.Test.YtdfkaclflmgkeaaDoorPsPAlly21
import Derived.Test.YtdfkaclflmgkeaaDoorPsPAlly22
import Derived.Test.YtdfkaclflmgkeaaDoorPsPAlly26
import Derived.Test.YtdfkaclflmgkeaaDoorPsPure1
import Derived.Test.YtdfkaclflmgkeaaDoorPsPure2
import Derived.Test.YtdfkaclflmgkeaaDoorPsPure3
import Derived.Test.YtdfkaclflmgkeaaDoorPsPure4
import Derived.Test.YtdfkaclflmgkeaaDoorPsPure5
import Derived.Test.YtdfkaclflmgkeaaDoorPsPure6
import Derived.Test.YtdfkaclflmgkeaaDoorPsPureH
import Derived.Test.YtdfkaclflmgkeaaDoorPsSpec
namespace Go.Proofs.YtdfkaclflmgkeaaDoor.PAll
open Go.RowKit Go.Proofs.YtdfkaclflmgkeaaDoorW.PrintWords Go.Proofs.YtdfkaclflmgkeaaDoorW.PrintLast Go.Proofs.YtdfkaclflmgkeaaDoorW.PrintMore
open Go.Proofs.YtdfkaclflmgkeaaDoor.Sp
theorem rises_run (l : List ByteArray) (hl : l.length ≤ 4294967296) (hf : Fits l) (hr : Rises l) (d : Nat) : ∀ i, l.length - i = d → 1 ≤ i → Ev (fun k => copselaw03_rises.l0 k l (i : Int)) true := by
 induction d with
 | zero =>
  intro i hd hi
  refine ⟨1, fun k hk => ?_⟩
  obtain ⟨k, rfl⟩ : ∃ m, k = m + 1 := ⟨k - 1, by omega⟩
  simp only [copselaw03_rises.l0]
  rw [if_neg (by omega)]
 | succ d ih =>
  intro i hd hi
  have h1 := hf.at_ (show i - 1 < l.length by omega)
  have h2 := hf.at_ (show i < l.length by omega)
  obtain ⟨K, hK⟩ := ih (i + 1) (by omega) (by omega)
  obtain ⟨K1, hK1⟩ := prog_cmp (rdOf ByteArray.empty l ((i - 1 : Nat) : Int)) (rdOf ByteArray.empty l (i : Int)) (by omega) (by omega)
  have hlt : cB (rdOf ByteArray.empty l ((i - 1 : Nat) : Int)) (rdOf ByteArray.empty l (i : Int)) < 0 := by
   have := List.pairwise_iff_getElem.1 hr (i - 1) i (by omega) (by omega) (by omega)
   simpa [rdOf, List.getD_eq_getElem?_getD, List.getElem?_eq_getElem (show i - 1 < l.length by omega), List.getElem?_eq_getElem (show i < l.length by omega)] using this
  have ew : wrap64 ((i : Int) - 1) = ((i - 1 : Nat) : Int) := by rw [wrap_add (by omega) (by omega)]; omega
  dsimp only at hK hK1
  refine ⟨max K K1 + 1, fun k hk => ?_⟩
  obtain ⟨k, rfl⟩ : ∃ m, k = m + 1 := ⟨k - 1, by omega⟩
  simp only [copselaw03_rises.l0]
  rw [if_pos (by omega), ew, if_pos (by omega), if_pos (by omega), if_pos (by omega), hK1 k (by omega), Option.bind_some, if_neg (by omega), wrap_succ (n := l.length) (by omega) (by omega)]
  exact hK k (by omega)
theorem rises_ev (l : List ByteArray) (hl : l.length ≤ 4294967296) (hf : Fits l) (hr : Rises l) : Ev (fun k => copselaw03_rises.f k l) true := rises_run l hl hf hr _ 1 rfl (by omega)
theorem same_length {l m : List ByteArray} (hl : l.Nodup) (hm : m.Nodup) (h : ∀ z, z ∈ l ↔ z ∈ m) : l.length = m.length :=
 Nat.le_antisymm (hl.length_le_of_subset fun z hz => (h z).1 hz) (hm.length_le_of_subset fun z hz => (h z).2 hz)
theorem split_length (p : ByteArray → Bool) (l : List ByteArray) : (l.filter p).length + (l.filter fun x => !p x).length = l.length := by
 induction l with
 | nil => rfl
 | cons x r ih => cases h : p x <;> simp [h] <;> omega
theorem union_length {n m u i : List ByteArray} (hn : n.Nodup) (hm : m.Nodup) (hu : u.Nodup) (hi : i.Nodup) (eu : ∀ z, z ∈ u ↔ z ∈ n ∨ z ∈ m) (ei : ∀ z, z ∈ i ↔ z ∈ n ∧ z ∈ m) : u.length + i.length = n.length + m.length := by
 have e1 : u.length = (n ++ m.filter fun x => !decide (x ∈ n)).length := by
  refine same_length hu ?_ fun z => ?_
  ·rw [List.nodup_append]
   refine ⟨hn, hm.sublist List.filter_sublist, fun a ha b hb => ?_⟩
   rintro rfl
   have := (List.mem_filter.1 hb).2
   simp [ha] at this
  ·rw [eu, List.mem_append, List.mem_filter]
   constructor
   ·rintro (h | h)
    ·exact .inl h
    ·by_cases c : z ∈ n
     ·exact .inl c
     ·exact .inr ⟨h, by simp [c]⟩
   ·rintro (h | h)
    ·exact .inl h
    ·exact .inr h.1
 have e2 : i.length = (m.filter fun x => decide (x ∈ n)).length := by
  refine same_length hi (hm.sublist List.filter_sublist) fun z => ?_
  rw [ei, List.mem_filter]
  constructor
  ·rintro ⟨h1, h2⟩; exact ⟨h2, by simp [h1]⟩
  ·rintro ⟨h1, h2⟩; exact ⟨by simpa using h2, h1⟩
 have e3 := split_length (fun x => decide (x ∈ n)) m
 rw [List.length_append] at e1
 omega
theorem sets_l3 (a : List ByteArray) (hfa : Fits a) (i : Nat) (hi : i < a.length) (h : List ByteArray) (hh : h.length ≤ 1073741824) (hfh : Fits h) (dl : List ByteArray) (hdl : dl.length ≤ 1073741824) (hin : dirB (rdOf ByteArray.empty a (i : Int)) ∈ dl) (next : Ev (fun k => copselaw03_PathsSets.l2 k a h dl (wrap64 ((i : Int) + 1))) true) (d : Nat) :
  ∀ (j : Nat) (un : Bool), h.length - j = d → j ≤ h.length → (un = true ∨ ∃ x ∈ h.drop j, x = rdOf ByteArray.empty a (i : Int) ∨ aboveB x (rdOf ByteArray.empty a (i : Int)) = true) → Ev (fun k => copselaw03_PathsSets.l3 k a h dl (i : Int) un (j : Int)) true := by
 have hz := hfa.at_ hi
 induction d with
 | zero =>
  intro j un hd hj hu
  rw [List.drop_of_length_le (by omega)] at hu
  have hu : un = true := by rcases hu with h | ⟨x, hx, _⟩; exact h; cases hx
  subst hu
  obtain ⟨K, hK⟩ := next
  obtain ⟨K1, hK1⟩ := prog_dir (rdOf ByteArray.empty a (i : Int)) (by omega)
  obtain ⟨K2, hK2⟩ := prog_has dl (dirB (rdOf ByteArray.empty a (i : Int))) (by omega)
  rw [decide_eq_true hin] at hK2
  dsimp only at hK hK1 hK2
  refine ⟨max K (max K1 K2) + 1, fun k hk => ?_⟩
  obtain ⟨k, rfl⟩ : ∃ m, k = m + 1 := ⟨k - 1, by omega⟩
  simp only [copselaw03_PathsSets.l3]
  rw [if_neg (by omega), if_pos trivial, if_pos (by omega), if_pos (by omega), hK1 k (by omega), Option.bind_some, hK2 k (by omega), Option.bind_some, if_pos rfl]
  exact hK k (by omega)
 | succ d ih =>
  intro j un hd hj hu
  have hy := hfh.at_ (show j < h.length by omega)
  have ew : wrap64 ((j : Int) + 1) = ((j + 1 : Nat) : Int) := wrap_succ (n := h.length) (by omega) (by omega)
  rw [rdOf_drop h j (by omega)] at hu
  have up : ∀ un2 : Bool, ((un = true ∨ (rdOf ByteArray.empty h (j : Int)) = rdOf ByteArray.empty a (i : Int) ∨ aboveB (rdOf ByteArray.empty h (j : Int)) (rdOf ByteArray.empty a (i : Int)) = true) → un2 = true) → Ev (fun k => copselaw03_PathsSets.l3 k a h dl (i : Int) un2 ((j + 1 : Nat) : Int)) true := fun un2 h2 => by
   refine ih (j + 1) un2 (by omega) (by omega) ?_
   rcases hu with h | ⟨x, hx, e⟩
   ·exact .inl (h2 (.inl h))
   ·rcases List.mem_cons.1 hx with rfl | hx
    ·exact .inl (h2 (.inr e))
    ·exact .inr ⟨x, hx, e⟩
  cases un with
  | true =>
   obtain ⟨K, hK⟩ := up true (fun _ => rfl)
   dsimp only at hK
   refine ⟨K + 1, fun k hk => ?_⟩
   obtain ⟨k, rfl⟩ : ∃ m, k = m + 1 := ⟨k - 1, by omega⟩
   simp only [copselaw03_PathsSets.l3]
   rw [if_pos (by omega), if_pos trivial, ew]
   exact hK k (by omega)
  | false =>
   by_cases c : rdOf ByteArray.empty h (j : Int) = rdOf ByteArray.empty a (i : Int)
   ·obtain ⟨K, hK⟩ := up true (fun _ => rfl)
    dsimp only at hK
    refine ⟨K + 1, fun k hk => ?_⟩
    obtain ⟨k, rfl⟩ : ∃ m, k = m + 1 := ⟨k - 1, by omega⟩
    simp only [copselaw03_PathsSets.l3]
    rw [if_pos (by omega), if_neg (by simp), if_pos (by omega), if_pos (by omega), if_pos (by omega), if_pos (by rw [c]), ew]
    exact hK k (by omega)
   ·obtain ⟨K, hK⟩ := up (aboveB (rdOf ByteArray.empty h (j : Int)) (rdOf ByteArray.empty a (i : Int))) (fun q => by
     rcases q with q | q | q
     ·cases q
     ·exact absurd q c
     ·exact q)
    obtain ⟨K1, hK1⟩ := prog_above (rdOf ByteArray.empty h (j : Int)) (rdOf ByteArray.empty a (i : Int)) (by omega) (by omega)
    dsimp only at hK hK1
    refine ⟨max K K1 + 1, fun k hk => ?_⟩
    obtain ⟨k, rfl⟩ : ∃ m, k = m + 1 := ⟨k - 1, by omega⟩
    simp only [copselaw03_PathsSets.l3]
    rw [if_pos (by omega), if_neg (by simp), if_pos (by omega), if_pos (by omega), if_pos (by omega), if_neg (fun e => c (bs_inj (by rw [← toList_bs, ← toList_bs]; exact e))), hK1 k (by omega), Option.bind_some, ew]
    exact hK k (by omega)
section
variable (a b : List ByteArray) (ha : a.length ≤ 1073741824) (hb : b.length ≤ 1073741824) (hfa : Fits a) (hfb : Fits b)
include ha hfa
theorem sets_l2 (d : Nat) : ∀ i : Nat, a.length - i = d → i ≤ a.length → Ev (fun k => copselaw03_PathsSets.l2 k a (heads a) (norm (a.map dirB)) (i : Int)) true := by
 have hh := heads_length a
 have hn := norm_length_le (a.map dirB)
 rw [List.length_map] at hn
 induction d with
 | zero =>
  intro i hd hi
  refine ⟨1, fun k hk => ?_⟩
  obtain ⟨k, rfl⟩ : ∃ m, k = m + 1 := ⟨k - 1, by omega⟩
  simp only [copselaw03_PathsSets.l2]
  rw [if_neg (by omega)]
 | succ d ih =>
  intro i hd hi
  have hm := rd_mem a i (by omega)
  have nx := ih (i + 1) (by omega) (by omega)
  have ew : wrap64 ((i : Int) + 1) = ((i + 1 : Nat) : Int) := wrap_succ (n := a.length) (by omega) (by omega)
  rw [← ew] at nx
  obtain ⟨K, hK⟩ := sets_l3 a hfa i (by omega) (heads a) (by omega) (fits_heads hfa) (norm (a.map dirB)) (by omega) (mem_norm.2 (List.mem_map.2 ⟨_, hm, rfl⟩)) nx _ 0 false rfl (by omega) (.inr (by
   obtain ⟨x, hx, e⟩ := head_of a _ _ hm rfl
   exact ⟨x, by simpa using hx, e⟩))
  dsimp only at hK
  refine ⟨K + 1, fun k hk => ?_⟩
  obtain ⟨k, rfl⟩ : ∃ m, k = m + 1 := ⟨k - 1, by omega⟩
  simp only [copselaw03_PathsSets.l2]
  rw [if_pos (by omega)]
  exact hK k (by omega)
theorem sets_l1 (d : Nat) : ∀ i : Nat, (heads a).length - i = d → i ≤ (heads a).length → Ev (fun k => copselaw03_PathsSets.l1 k a (heads a) (norm (a.map dirB)) (i : Int)) true := by
 have hh := heads_length a
 have l2 := sets_l2 a ha hfa _ 0 rfl (by omega)
 have hfh := fits_heads hfa
 have hin : ∀ i, i < (heads a).length → rdOf ByteArray.empty (heads a) (i : Int) ∈ a ∧ ∀ y ∈ a, aboveB y (rdOf ByteArray.empty (heads a) (i : Int)) = false := fun i hi => mem_heads.1 (rd_mem _ i hi)
 generalize heads a = h at hh l2 hfh hin ⊢
 induction d with
 | zero =>
  intro i hd hi
  obtain ⟨K, hK⟩ := l2
  dsimp only at hK
  refine ⟨K + 1, fun k hk => ?_⟩
  obtain ⟨k, rfl⟩ : ∃ m, k = m + 1 := ⟨k - 1, by omega⟩
  simp only [copselaw03_PathsSets.l1]
  rw [if_neg (by omega)]
  exact hK k (by omega)
 | succ d ih =>
  intro i hd hi
  have hy := hfh.at_ (show i < h.length by omega)
  obtain ⟨K, hK⟩ := ih (i + 1) (by omega) (by omega)
  obtain ⟨K1, hK1⟩ := prog_has a (rdOf ByteArray.empty h (i : Int)) (by omega)
  rw [decide_eq_true (hin i (by omega)).1] at hK1
  have ew : wrap64 ((i : Int) + 1) = ((i + 1 : Nat) : Int) := wrap_succ (n := h.length) (by omega) (by omega)
  dsimp only at hK hK1
  by_cases c : i = 0
  ·subst c
   refine ⟨max K K1 + 1, fun k hk => ?_⟩
   obtain ⟨k, rfl⟩ : ∃ m, k = m + 1 := ⟨k - 1, by omega⟩
   simp only [copselaw03_PathsSets.l1]
   rw [if_pos (by omega), if_pos (by omega), hK1 k (by omega), Option.bind_some, if_pos rfl, if_neg (by omega), ew]
   exact hK k (by omega)
  ·have hx := hfh.at_ (show i - 1 < h.length by omega)
   obtain ⟨K2, hK2⟩ := prog_above (rdOf ByteArray.empty h ((i - 1 : Nat) : Int)) (rdOf ByteArray.empty h (i : Int)) (by omega) (by omega)
   rw [(hin i (by omega)).2 _ (hin (i - 1) (by omega)).1] at hK2
   have ew2 : wrap64 ((i : Int) - 1) = ((i - 1 : Nat) : Int) := by rw [wrap_add (by omega) (by omega)]; omega
   dsimp only at hK2
   refine ⟨max K (max K1 K2) + 1, fun k hk => ?_⟩
   obtain ⟨k, rfl⟩ : ∃ m, k = m + 1 := ⟨k - 1, by omega⟩
   simp only [copselaw03_PathsSets.l1]
   rw [if_pos (by omega), if_pos (by omega), hK1 k (by omega), Option.bind_some, if_pos rfl, if_pos (by omega), ew2, if_pos (by omega), if_pos (by omega), hK2 k (by omega), Option.bind_some, if_neg (by simp), ew]
   exact hK k (by omega)
theorem sets_l0 (u i d : List ByteArray) (hu : u.length ≤ 4294967296) (hi : i.length ≤ 4294967296) (hd : d.length ≤ 4294967296) (hb : b.length ≤ 4294967296) (eu : ∀ x ∈ a, x ∈ u) (ei : ∀ x ∈ a, (x ∈ i ↔ x ∈ b)) (ed : ∀ x ∈ a, (x ∈ d ↔ x ∉ b)) (n : Nat) :
  ∀ j : Nat, a.length - j = n → j ≤ a.length → Ev (fun k => copselaw03_PathsSets.l0 k a b u i d (j : Int)) true := by
 induction n with
 | zero =>
  intro j hn hj
  have hn2 := norm_length_le (a.map dirB)
  rw [List.length_map] at hn2
  have hh := heads_length a
  have fd : Fits (norm (a.map dirB)) := fun p hp => by
   obtain ⟨q, hq, rfl⟩ := List.mem_map.1 (mem_norm.1 hp)
   have := dirB_size q; have := hfa q hq; omega
  have fin : Ev (fun k => copselaw03_PathsSets.j3 k a (heads a) (norm (a.map dirB)) (!true)) true := by
   obtain ⟨K, hK⟩ := sets_l1 a ha hfa _ 0 rfl (by omega)
   dsimp only at hK
   refine ⟨K + 1, fun k hk => ?_⟩
   obtain ⟨k, rfl⟩ : ∃ m, k = m + 1 := ⟨k - 1, by omega⟩
   simp only [copselaw03_PathsSets.j3, Bool.not_true, Bool.false_eq_true, if_false]
   exact hK k (by omega)
  refine Ev.step (f := fun k => (paths_Heads.f k a).bind fun t455 => ((paths_Dirs.f k a).bind fun t458 => ((copselaw03_rises.f k t455).bind fun t461 => (if t461 = true then ((copselaw03_rises.f k t458).bind fun t462 => (copselaw03_PathsSets.j3 k a t455 t458 (!t462))) else (copselaw03_PathsSets.j3 k a t455 t458 true))))) (fun k => ?_) ?_
  ·simp only [copselaw03_PathsSets.l0]
   rw [if_neg (by omega)]
  ·refine Ev.bind (prog_heads a ha hfa) (Ev.bind (prog_dirs a ha hfa) (Ev.bind (rises_ev _ (by omega) (fits_heads hfa) (rises_heads a)) ?_))
   simp only [if_true]
   exact Ev.bind (rises_ev _ (by omega) fd (rises_norm _)) fin
 | succ n ih =>
  intro j hn hj
  have hm := rd_mem a j (by omega)
  obtain ⟨K, hK⟩ := ih (j + 1) (by omega) (by omega)
  obtain ⟨K1, hK1⟩ := prog_has u (rdOf ByteArray.empty a (j : Int)) hu
  obtain ⟨K2, hK2⟩ := prog_has b (rdOf ByteArray.empty a (j : Int)) hb
  obtain ⟨K3, hK3⟩ := prog_has i (rdOf ByteArray.empty a (j : Int)) hi
  obtain ⟨K4, hK4⟩ := prog_has d (rdOf ByteArray.empty a (j : Int)) hd
  rw [decide_eq_true (eu _ hm)] at hK1
  have e3 : decide (rdOf ByteArray.empty a (j : Int) ∈ i) = decide (rdOf ByteArray.empty a (j : Int) ∈ b) := decide_eq_decide.2 (ei _ hm)
  have e4 : decide (rdOf ByteArray.empty a (j : Int) ∈ d) = !decide (rdOf ByteArray.empty a (j : Int) ∈ b) := by simp [ed _ hm]
  rw [e3] at hK3
  rw [e4] at hK4
  generalize decide (rdOf ByteArray.empty a (j : Int) ∈ b) = q at hK2 hK3 hK4
  have ew : wrap64 ((j : Int) + 1) = ((j + 1 : Nat) : Int) := wrap_succ (n := a.length) (by omega) (by omega)
  dsimp only at hK hK1 hK2 hK3 hK4
  refine ⟨max K (max K1 (max K2 (max K3 K4))) + 1, fun k hk => ?_⟩
  obtain ⟨k, rfl⟩ : ∃ m, k = m + 1 := ⟨k - 1, by omega⟩
  simp only [copselaw03_PathsSets.l0]
  rw [if_pos (by omega), if_pos (by omega), hK1 k (by omega), Option.bind_some, if_pos rfl, hK2 k (by omega), Option.bind_some, hK3 k (by omega), Option.bind_some, if_neg (by simp), hK4 k (by omega), Option.bind_some, Option.bind_some, if_neg (by cases q <;> simp), ew]
  exact hK k (by omega)
include hb hfb
theorem PathsSets : ∃ k, copselaw03_PathsSets.f k a b = some true := by
 refine Ev.rounds (g := fun k => copselaw03_PathsSets.f k a b) ?_
 have sub : ∀ (p : ByteArray → Bool), (norm (a.filter p)).length ≤ a.length := fun p => Nat.le_trans (norm_length_le _) (List.length_filter_le _ _)
 have fsub : ∀ (p : ByteArray → Bool), Fits (norm (a.filter p)) := fun p => fits_norm fun x hx => hfa x (List.mem_filter.1 hx).1
 have hn := norm_length_le a
 have hm := norm_length_le b
 have hu : (norm (a ++ b)).length ≤ a.length + b.length := by have := norm_length_le (a ++ b); simpa using this
 have fu : Fits (norm (a ++ b)) := fits_norm fun x hx => by
  rcases List.mem_append.1 hx with h | h
  ·exact hfa x h
  ·exact hfb x h
 have hi := sub fun x => decide (x ∈ b) == true
 have hd := sub fun x => decide (x ∈ b) == false
 have fi := fsub fun x => decide (x ∈ b) == true
 have fd := fsub fun x => decide (x ∈ b) == false
 have mi : ∀ z, z ∈ norm (a.filter fun x => decide (x ∈ b) == true) ↔ z ∈ a ∧ z ∈ b := fun z => by rw [mem_norm, List.mem_filter]; simp
 have md : ∀ z, z ∈ norm (a.filter fun x => decide (x ∈ b) == false) ↔ z ∈ a ∧ z ∉ b := fun z => by rw [mem_norm, List.mem_filter]; simp
 have mu : ∀ z, z ∈ norm (a ++ b) ↔ z ∈ a ∨ z ∈ b := fun z => by rw [mem_norm, List.mem_append]
 have vu : Ev (fun k => paths_Union.f k a b) (norm (a ++ b)) := prog_union a b ha hb hfa hfb
 have vm := prog_meet a b ha hb hfa hfb
 have vd := prog_minus a b ha hb hfa hfb
 have ri := rises_norm (a.filter fun x => decide (x ∈ b) == true)
 have rd := rises_norm (a.filter fun x => decide (x ∈ b) == false)
 have ru := rises_norm (a ++ b)
 have l0 := sets_l0 a b ha hfa (norm (a ++ b)) (norm (a.filter fun x => decide (x ∈ b) == true)) (norm (a.filter fun x => decide (x ∈ b) == false)) (by omega) (by omega) (by omega) (by omega) (fun x hx => (mu x).2 (.inl hx)) (fun x hx => by rw [mi]; simp [hx]) (fun x hx => by rw [md]; simp [hx]) _ 0 rfl (by omega)
 have v3 : Ev (fun k => paths_Union.f k (norm (a.filter fun x => decide (x ∈ b) == true)) (norm (a.filter fun x => decide (x ∈ b) == false))) (norm a) := by
  refine Ev.val (prog_union _ _ (by omega) (by omega) fi fd) (norm_congr fun z => ?_)
  rw [List.mem_append, mi, md]
  by_cases c : z ∈ b <;> simp [c]
 have v4 : Ev (fun k => paths_Meet.f k b a) (norm (a.filter fun x => decide (x ∈ b) == true)) := by
  refine Ev.val (prog_meet b a hb ha hfb hfa) (norm_congr fun z => ?_)
  rw [List.mem_filter, List.mem_filter]
  simp [and_comm]
 have v5 : Ev (fun k => paths_Union.f k b a) (norm (a ++ b)) := by
  refine Ev.val (prog_union b a hb ha hfb hfa) (norm_congr fun z => ?_)
  rw [List.mem_append, List.mem_append]
  exact or_comm
 have v6 : Ev (fun k => paths_Meet.f k (norm (a.filter fun x => decide (x ∈ b) == false)) b) [] := by
  refine Ev.val (prog_meet _ b (by omega) hb fd hfb) ?_
  have e : (norm (a.filter fun x => decide (x ∈ b) == false)).filter (fun x => decide (x ∈ b) == true) = [] := by
   rw [List.filter_eq_nil_iff]
   intro z hz
   have := ((md z).1 hz).2
   simp [this]
  rw [e]; rfl
 have elen := union_length (rises_nodup (rises_norm a)) (rises_nodup (rises_norm b)) (rises_nodup ru) (rises_nodup ri) (fun z => by rw [mu, mem_norm, mem_norm]) (fun z => by rw [mi, mem_norm, mem_norm])
 have vr1 := rises_ev (norm a) (by omega) (fits_norm hfa) (rises_norm a)
 have vr2 := rises_ev (norm b) (by omega) (fits_norm hfb) (rises_norm b)
 have vr3 := rises_ev _ (by omega) fu ru
 have vr4 := rises_ev _ (by omega) fi ri
 have vr5 := rises_ev _ (by omega) fd rd
 have vn : Ev (fun k => paths_Norm.f k (norm a)) (norm a) := Ev.val (prog_norm (norm a) (by omega) (fits_norm hfa)) (norm_of_rises (rises_norm a))
 refine Ev.bind (prog_norm a (by omega) hfa) (Ev.bind (prog_norm b (by omega) hfb) (Ev.bind vu (Ev.bind vm (Ev.bind vd (Ev.bind alive_ev ?_)))))
 generalize norm (a.filter fun x => decide (x ∈ b) == true) = i at *
 generalize norm (a.filter fun x => decide (x ∈ b) == false) = d at *
 generalize norm (a ++ b) = u at *
 generalize norm a = n at *
 generalize norm b = m at *
 simp only [if_true]
 refine Ev.bind vr1 ?_
 simp only [if_true]
 refine Ev.bind vr2 ?_
 simp only [if_true]
 refine Ev.bind vr3 ?_
 simp only [if_true]
 refine Ev.bind vr4 ?_
 simp only [if_true]
 refine Ev.bind vr5 ?_
 simp only [if_true]
 refine Ev.bind vn (Ev.bind (texts_same n (by omega)) ?_)
 have j1 : Ev (fun k => copselaw03_PathsSets.j1 k a b u i d false) true := by
  obtain ⟨K, hK⟩ := l0
  dsimp only at hK
  refine ⟨K + 1, fun k hk => ?_⟩
  obtain ⟨k, rfl⟩ : ∃ m, k = m + 1 := ⟨k - 1, by omega⟩
  simp only [copselaw03_PathsSets.j1, Bool.false_eq_true, if_false]
  exact hK k (by omega)
 refine Ev.step (f := fun k => (paths_Union.f k i d).bind fun t430 => ((copselaw03_texts.f k t430 n).bind fun t433 => (if t433 = true then ((paths_Meet.f k b a).bind fun t434 => ((copselaw03_texts.f k t434 i).bind fun t437 => (if t437 = true then ((paths_Union.f k b a).bind fun t438 => ((copselaw03_texts.f k t438 u).bind fun t441 => (if t441 = true then (if (wrap64 ((u.length : Int) + (i.length : Int))) = (wrap64 ((n.length : Int) + (m.length : Int))) then ((paths_Meet.f k d b).bind fun t442 => (copselaw03_PathsSets.j1 k a b u i d ((t442.length : Int) != 0))) else (copselaw03_PathsSets.j1 k a b u i d true)) else (copselaw03_PathsSets.j1 k a b u i d true)))) else (copselaw03_PathsSets.j1 k a b u i d true)))) else (copselaw03_PathsSets.j1 k a b u i d true)))) (fun k => ?_) ?_
 ·simp only [copselaw03_PathsSets.j0, Bool.not_true, Bool.false_eq_true, if_false]
 ·refine Ev.bind v3 (Ev.bind (texts_same n (by omega)) ?_)
  simp only [if_true]
  refine Ev.bind v4 (Ev.bind (texts_same i (by omega)) ?_)
  simp only [if_true]
  refine Ev.bind v5 (Ev.bind (texts_same u (by omega)) ?_)
  simp only [if_true]
  rw [show (u.length : Int) + (i.length : Int) = (n.length : Int) + (m.length : Int) by omega]
  simp only [if_true]
  exact Ev.bind v6 j1
end
end Go.Proofs.YtdfkaclflmgkeaaDoor.PAll
