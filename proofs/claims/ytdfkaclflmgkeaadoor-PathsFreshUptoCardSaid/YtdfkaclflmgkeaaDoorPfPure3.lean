/- Norm, Union, Minus, Meet, Dirs of lists of texts: what the printed functions answer. -/
import Derived.Test.YtdfkaclflmgkeaaDoorPfPAllx0
import Derived.Test.YtdfkaclflmgkeaaDoorPfHandB
import Derived.Test.YtdfkaclflmgkeaaDoorPfHandN
import Derived.Test.YtdfkaclflmgkeaaDoorPfPAlly2
import Derived.Test.YtdfkaclflmgkeaaDoorPfPAlly3
import Derived.Test.YtdfkaclflmgkeaaDoorPfPAlly4
import Derived.Test.YtdfkaclflmgkeaaDoorPfPure1
import Derived.Test.YtdfkaclflmgkeaaDoorPfPure2
import Derived.Test.YtdfkaclflmgkeaaDoorPfSpec
namespace Go.Proofs.YtdfkaclflmgkeaaDoor.PAll
open Go.RowKit Go.Proofs.YtdfkaclflmgkeaaDoorW.PrintWords Go.Proofs.YtdfkaclflmgkeaaDoorW.PrintLast Go.Proofs.YtdfkaclflmgkeaaDoorW.PrintMore
open Go.Proofs.YtdfkaclflmgkeaaDoor.Sp
abbrev Fits (l : List ByteArray) : Prop := ∀ p ∈ l, p.size ≤ 1073741824
theorem Fits.at_ {l : List ByteArray} (h : Fits l) {i : Nat} (hi : i < l.length) : (rdOf ByteArray.empty l (i : Int)).size ≤ 1073741824 :=
 h _ (List.mem_of_mem_drop (i := i) (by rw [rdOf_drop l i hi]; exact List.mem_cons_self))
def put (x : ByteArray) : List ByteArray → List ByteArray
 | [] => [x]
 | y :: l => if cB x y < 0 then x :: y :: l else y :: put x l
theorem put_length (x : ByteArray) : ∀ l, (put x l).length = l.length + 1
 | [] => rfl
 | y :: l => by unfold put; split <;> simp [put_length x l]
theorem mem_put {x z : ByteArray} : ∀ {l : List ByteArray}, z ∈ put x l ↔ z = x ∨ z ∈ l
 | [] => by simp [put]
 | y :: l => by
  unfold put
  split
  ·simp
  ·simp only [List.mem_cons, mem_put (l := l)]
   constructor <;> (intro h; rcases h with h | h | h <;> simp [h])
theorem put_ins {x : ByteArray} : ∀ {l : List ByteArray}, x ∉ l → put x l = ins x l
 | [], _ => rfl
 | y :: l, h => by
  unfold put ins
  split
  ·rfl
  ·rw [if_neg (fun e => h (by rw [e]; exact List.mem_cons_self)), put_ins (fun hx => h (List.mem_cons_of_mem _ hx))]
theorem ins_mem {x : ByteArray} {l : List ByteArray} (h : Rises l) (hx : x ∈ l) : ins x l = l :=
 rises_uniq _ _ (rises_ins h) h fun z => by
  rw [mem_ins]
  constructor
  ·rintro (rfl | h)
   ·exact hx
   ·exact h
  ·exact .inr
theorem norm_fold_ins : ∀ (l acc : List ByteArray), Rises acc → l.foldl (fun acc x => if x ∈ acc then acc else put x acc) acc = l.foldl (fun acc x => ins x acc) acc
 | [], _, _ => rfl
 | x :: l, acc, h => by
  simp only [List.foldl_cons]
  have e : (if x ∈ acc then acc else put x acc) = ins x acc := by
   split
   ·rename_i hx; exact (ins_mem h hx).symm
   ·rename_i hx; exact put_ins hx
  rw [e]
  exact norm_fold_ins l _ (rises_ins h)
theorem ref_norm_in (x0 out : List ByteArray) (i : Nat) (hi : i < x0.length) (hx0 : x0.length ≤ 4294967296) (ho : out.length ≤ 4294967296) (hf0 : Fits x0) (hfo : Fits out) (R : List ByteArray) (d : Nat) :
  ∀ (kk : Nat) (next : List ByteArray) (laid : Bool), out.length - kk = d → kk ≤ out.length → next.length ≤ 2 * kk →
   Ev (fun k => copseref03_Norm.l0 k x0 (next ++ (if laid = true then out.drop kk else put (rdOf ByteArray.empty x0 (i : Int)) (out.drop kk))) ((i + 1 : Nat) : Int)) R →
   Ev (fun k => copseref03_Norm.l1 k x0 out (i : Int) next laid (kk : Int)) R := by
 induction d with
 | zero =>
  intro kk next laid hd hk hn ⟨K, hK⟩
  dsimp only at hK
  refine ⟨K + 1, fun k hk => ?_⟩
  obtain ⟨k, rfl⟩ : ∃ m, k = m + 1 := ⟨k - 1, by omega⟩
  simp only [copseref03_Norm.l1]
  rw [List.drop_of_length_le (l := out) (by omega)] at hK
  rw [if_neg (by omega)]
  cases laid with
  | true =>
   rw [if_pos rfl] at hK
   rw [if_pos rfl]
   rw [List.append_nil] at hK
   rw [wrap_succ (n := x0.length) (by omega) (by omega)]
   exact hK k (by omega)
  | false =>
   rw [if_neg (by decide)] at hK ⊢
   rw [if_pos (by omega), if_pos (by omega), if_pos (by omega), wrap_succ (n := x0.length) (by omega) (by omega)]
   exact hK k (by omega)
 | succ d ih =>
  intro kk next laid hd hk hn h
  have hlt : kk < out.length := by omega
  rw [rdOf_drop out kk hlt] at h
  cases laid with
  | true =>
   obtain ⟨K, hK⟩ := ih (kk + 1) (next ++ [rdOf ByteArray.empty out (kk : Int)]) true (by omega) (by omega) (by simp; omega) (by
    rw [if_pos rfl] at h ⊢
    rw [List.append_assoc]; exact h)
   dsimp only at hK
   refine ⟨K + 1, fun k hk => ?_⟩
   obtain ⟨k, rfl⟩ : ∃ m, k = m + 1 := ⟨k - 1, by omega⟩
   simp only [copseref03_Norm.l1]
   rw [if_pos (by omega), if_pos trivial, if_pos (by omega), if_pos (by omega), wrap_succ (n := out.length) (by omega) (by omega)]
   exact hK k (by omega)
  | false =>
   have hs1 := hf0.at_ hi
   have hs2 := hfo.at_ hlt
   obtain ⟨K2, hK2⟩ := ref_cmp (rdOf ByteArray.empty x0 (i : Int)) (rdOf ByteArray.empty out (kk : Int)) (by omega) (by omega)
   dsimp only at hK2
   rw [if_neg (by decide)] at h
   unfold put at h
   by_cases c : cB (rdOf ByteArray.empty x0 (i : Int)) (rdOf ByteArray.empty out (kk : Int)) < 0
   ·rw [if_pos c] at h
    obtain ⟨K, hK⟩ := ih (kk + 1) (next ++ [rdOf ByteArray.empty x0 (i : Int)] ++ [rdOf ByteArray.empty out (kk : Int)]) true (by omega) (by omega) (by simp; omega) (by
     rw [if_pos rfl, List.append_assoc, List.append_assoc]; exact h)
    dsimp only at hK
    refine ⟨max K K2 + 1, fun k hk => ?_⟩
    obtain ⟨k, rfl⟩ : ∃ m, k = m + 1 := ⟨k - 1, by omega⟩
    simp only [copseref03_Norm.l1]
    rw [if_pos (by omega), if_neg (by decide), if_pos (by omega), if_pos (by omega), if_pos (by omega), hK2 k (by omega), Option.bind_some, if_pos c, if_pos (by omega), Option.bind_some, if_pos (by rw [List.length_append, List.length_singleton]; omega), wrap_succ (n := out.length) (by omega) (by omega)]
    exact hK k (by omega)
   ·rw [if_neg c] at h
    obtain ⟨K, hK⟩ := ih (kk + 1) (next ++ [rdOf ByteArray.empty out (kk : Int)]) false (by omega) (by omega) (by simp; omega) (by
     rw [if_neg (by decide), List.append_assoc]; exact h)
    dsimp only at hK
    refine ⟨max K K2 + 1, fun k hk => ?_⟩
    obtain ⟨k, rfl⟩ : ∃ m, k = m + 1 := ⟨k - 1, by omega⟩
    simp only [copseref03_Norm.l1]
    rw [if_pos (by omega), if_neg (by decide), if_pos (by omega), if_pos (by omega), if_pos (by omega), hK2 k (by omega), Option.bind_some, if_neg c, if_pos (by omega), wrap_succ (n := out.length) (by omega) (by omega)]
    exact hK k (by omega)
theorem ref_norm_run (x0 : List ByteArray) (hx0 : x0.length ≤ 4294967295) (hf0 : Fits x0) (d : Nat) : ∀ (i : Nat) (acc : List ByteArray), x0.length - i = d → i ≤ x0.length → acc.length ≤ i → Fits acc →
  Ev (fun k => copseref03_Norm.l0 k x0 acc (i : Int)) ((x0.drop i).foldl (fun acc x => if x ∈ acc then acc else put x acc) acc) := by
 induction d with
 | zero =>
  intro i acc hd hi ha hf
  refine ⟨1, fun k hk => ?_⟩
  obtain ⟨k, rfl⟩ : ∃ m, k = m + 1 := ⟨k - 1, by omega⟩
  simp only [copseref03_Norm.l0]
  rw [if_neg (by omega), List.drop_of_length_le (by omega)]; rfl
 | succ d ih =>
  intro i acc hd hi ha hf
  have hlt : i < x0.length := by omega
  rw [rdOf_drop x0 i hlt, List.foldl_cons]
  obtain ⟨K2, hK2⟩ := ref_has acc (rdOf ByteArray.empty x0 (i : Int)) (by omega)
  dsimp only at hK2
  by_cases h : rdOf ByteArray.empty x0 (i : Int) ∈ acc
  ·obtain ⟨K, hK⟩ := ih (i + 1) acc (by omega) (by omega) (by omega) hf
   dsimp only at hK
   rw [if_pos h]
   refine ⟨max K K2 + 1, fun k hk => ?_⟩
   obtain ⟨k, rfl⟩ : ∃ m, k = m + 1 := ⟨k - 1, by omega⟩
   simp only [copseref03_Norm.l0]
   rw [if_pos (by omega), if_pos (by omega), hK2 k (by omega), Option.bind_some, if_pos (by simpa using h), wrap_succ (n := x0.length) (by omega) (by omega)]
   exact hK k (by omega)
  ·rw [if_neg h]
   have hnext := ih (i + 1) (put (rdOf ByteArray.empty x0 (i : Int)) acc) (by omega) (by omega) (by rw [put_length]; omega) (fun p hp => by
    rcases mem_put.1 hp with rfl | hp
    ·exact hf0.at_ hlt
    ·exact hf p hp)
   obtain ⟨K, hK⟩ := ref_norm_in x0 acc i hlt (by omega) (by omega) hf0 hf _ acc.length 0 [] false (by omega) (by omega) (by simp) (by
    rw [if_neg (by decide), List.nil_append, List.drop_zero]; exact hnext)
   dsimp only at hK
   refine ⟨max K K2 + 1, fun k hk => ?_⟩
   obtain ⟨k, rfl⟩ : ∃ m, k = m + 1 := ⟨k - 1, by omega⟩
   simp only [copseref03_Norm.l0]
   rw [if_pos (by omega), if_pos (by omega), hK2 k (by omega), Option.bind_some, if_neg (by simpa using h)]
   exact hK k (by omega)
theorem ref_norm (l : List ByteArray) (hl : l.length ≤ 4294967295) (hf : Fits l) : Ev (fun k => copseref03_Norm.f k l) (norm l) := by
 refine Ev.val (ref_norm_run l hl hf l.length 0 [] (by omega) (by omega) (by simp) (fun p hp => by cases hp)) ?_
 rw [List.drop_zero]
 exact norm_fold_ins l [] List.Pairwise.nil
theorem prog_norm (l : List ByteArray) (hl : l.length ≤ 4294967295) (hf : Fits l) : Ev (fun k => paths_Norm.f k l) (norm l) :=
 ev_pure fun k => by unfold paths_Norm.f; rw [if_pos ⟨by omega, fun x hx => by have := hf x hx; omega⟩]
theorem fits_norm {l : List ByteArray} (h : Fits l) : Fits (norm l) := fun p hp => h p (mem_norm.1 hp)
theorem ref_union (a b : List ByteArray) (ha : a.length ≤ 1073741824) (hb : b.length ≤ 1073741824) (hfa : Fits a) (hfb : Fits b) : Ev (fun k => copseref03_Union.f k a b) (norm (a ++ b)) := by
 refine Ev.congr (f := fun k => (copseref03_Norm.f k (a ++ b)).bind fun t => some t) (fun k => ?_) (Ev.bind (ref_norm (a ++ b) (by rw [List.length_append]; omega) (fun p hp => ?_)) (ev_pure fun _ => rfl))
 ·unfold copseref03_Union.f
  rw [if_pos (by simp only [List.length_nil]; omega), Option.bind_some, if_pos (by simp only [List.nil_append]; omega)]; rfl
 ·rcases List.mem_append.1 hp with hp | hp
  ·exact hfa p hp
  ·exact hfb p hp
theorem ref_some_run (a b : List ByteArray) (inn : Bool) (ha : a.length ≤ 1073741824) (hb : b.length ≤ 1073741824) (hfa : Fits a) (d : Nat) : ∀ (i : Nat) (acc : List ByteArray), a.length - i = d → i ≤ a.length → acc.length ≤ i → Fits acc →
  Ev (fun k => copseref03_some.l0 k a b inn acc (i : Int)) (norm (acc ++ (a.drop i).filter fun x => decide (x ∈ b) == inn)) := by
 induction d with
 | zero =>
  intro i acc hd hi hl hf
  obtain ⟨K, hK⟩ := ref_norm acc (by omega) hf
  dsimp only at hK
  refine ⟨K + 1, fun k hk => ?_⟩
  obtain ⟨k, rfl⟩ : ∃ m, k = m + 1 := ⟨k - 1, by omega⟩
  simp only [copseref03_some.l0]
  rw [if_neg (by omega), hK k (by omega), List.drop_of_length_le (by omega)]; simp
 | succ d ih =>
  intro i acc hd hi hl hf
  have hlt : i < a.length := by omega
  rw [rdOf_drop a i hlt]
  obtain ⟨K2, hK2⟩ := ref_has b (rdOf ByteArray.empty a (i : Int)) (by omega)
  dsimp only at hK2
  by_cases h : (decide (rdOf ByteArray.empty a (i : Int) ∈ b) == inn) = true
  ·obtain ⟨K, hK⟩ := ih (i + 1) (acc ++ [rdOf ByteArray.empty a (i : Int)]) (by omega) (by omega) (by simp; omega) (fun p hp => by
    rcases List.mem_append.1 hp with hp | hp
    ·exact hf p hp
    ·rw [List.mem_singleton.1 hp]; exact hfa.at_ hlt)
   dsimp only at hK
   refine ⟨max K K2 + 1, fun k hk => ?_⟩
   obtain ⟨k, rfl⟩ : ∃ m, k = m + 1 := ⟨k - 1, by omega⟩
   simp only [copseref03_some.l0]
   rw [if_pos (by omega), if_pos (by omega), hK2 k (by omega), Option.bind_some, if_pos h, if_pos (by omega), wrap_succ (n := a.length) (by omega) (by omega), hK k (by omega), List.filter_cons_of_pos (by exact h), List.append_assoc]; rfl
  ·obtain ⟨K, hK⟩ := ih (i + 1) acc (by omega) (by omega) (by omega) hf
   dsimp only at hK
   refine ⟨max K K2 + 1, fun k hk => ?_⟩
   obtain ⟨k, rfl⟩ : ∃ m, k = m + 1 := ⟨k - 1, by omega⟩
   simp only [copseref03_some.l0]
   rw [if_pos (by omega), if_pos (by omega), hK2 k (by omega), Option.bind_some, if_neg h, wrap_succ (n := a.length) (by omega) (by omega), hK k (by omega), List.filter_cons_of_neg (by exact h)]
theorem ref_some (a b : List ByteArray) (inn : Bool) (ha : a.length ≤ 1073741824) (hb : b.length ≤ 1073741824) (hfa : Fits a) : Ev (fun k => copseref03_some.f k a b inn) (norm (a.filter fun x => decide (x ∈ b) == inn)) :=
 Ev.val (ref_some_run a b inn ha hb hfa a.length 0 [] (by omega) (by omega) (by simp) (fun p hp => by cases hp)) (by simp)
theorem ref_minus (a b : List ByteArray) (ha : a.length ≤ 1073741824) (hb : b.length ≤ 1073741824) (hfa : Fits a) : Ev (fun k => copseref03_Minus.f k a b) (norm (a.filter fun x => decide (x ∈ b) == false)) := Ev.bind (ref_some a b false ha hb hfa) (ev_pure fun _ => rfl)
theorem ref_meet (a b : List ByteArray) (ha : a.length ≤ 1073741824) (hb : b.length ≤ 1073741824) (hfa : Fits a) : Ev (fun k => copseref03_Meet.f k a b) (norm (a.filter fun x => decide (x ∈ b) == true)) := Ev.bind (ref_some a b true ha hb hfa) (ev_pure fun _ => rfl)
def mrg (f b s : Bool) : Nat → List ByteArray → List ByteArray → List ByteArray
 | 0, _, _ => []
 | _ + 1, [], [] => []
 | n + 1, x :: l, [] => (if f = true then [x] else []) ++ mrg f b s n l []
 | n + 1, [], y :: m => (if s = true then [y] else []) ++ mrg f b s n [] m
 | n + 1, x :: l, y :: m => if cB x y < 0 then (if f = true then [x] else []) ++ mrg f b s n l (y :: m) else if cB x y = 0 then (if b = true then [y] else []) ++ mrg f b s n l m else (if s = true then [y] else []) ++ mrg f b s n (x :: l) m
theorem mrg_mem (f b s : Bool) : ∀ n (l m : List ByteArray), l.length + m.length ≤ n → Rises l → Rises m → ∀ z, z ∈ mrg f b s n l m ↔ (z ∈ l ∧ z ∉ m ∧ f = true) ∨ (z ∈ l ∧ z ∈ m ∧ b = true) ∨ (z ∉ l ∧ z ∈ m ∧ s = true)
 | 0, [], [], _, _, _, z => by simp [mrg]
 | 0, _ :: _, _, h, _, _, _ => by simp at h
 | 0, [], _ :: _, h, _, _, _ => by simp at h
 | n + 1, [], [], _, _, _, z => by simp [mrg]
 | n + 1, x :: l, [], h, hl, hm, z => by
  have ih := mrg_mem f b s n l [] (by simp at h ⊢; omega) (List.pairwise_cons.1 hl).2 hm z
  simp only [mrg, List.mem_append, ih]
  cases f <;> simp
 | n + 1, [], y :: m, h, hl, hm, z => by
  have ih := mrg_mem f b s n [] m (by simp at h ⊢; omega) hl (List.pairwise_cons.1 hm).2 z
  simp only [mrg, List.mem_append, ih]
  cases s <;> simp
 | n + 1, x :: l, y :: m, h, hl, hm, z => by
  have hl' := List.pairwise_cons.1 hl
  have hm' := List.pairwise_cons.1 hm
  simp only [mrg]
  by_cases c : cB x y < 0
  ·rw [if_pos c, List.mem_append, mrg_mem f b s n l (y :: m) (by simp at h ⊢; omega) hl'.2 hm z]
   have hx : x ∉ y :: m := by
    intro hx
    rcases List.mem_cons.1 hx with e | hx
    ·rw [e, cB_self] at c; omega
    ·have := cB_trans c (hm'.1 x hx); rw [cB_self] at this; omega
   have hxl : x ∉ l := fun hx => by have := hl'.1 x hx; rw [cB_self] at this; omega
   by_cases e : z = x
   ·subst e; cases f <;> simp [hx, hxl]
   ·cases f <;> simp [e]
  ·rw [if_neg c]
   by_cases c0 : cB x y = 0
   ·have e := cB_eq c0
    subst e
    rw [if_pos c0, List.mem_append, mrg_mem f b s n l m (by simp at h ⊢; omega) hl'.2 hm'.2 z]
    have hxl : x ∉ l := fun hx => by have := hl'.1 x hx; rw [cB_self] at this; omega
    have hxm : x ∉ m := fun hx => by have := hm'.1 x hx; rw [cB_self] at this; omega
    by_cases e : z = x
    ·subst e; cases b <;> simp [hxl, hxm]
    ·cases b <;> simp [e]
   ·rw [if_neg c0, List.mem_append, mrg_mem f b s n (x :: l) m (by simp at h ⊢; omega) hl hm'.2 z]
    have cn := cB_neg x y
    have hy : y ∉ x :: l := by
     intro hy
     rcases List.mem_cons.1 hy with e | hy
     ·rw [e, cB_self] at c0; omega
     ·have := hl'.1 y hy; omega
    have hym : y ∉ m := fun hx => by have := hm'.1 y hx; rw [cB_self] at this; omega
    by_cases e : z = y
    ·subst e; cases s <;> simp [hy, hym]
    ·cases s <;> simp [e]
theorem mrg_low (f b s : Bool) (n : Nat) (l m : List ByteArray) (h : l.length + m.length ≤ n) (hl : Rises l) (hm : Rises m) (x : ByteArray) (hxl : ∀ z ∈ l, cB x z < 0) (hxm : ∀ z ∈ m, cB x z < 0) : ∀ z ∈ mrg f b s n l m, cB x z < 0 := by
 intro z hz
 rcases (mrg_mem f b s n l m h hl hm z).1 hz with h | h | h
 ·exact hxl z h.1
 ·exact hxl z h.1
 ·exact hxm z h.2.1
theorem mrg_rises (f b s : Bool) : ∀ n (l m : List ByteArray), l.length + m.length ≤ n → Rises l → Rises m → Rises (mrg f b s n l m)
 | 0, _, _, _, _, _ => by simp [mrg]
 | n + 1, [], [], _, _, _ => by simp [mrg]
 | n + 1, x :: l, [], h, hl, hm => by
  have hl' := List.pairwise_cons.1 hl
  have ih := mrg_rises f b s n l [] (by simp at h ⊢; omega) hl'.2 hm
  have lo := mrg_low f b s n l [] (by simp at h ⊢; omega) hl'.2 hm x hl'.1 (by simp)
  simp only [mrg]
  cases f
  ·simpa using ih
  ·exact List.pairwise_cons.2 ⟨lo, ih⟩
 | n + 1, [], y :: m, h, hl, hm => by
  have hm' := List.pairwise_cons.1 hm
  have ih := mrg_rises f b s n [] m (by simp at h ⊢; omega) hl hm'.2
  have lo := mrg_low f b s n [] m (by simp at h ⊢; omega) hl hm'.2 y (by simp) hm'.1
  simp only [mrg]
  cases s
  ·simpa using ih
  ·exact List.pairwise_cons.2 ⟨lo, ih⟩
 | n + 1, x :: l, y :: m, h, hl, hm => by
  have hl' := List.pairwise_cons.1 hl
  have hm' := List.pairwise_cons.1 hm
  simp only [mrg]
  by_cases c : cB x y < 0
  ·rw [if_pos c]
   have ih := mrg_rises f b s n l (y :: m) (by simp at h ⊢; omega) hl'.2 hm
   have lo := mrg_low f b s n l (y :: m) (by simp at h ⊢; omega) hl'.2 hm x hl'.1 (fun z hz => by
    rcases List.mem_cons.1 hz with rfl | hz
    ·exact c
    ·exact cB_trans c (hm'.1 z hz))
   cases f
   ·simpa using ih
   ·exact List.pairwise_cons.2 ⟨lo, ih⟩
  ·rw [if_neg c]
   by_cases c0 : cB x y = 0
   ·have e := cB_eq c0
    subst e
    rw [if_pos c0]
    have ih := mrg_rises f b s n l m (by simp at h ⊢; omega) hl'.2 hm'.2
    have lo := mrg_low f b s n l m (by simp at h ⊢; omega) hl'.2 hm'.2 x hl'.1 hm'.1
    cases b
    ·simpa using ih
    ·exact List.pairwise_cons.2 ⟨lo, ih⟩
   ·rw [if_neg c0]
    have cn := cB_neg x y
    have hyx : cB y x < 0 := by omega
    have ih := mrg_rises f b s n (x :: l) m (by simp at h ⊢; omega) hl hm'.2
    have lo := mrg_low f b s n (x :: l) m (by simp at h ⊢; omega) hl hm'.2 y (fun z hz => by
     rcases List.mem_cons.1 hz with rfl | hz
     ·exact hyx
     ·exact cB_trans hyx (hl'.1 z hz)) hm'.1
    cases s
    ·simpa using ih
    ·exact List.pairwise_cons.2 ⟨lo, ih⟩
end Go.Proofs.YtdfkaclflmgkeaaDoor.PAll
