/- Heads: program and document answer alike. -/
import Derived.Test.YtdfkaclflmgkeaaDoorPfPAllx0
import Derived.Test.YtdfkaclflmgkeaaDoorPfHandB
import Derived.Test.YtdfkaclflmgkeaaDoorPfPAlly21
import Derived.Test.YtdfkaclflmgkeaaDoorPfPAlly5
import Derived.Test.YtdfkaclflmgkeaaDoorPfPure1
import Derived.Test.YtdfkaclflmgkeaaDoorPfPure2
import Derived.Test.YtdfkaclflmgkeaaDoorPfPure3
import Derived.Test.YtdfkaclflmgkeaaDoorPfSpec
namespace Go.Proofs.YtdfkaclflmgkeaaDoor.PAll
open Go.RowKit Go.Proofs.YtdfkaclflmgkeaaDoorW.PrintWords Go.Proofs.YtdfkaclflmgkeaaDoorW.PrintLast Go.Proofs.YtdfkaclflmgkeaaDoorW.PrintMore
open Go.Proofs.YtdfkaclflmgkeaaDoor.Sp
theorem comL_prefix : ∀ l m : List ByteArray, comL l m = l.length ↔ l <+: m
 | [], m => by simp [comL]
 | x :: l, [] => by simp [comL]
 | x :: l, y :: m => by
  by_cases h : x = y
  ·subst h
   rw [comL_same, List.length_cons, List.cons_prefix_cons]
   have := comL_prefix l m
   constructor
   ·intro e; exact ⟨rfl, this.1 (by omega)⟩
   ·rintro ⟨_, e⟩; rw [this.2 e]
  ·rw [comL_diff h, List.cons_prefix_cons]
   simp [h]
theorem above_iff (a b : ByteArray) : aboveB a b = true ↔ pB a <+: pB b ∧ (pB a).length < (pB b).length := by
 unfold aboveB
 rw [Bool.and_eq_true, decide_eq_true_eq, decide_eq_true_eq, comL_prefix, and_comm]
theorem pre_lt : ∀ A B : List Str, A <+: B → A.length < B.length → cmpL A B < 0
 | [], _ :: _, _, _ => by simp [cmpL]
 | _, [], _, h => by simp at h
 | x :: A, y :: B, h, hl => by
  obtain ⟨e, hp⟩ := List.cons_prefix_cons.1 h
  subst e
  simp only [cmpL, if_true]
  exact pre_lt A B hp (by simpa using hl)
theorem pre_between : ∀ A B C : List Str, A <+: B → cmpL A C < 0 → cmpL C B < 0 → A <+: C
 | [], _, _, _, _, _ => List.nil_prefix
 | _ :: _, [], _, h, _, _ => by simp at h
 | _ :: _, _ :: _, [], _, h, _ => by simp [cmpL] at h
 | x :: A, y :: B, z :: C, h, h1, h2 => by
  obtain ⟨e, hp⟩ := List.cons_prefix_cons.1 h
  subst e
  by_cases e : x = z
  ·subst e
   simp only [cmpL, if_true] at h1 h2
   exact List.cons_prefix_cons.2 ⟨rfl, pre_between A B C hp h1 h2⟩
  ·simp only [cmpL, if_neg e, if_neg (Ne.symm e)] at h1 h2
   have := cmpS_neg x z
   omega
theorem pB_map_prefix {a b : ByteArray} : pB a <+: pB b ↔ pcs (bs a) <+: pcs (bs b) := by
 rw [← pB_bs a, ← pB_bs b]
 constructor
 ·rintro ⟨t, h⟩; exact ⟨t.map bs, by rw [← h, List.map_append]⟩
 ·intro h
  have := h.map mk
  rwa [List.map_map, List.map_map, show mk ∘ bs = id from funext mk_bs, List.map_id, List.map_id] at this
theorem pB_len (a : ByteArray) : (pB a).length = (pcs (bs a)).length := by rw [← pB_bs a, List.length_map]
theorem above_lt {a b : ByteArray} (h : aboveB a b = true) : cB a b < 0 := by
 obtain ⟨h1, h2⟩ := (above_iff a b).1 h
 rw [pB_len, pB_len] at h2
 exact pre_lt _ _ (pB_map_prefix.1 h1) h2
theorem above_self (a : ByteArray) : aboveB a a = false := by
 rw [← Bool.not_eq_true]
 intro h; have := above_lt h; rw [cB_self] at this; omega
theorem above_trans {a b c : ByteArray} (h : aboveB a b = true) (k : aboveB b c = true) : aboveB a c = true := by
 rw [above_iff] at *
 exact ⟨h.1.trans k.1, Nat.lt_trans h.2 k.2⟩
theorem above_between {a b c : ByteArray} (h : aboveB a b = true) (h1 : cB a c < 0) (h2 : cB c b < 0) : aboveB a c = true := by
 rw [above_iff] at *
 have hp := pre_between _ _ _ (pB_map_prefix.1 h.1) h1 h2
 refine ⟨pB_map_prefix.2 hp, ?_⟩
 rcases Nat.lt_or_ge (pB a).length (pB c).length with hl | hl
 ·exact hl
 ·exfalso
  rw [pB_len, pB_len] at hl
  have e := hp.eq_of_length_le hl
  have : cB a c = 0 := by show cmpL _ _ = 0; rw [e, cmpL_self]
  omega
def isHead (l : List ByteArray) (x : ByteArray) : Bool := l.all fun y => !aboveB y x
def heads (l : List ByteArray) : List ByteArray := norm (l.filter (isHead l))
theorem isHead_iff {l : List ByteArray} {x : ByteArray} : isHead l x = true ↔ ∀ y ∈ l, aboveB y x = false := by
 unfold isHead
 rw [List.all_eq_true]
 simp
theorem ref_heads_in (x0 acc : List ByteArray) (i : Nat) (hi : i < x0.length) (hl : x0.length ≤ 1073741824) (hf : Fits x0) (ha : acc.length ≤ i) (R : List ByteArray) (d : Nat) :
  ∀ (kk : Nat) (hd : Bool), x0.length - kk = d → kk ≤ x0.length →
   Ev (fun k => copseref03_Heads.l0 k x0 (if (hd && (x0.drop kk).all fun y => !aboveB y (rdOf ByteArray.empty x0 (i : Int))) = true then acc ++ [rdOf ByteArray.empty x0 (i : Int)] else acc) ((i + 1 : Nat) : Int)) R →
   Ev (fun k => copseref03_Heads.l1 k x0 acc (i : Int) hd (kk : Int)) R := by
 induction d with
 | zero =>
  intro kk hd h1 h2 ⟨K, hK⟩
  dsimp only at hK
  rw [List.drop_of_length_le (by omega)] at hK
  simp only [List.all_nil, Bool.and_true] at hK
  refine ⟨K + 1, fun k hk => ?_⟩
  obtain ⟨k, rfl⟩ : ∃ m, k = m + 1 := ⟨k - 1, by omega⟩
  have e := hK k (by omega)
  simp only [copseref03_Heads.l1]
  rw [if_neg (by omega)]
  cases hd
  ·rw [if_neg (by decide)] at e ⊢
   rw [wrap_succ (n := x0.length) (by omega) (by omega)]; exact e
  ·rw [if_pos rfl] at e ⊢
   rw [if_pos (by omega), if_pos (by omega), if_pos (by omega), wrap_succ (n := x0.length) (by omega) (by omega)]; exact e
 | succ d ih =>
  intro kk hd h1 h2 h
  have hlt : kk < x0.length := by omega
  rw [rdOf_drop x0 kk hlt] at h
  cases hd with
  | false =>
   obtain ⟨K, hK⟩ := ih (kk + 1) false (by omega) (by omega) (by simpa using h)
   dsimp only at hK
   refine ⟨K + 1, fun k hk => ?_⟩
   obtain ⟨k, rfl⟩ : ∃ m, k = m + 1 := ⟨k - 1, by omega⟩
   simp only [copseref03_Heads.l1]
   rw [if_pos (by omega), if_neg (by decide), wrap_succ (n := x0.length) (by omega) (by omega)]
   exact hK k (by omega)
  | true =>
   have hs1 := hf.at_ hi
   have hs2 := hf.at_ hlt
   obtain ⟨K2, hK2⟩ := ref_above (rdOf ByteArray.empty x0 (kk : Int)) (rdOf ByteArray.empty x0 (i : Int)) (by omega) (by omega)
   dsimp only at hK2
   obtain ⟨K, hK⟩ := ih (kk + 1) (!aboveB (rdOf ByteArray.empty x0 (kk : Int)) (rdOf ByteArray.empty x0 (i : Int))) (by omega) (by omega) (by simpa using h)
   dsimp only at hK
   refine ⟨max K K2 + 1, fun k hk => ?_⟩
   obtain ⟨k, rfl⟩ : ∃ m, k = m + 1 := ⟨k - 1, by omega⟩
   simp only [copseref03_Heads.l1]
   rw [if_pos (by omega), if_pos trivial, if_pos (by omega), if_pos (by omega), if_pos (by omega), hK2 k (by omega), Option.bind_some, wrap_succ (n := x0.length) (by omega) (by omega)]
   exact hK k (by omega)
theorem ref_heads_run (x0 : List ByteArray) (hl : x0.length ≤ 1073741824) (hf : Fits x0) (d : Nat) : ∀ (i : Nat) (acc : List ByteArray), x0.length - i = d → i ≤ x0.length → acc.length ≤ i → Fits acc →
  Ev (fun k => copseref03_Heads.l0 k x0 acc (i : Int)) (norm (acc ++ (x0.drop i).filter (isHead x0))) := by
 induction d with
 | zero =>
  intro i acc hd hi ha hfa
  obtain ⟨K, hK⟩ := ref_norm acc (by omega) hfa
  dsimp only at hK
  refine ⟨K + 1, fun k hk => ?_⟩
  obtain ⟨k, rfl⟩ : ∃ m, k = m + 1 := ⟨k - 1, by omega⟩
  simp only [copseref03_Heads.l0]
  rw [if_neg (by omega), hK k (by omega), List.drop_of_length_le (by omega)]; simp
 | succ d ih =>
  intro i acc hd hi ha hfa
  have hlt : i < x0.length := by omega
  rw [rdOf_drop x0 i hlt]
  have hin := ref_heads_in x0 acc i hlt hl hf ha (norm (acc ++ (rdOf ByteArray.empty x0 (i : Int) :: x0.drop (i + 1)).filter (isHead x0))) x0.length 0 true (by omega) (by omega) (by
   simp only [List.drop_zero, Bool.true_and]
   change Ev (fun k => copseref03_Heads.l0 k x0 (if isHead x0 (rdOf ByteArray.empty x0 (i : Int)) = true then _ else _) _) _
   by_cases h : isHead x0 (rdOf ByteArray.empty x0 (i : Int)) = true
   ·rw [if_pos h, List.filter_cons_of_pos h]
    refine Ev.val (ih (i + 1) (acc ++ [rdOf ByteArray.empty x0 (i : Int)]) (by omega) (by omega) (by simp; omega) (fun p hp => ?_)) (by simp)
    rcases List.mem_append.1 hp with hp | hp
    ·exact hfa p hp
    ·rw [List.mem_singleton.1 hp]; exact hf.at_ hlt
   ·rw [if_neg h, List.filter_cons_of_neg h]
    exact ih (i + 1) acc (by omega) (by omega) (by omega) hfa)
  obtain ⟨K, hK⟩ := hin
  dsimp only at hK
  refine ⟨K + 1, fun k hk => ?_⟩
  obtain ⟨k, rfl⟩ : ∃ m, k = m + 1 := ⟨k - 1, by omega⟩
  simp only [copseref03_Heads.l0]
  rw [if_pos (by omega)]
  exact hK k (by omega)
theorem ref_heads (l : List ByteArray) (hl : l.length ≤ 1073741824) (hf : Fits l) : Ev (fun k => copseref03_Heads.f k l) (heads l) :=
 Ev.val (ref_heads_run l hl hf l.length 0 [] (by omega) (by omega) (by simp) (fun p hp => by cases hp)) (by simp [heads])
def stepH (out : List ByteArray) (p : ByteArray) : List ByteArray := if out.length = 0 then out ++ [p] else if aboveB (out.getD (out.length - 1) ByteArray.empty) p = true then out else out ++ [p]
structure HeadsOf (n1 out : List ByteArray) : Prop where
 rises : Rises out
 mem : ∀ p, p ∈ out ↔ p ∈ n1 ∧ isHead n1 p = true
 cover : ∀ y ∈ n1, ∃ h ∈ out, h = y ∨ aboveB h y = true
theorem last_mem {out : List ByteArray} (h : out.length ≠ 0) : out.getD (out.length - 1) ByteArray.empty ∈ out := by
 rw [List.getD_eq_getElem?_getD, List.getElem?_eq_getElem (by omega), Option.getD_some]; exact List.getElem_mem _
theorem le_last {out : List ByteArray} (hr : Rises out) (_h : out.length ≠ 0) {z : ByteArray} (hz : z ∈ out) : z = out.getD (out.length - 1) ByteArray.empty ∨ cB z (out.getD (out.length - 1) ByteArray.empty) < 0 := by
 obtain ⟨i, hi, rfl⟩ := List.getElem_of_mem hz
 rw [List.getD_eq_getElem?_getD, List.getElem?_eq_getElem (by omega), Option.getD_some]
 by_cases e : i = out.length - 1
 ·left; subst e; rfl
 ·right; exact List.pairwise_iff_getElem.1 hr i (out.length - 1) hi (by omega) (by omega)
theorem HeadsOf.step {n1 out : List ByteArray} (h : HeadsOf n1 out) (p : ByteArray) (hp : ∀ y ∈ n1, cB y p < 0) : HeadsOf (n1 ++ [p]) (stepH out p) := by
 have back : ∀ q ∈ n1, (isHead (n1 ++ [p]) q = true ↔ isHead n1 q = true) := fun q hq => by
  rw [isHead_iff, isHead_iff]
  constructor
  ·intro k y hy; exact k y (List.mem_append_left _ hy)
  ·intro k y hy
   rcases List.mem_append.1 hy with hy | hy
   ·exact k y hy
   ·rw [List.mem_singleton.1 hy, ← Bool.not_eq_true]
    intro e; have h1 := above_lt e; have h2 := hp q hq; have := cB_neg p q; omega
 have keep : (∃ y ∈ n1, aboveB y p = true) → out.length ≠ 0 ∧ aboveB (out.getD (out.length - 1) ByteArray.empty) p = true := by
  rintro ⟨y, hy, hyp⟩
  obtain ⟨g, hg, hgy⟩ := h.cover y hy
  have hgp : aboveB g p = true := by
   rcases hgy with rfl | hgy
   ·exact hyp
   ·exact above_trans hgy hyp
  have hne : out.length ≠ 0 := fun e => by rw [List.eq_nil_of_length_eq_zero e] at hg; cases hg
  refine ⟨hne, ?_⟩
  rcases le_last h.rises hne hg with e | hlt
  ·rw [← e]; exact hgp
  ·have hz := (h.mem _).1 (last_mem hne)
   have := above_between hgp hlt (hp _ hz.1)
   have k := isHead_iff.1 hz.2 g ((h.mem g).1 hg).1
   rw [this] at k; cases k
 by_cases c : ∃ y ∈ n1, aboveB y p = true
 ·obtain ⟨h1, h2⟩ := keep c
  have e : stepH out p = out := by unfold stepH; rw [if_neg h1, if_pos h2]
  rw [e]
  refine ⟨h.rises, fun q => ?_, fun y hy => ?_⟩
  ·rw [h.mem]
   constructor
   ·rintro ⟨hq, hh⟩; exact ⟨List.mem_append_left _ hq, (back q hq).2 hh⟩
   ·rintro ⟨hq, hh⟩
    rcases List.mem_append.1 hq with hq | hq
    ·exact ⟨hq, (back q hq).1 hh⟩
    ·rw [List.mem_singleton.1 hq] at hh
     obtain ⟨y, hy, hyp⟩ := c
     have := isHead_iff.1 hh y (List.mem_append_left _ hy)
     rw [hyp] at this; cases this
  ·rcases List.mem_append.1 hy with hy | hy
   ·exact h.cover y hy
   ·rw [List.mem_singleton.1 hy]; exact ⟨_, last_mem h1, .inr h2⟩
 ·have hnot : ∀ y ∈ n1, aboveB y p = false := fun y hy => by rw [← Bool.not_eq_true]; exact fun e => c ⟨y, hy, e⟩
  have e : stepH out p = out ++ [p] := by
   unfold stepH
   by_cases h0 : out.length = 0
   ·rw [if_pos h0]
   ·rw [if_neg h0, if_neg (by rw [hnot _ ((h.mem _).1 (last_mem h0)).1]; decide)]
  rw [e]
  refine ⟨List.pairwise_append.2 ⟨h.rises, List.pairwise_singleton _ _, fun a ha b hb => by rw [List.mem_singleton.1 hb]; exact hp a ((h.mem a).1 ha).1⟩, fun q => ?_, fun y hy => ?_⟩
  ·rw [List.mem_append, List.mem_append, h.mem, List.mem_singleton]
   constructor
   ·rintro (⟨hq, hh⟩ | rfl)
    ·exact ⟨.inl hq, (back q hq).2 hh⟩
    ·refine ⟨.inr rfl, isHead_iff.2 fun y hy => ?_⟩
     rcases List.mem_append.1 hy with hy | hy
     ·exact hnot y hy
     ·rw [List.mem_singleton.1 hy]; exact above_self q
   ·rintro ⟨hq | rfl, hh⟩
    ·exact .inl ⟨hq, (back q hq).1 hh⟩
    ·exact .inr rfl
  ·rcases List.mem_append.1 hy with hy | hy
   ·obtain ⟨g, hg, hgy⟩ := h.cover y hy
    exact ⟨g, List.mem_append_left _ hg, hgy⟩
   ·exact ⟨p, by simp, .inl (List.mem_singleton.1 hy).symm⟩
theorem heads_fold (n2 : List ByteArray) : ∀ (n1 out : List ByteArray), Rises (n1 ++ n2) → HeadsOf n1 out → HeadsOf (n1 ++ n2) (n2.foldl stepH out) := by
 induction n2 with
 | nil => intro n1 out _ h; simpa using h
 | cons p n2 ih =>
  intro n1 out hr h
  rw [List.foldl_cons]
  have e : n1 ++ p :: n2 = (n1 ++ [p]) ++ n2 := by simp
  rw [e] at hr ⊢
  refine ih (n1 ++ [p]) _ hr (h.step p fun y hy => ?_)
  have := (List.pairwise_append.1 hr).1
  exact (List.pairwise_append.1 this).2.2 y hy p (by simp)
theorem heads_norm (l : List ByteArray) : (norm l).foldl stepH [] = heads l := by
 have h := heads_fold (norm l) [] [] (by simpa using rises_norm l) ⟨List.Pairwise.nil, by simp, by simp⟩
 rw [List.nil_append] at h
 refine (norm_is h.rises fun z => ?_).symm
 rw [h.mem, mem_norm, List.mem_filter, isHead_iff, isHead_iff]
 simp only [mem_norm]
theorem prog_heads_run (n : List ByteArray) (hl : n.length ≤ 1073741824) (hf : Fits n) (d : Nat) : ∀ (i : Nat) (out : List ByteArray), n.length - i = d → i ≤ n.length → out.length ≤ i → Fits out →
  Ev (fun k => paths_Heads.l0 k out n (n.length : Int) (i : Int)) ((n.drop i).foldl stepH out) := by
 induction d with
 | zero =>
  intro i out hd hi ha hfa
  refine ⟨1, fun k hk => ?_⟩
  obtain ⟨k, rfl⟩ : ∃ m, k = m + 1 := ⟨k - 1, by omega⟩
  simp only [paths_Heads.l0]
  rw [if_neg (by omega), List.drop_of_length_le (by omega)]; rfl
 | succ d ih =>
  intro i out hd hi ha hfa
  have hlt : i < n.length := by omega
  have hsz := hf.at_ hlt
  rw [rdOf_drop n i hlt, List.foldl_cons]
  have hfp : Fits (out ++ [rdOf ByteArray.empty n (i : Int)]) := fun p hp => by
   rcases List.mem_append.1 hp with hp | hp
   ·exact hfa p hp
   ·rw [List.mem_singleton.1 hp]; exact hsz
  by_cases h0 : out.length = 0
  ·obtain ⟨K, hK⟩ := ih (i + 1) (out ++ [rdOf ByteArray.empty n (i : Int)]) (by omega) (by omega) (by simp; omega) hfp
   dsimp only at hK
   refine ⟨K + 1, fun k hk => ?_⟩
   obtain ⟨k, rfl⟩ : ∃ m, k = m + 1 := ⟨k - 1, by omega⟩
   simp only [paths_Heads.l0]
   unfold stepH
   rw [if_pos (by omega), if_pos (by omega), if_pos (by omega), if_pos (by omega), if_pos (by omega), if_pos h0, wrap_succ (n := n.length) (by omega) (by omega)]
   exact hK k (by omega)
  ·have hlast := hfa _ (last_mem h0)
   have elast : rdOf ByteArray.empty out ((out.length : Int) - 1) = out.getD (out.length - 1) ByteArray.empty := by
    rw [show ((out.length : Int) - 1) = ((out.length - 1 : Nat) : Int) by omega]; rfl
   obtain ⟨K2, hK2⟩ := prog_above (out.getD (out.length - 1) ByteArray.empty) (rdOf ByteArray.empty n (i : Int)) (by omega) (by omega)
   dsimp only at hK2
   by_cases c : aboveB (out.getD (out.length - 1) ByteArray.empty) (rdOf ByteArray.empty n (i : Int)) = true
   ·obtain ⟨K, hK⟩ := ih (i + 1) out (by omega) (by omega) (by omega) hfa
    dsimp only at hK
    refine ⟨max K K2 + 1, fun k hk => ?_⟩
    obtain ⟨k, rfl⟩ : ∃ m, k = m + 1 := ⟨k - 1, by omega⟩
    simp only [paths_Heads.l0]
    unfold stepH
    rw [wrap_add (x := (out.length : Int) - 1) (by omega) (by omega), elast, if_pos (by omega), if_pos (by omega), if_pos (by omega), if_neg (by omega), if_pos (by omega), if_pos (by omega), hK2 k (by omega), Option.bind_some, if_pos c, wrap_succ (n := n.length) (by omega) (by omega), if_neg h0, if_pos c]
    exact hK k (by omega)
   ·obtain ⟨K, hK⟩ := ih (i + 1) (out ++ [rdOf ByteArray.empty n (i : Int)]) (by omega) (by omega) (by simp; omega) hfp
    dsimp only at hK
    refine ⟨max K K2 + 1, fun k hk => ?_⟩
    obtain ⟨k, rfl⟩ : ∃ m, k = m + 1 := ⟨k - 1, by omega⟩
    simp only [paths_Heads.l0]
    unfold stepH
    rw [wrap_add (x := (out.length : Int) - 1) (by omega) (by omega), elast, if_pos (by omega), if_pos (by omega), if_pos (by omega), if_neg (by omega), if_pos (by omega), if_pos (by omega), hK2 k (by omega), Option.bind_some, if_neg c, if_pos (by omega), wrap_succ (n := n.length) (by omega) (by omega), if_neg h0, if_neg c]
    exact hK k (by omega)
theorem prog_heads (l : List ByteArray) (hl : l.length ≤ 1073741824) (hf : Fits l) : Ev (fun k => paths_Heads.f k l) (heads l) := by
 have h1 := norm_length_le l
 refine Ev.bind (prog_norm l (by omega) hf) (Ev.val (prog_heads_run (norm l) (by omega) (fits_norm hf) (norm l).length 0 [] (by omega) (by omega) (by simp) (fun p hp => by cases hp)) ?_)
 rw [List.drop_zero, heads_norm]
end Go.Proofs.YtdfkaclflmgkeaaDoor.PAll
