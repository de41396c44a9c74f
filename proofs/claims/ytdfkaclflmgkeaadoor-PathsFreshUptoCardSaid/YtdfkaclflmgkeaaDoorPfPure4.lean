/- Union, Minus, Meet, Dirs, Heads: program and document answer alike. -/
import Derived.Test.YtdfkaclflmgkeaaDoorPfPAllx0
import Derived.Test.YtdfkaclflmgkeaaDoorPfHandB
import Derived.Test.YtdfkaclflmgkeaaDoorPfPAlly17
import Derived.Test.YtdfkaclflmgkeaaDoorPfPAlly22
import Derived.Test.YtdfkaclflmgkeaaDoorPfPAlly4
import Derived.Test.YtdfkaclflmgkeaaDoorPfPure1
import Derived.Test.YtdfkaclflmgkeaaDoorPfPure2
import Derived.Test.YtdfkaclflmgkeaaDoorPfPure3
import Derived.Test.YtdfkaclflmgkeaaDoorPfSpec
namespace Go.Proofs.YtdfkaclflmgkeaaDoor.PAll
open Go.RowKit Go.Proofs.YtdfkaclflmgkeaaDoorW.PrintWords Go.Proofs.YtdfkaclflmgkeaaDoorW.PrintLast Go.Proofs.YtdfkaclflmgkeaaDoorW.PrintMore
open Go.Proofs.YtdfkaclflmgkeaaDoor.Sp
theorem rd_head (x : ByteArray) (l : List ByteArray) : rdOf ByteArray.empty (x :: l) 0 = x := rfl
theorem merged_run (f b s : Bool) : ∀ (n : Nat) (l m out : List ByteArray), l.length + m.length ≤ n → out.length + n ≤ 4294967296 → Fits l → Fits m →
  Ev (fun k => paths_merged_string.l0 k l m f b s out) (out ++ mrg f b s n l m)
 | 0, l, m, out, h, ho, _, _ => by
  obtain rfl := List.eq_nil_of_length_eq_zero (show l.length = 0 by omega)
  obtain rfl := List.eq_nil_of_length_eq_zero (show m.length = 0 by omega)
  refine ⟨2, fun k hk => ?_⟩
  obtain ⟨k, rfl⟩ : ∃ j, k = j + 2 := ⟨k - 2, by omega⟩
  simp [paths_merged_string.l0, paths_merged_string.j1, mrg]
 | n + 1, [], [], out, _, ho, _, _ => by
  refine ⟨2, fun k hk => ?_⟩
  obtain ⟨k, rfl⟩ : ∃ j, k = j + 2 := ⟨k - 2, by omega⟩
  simp [paths_merged_string.l0, paths_merged_string.j1, mrg]
 | n + 1, x :: l, [], out, h, ho, hl, hm => by
  obtain ⟨K, hK⟩ := merged_run f b s n l [] (out ++ if f = true then [x] else []) (by simp at h ⊢; omega) (by split <;> simp <;> omega) (fun p hp => hl p (List.mem_cons_of_mem _ hp)) hm
  dsimp only at hK
  refine ⟨K + 5, fun k hk => ?_⟩
  obtain ⟨k, rfl⟩ : ∃ j, k = j + 5 := ⟨k - 5, by omega⟩
  simp only [paths_merged_string.l0, paths_merged_string.j1, paths_merged_string.j2, paths_merged_string.j3, paths_merged_string.j4]
  rw [if_pos (by simp only [List.length_cons]; omega)]
  simp only [if_true, List.length_nil, List.length_cons, rd_head, List.drop_one, List.tail_cons]
  rw [if_pos (by omega), if_pos (by omega), if_pos (by omega), if_pos (by omega), if_neg (by omega), if_neg (by omega)]
  have e := hK k (by omega)
  cases f
  ·simpa [mrg] using e
  ·rw [if_pos rfl, if_pos (by omega)]
   simpa [mrg] using e
 | n + 1, [], y :: m, out, h, ho, hl, hm => by
  obtain ⟨K, hK⟩ := merged_run f b s n [] m (out ++ if s = true then [y] else []) (by simp at h ⊢; omega) (by split <;> simp <;> omega) hl (fun p hp => hm p (List.mem_cons_of_mem _ hp))
  dsimp only at hK
  refine ⟨K + 5, fun k hk => ?_⟩
  obtain ⟨k, rfl⟩ : ∃ j, k = j + 5 := ⟨k - 5, by omega⟩
  simp only [paths_merged_string.l0, paths_merged_string.j1, paths_merged_string.j2, paths_merged_string.j3, paths_merged_string.j4]
  rw [if_neg (by simp only [List.length_nil]; omega)]
  simp only [List.length_nil, List.length_cons, rd_head, List.drop_one, List.tail_cons]
  rw [if_pos (by rw [decide_eq_true_eq]; omega), if_neg (by omega), if_pos (by omega), if_neg (by omega), if_pos (by omega), if_pos (by omega), if_pos (by omega), if_neg (by omega)]
  have e := hK k (by omega)
  cases s
  ·simpa [mrg] using e
  ·rw [if_pos rfl, if_pos (by omega)]
   simpa [mrg] using e
 | n + 1, x :: l, y :: m, out, h, ho, hl, hm => by
  have hx := hl x List.mem_cons_self
  have hy := hm y List.mem_cons_self
  obtain ⟨K2, hK2⟩ := prog_cmp x y (by omega) (by omega)
  dsimp only at hK2
  have hl' : Fits l := fun p hp => hl p (List.mem_cons_of_mem _ hp)
  have hm' : Fits m := fun p hp => hm p (List.mem_cons_of_mem _ hp)
  have start : ∀ k, K2 ≤ k → paths_merged_string.l0 (k + 2) (x :: l) (y :: m) f b s out = paths_merged_string.j2 k (x :: l) (y :: m) f b s out (cB x y) := fun k hk => by
   simp only [paths_merged_string.l0, paths_merged_string.j1]
   rw [if_pos (by simp only [List.length_cons]; omega)]
   simp only [if_true, rd_head]
   rw [if_neg (by simp only [List.length_cons]; omega), if_neg (by simp only [List.length_cons]; omega), if_pos (by simp only [List.length_cons]; omega), if_pos (by simp only [List.length_cons]; omega), hK2 k hk, Option.bind_some]
  by_cases c : cB x y < 0
  ·obtain ⟨K, hK⟩ := merged_run f b s n l (y :: m) (out ++ if f = true then [x] else []) (by simp at h ⊢; omega) (by split <;> simp <;> omega) hl' hm
   dsimp only at hK
   refine ⟨max K K2 + 5, fun k hk => ?_⟩
   obtain ⟨k, rfl⟩ : ∃ j, k = j + 5 := ⟨k - 5, by omega⟩
   refine (start (k + 3) (by omega)).trans ?_
   simp only [paths_merged_string.j2, paths_merged_string.j3, paths_merged_string.j4]
   rw [if_pos (by omega), if_pos (by simp only [List.length_cons]; omega), if_pos (by simp only [List.length_cons]; omega), if_neg (by omega), if_neg (by omega)]
   simp only [rd_head, List.drop_one, List.tail_cons, mrg, if_pos c]
   have e := hK k (by omega)
   cases f
   ·simpa using e
   ·rw [if_pos rfl, if_pos (by omega)]
    simpa using e
  ·by_cases c0 : cB x y = 0
   ·obtain ⟨K, hK⟩ := merged_run f b s n l m (out ++ if b = true then [y] else []) (by simp at h ⊢; omega) (by split <;> simp <;> omega) hl' hm'
    dsimp only at hK
    refine ⟨max K K2 + 5, fun k hk => ?_⟩
    obtain ⟨k, rfl⟩ : ∃ j, k = j + 5 := ⟨k - 5, by omega⟩
    refine (start (k + 3) (by omega)).trans ?_
    simp only [paths_merged_string.j2, paths_merged_string.j3, paths_merged_string.j4]
    rw [if_pos (by omega), if_pos (by simp only [List.length_cons]; omega), if_pos (by simp only [List.length_cons]; omega), if_pos (by omega), if_pos (by simp only [List.length_cons]; omega), if_pos (by simp only [List.length_cons]; omega), if_pos c0]
    simp only [rd_head, List.drop_one, List.tail_cons, mrg, if_neg c, if_pos c0]
    have e := hK k (by omega)
    cases b
    ·simpa using e
    ·rw [if_pos rfl, if_pos (by omega)]
     simpa using e
   ·obtain ⟨K, hK⟩ := merged_run f b s n (x :: l) m (out ++ if s = true then [y] else []) (by simp at h ⊢; omega) (by split <;> simp <;> omega) hl hm'
    dsimp only at hK
    refine ⟨max K K2 + 5, fun k hk => ?_⟩
    obtain ⟨k, rfl⟩ : ∃ j, k = j + 5 := ⟨k - 5, by omega⟩
    refine (start (k + 3) (by omega)).trans ?_
    simp only [paths_merged_string.j2, paths_merged_string.j3, paths_merged_string.j4]
    rw [if_neg (by omega), if_pos (by omega), if_pos (by simp only [List.length_cons]; omega), if_pos (by simp only [List.length_cons]; omega), if_neg c0]
    simp only [rd_head, List.drop_one, List.tail_cons, mrg, if_neg c, if_neg c0]
    have e := hK k (by omega)
    cases s
    ·simpa using e
    ·rw [if_pos rfl, if_pos (by omega)]
     simpa using e
theorem prog_merged (f b s : Bool) (l m : List ByteArray) (hl : l.length + m.length ≤ 4294967296) (hfl : Fits l) (hfm : Fits m) :
  Ev (fun k => paths_merged_string.f k l m true f b s) (mrg f b s (l.length + m.length) l m) :=
 Ev.val (merged_run f b s (l.length + m.length) l m [] (Nat.le_refl _) (by simpa using hl) hfl hfm) rfl
theorem merged_norm (f b s : Bool) (a c l : List ByteArray) (h : ∀ z, z ∈ l ↔ (z ∈ a ∧ z ∉ c ∧ f = true) ∨ (z ∈ a ∧ z ∈ c ∧ b = true) ∨ (z ∉ a ∧ z ∈ c ∧ s = true)) :
  mrg f b s ((norm a).length + (norm c).length) (norm a) (norm c) = norm l :=
 (norm_is (mrg_rises f b s _ _ _ (Nat.le_refl _) (rises_norm a) (rises_norm c)) fun z => by
  rw [mrg_mem f b s _ _ _ (Nat.le_refl _) (rises_norm a) (rises_norm c), mem_norm, mem_norm, h]).symm
section
variable (a b : List ByteArray) (ha : a.length ≤ 1073741824) (hb : b.length ≤ 1073741824) (hfa : Fits a) (hfb : Fits b)
include ha hb hfa hfb
theorem prog_union : Ev (fun k => paths_Union.f k a b) (norm (a ++ b)) := by
 have h1 := norm_length_le a
 have h2 := norm_length_le b
 refine Ev.bind (prog_norm a (by omega) hfa) (Ev.bind (prog_norm b (by omega) hfb) (Ev.bind (prog_merged true true true _ _ (by omega) (fits_norm hfa) (fits_norm hfb)) (ev_pure fun _ => ?_)))
 rw [merged_norm true true true a b (a ++ b) (fun z => by by_cases h : z ∈ a <;> by_cases h' : z ∈ b <;> simp [h, h'])]
theorem prog_minus : Ev (fun k => paths_Minus.f k a b) (norm (a.filter fun x => decide (x ∈ b) == false)) := by
 have h1 := norm_length_le a
 have h2 := norm_length_le b
 refine Ev.bind (prog_norm a (by omega) hfa) (Ev.bind (prog_norm b (by omega) hfb) (Ev.bind (prog_merged true false false _ _ (by omega) (fits_norm hfa) (fits_norm hfb)) (ev_pure fun _ => ?_)))
 rw [merged_norm true false false a b (a.filter fun x => decide (x ∈ b) == false) (fun z => by simp)]
theorem prog_meet : Ev (fun k => paths_Meet.f k a b) (norm (a.filter fun x => decide (x ∈ b) == true)) := by
 have h1 := norm_length_le a
 have h2 := norm_length_le b
 refine Ev.bind (prog_norm a (by omega) hfa) (Ev.bind (prog_norm b (by omega) hfb) (Ev.bind (prog_merged false true false _ _ (by omega) (fits_norm hfa) (fits_norm hfb)) (ev_pure fun _ => ?_)))
 rw [merged_norm false true false a b (a.filter fun x => decide (x ∈ b) == true) (fun z => by simp)]
end
theorem ref_dirs_run (l : List ByteArray) (hl : l.length ≤ 1073741824) (hf : Fits l) (d : Nat) : ∀ (i : Nat) (acc : List ByteArray), l.length - i = d → i ≤ l.length → acc.length ≤ i → Fits acc →
  Ev (fun k => copseref03_Dirs.l0 k l acc (i : Int)) (norm (acc ++ (l.drop i).map dirB)) := by
 induction d with
 | zero =>
  intro i acc hd hi ha hfa
  obtain ⟨K, hK⟩ := ref_norm acc (by omega) hfa
  dsimp only at hK
  refine ⟨K + 1, fun k hk => ?_⟩
  obtain ⟨k, rfl⟩ : ∃ m, k = m + 1 := ⟨k - 1, by omega⟩
  simp only [copseref03_Dirs.l0]
  rw [if_neg (by omega), hK k (by omega), List.drop_of_length_le (by omega)]; simp
 | succ d ih =>
  intro i acc hd hi ha hfa
  have hlt : i < l.length := by omega
  have hsz := hf.at_ hlt
  rw [rdOf_drop l i hlt]
  obtain ⟨K2, hK2⟩ := ref_dir (rdOf ByteArray.empty l (i : Int)) (by omega)
  dsimp only at hK2
  obtain ⟨K, hK⟩ := ih (i + 1) (acc ++ [dirB (rdOf ByteArray.empty l (i : Int))]) (by omega) (by omega) (by simp; omega) (fun p hp => by
   rcases List.mem_append.1 hp with hp | hp
   ·exact hfa p hp
   ·rw [List.mem_singleton.1 hp]; have := dirB_size (rdOf ByteArray.empty l (i : Int)); omega)
  dsimp only at hK
  refine ⟨max K K2 + 1, fun k hk => ?_⟩
  obtain ⟨k, rfl⟩ : ∃ m, k = m + 1 := ⟨k - 1, by omega⟩
  simp only [copseref03_Dirs.l0]
  rw [if_pos (by omega), if_pos (by omega), hK2 k (by omega), Option.bind_some, if_pos (by omega), wrap_succ (n := l.length) (by omega) (by omega), hK k (by omega)]
  simp
theorem ref_dirs (l : List ByteArray) (hl : l.length ≤ 1073741824) (hf : Fits l) : Ev (fun k => copseref03_Dirs.f k l) (norm (l.map dirB)) :=
 Ev.val (ref_dirs_run l hl hf l.length 0 [] (by omega) (by omega) (by simp) (fun p hp => by cases hp)) (by simp)
theorem prog_dirs_run (l : List ByteArray) (hl : l.length ≤ 1073741824) (hf : Fits l) (d : Nat) : ∀ (i : Nat) (acc : List ByteArray), l.length - i = d → i ≤ l.length → acc.length ≤ i → Fits acc →
  Ev (fun k => paths_Dirs.l0 k acc l (l.length : Int) (i : Int)) (norm (acc ++ (l.drop i).map dirB)) := by
 induction d with
 | zero =>
  intro i acc hd hi ha hfa
  obtain ⟨K, hK⟩ := prog_norm acc (by omega) hfa
  dsimp only at hK
  refine ⟨K + 1, fun k hk => ?_⟩
  obtain ⟨k, rfl⟩ : ∃ m, k = m + 1 := ⟨k - 1, by omega⟩
  simp only [paths_Dirs.l0]
  rw [if_neg (by omega), hK k (by omega), List.drop_of_length_le (by omega)]; simp
 | succ d ih =>
  intro i acc hd hi ha hfa
  have hlt : i < l.length := by omega
  have hsz := hf.at_ hlt
  rw [rdOf_drop l i hlt]
  obtain ⟨K2, hK2⟩ := prog_dir (rdOf ByteArray.empty l (i : Int)) (by omega)
  dsimp only at hK2
  obtain ⟨K, hK⟩ := ih (i + 1) (acc ++ [dirB (rdOf ByteArray.empty l (i : Int))]) (by omega) (by omega) (by simp; omega) (fun p hp => by
   rcases List.mem_append.1 hp with hp | hp
   ·exact hfa p hp
   ·rw [List.mem_singleton.1 hp]; have := dirB_size (rdOf ByteArray.empty l (i : Int)); omega)
  dsimp only at hK
  refine ⟨max K K2 + 1, fun k hk => ?_⟩
  obtain ⟨k, rfl⟩ : ∃ m, k = m + 1 := ⟨k - 1, by omega⟩
  simp only [paths_Dirs.l0]
  rw [if_pos (by omega), if_pos (by omega), if_pos (by omega), hK2 k (by omega), Option.bind_some, if_pos (by omega), wrap_succ (n := l.length) (by omega) (by omega), hK k (by omega)]
  simp
theorem prog_dirs (l : List ByteArray) (hl : l.length ≤ 1073741824) (hf : Fits l) : Ev (fun k => paths_Dirs.f k l) (norm (l.map dirB)) :=
 Ev.val (prog_dirs_run l hl hf l.length 0 [] (by omega) (by omega) (by simp) (fun p hp => by cases hp)) (by simp)
end Go.Proofs.YtdfkaclflmgkeaaDoor.PAll
