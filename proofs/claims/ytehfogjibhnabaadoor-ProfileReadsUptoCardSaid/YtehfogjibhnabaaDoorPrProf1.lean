/- Layer 17: the lines of a text of cones name the cones: plain Lean. -/
import Derived.Test.YtehfogjibhnabaaDoorPrPAllx0
import Derived.Test.YtehfogjibhnabaaDoorPrPAlly8
import Derived.Test.YtehfogjibhnabaaDoorPrPAlly11
import Derived.Test.YtehfogjibhnabaaDoorPrShelf
import Derived.WalkKit
import Derived.BigQuiet
import Derived.Outline
import Derived.Test.YtehfogjibhnabaaDoorPrRowKit
import Derived.RangeFuncNested
import Derived.RangeFuncBox
import Derived.RangeFuncBound
import Derived.RangeFuncCalls
import Derived.RangeFuncLeaves
import Derived.Shelf.Abstract
import Derived.Shelf.RegionOpen
import Derived.OwnWalkIn
import Derived.TacticsInMore
import Derived.LoopNIn
import Derived.LoopIn
import Derived.RegionIn
import Derived.Sort.LoopGhostIn
import Derived.Sort.QuietIn
import Derived.Maps.AppendAt
import Derived.Test.YtehfogjibhnabaaDoorPrWLast
import Derived.Test.YtehfogjibhnabaaDoorPrHandA
namespace Go.Proofs.YtehfogjibhnabaaDoor.PAll
open Go.RowKit Go.Proofs.YtehfogjibhnabaaDoorW.PrintWords Go.Proofs.YtehfogjibhnabaaDoorW.PrintLast Go.Proofs.YtehfogjibhnabaaDoorW.PrintMore
open Go.Proofs.YtehfogjibhnabaaDoor.Sp
theorem mem_joinS {c : UInt8} : ∀ {l : List Str}, c ∈ joinS l → c = 47 ∨ ∃ x ∈ l, c ∈ x
 | [], h => by simp [joinS] at h
 | [a], h => .inr ⟨a, List.mem_singleton.2 rfl, h⟩
 | a :: b :: r, h => by
  have h' : c ∈ a ++ 47 :: joinS (b :: r) := h
  rcases List.mem_append.1 h' with h | h
  ·exact .inr ⟨a, List.mem_cons_self, h⟩
  ·rcases List.mem_cons.1 h with h | h
   ·exact .inl h
   ·rcases mem_joinS h with h | ⟨x, hx, h⟩
    ·exact .inl h
    ·exact .inr ⟨x, List.mem_cons_of_mem _ hx, h⟩
theorem valid_free {d : ByteArray} (h : validB d = true) : (10 : UInt8) ∉ bs d := fun hm => by
 rw [← join_pcs (bs d)] at hm
 rcases mem_joinS hm with e | ⟨x, hx, hc⟩
 ·exact absurd e (by decide)
 ·rw [← pB_bs] at hx
  obtain ⟨p, hp, rfl⟩ := List.mem_map.1 hx
  unfold validB at h
  simp only [Bool.and_eq_true, List.all_eq_true] at h
  have h1 := h.2 p hp
  unfold compB at h1
  simp only [Bool.and_eq_true, List.all_eq_true] at h1
  have := h1.2 10 hc
  exact absurd this (by decide)
theorem valid_size {d : ByteArray} (h : validB d = true) : d.size ≤ 120 := by
 unfold validB at h
 simp only [Bool.and_eq_true, decide_eq_true_eq] at h
 exact h.1.1
theorem dirB_mem {d : ByteArray} {c : UInt8} (h : c ∈ bs (dirB d)) : c ∈ bs d := by
 unfold dirB at h
 split at h
 ·rw [bs_mk] at h; simp at h
 ·rw [extract_mk, bs_mk, List.drop_zero] at h
  exact List.mem_of_mem_take h
theorem ups_mem (n : Nat) : ∀ d : ByteArray, d.size ≤ n → ∀ x ∈ ups d, ∀ c ∈ bs x, c ∈ bs d := by
 induction n with
 | zero =>
  intro d h x hx
  have : bs d = [] := List.eq_nil_of_length_eq_zero (by rw [bs_size]; omega)
  rw [ups_nil this] at hx; simp at hx
 | succ n ih =>
  intro d h x hx c hc
  by_cases h0 : bs d = []
  ·rw [ups_nil h0] at hx; simp at hx
  ·have h1 := dirB_less h0
   rw [ups_cons h0] at hx
   rcases List.mem_cons.1 hx with rfl | hx
   ·exact hc
   ·exact dirB_mem (ih (dirB d) (by omega) x hx c hc)
theorem mem_dirsT {k : List ByteArray} {x : ByteArray} : x ∈ dirsT k ↔ ∃ d ∈ k, x ∈ ups d := by
 unfold dirsT; rw [mem_norm, List.mem_flatMap]
theorem self_ups {d : ByteArray} (h : bs d ≠ []) : d ∈ ups d := by rw [ups_cons h]; exact List.mem_cons_self
def joinL (L : List Str) : Str := L.flatMap (· ++ [10])
theorem index_at {l r : Str} (h : (10 : UInt8) ∉ l) : Lib.indexByte (l ++ 10 :: r) 10 = l.length := by
 induction l with
 | nil => simp [Lib.indexByte]
 | cons c l ih =>
  have hc : c ≠ 10 := fun e => h (by rw [e]; exact List.mem_cons_self)
  have := ih fun hm => h (List.mem_cons_of_mem _ hm)
  show Lib.indexByte (c :: (l ++ 10 :: r)) 10 = _
  unfold Lib.indexByte
  rw [if_neg (by simpa using hc), this]
  simp
theorem rawN_join : ∀ (L : List Str) (n : Nat), (joinL L).length < n → (∀ l ∈ L, (10 : UInt8) ∉ l) → rawN n (joinL L) = L.map (· ++ [10])
 | [], n, hn, _ => by
  obtain ⟨n, rfl⟩ : ∃ m, n = m + 1 := ⟨n - 1, by simp [joinL] at hn; omega⟩
  simp [joinL, rawN]
 | l :: L, n, hn, h => by
  obtain ⟨n, rfl⟩ : ∃ m, n = m + 1 := ⟨n - 1, by omega⟩
  have e : joinL (l :: L) = l ++ 10 :: joinL L := by simp [joinL]
  have hi := index_at (r := joinL L) (h l List.mem_cons_self)
  rw [e] at hn ⊢
  unfold rawN
  rw [if_neg (by simp), hi, if_neg (by omega), Int.toNat_natCast]
  have e1 : (l ++ 10 :: joinL L).take (l.length + 1) = l ++ [10] := by
   rw [show l ++ 10 :: joinL L = (l ++ [10]) ++ joinL L by simp]; exact List.take_left' (by simp)
  have e2 : (l ++ 10 :: joinL L).drop (l.length + 1) = joinL L := by
   rw [show l ++ 10 :: joinL L = (l ++ [10]) ++ joinL L by simp]; exact List.drop_left' (by simp)
  rw [e1, e2, rawN_join L n (by simp at hn; omega) fun x hx => h x (List.mem_cons_of_mem _ hx)]
  rfl
theorem trimS_line (l : Str) : trimS (l ++ [10]) = l := by simp [trimS]
def openL (d : ByteArray) : Str := 47 :: bs d ++ [47]
def shutL (d : ByteArray) : Str := [33, 47] ++ bs d ++ [47, 42, 47]
def twoL (k : List ByteArray) (d : ByteArray) : List Str := openL d :: (if d ∈ k then [] else [shutL d])
def linesT (k : List ByteArray) : List Str := [47, 42] :: [33, 47, 42, 47] :: (dirsT k).flatMap (twoL k)
theorem joinL_append (a b : List Str) : joinL (a ++ b) = joinL a ++ joinL b := by simp [joinL]
theorem textS_lines {k : List ByteArray} (h : k ≠ [⟨#[]⟩]) : textS k = joinL (linesT k) := by
 unfold textS linesT
 rw [if_neg h]
 have e : ∀ D : List ByteArray, joinL (D.flatMap (twoL k)) = D.flatMap (lineT k) := by
  intro D
  induction D with
  | nil => rfl
  | cons d D ih =>
   rw [List.flatMap_cons, List.flatMap_cons, joinL_append, ih]
   congr 1
   unfold twoL lineT openL shutL
   by_cases hd : d ∈ k <;> simp [joinL, hd]
 show _ = joinL ([[47, 42], [33, 47, 42, 47]] ++ (dirsT k).flatMap (twoL k))
 rw [joinL_append, e]
 rfl
structure ConesP (k : List ByteArray) : Prop where
 valid : ∀ x ∈ k, validB x = true
 apart : k.Pairwise Apart2
 some_ : ∀ x ∈ k, bs x ≠ []
theorem apart_of : ∀ {k : List ByteArray}, k.Pairwise Apart2 → ∀ x ∈ k, ∀ y ∈ k, aboveB x y = false
 | [], _, x, hx, _, _ => by simp at hx
 | a :: k, h, x, hx, y, hy => by
  have h' := List.pairwise_cons.1 h
  rcases List.mem_cons.1 hx with h1 | h1 <;> rcases List.mem_cons.1 hy with h2 | h2
  ·rw [h1, h2]; exact above_self _
  ·rw [h1]; exact (h'.1 y h2).2
  ·cases e : aboveB x y with
   | false => rfl
   | true => have h3 := above_lt e; have h4 := (h'.1 x h1).1; rw [← h2] at h4; have := cB_neg y x; omega
  ·exact apart_of h'.2 x h1 y h2
theorem cones_of {k : List ByteArray} (h : coneR none k = true) (h0 : k ≠ [⟨#[]⟩]) : ConesP k := by
 obtain ⟨hv, ha⟩ := (cone_all k).1 h
 refine ⟨hv, ha, fun x hx e => ?_⟩
 have ex : x = ⟨#[]⟩ := bs_inj e
 subst ex
 apply h0
 have hall : ∀ y ∈ k, y = (⟨#[]⟩ : ByteArray) := fun y hy => by
  by_cases hy0 : bs y = []
  ·exact bs_inj hy0
  ·have := apart_of ha _ hx y hy
   rw [above_root hy0] at this
   cases this
 match k, hx, hall, ha with
 | [a], _, hall, _ => rw [hall a List.mem_cons_self]
 | a :: b :: r, _, hall, ha =>
  have h1 := ((List.pairwise_cons.1 ha).1 b List.mem_cons_self).1
  rw [hall a List.mem_cons_self, hall b (List.mem_cons_of_mem _ List.mem_cons_self), cB_self] at h1
  omega
theorem rises_of {k : List ByteArray} (h : k.Pairwise Apart2) : Rises k := h.imp fun h => h.1
theorem dirs_in {k : List ByteArray} (h : ConesP k) : (dirsT k).filter (fun d => decide (d ∈ k)) = k := by
 refine rises_uniq _ _ (List.Pairwise.filter _ (rises_norm _)) (rises_of h.apart) fun z => ?_
 rw [List.mem_filter, decide_eq_true_eq]
 exact ⟨fun hz => hz.2, fun hz => ⟨mem_dirsT.2 ⟨z, hz, self_ups (h.some_ z hz)⟩, hz⟩⟩
theorem dirs_some {k : List ByteArray} {d : ByteArray} (hd : d ∈ dirsT k) : bs d ≠ [] := by
 obtain ⟨c, _, hc⟩ := mem_dirsT.1 hd
 exact (ups_size c.size c (Nat.le_refl _) d hc).2
theorem dirs_free {k : List ByteArray} (h : ConesP k) {d : ByteArray} (hd : d ∈ dirsT k) : (10 : UInt8) ∉ bs d := fun hm => by
 obtain ⟨c, hk, hc⟩ := mem_dirsT.1 hd
 exact valid_free (h.valid c hk) (ups_mem c.size c (Nat.le_refl _) d hc 10 hm)
theorem openL_free {d : ByteArray} (h : (10 : UInt8) ∉ bs d) : (10 : UInt8) ∉ openL d := by simp [openL, h]
theorem shutL_free {d : ByteArray} (h : (10 : UInt8) ∉ bs d) : (10 : UInt8) ∉ shutL d := by simp [shutL, h]
theorem lines_free {k : List ByteArray} (h : ConesP k) : ∀ l ∈ linesT k, (10 : UInt8) ∉ l := by
 intro l hl
 unfold linesT at hl
 rcases List.mem_cons.1 hl with rfl | hl
 ·decide
 rcases List.mem_cons.1 hl with rfl | hl
 ·decide
 obtain ⟨d, hd, hl⟩ := List.mem_flatMap.1 hl
 have hf := dirs_free h hd
 unfold twoL at hl
 rcases List.mem_cons.1 hl with rfl | hl
 ·exact openL_free hf
 ·split at hl
  ·simp at hl
  ·obtain rfl := List.mem_singleton.1 hl
   exact shutL_free hf
theorem openL_length (d : ByteArray) : (openL d).length = (bs d).length + 2 := by simp [openL]
theorem openL_last (d : ByteArray) : (openL d).getLast? = some 47 := by
 unfold openL
 rw [show 47 :: bs d ++ [47] = (47 :: bs d) ++ [47] from rfl]
 exact List.getLast?_concat
theorem stepN_open {out : List ByteArray} {d : ByteArray} (h : bs d ≠ []) : stepN out (openL d) = out ++ [d] := by
 have hl : 0 < (bs d).length := List.length_pos_iff.2 h
 have hd : ((openL d).take ((openL d).length - 1)).drop 1 = bs d := by
  rw [openL_length]
  unfold openL
  rw [show 47 :: bs d ++ [47] = (47 :: bs d) ++ [47] from rfl, List.take_append_of_le_length (by simp), List.take_of_length_le (by simp)]
  rfl
 unfold stepN
 rw [if_pos ⟨by rw [openL_length]; omega, by simp [openL], openL_last d⟩, hd, mk_bs]
theorem stepN_shut (out : List ByteArray) (d : ByteArray) : stepN (out ++ [d]) (shutL d) = out := by
 have e : (out ++ [d]).getD ((out ++ [d]).length - 1) ByteArray.empty = d := by simp [List.getD_eq_getElem?_getD]
 unfold stepN
 rw [if_neg (fun h => by have := h.2.1; simp [shutL] at this), if_pos ⟨by simp, by rw [e]; rfl⟩]
 simp
theorem steps_two {k out : List ByteArray} {d : ByteArray} (h : bs d ≠ []) : (twoL k d).foldl stepN out = if d ∈ k then out ++ [d] else out := by
 unfold twoL
 by_cases hd : d ∈ k
 ·simp [hd, stepN_open h]
 ·simp [hd, stepN_open h, stepN_shut]
theorem steps_all (k : List ByteArray) : ∀ (D out : List ByteArray), (∀ d ∈ D, bs d ≠ []) → (D.flatMap (twoL k)).foldl stepN out = out ++ D.filter (fun d => decide (d ∈ k))
 | [], out, _ => by simp
 | d :: D, out, h => by
  rw [List.flatMap_cons, List.foldl_append, steps_two (h d List.mem_cons_self), steps_all k D _ fun x hx => h x (List.mem_cons_of_mem _ hx)]
  by_cases hd : d ∈ k <;> simp [hd]
theorem named_text {k : List ByteArray} (h : ConesP k) : namedT (mk (textS k)) = k := by
 have h0 : k ≠ [⟨#[]⟩] := fun e => h.some_ ⟨#[]⟩ (by rw [e]; exact List.mem_singleton.2 rfl) rfl
 unfold namedT
 rw [bs_mk, textS_lines h0, rawN_join _ _ (by rw [← bs_size, bs_mk]; omega) (lines_free h), List.map_map]
 have e : (trimS ∘ fun x : Str => x ++ [10]) = id := funext fun l => trimS_line l
 rw [e, List.map_id]
 unfold linesT
 rw [List.foldl_cons, List.foldl_cons]
 have e1 : stepN [] [47, 42] = [] := by simp [stepN]
 have e2 : stepN [] [33, 47, 42, 47] = [] := by simp [stepN]
 rw [e1, e2, steps_all k _ _ fun d hd => dirs_some hd, List.nil_append, dirs_in h]
def refN : List Str → List ByteArray
 | [] => []
 | l :: r => if 2 < l.length ∧ l.head? = some 47 ∧ l.getLast? = some 47 ∧ r.head? ≠ some ([33] ++ l ++ [42, 47]) then mk ((l.take (l.length - 1)).drop 1) :: refN r else refN r
theorem refN_other {l : Str} {r : List Str} (h : l.head? ≠ some 47 ∨ l.length ≤ 2) : refN (l :: r) = refN r := by
 rw [refN, if_neg]
 rintro ⟨h1, h2, _⟩
 rcases h with h | h
 ·exact h h2
 ·omega
theorem refN_two (k : List ByteArray) {d : ByteArray} (h : bs d ≠ []) (r : List Str) (hr : ∀ d : ByteArray, r.head? ≠ some (shutL d)) : refN (twoL k d ++ r) = if d ∈ k then d :: refN r else refN r := by
 have hl : 0 < (bs d).length := List.length_pos_iff.2 h
 have hd : ((openL d).take ((openL d).length - 1)).drop 1 = bs d := by
  rw [openL_length]
  unfold openL
  rw [show 47 :: bs d ++ [47] = (47 :: bs d) ++ [47] from rfl, List.take_append_of_le_length (by simp), List.take_of_length_le (by simp)]
  rfl
 have hs : [33] ++ openL d ++ [42, 47] = shutL d := by simp [openL, shutL]
 unfold twoL
 by_cases hk : d ∈ k
 ·rw [if_pos hk, if_pos hk, List.singleton_append, refN, if_pos ⟨by rw [openL_length]; omega, by simp [openL], openL_last d, by rw [hs]; exact hr d⟩, hd, mk_bs]
 ·rw [if_neg hk, if_neg hk]
  show refN (openL d :: shutL d :: r) = _
  rw [refN, if_neg (fun e => e.2.2.2 (by rw [hs]; rfl)), refN_other (.inl (by simp [shutL]))]
theorem refN_all (k : List ByteArray) : ∀ (D : List ByteArray), (∀ d ∈ D, bs d ≠ []) → refN (D.flatMap (twoL k) ++ [[]]) = D.filter (fun d => decide (d ∈ k))
 | [], _ => by simp [refN]
 | d :: D, h => by
  rw [List.flatMap_cons, List.append_assoc, refN_two k (h d List.mem_cons_self), refN_all k D fun x hx => h x (List.mem_cons_of_mem _ hx)]
  ·by_cases hd : d ∈ k <;> simp [hd]
  ·intro e
   cases D with
   | nil => simp [shutL]
   | cons c D => simp [twoL, openL, shutL]
theorem refN_text {k : List ByteArray} (h : ConesP k) : refN (linesT k ++ [[]]) = k := by
 show refN ([47, 42] :: [33, 47, 42, 47] :: ((dirsT k).flatMap (twoL k) ++ [[]])) = k
 rw [refN_other (.inr (by simp)), refN_other (.inl (by simp)), refN_all k _ fun d hd => dirs_some hd, dirs_in h]
theorem textS_root : textS [(⟨#[]⟩ : ByteArray)] = [47, 42, 10] := by unfold textS; rw [if_pos rfl]
theorem lineT_length (k : List ByteArray) (d : ByteArray) : (lineT k d).length ≤ 2 * d.size + 12 := by
 unfold lineT
 split <;> simp only [List.length_append, List.length_cons, List.length_nil, bs_size] <;> omega
theorem flat_length (k : List ByteArray) : ∀ D : List ByteArray, (∀ d ∈ D, d.size ≤ 120) → (D.flatMap (lineT k)).length ≤ 260 * D.length
 | [], _ => by simp
 | d :: D, h => by
  have h1 := flat_length k D fun x hx => h x (List.mem_cons_of_mem _ hx)
  have h2 := lineT_length k d
  have h3 := h d List.mem_cons_self
  rw [List.flatMap_cons, List.length_append, List.length_cons]
  omega
theorem flatMap_le (m : Nat) : ∀ k : List ByteArray, (∀ p ∈ k, (ups p).length ≤ m) → (k.flatMap ups).length ≤ m * k.length
 | [], _ => by simp
 | p :: k, h => by
  have h1 := flatMap_le m k fun x hx => h x (List.mem_cons_of_mem _ hx)
  have h2 := h p List.mem_cons_self
  rw [List.flatMap_cons, List.length_append, List.length_cons, Nat.mul_succ]
  omega
theorem dirsT_length {k : List ByteArray} (hv : ∀ p ∈ k, validB p = true) : (dirsT k).length ≤ 120 * k.length := by
 refine Nat.le_trans (norm_length_le _) (flatMap_le 120 k fun p hp => ?_)
 have h1 := ups_length p.size p (Nat.le_refl _)
 have h2 := valid_size (hv p hp)
 omega
theorem dirsT_size {k : List ByteArray} (hv : ∀ p ∈ k, validB p = true) : ∀ d ∈ dirsT k, d.size ≤ 120 := fun d hd => by
 obtain ⟨c, hc, hd⟩ := mem_dirsT.1 hd
 have := (ups_size c.size c (Nat.le_refl _) d hd).1
 have := valid_size (hv c hc)
 omega
theorem mk_size (a : Str) : (mk a).size = a.length := by rw [← bs_size, bs_mk]
theorem rawN_length : ∀ (n : Nat) (s : Str), (rawN n s).length ≤ n ∧ ∀ l ∈ rawN n s, l.length ≤ s.length
 | 0, s => by simp [rawN]
 | n + 1, s => by
  unfold rawN
  split
  ·simp
  ·split
   ·simp
   ·have ih := rawN_length n (s.drop ((Lib.indexByte s 10).toNat + 1))
    refine ⟨by rw [List.length_cons]; omega, fun l hl => ?_⟩
    rcases List.mem_cons.1 hl with rfl | hl
    ·rw [List.length_take]; omega
    ·have := ih.2 l hl; rw [List.length_drop] at this; omega
theorem steps_bound (m : Nat) : ∀ (L : List Str) (out : List ByteArray), (∀ l ∈ L, l.length ≤ m) → (∀ p ∈ out, p.size ≤ m) → (L.foldl stepN out).length ≤ out.length + L.length ∧ ∀ p ∈ L.foldl stepN out, p.size ≤ m
 | [], out, _, ho => by simpa using ho
 | l :: L, out, hl, ho => by
  have hstep : (stepN out l).length ≤ out.length + 1 ∧ ∀ p ∈ stepN out l, p.size ≤ m := by
   unfold stepN
   split
   ·refine ⟨by simp, fun p hp => ?_⟩
    rcases List.mem_append.1 hp with hp | hp
    ·exact ho p hp
    ·have := hl l List.mem_cons_self
     rw [List.mem_singleton.1 hp, mk_size, List.length_drop, List.length_take]; omega
   ·split
    ·exact ⟨by rw [List.length_take]; omega, fun p hp => ho p (List.mem_of_mem_take hp)⟩
    ·exact ⟨by omega, ho⟩
  have ih := steps_bound m L (stepN out l) (fun x hx => hl x (List.mem_cons_of_mem _ hx)) hstep.2
  rw [List.foldl_cons, List.length_cons]
  exact ⟨by omega, ih.2⟩
theorem named_bound (s : ByteArray) : (namedT s).length ≤ s.size + 1 ∧ ∀ p ∈ namedT s, p.size ≤ s.size := by
 have h := rawN_length (s.size + 1) (bs s)
 have := steps_bound s.size ((rawN (s.size + 1) (bs s)).map trimS) [] (fun l hl => by
  obtain ⟨x, hx, rfl⟩ := List.mem_map.1 hl
  have := h.2 x hx
  rw [bs_size] at this
  unfold trimS
  split
  ·rw [List.length_dropLast]; omega
  ·exact this) (fun p hp => absurd hp (by simp))
 refine ⟨?_, this.2⟩
 have h2 := this.1
 rw [List.length_map, List.length_nil] at h2
 unfold namedT
 omega
end Go.Proofs.YtehfogjibhnabaaDoor.PAll
namespace Go.Proofs.YtehfogjibhnabaaDoor.PAll
open Go.RowKit Go.Shelf Go.Proofs.YtehfogjibhnabaaDoorW.PrintWords Go.Proofs.YtehfogjibhnabaaDoorW.PrintLast Go.Proofs.YtehfogjibhnabaaDoorW.PrintMore
open Go.Proofs.YtehfogjibhnabaaDoor.Sp
theorem rises_at {l : List ByteArray} (h : Rises l) {i j : Nat} (hij : i < j) (hj : j < l.length) : cB (l.getD i ByteArray.empty) (l.getD j ByteArray.empty) < 0 := by
 rw [List.getD_eq_getElem?_getD, List.getD_eq_getElem?_getD, List.getElem?_eq_getElem hj, List.getElem?_eq_getElem (by omega)]
 exact List.pairwise_iff_getElem.1 h i j (by omega) hj hij
theorem getD_mem {l : List ByteArray} {i : Nat} (h : i < l.length) : l.getD i ByteArray.empty ∈ l := by
 rw [List.getD_eq_getElem?_getD, List.getElem?_eq_getElem h]; exact List.getElem_mem h
set_option maxHeartbeats 4000000 in
set_option maxRecDepth 100000 in
theorem bsf_calls (A : Option Addr) (c : Nat) (l : List ByteArray) (t : ByteArray) (w : World) (hr : Kd.C Kd.string w A l.length l) (hu : Rises l) (hs : ∀ x ∈ l, x.size < 4294967281) (ht : t.size < 4294967281) (hl : l.length ≤ 4611686018427387904) :
  Calls Tryd.prog 68 #[.slice A l.length c, .string t, .func (.func 50) #[] #[]] w fun e w' => (∃ i : Int, e = .returned (.tuple #[.int .i64 i, .bool (decide (t ∈ l))])) ∧ Below w.heap.size w w' := by
 have HR := Aside0.mk hr
 have HU := Aside0.mk hu
 have HS := Aside0.mk hs
 have HT := Aside0.mk ht
 clear hr hu hs ht
 go_enter Tryd.func68, Tryd.ntmps68
 go_wp2
 go_loopg [9, 10] l.length (fun gg s9 s10 wr => ∃ lo hi : Nat, s9 = .int .i64 lo ∧ s10 = .int .i64 hi ∧ lo ≤ hi ∧ hi ≤ l.length ∧ hi - lo ≤ gg ∧ Aside0 (Below w.heap.size w wr) ∧ Aside0 ((∀ j, j < lo → cB (l.getD j ByteArray.empty) t < 0) ∧ (∀ j, hi ≤ j → j < l.length → 0 ≤ cB (l.getD j ByteArray.empty) t)))
 case atStart => exact ⟨0, l.length, rfl, rfl, Nat.zero_le _, Nat.le_refl _, by omega, ⟨Below.refl _ _⟩, ⟨fun j hj => absurd hj (Nat.not_lt_zero _), fun j h1 h2 => by omega⟩⟩
 case round =>
  obtain ⟨lo, hi, rfl, rfl, hlh, hin, hg, BX, I⟩ := hrel
  by_cases hlt : lo < hi
  ·have hm : (lo + hi) / 2 < l.length := by omega
   obtain ⟨ad, ea, hcell⟩ := Kd.at_string (Kd.C_below HR.out BX.out) (((lo + hi) / 2 : Nat) : Int) (by omega) (by omega)
   cases ea
   rw [Int.toNat_natCast] at hcell
   have HY := Aside0.mk (HS.out _ (getD_mem hm))
   have Y : Aside0 (l.getD ((lo + hi) / 2) ByteArray.empty = rdOf ByteArray.empty l (((lo + hi) / 2 : Nat) : Int)) := ⟨(rdOf_getD _ _).symm⟩
   rw [Y.out] at HY
   generalize rdOf ByteArray.empty l (((lo + hi) / 2 : Nat) : Int) = y at hcell HY Y
   have CM := fun W => cmp_gr y t HY.out HT.out W
   by_cases hyt : cB y t < 0
   ·go_wp2_with fail
    refine (CM _).mono ?_
    rintro e w' ⟨rfl, hq⟩
    go_wp2
    go_roundg (hi - ((lo + hi) / 2 + 1))
    case measure => omega
    case rel =>
     refine ⟨(lo + hi) / 2 + 1, hi, by rw [show ((lo : Int) + (hi : Int)) / 2 + 1 = (((lo + hi) / 2 + 1 : Nat) : Int) by omega], rfl, by omega, hin, Nat.le_refl _, ⟨below_then BX.out BX.out.size hq.below⟩, ⟨fun j hj => ?_, I.out.2⟩⟩
     by_cases e : j = (lo + hi) / 2
     ·subst e; rw [Y.out]; exact hyt
     ·have := rises_at HU.out (show j < (lo + hi) / 2 by omega) hm
      rw [Y.out] at this
      exact cB_trans this hyt
   ·go_wp2_with fail
    refine (CM _).mono ?_
    rintro e w' ⟨rfl, hq⟩
    go_wp2
    go_roundg ((lo + hi) / 2 - lo)
    case measure => omega
    case rel =>
     refine ⟨lo, (lo + hi) / 2, rfl, by rw [show ((lo : Int) + (hi : Int)) / 2 = (((lo + hi) / 2 : Nat) : Int) by omega], by omega, by omega, Nat.le_refl _, ⟨below_then BX.out BX.out.size hq.below⟩, ⟨I.out.1, fun j h1 h2 => Int.not_lt.1 fun h3 => ?_⟩⟩
     by_cases e : j = (lo + hi) / 2
     ·subst e; rw [Y.out] at h3; omega
     ·have := rises_at HU.out (show (lo + hi) / 2 < j by omega) h2
      rw [Y.out] at this
      have := cB_trans this h3; omega
  ·obtain rfl : hi = lo := by omega
   have FIN : ∀ b : Bool, (b = decide (hi < l.length ∧ cB (l.getD hi ByteArray.empty) t = 0)) → decide (t ∈ l) = b := fun b hb => by
    rw [hb]
    refine decide_eq_decide.2 ⟨fun hm => ?_, fun ⟨h1, h2⟩ => by rw [← cB_eq h2]; exact getD_mem h1⟩
    obtain ⟨j, hj, rfl⟩ := List.getElem_of_mem hm
    have e1 : l.getD j ByteArray.empty = l[j] := by rw [List.getD_eq_getElem?_getD, List.getElem?_eq_getElem hj]; rfl
    rcases Nat.lt_trichotomy j hi with h | h | h
    ·have := I.out.1 j h
     rw [e1, cB_self] at this; omega
    ·subst h; exact ⟨hj, by rw [e1, cB_self]⟩
    ·exfalso
     have h1 := rises_at HU.out h hj
     rw [e1] at h1
     have := I.out.2 hi (Nat.le_refl _) (by omega); omega
   have FIN' := Aside0.mk FIN
   clear FIN
   by_cases hn : hi < l.length
   ·obtain ⟨ad, ea, hcell⟩ := Kd.at_string (Kd.C_below HR.out BX.out) (hi : Int) (by omega) (by omega)
    cases ea
    rw [Int.toNat_natCast] at hcell
    have HY := Aside0.mk (HS.out _ (getD_mem hn))
    have Y : Aside0 (l.getD hi ByteArray.empty = rdOf ByteArray.empty l (hi : Int)) := ⟨(rdOf_getD _ _).symm⟩
    rw [Y.out] at HY
    have HN := Aside0.mk hn
    rw [Y.out] at FIN'
    generalize rdOf ByteArray.empty l (hi : Int) = y at hcell HY Y FIN'
    have CM := fun W => cmp_gr y t HY.out HT.out W
    have hltz : (hi : Int) < (l.length : Int) := by omega
    by_cases hyt : cB y t = 0
    ·go_wp2_with fail
     refine (CM _).mono ?_
     rintro e w' ⟨rfl, hq⟩
     go_wp2
     go_ret2
     exact ⟨⟨(hi : Int), by rw [FIN'.out true (by simp [HN.out, hyt])]; rfl⟩, below_then BX.out BX.out.size hq.below⟩
    ·go_wp2_with fail
     refine (CM _).mono ?_
     rintro e w' ⟨rfl, hq⟩
     go_wp2
     go_ret2
     have hy2 : (cB y t == 0) = false := by simpa using hyt
     exact ⟨⟨(hi : Int), by rw [FIN'.out false (by simp [hyt])]; show Ending.returned (.tuple #[.int .i64 hi, .bool (cB y t == 0)]) = _; rw [hy2]⟩, below_then BX.out BX.out.size hq.below⟩
   ·have hltz : ¬ (hi : Int) < (l.length : Int) := by omega
    go_wp2
    go_ret2
    exact ⟨⟨(hi : Int), by rw [FIN'.out false (by simp [hn])]; rfl⟩, BX.out⟩
end Go.Proofs.YtehfogjibhnabaaDoor.PAll
namespace Go.Proofs.YtehfogjibhnabaaDoor.PAll
open Go.RowKit
def SameAt (b : Nat) (A B : World) : Prop := B.heap[b]? = A.heap[b]?
theorem sameAt_of {b : Nat} {A B : World} (h : B.heap[b]? = A.heap[b]?) : SameAt b A B := h
def AbidesBox {β : Type} (b : Nat) (J : β → World → Prop) : Prop := ∀ s A B, J s A → A.grownBy B (some b) → J s B
def SeqBox {α : Type} (n : Nat) (P : Program) (g : Nat) (lb : Array Value) (encs : α → Array Value) (b : Nat) (L : List α) (w : World) : Prop :=
 ∀ (l : Nat) (J : List α → World → Prop) (W : World), Below w.heap.size w W → AbidesBox b J →
  (∀ pre x suf W1, L = pre ++ x :: suf → J pre W1 → YieldAt Fence.wide (n - 1) P l (encs x) W1 fun e W' => e = .returned (.bool true) ∧ J (pre ++ [x]) W' ∧ W'.heap[b]? = W1.heap[b]?) →
  J [] W → CallsIn Fence.wide n P g (#[.func (.yield l) #[] #[]] ++ lb) W fun e W' => (∃ v, e = .returned v) ∧ J L W'
theorem range_boxed {P : Program} {α : Type} {n : Nat} {g : Operand} {ps : Array Tmp} {assign body : Code} {Q : Exit → Act → World → Prop} {a : Act} {w : World} (h1 : 1 ≤ n) {gf : Nat} {lb : Array Value}
  (hg : a.eval g = .func (.func gf) #[] lb) (hFg : Fence.wide.fn gf) (eg : ∀ args w, (callFunc gf args).run P w = .ok (.enter gf args) w) {encs : α → Array Value} {b : Nat} {L : List α} (hseq : SeqBox (n - 1) P gf lb encs b L w) (hb : b < w.heap.size)
  (hps : ∀ x, (encs x).size = ps.size) (I : List α → World → Prop) (hIb : AbidesBox b I) (hI : OwnFrom w.heap.size I) (h0 : I [] w) (a₁ : α → Act)
  (hassign : ∀ (l : Nat) (x : α) (W : World) (K : Act → World → Prop), K (a₁ x) W →
   assign.wpIn (Fence.wide.inRound l) (n - 1 - 1) P (Exit.then K (fun _ _ _ => False)) { tmps := (ps.zip (encs x)).foldl (fun t (p, v) => t.setIfInBounds p v) a.tmps, defers := [] } W)
  (hbody : ∀ (l : Nat) (pre : List α) (x : α) (suf : List α) (W : World), L = pre ++ x :: suf → I pre W → b < W.heap.size →
   body.wpIn (Fence.wide.inRound l) (n - 1 - 1) P (fun e _ W' => e = .normal ∧ KeepsOthers W W' ∧ SameAt b W W' ∧ I (pre ++ [x]) W') (a₁ x) W)
  (hdone : ∀ (D : Nat) (W : World), w.heap.size ≤ D → I L W → W.heap[D]? = some (.deferred (some [])) → Q .normal { a with defers := { target := .collected D, args := #[] } :: a.defers } W) :
  (Code.rangeFunc g ps assign body).wpIn Fence.wide n P Q a w := by
 refine wpIn_rangeFunc fun fn hfn => ?_
 have hro : Fence.wide.round = none := rfl
 rw [hro]
 obtain ⟨rec, hrec⟩ : ∃ rec : LoopState → Loop, rec = fun st => { state := st, pending := none, fn, tmps := a.tmps, params := ps, assign, body, defers := w.heap.size } := ⟨_, rfl⟩
 obtain ⟨W1, hW1⟩ : ∃ W1, (w.alloc (.deferred (some []))).alloc (.loop (rec .ready)) = W1 := ⟨_, rfl⟩
 have hL1 : W1.heap[w.heap.size + 1]? = some (.loop (rec .ready)) := by
  rw [← hW1]; have := World.alloc_heap_new (w.alloc (.deferred (some []))) (.loop (rec .ready)); rwa [World.size_alloc] at this
 have hK1 : W1.heap[w.heap.size]? = some (.deferred (some [])) := by
  rw [← hW1]; exact (Below.heap_alloc _ _ _ (by simp)).trans (World.alloc_heap_new w _)
 have hI1 : I [] W1 := by rw [← hW1]; exact hI.alloc _ (hI.alloc _ h0)
 have hb1 : Below w.heap.size w W1 := by
  rw [← hW1]; exact ((Below.refl _ w).alloc (Nat.le_refl _) _).alloc (by simp) _
 refine ⟨w.heap.size + 1, [{ target := .collected w.heap.size, args := #[] }], W1, { target := .fn (.func gf) lb, args := #[.func (.yield (w.heap.size + 1)) #[] #[]] }, W1, gf,
  #[.func (.yield (w.heap.size + 1)) #[] #[]] ++ lb, W1, ?_, ?_, ?_, ?_, fun _ => h1, ?_⟩
 ·rw [← hW1, hrec]; exact run_enterLoop_outer _ _ _ _ _
 ·simp only [resolve, hg]
  simp [go_sem]
 ·intro f' hf'; simp [Target.leads] at hf'; subst hf'; exact hFg
 ·simp [invoke, go_sem, eg]
 ·refine (hseq (w.heap.size + 1) (fun pre W => (I pre W ∧ b < W.heap.size) ∧ W.heap[w.heap.size + 1]? = some (.loop (rec .ready)) ∧ W.heap[w.heap.size]? = some (.deferred (some []))) W1 hb1 ?_ ?_ ⟨⟨hI1, Nat.lt_of_lt_of_le hb hb1.size⟩, hL1, hK1⟩).mono ?_
  ·rintro s A B ⟨⟨hi, hbA⟩, hl, hk⟩ hgr
   exact ⟨⟨hIb s A B hi hgr, Nat.lt_of_lt_of_le hbA hgr.size⟩, (hgr.block _ (Array.getElem?_eq_some_iff.1 hl).1 (by simp; omega)).trans hl, (hgr.block _ (Array.getElem?_eq_some_iff.1 hk).1 (by simp; omega)).trans hk⟩
  ·rintro pre x suf W hL ⟨⟨hi, hbW⟩, hl, hk⟩
   have hlt : w.heap.size + 1 < W.heap.size := (Array.getElem?_eq_some_iff.1 hl).1
   have hy := run_yield (P := P) (args := encs x) hl (by rw [hrec]; exact hps x)
   rw [hrec] at hy
   refine ⟨fn, _, assign, body, hy, roundIn_of_wpIn hfn (hassign _ x W _ ⟨_, run_beginRound hl (by rw [hrec]), ?_⟩)⟩
   have hl2 : (W.putObj (w.heap.size + 1) (.loop { rec .ready with state := .busy })).heap[w.heap.size + 1]? = some (.loop { rec .ready with state := .busy }) := World.putObj_heap_same hlt
   have hk2 : (W.putObj (w.heap.size + 1) (.loop { rec .ready with state := .busy })).heap[w.heap.size]? = some (.deferred (some [])) := (World.putObj_heap_other (by omega)).trans hk
   have hb2 : (W.putObj (w.heap.size + 1) (.loop { rec .ready with state := .busy })).heap[b]? = W.heap[b]? := World.putObj_heap_other (by omega)
   refine wpIn_mono (hbody _ pre x suf _ hL (hI.putObj _ hi (by omega) hl rfl) (by simpa using hbW)) ?_
   rintro e a3 W3 ⟨rfl, hk3, hb3, hi3⟩
   unfold SameAt at hb3
   have hl3 := hk3.same _ _ hl2 rfl
   have hk4 := hk3.same _ _ hk2 rfl
   have hr := run_endRound (P := P) none hl3
   have hb4 : b < W3.heap.size := by
    have : b < (W.putObj (w.heap.size + 1) (.loop { rec .ready with state := .busy })).heap.size := by simpa using hbW
    rw [Array.getElem?_eq_getElem this] at hb3
    exact (Array.getElem?_eq_some_iff.1 hb3).1
   refine ⟨_, _, hr, rfl, ⟨⟨hI.putObj _ hi3 (by omega) hl3 rfl, by simpa using hb4⟩, ?_, (World.putObj_heap_other (by omega)).trans hk4⟩, (World.putObj_heap_other (by omega)).trans (hb3.trans hb2)⟩
   rw [World.putObj_heap_same (Array.getElem?_eq_some_iff.1 hl3).1, hrec]
   rfl
  ·rintro e W2 ⟨⟨v, rfl⟩, ⟨hi, _⟩, hl, hk⟩
   have := run_endLoop (P := P) hl (by rw [hrec]; simp)
   rw [hrec] at this
   exact ⟨none, _, this, hdone _ _ (Nat.le_refl _) (hI.putObj _ hi (by omega) hl rfl) ((World.putObj_heap_other (by omega)).trans hk)⟩
end Go.Proofs.YtehfogjibhnabaaDoor.PAll
namespace Go.Proofs.YtehfogjibhnabaaDoor.PAll
open Go.RowKit Go.Shelf Go.Proofs.YtehfogjibhnabaaDoorW.PrintWords Go.Proofs.YtehfogjibhnabaaDoorW.PrintLast Go.Proofs.YtehfogjibhnabaaDoorW.PrintMore
open Go.Proofs.YtehfogjibhnabaaDoor.Sp
def linesB (s : ByteArray) : List ByteArray := (rawN (s.size + 1) (bs s)).map mk
theorem rawN_more : ∀ (n : Nat) (s : Str), s.length < n → rawN (n + 1) s = rawN n s
 | 0, s, h => by omega
 | n + 1, s, h => by
  show (if s = [] then [] else if Lib.indexByte s 10 < 0 then [s] else s.take ((Lib.indexByte s 10).toNat + 1) :: rawN (n + 1) (s.drop ((Lib.indexByte s 10).toNat + 1))) = (if s = [] then [] else if Lib.indexByte s 10 < 0 then [s] else s.take ((Lib.indexByte s 10).toNat + 1) :: rawN n (s.drop ((Lib.indexByte s 10).toNat + 1)))
  by_cases h0 : s = []
  ·rw [if_pos h0, if_pos h0]
  ·have := List.length_pos_iff.2 h0
   rw [rawN_more n (s.drop ((Lib.indexByte s 10).toNat + 1)) (by rw [List.length_drop]; omega)]
theorem rawN_le {m n : Nat} {s : Str} (hm : s.length < m) (h : m ≤ n) : rawN n s = rawN m s := by
 induction n with
 | zero => exfalso; omega
 | succ n ih =>
  by_cases e : m = n + 1
  ·subst e; rfl
  ·rw [rawN_more n s (by omega)]; exact ih (by omega)
theorem linesB_nil {s : ByteArray} (h : bs s = []) : linesB s = [] := by unfold linesB; rw [rawN, if_pos h]; rfl
theorem linesB_last {s : ByteArray} (h : bs s ≠ []) (hi : Lib.indexByte (bs s) 10 < 0) : linesB s = [s] := by
 unfold linesB; rw [rawN, if_neg h, if_pos hi]
 show [mk (bs s)] = [s]
 rw [mk_bs]
theorem linesB_more {s : ByteArray} (h : bs s ≠ []) (hi : ¬ Lib.indexByte (bs s) 10 < 0) : linesB s = mk ((bs s).take ((Lib.indexByte (bs s) 10).toNat + 1)) :: linesB (mk ((bs s).drop ((Lib.indexByte (bs s) 10).toNat + 1))) := by
 unfold linesB
 rw [rawN, if_neg h, if_neg hi, List.map_cons, bs_mk]
 congr 2
 have h1 : (bs s).length = s.size := bs_size s
 have h2 : ((bs s).drop ((Lib.indexByte (bs s) 10).toNat + 1)).length < s.size := by
  have := List.length_pos_iff.2 h
  rw [List.length_drop]; omega
 have h3 : (mk ((bs s).drop ((Lib.indexByte (bs s) 10).toNat + 1))).size = ((bs s).drop ((Lib.indexByte (bs s) 10).toNat + 1)).length := mk_size _
 exact rawN_le (by omega) (by omega)
attribute [local go_sem] Oper.semAt_some
set_option maxRecDepth 100000 in
set_option maxHeartbeats 2000000 in
theorem lines1_in (n : Nat) (hn : 1 ≤ n) (b : Nat) (s : ByteArray) (hs : s.size ≤ 65536) (w : World) (hbx : Boxed w b 9 (.string s)) :
  SeqBox n Tryd.prog 95 #[.pointer (some ⟨b, 0, none⟩)] (fun x : ByteArray => #[Value.string x]) b (linesB s) w := by
 intro l J W hW hJ hY h0
 have hb0 : Boxed W b 9 (.string s) := (hW.block b hbx.lt).trans hbx
 have HJ := Aside0.mk hJ
 have HY := Aside0.mk hY
 clear hJ hY
 refine callsIn_of_wp Tryd.func95 rfl trivial ?_ rfl
 simp only [Tryd.ntmps95, List.size_toArray, List.length_cons, List.length_nil, Nat.reduceAdd, Nat.reduceSub, Array.replicate_succ, Array.replicate_zero, List.push_toArray, List.append_toArray, List.nil_append, List.cons_append]
 gi_wp2
 gi_loopg [] s.size (fun gg wr => ∃ (pre : List ByteArray) (cur : ByteArray), cur.size ≤ gg ∧ Aside0 (cur.size ≤ 65536) ∧ Aside0 (linesB s = pre ++ linesB cur) ∧ Aside0 (Boxed wr b 9 (.string cur)) ∧ Aside0 (J pre wr))
 case atStart => exact ⟨[], s, Nat.le_refl _, ⟨hs⟩, ⟨rfl⟩, ⟨hb0⟩, ⟨h0⟩⟩
 case round =>
  obtain ⟨pre, cur, hg, HS, HL, HB, HP⟩ := hrel
  have hc := HB.out.cell
  have hsz := HS.out
  by_cases hlt : 0 < cur.size
  ·have hltz : (0 : Int) < (cur.size : Int) := by omega
   have hne : bs cur ≠ [] := fun e => by rw [← bs_size, e] at hlt; simp at hlt
   have hfz := HB.out.frozen
   have hix := fun W' => Tryd.strings_IndexByte cur 10 W'
   have HBT : Aside0 (bs cur = cur.data.toList) := ⟨rfl⟩
   have hd10 : (10 : Int).toNat.toUInt8 = 10 := rfl
   rw [hd10, ← HBT.out] at hix
   by_cases hi : Lib.indexByte (bs cur) 10 < 0
   ·have HM := Aside0.mk (linesB_last hne hi)
    obtain ⟨ix, hix0⟩ : ∃ ix : Int, Lib.indexByte (bs cur) 10 = ix := ⟨_, rfl⟩
    rw [hix0] at hix hi
    clear hix0
    have hP4 := HJ.out _ _ _ HP.out (grownBy_setCell' wr b (.string ⟨#[]⟩))
    have hB4 := HB.out.set (.string ⟨#[]⟩)
    have hE : Aside0 (linesB (⟨#[]⟩ : ByteArray) = []) := ⟨linesB_nil rfl⟩
    obtain ⟨fn, tmps, assign, body, hy, hRd⟩ := HY.out pre cur [] _ (by rw [HL.out, HM.out]) hP4
    gi_wp2_with (refine ⟨trivial, ?_⟩; gi_at_call 96; refine (callsIn_wide.2 (hix _)).mono ?_; rintro e w' ⟨rfl, rfl⟩)
    refine hRd.mono ?_
    rintro e w5 ⟨rfl, hJ5, hk5⟩
    have hB6 : Boxed w5 b 9 (.string ⟨#[]⟩) := hk5.trans hB4
    gi_wp2
    gi_roundg 0
    case measure => omega
    case rel => exact ⟨pre ++ [cur], ⟨#[]⟩, Nat.le_refl _, ⟨Nat.zero_le _⟩, ⟨by rw [HL.out, HM.out, hE.out]; simp⟩, ⟨hB6⟩, ⟨hJ5⟩⟩
   ·obtain ⟨i, hi2⟩ : ∃ i : Nat, Lib.indexByte (bs cur) 10 = (i : Int) := ⟨(Lib.indexByte (bs cur) 10).toNat, by omega⟩
    have hlt2 : i < cur.size := by
     have h1 := (Lib.indexByte_some hi2).1
     have h2 := (List.getElem?_eq_some_iff.1 h1).1
     rw [bs_size] at h2
     exact h2
    have HM := Aside0.mk (linesB_more hne hi)
    rw [hi2, Int.toNat_natCast] at HM
    rw [hi2] at hix
    clear hi hi2
    gi_wp2_with (refine ⟨trivial, ?_⟩; gi_at_call 96; refine (callsIn_wide.2 (hix _)).mono ?_; rintro e w' ⟨rfl, rfl⟩)
    have hi1 : ((i : Int) + 1) ≤ (cur.size : Int) := by omega
    gi_region
    have e1 : mk ((bs cur).take (i + 1)) = cur.extract 0 (i + 1) := by rw [extract_mk]; simp
    have e2 : mk ((bs cur).drop (i + 1)) = cur.extract (i + 1) cur.size := by rw [extract_mk, ← bs_size cur, List.take_length]
    have z2 : (cur.extract (i + 1) cur.size).size = cur.size - (i + 1) := by rw [ByteArray.size_extract]; omega
    have hP4 := HJ.out _ _ _ HP.out (grownBy_setCell' w' b (.string (cur.extract (i + 1) cur.size)))
    have hB4 := HB.out.set (.string (cur.extract (i + 1) cur.size))
    rw [e1, e2] at HM
    clear e1 e2
    have hP5 : J pre (w'.setCell ⟨b, 0, none⟩ (.string (cur.extract (i + 1) cur.size))).drew := HJ.out _ _ _ hP4 ⟨rfl, rfl, rfl, Nat.le_refl _, fun _ _ _ => rfl⟩
    have hB5 : Boxed (w'.setCell ⟨b, 0, none⟩ (.string (cur.extract (i + 1) cur.size))).drew b 9 (.string (cur.extract (i + 1) cur.size)) := hB4
    clear hP4 hB4
    generalize (w'.setCell ⟨b, 0, none⟩ (.string (cur.extract (i + 1) cur.size))).drew = w4 at hP5 hB5 ⊢
    generalize cur.extract 0 (i + 1) = x at HM ⊢
    generalize cur.extract (i + 1) cur.size = rest at HM z2 hB5 ⊢
    obtain ⟨fn, tmps, assign, body, hy, hRd⟩ := HY.out pre x (linesB rest) w4 (by rw [HL.out, HM.out]) hP5
    gi_wp2
    refine hRd.mono ?_
    rintro e w5 ⟨rfl, hJ5, hk5⟩
    have hB6 : Boxed w5 b 9 (.string rest) := hk5.trans hB5
    gi_wp2
    gi_roundg rest.size
    case measure => omega
    case rel => exact ⟨pre ++ [x], rest, Nat.le_refl _, ⟨by omega⟩, ⟨by rw [HL.out, HM.out]; simp⟩, ⟨hB6⟩, ⟨hJ5⟩⟩
  ·have hltz : ¬ (0 : Int) < (cur.size : Int) := by omega
   have hE : linesB cur = [] := linesB_nil (List.eq_nil_of_length_eq_zero (by rw [bs_size]; omega))
   have hJ6 : J (linesB s) wr := by rw [HL.out, hE, List.append_nil]; exact HP.out
   clear hE
   gi_wp2
   go_end0
   exact ⟨⟨_, rfl⟩, hJ6⟩
end Go.Proofs.YtehfogjibhnabaaDoor.PAll
namespace Go.Proofs.YtehfogjibhnabaaDoor.PAll
open Go.RowKit Go.Proofs.YtehfogjibhnabaaDoorW.PrintWords Go.Proofs.YtehfogjibhnabaaDoorW.PrintLast Go.Proofs.YtehfogjibhnabaaDoorW.PrintMore
attribute [local go_sem] max2_int min2_int max_two min_two max_three min_three max_four min_four
def stringslite_HasSuffix.f (a0 : ByteArray) (a1 : ByteArray) : Option (Bool) := if (a0.size : Int) ≥ (a1.size : Int) then (if 0 ≤ (wrap64 ((a0.size : Int) - (a1.size : Int))) then (if (wrap64 ((a0.size : Int) - (a1.size : Int))) ≤ (a0.size : Int) then (some ((a0.extract ((wrap64 ((a0.size : Int) - (a1.size : Int))) : Int).toNat a0.size).toList == a1.toList)) else (none)) else (none)) else (some false)
set_option maxHeartbeats 8000000 in
set_option maxRecDepth 100000 in
theorem stringslite_HasSuffix.calls (a0 : ByteArray) (a1 : ByteArray) (r : Bool) (w : World) (h : stringslite_HasSuffix.f a0 a1 = some r) :
  Calls Tryd.prog 99 #[.string a0, .string a1] w fun e w' => e = .returned (.bool r) ∧ Drawn0 w w' := by
 have H : (if (a0.size : Int) ≥ (a1.size : Int) then (if 0 ≤ (wrap64 ((a0.size : Int) - (a1.size : Int))) then (if (wrap64 ((a0.size : Int) - (a1.size : Int))) ≤ (a0.size : Int) then (some ((a0.extract ((wrap64 ((a0.size : Int) - (a1.size : Int))) : Int).toNat a0.size).toList == a1.toList)) else (none)) else (none)) else (some false)) = some r := h
 clear h
 by_cases c3 : (a0.size : Int) ≥ (a1.size : Int)
 ·rw [if_pos c3] at H
  have c3b0 := decide_eq_true c3
  have c3b1 : decide (a1.size ≤ a0.size) = true := decide_eq_true (Int.ofNat_le.mp c3)
  clear c3
  obtain ⟨ji4, hji4⟩ : ∃ j_ : Int, (wrap64 ((a0.size : Int) - (a1.size : Int))) = j_ := ⟨_, rfl⟩
  replace H : (if 0 ≤ (ji4) then (if (ji4) ≤ (a0.size : Int) then (some ((a0.extract ((ji4) : Int).toNat a0.size).toList == a1.toList)) else (none)) else (none)) = some r := by first | (rw [hji4] at H; exact H) | (simp only [hji4] at H ⊢; exact H)
  have hji4w : (IntKind.i64.wrap ((a0.size : Int) - (a1.size : Int))) = ji4 := (i64_w _).trans hji4
  by_cases c5 : 0 ≤ (ji4)
  ·rw [if_pos c5] at H
   have c5b0 := eq_true c5
   have c5b1 := decide_eq_true c5
   clear c5
   by_cases c6 : (ji4) ≤ (a0.size : Int)
   ·rw [if_pos c6] at H
    have c6b0 := eq_true c6
    have c6b1 := decide_eq_true c6
    clear c6
    obtain rfl := Option.some.inj H
    go_enter Tryd.func99, Tryd.ntmps99
    go_wp2
    go_ret
    exact ⟨by first | rfl | (simp; done) | (simp only [← hji4] <;> (first | rfl | simp)) | (simp [*]; done), by repeat (first | exact Drawn0.refl _ | apply Drawn0.step)⟩
   ·rw [if_neg c6] at H
    exact absurd H (by simp)
  ·rw [if_neg c5] at H
   exact absurd H (by simp)
 ·rw [if_neg c3] at H
  have c3b0 := decide_eq_false c3
  have c3b1 : decide (a1.size ≤ a0.size) = false := decide_eq_false (fun h => c3 (Int.ofNat_le.mpr h))
  clear c3
  obtain rfl := Option.some.inj H
  go_enter Tryd.func99, Tryd.ntmps99
  go_wp2
  go_ret
  exact ⟨by first | rfl | (simp; done) | (simp [*]; done), by repeat (first | exact Drawn0.refl _ | apply Drawn0.step)⟩
def stringslite_TrimSuffix.f (a0 : ByteArray) (a1 : ByteArray) : Option (ByteArray) := (stringslite_HasSuffix.f a0 a1).bind fun t132 => (if t132 = true then (if 0 ≤ (wrap64 ((a0.size : Int) - (a1.size : Int))) then (if (wrap64 ((a0.size : Int) - (a1.size : Int))) ≤ (a0.size : Int) then (some (a0.extract 0 ((wrap64 ((a0.size : Int) - (a1.size : Int))) : Int).toNat)) else (none)) else (none)) else (some a0))
set_option maxHeartbeats 8000000 in
set_option maxRecDepth 100000 in
theorem stringslite_TrimSuffix.calls (a0 : ByteArray) (a1 : ByteArray) (r : ByteArray) (w : World) (h : stringslite_TrimSuffix.f a0 a1 = some r) :
  Calls Tryd.prog 97 #[.string a0, .string a1] w fun e w' => e = .returned (.string r) ∧ Drawn0 w w' := by
 have H : ((stringslite_HasSuffix.f a0 a1).bind fun t132 => (if t132 = true then (if 0 ≤ (wrap64 ((a0.size : Int) - (a1.size : Int))) then (if (wrap64 ((a0.size : Int) - (a1.size : Int))) ≤ (a0.size : Int) then (some (a0.extract 0 ((wrap64 ((a0.size : Int) - (a1.size : Int))) : Int).toNat)) else (none)) else (none)) else (some a0))) = some r := h
 clear h
 replace H := Option.bind_eq_some_iff.mp H
 obtain ⟨t132, A30, H⟩ := H
 try dsimp only at H
 have A3 := Aside0.mk A30
 clear A30
 by_cases c4 : t132 = true
 ·subst c4
  rw [if_pos rfl] at H
  have H1 := H
  clear H
  have H := H1
  clear H1
  obtain ⟨ji5, hji5⟩ : ∃ j_ : Int, (wrap64 ((a0.size : Int) - (a1.size : Int))) = j_ := ⟨_, rfl⟩
  replace H : (if 0 ≤ (ji5) then (if (ji5) ≤ (a0.size : Int) then (some (a0.extract 0 ((ji5) : Int).toNat)) else (none)) else (none)) = some r := by first | (rw [hji5] at H; exact H) | (simp only [hji5] at H ⊢; exact H)
  (try rw [hji5] at A3)
  have hji5w : (IntKind.i64.wrap ((a0.size : Int) - (a1.size : Int))) = ji5 := (i64_w _).trans hji5
  by_cases c6 : 0 ≤ (ji5)
  ·rw [if_pos c6] at H
   have c6b0 := eq_true c6
   have c6b1 := decide_eq_true c6
   clear c6
   by_cases c7 : (ji5) ≤ (a0.size : Int)
   ·rw [if_pos c7] at H
    have c7b0 := eq_true c7
    have c7b1 := decide_eq_true c7
    clear c7
    obtain rfl := Option.some.inj H
    go_enter Tryd.func97, Tryd.ntmps97
    go_wp2_with (first | ((with_reducible refine gate_callee (f := 99) rfl ?_); refine goesL_ (some 7) rfl rfl Tryd.func99 (by kernel_rfl) rfl #[.string a0, .string a1] rfl (by (try simp only [List.map_toArray, List.map_cons, List.map_nil]); first | done | rfl | (simp only [List.length_drop, List.length_take]; rfl)) ?_; (with_reducible refine (stringslite_HasSuffix.calls a0 a1 true _ A3.out).mono ?_); rintro e w' ⟨rfl, ⟨nd, rfl⟩⟩; refine ⟨_, rfl, ?_⟩))
    go_ret
    exact ⟨by first | rfl | (simp; done) | (simp only [← hji5] <;> (first | rfl | simp)) | (simp [*]; done), by repeat (first | exact Drawn0.refl _ | apply Drawn0.step)⟩
   ·rw [if_neg c7] at H
    exact absurd H (by simp)
  ·rw [if_neg c6] at H
   exact absurd H (by simp)
 ·replace c4 := Bool.eq_false_iff.mpr c4
  subst c4
  have H1 : (some a0) = some r := by rw [if_neg (show ¬ (false = true) by decide)] at H; exact H
  clear H
  have H := H1
  clear H1
  obtain rfl := Option.some.inj H
  go_enter Tryd.func97, Tryd.ntmps97
  go_wp2_with (first | ((with_reducible refine gate_callee (f := 99) rfl ?_); refine goesL_ (some 7) rfl rfl Tryd.func99 (by kernel_rfl) rfl #[.string a0, .string a1] rfl (by (try simp only [List.map_toArray, List.map_cons, List.map_nil]); first | done | rfl | (simp only [List.length_drop, List.length_take]; rfl)) ?_; (with_reducible refine (stringslite_HasSuffix.calls a0 a1 false _ A3.out).mono ?_); rintro e w' ⟨rfl, ⟨nd, rfl⟩⟩; refine ⟨_, rfl, ?_⟩))
  go_ret
  exact ⟨by first | rfl | (simp; done) | (simp [*]; done), by repeat (first | exact Drawn0.refl _ | apply Drawn0.step)⟩
def strings_TrimSuffix.f (a0 : ByteArray) (a1 : ByteArray) : Option (ByteArray) := (stringslite_TrimSuffix.f a0 a1).bind fun t133 => (some t133)
set_option maxHeartbeats 8000000 in
set_option maxRecDepth 100000 in
theorem strings_TrimSuffix.calls (a0 : ByteArray) (a1 : ByteArray) (r : ByteArray) (w : World) (h : strings_TrimSuffix.f a0 a1 = some r) :
  Calls Tryd.prog 71 #[.string a0, .string a1] w fun e w' => e = .returned (.string r) ∧ Drawn0 w w' := by
 have H : ((stringslite_TrimSuffix.f a0 a1).bind fun t133 => (some t133)) = some r := h
 clear h
 replace H := Option.bind_eq_some_iff.mp H
 obtain ⟨t133, A30, H⟩ := H
 try dsimp only at H
 have A3 := Aside0.mk A30
 clear A30
 obtain rfl := Option.some.inj H
 go_enter Tryd.func71, Tryd.ntmps71
 go_wp2_with (first | ((with_reducible refine gate_callee (f := 97) rfl ?_); refine goesL_ (some 7) rfl rfl Tryd.func97 (by kernel_rfl) rfl #[.string a0, .string a1] rfl (by (try simp only [List.map_toArray, List.map_cons, List.map_nil]); first | done | rfl | (simp only [List.length_drop, List.length_take]; rfl)) ?_; (with_reducible refine (stringslite_TrimSuffix.calls a0 a1 t133 _ A3.out).mono ?_); rintro e w' ⟨rfl, ⟨nd, rfl⟩⟩; refine ⟨_, rfl, ?_⟩))
 go_ret
 exact ⟨by first | rfl | (simp; done) | (simp [*]; done), by repeat (first | exact Drawn0.refl _ | apply Drawn0.step)⟩
def stringslite_HasPrefix.f (a0 : ByteArray) (a1 : ByteArray) : Option (Bool) := if (a0.size : Int) ≥ (a1.size : Int) then (if 0 ≤ (a1.size : Int) then (if (a1.size : Int) ≤ (a0.size : Int) then (some ((a0.extract 0 ((a1.size : Int) : Int).toNat).toList == a1.toList)) else (none)) else (none)) else (some false)
set_option maxHeartbeats 8000000 in
set_option maxRecDepth 100000 in
theorem stringslite_HasPrefix.calls (a0 : ByteArray) (a1 : ByteArray) (r : Bool) (w : World) (h : stringslite_HasPrefix.f a0 a1 = some r) :
  Calls Tryd.prog 98 #[.string a0, .string a1] w fun e w' => e = .returned (.bool r) ∧ Drawn0 w w' := by
 have H : (if (a0.size : Int) ≥ (a1.size : Int) then (if 0 ≤ (a1.size : Int) then (if (a1.size : Int) ≤ (a0.size : Int) then (some ((a0.extract 0 ((a1.size : Int) : Int).toNat).toList == a1.toList)) else (none)) else (none)) else (some false)) = some r := h
 clear h
 by_cases c3 : (a0.size : Int) ≥ (a1.size : Int)
 ·rw [if_pos c3] at H
  have c3b0 := decide_eq_true c3
  have c3b1 : decide (a1.size ≤ a0.size) = true := decide_eq_true (Int.ofNat_le.mp c3)
  clear c3
  by_cases c4 : 0 ≤ (a1.size : Int)
  ·rw [if_pos c4] at H
   have c4b0 := eq_true c4
   have c4b1 := decide_eq_true c4
   clear c4
   by_cases c5 : (a1.size : Int) ≤ (a0.size : Int)
   ·rw [if_pos c5] at H
    have c5b0 := eq_true c5
    have c5b1 := decide_eq_true c5
    clear c5
    obtain rfl := Option.some.inj H
    go_enter Tryd.func98, Tryd.ntmps98
    go_wp2
    go_ret
    exact ⟨by first | rfl | (simp; done) | (simp [*]; done), by repeat (first | exact Drawn0.refl _ | apply Drawn0.step)⟩
   ·rw [if_neg c5] at H
    exact absurd H (by simp)
  ·rw [if_neg c4] at H
   exact absurd H (by simp)
 ·rw [if_neg c3] at H
  have c3b0 := decide_eq_false c3
  have c3b1 : decide (a1.size ≤ a0.size) = false := decide_eq_false (fun h => c3 (Int.ofNat_le.mpr h))
  clear c3
  obtain rfl := Option.some.inj H
  go_enter Tryd.func98, Tryd.ntmps98
  go_wp2
  go_ret
  exact ⟨by first | rfl | (simp; done) | (simp [*]; done), by repeat (first | exact Drawn0.refl _ | apply Drawn0.step)⟩
def strings_HasPrefix.f (a0 : ByteArray) (a1 : ByteArray) : Option (Bool) := (stringslite_HasPrefix.f a0 a1).bind fun t134 => (some t134)
set_option maxHeartbeats 8000000 in
set_option maxRecDepth 100000 in
theorem strings_HasPrefix.calls (a0 : ByteArray) (a1 : ByteArray) (r : Bool) (w : World) (h : strings_HasPrefix.f a0 a1 = some r) :
  Calls Tryd.prog 72 #[.string a0, .string a1] w fun e w' => e = .returned (.bool r) ∧ Drawn0 w w' := by
 have H : ((stringslite_HasPrefix.f a0 a1).bind fun t134 => (some t134)) = some r := h
 clear h
 replace H := Option.bind_eq_some_iff.mp H
 obtain ⟨t134, A30, H⟩ := H
 try dsimp only at H
 have A3 := Aside0.mk A30
 clear A30
 obtain rfl := Option.some.inj H
 go_enter Tryd.func72, Tryd.ntmps72
 go_wp2_with (first | ((with_reducible refine gate_callee (f := 98) rfl ?_); refine goesL_ (some 7) rfl rfl Tryd.func98 (by kernel_rfl) rfl #[.string a0, .string a1] rfl (by (try simp only [List.map_toArray, List.map_cons, List.map_nil]); first | done | rfl | (simp only [List.length_drop, List.length_take]; rfl)) ?_; (with_reducible refine (stringslite_HasPrefix.calls a0 a1 t134 _ A3.out).mono ?_); rintro e w' ⟨rfl, ⟨nd, rfl⟩⟩; refine ⟨_, rfl, ?_⟩))
 go_ret
 exact ⟨by first | rfl | (simp; done) | (simp [*]; done), by repeat (first | exact Drawn0.refl _ | apply Drawn0.step)⟩
def strings_HasSuffix.f (a0 : ByteArray) (a1 : ByteArray) : Option (Bool) := (stringslite_HasSuffix.f a0 a1).bind fun t135 => (some t135)
set_option maxHeartbeats 8000000 in
set_option maxRecDepth 100000 in
theorem strings_HasSuffix.calls (a0 : ByteArray) (a1 : ByteArray) (r : Bool) (w : World) (h : strings_HasSuffix.f a0 a1 = some r) :
  Calls Tryd.prog 73 #[.string a0, .string a1] w fun e w' => e = .returned (.bool r) ∧ Drawn0 w w' := by
 have H : ((stringslite_HasSuffix.f a0 a1).bind fun t135 => (some t135)) = some r := h
 clear h
 replace H := Option.bind_eq_some_iff.mp H
 obtain ⟨t135, A30, H⟩ := H
 try dsimp only at H
 have A3 := Aside0.mk A30
 clear A30
 obtain rfl := Option.some.inj H
 go_enter Tryd.func73, Tryd.ntmps73
 go_wp2_with (first | ((with_reducible refine gate_callee (f := 99) rfl ?_); refine goesL_ (some 7) rfl rfl Tryd.func99 (by kernel_rfl) rfl #[.string a0, .string a1] rfl (by (try simp only [List.map_toArray, List.map_cons, List.map_nil]); first | done | rfl | (simp only [List.length_drop, List.length_take]; rfl)) ?_; (with_reducible refine (stringslite_HasSuffix.calls a0 a1 t135 _ A3.out).mono ?_); rintro e w' ⟨rfl, ⟨nd, rfl⟩⟩; refine ⟨_, rfl, ?_⟩))
 go_ret
 exact ⟨by first | rfl | (simp; done) | (simp [*]; done), by repeat (first | exact Drawn0.refl _ | apply Drawn0.step)⟩
end Go.Proofs.YtehfogjibhnabaaDoor.PAll
namespace Go.Proofs.YtehfogjibhnabaaDoor.PAll
open Go.RowKit Go.Proofs.YtehfogjibhnabaaDoorW.PrintWords Go.Proofs.YtehfogjibhnabaaDoorW.PrintLast Go.Proofs.YtehfogjibhnabaaDoorW.PrintMore
open Go.Proofs.YtehfogjibhnabaaDoor.Sp
theorem suffix_f (s : ByteArray) (c : UInt8) (hs : s.size ≤ 65536) : stringslite_HasSuffix.f s ⟨#[c]⟩ = some (decide ((bs s).getLast? = some c)) := by
 unfold stringslite_HasSuffix.f
 have hz : ((⟨#[c]⟩ : ByteArray).size : Int) = 1 := rfl
 rw [hz]
 rcases List.eq_nil_or_concat (bs s) with h | ⟨l, x, h⟩
 ·have h0 : s.size = 0 := by rw [← bs_size, h]; rfl
  rw [if_neg (by omega), h]; rfl
 ·have h0 : s.size = l.length + 1 := by rw [← bs_size, h]; simp
  have hw : wrap64 ((s.size : Int) - 1) = (l.length : Int) := by rw [wrap_add (by omega) (by omega)]; omega
  rw [if_pos (by omega), hw, if_pos (by omega), if_pos (by omega), Int.toNat_natCast, extract_mk, toList_bs, bs_mk, ← bs_size s, List.take_length, h]
  congr 1
  have e1 : (⟨#[c]⟩ : ByteArray).toList = [c] := by rw [toList_bs]; rfl
  rw [e1, List.concat_eq_append, List.drop_left]
  by_cases hx : x = c
  ·subst hx; simp
  ·have : ([x] == [c]) = false := by simp [hx]
   rw [this]; simp [hx]
theorem prefix_f (s : ByteArray) (c : UInt8) : stringslite_HasPrefix.f s ⟨#[c]⟩ = some (decide ((bs s).head? = some c)) := by
 unfold stringslite_HasPrefix.f
 have hz : ((⟨#[c]⟩ : ByteArray).size : Int) = 1 := rfl
 rw [hz]
 rcases h : bs s with _ | ⟨x, l⟩
 ·have h0 : s.size = 0 := by rw [← bs_size, h]; rfl
  rw [if_neg (by omega)]; rfl
 ·have h0 : s.size = l.length + 1 := by rw [← bs_size, h]; simp
  rw [if_pos (by omega), if_pos (by omega), if_pos (by omega), extract_mk, toList_bs, bs_mk, h]
  congr 1
  have e1 : (⟨#[c]⟩ : ByteArray).toList = [c] := by rw [toList_bs]; rfl
  rw [e1]
  show (([x] : Str) == [c]) = _
  by_cases hx : x = c
  ·subst hx; simp
  ·have : ([x] == [c]) = false := by simp [hx]
   rw [this]; simp [hx]
theorem trim_f (s : ByteArray) (hs : s.size ≤ 65536) : strings_TrimSuffix.f s ⟨#[10]⟩ = some (mk (trimS (bs s))) := by
 unfold strings_TrimSuffix.f stringslite_TrimSuffix.f
 rw [suffix_f s 10 hs]
 have hz : ((⟨#[10]⟩ : ByteArray).size : Int) = 1 := rfl
 rw [hz]
 simp only [Option.bind_some, decide_eq_true_eq]
 unfold trimS
 by_cases h : (bs s).getLast? = some 10
 ·have h0 : 0 < s.size := by
   rw [← bs_size]
   refine List.length_pos_iff.2 fun e => ?_
   rw [e] at h; simp at h
  have hw : wrap64 ((s.size : Int) - 1) = ((s.size - 1 : Nat) : Int) := by rw [wrap_add (by omega) (by omega)]; omega
  rw [if_pos h, if_pos h, hw, if_pos (by omega), if_pos (by omega), Int.toNat_natCast, extract_mk, List.drop_zero, Option.bind_some, ← bs_size, ← List.dropLast_eq_take]
 ·rw [if_neg h, if_neg h, Option.bind_some, mk_bs]
theorem hasprefix_calls (s : ByteArray) (c : UInt8) (w : World) : Calls Tryd.prog 72 #[.string s, .string ⟨#[c]⟩] w fun e w' => e = .returned (.bool (decide ((bs s).head? = some c))) ∧ Drawn0 w w' :=
 strings_HasPrefix.calls s ⟨#[c]⟩ _ w (by unfold strings_HasPrefix.f; rw [prefix_f]; rfl)
theorem hassuffix_calls (s : ByteArray) (hs : s.size ≤ 65536) (c : UInt8) (w : World) : Calls Tryd.prog 73 #[.string s, .string ⟨#[c]⟩] w fun e w' => e = .returned (.bool (decide ((bs s).getLast? = some c))) ∧ Drawn0 w w' :=
 strings_HasSuffix.calls s ⟨#[c]⟩ _ w (by unfold strings_HasSuffix.f; rw [suffix_f s c hs]; rfl)
theorem trimsuffix_calls (s : ByteArray) (hs : s.size ≤ 65536) (w : World) : Calls Tryd.prog 71 #[.string s, .string ⟨#[10]⟩] w fun e w' => e = .returned (.string (mk (trimS (bs s)))) ∧ Drawn0 w w' :=
 strings_TrimSuffix.calls s ⟨#[10]⟩ _ w (trim_f s hs)
end Go.Proofs.YtehfogjibhnabaaDoor.PAll
namespace Go.Proofs.YtehfogjibhnabaaDoor.PAll
open Go.RowKit Go.Shelf Go.Proofs.YtehfogjibhnabaaDoorW.PrintWords Go.Proofs.YtehfogjibhnabaaDoorW.PrintLast Go.Proofs.YtehfogjibhnabaaDoorW.PrintMore
open Go.Proofs.YtehfogjibhnabaaDoor.Sp
def outOf (pre : List ByteArray) : List ByteArray := (pre.map fun x => trimS (bs x)).foldl stepN []
theorem outOf_snoc (pre : List ByteArray) (x : ByteArray) : outOf (pre ++ [x]) = stepN (outOf pre) (trimS (bs x)) := by unfold outOf; simp
theorem outOf_all (s : ByteArray) : outOf (linesB s) = namedT s := by
 unfold outOf linesB namedT
 rw [List.map_map]
 congr 2
set_option maxRecDepth 100000 in
theorem lines_in (n : Nat) (s : ByteArray) (w : World) :
  CallsIn Fence.wide n Tryd.prog 70 #[.string s] w fun e w' => e = .returned (.func (.func 95) #[] #[.pointer (some ⟨w.heap.size, 0, none⟩)]) ∧ w' = w.alloc (.cells #[.string s] 9) := by
 refine callsIn_of_wp Tryd.func70 rfl trivial ?_ rfl
 simp only [Tryd.ntmps70, List.size_toArray, List.length_cons, List.length_nil, Nat.reduceAdd, Nat.reduceSub, Array.replicate_succ, Array.replicate_zero, List.push_toArray, List.append_toArray, List.nil_append, List.cons_append]
 gi_wp2
 go_ret
 exact ⟨rfl, rfl⟩
theorem grownBy_drew' {w w' : World} {row : Option Nat} (h : w.grownBy w' row) : w.grownBy w'.drew row := ⟨h.os, h.tape, h.output, h.size, h.block⟩
theorem below_of_grown {B : Nat} {A C : World} {row : Option Nat} (hg : A.grownBy C row) (hB : B ≤ A.heap.size) (hr : ∀ k, row = some k → B ≤ k) : Below B A C :=
 ⟨hg.os, hg.tape, hg.output, hg.size, fun k hk => hg.block k (Nat.lt_of_lt_of_le hk hB) (fun e => by have := hr _ e.symm; omega)⟩
theorem i64_same {x : Int} (h0 : 0 ≤ x) (h1 : x ≤ 9223372036854775807) : IntKind.i64.wrap x = x := by
 rw [i64_w]; exact wrap_add (by omega) (by omega)
theorem trimS_length (l : Str) : (trimS l).length ≤ l.length := by
 unfold trimS
 split
 ·rw [List.length_dropLast]; omega
 ·exact Nat.le_refl _
theorem lines_facts {s : ByteArray} {pre suf : List ByteArray} {x : ByteArray} (hs : s.size ≤ 65536) (h : linesB s = pre ++ x :: suf) : x.size ≤ 65536 ∧ (outOf pre).length ≤ 65537 ∧ ∀ p ∈ outOf pre, p.size ≤ 65536 := by
 have hr := rawN_length (s.size + 1) (bs s)
 have hlen := congrArg List.length h
 have hle : ∀ y ∈ linesB s, y.size ≤ 65536 := fun y hy => by
  obtain ⟨z, hz, rfl⟩ := List.mem_map.1 hy
  have := hr.2 z hz
  rw [bs_size] at this
  rw [mk_size]; omega
 unfold linesB at hlen
 rw [List.length_map, List.length_append, List.length_cons] at hlen
 have hb := steps_bound 65536 (pre.map fun x => trimS (bs x)) [] (fun l hl => by
  obtain ⟨y, hy, rfl⟩ := List.mem_map.1 hl
  have h1 := hle y (by rw [h]; exact List.mem_append_left _ hy)
  have h2 := trimS_length (bs y)
  rw [bs_size] at h2; omega) (fun p hp => absurd hp (by simp))
 rw [List.length_map, List.length_nil] at hb
 refine ⟨hle x (by rw [h]; simp), ?_, hb.2⟩
 have := hb.1
 unfold outOf
 omega
theorem invN_R {W : World} {v : Value} {l : List ByteArray} {b : Nat} (h : W.ownsRow b 9 1 v l.length (encs Value.string l)) : Kd.R Kd.string 9 W b (fun _ => True) v l :=
 ⟨fun _ _ => trivial, encs Value.string l, h, reps_strs (M := Kd.string.M W b (fun k' => (fun _ => True) k' ∧ some k' ≠ v.ownBlock)) (fun _ => rfl) _⟩
def InvN (w : World) (pre : List ByteArray) (W : World) : Prop :=
 (∃ v, Boxed W w.heap.size 22 v ∧ W.ownsRow (w.heap.size + 2) 9 1 v (outOf pre).length (encs Value.string (outOf pre))) ∧ Below w.heap.size w W
theorem invN_grown (w : World) {pre : List ByteArray} {A B : World} {row : Option Nat} (h : InvN w pre A) (hg : A.grownBy B row) (hr : ∀ k, row = some k → w.heap.size < k ∧ ∀ cells, k < w.heap.size + 2 ∨ A.heap[k]? ≠ some (.cells cells 9 (0, 0))) : InvN w pre B := by
 obtain ⟨⟨v, hv, hrow⟩, hB⟩ := h
 refine ⟨⟨v, hv.kept hg (fun e => by have := (hr _ e.symm).1; omega), own_move hrow fun k hk => hg.block k (own_lt hrow k hk) fun e => ?_⟩, ?_⟩
 ·have h1 := own_base hrow k hk
  obtain ⟨cells, hc⟩ := own_typed hrow k hk
  rcases (hr k e.symm).2 cells with h2 | h2
  ·omega
  ·exact h2 hc
 ·exact hB.trans ⟨hg.os, hg.tape, hg.output, hg.size, fun k hk => hg.block k (Nat.lt_of_lt_of_le hk hB.size) (fun e => by have := (hr _ e.symm).1; omega)⟩
theorem invN_box (w : World) : AbidesBox (w.heap.size + 1) (InvN w) := fun s A B h hg => invN_grown w h hg fun k e => by
 cases e
 exact ⟨by omega, fun _ => .inl (by omega)⟩
theorem invN_own (w : World) {b : Nat} (hb : w.heap.size + 2 ≤ b) : OwnFrom b (InvN w) := fun s A B row h hg hr => invN_grown w h hg fun k e => by
 obtain ⟨h1, o, h2, h3⟩ := hr k e
 refine ⟨by omega, fun cells => .inr fun h4 => ?_⟩
 rw [h2] at h4
 cases h4
 cases h3
theorem keep_facts {w W : World} {v : Value} {o : List ByteArray} {pre : List ByteArray} {x : ByteArray} {t : Str} (hB : Below w.heap.size w W) (hv : Boxed W w.heap.size 22 v) (hrow : W.ownsRow (w.heap.size + 2) 9 1 v o.length (encs Value.string o)) (hos : outOf (pre ++ [x]) = stepN o t) (h : stepN o t = o) (m : Nat) :
  KeepsOthers W (W.drewN m) ∧ SameAt (w.heap.size + 1) W (W.drewN m) ∧ InvN w (pre ++ [x]) (W.drewN m) := by
 have hg : W.grownBy (W.drewN m) none := ⟨rfl, rfl, rfl, Nat.le_refl _, fun _ _ _ => rfl⟩
 refine ⟨KeepsOthers.of_grownBy hg (by simp), sameAt_of rfl, ⟨v, hv.kept hg (by simp), ?_⟩, hB.trans (below_of_grown hg hB.size (by simp))⟩
 rw [hos, h]
 exact own_move hrow fun k hk => rfl
theorem nota_facts {s : ByteArray} (_hsz : s.size ≤ 65536) {w W : World} {v : Value} {o : List ByteArray} {pre : List ByteArray} {x : ByteArray} {t : Str} (hol : o.length ≤ 65537) (hos : ∀ p ∈ o, p.size ≤ 65536) (hrow : W.ownsRow (w.heap.size + 2) 9 1 v o.length (encs Value.string o)) (hB : Below w.heap.size w W) (hv : Boxed W w.heap.size 22 v) (_hc : W.cell? ⟨w.heap.size, 0, none⟩ = some v) (hO : outOf (pre ++ [x]) = stepN o t)
    (hn : ¬ (2 < t.length ∧ t.head? = some 47 ∧ t.getLast? = some 47)) :
    (Aside0 (stepN o t = o) ∧ ∃ A cp, v = .slice A 0 cp) ∨
    ∃ (z : ByteArray) (n : Nat) (ad : Addr) (cp : Nat), v = .slice (some ad) (n + 1) cp ∧ W.cell? (ad.add n) = some (.string z) ∧ z.size ≤ 65536 ∧ n ≤ 65536 ∧ n + 1 ≤ cp ∧
      ((Aside0 (stepN o t = o) ∧ ((mk t).toList == ((⟨#[33, 47]⟩ : ByteArray) ++ z ++ ⟨#[47, 42, 47]⟩).toList) = false) ∨
       (Aside0 (stepN o t = o.take n) ∧ ((mk t).toList == ((⟨#[33, 47]⟩ : ByteArray) ++ z ++ ⟨#[47, 42, 47]⟩).toList) = true ∧
        ∀ m, KeepsOthers W ((W.drewN m).setCell ⟨w.heap.size, 0, none⟩ (.slice (some ad) n cp)) ∧ SameAt (w.heap.size + 1) W ((W.drewN m).setCell ⟨w.heap.size, 0, none⟩ (.slice (some ad) n cp)) ∧ InvN w (pre ++ [x]) ((W.drewN m).setCell ⟨w.heap.size, 0, none⟩ (.slice (some ad) n cp)))) := by
  have hst : stepN o t = if o ≠ [] ∧ t = [33, 47] ++ bs (o.getD (o.length - 1) ByteArray.empty) ++ [47, 42, 47] then o.take (o.length - 1) else o := by unfold stepN; rw [if_neg hn]
  obtain ⟨A, cp, rfl⟩ := own_slice hrow
  rcases Nat.eq_zero_or_pos o.length with h0 | h0
  · refine .inl ⟨⟨?_⟩, A, cp, by rw [h0]⟩
    rw [hst, if_neg (fun h => h.1 (List.eq_nil_of_length_eq_zero h0))]
  · obtain ⟨n, hn1⟩ : ∃ n, o.length = n + 1 := ⟨o.length - 1, by omega⟩
    have hR := Kd.R_reads' (invN_R hrow)
    obtain ⟨ad, rfl, hcell⟩ := Kd.at_string hR.2.2 (n : Int) (by omega) (by omega)
    rw [Int.toNat_natCast, rdOf_getD] at hcell
    have hmem : o.getD n ByteArray.empty ∈ o := getD_mem (by omega)
    refine .inr ⟨o.getD n ByteArray.empty, n, ad, cp, by rw [hn1], hcell, hos _ hmem, by omega, by have := hR.2.1; omega, ?_⟩
    have hne : o ≠ [] := fun e => by rw [e] at h0; simp at h0
    have e1 : ((⟨#[33, 47]⟩ : ByteArray) ++ o.getD n ByteArray.empty ++ ⟨#[47, 42, 47]⟩).toList = [33, 47] ++ bs (o.getD n ByteArray.empty) ++ [47, 42, 47] := by rw [toList_bs]; simp [bs]
    have e2 : (mk t).toList = t := by rw [toList_bs, bs_mk]
    rw [hn1, Nat.add_sub_cancel] at hst
    rw [e1, e2]
    by_cases ht : t = [33, 47] ++ bs (o.getD n ByteArray.empty) ++ [47, 42, 47]
    · rw [if_pos ⟨hne, ht⟩] at hst
      refine .inr ⟨⟨hst⟩, beq_iff_eq.2 ht, fun m => ?_⟩
      have hg : W.grownBy (W.drewN m) none := ⟨rfl, rfl, rfl, Nat.le_refl _, fun _ _ _ => rfl⟩
      have hv2 := (hv.kept hg (by simp)).set (.slice (some ad) n cp)
      refine ⟨(KeepsOthers.of_grownBy hg (by simp)).trans (KeepsOthers.setCell _ _ _), sameAt_of (Below.heap_setCell _ _ _ _ (by simp)), ⟨_, hv2, ?_⟩, ?_⟩
      · have hl : (outOf (pre ++ [x])).length = n := by rw [hO, hst, List.length_take]; omega
        have he : encs Value.string (outOf (pre ++ [x])) = (encs Value.string o).take (n * 1) := by rw [hO, hst]; simp [encs]
        rw [hl, he]
        have h1 := own_take hrow (m := n) (by omega)
        exact own_move h1 fun k hk => Below.heap_setCell _ _ _ _ (by have := own_base h1 k hk; simp; omega)
      · exact ((hB.trans (below_of_grown hg hB.size (by simp))).setCell (p := ⟨w.heap.size, 0, none⟩) (Nat.le_refl _) _)
    · rw [if_neg (fun h => ht h.2)] at hst
      exact .inl ⟨⟨hst⟩, beq_eq_false_iff_ne.2 ht⟩
attribute [local go_sem] Oper.semAt_some
set_option maxRecDepth 100000 in
set_option maxHeartbeats 2000000 in
theorem profile_named.calls (k : Nat) (a0 : ByteArray) (r : List ByteArray) (w : World) (h : profile_named.f k a0 = some r) :
  Calls Tryd.prog 39 #[.string a0] w fun e w' => ∃ v0_ : Value, e = .returned (v0_) ∧ Kd.R Kd.string 9 w' w.heap.size (fun _ => True) v0_ r ∧ Below w.heap.size w w' := by
 unfold profile_named.f at h
 split at h
 ·rename_i hsz
  obtain rfl := Option.some.inj h
  clear h
  obtain ⟨i0, hi, hz0, hz1, hz2⟩ := info_parts info_str
  refine (callsIn_wide (n := 4)).1 ?_
  refine callsIn_of_wp_marks Tryd.func39 rfl trivial ?_ rfl
  simp only [Tryd.ntmps39, List.size_toArray, List.length_cons, List.length_nil, Nat.reduceAdd, Nat.reduceSub, Array.replicate_succ, Array.replicate_zero, List.push_toArray, List.append_toArray, List.nil_append, List.cons_append]
  gi_wp2_with (refine ⟨trivial, ?_⟩; gi_at_call 70; refine (lines_in _ _ _).mono ?_; rintro e w' ⟨rfl, rfl⟩)
  have bO := Boxed.new w 22 (.slice none 0 0)
  have bN := Boxed.new (w.alloc (.cells #[.slice none 0 0] 22)) 9 (.string a0)
  rw [World.size_alloc] at bN
  have hB0 : Below w.heap.size w ((w.alloc (.cells #[.slice none 0 0] 22)).alloc (.cells #[.string a0] 9)) := ((Below.refl _ w).alloc (Nat.le_refl _) _).alloc (by simp) _
  have hS0 : ((w.alloc (.cells #[.slice none 0 0] 22)).alloc (.cells #[.string a0] 9)).heap.size = w.heap.size + 2 := by simp
  refine range_boxed (by omega) (gf := 95) (lb := #[.pointer (some ⟨w.heap.size + 1, 0, none⟩)]) rfl trivial (enters_of Tryd.func95 (by kernel_rfl) rfl)
   (lines1_in _ (by omega) (w.heap.size + 1) a0 hsz _ bN) (by rw [hS0]; omega) (fun _ => rfl) (InvN w) (invN_box w) (invN_own w (by rw [hS0]; omega)) ⟨⟨_, bO.alloc _, World.ownsRow_nil _ _ _ _⟩, hB0⟩
   (fun x => { tmps := #[.string a0, undef, .slice none 0 0, .pointer (some ⟨w.heap.size, 0, none⟩), .string x, .string a0, .func (.func 95) #[] #[.pointer (some ⟨w.heap.size + 1, 0, none⟩)], .string x, undef, undef, undef, undef, undef, undef, undef, undef, undef, undef, undef, undef, undef, undef, undef, undef, undef, undef, undef, undef, undef, undef, undef, undef, undef, undef, undef, undef, undef, undef, undef, undef, undef, undef, undef, undef, undef, undef, undef, undef, undef, undef, undef, undef], defers := [] }) ?assign ?body ?done
  case assign =>
   intro l x W K hK
   gi_wp2
   exact hK
  case body =>
   intro l pre x suf W hL hI hbW
   obtain ⟨hx, hol, hos⟩ := lines_facts hsz hL
   obtain ⟨⟨v, hv, hrow⟩, hB⟩ := hI
   have hc := hv.cell
   have hf := hv.frozen
   have htr := fun W => trimsuffix_calls x hx W
   have ht : (trimS (bs x)).length ≤ 65536 := by have := trimS_length (bs x); rw [bs_size] at this; omega
   have OS : Aside0 (outOf (pre ++ [x]) = stepN (outOf pre) (trimS (bs x))) := ⟨outOf_snoc pre x⟩
   generalize outOf pre = o at hol hos hrow OS
   generalize trimS (bs x) = t at htr ht OS
   have hT : (mk t).size = t.length := mk_size t
   have hpp := fun W => hasprefix_calls (mk t) 47 W
   have hss := fun W => hassuffix_calls (mk t) (by omega) 47 W
   rw [bs_mk] at hpp hss
   have HOS := Aside0.mk hos
   have HB := Aside0.mk hB
   have HROW := Aside0.mk hrow
   have HV := Aside0.mk hv
   have HL := Aside0.mk hL
   clear hos hB hrow hv hL
   by_cases c1 : 2 < t.length
   ·have c1b : decide ((2 : Int) < ((mk t).size : Int)) = true := decide_eq_true (by omega)
    by_cases c2 : t.head? = some 47
    ·by_cases c3 : t.getLast? = some 47
     ·have ST : Aside0 (stepN o t = o ++ [mk ((t.take (t.length - 1)).drop 1)]) := ⟨by unfold stepN; rw [if_pos ⟨c1, c2, c3⟩]⟩
      have d2 : decide (t.head? = some 47) = true := decide_eq_true c2
      have d3 : decide (t.getLast? = some 47) = true := decide_eq_true c3
      rw [d2] at hpp
      rw [d3] at hss
      clear c2 c3 d2 d3
      gi_wp2_with (first | (refine ⟨trivial, ?_⟩; gi_at_call 71; refine (callsIn_wide.2 (htr _)).mono ?_; rintro e w1 ⟨rfl, ⟨m1, rfl⟩⟩) | (refine ⟨trivial, ?_⟩; gi_at_call 72; refine (callsIn_wide.2 (hpp _)).mono ?_; rintro e w2 ⟨rfl, ⟨m2, rfl⟩⟩) | (refine ⟨trivial, ?_⟩; gi_at_call 73; refine (callsIn_wide.2 (hss _)).mono ?_; rintro e w3 ⟨rfl, ⟨m3, rfl⟩⟩) | (refine ⟨trivial, ?_⟩))
      obtain ⟨W2, hW2⟩ : ∃ W2, W.drewN (m1 + m2 + m3) = W2 := ⟨_, rfl⟩
      have hh : W2.heap = W.heap := by rw [← hW2]; rfl
      rw [hW2]
      have hk2 : W.grownBy W2 none := by rw [← hW2]; exact ⟨rfl, rfl, rfl, Nat.le_refl _, fun _ _ _ => rfl⟩
      clear hW2
      have hv2 : Boxed W2 w.heap.size 22 v := by unfold Boxed; rw [hh]; exact HV.out
      have hrow2 : W2.ownsRow (w.heap.size + 2) 9 1 v o.length (encs Value.string o) := own_move HROW.out fun k _ => by rw [hh]
      have hc2 := hv2.cell
      have hf2 := hv2.frozen
      obtain ⟨m, hm⟩ : ∃ m, t.length = m + 1 := ⟨t.length - 1, by omega⟩
      have hm0 := hm
      have hT2 : (mk t).size = m + 1 := by omega
      have hm1 : (1 : Int) ≤ (m : Int) := by omega
      have hm2 : (m : Int) ≤ ((m : Int) + 1) := by omega
      have hw : IntKind.i64.wrap (m : Int) = (m : Int) := i64_same (by omega) (by omega)
      clear hT ht hm c1 c1b hc hf
      obtain ⟨pc, hpc⟩ : ∃ pc, pc = (mk t).extract 1 m := ⟨_, rfl⟩
      obtain ⟨W3, hW3⟩ : ∃ W3, W3 = (W2.alloc (.cells #[.string pc] 9)).drew := ⟨_, rfl⟩
      have g3 : W2.grownBy W3 none := by rw [hW3]; exact grownBy_drew' (World.grownBy_alloc W2 _ none)
      obtain ⟨v', w5, hrun, hown', hgrow, -, -⟩ := run_append_own_at (P := Tryd.prog) (w := W3) (w.heap.size + 2) 22 22 9 i0 (.string ByteArray.empty) 1 16 Tryd.underlying22 hi hz0 hz1 hz2 rfl (by decide) v o.length (encs Value.string o)
       (own_move hrow2 fun k hk => g3.block k (own_lt hrow2 k hk) (by simp)) ⟨W2.heap.size, 0, none⟩ 1 1 [.string pc] rfl (by rw [hW3]; exact cell_one_new W2 _ _) (by simp [Value.oneCell']) (by have : maxLen = 9223372036854775807 := rfl; omega) (by omega) (by have := HB.out.size; have := hk2.size; have := g3.size; omega)
      obtain ⟨g', cap', rfl⟩ := ownsRow_succ hown'
      have hv5 : Boxed w5 w.heap.size 22 v := (hv2.kept g3 (by simp)).kept hgrow (hv2.not_row (by decide) hrow2)
      have hc5 := hv5.cell
      have hf5 := hv5.frozen
      have hcA := (hv2.alloc (.cells #[.string ((mk t).extract 1 m)] 9)).cell
      have rowW3 : W3.ownsRow (w.heap.size + 2) 9 1 v o.length (encs Value.string o) := own_move hrow2 fun k hk => g3.block k (own_lt hrow2 k hk) (by simp)
      have hbase : ∀ k, v.ownBlock = some k → w.heap.size + 2 ≤ k := fun k hk => own_base rowW3 k hk
      have s1 := hk2.size
      have s2 := g3.size
      have s3 := HB.out.size
      have FIN : Aside0 (KeepsOthers W (w5.setCell ⟨w.heap.size, 0, none⟩ (.slice (some ⟨g', 0, none⟩) (o.length + 1) cap')) ∧ SameAt (w.heap.size + 1) W (w5.setCell ⟨w.heap.size, 0, none⟩ (.slice (some ⟨g', 0, none⟩) (o.length + 1) cap')) ∧ InvN w (pre ++ [x]) (w5.setCell ⟨w.heap.size, 0, none⟩ (.slice (some ⟨g', 0, none⟩) (o.length + 1) cap'))) := by
       refine ⟨((((KeepsOthers.of_grownBy hk2 (by simp)).trans (KeepsOthers.of_grownBy g3 (by simp))).trans (KeepsOthers.of_grownBy hgrow fun j o' hj ho' => ?_)).trans (KeepsOthers.setCell _ _ _)), sameAt_of ?_, ⟨_, hv5.set _, ?_⟩, ?_⟩
       ·obtain ⟨cells, hcl⟩ := own_typed rowW3 j hj
        rw [hcl] at ho'; cases ho'; rfl
       ·rw [Below.heap_setCell _ _ _ _ (by simp), hgrow.block _ (by omega) (fun e => by have := hbase _ e.symm; omega), g3.block _ (by omega) (by simp), hk2.block _ (by omega) (by simp)]
       ·have e1 : outOf (pre ++ [x]) = o ++ [pc] := by rw [OS.out, ST.out, hpc, extract_mk, bs_mk, hm0]; simp
        have e2 : (outOf (pre ++ [x])).length = o.length + 1 := by rw [e1]; simp
        have e3 : encs Value.string (outOf (pre ++ [x])) = encs Value.string o ++ [.string pc] := by rw [e1]; simp [encs]
        rw [e2, e3]
        exact own_move hown' fun k hk => Below.heap_setCell _ _ _ _ (by have := own_base hown' k hk; simp; omega)
       ·exact (((HB.out.trans (below_of_grown hk2 (by omega) (by simp))).trans (below_of_grown g3 (by omega) (by simp))).trans (below_of_grown hgrow (by omega) (fun k hk => by have := hbase k hk; omega))).setCell (p := ⟨w.heap.size, 0, none⟩) (Nat.le_refl _) _
      rw [hW3, hpc] at hrun
      clear hh hown' hk2 g3 hgrow hrow2 hv2 hv5 hpc rowW3 hbase hm0 s1 s2 s3
      simp [go_sem] at hrun
      gi_region_with (first | (rw [hrun]; simp only [Result.andThen, Oper.uponIn_value]) | fail)
      all_goals gi_wp2
      all_goals (first | exact FIN.out | exact ⟨rfl, FIN.out⟩)
     ·have d2 : decide (t.head? = some 47) = true := decide_eq_true c2
      have d3 : decide (t.getLast? = some 47) = false := decide_eq_false c3
      rw [d2] at hpp
      rw [d3] at hss
      have NT := nota_facts hsz hol HOS.out HROW.out HB.out HV.out hc OS.out (fun h => c3 h.2.2)
      have F0 := fun h => keep_facts HB.out HV.out HROW.out OS.out (x := x) (pre := pre) (t := t) h
      clear c2 c3 d2 d3
      rcases NT with ⟨ST, ⟨A, cp, rfl⟩⟩ | ⟨z, n, ad, cp, rfl, hcz, hz, hnb, hncp, ⟨ST, hEq⟩ | ⟨ST, hEq, hFc⟩⟩
      ·gi_wp2_with (first | (refine ⟨trivial, ?_⟩; gi_at_call 71; refine (callsIn_wide.2 (htr _)).mono ?_; rintro e w1 ⟨rfl, ⟨m1, rfl⟩⟩) | (refine ⟨trivial, ?_⟩; gi_at_call 72; refine (callsIn_wide.2 (hpp _)).mono ?_; rintro e w2 ⟨rfl, ⟨m2, rfl⟩⟩) | (refine ⟨trivial, ?_⟩; gi_at_call 73; refine (callsIn_wide.2 (hss _)).mono ?_; rintro e w3 ⟨rfl, ⟨m3, rfl⟩⟩) | (refine ⟨trivial, ?_⟩))
       first | exact F0 ST.out _ | exact ⟨(F0 ST.out _).1, (F0 ST.out _).2.2⟩
      ·have z1 : ((⟨#[33, 47]⟩ : ByteArray) ++ z).size = 2 + z.size := ByteArray.size_append
       have hn0 : (0 : Int) ≤ (n : Int) := by omega
       gi_wp2_with (first | (refine ⟨trivial, ?_⟩; gi_at_call 71; refine (callsIn_wide.2 (htr _)).mono ?_; rintro e w1 ⟨rfl, ⟨m1, rfl⟩⟩) | (refine ⟨trivial, ?_⟩; gi_at_call 72; refine (callsIn_wide.2 (hpp _)).mono ?_; rintro e w2 ⟨rfl, ⟨m2, rfl⟩⟩) | (refine ⟨trivial, ?_⟩; gi_at_call 73; refine (callsIn_wide.2 (hss _)).mono ?_; rintro e w3 ⟨rfl, ⟨m3, rfl⟩⟩) | (refine ⟨trivial, ?_⟩))
       first | exact F0 ST.out _ | exact ⟨(F0 ST.out _).1, (F0 ST.out _).2.2⟩
      ·have z1 : ((⟨#[33, 47]⟩ : ByteArray) ++ z).size = 2 + z.size := ByteArray.size_append
       have hn0 : (0 : Int) ≤ (n : Int) := by omega
       have hwn : IntKind.i64.wrap (n : Int) = (n : Int) := i64_same (by omega) (by omega)
       gi_wp2_with (first | (refine ⟨trivial, ?_⟩; gi_at_call 71; refine (callsIn_wide.2 (htr _)).mono ?_; rintro e w1 ⟨rfl, ⟨m1, rfl⟩⟩) | (refine ⟨trivial, ?_⟩; gi_at_call 72; refine (callsIn_wide.2 (hpp _)).mono ?_; rintro e w2 ⟨rfl, ⟨m2, rfl⟩⟩) | (refine ⟨trivial, ?_⟩; gi_at_call 73; refine (callsIn_wide.2 (hss _)).mono ?_; rintro e w3 ⟨rfl, ⟨m3, rfl⟩⟩) | (refine ⟨trivial, ?_⟩))
       all_goals (exact hFc _)
    ·have d2 : decide (t.head? = some 47) = false := decide_eq_false c2
     rw [d2] at hpp
     have NT := nota_facts hsz hol HOS.out HROW.out HB.out HV.out hc OS.out (fun h => c2 h.2.1)
     have F0 := fun h => keep_facts HB.out HV.out HROW.out OS.out (x := x) (pre := pre) (t := t) h
     clear c2 d2
     rcases NT with ⟨ST, ⟨A, cp, rfl⟩⟩ | ⟨z, n, ad, cp, rfl, hcz, hz, hnb, hncp, ⟨ST, hEq⟩ | ⟨ST, hEq, hFc⟩⟩
     ·gi_wp2_with (first | (refine ⟨trivial, ?_⟩; gi_at_call 71; refine (callsIn_wide.2 (htr _)).mono ?_; rintro e w1 ⟨rfl, ⟨m1, rfl⟩⟩) | (refine ⟨trivial, ?_⟩; gi_at_call 72; refine (callsIn_wide.2 (hpp _)).mono ?_; rintro e w2 ⟨rfl, ⟨m2, rfl⟩⟩) | (refine ⟨trivial, ?_⟩; gi_at_call 73; refine (callsIn_wide.2 (hss _)).mono ?_; rintro e w3 ⟨rfl, ⟨m3, rfl⟩⟩) | (refine ⟨trivial, ?_⟩))
      first | exact F0 ST.out _ | exact ⟨(F0 ST.out _).1, (F0 ST.out _).2.2⟩
     ·have z1 : ((⟨#[33, 47]⟩ : ByteArray) ++ z).size = 2 + z.size := ByteArray.size_append
      have hn0 : (0 : Int) ≤ (n : Int) := by omega
      gi_wp2_with (first | (refine ⟨trivial, ?_⟩; gi_at_call 71; refine (callsIn_wide.2 (htr _)).mono ?_; rintro e w1 ⟨rfl, ⟨m1, rfl⟩⟩) | (refine ⟨trivial, ?_⟩; gi_at_call 72; refine (callsIn_wide.2 (hpp _)).mono ?_; rintro e w2 ⟨rfl, ⟨m2, rfl⟩⟩) | (refine ⟨trivial, ?_⟩; gi_at_call 73; refine (callsIn_wide.2 (hss _)).mono ?_; rintro e w3 ⟨rfl, ⟨m3, rfl⟩⟩) | (refine ⟨trivial, ?_⟩))
      first | exact F0 ST.out _ | exact ⟨(F0 ST.out _).1, (F0 ST.out _).2.2⟩
     ·have z1 : ((⟨#[33, 47]⟩ : ByteArray) ++ z).size = 2 + z.size := ByteArray.size_append
      have hn0 : (0 : Int) ≤ (n : Int) := by omega
      have hwn : IntKind.i64.wrap (n : Int) = (n : Int) := i64_same (by omega) (by omega)
      gi_wp2_with (first | (refine ⟨trivial, ?_⟩; gi_at_call 71; refine (callsIn_wide.2 (htr _)).mono ?_; rintro e w1 ⟨rfl, ⟨m1, rfl⟩⟩) | (refine ⟨trivial, ?_⟩; gi_at_call 72; refine (callsIn_wide.2 (hpp _)).mono ?_; rintro e w2 ⟨rfl, ⟨m2, rfl⟩⟩) | (refine ⟨trivial, ?_⟩; gi_at_call 73; refine (callsIn_wide.2 (hss _)).mono ?_; rintro e w3 ⟨rfl, ⟨m3, rfl⟩⟩) | (refine ⟨trivial, ?_⟩))
      all_goals (exact hFc _)
   ·have c1b : decide ((2 : Int) < ((mk t).size : Int)) = false := decide_eq_false (by omega)
    have NT := nota_facts hsz hol HOS.out HROW.out HB.out HV.out hc OS.out (fun h => c1 h.1)
    have F0 := fun h => keep_facts HB.out HV.out HROW.out OS.out (x := x) (pre := pre) (t := t) h
    rcases NT with ⟨ST, ⟨A, cp, rfl⟩⟩ | ⟨z, n, ad, cp, rfl, hcz, hz, hnb, hncp, ⟨ST, hEq⟩ | ⟨ST, hEq, hFc⟩⟩
    ·gi_wp2_with (first | (refine ⟨trivial, ?_⟩; gi_at_call 71; refine (callsIn_wide.2 (htr _)).mono ?_; rintro e w1 ⟨rfl, ⟨m1, rfl⟩⟩) | (refine ⟨trivial, ?_⟩; gi_at_call 72; refine (callsIn_wide.2 (hpp _)).mono ?_; rintro e w2 ⟨rfl, ⟨m2, rfl⟩⟩) | (refine ⟨trivial, ?_⟩; gi_at_call 73; refine (callsIn_wide.2 (hss _)).mono ?_; rintro e w3 ⟨rfl, ⟨m3, rfl⟩⟩) | (refine ⟨trivial, ?_⟩))
     first | exact F0 ST.out _ | exact ⟨(F0 ST.out _).1, (F0 ST.out _).2.2⟩
    ·have z1 : ((⟨#[33, 47]⟩ : ByteArray) ++ z).size = 2 + z.size := ByteArray.size_append
     have hn0 : (0 : Int) ≤ (n : Int) := by omega
     gi_wp2_with (first | (refine ⟨trivial, ?_⟩; gi_at_call 71; refine (callsIn_wide.2 (htr _)).mono ?_; rintro e w1 ⟨rfl, ⟨m1, rfl⟩⟩) | (refine ⟨trivial, ?_⟩; gi_at_call 72; refine (callsIn_wide.2 (hpp _)).mono ?_; rintro e w2 ⟨rfl, ⟨m2, rfl⟩⟩) | (refine ⟨trivial, ?_⟩; gi_at_call 73; refine (callsIn_wide.2 (hss _)).mono ?_; rintro e w3 ⟨rfl, ⟨m3, rfl⟩⟩) | (refine ⟨trivial, ?_⟩))
     first | exact F0 ST.out _ | exact ⟨(F0 ST.out _).1, (F0 ST.out _).2.2⟩
    ·have z1 : ((⟨#[33, 47]⟩ : ByteArray) ++ z).size = 2 + z.size := ByteArray.size_append
     have hn0 : (0 : Int) ≤ (n : Int) := by omega
     have hwn : IntKind.i64.wrap (n : Int) = (n : Int) := i64_same (by omega) (by omega)
     gi_wp2_with (first | (refine ⟨trivial, ?_⟩; gi_at_call 71; refine (callsIn_wide.2 (htr _)).mono ?_; rintro e w1 ⟨rfl, ⟨m1, rfl⟩⟩) | (refine ⟨trivial, ?_⟩; gi_at_call 72; refine (callsIn_wide.2 (hpp _)).mono ?_; rintro e w2 ⟨rfl, ⟨m2, rfl⟩⟩) | (refine ⟨trivial, ?_⟩; gi_at_call 73; refine (callsIn_wide.2 (hss _)).mono ?_; rintro e w3 ⟨rfl, ⟨m3, rfl⟩⟩) | (refine ⟨trivial, ?_⟩))
     all_goals (exact hFc _)
  case done =>
   intro D W hD hI hK
   obtain ⟨⟨v, hv, hrow⟩, hB⟩ := hI
   have hD0 : w.heap.size ≤ D := by rw [hS0] at hD; omega
   have hc := hv.cell
   rw [outOf_all] at hrow
   have hR : Kd.R Kd.string 9 W w.heap.size (fun _ => True) v (namedT a0) := Kd.R_lower (invN_R hrow) (by omega)
   obtain ⟨A, c, rfl⟩ := Kd.R_slice hR
   have HR := Aside0.mk hR
   have HB := Aside0.mk hB
   have HKD := Aside0.mk hK
   clear hR hB hrow
   gi_wp2
   refine ⟨by simp, .inl ⟨_, _, rfl, run_takeDeferred HKD.out, ?_⟩⟩
   refine ⟨_, results_tmp rfl _ _ _, _, rfl, ?_, ?_⟩
   ·exact Kd.R_mono (Kd.R_grown (Kd.R_bound HR.out) (grownBy_putObj' W D _) (fun q hq e => by
     cases e
     obtain ⟨_, _, _, _, _, cells, hcl⟩ := hq
     rw [HKD.out] at hcl
     cases hcl)) (fun _ _ => trivial)
   ·exact HB.out.trans (belowK_b (w := w) (Nat.le_refl _) W D _ _ hD0 HKD.out rfl rfl)
 ·exact absurd h (by simp)
end Go.Proofs.YtehfogjibhnabaaDoor.PAll
namespace Go.Proofs.YtehfogjibhnabaaDoor.PAll
open Go.RowKit Go.Proofs.YtehfogjibhnabaaDoorW.PrintWords Go.Proofs.YtehfogjibhnabaaDoorW.PrintLast Go.Proofs.YtehfogjibhnabaaDoorW.PrintMore
open Go.Proofs.YtehfogjibhnabaaDoor.Sp
theorem joinS_append : ∀ (l m : List Str), l ≠ [] → m ≠ [] → joinS (l ++ m) = joinS l ++ 47 :: joinS m
 | [], _, h, _ => absurd rfl h
 | [a], m, _, hm => by rw [List.singleton_append, joinS_cons a hm]; rfl
 | a :: b :: r, m, _, hm => by
  have ih := joinS_append (b :: r) m (by simp) hm
  rw [List.cons_append, joinS_cons a (by simp), ih, joinS_cons a (by simp)]
  simp
theorem above_text {a b : ByteArray} (h : bs a ≠ []) : aboveB a b = true ↔ ∃ y, bs b = bs a ++ 47 :: y := by
 rw [above_iff, pB_map_prefix, pB_len, pB_len]
 constructor
 ·rintro ⟨⟨r, hr⟩, hl⟩
  have hb : bs b ≠ [] := fun e => by rw [e] at hl; simp [pcs] at hl
  rw [← hr] at hl
  have hrn : r ≠ [] := fun e => by subst e; simp at hl
  refine ⟨joinS r, ?_⟩
  rw [← join_pcs (bs b), ← hr, joinS_append _ _ (by rw [pcs_of h]; exact spl_ne _) hrn, join_pcs]
 ·rintro ⟨y, e⟩
  have hb : bs b ≠ [] := by rw [e]; simp
  rw [pcs_of h, pcs_of hb, e, spl_append]
  refine ⟨⟨_, rfl⟩, ?_⟩
  rw [List.length_append]
  have := List.length_pos_iff.2 (spl_ne y)
  omega
end Go.Proofs.YtehfogjibhnabaaDoor.PAll
namespace Go.Proofs.YtehfogjibhnabaaDoor.PAll
open Go.RowKit Go.Proofs.YtehfogjibhnabaaDoorW.PrintWords Go.Proofs.YtehfogjibhnabaaDoorW.PrintLast Go.Proofs.YtehfogjibhnabaaDoorW.PrintMore
open Go.Proofs.YtehfogjibhnabaaDoor.Sp
theorem lastIx_free : ∀ (b : Str), (47 : UInt8) ∉ b → ∀ i acc : Int, lastIx b i acc = acc
 | [], _, _, _ => rfl
 | c :: b, h, i, acc => by
  have hc : c ≠ 47 := fun e => h (by rw [e]; exact List.mem_cons_self)
  rw [lastIx, if_neg hc]
  exact lastIx_free b (fun hm => h (List.mem_cons_of_mem _ hm)) _ _
theorem lastIx_both : ∀ (a m : Str) (i acc : Int), lastIx (a ++ m) i acc = lastIx m (i + a.length) (lastIx a i acc)
 | [], m, i, acc => by simp [lastIx]
 | c :: a, m, i, acc => by
  rw [List.cons_append, lastIx, lastIx_both a m, lastIx, List.length_cons, show i + 1 + (a.length : Int) = i + ((a.length + 1 : Nat) : Int) by omega]
theorem lastIx_flat (b : Str) (h : (47 : UInt8) ∉ b) (a : Str) (i acc : Int) : lastIx (a ++ 47 :: b) i acc = i + a.length := by
 rw [lastIx_both, lastIx, if_pos rfl, lastIx_free b h]
theorem dir_split {a b : Str} (h : (47 : UInt8) ∉ b) : dirB (mk (a ++ 47 :: b)) = mk a := by
 have hl : lastS (bs (mk (a ++ 47 :: b))) = a.length := by unfold lastS; rw [bs_mk, lastIx_flat b h]; omega
 unfold dirB
 rw [hl, if_neg (by omega), extract_mk, bs_mk, Int.toNat_natCast, List.drop_zero]
 congr 1
 simp
theorem last_slash (y : Str) : (47 : UInt8) ∉ y ∨ ∃ y1 y2, y = y1 ++ 47 :: y2 ∧ (47 : UInt8) ∉ y2 := by
 induction y with
 | nil => exact .inl (by simp)
 | cons c y ih =>
  rcases ih with h | ⟨y1, y2, rfl, h2⟩
  ·by_cases hc : c = 47
   ·subst hc; exact .inr ⟨[], y, rfl, h⟩
   ·exact .inl (by simp [h, Ne.symm hc])
  ·exact .inr ⟨c :: y1, y2, rfl, h2⟩
theorem above_dirB {d : ByteArray} (h : bs (dirB d) ≠ []) : aboveB (dirB d) d = true := by
 obtain ⟨y, e⟩ := pB_dir d h
 exact (above_iff _ _).2 ⟨⟨[y], e.symm⟩, by rw [e, List.length_append]; simp⟩
theorem ups_above (n : Nat) : ∀ c : ByteArray, c.size ≤ n → ∀ x ∈ ups c, x = c ∨ aboveB x c = true := by
 induction n with
 | zero =>
  intro c h x hx
  have : bs c = [] := List.eq_nil_of_length_eq_zero (by rw [bs_size]; omega)
  rw [ups_nil this] at hx; simp at hx
 | succ n ih =>
  intro c h x hx
  by_cases h0 : bs c = []
  ·rw [ups_nil h0] at hx; simp at hx
  ·have h1 := dirB_less h0
   rw [ups_cons h0] at hx
   rcases List.mem_cons.1 hx with rfl | hx
   ·exact .inl rfl
   ·by_cases h2 : bs (dirB c) = []
    ·rw [ups_nil h2] at hx; simp at hx
    ·have ha := above_dirB h2
     rcases ih (dirB c) (by omega) x hx with rfl | hx
     ·exact .inr ha
     ·exact .inr (above_trans hx ha)
theorem above_ups (n : Nat) : ∀ (u c : ByteArray), c.size ≤ n → bs u ≠ [] → aboveB u c = true → u ∈ ups c := by
 induction n with
 | zero =>
  intro u c h hu ha
  obtain ⟨y, e⟩ := (above_text hu).1 ha
  have := congrArg List.length e
  rw [bs_size] at this
  simp at this
  omega
 | succ n ih =>
  intro u c h hu ha
  obtain ⟨y, e⟩ := (above_text hu).1 ha
  have h0 : bs c ≠ [] := by rw [e]; simp
  have h1 := dirB_less h0
  rw [ups_cons h0]
  refine List.mem_cons_of_mem _ ?_
  have ec : c = mk (bs u ++ 47 :: y) := by rw [← e, mk_bs]
  rcases last_slash y with hy | ⟨y1, y2, rfl, hy⟩
  ·rw [ec, dir_split hy, mk_bs]; exact self_ups hu
  ·have ed : dirB c = mk (bs u ++ 47 :: y1) := by
    rw [ec, show bs u ++ 47 :: (y1 ++ 47 :: y2) = (bs u ++ 47 :: y1) ++ 47 :: y2 by simp, dir_split hy]
   refine ih u (dirB c) (by omega) hu ((above_text hu).2 ⟨y1, by rw [ed, bs_mk]⟩)
theorem mem_ups {u c : ByteArray} : u ∈ ups c ↔ bs u ≠ [] ∧ (u = c ∨ aboveB u c = true) := by
 constructor
 ·exact fun h => ⟨(ups_size c.size c (Nat.le_refl _) u h).2, ups_above c.size c (Nat.le_refl _) u h⟩
 ·rintro ⟨h0, rfl | h⟩
  ·exact self_ups h0
  ·exact above_ups c.size u c (Nat.le_refl _) h0 h
theorem ups_falls (n : Nat) : ∀ c : ByteArray, c.size ≤ n → (ups c).Pairwise (fun a b => cB b a < 0) := by
 induction n with
 | zero =>
  intro c h
  have : bs c = [] := List.eq_nil_of_length_eq_zero (by rw [bs_size]; omega)
  rw [ups_nil this]; exact List.Pairwise.nil
 | succ n ih =>
  intro c h
  by_cases h0 : bs c = []
  ·rw [ups_nil h0]; exact List.Pairwise.nil
  ·have h1 := dirB_less h0
   rw [ups_cons h0]
   refine List.pairwise_cons.2 ⟨fun x hx => ?_, ih (dirB c) (by omega)⟩
   have hx2 := mem_ups.1 (show x ∈ ups c by rw [ups_cons h0]; exact List.mem_cons_of_mem _ hx)
   rcases hx2.2 with e | e
   ·exfalso
    have h3 := (ups_size (dirB c).size (dirB c) (Nat.le_refl _) x hx).1
    rw [e] at h3
    omega
   ·exact above_lt e
theorem ups_rise (c : ByteArray) : Rises (ups c).reverse := List.pairwise_reverse.2 (ups_falls c.size c (Nat.le_refl _))
def stepD (out : List ByteArray) (u : ByteArray) : List ByteArray := if out.length = 0 then out ++ [u] else if cB (out.getD (out.length - 1) ByteArray.empty) u < 0 then out ++ [u] else out
def dirsR (k : List ByteArray) : List ByteArray := k.foldl (fun out c => (ups c).reverse.foldl stepD out) []
theorem rises_last {out : List ByteArray} (hr : Rises out) {z : ByteArray} (hz : z ∈ out) : z = out.getD (out.length - 1) ByteArray.empty ∨ cB z (out.getD (out.length - 1) ByteArray.empty) < 0 := le_last hr (by intro e; rw [List.eq_nil_of_length_eq_zero e] at hz; simp at hz) hz
theorem rises_snoc {out : List ByteArray} (hr : Rises out) {u : ByteArray} (h : ∀ z ∈ out, cB z u < 0) : Rises (out ++ [u]) := by
 refine List.pairwise_append.2 ⟨hr, List.pairwise_singleton _ _, fun a ha b hb => ?_⟩
 rw [List.mem_singleton.1 hb]; exact h a ha
theorem chain_steps {k1 : List ByteArray} {c : ByteArray} (hc : ∀ x ∈ k1, cB x c < 0) : ∀ (us vs out : List ByteArray), (ups c).reverse = vs ++ us → Rises out → (∀ z, z ∈ out ↔ z ∈ vs ∨ ∃ d ∈ k1, z ∈ ups d) →
  Rises (us.foldl stepD out) ∧ ∀ z, z ∈ us.foldl stepD out ↔ z ∈ vs ++ us ∨ ∃ d ∈ k1, z ∈ ups d
 | [], vs, out, _, hr, hm => ⟨hr, fun z => by rw [List.append_nil]; exact hm z⟩
 | u :: us, vs, out, he, hr, hm => by
  have hu : u ∈ ups c := by rw [← List.mem_reverse, he]; simp
  have huA := (mem_ups.1 hu)
  have key : stepD out u = if u ∈ out then out else out ++ [u] := by
   unfold stepD
   by_cases h0 : out.length = 0
   ·rw [if_pos h0, if_neg (by rw [List.eq_nil_of_length_eq_zero h0]; simp)]
   ·rw [if_neg h0]
    by_cases hin : u ∈ out
    ·rw [if_pos hin, if_neg]
     rcases rises_last hr hin with e | e
     ·rw [← e, cB_self]; omega
     ·have := cB_neg u (out.getD (out.length - 1) ByteArray.empty); omega
    ·rw [if_neg hin, if_pos]
     have hl := last_mem h0
     generalize out.getD (out.length - 1) ByteArray.empty = q at hl
     rcases Int.lt_trichotomy (cB q u) 0 with h | h | h
     ·exact h
     ·exact absurd (cB_eq h ▸ hl) hin
     ·exfalso
      have hlt : cB u q < 0 := by have := cB_neg q u; omega
      rcases (hm q).1 hl with hq | ⟨d, hd, hq⟩
      ·have hrr := ups_rise c
       rw [he] at hrr
       have := (List.pairwise_append.1 hrr).2.2 q hq u List.mem_cons_self
       omega
      ·have hqd := mem_ups.1 hq
       have hdc := hc d hd
       have hqc : cB q c < 0 := by
        rcases hqd.2 with e | e
        ·rw [e]; exact hdc
        ·exact cB_trans (above_lt e) hdc
       rcases huA.2 with e | e
       ·rw [e] at hlt; have := cB_neg q c; omega
       ·have huq := above_between e hlt hqc
        have : u ∈ ups d := mem_ups.2 ⟨huA.1, by
         rcases hqd.2 with e2 | e2
         ·rw [← e2]; exact .inr huq
         ·exact .inr (above_trans huq e2)⟩
        exact hin ((hm u).2 (.inr ⟨d, hd, this⟩))
  rw [List.foldl_cons, key]
  have he' : (ups c).reverse = (vs ++ [u]) ++ us := by rw [he]; simp
  by_cases hin : u ∈ out
  ·rw [if_pos hin]
   have := chain_steps hc us (vs ++ [u]) out he' hr fun z => by
    rw [hm z, List.mem_append, List.mem_singleton]
    constructor
    ·rintro (h | h)
     ·exact .inl (.inl h)
     ·exact .inr h
    ·rintro ((h | h) | h)
     ·exact .inl h
     ·rw [h]; exact (hm u).1 hin
     ·exact .inr h
   simpa using this
  ·rw [if_neg hin]
   have h0 : ∀ z ∈ out, cB z u < 0 := by
    have hk := key
    rw [if_neg hin] at hk
    intro z hz
    have hne : out.length ≠ 0 := by intro e; rw [List.eq_nil_of_length_eq_zero e] at hz; simp at hz
    have hlast : cB (out.getD (out.length - 1) ByteArray.empty) u < 0 := by
     unfold stepD at hk
     rw [if_neg hne] at hk
     by_cases h : cB (out.getD (out.length - 1) ByteArray.empty) u < 0
     ·exact h
     ·rw [if_neg h] at hk
      have := congrArg List.length hk
      simp at this
    rcases rises_last hr hz with e | e
    ·rw [e]; exact hlast
    ·exact cB_trans e hlast
   have := chain_steps hc us (vs ++ [u]) (out ++ [u]) he' (rises_snoc hr h0) fun z => by
    rw [List.mem_append, hm z, List.mem_append]
    constructor
    ·rintro ((h | h) | h)
     ·exact .inl (.inl h)
     ·exact .inr h
     ·exact .inl (.inr h)
    ·rintro ((h | h) | h)
     ·exact .inl (.inl h)
     ·exact .inr h
     ·exact .inl (.inr h)
   simpa using this
theorem dirsR_run : ∀ (k2 k1 out : List ByteArray), (k1 ++ k2).Pairwise Apart2 → Rises out → (∀ z, z ∈ out ↔ ∃ d ∈ k1, z ∈ ups d) →
  Rises (k2.foldl (fun out c => (ups c).reverse.foldl stepD out) out) ∧ ∀ z, z ∈ k2.foldl (fun out c => (ups c).reverse.foldl stepD out) out ↔ ∃ d ∈ k1 ++ k2, z ∈ ups d
 | [], k1, out, _, hr, hm => ⟨hr, fun z => by rw [List.append_nil]; exact hm z⟩
 | c :: k2, k1, out, ha, hr, hm => by
  have hc : ∀ x ∈ k1, cB x c < 0 := fun x hx => ((List.pairwise_append.1 ha).2.2 x hx c List.mem_cons_self).1
  obtain ⟨r1, m1⟩ := chain_steps hc (ups c).reverse [] out (by simp) hr (fun z => by rw [hm z]; simp)
  have := dirsR_run k2 (k1 ++ [c]) _ (by rw [List.append_assoc]; exact ha) r1 (fun z => by
   rw [m1 z, List.nil_append, List.mem_reverse]
   constructor
   ·rintro (h | ⟨d, hd, h⟩)
    ·exact ⟨c, by simp, h⟩
    ·exact ⟨d, by simp [hd], h⟩
   ·rintro ⟨d, hd, h⟩
    rcases List.mem_append.1 hd with hd | hd
    ·exact .inr ⟨d, hd, h⟩
    ·rw [List.mem_singleton.1 hd] at h; exact .inl h)
  rw [List.append_assoc] at this
  exact this
theorem dirsR_is {k : List ByteArray} (h : k.Pairwise Apart2) : dirsR k = dirsT k := by
 obtain ⟨r1, m1⟩ := dirsR_run k [] [] (by simpa using h) List.Pairwise.nil (by simp)
 exact rises_uniq _ _ r1 (rises_norm _) fun z => by
  rw [show dirsR k = k.foldl (fun out c => (ups c).reverse.foldl stepD out) [] from rfl, m1 z, mem_dirsT, List.nil_append]
end Go.Proofs.YtehfogjibhnabaaDoor.PAll
namespace Go.Proofs.YtehfogjibhnabaaDoor.PAll
open Go.RowKit Go.Proofs.YtehfogjibhnabaaDoorW.PrintWords Go.Proofs.YtehfogjibhnabaaDoorW.PrintLast Go.Proofs.YtehfogjibhnabaaDoorW.PrintMore
open Go.Proofs.YtehfogjibhnabaaDoor.Sp
theorem byte_is (v : Int) : copseref02_Byte.f v = some (okc v) := by
 unfold copseref02_Byte.f
 by_cases h : okc v = true
 ·rw [h]
  simp only [okc, Bool.or_eq_true, Bool.and_eq_true, decide_eq_true_eq] at h
  repeat' split
  all_goals first | rfl | (exfalso; omega) | (congr 1; simp; omega)
 ·rw [Bool.not_eq_true] at h
  rw [h]
  simp only [okc, Bool.or_eq_false_iff, Bool.and_eq_false_iff, decide_eq_false_iff_not] at h
  repeat' split
  all_goals first | rfl | (exfalso; omega) | (congr 1; simp; omega)
theorem comp02_run (a : ByteArray) (ha : a.size ≤ 4294967296) (d : Nat) : ∀ i, a.size - i = d → i ≤ a.size → Ev (fun k => copseref02_Component.l0 k a (i : Int)) (((bs a).drop i).all fun c => okc (c.toNat : Int)) := by
 induction d with
 | zero =>
  intro i hd hi
  refine ⟨1, fun k hk => ?_⟩
  obtain ⟨k, rfl⟩ : ∃ m, k = m + 1 := ⟨k - 1, by omega⟩
  simp only [copseref02_Component.l0]
  rw [if_neg (by omega), List.drop_of_length_le (by rw [bs_size]; omega)]; rfl
 | succ d ih =>
  intro i hd hi
  have hv := bt_get a i (by omega)
  obtain ⟨K, hK⟩ := ih (i + 1) (by omega) (by omega)
  rw [bs_drop a i (by omega), List.all_cons, ← hv]
  dsimp only at hK
  refine ⟨K + 1, fun k hk => ?_⟩
  obtain ⟨k, rfl⟩ : ∃ m, k = m + 1 := ⟨k - 1, by omega⟩
  have hk1 := hK k (by omega)
  simp only [copseref02_Component.l0]
  rw [if_pos (by omega), if_pos (by omega), byte_is, Option.bind_some, wrap_succ (n := a.size) (by omega) (by omega), hk1]
  cases okc (bt a (i : Int)) <;> simp
theorem ref_comp (a : ByteArray) (ha : a.size ≤ 4294967296) : Ev (fun k => copseref02_Component.f k a) (compB a) := by
 have hj : Ev (fun k => copseref02_Component.j0 k a true) false := ⟨1, fun k hk => by
  obtain ⟨k, rfl⟩ : ∃ m, k = m + 1 := ⟨k - 1, by omega⟩
  simp [copseref02_Component.j0]⟩
 unfold copseref02_Component.f compB
 simp only [toList_bs]
 by_cases h1 : bs a = []
 ·have hz : (a.size : Int) < 1 := by have := bs_size a; rw [h1] at this; simp at this; omega
  simp only [if_pos hz]; exact Ev.val hj (by simp [h1])
 ·have hz : ¬ (a.size : Int) < 1 := fun h => h1 (List.length_eq_zero_iff.1 (by rw [bs_size]; omega))
  simp only [if_neg hz]
  by_cases h2 : (a.size : Int) > 32
  ·simp only [if_pos h2]; exact Ev.val hj (by simp; omega)
  ·simp only [if_neg h2]
   by_cases h3 : bs a = [46]
   ·simp only [h3, if_true]; exact Ev.val hj (by simp)
   ·simp only [if_neg h3]
    by_cases h4 : bs a = [46, 46]
    ·simp only [h4, if_true]; exact Ev.val hj (by simp)
    ·simp only [if_neg h4]
     by_cases h5 : bs a = [46, 46, 46]
     ·simp only [h5, beq_self_eq_true]; exact Ev.val hj (by simp)
     ·have e5 : (bs a == [46, 46, 46]) = false := beq_eq_false_iff_ne.mpr h5
      simp only [e5]
      obtain ⟨K, hK⟩ := comp02_run a ha a.size 0 (by omega) (by omega)
      dsimp only at hK
      refine ⟨K + 1, fun k hk => ?_⟩
      obtain ⟨k, rfl⟩ : ∃ m, k = m + 1 := ⟨k - 1, by omega⟩
      have := hK k (by omega)
      simp only [copseref02_Component.j0, Bool.false_eq_true, if_false]
      rw [show ((0 : Nat) : Int) = 0 from rfl] at this
      rw [this]
      have g2 : a.size ≤ 32 := by omega
      simp [h1, g2, h3, h4]
theorem refv_run (x : List ByteArray) (hx : x.length ≤ 4294967296) (hs : ∀ p ∈ x, p.size ≤ 4294967296) (d : Nat) : ∀ i, x.length - i = d → i ≤ x.length → Ev (fun k => copseref02_Valid.l0 k x (i : Int)) ((x.drop i).all compB) := by
 induction d with
 | zero =>
  intro i hd hi
  refine ⟨1, fun k hk => ?_⟩
  obtain ⟨k, rfl⟩ : ∃ m, k = m + 1 := ⟨k - 1, by omega⟩
  simp only [copseref02_Valid.l0]
  rw [if_neg (by omega), List.drop_of_length_le (by omega)]; rfl
 | succ d ih =>
  intro i hd hi
  have hm := rd_mem x i (by omega)
  obtain ⟨K, hK⟩ := ih (i + 1) (by omega) (by omega)
  obtain ⟨K1, hK1⟩ := ref_comp _ (hs _ hm)
  rw [rdOf_drop x i (by omega), List.all_cons]
  dsimp only at hK hK1
  refine ⟨max K K1 + 1, fun k hk => ?_⟩
  obtain ⟨k, rfl⟩ : ∃ m, k = m + 1 := ⟨k - 1, by omega⟩
  simp only [copseref02_Valid.l0]
  rw [if_pos (by omega), if_pos (by omega), hK1 k (by omega), Option.bind_some, wrap_succ (n := x.length) (by omega) (by omega), hK k (by omega)]
  cases compB (rdOf ByteArray.empty x (i : Int)) <;> simp
theorem refv_j0 (a : ByteArray) (ha : a.size ≤ 4294967295) (b : Bool) : Ev (fun k => copseref02_Valid.j0 k (pB a) b) (if b = true then false else (pB a).all compB) := by
 cases b with
 | true => exact ⟨1, fun k hk => by
   obtain ⟨k, rfl⟩ : ∃ m, k = m + 1 := ⟨k - 1, by omega⟩
   simp [copseref02_Valid.j0]⟩
 | false =>
  have hl := pB_length_le a
  obtain ⟨K, hK⟩ := refv_run (pB a) (by omega) (fun p hp => by have := pB_piece_le a p hp; omega) (pB a).length 0 (by omega) (by omega)
  dsimp only at hK
  refine ⟨K + 1, fun k hk => ?_⟩
  obtain ⟨k, rfl⟩ : ∃ m, k = m + 1 := ⟨k - 1, by omega⟩
  simp only [copseref02_Valid.j0, Bool.false_eq_true, if_false]
  exact hK k (by omega)
theorem ref_valid (a : ByteArray) (ha : a.size ≤ 4294967295) : Ev (fun k => copseref02_Valid.f k a) (validB a) := by
 unfold copseref02_Valid.f validB
 refine Ev.bind (ref_split a (by omega)) ?_
 by_cases h1 : (a.size : Int) > 120
 ·simp only [if_pos h1]; exact Ev.val (refv_j0 a ha true) (by simp; omega)
 ·simp only [if_neg h1]
  refine Ev.val (refv_j0 a ha _) ?_
  have g1 : a.size ≤ 120 := by omega
  by_cases h2 : ((pB a).length : Int) > 12
  ·simp [h2, g1]; omega
  ·have g2 : (pB a).length ≤ 12 := by omega
   simp [h2, g1, g2]
end Go.Proofs.YtehfogjibhnabaaDoor.PAll
