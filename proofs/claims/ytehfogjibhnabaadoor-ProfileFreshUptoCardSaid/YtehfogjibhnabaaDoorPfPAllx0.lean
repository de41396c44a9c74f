/- The values' own types, as the walks use them. -/
import Derived.Test.YtehfogjibhnabaaDoorProg
import Derived.Below
import Derived.Deep.Draws
import Derived.Deep.AppendLies
import Derived.Maps.AppendAt
import Derived.OwnWalk
import Derived.Laws.BytesArg
import Derived.Laws.MakeOwn
import Derived.Laws.OwnMore
import Derived.Deep.OwnRows
import Derived.Tactics
import Derived.Lib.ConvBytes
import Derived.Laws.Slices
import Derived.WalkKit
import Derived.KernelRfl
import Derived.RowKit3
import Derived.Deep.LoopGhost
import Derived.Deep.QuietTactic
import Derived.BigQuiet
import Derived.WideLaws
import Derived.Deep.DeepCutAuto
import Derived.Deep.CutBlock
import Derived.Deep.RegionHeld3
import Derived.Laws.Rows
import Derived.Lib.AppendStr
import Derived.ArgAppend
import Derived.Laws.IdiomCopy
import Derived.OrdersHeld
import Derived.Laws.BitsLemmas
import Derived.RowKit
import Derived.Test.YtehfogjibhnabaaDoorPfWWords
import Derived.Test.YtehfogjibhnabaaDoorPfWLast
import Derived.Lib.SplitLaws
import Derived.WalkLawsBesides
namespace Go.Proofs.YtehfogjibhnabaaDoor.PAll
open Go.RowKit Go.Proofs.YtehfogjibhnabaaDoorW.PrintWords Go.Proofs.YtehfogjibhnabaaDoorW.PrintLast Go.Proofs.YtehfogjibhnabaaDoorW.PrintMore
attribute [local go_sem] max2_int min2_int max_two min_two max_three min_three max_four min_four
set_option linter.unusedVariables false
set_option linter.unusedSimpArgs false
def errW : Option Int → Value
 | none => .nilIface
 | some c => .iface 0 (.int .i64 c)
theorem errW_none : errW none = .nilIface := rfl
theorem errW_some (c : Int) : errW (some c) = .iface 0 (.int .i64 c) := rfl
theorem info9 : (Tryd.prog.info? 9).map (fun i => (i.zero, i.size, i.bytes)) = some (some (.string ⟨#[]⟩), 1, 16) := by kernel_rfl
structure S55 where
 f0 : ByteArray
 f1 : ByteArray
 f2 : Int
 f3 : Int
def z55 : S55 := ⟨(⟨#[]⟩ : ByteArray), (⟨#[]⟩ : ByteArray), (0 : Int), (0 : Int)⟩
end Go.Proofs.YtehfogjibhnabaaDoor.PAll
namespace Go.Proofs.YtehfogjibhnabaaDoor.Sp
abbrev Str := List UInt8
def spl : Str → List Str
 | [] => [[]]
 | c :: r => if c = 47 then [] :: spl r else match spl r with
  | [] => [[c]]
  | h :: t => (c :: h) :: t
theorem spl_ne (s : Str) : spl s ≠ [] := by
 cases s with
 | nil => simp [spl]
 | cons c r =>
  unfold spl
  split
  ·simp
  ·split <;> simp
def joinS : List Str → Str
 | [] => []
 | [a] => a
 | a :: b :: r => a ++ 47 :: joinS (b :: r)
theorem joinS_cons (a : Str) {l : List Str} (h : l ≠ []) : joinS (a :: l) = a ++ 47 :: joinS l := by
 cases l with
 | nil => exact absurd rfl h
 | cons b r => rfl
theorem join_spl (s : Str) : joinS (spl s) = s := by
 induction s with
 | nil => rfl
 | cons c r ih =>
  unfold spl
  by_cases h : c = 47
  ·rw [if_pos h, joinS_cons _ (spl_ne r), ih, h]; rfl
  ·rw [if_neg h]
   cases hs : spl r with
   | nil => exact absurd hs (spl_ne r)
   | cons x t =>
    rw [hs] at ih
    cases t with
    | nil => simp only [joinS] at ih ⊢; rw [ih]
    | cons y t => simp only [joinS] at ih ⊢; rw [← ih]; rfl
def pcs (s : Str) : List Str := if s = [] then [] else spl s
theorem pcs_of {s : Str} (h : s ≠ []) : pcs s = spl s := if_neg h
theorem join_pcs (s : Str) : joinS (pcs s) = s := by
 unfold pcs
 split
 ·rename_i h; rw [h]; rfl
 ·exact join_spl s
theorem pcs_inj {a b : Str} (h : pcs a = pcs b) : a = b := by rw [← join_pcs a, h, join_pcs]
theorem bl_irrefl : ∀ a : Str, Op.bytesLess a a = false
 | [] => rfl
 | c :: r => by simp [Op.bytesLess, bl_irrefl r]
theorem bl_tri : ∀ a b : Str, Op.bytesLess a b = false → Op.bytesLess b a = false → a = b
 | [], [], _, _ => rfl
 | [], _ :: _, h, _ => by simp [Op.bytesLess] at h
 | _ :: _, [], _, h => by simp [Op.bytesLess] at h
 | c :: r, d :: s, h, k => by
  simp only [Op.bytesLess, Bool.or_eq_false_iff, Bool.and_eq_false_iff, decide_eq_false_iff_not, beq_eq_false_iff_ne] at h k
  have e : c = d := by
   have h1 := h.1; have k1 := k.1
   rw [UInt8.lt_iff_toNat_lt] at h1 k1
   exact UInt8.toNat_inj.1 (by omega)
  subst e
  have hr : Op.bytesLess r s = false := by rcases h.2 with h2 | h2; exact absurd rfl h2; exact h2
  have kr : Op.bytesLess s r = false := by rcases k.2 with h2 | h2; exact absurd rfl h2; exact h2
  rw [bl_tri r s hr kr]
theorem bl_trans : ∀ a b d : Str, Op.bytesLess a b = true → Op.bytesLess b d = true → Op.bytesLess a d = true
 | _, [], _, h, _ => by simp [Op.bytesLess] at h
 | _, _ :: _, [], _, h => by simp [Op.bytesLess] at h
 | [], _ :: _, _ :: _, _, _ => rfl
 | x :: a, y :: b, z :: d, h, k => by
  simp only [Op.bytesLess, Bool.or_eq_true, Bool.and_eq_true, decide_eq_true_eq, beq_iff_eq, UInt8.lt_iff_toNat_lt] at h k ⊢
  rcases h with h | ⟨rfl, h⟩
  ·rcases k with k | ⟨rfl, k⟩
   ·exact .inl (by omega)
   ·exact .inl h
  ·rcases k with k | ⟨rfl, k⟩
   ·exact .inl k
   ·exact .inr ⟨rfl, bl_trans a b d h k⟩
theorem bl_asymm (a b : Str) (h : Op.bytesLess a b = true) : Op.bytesLess b a = false := by
 cases k : Op.bytesLess b a with
 | false => rfl
 | true => have := bl_trans a b a h k; rw [bl_irrefl] at this; exact absurd this (by decide)
theorem gt_ne {x y : Str} (h : Op.bytesLess x y = false) (k : Op.bytesLess y x = true) : (x == y) = false := by
 have : x ≠ y := by rintro rfl; rw [h] at k; cases k
 simpa using this
theorem gt_eq {x y : Str} (h : Op.bytesLess x y = false) (k : Op.bytesLess y x = false) : (x == y) = true := by
 simpa using bl_tri x y h k
def cmpS (x y : Str) : Int := if Op.bytesLess x y = true then -1 else if Op.bytesLess y x = true then 1 else 0
theorem cmpS_self (x : Str) : cmpS x x = 0 := by simp [cmpS, bl_irrefl]
theorem cmpS_eq {x y : Str} (h : cmpS x y = 0) : x = y := by
 unfold cmpS at h
 split at h
 ·cases h
 ·split at h
  ·cases h
  ·rename_i h1 h2; exact bl_tri x y (by simpa using h1) (by simpa using h2)
theorem cmpS_neg (x y : Str) : cmpS y x = - cmpS x y := by
 unfold cmpS
 by_cases h : Op.bytesLess x y = true
 ·rw [if_pos h, bl_asymm x y h]; simp [h]
 ·by_cases k : Op.bytesLess y x = true
  ·simp [h, k]
  ·simp [h, k]
theorem cmpS_lt {x y : Str} : cmpS x y < 0 ↔ Op.bytesLess x y = true := by
 unfold cmpS
 split
 ·simp [*]
 ·split <;> simp [*]
def cmpL : List Str → List Str → Int
 | [], [] => 0
 | [], _ :: _ => -1
 | _ :: _, [] => 1
 | x :: xs, y :: ys => if x = y then cmpL xs ys else cmpS x y
theorem cmpL_self : ∀ l, cmpL l l = 0
 | [] => rfl
 | x :: l => by simp [cmpL, cmpL_self l]
theorem cmpL_eq : ∀ l m, cmpL l m = 0 → l = m
 | [], [], _ => rfl
 | [], _ :: _, h => by simp [cmpL] at h
 | _ :: _, [], h => by simp [cmpL] at h
 | x :: l, y :: m, h => by
  unfold cmpL at h
  split at h
  ·rename_i e; rw [e, cmpL_eq l m h]
  ·rename_i e; exact absurd (cmpS_eq h) e
theorem cmpL_neg : ∀ l m, cmpL m l = - cmpL l m
 | [], [] => rfl
 | [], _ :: _ => rfl
 | _ :: _, [] => rfl
 | x :: l, y :: m => by
  unfold cmpL
  by_cases e : x = y
  ·rw [if_pos e, if_pos e.symm, cmpL_neg l m]
  ·rw [if_neg e, if_neg (fun h => e h.symm), cmpS_neg]
theorem cmpL_trans : ∀ l m n, cmpL l m < 0 → cmpL m n < 0 → cmpL l n < 0
 | _, [], [], _, k => by simp [cmpL] at k
 | [], [], _ :: _, h, _ => by simp [cmpL] at h
 | _ :: _, [], _, h, _ => by simp [cmpL] at h
 | _, _ :: _, [], _, k => by simp [cmpL] at k
 | [], _ :: _, _ :: _, _, _ => by simp [cmpL]
 | x :: l, y :: m, z :: n, h, k => by
  unfold cmpL at h k ⊢
  by_cases e : x = y
  ·subst e
   rw [if_pos rfl] at h
   by_cases e2 : x = z
   ·rw [if_pos e2] at k ⊢; exact cmpL_trans l m n h k
   ·rw [if_neg e2] at k ⊢; exact k
  ·rw [if_neg e] at h
   by_cases e2 : y = z
   ·subst e2; rw [if_neg e]; exact h
   ·rw [if_neg e2] at k
    have hk := cmpS_lt.2 (bl_trans x y z (cmpS_lt.1 h) (cmpS_lt.1 k))
    by_cases e3 : x = z
    ·subst e3; rw [cmpS_self] at hk; omega
    ·rw [if_neg e3]; exact hk
def cmpP (a b : Str) : Int := cmpL (pcs a) (pcs b)
theorem cmpP_self (a : Str) : cmpP a a = 0 := cmpL_self _
theorem cmpP_eq {a b : Str} (h : cmpP a b = 0) : a = b := pcs_inj (cmpL_eq _ _ h)
theorem cmpP_neg (a b : Str) : cmpP b a = - cmpP a b := cmpL_neg _ _
theorem cmpP_trans {a b c : Str} (h : cmpP a b < 0) (k : cmpP b c < 0) : cmpP a c < 0 := cmpL_trans _ _ _ h k
def bs (s : ByteArray) : Str := s.data.toList
theorem bs_inj {a b : ByteArray} (h : bs a = bs b) : a = b := by
 cases a; cases b
 simp only [bs] at h
 congr 1
 exact Array.toList_inj.1 h
theorem toList_bs (a : ByteArray) : a.toList = bs a := Lib.toList_data a
theorem bs_size (a : ByteArray) : (bs a).length = a.size := (Lib.size_eq a).symm
def cB (a b : ByteArray) : Int := cmpP (bs a) (bs b)
theorem cB_self (a : ByteArray) : cB a a = 0 := cmpP_self _
theorem cB_eq {a b : ByteArray} (h : cB a b = 0) : a = b := bs_inj (cmpP_eq h)
theorem cB_neg (a b : ByteArray) : cB b a = - cB a b := cmpP_neg _ _
theorem cB_trans {a b c : ByteArray} (h : cB a b < 0) (k : cB b c < 0) : cB a c < 0 := cmpP_trans h k
theorem cB_ne {a b : ByteArray} (h : cB a b < 0) : a ≠ b := by rintro rfl; rw [cB_self] at h; omega
def mk (l : Str) : ByteArray := ⟨l.toArray⟩
theorem bs_mk (l : Str) : bs (mk l) = l := by simp [bs, mk]
theorem mk_bs (a : ByteArray) : mk (bs a) = a := bs_inj (bs_mk _)
def pB (a : ByteArray) : List ByteArray := (pcs (bs a)).map mk
theorem pB_bs (a : ByteArray) : (pB a).map bs = pcs (bs a) := by
 unfold pB; rw [List.map_map, show bs ∘ mk = id from funext bs_mk, List.map_id]
theorem pB_nil {a : ByteArray} (h : bs a = []) : pB a = [] := by unfold pB; rw [h]; rfl
theorem index_ne {c : UInt8} (h : c ≠ 47) (l : Str) : Lib.index (c :: l) [47] = if Lib.index l [47] == -1 then -1 else Lib.index l [47] + 1 := by
 rw [Lib.index, show ([47] : Str).isPrefixOf (c :: l) = false by simp [List.isPrefixOf, Ne.symm h]]
 simp
theorem splitK_spl : ∀ s : Str, Lib.splitK [47] 0 (Lib.count s [47]) s = spl s
 | [] => by rw [Lib.count_one]; rfl
 | c :: l => by
  have ih := splitK_spl l
  by_cases h : c = 47
  ·subst h
   rw [Lib.count_cons_eq, Nat.add_comm]
   have hix : Lib.index (47 :: l) [47] = 0 := by rw [Lib.index]; simp [List.isPrefixOf]
   unfold Lib.splitK
   rw [hix]
   simp only [spl, if_true]
   rw [← ih]
   rfl
  ·rw [Lib.count_cons_ne c 47 l h]
   unfold spl
   rw [if_neg h]
   cases hc : Lib.count l [47] with
   | zero =>
    rw [hc] at ih
    have e : spl l = [l] := ih.symm
    rw [e]; rfl
   | succ k =>
    rw [hc] at ih
    have hne : Lib.index l [47] ≠ -1 := fun e => by rw [Lib.count_miss e] at hc; cases hc
    have hge := Lib.index_ge l [47]
    obtain ⟨j, hj⟩ : ∃ j : Nat, Lib.index l [47] = j := ⟨(Lib.index l [47]).toNat, by omega⟩
    have hj' : Lib.index (c :: l) [47] = ((j + 1 : Nat) : Int) := by
     rw [index_ne h, if_neg (by simpa using hne), hj]; omega
    unfold Lib.splitK at ih ⊢
    rw [hj, if_neg (by simp <;> omega)] at ih
    rw [hj', if_neg (by simp <;> omega), ← ih]
    simp
theorem splitB_spl (s : ByteArray) : Lib.splitB ⟨#[47]⟩ 0 (Lib.countB s ⟨#[47]⟩) s = (spl (bs s)).map mk := by
 have h : (Lib.splitB ⟨#[47]⟩ 0 (Lib.countB s ⟨#[47]⟩) s).map bs = spl (bs s) := (Lib.splitB_data _ _ _ _).trans (splitK_spl (bs s))
 rw [← h, List.map_map, show mk ∘ bs = id from funext mk_bs, List.map_id]
instance (p : ByteArray) (l : List ByteArray) : Decidable (p ∈ l) := decidable_of_iff (l.any (fun x => decide (x = p)) = true) (by simp)
abbrev Rises (l : List ByteArray) : Prop := l.Pairwise (fun a b => cB a b < 0)
theorem rises_uniq : ∀ (l m : List ByteArray), Rises l → Rises m → (∀ x, x ∈ l ↔ x ∈ m) → l = m
 | [], [], _, _, _ => rfl
 | [], y :: m, _, _, h => absurd ((h y).2 List.mem_cons_self) (by simp)
 | x :: l, [], _, _, h => absurd ((h x).1 List.mem_cons_self) (by simp)
 | x :: l, y :: m, hl, hm, h => by
  have hl' := List.pairwise_cons.1 hl
  have hm' := List.pairwise_cons.1 hm
  have e : x = y := by
   rcases List.mem_cons.1 ((h x).1 List.mem_cons_self) with e | hx
   ·exact e
   ·rcases List.mem_cons.1 ((h y).2 List.mem_cons_self) with e | hy
    ·exact e.symm
    ·have h1 := hm'.1 x hx; have h2 := hl'.1 y hy; have := cB_neg y x; omega
  subst e
  congr 1
  refine rises_uniq l m hl'.2 hm'.2 fun z => ?_
  constructor
  ·intro hz
   rcases List.mem_cons.1 ((h z).1 (List.mem_cons_of_mem _ hz)) with e | k
   ·subst e; exact absurd rfl (cB_ne (hl'.1 z hz))
   ·exact k
  ·intro hz
   rcases List.mem_cons.1 ((h z).2 (List.mem_cons_of_mem _ hz)) with e | k
   ·subst e; exact absurd rfl (cB_ne (hm'.1 z hz))
   ·exact k
def ins (x : ByteArray) : List ByteArray → List ByteArray
 | [] => [x]
 | y :: l => if cB x y < 0 then x :: y :: l else if x = y then y :: l else y :: ins x l
theorem mem_ins {x z : ByteArray} : ∀ {l : List ByteArray}, z ∈ ins x l ↔ z = x ∨ z ∈ l
 | [] => by simp [ins]
 | y :: l => by
  unfold ins
  split
  ·simp
  ·split
   ·rename_i e; subst e; simp
   ·simp [mem_ins (l := l)]
    constructor <;> (intro h; rcases h with h | h | h <;> simp [h])
theorem rises_ins {x : ByteArray} : ∀ {l : List ByteArray}, Rises l → Rises (ins x l)
 | [], _ => by simp [ins]
 | y :: l, h => by
  have h' := List.pairwise_cons.1 h
  unfold ins
  split
  ·rename_i c
   refine List.pairwise_cons.2 ⟨fun z hz => ?_, h⟩
   rcases List.mem_cons.1 hz with rfl | hz
   ·exact c
   ·exact cB_trans c (h'.1 z hz)
  ·split
   ·exact h
   ·rename_i c e
    refine List.pairwise_cons.2 ⟨fun z hz => ?_, rises_ins h'.2⟩
    rcases mem_ins.1 hz with rfl | hz
    ·have := cB_neg z y
     have : cB z y ≠ 0 := fun k => e (cB_eq k)
     omega
    ·exact h'.1 z hz
def norm (l : List ByteArray) : List ByteArray := l.foldl (fun acc x => ins x acc) []
theorem norm_foldl : ∀ (l acc : List ByteArray), Rises acc → Rises (l.foldl (fun acc x => ins x acc) acc) ∧ ∀ z, z ∈ l.foldl (fun acc x => ins x acc) acc ↔ z ∈ l ∨ z ∈ acc
 | [], acc, h => ⟨h, fun z => by simp⟩
 | x :: l, acc, h => by
  obtain ⟨h1, h2⟩ := norm_foldl l (ins x acc) (rises_ins h)
  refine ⟨h1, fun z => ?_⟩
  rw [List.foldl_cons, h2, mem_ins, List.mem_cons]
  constructor
  ·rintro (h | h | h) <;> simp [h]
  ·rintro ((h | h) | h) <;> simp [h]
theorem rises_norm (l : List ByteArray) : Rises (norm l) := (norm_foldl l [] List.Pairwise.nil).1
theorem mem_norm {l : List ByteArray} {z : ByteArray} : z ∈ norm l ↔ z ∈ l := by
 unfold norm; rw [(norm_foldl l [] List.Pairwise.nil).2]; simp
theorem norm_is {l m : List ByteArray} (h : Rises m) (hm : ∀ z, z ∈ m ↔ z ∈ l) : norm l = m := rises_uniq _ _ (rises_norm l) h fun z => mem_norm.trans (hm z).symm
theorem rises_nodup {l : List ByteArray} (h : Rises l) : l.Nodup := h.imp fun h => cB_ne h
theorem norm_length_le (l : List ByteArray) : (norm l).length ≤ l.length := (rises_nodup (rises_norm l)).length_le_of_subset (fun _ hz => mem_norm.1 hz)
end Go.Proofs.YtehfogjibhnabaaDoor.Sp
