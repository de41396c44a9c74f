/- The order of paths, Above, Dir: what the printed functions answer. -/
import Derived.Test.YtehfogjibhnabaaDoorPfPAllx0
import Derived.Test.YtehfogjibhnabaaDoorPfHandA
import Derived.Test.YtehfogjibhnabaaDoorPfPAlly11
import Derived.Test.YtehfogjibhnabaaDoorPfPAlly1
import Derived.Test.YtehfogjibhnabaaDoorPfPAlly3
import Derived.Test.YtehfogjibhnabaaDoorPfPAlly5
import Derived.Test.YtehfogjibhnabaaDoorPfShelf
import Derived.Sort.Grow
import Derived.Shelf.SlSortCmp.NoneTotal
import Derived.Shelf.Abstract
import Derived.Test.YtehfogjibhnabaaDoorPfPAlly7
import Derived.WalkKit
import Derived.BigQuiet
import Derived.Outline
import Derived.Test.YtehfogjibhnabaaDoorPfRowKit
import Derived.RangeFuncNested
import Derived.RangeFuncBox
import Derived.RangeFuncBound
import Derived.RangeFuncCalls
import Derived.RangeFuncLeaves
import Derived.Shelf.RegionOpen
import Derived.OwnWalkIn
import Derived.TacticsInMore
import Derived.LoopNIn
import Derived.LoopIn
import Derived.RegionIn
import Derived.Sort.LoopGhostIn
import Derived.Sort.QuietIn
import Derived.Maps.AppendAt
namespace Go.Proofs.YtehfogjibhnabaaDoor.PAll
open Go.RowKit Go.Proofs.YtehfogjibhnabaaDoorW.PrintWords Go.Proofs.YtehfogjibhnabaaDoorW.PrintLast Go.Proofs.YtehfogjibhnabaaDoorW.PrintMore
open Go.Proofs.YtehfogjibhnabaaDoor.Sp
theorem cmpS_cons_same (c : UInt8) (x y : Str) : cmpS (c :: x) (c :: y) = cmpS x y := by simp [cmpS, Op.bytesLess]
theorem cmpS_cons_lt {c d : UInt8} (h : c.toNat < d.toNat) (x y : Str) : cmpS (c :: x) (d :: y) = -1 := by
 have : c < d := by rw [UInt8.lt_iff_toNat_lt]; exact h
 simp [cmpS, Op.bytesLess, this]
theorem cmpS_cons_gt {c d : UInt8} (h : d.toNat < c.toNat) (x y : Str) : cmpS (c :: x) (d :: y) = 1 := by
 have h1 : d < c := by rw [UInt8.lt_iff_toNat_lt]; exact h
 have h2 : ¬ c < d := by rw [UInt8.lt_iff_toNat_lt]; omega
 have h3 : ¬ c = d := by rintro rfl; omega
 simp [cmpS, Op.bytesLess, h1, h2, h3]
theorem cmpS_nil_cons (c : UInt8) (x : Str) : cmpS [] (c :: x) = -1 := by simp [cmpS, Op.bytesLess]
theorem cmpS_cons_nil (c : UInt8) (x : Str) : cmpS (c :: x) [] = 1 := by simp [cmpS, Op.bytesLess]
theorem cmpS_nil : cmpS [] [] = 0 := by simp [cmpS, Op.bytesLess]
theorem ref_bytes_run (a b : ByteArray) (ha : a.size ≤ 4294967296) (d : Nat) : ∀ i, a.size - i = d → i ≤ a.size → i ≤ b.size → Ev (fun k => copseref02_bytes.l0 k a b (i : Int)) (cmpS ((bs a).drop i) ((bs b).drop i)) := by
 induction d with
 | zero =>
  intro i hd hi hb
  refine ⟨2, fun k hk => ?_⟩
  obtain ⟨k, rfl⟩ : ∃ m, k = m + 2 := ⟨k - 2, by omega⟩
  simp only [copseref02_bytes.l0, copseref02_bytes.j1]
  rw [if_neg (by omega), if_neg (by decide), List.drop_of_length_le (l := bs a) (by rw [bs_size]; omega)]
  by_cases h : i = b.size
  ·rw [if_neg (by omega), if_neg (by omega), List.drop_of_length_le (l := bs b) (by rw [bs_size]; omega), cmpS_nil]
  ·rw [if_pos (by omega), bs_drop b i (by omega), cmpS_nil_cons]
 | succ d ih =>
  intro i hd hi hb
  rw [bs_drop a i (by omega)]
  by_cases h : i = b.size
  ·refine ⟨2, fun k hk => ?_⟩
   obtain ⟨k, rfl⟩ : ∃ m, k = m + 2 := ⟨k - 2, by omega⟩
   simp only [copseref02_bytes.l0, copseref02_bytes.j1]
   rw [if_pos (by omega), if_neg (by rw [decide_eq_true_eq]; omega), if_neg (by omega), if_pos (by omega), List.drop_of_length_le (l := bs b) (by rw [bs_size]; omega), cmpS_cons_nil]
  ·have hA := bt_get a i (by omega)
   have hB := bt_get b i (by omega)
   rw [bs_drop b i (by omega)]
   obtain ⟨K, hK⟩ := ih (i + 1) (by omega) (by omega) (by omega)
   dsimp only at hK
   refine ⟨K + 2, fun k hk => ?_⟩
   obtain ⟨k, rfl⟩ : ∃ m, k = m + 2 := ⟨k - 2, by omega⟩
   simp only [copseref02_bytes.l0, copseref02_bytes.j1]
   rw [if_pos (by omega), if_pos (by rw [decide_eq_true_eq]; omega), if_pos (by omega), if_pos (by omega), if_pos (by omega), hA, hB]
   by_cases h1 : ((bs a)[i]'(by rw [bs_size]; omega)).toNat < ((bs b)[i]'(by rw [bs_size]; omega)).toNat
   ·rw [if_pos (by omega), cmpS_cons_lt h1]
   ·rw [if_neg (by omega)]
    by_cases h2 : ((bs b)[i]'(by rw [bs_size]; omega)).toNat < ((bs a)[i]'(by rw [bs_size]; omega)).toNat
    ·rw [if_pos (by omega), cmpS_cons_gt h2]
    ·rw [if_neg (by omega), wrap_succ (n := a.size) (by omega) (by omega), hK k (by omega)]
     have e : (bs a)[i]'(by rw [bs_size]; omega) = (bs b)[i]'(by rw [bs_size]; omega) := UInt8.toNat_inj.1 (by omega)
     rw [e, cmpS_cons_same]
theorem ref_bytes (a b : ByteArray) (ha : a.size ≤ 4294967296) : Ev (fun k => copseref02_bytes.f k a b) (cmpS (bs a) (bs b)) :=
 ref_bytes_run a b ha a.size 0 (by omega) (by omega) (by omega)
theorem ref_cmp_run (x y : List ByteArray) (hx : x.length ≤ 4294967296) (hs : ∀ p ∈ x, p.size ≤ 4294967296) (d : Nat) : ∀ i, x.length - i = d → i ≤ x.length → i ≤ y.length → Ev (fun k => copseref02_Cmp.l0 k x y (i : Int)) (cmpL ((x.drop i).map bs) ((y.drop i).map bs)) := by
 induction d with
 | zero =>
  intro i hd hi hb
  refine ⟨2, fun k hk => ?_⟩
  obtain ⟨k, rfl⟩ : ∃ m, k = m + 2 := ⟨k - 2, by omega⟩
  simp only [copseref02_Cmp.l0, copseref02_Cmp.j1]
  rw [if_neg (by omega), if_neg (by decide), List.drop_of_length_le (l := x) (by omega)]
  by_cases h : i = y.length
  ·rw [if_neg (by omega), if_neg (by omega), List.drop_of_length_le (l := y) (by omega)]; rfl
  ·rw [if_pos (by omega), rdOf_drop y i (by omega)]; rfl
 | succ d ih =>
  intro i hd hi hb
  rw [rdOf_drop x i (by omega)]
  by_cases h : i = y.length
  ·refine ⟨2, fun k hk => ?_⟩
   obtain ⟨k, rfl⟩ : ∃ m, k = m + 2 := ⟨k - 2, by omega⟩
   simp only [copseref02_Cmp.l0, copseref02_Cmp.j1]
   rw [if_pos (by omega), if_neg (by rw [decide_eq_true_eq]; omega), if_neg (by omega), if_pos (by omega), List.drop_of_length_le (l := y) (by omega)]; rfl
  ·rw [rdOf_drop y i (by omega)]
   have hmem : rdOf ByteArray.empty x (i : Int) ∈ x := List.mem_of_mem_drop (i := i) (by rw [rdOf_drop x i (by omega)]; exact List.mem_cons_self)
   obtain ⟨K, hK⟩ := ih (i + 1) (by omega) (by omega) (by omega)
   dsimp only at hK
   obtain ⟨K2, hK2⟩ := ref_bytes (rdOf ByteArray.empty x (i : Int)) (rdOf ByteArray.empty y (i : Int)) (hs _ hmem)
   dsimp only at hK2
   refine ⟨max K K2 + 2, fun k hk => ?_⟩
   obtain ⟨k, rfl⟩ : ∃ m, k = m + 2 := ⟨k - 2, by omega⟩
   simp only [copseref02_Cmp.l0, copseref02_Cmp.j1]
   rw [if_pos (by omega), if_pos (by rw [decide_eq_true_eq]; omega), if_pos (by omega), if_pos (by omega), if_pos (by omega), hK2 k (by omega), Option.bind_some]
   simp only [List.map_cons, cmpL]
   by_cases e : rdOf ByteArray.empty x (i : Int) = rdOf ByteArray.empty y (i : Int)
   ·rw [if_pos (by rw [e, cmpS_self]), if_pos (by rw [e]), wrap_succ (n := x.length) (by omega) (by omega), hK k (by omega)]
   ·have e' : ¬ bs (rdOf ByteArray.empty x (i : Int)) = bs (rdOf ByteArray.empty y (i : Int)) := fun h => e (bs_inj h)
    rw [if_neg (fun h => e' (cmpS_eq h)), if_neg e']
theorem spl_piece_le (s : Str) : ∀ cur, ∀ p ∈ splC cur s, p.length ≤ cur.length + s.length := by
 induction s with
 | nil => intro cur p hp; rw [splC_nil] at hp; rw [List.mem_singleton.1 hp]; simp
 | cons c r ih =>
  intro cur p hp
  by_cases h : c = 47
  ·subst h
   rw [splC_slash] at hp
   rcases List.mem_cons.1 hp with rfl | hp
   ·simp
   ·have := ih [] p hp; simp only [List.length_nil, List.length_cons] at this ⊢; omega
  ·rw [splC_other cur r h] at hp
   have := ih _ p hp
   simp only [List.length_append, List.length_cons, List.length_nil] at this ⊢; omega
theorem pB_piece_le (a : ByteArray) : ∀ p ∈ pB a, p.size ≤ a.size := by
 intro p hp
 unfold pB at hp
 obtain ⟨q, hq, rfl⟩ := List.mem_map.1 hp
 have : (mk q).size = q.length := by rw [← bs_size, bs_mk]
 rw [this]
 unfold pcs at hq
 split at hq
 ·cases hq
 ·rw [← splC_whole] at hq
  have := spl_piece_le (bs a) [] q hq
  rw [bs_size] at this; simpa using this
theorem ref_cmp (a b : ByteArray) (ha : a.size ≤ 4294967295) (hb : b.size ≤ 4294967295) : Ev (fun k => copseref02_Cmp.f k a b) (cB a b) := by
 have hla := pB_length_le a
 refine Ev.bind (ref_split a (by omega)) (Ev.bind (ref_split b (by omega)) ?_)
 have := ref_cmp_run (pB a) (pB b) (by omega) (fun p hp => by have := pB_piece_le a p hp; omega) (pB a).length 0 (by omega) (by omega) (by omega)
 refine Ev.val this ?_
 rw [List.drop_zero, List.drop_zero, pB_bs, pB_bs]; rfl
theorem prog_common (x y : List ByteArray) (hx : x.length ≤ 4294967296) : Ev (fun k => path_common.f k x y) (comL x y : Int) := Ev.of (path_common.mono x y) (common_ends x y (by omega))
theorem prog_cmp (a b : ByteArray) (ha : a.size < 4294967281) (hb : b.size < 4294967281) : Ev (fun k => path_Cmp.f k a b) (cB a b) := by
 have hla := pB_length_le a
 refine Ev.bind (prog_split a ha) (Ev.bind (prog_split b hb) (Ev.bind (prog_common (pB a) (pB b) (by omega)) ?_))
 refine ⟨1, fun k hk => ?_⟩
 obtain ⟨k, rfl⟩ : ∃ m, k = m + 1 := ⟨k - 1, by omega⟩
 rw [cB_com]
 obtain ⟨hc1, hc2⟩ := comL_le (pB a) (pB b)
 simp only [path_Cmp.j0]
 by_cases h1 : comL (pB a) (pB b) < (pB a).length
 ·rw [if_pos (by omega)]
  by_cases h2 : comL (pB a) (pB b) < (pB b).length
  ·rw [if_pos (by rw [decide_eq_true_eq]; omega), if_pos (by omega), if_pos (by omega), if_pos (by omega), compare_string_is, if_pos ⟨h1, h2⟩]; rfl
  ·rw [if_neg (by rw [decide_eq_true_eq]; omega), compare_int_is, if_neg (show ¬ (comL (pB a) (pB b) < (pB a).length ∧ comL (pB a) (pB b) < (pB b).length) from fun h => h2 h.2)]; rfl
 ·rw [if_neg (by omega), if_neg (by decide), compare_int_is, if_neg (show ¬ (comL (pB a) (pB b) < (pB a).length ∧ comL (pB a) (pB b) < (pB b).length) from fun h => h1 h.1)]; rfl
def aboveB (a b : ByteArray) : Bool := decide ((pB a).length < (pB b).length) && decide (comL (pB a) (pB b) = (pB a).length)
theorem ref_shared_run (x y : List ByteArray) (hx : x.length ≤ 4294967296) (d : Nat) : ∀ i, x.length - i = d → i ≤ x.length → i ≤ y.length → Ev (fun k => copseref02_shared.l0 k x y (i : Int)) ((i + comL (x.drop i) (y.drop i) : Nat) : Int) := by
 induction d with
 | zero =>
  intro i hd hi hb
  refine ⟨1, fun k hk => ?_⟩
  obtain ⟨k, rfl⟩ : ∃ m, k = m + 1 := ⟨k - 1, by omega⟩
  simp only [copseref02_shared.l0]
  rw [if_neg (by omega), List.drop_of_length_le (l := x) (by omega)]; simp [comL]
 | succ d ih =>
  intro i hd hi hb
  rw [rdOf_drop x i (by omega)]
  by_cases h : i = y.length
  ·refine ⟨1, fun k hk => ?_⟩
   obtain ⟨k, rfl⟩ : ∃ m, k = m + 1 := ⟨k - 1, by omega⟩
   simp only [copseref02_shared.l0]
   rw [if_pos (by omega), if_neg (by omega), List.drop_of_length_le (l := y) (by omega)]; simp [comL]
  ·rw [rdOf_drop y i (by omega)]
   obtain ⟨K, hK⟩ := ih (i + 1) (by omega) (by omega) (by omega)
   dsimp only at hK
   refine ⟨K + 1, fun k hk => ?_⟩
   obtain ⟨k, rfl⟩ : ∃ m, k = m + 1 := ⟨k - 1, by omega⟩
   simp only [copseref02_shared.l0]
   rw [if_pos (by omega), if_pos (by omega), if_pos (by omega)]
   by_cases e : rdOf ByteArray.empty x (i : Int) = rdOf ByteArray.empty y (i : Int)
   ·rw [if_pos (by rw [e]), wrap_succ (n := x.length) (by omega) (by omega), hK k (by omega), e, comL_same]
    congr 2; omega
   ·rw [if_neg (fun h => e (bs_inj (by rw [← toList_bs, ← toList_bs]; exact h))), comL_diff e]; rfl
theorem ref_shared (x y : List ByteArray) (hx : x.length ≤ 4294967296) : Ev (fun k => copseref02_shared.f k x y) (comL x y : Int) := by
 have := ref_shared_run x y hx x.length 0 (by omega) (by omega) (by omega)
 refine Ev.val this ?_
 simp
theorem above_val (x y : List ByteArray) : ((comL x y : Int) == (x.length : Int)) = decide (comL x y = x.length) := by
 rw [Bool.eq_iff_iff, beq_iff_eq, decide_eq_true_eq]; omega
theorem ref_above (a b : ByteArray) (ha : a.size ≤ 4294967295) (hb : b.size ≤ 4294967295) : Ev (fun k => copseref02_Above.f k a b) (aboveB a b) := by
 have hla := pB_length_le a
 refine Ev.bind (ref_split a (by omega)) (Ev.bind (ref_split b (by omega)) ?_)
 unfold aboveB
 by_cases h : (pB a).length < (pB b).length
 ·refine Ev.congr (f := fun k => (copseref02_shared.f k (pB a) (pB b)).bind fun t => some (t == ((pB a).length : Int))) (fun k => by rw [if_pos (by omega)]) ?_
  refine Ev.bind (ref_shared (pB a) (pB b) (by omega)) (ev_pure fun k => ?_)
  rw [above_val, decide_eq_true h, Bool.true_and]
 ·refine ev_pure fun k => ?_
  rw [if_neg (by omega), decide_eq_false h, Bool.false_and]
theorem prog_above (a b : ByteArray) (ha : a.size < 4294967281) (hb : b.size < 4294967281) : Ev (fun k => path_Above.f k a b) (aboveB a b) := by
 have hla := pB_length_le a
 refine Ev.bind (prog_split a ha) (Ev.bind (prog_split b hb) ?_)
 unfold aboveB
 by_cases h : (pB a).length < (pB b).length
 ·refine Ev.congr (f := fun k => (path_common.f k (pB a) (pB b)).bind fun t => some (t == ((pB a).length : Int))) (fun k => by rw [if_pos (by omega)]) ?_
  refine Ev.bind (prog_common (pB a) (pB b) (by omega)) (ev_pure fun k => ?_)
  rw [above_val, decide_eq_true h, Bool.true_and]
 ·refine ev_pure fun k => ?_
  rw [if_neg (by omega), decide_eq_false h, Bool.false_and]
def lastIx : Str → Int → Int → Int
 | [], _, acc => acc
 | c :: r, i, acc => lastIx r (i + 1) (if c = 47 then i else acc)
theorem lastIx_snoc (l : Str) (c : UInt8) : ∀ i acc, lastIx (l ++ [c]) i acc = if c = 47 then i + l.length else lastIx l i acc := by
 induction l with
 | nil => intro i acc; simp [lastIx]
 | cons x l ih =>
  intro i acc
  simp only [List.cons_append, lastIx, ih, List.length_cons]
  split
  ·omega
  ·rfl
theorem lastIx_le (l : Str) : ∀ i acc : Int, acc < i + l.length → -1 ≤ acc → 0 ≤ i → lastIx l i acc < i + l.length ∧ -1 ≤ lastIx l i acc := by
 induction l with
 | nil => intro i acc h h1 _; exact ⟨h, h1⟩
 | cons x l ih =>
  intro i acc h h1 h0
  simp only [lastIx, List.length_cons] at h ⊢
  have := ih (i + 1) (if x = 47 then i else acc) (by split <;> omega) (by split <;> omega) (by omega)
  omega
def lastS (s : Str) : Int := lastIx s 0 (-1)
theorem lastS_bd (s : Str) : lastS s < s.length ∧ -1 ≤ lastS s := by
 have := lastIx_le s 0 (-1) (by omega) (by omega) (by omega)
 unfold lastS; omega
theorem ref_last_run (a : ByteArray) (ha : a.size ≤ 4294967296) (d : Nat) : ∀ (i : Nat) (acc : Int), a.size - i = d → i ≤ a.size → Ev (fun k => copseref02_last.l0 k a acc (i : Int)) (lastIx ((bs a).drop i) i acc) := by
 induction d with
 | zero =>
  intro i acc hd hi
  refine ⟨1, fun k hk => ?_⟩
  obtain ⟨k, rfl⟩ : ∃ m, k = m + 1 := ⟨k - 1, by omega⟩
  simp only [copseref02_last.l0]
  rw [if_neg (by omega), List.drop_of_length_le (by rw [bs_size]; omega)]; rfl
 | succ d ih =>
  intro i acc hd hi
  rw [bs_drop a i (by omega)]
  by_cases h : bt a (i : Int) = 47
  ·obtain ⟨K, hK⟩ := ih (i + 1) i (by omega) (by omega)
   dsimp only at hK
   refine ⟨K + 1, fun k hk => ?_⟩
   obtain ⟨k, rfl⟩ : ∃ m, k = m + 1 := ⟨k - 1, by omega⟩
   simp only [copseref02_last.l0]
   rw [if_pos (by omega), if_pos (by omega), if_pos h, wrap_succ (n := a.size) (by omega) (by omega), hK k (by omega), (bt_eq a i (by omega) 47 47 rfl).1 h]
   simp [lastIx]
  ·obtain ⟨K, hK⟩ := ih (i + 1) acc (by omega) (by omega)
   dsimp only at hK
   refine ⟨K + 1, fun k hk => ?_⟩
   obtain ⟨k, rfl⟩ : ∃ m, k = m + 1 := ⟨k - 1, by omega⟩
   simp only [copseref02_last.l0]
   have h' : (bs a)[i]'(by rw [bs_size]; omega) ≠ 47 := fun e => h ((bt_eq a i (by omega) 47 47 rfl).2 e)
   rw [if_pos (by omega), if_pos (by omega), if_neg h, wrap_succ (n := a.size) (by omega) (by omega), hK k (by omega)]
   simp [lastIx, h']
theorem ref_last (a : ByteArray) (ha : a.size ≤ 4294967296) : Ev (fun k => copseref02_last.f k a) (lastS (bs a)) :=
 Ev.val (ref_last_run a ha a.size 0 (-1) (by omega) (by omega)) rfl
theorem prog_last_run (a : ByteArray) (ha : a.size ≤ 4294967296) : ∀ j : Nat, j ≤ a.size → Ev (fun k => bytealg_LastIndexByteString.l0 k a 47 ((j : Int) - 1)) (lastIx ((bs a).take j) 0 (-1))
 | 0, _ => by
  refine ⟨1, fun k hk => ?_⟩
  obtain ⟨k, rfl⟩ : ∃ m, k = m + 1 := ⟨k - 1, by omega⟩
  simp only [bytealg_LastIndexByteString.l0]
  rw [if_neg (by omega)]; rfl
 | j + 1, hj => by
  have hlen : j < (bs a).length := by rw [bs_size]; omega
  rw [List.take_succ_eq_append_getElem hlen, lastIx_snoc]
  have ej : ((j + 1 : Nat) : Int) - 1 = (j : Int) := by omega
  rw [ej]
  by_cases h : bt a (j : Int) = 47
  ·refine ⟨1, fun k hk => ?_⟩
   obtain ⟨k, rfl⟩ : ∃ m, k = m + 1 := ⟨k - 1, by omega⟩
   simp only [bytealg_LastIndexByteString.l0]
   rw [if_pos (by omega), if_pos (by omega), if_pos (by omega), if_pos h, if_pos ((bt_eq a j (by omega) 47 47 rfl).1 h)]
   congr 1; rw [List.length_take]; omega
  ·obtain ⟨K, hK⟩ := prog_last_run a ha j (by omega)
   dsimp only at hK
   refine ⟨K + 1, fun k hk => ?_⟩
   obtain ⟨k, rfl⟩ : ∃ m, k = m + 1 := ⟨k - 1, by omega⟩
   simp only [bytealg_LastIndexByteString.l0]
   rw [if_pos (by omega), if_pos (by omega), if_pos (by omega), if_neg h, wrap_add (by omega) (by omega), hK k (by omega), if_neg (fun e => h ((bt_eq a j (by omega) 47 47 rfl).2 e))]
theorem prog_last (a : ByteArray) (ha : a.size ≤ 4294967296) : Ev (fun k => strings_LastIndexByte.f k a 47) (lastS (bs a)) := by
 refine Ev.bind (a := lastS (bs a)) (Ev.congr (f := fun k => bytealg_LastIndexByteString.l0 k a 47 ((a.size : Int) - 1)) (fun k => ?_) ?_) (ev_pure fun _ => rfl)
 ·unfold bytealg_LastIndexByteString.f
  rw [wrap_add (by omega) (by omega)]
 ·refine Ev.val (prog_last_run a ha a.size (Nat.le_refl _)) ?_
  rw [List.take_of_length_le (by rw [bs_size]; exact Nat.le_refl _)]; rfl
def dirB (a : ByteArray) : ByteArray := if lastS (bs a) < 0 then mk [] else a.extract 0 (lastS (bs a)).toNat
theorem ref_dir (a : ByteArray) (ha : a.size ≤ 4294967296) : Ev (fun k => copseref02_Dir.f k a) (dirB a) := by
 have hb := lastS_bd (bs a)
 rw [bs_size] at hb
 refine Ev.bind (ref_last a ha) (ev_pure fun k => ?_)
 unfold dirB
 by_cases h : lastS (bs a) < 0
 ·rw [if_pos h, if_pos h]; rfl
 ·rw [if_neg h, if_neg h, if_pos (by omega), if_pos (by omega)]
theorem prog_dir (a : ByteArray) (ha : a.size ≤ 4294967296) : Ev (fun k => path_Dir.f k a) (dirB a) := by
 have hb := lastS_bd (bs a)
 rw [bs_size] at hb
 refine Ev.bind (prog_last a ha) (ev_pure fun k => ?_)
 unfold dirB
 by_cases h : lastS (bs a) < 0
 ·have e : mx 0 (lastS (bs a)) = 0 := by unfold mx; omega
  rw [e, if_pos (by omega), if_pos (by omega), if_pos h]
  congr 1
  apply bs_inj
  rw [Int.toNat_zero, extract_mk, bs_mk]; rfl
 ·have e : mx 0 (lastS (bs a)) = lastS (bs a) := by unfold mx; omega
  rw [e, if_neg h, if_pos (by omega), if_pos (by omega)]
end Go.Proofs.YtehfogjibhnabaaDoor.PAll
namespace Go.Proofs.YtehfogjibhnabaaDoor.PAll
open Go.RowKit Go.Shelf Go.Proofs.YtehfogjibhnabaaDoorW.PrintWords Go.Proofs.YtehfogjibhnabaaDoorW.PrintLast Go.Proofs.YtehfogjibhnabaaDoorW.PrintMore
open Go.Proofs.YtehfogjibhnabaaDoor.Sp Go.Sort
theorem le_lt {a b c : Str} (h : cmpP a b ≤ 0) (k : cmpP b c < 0) : cmpP a c < 0 := by
 by_cases e : cmpP a b = 0
 ·rw [cmpP_eq e]; exact k
 ·exact cmpP_trans (by omega) k
theorem le_le {a b c : Str} (h : cmpP a b ≤ 0) (k : cmpP b c ≤ 0) : cmpP a c ≤ 0 := by
 by_cases e : cmpP b c = 0
 ·rw [← cmpP_eq e]; exact h
 ·have := le_lt h (show cmpP b c < 0 by omega); omega
theorem comp_spec (d : Array Str) (hs : ∀ i j, i < j → j < d.size → 0 ≤ cmpP d[j]! d[i]!) : ∀ m, m ≤ d.size →
  (Lib.compactUpTo d m).Pairwise (fun a b => cmpP a b < 0) ∧ (∀ z, z ∈ Lib.compactUpTo d m ↔ ∃ j, j < m ∧ d[j]! = z) ∧ ∀ z ∈ Lib.compactUpTo d m, cmpP z d[m - 1]! ≤ 0
 | 0, _ => by simp [Lib.compactUpTo]
 | m + 1, hm => by
  obtain ⟨h1, h2, h3⟩ := comp_spec d hs m (by omega)
  have hstep : 0 < m → cmpP d[m - 1]! d[m]! ≤ 0 := fun h0 => by
   have := hs (m - 1) m (by omega) (by omega)
   have := cmpP_neg d[m - 1]! d[m]!
   omega
  rw [Lib.compactUpTo_succ]
  by_cases hk : Lib.keeps d m = true
  ·rw [if_pos hk]
   have hk' : m = 0 ∨ d[m]! ≠ d[m - 1]! := by simpa [Lib.keeps] using hk
   have hlt : ∀ z ∈ Lib.compactUpTo d m, cmpP z d[m]! < 0 := fun z hz => by
    rcases hk' with rfl | hne
    ·simp [Lib.compactUpTo] at hz
    ·rcases Nat.eq_zero_or_pos m with rfl | h0
     ·simp [Lib.compactUpTo] at hz
     ·have := hstep h0
      refine le_lt (h3 z hz) ?_
      have : cmpP d[m - 1]! d[m]! ≠ 0 := fun e => hne (cmpP_eq e).symm
      omega
   refine ⟨List.pairwise_append.2 ⟨h1, List.pairwise_singleton _ _, fun a ha b hb => by rw [List.mem_singleton.1 hb]; exact hlt a ha⟩, fun z => ?_, fun z hz => ?_⟩
   ·rw [List.mem_append, h2, List.mem_singleton]
    constructor
    ·rintro (⟨j, hj, rfl⟩ | rfl)
     ·exact ⟨j, by omega, rfl⟩
     ·exact ⟨m, by omega, rfl⟩
    ·rintro ⟨j, hj, rfl⟩
     by_cases e : j = m
     ·exact .inr (by rw [e])
     ·exact .inl ⟨j, by omega, rfl⟩
   ·rcases List.mem_append.1 hz with hz | hz
    ·have := hlt z hz; simp only [Nat.add_sub_cancel]; omega
    ·rw [List.mem_singleton.1 hz]; simp only [Nat.add_sub_cancel]; rw [cmpP_self]; exact Int.le_refl _
  ·rw [if_neg hk, List.append_nil]
   have hk' : m ≠ 0 ∧ d[m]! = d[m - 1]! := by simpa [Lib.keeps] using hk
   refine ⟨h1, fun z => ?_, fun z hz => by simp only [Nat.add_sub_cancel]; rw [hk'.2]; exact h3 z hz⟩
   rw [h2]
   constructor
   ·rintro ⟨j, hj, rfl⟩; exact ⟨j, by omega, rfl⟩
   ·rintro ⟨j, hj, rfl⟩
    by_cases e : j = m
    ·exact ⟨m - 1, by omega, by rw [e, hk'.2]⟩
    ·exact ⟨j, by omega, rfl⟩
abbrev Sh := { s : ByteArray // s.size < 4294967281 }
instance : Inhabited Sh := ⟨⟨ByteArray.empty, by decide⟩⟩
def encSh (s : Sh) : Value := .string s.1
def cmpSh (x y : Sh) : Int := cB x.1 y.1
theorem ltSh (x y : Sh) : ltOf cmpSh x y = true ↔ cB x.1 y.1 < 0 := by unfold ltOf cmpSh; exact decide_eq_true_iff
theorem swoSh : SWO (ltOf cmpSh) where
 irrefl x := by simp [ltOf, cmpSh, cB_self]
 trans x y z h k := (ltSh x z).2 (cB_trans ((ltSh x y).1 h) ((ltSh y z).1 k))
 ntrans x y z h k := by
  have h' : ¬ cB x.1 y.1 < 0 := fun e => by rw [(ltSh x y).2 e] at h; cases h
  have k' : ¬ cB y.1 z.1 < 0 := fun e => by rw [(ltSh y z).2 e] at k; cases k
  rw [← Bool.not_eq_true, ltSh]
  have h1 := cB_neg x.1 y.1
  have k1 := cB_neg y.1 z.1
  intro e
  have e1 := cB_neg x.1 z.1
  have : cmpP (bs z.1) (bs x.1) ≤ 0 := le_le (b := bs y.1) (by show cB z.1 y.1 ≤ 0; omega) (by show cB y.1 x.1 ≤ 0; omega)
  have : cB z.1 x.1 ≤ 0 := this
  omega
theorem compact_sorted (d : Array Sh) (hs : SortedIn (ltOf cmpSh) 0 d.size d) (l : List ByteArray) (hp : (d.toList.map (·.1)).Perm l) :
  (Lib.compact (d.toList.map fun s : Sh => bs s.1)).map mk = norm l := by
 have hsz : ((d.toList.map fun s : Sh => bs s.1).toArray).size = d.size := by simp
 have hget : ∀ j, j < d.size → ((d.toList.map fun s : Sh => bs s.1).toArray)[j]! = bs d[j]!.1 := fun j hj => by
  rw [getElem!_pos _ j (by simpa using hj), getElem!_pos d j hj]; simp
 obtain ⟨h1, h2, _⟩ := comp_spec (d.toList.map fun s : Sh => bs s.1).toArray (fun i j hij hj => by
  rw [hsz] at hj
  rw [hget j hj, hget i (by omega)]
  have := hs i j (Nat.zero_le _) hij hj
  have h3 : ¬ cB d[j]!.1 d[i]!.1 < 0 := fun e => by rw [(ltSh _ _).2 e] at this; cases this
  show 0 ≤ cB d[j]!.1 d[i]!.1
  omega) (d.toList.map fun s : Sh => bs s.1).toArray.size (Nat.le_refl _)
 refine (norm_is ?_ fun z => ?_).symm
 ·refine List.pairwise_map.2 ?_
  have : Lib.compact (d.toList.map fun s : Sh => bs s.1) = Lib.compactUpTo (d.toList.map fun s : Sh => bs s.1).toArray (d.toList.map fun s : Sh => bs s.1).toArray.size := by simp [Lib.compact]
  rw [this]
  exact h1.imp fun {a b} h => by show cmpP (bs (mk a)) (bs (mk b)) < 0; rw [bs_mk, bs_mk]; exact h
 ·have : Lib.compact (d.toList.map fun s : Sh => bs s.1) = Lib.compactUpTo (d.toList.map fun s : Sh => bs s.1).toArray (d.toList.map fun s : Sh => bs s.1).toArray.size := by simp [Lib.compact]
  rw [this, List.mem_map]
  rw [← hp.mem_iff]
  constructor
  ·rintro ⟨y, hy, rfl⟩
   obtain ⟨j, hj, rfl⟩ := (h2 y).1 hy
   rw [hsz] at hj
   rw [hget j hj, mk_bs, getElem!_pos d j hj]
   exact List.mem_map.2 ⟨d[j], by simp, rfl⟩
  ·intro hz
   obtain ⟨s, hs', rfl⟩ := List.mem_map.1 hz
   obtain ⟨j, hj, rfl⟩ := List.getElem_of_mem hs'
   have hj' : j < d.size := by simpa using hj
   exact ⟨bs d[j].1, (h2 _).2 ⟨j, by rw [hsz]; exact hj', by rw [hget j hj', getElem!_pos d j hj']⟩, by rw [mk_bs]; simp⟩
theorem heap_putRow {α : Type} [Inhabited α] (enc : α → Value) (w : World) (g off : Nat) (d : Array α) {c : Array Value} {e : TypeId} {fr : Nat × Nat} (h : w.heap[g]? = some (.cells c e fr)) : (putRow enc w g off d).heap[g]? = some (.cells (putCells enc off d c) e fr) := by
 unfold putRow mapBlock
 simp [Array.getElem?_modify, h, onCells]
theorem heap_putRow_other {α : Type} [Inhabited α] (enc : α → Value) (w : World) (g off : Nat) (d : Array α) {k : Nat} (h : k ≠ g) : (putRow enc w g off d).heap[k]? = w.heap[k]? := by
 unfold putRow mapBlock
 simp [Array.getElem?_modify, Ne.symm h]
theorem size_putCells {α : Type} [Inhabited α] (enc : α → Value) (off : Nat) (d : Array α) (c : Array Value) : (putCells enc off d c).size = c.size := by simp [putCells]
theorem below_putRow {α : Type} [Inhabited α] (enc : α → Value) {w W : World} {B : Nat} (g off : Nat) (d : Array α) (hb : Below B w W) (hg : B ≤ g) : Below B w (putRow enc W g off d) :=
 ⟨hb.os, hb.tape, hb.output, by rw [show (putRow enc W g off d).heap.size = W.heap.size by simp [putRow, mapBlock]]; exact hb.size, fun k hk => (heap_putRow_other enc W g off d (by omega)).trans (hb.block k hk)⟩
theorem below_ahead {w W : World} {B : Nat} (n : Nat) (hb : Below B w W) : Below B w (Sort.ahead W n) := ⟨hb.os, hb.tape, hb.output, hb.size, hb.block⟩
theorem below_grow {w W : World} {B : Nat} (os : Array Obj) (hb : Below B w W) (hB : B ≤ W.heap.size) : Below B w (grow W os) :=
 ⟨hb.os, hb.tape, hb.output, by rw [size_grow]; have := hb.size; omega, fun k hk => (heap_grow_old W os (by omega)).trans (hb.block k hk)⟩
theorem take_putCells (l : List ByteArray) (n : Nat) (d : Array Str) (c : Array Value) (hl : l.length = n) (hn : n ≤ d.size) (hc : d.size ≤ c.size) (hd : ∀ j, j < n → d[j]! = bs (l.getD j ByteArray.empty)) : ((putCells encStr 0 d c).toList.take n) = l.map Value.string := by
 apply List.ext_getElem
 ·simp [size_putCells]; omega
 ·intro i h1 h2
  have hi : i < n := by simpa [hl] using h2
  have e : (putCells encStr 0 d c)[i]? = some (.string (l.getD i ByteArray.empty)) := by
   unfold putCells
   rw [Array.getElem?_mapIdx, Array.getElem?_eq_getElem (by omega), Option.map_some, if_pos ⟨by omega, by omega⟩, Nat.sub_zero, hd i hi]
   show some (Value.string (mk (bs (l.getD i ByteArray.empty)))) = _
   rw [mk_bs]
  simp only [List.getElem_take, List.getElem_map, Array.getElem_toList]
  have hi' : i < (putCells encStr 0 d c).size := by rw [size_putCells]; omega
  rw [Array.getElem?_eq_getElem hi'] at e
  rw [Option.some.inj e]
  simp [List.getD_eq_getElem?_getD, List.getElem?_eq_getElem (show i < l.length by omega)]
def paths_Norm.f (_k : Nat) (l0 : List ByteArray) : Option (List ByteArray) := if l0.length < 8796093022208 ∧ ∀ x ∈ l0, x.size < 4294967281 then some (norm l0) else none
theorem paths_Norm.mono : ∀ a0 k, LeO (paths_Norm.f k a0) (paths_Norm.f (k + 1) a0) := fun _ _ => LeO.refl _
theorem cmpLays (g n : Nat) (w : World) : CmpLays1 Tryd.prog 50 #[] encSh cmpSh g 0 n w := fun m os dk _ x y => by
 have h := cmp_gr x.1 y.1 x.2 y.2 (sortWorld encSh w g 0 m dk os)
 exact h
theorem holds_sh {w : World} {g cap n : Nat} {base : Nat} {l : List ByteArray} (h : w.ownsRow base 9 1 (.slice (some ⟨g, 0, none⟩) n cap) n (encs Value.string l)) (d : Array Sh) (hd : d.toList.map (·.1) = l) : Holds encSh w g 0 d := by
 intro j hj
 have hl : l.length = d.size := by rw [← hd]; simp
 have hn : l.length = n := by have := h.1; simp [encs] at this; exact this
 obtain ⟨h1, h2⟩ := own_at_of (d := ByteArray.empty) h (j : Int) (by omega) (by omega)
 have e : rdOf ByteArray.empty l (j : Int) = d[j]!.1 := by
  rw [rdOf_getD, ← hd, getElem!_pos d j hj]
  simp [List.getD_eq_getElem?_getD, hj]
 simp only [Int.toNat_natCast] at h1 h2
 rw [Nat.zero_add]
 exact ⟨by rw [h1, e]; rfl, h2⟩
theorem holds_map {w : World} {g : Nat} {d : Array Sh} (h : Holds encSh w g 0 d) : Holds encStr w g 0 (d.toList.map fun s : Sh => bs s.1).toArray := by
 intro j hj
 have hj' : j < d.size := by simpa using hj
 refine ⟨?_, (h j hj').2⟩
 rw [(h j hj').1, getElem!_pos (d.toList.map fun s : Sh => bs s.1).toArray j hj, getElem!_pos d j hj']
 show some (Value.string _) = some (Value.string (mk _))
 simp [mk_bs]
def shs (d : Array Sh) : List Str := d.toList.map fun s : Sh => bs s.1
theorem shs_length (d : Array Sh) : (shs d).length = d.size := by unfold shs; rw [List.length_map, Array.length_toList]
theorem holds_map' {w : World} {g : Nat} {d : Array Sh} (h : Holds encSh w g 0 d) : Holds encStr w g 0 (shs d).toArray := holds_map h
theorem own_norm {w1 : World} {base g cap n m : Nat} {l : List ByteArray} (h : w1.ownsRow base 9 1 (.slice (some ⟨g, 0, none⟩) n cap) n (encs Value.string l)) (d : Array Sh) (os : Array Obj) (q : Nat) (r : List ByteArray) (z : Array Str) (hz : z.size = n) (hr : r.length ≤ n) (hzr : ∀ j, j < r.length → z[j]! = bs (r.getD j ByteArray.empty)) (hg : g < w1.heap.size) :
  Kd.R Kd.string 9 (putRow encStr (Sort.ahead (sortWorld encSh w1 g 0 m d os) q) g 0 z) base (fun _ => True) (.slice (some ⟨g, 0, none⟩) r.length cap) r := by
 obtain ⟨_, h2⟩ := h
 rcases h2 with ⟨h', _⟩ | ⟨g', cap', cur, h', hb, hh, h3, h4, h5, h6⟩
 ·cases h'
 ·obtain ⟨rfl, rfl⟩ : g = g' ∧ cap = cap' := by
   injection h' with h1 h2 h3
   injection h1 with h1
   injection h1 with h1
   exact ⟨h1, h3⟩
  have e1 : (putRow encStr (Sort.ahead (sortWorld encSh w1 g 0 m d os) q) g 0 z).heap[g]? = some (.cells (putCells encStr 0 z (putCells encSh 0 d cur)) 9 (0, 0)) := by
   refine heap_putRow encStr _ g 0 z ?_
   show (sortWorld encSh w1 g 0 m d os).heap[g]? = _
   unfold sortWorld
   rw [heap_grow_old _ _ (by simpa [putRow, mapBlock, Sort.ahead] using hg)]
   exact heap_putRow encSh _ g 0 d hh
  refine ⟨fun _ _ => trivial, r.map Value.string, ⟨by rw [List.length_map]; exact (Nat.mul_one _).symm, .inr ⟨g, cap, _, rfl, hb, e1, by omega, h4, by rw [size_putCells, size_putCells]; exact h5, ?_⟩⟩, reps_strs (M := Kd.string.M _ _ _) (fun _ => rfl) r⟩
  show (putCells encStr 0 z (putCells encSh 0 d cur)).toList.take (r.length * 1) = _
  rw [Nat.mul_one]
  exact take_putCells r r.length z _ rfl (by omega) (by rw [size_putCells]; omega) hzr
theorem sort_none (p : Option Addr) (cap : Nat) (w : World) : Calls Tryd.prog 93 #[.slice p 0 cap, .func (.func 50) #[] #[]] w fun e w' => e = .returned (.tuple #[]) ∧ w' = w :=
 AnyF.slices_SortFunc_none (P := Tryd.prog) (ρ := Tryd.laysSlF6_f93_ren) { Tryd.laysSlF6_f93 with } p cap (.func (.func 50) #[] #[]) w
end Go.Proofs.YtehfogjibhnabaaDoor.PAll
namespace Go.Proofs.YtehfogjibhnabaaDoor.PAll
open Go.RowKit Go.Proofs.YtehfogjibhnabaaDoorW.PrintWords Go.Proofs.YtehfogjibhnabaaDoorW.PrintLast Go.Proofs.YtehfogjibhnabaaDoorW.PrintMore
open Go.Proofs.YtehfogjibhnabaaDoor.Sp
abbrev Fits (l : List ByteArray) : Prop := ∀ p ∈ l, p.size ≤ 1073741824
theorem Fits.at_ {l : List ByteArray} (h : Fits l) {i : Nat} (hi : i < l.length) : (rdOf ByteArray.empty l (i : Int)).size ≤ 1073741824 :=
 h _ (List.mem_of_mem_drop (i := i) (by rw [rdOf_drop l i hi]; exact List.mem_cons_self))
def put (x : ByteArray) : List ByteArray → List ByteArray
 | [] => [x]
 | y :: l => if cB x y < 0 then x :: y :: l else y :: put x l
end Go.Proofs.YtehfogjibhnabaaDoor.PAll
namespace Go.Proofs.YtehfogjibhnabaaDoor.PAll
open Go.RowKit Go.Proofs.YtehfogjibhnabaaDoorW.PrintWords Go.Proofs.YtehfogjibhnabaaDoorW.PrintLast Go.Proofs.YtehfogjibhnabaaDoorW.PrintMore
open Go.Proofs.YtehfogjibhnabaaDoor.Sp
def okc (v : Int) : Bool := (decide (97 ≤ v) && decide (v ≤ 122)) || (decide (65 ≤ v) && decide (v ≤ 90)) || (decide (48 ≤ v) && decide (v ≤ 57)) || decide (v = 46) || decide (v = 95) || decide (v = 45)
def compB (a : ByteArray) : Bool := !(bs a == []) && decide (a.size ≤ 32) && !(bs a == [46]) && !(bs a == [46, 46]) && !(bs a == [46, 46, 46]) && (bs a).all (fun c => okc (c.toNat : Int))
def validB (a : ByteArray) : Bool := decide (a.size ≤ 120) && decide ((pB a).length ≤ 12) && (pB a).all compB
theorem comp_run (a : ByteArray) (ha : a.size ≤ 4294967296) (d : Nat) : ∀ i, a.size - i = d → i ≤ a.size → Ev (fun k => path_Component.l0 k a (a.size : Int) (i : Int)) (((bs a).drop i).all fun c => okc (c.toNat : Int)) := by
 induction d with
 | zero =>
  intro i hd hi
  refine ⟨1, fun k hk => ?_⟩
  obtain ⟨k, rfl⟩ : ∃ m, k = m + 1 := ⟨k - 1, by omega⟩
  simp only [path_Component.l0]
  rw [if_neg (by omega), List.drop_of_length_le (by rw [bs_size]; omega)]; rfl
 | succ d ih =>
  intro i hd hi
  have hv := bt_get a i (by omega)
  obtain ⟨K, hK⟩ := ih (i + 1) (by omega) (by omega)
  rw [bs_drop a i (by omega), List.all_cons, ← hv]
  dsimp only at hK
  refine ⟨K + 1, fun k hk => ?_⟩
  obtain ⟨k, rfl⟩ : ∃ m, k = m + 1 := ⟨k - 1, by omega⟩
  have hk1 := hK k (by omega)
  simp only [path_Component.l0]
  rw [if_pos (by omega), if_pos (by omega), if_pos (by omega), wrap_succ (n := a.size) (by omega) (by omega), hk1]
  clear hk1 hK hv ih
  generalize bt a (i : Int) = v
  generalize (((bs a).drop (i + 1)).all fun c => okc (c.toNat : Int)) = R
  by_cases h : okc v = true
  ·rw [h, Bool.true_and]
   simp only [okc, Bool.or_eq_true, Bool.and_eq_true, decide_eq_true_eq] at h
   repeat' split
   all_goals first | rfl | (exfalso; omega)
  ·rw [Bool.not_eq_true] at h
   rw [h, Bool.false_and]
   simp only [okc, Bool.or_eq_false_iff, Bool.and_eq_false_iff, decide_eq_false_iff_not] at h
   repeat' split
   all_goals first | rfl | (exfalso; omega)
theorem prog_comp (a : ByteArray) (ha : a.size ≤ 4294967296) : Ev (fun k => path_Component.f k a) (compB a) := by
 have hj : Ev (fun k => path_Component.j0 k a true) false := ⟨1, fun k hk => by
  obtain ⟨k, rfl⟩ : ∃ m, k = m + 1 := ⟨k - 1, by omega⟩
  simp [path_Component.j0]⟩
 unfold path_Component.f compB
 simp only [toList_bs]
 by_cases h1 : bs a = []
 ·simp only [h1, if_true]; exact Ev.val hj (by simp)
 ·simp only [if_neg h1]
  by_cases h2 : (a.size : Int) > 32
  ·simp only [if_pos h2]; exact Ev.val hj (by simp; omega)
  ·simp only [if_neg h2]
   by_cases h3 : bs a = [46]
   ·simp only [h3, if_true]; exact Ev.val hj (by simp)
   ·simp only [if_neg h3]
    by_cases h4 : bs a = [46, 46]
    ·simp only [h4, if_true]; exact Ev.val hj (by simp)
    ·simp only [if_neg h4]
     by_cases h5 : bs a = [46, 46, 46]
     ·simp only [h5, beq_self_eq_true]; exact Ev.val hj (by simp)
     ·have e5 : (bs a == [46, 46, 46]) = false := beq_eq_false_iff_ne.mpr h5
      simp only [e5]
      obtain ⟨K, hK⟩ := comp_run a ha a.size 0 (by omega) (by omega)
      dsimp only at hK
      refine ⟨K + 1, fun k hk => ?_⟩
      obtain ⟨k, rfl⟩ : ∃ m, k = m + 1 := ⟨k - 1, by omega⟩
      have := hK k (by omega)
      simp only [path_Component.j0, Bool.false_eq_true, if_false]
      rw [show ((0 : Nat) : Int) = 0 from rfl] at this
      rw [this]
      have g2 : a.size ≤ 32 := by omega
      simp [h1, g2, h3, h4]
theorem valid_run (x : List ByteArray) (hx : x.length ≤ 4294967296) (hs : ∀ p ∈ x, p.size ≤ 4294967296) (d : Nat) : ∀ i, x.length - i = d → i ≤ x.length → Ev (fun k => path_Valid.l0 k x (x.length : Int) (i : Int)) ((x.drop i).all compB) := by
 induction d with
 | zero =>
  intro i hd hi
  refine ⟨1, fun k hk => ?_⟩
  obtain ⟨k, rfl⟩ : ∃ m, k = m + 1 := ⟨k - 1, by omega⟩
  simp only [path_Valid.l0]
  rw [if_neg (by omega), List.drop_of_length_le (by omega)]; rfl
 | succ d ih =>
  intro i hd hi
  have hm : rdOf ByteArray.empty x (i : Int) ∈ x := by
   simp only [rdOf, Int.toNat_natCast, List.getD_eq_getElem?_getD, List.getElem?_eq_getElem (show i < x.length by omega), Option.getD_some]; exact List.getElem_mem _
  obtain ⟨K, hK⟩ := ih (i + 1) (by omega) (by omega)
  obtain ⟨K1, hK1⟩ := prog_comp _ (hs _ hm)
  rw [rdOf_drop x i (by omega), List.all_cons]
  dsimp only at hK hK1
  refine ⟨max K K1 + 1, fun k hk => ?_⟩
  obtain ⟨k, rfl⟩ : ∃ m, k = m + 1 := ⟨k - 1, by omega⟩
  simp only [path_Valid.l0]
  rw [if_pos (by omega), if_pos (by omega), if_pos (by omega), hK1 k (by omega), Option.bind_some, wrap_succ (n := x.length) (by omega) (by omega), hK k (by omega)]
  cases compB (rdOf ByteArray.empty x (i : Int)) <;> simp
theorem prog_valid (a : ByteArray) (ha : a.size < 4294967281) : Ev (fun k => path_Valid.f k a) (validB a) := by
 have hj : Ev (fun k => path_Valid.j0 k a true) false := ⟨1, fun k hk => by
  obtain ⟨k, rfl⟩ : ∃ m, k = m + 1 := ⟨k - 1, by omega⟩
  simp [path_Valid.j0]⟩
 unfold path_Valid.f validB
 by_cases h1 : (a.size : Int) > 120
 ·simp only [if_pos h1]; exact Ev.val hj (by simp; omega)
 ·simp only [if_neg h1]
  refine Ev.bind (a := ((pB a).length : Int)) (ev_pure fun k => by unfold path_Depth.f; rw [if_pos ha]) ?_
  by_cases h2 : ((pB a).length : Int) > 12
  ·rw [decide_eq_true h2]; exact Ev.val hj (by simp; omega)
  ·rw [decide_eq_false h2]
   have g1 : a.size ≤ 120 := by omega
   have g2 : (pB a).length ≤ 12 := by omega
   obtain ⟨K, hK⟩ := prog_split a ha
   obtain ⟨K1, hK1⟩ := valid_run (pB a) (by omega) (fun p hp => by have := pB_piece_le a p hp; omega) (pB a).length 0 (by omega) (by omega)
   dsimp only at hK hK1
   refine ⟨max K K1 + 1, fun k hk => ?_⟩
   obtain ⟨k, rfl⟩ : ∃ m, k = m + 1 := ⟨k - 1, by omega⟩
   simp only [path_Valid.j0, Bool.false_eq_true, if_false]
   rw [hK k (by omega), Option.bind_some]
   have := hK1 k (by omega)
   rw [show ((0 : Nat) : Int) = 0 from rfl] at this
   rw [this]
   simp [g1, g2]
def hd1 (c : UInt8) : List Str → List Str
 | [] => [[c]]
 | h :: t => (c :: h) :: t
theorem spl_other {c : UInt8} {r : Str} (h : c ≠ 47) : spl (c :: r) = hd1 c (spl r) := by
 rw [spl, if_neg h]
 cases spl r <;> rfl
theorem spl_append (x y : Str) : spl (x ++ 47 :: y) = spl x ++ spl y := by
 induction x with
 | nil => simp [spl]
 | cons c r ih =>
  rw [List.cons_append]
  by_cases h : c = 47
  ·subst h; simp [spl, ih]
  ·rw [spl_other h, spl_other h, ih]
   cases e : spl r with
   | nil => exact absurd e (spl_ne r)
   | cons p q => rfl
theorem spl_plain (y : Str) (h : (47 : UInt8) ∉ y) : spl y = [y] := by
 induction y with
 | nil => rfl
 | cons c r ih =>
  have hc : c ≠ 47 := fun e => h (by simp [e])
  have hr : (47 : UInt8) ∉ r := fun e => h (by simp [e])
  rw [spl, if_neg hc, ih hr]
theorem last_cut (n : Nat) : ∀ s : Str, s.length = n → (lastS s < 0 → (47 : UInt8) ∉ s) ∧ (0 ≤ lastS s → ∃ x y, s = x ++ 47 :: y ∧ (x.length : Int) = lastS s ∧ (47 : UInt8) ∉ y) := by
 induction n with
 | zero => intro s hs; obtain rfl := List.length_eq_zero_iff.1 hs; refine ⟨fun _ => by simp, fun h => absurd h (by decide)⟩
 | succ n ih =>
  intro s hs
  have hne : s ≠ [] := fun e => by subst e; simp at hs
  have es := List.dropLast_concat_getLast hne
  obtain ⟨l, c, rfl⟩ : ∃ l c, s = l ++ [c] := ⟨_, _, es.symm⟩
  have hl : l.length = n := by simp at hs; exact hs
  have e : lastS (l ++ [c]) = if c = 47 then (0 : Int) + l.length else lastS l := lastIx_snoc l c 0 (-1)
  obtain ⟨i1, i2⟩ := ih l hl
  by_cases h : c = 47
  ·subst h
   rw [if_pos rfl] at e
   refine ⟨fun h => by omega, fun _ => ⟨l, [], by simp, by omega, by simp⟩⟩
  ·rw [if_neg h] at e
   refine ⟨fun h' => ?_, fun h' => ?_⟩
   ·have := i1 (by omega)
    simp [this, Ne.symm h]
   ·obtain ⟨x, y, rfl, hx, hy⟩ := i2 (by omega)
    exact ⟨x, y ++ [c], by simp, by omega, by simp [hy, Ne.symm h]⟩
theorem bs_dir (a : ByteArray) (h : bs (dirB a) ≠ []) : ∃ y, bs a = bs (dirB a) ++ 47 :: y ∧ (47 : UInt8) ∉ y := by
 unfold dirB at h ⊢
 by_cases h0 : lastS (bs a) < 0
 ·rw [if_pos h0, bs_mk] at h; exact absurd rfl h
 ·rw [if_neg h0] at h ⊢
  obtain ⟨x, y, e, hx, hy⟩ := (last_cut _ (bs a) rfl).2 (by omega)
  refine ⟨y, ?_, hy⟩
  rw [extract_mk, bs_mk, List.drop_zero]
  have hn : (lastS (bs a)).toNat = x.length := by omega
  rw [hn]
  conv => rhs; rw [e]
  rw [List.take_left]
  exact e
theorem pB_dir (a : ByteArray) (h : bs (dirB a) ≠ []) : ∃ y, pB a = pB (dirB a) ++ [y] := by
 obtain ⟨y, e, hy⟩ := bs_dir a h
 refine ⟨mk y, ?_⟩
 have hne : bs a ≠ [] := by rw [e]; simp
 unfold pB
 rw [pcs_of hne, pcs_of h, e, spl_append, spl_plain y hy]
 simp
def coneR : Option ByteArray → List ByteArray → Bool
 | _, [] => true
 | none, x :: r => validB x && coneR (some x) r
 | some y, x :: r => validB x && (decide (cB y x < 0) && !aboveB y x) && coneR (some x) r
def before (x : List ByteArray) (i : Nat) : Option ByteArray := if i = 0 then none else some (rdOf ByteArray.empty x ((i - 1 : Nat) : Int))
theorem coneValid_run (x : List ByteArray) (hx : x.length ≤ 4294967296) (hf : Fits x) (d : Nat) : ∀ i, x.length - i = d → i ≤ x.length → Ev (fun k => cone_Valid.l0 k x x (x.length : Int) (i : Int)) (if coneR (before x i) (x.drop i) = true then 0 else 13) := by
 induction d with
 | zero =>
  intro i hd hi
  refine ⟨1, fun k hk => ?_⟩
  obtain ⟨k, rfl⟩ : ∃ m, k = m + 1 := ⟨k - 1, by omega⟩
  simp only [cone_Valid.l0]
  rw [if_neg (by omega), List.drop_of_length_le (by omega)]
  cases before x i <;> simp [coneR]
 | succ d ih =>
  intro i hd hi
  have hs := hf.at_ (show i < x.length by omega)
  obtain ⟨K, hK⟩ := ih (i + 1) (by omega) (by omega)
  obtain ⟨K1, hK1⟩ := prog_valid (rdOf ByteArray.empty x (i : Int)) (by omega)
  rw [rdOf_drop x i (by omega)]
  have hb : before x (i + 1) = some (rdOf ByteArray.empty x (i : Int)) := by simp [before]
  rw [hb] at hK
  dsimp only at hK hK1
  by_cases h0 : i = 0
  ·subst h0
   refine ⟨max K K1 + 1, fun k hk => ?_⟩
   obtain ⟨k, rfl⟩ : ∃ m, k = m + 1 := ⟨k - 1, by omega⟩
   simp only [cone_Valid.l0]
   rw [if_pos (by omega), if_pos (by omega), if_pos (by omega), hK1 k (by omega), Option.bind_some]
   have h1 := hK k (by omega)
   rw [show before x 0 = none from rfl]
   unfold coneR
   cases validB (rdOf ByteArray.empty x ((0 : Nat) : Int)) with
   | false => simp
   | true =>
    rw [if_pos rfl, if_neg (by omega), wrap_succ (n := x.length) (by omega) (by omega), h1]
    simp
  ·have hs1 := hf.at_ (show i - 1 < x.length by omega)
   obtain ⟨K2, hK2⟩ := prog_cmp (rdOf ByteArray.empty x ((i - 1 : Nat) : Int)) (rdOf ByteArray.empty x (i : Int)) (by omega) (by omega)
   obtain ⟨K3, hK3⟩ := prog_above (rdOf ByteArray.empty x ((i - 1 : Nat) : Int)) (rdOf ByteArray.empty x (i : Int)) (by omega) (by omega)
   dsimp only at hK2 hK3
   refine ⟨max K (max K1 (max K2 K3)) + 1, fun k hk => ?_⟩
   obtain ⟨k, rfl⟩ : ∃ m, k = m + 1 := ⟨k - 1, by omega⟩
   have ew : wrap64 ((i : Int) - 1) = ((i - 1 : Nat) : Int) := by rw [wrap_add (by omega) (by omega)]; omega
   simp only [cone_Valid.l0]
   rw [if_pos (by omega), if_pos (by omega), if_pos (by omega), hK1 k (by omega), Option.bind_some, ew]
   have h1 := hK k (by omega)
   rw [show before x i = some (rdOf ByteArray.empty x ((i - 1 : Nat) : Int)) from by simp [before, h0]]
   unfold coneR
   cases validB (rdOf ByteArray.empty x (i : Int)) with
   | false => simp
   | true =>
    rw [if_pos rfl, if_pos (by omega), if_pos (by omega), if_pos (by omega), hK2 k (by omega), Option.bind_some]
    by_cases c1 : cB (rdOf ByteArray.empty x ((i - 1 : Nat) : Int)) (rdOf ByteArray.empty x (i : Int)) < 0
    ·rw [if_neg (by omega), hK3 k (by omega), Option.bind_some]
     cases c2 : aboveB (rdOf ByteArray.empty x ((i - 1 : Nat) : Int)) (rdOf ByteArray.empty x (i : Int)) with
     | true => simp
     | false =>
      rw [if_neg (by simp), wrap_succ (n := x.length) (by omega) (by omega), h1]
      simp [c1]
    ·rw [if_pos (by omega)]
     simp [c1]
theorem coneValid_ev (x : List ByteArray) (hx : x.length ≤ 4294967296) (hf : Fits x) : Ev (fun k => cone_Valid.f k x) (if coneR none x = true then 0 else 13) :=
 Ev.val (coneValid_run x hx hf x.length 0 (by omega) (by omega)) (by rw [show before x 0 = none from rfl, List.drop_zero])
end Go.Proofs.YtehfogjibhnabaaDoor.PAll
namespace Go.Proofs.YtehfogjibhnabaaDoor.PAll
open Go.RowKit Go.Proofs.YtehfogjibhnabaaDoorW.PrintWords Go.Proofs.YtehfogjibhnabaaDoorW.PrintLast Go.Proofs.YtehfogjibhnabaaDoorW.PrintMore
open Go.Proofs.YtehfogjibhnabaaDoor.Sp
def upsN : Nat → ByteArray → List ByteArray
 | 0, _ => []
 | n + 1, d => if bs d = [] then [] else d :: upsN n (dirB d)
theorem dirB_less {a : ByteArray} (h : bs a ≠ []) : (dirB a).size < a.size := by
 have h0 : 0 < a.size := by rw [← bs_size]; exact List.length_pos_iff.2 h
 have hl := lastS_bd (bs a)
 rw [bs_size] at hl
 unfold dirB
 split
 ·rw [← bs_size, bs_mk]; exact h0
 ·rw [extract_mk, ← bs_size, bs_mk]
  simp only [List.drop_zero, List.length_take, bs_size]
  omega
theorem upsN_more : ∀ (n : Nat) (d : ByteArray), d.size < n → upsN (n + 1) d = upsN n d
 | 0, d, h => by omega
 | n + 1, d, h => by
  show (if bs d = [] then [] else d :: upsN (n + 1) (dirB d)) = (if bs d = [] then [] else d :: upsN n (dirB d))
  by_cases h0 : bs d = []
  ·rw [if_pos h0, if_pos h0]
  ·have := dirB_less h0
   rw [if_neg h0, if_neg h0, upsN_more n _ (by omega)]
theorem upsN_le {m n : Nat} {d : ByteArray} (hm : d.size < m) (h : m ≤ n) : upsN n d = upsN m d := by
 induction n with
 | zero => exfalso; omega
 | succ n ih =>
  by_cases e : m = n + 1
  ·subst e; rfl
  ·rw [upsN_more n d (by omega)]; exact ih (by omega)
def ups (d : ByteArray) : List ByteArray := upsN (d.size + 1) d
theorem ups_nil {d : ByteArray} (h : bs d = []) : ups d = [] := by unfold ups; rw [upsN, if_pos h]
theorem ups_cons {d : ByteArray} (h : bs d ≠ []) : ups d = d :: ups (dirB d) := by
 have := dirB_less h
 unfold ups
 rw [upsN, if_neg h]
 congr 1
 exact upsN_le (by omega) (by omega)
theorem ups_length (n : Nat) : ∀ d : ByteArray, d.size ≤ n → (ups d).length ≤ d.size := by
 induction n with
 | zero =>
  intro d h
  have : bs d = [] := List.eq_nil_of_length_eq_zero (by rw [bs_size]; omega)
  rw [ups_nil this]; simp
 | succ n ih =>
  intro d h
  by_cases h0 : bs d = []
  ·rw [ups_nil h0]; simp
  ·have h1 := dirB_less h0
   have := ih (dirB d) (by omega)
   rw [ups_cons h0, List.length_cons]; omega
theorem ups_size (n : Nat) : ∀ d : ByteArray, d.size ≤ n → ∀ x ∈ ups d, x.size ≤ d.size ∧ bs x ≠ [] := by
 induction n with
 | zero =>
  intro d h x hx
  have : bs d = [] := List.eq_nil_of_length_eq_zero (by rw [bs_size]; omega)
  rw [ups_nil this] at hx; simp at hx
 | succ n ih =>
  intro d h x hx
  by_cases h0 : bs d = []
  ·rw [ups_nil h0] at hx; simp at hx
  ·have h1 := dirB_less h0
   rw [ups_cons h0] at hx
   rcases List.mem_cons.1 hx with rfl | hx
   ·exact ⟨Nat.le_refl _, h0⟩
   ·have := ih (dirB d) (by omega) x hx
    exact ⟨by omega, this.2⟩
def dirsT (k : List ByteArray) : List ByteArray := norm (k.flatMap ups)
def lineT (k : List ByteArray) (d : ByteArray) : Str := (47 :: bs d ++ [47, 10]) ++ (if d ∈ k then [] else [33, 47] ++ bs d ++ [47, 42, 47, 10])
def textS (k : List ByteArray) : Str := if k = [⟨#[]⟩] then [47, 42, 10] else [47, 42, 10, 33, 47, 42, 47, 10] ++ (dirsT k).flatMap (lineT k)
def profile_text.f (_k : Nat) (l0 : List ByteArray) : Option ByteArray := if coneR none l0 = true ∧ l0.length ≤ 1048576 then some (mk (textS l0)) else none
theorem profile_text.mono : ∀ a0 k, LeO (profile_text.f k a0) (profile_text.f (k + 1) a0) := fun _ _ => LeO.refl _
def rawN : Nat → Str → List Str
 | 0, _ => []
 | n + 1, s => if s = [] then [] else if Lib.indexByte s 10 < 0 then [s] else s.take ((Lib.indexByte s 10).toNat + 1) :: rawN n (s.drop ((Lib.indexByte s 10).toNat + 1))
def trimS (l : Str) : Str := if l.getLast? = some 10 then l.dropLast else l
def stepN (out : List ByteArray) (l : Str) : List ByteArray :=
 if 2 < l.length ∧ l.head? = some 47 ∧ l.getLast? = some 47 then out ++ [mk ((l.take (l.length - 1)).drop 1)]
 else if out ≠ [] ∧ l = [33, 47] ++ bs (out.getD (out.length - 1) ByteArray.empty) ++ [47, 42, 47] then out.take (out.length - 1) else out
def namedT (s : ByteArray) : List ByteArray := ((rawN (s.size + 1) (bs s)).map trimS).foldl stepN []
def profile_named.f (_k : Nat) (a0 : ByteArray) : Option (List ByteArray) := if a0.size ≤ 65536 then some (namedT a0) else none
theorem profile_named.mono : ∀ a0 k, LeO (profile_named.f k a0) (profile_named.f (k + 1) a0) := fun _ _ => LeO.refl _
end Go.Proofs.YtehfogjibhnabaaDoor.PAll
namespace Go.Proofs.YtehfogjibhnabaaDoor.PAll
open Go.RowKit Go.Proofs.YtehfogjibhnabaaDoorW.PrintWords Go.Proofs.YtehfogjibhnabaaDoorW.PrintLast Go.Proofs.YtehfogjibhnabaaDoorW.PrintMore
open Go.Proofs.YtehfogjibhnabaaDoor.Sp
theorem comL_prefix : ∀ l m : List ByteArray, comL l m = l.length ↔ l <+: m
 | [], m => by simp [comL]
 | x :: l, [] => by simp [comL]
 | x :: l, y :: m => by
  by_cases h : x = y
  ·subst h
   rw [comL_same, List.length_cons, List.cons_prefix_cons]
   have := comL_prefix l m
   constructor
   ·intro e; exact ⟨rfl, this.1 (by omega)⟩
   ·rintro ⟨_, e⟩; rw [this.2 e]
  ·rw [comL_diff h, List.cons_prefix_cons]
   simp [h]
theorem above_iff (a b : ByteArray) : aboveB a b = true ↔ pB a <+: pB b ∧ (pB a).length < (pB b).length := by
 unfold aboveB
 rw [Bool.and_eq_true, decide_eq_true_eq, decide_eq_true_eq, comL_prefix, and_comm]
theorem pre_lt : ∀ A B : List Str, A <+: B → A.length < B.length → cmpL A B < 0
 | [], _ :: _, _, _ => by simp [cmpL]
 | _, [], _, h => by simp at h
 | x :: A, y :: B, h, hl => by
  obtain ⟨e, hp⟩ := List.cons_prefix_cons.1 h
  subst e
  simp only [cmpL, if_true]
  exact pre_lt A B hp (by simpa using hl)
theorem pre_between : ∀ A B C : List Str, A <+: B → cmpL A C < 0 → cmpL C B < 0 → A <+: C
 | [], _, _, _, _, _ => List.nil_prefix
 | _ :: _, [], _, h, _, _ => by simp at h
 | _ :: _, _ :: _, [], _, h, _ => by simp [cmpL] at h
 | x :: A, y :: B, z :: C, h, h1, h2 => by
  obtain ⟨e, hp⟩ := List.cons_prefix_cons.1 h
  subst e
  by_cases e : x = z
  ·subst e
   simp only [cmpL, if_true] at h1 h2
   exact List.cons_prefix_cons.2 ⟨rfl, pre_between A B C hp h1 h2⟩
  ·simp only [cmpL, if_neg e, if_neg (Ne.symm e)] at h1 h2
   have := cmpS_neg x z
   omega
theorem pB_map_prefix {a b : ByteArray} : pB a <+: pB b ↔ pcs (bs a) <+: pcs (bs b) := by
 rw [← pB_bs a, ← pB_bs b]
 constructor
 ·rintro ⟨t, h⟩; exact ⟨t.map bs, by rw [← h, List.map_append]⟩
 ·intro h
  have := h.map mk
  rwa [List.map_map, List.map_map, show mk ∘ bs = id from funext mk_bs, List.map_id, List.map_id] at this
theorem pB_len (a : ByteArray) : (pB a).length = (pcs (bs a)).length := by rw [← pB_bs a, List.length_map]
theorem above_lt {a b : ByteArray} (h : aboveB a b = true) : cB a b < 0 := by
 obtain ⟨h1, h2⟩ := (above_iff a b).1 h
 rw [pB_len, pB_len] at h2
 exact pre_lt _ _ (pB_map_prefix.1 h1) h2
theorem above_self (a : ByteArray) : aboveB a a = false := by
 rw [← Bool.not_eq_true]
 intro h; have := above_lt h; rw [cB_self] at this; omega
theorem above_trans {a b c : ByteArray} (h : aboveB a b = true) (k : aboveB b c = true) : aboveB a c = true := by
 rw [above_iff] at *
 exact ⟨h.1.trans k.1, Nat.lt_trans h.2 k.2⟩
theorem above_between {a b c : ByteArray} (h : aboveB a b = true) (h1 : cB a c < 0) (h2 : cB c b < 0) : aboveB a c = true := by
 rw [above_iff] at *
 have hp := pre_between _ _ _ (pB_map_prefix.1 h.1) h1 h2
 refine ⟨pB_map_prefix.2 hp, ?_⟩
 rcases Nat.lt_or_ge (pB a).length (pB c).length with hl | hl
 ·exact hl
 ·exfalso
  rw [pB_len, pB_len] at hl
  have e := hp.eq_of_length_le hl
  have : cB a c = 0 := by show cmpL _ _ = 0; rw [e, cmpL_self]
  omega
def isHead (l : List ByteArray) (x : ByteArray) : Bool := l.all fun y => !aboveB y x
theorem isHead_iff {l : List ByteArray} {x : ByteArray} : isHead l x = true ↔ ∀ y ∈ l, aboveB y x = false := by
 unfold isHead
 rw [List.all_eq_true]
 simp
def stepH (out : List ByteArray) (p : ByteArray) : List ByteArray := if out.length = 0 then out ++ [p] else if aboveB (out.getD (out.length - 1) ByteArray.empty) p = true then out else out ++ [p]
structure HeadsOf (n1 out : List ByteArray) : Prop where
 rises : Rises out
 mem : ∀ p, p ∈ out ↔ p ∈ n1 ∧ isHead n1 p = true
 cover : ∀ y ∈ n1, ∃ h ∈ out, h = y ∨ aboveB h y = true
theorem last_mem {out : List ByteArray} (h : out.length ≠ 0) : out.getD (out.length - 1) ByteArray.empty ∈ out := by
 rw [List.getD_eq_getElem?_getD, List.getElem?_eq_getElem (by omega), Option.getD_some]; exact List.getElem_mem _
theorem le_last {out : List ByteArray} (hr : Rises out) (_h : out.length ≠ 0) {z : ByteArray} (hz : z ∈ out) : z = out.getD (out.length - 1) ByteArray.empty ∨ cB z (out.getD (out.length - 1) ByteArray.empty) < 0 := by
 obtain ⟨i, hi, rfl⟩ := List.getElem_of_mem hz
 rw [List.getD_eq_getElem?_getD, List.getElem?_eq_getElem (by omega), Option.getD_some]
 by_cases e : i = out.length - 1
 ·left; subst e; rfl
 ·right; exact List.pairwise_iff_getElem.1 hr i (out.length - 1) hi (by omega) (by omega)
theorem HeadsOf.step {n1 out : List ByteArray} (h : HeadsOf n1 out) (p : ByteArray) (hp : ∀ y ∈ n1, cB y p < 0) : HeadsOf (n1 ++ [p]) (stepH out p) := by
 have back : ∀ q ∈ n1, (isHead (n1 ++ [p]) q = true ↔ isHead n1 q = true) := fun q hq => by
  rw [isHead_iff, isHead_iff]
  constructor
  ·intro k y hy; exact k y (List.mem_append_left _ hy)
  ·intro k y hy
   rcases List.mem_append.1 hy with hy | hy
   ·exact k y hy
   ·rw [List.mem_singleton.1 hy, ← Bool.not_eq_true]
    intro e; have h1 := above_lt e; have h2 := hp q hq; have := cB_neg p q; omega
 have keep : (∃ y ∈ n1, aboveB y p = true) → out.length ≠ 0 ∧ aboveB (out.getD (out.length - 1) ByteArray.empty) p = true := by
  rintro ⟨y, hy, hyp⟩
  obtain ⟨g, hg, hgy⟩ := h.cover y hy
  have hgp : aboveB g p = true := by
   rcases hgy with rfl | hgy
   ·exact hyp
   ·exact above_trans hgy hyp
  have hne : out.length ≠ 0 := fun e => by rw [List.eq_nil_of_length_eq_zero e] at hg; cases hg
  refine ⟨hne, ?_⟩
  rcases le_last h.rises hne hg with e | hlt
  ·rw [← e]; exact hgp
  ·have hz := (h.mem _).1 (last_mem hne)
   have := above_between hgp hlt (hp _ hz.1)
   have k := isHead_iff.1 hz.2 g ((h.mem g).1 hg).1
   rw [this] at k; cases k
 by_cases c : ∃ y ∈ n1, aboveB y p = true
 ·obtain ⟨h1, h2⟩ := keep c
  have e : stepH out p = out := by unfold stepH; rw [if_neg h1, if_pos h2]
  rw [e]
  refine ⟨h.rises, fun q => ?_, fun y hy => ?_⟩
  ·rw [h.mem]
   constructor
   ·rintro ⟨hq, hh⟩; exact ⟨List.mem_append_left _ hq, (back q hq).2 hh⟩
   ·rintro ⟨hq, hh⟩
    rcases List.mem_append.1 hq with hq | hq
    ·exact ⟨hq, (back q hq).1 hh⟩
    ·rw [List.mem_singleton.1 hq] at hh
     obtain ⟨y, hy, hyp⟩ := c
     have := isHead_iff.1 hh y (List.mem_append_left _ hy)
     rw [hyp] at this; cases this
  ·rcases List.mem_append.1 hy with hy | hy
   ·exact h.cover y hy
   ·rw [List.mem_singleton.1 hy]; exact ⟨_, last_mem h1, .inr h2⟩
 ·have hnot : ∀ y ∈ n1, aboveB y p = false := fun y hy => by rw [← Bool.not_eq_true]; exact fun e => c ⟨y, hy, e⟩
  have e : stepH out p = out ++ [p] := by
   unfold stepH
   by_cases h0 : out.length = 0
   ·rw [if_pos h0]
   ·rw [if_neg h0, if_neg (by rw [hnot _ ((h.mem _).1 (last_mem h0)).1]; decide)]
  rw [e]
  refine ⟨List.pairwise_append.2 ⟨h.rises, List.pairwise_singleton _ _, fun a ha b hb => by rw [List.mem_singleton.1 hb]; exact hp a ((h.mem a).1 ha).1⟩, fun q => ?_, fun y hy => ?_⟩
  ·rw [List.mem_append, List.mem_append, h.mem, List.mem_singleton]
   constructor
   ·rintro (⟨hq, hh⟩ | rfl)
    ·exact ⟨.inl hq, (back q hq).2 hh⟩
    ·refine ⟨.inr rfl, isHead_iff.2 fun y hy => ?_⟩
     rcases List.mem_append.1 hy with hy | hy
     ·exact hnot y hy
     ·rw [List.mem_singleton.1 hy]; exact above_self q
   ·rintro ⟨hq | rfl, hh⟩
    ·exact .inl ⟨hq, (back q hq).1 hh⟩
    ·exact .inr rfl
  ·rcases List.mem_append.1 hy with hy | hy
   ·obtain ⟨g, hg, hgy⟩ := h.cover y hy
    exact ⟨g, List.mem_append_left _ hg, hgy⟩
   ·exact ⟨p, by simp, .inl (List.mem_singleton.1 hy).symm⟩
end Go.Proofs.YtehfogjibhnabaaDoor.PAll
namespace Go.Proofs.YtehfogjibhnabaaDoor.PAll
open Go.RowKit Go.Proofs.YtehfogjibhnabaaDoorW.PrintWords Go.Proofs.YtehfogjibhnabaaDoorW.PrintLast Go.Proofs.YtehfogjibhnabaaDoorW.PrintMore
open Go.Proofs.YtehfogjibhnabaaDoor.Sp
def chainR {α : Type} (ok : α → Bool) (key : α → ByteArray) : Option ByteArray → List α → Bool
 | _, [] => true
 | none, x :: r => ok x && chainR ok key (some (key x)) r
 | some y, x :: r => ok x && (decide (cB y (key x) < 0) && !aboveB y (key x)) && chainR ok key (some (key x)) r
abbrev Apart2 (a b : ByteArray) : Prop := cB a b < 0 ∧ aboveB a b = false
theorem coneR_chain : ∀ (o : Option ByteArray) (l : List ByteArray), coneR o l = chainR validB id o l
 | o, [] => by cases o <;> rfl
 | o, x :: r => by have := coneR_chain (some x) r; cases o <;> simp [coneR, chainR, this]
theorem apart_next {y x z : ByteArray} (h : Apart2 y x) (k : Apart2 x z) : Apart2 y z := by
 refine ⟨cB_trans h.1 k.1, ?_⟩
 cases e : aboveB y z with
 | false => rfl
 | true => exact absurd (above_between e h.1 k.1) (by rw [h.2]; simp)
theorem chain_all {α : Type} (ok : α → Bool) (key : α → ByteArray) : ∀ (l : List α) (o : Option ByteArray), chainR ok key o l = true ↔ (∀ x ∈ l, ok x = true) ∧ l.Pairwise (fun a b => Apart2 (key a) (key b)) ∧ (∀ y, o = some y → ∀ x ∈ l, Apart2 y (key x))
 | [], o => by cases o <;> simp [chainR]
 | x :: r, o => by
  have ih := chain_all ok key r (some (key x))
  have core : ∀ (hx : ok x = true), chainR ok key (some (key x)) r = true ↔ (∀ z ∈ x :: r, ok z = true) ∧ (x :: r).Pairwise (fun a b => Apart2 (key a) (key b)) := fun hx => by
   rw [ih, List.pairwise_cons]
   constructor
   ·rintro ⟨h1, h2, h3⟩
    exact ⟨fun z hz => by rcases List.mem_cons.1 hz with rfl | hz; exact hx; exact h1 z hz, fun z hz => h3 _ rfl z hz, h2⟩
   ·rintro ⟨h1, h2, h3⟩
    exact ⟨fun z hz => h1 z (List.mem_cons_of_mem _ hz), h3, fun y e z hz => by cases e; exact h2 z hz⟩
  cases o with
  | none =>
   simp only [chainR, Bool.and_eq_true]
   constructor
   ·rintro ⟨hx, h⟩
    obtain ⟨h1, h2⟩ := (core hx).1 h
    exact ⟨h1, h2, fun y e => by cases e⟩
   ·rintro ⟨h1, h2, _⟩
    have hx := h1 x List.mem_cons_self
    exact ⟨hx, (core hx).2 ⟨h1, h2⟩⟩
  | some y =>
   simp only [chainR, Bool.and_eq_true, decide_eq_true_eq, Bool.not_eq_true']
   constructor
   ·rintro ⟨⟨hx, hy⟩, h⟩
    obtain ⟨h1, h2⟩ := (core hx).1 h
    refine ⟨h1, h2, fun y' e z hz => ?_⟩
    cases e
    rcases List.mem_cons.1 hz with rfl | hz
    ·exact hy
    ·exact apart_next hy ((List.pairwise_cons.1 h2).1 z hz)
   ·rintro ⟨h1, h2, h3⟩
    have hx := h1 x List.mem_cons_self
    exact ⟨⟨hx, h3 y rfl x List.mem_cons_self⟩, (core hx).2 ⟨h1, h2⟩⟩
theorem cone_all (l : List ByteArray) : coneR none l = true ↔ (∀ x ∈ l, validB x = true) ∧ l.Pairwise Apart2 := by
 rw [coneR_chain, chain_all]
 constructor
 ·rintro ⟨h1, h2, _⟩; exact ⟨h1, h2⟩
 ·rintro ⟨h1, h2⟩; exact ⟨h1, h2, fun y e => by cases e⟩
end Go.Proofs.YtehfogjibhnabaaDoor.PAll
namespace Go.Proofs.YtehfogjibhnabaaDoor.PAll
open Go.RowKit Go.Proofs.YtehfogjibhnabaaDoorW.PrintWords Go.Proofs.YtehfogjibhnabaaDoorW.PrintLast Go.Proofs.YtehfogjibhnabaaDoorW.PrintMore
open Go.Proofs.YtehfogjibhnabaaDoor.Sp
theorem rd_mem (l : List ByteArray) (i : Nat) (h : i < l.length) : rdOf ByteArray.empty l (i : Int) ∈ l := by
 simp only [rdOf, Int.toNat_natCast, List.getD_eq_getElem?_getD, List.getElem?_eq_getElem h, Option.getD_some]; exact List.getElem_mem _
theorem above_root {d : ByteArray} (h : bs d ≠ []) : aboveB (⟨#[]⟩ : ByteArray) d = true := by
 rw [above_iff]
 have e : pB (⟨#[]⟩ : ByteArray) = [] := pB_nil rfl
 rw [e]
 refine ⟨List.nil_prefix, ?_⟩
 rw [pB_len, pcs_of h, List.length_nil]
 exact List.length_pos_iff.2 (spl_ne _)
end Go.Proofs.YtehfogjibhnabaaDoor.PAll
namespace Go.Proofs.YtehfogjibhnabaaDoor.PAll
open Go.RowKit Go.Proofs.YtehfogjibhnabaaDoorW.PrintWords Go.Proofs.YtehfogjibhnabaaDoorW.PrintLast Go.Proofs.YtehfogjibhnabaaDoorW.PrintMore
open Go.Proofs.YtehfogjibhnabaaDoor.Sp
theorem mem_joinS {c : UInt8} : ∀ {l : List Str}, c ∈ joinS l → c = 47 ∨ ∃ x ∈ l, c ∈ x
 | [], h => by simp [joinS] at h
 | [a], h => .inr ⟨a, List.mem_singleton.2 rfl, h⟩
 | a :: b :: r, h => by
  have h' : c ∈ a ++ 47 :: joinS (b :: r) := h
  rcases List.mem_append.1 h' with h | h
  ·exact .inr ⟨a, List.mem_cons_self, h⟩
  ·rcases List.mem_cons.1 h with h | h
   ·exact .inl h
   ·rcases mem_joinS h with h | ⟨x, hx, h⟩
    ·exact .inl h
    ·exact .inr ⟨x, List.mem_cons_of_mem _ hx, h⟩
theorem valid_free {d : ByteArray} (h : validB d = true) : (10 : UInt8) ∉ bs d := fun hm => by
 rw [← join_pcs (bs d)] at hm
 rcases mem_joinS hm with e | ⟨x, hx, hc⟩
 ·exact absurd e (by decide)
 ·rw [← pB_bs] at hx
  obtain ⟨p, hp, rfl⟩ := List.mem_map.1 hx
  unfold validB at h
  simp only [Bool.and_eq_true, List.all_eq_true] at h
  have h1 := h.2 p hp
  unfold compB at h1
  simp only [Bool.and_eq_true, List.all_eq_true] at h1
  have := h1.2 10 hc
  exact absurd this (by decide)
theorem valid_size {d : ByteArray} (h : validB d = true) : d.size ≤ 120 := by
 unfold validB at h
 simp only [Bool.and_eq_true, decide_eq_true_eq] at h
 exact h.1.1
theorem dirB_mem {d : ByteArray} {c : UInt8} (h : c ∈ bs (dirB d)) : c ∈ bs d := by
 unfold dirB at h
 split at h
 ·rw [bs_mk] at h; simp at h
 ·rw [extract_mk, bs_mk, List.drop_zero] at h
  exact List.mem_of_mem_take h
theorem ups_mem (n : Nat) : ∀ d : ByteArray, d.size ≤ n → ∀ x ∈ ups d, ∀ c ∈ bs x, c ∈ bs d := by
 induction n with
 | zero =>
  intro d h x hx
  have : bs d = [] := List.eq_nil_of_length_eq_zero (by rw [bs_size]; omega)
  rw [ups_nil this] at hx; simp at hx
 | succ n ih =>
  intro d h x hx c hc
  by_cases h0 : bs d = []
  ·rw [ups_nil h0] at hx; simp at hx
  ·have h1 := dirB_less h0
   rw [ups_cons h0] at hx
   rcases List.mem_cons.1 hx with rfl | hx
   ·exact hc
   ·exact dirB_mem (ih (dirB d) (by omega) x hx c hc)
theorem mem_dirsT {k : List ByteArray} {x : ByteArray} : x ∈ dirsT k ↔ ∃ d ∈ k, x ∈ ups d := by
 unfold dirsT; rw [mem_norm, List.mem_flatMap]
theorem self_ups {d : ByteArray} (h : bs d ≠ []) : d ∈ ups d := by rw [ups_cons h]; exact List.mem_cons_self
def joinL (L : List Str) : Str := L.flatMap (· ++ [10])
theorem index_at {l r : Str} (h : (10 : UInt8) ∉ l) : Lib.indexByte (l ++ 10 :: r) 10 = l.length := by
 induction l with
 | nil => simp [Lib.indexByte]
 | cons c l ih =>
  have hc : c ≠ 10 := fun e => h (by rw [e]; exact List.mem_cons_self)
  have := ih fun hm => h (List.mem_cons_of_mem _ hm)
  show Lib.indexByte (c :: (l ++ 10 :: r)) 10 = _
  unfold Lib.indexByte
  rw [if_neg (by simpa using hc), this]
  simp
theorem rawN_join : ∀ (L : List Str) (n : Nat), (joinL L).length < n → (∀ l ∈ L, (10 : UInt8) ∉ l) → rawN n (joinL L) = L.map (· ++ [10])
 | [], n, hn, _ => by
  obtain ⟨n, rfl⟩ : ∃ m, n = m + 1 := ⟨n - 1, by simp [joinL] at hn; omega⟩
  simp [joinL, rawN]
 | l :: L, n, hn, h => by
  obtain ⟨n, rfl⟩ : ∃ m, n = m + 1 := ⟨n - 1, by omega⟩
  have e : joinL (l :: L) = l ++ 10 :: joinL L := by simp [joinL]
  have hi := index_at (r := joinL L) (h l List.mem_cons_self)
  rw [e] at hn ⊢
  unfold rawN
  rw [if_neg (by simp), hi, if_neg (by omega), Int.toNat_natCast]
  have e1 : (l ++ 10 :: joinL L).take (l.length + 1) = l ++ [10] := by
   rw [show l ++ 10 :: joinL L = (l ++ [10]) ++ joinL L by simp]; exact List.take_left' (by simp)
  have e2 : (l ++ 10 :: joinL L).drop (l.length + 1) = joinL L := by
   rw [show l ++ 10 :: joinL L = (l ++ [10]) ++ joinL L by simp]; exact List.drop_left' (by simp)
  rw [e1, e2, rawN_join L n (by simp at hn; omega) fun x hx => h x (List.mem_cons_of_mem _ hx)]
  rfl
theorem trimS_line (l : Str) : trimS (l ++ [10]) = l := by simp [trimS]
def openL (d : ByteArray) : Str := 47 :: bs d ++ [47]
def shutL (d : ByteArray) : Str := [33, 47] ++ bs d ++ [47, 42, 47]
def twoL (k : List ByteArray) (d : ByteArray) : List Str := openL d :: (if d ∈ k then [] else [shutL d])
def linesT (k : List ByteArray) : List Str := [47, 42] :: [33, 47, 42, 47] :: (dirsT k).flatMap (twoL k)
theorem joinL_append (a b : List Str) : joinL (a ++ b) = joinL a ++ joinL b := by simp [joinL]
theorem textS_lines {k : List ByteArray} (h : k ≠ [⟨#[]⟩]) : textS k = joinL (linesT k) := by
 unfold textS linesT
 rw [if_neg h]
 have e : ∀ D : List ByteArray, joinL (D.flatMap (twoL k)) = D.flatMap (lineT k) := by
  intro D
  induction D with
  | nil => rfl
  | cons d D ih =>
   rw [List.flatMap_cons, List.flatMap_cons, joinL_append, ih]
   congr 1
   unfold twoL lineT openL shutL
   by_cases hd : d ∈ k <;> simp [joinL, hd]
 show _ = joinL ([[47, 42], [33, 47, 42, 47]] ++ (dirsT k).flatMap (twoL k))
 rw [joinL_append, e]
 rfl
structure ConesP (k : List ByteArray) : Prop where
 valid : ∀ x ∈ k, validB x = true
 apart : k.Pairwise Apart2
 some_ : ∀ x ∈ k, bs x ≠ []
theorem apart_of : ∀ {k : List ByteArray}, k.Pairwise Apart2 → ∀ x ∈ k, ∀ y ∈ k, aboveB x y = false
 | [], _, x, hx, _, _ => by simp at hx
 | a :: k, h, x, hx, y, hy => by
  have h' := List.pairwise_cons.1 h
  rcases List.mem_cons.1 hx with h1 | h1 <;> rcases List.mem_cons.1 hy with h2 | h2
  ·rw [h1, h2]; exact above_self _
  ·rw [h1]; exact (h'.1 y h2).2
  ·cases e : aboveB x y with
   | false => rfl
   | true => have h3 := above_lt e; have h4 := (h'.1 x h1).1; rw [← h2] at h4; have := cB_neg y x; omega
  ·exact apart_of h'.2 x h1 y h2
theorem cones_of {k : List ByteArray} (h : coneR none k = true) (h0 : k ≠ [⟨#[]⟩]) : ConesP k := by
 obtain ⟨hv, ha⟩ := (cone_all k).1 h
 refine ⟨hv, ha, fun x hx e => ?_⟩
 have ex : x = ⟨#[]⟩ := bs_inj e
 subst ex
 apply h0
 have hall : ∀ y ∈ k, y = (⟨#[]⟩ : ByteArray) := fun y hy => by
  by_cases hy0 : bs y = []
  ·exact bs_inj hy0
  ·have := apart_of ha _ hx y hy
   rw [above_root hy0] at this
   cases this
 match k, hx, hall, ha with
 | [a], _, hall, _ => rw [hall a List.mem_cons_self]
 | a :: b :: r, _, hall, ha =>
  have h1 := ((List.pairwise_cons.1 ha).1 b List.mem_cons_self).1
  rw [hall a List.mem_cons_self, hall b (List.mem_cons_of_mem _ List.mem_cons_self), cB_self] at h1
  omega
theorem rises_of {k : List ByteArray} (h : k.Pairwise Apart2) : Rises k := h.imp fun h => h.1
theorem dirs_in {k : List ByteArray} (h : ConesP k) : (dirsT k).filter (fun d => decide (d ∈ k)) = k := by
 refine rises_uniq _ _ (List.Pairwise.filter _ (rises_norm _)) (rises_of h.apart) fun z => ?_
 rw [List.mem_filter, decide_eq_true_eq]
 exact ⟨fun hz => hz.2, fun hz => ⟨mem_dirsT.2 ⟨z, hz, self_ups (h.some_ z hz)⟩, hz⟩⟩
theorem dirs_some {k : List ByteArray} {d : ByteArray} (hd : d ∈ dirsT k) : bs d ≠ [] := by
 obtain ⟨c, _, hc⟩ := mem_dirsT.1 hd
 exact (ups_size c.size c (Nat.le_refl _) d hc).2
theorem dirs_free {k : List ByteArray} (h : ConesP k) {d : ByteArray} (hd : d ∈ dirsT k) : (10 : UInt8) ∉ bs d := fun hm => by
 obtain ⟨c, hk, hc⟩ := mem_dirsT.1 hd
 exact valid_free (h.valid c hk) (ups_mem c.size c (Nat.le_refl _) d hc 10 hm)
theorem openL_free {d : ByteArray} (h : (10 : UInt8) ∉ bs d) : (10 : UInt8) ∉ openL d := by simp [openL, h]
theorem shutL_free {d : ByteArray} (h : (10 : UInt8) ∉ bs d) : (10 : UInt8) ∉ shutL d := by simp [shutL, h]
theorem lines_free {k : List ByteArray} (h : ConesP k) : ∀ l ∈ linesT k, (10 : UInt8) ∉ l := by
 intro l hl
 unfold linesT at hl
 rcases List.mem_cons.1 hl with rfl | hl
 ·decide
 rcases List.mem_cons.1 hl with rfl | hl
 ·decide
 obtain ⟨d, hd, hl⟩ := List.mem_flatMap.1 hl
 have hf := dirs_free h hd
 unfold twoL at hl
 rcases List.mem_cons.1 hl with rfl | hl
 ·exact openL_free hf
 ·split at hl
  ·simp at hl
  ·obtain rfl := List.mem_singleton.1 hl
   exact shutL_free hf
theorem openL_length (d : ByteArray) : (openL d).length = (bs d).length + 2 := by simp [openL]
theorem openL_last (d : ByteArray) : (openL d).getLast? = some 47 := by
 unfold openL
 rw [show 47 :: bs d ++ [47] = (47 :: bs d) ++ [47] from rfl]
 exact List.getLast?_concat
theorem stepN_open {out : List ByteArray} {d : ByteArray} (h : bs d ≠ []) : stepN out (openL d) = out ++ [d] := by
 have hl : 0 < (bs d).length := List.length_pos_iff.2 h
 have hd : ((openL d).take ((openL d).length - 1)).drop 1 = bs d := by
  rw [openL_length]
  unfold openL
  rw [show 47 :: bs d ++ [47] = (47 :: bs d) ++ [47] from rfl, List.take_append_of_le_length (by simp), List.take_of_length_le (by simp)]
  rfl
 unfold stepN
 rw [if_pos ⟨by rw [openL_length]; omega, by simp [openL], openL_last d⟩, hd, mk_bs]
theorem stepN_shut (out : List ByteArray) (d : ByteArray) : stepN (out ++ [d]) (shutL d) = out := by
 have e : (out ++ [d]).getD ((out ++ [d]).length - 1) ByteArray.empty = d := by simp [List.getD_eq_getElem?_getD]
 unfold stepN
 rw [if_neg (fun h => by have := h.2.1; simp [shutL] at this), if_pos ⟨by simp, by rw [e]; rfl⟩]
 simp
theorem steps_two {k out : List ByteArray} {d : ByteArray} (h : bs d ≠ []) : (twoL k d).foldl stepN out = if d ∈ k then out ++ [d] else out := by
 unfold twoL
 by_cases hd : d ∈ k
 ·simp [hd, stepN_open h]
 ·simp [hd, stepN_open h, stepN_shut]
theorem steps_all (k : List ByteArray) : ∀ (D out : List ByteArray), (∀ d ∈ D, bs d ≠ []) → (D.flatMap (twoL k)).foldl stepN out = out ++ D.filter (fun d => decide (d ∈ k))
 | [], out, _ => by simp
 | d :: D, out, h => by
  rw [List.flatMap_cons, List.foldl_append, steps_two (h d List.mem_cons_self), steps_all k D _ fun x hx => h x (List.mem_cons_of_mem _ hx)]
  by_cases hd : d ∈ k <;> simp [hd]
theorem named_text {k : List ByteArray} (h : ConesP k) : namedT (mk (textS k)) = k := by
 have h0 : k ≠ [⟨#[]⟩] := fun e => h.some_ ⟨#[]⟩ (by rw [e]; exact List.mem_singleton.2 rfl) rfl
 unfold namedT
 rw [bs_mk, textS_lines h0, rawN_join _ _ (by rw [← bs_size, bs_mk]; omega) (lines_free h), List.map_map]
 have e : (trimS ∘ fun x : Str => x ++ [10]) = id := funext fun l => trimS_line l
 rw [e, List.map_id]
 unfold linesT
 rw [List.foldl_cons, List.foldl_cons]
 have e1 : stepN [] [47, 42] = [] := by simp [stepN]
 have e2 : stepN [] [33, 47, 42, 47] = [] := by simp [stepN]
 rw [e1, e2, steps_all k _ _ fun d hd => dirs_some hd, List.nil_append, dirs_in h]
def refN : List Str → List ByteArray
 | [] => []
 | l :: r => if 2 < l.length ∧ l.head? = some 47 ∧ l.getLast? = some 47 ∧ r.head? ≠ some ([33] ++ l ++ [42, 47]) then mk ((l.take (l.length - 1)).drop 1) :: refN r else refN r
theorem refN_other {l : Str} {r : List Str} (h : l.head? ≠ some 47 ∨ l.length ≤ 2) : refN (l :: r) = refN r := by
 rw [refN, if_neg]
 rintro ⟨h1, h2, _⟩
 rcases h with h | h
 ·exact h h2
 ·omega
theorem refN_two (k : List ByteArray) {d : ByteArray} (h : bs d ≠ []) (r : List Str) (hr : ∀ d : ByteArray, r.head? ≠ some (shutL d)) : refN (twoL k d ++ r) = if d ∈ k then d :: refN r else refN r := by
 have hl : 0 < (bs d).length := List.length_pos_iff.2 h
 have hd : ((openL d).take ((openL d).length - 1)).drop 1 = bs d := by
  rw [openL_length]
  unfold openL
  rw [show 47 :: bs d ++ [47] = (47 :: bs d) ++ [47] from rfl, List.take_append_of_le_length (by simp), List.take_of_length_le (by simp)]
  rfl
 have hs : [33] ++ openL d ++ [42, 47] = shutL d := by simp [openL, shutL]
 unfold twoL
 by_cases hk : d ∈ k
 ·rw [if_pos hk, if_pos hk, List.singleton_append, refN, if_pos ⟨by rw [openL_length]; omega, by simp [openL], openL_last d, by rw [hs]; exact hr d⟩, hd, mk_bs]
 ·rw [if_neg hk, if_neg hk]
  show refN (openL d :: shutL d :: r) = _
  rw [refN, if_neg (fun e => e.2.2.2 (by rw [hs]; rfl)), refN_other (.inl (by simp [shutL]))]
theorem refN_all (k : List ByteArray) : ∀ (D : List ByteArray), (∀ d ∈ D, bs d ≠ []) → refN (D.flatMap (twoL k) ++ [[]]) = D.filter (fun d => decide (d ∈ k))
 | [], _ => by simp [refN]
 | d :: D, h => by
  rw [List.flatMap_cons, List.append_assoc, refN_two k (h d List.mem_cons_self), refN_all k D fun x hx => h x (List.mem_cons_of_mem _ hx)]
  ·by_cases hd : d ∈ k <;> simp [hd]
  ·intro e
   cases D with
   | nil => simp [shutL]
   | cons c D => simp [twoL, openL, shutL]
theorem refN_text {k : List ByteArray} (h : ConesP k) : refN (linesT k ++ [[]]) = k := by
 show refN ([47, 42] :: [33, 47, 42, 47] :: ((dirsT k).flatMap (twoL k) ++ [[]])) = k
 rw [refN_other (.inr (by simp)), refN_other (.inl (by simp)), refN_all k _ fun d hd => dirs_some hd, dirs_in h]
theorem textS_long {k : List ByteArray} (h : k ≠ [⟨#[]⟩]) : textS k ≠ [47, 42, 10] := by
 unfold textS
 rw [if_neg h]
 intro e
 have := congrArg List.length e
 simp at this
theorem textS_root : textS [(⟨#[]⟩ : ByteArray)] = [47, 42, 10] := by unfold textS; rw [if_pos rfl]
theorem lineT_length (k : List ByteArray) (d : ByteArray) : (lineT k d).length ≤ 2 * d.size + 12 := by
 unfold lineT
 split <;> simp only [List.length_append, List.length_cons, List.length_nil, bs_size] <;> omega
theorem flat_length (k : List ByteArray) : ∀ D : List ByteArray, (∀ d ∈ D, d.size ≤ 120) → (D.flatMap (lineT k)).length ≤ 260 * D.length
 | [], _ => by simp
 | d :: D, h => by
  have h1 := flat_length k D fun x hx => h x (List.mem_cons_of_mem _ hx)
  have h2 := lineT_length k d
  have h3 := h d List.mem_cons_self
  rw [List.flatMap_cons, List.length_append, List.length_cons]
  omega
theorem flatMap_le (m : Nat) : ∀ k : List ByteArray, (∀ p ∈ k, (ups p).length ≤ m) → (k.flatMap ups).length ≤ m * k.length
 | [], _ => by simp
 | p :: k, h => by
  have h1 := flatMap_le m k fun x hx => h x (List.mem_cons_of_mem _ hx)
  have h2 := h p List.mem_cons_self
  rw [List.flatMap_cons, List.length_append, List.length_cons, Nat.mul_succ]
  omega
theorem dirsT_length {k : List ByteArray} (hv : ∀ p ∈ k, validB p = true) : (dirsT k).length ≤ 120 * k.length := by
 refine Nat.le_trans (norm_length_le _) (flatMap_le 120 k fun p hp => ?_)
 have h1 := ups_length p.size p (Nat.le_refl _)
 have h2 := valid_size (hv p hp)
 omega
theorem dirsT_size {k : List ByteArray} (hv : ∀ p ∈ k, validB p = true) : ∀ d ∈ dirsT k, d.size ≤ 120 := fun d hd => by
 obtain ⟨c, hc, hd⟩ := mem_dirsT.1 hd
 have := (ups_size c.size c (Nat.le_refl _) d hd).1
 have := valid_size (hv c hc)
 omega
theorem mk_size (a : Str) : (mk a).size = a.length := by rw [← bs_size, bs_mk]
theorem rawN_length : ∀ (n : Nat) (s : Str), (rawN n s).length ≤ n ∧ ∀ l ∈ rawN n s, l.length ≤ s.length
 | 0, s => by simp [rawN]
 | n + 1, s => by
  unfold rawN
  split
  ·simp
  ·split
   ·simp
   ·have ih := rawN_length n (s.drop ((Lib.indexByte s 10).toNat + 1))
    refine ⟨by rw [List.length_cons]; omega, fun l hl => ?_⟩
    rcases List.mem_cons.1 hl with rfl | hl
    ·rw [List.length_take]; omega
    ·have := ih.2 l hl; rw [List.length_drop] at this; omega
theorem steps_bound (m : Nat) : ∀ (L : List Str) (out : List ByteArray), (∀ l ∈ L, l.length ≤ m) → (∀ p ∈ out, p.size ≤ m) → (L.foldl stepN out).length ≤ out.length + L.length ∧ ∀ p ∈ L.foldl stepN out, p.size ≤ m
 | [], out, _, ho => by simpa using ho
 | l :: L, out, hl, ho => by
  have hstep : (stepN out l).length ≤ out.length + 1 ∧ ∀ p ∈ stepN out l, p.size ≤ m := by
   unfold stepN
   split
   ·refine ⟨by simp, fun p hp => ?_⟩
    rcases List.mem_append.1 hp with hp | hp
    ·exact ho p hp
    ·have := hl l List.mem_cons_self
     rw [List.mem_singleton.1 hp, mk_size, List.length_drop, List.length_take]; omega
   ·split
    ·exact ⟨by rw [List.length_take]; omega, fun p hp => ho p (List.mem_of_mem_take hp)⟩
    ·exact ⟨by omega, ho⟩
  have ih := steps_bound m L (stepN out l) (fun x hx => hl x (List.mem_cons_of_mem _ hx)) hstep.2
  rw [List.foldl_cons, List.length_cons]
  exact ⟨by omega, ih.2⟩
theorem named_bound (s : ByteArray) : (namedT s).length ≤ s.size + 1 ∧ ∀ p ∈ namedT s, p.size ≤ s.size := by
 have h := rawN_length (s.size + 1) (bs s)
 have := steps_bound s.size ((rawN (s.size + 1) (bs s)).map trimS) [] (fun l hl => by
  obtain ⟨x, hx, rfl⟩ := List.mem_map.1 hl
  have := h.2 x hx
  rw [bs_size] at this
  unfold trimS
  split
  ·rw [List.length_dropLast]; omega
  ·exact this) (fun p hp => absurd hp (by simp))
 refine ⟨?_, this.2⟩
 have h2 := this.1
 rw [List.length_map, List.length_nil] at h2
 unfold namedT
 omega
end Go.Proofs.YtehfogjibhnabaaDoor.PAll
namespace Go.Proofs.YtehfogjibhnabaaDoor.PAll
open Go.RowKit Go.Shelf Go.Proofs.YtehfogjibhnabaaDoorW.PrintWords Go.Proofs.YtehfogjibhnabaaDoorW.PrintLast Go.Proofs.YtehfogjibhnabaaDoorW.PrintMore
open Go.Proofs.YtehfogjibhnabaaDoor.Sp
theorem rises_at {l : List ByteArray} (h : Rises l) {i j : Nat} (hij : i < j) (hj : j < l.length) : cB (l.getD i ByteArray.empty) (l.getD j ByteArray.empty) < 0 := by
 rw [List.getD_eq_getElem?_getD, List.getD_eq_getElem?_getD, List.getElem?_eq_getElem hj, List.getElem?_eq_getElem (by omega)]
 exact List.pairwise_iff_getElem.1 h i j (by omega) hj hij
theorem getD_mem {l : List ByteArray} {i : Nat} (h : i < l.length) : l.getD i ByteArray.empty ∈ l := by
 rw [List.getD_eq_getElem?_getD, List.getElem?_eq_getElem h]; exact List.getElem_mem h
set_option maxHeartbeats 4000000 in
set_option maxRecDepth 100000 in
theorem bsf_calls (A : Option Addr) (c : Nat) (l : List ByteArray) (t : ByteArray) (w : World) (hr : Kd.C Kd.string w A l.length l) (hu : Rises l) (hs : ∀ x ∈ l, x.size < 4294967281) (ht : t.size < 4294967281) (hl : l.length ≤ 4611686018427387904) :
  Calls Tryd.prog 68 #[.slice A l.length c, .string t, .func (.func 50) #[] #[]] w fun e w' => (∃ i : Int, e = .returned (.tuple #[.int .i64 i, .bool (decide (t ∈ l))])) ∧ Below w.heap.size w w' := by
 have HR := Aside0.mk hr
 have HU := Aside0.mk hu
 have HS := Aside0.mk hs
 have HT := Aside0.mk ht
 clear hr hu hs ht
 go_enter Tryd.func68, Tryd.ntmps68
 go_wp2
 go_loopg [9, 10] l.length (fun gg s9 s10 wr => ∃ lo hi : Nat, s9 = .int .i64 lo ∧ s10 = .int .i64 hi ∧ lo ≤ hi ∧ hi ≤ l.length ∧ hi - lo ≤ gg ∧ Aside0 (Below w.heap.size w wr) ∧ Aside0 ((∀ j, j < lo → cB (l.getD j ByteArray.empty) t < 0) ∧ (∀ j, hi ≤ j → j < l.length → 0 ≤ cB (l.getD j ByteArray.empty) t)))
 case atStart => exact ⟨0, l.length, rfl, rfl, Nat.zero_le _, Nat.le_refl _, by omega, ⟨Below.refl _ _⟩, ⟨fun j hj => absurd hj (Nat.not_lt_zero _), fun j h1 h2 => by omega⟩⟩
 case round =>
  obtain ⟨lo, hi, rfl, rfl, hlh, hin, hg, BX, I⟩ := hrel
  by_cases hlt : lo < hi
  ·have hm : (lo + hi) / 2 < l.length := by omega
   obtain ⟨ad, ea, hcell⟩ := Kd.at_string (Kd.C_below HR.out BX.out) (((lo + hi) / 2 : Nat) : Int) (by omega) (by omega)
   cases ea
   rw [Int.toNat_natCast] at hcell
   have HY := Aside0.mk (HS.out _ (getD_mem hm))
   have Y : Aside0 (l.getD ((lo + hi) / 2) ByteArray.empty = rdOf ByteArray.empty l (((lo + hi) / 2 : Nat) : Int)) := ⟨(rdOf_getD _ _).symm⟩
   rw [Y.out] at HY
   generalize rdOf ByteArray.empty l (((lo + hi) / 2 : Nat) : Int) = y at hcell HY Y
   have CM := fun W => cmp_gr y t HY.out HT.out W
   by_cases hyt : cB y t < 0
   ·go_wp2_with fail
    refine (CM _).mono ?_
    rintro e w' ⟨rfl, hq⟩
    go_wp2
    go_roundg (hi - ((lo + hi) / 2 + 1))
    case measure => omega
    case rel =>
     refine ⟨(lo + hi) / 2 + 1, hi, by rw [show ((lo : Int) + (hi : Int)) / 2 + 1 = (((lo + hi) / 2 + 1 : Nat) : Int) by omega], rfl, by omega, hin, Nat.le_refl _, ⟨below_then BX.out BX.out.size hq.below⟩, ⟨fun j hj => ?_, I.out.2⟩⟩
     by_cases e : j = (lo + hi) / 2
     ·subst e; rw [Y.out]; exact hyt
     ·have := rises_at HU.out (show j < (lo + hi) / 2 by omega) hm
      rw [Y.out] at this
      exact cB_trans this hyt
   ·go_wp2_with fail
    refine (CM _).mono ?_
    rintro e w' ⟨rfl, hq⟩
    go_wp2
    go_roundg ((lo + hi) / 2 - lo)
    case measure => omega
    case rel =>
     refine ⟨lo, (lo + hi) / 2, rfl, by rw [show ((lo : Int) + (hi : Int)) / 2 = (((lo + hi) / 2 : Nat) : Int) by omega], by omega, by omega, Nat.le_refl _, ⟨below_then BX.out BX.out.size hq.below⟩, ⟨I.out.1, fun j h1 h2 => Int.not_lt.1 fun h3 => ?_⟩⟩
     by_cases e : j = (lo + hi) / 2
     ·subst e; rw [Y.out] at h3; omega
     ·have := rises_at HU.out (show (lo + hi) / 2 < j by omega) h2
      rw [Y.out] at this
      have := cB_trans this h3; omega
  ·obtain rfl : hi = lo := by omega
   have FIN : ∀ b : Bool, (b = decide (hi < l.length ∧ cB (l.getD hi ByteArray.empty) t = 0)) → decide (t ∈ l) = b := fun b hb => by
    rw [hb]
    refine decide_eq_decide.2 ⟨fun hm => ?_, fun ⟨h1, h2⟩ => by rw [← cB_eq h2]; exact getD_mem h1⟩
    obtain ⟨j, hj, rfl⟩ := List.getElem_of_mem hm
    have e1 : l.getD j ByteArray.empty = l[j] := by rw [List.getD_eq_getElem?_getD, List.getElem?_eq_getElem hj]; rfl
    rcases Nat.lt_trichotomy j hi with h | h | h
    ·have := I.out.1 j h
     rw [e1, cB_self] at this; omega
    ·subst h; exact ⟨hj, by rw [e1, cB_self]⟩
    ·exfalso
     have h1 := rises_at HU.out h hj
     rw [e1] at h1
     have := I.out.2 hi (Nat.le_refl _) (by omega); omega
   have FIN' := Aside0.mk FIN
   clear FIN
   by_cases hn : hi < l.length
   ·obtain ⟨ad, ea, hcell⟩ := Kd.at_string (Kd.C_below HR.out BX.out) (hi : Int) (by omega) (by omega)
    cases ea
    rw [Int.toNat_natCast] at hcell
    have HY := Aside0.mk (HS.out _ (getD_mem hn))
    have Y : Aside0 (l.getD hi ByteArray.empty = rdOf ByteArray.empty l (hi : Int)) := ⟨(rdOf_getD _ _).symm⟩
    rw [Y.out] at HY
    have HN := Aside0.mk hn
    rw [Y.out] at FIN'
    generalize rdOf ByteArray.empty l (hi : Int) = y at hcell HY Y FIN'
    have CM := fun W => cmp_gr y t HY.out HT.out W
    have hltz : (hi : Int) < (l.length : Int) := by omega
    by_cases hyt : cB y t = 0
    ·go_wp2_with fail
     refine (CM _).mono ?_
     rintro e w' ⟨rfl, hq⟩
     go_wp2
     go_ret2
     exact ⟨⟨(hi : Int), by rw [FIN'.out true (by simp [HN.out, hyt])]; rfl⟩, below_then BX.out BX.out.size hq.below⟩
    ·go_wp2_with fail
     refine (CM _).mono ?_
     rintro e w' ⟨rfl, hq⟩
     go_wp2
     go_ret2
     have hy2 : (cB y t == 0) = false := by simpa using hyt
     exact ⟨⟨(hi : Int), by rw [FIN'.out false (by simp [hyt])]; show Ending.returned (.tuple #[.int .i64 hi, .bool (cB y t == 0)]) = _; rw [hy2]⟩, below_then BX.out BX.out.size hq.below⟩
   ·have hltz : ¬ (hi : Int) < (l.length : Int) := by omega
    go_wp2
    go_ret2
    exact ⟨⟨(hi : Int), by rw [FIN'.out false (by simp [hn])]; rfl⟩, BX.out⟩
end Go.Proofs.YtehfogjibhnabaaDoor.PAll
namespace Go.Proofs.YtehfogjibhnabaaDoor.PAll
open Go.RowKit
def SameAt (b : Nat) (A B : World) : Prop := B.heap[b]? = A.heap[b]?
theorem sameAt_of {b : Nat} {A B : World} (h : B.heap[b]? = A.heap[b]?) : SameAt b A B := h
def AbidesBox {β : Type} (b : Nat) (J : β → World → Prop) : Prop := ∀ s A B, J s A → A.grownBy B (some b) → J s B
def SeqBox {α : Type} (n : Nat) (P : Program) (g : Nat) (lb : Array Value) (encs : α → Array Value) (b : Nat) (L : List α) (w : World) : Prop :=
 ∀ (l : Nat) (J : List α → World → Prop) (W : World), Below w.heap.size w W → AbidesBox b J →
  (∀ pre x suf W1, L = pre ++ x :: suf → J pre W1 → YieldAt Fence.wide (n - 1) P l (encs x) W1 fun e W' => e = .returned (.bool true) ∧ J (pre ++ [x]) W' ∧ W'.heap[b]? = W1.heap[b]?) →
  J [] W → CallsIn Fence.wide n P g (#[.func (.yield l) #[] #[]] ++ lb) W fun e W' => (∃ v, e = .returned v) ∧ J L W'
theorem range_boxed {P : Program} {α : Type} {n : Nat} {g : Operand} {ps : Array Tmp} {assign body : Code} {Q : Exit → Act → World → Prop} {a : Act} {w : World} (h1 : 1 ≤ n) {gf : Nat} {lb : Array Value}
  (hg : a.eval g = .func (.func gf) #[] lb) (hFg : Fence.wide.fn gf) (eg : ∀ args w, (callFunc gf args).run P w = .ok (.enter gf args) w) {encs : α → Array Value} {b : Nat} {L : List α} (hseq : SeqBox (n - 1) P gf lb encs b L w) (hb : b < w.heap.size)
  (hps : ∀ x, (encs x).size = ps.size) (I : List α → World → Prop) (hIb : AbidesBox b I) (hI : OwnFrom w.heap.size I) (h0 : I [] w) (a₁ : α → Act)
  (hassign : ∀ (l : Nat) (x : α) (W : World) (K : Act → World → Prop), K (a₁ x) W →
   assign.wpIn (Fence.wide.inRound l) (n - 1 - 1) P (Exit.then K (fun _ _ _ => False)) { tmps := (ps.zip (encs x)).foldl (fun t (p, v) => t.setIfInBounds p v) a.tmps, defers := [] } W)
  (hbody : ∀ (l : Nat) (pre : List α) (x : α) (suf : List α) (W : World), L = pre ++ x :: suf → I pre W → b < W.heap.size →
   body.wpIn (Fence.wide.inRound l) (n - 1 - 1) P (fun e _ W' => e = .normal ∧ KeepsOthers W W' ∧ SameAt b W W' ∧ I (pre ++ [x]) W') (a₁ x) W)
  (hdone : ∀ (D : Nat) (W : World), w.heap.size ≤ D → I L W → W.heap[D]? = some (.deferred (some [])) → Q .normal { a with defers := { target := .collected D, args := #[] } :: a.defers } W) :
  (Code.rangeFunc g ps assign body).wpIn Fence.wide n P Q a w := by
 refine wpIn_rangeFunc fun fn hfn => ?_
 have hro : Fence.wide.round = none := rfl
 rw [hro]
 obtain ⟨rec, hrec⟩ : ∃ rec : LoopState → Loop, rec = fun st => { state := st, pending := none, fn, tmps := a.tmps, params := ps, assign, body, defers := w.heap.size } := ⟨_, rfl⟩
 obtain ⟨W1, hW1⟩ : ∃ W1, (w.alloc (.deferred (some []))).alloc (.loop (rec .ready)) = W1 := ⟨_, rfl⟩
 have hL1 : W1.heap[w.heap.size + 1]? = some (.loop (rec .ready)) := by
  rw [← hW1]; have := World.alloc_heap_new (w.alloc (.deferred (some []))) (.loop (rec .ready)); rwa [World.size_alloc] at this
 have hK1 : W1.heap[w.heap.size]? = some (.deferred (some [])) := by
  rw [← hW1]; exact (Below.heap_alloc _ _ _ (by simp)).trans (World.alloc_heap_new w _)
 have hI1 : I [] W1 := by rw [← hW1]; exact hI.alloc _ (hI.alloc _ h0)
 have hb1 : Below w.heap.size w W1 := by
  rw [← hW1]; exact ((Below.refl _ w).alloc (Nat.le_refl _) _).alloc (by simp) _
 refine ⟨w.heap.size + 1, [{ target := .collected w.heap.size, args := #[] }], W1, { target := .fn (.func gf) lb, args := #[.func (.yield (w.heap.size + 1)) #[] #[]] }, W1, gf,
  #[.func (.yield (w.heap.size + 1)) #[] #[]] ++ lb, W1, ?_, ?_, ?_, ?_, fun _ => h1, ?_⟩
 ·rw [← hW1, hrec]; exact run_enterLoop_outer _ _ _ _ _
 ·simp only [resolve, hg]
  simp [go_sem]
 ·intro f' hf'; simp [Target.leads] at hf'; subst hf'; exact hFg
 ·simp [invoke, go_sem, eg]
 ·refine (hseq (w.heap.size + 1) (fun pre W => (I pre W ∧ b < W.heap.size) ∧ W.heap[w.heap.size + 1]? = some (.loop (rec .ready)) ∧ W.heap[w.heap.size]? = some (.deferred (some []))) W1 hb1 ?_ ?_ ⟨⟨hI1, Nat.lt_of_lt_of_le hb hb1.size⟩, hL1, hK1⟩).mono ?_
  ·rintro s A B ⟨⟨hi, hbA⟩, hl, hk⟩ hgr
   exact ⟨⟨hIb s A B hi hgr, Nat.lt_of_lt_of_le hbA hgr.size⟩, (hgr.block _ (Array.getElem?_eq_some_iff.1 hl).1 (by simp; omega)).trans hl, (hgr.block _ (Array.getElem?_eq_some_iff.1 hk).1 (by simp; omega)).trans hk⟩
  ·rintro pre x suf W hL ⟨⟨hi, hbW⟩, hl, hk⟩
   have hlt : w.heap.size + 1 < W.heap.size := (Array.getElem?_eq_some_iff.1 hl).1
   have hy := run_yield (P := P) (args := encs x) hl (by rw [hrec]; exact hps x)
   rw [hrec] at hy
   refine ⟨fn, _, assign, body, hy, roundIn_of_wpIn hfn (hassign _ x W _ ⟨_, run_beginRound hl (by rw [hrec]), ?_⟩)⟩
   have hl2 : (W.putObj (w.heap.size + 1) (.loop { rec .ready with state := .busy })).heap[w.heap.size + 1]? = some (.loop { rec .ready with state := .busy }) := World.putObj_heap_same hlt
   have hk2 : (W.putObj (w.heap.size + 1) (.loop { rec .ready with state := .busy })).heap[w.heap.size]? = some (.deferred (some [])) := (World.putObj_heap_other (by omega)).trans hk
   have hb2 : (W.putObj (w.heap.size + 1) (.loop { rec .ready with state := .busy })).heap[b]? = W.heap[b]? := World.putObj_heap_other (by omega)
   refine wpIn_mono (hbody _ pre x suf _ hL (hI.putObj _ hi (by omega) hl rfl) (by simpa using hbW)) ?_
   rintro e a3 W3 ⟨rfl, hk3, hb3, hi3⟩
   unfold SameAt at hb3
   have hl3 := hk3.same _ _ hl2 rfl
   have hk4 := hk3.same _ _ hk2 rfl
   have hr := run_endRound (P := P) none hl3
   have hb4 : b < W3.heap.size := by
    have : b < (W.putObj (w.heap.size + 1) (.loop { rec .ready with state := .busy })).heap.size := by simpa using hbW
    rw [Array.getElem?_eq_getElem this] at hb3
    exact (Array.getElem?_eq_some_iff.1 hb3).1
   refine ⟨_, _, hr, rfl, ⟨⟨hI.putObj _ hi3 (by omega) hl3 rfl, by simpa using hb4⟩, ?_, (World.putObj_heap_other (by omega)).trans hk4⟩, (World.putObj_heap_other (by omega)).trans (hb3.trans hb2)⟩
   rw [World.putObj_heap_same (Array.getElem?_eq_some_iff.1 hl3).1, hrec]
   rfl
  ·rintro e W2 ⟨⟨v, rfl⟩, ⟨hi, _⟩, hl, hk⟩
   have := run_endLoop (P := P) hl (by rw [hrec]; simp)
   rw [hrec] at this
   exact ⟨none, _, this, hdone _ _ (Nat.le_refl _) (hI.putObj _ hi (by omega) hl rfl) ((World.putObj_heap_other (by omega)).trans hk)⟩
end Go.Proofs.YtehfogjibhnabaaDoor.PAll
namespace Go.Proofs.YtehfogjibhnabaaDoor.PAll
open Go.RowKit Go.Shelf Go.Proofs.YtehfogjibhnabaaDoorW.PrintWords Go.Proofs.YtehfogjibhnabaaDoorW.PrintLast Go.Proofs.YtehfogjibhnabaaDoorW.PrintMore
open Go.Proofs.YtehfogjibhnabaaDoor.Sp
def linesB (s : ByteArray) : List ByteArray := (rawN (s.size + 1) (bs s)).map mk
theorem rawN_more : ∀ (n : Nat) (s : Str), s.length < n → rawN (n + 1) s = rawN n s
 | 0, s, h => by omega
 | n + 1, s, h => by
  show (if s = [] then [] else if Lib.indexByte s 10 < 0 then [s] else s.take ((Lib.indexByte s 10).toNat + 1) :: rawN (n + 1) (s.drop ((Lib.indexByte s 10).toNat + 1))) = (if s = [] then [] else if Lib.indexByte s 10 < 0 then [s] else s.take ((Lib.indexByte s 10).toNat + 1) :: rawN n (s.drop ((Lib.indexByte s 10).toNat + 1)))
  by_cases h0 : s = []
  ·rw [if_pos h0, if_pos h0]
  ·have := List.length_pos_iff.2 h0
   rw [rawN_more n (s.drop ((Lib.indexByte s 10).toNat + 1)) (by rw [List.length_drop]; omega)]
theorem rawN_le {m n : Nat} {s : Str} (hm : s.length < m) (h : m ≤ n) : rawN n s = rawN m s := by
 induction n with
 | zero => exfalso; omega
 | succ n ih =>
  by_cases e : m = n + 1
  ·subst e; rfl
  ·rw [rawN_more n s (by omega)]; exact ih (by omega)
theorem linesB_nil {s : ByteArray} (h : bs s = []) : linesB s = [] := by unfold linesB; rw [rawN, if_pos h]; rfl
theorem linesB_last {s : ByteArray} (h : bs s ≠ []) (hi : Lib.indexByte (bs s) 10 < 0) : linesB s = [s] := by
 unfold linesB; rw [rawN, if_neg h, if_pos hi]
 show [mk (bs s)] = [s]
 rw [mk_bs]
theorem linesB_more {s : ByteArray} (h : bs s ≠ []) (hi : ¬ Lib.indexByte (bs s) 10 < 0) : linesB s = mk ((bs s).take ((Lib.indexByte (bs s) 10).toNat + 1)) :: linesB (mk ((bs s).drop ((Lib.indexByte (bs s) 10).toNat + 1))) := by
 unfold linesB
 rw [rawN, if_neg h, if_neg hi, List.map_cons, bs_mk]
 congr 2
 have h1 : (bs s).length = s.size := bs_size s
 have h2 : ((bs s).drop ((Lib.indexByte (bs s) 10).toNat + 1)).length < s.size := by
  have := List.length_pos_iff.2 h
  rw [List.length_drop]; omega
 have h3 : (mk ((bs s).drop ((Lib.indexByte (bs s) 10).toNat + 1))).size = ((bs s).drop ((Lib.indexByte (bs s) 10).toNat + 1)).length := mk_size _
 exact rawN_le (by omega) (by omega)
attribute [local go_sem] Oper.semAt_some
set_option maxRecDepth 100000 in
set_option maxHeartbeats 2000000 in
theorem lines1_in (n : Nat) (hn : 1 ≤ n) (b : Nat) (s : ByteArray) (hs : s.size ≤ 65536) (w : World) (hbx : Boxed w b 9 (.string s)) :
  SeqBox n Tryd.prog 95 #[.pointer (some ⟨b, 0, none⟩)] (fun x : ByteArray => #[Value.string x]) b (linesB s) w := by
 intro l J W hW hJ hY h0
 have hb0 : Boxed W b 9 (.string s) := (hW.block b hbx.lt).trans hbx
 have HJ := Aside0.mk hJ
 have HY := Aside0.mk hY
 clear hJ hY
 refine callsIn_of_wp Tryd.func95 rfl trivial ?_ rfl
 simp only [Tryd.ntmps95, List.size_toArray, List.length_cons, List.length_nil, Nat.reduceAdd, Nat.reduceSub, Array.replicate_succ, Array.replicate_zero, List.push_toArray, List.append_toArray, List.nil_append, List.cons_append]
 gi_wp2
 gi_loopg [] s.size (fun gg wr => ∃ (pre : List ByteArray) (cur : ByteArray), cur.size ≤ gg ∧ Aside0 (cur.size ≤ 65536) ∧ Aside0 (linesB s = pre ++ linesB cur) ∧ Aside0 (Boxed wr b 9 (.string cur)) ∧ Aside0 (J pre wr))
 case atStart => exact ⟨[], s, Nat.le_refl _, ⟨hs⟩, ⟨rfl⟩, ⟨hb0⟩, ⟨h0⟩⟩
 case round =>
  obtain ⟨pre, cur, hg, HS, HL, HB, HP⟩ := hrel
  have hc := HB.out.cell
  have hsz := HS.out
  by_cases hlt : 0 < cur.size
  ·have hltz : (0 : Int) < (cur.size : Int) := by omega
   have hne : bs cur ≠ [] := fun e => by rw [← bs_size, e] at hlt; simp at hlt
   have hfz := HB.out.frozen
   have hix := fun W' => Tryd.strings_IndexByte cur 10 W'
   have HBT : Aside0 (bs cur = cur.data.toList) := ⟨rfl⟩
   have hd10 : (10 : Int).toNat.toUInt8 = 10 := rfl
   rw [hd10, ← HBT.out] at hix
   by_cases hi : Lib.indexByte (bs cur) 10 < 0
   ·have HM := Aside0.mk (linesB_last hne hi)
    obtain ⟨ix, hix0⟩ : ∃ ix : Int, Lib.indexByte (bs cur) 10 = ix := ⟨_, rfl⟩
    rw [hix0] at hix hi
    clear hix0
    have hP4 := HJ.out _ _ _ HP.out (grownBy_setCell' wr b (.string ⟨#[]⟩))
    have hB4 := HB.out.set (.string ⟨#[]⟩)
    have hE : Aside0 (linesB (⟨#[]⟩ : ByteArray) = []) := ⟨linesB_nil rfl⟩
    obtain ⟨fn, tmps, assign, body, hy, hRd⟩ := HY.out pre cur [] _ (by rw [HL.out, HM.out]) hP4
    gi_wp2_with (refine ⟨trivial, ?_⟩; gi_at_call 96; refine (callsIn_wide.2 (hix _)).mono ?_; rintro e w' ⟨rfl, rfl⟩)
    refine hRd.mono ?_
    rintro e w5 ⟨rfl, hJ5, hk5⟩
    have hB6 : Boxed w5 b 9 (.string ⟨#[]⟩) := hk5.trans hB4
    gi_wp2
    gi_roundg 0
    case measure => omega
    case rel => exact ⟨pre ++ [cur], ⟨#[]⟩, Nat.le_refl _, ⟨Nat.zero_le _⟩, ⟨by rw [HL.out, HM.out, hE.out]; simp⟩, ⟨hB6⟩, ⟨hJ5⟩⟩
   ·obtain ⟨i, hi2⟩ : ∃ i : Nat, Lib.indexByte (bs cur) 10 = (i : Int) := ⟨(Lib.indexByte (bs cur) 10).toNat, by omega⟩
    have hlt2 : i < cur.size := by
     have h1 := (Lib.indexByte_some hi2).1
     have h2 := (List.getElem?_eq_some_iff.1 h1).1
     rw [bs_size] at h2
     exact h2
    have HM := Aside0.mk (linesB_more hne hi)
    rw [hi2, Int.toNat_natCast] at HM
    rw [hi2] at hix
    clear hi hi2
    gi_wp2_with (refine ⟨trivial, ?_⟩; gi_at_call 96; refine (callsIn_wide.2 (hix _)).mono ?_; rintro e w' ⟨rfl, rfl⟩)
    have hi1 : ((i : Int) + 1) ≤ (cur.size : Int) := by omega
    gi_region
    have e1 : mk ((bs cur).take (i + 1)) = cur.extract 0 (i + 1) := by rw [extract_mk]; simp
    have e2 : mk ((bs cur).drop (i + 1)) = cur.extract (i + 1) cur.size := by rw [extract_mk, ← bs_size cur, List.take_length]
    have z2 : (cur.extract (i + 1) cur.size).size = cur.size - (i + 1) := by rw [ByteArray.size_extract]; omega
    have hP4 := HJ.out _ _ _ HP.out (grownBy_setCell' w' b (.string (cur.extract (i + 1) cur.size)))
    have hB4 := HB.out.set (.string (cur.extract (i + 1) cur.size))
    rw [e1, e2] at HM
    clear e1 e2
    have hP5 : J pre (w'.setCell ⟨b, 0, none⟩ (.string (cur.extract (i + 1) cur.size))).drew := HJ.out _ _ _ hP4 ⟨rfl, rfl, rfl, Nat.le_refl _, fun _ _ _ => rfl⟩
    have hB5 : Boxed (w'.setCell ⟨b, 0, none⟩ (.string (cur.extract (i + 1) cur.size))).drew b 9 (.string (cur.extract (i + 1) cur.size)) := hB4
    clear hP4 hB4
    generalize (w'.setCell ⟨b, 0, none⟩ (.string (cur.extract (i + 1) cur.size))).drew = w4 at hP5 hB5 ⊢
    generalize cur.extract 0 (i + 1) = x at HM ⊢
    generalize cur.extract (i + 1) cur.size = rest at HM z2 hB5 ⊢
    obtain ⟨fn, tmps, assign, body, hy, hRd⟩ := HY.out pre x (linesB rest) w4 (by rw [HL.out, HM.out]) hP5
    gi_wp2
    refine hRd.mono ?_
    rintro e w5 ⟨rfl, hJ5, hk5⟩
    have hB6 : Boxed w5 b 9 (.string rest) := hk5.trans hB5
    gi_wp2
    gi_roundg rest.size
    case measure => omega
    case rel => exact ⟨pre ++ [x], rest, Nat.le_refl _, ⟨by omega⟩, ⟨by rw [HL.out, HM.out]; simp⟩, ⟨hB6⟩, ⟨hJ5⟩⟩
  ·have hltz : ¬ (0 : Int) < (cur.size : Int) := by omega
   have hE : linesB cur = [] := linesB_nil (List.eq_nil_of_length_eq_zero (by rw [bs_size]; omega))
   have hJ6 : J (linesB s) wr := by rw [HL.out, hE, List.append_nil]; exact HP.out
   clear hE
   gi_wp2
   go_end0
   exact ⟨⟨_, rfl⟩, hJ6⟩
end Go.Proofs.YtehfogjibhnabaaDoor.PAll
