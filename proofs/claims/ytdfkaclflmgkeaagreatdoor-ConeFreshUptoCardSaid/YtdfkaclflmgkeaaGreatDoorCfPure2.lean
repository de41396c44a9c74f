/- The order of paths, Above, Dir: what the printed functions answer. -/
import Derived.Test.YtdfkaclflmgkeaaGreatDoorCfPAllx0
import Derived.Test.YtdfkaclflmgkeaaGreatDoorCfHandA
import Derived.Test.YtdfkaclflmgkeaaGreatDoorCfHandB
import Derived.Test.YtdfkaclflmgkeaaGreatDoorCfPAlly13
import Derived.Test.YtdfkaclflmgkeaaGreatDoorCfPAlly3
import Derived.Test.YtdfkaclflmgkeaaGreatDoorCfPAlly4
import Derived.Test.YtdfkaclflmgkeaaGreatDoorCfPAlly18
import Derived.Test.YtdfkaclflmgkeaaGreatDoorCfPAlly2
import Derived.Test.YtdfkaclflmgkeaaGreatDoorCfPAlly16
import Derived.Test.YtdfkaclflmgkeaaGreatDoorCfPAlly5
import Derived.Test.YtdfkaclflmgkeaaGreatDoorCfPAlly7
import Derived.Test.YtdfkaclflmgkeaaGreatDoorCfPAlly14
import Derived.Test.YtdfkaclflmgkeaaGreatDoorCfPAlly15
namespace Go.Proofs.YtdfkaclflmgkeaaGreatDoor.PAll
open Go.RowKit Go.Proofs.YtdfkaclflmgkeaaGreatDoorW.PrintWords Go.Proofs.YtdfkaclflmgkeaaGreatDoorW.PrintLast Go.Proofs.YtdfkaclflmgkeaaGreatDoorW.PrintMore
open Go.Proofs.YtdfkaclflmgkeaaGreatDoor.Sp
theorem cmpS_cons_same (c : UInt8) (x y : Str) : cmpS (c :: x) (c :: y) = cmpS x y := by simp [cmpS, Op.bytesLess]
theorem cmpS_cons_lt {c d : UInt8} (h : c.toNat < d.toNat) (x y : Str) : cmpS (c :: x) (d :: y) = -1 := by
 have : c < d := by rw [UInt8.lt_iff_toNat_lt]; exact h
 simp [cmpS, Op.bytesLess, this]
theorem cmpS_cons_gt {c d : UInt8} (h : d.toNat < c.toNat) (x y : Str) : cmpS (c :: x) (d :: y) = 1 := by
 have h1 : d < c := by rw [UInt8.lt_iff_toNat_lt]; exact h
 have h2 : ¬ c < d := by rw [UInt8.lt_iff_toNat_lt]; omega
 have h3 : ¬ c = d := by rintro rfl; omega
 simp [cmpS, Op.bytesLess, h1, h2, h3]
theorem cmpS_nil_cons (c : UInt8) (x : Str) : cmpS [] (c :: x) = -1 := by simp [cmpS, Op.bytesLess]
theorem cmpS_cons_nil (c : UInt8) (x : Str) : cmpS (c :: x) [] = 1 := by simp [cmpS, Op.bytesLess]
theorem cmpS_nil : cmpS [] [] = 0 := by simp [cmpS, Op.bytesLess]
theorem ref_bytes_run (a b : ByteArray) (ha : a.size ≤ 4294967296) (d : Nat) : ∀ i, a.size - i = d → i ≤ a.size → i ≤ b.size → Ev (fun k => copseref02_bytes.l0 k a b (i : Int)) (cmpS ((bs a).drop i) ((bs b).drop i)) := by
 induction d with
 | zero =>
  intro i hd hi hb
  refine ⟨2, fun k hk => ?_⟩
  obtain ⟨k, rfl⟩ : ∃ m, k = m + 2 := ⟨k - 2, by omega⟩
  simp only [copseref02_bytes.l0, copseref02_bytes.j1]
  rw [if_neg (by omega), if_neg (by decide), List.drop_of_length_le (l := bs a) (by rw [bs_size]; omega)]
  by_cases h : i = b.size
  ·rw [if_neg (by omega), if_neg (by omega), List.drop_of_length_le (l := bs b) (by rw [bs_size]; omega), cmpS_nil]
  ·rw [if_pos (by omega), bs_drop b i (by omega), cmpS_nil_cons]
 | succ d ih =>
  intro i hd hi hb
  rw [bs_drop a i (by omega)]
  by_cases h : i = b.size
  ·refine ⟨2, fun k hk => ?_⟩
   obtain ⟨k, rfl⟩ : ∃ m, k = m + 2 := ⟨k - 2, by omega⟩
   simp only [copseref02_bytes.l0, copseref02_bytes.j1]
   rw [if_pos (by omega), if_neg (by rw [decide_eq_true_eq]; omega), if_neg (by omega), if_pos (by omega), List.drop_of_length_le (l := bs b) (by rw [bs_size]; omega), cmpS_cons_nil]
  ·have hA := bt_get a i (by omega)
   have hB := bt_get b i (by omega)
   rw [bs_drop b i (by omega)]
   obtain ⟨K, hK⟩ := ih (i + 1) (by omega) (by omega) (by omega)
   dsimp only at hK
   refine ⟨K + 2, fun k hk => ?_⟩
   obtain ⟨k, rfl⟩ : ∃ m, k = m + 2 := ⟨k - 2, by omega⟩
   simp only [copseref02_bytes.l0, copseref02_bytes.j1]
   rw [if_pos (by omega), if_pos (by rw [decide_eq_true_eq]; omega), if_pos (by omega), if_pos (by omega), if_pos (by omega), hA, hB]
   by_cases h1 : ((bs a)[i]'(by rw [bs_size]; omega)).toNat < ((bs b)[i]'(by rw [bs_size]; omega)).toNat
   ·rw [if_pos (by omega), cmpS_cons_lt h1]
   ·rw [if_neg (by omega)]
    by_cases h2 : ((bs b)[i]'(by rw [bs_size]; omega)).toNat < ((bs a)[i]'(by rw [bs_size]; omega)).toNat
    ·rw [if_pos (by omega), cmpS_cons_gt h2]
    ·rw [if_neg (by omega), wrap_succ (n := a.size) (by omega) (by omega), hK k (by omega)]
     have e : (bs a)[i]'(by rw [bs_size]; omega) = (bs b)[i]'(by rw [bs_size]; omega) := UInt8.toNat_inj.1 (by omega)
     rw [e, cmpS_cons_same]
theorem ref_bytes (a b : ByteArray) (ha : a.size ≤ 4294967296) : Ev (fun k => copseref02_bytes.f k a b) (cmpS (bs a) (bs b)) :=
 ref_bytes_run a b ha a.size 0 (by omega) (by omega) (by omega)
theorem ref_cmp_run (x y : List ByteArray) (hx : x.length ≤ 4294967296) (hs : ∀ p ∈ x, p.size ≤ 4294967296) (d : Nat) : ∀ i, x.length - i = d → i ≤ x.length → i ≤ y.length → Ev (fun k => copseref02_Cmp.l0 k x y (i : Int)) (cmpL ((x.drop i).map bs) ((y.drop i).map bs)) := by
 induction d with
 | zero =>
  intro i hd hi hb
  refine ⟨2, fun k hk => ?_⟩
  obtain ⟨k, rfl⟩ : ∃ m, k = m + 2 := ⟨k - 2, by omega⟩
  simp only [copseref02_Cmp.l0, copseref02_Cmp.j1]
  rw [if_neg (by omega), if_neg (by decide), List.drop_of_length_le (l := x) (by omega)]
  by_cases h : i = y.length
  ·rw [if_neg (by omega), if_neg (by omega), List.drop_of_length_le (l := y) (by omega)]; rfl
  ·rw [if_pos (by omega), rdOf_drop y i (by omega)]; rfl
 | succ d ih =>
  intro i hd hi hb
  rw [rdOf_drop x i (by omega)]
  by_cases h : i = y.length
  ·refine ⟨2, fun k hk => ?_⟩
   obtain ⟨k, rfl⟩ : ∃ m, k = m + 2 := ⟨k - 2, by omega⟩
   simp only [copseref02_Cmp.l0, copseref02_Cmp.j1]
   rw [if_pos (by omega), if_neg (by rw [decide_eq_true_eq]; omega), if_neg (by omega), if_pos (by omega), List.drop_of_length_le (l := y) (by omega)]; rfl
  ·rw [rdOf_drop y i (by omega)]
   have hmem : rdOf ByteArray.empty x (i : Int) ∈ x := List.mem_of_mem_drop (i := i) (by rw [rdOf_drop x i (by omega)]; exact List.mem_cons_self)
   obtain ⟨K, hK⟩ := ih (i + 1) (by omega) (by omega) (by omega)
   dsimp only at hK
   obtain ⟨K2, hK2⟩ := ref_bytes (rdOf ByteArray.empty x (i : Int)) (rdOf ByteArray.empty y (i : Int)) (hs _ hmem)
   dsimp only at hK2
   refine ⟨max K K2 + 2, fun k hk => ?_⟩
   obtain ⟨k, rfl⟩ : ∃ m, k = m + 2 := ⟨k - 2, by omega⟩
   simp only [copseref02_Cmp.l0, copseref02_Cmp.j1]
   rw [if_pos (by omega), if_pos (by rw [decide_eq_true_eq]; omega), if_pos (by omega), if_pos (by omega), if_pos (by omega), hK2 k (by omega), Option.bind_some]
   simp only [List.map_cons, cmpL]
   by_cases e : rdOf ByteArray.empty x (i : Int) = rdOf ByteArray.empty y (i : Int)
   ·rw [if_pos (by rw [e, cmpS_self]), if_pos (by rw [e]), wrap_succ (n := x.length) (by omega) (by omega), hK k (by omega)]
   ·have e' : ¬ bs (rdOf ByteArray.empty x (i : Int)) = bs (rdOf ByteArray.empty y (i : Int)) := fun h => e (bs_inj h)
    rw [if_neg (fun h => e' (cmpS_eq h)), if_neg e']
theorem spl_piece_le (s : Str) : ∀ cur, ∀ p ∈ splC cur s, p.length ≤ cur.length + s.length := by
 induction s with
 | nil => intro cur p hp; rw [splC_nil] at hp; rw [List.mem_singleton.1 hp]; simp
 | cons c r ih =>
  intro cur p hp
  by_cases h : c = 47
  ·subst h
   rw [splC_slash] at hp
   rcases List.mem_cons.1 hp with rfl | hp
   ·simp
   ·have := ih [] p hp; simp only [List.length_nil, List.length_cons] at this ⊢; omega
  ·rw [splC_other cur r h] at hp
   have := ih _ p hp
   simp only [List.length_append, List.length_cons, List.length_nil] at this ⊢; omega
theorem pB_piece_le (a : ByteArray) : ∀ p ∈ pB a, p.size ≤ a.size := by
 intro p hp
 unfold pB at hp
 obtain ⟨q, hq, rfl⟩ := List.mem_map.1 hp
 have : (mk q).size = q.length := by rw [← bs_size, bs_mk]
 rw [this]
 unfold pcs at hq
 split at hq
 ·cases hq
 ·rw [← splC_whole] at hq
  have := spl_piece_le (bs a) [] q hq
  rw [bs_size] at this; simpa using this
theorem ref_cmp (a b : ByteArray) (ha : a.size ≤ 4294967295) (hb : b.size ≤ 4294967295) : Ev (fun k => copseref02_Cmp.f k a b) (cB a b) := by
 have hla := pB_length_le a
 refine Ev.bind (ref_split a (by omega)) (Ev.bind (ref_split b (by omega)) ?_)
 have := ref_cmp_run (pB a) (pB b) (by omega) (fun p hp => by have := pB_piece_le a p hp; omega) (pB a).length 0 (by omega) (by omega) (by omega)
 refine Ev.val this ?_
 rw [List.drop_zero, List.drop_zero, pB_bs, pB_bs]; rfl
theorem prog_common (x y : List ByteArray) (hx : x.length ≤ 4294967296) : Ev (fun k => path_common.f k x y) (comL x y : Int) := Ev.of (path_common.mono x y) (common_ends x y (by omega))
theorem prog_cmp (a b : ByteArray) (ha : a.size < 4294967281) (hb : b.size < 4294967281) : Ev (fun k => path_Cmp.f k a b) (cB a b) := by
 have hla := pB_length_le a
 refine Ev.bind (prog_split a ha) (Ev.bind (prog_split b hb) (Ev.bind (prog_common (pB a) (pB b) (by omega)) ?_))
 refine ⟨1, fun k hk => ?_⟩
 obtain ⟨k, rfl⟩ : ∃ m, k = m + 1 := ⟨k - 1, by omega⟩
 rw [cB_com]
 obtain ⟨hc1, hc2⟩ := comL_le (pB a) (pB b)
 simp only [path_Cmp.j0]
 by_cases h1 : comL (pB a) (pB b) < (pB a).length
 ·rw [if_pos (by omega)]
  by_cases h2 : comL (pB a) (pB b) < (pB b).length
  ·rw [if_pos (by rw [decide_eq_true_eq]; omega), if_pos (by omega), if_pos (by omega), if_pos (by omega), compare_string_is, if_pos ⟨h1, h2⟩]; rfl
  ·rw [if_neg (by rw [decide_eq_true_eq]; omega), compare_int_is, if_neg (show ¬ (comL (pB a) (pB b) < (pB a).length ∧ comL (pB a) (pB b) < (pB b).length) from fun h => h2 h.2)]; rfl
 ·rw [if_neg (by omega), if_neg (by decide), compare_int_is, if_neg (show ¬ (comL (pB a) (pB b) < (pB a).length ∧ comL (pB a) (pB b) < (pB b).length) from fun h => h1 h.1)]; rfl
def aboveB (a b : ByteArray) : Bool := decide ((pB a).length < (pB b).length) && decide (comL (pB a) (pB b) = (pB a).length)
theorem ref_shared_run (x y : List ByteArray) (hx : x.length ≤ 4294967296) (d : Nat) : ∀ i, x.length - i = d → i ≤ x.length → i ≤ y.length → Ev (fun k => copseref02_shared.l0 k x y (i : Int)) ((i + comL (x.drop i) (y.drop i) : Nat) : Int) := by
 induction d with
 | zero =>
  intro i hd hi hb
  refine ⟨1, fun k hk => ?_⟩
  obtain ⟨k, rfl⟩ : ∃ m, k = m + 1 := ⟨k - 1, by omega⟩
  simp only [copseref02_shared.l0]
  rw [if_neg (by omega), List.drop_of_length_le (l := x) (by omega)]; simp [comL]
 | succ d ih =>
  intro i hd hi hb
  rw [rdOf_drop x i (by omega)]
  by_cases h : i = y.length
  ·refine ⟨1, fun k hk => ?_⟩
   obtain ⟨k, rfl⟩ : ∃ m, k = m + 1 := ⟨k - 1, by omega⟩
   simp only [copseref02_shared.l0]
   rw [if_pos (by omega), if_neg (by omega), List.drop_of_length_le (l := y) (by omega)]; simp [comL]
  ·rw [rdOf_drop y i (by omega)]
   obtain ⟨K, hK⟩ := ih (i + 1) (by omega) (by omega) (by omega)
   dsimp only at hK
   refine ⟨K + 1, fun k hk => ?_⟩
   obtain ⟨k, rfl⟩ : ∃ m, k = m + 1 := ⟨k - 1, by omega⟩
   simp only [copseref02_shared.l0]
   rw [if_pos (by omega), if_pos (by omega), if_pos (by omega)]
   by_cases e : rdOf ByteArray.empty x (i : Int) = rdOf ByteArray.empty y (i : Int)
   ·rw [if_pos (by rw [e]), wrap_succ (n := x.length) (by omega) (by omega), hK k (by omega), e, comL_same]
    congr 2; omega
   ·rw [if_neg (fun h => e (bs_inj (by rw [← toList_bs, ← toList_bs]; exact h))), comL_diff e]; rfl
theorem ref_shared (x y : List ByteArray) (hx : x.length ≤ 4294967296) : Ev (fun k => copseref02_shared.f k x y) (comL x y : Int) := by
 have := ref_shared_run x y hx x.length 0 (by omega) (by omega) (by omega)
 refine Ev.val this ?_
 simp
theorem above_val (x y : List ByteArray) : ((comL x y : Int) == (x.length : Int)) = decide (comL x y = x.length) := by
 rw [Bool.eq_iff_iff, beq_iff_eq, decide_eq_true_eq]; omega
theorem ref_above (a b : ByteArray) (ha : a.size ≤ 4294967295) (hb : b.size ≤ 4294967295) : Ev (fun k => copseref02_Above.f k a b) (aboveB a b) := by
 have hla := pB_length_le a
 refine Ev.bind (ref_split a (by omega)) (Ev.bind (ref_split b (by omega)) ?_)
 unfold aboveB
 by_cases h : (pB a).length < (pB b).length
 ·refine Ev.congr (f := fun k => (copseref02_shared.f k (pB a) (pB b)).bind fun t => some (t == ((pB a).length : Int))) (fun k => by rw [if_pos (by omega)]) ?_
  refine Ev.bind (ref_shared (pB a) (pB b) (by omega)) (ev_pure fun k => ?_)
  rw [above_val, decide_eq_true h, Bool.true_and]
 ·refine ev_pure fun k => ?_
  rw [if_neg (by omega), decide_eq_false h, Bool.false_and]
theorem prog_above (a b : ByteArray) (ha : a.size < 4294967281) (hb : b.size < 4294967281) : Ev (fun k => path_Above.f k a b) (aboveB a b) := by
 have hla := pB_length_le a
 refine Ev.bind (prog_split a ha) (Ev.bind (prog_split b hb) ?_)
 unfold aboveB
 by_cases h : (pB a).length < (pB b).length
 ·refine Ev.congr (f := fun k => (path_common.f k (pB a) (pB b)).bind fun t => some (t == ((pB a).length : Int))) (fun k => by rw [if_pos (by omega)]) ?_
  refine Ev.bind (prog_common (pB a) (pB b) (by omega)) (ev_pure fun k => ?_)
  rw [above_val, decide_eq_true h, Bool.true_and]
 ·refine ev_pure fun k => ?_
  rw [if_neg (by omega), decide_eq_false h, Bool.false_and]
def lastIx : Str → Int → Int → Int
 | [], _, acc => acc
 | c :: r, i, acc => lastIx r (i + 1) (if c = 47 then i else acc)
theorem lastIx_snoc (l : Str) (c : UInt8) : ∀ i acc, lastIx (l ++ [c]) i acc = if c = 47 then i + l.length else lastIx l i acc := by
 induction l with
 | nil => intro i acc; simp [lastIx]
 | cons x l ih =>
  intro i acc
  simp only [List.cons_append, lastIx, ih, List.length_cons]
  split
  ·omega
  ·rfl
theorem lastIx_le (l : Str) : ∀ i acc : Int, acc < i + l.length → -1 ≤ acc → 0 ≤ i → lastIx l i acc < i + l.length ∧ -1 ≤ lastIx l i acc := by
 induction l with
 | nil => intro i acc h h1 _; exact ⟨h, h1⟩
 | cons x l ih =>
  intro i acc h h1 h0
  simp only [lastIx, List.length_cons] at h ⊢
  have := ih (i + 1) (if x = 47 then i else acc) (by split <;> omega) (by split <;> omega) (by omega)
  omega
def lastS (s : Str) : Int := lastIx s 0 (-1)
theorem lastS_bd (s : Str) : lastS s < s.length ∧ -1 ≤ lastS s := by
 have := lastIx_le s 0 (-1) (by omega) (by omega) (by omega)
 unfold lastS; omega
theorem ref_last_run (a : ByteArray) (ha : a.size ≤ 4294967296) (d : Nat) : ∀ (i : Nat) (acc : Int), a.size - i = d → i ≤ a.size → Ev (fun k => copseref02_last.l0 k a acc (i : Int)) (lastIx ((bs a).drop i) i acc) := by
 induction d with
 | zero =>
  intro i acc hd hi
  refine ⟨1, fun k hk => ?_⟩
  obtain ⟨k, rfl⟩ : ∃ m, k = m + 1 := ⟨k - 1, by omega⟩
  simp only [copseref02_last.l0]
  rw [if_neg (by omega), List.drop_of_length_le (by rw [bs_size]; omega)]; rfl
 | succ d ih =>
  intro i acc hd hi
  rw [bs_drop a i (by omega)]
  by_cases h : bt a (i : Int) = 47
  ·obtain ⟨K, hK⟩ := ih (i + 1) i (by omega) (by omega)
   dsimp only at hK
   refine ⟨K + 1, fun k hk => ?_⟩
   obtain ⟨k, rfl⟩ : ∃ m, k = m + 1 := ⟨k - 1, by omega⟩
   simp only [copseref02_last.l0]
   rw [if_pos (by omega), if_pos (by omega), if_pos h, wrap_succ (n := a.size) (by omega) (by omega), hK k (by omega), (bt_eq a i (by omega) 47 47 rfl).1 h]
   simp [lastIx]
  ·obtain ⟨K, hK⟩ := ih (i + 1) acc (by omega) (by omega)
   dsimp only at hK
   refine ⟨K + 1, fun k hk => ?_⟩
   obtain ⟨k, rfl⟩ : ∃ m, k = m + 1 := ⟨k - 1, by omega⟩
   simp only [copseref02_last.l0]
   have h' : (bs a)[i]'(by rw [bs_size]; omega) ≠ 47 := fun e => h ((bt_eq a i (by omega) 47 47 rfl).2 e)
   rw [if_pos (by omega), if_pos (by omega), if_neg h, wrap_succ (n := a.size) (by omega) (by omega), hK k (by omega)]
   simp [lastIx, h']
theorem ref_last (a : ByteArray) (ha : a.size ≤ 4294967296) : Ev (fun k => copseref02_last.f k a) (lastS (bs a)) :=
 Ev.val (ref_last_run a ha a.size 0 (-1) (by omega) (by omega)) rfl
theorem prog_last_run (a : ByteArray) (ha : a.size ≤ 4294967296) : ∀ j : Nat, j ≤ a.size → Ev (fun k => bytealg_LastIndexByteString.l0 k a 47 ((j : Int) - 1)) (lastIx ((bs a).take j) 0 (-1))
 | 0, _ => by
  refine ⟨1, fun k hk => ?_⟩
  obtain ⟨k, rfl⟩ : ∃ m, k = m + 1 := ⟨k - 1, by omega⟩
  simp only [bytealg_LastIndexByteString.l0]
  rw [if_neg (by omega)]; rfl
 | j + 1, hj => by
  have hlen : j < (bs a).length := by rw [bs_size]; omega
  rw [List.take_succ_eq_append_getElem hlen, lastIx_snoc]
  have ej : ((j + 1 : Nat) : Int) - 1 = (j : Int) := by omega
  rw [ej]
  by_cases h : bt a (j : Int) = 47
  ·refine ⟨1, fun k hk => ?_⟩
   obtain ⟨k, rfl⟩ : ∃ m, k = m + 1 := ⟨k - 1, by omega⟩
   simp only [bytealg_LastIndexByteString.l0]
   rw [if_pos (by omega), if_pos (by omega), if_pos (by omega), if_pos h, if_pos ((bt_eq a j (by omega) 47 47 rfl).1 h)]
   congr 1; rw [List.length_take]; omega
  ·obtain ⟨K, hK⟩ := prog_last_run a ha j (by omega)
   dsimp only at hK
   refine ⟨K + 1, fun k hk => ?_⟩
   obtain ⟨k, rfl⟩ : ∃ m, k = m + 1 := ⟨k - 1, by omega⟩
   simp only [bytealg_LastIndexByteString.l0]
   rw [if_pos (by omega), if_pos (by omega), if_pos (by omega), if_neg h, wrap_add (by omega) (by omega), hK k (by omega), if_neg (fun e => h ((bt_eq a j (by omega) 47 47 rfl).2 e))]
theorem prog_last (a : ByteArray) (ha : a.size ≤ 4294967296) : Ev (fun k => strings_LastIndexByte.f k a 47) (lastS (bs a)) := by
 refine Ev.bind (a := lastS (bs a)) (Ev.congr (f := fun k => bytealg_LastIndexByteString.l0 k a 47 ((a.size : Int) - 1)) (fun k => ?_) ?_) (ev_pure fun _ => rfl)
 ·unfold bytealg_LastIndexByteString.f
  rw [wrap_add (by omega) (by omega)]
 ·refine Ev.val (prog_last_run a ha a.size (Nat.le_refl _)) ?_
  rw [List.take_of_length_le (by rw [bs_size]; exact Nat.le_refl _)]; rfl
def dirB (a : ByteArray) : ByteArray := if lastS (bs a) < 0 then mk [] else a.extract 0 (lastS (bs a)).toNat
theorem ref_dir (a : ByteArray) (ha : a.size ≤ 4294967296) : Ev (fun k => copseref02_Dir.f k a) (dirB a) := by
 have hb := lastS_bd (bs a)
 rw [bs_size] at hb
 refine Ev.bind (ref_last a ha) (ev_pure fun k => ?_)
 unfold dirB
 by_cases h : lastS (bs a) < 0
 ·rw [if_pos h, if_pos h]; rfl
 ·rw [if_neg h, if_neg h, if_pos (by omega), if_pos (by omega)]
theorem prog_dir (a : ByteArray) (ha : a.size ≤ 4294967296) : Ev (fun k => path_Dir.f k a) (dirB a) := by
 have hb := lastS_bd (bs a)
 rw [bs_size] at hb
 refine Ev.bind (prog_last a ha) (ev_pure fun k => ?_)
 unfold dirB
 by_cases h : lastS (bs a) < 0
 ·have e : mx 0 (lastS (bs a)) = 0 := by unfold mx; omega
  rw [e, if_pos (by omega), if_pos (by omega), if_pos h]
  congr 1
  apply bs_inj
  rw [Int.toNat_zero, extract_mk, bs_mk]; rfl
 ·have e : mx 0 (lastS (bs a)) = lastS (bs a) := by unfold mx; omega
  rw [e, if_neg h, if_pos (by omega), if_pos (by omega)]
theorem dirB_size (a : ByteArray) : (dirB a).size ≤ a.size := by
 unfold dirB
 split
 ·exact Nat.zero_le _
 ·rw [ByteArray.size_extract]; omega
end Go.Proofs.YtdfkaclflmgkeaaGreatDoor.PAll
namespace Go.Proofs.YtdfkaclflmgkeaaGreatDoor.PAll
open Go.RowKit Go.Proofs.YtdfkaclflmgkeaaGreatDoorW.PrintWords Go.Proofs.YtdfkaclflmgkeaaGreatDoorW.PrintLast Go.Proofs.YtdfkaclflmgkeaaGreatDoorW.PrintMore
open Go.Proofs.YtdfkaclflmgkeaaGreatDoor.Sp
abbrev Fits (l : List ByteArray) : Prop := ∀ p ∈ l, p.size ≤ 1073741824
theorem Fits.at_ {l : List ByteArray} (h : Fits l) {i : Nat} (hi : i < l.length) : (rdOf ByteArray.empty l (i : Int)).size ≤ 1073741824 :=
 h _ (List.mem_of_mem_drop (i := i) (by rw [rdOf_drop l i hi]; exact List.mem_cons_self))
def put (x : ByteArray) : List ByteArray → List ByteArray
 | [] => [x]
 | y :: l => if cB x y < 0 then x :: y :: l else y :: put x l
theorem put_length (x : ByteArray) : ∀ l, (put x l).length = l.length + 1
 | [] => rfl
 | y :: l => by unfold put; split <;> simp [put_length x l]
theorem mem_put {x z : ByteArray} : ∀ {l : List ByteArray}, z ∈ put x l ↔ z = x ∨ z ∈ l
 | [] => by simp [put]
 | y :: l => by
  unfold put
  split
  ·simp
  ·simp only [List.mem_cons, mem_put (l := l)]
   constructor <;> (intro h; rcases h with h | h | h <;> simp [h])
theorem put_ins {x : ByteArray} : ∀ {l : List ByteArray}, x ∉ l → put x l = ins x l
 | [], _ => rfl
 | y :: l, h => by
  unfold put ins
  split
  ·rfl
  ·rw [if_neg (fun e => h (by rw [e]; exact List.mem_cons_self)), put_ins (fun hx => h (List.mem_cons_of_mem _ hx))]
theorem ins_mem {x : ByteArray} {l : List ByteArray} (h : Rises l) (hx : x ∈ l) : ins x l = l :=
 rises_uniq _ _ (rises_ins h) h fun z => by
  rw [mem_ins]
  constructor
  ·rintro (rfl | h)
   ·exact hx
   ·exact h
  ·exact .inr
theorem norm_fold_ins : ∀ (l acc : List ByteArray), Rises acc → l.foldl (fun acc x => if x ∈ acc then acc else put x acc) acc = l.foldl (fun acc x => ins x acc) acc
 | [], _, _ => rfl
 | x :: l, acc, h => by
  simp only [List.foldl_cons]
  have e : (if x ∈ acc then acc else put x acc) = ins x acc := by
   split
   ·rename_i hx; exact (ins_mem h hx).symm
   ·rename_i hx; exact put_ins hx
  rw [e]
  exact norm_fold_ins l _ (rises_ins h)
theorem ref_norm_in (x0 out : List ByteArray) (i : Nat) (hi : i < x0.length) (hx0 : x0.length ≤ 4294967296) (ho : out.length ≤ 4294967296) (hf0 : Fits x0) (hfo : Fits out) (R : List ByteArray) (d : Nat) :
  ∀ (kk : Nat) (next : List ByteArray) (laid : Bool), out.length - kk = d → kk ≤ out.length → next.length ≤ 2 * kk →
   Ev (fun k => copseref03_Norm.l0 k x0 (next ++ (if laid = true then out.drop kk else put (rdOf ByteArray.empty x0 (i : Int)) (out.drop kk))) ((i + 1 : Nat) : Int)) R →
   Ev (fun k => copseref03_Norm.l1 k x0 out (i : Int) next laid (kk : Int)) R := by
 induction d with
 | zero =>
  intro kk next laid hd hk hn ⟨K, hK⟩
  dsimp only at hK
  refine ⟨K + 1, fun k hk => ?_⟩
  obtain ⟨k, rfl⟩ : ∃ m, k = m + 1 := ⟨k - 1, by omega⟩
  simp only [copseref03_Norm.l1]
  rw [List.drop_of_length_le (l := out) (by omega)] at hK
  rw [if_neg (by omega)]
  cases laid with
  | true =>
   rw [if_pos rfl] at hK
   rw [if_pos rfl]
   rw [List.append_nil] at hK
   rw [wrap_succ (n := x0.length) (by omega) (by omega)]
   exact hK k (by omega)
  | false =>
   rw [if_neg (by decide)] at hK ⊢
   rw [if_pos (by omega), if_pos (by omega), if_pos (by omega), wrap_succ (n := x0.length) (by omega) (by omega)]
   exact hK k (by omega)
 | succ d ih =>
  intro kk next laid hd hk hn h
  have hlt : kk < out.length := by omega
  rw [rdOf_drop out kk hlt] at h
  cases laid with
  | true =>
   obtain ⟨K, hK⟩ := ih (kk + 1) (next ++ [rdOf ByteArray.empty out (kk : Int)]) true (by omega) (by omega) (by simp; omega) (by
    rw [if_pos rfl] at h ⊢
    rw [List.append_assoc]; exact h)
   dsimp only at hK
   refine ⟨K + 1, fun k hk => ?_⟩
   obtain ⟨k, rfl⟩ : ∃ m, k = m + 1 := ⟨k - 1, by omega⟩
   simp only [copseref03_Norm.l1]
   rw [if_pos (by omega), if_pos trivial, if_pos (by omega), if_pos (by omega), wrap_succ (n := out.length) (by omega) (by omega)]
   exact hK k (by omega)
  | false =>
   have hs1 := hf0.at_ hi
   have hs2 := hfo.at_ hlt
   obtain ⟨K2, hK2⟩ := ref_cmp (rdOf ByteArray.empty x0 (i : Int)) (rdOf ByteArray.empty out (kk : Int)) (by omega) (by omega)
   dsimp only at hK2
   rw [if_neg (by decide)] at h
   unfold put at h
   by_cases c : cB (rdOf ByteArray.empty x0 (i : Int)) (rdOf ByteArray.empty out (kk : Int)) < 0
   ·rw [if_pos c] at h
    obtain ⟨K, hK⟩ := ih (kk + 1) (next ++ [rdOf ByteArray.empty x0 (i : Int)] ++ [rdOf ByteArray.empty out (kk : Int)]) true (by omega) (by omega) (by simp; omega) (by
     rw [if_pos rfl, List.append_assoc, List.append_assoc]; exact h)
    dsimp only at hK
    refine ⟨max K K2 + 1, fun k hk => ?_⟩
    obtain ⟨k, rfl⟩ : ∃ m, k = m + 1 := ⟨k - 1, by omega⟩
    simp only [copseref03_Norm.l1]
    rw [if_pos (by omega), if_neg (by decide), if_pos (by omega), if_pos (by omega), if_pos (by omega), hK2 k (by omega), Option.bind_some, if_pos c, if_pos (by omega), Option.bind_some, if_pos (by rw [List.length_append, List.length_singleton]; omega), wrap_succ (n := out.length) (by omega) (by omega)]
    exact hK k (by omega)
   ·rw [if_neg c] at h
    obtain ⟨K, hK⟩ := ih (kk + 1) (next ++ [rdOf ByteArray.empty out (kk : Int)]) false (by omega) (by omega) (by simp; omega) (by
     rw [if_neg (by decide), List.append_assoc]; exact h)
    dsimp only at hK
    refine ⟨max K K2 + 1, fun k hk => ?_⟩
    obtain ⟨k, rfl⟩ : ∃ m, k = m + 1 := ⟨k - 1, by omega⟩
    simp only [copseref03_Norm.l1]
    rw [if_pos (by omega), if_neg (by decide), if_pos (by omega), if_pos (by omega), if_pos (by omega), hK2 k (by omega), Option.bind_some, if_neg c, if_pos (by omega), wrap_succ (n := out.length) (by omega) (by omega)]
    exact hK k (by omega)
theorem ref_norm_run (x0 : List ByteArray) (hx0 : x0.length ≤ 4294967295) (hf0 : Fits x0) (d : Nat) : ∀ (i : Nat) (acc : List ByteArray), x0.length - i = d → i ≤ x0.length → acc.length ≤ i → Fits acc →
  Ev (fun k => copseref03_Norm.l0 k x0 acc (i : Int)) ((x0.drop i).foldl (fun acc x => if x ∈ acc then acc else put x acc) acc) := by
 induction d with
 | zero =>
  intro i acc hd hi ha hf
  refine ⟨1, fun k hk => ?_⟩
  obtain ⟨k, rfl⟩ : ∃ m, k = m + 1 := ⟨k - 1, by omega⟩
  simp only [copseref03_Norm.l0]
  rw [if_neg (by omega), List.drop_of_length_le (by omega)]; rfl
 | succ d ih =>
  intro i acc hd hi ha hf
  have hlt : i < x0.length := by omega
  rw [rdOf_drop x0 i hlt, List.foldl_cons]
  obtain ⟨K2, hK2⟩ := ref_has acc (rdOf ByteArray.empty x0 (i : Int)) (by omega)
  dsimp only at hK2
  by_cases h : rdOf ByteArray.empty x0 (i : Int) ∈ acc
  ·obtain ⟨K, hK⟩ := ih (i + 1) acc (by omega) (by omega) (by omega) hf
   dsimp only at hK
   rw [if_pos h]
   refine ⟨max K K2 + 1, fun k hk => ?_⟩
   obtain ⟨k, rfl⟩ : ∃ m, k = m + 1 := ⟨k - 1, by omega⟩
   simp only [copseref03_Norm.l0]
   rw [if_pos (by omega), if_pos (by omega), hK2 k (by omega), Option.bind_some, if_pos (by simpa using h), wrap_succ (n := x0.length) (by omega) (by omega)]
   exact hK k (by omega)
  ·rw [if_neg h]
   have hnext := ih (i + 1) (put (rdOf ByteArray.empty x0 (i : Int)) acc) (by omega) (by omega) (by rw [put_length]; omega) (fun p hp => by
    rcases mem_put.1 hp with rfl | hp
    ·exact hf0.at_ hlt
    ·exact hf p hp)
   obtain ⟨K, hK⟩ := ref_norm_in x0 acc i hlt (by omega) (by omega) hf0 hf _ acc.length 0 [] false (by omega) (by omega) (by simp) (by
    rw [if_neg (by decide), List.nil_append, List.drop_zero]; exact hnext)
   dsimp only at hK
   refine ⟨max K K2 + 1, fun k hk => ?_⟩
   obtain ⟨k, rfl⟩ : ∃ m, k = m + 1 := ⟨k - 1, by omega⟩
   simp only [copseref03_Norm.l0]
   rw [if_pos (by omega), if_pos (by omega), hK2 k (by omega), Option.bind_some, if_neg (by simpa using h)]
   exact hK k (by omega)
theorem ref_norm (l : List ByteArray) (hl : l.length ≤ 4294967295) (hf : Fits l) : Ev (fun k => copseref03_Norm.f k l) (norm l) := by
 refine Ev.val (ref_norm_run l hl hf l.length 0 [] (by omega) (by omega) (by simp) (fun p hp => by cases hp)) ?_
 rw [List.drop_zero]
 exact norm_fold_ins l [] List.Pairwise.nil
theorem prog_norm (l : List ByteArray) (hl : l.length ≤ 4294967295) (hf : Fits l) : Ev (fun k => paths_Norm.f k l) (norm l) :=
 ev_pure fun k => by unfold paths_Norm.f; rw [if_pos ⟨by omega, fun x hx => by have := hf x hx; omega⟩]
theorem fits_norm {l : List ByteArray} (h : Fits l) : Fits (norm l) := fun p hp => h p (mem_norm.1 hp)
theorem ref_some_run (a b : List ByteArray) (inn : Bool) (ha : a.length ≤ 1073741824) (hb : b.length ≤ 1073741824) (hfa : Fits a) (d : Nat) : ∀ (i : Nat) (acc : List ByteArray), a.length - i = d → i ≤ a.length → acc.length ≤ i → Fits acc →
  Ev (fun k => copseref03_some.l0 k a b inn acc (i : Int)) (norm (acc ++ (a.drop i).filter fun x => decide (x ∈ b) == inn)) := by
 induction d with
 | zero =>
  intro i acc hd hi hl hf
  obtain ⟨K, hK⟩ := ref_norm acc (by omega) hf
  dsimp only at hK
  refine ⟨K + 1, fun k hk => ?_⟩
  obtain ⟨k, rfl⟩ : ∃ m, k = m + 1 := ⟨k - 1, by omega⟩
  simp only [copseref03_some.l0]
  rw [if_neg (by omega), hK k (by omega), List.drop_of_length_le (by omega)]; simp
 | succ d ih =>
  intro i acc hd hi hl hf
  have hlt : i < a.length := by omega
  rw [rdOf_drop a i hlt]
  obtain ⟨K2, hK2⟩ := ref_has b (rdOf ByteArray.empty a (i : Int)) (by omega)
  dsimp only at hK2
  by_cases h : (decide (rdOf ByteArray.empty a (i : Int) ∈ b) == inn) = true
  ·obtain ⟨K, hK⟩ := ih (i + 1) (acc ++ [rdOf ByteArray.empty a (i : Int)]) (by omega) (by omega) (by simp; omega) (fun p hp => by
    rcases List.mem_append.1 hp with hp | hp
    ·exact hf p hp
    ·rw [List.mem_singleton.1 hp]; exact hfa.at_ hlt)
   dsimp only at hK
   refine ⟨max K K2 + 1, fun k hk => ?_⟩
   obtain ⟨k, rfl⟩ : ∃ m, k = m + 1 := ⟨k - 1, by omega⟩
   simp only [copseref03_some.l0]
   rw [if_pos (by omega), if_pos (by omega), hK2 k (by omega), Option.bind_some, if_pos h, if_pos (by omega), wrap_succ (n := a.length) (by omega) (by omega), hK k (by omega), List.filter_cons_of_pos (by exact h), List.append_assoc]; rfl
  ·obtain ⟨K, hK⟩ := ih (i + 1) acc (by omega) (by omega) (by omega) hf
   dsimp only at hK
   refine ⟨max K K2 + 1, fun k hk => ?_⟩
   obtain ⟨k, rfl⟩ : ∃ m, k = m + 1 := ⟨k - 1, by omega⟩
   simp only [copseref03_some.l0]
   rw [if_pos (by omega), if_pos (by omega), hK2 k (by omega), Option.bind_some, if_neg h, wrap_succ (n := a.length) (by omega) (by omega), hK k (by omega), List.filter_cons_of_neg (by exact h)]
theorem ref_some (a b : List ByteArray) (inn : Bool) (ha : a.length ≤ 1073741824) (hb : b.length ≤ 1073741824) (hfa : Fits a) : Ev (fun k => copseref03_some.f k a b inn) (norm (a.filter fun x => decide (x ∈ b) == inn)) :=
 Ev.val (ref_some_run a b inn ha hb hfa a.length 0 [] (by omega) (by omega) (by simp) (fun p hp => by cases hp)) (by simp)
theorem ref_minus (a b : List ByteArray) (ha : a.length ≤ 1073741824) (hb : b.length ≤ 1073741824) (hfa : Fits a) : Ev (fun k => copseref03_Minus.f k a b) (norm (a.filter fun x => decide (x ∈ b) == false)) := Ev.bind (ref_some a b false ha hb hfa) (ev_pure fun _ => rfl)
end Go.Proofs.YtdfkaclflmgkeaaGreatDoor.PAll
namespace Go.Proofs.YtdfkaclflmgkeaaGreatDoor.PAll
open Go.RowKit Go.Proofs.YtdfkaclflmgkeaaGreatDoorW.PrintWords Go.Proofs.YtdfkaclflmgkeaaGreatDoorW.PrintLast Go.Proofs.YtdfkaclflmgkeaaGreatDoorW.PrintMore
open Go.Proofs.YtdfkaclflmgkeaaGreatDoor.Sp
theorem comL_prefix : ∀ l m : List ByteArray, comL l m = l.length ↔ l <+: m
 | [], m => by simp [comL]
 | x :: l, [] => by simp [comL]
 | x :: l, y :: m => by
  by_cases h : x = y
  ·subst h
   rw [comL_same, List.length_cons, List.cons_prefix_cons]
   have := comL_prefix l m
   constructor
   ·intro e; exact ⟨rfl, this.1 (by omega)⟩
   ·rintro ⟨_, e⟩; rw [this.2 e]
  ·rw [comL_diff h, List.cons_prefix_cons]
   simp [h]
theorem above_iff (a b : ByteArray) : aboveB a b = true ↔ pB a <+: pB b ∧ (pB a).length < (pB b).length := by
 unfold aboveB
 rw [Bool.and_eq_true, decide_eq_true_eq, decide_eq_true_eq, comL_prefix, and_comm]
theorem pre_lt : ∀ A B : List Str, A <+: B → A.length < B.length → cmpL A B < 0
 | [], _ :: _, _, _ => by simp [cmpL]
 | _, [], _, h => by simp at h
 | x :: A, y :: B, h, hl => by
  obtain ⟨e, hp⟩ := List.cons_prefix_cons.1 h
  subst e
  simp only [cmpL, if_true]
  exact pre_lt A B hp (by simpa using hl)
theorem pre_between : ∀ A B C : List Str, A <+: B → cmpL A C < 0 → cmpL C B < 0 → A <+: C
 | [], _, _, _, _, _ => List.nil_prefix
 | _ :: _, [], _, h, _, _ => by simp at h
 | _ :: _, _ :: _, [], _, h, _ => by simp [cmpL] at h
 | x :: A, y :: B, z :: C, h, h1, h2 => by
  obtain ⟨e, hp⟩ := List.cons_prefix_cons.1 h
  subst e
  by_cases e : x = z
  ·subst e
   simp only [cmpL, if_true] at h1 h2
   exact List.cons_prefix_cons.2 ⟨rfl, pre_between A B C hp h1 h2⟩
  ·simp only [cmpL, if_neg e, if_neg (Ne.symm e)] at h1 h2
   have := cmpS_neg x z
   omega
theorem pB_map_prefix {a b : ByteArray} : pB a <+: pB b ↔ pcs (bs a) <+: pcs (bs b) := by
 rw [← pB_bs a, ← pB_bs b]
 constructor
 ·rintro ⟨t, h⟩; exact ⟨t.map bs, by rw [← h, List.map_append]⟩
 ·intro h
  have := h.map mk
  rwa [List.map_map, List.map_map, show mk ∘ bs = id from funext mk_bs, List.map_id, List.map_id] at this
theorem pB_len (a : ByteArray) : (pB a).length = (pcs (bs a)).length := by rw [← pB_bs a, List.length_map]
theorem above_lt {a b : ByteArray} (h : aboveB a b = true) : cB a b < 0 := by
 obtain ⟨h1, h2⟩ := (above_iff a b).1 h
 rw [pB_len, pB_len] at h2
 exact pre_lt _ _ (pB_map_prefix.1 h1) h2
theorem above_self (a : ByteArray) : aboveB a a = false := by
 rw [← Bool.not_eq_true]
 intro h; have := above_lt h; rw [cB_self] at this; omega
theorem above_trans {a b c : ByteArray} (h : aboveB a b = true) (k : aboveB b c = true) : aboveB a c = true := by
 rw [above_iff] at *
 exact ⟨h.1.trans k.1, Nat.lt_trans h.2 k.2⟩
theorem above_between {a b c : ByteArray} (h : aboveB a b = true) (h1 : cB a c < 0) (h2 : cB c b < 0) : aboveB a c = true := by
 rw [above_iff] at *
 have hp := pre_between _ _ _ (pB_map_prefix.1 h.1) h1 h2
 refine ⟨pB_map_prefix.2 hp, ?_⟩
 rcases Nat.lt_or_ge (pB a).length (pB c).length with hl | hl
 ·exact hl
 ·exfalso
  rw [pB_len, pB_len] at hl
  have e := hp.eq_of_length_le hl
  have : cB a c = 0 := by show cmpL _ _ = 0; rw [e, cmpL_self]
  omega
def isHead (l : List ByteArray) (x : ByteArray) : Bool := l.all fun y => !aboveB y x
def heads (l : List ByteArray) : List ByteArray := norm (l.filter (isHead l))
theorem isHead_iff {l : List ByteArray} {x : ByteArray} : isHead l x = true ↔ ∀ y ∈ l, aboveB y x = false := by
 unfold isHead
 rw [List.all_eq_true]
 simp
theorem ref_heads_in (x0 acc : List ByteArray) (i : Nat) (hi : i < x0.length) (hl : x0.length ≤ 1073741824) (hf : Fits x0) (ha : acc.length ≤ i) (R : List ByteArray) (d : Nat) :
  ∀ (kk : Nat) (hd : Bool), x0.length - kk = d → kk ≤ x0.length →
   Ev (fun k => copseref03_Heads.l0 k x0 (if (hd && (x0.drop kk).all fun y => !aboveB y (rdOf ByteArray.empty x0 (i : Int))) = true then acc ++ [rdOf ByteArray.empty x0 (i : Int)] else acc) ((i + 1 : Nat) : Int)) R →
   Ev (fun k => copseref03_Heads.l1 k x0 acc (i : Int) hd (kk : Int)) R := by
 induction d with
 | zero =>
  intro kk hd h1 h2 ⟨K, hK⟩
  dsimp only at hK
  rw [List.drop_of_length_le (by omega)] at hK
  simp only [List.all_nil, Bool.and_true] at hK
  refine ⟨K + 1, fun k hk => ?_⟩
  obtain ⟨k, rfl⟩ : ∃ m, k = m + 1 := ⟨k - 1, by omega⟩
  have e := hK k (by omega)
  simp only [copseref03_Heads.l1]
  rw [if_neg (by omega)]
  cases hd
  ·rw [if_neg (by decide)] at e ⊢
   rw [wrap_succ (n := x0.length) (by omega) (by omega)]; exact e
  ·rw [if_pos rfl] at e ⊢
   rw [if_pos (by omega), if_pos (by omega), if_pos (by omega), wrap_succ (n := x0.length) (by omega) (by omega)]; exact e
 | succ d ih =>
  intro kk hd h1 h2 h
  have hlt : kk < x0.length := by omega
  rw [rdOf_drop x0 kk hlt] at h
  cases hd with
  | false =>
   obtain ⟨K, hK⟩ := ih (kk + 1) false (by omega) (by omega) (by simpa using h)
   dsimp only at hK
   refine ⟨K + 1, fun k hk => ?_⟩
   obtain ⟨k, rfl⟩ : ∃ m, k = m + 1 := ⟨k - 1, by omega⟩
   simp only [copseref03_Heads.l1]
   rw [if_pos (by omega), if_neg (by decide), wrap_succ (n := x0.length) (by omega) (by omega)]
   exact hK k (by omega)
  | true =>
   have hs1 := hf.at_ hi
   have hs2 := hf.at_ hlt
   obtain ⟨K2, hK2⟩ := ref_above (rdOf ByteArray.empty x0 (kk : Int)) (rdOf ByteArray.empty x0 (i : Int)) (by omega) (by omega)
   dsimp only at hK2
   obtain ⟨K, hK⟩ := ih (kk + 1) (!aboveB (rdOf ByteArray.empty x0 (kk : Int)) (rdOf ByteArray.empty x0 (i : Int))) (by omega) (by omega) (by simpa using h)
   dsimp only at hK
   refine ⟨max K K2 + 1, fun k hk => ?_⟩
   obtain ⟨k, rfl⟩ : ∃ m, k = m + 1 := ⟨k - 1, by omega⟩
   simp only [copseref03_Heads.l1]
   rw [if_pos (by omega), if_pos trivial, if_pos (by omega), if_pos (by omega), if_pos (by omega), hK2 k (by omega), Option.bind_some, wrap_succ (n := x0.length) (by omega) (by omega)]
   exact hK k (by omega)
theorem ref_heads_run (x0 : List ByteArray) (hl : x0.length ≤ 1073741824) (hf : Fits x0) (d : Nat) : ∀ (i : Nat) (acc : List ByteArray), x0.length - i = d → i ≤ x0.length → acc.length ≤ i → Fits acc →
  Ev (fun k => copseref03_Heads.l0 k x0 acc (i : Int)) (norm (acc ++ (x0.drop i).filter (isHead x0))) := by
 induction d with
 | zero =>
  intro i acc hd hi ha hfa
  obtain ⟨K, hK⟩ := ref_norm acc (by omega) hfa
  dsimp only at hK
  refine ⟨K + 1, fun k hk => ?_⟩
  obtain ⟨k, rfl⟩ : ∃ m, k = m + 1 := ⟨k - 1, by omega⟩
  simp only [copseref03_Heads.l0]
  rw [if_neg (by omega), hK k (by omega), List.drop_of_length_le (by omega)]; simp
 | succ d ih =>
  intro i acc hd hi ha hfa
  have hlt : i < x0.length := by omega
  rw [rdOf_drop x0 i hlt]
  have hin := ref_heads_in x0 acc i hlt hl hf ha (norm (acc ++ (rdOf ByteArray.empty x0 (i : Int) :: x0.drop (i + 1)).filter (isHead x0))) x0.length 0 true (by omega) (by omega) (by
   simp only [List.drop_zero, Bool.true_and]
   change Ev (fun k => copseref03_Heads.l0 k x0 (if isHead x0 (rdOf ByteArray.empty x0 (i : Int)) = true then _ else _) _) _
   by_cases h : isHead x0 (rdOf ByteArray.empty x0 (i : Int)) = true
   ·rw [if_pos h, List.filter_cons_of_pos h]
    refine Ev.val (ih (i + 1) (acc ++ [rdOf ByteArray.empty x0 (i : Int)]) (by omega) (by omega) (by simp; omega) (fun p hp => ?_)) (by simp)
    rcases List.mem_append.1 hp with hp | hp
    ·exact hfa p hp
    ·rw [List.mem_singleton.1 hp]; exact hf.at_ hlt
   ·rw [if_neg h, List.filter_cons_of_neg h]
    exact ih (i + 1) acc (by omega) (by omega) (by omega) hfa)
  obtain ⟨K, hK⟩ := hin
  dsimp only at hK
  refine ⟨K + 1, fun k hk => ?_⟩
  obtain ⟨k, rfl⟩ : ∃ m, k = m + 1 := ⟨k - 1, by omega⟩
  simp only [copseref03_Heads.l0]
  rw [if_pos (by omega)]
  exact hK k (by omega)
theorem ref_heads (l : List ByteArray) (hl : l.length ≤ 1073741824) (hf : Fits l) : Ev (fun k => copseref03_Heads.f k l) (heads l) :=
 Ev.val (ref_heads_run l hl hf l.length 0 [] (by omega) (by omega) (by simp) (fun p hp => by cases hp)) (by simp [heads])
def stepH (out : List ByteArray) (p : ByteArray) : List ByteArray := if out.length = 0 then out ++ [p] else if aboveB (out.getD (out.length - 1) ByteArray.empty) p = true then out else out ++ [p]
structure HeadsOf (n1 out : List ByteArray) : Prop where
 rises : Rises out
 mem : ∀ p, p ∈ out ↔ p ∈ n1 ∧ isHead n1 p = true
 cover : ∀ y ∈ n1, ∃ h ∈ out, h = y ∨ aboveB h y = true
theorem last_mem {out : List ByteArray} (h : out.length ≠ 0) : out.getD (out.length - 1) ByteArray.empty ∈ out := by
 rw [List.getD_eq_getElem?_getD, List.getElem?_eq_getElem (by omega), Option.getD_some]; exact List.getElem_mem _
theorem le_last {out : List ByteArray} (hr : Rises out) (_h : out.length ≠ 0) {z : ByteArray} (hz : z ∈ out) : z = out.getD (out.length - 1) ByteArray.empty ∨ cB z (out.getD (out.length - 1) ByteArray.empty) < 0 := by
 obtain ⟨i, hi, rfl⟩ := List.getElem_of_mem hz
 rw [List.getD_eq_getElem?_getD, List.getElem?_eq_getElem (by omega), Option.getD_some]
 by_cases e : i = out.length - 1
 ·left; subst e; rfl
 ·right; exact List.pairwise_iff_getElem.1 hr i (out.length - 1) hi (by omega) (by omega)
theorem HeadsOf.step {n1 out : List ByteArray} (h : HeadsOf n1 out) (p : ByteArray) (hp : ∀ y ∈ n1, cB y p < 0) : HeadsOf (n1 ++ [p]) (stepH out p) := by
 have back : ∀ q ∈ n1, (isHead (n1 ++ [p]) q = true ↔ isHead n1 q = true) := fun q hq => by
  rw [isHead_iff, isHead_iff]
  constructor
  ·intro k y hy; exact k y (List.mem_append_left _ hy)
  ·intro k y hy
   rcases List.mem_append.1 hy with hy | hy
   ·exact k y hy
   ·rw [List.mem_singleton.1 hy, ← Bool.not_eq_true]
    intro e; have h1 := above_lt e; have h2 := hp q hq; have := cB_neg p q; omega
 have keep : (∃ y ∈ n1, aboveB y p = true) → out.length ≠ 0 ∧ aboveB (out.getD (out.length - 1) ByteArray.empty) p = true := by
  rintro ⟨y, hy, hyp⟩
  obtain ⟨g, hg, hgy⟩ := h.cover y hy
  have hgp : aboveB g p = true := by
   rcases hgy with rfl | hgy
   ·exact hyp
   ·exact above_trans hgy hyp
  have hne : out.length ≠ 0 := fun e => by rw [List.eq_nil_of_length_eq_zero e] at hg; cases hg
  refine ⟨hne, ?_⟩
  rcases le_last h.rises hne hg with e | hlt
  ·rw [← e]; exact hgp
  ·have hz := (h.mem _).1 (last_mem hne)
   have := above_between hgp hlt (hp _ hz.1)
   have k := isHead_iff.1 hz.2 g ((h.mem g).1 hg).1
   rw [this] at k; cases k
 by_cases c : ∃ y ∈ n1, aboveB y p = true
 ·obtain ⟨h1, h2⟩ := keep c
  have e : stepH out p = out := by unfold stepH; rw [if_neg h1, if_pos h2]
  rw [e]
  refine ⟨h.rises, fun q => ?_, fun y hy => ?_⟩
  ·rw [h.mem]
   constructor
   ·rintro ⟨hq, hh⟩; exact ⟨List.mem_append_left _ hq, (back q hq).2 hh⟩
   ·rintro ⟨hq, hh⟩
    rcases List.mem_append.1 hq with hq | hq
    ·exact ⟨hq, (back q hq).1 hh⟩
    ·rw [List.mem_singleton.1 hq] at hh
     obtain ⟨y, hy, hyp⟩ := c
     have := isHead_iff.1 hh y (List.mem_append_left _ hy)
     rw [hyp] at this; cases this
  ·rcases List.mem_append.1 hy with hy | hy
   ·exact h.cover y hy
   ·rw [List.mem_singleton.1 hy]; exact ⟨_, last_mem h1, .inr h2⟩
 ·have hnot : ∀ y ∈ n1, aboveB y p = false := fun y hy => by rw [← Bool.not_eq_true]; exact fun e => c ⟨y, hy, e⟩
  have e : stepH out p = out ++ [p] := by
   unfold stepH
   by_cases h0 : out.length = 0
   ·rw [if_pos h0]
   ·rw [if_neg h0, if_neg (by rw [hnot _ ((h.mem _).1 (last_mem h0)).1]; decide)]
  rw [e]
  refine ⟨List.pairwise_append.2 ⟨h.rises, List.pairwise_singleton _ _, fun a ha b hb => by rw [List.mem_singleton.1 hb]; exact hp a ((h.mem a).1 ha).1⟩, fun q => ?_, fun y hy => ?_⟩
  ·rw [List.mem_append, List.mem_append, h.mem, List.mem_singleton]
   constructor
   ·rintro (⟨hq, hh⟩ | rfl)
    ·exact ⟨.inl hq, (back q hq).2 hh⟩
    ·refine ⟨.inr rfl, isHead_iff.2 fun y hy => ?_⟩
     rcases List.mem_append.1 hy with hy | hy
     ·exact hnot y hy
     ·rw [List.mem_singleton.1 hy]; exact above_self q
   ·rintro ⟨hq | rfl, hh⟩
    ·exact .inl ⟨hq, (back q hq).1 hh⟩
    ·exact .inr rfl
  ·rcases List.mem_append.1 hy with hy | hy
   ·obtain ⟨g, hg, hgy⟩ := h.cover y hy
    exact ⟨g, List.mem_append_left _ hg, hgy⟩
   ·exact ⟨p, by simp, .inl (List.mem_singleton.1 hy).symm⟩
theorem heads_fold (n2 : List ByteArray) : ∀ (n1 out : List ByteArray), Rises (n1 ++ n2) → HeadsOf n1 out → HeadsOf (n1 ++ n2) (n2.foldl stepH out) := by
 induction n2 with
 | nil => intro n1 out _ h; simpa using h
 | cons p n2 ih =>
  intro n1 out hr h
  rw [List.foldl_cons]
  have e : n1 ++ p :: n2 = (n1 ++ [p]) ++ n2 := by simp
  rw [e] at hr ⊢
  refine ih (n1 ++ [p]) _ hr (h.step p fun y hy => ?_)
  have := (List.pairwise_append.1 hr).1
  exact (List.pairwise_append.1 this).2.2 y hy p (by simp)
theorem heads_norm (l : List ByteArray) : (norm l).foldl stepH [] = heads l := by
 have h := heads_fold (norm l) [] [] (by simpa using rises_norm l) ⟨List.Pairwise.nil, by simp, by simp⟩
 rw [List.nil_append] at h
 refine (norm_is h.rises fun z => ?_).symm
 rw [h.mem, mem_norm, List.mem_filter, isHead_iff, isHead_iff]
 simp only [mem_norm]
theorem prog_heads_run (n : List ByteArray) (hl : n.length ≤ 1073741824) (hf : Fits n) (d : Nat) : ∀ (i : Nat) (out : List ByteArray), n.length - i = d → i ≤ n.length → out.length ≤ i → Fits out →
  Ev (fun k => paths_Heads.l0 k out n (n.length : Int) (i : Int)) ((n.drop i).foldl stepH out) := by
 induction d with
 | zero =>
  intro i out hd hi ha hfa
  refine ⟨1, fun k hk => ?_⟩
  obtain ⟨k, rfl⟩ : ∃ m, k = m + 1 := ⟨k - 1, by omega⟩
  simp only [paths_Heads.l0]
  rw [if_neg (by omega), List.drop_of_length_le (by omega)]; rfl
 | succ d ih =>
  intro i out hd hi ha hfa
  have hlt : i < n.length := by omega
  have hsz := hf.at_ hlt
  rw [rdOf_drop n i hlt, List.foldl_cons]
  have hfp : Fits (out ++ [rdOf ByteArray.empty n (i : Int)]) := fun p hp => by
   rcases List.mem_append.1 hp with hp | hp
   ·exact hfa p hp
   ·rw [List.mem_singleton.1 hp]; exact hsz
  by_cases h0 : out.length = 0
  ·obtain ⟨K, hK⟩ := ih (i + 1) (out ++ [rdOf ByteArray.empty n (i : Int)]) (by omega) (by omega) (by simp; omega) hfp
   dsimp only at hK
   refine ⟨K + 1, fun k hk => ?_⟩
   obtain ⟨k, rfl⟩ : ∃ m, k = m + 1 := ⟨k - 1, by omega⟩
   simp only [paths_Heads.l0]
   unfold stepH
   rw [if_pos (by omega), if_pos (by omega), if_pos (by omega), if_pos (by omega), if_pos (by omega), if_pos h0, wrap_succ (n := n.length) (by omega) (by omega)]
   exact hK k (by omega)
  ·have hlast := hfa _ (last_mem h0)
   have elast : rdOf ByteArray.empty out ((out.length : Int) - 1) = out.getD (out.length - 1) ByteArray.empty := by
    rw [show ((out.length : Int) - 1) = ((out.length - 1 : Nat) : Int) by omega]; rfl
   obtain ⟨K2, hK2⟩ := prog_above (out.getD (out.length - 1) ByteArray.empty) (rdOf ByteArray.empty n (i : Int)) (by omega) (by omega)
   dsimp only at hK2
   by_cases c : aboveB (out.getD (out.length - 1) ByteArray.empty) (rdOf ByteArray.empty n (i : Int)) = true
   ·obtain ⟨K, hK⟩ := ih (i + 1) out (by omega) (by omega) (by omega) hfa
    dsimp only at hK
    refine ⟨max K K2 + 1, fun k hk => ?_⟩
    obtain ⟨k, rfl⟩ : ∃ m, k = m + 1 := ⟨k - 1, by omega⟩
    simp only [paths_Heads.l0]
    unfold stepH
    rw [wrap_add (x := (out.length : Int) - 1) (by omega) (by omega), elast, if_pos (by omega), if_pos (by omega), if_pos (by omega), if_neg (by omega), if_pos (by omega), if_pos (by omega), hK2 k (by omega), Option.bind_some, if_pos c, wrap_succ (n := n.length) (by omega) (by omega), if_neg h0, if_pos c]
    exact hK k (by omega)
   ·obtain ⟨K, hK⟩ := ih (i + 1) (out ++ [rdOf ByteArray.empty n (i : Int)]) (by omega) (by omega) (by simp; omega) hfp
    dsimp only at hK
    refine ⟨max K K2 + 1, fun k hk => ?_⟩
    obtain ⟨k, rfl⟩ : ∃ m, k = m + 1 := ⟨k - 1, by omega⟩
    simp only [paths_Heads.l0]
    unfold stepH
    rw [wrap_add (x := (out.length : Int) - 1) (by omega) (by omega), elast, if_pos (by omega), if_pos (by omega), if_pos (by omega), if_neg (by omega), if_pos (by omega), if_pos (by omega), hK2 k (by omega), Option.bind_some, if_neg c, if_pos (by omega), wrap_succ (n := n.length) (by omega) (by omega), if_neg h0, if_neg c]
    exact hK k (by omega)
theorem prog_heads (l : List ByteArray) (hl : l.length ≤ 1073741824) (hf : Fits l) : Ev (fun k => paths_Heads.f k l) (heads l) := by
 have h1 := norm_length_le l
 refine Ev.bind (prog_norm l (by omega) hf) (Ev.val (prog_heads_run (norm l) (by omega) (fits_norm hf) (norm l).length 0 [] (by omega) (by omega) (by simp) (fun p hp => by cases hp)) ?_)
 rw [List.drop_zero, heads_norm]
end Go.Proofs.YtdfkaclflmgkeaaGreatDoor.PAll
namespace Go.Proofs.YtdfkaclflmgkeaaGreatDoor.PAll
open Go.RowKit Go.Proofs.YtdfkaclflmgkeaaGreatDoorW.PrintWords Go.Proofs.YtdfkaclflmgkeaaGreatDoorW.PrintLast Go.Proofs.YtdfkaclflmgkeaaGreatDoorW.PrintMore
open Go.Proofs.YtdfkaclflmgkeaaGreatDoor.Sp
def okc (v : Int) : Bool := (decide (97 ≤ v) && decide (v ≤ 122)) || (decide (65 ≤ v) && decide (v ≤ 90)) || (decide (48 ≤ v) && decide (v ≤ 57)) || decide (v = 46) || decide (v = 95) || decide (v = 45)
def compB (a : ByteArray) : Bool := !(bs a == []) && decide (a.size ≤ 32) && !(bs a == [46]) && !(bs a == [46, 46]) && !(bs a == [46, 46, 46]) && (bs a).all (fun c => okc (c.toNat : Int))
def validB (a : ByteArray) : Bool := decide (a.size ≤ 120) && decide ((pB a).length ≤ 12) && (pB a).all compB
theorem comp_run (a : ByteArray) (ha : a.size ≤ 4294967296) (d : Nat) : ∀ i, a.size - i = d → i ≤ a.size → Ev (fun k => path_Component.l0 k a (a.size : Int) (i : Int)) (((bs a).drop i).all fun c => okc (c.toNat : Int)) := by
 induction d with
 | zero =>
  intro i hd hi
  refine ⟨1, fun k hk => ?_⟩
  obtain ⟨k, rfl⟩ : ∃ m, k = m + 1 := ⟨k - 1, by omega⟩
  simp only [path_Component.l0]
  rw [if_neg (by omega), List.drop_of_length_le (by rw [bs_size]; omega)]; rfl
 | succ d ih =>
  intro i hd hi
  have hv := bt_get a i (by omega)
  obtain ⟨K, hK⟩ := ih (i + 1) (by omega) (by omega)
  rw [bs_drop a i (by omega), List.all_cons, ← hv]
  dsimp only at hK
  refine ⟨K + 1, fun k hk => ?_⟩
  obtain ⟨k, rfl⟩ : ∃ m, k = m + 1 := ⟨k - 1, by omega⟩
  have hk1 := hK k (by omega)
  simp only [path_Component.l0]
  rw [if_pos (by omega), if_pos (by omega), if_pos (by omega), wrap_succ (n := a.size) (by omega) (by omega), hk1]
  clear hk1 hK hv ih
  generalize bt a (i : Int) = v
  generalize (((bs a).drop (i + 1)).all fun c => okc (c.toNat : Int)) = R
  by_cases h : okc v = true
  ·rw [h, Bool.true_and]
   simp only [okc, Bool.or_eq_true, Bool.and_eq_true, decide_eq_true_eq] at h
   repeat' split
   all_goals first | rfl | (exfalso; omega)
  ·rw [Bool.not_eq_true] at h
   rw [h, Bool.false_and]
   simp only [okc, Bool.or_eq_false_iff, Bool.and_eq_false_iff, decide_eq_false_iff_not] at h
   repeat' split
   all_goals first | rfl | (exfalso; omega)
theorem prog_comp (a : ByteArray) (ha : a.size ≤ 4294967296) : Ev (fun k => path_Component.f k a) (compB a) := by
 have hj : Ev (fun k => path_Component.j0 k a true) false := ⟨1, fun k hk => by
  obtain ⟨k, rfl⟩ : ∃ m, k = m + 1 := ⟨k - 1, by omega⟩
  simp [path_Component.j0]⟩
 unfold path_Component.f compB
 simp only [toList_bs]
 by_cases h1 : bs a = []
 ·simp only [h1, if_true]; exact Ev.val hj (by simp)
 ·simp only [if_neg h1]
  by_cases h2 : (a.size : Int) > 32
  ·simp only [if_pos h2]; exact Ev.val hj (by simp; omega)
  ·simp only [if_neg h2]
   by_cases h3 : bs a = [46]
   ·simp only [h3, if_true]; exact Ev.val hj (by simp)
   ·simp only [if_neg h3]
    by_cases h4 : bs a = [46, 46]
    ·simp only [h4, if_true]; exact Ev.val hj (by simp)
    ·simp only [if_neg h4]
     by_cases h5 : bs a = [46, 46, 46]
     ·simp only [h5, beq_self_eq_true]; exact Ev.val hj (by simp)
     ·have e5 : (bs a == [46, 46, 46]) = false := beq_eq_false_iff_ne.mpr h5
      simp only [e5]
      obtain ⟨K, hK⟩ := comp_run a ha a.size 0 (by omega) (by omega)
      dsimp only at hK
      refine ⟨K + 1, fun k hk => ?_⟩
      obtain ⟨k, rfl⟩ : ∃ m, k = m + 1 := ⟨k - 1, by omega⟩
      have := hK k (by omega)
      simp only [path_Component.j0, Bool.false_eq_true, if_false]
      rw [show ((0 : Nat) : Int) = 0 from rfl] at this
      rw [this]
      have g2 : a.size ≤ 32 := by omega
      simp [h1, g2, h3, h4]
theorem valid_run (x : List ByteArray) (hx : x.length ≤ 4294967296) (hs : ∀ p ∈ x, p.size ≤ 4294967296) (d : Nat) : ∀ i, x.length - i = d → i ≤ x.length → Ev (fun k => path_Valid.l0 k x (x.length : Int) (i : Int)) ((x.drop i).all compB) := by
 induction d with
 | zero =>
  intro i hd hi
  refine ⟨1, fun k hk => ?_⟩
  obtain ⟨k, rfl⟩ : ∃ m, k = m + 1 := ⟨k - 1, by omega⟩
  simp only [path_Valid.l0]
  rw [if_neg (by omega), List.drop_of_length_le (by omega)]; rfl
 | succ d ih =>
  intro i hd hi
  have hm : rdOf ByteArray.empty x (i : Int) ∈ x := by
   simp only [rdOf, Int.toNat_natCast, List.getD_eq_getElem?_getD, List.getElem?_eq_getElem (show i < x.length by omega), Option.getD_some]; exact List.getElem_mem _
  obtain ⟨K, hK⟩ := ih (i + 1) (by omega) (by omega)
  obtain ⟨K1, hK1⟩ := prog_comp _ (hs _ hm)
  rw [rdOf_drop x i (by omega), List.all_cons]
  dsimp only at hK hK1
  refine ⟨max K K1 + 1, fun k hk => ?_⟩
  obtain ⟨k, rfl⟩ : ∃ m, k = m + 1 := ⟨k - 1, by omega⟩
  simp only [path_Valid.l0]
  rw [if_pos (by omega), if_pos (by omega), if_pos (by omega), hK1 k (by omega), Option.bind_some, wrap_succ (n := x.length) (by omega) (by omega), hK k (by omega)]
  cases compB (rdOf ByteArray.empty x (i : Int)) <;> simp
theorem prog_valid (a : ByteArray) (ha : a.size < 4294967281) : Ev (fun k => path_Valid.f k a) (validB a) := by
 have hj : Ev (fun k => path_Valid.j0 k a true) false := ⟨1, fun k hk => by
  obtain ⟨k, rfl⟩ : ∃ m, k = m + 1 := ⟨k - 1, by omega⟩
  simp [path_Valid.j0]⟩
 unfold path_Valid.f validB
 by_cases h1 : (a.size : Int) > 120
 ·simp only [if_pos h1]; exact Ev.val hj (by simp; omega)
 ·simp only [if_neg h1]
  refine Ev.bind (a := ((pB a).length : Int)) (ev_pure fun k => by unfold path_Depth.f; rw [if_pos ha]) ?_
  by_cases h2 : ((pB a).length : Int) > 12
  ·rw [decide_eq_true h2]; exact Ev.val hj (by simp; omega)
  ·rw [decide_eq_false h2]
   have g1 : a.size ≤ 120 := by omega
   have g2 : (pB a).length ≤ 12 := by omega
   obtain ⟨K, hK⟩ := prog_split a ha
   obtain ⟨K1, hK1⟩ := valid_run (pB a) (by omega) (fun p hp => by have := pB_piece_le a p hp; omega) (pB a).length 0 (by omega) (by omega)
   dsimp only at hK hK1
   refine ⟨max K K1 + 1, fun k hk => ?_⟩
   obtain ⟨k, rfl⟩ : ∃ m, k = m + 1 := ⟨k - 1, by omega⟩
   simp only [path_Valid.j0, Bool.false_eq_true, if_false]
   rw [hK k (by omega), Option.bind_some]
   have := hK1 k (by omega)
   rw [show ((0 : Nat) : Int) = 0 from rfl] at this
   rw [this]
   simp [g1, g2]
def hd1 (c : UInt8) : List Str → List Str
 | [] => [[c]]
 | h :: t => (c :: h) :: t
theorem spl_other {c : UInt8} {r : Str} (h : c ≠ 47) : spl (c :: r) = hd1 c (spl r) := by
 rw [spl, if_neg h]
 cases spl r <;> rfl
theorem spl_append (x y : Str) : spl (x ++ 47 :: y) = spl x ++ spl y := by
 induction x with
 | nil => simp [spl]
 | cons c r ih =>
  rw [List.cons_append]
  by_cases h : c = 47
  ·subst h; simp [spl, ih]
  ·rw [spl_other h, spl_other h, ih]
   cases e : spl r with
   | nil => exact absurd e (spl_ne r)
   | cons p q => rfl
def dirsL (l : List ByteArray) : List ByteArray := (l.map dirB).filter fun d => !(d.toList == [])
theorem mem_dirsL {l : List ByteArray} {d : ByteArray} : d ∈ dirsL l ↔ bs d ≠ [] ∧ ∃ p ∈ l, dirB p = d := by
 unfold dirsL
 simp only [List.mem_filter, List.mem_map, toList_bs, Bool.not_eq_true', beq_eq_false_iff_ne, ne_eq]
 constructor
 ·rintro ⟨h, h'⟩; exact ⟨h', h⟩
 ·rintro ⟨h, h'⟩; exact ⟨h', h⟩
theorem dirsOf_ev : ∀ l : List ByteArray, Fits l → Ev (fun k => dirsOf k l) (dirsL l)
 | [], _ => ev_pure fun k => rfl
 | x :: r, hf => by
  have ih := dirsOf_ev r (fun p hp => hf p (List.mem_cons_of_mem _ hp))
  have hx := hf x List.mem_cons_self
  have e : dirsL (x :: r) = if (dirB x).toList = [] then dirsL r else dirB x :: dirsL r := by
   unfold dirsL
   by_cases c : (dirB x).toList = [] <;> simp [c]
  rw [e]
  refine Ev.congr (f := fun k => (path_Dir.f k x).bind fun d => (dirsOf k r).bind fun t => some (if d.toList = [] then t else d :: t)) (fun k => by rw [dirsOf]) ?_
  exact Ev.bind (prog_dir x (by omega)) (Ev.bind ih (ev_some _))
theorem fits_dirs {l : List ByteArray} (h : Fits l) : Fits (dirsL l) := fun d hd => by
 obtain ⟨_, p, hp, rfl⟩ := mem_dirsL.1 hd
 have := h p hp; have := dirB_size p; omega
theorem dirsL_length (l : List ByteArray) : (dirsL l).length ≤ l.length := by
 unfold dirsL; exact Nat.le_trans (List.length_filter_le _ _) (by simp)
theorem cover_ev (l : List ByteArray) (hl : l.length ≤ 1073741824) (hf : Fits l) : Ev (fun k => cone_Cover.f k l) (heads (dirsL l)) := by
 refine Ev.congr (f := fun k => (dirsOf k l).bind fun o => paths_Heads.f k o) (fun k => by unfold cone_Cover.f; rw [if_pos (by omega)]) ?_
 exact Ev.bind (dirsOf_ev l hf) (prog_heads _ (by have := dirsL_length l; omega) (fits_dirs hf))
def nearB (d c : ByteArray) : Bool := decide (c = d) || aboveB c d || aboveB d c
theorem near1_ev (d c : ByteArray) (hd : d.size < 4294967281) (hc : c.size < 4294967281) : Ev (fun k => near1 k d c) (nearB d c) := by
 unfold near1 nearB
 by_cases h : c = d
 ·subst h; simp only [if_true]; exact Ev.val (ev_some true) (by simp)
 ·have h' : ¬ c.toList = d.toList := fun e => h (bs_inj (by rw [← toList_bs, ← toList_bs]; exact e))
  simp only [if_neg h']
  refine Ev.bind (prog_above c d hc hd) ?_
  cases e : aboveB c d with
  | true => simp only [if_true]; exact Ev.val (ev_some true) (by simp)
  | false => simp only [Bool.false_eq_true, if_false]; exact Ev.val (prog_above d c hd hc) (by simp [h])
theorem near_ev (d : ByteArray) (hd : d.size < 4294967281) : ∀ l : List ByteArray, Fits l → Ev (fun k => near k d l) (l.any (nearB d))
 | [], _ => ev_pure fun k => rfl
 | c :: r, hf => by
  have hc := hf c List.mem_cons_self
  refine Ev.congr (f := fun k => (near1 k d c).bind fun b => if b = true then some true else near k d r) (fun k => by rw [near]) ?_
  refine Ev.bind (near1_ev d c hd (by omega)) ?_
  rw [List.any_cons]
  cases e : nearB d c with
  | true => simp only [if_true]; exact Ev.val (ev_some true) (by simp)
  | false => simp only [Bool.false_eq_true, if_false]; exact Ev.val (near_ev d hd r (fun p hp => hf p (List.mem_cons_of_mem _ hp))) (by simp)
def showsB (k : List ByteArray) (p : ByteArray) : Bool := decide (bs (dirB p) = []) || k.any (nearB (dirB p))
theorem shows_ev (k : List ByteArray) (p : ByteArray) (hf : Fits k) (hp : p.size ≤ 1073741824) : Ev (fun n => cone_Shows.f n k p) (showsB k p) := by
 have hz := dirB_size p
 refine Ev.bind (prog_dir p (by omega)) ?_
 unfold showsB
 simp only [toList_bs]
 by_cases h : bs (dirB p) = []
 ·simp only [if_pos h]; exact Ev.val (ev_some true) (by simp [h])
 ·simp only [if_neg h]; exact Ev.val (near_ev _ (by omega) k hf) (by simp [h])
def coneR : Option ByteArray → List ByteArray → Bool
 | _, [] => true
 | none, x :: r => validB x && coneR (some x) r
 | some y, x :: r => validB x && (decide (cB y x < 0) && !aboveB y x) && coneR (some x) r
def before (x : List ByteArray) (i : Nat) : Option ByteArray := if i = 0 then none else some (rdOf ByteArray.empty x ((i - 1 : Nat) : Int))
theorem coneValid_run (x : List ByteArray) (hx : x.length ≤ 4294967296) (hf : Fits x) (d : Nat) : ∀ i, x.length - i = d → i ≤ x.length → Ev (fun k => cone_Valid.l0 k x x (x.length : Int) (i : Int)) (if coneR (before x i) (x.drop i) = true then 0 else 13) := by
 induction d with
 | zero =>
  intro i hd hi
  refine ⟨1, fun k hk => ?_⟩
  obtain ⟨k, rfl⟩ : ∃ m, k = m + 1 := ⟨k - 1, by omega⟩
  simp only [cone_Valid.l0]
  rw [if_neg (by omega), List.drop_of_length_le (by omega)]
  cases before x i <;> simp [coneR]
 | succ d ih =>
  intro i hd hi
  have hs := hf.at_ (show i < x.length by omega)
  obtain ⟨K, hK⟩ := ih (i + 1) (by omega) (by omega)
  obtain ⟨K1, hK1⟩ := prog_valid (rdOf ByteArray.empty x (i : Int)) (by omega)
  rw [rdOf_drop x i (by omega)]
  have hb : before x (i + 1) = some (rdOf ByteArray.empty x (i : Int)) := by simp [before]
  rw [hb] at hK
  dsimp only at hK hK1
  by_cases h0 : i = 0
  ·subst h0
   refine ⟨max K K1 + 1, fun k hk => ?_⟩
   obtain ⟨k, rfl⟩ : ∃ m, k = m + 1 := ⟨k - 1, by omega⟩
   simp only [cone_Valid.l0]
   rw [if_pos (by omega), if_pos (by omega), if_pos (by omega), hK1 k (by omega), Option.bind_some]
   have h1 := hK k (by omega)
   rw [show before x 0 = none from rfl]
   unfold coneR
   cases validB (rdOf ByteArray.empty x ((0 : Nat) : Int)) with
   | false => simp
   | true =>
    rw [if_pos rfl, if_neg (by omega), wrap_succ (n := x.length) (by omega) (by omega), h1]
    simp
  ·have hs1 := hf.at_ (show i - 1 < x.length by omega)
   obtain ⟨K2, hK2⟩ := prog_cmp (rdOf ByteArray.empty x ((i - 1 : Nat) : Int)) (rdOf ByteArray.empty x (i : Int)) (by omega) (by omega)
   obtain ⟨K3, hK3⟩ := prog_above (rdOf ByteArray.empty x ((i - 1 : Nat) : Int)) (rdOf ByteArray.empty x (i : Int)) (by omega) (by omega)
   dsimp only at hK2 hK3
   refine ⟨max K (max K1 (max K2 K3)) + 1, fun k hk => ?_⟩
   obtain ⟨k, rfl⟩ : ∃ m, k = m + 1 := ⟨k - 1, by omega⟩
   have ew : wrap64 ((i : Int) - 1) = ((i - 1 : Nat) : Int) := by rw [wrap_add (by omega) (by omega)]; omega
   simp only [cone_Valid.l0]
   rw [if_pos (by omega), if_pos (by omega), if_pos (by omega), hK1 k (by omega), Option.bind_some, ew]
   have h1 := hK k (by omega)
   rw [show before x i = some (rdOf ByteArray.empty x ((i - 1 : Nat) : Int)) from by simp [before, h0]]
   unfold coneR
   cases validB (rdOf ByteArray.empty x (i : Int)) with
   | false => simp
   | true =>
    rw [if_pos rfl, if_pos (by omega), if_pos (by omega), if_pos (by omega), hK2 k (by omega), Option.bind_some]
    by_cases c1 : cB (rdOf ByteArray.empty x ((i - 1 : Nat) : Int)) (rdOf ByteArray.empty x (i : Int)) < 0
    ·rw [if_neg (by omega), hK3 k (by omega), Option.bind_some]
     cases c2 : aboveB (rdOf ByteArray.empty x ((i - 1 : Nat) : Int)) (rdOf ByteArray.empty x (i : Int)) with
     | true => simp
     | false =>
      rw [if_neg (by simp), wrap_succ (n := x.length) (by omega) (by omega), h1]
      simp [c1]
    ·rw [if_pos (by omega)]
     simp [c1]
theorem coneValid_ev (x : List ByteArray) (hx : x.length ≤ 4294967296) (hf : Fits x) : Ev (fun k => cone_Valid.f k x) (if coneR none x = true then 0 else 13) :=
 Ev.val (coneValid_run x hx hf x.length 0 (by omega) (by omega)) (by rw [show before x 0 = none from rfl, List.drop_zero])
end Go.Proofs.YtdfkaclflmgkeaaGreatDoor.PAll
namespace Go.Proofs.YtdfkaclflmgkeaaGreatDoor.PAll
open Go.RowKit Go.Proofs.YtdfkaclflmgkeaaGreatDoorW.PrintWords Go.Proofs.YtdfkaclflmgkeaaGreatDoorW.PrintLast Go.Proofs.YtdfkaclflmgkeaaGreatDoorW.PrintMore
open Go.Proofs.YtdfkaclflmgkeaaGreatDoor.Sp
theorem mem_heads {l : List ByteArray} {x : ByteArray} : x ∈ heads l ↔ x ∈ l ∧ ∀ y ∈ l, aboveB y x = false := by
 unfold heads; rw [mem_norm, List.mem_filter, isHead_iff]
theorem rises_heads (l : List ByteArray) : Rises (heads l) := rises_norm _
theorem heads_length (l : List ByteArray) : (heads l).length ≤ l.length := Nat.le_trans (norm_length_le _) (List.length_filter_le _ _)
theorem fits_heads {l : List ByteArray} (h : Fits l) : Fits (heads l) := fun p hp => h p (mem_heads.1 hp).1
theorem rd_mem (l : List ByteArray) (i : Nat) (h : i < l.length) : rdOf ByteArray.empty l (i : Int) ∈ l := by
 simp only [rdOf, Int.toNat_natCast, List.getD_eq_getElem?_getD, List.getElem?_eq_getElem h, Option.getD_some]; exact List.getElem_mem _
theorem above_root {d : ByteArray} (h : bs d ≠ []) : aboveB (⟨#[]⟩ : ByteArray) d = true := by
 rw [above_iff]
 have e : pB (⟨#[]⟩ : ByteArray) = [] := pB_nil rfl
 rw [e]
 refine ⟨List.nil_prefix, ?_⟩
 rw [pB_len, pcs_of h, List.length_nil]
 exact List.length_pos_iff.2 (spl_ne _)
end Go.Proofs.YtdfkaclflmgkeaaGreatDoor.PAll
namespace Go.Proofs.YtdfkaclflmgkeaaGreatDoor.PAll
open Go.RowKit Go.Proofs.YtdfkaclflmgkeaaGreatDoorW.PrintWords Go.Proofs.YtdfkaclflmgkeaaGreatDoorW.PrintLast Go.Proofs.YtdfkaclflmgkeaaGreatDoorW.PrintMore
open Go.Proofs.YtdfkaclflmgkeaaGreatDoor.Sp
theorem pieces_same : ∀ (k : Nat) (a : ByteArray) (acc : List ByteArray) (f i : Int), copseref13_pieces.l0 k a acc f i = copseref02_Split.l0 k a acc f i
 | 0, _, _, _, _ => by simp only [copseref13_pieces.l0, copseref02_Split.l0]
 | k + 1, a, acc, f, i => by simp only [copseref13_pieces.l0, copseref02_Split.l0, pieces_same k]
theorem ref_pieces (a : ByteArray) (ha : a.size ≤ 4294967296) : Ev (fun k => copseref13_pieces.f k a) (pB a) :=
 Ev.congr (fun k => by unfold copseref13_pieces.f copseref02_Split.f; rw [pieces_same]) (ref_split a ha)
theorem byte_is (v : Int) : copseref02_Byte.f v = some (okc v) := by
 unfold copseref02_Byte.f
 by_cases h : okc v = true
 ·rw [h]
  simp only [okc, Bool.or_eq_true, Bool.and_eq_true, decide_eq_true_eq] at h
  repeat' split
  all_goals first | rfl | (exfalso; omega) | (congr 1; simp; omega)
 ·rw [Bool.not_eq_true] at h
  rw [h]
  simp only [okc, Bool.or_eq_false_iff, Bool.and_eq_false_iff, decide_eq_false_iff_not] at h
  repeat' split
  all_goals first | rfl | (exfalso; omega) | (congr 1; simp; omega)
theorem comp02_run (a : ByteArray) (ha : a.size ≤ 4294967296) (d : Nat) : ∀ i, a.size - i = d → i ≤ a.size → Ev (fun k => copseref02_Component.l0 k a (i : Int)) (((bs a).drop i).all fun c => okc (c.toNat : Int)) := by
 induction d with
 | zero =>
  intro i hd hi
  refine ⟨1, fun k hk => ?_⟩
  obtain ⟨k, rfl⟩ : ∃ m, k = m + 1 := ⟨k - 1, by omega⟩
  simp only [copseref02_Component.l0]
  rw [if_neg (by omega), List.drop_of_length_le (by rw [bs_size]; omega)]; rfl
 | succ d ih =>
  intro i hd hi
  have hv := bt_get a i (by omega)
  obtain ⟨K, hK⟩ := ih (i + 1) (by omega) (by omega)
  rw [bs_drop a i (by omega), List.all_cons, ← hv]
  dsimp only at hK
  refine ⟨K + 1, fun k hk => ?_⟩
  obtain ⟨k, rfl⟩ : ∃ m, k = m + 1 := ⟨k - 1, by omega⟩
  have hk1 := hK k (by omega)
  simp only [copseref02_Component.l0]
  rw [if_pos (by omega), if_pos (by omega), byte_is, Option.bind_some, wrap_succ (n := a.size) (by omega) (by omega), hk1]
  cases okc (bt a (i : Int)) <;> simp
theorem comp13_run (a : ByteArray) (ha : a.size ≤ 4294967296) (d : Nat) : ∀ i, a.size - i = d → i ≤ a.size → Ev (fun k => copseref13_component.l0 k a (i : Int)) (((bs a).drop i).all fun c => okc (c.toNat : Int)) := by
 induction d with
 | zero =>
  intro i hd hi
  refine ⟨1, fun k hk => ?_⟩
  obtain ⟨k, rfl⟩ : ∃ m, k = m + 1 := ⟨k - 1, by omega⟩
  simp only [copseref13_component.l0]
  rw [if_neg (by omega), List.drop_of_length_le (by rw [bs_size]; omega)]; rfl
 | succ d ih =>
  intro i hd hi
  have hv := bt_get a i (by omega)
  obtain ⟨K, hK⟩ := ih (i + 1) (by omega) (by omega)
  rw [bs_drop a i (by omega), List.all_cons, ← hv]
  dsimp only at hK
  refine ⟨K + 1, fun k hk => ?_⟩
  obtain ⟨k, rfl⟩ : ∃ m, k = m + 1 := ⟨k - 1, by omega⟩
  have hk1 := hK k (by omega)
  simp only [copseref13_component.l0]
  rw [if_pos (by omega), if_pos (by omega), wrap_succ (n := a.size) (by omega) (by omega), hk1]
  clear hk1 hK hv ih
  generalize bt a (i : Int) = v
  generalize (((bs a).drop (i + 1)).all fun c => okc (c.toNat : Int)) = R
  by_cases h : okc v = true
  ·rw [h, Bool.true_and]
   simp only [okc, Bool.or_eq_true, Bool.and_eq_true, decide_eq_true_eq] at h
   repeat' split
   all_goals first | rfl | (exfalso; omega)
  ·rw [Bool.not_eq_true] at h
   rw [h, Bool.false_and]
   simp only [okc, Bool.or_eq_false_iff, Bool.and_eq_false_iff, decide_eq_false_iff_not] at h
   repeat' split
   all_goals first | rfl | (exfalso; omega)
theorem ref_comp (a : ByteArray) (ha : a.size ≤ 4294967296) : Ev (fun k => copseref02_Component.f k a) (compB a) := by
 have hj : Ev (fun k => copseref02_Component.j0 k a true) false := ⟨1, fun k hk => by
  obtain ⟨k, rfl⟩ : ∃ m, k = m + 1 := ⟨k - 1, by omega⟩
  simp [copseref02_Component.j0]⟩
 unfold copseref02_Component.f compB
 simp only [toList_bs]
 by_cases h1 : bs a = []
 ·have hz : (a.size : Int) < 1 := by have := bs_size a; rw [h1] at this; simp at this; omega
  simp only [if_pos hz]; exact Ev.val hj (by simp [h1])
 ·have hz : ¬ (a.size : Int) < 1 := fun h => h1 (List.length_eq_zero_iff.1 (by rw [bs_size]; omega))
  simp only [if_neg hz]
  by_cases h2 : (a.size : Int) > 32
  ·simp only [if_pos h2]; exact Ev.val hj (by simp; omega)
  ·simp only [if_neg h2]
   by_cases h3 : bs a = [46]
   ·simp only [h3, if_true]; exact Ev.val hj (by simp)
   ·simp only [if_neg h3]
    by_cases h4 : bs a = [46, 46]
    ·simp only [h4, if_true]; exact Ev.val hj (by simp)
    ·simp only [if_neg h4]
     by_cases h5 : bs a = [46, 46, 46]
     ·simp only [h5, beq_self_eq_true]; exact Ev.val hj (by simp)
     ·have e5 : (bs a == [46, 46, 46]) = false := beq_eq_false_iff_ne.mpr h5
      simp only [e5]
      obtain ⟨K, hK⟩ := comp02_run a ha a.size 0 (by omega) (by omega)
      dsimp only at hK
      refine ⟨K + 1, fun k hk => ?_⟩
      obtain ⟨k, rfl⟩ : ∃ m, k = m + 1 := ⟨k - 1, by omega⟩
      have := hK k (by omega)
      simp only [copseref02_Component.j0, Bool.false_eq_true, if_false]
      rw [show ((0 : Nat) : Int) = 0 from rfl] at this
      rw [this]
      have g2 : a.size ≤ 32 := by omega
      simp [h1, g2, h3, h4]
theorem ref_comp13 (a : ByteArray) (ha : a.size ≤ 4294967296) : Ev (fun k => copseref13_component.f k a) (compB a) := by
 have hj : Ev (fun k => copseref13_component.j0 k a true) false := ⟨1, fun k hk => by
  obtain ⟨k, rfl⟩ : ∃ m, k = m + 1 := ⟨k - 1, by omega⟩
  simp [copseref13_component.j0]⟩
 unfold copseref13_component.f compB
 simp only [toList_bs]
 by_cases h1 : bs a = []
 ·have hz : (a.size : Int) < 1 := by have := bs_size a; rw [h1] at this; simp at this; omega
  simp only [if_pos hz]; exact Ev.val hj (by simp [h1])
 ·have hz : ¬ (a.size : Int) < 1 := fun h => h1 (List.length_eq_zero_iff.1 (by rw [bs_size]; omega))
  simp only [if_neg hz]
  by_cases h2 : (a.size : Int) > 32
  ·simp only [if_pos h2]; exact Ev.val hj (by simp; omega)
  ·simp only [if_neg h2]
   by_cases h3 : bs a = [46]
   ·simp only [h3, if_true]; exact Ev.val hj (by simp)
   ·simp only [if_neg h3]
    by_cases h4 : bs a = [46, 46]
    ·simp only [h4, if_true]; exact Ev.val hj (by simp)
    ·simp only [if_neg h4]
     by_cases h5 : bs a = [46, 46, 46]
     ·simp only [h5, beq_self_eq_true]; exact Ev.val hj (by simp)
     ·have e5 : (bs a == [46, 46, 46]) = false := beq_eq_false_iff_ne.mpr h5
      simp only [e5]
      obtain ⟨K, hK⟩ := comp13_run a ha a.size 0 (by omega) (by omega)
      dsimp only at hK
      refine ⟨K + 1, fun k hk => ?_⟩
      obtain ⟨k, rfl⟩ : ∃ m, k = m + 1 := ⟨k - 1, by omega⟩
      have := hK k (by omega)
      simp only [copseref13_component.j0, Bool.false_eq_true, if_false]
      rw [show ((0 : Nat) : Int) = 0 from rfl] at this
      rw [this]
      have g2 : a.size ≤ 32 := by omega
      simp [h1, g2, h3, h4]
theorem refv_run (x : List ByteArray) (hx : x.length ≤ 4294967296) (hs : ∀ p ∈ x, p.size ≤ 4294967296) (d : Nat) : ∀ i, x.length - i = d → i ≤ x.length → Ev (fun k => copseref02_Valid.l0 k x (i : Int)) ((x.drop i).all compB) := by
 induction d with
 | zero =>
  intro i hd hi
  refine ⟨1, fun k hk => ?_⟩
  obtain ⟨k, rfl⟩ : ∃ m, k = m + 1 := ⟨k - 1, by omega⟩
  simp only [copseref02_Valid.l0]
  rw [if_neg (by omega), List.drop_of_length_le (by omega)]; rfl
 | succ d ih =>
  intro i hd hi
  have hm := rd_mem x i (by omega)
  obtain ⟨K, hK⟩ := ih (i + 1) (by omega) (by omega)
  obtain ⟨K1, hK1⟩ := ref_comp _ (hs _ hm)
  rw [rdOf_drop x i (by omega), List.all_cons]
  dsimp only at hK hK1
  refine ⟨max K K1 + 1, fun k hk => ?_⟩
  obtain ⟨k, rfl⟩ : ∃ m, k = m + 1 := ⟨k - 1, by omega⟩
  simp only [copseref02_Valid.l0]
  rw [if_pos (by omega), if_pos (by omega), hK1 k (by omega), Option.bind_some, wrap_succ (n := x.length) (by omega) (by omega), hK k (by omega)]
  cases compB (rdOf ByteArray.empty x (i : Int)) <;> simp
theorem refv_j0 (a : ByteArray) (ha : a.size ≤ 4294967295) (b : Bool) : Ev (fun k => copseref02_Valid.j0 k (pB a) b) (if b = true then false else (pB a).all compB) := by
 cases b with
 | true => exact ⟨1, fun k hk => by
   obtain ⟨k, rfl⟩ : ∃ m, k = m + 1 := ⟨k - 1, by omega⟩
   simp [copseref02_Valid.j0]⟩
 | false =>
  have hl := pB_length_le a
  obtain ⟨K, hK⟩ := refv_run (pB a) (by omega) (fun p hp => by have := pB_piece_le a p hp; omega) (pB a).length 0 (by omega) (by omega)
  dsimp only at hK
  refine ⟨K + 1, fun k hk => ?_⟩
  obtain ⟨k, rfl⟩ : ∃ m, k = m + 1 := ⟨k - 1, by omega⟩
  simp only [copseref02_Valid.j0, Bool.false_eq_true, if_false]
  exact hK k (by omega)
theorem isp_run (x : List ByteArray) (hx : x.length ≤ 4294967296) (hs : ∀ p ∈ x, p.size ≤ 4294967296) (d : Nat) : ∀ i, x.length - i = d → i ≤ x.length → Ev (fun k => copseref13_IsPath.l0 k x (i : Int)) ((x.drop i).all compB) := by
 induction d with
 | zero =>
  intro i hd hi
  refine ⟨1, fun k hk => ?_⟩
  obtain ⟨k, rfl⟩ : ∃ m, k = m + 1 := ⟨k - 1, by omega⟩
  simp only [copseref13_IsPath.l0]
  rw [if_neg (by omega), List.drop_of_length_le (by omega)]; rfl
 | succ d ih =>
  intro i hd hi
  have hm := rd_mem x i (by omega)
  obtain ⟨K, hK⟩ := ih (i + 1) (by omega) (by omega)
  obtain ⟨K1, hK1⟩ := ref_comp13 _ (hs _ hm)
  rw [rdOf_drop x i (by omega), List.all_cons]
  dsimp only at hK hK1
  refine ⟨max K K1 + 1, fun k hk => ?_⟩
  obtain ⟨k, rfl⟩ : ∃ m, k = m + 1 := ⟨k - 1, by omega⟩
  simp only [copseref13_IsPath.l0]
  rw [if_pos (by omega), if_pos (by omega), hK1 k (by omega), Option.bind_some, wrap_succ (n := x.length) (by omega) (by omega), hK k (by omega)]
  cases compB (rdOf ByteArray.empty x (i : Int)) <;> simp
theorem isp_j0 (a : ByteArray) (ha : a.size ≤ 4294967295) (b : Bool) : Ev (fun k => copseref13_IsPath.j0 k (pB a) b) (if b = true then false else (pB a).all compB) := by
 cases b with
 | true => exact ⟨1, fun k hk => by
   obtain ⟨k, rfl⟩ : ∃ m, k = m + 1 := ⟨k - 1, by omega⟩
   simp [copseref13_IsPath.j0]⟩
 | false =>
  have hl := pB_length_le a
  obtain ⟨K, hK⟩ := isp_run (pB a) (by omega) (fun p hp => by have := pB_piece_le a p hp; omega) (pB a).length 0 (by omega) (by omega)
  dsimp only at hK
  refine ⟨K + 1, fun k hk => ?_⟩
  obtain ⟨k, rfl⟩ : ∃ m, k = m + 1 := ⟨k - 1, by omega⟩
  simp only [copseref13_IsPath.j0, Bool.false_eq_true, if_false]
  exact hK k (by omega)
theorem ref_valid (a : ByteArray) (ha : a.size ≤ 4294967295) : Ev (fun k => copseref02_Valid.f k a) (validB a) := by
 unfold copseref02_Valid.f validB
 refine Ev.bind (ref_split a (by omega)) ?_
 by_cases h1 : (a.size : Int) > 120
 ·simp only [if_pos h1]; exact Ev.val (refv_j0 a ha true) (by simp; omega)
 ·simp only [if_neg h1]
  refine Ev.val (refv_j0 a ha _) ?_
  have g1 : a.size ≤ 120 := by omega
  by_cases h2 : ((pB a).length : Int) > 12
  ·simp [h2, g1]; omega
  ·have g2 : (pB a).length ≤ 12 := by omega
   simp [h2, g1, g2]
theorem ref_isPath (a : ByteArray) (ha : a.size ≤ 4294967295) : Ev (fun k => copseref13_IsPath.f k a) (validB a) := by
 unfold copseref13_IsPath.f validB
 refine Ev.bind (ref_pieces a (by omega)) ?_
 by_cases h2 : ((pB a).length : Int) > 12
 ·simp only [if_pos h2]; exact Ev.val (isp_j0 a ha true) (by simp; omega)
 ·simp only [if_neg h2]
  have g2 : (pB a).length ≤ 12 := by omega
  refine Ev.val (isp_j0 a ha _) ?_
  by_cases h1 : (a.size : Int) > 120
  ·simp [h1]; omega
  ·have g1 : a.size ≤ 120 := by omega
   simp [h1, g1, g2]
end Go.Proofs.YtdfkaclflmgkeaaGreatDoor.PAll
namespace Go.Proofs.YtdfkaclflmgkeaaGreatDoor.PAll
open Go.RowKit Go.Proofs.YtdfkaclflmgkeaaGreatDoorW.PrintWords Go.Proofs.YtdfkaclflmgkeaaGreatDoorW.PrintLast Go.Proofs.YtdfkaclflmgkeaaGreatDoorW.PrintMore
open Go.Proofs.YtdfkaclflmgkeaaGreatDoor.Sp
def chainR {α : Type} (ok : α → Bool) (key : α → ByteArray) : Option ByteArray → List α → Bool
 | _, [] => true
 | none, x :: r => ok x && chainR ok key (some (key x)) r
 | some y, x :: r => ok x && (decide (cB y (key x) < 0) && !aboveB y (key x)) && chainR ok key (some (key x)) r
abbrev Apart2 (a b : ByteArray) : Prop := cB a b < 0 ∧ aboveB a b = false
theorem coneR_chain : ∀ (o : Option ByteArray) (l : List ByteArray), coneR o l = chainR validB id o l
 | o, [] => by cases o <;> rfl
 | o, x :: r => by have := coneR_chain (some x) r; cases o <;> simp [coneR, chainR, this]
theorem apart_next {y x z : ByteArray} (h : Apart2 y x) (k : Apart2 x z) : Apart2 y z := by
 refine ⟨cB_trans h.1 k.1, ?_⟩
 cases e : aboveB y z with
 | false => rfl
 | true => exact absurd (above_between e h.1 k.1) (by rw [h.2]; simp)
theorem chain_all {α : Type} (ok : α → Bool) (key : α → ByteArray) : ∀ (l : List α) (o : Option ByteArray), chainR ok key o l = true ↔ (∀ x ∈ l, ok x = true) ∧ l.Pairwise (fun a b => Apart2 (key a) (key b)) ∧ (∀ y, o = some y → ∀ x ∈ l, Apart2 y (key x))
 | [], o => by cases o <;> simp [chainR]
 | x :: r, o => by
  have ih := chain_all ok key r (some (key x))
  have core : ∀ (hx : ok x = true), chainR ok key (some (key x)) r = true ↔ (∀ z ∈ x :: r, ok z = true) ∧ (x :: r).Pairwise (fun a b => Apart2 (key a) (key b)) := fun hx => by
   rw [ih, List.pairwise_cons]
   constructor
   ·rintro ⟨h1, h2, h3⟩
    exact ⟨fun z hz => by rcases List.mem_cons.1 hz with rfl | hz; exact hx; exact h1 z hz, fun z hz => h3 _ rfl z hz, h2⟩
   ·rintro ⟨h1, h2, h3⟩
    exact ⟨fun z hz => h1 z (List.mem_cons_of_mem _ hz), h3, fun y e z hz => by cases e; exact h2 z hz⟩
  cases o with
  | none =>
   simp only [chainR, Bool.and_eq_true]
   constructor
   ·rintro ⟨hx, h⟩
    obtain ⟨h1, h2⟩ := (core hx).1 h
    exact ⟨h1, h2, fun y e => by cases e⟩
   ·rintro ⟨h1, h2, _⟩
    have hx := h1 x List.mem_cons_self
    exact ⟨hx, (core hx).2 ⟨h1, h2⟩⟩
  | some y =>
   simp only [chainR, Bool.and_eq_true, decide_eq_true_eq, Bool.not_eq_true']
   constructor
   ·rintro ⟨⟨hx, hy⟩, h⟩
    obtain ⟨h1, h2⟩ := (core hx).1 h
    refine ⟨h1, h2, fun y' e z hz => ?_⟩
    cases e
    rcases List.mem_cons.1 hz with rfl | hz
    ·exact hy
    ·exact apart_next hy ((List.pairwise_cons.1 h2).1 z hz)
   ·rintro ⟨h1, h2, h3⟩
    have hx := h1 x List.mem_cons_self
    exact ⟨⟨hx, h3 y rfl x List.mem_cons_self⟩, (core hx).2 ⟨h1, h2⟩⟩
theorem cone_all (l : List ByteArray) : coneR none l = true ↔ (∀ x ∈ l, validB x = true) ∧ l.Pairwise Apart2 := by
 rw [coneR_chain, chain_all]
 constructor
 ·rintro ⟨h1, h2, _⟩; exact ⟨h1, h2⟩
 ·rintro ⟨h1, h2⟩; exact ⟨h1, h2, fun y e => by cases e⟩
abbrev FitsF (l : List S36) : Prop := ∀ f ∈ l, f.f0.size ≤ 1073741824 ∧ f.f1.size ≤ 1073741824
theorem rdF_mem (l : List S36) (i : Nat) (h : i < l.length) : rd_T36 l (i : Int) ∈ l := by
 simp only [rd_T36, Int.toNat_natCast, List.getD_eq_getElem?_getD, List.getElem?_eq_getElem h, Option.getD_some]; exact List.getElem_mem _
theorem rdF_drop (l : List S36) (i : Nat) (h : i < l.length) : l.drop i = rd_T36 l (i : Int) :: l.drop (i + 1) := by
 rw [List.drop_eq_getElem_cons h]
 congr 1
 simp [rd_T36, List.getD_eq_getElem?_getD, List.getElem?_eq_getElem h]
def placedB (f : S36) : Bool := !(bs f.f0 == []) && validB f.f0
def baseB (a : ByteArray) : ByteArray := a.extract (lastS (bs a) + 1).toNat a.size
def fileR (f : S36) : Bool := if bs (baseB f.f0) = [84, 65, 82, 71, 69, 84, 83] then decide (f.f2 = 0) && decide (f.f3 = (f.f1.size : Int)) else decide (bs f.f1 = []) && decide (0 ≤ f.f2) && decide (f.f2 ≤ 1152921504606846976) && decide (0 ≤ f.f3) && decide (f.f3 ≤ 4611686018427387904)
theorem prog_base (a : ByteArray) (ha : a.size ≤ 4294967296) : Ev (fun k => path_Base.f k a) (baseB a) := by
 have hb := lastS_bd (bs a)
 rw [bs_size] at hb
 refine Ev.bind (prog_last a ha) (ev_pure fun k => ?_)
 rw [wrap_add (by omega) (by omega), if_pos (by omega), if_pos (by omega)]; rfl
theorem placed_ev (f : S36) (h : f.f0.size ≤ 1073741824) : Ev (fun k => snap_placed.f k f.f0 f.f1 f.f2 f.f3) (placedB f) := by
 unfold snap_placed.f placedB
 simp only [toList_bs]
 by_cases c : bs f.f0 = []
 ·simp only [c, if_true]; exact Ev.val (ev_some false) (by simp)
 ·simp only [if_neg c]; exact Ev.val (Ev.bind (prog_valid f.f0 (by omega)) (ev_some _)) (by simp [c])
theorem file_ev (f : S36) (h : f.f0.size ≤ 1073741824) : Ev (fun k => snap_File.f k f.f0 f.f1 f.f2 f.f3) (if placedB f = true then (if fileR f = true then 0 else 8) else 7) := by
 have hj : ∀ b : Bool, Ev (fun k => snap_File.j0 k b) (if b = true then 8 else 0) := fun b => ⟨1, fun k hk => by
  obtain ⟨k, rfl⟩ : ∃ m, k = m + 1 := ⟨k - 1, by omega⟩
  cases b <;> simp [snap_File.j0]⟩
 unfold snap_File.f fileR
 refine Ev.bind (placed_ev f h) ?_
 cases placedB f with
 | false => simp only [Bool.false_eq_true, if_false]; exact ev_some _
 | true =>
  simp only [if_true]
  refine Ev.bind (prog_base f.f0 (by omega)) ?_
  simp only [toList_bs]
  by_cases c : bs (baseB f.f0) = [84, 65, 82, 71, 69, 84, 83]
  ·simp only [if_pos c]
   by_cases c2 : f.f2 = 0
   ·simp only [if_pos c2]
    refine Ev.val (hj _) ?_
    by_cases c3 : f.f3 = (f.f1.size : Int)
    ·rw [c3]; simp [c2]
    ·have e : (f.f3 != (f.f1.size : Int)) = true := bne_iff_ne.mpr c3
     rw [e]; simp [c3]
   ·simp only [if_neg c2]; exact Ev.val (hj true) (by simp [c2])
  ·simp only [if_neg c]
   by_cases c1 : bs f.f1 = []
   ·simp only [if_pos c1]
    by_cases d1 : f.f2 < 0
    ·simp only [if_pos d1]; exact Ev.val (ev_some 8) (by simp [show ¬ 0 ≤ f.f2 by omega])
    ·simp only [if_neg d1]
     by_cases d2 : f.f2 > 1152921504606846976
     ·simp only [if_pos d2]; exact Ev.val (ev_some 8) (by simp [show ¬ f.f2 ≤ 1152921504606846976 by omega])
     ·simp only [if_neg d2]
      by_cases d3 : f.f3 < 0
      ·simp only [if_pos d3]; exact Ev.val (ev_some 8) (by simp [show ¬ 0 ≤ f.f3 by omega])
      ·simp only [if_neg d3]
       by_cases d4 : f.f3 > 4611686018427387904
       ·simp only [if_pos d4]; exact Ev.val (ev_some 8) (by simp [show ¬ f.f3 ≤ 4611686018427387904 by omega])
       ·simp only [if_neg d4]; exact Ev.val (ev_some 0) (by simp [c1, show 0 ≤ f.f2 by omega, show f.f2 ≤ 1152921504606846976 by omega, show 0 ≤ f.f3 by omega, show f.f3 ≤ 4611686018427387904 by omega])
   ·simp only [if_neg c1]; exact Ev.val (ev_some 8) (by simp [c1])
def snapV (l : List S36) : Int := if l.all placedB = true then (if l.length > 512 then 8 else if chainR fileR S36.f0 none l = true then 0 else 8) else 7
def beforeF (x : List S36) (i : Nat) : Option ByteArray := if i = 0 then none else some (rd_T36 x ((i - 1 : Nat) : Int)).f0
theorem snap_l1 (x : List S36) (hx : x.length ≤ 1073741824) (hf : FitsF x) (hp : x.all placedB = true) (d : Nat) : ∀ i, x.length - i = d → i ≤ x.length → Ev (fun k => snap_Valid.l1 k x x (x.length : Int) (i : Int)) (if chainR fileR S36.f0 (beforeF x i) (x.drop i) = true then 0 else 8) := by
 induction d with
 | zero =>
  intro i hd hi
  refine ⟨1, fun k hk => ?_⟩
  obtain ⟨k, rfl⟩ : ∃ m, k = m + 1 := ⟨k - 1, by omega⟩
  simp only [snap_Valid.l1]
  rw [if_neg (by omega), List.drop_of_length_le (by omega)]
  cases beforeF x i <;> simp [chainR]
 | succ d ih =>
  intro i hd hi
  have hm := rdF_mem x i (by omega)
  have hs := (hf _ hm).1
  obtain ⟨K, hK⟩ := ih (i + 1) (by omega) (by omega)
  obtain ⟨K1, hK1⟩ := file_ev (rd_T36 x (i : Int)) hs
  rw [if_pos (List.all_eq_true.1 hp _ hm)] at hK1
  rw [rdF_drop x i (by omega)]
  have hb : beforeF x (i + 1) = some (rd_T36 x (i : Int)).f0 := by simp [beforeF]
  rw [hb] at hK
  dsimp only at hK hK1
  by_cases h0 : i = 0
  ·subst h0
   refine ⟨max K K1 + 1, fun k hk => ?_⟩
   obtain ⟨k, rfl⟩ : ∃ m, k = m + 1 := ⟨k - 1, by omega⟩
   simp only [snap_Valid.l1]
   rw [if_pos (by omega), if_pos (by omega), if_pos (by omega), hK1 k (by omega), Option.bind_some]
   have h1 := hK k (by omega)
   rw [show beforeF x 0 = none from rfl]
   unfold chainR
   cases fileR (rd_T36 x ((0 : Nat) : Int)) with
   | false => simp
   | true =>
    rw [if_pos rfl, if_pos rfl, if_neg (by omega), wrap_succ (n := x.length) (by omega) (by omega), h1]
    simp
  ·have hs1 := (hf _ (rdF_mem x (i - 1) (by omega))).1
   obtain ⟨K2, hK2⟩ := prog_cmp (rd_T36 x ((i - 1 : Nat) : Int)).f0 (rd_T36 x (i : Int)).f0 (by omega) (by omega)
   obtain ⟨K3, hK3⟩ := prog_above (rd_T36 x ((i - 1 : Nat) : Int)).f0 (rd_T36 x (i : Int)).f0 (by omega) (by omega)
   dsimp only at hK2 hK3
   refine ⟨max K (max K1 (max K2 K3)) + 1, fun k hk => ?_⟩
   obtain ⟨k, rfl⟩ : ∃ m, k = m + 1 := ⟨k - 1, by omega⟩
   have ew : wrap64 ((i : Int) - 1) = ((i - 1 : Nat) : Int) := by rw [wrap_add (by omega) (by omega)]; omega
   simp only [snap_Valid.l1]
   rw [if_pos (by omega), if_pos (by omega), if_pos (by omega), hK1 k (by omega), Option.bind_some, ew]
   have h1 := hK k (by omega)
   rw [show beforeF x i = some (rd_T36 x ((i - 1 : Nat) : Int)).f0 from by simp [beforeF, h0]]
   unfold chainR
   cases fileR (rd_T36 x (i : Int)) with
   | false => simp
   | true =>
    rw [if_pos rfl, if_pos rfl, if_pos (by omega), if_pos (by omega), if_pos (by omega), hK2 k (by omega), Option.bind_some]
    by_cases c1 : cB (rd_T36 x ((i - 1 : Nat) : Int)).f0 (rd_T36 x (i : Int)).f0 < 0
    ·rw [if_neg (by omega), hK3 k (by omega), Option.bind_some]
     cases c2 : aboveB (rd_T36 x ((i - 1 : Nat) : Int)).f0 (rd_T36 x (i : Int)).f0 with
     | true => simp
     | false =>
      rw [if_neg (by simp), wrap_succ (n := x.length) (by omega) (by omega), h1]
      simp [c1]
    ·rw [if_pos (by omega)]
     simp [c1]
theorem snap_l0 (x : List S36) (hx : x.length ≤ 1073741824) (hf : FitsF x) (d : Nat) : ∀ i, x.length - i = d → i ≤ x.length → (∀ f ∈ x.take i, placedB f = true) → Ev (fun k => snap_Valid.l0 k x x (x.length : Int) (i : Int)) (snapV x) := by
 induction d with
 | zero =>
  intro i hd hi hp
  rw [List.take_of_length_le (by omega)] at hp
  have ha : x.all placedB = true := List.all_eq_true.2 hp
  obtain ⟨K, hK⟩ := snap_l1 x hx hf ha x.length 0 (by omega) (by omega)
  dsimp only at hK
  refine ⟨K + 1, fun k hk => ?_⟩
  obtain ⟨k, rfl⟩ : ∃ m, k = m + 1 := ⟨k - 1, by omega⟩
  simp only [snap_Valid.l0]
  unfold snapV
  rw [if_neg (by omega), if_pos ha]
  by_cases c : x.length > 512
  ·rw [if_pos (by omega), if_pos c]
  ·rw [if_neg (by omega), if_neg c]
   have := hK k (by omega)
   rw [show beforeF x 0 = none from rfl, List.drop_zero] at this
   exact this
 | succ d ih =>
  intro i hd hi hp
  have hm := rdF_mem x i (by omega)
  obtain ⟨K1, hK1⟩ := placed_ev (rd_T36 x (i : Int)) (hf _ hm).1
  dsimp only at hK1
  cases c : placedB (rd_T36 x (i : Int)) with
  | false =>
   rw [c] at hK1
   refine ⟨K1 + 1, fun k hk => ?_⟩
   obtain ⟨k, rfl⟩ : ∃ m, k = m + 1 := ⟨k - 1, by omega⟩
   simp only [snap_Valid.l0]
   rw [if_pos (by omega), if_pos (by omega), if_pos (by omega), hK1 k (by omega), Option.bind_some, if_neg (by simp)]
   unfold snapV
   rw [if_neg (fun h => by rw [List.all_eq_true.1 h _ hm] at c; cases c)]
  | true =>
   rw [c] at hK1
   obtain ⟨K, hK⟩ := ih (i + 1) (by omega) (by omega) (fun f h => by
    have e : x.take (i + 1) = x.take i ++ [rd_T36 x (i : Int)] := by
     rw [List.take_add_one]; congr 1
     simp [rd_T36, List.getD_eq_getElem?_getD, List.getElem?_eq_getElem (show i < x.length by omega)]
    rw [e] at h
    rcases List.mem_append.1 h with h | h
    ·exact hp f h
    ·rw [List.mem_singleton.1 h]; exact c)
   dsimp only at hK
   refine ⟨max K K1 + 1, fun k hk => ?_⟩
   obtain ⟨k, rfl⟩ : ∃ m, k = m + 1 := ⟨k - 1, by omega⟩
   simp only [snap_Valid.l0]
   rw [if_pos (by omega), if_pos (by omega), if_pos (by omega), hK1 k (by omega), Option.bind_some, if_pos rfl, wrap_succ (n := x.length) (by omega) (by omega)]
   exact hK k (by omega)
theorem snap_ev (x : List S36) (hx : x.length ≤ 1073741824) (hf : FitsF x) : Ev (fun k => snap_Valid.f k x) (snapV x) := snap_l0 x hx hf _ 0 rfl (by omega) (by simp)
def viewV (l : List S36) (c : List ByteArray) : List S36 × Int := if snapV l = 0 then (if coneR none c = true then (l.filter fun f => showsB c f.f0, 0) else ([], 13)) else ([], snapV l)
theorem view_run (x : List S36) (c : List ByteArray) (hx : x.length ≤ 1073741824) (hf : FitsF x) (hc : Fits c) (d : Nat) : ∀ (i : Nat) (acc : List S36), x.length - i = d → i ≤ x.length → acc.length ≤ i →
  Ev (fun k => cone_View.l0 k c acc x (x.length : Int) (i : Int)) (acc ++ (x.drop i).filter (fun f => showsB c f.f0), 0) := by
 induction d with
 | zero =>
  intro i acc hd hi ha
  refine ⟨1, fun k hk => ?_⟩
  obtain ⟨k, rfl⟩ : ∃ m, k = m + 1 := ⟨k - 1, by omega⟩
  simp only [cone_View.l0]
  rw [if_neg (by omega), List.drop_of_length_le (by omega)]; simp
 | succ d ih =>
  intro i acc hd hi ha
  have hm := rdF_mem x i (by omega)
  obtain ⟨K1, hK1⟩ := shows_ev c (rd_T36 x (i : Int)).f0 hc (hf _ hm).1
  rw [rdF_drop x i (by omega)]
  dsimp only at hK1
  cases e : showsB c (rd_T36 x (i : Int)).f0 with
  | true =>
   rw [e] at hK1
   obtain ⟨K, hK⟩ := ih (i + 1) (acc ++ [rd_T36 x (i : Int)]) (by omega) (by omega) (by simp; omega)
   dsimp only at hK
   refine ⟨max K K1 + 1, fun k hk => ?_⟩
   obtain ⟨k, rfl⟩ : ∃ m, k = m + 1 := ⟨k - 1, by omega⟩
   simp only [cone_View.l0]
   rw [if_pos (by omega), if_pos (by omega), if_pos (by omega), hK1 k (by omega), Option.bind_some, if_pos rfl, if_pos (by omega), wrap_succ (n := x.length) (by omega) (by omega)]
   refine (hK k (by omega)).trans ?_
   simp [e]
  | false =>
   rw [e] at hK1
   obtain ⟨K, hK⟩ := ih (i + 1) acc (by omega) (by omega) (by omega)
   dsimp only at hK
   refine ⟨max K K1 + 1, fun k hk => ?_⟩
   obtain ⟨k, rfl⟩ : ∃ m, k = m + 1 := ⟨k - 1, by omega⟩
   simp only [cone_View.l0]
   rw [if_pos (by omega), if_pos (by omega), if_pos (by omega), hK1 k (by omega), Option.bind_some, if_neg (by simp), wrap_succ (n := x.length) (by omega) (by omega)]
   refine (hK k (by omega)).trans ?_
   simp [e]
theorem view_ev (x : List S36) (c : List ByteArray) (hx : x.length ≤ 1073741824) (hf : FitsF x) (hcl : c.length ≤ 1073741824) (hc : Fits c) : Ev (fun k => cone_View.f k x c) (viewV x c) := by
 refine Ev.bind (snap_ev x hx hf) ?_
 unfold viewV
 by_cases h : snapV x = 0
 ·simp only [h, if_true]
  refine Ev.bind (coneValid_ev c (by omega) hc) ?_
  cases e : coneR none c with
  | true => simp only [if_true]; exact Ev.val (view_run x c hx hf hc _ 0 [] rfl (by omega) (by simp)) (by simp)
  | false => simp only [Bool.false_eq_true, if_false, show ¬ (13 : Int) = 0 by decide]; exact ev_some _
 ·simp only [if_neg h]; exact ev_some _
end Go.Proofs.YtdfkaclflmgkeaaGreatDoor.PAll
namespace Go.Proofs.YtdfkaclflmgkeaaGreatDoor.PAll
open Go.RowKit Go.Proofs.YtdfkaclflmgkeaaGreatDoorW.PrintWords Go.Proofs.YtdfkaclflmgkeaaGreatDoorW.PrintLast Go.Proofs.YtdfkaclflmgkeaaGreatDoorW.PrintMore
open Go.Proofs.YtdfkaclflmgkeaaGreatDoor.Sp
theorem base13_run (a : ByteArray) (ha : a.size ≤ 4294967296) : ∀ j : Nat, j ≤ a.size → Ev (fun k => copseref13_Base.l0 k a ((j : Int) - 1)) (a.extract (lastIx ((bs a).take j) 0 (-1) + 1).toNat a.size)
 | 0, _ => by
  refine ⟨1, fun k hk => ?_⟩
  obtain ⟨k, rfl⟩ : ∃ m, k = m + 1 := ⟨k - 1, by omega⟩
  simp only [copseref13_Base.l0]
  rw [if_neg (by omega)]
  congr 1
  apply bs_inj
  rw [extract_mk, bs_mk]
  simp [lastIx, ← bs_size]
 | j + 1, hj => by
  have hlen : j < (bs a).length := by rw [bs_size]; omega
  rw [List.take_succ_eq_append_getElem hlen, lastIx_snoc]
  have ej : ((j + 1 : Nat) : Int) - 1 = (j : Int) := by omega
  have el : (((bs a).take j).length : Int) = (j : Int) := by rw [List.length_take]; omega
  rw [ej]
  by_cases h : bt a (j : Int) = 47
  ·refine ⟨1, fun k hk => ?_⟩
   obtain ⟨k, rfl⟩ : ∃ m, k = m + 1 := ⟨k - 1, by omega⟩
   simp only [copseref13_Base.l0]
   rw [if_pos (by omega), if_pos (by omega), if_pos (by omega), if_pos h, wrap_add (by omega) (by omega), if_pos (by omega), if_pos (by omega), if_pos ((bt_eq a j (by omega) 47 47 rfl).1 h), el, Int.zero_add]
  ·obtain ⟨K, hK⟩ := base13_run a ha j (by omega)
   dsimp only at hK
   refine ⟨K + 1, fun k hk => ?_⟩
   obtain ⟨k, rfl⟩ : ∃ m, k = m + 1 := ⟨k - 1, by omega⟩
   simp only [copseref13_Base.l0]
   rw [if_pos (by omega), if_pos (by omega), if_pos (by omega), if_neg h, wrap_add (by omega) (by omega), hK k (by omega), if_neg (fun e => h ((bt_eq a j (by omega) 47 47 rfl).2 e))]
theorem ref_base (a : ByteArray) (ha : a.size ≤ 4294967296) : Ev (fun k => copseref13_Base.f k a) (baseB a) := by
 refine Ev.congr (fun k => ?_) (Ev.val (base13_run a ha a.size (Nat.le_refl _)) ?_)
 ·unfold copseref13_Base.f; rw [wrap_add (by omega) (by omega)]
 ·unfold baseB lastS
  rw [List.take_of_length_le (by rw [bs_size]; exact Nat.le_refl _)]
theorem cmpL_step (x y : ByteArray) (l m : List ByteArray) : cmpL ((x :: l).map bs) ((y :: m).map bs) = if Op.bytesLess (bs x) (bs y) = true then -1 else if Op.bytesLess (bs y) (bs x) = true then 1 else cmpL (l.map bs) (m.map bs) := by
 simp only [List.map_cons, cmpL]
 by_cases e : bs x = bs y
 ·rw [if_pos e, e]; simp [bl_irrefl]
 ·rw [if_neg e]; unfold cmpS
  split
  ·rfl
  ·split
   ·rfl
   ·rename_i h1 h2
    exact absurd (bl_tri _ _ (by simpa using h1) (by simpa using h2)) e
theorem path13_run (x y : List ByteArray) (hx : x.length ≤ 4294967296) (d : Nat) : ∀ i, x.length - i = d → i ≤ x.length → i ≤ y.length → Ev (fun k => copseref13_Path.l0 k x y (i : Int)) (cmpL ((x.drop i).map bs) ((y.drop i).map bs)) := by
 have fin : ∀ i : Nat, i ≤ x.length → i ≤ y.length → (i = x.length ∨ i = y.length) → Ev (fun k => copseref13_Path.j1 k x y (i : Int) false) (cmpL ((x.drop i).map bs) ((y.drop i).map bs)) := fun i h1 h2 h3 => by
  refine ⟨1, fun k hk => ?_⟩
  obtain ⟨k, rfl⟩ : ∃ m, k = m + 1 := ⟨k - 1, by omega⟩
  simp only [copseref13_Path.j1, Bool.false_eq_true, if_false]
  by_cases c : i = x.length
  ·rw [List.drop_of_length_le (l := x) (by omega)]
   by_cases c2 : i = y.length
   ·rw [List.drop_of_length_le (l := y) (by omega), if_neg (by omega), if_neg (by omega)]; rfl
   ·rw [rdOf_drop y i (by omega), if_pos (by omega)]; rfl
  ·have c2 : i = y.length := by omega
   rw [List.drop_of_length_le (l := y) (by omega), rdOf_drop x i (by omega), if_neg (by omega), if_pos (by omega)]; rfl
 induction d with
 | zero =>
  intro i hd hi hy
  obtain ⟨K, hK⟩ := fin i hi hy (.inl (by omega))
  dsimp only at hK
  refine ⟨K + 1, fun k hk => ?_⟩
  obtain ⟨k, rfl⟩ : ∃ m, k = m + 1 := ⟨k - 1, by omega⟩
  simp only [copseref13_Path.l0]
  rw [if_neg (by omega)]
  exact hK k (by omega)
 | succ d ih =>
  intro i hd hi hy
  by_cases c : i = y.length
  ·obtain ⟨K, hK⟩ := fin i hi hy (.inr c)
   dsimp only at hK
   refine ⟨K + 1, fun k hk => ?_⟩
   obtain ⟨k, rfl⟩ : ∃ m, k = m + 1 := ⟨k - 1, by omega⟩
   simp only [copseref13_Path.l0]
   rw [if_pos (by omega), decide_eq_false (by omega)]
   exact hK k (by omega)
  ·obtain ⟨K, hK⟩ := ih (i + 1) (by omega) (by omega) (by omega)
   dsimp only at hK
   refine ⟨K + 2, fun k hk => ?_⟩
   obtain ⟨k, rfl⟩ : ∃ m, k = m + 2 := ⟨k - 2, by omega⟩
   simp only [copseref13_Path.l0]
   rw [if_pos (by omega), decide_eq_true (by omega)]
   simp only [copseref13_Path.j1, if_true]
   rw [if_pos (by omega), if_pos (by omega), if_pos (by omega), toList_bs, toList_bs, rdOf_drop x i (by omega), rdOf_drop y i (by omega), cmpL_step, wrap_succ (n := x.length) (by omega) (by omega), hK k (by omega)]
   split
   ·rfl
   ·split <;> rfl
theorem ref_path13 (a b : ByteArray) (ha : a.size ≤ 4294967295) (hb : b.size ≤ 4294967295) : Ev (fun k => copseref13_Path.f k a b) (cB a b) := by
 have hl := pB_length_le a
 refine Ev.bind (ref_pieces a (by omega)) (Ev.bind (ref_pieces b (by omega)) ?_)
 refine Ev.val (path13_run (pB a) (pB b) (by omega) (pB a).length 0 (by omega) (by omega) (by omega)) ?_
 simp only [List.drop_zero, pB_bs]; rfl
end Go.Proofs.YtdfkaclflmgkeaaGreatDoor.PAll
namespace Go.Proofs.YtdfkaclflmgkeaaGreatDoor.PAll
open Go.RowKit Go.Proofs.YtdfkaclflmgkeaaGreatDoorW.PrintWords Go.Proofs.YtdfkaclflmgkeaaGreatDoorW.PrintLast Go.Proofs.YtdfkaclflmgkeaaGreatDoorW.PrintMore
open Go.Proofs.YtdfkaclflmgkeaaGreatDoor.Sp
theorem joinS_append : ∀ (l m : List Str), l ≠ [] → m ≠ [] → joinS (l ++ m) = joinS l ++ 47 :: joinS m
 | [], _, h, _ => absurd rfl h
 | [a], m, _, hm => by rw [List.singleton_append, joinS_cons a hm]; rfl
 | a :: b :: r, m, _, hm => by
  have ih := joinS_append (b :: r) m (by simp) hm
  rw [List.cons_append, joinS_cons a (by simp), ih, joinS_cons a (by simp)]
  simp
theorem above_text {a b : ByteArray} (h : bs a ≠ []) : aboveB a b = true ↔ ∃ y, bs b = bs a ++ 47 :: y := by
 rw [above_iff, pB_map_prefix, pB_len, pB_len]
 constructor
 ·rintro ⟨⟨r, hr⟩, hl⟩
  have hb : bs b ≠ [] := fun e => by rw [e] at hl; simp [pcs] at hl
  rw [← hr] at hl
  have hrn : r ≠ [] := fun e => by subst e; simp at hl
  refine ⟨joinS r, ?_⟩
  rw [← join_pcs (bs b), ← hr, joinS_append _ _ (by rw [pcs_of h]; exact spl_ne _) hrn, join_pcs]
 ·rintro ⟨y, e⟩
  have hb : bs b ≠ [] := by rw [e]; simp
  rw [pcs_of h, pcs_of hb, e, spl_append]
  refine ⟨⟨_, rfl⟩, ?_⟩
  rw [List.length_append]
  have := List.length_pos_iff.2 (spl_ne y)
  omega
theorem above13_is (a b : ByteArray) : copseref13_Above.f a b = some (aboveB a b) := by
 unfold copseref13_Above.f
 simp only [toList_bs]
 by_cases h1 : bs a = bs b
 ·rw [if_pos h1, bs_inj h1, above_self]
 ·rw [if_neg h1]
  by_cases h2 : bs a = []
  ·rw [if_pos h2]
   have : a = (⟨#[]⟩ : ByteArray) := bs_inj h2
   rw [this, above_root (fun e => h1 (by rw [h2, e]))]
  ·rw [if_neg h2]
   have key := above_text (b := b) h2
   by_cases h3 : (b.size : Int) > (a.size : Int)
   ·rw [if_pos h3, if_pos (by omega), if_pos (by omega)]
    have e0 : bs (b.extract 0 ((a.size : Int)).toNat) = (bs b).take a.size := by rw [Int.toNat_natCast, extract_mk, bs_mk, List.drop_zero]
    rw [e0]
    by_cases h4 : (bs b).take a.size = bs a
    ·rw [if_pos h4, if_pos (by omega)]
     congr 1
     have hlt : a.size < b.size := by omega
     have hd := bs_drop b a.size hlt
     have hs : bs b = bs a ++ (bs b).drop a.size := by conv => lhs; rw [← List.take_append_drop a.size (bs b), h4]
     by_cases h5 : bt b (a.size : Int) = 47
     ·have e5 := (bt_eq b a.size hlt 47 47 rfl).1 h5
      rw [e5] at hd
      rw [h5, key.2 ⟨_, by rw [← hd]; exact hs⟩]; rfl
     ·have e5 : (bs b)[a.size]'(by rw [bs_size]; exact hlt) ≠ 47 := fun e => h5 ((bt_eq b a.size hlt 47 47 rfl).2 e)
      have : aboveB a b = false := by
       cases q : aboveB a b with
       | false => rfl
       | true =>
        obtain ⟨y, e⟩ := key.1 q
        have e6 := List.append_cancel_left (hs.symm.trans e)
        rw [hd] at e6
        exact absurd (List.cons.inj e6).1 e5
      rw [this]; exact beq_eq_false_iff_ne.mpr h5
    ·rw [if_neg h4]
     congr 1
     cases q : aboveB a b with
     | false => rfl
     | true =>
      obtain ⟨y, e⟩ := key.1 q
      exact absurd (by rw [e, ← bs_size, List.take_left]) h4
   ·rw [if_neg h3]
    congr 1
    cases q : aboveB a b with
    | false => rfl
    | true =>
     obtain ⟨y, e⟩ := key.1 q
     have := congrArg List.length e
     rw [List.length_append, bs_size, bs_size] at this
     simp at this
     omega
end Go.Proofs.YtdfkaclflmgkeaaGreatDoor.PAll
