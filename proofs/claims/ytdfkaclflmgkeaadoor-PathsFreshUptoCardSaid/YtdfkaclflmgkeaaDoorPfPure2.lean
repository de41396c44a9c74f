/- The order of paths, Above, Dir: what the printed functions answer. -/
import Derived.Test.YtdfkaclflmgkeaaDoorPfPAllx0
import Derived.Test.YtdfkaclflmgkeaaDoorPfHandA
import Derived.Test.YtdfkaclflmgkeaaDoorPfHandB
import Derived.Test.YtdfkaclflmgkeaaDoorPfPAlly0
import Derived.Test.YtdfkaclflmgkeaaDoorPfPAlly1
import Derived.Test.YtdfkaclflmgkeaaDoorPfPAlly16
import Derived.Test.YtdfkaclflmgkeaaDoorPfPAlly3
import Derived.Test.YtdfkaclflmgkeaaDoorPfPAlly4
import Derived.Test.YtdfkaclflmgkeaaDoorPfPure1
import Derived.Test.YtdfkaclflmgkeaaDoorPfSpec
namespace Go.Proofs.YtdfkaclflmgkeaaDoor.PAll
open Go.RowKit Go.Proofs.YtdfkaclflmgkeaaDoorW.PrintWords Go.Proofs.YtdfkaclflmgkeaaDoorW.PrintLast Go.Proofs.YtdfkaclflmgkeaaDoorW.PrintMore
open Go.Proofs.YtdfkaclflmgkeaaDoor.Sp
theorem cmpS_cons_same (c : UInt8) (x y : Str) : cmpS (c :: x) (c :: y) = cmpS x y := by simp [cmpS, Op.bytesLess]
theorem cmpS_cons_lt {c d : UInt8} (h : c.toNat < d.toNat) (x y : Str) : cmpS (c :: x) (d :: y) = -1 := by
 have : c < d := by rw [UInt8.lt_iff_toNat_lt]; exact h
 simp [cmpS, Op.bytesLess, this]
theorem cmpS_cons_gt {c d : UInt8} (h : d.toNat < c.toNat) (x y : Str) : cmpS (c :: x) (d :: y) = 1 := by
 have h1 : d < c := by rw [UInt8.lt_iff_toNat_lt]; exact h
 have h2 : ¬ c < d := by rw [UInt8.lt_iff_toNat_lt]; omega
 have h3 : ¬ c = d := by rintro rfl; omega
 simp [cmpS, Op.bytesLess, h1, h2, h3]
theorem cmpS_nil_cons (c : UInt8) (x : Str) : cmpS [] (c :: x) = -1 := by simp [cmpS, Op.bytesLess]
theorem cmpS_cons_nil (c : UInt8) (x : Str) : cmpS (c :: x) [] = 1 := by simp [cmpS, Op.bytesLess]
theorem cmpS_nil : cmpS [] [] = 0 := by simp [cmpS, Op.bytesLess]
theorem ref_bytes_run (a b : ByteArray) (ha : a.size ≤ 4294967296) (d : Nat) : ∀ i, a.size - i = d → i ≤ a.size → i ≤ b.size → Ev (fun k => copseref02_bytes.l0 k a b (i : Int)) (cmpS ((bs a).drop i) ((bs b).drop i)) := by
 induction d with
 | zero =>
  intro i hd hi hb
  refine ⟨2, fun k hk => ?_⟩
  obtain ⟨k, rfl⟩ : ∃ m, k = m + 2 := ⟨k - 2, by omega⟩
  simp only [copseref02_bytes.l0, copseref02_bytes.j1]
  rw [if_neg (by omega), if_neg (by decide), List.drop_of_length_le (l := bs a) (by rw [bs_size]; omega)]
  by_cases h : i = b.size
  ·rw [if_neg (by omega), if_neg (by omega), List.drop_of_length_le (l := bs b) (by rw [bs_size]; omega), cmpS_nil]
  ·rw [if_pos (by omega), bs_drop b i (by omega), cmpS_nil_cons]
 | succ d ih =>
  intro i hd hi hb
  rw [bs_drop a i (by omega)]
  by_cases h : i = b.size
  ·refine ⟨2, fun k hk => ?_⟩
   obtain ⟨k, rfl⟩ : ∃ m, k = m + 2 := ⟨k - 2, by omega⟩
   simp only [copseref02_bytes.l0, copseref02_bytes.j1]
   rw [if_pos (by omega), if_neg (by rw [decide_eq_true_eq]; omega), if_neg (by omega), if_pos (by omega), List.drop_of_length_le (l := bs b) (by rw [bs_size]; omega), cmpS_cons_nil]
  ·have hA := bt_get a i (by omega)
   have hB := bt_get b i (by omega)
   rw [bs_drop b i (by omega)]
   obtain ⟨K, hK⟩ := ih (i + 1) (by omega) (by omega) (by omega)
   dsimp only at hK
   refine ⟨K + 2, fun k hk => ?_⟩
   obtain ⟨k, rfl⟩ : ∃ m, k = m + 2 := ⟨k - 2, by omega⟩
   simp only [copseref02_bytes.l0, copseref02_bytes.j1]
   rw [if_pos (by omega), if_pos (by rw [decide_eq_true_eq]; omega), if_pos (by omega), if_pos (by omega), if_pos (by omega), hA, hB]
   by_cases h1 : ((bs a)[i]'(by rw [bs_size]; omega)).toNat < ((bs b)[i]'(by rw [bs_size]; omega)).toNat
   ·rw [if_pos (by omega), cmpS_cons_lt h1]
   ·rw [if_neg (by omega)]
    by_cases h2 : ((bs b)[i]'(by rw [bs_size]; omega)).toNat < ((bs a)[i]'(by rw [bs_size]; omega)).toNat
    ·rw [if_pos (by omega), cmpS_cons_gt h2]
    ·rw [if_neg (by omega), wrap_succ (n := a.size) (by omega) (by omega), hK k (by omega)]
     have e : (bs a)[i]'(by rw [bs_size]; omega) = (bs b)[i]'(by rw [bs_size]; omega) := UInt8.toNat_inj.1 (by omega)
     rw [e, cmpS_cons_same]
theorem ref_bytes (a b : ByteArray) (ha : a.size ≤ 4294967296) : Ev (fun k => copseref02_bytes.f k a b) (cmpS (bs a) (bs b)) :=
 ref_bytes_run a b ha a.size 0 (by omega) (by omega) (by omega)
theorem ref_cmp_run (x y : List ByteArray) (hx : x.length ≤ 4294967296) (hs : ∀ p ∈ x, p.size ≤ 4294967296) (d : Nat) : ∀ i, x.length - i = d → i ≤ x.length → i ≤ y.length → Ev (fun k => copseref02_Cmp.l0 k x y (i : Int)) (cmpL ((x.drop i).map bs) ((y.drop i).map bs)) := by
 induction d with
 | zero =>
  intro i hd hi hb
  refine ⟨2, fun k hk => ?_⟩
  obtain ⟨k, rfl⟩ : ∃ m, k = m + 2 := ⟨k - 2, by omega⟩
  simp only [copseref02_Cmp.l0, copseref02_Cmp.j1]
  rw [if_neg (by omega), if_neg (by decide), List.drop_of_length_le (l := x) (by omega)]
  by_cases h : i = y.length
  ·rw [if_neg (by omega), if_neg (by omega), List.drop_of_length_le (l := y) (by omega)]; rfl
  ·rw [if_pos (by omega), rdOf_drop y i (by omega)]; rfl
 | succ d ih =>
  intro i hd hi hb
  rw [rdOf_drop x i (by omega)]
  by_cases h : i = y.length
  ·refine ⟨2, fun k hk => ?_⟩
   obtain ⟨k, rfl⟩ : ∃ m, k = m + 2 := ⟨k - 2, by omega⟩
   simp only [copseref02_Cmp.l0, copseref02_Cmp.j1]
   rw [if_pos (by omega), if_neg (by rw [decide_eq_true_eq]; omega), if_neg (by omega), if_pos (by omega), List.drop_of_length_le (l := y) (by omega)]; rfl
  ·rw [rdOf_drop y i (by omega)]
   have hmem : rdOf ByteArray.empty x (i : Int) ∈ x := List.mem_of_mem_drop (i := i) (by rw [rdOf_drop x i (by omega)]; exact List.mem_cons_self)
   obtain ⟨K, hK⟩ := ih (i + 1) (by omega) (by omega) (by omega)
   dsimp only at hK
   obtain ⟨K2, hK2⟩ := ref_bytes (rdOf ByteArray.empty x (i : Int)) (rdOf ByteArray.empty y (i : Int)) (hs _ hmem)
   dsimp only at hK2
   refine ⟨max K K2 + 2, fun k hk => ?_⟩
   obtain ⟨k, rfl⟩ : ∃ m, k = m + 2 := ⟨k - 2, by omega⟩
   simp only [copseref02_Cmp.l0, copseref02_Cmp.j1]
   rw [if_pos (by omega), if_pos (by rw [decide_eq_true_eq]; omega), if_pos (by omega), if_pos (by omega), if_pos (by omega), hK2 k (by omega), Option.bind_some]
   simp only [List.map_cons, cmpL]
   by_cases e : rdOf ByteArray.empty x (i : Int) = rdOf ByteArray.empty y (i : Int)
   ·rw [if_pos (by rw [e, cmpS_self]), if_pos (by rw [e]), wrap_succ (n := x.length) (by omega) (by omega), hK k (by omega)]
   ·have e' : ¬ bs (rdOf ByteArray.empty x (i : Int)) = bs (rdOf ByteArray.empty y (i : Int)) := fun h => e (bs_inj h)
    rw [if_neg (fun h => e' (cmpS_eq h)), if_neg e']
theorem spl_piece_le (s : Str) : ∀ cur, ∀ p ∈ splC cur s, p.length ≤ cur.length + s.length := by
 induction s with
 | nil => intro cur p hp; rw [splC_nil] at hp; rw [List.mem_singleton.1 hp]; simp
 | cons c r ih =>
  intro cur p hp
  by_cases h : c = 47
  ·subst h
   rw [splC_slash] at hp
   rcases List.mem_cons.1 hp with rfl | hp
   ·simp
   ·have := ih [] p hp; simp only [List.length_nil, List.length_cons] at this ⊢; omega
  ·rw [splC_other cur r h] at hp
   have := ih _ p hp
   simp only [List.length_append, List.length_cons, List.length_nil] at this ⊢; omega
theorem pB_piece_le (a : ByteArray) : ∀ p ∈ pB a, p.size ≤ a.size := by
 intro p hp
 unfold pB at hp
 obtain ⟨q, hq, rfl⟩ := List.mem_map.1 hp
 have : (mk q).size = q.length := by rw [← bs_size, bs_mk]
 rw [this]
 unfold pcs at hq
 split at hq
 ·cases hq
 ·rw [← splC_whole] at hq
  have := spl_piece_le (bs a) [] q hq
  rw [bs_size] at this; simpa using this
theorem ref_cmp (a b : ByteArray) (ha : a.size ≤ 4294967295) (hb : b.size ≤ 4294967295) : Ev (fun k => copseref02_Cmp.f k a b) (cB a b) := by
 have hla := pB_length_le a
 refine Ev.bind (ref_split a (by omega)) (Ev.bind (ref_split b (by omega)) ?_)
 have := ref_cmp_run (pB a) (pB b) (by omega) (fun p hp => by have := pB_piece_le a p hp; omega) (pB a).length 0 (by omega) (by omega) (by omega)
 refine Ev.val this ?_
 rw [List.drop_zero, List.drop_zero, pB_bs, pB_bs]; rfl
theorem prog_common (x y : List ByteArray) (hx : x.length ≤ 4294967296) : Ev (fun k => path_common.f k x y) (comL x y : Int) := Ev.of (path_common.mono x y) (common_ends x y (by omega))
theorem prog_cmp (a b : ByteArray) (ha : a.size < 4294967281) (hb : b.size < 4294967281) : Ev (fun k => path_Cmp.f k a b) (cB a b) := by
 have hla := pB_length_le a
 refine Ev.bind (prog_split a ha) (Ev.bind (prog_split b hb) (Ev.bind (prog_common (pB a) (pB b) (by omega)) ?_))
 refine ⟨1, fun k hk => ?_⟩
 obtain ⟨k, rfl⟩ : ∃ m, k = m + 1 := ⟨k - 1, by omega⟩
 rw [cB_com]
 obtain ⟨hc1, hc2⟩ := comL_le (pB a) (pB b)
 simp only [path_Cmp.j0]
 by_cases h1 : comL (pB a) (pB b) < (pB a).length
 ·rw [if_pos (by omega)]
  by_cases h2 : comL (pB a) (pB b) < (pB b).length
  ·rw [if_pos (by rw [decide_eq_true_eq]; omega), if_pos (by omega), if_pos (by omega), if_pos (by omega), compare_string_is, if_pos ⟨h1, h2⟩]; rfl
  ·rw [if_neg (by rw [decide_eq_true_eq]; omega), compare_int_is, if_neg (show ¬ (comL (pB a) (pB b) < (pB a).length ∧ comL (pB a) (pB b) < (pB b).length) from fun h => h2 h.2)]; rfl
 ·rw [if_neg (by omega), if_neg (by decide), compare_int_is, if_neg (show ¬ (comL (pB a) (pB b) < (pB a).length ∧ comL (pB a) (pB b) < (pB b).length) from fun h => h1 h.1)]; rfl
def aboveB (a b : ByteArray) : Bool := decide ((pB a).length < (pB b).length) && decide (comL (pB a) (pB b) = (pB a).length)
theorem ref_shared_run (x y : List ByteArray) (hx : x.length ≤ 4294967296) (d : Nat) : ∀ i, x.length - i = d → i ≤ x.length → i ≤ y.length → Ev (fun k => copseref02_shared.l0 k x y (i : Int)) ((i + comL (x.drop i) (y.drop i) : Nat) : Int) := by
 induction d with
 | zero =>
  intro i hd hi hb
  refine ⟨1, fun k hk => ?_⟩
  obtain ⟨k, rfl⟩ : ∃ m, k = m + 1 := ⟨k - 1, by omega⟩
  simp only [copseref02_shared.l0]
  rw [if_neg (by omega), List.drop_of_length_le (l := x) (by omega)]; simp [comL]
 | succ d ih =>
  intro i hd hi hb
  rw [rdOf_drop x i (by omega)]
  by_cases h : i = y.length
  ·refine ⟨1, fun k hk => ?_⟩
   obtain ⟨k, rfl⟩ : ∃ m, k = m + 1 := ⟨k - 1, by omega⟩
   simp only [copseref02_shared.l0]
   rw [if_pos (by omega), if_neg (by omega), List.drop_of_length_le (l := y) (by omega)]; simp [comL]
  ·rw [rdOf_drop y i (by omega)]
   obtain ⟨K, hK⟩ := ih (i + 1) (by omega) (by omega) (by omega)
   dsimp only at hK
   refine ⟨K + 1, fun k hk => ?_⟩
   obtain ⟨k, rfl⟩ : ∃ m, k = m + 1 := ⟨k - 1, by omega⟩
   simp only [copseref02_shared.l0]
   rw [if_pos (by omega), if_pos (by omega), if_pos (by omega)]
   by_cases e : rdOf ByteArray.empty x (i : Int) = rdOf ByteArray.empty y (i : Int)
   ·rw [if_pos (by rw [e]), wrap_succ (n := x.length) (by omega) (by omega), hK k (by omega), e, comL_same]
    congr 2; omega
   ·rw [if_neg (fun h => e (bs_inj (by rw [← toList_bs, ← toList_bs]; exact h))), comL_diff e]; rfl
theorem ref_shared (x y : List ByteArray) (hx : x.length ≤ 4294967296) : Ev (fun k => copseref02_shared.f k x y) (comL x y : Int) := by
 have := ref_shared_run x y hx x.length 0 (by omega) (by omega) (by omega)
 refine Ev.val this ?_
 simp
theorem above_val (x y : List ByteArray) : ((comL x y : Int) == (x.length : Int)) = decide (comL x y = x.length) := by
 rw [Bool.eq_iff_iff, beq_iff_eq, decide_eq_true_eq]; omega
theorem ref_above (a b : ByteArray) (ha : a.size ≤ 4294967295) (hb : b.size ≤ 4294967295) : Ev (fun k => copseref02_Above.f k a b) (aboveB a b) := by
 have hla := pB_length_le a
 refine Ev.bind (ref_split a (by omega)) (Ev.bind (ref_split b (by omega)) ?_)
 unfold aboveB
 by_cases h : (pB a).length < (pB b).length
 ·refine Ev.congr (f := fun k => (copseref02_shared.f k (pB a) (pB b)).bind fun t => some (t == ((pB a).length : Int))) (fun k => by rw [if_pos (by omega)]) ?_
  refine Ev.bind (ref_shared (pB a) (pB b) (by omega)) (ev_pure fun k => ?_)
  rw [above_val, decide_eq_true h, Bool.true_and]
 ·refine ev_pure fun k => ?_
  rw [if_neg (by omega), decide_eq_false h, Bool.false_and]
theorem prog_above (a b : ByteArray) (ha : a.size < 4294967281) (hb : b.size < 4294967281) : Ev (fun k => path_Above.f k a b) (aboveB a b) := by
 have hla := pB_length_le a
 refine Ev.bind (prog_split a ha) (Ev.bind (prog_split b hb) ?_)
 unfold aboveB
 by_cases h : (pB a).length < (pB b).length
 ·refine Ev.congr (f := fun k => (path_common.f k (pB a) (pB b)).bind fun t => some (t == ((pB a).length : Int))) (fun k => by rw [if_pos (by omega)]) ?_
  refine Ev.bind (prog_common (pB a) (pB b) (by omega)) (ev_pure fun k => ?_)
  rw [above_val, decide_eq_true h, Bool.true_and]
 ·refine ev_pure fun k => ?_
  rw [if_neg (by omega), decide_eq_false h, Bool.false_and]
def lastIx : Str → Int → Int → Int
 | [], _, acc => acc
 | c :: r, i, acc => lastIx r (i + 1) (if c = 47 then i else acc)
theorem lastIx_snoc (l : Str) (c : UInt8) : ∀ i acc, lastIx (l ++ [c]) i acc = if c = 47 then i + l.length else lastIx l i acc := by
 induction l with
 | nil => intro i acc; simp [lastIx]
 | cons x l ih =>
  intro i acc
  simp only [List.cons_append, lastIx, ih, List.length_cons]
  split
  ·omega
  ·rfl
theorem lastIx_le (l : Str) : ∀ i acc : Int, acc < i + l.length → -1 ≤ acc → 0 ≤ i → lastIx l i acc < i + l.length ∧ -1 ≤ lastIx l i acc := by
 induction l with
 | nil => intro i acc h h1 _; exact ⟨h, h1⟩
 | cons x l ih =>
  intro i acc h h1 h0
  simp only [lastIx, List.length_cons] at h ⊢
  have := ih (i + 1) (if x = 47 then i else acc) (by split <;> omega) (by split <;> omega) (by omega)
  omega
def lastS (s : Str) : Int := lastIx s 0 (-1)
theorem lastS_bd (s : Str) : lastS s < s.length ∧ -1 ≤ lastS s := by
 have := lastIx_le s 0 (-1) (by omega) (by omega) (by omega)
 unfold lastS; omega
theorem ref_last_run (a : ByteArray) (ha : a.size ≤ 4294967296) (d : Nat) : ∀ (i : Nat) (acc : Int), a.size - i = d → i ≤ a.size → Ev (fun k => copseref02_last.l0 k a acc (i : Int)) (lastIx ((bs a).drop i) i acc) := by
 induction d with
 | zero =>
  intro i acc hd hi
  refine ⟨1, fun k hk => ?_⟩
  obtain ⟨k, rfl⟩ : ∃ m, k = m + 1 := ⟨k - 1, by omega⟩
  simp only [copseref02_last.l0]
  rw [if_neg (by omega), List.drop_of_length_le (by rw [bs_size]; omega)]; rfl
 | succ d ih =>
  intro i acc hd hi
  rw [bs_drop a i (by omega)]
  by_cases h : bt a (i : Int) = 47
  ·obtain ⟨K, hK⟩ := ih (i + 1) i (by omega) (by omega)
   dsimp only at hK
   refine ⟨K + 1, fun k hk => ?_⟩
   obtain ⟨k, rfl⟩ : ∃ m, k = m + 1 := ⟨k - 1, by omega⟩
   simp only [copseref02_last.l0]
   rw [if_pos (by omega), if_pos (by omega), if_pos h, wrap_succ (n := a.size) (by omega) (by omega), hK k (by omega), (bt_eq a i (by omega) 47 47 rfl).1 h]
   simp [lastIx]
  ·obtain ⟨K, hK⟩ := ih (i + 1) acc (by omega) (by omega)
   dsimp only at hK
   refine ⟨K + 1, fun k hk => ?_⟩
   obtain ⟨k, rfl⟩ : ∃ m, k = m + 1 := ⟨k - 1, by omega⟩
   simp only [copseref02_last.l0]
   have h' : (bs a)[i]'(by rw [bs_size]; omega) ≠ 47 := fun e => h ((bt_eq a i (by omega) 47 47 rfl).2 e)
   rw [if_pos (by omega), if_pos (by omega), if_neg h, wrap_succ (n := a.size) (by omega) (by omega), hK k (by omega)]
   simp [lastIx, h']
theorem ref_last (a : ByteArray) (ha : a.size ≤ 4294967296) : Ev (fun k => copseref02_last.f k a) (lastS (bs a)) :=
 Ev.val (ref_last_run a ha a.size 0 (-1) (by omega) (by omega)) rfl
theorem prog_last_run (a : ByteArray) (ha : a.size ≤ 4294967296) : ∀ j : Nat, j ≤ a.size → Ev (fun k => bytealg_LastIndexByteString.l0 k a 47 ((j : Int) - 1)) (lastIx ((bs a).take j) 0 (-1))
 | 0, _ => by
  refine ⟨1, fun k hk => ?_⟩
  obtain ⟨k, rfl⟩ : ∃ m, k = m + 1 := ⟨k - 1, by omega⟩
  simp only [bytealg_LastIndexByteString.l0]
  rw [if_neg (by omega)]; rfl
 | j + 1, hj => by
  have hlen : j < (bs a).length := by rw [bs_size]; omega
  rw [List.take_succ_eq_append_getElem hlen, lastIx_snoc]
  have ej : ((j + 1 : Nat) : Int) - 1 = (j : Int) := by omega
  rw [ej]
  by_cases h : bt a (j : Int) = 47
  ·refine ⟨1, fun k hk => ?_⟩
   obtain ⟨k, rfl⟩ : ∃ m, k = m + 1 := ⟨k - 1, by omega⟩
   simp only [bytealg_LastIndexByteString.l0]
   rw [if_pos (by omega), if_pos (by omega), if_pos (by omega), if_pos h, if_pos ((bt_eq a j (by omega) 47 47 rfl).1 h)]
   congr 1; rw [List.length_take]; omega
  ·obtain ⟨K, hK⟩ := prog_last_run a ha j (by omega)
   dsimp only at hK
   refine ⟨K + 1, fun k hk => ?_⟩
   obtain ⟨k, rfl⟩ : ∃ m, k = m + 1 := ⟨k - 1, by omega⟩
   simp only [bytealg_LastIndexByteString.l0]
   rw [if_pos (by omega), if_pos (by omega), if_pos (by omega), if_neg h, wrap_add (by omega) (by omega), hK k (by omega), if_neg (fun e => h ((bt_eq a j (by omega) 47 47 rfl).2 e))]
theorem prog_last (a : ByteArray) (ha : a.size ≤ 4294967296) : Ev (fun k => strings_LastIndexByte.f k a 47) (lastS (bs a)) := by
 refine Ev.bind (a := lastS (bs a)) (Ev.congr (f := fun k => bytealg_LastIndexByteString.l0 k a 47 ((a.size : Int) - 1)) (fun k => ?_) ?_) (ev_pure fun _ => rfl)
 ·unfold bytealg_LastIndexByteString.f
  rw [wrap_add (by omega) (by omega)]
 ·refine Ev.val (prog_last_run a ha a.size (Nat.le_refl _)) ?_
  rw [List.take_of_length_le (by rw [bs_size]; exact Nat.le_refl _)]; rfl
def dirB (a : ByteArray) : ByteArray := if lastS (bs a) < 0 then mk [] else a.extract 0 (lastS (bs a)).toNat
theorem ref_dir (a : ByteArray) (ha : a.size ≤ 4294967296) : Ev (fun k => copseref02_Dir.f k a) (dirB a) := by
 have hb := lastS_bd (bs a)
 rw [bs_size] at hb
 refine Ev.bind (ref_last a ha) (ev_pure fun k => ?_)
 unfold dirB
 by_cases h : lastS (bs a) < 0
 ·rw [if_pos h, if_pos h]; rfl
 ·rw [if_neg h, if_neg h, if_pos (by omega), if_pos (by omega)]
theorem prog_dir (a : ByteArray) (ha : a.size ≤ 4294967296) : Ev (fun k => path_Dir.f k a) (dirB a) := by
 have hb := lastS_bd (bs a)
 rw [bs_size] at hb
 refine Ev.bind (prog_last a ha) (ev_pure fun k => ?_)
 unfold dirB
 by_cases h : lastS (bs a) < 0
 ·have e : mx 0 (lastS (bs a)) = 0 := by unfold mx; omega
  rw [e, if_pos (by omega), if_pos (by omega), if_pos h]
  congr 1
  apply bs_inj
  rw [Int.toNat_zero, extract_mk, bs_mk]; rfl
 ·have e : mx 0 (lastS (bs a)) = lastS (bs a) := by unfold mx; omega
  rw [e, if_neg h, if_pos (by omega), if_pos (by omega)]
theorem dirB_size (a : ByteArray) : (dirB a).size ≤ a.size := by
 unfold dirB
 split
 ·exact Nat.zero_le _
 ·rw [ByteArray.size_extract]; omega
end Go.Proofs.YtdfkaclflmgkeaaDoor.PAll
