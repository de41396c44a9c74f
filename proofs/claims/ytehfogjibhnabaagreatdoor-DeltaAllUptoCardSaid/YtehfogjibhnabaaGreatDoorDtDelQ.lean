/- Layer 6: the document's answers, told by lists. Plain Lean. -/
import Derived.Test.YtehfogjibhnabaaGreatDoorDtPAllx0
import Derived.Test.YtehfogjibhnabaaGreatDoorDtPAlly6
import Derived.Test.YtehfogjibhnabaaGreatDoorDtPAlly17
import Derived.Test.YtehfogjibhnabaaGreatDoorDtPAlly15
import Derived.Test.YtehfogjibhnabaaGreatDoorDtHandA
import Derived.Test.YtehfogjibhnabaaGreatDoorDtPAlly7
import Derived.Test.YtehfogjibhnabaaGreatDoorDtPAlly3
import Derived.Test.YtehfogjibhnabaaGreatDoorDtPAlly5
import Derived.Test.YtehfogjibhnabaaGreatDoorDtPAlly13
import Derived.WalkKit
import Derived.BigQuiet
import Derived.Outline
import Derived.Test.YtehfogjibhnabaaGreatDoorDtDelY
namespace Go.Proofs.YtehfogjibhnabaaGreatDoor.PAll
open Go.RowKit Go.Proofs.YtehfogjibhnabaaGreatDoorW.PrintWords Go.Proofs.YtehfogjibhnabaaGreatDoorW.PrintLast Go.Proofs.YtehfogjibhnabaaGreatDoorW.PrintMore
open Go.Proofs.YtehfogjibhnabaaGreatDoor.Sp
theorem rises_filterMap {α : Type} {key : α → ByteArray} (f : ByteArray → Option α) (hk : ∀ p c, f p = some c → key c = p) : ∀ l : List ByteArray, Rises l → RisesK key (l.filterMap f) ∧ ∀ p, atK key (l.filterMap f) p = if p ∈ l then f p else none
 | [], _ => ⟨List.Pairwise.nil, fun p => by simp [atK_nil]⟩
 | q :: l, h => by
  obtain ⟨h1, h2⟩ := List.pairwise_cons.1 h
  obtain ⟨i1, i2⟩ := rises_filterMap f hk l h2
  have hq : q ∉ l := fun hm => by
   have := h1 q hm
   exact absurd rfl (cB_ne this)
  cases hf : f q with
  | none =>
   rw [List.filterMap_cons_none hf]
   refine ⟨i1, fun p => (i2 p).trans ?_⟩
   by_cases e : p = q
   ·subst e
    rw [if_neg hq, if_pos (List.mem_cons_self ..), hf]
   ·simp [e]
  | some c =>
   rw [List.filterMap_cons_some hf]
   have hc := hk q c hf
   refine ⟨i1.cons fun y hy => ?_, fun p => ?_⟩
   ·obtain ⟨z, hz, hzy⟩ := List.mem_filterMap.1 hy
    rw [hc, hk z y hzy]
    exact h1 z hz
   ·rw [atK_cons, hc]
    by_cases e : q = p
    ·subst e
     rw [if_pos rfl, if_pos (List.mem_cons_self ..), hf]
    ·rw [if_neg e, i2 p]
     simp [Ne.symm e]
section
variable {a b : List S43} {d e : List S45}
theorem partsO_key {p : ByteArray} {c : S45} {x y : Option S43} (h : partsO x y p = some c) : c.f0 = p := by
 unfold partsO at h
 split at h
 ·cases h
 ·injection h with h; rw [← h]
 ·injection h with h; rw [← h]
 split at h
 ·cases h
 injection h with h; rw [← h]
theorem ref_diffL (ha : snapV a = 0) (hb : snapV b = 0) : (norm (a.map S43.f0 ++ b.map S43.f0)).filterMap (fun p => partsO (atF a p) (atF b p) p) = diffD a b := by
 obtain ⟨h1, h2⟩ := rises_filterMap (key := S45.f0) (fun p => partsO (atF a p) (atF b p) p) (fun p c h => partsO_key h) _ (rises_norm (a.map S43.f0 ++ b.map S43.f0))
 obtain ⟨h3, h4⟩ := diff_spec (snap_rises ha) (snap_rises hb)
 refine risesK_ext _ _ h1 h3 fun p => (h2 p).trans (Eq.trans ?_ (h4 p).symm)
 split
 ·rfl
 rename_i hp
 rw [mem_norm, List.mem_append, not_or] at hp
 rw [show atF a p = none from atK_none.2 fun x hx e => hp.1 (List.mem_map.2 ⟨x, hx, e⟩), show atF b p = none from atK_none.2 fun x hx e => hp.2 (List.mem_map.2 ⟨x, hx, e⟩)]
 rfl
def laidO (a : List S43) (d : List S45) (p : ByteArray) : Option S43 := match atC d p with
 | none => atF a p
 | some c => if c.f2 = true then some c.f4 else none
theorem ref_applyL (ha : snapV a = 0) (hd : DeltaP d) : (norm (a.map S43.f0 ++ d.map S45.f0)).filterMap (laidO a d) = applyL a d := by
 have hm := may_new hd
 obtain ⟨h1, h2⟩ := rises_filterMap (key := S43.f0) (laidO a d) (fun p f h => by
  unfold laidO at h
  split at h
  ·exact (atK_some h).1
  ·rename_i c hc
   split at h
   ·rename_i h2
    injection h with h
    obtain ⟨hk, hmem⟩ := atK_some hc
    rw [← h, hm c hmem h2]
    exact hk
   ·cases h) _ (rises_norm (a.map S43.f0 ++ d.map S45.f0))
 obtain ⟨h3, h4⟩ := apply_spec (snap_rises ha) hd.rises hm
 refine risesK_ext _ _ h1 h3 fun p => (h2 p).trans (Eq.trans ?_ (h4 p).symm)
 split
 ·rfl
 rename_i hp
 rw [mem_norm, List.mem_append, not_or] at hp
 rw [show atC d p = none from atK_none.2 fun x hx e => hp.2 (List.mem_map.2 ⟨x, hx, e⟩)]
 show none = atF a p
 exact (atK_none.2 fun x hx e => hp.1 (List.mem_map.2 ⟨x, hx, e⟩)).symm
def joinO (x y : Option S45) : Option S45 := match x, y with
 | none, none => none
 | some x, none => some x
 | none, some y => some y
 | some x, some y => if (x.f1 != y.f2 || !eqF x.f3 y.f4) = true then some (outerC x y) else none
theorem joinO_key {p : ByteArray} {c : S45} (h : joinO (atC d p) (atC e p) = some c) : c.f0 = p := by
 cases hx : atC d p with
 | none =>
  cases hy : atC e p with
  | none => rw [hx, hy] at h; cases h
  | some y =>
   rw [hx, hy] at h
   obtain rfl : y = c := Option.some.inj h
   exact (atK_some hy).1
 | some x =>
  cases hy : atC e p with
  | none =>
   rw [hx, hy] at h
   obtain rfl : x = c := Option.some.inj h
   exact (atK_some hx).1
  | some y =>
   rw [hx, hy] at h
   unfold joinO at h
   dsimp only at h
   split at h
   ·obtain rfl : outerC x y = c := Option.some.inj h
    exact (atK_some hx).1
   cases h
theorem may_half {c : S45} (h : mayB c = true) : idleC c = false ∧ (c.f1 = false → c.f3 = z43) ∧ (c.f2 = false → c.f4 = z43) := by
 unfold mayB at h
 simp only [Bool.and_eq_true] at h
 obtain ⟨⟨⟨⟨⟨_, _⟩, hor⟩, h3⟩, h4⟩, h5⟩ := h
 refine ⟨?_, fun h1 => ?_, fun h2 => ?_⟩
 ·unfold idleC
  cases h1 : c.f1 <;> cases h2 : c.f2 <;> simp [h1, h2] at hor h5 ⊢
  exact h5
 ·unfold halfB at h3
  rw [h1, if_neg (by decide)] at h3
  exact eqF_iff.1 h3
 unfold halfB at h4
 rw [h2, if_neg (by decide)] at h4
 exact eqF_iff.1 h4
theorem ref_joinL (hd : DeltaP d) (he : DeltaP e) : (norm (d.map S45.f0 ++ e.map S45.f0)).filterMap (fun p => joinO (atC d p) (atC e p)) = joinK S45.f0 idleC outerC (d.length + e.length) d e := by
 obtain ⟨h1, h2⟩ := rises_filterMap (key := S45.f0) (fun p => joinO (atC d p) (atC e p)) (fun p c h => joinO_key h) _ (rises_norm (d.map S45.f0 ++ e.map S45.f0))
 obtain ⟨h3, h4⟩ := joinK_spec (key := S45.f0) (idle := idleC) (comb := outerC) (fun _ _ => rfl) (d.length + e.length) d e (Nat.le_refl _) hd.rises he.rises
 refine risesK_ext _ _ h1 h3 fun p => (h2 p).trans (Eq.trans ?_ (h4 p).symm)
 have out : (if p ∈ norm (d.map S45.f0 ++ e.map S45.f0) then joinO (atC d p) (atC e p) else none) = joinO (atC d p) (atC e p) := by
  split
  ·rfl
  rename_i hp
  rw [mem_norm, List.mem_append, not_or] at hp
  rw [show atC d p = none from atK_none.2 fun x hx e => hp.1 (List.mem_map.2 ⟨x, hx, e⟩), show atC e p = none from atK_none.2 fun x hx e => hp.2 (List.mem_map.2 ⟨x, hx, e⟩)]
  rfl
 rw [out]
 show joinO (atC d p) (atC e p) = (bothO outerC (atC d p) (atC e p)).filter (fun z => !idleC z)
 cases hx : atC d p with
 | none =>
  cases hy : atC e p with
  | none => rfl
  | some y =>
   have := (may_half (he.may y (atK_some hy).2)).1
   simp [joinO, bothO, Option.filter, this]
 | some x =>
  have mx := may_half (hd.may x (atK_some hx).2)
  cases hy : atC e p with
  | none => simp [joinO, bothO, Option.filter, mx.1]
  | some y =>
   have my := may_half (he.may y (atK_some hy).2)
   have hi : idleC (outerC x y) = !(x.f1 != y.f2 || !eqF x.f3 y.f4) := by
    unfold idleC outerC
    cases g1 : x.f1 <;> cases g2 : y.f2
    ·rw [mx.2.1 g1, my.2.2 g2]; simp [eqF_self]
    ·simp
    ·simp
    simp
   show (if (x.f1 != y.f2 || !eqF x.f3 y.f4) = true then some (outerC x y) else none) = (some (outerC x y)).filter (fun z => !idleC z)
   simp only [Option.filter, hi, Bool.not_not]
end
theorem byte_is (v : Int) : copseref02_Byte.f v = some (okc v) := by
 unfold copseref02_Byte.f
 by_cases h : okc v = true
 ·rw [h]
  simp only [okc, Bool.or_eq_true, Bool.and_eq_true, decide_eq_true_eq] at h
  repeat' split
  all_goals first | rfl | (exfalso; omega) | (congr 1; simp; omega)
 rw [Bool.not_eq_true] at h
 rw [h]
 simp only [okc, Bool.or_eq_false_iff, Bool.and_eq_false_iff, decide_eq_false_iff_not] at h
 repeat' split
 all_goals first | rfl | (exfalso; omega) | (congr 1; simp; omega)
theorem comp02_run (a : ByteArray) (ha : a.size ≤ 4294967296) (d : Nat) : ∀ i, a.size - i = d → i ≤ a.size → Ev (fun k => copseref02_Component.l0 k a (i : Int)) (((bs a).drop i).all fun c => okc (c.toNat : Int)) := by
 induction d with
 | zero =>
  intro i hd hi
  refine ⟨1, fun k hk => ?_⟩
  obtain ⟨k, rfl⟩ : ∃ m, k = m + 1 := ⟨k - 1, by omega⟩
  simp only [copseref02_Component.l0]
  rw [if_neg (by omega), List.drop_of_length_le (by rw [bs_size]; omega)]; rfl
 | succ d ih =>
  intro i hd hi
  have hv := bt_get a i (by omega)
  obtain ⟨K, hK⟩ := ih (i + 1) (by omega) (by omega)
  rw [bs_drop a i (by omega), List.all_cons, ← hv]
  dsimp only at hK
  refine ⟨K + 1, fun k hk => ?_⟩
  obtain ⟨k, rfl⟩ : ∃ m, k = m + 1 := ⟨k - 1, by omega⟩
  have hk1 := hK k (by omega)
  simp only [copseref02_Component.l0]
  rw [if_pos (by omega), if_pos (by omega), byte_is, Option.bind_some, wrap_succ (n := a.size) (by omega) (by omega), hk1]
  cases okc (bt a (i : Int)) <;> simp
theorem ref_comp (a : ByteArray) (ha : a.size ≤ 4294967296) : Ev (fun k => copseref02_Component.f k a) (compB a) := by
 have hj : Ev (fun k => copseref02_Component.j0 k a true) false := ⟨1, fun k hk => by
  obtain ⟨k, rfl⟩ : ∃ m, k = m + 1 := ⟨k - 1, by omega⟩
  simp [copseref02_Component.j0]⟩
 unfold copseref02_Component.f compB
 simp only [toList_bs]
 by_cases h1 : bs a = []
 ·have hz : (a.size : Int) < 1 := by have := bs_size a; rw [h1] at this; simp at this; omega
  simp only [if_pos hz]; exact Ev.val hj (by simp [h1])
 have hz : ¬ (a.size : Int) < 1 := fun h => h1 (List.length_eq_zero_iff.1 (by rw [bs_size]; omega))
 simp only [if_neg hz]
 by_cases h2 : (a.size : Int) > 32
 ·simp only [if_pos h2]; exact Ev.val hj (by simp; omega)
 simp only [if_neg h2]
 by_cases h3 : bs a = [46]
 ·simp only [h3, if_true]; exact Ev.val hj (by simp)
 simp only [if_neg h3]
 by_cases h4 : bs a = [46, 46]
 ·simp only [h4, if_true]; exact Ev.val hj (by simp)
 simp only [if_neg h4]
 by_cases h5 : bs a = [46, 46, 46]
 ·simp only [h5, beq_self_eq_true]; exact Ev.val hj (by simp)
 have e5 : (bs a == [46, 46, 46]) = false := beq_eq_false_iff_ne.mpr h5
 simp only [e5]
 obtain ⟨K, hK⟩ := comp02_run a ha a.size 0 (by omega) (by omega)
 dsimp only at hK
 refine ⟨K + 1, fun k hk => ?_⟩
 obtain ⟨k, rfl⟩ : ∃ m, k = m + 1 := ⟨k - 1, by omega⟩
 have := hK k (by omega)
 simp only [copseref02_Component.j0, Bool.false_eq_true, if_false]
 rw [show ((0 : Nat) : Int) = 0 from rfl] at this
 rw [this]
 have g2 : a.size ≤ 32 := by omega
 simp [h1, g2, h3, h4]
theorem refv_run (x : List ByteArray) (hx : x.length ≤ 4294967296) (hs : ∀ p ∈ x, p.size ≤ 4294967296) (d : Nat) : ∀ i, x.length - i = d → i ≤ x.length → Ev (fun k => copseref02_Valid.l0 k x (i : Int)) ((x.drop i).all compB) := by
 induction d with
 | zero =>
  intro i hd hi
  refine ⟨1, fun k hk => ?_⟩
  obtain ⟨k, rfl⟩ : ∃ m, k = m + 1 := ⟨k - 1, by omega⟩
  simp only [copseref02_Valid.l0]
  rw [if_neg (by omega), List.drop_of_length_le (by omega)]; rfl
 | succ d ih =>
  intro i hd hi
  have hm := rd_mem x i (by omega)
  obtain ⟨K, hK⟩ := ih (i + 1) (by omega) (by omega)
  obtain ⟨K1, hK1⟩ := ref_comp _ (hs _ hm)
  rw [rdOf_drop x i (by omega), List.all_cons]
  dsimp only at hK hK1
  refine ⟨max K K1 + 1, fun k hk => ?_⟩
  obtain ⟨k, rfl⟩ : ∃ m, k = m + 1 := ⟨k - 1, by omega⟩
  simp only [copseref02_Valid.l0]
  rw [if_pos (by omega), if_pos (by omega), hK1 k (by omega), Option.bind_some, wrap_succ (n := x.length) (by omega) (by omega), hK k (by omega)]
  cases compB (rdOf ByteArray.empty x (i : Int)) <;> simp
theorem refv_j0 (a : ByteArray) (ha : a.size ≤ 4294967295) (b : Bool) : Ev (fun k => copseref02_Valid.j0 k (pB a) b) (if b = true then false else (pB a).all compB) := by
 cases b with
 | true => exact ⟨1, fun k hk => by
   obtain ⟨k, rfl⟩ : ∃ m, k = m + 1 := ⟨k - 1, by omega⟩
   simp [copseref02_Valid.j0]⟩
 | false =>
  have hl := pB_length_le a
  obtain ⟨K, hK⟩ := refv_run (pB a) (by omega) (fun p hp => by have := pB_piece_le a p hp; omega) (pB a).length 0 (by omega) (by omega)
  dsimp only at hK
  refine ⟨K + 1, fun k hk => ?_⟩
  obtain ⟨k, rfl⟩ : ∃ m, k = m + 1 := ⟨k - 1, by omega⟩
  simp only [copseref02_Valid.j0, Bool.false_eq_true, if_false]
  exact hK k (by omega)
theorem ref_valid (a : ByteArray) (ha : a.size ≤ 4294967295) : Ev (fun k => copseref02_Valid.f k a) (validB a) := by
 unfold copseref02_Valid.f validB
 refine Ev.bind (ref_split a (by omega)) ?_
 by_cases h1 : (a.size : Int) > 120
 ·simp only [if_pos h1]; exact Ev.val (refv_j0 a ha true) (by simp; omega)
 simp only [if_neg h1]
 refine Ev.val (refv_j0 a ha _) ?_
 have g1 : a.size ≤ 120 := by omega
 by_cases h2 : ((pB a).length : Int) > 12
 ·simp [h2, g1]; omega
 have g2 : (pB a).length ≤ 12 := by omega
 simp [h2, g1, g2]
attribute [local go_sem high] eqA43
theorem below_keeps {w w' : World} {a : Addr} {v : Value} (h : Below w.heap.size w w') (p : w.cell? a = some v) : w'.cell? a = some v := (h.cell (World.block_lt_of_cell? _ _ p)).trans p
set_option maxHeartbeats 4000000 in
set_option maxRecDepth 100000 in
theorem zero06_calls (f : S43) (w : World) :
  Calls Tryz.prog 50 #[.agg #[.string f.f0, .string f.f1, .int .i64 f.f2, .int .i64 f.f3]] w fun e w' => e = .returned (.bool (eqF f z43)) ∧ Below w.heap.size w w' := by
 have hu := Tryz.underlying43
 go_enter Tryz.func50, Tryz.ntmps50
 go_wp2
 go_ret
 refine ⟨?_, below_alloc (Below.refl _ _) _⟩
 have ie : ∀ l : List UInt8, l.isEmpty = (l == []) := fun l => by cases l <;> rfl
 show Ending.returned (.bool (f.f0.toList.isEmpty && (f.f1.toList.isEmpty && (f.f2 == 0 && f.f3 == 0)))) = _
 unfold eqF
 simp only [toList_bs, ie]
 rfl
set_option maxHeartbeats 4000000 in
set_option maxRecDepth 100000 in
theorem refmay_calls (c : S45) (hs : c.f0.size ≤ 1073741824) (w : World) :
  Calls Tryz.prog 25 #[.agg #[.string c.f0, .bool c.f1, .bool c.f2, .string c.f3.f0, .string c.f3.f1, .int .i64 c.f3.f2, .int .i64 c.f3.f3, .string c.f4.f0, .string c.f4.f1, .int .i64 c.f4.f2, .int .i64 c.f4.f3]] w fun e w' => e = .returned (.bool (mayB c)) ∧ Below w.heap.size w w' := by
 have hu := Tryz.underlying43
 have hu2 := Tryz.underlying45
 obtain ⟨K, hK⟩ := Ev.rounds (ref_valid c.f0 (by omega))
 obtain ⟨p, had, has, ⟨o0, o1, o2, o3⟩, ⟨n0, n1, n2, n3⟩⟩ := c
 dsimp only at hs hK ⊢
 have KD := Aside0.mk hK
 clear hK
 go_enter Tryz.func25, Tryz.ntmps25
 by_cases h0 : bs p = []
 ·have h1 : p.toList = [] := by rw [toList_bs]; exact h0
  have MV : mayB ⟨p, had, has, ⟨o0, o1, o2, o3⟩, ⟨n0, n1, n2, n3⟩⟩ = false := by
   unfold mayB
   rw [show (bs p == []) = true by rw [h0]; rfl]
   cases validB p <;> rfl
  go_wp2
  go_ret
  exact ⟨by rw [MV]; rfl, below_alloc (Below.refl _ _) _⟩
 have h1 : (p.toList == ([] : List UInt8)) = false := by rw [toList_bs]; simpa using h0
 have h1' : ¬ p.toList = ([] : List UInt8) := by rw [toList_bs]; exact h0
 have h2 : (bs p == []) = false := by simpa using h0
 cases hv : validB p with
 | false =>
  have MV : mayB ⟨p, had, has, ⟨o0, o1, o2, o3⟩, ⟨n0, n1, n2, n3⟩⟩ = false := by
   unfold mayB
   dsimp only
   rw [hv]; rfl
  rw [hv] at KD
  go_wp2_with fail
  refine (copseref02_Valid.calls K p false _ KD.out).mono ?_
  rintro e w2 ⟨rfl, hb⟩
  go_wp2
  go_ret
  exact ⟨by rw [MV]; rfl, below_then (below_alloc (Below.refl _ _) _) (by simp) hb⟩
 | true =>
  rw [hv] at KD
  have ML : ∀ x y : Bool, ∀ o n : S43, mayB ⟨p, x, y, o, n⟩ = ((x || y) && halfB p x o && halfB p y n && !(x && y && eqF o n)) := fun x y o n => by
   unfold mayB
   dsimp only
   rw [hv, h2]
   rfl
  cases had with
  | false =>
   cases has with
   | false =>
    go_wp2_with fail
    refine (copseref02_Valid.calls K p true _ KD.out).mono ?_
    rintro e w2 ⟨rfl, hb⟩
    have z0 : w2.cell? ⟨w.heap.size, 0, none⟩ = some (.string p) := (hb.cell (p := ⟨w.heap.size, 0, none⟩) (by simp)).trans (cell_new w _ _ 0)
    have z1 : w2.cell? ⟨w.heap.size, 1, none⟩ = some (.bool false) := (hb.cell (p := ⟨w.heap.size, 1, none⟩) (by simp)).trans (cell_new w _ _ 1)
    have z2 : w2.cell? ⟨w.heap.size, 2, none⟩ = some (.bool false) := (hb.cell (p := ⟨w.heap.size, 2, none⟩) (by simp)).trans (cell_new w _ _ 2)
    have z3 : w2.cell? ⟨w.heap.size, 3, none⟩ = some (.string o0) := (hb.cell (p := ⟨w.heap.size, 3, none⟩) (by simp)).trans (cell_new w _ _ 3)
    have z4 : w2.cell? ⟨w.heap.size, 4, none⟩ = some (.string o1) := (hb.cell (p := ⟨w.heap.size, 4, none⟩) (by simp)).trans (cell_new w _ _ 4)
    have z5 : w2.cell? ⟨w.heap.size, 5, none⟩ = some (.int .i64 o2) := (hb.cell (p := ⟨w.heap.size, 5, none⟩) (by simp)).trans (cell_new w _ _ 5)
    have z6 : w2.cell? ⟨w.heap.size, 6, none⟩ = some (.int .i64 o3) := (hb.cell (p := ⟨w.heap.size, 6, none⟩) (by simp)).trans (cell_new w _ _ 6)
    have z7 : w2.cell? ⟨w.heap.size, 7, none⟩ = some (.string n0) := (hb.cell (p := ⟨w.heap.size, 7, none⟩) (by simp)).trans (cell_new w _ _ 7)
    have z8 : w2.cell? ⟨w.heap.size, 8, none⟩ = some (.string n1) := (hb.cell (p := ⟨w.heap.size, 8, none⟩) (by simp)).trans (cell_new w _ _ 8)
    have z9 : w2.cell? ⟨w.heap.size, 9, none⟩ = some (.int .i64 n2) := (hb.cell (p := ⟨w.heap.size, 9, none⟩) (by simp)).trans (cell_new w _ _ 9)
    have z10 : w2.cell? ⟨w.heap.size, 10, none⟩ = some (.int .i64 n3) := (hb.cell (p := ⟨w.heap.size, 10, none⟩) (by simp)).trans (cell_new w _ _ 10)
    go_wp2
    go_ret
    exact ⟨by rw [ML]; rfl, below_then (below_alloc (Below.refl _ _) _) (by simp) hb⟩
   | true =>
    go_wp2_with fail
    refine (copseref02_Valid.calls K p true _ KD.out).mono ?_
    rintro e w2 ⟨rfl, hb⟩
    have z0 : w2.cell? ⟨w.heap.size, 0, none⟩ = some (.string p) := (hb.cell (p := ⟨w.heap.size, 0, none⟩) (by simp)).trans (cell_new w _ _ 0)
    have z1 : w2.cell? ⟨w.heap.size, 1, none⟩ = some (.bool false) := (hb.cell (p := ⟨w.heap.size, 1, none⟩) (by simp)).trans (cell_new w _ _ 1)
    have z2 : w2.cell? ⟨w.heap.size, 2, none⟩ = some (.bool true) := (hb.cell (p := ⟨w.heap.size, 2, none⟩) (by simp)).trans (cell_new w _ _ 2)
    have z3 : w2.cell? ⟨w.heap.size, 3, none⟩ = some (.string o0) := (hb.cell (p := ⟨w.heap.size, 3, none⟩) (by simp)).trans (cell_new w _ _ 3)
    have z4 : w2.cell? ⟨w.heap.size, 4, none⟩ = some (.string o1) := (hb.cell (p := ⟨w.heap.size, 4, none⟩) (by simp)).trans (cell_new w _ _ 4)
    have z5 : w2.cell? ⟨w.heap.size, 5, none⟩ = some (.int .i64 o2) := (hb.cell (p := ⟨w.heap.size, 5, none⟩) (by simp)).trans (cell_new w _ _ 5)
    have z6 : w2.cell? ⟨w.heap.size, 6, none⟩ = some (.int .i64 o3) := (hb.cell (p := ⟨w.heap.size, 6, none⟩) (by simp)).trans (cell_new w _ _ 6)
    have z7 : w2.cell? ⟨w.heap.size, 7, none⟩ = some (.string n0) := (hb.cell (p := ⟨w.heap.size, 7, none⟩) (by simp)).trans (cell_new w _ _ 7)
    have z8 : w2.cell? ⟨w.heap.size, 8, none⟩ = some (.string n1) := (hb.cell (p := ⟨w.heap.size, 8, none⟩) (by simp)).trans (cell_new w _ _ 8)
    have z9 : w2.cell? ⟨w.heap.size, 9, none⟩ = some (.int .i64 n2) := (hb.cell (p := ⟨w.heap.size, 9, none⟩) (by simp)).trans (cell_new w _ _ 9)
    have z10 : w2.cell? ⟨w.heap.size, 10, none⟩ = some (.int .i64 n3) := (hb.cell (p := ⟨w.heap.size, 10, none⟩) (by simp)).trans (cell_new w _ _ 10)
    have BB : Aside0 (Below w.heap.size w w2) := ⟨below_then (below_alloc (Below.refl _ _) _) (by simp) hb⟩
    clear hb
    cases hz : eqF ⟨o0, o1, o2, o3⟩ z43 with
    | false =>
     have MV : mayB ⟨p, false, true, ⟨o0, o1, o2, o3⟩, ⟨n0, n1, n2, n3⟩⟩ = false := by rw [ML]; unfold halfB; simp [hz]
     go_wp2_with fail
     refine (zero06_calls ⟨o0, o1, o2, o3⟩ w2).mono ?_
     rintro e w3 ⟨rfl, hb⟩
     rw [hz]
     go_wp2
     go_ret
     exact ⟨by rw [MV]; rfl, below_then BB.out BB.out.size hb⟩
    | true =>
     go_wp2_with fail
     refine (zero06_calls ⟨o0, o1, o2, o3⟩ w2).mono ?_
     rintro e w3 ⟨rfl, hb⟩
     rw [hz]
     replace z0 := below_keeps hb z0
     replace z1 := below_keeps hb z1
     replace z2 := below_keeps hb z2
     replace z3 := below_keeps hb z3
     replace z4 := below_keeps hb z4
     replace z5 := below_keeps hb z5
     replace z6 := below_keeps hb z6
     replace z7 := below_keeps hb z7
     replace z8 := below_keeps hb z8
     replace z9 := below_keeps hb z9
     replace z10 := below_keeps hb z10
     have B3 : Aside0 (Below w.heap.size w w3) := ⟨below_then BB.out BB.out.size hb⟩
     clear hb
     by_cases hn : n0 = p
     ·have hn1 : n0.toList = p.toList := by rw [hn]
      have MV : mayB ⟨p, false, true, ⟨o0, o1, o2, o3⟩, ⟨n0, n1, n2, n3⟩⟩ = true := by rw [ML]; unfold halfB; simp [hz, hn]
      go_wp2
      go_ret
      exact ⟨by rw [MV]; rfl, B3.out⟩
     have hn1 : ¬ n0.toList = p.toList := fun e => hn (bs_inj (by rw [← toList_bs, ← toList_bs]; exact e))
     have MV : mayB ⟨p, false, true, ⟨o0, o1, o2, o3⟩, ⟨n0, n1, n2, n3⟩⟩ = false := by rw [ML]; unfold halfB; simp [hn1]
     go_wp2
     go_ret
     exact ⟨by rw [MV]; rfl, B3.out⟩
  | true =>
   cases has with
   | false =>
    go_wp2_with fail
    refine (copseref02_Valid.calls K p true _ KD.out).mono ?_
    rintro e w2 ⟨rfl, hb⟩
    have z0 : w2.cell? ⟨w.heap.size, 0, none⟩ = some (.string p) := (hb.cell (p := ⟨w.heap.size, 0, none⟩) (by simp)).trans (cell_new w _ _ 0)
    have z1 : w2.cell? ⟨w.heap.size, 1, none⟩ = some (.bool true) := (hb.cell (p := ⟨w.heap.size, 1, none⟩) (by simp)).trans (cell_new w _ _ 1)
    have z2 : w2.cell? ⟨w.heap.size, 2, none⟩ = some (.bool false) := (hb.cell (p := ⟨w.heap.size, 2, none⟩) (by simp)).trans (cell_new w _ _ 2)
    have z3 : w2.cell? ⟨w.heap.size, 3, none⟩ = some (.string o0) := (hb.cell (p := ⟨w.heap.size, 3, none⟩) (by simp)).trans (cell_new w _ _ 3)
    have z4 : w2.cell? ⟨w.heap.size, 4, none⟩ = some (.string o1) := (hb.cell (p := ⟨w.heap.size, 4, none⟩) (by simp)).trans (cell_new w _ _ 4)
    have z5 : w2.cell? ⟨w.heap.size, 5, none⟩ = some (.int .i64 o2) := (hb.cell (p := ⟨w.heap.size, 5, none⟩) (by simp)).trans (cell_new w _ _ 5)
    have z6 : w2.cell? ⟨w.heap.size, 6, none⟩ = some (.int .i64 o3) := (hb.cell (p := ⟨w.heap.size, 6, none⟩) (by simp)).trans (cell_new w _ _ 6)
    have z7 : w2.cell? ⟨w.heap.size, 7, none⟩ = some (.string n0) := (hb.cell (p := ⟨w.heap.size, 7, none⟩) (by simp)).trans (cell_new w _ _ 7)
    have z8 : w2.cell? ⟨w.heap.size, 8, none⟩ = some (.string n1) := (hb.cell (p := ⟨w.heap.size, 8, none⟩) (by simp)).trans (cell_new w _ _ 8)
    have z9 : w2.cell? ⟨w.heap.size, 9, none⟩ = some (.int .i64 n2) := (hb.cell (p := ⟨w.heap.size, 9, none⟩) (by simp)).trans (cell_new w _ _ 9)
    have z10 : w2.cell? ⟨w.heap.size, 10, none⟩ = some (.int .i64 n3) := (hb.cell (p := ⟨w.heap.size, 10, none⟩) (by simp)).trans (cell_new w _ _ 10)
    have BB : Aside0 (Below w.heap.size w w2) := ⟨below_then (below_alloc (Below.refl _ _) _) (by simp) hb⟩
    clear hb
    by_cases ho : o0 = p
    rotate_left
    ·have ho1 : ¬ o0.toList = p.toList := fun e => ho (bs_inj (by rw [← toList_bs, ← toList_bs]; exact e))
     have MV : mayB ⟨p, true, false, ⟨o0, o1, o2, o3⟩, ⟨n0, n1, n2, n3⟩⟩ = false := by rw [ML]; unfold halfB; simp [ho1]
     go_wp2
     go_ret
     exact ⟨by rw [MV]; rfl, BB.out⟩
    have ho1 : o0.toList = p.toList := by rw [ho]
    cases hz : eqF ⟨n0, n1, n2, n3⟩ z43 with
    | false =>
     have MV : mayB ⟨p, true, false, ⟨o0, o1, o2, o3⟩, ⟨n0, n1, n2, n3⟩⟩ = false := by rw [ML]; unfold halfB; simp [hz]
     go_wp2_with fail
     refine (zero06_calls ⟨n0, n1, n2, n3⟩ w2).mono ?_
     rintro e w3 ⟨rfl, hb⟩
     rw [hz]
     go_wp2
     go_ret
     exact ⟨by rw [MV]; rfl, below_then BB.out BB.out.size hb⟩
    | true =>
     have MV : mayB ⟨p, true, false, ⟨o0, o1, o2, o3⟩, ⟨n0, n1, n2, n3⟩⟩ = true := by rw [ML]; unfold halfB; simp [hz, ho]
     go_wp2_with fail
     refine (zero06_calls ⟨n0, n1, n2, n3⟩ w2).mono ?_
     rintro e w3 ⟨rfl, hb⟩
     rw [hz]
     replace z0 := below_keeps hb z0
     replace z1 := below_keeps hb z1
     replace z2 := below_keeps hb z2
     replace z3 := below_keeps hb z3
     replace z4 := below_keeps hb z4
     replace z5 := below_keeps hb z5
     replace z6 := below_keeps hb z6
     replace z7 := below_keeps hb z7
     replace z8 := below_keeps hb z8
     replace z9 := below_keeps hb z9
     replace z10 := below_keeps hb z10
     go_wp2
     go_ret
     exact ⟨by rw [MV]; rfl, below_then BB.out BB.out.size hb⟩
   | true =>
    go_wp2_with fail
    refine (copseref02_Valid.calls K p true _ KD.out).mono ?_
    rintro e w2 ⟨rfl, hb⟩
    have z0 : w2.cell? ⟨w.heap.size, 0, none⟩ = some (.string p) := (hb.cell (p := ⟨w.heap.size, 0, none⟩) (by simp)).trans (cell_new w _ _ 0)
    have z1 : w2.cell? ⟨w.heap.size, 1, none⟩ = some (.bool true) := (hb.cell (p := ⟨w.heap.size, 1, none⟩) (by simp)).trans (cell_new w _ _ 1)
    have z2 : w2.cell? ⟨w.heap.size, 2, none⟩ = some (.bool true) := (hb.cell (p := ⟨w.heap.size, 2, none⟩) (by simp)).trans (cell_new w _ _ 2)
    have z3 : w2.cell? ⟨w.heap.size, 3, none⟩ = some (.string o0) := (hb.cell (p := ⟨w.heap.size, 3, none⟩) (by simp)).trans (cell_new w _ _ 3)
    have z4 : w2.cell? ⟨w.heap.size, 4, none⟩ = some (.string o1) := (hb.cell (p := ⟨w.heap.size, 4, none⟩) (by simp)).trans (cell_new w _ _ 4)
    have z5 : w2.cell? ⟨w.heap.size, 5, none⟩ = some (.int .i64 o2) := (hb.cell (p := ⟨w.heap.size, 5, none⟩) (by simp)).trans (cell_new w _ _ 5)
    have z6 : w2.cell? ⟨w.heap.size, 6, none⟩ = some (.int .i64 o3) := (hb.cell (p := ⟨w.heap.size, 6, none⟩) (by simp)).trans (cell_new w _ _ 6)
    have z7 : w2.cell? ⟨w.heap.size, 7, none⟩ = some (.string n0) := (hb.cell (p := ⟨w.heap.size, 7, none⟩) (by simp)).trans (cell_new w _ _ 7)
    have z8 : w2.cell? ⟨w.heap.size, 8, none⟩ = some (.string n1) := (hb.cell (p := ⟨w.heap.size, 8, none⟩) (by simp)).trans (cell_new w _ _ 8)
    have z9 : w2.cell? ⟨w.heap.size, 9, none⟩ = some (.int .i64 n2) := (hb.cell (p := ⟨w.heap.size, 9, none⟩) (by simp)).trans (cell_new w _ _ 9)
    have z10 : w2.cell? ⟨w.heap.size, 10, none⟩ = some (.int .i64 n3) := (hb.cell (p := ⟨w.heap.size, 10, none⟩) (by simp)).trans (cell_new w _ _ 10)
    have BB : Aside0 (Below w.heap.size w w2) := ⟨below_then (below_alloc (Below.refl _ _) _) (by simp) hb⟩
    clear hb
    by_cases ho : o0 = p
    rotate_left
    ·have ho1 : ¬ o0.toList = p.toList := fun e => ho (bs_inj (by rw [← toList_bs, ← toList_bs]; exact e))
     have MV : mayB ⟨p, true, true, ⟨o0, o1, o2, o3⟩, ⟨n0, n1, n2, n3⟩⟩ = false := by rw [ML]; unfold halfB; simp [ho1]
     go_wp2
     go_ret
     exact ⟨by rw [MV]; rfl, BB.out⟩
    have ho1 : o0.toList = p.toList := by rw [ho]
    by_cases hn : n0 = p
    rotate_left
    ·have hn1 : ¬ n0.toList = p.toList := fun e => hn (bs_inj (by rw [← toList_bs, ← toList_bs]; exact e))
     have MV : mayB ⟨p, true, true, ⟨o0, o1, o2, o3⟩, ⟨n0, n1, n2, n3⟩⟩ = false := by rw [ML]; unfold halfB; simp [hn1]
     go_wp2
     go_ret
     exact ⟨by rw [MV]; rfl, BB.out⟩
    have hn1 : n0.toList = p.toList := by rw [hn]
    have MV : mayB ⟨p, true, true, ⟨o0, o1, o2, o3⟩, ⟨n0, n1, n2, n3⟩⟩ = (!(o1.toList == n1.toList) || (!(o2 == n2) || !(o3 == n3))) := by
     rw [ML]
     unfold halfB eqF
     simp only [ho, hn, if_true, beq_self_eq_true]
     cases (o1.toList == n1.toList) <;> cases (o2 == n2) <;> cases (o3 == n3) <;> rfl
    go_wp2
    go_ret
    exact ⟨by rw [MV]; rfl, BB.out⟩
attribute [local go_sem] max2_int min2_int max_two min_two max_three min_three max_four min_four
set_option linter.unusedVariables false
set_option linter.unusedSimpArgs false
def copseref02_Base.f (k : Nat) (a0 : ByteArray) : Option (ByteArray) := (copseref02_last.f k a0).bind fun t364 => (if 0 ≤ (wrap64 (t364 + 1)) then (if (wrap64 (t364 + 1)) ≤ (a0.size : Int) then (some (a0.extract ((wrap64 (t364 + 1)) : Int).toNat a0.size)) else (none)) else (none))
set_option maxHeartbeats 8000000 in
set_option maxRecDepth 100000 in
theorem copseref02_Base.calls (k : Nat) (a0 : ByteArray) (r : ByteArray) (w : World) (h : copseref02_Base.f k a0 = some r) :
  Calls Tryz.prog 90 #[.string a0] w fun e w' => e = .returned (.string r) ∧ Drawn0 w w' := by
 have H : ((copseref02_last.f k a0).bind fun t364 => (if 0 ≤ (wrap64 (t364 + 1)) then (if (wrap64 (t364 + 1)) ≤ (a0.size : Int) then (some (a0.extract ((wrap64 (t364 + 1)) : Int).toNat a0.size)) else (none)) else (none))) = some r := h
 clear h
 replace H := Option.bind_eq_some_iff.mp H
 obtain ⟨t364, A20, H⟩ := H
 try dsimp only at H
 have A2 := Aside0.mk A20
 clear A20
 obtain ⟨ji3, hji3⟩ : ∃ j_ : Int, (wrap64 (t364 + 1)) = j_ := ⟨_, rfl⟩
 replace H : (if 0 ≤ (ji3) then (if (ji3) ≤ (a0.size : Int) then (some (a0.extract ((ji3) : Int).toNat a0.size)) else (none)) else (none)) = some r := by first | (rw [hji3] at H; exact H) | (simp only [hji3] at H ⊢; exact H)
 (try rw [hji3] at A2)
 have hji3w : (IntKind.i64.wrap (t364 + 1)) = ji3 := (i64_w _).trans hji3
 by_cases c4 : 0 ≤ (ji3)
 rotate_left
 ·rw [if_neg c4] at H
  exact absurd H (by simp)
 rw [if_pos c4] at H
 have c4b0 := eq_true c4
 have c4b1 := decide_eq_true c4
 clear c4
 by_cases c5 : (ji3) ≤ (a0.size : Int)
 rotate_left
 ·rw [if_neg c5] at H
  exact absurd H (by simp)
 rw [if_pos c5] at H
 have c5b0 := eq_true c5
 have c5b1 := decide_eq_true c5
 clear c5
 obtain rfl := Option.some.inj H
 go_enter Tryz.func90, Tryz.ntmps90
 go_wp2_with (first | ((with_reducible refine gate_callee (f := 98) rfl ?_); refine goesL_ (some 5) rfl rfl Tryz.func98 (by kernel_rfl) rfl #[.string a0] rfl (mp_) ?_; (with_reducible refine (copseref02_last.calls k a0 t364 _ A2.out).mono ?_); rintro e w' ⟨rfl, ⟨nd, rfl⟩⟩; refine ⟨_, rfl, ?_⟩))
 go_ret
 exact ⟨by first | rfl | (simp; done) | (simp only [← hji3] <;> (first | rfl | simp)) | (simp [*]; done), dr_⟩
mutual
def copseref04_File.j0 : Nat → Bool → ByteArray → ByteArray → Int → Int → Option (Int)
 | 0, _, _, _, _, _ => none
 | k + 1, x11, x366000, x366001, x366002, x366003 => if x11 = true then (some 7) else ((copseref02_Base.f k x366000).bind fun t367 => (if t367.toList = ([84, 65, 82, 71, 69, 84, 83] : List UInt8) then (if x366002 = 0 then (copseref04_File.j1 k (x366003 != (x366001.size : Int))) else (copseref04_File.j1 k true)) else (if x366001.toList = ([] : List UInt8) then (if x366002 < 0 then (some 8) else (if x366002 > 1152921504606846976 then (some 8) else (if x366003 < 0 then (some 8) else (if x366003 > 4611686018427387904 then (some 8) else (some 0))))) else (some 8))))
def copseref04_File.j1 : Nat → Bool → Option (Int)
 | 0, _ => none
 | k + 1, x26 => if x26 = true then (some 8) else (some 0)
end
def copseref04_File.f (k : Nat) (a0_0 : ByteArray) (a0_1 : ByteArray) (a0_2 : Int) (a0_3 : Int) : Option (Int) := (copseref02_Valid.f k a0_0).bind fun t366 => (if t366 = true then (copseref04_File.j0 k (a0_0.toList == ([] : List UInt8)) a0_0 a0_1 a0_2 a0_3) else (copseref04_File.j0 k true a0_0 a0_1 a0_2 a0_3))
set_option maxHeartbeats 8000000 in
set_option maxRecDepth 100000 in
theorem copseref04_File.calls (k : Nat) (a0_0 : ByteArray) (a0_1 : ByteArray) (a0_2 : Int) (a0_3 : Int) (r : Int) (w : World) (h : copseref04_File.f k a0_0 a0_1 a0_2 a0_3 = some r) :
  Calls Tryz.prog 79 #[.agg #[.string a0_0, .string a0_1, .int .i64 a0_2, .int .i64 a0_3]] w fun e w' => e = .returned (.int .i64 r) ∧ Below w.heap.size w w' := by
 have hu43 := Tryz.underlying43
 have HB := Aside0.mk (Below.refl w.heap.size w)
 have H : ((copseref02_Valid.f k a0_0).bind fun t366 => (if t366 = true then (copseref04_File.j0 k (a0_0.toList == ([] : List UInt8)) a0_0 a0_1 a0_2 a0_3) else (copseref04_File.j0 k true a0_0 a0_1 a0_2 a0_3))) = some r := h
 clear h
 have HC2 := Aside0.mk H
 clear H
 go_enter Tryz.func79, Tryz.ntmps79
 go_upto_region 1 with (first | ((with_reducible refine gate_dst (N := 1) rfl ?_); (try (refine gate_guard (by rfl) ?_; dsimp only)); refine box_event ?hg (N := 1) ?hd (cs := #[.string a0_0, .string a0_1, .int .i64 a0_2, .int .i64 a0_3]) (t := 43) ?hr ?_; (case hd => rfl); (case hg => rfl); (case hr => first | (go_simp; done) | (go_simp; rfl)); intro gb365 hg w3 hbox hb; have n0_ := Aside0.mk (below_step (bel_) hb); have n1_ := Aside0.mk (hbox); have n2_ := Aside0.mk ((by rw [hg]; exact (below_size (bel_)) : w.heap.size ≤ gb365)); have n3_ := Aside0.mk ((by rw [hg]; exact (below_size (bel_)) : w.heap.size ≤ gb365)); clear HB; have HB := n0_; have BK365 := n1_; have GW365 := n2_; have GE365 := n3_; clear n0_ n1_ n2_ n3_; clear hb hbox hg))
 (try simp only [Act.put, List.setIfInBounds_toArray, List.set_cons_zero, List.set_cons_succ])
 go_cut [11] (fun v11 wc => ∃ (kq : Nat) (x11_1 : Bool), v11 = .bool x11_1 ∧ Aside0 (copseref04_File.j0 kq x11_1 a0_0 a0_1 a0_2 a0_3 = some r) ∧ Aside0 (kq ≤ k) ∧ Aside0 (wc.heap[gb365]? = some (.cells #[.string a0_0, .string a0_1, .int .i64 a0_2, .int .i64 a0_3] 43 (0, 0))) ∧ Aside0 (Below w.heap.size w wc))
 case first =>
  have H := HC2.out
  clear HC2
  replace H := Option.bind_eq_some_iff.mp H
  obtain ⟨t366, A40, H⟩ := H
  try dsimp only at H
  have A4 := Aside0.mk A40
  clear A40
  by_cases c5 : t366 = true
  ·subst c5
   rw [if_pos rfl] at H
   have H1 := H
   clear H
   have H := H1
   clear H1
   have H' := Aside0.mk H
   clear H
   have hcz6_0 : w3.cell? ⟨gb365, 0, none⟩ = some (.string a0_0) := (blk_cell BK365.out 0).trans rfl
   have hcz6_1 : w3.cell? ⟨gb365, 1, none⟩ = some (.string a0_1) := (blk_cell BK365.out 1).trans rfl
   have hcz6_2 : w3.cell? ⟨gb365, 2, none⟩ = some (.int .i64 a0_2) := (blk_cell BK365.out 2).trans rfl
   have hcz6_3 : w3.cell? ⟨gb365, 3, none⟩ = some (.int .i64 a0_3) := (blk_cell BK365.out 3).trans rfl
   have hfz6_0 := blk_frozen BK365.out 0
   have hfz6_1 := blk_frozen BK365.out 1
   have hfz6_2 := blk_frozen BK365.out 2
   have hfz6_3 := blk_frozen BK365.out 3
   go_wp2_with (first | ((with_reducible refine gate_callee (f := 49) rfl ?_); refine goesL_ (some 5) rfl rfl Tryz.func49 (by kernel_rfl) rfl #[.string a0_0] rfl (mp_) ?_; (with_reducible refine (copseref02_Valid.calls k a0_0 true _ A4.out).mono ?_); rintro e w7 ⟨rfl, hb⟩; refine ⟨_, rfl, ?_⟩; have n0_ := Aside0.mk (blk_below (g := gb365) (o := .cells #[.string a0_0, .string a0_1, .int .i64 a0_2, .int .i64 a0_3] 43 (0, 0)) (ub_ BK365.out) hb); have n1_ := Aside0.mk (below_step (bes_ GE365.out) hb); clear BK365; clear HB; have BK365 := n0_; have HB := n1_; clear n0_ n1_; (try clear hb); (try clear hb2); (try clear hk); (try clear hi); have hcz8_0 : w7.cell? ⟨gb365, 0, none⟩ = some (.string a0_0) := (blk_cell BK365.out 0).trans rfl; have hcz8_1 : w7.cell? ⟨gb365, 1, none⟩ = some (.string a0_1) := (blk_cell BK365.out 1).trans rfl; have hcz8_2 : w7.cell? ⟨gb365, 2, none⟩ = some (.int .i64 a0_2) := (blk_cell BK365.out 2).trans rfl; have hcz8_3 : w7.cell? ⟨gb365, 3, none⟩ = some (.int .i64 a0_3) := (blk_cell BK365.out 3).trans rfl; have hfz8_0 := blk_frozen BK365.out 0; have hfz8_1 := blk_frozen BK365.out 1; have hfz8_2 := blk_frozen BK365.out 2; have hfz8_3 := blk_frozen BK365.out 3))
   go_meet
   case rel => exact ⟨_, ((a0_0.toList == ([] : List UInt8))), (rf_), H', ⟨by first | omega | exact Nat.le_refl _⟩, ⟨ub_ BK365.out⟩, ⟨bes_ GE365.out⟩⟩
  replace c5 := Bool.eq_false_iff.mpr c5
  subst c5
  have H1 : (copseref04_File.j0 k true a0_0 a0_1 a0_2 a0_3) = some r := by rw [if_neg (show ¬ (false = true) by decide)] at H; exact H
  clear H
  have H := H1
  clear H1
  have H' := Aside0.mk H
  clear H
  have hcz9_0 : w3.cell? ⟨gb365, 0, none⟩ = some (.string a0_0) := (blk_cell BK365.out 0).trans rfl
  have hcz9_1 : w3.cell? ⟨gb365, 1, none⟩ = some (.string a0_1) := (blk_cell BK365.out 1).trans rfl
  have hcz9_2 : w3.cell? ⟨gb365, 2, none⟩ = some (.int .i64 a0_2) := (blk_cell BK365.out 2).trans rfl
  have hcz9_3 : w3.cell? ⟨gb365, 3, none⟩ = some (.int .i64 a0_3) := (blk_cell BK365.out 3).trans rfl
  have hfz9_0 := blk_frozen BK365.out 0
  have hfz9_1 := blk_frozen BK365.out 1
  have hfz9_2 := blk_frozen BK365.out 2
  have hfz9_3 := blk_frozen BK365.out 3
  go_wp2_with (first | ((with_reducible refine gate_callee (f := 49) rfl ?_); refine goesL_ (some 5) rfl rfl Tryz.func49 (by kernel_rfl) rfl #[.string a0_0] rfl (mp_) ?_; (with_reducible refine (copseref02_Valid.calls k a0_0 false _ A4.out).mono ?_); rintro e w10 ⟨rfl, hb⟩; refine ⟨_, rfl, ?_⟩; have n0_ := Aside0.mk (blk_below (g := gb365) (o := .cells #[.string a0_0, .string a0_1, .int .i64 a0_2, .int .i64 a0_3] 43 (0, 0)) (ub_ BK365.out) hb); have n1_ := Aside0.mk (below_step (bes_ GE365.out) hb); clear BK365; clear HB; have BK365 := n0_; have HB := n1_; clear n0_ n1_; (try clear hb); (try clear hb2); (try clear hk); (try clear hi)))
  go_meet
  case rel => exact ⟨_, (true), (rf_), H', ⟨by first | omega | exact Nat.le_refl _⟩, ⟨ub_ BK365.out⟩, ⟨bes_ GE365.out⟩⟩
 case rest =>
  clear HC2
  try clear p2
  try clear c4
  try clear c5
  try clear c7
  try clear hcz6_0
  try clear hcz6_1
  try clear hcz6_2
  try clear hcz6_3
  try clear hcz8_0
  try clear hcz8_1
  try clear hcz8_2
  try clear hcz8_3
  try clear hcz9_0
  try clear hcz9_1
  try clear hcz9_2
  try clear hcz9_3
  try clear hfz6_0
  try clear hfz6_1
  try clear hfz6_2
  try clear hfz6_3
  try clear hfz8_0
  try clear hfz8_1
  try clear hfz8_2
  try clear hfz8_3
  try clear hfz9_0
  try clear hfz9_1
  try clear hfz9_2
  try clear hfz9_3
  obtain ⟨kq, x11_1, rfl, HA, HJ1, BK365, HB⟩ := hcut
  cases kq with
  | zero => exact absurd HA.out (by simp [copseref04_File.j0])
  | succ kj1 =>
   have H := HA.out
   clear HA
   simp only [copseref04_File.j0] at H
   by_cases c11 : x11_1 = true
   ·subst c11
    rw [if_pos rfl] at H
    have H1 := H
    clear H
    have H := H1
    clear H1
    obtain rfl := Option.some.inj H
    go_wp2
    go_ret
    exact ⟨er_, bes_ GE365.out⟩
   replace c11 := Bool.eq_false_iff.mpr c11
   subst c11
   have H1 : ((copseref02_Base.f kj1 a0_0).bind fun t367 => (if t367.toList = ([84, 65, 82, 71, 69, 84, 83] : List UInt8) then (if a0_2 = 0 then (copseref04_File.j1 kj1 (a0_3 != (a0_1.size : Int))) else (copseref04_File.j1 kj1 true)) else (if a0_1.toList = ([] : List UInt8) then (if a0_2 < 0 then (some 8) else (if a0_2 > 1152921504606846976 then (some 8) else (if a0_3 < 0 then (some 8) else (if a0_3 > 4611686018427387904 then (some 8) else (some 0))))) else (some 8)))) = some r := by rw [if_neg (show ¬ (false = true) by decide)] at H; exact H
   clear H
   have H := H1
   clear H1
   replace H := Option.bind_eq_some_iff.mp H
   obtain ⟨t367, A120, H⟩ := H
   try dsimp only at H
   have A12 := Aside0.mk A120
   clear A120
   by_cases c13 : t367.toList = ([84, 65, 82, 71, 69, 84, 83] : List UInt8)
   rotate_left
   ·rw [if_neg c13] at H
    have c13b0 : (t367.toList == ([84, 65, 82, 71, 69, 84, 83] : List UInt8)) = false := beq_eq_false_iff_ne.mpr c13
    have c13b1 : (t367.toList != ([84, 65, 82, 71, 69, 84, 83] : List UInt8)) = true := bne_iff_ne.mpr c13
    by_cases c20 : a0_1.toList = ([] : List UInt8)
    rotate_left
    ·rw [if_neg c20] at H
     have c20b0 : (a0_1.toList == ([] : List UInt8)) = false := beq_eq_false_iff_ne.mpr c20
     have c20b1 : (a0_1.toList != ([] : List UInt8)) = true := bne_iff_ne.mpr c20
     obtain rfl := Option.some.inj H
     have hcz30_0 : wc.cell? ⟨gb365, 0, none⟩ = some (.string a0_0) := (blk_cell BK365.out 0).trans rfl
     have hcz30_1 : wc.cell? ⟨gb365, 1, none⟩ = some (.string a0_1) := (blk_cell BK365.out 1).trans rfl
     have hcz30_2 : wc.cell? ⟨gb365, 2, none⟩ = some (.int .i64 a0_2) := (blk_cell BK365.out 2).trans rfl
     have hcz30_3 : wc.cell? ⟨gb365, 3, none⟩ = some (.int .i64 a0_3) := (blk_cell BK365.out 3).trans rfl
     have hfz30_0 := blk_frozen BK365.out 0
     have hfz30_1 := blk_frozen BK365.out 1
     have hfz30_2 := blk_frozen BK365.out 2
     have hfz30_3 := blk_frozen BK365.out 3
     go_wp2_with (first | ((with_reducible refine gate_callee (f := 90) rfl ?_); refine goesL_ (some 14) rfl rfl Tryz.func90 (by kernel_rfl) rfl #[.string a0_0] rfl (mp_) ?_; (with_reducible refine (copseref02_Base.calls kj1 a0_0 t367 _ A12.out).mono ?_); rintro e w' ⟨rfl, ⟨nd, rfl⟩⟩; refine ⟨_, rfl, ?_⟩))
     go_ret
     exact ⟨er_, bes_ GE365.out⟩
    rw [if_pos c20] at H
    have c20b0 : (a0_1.toList == ([] : List UInt8)) = true := beq_iff_eq.mpr c20
    have c20b1 : (a0_1.toList != ([] : List UInt8)) = false := bne_eq_false_iff_eq.mpr c20
    clear c20
    by_cases c21 : a0_2 < 0
    ·rw [if_pos c21] at H
     have c21b0 := decide_eq_true c21
     clear c21
     obtain rfl := Option.some.inj H
     have hcz22_0 : wc.cell? ⟨gb365, 0, none⟩ = some (.string a0_0) := (blk_cell BK365.out 0).trans rfl
     have hcz22_1 : wc.cell? ⟨gb365, 1, none⟩ = some (.string a0_1) := (blk_cell BK365.out 1).trans rfl
     have hcz22_2 : wc.cell? ⟨gb365, 2, none⟩ = some (.int .i64 a0_2) := (blk_cell BK365.out 2).trans rfl
     have hcz22_3 : wc.cell? ⟨gb365, 3, none⟩ = some (.int .i64 a0_3) := (blk_cell BK365.out 3).trans rfl
     have hfz22_0 := blk_frozen BK365.out 0
     have hfz22_1 := blk_frozen BK365.out 1
     have hfz22_2 := blk_frozen BK365.out 2
     have hfz22_3 := blk_frozen BK365.out 3
     go_wp2_with (first | ((with_reducible refine gate_callee (f := 90) rfl ?_); refine goesL_ (some 14) rfl rfl Tryz.func90 (by kernel_rfl) rfl #[.string a0_0] rfl (mp_) ?_; (with_reducible refine (copseref02_Base.calls kj1 a0_0 t367 _ A12.out).mono ?_); rintro e w' ⟨rfl, ⟨nd, rfl⟩⟩; refine ⟨_, rfl, ?_⟩))
     go_ret
     exact ⟨er_, bes_ GE365.out⟩
    rw [if_neg c21] at H
    have c21b0 := decide_eq_false c21
    clear c21
    by_cases c23 : a0_2 > 1152921504606846976
    ·rw [if_pos c23] at H
     have c23b0 := decide_eq_true c23
     clear c23
     obtain rfl := Option.some.inj H
     have hcz24_0 : wc.cell? ⟨gb365, 0, none⟩ = some (.string a0_0) := (blk_cell BK365.out 0).trans rfl
     have hcz24_1 : wc.cell? ⟨gb365, 1, none⟩ = some (.string a0_1) := (blk_cell BK365.out 1).trans rfl
     have hcz24_2 : wc.cell? ⟨gb365, 2, none⟩ = some (.int .i64 a0_2) := (blk_cell BK365.out 2).trans rfl
     have hcz24_3 : wc.cell? ⟨gb365, 3, none⟩ = some (.int .i64 a0_3) := (blk_cell BK365.out 3).trans rfl
     have hfz24_0 := blk_frozen BK365.out 0
     have hfz24_1 := blk_frozen BK365.out 1
     have hfz24_2 := blk_frozen BK365.out 2
     have hfz24_3 := blk_frozen BK365.out 3
     go_wp2_with (first | ((with_reducible refine gate_callee (f := 90) rfl ?_); refine goesL_ (some 14) rfl rfl Tryz.func90 (by kernel_rfl) rfl #[.string a0_0] rfl (mp_) ?_; (with_reducible refine (copseref02_Base.calls kj1 a0_0 t367 _ A12.out).mono ?_); rintro e w' ⟨rfl, ⟨nd, rfl⟩⟩; refine ⟨_, rfl, ?_⟩))
     go_ret
     exact ⟨er_, bes_ GE365.out⟩
    rw [if_neg c23] at H
    have c23b0 := decide_eq_false c23
    clear c23
    by_cases c25 : a0_3 < 0
    ·rw [if_pos c25] at H
     have c25b0 := decide_eq_true c25
     clear c25
     obtain rfl := Option.some.inj H
     have hcz26_0 : wc.cell? ⟨gb365, 0, none⟩ = some (.string a0_0) := (blk_cell BK365.out 0).trans rfl
     have hcz26_1 : wc.cell? ⟨gb365, 1, none⟩ = some (.string a0_1) := (blk_cell BK365.out 1).trans rfl
     have hcz26_2 : wc.cell? ⟨gb365, 2, none⟩ = some (.int .i64 a0_2) := (blk_cell BK365.out 2).trans rfl
     have hcz26_3 : wc.cell? ⟨gb365, 3, none⟩ = some (.int .i64 a0_3) := (blk_cell BK365.out 3).trans rfl
     have hfz26_0 := blk_frozen BK365.out 0
     have hfz26_1 := blk_frozen BK365.out 1
     have hfz26_2 := blk_frozen BK365.out 2
     have hfz26_3 := blk_frozen BK365.out 3
     go_wp2_with (first | ((with_reducible refine gate_callee (f := 90) rfl ?_); refine goesL_ (some 14) rfl rfl Tryz.func90 (by kernel_rfl) rfl #[.string a0_0] rfl (mp_) ?_; (with_reducible refine (copseref02_Base.calls kj1 a0_0 t367 _ A12.out).mono ?_); rintro e w' ⟨rfl, ⟨nd, rfl⟩⟩; refine ⟨_, rfl, ?_⟩))
     go_ret
     exact ⟨er_, bes_ GE365.out⟩
    rw [if_neg c25] at H
    have c25b0 := decide_eq_false c25
    clear c25
    by_cases c27 : a0_3 > 4611686018427387904
    ·rw [if_pos c27] at H
     have c27b0 := decide_eq_true c27
     clear c27
     obtain rfl := Option.some.inj H
     have hcz28_0 : wc.cell? ⟨gb365, 0, none⟩ = some (.string a0_0) := (blk_cell BK365.out 0).trans rfl
     have hcz28_1 : wc.cell? ⟨gb365, 1, none⟩ = some (.string a0_1) := (blk_cell BK365.out 1).trans rfl
     have hcz28_2 : wc.cell? ⟨gb365, 2, none⟩ = some (.int .i64 a0_2) := (blk_cell BK365.out 2).trans rfl
     have hcz28_3 : wc.cell? ⟨gb365, 3, none⟩ = some (.int .i64 a0_3) := (blk_cell BK365.out 3).trans rfl
     have hfz28_0 := blk_frozen BK365.out 0
     have hfz28_1 := blk_frozen BK365.out 1
     have hfz28_2 := blk_frozen BK365.out 2
     have hfz28_3 := blk_frozen BK365.out 3
     go_wp2_with (first | ((with_reducible refine gate_callee (f := 90) rfl ?_); refine goesL_ (some 14) rfl rfl Tryz.func90 (by kernel_rfl) rfl #[.string a0_0] rfl (mp_) ?_; (with_reducible refine (copseref02_Base.calls kj1 a0_0 t367 _ A12.out).mono ?_); rintro e w' ⟨rfl, ⟨nd, rfl⟩⟩; refine ⟨_, rfl, ?_⟩))
     go_ret
     exact ⟨er_, bes_ GE365.out⟩
    rw [if_neg c27] at H
    have c27b0 := decide_eq_false c27
    clear c27
    obtain rfl := Option.some.inj H
    have hcz29_0 : wc.cell? ⟨gb365, 0, none⟩ = some (.string a0_0) := (blk_cell BK365.out 0).trans rfl
    have hcz29_1 : wc.cell? ⟨gb365, 1, none⟩ = some (.string a0_1) := (blk_cell BK365.out 1).trans rfl
    have hcz29_2 : wc.cell? ⟨gb365, 2, none⟩ = some (.int .i64 a0_2) := (blk_cell BK365.out 2).trans rfl
    have hcz29_3 : wc.cell? ⟨gb365, 3, none⟩ = some (.int .i64 a0_3) := (blk_cell BK365.out 3).trans rfl
    have hfz29_0 := blk_frozen BK365.out 0
    have hfz29_1 := blk_frozen BK365.out 1
    have hfz29_2 := blk_frozen BK365.out 2
    have hfz29_3 := blk_frozen BK365.out 3
    go_wp2_with (first | ((with_reducible refine gate_callee (f := 90) rfl ?_); refine goesL_ (some 14) rfl rfl Tryz.func90 (by kernel_rfl) rfl #[.string a0_0] rfl (mp_) ?_; (with_reducible refine (copseref02_Base.calls kj1 a0_0 t367 _ A12.out).mono ?_); rintro e w' ⟨rfl, ⟨nd, rfl⟩⟩; refine ⟨_, rfl, ?_⟩))
    go_ret
    exact ⟨er_, bes_ GE365.out⟩
   rw [if_pos c13] at H
   have c13b0 : (t367.toList == ([84, 65, 82, 71, 69, 84, 83] : List UInt8)) = true := beq_iff_eq.mpr c13
   have c13b1 : (t367.toList != ([84, 65, 82, 71, 69, 84, 83] : List UInt8)) = false := bne_eq_false_iff_eq.mpr c13
   clear c13
   have HC14 := Aside0.mk H
   clear H
   have hcz15_0 : wc.cell? ⟨gb365, 0, none⟩ = some (.string a0_0) := (blk_cell BK365.out 0).trans rfl
   have hcz15_1 : wc.cell? ⟨gb365, 1, none⟩ = some (.string a0_1) := (blk_cell BK365.out 1).trans rfl
   have hcz15_2 : wc.cell? ⟨gb365, 2, none⟩ = some (.int .i64 a0_2) := (blk_cell BK365.out 2).trans rfl
   have hcz15_3 : wc.cell? ⟨gb365, 3, none⟩ = some (.int .i64 a0_3) := (blk_cell BK365.out 3).trans rfl
   have hfz15_0 := blk_frozen BK365.out 0
   have hfz15_1 := blk_frozen BK365.out 1
   have hfz15_2 := blk_frozen BK365.out 2
   have hfz15_3 := blk_frozen BK365.out 3
   go_upto_region 4 with (first | ((with_reducible refine gate_callee (f := 90) rfl ?_); refine goesL_ (some 14) rfl rfl Tryz.func90 (by kernel_rfl) rfl #[.string a0_0] rfl (mp_) ?_; (with_reducible refine (copseref02_Base.calls kj1 a0_0 t367 _ A12.out).mono ?_); rintro e w' ⟨rfl, ⟨nd, rfl⟩⟩; refine ⟨_, rfl, ?_⟩))
   (try simp only [Act.put, List.setIfInBounds_toArray, List.set_cons_zero, List.set_cons_succ])
   go_cut [26] (fun v26 wc => ∃ (kq : Nat) (x26_13 : Bool), v26 = .bool x26_13 ∧ Aside0 (copseref04_File.j1 kq x26_13 = some r) ∧ Aside0 (kq ≤ kj1) ∧ Aside0 (wc.heap[gb365]? = some (.cells #[.string a0_0, .string a0_1, .int .i64 a0_2, .int .i64 a0_3] 43 (0, 0))) ∧ Aside0 (Below w.heap.size w wc))
   case first =>
    have H := HC14.out
    clear HC14
    by_cases c16 : a0_2 = 0
    ·rw [if_pos c16] at H
     have c16b0 : (a0_2 == 0) = true := beq_iff_eq.mpr c16
     have c16b1 : (a0_2 != 0) = false := bne_eq_false_iff_eq.mpr c16
     clear c16
     (first | rw [c16b0] | (simp only [i64_w, i32_w]; rw [c16b0]) | skip)
     have H' := Aside0.mk H
     clear H
     have hcz17_0 : wc.cell? ⟨gb365, 0, none⟩ = some (.string a0_0) := (blk_cell BK365.out 0).trans rfl
     have hcz17_1 : wc.cell? ⟨gb365, 1, none⟩ = some (.string a0_1) := (blk_cell BK365.out 1).trans rfl
     have hcz17_2 : wc.cell? ⟨gb365, 2, none⟩ = some (.int .i64 a0_2) := (blk_cell BK365.out 2).trans rfl
     have hcz17_3 : wc.cell? ⟨gb365, 3, none⟩ = some (.int .i64 a0_3) := (blk_cell BK365.out 3).trans rfl
     have hfz17_0 := blk_frozen BK365.out 0
     have hfz17_1 := blk_frozen BK365.out 1
     have hfz17_2 := blk_frozen BK365.out 2
     have hfz17_3 := blk_frozen BK365.out 3
     go_wp2
     go_meet
     case rel => exact ⟨_, ((a0_3 != (a0_1.size : Int))), (rf_), H', ⟨by have := HJ1.out; first | omega | exact Nat.le_refl _⟩, ⟨ub_ BK365.out⟩, ⟨bes_ GE365.out⟩⟩
    rw [if_neg c16] at H
    have c16b0 : (a0_2 == 0) = false := beq_eq_false_iff_ne.mpr c16
    have c16b1 : (a0_2 != 0) = true := bne_iff_ne.mpr c16
    (first | rw [c16b0] | (simp only [i64_w, i32_w]; rw [c16b0]) | skip)
    have H' := Aside0.mk H
    clear H
    have hcz18_0 : wc.cell? ⟨gb365, 0, none⟩ = some (.string a0_0) := (blk_cell BK365.out 0).trans rfl
    have hcz18_1 : wc.cell? ⟨gb365, 1, none⟩ = some (.string a0_1) := (blk_cell BK365.out 1).trans rfl
    have hcz18_2 : wc.cell? ⟨gb365, 2, none⟩ = some (.int .i64 a0_2) := (blk_cell BK365.out 2).trans rfl
    have hcz18_3 : wc.cell? ⟨gb365, 3, none⟩ = some (.int .i64 a0_3) := (blk_cell BK365.out 3).trans rfl
    have hfz18_0 := blk_frozen BK365.out 0
    have hfz18_1 := blk_frozen BK365.out 1
    have hfz18_2 := blk_frozen BK365.out 2
    have hfz18_3 := blk_frozen BK365.out 3
    go_wp2
    go_meet
    case rel => exact ⟨_, (true), (rf_), H', ⟨by have := HJ1.out; first | omega | exact Nat.le_refl _⟩, ⟨ub_ BK365.out⟩, ⟨bes_ GE365.out⟩⟩
   case rest =>
    clear HC14
    try clear c1
    try clear p2
    try clear c4
    try clear c5
    try clear c7
    try clear c9
    try clear c11
    try clear c13
    try clear c13b0
    try clear c13b1
    try clear c16
    try clear c16b0
    try clear c16b1
    try clear hcz15_0
    try clear hcz15_1
    try clear hcz15_2
    try clear hcz15_3
    try clear hcz17_0
    try clear hcz17_1
    try clear hcz17_2
    try clear hcz17_3
    try clear hcz18_0
    try clear hcz18_1
    try clear hcz18_2
    try clear hcz18_3
    try clear hcz6_0
    try clear hcz6_1
    try clear hcz6_2
    try clear hcz6_3
    try clear hcz8_0
    try clear hcz8_1
    try clear hcz8_2
    try clear hcz8_3
    try clear hcz9_0
    try clear hcz9_1
    try clear hcz9_2
    try clear hcz9_3
    try clear hfz15_0
    try clear hfz15_1
    try clear hfz15_2
    try clear hfz15_3
    try clear hfz17_0
    try clear hfz17_1
    try clear hfz17_2
    try clear hfz17_3
    try clear hfz18_0
    try clear hfz18_1
    try clear hfz18_2
    try clear hfz18_3
    try clear hfz6_0
    try clear hfz6_1
    try clear hfz6_2
    try clear hfz6_3
    try clear hfz8_0
    try clear hfz8_1
    try clear hfz8_2
    try clear hfz8_3
    try clear hfz9_0
    try clear hfz9_1
    try clear hfz9_2
    try clear hfz9_3
    try clear p2
    obtain ⟨kq, x26_13, rfl, HA, HJ13, BK365, HB⟩ := hcut
    cases kq with
    | zero => exact absurd HA.out (by simp [copseref04_File.j1])
    | succ kj13 =>
     have H := HA.out
     clear HA
     simp only [copseref04_File.j1] at H
     by_cases c19 : x26_13 = true
     ·subst c19
      rw [if_pos rfl] at H
      have H1 := H
      clear H
      have H := H1
      clear H1
      obtain rfl := Option.some.inj H
      go_wp2
      go_ret
      exact ⟨er_, bes_ GE365.out⟩
     replace c19 := Bool.eq_false_iff.mpr c19
     subst c19
     have H1 : (some 0) = some r := by rw [if_neg (show ¬ (false = true) by decide)] at H; exact H
     clear H
     have H := H1
     clear H1
     obtain rfl := Option.some.inj H
     go_wp2
     go_ret
     exact ⟨er_, bes_ GE365.out⟩
theorem base02_ev (a : ByteArray) (ha : a.size ≤ 4294967295) : Ev (fun k => copseref02_Base.f k a) (baseB a) := by
 have hb := lastS_bd (bs a)
 rw [bs_size] at hb
 refine Ev.bind (ref_last a (by omega)) (ev_pure fun k => ?_)
 rw [wrap_add (by omega) (by omega), if_pos (by omega), if_pos (by omega)]; rfl
def file04 (f : S43) : Int := if placedB f = true then (if fileR f = true then 0 else 8) else 7
theorem file04_ev (f : S43) (h : f.f0.size ≤ 1073741824) : Ev (fun k => copseref04_File.f k f.f0 f.f1 f.f2 f.f3) (file04 f) := by
 have h1 : ∀ b : Bool, Ev (fun k => copseref04_File.j1 k b) (if b = true then 8 else 0) := fun b => ⟨1, fun k hk => by
  obtain ⟨k, rfl⟩ : ∃ m, k = m + 1 := ⟨k - 1, by omega⟩
  cases b <;> simp [copseref04_File.j1]⟩
 have nope : Ev (fun k => copseref04_File.j0 k true f.f0 f.f1 f.f2 f.f3) 7 := ⟨1, fun k hk => by
  obtain ⟨k, rfl⟩ : ∃ m, k = m + 1 := ⟨k - 1, by omega⟩
  simp [copseref04_File.j0]⟩
 unfold copseref04_File.f file04 placedB
 refine Ev.bind (ref_valid f.f0 (by omega)) ?_
 cases hv : validB f.f0 with
 | false => simp only [Bool.and_false, Bool.false_eq_true, if_false]; exact nope
 | true =>
  simp only [if_true, toList_bs, Bool.and_true]
  by_cases c : bs f.f0 = []
  ·rw [show (bs f.f0 == []) = true by rw [c]; rfl]
   simp only [Bool.not_true, Bool.false_eq_true, if_false]
   exact nope
  rw [show (bs f.f0 == []) = false by simpa using c]
  simp only [Bool.not_false, if_true]
  unfold fileR
  refine Ev.step (f := fun k => (copseref02_Base.f k f.f0).bind fun t330 => (if t330.toList = ([84, 65, 82, 71, 69, 84, 83] : List UInt8) then (if f.f2 = 0 then (copseref04_File.j1 k (f.f3 != (f.f1.size : Int))) else (copseref04_File.j1 k true)) else (if f.f1.toList = ([] : List UInt8) then (if f.f2 < 0 then (some 8) else (if f.f2 > 1152921504606846976 then (some 8) else (if f.f3 < 0 then (some 8) else (if f.f3 > 4611686018427387904 then (some 8) else (some 0))))) else (some 8)))) (fun k => by
   simp only [copseref04_File.j0]
   rw [if_neg (by simp)]) ?_
  refine Ev.bind (base02_ev f.f0 (by omega)) ?_
  simp only [toList_bs]
  by_cases c : bs (baseB f.f0) = [84, 65, 82, 71, 69, 84, 83]
  ·simp only [if_pos c]
   by_cases c2 : f.f2 = 0
   rotate_left
   ·simp only [if_neg c2]; exact Ev.val (h1 true) (by simp [c2])
   simp only [if_pos c2]
   refine Ev.val (h1 _) ?_
   by_cases c3 : f.f3 = (f.f1.size : Int)
   ·rw [c3]; simp [c2]
   have e : (f.f3 != (f.f1.size : Int)) = true := bne_iff_ne.mpr c3
   rw [e]; simp [c3]
  simp only [if_neg c]
  by_cases c1 : bs f.f1 = []
  rotate_left
  ·simp only [if_neg c1]; exact Ev.val (ev_some 8) (by simp [c1])
  simp only [if_pos c1]
  by_cases d1 : f.f2 < 0
  ·simp only [if_pos d1]; exact Ev.val (ev_some 8) (by simp [show ¬ 0 ≤ f.f2 by omega])
  simp only [if_neg d1]
  by_cases d2 : f.f2 > 1152921504606846976
  ·simp only [if_pos d2]; exact Ev.val (ev_some 8) (by simp [show ¬ f.f2 ≤ 1152921504606846976 by omega])
  simp only [if_neg d2]
  by_cases d3 : f.f3 < 0
  ·simp only [if_pos d3]; exact Ev.val (ev_some 8) (by simp [show ¬ 0 ≤ f.f3 by omega])
  simp only [if_neg d3]
  by_cases d4 : f.f3 > 4611686018427387904
  ·simp only [if_pos d4]; exact Ev.val (ev_some 8) (by simp [show ¬ f.f3 ≤ 4611686018427387904 by omega])
  simp only [if_neg d4]; exact Ev.val (ev_some 0) (by simp [c1, show 0 ≤ f.f2 by omega, show f.f2 ≤ 1152921504606846976 by omega, show 0 ≤ f.f3 by omega, show f.f3 ≤ 4611686018427387904 by omega])
theorem file04_seven {f : S43} : file04 f = 7 ↔ placedB f = false := by
 unfold file04
 cases placedB f
 ·simp
 simp only [if_true]
 constructor
 ·intro h; split at h <;> cases h
 intro h; cases h
theorem file04_zero {f : S43} (h : placedB f = true) : file04 f = 0 ↔ fileR f = true := by
 unfold file04
 rw [if_pos h]
 cases fileR f <;> simp
theorem pair_apart (l : List S43) (h : ∀ i, i + 1 < l.length → Apart2 (rd_T43 l (i : Int)).f0 (rd_T43 l ((i + 1 : Nat) : Int)).f0) : l.Pairwise (fun a b => Apart2 a.f0 b.f0) := by
 have rdg : ∀ i (hi : i < l.length), rd_T43 l (i : Int) = l[i] := fun i hi => by
  unfold rd_T43
  rw [Int.toNat_natCast, List.getD_eq_getElem?_getD, List.getElem?_eq_getElem hi]; rfl
 have far : ∀ n i, i + (n + 1) < l.length → Apart2 (rd_T43 l (i : Int)).f0 (rd_T43 l ((i + (n + 1) : Nat) : Int)).f0 := by
  intro n
  induction n with
  | zero => exact fun i hi => h i hi
  | succ n ih => exact fun i hi => apart_next (ih i (by omega)) (h (i + (n + 1)) (by omega))
 rw [List.pairwise_iff_getElem]
 intro i j hi hj hij
 have := far (j - i - 1) i (by omega)
 rw [show i + (j - i - 1 + 1) = j by omega, rdg i hi, rdg j hj] at this
 exact this
theorem snapV_seven {l : List S43} (i : Nat) (hi : i < l.length) (h : placedB (rd_T43 l (i : Int)) = false) : snapV l = 7 := by
 unfold snapV
 rw [if_neg]
 intro ha
 rw [List.all_eq_true.1 ha _ (rdF_mem l i hi)] at h
 cases h
theorem all_placed {l : List S43} (h : ∀ j, j < l.length → placedB (rd_T43 l (j : Int)) = true) : l.all placedB = true := by
 rw [List.all_eq_true]
 intro x hx
 obtain ⟨j, hj, rfl⟩ := List.getElem_of_mem hx
 have := h j hj
 unfold rd_T43 at this
 rwa [Int.toNat_natCast, List.getD_eq_getElem?_getD, List.getElem?_eq_getElem hj] at this
theorem snapV_eight {l : List S43} (hp : l.all placedB = true) (h : snapV l ≠ 0) : snapV l = 8 := by
 unfold snapV at h ⊢
 rw [if_pos hp] at h ⊢
 split
 ·rfl
 rename_i h5
 rw [if_neg h5] at h
 split
 ·rename_i hc
  rw [if_pos hc] at h
  exact absurd rfl h
 rfl
theorem snapV_apart {l : List S43} (h : snapV l = 0) (i : Nat) (hi : i + 1 < l.length) : Apart2 (rd_T43 l (i : Int)).f0 (rd_T43 l ((i + 1 : Nat) : Int)).f0 := by
 have rdg : ∀ i (hi : i < l.length), rd_T43 l (i : Int) = l[i] := fun i hi => by
  unfold rd_T43
  rw [Int.toNat_natCast, List.getD_eq_getElem?_getD, List.getElem?_eq_getElem hi]; rfl
 have hp := ((snap_zero l).1 h).2.2.2
 rw [List.pairwise_iff_getElem] at hp
 rw [rdg i (by omega), rdg (i + 1) hi]
 exact hp i (i + 1) (by omega) hi (by omega)
def Ref04W.T13 : Bool × List (List Nat × List Nat) := (true, [([], []), ([0], [0]), ([1], [1]), ([2], [2]), ([2], [2]), ([4, 2], [2, 4]), ([3, 5, 2], [2, 3, 5]), ([6, 2], [2, 6]), ([7, 2], [2, 7]), ([2], [2]), ([2], [2]), ([9, 10, 2], [2, 9, 10]), ([11, 2], [2, 11]), ([12, 2], [2, 12]), ([8, 13, 2, 2], [2, 8, 13]), ([14, 2], [2, 14]), ([2, 15], [2, 15])])
def Ref04W.B13 : List Nat := [0, 1, 3, 7, 7, 23, 63, 127, 255, 7, 7, 1543, 3591, 7687, 16383, 32767, 65535]
theorem Ref04W.tab13 : rtab .any (opsOf Tryz.f60 13) = Ref04W.T13 := by kernel_rfl
theorem Ref04W.bits13 : waitsOk Ref04W.T13.2 Ref04W.B13 = true := by kernel_rfl
def Ref04W.T18 : Bool × List (List Nat × List Nat) := (true, [([], []), ([], []), ([0, 1], [0, 1]), ([2], [2]), ([3], [3]), ([], []), ([], []), ([6], [6]), ([5, 7], [5, 7]), ([8], [8]), ([9], [9]), ([4, 10], [4, 10])])
def Ref04W.B18 : List Nat := [0, 0, 3, 7, 15, 0, 0, 64, 224, 480, 992, 2047]
theorem Ref04W.tab18 : rtab .any (opsOf Tryz.f60 18) = Ref04W.T18 := by kernel_rfl
theorem Ref04W.bits18 : waitsOk Ref04W.T18.2 Ref04W.B18 = true := by kernel_rfl
set_option maxHeartbeats 4000000 in
set_option maxRecDepth 100000 in
theorem ref04_calls (A0 : Option Addr) (c0 : Nat) (l : List S43) (w : World) (hr0 : Kd.C k43 w A0 l.length l) (hl : l.length ≤ 1073741824) (hf : FitsF l) :
  Calls Tryz.prog 60 #[.slice A0 l.length c0] w fun e w' => e = .returned (.int .i64 (snapV l)) ∧ Below w.heap.size w w' := by
 have hu := Tryz.underlying43
 have HR := Aside0.mk hr0
 have HF := Aside0.mk hf
 have FILE : Aside0 (∀ f : S43, f.f0.size ≤ 1073741824 → ∃ k, copseref04_File.f k f.f0 f.f1 f.f2 f.f3 = some (file04 f)) := ⟨fun f h => Ev.rounds (file04_ev f h)⟩
 clear hr0 hf
 go_enter Tryz.func60, Tryz.ntmps60
 go_wp2
 go_loopg [3] l.length (fun gg s3 wr => ∃ i : Nat, i ≤ l.length ∧ l.length - i ≤ gg ∧ s3 = .int .i64 i ∧ Aside0 (∀ j, j < i → placedB (rd_T43 l (j : Int)) = true) ∧ Aside0 (Below w.heap.size w wr))
 case atStart => exact ⟨0, by omega, by omega, rfl, ⟨fun j h => absurd h (by omega)⟩, ⟨Below.refl _ _⟩⟩
 case round =>
  obtain ⟨i, hi, hg, rfl, P1, B1⟩ := hrel
  by_cases hlt : i < l.length
  ·have hltz : (i : Int) < (l.length : Int) := by omega
   obtain ⟨ad, rfl, h0, h1, h2, h3⟩ := at_T43 (Kd.C_below HR.out B1.out) (i : Int) (by omega) hltz
   rw [Int.toNat_natCast] at h0 h1 h2 h3
   obtain ⟨K, hK⟩ := FILE.out _ (HF.out _ (rdF_mem l i hlt)).1
   have KD := Aside0.mk hK
   clear hK
   have PX : Aside0 (∀ h : placedB (rd_T43 l (i : Int)) = true, ∀ j, j < i + 1 → placedB (rd_T43 l (j : Int)) = true) := ⟨fun h j hj => by
    by_cases e : j = i
    ·subst e; exact h
    ·exact P1.out j (by omega)⟩
   have S7 : Aside0 (placedB (rd_T43 l (i : Int)) = false → snapV l = 7) := ⟨snapV_seven i hlt⟩
   generalize rd_T43 l (i : Int) = x at h0 h1 h2 h3 KD PX S7
   cases hp : placedB x with
   | true =>
    have n7 : (file04 x == 7) = false := beq_eq_false_iff_ne.2 fun e => by rw [file04_seven.1 e] at hp; cases hp
    have PY := Aside0.mk (PX.out hp)
    clear PX S7 hp
    go_wp2_with fail
    refine (copseref04_File.calls K _ _ _ _ _ _ KD.out).mono ?_
    rintro e w2 ⟨rfl, hb⟩
    have B2 : Aside0 (Below w.heap.size w w2) := ⟨below_then B1.out B1.out.size hb⟩
    clear hb
    go_wp2
    go_roundg (l.length - (i + 1))
    case measure => omega
    case rel => exact ⟨i + 1, by omega, by omega, by go_num, PY, B2⟩
   | false =>
    have n7 : file04 x = 7 := file04_seven.2 hp
    have SV := Aside0.mk (S7.out hp)
    clear PX S7 hp
    rw [n7] at KD
    go_wp2_with fail
    refine (copseref04_File.calls K _ _ _ _ _ _ KD.out).mono ?_
    rintro e w2 ⟨rfl, hb⟩
    have B2 : Aside0 (Below w.heap.size w w2) := ⟨below_then B1.out B1.out.size hb⟩
    clear hb
    go_wp2
    go_ret
    exact ⟨by rw [SV.out]; rfl, B2.out⟩
  have hltz : ¬ (i : Int) < (l.length : Int) := by omega
  obtain rfl : i = l.length := by omega
  have AP := Aside0.mk (all_placed P1.out)
  clear P1
  by_cases h5 : l.length > 512
  ·have h5z : (512 : Int) < (l.length : Int) := by omega
   have SV : Aside0 (snapV l = 8) := ⟨by unfold snapV; rw [if_pos AP.out, if_pos h5]⟩
   go_wp2
   go_ret
   exact ⟨by rw [SV.out]; rfl, B1.out⟩
  have h5z : ¬ (512 : Int) < (l.length : Int) := by omega
  have CMP : Aside0 (∀ f g : S43, f.f0.size ≤ 1073741824 → g.f0.size ≤ 1073741824 → ∃ k, copseref02_Cmp.f k f.f0 g.f0 = some (cB f.f0 g.f0)) := ⟨fun f g h1 h2 => Ev.rounds (ref_cmp f.f0 g.f0 (by omega) (by omega))⟩
  have ABV : Aside0 (∀ f g : S43, f.f0.size ≤ 1073741824 → g.f0.size ≤ 1073741824 → ∃ k, copseref02_Above.f k f.f0 g.f0 = some (aboveB f.f0 g.f0)) := ⟨fun f g h1 h2 => Ev.rounds (ref_above f.f0 g.f0 (by omega) (by omega))⟩
  go_wp2
  go_loopg [4] l.length (fun gg s4 wr => ∃ i : Nat, i ≤ l.length ∧ l.length - i ≤ gg ∧ s4 = .int .i64 i ∧ Aside0 (∀ j, j < i → fileR (rd_T43 l (j : Int)) = true) ∧ Aside0 (∀ j, j + 1 < i → cB (rd_T43 l (j : Int)).f0 (rd_T43 l ((j + 1 : Nat) : Int)).f0 < 0) ∧ Aside0 (Below w.heap.size w wr))
  case atStart => exact ⟨0, by omega, by omega, rfl, ⟨fun j h => absurd h (by omega)⟩, ⟨fun j h => absurd h (by omega)⟩, B1⟩
  case round =>
   clear B1
   obtain ⟨i, hi, hg, rfl, P1, P2, B1⟩ := hrel
   by_cases hlt : i < l.length
   rotate_left
   ·have hltz : ¬ (i : Int) < (l.length : Int) := by omega
    obtain rfl : i = l.length := by omega
    go_wp2
    go_loopg [5] l.length (fun gg s5 wr => ∃ i : Nat, i ≤ l.length ∧ l.length - i ≤ gg ∧ s5 = .int .i64 i ∧ Aside0 (∀ j, j < i → j + 1 < l.length ∧ aboveB (rd_T43 l (j : Int)).f0 (rd_T43 l ((j + 1 : Nat) : Int)).f0 = false) ∧ Aside0 (Below w.heap.size w wr))
    case atStart => exact ⟨0, by omega, by omega, rfl, ⟨fun j h => absurd h (by omega)⟩, B1⟩
    case round =>
     clear B1
     obtain ⟨i, hi, hg, rfl, P3, B1⟩ := hrel
     have hw : IntKind.i64.wrap ((i : Int) + 1) = ((i + 1 : Nat) : Int) := (IntWalk.i64_in _ (by omega)).trans (by omega)
     by_cases hlt : i + 1 < l.length
     rotate_left
     ·have hltz : ¬ ((i + 1 : Nat) : Int) < (l.length : Int) := by omega
      have SV : Aside0 (snapV l = 0) := ⟨(snap_zero l).2 ⟨AP.out, by omega, fun f hf => by
       obtain ⟨j, hj, rfl⟩ := List.getElem_of_mem hf
       have := P1.out j hj
       unfold rd_T43 at this
       rwa [Int.toNat_natCast, List.getD_eq_getElem?_getD, List.getElem?_eq_getElem hj] at this, pair_apart l fun j hj => ⟨P2.out j hj, (P3.out j (by omega)).2⟩⟩⟩
      go_wp2
      go_ret
      exact ⟨by rw [SV.out]; rfl, B1.out⟩
     have hltz : ((i + 1 : Nat) : Int) < (l.length : Int) := by omega
     have hlz : (i : Int) < (l.length : Int) := by omega
     have hln : i < l.length := by omega
     have h0p : (0 : Int) ≤ (i : Int) + 1 := by omega
     obtain ⟨ad, rfl, p0, p1, p2, p3⟩ := at_T43 (Kd.C_below HR.out B1.out) (i : Int) (by omega) hlz
     obtain ⟨ad2, e2, q0, q1, q2, q3⟩ := at_T43 (Kd.C_below HR.out B1.out) ((i + 1 : Nat) : Int) (by omega) hltz
     obtain rfl : ad = ad2 := by injection e2
     rw [Int.toNat_natCast] at p0 q0
     have SX := Aside0.mk (HF.out _ (rdF_mem l i hln)).1
     have SY := Aside0.mk (HF.out _ (rdF_mem l (i + 1) hlt)).1
     obtain ⟨x, hx⟩ : ∃ x, rd_T43 l (i : Int) = x := ⟨_, rfl⟩
     obtain ⟨y, hy⟩ : ∃ y, rd_T43 l ((i + 1 : Nat) : Int) = y := ⟨_, rfl⟩
     rw [hx] at p0 SX
     rw [hy] at q0 SY
     have HX := Aside0.mk hx
     have HY := Aside0.mk hy
     obtain ⟨K2, hK2⟩ := ABV.out x y SX.out SY.out
     have KC := Aside0.mk hK2
     clear hK2 hx hy e2 p1 p2 p3 q1 q2 q3
     go_wp2
     refine start_ (n := 12) (S := fun w' => w'.cell? (ad.add (i * 4)) = some (.string x.f0) ∧ w'.cell? (ad.add ((i + 1) * 4)) = some (.string y.f0)) (ds := []) (lb 12 0) (by kernel_rfl) rfl rfl ⟨p0, q0⟩ (fun hHeld => ?_); refine with_tabW Ref04W.tab18 Ref04W.bits18 (fun HT_ HW_ => ?_)
     refine pv_ 0 57 (lb 12 1) HT_.out ?_
     refine pv_ 1 58 (lb 12 3) HT_.out ?_
     refine pv_ 2 59 (lb 12 7) HT_.out ?_
     refine pv_ 3 60 (lb 12 15) HT_.out ?_
     refine pv_ 5 62 (lb 12 47) HT_.out ?_
     refine pv_ 6 63 (lb 12 111) HT_.out ?_
     refine pv_ 7 64 (lb 12 239) HT_.out ?_
     refine pv_ 8 65 (lb 12 495) HT_.out ?_
     refine pv_ 9 66 (lb 12 1007) HT_.out ?_
     refine tk_ 4 61 (lb 12 1023) HT_.out HW_.out hHeld ?_
     refine tk_ 10 67 (lb 12 2047) HT_.out HW_.out hHeld ?_
     refine one_ (i := 11) (N := some 68) (lb 12 4095) rfl rfl (one_of HT_.out (by kernel_rfl)) (by decide) (fun K hK => ?_)
     refine goes_ Tryz.func80 (by kernel_rfl) rfl #[.string x.f0, .string y.f0] (by rfl) rfl rfl (by (try simp only [List.map_toArray, List.map_cons, List.map_nil]); first | done | rfl) ?_
     with_reducible refine (copseref02_Above.calls K2 _ _ _ _ KC.out).mono ?_
     rintro e w4 ⟨rfl, hb⟩
     refine ⟨_, rfl, ?_⟩
     refine hK.out _ _ ⟨(hb.cell (World.block_lt_of_cell? _ _ p0)).trans p0, (hb.cell (World.block_lt_of_cell? _ _ q0)).trans q0⟩ (fun hHeld => ?_)
     clear hK K
     refine norm_ (a' := ?_) ?_ ?_
     rotate_left
     ·show Act.put _ (some 68) _ = _
      simp only [Act.put, List.setIfInBounds_toArray, List.set_cons_zero, List.set_cons_succ, i64_w, i32_w]
      rfl
     refine done_ (done_of HT_.out (by kernel_rfl)) ?_
     have B4 : Aside0 (Below w.heap.size w w4) := ⟨below_then B1.out.drew B1.out.drew.size hb⟩
     clear hb hHeld q0 p0 B1
     cases hc : aboveB x.f0 y.f0 with
     | false =>
      have PC : Aside0 (∀ j, j < i + 1 → j + 1 < l.length ∧ aboveB (rd_T43 l (j : Int)).f0 (rd_T43 l ((j + 1 : Nat) : Int)).f0 = false) := ⟨fun j hj => by
       by_cases e : j = i
       ·subst e; rw [HX.out, HY.out]; exact ⟨hlt, hc⟩
       ·exact P3.out j (by omega)⟩
      go_wp2
      go_roundg (l.length - (i + 1))
      case measure => omega
      case rel => exact ⟨i + 1, by omega, by omega, by go_num, PC, B4⟩
     | true =>
      have SV : Aside0 (snapV l = 8) := ⟨snapV_eight AP.out fun e => by
       have := (snapV_apart e i hlt).2
       rw [HX.out, HY.out, hc] at this
       cases this⟩
      go_wp2
      go_ret
      exact ⟨by rw [SV.out]; rfl, B4.out⟩
   have hltz : (i : Int) < (l.length : Int) := by omega
   obtain ⟨ad, rfl, h0, h1, h2, h3⟩ := at_T43 (Kd.C_below HR.out B1.out) (i : Int) (by omega) hltz
   rw [Int.toNat_natCast] at h0 h1 h2 h3
   have SX := Aside0.mk (HF.out _ (rdF_mem l i hlt)).1
   obtain ⟨K, hK⟩ := FILE.out _ SX.out
   have KD := Aside0.mk hK
   clear hK
   have PA : Aside0 (placedB (rd_T43 l (i : Int)) = true) := ⟨List.all_eq_true.1 AP.out _ (rdF_mem l i hlt)⟩
   have S8 : Aside0 (fileR (rd_T43 l (i : Int)) = false → snapV l = 8) := ⟨fun h => snapV_eight AP.out fun e => by
    rw [((snap_zero l).1 e).2.2.1 _ (rdF_mem l i hlt)] at h; cases h⟩
   have PF : Aside0 (fileR (rd_T43 l (i : Int)) = true → ∀ j, j < i + 1 → fileR (rd_T43 l (j : Int)) = true) := ⟨fun h j hj => by
    by_cases e : j = i
    ·subst e; exact h
    ·exact P1.out j (by omega)⟩
   have HXX : Aside0 (∃ x, rd_T43 l (i : Int) = x) := ⟨_, rfl⟩
   obtain ⟨x, hx⟩ := HXX.out
   clear HXX
   rw [hx] at h0 h1 h2 h3 KD PA S8 PF SX
   have HX := Aside0.mk hx
   clear hx
   cases hp : fileR x with
   | false =>
    have n0 : (file04 x == 0) = false := beq_eq_false_iff_ne.2 fun e => by rw [(file04_zero PA.out).1 e] at hp; cases hp
    have SV := Aside0.mk (S8.out hp)
    clear PF S8 hp
    go_wp2_with fail
    refine (copseref04_File.calls K _ _ _ _ _ _ KD.out).mono ?_
    rintro e w2 ⟨rfl, hb⟩
    have B2 : Aside0 (Below w.heap.size w w2) := ⟨below_then B1.out B1.out.size hb⟩
    clear hb
    go_wp2
    go_ret
    exact ⟨by rw [SV.out]; rfl, B2.out⟩
   | true =>
    have n0 : file04 x = 0 := (file04_zero PA.out).2 hp
    have PY := Aside0.mk (PF.out hp)
    clear PF S8 hp
    rw [n0] at KD
    go_wp2_with fail
    refine (copseref04_File.calls K _ _ _ _ _ _ KD.out).mono ?_
    rintro e w2 ⟨rfl, hb⟩
    have B2 : Aside0 (Below w.heap.size w w2) := ⟨below_then B1.out B1.out.size hb⟩
    clear hb h0 h1 h2 h3
    by_cases h00 : i = 0
    ·have h0z : ¬ (0 : Int) < (i : Int) := by omega
     have B3 : Aside0 (Below w.heap.size w w2.drew) := ⟨B2.out.drew⟩
     clear B2
     go_wp2
     refine start_ (n := 17) (S := fun _ => True) (ds := []) (lb 17 0) (by kernel_rfl) rfl rfl trivial (fun hHeld => ?_); refine with_tabW Ref04W.tab13 Ref04W.bits13 (fun HT_ HW_ => ?_)
     refine pv_ 0 33 (lb 17 1) HT_.out ?_
     refine pv_ 1 34 (lb 17 3) HT_.out ?_
     refine pv_ 2 35 (lb 17 7) HT_.out ?_
     refine pg_ 3 36 (lb 17 15) HT_.out ?_
     refine pg_ 4 37 (lb 17 31) HT_.out ?_
     refine pg_ 5 38 (lb 17 63) HT_.out ?_
     refine pg_ 6 39 (lb 17 127) HT_.out ?_
     refine pg_ 7 40 (lb 17 255) HT_.out ?_
     refine pg_ 8 41 (lb 17 511) HT_.out ?_
     refine pg_ 9 42 (lb 17 1023) HT_.out ?_
     refine pg_ 10 43 (lb 17 2047) HT_.out ?_
     refine pg_ 11 44 (lb 17 4095) HT_.out ?_
     refine pg_ 12 45 (lb 17 8191) HT_.out ?_
     refine pg_ 13 46 (lb 17 16383) HT_.out ?_
     refine pg_ 14 47 (lb 17 32767) HT_.out ?_
     refine pg_ 15 48 (lb 17 65535) HT_.out ?_
     refine pv_ 16 49 (lb 17 131071) HT_.out ?_
     refine done_ (done_of HT_.out (by kernel_rfl)) ?_
     go_wp2
     go_roundg (l.length - (i + 1))
     case measure => omega
     case rel => exact ⟨i + 1, by omega, by omega, by go_num, PY, ⟨fun j hj => absurd hj (by omega)⟩, B3⟩
    have h0z : (0 : Int) < (i : Int) := by omega
    have hw : IntKind.i64.wrap ((i : Int) - 1) = ((i - 1 : Nat) : Int) := (IntWalk.i64_in _ (by omega)).trans (by omega)
    have HY : Aside0 (∃ y, rd_T43 l ((i - 1 : Nat) : Int) = y) := ⟨_, rfl⟩
    obtain ⟨y, hy⟩ := HY.out
    clear HY
    obtain ⟨ad1, e1, p0, p1, p2, p3⟩ := at_T43 (Kd.C_below HR.out B2.out) (i : Int) (by omega) hltz
    obtain rfl : ad = ad1 := by injection e1
    obtain ⟨ad2, e2, q0, q1, q2, q3⟩ := at_T43 (Kd.C_below HR.out B2.out) ((i - 1 : Nat) : Int) (by omega) (by omega)
    obtain rfl : ad = ad2 := by injection e2
    rw [Int.toNat_natCast, HX.out] at p0
    rw [Int.toNat_natCast, hy] at q0
    have SY : Aside0 (y.f0.size ≤ 1073741824) := ⟨by rw [← hy]; exact (HF.out _ (rdF_mem l (i - 1) (by omega))).1⟩
    obtain ⟨K2, hK2⟩ := CMP.out y x SY.out SX.out
    have KC := Aside0.mk hK2
    have HY := Aside0.mk hy
    clear hK2 hy e1 e2 p1 p2 p3 q1 q2 q3
    have h0n : 0 < i := by omega
    have hpn : i - 1 < l.length := by omega
    go_wp2
    refine start_ (n := 17) (S := fun w' => w'.cell? (ad.add ((i - 1) * 4)) = some (.string y.f0) ∧ w'.cell? (ad.add (i * 4)) = some (.string x.f0)) (ds := []) (lb 17 0) (by kernel_rfl) rfl rfl ⟨q0, p0⟩ (fun hHeld => ?_); refine with_tabW Ref04W.tab13 Ref04W.bits13 (fun HT_ HW_ => ?_)
    refine pv_ 0 33 (lb 17 1) HT_.out ?_
    refine pv_ 1 34 (lb 17 3) HT_.out ?_
    refine pv_ 2 35 (lb 17 7) HT_.out ?_
    refine pv_ 3 36 (lb 17 15) HT_.out ?_
    refine pv_ 4 37 (lb 17 31) HT_.out ?_
    refine pv_ 5 38 (lb 17 63) HT_.out ?_
    refine pv_ 6 39 (lb 17 127) HT_.out ?_
    refine pv_ 7 40 (lb 17 255) HT_.out ?_
    refine pv_ 9 42 (lb 17 767) HT_.out ?_
    refine pv_ 10 43 (lb 17 1791) HT_.out ?_
    refine pv_ 11 44 (lb 17 3839) HT_.out ?_
    refine pv_ 12 45 (lb 17 7935) HT_.out ?_
    refine tk_ 8 41 (lb 17 8191) HT_.out HW_.out hHeld ?_
    refine tk_ 13 46 (lb 17 16383) HT_.out HW_.out hHeld ?_
    refine one_ (i := 14) (N := some 47) (lb 17 32767) rfl rfl (one_of HT_.out (by kernel_rfl)) (by decide) (fun K hK => ?_)
    refine goes_ Tryz.func26 (by kernel_rfl) rfl #[.string y.f0, .string x.f0] (by rfl) rfl rfl (by (try simp only [List.map_toArray, List.map_cons, List.map_nil]); first | done | rfl) ?_
    with_reducible refine (copseref02_Cmp.calls K2 _ _ _ _ KC.out).mono ?_
    rintro e w4 ⟨rfl, hb⟩
    refine ⟨_, rfl, ?_⟩
    refine hK.out _ _ ⟨(hb.cell (World.block_lt_of_cell? _ _ q0)).trans q0, (hb.cell (World.block_lt_of_cell? _ _ p0)).trans p0⟩ (fun hHeld => ?_)
    clear hK K
    refine norm_ (a' := ?_) ?_ ?_
    rotate_left
    ·show Act.put _ (some 47) _ = _
     simp only [Act.put, List.setIfInBounds_toArray, List.set_cons_zero, List.set_cons_succ, i64_w, i32_w]
     rfl
    refine pv_ 15 48 (lb 17 65535) HT_.out ?_
    refine pv_ 16 49 (lb 17 131071) HT_.out ?_
    refine done_ (done_of HT_.out (by kernel_rfl)) ?_
    have B4 : Aside0 (Below w.heap.size w w4) := ⟨below_then B2.out.drew B2.out.drew.size hb⟩
    clear hb hHeld q0 p0 B2 B1
    by_cases hc : cB y.f0 x.f0 < 0
    ·have hcz : ¬ (0 : Int) ≤ cB y.f0 x.f0 := by omega
     have PC : Aside0 (∀ j, j + 1 < i + 1 → cB (rd_T43 l (j : Int)).f0 (rd_T43 l ((j + 1 : Nat) : Int)).f0 < 0) := ⟨fun j hj => by
      by_cases e : j + 1 = i
      ·obtain rfl : j = i - 1 := by omega
       rw [e, HX.out, HY.out]; exact hc
      ·exact P2.out j (by omega)⟩
     clear hc
     go_wp2
     go_roundg (l.length - (i + 1))
     case measure => omega
     case rel => exact ⟨i + 1, by omega, by omega, by go_num, PY, PC, B4⟩
    have hcz : (0 : Int) ≤ cB y.f0 x.f0 := by omega
    have SV : Aside0 (snapV l = 8) := ⟨snapV_eight AP.out fun e => by
     have := (snapV_apart e (i - 1) (by omega)).1
     rw [show i - 1 + 1 = i by omega, HX.out, HY.out] at this
     exact hc this⟩
    clear hc
    go_wp2
    go_ret
    exact ⟨by rw [SV.out]; rfl, B4.out⟩
attribute [local go_sem high] eqA43
set_option maxHeartbeats 4000000 in
set_option maxRecDepth 100000 in
theorem refsnap_calls (A0 : Option Addr) (c0 : Nat) (l : List S43) (w : World) (hr0 : Kd.C k43 w A0 l.length l) (hl : l.length ≤ 1073741824) (hf : FitsF l) :
  Calls Tryz.prog 37 #[.slice A0 l.length c0] w fun e w' => e = .returned (.int .i64 (snapV l)) ∧ Below w.heap.size w w' := by
 have HR := Aside0.mk hr0
 have HF := Aside0.mk hf
 clear hr0 hf
 go_enter Tryz.func37, Tryz.ntmps37
 go_wp2_with fail
 refine (ref04_calls A0 c0 l _ HR.out hl HF.out).mono ?_
 rintro e w1 ⟨rfl, hb⟩
 go_wp2
 go_ret
 exact ⟨rfl, hb⟩
abbrev fileO (o : Option S43) : S43 := o.getD z43
theorem foundF_is (o : Option S43) : foundF o = ((fileO o).f0, (fileO o).f1, (fileO o).f2, (fileO o).f3, o.isSome) := by cases o <;> rfl
theorem partsO_is (x y : Option S43) (p : ByteArray) : partsO x y p = if (x.isSome != y.isSome || !eqF (fileO x) (fileO y)) = true then some ⟨p, x.isSome, y.isSome, fileO x, fileO y⟩ else none := by
 cases x with
 | none =>
  cases y with
  | none => simp [partsO, fileO, eqF_self]
  | some y => rfl
 | some x =>
  cases y with
  | none => rfl
  | some y =>
   unfold partsO
   dsimp only
   cases h : eqF x y <;> simp [fileO, h]
theorem neF_bits {x y : S43} (h : eqF x y = false) : (!(x.f0.toList == y.f0.toList) || (!(x.f1.toList == y.f1.toList) || (!(x.f2 == y.f2) || (!(x.f3 == y.f3))))) = true := by
 unfold eqF at h
 cases h0 : (x.f0.toList == y.f0.toList) <;> cases h1 : (x.f1.toList == y.f1.toList) <;> cases h2 : (x.f2 == y.f2) <;> cases h3 : (x.f3 == y.f3) <;> simp [h0, h1, h2, h3] at h ⊢
def diffTo (a b : List S43) (n : List ByteArray) : List S45 := n.filterMap fun p => partsO (atF a p) (atF b p) p
theorem diffTo_succ (a b : List S43) (n : List ByteArray) (i : Nat) (h : i < n.length) : diffTo a b (n.take (i + 1)) = diffTo a b (n.take i) ++ (partsO (atF a (rdOf ByteArray.empty n (i : Int))) (atF b (rdOf ByteArray.empty n (i : Int))) (rdOf ByteArray.empty n (i : Int))).toList := by
 unfold diffTo
 rw [show n.take (i + 1) = n.take i ++ [rdOf ByteArray.empty n (i : Int)] by
  rw [List.take_succ_eq_append_getElem h]
  congr 2
  unfold rdOf
  rw [Int.toNat_natCast, List.getD_eq_getElem?_getD, List.getElem?_eq_getElem h]; rfl, List.filterMap_append]
 cases e : partsO (atF a (rdOf ByteArray.empty n (i : Int))) (atF b (rdOf ByteArray.empty n (i : Int))) (rdOf ByteArray.empty n (i : Int)) <;> simp [e]
theorem diffTo_length (a b : List S43) (n : List ByteArray) (i : Nat) : (diffTo a b (n.take i)).length ≤ i := by
 unfold diffTo
 have := List.length_filterMap_le (fun p => partsO (atF a p) (atF b p) p) (n.take i)
 rw [List.length_take] at this
 omega
def RefD.T11 : Bool × List (List Nat × List Nat) := (true, [([], []), ([], []), ([], []), ([1, 2], [1, 2]), ([3], [3]), ([], []), ([], []), ([], []), ([], []), ([4, 5, 6, 7, 8], [4, 5, 6, 7, 8]), ([9], [9]), ([0, 10], [0, 10]), ([11, 11, 0, 1, 2, 3, 4, 5, 6, 7, 8, 9, 10, 11], [0, 11])])
def RefD.B11 : List Nat := [0, 0, 0, 6, 14, 0, 0, 0, 0, 510, 1022, 2047, 4095]
theorem RefD.tab11 : rtab .any (opsOf Tryz.f18 11) = RefD.T11 := by kernel_rfl
theorem RefD.bits11 : waitsOk RefD.T11.2 RefD.B11 = true := by kernel_rfl
set_option maxHeartbeats 4000000 in
set_option maxRecDepth 100000 in
theorem refdiff_calls (A0 : Option Addr) (c0 : Nat) (a : List S43) (A1 : Option Addr) (c1 : Nat) (b : List S43) (w : World) (hr0 : Kd.C k43 w A0 a.length a) (hc0 : a.length ≤ c0) (hr1 : Kd.C k43 w A1 b.length b) (hc1 : b.length ≤ c1) (la : a.length ≤ 1048576) (lb : b.length ≤ 1048576) (fa : FitsF a) (fb : FitsF b) :
  Calls Tryz.prog 18 #[.slice A0 a.length c0, .slice A1 b.length c1] w fun e w' => ∃ v : Value, e = .returned v ∧ Kd.R k45 45 w' w.heap.size (fun _ => True) v (if snapV a = 0 ∧ snapV b = 0 then diffD a b else []) ∧ Below w.heap.size w w' := by
 have hu := Tryz.underlying43
 have hu2 := Tryz.underlying45
 have HR0 := Aside0.mk hr0
 have HR1 := Aside0.mk hr1
 have FA := Aside0.mk fa
 have FB := Aside0.mk fb
 have HC0 := Aside0.mk hc0
 have HC1 := Aside0.mk hc1
 clear hr0 hr1 fa fb
 go_enter Tryz.func18, Tryz.ntmps18
 by_cases ha : snapV a = 0
 rotate_left
 ·have hn0 : (snapV a == 0) = false := beq_eq_false_iff_ne.2 ha
  go_wp2_with fail
  refine (refsnap_calls A0 c0 a _ HR0.out (by omega) FA.out).mono ?_
  rintro e w1 ⟨rfl, hb⟩
  go_wp2
  go_ret
  exact ⟨_, rfl, Kd.R_nil _ _ _ _ _, hb⟩
 go_wp2_with fail
 refine (refsnap_calls A0 c0 a _ HR0.out (by omega) FA.out).mono ?_
 rintro e w1 ⟨rfl, hb⟩
 rw [ha]
 have B1 := Aside0.mk hb
 clear hb
 by_cases hb0 : snapV b = 0
 rotate_left
 ·have hn0 : (snapV b == 0) = false := beq_eq_false_iff_ne.2 hb0
  go_wp2_with fail
  refine (refsnap_calls A1 c1 b _ (Kd.C_below HR1.out B1.out) (by omega) FB.out).mono ?_
  rintro e w2 ⟨rfl, hb⟩
  have B2 : Aside0 (Below w.heap.size w w2) := ⟨below_then B1.out B1.out.size hb⟩
  go_wp2
  go_ret
  exact ⟨_, rfl, Kd.R_nil _ _ _ _ _, B2.out⟩
 have RL := Aside0.mk (ref_diffL ha hb0)
 go_wp2_with fail
 refine (refsnap_calls A1 c1 b _ (Kd.C_below HR1.out B1.out) (by omega) FB.out).mono ?_
 rintro e w2 ⟨rfl, hb⟩
 rw [hb0]
 have B2 : Aside0 (Below w.heap.size w w2) := ⟨below_then B1.out B1.out.size hb⟩
 clear hb B1
 obtain ⟨K, hK⟩ := Ev.rounds (refall06 a b (by omega) (by omega) FA.out FB.out)
 have KD := Aside0.mk hK
 clear hK
 go_wp2_with fail
 refine (copseref06_all.calls K A0 c0 a A1 c1 b _ _ (Kd.C_below HR0.out B2.out) HC0.out (Kd.C_below HR1.out B2.out) HC1.out KD.out).mono ?_
 rintro e w3 ⟨vn, rfl, ho, hb⟩
 have SN : Aside0 ((norm (a.map S43.f0 ++ b.map S43.f0)).length ≤ 2097152) := ⟨by
  have := norm_length_le (a.map S43.f0 ++ b.map S43.f0)
  simp only [List.length_append, List.length_map] at this
  omega⟩
 generalize hn : norm (a.map S43.f0 ++ b.map S43.f0) = n at ho RL SN
 have RL2 : Aside0 (diffTo a b n = diffD a b) := ⟨RL.out⟩
 obtain ⟨An, cn, rfl, ln, rn⟩ := Kd.R_reads ho
 have ON := Aside0.mk (Kd.R_lower ho B2.out.size)
 have B3 : Aside0 (Below w.heap.size w w3) := ⟨below_then B2.out B2.out.size hb⟩
 have SNL := SN.out
 clear ho hb ln rn B2 hn RL
 go_wp2
 go_loopg [5, 7] n.length (fun gg s5 s7 wr => ∃ i : Nat, i ≤ n.length ∧ n.length - i ≤ gg ∧ s7 = .int .i64 i ∧ Aside0 (Kd.R k45 45 wr w.heap.size (fun _ => True) s5 (diffTo a b (n.take i))) ∧ Aside0 (Kd.R Kd.string 9 wr w.heap.size (fun _ => True) (.slice An n.length cn) n) ∧ Aside0 (Below w.heap.size w wr))
 case atStart => exact ⟨0, by omega, by omega, rfl, ⟨Kd.R_nil _ _ _ _ _⟩, ON, B3⟩
 case round =>
  clear ON B3
  obtain ⟨i, hi, hg, rfl, O1, N1, B1⟩ := hrel
  by_cases hlt : i < n.length
  rotate_left
  ·have hltz : ¬ (i : Int) < (n.length : Int) := by omega
   obtain rfl : i = n.length := by omega
   go_wp2
   go_ret
   have h5 := O1.out
   rw [List.take_length, RL2.out] at h5
   exact ⟨_, rfl, h5, B1.out⟩
  have hltz : (i : Int) < (n.length : Int) := by omega
  obtain ⟨ad, rfl, hcell⟩ := Kd.at_string (Kd.R_reads' N1.out).2.2 (i : Int) (by omega) hltz
  rw [Int.toNat_natCast] at hcell
  have DS := Aside0.mk (diffTo_succ a b n i hlt)
  have DL := Aside0.mk (diffTo_length a b n i)
  generalize rdOf ByteArray.empty n (i : Int) = p at hcell DS
  rw [partsO_is] at DS
  obtain ⟨ka, hka⟩ := Ev.rounds (refat06 a p (by omega))
  obtain ⟨kb, hkb⟩ := Ev.rounds (refat06 b p (by omega))
  change copseref06_at.f ka a p = some (foundF (atF a p)) at hka
  change copseref06_at.f kb b p = some (foundF (atF b p)) at hkb
  rw [foundF_is] at hka hkb
  generalize fileO (atF a p) = x at hka DS
  generalize (atF a p).isSome = hx at hka DS
  generalize fileO (atF b p) = y at hkb DS
  generalize (atF b p).isSome = hy at hkb DS
  have KA := Aside0.mk hka
  have KB := Aside0.mk hkb
  clear hka hkb
  go_wp2_with fail
  refine (copseref06_at.calls ka A0 c0 a p _ _ _ _ _ _ (Kd.C_below HR0.out B1.out) HC0.out KA.out).mono ?_
  rintro e w5 ⟨rfl, hb⟩
  have B5 : Aside0 (Below wr.heap.size wr w5) := ⟨hb⟩
  have hc5 : ∀ o, (w5.alloc o).cell? (ad.add i) = some (.string p) := fun o => Lib.cell?_alloc_some o (below_keeps hb hcell)
  clear hb
  go_wp2_with fail
  refine (copseref06_at.calls kb A1 c1 b p _ _ _ _ _ _ (Kd.C_alloc (Kd.C_below (Kd.C_below HR1.out B1.out) B5.out) _) HC1.out KB.out).mono ?_
  rintro e w6 ⟨rfl, hb⟩
  have u0 : ∀ o, (w6.alloc o).cell? ⟨w5.heap.size, 0, none⟩ = some (.string x.f0) := fun o => Lib.cell?_alloc_some o ((hb.cell (p := ⟨w5.heap.size, 0, none⟩) (by simp)).trans (cell_new w5 _ _ 0))
  have u1 : ∀ o, (w6.alloc o).cell? ⟨w5.heap.size, 1, none⟩ = some (.string x.f1) := fun o => Lib.cell?_alloc_some o ((hb.cell (p := ⟨w5.heap.size, 1, none⟩) (by simp)).trans (cell_new w5 _ _ 1))
  have u2 : ∀ o, (w6.alloc o).cell? ⟨w5.heap.size, 2, none⟩ = some (.int .i64 x.f2) := fun o => Lib.cell?_alloc_some o ((hb.cell (p := ⟨w5.heap.size, 2, none⟩) (by simp)).trans (cell_new w5 _ _ 2))
  have u3 : ∀ o, (w6.alloc o).cell? ⟨w5.heap.size, 3, none⟩ = some (.int .i64 x.f3) := fun o => Lib.cell?_alloc_some o ((hb.cell (p := ⟨w5.heap.size, 3, none⟩) (by simp)).trans (cell_new w5 _ _ 3))
  have hc6 : ∀ o, (w6.alloc o).cell? (ad.add i) = some (.string p) := fun o => Lib.cell?_alloc_some o (below_keeps hb (hc5 _))
  have B6 : Aside0 (Below wr.heap.size wr w6) := ⟨below_then (B5.out.alloc B5.out.size _) (by have := B5.out.size; rw [size_alloc']; omega) hb⟩
  clear hb hc5
  have O6 : Aside0 (Kd.R k45 45 w6 w.heap.size (fun _ => True) u5 (diffTo a b (n.take i))) := ⟨Kd.R_below O1.out B6.out⟩
  have N6 : Aside0 (Kd.R Kd.string 9 w6 w.heap.size (fun _ => True) (.slice (some ad) n.length cn) n) := ⟨Kd.R_below N1.out B6.out⟩
  have BW6 : Aside0 (Below w.heap.size w w6) := ⟨below_then B1.out B1.out.size B6.out⟩
  have B7 : Aside0 (Below w.heap.size w (w6.alloc (.cells #[.string y.f0, .string y.f1, .int .i64 y.f2, .int .i64 y.f3] 43))) := ⟨BW6.out.alloc BW6.out.size _⟩
  clear O1 N1 B1 B5 B6
  by_cases hxy : hx = hy
  rotate_left
  ·have hxb : (hx != hy) = true := bne_iff_ne.2 hxy
   have DS2 : Aside0 (diffTo a b (n.take (i + 1)) = diffTo a b (n.take i) ++ [⟨p, hx, hy, x, y⟩]) := ⟨by rw [DS.out, hxb]; simp⟩
   have O7 : Aside0 (Kd.R k45 45 (w6.alloc (.cells #[.string y.f0, .string y.f1, .int .i64 y.f2, .int .i64 y.f3] 43)).drew w.heap.size (fun _ => True) u5 (diffTo a b (n.take i))) := ⟨Kd.R_drew (Kd.R_alloc O6.out _)⟩
   have N7 : Aside0 (Kd.R Kd.string 9 (w6.alloc (.cells #[.string y.f0, .string y.f1, .int .i64 y.f2, .int .i64 y.f3] 43)).drew w.heap.size (fun _ => True) (.slice (some ad) n.length cn) n) := ⟨Kd.R_drew (Kd.R_alloc N6.out _)⟩
   have B8 : Aside0 (Below w.heap.size w (w6.alloc (.cells #[.string y.f0, .string y.f1, .int .i64 y.f2, .int .i64 y.f3] 43)).drew) := ⟨B7.out.drew⟩
   clear O6 N6 B7 BW6
   go_wp2
   refine start_ (n := 13) (S := fun w' => w'.cell? ⟨w5.heap.size, 0, none⟩ = some (.string x.f0) ∧ w'.cell? ⟨w5.heap.size, 1, none⟩ = some (.string x.f1) ∧ w'.cell? ⟨w5.heap.size, 2, none⟩ = some (.int .i64 x.f2) ∧ w'.cell? ⟨w5.heap.size, 3, none⟩ = some (.int .i64 x.f3) ∧ w'.cell? ⟨w6.heap.size, 0, none⟩ = some (.string y.f0) ∧ w'.cell? ⟨w6.heap.size, 1, none⟩ = some (.string y.f1) ∧ w'.cell? ⟨w6.heap.size, 2, none⟩ = some (.int .i64 y.f2) ∧ w'.cell? ⟨w6.heap.size, 3, none⟩ = some (.int .i64 y.f3) ∧ w'.cell? (ad.add i) = some (.string p)) (ds := [10, 11]) (_root_.Go.Proofs.YtehfogjibhnabaaGreatDoorW.PrintWords.lb 13 0) (by kernel_rfl) rfl rfl ⟨u0 _, u1 _, u2 _, u3 _, cell_new w6 _ _ 0, cell_new w6 _ _ 1, cell_new w6 _ _ 2, cell_new w6 _ _ 3, hc6 _⟩ (fun hHeld => ?_); refine with_tabW RefD.tab11 RefD.bits11 (fun HT_ HW_ => ?_)
   generalize (w6.alloc (.cells #[.string y.f0, .string y.f1, .int .i64 y.f2, .int .i64 y.f3] 43)).drew = w7 at O7 N7 B8 hHeld ⊢
   refine pv_ 0 55 (_root_.Go.Proofs.YtehfogjibhnabaaGreatDoorW.PrintWords.lb 13 1) HT_.out ?_
   refine pv_ 1 56 (_root_.Go.Proofs.YtehfogjibhnabaaGreatDoorW.PrintWords.lb 13 3) HT_.out ?_
   refine pv_ 2 57 (_root_.Go.Proofs.YtehfogjibhnabaaGreatDoorW.PrintWords.lb 13 7) HT_.out ?_
   refine pv_ 3 58 (_root_.Go.Proofs.YtehfogjibhnabaaGreatDoorW.PrintWords.lb 13 15) HT_.out ?_
   refine pv_ 5 60 (_root_.Go.Proofs.YtehfogjibhnabaaGreatDoorW.PrintWords.lb 13 47) HT_.out ?_
   refine pv_ 6 61 (_root_.Go.Proofs.YtehfogjibhnabaaGreatDoorW.PrintWords.lb 13 111) HT_.out ?_
   refine tk_ 4 59 (_root_.Go.Proofs.YtehfogjibhnabaaGreatDoorW.PrintWords.lb 13 127) HT_.out HW_.out hHeld ?_
   refine tk_ 7 62 (_root_.Go.Proofs.YtehfogjibhnabaaGreatDoorW.PrintWords.lb 13 255) HT_.out HW_.out hHeld ?_
   refine tk_ 8 63 (_root_.Go.Proofs.YtehfogjibhnabaaGreatDoorW.PrintWords.lb 13 511) HT_.out HW_.out hHeld ?_
   refine pv_ 9 64 (_root_.Go.Proofs.YtehfogjibhnabaaGreatDoorW.PrintWords.lb 13 1023) HT_.out ?_
   refine last_ (i := 10) (N := some 65) (_root_.Go.Proofs.YtehfogjibhnabaaGreatDoorW.PrintWords.lb 13 2047) rfl rfl (one_of HT_.out (by kernel_rfl)) (by decide) (fun K hK => ?_)
   refine value_ (w1 := ?_) (v := ?_) (by rfl) rfl ?_ ?_
   rotate_left 2
   ·go_simp
    constructor
    ·rfl
    ·rfl
   refine hK.out _ _ ?_
   clear hK K
   refine norm_ (a' := ?_) ?_ ?_
   rotate_left
   ·show Act.put _ (some 65) _ = _
    simp only [Act.put, List.setIfInBounds_toArray, List.set_cons_zero, List.set_cons_succ, i64_w, i32_w]
    rfl
   refine last_ (i := 11) (N := some 66) (_root_.Go.Proofs.YtehfogjibhnabaaGreatDoorW.PrintWords.lb 13 4095) rfl rfl (one_of HT_.out (by kernel_rfl)) (by decide) (fun K hK => ?_)
   refine Kd.R_append_step k45 (w0 := w) w.heap.size (by rfl) (.tmp 55) (.tmp 65) 23 45 (.agg #[(.string ⟨#[]⟩), (.bool false), (.bool false), (.string ⟨#[]⟩), (.string ⟨#[]⟩), (.int .i64 0), (.int .i64 0), (.string ⟨#[]⟩), (.string ⟨#[]⟩), (.int .i64 0), (.int .i64 0)]) 120 rfl Tryz.underlying23 info45 rfl (by decide) (by omega) u5 (diffTo a b (n.take i)) (⟨p, hx, hy, x, y⟩ : S45) [.string p, .bool hx, .bool hy, .string x.f0, .string x.f1, .int .i64 x.f2, .int .i64 x.f3, .string y.f0, .string y.f1, .int .i64 y.f2, .int .i64 y.f3] (fun _ => True) (fun _ => False) rfl rfl ?aP (fun _ hk => hk.elim) ?aF ?aO ?aB ?aS ?aL ?_
   (case aP => exact k45_mkM _ _ _ (⟨p, hx, hy, x, y⟩ : S45))
   (case aF => exact fun _ _ => trivial)
   (case aO => exact O7.out)
   (case aB => exact B8.out)
   (case aS => exact B8.out.size)
   (case aL => have := DL.out; omega)
   intro v8 w8 ho hb hg hat
   have O9 := Aside0.mk ho
   have N9 := Aside0.mk (Kd.R_over' N7.out (Kd.R_typed O7.out) (by decide) hg)
   have B9 := Aside0.mk hb
   clear ho hb hg hat O7 N7 B8
   refine hK.out _ _ ?_
   clear hK K
   refine norm_ (a' := ?_) ?_ ?_
   rotate_left
   ·show Act.put _ (some 66) _ = _
    simp only [Act.put, List.setIfInBounds_toArray, List.set_cons_zero, List.set_cons_succ, i64_w, i32_w]
    rfl
   refine pv_ 12 5 (_root_.Go.Proofs.YtehfogjibhnabaaGreatDoorW.PrintWords.lb 13 8191) HT_.out ?_
   refine done_ (done_of HT_.out (by kernel_rfl)) ?_
   go_wp2
   go_roundg (n.length - (i + 1))
   case measure => omega
   case rel => exact ⟨i + 1, by omega, by omega, by go_num, ⟨by rw [DS2.out]; exact O9.out⟩, N9, B9⟩
  subst hxy
  cases he : eqF x y with
  | true =>
   have hec := eqF_iff.1 he
   have DS2 : Aside0 (diffTo a b (n.take (i + 1)) = diffTo a b (n.take i)) := ⟨by rw [DS.out, he]; simp⟩
   subst hec
   clear he
   go_wp2
   go_roundg (n.length - (i + 1))
   case measure => omega
   case rel => exact ⟨i + 1, by omega, by omega, by go_num, ⟨by rw [DS2.out]; exact Kd.R_alloc O6.out _⟩, ⟨Kd.R_alloc N6.out _⟩, B7⟩
  | false =>
   have hne := neF_bits he
   have DS2 : Aside0 (diffTo a b (n.take (i + 1)) = diffTo a b (n.take i) ++ [⟨p, hx, hx, x, y⟩]) := ⟨by rw [DS.out, he]; simp⟩
   have O7 : Aside0 (Kd.R k45 45 (w6.alloc (.cells #[.string y.f0, .string y.f1, .int .i64 y.f2, .int .i64 y.f3] 43)).drew w.heap.size (fun _ => True) u5 (diffTo a b (n.take i))) := ⟨Kd.R_drew (Kd.R_alloc O6.out _)⟩
   have N7 : Aside0 (Kd.R Kd.string 9 (w6.alloc (.cells #[.string y.f0, .string y.f1, .int .i64 y.f2, .int .i64 y.f3] 43)).drew w.heap.size (fun _ => True) (.slice (some ad) n.length cn) n) := ⟨Kd.R_drew (Kd.R_alloc N6.out _)⟩
   have B8 : Aside0 (Below w.heap.size w (w6.alloc (.cells #[.string y.f0, .string y.f1, .int .i64 y.f2, .int .i64 y.f3] 43)).drew) := ⟨B7.out.drew⟩
   clear he O6 N6 B7 BW6
   go_wp2
   refine start_ (n := 13) (S := fun w' => w'.cell? ⟨w5.heap.size, 0, none⟩ = some (.string x.f0) ∧ w'.cell? ⟨w5.heap.size, 1, none⟩ = some (.string x.f1) ∧ w'.cell? ⟨w5.heap.size, 2, none⟩ = some (.int .i64 x.f2) ∧ w'.cell? ⟨w5.heap.size, 3, none⟩ = some (.int .i64 x.f3) ∧ w'.cell? ⟨w6.heap.size, 0, none⟩ = some (.string y.f0) ∧ w'.cell? ⟨w6.heap.size, 1, none⟩ = some (.string y.f1) ∧ w'.cell? ⟨w6.heap.size, 2, none⟩ = some (.int .i64 y.f2) ∧ w'.cell? ⟨w6.heap.size, 3, none⟩ = some (.int .i64 y.f3) ∧ w'.cell? (ad.add i) = some (.string p)) (ds := [10, 11]) (_root_.Go.Proofs.YtehfogjibhnabaaGreatDoorW.PrintWords.lb 13 0) (by kernel_rfl) rfl rfl ⟨u0 _, u1 _, u2 _, u3 _, cell_new w6 _ _ 0, cell_new w6 _ _ 1, cell_new w6 _ _ 2, cell_new w6 _ _ 3, hc6 _⟩ (fun hHeld => ?_); refine with_tabW RefD.tab11 RefD.bits11 (fun HT_ HW_ => ?_)
   generalize (w6.alloc (.cells #[.string y.f0, .string y.f1, .int .i64 y.f2, .int .i64 y.f3] 43)).drew = w7 at O7 N7 B8 hHeld ⊢
   refine pv_ 0 55 (_root_.Go.Proofs.YtehfogjibhnabaaGreatDoorW.PrintWords.lb 13 1) HT_.out ?_
   refine pv_ 1 56 (_root_.Go.Proofs.YtehfogjibhnabaaGreatDoorW.PrintWords.lb 13 3) HT_.out ?_
   refine pv_ 2 57 (_root_.Go.Proofs.YtehfogjibhnabaaGreatDoorW.PrintWords.lb 13 7) HT_.out ?_
   refine pv_ 3 58 (_root_.Go.Proofs.YtehfogjibhnabaaGreatDoorW.PrintWords.lb 13 15) HT_.out ?_
   refine pv_ 5 60 (_root_.Go.Proofs.YtehfogjibhnabaaGreatDoorW.PrintWords.lb 13 47) HT_.out ?_
   refine pv_ 6 61 (_root_.Go.Proofs.YtehfogjibhnabaaGreatDoorW.PrintWords.lb 13 111) HT_.out ?_
   refine tk_ 4 59 (_root_.Go.Proofs.YtehfogjibhnabaaGreatDoorW.PrintWords.lb 13 127) HT_.out HW_.out hHeld ?_
   refine tk_ 7 62 (_root_.Go.Proofs.YtehfogjibhnabaaGreatDoorW.PrintWords.lb 13 255) HT_.out HW_.out hHeld ?_
   refine tk_ 8 63 (_root_.Go.Proofs.YtehfogjibhnabaaGreatDoorW.PrintWords.lb 13 511) HT_.out HW_.out hHeld ?_
   refine pv_ 9 64 (_root_.Go.Proofs.YtehfogjibhnabaaGreatDoorW.PrintWords.lb 13 1023) HT_.out ?_
   refine last_ (i := 10) (N := some 65) (_root_.Go.Proofs.YtehfogjibhnabaaGreatDoorW.PrintWords.lb 13 2047) rfl rfl (one_of HT_.out (by kernel_rfl)) (by decide) (fun K hK => ?_)
   refine value_ (w1 := ?_) (v := ?_) (by rfl) rfl ?_ ?_
   rotate_left 2
   ·go_simp
    constructor
    ·rfl
    ·rfl
   refine hK.out _ _ ?_
   clear hK K
   refine norm_ (a' := ?_) ?_ ?_
   rotate_left
   ·show Act.put _ (some 65) _ = _
    simp only [Act.put, List.setIfInBounds_toArray, List.set_cons_zero, List.set_cons_succ, i64_w, i32_w]
    rfl
   refine last_ (i := 11) (N := some 66) (_root_.Go.Proofs.YtehfogjibhnabaaGreatDoorW.PrintWords.lb 13 4095) rfl rfl (one_of HT_.out (by kernel_rfl)) (by decide) (fun K hK => ?_)
   refine Kd.R_append_step k45 (w0 := w) w.heap.size (by rfl) (.tmp 55) (.tmp 65) 23 45 (.agg #[(.string ⟨#[]⟩), (.bool false), (.bool false), (.string ⟨#[]⟩), (.string ⟨#[]⟩), (.int .i64 0), (.int .i64 0), (.string ⟨#[]⟩), (.string ⟨#[]⟩), (.int .i64 0), (.int .i64 0)]) 120 rfl Tryz.underlying23 info45 rfl (by decide) (by omega) u5 (diffTo a b (n.take i)) (⟨p, hx, hx, x, y⟩ : S45) [.string p, .bool hx, .bool hx, .string x.f0, .string x.f1, .int .i64 x.f2, .int .i64 x.f3, .string y.f0, .string y.f1, .int .i64 y.f2, .int .i64 y.f3] (fun _ => True) (fun _ => False) rfl rfl ?aP (fun _ hk => hk.elim) ?aF ?aO ?aB ?aS ?aL ?_
   (case aP => exact k45_mkM _ _ _ (⟨p, hx, hx, x, y⟩ : S45))
   (case aF => exact fun _ _ => trivial)
   (case aO => exact O7.out)
   (case aB => exact B8.out)
   (case aS => exact B8.out.size)
   (case aL => have := DL.out; omega)
   intro v8 w8 ho hb hg hat
   have O9 := Aside0.mk ho
   have N9 := Aside0.mk (Kd.R_over' N7.out (Kd.R_typed O7.out) (by decide) hg)
   have B9 := Aside0.mk hb
   clear ho hb hg hat O7 N7 B8
   refine hK.out _ _ ?_
   clear hK K
   refine norm_ (a' := ?_) ?_ ?_
   rotate_left
   ·show Act.put _ (some 66) _ = _
    simp only [Act.put, List.setIfInBounds_toArray, List.set_cons_zero, List.set_cons_succ, i64_w, i32_w]
    rfl
   refine pv_ 12 5 (_root_.Go.Proofs.YtehfogjibhnabaaGreatDoorW.PrintWords.lb 13 8191) HT_.out ?_
   refine done_ (done_of HT_.out (by kernel_rfl)) ?_
   go_wp2
   go_roundg (n.length - (i + 1))
   case measure => omega
   case rel => exact ⟨i + 1, by omega, by omega, by go_num, ⟨by rw [DS2.out]; exact O9.out⟩, N9, B9⟩
end Go.Proofs.YtehfogjibhnabaaGreatDoor.PAll
