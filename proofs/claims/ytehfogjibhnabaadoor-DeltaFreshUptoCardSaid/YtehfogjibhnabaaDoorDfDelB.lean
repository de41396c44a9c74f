/- Layer 6: what the printed functions of delta answer: half, may, Valid. -/
import Derived.Test.YtehfogjibhnabaaDoorDfPAllx0
import Derived.Test.YtehfogjibhnabaaDoorDfPure5
import Derived.Test.YtehfogjibhnabaaDoorDfHandA
import Derived.Test.YtehfogjibhnabaaDoorDfPAlly3
import Derived.Test.YtehfogjibhnabaaDoorDfPAlly9
import Derived.Test.YtehfogjibhnabaaDoorDfPAlly1
import Derived.Test.YtehfogjibhnabaaDoorDfPAlly6
import Derived.Test.YtehfogjibhnabaaDoorDfRowKit
import Derived.WalkKit
import Derived.Lib.SliceRun
import Derived.BigQuiet
import Derived.Outline
import Derived.Sort.Grow
import Derived.Shelf.SlSortCmp.QuietGrown
import Derived.Test.YtehfogjibhnabaaDoorDfPAlly7
namespace Go.Proofs.YtehfogjibhnabaaDoor.PAll
open Go.RowKit Go.Proofs.YtehfogjibhnabaaDoorW.PrintWords Go.Proofs.YtehfogjibhnabaaDoorW.PrintLast Go.Proofs.YtehfogjibhnabaaDoorW.PrintMore
open Go.Proofs.YtehfogjibhnabaaDoor.Sp
theorem half_is (p : ByteArray) (is : Bool) (f : S55) : delta_half.f p is f.f0 f.f1 f.f2 f.f3 = some (halfB p is f) := by
 unfold delta_half.f halfB
 cases is
 ·rw [if_neg (by simp), if_neg (by simp)]
  unfold eqF
  simp only [toList_bs]
  rfl
 ·rw [if_pos rfl, if_pos rfl]
theorem idle_is (c : S61) : delta_idle.f c.f0 c.f1 c.f2 c.f3.f0 c.f3.f1 c.f3.f2 c.f3.f3 c.f4.f0 c.f4.f1 c.f4.f2 c.f4.f3 = some (idleC c) := by
 unfold delta_idle.f idleC eqF
 split <;> split <;> rfl
theorem may_j0 (c : S61) (q : Bool) : Ev (fun k => delta_may.j0 k q c.f0 c.f1 c.f2 c.f3.f0 c.f3.f1 c.f3.f2 c.f3.f3 c.f4.f0 c.f4.f1 c.f4.f2 c.f4.f3) (!q && (halfB c.f0 c.f1 c.f3 && (halfB c.f0 c.f2 c.f4 && !(c.f1 && c.f2 && eqF c.f3 c.f4)))) := by
 refine ⟨1, fun k hk => ?_⟩
 obtain ⟨k, rfl⟩ : ∃ m, k = m + 1 := ⟨k - 1, by omega⟩
 simp only [delta_may.j0, half_is, Option.bind_some]
 unfold eqF
 cases q <;> cases halfB c.f0 c.f1 c.f3 <;> cases halfB c.f0 c.f2 c.f4 <;> cases c.f1 <;> cases c.f2 <;> simp
theorem may_ev (c : S61) (h : c.f0.size ≤ 1073741824) : Ev (fun k => delta_may.f k c.f0 c.f1 c.f2 c.f3.f0 c.f3.f1 c.f3.f2 c.f3.f3 c.f4.f0 c.f4.f1 c.f4.f2 c.f4.f3) (mayB c) := by
 unfold delta_may.f
 refine Ev.bind (prog_valid c.f0 (by omega)) ?_
 unfold mayB
 by_cases hv : validB c.f0 = true
 ·rw [hv]
  simp only [if_true, Bool.true_and]
  by_cases h0 : bs c.f0 = []
  ·simp only [toList_bs, if_pos h0]
   refine Ev.val (may_j0 c true) ?_
   simp [h0]
  ·simp only [toList_bs, if_neg h0]
   by_cases h1 : c.f1 = true
   ·simp only [if_pos h1]
    refine Ev.val (may_j0 c false) ?_
    simp [h0, h1, Bool.and_assoc]
   ·simp only [if_neg h1]
    refine Ev.val (may_j0 c (!c.f2)) ?_
    have h1' : c.f1 = false := by simpa using h1
    simp [h0, h1', Bool.and_assoc]
 ·simp only [if_neg hv]
  refine Ev.val (may_j0 c true) ?_
  have : validB c.f0 = false := by simpa using hv
  simp [this]
def beforeC (x : List S61) (i : Nat) : Option ByteArray := if i = 0 then none else some (rd_T61 x ((i - 1 : Nat) : Int)).f0
theorem rdC_mem (l : List S61) (i : Nat) (h : i < l.length) : rd_T61 l (i : Int) ∈ l := by
 unfold rd_T61
 rw [Int.toNat_natCast, List.getD_eq_getElem?_getD, List.getElem?_eq_getElem h]
 exact List.getElem_mem h
theorem rdC_drop (l : List S61) (i : Nat) (h : i < l.length) : l.drop i = rd_T61 l (i : Int) :: l.drop (i + 1) := by
 unfold rd_T61
 rw [Int.toNat_natCast, List.getD_eq_getElem?_getD, List.getElem?_eq_getElem h]
 exact List.drop_eq_getElem_cons h
theorem valid06_run (x : List S61) (hx : x.length ≤ 1073741824) (hf : FitsD x) (d : Nat) : ∀ i, x.length - i = d → i ≤ x.length → Ev (fun k => delta_Valid.l0 k x x (x.length : Int) (i : Int)) ((x.drop i).all mayB && risesB (beforeC x i) (x.drop i)) := by
 induction d with
 | zero =>
  intro i hd hi
  refine ⟨1, fun k hk => ?_⟩
  obtain ⟨k, rfl⟩ : ∃ m, k = m + 1 := ⟨k - 1, by omega⟩
  simp only [delta_Valid.l0]
  rw [if_neg (by omega), List.drop_of_length_le (by omega)]
  cases beforeC x i <;> rfl
 | succ d ih =>
  intro i hd hi
  have hlt : i < x.length := by omega
  have hc := hf _ (rdC_mem x i hlt)
  obtain ⟨K1, h1⟩ := may_ev (rd_T61 x (i : Int)) hc.1
  have hw : wrap64 ((i : Int) + 1) = ((i + 1 : Nat) : Int) := wrap_succ (n := x.length) (by omega) (by omega)
  obtain ⟨K2, h2⟩ := ih (i + 1) (by omega) (by omega)
  dsimp only at h1 h2
  rw [rdC_drop x i hlt, List.all_cons]
  by_cases hm : mayB (rd_T61 x (i : Int)) = true
  ·by_cases h0 : i = 0
   ·subst h0
    have e : risesB (beforeC x 0) (rd_T61 x ((0 : Nat) : Int) :: x.drop (0 + 1)) = risesB (beforeC x (0 + 1)) (x.drop (0 + 1)) := rfl
    rw [e, hm, Bool.true_and]
    refine ⟨K1 + K2 + 1, fun k hk => ?_⟩
    obtain ⟨k, rfl⟩ : ∃ m, k = m + 1 := ⟨k - 1, by omega⟩
    simp only [delta_Valid.l0]
    rw [if_pos (by omega), if_pos (by omega), if_pos (by omega), h1 k (by omega), Option.bind_some, if_pos hm, if_neg (by omega), hw]
    exact h2 k (by omega)
   ·have hw1 : wrap64 ((i : Int) - 1) = ((i - 1 : Nat) : Int) := by rw [wrap_add (by omega) (by omega)]; omega
    have hb := hf _ (rdC_mem x (i - 1) (by omega))
    obtain ⟨K3, h3⟩ := prog_cmp (rd_T61 x ((i - 1 : Nat) : Int)).f0 (rd_T61 x (i : Int)).f0 (by have := hb.1; omega) (by have := hc.1; omega)
    dsimp only at h3
    have e : risesB (beforeC x i) (rd_T61 x (i : Int) :: x.drop (i + 1)) = (decide (cB (rd_T61 x ((i - 1 : Nat) : Int)).f0 (rd_T61 x (i : Int)).f0 < 0) && risesB (beforeC x (i + 1)) (x.drop (i + 1))) := by
     unfold beforeC
     rw [if_neg h0, if_neg (by omega)]
     rfl
    rw [e, hm, Bool.true_and]
    refine ⟨K1 + K2 + K3 + 1, fun k hk => ?_⟩
    obtain ⟨k, rfl⟩ : ∃ m, k = m + 1 := ⟨k - 1, by omega⟩
    simp only [delta_Valid.l0]
    rw [if_pos (by omega), if_pos (by omega), if_pos (by omega), h1 k (by omega), Option.bind_some, if_pos hm, if_pos (by omega), hw1, if_pos (by omega), if_pos (by omega), h3 k (by omega), Option.bind_some]
    by_cases hcmp : cB (rd_T61 x ((i - 1 : Nat) : Int)).f0 (rd_T61 x (i : Int)).f0 < 0
    ·rw [if_neg (by omega), hw, decide_eq_true hcmp, Bool.true_and]
     exact h2 k (by omega)
    ·rw [if_pos (by omega), decide_eq_false hcmp]
     simp
  ·refine ⟨K1 + 1, fun k hk => ?_⟩
   obtain ⟨k, rfl⟩ : ∃ m, k = m + 1 := ⟨k - 1, by omega⟩
   simp only [delta_Valid.l0]
   rw [if_pos (by omega), if_pos (by omega), if_pos (by omega), h1 k (by omega), Option.bind_some, if_neg hm]
   have : mayB (rd_T61 x (i : Int)) = false := by simpa using hm
   simp [this]
theorem valid06 (x : List S61) (hx : x.length ≤ 1073741824) (hf : FitsD x) : Ev (fun k => delta_Valid.f k x) (validD x) := valid06_run x hx hf _ 0 rfl (by omega)
theorem risesB_iff : ∀ (l : List S61) (o : Option ByteArray), risesB o l = true ↔ RisesK S61.f0 l ∧ ∀ y x, o = some y → l.head? = some x → cB y x.f0 < 0
 | [], o => by cases o <;> simp [risesB, RisesK]
 | x :: l, none => by
  rw [risesB, risesB_iff l]
  constructor
  ·rintro ⟨h1, h2⟩
   refine ⟨h1.cons fun y hy => ?_, fun y x h => by cases h⟩
   rcases l with _ | ⟨z, l⟩
   ·cases hy
   ·have h3 := h2 _ z rfl rfl
    rcases List.mem_cons.1 hy with rfl | hy
    ·exact h3
    ·exact cB_trans h3 (h1.head y hy)
  ·rintro ⟨h1, _⟩
   refine ⟨h1.tail, fun y z hy hz => ?_⟩
   obtain rfl := Option.some.inj hy
   exact h1.head z (List.mem_of_mem_head? hz)
 | x :: l, some w => by
  rw [risesB, Bool.and_eq_true, decide_eq_true_eq, risesB_iff l]
  constructor
  ·rintro ⟨h0, h1, h2⟩
   refine ⟨h1.cons fun y hy => ?_, fun y z hy hz => ?_⟩
   ·rcases l with _ | ⟨z, l⟩
    ·cases hy
    ·have h3 := h2 _ z rfl rfl
     rcases List.mem_cons.1 hy with rfl | hy
     ·exact h3
     ·exact cB_trans h3 (h1.head y hy)
   ·obtain rfl := Option.some.inj hy
    obtain rfl := Option.some.inj hz
    exact h0
  ·rintro ⟨h1, h2⟩
   refine ⟨h2 w x rfl rfl, h1.tail, fun y z hy hz => ?_⟩
   obtain rfl := Option.some.inj hy
   exact h1.head z (List.mem_of_mem_head? hz)
theorem validD_iff {d : List S61} : validD d = true ↔ DeltaP d := by
 unfold validD
 rw [Bool.and_eq_true, List.all_eq_true, risesB_iff]
 exact ⟨fun ⟨h1, h2, _⟩ => ⟨h1, h2⟩, fun ⟨h1, h2⟩ => ⟨h1, h2, fun y x h => by cases h⟩⟩
end Go.Proofs.YtehfogjibhnabaaDoor.PAll
namespace Go.Proofs.YtehfogjibhnabaaDoor.PAll
open Go.RowKit Go.Lib Go.Proofs.YtehfogjibhnabaaDoorW.PrintWords Go.Proofs.YtehfogjibhnabaaDoorW.PrintLast Go.Proofs.YtehfogjibhnabaaDoorW.PrintMore
open Go.Proofs.YtehfogjibhnabaaDoor.Sp
theorem grown_oneCell (W : World) (p : Addr) (v : Value) : W.grownBy (W.setCell p v) (some p.block) :=
 ⟨rfl, rfl, rfl, by simp [World.setCell], fun k _ hk => Below.heap_setCell _ _ _ k (fun e => hk (by rw [e]))⟩
theorem grown_manyCells (g : Nat) : ∀ (vs : List Value) (o : Nat) (W : World), W.grownBy (W.setCells g o vs) (some g)
 | [], _, W => ⟨rfl, rfl, rfl, Nat.le_refl _, fun _ _ _ => rfl⟩
 | v :: r, o, W => by
  have h1 := grown_oneCell W ⟨g, o, none⟩ v
  have h2 := grown_manyCells g r (o + 1) (W.setCell ⟨g, o, none⟩ v)
  exact ⟨h2.os.trans h1.os, h2.tape.trans h1.tape, h2.output.trans h1.output, Nat.le_trans h1.size h2.size, fun k hk hne => (h2.block k (Nat.lt_of_lt_of_le hk h1.size) hne).trans (h1.block k hk hne)⟩
theorem heap_manyCells (g : Nat) (t : TypeId) (fr : Nat × Nat) : ∀ (vs : List Value) (o : Nat) (W : World) (cur : Array Value), W.heap[g]? = some (.cells cur t fr) → ∃ cur', (W.setCells g o vs).heap[g]? = some (.cells cur' t fr) ∧ cur'.size = cur.size ∧ cur'.toList.take o = cur.toList.take o
 | [], _, _, cur, h => ⟨cur, h, rfl, rfl⟩
 | v :: r, o, W, cur, h => by
  have h1 : (W.setCell ⟨g, o, none⟩ v).heap[g]? = some (.cells (cur.setIfInBounds o v) t fr) := by
   unfold World.setCell
   simp [Array.getElem?_modify, h]
  obtain ⟨c, e1, e2, e3⟩ := heap_manyCells g t fr r (o + 1) _ _ h1
  refine ⟨c, e1, by rw [e2]; simp, ?_⟩
  have h4 := congrArg (List.take o) e3
  rw [List.take_take, List.take_take, Nat.min_eq_left (by omega)] at h4
  rw [h4]
  apply List.ext_getElem?
  intro j
  rw [List.getElem?_take, List.getElem?_take]
  split
  ·simp only [Array.toList_setIfInBounds]
   rw [List.getElem?_set_ne (by omega)]
  ·rfl
theorem own_slice_is {w : World} {base : Nat} {e : TypeId} {size g n n' cap : Nat} {xs : List Value} (h : w.ownsRow base e size (.slice (some ⟨g, 0, none⟩) n cap) n' xs) : ∃ cur, base ≤ g ∧ w.heap[g]? = some (.cells cur e (0, 0)) ∧ n' ≤ cap ∧ cap ≤ maxLen ∧ cur.size = cap * size ∧ cur.toList.take (n' * size) = xs := by
 rcases h.2 with ⟨h', _⟩ | ⟨g', cap', cur, h', hb, hh, h3, h4, h5, h6⟩
 ·cases h'
 ·injection h' with h1 h2 h3
  injection h1 with h1
  injection h1 with h1
  subst h1 h3
  exact ⟨cur, hb, hh, by assumption, h4, h5, h6⟩
theorem own_clear {P : Program} {w : World} {base : Nat} {e t ty : TypeId} {size g n cap i : Nat} {xs : List Value} (z : Value) (ht : P.underlying t = some (.slice e)) (hv : ∀ w, (zeroValue e).run P w = .ok z w) (hz : z.cells.size = size) (hz1 : ∀ u ∈ z.cells, u.oneCell' = true) (h : w.ownsRow base e size (.slice (some ⟨g, 0, none⟩) n cap) n xs) (hi : i < n) (c' : Nat) :
  ∃ w', (Builtin.clear_ #[t] ty #[.slice (some ⟨g, i * size, none⟩) (n - i) c']).run P w = .ok (.tuple #[]) w' ∧ w'.ownsRow base e size (.slice (some ⟨g, 0, none⟩) i cap) i (xs.take (i * size)) ∧ w.grownBy w' (some g) := by
 have h1 := h.1
 obtain ⟨cur, hb, hh, h3, h4, h5, h6⟩ := own_slice_is h
 obtain ⟨zs, hzs⟩ : ∃ zs, zs = (Builtin.zeroCells z.cells (n - i)).toList := ⟨_, rfl⟩
 have hl : zs.length = (n - i) * size := by rw [hzs]; simp [Builtin.zeroCells, hz]
 have hin : i * size + (n - i) * size ≤ cur.size := by
  rw [← Nat.add_mul, h5, show i + (n - i) = n by omega]
  exact Nat.mul_le_mul_right _ h3
 have hst := run_storeCells_cells (P := P) g (i * size) zs 0 w
  (by
   intro j hj
   have : cur[i * size + 0 + j]? ≠ none := by rw [Array.getElem?_eq_getElem (by omega)]; exact nofun
   simp only [World.cell?, hh]
   simpa [Option.isSome_iff_ne_none] using this)
  (by intro j hj; simp [World.frozen?, hh])
  (by
   intro u hu
   rw [hzs] at hu
   simp only [Builtin.zeroCells, Array.toList_map, List.mem_map] at hu
   obtain ⟨j, hj, rfl⟩ := hu
   have hs0 : 0 < z.cells.size := by
    rcases Nat.eq_zero_or_pos z.cells.size with h0 | h0
    ·simp [h0] at hj
    ·exact h0
   rw [getElem!_pos z.cells (j % z.cells.size) (Nat.mod_lt _ hs0)]
   exact hz1 _ (Array.getElem_mem _))
 rw [Nat.add_zero] at hst
 obtain ⟨c2, e1, e2, e3⟩ := heap_manyCells g e (0, 0) zs (i * size) w cur hh
 refine ⟨_, ?_, ⟨?_, .inr ⟨g, cap, c2, rfl, hb, e1, by omega, h4, e2.trans h5, ?_⟩⟩, grown_manyCells g zs (i * size) w⟩
 ·obtain ⟨m, hm⟩ : ∃ m, n - i = m + 1 := ⟨n - i - 1, by omega⟩
  rw [hm] at hzs ⊢
  simp [Builtin.clear_, run_underlying ht, hv, ← hzs, hst]
 ·rw [List.length_take, h1]
  exact Nat.min_eq_left (Nat.mul_le_mul_right _ (by omega))
 ·rw [e3, ← h6, List.take_take, Nat.min_eq_left (Nat.mul_le_mul_right _ (by omega))]
theorem cell_new (W : World) (cs : Array Value) (t : TypeId) (j : Nat) : (W.alloc (.cells cs t)).cell? ⟨W.heap.size, j, none⟩ = cs[j]? := by
 simp only [World.cell?, heap_alloc_new]
 rfl
def cellsC (c : S61) : Array Value := #[.string c.f0, .bool c.f1, .bool c.f2, .string c.f3.f0, .string c.f3.f1, .int .i64 c.f3.f2, .int .i64 c.f3.f3, .string c.f4.f0, .string c.f4.f1, .int .i64 c.f4.f2, .int .i64 c.f4.f3]
def cellsF (x : S55) : List Value := [.string x.f0, .string x.f1, .int .i64 x.f2, .int .i64 x.f3]
theorem cellsF_one (x : S55) : ∀ u ∈ cellsF x, u.oneCell' = true := by
 intro u hu
 simp only [cellsF, List.mem_cons, List.mem_nil_iff, or_false] at hu
 rcases hu with rfl | rfl | rfl | rfl <;> rfl
def rowF (l : List S55) : List Value := l.flatMap cellsF
theorem rowF_cons (x : S55) (l : List S55) : rowF (x :: l) = cellsF x ++ rowF l := rfl
theorem rowF_length (l : List S55) : (rowF l).length = l.length * 4 := by
 induction l with
 | nil => rfl
 | cons x l ih => rw [rowF_cons, List.length_append, ih, List.length_cons]; show 4 + _ = _; omega
theorem rowF_at : ∀ {l : List S55} {j : Nat} {p : S55}, l[j]? = some p → ((rowF l).drop (j * 4)).take 4 = cellsF p
 | [], _, _, h => by simp at h
 | x :: l, 0, p, h => by
  obtain rfl : x = p := by simpa using h
  rw [rowF_cons, Nat.zero_mul, List.drop_zero]
  rfl
 | x :: l, j + 1, p, h => by
  rw [rowF_cons, show (j + 1) * 4 = (cellsF x).length + j * 4 by show _ = 4 + _; omega, ← List.drop_drop, List.drop_left]
  exact rowF_at (by simpa using h)
theorem rowF_of : ∀ {l : List S55} {inner : List Value}, inner.length = l.length * 4 → (∀ j p, l[j]? = some p → (inner.drop (j * 4)).take 4 = cellsF p) → inner = rowF l
 | [], inner, h, _ => List.eq_nil_of_length_eq_zero (by simpa using h)
 | x :: l, inner, h, hr => by
  have h0 := hr 0 x rfl
  rw [Nat.zero_mul, List.drop_zero] at h0
  rw [rowF_cons, ← h0, ← rowF_of (l := l) (inner := inner.drop 4) (by rw [List.length_drop, h, List.length_cons]; omega) (fun j p hj => by
   have := hr (j + 1) p (by simpa using hj)
   rw [List.drop_drop]
   rwa [show (j + 1) * 4 = 4 + j * 4 by omega] at this), List.take_append_drop]
theorem R_files_own {w : World} {base : Nat} {ok : Nat → Prop} {v : Value} {l : List S55} (h : Kd.R k55 55 w base ok v l) : w.ownsRow base 55 4 v l.length (rowF l) := by
 obtain ⟨_, inner, ho, hr⟩ := h
 have e : inner = rowF l := rowF_of hr.1 fun j p hj => k55_open (k55.K_of_M (hr.2 j p hj))
 rw [← e]
 exact ho
theorem own_R_files {w : World} {base : Nat} {v : Value} {l : List S55} (h : w.ownsRow base 55 4 v l.length (rowF l)) : Kd.R k55 55 w base (fun _ => True) v l :=
 ⟨fun _ _ => trivial, rowF l, h, rowF_length l, fun j p hj => by
  show k55.M w base _ p (((rowF l).drop (j * 4)).take 4)
  rw [rowF_at hj]
  exact k55_mkM _ _ _ p⟩
end Go.Proofs.YtehfogjibhnabaaDoor.PAll
namespace Go.Proofs.YtehfogjibhnabaaDoor.PAll
open Go.RowKit Go.Sort Go.Proofs.YtehfogjibhnabaaDoorW.PrintWords Go.Proofs.YtehfogjibhnabaaDoorW.PrintLast Go.Proofs.YtehfogjibhnabaaDoorW.PrintMore
open Go.Proofs.YtehfogjibhnabaaDoor.Sp
def delta_joined.f (_k : Nat) (d e : List S61) (_a2 : Bool) : Option (List S61) := if (d.length ≤ 4194304 ∧ e.length ≤ 4194304) ∧ FitsD d ∧ FitsD e then some (joinK S61.f0 idleC outerC (d.length + e.length) d e) else none
theorem delta_joined.mono : ∀ a0 a1 a2 k, LeO (delta_joined.f k a0 a1 a2) (delta_joined.f (k + 1) a0 a1 a2) := fun _ _ _ _ => LeO.refl _
theorem cut61 {A : Option Addr} {c : Nat} {x : S61} {l : List S61} {w : World} (hr : Kd.C k61 w A (x :: l).length (x :: l)) (hc : (x :: l).length ≤ c) : ∃ A' : Option Addr, (∀ W : World, (Instr.slice 43 (.slice A (l.length + 1) c) (some (.int .i64 1)) none none).run Tryd.prog W = .ok (.slice A' l.length (c - 1)) W) ∧ Kd.C k61 w A' l.length l := by
 obtain ⟨i0, hi, hz⟩ := Option.map_eq_some_iff.1 info61
 simp only [Prod.mk.injEq] at hz
 refine ⟨_, fun W => ?_, Kd.C_drop (m := 1) hr (by simp) hc⟩
 have h := cut_from (P := Tryd.prog) 43 61 .i64 Tryd.underlying43 hi 11 hz.2.1 A (l.length + 1) c 1 (by decide) (by omega) W
 rw [h]
 rfl
theorem froz_new {W : World} {g : Nat} {cs : Array Value} {t : TypeId} (h : W.heap[g]? = some (.cells cs t (0, 0))) (k : Nat) : W.frozen? ⟨g, k, none⟩ = false := by
 simp [World.frozen?, h]
theorem cell_grown {W : World} {a : Addr} {v : Value} (h : W.cell? a = some v) (n : Nat) (os : Array Obj) : (grow (W.drewN n) os).cell? a = some v := by
 have hlt := World.block_lt_of_cell? W a h
 rw [← h]
 exact World.cell?_of_block (heap_grow_old (W.drewN n) os hlt)
theorem head61 {A : Option Addr} {x : S61} {l : List S61} {w : World} (hr : Kd.C k61 w A (x :: l).length (x :: l)) : ∃ ad, A = some ad ∧ w.cell? ad = some (.string x.f0) ∧ w.cell? ⟨ad.block, ad.off + 1, none⟩ = some (.bool x.f1) ∧ w.cell? ⟨ad.block, ad.off + 2, none⟩ = some (.bool x.f2) ∧ w.cell? ⟨ad.block, ad.off + 3, none⟩ = some (.string x.f3.f0) ∧ w.cell? ⟨ad.block, ad.off + 4, none⟩ = some (.string x.f3.f1) ∧ w.cell? ⟨ad.block, ad.off + 5, none⟩ = some (.int .i64 x.f3.f2) ∧ w.cell? ⟨ad.block, ad.off + 6, none⟩ = some (.int .i64 x.f3.f3) ∧ w.cell? ⟨ad.block, ad.off + 7, none⟩ = some (.string x.f4.f0) ∧ w.cell? ⟨ad.block, ad.off + 8, none⟩ = some (.string x.f4.f1) ∧ w.cell? ⟨ad.block, ad.off + 9, none⟩ = some (.int .i64 x.f4.f2) ∧ w.cell? ⟨ad.block, ad.off + 10, none⟩ = some (.int .i64 x.f4.f3) := by
 obtain ⟨ad, e1, h⟩ := at_T61 hr 0 (by decide) (by simp)
 rw [show rd_T61 (x :: l) 0 = x from rfl] at h
 have ha : ad.add ((0 : Int).toNat * 11) = ad := by cases ad; simp [Addr.add]
 rw [ha] at h
 exact ⟨ad, e1, h⟩
set_option maxHeartbeats 4000000 in
set_option maxRecDepth 100000 in
theorem delta_joined.walk (A0 : Option Addr) (c0 : Nat) (l0 : List S61) (A1 : Option Addr) (c1 : Nat) (l1 : List S61) (w : World) (hr0 : Kd.C k61 w A0 l0.length l0) (hc0 : l0.length ≤ c0) (hr1 : Kd.C k61 w A1 l1.length l1) (hc1 : l1.length ≤ c1) (hl0 : l0.length ≤ 4194304) (hl1 : l1.length ≤ 4194304) (hf0 : FitsD l0) (hf1 : FitsD l1) :
  Calls Tryd.prog 51 #[.slice A0 l0.length c0, .slice A1 l1.length c1, .func (.func 52) #[] #[]] w fun e w' => ∃ v0_ : Value, e = .returned (v0_) ∧ Kd.R k61 61 w' w.heap.size (fun k_ => (w.heap.size ≤ k_)) v0_ (joinK S61.f0 idleC outerC (l0.length + l1.length) l0 l1) ∧ Below w.heap.size w w' := by
 obtain ⟨res, hres⟩ : ∃ res, res = joinK S61.f0 idleC outerC (l0.length + l1.length) l0 l1 := ⟨_, rfl⟩
 rw [← hres]
 have HC0 := Aside0.mk hr0
 have HC1 := Aside0.mk hr1
 have HF0 := Aside0.mk hf0
 have HF1 := Aside0.mk hf1
 have RES := Aside0.mk hres
 clear hr0 hr1 hf0 hf1 hres
 go_enter Tryd.func51, Tryd.ntmps51
 go_wp2
 go_loopg [0, 1, 7, 8, 9] (l0.length + l1.length) (fun gg s0 s1 s7 _ _ wr => ∃ (Ad : Option Addr) (cd : Nat) (d : List S61) (Ae : Option Addr) (ce : Nat) (e : List S61) (n : Nat) (out : List S61), s0 = .slice Ad d.length cd ∧ s1 = .slice Ae e.length ce ∧ d.length ≤ cd ∧ e.length ≤ ce ∧ d.length + e.length ≤ gg ∧ d.length + e.length ≤ n ∧ out.length + d.length + e.length ≤ l0.length + l1.length ∧ Aside0 (Kd.C k61 w Ad d.length d) ∧ Aside0 (Kd.C k61 w Ae e.length e) ∧ Aside0 (Kd.R k61 61 wr w.heap.size (fun k => w.heap.size ≤ k) s7 out) ∧ Aside0 (res = out ++ joinK S61.f0 idleC outerC n d e) ∧ Aside0 (Below w.heap.size w wr) ∧ Aside0 (FitsD d) ∧ Aside0 (FitsD e))
 case atStart => exact ⟨A0, c0, l0, A1, c1, l1, l0.length + l1.length, [], rfl, rfl, hc0, hc1, Nat.le_refl _, Nat.le_refl _, by simp, HC0, HC1, ⟨Kd.R_nil _ _ _ _ _⟩, ⟨by rw [List.nil_append]; exact RES.out⟩, ⟨Below.refl _ _⟩, HF0, HF1⟩
 case round =>
  clear HC0 HC1 HF0 HF1 RES hc0 hc1
  obtain ⟨Ad, cd, d, Ae, ce, e, n, out, rfl, rfl, hcd, hce, hg, hn, hol, CD, CE, RO, RS, BW, FD, FE⟩ := hrel
  cases d with
  | nil =>
   cases e with
   | nil =>
    go_wp2
    go_ret
    refine ⟨_, rfl, ?_, BW.out⟩
    have h := RS.out
    rw [show joinK S61.f0 idleC outerC n [] [] = [] by cases n <;> rfl, List.append_nil] at h
    rw [h]
    exact RO.out
   | cons y e =>
    obtain ⟨Ae', cute, CE'⟩ := cut61 CE.out hce
    obtain ⟨adk, e1, k0, k1, k2, k3, k4, k5, k6, k7, k8, k9, k10⟩ := head61 (Kd.C_below CE.out BW.out)
    subst e1
    go_wp2_with fail
    have kg0 := fun o => Lib.cell?_alloc_some (W := wr) o k0
    have kg1 := fun o => Lib.cell?_alloc_some (W := wr) o k1
    have kg2 := fun o => Lib.cell?_alloc_some (W := wr) o k2
    have kg3 := fun o => Lib.cell?_alloc_some (W := wr) o k3
    have kg4 := fun o => Lib.cell?_alloc_some (W := wr) o k4
    have kg5 := fun o => Lib.cell?_alloc_some (W := wr) o k5
    have kg6 := fun o => Lib.cell?_alloc_some (W := wr) o k6
    have kg7 := fun o => Lib.cell?_alloc_some (W := wr) o k7
    have kg8 := fun o => Lib.cell?_alloc_some (W := wr) o k8
    have kg9 := fun o => Lib.cell?_alloc_some (W := wr) o k9
    have kg10 := fun o => Lib.cell?_alloc_some (W := wr) o k10
    clear k0 k1 k2 k3 k4 k5 k6 k7 k8 k9 k10
    go_region
    clear kg0 kg1 kg2 kg3 kg4 kg5 kg6 kg7 kg8 kg9 kg10 cute
    go_wp2_with fail
    refine (delta_idle.calls (y.f0) (y.f1) (y.f2) (y.f3.f0) (y.f3.f1) (y.f3.f2) (y.f3.f3) (y.f4.f0) (y.f4.f1) (y.f4.f2) (y.f4.f3) (idleC y) _ (idle_is y)).mono ?_
    rintro ei w5 ⟨rfl, hb⟩
    have hsz : wr.heap.size < w5.heap.size := by have := hb.size; simp at this; omega
    have z0 : w5.cell? ⟨wr.heap.size, 0, none⟩ = some (.string (y.f0)) := (hb.cell (p := ⟨wr.heap.size, 0, none⟩) (by simp)).trans (cell_new wr _ _ 0)
    have z1 : w5.cell? ⟨wr.heap.size, 1, none⟩ = some (.bool (y.f1)) := (hb.cell (p := ⟨wr.heap.size, 1, none⟩) (by simp)).trans (cell_new wr _ _ 1)
    have z2 : w5.cell? ⟨wr.heap.size, 2, none⟩ = some (.bool (y.f2)) := (hb.cell (p := ⟨wr.heap.size, 2, none⟩) (by simp)).trans (cell_new wr _ _ 2)
    have z3 : w5.cell? ⟨wr.heap.size, 3, none⟩ = some (.string (y.f3.f0)) := (hb.cell (p := ⟨wr.heap.size, 3, none⟩) (by simp)).trans (cell_new wr _ _ 3)
    have z4 : w5.cell? ⟨wr.heap.size, 4, none⟩ = some (.string (y.f3.f1)) := (hb.cell (p := ⟨wr.heap.size, 4, none⟩) (by simp)).trans (cell_new wr _ _ 4)
    have z5 : w5.cell? ⟨wr.heap.size, 5, none⟩ = some (.int .i64 (y.f3.f2)) := (hb.cell (p := ⟨wr.heap.size, 5, none⟩) (by simp)).trans (cell_new wr _ _ 5)
    have z6 : w5.cell? ⟨wr.heap.size, 6, none⟩ = some (.int .i64 (y.f3.f3)) := (hb.cell (p := ⟨wr.heap.size, 6, none⟩) (by simp)).trans (cell_new wr _ _ 6)
    have z7 : w5.cell? ⟨wr.heap.size, 7, none⟩ = some (.string (y.f4.f0)) := (hb.cell (p := ⟨wr.heap.size, 7, none⟩) (by simp)).trans (cell_new wr _ _ 7)
    have z8 : w5.cell? ⟨wr.heap.size, 8, none⟩ = some (.string (y.f4.f1)) := (hb.cell (p := ⟨wr.heap.size, 8, none⟩) (by simp)).trans (cell_new wr _ _ 8)
    have z9 : w5.cell? ⟨wr.heap.size, 9, none⟩ = some (.int .i64 (y.f4.f2)) := (hb.cell (p := ⟨wr.heap.size, 9, none⟩) (by simp)).trans (cell_new wr _ _ 9)
    have z10 : w5.cell? ⟨wr.heap.size, 10, none⟩ = some (.int .i64 (y.f4.f3)) := (hb.cell (p := ⟨wr.heap.size, 10, none⟩) (by simp)).trans (cell_new wr _ _ 10)
    have B5 : Aside0 (RowKit.Below wr.heap.size wr w5) := ⟨⟨hb.os, hb.tape, hb.output, by omega, fun k hk => (hb.block k (by simp; omega)).trans ((World.grownBy_alloc wr _ none).block k hk (by simp))⟩⟩
    have BW5 := Aside0.mk (below_then BW.out BW.out.size B5.out)
    have RO5 := Aside0.mk (Kd.R_below RO.out B5.out)
    clear hb hsz
    have hn1 : ∃ m, n = m + 1 := ⟨n - 1, by simp at hn; omega⟩
    obtain ⟨m, rfl⟩ := hn1
    have RS1 : Aside0 (res = out ++ ((if idleC y = true then [] else [y]) ++ joinK S61.f0 idleC outerC m [] e)) := ⟨by rw [RS.out]; rfl⟩
    cases hid : idleC y with
    | true =>
     rw [hid] at RS1
     go_wp2
     go_roundg (([] : List S61).length + (e : List S61).length)
     case measure => simp at hg ⊢; omega
     case rel =>
      refine ⟨Ad, cd, [], Ae', (ce - 1), e, m, out, rfl, rfl, hcd, by simp at hce; omega, by omega, by simp at hn ⊢; omega, by simp at hol ⊢; omega, CD, ⟨CE'⟩, RO5, ⟨?_⟩, BW5, FD, ⟨fun c hc => FE.out c (List.mem_cons_of_mem _ hc)⟩⟩
      have h := RS1.out
      simpa using h
    | false =>
     rw [hid] at RS1
     go_wp2_with (first
      | ((with_reducible refine gate_builtin (b := .append) (xs := #[.tmp 66, .tmp 68]) rfl ?_); at_builtin; refine Kd.R_append k61 (w0 := w) w.heap.size rfl (.tmp 66) (.tmp 68) 43 61 (.agg #[(.string ⟨#[]⟩), (.bool false), (.bool false), (.string ⟨#[]⟩), (.string ⟨#[]⟩), (.int .i64 0), (.int .i64 0), (.string ⟨#[]⟩), (.string ⟨#[]⟩), (.int .i64 0), (.int .i64 0)]) 120 rfl Tryd.underlying43 info61 rfl (by decide) (by omega) u7 out (y) [.string (y.f0), .bool (y.f1), .bool (y.f2), .string (y.f3.f0), .string (y.f3.f1), .int .i64 (y.f3.f2), .int .i64 (y.f3.f3), .string (y.f4.f0), .string (y.f4.f1), .int .i64 (y.f4.f2), .int .i64 (y.f4.f3)] (fun k => w.heap.size ≤ k) (fun _ => False) rfl (by first | (go_simp; done) | (go_simp; rfl)) (k61_mkM _ _ _ (y)) (fun _ h => h.elim) (fun k hk => Nat.le_trans BW5.out.size hk) RO5.out BW5.out BW5.out.size (by simp at hol; omega) ?_; intro v6 w6 ho hb hgr hat; have R6 := Aside0.mk ho; have B6 := Aside0.mk hb; clear ho hb hgr hat)
      | fail)
     go_roundg (([] : List S61).length + (e : List S61).length)
     case measure => simp at hg ⊢; omega
     case rel =>
      refine ⟨Ad, cd, [], Ae', (ce - 1), e, m, (out ++ [y]), rfl, rfl, hcd, by simp at hce; omega, by omega, by simp at hn ⊢; omega, by simp at hol ⊢; omega, CD, ⟨CE'⟩, R6, ⟨?_⟩, B6, FD, ⟨fun c hc => FE.out c (List.mem_cons_of_mem _ hc)⟩⟩
      have h := RS1.out
      simpa using h
  | cons x d =>
   obtain ⟨Ad', cutd, CD'⟩ := cut61 CD.out hcd
   cases e with
   | nil =>
    obtain ⟨adh, e1, h0, h1, h2, h3, h4, h5, h6, h7, h8, h9, h10⟩ := head61 (Kd.C_below CD.out BW.out)
    subst e1
    go_wp2_with fail
    have hg0 := fun o => Lib.cell?_alloc_some (W := wr) o h0
    have hg1 := fun o => Lib.cell?_alloc_some (W := wr) o h1
    have hg2 := fun o => Lib.cell?_alloc_some (W := wr) o h2
    have hg3 := fun o => Lib.cell?_alloc_some (W := wr) o h3
    have hg4 := fun o => Lib.cell?_alloc_some (W := wr) o h4
    have hg5 := fun o => Lib.cell?_alloc_some (W := wr) o h5
    have hg6 := fun o => Lib.cell?_alloc_some (W := wr) o h6
    have hg7 := fun o => Lib.cell?_alloc_some (W := wr) o h7
    have hg8 := fun o => Lib.cell?_alloc_some (W := wr) o h8
    have hg9 := fun o => Lib.cell?_alloc_some (W := wr) o h9
    have hg10 := fun o => Lib.cell?_alloc_some (W := wr) o h10
    clear h0 h1 h2 h3 h4 h5 h6 h7 h8 h9 h10
    go_region
    clear hg0 hg1 hg2 hg3 hg4 hg5 hg6 hg7 hg8 hg9 hg10 cutd
    go_wp2_with fail
    refine (delta_idle.calls (x.f0) (x.f1) (x.f2) (x.f3.f0) (x.f3.f1) (x.f3.f2) (x.f3.f3) (x.f4.f0) (x.f4.f1) (x.f4.f2) (x.f4.f3) (idleC x) _ (idle_is x)).mono ?_
    rintro ei w5 ⟨rfl, hb⟩
    have hsz : wr.heap.size < w5.heap.size := by have := hb.size; simp at this; omega
    have z0 : w5.cell? ⟨wr.heap.size, 0, none⟩ = some (.string (x.f0)) := (hb.cell (p := ⟨wr.heap.size, 0, none⟩) (by simp)).trans (cell_new wr _ _ 0)
    have z1 : w5.cell? ⟨wr.heap.size, 1, none⟩ = some (.bool (x.f1)) := (hb.cell (p := ⟨wr.heap.size, 1, none⟩) (by simp)).trans (cell_new wr _ _ 1)
    have z2 : w5.cell? ⟨wr.heap.size, 2, none⟩ = some (.bool (x.f2)) := (hb.cell (p := ⟨wr.heap.size, 2, none⟩) (by simp)).trans (cell_new wr _ _ 2)
    have z3 : w5.cell? ⟨wr.heap.size, 3, none⟩ = some (.string (x.f3.f0)) := (hb.cell (p := ⟨wr.heap.size, 3, none⟩) (by simp)).trans (cell_new wr _ _ 3)
    have z4 : w5.cell? ⟨wr.heap.size, 4, none⟩ = some (.string (x.f3.f1)) := (hb.cell (p := ⟨wr.heap.size, 4, none⟩) (by simp)).trans (cell_new wr _ _ 4)
    have z5 : w5.cell? ⟨wr.heap.size, 5, none⟩ = some (.int .i64 (x.f3.f2)) := (hb.cell (p := ⟨wr.heap.size, 5, none⟩) (by simp)).trans (cell_new wr _ _ 5)
    have z6 : w5.cell? ⟨wr.heap.size, 6, none⟩ = some (.int .i64 (x.f3.f3)) := (hb.cell (p := ⟨wr.heap.size, 6, none⟩) (by simp)).trans (cell_new wr _ _ 6)
    have z7 : w5.cell? ⟨wr.heap.size, 7, none⟩ = some (.string (x.f4.f0)) := (hb.cell (p := ⟨wr.heap.size, 7, none⟩) (by simp)).trans (cell_new wr _ _ 7)
    have z8 : w5.cell? ⟨wr.heap.size, 8, none⟩ = some (.string (x.f4.f1)) := (hb.cell (p := ⟨wr.heap.size, 8, none⟩) (by simp)).trans (cell_new wr _ _ 8)
    have z9 : w5.cell? ⟨wr.heap.size, 9, none⟩ = some (.int .i64 (x.f4.f2)) := (hb.cell (p := ⟨wr.heap.size, 9, none⟩) (by simp)).trans (cell_new wr _ _ 9)
    have z10 : w5.cell? ⟨wr.heap.size, 10, none⟩ = some (.int .i64 (x.f4.f3)) := (hb.cell (p := ⟨wr.heap.size, 10, none⟩) (by simp)).trans (cell_new wr _ _ 10)
    have B5 : Aside0 (RowKit.Below wr.heap.size wr w5) := ⟨⟨hb.os, hb.tape, hb.output, by omega, fun k hk => (hb.block k (by simp; omega)).trans ((World.grownBy_alloc wr _ none).block k hk (by simp))⟩⟩
    have BW5 := Aside0.mk (below_then BW.out BW.out.size B5.out)
    have RO5 := Aside0.mk (Kd.R_below RO.out B5.out)
    clear hb hsz
    have hn1 : ∃ m, n = m + 1 := ⟨n - 1, by simp at hn; omega⟩
    obtain ⟨m, rfl⟩ := hn1
    have RS1 : Aside0 (res = out ++ ((if idleC x = true then [] else [x]) ++ joinK S61.f0 idleC outerC m d [])) := ⟨by rw [RS.out]; rfl⟩
    cases hid : idleC x with
    | true =>
     rw [hid] at RS1
     go_wp2
     go_roundg ((d : List S61).length + ([] : List S61).length)
     case measure => simp at hg ⊢; omega
     case rel =>
      refine ⟨Ad', (cd - 1), d, Ae, ce, [], m, out, rfl, rfl, by simp at hcd; omega, hce, by omega, by simp at hn ⊢; omega, by simp at hol ⊢; omega, ⟨CD'⟩, CE, RO5, ⟨?_⟩, BW5, ⟨fun c hc => FD.out c (List.mem_cons_of_mem _ hc)⟩, FE⟩
      have h := RS1.out
      simpa using h
    | false =>
     rw [hid] at RS1
     go_wp2_with (first
      | ((with_reducible refine gate_builtin (b := .append) (xs := #[.tmp 66, .tmp 68]) rfl ?_); at_builtin; refine Kd.R_append k61 (w0 := w) w.heap.size rfl (.tmp 66) (.tmp 68) 43 61 (.agg #[(.string ⟨#[]⟩), (.bool false), (.bool false), (.string ⟨#[]⟩), (.string ⟨#[]⟩), (.int .i64 0), (.int .i64 0), (.string ⟨#[]⟩), (.string ⟨#[]⟩), (.int .i64 0), (.int .i64 0)]) 120 rfl Tryd.underlying43 info61 rfl (by decide) (by omega) u7 out (x) [.string (x.f0), .bool (x.f1), .bool (x.f2), .string (x.f3.f0), .string (x.f3.f1), .int .i64 (x.f3.f2), .int .i64 (x.f3.f3), .string (x.f4.f0), .string (x.f4.f1), .int .i64 (x.f4.f2), .int .i64 (x.f4.f3)] (fun k => w.heap.size ≤ k) (fun _ => False) rfl (by first | (go_simp; done) | (go_simp; rfl)) (k61_mkM _ _ _ (x)) (fun _ h => h.elim) (fun k hk => Nat.le_trans BW5.out.size hk) RO5.out BW5.out BW5.out.size (by simp at hol; omega) ?_; intro v6 w6 ho hb hgr hat; have R6 := Aside0.mk ho; have B6 := Aside0.mk hb; clear ho hb hgr hat)
      | fail)
     go_roundg ((d : List S61).length + ([] : List S61).length)
     case measure => simp at hg ⊢; omega
     case rel =>
      refine ⟨Ad', (cd - 1), d, Ae, ce, [], m, (out ++ [x]), rfl, rfl, by simp at hcd; omega, hce, by omega, by simp at hn ⊢; omega, by simp at hol ⊢; omega, ⟨CD'⟩, CE, R6, ⟨?_⟩, B6, ⟨fun c hc => FD.out c (List.mem_cons_of_mem _ hc)⟩, FE⟩
      have h := RS1.out
      simpa using h
   | cons y e =>
    obtain ⟨Ae', cute, CE'⟩ := cut61 CE.out hce
    obtain ⟨adh, e1, h0, h1, h2, h3, h4, h5, h6, h7, h8, h9, h10⟩ := head61 (Kd.C_below CD.out BW.out)
    subst e1
    clear h1 h2 h3 h4 h5 h6 h7 h8 h9 h10
    have CD2 := CD
    have CE2 := CE
    obtain ⟨adk, e1, k0, k1, k2, k3, k4, k5, k6, k7, k8, k9, k10⟩ := head61 (Kd.C_below CE.out BW.out)
    subst e1
    clear k1 k2 k3 k4 k5 k6 k7 k8 k9 k10
    have sx : x.f0.size < 4294967281 := by have := (FD.out x (List.mem_cons_self ..)).1; omega
    have sy : y.f0.size < 4294967281 := by have := (FE.out y (List.mem_cons_self ..)).1; omega
    go_wp2_with fail
    have hh : ∀ n os, (grow (wr.drewN n) os).cell? adh = some (.string x.f0) := fun n os => cell_grown h0 n os
    have kk : ∀ n os, (grow (wr.drewN n) os).cell? adk = some (.string y.f0) := fun n os => cell_grown k0 n os
    clear h0 k0
    have mixed : Tryd.prog.follows .mixedOrders = true := by kernel_rfl
    go_quiet_grown (first | (go_at_call 50; exact Calls.grown_of (cmp_gr x.f0 y.f0 sx sy _)))
    clear hh kk mixed
    have BQ0 : Aside0 (RowKit.Below wr.heap.size wr (grow (wr.drewN nq) osq)) := ⟨Gr.below ⟨nq, osq, rfl⟩⟩
    generalize grow (wr.drewN nq) osq = wq at BQ0 ⊢
    have BQ := Aside0.mk (below_then BW.out BW.out.size BQ0.out)
    have ROq := Aside0.mk (Kd.R_below RO.out BQ0.out)
    clear BQ0 sx sy
    obtain ⟨cc, hcc⟩ : ∃ cc, cc = cB x.f0 y.f0 := ⟨_, rfl⟩
    rw [← hcc]
    have HCC := Aside0.mk hcc
    clear hcc
    have hj : ∀ m, joinK S61.f0 idleC outerC (m + 1) (x :: d) (y :: e) = if cB x.f0 y.f0 < 0 then (if idleC x = true then [] else [x]) ++ joinK S61.f0 idleC outerC m d (y :: e) else if 0 < cB x.f0 y.f0 then (if idleC y = true then [] else [y]) ++ joinK S61.f0 idleC outerC m (x :: d) e else (if idleC (outerC x y) = true then [] else [outerC x y]) ++ joinK S61.f0 idleC outerC m d e := fun _ => rfl
    have HJ := Aside0.mk hj
    clear hj
    by_cases lt : cc < 0
    ·have HLT := Aside0.mk (show cB x.f0 y.f0 < 0 from HCC.out ▸ lt)
     obtain ⟨adx, e1, h0, h1, h2, h3, h4, h5, h6, h7, h8, h9, h10⟩ := head61 (Kd.C_below CD2.out BQ.out)
     injection e1 with e1
     subst e1
     clear cute
     go_wp2_with fail
     have hg0 := fun o => Lib.cell?_alloc_some (W := wq) o h0
     have hg1 := fun o => Lib.cell?_alloc_some (W := wq) o h1
     have hg2 := fun o => Lib.cell?_alloc_some (W := wq) o h2
     have hg3 := fun o => Lib.cell?_alloc_some (W := wq) o h3
     have hg4 := fun o => Lib.cell?_alloc_some (W := wq) o h4
     have hg5 := fun o => Lib.cell?_alloc_some (W := wq) o h5
     have hg6 := fun o => Lib.cell?_alloc_some (W := wq) o h6
     have hg7 := fun o => Lib.cell?_alloc_some (W := wq) o h7
     have hg8 := fun o => Lib.cell?_alloc_some (W := wq) o h8
     have hg9 := fun o => Lib.cell?_alloc_some (W := wq) o h9
     have hg10 := fun o => Lib.cell?_alloc_some (W := wq) o h10
     clear h0 h1 h2 h3 h4 h5 h6 h7 h8 h9 h10
     go_region
     clear hg0 hg1 hg2 hg3 hg4 hg5 hg6 hg7 hg8 hg9 hg10 cutd
     go_wp2_with fail
     refine (delta_idle.calls (x.f0) (x.f1) (x.f2) (x.f3.f0) (x.f3.f1) (x.f3.f2) (x.f3.f3) (x.f4.f0) (x.f4.f1) (x.f4.f2) (x.f4.f3) (idleC x) _ (idle_is x)).mono ?_
     rintro ei w5 ⟨rfl, hb⟩
     have hsz : wq.heap.size < w5.heap.size := by have := hb.size; simp at this; omega
     have z0 : w5.cell? ⟨wq.heap.size, 0, none⟩ = some (.string (x.f0)) := (hb.cell (p := ⟨wq.heap.size, 0, none⟩) (by simp)).trans (cell_new wq _ _ 0)
     have z1 : w5.cell? ⟨wq.heap.size, 1, none⟩ = some (.bool (x.f1)) := (hb.cell (p := ⟨wq.heap.size, 1, none⟩) (by simp)).trans (cell_new wq _ _ 1)
     have z2 : w5.cell? ⟨wq.heap.size, 2, none⟩ = some (.bool (x.f2)) := (hb.cell (p := ⟨wq.heap.size, 2, none⟩) (by simp)).trans (cell_new wq _ _ 2)
     have z3 : w5.cell? ⟨wq.heap.size, 3, none⟩ = some (.string (x.f3.f0)) := (hb.cell (p := ⟨wq.heap.size, 3, none⟩) (by simp)).trans (cell_new wq _ _ 3)
     have z4 : w5.cell? ⟨wq.heap.size, 4, none⟩ = some (.string (x.f3.f1)) := (hb.cell (p := ⟨wq.heap.size, 4, none⟩) (by simp)).trans (cell_new wq _ _ 4)
     have z5 : w5.cell? ⟨wq.heap.size, 5, none⟩ = some (.int .i64 (x.f3.f2)) := (hb.cell (p := ⟨wq.heap.size, 5, none⟩) (by simp)).trans (cell_new wq _ _ 5)
     have z6 : w5.cell? ⟨wq.heap.size, 6, none⟩ = some (.int .i64 (x.f3.f3)) := (hb.cell (p := ⟨wq.heap.size, 6, none⟩) (by simp)).trans (cell_new wq _ _ 6)
     have z7 : w5.cell? ⟨wq.heap.size, 7, none⟩ = some (.string (x.f4.f0)) := (hb.cell (p := ⟨wq.heap.size, 7, none⟩) (by simp)).trans (cell_new wq _ _ 7)
     have z8 : w5.cell? ⟨wq.heap.size, 8, none⟩ = some (.string (x.f4.f1)) := (hb.cell (p := ⟨wq.heap.size, 8, none⟩) (by simp)).trans (cell_new wq _ _ 8)
     have z9 : w5.cell? ⟨wq.heap.size, 9, none⟩ = some (.int .i64 (x.f4.f2)) := (hb.cell (p := ⟨wq.heap.size, 9, none⟩) (by simp)).trans (cell_new wq _ _ 9)
     have z10 : w5.cell? ⟨wq.heap.size, 10, none⟩ = some (.int .i64 (x.f4.f3)) := (hb.cell (p := ⟨wq.heap.size, 10, none⟩) (by simp)).trans (cell_new wq _ _ 10)
     have B5 : Aside0 (RowKit.Below wq.heap.size wq w5) := ⟨⟨hb.os, hb.tape, hb.output, by omega, fun k hk => (hb.block k (by simp; omega)).trans ((World.grownBy_alloc wq _ none).block k hk (by simp))⟩⟩
     have BW5 := Aside0.mk (below_then BQ.out BQ.out.size B5.out)
     have RO5 := Aside0.mk (Kd.R_below ROq.out B5.out)
     clear hb hsz
     have hn1 : ∃ m, n = m + 1 := ⟨n - 1, by simp at hn; omega⟩
     obtain ⟨m, rfl⟩ := hn1
     have RS1 : Aside0 (res = out ++ ((if idleC x = true then [] else [x]) ++ joinK S61.f0 idleC outerC m d (y :: e))) := ⟨by rw [RS.out]; rw [HJ.out, if_pos HLT.out]⟩
     cases hid : idleC x with
     | true =>
      rw [hid] at RS1
      go_wp2
      go_roundg ((d : List S61).length + ((y :: e) : List S61).length)
      case measure => simp at hg ⊢; omega
      case rel =>
       refine ⟨Ad', (cd - 1), d, (some adk), ce, (y :: e), m, out, rfl, rfl, by simp at hcd; omega, hce, by omega, by simp at hn ⊢; omega, by simp at hol ⊢; omega, ⟨CD'⟩, CE2, RO5, ⟨?_⟩, BW5, ⟨fun c hc => FD.out c (List.mem_cons_of_mem _ hc)⟩, FE⟩
       have h := RS1.out
       simpa using h
     | false =>
      rw [hid] at RS1
      go_wp2_with (first
       | ((with_reducible refine gate_builtin (b := .append) (xs := #[.tmp 66, .tmp 68]) rfl ?_); at_builtin; refine Kd.R_append k61 (w0 := w) w.heap.size rfl (.tmp 66) (.tmp 68) 43 61 (.agg #[(.string ⟨#[]⟩), (.bool false), (.bool false), (.string ⟨#[]⟩), (.string ⟨#[]⟩), (.int .i64 0), (.int .i64 0), (.string ⟨#[]⟩), (.string ⟨#[]⟩), (.int .i64 0), (.int .i64 0)]) 120 rfl Tryd.underlying43 info61 rfl (by decide) (by omega) u7 out (x) [.string (x.f0), .bool (x.f1), .bool (x.f2), .string (x.f3.f0), .string (x.f3.f1), .int .i64 (x.f3.f2), .int .i64 (x.f3.f3), .string (x.f4.f0), .string (x.f4.f1), .int .i64 (x.f4.f2), .int .i64 (x.f4.f3)] (fun k => w.heap.size ≤ k) (fun _ => False) rfl (by first | (go_simp; done) | (go_simp; rfl)) (k61_mkM _ _ _ (x)) (fun _ h => h.elim) (fun k hk => Nat.le_trans BW5.out.size hk) RO5.out BW5.out BW5.out.size (by simp at hol; omega) ?_; intro v6 w6 ho hb hgr hat; have R6 := Aside0.mk ho; have B6 := Aside0.mk hb; clear ho hb hgr hat)
       | fail)
      go_roundg ((d : List S61).length + ((y :: e) : List S61).length)
      case measure => simp at hg ⊢; omega
      case rel =>
       refine ⟨Ad', (cd - 1), d, (some adk), ce, (y :: e), m, (out ++ [x]), rfl, rfl, by simp at hcd; omega, hce, by omega, by simp at hn ⊢; omega, by simp at hol ⊢; omega, ⟨CD'⟩, CE2, R6, ⟨?_⟩, B6, ⟨fun c hc => FD.out c (List.mem_cons_of_mem _ hc)⟩, FE⟩
       have h := RS1.out
       simpa using h
    ·have HLT := Aside0.mk (show 0 ≤ cB x.f0 y.f0 from HCC.out ▸ Int.not_lt.1 lt)
     by_cases gt : 0 < cc
     ·have HGT := Aside0.mk (show 0 < cB x.f0 y.f0 from HCC.out ▸ gt)
      obtain ⟨adx, e1, k0, k1, k2, k3, k4, k5, k6, k7, k8, k9, k10⟩ := head61 (Kd.C_below CE2.out BQ.out)
      injection e1 with e1
      subst e1
      clear cutd
      go_wp2_with fail
      have kg0 := fun o => Lib.cell?_alloc_some (W := wq) o k0
      have kg1 := fun o => Lib.cell?_alloc_some (W := wq) o k1
      have kg2 := fun o => Lib.cell?_alloc_some (W := wq) o k2
      have kg3 := fun o => Lib.cell?_alloc_some (W := wq) o k3
      have kg4 := fun o => Lib.cell?_alloc_some (W := wq) o k4
      have kg5 := fun o => Lib.cell?_alloc_some (W := wq) o k5
      have kg6 := fun o => Lib.cell?_alloc_some (W := wq) o k6
      have kg7 := fun o => Lib.cell?_alloc_some (W := wq) o k7
      have kg8 := fun o => Lib.cell?_alloc_some (W := wq) o k8
      have kg9 := fun o => Lib.cell?_alloc_some (W := wq) o k9
      have kg10 := fun o => Lib.cell?_alloc_some (W := wq) o k10
      clear k0 k1 k2 k3 k4 k5 k6 k7 k8 k9 k10
      go_region
      clear kg0 kg1 kg2 kg3 kg4 kg5 kg6 kg7 kg8 kg9 kg10 cute
      go_wp2_with fail
      refine (delta_idle.calls (y.f0) (y.f1) (y.f2) (y.f3.f0) (y.f3.f1) (y.f3.f2) (y.f3.f3) (y.f4.f0) (y.f4.f1) (y.f4.f2) (y.f4.f3) (idleC y) _ (idle_is y)).mono ?_
      rintro ei w5 ⟨rfl, hb⟩
      have hsz : wq.heap.size < w5.heap.size := by have := hb.size; simp at this; omega
      have z0 : w5.cell? ⟨wq.heap.size, 0, none⟩ = some (.string (y.f0)) := (hb.cell (p := ⟨wq.heap.size, 0, none⟩) (by simp)).trans (cell_new wq _ _ 0)
      have z1 : w5.cell? ⟨wq.heap.size, 1, none⟩ = some (.bool (y.f1)) := (hb.cell (p := ⟨wq.heap.size, 1, none⟩) (by simp)).trans (cell_new wq _ _ 1)
      have z2 : w5.cell? ⟨wq.heap.size, 2, none⟩ = some (.bool (y.f2)) := (hb.cell (p := ⟨wq.heap.size, 2, none⟩) (by simp)).trans (cell_new wq _ _ 2)
      have z3 : w5.cell? ⟨wq.heap.size, 3, none⟩ = some (.string (y.f3.f0)) := (hb.cell (p := ⟨wq.heap.size, 3, none⟩) (by simp)).trans (cell_new wq _ _ 3)
      have z4 : w5.cell? ⟨wq.heap.size, 4, none⟩ = some (.string (y.f3.f1)) := (hb.cell (p := ⟨wq.heap.size, 4, none⟩) (by simp)).trans (cell_new wq _ _ 4)
      have z5 : w5.cell? ⟨wq.heap.size, 5, none⟩ = some (.int .i64 (y.f3.f2)) := (hb.cell (p := ⟨wq.heap.size, 5, none⟩) (by simp)).trans (cell_new wq _ _ 5)
      have z6 : w5.cell? ⟨wq.heap.size, 6, none⟩ = some (.int .i64 (y.f3.f3)) := (hb.cell (p := ⟨wq.heap.size, 6, none⟩) (by simp)).trans (cell_new wq _ _ 6)
      have z7 : w5.cell? ⟨wq.heap.size, 7, none⟩ = some (.string (y.f4.f0)) := (hb.cell (p := ⟨wq.heap.size, 7, none⟩) (by simp)).trans (cell_new wq _ _ 7)
      have z8 : w5.cell? ⟨wq.heap.size, 8, none⟩ = some (.string (y.f4.f1)) := (hb.cell (p := ⟨wq.heap.size, 8, none⟩) (by simp)).trans (cell_new wq _ _ 8)
      have z9 : w5.cell? ⟨wq.heap.size, 9, none⟩ = some (.int .i64 (y.f4.f2)) := (hb.cell (p := ⟨wq.heap.size, 9, none⟩) (by simp)).trans (cell_new wq _ _ 9)
      have z10 : w5.cell? ⟨wq.heap.size, 10, none⟩ = some (.int .i64 (y.f4.f3)) := (hb.cell (p := ⟨wq.heap.size, 10, none⟩) (by simp)).trans (cell_new wq _ _ 10)
      have B5 : Aside0 (RowKit.Below wq.heap.size wq w5) := ⟨⟨hb.os, hb.tape, hb.output, by omega, fun k hk => (hb.block k (by simp; omega)).trans ((World.grownBy_alloc wq _ none).block k hk (by simp))⟩⟩
      have BW5 := Aside0.mk (below_then BQ.out BQ.out.size B5.out)
      have RO5 := Aside0.mk (Kd.R_below ROq.out B5.out)
      clear hb hsz
      have hn1 : ∃ m, n = m + 1 := ⟨n - 1, by simp at hn; omega⟩
      obtain ⟨m, rfl⟩ := hn1
      have RS1 : Aside0 (res = out ++ ((if idleC y = true then [] else [y]) ++ joinK S61.f0 idleC outerC m (x :: d) e)) := ⟨by rw [RS.out]; rw [HJ.out, if_neg (Int.not_lt.2 HLT.out), if_pos HGT.out]⟩
      cases hid : idleC y with
      | true =>
       rw [hid] at RS1
       go_wp2
       go_roundg (((x :: d) : List S61).length + (e : List S61).length)
       case measure => simp at hg ⊢; omega
       case rel =>
        refine ⟨(some adh), cd, (x :: d), Ae', (ce - 1), e, m, out, rfl, rfl, hcd, by simp at hce; omega, by omega, by simp at hn ⊢; omega, by simp at hol ⊢; omega, CD2, ⟨CE'⟩, RO5, ⟨?_⟩, BW5, FD, ⟨fun c hc => FE.out c (List.mem_cons_of_mem _ hc)⟩⟩
        have h := RS1.out
        simpa using h
      | false =>
       rw [hid] at RS1
       go_wp2_with (first
        | ((with_reducible refine gate_builtin (b := .append) (xs := #[.tmp 66, .tmp 68]) rfl ?_); at_builtin; refine Kd.R_append k61 (w0 := w) w.heap.size rfl (.tmp 66) (.tmp 68) 43 61 (.agg #[(.string ⟨#[]⟩), (.bool false), (.bool false), (.string ⟨#[]⟩), (.string ⟨#[]⟩), (.int .i64 0), (.int .i64 0), (.string ⟨#[]⟩), (.string ⟨#[]⟩), (.int .i64 0), (.int .i64 0)]) 120 rfl Tryd.underlying43 info61 rfl (by decide) (by omega) u7 out (y) [.string (y.f0), .bool (y.f1), .bool (y.f2), .string (y.f3.f0), .string (y.f3.f1), .int .i64 (y.f3.f2), .int .i64 (y.f3.f3), .string (y.f4.f0), .string (y.f4.f1), .int .i64 (y.f4.f2), .int .i64 (y.f4.f3)] (fun k => w.heap.size ≤ k) (fun _ => False) rfl (by first | (go_simp; done) | (go_simp; rfl)) (k61_mkM _ _ _ (y)) (fun _ h => h.elim) (fun k hk => Nat.le_trans BW5.out.size hk) RO5.out BW5.out BW5.out.size (by simp at hol; omega) ?_; intro v6 w6 ho hb hgr hat; have R6 := Aside0.mk ho; have B6 := Aside0.mk hb; clear ho hb hgr hat)
        | fail)
       go_roundg (((x :: d) : List S61).length + (e : List S61).length)
       case measure => simp at hg ⊢; omega
       case rel =>
        refine ⟨(some adh), cd, (x :: d), Ae', (ce - 1), e, m, (out ++ [y]), rfl, rfl, hcd, by simp at hce; omega, by omega, by simp at hn ⊢; omega, by simp at hol ⊢; omega, CD2, ⟨CE'⟩, R6, ⟨?_⟩, B6, FD, ⟨fun c hc => FE.out c (List.mem_cons_of_mem _ hc)⟩⟩
        have h := RS1.out
        simpa using h
     ·have HGT := Aside0.mk (show cB x.f0 y.f0 ≤ 0 from HCC.out ▸ Int.not_lt.1 gt)
      have hc0 : cc = 0 := by omega
      subst hc0
      obtain ⟨adx, e1, h0, h1, h2, h3, h4, h5, h6, h7, h8, h9, h10⟩ := head61 (Kd.C_below CD2.out BQ.out)
      injection e1 with e1
      subst e1
      obtain ⟨adx, e1, k0, k1, k2, k3, k4, k5, k6, k7, k8, k9, k10⟩ := head61 (Kd.C_below CE2.out BQ.out)
      injection e1 with e1
      subst e1
      go_wp2_with fail
      have hg0 := fun o => Lib.cell?_alloc_some (W := wq) o h0
      have hg1 := fun o => Lib.cell?_alloc_some (W := wq) o h1
      have hg2 := fun o => Lib.cell?_alloc_some (W := wq) o h2
      have hg3 := fun o => Lib.cell?_alloc_some (W := wq) o h3
      have hg4 := fun o => Lib.cell?_alloc_some (W := wq) o h4
      have hg5 := fun o => Lib.cell?_alloc_some (W := wq) o h5
      have hg6 := fun o => Lib.cell?_alloc_some (W := wq) o h6
      have hg7 := fun o => Lib.cell?_alloc_some (W := wq) o h7
      have hg8 := fun o => Lib.cell?_alloc_some (W := wq) o h8
      have hg9 := fun o => Lib.cell?_alloc_some (W := wq) o h9
      have hg10 := fun o => Lib.cell?_alloc_some (W := wq) o h10
      clear h0 h1 h2 h3 h4 h5 h6 h7 h8 h9 h10
      have kg0 := fun o => Lib.cell?_alloc_some (W := wq) o k0
      have kg1 := fun o => Lib.cell?_alloc_some (W := wq) o k1
      have kg2 := fun o => Lib.cell?_alloc_some (W := wq) o k2
      have kg3 := fun o => Lib.cell?_alloc_some (W := wq) o k3
      have kg4 := fun o => Lib.cell?_alloc_some (W := wq) o k4
      have kg5 := fun o => Lib.cell?_alloc_some (W := wq) o k5
      have kg6 := fun o => Lib.cell?_alloc_some (W := wq) o k6
      have kg7 := fun o => Lib.cell?_alloc_some (W := wq) o k7
      have kg8 := fun o => Lib.cell?_alloc_some (W := wq) o k8
      have kg9 := fun o => Lib.cell?_alloc_some (W := wq) o k9
      have kg10 := fun o => Lib.cell?_alloc_some (W := wq) o k10
      clear k0 k1 k2 k3 k4 k5 k6 k7 k8 k9 k10
      have hou := fun W => delta_outer.calls (x.f0) (x.f1) (x.f2) (x.f3.f0) (x.f3.f1) (x.f3.f2) (x.f3.f3) (x.f4.f0) (x.f4.f1) (x.f4.f2) (x.f4.f3) (y.f0) (y.f1) (y.f2) (y.f3.f0) (y.f3.f1) (y.f3.f2) (y.f3.f3) (y.f4.f0) (y.f4.f1) (y.f4.f2) (y.f4.f3) (x.f0) (x.f1) (y.f2) (x.f3.f0) (x.f3.f1) (x.f3.f2) (x.f3.f3) (y.f4.f0) (y.f4.f1) (y.f4.f2) (y.f4.f3) W rfl
      go_region_with (refine (hou _).mono ?_; rintro eo wo ⟨rfl, hbo⟩; have b0 : wo.cell? ⟨wq.heap.size, 0, none⟩ = some (.string ⟨#[]⟩) := (hbo.cell (p := ⟨wq.heap.size, 0, none⟩) (by simp)).trans (cell_new wq _ _ 0); have b1 : wo.cell? ⟨wq.heap.size, 1, none⟩ = some (.bool false) := (hbo.cell (p := ⟨wq.heap.size, 1, none⟩) (by simp)).trans (cell_new wq _ _ 1); have b2 : wo.cell? ⟨wq.heap.size, 2, none⟩ = some (.bool false) := (hbo.cell (p := ⟨wq.heap.size, 2, none⟩) (by simp)).trans (cell_new wq _ _ 2); have b3 : wo.cell? ⟨wq.heap.size, 3, none⟩ = some (.string ⟨#[]⟩) := (hbo.cell (p := ⟨wq.heap.size, 3, none⟩) (by simp)).trans (cell_new wq _ _ 3); have b4 : wo.cell? ⟨wq.heap.size, 4, none⟩ = some (.string ⟨#[]⟩) := (hbo.cell (p := ⟨wq.heap.size, 4, none⟩) (by simp)).trans (cell_new wq _ _ 4); have b5 : wo.cell? ⟨wq.heap.size, 5, none⟩ = some (.int .i64 0) := (hbo.cell (p := ⟨wq.heap.size, 5, none⟩) (by simp)).trans (cell_new wq _ _ 5); have b6 : wo.cell? ⟨wq.heap.size, 6, none⟩ = some (.int .i64 0) := (hbo.cell (p := ⟨wq.heap.size, 6, none⟩) (by simp)).trans (cell_new wq _ _ 6); have b7 : wo.cell? ⟨wq.heap.size, 7, none⟩ = some (.string ⟨#[]⟩) := (hbo.cell (p := ⟨wq.heap.size, 7, none⟩) (by simp)).trans (cell_new wq _ _ 7); have b8 : wo.cell? ⟨wq.heap.size, 8, none⟩ = some (.string ⟨#[]⟩) := (hbo.cell (p := ⟨wq.heap.size, 8, none⟩) (by simp)).trans (cell_new wq _ _ 8); have b9 : wo.cell? ⟨wq.heap.size, 9, none⟩ = some (.int .i64 0) := (hbo.cell (p := ⟨wq.heap.size, 9, none⟩) (by simp)).trans (cell_new wq _ _ 9); have b10 : wo.cell? ⟨wq.heap.size, 10, none⟩ = some (.int .i64 0) := (hbo.cell (p := ⟨wq.heap.size, 10, none⟩) (by simp)).trans (cell_new wq _ _ 10); have bx := (hbo.block wq.heap.size (by simp)).trans (heap_alloc_new wq _); have fx : ∀ k, wo.frozen? ⟨wq.heap.size, k, none⟩ = false := fun k => froz_new bx k)
      all_goals (
       obtain ⟨wz, hwz⟩ : ∃ wz, wz = (((((((((((wo.setCell ⟨wq.heap.size, 0, none⟩ (.string x.f0)).setCell ⟨wq.heap.size, 1, none⟩ (.bool x.f1)).setCell ⟨wq.heap.size, 2, none⟩ (.bool y.f2)).setCell ⟨wq.heap.size, 3, none⟩ (.string x.f3.f0)).setCell ⟨wq.heap.size, 4, none⟩ (.string x.f3.f1)).setCell ⟨wq.heap.size, 5, none⟩ (.int .i64 x.f3.f2)).setCell ⟨wq.heap.size, 6, none⟩ (.int .i64 x.f3.f3)).setCell ⟨wq.heap.size, 7, none⟩ (.string y.f4.f0)).setCell ⟨wq.heap.size, 8, none⟩ (.string y.f4.f1)).setCell ⟨wq.heap.size, 9, none⟩ (.int .i64 y.f4.f2)).setCell ⟨wq.heap.size, 10, none⟩ (.int .i64 y.f4.f3)) := ⟨_, rfl⟩
       have BO : RowKit.Below wq.heap.size wq wo := ⟨hbo.os, hbo.tape, hbo.output, by have := hbo.size; simp at this; omega, fun k hk => (hbo.block k (by simp; omega)).trans ((World.grownBy_alloc wq _ none).block k hk (by simp))⟩
       have ZB : wz.heap[wq.heap.size]? = some (.cells (cellsC (outerC x y)) 61 (0, 0)) := by rw [hwz]; simp [World.setCell, Array.getElem?_modify, bx, cellsC, outerC]
       have BZ : Aside0 (RowKit.Below wq.heap.size wq wz) := ⟨by rw [hwz]; exact (RowKit.Below.setCell (p := ⟨wq.heap.size, 10, none⟩) (RowKit.Below.setCell (p := ⟨wq.heap.size, 9, none⟩) (RowKit.Below.setCell (p := ⟨wq.heap.size, 8, none⟩) (RowKit.Below.setCell (p := ⟨wq.heap.size, 7, none⟩) (RowKit.Below.setCell (p := ⟨wq.heap.size, 6, none⟩) (RowKit.Below.setCell (p := ⟨wq.heap.size, 5, none⟩) (RowKit.Below.setCell (p := ⟨wq.heap.size, 4, none⟩) (RowKit.Below.setCell (p := ⟨wq.heap.size, 3, none⟩) (RowKit.Below.setCell (p := ⟨wq.heap.size, 2, none⟩) (RowKit.Below.setCell (p := ⟨wq.heap.size, 1, none⟩) (RowKit.Below.setCell (p := ⟨wq.heap.size, 0, none⟩) BO (Nat.le_refl wq.heap.size) (.string x.f0)) (Nat.le_refl wq.heap.size) (.bool x.f1)) (Nat.le_refl wq.heap.size) (.bool y.f2)) (Nat.le_refl wq.heap.size) (.string x.f3.f0)) (Nat.le_refl wq.heap.size) (.string x.f3.f1)) (Nat.le_refl wq.heap.size) (.int .i64 x.f3.f2)) (Nat.le_refl wq.heap.size) (.int .i64 x.f3.f3)) (Nat.le_refl wq.heap.size) (.string y.f4.f0)) (Nat.le_refl wq.heap.size) (.string y.f4.f1)) (Nat.le_refl wq.heap.size) (.int .i64 y.f4.f2)) (Nat.le_refl wq.heap.size) (.int .i64 y.f4.f3))⟩
       have ZLT : Aside0 (wq.heap.size < wz.heap.size) := ⟨(Array.getElem?_eq_some_iff.1 ZB).1⟩
       have zz0 : wz.cell? ⟨wq.heap.size, 0, none⟩ = some (.string x.f0) := by simp [World.cell?, ZB, cellsC, outerC]
       have zz1 : wz.cell? ⟨wq.heap.size, 1, none⟩ = some (.bool x.f1) := by simp [World.cell?, ZB, cellsC, outerC]
       have zz2 : wz.cell? ⟨wq.heap.size, 2, none⟩ = some (.bool y.f2) := by simp [World.cell?, ZB, cellsC, outerC]
       have zz3 : wz.cell? ⟨wq.heap.size, 3, none⟩ = some (.string x.f3.f0) := by simp [World.cell?, ZB, cellsC, outerC]
       have zz4 : wz.cell? ⟨wq.heap.size, 4, none⟩ = some (.string x.f3.f1) := by simp [World.cell?, ZB, cellsC, outerC]
       have zz5 : wz.cell? ⟨wq.heap.size, 5, none⟩ = some (.int .i64 x.f3.f2) := by simp [World.cell?, ZB, cellsC, outerC]
       have zz6 : wz.cell? ⟨wq.heap.size, 6, none⟩ = some (.int .i64 x.f3.f3) := by simp [World.cell?, ZB, cellsC, outerC]
       have zz7 : wz.cell? ⟨wq.heap.size, 7, none⟩ = some (.string y.f4.f0) := by simp [World.cell?, ZB, cellsC, outerC]
       have zz8 : wz.cell? ⟨wq.heap.size, 8, none⟩ = some (.string y.f4.f1) := by simp [World.cell?, ZB, cellsC, outerC]
       have zz9 : wz.cell? ⟨wq.heap.size, 9, none⟩ = some (.int .i64 y.f4.f2) := by simp [World.cell?, ZB, cellsC, outerC]
       have zz10 : wz.cell? ⟨wq.heap.size, 10, none⟩ = some (.int .i64 y.f4.f3) := by simp [World.cell?, ZB, cellsC, outerC]
       rw [← hwz]
       clear hwz BO ZB bx fx hbo hou b0 b1 b2 b3 b4 b5 b6 b7 b8 b9 b10 hg0 kg0 hg1 kg1 hg2 kg2 hg3 kg3 hg4 kg4 hg5 kg5 hg6 kg6 hg7 kg7 hg8 kg8 hg9 kg9 hg10 kg10
       go_wp2_with fail
       go_region
       clear cutd cute
       go_wp2_with fail
       refine (delta_idle.calls (x.f0) (x.f1) (y.f2) (x.f3.f0) (x.f3.f1) (x.f3.f2) (x.f3.f3) (y.f4.f0) (y.f4.f1) (y.f4.f2) (y.f4.f3) (idleC (outerC x y)) _ (idle_is (outerC x y))).mono ?_
       rintro ei w5 ⟨rfl, hb⟩
       have hsz : wq.heap.size < w5.heap.size := Nat.lt_of_lt_of_le ZLT.out hb.size
       have z0 : w5.cell? ⟨wq.heap.size, 0, none⟩ = some (.string (x.f0)) := (hb.cell (p := ⟨wq.heap.size, 0, none⟩) ZLT.out).trans zz0
       have z1 : w5.cell? ⟨wq.heap.size, 1, none⟩ = some (.bool (x.f1)) := (hb.cell (p := ⟨wq.heap.size, 1, none⟩) ZLT.out).trans zz1
       have z2 : w5.cell? ⟨wq.heap.size, 2, none⟩ = some (.bool (y.f2)) := (hb.cell (p := ⟨wq.heap.size, 2, none⟩) ZLT.out).trans zz2
       have z3 : w5.cell? ⟨wq.heap.size, 3, none⟩ = some (.string (x.f3.f0)) := (hb.cell (p := ⟨wq.heap.size, 3, none⟩) ZLT.out).trans zz3
       have z4 : w5.cell? ⟨wq.heap.size, 4, none⟩ = some (.string (x.f3.f1)) := (hb.cell (p := ⟨wq.heap.size, 4, none⟩) ZLT.out).trans zz4
       have z5 : w5.cell? ⟨wq.heap.size, 5, none⟩ = some (.int .i64 (x.f3.f2)) := (hb.cell (p := ⟨wq.heap.size, 5, none⟩) ZLT.out).trans zz5
       have z6 : w5.cell? ⟨wq.heap.size, 6, none⟩ = some (.int .i64 (x.f3.f3)) := (hb.cell (p := ⟨wq.heap.size, 6, none⟩) ZLT.out).trans zz6
       have z7 : w5.cell? ⟨wq.heap.size, 7, none⟩ = some (.string (y.f4.f0)) := (hb.cell (p := ⟨wq.heap.size, 7, none⟩) ZLT.out).trans zz7
       have z8 : w5.cell? ⟨wq.heap.size, 8, none⟩ = some (.string (y.f4.f1)) := (hb.cell (p := ⟨wq.heap.size, 8, none⟩) ZLT.out).trans zz8
       have z9 : w5.cell? ⟨wq.heap.size, 9, none⟩ = some (.int .i64 (y.f4.f2)) := (hb.cell (p := ⟨wq.heap.size, 9, none⟩) ZLT.out).trans zz9
       have z10 : w5.cell? ⟨wq.heap.size, 10, none⟩ = some (.int .i64 (y.f4.f3)) := (hb.cell (p := ⟨wq.heap.size, 10, none⟩) ZLT.out).trans zz10
       have B5 : Aside0 (RowKit.Below wq.heap.size wq w5) := ⟨below_then BZ.out (Nat.le_of_lt ZLT.out) ⟨hb.os, hb.tape, hb.output, hb.size, hb.block⟩⟩
       clear zz0 zz1 zz2 zz3 zz4 zz5 zz6 zz7 zz8 zz9 zz10
       have BW5 := Aside0.mk (below_then BQ.out BQ.out.size B5.out)
       have RO5 := Aside0.mk (Kd.R_below ROq.out B5.out)
       clear hb hsz
       have hn1 : ∃ m, n = m + 1 := ⟨n - 1, by simp at hn; omega⟩
       obtain ⟨m, rfl⟩ := hn1
       have RS1 : Aside0 (res = out ++ ((if idleC (outerC x y) = true then [] else [(outerC x y)]) ++ joinK S61.f0 idleC outerC m d e)) := ⟨by rw [RS.out]; rw [HJ.out, if_neg (Int.not_lt.2 HLT.out), if_neg (Int.not_lt.2 HGT.out)]⟩
       cases hid : idleC (outerC x y) with
       | true =>
        rw [hid] at RS1
        go_wp2
        go_roundg ((d : List S61).length + (e : List S61).length)
        case measure => simp at hg ⊢; omega
        case rel =>
         refine ⟨Ad', (cd - 1), d, Ae', (ce - 1), e, m, out, rfl, rfl, by simp at hcd; omega, by simp at hce; omega, by omega, by simp at hn ⊢; omega, by simp at hol ⊢; omega, ⟨CD'⟩, ⟨CE'⟩, RO5, ⟨?_⟩, BW5, ⟨fun c hc => FD.out c (List.mem_cons_of_mem _ hc)⟩, ⟨fun c hc => FE.out c (List.mem_cons_of_mem _ hc)⟩⟩
         have h := RS1.out
         simpa using h
       | false =>
        rw [hid] at RS1
        go_wp2_with (first
         | ((with_reducible refine gate_builtin (b := .append) (xs := #[.tmp 66, .tmp 68]) rfl ?_); at_builtin; refine Kd.R_append k61 (w0 := w) w.heap.size rfl (.tmp 66) (.tmp 68) 43 61 (.agg #[(.string ⟨#[]⟩), (.bool false), (.bool false), (.string ⟨#[]⟩), (.string ⟨#[]⟩), (.int .i64 0), (.int .i64 0), (.string ⟨#[]⟩), (.string ⟨#[]⟩), (.int .i64 0), (.int .i64 0)]) 120 rfl Tryd.underlying43 info61 rfl (by decide) (by omega) u7 out ((outerC x y)) [.string (x.f0), .bool (x.f1), .bool (y.f2), .string (x.f3.f0), .string (x.f3.f1), .int .i64 (x.f3.f2), .int .i64 (x.f3.f3), .string (y.f4.f0), .string (y.f4.f1), .int .i64 (y.f4.f2), .int .i64 (y.f4.f3)] (fun k => w.heap.size ≤ k) (fun _ => False) rfl (by first | (go_simp; done) | (go_simp; rfl)) (k61_mkM _ _ _ ((outerC x y))) (fun _ h => h.elim) (fun k hk => Nat.le_trans BW5.out.size hk) RO5.out BW5.out BW5.out.size (by simp at hol; omega) ?_; intro v6 w6 ho hb hgr hat; have R6 := Aside0.mk ho; have B6 := Aside0.mk hb; clear ho hb hgr hat)
         | fail)
        go_roundg ((d : List S61).length + (e : List S61).length)
        case measure => simp at hg ⊢; omega
        case rel =>
         refine ⟨Ad', (cd - 1), d, Ae', (ce - 1), e, m, (out ++ [(outerC x y)]), rfl, rfl, by simp at hcd; omega, by simp at hce; omega, by omega, by simp at hn ⊢; omega, by simp at hol ⊢; omega, ⟨CD'⟩, ⟨CE'⟩, R6, ⟨?_⟩, B6, ⟨fun c hc => FD.out c (List.mem_cons_of_mem _ hc)⟩, ⟨fun c hc => FE.out c (List.mem_cons_of_mem _ hc)⟩⟩
         have h := RS1.out
         simpa using h
      )
theorem delta_joined.calls (k : Nat) (P0_ : Nat → Prop) (A0 : Option Addr) (c0 : Nat) (l0 : List S61) (P1_ : Nat → Prop) (A1 : Option Addr) (c1 : Nat) (l1 : List S61) (a2 : Bool) (r : List S61) (w : World) (hs0 : Kd.V k61 61 w w.heap.size (fun k_ => P0_ k_) (.slice A0 l0.length c0) l0) (hs1 : Kd.V k61 61 w w.heap.size (fun k_ => P1_ k_) (.slice A1 l1.length c1) l1) (h : delta_joined.f k l0 l1 a2 = some r) :
  Calls Tryd.prog 51 #[.slice A0 l0.length c0, .slice A1 l1.length c1, .func (.func 52) #[] #[]] w fun e w' => ∃ v0_ : Value, e = .returned (v0_) ∧ Kd.R k61 61 w' w.heap.size (fun k_ => (w.heap.size ≤ k_)) v0_ r ∧ Below w.heap.size w w' := by
 unfold delta_joined.f at h
 split at h
 ·rename_i hh
  obtain rfl := Option.some.inj h
  exact delta_joined.walk A0 c0 l0 A1 c1 l1 w (Kd.V_reads' hs0).2.2 (Kd.V_reads' hs0).2.1 (Kd.V_reads' hs1).2.2 (Kd.V_reads' hs1).2.1 hh.1.1 hh.1.2 hh.2.1 hh.2.2
 ·cases h
end Go.Proofs.YtehfogjibhnabaaDoor.PAll
namespace Go.Proofs.YtehfogjibhnabaaDoor.PAll
open Go.RowKit Go.Proofs.YtehfogjibhnabaaDoorW.PrintWords Go.Proofs.YtehfogjibhnabaaDoorW.PrintLast Go.Proofs.YtehfogjibhnabaaDoorW.PrintMore
attribute [local go_sem] max2_int min2_int max_two min_two max_three min_three max_four min_four
set_option linter.unusedVariables false
set_option linter.unusedSimpArgs false
attribute [local go_sem high] eqA55
mutual
def delta_Diff.j0 : Nat → List (S55) → List (S55) → Bool → Option ((List (S61)))
 | 0, _, _, _ => none
 | k + 1, x0, x1, x18 => if x18 = true then (some ([] : List (S61))) else (delta_Diff.l0 k x1 ([] : List (S61)) x0 (x0.length : Int) 0)
def delta_Diff.l0 : Nat → List (S55) → List (S61) → List (S55) → Int → Int → Option ((List (S61)))
 | 0, _, _, _, _, _ => none
 | k + 1, x1, x5, x19, x20, x21 => if x21 < x20 then (if 0 ≤ x21 then (if x21 < (x19.length : Int) then (if x5.length < 1172812402961 then (delta_Diff.l0 k x1 (x5 ++ [(⟨(rd_T55 x19 x21).f0, true, false, (⟨(rd_T55 x19 x21).f0, (rd_T55 x19 x21).f1, (rd_T55 x19 x21).f2, (rd_T55 x19 x21).f3⟩ : S55), (⟨(⟨#[]⟩ : ByteArray), (⟨#[]⟩ : ByteArray), 0, 0⟩ : S55)⟩ : S61)]) x19 x20 (wrap64 (x21 + 1))) else (none)) else (none)) else (none)) else (delta_Diff.l1 k x5 ([] : List (S61)) x1 (x1.length : Int) 0)
def delta_Diff.l1 : Nat → List (S61) → List (S61) → List (S55) → Int → Int → Option ((List (S61)))
 | 0, _, _, _, _, _ => none
 | k + 1, x5, x6, x33, x34, x35 => if x35 < x34 then (if 0 ≤ x35 then (if x35 < (x33.length : Int) then (if x6.length < 1172812402961 then (delta_Diff.l1 k x5 (x6 ++ [(⟨(rd_T55 x33 x35).f0, false, true, (⟨(⟨#[]⟩ : ByteArray), (⟨#[]⟩ : ByteArray), 0, 0⟩ : S55), (⟨(rd_T55 x33 x35).f0, (rd_T55 x33 x35).f1, (rd_T55 x33 x35).f2, (rd_T55 x33 x35).f3⟩ : S55)⟩ : S61)]) x33 x34 (wrap64 (x35 + 1))) else (none)) else (none)) else (none)) else ((delta_joined.f k x5 x6 true).bind fun t225 => (some t225))
end
def delta_Diff.f (k : Nat) (l0 : List (S55)) (l1 : List (S55)) : Option ((List (S61))) := (snap_Valid.f k l0).bind fun t213 => (if t213 = 0 then ((snap_Valid.f k l1).bind fun t214 => (delta_Diff.j0 k l0 l1 (t214 != 0))) else (delta_Diff.j0 k l0 l1 true))
theorem delta_Diff.mono_l : ∀ k, (∀ y0 y1 y2, LeO (delta_Diff.j0 k y0 y1 y2) (delta_Diff.j0 (k + 1) y0 y1 y2)) ∧ (∀ y0 y1 y2 y3 y4, LeO (delta_Diff.l0 k y0 y1 y2 y3 y4) (delta_Diff.l0 (k + 1) y0 y1 y2 y3 y4)) ∧ (∀ y0 y1 y2 y3 y4, LeO (delta_Diff.l1 k y0 y1 y2 y3 y4) (delta_Diff.l1 (k + 1) y0 y1 y2 y3 y4))
 | 0 => ⟨fun _ _ _ r h => by simp [delta_Diff.j0] at h, fun _ _ _ _ _ r h => by simp [delta_Diff.l0] at h, fun _ _ _ _ _ r h => by simp [delta_Diff.l1] at h⟩
 | k + 1 => by
  obtain ⟨ih0, ih1, ih2⟩ := delta_Diff.mono_l k
  refine ⟨?_, ?_, ?_⟩
  ·intro y0 y1 y2
   unfold delta_Diff.j0
   repeat' first
   | (with_reducible exact ih0 _ _ _)
   | (with_reducible exact ih1 _ _ _ _ _)
   | (with_reducible exact ih2 _ _ _ _ _)
   | (with_reducible exact delta_joined.mono _ _ _ _)
   | (with_reducible exact snap_Valid.mono _ _)
   | (with_reducible exact LeO.refl _)
   | (with_reducible exact LeO.none _)
   | (with_reducible refine LeO.ite ?_ ?_)
   | (with_reducible refine LeO.bind ?_ (fun _ => ?_))
   | exact ih0 _ _ _
   | exact ih1 _ _ _ _ _
   | exact ih2 _ _ _ _ _
   | exact delta_joined.mono _ _ _ _
   | exact snap_Valid.mono _ _
   | exact LeO.none _
   | refine LeO.ite ?_ ?_
   | refine LeO.bind ?_ (fun _ => ?_)
  ·intro y0 y1 y2 y3 y4
   unfold delta_Diff.l0
   repeat' first
   | (with_reducible exact ih0 _ _ _)
   | (with_reducible exact ih1 _ _ _ _ _)
   | (with_reducible exact ih2 _ _ _ _ _)
   | (with_reducible exact delta_joined.mono _ _ _ _)
   | (with_reducible exact snap_Valid.mono _ _)
   | (with_reducible exact LeO.refl _)
   | (with_reducible exact LeO.none _)
   | (with_reducible refine LeO.ite ?_ ?_)
   | (with_reducible refine LeO.bind ?_ (fun _ => ?_))
   | exact ih0 _ _ _
   | exact ih1 _ _ _ _ _
   | exact ih2 _ _ _ _ _
   | exact delta_joined.mono _ _ _ _
   | exact snap_Valid.mono _ _
   | exact LeO.none _
   | refine LeO.ite ?_ ?_
   | refine LeO.bind ?_ (fun _ => ?_)
  ·intro y0 y1 y2 y3 y4
   unfold delta_Diff.l1
   repeat' first
   | (with_reducible exact ih0 _ _ _)
   | (with_reducible exact ih1 _ _ _ _ _)
   | (with_reducible exact ih2 _ _ _ _ _)
   | (with_reducible exact delta_joined.mono _ _ _ _)
   | (with_reducible exact snap_Valid.mono _ _)
   | (with_reducible exact LeO.refl _)
   | (with_reducible exact LeO.none _)
   | (with_reducible refine LeO.ite ?_ ?_)
   | (with_reducible refine LeO.bind ?_ (fun _ => ?_))
   | exact ih0 _ _ _
   | exact ih1 _ _ _ _ _
   | exact ih2 _ _ _ _ _
   | exact delta_joined.mono _ _ _ _
   | exact snap_Valid.mono _ _
   | exact LeO.none _
   | refine LeO.ite ?_ ?_
   | refine LeO.bind ?_ (fun _ => ?_)
theorem delta_Diff.mono : ∀ a0 a1 k, LeO (delta_Diff.f k a0 a1) (delta_Diff.f (k + 1) a0 a1) := by
 intro a0 a1 k
 obtain ⟨ih0, ih1, ih2⟩ := delta_Diff.mono_l k
 unfold delta_Diff.f
 repeat' first
   | (with_reducible exact ih0 _ _ _)
   | (with_reducible exact ih1 _ _ _ _ _)
   | (with_reducible exact ih2 _ _ _ _ _)
   | (with_reducible exact delta_joined.mono _ _ _ _)
   | (with_reducible exact snap_Valid.mono _ _)
   | (with_reducible exact LeO.refl _)
   | (with_reducible exact LeO.none _)
   | (with_reducible refine LeO.ite ?_ ?_)
   | (with_reducible refine LeO.bind ?_ (fun _ => ?_))
   | exact ih0 _ _ _
   | exact ih1 _ _ _ _ _
   | exact ih2 _ _ _ _ _
   | exact delta_joined.mono _ _ _ _
   | exact snap_Valid.mono _ _
   | exact LeO.none _
   | refine LeO.ite ?_ ?_
   | refine LeO.bind ?_ (fun _ => ?_)
set_option maxHeartbeats 8000000 in
set_option maxRecDepth 100000 in
theorem delta_Diff.calls (k : Nat) (A0 : Option Addr) (c0 : Nat) (l0 : List (S55)) (A1 : Option Addr) (c1 : Nat) (l1 : List (S55)) (r : List (S61)) (w : World) (hr0 : Kd.C k55 w A0 l0.length l0) (hc0 : l0.length ≤ c0) (hr1 : Kd.C k55 w A1 l1.length l1) (hc1 : l1.length ≤ c1) (h : delta_Diff.f k l0 l1 = some r) :
  Calls Tryd.prog 23 #[.slice A0 l0.length c0, .slice A1 l1.length c1] w fun e w' => ∃ v0_ : Value, e = .returned (v0_) ∧ Kd.R k61 61 w' w.heap.size (fun _ => True) v0_ r ∧ Below w.heap.size w w' := by
 have hu55 := Tryd.underlying55
 have hu61 := Tryd.underlying61
 have HR0 := Aside0.mk hr0
 have HC0 := Aside0.mk hc0
 clear hr0 hc0
 have HR1 := Aside0.mk hr1
 have HC1 := Aside0.mk hc1
 clear hr1 hc1
 have HB := Aside0.mk (Below.refl w.heap.size w)
 have H : ((snap_Valid.f k l0).bind fun t213 => (if t213 = 0 then ((snap_Valid.f k l1).bind fun t214 => (delta_Diff.j0 k l0 l1 (t214 != 0))) else (delta_Diff.j0 k l0 l1 true))) = some r := h
 clear h
 have HC3 := Aside0.mk H
 clear H
 go_enter Tryd.func23, Tryd.ntmps23
 go_upto_region 1 with (fail)
 go_cut [18] (fun v18 wc => ∃ (kq : Nat) (x18_2 : Bool), v18 = .bool x18_2 ∧ Aside0 (delta_Diff.j0 kq l0 l1 x18_2 = some r) ∧ Aside0 (kq ≤ k) ∧ Aside0 (Below w.heap.size w wc))
 case first =>
  have H := HC3.out
  clear HC3
  replace H := Option.bind_eq_some_iff.mp H
  obtain ⟨t213, A40, H⟩ := H
  try dsimp only at H
  have A4 := Aside0.mk A40
  clear A40
  by_cases c5 : t213 = 0
  ·rw [if_pos c5] at H
   have c5b0 : (t213 == 0) = true := beq_iff_eq.mpr c5
   have c5b1 : (t213 != 0) = false := bne_eq_false_iff_eq.mpr c5
   clear c5
   (first | rw [c5b0] | (simp only [i64_w, i32_w]; rw [c5b0]) | skip)
   replace H := Option.bind_eq_some_iff.mp H
   obtain ⟨t214, A60, H⟩ := H
   try dsimp only at H
   have A6 := Aside0.mk A60
   clear A60
   have H' := Aside0.mk H
   clear H
   go_wp2_with (first | ((with_reducible refine gate_callee (f := 22) rfl ?_); refine goesL_ (some 12) rfl rfl Tryd.func22 (by kernel_rfl) rfl #[.slice A0 l0.length c0] rfl (by (try simp only [List.map_toArray, List.map_cons, List.map_nil]); first | done | rfl | (simp only [List.length_drop, List.length_take]; rfl)) ?_; (with_reducible refine (snap_Valid.calls k _ _ l0 t213 _ ?side1 ?side2 A4.out).mono ?_); (case side1 => repeat (first | exact (Kd.C_below HR0.out HB.out) | (with_reducible refine Kd.C_alloc ?_ _) | (with_reducible refine Kd.C_drewN ?_ _) | (with_reducible refine Kd.C_drew ?_))); (case side2 => exact HC0.out); rintro e w7 ⟨rfl, hb⟩; refine ⟨_, rfl, ?_⟩; have n0_ := Aside0.mk (below_step (by repeat (first | (with_reducible first | exact HB.out | apply below_alloc | apply pw_below_drewN | apply below_drew1) | exact HB.out)) hb); clear HB; have HB := n0_; clear n0_; (try clear hb); (try clear hb2); (try clear hk); (try clear hi)) | (go_at_call 22; (with_reducible refine (snap_Valid.calls k _ _ l1 t214 _ ?side1 ?side2 A6.out).mono ?_); (case side1 => repeat (first | exact (Kd.C_below HR1.out HB.out) | (with_reducible refine Kd.C_alloc ?_ _) | (with_reducible refine Kd.C_drewN ?_ _) | (with_reducible refine Kd.C_drew ?_))); (case side2 => exact HC1.out); rintro e w8 ⟨rfl, hb⟩; have n0_ := Aside0.mk (below_step (by repeat (first | (with_reducible first | exact HB.out | apply below_alloc | apply pw_below_drewN | apply below_drew1) | exact HB.out)) hb); clear HB; have HB := n0_; clear n0_; (try clear hb); (try clear hb2); (try clear hk); (try clear hi)))
   go_meet
   case rel => exact ⟨_, ((t214 != 0)), (by first | rfl | (simp; done) | (simp [*]; done)), H', ⟨by first | omega | exact Nat.le_refl _⟩, ⟨by repeat (first | (with_reducible first | exact HB.out | apply below_alloc | apply pw_below_drewN | apply below_drew1) | exact HB.out)⟩⟩
  ·rw [if_neg c5] at H
   have c5b0 : (t213 == 0) = false := beq_eq_false_iff_ne.mpr c5
   have c5b1 : (t213 != 0) = true := bne_iff_ne.mpr c5
   (first | rw [c5b0] | (simp only [i64_w, i32_w]; rw [c5b0]) | skip)
   have H' := Aside0.mk H
   clear H
   go_wp2_with (first | ((with_reducible refine gate_callee (f := 22) rfl ?_); refine goesL_ (some 12) rfl rfl Tryd.func22 (by kernel_rfl) rfl #[.slice A0 l0.length c0] rfl (by (try simp only [List.map_toArray, List.map_cons, List.map_nil]); first | done | rfl | (simp only [List.length_drop, List.length_take]; rfl)) ?_; (with_reducible refine (snap_Valid.calls k _ _ l0 t213 _ ?side1 ?side2 A4.out).mono ?_); (case side1 => repeat (first | exact (Kd.C_below HR0.out HB.out) | (with_reducible refine Kd.C_alloc ?_ _) | (with_reducible refine Kd.C_drewN ?_ _) | (with_reducible refine Kd.C_drew ?_))); (case side2 => exact HC0.out); rintro e w9 ⟨rfl, hb⟩; refine ⟨_, rfl, ?_⟩; have n0_ := Aside0.mk (below_step (by repeat (first | (with_reducible first | exact HB.out | apply below_alloc | apply pw_below_drewN | apply below_drew1) | exact HB.out)) hb); clear HB; have HB := n0_; clear n0_; (try clear hb); (try clear hb2); (try clear hk); (try clear hi)))
   go_meet
   case rel => exact ⟨_, (true), (by first | rfl | (simp; done) | (simp [*]; done)), H', ⟨by first | omega | exact Nat.le_refl _⟩, ⟨by repeat (first | (with_reducible first | exact HB.out | apply below_alloc | apply pw_below_drewN | apply below_drew1) | exact HB.out)⟩⟩
 case rest =>
  clear HC3
  try clear c1
  try clear c2
  try clear p2
  try clear c5
  try clear c5b0
  try clear c5b1
  obtain ⟨kq, x18_2, rfl, HA, HJ2, HB⟩ := hcut
  cases kq with
  | zero => exact absurd HA.out (by simp [delta_Diff.j0])
  | succ kj2 =>
   have H := HA.out
   clear HA
   simp only [delta_Diff.j0] at H
   by_cases c10 : x18_2 = true
   ·subst c10
    rw [if_pos rfl] at H
    have H1 := H
    clear H
    have H := H1
    clear H1
    obtain rfl := Option.some.inj H
    go_wp2
    go_ret
    exact ⟨_, by first | rfl | (simp [errW_none, errW_some] <;> rfl) | (simp [*, errW_none, errW_some] <;> rfl), by first | exact Kd.R_nil _ _ _ _ _ | exact Kd.N_nil _ _ _ _ _ | exact Kd.V_nil _ _ _ _ _ | exact Kd.Q_nil _ _ _ _ _ | exact Kd.S_nil _ _ _ _ _, by repeat (first | (with_reducible first | exact HB.out | apply below_alloc | apply pw_below_drewN | apply below_drew1) | exact HB.out)⟩
   ·replace c10 := Bool.eq_false_iff.mpr c10
    subst c10
    have H1 : (delta_Diff.l0 kj2 l1 ([] : List (S61)) l0 (l0.length : Int) 0) = some r := by rw [if_neg (show ¬ (false = true) by decide)] at H; exact H
    clear H
    have H := H1
    clear H1
    have H' := Aside0.mk H
    clear H
    go_wp2
    go_loopg [5, 21] kj2 (fun kq v5 v21 w' => ∃ (x5_2 : List (S61)) (x21_2 : Int), v21 = .int .i64 x21_2 ∧ Aside0 (delta_Diff.l0 kq l1 x5_2 l0 (l0.length : Int) x21_2 = some r) ∧ Aside0 (kq ≤ kj2) ∧ Aside0 (Kd.R k61 61 w' w.heap.size (fun _ => True) v5 x5_2) ∧ Aside0 (Below w.heap.size w w'))
    case atStart => exact ⟨(([] : List (S61))), (0), (by first | rfl | (simp; done) | (simp [*]; done)), H', ⟨Nat.le_refl _⟩, ⟨by first | exact Kd.R_nil _ _ _ _ _ | exact Kd.N_nil _ _ _ _ _ | exact Kd.V_nil _ _ _ _ _ | exact Kd.Q_nil _ _ _ _ _ | exact Kd.S_nil _ _ _ _ _⟩, ⟨by repeat (first | (with_reducible first | exact HB.out | apply below_alloc | apply pw_below_drewN | apply below_drew1) | exact HB.out)⟩⟩
    case round =>
     clear H'
     try clear c1
     try clear c2
     try clear p2
     try clear c5
     try clear c5b0
     try clear c5b1
     try clear c10
     try clear p2
     obtain ⟨x5_2, x21_2, rfl, HA, HK2, HO_5, HB⟩ := hrel
     cases gk with
     | zero => exact absurd HA.out (by simp [delta_Diff.l0])
     | succ k2 =>
      have H := HA.out
      clear HA
      simp only [delta_Diff.l0] at H
      by_cases c11 : x21_2 < (l0.length : Int)
      ·rw [if_pos c11] at H
       have c11b0 := decide_eq_true c11
       clear c11
       by_cases c12 : 0 ≤ x21_2
       ·rw [if_pos c12] at H
        have c12b0 := decide_eq_true c12
        clear c12
        by_cases c13 : x21_2 < (l0.length : Int)
        ·rw [if_pos c13] at H
         have c13b0 := decide_eq_true c13
         clear c13
         by_cases c14 : x5_2.length < 1172812402961
         ·rw [if_pos c14] at H
          have LMc14 := Aside0.mk c14
          clear c14
          obtain ⟨y217, hy217⟩ : ∃ y_ : List (S61), y_ = (x5_2 ++ [(⟨(rd_T55 l0 x21_2).f0, true, false, (⟨(rd_T55 l0 x21_2).f0, (rd_T55 l0 x21_2).f1, (rd_T55 l0 x21_2).f2, (rd_T55 l0 x21_2).f3⟩ : S55), (⟨(⟨#[]⟩ : ByteArray), (⟨#[]⟩ : ByteArray), 0, 0⟩ : S55)⟩ : S61)]) := ⟨_, rfl⟩
          replace H : (delta_Diff.l0 k2 l1 y217 l0 (l0.length : Int) (wrap64 (x21_2 + 1))) = some r := by first | (rw [hy217]; with_reducible exact H) | (have H2_ := (Option.bind_some _ _).symm.trans H; rw [hy217]; with_reducible exact H2_) | (have H2_ := (Option.bind_some _ _).symm.trans H; with_reducible exact H2_) | with_reducible exact H | (rw [hy217]; exact H) | exact H
          have Ny217 := Aside0.mk hy217
          clear hy217
          have H' := Aside0.mk H
          clear H
          have p215 : 0 ≤ (x21_2 : Int) := of_decide_eq_true (by first | (with_reducible assumption) | assumption)
          have q215 : x21_2 < (l0.length : Int) := of_decide_eq_true (by first | (with_reducible assumption) | assumption)
          obtain ⟨ad215, e215, hx215_0, hx215_1, hx215_2, hx215_3⟩ := at_T55 HR0.out x21_2 p215 q215
          cases e215
          replace hx215_0 := (HB.out.cell (World.block_lt_of_cell? w _ hx215_0)).trans hx215_0
          replace hx215_1 := (HB.out.cell (World.block_lt_of_cell? w _ hx215_1)).trans hx215_1
          replace hx215_2 := (HB.out.cell (World.block_lt_of_cell? w _ hx215_2)).trans hx215_2
          replace hx215_3 := (HB.out.cell (World.block_lt_of_cell? w _ hx215_3)).trans hx215_3
          replace p215 := eq_true p215
          replace q215 := eq_true q215
          go_wp2_with (first | ((with_reducible refine gate_dst (N := 8) rfl ?_); refine box_event ?hg (N := 8) ?hd (cs := #[.string (⟨#[]⟩ : ByteArray), .string (⟨#[]⟩ : ByteArray), .int .i64 0, .int .i64 0]) (t := 55) ?hr ?_; (case hd => rfl); (case hg => rfl); (case hr => first | (go_simp; done) | (go_simp; rfl)); intro gb216 hg w15 hbox hb; have n0_ := Aside0.mk (Kd.R_below (by (with_reducible repeat (first | apply Kd.R_alloc | apply Kd.R_drewN | apply Kd.R_drew)); exact HO_5.out) hb); have n1_ := Aside0.mk (below_step (by repeat (first | (with_reducible first | exact HB.out | apply below_alloc | apply pw_below_drewN | apply below_drew1) | exact HB.out)) hb); have n2_ := Aside0.mk (hbox); have n3_ := Aside0.mk ((by rw [hg]; exact (below_size (by repeat (first | (with_reducible first | exact HB.out | apply below_alloc | apply pw_below_drewN | apply below_drew1) | exact HB.out))) : w.heap.size ≤ gb216)); have n4_ := Aside0.mk ((by rw [hg]; exact (below_size (by repeat (first | (with_reducible first | exact HB.out | apply below_alloc | apply pw_below_drewN | apply below_drew1) | exact HB.out))) : w.heap.size ≤ gb216)); clear HO_5; clear HB; have HO_5 := n0_; have HB := n1_; have BK216 := n2_; have GW216 := n3_; have GE216 := n4_; clear n0_ n1_ n2_ n3_ n4_; clear hb hbox hg; have hcz16_0 : w15.cell? ⟨gb216, 0, none⟩ = some (.string (⟨#[]⟩ : ByteArray)) := (blk_cell BK216.out 0).trans rfl; have hcz16_1 : w15.cell? ⟨gb216, 1, none⟩ = some (.string (⟨#[]⟩ : ByteArray)) := (blk_cell BK216.out 1).trans rfl; have hcz16_2 : w15.cell? ⟨gb216, 2, none⟩ = some (.int .i64 0) := (blk_cell BK216.out 2).trans rfl; have hcz16_3 : w15.cell? ⟨gb216, 3, none⟩ = some (.int .i64 0) := (blk_cell BK216.out 3).trans rfl; have hfz16_0 := blk_frozen BK216.out 0; have hfz16_1 := blk_frozen BK216.out 1; have hfz16_2 := blk_frozen BK216.out 2; have hfz16_3 := blk_frozen BK216.out 3) | ((with_reducible refine gate_builtin (b := .append) (xs := #[.tmp 25, .tmp 30]) rfl ?_); at_builtin; refine Kd.R_append k61 (w0 := w) w.heap.size rfl (.tmp 25) (.tmp 30) 43 61 (.agg #[(.string ⟨#[]⟩), (.bool false), (.bool false), (.string ⟨#[]⟩), (.string ⟨#[]⟩), (.int .i64 0), (.int .i64 0), (.string ⟨#[]⟩), (.string ⟨#[]⟩), (.int .i64 0), (.int .i64 0)]) 120 rfl Tryd.underlying43 info61 rfl (by decide) (by omega) u5 x5_2 (⟨(rd_T55 l0 x21_2).f0, true, false, (⟨(rd_T55 l0 x21_2).f0, (rd_T55 l0 x21_2).f1, (rd_T55 l0 x21_2).f2, (rd_T55 l0 x21_2).f3⟩ : S55), (⟨(⟨#[]⟩ : ByteArray), (⟨#[]⟩ : ByteArray), 0, 0⟩ : S55)⟩ : S61) [.string ((rd_T55 l0 x21_2).f0), .bool true, .bool false, .string ((rd_T55 l0 x21_2).f0), .string ((rd_T55 l0 x21_2).f1), .int .i64 ((rd_T55 l0 x21_2).f2), .int .i64 ((rd_T55 l0 x21_2).f3), .string (⟨#[]⟩ : ByteArray), .string (⟨#[]⟩ : ByteArray), .int .i64 0, .int .i64 0] (fun _ => True) (fun _ => False) rfl (by first | (go_simp; done) | (go_simp; rfl)) ?aP (fun _ hk => hk.elim) ?aF ?aO ?aB ?aS ?aL ?_; (case aP => exact k61_mkM _ _ _ (⟨(rd_T55 l0 x21_2).f0, true, false, (⟨(rd_T55 l0 x21_2).f0, (rd_T55 l0 x21_2).f1, (rd_T55 l0 x21_2).f2, (rd_T55 l0 x21_2).f3⟩ : S55), (⟨(⟨#[]⟩ : ByteArray), (⟨#[]⟩ : ByteArray), 0, 0⟩ : S55)⟩ : S61)); (case aB => exact (by repeat (first | (with_reducible first | exact HB.out | apply below_alloc | apply pw_below_drewN | apply below_drew1 | refine below_set ?_ GE216.out) | exact HB.out))); (case aF => exact (fun _ _ => trivial)); (case aO => exact (by (with_reducible repeat (first | apply Kd.R_alloc | apply Kd.R_drewN | apply Kd.R_drew)); exact Kd.R_mono (Kd.R_far (p := ⟨gb216, 3, none⟩) (Kd.R_far (p := ⟨gb216, 2, none⟩) (Kd.R_far (p := ⟨gb216, 1, none⟩) (Kd.R_far (p := ⟨gb216, 0, none⟩) (Kd.R_types HO_5.out BK216.out (by decide)) (fun _ hk => hk.2) (.string ((rd_T55 l0 x21_2).f0))) (fun _ hk => hk.2) (.string ((rd_T55 l0 x21_2).f1))) (fun _ hk => hk.2) (.int .i64 ((rd_T55 l0 x21_2).f2))) (fun _ hk => hk.2) (.int .i64 ((rd_T55 l0 x21_2).f3))) (fun _ hk => trivial))); (case aS => exact (below_size (by repeat (first | (with_reducible first | exact HB.out | apply below_alloc | apply pw_below_drewN | apply below_drew1 | refine below_set ?_ GE216.out) | exact HB.out)))); (case aL => have := LMc14.out; omega); intro v218 w17 ho hb hg hat; rw [← Ny217.out] at ho; have n0_ := Aside0.mk (blk_grown (g := gb216) (o := .cells #[.string ((rd_T55 l0 x21_2).f0), .string ((rd_T55 l0 x21_2).f1), .int .i64 ((rd_T55 l0 x21_2).f2), .int .i64 ((rd_T55 l0 x21_2).f3)] 55 (0, 0)) (by (with_reducible repeat (first | refine blk_drewN ?_ _ | refine blk_drew ?_ | refine blk_alloc ?_ _)); refine blk_put (cs := #[.string ((rd_T55 l0 x21_2).f0), .string ((rd_T55 l0 x21_2).f1), .int .i64 ((rd_T55 l0 x21_2).f2), .int .i64 0]) ?_ 3 _ rfl; (with_reducible repeat (first | refine blk_drewN ?_ _ | refine blk_drew ?_ | refine blk_alloc ?_ _)); refine blk_put (cs := #[.string ((rd_T55 l0 x21_2).f0), .string ((rd_T55 l0 x21_2).f1), .int .i64 0, .int .i64 0]) ?_ 2 _ rfl; (with_reducible repeat (first | refine blk_drewN ?_ _ | refine blk_drew ?_ | refine blk_alloc ?_ _)); refine blk_put (cs := #[.string ((rd_T55 l0 x21_2).f0), .string (⟨#[]⟩ : ByteArray), .int .i64 0, .int .i64 0]) ?_ 1 _ rfl; (with_reducible repeat (first | refine blk_drewN ?_ _ | refine blk_drew ?_ | refine blk_alloc ?_ _)); refine blk_put (cs := #[.string (⟨#[]⟩ : ByteArray), .string (⟨#[]⟩ : ByteArray), .int .i64 0, .int .i64 0]) ?_ 0 _ rfl; (with_reducible repeat (first | refine blk_drewN ?_ _ | refine blk_drew ?_ | refine blk_alloc ?_ _)); exact BK216.out) hg (Kd.R_ne HO_5.out BK216.out (by decide))); have n1_ := Aside0.mk (hb); have n2_ := Aside0.mk (ho); clear BK216; clear HB; clear HO_5; have BK216 := n0_; have HB := n1_; have HO219 := n2_; clear n0_ n1_ n2_; clear ho hb hg hat))
          go_roundg k2
          case measure => have := HJ2.out; have := HK2.out; omega
          case rel => exact ⟨(y217), (wrap64 (x21_2 + 1)), (by first | rfl | (simp; done) | (simp [*]; done)), H', ⟨by have := HJ2.out; have := HK2.out; omega⟩, ⟨by (with_reducible repeat (first | apply Kd.R_alloc | apply Kd.R_drewN | apply Kd.R_drew)); exact HO219.out⟩, ⟨by repeat (first | (with_reducible first | exact HB.out | apply below_alloc | apply pw_below_drewN | apply below_drew1 | refine below_set ?_ GE216.out) | exact HB.out)⟩⟩
         ·rw [if_neg c14] at H
          exact absurd H (by simp)
        ·rw [if_neg c13] at H
         exact absurd H (by simp)
       ·rw [if_neg c12] at H
        exact absurd H (by simp)
      ·rw [if_neg c11] at H
       have c11b0 := decide_eq_false c11
       clear c11
       have H' := Aside0.mk H
       clear H
       go_wp2
       go_loopg [6, 35] k2 (fun kq v6 v35 w' => ∃ (x6_3 : List (S61)) (x35_3 : Int), v35 = .int .i64 x35_3 ∧ Aside0 (delta_Diff.l1 kq x5_2 x6_3 l1 (l1.length : Int) x35_3 = some r) ∧ Aside0 (kq ≤ k2) ∧ Aside0 (Kd.R k61 61 w' w.heap.size (fun k_ => some k_ ≠ (v6 : Value).ownBlock) u5 x5_2) ∧ Aside0 (Kd.R k61 61 w' w.heap.size (fun k_ => some k_ ≠ (u5 : Value).ownBlock) v6 x6_3) ∧ Aside0 (Below w.heap.size w w'))
       case atStart => exact ⟨(([] : List (S61))), (0), (by first | rfl | (simp; done) | (simp [*]; done)), H', ⟨Nat.le_refl _⟩, ⟨by (with_reducible repeat (first | apply Kd.R_alloc | apply Kd.R_drewN | apply Kd.R_drew)); exact Kd.R_mono HO_5.out (fun _ hk => (by simp [Value.ownBlock]))⟩, ⟨by first | exact Kd.R_nil _ _ _ _ _ | exact Kd.N_nil _ _ _ _ _ | exact Kd.V_nil _ _ _ _ _ | exact Kd.Q_nil _ _ _ _ _ | exact Kd.S_nil _ _ _ _ _⟩, ⟨by repeat (first | (with_reducible first | exact HB.out | apply below_alloc | apply pw_below_drewN | apply below_drew1) | exact HB.out)⟩⟩
       case round =>
        clear H'
        try clear c1
        try clear c2
        try clear p2
        try clear q2
        try clear hx2
        try clear c5
        try clear c5b0
        try clear c5b1
        try clear p6
        try clear c10
        try clear c11
        try clear c11b0
        try clear c12
        try clear c12b0
        try clear c13
        try clear c13b0
        try clear c14
        try clear hcz16_0
        try clear hcz16_1
        try clear hcz16_2
        try clear hcz16_3
        try clear hfz16_0
        try clear hfz16_1
        try clear hfz16_2
        try clear hfz16_3
        try clear hx215_0
        try clear hx215_1
        try clear hx215_2
        try clear hx215_3
        try clear p2
        try clear p215
        try clear q215
        obtain ⟨x6_3, x35_3, rfl, HA, HK3, HO_5, HO_6, HB⟩ := hrel
        cases gk with
        | zero => exact absurd HA.out (by simp [delta_Diff.l1])
        | succ k3 =>
         have H := HA.out
         clear HA
         simp only [delta_Diff.l1] at H
         by_cases c18 : x35_3 < (l1.length : Int)
         ·rw [if_pos c18] at H
          have c18b0 := decide_eq_true c18
          clear c18
          by_cases c19 : 0 ≤ x35_3
          ·rw [if_pos c19] at H
           have c19b0 := decide_eq_true c19
           clear c19
           by_cases c20 : x35_3 < (l1.length : Int)
           ·rw [if_pos c20] at H
            have c20b0 := decide_eq_true c20
            clear c20
            by_cases c21 : x6_3.length < 1172812402961
            ·rw [if_pos c21] at H
             have LMc21 := Aside0.mk c21
             clear c21
             obtain ⟨y222, hy222⟩ : ∃ y_ : List (S61), y_ = (x6_3 ++ [(⟨(rd_T55 l1 x35_3).f0, false, true, (⟨(⟨#[]⟩ : ByteArray), (⟨#[]⟩ : ByteArray), 0, 0⟩ : S55), (⟨(rd_T55 l1 x35_3).f0, (rd_T55 l1 x35_3).f1, (rd_T55 l1 x35_3).f2, (rd_T55 l1 x35_3).f3⟩ : S55)⟩ : S61)]) := ⟨_, rfl⟩
             replace H : (delta_Diff.l1 k3 x5_2 y222 l1 (l1.length : Int) (wrap64 (x35_3 + 1))) = some r := by first | (rw [hy222]; with_reducible exact H) | (have H2_ := (Option.bind_some _ _).symm.trans H; rw [hy222]; with_reducible exact H2_) | (have H2_ := (Option.bind_some _ _).symm.trans H; with_reducible exact H2_) | with_reducible exact H | (rw [hy222]; exact H) | exact H
             have Ny222 := Aside0.mk hy222
             clear hy222
             have H' := Aside0.mk H
             clear H
             have p220 : 0 ≤ (x35_3 : Int) := of_decide_eq_true (by first | (with_reducible assumption) | assumption)
             have q220 : x35_3 < (l1.length : Int) := of_decide_eq_true (by first | (with_reducible assumption) | assumption)
             obtain ⟨ad220, e220, hx220_0, hx220_1, hx220_2, hx220_3⟩ := at_T55 HR1.out x35_3 p220 q220
             cases e220
             replace hx220_0 := (HB.out.cell (World.block_lt_of_cell? w _ hx220_0)).trans hx220_0
             replace hx220_1 := (HB.out.cell (World.block_lt_of_cell? w _ hx220_1)).trans hx220_1
             replace hx220_2 := (HB.out.cell (World.block_lt_of_cell? w _ hx220_2)).trans hx220_2
             replace hx220_3 := (HB.out.cell (World.block_lt_of_cell? w _ hx220_3)).trans hx220_3
             replace p220 := eq_true p220
             replace q220 := eq_true q220
             go_wp2_with (first | ((with_reducible refine gate_dst (N := 10) rfl ?_); refine box_event ?hg (N := 10) ?hd (cs := #[.string (⟨#[]⟩ : ByteArray), .string (⟨#[]⟩ : ByteArray), .int .i64 0, .int .i64 0]) (t := 55) ?hr ?_; (case hd => rfl); (case hg => rfl); (case hr => first | (go_simp; done) | (go_simp; rfl)); intro gb221 hg w22 hbox hb; have n0_ := Aside0.mk (Kd.R_below (by (with_reducible repeat (first | apply Kd.R_alloc | apply Kd.R_drewN | apply Kd.R_drew)); exact HO_5.out) hb); have n1_ := Aside0.mk (Kd.R_below (by (with_reducible repeat (first | apply Kd.R_alloc | apply Kd.R_drewN | apply Kd.R_drew)); exact HO_6.out) hb); have n2_ := Aside0.mk (below_step (by repeat (first | (with_reducible first | exact HB.out | apply below_alloc | apply pw_below_drewN | apply below_drew1) | exact HB.out)) hb); have n3_ := Aside0.mk (hbox); have n4_ := Aside0.mk ((by rw [hg]; exact (below_size (by repeat (first | (with_reducible first | exact HB.out | apply below_alloc | apply pw_below_drewN | apply below_drew1) | exact HB.out))) : w.heap.size ≤ gb221)); have n5_ := Aside0.mk ((by rw [hg]; exact (below_size (by repeat (first | (with_reducible first | exact HB.out | apply below_alloc | apply pw_below_drewN | apply below_drew1) | exact HB.out))) : w.heap.size ≤ gb221)); clear HO_5; clear HO_6; clear HB; have HO_5 := n0_; have HO_6 := n1_; have HB := n2_; have BK221 := n3_; have GW221 := n4_; have GE221 := n5_; clear n0_ n1_ n2_ n3_ n4_ n5_; clear hb hbox hg; have hcz23_0 : w22.cell? ⟨gb221, 0, none⟩ = some (.string (⟨#[]⟩ : ByteArray)) := (blk_cell BK221.out 0).trans rfl; have hcz23_1 : w22.cell? ⟨gb221, 1, none⟩ = some (.string (⟨#[]⟩ : ByteArray)) := (blk_cell BK221.out 1).trans rfl; have hcz23_2 : w22.cell? ⟨gb221, 2, none⟩ = some (.int .i64 0) := (blk_cell BK221.out 2).trans rfl; have hcz23_3 : w22.cell? ⟨gb221, 3, none⟩ = some (.int .i64 0) := (blk_cell BK221.out 3).trans rfl; have hfz23_0 := blk_frozen BK221.out 0; have hfz23_1 := blk_frozen BK221.out 1; have hfz23_2 := blk_frozen BK221.out 2; have hfz23_3 := blk_frozen BK221.out 3) | ((with_reducible refine gate_builtin (b := .append) (xs := #[.tmp 39, .tmp 44]) rfl ?_); at_builtin; refine Kd.R_append k61 (w0 := w) w.heap.size rfl (.tmp 39) (.tmp 44) 43 61 (.agg #[(.string ⟨#[]⟩), (.bool false), (.bool false), (.string ⟨#[]⟩), (.string ⟨#[]⟩), (.int .i64 0), (.int .i64 0), (.string ⟨#[]⟩), (.string ⟨#[]⟩), (.int .i64 0), (.int .i64 0)]) 120 rfl Tryd.underlying43 info61 rfl (by decide) (by omega) u6 x6_3 (⟨(rd_T55 l1 x35_3).f0, false, true, (⟨(⟨#[]⟩ : ByteArray), (⟨#[]⟩ : ByteArray), 0, 0⟩ : S55), (⟨(rd_T55 l1 x35_3).f0, (rd_T55 l1 x35_3).f1, (rd_T55 l1 x35_3).f2, (rd_T55 l1 x35_3).f3⟩ : S55)⟩ : S61) [.string ((rd_T55 l1 x35_3).f0), .bool false, .bool true, .string (⟨#[]⟩ : ByteArray), .string (⟨#[]⟩ : ByteArray), .int .i64 0, .int .i64 0, .string ((rd_T55 l1 x35_3).f0), .string ((rd_T55 l1 x35_3).f1), .int .i64 ((rd_T55 l1 x35_3).f2), .int .i64 ((rd_T55 l1 x35_3).f3)] (fun k_ => some k_ ≠ (u5 : Value).ownBlock) (fun _ => False) rfl (by first | (go_simp; done) | (go_simp; rfl)) ?aP (fun _ hk => hk.elim) ?aF ?aO ?aB ?aS ?aL ?_; (case aP => exact k61_mkM _ _ _ (⟨(rd_T55 l1 x35_3).f0, false, true, (⟨(⟨#[]⟩ : ByteArray), (⟨#[]⟩ : ByteArray), 0, 0⟩ : S55), (⟨(rd_T55 l1 x35_3).f0, (rd_T55 l1 x35_3).f1, (rd_T55 l1 x35_3).f2, (rd_T55 l1 x35_3).f3⟩ : S55)⟩ : S61)); (case aB => exact (by repeat (first | (with_reducible first | exact HB.out | apply below_alloc | apply pw_below_drewN | apply below_drew1 | refine below_set ?_ GE221.out) | exact HB.out))); (case aF => exact (fun k_ hk => Kd.fresh' (Kd.R_lt (by (with_reducible repeat (first | apply Kd.R_alloc | apply Kd.R_drewN | apply Kd.R_drew)); exact (Kd.R_mono (Kd.R_far (p := ⟨gb221, 3, none⟩) (Kd.R_far (p := ⟨gb221, 2, none⟩) (Kd.R_far (p := ⟨gb221, 1, none⟩) (Kd.R_far (p := ⟨gb221, 0, none⟩) (Kd.R_types HO_5.out BK221.out (by decide)) (fun _ hk => hk.2) (.string ((rd_T55 l1 x35_3).f0))) (fun _ hk => hk.2) (.string ((rd_T55 l1 x35_3).f1))) (fun _ hk => hk.2) (.int .i64 ((rd_T55 l1 x35_3).f2))) (fun _ hk => hk.2) (.int .i64 ((rd_T55 l1 x35_3).f3))) (fun _ h_ => h_.1)))) k_ hk)); (case aO => exact (by (with_reducible repeat (first | apply Kd.R_alloc | apply Kd.R_drewN | apply Kd.R_drew)); exact Kd.R_mono (Kd.R_far (p := ⟨gb221, 3, none⟩) (Kd.R_far (p := ⟨gb221, 2, none⟩) (Kd.R_far (p := ⟨gb221, 1, none⟩) (Kd.R_far (p := ⟨gb221, 0, none⟩) (Kd.R_types HO_6.out BK221.out (by decide)) (fun _ hk => hk.2) (.string ((rd_T55 l1 x35_3).f0))) (fun _ hk => hk.2) (.string ((rd_T55 l1 x35_3).f1))) (fun _ hk => hk.2) (.int .i64 ((rd_T55 l1 x35_3).f2))) (fun _ hk => hk.2) (.int .i64 ((rd_T55 l1 x35_3).f3))) (fun _ hk => hk.1))); (case aS => exact (below_size (by repeat (first | (with_reducible first | exact HB.out | apply below_alloc | apply pw_below_drewN | apply below_drew1 | refine below_set ?_ GE221.out) | exact HB.out)))); (case aL => have := LMc21.out; omega); intro v223 w24 ho hb hg hat; rw [← Ny222.out] at ho; have n0_ := Aside0.mk (Kd.R_after (ok := (fun _ => True)) (by (with_reducible repeat (first | apply Kd.R_alloc | apply Kd.R_drewN | apply Kd.R_drew)); exact Kd.R_mono (Kd.R_far (p := ⟨gb221, 3, none⟩) (Kd.R_far (p := ⟨gb221, 2, none⟩) (Kd.R_far (p := ⟨gb221, 1, none⟩) (Kd.R_far (p := ⟨gb221, 0, none⟩) (Kd.R_types HO_5.out BK221.out (by decide)) (fun _ hk => hk.2) (.string ((rd_T55 l1 x35_3).f0))) (fun _ hk => hk.2) (.string ((rd_T55 l1 x35_3).f1))) (fun _ hk => hk.2) (.int .i64 ((rd_T55 l1 x35_3).f2))) (fun _ hk => hk.2) (.int .i64 ((rd_T55 l1 x35_3).f3))) (fun _ hk => ⟨trivial, hk.1⟩)) hg hat); have n1_ := Aside0.mk (blk_grown (g := gb221) (o := .cells #[.string ((rd_T55 l1 x35_3).f0), .string ((rd_T55 l1 x35_3).f1), .int .i64 ((rd_T55 l1 x35_3).f2), .int .i64 ((rd_T55 l1 x35_3).f3)] 55 (0, 0)) (by (with_reducible repeat (first | refine blk_drewN ?_ _ | refine blk_drew ?_ | refine blk_alloc ?_ _)); refine blk_put (cs := #[.string ((rd_T55 l1 x35_3).f0), .string ((rd_T55 l1 x35_3).f1), .int .i64 ((rd_T55 l1 x35_3).f2), .int .i64 0]) ?_ 3 _ rfl; (with_reducible repeat (first | refine blk_drewN ?_ _ | refine blk_drew ?_ | refine blk_alloc ?_ _)); refine blk_put (cs := #[.string ((rd_T55 l1 x35_3).f0), .string ((rd_T55 l1 x35_3).f1), .int .i64 0, .int .i64 0]) ?_ 2 _ rfl; (with_reducible repeat (first | refine blk_drewN ?_ _ | refine blk_drew ?_ | refine blk_alloc ?_ _)); refine blk_put (cs := #[.string ((rd_T55 l1 x35_3).f0), .string (⟨#[]⟩ : ByteArray), .int .i64 0, .int .i64 0]) ?_ 1 _ rfl; (with_reducible repeat (first | refine blk_drewN ?_ _ | refine blk_drew ?_ | refine blk_alloc ?_ _)); refine blk_put (cs := #[.string (⟨#[]⟩ : ByteArray), .string (⟨#[]⟩ : ByteArray), .int .i64 0, .int .i64 0]) ?_ 0 _ rfl; (with_reducible repeat (first | refine blk_drewN ?_ _ | refine blk_drew ?_ | refine blk_alloc ?_ _)); exact BK221.out) hg (Kd.R_ne HO_6.out BK221.out (by decide))); have n2_ := Aside0.mk (hb); have n3_ := Aside0.mk (ho); clear HO_5; clear BK221; clear HB; clear HO_6; have HO_5 := n0_; have BK221 := n1_; have HB := n2_; have HO224 := n3_; clear n0_ n1_ n2_ n3_; clear ho hb hg hat))
             go_roundg k3
             case measure => have := HJ2.out; have := HK2.out; have := HK3.out; omega
             case rel => exact ⟨(y222), (wrap64 (x35_3 + 1)), (by first | rfl | (simp; done) | (simp [*]; done)), H', ⟨by have := HJ2.out; have := HK2.out; have := HK3.out; omega⟩, ⟨by (with_reducible repeat (first | apply Kd.R_alloc | apply Kd.R_drewN | apply Kd.R_drew)); exact Kd.R_mono HO_5.out (fun _ hk => hk.2)⟩, ⟨by (with_reducible repeat (first | apply Kd.R_alloc | apply Kd.R_drewN | apply Kd.R_drew)); exact HO224.out⟩, ⟨by repeat (first | (with_reducible first | exact HB.out | apply below_alloc | apply pw_below_drewN | apply below_drew1 | refine below_set ?_ GE221.out) | exact HB.out)⟩⟩
            ·rw [if_neg c21] at H
             exact absurd H (by simp)
           ·rw [if_neg c20] at H
            exact absurd H (by simp)
          ·rw [if_neg c19] at H
           exact absurd H (by simp)
         ·rw [if_neg c18] at H
          have c18b0 := decide_eq_false c18
          clear c18
          replace H := Option.bind_eq_some_iff.mp H
          obtain ⟨t225, A250, H⟩ := H
          try dsimp only at H
          have A25 := Aside0.mk A250
          clear A250
          obtain rfl := Option.some.inj H
          obtain ⟨Ao26, co26, eo26⟩ := Kd.R_slice HO_5.out
          subst eo26
          obtain ⟨Ao27, co27, eo27⟩ := Kd.R_slice HO_6.out
          subst eo27
          go_wp2_with (first | ((with_reducible refine gate_callee (f := 51) rfl ?_); refine goesL_ (some 49) rfl rfl Tryd.func51 (by kernel_rfl) rfl #[.slice Ao26 x5_2.length co26, .slice Ao27 x6_3.length co27, .func (.func 52) #[] #[]] rfl (by (try simp only [List.map_toArray, List.map_cons, List.map_nil]); first | done | rfl | (simp only [List.length_drop, List.length_take]; rfl)) ?_; (with_reducible refine (delta_joined.calls k3 (fun k_ => some k_ = (.slice Ao26 x5_2.length co26 : Value).ownBlock) _ _ x5_2 (fun k_ => some k_ = (.slice Ao27 x6_3.length co27 : Value).ownBlock) _ _ x6_3 true t225 _ ?side1 ?side2 A25.out).mono ?_); (case side1 => exact Kd.R_V (Kd.R_tight rfl (HO_5.out))); (case side2 => exact Kd.R_V (Kd.R_tight rfl (HO_6.out))); rintro e w28 ⟨v226, rfl, ho0, hb⟩; refine ⟨_, rfl, ?_⟩; have n0_ := Aside0.mk (Kd.R_elder' (by (with_reducible repeat (first | apply Kd.R_alloc | apply Kd.R_drewN | apply Kd.R_drew)); exact HO_5.out) (Kd.R_base ho0) hb); have n1_ := Aside0.mk (Kd.R_elder' (by (with_reducible repeat (first | apply Kd.R_alloc | apply Kd.R_drewN | apply Kd.R_drew)); exact HO_6.out) (Kd.R_base ho0) hb); have n2_ := Aside0.mk (Kd.R_lower (Kd.R_new' (Kd.R_new' (Kd.R_mono (ok' := fun k_ => True) ho0 (fun _ hk_ => trivial)) (Kd.R_lt (by (with_reducible repeat (first | apply Kd.R_alloc | apply Kd.R_drewN | apply Kd.R_drew)); exact HO_5.out))) (Kd.R_lt (by (with_reducible repeat (first | apply Kd.R_alloc | apply Kd.R_drewN | apply Kd.R_drew)); exact HO_6.out))) (below_size (by repeat (first | (with_reducible first | exact HB.out | apply below_alloc | apply pw_below_drewN | apply below_drew1) | exact HB.out)))); have n3_ := Aside0.mk (below_step (by repeat (first | (with_reducible first | exact HB.out | apply below_alloc | apply pw_below_drewN | apply below_drew1) | exact HB.out)) hb); clear HO_5; clear HO_6; clear HB; have HO_5 := n0_; have HO_6 := n1_; have HO227 := n2_; have HB := n3_; clear n0_ n1_ n2_ n3_; (try clear hb); (try clear hb2); (try clear hk); (try clear hi); (try clear ho0)))
          go_ret
          exact ⟨_, by first | rfl | (simp [errW_none, errW_some] <;> rfl) | (simp [*, errW_none, errW_some] <;> rfl), by (with_reducible repeat (first | apply Kd.R_alloc | apply Kd.R_drewN | apply Kd.R_drew)); exact Kd.R_mono HO227.out (fun _ hk => trivial), by repeat (first | (with_reducible first | exact HB.out | apply below_alloc | apply pw_below_drewN | apply below_drew1) | exact HB.out)⟩
end Go.Proofs.YtehfogjibhnabaaDoor.PAll
