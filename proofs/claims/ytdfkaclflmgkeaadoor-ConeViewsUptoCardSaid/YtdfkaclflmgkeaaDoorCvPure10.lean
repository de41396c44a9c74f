/- ConeViews: the law's printed function answers true, of any files and any list whose texts and lengths are not too great. -/
import Derived.Test.YtdfkaclflmgkeaaDoorCvPAllx0
import Derived.Test.YtdfkaclflmgkeaaDoorCvHandB
import Derived.Test.YtdfkaclflmgkeaaDoorCvPAlly15
import Derived.Test.YtdfkaclflmgkeaaDoorCvPAlly25
import Derived.Test.YtdfkaclflmgkeaaDoorCvPAlly29
import Derived.Test.YtdfkaclflmgkeaaDoorCvPure1
import Derived.Test.YtdfkaclflmgkeaaDoorCvPure2
import Derived.Test.YtdfkaclflmgkeaaDoorCvPure3
import Derived.Test.YtdfkaclflmgkeaaDoorCvPure5
import Derived.Test.YtdfkaclflmgkeaaDoorCvPure7
import Derived.Test.YtdfkaclflmgkeaaDoorCvPure8
import Derived.Test.YtdfkaclflmgkeaaDoorCvPure9
import Derived.Test.YtdfkaclflmgkeaaDoorCvSpec
namespace Go.Proofs.YtdfkaclflmgkeaaDoor.PAll
open Go.RowKit Go.Proofs.YtdfkaclflmgkeaaDoorW.PrintWords Go.Proofs.YtdfkaclflmgkeaaDoorW.PrintLast Go.Proofs.YtdfkaclflmgkeaaDoorW.PrintMore
open Go.Proofs.YtdfkaclflmgkeaaDoor.Sp
theorem fileNe_same (a : S48) : (!(a.f0.toList == a.f0.toList) || (!(a.f1.toList == a.f1.toList) || (!(a.f2 == a.f2) || (!(a.f3 == a.f3))))) = false := by simp
theorem filesC_same (x : List S48) (hx : x.length ≤ 4294967296) : Ev (fun k => copselaw15_files.f k x x) true := by
 have run : ∀ d i, x.length - i = d → i ≤ x.length → Ev (fun k => copselaw15_files.l0 k x x (i : Int)) true := by
  intro d
  induction d with
  | zero =>
   intro i hd hi
   refine ⟨1, fun k hk => ?_⟩
   obtain ⟨k, rfl⟩ : ∃ m, k = m + 1 := ⟨k - 1, by omega⟩
   simp only [copselaw15_files.l0]
   rw [if_neg (by omega)]
  | succ d ih =>
   intro i hd hi
   obtain ⟨K, hK⟩ := ih (i + 1) (by omega) (by omega)
   dsimp only at hK
   refine ⟨K + 1, fun k hk => ?_⟩
   obtain ⟨k, rfl⟩ : ∃ m, k = m + 1 := ⟨k - 1, by omega⟩
   simp only [copselaw15_files.l0]
   rw [if_pos (by omega), if_pos (by omega), if_pos (by omega), fileNe_same, if_neg (by simp), wrap_succ (n := x.length) (by omega) (by omega)]
   exact hK k (by omega)
 refine Ev.congr (fun k => ?_) (run x.length 0 (by omega) (by omega))
 unfold copselaw15_files.f
 rw [if_pos rfl]; rfl
theorem snap_zero (l : List S48) : snapV l = 0 ↔ l.all placedB = true ∧ l.length ≤ 512 ∧ (∀ f ∈ l, fileR f = true) ∧ l.Pairwise (fun a b => Apart2 a.f0 b.f0) := by
 unfold snapV
 by_cases h1 : l.all placedB = true
 ·rw [if_pos h1]
  by_cases h2 : l.length > 512
  ·rw [if_pos h2]; constructor
   ·intro h; exact absurd h (by decide)
   ·rintro ⟨_, h, _⟩; omega
  ·rw [if_neg h2]
   have e := chain_all fileR S48.f0 l none
   constructor
   ·intro h
    by_cases c : chainR fileR S48.f0 none l = true
    ·obtain ⟨a, b, _⟩ := e.1 c; exact ⟨h1, by omega, a, b⟩
    ·rw [if_neg c] at h; exact absurd h (by decide)
   ·rintro ⟨_, _, a, b⟩
    rw [if_pos (e.2 ⟨a, b, fun y e => by cases e⟩)]
 ·rw [if_neg h1]; constructor
  ·intro h; exact absurd h (by decide)
  ·rintro ⟨h, _⟩; exact absurd h h1
theorem snap_sub {l m : List S48} (h : snapV l = 0) (hs : m.Sublist l) : snapV m = 0 := by
 obtain ⟨a, b, c, d⟩ := (snap_zero l).1 h
 exact (snap_zero m).2 ⟨List.all_eq_true.2 fun x hx => List.all_eq_true.1 a x (hs.subset hx), Nat.le_trans hs.length_le b, fun f hf => c f (hs.subset hf), d.sublist hs⟩
theorem pB_inj {a b : ByteArray} (h : pB a = pB b) : a = b := bs_inj (pcs_inj (by rw [← pB_bs, ← pB_bs, h]))
theorem above_root {d : ByteArray} (h : bs d ≠ []) : aboveB (⟨#[]⟩ : ByteArray) d = true := by
 rw [above_iff]
 have e : pB (⟨#[]⟩ : ByteArray) = [] := pB_nil rfl
 rw [e]
 refine ⟨List.nil_prefix, ?_⟩
 rw [pB_len, pcs_of h, List.length_nil]
 exact List.length_pos_iff.2 (spl_ne _)
theorem shows_root (p : ByteArray) : showsB [(⟨#[]⟩ : ByteArray)] p = true := by
 unfold showsB
 by_cases h : bs (dirB p) = []
 ·simp [h]
 ·simp [nearB, above_root h]
theorem shows_nil (p : ByteArray) : showsB [] p = decide (bs (dirB p) = []) := by simp [showsB]
theorem valid_root : validB (⟨#[]⟩ : ByteArray) = true := by kernel_rfl
def belowB (d c : ByteArray) : Bool := decide (c = d) || aboveB d c
def wid (d : ByteArray) : Bool → List ByteArray → List ByteArray
 | _, [] => []
 | done, c :: r => if belowB d c = true then (if done = true then wid d true r else d :: wid d true r) else c :: wid d done r
theorem wid_cons (d : ByteArray) (b : Bool) (c : ByteArray) (r : List ByteArray) : wid d b (c :: r) = if belowB d c = true then (if b = true then wid d true r else d :: wid d true r) else c :: wid d b r := by rw [wid]
theorem mem_wid {d y : ByteArray} : ∀ {b : Bool} {r : List ByteArray}, y ∈ wid d b r → y ∈ r ∨ (y = d ∧ b = false ∧ ∃ c ∈ r, belowB d c = true)
 | _, [], h => by simp [wid] at h
 | b, c :: r, h => by
  unfold wid at h
  have lift : ∀ {b'}, y ∈ wid d b' r → y ∈ c :: r ∨ (y = d ∧ b' = false ∧ ∃ z ∈ c :: r, belowB d z = true) := fun h => by
   rcases mem_wid h with h | ⟨e, hb, z, hz, hc⟩
   ·exact .inl (List.mem_cons_of_mem _ h)
   ·exact .inr ⟨e, hb, z, List.mem_cons_of_mem _ hz, hc⟩
  by_cases hc : belowB d c = true
  ·rw [if_pos hc] at h
   cases b with
   | true => rw [if_pos rfl] at h; exact lift h
   | false =>
    rw [if_neg (by simp)] at h
    rcases List.mem_cons.1 h with e | h
    ·exact .inr ⟨e, rfl, c, List.mem_cons_self, hc⟩
    ·rcases lift h with h | ⟨_, hb, _⟩
     ·exact .inl h
     ·cases hb
  ·rw [if_neg hc] at h
   rcases List.mem_cons.1 h with e | h
   ·exact .inl (by rw [e]; exact List.mem_cons_self)
   ·exact lift h
theorem wid_keep {d c : ByteArray} (hc : belowB d c = false) : ∀ {b : Bool} {r : List ByteArray}, c ∈ r → c ∈ wid d b r
 | b, x :: r, h => by
  unfold wid
  by_cases hx : belowB d x = true
  ·rw [if_pos hx]
   have hr : c ∈ r := by
    rcases List.mem_cons.1 h with e | h
    ·rw [← e, hc] at hx; cases hx
    ·exact h
   split
   ·exact wid_keep hc hr
   ·exact List.mem_cons_of_mem _ (wid_keep hc hr)
  ·rw [if_neg hx]
   rcases List.mem_cons.1 h with e | h
   ·rw [e]; exact List.mem_cons_self
   ·exact List.mem_cons_of_mem _ (wid_keep hc h)
theorem wid_dir {d c : ByteArray} (hc : belowB d c = true) : ∀ {r : List ByteArray}, c ∈ r → d ∈ wid d false r
 | x :: r, h => by
  unfold wid
  by_cases hx : belowB d x = true
  ·rw [if_pos hx, if_neg (by simp)]; exact List.mem_cons_self
  ·rw [if_neg hx]
   rcases List.mem_cons.1 h with e | h
   ·rw [← e] at hx; exact absurd hc hx
   ·exact List.mem_cons_of_mem _ (wid_dir hc h)
theorem wid_not {d y : ByteArray} : ∀ {r : List ByteArray}, y ∈ wid d true r → belowB d y = false
 | [], h => by simp [wid] at h
 | c :: r, h => by
  unfold wid at h
  by_cases hc : belowB d c = true
  ·rw [if_pos hc, if_pos rfl] at h; exact wid_not h
  ·rw [if_neg hc] at h
   rcases List.mem_cons.1 h with e | h
   ·rw [e]; simpa using hc
   ·exact wid_not h
theorem below_cases {d c : ByteArray} (h : belowB d c = true) : c = d ∨ aboveB d c = true := by
 simpa [belowB] using h
theorem below_not {d c : ByteArray} (h : belowB d c = false) : c ≠ d ∧ aboveB d c = false := by
 simpa [belowB] using h
theorem wid_apart (d : ByteArray) : ∀ (b : Bool) (r : List ByteArray), r.Pairwise Apart2 → (wid d b r).Pairwise Apart2
 | _, [], _ => by simp [wid]
 | b, c :: r, h => by
  obtain ⟨h1, h2⟩ := List.pairwise_cons.1 h
  unfold wid
  by_cases hc : belowB d c = true
  ·rw [if_pos hc]
   split
   ·exact wid_apart d true r h2
   ·refine List.pairwise_cons.2 ⟨fun z hz => ?_, wid_apart d true r h2⟩
    have hn := below_not (wid_not hz)
    have hzr : z ∈ r := by
     rcases mem_wid hz with h | ⟨_, hb, _⟩
     ·exact h
     ·cases hb
    refine ⟨?_, hn.2⟩
    rcases below_cases hc with e | e
    ·rw [← e]; exact (h1 z hzr).1
    ·exact cB_trans (above_lt e) (h1 z hzr).1
  ·rw [if_neg hc]
   have hn := below_not (by simpa using hc : belowB d c = false)
   refine List.pairwise_cons.2 ⟨fun y hy => ?_, wid_apart d b r h2⟩
   rcases mem_wid hy with h | ⟨rfl, _, z, hz, hb⟩
   ·exact h1 y h
   ·rcases below_cases hb with e | e
    ·rw [← e]; exact h1 z hz
    ·have ha := h1 z hz
     have hlt : cB c y < 0 := by
      have hv := cmpP_val (bs c) (bs y)
      rcases hv with v | v | v
      ·show cmpP (bs c) (bs y) < 0; omega
      ·exact absurd (cB_eq v) hn.1
      ·have : cB y c < 0 := by rw [cB_neg c y]; show - cmpP (bs c) (bs y) < 0; omega
       exact absurd (above_between e this ha.1) (by rw [hn.2]; simp)
     refine ⟨hlt, ?_⟩
     cases q : aboveB c y with
     | false => rfl
     | true => exact absurd (above_trans q e) (by rw [ha.2]; simp)
theorem near_up {d D c : ByteArray} (hb : belowB d c = true) (hn : nearB D c = true) : nearB D d = true := by
 rcases below_cases hb with rfl | e
 ·exact hn
 ·have h3 : c = D ∨ aboveB c D = true ∨ aboveB D c = true := by
   unfold nearB at hn; simpa [or_assoc] using hn
  rcases h3 with rfl | h | h
  ·simp [nearB, e]
  ·simp [nearB, above_trans e h]
  ·have p1 := (above_iff _ _).1 e
   have p2 := (above_iff _ _).1 h
   rcases List.prefix_or_prefix_of_prefix p1.1 p2.1 with q | q
   ·rcases Nat.lt_or_ge (pB d).length (pB D).length with l | l
    ·have : aboveB d D = true := (above_iff _ _).2 ⟨q, l⟩
     simp [nearB, this]
    ·have : d = D := pB_inj (q.eq_of_length (by have := q.length_le; omega))
     simp [nearB, this]
   ·rcases Nat.lt_or_ge (pB D).length (pB d).length with l | l
    ·have : aboveB D d = true := (above_iff _ _).2 ⟨q, l⟩
     simp [nearB, this]
    ·have : d = D := (pB_inj (q.eq_of_length (by have := q.length_le; omega))).symm
     simp [nearB, this]
theorem shows_wid {d p : ByteArray} {k : List ByteArray} (h : showsB k p = true) : showsB (wid d false k) p = true := by
 unfold showsB at h ⊢
 by_cases c : bs (dirB p) = []
 ·simp [c]
 ·simp only [c, decide_false, Bool.false_or, List.any_eq_true] at h ⊢
  obtain ⟨x, hx, hn⟩ := h
  cases e : belowB d x with
  | true => exact ⟨d, wid_dir e hx, near_up e hn⟩
  | false => exact ⟨x, wid_keep e hx, hn⟩
theorem wid_length (d : ByteArray) : ∀ (b : Bool) (r : List ByteArray), (wid d b r).length ≤ r.length
 | _, [] => by simp [wid]
 | b, c :: r => by
  unfold wid
  have h1 := wid_length d true r
  have h2 := wid_length d b r
  split
  ·split
   ·simp only [List.length_cons]; omega
   ·simp only [List.length_cons]; omega
  ·simp only [List.length_cons]; omega
theorem valid_below {k : List ByteArray} (hv : ∀ x ∈ k, validB x = true) {x : ByteArray} (hx : x ∈ k) : ∀ y ∈ wid (dirB x) false k, validB y = true := fun y hy => by
 rcases mem_wid hy with h | ⟨rfl, _, _⟩
 ·exact hv y h
 ·by_cases c : bs (dirB x) = []
  ·have : dirB x = (⟨#[]⟩ : ByteArray) := bs_inj c
   rw [this]; exact valid_root
  ·exact valid_dir x (hv x hx) c
theorem fits_wid {k : List ByteArray} (hf : Fits k) {x : ByteArray} (hx : x ∈ k) (b : Bool) : Fits (wid (dirB x) b k) := fun y hy => by
 rcases mem_wid hy with h | ⟨rfl, _, _⟩
 ·exact hf y h
 ·have := dirB_size x; have := hf x hx; omega
theorem wider_l2 (l : List S48) (c : List ByteArray) (i : Nat) (m : List ByteArray) (v : List S48) (hv : v.length ≤ 1073741824) (hfv : FitsF v) (hfm : Fits m) (hs : ∀ f ∈ v, showsB m f.f0 = true) (next : Ev (fun k => copselaw15_wider.l0 k l c v (wrap64 ((i : Int) + 1))) true) (d : Nat) :
  ∀ j : Nat, v.length - j = d → j ≤ v.length → Ev (fun k => copselaw15_wider.l2 k l c v (i : Int) m (j : Int)) true := by
 induction d with
 | zero =>
  intro j hd hj
  obtain ⟨K, hK⟩ := next
  dsimp only at hK
  refine ⟨K + 1, fun k hk => ?_⟩
  obtain ⟨k, rfl⟩ : ∃ m, k = m + 1 := ⟨k - 1, by omega⟩
  simp only [copselaw15_wider.l2]
  rw [if_neg (by omega)]
  exact hK k (by omega)
 | succ d ih =>
  intro j hd hj
  have hm := rdF_mem v j (by omega)
  obtain ⟨K, hK⟩ := ih (j + 1) (by omega) (by omega)
  obtain ⟨K1, hK1⟩ := shows_ev m (rd_T48 v (j : Int)).f0 hfm (hfv _ hm).1
  rw [hs _ hm] at hK1
  dsimp only at hK hK1
  refine ⟨max K K1 + 1, fun k hk => ?_⟩
  obtain ⟨k, rfl⟩ : ∃ m, k = m + 1 := ⟨k - 1, by omega⟩
  simp only [copselaw15_wider.l2]
  rw [if_pos (by omega), if_pos (by omega), hK1 k (by omega), Option.bind_some, if_pos rfl, wrap_succ (n := v.length) (by omega) (by omega)]
  exact hK k (by omega)
section
variable (l : List S48) (c : List ByteArray) (hl : l.length ≤ 1073741824) (hf : FitsF l) (hcl : c.length ≤ 1073741824) (hfc : Fits c)
include hl hf hcl hfc
theorem wider_l1 (i : Nat) (D : ByteArray) (hD : D.size ≤ 1073741824) (hfw : Fits (wid D false c)) (v : List S48) (hv : v.length ≤ 1073741824) (hfv : FitsF v) (hok : viewV l (wid D false c) = (l.filter (fun f => showsB (wid D false c) f.f0), 0)) (hlen : v.length ≤ (l.filter (fun f => showsB (wid D false c) f.f0)).length)
  (hs : ∀ f ∈ v, showsB (wid D false c) f.f0 = true) (next : Ev (fun k => copselaw15_wider.l0 k l c v (wrap64 ((i : Int) + 1))) true) (d : Nat) :
  ∀ (j : Nat) (acc : List ByteArray) (b : Bool), c.length - j = d → j ≤ c.length → acc.length ≤ j → acc ++ wid D b (c.drop j) = wid D false c → Ev (fun k => copselaw15_wider.l1 k l c v (i : Int) D acc b (j : Int)) true := by
 have HO := Aside0.mk hok
 have HL := Aside0.mk hlen
 clear hok hlen
 induction d with
 | zero =>
  intro j acc b hd hj ha he
  rw [List.drop_of_length_le (by omega)] at he
  simp only [wid, List.append_nil] at he
  subst he
  have hw := wid_length D false c
  obtain ⟨K, hK⟩ := wider_l2 l c i _ v hv hfv hfw hs next v.length 0 (by omega) (by omega)
  obtain ⟨K1, hK1⟩ := view_ev l (wid D false c) hl hf (by omega) hfw
  rw [HO.out] at hK1
  dsimp only at hK hK1
  refine ⟨max K K1 + 2, fun k hk => ?_⟩
  obtain ⟨k, rfl⟩ : ∃ m, k = m + 2 := ⟨k - 2, by omega⟩
  simp only [copselaw15_wider.l1]
  rw [if_neg (by omega), hK1 (k + 1) (by omega), Option.bind_some]
  simp only [copselaw15_num.f, Option.bind_some, if_true]
  rw [decide_eq_false (by have := HL.out; omega)]
  simp only [copselaw15_wider.j3, Bool.false_eq_true, if_false]
  exact hK k (by omega)
 | succ d ih =>
  intro j acc b hd hj ha he
  have hm := rd_mem c j (by omega)
  have hz := hfc _ hm
  rw [rdOf_drop c j (by omega)] at he
  have ew : wrap64 ((j : Int) + 1) = ((j + 1 : Nat) : Int) := wrap_succ (n := c.length) (by omega) (by omega)
  have hj2 : ∀ bl : Bool, belowB D (rdOf ByteArray.empty c (j : Int)) = bl → Ev (fun k => copselaw15_wider.j2 k l c v (i : Int) D acc b (j : Int) bl) true := by
   intro bl hbl
   rw [wid_cons, hbl] at he
   cases bl with
   | true =>
    rw [if_pos rfl] at he
    cases b with
    | true =>
     rw [if_pos rfl] at he
     obtain ⟨K, hK⟩ := ih (j + 1) acc true (by omega) (by omega) (by omega) he
     dsimp only at hK
     refine ⟨K + 1, fun k hk => ?_⟩
     obtain ⟨k, rfl⟩ : ∃ m, k = m + 1 := ⟨k - 1, by omega⟩
     simp only [copselaw15_wider.j2, if_true]
     rw [ew]; exact hK k (by omega)
    | false =>
     rw [if_neg (by simp)] at he
     obtain ⟨K, hK⟩ := ih (j + 1) (acc ++ [D]) true (by omega) (by omega) (by simp; omega) (by rw [List.append_assoc]; exact he)
     dsimp only at hK
     refine ⟨K + 1, fun k hk => ?_⟩
     obtain ⟨k, rfl⟩ : ∃ m, k = m + 1 := ⟨k - 1, by omega⟩
     simp only [copselaw15_wider.j2, if_true, Bool.false_eq_true, if_false]
     rw [if_pos (by omega), ew]; exact hK k (by omega)
   | false =>
    rw [if_neg (by simp)] at he
    obtain ⟨K, hK⟩ := ih (j + 1) (acc ++ [rdOf ByteArray.empty c (j : Int)]) b (by omega) (by omega) (by simp; omega) (by rw [List.append_assoc]; exact he)
    dsimp only at hK
    refine ⟨K + 1, fun k hk => ?_⟩
    obtain ⟨k, rfl⟩ : ∃ m, k = m + 1 := ⟨k - 1, by omega⟩
    simp only [copselaw15_wider.j2, Bool.false_eq_true, if_false]
    rw [if_pos (by omega), if_pos (by omega), if_pos (by omega), ew]; exact hK k (by omega)
  by_cases c0 : rdOf ByteArray.empty c (j : Int) = D
  ·obtain ⟨K, hK⟩ := hj2 true (by simp [belowB, c0])
   dsimp only at hK
   refine ⟨K + 1, fun k hk => ?_⟩
   obtain ⟨k, rfl⟩ : ∃ m, k = m + 1 := ⟨k - 1, by omega⟩
   simp only [copselaw15_wider.l1]
   rw [if_pos (by omega), if_pos (by omega), if_pos (by rw [c0])]
   exact hK k (by omega)
  ·obtain ⟨K, hK⟩ := hj2 (aboveB D (rdOf ByteArray.empty c (j : Int))) (by simp [belowB, c0])
   obtain ⟨K1, hK1⟩ := prog_above D (rdOf ByteArray.empty c (j : Int)) (by omega) (by omega)
   dsimp only at hK hK1
   refine ⟨max K K1 + 1, fun k hk => ?_⟩
   obtain ⟨k, rfl⟩ : ∃ m, k = m + 1 := ⟨k - 1, by omega⟩
   simp only [copselaw15_wider.l1]
   rw [if_pos (by omega), if_pos (by omega), if_neg (fun e => c0 (bs_inj (by rw [← toList_bs, ← toList_bs]; exact e))), hK1 k (by omega), Option.bind_some]
   exact hK k (by omega)
theorem wider_l0 (hsn : snapV l = 0) (hco : coneR none c = true) (d : Nat) : ∀ i : Nat, c.length - i = d → i ≤ c.length → Ev (fun k => copselaw15_wider.l0 k l c (l.filter fun f => showsB c f.f0) (i : Int)) true := by
 induction d with
 | zero =>
  intro i hd hi
  refine ⟨1, fun k hk => ?_⟩
  obtain ⟨k, rfl⟩ : ∃ m, k = m + 1 := ⟨k - 1, by omega⟩
  simp only [copselaw15_wider.l0]
  rw [if_neg (by omega)]
 | succ d ih =>
  intro i hd hi
  have hm := rd_mem c i (by omega)
  have hz := hfc _ hm
  have nx := ih (i + 1) (by omega) (by omega)
  have ew : wrap64 ((i : Int) + 1) = ((i + 1 : Nat) : Int) := wrap_succ (n := c.length) (by omega) (by omega)
  rw [← ew] at nx
  generalize hX : rdOf ByteArray.empty c (i : Int) = x at hm hz
  obtain ⟨cv, ca⟩ := (cone_all c).1 hco
  have hok : viewV l (wid (dirB x) false c) = (l.filter (fun f => showsB (wid (dirB x) false c) f.f0), 0) := by
   unfold viewV
   rw [if_pos hsn, if_pos ((cone_all _).2 ⟨valid_below cv hm, wid_apart _ _ _ ca⟩)]
  have hle : (l.filter fun f => showsB c f.f0).length ≤ l.length := List.length_filter_le _ _
  obtain ⟨K, hK⟩ := wider_l1 l c hl hf hcl hfc i (dirB x) (by have := dirB_size x; omega) (fits_wid hfc hm false) (l.filter fun f => showsB c f.f0) (by omega) (fun f h => hf f (List.mem_filter.1 h).1) hok
   (by rw [← List.countP_eq_length_filter, ← List.countP_eq_length_filter]; exact List.countP_mono_left fun f _ h => shows_wid h)
   (fun f h => shows_wid (List.mem_filter.1 h).2) nx c.length 0 [] false (by omega) (by omega) (by simp) (by simp)
  obtain ⟨K1, hK1⟩ := prog_dir x (by omega)
  dsimp only at hK hK1
  refine ⟨max K K1 + 1, fun k hk => ?_⟩
  obtain ⟨k, rfl⟩ : ∃ m, k = m + 1 := ⟨k - 1, by omega⟩
  simp only [copselaw15_wider.l0]
  rw [if_pos (by omega), if_pos (by omega), hX, hK1 k (by omega), Option.bind_some]
  exact hK k (by omega)
end
theorem views_l0 (l : List S48) (c : List ByteArray) (hl : l.length ≤ 1073741824) (hf : FitsF l) (hfc : Fits c) (hw : Ev (fun k => copselaw15_wider.f k l c (l.filter fun f => showsB c f.f0)) true) (d : Nat) :
  ∀ i n m : Nat, l.length - i = d → i ≤ l.length → n ≤ (l.filter fun f => showsB c f.f0).length → m ≤ (l.filter fun f => showsB [] f.f0).length → (l.filter fun f => showsB c f.f0).drop n = (l.drop i).filter (fun f => showsB c f.f0) → (l.filter fun f => showsB [] f.f0).drop m = (l.drop i).filter (fun f => showsB [] f.f0) →
  Ev (fun k => copselaw15_ConeViews.l0 k l c (l.filter fun f => showsB c f.f0) (l.filter fun f => showsB [] f.f0) (n : Int) (m : Int) (i : Int)) true := by
 have b1 : (l.filter fun f => showsB c f.f0).length ≤ l.length := List.length_filter_le _ _
 have b2 : (l.filter fun f => showsB [] f.f0).length ≤ l.length := List.length_filter_le _ _
 generalize (l.filter fun f => showsB c f.f0) = v at hw b1 ⊢
 generalize (l.filter fun f => showsB [] f.f0) = u at b2 ⊢
 induction d with
 | zero =>
  intro i n m hd hi hn hm en em
  rw [List.drop_of_length_le (l := l) (by omega)] at en em
  have e1 : n = v.length := by have := congrArg List.length en; simp at this; omega
  have e2 : m = u.length := by have := congrArg List.length em; simp at this; omega
  obtain ⟨K, hK⟩ := hw
  dsimp only at hK
  refine ⟨K + 1, fun k hk => ?_⟩
  obtain ⟨k, rfl⟩ : ∃ m, k = m + 1 := ⟨k - 1, by omega⟩
  simp only [copselaw15_ConeViews.l0]
  rw [if_neg (by omega), if_pos (by omega), if_pos (by omega), hK k (by omega)]; rfl
 | succ d ih =>
  intro i n m hd hi hn hm en em
  have hmem := rdF_mem l i (by omega)
  have hz := (hf _ hmem).1
  rw [rdF_drop l i (by omega)] at en em
  generalize hX : rd_T48 l (i : Int) = x at hmem hz en em
  have ew : wrap64 ((i : Int) + 1) = ((i + 1 : Nat) : Int) := wrap_succ (n := l.length) (by omega) (by omega)
  have hj2 : ∀ n' : Nat, n' ≤ v.length → v.drop n' = (l.drop (i + 1)).filter (fun f => showsB c f.f0) → Ev (fun k => copselaw15_ConeViews.j2 k l c v u (n' : Int) (m : Int) (i : Int)) true := by
   intro n' hn' en'
   obtain ⟨K1, hK1⟩ := prog_dir x.f0 (by omega)
   dsimp only at hK1
   by_cases q : bs (dirB x.f0) = []
   ·have em' : u.drop m = x :: (l.drop (i + 1)).filter (fun f => showsB [] f.f0) := by rw [em]; simp [shows_nil, q]
    have hlt : m < u.length := by
     rcases Nat.lt_or_ge m u.length with h | h
     ·exact h
     ·rw [List.drop_of_length_le h] at em'; cases em'
    rw [rdF_drop u m hlt] at em'
    obtain ⟨e3, e4⟩ := List.cons.inj em'
    obtain ⟨K, hK⟩ := ih (i + 1) n' (m + 1) (by omega) (by omega) hn' (by omega) en' e4
    dsimp only at hK
    refine ⟨max K K1 + 1, fun k hk => ?_⟩
    obtain ⟨k, rfl⟩ : ∃ m, k = m + 1 := ⟨k - 1, by omega⟩
    simp only [copselaw15_ConeViews.j2]
    rw [if_pos (by omega), if_pos (by omega), hX, hK1 k (by omega), Option.bind_some, if_pos (by rw [toList_bs]; exact q), if_neg (by omega), if_pos (by omega), if_pos (by omega), e3, fileNe_same, if_neg (by simp), wrap_succ (n := u.length) (by omega) (by omega), ew]
    exact hK k (by omega)
   ·have em' : u.drop m = (l.drop (i + 1)).filter (fun f => showsB [] f.f0) := by rw [em]; simp [shows_nil, q]
    obtain ⟨K, hK⟩ := ih (i + 1) n' m (by omega) (by omega) hn' hm en' em'
    dsimp only at hK
    refine ⟨max K K1 + 1, fun k hk => ?_⟩
    obtain ⟨k, rfl⟩ : ∃ m, k = m + 1 := ⟨k - 1, by omega⟩
    simp only [copselaw15_ConeViews.j2]
    rw [if_pos (by omega), if_pos (by omega), hX, hK1 k (by omega), Option.bind_some, if_neg (by rw [toList_bs]; exact q), ew]
    exact hK k (by omega)
  obtain ⟨K1, hK1⟩ := shows_ev c x.f0 hfc hz
  dsimp only at hK1
  cases q : showsB c x.f0 with
  | true =>
   rw [q] at hK1
   have en' : v.drop n = x :: (l.drop (i + 1)).filter (fun f => showsB c f.f0) := by rw [en]; simp [q]
   have hlt : n < v.length := by
    rcases Nat.lt_or_ge n v.length with h | h
    ·exact h
    ·rw [List.drop_of_length_le h] at en'; cases en'
   rw [rdF_drop v n hlt] at en'
   obtain ⟨e3, e4⟩ := List.cons.inj en'
   obtain ⟨K, hK⟩ := hj2 (n + 1) (by omega) e4
   dsimp only at hK
   refine ⟨max K K1 + 1, fun k hk => ?_⟩
   obtain ⟨k, rfl⟩ : ∃ m, k = m + 1 := ⟨k - 1, by omega⟩
   simp only [copselaw15_ConeViews.l0]
   rw [if_pos (by omega), if_pos (by omega), hX, hK1 k (by omega), Option.bind_some, if_pos rfl, if_neg (by omega), if_pos (by omega), if_pos (by omega), e3, fileNe_same, if_neg (by simp), wrap_succ (n := v.length) (by omega) (by omega)]
   exact hK k (by omega)
  | false =>
   rw [q] at hK1
   have en' : v.drop n = (l.drop (i + 1)).filter (fun f => showsB c f.f0) := by rw [en]; simp [q]
   obtain ⟨K, hK⟩ := hj2 n hn en'
   dsimp only at hK
   refine ⟨max K K1 + 1, fun k hk => ?_⟩
   obtain ⟨k, rfl⟩ : ∃ m, k = m + 1 := ⟨k - 1, by omega⟩
   simp only [copselaw15_ConeViews.l0]
   rw [if_pos (by omega), if_pos (by omega), hX, hK1 k (by omega), Option.bind_some, if_neg (by simp)]
   exact hK k (by omega)
theorem ConeViews (l : List S48) (c : List ByteArray) (hl : l.length ≤ 1073741824) (hcl : c.length ≤ 1073741824) (hf : FitsF l) (hfc : Fits c) : ∃ k, copselaw15_ConeViews.f k l c = some true := by
 refine Ev.rounds (g := fun k => copselaw15_ConeViews.f k l c) ?_
 refine Ev.bind (view_ev l c hl hf hcl hfc) (Ev.bind aliveC_ev ?_)
 simp only [if_true, copselaw15_num.f, Option.bind_some]
 have zero_run : snapV l = 0 → coneR none c = true → viewV l c = (l.filter fun f => showsB c f.f0, 0) := fun h1 h2 => by unfold viewV; rw [if_pos h1, if_pos h2]
 by_cases h1 : snapV l = 0
 ·by_cases h2 : coneR none c = true
  ·rw [zero_run h1 h2]
   simp only [if_true]
   have hsub : (l.filter fun f => showsB c f.f0).Sublist l := List.filter_sublist
   have hfv : FitsF (l.filter fun f => showsB c f.f0) := fun f h => hf f (List.mem_filter.1 h).1
   have hvl := hsub.length_le
   have v1 := view_ev (l.filter fun f => showsB c f.f0) c (by omega) hfv hcl hfc
   rw [show viewV (l.filter fun f => showsB c f.f0) c = (l.filter fun f => showsB c f.f0, 0) by unfold viewV; rw [if_pos (snap_sub h1 hsub), if_pos h2]; simp] at v1
   have v2 := view_ev l [(⟨#[]⟩ : ByteArray)] hl hf (by simp) (fun p hp => by rw [List.mem_singleton.1 hp]; decide)
   rw [show viewV l [(⟨#[]⟩ : ByteArray)] = (l, 0) by
    unfold viewV
    rw [if_pos h1, if_pos ((cone_all _).2 ⟨fun x hx => by rw [List.mem_singleton.1 hx]; exact valid_root, List.pairwise_singleton _ _⟩)]
    simp [shows_root]] at v2
   have v3 := view_ev l [] hl hf (by simp) (fun p hp => absurd hp (by simp))
   rw [show viewV l [] = (l.filter fun f => showsB [] f.f0, 0) by unfold viewV; rw [if_pos h1, if_pos (show coneR none [] = true from rfl)]] at v3
   refine Ev.bind v1 (Ev.bind v2 (Ev.bind v3 ?_))
   simp only [if_true]
   refine Ev.bind (filesC_same _ (by omega)) ?_
   simp only [if_true]
   refine Ev.bind (filesC_same l (by omega)) ?_
   have hw : Ev (fun k => copselaw15_wider.f k l c (l.filter fun f => showsB c f.f0)) true := wider_l0 l c hl hf hcl hfc h1 h2 _ 0 rfl (by omega)
   obtain ⟨K, hK⟩ := views_l0 l c hl hf hfc hw _ 0 0 0 rfl (by omega) (by omega) (by omega) rfl rfl
   dsimp only at hK
   refine ⟨K + 1, fun k hk => ?_⟩
   obtain ⟨k, rfl⟩ : ∃ m, k = m + 1 := ⟨k - 1, by omega⟩
   simp only [copselaw15_ConeViews.j0, Bool.not_true, Bool.false_eq_true, if_false]
   exact hK k (by omega)
  ·have e : viewV l c = ([], 13) := by unfold viewV; rw [if_pos h1, if_neg h2]
   rw [e]
   simp only [show ¬ (13 : Int) = 0 by decide, if_false, List.length_nil, Int.natCast_zero, if_true]
   refine Ev.bind (snap_ev l hl hf) ?_
   rw [h1]
   simp only [show ¬ (0 : Int) = 13 by decide, if_false]
   have hv := coneValid_ev c (by omega) hfc
   rw [if_neg h2] at hv
   exact Ev.val (Ev.bind hv (ev_some _)) (by decide)
 ·have e : viewV l c = ([], snapV l) := by unfold viewV; rw [if_neg h1]
  rw [e]
  simp only [h1, if_false, List.length_nil, Int.natCast_zero, if_true]
  refine Ev.bind (snap_ev l hl hf) ?_
  simp only [if_true]
  exact ev_some _
end Go.Proofs.YtdfkaclflmgkeaaDoor.PAll
