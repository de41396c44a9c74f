/- Snapshots and views: what snap.Valid and cone.View answer, as plain Lean. -/
import Derived.Test.YtdfkaclflmgkeaaDoorCvPAllx0
import Derived.Test.YtdfkaclflmgkeaaDoorCvHandB
import Derived.Test.YtdfkaclflmgkeaaDoorCvPAlly19
import Derived.Test.YtdfkaclflmgkeaaDoorCvPAlly20
import Derived.Test.YtdfkaclflmgkeaaDoorCvPAlly24
import Derived.Test.YtdfkaclflmgkeaaDoorCvPAlly8
import Derived.Test.YtdfkaclflmgkeaaDoorCvPure1
import Derived.Test.YtdfkaclflmgkeaaDoorCvPure2
import Derived.Test.YtdfkaclflmgkeaaDoorCvPure3
import Derived.Test.YtdfkaclflmgkeaaDoorCvPure5
import Derived.Test.YtdfkaclflmgkeaaDoorCvPure7
import Derived.Test.YtdfkaclflmgkeaaDoorCvSpec
namespace Go.Proofs.YtdfkaclflmgkeaaDoor.PAll
open Go.RowKit Go.Proofs.YtdfkaclflmgkeaaDoorW.PrintWords Go.Proofs.YtdfkaclflmgkeaaDoorW.PrintLast Go.Proofs.YtdfkaclflmgkeaaDoorW.PrintMore
open Go.Proofs.YtdfkaclflmgkeaaDoor.Sp
def chainR {α : Type} (ok : α → Bool) (key : α → ByteArray) : Option ByteArray → List α → Bool
 | _, [] => true
 | none, x :: r => ok x && chainR ok key (some (key x)) r
 | some y, x :: r => ok x && (decide (cB y (key x) < 0) && !aboveB y (key x)) && chainR ok key (some (key x)) r
abbrev Apart2 (a b : ByteArray) : Prop := cB a b < 0 ∧ aboveB a b = false
theorem coneR_chain : ∀ (o : Option ByteArray) (l : List ByteArray), coneR o l = chainR validB id o l
 | o, [] => by cases o <;> rfl
 | o, x :: r => by have := coneR_chain (some x) r; cases o <;> simp [coneR, chainR, this]
theorem apart_next {y x z : ByteArray} (h : Apart2 y x) (k : Apart2 x z) : Apart2 y z := by
 refine ⟨cB_trans h.1 k.1, ?_⟩
 cases e : aboveB y z with
 | false => rfl
 | true => exact absurd (above_between e h.1 k.1) (by rw [h.2]; simp)
theorem chain_all {α : Type} (ok : α → Bool) (key : α → ByteArray) : ∀ (l : List α) (o : Option ByteArray), chainR ok key o l = true ↔ (∀ x ∈ l, ok x = true) ∧ l.Pairwise (fun a b => Apart2 (key a) (key b)) ∧ (∀ y, o = some y → ∀ x ∈ l, Apart2 y (key x))
 | [], o => by cases o <;> simp [chainR]
 | x :: r, o => by
  have ih := chain_all ok key r (some (key x))
  have core : ∀ (hx : ok x = true), chainR ok key (some (key x)) r = true ↔ (∀ z ∈ x :: r, ok z = true) ∧ (x :: r).Pairwise (fun a b => Apart2 (key a) (key b)) := fun hx => by
   rw [ih, List.pairwise_cons]
   constructor
   ·rintro ⟨h1, h2, h3⟩
    exact ⟨fun z hz => by rcases List.mem_cons.1 hz with rfl | hz; exact hx; exact h1 z hz, fun z hz => h3 _ rfl z hz, h2⟩
   ·rintro ⟨h1, h2, h3⟩
    exact ⟨fun z hz => h1 z (List.mem_cons_of_mem _ hz), h3, fun y e z hz => by cases e; exact h2 z hz⟩
  cases o with
  | none =>
   simp only [chainR, Bool.and_eq_true]
   constructor
   ·rintro ⟨hx, h⟩
    obtain ⟨h1, h2⟩ := (core hx).1 h
    exact ⟨h1, h2, fun y e => by cases e⟩
   ·rintro ⟨h1, h2, _⟩
    have hx := h1 x List.mem_cons_self
    exact ⟨hx, (core hx).2 ⟨h1, h2⟩⟩
  | some y =>
   simp only [chainR, Bool.and_eq_true, decide_eq_true_eq, Bool.not_eq_true']
   constructor
   ·rintro ⟨⟨hx, hy⟩, h⟩
    obtain ⟨h1, h2⟩ := (core hx).1 h
    refine ⟨h1, h2, fun y' e z hz => ?_⟩
    cases e
    rcases List.mem_cons.1 hz with rfl | hz
    ·exact hy
    ·exact apart_next hy ((List.pairwise_cons.1 h2).1 z hz)
   ·rintro ⟨h1, h2, h3⟩
    have hx := h1 x List.mem_cons_self
    exact ⟨⟨hx, h3 y rfl x List.mem_cons_self⟩, (core hx).2 ⟨h1, h2⟩⟩
theorem cone_all (l : List ByteArray) : coneR none l = true ↔ (∀ x ∈ l, validB x = true) ∧ l.Pairwise Apart2 := by
 rw [coneR_chain, chain_all]
 constructor
 ·rintro ⟨h1, h2, _⟩; exact ⟨h1, h2⟩
 ·rintro ⟨h1, h2⟩; exact ⟨h1, h2, fun y e => by cases e⟩
abbrev FitsF (l : List S48) : Prop := ∀ f ∈ l, f.f0.size ≤ 1073741824 ∧ f.f1.size ≤ 1073741824
theorem rdF_mem (l : List S48) (i : Nat) (h : i < l.length) : rd_T48 l (i : Int) ∈ l := by
 simp only [rd_T48, Int.toNat_natCast, List.getD_eq_getElem?_getD, List.getElem?_eq_getElem h, Option.getD_some]; exact List.getElem_mem _
theorem rdF_drop (l : List S48) (i : Nat) (h : i < l.length) : l.drop i = rd_T48 l (i : Int) :: l.drop (i + 1) := by
 rw [List.drop_eq_getElem_cons h]
 congr 1
 simp [rd_T48, List.getD_eq_getElem?_getD, List.getElem?_eq_getElem h]
def placedB (f : S48) : Bool := !(bs f.f0 == []) && validB f.f0
def baseB (a : ByteArray) : ByteArray := a.extract (lastS (bs a) + 1).toNat a.size
def fileR (f : S48) : Bool := if bs (baseB f.f0) = [84, 65, 82, 71, 69, 84, 83] then decide (f.f2 = 0) && decide (f.f3 = (f.f1.size : Int)) else decide (bs f.f1 = []) && decide (0 ≤ f.f2) && decide (f.f2 ≤ 1152921504606846976) && decide (0 ≤ f.f3) && decide (f.f3 ≤ 4611686018427387904)
theorem prog_base (a : ByteArray) (ha : a.size ≤ 4294967296) : Ev (fun k => path_Base.f k a) (baseB a) := by
 have hb := lastS_bd (bs a)
 rw [bs_size] at hb
 refine Ev.bind (prog_last a ha) (ev_pure fun k => ?_)
 rw [wrap_add (by omega) (by omega), if_pos (by omega), if_pos (by omega)]; rfl
theorem placed_ev (f : S48) (h : f.f0.size ≤ 1073741824) : Ev (fun k => snap_placed.f k f.f0 f.f1 f.f2 f.f3) (placedB f) := by
 unfold snap_placed.f placedB
 simp only [toList_bs]
 by_cases c : bs f.f0 = []
 ·simp only [c, if_true]; exact Ev.val (ev_some false) (by simp)
 ·simp only [if_neg c]; exact Ev.val (Ev.bind (prog_valid f.f0 (by omega)) (ev_some _)) (by simp [c])
theorem file_ev (f : S48) (h : f.f0.size ≤ 1073741824) : Ev (fun k => snap_File.f k f.f0 f.f1 f.f2 f.f3) (if placedB f = true then (if fileR f = true then 0 else 8) else 7) := by
 have hj : ∀ b : Bool, Ev (fun k => snap_File.j0 k b) (if b = true then 8 else 0) := fun b => ⟨1, fun k hk => by
  obtain ⟨k, rfl⟩ : ∃ m, k = m + 1 := ⟨k - 1, by omega⟩
  cases b <;> simp [snap_File.j0]⟩
 unfold snap_File.f fileR
 refine Ev.bind (placed_ev f h) ?_
 cases placedB f with
 | false => simp only [Bool.false_eq_true, if_false]; exact ev_some _
 | true =>
  simp only [if_true]
  refine Ev.bind (prog_base f.f0 (by omega)) ?_
  simp only [toList_bs]
  by_cases c : bs (baseB f.f0) = [84, 65, 82, 71, 69, 84, 83]
  ·simp only [if_pos c]
   by_cases c2 : f.f2 = 0
   ·simp only [if_pos c2]
    refine Ev.val (hj _) ?_
    by_cases c3 : f.f3 = (f.f1.size : Int)
    ·rw [c3]; simp [c2]
    ·have e : (f.f3 != (f.f1.size : Int)) = true := bne_iff_ne.mpr c3
     rw [e]; simp [c3]
   ·simp only [if_neg c2]; exact Ev.val (hj true) (by simp [c2])
  ·simp only [if_neg c]
   by_cases c1 : bs f.f1 = []
   ·simp only [if_pos c1]
    by_cases d1 : f.f2 < 0
    ·simp only [if_pos d1]; exact Ev.val (ev_some 8) (by simp [show ¬ 0 ≤ f.f2 by omega])
    ·simp only [if_neg d1]
     by_cases d2 : f.f2 > 1152921504606846976
     ·simp only [if_pos d2]; exact Ev.val (ev_some 8) (by simp [show ¬ f.f2 ≤ 1152921504606846976 by omega])
     ·simp only [if_neg d2]
      by_cases d3 : f.f3 < 0
      ·simp only [if_pos d3]; exact Ev.val (ev_some 8) (by simp [show ¬ 0 ≤ f.f3 by omega])
      ·simp only [if_neg d3]
       by_cases d4 : f.f3 > 4611686018427387904
       ·simp only [if_pos d4]; exact Ev.val (ev_some 8) (by simp [show ¬ f.f3 ≤ 4611686018427387904 by omega])
       ·simp only [if_neg d4]; exact Ev.val (ev_some 0) (by simp [c1, show 0 ≤ f.f2 by omega, show f.f2 ≤ 1152921504606846976 by omega, show 0 ≤ f.f3 by omega, show f.f3 ≤ 4611686018427387904 by omega])
   ·simp only [if_neg c1]; exact Ev.val (ev_some 8) (by simp [c1])
def snapV (l : List S48) : Int := if l.all placedB = true then (if l.length > 512 then 8 else if chainR fileR S48.f0 none l = true then 0 else 8) else 7
def beforeF (x : List S48) (i : Nat) : Option ByteArray := if i = 0 then none else some (rd_T48 x ((i - 1 : Nat) : Int)).f0
theorem snap_l1 (x : List S48) (hx : x.length ≤ 1073741824) (hf : FitsF x) (hp : x.all placedB = true) (d : Nat) : ∀ i, x.length - i = d → i ≤ x.length → Ev (fun k => snap_Valid.l1 k x x (x.length : Int) (i : Int)) (if chainR fileR S48.f0 (beforeF x i) (x.drop i) = true then 0 else 8) := by
 induction d with
 | zero =>
  intro i hd hi
  refine ⟨1, fun k hk => ?_⟩
  obtain ⟨k, rfl⟩ : ∃ m, k = m + 1 := ⟨k - 1, by omega⟩
  simp only [snap_Valid.l1]
  rw [if_neg (by omega), List.drop_of_length_le (by omega)]
  cases beforeF x i <;> simp [chainR]
 | succ d ih =>
  intro i hd hi
  have hm := rdF_mem x i (by omega)
  have hs := (hf _ hm).1
  obtain ⟨K, hK⟩ := ih (i + 1) (by omega) (by omega)
  obtain ⟨K1, hK1⟩ := file_ev (rd_T48 x (i : Int)) hs
  rw [if_pos (List.all_eq_true.1 hp _ hm)] at hK1
  rw [rdF_drop x i (by omega)]
  have hb : beforeF x (i + 1) = some (rd_T48 x (i : Int)).f0 := by simp [beforeF]
  rw [hb] at hK
  dsimp only at hK hK1
  by_cases h0 : i = 0
  ·subst h0
   refine ⟨max K K1 + 1, fun k hk => ?_⟩
   obtain ⟨k, rfl⟩ : ∃ m, k = m + 1 := ⟨k - 1, by omega⟩
   simp only [snap_Valid.l1]
   rw [if_pos (by omega), if_pos (by omega), if_pos (by omega), hK1 k (by omega), Option.bind_some]
   have h1 := hK k (by omega)
   rw [show beforeF x 0 = none from rfl]
   unfold chainR
   cases fileR (rd_T48 x ((0 : Nat) : Int)) with
   | false => simp
   | true =>
    rw [if_pos rfl, if_pos rfl, if_neg (by omega), wrap_succ (n := x.length) (by omega) (by omega), h1]
    simp
  ·have hs1 := (hf _ (rdF_mem x (i - 1) (by omega))).1
   obtain ⟨K2, hK2⟩ := prog_cmp (rd_T48 x ((i - 1 : Nat) : Int)).f0 (rd_T48 x (i : Int)).f0 (by omega) (by omega)
   obtain ⟨K3, hK3⟩ := prog_above (rd_T48 x ((i - 1 : Nat) : Int)).f0 (rd_T48 x (i : Int)).f0 (by omega) (by omega)
   dsimp only at hK2 hK3
   refine ⟨max K (max K1 (max K2 K3)) + 1, fun k hk => ?_⟩
   obtain ⟨k, rfl⟩ : ∃ m, k = m + 1 := ⟨k - 1, by omega⟩
   have ew : wrap64 ((i : Int) - 1) = ((i - 1 : Nat) : Int) := by rw [wrap_add (by omega) (by omega)]; omega
   simp only [snap_Valid.l1]
   rw [if_pos (by omega), if_pos (by omega), if_pos (by omega), hK1 k (by omega), Option.bind_some, ew]
   have h1 := hK k (by omega)
   rw [show beforeF x i = some (rd_T48 x ((i - 1 : Nat) : Int)).f0 from by simp [beforeF, h0]]
   unfold chainR
   cases fileR (rd_T48 x (i : Int)) with
   | false => simp
   | true =>
    rw [if_pos rfl, if_pos rfl, if_pos (by omega), if_pos (by omega), if_pos (by omega), hK2 k (by omega), Option.bind_some]
    by_cases c1 : cB (rd_T48 x ((i - 1 : Nat) : Int)).f0 (rd_T48 x (i : Int)).f0 < 0
    ·rw [if_neg (by omega), hK3 k (by omega), Option.bind_some]
     cases c2 : aboveB (rd_T48 x ((i - 1 : Nat) : Int)).f0 (rd_T48 x (i : Int)).f0 with
     | true => simp
     | false =>
      rw [if_neg (by simp), wrap_succ (n := x.length) (by omega) (by omega), h1]
      simp [c1]
    ·rw [if_pos (by omega)]
     simp [c1]
theorem snap_l0 (x : List S48) (hx : x.length ≤ 1073741824) (hf : FitsF x) (d : Nat) : ∀ i, x.length - i = d → i ≤ x.length → (∀ f ∈ x.take i, placedB f = true) → Ev (fun k => snap_Valid.l0 k x x (x.length : Int) (i : Int)) (snapV x) := by
 induction d with
 | zero =>
  intro i hd hi hp
  rw [List.take_of_length_le (by omega)] at hp
  have ha : x.all placedB = true := List.all_eq_true.2 hp
  obtain ⟨K, hK⟩ := snap_l1 x hx hf ha x.length 0 (by omega) (by omega)
  dsimp only at hK
  refine ⟨K + 1, fun k hk => ?_⟩
  obtain ⟨k, rfl⟩ : ∃ m, k = m + 1 := ⟨k - 1, by omega⟩
  simp only [snap_Valid.l0]
  unfold snapV
  rw [if_neg (by omega), if_pos ha]
  by_cases c : x.length > 512
  ·rw [if_pos (by omega), if_pos c]
  ·rw [if_neg (by omega), if_neg c]
   have := hK k (by omega)
   rw [show beforeF x 0 = none from rfl, List.drop_zero] at this
   exact this
 | succ d ih =>
  intro i hd hi hp
  have hm := rdF_mem x i (by omega)
  obtain ⟨K1, hK1⟩ := placed_ev (rd_T48 x (i : Int)) (hf _ hm).1
  dsimp only at hK1
  cases c : placedB (rd_T48 x (i : Int)) with
  | false =>
   rw [c] at hK1
   refine ⟨K1 + 1, fun k hk => ?_⟩
   obtain ⟨k, rfl⟩ : ∃ m, k = m + 1 := ⟨k - 1, by omega⟩
   simp only [snap_Valid.l0]
   rw [if_pos (by omega), if_pos (by omega), if_pos (by omega), hK1 k (by omega), Option.bind_some, if_neg (by simp)]
   unfold snapV
   rw [if_neg (fun h => by rw [List.all_eq_true.1 h _ hm] at c; cases c)]
  | true =>
   rw [c] at hK1
   obtain ⟨K, hK⟩ := ih (i + 1) (by omega) (by omega) (fun f h => by
    have e : x.take (i + 1) = x.take i ++ [rd_T48 x (i : Int)] := by
     rw [List.take_add_one]; congr 1
     simp [rd_T48, List.getD_eq_getElem?_getD, List.getElem?_eq_getElem (show i < x.length by omega)]
    rw [e] at h
    rcases List.mem_append.1 h with h | h
    ·exact hp f h
    ·rw [List.mem_singleton.1 h]; exact c)
   dsimp only at hK
   refine ⟨max K K1 + 1, fun k hk => ?_⟩
   obtain ⟨k, rfl⟩ : ∃ m, k = m + 1 := ⟨k - 1, by omega⟩
   simp only [snap_Valid.l0]
   rw [if_pos (by omega), if_pos (by omega), if_pos (by omega), hK1 k (by omega), Option.bind_some, if_pos rfl, wrap_succ (n := x.length) (by omega) (by omega)]
   exact hK k (by omega)
theorem snap_ev (x : List S48) (hx : x.length ≤ 1073741824) (hf : FitsF x) : Ev (fun k => snap_Valid.f k x) (snapV x) := snap_l0 x hx hf _ 0 rfl (by omega) (by simp)
def viewV (l : List S48) (c : List ByteArray) : List S48 × Int := if snapV l = 0 then (if coneR none c = true then (l.filter fun f => showsB c f.f0, 0) else ([], 13)) else ([], snapV l)
theorem view_run (x : List S48) (c : List ByteArray) (hx : x.length ≤ 1073741824) (hf : FitsF x) (hc : Fits c) (d : Nat) : ∀ (i : Nat) (acc : List S48), x.length - i = d → i ≤ x.length → acc.length ≤ i →
  Ev (fun k => cone_View.l0 k c acc x (x.length : Int) (i : Int)) (acc ++ (x.drop i).filter (fun f => showsB c f.f0), 0) := by
 induction d with
 | zero =>
  intro i acc hd hi ha
  refine ⟨1, fun k hk => ?_⟩
  obtain ⟨k, rfl⟩ : ∃ m, k = m + 1 := ⟨k - 1, by omega⟩
  simp only [cone_View.l0]
  rw [if_neg (by omega), List.drop_of_length_le (by omega)]; simp
 | succ d ih =>
  intro i acc hd hi ha
  have hm := rdF_mem x i (by omega)
  obtain ⟨K1, hK1⟩ := shows_ev c (rd_T48 x (i : Int)).f0 hc (hf _ hm).1
  rw [rdF_drop x i (by omega)]
  dsimp only at hK1
  cases e : showsB c (rd_T48 x (i : Int)).f0 with
  | true =>
   rw [e] at hK1
   obtain ⟨K, hK⟩ := ih (i + 1) (acc ++ [rd_T48 x (i : Int)]) (by omega) (by omega) (by simp; omega)
   dsimp only at hK
   refine ⟨max K K1 + 1, fun k hk => ?_⟩
   obtain ⟨k, rfl⟩ : ∃ m, k = m + 1 := ⟨k - 1, by omega⟩
   simp only [cone_View.l0]
   rw [if_pos (by omega), if_pos (by omega), if_pos (by omega), hK1 k (by omega), Option.bind_some, if_pos rfl, if_pos (by omega), wrap_succ (n := x.length) (by omega) (by omega)]
   refine (hK k (by omega)).trans ?_
   simp [e]
  | false =>
   rw [e] at hK1
   obtain ⟨K, hK⟩ := ih (i + 1) acc (by omega) (by omega) (by omega)
   dsimp only at hK
   refine ⟨max K K1 + 1, fun k hk => ?_⟩
   obtain ⟨k, rfl⟩ : ∃ m, k = m + 1 := ⟨k - 1, by omega⟩
   simp only [cone_View.l0]
   rw [if_pos (by omega), if_pos (by omega), if_pos (by omega), hK1 k (by omega), Option.bind_some, if_neg (by simp), wrap_succ (n := x.length) (by omega) (by omega)]
   refine (hK k (by omega)).trans ?_
   simp [e]
theorem view_ev (x : List S48) (c : List ByteArray) (hx : x.length ≤ 1073741824) (hf : FitsF x) (hcl : c.length ≤ 1073741824) (hc : Fits c) : Ev (fun k => cone_View.f k x c) (viewV x c) := by
 refine Ev.bind (snap_ev x hx hf) ?_
 unfold viewV
 by_cases h : snapV x = 0
 ·simp only [h, if_true]
  refine Ev.bind (coneValid_ev c (by omega) hc) ?_
  cases e : coneR none c with
  | true => simp only [if_true]; exact Ev.val (view_run x c hx hf hc _ 0 [] rfl (by omega) (by simp)) (by simp)
  | false => simp only [Bool.false_eq_true, if_false, show ¬ (13 : Int) = 0 by decide]; exact ev_some _
 ·simp only [if_neg h]; exact ev_some _
end Go.Proofs.YtdfkaclflmgkeaaDoor.PAll
