/- Heads: program and document answer alike. -/
import Derived.Test.YtehfogjibhnabaaDoorDfPAllx0
import Derived.Test.YtehfogjibhnabaaDoorDfHandA
import Derived.Test.YtehfogjibhnabaaDoorDfPAlly6
import Derived.Test.YtehfogjibhnabaaDoorDfPAlly1
import Derived.Test.YtehfogjibhnabaaDoorDfPAlly7
import Derived.Test.YtehfogjibhnabaaDoorDfPAlly3
namespace Go.Proofs.YtehfogjibhnabaaDoor.PAll
open Go.RowKit Go.Proofs.YtehfogjibhnabaaDoorW.PrintWords Go.Proofs.YtehfogjibhnabaaDoorW.PrintLast Go.Proofs.YtehfogjibhnabaaDoorW.PrintMore
open Go.Proofs.YtehfogjibhnabaaDoor.Sp
theorem comL_prefix : ∀ l m : List ByteArray, comL l m = l.length ↔ l <+: m
 | [], m => by simp [comL]
 | x :: l, [] => by simp [comL]
 | x :: l, y :: m => by
  by_cases h : x = y
  ·subst h
   rw [comL_same, List.length_cons, List.cons_prefix_cons]
   have := comL_prefix l m
   constructor
   ·intro e; exact ⟨rfl, this.1 (by omega)⟩
   ·rintro ⟨_, e⟩; rw [this.2 e]
  ·rw [comL_diff h, List.cons_prefix_cons]
   simp [h]
theorem above_iff (a b : ByteArray) : aboveB a b = true ↔ pB a <+: pB b ∧ (pB a).length < (pB b).length := by
 unfold aboveB
 rw [Bool.and_eq_true, decide_eq_true_eq, decide_eq_true_eq, comL_prefix, and_comm]
theorem pre_lt : ∀ A B : List Str, A <+: B → A.length < B.length → cmpL A B < 0
 | [], _ :: _, _, _ => by simp [cmpL]
 | _, [], _, h => by simp at h
 | x :: A, y :: B, h, hl => by
  obtain ⟨e, hp⟩ := List.cons_prefix_cons.1 h
  subst e
  simp only [cmpL, if_true]
  exact pre_lt A B hp (by simpa using hl)
theorem pre_between : ∀ A B C : List Str, A <+: B → cmpL A C < 0 → cmpL C B < 0 → A <+: C
 | [], _, _, _, _, _ => List.nil_prefix
 | _ :: _, [], _, h, _, _ => by simp at h
 | _ :: _, _ :: _, [], _, h, _ => by simp [cmpL] at h
 | x :: A, y :: B, z :: C, h, h1, h2 => by
  obtain ⟨e, hp⟩ := List.cons_prefix_cons.1 h
  subst e
  by_cases e : x = z
  ·subst e
   simp only [cmpL, if_true] at h1 h2
   exact List.cons_prefix_cons.2 ⟨rfl, pre_between A B C hp h1 h2⟩
  ·simp only [cmpL, if_neg e, if_neg (Ne.symm e)] at h1 h2
   have := cmpS_neg x z
   omega
theorem pB_map_prefix {a b : ByteArray} : pB a <+: pB b ↔ pcs (bs a) <+: pcs (bs b) := by
 rw [← pB_bs a, ← pB_bs b]
 constructor
 ·rintro ⟨t, h⟩; exact ⟨t.map bs, by rw [← h, List.map_append]⟩
 ·intro h
  have := h.map mk
  rwa [List.map_map, List.map_map, show mk ∘ bs = id from funext mk_bs, List.map_id, List.map_id] at this
theorem pB_len (a : ByteArray) : (pB a).length = (pcs (bs a)).length := by rw [← pB_bs a, List.length_map]
theorem above_lt {a b : ByteArray} (h : aboveB a b = true) : cB a b < 0 := by
 obtain ⟨h1, h2⟩ := (above_iff a b).1 h
 rw [pB_len, pB_len] at h2
 exact pre_lt _ _ (pB_map_prefix.1 h1) h2
theorem above_self (a : ByteArray) : aboveB a a = false := by
 rw [← Bool.not_eq_true]
 intro h; have := above_lt h; rw [cB_self] at this; omega
theorem above_trans {a b c : ByteArray} (h : aboveB a b = true) (k : aboveB b c = true) : aboveB a c = true := by
 rw [above_iff] at *
 exact ⟨h.1.trans k.1, Nat.lt_trans h.2 k.2⟩
theorem above_between {a b c : ByteArray} (h : aboveB a b = true) (h1 : cB a c < 0) (h2 : cB c b < 0) : aboveB a c = true := by
 rw [above_iff] at *
 have hp := pre_between _ _ _ (pB_map_prefix.1 h.1) h1 h2
 refine ⟨pB_map_prefix.2 hp, ?_⟩
 rcases Nat.lt_or_ge (pB a).length (pB c).length with hl | hl
 ·exact hl
 ·exfalso
  rw [pB_len, pB_len] at hl
  have e := hp.eq_of_length_le hl
  have : cB a c = 0 := by show cmpL _ _ = 0; rw [e, cmpL_self]
  omega
def isHead (l : List ByteArray) (x : ByteArray) : Bool := l.all fun y => !aboveB y x
theorem isHead_iff {l : List ByteArray} {x : ByteArray} : isHead l x = true ↔ ∀ y ∈ l, aboveB y x = false := by
 unfold isHead
 rw [List.all_eq_true]
 simp
def stepH (out : List ByteArray) (p : ByteArray) : List ByteArray := if out.length = 0 then out ++ [p] else if aboveB (out.getD (out.length - 1) ByteArray.empty) p = true then out else out ++ [p]
structure HeadsOf (n1 out : List ByteArray) : Prop where
 rises : Rises out
 mem : ∀ p, p ∈ out ↔ p ∈ n1 ∧ isHead n1 p = true
 cover : ∀ y ∈ n1, ∃ h ∈ out, h = y ∨ aboveB h y = true
theorem last_mem {out : List ByteArray} (h : out.length ≠ 0) : out.getD (out.length - 1) ByteArray.empty ∈ out := by
 rw [List.getD_eq_getElem?_getD, List.getElem?_eq_getElem (by omega), Option.getD_some]; exact List.getElem_mem _
theorem le_last {out : List ByteArray} (hr : Rises out) (_h : out.length ≠ 0) {z : ByteArray} (hz : z ∈ out) : z = out.getD (out.length - 1) ByteArray.empty ∨ cB z (out.getD (out.length - 1) ByteArray.empty) < 0 := by
 obtain ⟨i, hi, rfl⟩ := List.getElem_of_mem hz
 rw [List.getD_eq_getElem?_getD, List.getElem?_eq_getElem (by omega), Option.getD_some]
 by_cases e : i = out.length - 1
 ·left; subst e; rfl
 ·right; exact List.pairwise_iff_getElem.1 hr i (out.length - 1) hi (by omega) (by omega)
theorem HeadsOf.step {n1 out : List ByteArray} (h : HeadsOf n1 out) (p : ByteArray) (hp : ∀ y ∈ n1, cB y p < 0) : HeadsOf (n1 ++ [p]) (stepH out p) := by
 have back : ∀ q ∈ n1, (isHead (n1 ++ [p]) q = true ↔ isHead n1 q = true) := fun q hq => by
  rw [isHead_iff, isHead_iff]
  constructor
  ·intro k y hy; exact k y (List.mem_append_left _ hy)
  ·intro k y hy
   rcases List.mem_append.1 hy with hy | hy
   ·exact k y hy
   ·rw [List.mem_singleton.1 hy, ← Bool.not_eq_true]
    intro e; have h1 := above_lt e; have h2 := hp q hq; have := cB_neg p q; omega
 have keep : (∃ y ∈ n1, aboveB y p = true) → out.length ≠ 0 ∧ aboveB (out.getD (out.length - 1) ByteArray.empty) p = true := by
  rintro ⟨y, hy, hyp⟩
  obtain ⟨g, hg, hgy⟩ := h.cover y hy
  have hgp : aboveB g p = true := by
   rcases hgy with rfl | hgy
   ·exact hyp
   ·exact above_trans hgy hyp
  have hne : out.length ≠ 0 := fun e => by rw [List.eq_nil_of_length_eq_zero e] at hg; cases hg
  refine ⟨hne, ?_⟩
  rcases le_last h.rises hne hg with e | hlt
  ·rw [← e]; exact hgp
  ·have hz := (h.mem _).1 (last_mem hne)
   have := above_between hgp hlt (hp _ hz.1)
   have k := isHead_iff.1 hz.2 g ((h.mem g).1 hg).1
   rw [this] at k; cases k
 by_cases c : ∃ y ∈ n1, aboveB y p = true
 ·obtain ⟨h1, h2⟩ := keep c
  have e : stepH out p = out := by unfold stepH; rw [if_neg h1, if_pos h2]
  rw [e]
  refine ⟨h.rises, fun q => ?_, fun y hy => ?_⟩
  ·rw [h.mem]
   constructor
   ·rintro ⟨hq, hh⟩; exact ⟨List.mem_append_left _ hq, (back q hq).2 hh⟩
   ·rintro ⟨hq, hh⟩
    rcases List.mem_append.1 hq with hq | hq
    ·exact ⟨hq, (back q hq).1 hh⟩
    ·rw [List.mem_singleton.1 hq] at hh
     obtain ⟨y, hy, hyp⟩ := c
     have := isHead_iff.1 hh y (List.mem_append_left _ hy)
     rw [hyp] at this; cases this
  ·rcases List.mem_append.1 hy with hy | hy
   ·exact h.cover y hy
   ·rw [List.mem_singleton.1 hy]; exact ⟨_, last_mem h1, .inr h2⟩
 ·have hnot : ∀ y ∈ n1, aboveB y p = false := fun y hy => by rw [← Bool.not_eq_true]; exact fun e => c ⟨y, hy, e⟩
  have e : stepH out p = out ++ [p] := by
   unfold stepH
   by_cases h0 : out.length = 0
   ·rw [if_pos h0]
   ·rw [if_neg h0, if_neg (by rw [hnot _ ((h.mem _).1 (last_mem h0)).1]; decide)]
  rw [e]
  refine ⟨List.pairwise_append.2 ⟨h.rises, List.pairwise_singleton _ _, fun a ha b hb => by rw [List.mem_singleton.1 hb]; exact hp a ((h.mem a).1 ha).1⟩, fun q => ?_, fun y hy => ?_⟩
  ·rw [List.mem_append, List.mem_append, h.mem, List.mem_singleton]
   constructor
   ·rintro (⟨hq, hh⟩ | rfl)
    ·exact ⟨.inl hq, (back q hq).2 hh⟩
    ·refine ⟨.inr rfl, isHead_iff.2 fun y hy => ?_⟩
     rcases List.mem_append.1 hy with hy | hy
     ·exact hnot y hy
     ·rw [List.mem_singleton.1 hy]; exact above_self q
   ·rintro ⟨hq | rfl, hh⟩
    ·exact .inl ⟨hq, (back q hq).1 hh⟩
    ·exact .inr rfl
  ·rcases List.mem_append.1 hy with hy | hy
   ·obtain ⟨g, hg, hgy⟩ := h.cover y hy
    exact ⟨g, List.mem_append_left _ hg, hgy⟩
   ·exact ⟨p, by simp, .inl (List.mem_singleton.1 hy).symm⟩
end Go.Proofs.YtehfogjibhnabaaDoor.PAll
namespace Go.Proofs.YtehfogjibhnabaaDoor.PAll
open Go.RowKit Go.Proofs.YtehfogjibhnabaaDoorW.PrintWords Go.Proofs.YtehfogjibhnabaaDoorW.PrintLast Go.Proofs.YtehfogjibhnabaaDoorW.PrintMore
open Go.Proofs.YtehfogjibhnabaaDoor.Sp
def chainR {α : Type} (ok : α → Bool) (key : α → ByteArray) : Option ByteArray → List α → Bool
 | _, [] => true
 | none, x :: r => ok x && chainR ok key (some (key x)) r
 | some y, x :: r => ok x && (decide (cB y (key x) < 0) && !aboveB y (key x)) && chainR ok key (some (key x)) r
abbrev Apart2 (a b : ByteArray) : Prop := cB a b < 0 ∧ aboveB a b = false
theorem apart_next {y x z : ByteArray} (h : Apart2 y x) (k : Apart2 x z) : Apart2 y z := by
 refine ⟨cB_trans h.1 k.1, ?_⟩
 cases e : aboveB y z with
 | false => rfl
 | true => exact absurd (above_between e h.1 k.1) (by rw [h.2]; simp)
theorem chain_all {α : Type} (ok : α → Bool) (key : α → ByteArray) : ∀ (l : List α) (o : Option ByteArray), chainR ok key o l = true ↔ (∀ x ∈ l, ok x = true) ∧ l.Pairwise (fun a b => Apart2 (key a) (key b)) ∧ (∀ y, o = some y → ∀ x ∈ l, Apart2 y (key x))
 | [], o => by cases o <;> simp [chainR]
 | x :: r, o => by
  have ih := chain_all ok key r (some (key x))
  have core : ∀ (hx : ok x = true), chainR ok key (some (key x)) r = true ↔ (∀ z ∈ x :: r, ok z = true) ∧ (x :: r).Pairwise (fun a b => Apart2 (key a) (key b)) := fun hx => by
   rw [ih, List.pairwise_cons]
   constructor
   ·rintro ⟨h1, h2, h3⟩
    exact ⟨fun z hz => by rcases List.mem_cons.1 hz with rfl | hz; exact hx; exact h1 z hz, fun z hz => h3 _ rfl z hz, h2⟩
   ·rintro ⟨h1, h2, h3⟩
    exact ⟨fun z hz => h1 z (List.mem_cons_of_mem _ hz), h3, fun y e z hz => by cases e; exact h2 z hz⟩
  cases o with
  | none =>
   simp only [chainR, Bool.and_eq_true]
   constructor
   ·rintro ⟨hx, h⟩
    obtain ⟨h1, h2⟩ := (core hx).1 h
    exact ⟨h1, h2, fun y e => by cases e⟩
   ·rintro ⟨h1, h2, _⟩
    have hx := h1 x List.mem_cons_self
    exact ⟨hx, (core hx).2 ⟨h1, h2⟩⟩
  | some y =>
   simp only [chainR, Bool.and_eq_true, decide_eq_true_eq, Bool.not_eq_true']
   constructor
   ·rintro ⟨⟨hx, hy⟩, h⟩
    obtain ⟨h1, h2⟩ := (core hx).1 h
    refine ⟨h1, h2, fun y' e z hz => ?_⟩
    cases e
    rcases List.mem_cons.1 hz with rfl | hz
    ·exact hy
    ·exact apart_next hy ((List.pairwise_cons.1 h2).1 z hz)
   ·rintro ⟨h1, h2, h3⟩
    have hx := h1 x List.mem_cons_self
    exact ⟨⟨hx, h3 y rfl x List.mem_cons_self⟩, (core hx).2 ⟨h1, h2⟩⟩
abbrev FitsF (l : List S55) : Prop := ∀ f ∈ l, f.f0.size ≤ 1073741824 ∧ f.f1.size ≤ 1073741824
theorem rdF_mem (l : List S55) (i : Nat) (h : i < l.length) : rd_T55 l (i : Int) ∈ l := by
 simp only [rd_T55, Int.toNat_natCast, List.getD_eq_getElem?_getD, List.getElem?_eq_getElem h, Option.getD_some]; exact List.getElem_mem _
theorem rdF_drop (l : List S55) (i : Nat) (h : i < l.length) : l.drop i = rd_T55 l (i : Int) :: l.drop (i + 1) := by
 rw [List.drop_eq_getElem_cons h]
 congr 1
 simp [rd_T55, List.getD_eq_getElem?_getD, List.getElem?_eq_getElem h]
def placedB (f : S55) : Bool := !(bs f.f0 == []) && validB f.f0
def baseB (a : ByteArray) : ByteArray := a.extract (lastS (bs a) + 1).toNat a.size
def fileR (f : S55) : Bool := if bs (baseB f.f0) = [84, 65, 82, 71, 69, 84, 83] then decide (f.f2 = 0) && decide (f.f3 = (f.f1.size : Int)) else decide (bs f.f1 = []) && decide (0 ≤ f.f2) && decide (f.f2 ≤ 1152921504606846976) && decide (0 ≤ f.f3) && decide (f.f3 ≤ 4611686018427387904)
theorem prog_base (a : ByteArray) (ha : a.size ≤ 4294967296) : Ev (fun k => path_Base.f k a) (baseB a) := by
 have hb := lastS_bd (bs a)
 rw [bs_size] at hb
 refine Ev.bind (prog_last a ha) (ev_pure fun k => ?_)
 rw [wrap_add (by omega) (by omega), if_pos (by omega), if_pos (by omega)]; rfl
theorem placed_ev (f : S55) (h : f.f0.size ≤ 1073741824) : Ev (fun k => snap_placed.f k f.f0 f.f1 f.f2 f.f3) (placedB f) := by
 unfold snap_placed.f placedB
 simp only [toList_bs]
 by_cases c : bs f.f0 = []
 ·simp only [c, if_true]; exact Ev.val (ev_some false) (by simp)
 ·simp only [if_neg c]; exact Ev.val (Ev.bind (prog_valid f.f0 (by omega)) (ev_some _)) (by simp [c])
theorem file_ev (f : S55) (h : f.f0.size ≤ 1073741824) : Ev (fun k => snap_File.f k f.f0 f.f1 f.f2 f.f3) (if placedB f = true then (if fileR f = true then 0 else 8) else 7) := by
 have hj : ∀ b : Bool, Ev (fun k => snap_File.j0 k b) (if b = true then 8 else 0) := fun b => ⟨1, fun k hk => by
  obtain ⟨k, rfl⟩ : ∃ m, k = m + 1 := ⟨k - 1, by omega⟩
  cases b <;> simp [snap_File.j0]⟩
 unfold snap_File.f fileR
 refine Ev.bind (placed_ev f h) ?_
 cases placedB f with
 | false => simp only [Bool.false_eq_true, if_false]; exact ev_some _
 | true =>
  simp only [if_true]
  refine Ev.bind (prog_base f.f0 (by omega)) ?_
  simp only [toList_bs]
  by_cases c : bs (baseB f.f0) = [84, 65, 82, 71, 69, 84, 83]
  ·simp only [if_pos c]
   by_cases c2 : f.f2 = 0
   ·simp only [if_pos c2]
    refine Ev.val (hj _) ?_
    by_cases c3 : f.f3 = (f.f1.size : Int)
    ·rw [c3]; simp [c2]
    ·have e : (f.f3 != (f.f1.size : Int)) = true := bne_iff_ne.mpr c3
     rw [e]; simp [c3]
   ·simp only [if_neg c2]; exact Ev.val (hj true) (by simp [c2])
  ·simp only [if_neg c]
   by_cases c1 : bs f.f1 = []
   ·simp only [if_pos c1]
    by_cases d1 : f.f2 < 0
    ·simp only [if_pos d1]; exact Ev.val (ev_some 8) (by simp [show ¬ 0 ≤ f.f2 by omega])
    ·simp only [if_neg d1]
     by_cases d2 : f.f2 > 1152921504606846976
     ·simp only [if_pos d2]; exact Ev.val (ev_some 8) (by simp [show ¬ f.f2 ≤ 1152921504606846976 by omega])
     ·simp only [if_neg d2]
      by_cases d3 : f.f3 < 0
      ·simp only [if_pos d3]; exact Ev.val (ev_some 8) (by simp [show ¬ 0 ≤ f.f3 by omega])
      ·simp only [if_neg d3]
       by_cases d4 : f.f3 > 4611686018427387904
       ·simp only [if_pos d4]; exact Ev.val (ev_some 8) (by simp [show ¬ f.f3 ≤ 4611686018427387904 by omega])
       ·simp only [if_neg d4]; exact Ev.val (ev_some 0) (by simp [c1, show 0 ≤ f.f2 by omega, show f.f2 ≤ 1152921504606846976 by omega, show 0 ≤ f.f3 by omega, show f.f3 ≤ 4611686018427387904 by omega])
   ·simp only [if_neg c1]; exact Ev.val (ev_some 8) (by simp [c1])
def snapV (l : List S55) : Int := if l.all placedB = true then (if l.length > 512 then 8 else if chainR fileR S55.f0 none l = true then 0 else 8) else 7
def beforeF (x : List S55) (i : Nat) : Option ByteArray := if i = 0 then none else some (rd_T55 x ((i - 1 : Nat) : Int)).f0
theorem snap_l1 (x : List S55) (hx : x.length ≤ 1073741824) (hf : FitsF x) (hp : x.all placedB = true) (d : Nat) : ∀ i, x.length - i = d → i ≤ x.length → Ev (fun k => snap_Valid.l1 k x x (x.length : Int) (i : Int)) (if chainR fileR S55.f0 (beforeF x i) (x.drop i) = true then 0 else 8) := by
 induction d with
 | zero =>
  intro i hd hi
  refine ⟨1, fun k hk => ?_⟩
  obtain ⟨k, rfl⟩ : ∃ m, k = m + 1 := ⟨k - 1, by omega⟩
  simp only [snap_Valid.l1]
  rw [if_neg (by omega), List.drop_of_length_le (by omega)]
  cases beforeF x i <;> simp [chainR]
 | succ d ih =>
  intro i hd hi
  have hm := rdF_mem x i (by omega)
  have hs := (hf _ hm).1
  obtain ⟨K, hK⟩ := ih (i + 1) (by omega) (by omega)
  obtain ⟨K1, hK1⟩ := file_ev (rd_T55 x (i : Int)) hs
  rw [if_pos (List.all_eq_true.1 hp _ hm)] at hK1
  rw [rdF_drop x i (by omega)]
  have hb : beforeF x (i + 1) = some (rd_T55 x (i : Int)).f0 := by simp [beforeF]
  rw [hb] at hK
  dsimp only at hK hK1
  by_cases h0 : i = 0
  ·subst h0
   refine ⟨max K K1 + 1, fun k hk => ?_⟩
   obtain ⟨k, rfl⟩ : ∃ m, k = m + 1 := ⟨k - 1, by omega⟩
   simp only [snap_Valid.l1]
   rw [if_pos (by omega), if_pos (by omega), if_pos (by omega), hK1 k (by omega), Option.bind_some]
   have h1 := hK k (by omega)
   rw [show beforeF x 0 = none from rfl]
   unfold chainR
   cases fileR (rd_T55 x ((0 : Nat) : Int)) with
   | false => simp
   | true =>
    rw [if_pos rfl, if_pos rfl, if_neg (by omega), wrap_succ (n := x.length) (by omega) (by omega), h1]
    simp
  ·have hs1 := (hf _ (rdF_mem x (i - 1) (by omega))).1
   obtain ⟨K2, hK2⟩ := prog_cmp (rd_T55 x ((i - 1 : Nat) : Int)).f0 (rd_T55 x (i : Int)).f0 (by omega) (by omega)
   obtain ⟨K3, hK3⟩ := prog_above (rd_T55 x ((i - 1 : Nat) : Int)).f0 (rd_T55 x (i : Int)).f0 (by omega) (by omega)
   dsimp only at hK2 hK3
   refine ⟨max K (max K1 (max K2 K3)) + 1, fun k hk => ?_⟩
   obtain ⟨k, rfl⟩ : ∃ m, k = m + 1 := ⟨k - 1, by omega⟩
   have ew : wrap64 ((i : Int) - 1) = ((i - 1 : Nat) : Int) := by rw [wrap_add (by omega) (by omega)]; omega
   simp only [snap_Valid.l1]
   rw [if_pos (by omega), if_pos (by omega), if_pos (by omega), hK1 k (by omega), Option.bind_some, ew]
   have h1 := hK k (by omega)
   rw [show beforeF x i = some (rd_T55 x ((i - 1 : Nat) : Int)).f0 from by simp [beforeF, h0]]
   unfold chainR
   cases fileR (rd_T55 x (i : Int)) with
   | false => simp
   | true =>
    rw [if_pos rfl, if_pos rfl, if_pos (by omega), if_pos (by omega), if_pos (by omega), hK2 k (by omega), Option.bind_some]
    by_cases c1 : cB (rd_T55 x ((i - 1 : Nat) : Int)).f0 (rd_T55 x (i : Int)).f0 < 0
    ·rw [if_neg (by omega), hK3 k (by omega), Option.bind_some]
     cases c2 : aboveB (rd_T55 x ((i - 1 : Nat) : Int)).f0 (rd_T55 x (i : Int)).f0 with
     | true => simp
     | false =>
      rw [if_neg (by simp), wrap_succ (n := x.length) (by omega) (by omega), h1]
      simp [c1]
    ·rw [if_pos (by omega)]
     simp [c1]
theorem snap_l0 (x : List S55) (hx : x.length ≤ 1073741824) (hf : FitsF x) (d : Nat) : ∀ i, x.length - i = d → i ≤ x.length → (∀ f ∈ x.take i, placedB f = true) → Ev (fun k => snap_Valid.l0 k x x (x.length : Int) (i : Int)) (snapV x) := by
 induction d with
 | zero =>
  intro i hd hi hp
  rw [List.take_of_length_le (by omega)] at hp
  have ha : x.all placedB = true := List.all_eq_true.2 hp
  obtain ⟨K, hK⟩ := snap_l1 x hx hf ha x.length 0 (by omega) (by omega)
  dsimp only at hK
  refine ⟨K + 1, fun k hk => ?_⟩
  obtain ⟨k, rfl⟩ : ∃ m, k = m + 1 := ⟨k - 1, by omega⟩
  simp only [snap_Valid.l0]
  unfold snapV
  rw [if_neg (by omega), if_pos ha]
  by_cases c : x.length > 512
  ·rw [if_pos (by omega), if_pos c]
  ·rw [if_neg (by omega), if_neg c]
   have := hK k (by omega)
   rw [show beforeF x 0 = none from rfl, List.drop_zero] at this
   exact this
 | succ d ih =>
  intro i hd hi hp
  have hm := rdF_mem x i (by omega)
  obtain ⟨K1, hK1⟩ := placed_ev (rd_T55 x (i : Int)) (hf _ hm).1
  dsimp only at hK1
  cases c : placedB (rd_T55 x (i : Int)) with
  | false =>
   rw [c] at hK1
   refine ⟨K1 + 1, fun k hk => ?_⟩
   obtain ⟨k, rfl⟩ : ∃ m, k = m + 1 := ⟨k - 1, by omega⟩
   simp only [snap_Valid.l0]
   rw [if_pos (by omega), if_pos (by omega), if_pos (by omega), hK1 k (by omega), Option.bind_some, if_neg (by simp)]
   unfold snapV
   rw [if_neg (fun h => by rw [List.all_eq_true.1 h _ hm] at c; cases c)]
  | true =>
   rw [c] at hK1
   obtain ⟨K, hK⟩ := ih (i + 1) (by omega) (by omega) (fun f h => by
    have e : x.take (i + 1) = x.take i ++ [rd_T55 x (i : Int)] := by
     rw [List.take_add_one]; congr 1
     simp [rd_T55, List.getD_eq_getElem?_getD, List.getElem?_eq_getElem (show i < x.length by omega)]
    rw [e] at h
    rcases List.mem_append.1 h with h | h
    ·exact hp f h
    ·rw [List.mem_singleton.1 h]; exact c)
   dsimp only at hK
   refine ⟨max K K1 + 1, fun k hk => ?_⟩
   obtain ⟨k, rfl⟩ : ∃ m, k = m + 1 := ⟨k - 1, by omega⟩
   simp only [snap_Valid.l0]
   rw [if_pos (by omega), if_pos (by omega), if_pos (by omega), hK1 k (by omega), Option.bind_some, if_pos rfl, wrap_succ (n := x.length) (by omega) (by omega)]
   exact hK k (by omega)
theorem snap_ev (x : List S55) (hx : x.length ≤ 1073741824) (hf : FitsF x) : Ev (fun k => snap_Valid.f k x) (snapV x) := snap_l0 x hx hf _ 0 rfl (by omega) (by simp)
end Go.Proofs.YtehfogjibhnabaaDoor.PAll
namespace Go.Proofs.YtehfogjibhnabaaDoor.PAll
open Go.RowKit Go.Proofs.YtehfogjibhnabaaDoorW.PrintWords Go.Proofs.YtehfogjibhnabaaDoorW.PrintLast Go.Proofs.YtehfogjibhnabaaDoorW.PrintMore
open Go.Proofs.YtehfogjibhnabaaDoor.Sp
def eqF (x y : S55) : Bool := x.f0.toList == y.f0.toList && (x.f1.toList == y.f1.toList && (x.f2 == y.f2 && (x.f3 == y.f3)))
theorem eqF_iff {x y : S55} : eqF x y = true ↔ x = y := by
 unfold eqF
 simp only [Bool.and_eq_true, beq_iff_eq, toList_bs]
 constructor
 ·rintro ⟨h0, h1, h2, h3⟩
  cases x
  cases y
  simp only at h0 h1 h2 h3
  rw [bs_inj h0, bs_inj h1, h2, h3]
 ·rintro rfl
  exact ⟨rfl, rfl, rfl, rfl⟩
theorem eqF_self (x : S55) : eqF x x = true := eqF_iff.2 rfl
theorem eqF_ne {x y : S55} (h : x ≠ y) : eqF x y = false := by
 cases e : eqF x y with
 | false => rfl
 | true => exact absurd (eqF_iff.1 e) h
def outerC (x y : S61) : S61 := ⟨x.f0, x.f1, y.f2, x.f3, y.f4⟩
def idleC (c : S61) : Bool := if c.f1 = true then (if c.f2 = true then eqF c.f3 c.f4 else false) else (if c.f2 = true then false else true)
def halfB (p : ByteArray) (is : Bool) (f : S55) : Bool := if is = true then (f.f0.toList == p.toList) else eqF f z55
def mayB (c : S61) : Bool := validB c.f0 && !(bs c.f0 == []) && (c.f1 || c.f2) && halfB c.f0 c.f1 c.f3 && halfB c.f0 c.f2 c.f4 && !(c.f1 && c.f2 && eqF c.f3 c.f4)
structure DeltaP (d : List S61) : Prop where
 may : ∀ c ∈ d, mayB c = true
 rises : RisesK S61.f0 d
def turnC (c : S61) : S61 := ⟨c.f0, c.f2, c.f1, c.f4, c.f3⟩
def delta_Invert.f (d : List S61) : Option (List S61) := if d.length ≤ 4194304 then some (d.map turnC) else none
def comeC (f : S55) : S61 := ⟨f.f0, false, true, z55, f⟩
def goneC (f : S55) : S61 := ⟨f.f0, true, false, f, z55⟩
def offB (a : List S55) (c : S61) : Bool := match atK S55.f0 a c.f0 with
 | none => c.f1 || !eqF z55 c.f3
 | some x => !c.f1 || !eqF x c.f3
def overC (x y : S61) : S61 := ⟨x.f0, y.f1, y.f2, y.f3, y.f4⟩
def goesC (c : S61) : Bool := !c.f2
def applyL (a : List S55) (d : List S61) : List S55 := (joinK S61.f0 goesC overC (a.length + d.length) (a.map comeC) d).map S61.f4
def risesB : Option ByteArray → List S61 → Bool
 | _, [] => true
 | none, x :: r => risesB (some x.f0) r
 | some y, x :: r => decide (cB y x.f0 < 0) && risesB (some x.f0) r
def validD (d : List S61) : Bool := d.all mayB && risesB none d
def applyV (a : List S55) (d : List S61) : List S55 × Int :=
 if snapV a = 0 then (if validD d = true then (if d.any (offB a) = true then ([], 9) else (if snapV (applyL a d) = 0 then (applyL a d, 0) else ([], 9))) else ([], 9)) else ([], snapV a)
abbrev FitsD (l : List S61) : Prop := ∀ c ∈ l, c.f0.size ≤ 1073741824 ∧ (c.f3.f0.size ≤ 1073741824 ∧ c.f3.f1.size ≤ 1073741824) ∧ c.f4.f0.size ≤ 1073741824 ∧ c.f4.f1.size ≤ 1073741824
def delta_Apply.f (a : List S55) (d : List S61) : Option (List S55 × Int) := if (a.length ≤ 1048576 ∧ d.length ≤ 4194304) ∧ FitsF a ∧ FitsD d then some (applyV a d) else none
end Go.Proofs.YtehfogjibhnabaaDoor.PAll
namespace Go.Proofs.YtehfogjibhnabaaDoor.PAll
open Go.RowKit Go.Proofs.YtehfogjibhnabaaDoorW.PrintWords Go.Proofs.YtehfogjibhnabaaDoorW.PrintLast Go.Proofs.YtehfogjibhnabaaDoorW.PrintMore
attribute [local go_sem] max2_int min2_int max_two min_two max_three min_three max_four min_four
set_option linter.unusedVariables false
set_option linter.unusedSimpArgs false
attribute [local go_sem high] eqA55
def delta_may.j0 : Nat → Bool → ByteArray → Bool → Bool → ByteArray → ByteArray → Int → Int → ByteArray → ByteArray → Int → Int → Option (Bool)
 | 0, _, _, _, _, _, _, _, _, _, _, _, _ => none
 | k + 1, x21, x233000, x233001, x233002, x233003, x233004, x233005, x233006, x233007, x233008, x233009, x233010 => if x21 = true then (some false) else ((delta_half.f x233000 x233001 x233003 x233004 x233005 x233006).bind fun t234 => (if t234 = true then ((delta_half.f x233000 x233002 x233007 x233008 x233009 x233010).bind fun t235 => (if t235 = true then (if x233001 = true then (if x233002 = true then (some (!(x233003.toList == x233007.toList && (x233004.toList == x233008.toList && (x233005 == x233009 && (x233006 == x233010)))))) else (some (!false))) else (some (!false))) else (some false))) else (some false)))
def delta_may.f (k : Nat) (a0_0 : ByteArray) (a0_1 : Bool) (a0_2 : Bool) (a0_3 : ByteArray) (a0_4 : ByteArray) (a0_5 : Int) (a0_6 : Int) (a0_7 : ByteArray) (a0_8 : ByteArray) (a0_9 : Int) (a0_10 : Int) : Option (Bool) := (path_Valid.f k a0_0).bind fun t233 => (if t233 = true then (if a0_0.toList = ([] : List UInt8) then (delta_may.j0 k true a0_0 a0_1 a0_2 a0_3 a0_4 a0_5 a0_6 a0_7 a0_8 a0_9 a0_10) else (if a0_1 = true then (delta_may.j0 k false a0_0 a0_1 a0_2 a0_3 a0_4 a0_5 a0_6 a0_7 a0_8 a0_9 a0_10) else (delta_may.j0 k (!a0_2) a0_0 a0_1 a0_2 a0_3 a0_4 a0_5 a0_6 a0_7 a0_8 a0_9 a0_10))) else (delta_may.j0 k true a0_0 a0_1 a0_2 a0_3 a0_4 a0_5 a0_6 a0_7 a0_8 a0_9 a0_10))
theorem delta_may.mono_l : ∀ k, (∀ y0 y1 y2 y3 y4 y5 y6 y7 y8 y9 y10 y11, LeO (delta_may.j0 k y0 y1 y2 y3 y4 y5 y6 y7 y8 y9 y10 y11) (delta_may.j0 (k + 1) y0 y1 y2 y3 y4 y5 y6 y7 y8 y9 y10 y11))
 | 0 => fun _ _ _ _ _ _ _ _ _ _ _ _ r h => by simp [delta_may.j0] at h
 | k + 1 => by
  have ih0 := delta_may.mono_l k
  ·intro y0 y1 y2 y3 y4 y5 y6 y7 y8 y9 y10 y11
   unfold delta_may.j0
   repeat' first
   | (with_reducible exact ih0 _ _ _ _ _ _ _ _ _ _ _ _)
   | (with_reducible exact path_Valid.mono _ _)
   | (with_reducible exact LeO.refl _)
   | (with_reducible exact LeO.none _)
   | (with_reducible refine LeO.ite ?_ ?_)
   | (with_reducible refine LeO.bind ?_ (fun _ => ?_))
   | exact ih0 _ _ _ _ _ _ _ _ _ _ _ _
   | exact path_Valid.mono _ _
   | exact LeO.none _
   | refine LeO.ite ?_ ?_
   | refine LeO.bind ?_ (fun _ => ?_)
theorem delta_may.mono : ∀ a0 a1 a2 a3 a4 a5 a6 a7 a8 a9 a10 k, LeO (delta_may.f k a0 a1 a2 a3 a4 a5 a6 a7 a8 a9 a10) (delta_may.f (k + 1) a0 a1 a2 a3 a4 a5 a6 a7 a8 a9 a10) := by
 intro a0 a1 a2 a3 a4 a5 a6 a7 a8 a9 a10 k
 have ih0 := delta_may.mono_l k
 unfold delta_may.f
 repeat' first
   | (with_reducible exact ih0 _ _ _ _ _ _ _ _ _ _ _ _)
   | (with_reducible exact path_Valid.mono _ _)
   | (with_reducible exact LeO.refl _)
   | (with_reducible exact LeO.none _)
   | (with_reducible refine LeO.ite ?_ ?_)
   | (with_reducible refine LeO.bind ?_ (fun _ => ?_))
   | exact ih0 _ _ _ _ _ _ _ _ _ _ _ _
   | exact path_Valid.mono _ _
   | exact LeO.none _
   | refine LeO.ite ?_ ?_
   | refine LeO.bind ?_ (fun _ => ?_)
set_option maxHeartbeats 8000000 in
set_option maxRecDepth 100000 in
theorem delta_may.calls (k : Nat) (a0_0 : ByteArray) (a0_1 : Bool) (a0_2 : Bool) (a0_3 : ByteArray) (a0_4 : ByteArray) (a0_5 : Int) (a0_6 : Int) (a0_7 : ByteArray) (a0_8 : ByteArray) (a0_9 : Int) (a0_10 : Int) (r : Bool) (w : World) (h : delta_may.f k a0_0 a0_1 a0_2 a0_3 a0_4 a0_5 a0_6 a0_7 a0_8 a0_9 a0_10 = some r) :
  Calls Tryd.prog 60 #[.agg #[.string a0_0, .bool a0_1, .bool a0_2, .string a0_3, .string a0_4, .int .i64 a0_5, .int .i64 a0_6, .string a0_7, .string a0_8, .int .i64 a0_9, .int .i64 a0_10]] w fun e w' => e = .returned (.bool r) ∧ Below w.heap.size w w' := by
 have hu61 := Tryd.underlying61
 have hu55 := Tryd.underlying55
 have HB := Aside0.mk (Below.refl w.heap.size w)
 have H : ((path_Valid.f k a0_0).bind fun t233 => (if t233 = true then (if a0_0.toList = ([] : List UInt8) then (delta_may.j0 k true a0_0 a0_1 a0_2 a0_3 a0_4 a0_5 a0_6 a0_7 a0_8 a0_9 a0_10) else (if a0_1 = true then (delta_may.j0 k false a0_0 a0_1 a0_2 a0_3 a0_4 a0_5 a0_6 a0_7 a0_8 a0_9 a0_10) else (delta_may.j0 k (!a0_2) a0_0 a0_1 a0_2 a0_3 a0_4 a0_5 a0_6 a0_7 a0_8 a0_9 a0_10))) else (delta_may.j0 k true a0_0 a0_1 a0_2 a0_3 a0_4 a0_5 a0_6 a0_7 a0_8 a0_9 a0_10))) = some r := h
 clear h
 have HC2 := Aside0.mk H
 clear H
 go_enter Tryd.func60, Tryd.ntmps60
 go_upto_region 1 with (first | ((with_reducible refine gate_dst (N := 1) rfl ?_); refine box_event ?hg (N := 1) ?hd (cs := #[.string a0_0, .bool a0_1, .bool a0_2, .string a0_3, .string a0_4, .int .i64 a0_5, .int .i64 a0_6, .string a0_7, .string a0_8, .int .i64 a0_9, .int .i64 a0_10]) (t := 61) ?hr ?_; (case hd => rfl); (case hg => rfl); (case hr => first | (go_simp; done) | (go_simp; rfl)); intro gb232 hg w3 hbox hb; have n0_ := Aside0.mk (below_step (by repeat (first | (with_reducible first | exact HB.out | apply below_alloc | apply pw_below_drewN | apply below_drew1) | exact HB.out)) hb); have n1_ := Aside0.mk (hbox); have n2_ := Aside0.mk ((by rw [hg]; exact (below_size (by repeat (first | (with_reducible first | exact HB.out | apply below_alloc | apply pw_below_drewN | apply below_drew1) | exact HB.out))) : w.heap.size ≤ gb232)); have n3_ := Aside0.mk ((by rw [hg]; exact (below_size (by repeat (first | (with_reducible first | exact HB.out | apply below_alloc | apply pw_below_drewN | apply below_drew1) | exact HB.out))) : w.heap.size ≤ gb232)); clear HB; have HB := n0_; have BK232 := n1_; have GW232 := n2_; have GE232 := n3_; clear n0_ n1_ n2_ n3_; clear hb hbox hg))
 (try simp only [Act.put, List.setIfInBounds_toArray, List.set_cons_zero, List.set_cons_succ])
 go_cut [21] (fun v21 wc => ∃ (kq : Nat) (x21_1 : Bool), v21 = .bool x21_1 ∧ Aside0 (delta_may.j0 kq x21_1 a0_0 a0_1 a0_2 a0_3 a0_4 a0_5 a0_6 a0_7 a0_8 a0_9 a0_10 = some r) ∧ Aside0 (kq ≤ k) ∧ Aside0 (wc.heap[gb232]? = some (.cells #[.string a0_0, .bool a0_1, .bool a0_2, .string a0_3, .string a0_4, .int .i64 a0_5, .int .i64 a0_6, .string a0_7, .string a0_8, .int .i64 a0_9, .int .i64 a0_10] 61 (0, 0))) ∧ Aside0 (Below w.heap.size w wc))
 case first =>
  have H := HC2.out
  clear HC2
  replace H := Option.bind_eq_some_iff.mp H
  obtain ⟨t233, A40, H⟩ := H
  try dsimp only at H
  have A4 := Aside0.mk A40
  clear A40
  by_cases c5 : t233 = true
  ·subst c5
   rw [if_pos rfl] at H
   have H1 := H
   clear H
   have H := H1
   clear H1
   by_cases c6 : a0_0.toList = ([] : List UInt8)
   ·rw [if_pos c6] at H
    have c6b0 : (a0_0.toList == ([] : List UInt8)) = true := beq_iff_eq.mpr c6
    have c6b1 : (a0_0.toList != ([] : List UInt8)) = false := bne_eq_false_iff_eq.mpr c6
    clear c6
    (first | rw [c6b0] | (simp only [i64_w, i32_w]; rw [c6b0]) | skip)
    have H' := Aside0.mk H
    clear H
    have hcz7_0 : w3.cell? ⟨gb232, 0, none⟩ = some (.string a0_0) := (blk_cell BK232.out 0).trans rfl
    have hcz7_1 : w3.cell? ⟨gb232, 1, none⟩ = some (.bool a0_1) := (blk_cell BK232.out 1).trans rfl
    have hcz7_2 : w3.cell? ⟨gb232, 2, none⟩ = some (.bool a0_2) := (blk_cell BK232.out 2).trans rfl
    have hcz7_3 : w3.cell? ⟨gb232, 3, none⟩ = some (.string a0_3) := (blk_cell BK232.out 3).trans rfl
    have hcz7_4 : w3.cell? ⟨gb232, 4, none⟩ = some (.string a0_4) := (blk_cell BK232.out 4).trans rfl
    have hcz7_5 : w3.cell? ⟨gb232, 5, none⟩ = some (.int .i64 a0_5) := (blk_cell BK232.out 5).trans rfl
    have hcz7_6 : w3.cell? ⟨gb232, 6, none⟩ = some (.int .i64 a0_6) := (blk_cell BK232.out 6).trans rfl
    have hcz7_7 : w3.cell? ⟨gb232, 7, none⟩ = some (.string a0_7) := (blk_cell BK232.out 7).trans rfl
    have hcz7_8 : w3.cell? ⟨gb232, 8, none⟩ = some (.string a0_8) := (blk_cell BK232.out 8).trans rfl
    have hcz7_9 : w3.cell? ⟨gb232, 9, none⟩ = some (.int .i64 a0_9) := (blk_cell BK232.out 9).trans rfl
    have hcz7_10 : w3.cell? ⟨gb232, 10, none⟩ = some (.int .i64 a0_10) := (blk_cell BK232.out 10).trans rfl
    have hfz7_0 := blk_frozen BK232.out 0
    have hfz7_1 := blk_frozen BK232.out 1
    have hfz7_2 := blk_frozen BK232.out 2
    have hfz7_3 := blk_frozen BK232.out 3
    have hfz7_4 := blk_frozen BK232.out 4
    have hfz7_5 := blk_frozen BK232.out 5
    have hfz7_6 := blk_frozen BK232.out 6
    have hfz7_7 := blk_frozen BK232.out 7
    have hfz7_8 := blk_frozen BK232.out 8
    have hfz7_9 := blk_frozen BK232.out 9
    have hfz7_10 := blk_frozen BK232.out 10
    go_wp2_with (first | ((with_reducible refine gate_callee (f := 64) rfl ?_); refine goesL_ (some 5) rfl rfl Tryd.func64 (by kernel_rfl) rfl #[.string a0_0] rfl (by (try simp only [List.map_toArray, List.map_cons, List.map_nil]); first | done | rfl | (simp only [List.length_drop, List.length_take]; rfl)) ?_; (with_reducible refine (path_Valid.calls k a0_0 true _ A4.out).mono ?_); rintro e w8 ⟨rfl, hb⟩; refine ⟨_, rfl, ?_⟩; have n0_ := Aside0.mk (blk_below (g := gb232) (o := .cells #[.string a0_0, .bool a0_1, .bool a0_2, .string a0_3, .string a0_4, .int .i64 a0_5, .int .i64 a0_6, .string a0_7, .string a0_8, .int .i64 a0_9, .int .i64 a0_10] 61 (0, 0)) (by (with_reducible repeat (first | refine blk_drewN ?_ _ | refine blk_drew ?_ | refine blk_alloc ?_ _)); exact BK232.out) hb); have n1_ := Aside0.mk (below_step (by repeat (first | (with_reducible first | exact HB.out | apply below_alloc | apply pw_below_drewN | apply below_drew1 | refine below_set ?_ GE232.out) | exact HB.out)) hb); clear BK232; clear HB; have BK232 := n0_; have HB := n1_; clear n0_ n1_; (try clear hb); (try clear hb2); (try clear hk); (try clear hi); have hcz9_0 : w8.cell? ⟨gb232, 0, none⟩ = some (.string a0_0) := (blk_cell BK232.out 0).trans rfl; have hcz9_1 : w8.cell? ⟨gb232, 1, none⟩ = some (.bool a0_1) := (blk_cell BK232.out 1).trans rfl; have hcz9_2 : w8.cell? ⟨gb232, 2, none⟩ = some (.bool a0_2) := (blk_cell BK232.out 2).trans rfl; have hcz9_3 : w8.cell? ⟨gb232, 3, none⟩ = some (.string a0_3) := (blk_cell BK232.out 3).trans rfl; have hcz9_4 : w8.cell? ⟨gb232, 4, none⟩ = some (.string a0_4) := (blk_cell BK232.out 4).trans rfl; have hcz9_5 : w8.cell? ⟨gb232, 5, none⟩ = some (.int .i64 a0_5) := (blk_cell BK232.out 5).trans rfl; have hcz9_6 : w8.cell? ⟨gb232, 6, none⟩ = some (.int .i64 a0_6) := (blk_cell BK232.out 6).trans rfl; have hcz9_7 : w8.cell? ⟨gb232, 7, none⟩ = some (.string a0_7) := (blk_cell BK232.out 7).trans rfl; have hcz9_8 : w8.cell? ⟨gb232, 8, none⟩ = some (.string a0_8) := (blk_cell BK232.out 8).trans rfl; have hcz9_9 : w8.cell? ⟨gb232, 9, none⟩ = some (.int .i64 a0_9) := (blk_cell BK232.out 9).trans rfl; have hcz9_10 : w8.cell? ⟨gb232, 10, none⟩ = some (.int .i64 a0_10) := (blk_cell BK232.out 10).trans rfl; have hfz9_0 := blk_frozen BK232.out 0; have hfz9_1 := blk_frozen BK232.out 1; have hfz9_2 := blk_frozen BK232.out 2; have hfz9_3 := blk_frozen BK232.out 3; have hfz9_4 := blk_frozen BK232.out 4; have hfz9_5 := blk_frozen BK232.out 5; have hfz9_6 := blk_frozen BK232.out 6; have hfz9_7 := blk_frozen BK232.out 7; have hfz9_8 := blk_frozen BK232.out 8; have hfz9_9 := blk_frozen BK232.out 9; have hfz9_10 := blk_frozen BK232.out 10))
    go_meet
    case rel => exact ⟨_, (true), (by first | rfl | (simp; done) | (simp [*]; done)), H', ⟨by first | omega | exact Nat.le_refl _⟩, ⟨by (with_reducible repeat (first | refine blk_drewN ?_ _ | refine blk_drew ?_ | refine blk_alloc ?_ _)); exact BK232.out⟩, ⟨by repeat (first | (with_reducible first | exact HB.out | apply below_alloc | apply pw_below_drewN | apply below_drew1 | refine below_set ?_ GE232.out) | exact HB.out)⟩⟩
   ·rw [if_neg c6] at H
    have c6b0 : (a0_0.toList == ([] : List UInt8)) = false := beq_eq_false_iff_ne.mpr c6
    have c6b1 : (a0_0.toList != ([] : List UInt8)) = true := bne_iff_ne.mpr c6
    (first | rw [c6b0] | (simp only [i64_w, i32_w]; rw [c6b0]) | skip)
    by_cases c10 : a0_1 = true
    ·subst c10
     rw [if_pos rfl] at H
     have H1 := H
     clear H
     have H := H1
     clear H1
     have H' := Aside0.mk H
     clear H
     have hcz11_0 : w3.cell? ⟨gb232, 0, none⟩ = some (.string a0_0) := (blk_cell BK232.out 0).trans rfl
     have hcz11_1 : w3.cell? ⟨gb232, 1, none⟩ = some (.bool true) := (blk_cell BK232.out 1).trans rfl
     have hcz11_2 : w3.cell? ⟨gb232, 2, none⟩ = some (.bool a0_2) := (blk_cell BK232.out 2).trans rfl
     have hcz11_3 : w3.cell? ⟨gb232, 3, none⟩ = some (.string a0_3) := (blk_cell BK232.out 3).trans rfl
     have hcz11_4 : w3.cell? ⟨gb232, 4, none⟩ = some (.string a0_4) := (blk_cell BK232.out 4).trans rfl
     have hcz11_5 : w3.cell? ⟨gb232, 5, none⟩ = some (.int .i64 a0_5) := (blk_cell BK232.out 5).trans rfl
     have hcz11_6 : w3.cell? ⟨gb232, 6, none⟩ = some (.int .i64 a0_6) := (blk_cell BK232.out 6).trans rfl
     have hcz11_7 : w3.cell? ⟨gb232, 7, none⟩ = some (.string a0_7) := (blk_cell BK232.out 7).trans rfl
     have hcz11_8 : w3.cell? ⟨gb232, 8, none⟩ = some (.string a0_8) := (blk_cell BK232.out 8).trans rfl
     have hcz11_9 : w3.cell? ⟨gb232, 9, none⟩ = some (.int .i64 a0_9) := (blk_cell BK232.out 9).trans rfl
     have hcz11_10 : w3.cell? ⟨gb232, 10, none⟩ = some (.int .i64 a0_10) := (blk_cell BK232.out 10).trans rfl
     have hfz11_0 := blk_frozen BK232.out 0
     have hfz11_1 := blk_frozen BK232.out 1
     have hfz11_2 := blk_frozen BK232.out 2
     have hfz11_3 := blk_frozen BK232.out 3
     have hfz11_4 := blk_frozen BK232.out 4
     have hfz11_5 := blk_frozen BK232.out 5
     have hfz11_6 := blk_frozen BK232.out 6
     have hfz11_7 := blk_frozen BK232.out 7
     have hfz11_8 := blk_frozen BK232.out 8
     have hfz11_9 := blk_frozen BK232.out 9
     have hfz11_10 := blk_frozen BK232.out 10
     go_wp2_with (first | ((with_reducible refine gate_callee (f := 64) rfl ?_); refine goesL_ (some 5) rfl rfl Tryd.func64 (by kernel_rfl) rfl #[.string a0_0] rfl (by (try simp only [List.map_toArray, List.map_cons, List.map_nil]); first | done | rfl | (simp only [List.length_drop, List.length_take]; rfl)) ?_; (with_reducible refine (path_Valid.calls k a0_0 true _ A4.out).mono ?_); rintro e w12 ⟨rfl, hb⟩; refine ⟨_, rfl, ?_⟩; have n0_ := Aside0.mk (blk_below (g := gb232) (o := .cells #[.string a0_0, .bool true, .bool a0_2, .string a0_3, .string a0_4, .int .i64 a0_5, .int .i64 a0_6, .string a0_7, .string a0_8, .int .i64 a0_9, .int .i64 a0_10] 61 (0, 0)) (by (with_reducible repeat (first | refine blk_drewN ?_ _ | refine blk_drew ?_ | refine blk_alloc ?_ _)); exact BK232.out) hb); have n1_ := Aside0.mk (below_step (by repeat (first | (with_reducible first | exact HB.out | apply below_alloc | apply pw_below_drewN | apply below_drew1 | refine below_set ?_ GE232.out) | exact HB.out)) hb); clear BK232; clear HB; have BK232 := n0_; have HB := n1_; clear n0_ n1_; (try clear hb); (try clear hb2); (try clear hk); (try clear hi); have hcz13_0 : w12.cell? ⟨gb232, 0, none⟩ = some (.string a0_0) := (blk_cell BK232.out 0).trans rfl; have hcz13_1 : w12.cell? ⟨gb232, 1, none⟩ = some (.bool true) := (blk_cell BK232.out 1).trans rfl; have hcz13_2 : w12.cell? ⟨gb232, 2, none⟩ = some (.bool a0_2) := (blk_cell BK232.out 2).trans rfl; have hcz13_3 : w12.cell? ⟨gb232, 3, none⟩ = some (.string a0_3) := (blk_cell BK232.out 3).trans rfl; have hcz13_4 : w12.cell? ⟨gb232, 4, none⟩ = some (.string a0_4) := (blk_cell BK232.out 4).trans rfl; have hcz13_5 : w12.cell? ⟨gb232, 5, none⟩ = some (.int .i64 a0_5) := (blk_cell BK232.out 5).trans rfl; have hcz13_6 : w12.cell? ⟨gb232, 6, none⟩ = some (.int .i64 a0_6) := (blk_cell BK232.out 6).trans rfl; have hcz13_7 : w12.cell? ⟨gb232, 7, none⟩ = some (.string a0_7) := (blk_cell BK232.out 7).trans rfl; have hcz13_8 : w12.cell? ⟨gb232, 8, none⟩ = some (.string a0_8) := (blk_cell BK232.out 8).trans rfl; have hcz13_9 : w12.cell? ⟨gb232, 9, none⟩ = some (.int .i64 a0_9) := (blk_cell BK232.out 9).trans rfl; have hcz13_10 : w12.cell? ⟨gb232, 10, none⟩ = some (.int .i64 a0_10) := (blk_cell BK232.out 10).trans rfl; have hfz13_0 := blk_frozen BK232.out 0; have hfz13_1 := blk_frozen BK232.out 1; have hfz13_2 := blk_frozen BK232.out 2; have hfz13_3 := blk_frozen BK232.out 3; have hfz13_4 := blk_frozen BK232.out 4; have hfz13_5 := blk_frozen BK232.out 5; have hfz13_6 := blk_frozen BK232.out 6; have hfz13_7 := blk_frozen BK232.out 7; have hfz13_8 := blk_frozen BK232.out 8; have hfz13_9 := blk_frozen BK232.out 9; have hfz13_10 := blk_frozen BK232.out 10))
     go_meet
     case rel => exact ⟨_, (false), (by first | rfl | (simp; done) | (simp [*]; done)), H', ⟨by first | omega | exact Nat.le_refl _⟩, ⟨by (with_reducible repeat (first | refine blk_drewN ?_ _ | refine blk_drew ?_ | refine blk_alloc ?_ _)); exact BK232.out⟩, ⟨by repeat (first | (with_reducible first | exact HB.out | apply below_alloc | apply pw_below_drewN | apply below_drew1 | refine below_set ?_ GE232.out) | exact HB.out)⟩⟩
    ·replace c10 := Bool.eq_false_iff.mpr c10
     subst c10
     have H1 : (delta_may.j0 k (!a0_2) a0_0 false a0_2 a0_3 a0_4 a0_5 a0_6 a0_7 a0_8 a0_9 a0_10) = some r := by rw [if_neg (show ¬ (false = true) by decide)] at H; exact H
     clear H
     have H := H1
     clear H1
     have H' := Aside0.mk H
     clear H
     have hcz14_0 : w3.cell? ⟨gb232, 0, none⟩ = some (.string a0_0) := (blk_cell BK232.out 0).trans rfl
     have hcz14_1 : w3.cell? ⟨gb232, 1, none⟩ = some (.bool false) := (blk_cell BK232.out 1).trans rfl
     have hcz14_2 : w3.cell? ⟨gb232, 2, none⟩ = some (.bool a0_2) := (blk_cell BK232.out 2).trans rfl
     have hcz14_3 : w3.cell? ⟨gb232, 3, none⟩ = some (.string a0_3) := (blk_cell BK232.out 3).trans rfl
     have hcz14_4 : w3.cell? ⟨gb232, 4, none⟩ = some (.string a0_4) := (blk_cell BK232.out 4).trans rfl
     have hcz14_5 : w3.cell? ⟨gb232, 5, none⟩ = some (.int .i64 a0_5) := (blk_cell BK232.out 5).trans rfl
     have hcz14_6 : w3.cell? ⟨gb232, 6, none⟩ = some (.int .i64 a0_6) := (blk_cell BK232.out 6).trans rfl
     have hcz14_7 : w3.cell? ⟨gb232, 7, none⟩ = some (.string a0_7) := (blk_cell BK232.out 7).trans rfl
     have hcz14_8 : w3.cell? ⟨gb232, 8, none⟩ = some (.string a0_8) := (blk_cell BK232.out 8).trans rfl
     have hcz14_9 : w3.cell? ⟨gb232, 9, none⟩ = some (.int .i64 a0_9) := (blk_cell BK232.out 9).trans rfl
     have hcz14_10 : w3.cell? ⟨gb232, 10, none⟩ = some (.int .i64 a0_10) := (blk_cell BK232.out 10).trans rfl
     have hfz14_0 := blk_frozen BK232.out 0
     have hfz14_1 := blk_frozen BK232.out 1
     have hfz14_2 := blk_frozen BK232.out 2
     have hfz14_3 := blk_frozen BK232.out 3
     have hfz14_4 := blk_frozen BK232.out 4
     have hfz14_5 := blk_frozen BK232.out 5
     have hfz14_6 := blk_frozen BK232.out 6
     have hfz14_7 := blk_frozen BK232.out 7
     have hfz14_8 := blk_frozen BK232.out 8
     have hfz14_9 := blk_frozen BK232.out 9
     have hfz14_10 := blk_frozen BK232.out 10
     go_wp2_with (first | ((with_reducible refine gate_callee (f := 64) rfl ?_); refine goesL_ (some 5) rfl rfl Tryd.func64 (by kernel_rfl) rfl #[.string a0_0] rfl (by (try simp only [List.map_toArray, List.map_cons, List.map_nil]); first | done | rfl | (simp only [List.length_drop, List.length_take]; rfl)) ?_; (with_reducible refine (path_Valid.calls k a0_0 true _ A4.out).mono ?_); rintro e w15 ⟨rfl, hb⟩; refine ⟨_, rfl, ?_⟩; have n0_ := Aside0.mk (blk_below (g := gb232) (o := .cells #[.string a0_0, .bool false, .bool a0_2, .string a0_3, .string a0_4, .int .i64 a0_5, .int .i64 a0_6, .string a0_7, .string a0_8, .int .i64 a0_9, .int .i64 a0_10] 61 (0, 0)) (by (with_reducible repeat (first | refine blk_drewN ?_ _ | refine blk_drew ?_ | refine blk_alloc ?_ _)); exact BK232.out) hb); have n1_ := Aside0.mk (below_step (by repeat (first | (with_reducible first | exact HB.out | apply below_alloc | apply pw_below_drewN | apply below_drew1 | refine below_set ?_ GE232.out) | exact HB.out)) hb); clear BK232; clear HB; have BK232 := n0_; have HB := n1_; clear n0_ n1_; (try clear hb); (try clear hb2); (try clear hk); (try clear hi); have hcz16_0 : w15.cell? ⟨gb232, 0, none⟩ = some (.string a0_0) := (blk_cell BK232.out 0).trans rfl; have hcz16_1 : w15.cell? ⟨gb232, 1, none⟩ = some (.bool false) := (blk_cell BK232.out 1).trans rfl; have hcz16_2 : w15.cell? ⟨gb232, 2, none⟩ = some (.bool a0_2) := (blk_cell BK232.out 2).trans rfl; have hcz16_3 : w15.cell? ⟨gb232, 3, none⟩ = some (.string a0_3) := (blk_cell BK232.out 3).trans rfl; have hcz16_4 : w15.cell? ⟨gb232, 4, none⟩ = some (.string a0_4) := (blk_cell BK232.out 4).trans rfl; have hcz16_5 : w15.cell? ⟨gb232, 5, none⟩ = some (.int .i64 a0_5) := (blk_cell BK232.out 5).trans rfl; have hcz16_6 : w15.cell? ⟨gb232, 6, none⟩ = some (.int .i64 a0_6) := (blk_cell BK232.out 6).trans rfl; have hcz16_7 : w15.cell? ⟨gb232, 7, none⟩ = some (.string a0_7) := (blk_cell BK232.out 7).trans rfl; have hcz16_8 : w15.cell? ⟨gb232, 8, none⟩ = some (.string a0_8) := (blk_cell BK232.out 8).trans rfl; have hcz16_9 : w15.cell? ⟨gb232, 9, none⟩ = some (.int .i64 a0_9) := (blk_cell BK232.out 9).trans rfl; have hcz16_10 : w15.cell? ⟨gb232, 10, none⟩ = some (.int .i64 a0_10) := (blk_cell BK232.out 10).trans rfl; have hfz16_0 := blk_frozen BK232.out 0; have hfz16_1 := blk_frozen BK232.out 1; have hfz16_2 := blk_frozen BK232.out 2; have hfz16_3 := blk_frozen BK232.out 3; have hfz16_4 := blk_frozen BK232.out 4; have hfz16_5 := blk_frozen BK232.out 5; have hfz16_6 := blk_frozen BK232.out 6; have hfz16_7 := blk_frozen BK232.out 7; have hfz16_8 := blk_frozen BK232.out 8; have hfz16_9 := blk_frozen BK232.out 9; have hfz16_10 := blk_frozen BK232.out 10))
     go_meet
     case rel => exact ⟨_, (!a0_2), (by first | rfl | (simp; done) | (simp [*]; done)), H', ⟨by first | omega | exact Nat.le_refl _⟩, ⟨by (with_reducible repeat (first | refine blk_drewN ?_ _ | refine blk_drew ?_ | refine blk_alloc ?_ _)); exact BK232.out⟩, ⟨by repeat (first | (with_reducible first | exact HB.out | apply below_alloc | apply pw_below_drewN | apply below_drew1 | refine below_set ?_ GE232.out) | exact HB.out)⟩⟩
  ·replace c5 := Bool.eq_false_iff.mpr c5
   subst c5
   have H1 : (delta_may.j0 k true a0_0 a0_1 a0_2 a0_3 a0_4 a0_5 a0_6 a0_7 a0_8 a0_9 a0_10) = some r := by rw [if_neg (show ¬ (false = true) by decide)] at H; exact H
   clear H
   have H := H1
   clear H1
   have H' := Aside0.mk H
   clear H
   have hcz17_0 : w3.cell? ⟨gb232, 0, none⟩ = some (.string a0_0) := (blk_cell BK232.out 0).trans rfl
   have hcz17_1 : w3.cell? ⟨gb232, 1, none⟩ = some (.bool a0_1) := (blk_cell BK232.out 1).trans rfl
   have hcz17_2 : w3.cell? ⟨gb232, 2, none⟩ = some (.bool a0_2) := (blk_cell BK232.out 2).trans rfl
   have hcz17_3 : w3.cell? ⟨gb232, 3, none⟩ = some (.string a0_3) := (blk_cell BK232.out 3).trans rfl
   have hcz17_4 : w3.cell? ⟨gb232, 4, none⟩ = some (.string a0_4) := (blk_cell BK232.out 4).trans rfl
   have hcz17_5 : w3.cell? ⟨gb232, 5, none⟩ = some (.int .i64 a0_5) := (blk_cell BK232.out 5).trans rfl
   have hcz17_6 : w3.cell? ⟨gb232, 6, none⟩ = some (.int .i64 a0_6) := (blk_cell BK232.out 6).trans rfl
   have hcz17_7 : w3.cell? ⟨gb232, 7, none⟩ = some (.string a0_7) := (blk_cell BK232.out 7).trans rfl
   have hcz17_8 : w3.cell? ⟨gb232, 8, none⟩ = some (.string a0_8) := (blk_cell BK232.out 8).trans rfl
   have hcz17_9 : w3.cell? ⟨gb232, 9, none⟩ = some (.int .i64 a0_9) := (blk_cell BK232.out 9).trans rfl
   have hcz17_10 : w3.cell? ⟨gb232, 10, none⟩ = some (.int .i64 a0_10) := (blk_cell BK232.out 10).trans rfl
   have hfz17_0 := blk_frozen BK232.out 0
   have hfz17_1 := blk_frozen BK232.out 1
   have hfz17_2 := blk_frozen BK232.out 2
   have hfz17_3 := blk_frozen BK232.out 3
   have hfz17_4 := blk_frozen BK232.out 4
   have hfz17_5 := blk_frozen BK232.out 5
   have hfz17_6 := blk_frozen BK232.out 6
   have hfz17_7 := blk_frozen BK232.out 7
   have hfz17_8 := blk_frozen BK232.out 8
   have hfz17_9 := blk_frozen BK232.out 9
   have hfz17_10 := blk_frozen BK232.out 10
   go_wp2_with (first | ((with_reducible refine gate_callee (f := 64) rfl ?_); refine goesL_ (some 5) rfl rfl Tryd.func64 (by kernel_rfl) rfl #[.string a0_0] rfl (by (try simp only [List.map_toArray, List.map_cons, List.map_nil]); first | done | rfl | (simp only [List.length_drop, List.length_take]; rfl)) ?_; (with_reducible refine (path_Valid.calls k a0_0 false _ A4.out).mono ?_); rintro e w18 ⟨rfl, hb⟩; refine ⟨_, rfl, ?_⟩; have n0_ := Aside0.mk (blk_below (g := gb232) (o := .cells #[.string a0_0, .bool a0_1, .bool a0_2, .string a0_3, .string a0_4, .int .i64 a0_5, .int .i64 a0_6, .string a0_7, .string a0_8, .int .i64 a0_9, .int .i64 a0_10] 61 (0, 0)) (by (with_reducible repeat (first | refine blk_drewN ?_ _ | refine blk_drew ?_ | refine blk_alloc ?_ _)); exact BK232.out) hb); have n1_ := Aside0.mk (below_step (by repeat (first | (with_reducible first | exact HB.out | apply below_alloc | apply pw_below_drewN | apply below_drew1 | refine below_set ?_ GE232.out) | exact HB.out)) hb); clear BK232; clear HB; have BK232 := n0_; have HB := n1_; clear n0_ n1_; (try clear hb); (try clear hb2); (try clear hk); (try clear hi)))
   go_meet
   case rel => exact ⟨_, (true), (by first | rfl | (simp; done) | (simp [*]; done)), H', ⟨by first | omega | exact Nat.le_refl _⟩, ⟨by (with_reducible repeat (first | refine blk_drewN ?_ _ | refine blk_drew ?_ | refine blk_alloc ?_ _)); exact BK232.out⟩, ⟨by repeat (first | (with_reducible first | exact HB.out | apply below_alloc | apply pw_below_drewN | apply below_drew1 | refine below_set ?_ GE232.out) | exact HB.out)⟩⟩
 case rest =>
  clear HC2
  try clear c1
  try clear p2
  try clear c5
  try clear c6
  try clear c6b0
  try clear c6b1
  try clear c10
  try clear hcz11_0
  try clear hcz11_1
  try clear hcz11_10
  try clear hcz11_2
  try clear hcz11_3
  try clear hcz11_4
  try clear hcz11_5
  try clear hcz11_6
  try clear hcz11_7
  try clear hcz11_8
  try clear hcz11_9
  try clear hcz13_0
  try clear hcz13_1
  try clear hcz13_10
  try clear hcz13_2
  try clear hcz13_3
  try clear hcz13_4
  try clear hcz13_5
  try clear hcz13_6
  try clear hcz13_7
  try clear hcz13_8
  try clear hcz13_9
  try clear hcz14_0
  try clear hcz14_1
  try clear hcz14_10
  try clear hcz14_2
  try clear hcz14_3
  try clear hcz14_4
  try clear hcz14_5
  try clear hcz14_6
  try clear hcz14_7
  try clear hcz14_8
  try clear hcz14_9
  try clear hcz16_0
  try clear hcz16_1
  try clear hcz16_10
  try clear hcz16_2
  try clear hcz16_3
  try clear hcz16_4
  try clear hcz16_5
  try clear hcz16_6
  try clear hcz16_7
  try clear hcz16_8
  try clear hcz16_9
  try clear hcz17_0
  try clear hcz17_1
  try clear hcz17_10
  try clear hcz17_2
  try clear hcz17_3
  try clear hcz17_4
  try clear hcz17_5
  try clear hcz17_6
  try clear hcz17_7
  try clear hcz17_8
  try clear hcz17_9
  try clear hcz7_0
  try clear hcz7_1
  try clear hcz7_10
  try clear hcz7_2
  try clear hcz7_3
  try clear hcz7_4
  try clear hcz7_5
  try clear hcz7_6
  try clear hcz7_7
  try clear hcz7_8
  try clear hcz7_9
  try clear hcz9_0
  try clear hcz9_1
  try clear hcz9_10
  try clear hcz9_2
  try clear hcz9_3
  try clear hcz9_4
  try clear hcz9_5
  try clear hcz9_6
  try clear hcz9_7
  try clear hcz9_8
  try clear hcz9_9
  try clear hfz11_0
  try clear hfz11_1
  try clear hfz11_10
  try clear hfz11_2
  try clear hfz11_3
  try clear hfz11_4
  try clear hfz11_5
  try clear hfz11_6
  try clear hfz11_7
  try clear hfz11_8
  try clear hfz11_9
  try clear hfz13_0
  try clear hfz13_1
  try clear hfz13_10
  try clear hfz13_2
  try clear hfz13_3
  try clear hfz13_4
  try clear hfz13_5
  try clear hfz13_6
  try clear hfz13_7
  try clear hfz13_8
  try clear hfz13_9
  try clear hfz14_0
  try clear hfz14_1
  try clear hfz14_10
  try clear hfz14_2
  try clear hfz14_3
  try clear hfz14_4
  try clear hfz14_5
  try clear hfz14_6
  try clear hfz14_7
  try clear hfz14_8
  try clear hfz14_9
  try clear hfz16_0
  try clear hfz16_1
  try clear hfz16_10
  try clear hfz16_2
  try clear hfz16_3
  try clear hfz16_4
  try clear hfz16_5
  try clear hfz16_6
  try clear hfz16_7
  try clear hfz16_8
  try clear hfz16_9
  try clear hfz17_0
  try clear hfz17_1
  try clear hfz17_10
  try clear hfz17_2
  try clear hfz17_3
  try clear hfz17_4
  try clear hfz17_5
  try clear hfz17_6
  try clear hfz17_7
  try clear hfz17_8
  try clear hfz17_9
  try clear hfz7_0
  try clear hfz7_1
  try clear hfz7_10
  try clear hfz7_2
  try clear hfz7_3
  try clear hfz7_4
  try clear hfz7_5
  try clear hfz7_6
  try clear hfz7_7
  try clear hfz7_8
  try clear hfz7_9
  try clear hfz9_0
  try clear hfz9_1
  try clear hfz9_10
  try clear hfz9_2
  try clear hfz9_3
  try clear hfz9_4
  try clear hfz9_5
  try clear hfz9_6
  try clear hfz9_7
  try clear hfz9_8
  try clear hfz9_9
  obtain ⟨kq, x21_1, rfl, HA, HJ1, BK232, HB⟩ := hcut
  cases kq with
  | zero => exact absurd HA.out (by simp [delta_may.j0])
  | succ kj1 =>
   have H := HA.out
   clear HA
   simp only [delta_may.j0] at H
   by_cases c19 : x21_1 = true
   ·subst c19
    rw [if_pos rfl] at H
    have H1 := H
    clear H
    have H := H1
    clear H1
    obtain rfl := Option.some.inj H
    go_wp2
    go_ret
    exact ⟨by first | rfl | (simp [errW_none, errW_some] <;> rfl) | (simp [*, errW_none, errW_some] <;> rfl), by repeat (first | (with_reducible first | exact HB.out | apply below_alloc | apply pw_below_drewN | apply below_drew1 | refine below_set ?_ GE232.out) | exact HB.out)⟩
   ·replace c19 := Bool.eq_false_iff.mpr c19
    subst c19
    have H1 : ((delta_half.f a0_0 a0_1 a0_3 a0_4 a0_5 a0_6).bind fun t234 => (if t234 = true then ((delta_half.f a0_0 a0_2 a0_7 a0_8 a0_9 a0_10).bind fun t235 => (if t235 = true then (if a0_1 = true then (if a0_2 = true then (some (!(a0_3.toList == a0_7.toList && (a0_4.toList == a0_8.toList && (a0_5 == a0_9 && (a0_6 == a0_10)))))) else (some (!false))) else (some (!false))) else (some false))) else (some false))) = some r := by rw [if_neg (show ¬ (false = true) by decide)] at H; exact H
    clear H
    have H := H1
    clear H1
    replace H := Option.bind_eq_some_iff.mp H
    obtain ⟨t234, A200, H⟩ := H
    try dsimp only at H
    have A20 := Aside0.mk A200
    clear A200
    by_cases c21 : t234 = true
    ·subst c21
     rw [if_pos rfl] at H
     have H1 := H
     clear H
     have H := H1
     clear H1
     replace H := Option.bind_eq_some_iff.mp H
     obtain ⟨t235, A220, H⟩ := H
     try dsimp only at H
     have A22 := Aside0.mk A220
     clear A220
     by_cases c23 : t235 = true
     ·subst c23
      rw [if_pos rfl] at H
      have H1 := H
      clear H
      have H := H1
      clear H1
      by_cases c24 : a0_1 = true
      ·subst c24
       rw [if_pos rfl] at H
       have H1 := H
       clear H
       have H := H1
       clear H1
       by_cases c25 : a0_2 = true
       ·subst c25
        rw [if_pos rfl] at H
        have H1 := H
        clear H
        have H := H1
        clear H1
        obtain rfl := Option.some.inj H
        have hcz26_0 : wc.cell? ⟨gb232, 0, none⟩ = some (.string a0_0) := (blk_cell BK232.out 0).trans rfl
        have hcz26_1 : wc.cell? ⟨gb232, 1, none⟩ = some (.bool true) := (blk_cell BK232.out 1).trans rfl
        have hcz26_2 : wc.cell? ⟨gb232, 2, none⟩ = some (.bool true) := (blk_cell BK232.out 2).trans rfl
        have hcz26_3 : wc.cell? ⟨gb232, 3, none⟩ = some (.string a0_3) := (blk_cell BK232.out 3).trans rfl
        have hcz26_4 : wc.cell? ⟨gb232, 4, none⟩ = some (.string a0_4) := (blk_cell BK232.out 4).trans rfl
        have hcz26_5 : wc.cell? ⟨gb232, 5, none⟩ = some (.int .i64 a0_5) := (blk_cell BK232.out 5).trans rfl
        have hcz26_6 : wc.cell? ⟨gb232, 6, none⟩ = some (.int .i64 a0_6) := (blk_cell BK232.out 6).trans rfl
        have hcz26_7 : wc.cell? ⟨gb232, 7, none⟩ = some (.string a0_7) := (blk_cell BK232.out 7).trans rfl
        have hcz26_8 : wc.cell? ⟨gb232, 8, none⟩ = some (.string a0_8) := (blk_cell BK232.out 8).trans rfl
        have hcz26_9 : wc.cell? ⟨gb232, 9, none⟩ = some (.int .i64 a0_9) := (blk_cell BK232.out 9).trans rfl
        have hcz26_10 : wc.cell? ⟨gb232, 10, none⟩ = some (.int .i64 a0_10) := (blk_cell BK232.out 10).trans rfl
        have hfz26_0 := blk_frozen BK232.out 0
        have hfz26_1 := blk_frozen BK232.out 1
        have hfz26_2 := blk_frozen BK232.out 2
        have hfz26_3 := blk_frozen BK232.out 3
        have hfz26_4 := blk_frozen BK232.out 4
        have hfz26_5 := blk_frozen BK232.out 5
        have hfz26_6 := blk_frozen BK232.out 6
        have hfz26_7 := blk_frozen BK232.out 7
        have hfz26_8 := blk_frozen BK232.out 8
        have hfz26_9 := blk_frozen BK232.out 9
        have hfz26_10 := blk_frozen BK232.out 10
        go_wp2_with (first | ((with_reducible refine gate_callee (f := 86) rfl ?_); refine goesL_ (some 28) rfl rfl Tryd.func86 (by kernel_rfl) rfl #[.string a0_0, .bool true, .agg #[.string a0_3, .string a0_4, .int .i64 a0_5, .int .i64 a0_6]] rfl (by (try simp only [List.map_toArray, List.map_cons, List.map_nil]); first | done | rfl | (simp only [List.length_drop, List.length_take]; rfl)) ?_; (with_reducible refine (delta_half.calls a0_0 true a0_3 a0_4 a0_5 a0_6 true _ A20.out).mono ?_); rintro e w27 ⟨rfl, hb⟩; refine ⟨_, rfl, ?_⟩; have n0_ := Aside0.mk (blk_below (g := gb232) (o := .cells #[.string a0_0, .bool true, .bool true, .string a0_3, .string a0_4, .int .i64 a0_5, .int .i64 a0_6, .string a0_7, .string a0_8, .int .i64 a0_9, .int .i64 a0_10] 61 (0, 0)) (by (with_reducible repeat (first | refine blk_drewN ?_ _ | refine blk_drew ?_ | refine blk_alloc ?_ _)); exact BK232.out) hb); have n1_ := Aside0.mk (below_step (by repeat (first | (with_reducible first | exact HB.out | apply below_alloc | apply pw_below_drewN | apply below_drew1 | refine below_set ?_ GE232.out) | exact HB.out)) hb); clear BK232; clear HB; have BK232 := n0_; have HB := n1_; clear n0_ n1_; (try clear hb); (try clear hb2); (try clear hk); (try clear hi); have hcz28_0 : w27.cell? ⟨gb232, 0, none⟩ = some (.string a0_0) := (blk_cell BK232.out 0).trans rfl; have hcz28_1 : w27.cell? ⟨gb232, 1, none⟩ = some (.bool true) := (blk_cell BK232.out 1).trans rfl; have hcz28_2 : w27.cell? ⟨gb232, 2, none⟩ = some (.bool true) := (blk_cell BK232.out 2).trans rfl; have hcz28_3 : w27.cell? ⟨gb232, 3, none⟩ = some (.string a0_3) := (blk_cell BK232.out 3).trans rfl; have hcz28_4 : w27.cell? ⟨gb232, 4, none⟩ = some (.string a0_4) := (blk_cell BK232.out 4).trans rfl; have hcz28_5 : w27.cell? ⟨gb232, 5, none⟩ = some (.int .i64 a0_5) := (blk_cell BK232.out 5).trans rfl; have hcz28_6 : w27.cell? ⟨gb232, 6, none⟩ = some (.int .i64 a0_6) := (blk_cell BK232.out 6).trans rfl; have hcz28_7 : w27.cell? ⟨gb232, 7, none⟩ = some (.string a0_7) := (blk_cell BK232.out 7).trans rfl; have hcz28_8 : w27.cell? ⟨gb232, 8, none⟩ = some (.string a0_8) := (blk_cell BK232.out 8).trans rfl; have hcz28_9 : w27.cell? ⟨gb232, 9, none⟩ = some (.int .i64 a0_9) := (blk_cell BK232.out 9).trans rfl; have hcz28_10 : w27.cell? ⟨gb232, 10, none⟩ = some (.int .i64 a0_10) := (blk_cell BK232.out 10).trans rfl; have hfz28_0 := blk_frozen BK232.out 0; have hfz28_1 := blk_frozen BK232.out 1; have hfz28_2 := blk_frozen BK232.out 2; have hfz28_3 := blk_frozen BK232.out 3; have hfz28_4 := blk_frozen BK232.out 4; have hfz28_5 := blk_frozen BK232.out 5; have hfz28_6 := blk_frozen BK232.out 6; have hfz28_7 := blk_frozen BK232.out 7; have hfz28_8 := blk_frozen BK232.out 8; have hfz28_9 := blk_frozen BK232.out 9; have hfz28_10 := blk_frozen BK232.out 10) | (go_at_call 86; (with_reducible refine (delta_half.calls a0_0 true a0_7 a0_8 a0_9 a0_10 true _ A22.out).mono ?_); rintro e w29 ⟨rfl, hb⟩; have n0_ := Aside0.mk (blk_below (g := gb232) (o := .cells #[.string a0_0, .bool true, .bool true, .string a0_3, .string a0_4, .int .i64 a0_5, .int .i64 a0_6, .string a0_7, .string a0_8, .int .i64 a0_9, .int .i64 a0_10] 61 (0, 0)) (by (with_reducible repeat (first | refine blk_drewN ?_ _ | refine blk_drew ?_ | refine blk_alloc ?_ _)); exact BK232.out) hb); have n1_ := Aside0.mk (below_step (by repeat (first | (with_reducible first | exact HB.out | apply below_alloc | apply pw_below_drewN | apply below_drew1 | refine below_set ?_ GE232.out) | exact HB.out)) hb); clear BK232; clear HB; have BK232 := n0_; have HB := n1_; clear n0_ n1_; (try clear hb); (try clear hb2); (try clear hk); (try clear hi); have hcz30_0 : w29.cell? ⟨gb232, 0, none⟩ = some (.string a0_0) := (blk_cell BK232.out 0).trans rfl; have hcz30_1 : w29.cell? ⟨gb232, 1, none⟩ = some (.bool true) := (blk_cell BK232.out 1).trans rfl; have hcz30_2 : w29.cell? ⟨gb232, 2, none⟩ = some (.bool true) := (blk_cell BK232.out 2).trans rfl; have hcz30_3 : w29.cell? ⟨gb232, 3, none⟩ = some (.string a0_3) := (blk_cell BK232.out 3).trans rfl; have hcz30_4 : w29.cell? ⟨gb232, 4, none⟩ = some (.string a0_4) := (blk_cell BK232.out 4).trans rfl; have hcz30_5 : w29.cell? ⟨gb232, 5, none⟩ = some (.int .i64 a0_5) := (blk_cell BK232.out 5).trans rfl; have hcz30_6 : w29.cell? ⟨gb232, 6, none⟩ = some (.int .i64 a0_6) := (blk_cell BK232.out 6).trans rfl; have hcz30_7 : w29.cell? ⟨gb232, 7, none⟩ = some (.string a0_7) := (blk_cell BK232.out 7).trans rfl; have hcz30_8 : w29.cell? ⟨gb232, 8, none⟩ = some (.string a0_8) := (blk_cell BK232.out 8).trans rfl; have hcz30_9 : w29.cell? ⟨gb232, 9, none⟩ = some (.int .i64 a0_9) := (blk_cell BK232.out 9).trans rfl; have hcz30_10 : w29.cell? ⟨gb232, 10, none⟩ = some (.int .i64 a0_10) := (blk_cell BK232.out 10).trans rfl; have hfz30_0 := blk_frozen BK232.out 0; have hfz30_1 := blk_frozen BK232.out 1; have hfz30_2 := blk_frozen BK232.out 2; have hfz30_3 := blk_frozen BK232.out 3; have hfz30_4 := blk_frozen BK232.out 4; have hfz30_5 := blk_frozen BK232.out 5; have hfz30_6 := blk_frozen BK232.out 6; have hfz30_7 := blk_frozen BK232.out 7; have hfz30_8 := blk_frozen BK232.out 8; have hfz30_9 := blk_frozen BK232.out 9; have hfz30_10 := blk_frozen BK232.out 10))
        go_ret
        exact ⟨by first | rfl | (simp [errW_none, errW_some] <;> rfl) | (simp [*, errW_none, errW_some] <;> rfl), by repeat (first | (with_reducible first | exact HB.out | apply below_alloc | apply pw_below_drewN | apply below_drew1 | refine below_set ?_ GE232.out) | exact HB.out)⟩
       ·replace c25 := Bool.eq_false_iff.mpr c25
        subst c25
        have H1 : (some (!false)) = some r := by rw [if_neg (show ¬ (false = true) by decide)] at H; exact H
        clear H
        have H := H1
        clear H1
        obtain rfl := Option.some.inj H
        have hcz31_0 : wc.cell? ⟨gb232, 0, none⟩ = some (.string a0_0) := (blk_cell BK232.out 0).trans rfl
        have hcz31_1 : wc.cell? ⟨gb232, 1, none⟩ = some (.bool true) := (blk_cell BK232.out 1).trans rfl
        have hcz31_2 : wc.cell? ⟨gb232, 2, none⟩ = some (.bool false) := (blk_cell BK232.out 2).trans rfl
        have hcz31_3 : wc.cell? ⟨gb232, 3, none⟩ = some (.string a0_3) := (blk_cell BK232.out 3).trans rfl
        have hcz31_4 : wc.cell? ⟨gb232, 4, none⟩ = some (.string a0_4) := (blk_cell BK232.out 4).trans rfl
        have hcz31_5 : wc.cell? ⟨gb232, 5, none⟩ = some (.int .i64 a0_5) := (blk_cell BK232.out 5).trans rfl
        have hcz31_6 : wc.cell? ⟨gb232, 6, none⟩ = some (.int .i64 a0_6) := (blk_cell BK232.out 6).trans rfl
        have hcz31_7 : wc.cell? ⟨gb232, 7, none⟩ = some (.string a0_7) := (blk_cell BK232.out 7).trans rfl
        have hcz31_8 : wc.cell? ⟨gb232, 8, none⟩ = some (.string a0_8) := (blk_cell BK232.out 8).trans rfl
        have hcz31_9 : wc.cell? ⟨gb232, 9, none⟩ = some (.int .i64 a0_9) := (blk_cell BK232.out 9).trans rfl
        have hcz31_10 : wc.cell? ⟨gb232, 10, none⟩ = some (.int .i64 a0_10) := (blk_cell BK232.out 10).trans rfl
        have hfz31_0 := blk_frozen BK232.out 0
        have hfz31_1 := blk_frozen BK232.out 1
        have hfz31_2 := blk_frozen BK232.out 2
        have hfz31_3 := blk_frozen BK232.out 3
        have hfz31_4 := blk_frozen BK232.out 4
        have hfz31_5 := blk_frozen BK232.out 5
        have hfz31_6 := blk_frozen BK232.out 6
        have hfz31_7 := blk_frozen BK232.out 7
        have hfz31_8 := blk_frozen BK232.out 8
        have hfz31_9 := blk_frozen BK232.out 9
        have hfz31_10 := blk_frozen BK232.out 10
        go_wp2_with (first | ((with_reducible refine gate_callee (f := 86) rfl ?_); refine goesL_ (some 28) rfl rfl Tryd.func86 (by kernel_rfl) rfl #[.string a0_0, .bool true, .agg #[.string a0_3, .string a0_4, .int .i64 a0_5, .int .i64 a0_6]] rfl (by (try simp only [List.map_toArray, List.map_cons, List.map_nil]); first | done | rfl | (simp only [List.length_drop, List.length_take]; rfl)) ?_; (with_reducible refine (delta_half.calls a0_0 true a0_3 a0_4 a0_5 a0_6 true _ A20.out).mono ?_); rintro e w32 ⟨rfl, hb⟩; refine ⟨_, rfl, ?_⟩; have n0_ := Aside0.mk (blk_below (g := gb232) (o := .cells #[.string a0_0, .bool true, .bool false, .string a0_3, .string a0_4, .int .i64 a0_5, .int .i64 a0_6, .string a0_7, .string a0_8, .int .i64 a0_9, .int .i64 a0_10] 61 (0, 0)) (by (with_reducible repeat (first | refine blk_drewN ?_ _ | refine blk_drew ?_ | refine blk_alloc ?_ _)); exact BK232.out) hb); have n1_ := Aside0.mk (below_step (by repeat (first | (with_reducible first | exact HB.out | apply below_alloc | apply pw_below_drewN | apply below_drew1 | refine below_set ?_ GE232.out) | exact HB.out)) hb); clear BK232; clear HB; have BK232 := n0_; have HB := n1_; clear n0_ n1_; (try clear hb); (try clear hb2); (try clear hk); (try clear hi); have hcz33_0 : w32.cell? ⟨gb232, 0, none⟩ = some (.string a0_0) := (blk_cell BK232.out 0).trans rfl; have hcz33_1 : w32.cell? ⟨gb232, 1, none⟩ = some (.bool true) := (blk_cell BK232.out 1).trans rfl; have hcz33_2 : w32.cell? ⟨gb232, 2, none⟩ = some (.bool false) := (blk_cell BK232.out 2).trans rfl; have hcz33_3 : w32.cell? ⟨gb232, 3, none⟩ = some (.string a0_3) := (blk_cell BK232.out 3).trans rfl; have hcz33_4 : w32.cell? ⟨gb232, 4, none⟩ = some (.string a0_4) := (blk_cell BK232.out 4).trans rfl; have hcz33_5 : w32.cell? ⟨gb232, 5, none⟩ = some (.int .i64 a0_5) := (blk_cell BK232.out 5).trans rfl; have hcz33_6 : w32.cell? ⟨gb232, 6, none⟩ = some (.int .i64 a0_6) := (blk_cell BK232.out 6).trans rfl; have hcz33_7 : w32.cell? ⟨gb232, 7, none⟩ = some (.string a0_7) := (blk_cell BK232.out 7).trans rfl; have hcz33_8 : w32.cell? ⟨gb232, 8, none⟩ = some (.string a0_8) := (blk_cell BK232.out 8).trans rfl; have hcz33_9 : w32.cell? ⟨gb232, 9, none⟩ = some (.int .i64 a0_9) := (blk_cell BK232.out 9).trans rfl; have hcz33_10 : w32.cell? ⟨gb232, 10, none⟩ = some (.int .i64 a0_10) := (blk_cell BK232.out 10).trans rfl; have hfz33_0 := blk_frozen BK232.out 0; have hfz33_1 := blk_frozen BK232.out 1; have hfz33_2 := blk_frozen BK232.out 2; have hfz33_3 := blk_frozen BK232.out 3; have hfz33_4 := blk_frozen BK232.out 4; have hfz33_5 := blk_frozen BK232.out 5; have hfz33_6 := blk_frozen BK232.out 6; have hfz33_7 := blk_frozen BK232.out 7; have hfz33_8 := blk_frozen BK232.out 8; have hfz33_9 := blk_frozen BK232.out 9; have hfz33_10 := blk_frozen BK232.out 10) | (go_at_call 86; (with_reducible refine (delta_half.calls a0_0 false a0_7 a0_8 a0_9 a0_10 true _ A22.out).mono ?_); rintro e w34 ⟨rfl, hb⟩; have n0_ := Aside0.mk (blk_below (g := gb232) (o := .cells #[.string a0_0, .bool true, .bool false, .string a0_3, .string a0_4, .int .i64 a0_5, .int .i64 a0_6, .string a0_7, .string a0_8, .int .i64 a0_9, .int .i64 a0_10] 61 (0, 0)) (by (with_reducible repeat (first | refine blk_drewN ?_ _ | refine blk_drew ?_ | refine blk_alloc ?_ _)); exact BK232.out) hb); have n1_ := Aside0.mk (below_step (by repeat (first | (with_reducible first | exact HB.out | apply below_alloc | apply pw_below_drewN | apply below_drew1 | refine below_set ?_ GE232.out) | exact HB.out)) hb); clear BK232; clear HB; have BK232 := n0_; have HB := n1_; clear n0_ n1_; (try clear hb); (try clear hb2); (try clear hk); (try clear hi); have hcz35_0 : w34.cell? ⟨gb232, 0, none⟩ = some (.string a0_0) := (blk_cell BK232.out 0).trans rfl; have hcz35_1 : w34.cell? ⟨gb232, 1, none⟩ = some (.bool true) := (blk_cell BK232.out 1).trans rfl; have hcz35_2 : w34.cell? ⟨gb232, 2, none⟩ = some (.bool false) := (blk_cell BK232.out 2).trans rfl; have hcz35_3 : w34.cell? ⟨gb232, 3, none⟩ = some (.string a0_3) := (blk_cell BK232.out 3).trans rfl; have hcz35_4 : w34.cell? ⟨gb232, 4, none⟩ = some (.string a0_4) := (blk_cell BK232.out 4).trans rfl; have hcz35_5 : w34.cell? ⟨gb232, 5, none⟩ = some (.int .i64 a0_5) := (blk_cell BK232.out 5).trans rfl; have hcz35_6 : w34.cell? ⟨gb232, 6, none⟩ = some (.int .i64 a0_6) := (blk_cell BK232.out 6).trans rfl; have hcz35_7 : w34.cell? ⟨gb232, 7, none⟩ = some (.string a0_7) := (blk_cell BK232.out 7).trans rfl; have hcz35_8 : w34.cell? ⟨gb232, 8, none⟩ = some (.string a0_8) := (blk_cell BK232.out 8).trans rfl; have hcz35_9 : w34.cell? ⟨gb232, 9, none⟩ = some (.int .i64 a0_9) := (blk_cell BK232.out 9).trans rfl; have hcz35_10 : w34.cell? ⟨gb232, 10, none⟩ = some (.int .i64 a0_10) := (blk_cell BK232.out 10).trans rfl; have hfz35_0 := blk_frozen BK232.out 0; have hfz35_1 := blk_frozen BK232.out 1; have hfz35_2 := blk_frozen BK232.out 2; have hfz35_3 := blk_frozen BK232.out 3; have hfz35_4 := blk_frozen BK232.out 4; have hfz35_5 := blk_frozen BK232.out 5; have hfz35_6 := blk_frozen BK232.out 6; have hfz35_7 := blk_frozen BK232.out 7; have hfz35_8 := blk_frozen BK232.out 8; have hfz35_9 := blk_frozen BK232.out 9; have hfz35_10 := blk_frozen BK232.out 10))
        go_ret
        exact ⟨by first | rfl | (simp [errW_none, errW_some] <;> rfl) | (simp [*, errW_none, errW_some] <;> rfl), by repeat (first | (with_reducible first | exact HB.out | apply below_alloc | apply pw_below_drewN | apply below_drew1 | refine below_set ?_ GE232.out) | exact HB.out)⟩
      ·replace c24 := Bool.eq_false_iff.mpr c24
       subst c24
       have H1 : (some (!false)) = some r := by rw [if_neg (show ¬ (false = true) by decide)] at H; exact H
       clear H
       have H := H1
       clear H1
       obtain rfl := Option.some.inj H
       have hcz36_0 : wc.cell? ⟨gb232, 0, none⟩ = some (.string a0_0) := (blk_cell BK232.out 0).trans rfl
       have hcz36_1 : wc.cell? ⟨gb232, 1, none⟩ = some (.bool false) := (blk_cell BK232.out 1).trans rfl
       have hcz36_2 : wc.cell? ⟨gb232, 2, none⟩ = some (.bool a0_2) := (blk_cell BK232.out 2).trans rfl
       have hcz36_3 : wc.cell? ⟨gb232, 3, none⟩ = some (.string a0_3) := (blk_cell BK232.out 3).trans rfl
       have hcz36_4 : wc.cell? ⟨gb232, 4, none⟩ = some (.string a0_4) := (blk_cell BK232.out 4).trans rfl
       have hcz36_5 : wc.cell? ⟨gb232, 5, none⟩ = some (.int .i64 a0_5) := (blk_cell BK232.out 5).trans rfl
       have hcz36_6 : wc.cell? ⟨gb232, 6, none⟩ = some (.int .i64 a0_6) := (blk_cell BK232.out 6).trans rfl
       have hcz36_7 : wc.cell? ⟨gb232, 7, none⟩ = some (.string a0_7) := (blk_cell BK232.out 7).trans rfl
       have hcz36_8 : wc.cell? ⟨gb232, 8, none⟩ = some (.string a0_8) := (blk_cell BK232.out 8).trans rfl
       have hcz36_9 : wc.cell? ⟨gb232, 9, none⟩ = some (.int .i64 a0_9) := (blk_cell BK232.out 9).trans rfl
       have hcz36_10 : wc.cell? ⟨gb232, 10, none⟩ = some (.int .i64 a0_10) := (blk_cell BK232.out 10).trans rfl
       have hfz36_0 := blk_frozen BK232.out 0
       have hfz36_1 := blk_frozen BK232.out 1
       have hfz36_2 := blk_frozen BK232.out 2
       have hfz36_3 := blk_frozen BK232.out 3
       have hfz36_4 := blk_frozen BK232.out 4
       have hfz36_5 := blk_frozen BK232.out 5
       have hfz36_6 := blk_frozen BK232.out 6
       have hfz36_7 := blk_frozen BK232.out 7
       have hfz36_8 := blk_frozen BK232.out 8
       have hfz36_9 := blk_frozen BK232.out 9
       have hfz36_10 := blk_frozen BK232.out 10
       go_wp2_with (first | ((with_reducible refine gate_callee (f := 86) rfl ?_); refine goesL_ (some 28) rfl rfl Tryd.func86 (by kernel_rfl) rfl #[.string a0_0, .bool false, .agg #[.string a0_3, .string a0_4, .int .i64 a0_5, .int .i64 a0_6]] rfl (by (try simp only [List.map_toArray, List.map_cons, List.map_nil]); first | done | rfl | (simp only [List.length_drop, List.length_take]; rfl)) ?_; (with_reducible refine (delta_half.calls a0_0 false a0_3 a0_4 a0_5 a0_6 true _ A20.out).mono ?_); rintro e w37 ⟨rfl, hb⟩; refine ⟨_, rfl, ?_⟩; have n0_ := Aside0.mk (blk_below (g := gb232) (o := .cells #[.string a0_0, .bool false, .bool a0_2, .string a0_3, .string a0_4, .int .i64 a0_5, .int .i64 a0_6, .string a0_7, .string a0_8, .int .i64 a0_9, .int .i64 a0_10] 61 (0, 0)) (by (with_reducible repeat (first | refine blk_drewN ?_ _ | refine blk_drew ?_ | refine blk_alloc ?_ _)); exact BK232.out) hb); have n1_ := Aside0.mk (below_step (by repeat (first | (with_reducible first | exact HB.out | apply below_alloc | apply pw_below_drewN | apply below_drew1 | refine below_set ?_ GE232.out) | exact HB.out)) hb); clear BK232; clear HB; have BK232 := n0_; have HB := n1_; clear n0_ n1_; (try clear hb); (try clear hb2); (try clear hk); (try clear hi); have hcz38_0 : w37.cell? ⟨gb232, 0, none⟩ = some (.string a0_0) := (blk_cell BK232.out 0).trans rfl; have hcz38_1 : w37.cell? ⟨gb232, 1, none⟩ = some (.bool false) := (blk_cell BK232.out 1).trans rfl; have hcz38_2 : w37.cell? ⟨gb232, 2, none⟩ = some (.bool a0_2) := (blk_cell BK232.out 2).trans rfl; have hcz38_3 : w37.cell? ⟨gb232, 3, none⟩ = some (.string a0_3) := (blk_cell BK232.out 3).trans rfl; have hcz38_4 : w37.cell? ⟨gb232, 4, none⟩ = some (.string a0_4) := (blk_cell BK232.out 4).trans rfl; have hcz38_5 : w37.cell? ⟨gb232, 5, none⟩ = some (.int .i64 a0_5) := (blk_cell BK232.out 5).trans rfl; have hcz38_6 : w37.cell? ⟨gb232, 6, none⟩ = some (.int .i64 a0_6) := (blk_cell BK232.out 6).trans rfl; have hcz38_7 : w37.cell? ⟨gb232, 7, none⟩ = some (.string a0_7) := (blk_cell BK232.out 7).trans rfl; have hcz38_8 : w37.cell? ⟨gb232, 8, none⟩ = some (.string a0_8) := (blk_cell BK232.out 8).trans rfl; have hcz38_9 : w37.cell? ⟨gb232, 9, none⟩ = some (.int .i64 a0_9) := (blk_cell BK232.out 9).trans rfl; have hcz38_10 : w37.cell? ⟨gb232, 10, none⟩ = some (.int .i64 a0_10) := (blk_cell BK232.out 10).trans rfl; have hfz38_0 := blk_frozen BK232.out 0; have hfz38_1 := blk_frozen BK232.out 1; have hfz38_2 := blk_frozen BK232.out 2; have hfz38_3 := blk_frozen BK232.out 3; have hfz38_4 := blk_frozen BK232.out 4; have hfz38_5 := blk_frozen BK232.out 5; have hfz38_6 := blk_frozen BK232.out 6; have hfz38_7 := blk_frozen BK232.out 7; have hfz38_8 := blk_frozen BK232.out 8; have hfz38_9 := blk_frozen BK232.out 9; have hfz38_10 := blk_frozen BK232.out 10) | (go_at_call 86; (with_reducible refine (delta_half.calls a0_0 a0_2 a0_7 a0_8 a0_9 a0_10 true _ A22.out).mono ?_); rintro e w39 ⟨rfl, hb⟩; have n0_ := Aside0.mk (blk_below (g := gb232) (o := .cells #[.string a0_0, .bool false, .bool a0_2, .string a0_3, .string a0_4, .int .i64 a0_5, .int .i64 a0_6, .string a0_7, .string a0_8, .int .i64 a0_9, .int .i64 a0_10] 61 (0, 0)) (by (with_reducible repeat (first | refine blk_drewN ?_ _ | refine blk_drew ?_ | refine blk_alloc ?_ _)); exact BK232.out) hb); have n1_ := Aside0.mk (below_step (by repeat (first | (with_reducible first | exact HB.out | apply below_alloc | apply pw_below_drewN | apply below_drew1 | refine below_set ?_ GE232.out) | exact HB.out)) hb); clear BK232; clear HB; have BK232 := n0_; have HB := n1_; clear n0_ n1_; (try clear hb); (try clear hb2); (try clear hk); (try clear hi); have hcz40_0 : w39.cell? ⟨gb232, 0, none⟩ = some (.string a0_0) := (blk_cell BK232.out 0).trans rfl; have hcz40_1 : w39.cell? ⟨gb232, 1, none⟩ = some (.bool false) := (blk_cell BK232.out 1).trans rfl; have hcz40_2 : w39.cell? ⟨gb232, 2, none⟩ = some (.bool a0_2) := (blk_cell BK232.out 2).trans rfl; have hcz40_3 : w39.cell? ⟨gb232, 3, none⟩ = some (.string a0_3) := (blk_cell BK232.out 3).trans rfl; have hcz40_4 : w39.cell? ⟨gb232, 4, none⟩ = some (.string a0_4) := (blk_cell BK232.out 4).trans rfl; have hcz40_5 : w39.cell? ⟨gb232, 5, none⟩ = some (.int .i64 a0_5) := (blk_cell BK232.out 5).trans rfl; have hcz40_6 : w39.cell? ⟨gb232, 6, none⟩ = some (.int .i64 a0_6) := (blk_cell BK232.out 6).trans rfl; have hcz40_7 : w39.cell? ⟨gb232, 7, none⟩ = some (.string a0_7) := (blk_cell BK232.out 7).trans rfl; have hcz40_8 : w39.cell? ⟨gb232, 8, none⟩ = some (.string a0_8) := (blk_cell BK232.out 8).trans rfl; have hcz40_9 : w39.cell? ⟨gb232, 9, none⟩ = some (.int .i64 a0_9) := (blk_cell BK232.out 9).trans rfl; have hcz40_10 : w39.cell? ⟨gb232, 10, none⟩ = some (.int .i64 a0_10) := (blk_cell BK232.out 10).trans rfl; have hfz40_0 := blk_frozen BK232.out 0; have hfz40_1 := blk_frozen BK232.out 1; have hfz40_2 := blk_frozen BK232.out 2; have hfz40_3 := blk_frozen BK232.out 3; have hfz40_4 := blk_frozen BK232.out 4; have hfz40_5 := blk_frozen BK232.out 5; have hfz40_6 := blk_frozen BK232.out 6; have hfz40_7 := blk_frozen BK232.out 7; have hfz40_8 := blk_frozen BK232.out 8; have hfz40_9 := blk_frozen BK232.out 9; have hfz40_10 := blk_frozen BK232.out 10))
       go_ret
       exact ⟨by first | rfl | (simp [errW_none, errW_some] <;> rfl) | (simp [*, errW_none, errW_some] <;> rfl), by repeat (first | (with_reducible first | exact HB.out | apply below_alloc | apply pw_below_drewN | apply below_drew1 | refine below_set ?_ GE232.out) | exact HB.out)⟩
     ·replace c23 := Bool.eq_false_iff.mpr c23
      subst c23
      have H1 : (some false) = some r := by rw [if_neg (show ¬ (false = true) by decide)] at H; exact H
      clear H
      have H := H1
      clear H1
      obtain rfl := Option.some.inj H
      have hcz41_0 : wc.cell? ⟨gb232, 0, none⟩ = some (.string a0_0) := (blk_cell BK232.out 0).trans rfl
      have hcz41_1 : wc.cell? ⟨gb232, 1, none⟩ = some (.bool a0_1) := (blk_cell BK232.out 1).trans rfl
      have hcz41_2 : wc.cell? ⟨gb232, 2, none⟩ = some (.bool a0_2) := (blk_cell BK232.out 2).trans rfl
      have hcz41_3 : wc.cell? ⟨gb232, 3, none⟩ = some (.string a0_3) := (blk_cell BK232.out 3).trans rfl
      have hcz41_4 : wc.cell? ⟨gb232, 4, none⟩ = some (.string a0_4) := (blk_cell BK232.out 4).trans rfl
      have hcz41_5 : wc.cell? ⟨gb232, 5, none⟩ = some (.int .i64 a0_5) := (blk_cell BK232.out 5).trans rfl
      have hcz41_6 : wc.cell? ⟨gb232, 6, none⟩ = some (.int .i64 a0_6) := (blk_cell BK232.out 6).trans rfl
      have hcz41_7 : wc.cell? ⟨gb232, 7, none⟩ = some (.string a0_7) := (blk_cell BK232.out 7).trans rfl
      have hcz41_8 : wc.cell? ⟨gb232, 8, none⟩ = some (.string a0_8) := (blk_cell BK232.out 8).trans rfl
      have hcz41_9 : wc.cell? ⟨gb232, 9, none⟩ = some (.int .i64 a0_9) := (blk_cell BK232.out 9).trans rfl
      have hcz41_10 : wc.cell? ⟨gb232, 10, none⟩ = some (.int .i64 a0_10) := (blk_cell BK232.out 10).trans rfl
      have hfz41_0 := blk_frozen BK232.out 0
      have hfz41_1 := blk_frozen BK232.out 1
      have hfz41_2 := blk_frozen BK232.out 2
      have hfz41_3 := blk_frozen BK232.out 3
      have hfz41_4 := blk_frozen BK232.out 4
      have hfz41_5 := blk_frozen BK232.out 5
      have hfz41_6 := blk_frozen BK232.out 6
      have hfz41_7 := blk_frozen BK232.out 7
      have hfz41_8 := blk_frozen BK232.out 8
      have hfz41_9 := blk_frozen BK232.out 9
      have hfz41_10 := blk_frozen BK232.out 10
      go_wp2_with (first | ((with_reducible refine gate_callee (f := 86) rfl ?_); refine goesL_ (some 28) rfl rfl Tryd.func86 (by kernel_rfl) rfl #[.string a0_0, .bool a0_1, .agg #[.string a0_3, .string a0_4, .int .i64 a0_5, .int .i64 a0_6]] rfl (by (try simp only [List.map_toArray, List.map_cons, List.map_nil]); first | done | rfl | (simp only [List.length_drop, List.length_take]; rfl)) ?_; (with_reducible refine (delta_half.calls a0_0 a0_1 a0_3 a0_4 a0_5 a0_6 true _ A20.out).mono ?_); rintro e w42 ⟨rfl, hb⟩; refine ⟨_, rfl, ?_⟩; have n0_ := Aside0.mk (blk_below (g := gb232) (o := .cells #[.string a0_0, .bool a0_1, .bool a0_2, .string a0_3, .string a0_4, .int .i64 a0_5, .int .i64 a0_6, .string a0_7, .string a0_8, .int .i64 a0_9, .int .i64 a0_10] 61 (0, 0)) (by (with_reducible repeat (first | refine blk_drewN ?_ _ | refine blk_drew ?_ | refine blk_alloc ?_ _)); exact BK232.out) hb); have n1_ := Aside0.mk (below_step (by repeat (first | (with_reducible first | exact HB.out | apply below_alloc | apply pw_below_drewN | apply below_drew1 | refine below_set ?_ GE232.out) | exact HB.out)) hb); clear BK232; clear HB; have BK232 := n0_; have HB := n1_; clear n0_ n1_; (try clear hb); (try clear hb2); (try clear hk); (try clear hi); have hcz43_0 : w42.cell? ⟨gb232, 0, none⟩ = some (.string a0_0) := (blk_cell BK232.out 0).trans rfl; have hcz43_1 : w42.cell? ⟨gb232, 1, none⟩ = some (.bool a0_1) := (blk_cell BK232.out 1).trans rfl; have hcz43_2 : w42.cell? ⟨gb232, 2, none⟩ = some (.bool a0_2) := (blk_cell BK232.out 2).trans rfl; have hcz43_3 : w42.cell? ⟨gb232, 3, none⟩ = some (.string a0_3) := (blk_cell BK232.out 3).trans rfl; have hcz43_4 : w42.cell? ⟨gb232, 4, none⟩ = some (.string a0_4) := (blk_cell BK232.out 4).trans rfl; have hcz43_5 : w42.cell? ⟨gb232, 5, none⟩ = some (.int .i64 a0_5) := (blk_cell BK232.out 5).trans rfl; have hcz43_6 : w42.cell? ⟨gb232, 6, none⟩ = some (.int .i64 a0_6) := (blk_cell BK232.out 6).trans rfl; have hcz43_7 : w42.cell? ⟨gb232, 7, none⟩ = some (.string a0_7) := (blk_cell BK232.out 7).trans rfl; have hcz43_8 : w42.cell? ⟨gb232, 8, none⟩ = some (.string a0_8) := (blk_cell BK232.out 8).trans rfl; have hcz43_9 : w42.cell? ⟨gb232, 9, none⟩ = some (.int .i64 a0_9) := (blk_cell BK232.out 9).trans rfl; have hcz43_10 : w42.cell? ⟨gb232, 10, none⟩ = some (.int .i64 a0_10) := (blk_cell BK232.out 10).trans rfl; have hfz43_0 := blk_frozen BK232.out 0; have hfz43_1 := blk_frozen BK232.out 1; have hfz43_2 := blk_frozen BK232.out 2; have hfz43_3 := blk_frozen BK232.out 3; have hfz43_4 := blk_frozen BK232.out 4; have hfz43_5 := blk_frozen BK232.out 5; have hfz43_6 := blk_frozen BK232.out 6; have hfz43_7 := blk_frozen BK232.out 7; have hfz43_8 := blk_frozen BK232.out 8; have hfz43_9 := blk_frozen BK232.out 9; have hfz43_10 := blk_frozen BK232.out 10) | (go_at_call 86; (with_reducible refine (delta_half.calls a0_0 a0_2 a0_7 a0_8 a0_9 a0_10 false _ A22.out).mono ?_); rintro e w44 ⟨rfl, hb⟩; have n0_ := Aside0.mk (blk_below (g := gb232) (o := .cells #[.string a0_0, .bool a0_1, .bool a0_2, .string a0_3, .string a0_4, .int .i64 a0_5, .int .i64 a0_6, .string a0_7, .string a0_8, .int .i64 a0_9, .int .i64 a0_10] 61 (0, 0)) (by (with_reducible repeat (first | refine blk_drewN ?_ _ | refine blk_drew ?_ | refine blk_alloc ?_ _)); exact BK232.out) hb); have n1_ := Aside0.mk (below_step (by repeat (first | (with_reducible first | exact HB.out | apply below_alloc | apply pw_below_drewN | apply below_drew1 | refine below_set ?_ GE232.out) | exact HB.out)) hb); clear BK232; clear HB; have BK232 := n0_; have HB := n1_; clear n0_ n1_; (try clear hb); (try clear hb2); (try clear hk); (try clear hi)))
      go_ret
      exact ⟨by first | rfl | (simp [errW_none, errW_some] <;> rfl) | (simp [*, errW_none, errW_some] <;> rfl), by repeat (first | (with_reducible first | exact HB.out | apply below_alloc | apply pw_below_drewN | apply below_drew1 | refine below_set ?_ GE232.out) | exact HB.out)⟩
    ·replace c21 := Bool.eq_false_iff.mpr c21
     subst c21
     have H1 : (some false) = some r := by rw [if_neg (show ¬ (false = true) by decide)] at H; exact H
     clear H
     have H := H1
     clear H1
     obtain rfl := Option.some.inj H
     have hcz45_0 : wc.cell? ⟨gb232, 0, none⟩ = some (.string a0_0) := (blk_cell BK232.out 0).trans rfl
     have hcz45_1 : wc.cell? ⟨gb232, 1, none⟩ = some (.bool a0_1) := (blk_cell BK232.out 1).trans rfl
     have hcz45_2 : wc.cell? ⟨gb232, 2, none⟩ = some (.bool a0_2) := (blk_cell BK232.out 2).trans rfl
     have hcz45_3 : wc.cell? ⟨gb232, 3, none⟩ = some (.string a0_3) := (blk_cell BK232.out 3).trans rfl
     have hcz45_4 : wc.cell? ⟨gb232, 4, none⟩ = some (.string a0_4) := (blk_cell BK232.out 4).trans rfl
     have hcz45_5 : wc.cell? ⟨gb232, 5, none⟩ = some (.int .i64 a0_5) := (blk_cell BK232.out 5).trans rfl
     have hcz45_6 : wc.cell? ⟨gb232, 6, none⟩ = some (.int .i64 a0_6) := (blk_cell BK232.out 6).trans rfl
     have hcz45_7 : wc.cell? ⟨gb232, 7, none⟩ = some (.string a0_7) := (blk_cell BK232.out 7).trans rfl
     have hcz45_8 : wc.cell? ⟨gb232, 8, none⟩ = some (.string a0_8) := (blk_cell BK232.out 8).trans rfl
     have hcz45_9 : wc.cell? ⟨gb232, 9, none⟩ = some (.int .i64 a0_9) := (blk_cell BK232.out 9).trans rfl
     have hcz45_10 : wc.cell? ⟨gb232, 10, none⟩ = some (.int .i64 a0_10) := (blk_cell BK232.out 10).trans rfl
     have hfz45_0 := blk_frozen BK232.out 0
     have hfz45_1 := blk_frozen BK232.out 1
     have hfz45_2 := blk_frozen BK232.out 2
     have hfz45_3 := blk_frozen BK232.out 3
     have hfz45_4 := blk_frozen BK232.out 4
     have hfz45_5 := blk_frozen BK232.out 5
     have hfz45_6 := blk_frozen BK232.out 6
     have hfz45_7 := blk_frozen BK232.out 7
     have hfz45_8 := blk_frozen BK232.out 8
     have hfz45_9 := blk_frozen BK232.out 9
     have hfz45_10 := blk_frozen BK232.out 10
     go_wp2_with (first | ((with_reducible refine gate_callee (f := 86) rfl ?_); refine goesL_ (some 28) rfl rfl Tryd.func86 (by kernel_rfl) rfl #[.string a0_0, .bool a0_1, .agg #[.string a0_3, .string a0_4, .int .i64 a0_5, .int .i64 a0_6]] rfl (by (try simp only [List.map_toArray, List.map_cons, List.map_nil]); first | done | rfl | (simp only [List.length_drop, List.length_take]; rfl)) ?_; (with_reducible refine (delta_half.calls a0_0 a0_1 a0_3 a0_4 a0_5 a0_6 false _ A20.out).mono ?_); rintro e w46 ⟨rfl, hb⟩; refine ⟨_, rfl, ?_⟩; have n0_ := Aside0.mk (blk_below (g := gb232) (o := .cells #[.string a0_0, .bool a0_1, .bool a0_2, .string a0_3, .string a0_4, .int .i64 a0_5, .int .i64 a0_6, .string a0_7, .string a0_8, .int .i64 a0_9, .int .i64 a0_10] 61 (0, 0)) (by (with_reducible repeat (first | refine blk_drewN ?_ _ | refine blk_drew ?_ | refine blk_alloc ?_ _)); exact BK232.out) hb); have n1_ := Aside0.mk (below_step (by repeat (first | (with_reducible first | exact HB.out | apply below_alloc | apply pw_below_drewN | apply below_drew1 | refine below_set ?_ GE232.out) | exact HB.out)) hb); clear BK232; clear HB; have BK232 := n0_; have HB := n1_; clear n0_ n1_; (try clear hb); (try clear hb2); (try clear hk); (try clear hi)))
     go_ret
     exact ⟨by first | rfl | (simp [errW_none, errW_some] <;> rfl) | (simp [*, errW_none, errW_some] <;> rfl), by repeat (first | (with_reducible first | exact HB.out | apply below_alloc | apply pw_below_drewN | apply below_drew1 | refine below_set ?_ GE232.out) | exact HB.out)⟩
end Go.Proofs.YtehfogjibhnabaaDoor.PAll
