/- PathsAll: the law's printed function answers true, of any lists whose texts and lengths are not too great. -/
import Derived.Test.YtdfkaclflmgkeaaDoorPAllx0
import Derived.Test.YtdfkaclflmgkeaaDoorHandB
import Derived.Test.YtdfkaclflmgkeaaDoorPAlly0
import Derived.Test.YtdfkaclflmgkeaaDoorPAlly23
import Derived.Test.YtdfkaclflmgkeaaDoorPAlly24
import Derived.Test.YtdfkaclflmgkeaaDoorPAlly25
import Derived.Test.YtdfkaclflmgkeaaDoorPAlly3
import Derived.Test.YtdfkaclflmgkeaaDoorPure1
import Derived.Test.YtdfkaclflmgkeaaDoorPure2
import Derived.Test.YtdfkaclflmgkeaaDoorPure3
import Derived.Test.YtdfkaclflmgkeaaDoorPure4
import Derived.Test.YtdfkaclflmgkeaaDoorPure5
import Derived.Test.YtdfkaclflmgkeaaDoorSpec
namespace Go.Proofs.YtdfkaclflmgkeaaDoor.PAll
open Go.RowKit Go.Proofs.YtdfkaclflmgkeaaDoorW.PrintWords Go.Proofs.YtdfkaclflmgkeaaDoorW.PrintLast Go.Proofs.YtdfkaclflmgkeaaDoorW.PrintMore
open Go.Proofs.YtdfkaclflmgkeaaDoor.Sp
theorem texts_run (l : List ByteArray) (hl : l.length ≤ 4294967296) (d : Nat) : ∀ i, l.length - i = d → i ≤ l.length → Ev (fun k => copselaw03_texts.l0 k l l (i : Int)) true := by
  induction d with
  | zero =>
    intro i hd hi
    refine ⟨1, fun k hk => ?_⟩
    obtain ⟨k, rfl⟩ : ∃ m, k = m + 1 := ⟨k - 1, by omega⟩
    simp only [copselaw03_texts.l0]
    rw [if_neg (by omega)]
  | succ d ih =>
    intro i hd hi
    obtain ⟨K, hK⟩ := ih (i + 1) (by omega) (by omega)
    dsimp only at hK
    refine ⟨K + 1, fun k hk => ?_⟩
    obtain ⟨k, rfl⟩ : ∃ m, k = m + 1 := ⟨k - 1, by omega⟩
    simp only [copselaw03_texts.l0]
    rw [if_pos (by omega), if_pos (by omega), if_pos (by omega), if_true, wrap_succ (n := l.length) (by omega) (by omega)]
    exact hK k (by omega)
theorem texts_same (l : List ByteArray) (hl : l.length ≤ 4294967296) : Ev (fun k => copselaw03_texts.f k l l) true := by
  refine Ev.congr (fun k => ?_) (texts_run l hl l.length 0 (by omega) (by omega))
  unfold copselaw03_texts.f
  rw [if_pos rfl]; rfl
theorem lent1_run (l : List ByteArray) (hl : l.length ≤ 4294967296) (d : Nat) : ∀ (x : List ByteArray) (i : Nat), x.length = l.length + 30 → x.length - i = d → l.length ≤ i → i ≤ x.length → (∀ j, j < l.length → x[j]? = l[j]?) →
    ∃ r, Ev (fun k => copselaw03_lent.l1 k x (i : Int)) r ∧ r.length = l.length + 30 ∧ ∀ j, j < l.length → r[j]? = l[j]? := by
  induction d with
  | zero =>
    intro x i h1 h2 h3 h4 h5
    refine ⟨x, ⟨1, fun k hk => ?_⟩, h1, h5⟩
    obtain ⟨k, rfl⟩ : ∃ m, k = m + 1 := ⟨k - 1, by omega⟩
    simp only [copselaw03_lent.l1]
    rw [if_neg (by omega)]
  | succ d ih =>
    intro x i h1 h2 h3 h4 h5
    obtain ⟨r, ⟨K, hK⟩, h6, h7⟩ := ih (x.set i (⟨#[63]⟩ : ByteArray)) (i + 1) (by simpa using h1) (by simp; omega) (by omega) (by simp; omega) (fun j hj => by rw [List.getElem?_set_ne (by omega)]; exact h5 j hj)
    dsimp only at hK
    refine ⟨r, ⟨K + 1, fun k hk => ?_⟩, h6, h7⟩
    obtain ⟨k, rfl⟩ : ∃ m, k = m + 1 := ⟨k - 1, by omega⟩
    simp only [copselaw03_lent.l1]
    rw [if_pos (by omega), if_pos (by omega), wrap_succ (n := x.length) (by omega) (by omega), Int.toNat_natCast]
    exact hK k (by omega)
theorem lent0_run (l : List ByteArray) (hl : l.length ≤ 4294967296) (d : Nat) : ∀ (x : List ByteArray) (i : Nat), x.length = l.length + 30 → l.length - i = d → i ≤ l.length → (∀ j, j < i → x[j]? = l[j]?) →
    ∃ r, Ev (fun k => copselaw03_lent.l0 k l x (i : Int)) r ∧ r.length = l.length + 30 ∧ ∀ j, j < l.length → r[j]? = l[j]? := by
  induction d with
  | zero =>
    intro x i h1 h2 h3 h5
    obtain ⟨r, ⟨K, hK⟩, h6, h7⟩ := lent1_run l hl (x.length - l.length) x l.length h1 rfl (Nat.le_refl _) (by omega) (fun j hj => h5 j (by omega))
    dsimp only at hK
    refine ⟨r, ⟨K + 1, fun k hk => ?_⟩, h6, h7⟩
    obtain ⟨k, rfl⟩ : ∃ m, k = m + 1 := ⟨k - 1, by omega⟩
    simp only [copselaw03_lent.l0]
    rw [if_neg (by omega)]
    exact hK k (by omega)
  | succ d ih =>
    intro x i h1 h2 h3 h5
    obtain ⟨r, ⟨K, hK⟩, h6, h7⟩ := ih (x.set i (rdOf ByteArray.empty l (i : Int))) (i + 1) (by simpa using h1) (by omega) (by omega) (fun j hj => by
      by_cases e : j = i
      · subst e
        rw [List.getElem?_set_self (by omega), rdOf_getD, List.getD_eq_getElem?_getD, List.getElem?_eq_getElem (by omega)]; rfl
      · rw [List.getElem?_set_ne (by omega)]; exact h5 j (by omega))
    dsimp only at hK
    refine ⟨r, ⟨K + 1, fun k hk => ?_⟩, h6, h7⟩
    obtain ⟨k, rfl⟩ : ∃ m, k = m + 1 := ⟨k - 1, by omega⟩
    simp only [copselaw03_lent.l0]
    rw [if_pos (by omega), if_pos (by omega), if_pos (by omega), wrap_succ (n := l.length) (by omega) (by omega), Int.toNat_natCast]
    exact hK k (by omega)
theorem lent_ev (l : List ByteArray) (hl : l.length ≤ 4294967296) : ∃ r, Ev (fun k => copselaw03_lent.f k l) r ∧ r.length = l.length + 30 ∧ r.take l.length = l := by
  obtain ⟨r, h, h1, h2⟩ := lent0_run l hl l.length (List.replicate (l.length + 30) (⟨#[]⟩ : ByteArray)) 0 (by simp) (by omega) (by omega) (by simp)
  refine ⟨r, Ev.congr (fun k => ?_) h, h1, ?_⟩
  · unfold copselaw03_lent.f
    rw [wrap_add (by omega) (by omega), if_pos (by omega), if_pos (by omega), show ((l.length : Int) + 30).toNat = l.length + 30 by omega]; rfl
  · apply List.ext_getElem?
    intro j
    rw [List.getElem?_take]
    by_cases hj : j < l.length
    · rw [if_pos hj, h2 j hj]
    · rw [if_neg hj, List.getElem?_eq_none (by omega)]
theorem Ev.pair {α β : Type} {g : Nat → Option α} {h : Nat → Option β} {a : α} {b : β} (h1 : Ev g a) (h2 : Ev h b) : Ev (fun k => (g k).bind fun x => (h k).bind fun y => some (x, y)) (a, b) :=
  Ev.bind (f := fun k x => (h k).bind fun y => some (x, y)) h1 (Ev.bind (f := fun _ y => some (a, y)) h2 (ev_pure fun _ => rfl))
theorem called_same (n : Nat) (a b : List ByteArray) (ha : a.length ≤ 1073741824) (hb : b.length ≤ 1073741824) (hfa : Fits a) (hfb : Fits b) : ∃ r, Ev (fun k => copselaw03_called.f k (n : Int) a b a b) (r, r) ∧ r.length ≤ 4294967296 := by
  have hn := norm_length_le
  by_cases h0 : n = 0
  · subst h0
    refine ⟨norm a, ?_, by have := hn a; omega⟩
    refine Ev.congr (fun k => by unfold copselaw03_called.f; rw [if_pos (by omega)]) (Ev.pair (prog_norm a (by omega) hfa) (ref_norm a (by omega) hfa))
  by_cases h1 : n = 1
  · subst h1
    refine ⟨norm (a ++ b), ?_, by have := hn (a ++ b); rw [List.length_append] at this; omega⟩
    refine Ev.congr (fun k => by unfold copselaw03_called.f; rw [if_neg (by omega), if_pos (by omega)]) (Ev.pair (prog_union a b ha hb hfa hfb) (ref_union a b ha hb hfa hfb))
  by_cases h2 : n = 2
  · subst h2
    refine ⟨norm (a.filter fun x => decide (x ∈ b) == false), ?_, by have := hn (a.filter fun x => decide (x ∈ b) == false); have := List.length_filter_le (fun x => decide (x ∈ b) == false) a; omega⟩
    refine Ev.congr (fun k => by unfold copselaw03_called.f; rw [if_neg (by omega), if_neg (by omega), if_pos (by omega)]) (Ev.pair (prog_minus a b ha hb hfa hfb) (ref_minus a b ha hb hfa))
  by_cases h3 : n = 3
  · subst h3
    refine ⟨norm (a.filter fun x => decide (x ∈ b) == true), ?_, by have := hn (a.filter fun x => decide (x ∈ b) == true); have := List.length_filter_le (fun x => decide (x ∈ b) == true) a; omega⟩
    refine Ev.congr (fun k => by unfold copselaw03_called.f; rw [if_neg (by omega), if_neg (by omega), if_neg (by omega), if_pos (by omega)]) (Ev.pair (prog_meet a b ha hb hfa hfb) (ref_meet a b ha hb hfa))
  by_cases h4 : n = 4
  · subst h4
    refine ⟨norm (a.map dirB), ?_, by have := hn (a.map dirB); rw [List.length_map] at this; omega⟩
    refine Ev.congr (fun k => by unfold copselaw03_called.f; rw [if_neg (by omega), if_neg (by omega), if_neg (by omega), if_neg (by omega), if_pos (by omega)]) (Ev.pair (prog_dirs a ha hfa) (ref_dirs a ha hfa))
  refine ⟨heads a, ?_, by unfold heads; have := hn (a.filter (isHead a)); have := List.length_filter_le (isHead a) a; omega⟩
  refine Ev.congr (fun k => by unfold copselaw03_called.f; rw [if_neg (by omega), if_neg (by omega), if_neg (by omega), if_neg (by omega), if_neg (by omega)]) (Ev.pair (prog_heads a ha hfa) (ref_heads a ha hfa))
theorem alive_ev : Ev (fun k => copselaw03_alive.f k) true := Ev.of copselaw03_alive.mono (k := 20) (by kernel_rfl)
theorem all_l2 (a b : List ByteArray) (n : Int) (g : List ByteArray) (hg : g.length ≤ 4294967296) (h : Ev (fun k => copselaw03_PathsAll.l0 k a b (wrap64 (n + 1))) true) (d : Nat) : ∀ (y : List ByteArray) (i : Nat), y.length ≤ 4294967296 → y.length - i = d → i ≤ y.length →
    Ev (fun k => copselaw03_PathsAll.l2 k a b n y g g (i : Int)) true := by
  induction d with
  | zero =>
    intro y i h1 h2 h3
    obtain ⟨K, hK⟩ := h
    dsimp only at hK
    obtain ⟨K2, hK2⟩ := texts_same g hg
    dsimp only at hK2
    refine ⟨max K K2 + 1, fun k hk => ?_⟩
    obtain ⟨k, rfl⟩ : ∃ m, k = m + 1 := ⟨k - 1, by omega⟩
    simp only [copselaw03_PathsAll.l2]
    rw [if_neg (by omega), hK2 k (by omega), Option.bind_some, if_pos rfl]
    exact hK k (by omega)
  | succ d ih =>
    intro y i h1 h2 h3
    obtain ⟨K, hK⟩ := ih (y.set i (⟨#[37]⟩ : ByteArray)) (i + 1) (by simpa using h1) (by simp; omega) (by simp; omega)
    dsimp only at hK
    refine ⟨K + 1, fun k hk => ?_⟩
    obtain ⟨k, rfl⟩ : ∃ m, k = m + 1 := ⟨k - 1, by omega⟩
    simp only [copselaw03_PathsAll.l2]
    rw [if_pos (by omega), if_pos (by omega), wrap_succ (n := y.length) (by omega) (by omega), Int.toNat_natCast]
    exact hK k (by omega)
theorem all_l1 (a b : List ByteArray) (n : Int) (g y : List ByteArray) (hg : g.length ≤ 4294967296) (hy : y.length ≤ 4294967296) (h : Ev (fun k => copselaw03_PathsAll.l0 k a b (wrap64 (n + 1))) true) (d : Nat) : ∀ (x : List ByteArray) (i : Nat), x.length ≤ 4294967296 → x.length - i = d → i ≤ x.length →
    Ev (fun k => copselaw03_PathsAll.l1 k a b n x y g g (i : Int)) true := by
  induction d with
  | zero =>
    intro x i h1 h2 h3
    obtain ⟨K, hK⟩ := all_l2 a b n g hg h y.length y 0 hy (by omega) (by omega)
    dsimp only at hK
    refine ⟨K + 1, fun k hk => ?_⟩
    obtain ⟨k, rfl⟩ : ∃ m, k = m + 1 := ⟨k - 1, by omega⟩
    simp only [copselaw03_PathsAll.l1]
    rw [if_neg (by omega)]
    exact hK k (by omega)
  | succ d ih =>
    intro x i h1 h2 h3
    obtain ⟨K, hK⟩ := ih (x.set i (⟨#[37]⟩ : ByteArray)) (i + 1) (by simpa using h1) (by simp; omega) (by simp; omega)
    dsimp only at hK
    refine ⟨K + 1, fun k hk => ?_⟩
    obtain ⟨k, rfl⟩ : ∃ m, k = m + 1 := ⟨k - 1, by omega⟩
    simp only [copselaw03_PathsAll.l1]
    rw [if_pos (by omega), if_pos (by omega), wrap_succ (n := x.length) (by omega) (by omega), Int.toNat_natCast]
    exact hK k (by omega)
theorem all_l0 (a b : List ByteArray) (ha : a.length ≤ 1073741824) (hb : b.length ≤ 1073741824) (hfa : Fits a) (hfb : Fits b) (d : Nat) : ∀ n : Nat, 6 - n = d → n ≤ 6 → Ev (fun k => copselaw03_PathsAll.l0 k a b (n : Int)) true := by
  induction d with
  | zero =>
    intro n hd hn
    refine ⟨1, fun k hk => ?_⟩
    obtain ⟨k, rfl⟩ : ∃ m, k = m + 1 := ⟨k - 1, by omega⟩
    simp only [copselaw03_PathsAll.l0]
    rw [if_neg (by omega)]
  | succ d ih =>
    intro n hd hn
    obtain ⟨x, hx, hx1, hx2⟩ := lent_ev a (by omega)
    obtain ⟨y, hy, hy1, hy2⟩ := lent_ev b (by omega)
    obtain ⟨g, hg, hgl⟩ := called_same n a b ha hb hfa hfb
    have hnext : Ev (fun k => copselaw03_PathsAll.l0 k a b (wrap64 ((n : Int) + 1))) true := by
      rw [wrap_succ (n := 6) (by omega) (by omega)]; exact ih (n + 1) (by omega) (by omega)
    obtain ⟨K, hK⟩ := all_l1 a b n g y hgl (by omega) hnext x.length x 0 (by omega) (by omega) (by omega)
    obtain ⟨K1, hK1⟩ := hx
    obtain ⟨K2, hK2⟩ := hy
    obtain ⟨K3, hK3⟩ := hg
    obtain ⟨K4, hK4⟩ := texts_same g hgl
    obtain ⟨K5, hK5⟩ := texts_same x (by omega)
    obtain ⟨K6, hK6⟩ := texts_same y (by omega)
    dsimp only at hK hK1 hK2 hK3 hK4 hK5 hK6
    refine ⟨max K (max K1 (max K2 (max K3 (max K4 (max K5 K6))))) + 2, fun k hk => ?_⟩
    obtain ⟨k, rfl⟩ : ∃ m, k = m + 2 := ⟨k - 2, by omega⟩
    simp only [copselaw03_PathsAll.l0, copselaw03_PathsAll.j2]
    rw [if_pos (by omega), hK1 (k + 1) (by omega), Option.bind_some, hK2 (k + 1) (by omega), Option.bind_some, if_pos (by omega), if_pos (by omega), if_pos (by omega), if_pos (by omega), Int.toNat_natCast, Int.toNat_natCast, hx2, hy2, hK3 (k + 1) (by omega), Option.bind_some]
    simp only []
    rw [hK4 (k + 1) (by omega), Option.bind_some, if_pos rfl, Option.bind_some, hK5 (k + 1) (by omega), Option.bind_some, if_pos rfl, Option.bind_some, hK6 (k + 1) (by omega), Option.bind_some]
    simp only [Bool.not_true, Bool.false_eq_true, if_false]
    exact hK k (by omega)
theorem PathsAll (a b : List ByteArray) (p : ByteArray) (ha : a.length ≤ 1073741824) (hb : b.length ≤ 1073741824) (hfa : Fits a) (hfb : Fits b) : ∃ k, copselaw03_PathsAll.f k a b p = some true := by
  obtain ⟨K, hK⟩ := all_l0 a b ha hb hfa hfb 6 0 (by omega) (by omega)
  obtain ⟨K1, hK1⟩ := alive_ev
  obtain ⟨K2, hK2⟩ := prog_has a p (by omega)
  obtain ⟨K3, hK3⟩ := ref_has a p (by omega)
  obtain ⟨K4, hK4⟩ := prog_has b p (by omega)
  obtain ⟨K5, hK5⟩ := ref_has b p (by omega)
  dsimp only at hK hK1 hK2 hK3 hK4 hK5
  refine ⟨max K (max K1 (max K2 (max K3 (max K4 K5)))) + 1, ?_⟩
  unfold copselaw03_PathsAll.f
  rw [hK1 _ (by omega), Option.bind_some, if_pos rfl, hK2 _ (by omega), Option.bind_some, hK3 _ (by omega), Option.bind_some, if_neg (by simp), hK4 _ (by omega), Option.bind_some, hK5 _ (by omega), Option.bind_some]
  simp only [bne_self_eq_false, copselaw03_PathsAll.j0, Bool.false_eq_true, if_false]
  exact hK _ (by omega)
end Go.Proofs.YtdfkaclflmgkeaaDoor.PAll
