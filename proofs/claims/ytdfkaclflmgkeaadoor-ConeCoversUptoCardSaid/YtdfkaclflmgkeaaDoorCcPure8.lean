/- ConeCovers: the law's printed function answers true, of any list whose texts and length are not too great. -/
import Derived.Test.YtdfkaclflmgkeaaDoorCcPAllx0
import Derived.Test.YtdfkaclflmgkeaaDoorCcHandB
import Derived.Test.YtdfkaclflmgkeaaDoorCcHandD
import Derived.Test.YtdfkaclflmgkeaaDoorCcPAlly15
import Derived.Test.YtdfkaclflmgkeaaDoorCcPAlly18
import Derived.Test.YtdfkaclflmgkeaaDoorCcPAlly26
import Derived.Test.YtdfkaclflmgkeaaDoorCcPAlly28
import Derived.Test.YtdfkaclflmgkeaaDoorCcPure1
import Derived.Test.YtdfkaclflmgkeaaDoorCcPure2
import Derived.Test.YtdfkaclflmgkeaaDoorCcPure3
import Derived.Test.YtdfkaclflmgkeaaDoorCcPure5
import Derived.Test.YtdfkaclflmgkeaaDoorCcPure7
import Derived.Test.YtdfkaclflmgkeaaDoorCcSpec
namespace Go.Proofs.YtdfkaclflmgkeaaDoor.PAll
open Go.RowKit Go.Proofs.YtdfkaclflmgkeaaDoorW.PrintWords Go.Proofs.YtdfkaclflmgkeaaDoorW.PrintLast Go.Proofs.YtdfkaclflmgkeaaDoorW.PrintMore
open Go.Proofs.YtdfkaclflmgkeaaDoor.Sp
theorem mem_heads {l : List ByteArray} {x : ByteArray} : x ∈ heads l ↔ x ∈ l ∧ ∀ y ∈ l, aboveB y x = false := by
 unfold heads; rw [mem_norm, List.mem_filter, isHead_iff]
theorem rises_heads (l : List ByteArray) : Rises (heads l) := rises_norm _
theorem heads_length (l : List ByteArray) : (heads l).length ≤ l.length := Nat.le_trans (norm_length_le _) (List.length_filter_le _ _)
theorem head_of (l : List ByteArray) (n : Nat) : ∀ x ∈ l, (pB x).length = n → ∃ h ∈ heads l, h = x ∨ aboveB h x = true := by
 induction n using Nat.strongRecOn with
 | _ n ih =>
  intro x hx hn
  by_cases c : ∀ y ∈ l, aboveB y x = false
  ·exact ⟨x, mem_heads.2 ⟨hx, c⟩, .inl rfl⟩
  ·simp only [Classical.not_forall] at c
   obtain ⟨y, hy, hyx⟩ := c
   have hyx : aboveB y x = true := by simpa using hyx
   have hlt := ((above_iff _ _).1 hyx).2
   obtain ⟨h, hh, e⟩ := ih (pB y).length (by omega) y hy rfl
   refine ⟨h, hh, .inr ?_⟩
   rcases e with rfl | e
   ·exact hyx
   ·exact above_trans e hyx
theorem coneR_of : ∀ (l : List ByteArray) (o : Option ByteArray), (∀ x ∈ l, validB x = true) → Rises l → (∀ x ∈ l, ∀ y ∈ l, aboveB y x = false) → (∀ y, o = some y → ∀ x ∈ l, cB y x < 0 ∧ aboveB y x = false) → coneR o l = true
 | [], o, _, _, _, _ => by cases o <;> simp [coneR]
 | x :: r, o, hv, hr, ha, ho => by
  have ih := coneR_of r (some x) (fun z hz => hv z (List.mem_cons_of_mem _ hz)) (List.pairwise_cons.1 hr).2 (fun z hz y hy => ha z (List.mem_cons_of_mem _ hz) y (List.mem_cons_of_mem _ hy))
   (fun y e z hz => by cases e; exact ⟨(List.pairwise_cons.1 hr).1 z hz, ha z (List.mem_cons_of_mem _ hz) x List.mem_cons_self⟩)
  have hx := hv x List.mem_cons_self
  cases o with
  | none => simp [coneR, hx, ih]
  | some y => have := ho y rfl x List.mem_cons_self; simp [coneR, hx, ih, this.1, this.2]
theorem aliveC_ev : Ev (fun k => copselaw15_alive.f k) true := Ev.of copselaw15_alive.mono (k := 40) (by kernel_rfl)
theorem fits_heads {l : List ByteArray} (h : Fits l) : Fits (heads l) := fun p hp => h p (mem_heads.1 hp).1
theorem shows_all (l : List ByteArray) (p : ByteArray) (hp : p ∈ l) : showsB (heads (dirsL l)) p = true := by
 unfold showsB
 by_cases h : bs (dirB p) = []
 ·simp [h]
 ·obtain ⟨c, hc, e⟩ := head_of (dirsL l) _ (dirB p) (mem_dirsL.2 ⟨h, p, hp, rfl⟩) rfl
  simp only [h, decide_false, Bool.false_or, List.any_eq_true]
  refine ⟨c, hc, ?_⟩
  rcases e with rfl | e
  ·simp [nearB]
  ·simp [nearB, e]
theorem shows_none (L : List ByteArray) (i : Nat) (hi : i < (heads L).length) (p : ByteArray) (hne : bs (dirB p) ≠ []) (hd : dirB p = rdOf ByteArray.empty (heads L) (i : Int)) : showsB ((heads L).take i ++ (heads L).drop (i + 1)) p = false := by
 have hx : dirB p ∈ heads L := by
  rw [hd]; simp only [rdOf, Int.toNat_natCast, List.getD_eq_getElem?_getD, List.getElem?_eq_getElem hi, Option.getD_some]; exact List.getElem_mem _
 have hsplit : heads L = (heads L).take i ++ dirB p :: (heads L).drop (i + 1) := by
  rw [hd, ← rdOf_drop _ i hi, List.take_append_drop]
 have hnd := rises_nodup (rises_heads L)
 rw [hsplit, List.nodup_append] at hnd
 obtain ⟨_, h2, h3⟩ := hnd
 unfold showsB
 simp only [hne, decide_false, Bool.false_or, List.any_eq_false]
 intro c hc
 have hcH : c ∈ heads L := by
  rw [hsplit]
  rcases List.mem_append.1 hc with h | h
  ·exact List.mem_append_left _ h
  ·exact List.mem_append_right _ (List.mem_cons_of_mem _ h)
 have hne2 : c ≠ dirB p := by
  rcases List.mem_append.1 hc with h | h
  ·exact h3 c h _ List.mem_cons_self
  ·rintro rfl; exact (List.nodup_cons.1 h2).1 h
 have a1 := (mem_heads.1 hx).2 c (mem_heads.1 hcH).1
 have a2 := (mem_heads.1 hcH).2 _ (mem_heads.1 hx).1
 simp [nearB, hne2, a1, a2]
theorem rd_mem (l : List ByteArray) (i : Nat) (h : i < l.length) : rdOf ByteArray.empty l (i : Int) ∈ l := by
 simp only [rdOf, Int.toNat_natCast, List.getD_eq_getElem?_getD, List.getElem?_eq_getElem h, Option.getD_some]; exact List.getElem_mem _
theorem covers_l3 (l H : List ByteArray) (hl : l.length ≤ 1073741824) (hf : Fits l) (i : Nat) (hi : i < H.length) (hne : bs (rdOf ByteArray.empty H (i : Int)) ≠ []) (m : List ByteArray) (hfm : Fits m) (next : Ev (fun k => copselaw15_ConeCovers.l2 k l H (wrap64 ((i : Int) + 1))) true) (d : Nat) :
  ∀ (j : Nat) (all own : Bool), l.length - j = d → j ≤ l.length → (own = true ∨ ∃ p ∈ l.drop j, dirB p = rdOf ByteArray.empty H (i : Int)) → (all = false ∨ ∃ p ∈ l.drop j, showsB m p = false) →
  Ev (fun k => copselaw15_ConeCovers.l3 k l H (i : Int) m all own (j : Int)) true := by
 induction d with
 | zero =>
  intro j all own hd hj ho ha
  rw [List.drop_of_length_le (by omega)] at ho ha
  have ho : own = true := by rcases ho with h | ⟨p, hp, _⟩; exact h; cases hp
  have ha : all = false := by rcases ha with h | ⟨p, hp, _⟩; exact h; cases hp
  subst ho ha
  obtain ⟨K, hK⟩ := next
  dsimp only at hK
  refine ⟨K + 1, fun k hk => ?_⟩
  obtain ⟨k, rfl⟩ : ∃ m, k = m + 1 := ⟨k - 1, by omega⟩
  simp only [copselaw15_ConeCovers.l3]
  rw [if_neg (by omega), if_neg (by simp), if_pos trivial, if_pos (by omega), if_pos (by omega), if_neg (by rw [toList_bs]; exact hne)]
  exact hK k (by omega)
 | succ d ih =>
  intro j all own hd hj ho ha
  rw [rdOf_drop l j (by omega)] at ho ha
  have hp := hf.at_ (show j < l.length by omega)
  have ho' : (own || ((dirB (rdOf ByteArray.empty l (j : Int))).toList == (rdOf ByteArray.empty H (i : Int)).toList)) = true ∨ ∃ p ∈ l.drop (j + 1), dirB p = rdOf ByteArray.empty H (i : Int) := by
   rcases ho with h | ⟨p, hp', e⟩
   ·left; simp [h]
   ·rcases List.mem_cons.1 hp' with rfl | h
    ·left; rw [e]; simp
    ·exact .inr ⟨p, h, e⟩
  have ha' : (all && showsB m (rdOf ByteArray.empty l (j : Int))) = false ∨ ∃ p ∈ l.drop (j + 1), showsB m p = false := by
   rcases ha with h | ⟨p, hp', e⟩
   ·left; simp [h]
   ·rcases List.mem_cons.1 hp' with rfl | h
    ·left; simp [e]
    ·exact .inr ⟨p, h, e⟩
  obtain ⟨K, hK⟩ := ih (j + 1) _ _ (by omega) (by omega) ho' ha'
  obtain ⟨K1, hK1⟩ := shows_ev m (rdOf ByteArray.empty l (j : Int)) hfm hp
  obtain ⟨K2, hK2⟩ := prog_dir (rdOf ByteArray.empty l (j : Int)) (by omega)
  dsimp only at hK hK1 hK2
  refine ⟨max K (max K1 K2) + 1, fun k hk => ?_⟩
  obtain ⟨k, rfl⟩ : ∃ m, k = m + 1 := ⟨k - 1, by omega⟩
  have h0 := hK k (by omega)
  simp only [copselaw15_ConeCovers.l3]
  rw [if_pos (by omega), wrap_succ (n := l.length) (by omega) (by omega), hK1 k (by omega), hK2 k (by omega)]
  have g1 : (0 : Int) ≤ (j : Int) := by omega
  have g2 : (0 : Int) ≤ (i : Int) := by omega
  have g3 : (i : Int) < (H.length : Int) := by omega
  cases all <;> cases own <;> simp only [Bool.false_and, Bool.true_and, Bool.false_or, Bool.true_or] at h0 <;> simp only [Option.bind_some, if_pos g1, if_pos g2, if_pos g3, if_true, Bool.false_eq_true, if_false] <;> exact h0
theorem covers_l2 (l H : List ByteArray) (hl : l.length ≤ 1073741824) (hf : Fits l) (hH : H.length ≤ 1073741824) (hfH : Fits H) (hown : ∀ i, i < H.length → bs (rdOf ByteArray.empty H (i : Int)) ≠ [] ∧ ∃ p ∈ l, dirB p = rdOf ByteArray.empty H (i : Int) ∧ showsB (H.take i ++ H.drop (i + 1)) p = false) (d : Nat) :
  ∀ i : Nat, H.length - i = d → i ≤ H.length → Ev (fun k => copselaw15_ConeCovers.l2 k l H (i : Int)) true := by
 induction d with
 | zero =>
  intro i hd hi
  refine ⟨1, fun k hk => ?_⟩
  obtain ⟨k, rfl⟩ : ∃ m, k = m + 1 := ⟨k - 1, by omega⟩
  simp only [copselaw15_ConeCovers.l2]
  rw [if_neg (by omega)]
 | succ d ih =>
  intro i hd hi
  obtain ⟨hne, p, hp, e, hs⟩ := hown i (by omega)
  have nx := ih (i + 1) (by omega) (by omega)
  have ew : wrap64 ((i : Int) + 1) = ((i + 1 : Nat) : Int) := wrap_succ (n := H.length) (by omega) (by omega)
  rw [← ew] at nx
  obtain ⟨K, hK⟩ := covers_l3 l H hl hf i (by omega) hne (H.take i ++ H.drop (i + 1)) (fun q hq => by
   rcases List.mem_append.1 hq with h | h
   ·exact hfH q (List.mem_of_mem_take h)
   ·exact hfH q (List.mem_of_mem_drop h)) nx l.length 0 true false (by omega) (by omega) (.inr ⟨p, by simpa using hp, e⟩) (.inr ⟨p, by simpa using hp, hs⟩)
  dsimp only at hK
  refine ⟨K + 1, fun k hk => ?_⟩
  obtain ⟨k, rfl⟩ : ∃ m, k = m + 1 := ⟨k - 1, by omega⟩
  have h0 := hK k (by omega)
  simp only [copselaw15_ConeCovers.l2]
  rw [if_pos (by omega), if_pos (by omega), if_pos (by omega), ew, Option.bind_some, Int.toNat_natCast, Int.toNat_natCast, if_pos (by simp; omega), Option.bind_some, if_pos (by omega), if_pos (by omega), Option.bind_some, if_pos (by simp; omega), List.nil_append]
  exact h0
theorem covers_l1 (l H : List ByteArray) (hl : l.length ≤ 1073741824) (hf : Fits l) (hfH : Fits H) (hsh : ∀ p ∈ l, showsB H p = true) (next : Ev (fun k => copselaw15_ConeCovers.l2 k l H 0) true) (d : Nat) : ∀ i : Nat, l.length - i = d → i ≤ l.length → Ev (fun k => copselaw15_ConeCovers.l1 k l H (i : Int)) true := by
 induction d with
 | zero =>
  intro i hd hi
  obtain ⟨K, hK⟩ := next
  dsimp only at hK
  refine ⟨K + 1, fun k hk => ?_⟩
  obtain ⟨k, rfl⟩ : ∃ m, k = m + 1 := ⟨k - 1, by omega⟩
  simp only [copselaw15_ConeCovers.l1]
  rw [if_neg (by omega)]
  exact hK k (by omega)
 | succ d ih =>
  intro i hd hi
  obtain ⟨K, hK⟩ := ih (i + 1) (by omega) (by omega)
  obtain ⟨K1, hK1⟩ := shows_ev H (rdOf ByteArray.empty l (i : Int)) hfH (hf.at_ (by omega))
  rw [hsh _ (rd_mem l i (by omega))] at hK1
  dsimp only at hK hK1
  refine ⟨max K K1 + 1, fun k hk => ?_⟩
  obtain ⟨k, rfl⟩ : ∃ m, k = m + 1 := ⟨k - 1, by omega⟩
  simp only [copselaw15_ConeCovers.l1]
  rw [if_pos (by omega), if_pos (by omega), hK1 k (by omega), Option.bind_some, if_pos rfl, wrap_succ (n := l.length) (by omega) (by omega)]
  exact hK k (by omega)
theorem covers_end (l : List ByteArray) (hl : l.length ≤ 1073741824) (hf : Fits l) (hv : ∀ p ∈ l, validB p = true) : Ev (fun k => (cone_Cover.f k l).bind fun t733 => ((copselaw15_alive.f k).bind fun t736 => (if t736 = true then ((cone_Valid.f k t733).bind fun t737 => ((copselaw15_num.f t737).bind fun t738 => (copselaw15_ConeCovers.j1 k l t733 (t738 != 0)))) else (copselaw15_ConeCovers.j1 k l t733 true)))) true := by
 have hL := dirsL_length l
 have hH := heads_length (dirsL l)
 have hfH := fits_heads (fits_dirs hf)
 have hhv : ∀ x ∈ heads (dirsL l), validB x = true ∧ bs x ≠ [] := fun x hx => by
  obtain ⟨hne, p, hp, rfl⟩ := mem_dirsL.1 (mem_heads.1 hx).1
  exact ⟨valid_dir p (hv p hp) hne, hne⟩
 refine Ev.bind (cover_ev l hl hf) (Ev.bind aliveC_ev ?_)
 simp only [if_true]
 have hcv := coneValid_ev (heads (dirsL l)) (by omega) hfH
 rw [if_pos (coneR_of _ none (fun x hx => (hhv x hx).1) (rises_heads _) (fun x hx y hy => (mem_heads.1 hx).2 y (mem_heads.1 hy).1) (fun y e => by cases e))] at hcv
 refine Ev.bind hcv ?_
 refine Ev.bind (a := (0 : Int)) (ev_pure fun k => rfl) ?_
 have h2 := covers_l2 l (heads (dirsL l)) hl hf (by omega) hfH (fun i hi => by
  have hx := rd_mem _ i hi
  obtain ⟨hne, p, hp, e⟩ := mem_dirsL.1 (mem_heads.1 hx).1
  exact ⟨hne, p, hp, e, shows_none _ i hi p (by rw [e]; exact hne) e⟩) _ 0 rfl (by omega)
 obtain ⟨K, hK⟩ := covers_l1 l (heads (dirsL l)) hl hf hfH (fun p hp => shows_all l p hp) h2 _ 0 rfl (by omega)
 dsimp only at hK
 refine ⟨K + 1, fun k hk => ?_⟩
 obtain ⟨k, rfl⟩ : ∃ m, k = m + 1 := ⟨k - 1, by omega⟩
 simp only [copselaw15_ConeCovers.j1, bne_self_eq_false, Bool.false_eq_true, if_false]
 exact hK k (by omega)
theorem covers_l0 (x : List ByteArray) (hx : x.length ≤ 1073741824) (hf : Fits x) (d : Nat) : ∀ (i : Nat) (l : List ByteArray), x.length - i = d → i ≤ x.length → l.length ≤ i → Fits l → (∀ p ∈ l, validB p = true) → Ev (fun k => copselaw15_ConeCovers.l0 k x l (i : Int)) true := by
 induction d with
 | zero =>
  intro i l hd hi hl hfl hv
  obtain ⟨K, hK⟩ := covers_end l (by omega) hfl hv
  dsimp only at hK
  refine ⟨K + 1, fun k hk => ?_⟩
  obtain ⟨k, rfl⟩ : ∃ m, k = m + 1 := ⟨k - 1, by omega⟩
  simp only [copselaw15_ConeCovers.l0]
  rw [if_neg (by omega)]
  exact hK k (by omega)
 | succ d ih =>
  intro i l hd hi hl hfl hv
  have hs := hf.at_ (show i < x.length by omega)
  obtain ⟨K1, hK1⟩ := prog_valid (rdOf ByteArray.empty x (i : Int)) (by omega)
  dsimp only at hK1
  cases c : validB (rdOf ByteArray.empty x (i : Int)) with
  | true =>
   rw [c] at hK1
   obtain ⟨K, hK⟩ := ih (i + 1) (l ++ [rdOf ByteArray.empty x (i : Int)]) (by omega) (by omega) (by simp; omega) (fun p hp => by
    rcases List.mem_append.1 hp with h | h
    ·exact hfl p h
    ·rw [List.mem_singleton.1 h]; exact hs) (fun p hp => by
    rcases List.mem_append.1 hp with h | h
    ·exact hv p h
    ·rw [List.mem_singleton.1 h]; exact c)
   dsimp only at hK
   refine ⟨max K K1 + 1, fun k hk => ?_⟩
   obtain ⟨k, rfl⟩ : ∃ m, k = m + 1 := ⟨k - 1, by omega⟩
   simp only [copselaw15_ConeCovers.l0]
   rw [if_pos (by omega), if_pos (by omega), hK1 k (by omega), Option.bind_some, if_pos rfl, if_pos (by omega), wrap_succ (n := x.length) (by omega) (by omega)]
   exact hK k (by omega)
  | false =>
   rw [c] at hK1
   obtain ⟨K, hK⟩ := ih (i + 1) l (by omega) (by omega) (by omega) hfl hv
   dsimp only at hK
   refine ⟨max K K1 + 1, fun k hk => ?_⟩
   obtain ⟨k, rfl⟩ : ∃ m, k = m + 1 := ⟨k - 1, by omega⟩
   simp only [copselaw15_ConeCovers.l0]
   rw [if_pos (by omega), if_pos (by omega), hK1 k (by omega), Option.bind_some, if_neg (by simp), wrap_succ (n := x.length) (by omega) (by omega)]
   exact hK k (by omega)
theorem ConeCovers (l : List ByteArray) (hl : l.length ≤ 1073741824) (hf : Fits l) : ∃ k, copselaw15_ConeCovers.f k l = some true := by
 obtain ⟨K, hK⟩ := covers_l0 l hl hf _ 0 [] rfl (by omega) (by simp) (fun p hp => absurd hp (by simp)) (fun p hp => absurd hp (by simp))
 exact ⟨K, hK K (Nat.le_refl _)⟩
end Go.Proofs.YtdfkaclflmgkeaaDoor.PAll
