/- What the claim leans on. -/
import Derived.BigQuiet
import Derived.Deep.Onto
import Derived.Outline
import Derived.WalkKit
import Derived.Test.YtdfkaclflmgkeaaFPAllx0
namespace Go.Proofs.Ytdfkaclflmgkeaa.PAll
open Go.RowKit Go.Proofs.YtdfkaclflmgkeaaW.PrintWords Go.Proofs.YtdfkaclflmgkeaaW.PrintLast Go.Proofs.YtdfkaclflmgkeaaW.PrintMore
section
variable {P : Program}
theorem came_own {w : World} {base : Nat} {e : TypeId} {size n g cap : Nat} {xs : List Value} (h : w.ownsRow base e size (.slice (some ⟨g, 0, none⟩) n cap) n xs) : Came w size (some ⟨g, 0, none⟩) g 0 n cap xs := by
 obtain ⟨h1, h2⟩ := h
 rcases h2 with ⟨h', _⟩ | ⟨g', cap', cur, h', hb, hh, h3, h4, h5, h6⟩
 ·cases h'
 ·obtain ⟨rfl, rfl⟩ : g = g' ∧ cap = cap' := by
   injection h' with h1 h2 h3
   injection h1 with h1
   injection h1 with h1
   exact ⟨h1, h3⟩
  have hlt := (Array.getElem?_eq_some_iff.1 hh).1
  refine ⟨h3, fun _ => rfl, fun _ => hlt, h1, fun j u hu => ?_, fun j hj => ?_⟩
  ·rw [Nat.zero_add]
   have := (show w.ownsRow base e size (.slice (some ⟨g, 0, none⟩) n cap) n xs from ⟨h1, .inr ⟨g, cap, cur, rfl, hb, hh, h3, h4, h5, h6⟩⟩).cells (g := g) rfl j u hu
   rwa [add_plain] at this
  ·have hmul : n * size ≤ cap * size := Nat.mul_le_mul_right _ h3
   have e1 : (cap - n) * size = cap * size - n * size := Nat.sub_mul _ _ _
   constructor
   ·have h9 : n * size + j < cur.size := by rw [h5]; omega
    simp [World.cell?, hh]; exact h9
   ·simp [World.frozen?, hh]
theorem run_append_alias (w : World) (base : Nat) (t ty e : TypeId) (i : TypeInfo) (z : Value) (size bytes : Nat) (ht : P.underlying t = some (.slice e)) (hi : P.info? e = some i) (hz : i.zero = some z)
  (hsize : i.size = size) (hby : i.bytes = bytes) (hzs : z.cells.size = size) (hsz : 0 < size)
  (v : Value) (n : Nat) (xs : List Value) (hown : w.ownsRow base e size v n xs)
  (a : Addr) (c : Nat) (news : List Value) (hl : news.length = size) (hnews : ∀ j u, news[j]? = some u → w.cell? (a.add j) = some u) (h1 : ∀ u ∈ news, u.oneCell' = true)
  (h63 : n + 1 ≤ maxLen) (hbytes : (n + 1) * bytes ≤ 140737488355328) (hbase : base ≤ w.heap.size) :
  ∃ v' w', (Builtin.append_ #[t, t] ty #[v, .slice (some a) 1 c]).run P w = .ok v' w' ∧ w'.ownsRow base e size v' (n + 1) (xs ++ news) ∧ w.grownBy w' v.ownBlock ∧
   (v'.ownBlock = v.ownBlock ∨ v'.ownBlock = some w.heap.size) ∧
   ∀ b0 u n0 xs0, (∀ k, u.ownBlock = some k → v.ownBlock = some k → n0 ≤ n) → w.ownsRow b0 e size u n0 xs0 → w'.ownsRow b0 e size u n0 xs0 := by
 obtain ⟨v', w', hr, h2, h3, _, h5⟩ := run_append_own_at (P := P) w base t ty e i z size bytes ht hi hz hsize hby hzs hsz v n xs hown a 1 c news (by omega) hnews h1 h63 hbytes hbase
 refine ⟨v', w', hr, h2, h3, h5, ?_⟩
 intro b0 u n0 xs0 hle hu
 by_cases hk : ∃ k, u.ownBlock = some k ∧ v.ownBlock = some k
 ·obtain ⟨k, hk1, hk2⟩ := hk
  have hn0 := hle k hk1 hk2
  obtain ⟨g, cap, rfl⟩ : ∃ g cap, v = .slice (some ⟨g, 0, none⟩) n cap := by
   rcases hown.2 with ⟨rfl, _⟩ | ⟨g, cap, cur, rfl, _⟩
   ·simp [Value.ownBlock] at hk2
   ·exact ⟨g, cap, rfl⟩
  obtain rfl : g = k := by simpa [Value.ownBlock] using hk2
  obtain ⟨v2, w2, hr2, hO⟩ := run_append_onto (P := P) (came_own hown) t ty i z bytes ht hi hz hsize hby hzs hsz (Onto.start (e := e) (came_own hown)) a c news (by omega) hnews h1 (by omega) (by rw [Nat.add_zero]; exact hbytes)
  replace hr2 : (Builtin.append_ #[t, t] ty #[.slice (some ⟨g, 0, none⟩) n cap, .slice (some a) 1 c]).run P w = .ok v2 w2 := hr2
  obtain ⟨rfl, rfl⟩ : v' = v2 ∧ w' = w2 := by
   have := hr.symm.trans hr2
   injection this with e1 e2
   exact ⟨e1, e2⟩
  obtain ⟨hu1, hu2⟩ := hu
  refine ⟨hu1, ?_⟩
  rcases hu2 with ⟨rfl, hn⟩ | ⟨g', cap', cur, rfl, hb, hh, q1, q2, q3, q4⟩
  ·exact .inl ⟨rfl, hn⟩
  ·obtain rfl : g' = g := by simpa [Value.ownBlock] using hk1
   have hlt := (Array.getElem?_eq_some_iff.1 hh).1
   have hkept := hO.kept.2.2 g' hlt
   rw [hh] at hkept
   cases hw : w'.heap[g']? with
   | none => rw [hw] at hkept; cases hkept
   | some o =>
    rw [hw] at hkept
    cases o with
    | cells c' t' fr' =>
     obtain ⟨rfl, rfl, hc1, hc2⟩ := hkept
     refine .inr ⟨g', cap', c', rfl, hb, hw, q1, q2, by rw [hc1]; exact q3, ?_⟩
     rw [← q4]
     apply List.ext_getElem?
     intro j
     rw [List.getElem?_take, List.getElem?_take]
     by_cases hj : j < n0 * size
     ·rw [if_pos hj, if_pos hj, Array.getElem?_toList, Array.getElem?_toList]
      refine hc2 j ?_
      rintro ⟨j', _, _, e'⟩
      have : n0 * size ≤ n * size := Nat.mul_le_mul_right _ hn0
      simp at e'
      omega
     ·rw [if_neg hj, if_neg hj]
    | _ => simp at hkept
 ·exact hu.kept h3 (by
   cases hub : u.ownBlock with
   | none => exact .inl rfl
   | some k => exact .inr fun e => hk ⟨k, hub, e.symm⟩)
end
section
variable {P : Program} {ops : Array Oper} {rest : List Oper} {o : Oper} {a : Act} {Q : Exit → Act → World → Prop}
theorem app_alias8 {w0 W : World} (B : Nat) (hgd : o.guard = none) (s x : Operand) (t e : TypeId)
  (ho : o.op = .call { callee := .builtin .append, args := #[s, x], argTypes := #[t, t] })
  (ht : P.underlying t = some (.slice e)) (hinfo : (P.info? e).map (fun i => (i.zero, i.size, i.bytes)) = some (some (.int .u8 0), 1, 1)) (he : e = 5)
  (v : Value) (xs : List Int) (y : Int) (hs : a.eval s = v) (hx : a.eval x = .slice (some ⟨W.heap.size, 0, none⟩) 1 1)
  (HO : OB W v xs) (hbk : ∀ k, v.ownBlock = some k → B ≤ k) (HB : Below B w0 W) (hbase : B ≤ W.heap.size) (hl : xs.length + 1 ≤ 4294967296)
  (h : ∀ v1 w1, OB w1 v1 (xs ++ [y]) → (∀ k, v1.ownBlock = some k → B ≤ k) → Below B w0 w1 → W.grownBy w1 v.ownBlock → (v1.ownBlock = v.ownBlock ∨ ∃ b, v1.ownBlock = some b ∧ W.heap.size ≤ b) →
   (∀ u ys, (∀ k, u.ownBlock = some k → v.ownBlock = some k → ys.length ≤ xs.length) → OB W u ys → OB w1 u ys) → wpList P ops Q rest (a.put o.dst v1) w1) :
  wpList P ops Q (o :: rest) a (W.alloc (.cells #[.int .u8 y] e)) := by
 subst he
 obtain ⟨i0, hi, hzz⟩ := Option.map_eq_some_iff.1 hinfo
 simp only [Prod.mk.injEq] at hzz
 obtain ⟨hz0, hz1, hz2⟩ := hzz
 obtain ⟨v1, w1, hr, hown, hg, hat, hk⟩ := run_append_alias (P := P) (W.alloc (.cells #[.int .u8 y] 5)) 0 t o.type 5 i0 (.int .u8 0) 1 1 ht hi hz0 hz1 hz2 rfl (by decide) v xs.length _ (HO.alloc _) ⟨W.heap.size, 0, none⟩ 1 [.int .u8 y] rfl
  (World.news_of_block (cs := #[.int .u8 y]) (t := 5) (fr := (0, 0)) (heap_alloc_new W _)) (by simp [Value.oneCell']) (by simp only [maxLen]; omega) (by omega) (Nat.zero_le _)
 have hlen : (xs ++ [y]).length = xs.length + 1 := by simp
 refine wpList_plain hgd fun K hK => ?_
 unfold Oper.wp execOp
 simp only [ho, resolve, invoke, builtin, Sem.run_bind, Sem.run_pure, Result.andThen_ok, List.map_toArray, List.map_cons, List.map_nil, hs, hx, hr]
 refine hK _ _ (h v1 w1 (by show World.ownsRow _ _ _ _ _ _ _; rw [hlen]; unfold nums at hown ⊢; rw [List.map_append]; exact hown) ?_ (pw_below_grown HB v.ownBlock hbase (World.grownBy.trans (World.grownBy_alloc W _ _) hg) hbk) (World.grownBy.trans (World.grownBy_alloc W _ _) hg) ?_ fun u ys hle hu => hk 0 u ys.length _ hle (hu.alloc _))
 ·intro k hk'
  rcases hat with hat | hat
  ·exact hbk k (by rw [← hat]; exact hk')
  ·rw [hat] at hk'
   have : (W.alloc (.cells #[.int .u8 y] 5)).heap.size = k := Option.some.inj hk'
   simp at this
   omega
 ·rcases hat with hat | hat
  ·exact .inl hat
  ·exact .inr ⟨_, hat, by simp⟩
theorem app_many {w0 W : World} (base : Nat) (hgd : o.guard = none) (s x : Operand) (t e : TypeId) (z : Value) (bytes : Nat)
  (ho : o.op = .call { callee := .builtin .append, args := #[s, x], argTypes := #[t, t] })
  (ht : P.underlying t = some (.slice e)) (hinfo : (P.info? e).map (fun i => (i.zero, i.size, i.bytes)) = some (some z, 1, bytes)) (hz : z.cells.size = 1) (hb0 : 0 < bytes)
  (v : Value) (xs ys : List Value) (hs : a.eval s = v) (hx : a.eval x = .slice (some ⟨W.heap.size, 0, none⟩) ys.length ys.length) (h1 : ∀ u ∈ ys, u.oneCell' = true)
  (HO : W.ownsRow base e 1 v xs.length xs) (HB : Below base w0 W) (hbase : base ≤ W.heap.size) (hl : (xs.length + ys.length) * bytes ≤ 140737488355328)
  (h : ∀ v1 w1, w1.ownsRow base e 1 v1 (xs ++ ys).length (xs ++ ys) → Below base w0 w1 → W.grownBy w1 v.ownBlock → wpList P ops Q rest (a.put o.dst v1) w1) :
  wpList P ops Q (o :: rest) a (W.alloc (.cells ys.toArray e)) := by
 obtain ⟨i0, hi, hzz⟩ := Option.map_eq_some_iff.1 hinfo
 simp only [Prod.mk.injEq] at hzz
 obtain ⟨hz0, hz1, hz2⟩ := hzz
 have hlen : xs.length + ys.length ≤ 140737488355328 := Nat.le_trans (Nat.le_mul_of_pos_right _ hb0) hl
 refine wpList_append_own_at (W.alloc (.cells ys.toArray e)) hgd s x t ho base e i0 z 1 bytes ht hi hz0 hz1 hz2 hz (by omega) v xs.length xs hs (HO.alloc _) ⟨W.heap.size, 0, none⟩ ys.length ys.length ys hx (by simp)
  (by simpa using World.news_of_block (cs := ys.toArray) (t := e) (fr := (0, 0)) (heap_alloc_new W (.cells ys.toArray e))) h1 (by simp only [maxLen]; omega) hl (by simp; omega) ?_
 intro v1 w1 hown hg _ hat
 exact h v1 w1 (by rw [List.length_append]; exact hown) ((HB.alloc hbase _).grown hg (by simp; omega) (own_base HO)) (World.grownBy.trans (World.grownBy_alloc W _ _) hg)
end
structure Sys (B : Nat) (w : World) (vs : List Value) (xss : List (List Int)) : Prop where
 len : vs.length = xss.length
 each : ∀ (i : Nat) (v : Value) (x : List Int), vs[i]? = some v → xss[i]? = some x → OB w v x
 apart : ∀ (i j : Nat) (v u : Value) (k : Nat), i ≠ j → vs[i]? = some v → vs[j]? = some u → v.ownBlock = some k → u.ownBlock ≠ some k
 low : ∀ (i : Nat) (v : Value) (k : Nat), vs[i]? = some v → v.ownBlock = some k → B ≤ k
theorem Sys.nil (B : Nat) (w : World) : Sys B w [] [] := ⟨rfl, by simp, by simp, by simp⟩
section
variable {B : Nat} {w w1 : World} {vs : List Value} {xss : List (List Int)}
theorem Sys.get (h : Sys B w vs xss) {i : Nat} {v : Value} (hv : vs[i]? = some v) : ∃ x, xss[i]? = some x := by
 have := (List.getElem?_eq_some_iff.1 hv).1
 exact ⟨_, List.getElem?_eq_getElem (by have := h.len; omega)⟩
theorem Sys.lt (h : Sys B w vs xss) {i k : Nat} {v : Value} (hv : vs[i]? = some v) (hk : v.ownBlock = some k) : k < w.heap.size := by
 obtain ⟨x, hx⟩ := h.get hv
 exact own_lt (h.each i v x hv hx) k hk
theorem Sys.move (h : Sys B w vs xss) (hm : ∀ (i : Nat) (v : Value) (x : List Int), vs[i]? = some v → xss[i]? = some x → OB w v x → OB w1 v x) : Sys B w1 vs xss := ⟨h.len, fun i v x hv hx => hm i v x hv hx (h.each i v x hv hx), h.apart, h.low⟩
theorem Sys.below (h : Sys B w vs xss) (hb : Below w.heap.size w w1) : Sys B w1 vs xss := h.move fun _ _ _ _ _ ho => ho.below hb
theorem Sys.add (h : Sys B w vs xss) (hB : B ≤ w.heap.size) {v : Value} {x : List Int} (hn : NewB w w1 v x) : Sys B w1 (vs ++ [v]) (xss ++ [x]) := by
 have hin : ∀ (i : Nat) (u : Value), (vs ++ [v])[i]? = some u → vs[i]? = some u ∨ (i = vs.length ∧ u = v) := by
  intro i u hu
  by_cases hi : i < vs.length
  ·rw [List.getElem?_append_left hi] at hu; exact .inl hu
  ·rw [List.getElem?_append_right (by omega)] at hu
   by_cases h0 : i - vs.length = 0
   ·rw [h0] at hu; simp at hu; exact .inr ⟨by omega, hu.symm⟩
   ·rw [List.getElem?_eq_none (by simp; omega)] at hu; cases hu
 refine ⟨by simp [h.len], fun i u y hu hy => ?_, fun i j u u' k hij hu hu' hk => ?_, fun i u k hu hk => ?_⟩
 ·rcases hin i u hu with hu | ⟨rfl, rfl⟩
  ·have := (List.getElem?_eq_some_iff.1 hu).1
   rw [List.getElem?_append_left (by have := h.len; omega)] at hy
   exact (h.each i u y hu hy).below hn.2.2
  ·rw [h.len, List.getElem?_append_right (by omega)] at hy
   simp at hy
   subst hy
   exact hn.1
 ·intro hk'
  rcases hin i u hu with h1 | ⟨e1, e2⟩ <;> rcases hin j u' hu' with h3 | ⟨e3, e4⟩
  ·exact h.apart i j u u' k hij h1 h3 hk hk'
  ·have := h.lt h1 hk
   have := hn.2.1 k (e4 ▸ hk')
   omega
  ·have := h.lt h3 hk'
   have := hn.2.1 k (e2 ▸ hk)
   omega
  ·exact absurd (e1.trans e3.symm) hij
 ·rcases hin i u hu with hu | ⟨rfl, rfl⟩
  ·exact h.low i u k hu hk
  ·exact Nat.le_trans hB (hn.2.1 k hk)
theorem Sys.read (h : Sys B w vs xss) {i : Nat} {v : Value} {x : List Int} (hv : vs[i]? = some v) (hx : xss[i]? = some x) : ∃ A c, v = .slice A x.length c ∧ x.length ≤ c ∧ CB w A x := OB.reads (h.each i v x hv hx)
theorem OB.head {v : Value} {x : List Int} (h : OB w v x) (h0 : 0 < x.length) : ∃ g c, v = .slice (some ⟨g, 0, none⟩) x.length c := by
 obtain ⟨g, cap, he, _⟩ := World.ownsRow.form h h0
 exact ⟨g, cap, he⟩
theorem Sys.set (h : Sys B w vs xss) {i g c : Nat} {x : List Int} (hv : vs[i]? = some (.slice (some ⟨g, 0, none⟩) x.length c)) (hx : xss[i]? = some x) (j : Nat) (m : Int) : Sys B (w.setCell ⟨g, j, none⟩ (.int .u8 m)) vs (xss.set i (x.set j m)) := by
 refine ⟨by rw [List.length_set]; exact h.len, fun q u y hu hy => ?_, h.apart, h.low⟩
 by_cases hq : q = i
 ·subst hq
  rw [List.getElem?_set_self (by have := (List.getElem?_eq_some_iff.1 hx).1; omega)] at hy
  injection hy with hy
  subst hy
  rw [hv] at hu
  injection hu with hu
  subst hu
  have h1 : OB w (.slice (some ⟨g, 0, none⟩) x.length c) x := h.each q _ x hv hx
  have := (own_store_of (enc := Value.int .u8) (xs := x) (show w.ownsRow 0 5 1 (.slice (some ⟨g, 0, none⟩) x.length c) x.length (encs (Value.int .u8) x) from h1) (j : Int) m).1
  rw [Int.toNat_natCast] at this
  show World.ownsRow _ _ _ _ _ _ _
  rw [List.length_set]
  exact this
 ·rw [List.getElem?_set_ne (by omega)] at hy
  refine own_move (h.each q u y hu hy) fun k hk => Below.heap_setCell w ⟨g, j, none⟩ _ k ?_
  rintro rfl
  exact h.apart i q _ u _ (by omega) hv hu rfl hk
end
theorem OB.set {w : World} {g n cap : Nat} {xs : List Int} (h : OB w (.slice (some ⟨g, 0, none⟩) n cap) xs) (hn : n = xs.length) (j : Nat) (m : Int) : OB (w.setCell ⟨g, j, none⟩ (.int .u8 m)) (.slice (some ⟨g, 0, none⟩) n cap) (xs.set j m) := by
 subst hn
 have := (own_store_of (enc := Value.int .u8) (xs := xs) (show w.ownsRow 0 5 1 (.slice (some ⟨g, 0, none⟩) xs.length cap) xs.length (encs (Value.int .u8) xs) from h) (j : Int) m).1
 rw [Int.toNat_natCast] at this
 show World.ownsRow _ _ _ _ _ _ _
 rw [List.length_set]
 exact this
abbrev Own (B : Nat) (w : World) (s : Value) (vs : List Value) : Prop := w.ownsRow B 22 1 s vs.length vs
theorem Own.cell {B g n c : Nat} {w : World} {vs : List Value} (h : Own B w (.slice (some ⟨g, 0, none⟩) n c) vs) {i : Nat} {v : Value} (hv : vs[i]? = some v) : w.cell? ⟨g, i, none⟩ = some v := by
 have := h.cells (g := g) rfl i v hv
 rwa [add_plain] at this
theorem Own.form {B : Nat} {w : World} {s : Value} {vs : List Value} (h : Own B w s vs) (h0 : 0 < vs.length) : ∃ g c, s = .slice (some ⟨g, 0, none⟩) vs.length c ∧ B ≤ g ∧ g < w.heap.size := by
 obtain ⟨g, cap, he, h1, h2⟩ := World.ownsRow.form h h0
 exact ⟨g, cap, he, h1, h2⟩
theorem Own.below {B : Nat} {w w1 : World} {s : Value} {vs : List Value} (h : Own B w s vs) (hb : Below w.heap.size w w1) : Own B w1 s vs := own_move h fun k hk => hb.block k (own_lt h k hk)
theorem Own.set {B g j : Nat} {w : World} {s : Value} {vs : List Value} (h : Own B w s vs) {v : Value} {x : List Int} (ho : OB w v x) (hv : v.ownBlock = some g) (u : Value) : Own B (w.setCell ⟨g, j, none⟩ u) s vs := by
 refine own_move h fun k hk => Below.heap_setCell w ⟨g, j, none⟩ _ k ?_
 rintro rfl
 rcases own_type_ne h ho (by decide) with h1 | h1
 ·rw [h1] at hk; cases hk
 ·exact h1 (hk.trans hv.symm)
theorem Own.grown {B : Nat} {w w1 : World} {s : Value} {vs : List Value} (h : Own B w s vs) {v : Value} {x : List Int} (ho : OB w v x) (hg : w.grownBy w1 v.ownBlock) : Own B w1 s vs := own_other h hg (own_type_ne h ho (by decide))
theorem OB.grown {B : Nat} {w w1 : World} {s : Value} {vs : List Value} (h : Own B w s vs) {v : Value} {x : List Int} (ho : OB w v x) (hg : w.grownBy w1 s.ownBlock) : OB w1 v x := own_other ho hg (own_type_ne ho h (by decide))
theorem NewB.form {w w' : World} {v : Value} {x : List Int} (h : NewB w w' v x) : ∃ A n c, v = .slice A n c := by
 obtain ⟨A, c, e, _⟩ := OB.reads h.1
 exact ⟨A, _, c, e⟩
theorem cell_below {w w1 : World} {g j : Nat} {v : Value} (h : Below w.heap.size w w1) (hc : w.cell? ⟨g, j, none⟩ = some v) (hg : g < w.heap.size) : w1.cell? ⟨g, j, none⟩ = some v := (h.cell (p := ⟨g, j, none⟩) hg).trans hc
def Marked (i : Nat) (xss : List (List Int)) : Prop := ∀ (q : Nat) (x : List Int), q < i → xss[q]? = some x → ∀ y ∈ x, y = (q : Int) + 1
theorem Marked.snoc {i : Nat} {xss : List (List Int)} {x : List Int} (h : Marked i xss) (hl : xss.length = i) (hx : ∀ y ∈ x, y = (i : Int) + 1) : Marked (i + 1) (xss ++ [x]) := by
 intro q z hq hz y hy
 by_cases hqi : q = i
 ·subst hqi
  rw [List.getElem?_append_right (by omega), hl, Nat.sub_self] at hz
  simp at hz
  subst hz
  exact hx y hy
 ·rw [List.getElem?_append_left (by omega)] at hz
  exact h q z (by omega) hz y hy
theorem Sys.add' {B : Nat} {w : World} {vs : List Value} {xss : List (List Int)} (h : Sys B w vs xss) {v : Value} {x : List Int} (ho : OB w v x) (hl : ∀ k, v.ownBlock = some k → B ≤ k) (ha : ∀ (i : Nat) (u : Value) (k : Nat), vs[i]? = some u → u.ownBlock = some k → v.ownBlock ≠ some k) : Sys B w (vs ++ [v]) (xss ++ [x]) := by
 have hin : ∀ (i : Nat) (u : Value), (vs ++ [v])[i]? = some u → vs[i]? = some u ∨ (i = vs.length ∧ u = v) := by
  intro i u hu
  by_cases hi : i < vs.length
  ·rw [List.getElem?_append_left hi] at hu; exact .inl hu
  ·rw [List.getElem?_append_right (by omega)] at hu
   by_cases h0 : i - vs.length = 0
   ·rw [h0] at hu; simp at hu; exact .inr ⟨by omega, hu.symm⟩
   ·rw [List.getElem?_eq_none (by simp; omega)] at hu; cases hu
 refine ⟨by simp [h.len], fun i u y hu hy => ?_, fun i j u u' k hij hu hu' hk => ?_, fun i u k hu hk => ?_⟩
 ·rcases hin i u hu with hu | ⟨rfl, rfl⟩
  ·have := (List.getElem?_eq_some_iff.1 hu).1
   rw [List.getElem?_append_left (by have := h.len; omega)] at hy
   exact h.each i u y hu hy
  ·rw [h.len, List.getElem?_append_right (by omega)] at hy
   simp at hy
   subst hy
   exact ho
 ·intro hk'
  rcases hin i u hu with h1 | ⟨e1, e2⟩ <;> rcases hin j u' hu' with h3 | ⟨e3, e4⟩
  ·exact h.apart i j u u' k hij h1 h3 hk hk'
  ·exact ha i u k h1 hk (e4 ▸ hk')
  ·exact ha j u' k h3 hk' (e2 ▸ hk)
  ·exact absurd (e1.trans e3.symm) hij
 ·rcases hin i u hu with h1 | ⟨_, e2⟩
  ·exact h.low i u k h1 hk
  ·exact hl k (e2 ▸ hk)
def Away (i : Nat) (ls vs : List Value) : Prop := ∀ (q r : Nat) (u v : Value) (k : Nat), ls[q]? = some u → vs[r]? = some v → i ≤ r → v.ownBlock = some k → u.ownBlock ≠ some k
theorem grow_step {B B4 : Nat} {wz w5 w6 : World} {vs ls : List Value} {yss zss : List (List Int)} {i : Nat} {v1 v5 sa s9 : Value} {x : List Int} {m : Int}
  (S : Sys B wz vs yss) (L : Sys B wz ls zss) (hv : vs[i]? = some v1) (hx : yss[i]? = some x) (aw : Away i ls vs) (oa : Own B wz sa vs) (ol : Own B4 wz s9 ls) (hga : ∀ k, sa.ownBlock = some k → k < B4)
  (ho : OB w5 v5 (x ++ [m])) (hk : ∀ k, v5.ownBlock = some k → B ≤ k) (hg : wz.grownBy w5 v1.ownBlock) (hat : v5.ownBlock = v1.ownBlock ∨ ∃ b, v5.ownBlock = some b ∧ wz.heap.size ≤ b)
  (keep : ∀ u ys, (∀ k, u.ownBlock = some k → v1.ownBlock = some k → ys.length ≤ x.length) → OB wz u ys → OB w5 u ys) (hg2 : w5.grownBy w6 s9.ownBlock) :
  Sys B w6 vs yss ∧ Sys B w6 (ls ++ [v5]) (zss ++ [x ++ [m]]) ∧ Away (i + 1) (ls ++ [v5]) vs ∧ Own B w6 sa vs := by
 have hv1 := S.each i v1 x hv hx
 have ol5 : Own B4 w5 s9 ls := ol.grown hv1 hg
 have oa5 : Own B w5 sa vs := oa.grown hv1 hg
 have S5 : Sys B w5 vs yss := S.move fun q u y hu hy h => keep u y (fun k hk1 hk2 => by
  by_cases e : q = i
  ·subst e
   rw [hv] at hu; rw [hx] at hy
   injection hu with hu; injection hy with hy
   rw [hy]; exact Nat.le_refl _
  ·exact absurd hk1 (S.apart i q v1 u k (fun h => e h.symm) hv hu hk2)) h
 have L5 : Sys B w5 ls zss := L.move fun q u y hu _ h => keep u y (fun k hk1 hk2 => absurd hk1 (aw q i u v1 k hu hv (Nat.le_refl _) hk2)) h
 have hap : ∀ (q : Nat) (u : Value) (k : Nat), ls[q]? = some u → u.ownBlock = some k → v5.ownBlock ≠ some k := fun q u k hu hk1 hk2 => by
  rcases hat with e | ⟨b, e, hb⟩
  ·exact aw q i u v1 k hu hv (Nat.le_refl _) (e ▸ hk2) hk1
  ·have := L.lt hu hk1
   rw [e] at hk2
   injection hk2 with hk2
   omega
 have L5' := L5.add' ho hk hap
 refine ⟨S5.move fun _ _ _ _ _ h => OB.grown ol5 h hg2, L5'.move fun _ _ _ _ _ h => OB.grown ol5 h hg2, fun q r u v k hu hvr hr hk1 hk2 => ?_, own_other oa5 hg2 ?_⟩
 ·by_cases hq : q < ls.length
  ·rw [List.getElem?_append_left hq] at hu
   exact aw q r u v k hu hvr (by omega) hk1 hk2
  ·rw [List.getElem?_append_right (by omega)] at hu
   by_cases h0 : q - ls.length = 0
   ·rw [h0] at hu; simp at hu; subst hu
    rcases hat with e | ⟨b, e, hb⟩
    ·exact S.apart i r v1 v k (by omega) hv hvr (e ▸ hk2) hk1
    ·have := S.lt hvr hk1
     rw [e] at hk2
     injection hk2 with hk2
     omega
   ·rw [List.getElem?_eq_none (by simp; omega)] at hu; cases hu
 ·cases hs : sa.ownBlock with
  | none => exact .inl rfl
  | some k =>
   refine .inr fun e => ?_
   have h1 := own_base ol5 k e.symm
   have h2 := hga k hs
   omega
theorem OB.form3 {w : World} {v : Value} {x : List Int} (h : OB w v x) : ∃ A n c, v = .slice A n c := by
 obtain ⟨A, c, e, _⟩ := OB.reads h
 exact ⟨A, _, c, e⟩
def rows7 (b : List Int) (v : Int) (s : ByteArray) : List (List Int) := [b ++ le 1 (v % 256), b ++ le 2 (v % 65536), b ++ le 4 (v % 4294967296), b ++ le 8 v, b ++ le 4 (s.size : Int) ++ bytesOf s, [b, b].flatten, [b].flatten]
theorem Sys.seven {B : Nat} {w : World} {vs : List Value} {xss : List (List Int)} {v1 v2 v3 v4 v5 v6 v7 : Value} {b : List Int} {v : Int} {s : ByteArray}
  (h : Sys B w (vs ++ [v1] ++ [v2] ++ [v3] ++ [v4] ++ [v5] ++ [v6] ++ [v7]) (xss ++ [b ++ le 1 (v % 256)] ++ [b ++ le 2 (v % 65536)] ++ [b ++ le 4 (v % 4294967296)] ++ [b ++ le 8 v] ++ [b ++ le 4 (s.size : Int) ++ bytesOf s] ++ [[b, b].flatten] ++ [[b].flatten])) :
  Sys B w (vs ++ [v1, v2, v3, v4, v5, v6, v7]) (xss ++ rows7 b v s) := by
 have e1 : vs ++ [v1, v2, v3, v4, v5, v6, v7] = vs ++ [v1] ++ [v2] ++ [v3] ++ [v4] ++ [v5] ++ [v6] ++ [v7] := by simp
 have e2 : xss ++ rows7 b v s = xss ++ [b ++ le 1 (v % 256)] ++ [b ++ le 2 (v % 65536)] ++ [b ++ le 4 (v % 4294967296)] ++ [b ++ le 8 v] ++ [b ++ le 4 (s.size : Int) ++ bytesOf s] ++ [[b, b].flatten] ++ [[b].flatten] := by unfold rows7; simp only [List.append_assoc, List.cons_append, List.nil_append]
 rw [e1, e2]
 exact h
theorem rows7_length (b : List Int) (v : Int) (s : ByteArray) : (rows7 b v s).length = 7 := rfl
theorem rows7_short {b : List Int} {v : Int} {s : ByteArray} (hb : b.length ≤ 2097152) (hs : s.size ≤ 2097152) : ∀ x ∈ rows7 b v s, x.length ≤ 8388608 := by
 intro x hx
 simp only [rows7, List.mem_cons, List.not_mem_nil, or_false] at hx
 rcases hx with rfl | rfl | rfl | rfl | rfl | rfl | rfl <;> simp only [List.length_append, le_length, bytesOf_length, List.flatten_cons, List.flatten_nil, List.length_nil] <;> omega
theorem flat_rep (n : Nat) (p : List (List Int)) : (List.replicate (n + 1) p).flatten = (List.replicate n p).flatten ++ p := by
 induction n with
 | zero => simp
 | succ n ih => rw [List.replicate_succ, List.flatten_cons, ih, ← List.append_assoc, ← List.flatten_cons, ← List.replicate_succ, ih]
end Go.Proofs.Ytdfkaclflmgkeaa.PAll
namespace Go.Proofs.Ytdfkaclflmgkeaa.PAll
open Go.RowKit Go.Proofs.YtdfkaclflmgkeaaW.PrintWords Go.Proofs.YtdfkaclflmgkeaaW.PrintLast Go.Proofs.YtdfkaclflmgkeaaW.PrintMore
theorem lit_CBB (W : World) (rows : List (Option Addr × Nat × List Int)) (hok : ∀ r ∈ rows, r.2.2.length ≤ r.2.1 ∧ CB W r.1 r.2.2) (h : rows.length ≤ 1000) :
  Kd.C (Kd.slice 5 (Kd.int .u8)) (W.alloc (.cells (rows.map fun r => Value.slice r.1 r.2.2.length r.2.1).toArray 22)) (some ⟨W.heap.size, 0, none⟩) rows.length (rows.map (·.2.2)) := by
 refine ⟨by simp, by omega, fun _ => ⟨_, rfl, fun j x hj => ?_⟩⟩
 rw [List.getElem?_map] at hj
 obtain ⟨r, hr, rfl⟩ := Option.map_eq_some_iff.1 hj
 obtain ⟨h1, h2⟩ := hok r (List.mem_of_getElem? hr)
 refine ⟨[.slice r.1 r.2.2.length r.2.1], rfl, ⟨r.1, r.2.1, rfl, h1, Kd.C_alloc h2 _⟩, fun i v hv => ?_⟩
 rcases i with _ | i
 ·obtain rfl := Option.some.inj hv
  have hb : (W.alloc (.cells (rows.map fun r => Value.slice r.1 r.2.2.length r.2.1).toArray 22)).heap[W.heap.size]? = some (.cells (rows.map fun r => Value.slice r.1 r.2.2.length r.2.1).toArray 22 (0, 0)) := Array.getElem?_push_size
  rw [show ((⟨W.heap.size, 0, none⟩ : Addr).add (j * (Kd.slice 5 (Kd.int .u8)).sz + 0)) = ⟨W.heap.size, j, none⟩ by rw [show (Kd.slice 5 (Kd.int .u8)).sz = 1 from rfl, show j * 1 + 0 = j by omega]; unfold Addr.add; split <;> simp_all]
  refine (blk_cell hb j).trans ?_
  simp [hr]
 ·cases hv
structure PS (w : World) (A0 : Option Addr) (b : List Int) (g cap : Nat) (A3 : Option Addr) (t : List Int) (W : World) : Prop where
 hb : Below w.heap.size w W
 r : CB W A0 b
 o : OB W (.slice (some ⟨g, 0, none⟩) (b.length + 300) cap) (b ++ marks 300)
 t : CB W A3 t
section
variable {w W W1 : World} {A0 A3 : Option Addr} {b t : List Int} {g cap : Nat}
theorem PS.l (h : PS w A0 b g cap A3 t W) : CB W (some ⟨g, 0, none⟩) b := (CB.of_long h.o (by rw [marks_length]; decide)).1
theorem PS.below (h : PS w A0 b g cap A3 t W) (k : Below W.heap.size W W1) : PS w A0 b g cap A3 t W1 := ⟨below_then h.hb h.hb.size k, Kd.C_below h.r k, h.o.below k, Kd.C_below h.t k⟩
theorem PS.alloc (h : PS w A0 b g cap A3 t W) (o : Obj) : PS w A0 b g cap A3 t (W.alloc o) := h.below (below_alloc (Below.refl _ W) o)
theorem PS.drewN (h : PS w A0 b g cap A3 t W) (n : Nat) : PS w A0 b g cap A3 t (W.drewN n) := h.below (pw_below_drewN (Below.refl _ W) n)
end
end Go.Proofs.Ytdfkaclflmgkeaa.PAll
namespace Go.Proofs.Ytdfkaclflmgkeaa.PAll
open Go.RowKit Go.Proofs.YtdfkaclflmgkeaaW.PrintWords Go.Proofs.YtdfkaclflmgkeaaW.PrintLast Go.Proofs.YtdfkaclflmgkeaaW.PrintMore
set_option linter.unusedSimpArgs false
def OctFreshW.T14 : Bool × List (List Nat × List Nat) := (true, [([], []), ([], []), ([0, 1], [0, 1]), ([2], [2]), ([3, 2], [3]), ([4], [4]), ([5, 4], [4, 5]), ([6, 4], [4, 6]), ([4], [4]), ([7, 8, 4, 4], [4, 7, 8]), ([9, 4], [4, 9]), ([4, 10], [4, 10]), ([11, 9], [11]), ([12], [12]), ([13, 12], [12, 13]), ([14, 12], [12, 14]), ([12], [12]), ([12], [12]), ([16, 17, 12, 12], [12, 16, 17]), ([15, 18, 18, 12], [12, 15, 18]), ([19, 12], [12, 19]), ([12, 20], [12, 20])])
def OctFreshW.B14 : List Nat := [0, 0, 3, 7, 15, 31, 63, 127, 31, 511, 1023, 2047, 4095, 8191, 16383, 32767, 8191, 8191, 204799, 524287, 1048575, 2097151]
theorem OctFreshW.tab14 : rtab .any (opsOf Try.f4 14) = OctFreshW.T14 := by kernel_rfl
theorem OctFreshW.bits14 : waitsOk OctFreshW.T14.2 OctFreshW.B14 = true := by kernel_rfl
theorem infoBB : (Try.prog.info? 22).map (fun i => (i.zero, i.size, i.bytes)) = some (some (.slice none 0 0), 1, 24) := by kernel_rfl
theorem quiet_add {P : Program} {f : FuncId} {args : Array Value} {w : World} {m n : Nat} {v : Value} (h : Calls P f args (w.drewN (m + n)) fun e w' => e = .returned v ∧ Drawn0 (w.drewN (m + n)) w') :
  Calls P f args (w.drewN (m + n)) fun e w'' => e = .returned v ∧ ∃ q, w'' = w.drewN (m + q) :=
 h.mono fun _ _ ⟨he, ⟨q, hq⟩⟩ => ⟨he, n + q, by rw [hq, World.drewN_drewN, Nat.add_assoc]⟩
set_option maxRecDepth 100000 in
set_option maxHeartbeats 16000000 in
theorem fresh_calls (A0 : Option Addr) (c0 : Nat) (b : List Int) (v : Int) (s : ByteArray) (w : World) (hr0 : CB w A0 b) (hc0 : b.length ≤ c0) (hb : b.length ≤ 2097152) (hv0 : 0 ≤ v) (hv1 : v ≤ 18446744073709551615) (hs : s.size ≤ 2097152) :
  Calls Try.prog 4 #[.slice A0 b.length c0, .int .u64 v, .string s] w fun e w' => e = .returned (.bool true) ∧ Below w.heap.size w w' := by
 have HR0 := Aside0.mk hr0
 have HC0 := Aside0.mk hc0
 clear hr0 hc0
 go_enter Try.func4, Try.ntmps4
 go_wp2_with fail
 refine (head_calls _).mono ?_
 rintro e w1 ⟨rfl, hb1⟩
 have HB1 := Aside0.mk hb1
 have HR1 := Aside0.mk (Kd.C_below HR0.out hb1)
 clear hb1 HR0
 go_wp2_with fail
 refine (lent_calls A0 c0 b w1 HR1.out (by omega)).mono ?_
 rintro e w2 ⟨g, cap, rfl, ho, hg, hb2⟩
 have HB2 := Aside0.mk (below_then HB1.out HB1.out.size hb2)
 have HR2 := Aside0.mk (Kd.C_below HR1.out hb2)
 have hlong := CB.of_long ho (by decide)
 have hc := hlong.1
 have hcap := hlong.2.1
 clear hlong
 have HO2 := Aside0.mk ho
 have HCap := Aside0.mk hcap
 have HG := Aside0.mk (Nat.le_trans HB1.out.size hg)
 have HGL := Aside0.mk (own_lt ho g rfl)
 have LB : Aside0 (∀ W : World, Below w2.heap.size w2 W → CB W (some ⟨g, 0, none⟩) b) := ⟨fun W h => Kd.C_below hc h⟩
 clear hb2 HB1 HR1 ho hg hc hcap
 go_wp2
 go_loopg [8, 10] 2 (fun gg s8 s10 wr => ∃ i : Nat, i ≤ 2 ∧ 2 - i ≤ gg ∧ s10 = .int .i64 i ∧ ∃ (vs : List Value) (xss : List (List Int)), Aside0 (xss = (List.replicate i (rows7 b v s)).flatten) ∧ Aside0 (Sys w2.heap.size wr vs xss) ∧ Aside0 (Own w2.heap.size wr s8 vs) ∧ Aside0 (Below w2.heap.size w2 wr))
 case atStart => exact ⟨0, by omega, by omega, rfl, [], [], ⟨rfl⟩, ⟨Sys.nil _ _⟩, ⟨World.ownsRow_nil _ _ _ _⟩, ⟨Below.refl _ _⟩⟩
 case round =>
  obtain ⟨i, hi, hg, rfl, vs, xss, HX, S0, O0, W0⟩ := hrel
  by_cases hlt : i < 2
  ·have hltz : (i : Int) < 2 := by omega
   have HVL : Aside0 (vs.length = 7 * i) := ⟨by
    rw [S0.out.len, HX.out]
    clear HX S0 O0 W0
    rcases i with _ | _ | i
    ·rfl
    ·rfl
    ·omega⟩
   go_wp2_with fail
   refine (put8_calls (some ⟨g, 0, none⟩) cap b (v % 256) _ (LB.out _ W0.out) HCap.out (by omega) (by omega) (by omega)).mono ?_
   rintro e w4 ⟨v4, rfl, ho⟩
   obtain ⟨A4, n4, d4, rfl⟩ := NewB.form ho
   have S1 := Aside0.mk (S0.out.add W0.out.size ho)
   have W1 := Aside0.mk (below_then W0.out W0.out.size ho.2.2)
   have O1 := Aside0.mk (O0.out.below ho.2.2)
   clear ho S0 W0 O0
   go_wp2_with fail
   refine (put16_calls (some ⟨g, 0, none⟩) cap b (v % 65536) _ (LB.out _ W1.out) HCap.out (by omega) (by omega) (by omega)).mono ?_
   rintro e w5 ⟨v5, rfl, ho⟩
   obtain ⟨A5, n5, d5, rfl⟩ := NewB.form ho
   have S2 := Aside0.mk (S1.out.add W1.out.size ho)
   have W2 := Aside0.mk (below_then W1.out W1.out.size ho.2.2)
   have O2 := Aside0.mk (O1.out.below ho.2.2)
   clear ho S1 W1 O1
   go_wp2_with fail
   refine (put32_calls (some ⟨g, 0, none⟩) cap b (v % 4294967296) _ (LB.out _ W2.out) HCap.out (by omega) (by omega) (by omega)).mono ?_
   rintro e w6 ⟨v6, rfl, ho⟩
   obtain ⟨A6, n6, d6, rfl⟩ := NewB.form ho
   have S3 := Aside0.mk (S2.out.add W2.out.size ho)
   have W3 := Aside0.mk (below_then W2.out W2.out.size ho.2.2)
   have O3 := Aside0.mk (O2.out.below ho.2.2)
   clear ho S2 W2 O2
   go_wp2_with fail
   refine (put64_calls (some ⟨g, 0, none⟩) cap b v _ (LB.out _ W3.out) HCap.out (by omega) (by omega) (by omega)).mono ?_
   rintro e w7 ⟨v7, rfl, ho⟩
   obtain ⟨A7, n7, d7, rfl⟩ := NewB.form ho
   have S4 := Aside0.mk (S3.out.add W3.out.size ho)
   have W4 := Aside0.mk (below_then W3.out W3.out.size ho.2.2)
   have O4 := Aside0.mk (O3.out.below ho.2.2)
   clear ho S3 W3 O3
   go_wp2_with fail
   refine (text_calls (some ⟨g, 0, none⟩) cap b s _ (LB.out _ W4.out) HCap.out (by omega) (by omega)).mono ?_
   rintro e w8 ⟨v8, rfl, ho⟩
   obtain ⟨A8, n8, d8, rfl⟩ := NewB.form ho
   have S5 := Aside0.mk (S4.out.add W4.out.size ho)
   have W5 := Aside0.mk (below_then W4.out W4.out.size ho.2.2)
   have O5 := Aside0.mk (O4.out.below ho.2.2)
   clear ho S4 W4 O4
   go_wp2_with fail
   have LC := lit_CBB w8 [(some ⟨g, 0, none⟩, cap, b), (some ⟨g, 0, none⟩, cap, b)] (by simp only [List.forall_mem_cons]; exact ⟨⟨HCap.out, LB.out _ W5.out⟩, ⟨HCap.out, LB.out _ W5.out⟩, fun _ h => nomatch h⟩) (by simp)
   have AB := Aside0.mk (below_alloc (Below.refl _ w8) (.cells #[Value.slice (some ⟨g, 0, none⟩) b.length cap, Value.slice (some ⟨g, 0, none⟩) b.length cap] 22))
   refine (join_calls (some ⟨w8.heap.size, 0, none⟩) 2 [b, b] _ LC (Nat.le_refl _) (by simp) (by simp; omega)).mono ?_
   rintro e w9 ⟨v9, rfl, ho⟩
   obtain ⟨A9, n9, d9, rfl⟩ := NewB.form ho
   have W5' := Aside0.mk (below_then W5.out W5.out.size AB.out)
   have S6 := Aside0.mk ((S5.out.below AB.out).add W5'.out.size ho)
   have W6 := Aside0.mk (below_then W5'.out W5'.out.size ho.2.2)
   have O6 := Aside0.mk ((O5.out.below AB.out).below ho.2.2)
   clear ho S5 W5 O5 W5' AB LC
   go_wp2_with fail
   have LC := lit_CBB w9 [(some ⟨g, 0, none⟩, cap, b)] (by simp only [List.forall_mem_cons]; exact ⟨⟨HCap.out, LB.out _ W6.out⟩, fun _ h => nomatch h⟩) (by simp)
   have AB := Aside0.mk (below_alloc (Below.refl _ w9) (.cells #[Value.slice (some ⟨g, 0, none⟩) b.length cap] 22))
   refine (join_calls (some ⟨w9.heap.size, 0, none⟩) 1 [b] _ LC (Nat.le_refl _) (by simp) (by simp; omega)).mono ?_
   rintro e w10 ⟨v10, rfl, ho⟩
   obtain ⟨A10, n10, d10, rfl⟩ := NewB.form ho
   have W6' := Aside0.mk (below_then W6.out W6.out.size AB.out)
   have S7 := Aside0.mk (Sys.seven ((S6.out.below AB.out).add W6'.out.size ho))
   have W7 := Aside0.mk (below_then W6'.out W6'.out.size ho.2.2)
   have O7 := Aside0.mk ((O6.out.below AB.out).below ho.2.2)
   have ONE : Aside0 (∀ u ∈ ([.slice A4 n4 d4, .slice A5 n5 d5, .slice A6 n6 d6, .slice A7 n7 d7, .slice A8 n8 d8, .slice A9 n9 d9, .slice A10 n10 d10] : List Value), u.oneCell' = true) := ⟨fun u hu => by
    simp only [List.mem_cons, List.not_mem_nil, or_false] at hu
    rcases hu with rfl | rfl | rfl | rfl | rfl | rfl | rfl <;> rfl⟩
   clear ho S6 W6 O6 W6' AB LC
   go_wp2_with (at_builtin; refine app_many (w0 := w2) w2.heap.size rfl (.tmp 27) (.tmp 53) 37 22 (.slice none 0 0) 24 rfl Try.underlying37 infoBB rfl (by decide) u8 vs [.slice A4 n4 d4, .slice A5 n5 d5, .slice A6 n6 d6, .slice A7 n7 d7, .slice A8 n8 d8, .slice A9 n9 d9, .slice A10 n10 d10] rfl rfl ONE.out O7.out W7.out W7.out.size (by have := HVL.out; simp; omega) ?_; intro v11 w11 ho hb11 hg11)
   go_roundg (2 - (i + 1))
   case measure => omega
   case rel => exact ⟨i + 1, by omega, by omega, by go_num, _, _, ⟨by rw [flat_rep, ← HX.out]⟩, ⟨(S7.out.move fun _ _ _ _ _ h => OB.grown O7.out h hg11)⟩, ⟨ho⟩, ⟨hb11⟩⟩
  ·obtain rfl : i = 2 := by omega
   have HX2 : Aside0 (xss = rows7 b v s ++ rows7 b v s) := ⟨by rw [HX.out]; simp⟩
   have HVL : Aside0 (vs.length = 14) := ⟨by rw [S0.out.len, HX2.out, List.length_append, rows7_length]⟩
   obtain ⟨ga, ca, rfl, hga1, hga2⟩ := O0.out.form (by have := HVL.out; omega)
   have GA := Aside0.mk (And.intro hga1 hga2)
   clear HX hlt hi hg hga1 hga2
   go_wp2
   go_loopg [11] 7 (fun gg s11 wz => ∃ i : Nat, i ≤ 7 ∧ 7 - i ≤ gg ∧ s11 = .int .i64 i ∧ Drawn0 wr wz)
   case atStart => exact ⟨0, by omega, by omega, rfl, Drawn0.refl _⟩
   case round =>
    obtain ⟨i, hi, hg, rfl, ⟨m, rfl⟩⟩ := hrel
    by_cases hlt : i < 7
    ·have hltz : (i : Int) < 7 := by omega
     obtain ⟨v1, hv1⟩ : ∃ u, vs[i]? = some u := ⟨_, List.getElem?_eq_getElem (by have := HVL.out; omega)⟩
     obtain ⟨v2, hv2⟩ : ∃ u, vs[i + 7]? = some u := ⟨_, List.getElem?_eq_getElem (by have := HVL.out; omega)⟩
     obtain ⟨x, hx1⟩ := S0.out.get hv1
     have hx2 : xss[i + 7]? = some x := by
      rw [HX2.out] at hx1 ⊢
      rw [List.getElem?_append_left (by rw [rows7_length]; omega)] at hx1
      rw [List.getElem?_append_right (by rw [rows7_length]; omega), rows7_length, Nat.add_sub_cancel]
      exact hx1
     obtain ⟨A1, c1, rfl, l1, r1⟩ := S0.out.read hv1 hx1
     obtain ⟨A2, c2, rfl, l2, r2⟩ := S0.out.read hv2 hx2
     have p1 := O0.out.cell hv1
     have p2 := O0.out.cell hv2
     have i1 : (i : Int) < (vs.length : Int) := by have := HVL.out; omega
     have i2 : (i : Int) + 7 < (vs.length : Int) := by have := HVL.out; omega
     have i3 : (0 : Int) ≤ (i : Int) := by omega
     have i4 : (0 : Int) ≤ (i : Int) + 7 := by omega
     have i5 : IntKind.i64.wrap ((i : Int) + 7) = (i : Int) + 7 := IntWalk.i64_in _ (by omega)
     have i6 : ((i : Int) + 7).toNat = i + 7 := by omega
     have SC : Aside0 (∀ q : Nat, Calls Try.prog 10 #[.slice A1 x.length c1, .slice A2 x.length c2] (wr.drewN q) fun e w' => e = .returned (.bool true) ∧ Drawn0 (wr.drewN q) w') := ⟨fun q => same_calls A1 c1 A2 c2 x _ (Kd.C_drewN r1 _) l1 (Kd.C_drewN r2 _) l2⟩
     clear hv1 hv2 hx1 hx2 l1 l2 r1 r2
     go_wp2
     go_quiet ((go_at_call 10; with_reducible exact quiet_add (SC.out _)))
     clear i5 i6
     go_wp2
     go_roundg (7 - (i + 1))
     case measure => omega
     case rel => exact ⟨i + 1, by omega, by omega, by go_num, ⟨_, rfl⟩⟩
    ·obtain rfl : i = 7 := by omega
     obtain ⟨v4, hv4⟩ : ∃ u, vs[4]? = some u := ⟨_, List.getElem?_eq_getElem (by have := HVL.out; omega)⟩
     obtain ⟨v6, hv6⟩ : ∃ u, vs[6]? = some u := ⟨_, List.getElem?_eq_getElem (by have := HVL.out; omega)⟩
     obtain ⟨t, ht⟩ : ∃ t, t = b ++ le 4 (s.size : Int) ++ bytesOf s := ⟨_, rfl⟩
     have hx4 : xss[4]? = some t := by rw [HX2.out, ht]; rfl
     have hx6 : xss[6]? = some b := by rw [HX2.out]; simp [rows7]
     obtain ⟨A4, c4, rfl, l4, r4⟩ := S0.out.read hv4 hx4
     obtain ⟨A6, c6, rfl, l6, r6⟩ := S0.out.read hv6 hx6
     have bd : Below wr.heap.size wr (wr.drewN m).drew := pw_below_drewN (Below.refl _ _) (m + 1)
     have Sd := Aside0.mk (S0.out.below bd)
     have Od := Aside0.mk (O0.out.below bd)
     have Wd := Aside0.mk (below_then W0.out W0.out.size bd)
     have R4 := Aside0.mk (Kd.C_below r4 bd)
     have R6 := Aside0.mk (Kd.C_below r6 bd)
     have T4 := Aside0.mk ht
     have p4 := Od.out.cell hv4
     have p6 := Od.out.cell hv6
     have j6 : (6 : Int) < (vs.length : Int) := by have := HVL.out; omega
     have j4 : (4 : Int) < (vs.length : Int) := by have := HVL.out; omega
     have GD : Aside0 (ga < (wr.drewN m).drew.heap.size) := ⟨GA.out.2⟩
     clear S0 O0 W0 bd r4 r6 ht hv4 hv6 hx4 hx6 hlt hi hg
     go_wp2_with fail
     refine start_ (n := 22) (S := fun w' => w'.cell? ⟨ga, 6, none⟩ = some (.slice A6 b.length c6) ∧ w'.cell? ⟨ga, 4, none⟩ = some (.slice A4 t.length c4)) (ds := []) (lb 22 0) (by kernel_rfl) rfl rfl ⟨p6, p4⟩ (fun hHeld => ?_); refine with_tabW OctFreshW.tab14 OctFreshW.bits14 (fun HT_ HW_ => ?_)
     generalize (wr.drewN m).drew = wd at Sd Od Wd R4 R6 p4 p6 GD hHeld ⊢
     refine pure_ (i := 0) (N := some 70) (v := ?_) (a' := ?_) (lb 22 1) rfl rfl (any_of HT_.out (by kernel_rfl)) (fun _ _ _ h => h) (Or.inl ⟨by rfl, ?_⟩) ?_ ?_
     rotate_left
     ·intro w'
      go_simp
      with_reducible rfl
     rotate_left
     ·simp only [Act.put, List.setIfInBounds_toArray, List.set_cons_zero, List.set_cons_succ, i64_w, i32_w]
      rfl
     refine pure_ (i := 1) (N := some 71) (v := ?_) (a' := ?_) (lb 22 3) rfl rfl (any_of HT_.out (by kernel_rfl)) (fun _ _ _ h => h) (Or.inl ⟨by rfl, ?_⟩) ?_ ?_
     rotate_left
     ·intro w'
      go_simp
      with_reducible rfl
     rotate_left
     ·simp only [Act.put, List.setIfInBounds_toArray, List.set_cons_zero, List.set_cons_succ, i64_w, i32_w]
      rfl
     refine one_ (i := 2) (N := some 72) (lb 22 7) rfl rfl (one_of HT_.out (by kernel_rfl)) (by decide) (fun K hK => ?_)
     refine goes_ Try.func19 (by kernel_rfl) rfl #[.slice (some ⟨g, 0, none⟩) b.length cap, .slice A0 b.length c0] (by rfl) rfl rfl (by (try simp only [List.map_toArray, List.map_cons, List.map_nil]); first | done | rfl) ?_
     refine (kept_calls g cap A0 c0 b _ (HO2.out.below Wd.out) (Kd.C_below HR2.out Wd.out) HC0.out (by omega)).mono ?_
     rintro e w4 ⟨rfl, ⟨⟨q4, rfl⟩⟩⟩
     refine ⟨_, rfl, ?_⟩
     have K4 := Aside0.mk (pw_below_drewN (Below.refl wd.heap.size wd) q4)
     refine hK.out _ _ ⟨(cell_below K4.out p6 GD.out), (cell_below K4.out p4 GD.out)⟩ (fun hHeld => ?_)
     clear hK K
     refine norm_ (a' := ?_) ?_ ?_
     rotate_left
     ·show Act.put _ (some 72) _ = _
      simp only [Act.put, List.setIfInBounds_toArray, List.set_cons_zero, List.set_cons_succ, i64_w, i32_w]
      rfl
     refine pure_ (i := 3) (N := some 73) (v := ?_) (a' := ?_) (lb 22 15) rfl rfl (any_of HT_.out (by kernel_rfl)) (fun _ _ _ h => h) (Or.inl ⟨by rfl, ?_⟩) ?_ ?_
     rotate_left
     ·intro w'
      go_simp
      with_reducible rfl
     rotate_left
     ·simp only [Act.put, List.setIfInBounds_toArray, List.set_cons_zero, List.set_cons_succ, i64_w, i32_w]
      rfl
     refine pure_ (i := 4) (N := some 74) (v := ?_) (a' := ?_) (lb 22 31) rfl rfl (any_of HT_.out (by kernel_rfl)) (fun _ _ _ h => h) (Or.inl ⟨by rfl, ?_⟩) ?_ ?_
     rotate_left
     ·intro w'
      go_simp
      with_reducible rfl
     rotate_left
     ·simp only [Act.put, List.setIfInBounds_toArray, List.set_cons_zero, List.set_cons_succ, i64_w, i32_w]
      rfl
     refine pure_ (i := 5) (N := some 75) (v := ?_) (a' := ?_) (lb 22 63) rfl rfl (any_of HT_.out (by kernel_rfl)) (fun _ _ _ h => h) (Or.inl ⟨by rfl, ?_⟩) ?_ ?_
     rotate_left
     ·intro w'
      go_simp
      with_reducible rfl
     rotate_left
     ·simp only [Act.put, List.setIfInBounds_toArray, List.set_cons_zero, List.set_cons_succ, i64_w, i32_w]
      rfl
     refine pure_ (i := 6) (N := some 76) (v := ?_) (a' := ?_) (lb 22 127) rfl rfl (any_of HT_.out (by kernel_rfl)) (fun _ _ _ h => h) (Or.inl ⟨by rfl, ?_⟩) ?_ ?_
     rotate_left
     ·intro w'
      go_simp
      with_reducible rfl
     rotate_left
     ·simp only [Act.put, List.setIfInBounds_toArray, List.set_cons_zero, List.set_cons_succ, i64_w, i32_w]
      rfl
     refine pure_ (i := 8) (N := some 78) (v := ?_) (a' := ?_) (lb 22 383) rfl rfl (any_of HT_.out (by kernel_rfl)) (fun _ _ _ h => h) (Or.inl ⟨by rfl, ?_⟩) ?_ ?_
     rotate_left
     ·intro w'
      go_simp
      with_reducible rfl
     rotate_left
     ·simp only [Act.put, List.setIfInBounds_toArray, List.set_cons_zero, List.set_cons_succ, i64_w, i32_w]
      rfl
     refine take_ (i := 7) (N := some 77) (v := ?_) (a' := ?_) (lb 22 511) rfl rfl (take_ofW HT_.out HW_.out (by kernel_rfl)) (fun _ _ _ h => h) (Or.inl ⟨by rfl, ?_⟩) hHeld ?_ ?_
     rotate_left
     ·rintro w' ⟨s0, s1⟩
      go_simp
      with_reducible rfl
     rotate_left
     ·simp only [Act.put, List.setIfInBounds_toArray, List.set_cons_zero, List.set_cons_succ, i64_w, i32_w]
      rfl
     refine one_ (i := 9) (N := some 79) (lb 22 1023) rfl rfl (one_of HT_.out (by kernel_rfl)) (by decide) (fun K hK => ?_)
     refine goes_ Try.func10 (by kernel_rfl) rfl #[.slice A6 b.length c6, .slice A0 b.length c0] (by rfl) rfl rfl (by (try simp only [List.map_toArray, List.map_cons, List.map_nil]); first | done | rfl) ?_
     refine (same_calls A6 c6 A0 c0 b _ (Kd.C_below R6.out K4.out) l6 (Kd.C_below HR2.out (below_then Wd.out Wd.out.size K4.out)) HC0.out).mono ?_
     rintro e w5 ⟨rfl, ⟨⟨q5, rfl⟩⟩⟩
     refine ⟨_, rfl, ?_⟩
     have K5 := Aside0.mk (pw_below_drewN K4.out q5)
     refine hK.out _ _ ⟨(cell_below K5.out p6 GD.out), (cell_below K5.out p4 GD.out)⟩ (fun hHeld => ?_)
     clear hK K
     refine norm_ (a' := ?_) ?_ ?_
     rotate_left
     ·show Act.put _ (some 79) _ = _
      simp only [Act.put, List.setIfInBounds_toArray, List.set_cons_zero, List.set_cons_succ, i64_w, i32_w]
      rfl
     refine pure_ (i := 10) (N := some 80) (v := ?_) (a' := ?_) (lb 22 2047) rfl rfl (any_of HT_.out (by kernel_rfl)) (fun _ _ _ h => h) (Or.inl ⟨by rfl, ?_⟩) ?_ ?_
     rotate_left
     ·intro w'
      go_simp
      with_reducible rfl
     rotate_left
     ·simp only [Act.put, List.setIfInBounds_toArray, List.set_cons_zero, List.set_cons_succ, i64_w, i32_w]
      rfl
     refine pure_ (i := 11) (N := some 81) (v := ?_) (a' := ?_) (lb 22 4095) rfl rfl (any_of HT_.out (by kernel_rfl)) (fun _ _ _ h => h) (Or.inl ⟨by rfl, ?_⟩) ?_ ?_
     rotate_left
     ·intro w'
      go_simp
      with_reducible rfl
     rotate_left
     ·simp only [Act.put, List.setIfInBounds_toArray, List.set_cons_zero, List.set_cons_succ, i64_w, i32_w]
      rfl
     refine pure_ (i := 12) (N := some 82) (v := ?_) (a' := ?_) (lb 22 8191) rfl rfl (any_of HT_.out (by kernel_rfl)) (fun _ _ _ h => h) (Or.inl ⟨by rfl, ?_⟩) ?_ ?_
     rotate_left
     ·intro w'
      go_simp
      with_reducible rfl
     rotate_left
     ·simp only [Act.put, List.setIfInBounds_toArray, List.set_cons_zero, List.set_cons_succ, i64_w, i32_w]
      rfl
     refine pure_ (i := 13) (N := some 83) (v := ?_) (a' := ?_) (lb 22 16383) rfl rfl (any_of HT_.out (by kernel_rfl)) (fun _ _ _ h => h) (Or.inl ⟨by rfl, ?_⟩) ?_ ?_
     rotate_left
     ·intro w'
      go_simp
      with_reducible rfl
     rotate_left
     ·simp only [Act.put, List.setIfInBounds_toArray, List.set_cons_zero, List.set_cons_succ, i64_w, i32_w]
      rfl
     refine pure_ (i := 14) (N := some 84) (v := ?_) (a' := ?_) (lb 22 32767) rfl rfl (any_of HT_.out (by kernel_rfl)) (fun _ _ _ h => h) (Or.inl ⟨by rfl, ?_⟩) ?_ ?_
     rotate_left
     ·intro w'
      go_simp
      with_reducible rfl
     rotate_left
     ·simp only [Act.put, List.setIfInBounds_toArray, List.set_cons_zero, List.set_cons_succ, i64_w, i32_w]
      rfl
     refine pure_ (i := 16) (N := some 86) (v := ?_) (a' := ?_) (lb 22 98303) rfl rfl (any_of HT_.out (by kernel_rfl)) (fun _ _ _ h => h) (Or.inl ⟨by rfl, ?_⟩) ?_ ?_
     rotate_left
     ·intro w'
      go_simp
      with_reducible rfl
     rotate_left
     ·simp only [Act.put, List.setIfInBounds_toArray, List.set_cons_zero, List.set_cons_succ, i64_w, i32_w]
      rfl
     refine pure_ (i := 17) (N := some 87) (v := ?_) (a' := ?_) (lb 22 229375) rfl rfl (any_of HT_.out (by kernel_rfl)) (fun _ _ _ h => h) (Or.inl ⟨by rfl, ?_⟩) ?_ ?_
     rotate_left
     ·intro w'
      go_simp
      with_reducible rfl
     rotate_left
     ·simp only [Act.put, List.setIfInBounds_toArray, List.set_cons_zero, List.set_cons_succ, i64_w, i32_w]
      rfl
     refine take_ (i := 15) (N := some 85) (v := ?_) (a' := ?_) (lb 22 262143) rfl rfl (take_ofW HT_.out HW_.out (by kernel_rfl)) (fun _ _ _ h => h) (Or.inl ⟨by rfl, ?_⟩) hHeld ?_ ?_
     rotate_left
     ·rintro w' ⟨s0, s1⟩
      go_simp
      with_reducible rfl
     rotate_left
     ·simp only [Act.put, List.setIfInBounds_toArray, List.set_cons_zero, List.set_cons_succ, i64_w, i32_w]
      rfl
     refine one_ (i := 18) (N := some 88) (lb 22 524287) rfl rfl (one_of HT_.out (by kernel_rfl)) (by decide) (fun K hK => ?_)
     refine goes_ Try.func16 (by kernel_rfl) rfl #[.slice A0 b.length c0, .string s] (by rfl) rfl rfl (by (try simp only [List.map_toArray, List.map_cons, List.map_nil]); first | done | rfl) ?_
     refine (reftext_calls A0 c0 b s _ (Kd.C_below HR2.out (below_then Wd.out Wd.out.size K5.out)) HC0.out (by omega) (by omega)).mono ?_
     rintro e w6 ⟨v6, rfl, ho, hk, hb⟩
     rw [← T4.out] at ho
     obtain ⟨A7, c7, rfl, l7, r7⟩ := OB.reads ho
     have R7 := Aside0.mk r7
     have K6 := Aside0.mk (below_then K5.out K5.out.size hb)
     clear ho hk hb r7
     refine ⟨_, rfl, ?_⟩
     refine hK.out _ _ ⟨(cell_below K6.out p6 GD.out), (cell_below K6.out p4 GD.out)⟩ (fun hHeld => ?_)
     clear hK K
     refine norm_ (a' := ?_) ?_ ?_
     rotate_left
     ·show Act.put _ (some 88) _ = _
      simp only [Act.put, List.setIfInBounds_toArray, List.set_cons_zero, List.set_cons_succ, i64_w, i32_w]
      rfl
     refine one_ (i := 19) (N := some 89) (lb 22 1048575) rfl rfl (one_of HT_.out (by kernel_rfl)) (by decide) (fun K hK => ?_)
     refine goes_ Try.func10 (by kernel_rfl) rfl #[.slice A4 t.length c4, .slice A7 t.length c7] (by rfl) rfl rfl (by (try simp only [List.map_toArray, List.map_cons, List.map_nil]); first | done | rfl) ?_
     refine (same_calls A4 c4 A7 c7 t _ (Kd.C_below R4.out K6.out) l4 R7.out l7).mono ?_
     rintro e w7 ⟨rfl, ⟨⟨q7, rfl⟩⟩⟩
     refine ⟨_, rfl, ?_⟩
     have K7 := Aside0.mk (pw_below_drewN K6.out q7)
     refine hK.out _ _ ⟨(cell_below K7.out p6 GD.out), (cell_below K7.out p4 GD.out)⟩ (fun hHeld => ?_)
     clear hK K
     refine norm_ (a' := ?_) ?_ ?_
     rotate_left
     ·show Act.put _ (some 89) _ = _
      simp only [Act.put, List.setIfInBounds_toArray, List.set_cons_zero, List.set_cons_succ, i64_w, i32_w]
      rfl
     refine pure_ (i := 20) (N := some 90) (v := ?_) (a' := ?_) (lb 22 2097151) rfl rfl (any_of HT_.out (by kernel_rfl)) (fun _ _ _ h => h) (Or.inl ⟨by rfl, ?_⟩) ?_ ?_
     rotate_left
     ·intro w'
      go_simp
      with_reducible rfl
     rotate_left
     ·simp only [Act.put, List.setIfInBounds_toArray, List.set_cons_zero, List.set_cons_succ, i64_w, i32_w]
      rfl
     refine pure_ (i := 21) (N := some 91) (v := ?_) (a' := ?_) (lb 22 4194303) rfl rfl (any_of HT_.out (by kernel_rfl)) (fun _ _ _ h => h) (Or.inl ⟨by rfl, ?_⟩) ?_ ?_
     rotate_left
     ·intro w'
      go_simp
      with_reducible rfl
     rotate_left
     ·simp only [Act.put, List.setIfInBounds_toArray, List.set_cons_zero, List.set_cons_succ, i64_w, i32_w]
      rfl
     refine done_ (done_of HT_.out (by kernel_rfl)) ?_
     have S3 := Aside0.mk (Sd.out.below K7.out)
     have O3 := Aside0.mk (Od.out.below K7.out)
     have W3 := Aside0.mk (below_then Wd.out Wd.out.size K7.out)
     have LEN : Aside0 (∀ (i : Nat) (A : Option Addr) (n c : Nat), vs[i]? = some (.slice A n c) → n ≤ 8388608) := ⟨fun i A n c h => by
      obtain ⟨x, hx⟩ := S3.out.get h
      obtain ⟨A', c', e, _⟩ := S3.out.read h hx
      injection e with _ e _
      rw [e]
      have hm : x ∈ rows7 b v s := by
       have := List.mem_of_getElem? hx
       rw [HX2.out] at this
       rcases List.mem_append.1 this with h | h <;> exact h
      exact rows7_short hb hs x hm⟩
     clear Sd Od Wd R4 R6 R7 T4 K4 K5 K6 K7 GD p4 p6 hHeld j4 j6 l4 l6 l7
     generalize w6.drewN q7 = wm at S3 O3 W3 ⊢
     go_wp2
     go_loopg [12] vs.length (fun gg s12 wr => ∃ i : Nat, i ≤ vs.length ∧ vs.length - i ≤ gg ∧ s12 = .int .i64 i ∧ ∃ yss : List (List Int), Aside0 (Sys w2.heap.size wr vs yss) ∧ Aside0 (Own w2.heap.size wr (.slice (some ⟨ga, 0, none⟩) vs.length ca) vs) ∧ Aside0 (Below w2.heap.size w2 wr) ∧ Aside0 (Marked i yss))
     case atStart => exact ⟨0, by omega, by omega, rfl, xss, S3, O3, W3, ⟨fun q x h => absurd h (by omega)⟩⟩
     case round =>
      obtain ⟨i, hi, hg, rfl, yss, S4, O4, W4, M4⟩ := hrel
      clear S3 O3 W3
      by_cases hlt : i < vs.length
      ·have hltz : (i : Int) < (vs.length : Int) := by omega
       have hi14 : (i : Int) + 1 ≤ 14 := by have := HVL.out; omega
       obtain ⟨v1, hv1⟩ : ∃ u, vs[i]? = some u := ⟨_, List.getElem?_eq_getElem hlt⟩
       obtain ⟨x, hx⟩ := S4.out.get hv1
       obtain ⟨A1, c1, rfl, l1, r1⟩ := S4.out.read hv1 hx
       have HV1 := Aside0.mk hv1
       have HX1 := Aside0.mk hx
       have hil : i < yss.length := by have := S4.out.len; omega
       have hxl : x.length ≤ 9223372036854775807 := r1.2.1
       have SS : Aside0 (Sys w2.heap.size wr vs (yss.set i x)) := ⟨by
        have e : yss.set i x = yss := by
         apply List.ext_getElem?
         intro q
         by_cases hq : q = i
         ·subst hq; rw [List.getElem?_set_self hil, HX1.out]
         ·rw [List.getElem?_set_ne (by omega)]
        rw [e]; exact S4.out⟩
       clear hv1 hx l1 r1
       go_wp2
       go_loopg [13] x.length (fun gg s13 wz => ∃ (j : Nat) (y : List Int), j ≤ x.length ∧ x.length - j ≤ gg ∧ s13 = .int .i64 j ∧ Aside0 (y.length = x.length) ∧ Aside0 (Sys w2.heap.size wz vs (yss.set i y)) ∧ Aside0 (Own w2.heap.size wz (.slice (some ⟨ga, 0, none⟩) vs.length ca) vs) ∧ Aside0 (Below w2.heap.size w2 wz) ∧ Aside0 (∀ q, q < j → y[q]? = some ((i : Int) + 1)))
       case atStart => exact ⟨0, x, by omega, by omega, rfl, ⟨rfl⟩, SS, O4, W4, ⟨fun q h => absurd h (by omega)⟩⟩
       case round =>
        obtain ⟨j, y, hj, hgj, rfl, YL, S5, O5, W5, M5⟩ := hrel
        clear SS S4 O4 W4
        have p1 := O5.out.cell HV1.out
        have HY : Aside0 ((yss.set i y)[i]? = some y) := ⟨List.getElem?_set_self hil⟩
        by_cases hlj : j < x.length
        ·have hljz : (j : Int) < (x.length : Int) := by omega
         obtain ⟨g1, c1', e1⟩ := OB.head (S5.out.each i _ y HV1.out HY.out) (by have := YL.out; omega)
         injection e1 with e1 e2 e3
         subst e1
         clear e2 e3
         obtain ⟨hcj, hfj⟩ := OB.at_ (S5.out.each i _ y HV1.out HY.out) j (by have := YL.out; omega)
         go_wp2
         go_roundg (x.length - (j + 1))
         case measure => omega
         case rel => exact ⟨j + 1, y.set j ((i : Int) + 1), by omega, by omega, by go_num, ⟨by rw [List.length_set]; exact YL.out⟩, ⟨by have h := S5.out.set (i := i) (by rw [YL.out]; exact HV1.out) HY.out j ((i : Int) + 1); rwa [List.set_set] at h⟩, ⟨O5.out.set (S5.out.each i _ y HV1.out HY.out) rfl _⟩, ⟨W5.out.setCell (S5.out.low i _ g1 HV1.out rfl) _⟩, ⟨fun q hq => by
          by_cases e : q = j
          ·subst e; rw [List.getElem?_set_self (by have := YL.out; omega)]
          ·rw [List.getElem?_set_ne (by omega)]; exact M5.out q (by omega)⟩⟩
        ·have hljz : ¬ (j : Int) < (x.length : Int) := by omega
         obtain rfl : j = x.length := by omega
         go_wp2
         go_roundg (vs.length - (i + 1))
         case measure => omega
         case rel =>
          refine ⟨i + 1, by omega, by omega, by go_num, _, S5, O5, W5, ⟨fun q z hq hz w hw => ?_⟩⟩
          by_cases hqi : q = i
          ·subst hqi
           rw [HY.out] at hz
           injection hz with hz
           subst hz
           obtain ⟨r, hr, rfl⟩ := List.getElem_of_mem hw
           have := M5.out r (by have := YL.out; omega)
           rw [List.getElem?_eq_getElem hr] at this
           exact Option.some.inj this
          ·rw [List.getElem?_set_ne (by omega)] at hz
           exact M4.out q z (by omega) hz w hw
      ·have hltz : ¬ (i : Int) < (vs.length : Int) := by omega
       obtain rfl : i = vs.length := by omega
       obtain ⟨n4, hn4⟩ : ∃ n, n = wr.heap.size := ⟨_, rfl⟩
       have B4 : Aside0 (ga < n4) := ⟨by rw [hn4]; exact own_lt O4.out ga rfl⟩
       have N4 : Aside0 (w2.heap.size ≤ n4) := ⟨by rw [hn4]; exact W4.out.size⟩
       have Z4 : Aside0 (n4 ≤ wr.heap.size) := ⟨by rw [hn4]; exact Nat.le_refl _⟩
       clear hn4
       clear hlt hi hg
       go_wp2
       go_loopg [9, 14] vs.length (fun gg s9 s14 wz => ∃ i : Nat, i ≤ vs.length ∧ vs.length - i ≤ gg ∧ s14 = .int .i64 i ∧ ∃ (ls : List Value) (zss : List (List Int)), Aside0 (ls.length = i) ∧ Aside0 (Sys w2.heap.size wz ls zss) ∧ Aside0 (Marked i zss) ∧ Aside0 (Sys w2.heap.size wz vs yss) ∧ Aside0 (Own w2.heap.size wz (.slice (some ⟨ga, 0, none⟩) vs.length ca) vs) ∧ Aside0 (Own n4 wz s9 ls) ∧ Aside0 (Away i ls vs) ∧ Aside0 (Below w2.heap.size w2 wz) ∧ Aside0 (n4 ≤ wz.heap.size))
       case atStart => exact ⟨0, by omega, by omega, rfl, [], [], ⟨rfl⟩, ⟨Sys.nil _ _⟩, ⟨fun q x h => absurd h (by omega)⟩, S4, O4, ⟨World.ownsRow_nil _ _ _ _⟩, ⟨fun q r u v k h => by simp at h⟩, W4, Z4⟩
       case round =>
        obtain ⟨i, hi, hg, rfl, ls, zss, LL, L5, M5, S5, O5, P5, AW, W5, SZ⟩ := hrel
        clear S4 O4 W4
        by_cases hlt : i < vs.length
        ·have hltz : (i : Int) < (vs.length : Int) := by omega
         have hi14 : (i : Int) + 1 ≤ 14 := by have := HVL.out; omega
         obtain ⟨v1, hv1⟩ : ∃ u, vs[i]? = some u := ⟨_, List.getElem?_eq_getElem hlt⟩
         obtain ⟨x, hx⟩ := S5.out.get hv1
         obtain ⟨A1, c1, rfl, l1, r1⟩ := S5.out.read hv1 hx
         have HV1 := Aside0.mk hv1
         have HX1 := Aside0.mk hx
         have OV := Aside0.mk (S5.out.each i _ x hv1 hx)
         have LOW := Aside0.mk (fun k => S5.out.low i _ k hv1)
         have XL : Aside0 (x.length + 1 ≤ 4294967296) := ⟨by have := LEN.out i _ _ _ hv1; omega⟩
         have p1 := O5.out.cell hv1
         have p2 := (blk_frozen (own_typed O5.out ga rfl).choose_spec i)
         clear hv1 hx l1 r1 p2
         go_wp2_with (first | ((with_reducible refine gate_builtin (b := .append) (xs := #[.tmp 126, .tmp 130]) rfl ?_); at_builtin; refine app_alias8 (w0 := w2) w2.heap.size rfl (.tmp 126) (.tmp 130) 22 5 rfl Try.underlying22 info8 rfl (.slice A1 x.length c1) x ((i : Int) + 1) rfl rfl OV.out LOW.out W5.out W5.out.size XL.out ?_; intro v5 w5 ho hk hW hgr hat keep; obtain ⟨A5, n5, d5, rfl⟩ := OB.form3 ho; have P6 := Aside0.mk (P5.out.grown OV.out hgr); have HO5 := Aside0.mk ho; have HK5 := Aside0.mk hk; have W6 := Aside0.mk hW; have HG5 := Aside0.mk hgr; have HA5 := Aside0.mk hat; have KP := Aside0.mk keep; clear ho hk hW hgr hat keep) | ((with_reducible refine gate_builtin (b := .append) (xs := #[.tmp 122, .tmp 132]) rfl ?_); at_builtin; refine print_append (w0 := w5) n4 rfl (.tmp 122) (.tmp 132) 37 22 (.slice none 0 0) 24 rfl Try.underlying37 infoBB rfl (by decide) u9 ls (.slice A5 n5 d5) rfl rfl rfl P6.out (Below.refl _ _) (Nat.le_trans SZ.out HG5.out.size) (by have := LL.out; omega) ?_; intro v6 w6 hown hbW hgW _))
         go_roundg (vs.length - (i + 1))
         case measure => omega
         case rel =>
          obtain ⟨q1, q2, q3, q4⟩ := grow_step S5.out L5.out HV1.out HX1.out AW.out O5.out P5.out (fun k hk => by injection hk with hk; subst hk; exact B4.out) HO5.out HK5.out HG5.out HA5.out KP.out hgW
          exact ⟨i + 1, by omega, by omega, by go_num, _, _, ⟨by rw [List.length_append, LL.out]; rfl⟩, ⟨q2⟩, ⟨M5.out.snoc (by rw [← L5.out.len, LL.out]) (fun y hy => by
           rcases List.mem_append.1 hy with hy | hy
           ·exact M4.out i x hlt HX1.out y hy
           ·exact List.mem_singleton.1 hy)⟩, ⟨q1⟩, ⟨q4⟩, ⟨hown⟩, ⟨q3⟩, ⟨W6.out.trans (hbW.mono N4.out)⟩, ⟨Nat.le_trans SZ.out (Nat.le_trans HG5.out.size hbW.size)⟩⟩
        ·have hltz : ¬ (i : Int) < (vs.length : Int) := by omega
         obtain rfl : i = vs.length := by omega
         obtain ⟨gl, cl, rfl, _, _⟩ := P5.out.form (by have := LL.out; have := HVL.out; omega)
         have L14 : Aside0 (ls.length = vs.length) := LL
         have wl : (ls.length : Int) = (vs.length : Int) := by have := LL.out; omega
         clear hlt hi hg B4 N4 Z4 AW SZ wl
         go_wp2
         obtain ⟨wo, hwo⟩ : ∃ wo : World, wo = wr := ⟨_, rfl⟩
         rw [← hwo] at S5 O5 P5 L5 W5
         go_loopg [15] ls.length (fun gg s15 wz => ∃ i : Nat, i ≤ ls.length ∧ ls.length - i ≤ gg ∧ s15 = .int .i64 i ∧ wz = wo)
         case atStart => exact ⟨0, by omega, by omega, rfl, hwo.symm⟩
         case round =>
          clear hwo
          obtain ⟨i, hi, hg, rfl, rfl⟩ := hrel
          by_cases hlt : i < ls.length
          ·have hltz : (i : Int) < (ls.length : Int) := by omega
           have hltv : (i : Int) < (vs.length : Int) := by have := L14.out; omega
           have hi14 : (i : Int) + 1 ≤ 14 := by have := L14.out; have := HVL.out; omega
           obtain ⟨v1, hv1⟩ : ∃ u, vs[i]? = some u := ⟨_, List.getElem?_eq_getElem (by have := L14.out; omega)⟩
           obtain ⟨v2, hv2⟩ : ∃ u, ls[i]? = some u := ⟨_, List.getElem?_eq_getElem hlt⟩
           obtain ⟨x, hx⟩ := S5.out.get hv1
           obtain ⟨z, hz⟩ := L5.out.get hv2
           obtain ⟨A1, c1, rfl, l1, r1⟩ := S5.out.read hv1 hx
           obtain ⟨A2, c2, rfl, l2, r2⟩ := L5.out.read hv2 hz
           have p1 := O5.out.cell hv1
           have p2 := P5.out.cell hv2
           have OX := Aside0.mk (S5.out.each i _ x hv1 hx)
           have OZ := Aside0.mk (L5.out.each i _ z hv2 hz)
           have MX : Aside0 (∀ y ∈ x, y = (i : Int) + 1) := ⟨M4.out i x (by have := L14.out; omega) hx⟩
           have MZ : Aside0 (∀ y ∈ z, y = (i : Int) + 1) := ⟨M5.out i z (by have := L14.out; omega) hz⟩
           have xl : x.length ≤ 9223372036854775807 := r1.2.1
           have zl : z.length ≤ 9223372036854775807 := r2.2.1
           clear hv1 hv2 hx hz l1 l2 r1 r2
           go_wp2
           obtain ⟨w9, hw9⟩ : ∃ wo : World, wo = wr := ⟨_, rfl⟩
           rw [← hw9] at S5 O5 P5 L5 W5 OX OZ p1 p2
           have HW9 := Aside0.mk hw9
           go_loopg [16] z.length (fun gg s16 wz => ∃ j : Nat, j ≤ z.length ∧ z.length - j ≤ gg ∧ s16 = .int .i64 j ∧ wz = w9)
           case atStart => exact ⟨0, by omega, by omega, rfl, hw9.symm⟩
           case round =>
            clear hw9
            obtain ⟨j, hj, hgj, rfl, rfl⟩ := hrel
            by_cases hlj : j < z.length
            ·have hljz : (j : Int) < (z.length : Int) := by omega
             obtain ⟨g2, c2', e2⟩ := OB.head OZ.out (by omega)
             injection e2 with e2 e3 e4
             subst e2
             clear e3 e4
             have hcz := (OB.at_ OZ.out j hlj).1
             rw [show z.getD j 0 = (i : Int) + 1 by rw [List.getD_eq_getElem?_getD, List.getElem?_eq_getElem hlj]; exact MZ.out _ (List.getElem_mem hlj)] at hcz
             by_cases hlx : j < x.length
             ·have hlxz : (j : Int) < (x.length : Int) := by omega
              obtain ⟨g1, c1', e1⟩ := OB.head OX.out (by omega)
              injection e1 with e1 e3 e4
              subst e1
              clear e3 e4
              have hcx := (OB.at_ OX.out j hlx).1
              rw [show x.getD j 0 = (i : Int) + 1 by rw [List.getD_eq_getElem?_getD, List.getElem?_eq_getElem hlx]; exact MX.out _ (List.getElem_mem hlx)] at hcx
              go_wp2
              go_roundg (z.length - (j + 1))
              case measure => omega
              case rel => exact ⟨j + 1, by omega, by omega, by go_num, rfl⟩
             ·have hlxz : ¬ (j : Int) < (x.length : Int) := by omega
              go_wp2
              go_roundg (z.length - (j + 1))
              case measure => omega
              case rel => exact ⟨j + 1, by omega, by omega, by go_num, rfl⟩
            ·have hljz : ¬ (j : Int) < (z.length : Int) := by omega
             obtain rfl : j = z.length := by omega
             go_wp2
             go_roundg (ls.length - (i + 1))
             case measure => omega
             case rel => exact ⟨i + 1, by omega, by omega, by go_num, HW9.out⟩
          ·have hltz : ¬ (i : Int) < (ls.length : Int) := by omega
           obtain rfl : i = ls.length := by omega
           clear hlt hi hg S5 O5 P5 L5 M4 M5 LEN
           go_wp2_with fail
           refine (kept_calls g cap A0 c0 b _ (HO2.out.below W5.out) (Kd.C_below HR2.out W5.out) HC0.out (by omega)).mono ?_
           rintro e w10 ⟨rfl, ⟨⟨q10, rfl⟩⟩⟩
           have W10 := Aside0.mk (pw_below_drewN W5.out q10)
           have OL := Aside0.mk (HO2.out.below W10.out)
           have BW := Aside0.mk (below_then HB2.out HB2.out.size W10.out)
           clear W5 W10 HO2 HR2 LB
           go_wp2
           go_loopg [17] b.length (fun gg s17 wz => ∃ i : Nat, i ≤ b.length ∧ b.length - i ≤ gg ∧ s17 = .int .i64 i ∧ ∃ xs : List Int, Aside0 (xs.length = b.length + 300) ∧ Aside0 (OB wz (.slice (some ⟨g, 0, none⟩) (b.length + 300) cap) xs) ∧ Aside0 (Below w.heap.size w wz))
           case atStart => exact ⟨0, by omega, by omega, rfl, _, ⟨by rw [List.length_append, marks_length]⟩, OL, BW⟩
           case round =>
            obtain ⟨i, hi, hg, rfl, xs, XL, OX, BX⟩ := hrel
            clear OL BW
            by_cases hlt : i < b.length
            ·obtain ⟨x, X⟩ : ∃ x, Aside0 (x = xs.getD i 0) := ⟨_, ⟨rfl⟩⟩
             obtain ⟨hcx, hfx⟩ := OX.out.at_ i (by rw [XL.out]; omega)
             rw [← X.out] at hcx
             have hiz : (i : Int) < b.length := by omega
             go_wp2
             go_roundg (b.length - (i + 1))
             case measure => omega
             case rel => exact ⟨i + 1, by omega, by omega, by go_num, _, ⟨by rw [List.length_set]; exact XL.out⟩, ⟨OB.set OX.out XL.out.symm i _⟩, ⟨BX.out.setCell HG.out _⟩⟩
            ·obtain rfl : i = b.length := by omega
             obtain ⟨m, t, hm, hml, htl⟩ : ∃ m t : List Int, xs = m ++ t ∧ m.length = b.length ∧ t.length = 300 := ⟨xs.take b.length, xs.drop b.length, (List.take_append_drop _ _).symm, by rw [List.length_take, XL.out]; omega, by rw [List.length_drop, XL.out]; omega⟩
             have hlong := OX.out
             rw [hm] at hlong
             have hlong := CB.of_long hlong (by omega)
             have L := Aside0.mk hlong.1
             have HCm := Aside0.mk hlong.2.1
             have hmb : m.length ≤ 2097152 := by omega
             have BW := BX
             clear hlong hm htl OX XL BX HCap hlt hi hg
             rw [← hml]
             clear hml
             go_wp2_with (at_builtin; refine print_append_row (w0 := wr) wr.heap.size rfl (.tmp 200) (.tmp 201) 22 5 .u8 1 rfl Try.underlying22 info8 (by decide) _ [] m (some ⟨g, 0, none⟩) m.length cap rfl rfl (own_nil _ _ _ _) L.out.reads (Below.refl _ _) (Nat.le_refl _) (by simp; omega) ?_; intro v1 wm ho hb1 _ _; rw [List.nil_append] at ho; obtain ⟨A1, c1, rfl, l1, r1⟩ := OB.reads (own_weaken ho (Nat.zero_le _)); have L1 := Aside0.mk (Kd.C_below L.out hb1); have M1 := Aside0.mk r1; have CM := Aside0.mk l1; have BM := Aside0.mk (below_then BW.out BW.out.size hb1); clear ho hb1 l1 r1)
             clear L BW
             go_wp2_with fail
             refine (put64_calls (some ⟨g, 0, none⟩) cap m v _ L1.out HCm.out (by omega) (by omega) (by omega)).mono ?_
             rintro e w3 ⟨v3, rfl, ho, _, hb⟩
             obtain ⟨x3, hx⟩ : ∃ t, t = m ++ le 8 v := ⟨_, rfl⟩
             rw [← hx] at ho
             have X3 := Aside0.mk hx
             obtain ⟨A3, c3, rfl, hc, hr⟩ := OB.reads ho
             have R3 := Aside0.mk hr
             have C3 := Aside0.mk hc
             have L3 := Aside0.mk (Kd.C_below L1.out hb)
             have M3 := Aside0.mk (Kd.C_below M1.out hb)
             have B3 := Aside0.mk (below_then BM.out BM.out.size hb)
             clear ho hc hr hx hb L1 M1 BM
             go_wp2_with fail
             refine (refput_calls 8 A1 c1 m v _ M3.out CM.out (by omega) (by omega) (by omega) (by omega)).mono ?_
             rintro e w4 ⟨v4, rfl, ho, _, hb⟩
             obtain ⟨x4, hx⟩ : ∃ t, t = m ++ le 8 v := ⟨_, rfl⟩
             rw [← hx] at ho
             have X4 := Aside0.mk hx
             obtain ⟨A4, c4, rfl, hc, hr⟩ := OB.reads ho
             have R4 := Aside0.mk hr
             have C4 := Aside0.mk hc
             have L4 := Aside0.mk (Kd.C_below L3.out hb)
             have M4 := Aside0.mk (Kd.C_below M3.out hb)
             have B4 := Aside0.mk (below_then B3.out B3.out.size hb)
             have R3 := Aside0.mk (Kd.C_below R3.out hb)
             obtain rfl : x4 = x3 := X4.out.trans X3.out.symm
             clear ho hc hr hx hb L3 M3 B3
             go_wp2_with fail
             refine (same_calls A3 c3 A4 c4 x4 _ R3.out C3.out R4.out C4.out).mono ?_
             rintro e w5 ⟨rfl, ⟨⟨q5, rfl⟩⟩⟩
             have L5 := Aside0.mk (Kd.C_drewN L4.out q5)
             have M5 := Aside0.mk (Kd.C_drewN M4.out q5)
             have B5 := Aside0.mk (pw_below_drewN B4.out q5)
             clear R3 R4 C3 C4 X3 X4 L4 M4 B4
             go_wp2_with fail
             have LC := lit_CBB (w4.drewN q5) [(some ⟨g, 0, none⟩, cap, m), (some ⟨g, 0, none⟩, cap, m)] (by simp only [List.forall_mem_cons]; exact ⟨⟨HCm.out, L5.out⟩, ⟨HCm.out, L5.out⟩, fun _ h => nomatch h⟩) (by simp)
             have AB := Aside0.mk (below_alloc (Below.refl _ (w4.drewN q5)) (.cells #[Value.slice (some ⟨g, 0, none⟩) m.length cap, Value.slice (some ⟨g, 0, none⟩) m.length cap] 22))
             refine (join_calls (some ⟨w4.heap.size, 0, none⟩) 2 [m, m] _ LC (Nat.le_refl _) (by simp) (by simp; omega)).mono ?_
             rintro e w6 ⟨v6, rfl, ho, _, hb⟩
             obtain ⟨x6, hx⟩ : ∃ t, t = [m, m].flatten := ⟨_, rfl⟩
             rw [← hx] at ho
             have X6 := Aside0.mk hx
             obtain ⟨A6, c6, rfl, hc, hr⟩ := OB.reads ho
             have R6 := Aside0.mk hr
             have C6 := Aside0.mk hc
             have L6 := Aside0.mk (Kd.C_below (Kd.C_below L5.out AB.out) hb)
             have M6 := Aside0.mk (Kd.C_below (Kd.C_below M5.out AB.out) hb)
             have B6 := Aside0.mk (below_then (below_then B5.out B5.out.size AB.out) (Nat.le_trans B5.out.size AB.out.size) hb)
             clear ho hc hr hx hb L5 M5 B5 LC AB
             go_wp2_with fail
             have LC := lit_CBB w6 [(A1, c1, m), (A1, c1, m)] (by simp only [List.forall_mem_cons]; exact ⟨⟨CM.out, M6.out⟩, ⟨CM.out, M6.out⟩, fun _ h => nomatch h⟩) (by simp)
             have AB := Aside0.mk (below_alloc (Below.refl _ w6) (.cells #[Value.slice A1 m.length c1, Value.slice A1 m.length c1] 22))
             refine (refjoin_calls (some ⟨w6.heap.size, 0, none⟩) 2 [m, m] _ LC (Nat.le_refl _) (by simp) (by simp; omega)).mono ?_
             rintro e w7 ⟨v7, rfl, ho, _, hb⟩
             obtain ⟨x7, hx⟩ : ∃ t, t = [m, m].flatten := ⟨_, rfl⟩
             rw [← hx] at ho
             have X7 := Aside0.mk hx
             obtain ⟨A7, c7, rfl, hc, hr⟩ := OB.reads ho
             have R7 := Aside0.mk hr
             have C7 := Aside0.mk hc
             have L7 := Aside0.mk (Kd.C_below (Kd.C_below L6.out AB.out) hb)
             have M7 := Aside0.mk (Kd.C_below (Kd.C_below M6.out AB.out) hb)
             have B7 := Aside0.mk (below_then (below_then B6.out B6.out.size AB.out) (Nat.le_trans B6.out.size AB.out.size) hb)
             have R6 := Aside0.mk (Kd.C_below (Kd.C_below R6.out AB.out) hb)
             obtain rfl : x7 = x6 := X7.out.trans X6.out.symm
             clear ho hc hr hx hb L6 M6 B6 LC AB
             go_wp2_with fail
             refine (same_calls A6 c6 A7 c7 x7 _ R6.out C6.out R7.out C7.out).mono ?_
             rintro e w8 ⟨rfl, ⟨⟨q8, rfl⟩⟩⟩
             have L8 := Aside0.mk (Kd.C_drewN L7.out q8)
             have M8 := Aside0.mk (Kd.C_drewN M7.out q8)
             have B8 := Aside0.mk (pw_below_drewN B7.out q8)
             clear R6 R7 C6 C7 X6 X7 L7 M7 B7
             go_wp2_with fail
             refine (text_calls (some ⟨g, 0, none⟩) cap m s _ L8.out HCm.out (by omega) (by omega)).mono ?_
             rintro e w9 ⟨v9, rfl, ho, _, hb⟩
             obtain ⟨x9, hx⟩ : ∃ t, t = m ++ le 4 (s.size : Int) ++ bytesOf s := ⟨_, rfl⟩
             rw [← hx] at ho
             have X9 := Aside0.mk hx
             obtain ⟨A9, c9, rfl, hc, hr⟩ := OB.reads ho
             have R9 := Aside0.mk hr
             have C9 := Aside0.mk hc
             have M9 := Aside0.mk (Kd.C_below M8.out hb)
             have B9 := Aside0.mk (below_then B8.out B8.out.size hb)
             clear ho hc hr hx hb L8 M8 B8
             go_wp2_with fail
             refine (reftext_calls A1 c1 m s _ M9.out CM.out (by omega) (by omega)).mono ?_
             rintro e w10 ⟨v10, rfl, ho, _, hb⟩
             obtain ⟨x10, hx⟩ : ∃ t, t = m ++ le 4 (s.size : Int) ++ bytesOf s := ⟨_, rfl⟩
             rw [← hx] at ho
             have X10 := Aside0.mk hx
             obtain ⟨A10, c10, rfl, hc, hr⟩ := OB.reads ho
             have R10 := Aside0.mk hr
             have C10 := Aside0.mk hc
             have B10 := Aside0.mk (below_then B9.out B9.out.size hb)
             have R9 := Aside0.mk (Kd.C_below R9.out hb)
             obtain rfl : x10 = x9 := X10.out.trans X9.out.symm
             clear ho hc hr hx hb M9 B9
             go_wp2_with fail
             refine (same_calls A9 c9 A10 c10 x10 _ R9.out C9.out R10.out C10.out).mono ?_
             rintro e w11 ⟨rfl, ⟨⟨q11, rfl⟩⟩⟩
             go_wp2
             go_ret
             exact ⟨rfl, pw_below_drewN B10.out q11⟩
end Go.Proofs.Ytdfkaclflmgkeaa.PAll
