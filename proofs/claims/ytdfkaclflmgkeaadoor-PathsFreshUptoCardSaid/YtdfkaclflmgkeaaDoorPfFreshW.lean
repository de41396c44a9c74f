/- Rows that lie apart, one of them grown while another slice still leads to its head: what append keeps. -/
import Derived.Test.YtdfkaclflmgkeaaDoorPfPAllx0
import Derived.Test.YtdfkaclflmgkeaaDoorPfHandA
import Derived.Test.YtdfkaclflmgkeaaDoorPfRowKit
import Derived.Test.YtdfkaclflmgkeaaDoorPfSpec
import Derived.Deep.Onto
namespace Go.Proofs.YtdfkaclflmgkeaaDoor.PAll
open Go.RowKit Go.Proofs.YtdfkaclflmgkeaaDoorW.PrintWords Go.Proofs.YtdfkaclflmgkeaaDoorW.PrintLast Go.Proofs.YtdfkaclflmgkeaaDoorW.PrintMore
section
variable {P : Program}
theorem came_own {w : World} {base : Nat} {e : TypeId} {size n g cap : Nat} {xs : List Value} (h : w.ownsRow base e size (.slice (some ⟨g, 0, none⟩) n cap) n xs) : Came w size (some ⟨g, 0, none⟩) g 0 n cap xs := by
 obtain ⟨h1, h2⟩ := h
 rcases h2 with ⟨h', _⟩ | ⟨g', cap', cur, h', hb, hh, h3, h4, h5, h6⟩
 ·cases h'
 ·obtain ⟨rfl, rfl⟩ : g = g' ∧ cap = cap' := by
   injection h' with h1 h2 h3
   injection h1 with h1
   injection h1 with h1
   exact ⟨h1, h3⟩
  have hlt := (Array.getElem?_eq_some_iff.1 hh).1
  refine ⟨h3, fun _ => rfl, fun _ => hlt, h1, fun j u hu => ?_, fun j hj => ?_⟩
  ·rw [Nat.zero_add]
   have := (show w.ownsRow base e size (.slice (some ⟨g, 0, none⟩) n cap) n xs from ⟨h1, .inr ⟨g, cap, cur, rfl, hb, hh, h3, h4, h5, h6⟩⟩).cells (g := g) rfl j u hu
   rwa [add_plain] at this
  ·have hmul : n * size ≤ cap * size := Nat.mul_le_mul_right _ h3
   have e1 : (cap - n) * size = cap * size - n * size := Nat.sub_mul _ _ _
   constructor
   ·have h9 : n * size + j < cur.size := by rw [h5]; omega
    simp [World.cell?, hh]; exact h9
   ·simp [World.frozen?, hh]
theorem run_append_alias (w : World) (base : Nat) (t ty e : TypeId) (i : TypeInfo) (z : Value) (size bytes : Nat) (ht : P.underlying t = some (.slice e)) (hi : P.info? e = some i) (hz : i.zero = some z)
  (hsize : i.size = size) (hby : i.bytes = bytes) (hzs : z.cells.size = size) (hsz : 0 < size)
  (v : Value) (n : Nat) (xs : List Value) (hown : w.ownsRow base e size v n xs)
  (a : Addr) (c : Nat) (news : List Value) (hl : news.length = size) (hnews : ∀ j u, news[j]? = some u → w.cell? (a.add j) = some u) (h1 : ∀ u ∈ news, u.oneCell' = true)
  (h63 : n + 1 ≤ maxLen) (hbytes : (n + 1) * bytes ≤ 140737488355328) (hbase : base ≤ w.heap.size) :
  ∃ v' w', (Builtin.append_ #[t, t] ty #[v, .slice (some a) 1 c]).run P w = .ok v' w' ∧ w'.ownsRow base e size v' (n + 1) (xs ++ news) ∧ w.grownBy w' v.ownBlock ∧
   (v'.ownBlock = v.ownBlock ∨ v'.ownBlock = some w.heap.size) ∧
   ∀ b0 u n0 xs0, (∀ k, u.ownBlock = some k → v.ownBlock = some k → n0 ≤ n) → w.ownsRow b0 e size u n0 xs0 → w'.ownsRow b0 e size u n0 xs0 := by
 obtain ⟨v', w', hr, h2, h3, _, h5⟩ := run_append_own_at (P := P) w base t ty e i z size bytes ht hi hz hsize hby hzs hsz v n xs hown a 1 c news (by omega) hnews h1 h63 hbytes hbase
 refine ⟨v', w', hr, h2, h3, h5, ?_⟩
 intro b0 u n0 xs0 hle hu
 by_cases hk : ∃ k, u.ownBlock = some k ∧ v.ownBlock = some k
 ·obtain ⟨k, hk1, hk2⟩ := hk
  have hn0 := hle k hk1 hk2
  obtain ⟨g, cap, rfl⟩ : ∃ g cap, v = .slice (some ⟨g, 0, none⟩) n cap := by
   rcases hown.2 with ⟨rfl, _⟩ | ⟨g, cap, cur, rfl, _⟩
   ·simp [Value.ownBlock] at hk2
   ·exact ⟨g, cap, rfl⟩
  obtain rfl : g = k := by simpa [Value.ownBlock] using hk2
  obtain ⟨v2, w2, hr2, hO⟩ := run_append_onto (P := P) (came_own hown) t ty i z bytes ht hi hz hsize hby hzs hsz (Onto.start (e := e) (came_own hown)) a c news (by omega) hnews h1 (by omega) (by rw [Nat.add_zero]; exact hbytes)
  replace hr2 : (Builtin.append_ #[t, t] ty #[.slice (some ⟨g, 0, none⟩) n cap, .slice (some a) 1 c]).run P w = .ok v2 w2 := hr2
  obtain ⟨rfl, rfl⟩ : v' = v2 ∧ w' = w2 := by
   have := hr.symm.trans hr2
   injection this with e1 e2
   exact ⟨e1, e2⟩
  obtain ⟨hu1, hu2⟩ := hu
  refine ⟨hu1, ?_⟩
  rcases hu2 with ⟨rfl, hn⟩ | ⟨g', cap', cur, rfl, hb, hh, q1, q2, q3, q4⟩
  ·exact .inl ⟨rfl, hn⟩
  ·obtain rfl : g' = g := by simpa [Value.ownBlock] using hk1
   have hlt := (Array.getElem?_eq_some_iff.1 hh).1
   have hkept := hO.kept.2.2 g' hlt
   rw [hh] at hkept
   cases hw : w'.heap[g']? with
   | none => rw [hw] at hkept; cases hkept
   | some o =>
    rw [hw] at hkept
    cases o with
    | cells c' t' fr' =>
     obtain ⟨rfl, rfl, hc1, hc2⟩ := hkept
     refine .inr ⟨g', cap', c', rfl, hb, hw, q1, q2, by rw [hc1]; exact q3, ?_⟩
     rw [← q4]
     apply List.ext_getElem?
     intro j
     rw [List.getElem?_take, List.getElem?_take]
     by_cases hj : j < n0 * size
     ·rw [if_pos hj, if_pos hj, Array.getElem?_toList, Array.getElem?_toList]
      refine hc2 j ?_
      rintro ⟨j', _, _, e'⟩
      have : n0 * size ≤ n * size := Nat.mul_le_mul_right _ hn0
      simp at e'
      omega
     ·rw [if_neg hj, if_neg hj]
    | _ => simp at hkept
 ·exact hu.kept h3 (by
   cases hub : u.ownBlock with
   | none => exact .inl rfl
   | some k => exact .inr fun e => hk ⟨k, hub, e.symm⟩)
end
abbrev OS (e : TypeId) (w : World) (v : Value) (xs : List ByteArray) : Prop := w.ownsRow 0 e 1 v xs.length (xs.map Value.string)
theorem OS.of_R {e : TypeId} {w : World} {base : Nat} {ok : Nat → Prop} {v : Value} {xs : List ByteArray} (h : Kd.R Kd.string e w base ok v xs) : OS e w v xs ∧ ∀ k, v.ownBlock = some k → base ≤ k := by
 obtain ⟨_, inner, ho, hr⟩ := h
 have e1 : inner = xs.map Value.string := by
  apply List.ext_getElem?
  intro j
  have hl := hr.1
  rw [show Kd.string.sz = 1 from rfl, Nat.mul_one] at hl
  by_cases hj : j < xs.length
  ·have := hr.2 j xs[j] (List.getElem?_eq_getElem hj)
   rw [show Kd.string.sz = 1 from rfl, Nat.mul_one] at this
   have this : (inner.drop j).take 1 = [Value.string xs[j]] := this
   have h2 : inner[j]? = some (Value.string xs[j]) := by
    have := congrArg (fun l => l[0]?) this
    simpa using this
   rw [h2]; simp [hj]
  ·rw [List.getElem?_eq_none (by omega), List.getElem?_eq_none (by simp; omega)]
 rw [e1] at ho
 exact ⟨own_weaken ho (Nat.zero_le _), own_base ho⟩
theorem OS.far {e : TypeId} {w : World} {v : Value} {xs : List ByteArray} (h : OS e w v xs) {g j : Nat} (u : Value) (hne : ∀ k, v.ownBlock = some k → k ≠ g) : OS e (w.setCell ⟨g, j, none⟩ u) v xs :=
 own_move h fun k hk => Below.heap_setCell w ⟨g, j, none⟩ u k (hne k hk)
theorem OS.below {e : TypeId} {w w1 : World} {v : Value} {xs : List ByteArray} (h : OS e w v xs) (hb : Below w.heap.size w w1) : OS e w1 v xs :=
 own_move h fun k hk => hb.block k (own_lt h k hk)
theorem OS.set {e : TypeId} {w : World} {g n cap : Nat} {xs : List ByteArray} (h : OS e w (.slice (some ⟨g, 0, none⟩) n cap) xs) (hn : n = xs.length) (j : Nat) (m : ByteArray) : OS e (w.setCell ⟨g, j, none⟩ (.string m)) (.slice (some ⟨g, 0, none⟩) n cap) (xs.set j m) := by
 subst hn
 have := (own_store_of (enc := Value.string) (xs := xs) (show w.ownsRow 0 e 1 (.slice (some ⟨g, 0, none⟩) xs.length cap) xs.length (encs Value.string xs) from h) (j : Int) m).1
 rw [Int.toNat_natCast] at this
 show World.ownsRow _ _ _ _ _ _ _
 rw [List.length_set]
 exact this
theorem OS.reads {e : TypeId} {w : World} {v : Value} {xs : List ByteArray} (h : OS e w v xs) : ∃ A c, v = .slice A xs.length c ∧ xs.length ≤ c ∧ Kd.C Kd.string w A xs.length xs := by
 have hR : Kd.R Kd.string e w 0 (fun _ => True) v xs := ⟨fun _ _ => trivial, xs.map Value.string, h, reps_strs (M := Kd.string.M w 0 (fun k' => True ∧ some k' ≠ v.ownBlock)) (fun _ => rfl) xs⟩
 exact Kd.R_reads hR
section
variable {P : Program} {ops : Array Oper} {rest : List Oper} {o : Oper} {a : Act} {Q : Exit → Act → World → Prop}
theorem app_alias {w0 W : World} (base : Nat) (hgd : o.guard = none) (s x : Operand) (t e : TypeId)
  (ho : o.op = .call { callee := .builtin .append, args := #[s, x], argTypes := #[t, t] })
  (ht : P.underlying t = some (.slice e)) (hinfo : (P.info? e).map (fun i => (i.zero, i.size, i.bytes)) = some (some (.string ByteArray.empty), 1, 16))
  (v : Value) (xs : List ByteArray) (y : ByteArray) (hs : a.eval s = v) (hx : a.eval x = .slice (some ⟨W.heap.size, 0, none⟩) 1 1)
  (HO : OS e W v xs) (hbk : ∀ k, v.ownBlock = some k → base ≤ k) (HB : Below base w0 W) (hbase : base ≤ W.heap.size) (hl : xs.length + 1 ≤ 4294967296)
  (h : ∀ v1 w1, OS e w1 v1 (xs ++ [y]) → (∀ k, v1.ownBlock = some k → base ≤ k) → Below base w0 w1 → W.grownBy w1 v.ownBlock → (v1.ownBlock = v.ownBlock ∨ ∃ b, v1.ownBlock = some b ∧ W.heap.size ≤ b) →
   (∀ u ys, (∀ k, u.ownBlock = some k → v.ownBlock = some k → ys.length ≤ xs.length) → OS e W u ys → OS e w1 u ys) → wpList P ops Q rest (a.put o.dst v1) w1) :
  wpList P ops Q (o :: rest) a (W.alloc (.cells #[.string y] e)) := by
 obtain ⟨i0, hi, hzz⟩ := Option.map_eq_some_iff.1 hinfo
 simp only [Prod.mk.injEq] at hzz
 obtain ⟨hz0, hz1, hz2⟩ := hzz
 obtain ⟨v1, w1, hr, hown, hg, hat, hk⟩ := run_append_alias (P := P) (W.alloc (.cells #[.string y] e)) 0 t o.type e i0 (.string ByteArray.empty) 1 16 ht hi hz0 hz1 hz2 rfl (by decide) v xs.length _ (HO.alloc _) ⟨W.heap.size, 0, none⟩ 1 [.string y] rfl
  (World.news_of_block (cs := #[.string y]) (t := e) (fr := (0, 0)) (heap_alloc_new W _)) (by simp [Value.oneCell']) (by simp only [maxLen]; omega) (by omega) (Nat.zero_le _)
 have hlen : (xs ++ [y]).length = xs.length + 1 := by simp
 refine wpList_plain hgd fun K hK => ?_
 unfold Oper.wp execOp
 simp only [ho, resolve, invoke, builtin, Sem.run_bind, Sem.run_pure, Result.andThen_ok, List.map_toArray, List.map_cons, List.map_nil, hs, hx, hr]
 refine hK _ _ (h v1 w1 (by show World.ownsRow _ _ _ _ _ _ _; rw [hlen, List.map_append]; exact hown) ?_ ((HB.alloc hbase _).grown hg (by simp; omega) hbk) (World.grownBy.trans (World.grownBy_alloc W _ _) hg) ?_ fun u ys hle hu => hk 0 u ys.length _ hle (hu.alloc _))
 ·intro k hk'
  rcases hat with hat | hat
  ·exact hbk k (by rw [← hat]; exact hk')
  ·rw [hat] at hk'
   have : (W.alloc (.cells #[.string y] e)).heap.size = k := Option.some.inj hk'
   simp at this
   omega
 ·rcases hat with hat | hat
  ·exact .inl hat
  ·exact .inr ⟨_, hat, by simp⟩
end
end Go.Proofs.YtdfkaclflmgkeaaDoor.PAll
