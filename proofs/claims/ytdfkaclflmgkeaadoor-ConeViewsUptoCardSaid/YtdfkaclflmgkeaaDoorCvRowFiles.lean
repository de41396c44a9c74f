/- A list of files among the arguments, opened as one list of records. -/
import Derived.Test.YtdfkaclflmgkeaaDoorCvRowKit
import Derived.Deep.Slices
import Derived.Deep.Fields
import Derived.ChangeSame
import Derived.Test.YtdfkaclflmgkeaaDoorCvPAllx0
namespace Go.Proofs.YtdfkaclflmgkeaaDoor.Rk
open Go.ChangeShapes Go.WideShapes Go.ChangeAt Go.RowKit Go.Deep
open Go.Proofs.YtdfkaclflmgkeaaDoorW.PrintWords Go.Proofs.YtdfkaclflmgkeaaDoor.PAll
section
variable {H : Type} {enc : TypeId × Value → H} {W : World}
theorem bulk_file (f : S48) : f.f0.size ≤ Rows.uptoBulk (.agg [.lit (.string f.f0.data.toList), .lit (.string f.f1.data.toList), .lit (.int .i64 f.f2), .lit (.int .i64 f.f3)] : DataW H) ∧ f.f1.size ≤ Rows.uptoBulk (.agg [.lit (.string f.f0.data.toList), .lit (.string f.f1.data.toList), .lit (.int .i64 f.f2), .lit (.int .i64 f.f3)] : DataW H) := by
 have e0 := bulk_str (H := H) f.f0
 have e1 := bulk_str (H := H) f.f1
 simp only [Rows.uptoBulk, Rows.uptoBulkAll] at e0 e1 ⊢
 omega
theorem files_in {P : Program} {base : Nat} {t e : TypeId} {fs : Array Field} {f0 f1 f2 f3 : Field} {v : Value} {d : DataW H} {p : List MemPlace} (ht : P.underlying t = some (.slice e)) (he : P.underlying e = some (.struct fs)) (hone : oneCellFields P fs = true) (hC : P.cellsOf e = fs.size) (hn : fs.size = 4)
  (h0 : fs[0]? = some f0) (h1 : fs[1]? = some f1) (h2 : fs[2]? = some f2) (h3 : fs[3]? = some f3) (u0 : P.underlying f0.type = some .string) (u1 : P.underlying f1.type = some .string) (u2 : P.underlying f2.type = some (.int .i64)) (u3 : P.underlying f3.type = some (.int .i64))
  (hv : Value.okWide P W .any base t v) (h : DataW.Trod enc P W 0 (fun _ => true) true t v d p) :
  ∃ a cap l, v = .slice a l.length cap ∧ Kd.C k48 W a l.length l ∧ l.length ≤ cap ∧ l.length ≤ Rows.uptoBulk d ∧ ∀ f ∈ l, f.f0.size ≤ Rows.uptoBulk d ∧ f.f1.size ≤ Rows.uptoBulk d := by
 obtain ⟨a, len, cap, rfl⟩ := okWide_slice ht hv
 obtain ⟨fuel, hf⟩ := h
 rcases open_slice ht hf with ⟨hcs, _⟩ | ⟨x, ln, cp, m, n, D, Pl, hcs, hb, hl, hm, hmm, hx, hi⟩
 ·simp [Value.cells] at hcs
  obtain ⟨rfl, rfl, rfl⟩ := hcs
  exact ⟨none, 0, [], rfl, ⟨rfl, by simp, fun h => absurd h (by simp)⟩, by simp, by simp, by simp⟩
 ·simp [Value.cells] at hcs
  obtain ⟨rfl, rfl, rfl⟩ := hcs
  have hmc : len ≤ m := by rw [hmm]; split <;> omega
  have each : ∀ i, ∃ f : S48, i < m → D i = .agg [.lit (.string f.f0.data.toList), .lit (.string f.f1.data.toList), .lit (.int .i64 f.f2), .lit (.int .i64 f.f3)] ∧
    ∀ j u, ([.string f.f0, .string f.f1, .int .i64 f.f2, .int .i64 f.f3] : List Value)[j]? = some u → W.cell? (x.add (i * 4 + j)) = some u := by
   intro i
   by_cases him : i < m
   ·obtain ⟨cs', hc, ht'⟩ := hi i him
    rw [hC, hn] at hc
    obtain ⟨ys, n', hn', hy, hlen, hyl, hff⟩ := DataW.trod_struct he ht'
    obtain ⟨_, hcl, hat⟩ := World.cells?_some hc
    simp only [Prod.mk.injEq] at hy
    have part : ∀ (j : Nat) (f : Field), fs[j]? = some f → ∃ (u : Value) (y : DataW H × List MemPlace), W.cell? (x.add (i * 4 + j)) = some u ∧ ys[j]? = some y ∧ DataW.trod enc P W 0 (fun _ => true) true n' f.type [u] = some y := fun j f hj => by
     obtain ⟨ho, hk⟩ := hone_of hone j f hj
     have hjl : j < fs.size := (Array.getElem?_eq_some_iff.1 hj).1
     have hcell := hat j (by omega)
     have hg := hff j f hj
     rw [ho, hk] at hg
     have hone' : (cs'.drop j).take 1 = [cs'[j]'(by omega)] := by
      rw [List.drop_eq_getElem_cons (by omega)]
      rfl
     rw [hone'] at hg
     have hys : ys[j]? = some (ys[j]'(by omega)) := List.getElem?_eq_getElem (by omega)
     refine ⟨_, _, ?_, hys, hg.trans hys⟩
     rw [← Go.Deep.add_add, hcell, List.getElem?_eq_getElem (by omega)]
    obtain ⟨v0, y0, c0, k0, t0⟩ := part 0 f0 h0
    obtain ⟨v1, y1, c1, k1, t1⟩ := part 1 f1 h1
    obtain ⟨v2, y2, c2, k2, t2⟩ := part 2 f2 h2
    obtain ⟨v3, y3, c3, k3, t3⟩ := part 3 f3 h3
    obtain ⟨s0, e0, r0, _⟩ := DataW.trod_string u0 t0
    obtain ⟨s1, e1, r1, _⟩ := DataW.trod_string u1 t1
    obtain ⟨s2, e2, r2, _⟩ := DataW.trod_int u2 t2
    obtain ⟨s3, e3, r3, _⟩ := DataW.trod_int u3 t3
    cases e0; cases e1; cases e2; cases e3
    have hys : ys = [y0, y1, y2, y3] := by
     rw [hn] at hyl
     match ys, hyl with
     | [a0, a1, a2, a3], _ => simp at k0 k1 k2 k3; rw [k0, k1, k2, k3]
    refine ⟨⟨s0, s1, s2, s3⟩, fun _ => ⟨?_, fun j u hu => ?_⟩⟩
    ·rw [hy.1, hys]; simp [r0, r1, r2, r3]
    ·match j, hu with
     | 0, hu => cases hu; exact c0
     | 1, hu => cases hu; exact c1
     | 2, hu => cases hu; exact c2
     | 3, hu => cases hu; exact c3
   ·exact ⟨z48, fun h => absurd h him⟩
  obtain ⟨F, hF⟩ := Classical.axiomOfChoice each
  have hd : d = .slice ((List.range len).map D) ((List.range (m - len)).map fun j => D (len + j)) := congrArg Prod.fst hx
  have hbulk : ∀ i, i < len → Rows.uptoBulk (D i) ≤ Rows.uptoBulk d := fun i hil => by
   have := bulk_mem (d := D i) (l := (List.range len).map D) (List.mem_map.2 ⟨i, List.mem_range.2 hil, rfl⟩)
   rw [hd]; simp only [Rows.uptoBulk]; omega
  refine ⟨some x, cap, (List.range len).map F, by simp, ⟨rfl, ?_, fun _ => ⟨x, rfl, fun j q hj => ?_⟩⟩, by simp; omega, ?_, ?_⟩
  ·have : maxLen ≤ 9223372036854775807 := by decide
   simp only [List.length_map, List.length_range]; omega
  ·obtain ⟨hjl, hq⟩ := List.getElem?_eq_some_iff.1 hj
   simp only [List.length_map, List.length_range] at hjl
   simp only [List.getElem_map, List.getElem_range] at hq
   subst hq
   exact ⟨_, rfl, k48_mk W (F j), fun i u hu => (hF j (by omega)).2 i u hu⟩
  ·have := bulk_length ((List.range len).map D)
   rw [hd]; simp only [Rows.uptoBulk]; simp only [List.length_map, List.length_range] at this ⊢; omega
  ·intro f hf'
   obtain ⟨i, hi', rfl⟩ := List.mem_map.1 hf'
   have hil := List.mem_range.1 hi'
   have h1 := hbulk i hil
   rw [(hF i (by omega)).1] at h1
   have h2 := bulk_file (H := H) (F i)
   omega
end
end Go.Proofs.YtdfkaclflmgkeaaDoor.Rk
