/- The values' own types, as the walks use them. -/
import Derived.Test.YtehfogjibhnabaaGreatDoorProg
import Derived.Below
import Derived.Deep.Draws
import Derived.Deep.AppendLies
import Derived.Maps.AppendAt
import Derived.OwnWalk
import Derived.Laws.BytesArg
import Derived.Laws.MakeOwn
import Derived.Laws.OwnMore
import Derived.Deep.OwnRows
import Derived.Tactics
import Derived.Lib.ConvBytes
import Derived.Laws.Slices
import Derived.WalkKit
import Derived.KernelRfl
import Derived.RowKit3
import Derived.Deep.LoopGhost
import Derived.Deep.QuietTactic
import Derived.BigQuiet
import Derived.WideLaws
import Derived.Deep.DeepCutAuto
import Derived.Deep.CutBlock
import Derived.Deep.RegionHeld3
import Derived.Laws.Rows
import Derived.Lib.AppendStr
import Derived.ArgAppend
import Derived.Laws.IdiomCopy
import Derived.OrdersHeld
import Derived.Laws.BitsLemmas
import Derived.RowKit
import Derived.Test.YtehfogjibhnabaaGreatDoorDtWWords
import Derived.Test.YtehfogjibhnabaaGreatDoorDtWLast
import Derived.Test.YtehfogjibhnabaaGreatDoorDtRowKit
import Derived.Deep.Slices
import Derived.Deep.Fields
import Derived.ChangeSame
import Derived.Lib.SplitLaws
import Derived.WalkLawsBesides
namespace Go.Proofs.YtehfogjibhnabaaGreatDoor.PAll
open Go.RowKit Go.Proofs.YtehfogjibhnabaaGreatDoorW.PrintWords Go.Proofs.YtehfogjibhnabaaGreatDoorW.PrintLast Go.Proofs.YtehfogjibhnabaaGreatDoorW.PrintMore
attribute [local go_sem] max2_int min2_int max_two min_two max_three min_three max_four min_four
set_option linter.unusedVariables false
set_option linter.unusedSimpArgs false
def errW : Option Int → Value
 | none => .nilIface
 | some c => .iface 0 (.int .i64 c)
theorem errW_none : errW none = .nilIface := rfl
theorem errW_some (c : Int) : errW (some c) = .iface 0 (.int .i64 c) := rfl
theorem info9 : (Tryz.prog.info? 9).map (fun i => (i.zero, i.size, i.bytes)) = some (some (.string ⟨#[]⟩), 1, 16) := by kernel_rfl
theorem info43 : (Tryz.prog.info? 43).map (fun i => (i.zero, i.size, i.bytes)) = some (some (.agg #[(.string ⟨#[]⟩), (.string ⟨#[]⟩), (.int .i64 0), (.int .i64 0)]), 4, 48) := by kernel_rfl
theorem info45 : (Tryz.prog.info? 45).map (fun i => (i.zero, i.size, i.bytes)) = some (some (.agg #[(.string ⟨#[]⟩), (.bool false), (.bool false), (.string ⟨#[]⟩), (.string ⟨#[]⟩), (.int .i64 0), (.int .i64 0), (.string ⟨#[]⟩), (.string ⟨#[]⟩), (.int .i64 0), (.int .i64 0)]), 11, 120) := by kernel_rfl
structure S43 where
 f0 : ByteArray
 f1 : ByteArray
 f2 : Int
 f3 : Int
def z43 : S43 := ⟨(⟨#[]⟩ : ByteArray), (⟨#[]⟩ : ByteArray), (0 : Int), (0 : Int)⟩
def k43 : Kd S43 := Kd.iso (Kd.pair Kd.string (Kd.pair Kd.string (Kd.pair (Kd.int .i64) (Kd.int .i64)))) (fun x : S43 => (x.f0, x.f1, x.f2, x.f3))
theorem k43_heap : Kd.Heap k43 := Kd.heap_iso _ (Kd.heap_pair Kd.heap_string (Kd.heap_pair Kd.heap_string (Kd.heap_pair (Kd.heap_int .i64) (Kd.heap_int .i64))))
theorem k43_open {w : World} {x : S43} {cs : List Value} (h : k43.K w x cs) : cs = [.string x.f0, .string x.f1, .int .i64 x.f2, .int .i64 x.f3] := by
 obtain ⟨_, _, rfl, rfl, ⟨_, _, rfl, rfl, ⟨_, _, rfl, rfl, rfl⟩⟩⟩ := h
 exact rfl
theorem k43_mk (w : World) (x : S43)  : k43.K w x [.string x.f0, .string x.f1, .int .i64 x.f2, .int .i64 x.f3] := ⟨[.string x.f0], [.string x.f1, .int .i64 x.f2, .int .i64 x.f3], rfl, rfl, ⟨[.string x.f1], [.int .i64 x.f2, .int .i64 x.f3], rfl, rfl, ⟨[.int .i64 x.f2], [.int .i64 x.f3], rfl, rfl, rfl⟩⟩⟩
theorem k43_mkM (w : World) (base : Nat) (ok : Nat → Prop) (x : S43)  : k43.M w base ok x [.string x.f0, .string x.f1, .int .i64 x.f2, .int .i64 x.f3] := ⟨[.string x.f0], [.string x.f1, .int .i64 x.f2, .int .i64 x.f3], rfl, rfl, ⟨[.string x.f1], [.int .i64 x.f2, .int .i64 x.f3], rfl, rfl, ⟨[.int .i64 x.f2], [.int .i64 x.f3], rfl, rfl, rfl⟩⟩⟩
def rd_T43 (xs : List S43) (i : Int) : S43 := xs.getD i.toNat z43
theorem at_T43 {w : World} {A : Option Addr} {n : Nat} {xs : List S43} (h : Kd.C k43 w A n xs) (i : Int) (h0 : 0 ≤ i) (h1 : i < n) : ∃ ad , A = some ad ∧ w.cell? (ad.add (i.toNat * 4)) = some (.string (rd_T43 xs i).f0) ∧ w.cell? ⟨(ad.add (i.toNat * 4)).block, (ad.add (i.toNat * 4)).off + 1, none⟩ = some (.string (rd_T43 xs i).f1) ∧ w.cell? ⟨(ad.add (i.toNat * 4)).block, (ad.add (i.toNat * 4)).off + 2, none⟩ = some (.int .i64 (rd_T43 xs i).f2) ∧ w.cell? ⟨(ad.add (i.toNat * 4)).block, (ad.add (i.toNat * 4)).off + 3, none⟩ = some (.int .i64 (rd_T43 xs i).f3) := by
 obtain ⟨ad, c, e, _, hK, hc0⟩ := Kd.C_get h z43 i h0 h1
 have hc : ∀ j u, c[j]? = some u → w.cell? (ad.add (i.toNat * 4 + j)) = some u := hc0
 obtain rfl := k43_open hK
 exact ⟨ad, e, hc 0 _ rfl, by rw [← add_field _ _ 1 (by omega)]; exact hc 1 _ rfl, by rw [← add_field _ _ 2 (by omega)]; exact hc 2 _ rfl, by rw [← add_field _ _ 3 (by omega)]; exact hc 3 _ rfl⟩
structure S45 where
 f0 : ByteArray
 f1 : Bool
 f2 : Bool
 f3 : S43
 f4 : S43
def z45 : S45 := ⟨(⟨#[]⟩ : ByteArray), false, false, z43, z43⟩
def k45 : Kd S45 := Kd.iso (Kd.pair Kd.string (Kd.pair Kd.bool (Kd.pair Kd.bool (Kd.pair k43 k43)))) (fun x : S45 => (x.f0, x.f1, x.f2, x.f3, x.f4))
theorem k45_heap : Kd.Heap k45 := Kd.heap_iso _ (Kd.heap_pair Kd.heap_string (Kd.heap_pair Kd.heap_bool (Kd.heap_pair Kd.heap_bool (Kd.heap_pair k43_heap k43_heap))))
theorem k45_open {w : World} {x : S45} {cs : List Value} (h : k45.K w x cs) : cs = [.string x.f0, .bool x.f1, .bool x.f2, .string x.f3.f0, .string x.f3.f1, .int .i64 x.f3.f2, .int .i64 x.f3.f3, .string x.f4.f0, .string x.f4.f1, .int .i64 x.f4.f2, .int .i64 x.f4.f3] := by
 obtain ⟨_, _, rfl, rfl, ⟨_, _, rfl, rfl, ⟨_, _, rfl, rfl, ⟨_, _, rfl, s3, s7⟩⟩⟩⟩ := h
 obtain rfl := k43_open s3
 obtain rfl := k43_open s7
 exact rfl
theorem k45_mk (w : World) (x : S45)  : k45.K w x [.string x.f0, .bool x.f1, .bool x.f2, .string x.f3.f0, .string x.f3.f1, .int .i64 x.f3.f2, .int .i64 x.f3.f3, .string x.f4.f0, .string x.f4.f1, .int .i64 x.f4.f2, .int .i64 x.f4.f3] := ⟨[.string x.f0], [.bool x.f1, .bool x.f2, .string x.f3.f0, .string x.f3.f1, .int .i64 x.f3.f2, .int .i64 x.f3.f3, .string x.f4.f0, .string x.f4.f1, .int .i64 x.f4.f2, .int .i64 x.f4.f3], rfl, rfl, ⟨[.bool x.f1], [.bool x.f2, .string x.f3.f0, .string x.f3.f1, .int .i64 x.f3.f2, .int .i64 x.f3.f3, .string x.f4.f0, .string x.f4.f1, .int .i64 x.f4.f2, .int .i64 x.f4.f3], rfl, rfl, ⟨[.bool x.f2], [.string x.f3.f0, .string x.f3.f1, .int .i64 x.f3.f2, .int .i64 x.f3.f3, .string x.f4.f0, .string x.f4.f1, .int .i64 x.f4.f2, .int .i64 x.f4.f3], rfl, rfl, ⟨[.string x.f3.f0, .string x.f3.f1, .int .i64 x.f3.f2, .int .i64 x.f3.f3], [.string x.f4.f0, .string x.f4.f1, .int .i64 x.f4.f2, .int .i64 x.f4.f3], rfl, (k43_mk w x.f3 ), (k43_mk w x.f4 )⟩⟩⟩⟩
theorem k45_mkM (w : World) (base : Nat) (ok : Nat → Prop) (x : S45)  : k45.M w base ok x [.string x.f0, .bool x.f1, .bool x.f2, .string x.f3.f0, .string x.f3.f1, .int .i64 x.f3.f2, .int .i64 x.f3.f3, .string x.f4.f0, .string x.f4.f1, .int .i64 x.f4.f2, .int .i64 x.f4.f3] := ⟨[.string x.f0], [.bool x.f1, .bool x.f2, .string x.f3.f0, .string x.f3.f1, .int .i64 x.f3.f2, .int .i64 x.f3.f3, .string x.f4.f0, .string x.f4.f1, .int .i64 x.f4.f2, .int .i64 x.f4.f3], rfl, rfl, ⟨[.bool x.f1], [.bool x.f2, .string x.f3.f0, .string x.f3.f1, .int .i64 x.f3.f2, .int .i64 x.f3.f3, .string x.f4.f0, .string x.f4.f1, .int .i64 x.f4.f2, .int .i64 x.f4.f3], rfl, rfl, ⟨[.bool x.f2], [.string x.f3.f0, .string x.f3.f1, .int .i64 x.f3.f2, .int .i64 x.f3.f3, .string x.f4.f0, .string x.f4.f1, .int .i64 x.f4.f2, .int .i64 x.f4.f3], rfl, rfl, ⟨[.string x.f3.f0, .string x.f3.f1, .int .i64 x.f3.f2, .int .i64 x.f3.f3], [.string x.f4.f0, .string x.f4.f1, .int .i64 x.f4.f2, .int .i64 x.f4.f3], rfl, (k43_mkM w base ok x.f3 ), (k43_mkM w base ok x.f4 )⟩⟩⟩⟩
def rd_T45 (xs : List S45) (i : Int) : S45 := xs.getD i.toNat z45
theorem at_T45 {w : World} {A : Option Addr} {n : Nat} {xs : List S45} (h : Kd.C k45 w A n xs) (i : Int) (h0 : 0 ≤ i) (h1 : i < n) : ∃ ad , A = some ad ∧ w.cell? (ad.add (i.toNat * 11)) = some (.string (rd_T45 xs i).f0) ∧ w.cell? ⟨(ad.add (i.toNat * 11)).block, (ad.add (i.toNat * 11)).off + 1, none⟩ = some (.bool (rd_T45 xs i).f1) ∧ w.cell? ⟨(ad.add (i.toNat * 11)).block, (ad.add (i.toNat * 11)).off + 2, none⟩ = some (.bool (rd_T45 xs i).f2) ∧ w.cell? ⟨(ad.add (i.toNat * 11)).block, (ad.add (i.toNat * 11)).off + 3, none⟩ = some (.string (rd_T45 xs i).f3.f0) ∧ w.cell? ⟨(ad.add (i.toNat * 11)).block, (ad.add (i.toNat * 11)).off + 4, none⟩ = some (.string (rd_T45 xs i).f3.f1) ∧ w.cell? ⟨(ad.add (i.toNat * 11)).block, (ad.add (i.toNat * 11)).off + 5, none⟩ = some (.int .i64 (rd_T45 xs i).f3.f2) ∧ w.cell? ⟨(ad.add (i.toNat * 11)).block, (ad.add (i.toNat * 11)).off + 6, none⟩ = some (.int .i64 (rd_T45 xs i).f3.f3) ∧ w.cell? ⟨(ad.add (i.toNat * 11)).block, (ad.add (i.toNat * 11)).off + 7, none⟩ = some (.string (rd_T45 xs i).f4.f0) ∧ w.cell? ⟨(ad.add (i.toNat * 11)).block, (ad.add (i.toNat * 11)).off + 8, none⟩ = some (.string (rd_T45 xs i).f4.f1) ∧ w.cell? ⟨(ad.add (i.toNat * 11)).block, (ad.add (i.toNat * 11)).off + 9, none⟩ = some (.int .i64 (rd_T45 xs i).f4.f2) ∧ w.cell? ⟨(ad.add (i.toNat * 11)).block, (ad.add (i.toNat * 11)).off + 10, none⟩ = some (.int .i64 (rd_T45 xs i).f4.f3) := by
 obtain ⟨ad, c, e, _, hK, hc0⟩ := Kd.C_get h z45 i h0 h1
 have hc : ∀ j u, c[j]? = some u → w.cell? (ad.add (i.toNat * 11 + j)) = some u := hc0
 obtain rfl := k45_open hK
 exact ⟨ad, e, hc 0 _ rfl, by rw [← add_field _ _ 1 (by omega)]; exact hc 1 _ rfl, by rw [← add_field _ _ 2 (by omega)]; exact hc 2 _ rfl, by rw [← add_field _ _ 3 (by omega)]; exact hc 3 _ rfl, by rw [← add_field _ _ 4 (by omega)]; exact hc 4 _ rfl, by rw [← add_field _ _ 5 (by omega)]; exact hc 5 _ rfl, by rw [← add_field _ _ 6 (by omega)]; exact hc 6 _ rfl, by rw [← add_field _ _ 7 (by omega)]; exact hc 7 _ rfl, by rw [← add_field _ _ 8 (by omega)]; exact hc 8 _ rfl, by rw [← add_field _ _ 9 (by omega)]; exact hc 9 _ rfl, by rw [← add_field _ _ 10 (by omega)]; exact hc 10 _ rfl⟩
end Go.Proofs.YtehfogjibhnabaaGreatDoor.PAll
namespace Go.Proofs.YtehfogjibhnabaaGreatDoor.Rk
open Go.ChangeShapes Go.WideShapes Go.ChangeAt Go.RowKit Go.Deep
open Go.Proofs.YtehfogjibhnabaaGreatDoorW.PrintWords Go.Proofs.YtehfogjibhnabaaGreatDoor.PAll
section
variable {H : Type} {enc : TypeId × Value → H} {W : World}
theorem bulk_file (f : S43) : f.f0.size ≤ Rows.uptoBulk (.agg [.lit (.string f.f0.data.toList), .lit (.string f.f1.data.toList), .lit (.int .i64 f.f2), .lit (.int .i64 f.f3)] : DataW H) ∧ f.f1.size ≤ Rows.uptoBulk (.agg [.lit (.string f.f0.data.toList), .lit (.string f.f1.data.toList), .lit (.int .i64 f.f2), .lit (.int .i64 f.f3)] : DataW H) := by
 have e0 := bulk_str (H := H) f.f0
 have e1 := bulk_str (H := H) f.f1
 simp only [Rows.uptoBulk, Rows.uptoBulkAll] at e0 e1 ⊢
 omega
theorem files_in {P : Program} {base : Nat} {t e : TypeId} {fs : Array Field} {f0 f1 f2 f3 : Field} {v : Value} {d : DataW H} {p : List MemPlace} (ht : P.underlying t = some (.slice e)) (he : P.underlying e = some (.struct fs)) (hone : oneCellFields P fs = true) (hC : P.cellsOf e = fs.size) (hn : fs.size = 4)
  (h0 : fs[0]? = some f0) (h1 : fs[1]? = some f1) (h2 : fs[2]? = some f2) (h3 : fs[3]? = some f3) (u0 : P.underlying f0.type = some .string) (u1 : P.underlying f1.type = some .string) (u2 : P.underlying f2.type = some (.int .i64)) (u3 : P.underlying f3.type = some (.int .i64))
  (hv : Value.okWide P W .any base t v) (h : DataW.Trod enc P W 0 (fun _ => true) true t v d p) :
  ∃ a cap l, v = .slice a l.length cap ∧ Kd.C k43 W a l.length l ∧ l.length ≤ cap ∧ l.length ≤ Rows.uptoBulk d ∧ ∀ f ∈ l, f.f0.size ≤ Rows.uptoBulk d ∧ f.f1.size ≤ Rows.uptoBulk d := by
 obtain ⟨a, len, cap, rfl⟩ := okWide_slice ht hv
 obtain ⟨fuel, hf⟩ := h
 rcases open_slice ht hf with ⟨hcs, _⟩ | ⟨x, ln, cp, m, n, D, Pl, hcs, hb, hl, hm, hmm, hx, hi⟩
 ·simp [Value.cells] at hcs
  obtain ⟨rfl, rfl, rfl⟩ := hcs
  exact ⟨none, 0, [], rfl, ⟨rfl, by simp, fun h => absurd h (by simp)⟩, by simp, by simp, by simp⟩
 simp [Value.cells] at hcs
 obtain ⟨rfl, rfl, rfl⟩ := hcs
 have hmc : len ≤ m := by rw [hmm]; split <;> omega
 have each : ∀ i, ∃ f : S43, i < m → D i = .agg [.lit (.string f.f0.data.toList), .lit (.string f.f1.data.toList), .lit (.int .i64 f.f2), .lit (.int .i64 f.f3)] ∧
   ∀ j u, ([.string f.f0, .string f.f1, .int .i64 f.f2, .int .i64 f.f3] : List Value)[j]? = some u → W.cell? (x.add (i * 4 + j)) = some u := by
  intro i
  by_cases him : i < m
  ·obtain ⟨cs', hc, ht'⟩ := hi i him
   rw [hC, hn] at hc
   obtain ⟨ys, n', hn', hy, hlen, hyl, hff⟩ := DataW.trod_struct he ht'
   obtain ⟨_, hcl, hat⟩ := World.cells?_some hc
   simp only [Prod.mk.injEq] at hy
   have part : ∀ (j : Nat) (f : Field), fs[j]? = some f → ∃ (u : Value) (y : DataW H × List MemPlace), W.cell? (x.add (i * 4 + j)) = some u ∧ ys[j]? = some y ∧ DataW.trod enc P W 0 (fun _ => true) true n' f.type [u] = some y := fun j f hj => by
    obtain ⟨ho, hk⟩ := hone_of hone j f hj
    have hjl : j < fs.size := (Array.getElem?_eq_some_iff.1 hj).1
    have hcell := hat j (by omega)
    have hg := hff j f hj
    rw [ho, hk] at hg
    have hone' : (cs'.drop j).take 1 = [cs'[j]'(by omega)] := by
     rw [List.drop_eq_getElem_cons (by omega)]
     rfl
    rw [hone'] at hg
    have hys : ys[j]? = some (ys[j]'(by omega)) := List.getElem?_eq_getElem (by omega)
    refine ⟨_, _, ?_, hys, hg.trans hys⟩
    rw [← Go.Deep.add_add, hcell, List.getElem?_eq_getElem (by omega)]
   obtain ⟨v0, y0, c0, k0, t0⟩ := part 0 f0 h0
   obtain ⟨v1, y1, c1, k1, t1⟩ := part 1 f1 h1
   obtain ⟨v2, y2, c2, k2, t2⟩ := part 2 f2 h2
   obtain ⟨v3, y3, c3, k3, t3⟩ := part 3 f3 h3
   obtain ⟨s0, e0, r0, _⟩ := DataW.trod_string u0 t0
   obtain ⟨s1, e1, r1, _⟩ := DataW.trod_string u1 t1
   obtain ⟨s2, e2, r2, _⟩ := DataW.trod_int u2 t2
   obtain ⟨s3, e3, r3, _⟩ := DataW.trod_int u3 t3
   cases e0; cases e1; cases e2; cases e3
   have hys : ys = [y0, y1, y2, y3] := by
    rw [hn] at hyl
    match ys, hyl with
    | [a0, a1, a2, a3], _ => simp at k0 k1 k2 k3; rw [k0, k1, k2, k3]
   refine ⟨⟨s0, s1, s2, s3⟩, fun _ => ⟨?_, fun j u hu => ?_⟩⟩
   ·rw [hy.1, hys]; simp [r0, r1, r2, r3]
   ·match j, hu with
    | 0, hu => cases hu; exact c0
    | 1, hu => cases hu; exact c1
    | 2, hu => cases hu; exact c2
    | 3, hu => cases hu; exact c3
  ·exact ⟨z43, fun h => absurd h him⟩
 obtain ⟨F, hF⟩ := Classical.axiomOfChoice each
 have hd : d = .slice ((List.range len).map D) ((List.range (m - len)).map fun j => D (len + j)) := congrArg Prod.fst hx
 have hbulk : ∀ i, i < len → Rows.uptoBulk (D i) ≤ Rows.uptoBulk d := fun i hil => by
  have := bulk_mem (d := D i) (l := (List.range len).map D) (List.mem_map.2 ⟨i, List.mem_range.2 hil, rfl⟩)
  rw [hd]; simp only [Rows.uptoBulk]; omega
 refine ⟨some x, cap, (List.range len).map F, by simp, ⟨rfl, ?_, fun _ => ⟨x, rfl, fun j q hj => ?_⟩⟩, by simp; omega, ?_, ?_⟩
 ·have : maxLen ≤ 9223372036854775807 := by decide
  simp only [List.length_map, List.length_range]; omega
 ·obtain ⟨hjl, hq⟩ := List.getElem?_eq_some_iff.1 hj
  simp only [List.length_map, List.length_range] at hjl
  simp only [List.getElem_map, List.getElem_range] at hq
  subst hq
  exact ⟨_, rfl, k43_mk W (F j), fun i u hu => (hF j (by omega)).2 i u hu⟩
 ·have := bulk_length ((List.range len).map D)
  rw [hd]; simp only [Rows.uptoBulk]; simp only [List.length_map, List.length_range] at this ⊢; omega
 intro f hf'
 obtain ⟨i, hi', rfl⟩ := List.mem_map.1 hf'
 have hil := List.mem_range.1 hi'
 have h1 := hbulk i hil
 rw [(hF i (by omega)).1] at h1
 have h2 := bulk_file (H := H) (F i)
 omega
end
section
variable {H : Type} {enc : TypeId × Value → H} {W : World}
abbrev dataF (f : S43) : DataW H := .agg [.lit (.string f.f0.data.toList), .lit (.string f.f1.data.toList), .lit (.int .i64 f.f2), .lit (.int .i64 f.f3)]
abbrev dataC (c : S45) : DataW H := .agg [.lit (.string c.f0.data.toList), .lit (.bool c.f1), .lit (.bool c.f2), dataF c.f3, dataF c.f4]
theorem file_open {P : Program} {e : TypeId} {fs : Array Field} {f0 f1 f2 f3 : Field} {n : Nat} {cs : List Value} {x : DataW H × List MemPlace} (he : P.underlying e = some (.struct fs)) (hone : oneCellFields P fs = true) (hC : P.cellsOf e = fs.size) (hn : fs.size = 4)
  (h0 : fs[0]? = some f0) (h1 : fs[1]? = some f1) (h2 : fs[2]? = some f2) (h3 : fs[3]? = some f3) (u0 : P.underlying f0.type = some .string) (u1 : P.underlying f1.type = some .string) (u2 : P.underlying f2.type = some (.int .i64)) (u3 : P.underlying f3.type = some (.int .i64))
  (h : DataW.trod enc P W 0 (fun _ => true) true n e cs = some x) : ∃ f : S43, cs = [.string f.f0, .string f.f1, .int .i64 f.f2, .int .i64 f.f3] ∧ x.1 = dataF f := by
 obtain ⟨ys, n', hn', hy, hlen, hyl, hff⟩ := DataW.trod_struct he h
 rw [hC, hn] at hlen
 rw [hn] at hyl
 have part : ∀ (j : Nat) (f : Field), fs[j]? = some f → ∃ (u : Value) (y : DataW H × List MemPlace), cs[j]? = some u ∧ ys[j]? = some y ∧ DataW.trod enc P W 0 (fun _ => true) true n' f.type [u] = some y := fun j f hj => by
  obtain ⟨ho, hk⟩ := hone_of hone j f hj
  have hjl : j < fs.size := (Array.getElem?_eq_some_iff.1 hj).1
  have hg := hff j f hj
  rw [ho, hk] at hg
  have hone' : (cs.drop j).take 1 = [cs[j]'(by omega)] := by
   rw [List.drop_eq_getElem_cons (by omega)]
   rfl
  rw [hone'] at hg
  have hys : ys[j]? = some (ys[j]'(by omega)) := List.getElem?_eq_getElem (by omega)
  exact ⟨_, _, List.getElem?_eq_getElem (by omega), hys, hg.trans hys⟩
 obtain ⟨v0, y0, c0, k0, t0⟩ := part 0 f0 h0
 obtain ⟨v1, y1, c1, k1, t1⟩ := part 1 f1 h1
 obtain ⟨v2, y2, c2, k2, t2⟩ := part 2 f2 h2
 obtain ⟨v3, y3, c3, k3, t3⟩ := part 3 f3 h3
 obtain ⟨s0, e0, r0, _⟩ := DataW.trod_string u0 t0
 obtain ⟨s1, e1, r1, _⟩ := DataW.trod_string u1 t1
 obtain ⟨s2, e2, r2, _⟩ := DataW.trod_int u2 t2
 obtain ⟨s3, e3, r3, _⟩ := DataW.trod_int u3 t3
 cases e0; cases e1; cases e2; cases e3
 have hys : ys = [y0, y1, y2, y3] := by
  match ys, hyl with
  | [a0, a1, a2, a3], _ => simp at k0 k1 k2 k3; rw [k0, k1, k2, k3]
 have hcs : cs = [.string s0, .string s1, .int .i64 s2, .int .i64 s3] := by
  match cs, hlen with
  | [a0, a1, a2, a3], _ => simp at c0 c1 c2 c3; rw [c0, c1, c2, c3]
 exact ⟨⟨s0, s1, s2, s3⟩, hcs, by rw [hy, hys]; simp [r0, r1, r2, r3]⟩
theorem bulk_change (c : S45) : c.f0.size ≤ Rows.uptoBulk (dataC c : DataW H) ∧ (c.f3.f0.size ≤ Rows.uptoBulk (dataC c : DataW H) ∧ c.f3.f1.size ≤ Rows.uptoBulk (dataC c : DataW H)) ∧ c.f4.f0.size ≤ Rows.uptoBulk (dataC c : DataW H) ∧ c.f4.f1.size ≤ Rows.uptoBulk (dataC c : DataW H) := by
 have e0 := bulk_str (H := H) c.f0
 have e1 := bulk_str (H := H) c.f3.f0
 have e2 := bulk_str (H := H) c.f3.f1
 have e3 := bulk_str (H := H) c.f4.f0
 have e4 := bulk_str (H := H) c.f4.f1
 simp only [Rows.uptoBulk, Rows.uptoBulkAll] at e0 e1 e2 e3 e4 ⊢
 omega
theorem change_open {P : Program} {e : TypeId} {gs fs : Array Field} {g0 g1 g2 g3 g4 f0 f1 f2 f3 : Field} {n : Nat} {cs : List Value} {x : DataW H × List MemPlace} (he : P.underlying e = some (.struct gs)) (hC : P.cellsOf e = 11) (hn : gs.size = 5)
  (q0 : gs[0]? = some g0) (q1 : gs[1]? = some g1) (q2 : gs[2]? = some g2) (q3 : gs[3]? = some g3) (q4 : gs[4]? = some g4) (o0 : g0.offset = 0 ∧ P.cellsOf g0.type = 1) (o1 : g1.offset = 1 ∧ P.cellsOf g1.type = 1) (o2 : g2.offset = 2 ∧ P.cellsOf g2.type = 1) (o3 : g3.offset = 3 ∧ P.cellsOf g3.type = 4) (o4 : g4.offset = 7 ∧ P.cellsOf g4.type = 4)
  (w0 : P.underlying g0.type = some .string) (w1 : P.underlying g1.type = some .bool) (w2 : P.underlying g2.type = some .bool) (w3 : P.underlying g3.type = some (.struct fs)) (w4 : P.underlying g4.type = some (.struct fs))
  (hone : oneCellFields P fs = true) (hf : fs.size = 4) (h0 : fs[0]? = some f0) (h1 : fs[1]? = some f1) (h2 : fs[2]? = some f2) (h3 : fs[3]? = some f3) (u0 : P.underlying f0.type = some .string) (u1 : P.underlying f1.type = some .string) (u2 : P.underlying f2.type = some (.int .i64)) (u3 : P.underlying f3.type = some (.int .i64))
  (h : DataW.trod enc P W 0 (fun _ => true) true n e cs = some x) : ∃ c : S45, cs = [.string c.f0, .bool c.f1, .bool c.f2, .string c.f3.f0, .string c.f3.f1, .int .i64 c.f3.f2, .int .i64 c.f3.f3, .string c.f4.f0, .string c.f4.f1, .int .i64 c.f4.f2, .int .i64 c.f4.f3] ∧ x.1 = dataC c := by
 obtain ⟨ys, n', hn', hy, hlen, hyl, hff⟩ := DataW.trod_struct he h
 rw [hC] at hlen
 rw [hn] at hyl
 have get : ∀ j, j < 5 → ∃ y, ys[j]? = some y := fun j hj => ⟨_, List.getElem?_eq_getElem (by omega)⟩
 obtain ⟨y0, k0⟩ := get 0 (by omega)
 obtain ⟨y1, k1⟩ := get 1 (by omega)
 obtain ⟨y2, k2⟩ := get 2 (by omega)
 obtain ⟨y3, k3⟩ := get 3 (by omega)
 obtain ⟨y4, k4⟩ := get 4 (by omega)
 have t0 := hff 0 g0 q0
 have t1 := hff 1 g1 q1
 have t2 := hff 2 g2 q2
 have t3 := hff 3 g3 q3
 have t4 := hff 4 g4 q4
 rw [o0.1, o0.2, k0] at t0
 rw [o1.1, o1.2, k1] at t1
 rw [o2.1, o2.2, k2] at t2
 rw [o3.1, o3.2, k3] at t3
 rw [o4.1, o4.2, k4] at t4
 obtain ⟨s0, e0, r0, _⟩ := DataW.trod_string w0 t0
 obtain ⟨s1, e1, r1⟩ := DataW.trod_bool w1 t1
 obtain ⟨s2, e2, r2⟩ := DataW.trod_bool w2 t2
 obtain ⟨s3, e3, r3⟩ := file_open w3 hone (o3.2.trans hf.symm) hf h0 h1 h2 h3 u0 u1 u2 u3 t3
 obtain ⟨s4, e4, r4⟩ := file_open w4 hone (o4.2.trans hf.symm) hf h0 h1 h2 h3 u0 u1 u2 u3 t4
 have hys : ys = [y0, y1, y2, y3, y4] := by
  match ys, hyl with
  | [a0, a1, a2, a3, a4], _ => simp at k0 k1 k2 k3 k4; rw [k0, k1, k2, k3, k4]
 refine ⟨⟨s0, s1, s2, s3, s4⟩, ?_, by rw [hy, hys]; simp [r0, r1, r2, r3, r4]⟩
 match cs, hlen with
 | [a0, a1, a2, a3, a4, a5, a6, a7, a8, a9, a10], _ =>
  simp at e0 e1 e2 e3 e4
  obtain ⟨b0, b1, b2, b3⟩ := e3
  obtain ⟨d0, d1, d2, d3⟩ := e4
  rw [e0, e1, e2, b0, b1, b2, b3, d0, d1, d2, d3]
theorem changes_in {P : Program} {base : Nat} {t e : TypeId} {gs fs : Array Field} {g0 g1 g2 g3 g4 f0 f1 f2 f3 : Field} {v : Value} {d : DataW H} {p : List MemPlace} (ht : P.underlying t = some (.slice e)) (he : P.underlying e = some (.struct gs)) (hC : P.cellsOf e = 11) (hn : gs.size = 5)
  (q0 : gs[0]? = some g0) (q1 : gs[1]? = some g1) (q2 : gs[2]? = some g2) (q3 : gs[3]? = some g3) (q4 : gs[4]? = some g4) (o0 : g0.offset = 0 ∧ P.cellsOf g0.type = 1) (o1 : g1.offset = 1 ∧ P.cellsOf g1.type = 1) (o2 : g2.offset = 2 ∧ P.cellsOf g2.type = 1) (o3 : g3.offset = 3 ∧ P.cellsOf g3.type = 4) (o4 : g4.offset = 7 ∧ P.cellsOf g4.type = 4)
  (w0 : P.underlying g0.type = some .string) (w1 : P.underlying g1.type = some .bool) (w2 : P.underlying g2.type = some .bool) (w3 : P.underlying g3.type = some (.struct fs)) (w4 : P.underlying g4.type = some (.struct fs))
  (hone : oneCellFields P fs = true) (hf : fs.size = 4) (h0 : fs[0]? = some f0) (h1 : fs[1]? = some f1) (h2 : fs[2]? = some f2) (h3 : fs[3]? = some f3) (u0 : P.underlying f0.type = some .string) (u1 : P.underlying f1.type = some .string) (u2 : P.underlying f2.type = some (.int .i64)) (u3 : P.underlying f3.type = some (.int .i64))
  (hv : Value.okWide P W .any base t v) (h : DataW.Trod enc P W 0 (fun _ => true) true t v d p) :
  ∃ a cap l, v = .slice a l.length cap ∧ Kd.C k45 W a l.length l ∧ l.length ≤ cap ∧ l.length ≤ Rows.uptoBulk d ∧ ∀ c ∈ l, c.f0.size ≤ Rows.uptoBulk d ∧ (c.f3.f0.size ≤ Rows.uptoBulk d ∧ c.f3.f1.size ≤ Rows.uptoBulk d) ∧ c.f4.f0.size ≤ Rows.uptoBulk d ∧ c.f4.f1.size ≤ Rows.uptoBulk d := by
 obtain ⟨a, len, cap, rfl⟩ := okWide_slice ht hv
 obtain ⟨fuel, hfu⟩ := h
 rcases open_slice ht hfu with ⟨hcs, _⟩ | ⟨x, ln, cp, m, n, D, Pl, hcs, hb, hl, hm, hmm, hx, hi⟩
 ·simp [Value.cells] at hcs
  obtain ⟨rfl, rfl, rfl⟩ := hcs
  exact ⟨none, 0, [], rfl, ⟨rfl, by simp, fun h => absurd h (by simp)⟩, by simp, by simp, by simp⟩
 simp [Value.cells] at hcs
 obtain ⟨rfl, rfl, rfl⟩ := hcs
 have hmc : len ≤ m := by rw [hmm]; split <;> omega
 have each : ∀ i, ∃ c : S45, i < m → D i = dataC c ∧
   ∀ j u, ([.string c.f0, .bool c.f1, .bool c.f2, .string c.f3.f0, .string c.f3.f1, .int .i64 c.f3.f2, .int .i64 c.f3.f3, .string c.f4.f0, .string c.f4.f1, .int .i64 c.f4.f2, .int .i64 c.f4.f3] : List Value)[j]? = some u → W.cell? (x.add (i * 11 + j)) = some u := by
  intro i
  by_cases him : i < m
  ·obtain ⟨cs', hc, ht'⟩ := hi i him
   rw [hC] at hc
   obtain ⟨c, hcs', hd⟩ := change_open he hC hn q0 q1 q2 q3 q4 o0 o1 o2 o3 o4 w0 w1 w2 w3 w4 hone hf h0 h1 h2 h3 u0 u1 u2 u3 ht'
   obtain ⟨_, hcl, hat⟩ := World.cells?_some hc
   refine ⟨c, fun _ => ⟨hd, fun j u hu => ?_⟩⟩
   rw [← hcs'] at hu
   have hj : j < 11 := by have := (List.getElem?_eq_some_iff.1 hu).1; omega
   rw [← Go.Deep.add_add, hat j hj]
   exact hu
  ·exact ⟨z45, fun h => absurd h him⟩
 obtain ⟨F, hF⟩ := Classical.axiomOfChoice each
 have hd : d = .slice ((List.range len).map D) ((List.range (m - len)).map fun j => D (len + j)) := congrArg Prod.fst hx
 have hbulk : ∀ i, i < len → Rows.uptoBulk (D i) ≤ Rows.uptoBulk d := fun i hil => by
  have := bulk_mem (d := D i) (l := (List.range len).map D) (List.mem_map.2 ⟨i, List.mem_range.2 hil, rfl⟩)
  rw [hd]; simp only [Rows.uptoBulk]; omega
 refine ⟨some x, cap, (List.range len).map F, by simp, ⟨rfl, ?_, fun _ => ⟨x, rfl, fun j q hj => ?_⟩⟩, by simp; omega, ?_, ?_⟩
 ·have : maxLen ≤ 9223372036854775807 := by decide
  simp only [List.length_map, List.length_range]; omega
 ·obtain ⟨hjl, hq⟩ := List.getElem?_eq_some_iff.1 hj
  simp only [List.length_map, List.length_range] at hjl
  simp only [List.getElem_map, List.getElem_range] at hq
  subst hq
  exact ⟨_, rfl, k45_mk W (F j), fun i u hu => (hF j (by omega)).2 i u hu⟩
 ·have := bulk_length ((List.range len).map D)
  rw [hd]; simp only [Rows.uptoBulk]; simp only [List.length_map, List.length_range] at this ⊢; omega
 intro f hf'
 obtain ⟨i, hi', rfl⟩ := List.mem_map.1 hf'
 have hil := List.mem_range.1 hi'
 have h1 := hbulk i hil
 rw [(hF i (by omega)).1] at h1
 have h2 := bulk_change (H := H) (F i)
 omega
end
end Go.Proofs.YtehfogjibhnabaaGreatDoor.Rk
namespace Go.Proofs.YtehfogjibhnabaaGreatDoor.Sp
abbrev Str := List UInt8
def spl : Str → List Str
 | [] => [[]]
 | c :: r => if c = 47 then [] :: spl r else match spl r with
  | [] => [[c]]
  | h :: t => (c :: h) :: t
theorem spl_ne (s : Str) : spl s ≠ [] := by
 cases s with
 | nil => simp [spl]
 | cons c r =>
  unfold spl
  split
  ·simp
  split <;> simp
def joinS : List Str → Str
 | [] => []
 | [a] => a
 | a :: b :: r => a ++ 47 :: joinS (b :: r)
theorem joinS_cons (a : Str) {l : List Str} (h : l ≠ []) : joinS (a :: l) = a ++ 47 :: joinS l := by
 cases l with
 | nil => exact absurd rfl h
 | cons b r => rfl
theorem join_spl (s : Str) : joinS (spl s) = s := by
 induction s with
 | nil => rfl
 | cons c r ih =>
  unfold spl
  by_cases h : c = 47
  ·rw [if_pos h, joinS_cons _ (spl_ne r), ih, h]; rfl
  rw [if_neg h]
  cases hs : spl r with
  | nil => exact absurd hs (spl_ne r)
  | cons x t =>
   rw [hs] at ih
   cases t with
   | nil => simp only [joinS] at ih ⊢; rw [ih]
   | cons y t => simp only [joinS] at ih ⊢; rw [← ih]; rfl
def pcs (s : Str) : List Str := if s = [] then [] else spl s
theorem pcs_of {s : Str} (h : s ≠ []) : pcs s = spl s := if_neg h
theorem join_pcs (s : Str) : joinS (pcs s) = s := by
 unfold pcs
 split
 ·rename_i h; rw [h]; rfl
 exact join_spl s
theorem pcs_inj {a b : Str} (h : pcs a = pcs b) : a = b := by rw [← join_pcs a, h, join_pcs]
theorem bl_irrefl : ∀ a : Str, Op.bytesLess a a = false
 | [] => rfl
 | c :: r => by simp [Op.bytesLess, bl_irrefl r]
theorem bl_tri : ∀ a b : Str, Op.bytesLess a b = false → Op.bytesLess b a = false → a = b
 | [], [], _, _ => rfl
 | [], _ :: _, h, _ => by simp [Op.bytesLess] at h
 | _ :: _, [], _, h => by simp [Op.bytesLess] at h
 | c :: r, d :: s, h, k => by
  simp only [Op.bytesLess, Bool.or_eq_false_iff, Bool.and_eq_false_iff, decide_eq_false_iff_not, beq_eq_false_iff_ne] at h k
  have e : c = d := by
   have h1 := h.1; have k1 := k.1
   rw [UInt8.lt_iff_toNat_lt] at h1 k1
   exact UInt8.toNat_inj.1 (by omega)
  subst e
  have hr : Op.bytesLess r s = false := by rcases h.2 with h2 | h2; exact absurd rfl h2; exact h2
  have kr : Op.bytesLess s r = false := by rcases k.2 with h2 | h2; exact absurd rfl h2; exact h2
  rw [bl_tri r s hr kr]
theorem bl_trans : ∀ a b d : Str, Op.bytesLess a b = true → Op.bytesLess b d = true → Op.bytesLess a d = true
 | _, [], _, h, _ => by simp [Op.bytesLess] at h
 | _, _ :: _, [], _, h => by simp [Op.bytesLess] at h
 | [], _ :: _, _ :: _, _, _ => rfl
 | x :: a, y :: b, z :: d, h, k => by
  simp only [Op.bytesLess, Bool.or_eq_true, Bool.and_eq_true, decide_eq_true_eq, beq_iff_eq, UInt8.lt_iff_toNat_lt] at h k ⊢
  rcases h with h | ⟨rfl, h⟩
  ·rcases k with k | ⟨rfl, k⟩
   ·exact .inl (by omega)
   ·exact .inl h
  ·rcases k with k | ⟨rfl, k⟩
   ·exact .inl k
   ·exact .inr ⟨rfl, bl_trans a b d h k⟩
theorem bl_asymm (a b : Str) (h : Op.bytesLess a b = true) : Op.bytesLess b a = false := by
 cases k : Op.bytesLess b a with
 | false => rfl
 | true => have := bl_trans a b a h k; rw [bl_irrefl] at this; exact absurd this (by decide)
theorem gt_ne {x y : Str} (h : Op.bytesLess x y = false) (k : Op.bytesLess y x = true) : (x == y) = false := by
 have : x ≠ y := by rintro rfl; rw [h] at k; cases k
 simpa using this
theorem gt_eq {x y : Str} (h : Op.bytesLess x y = false) (k : Op.bytesLess y x = false) : (x == y) = true := by
 simpa using bl_tri x y h k
def cmpS (x y : Str) : Int := if Op.bytesLess x y = true then -1 else if Op.bytesLess y x = true then 1 else 0
theorem cmpS_self (x : Str) : cmpS x x = 0 := by simp [cmpS, bl_irrefl]
theorem cmpS_eq {x y : Str} (h : cmpS x y = 0) : x = y := by
 unfold cmpS at h
 split at h
 ·cases h
 split at h
 ·cases h
 rename_i h1 h2; exact bl_tri x y (by simpa using h1) (by simpa using h2)
theorem cmpS_neg (x y : Str) : cmpS y x = - cmpS x y := by
 unfold cmpS
 by_cases h : Op.bytesLess x y = true
 ·rw [if_pos h, bl_asymm x y h]; simp [h]
 by_cases k : Op.bytesLess y x = true
 ·simp [h, k]
 simp [h, k]
theorem cmpS_lt {x y : Str} : cmpS x y < 0 ↔ Op.bytesLess x y = true := by
 unfold cmpS
 split
 ·simp [*]
 split <;> simp [*]
def cmpL : List Str → List Str → Int
 | [], [] => 0
 | [], _ :: _ => -1
 | _ :: _, [] => 1
 | x :: xs, y :: ys => if x = y then cmpL xs ys else cmpS x y
theorem cmpL_self : ∀ l, cmpL l l = 0
 | [] => rfl
 | x :: l => by simp [cmpL, cmpL_self l]
theorem cmpL_eq : ∀ l m, cmpL l m = 0 → l = m
 | [], [], _ => rfl
 | [], _ :: _, h => by simp [cmpL] at h
 | _ :: _, [], h => by simp [cmpL] at h
 | x :: l, y :: m, h => by
  unfold cmpL at h
  split at h
  ·rename_i e; rw [e, cmpL_eq l m h]
  ·rename_i e; exact absurd (cmpS_eq h) e
theorem cmpL_neg : ∀ l m, cmpL m l = - cmpL l m
 | [], [] => rfl
 | [], _ :: _ => rfl
 | _ :: _, [] => rfl
 | x :: l, y :: m => by
  unfold cmpL
  by_cases e : x = y
  ·rw [if_pos e, if_pos e.symm, cmpL_neg l m]
  ·rw [if_neg e, if_neg (fun h => e h.symm), cmpS_neg]
theorem cmpL_trans : ∀ l m n, cmpL l m < 0 → cmpL m n < 0 → cmpL l n < 0
 | _, [], [], _, k => by simp [cmpL] at k
 | [], [], _ :: _, h, _ => by simp [cmpL] at h
 | _ :: _, [], _, h, _ => by simp [cmpL] at h
 | _, _ :: _, [], _, k => by simp [cmpL] at k
 | [], _ :: _, _ :: _, _, _ => by simp [cmpL]
 | x :: l, y :: m, z :: n, h, k => by
  unfold cmpL at h k ⊢
  by_cases e : x = y
  ·subst e
   rw [if_pos rfl] at h
   by_cases e2 : x = z
   ·rw [if_pos e2] at k ⊢; exact cmpL_trans l m n h k
   ·rw [if_neg e2] at k ⊢; exact k
  ·rw [if_neg e] at h
   by_cases e2 : y = z
   ·subst e2; rw [if_neg e]; exact h
   ·rw [if_neg e2] at k
    have hk := cmpS_lt.2 (bl_trans x y z (cmpS_lt.1 h) (cmpS_lt.1 k))
    by_cases e3 : x = z
    ·subst e3; rw [cmpS_self] at hk; omega
    ·rw [if_neg e3]; exact hk
def cmpP (a b : Str) : Int := cmpL (pcs a) (pcs b)
theorem cmpP_self (a : Str) : cmpP a a = 0 := cmpL_self _
theorem cmpP_eq {a b : Str} (h : cmpP a b = 0) : a = b := pcs_inj (cmpL_eq _ _ h)
theorem cmpP_neg (a b : Str) : cmpP b a = - cmpP a b := cmpL_neg _ _
theorem cmpP_trans {a b c : Str} (h : cmpP a b < 0) (k : cmpP b c < 0) : cmpP a c < 0 := cmpL_trans _ _ _ h k
def bs (s : ByteArray) : Str := s.data.toList
theorem bs_inj {a b : ByteArray} (h : bs a = bs b) : a = b := by
 cases a; cases b
 simp only [bs] at h
 congr 1
 exact Array.toList_inj.1 h
theorem toList_bs (a : ByteArray) : a.toList = bs a := Lib.toList_data a
theorem bs_size (a : ByteArray) : (bs a).length = a.size := (Lib.size_eq a).symm
def cB (a b : ByteArray) : Int := cmpP (bs a) (bs b)
theorem cB_self (a : ByteArray) : cB a a = 0 := cmpP_self _
theorem cB_eq {a b : ByteArray} (h : cB a b = 0) : a = b := bs_inj (cmpP_eq h)
theorem cB_neg (a b : ByteArray) : cB b a = - cB a b := cmpP_neg _ _
theorem cB_trans {a b c : ByteArray} (h : cB a b < 0) (k : cB b c < 0) : cB a c < 0 := cmpP_trans h k
theorem cB_ne {a b : ByteArray} (h : cB a b < 0) : a ≠ b := by rintro rfl; rw [cB_self] at h; omega
def mk (l : Str) : ByteArray := ⟨l.toArray⟩
theorem bs_mk (l : Str) : bs (mk l) = l := by simp [bs, mk]
theorem mk_bs (a : ByteArray) : mk (bs a) = a := bs_inj (bs_mk _)
def pB (a : ByteArray) : List ByteArray := (pcs (bs a)).map mk
theorem pB_bs (a : ByteArray) : (pB a).map bs = pcs (bs a) := by
 unfold pB; rw [List.map_map, show bs ∘ mk = id from funext bs_mk, List.map_id]
theorem pB_nil {a : ByteArray} (h : bs a = []) : pB a = [] := by unfold pB; rw [h]; rfl
theorem index_ne {c : UInt8} (h : c ≠ 47) (l : Str) : Lib.index (c :: l) [47] = if Lib.index l [47] == -1 then -1 else Lib.index l [47] + 1 := by
 rw [Lib.index, show ([47] : Str).isPrefixOf (c :: l) = false by simp [List.isPrefixOf, Ne.symm h]]
 simp
theorem splitK_spl : ∀ s : Str, Lib.splitK [47] 0 (Lib.count s [47]) s = spl s
 | [] => by rw [Lib.count_one]; rfl
 | c :: l => by
  have ih := splitK_spl l
  by_cases h : c = 47
  ·subst h
   rw [Lib.count_cons_eq, Nat.add_comm]
   have hix : Lib.index (47 :: l) [47] = 0 := by rw [Lib.index]; simp [List.isPrefixOf]
   unfold Lib.splitK
   rw [hix]
   simp only [spl, if_true]
   rw [← ih]
   rfl
  ·rw [Lib.count_cons_ne c 47 l h]
   unfold spl
   rw [if_neg h]
   cases hc : Lib.count l [47] with
   | zero =>
    rw [hc] at ih
    have e : spl l = [l] := ih.symm
    rw [e]; rfl
   | succ k =>
    rw [hc] at ih
    have hne : Lib.index l [47] ≠ -1 := fun e => by rw [Lib.count_miss e] at hc; cases hc
    have hge := Lib.index_ge l [47]
    obtain ⟨j, hj⟩ : ∃ j : Nat, Lib.index l [47] = j := ⟨(Lib.index l [47]).toNat, by omega⟩
    have hj' : Lib.index (c :: l) [47] = ((j + 1 : Nat) : Int) := by
     rw [index_ne h, if_neg (by simpa using hne), hj]; omega
    unfold Lib.splitK at ih ⊢
    rw [hj, if_neg (by simp <;> omega)] at ih
    rw [hj', if_neg (by simp <;> omega), ← ih]
    simp
theorem splitB_spl (s : ByteArray) : Lib.splitB ⟨#[47]⟩ 0 (Lib.countB s ⟨#[47]⟩) s = (spl (bs s)).map mk := by
 have h : (Lib.splitB ⟨#[47]⟩ 0 (Lib.countB s ⟨#[47]⟩) s).map bs = spl (bs s) := (Lib.splitB_data _ _ _ _).trans (splitK_spl (bs s))
 rw [← h, List.map_map, show mk ∘ bs = id from funext mk_bs, List.map_id]
instance (p : ByteArray) (l : List ByteArray) : Decidable (p ∈ l) := decidable_of_iff (l.any (fun x => decide (x = p)) = true) (by simp)
abbrev Rises (l : List ByteArray) : Prop := l.Pairwise (fun a b => cB a b < 0)
theorem rises_uniq : ∀ (l m : List ByteArray), Rises l → Rises m → (∀ x, x ∈ l ↔ x ∈ m) → l = m
 | [], [], _, _, _ => rfl
 | [], y :: m, _, _, h => absurd ((h y).2 List.mem_cons_self) (by simp)
 | x :: l, [], _, _, h => absurd ((h x).1 List.mem_cons_self) (by simp)
 | x :: l, y :: m, hl, hm, h => by
  have hl' := List.pairwise_cons.1 hl
  have hm' := List.pairwise_cons.1 hm
  have e : x = y := by
   rcases List.mem_cons.1 ((h x).1 List.mem_cons_self) with e | hx
   ·exact e
   ·rcases List.mem_cons.1 ((h y).2 List.mem_cons_self) with e | hy
    ·exact e.symm
    ·have h1 := hm'.1 x hx; have h2 := hl'.1 y hy; have := cB_neg y x; omega
  subst e
  congr 1
  refine rises_uniq l m hl'.2 hm'.2 fun z => ?_
  constructor
  ·intro hz
   rcases List.mem_cons.1 ((h z).1 (List.mem_cons_of_mem _ hz)) with e | k
   ·subst e; exact absurd rfl (cB_ne (hl'.1 z hz))
   ·exact k
  ·intro hz
   rcases List.mem_cons.1 ((h z).2 (List.mem_cons_of_mem _ hz)) with e | k
   ·subst e; exact absurd rfl (cB_ne (hm'.1 z hz))
   ·exact k
def ins (x : ByteArray) : List ByteArray → List ByteArray
 | [] => [x]
 | y :: l => if cB x y < 0 then x :: y :: l else if x = y then y :: l else y :: ins x l
theorem mem_ins {x z : ByteArray} : ∀ {l : List ByteArray}, z ∈ ins x l ↔ z = x ∨ z ∈ l
 | [] => by simp [ins]
 | y :: l => by
  unfold ins
  split
  ·simp
  ·split
   ·rename_i e; subst e; simp
   ·simp [mem_ins (l := l)]
    constructor <;> (intro h; rcases h with h | h | h <;> simp [h])
theorem rises_ins {x : ByteArray} : ∀ {l : List ByteArray}, Rises l → Rises (ins x l)
 | [], _ => by simp [ins]
 | y :: l, h => by
  have h' := List.pairwise_cons.1 h
  unfold ins
  split
  ·rename_i c
   refine List.pairwise_cons.2 ⟨fun z hz => ?_, h⟩
   rcases List.mem_cons.1 hz with rfl | hz
   ·exact c
   ·exact cB_trans c (h'.1 z hz)
  ·split
   ·exact h
   ·rename_i c e
    refine List.pairwise_cons.2 ⟨fun z hz => ?_, rises_ins h'.2⟩
    rcases mem_ins.1 hz with rfl | hz
    ·have := cB_neg z y
     have : cB z y ≠ 0 := fun k => e (cB_eq k)
     omega
    ·exact h'.1 z hz
def norm (l : List ByteArray) : List ByteArray := l.foldl (fun acc x => ins x acc) []
theorem norm_foldl : ∀ (l acc : List ByteArray), Rises acc → Rises (l.foldl (fun acc x => ins x acc) acc) ∧ ∀ z, z ∈ l.foldl (fun acc x => ins x acc) acc ↔ z ∈ l ∨ z ∈ acc
 | [], acc, h => ⟨h, fun z => by simp⟩
 | x :: l, acc, h => by
  obtain ⟨h1, h2⟩ := norm_foldl l (ins x acc) (rises_ins h)
  refine ⟨h1, fun z => ?_⟩
  rw [List.foldl_cons, h2, mem_ins, List.mem_cons]
  constructor
  ·rintro (h | h | h) <;> simp [h]
  ·rintro ((h | h) | h) <;> simp [h]
theorem rises_norm (l : List ByteArray) : Rises (norm l) := (norm_foldl l [] List.Pairwise.nil).1
theorem mem_norm {l : List ByteArray} {z : ByteArray} : z ∈ norm l ↔ z ∈ l := by
 unfold norm; rw [(norm_foldl l [] List.Pairwise.nil).2]; simp
theorem rises_nodup {l : List ByteArray} (h : Rises l) : l.Nodup := h.imp fun h => cB_ne h
theorem norm_length_le (l : List ByteArray) : (norm l).length ≤ l.length := (rises_nodup (rises_norm l)).length_le_of_subset (fun _ hz => mem_norm.1 hz)
end Go.Proofs.YtehfogjibhnabaaGreatDoor.Sp
namespace Go.Proofs.YtehfogjibhnabaaGreatDoor.PAll
open Go.RowKit Go.Proofs.YtehfogjibhnabaaGreatDoorW.PrintWords Go.Proofs.YtehfogjibhnabaaGreatDoorW.PrintLast Go.Proofs.YtehfogjibhnabaaGreatDoorW.PrintMore
open Go.Proofs.YtehfogjibhnabaaGreatDoor.Sp
section
variable {α : Type} (key : α → ByteArray)
def RisesK (l : List α) : Prop := l.Pairwise fun x y => cB (key x) (key y) < 0
def atK (l : List α) (p : ByteArray) : Option α := l.find? fun x => decide (key x = p)
variable {key}
theorem atK_nil (p : ByteArray) : atK key [] p = none := rfl
theorem atK_cons (x : α) (l : List α) (p : ByteArray) : atK key (x :: l) p = if key x = p then some x else atK key l p := by
 unfold atK
 rw [List.find?_cons]
 by_cases h : key x = p <;> simp [h]
theorem atK_some {l : List α} {p : ByteArray} {x : α} (h : atK key l p = some x) : key x = p ∧ x ∈ l := by
 unfold atK at h
 exact ⟨by have := List.find?_some h; simpa using this, List.mem_of_find?_eq_some h⟩
theorem atK_none {l : List α} {p : ByteArray} : atK key l p = none ↔ ∀ x ∈ l, key x ≠ p := by
 unfold atK
 rw [List.find?_eq_none]
 simp
theorem RisesK.tail {x : α} {l : List α} (h : RisesK key (x :: l)) : RisesK key l := (List.pairwise_cons.1 h).2
theorem RisesK.head {x : α} {l : List α} (h : RisesK key (x :: l)) : ∀ y ∈ l, cB (key x) (key y) < 0 := (List.pairwise_cons.1 h).1
theorem RisesK.cons {x : α} {l : List α} (h : RisesK key l) (hx : ∀ y ∈ l, cB (key x) (key y) < 0) : RisesK key (x :: l) := List.pairwise_cons.2 ⟨hx, h⟩
theorem RisesK.below {x : α} {l : List α} (h : RisesK key (x :: l)) {p : ByteArray} (hp : cB p (key x) < 0) : atK key (x :: l) p = none := by
 rw [atK_none]
 intro y hy e
 rcases List.mem_cons.1 hy with rfl | hy
 ·exact cB_ne hp e.symm
 exact cB_ne (cB_trans hp (h.head y hy)) e.symm
theorem RisesK.mem {l : List α} (h : RisesK key l) {x : α} (hx : x ∈ l) : atK key l (key x) = some x := by
 induction l with
 | nil => cases hx
 | cons y l ih =>
  rw [atK_cons]
  rcases List.mem_cons.1 hx with rfl | hx
  ·rw [if_pos rfl]
  rw [if_neg (cB_ne (h.head x hx)), ih h.tail hx]
theorem risesK_ext : ∀ (l m : List α), RisesK key l → RisesK key m → (∀ p, atK key l p = atK key m p) → l = m
 | [], [], _, _, _ => rfl
 | [], y :: m, _, _, h => by have := h (key y); rw [atK_nil, atK_cons, if_pos rfl] at this; cases this
 | x :: l, [], _, _, h => by have := h (key x); rw [atK_nil, atK_cons, if_pos rfl] at this; cases this
 | x :: l, y :: m, hl, hm, h => by
  have hx := h (key x)
  have hy := h (key y)
  rcases Int.lt_trichotomy (cB (key x) (key y)) 0 with c | c | c
  ·rw [atK_cons, if_pos rfl, hm.below c] at hx; cases hx
  ·have e := cB_eq c
   rw [atK_cons, if_pos rfl, atK_cons, if_pos e.symm] at hx
   obtain rfl := Option.some.inj hx
   rw [risesK_ext l m hl.tail hm.tail fun p => ?_]
   have := h p
   rw [atK_cons, atK_cons] at this
   by_cases hp : key x = p
   ·rw [atK_none.2 fun z hz => fun e => cB_ne (hl.head z hz) (hp.trans e.symm), atK_none.2 fun z hz => fun e => cB_ne (hm.head z hz) (hp.trans e.symm)]
   ·rwa [if_neg hp, if_neg hp] at this
  ·have c' : cB (key y) (key x) < 0 := by have := cB_neg (key x) (key y); omega
   rw [hl.below c', atK_cons, if_pos rfl] at hy; cases hy
theorem RisesK.filter {l : List α} (h : RisesK key l) (q : α → Bool) : RisesK key (l.filter q) := List.Pairwise.filter _ h
theorem atK_map {β : Type} {key2 : β → ByteArray} (f : α → β) (hf : ∀ x, key2 (f x) = key x) (l : List α) (p : ByteArray) : atK key2 (l.map f) p = (atK key l p).map f := by
 induction l with
 | nil => rfl
 | cons x l ih =>
  rw [List.map_cons, atK_cons, atK_cons, hf, ih]
  by_cases hp : key x = p
  ·rw [if_pos hp, if_pos hp]; rfl
  rw [if_neg hp, if_neg hp]
theorem atK_mapM {β : Type} {key2 : β → ByteArray} (f : α → β) (l : List α) (hf : ∀ x ∈ l, key2 (f x) = key x) (p : ByteArray) : atK key2 (l.map f) p = (atK key l p).map f := by
 induction l with
 | nil => rfl
 | cons x l ih =>
  rw [List.map_cons, atK_cons, atK_cons, hf x List.mem_cons_self, ih fun y hy => hf y (List.mem_cons_of_mem _ hy)]
  by_cases hp : key x = p
  ·rw [if_pos hp, if_pos hp]; rfl
  rw [if_neg hp, if_neg hp]
theorem RisesK.mapM {β : Type} {key2 : β → ByteArray} {l : List α} (h : RisesK key l) (f : α → β) (hf : ∀ x ∈ l, key2 (f x) = key x) : RisesK key2 (l.map f) := by
 induction l with
 | nil => exact List.Pairwise.nil
 | cons x l ih =>
  rw [List.map_cons]
  refine (ih h.tail fun y hy => hf y (List.mem_cons_of_mem _ hy)).cons fun y hy => ?_
  obtain ⟨z, hz, rfl⟩ := List.mem_map.1 hy
  rw [hf x List.mem_cons_self, hf z (List.mem_cons_of_mem _ hz)]
  exact h.head z hz
theorem RisesK.map {β : Type} {key2 : β → ByteArray} {l : List α} (h : RisesK key l) (f : α → β) (hf : ∀ x, key2 (f x) = key x) : RisesK key2 (l.map f) := by
 unfold RisesK
 rw [List.pairwise_map]
 refine h.imp fun h => ?_
 rw [hf, hf]
 exact h
def joinK (key : α → ByteArray) (idle : α → Bool) (comb : α → α → α) : Nat → List α → List α → List α
 | 0, _, _ => []
 | n + 1, d, e =>
  match d, e with
  | [], [] => []
  | [], y :: e => (if idle y = true then [] else [y]) ++ joinK key idle comb n [] e
  | x :: d, [] => (if idle x = true then [] else [x]) ++ joinK key idle comb n d []
  | x :: d, y :: e =>
   if cB (key x) (key y) < 0 then (if idle x = true then [] else [x]) ++ joinK key idle comb n d (y :: e)
   else if 0 < cB (key x) (key y) then (if idle y = true then [] else [y]) ++ joinK key idle comb n (x :: d) e
   else (if idle (comb x y) = true then [] else [comb x y]) ++ joinK key idle comb n d e
def bothO (comb : α → α → α) : Option α → Option α → Option α
 | none, none => none
 | some x, none => some x
 | none, some y => some y
 | some x, some y => some (comb x y)
variable {idle : α → Bool} {comb : α → α → α}
theorem atK_put (x : α) (l : List α) (p : ByteArray) (hn : key x = p → atK key l p = none) : atK key ((if idle x = true then [] else [x]) ++ l) p = if key x = p then (some x).filter (fun z => !idle z) else atK key l p := by
 by_cases hi : idle x = true
 ·rw [if_pos hi, List.nil_append]
  by_cases hp : key x = p
  ·rw [if_pos hp, hn hp]; simp [Option.filter, hi]
  rw [if_neg hp]
 rw [if_neg hi, List.singleton_append, atK_cons]
 by_cases hp : key x = p
 ·rw [if_pos hp, if_pos hp]; simp [Option.filter, hi]
 rw [if_neg hp, if_neg hp]
theorem mem_putK {x z : α} {l : List α} (h : z ∈ (if idle x = true then [] else [x]) ++ l) : z = x ∨ z ∈ l := by
 rcases List.mem_append.1 h with h | h
 ·split at h
  ·cases h
  exact .inl (List.mem_singleton.1 h)
 exact .inr h
theorem RisesK.put {x : α} {l : List α} (h : RisesK key l) (hx : ∀ y ∈ l, cB (key x) (key y) < 0) : RisesK key ((if idle x = true then [] else [x]) ++ l) := by
 split
 ·exact h
 exact h.cons hx
theorem joinK_key (hk : ∀ x y, key (comb x y) = key x) (n : Nat) : ∀ d e : List α, ∀ z ∈ joinK key idle comb n d e, (∃ x ∈ d, key z = key x) ∨ ∃ y ∈ e, key z = key y := by
 induction n with
 | zero => intro d e z hz; cases hz
 | succ n ih =>
  intro d e z hz
  rcases d with _ | ⟨x, d⟩ <;> rcases e with _ | ⟨y, e⟩
  ·cases hz
  ·rcases mem_putK hz with rfl | hz
   ·exact .inr ⟨z, List.mem_cons_self, rfl⟩
   rcases ih _ _ z hz with ⟨w, hw, h⟩ | ⟨w, hw, h⟩
   ·cases hw
   exact .inr ⟨w, List.mem_cons_of_mem _ hw, h⟩
  ·rcases mem_putK hz with rfl | hz
   ·exact .inl ⟨z, List.mem_cons_self, rfl⟩
   rcases ih _ _ z hz with ⟨w, hw, h⟩ | ⟨w, hw, h⟩
   ·exact .inl ⟨w, List.mem_cons_of_mem _ hw, h⟩
   cases hw
  unfold joinK at hz
  dsimp only at hz
  split at hz
  ·rcases mem_putK hz with rfl | hz
   ·exact .inl ⟨z, List.mem_cons_self, rfl⟩
   rcases ih _ _ z hz with ⟨w, hw, h⟩ | h
   ·exact .inl ⟨w, List.mem_cons_of_mem _ hw, h⟩
   exact .inr h
  split at hz
  ·rcases mem_putK hz with rfl | hz
   ·exact .inr ⟨z, List.mem_cons_self, rfl⟩
   rcases ih _ _ z hz with h | ⟨w, hw, h⟩
   ·exact .inl h
   exact .inr ⟨w, List.mem_cons_of_mem _ hw, h⟩
  rcases mem_putK hz with rfl | hz
  ·exact .inl ⟨x, List.mem_cons_self, hk x y⟩
  rcases ih _ _ z hz with ⟨w, hw, h⟩ | ⟨w, hw, h⟩
  ·exact .inl ⟨w, List.mem_cons_of_mem _ hw, h⟩
  exact .inr ⟨w, List.mem_cons_of_mem _ hw, h⟩
theorem joinK_spec (hk : ∀ x y, key (comb x y) = key x) (n : Nat) : ∀ d e : List α, d.length + e.length ≤ n → RisesK key d → RisesK key e →
  RisesK key (joinK key idle comb n d e) ∧ ∀ p, atK key (joinK key idle comb n d e) p = (bothO comb (atK key d p) (atK key e p)).filter (fun z => !idle z) := by
 induction n with
 | zero =>
  intro d e hl _ _
  obtain rfl : d = [] := List.eq_nil_of_length_eq_zero (by omega)
  obtain rfl : e = [] := List.eq_nil_of_length_eq_zero (by omega)
  exact ⟨List.Pairwise.nil, fun p => rfl⟩
 | succ n ih =>
  intro d e hl hd he
  rcases d with _ | ⟨x, d⟩ <;> rcases e with _ | ⟨y, e⟩
  ·exact ⟨List.Pairwise.nil, fun p => rfl⟩
  ·obtain ⟨i1, i2⟩ := ih [] e (by simp at hl ⊢; omega) hd he.tail
   have far : ∀ z ∈ joinK key idle comb n [] e, cB (key y) (key z) < 0 := fun z hz => by
    rcases joinK_key hk n _ _ z hz with ⟨w, hw, _⟩ | ⟨w, hw, h⟩
    ·cases hw
    rw [h]; exact he.head w hw
   refine ⟨i1.put far, fun p => ?_⟩
   show atK key ((if idle y = true then [] else [y]) ++ _) p = _
   rw [atK_put _ _ _ (fun hp => atK_none.2 fun z hz e => cB_ne (far z hz) (hp.trans e.symm)), i2, atK_nil, atK_cons]
   by_cases hp : key y = p
   ·rw [if_pos hp, if_pos hp]; rfl
   rw [if_neg hp, if_neg hp]
  ·obtain ⟨i1, i2⟩ := ih d [] (by simp at hl ⊢; omega) hd.tail he
   have far : ∀ z ∈ joinK key idle comb n d [], cB (key x) (key z) < 0 := fun z hz => by
    rcases joinK_key hk n _ _ z hz with ⟨w, hw, h⟩ | ⟨w, hw, _⟩
    ·rw [h]; exact hd.head w hw
    cases hw
   refine ⟨i1.put far, fun p => ?_⟩
   show atK key ((if idle x = true then [] else [x]) ++ _) p = _
   rw [atK_put _ _ _ (fun hp => atK_none.2 fun z hz e => cB_ne (far z hz) (hp.trans e.symm)), i2, atK_nil, atK_cons]
   by_cases hp : key x = p
   ·rw [if_pos hp, if_pos hp]; rfl
   rw [if_neg hp, if_neg hp]
  unfold joinK
  dsimp only
  rcases Int.lt_trichotomy (cB (key x) (key y)) 0 with c | c | c
  ·rw [if_pos c]
   obtain ⟨i1, i2⟩ := ih d (y :: e) (by simp at hl ⊢; omega) hd.tail he
   have far : ∀ z ∈ joinK key idle comb n d (y :: e), cB (key x) (key z) < 0 := fun z hz => by
    rcases joinK_key hk n _ _ z hz with ⟨w, hw, h⟩ | ⟨w, hw, h⟩
    ·rw [h]; exact hd.head w hw
    rw [h]
    rcases List.mem_cons.1 hw with rfl | hw
    ·exact c
    exact cB_trans c (he.head w hw)
   refine ⟨i1.put far, fun p => ?_⟩
   rw [atK_put _ _ _ (fun hp => atK_none.2 fun z hz e => cB_ne (far z hz) (hp.trans e.symm)), i2, atK_cons x]
   by_cases hp : key x = p
   ·rw [if_pos hp, if_pos hp, ← hp, he.below c]; rfl
   rw [if_neg hp, if_neg hp]
  ·rw [if_neg (by omega), if_neg (by omega)]
   have e0 := cB_eq c
   obtain ⟨i1, i2⟩ := ih d e (by simp at hl ⊢; omega) hd.tail he.tail
   have far : ∀ z ∈ joinK key idle comb n d e, cB (key (comb x y)) (key z) < 0 := fun z hz => by
    rw [hk]
    rcases joinK_key hk n _ _ z hz with ⟨w, hw, h⟩ | ⟨w, hw, h⟩
    ·rw [h]; exact hd.head w hw
    rw [h, e0]; exact he.head w hw
   refine ⟨i1.put far, fun p => ?_⟩
   rw [atK_put _ _ _ (fun hp => atK_none.2 fun z hz e => cB_ne (far z hz) (hp.trans e.symm)), i2, atK_cons x, atK_cons y, hk]
   by_cases hp : key x = p
   ·rw [if_pos hp, if_pos hp, if_pos (e0 ▸ hp)]; rfl
   rw [if_neg hp, if_neg hp, if_neg (fun h => hp (e0.trans h))]
  rw [if_neg (by omega), if_pos c]
  have c' : cB (key y) (key x) < 0 := by have := cB_neg (key x) (key y); omega
  obtain ⟨i1, i2⟩ := ih (x :: d) e (by simp at hl ⊢; omega) hd he.tail
  have far : ∀ z ∈ joinK key idle comb n (x :: d) e, cB (key y) (key z) < 0 := fun z hz => by
   rcases joinK_key hk n _ _ z hz with ⟨w, hw, h⟩ | ⟨w, hw, h⟩
   ·rw [h]
    rcases List.mem_cons.1 hw with rfl | hw
    ·exact c'
    exact cB_trans c' (hd.head w hw)
   rw [h]; exact he.head w hw
  refine ⟨i1.put far, fun p => ?_⟩
  rw [atK_put _ _ _ (fun hp => atK_none.2 fun z hz e => cB_ne (far z hz) (hp.trans e.symm)), i2, atK_cons y]
  by_cases hp : key y = p
  ·rw [if_pos hp, if_pos hp, ← hp, hd.below c']; rfl
  rw [if_neg hp, if_neg hp]
end
end Go.Proofs.YtehfogjibhnabaaGreatDoor.PAll
