/- Layer 6: joined: its walk. -/
import Derived.Test.YtehfogjibhnabaaGreatDoorDtPAllx0
import Derived.Test.YtehfogjibhnabaaGreatDoorDtPAlly13
import Derived.Test.YtehfogjibhnabaaGreatDoorDtPAlly15
import Derived.Test.YtehfogjibhnabaaGreatDoorDtHandA
import Derived.Test.YtehfogjibhnabaaGreatDoorDtPAlly3
import Derived.WalkKit
import Derived.BigQuiet
import Derived.Outline
import Derived.Sort.Grow
import Derived.Shelf.SlSortCmp.QuietGrown
import Derived.Lib.SliceRun
namespace Go.Proofs.YtehfogjibhnabaaGreatDoor.PAll
open Go.RowKit Go.Sort Go.Proofs.YtehfogjibhnabaaGreatDoorW.PrintWords Go.Proofs.YtehfogjibhnabaaGreatDoorW.PrintLast Go.Proofs.YtehfogjibhnabaaGreatDoorW.PrintMore
open Go.Proofs.YtehfogjibhnabaaGreatDoor.Sp
def delta_joined.f (_k : Nat) (d e : List S45) (_a2 : Bool) : Option (List S45) := if (d.length ≤ 4194304 ∧ e.length ≤ 4194304) ∧ FitsD d ∧ FitsD e then some (joinK S45.f0 idleC outerC (d.length + e.length) d e) else none
theorem delta_joined.mono : ∀ a0 a1 a2 k, LeO (delta_joined.f k a0 a1 a2) (delta_joined.f (k + 1) a0 a1 a2) := fun _ _ _ _ => LeO.refl _
theorem cut61 {A : Option Addr} {c : Nat} {x : S45} {l : List S45} {w : World} (hr : Kd.C k45 w A (x :: l).length (x :: l)) (hc : (x :: l).length ≤ c) : ∃ A' : Option Addr, (∀ W : World, (Instr.slice 23 (.slice A (l.length + 1) c) (some (.int .i64 1)) none none).run Tryz.prog W = .ok (.slice A' l.length (c - 1)) W) ∧ Kd.C k45 w A' l.length l := by
 obtain ⟨i0, hi, hz⟩ := Option.map_eq_some_iff.1 info45
 simp only [Prod.mk.injEq] at hz
 refine ⟨_, fun W => ?_, Kd.C_drop (m := 1) hr (by simp) hc⟩
 have h := cut_from (P := Tryz.prog) 23 45 .i64 Tryz.underlying23 hi 11 hz.2.1 A (l.length + 1) c 1 (by decide) (by omega) W
 rw [h]
 rfl
theorem froz_new {W : World} {g : Nat} {cs : Array Value} {t : TypeId} (h : W.heap[g]? = some (.cells cs t (0, 0))) (k : Nat) : W.frozen? ⟨g, k, none⟩ = false := by
 simp [World.frozen?, h]
theorem cell_grown {W : World} {a : Addr} {v : Value} (h : W.cell? a = some v) (n : Nat) (os : Array Obj) : (grow (W.drewN n) os).cell? a = some v := by
 have hlt := World.block_lt_of_cell? W a h
 rw [← h]
 exact World.cell?_of_block (heap_grow_old (W.drewN n) os hlt)
theorem head61 {A : Option Addr} {x : S45} {l : List S45} {w : World} (hr : Kd.C k45 w A (x :: l).length (x :: l)) : ∃ ad, A = some ad ∧ w.cell? ad = some (.string x.f0) ∧ w.cell? ⟨ad.block, ad.off + 1, none⟩ = some (.bool x.f1) ∧ w.cell? ⟨ad.block, ad.off + 2, none⟩ = some (.bool x.f2) ∧ w.cell? ⟨ad.block, ad.off + 3, none⟩ = some (.string x.f3.f0) ∧ w.cell? ⟨ad.block, ad.off + 4, none⟩ = some (.string x.f3.f1) ∧ w.cell? ⟨ad.block, ad.off + 5, none⟩ = some (.int .i64 x.f3.f2) ∧ w.cell? ⟨ad.block, ad.off + 6, none⟩ = some (.int .i64 x.f3.f3) ∧ w.cell? ⟨ad.block, ad.off + 7, none⟩ = some (.string x.f4.f0) ∧ w.cell? ⟨ad.block, ad.off + 8, none⟩ = some (.string x.f4.f1) ∧ w.cell? ⟨ad.block, ad.off + 9, none⟩ = some (.int .i64 x.f4.f2) ∧ w.cell? ⟨ad.block, ad.off + 10, none⟩ = some (.int .i64 x.f4.f3) := by
 obtain ⟨ad, e1, h⟩ := at_T45 hr 0 (by decide) (by simp)
 rw [show rd_T45 (x :: l) 0 = x from rfl] at h
 have ha : ad.add ((0 : Int).toNat * 11) = ad := by cases ad; simp [Addr.add]
 rw [ha] at h
 exact ⟨ad, e1, h⟩
set_option maxHeartbeats 4000000 in
set_option maxRecDepth 100000 in
theorem delta_joined.walk (A0 : Option Addr) (c0 : Nat) (l0 : List S45) (A1 : Option Addr) (c1 : Nat) (l1 : List S45) (w : World) (hr0 : Kd.C k45 w A0 l0.length l0) (hc0 : l0.length ≤ c0) (hr1 : Kd.C k45 w A1 l1.length l1) (hc1 : l1.length ≤ c1) (hl0 : l0.length ≤ 4194304) (hl1 : l1.length ≤ 4194304) (hf0 : FitsD l0) (hf1 : FitsD l1) :
  Calls Tryz.prog 28 #[.slice A0 l0.length c0, .slice A1 l1.length c1, .func (.func 29) #[] #[]] w fun e w' => ∃ v0_ : Value, e = .returned (v0_) ∧ Kd.R k45 45 w' w.heap.size (fun k_ => (w.heap.size ≤ k_)) v0_ (joinK S45.f0 idleC outerC (l0.length + l1.length) l0 l1) ∧ Below w.heap.size w w' := by
 obtain ⟨res, hres⟩ : ∃ res, res = joinK S45.f0 idleC outerC (l0.length + l1.length) l0 l1 := ⟨_, rfl⟩
 rw [← hres]
 have HC0 := Aside0.mk hr0
 have HC1 := Aside0.mk hr1
 have HF0 := Aside0.mk hf0
 have HF1 := Aside0.mk hf1
 have RES := Aside0.mk hres
 clear hr0 hr1 hf0 hf1 hres
 go_enter Tryz.func28, Tryz.ntmps28
 go_wp2
 go_loopg [0, 1, 7, 8, 9] (l0.length + l1.length) (fun gg s0 s1 s7 _ _ wr => ∃ (Ad : Option Addr) (cd : Nat) (d : List S45) (Ae : Option Addr) (ce : Nat) (e : List S45) (n : Nat) (out : List S45), s0 = .slice Ad d.length cd ∧ s1 = .slice Ae e.length ce ∧ d.length ≤ cd ∧ e.length ≤ ce ∧ d.length + e.length ≤ gg ∧ d.length + e.length ≤ n ∧ out.length + d.length + e.length ≤ l0.length + l1.length ∧ Aside0 (Kd.C k45 w Ad d.length d) ∧ Aside0 (Kd.C k45 w Ae e.length e) ∧ Aside0 (Kd.R k45 45 wr w.heap.size (fun k => w.heap.size ≤ k) s7 out) ∧ Aside0 (res = out ++ joinK S45.f0 idleC outerC n d e) ∧ Aside0 (Below w.heap.size w wr) ∧ Aside0 (FitsD d) ∧ Aside0 (FitsD e))
 case atStart => exact ⟨A0, c0, l0, A1, c1, l1, l0.length + l1.length, [], rfl, rfl, hc0, hc1, Nat.le_refl _, Nat.le_refl _, by simp, HC0, HC1, ⟨Kd.R_nil _ _ _ _ _⟩, ⟨by rw [List.nil_append]; exact RES.out⟩, ⟨Below.refl _ _⟩, HF0, HF1⟩
 case round =>
  clear HC0 HC1 HF0 HF1 RES hc0 hc1
  obtain ⟨Ad, cd, d, Ae, ce, e, n, out, rfl, rfl, hcd, hce, hg, hn, hol, CD, CE, RO, RS, BW, FD, FE⟩ := hrel
  cases d with
  | nil =>
   cases e with
   | nil =>
    go_wp2
    go_ret
    refine ⟨_, rfl, ?_, BW.out⟩
    have h := RS.out
    rw [show joinK S45.f0 idleC outerC n [] [] = [] by cases n <;> rfl, List.append_nil] at h
    rw [h]
    exact RO.out
   | cons y e =>
    obtain ⟨Ae', cute, CE'⟩ := cut61 CE.out hce
    obtain ⟨adk, e1, k0, k1, k2, k3, k4, k5, k6, k7, k8, k9, k10⟩ := head61 (Kd.C_below CE.out BW.out)
    subst e1
    go_wp2_with fail
    have kg0 := fun o => Lib.cell?_alloc_some (W := wr) o k0
    have kg1 := fun o => Lib.cell?_alloc_some (W := wr) o k1
    have kg2 := fun o => Lib.cell?_alloc_some (W := wr) o k2
    have kg3 := fun o => Lib.cell?_alloc_some (W := wr) o k3
    have kg4 := fun o => Lib.cell?_alloc_some (W := wr) o k4
    have kg5 := fun o => Lib.cell?_alloc_some (W := wr) o k5
    have kg6 := fun o => Lib.cell?_alloc_some (W := wr) o k6
    have kg7 := fun o => Lib.cell?_alloc_some (W := wr) o k7
    have kg8 := fun o => Lib.cell?_alloc_some (W := wr) o k8
    have kg9 := fun o => Lib.cell?_alloc_some (W := wr) o k9
    have kg10 := fun o => Lib.cell?_alloc_some (W := wr) o k10
    clear k0 k1 k2 k3 k4 k5 k6 k7 k8 k9 k10
    go_region
    clear kg0 kg1 kg2 kg3 kg4 kg5 kg6 kg7 kg8 kg9 kg10 cute
    go_wp2_with fail
    refine (delta_idle.calls (y.f0) (y.f1) (y.f2) (y.f3.f0) (y.f3.f1) (y.f3.f2) (y.f3.f3) (y.f4.f0) (y.f4.f1) (y.f4.f2) (y.f4.f3) (idleC y) _ (idle_is y)).mono ?_
    rintro ei w5 ⟨rfl, hb⟩
    have hsz : wr.heap.size < w5.heap.size := by have := hb.size; simp at this; omega
    have z0 : w5.cell? ⟨wr.heap.size, 0, none⟩ = some (.string (y.f0)) := (hb.cell (p := ⟨wr.heap.size, 0, none⟩) (by simp)).trans (cell_new wr _ _ 0)
    have z1 : w5.cell? ⟨wr.heap.size, 1, none⟩ = some (.bool (y.f1)) := (hb.cell (p := ⟨wr.heap.size, 1, none⟩) (by simp)).trans (cell_new wr _ _ 1)
    have z2 : w5.cell? ⟨wr.heap.size, 2, none⟩ = some (.bool (y.f2)) := (hb.cell (p := ⟨wr.heap.size, 2, none⟩) (by simp)).trans (cell_new wr _ _ 2)
    have z3 : w5.cell? ⟨wr.heap.size, 3, none⟩ = some (.string (y.f3.f0)) := (hb.cell (p := ⟨wr.heap.size, 3, none⟩) (by simp)).trans (cell_new wr _ _ 3)
    have z4 : w5.cell? ⟨wr.heap.size, 4, none⟩ = some (.string (y.f3.f1)) := (hb.cell (p := ⟨wr.heap.size, 4, none⟩) (by simp)).trans (cell_new wr _ _ 4)
    have z5 : w5.cell? ⟨wr.heap.size, 5, none⟩ = some (.int .i64 (y.f3.f2)) := (hb.cell (p := ⟨wr.heap.size, 5, none⟩) (by simp)).trans (cell_new wr _ _ 5)
    have z6 : w5.cell? ⟨wr.heap.size, 6, none⟩ = some (.int .i64 (y.f3.f3)) := (hb.cell (p := ⟨wr.heap.size, 6, none⟩) (by simp)).trans (cell_new wr _ _ 6)
    have z7 : w5.cell? ⟨wr.heap.size, 7, none⟩ = some (.string (y.f4.f0)) := (hb.cell (p := ⟨wr.heap.size, 7, none⟩) (by simp)).trans (cell_new wr _ _ 7)
    have z8 : w5.cell? ⟨wr.heap.size, 8, none⟩ = some (.string (y.f4.f1)) := (hb.cell (p := ⟨wr.heap.size, 8, none⟩) (by simp)).trans (cell_new wr _ _ 8)
    have z9 : w5.cell? ⟨wr.heap.size, 9, none⟩ = some (.int .i64 (y.f4.f2)) := (hb.cell (p := ⟨wr.heap.size, 9, none⟩) (by simp)).trans (cell_new wr _ _ 9)
    have z10 : w5.cell? ⟨wr.heap.size, 10, none⟩ = some (.int .i64 (y.f4.f3)) := (hb.cell (p := ⟨wr.heap.size, 10, none⟩) (by simp)).trans (cell_new wr _ _ 10)
    have B5 : Aside0 (RowKit.Below wr.heap.size wr w5) := ⟨⟨hb.os, hb.tape, hb.output, by omega, fun k hk => (hb.block k (by simp; omega)).trans ((World.grownBy_alloc wr _ none).block k hk (by simp))⟩⟩
    have BW5 := Aside0.mk (below_then BW.out BW.out.size B5.out)
    have RO5 := Aside0.mk (Kd.R_below RO.out B5.out)
    clear hb hsz
    have hn1 : ∃ m, n = m + 1 := ⟨n - 1, by simp at hn; omega⟩
    obtain ⟨m, rfl⟩ := hn1
    have RS1 : Aside0 (res = out ++ ((if idleC y = true then [] else [y]) ++ joinK S45.f0 idleC outerC m [] e)) := ⟨by rw [RS.out]; rfl⟩
    cases hid : idleC y with
    | true =>
     rw [hid] at RS1
     go_wp2
     go_roundg (([] : List S45).length + (e : List S45).length)
     case measure => simp at hg ⊢; omega
     case rel =>
      refine ⟨Ad, cd, [], Ae', (ce - 1), e, m, out, rfl, rfl, hcd, by simp at hce; omega, by omega, by simp at hn ⊢; omega, by simp at hol ⊢; omega, CD, ⟨CE'⟩, RO5, ⟨?_⟩, BW5, FD, ⟨fun c hc => FE.out c (List.mem_cons_of_mem _ hc)⟩⟩
      have h := RS1.out
      simpa using h
    | false =>
     rw [hid] at RS1
     go_wp2_with (first
      | ((with_reducible refine gate_builtin (b := .append) (xs := #[.tmp 66, .tmp 68]) rfl ?_); at_builtin; refine Kd.R_append k45 (w0 := w) w.heap.size rfl (.tmp 66) (.tmp 68) 23 45 (.agg #[(.string ⟨#[]⟩), (.bool false), (.bool false), (.string ⟨#[]⟩), (.string ⟨#[]⟩), (.int .i64 0), (.int .i64 0), (.string ⟨#[]⟩), (.string ⟨#[]⟩), (.int .i64 0), (.int .i64 0)]) 120 rfl Tryz.underlying23 info45 rfl (by decide) (by omega) u7 out (y) [.string (y.f0), .bool (y.f1), .bool (y.f2), .string (y.f3.f0), .string (y.f3.f1), .int .i64 (y.f3.f2), .int .i64 (y.f3.f3), .string (y.f4.f0), .string (y.f4.f1), .int .i64 (y.f4.f2), .int .i64 (y.f4.f3)] (fun k => w.heap.size ≤ k) (fun _ => False) rfl (by first | (go_simp; done) | (go_simp; rfl)) (k45_mkM _ _ _ (y)) (fun _ h => h.elim) (fun k hk => Nat.le_trans BW5.out.size hk) RO5.out BW5.out BW5.out.size (by simp at hol; omega) ?_; intro v6 w6 ho hb hgr hat; have R6 := Aside0.mk ho; have B6 := Aside0.mk hb; clear ho hb hgr hat)
      | fail)
     go_roundg (([] : List S45).length + (e : List S45).length)
     case measure => simp at hg ⊢; omega
     case rel =>
      refine ⟨Ad, cd, [], Ae', (ce - 1), e, m, (out ++ [y]), rfl, rfl, hcd, by simp at hce; omega, by omega, by simp at hn ⊢; omega, by simp at hol ⊢; omega, CD, ⟨CE'⟩, R6, ⟨?_⟩, B6, FD, ⟨fun c hc => FE.out c (List.mem_cons_of_mem _ hc)⟩⟩
      have h := RS1.out
      simpa using h
  | cons x d =>
   obtain ⟨Ad', cutd, CD'⟩ := cut61 CD.out hcd
   cases e with
   | nil =>
    obtain ⟨adh, e1, h0, h1, h2, h3, h4, h5, h6, h7, h8, h9, h10⟩ := head61 (Kd.C_below CD.out BW.out)
    subst e1
    go_wp2_with fail
    have hg0 := fun o => Lib.cell?_alloc_some (W := wr) o h0
    have hg1 := fun o => Lib.cell?_alloc_some (W := wr) o h1
    have hg2 := fun o => Lib.cell?_alloc_some (W := wr) o h2
    have hg3 := fun o => Lib.cell?_alloc_some (W := wr) o h3
    have hg4 := fun o => Lib.cell?_alloc_some (W := wr) o h4
    have hg5 := fun o => Lib.cell?_alloc_some (W := wr) o h5
    have hg6 := fun o => Lib.cell?_alloc_some (W := wr) o h6
    have hg7 := fun o => Lib.cell?_alloc_some (W := wr) o h7
    have hg8 := fun o => Lib.cell?_alloc_some (W := wr) o h8
    have hg9 := fun o => Lib.cell?_alloc_some (W := wr) o h9
    have hg10 := fun o => Lib.cell?_alloc_some (W := wr) o h10
    clear h0 h1 h2 h3 h4 h5 h6 h7 h8 h9 h10
    go_region
    clear hg0 hg1 hg2 hg3 hg4 hg5 hg6 hg7 hg8 hg9 hg10 cutd
    go_wp2_with fail
    refine (delta_idle.calls (x.f0) (x.f1) (x.f2) (x.f3.f0) (x.f3.f1) (x.f3.f2) (x.f3.f3) (x.f4.f0) (x.f4.f1) (x.f4.f2) (x.f4.f3) (idleC x) _ (idle_is x)).mono ?_
    rintro ei w5 ⟨rfl, hb⟩
    have hsz : wr.heap.size < w5.heap.size := by have := hb.size; simp at this; omega
    have z0 : w5.cell? ⟨wr.heap.size, 0, none⟩ = some (.string (x.f0)) := (hb.cell (p := ⟨wr.heap.size, 0, none⟩) (by simp)).trans (cell_new wr _ _ 0)
    have z1 : w5.cell? ⟨wr.heap.size, 1, none⟩ = some (.bool (x.f1)) := (hb.cell (p := ⟨wr.heap.size, 1, none⟩) (by simp)).trans (cell_new wr _ _ 1)
    have z2 : w5.cell? ⟨wr.heap.size, 2, none⟩ = some (.bool (x.f2)) := (hb.cell (p := ⟨wr.heap.size, 2, none⟩) (by simp)).trans (cell_new wr _ _ 2)
    have z3 : w5.cell? ⟨wr.heap.size, 3, none⟩ = some (.string (x.f3.f0)) := (hb.cell (p := ⟨wr.heap.size, 3, none⟩) (by simp)).trans (cell_new wr _ _ 3)
    have z4 : w5.cell? ⟨wr.heap.size, 4, none⟩ = some (.string (x.f3.f1)) := (hb.cell (p := ⟨wr.heap.size, 4, none⟩) (by simp)).trans (cell_new wr _ _ 4)
    have z5 : w5.cell? ⟨wr.heap.size, 5, none⟩ = some (.int .i64 (x.f3.f2)) := (hb.cell (p := ⟨wr.heap.size, 5, none⟩) (by simp)).trans (cell_new wr _ _ 5)
    have z6 : w5.cell? ⟨wr.heap.size, 6, none⟩ = some (.int .i64 (x.f3.f3)) := (hb.cell (p := ⟨wr.heap.size, 6, none⟩) (by simp)).trans (cell_new wr _ _ 6)
    have z7 : w5.cell? ⟨wr.heap.size, 7, none⟩ = some (.string (x.f4.f0)) := (hb.cell (p := ⟨wr.heap.size, 7, none⟩) (by simp)).trans (cell_new wr _ _ 7)
    have z8 : w5.cell? ⟨wr.heap.size, 8, none⟩ = some (.string (x.f4.f1)) := (hb.cell (p := ⟨wr.heap.size, 8, none⟩) (by simp)).trans (cell_new wr _ _ 8)
    have z9 : w5.cell? ⟨wr.heap.size, 9, none⟩ = some (.int .i64 (x.f4.f2)) := (hb.cell (p := ⟨wr.heap.size, 9, none⟩) (by simp)).trans (cell_new wr _ _ 9)
    have z10 : w5.cell? ⟨wr.heap.size, 10, none⟩ = some (.int .i64 (x.f4.f3)) := (hb.cell (p := ⟨wr.heap.size, 10, none⟩) (by simp)).trans (cell_new wr _ _ 10)
    have B5 : Aside0 (RowKit.Below wr.heap.size wr w5) := ⟨⟨hb.os, hb.tape, hb.output, by omega, fun k hk => (hb.block k (by simp; omega)).trans ((World.grownBy_alloc wr _ none).block k hk (by simp))⟩⟩
    have BW5 := Aside0.mk (below_then BW.out BW.out.size B5.out)
    have RO5 := Aside0.mk (Kd.R_below RO.out B5.out)
    clear hb hsz
    have hn1 : ∃ m, n = m + 1 := ⟨n - 1, by simp at hn; omega⟩
    obtain ⟨m, rfl⟩ := hn1
    have RS1 : Aside0 (res = out ++ ((if idleC x = true then [] else [x]) ++ joinK S45.f0 idleC outerC m d [])) := ⟨by rw [RS.out]; rfl⟩
    cases hid : idleC x with
    | true =>
     rw [hid] at RS1
     go_wp2
     go_roundg ((d : List S45).length + ([] : List S45).length)
     case measure => simp at hg ⊢; omega
     case rel =>
      refine ⟨Ad', (cd - 1), d, Ae, ce, [], m, out, rfl, rfl, by simp at hcd; omega, hce, by omega, by simp at hn ⊢; omega, by simp at hol ⊢; omega, ⟨CD'⟩, CE, RO5, ⟨?_⟩, BW5, ⟨fun c hc => FD.out c (List.mem_cons_of_mem _ hc)⟩, FE⟩
      have h := RS1.out
      simpa using h
    | false =>
     rw [hid] at RS1
     go_wp2_with (first
      | ((with_reducible refine gate_builtin (b := .append) (xs := #[.tmp 66, .tmp 68]) rfl ?_); at_builtin; refine Kd.R_append k45 (w0 := w) w.heap.size rfl (.tmp 66) (.tmp 68) 23 45 (.agg #[(.string ⟨#[]⟩), (.bool false), (.bool false), (.string ⟨#[]⟩), (.string ⟨#[]⟩), (.int .i64 0), (.int .i64 0), (.string ⟨#[]⟩), (.string ⟨#[]⟩), (.int .i64 0), (.int .i64 0)]) 120 rfl Tryz.underlying23 info45 rfl (by decide) (by omega) u7 out (x) [.string (x.f0), .bool (x.f1), .bool (x.f2), .string (x.f3.f0), .string (x.f3.f1), .int .i64 (x.f3.f2), .int .i64 (x.f3.f3), .string (x.f4.f0), .string (x.f4.f1), .int .i64 (x.f4.f2), .int .i64 (x.f4.f3)] (fun k => w.heap.size ≤ k) (fun _ => False) rfl (by first | (go_simp; done) | (go_simp; rfl)) (k45_mkM _ _ _ (x)) (fun _ h => h.elim) (fun k hk => Nat.le_trans BW5.out.size hk) RO5.out BW5.out BW5.out.size (by simp at hol; omega) ?_; intro v6 w6 ho hb hgr hat; have R6 := Aside0.mk ho; have B6 := Aside0.mk hb; clear ho hb hgr hat)
      | fail)
     go_roundg ((d : List S45).length + ([] : List S45).length)
     case measure => simp at hg ⊢; omega
     case rel =>
      refine ⟨Ad', (cd - 1), d, Ae, ce, [], m, (out ++ [x]), rfl, rfl, by simp at hcd; omega, hce, by omega, by simp at hn ⊢; omega, by simp at hol ⊢; omega, ⟨CD'⟩, CE, R6, ⟨?_⟩, B6, ⟨fun c hc => FD.out c (List.mem_cons_of_mem _ hc)⟩, FE⟩
      have h := RS1.out
      simpa using h
   | cons y e =>
    obtain ⟨Ae', cute, CE'⟩ := cut61 CE.out hce
    obtain ⟨adh, e1, h0, h1, h2, h3, h4, h5, h6, h7, h8, h9, h10⟩ := head61 (Kd.C_below CD.out BW.out)
    subst e1
    clear h1 h2 h3 h4 h5 h6 h7 h8 h9 h10
    have CD2 := CD
    have CE2 := CE
    obtain ⟨adk, e1, k0, k1, k2, k3, k4, k5, k6, k7, k8, k9, k10⟩ := head61 (Kd.C_below CE.out BW.out)
    subst e1
    clear k1 k2 k3 k4 k5 k6 k7 k8 k9 k10
    have sx : x.f0.size < 4294967281 := by have := (FD.out x (List.mem_cons_self ..)).1; omega
    have sy : y.f0.size < 4294967281 := by have := (FE.out y (List.mem_cons_self ..)).1; omega
    go_wp2_with fail
    have hh : ∀ n os, (grow (wr.drewN n) os).cell? adh = some (.string x.f0) := fun n os => cell_grown h0 n os
    have kk : ∀ n os, (grow (wr.drewN n) os).cell? adk = some (.string y.f0) := fun n os => cell_grown k0 n os
    clear h0 k0
    have mixed : Tryz.prog.follows .mixedOrders = true := by kernel_rfl
    go_quiet_grown (first | (go_at_call 24; exact Calls.grown_of (cmp_gr x.f0 y.f0 sx sy _)))
    clear hh kk mixed
    have BQ0 : Aside0 (RowKit.Below wr.heap.size wr (grow (wr.drewN nq) osq)) := ⟨Gr.below ⟨nq, osq, rfl⟩⟩
    generalize grow (wr.drewN nq) osq = wq at BQ0 ⊢
    have BQ := Aside0.mk (below_then BW.out BW.out.size BQ0.out)
    have ROq := Aside0.mk (Kd.R_below RO.out BQ0.out)
    clear BQ0 sx sy
    obtain ⟨cc, hcc⟩ : ∃ cc, cc = cB x.f0 y.f0 := ⟨_, rfl⟩
    rw [← hcc]
    have HCC := Aside0.mk hcc
    clear hcc
    have hj : ∀ m, joinK S45.f0 idleC outerC (m + 1) (x :: d) (y :: e) = if cB x.f0 y.f0 < 0 then (if idleC x = true then [] else [x]) ++ joinK S45.f0 idleC outerC m d (y :: e) else if 0 < cB x.f0 y.f0 then (if idleC y = true then [] else [y]) ++ joinK S45.f0 idleC outerC m (x :: d) e else (if idleC (outerC x y) = true then [] else [outerC x y]) ++ joinK S45.f0 idleC outerC m d e := fun _ => rfl
    have HJ := Aside0.mk hj
    clear hj
    by_cases lt : cc < 0
    ·have HLT := Aside0.mk (show cB x.f0 y.f0 < 0 from HCC.out ▸ lt)
     obtain ⟨adx, e1, h0, h1, h2, h3, h4, h5, h6, h7, h8, h9, h10⟩ := head61 (Kd.C_below CD2.out BQ.out)
     injection e1 with e1
     subst e1
     clear cute
     go_wp2_with fail
     have hg0 := fun o => Lib.cell?_alloc_some (W := wq) o h0
     have hg1 := fun o => Lib.cell?_alloc_some (W := wq) o h1
     have hg2 := fun o => Lib.cell?_alloc_some (W := wq) o h2
     have hg3 := fun o => Lib.cell?_alloc_some (W := wq) o h3
     have hg4 := fun o => Lib.cell?_alloc_some (W := wq) o h4
     have hg5 := fun o => Lib.cell?_alloc_some (W := wq) o h5
     have hg6 := fun o => Lib.cell?_alloc_some (W := wq) o h6
     have hg7 := fun o => Lib.cell?_alloc_some (W := wq) o h7
     have hg8 := fun o => Lib.cell?_alloc_some (W := wq) o h8
     have hg9 := fun o => Lib.cell?_alloc_some (W := wq) o h9
     have hg10 := fun o => Lib.cell?_alloc_some (W := wq) o h10
     clear h0 h1 h2 h3 h4 h5 h6 h7 h8 h9 h10
     go_region
     clear hg0 hg1 hg2 hg3 hg4 hg5 hg6 hg7 hg8 hg9 hg10 cutd
     go_wp2_with fail
     refine (delta_idle.calls (x.f0) (x.f1) (x.f2) (x.f3.f0) (x.f3.f1) (x.f3.f2) (x.f3.f3) (x.f4.f0) (x.f4.f1) (x.f4.f2) (x.f4.f3) (idleC x) _ (idle_is x)).mono ?_
     rintro ei w5 ⟨rfl, hb⟩
     have hsz : wq.heap.size < w5.heap.size := by have := hb.size; simp at this; omega
     have z0 : w5.cell? ⟨wq.heap.size, 0, none⟩ = some (.string (x.f0)) := (hb.cell (p := ⟨wq.heap.size, 0, none⟩) (by simp)).trans (cell_new wq _ _ 0)
     have z1 : w5.cell? ⟨wq.heap.size, 1, none⟩ = some (.bool (x.f1)) := (hb.cell (p := ⟨wq.heap.size, 1, none⟩) (by simp)).trans (cell_new wq _ _ 1)
     have z2 : w5.cell? ⟨wq.heap.size, 2, none⟩ = some (.bool (x.f2)) := (hb.cell (p := ⟨wq.heap.size, 2, none⟩) (by simp)).trans (cell_new wq _ _ 2)
     have z3 : w5.cell? ⟨wq.heap.size, 3, none⟩ = some (.string (x.f3.f0)) := (hb.cell (p := ⟨wq.heap.size, 3, none⟩) (by simp)).trans (cell_new wq _ _ 3)
     have z4 : w5.cell? ⟨wq.heap.size, 4, none⟩ = some (.string (x.f3.f1)) := (hb.cell (p := ⟨wq.heap.size, 4, none⟩) (by simp)).trans (cell_new wq _ _ 4)
     have z5 : w5.cell? ⟨wq.heap.size, 5, none⟩ = some (.int .i64 (x.f3.f2)) := (hb.cell (p := ⟨wq.heap.size, 5, none⟩) (by simp)).trans (cell_new wq _ _ 5)
     have z6 : w5.cell? ⟨wq.heap.size, 6, none⟩ = some (.int .i64 (x.f3.f3)) := (hb.cell (p := ⟨wq.heap.size, 6, none⟩) (by simp)).trans (cell_new wq _ _ 6)
     have z7 : w5.cell? ⟨wq.heap.size, 7, none⟩ = some (.string (x.f4.f0)) := (hb.cell (p := ⟨wq.heap.size, 7, none⟩) (by simp)).trans (cell_new wq _ _ 7)
     have z8 : w5.cell? ⟨wq.heap.size, 8, none⟩ = some (.string (x.f4.f1)) := (hb.cell (p := ⟨wq.heap.size, 8, none⟩) (by simp)).trans (cell_new wq _ _ 8)
     have z9 : w5.cell? ⟨wq.heap.size, 9, none⟩ = some (.int .i64 (x.f4.f2)) := (hb.cell (p := ⟨wq.heap.size, 9, none⟩) (by simp)).trans (cell_new wq _ _ 9)
     have z10 : w5.cell? ⟨wq.heap.size, 10, none⟩ = some (.int .i64 (x.f4.f3)) := (hb.cell (p := ⟨wq.heap.size, 10, none⟩) (by simp)).trans (cell_new wq _ _ 10)
     have B5 : Aside0 (RowKit.Below wq.heap.size wq w5) := ⟨⟨hb.os, hb.tape, hb.output, by omega, fun k hk => (hb.block k (by simp; omega)).trans ((World.grownBy_alloc wq _ none).block k hk (by simp))⟩⟩
     have BW5 := Aside0.mk (below_then BQ.out BQ.out.size B5.out)
     have RO5 := Aside0.mk (Kd.R_below ROq.out B5.out)
     clear hb hsz
     have hn1 : ∃ m, n = m + 1 := ⟨n - 1, by simp at hn; omega⟩
     obtain ⟨m, rfl⟩ := hn1
     have RS1 : Aside0 (res = out ++ ((if idleC x = true then [] else [x]) ++ joinK S45.f0 idleC outerC m d (y :: e))) := ⟨by rw [RS.out]; rw [HJ.out, if_pos HLT.out]⟩
     cases hid : idleC x with
     | true =>
      rw [hid] at RS1
      go_wp2
      go_roundg ((d : List S45).length + ((y :: e) : List S45).length)
      case measure => simp at hg ⊢; omega
      case rel =>
       refine ⟨Ad', (cd - 1), d, (some adk), ce, (y :: e), m, out, rfl, rfl, by simp at hcd; omega, hce, by omega, by simp at hn ⊢; omega, by simp at hol ⊢; omega, ⟨CD'⟩, CE2, RO5, ⟨?_⟩, BW5, ⟨fun c hc => FD.out c (List.mem_cons_of_mem _ hc)⟩, FE⟩
       have h := RS1.out
       simpa using h
     | false =>
      rw [hid] at RS1
      go_wp2_with (first
       | ((with_reducible refine gate_builtin (b := .append) (xs := #[.tmp 66, .tmp 68]) rfl ?_); at_builtin; refine Kd.R_append k45 (w0 := w) w.heap.size rfl (.tmp 66) (.tmp 68) 23 45 (.agg #[(.string ⟨#[]⟩), (.bool false), (.bool false), (.string ⟨#[]⟩), (.string ⟨#[]⟩), (.int .i64 0), (.int .i64 0), (.string ⟨#[]⟩), (.string ⟨#[]⟩), (.int .i64 0), (.int .i64 0)]) 120 rfl Tryz.underlying23 info45 rfl (by decide) (by omega) u7 out (x) [.string (x.f0), .bool (x.f1), .bool (x.f2), .string (x.f3.f0), .string (x.f3.f1), .int .i64 (x.f3.f2), .int .i64 (x.f3.f3), .string (x.f4.f0), .string (x.f4.f1), .int .i64 (x.f4.f2), .int .i64 (x.f4.f3)] (fun k => w.heap.size ≤ k) (fun _ => False) rfl (by first | (go_simp; done) | (go_simp; rfl)) (k45_mkM _ _ _ (x)) (fun _ h => h.elim) (fun k hk => Nat.le_trans BW5.out.size hk) RO5.out BW5.out BW5.out.size (by simp at hol; omega) ?_; intro v6 w6 ho hb hgr hat; have R6 := Aside0.mk ho; have B6 := Aside0.mk hb; clear ho hb hgr hat)
       | fail)
      go_roundg ((d : List S45).length + ((y :: e) : List S45).length)
      case measure => simp at hg ⊢; omega
      case rel =>
       refine ⟨Ad', (cd - 1), d, (some adk), ce, (y :: e), m, (out ++ [x]), rfl, rfl, by simp at hcd; omega, hce, by omega, by simp at hn ⊢; omega, by simp at hol ⊢; omega, ⟨CD'⟩, CE2, R6, ⟨?_⟩, B6, ⟨fun c hc => FD.out c (List.mem_cons_of_mem _ hc)⟩, FE⟩
       have h := RS1.out
       simpa using h
    have HLT := Aside0.mk (show 0 ≤ cB x.f0 y.f0 from HCC.out ▸ Int.not_lt.1 lt)
    by_cases gt : 0 < cc
    ·have HGT := Aside0.mk (show 0 < cB x.f0 y.f0 from HCC.out ▸ gt)
     obtain ⟨adx, e1, k0, k1, k2, k3, k4, k5, k6, k7, k8, k9, k10⟩ := head61 (Kd.C_below CE2.out BQ.out)
     injection e1 with e1
     subst e1
     clear cutd
     go_wp2_with fail
     have kg0 := fun o => Lib.cell?_alloc_some (W := wq) o k0
     have kg1 := fun o => Lib.cell?_alloc_some (W := wq) o k1
     have kg2 := fun o => Lib.cell?_alloc_some (W := wq) o k2
     have kg3 := fun o => Lib.cell?_alloc_some (W := wq) o k3
     have kg4 := fun o => Lib.cell?_alloc_some (W := wq) o k4
     have kg5 := fun o => Lib.cell?_alloc_some (W := wq) o k5
     have kg6 := fun o => Lib.cell?_alloc_some (W := wq) o k6
     have kg7 := fun o => Lib.cell?_alloc_some (W := wq) o k7
     have kg8 := fun o => Lib.cell?_alloc_some (W := wq) o k8
     have kg9 := fun o => Lib.cell?_alloc_some (W := wq) o k9
     have kg10 := fun o => Lib.cell?_alloc_some (W := wq) o k10
     clear k0 k1 k2 k3 k4 k5 k6 k7 k8 k9 k10
     go_region
     clear kg0 kg1 kg2 kg3 kg4 kg5 kg6 kg7 kg8 kg9 kg10 cute
     go_wp2_with fail
     refine (delta_idle.calls (y.f0) (y.f1) (y.f2) (y.f3.f0) (y.f3.f1) (y.f3.f2) (y.f3.f3) (y.f4.f0) (y.f4.f1) (y.f4.f2) (y.f4.f3) (idleC y) _ (idle_is y)).mono ?_
     rintro ei w5 ⟨rfl, hb⟩
     have hsz : wq.heap.size < w5.heap.size := by have := hb.size; simp at this; omega
     have z0 : w5.cell? ⟨wq.heap.size, 0, none⟩ = some (.string (y.f0)) := (hb.cell (p := ⟨wq.heap.size, 0, none⟩) (by simp)).trans (cell_new wq _ _ 0)
     have z1 : w5.cell? ⟨wq.heap.size, 1, none⟩ = some (.bool (y.f1)) := (hb.cell (p := ⟨wq.heap.size, 1, none⟩) (by simp)).trans (cell_new wq _ _ 1)
     have z2 : w5.cell? ⟨wq.heap.size, 2, none⟩ = some (.bool (y.f2)) := (hb.cell (p := ⟨wq.heap.size, 2, none⟩) (by simp)).trans (cell_new wq _ _ 2)
     have z3 : w5.cell? ⟨wq.heap.size, 3, none⟩ = some (.string (y.f3.f0)) := (hb.cell (p := ⟨wq.heap.size, 3, none⟩) (by simp)).trans (cell_new wq _ _ 3)
     have z4 : w5.cell? ⟨wq.heap.size, 4, none⟩ = some (.string (y.f3.f1)) := (hb.cell (p := ⟨wq.heap.size, 4, none⟩) (by simp)).trans (cell_new wq _ _ 4)
     have z5 : w5.cell? ⟨wq.heap.size, 5, none⟩ = some (.int .i64 (y.f3.f2)) := (hb.cell (p := ⟨wq.heap.size, 5, none⟩) (by simp)).trans (cell_new wq _ _ 5)
     have z6 : w5.cell? ⟨wq.heap.size, 6, none⟩ = some (.int .i64 (y.f3.f3)) := (hb.cell (p := ⟨wq.heap.size, 6, none⟩) (by simp)).trans (cell_new wq _ _ 6)
     have z7 : w5.cell? ⟨wq.heap.size, 7, none⟩ = some (.string (y.f4.f0)) := (hb.cell (p := ⟨wq.heap.size, 7, none⟩) (by simp)).trans (cell_new wq _ _ 7)
     have z8 : w5.cell? ⟨wq.heap.size, 8, none⟩ = some (.string (y.f4.f1)) := (hb.cell (p := ⟨wq.heap.size, 8, none⟩) (by simp)).trans (cell_new wq _ _ 8)
     have z9 : w5.cell? ⟨wq.heap.size, 9, none⟩ = some (.int .i64 (y.f4.f2)) := (hb.cell (p := ⟨wq.heap.size, 9, none⟩) (by simp)).trans (cell_new wq _ _ 9)
     have z10 : w5.cell? ⟨wq.heap.size, 10, none⟩ = some (.int .i64 (y.f4.f3)) := (hb.cell (p := ⟨wq.heap.size, 10, none⟩) (by simp)).trans (cell_new wq _ _ 10)
     have B5 : Aside0 (RowKit.Below wq.heap.size wq w5) := ⟨⟨hb.os, hb.tape, hb.output, by omega, fun k hk => (hb.block k (by simp; omega)).trans ((World.grownBy_alloc wq _ none).block k hk (by simp))⟩⟩
     have BW5 := Aside0.mk (below_then BQ.out BQ.out.size B5.out)
     have RO5 := Aside0.mk (Kd.R_below ROq.out B5.out)
     clear hb hsz
     have hn1 : ∃ m, n = m + 1 := ⟨n - 1, by simp at hn; omega⟩
     obtain ⟨m, rfl⟩ := hn1
     have RS1 : Aside0 (res = out ++ ((if idleC y = true then [] else [y]) ++ joinK S45.f0 idleC outerC m (x :: d) e)) := ⟨by rw [RS.out]; rw [HJ.out, if_neg (Int.not_lt.2 HLT.out), if_pos HGT.out]⟩
     cases hid : idleC y with
     | true =>
      rw [hid] at RS1
      go_wp2
      go_roundg (((x :: d) : List S45).length + (e : List S45).length)
      case measure => simp at hg ⊢; omega
      case rel =>
       refine ⟨(some adh), cd, (x :: d), Ae', (ce - 1), e, m, out, rfl, rfl, hcd, by simp at hce; omega, by omega, by simp at hn ⊢; omega, by simp at hol ⊢; omega, CD2, ⟨CE'⟩, RO5, ⟨?_⟩, BW5, FD, ⟨fun c hc => FE.out c (List.mem_cons_of_mem _ hc)⟩⟩
       have h := RS1.out
       simpa using h
     | false =>
      rw [hid] at RS1
      go_wp2_with (first
       | ((with_reducible refine gate_builtin (b := .append) (xs := #[.tmp 66, .tmp 68]) rfl ?_); at_builtin; refine Kd.R_append k45 (w0 := w) w.heap.size rfl (.tmp 66) (.tmp 68) 23 45 (.agg #[(.string ⟨#[]⟩), (.bool false), (.bool false), (.string ⟨#[]⟩), (.string ⟨#[]⟩), (.int .i64 0), (.int .i64 0), (.string ⟨#[]⟩), (.string ⟨#[]⟩), (.int .i64 0), (.int .i64 0)]) 120 rfl Tryz.underlying23 info45 rfl (by decide) (by omega) u7 out (y) [.string (y.f0), .bool (y.f1), .bool (y.f2), .string (y.f3.f0), .string (y.f3.f1), .int .i64 (y.f3.f2), .int .i64 (y.f3.f3), .string (y.f4.f0), .string (y.f4.f1), .int .i64 (y.f4.f2), .int .i64 (y.f4.f3)] (fun k => w.heap.size ≤ k) (fun _ => False) rfl (by first | (go_simp; done) | (go_simp; rfl)) (k45_mkM _ _ _ (y)) (fun _ h => h.elim) (fun k hk => Nat.le_trans BW5.out.size hk) RO5.out BW5.out BW5.out.size (by simp at hol; omega) ?_; intro v6 w6 ho hb hgr hat; have R6 := Aside0.mk ho; have B6 := Aside0.mk hb; clear ho hb hgr hat)
       | fail)
      go_roundg (((x :: d) : List S45).length + (e : List S45).length)
      case measure => simp at hg ⊢; omega
      case rel =>
       refine ⟨(some adh), cd, (x :: d), Ae', (ce - 1), e, m, (out ++ [y]), rfl, rfl, hcd, by simp at hce; omega, by omega, by simp at hn ⊢; omega, by simp at hol ⊢; omega, CD2, ⟨CE'⟩, R6, ⟨?_⟩, B6, FD, ⟨fun c hc => FE.out c (List.mem_cons_of_mem _ hc)⟩⟩
       have h := RS1.out
       simpa using h
    have HGT := Aside0.mk (show cB x.f0 y.f0 ≤ 0 from HCC.out ▸ Int.not_lt.1 gt)
    have hc0 : cc = 0 := by omega
    subst hc0
    obtain ⟨adx, e1, h0, h1, h2, h3, h4, h5, h6, h7, h8, h9, h10⟩ := head61 (Kd.C_below CD2.out BQ.out)
    injection e1 with e1
    subst e1
    obtain ⟨adx, e1, k0, k1, k2, k3, k4, k5, k6, k7, k8, k9, k10⟩ := head61 (Kd.C_below CE2.out BQ.out)
    injection e1 with e1
    subst e1
    go_wp2_with fail
    have hg0 := fun o => Lib.cell?_alloc_some (W := wq) o h0
    have hg1 := fun o => Lib.cell?_alloc_some (W := wq) o h1
    have hg2 := fun o => Lib.cell?_alloc_some (W := wq) o h2
    have hg3 := fun o => Lib.cell?_alloc_some (W := wq) o h3
    have hg4 := fun o => Lib.cell?_alloc_some (W := wq) o h4
    have hg5 := fun o => Lib.cell?_alloc_some (W := wq) o h5
    have hg6 := fun o => Lib.cell?_alloc_some (W := wq) o h6
    have hg7 := fun o => Lib.cell?_alloc_some (W := wq) o h7
    have hg8 := fun o => Lib.cell?_alloc_some (W := wq) o h8
    have hg9 := fun o => Lib.cell?_alloc_some (W := wq) o h9
    have hg10 := fun o => Lib.cell?_alloc_some (W := wq) o h10
    clear h0 h1 h2 h3 h4 h5 h6 h7 h8 h9 h10
    have kg0 := fun o => Lib.cell?_alloc_some (W := wq) o k0
    have kg1 := fun o => Lib.cell?_alloc_some (W := wq) o k1
    have kg2 := fun o => Lib.cell?_alloc_some (W := wq) o k2
    have kg3 := fun o => Lib.cell?_alloc_some (W := wq) o k3
    have kg4 := fun o => Lib.cell?_alloc_some (W := wq) o k4
    have kg5 := fun o => Lib.cell?_alloc_some (W := wq) o k5
    have kg6 := fun o => Lib.cell?_alloc_some (W := wq) o k6
    have kg7 := fun o => Lib.cell?_alloc_some (W := wq) o k7
    have kg8 := fun o => Lib.cell?_alloc_some (W := wq) o k8
    have kg9 := fun o => Lib.cell?_alloc_some (W := wq) o k9
    have kg10 := fun o => Lib.cell?_alloc_some (W := wq) o k10
    clear k0 k1 k2 k3 k4 k5 k6 k7 k8 k9 k10
    have hou := fun W => delta_outer.calls (x.f0) (x.f1) (x.f2) (x.f3.f0) (x.f3.f1) (x.f3.f2) (x.f3.f3) (x.f4.f0) (x.f4.f1) (x.f4.f2) (x.f4.f3) (y.f0) (y.f1) (y.f2) (y.f3.f0) (y.f3.f1) (y.f3.f2) (y.f3.f3) (y.f4.f0) (y.f4.f1) (y.f4.f2) (y.f4.f3) (x.f0) (x.f1) (y.f2) (x.f3.f0) (x.f3.f1) (x.f3.f2) (x.f3.f3) (y.f4.f0) (y.f4.f1) (y.f4.f2) (y.f4.f3) W rfl
    go_region_with (refine (hou _).mono ?_; rintro eo wo ⟨rfl, hbo⟩; have b0 : wo.cell? ⟨wq.heap.size, 0, none⟩ = some (.string ⟨#[]⟩) := (hbo.cell (p := ⟨wq.heap.size, 0, none⟩) (by simp)).trans (cell_new wq _ _ 0); have b1 : wo.cell? ⟨wq.heap.size, 1, none⟩ = some (.bool false) := (hbo.cell (p := ⟨wq.heap.size, 1, none⟩) (by simp)).trans (cell_new wq _ _ 1); have b2 : wo.cell? ⟨wq.heap.size, 2, none⟩ = some (.bool false) := (hbo.cell (p := ⟨wq.heap.size, 2, none⟩) (by simp)).trans (cell_new wq _ _ 2); have b3 : wo.cell? ⟨wq.heap.size, 3, none⟩ = some (.string ⟨#[]⟩) := (hbo.cell (p := ⟨wq.heap.size, 3, none⟩) (by simp)).trans (cell_new wq _ _ 3); have b4 : wo.cell? ⟨wq.heap.size, 4, none⟩ = some (.string ⟨#[]⟩) := (hbo.cell (p := ⟨wq.heap.size, 4, none⟩) (by simp)).trans (cell_new wq _ _ 4); have b5 : wo.cell? ⟨wq.heap.size, 5, none⟩ = some (.int .i64 0) := (hbo.cell (p := ⟨wq.heap.size, 5, none⟩) (by simp)).trans (cell_new wq _ _ 5); have b6 : wo.cell? ⟨wq.heap.size, 6, none⟩ = some (.int .i64 0) := (hbo.cell (p := ⟨wq.heap.size, 6, none⟩) (by simp)).trans (cell_new wq _ _ 6); have b7 : wo.cell? ⟨wq.heap.size, 7, none⟩ = some (.string ⟨#[]⟩) := (hbo.cell (p := ⟨wq.heap.size, 7, none⟩) (by simp)).trans (cell_new wq _ _ 7); have b8 : wo.cell? ⟨wq.heap.size, 8, none⟩ = some (.string ⟨#[]⟩) := (hbo.cell (p := ⟨wq.heap.size, 8, none⟩) (by simp)).trans (cell_new wq _ _ 8); have b9 : wo.cell? ⟨wq.heap.size, 9, none⟩ = some (.int .i64 0) := (hbo.cell (p := ⟨wq.heap.size, 9, none⟩) (by simp)).trans (cell_new wq _ _ 9); have b10 : wo.cell? ⟨wq.heap.size, 10, none⟩ = some (.int .i64 0) := (hbo.cell (p := ⟨wq.heap.size, 10, none⟩) (by simp)).trans (cell_new wq _ _ 10); have bx := (hbo.block wq.heap.size (by simp)).trans (heap_alloc_new wq _); have fx : ∀ k, wo.frozen? ⟨wq.heap.size, k, none⟩ = false := fun k => froz_new bx k)
    all_goals (
     obtain ⟨wz, hwz⟩ : ∃ wz, wz = (((((((((((wo.setCell ⟨wq.heap.size, 0, none⟩ (.string x.f0)).setCell ⟨wq.heap.size, 1, none⟩ (.bool x.f1)).setCell ⟨wq.heap.size, 2, none⟩ (.bool y.f2)).setCell ⟨wq.heap.size, 3, none⟩ (.string x.f3.f0)).setCell ⟨wq.heap.size, 4, none⟩ (.string x.f3.f1)).setCell ⟨wq.heap.size, 5, none⟩ (.int .i64 x.f3.f2)).setCell ⟨wq.heap.size, 6, none⟩ (.int .i64 x.f3.f3)).setCell ⟨wq.heap.size, 7, none⟩ (.string y.f4.f0)).setCell ⟨wq.heap.size, 8, none⟩ (.string y.f4.f1)).setCell ⟨wq.heap.size, 9, none⟩ (.int .i64 y.f4.f2)).setCell ⟨wq.heap.size, 10, none⟩ (.int .i64 y.f4.f3)) := ⟨_, rfl⟩
     have BO : RowKit.Below wq.heap.size wq wo := ⟨hbo.os, hbo.tape, hbo.output, by have := hbo.size; simp at this; omega, fun k hk => (hbo.block k (by simp; omega)).trans ((World.grownBy_alloc wq _ none).block k hk (by simp))⟩
     have ZB : wz.heap[wq.heap.size]? = some (.cells (cellsC (outerC x y)) 45 (0, 0)) := by rw [hwz]; simp [World.setCell, Array.getElem?_modify, bx, cellsC, outerC]
     have BZ : Aside0 (RowKit.Below wq.heap.size wq wz) := ⟨by rw [hwz]; exact (RowKit.Below.setCell (p := ⟨wq.heap.size, 10, none⟩) (RowKit.Below.setCell (p := ⟨wq.heap.size, 9, none⟩) (RowKit.Below.setCell (p := ⟨wq.heap.size, 8, none⟩) (RowKit.Below.setCell (p := ⟨wq.heap.size, 7, none⟩) (RowKit.Below.setCell (p := ⟨wq.heap.size, 6, none⟩) (RowKit.Below.setCell (p := ⟨wq.heap.size, 5, none⟩) (RowKit.Below.setCell (p := ⟨wq.heap.size, 4, none⟩) (RowKit.Below.setCell (p := ⟨wq.heap.size, 3, none⟩) (RowKit.Below.setCell (p := ⟨wq.heap.size, 2, none⟩) (RowKit.Below.setCell (p := ⟨wq.heap.size, 1, none⟩) (RowKit.Below.setCell (p := ⟨wq.heap.size, 0, none⟩) BO (Nat.le_refl wq.heap.size) (.string x.f0)) (Nat.le_refl wq.heap.size) (.bool x.f1)) (Nat.le_refl wq.heap.size) (.bool y.f2)) (Nat.le_refl wq.heap.size) (.string x.f3.f0)) (Nat.le_refl wq.heap.size) (.string x.f3.f1)) (Nat.le_refl wq.heap.size) (.int .i64 x.f3.f2)) (Nat.le_refl wq.heap.size) (.int .i64 x.f3.f3)) (Nat.le_refl wq.heap.size) (.string y.f4.f0)) (Nat.le_refl wq.heap.size) (.string y.f4.f1)) (Nat.le_refl wq.heap.size) (.int .i64 y.f4.f2)) (Nat.le_refl wq.heap.size) (.int .i64 y.f4.f3))⟩
     have ZLT : Aside0 (wq.heap.size < wz.heap.size) := ⟨(Array.getElem?_eq_some_iff.1 ZB).1⟩
     have zz0 : wz.cell? ⟨wq.heap.size, 0, none⟩ = some (.string x.f0) := by simp [World.cell?, ZB, cellsC, outerC]
     have zz1 : wz.cell? ⟨wq.heap.size, 1, none⟩ = some (.bool x.f1) := by simp [World.cell?, ZB, cellsC, outerC]
     have zz2 : wz.cell? ⟨wq.heap.size, 2, none⟩ = some (.bool y.f2) := by simp [World.cell?, ZB, cellsC, outerC]
     have zz3 : wz.cell? ⟨wq.heap.size, 3, none⟩ = some (.string x.f3.f0) := by simp [World.cell?, ZB, cellsC, outerC]
     have zz4 : wz.cell? ⟨wq.heap.size, 4, none⟩ = some (.string x.f3.f1) := by simp [World.cell?, ZB, cellsC, outerC]
     have zz5 : wz.cell? ⟨wq.heap.size, 5, none⟩ = some (.int .i64 x.f3.f2) := by simp [World.cell?, ZB, cellsC, outerC]
     have zz6 : wz.cell? ⟨wq.heap.size, 6, none⟩ = some (.int .i64 x.f3.f3) := by simp [World.cell?, ZB, cellsC, outerC]
     have zz7 : wz.cell? ⟨wq.heap.size, 7, none⟩ = some (.string y.f4.f0) := by simp [World.cell?, ZB, cellsC, outerC]
     have zz8 : wz.cell? ⟨wq.heap.size, 8, none⟩ = some (.string y.f4.f1) := by simp [World.cell?, ZB, cellsC, outerC]
     have zz9 : wz.cell? ⟨wq.heap.size, 9, none⟩ = some (.int .i64 y.f4.f2) := by simp [World.cell?, ZB, cellsC, outerC]
     have zz10 : wz.cell? ⟨wq.heap.size, 10, none⟩ = some (.int .i64 y.f4.f3) := by simp [World.cell?, ZB, cellsC, outerC]
     rw [← hwz]
     clear hwz BO ZB bx fx hbo hou b0 b1 b2 b3 b4 b5 b6 b7 b8 b9 b10 hg0 kg0 hg1 kg1 hg2 kg2 hg3 kg3 hg4 kg4 hg5 kg5 hg6 kg6 hg7 kg7 hg8 kg8 hg9 kg9 hg10 kg10
     go_wp2_with fail
     go_region
     clear cutd cute
     go_wp2_with fail
     refine (delta_idle.calls (x.f0) (x.f1) (y.f2) (x.f3.f0) (x.f3.f1) (x.f3.f2) (x.f3.f3) (y.f4.f0) (y.f4.f1) (y.f4.f2) (y.f4.f3) (idleC (outerC x y)) _ (idle_is (outerC x y))).mono ?_
     rintro ei w5 ⟨rfl, hb⟩
     have hsz : wq.heap.size < w5.heap.size := Nat.lt_of_lt_of_le ZLT.out hb.size
     have z0 : w5.cell? ⟨wq.heap.size, 0, none⟩ = some (.string (x.f0)) := (hb.cell (p := ⟨wq.heap.size, 0, none⟩) ZLT.out).trans zz0
     have z1 : w5.cell? ⟨wq.heap.size, 1, none⟩ = some (.bool (x.f1)) := (hb.cell (p := ⟨wq.heap.size, 1, none⟩) ZLT.out).trans zz1
     have z2 : w5.cell? ⟨wq.heap.size, 2, none⟩ = some (.bool (y.f2)) := (hb.cell (p := ⟨wq.heap.size, 2, none⟩) ZLT.out).trans zz2
     have z3 : w5.cell? ⟨wq.heap.size, 3, none⟩ = some (.string (x.f3.f0)) := (hb.cell (p := ⟨wq.heap.size, 3, none⟩) ZLT.out).trans zz3
     have z4 : w5.cell? ⟨wq.heap.size, 4, none⟩ = some (.string (x.f3.f1)) := (hb.cell (p := ⟨wq.heap.size, 4, none⟩) ZLT.out).trans zz4
     have z5 : w5.cell? ⟨wq.heap.size, 5, none⟩ = some (.int .i64 (x.f3.f2)) := (hb.cell (p := ⟨wq.heap.size, 5, none⟩) ZLT.out).trans zz5
     have z6 : w5.cell? ⟨wq.heap.size, 6, none⟩ = some (.int .i64 (x.f3.f3)) := (hb.cell (p := ⟨wq.heap.size, 6, none⟩) ZLT.out).trans zz6
     have z7 : w5.cell? ⟨wq.heap.size, 7, none⟩ = some (.string (y.f4.f0)) := (hb.cell (p := ⟨wq.heap.size, 7, none⟩) ZLT.out).trans zz7
     have z8 : w5.cell? ⟨wq.heap.size, 8, none⟩ = some (.string (y.f4.f1)) := (hb.cell (p := ⟨wq.heap.size, 8, none⟩) ZLT.out).trans zz8
     have z9 : w5.cell? ⟨wq.heap.size, 9, none⟩ = some (.int .i64 (y.f4.f2)) := (hb.cell (p := ⟨wq.heap.size, 9, none⟩) ZLT.out).trans zz9
     have z10 : w5.cell? ⟨wq.heap.size, 10, none⟩ = some (.int .i64 (y.f4.f3)) := (hb.cell (p := ⟨wq.heap.size, 10, none⟩) ZLT.out).trans zz10
     have B5 : Aside0 (RowKit.Below wq.heap.size wq w5) := ⟨below_then BZ.out (Nat.le_of_lt ZLT.out) ⟨hb.os, hb.tape, hb.output, hb.size, hb.block⟩⟩
     clear zz0 zz1 zz2 zz3 zz4 zz5 zz6 zz7 zz8 zz9 zz10
     have BW5 := Aside0.mk (below_then BQ.out BQ.out.size B5.out)
     have RO5 := Aside0.mk (Kd.R_below ROq.out B5.out)
     clear hb hsz
     have hn1 : ∃ m, n = m + 1 := ⟨n - 1, by simp at hn; omega⟩
     obtain ⟨m, rfl⟩ := hn1
     have RS1 : Aside0 (res = out ++ ((if idleC (outerC x y) = true then [] else [(outerC x y)]) ++ joinK S45.f0 idleC outerC m d e)) := ⟨by rw [RS.out]; rw [HJ.out, if_neg (Int.not_lt.2 HLT.out), if_neg (Int.not_lt.2 HGT.out)]⟩
     cases hid : idleC (outerC x y) with
     | true =>
      rw [hid] at RS1
      go_wp2
      go_roundg ((d : List S45).length + (e : List S45).length)
      case measure => simp at hg ⊢; omega
      case rel =>
       refine ⟨Ad', (cd - 1), d, Ae', (ce - 1), e, m, out, rfl, rfl, by simp at hcd; omega, by simp at hce; omega, by omega, by simp at hn ⊢; omega, by simp at hol ⊢; omega, ⟨CD'⟩, ⟨CE'⟩, RO5, ⟨?_⟩, BW5, ⟨fun c hc => FD.out c (List.mem_cons_of_mem _ hc)⟩, ⟨fun c hc => FE.out c (List.mem_cons_of_mem _ hc)⟩⟩
       have h := RS1.out
       simpa using h
     | false =>
      rw [hid] at RS1
      go_wp2_with (first
       | ((with_reducible refine gate_builtin (b := .append) (xs := #[.tmp 66, .tmp 68]) rfl ?_); at_builtin; refine Kd.R_append k45 (w0 := w) w.heap.size rfl (.tmp 66) (.tmp 68) 23 45 (.agg #[(.string ⟨#[]⟩), (.bool false), (.bool false), (.string ⟨#[]⟩), (.string ⟨#[]⟩), (.int .i64 0), (.int .i64 0), (.string ⟨#[]⟩), (.string ⟨#[]⟩), (.int .i64 0), (.int .i64 0)]) 120 rfl Tryz.underlying23 info45 rfl (by decide) (by omega) u7 out ((outerC x y)) [.string (x.f0), .bool (x.f1), .bool (y.f2), .string (x.f3.f0), .string (x.f3.f1), .int .i64 (x.f3.f2), .int .i64 (x.f3.f3), .string (y.f4.f0), .string (y.f4.f1), .int .i64 (y.f4.f2), .int .i64 (y.f4.f3)] (fun k => w.heap.size ≤ k) (fun _ => False) rfl (by first | (go_simp; done) | (go_simp; rfl)) (k45_mkM _ _ _ ((outerC x y))) (fun _ h => h.elim) (fun k hk => Nat.le_trans BW5.out.size hk) RO5.out BW5.out BW5.out.size (by simp at hol; omega) ?_; intro v6 w6 ho hb hgr hat; have R6 := Aside0.mk ho; have B6 := Aside0.mk hb; clear ho hb hgr hat)
       | fail)
      go_roundg ((d : List S45).length + (e : List S45).length)
      case measure => simp at hg ⊢; omega
      case rel =>
       refine ⟨Ad', (cd - 1), d, Ae', (ce - 1), e, m, (out ++ [(outerC x y)]), rfl, rfl, by simp at hcd; omega, by simp at hce; omega, by omega, by simp at hn ⊢; omega, by simp at hol ⊢; omega, ⟨CD'⟩, ⟨CE'⟩, R6, ⟨?_⟩, B6, ⟨fun c hc => FD.out c (List.mem_cons_of_mem _ hc)⟩, ⟨fun c hc => FE.out c (List.mem_cons_of_mem _ hc)⟩⟩
       have h := RS1.out
       simpa using h
    )
theorem delta_joined.calls (k : Nat) (P0_ : Nat → Prop) (A0 : Option Addr) (c0 : Nat) (l0 : List S45) (P1_ : Nat → Prop) (A1 : Option Addr) (c1 : Nat) (l1 : List S45) (a2 : Bool) (r : List S45) (w : World) (hs0 : Kd.V k45 45 w w.heap.size (fun k_ => P0_ k_) (.slice A0 l0.length c0) l0) (hs1 : Kd.V k45 45 w w.heap.size (fun k_ => P1_ k_) (.slice A1 l1.length c1) l1) (h : delta_joined.f k l0 l1 a2 = some r) :
  Calls Tryz.prog 28 #[.slice A0 l0.length c0, .slice A1 l1.length c1, .func (.func 29) #[] #[]] w fun e w' => ∃ v0_ : Value, e = .returned (v0_) ∧ Kd.R k45 45 w' w.heap.size (fun k_ => (w.heap.size ≤ k_)) v0_ r ∧ Below w.heap.size w w' := by
 unfold delta_joined.f at h
 split at h
 ·rename_i hh
  obtain rfl := Option.some.inj h
  exact delta_joined.walk A0 c0 l0 A1 c1 l1 w (Kd.V_reads' hs0).2.2 (Kd.V_reads' hs0).2.1 (Kd.V_reads' hs1).2.2 (Kd.V_reads' hs1).2.1 hh.1.1 hh.1.2 hh.2.1 hh.2.2
 cases h
open Go.RowKit Go.Proofs.YtehfogjibhnabaaGreatDoorW.PrintWords Go.Proofs.YtehfogjibhnabaaGreatDoorW.PrintLast Go.Proofs.YtehfogjibhnabaaGreatDoorW.PrintMore
attribute [local go_sem] max2_int min2_int max_two min_two max_three min_three max_four min_four
set_option linter.unusedVariables false
set_option linter.unusedSimpArgs false
attribute [local go_sem high] eqA43
mutual
def delta_Diff.j0 : Nat → List (S43) → List (S43) → Bool → Option ((List (S45)))
 | 0, _, _, _ => none
 | k + 1, x0, x1, x18 => if x18 = true then (some ([] : List (S45))) else (delta_Diff.l0 k x1 ([] : List (S45)) x0 (x0.length : Int) 0)
def delta_Diff.l0 : Nat → List (S43) → List (S45) → List (S43) → Int → Int → Option ((List (S45)))
 | 0, _, _, _, _, _ => none
 | k + 1, x1, x5, x19, x20, x21 => if x21 < x20 then (if 0 ≤ x21 then (if x21 < (x19.length : Int) then (if x5.length < 1172812402961 then (delta_Diff.l0 k x1 (x5 ++ [(⟨(rd_T43 x19 x21).f0, true, false, (⟨(rd_T43 x19 x21).f0, (rd_T43 x19 x21).f1, (rd_T43 x19 x21).f2, (rd_T43 x19 x21).f3⟩ : S43), (⟨(⟨#[]⟩ : ByteArray), (⟨#[]⟩ : ByteArray), 0, 0⟩ : S43)⟩ : S45)]) x19 x20 (wrap64 (x21 + 1))) else (none)) else (none)) else (none)) else (delta_Diff.l1 k x5 ([] : List (S45)) x1 (x1.length : Int) 0)
def delta_Diff.l1 : Nat → List (S45) → List (S45) → List (S43) → Int → Int → Option ((List (S45)))
 | 0, _, _, _, _, _ => none
 | k + 1, x5, x6, x33, x34, x35 => if x35 < x34 then (if 0 ≤ x35 then (if x35 < (x33.length : Int) then (if x6.length < 1172812402961 then (delta_Diff.l1 k x5 (x6 ++ [(⟨(rd_T43 x33 x35).f0, false, true, (⟨(⟨#[]⟩ : ByteArray), (⟨#[]⟩ : ByteArray), 0, 0⟩ : S43), (⟨(rd_T43 x33 x35).f0, (rd_T43 x33 x35).f1, (rd_T43 x33 x35).f2, (rd_T43 x33 x35).f3⟩ : S43)⟩ : S45)]) x33 x34 (wrap64 (x35 + 1))) else (none)) else (none)) else (none)) else ((delta_joined.f k x5 x6 true).bind fun t235 => (some t235))
end
def delta_Diff.f (k : Nat) (l0 : List (S43)) (l1 : List (S43)) : Option ((List (S45))) := (snap_Valid.f k l0).bind fun t223 => (if t223 = 0 then ((snap_Valid.f k l1).bind fun t224 => (delta_Diff.j0 k l0 l1 (t224 != 0))) else (delta_Diff.j0 k l0 l1 true))
theorem delta_Diff.mono_l : ∀ k, (∀ y0 y1 y2, LeO (delta_Diff.j0 k y0 y1 y2) (delta_Diff.j0 (k + 1) y0 y1 y2)) ∧ (∀ y0 y1 y2 y3 y4, LeO (delta_Diff.l0 k y0 y1 y2 y3 y4) (delta_Diff.l0 (k + 1) y0 y1 y2 y3 y4)) ∧ (∀ y0 y1 y2 y3 y4, LeO (delta_Diff.l1 k y0 y1 y2 y3 y4) (delta_Diff.l1 (k + 1) y0 y1 y2 y3 y4))
 | 0 => ⟨fun _ _ _ r h => by simp [delta_Diff.j0] at h, fun _ _ _ _ _ r h => by simp [delta_Diff.l0] at h, fun _ _ _ _ _ r h => by simp [delta_Diff.l1] at h⟩
 | k + 1 => by
  obtain ⟨ih0, ih1, ih2⟩ := delta_Diff.mono_l k
  refine ⟨?_, ?_, ?_⟩
  ·intro y0 y1 y2
   unfold delta_Diff.j0
   repeat' first
   | (with_reducible exact ih0 _ _ _)
   | (with_reducible exact ih1 _ _ _ _ _)
   | (with_reducible exact ih2 _ _ _ _ _)
   | (with_reducible exact delta_joined.mono _ _ _ _)
   | (with_reducible exact snap_Valid.mono _ _)
   | (with_reducible exact LeO.refl _)
   | (with_reducible exact LeO.none _)
   | (with_reducible refine LeO.ite ?_ ?_)
   | (with_reducible refine LeO.bind ?_ (fun _ => ?_))
   | exact ih0 _ _ _
   | exact ih1 _ _ _ _ _
   | exact ih2 _ _ _ _ _
   | exact delta_joined.mono _ _ _ _
   | exact snap_Valid.mono _ _
   | exact LeO.none _
   | refine LeO.ite ?_ ?_
   | refine LeO.bind ?_ (fun _ => ?_)
  ·intro y0 y1 y2 y3 y4
   unfold delta_Diff.l0
   repeat' first
   | (with_reducible exact ih0 _ _ _)
   | (with_reducible exact ih1 _ _ _ _ _)
   | (with_reducible exact ih2 _ _ _ _ _)
   | (with_reducible exact delta_joined.mono _ _ _ _)
   | (with_reducible exact snap_Valid.mono _ _)
   | (with_reducible exact LeO.refl _)
   | (with_reducible exact LeO.none _)
   | (with_reducible refine LeO.ite ?_ ?_)
   | (with_reducible refine LeO.bind ?_ (fun _ => ?_))
   | exact ih0 _ _ _
   | exact ih1 _ _ _ _ _
   | exact ih2 _ _ _ _ _
   | exact delta_joined.mono _ _ _ _
   | exact snap_Valid.mono _ _
   | exact LeO.none _
   | refine LeO.ite ?_ ?_
   | refine LeO.bind ?_ (fun _ => ?_)
  ·intro y0 y1 y2 y3 y4
   unfold delta_Diff.l1
   repeat' first
   | (with_reducible exact ih0 _ _ _)
   | (with_reducible exact ih1 _ _ _ _ _)
   | (with_reducible exact ih2 _ _ _ _ _)
   | (with_reducible exact delta_joined.mono _ _ _ _)
   | (with_reducible exact snap_Valid.mono _ _)
   | (with_reducible exact LeO.refl _)
   | (with_reducible exact LeO.none _)
   | (with_reducible refine LeO.ite ?_ ?_)
   | (with_reducible refine LeO.bind ?_ (fun _ => ?_))
   | exact ih0 _ _ _
   | exact ih1 _ _ _ _ _
   | exact ih2 _ _ _ _ _
   | exact delta_joined.mono _ _ _ _
   | exact snap_Valid.mono _ _
   | exact LeO.none _
   | refine LeO.ite ?_ ?_
   | refine LeO.bind ?_ (fun _ => ?_)
theorem delta_Diff.mono : ∀ a0 a1 k, LeO (delta_Diff.f k a0 a1) (delta_Diff.f (k + 1) a0 a1) := by
 intro a0 a1 k
 obtain ⟨ih0, ih1, ih2⟩ := delta_Diff.mono_l k
 unfold delta_Diff.f
 repeat' first
   | (with_reducible exact ih0 _ _ _)
   | (with_reducible exact ih1 _ _ _ _ _)
   | (with_reducible exact ih2 _ _ _ _ _)
   | (with_reducible exact delta_joined.mono _ _ _ _)
   | (with_reducible exact snap_Valid.mono _ _)
   | (with_reducible exact LeO.refl _)
   | (with_reducible exact LeO.none _)
   | (with_reducible refine LeO.ite ?_ ?_)
   | (with_reducible refine LeO.bind ?_ (fun _ => ?_))
   | exact ih0 _ _ _
   | exact ih1 _ _ _ _ _
   | exact ih2 _ _ _ _ _
   | exact delta_joined.mono _ _ _ _
   | exact snap_Valid.mono _ _
   | exact LeO.none _
   | refine LeO.ite ?_ ?_
   | refine LeO.bind ?_ (fun _ => ?_)
set_option maxHeartbeats 8000000 in
set_option maxRecDepth 100000 in
theorem delta_Diff.calls (k : Nat) (A0 : Option Addr) (c0 : Nat) (l0 : List (S43)) (A1 : Option Addr) (c1 : Nat) (l1 : List (S43)) (r : List (S45)) (w : World) (hr0 : Kd.C k43 w A0 l0.length l0) (hc0 : l0.length ≤ c0) (hr1 : Kd.C k43 w A1 l1.length l1) (hc1 : l1.length ≤ c1) (h : delta_Diff.f k l0 l1 = some r) :
  Calls Tryz.prog 9 #[.slice A0 l0.length c0, .slice A1 l1.length c1] w fun e w' => ∃ v0_ : Value, e = .returned (v0_) ∧ Kd.R k45 45 w' w.heap.size (fun _ => True) v0_ r ∧ Below w.heap.size w w' := by
 have hu43 := Tryz.underlying43
 have hu45 := Tryz.underlying45
 have HR0 := Aside0.mk hr0
 have HC0 := Aside0.mk hc0
 clear hr0 hc0
 have HR1 := Aside0.mk hr1
 have HC1 := Aside0.mk hc1
 clear hr1 hc1
 have HB := Aside0.mk (Below.refl w.heap.size w)
 have H : ((snap_Valid.f k l0).bind fun t223 => (if t223 = 0 then ((snap_Valid.f k l1).bind fun t224 => (delta_Diff.j0 k l0 l1 (t224 != 0))) else (delta_Diff.j0 k l0 l1 true))) = some r := h
 clear h
 have HC3 := Aside0.mk H
 clear H
 go_enter Tryz.func9, Tryz.ntmps9
 go_upto_region 1 with (fail)
 go_cut [18] (fun v18 wc => ∃ (kq : Nat) (x18_2 : Bool), v18 = .bool x18_2 ∧ Aside0 (delta_Diff.j0 kq l0 l1 x18_2 = some r) ∧ Aside0 (kq ≤ k) ∧ Aside0 (Below w.heap.size w wc))
 case first =>
  have H := HC3.out
  clear HC3
  replace H := Option.bind_eq_some_iff.mp H
  obtain ⟨t223, A40, H⟩ := H
  try dsimp only at H
  have A4 := Aside0.mk A40
  clear A40
  by_cases c5 : t223 = 0
  rotate_left
  ·rw [if_neg c5] at H
   have c5b0 : (t223 == 0) = false := beq_eq_false_iff_ne.mpr c5
   have c5b1 : (t223 != 0) = true := bne_iff_ne.mpr c5
   (first | rw [c5b0] | (simp only [i64_w, i32_w]; rw [c5b0]) | skip)
   have H' := Aside0.mk H
   clear H
   go_wp2_with (first | ((with_reducible refine gate_callee (f := 27) rfl ?_); refine goesL_ (some 12) rfl rfl Tryz.func27 (by kernel_rfl) rfl #[.slice A0 l0.length c0] rfl (mp_) ?_; (with_reducible refine (snap_Valid.calls k _ _ l0 t223 _ ?side1 ?side2 A4.out).mono ?_); (case side1 => repeat (first | exact (Kd.C_below HR0.out HB.out) | (with_reducible refine Kd.C_alloc ?_ _) | (with_reducible refine Kd.C_drewN ?_ _) | (with_reducible refine Kd.C_drew ?_))); (case side2 => exact HC0.out); rintro e w9 ⟨rfl, hb⟩; refine ⟨_, rfl, ?_⟩; have n0_ := Aside0.mk (below_step (bel_) hb); clear HB; have HB := n0_; clear n0_; (try clear hb); (try clear hb2); (try clear hk); (try clear hi)))
   go_meet
   case rel => exact ⟨_, (true), (rf_), H', ⟨by first | omega | exact Nat.le_refl _⟩, ⟨bel_⟩⟩
  rw [if_pos c5] at H
  have c5b0 : (t223 == 0) = true := beq_iff_eq.mpr c5
  have c5b1 : (t223 != 0) = false := bne_eq_false_iff_eq.mpr c5
  clear c5
  (first | rw [c5b0] | (simp only [i64_w, i32_w]; rw [c5b0]) | skip)
  replace H := Option.bind_eq_some_iff.mp H
  obtain ⟨t224, A60, H⟩ := H
  try dsimp only at H
  have A6 := Aside0.mk A60
  clear A60
  have H' := Aside0.mk H
  clear H
  go_wp2_with (first | ((with_reducible refine gate_callee (f := 27) rfl ?_); refine goesL_ (some 12) rfl rfl Tryz.func27 (by kernel_rfl) rfl #[.slice A0 l0.length c0] rfl (mp_) ?_; (with_reducible refine (snap_Valid.calls k _ _ l0 t223 _ ?side1 ?side2 A4.out).mono ?_); (case side1 => repeat (first | exact (Kd.C_below HR0.out HB.out) | (with_reducible refine Kd.C_alloc ?_ _) | (with_reducible refine Kd.C_drewN ?_ _) | (with_reducible refine Kd.C_drew ?_))); (case side2 => exact HC0.out); rintro e w7 ⟨rfl, hb⟩; refine ⟨_, rfl, ?_⟩; have n0_ := Aside0.mk (below_step (bel_) hb); clear HB; have HB := n0_; clear n0_; (try clear hb); (try clear hb2); (try clear hk); (try clear hi)) | (go_at_call 27; (with_reducible refine (snap_Valid.calls k _ _ l1 t224 _ ?side1 ?side2 A6.out).mono ?_); (case side1 => repeat (first | exact (Kd.C_below HR1.out HB.out) | (with_reducible refine Kd.C_alloc ?_ _) | (with_reducible refine Kd.C_drewN ?_ _) | (with_reducible refine Kd.C_drew ?_))); (case side2 => exact HC1.out); rintro e w8 ⟨rfl, hb⟩; have n0_ := Aside0.mk (below_step (bel_) hb); clear HB; have HB := n0_; clear n0_; (try clear hb); (try clear hb2); (try clear hk); (try clear hi)))
  go_meet
  case rel => exact ⟨_, ((t224 != 0)), (rf_), H', ⟨by first | omega | exact Nat.le_refl _⟩, ⟨bel_⟩⟩
 case rest =>
  clear HC3
  try clear c1
  try clear c2
  try clear p2
  try clear c5
  try clear c5b0
  try clear c5b1
  try clear c9
  obtain ⟨kq, x18_2, rfl, HA, HJ2, HB⟩ := hcut
  cases kq with
  | zero => exact absurd HA.out (by simp [delta_Diff.j0])
  | succ kj2 =>
   have H := HA.out
   clear HA
   simp only [delta_Diff.j0] at H
   by_cases c10 : x18_2 = true
   ·subst c10
    rw [if_pos rfl] at H
    have H1 := H
    clear H
    have H := H1
    clear H1
    obtain rfl := Option.some.inj H
    go_wp2
    go_ret
    exact ⟨_, er_, nl_, bel_⟩
   replace c10 := Bool.eq_false_iff.mpr c10
   subst c10
   have H1 : (delta_Diff.l0 kj2 l1 ([] : List (S45)) l0 (l0.length : Int) 0) = some r := by rw [if_neg (show ¬ (false = true) by decide)] at H; exact H
   clear H
   have H := H1
   clear H1
   have H' := Aside0.mk H
   clear H
   go_wp2
   go_loopg [5, 21] kj2 (fun kq v5 v21 w' => ∃ (x5_2 : List (S45)) (x21_2 : Int), v21 = .int .i64 x21_2 ∧ Aside0 (delta_Diff.l0 kq l1 x5_2 l0 (l0.length : Int) x21_2 = some r) ∧ Aside0 (kq ≤ kj2) ∧ Aside0 (Kd.R k45 45 w' w.heap.size (fun _ => True) v5 x5_2) ∧ Aside0 (Below w.heap.size w w'))
   case atStart => exact ⟨(([] : List (S45))), (0), (rf_), H', ⟨Nat.le_refl _⟩, ⟨nl_⟩, ⟨bel_⟩⟩
   case round =>
    clear H'
    try clear c1
    try clear c2
    try clear p2
    try clear c5
    try clear c5b0
    try clear c5b1
    try clear c9
    try clear c10
    try clear p2
    obtain ⟨x5_2, x21_2, rfl, HA, HK2, HO_5, HB⟩ := hrel
    cases gk with
    | zero => exact absurd HA.out (by simp [delta_Diff.l0])
    | succ k2 =>
     have H := HA.out
     clear HA
     simp only [delta_Diff.l0] at H
     by_cases c11 : x21_2 < (l0.length : Int)
     ·rw [if_pos c11] at H
      have c11b0 := decide_eq_true c11
      clear c11
      by_cases c12 : 0 ≤ x21_2
      rotate_left
      ·rw [if_neg c12] at H
       exact absurd H (by simp)
      rw [if_pos c12] at H
      have c12b0 := decide_eq_true c12
      clear c12
      by_cases c13 : x21_2 < (l0.length : Int)
      rotate_left
      ·rw [if_neg c13] at H
       exact absurd H (by simp)
      rw [if_pos c13] at H
      have c13b0 := decide_eq_true c13
      clear c13
      by_cases c14 : x5_2.length < 1172812402961
      rotate_left
      ·rw [if_neg c14] at H
       exact absurd H (by simp)
      rw [if_pos c14] at H
      have LMc14 := Aside0.mk c14
      clear c14
      obtain ⟨y227, hy227⟩ : ∃ y_ : List (S45), y_ = (x5_2 ++ [(⟨(rd_T43 l0 x21_2).f0, true, false, (⟨(rd_T43 l0 x21_2).f0, (rd_T43 l0 x21_2).f1, (rd_T43 l0 x21_2).f2, (rd_T43 l0 x21_2).f3⟩ : S43), (⟨(⟨#[]⟩ : ByteArray), (⟨#[]⟩ : ByteArray), 0, 0⟩ : S43)⟩ : S45)]) := ⟨_, rfl⟩
      replace H : (delta_Diff.l0 k2 l1 y227 l0 (l0.length : Int) (wrap64 (x21_2 + 1))) = some r := by first | (rw [hy227]; with_reducible exact H) | (have H2_ := (Option.bind_some _ _).symm.trans H; rw [hy227]; with_reducible exact H2_) | (have H2_ := (Option.bind_some _ _).symm.trans H; with_reducible exact H2_) | with_reducible exact H | (rw [hy227]; exact H) | exact H
      have Ny227 := Aside0.mk hy227
      clear hy227
      have H' := Aside0.mk H
      clear H
      have p225 : 0 ≤ (x21_2 : Int) := of_decide_eq_true (by assumption)
      have q225 : x21_2 < (l0.length : Int) := of_decide_eq_true (by assumption)
      obtain ⟨ad225, e225, hx225_0, hx225_1, hx225_2, hx225_3⟩ := at_T43 HR0.out x21_2 p225 q225
      cases e225
      replace hx225_0 := hk_ HB.out hx225_0
      replace hx225_1 := hk_ HB.out hx225_1
      replace hx225_2 := hk_ HB.out hx225_2
      replace hx225_3 := hk_ HB.out hx225_3
      replace p225 := eq_true p225
      replace q225 := eq_true q225
      go_wp2_with (first | ((with_reducible refine gate_dst (N := 8) rfl ?_); refine box_event ?hg (N := 8) ?hd (cs := #[.string (⟨#[]⟩ : ByteArray), .string (⟨#[]⟩ : ByteArray), .int .i64 0, .int .i64 0]) (t := 43) ?hr ?_; (case hd => rfl); (case hg => rfl); (case hr => first | (go_simp; done) | (go_simp; rfl)); intro gb226 hg w15 hbox hb; have n0_ := Aside0.mk (Kd.R_below (ur_ HO_5.out) hb); have n1_ := Aside0.mk (below_step (bel_) hb); have n2_ := Aside0.mk (hbox); have n3_ := Aside0.mk ((by rw [hg]; exact (below_size (bel_)) : w.heap.size ≤ gb226)); have n4_ := Aside0.mk ((by rw [hg]; exact (below_size (bel_)) : w.heap.size ≤ gb226)); clear HO_5; clear HB; have HO_5 := n0_; have HB := n1_; have BK226 := n2_; have GW226 := n3_; have GE226 := n4_; clear n0_ n1_ n2_ n3_ n4_; clear hb hbox hg; have hcz16_0 : w15.cell? ⟨gb226, 0, none⟩ = some (.string (⟨#[]⟩ : ByteArray)) := (blk_cell BK226.out 0).trans rfl; have hcz16_1 : w15.cell? ⟨gb226, 1, none⟩ = some (.string (⟨#[]⟩ : ByteArray)) := (blk_cell BK226.out 1).trans rfl; have hcz16_2 : w15.cell? ⟨gb226, 2, none⟩ = some (.int .i64 0) := (blk_cell BK226.out 2).trans rfl; have hcz16_3 : w15.cell? ⟨gb226, 3, none⟩ = some (.int .i64 0) := (blk_cell BK226.out 3).trans rfl; have hfz16_0 := blk_frozen BK226.out 0; have hfz16_1 := blk_frozen BK226.out 1; have hfz16_2 := blk_frozen BK226.out 2; have hfz16_3 := blk_frozen BK226.out 3) | ((with_reducible refine gate_builtin (b := .append) (xs := #[.tmp 25, .tmp 30]) rfl ?_); at_builtin; refine Kd.R_append k45 (w0 := w) w.heap.size rfl (.tmp 25) (.tmp 30) 23 45 (.agg #[(.string ⟨#[]⟩), (.bool false), (.bool false), (.string ⟨#[]⟩), (.string ⟨#[]⟩), (.int .i64 0), (.int .i64 0), (.string ⟨#[]⟩), (.string ⟨#[]⟩), (.int .i64 0), (.int .i64 0)]) 120 rfl Tryz.underlying23 info45 rfl (by decide) (by omega) u5 x5_2 (⟨(rd_T43 l0 x21_2).f0, true, false, (⟨(rd_T43 l0 x21_2).f0, (rd_T43 l0 x21_2).f1, (rd_T43 l0 x21_2).f2, (rd_T43 l0 x21_2).f3⟩ : S43), (⟨(⟨#[]⟩ : ByteArray), (⟨#[]⟩ : ByteArray), 0, 0⟩ : S43)⟩ : S45) [.string ((rd_T43 l0 x21_2).f0), .bool true, .bool false, .string ((rd_T43 l0 x21_2).f0), .string ((rd_T43 l0 x21_2).f1), .int .i64 ((rd_T43 l0 x21_2).f2), .int .i64 ((rd_T43 l0 x21_2).f3), .string (⟨#[]⟩ : ByteArray), .string (⟨#[]⟩ : ByteArray), .int .i64 0, .int .i64 0] (fun _ => True) (fun _ => False) rfl (by first | (go_simp; done) | (go_simp; rfl)) ?aP (fun _ hk => hk.elim) ?aF ?aO ?aB ?aS ?aL ?_; (case aP => exact k45_mkM _ _ _ (⟨(rd_T43 l0 x21_2).f0, true, false, (⟨(rd_T43 l0 x21_2).f0, (rd_T43 l0 x21_2).f1, (rd_T43 l0 x21_2).f2, (rd_T43 l0 x21_2).f3⟩ : S43), (⟨(⟨#[]⟩ : ByteArray), (⟨#[]⟩ : ByteArray), 0, 0⟩ : S43)⟩ : S45)); (case aB => exact (bes_ GE226.out)); (case aF => exact (fun _ _ => trivial)); (case aO => exact (by (with_reducible repeat (first | apply Kd.R_alloc | apply Kd.R_drewN | apply Kd.R_drew)); exact Kd.R_mono (Kd.R_far (p := ⟨gb226, 3, none⟩) (Kd.R_far (p := ⟨gb226, 2, none⟩) (Kd.R_far (p := ⟨gb226, 1, none⟩) (Kd.R_far (p := ⟨gb226, 0, none⟩) (Kd.R_types HO_5.out BK226.out (by decide)) (fun _ hk => hk.2) (.string ((rd_T43 l0 x21_2).f0))) (fun _ hk => hk.2) (.string ((rd_T43 l0 x21_2).f1))) (fun _ hk => hk.2) (.int .i64 ((rd_T43 l0 x21_2).f2))) (fun _ hk => hk.2) (.int .i64 ((rd_T43 l0 x21_2).f3))) (fun _ hk => trivial))); (case aS => exact (below_size (bes_ GE226.out))); (case aL => have := LMc14.out; omega); intro v228 w17 ho hb hg hat; rw [← Ny227.out] at ho; have n0_ := Aside0.mk (blk_grown (g := gb226) (o := .cells #[.string ((rd_T43 l0 x21_2).f0), .string ((rd_T43 l0 x21_2).f1), .int .i64 ((rd_T43 l0 x21_2).f2), .int .i64 ((rd_T43 l0 x21_2).f3)] 43 (0, 0)) (by refine ub_ ?_; refine blk_put (cs := #[.string ((rd_T43 l0 x21_2).f0), .string ((rd_T43 l0 x21_2).f1), .int .i64 ((rd_T43 l0 x21_2).f2), .int .i64 0]) ?_ 3 _ rfl; refine ub_ ?_; refine blk_put (cs := #[.string ((rd_T43 l0 x21_2).f0), .string ((rd_T43 l0 x21_2).f1), .int .i64 0, .int .i64 0]) ?_ 2 _ rfl; refine ub_ ?_; refine blk_put (cs := #[.string ((rd_T43 l0 x21_2).f0), .string (⟨#[]⟩ : ByteArray), .int .i64 0, .int .i64 0]) ?_ 1 _ rfl; refine ub_ ?_; refine blk_put (cs := #[.string (⟨#[]⟩ : ByteArray), .string (⟨#[]⟩ : ByteArray), .int .i64 0, .int .i64 0]) ?_ 0 _ rfl; refine ub_ ?_; exact BK226.out) hg (Kd.R_ne HO_5.out BK226.out (by decide))); have n1_ := Aside0.mk (hb); have n2_ := Aside0.mk (ho); clear BK226; clear HB; clear HO_5; have BK226 := n0_; have HB := n1_; have HO229 := n2_; clear n0_ n1_ n2_; clear ho hb hg hat))
      go_roundg k2
      case measure => have := HJ2.out; have := HK2.out; omega
      case rel => exact ⟨(y227), (wrap64 (x21_2 + 1)), (rf_), H', ⟨by have := HJ2.out; have := HK2.out; omega⟩, ⟨ur_ HO229.out⟩, ⟨bes_ GE226.out⟩⟩
     rw [if_neg c11] at H
     have c11b0 := decide_eq_false c11
     clear c11
     have H' := Aside0.mk H
     clear H
     go_wp2
     go_loopg [6, 35] k2 (fun kq v6 v35 w' => ∃ (x6_3 : List (S45)) (x35_3 : Int), v35 = .int .i64 x35_3 ∧ Aside0 (delta_Diff.l1 kq x5_2 x6_3 l1 (l1.length : Int) x35_3 = some r) ∧ Aside0 (kq ≤ k2) ∧ Aside0 (Kd.R k45 45 w' w.heap.size (fun k_ => some k_ ≠ (v6 : Value).ownBlock) u5 x5_2) ∧ Aside0 (Kd.R k45 45 w' w.heap.size (fun k_ => some k_ ≠ (u5 : Value).ownBlock) v6 x6_3) ∧ Aside0 (Below w.heap.size w w'))
     case atStart => exact ⟨(([] : List (S45))), (0), (rf_), H', ⟨Nat.le_refl _⟩, ⟨by (with_reducible repeat (first | apply Kd.R_alloc | apply Kd.R_drewN | apply Kd.R_drew)); exact Kd.R_mono HO_5.out (fun _ hk => (by simp [Value.ownBlock]))⟩, ⟨nl_⟩, ⟨bel_⟩⟩
     case round =>
      clear H'
      try clear c1
      try clear c2
      try clear p2
      try clear q2
      try clear hx2
      try clear c5
      try clear c5b0
      try clear c5b1
      try clear p6
      try clear c9
      try clear c10
      try clear c11
      try clear c11b0
      try clear c12
      try clear c12b0
      try clear c13
      try clear c13b0
      try clear c14
      try clear hcz16_0
      try clear hcz16_1
      try clear hcz16_2
      try clear hcz16_3
      try clear hfz16_0
      try clear hfz16_1
      try clear hfz16_2
      try clear hfz16_3
      try clear hx225_0
      try clear hx225_1
      try clear hx225_2
      try clear hx225_3
      try clear p2
      try clear p225
      try clear q225
      obtain ⟨x6_3, x35_3, rfl, HA, HK3, HO_5, HO_6, HB⟩ := hrel
      cases gk with
      | zero => exact absurd HA.out (by simp [delta_Diff.l1])
      | succ k3 =>
       have H := HA.out
       clear HA
       simp only [delta_Diff.l1] at H
       by_cases c18 : x35_3 < (l1.length : Int)
       rotate_left
       ·rw [if_neg c18] at H
        have c18b0 := decide_eq_false c18
        clear c18
        replace H := Option.bind_eq_some_iff.mp H
        obtain ⟨t235, A250, H⟩ := H
        try dsimp only at H
        have A25 := Aside0.mk A250
        clear A250
        obtain rfl := Option.some.inj H
        obtain ⟨Ao26, co26, eo26⟩ := Kd.R_slice HO_5.out
        subst eo26
        obtain ⟨Ao27, co27, eo27⟩ := Kd.R_slice HO_6.out
        subst eo27
        go_wp2_with (first | ((with_reducible refine gate_callee (f := 28) rfl ?_); refine goesL_ (some 49) rfl rfl Tryz.func28 (by kernel_rfl) rfl #[.slice Ao26 x5_2.length co26, .slice Ao27 x6_3.length co27, .func (.func 29) #[] #[]] rfl (mp_) ?_; (with_reducible refine (delta_joined.calls k3 (fun k_ => some k_ = (.slice Ao26 x5_2.length co26 : Value).ownBlock) _ _ x5_2 (fun k_ => some k_ = (.slice Ao27 x6_3.length co27 : Value).ownBlock) _ _ x6_3 true t235 _ ?side1 ?side2 A25.out).mono ?_); (case side1 => exact Kd.R_V (Kd.R_tight rfl (HO_5.out))); (case side2 => exact Kd.R_V (Kd.R_tight rfl (HO_6.out))); rintro e w28 ⟨v236, rfl, ho0, hb⟩; refine ⟨_, rfl, ?_⟩; have n0_ := Aside0.mk (Kd.R_elder' (ur_ HO_5.out) (Kd.R_base ho0) hb); have n1_ := Aside0.mk (Kd.R_elder' (ur_ HO_6.out) (Kd.R_base ho0) hb); have n2_ := Aside0.mk (Kd.R_lower (Kd.R_new' (Kd.R_new' (Kd.R_mono (ok' := fun k_ => True) ho0 (fun _ hk_ => trivial)) (Kd.R_lt (ur_ HO_5.out))) (Kd.R_lt (ur_ HO_6.out))) (below_size (bel_))); have n3_ := Aside0.mk (below_step (bel_) hb); clear HO_5; clear HO_6; clear HB; have HO_5 := n0_; have HO_6 := n1_; have HO237 := n2_; have HB := n3_; clear n0_ n1_ n2_ n3_; (try clear hb); (try clear hb2); (try clear hk); (try clear hi); (try clear ho0)))
        go_ret
        exact ⟨_, er_, by (with_reducible repeat (first | apply Kd.R_alloc | apply Kd.R_drewN | apply Kd.R_drew)); exact Kd.R_mono HO237.out (fun _ hk => trivial), bel_⟩
       rw [if_pos c18] at H
       have c18b0 := decide_eq_true c18
       clear c18
       by_cases c19 : 0 ≤ x35_3
       rotate_left
       ·rw [if_neg c19] at H
        exact absurd H (by simp)
       rw [if_pos c19] at H
       have c19b0 := decide_eq_true c19
       clear c19
       by_cases c20 : x35_3 < (l1.length : Int)
       rotate_left
       ·rw [if_neg c20] at H
        exact absurd H (by simp)
       rw [if_pos c20] at H
       have c20b0 := decide_eq_true c20
       clear c20
       by_cases c21 : x6_3.length < 1172812402961
       rotate_left
       ·rw [if_neg c21] at H
        exact absurd H (by simp)
       rw [if_pos c21] at H
       have LMc21 := Aside0.mk c21
       clear c21
       obtain ⟨y232, hy232⟩ : ∃ y_ : List (S45), y_ = (x6_3 ++ [(⟨(rd_T43 l1 x35_3).f0, false, true, (⟨(⟨#[]⟩ : ByteArray), (⟨#[]⟩ : ByteArray), 0, 0⟩ : S43), (⟨(rd_T43 l1 x35_3).f0, (rd_T43 l1 x35_3).f1, (rd_T43 l1 x35_3).f2, (rd_T43 l1 x35_3).f3⟩ : S43)⟩ : S45)]) := ⟨_, rfl⟩
       replace H : (delta_Diff.l1 k3 x5_2 y232 l1 (l1.length : Int) (wrap64 (x35_3 + 1))) = some r := by first | (rw [hy232]; with_reducible exact H) | (have H2_ := (Option.bind_some _ _).symm.trans H; rw [hy232]; with_reducible exact H2_) | (have H2_ := (Option.bind_some _ _).symm.trans H; with_reducible exact H2_) | with_reducible exact H | (rw [hy232]; exact H) | exact H
       have Ny232 := Aside0.mk hy232
       clear hy232
       have H' := Aside0.mk H
       clear H
       have p230 : 0 ≤ (x35_3 : Int) := of_decide_eq_true (by assumption)
       have q230 : x35_3 < (l1.length : Int) := of_decide_eq_true (by assumption)
       obtain ⟨ad230, e230, hx230_0, hx230_1, hx230_2, hx230_3⟩ := at_T43 HR1.out x35_3 p230 q230
       cases e230
       replace hx230_0 := hk_ HB.out hx230_0
       replace hx230_1 := hk_ HB.out hx230_1
       replace hx230_2 := hk_ HB.out hx230_2
       replace hx230_3 := hk_ HB.out hx230_3
       replace p230 := eq_true p230
       replace q230 := eq_true q230
       go_wp2_with (first | ((with_reducible refine gate_dst (N := 10) rfl ?_); refine box_event ?hg (N := 10) ?hd (cs := #[.string (⟨#[]⟩ : ByteArray), .string (⟨#[]⟩ : ByteArray), .int .i64 0, .int .i64 0]) (t := 43) ?hr ?_; (case hd => rfl); (case hg => rfl); (case hr => first | (go_simp; done) | (go_simp; rfl)); intro gb231 hg w22 hbox hb; have n0_ := Aside0.mk (Kd.R_below (ur_ HO_5.out) hb); have n1_ := Aside0.mk (Kd.R_below (ur_ HO_6.out) hb); have n2_ := Aside0.mk (below_step (bel_) hb); have n3_ := Aside0.mk (hbox); have n4_ := Aside0.mk ((by rw [hg]; exact (below_size (bel_)) : w.heap.size ≤ gb231)); have n5_ := Aside0.mk ((by rw [hg]; exact (below_size (bel_)) : w.heap.size ≤ gb231)); clear HO_5; clear HO_6; clear HB; have HO_5 := n0_; have HO_6 := n1_; have HB := n2_; have BK231 := n3_; have GW231 := n4_; have GE231 := n5_; clear n0_ n1_ n2_ n3_ n4_ n5_; clear hb hbox hg; have hcz23_0 : w22.cell? ⟨gb231, 0, none⟩ = some (.string (⟨#[]⟩ : ByteArray)) := (blk_cell BK231.out 0).trans rfl; have hcz23_1 : w22.cell? ⟨gb231, 1, none⟩ = some (.string (⟨#[]⟩ : ByteArray)) := (blk_cell BK231.out 1).trans rfl; have hcz23_2 : w22.cell? ⟨gb231, 2, none⟩ = some (.int .i64 0) := (blk_cell BK231.out 2).trans rfl; have hcz23_3 : w22.cell? ⟨gb231, 3, none⟩ = some (.int .i64 0) := (blk_cell BK231.out 3).trans rfl; have hfz23_0 := blk_frozen BK231.out 0; have hfz23_1 := blk_frozen BK231.out 1; have hfz23_2 := blk_frozen BK231.out 2; have hfz23_3 := blk_frozen BK231.out 3) | ((with_reducible refine gate_builtin (b := .append) (xs := #[.tmp 39, .tmp 44]) rfl ?_); at_builtin; refine Kd.R_append k45 (w0 := w) w.heap.size rfl (.tmp 39) (.tmp 44) 23 45 (.agg #[(.string ⟨#[]⟩), (.bool false), (.bool false), (.string ⟨#[]⟩), (.string ⟨#[]⟩), (.int .i64 0), (.int .i64 0), (.string ⟨#[]⟩), (.string ⟨#[]⟩), (.int .i64 0), (.int .i64 0)]) 120 rfl Tryz.underlying23 info45 rfl (by decide) (by omega) u6 x6_3 (⟨(rd_T43 l1 x35_3).f0, false, true, (⟨(⟨#[]⟩ : ByteArray), (⟨#[]⟩ : ByteArray), 0, 0⟩ : S43), (⟨(rd_T43 l1 x35_3).f0, (rd_T43 l1 x35_3).f1, (rd_T43 l1 x35_3).f2, (rd_T43 l1 x35_3).f3⟩ : S43)⟩ : S45) [.string ((rd_T43 l1 x35_3).f0), .bool false, .bool true, .string (⟨#[]⟩ : ByteArray), .string (⟨#[]⟩ : ByteArray), .int .i64 0, .int .i64 0, .string ((rd_T43 l1 x35_3).f0), .string ((rd_T43 l1 x35_3).f1), .int .i64 ((rd_T43 l1 x35_3).f2), .int .i64 ((rd_T43 l1 x35_3).f3)] (fun k_ => some k_ ≠ (u5 : Value).ownBlock) (fun _ => False) rfl (by first | (go_simp; done) | (go_simp; rfl)) ?aP (fun _ hk => hk.elim) ?aF ?aO ?aB ?aS ?aL ?_; (case aP => exact k45_mkM _ _ _ (⟨(rd_T43 l1 x35_3).f0, false, true, (⟨(⟨#[]⟩ : ByteArray), (⟨#[]⟩ : ByteArray), 0, 0⟩ : S43), (⟨(rd_T43 l1 x35_3).f0, (rd_T43 l1 x35_3).f1, (rd_T43 l1 x35_3).f2, (rd_T43 l1 x35_3).f3⟩ : S43)⟩ : S45)); (case aB => exact (bes_ GE231.out)); (case aF => exact (fun k_ hk => Kd.fresh' (Kd.R_lt (by (with_reducible repeat (first | apply Kd.R_alloc | apply Kd.R_drewN | apply Kd.R_drew)); exact (Kd.R_mono (Kd.R_far (p := ⟨gb231, 3, none⟩) (Kd.R_far (p := ⟨gb231, 2, none⟩) (Kd.R_far (p := ⟨gb231, 1, none⟩) (Kd.R_far (p := ⟨gb231, 0, none⟩) (Kd.R_types HO_5.out BK231.out (by decide)) (fun _ hk => hk.2) (.string ((rd_T43 l1 x35_3).f0))) (fun _ hk => hk.2) (.string ((rd_T43 l1 x35_3).f1))) (fun _ hk => hk.2) (.int .i64 ((rd_T43 l1 x35_3).f2))) (fun _ hk => hk.2) (.int .i64 ((rd_T43 l1 x35_3).f3))) (fun _ h_ => h_.1)))) k_ hk)); (case aO => exact (by (with_reducible repeat (first | apply Kd.R_alloc | apply Kd.R_drewN | apply Kd.R_drew)); exact Kd.R_mono (Kd.R_far (p := ⟨gb231, 3, none⟩) (Kd.R_far (p := ⟨gb231, 2, none⟩) (Kd.R_far (p := ⟨gb231, 1, none⟩) (Kd.R_far (p := ⟨gb231, 0, none⟩) (Kd.R_types HO_6.out BK231.out (by decide)) (fun _ hk => hk.2) (.string ((rd_T43 l1 x35_3).f0))) (fun _ hk => hk.2) (.string ((rd_T43 l1 x35_3).f1))) (fun _ hk => hk.2) (.int .i64 ((rd_T43 l1 x35_3).f2))) (fun _ hk => hk.2) (.int .i64 ((rd_T43 l1 x35_3).f3))) (fun _ hk => hk.1))); (case aS => exact (below_size (bes_ GE231.out))); (case aL => have := LMc21.out; omega); intro v233 w24 ho hb hg hat; rw [← Ny232.out] at ho; have n0_ := Aside0.mk (Kd.R_after (ok := (fun _ => True)) (by (with_reducible repeat (first | apply Kd.R_alloc | apply Kd.R_drewN | apply Kd.R_drew)); exact Kd.R_mono (Kd.R_far (p := ⟨gb231, 3, none⟩) (Kd.R_far (p := ⟨gb231, 2, none⟩) (Kd.R_far (p := ⟨gb231, 1, none⟩) (Kd.R_far (p := ⟨gb231, 0, none⟩) (Kd.R_types HO_5.out BK231.out (by decide)) (fun _ hk => hk.2) (.string ((rd_T43 l1 x35_3).f0))) (fun _ hk => hk.2) (.string ((rd_T43 l1 x35_3).f1))) (fun _ hk => hk.2) (.int .i64 ((rd_T43 l1 x35_3).f2))) (fun _ hk => hk.2) (.int .i64 ((rd_T43 l1 x35_3).f3))) (fun _ hk => ⟨trivial, hk.1⟩)) hg hat); have n1_ := Aside0.mk (blk_grown (g := gb231) (o := .cells #[.string ((rd_T43 l1 x35_3).f0), .string ((rd_T43 l1 x35_3).f1), .int .i64 ((rd_T43 l1 x35_3).f2), .int .i64 ((rd_T43 l1 x35_3).f3)] 43 (0, 0)) (by refine ub_ ?_; refine blk_put (cs := #[.string ((rd_T43 l1 x35_3).f0), .string ((rd_T43 l1 x35_3).f1), .int .i64 ((rd_T43 l1 x35_3).f2), .int .i64 0]) ?_ 3 _ rfl; refine ub_ ?_; refine blk_put (cs := #[.string ((rd_T43 l1 x35_3).f0), .string ((rd_T43 l1 x35_3).f1), .int .i64 0, .int .i64 0]) ?_ 2 _ rfl; refine ub_ ?_; refine blk_put (cs := #[.string ((rd_T43 l1 x35_3).f0), .string (⟨#[]⟩ : ByteArray), .int .i64 0, .int .i64 0]) ?_ 1 _ rfl; refine ub_ ?_; refine blk_put (cs := #[.string (⟨#[]⟩ : ByteArray), .string (⟨#[]⟩ : ByteArray), .int .i64 0, .int .i64 0]) ?_ 0 _ rfl; refine ub_ ?_; exact BK231.out) hg (Kd.R_ne HO_6.out BK231.out (by decide))); have n2_ := Aside0.mk (hb); have n3_ := Aside0.mk (ho); clear HO_5; clear BK231; clear HB; clear HO_6; have HO_5 := n0_; have BK231 := n1_; have HB := n2_; have HO234 := n3_; clear n0_ n1_ n2_ n3_; clear ho hb hg hat))
       go_roundg k3
       case measure => have := HJ2.out; have := HK2.out; have := HK3.out; omega
       case rel => exact ⟨(y232), (wrap64 (x35_3 + 1)), (rf_), H', ⟨by have := HJ2.out; have := HK2.out; have := HK3.out; omega⟩, ⟨by (with_reducible repeat (first | apply Kd.R_alloc | apply Kd.R_drewN | apply Kd.R_drew)); exact Kd.R_mono HO_5.out (fun _ hk => hk.2)⟩, ⟨ur_ HO234.out⟩, ⟨bes_ GE231.out⟩⟩
end Go.Proofs.YtehfogjibhnabaaGreatDoor.PAll
