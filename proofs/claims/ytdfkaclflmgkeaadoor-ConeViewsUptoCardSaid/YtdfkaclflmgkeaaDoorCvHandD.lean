/- cone.Cover: what it answers; its walk, with that of the function it goes through. -/
import Derived.Test.YtdfkaclflmgkeaaDoorCvPAllx0
import Derived.Test.YtdfkaclflmgkeaaDoorCvHandA
import Derived.Test.YtdfkaclflmgkeaaDoorCvPAlly21
import Derived.Test.YtdfkaclflmgkeaaDoorCvPAlly3
import Derived.Test.YtdfkaclflmgkeaaDoorCvSpec
import Derived.RangeFuncNested
import Derived.RangeFuncBox
import Derived.RangeFuncBound
import Derived.RangeFuncCalls
import Derived.RangeFuncLeaves
import Derived.Shelf.Abstract
import Derived.Shelf.RegionOpen
import Derived.WalkKit
import Derived.OwnWalkIn
import Derived.TacticsInMore
import Derived.LoopNIn
import Derived.LoopIn
import Derived.Maps.AppendAt
namespace Go.Proofs.YtdfkaclflmgkeaaDoor.PAll
open Go.RowKit Go.Shelf Go.Proofs.YtdfkaclflmgkeaaDoorW.PrintWords Go.Proofs.YtdfkaclflmgkeaaDoorW.PrintLast Go.Proofs.YtdfkaclflmgkeaaDoorW.PrintMore
open Go.Proofs.YtdfkaclflmgkeaaDoor.Sp
def dirsOf (k : Nat) : List ByteArray → Option (List ByteArray)
 | [] => some []
 | x :: r => (path_Dir.f k x).bind fun d => (dirsOf k r).bind fun t => some (if d.toList = [] then t else d :: t)
def cone_Cover.f (k : Nat) (l0 : List ByteArray) : Option (List ByteArray) := if l0.length < 8796093022208 then (dirsOf k l0).bind fun o => paths_Heads.f k o else none
theorem dirsOf_mono : ∀ l k, LeO (dirsOf k l) (dirsOf (k + 1) l)
 | [], _ => LeO.refl _
 | x :: r, k => by
  unfold dirsOf
  exact LeO.bind (path_Dir.mono _ _) fun _ => LeO.bind (dirsOf_mono r k) fun _ => LeO.refl _
theorem cone_Cover.mono : ∀ a0 k, LeO (cone_Cover.f k a0) (cone_Cover.f (k + 1) a0) := fun _ _ => LeO.ite (LeO.bind (dirsOf_mono _ _) fun _ => paths_Heads.mono _ _) (LeO.refl _)
def dv (k : Nat) (x : ByteArray) : ByteArray := (path_Dir.f k x).getD ByteArray.empty
def gone (k : Nat) (l : List ByteArray) : List ByteArray := (l.map (dv k)).filter fun d => !(d.toList == [])
theorem dirsOf_gone (k : Nat) : ∀ l o, dirsOf k l = some o → (∀ x ∈ l, path_Dir.f k x = some (dv k x)) ∧ o = gone k l
 | [], o, h => by cases Option.some.inj h; exact ⟨fun x hx => absurd hx (by simp), rfl⟩
 | x :: r, o, h => by
  unfold dirsOf at h
  obtain ⟨d, hd, h⟩ := Option.bind_eq_some_iff.mp h
  obtain ⟨t, ht, h⟩ := Option.bind_eq_some_iff.mp h
  obtain ⟨h1, h2⟩ := dirsOf_gone k r t ht
  have e : dv k x = d := by unfold dv; rw [hd]; rfl
  cases Option.some.inj h
  refine ⟨fun y hy => ?_, ?_⟩
  ·rcases List.mem_cons.1 hy with rfl | hy
   ·rw [e]; exact hd
   ·exact h1 y hy
  ·subst h2
   by_cases c : d.toList = []
   ·rw [if_pos c]; simp [gone, e, c]
   ·rw [if_neg c]; simp [gone, e, c]
theorem gone_hit (k : Nat) (l : List ByteArray) (x : ByteArray) (h : (dv k x).toList ≠ []) : gone k (l ++ [x]) = gone k l ++ [dv k x] := by simp [gone, h]
theorem gone_miss (k : Nat) (l : List ByteArray) (x : ByteArray) (h : (dv k x).toList = []) : gone k (l ++ [x]) = gone k l := by simp [gone, h]
theorem gone_length (k : Nat) (l : List ByteArray) : (gone k l).length ≤ l.length := by
 unfold gone; exact Nat.le_trans (List.length_filter_le _ _) (by simp)
theorem gone_split (k : Nat) (l m : List ByteArray) : gone k (l ++ m) = gone k l ++ gone k m := by simp [gone]
theorem take_next (l : List ByteArray) (i : Nat) (h : i < l.length) : l.take (i + 1) = l.take i ++ [rdOf ByteArray.empty l (i : Int)] := by
 rw [List.take_add_one]
 congr 1
 simp [rdOf, List.getD_eq_getElem?_getD, List.getElem?_eq_getElem h]
def KpD (n₀ Bl : Nat) (W W' : World) : Prop := Below n₀ W W' ∧ (Bl < W.heap.size → W'.heap[Bl]? = W.heap[Bl]?)
theorem KpD.t {n₀ Bl : Nat} {A B C : World} (h : KpD n₀ Bl A B) (k : KpD n₀ Bl B C) : KpD n₀ Bl A C := ⟨h.1.trans k.1, fun hl => (k.2 (Nat.lt_of_lt_of_le hl h.1.size)).trans (h.2 hl)⟩
theorem KpD.b {n₀ Bl : Nat} {w : World} (hn : n₀ ≤ w.heap.size) (hB : Bl < w.heap.size) (W : World) (l : Nat) (o o' : Obj) (hl : w.heap.size ≤ l) (h : W.heap[l]? = some o) (h1 : o.isCells = false) (h2 : o.isWalk = false) : KpD n₀ Bl W (W.putObj l o') :=
 ⟨belowK_b hn W l o o' hl h h1 h2, fun _ => (grownBy_putObj' W l o').block Bl (by have := (Array.getElem?_eq_some_iff.1 h).1; omega) (by intro e; cases e; omega)⟩
theorem below_grown {W W' : World} (h : Below W.heap.size W W') : W.grownBy W' none := ⟨h.os, h.tape, h.output, h.size, fun k hk _ => h.block k hk⟩
attribute [local go_sem] Oper.semAt_some
set_option maxRecDepth 100000 in
set_option maxHeartbeats 2000000 in
theorem directories1_in (n : Nat) (hn : 1 ≤ n) (L Bl : Nat) (k : Nat) (A : Option Addr) (c : Nat) (l : List ByteArray) (w : World) (hR : Aside0 (Kd.C Kd.string w A l.length l)) (hd : ∀ x ∈ l, path_Dir.f k x = some (dv k x))
  (J Jx : List ByteArray → World → Prop) (B0 : Nat) (hJ : AbidesFrom B0 J)
  (hY : ∀ pre x W, J pre W → pre.length < l.length → YieldAt Fence.wide (n - 1) Tryd.prog L #[.string x] W fun e W' =>
   (e = .returned (.bool true) ∧ J (pre ++ [x]) W' ∧ KpD w.heap.size Bl W W') ∨ (e = .returned (.bool false) ∧ Jx (pre ++ [x]) W'))
  (W : World) (hW : Aside0 (Below w.heap.size w W)) (hBl : Aside0 (Boxed W Bl 22 (.slice A l.length c))) (h0 : J [] W) :
  CallsIn Fence.wide n Tryd.prog 85 #[.func (.yield L) #[] #[], .pointer (some ⟨Bl, 0, none⟩)] W fun e W' => (∃ v, e = .returned v) ∧
   ((∃ ys, ys = gone k l ∧ J ys W') ∨ (∃ pre, pre <+: gone k l ∧ Jx pre W')) := by
 have hbig : (l.length : Int) ≤ 9223372036854775807 := by have := hR.out.2.1; omega
 have hc0 := hBl.out.cell
 refine callsIn_of_wp Tryd.func85 rfl trivial ?_ rfl
 simp only [Tryd.ntmps85, List.size_toArray, List.length_cons, List.length_nil, Nat.reduceAdd, Nat.reduceSub, Array.replicate_succ, Array.replicate_zero, List.push_toArray, List.append_toArray, List.nil_append, List.cons_append]
 gi_wp2
 gi_loopw [7] (fun i wr => ∃ kk : Nat, kk ≤ l.length ∧ i = .int .i64 kk ∧ J (gone k (l.take kk)) wr ∧ Aside0 (Below w.heap.size w wr) ∧ Aside0 (Boxed wr Bl 22 (.slice A l.length c)))
  (fun i _ => l.length - (intOf i).toNat)
 case atStart => exact ⟨0, Nat.zero_le _, rfl, h0, hW, hBl⟩
 case round =>
  obtain ⟨kk, hk, rfl, hJs, hB, hx⟩ := hrel
  by_cases hlt : kk < l.length
  ·have hltz : (kk : Int) < (l.length : Int) := by omega
   have hcx := hx.out.cell
   obtain ⟨ad, ea, hcell⟩ := Kd.at_string hR.out (kk : Int) (by omega) (by omega)
   cases ea
   rw [Int.toNat_natCast] at hcell
   replace hcell := (hB.out.cell (World.block_lt_of_cell? w _ hcell)).trans hcell
   have hdir := fun wd => path_Dir.calls k (rdOf ByteArray.empty l (kk : Int)) (dv k (rdOf ByteArray.empty l (kk : Int))) wd (hd _ (by simp only [rdOf, Int.toNat_natCast, List.getD_eq_getElem?_getD, List.getElem?_eq_getElem hlt, Option.getD_some]; exact List.getElem_mem hlt))
   have htk := take_next l kk hlt
   generalize rdOf ByteArray.empty l (kk : Int) = x at hcell hdir htk
   have hJ2 : ∀ pre W1 W2, J pre W1 → Below W1.heap.size W1 W2 → J pre W2 := fun pre W1 W2 h hb => hJ pre W1 W2 none h (below_grown hb) (fun r e => by cases e)
   have hB2 : ∀ W2, Below wr.heap.size wr W2 → Below w.heap.size w W2 := fun W2 hb => below_step hB.out hb
   have hX2 : ∀ W2, Below wr.heap.size wr W2 → Boxed W2 Bl 22 (.slice (some ad) l.length c) := fun W2 hb => (hb.block Bl hx.out.lt).trans hx.out
   by_cases c4 : (dv k x).toList = []
   ·have C4 := Aside0.mk c4
    have htk2 : gone k (l.take (kk + 1)) = gone k (l.take kk) := by rw [htk, gone_miss k _ _ c4]
    clear htk
    generalize dv k x = d at hdir c4 C4
    clear c4
    gi_wp2_with (refine ⟨trivial, ?_⟩; gi_at_call 23; refine (callsIn_wide.2 (hdir _)).mono ?_; rintro e w1 ⟨rfl, hb1⟩)
    ·refine ⟨fun _ h => (by cases h), ?_⟩
     gi_wp2
     go_roundw
     case rel => exact ⟨kk + 1, by omega, by simp, by rw [htk2]; exact hJ2 _ _ _ hJs hb1, ⟨hB2 _ hb1⟩, ⟨hX2 _ hb1⟩⟩
     case measure => simp [intOf]; omega
    ·exact absurd C4.out (by assumption)
   ·have C4 := Aside0.mk c4
    have htk2 : gone k (l.take (kk + 1)) = gone k (l.take kk) ++ [dv k x] := by rw [htk, gone_hit k _ _ c4]
    have hlen : (gone k (l.take kk)).length < l.length := by have := gone_length k (l.take kk); simp only [List.length_take] at this; omega
    have hpre : gone k (l.take kk) ++ [dv k x] <+: gone k l := by
     rw [← htk2]; refine ⟨gone k (l.drop (kk + 1)), ?_⟩; rw [← gone_split, List.take_append_drop]
    clear htk
    generalize dv k x = d at hdir c4 C4 htk2 hpre
    clear c4
    gi_wp2_with (refine ⟨trivial, ?_⟩; gi_at_call 23; refine (callsIn_wide.2 (hdir _)).mono ?_; rintro e w1 ⟨rfl, hb1⟩; obtain ⟨fn, tmps, assign, body, hy, hRd⟩ := hY _ d w1 (hJ2 _ _ _ hJs hb1) hlen)
    ·exact absurd (by assumption) C4.out
    ·have hX1 := hX2 _ hb1
     refine hRd.mono ?_
     rintro e W3 (⟨rfl, hJ3, hk3⟩ | ⟨rfl, hJx3⟩)
     ·have hB3 := (hB2 _ hb1).trans hk3.1
      have hX3 : Boxed W3 Bl 22 (.slice (some ad) l.length c) := (hk3.2 hX1.lt).trans hX1
      clear hk3
      gi_wp2
      go_roundw
      case rel => exact ⟨kk + 1, by omega, by simp, by rw [htk2]; exact hJ3, ⟨hB3⟩, ⟨hX3⟩⟩
      case measure => simp [intOf]; omega
     ·have c4e : d.toList.isEmpty = false := by simpa using C4.out
      gi_wp2
      refine bodyPost_ret (results_none rfl _ _ _) rfl ?_
      exact ⟨⟨_, rfl⟩, .inr ⟨_, hpre, hJx3⟩⟩
  ·obtain rfl : kk = l.length := by omega
   gi_wp2
   go_end0
   refine ⟨⟨_, rfl⟩, .inl ⟨_, rfl, ?_⟩⟩
   rw [List.take_length] at hJs; exact hJs
theorem directories_in (n : Nat) (A : Option Addr) (len c : Nat) (w : World) :
  CallsIn Fence.wide n Tryd.prog 61 #[.slice A len c] w fun e w' => e = .returned (.func (.func 85) #[] #[.pointer (some ⟨w.heap.size, 0, none⟩)]) ∧ w' = w.alloc (.cells #[.slice A len c] 22) := by
 refine callsIn_of_wp Tryd.func61 rfl trivial ?_ rfl
 simp only [Tryd.ntmps61, List.size_toArray, List.length_cons, List.length_nil, Nat.reduceAdd, Nat.reduceSub, Array.replicate_succ, Array.replicate_zero, List.push_toArray, List.append_toArray, List.nil_append, List.cons_append]
 gi_wp2
 go_ret
 exact ⟨rfl, rfl⟩
theorem directories_stops (n : Nat) (hn : 1 ≤ n) (Bl : Nat) (k : Nat) (A : Option Addr) (c : Nat) (l : List ByteArray) (w w0 : World) (hR : Aside0 (Kd.C Kd.string w A l.length l)) (hd : ∀ x ∈ l, path_Dir.f k x = some (dv k x))
  (hw : Below w.heap.size w w0) (hBl : Boxed w0 Bl 22 (.slice A l.length c)) :
  SeqStopsK Fence.wide n Tryd.prog 85 #[.pointer (some ⟨Bl, 0, none⟩)] (fun x : ByteArray => #[Value.string x]) (KpD w.heap.size Bl) (fun ys => ys = gone k l) (fun pre => pre <+: gone k l) l.length w0 := fun L J Jx W hW hJ _ hY h0 =>
 directories1_in n hn L Bl k A c l w hR hd J Jx _ hJ hY W ⟨hw.trans (hW.mono hw.size)⟩ ⟨(hW.block Bl hBl.lt).trans hBl⟩ h0
theorem info_str : (Tryd.prog.info? 9).map (fun i => (i.zero, i.size, i.bytes)) = some (some (.string ByteArray.empty), 1, 16) := by kernel_rfl
set_option maxRecDepth 100000 in
set_option maxHeartbeats 2000000 in
theorem cone_Cover.calls (k : Nat) (A0 : Option Addr) (c0 : Nat) (l0 : List ByteArray) (r : List ByteArray) (w : World) (hr0 : Kd.C Kd.string w A0 l0.length l0) (_hc0 : l0.length ≤ c0) (h : cone_Cover.f k l0 = some r) :
  Calls Tryd.prog 30 #[.slice A0 l0.length c0] w fun e w' => ∃ v0_ : Value, e = .returned (v0_) ∧ Kd.R Kd.string 9 w' w.heap.size (fun _ => True) v0_ r ∧ Below w.heap.size w w' := by
 have hR := Aside0.mk hr0
 unfold cone_Cover.f at h
 by_cases hl : l0.length < 8796093022208
 ·rw [if_pos hl] at h
  obtain ⟨o, ho, hH⟩ := Option.bind_eq_some_iff.mp h
  obtain ⟨hd, rfl⟩ := dirsOf_gone k l0 o ho
  clear h ho
  obtain ⟨i0, hi, hz0, hz1, hz2⟩ := info_parts info_str
  refine (callsIn_wide (n := 4)).1 ?_
  refine callsIn_of_wp_marks Tryd.func30 rfl trivial ?_ rfl
  simp only [Tryd.ntmps30, List.size_toArray, List.length_cons, List.length_nil, Nat.reduceAdd, Nat.reduceSub, Array.replicate_succ, Array.replicate_zero, List.push_toArray, List.append_toArray, List.nil_append, List.cons_append]
  gi_wp2_with (refine ⟨trivial, ?_⟩; gi_at_call 61; refine (directories_in _ _ _ _ _).mono ?_; rintro e w' ⟨rfl, rfl⟩)
  have bO := Boxed.new w 22 (.slice none 0 0)
  have bN := Boxed.new (w.alloc (.cells #[.slice none 0 0] 22)) 22 (.slice A0 l0.length c0)
  rw [World.size_alloc] at bN
  have hB0 : Below w.heap.size w ((w.alloc (.cells #[.slice none 0 0] 22)).alloc (.cells #[.slice A0 l0.length c0] 22)) := ((Below.refl _ w).alloc (Nat.le_refl _) _).alloc (by simp) _
  have hm : 8796093022208 ≤ maxLen := by decide
  refine wpIn_rangeFunc_ownG rfl (by omega) (gf := 85) (lb := #[.pointer (some ⟨w.heap.size + 1, 0, none⟩)]) rfl trivial (enters_of Tryd.func85 (by kernel_rfl) rfl)
   (directories_stops _ (by omega) (w.heap.size + 1) k A0 c0 l0 w _ hR hd hB0 bN) KpD.t (KpD.b (by simp; omega) (by simp)) (Below.refl _ _) (fun _ => rfl)
   (fun (pre : List ByteArray) W => (∃ v, Boxed W w.heap.size 22 v ∧ W.ownsRow w.heap.size 9 1 v pre.length (pre.map Value.string) ∧ True) ∧ (Boxed W (w.heap.size + 1) 22 (.slice A0 l0.length c0) ∧ Below w.heap.size w W))
   (fun _ _ _ => False)
   (OwnFrom.and (Own.from (holdsRow_own w.heap.size w.heap.size 22 9 1 (fun pre : List ByteArray => pre.length) (fun pre : List ByteArray => pre.map Value.string) (fun _ _ => True)) _) (OwnFrom.and (Own.from (boxed_own (w.heap.size + 1) 22 (fun _ => .slice A0 l0.length c0)) _) (ownFrom_below (Nat.le_refl _) (by simp; omega))))
   (fun _ _ _ _ _ hs _ _ => hs)
   ⟨⟨_, bO.alloc _, World.ownsRow_nil _ _ _ _, trivial⟩, bN, hB0⟩
   (fun x => { tmps := #[.slice A0 l0.length c0, undef, .slice none 0 0, .pointer (some ⟨w.heap.size, 0, none⟩), .string x, .slice A0 l0.length c0, .func (.func 85) #[] #[.pointer (some ⟨w.heap.size + 1, 0, none⟩)], .string x, undef, undef, undef, undef, undef, undef], defers := [] }) ?assign ?body ?done ?stop
  case assign =>
   intro l x W K hK
   gi_wp2
   exact hK
  case body =>
   rintro l pre x W ⟨⟨v, hv, hrow, _⟩, hX, hB⟩ hlt
   have hc := hv.cell
   gi_wp2_with (gi_at_builtin; refine wpListIn_append_own _ rfl _ _ 22 rfl w.heap.size 9 i0 (.string ByteArray.empty) 1 16 Tryd.underlying22 hi hz0 hz1 hz2 rfl (by decide) _ _ _ rfl (hrow.alloc _) ⟨W.heap.size, 0, none⟩ 1 1 [.string x] rfl rfl (cell_one_new _ _ _) (by simp [Value.oneCell']) (by omega) (by omega) (by have := hB.size; simp; omega) ?_; intro v' w1 hown' hgrow _; obtain ⟨g', cap', rfl⟩ := ownsRow_succ hown'; obtain ⟨hv1, hv2, hr2, hk2, hb2⟩ := hv.appended (by decide) hrow hB.size (Nat.le_refl _) hown' hgrow; have hX2 := ((hX.alloc _).kept hgrow (hX.not_row (by decide) hrow)); have hc1 := hv1.cell; have hf1 := hv1.frozen)
   have hX3 := hX2.other (B' := w.heap.size) (by omega) (.slice (some ⟨g', 0, none⟩) (pre.length + 1) cap')
   exact ⟨hk2.from _, ⟨hb2, fun _ => hX3.trans hX.symm⟩, ⟨_, hv2, by simpa using hr2, trivial⟩, hX3, hB.trans hb2⟩
  case done =>
   rintro D ys W hD rfl ⟨⟨v, hv, hrow, _⟩, hX, hB⟩ hK
   have hD1 : D < W.heap.size := (Array.getElem?_eq_some_iff.1 hK).1
   have hD0 : w.heap.size ≤ D := by simp at hD; omega
   have hRow : Kd.R Kd.string 9 W w.heap.size (fun _ => True) v (gone k l0) := ⟨fun _ _ => trivial, (gone k l0).map Value.string, by simpa [Kd.string, Kd.scalar] using hrow, reps_strs (M := Kd.string.M W w.heap.size (fun k' => (fun _ => True) k' ∧ some k' ≠ v.ownBlock)) (fun _ => rfl) _⟩
   obtain ⟨A1, n1, rfl, l1, r1⟩ := Kd.R_reads hRow
   have hc := hv.cell
   gi_wp2_with (refine ⟨trivial, ?_⟩; gi_at_call 20; refine (callsIn_wide.2 (paths_Heads.calls k A1 n1 (gone k l0) r _ r1 l1 hH)).mono ?_; rintro e w2 ⟨v0, rfl, hv0, hb2⟩)
   have hK2 : w2.heap[D]? = some (.deferred (some [])) := (hb2.block D hD1).trans hK
   refine ⟨by simp, .inl ⟨_, _, rfl, run_takeDeferred hK2, ?_⟩⟩
   refine ⟨_, results_tmp rfl _ _ _, v0, rfl, ?_, ?_⟩
   ·exact Kd.R_mono (Kd.R_lower (Kd.R_grown (Kd.R_bound hv0) (grownBy_putObj' w2 D _) (fun q hq e => by cases e; have := hq.2.1; omega)) hB.size) (fun _ _ => trivial)
   ·exact (below_step hB hb2).trans (belowK_b (w := w) (Nat.le_refl _) w2 D _ _ hD0 hK2 rfl rfl)
  case stop =>
   rintro D c pre W _ _ h _
   exact h.elim
 ·rw [if_neg hl] at h; cases h
end Go.Proofs.YtdfkaclflmgkeaaDoor.PAll
