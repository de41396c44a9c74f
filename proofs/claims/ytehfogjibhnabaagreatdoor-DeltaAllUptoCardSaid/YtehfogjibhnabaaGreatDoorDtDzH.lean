/- Layer 6: DeltaAll: what is written lies apart; the longer lists. -/
import Derived.Test.YtehfogjibhnabaaGreatDoorDtPAllx0
import Derived.Test.YtehfogjibhnabaaGreatDoorDtHandA
import Derived.Test.YtehfogjibhnabaaGreatDoorDtPAlly7
import Derived.Test.YtehfogjibhnabaaGreatDoorDtPAlly3
import Derived.WalkKit
import Derived.Test.YtehfogjibhnabaaGreatDoorDtPAlly13
import Derived.Test.YtehfogjibhnabaaGreatDoorDtPAlly15
import Derived.Test.YtehfogjibhnabaaGreatDoorDtDelQ
import Derived.BigQuiet
import Derived.Outline
import Derived.Test.YtehfogjibhnabaaGreatDoorDtPAlly17
import Derived.Test.YtehfogjibhnabaaGreatDoorDtDelY
import Derived.Test.YtehfogjibhnabaaGreatDoorDtPAlly5
set_option linter.unusedSimpArgs false
namespace Go.Proofs.YtehfogjibhnabaaGreatDoor.PAll
open Go.RowKit Go.Proofs.YtehfogjibhnabaaGreatDoorW.PrintWords Go.Proofs.YtehfogjibhnabaaGreatDoorW.PrintLast Go.Proofs.YtehfogjibhnabaaGreatDoorW.PrintMore
open Go.Proofs.YtehfogjibhnabaaGreatDoor.Sp
theorem R_between {α : Type} {d : Kd α} {e base : Nat} {ok : Nat → Prop} {W : World} {v : Value} {xs : List α} (h : d.R e W base ok v xs) : d.R e W base (fun k => base ≤ k ∧ k < W.heap.size) v xs :=
 Kd.R_mono (Kd.R_bound h) (fun _ hk => ⟨hk.2.1, hk.2.2.1⟩)
structure Held4 (s0 s1 s2 s3 s4 N : Nat) (w WN : World) (vx vy vp vq : Value) (lx ly : List S43) (lp lq : List S45) (W : World) : Prop where
 le : s0 ≤ s1 ∧ s1 ≤ s2 ∧ s2 ≤ s3 ∧ s3 ≤ s4 ∧ s4 ≤ N
 bw : Below s0 w W
 sz : N ≤ W.heap.size
 fr : ∀ k, k < N → ¬ (s0 ≤ k ∧ k < s4) → W.heap[k]? = WN.heap[k]?
 rx : Kd.R k43 43 W s0 (fun k => s0 ≤ k ∧ k < s1) vx lx
 ry : Kd.R k43 43 W s0 (fun k => s1 ≤ k ∧ k < s2) vy ly
 rp : Kd.R k45 45 W s0 (fun k => s2 ≤ k ∧ k < s3) vp lp
 rq : Kd.R k45 45 W s0 (fun k => s3 ≤ k ∧ k < s4) vq lq
section
variable {s0 s1 s2 s3 s4 N : Nat} {w WN W W1 : World} {vx vy vp vq : Value} {lx ly l' : List S43} {lp lq d' : List S45}
theorem Held4.base (h : Held4 s0 s1 s2 s3 s4 N w WN vx vy vp vq lx ly lp lq W) : s0 ≤ W.heap.size := by
 have := h.le
 have := h.sz
 omega
theorem Held4.x_step (h : Held4 s0 s1 s2 s3 s4 N w WN vx vy vp vq lx ly lp lq W) {g : Nat} (hv : vx.ownBlock = some g) (hg : W.grownBy W1 (some g)) (hr : Kd.R k43 43 W1 s0 (fun k => s0 ≤ k ∧ k < s1) vx l') : Held4 s0 s1 s2 s3 s4 N w WN vx vy vp vq l' ly lp lq W1 := by
 have hle := h.le
 have hsz := h.sz
 have hgg := h.rx.1 g hv
 have st : ∀ k, k < N → k ≠ g → W1.heap[k]? = W.heap[k]? := fun k hk hne => hg.block k (by omega) (fun e => hne (by injection e))
 refine ⟨hle, h.bw.grown hg h.base (fun k hk => by injection hk with hk; omega), Nat.le_trans hsz hg.size, fun k hk q0 => (st k hk (by omega)).trans (h.fr k hk q0), hr, Kd.R_step h.ry fun k hk _ => st k (by omega) (by omega), Kd.R_step h.rp fun k hk _ => st k (by omega) (by omega), Kd.R_step h.rq fun k hk _ => st k (by omega) (by omega)⟩
theorem Held4.y_step (h : Held4 s0 s1 s2 s3 s4 N w WN vx vy vp vq lx ly lp lq W) {g : Nat} (hv : vy.ownBlock = some g) (hg : W.grownBy W1 (some g)) (hr : Kd.R k43 43 W1 s0 (fun k => s1 ≤ k ∧ k < s2) vy l') : Held4 s0 s1 s2 s3 s4 N w WN vx vy vp vq lx l' lp lq W1 := by
 have hle := h.le
 have hsz := h.sz
 have hgg := h.ry.1 g hv
 have st : ∀ k, k < N → k ≠ g → W1.heap[k]? = W.heap[k]? := fun k hk hne => hg.block k (by omega) (fun e => hne (by injection e))
 refine ⟨hle, h.bw.grown hg h.base (fun k hk => by injection hk with hk; omega), Nat.le_trans hsz hg.size, fun k hk q0 => (st k hk (by omega)).trans (h.fr k hk q0), Kd.R_step h.rx fun k hk _ => st k (by omega) (by omega), hr, Kd.R_step h.rp fun k hk _ => st k (by omega) (by omega), Kd.R_step h.rq fun k hk _ => st k (by omega) (by omega)⟩
theorem Held4.p_step (h : Held4 s0 s1 s2 s3 s4 N w WN vx vy vp vq lx ly lp lq W) {g : Nat} (hv : vp.ownBlock = some g) (hg : W.grownBy W1 (some g)) (hr : Kd.R k45 45 W1 s0 (fun k => s2 ≤ k ∧ k < s3) vp d') : Held4 s0 s1 s2 s3 s4 N w WN vx vy vp vq lx ly d' lq W1 := by
 have hle := h.le
 have hsz := h.sz
 have hgg := h.rp.1 g hv
 have st : ∀ k, k < N → k ≠ g → W1.heap[k]? = W.heap[k]? := fun k hk hne => hg.block k (by omega) (fun e => hne (by injection e))
 refine ⟨hle, h.bw.grown hg h.base (fun k hk => by injection hk with hk; omega), Nat.le_trans hsz hg.size, fun k hk q0 => (st k hk (by omega)).trans (h.fr k hk q0), Kd.R_step h.rx fun k hk _ => st k (by omega) (by omega), Kd.R_step h.ry fun k hk _ => st k (by omega) (by omega), hr, Kd.R_step h.rq fun k hk _ => st k (by omega) (by omega)⟩
theorem Held4.q_step (h : Held4 s0 s1 s2 s3 s4 N w WN vx vy vp vq lx ly lp lq W) {g : Nat} (hv : vq.ownBlock = some g) (hg : W.grownBy W1 (some g)) (hr : Kd.R k45 45 W1 s0 (fun k => s3 ≤ k ∧ k < s4) vq d') : Held4 s0 s1 s2 s3 s4 N w WN vx vy vp vq lx ly lp d' W1 := by
 have hle := h.le
 have hsz := h.sz
 have hgg := h.rq.1 g hv
 have st : ∀ k, k < N → k ≠ g → W1.heap[k]? = W.heap[k]? := fun k hk hne => hg.block k (by omega) (fun e => hne (by injection e))
 refine ⟨hle, h.bw.grown hg h.base (fun k hk => by injection hk with hk; omega), Nat.le_trans hsz hg.size, fun k hk q0 => (st k hk (by omega)).trans (h.fr k hk q0), Kd.R_step h.rx fun k hk _ => st k (by omega) (by omega), Kd.R_step h.ry fun k hk _ => st k (by omega) (by omega), Kd.R_step h.rp fun k hk _ => st k (by omega) (by omega), hr⟩
theorem Held4.kept {α : Type} {d : Kd α} {e b lo hi : Nat} {v : Value} {xs : List α} (h : Held4 s0 s1 s2 s3 s4 N w WN vx vy vp vq lx ly lp lq W) (hr : d.R e WN b (fun k => lo ≤ k ∧ k < hi) v xs) (hN : hi ≤ N) (h0 : s4 ≤ lo) : d.R e W b (fun k => lo ≤ k ∧ k < hi) v xs :=
 Kd.R_step hr fun k hk _ => h.fr k (by omega) (by omega)
end
def markF (i : Nat) : S43 := ⟨⟨#[63]⟩, ⟨#[]⟩, (i : Int), 0⟩
def markC (i : Nat) : S45 := ⟨⟨#[63]⟩, false, false, ⟨⟨#[]⟩, ⟨#[]⟩, (i : Int), 0⟩, ⟨⟨#[]⟩, ⟨#[]⟩, 0, 0⟩⟩
theorem lentf06_run (d : Nat) : ∀ (i : Nat) (acc : List S43), 20 - i = d → i ≤ 20 → acc.length ≤ 1073741824 + i → Ev (fun k => copselaw06_lentFiles.l0 k acc (i : Int)) (acc ++ ((List.range 20).drop i).map markF) := by
 induction d with
 | zero =>
  intro i acc hd hi _
  refine ⟨1, fun k hk => ?_⟩
  obtain ⟨k, rfl⟩ : ∃ m, k = m + 1 := ⟨k - 1, by omega⟩
  simp only [copselaw06_lentFiles.l0]
  rw [if_neg (by omega), List.drop_of_length_le (by simp; omega)]
  simp
 | succ d ih =>
  intro i acc hd hi ha
  have hlt : i < 20 := by omega
  have e1 : (List.range 20).drop i = i :: (List.range 20).drop (i + 1) := by
   rw [List.drop_eq_getElem_cons (by simpa using hlt)]
   simp
  refine Ev.step (f := fun k => copselaw06_lentFiles.l0 k (acc ++ [markF i]) ((i + 1 : Nat) : Int)) (fun k => ?_) (Ev.val (ih (i + 1) (acc ++ [markF i]) (by omega) (by omega) (by simp; omega)) (by rw [e1]; simp))
  simp only [copselaw06_lentFiles.l0]
  rw [if_pos (by omega), if_pos (by omega), wrap_succ (n := 20) hlt (by decide)]
  rfl
theorem lentf06 (l : List S43) (hl : l.length ≤ 1073741824) : Ev (fun k => copselaw06_lentFiles.f k l) (l ++ (List.range 20).map markF) := by
 refine Ev.congr (fun k => ?_) (Ev.val (lentf06_run 20 0 l (by omega) (by omega) (by omega)) (by simp))
 unfold copselaw06_lentFiles.f
 rw [if_pos (by simp; omega)]; rfl
theorem lentc06_run (d : Nat) : ∀ (i : Nat) (acc : List S45), 20 - i = d → i ≤ 20 → acc.length ≤ 1073741824 + i → Ev (fun k => copselaw06_lentChanges.l0 k acc (i : Int)) (acc ++ ((List.range 20).drop i).map markC) := by
 induction d with
 | zero =>
  intro i acc hd hi _
  refine ⟨1, fun k hk => ?_⟩
  obtain ⟨k, rfl⟩ : ∃ m, k = m + 1 := ⟨k - 1, by omega⟩
  simp only [copselaw06_lentChanges.l0]
  rw [if_neg (by omega), List.drop_of_length_le (by simp; omega)]
  simp
 | succ d ih =>
  intro i acc hd hi ha
  have hlt : i < 20 := by omega
  have e1 : (List.range 20).drop i = i :: (List.range 20).drop (i + 1) := by
   rw [List.drop_eq_getElem_cons (by simpa using hlt)]
   simp
  refine Ev.step (f := fun k => copselaw06_lentChanges.l0 k (acc ++ [markC i]) ((i + 1 : Nat) : Int)) (fun k => ?_) (Ev.val (ih (i + 1) (acc ++ [markC i]) (by omega) (by omega) (by simp; omega)) (by rw [e1]; simp))
  simp only [copselaw06_lentChanges.l0]
  rw [if_pos (by omega), if_pos (by omega), wrap_succ (n := 20) hlt (by decide)]
  rfl
theorem lentc06 (l : List S45) (hl : l.length ≤ 1073741824) : Ev (fun k => copselaw06_lentChanges.f k l) (l ++ (List.range 20).map markC) := by
 refine Ev.congr (fun k => ?_) (Ev.val (lentc06_run 20 0 l (by omega) (by omega) (by omega)) (by simp))
 unfold copselaw06_lentChanges.f
 rw [if_pos (by simp; omega)]; rfl
theorem front06 {α : Type} {d : Kd α} {e base c : Nat} {ok : Nat → Prop} {W : World} {A : Option Addr} {xs ys : List α} (h : d.R e W base ok (.slice A xs.length c) xs) (ht : xs.take ys.length = ys) (hle : ys.length ≤ xs.length) : d.C W A ys.length ys := by
 have := Kd.C_take (m := ys.length) (Kd.R_reads' h).2.2 hle
 rwa [ht] at this
theorem rdC_get (l : List S45) (i : Nat) (h : i < l.length) : rd_T45 l (i : Int) = l[i] := by
 unfold rd_T45
 rw [Int.toNat_natCast, List.getD_eq_getElem?_getD, List.getElem?_eq_getElem h]; rfl
theorem validD_no {l : List S45} (i : Nat) (hi : i < l.length) (h : mayB (rd_T45 l (i : Int)) = false) : validD l = false := by
 cases e : validD l with
 | false => rfl
 | true =>
  rw [(validD_iff.1 e).may _ (rdC_mem l i hi)] at h
  cases h
theorem validD_off {l : List S45} (i : Nat) (hi : i + 1 < l.length) (h : ¬ cB (rd_T45 l (i : Int)).f0 (rd_T45 l ((i + 1 : Nat) : Int)).f0 < 0) : validD l = false := by
 cases e : validD l with
 | false => rfl
 | true =>
  have hp := (validD_iff.1 e).rises
  unfold RisesK at hp
  rw [List.pairwise_iff_getElem] at hp
  rw [rdC_get l i (by omega), rdC_get l (i + 1) hi] at h
  exact absurd (hp i (i + 1) (by omega) hi (by omega)) h
theorem validD_yes {l : List S45} (h1 : ∀ j, j < l.length → mayB (rd_T45 l (j : Int)) = true) (h2 : ∀ j, j + 1 < l.length → cB (rd_T45 l (j : Int)).f0 (rd_T45 l ((j + 1 : Nat) : Int)).f0 < 0) : validD l = true := by
 refine validD_iff.2 ⟨fun c hc => ?_, ?_⟩
 ·obtain ⟨j, hj, rfl⟩ := List.getElem_of_mem hc
  rw [← rdC_get l j hj]
  exact h1 j hj
 have far : ∀ n i, i + (n + 1) < l.length → cB (rd_T45 l (i : Int)).f0 (rd_T45 l ((i + (n + 1) : Nat) : Int)).f0 < 0 := by
  intro n
  induction n with
  | zero => exact fun i hi => h2 i hi
  | succ n ih => exact fun i hi => cB_trans (ih i (by omega)) (h2 (i + (n + 1)) (by omega))
 unfold RisesK
 rw [List.pairwise_iff_getElem]
 intro i j hi hj hij
 have := far (j - i - 1) i (by omega)
 rw [show i + (j - i - 1 + 1) = j by omega, rdC_get l i hi, rdC_get l j hj] at this
 exact this
def Ref06V.T4 : Bool × List (List Nat × List Nat) := (true, [([], []), ([], []), ([0, 1], [0, 1]), ([2], [2]), ([3], [3]), ([4], [4]), ([5, 4], [5]), ([6], [6]), ([7, 6], [6, 7]), ([8, 6, 6], [6, 8]), ([9], [9]), ([9], [9]), ([11, 9], [9, 11]), ([10, 12, 9], [9, 10, 12]), ([13, 9], [9, 13]), ([14, 9], [9, 14]), ([9], [9]), ([9], [9]), ([16, 17, 9], [9, 16, 17]), ([18, 9], [9, 18]), ([19, 9], [9, 19]), ([15, 20, 9, 9], [9, 15, 20]), ([21, 9], [9, 21]), ([9, 22, 6], [6, 9, 22]), ([6, 23], [6, 23])])
def Ref06V.B4 : List Nat := [0, 0, 3, 7, 15, 31, 63, 127, 255, 511, 1023, 1023, 3071, 8191, 16383, 32767, 1023, 1023, 197631, 459775, 984063, 2097151, 4194303, 8388607, 16777215]
theorem Ref06V.tab4 : rtab .any (opsOf Tryz.f8 4) = Ref06V.T4 := by kernel_rfl
theorem Ref06V.bits4 : waitsOk Ref06V.T4.2 Ref06V.B4 = true := by kernel_rfl
set_option maxHeartbeats 4000000 in
set_option maxRecDepth 100000 in
theorem ref06_calls (A0 : Option Addr) (c0 : Nat) (l : List S45) (w : World) (hr0 : Kd.C k45 w A0 l.length l) (hl : l.length ≤ 1073741824) (hf : FitsD l) :
  Calls Tryz.prog 8 #[.slice A0 l.length c0] w fun e w' => e = .returned (.bool (validD l)) ∧ Below w.heap.size w w' := by
 have hu := Tryz.underlying43
 have hu2 := Tryz.underlying45
 have HR := Aside0.mk hr0
 have HF := Aside0.mk hf
 have CMP : Aside0 (∀ f g : S45, f.f0.size ≤ 1073741824 → g.f0.size ≤ 1073741824 → ∃ k, copseref02_Cmp.f k f.f0 g.f0 = some (cB f.f0 g.f0)) := ⟨fun f g h1 h2 => Ev.rounds (ref_cmp f.f0 g.f0 (by omega) (by omega))⟩
 clear hr0 hf
 go_enter Tryz.func8, Tryz.ntmps8
 go_wp2
 go_loopg [3] l.length (fun gg s3 wr => ∃ i : Nat, i ≤ l.length ∧ l.length - i ≤ gg ∧ s3 = .int .i64 i ∧ Aside0 (∀ j, j < i → mayB (rd_T45 l (j : Int)) = true) ∧ Aside0 (∀ j, j + 1 < i → cB (rd_T45 l (j : Int)).f0 (rd_T45 l ((j + 1 : Nat) : Int)).f0 < 0) ∧ Aside0 (Below w.heap.size w wr))
 case atStart => exact ⟨0, by omega, by omega, rfl, ⟨fun j h => absurd h (by omega)⟩, ⟨fun j h => absurd h (by omega)⟩, ⟨Below.refl _ _⟩⟩
 case round =>
  obtain ⟨i, hi, hg, rfl, P1, P2, B1⟩ := hrel
  by_cases hlt : i < l.length
  rotate_left
  ·have hltz : ¬ (i : Int) < (l.length : Int) := by omega
   obtain rfl : i = l.length := by omega
   have SV := Aside0.mk (validD_yes P1.out P2.out)
   go_wp2
   go_ret
   exact ⟨by rw [SV.out]; rfl, B1.out⟩
  have hltz : (i : Int) < (l.length : Int) := by omega
  obtain ⟨ad, rfl, p0, p1, p2, p3, p4, p5, p6, p7, p8, p9, p10⟩ := at_T45 (Kd.C_below HR.out B1.out) (i : Int) (by omega) hltz
  rw [Int.toNat_natCast] at p0 p1 p2 p3 p4 p5 p6 p7 p8 p9 p10
  have SX := Aside0.mk (HF.out _ (rdC_mem l i hlt)).1
  have VN : Aside0 (mayB (rd_T45 l (i : Int)) = false → validD l = false) := ⟨validD_no i hlt⟩
  obtain ⟨x, hx⟩ : ∃ x, rd_T45 l (i : Int) = x := ⟨_, rfl⟩
  rw [hx] at p0 p1 p2 p3 p4 p5 p6 p7 p8 p9 p10 SX VN
  have HX := Aside0.mk hx
  clear hx
  cases hm : mayB x with
  | false =>
   have SV := Aside0.mk (VN.out hm)
   clear VN
   go_wp2
   refine start_ (n := 25) (S := fun w' => Below wr.heap.size wr w') (ds := []) (lb 25 0) (by kernel_rfl) rfl rfl (Below.refl _ wr).drew (fun hHeld => ?_); refine with_tabW Ref06V.tab4 Ref06V.bits4 (fun HT_ HW_ => ?_)
   refine pv_ 0 10 (lb 25 1) HT_.out ?_
   refine pv_ 1 11 (lb 25 3) HT_.out ?_
   refine pv_ 2 12 (lb 25 7) HT_.out ?_
   refine take_ (i := 3) (N := some 13) (v := ?_) (a' := ?_) (lb 25 15) rfl rfl (take_ofW HT_.out HW_.out (by kernel_rfl)) (fun _ _ _ h => h) (Or.inl ⟨by rfl, ?_⟩) hHeld ?_ ?_
   rotate_left
   ·rintro w' hs; have s0 := below_keeps hs p0; have s1 := below_keeps hs p1; have s2 := below_keeps hs p2; have s3 := below_keeps hs p3; have s4 := below_keeps hs p4; have s5 := below_keeps hs p5; have s6 := below_keeps hs p6; have s7 := below_keeps hs p7; have s8 := below_keeps hs p8; have s9 := below_keeps hs p9; have s10 := below_keeps hs p10
    go_simp
    with_reducible rfl
   rotate_left
   ·simp only [Act.put, List.setIfInBounds_toArray, List.set_cons_zero, List.set_cons_succ, i64_w, i32_w]
    rfl
   refine one_ (i := 4) (N := some 14) (lb 25 31) rfl rfl (one_of HT_.out (by kernel_rfl)) (by decide) (fun K hK => ?_)
   refine goes_ Tryz.func25 (by kernel_rfl) rfl #[.agg #[.string x.f0, .bool x.f1, .bool x.f2, .string x.f3.f0, .string x.f3.f1, .int .i64 x.f3.f2, .int .i64 x.f3.f3, .string x.f4.f0, .string x.f4.f1, .int .i64 x.f4.f2, .int .i64 x.f4.f3]] (by rfl) rfl rfl (by (try simp only [List.map_toArray, List.map_cons, List.map_nil]); first | done | rfl) ?_
   with_reducible refine (refmay_calls x SX.out _).mono ?_
   rintro e w4 ⟨rfl, hb⟩
   rw [hm]
   refine ⟨_, rfl, ?_⟩
   refine hK.out _ _ (below_then hHeld hHeld.size hb) (fun hHeld => ?_)
   clear hK K
   refine norm_ (a' := ?_) ?_ ?_
   rotate_left
   ·show Act.put _ (some 14) _ = _
    simp only [Act.put, List.setIfInBounds_toArray, List.set_cons_zero, List.set_cons_succ, i64_w, i32_w]
    rfl
   refine pv_ 5 15 (lb 25 63) HT_.out ?_
   refine pv_ 6 16 (lb 25 127) HT_.out ?_
   refine pg_ 7 17 (lb 25 255) HT_.out ?_
   refine pg_ 8 18 (lb 25 511) HT_.out ?_
   refine pg_ 9 19 (lb 25 1023) HT_.out ?_
   refine pg_ 10 20 (lb 25 2047) HT_.out ?_
   refine pg_ 11 21 (lb 25 4095) HT_.out ?_
   refine pg_ 12 22 (lb 25 8191) HT_.out ?_
   refine pg_ 13 23 (lb 25 16383) HT_.out ?_
   refine pg_ 14 24 (lb 25 32767) HT_.out ?_
   refine pg_ 15 25 (lb 25 65535) HT_.out ?_
   refine pg_ 16 26 (lb 25 131071) HT_.out ?_
   refine pg_ 17 27 (lb 25 262143) HT_.out ?_
   refine pg_ 18 28 (lb 25 524287) HT_.out ?_
   refine pg_ 19 29 (lb 25 1048575) HT_.out ?_
   refine pg_ 20 30 (lb 25 2097151) HT_.out ?_
   refine pg_ 21 31 (lb 25 4194303) HT_.out ?_
   refine pg_ 22 32 (lb 25 8388607) HT_.out ?_
   refine pg_ 23 33 (lb 25 16777215) HT_.out ?_
   refine pv_ 24 34 (lb 25 33554431) HT_.out ?_
   refine done_ (done_of HT_.out (by kernel_rfl)) ?_
   go_wp2
   go_ret
   exact ⟨by rw [SV.out]; rfl, below_then B1.out B1.out.size hHeld⟩
  | true =>
   clear VN
   have PM : Aside0 (∀ j, j < i + 1 → mayB (rd_T45 l (j : Int)) = true) := ⟨fun j hj => by
    by_cases e : j = i
    ·subst e; rw [HX.out]; exact hm
    ·exact P1.out j (by omega)⟩
   by_cases h00 : i = 0
   ·have h0z : ¬ (0 : Int) < (i : Int) := by omega
    have h0n : ¬ 0 < i := by omega
    have H00 := Aside0.mk h00
    clear h00
    go_wp2
    refine start_ (n := 25) (S := fun w' => Below wr.heap.size wr w') (ds := []) (lb 25 0) (by kernel_rfl) rfl rfl (Below.refl _ wr).drew (fun hHeld => ?_); refine with_tabW Ref06V.tab4 Ref06V.bits4 (fun HT_ HW_ => ?_)
    refine pv_ 0 10 (lb 25 1) HT_.out ?_
    refine pv_ 1 11 (lb 25 3) HT_.out ?_
    refine pv_ 2 12 (lb 25 7) HT_.out ?_
    refine take_ (i := 3) (N := some 13) (v := ?_) (a' := ?_) (lb 25 15) rfl rfl (take_ofW HT_.out HW_.out (by kernel_rfl)) (fun _ _ _ h => h) (Or.inl ⟨by rfl, ?_⟩) hHeld ?_ ?_
    rotate_left
    ·rintro w' hs; have s0 := below_keeps hs p0; have s1 := below_keeps hs p1; have s2 := below_keeps hs p2; have s3 := below_keeps hs p3; have s4 := below_keeps hs p4; have s5 := below_keeps hs p5; have s6 := below_keeps hs p6; have s7 := below_keeps hs p7; have s8 := below_keeps hs p8; have s9 := below_keeps hs p9; have s10 := below_keeps hs p10
     go_simp
     with_reducible rfl
    rotate_left
    ·simp only [Act.put, List.setIfInBounds_toArray, List.set_cons_zero, List.set_cons_succ, i64_w, i32_w]
     rfl
    refine one_ (i := 4) (N := some 14) (lb 25 31) rfl rfl (one_of HT_.out (by kernel_rfl)) (by decide) (fun K hK => ?_)
    refine goes_ Tryz.func25 (by kernel_rfl) rfl #[.agg #[.string x.f0, .bool x.f1, .bool x.f2, .string x.f3.f0, .string x.f3.f1, .int .i64 x.f3.f2, .int .i64 x.f3.f3, .string x.f4.f0, .string x.f4.f1, .int .i64 x.f4.f2, .int .i64 x.f4.f3]] (by rfl) rfl rfl (by (try simp only [List.map_toArray, List.map_cons, List.map_nil]); first | done | rfl) ?_
    with_reducible refine (refmay_calls x SX.out _).mono ?_
    rintro e w4 ⟨rfl, hb⟩
    rw [hm]
    refine ⟨_, rfl, ?_⟩
    refine hK.out _ _ (below_then hHeld hHeld.size hb) (fun hHeld => ?_)
    clear hK K
    refine norm_ (a' := ?_) ?_ ?_
    rotate_left
    ·show Act.put _ (some 14) _ = _
     simp only [Act.put, List.setIfInBounds_toArray, List.set_cons_zero, List.set_cons_succ, i64_w, i32_w]
     rfl
    refine pv_ 5 15 (lb 25 63) HT_.out ?_
    refine pv_ 6 16 (lb 25 127) HT_.out ?_
    refine pv_ 7 17 (lb 25 255) HT_.out ?_
    refine pv_ 8 18 (lb 25 511) HT_.out ?_
    refine pv_ 9 19 (lb 25 1023) HT_.out ?_
    refine pg_ 10 20 (lb 25 2047) HT_.out ?_
    refine pg_ 11 21 (lb 25 4095) HT_.out ?_
    refine pg_ 12 22 (lb 25 8191) HT_.out ?_
    refine pg_ 13 23 (lb 25 16383) HT_.out ?_
    refine pg_ 14 24 (lb 25 32767) HT_.out ?_
    refine pg_ 15 25 (lb 25 65535) HT_.out ?_
    refine pg_ 16 26 (lb 25 131071) HT_.out ?_
    refine pg_ 17 27 (lb 25 262143) HT_.out ?_
    refine pg_ 18 28 (lb 25 524287) HT_.out ?_
    refine pg_ 19 29 (lb 25 1048575) HT_.out ?_
    refine pg_ 20 30 (lb 25 2097151) HT_.out ?_
    refine pg_ 21 31 (lb 25 4194303) HT_.out ?_
    refine pg_ 22 32 (lb 25 8388607) HT_.out ?_
    refine pv_ 23 33 (lb 25 16777215) HT_.out ?_
    refine pv_ 24 34 (lb 25 33554431) HT_.out ?_
    refine done_ (done_of HT_.out (by kernel_rfl)) ?_
    have B4 : Aside0 (Below w.heap.size w w4) := ⟨below_then B1.out B1.out.size hHeld⟩
    go_wp2
    go_roundg (l.length - (i + 1))
    case measure => omega
    case rel => exact ⟨i + 1, by omega, by omega, by go_num, PM, ⟨fun j hj => absurd hj (by have := H00.out; omega)⟩, B4⟩
   have h0z : (0 : Int) < (i : Int) := by omega
   have h0n : 0 < i := by omega
   have hpn : i - 1 < l.length := by omega
   have hw : IntKind.i64.wrap ((i : Int) - 1) = ((i - 1 : Nat) : Int) := (IntWalk.i64_in _ (by omega)).trans (by omega)
   obtain ⟨ad2, e2, q0, q1, q2, q3, q4, q5, q6, q7, q8, q9, q10⟩ := at_T45 (Kd.C_below HR.out B1.out) ((i - 1 : Nat) : Int) (by omega) (by omega)
   obtain rfl : ad = ad2 := by injection e2
   clear e2 q1 q2 q3 q4 q5 q6 q7 q8 q9 q10
   rw [Int.toNat_natCast] at q0
   have SY := Aside0.mk (HF.out _ (rdC_mem l (i - 1) hpn)).1
   obtain ⟨y, hy⟩ : ∃ y, rd_T45 l ((i - 1 : Nat) : Int) = y := ⟨_, rfl⟩
   rw [hy] at q0 SY
   have HY := Aside0.mk hy
   obtain ⟨K2, hK2⟩ := CMP.out y x SY.out SX.out
   have KC := Aside0.mk hK2
   clear hK2 hy
   go_wp2
   refine start_ (n := 25) (S := fun w' => Below wr.heap.size wr w') (ds := []) (lb 25 0) (by kernel_rfl) rfl rfl (Below.refl _ wr).drew (fun hHeld => ?_); refine with_tabW Ref06V.tab4 Ref06V.bits4 (fun HT_ HW_ => ?_)
   refine pv_ 0 10 (lb 25 1) HT_.out ?_
   refine pv_ 1 11 (lb 25 3) HT_.out ?_
   refine pv_ 2 12 (lb 25 7) HT_.out ?_
   refine take_ (i := 3) (N := some 13) (v := ?_) (a' := ?_) (lb 25 15) rfl rfl (take_ofW HT_.out HW_.out (by kernel_rfl)) (fun _ _ _ h => h) (Or.inl ⟨by rfl, ?_⟩) hHeld ?_ ?_
   rotate_left
   ·rintro w' hs; have s0 := below_keeps hs p0; have s1 := below_keeps hs p1; have s2 := below_keeps hs p2; have s3 := below_keeps hs p3; have s4 := below_keeps hs p4; have s5 := below_keeps hs p5; have s6 := below_keeps hs p6; have s7 := below_keeps hs p7; have s8 := below_keeps hs p8; have s9 := below_keeps hs p9; have s10 := below_keeps hs p10; have t0 := below_keeps hs q0
    go_simp
    with_reducible rfl
   rotate_left
   ·simp only [Act.put, List.setIfInBounds_toArray, List.set_cons_zero, List.set_cons_succ, i64_w, i32_w]
    rfl
   refine one_ (i := 4) (N := some 14) (lb 25 31) rfl rfl (one_of HT_.out (by kernel_rfl)) (by decide) (fun K hK => ?_)
   refine goes_ Tryz.func25 (by kernel_rfl) rfl #[.agg #[.string x.f0, .bool x.f1, .bool x.f2, .string x.f3.f0, .string x.f3.f1, .int .i64 x.f3.f2, .int .i64 x.f3.f3, .string x.f4.f0, .string x.f4.f1, .int .i64 x.f4.f2, .int .i64 x.f4.f3]] (by rfl) rfl rfl (by (try simp only [List.map_toArray, List.map_cons, List.map_nil]); first | done | rfl) ?_
   with_reducible refine (refmay_calls x SX.out _).mono ?_
   rintro e w4 ⟨rfl, hb⟩
   rw [hm]
   refine ⟨_, rfl, ?_⟩
   refine hK.out _ _ (below_then hHeld hHeld.size hb) (fun hHeld => ?_)
   clear hK K
   refine norm_ (a' := ?_) ?_ ?_
   rotate_left
   ·show Act.put _ (some 14) _ = _
    simp only [Act.put, List.setIfInBounds_toArray, List.set_cons_zero, List.set_cons_succ, i64_w, i32_w]
    rfl
   refine pv_ 5 15 (lb 25 63) HT_.out ?_
   refine pv_ 6 16 (lb 25 127) HT_.out ?_
   refine pv_ 7 17 (lb 25 255) HT_.out ?_
   refine pv_ 8 18 (lb 25 511) HT_.out ?_
   refine pv_ 9 19 (lb 25 1023) HT_.out ?_
   refine pv_ 10 20 (lb 25 2047) HT_.out ?_
   refine pv_ 11 21 (lb 25 4095) HT_.out ?_
   refine pv_ 12 22 (lb 25 8191) HT_.out ?_
   refine pv_ 13 23 (lb 25 16383) HT_.out ?_
   refine pv_ 14 24 (lb 25 32767) HT_.out ?_
   refine pv_ 16 26 (lb 25 98303) HT_.out ?_
   refine pv_ 17 27 (lb 25 229375) HT_.out ?_
   refine pv_ 18 28 (lb 25 491519) HT_.out ?_
   refine pv_ 19 29 (lb 25 1015807) HT_.out ?_
   refine take_ (i := 15) (N := some 25) (v := ?_) (a' := ?_) (lb 25 1048575) rfl rfl (take_ofW HT_.out HW_.out (by kernel_rfl)) (fun _ _ _ h => h) (Or.inl ⟨by rfl, ?_⟩) hHeld ?_ ?_
   rotate_left
   ·rintro w' hs; have s0 := below_keeps hs p0; have s1 := below_keeps hs p1; have s2 := below_keeps hs p2; have s3 := below_keeps hs p3; have s4 := below_keeps hs p4; have s5 := below_keeps hs p5; have s6 := below_keeps hs p6; have s7 := below_keeps hs p7; have s8 := below_keeps hs p8; have s9 := below_keeps hs p9; have s10 := below_keeps hs p10; have t0 := below_keeps hs q0
    go_simp
    with_reducible rfl
   rotate_left
   ·simp only [Act.put, List.setIfInBounds_toArray, List.set_cons_zero, List.set_cons_succ, i64_w, i32_w]
    rfl
   refine take_ (i := 20) (N := some 30) (v := ?_) (a' := ?_) (lb 25 2097151) rfl rfl (take_ofW HT_.out HW_.out (by kernel_rfl)) (fun _ _ _ h => h) (Or.inl ⟨by rfl, ?_⟩) hHeld ?_ ?_
   rotate_left
   ·rintro w' hs; have s0 := below_keeps hs p0; have s1 := below_keeps hs p1; have s2 := below_keeps hs p2; have s3 := below_keeps hs p3; have s4 := below_keeps hs p4; have s5 := below_keeps hs p5; have s6 := below_keeps hs p6; have s7 := below_keeps hs p7; have s8 := below_keeps hs p8; have s9 := below_keeps hs p9; have s10 := below_keeps hs p10; have t0 := below_keeps hs q0
    go_simp
    with_reducible rfl
   rotate_left
   ·simp only [Act.put, List.setIfInBounds_toArray, List.set_cons_zero, List.set_cons_succ, i64_w, i32_w]
    rfl
   refine one_ (i := 21) (N := some 31) (lb 25 4194303) rfl rfl (one_of HT_.out (by kernel_rfl)) (by decide) (fun K hK => ?_)
   refine goes_ Tryz.func26 (by kernel_rfl) rfl #[.string y.f0, .string x.f0] (by rfl) rfl rfl (by (try simp only [List.map_toArray, List.map_cons, List.map_nil]); first | done | rfl) ?_
   with_reducible refine (copseref02_Cmp.calls K2 _ _ _ _ KC.out).mono ?_
   rintro e w5 ⟨rfl, hb⟩
   refine ⟨_, rfl, ?_⟩
   refine hK.out _ _ (below_then hHeld hHeld.size hb) (fun hHeld => ?_)
   clear hK K
   refine norm_ (a' := ?_) ?_ ?_
   rotate_left
   ·show Act.put _ (some 31) _ = _
    simp only [Act.put, List.setIfInBounds_toArray, List.set_cons_zero, List.set_cons_succ, i64_w, i32_w]
    rfl
   refine pv_ 22 32 (lb 25 8388607) HT_.out ?_
   refine pv_ 23 33 (lb 25 16777215) HT_.out ?_
   refine pv_ 24 34 (lb 25 33554431) HT_.out ?_
   refine done_ (done_of HT_.out (by kernel_rfl)) ?_
   have B4 : Aside0 (Below w.heap.size w w5) := ⟨below_then B1.out B1.out.size hHeld⟩
   clear hHeld
   by_cases hc : cB y.f0 x.f0 < 0
   rotate_left
   ·have hcz : (0 : Int) ≤ cB y.f0 x.f0 := by omega
    have SV : Aside0 (validD l = false) := ⟨validD_off (i - 1) (by omega) (by rw [show i - 1 + 1 = i by omega, HX.out, HY.out]; exact hc)⟩
    clear hc
    go_wp2
    go_ret
    exact ⟨by rw [SV.out]; rfl, B4.out⟩
   have hcz : ¬ (0 : Int) ≤ cB y.f0 x.f0 := by omega
   have PC : Aside0 (∀ j, j + 1 < i + 1 → cB (rd_T45 l (j : Int)).f0 (rd_T45 l ((j + 1 : Nat) : Int)).f0 < 0) := ⟨fun j hj => by
    by_cases e : j + 1 = i
    ·obtain rfl : j = i - 1 := by omega
     rw [e, HX.out, HY.out]; exact hc
    ·exact P2.out j (by omega)⟩
   clear hc
   go_wp2
   go_roundg (l.length - (i + 1))
   case measure => omega
   case rel => exact ⟨i + 1, by omega, by omega, by go_num, PM, PC, B4⟩
def RefI.T5 : Bool × List (List Nat × List Nat) := (true, [([], []), ([], []), ([], []), ([1, 2], [1, 2]), ([3], [3]), ([4], [4]), ([], []), ([], []), ([6, 7], [6, 7]), ([8], [8]), ([9], [9]), ([], []), ([], []), ([11, 12], [11, 12]), ([13], [13]), ([14], [14]), ([], []), ([], []), ([16, 17], [16, 17]), ([18], [18]), ([19], [19]), ([], []), ([], []), ([21, 22], [21, 22]), ([23], [23]), ([24], [24]), ([5, 10, 15, 20, 25], [5, 10, 15, 20, 25]), ([26], [26]), ([0, 27], [0, 27]), ([28, 28, 0, 1, 2, 3, 4, 5, 6, 7, 8, 9, 10, 11, 12, 13, 14, 15, 16, 17, 18, 19, 20, 21, 22, 23, 24, 25, 26, 27, 28], [0, 28])])
def RefI.B5 : List Nat := [0, 0, 0, 6, 14, 30, 0, 0, 192, 448, 960, 0, 0, 6144, 14336, 30720, 0, 0, 196608, 458752, 983040, 0, 0, 6291456, 14680064, 31457280, 67108862, 134217726, 268435455, 536870911]
theorem RefI.tab5 : rtab .any (opsOf Tryz.f20 5) = RefI.T5 := by kernel_rfl
theorem RefI.bits5 : waitsOk RefI.T5.2 RefI.B5 = true := by kernel_rfl
set_option maxHeartbeats 4000000 in
set_option maxRecDepth 100000 in
theorem refinvert_calls (A0 : Option Addr) (c0 : Nat) (l : List S45) (w : World) (hr0 : Kd.C k45 w A0 l.length l) (hl : l.length ≤ 4194304) :
  Calls Tryz.prog 20 #[.slice A0 l.length c0] w fun e w' => ∃ v : Value, e = .returned v ∧ Kd.R k45 45 w' w.heap.size (fun _ => True) v (l.map turnC) ∧ Below w.heap.size w w' := by
 have hu := Tryz.underlying43
 have hu2 := Tryz.underlying45
 have HR := Aside0.mk hr0
 clear hr0
 go_enter Tryz.func20, Tryz.ntmps20
 go_wp2
 go_loopg [3, 4] l.length (fun gg s3 s4 wr => ∃ i : Nat, i ≤ l.length ∧ l.length - i ≤ gg ∧ s4 = .int .i64 i ∧ Aside0 (Kd.R k45 45 wr w.heap.size (fun _ => True) s3 ((l.take i).map turnC)) ∧ Aside0 (Below w.heap.size w wr))
 case atStart => exact ⟨0, by omega, by omega, rfl, ⟨Kd.R_nil _ _ _ _ _⟩, ⟨Below.refl _ _⟩⟩
 case round =>
  obtain ⟨i, hi, hg, rfl, O1, B1⟩ := hrel
  by_cases hlt : i < l.length
  rotate_left
  ·have hltz : ¬ (i : Int) < (l.length : Int) := by omega
   obtain rfl : i = l.length := by omega
   have h5 := O1.out
   rw [List.take_length] at h5
   go_wp2
   go_ret
   exact ⟨_, rfl, h5, B1.out⟩
  have hltz : (i : Int) < (l.length : Int) := by omega
  obtain ⟨ad, rfl, p0, p1, p2, p3, p4, p5, p6, p7, p8, p9, p10⟩ := at_T45 (Kd.C_below HR.out B1.out) (i : Int) (by omega) hltz
  rw [Int.toNat_natCast] at p0 p1 p2 p3 p4 p5 p6 p7 p8 p9 p10
  have TS : Aside0 ((l.take (i + 1)).map turnC = (l.take i).map turnC ++ [turnC (rd_T45 l (i : Int))]) := ⟨by
   rw [List.take_succ_eq_append_getElem hlt, List.map_append, rdC_get l i hlt]; rfl⟩
  have TL : Aside0 (((l.take i).map turnC).length ≤ 4194304) := ⟨by rw [List.length_map, List.length_take]; omega⟩
  generalize rd_T45 l (i : Int) = x at p0 p1 p2 p3 p4 p5 p6 p7 p8 p9 p10 TS
  have O2 : Aside0 (Kd.R k45 45 wr.drew w.heap.size (fun _ => True) u3 ((l.take i).map turnC)) := ⟨Kd.R_drew O1.out⟩
  have B2 : Aside0 (Below w.heap.size w wr.drew) := ⟨B1.out.drew⟩
  clear O1 B1
  go_wp2
  refine start_ (n := 30) (S := fun w' => Below wr.heap.size wr w') (ds := [27, 28]) (lb 30 0) (by kernel_rfl) rfl rfl (Below.refl _ wr).drew (fun hHeld => ?_); refine with_tabW RefI.tab5 RefI.bits5 (fun HT_ HW_ => ?_)
  generalize wr.drew = w7 at O2 B2 hHeld ⊢
  refine pv_ 0 11 (lb 30 1) HT_.out ?_
  refine pv_ 1 12 (lb 30 3) HT_.out ?_
  refine pv_ 2 13 (lb 30 7) HT_.out ?_
  refine pv_ 3 14 (lb 30 15) HT_.out ?_
  refine pv_ 4 15 (lb 30 31) HT_.out ?_
  refine pv_ 6 17 (lb 30 95) HT_.out ?_
  refine pv_ 7 18 (lb 30 223) HT_.out ?_
  refine pv_ 8 19 (lb 30 479) HT_.out ?_
  refine pv_ 9 20 (lb 30 991) HT_.out ?_
  refine pv_ 11 22 (lb 30 3039) HT_.out ?_
  refine pv_ 12 23 (lb 30 7135) HT_.out ?_
  refine pv_ 13 24 (lb 30 15327) HT_.out ?_
  refine pv_ 14 25 (lb 30 31711) HT_.out ?_
  refine pv_ 16 27 (lb 30 97247) HT_.out ?_
  refine pv_ 17 28 (lb 30 228319) HT_.out ?_
  refine pv_ 18 29 (lb 30 490463) HT_.out ?_
  refine pv_ 19 30 (lb 30 1014751) HT_.out ?_
  refine pv_ 21 32 (lb 30 3111903) HT_.out ?_
  refine pv_ 22 33 (lb 30 7306207) HT_.out ?_
  refine pv_ 23 34 (lb 30 15694815) HT_.out ?_
  refine pv_ 24 35 (lb 30 32472031) HT_.out ?_
  refine take_ (i := 5) (N := some 16) (v := ?_) (a' := ?_) (lb 30 32472063) rfl rfl (take_ofW HT_.out HW_.out (by kernel_rfl)) (fun _ _ _ h => h) (Or.inl ⟨by rfl, ?_⟩) hHeld ?_ ?_
  rotate_left
  ·rintro w' hs; have s0 := below_keeps hs p0; have s1 := below_keeps hs p1; have s2 := below_keeps hs p2; have s3 := below_keeps hs p3; have s4 := below_keeps hs p4; have s5 := below_keeps hs p5; have s6 := below_keeps hs p6; have s7 := below_keeps hs p7; have s8 := below_keeps hs p8; have s9 := below_keeps hs p9; have s10 := below_keeps hs p10
   go_simp
   with_reducible rfl
  rotate_left
  ·simp only [Act.put, List.setIfInBounds_toArray, List.set_cons_zero, List.set_cons_succ, i64_w, i32_w]
   rfl
  refine take_ (i := 10) (N := some 21) (v := ?_) (a' := ?_) (lb 30 32473087) rfl rfl (take_ofW HT_.out HW_.out (by kernel_rfl)) (fun _ _ _ h => h) (Or.inl ⟨by rfl, ?_⟩) hHeld ?_ ?_
  rotate_left
  ·rintro w' hs; have s0 := below_keeps hs p0; have s1 := below_keeps hs p1; have s2 := below_keeps hs p2; have s3 := below_keeps hs p3; have s4 := below_keeps hs p4; have s5 := below_keeps hs p5; have s6 := below_keeps hs p6; have s7 := below_keeps hs p7; have s8 := below_keeps hs p8; have s9 := below_keeps hs p9; have s10 := below_keeps hs p10
   go_simp
   with_reducible rfl
  rotate_left
  ·simp only [Act.put, List.setIfInBounds_toArray, List.set_cons_zero, List.set_cons_succ, i64_w, i32_w]
   rfl
  refine take_ (i := 15) (N := some 26) (v := ?_) (a' := ?_) (lb 30 32505855) rfl rfl (take_ofW HT_.out HW_.out (by kernel_rfl)) (fun _ _ _ h => h) (Or.inl ⟨by rfl, ?_⟩) hHeld ?_ ?_
  rotate_left
  ·rintro w' hs; have s0 := below_keeps hs p0; have s1 := below_keeps hs p1; have s2 := below_keeps hs p2; have s3 := below_keeps hs p3; have s4 := below_keeps hs p4; have s5 := below_keeps hs p5; have s6 := below_keeps hs p6; have s7 := below_keeps hs p7; have s8 := below_keeps hs p8; have s9 := below_keeps hs p9; have s10 := below_keeps hs p10
   go_simp
   with_reducible rfl
  rotate_left
  ·simp only [Act.put, List.setIfInBounds_toArray, List.set_cons_zero, List.set_cons_succ, i64_w, i32_w]
   rfl
  refine take_ (i := 20) (N := some 31) (v := ?_) (a' := ?_) (lb 30 33554431) rfl rfl (take_ofW HT_.out HW_.out (by kernel_rfl)) (fun _ _ _ h => h) (Or.inl ⟨by rfl, ?_⟩) hHeld ?_ ?_
  rotate_left
  ·rintro w' hs; have s0 := below_keeps hs p0; have s1 := below_keeps hs p1; have s2 := below_keeps hs p2; have s3 := below_keeps hs p3; have s4 := below_keeps hs p4; have s5 := below_keeps hs p5; have s6 := below_keeps hs p6; have s7 := below_keeps hs p7; have s8 := below_keeps hs p8; have s9 := below_keeps hs p9; have s10 := below_keeps hs p10
   go_simp
   with_reducible rfl
  rotate_left
  ·simp only [Act.put, List.setIfInBounds_toArray, List.set_cons_zero, List.set_cons_succ, i64_w, i32_w]
   rfl
  refine take_ (i := 25) (N := some 36) (v := ?_) (a' := ?_) (lb 30 67108863) rfl rfl (take_ofW HT_.out HW_.out (by kernel_rfl)) (fun _ _ _ h => h) (Or.inl ⟨by rfl, ?_⟩) hHeld ?_ ?_
  rotate_left
  ·rintro w' hs; have s0 := below_keeps hs p0; have s1 := below_keeps hs p1; have s2 := below_keeps hs p2; have s3 := below_keeps hs p3; have s4 := below_keeps hs p4; have s5 := below_keeps hs p5; have s6 := below_keeps hs p6; have s7 := below_keeps hs p7; have s8 := below_keeps hs p8; have s9 := below_keeps hs p9; have s10 := below_keeps hs p10
   go_simp
   with_reducible rfl
  rotate_left
  ·simp only [Act.put, List.setIfInBounds_toArray, List.set_cons_zero, List.set_cons_succ, i64_w, i32_w]
   rfl
  refine pv_ 26 37 (lb 30 134217727) HT_.out ?_
  refine last_ (i := 27) (N := some 38) (lb 30 268435455) rfl rfl (one_of HT_.out (by kernel_rfl)) (by decide) (fun K hK => ?_)
  refine value_ (w1 := ?_) (v := ?_) (by rfl) rfl ?_ ?_
  rotate_left 2
  ·go_simp
   constructor
   ·rfl
   ·rfl
  refine hK.out _ _ ?_
  clear hK K
  refine norm_ (a' := ?_) ?_ ?_
  rotate_left
  ·show Act.put _ (some 38) _ = _
   simp only [Act.put, List.setIfInBounds_toArray, List.set_cons_zero, List.set_cons_succ, i64_w, i32_w]
   rfl
  refine last_ (i := 28) (N := some 39) (lb 30 536870911) rfl rfl (one_of HT_.out (by kernel_rfl)) (by decide) (fun K hK => ?_)
  refine Kd.R_append_step k45 (w0 := w) w.heap.size (by rfl) (.tmp 11) (.tmp 38) 23 45 (.agg #[(.string ⟨#[]⟩), (.bool false), (.bool false), (.string ⟨#[]⟩), (.string ⟨#[]⟩), (.int .i64 0), (.int .i64 0), (.string ⟨#[]⟩), (.string ⟨#[]⟩), (.int .i64 0), (.int .i64 0)]) 120 rfl Tryz.underlying23 info45 rfl (by decide) (by omega) u3 ((l.take i).map turnC) (turnC x) [.string x.f0, .bool x.f2, .bool x.f1, .string x.f4.f0, .string x.f4.f1, .int .i64 x.f4.f2, .int .i64 x.f4.f3, .string x.f3.f0, .string x.f3.f1, .int .i64 x.f3.f2, .int .i64 x.f3.f3] (fun _ => True) (fun _ => False) rfl rfl ?aP (fun _ hk => hk.elim) ?aF ?aO ?aB ?aS ?aL ?_
  (case aP => exact k45_mkM _ _ _ (turnC x))
  (case aF => exact fun _ _ => trivial)
  (case aO => exact O2.out)
  (case aB => exact B2.out)
  (case aS => exact B2.out.size)
  (case aL => have := TL.out; omega)
  intro v8 w8 ho hb hg hat
  have O9 := Aside0.mk ho
  have B9 := Aside0.mk hb
  clear ho hb hg hat O2 B2
  refine hK.out _ _ ?_
  clear hK K
  refine norm_ (a' := ?_) ?_ ?_
  rotate_left
  ·show Act.put _ (some 39) _ = _
   simp only [Act.put, List.setIfInBounds_toArray, List.set_cons_zero, List.set_cons_succ, i64_w, i32_w]
   rfl
  refine pv_ 29 3 (lb 30 1073741823) HT_.out ?_
  refine done_ (done_of HT_.out (by kernel_rfl)) ?_
  go_wp2
  go_roundg (l.length - (i + 1))
  case measure => omega
  case rel => exact ⟨i + 1, by omega, by omega, by go_num, ⟨by rw [TS.out]; exact O9.out⟩, B9⟩
attribute [local go_sem high] eqA43
abbrev changeO (o : Option S45) : S45 := o.getD z45
theorem foundC_is (o : Option S45) : foundC o = ((changeO o).f0, (changeO o).f1, (changeO o).f2, (changeO o).f3.f0, (changeO o).f3.f1, (changeO o).f3.f2, (changeO o).f3.f3, (changeO o).f4.f0, (changeO o).f4.f1, (changeO o).f4.f2, (changeO o).f4.f3, o.isSome) := by cases o <;> rfl
def clashAt (x y : Option S45) : Bool := match x, y with
 | some x, some y => x.f2 != y.f1 || !eqF x.f4 y.f3
 | _, _ => false
theorem clash_some {d e : List S45} {p : ByteArray} (h : clashAt (atC d p) (atC e p) = true) : clashB d e = true := by
 cases hx : atC d p with
 | none => rw [hx] at h; cases h
 | some x =>
  cases hy : atC e p with
  | none => rw [hx, hy] at h; cases h
  | some y =>
   rw [hx, hy] at h
   obtain ⟨a1, a2⟩ := atK_some hx
   obtain ⟨b1, b2⟩ := atK_some hy
   unfold clashB
   refine List.any_eq_true.2 ⟨x, a2, List.any_eq_true.2 ⟨y, b2, ?_⟩⟩
   unfold clash1
   rw [decide_eq_true (a1.trans b1.symm), Bool.true_and]
   exact h
theorem clash_none {d e : List S45} (hd : DeltaP d) (he : DeltaP e) (h : ∀ p ∈ norm (d.map S45.f0 ++ e.map S45.f0), clashAt (atC d p) (atC e p) = false) : clashB d e = false := by
 cases hc : clashB d e with
 | false => rfl
 | true =>
  unfold clashB at hc
  obtain ⟨x, hx, hc⟩ := List.any_eq_true.1 hc
  obtain ⟨y, hy, hc⟩ := List.any_eq_true.1 hc
  unfold clash1 at hc
  rw [Bool.and_eq_true, decide_eq_true_eq] at hc
  have := h x.f0 (mem_norm.2 (List.mem_append.2 (.inl (List.mem_map.2 ⟨x, hx, rfl⟩))))
  rw [show atC d x.f0 = some x from hd.rises.mem hx, show atC e x.f0 = some y by rw [hc.1]; exact he.rises.mem hy] at this
  have h2 : (x.f2 != y.f1 || !eqF x.f4 y.f3) = false := this
  rw [h2] at hc
  cases hc.2
theorem eqF_comm (x y : S43) : eqF x y = eqF y x := by
 cases h : eqF y x with
 | true => rw [eqF_iff.1 h]; exact eqF_self _
 | false =>
  cases h2 : eqF x y with
  | false => rfl
  | true => rw [eqF_iff.1 h2, eqF_self] at h; cases h
def joinTo (d e : List S45) (n : List ByteArray) : List S45 := n.filterMap fun p => joinO (atC d p) (atC e p)
theorem joinTo_succ (d e : List S45) (n : List ByteArray) (i : Nat) (h : i < n.length) : joinTo d e (n.take (i + 1)) = joinTo d e (n.take i) ++ (joinO (atC d (rdOf ByteArray.empty n (i : Int))) (atC e (rdOf ByteArray.empty n (i : Int)))).toList := by
 unfold joinTo
 rw [show n.take (i + 1) = n.take i ++ [rdOf ByteArray.empty n (i : Int)] by
  rw [List.take_succ_eq_append_getElem h]
  congr 2
  unfold rdOf
  rw [Int.toNat_natCast, List.getD_eq_getElem?_getD, List.getElem?_eq_getElem h]; rfl, List.filterMap_append]
 cases e1 : joinO (atC d (rdOf ByteArray.empty n (i : Int))) (atC e (rdOf ByteArray.empty n (i : Int))) <;> simp [e1]
theorem joinTo_length (d e : List S45) (n : List ByteArray) (i : Nat) : (joinTo d e (n.take i)).length ≤ i := by
 unfold joinTo
 have := List.length_filterMap_le (fun p => joinO (atC d p) (atC e p)) (n.take i)
 rw [List.length_take] at this
 omega
theorem at_norm {d e : List S45} {p : ByteArray} (h : p ∈ norm (d.map S45.f0 ++ e.map S45.f0)) : (atC d p).isSome = true ∨ (atC e p).isSome = true := by
 rw [mem_norm, List.mem_append] at h
 have key : ∀ l : List S45, p ∈ l.map S45.f0 → (atC l p).isSome = true := fun l hl => by
  obtain ⟨x, hx, hxp⟩ := List.mem_map.1 hl
  cases ha : atC l p with
  | some y => rfl
  | none => exact absurd hxp (atK_none.1 ha x hx)
 exact h.imp (key d) (key e)
set_option maxHeartbeats 4000000 in
set_option maxRecDepth 100000 in
theorem refjoin_calls (A0 : Option Addr) (c0 : Nat) (d : List S45) (A1 : Option Addr) (c1 : Nat) (e : List S45) (w : World) (hr0 : Kd.C k45 w A0 d.length d) (hc0 : d.length ≤ c0) (hr1 : Kd.C k45 w A1 e.length e) (hc1 : e.length ≤ c1) (la : d.length ≤ 1048576) (lb : e.length ≤ 1048576) (fa : FitsD d) (fb : FitsD e) :
  Calls Tryz.prog 14 #[.slice A0 d.length c0, .slice A1 e.length c1] w fun r w' => ∃ v : Value, r = .returned (.tuple #[v, .int .i64 (joinV d e).2]) ∧ Kd.R k45 45 w' w.heap.size (fun _ => True) v (joinV d e).1 ∧ Below w.heap.size w w' := by
 have hu := Tryz.underlying43
 have hu2 := Tryz.underlying45
 have HR0 := Aside0.mk hr0
 have HR1 := Aside0.mk hr1
 have FD := Aside0.mk fa
 have FE := Aside0.mk fb
 have HC0 := Aside0.mk hc0
 have HC1 := Aside0.mk hc1
 clear hr0 hr1 fa fb
 go_enter Tryz.func14, Tryz.ntmps14
 cases hv : validD d with
 | true =>
  have DP := Aside0.mk (validD_iff.1 hv)
  go_wp2_with fail
  refine (ref06_calls A0 c0 d _ HR0.out (by omega) FD.out).mono ?_
  rintro e1 w1 ⟨rfl, hb⟩
  rw [hv]
  have B1 := Aside0.mk hb
  clear hb
  cases hv2 : validD e with
  | true =>
   have EP := Aside0.mk (validD_iff.1 hv2)
   go_wp2_with fail
   refine (ref06_calls A1 c1 e _ (Kd.C_below HR1.out B1.out) (by omega) FE.out).mono ?_
   rintro e2 w2 ⟨rfl, hb⟩
   rw [hv2]
   have B2 : Aside0 (Below w.heap.size w w2) := ⟨below_then B1.out B1.out.size hb⟩
   clear hb B1
   obtain ⟨K0, hK0⟩ := Ev.rounds (refpaths06 d (by omega))
   obtain ⟨K1, hK1⟩ := Ev.rounds (refpaths06 e (by omega))
   obtain ⟨K2, hK2⟩ := Ev.rounds (ref_norm (d.map S45.f0 ++ e.map S45.f0) (by rw [List.length_append, List.length_map, List.length_map]; omega) (fun p hp => by
    rcases List.mem_append.1 hp with hp | hp
    ·obtain ⟨x, hx, rfl⟩ := List.mem_map.1 hp
     have := (FD.out x hx).1
     omega
    ·obtain ⟨x, hx, rfl⟩ := List.mem_map.1 hp
     have := (FE.out x hx).1
     omega))
   have SN : Aside0 ((norm (d.map S45.f0 ++ e.map S45.f0)).length ≤ 2097152) := ⟨by
    have := norm_length_le (d.map S45.f0 ++ e.map S45.f0)
    simp only [List.length_append, List.length_map] at this
    omega⟩
   have RL : Aside0 (joinTo d e (norm (d.map S45.f0 ++ e.map S45.f0)) = joinK S45.f0 idleC outerC (d.length + e.length) d e) := ⟨ref_joinL DP.out EP.out⟩
   have AN : Aside0 (∀ p ∈ norm (d.map S45.f0 ++ e.map S45.f0), (atC d p).isSome = true ∨ (atC e p).isSome = true) := ⟨fun p hp => at_norm hp⟩
   have HN0 : Aside0 (∀ p ∈ norm (d.map S45.f0 ++ e.map S45.f0), p ∈ norm (d.map S45.f0 ++ e.map S45.f0)) := ⟨fun _ h => h⟩
   have LP : Aside0 ((d.map S45.f0).length ≤ 1048576) := ⟨by rw [List.length_map]; exact la⟩
   have LQ : Aside0 ((e.map S45.f0).length ≤ 1048576) := ⟨by rw [List.length_map]; exact lb⟩
   obtain ⟨n, hn⟩ : ∃ n, norm (d.map S45.f0 ++ e.map S45.f0) = n := ⟨_, rfl⟩
   rw [hn] at SN RL AN hK2
   have HN := Aside0.mk hn
   clear hn HN0
   obtain ⟨PQ, hpq⟩ : ∃ x, d.map S45.f0 ++ e.map S45.f0 = x := ⟨_, rfl⟩
   rw [hpq] at hK2
   have HPQ : Aside0 (∀ p q : List ByteArray, d.map S45.f0 = p → e.map S45.f0 = q → p ++ q = PQ) := ⟨fun p q h1 h2 => by rw [← h1, ← h2, hpq]⟩
   clear hpq
   obtain ⟨PP, hpp⟩ : ∃ x, d.map S45.f0 = x := ⟨_, rfl⟩
   obtain ⟨QQ, hqq⟩ : ∃ x, e.map S45.f0 = x := ⟨_, rfl⟩
   have EPQ := Aside0.mk (HPQ.out PP QQ hpp hqq)
   rw [hpp] at hK0 LP
   rw [hqq] at hK1 LQ
   clear HPQ hpp hqq
   have KD0 := Aside0.mk hK0
   have KD1 := Aside0.mk hK1
   have KD2 := Aside0.mk hK2
   clear hK0 hK1 hK2
   go_wp2_with fail
   refine (copseref06_Paths.calls K0 A0 c0 d _ _ (Kd.C_below HR0.out B2.out) HC0.out KD0.out).mono ?_
   rintro e3 w3 ⟨vp, rfl, ho, hb⟩
   obtain ⟨Ap, cp, rfl, lp, rp⟩ := Kd.R_reads ho
   have OP := Aside0.mk rp
   have B3 : Aside0 (Below w.heap.size w w3) := ⟨below_then B2.out B2.out.size hb⟩
   clear ho hb B2
   go_wp2_with (
    ((with_reducible refine gate_builtin (b := .append) (xs := #[.tmp 21, .tmp 23]) rfl ?_); at_builtin; refine Kd.R_append_rows Kd.string (w0 := w) w.heap.size rfl (.tmp 21) (.tmp 23) 38 9 (.string ⟨#[]⟩) 16 rfl Tryz.underlying38 info9 rfl (by decide) (by omega) (.slice none 0 0) ([] : List ByteArray) PP _ _ _ (fun _ => True) (fun _ => False) rfl rfl (Kd.R_nil _ _ _ _ _) OP.out (fun _ _ h => h) (fun _ h => h.elim) (fun _ _ => trivial) B3.out B3.out.size (by have := LP.out; simp at this ⊢; omega) ?_; intro v4 w4 ho hb hg hat; rw [List.nil_append] at ho; have O4 := Aside0.mk ho; have B4 := Aside0.mk hb; clear ho hb hg hat B3 OP))
   refine (copseref06_Paths.calls K1 A1 c1 e _ _ (Kd.C_below HR1.out B4.out) HC1.out KD1.out).mono ?_
   rintro e5 w5 ⟨vq, rfl, ho, hb⟩
   obtain ⟨Aq, cq, rfl, lq, rq⟩ := Kd.R_reads ho
   have OQ := Aside0.mk rq
   have O5 := Aside0.mk (Kd.R_below (Kd.R_lower O4.out (Nat.le_refl _)) hb)
   have B5 : Aside0 (Below w.heap.size w w5) := ⟨below_then B4.out B4.out.size hb⟩
   clear ho hb O4 B4
   go_wp2_with (first
    | ((with_reducible refine gate_builtin (b := .append) (xs := #[.tmp 25, .tmp 27]) rfl ?_); at_builtin; refine Kd.R_append_rows Kd.string (w0 := w) w.heap.size rfl (.tmp 25) (.tmp 27) 38 9 (.string ⟨#[]⟩) 16 rfl Tryz.underlying38 info9 rfl (by decide) (by omega) v4 PP QQ _ _ _ (fun _ => True) (fun _ => False) rfl rfl O5.out OQ.out (fun _ _ h => h) (fun _ h => h.elim) (fun _ _ => trivial) B5.out B5.out.size (by have := LP.out; have := LQ.out; omega) ?_; intro v6 w6 ho hb hg hat; rw [EPQ.out] at ho; obtain ⟨As, cs, rfl, ls, rs⟩ := Kd.R_reads ho; have O6 := Aside0.mk rs; have S6 := Aside0.mk ls; have B6 := Aside0.mk hb; clear ho hb hg hat B5 O5 OQ)
    | fail)
   refine (copseref03_Norm.calls K2 As cs _ _ _ O6.out S6.out KD2.out).mono ?_
   rintro e7 w7 ⟨vn, rfl, ho, hb⟩
   obtain ⟨An, cn, rfl, ln, rn⟩ := Kd.R_reads ho
   have ON := Aside0.mk (Kd.R_lower ho B6.out.size)
   have B7 : Aside0 (Below w.heap.size w w7) := ⟨below_then B6.out B6.out.size hb⟩
   have SNL := SN.out
   clear ho hb ln rn B6
   go_wp2
   go_loopg [7, 8] n.length (fun gg s7 s8 wr => ∃ i : Nat, i ≤ n.length ∧ n.length - i ≤ gg ∧ s8 = .int .i64 i ∧ Aside0 (Kd.R k45 45 wr w.heap.size (fun _ => True) s7 (joinTo d e (n.take i))) ∧ Aside0 (Kd.R Kd.string 9 wr w.heap.size (fun _ => True) (.slice An n.length cn) n) ∧ Aside0 (∀ j, j < i → clashAt (atC d (rdOf ByteArray.empty n (j : Int))) (atC e (rdOf ByteArray.empty n (j : Int))) = false) ∧ Aside0 (Below w.heap.size w wr))
   case atStart => exact ⟨0, by omega, by omega, rfl, ⟨Kd.R_nil _ _ _ _ _⟩, ON, ⟨fun j h => absurd h (by omega)⟩, B7⟩
   case round =>
    clear ON B7
    obtain ⟨i, hi, hg, rfl, O1, N1, CN, B1⟩ := hrel
    by_cases hlt : i < n.length
    rotate_left
    ·have hltz : ¬ (i : Int) < (n.length : Int) := by omega
     obtain rfl : i = n.length := by omega
     have JV : Aside0 (joinV d e = (joinK S45.f0 idleC outerC (d.length + e.length) d e, 0)) := ⟨by
      unfold joinV
      rw [if_pos ⟨hv, hv2⟩, clash_none (DP.out) (EP.out) (fun p hp => by
       obtain ⟨j, hj, rfl⟩ := List.getElem_of_mem (HN.out ▸ hp)
       have := CN.out j hj
       rwa [show rdOf ByteArray.empty n (j : Int) = n[j] by
        unfold rdOf
        rw [Int.toNat_natCast, List.getD_eq_getElem?_getD, List.getElem?_eq_getElem hj]; rfl] at this)]
      rfl⟩
     have h5 := O1.out
     rw [List.take_length, RL.out] at h5
     go_wp2
     go_ret2
     exact ⟨_, by rw [JV.out]; rfl, by rw [JV.out]; exact h5, B1.out⟩
    have hltz : (i : Int) < (n.length : Int) := by omega
    obtain ⟨ad, rfl, hcell⟩ := Kd.at_string (Kd.R_reads' N1.out).2.2 (i : Int) (by omega) hltz
    rw [Int.toNat_natCast] at hcell
    have DS := Aside0.mk (joinTo_succ d e n i hlt)
    have DL := Aside0.mk (joinTo_length d e n i)
    have AP := Aside0.mk (AN.out _ (rd_mem n i hlt))
    obtain ⟨p, hp⟩ : ∃ p, rdOf ByteArray.empty n (i : Int) = p := ⟨_, rfl⟩
    rw [hp] at hcell DS AP
    have HP := Aside0.mk hp
    clear hp
    obtain ⟨ka, hka⟩ := Ev.rounds (refchange06 d p (by omega))
    obtain ⟨kb, hkb⟩ := Ev.rounds (refchange06 e p (by omega))
    change copseref06_change.f ka d p = some (foundC (atC d p)) at hka
    change copseref06_change.f kb e p = some (foundC (atC e p)) at hkb
    rw [foundC_is] at hka hkb
    obtain ⟨x, hxx⟩ : ∃ x, changeO (atC d p) = x := ⟨_, rfl⟩
    obtain ⟨hx, hhx⟩ : ∃ b, (atC d p).isSome = b := ⟨_, rfl⟩
    obtain ⟨y, hyy⟩ : ∃ x, changeO (atC e p) = x := ⟨_, rfl⟩
    obtain ⟨hy, hhy⟩ : ∃ b, (atC e p).isSome = b := ⟨_, rfl⟩
    have OX : Aside0 (atC d p = if hx = true then some x else none) := ⟨by rw [← hxx, ← hhx]; cases atC d p <;> rfl⟩
    have OY : Aside0 (atC e p = if hy = true then some y else none) := ⟨by rw [← hyy, ← hhy]; cases atC e p <;> rfl⟩
    rw [hxx, hhx] at hka
    rw [hyy, hhy] at hkb
    rw [hhx, hhy] at AP
    have KA := Aside0.mk hka
    have KB := Aside0.mk hkb
    clear hka hkb hxx hhx hyy hhy
    go_wp2_with fail
    refine (copseref06_change.calls ka A0 c0 d p _ _ _ _ _ _ _ _ _ _ _ _ _ (Kd.C_below HR0.out B1.out) HC0.out KA.out).mono ?_
    rintro e5 w5 ⟨rfl, hb⟩
    have B5 : Aside0 (Below wr.heap.size wr w5) := ⟨hb⟩
    have hc5 : ∀ o, (w5.alloc o).cell? (ad.add i) = some (.string p) := fun o => Lib.cell?_alloc_some o (below_keeps hb hcell)
    clear hb
    go_wp2_with fail
    refine (copseref06_change.calls kb A1 c1 e p _ _ _ _ _ _ _ _ _ _ _ _ _ (Kd.C_alloc (Kd.C_below (Kd.C_below HR1.out B1.out) B5.out) _) HC1.out KB.out).mono ?_
    rintro e6 w6 ⟨rfl, hb⟩
    have g0 : ∀ o, (w6.alloc o).cell? ⟨w5.heap.size, 0, none⟩ = some (.string x.f0) := fun o => Lib.cell?_alloc_some o ((hb.cell (p := ⟨w5.heap.size, 0, none⟩) (by simp)).trans (cell_new w5 _ _ 0))
    have g1 : ∀ o, (w6.alloc o).cell? ⟨w5.heap.size, 1, none⟩ = some (.bool x.f1) := fun o => Lib.cell?_alloc_some o ((hb.cell (p := ⟨w5.heap.size, 1, none⟩) (by simp)).trans (cell_new w5 _ _ 1))
    have g2 : ∀ o, (w6.alloc o).cell? ⟨w5.heap.size, 2, none⟩ = some (.bool x.f2) := fun o => Lib.cell?_alloc_some o ((hb.cell (p := ⟨w5.heap.size, 2, none⟩) (by simp)).trans (cell_new w5 _ _ 2))
    have g3 : ∀ o, (w6.alloc o).cell? ⟨w5.heap.size, 3, none⟩ = some (.string x.f3.f0) := fun o => Lib.cell?_alloc_some o ((hb.cell (p := ⟨w5.heap.size, 3, none⟩) (by simp)).trans (cell_new w5 _ _ 3))
    have g4 : ∀ o, (w6.alloc o).cell? ⟨w5.heap.size, 4, none⟩ = some (.string x.f3.f1) := fun o => Lib.cell?_alloc_some o ((hb.cell (p := ⟨w5.heap.size, 4, none⟩) (by simp)).trans (cell_new w5 _ _ 4))
    have g5 : ∀ o, (w6.alloc o).cell? ⟨w5.heap.size, 5, none⟩ = some (.int .i64 x.f3.f2) := fun o => Lib.cell?_alloc_some o ((hb.cell (p := ⟨w5.heap.size, 5, none⟩) (by simp)).trans (cell_new w5 _ _ 5))
    have g6 : ∀ o, (w6.alloc o).cell? ⟨w5.heap.size, 6, none⟩ = some (.int .i64 x.f3.f3) := fun o => Lib.cell?_alloc_some o ((hb.cell (p := ⟨w5.heap.size, 6, none⟩) (by simp)).trans (cell_new w5 _ _ 6))
    have g7 : ∀ o, (w6.alloc o).cell? ⟨w5.heap.size, 7, none⟩ = some (.string x.f4.f0) := fun o => Lib.cell?_alloc_some o ((hb.cell (p := ⟨w5.heap.size, 7, none⟩) (by simp)).trans (cell_new w5 _ _ 7))
    have g8 : ∀ o, (w6.alloc o).cell? ⟨w5.heap.size, 8, none⟩ = some (.string x.f4.f1) := fun o => Lib.cell?_alloc_some o ((hb.cell (p := ⟨w5.heap.size, 8, none⟩) (by simp)).trans (cell_new w5 _ _ 8))
    have g9 : ∀ o, (w6.alloc o).cell? ⟨w5.heap.size, 9, none⟩ = some (.int .i64 x.f4.f2) := fun o => Lib.cell?_alloc_some o ((hb.cell (p := ⟨w5.heap.size, 9, none⟩) (by simp)).trans (cell_new w5 _ _ 9))
    have g10 : ∀ o, (w6.alloc o).cell? ⟨w5.heap.size, 10, none⟩ = some (.int .i64 x.f4.f3) := fun o => Lib.cell?_alloc_some o ((hb.cell (p := ⟨w5.heap.size, 10, none⟩) (by simp)).trans (cell_new w5 _ _ 10))
    have B6 : Aside0 (Below wr.heap.size wr w6) := ⟨below_then (B5.out.alloc B5.out.size _) (by have := B5.out.size; rw [size_alloc']; omega) hb⟩
    have S56 : Aside0 (wr.heap.size ≤ w5.heap.size ∧ w5.heap.size < w6.heap.size) := ⟨B5.out.size, by have := hb.size; rw [size_alloc'] at this; omega⟩
    have NB : Aside0 (∀ o, (w6.alloc o).heap[w5.heap.size]? = some (.cells #[.string x.f0, .bool x.f1, .bool x.f2, .string x.f3.f0, .string x.f3.f1, .int .i64 x.f3.f2, .int .i64 x.f3.f3, .string x.f4.f0, .string x.f4.f1, .int .i64 x.f4.f2, .int .i64 x.f4.f3] 45 (0, 0))) := ⟨fun o => ((World.grownBy_alloc w6 o none).block w5.heap.size S56.out.2 (by simp)).trans ((hb.block w5.heap.size (by simp)).trans (heap_alloc_new w5 _))⟩
    clear hb hc5 hcell
    have B7 : Aside0 (Below wr.heap.size wr (w6.alloc (.cells #[.string y.f0, .bool y.f1, .bool y.f2, .string y.f3.f0, .string y.f3.f1, .int .i64 y.f3.f2, .int .i64 y.f3.f3, .string y.f4.f0, .string y.f4.f1, .int .i64 y.f4.f2, .int .i64 y.f4.f3] 45))) := ⟨B6.out.alloc B6.out.size _⟩
    have O7 := Aside0.mk (Kd.R_below O1.out B7.out)
    have N7 := Aside0.mk (Kd.R_below N1.out B7.out)
    have W7 : Aside0 (Below w.heap.size w (w6.alloc (.cells #[.string y.f0, .bool y.f1, .bool y.f2, .string y.f3.f0, .string y.f3.f1, .int .i64 y.f3.f2, .int .i64 y.f3.f3, .string y.f4.f0, .string y.f4.f1, .int .i64 y.f4.f2, .int .i64 y.f4.f3] 45))) := ⟨below_then B1.out B1.out.size B7.out⟩
    cases hx with
    | true =>
     cases hy with
     | true =>
      by_cases c1 : y.f1 = x.f2
      rotate_left
      ·have hcb : (y.f1 != x.f2) = true := bne_iff_ne.2 c1
       have CL : Aside0 (joinV d e = ([], 9)) := ⟨by
        unfold joinV
        rw [if_pos ⟨hv, hv2⟩, if_pos (clash_some (p := p) (by rw [OX.out, OY.out]; unfold clashAt; simp [Ne.symm c1]))]⟩
       go_wp2
       go_ret2
       exact ⟨_, by rw [CL.out]; rfl, by rw [CL.out]; exact Kd.R_nil _ _ _ _ _, W7.out⟩
      cases c2 : eqF y.f3 x.f4 with
      | true =>
       have c3 := eqF_iff.1 c2
       have NC : Aside0 (clashAt (if true = true then some x else none) (if true = true then some y else none) = false) := ⟨by unfold clashAt; simp [c1, c3, eqF_self]⟩
       have CN2 : Aside0 (∀ j, j < i + 1 → clashAt (atC d (rdOf ByteArray.empty n (j : Int))) (atC e (rdOf ByteArray.empty n (j : Int))) = false) := ⟨fun j hj => by
        by_cases ej : j = i
        ·subst ej; rw [HP.out, OX.out, OY.out]; exact NC.out
        ·exact CN.out j (by omega)⟩
       rw [← c1] at g2
       rw [← c3] at g7 g8 g9 g10
       clear c2 NC c1 c3
       have k2 : ∀ o, (w6.alloc o).frozen? ⟨w5.heap.size, 2, none⟩ = false := fun o => blk_frozen (NB.out o) 2
       have k7 : ∀ o, (w6.alloc o).frozen? ⟨w5.heap.size, 7, none⟩ = false := fun o => blk_frozen (NB.out o) 7
       have k8 : ∀ o, (w6.alloc o).frozen? ⟨w5.heap.size, 8, none⟩ = false := fun o => blk_frozen (NB.out o) 8
       have k9 : ∀ o, (w6.alloc o).frozen? ⟨w5.heap.size, 9, none⟩ = false := fun o => blk_frozen (NB.out o) 9
       have k10 : ∀ o, (w6.alloc o).frozen? ⟨w5.heap.size, 10, none⟩ = false := fun o => blk_frozen (NB.out o) 10
       go_upto_region 17 with (fail)
       have ZZ : ∀ w8, (World.setCell (World.setCell (World.setCell (World.setCell (World.setCell (w6.alloc (.cells #[(.string y.f0), (.bool y.f1), (.bool y.f2), (.string y.f3.f0), (.string y.f3.f1), (.int .i64 y.f3.f2), (.int .i64 y.f3.f3), (.string y.f4.f0), (.string y.f4.f1), (.int .i64 y.f4.f2), (.int .i64 y.f4.f3)] 45)) ⟨w5.heap.size, 2, none⟩ (.bool y.f2)) ⟨w5.heap.size, 7, none⟩ (.string y.f4.f0)) ⟨w5.heap.size, 8, none⟩ (.string y.f4.f1)) ⟨w5.heap.size, 9, none⟩ (.int .i64 y.f4.f2)) ⟨w5.heap.size, 10, none⟩ (.int .i64 y.f4.f3)) = w8 → w8.cell? ⟨w5.heap.size, 0, none⟩ = some (.string x.f0) ∧ w8.cell? ⟨w5.heap.size, 1, none⟩ = some (.bool x.f1) ∧ w8.cell? ⟨w5.heap.size, 2, none⟩ = some (.bool y.f2) ∧ w8.cell? ⟨w5.heap.size, 3, none⟩ = some (.string x.f3.f0) ∧ w8.cell? ⟨w5.heap.size, 4, none⟩ = some (.string x.f3.f1) ∧ w8.cell? ⟨w5.heap.size, 5, none⟩ = some (.int .i64 x.f3.f2) ∧ w8.cell? ⟨w5.heap.size, 6, none⟩ = some (.int .i64 x.f3.f3) ∧ w8.cell? ⟨w5.heap.size, 7, none⟩ = some (.string y.f4.f0) ∧ w8.cell? ⟨w5.heap.size, 8, none⟩ = some (.string y.f4.f1) ∧ w8.cell? ⟨w5.heap.size, 9, none⟩ = some (.int .i64 y.f4.f2) ∧ w8.cell? ⟨w5.heap.size, 10, none⟩ = some (.int .i64 y.f4.f3) ∧ Below wr.heap.size wr w8 := by
        rintro _ rfl
        exact ⟨by go_simp, by go_simp, by go_simp, by go_simp, by go_simp, by go_simp, by go_simp, by go_simp, by go_simp, by go_simp, by go_simp, (((((B7.out.setCell S56.out.1 _).setCell S56.out.1 _).setCell S56.out.1 _).setCell S56.out.1 _).setCell S56.out.1 _)⟩
       obtain ⟨w8, h8⟩ : ∃ w8, (World.setCell (World.setCell (World.setCell (World.setCell (World.setCell (w6.alloc (.cells #[(.string y.f0), (.bool y.f1), (.bool y.f2), (.string y.f3.f0), (.string y.f3.f1), (.int .i64 y.f3.f2), (.int .i64 y.f3.f3), (.string y.f4.f0), (.string y.f4.f1), (.int .i64 y.f4.f2), (.int .i64 y.f4.f3)] 45)) ⟨w5.heap.size, 2, none⟩ (.bool y.f2)) ⟨w5.heap.size, 7, none⟩ (.string y.f4.f0)) ⟨w5.heap.size, 8, none⟩ (.string y.f4.f1)) ⟨w5.heap.size, 9, none⟩ (.int .i64 y.f4.f2)) ⟨w5.heap.size, 10, none⟩ (.int .i64 y.f4.f3)) = w8 := ⟨_, rfl⟩
       rw [h8]
       obtain ⟨z0, z1, z2, z3, z4, z5, z6, z7, z8, z9, z10, hb8⟩ := ZZ w8 h8
       have B8 := Aside0.mk hb8
       have O8 := Aside0.mk (Kd.R_below O1.out B8.out)
       have N8 := Aside0.mk (Kd.R_below N1.out B8.out)
       have W8 : Aside0 (Below w.heap.size w w8) := ⟨below_then B1.out B1.out.size B8.out⟩
       clear ZZ hb8 h8 g0 g1 g2 g3 g4 g5 g6 g7 g8 g9 g10 k2 k7 k8 k9 k10 O7 N7 W7 B7
       by_cases c4 : x.f1 = y.f2
       rotate_left
       ·have hcb : (x.f1 != y.f2) = true := bne_iff_ne.2 c4
        have DS2 : Aside0 (joinTo d e (n.take (i + 1)) = joinTo d e (n.take i) ++ [outerC x y]) := ⟨by rw [DS.out, OX.out, OY.out]; unfold joinO; simp [hcb]⟩
        go_wp2_with (first
         | ((with_reducible refine gate_builtin (b := .append) (xs := #[.tmp 88, .tmp 90]) rfl ?_); at_builtin; refine Kd.R_append k45 (w0 := w) w.heap.size rfl (.tmp 88) (.tmp 90) 23 45 (.agg #[(.string ⟨#[]⟩), (.bool false), (.bool false), (.string ⟨#[]⟩), (.string ⟨#[]⟩), (.int .i64 0), (.int .i64 0), (.string ⟨#[]⟩), (.string ⟨#[]⟩), (.int .i64 0), (.int .i64 0)]) 120 rfl Tryz.underlying23 info45 rfl (by decide) (by omega) u7 (joinTo d e (n.take i)) (outerC x y) [.string x.f0, .bool x.f1, .bool y.f2, .string x.f3.f0, .string x.f3.f1, .int .i64 x.f3.f2, .int .i64 x.f3.f3, .string y.f4.f0, .string y.f4.f1, .int .i64 y.f4.f2, .int .i64 y.f4.f3] (fun _ => True) (fun _ => False) rfl (by first | (go_simp; done) | (go_simp; rfl)) (k45_mkM _ _ _ (outerC x y)) (fun _ h => h.elim) (fun _ _ => trivial) O8.out W8.out W8.out.size (by have := DL.out; omega) ?_; intro v9 w9 ho hb hgr hat; have O9 := Aside0.mk ho; have B9 := Aside0.mk hb; have N9 := Aside0.mk (Kd.R_over' N8.out (Kd.R_typed O8.out) (by decide) hgr); clear ho hb hgr hat)
         | fail)
        go_roundg (n.length - (i + 1))
        case measure => omega
        case rel => exact ⟨i + 1, by omega, by omega, by go_num, ⟨by rw [DS2.out]; exact O9.out⟩, N9, CN2, B9⟩
       cases c5 : eqF x.f3 y.f4 with
       | true =>
        have c6 := eqF_iff.1 c5
        have DS2 : Aside0 (joinTo d e (n.take (i + 1)) = joinTo d e (n.take i)) := ⟨by rw [DS.out, OX.out, OY.out]; unfold joinO; simp [c4, c5]⟩
        rw [← c4] at z2
        rw [← c6] at z7 z8 z9 z10
        clear c4 c5 c6
        go_wp2
        go_roundg (n.length - (i + 1))
        case measure => omega
        case rel => exact ⟨i + 1, by omega, by omega, by go_num, ⟨by rw [DS2.out]; exact O8.out⟩, N8, CN2, W8⟩
       | false =>
        have hne := neF_bits c5
        have DS2 : Aside0 (joinTo d e (n.take (i + 1)) = joinTo d e (n.take i) ++ [outerC x y]) := ⟨by rw [DS.out, OX.out, OY.out]; unfold joinO; simp [c5]⟩
        have HH : Aside0 (x.f1 = y.f2) := ⟨c4⟩
        rw [← c4] at z2
        clear c4 c5
        have OC : Aside0 (outerC x y = ⟨x.f0, x.f1, x.f1, x.f3, y.f4⟩) := ⟨by unfold outerC; rw [HH.out]⟩
        rw [OC.out] at DS2
        go_wp2_with (first
         | ((with_reducible refine gate_builtin (b := .append) (xs := #[.tmp 88, .tmp 90]) rfl ?_); at_builtin; refine Kd.R_append k45 (w0 := w) w.heap.size rfl (.tmp 88) (.tmp 90) 23 45 (.agg #[(.string ⟨#[]⟩), (.bool false), (.bool false), (.string ⟨#[]⟩), (.string ⟨#[]⟩), (.int .i64 0), (.int .i64 0), (.string ⟨#[]⟩), (.string ⟨#[]⟩), (.int .i64 0), (.int .i64 0)]) 120 rfl Tryz.underlying23 info45 rfl (by decide) (by omega) u7 (joinTo d e (n.take i)) (⟨x.f0, x.f1, x.f1, x.f3, y.f4⟩ : S45) [.string x.f0, .bool x.f1, .bool x.f1, .string x.f3.f0, .string x.f3.f1, .int .i64 x.f3.f2, .int .i64 x.f3.f3, .string y.f4.f0, .string y.f4.f1, .int .i64 y.f4.f2, .int .i64 y.f4.f3] (fun _ => True) (fun _ => False) rfl (by first | (go_simp; done) | (go_simp; rfl)) (k45_mkM _ _ _ (⟨x.f0, x.f1, x.f1, x.f3, y.f4⟩ : S45)) (fun _ h => h.elim) (fun _ _ => trivial) O8.out W8.out W8.out.size (by have := DL.out; omega) ?_; intro v9 w9 ho hb hgr hat; have O9 := Aside0.mk ho; have B9 := Aside0.mk hb; have N9 := Aside0.mk (Kd.R_over' N8.out (Kd.R_typed O8.out) (by decide) hgr); clear ho hb hgr hat)
         | fail)
        go_roundg (n.length - (i + 1))
        case measure => omega
        case rel => exact ⟨i + 1, by omega, by omega, by go_num, ⟨by rw [DS2.out]; exact O9.out⟩, N9, CN2, B9⟩
      | false =>
       have hne := neF_bits c2
       have C1 := Aside0.mk c1
       have C2 := Aside0.mk c2
       rw [← c1] at g2
       clear c1 c2
       have CL : Aside0 (joinV d e = ([], 9)) := ⟨by
        unfold joinV
        rw [if_pos ⟨hv, hv2⟩, if_pos (clash_some (p := p) (by rw [OX.out, OY.out]; unfold clashAt; simp [C1.out, eqF_comm x.f4, C2.out]))]⟩
       go_wp2
       go_ret2
       exact ⟨_, by rw [CL.out]; rfl, by rw [CL.out]; exact Kd.R_nil _ _ _ _ _, W7.out⟩
     | false =>
      have NC : Aside0 (clashAt (if true = true then some x else none) (if false = true then some y else none) = false) := ⟨rfl⟩
      have CN2 : Aside0 (∀ j, j < i + 1 → clashAt (atC d (rdOf ByteArray.empty n (j : Int))) (atC e (rdOf ByteArray.empty n (j : Int))) = false) := ⟨fun j hj => by
       by_cases ej : j = i
       ·subst ej; rw [HP.out, OX.out, OY.out]; exact NC.out
       ·exact CN.out j (by omega)⟩
      have DS2 : Aside0 (joinTo d e (n.take (i + 1)) = joinTo d e (n.take i) ++ [x]) := ⟨by rw [DS.out, OX.out, OY.out]; rfl⟩
      go_wp2_with (first
       | ((with_reducible refine gate_builtin (b := .append) (xs := #[.tmp 93, .tmp 95]) rfl ?_); at_builtin; refine Kd.R_append k45 (w0 := w) w.heap.size rfl (.tmp 93) (.tmp 95) 23 45 (.agg #[(.string ⟨#[]⟩), (.bool false), (.bool false), (.string ⟨#[]⟩), (.string ⟨#[]⟩), (.int .i64 0), (.int .i64 0), (.string ⟨#[]⟩), (.string ⟨#[]⟩), (.int .i64 0), (.int .i64 0)]) 120 rfl Tryz.underlying23 info45 rfl (by decide) (by omega) u7 (joinTo d e (n.take i)) (x) [.string (x.f0), .bool (x.f1), .bool (x.f2), .string (x.f3.f0), .string (x.f3.f1), .int .i64 (x.f3.f2), .int .i64 (x.f3.f3), .string (x.f4.f0), .string (x.f4.f1), .int .i64 (x.f4.f2), .int .i64 (x.f4.f3)] (fun _ => True) (fun _ => False) rfl (by first | (go_simp; done) | (go_simp; rfl)) (k45_mkM _ _ _ (x)) (fun _ h => h.elim) (fun _ _ => trivial) O7.out W7.out W7.out.size (by have := DL.out; omega) ?_; intro v9 w9 ho hb hgr hat; have O9 := Aside0.mk ho; have B9 := Aside0.mk hb; have N9 := Aside0.mk (Kd.R_over' N7.out (Kd.R_typed O7.out) (by decide) hgr); clear ho hb hgr hat)
       | fail)
      go_roundg (n.length - (i + 1))
      case measure => omega
      case rel => exact ⟨i + 1, by omega, by omega, by go_num, ⟨by rw [DS2.out]; exact O9.out⟩, N9, CN2, B9⟩
    | false =>
     obtain rfl : hy = true := by
      rcases AP.out with h | h
      ·cases h
      exact h
     have NC : Aside0 (clashAt (if false = true then some x else none) (if true = true then some y else none) = false) := ⟨rfl⟩
     have CN2 : Aside0 (∀ j, j < i + 1 → clashAt (atC d (rdOf ByteArray.empty n (j : Int))) (atC e (rdOf ByteArray.empty n (j : Int))) = false) := ⟨fun j hj => by
      by_cases ej : j = i
      ·subst ej; rw [HP.out, OX.out, OY.out]; exact NC.out
      ·exact CN.out j (by omega)⟩
     have DS2 : Aside0 (joinTo d e (n.take (i + 1)) = joinTo d e (n.take i) ++ [y]) := ⟨by rw [DS.out, OX.out, OY.out]; rfl⟩
     go_wp2_with (first
      | ((with_reducible refine gate_builtin (b := .append) (xs := #[.tmp 97, .tmp 99]) rfl ?_); at_builtin; refine Kd.R_append k45 (w0 := w) w.heap.size rfl (.tmp 97) (.tmp 99) 23 45 (.agg #[(.string ⟨#[]⟩), (.bool false), (.bool false), (.string ⟨#[]⟩), (.string ⟨#[]⟩), (.int .i64 0), (.int .i64 0), (.string ⟨#[]⟩), (.string ⟨#[]⟩), (.int .i64 0), (.int .i64 0)]) 120 rfl Tryz.underlying23 info45 rfl (by decide) (by omega) u7 (joinTo d e (n.take i)) (y) [.string (y.f0), .bool (y.f1), .bool (y.f2), .string (y.f3.f0), .string (y.f3.f1), .int .i64 (y.f3.f2), .int .i64 (y.f3.f3), .string (y.f4.f0), .string (y.f4.f1), .int .i64 (y.f4.f2), .int .i64 (y.f4.f3)] (fun _ => True) (fun _ => False) rfl (by first | (go_simp; done) | (go_simp; rfl)) (k45_mkM _ _ _ (y)) (fun _ h => h.elim) (fun _ _ => trivial) O7.out W7.out W7.out.size (by have := DL.out; omega) ?_; intro v9 w9 ho hb hgr hat; have O9 := Aside0.mk ho; have B9 := Aside0.mk hb; have N9 := Aside0.mk (Kd.R_over' N7.out (Kd.R_typed O7.out) (by decide) hgr); clear ho hb hgr hat)
      | fail)
     go_roundg (n.length - (i + 1))
     case measure => omega
     case rel => exact ⟨i + 1, by omega, by omega, by go_num, ⟨by rw [DS2.out]; exact O9.out⟩, N9, CN2, B9⟩
  | false =>
   have JV : Aside0 (joinV d e = ([], 9)) := ⟨by unfold joinV; rw [if_neg (by simp [hv2])]⟩
   go_wp2_with fail
   refine (ref06_calls A1 c1 e _ (Kd.C_below HR1.out B1.out) (by omega) FE.out).mono ?_
   rintro e2 w2 ⟨rfl, hb⟩
   rw [hv2]
   have B2 : Aside0 (Below w.heap.size w w2) := ⟨below_then B1.out B1.out.size hb⟩
   go_wp2
   go_ret2
   exact ⟨_, by rw [JV.out]; rfl, by rw [JV.out]; exact Kd.R_nil _ _ _ _ _, B2.out⟩
 | false =>
  have JV : Aside0 (joinV d e = ([], 9)) := ⟨by unfold joinV; rw [if_neg (by simp [hv])]⟩
  go_wp2_with fail
  refine (ref06_calls A0 c0 d _ HR0.out (by omega) FD.out).mono ?_
  rintro e1 w1 ⟨rfl, hb⟩
  rw [hv]
  go_wp2
  go_ret2
  exact ⟨_, by rw [JV.out]; rfl, by rw [JV.out]; exact Kd.R_nil _ _ _ _ _, hb⟩
end Go.Proofs.YtehfogjibhnabaaGreatDoor.PAll
