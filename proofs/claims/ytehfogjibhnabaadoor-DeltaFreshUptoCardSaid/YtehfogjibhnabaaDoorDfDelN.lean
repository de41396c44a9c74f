/- Layer 6: DeltaFresh: the law's walk. -/
import Derived.Test.YtehfogjibhnabaaDoorDfPAllx0
import Derived.Test.YtehfogjibhnabaaDoorDfPAlly4
import Derived.Test.YtehfogjibhnabaaDoorDfDelD
import Derived.Test.YtehfogjibhnabaaDoorDfPAlly12
import Derived.Test.YtehfogjibhnabaaDoorDfPure5
import Derived.Test.YtehfogjibhnabaaDoorDfHandA
import Derived.Test.YtehfogjibhnabaaDoorDfDelB
import Derived.Test.YtehfogjibhnabaaDoorDfPAlly3
import Derived.WalkKit
import Derived.BigQuiet
import Derived.Outline
namespace Go.Proofs.YtehfogjibhnabaaDoor.PAll
open Go.RowKit Go.Proofs.YtehfogjibhnabaaDoorW.PrintWords Go.Proofs.YtehfogjibhnabaaDoorW.PrintLast Go.Proofs.YtehfogjibhnabaaDoorW.PrintMore
open Go.Proofs.YtehfogjibhnabaaDoor.Sp
theorem R_between {α : Type} {d : Kd α} {e base : Nat} {ok : Nat → Prop} {W : World} {v : Value} {xs : List α} (h : d.R e W base ok v xs) : d.R e W base (fun k => base ≤ k ∧ k < W.heap.size) v xs :=
 Kd.R_mono (Kd.R_bound h) (fun _ hk => ⟨hk.2.1, hk.2.2.1⟩)
def freshD (a b : List S55) : List S61 := if snapV a = 0 ∧ snapV b = 0 then diffD a b else []
theorem freshD_facts {a b : List S55} (fa : FitsF a) (fb : FitsF b) : (freshD a b).length ≤ 1024 ∧ FitsD (freshD a b) ∧ joinV (freshD a b) [] = (freshD a b, 0) := by
 unfold freshD
 by_cases h : snapV a = 0 ∧ snapV b = 0
 ·rw [if_pos h]
  obtain ⟨ha, hb⟩ := h
  refine ⟨?_, fits_diffD ha hb fa fb, ?_⟩
  ·have h1 := diff_length a b
   have h2 := ((snap_zero a).1 ha).2.1
   have h3 := ((snap_zero b).1 hb).2.1
   omega
  ·have := joinV_diff ha hb hb
   rwa [(diff_nil hb hb).2 rfl] at this
 ·rw [if_neg h]
  exact ⟨by simp, (fun _ h => nomatch h), rfl⟩
theorem apply_short (a : List S55) (d : List S61) : (applyV a d).1.length ≤ 512 := by
 unfold applyV
 split
 ·split
  ·split
   ·simp
   ·split
    ·rename_i h
     exact ((snap_zero _).1 h).2.1
    ·simp
  ·simp
 ·simp
theorem texts06_run (a : List ByteArray) (ha : a.length ≤ 1073741824) (d : Nat) : ∀ i, a.length - i = d → i ≤ a.length → Ev (fun k => copselaw06_texts.l0 k a a (i : Int)) true := by
 induction d with
 | zero =>
  intro i hd hi
  refine ⟨1, fun k hk => ?_⟩
  obtain ⟨k, rfl⟩ : ∃ m, k = m + 1 := ⟨k - 1, by omega⟩
  simp only [copselaw06_texts.l0]
  rw [if_neg (by omega)]
 | succ d ih =>
  intro i hd hi
  obtain ⟨K, hK⟩ := ih (i + 1) (by omega) (by omega)
  dsimp only at hK
  refine ⟨K + 1, fun k hk => ?_⟩
  obtain ⟨k, rfl⟩ : ∃ m, k = m + 1 := ⟨k - 1, by omega⟩
  simp only [copselaw06_texts.l0]
  rw [if_pos (by omega), if_pos (by omega), if_pos (by omega), if_pos trivial, wrap_succ (n := a.length) (by omega) (by omega)]
  exact hK k (by omega)
theorem texts06_same (a : List ByteArray) (ha : a.length ≤ 1073741824) : Ev (fun k => copselaw06_texts.f k a a) true := by
 refine Ev.congr (fun k => ?_) (texts06_run a ha a.length 0 (by omega) (by omega))
 unfold copselaw06_texts.f
 rw [if_pos (by omega)]; rfl
set_option maxHeartbeats 16000000 in
set_option maxRecDepth 100000 in
theorem DeltaFresh_calls (A0 : Option Addr) (c0 : Nat) (a : List S55) (A1 : Option Addr) (c1 : Nat) (b : List S55) (w : World)
  (hr0 : Kd.C k55 w A0 a.length a) (hc0 : a.length ≤ c0) (hr1 : Kd.C k55 w A1 b.length b) (hc1 : b.length ≤ c1) (la : a.length ≤ 1048576) (lb : b.length ≤ 1048576) (fa : FitsF a) (fb : FitsF b) :
  Calls Tryd.prog 9 #[.slice A0 a.length c0, .slice A1 b.length c1] w fun e w' => e = .returned (.bool true) ∧ Below w.heap.size w w' := by
 obtain ⟨nD, fD, jD⟩ := freshD_facts fa fb
 obtain ⟨kd, hd⟩ := Ev.rounds (diff06 a b (by omega) fa (by omega) fb)
 obtain ⟨D, hD⟩ : ∃ D, D = freshD a b := ⟨_, rfl⟩
 rw [show (if snapV a = 0 ∧ snapV b = 0 then diffD a b else []) = D from hD.symm] at hd
 rw [← hD] at nD fD jD
 obtain ⟨kv, hv⟩ := Ev.rounds alive06
 obtain ⟨kc, hc⟩ := Ev.rounds (changes06_same D (by omega))
 obtain ⟨IV, hIV⟩ : ∃ IV, IV = D.map turnC := ⟨_, rfl⟩
 have hi : delta_Invert.f D = some IV := by rw [invert_is (by omega), hIV]
 have nIV : IV.length = D.length := by rw [hIV, List.length_map]
 obtain ⟨kj, hj⟩ := Ev.rounds (join06 D [] (by omega) (by simp) fD (fun _ h => nomatch h))
 rw [jD] at hj
 obtain ⟨L, er, hL⟩ : ∃ L er, applyV a D = (L, er) := ⟨_, _, rfl⟩
 have hp : delta_Apply.f a D = some (L, er) := by rw [apply_is (by omega) (by omega) fa fD, hL]
 have nL : L.length ≤ 512 := by have := apply_short a D; rw [hL] at this; exact this
 obtain ⟨P, hP⟩ : ∃ P, P = D.map S61.f0 := ⟨_, rfl⟩
 have nP : P.length = D.length := by rw [hP, List.length_map]
 obtain ⟨kp, hpa⟩ := Ev.rounds (paths06 D (by omega))
 rw [← hP] at hpa
 obtain ⟨kl, hl⟩ := Ev.rounds (files06_same L (by omega))
 obtain ⟨kt, ht⟩ := Ev.rounds (texts06_same P (by omega))
 have HL := Aside0.mk hl
 have HT := Aside0.mk ht
 clear hl ht
 have HD := Aside0.mk hd
 have HV := Aside0.mk hv
 have HC := Aside0.mk hc
 have HI := Aside0.mk hi
 have HJ := Aside0.mk hj
 have HP := Aside0.mk hp
 have HPA := Aside0.mk hpa
 have NIV := Aside0.mk nIV
 have nIV2 : IV.length ≤ 1024 := by omega
 have nP2 : P.length ≤ 1024 := by omega
 have NP := Aside0.mk nP
 have HRa := Aside0.mk hr0
 have HRb := Aside0.mk hr1
 have HA0 := Aside0.mk hr0
 have HB0 := Aside0.mk hr1
 have HCa := Aside0.mk hc0
 have HCb := Aside0.mk hc1
 have BW := Aside0.mk (Below.refl w.heap.size w)
 clear hd hv hc hi hj hp hpa hr0 hr1 hc0 hc1 hD hIV hL hP jD nIV nP
 go_enter Tryd.func9, Tryd.ntmps9
 go_wp2_with fail
 refine (delta_Diff.calls kd A0 c0 a A1 c1 b D _ HRa.out HCa.out HRb.out HCb.out HD.out).mono ?_
 rintro e1 w1 ⟨vd, rfl, ho, hb⟩
 obtain ⟨Ad, cd, rfl, lx, -⟩ := Kd.R_reads ho
 have Ld := Aside0.mk lx
 clear lx
 have HRa := Aside0.mk (Kd.C_below HRa.out hb)
 have HRb := Aside0.mk (Kd.C_below HRb.out hb)
 have BW := Aside0.mk (below_then BW.out BW.out.size hb)
 have Rd := Aside0.mk (R_between ho)
 have Z1 : Aside0 (w.heap.size ≤ w1.heap.size) := ⟨hb.size⟩
 clear ho hb
 go_wp2_with fail
 refine (delta_Diff.calls kd A0 c0 a A1 c1 b D _ HRa.out HCa.out HRb.out HCb.out HD.out).mono ?_
 rintro e2 w2 ⟨ve, rfl, ho, hb⟩
 obtain ⟨Ae, ce, rfl, lx, -⟩ := Kd.R_reads ho
 have Le := Aside0.mk lx
 clear lx
 have HRa := Aside0.mk (Kd.C_below HRa.out hb)
 have HRb := Aside0.mk (Kd.C_below HRb.out hb)
 have Rd := Aside0.mk (Kd.R_below Rd.out hb)
 have BW := Aside0.mk (below_then BW.out BW.out.size hb)
 have Re := Aside0.mk (R_between ho)
 have Z2 : Aside0 (w1.heap.size ≤ w2.heap.size) := ⟨hb.size⟩
 clear ho hb
 go_wp2_with fail
 refine (copselaw06_alive.calls kv true _ HV.out).mono ?_
 rintro e3 w3 ⟨rfl, hb⟩
 have HRa := Aside0.mk (Kd.C_below HRa.out hb)
 have HRb := Aside0.mk (Kd.C_below HRb.out hb)
 have Rd := Aside0.mk (Kd.R_below Rd.out hb)
 have Re := Aside0.mk (Kd.R_below Re.out hb)
 have BW := Aside0.mk (below_then BW.out BW.out.size hb)
 have Z3 : Aside0 (w2.heap.size ≤ w3.heap.size) := ⟨hb.size⟩
 clear hb
 go_wp2_with fail
 refine (copselaw06_changes.calls kc Ad cd D Ae ce D true _ (Kd.R_reads' Rd.out).2.2 Ld.out (Kd.R_reads' Re.out).2.2 Le.out HC.out).mono ?_
 rintro e4 x4 ⟨rfl, ⟨⟨q4, rfl⟩⟩⟩
 have hb : Below w3.heap.size w3 (w3.drewN q4) := pw_below_drewN (Below.refl _ _) q4
 generalize w3.drewN q4 = w4 at hb ⊢
 have HRa := Aside0.mk (Kd.C_below HRa.out hb)
 have HRb := Aside0.mk (Kd.C_below HRb.out hb)
 have Rd := Aside0.mk (Kd.R_below Rd.out hb)
 have Re := Aside0.mk (Kd.R_below Re.out hb)
 have BW := Aside0.mk (below_then BW.out BW.out.size hb)
 have Z4 : Aside0 (w3.heap.size ≤ w4.heap.size) := ⟨hb.size⟩
 clear hb
 go_wp2_with fail
 refine (delta_Invert.calls Ae ce D IV _ (Kd.R_reads' Re.out).2.2 Le.out HI.out).mono ?_
 rintro e5 w5 ⟨vi, rfl, ho, hb⟩
 obtain ⟨Ai, ci, rfl, lx, -⟩ := Kd.R_reads ho
 have Li := Aside0.mk lx
 clear lx
 have HRa := Aside0.mk (Kd.C_below HRa.out hb)
 have HRb := Aside0.mk (Kd.C_below HRb.out hb)
 have Rd := Aside0.mk (Kd.R_below Rd.out hb)
 have Re := Aside0.mk (Kd.R_below Re.out hb)
 have BW := Aside0.mk (below_then BW.out BW.out.size hb)
 have Ri := Aside0.mk (R_between ho)
 have Z5 : Aside0 (w4.heap.size ≤ w5.heap.size) := ⟨hb.size⟩
 clear ho hb
 go_wp2_with fail
 refine (delta_Join.calls kj Ae ce D none 0 [] D 0 _ (Kd.R_reads' Re.out).2.2 Le.out (Kd.C_nil _ _) (Nat.le_refl 0) HJ.out).mono ?_
 rintro e6 w6 ⟨vj, rfl, ho, hb⟩
 obtain ⟨Aj, cj, rfl, lx, -⟩ := Kd.R_reads ho
 have Lj := Aside0.mk lx
 clear lx
 have HRa := Aside0.mk (Kd.C_below HRa.out hb)
 have HRb := Aside0.mk (Kd.C_below HRb.out hb)
 have Rd := Aside0.mk (Kd.R_below Rd.out hb)
 have Re := Aside0.mk (Kd.R_below Re.out hb)
 have Ri := Aside0.mk (Kd.R_below Ri.out hb)
 have BW := Aside0.mk (below_then BW.out BW.out.size hb)
 have Rj := Aside0.mk (R_between ho)
 have Z6 : Aside0 (w5.heap.size ≤ w6.heap.size) := ⟨hb.size⟩
 clear ho hb
 go_wp2_with fail
 refine (delta_Apply.calls A0 c0 a Ae ce D L er _ HRa.out HCa.out (Kd.R_reads' Re.out).2.2 Le.out HP.out).mono ?_
 rintro e7 w7 ⟨vl, rfl, ho, hb⟩
 obtain ⟨Al, cl, rfl, lx, -⟩ := Kd.R_reads ho
 have Ll := Aside0.mk lx
 clear lx
 have HRa := Aside0.mk (Kd.C_below HRa.out hb)
 have HRb := Aside0.mk (Kd.C_below HRb.out hb)
 have Rd := Aside0.mk (Kd.R_below Rd.out hb)
 have Re := Aside0.mk (Kd.R_below Re.out hb)
 have Ri := Aside0.mk (Kd.R_below Ri.out hb)
 have Rj := Aside0.mk (Kd.R_below Rj.out hb)
 have BW := Aside0.mk (below_then BW.out BW.out.size hb)
 have Rl := Aside0.mk (R_between ho)
 have Z7 : Aside0 (w6.heap.size ≤ w7.heap.size) := ⟨hb.size⟩
 clear ho hb
 go_wp2_with fail
 refine (delta_Apply.calls A0 c0 a Ae ce D L er _ HRa.out HCa.out (Kd.R_reads' Re.out).2.2 Le.out HP.out).mono ?_
 rintro e8 w8 ⟨vm, rfl, ho, hb⟩
 obtain ⟨Am, cm, rfl, lx, -⟩ := Kd.R_reads ho
 have Lm := Aside0.mk lx
 clear lx
 have HRa := Aside0.mk (Kd.C_below HRa.out hb)
 have HRb := Aside0.mk (Kd.C_below HRb.out hb)
 have Rd := Aside0.mk (Kd.R_below Rd.out hb)
 have Re := Aside0.mk (Kd.R_below Re.out hb)
 have Ri := Aside0.mk (Kd.R_below Ri.out hb)
 have Rj := Aside0.mk (Kd.R_below Rj.out hb)
 have Rl := Aside0.mk (Kd.R_below Rl.out hb)
 have BW := Aside0.mk (below_then BW.out BW.out.size hb)
 have Rm := Aside0.mk (R_between ho)
 have Z8 : Aside0 (w7.heap.size ≤ w8.heap.size) := ⟨hb.size⟩
 clear ho hb
 go_wp2_with fail
 refine (delta_Paths.calls kp Ae ce D P _ (Kd.R_reads' Re.out).2.2 Le.out HPA.out).mono ?_
 rintro e9 w9 ⟨vp, rfl, ho, hb⟩
 obtain ⟨Ap, cp, rfl, lx, -⟩ := Kd.R_reads ho
 have Lp := Aside0.mk lx
 clear lx
 have HRa := Aside0.mk (Kd.C_below HRa.out hb)
 have HRb := Aside0.mk (Kd.C_below HRb.out hb)
 have Rd := Aside0.mk (Kd.R_below Rd.out hb)
 have Re := Aside0.mk (Kd.R_below Re.out hb)
 have Ri := Aside0.mk (Kd.R_below Ri.out hb)
 have Rj := Aside0.mk (Kd.R_below Rj.out hb)
 have Rl := Aside0.mk (Kd.R_below Rl.out hb)
 have Rm := Aside0.mk (Kd.R_below Rm.out hb)
 have BW := Aside0.mk (below_then BW.out BW.out.size hb)
 have Rp := Aside0.mk (R_between ho)
 have Z9 : Aside0 (w8.heap.size ≤ w9.heap.size) := ⟨hb.size⟩
 clear ho hb
 go_wp2_with fail
 refine (delta_Paths.calls kp Ae ce D P _ (Kd.R_reads' Re.out).2.2 Le.out HPA.out).mono ?_
 rintro e10 w10 ⟨vq, rfl, ho, hb⟩
 obtain ⟨Aq, cq, rfl, lx, -⟩ := Kd.R_reads ho
 have Lq := Aside0.mk lx
 clear lx
 have HRa := Aside0.mk (Kd.C_below HRa.out hb)
 have HRb := Aside0.mk (Kd.C_below HRb.out hb)
 have Rd := Aside0.mk (Kd.R_below Rd.out hb)
 have Re := Aside0.mk (Kd.R_below Re.out hb)
 have Ri := Aside0.mk (Kd.R_below Ri.out hb)
 have Rj := Aside0.mk (Kd.R_below Rj.out hb)
 have Rl := Aside0.mk (Kd.R_below Rl.out hb)
 have Rm := Aside0.mk (Kd.R_below Rm.out hb)
 have Rp := Aside0.mk (Kd.R_below Rp.out hb)
 have BW := Aside0.mk (below_then BW.out BW.out.size hb)
 have Rq := Aside0.mk (R_between ho)
 have Z10 : Aside0 (w9.heap.size ≤ w10.heap.size) := ⟨hb.size⟩
 clear ho hb
 have ZZ : Aside0 (w.heap.size ≤ w1.heap.size ∧ w1.heap.size ≤ w2.heap.size ∧ w2.heap.size ≤ w4.heap.size ∧ w4.heap.size ≤ w5.heap.size ∧ w5.heap.size ≤ w6.heap.size ∧ w6.heap.size ≤ w7.heap.size ∧ w7.heap.size ≤ w8.heap.size ∧ w8.heap.size ≤ w9.heap.size ∧ w9.heap.size ≤ w10.heap.size) := ⟨by have := Z1.out; have := Z2.out; have := Z3.out; have := Z4.out; have := Z5.out; have := Z6.out; have := Z7.out; have := Z8.out; have := Z9.out; have := Z10.out; omega⟩
 have HH : Aside0 (Held6 w.heap.size w1.heap.size w4.heap.size w5.heap.size w6.heap.size w7.heap.size w8.heap.size w9.heap.size w10.heap.size w w10 (.slice Ad D.length cd) (.slice Ai IV.length ci) (.slice Al L.length cl) (.slice Ap P.length cp) D IV L P w10) := ⟨by
  have zz := ZZ.out
  refine ⟨by omega, BW.out, Nat.le_refl _, fun _ _ _ _ _ _ => rfl, Kd.R_mono (Kd.R_lower Rd.out (by omega)) (fun _ _ => trivial), Kd.R_mono (Kd.R_lower Ri.out (by omega)) (fun _ _ => trivial), Kd.R_mono (Kd.R_lower Rl.out (by omega)) (fun _ _ => trivial), Kd.R_mono (Kd.R_lower Rp.out (by omega)) (fun _ _ => trivial), fun k hk => .inl (Rd.out.1 k hk), fun k hk => .inl (Ri.out.1 k hk), fun k hk => .inl (Rl.out.1 k hk), fun k hk => .inl (Rp.out.1 k hk), fun k hk hk2 => ?_⟩
  have h1 := Rd.out.1 k hk
  have h2 := Ri.out.1 k hk2
  omega⟩
 clear Rd Ri Rl Rp Z1 Z2 Z3 Z4 Z5 Z6 Z7 Z8 Z9 Z10
 go_wp2
 go_loopg [16] D.length (fun gg s16 wr => ∃ (k : Nat) (xs : List S61), k ≤ D.length ∧ D.length - k ≤ gg ∧ s16 = .int .i64 k ∧ xs.length = D.length ∧ Aside0 (Held6 w.heap.size w1.heap.size w4.heap.size w5.heap.size w6.heap.size w7.heap.size w8.heap.size w9.heap.size w10.heap.size w w10 (.slice Ad D.length cd) (.slice Ai IV.length ci) (.slice Al L.length cl) (.slice Ap P.length cp) xs IV L P wr))
 case atStart => exact ⟨0, _, by omega, by omega, by first | rfl | go_num, rfl, HH⟩
 case round =>
  clear HH
  obtain ⟨k, xs, hk, hg, rfl, hxl, HH⟩ := hrel
  by_cases hlt : k < D.length
  ·have hltz : (k : Int) < (D.length : Int) := by omega
   obtain ⟨g0, cap0, he, -⟩ := Kd.R_form HH.out.rd (by omega)
   have hA : Ad = some ⟨g0, 0, none⟩ := by injection he
   subst hA
   clear he
   obtain ⟨ad, cc, e1, hcl, -, hcc⟩ := Kd.C_get (Kd.R_reads' HH.out.rd).2.2 z61 (k : Int) (by omega) (by rw [hxl]; exact hltz)
   injection e1 with e1
   subst e1
   have HCC := Aside0.mk hcc
   have HCL := Aside0.mk hcl
   clear hcc hcl
   go_wp2_with (first
    | ((with_reducible refine gate_store (t := 61) (p := 70) (v := .tmp 69) rfl ?_); refine Kd.R_store k61 (w0 := w) w.heap.size rfl rfl 61 (.tmp 70) (.tmp 69) rfl 61 (k : Int) 0 xs (⟨⟨#[49]⟩, false, false, ⟨⟨#[]⟩, ⟨#[]⟩, 0, 0⟩, ⟨⟨#[]⟩, ⟨#[]⟩, 0, 0⟩⟩ : S61) _ [.string ⟨#[49]⟩, .bool false, .bool false, .string ⟨#[]⟩, .string ⟨#[]⟩, .int .i64 0, .int .i64 0, .string ⟨#[]⟩, .string ⟨#[]⟩, .int .i64 0, .int .i64 0] cc (fun _ => True) (fun _ => False) rfl (by rw [Int.toNat_natCast]; rfl) rfl rfl (by kernel_rfl) (by simp [Value.oneCell']) HH.out.rd (by omega) hltz HCL.out (fun j u hu => by have := HCC.out j u hu; rwa [add_plain] at this) (Nat.le_refl 11) (by rw [List.take_zero, List.nil_append, List.drop_eq_nil_of_le (by rw [HCL.out]; exact Nat.le_refl 11), List.append_nil]; exact k61_mkM _ _ _ (⟨⟨#[49]⟩, false, false, ⟨⟨#[]⟩, ⟨#[]⟩, 0, 0⟩, ⟨⟨#[]⟩, ⟨#[]⟩, 0, 0⟩⟩ : S61)) (fun _ h => h.elim) HH.out.bw ?_; intro w2 ho hb hgr; have HH2 := Aside0.mk (HH.out.d_step hgr ho (.inl rfl)); clear ho hb hgr)
    | fail)
   go_roundg (D.length - (k + 1))
   case measure => omega
   case rel => exact ⟨k + 1, _, by omega, by omega, by go_num, by rw [List.length_set]; exact hxl, HH2⟩
  ·have hltz : ¬ (k : Int) < (D.length : Int) := by omega
   have hkl : k = D.length := by omega
   subst hkl
   have Xd := Aside0.mk hxl
   clear hxl
   obtain ⟨xd, hxs⟩ : ∃ xd, xd = xs := ⟨_, rfl⟩
   rw [← hxs] at Xd HH
   clear hxs hlt hk hg hltz
   go_wp2
   go_loopg [17] IV.length (fun gg s17 wr => ∃ (k : Nat) (xs : List S61), k ≤ IV.length ∧ IV.length - k ≤ gg ∧ s17 = .int .i64 k ∧ xs.length = IV.length ∧ Aside0 (Held6 w.heap.size w1.heap.size w4.heap.size w5.heap.size w6.heap.size w7.heap.size w8.heap.size w9.heap.size w10.heap.size w w10 (.slice Ad D.length cd) (.slice Ai IV.length ci) (.slice Al L.length cl) (.slice Ap P.length cp) xd xs L P wr))
   case atStart => exact ⟨0, _, by omega, by omega, by first | rfl | go_num, rfl, HH⟩
   case round =>
    clear HH
    obtain ⟨k, xs, hk, hg, rfl, hxl, HH⟩ := hrel
    by_cases hlt : k < IV.length
    ·have hltz : (k : Int) < (IV.length : Int) := by omega
     obtain ⟨g0, cap0, he, -⟩ := Kd.R_form HH.out.ri (by omega)
     have hA : Ai = some ⟨g0, 0, none⟩ := by injection he
     subst hA
     clear he
     obtain ⟨ad, cc, e1, hcl, -, hcc⟩ := Kd.C_get (Kd.R_reads' HH.out.ri).2.2 z61 (k : Int) (by omega) (by rw [hxl]; exact hltz)
     injection e1 with e1
     subst e1
     have HCC := Aside0.mk hcc
     have HCL := Aside0.mk hcl
     clear hcc hcl
     go_wp2_with (first
      | ((with_reducible refine gate_store (t := 61) (p := 80) (v := .tmp 79) rfl ?_); refine Kd.R_store k61 (w0 := w) w.heap.size rfl rfl 61 (.tmp 80) (.tmp 79) rfl 61 (k : Int) 0 xs (⟨⟨#[50]⟩, false, false, ⟨⟨#[]⟩, ⟨#[]⟩, 0, 0⟩, ⟨⟨#[]⟩, ⟨#[]⟩, 0, 0⟩⟩ : S61) _ [.string ⟨#[50]⟩, .bool false, .bool false, .string ⟨#[]⟩, .string ⟨#[]⟩, .int .i64 0, .int .i64 0, .string ⟨#[]⟩, .string ⟨#[]⟩, .int .i64 0, .int .i64 0] cc (fun _ => True) (fun _ => False) rfl (by rw [Int.toNat_natCast]; rfl) rfl rfl (by kernel_rfl) (by simp [Value.oneCell']) HH.out.ri (by omega) hltz HCL.out (fun j u hu => by have := HCC.out j u hu; rwa [add_plain] at this) (Nat.le_refl 11) (by rw [List.take_zero, List.nil_append, List.drop_eq_nil_of_le (by rw [HCL.out]; exact Nat.le_refl 11), List.append_nil]; exact k61_mkM _ _ _ (⟨⟨#[50]⟩, false, false, ⟨⟨#[]⟩, ⟨#[]⟩, 0, 0⟩, ⟨⟨#[]⟩, ⟨#[]⟩, 0, 0⟩⟩ : S61)) (fun _ h => h.elim) HH.out.bw ?_; intro w2 ho hb hgr; have HH2 := Aside0.mk (HH.out.i_step hgr ho (.inl rfl)); clear ho hb hgr)
      | fail)
     go_roundg (IV.length - (k + 1))
     case measure => omega
     case rel => exact ⟨k + 1, _, by omega, by omega, by go_num, by rw [List.length_set]; exact hxl, HH2⟩
    ·have hltz : ¬ (k : Int) < (IV.length : Int) := by omega
     have hkl : k = IV.length := by omega
     subst hkl
     have Xi := Aside0.mk hxl
     clear hxl
     obtain ⟨xi, hxs⟩ : ∃ xi, xi = xs := ⟨_, rfl⟩
     rw [← hxs] at Xi HH
     clear hxs hlt hk hg hltz
     go_wp2
     go_loopg [18] L.length (fun gg s18 wr => ∃ (k : Nat) (xs : List S55), k ≤ L.length ∧ L.length - k ≤ gg ∧ s18 = .int .i64 k ∧ xs.length = L.length ∧ Aside0 (Held6 w.heap.size w1.heap.size w4.heap.size w5.heap.size w6.heap.size w7.heap.size w8.heap.size w9.heap.size w10.heap.size w w10 (.slice Ad D.length cd) (.slice Ai IV.length ci) (.slice Al L.length cl) (.slice Ap P.length cp) xd xi xs P wr))
     case atStart => exact ⟨0, _, by omega, by omega, by first | rfl | go_num, rfl, HH⟩
     case round =>
      clear HH
      obtain ⟨k, xs, hk, hg, rfl, hxl, HH⟩ := hrel
      by_cases hlt : k < L.length
      ·have hltz : (k : Int) < (L.length : Int) := by omega
       obtain ⟨g0, cap0, he, -⟩ := Kd.R_form HH.out.rl (by omega)
       have hA : Al = some ⟨g0, 0, none⟩ := by injection he
       subst hA
       clear he
       obtain ⟨ad, cc, e1, hcl, -, hcc⟩ := Kd.C_get (Kd.R_reads' HH.out.rl).2.2 z55 (k : Int) (by omega) (by rw [hxl]; exact hltz)
       injection e1 with e1
       subst e1
       have HCC := Aside0.mk hcc
       have HCL := Aside0.mk hcl
       clear hcc hcl
       go_wp2_with (first
        | ((with_reducible refine gate_store (t := 55) (p := 90) (v := .tmp 89) rfl ?_); refine Kd.R_store k55 (w0 := w) w.heap.size rfl rfl 55 (.tmp 90) (.tmp 89) rfl 55 (k : Int) 0 xs (⟨⟨#[51]⟩, ⟨#[]⟩, 0, 0⟩ : S55) _ [.string ⟨#[51]⟩, .string ⟨#[]⟩, .int .i64 0, .int .i64 0] cc (fun _ => True) (fun _ => False) rfl (by rw [Int.toNat_natCast]; rfl) rfl rfl (by kernel_rfl) (by simp [Value.oneCell']) HH.out.rl (by omega) hltz HCL.out (fun j u hu => by have := HCC.out j u hu; rwa [add_plain] at this) (Nat.le_refl 4) (by rw [List.take_zero, List.nil_append, List.drop_eq_nil_of_le (by rw [HCL.out]; exact Nat.le_refl 4), List.append_nil]; exact k55_mkM _ _ _ (⟨⟨#[51]⟩, ⟨#[]⟩, 0, 0⟩ : S55)) (fun _ h => h.elim) HH.out.bw ?_; intro w2 ho hb hgr; have HH2 := Aside0.mk (HH.out.l_step hgr ho (.inl rfl)); clear ho hb hgr)
        | fail)
       go_roundg (L.length - (k + 1))
       case measure => omega
       case rel => exact ⟨k + 1, _, by omega, by omega, by go_num, by rw [List.length_set]; exact hxl, HH2⟩
      ·have hltz : ¬ (k : Int) < (L.length : Int) := by omega
       have hkl : k = L.length := by omega
       subst hkl
       have Xl := Aside0.mk hxl
       clear hxl
       obtain ⟨xl, hxs⟩ : ∃ xl, xl = xs := ⟨_, rfl⟩
       rw [← hxs] at Xl HH
       clear hxs hlt hk hg hltz
       go_wp2
       go_loopg [19] P.length (fun gg s19 wr => ∃ (k : Nat) (xs : List ByteArray), k ≤ P.length ∧ P.length - k ≤ gg ∧ s19 = .int .i64 k ∧ xs.length = P.length ∧ Aside0 (Held6 w.heap.size w1.heap.size w4.heap.size w5.heap.size w6.heap.size w7.heap.size w8.heap.size w9.heap.size w10.heap.size w w10 (.slice Ad D.length cd) (.slice Ai IV.length ci) (.slice Al L.length cl) (.slice Ap P.length cp) xd xi xl xs wr))
       case atStart => exact ⟨0, _, by omega, by omega, by first | rfl | go_num, rfl, HH⟩
       case round =>
        clear HH
        obtain ⟨k, xs, hk, hg, rfl, hxl, HH⟩ := hrel
        by_cases hlt : k < P.length
        ·have hltz : (k : Int) < (P.length : Int) := by omega
         obtain ⟨g0, cap0, he, -⟩ := Kd.R_form HH.out.rp (by omega)
         have hA : Ap = some ⟨g0, 0, none⟩ := by injection he
         subst hA
         clear he
         obtain ⟨ad, cc, e1, hcl, -, hcc⟩ := Kd.C_get (Kd.R_reads' HH.out.rp).2.2 ByteArray.empty (k : Int) (by omega) (by rw [hxl]; exact hltz)
         injection e1 with e1
         subst e1
         have HCC := Aside0.mk hcc
         have HCL := Aside0.mk hcl
         clear hcc hcl
         go_wp2_with (first
          | ((with_reducible refine gate_store (t := 9) (p := 99) (v := .const (.string ⟨#[52]⟩)) rfl ?_); refine Kd.R_store Kd.string (w0 := w) w.heap.size rfl rfl 9 (.tmp 99) (.const (.string ⟨#[52]⟩)) rfl 9 (k : Int) 0 xs (⟨#[52]⟩ : ByteArray) _ [.string ⟨#[52]⟩] cc (fun _ => True) (fun _ => False) rfl (by rw [Int.toNat_natCast]; show k = k * 1 + 0; omega) rfl rfl (by kernel_rfl) (by simp [Value.oneCell']) HH.out.rp (by omega) hltz HCL.out (fun j u hu => by have := HCC.out j u hu; rwa [add_plain] at this) (Nat.le_refl 1) (by rw [List.take_zero, List.nil_append, List.drop_eq_nil_of_le (by rw [HCL.out]; exact Nat.le_refl 1), List.append_nil]; exact rfl) (fun _ h => h.elim) HH.out.bw ?_; intro w2 ho hb hgr; have HH2 := Aside0.mk (HH.out.p_step hgr ho (.inl rfl)); clear ho hb hgr)
          | fail)
         go_roundg (P.length - (k + 1))
         case measure => omega
         case rel => exact ⟨k + 1, _, by omega, by omega, by go_num, by rw [List.length_set]; exact hxl, HH2⟩
        ·have hltz : ¬ (k : Int) < (P.length : Int) := by omega
         have hkl : k = P.length := by omega
         subst hkl
         have Xp := Aside0.mk hxl
         clear hxl
         obtain ⟨xp, hxs⟩ : ∃ xp, xp = xs := ⟨_, rfl⟩
         rw [← hxs] at Xp HH
         clear hxs hlt hk hg hltz
         go_wp2
         go_loopg [5, 7, 10, 14, 20] 30 (fun gg s5 s7 s10 s14 s20 wr => ∃ (k : Nat) (yd yi : List S61) (yl : List S55) (yp : List ByteArray), k ≤ 30 ∧ 30 - k ≤ gg ∧ s20 = .int .i64 k ∧ yd.length = D.length + k ∧ yi.length = IV.length + k ∧ yl.length = L.length + k ∧ yp.length = P.length + k ∧ Aside0 (Held6 w.heap.size w1.heap.size w4.heap.size w5.heap.size w6.heap.size w7.heap.size w8.heap.size w9.heap.size w10.heap.size w w10 s5 s7 s10 s14 yd yi yl yp wr))
         case atStart => exact ⟨0, xd, xi, xl, xp, by omega, by omega, by first | rfl | go_num, Xd.out, Xi.out, Xl.out, Xp.out, HH⟩
         case round =>
          clear HH Xd Xi Xl Xp
          obtain ⟨k, yd, yi, yl, yp, hk, hg, rfl, hyd, hyi, hyl, hyp, HH⟩ := hrel
          by_cases hlt : k < 30
          ·have hltz : (k : Int) < 30 := by omega
           go_wp2_with (first
            | ((with_reducible refine gate_builtin (b := .append) (xs := #[.tmp 104, .tmp 106]) rfl ?_); at_builtin; refine Kd.R_append k61 (w0 := w) w.heap.size rfl (.tmp 104) (.tmp 106) 43 61 (.agg #[(.string ⟨#[]⟩), (.bool false), (.bool false), (.string ⟨#[]⟩), (.string ⟨#[]⟩), (.int .i64 0), (.int .i64 0), (.string ⟨#[]⟩), (.string ⟨#[]⟩), (.int .i64 0), (.int .i64 0)]) 120 rfl Tryd.underlying43 info61 rfl (by decide) (by omega) u5 yd (⟨⟨#[53]⟩, false, false, ⟨⟨#[]⟩, ⟨#[]⟩, 0, 0⟩, ⟨⟨#[]⟩, ⟨#[]⟩, 0, 0⟩⟩ : S61) [.string ⟨#[53]⟩, .bool false, .bool false, .string ⟨#[]⟩, .string ⟨#[]⟩, .int .i64 0, .int .i64 0, .string ⟨#[]⟩, .string ⟨#[]⟩, .int .i64 0, .int .i64 0] (fun _ => True) (fun _ => False) rfl (by first | (go_simp; done) | (go_simp; rfl)) (k61_mkM _ _ _ (⟨⟨#[53]⟩, false, false, ⟨⟨#[]⟩, ⟨#[]⟩, 0, 0⟩, ⟨⟨#[]⟩, ⟨#[]⟩, 0, 0⟩⟩ : S61)) (fun _ h => h.elim) (fun _ _ => trivial) HH.out.rd HH.out.bw HH.out.base (by omega) ?_; intro v1 wb1 ho hb hgr hat; have HK1 := Aside0.mk (HH.out.d_step hgr ho hat); clear ho hb hgr hat)
            | ((with_reducible refine gate_builtin (b := .append) (xs := #[.tmp 108, .tmp 110]) rfl ?_); at_builtin; refine Kd.R_append k61 (w0 := w) w.heap.size rfl (.tmp 108) (.tmp 110) 43 61 (.agg #[(.string ⟨#[]⟩), (.bool false), (.bool false), (.string ⟨#[]⟩), (.string ⟨#[]⟩), (.int .i64 0), (.int .i64 0), (.string ⟨#[]⟩), (.string ⟨#[]⟩), (.int .i64 0), (.int .i64 0)]) 120 rfl Tryd.underlying43 info61 rfl (by decide) (by omega) u7 yi (⟨⟨#[54]⟩, false, false, ⟨⟨#[]⟩, ⟨#[]⟩, 0, 0⟩, ⟨⟨#[]⟩, ⟨#[]⟩, 0, 0⟩⟩ : S61) [.string ⟨#[54]⟩, .bool false, .bool false, .string ⟨#[]⟩, .string ⟨#[]⟩, .int .i64 0, .int .i64 0, .string ⟨#[]⟩, .string ⟨#[]⟩, .int .i64 0, .int .i64 0] (fun _ => True) (fun _ => False) rfl (by first | (go_simp; done) | (go_simp; rfl)) (k61_mkM _ _ _ (⟨⟨#[54]⟩, false, false, ⟨⟨#[]⟩, ⟨#[]⟩, 0, 0⟩, ⟨⟨#[]⟩, ⟨#[]⟩, 0, 0⟩⟩ : S61)) (fun _ h => h.elim) (fun _ _ => trivial) HK1.out.ri HK1.out.bw HK1.out.base (by omega) ?_; intro v2 wb2 ho hb hgr hat; have HK2 := Aside0.mk (HK1.out.i_step hgr ho hat); clear ho hb hgr hat)
            | ((with_reducible refine gate_builtin (b := .append) (xs := #[.tmp 112, .tmp 114]) rfl ?_); at_builtin; refine Kd.R_append k55 (w0 := w) w.heap.size rfl (.tmp 112) (.tmp 114) 40 55 (.agg #[(.string ⟨#[]⟩), (.string ⟨#[]⟩), (.int .i64 0), (.int .i64 0)]) 48 rfl Tryd.underlying40 info55 rfl (by decide) (by omega) u10 yl (⟨⟨#[55]⟩, ⟨#[]⟩, 0, 0⟩ : S55) [.string ⟨#[55]⟩, .string ⟨#[]⟩, .int .i64 0, .int .i64 0] (fun _ => True) (fun _ => False) rfl (by first | (go_simp; done) | (go_simp; rfl)) (k55_mkM _ _ _ (⟨⟨#[55]⟩, ⟨#[]⟩, 0, 0⟩ : S55)) (fun _ h => h.elim) (fun _ _ => trivial) HK2.out.rl HK2.out.bw HK2.out.base (by omega) ?_; intro v3 wb3 ho hb hgr hat; have HK3 := Aside0.mk (HK2.out.l_step hgr ho hat); clear ho hb hgr hat)
            | ((with_reducible refine gate_builtin (b := .append) (xs := #[.tmp 116, .tmp 117]) rfl ?_); at_builtin; refine Kd.R_append Kd.string (w0 := w) w.heap.size rfl (.tmp 116) (.tmp 117) 22 9 (.string ⟨#[]⟩) 16 rfl Tryd.underlying22 info9 rfl (by decide) (by omega) u14 yp (⟨#[56]⟩ : ByteArray) [.string ⟨#[56]⟩] (fun _ => True) (fun _ => False) rfl (by first | (go_simp; done) | (go_simp; rfl)) (rfl) (fun _ h => h.elim) (fun _ _ => trivial) HK3.out.rp HK3.out.bw HK3.out.base (by omega) ?_; intro v4 wb4 ho hb hgr hat; have HK4 := Aside0.mk (HK3.out.p_step hgr ho hat); clear ho hb hgr hat)
            | fail)
           go_roundg (30 - (k + 1))
           case measure => omega
           case rel => exact ⟨k + 1, _, _, _, _, by omega, by omega, by go_num, by rw [List.length_append, hyd]; rfl, by rw [List.length_append, hyi]; rfl, by rw [List.length_append, hyl]; rfl, by rw [List.length_append, hyp]; rfl, HK4⟩
          ·have hltz : ¬ (k : Int) < 30 := by omega
           have hk30 : k = 30 := by omega
           subst hk30
           obtain ⟨Ap2, cp2, rfl, -, -⟩ := Kd.R_reads HH.out.rp
           have hlen : ((yp.length : Int) == (P.length : Int) + 30) = true := by rw [beq_iff_eq]; omega
           have HLEN := Aside0.mk hlen
           have Re := Aside0.mk (HH.out.kept Re.out (by have := ZZ.out; omega) (by have := ZZ.out; omega) (by have := ZZ.out; omega) (by have := ZZ.out; omega) (by have := ZZ.out; omega))
           have Rj := Aside0.mk (HH.out.kept Rj.out (by have := ZZ.out; omega) (by have := ZZ.out; omega) (by have := ZZ.out; omega) (by have := ZZ.out; omega) (by have := ZZ.out; omega))
           have Rm := Aside0.mk (HH.out.kept Rm.out (by have := ZZ.out; omega) (by have := ZZ.out; omega) (by have := ZZ.out; omega) (by have := ZZ.out; omega) (by have := ZZ.out; omega))
           have Rq := Aside0.mk (HH.out.kept Rq.out (by have := ZZ.out; omega) (by have := ZZ.out; omega) (by have := ZZ.out; omega) (by have := ZZ.out; omega) (by have := ZZ.out; omega))
           have HRa := Aside0.mk (Kd.C_below HA0.out HH.out.bw)
           have HRb := Aside0.mk (Kd.C_below HB0.out HH.out.bw)
           have BW := Aside0.mk HH.out.bw
           clear HH ZZ hlt hltz hk hg hyd hyi hyl hyp hlen
           go_wp2_with fail
           refine (delta_Apply.calls A0 c0 a Ae ce D L er _ HRa.out HCa.out (Kd.R_reads' Re.out).2.2 Le.out HP.out).mono ?_
           rintro e11 w11 ⟨vg, rfl, ho, hb⟩
           obtain ⟨Ag, cg, rfl, lx, -⟩ := Kd.R_reads ho
           have Lg := Aside0.mk lx
           clear lx
           have HRa := Aside0.mk (Kd.C_below HRa.out hb)
           have HRb := Aside0.mk (Kd.C_below HRb.out hb)
           have Re := Aside0.mk (Kd.R_below Re.out hb)
           have Rj := Aside0.mk (Kd.R_below Rj.out hb)
           have Rm := Aside0.mk (Kd.R_below Rm.out hb)
           have Rq := Aside0.mk (Kd.R_below Rq.out hb)
           have BW := Aside0.mk (below_then BW.out BW.out.size hb)
           have Rg := Aside0.mk (R_between ho)
           have Z11 : Aside0 (wr.heap.size ≤ w11.heap.size) := ⟨hb.size⟩
           clear ho hb
           go_wp2_with fail
           refine (delta_Diff.calls kd A0 c0 a A1 c1 b D _ HRa.out HCa.out HRb.out HCb.out HD.out).mono ?_
           rintro e12 w12 ⟨vf, rfl, ho, hb⟩
           obtain ⟨Af, cf, rfl, lx, -⟩ := Kd.R_reads ho
           have Lf := Aside0.mk lx
           clear lx
           have HRa := Aside0.mk (Kd.C_below HRa.out hb)
           have HRb := Aside0.mk (Kd.C_below HRb.out hb)
           have Re := Aside0.mk (Kd.R_below Re.out hb)
           have Rj := Aside0.mk (Kd.R_below Rj.out hb)
           have Rm := Aside0.mk (Kd.R_below Rm.out hb)
           have Rq := Aside0.mk (Kd.R_below Rq.out hb)
           have Rg := Aside0.mk (Kd.R_below Rg.out hb)
           have BW := Aside0.mk (below_then BW.out BW.out.size hb)
           have Rf := Aside0.mk (R_between ho)
           have Z12 : Aside0 (w11.heap.size ≤ w12.heap.size) := ⟨hb.size⟩
           clear ho hb
           go_wp2_with fail
           refine (copselaw06_changes.calls kc Ae ce D Af cf D true _ (Kd.R_reads' Re.out).2.2 Le.out (Kd.R_reads' Rf.out).2.2 Lf.out HC.out).mono ?_
           rintro e13 x13 ⟨rfl, ⟨⟨q13, rfl⟩⟩⟩
           have hb : Below w12.heap.size w12 (w12.drewN q13) := pw_below_drewN (Below.refl _ _) q13
           generalize w12.drewN q13 = w13 at hb ⊢
           have HRa := Aside0.mk (Kd.C_below HRa.out hb)
           have HRb := Aside0.mk (Kd.C_below HRb.out hb)
           have Re := Aside0.mk (Kd.R_below Re.out hb)
           have Rj := Aside0.mk (Kd.R_below Rj.out hb)
           have Rm := Aside0.mk (Kd.R_below Rm.out hb)
           have Rq := Aside0.mk (Kd.R_below Rq.out hb)
           have Rg := Aside0.mk (Kd.R_below Rg.out hb)
           have Rf := Aside0.mk (Kd.R_below Rf.out hb)
           have BW := Aside0.mk (below_then BW.out BW.out.size hb)
           have Z13 : Aside0 (w12.heap.size ≤ w13.heap.size) := ⟨hb.size⟩
           clear hb
           go_wp2_with fail
           refine (copselaw06_changes.calls kc Aj cj D Af cf D true _ (Kd.R_reads' Rj.out).2.2 Lj.out (Kd.R_reads' Rf.out).2.2 Lf.out HC.out).mono ?_
           rintro e14 x14 ⟨rfl, ⟨⟨q14, rfl⟩⟩⟩
           have hb : Below w13.heap.size w13 (w13.drewN q14) := pw_below_drewN (Below.refl _ _) q14
           generalize w13.drewN q14 = w14 at hb ⊢
           have HRa := Aside0.mk (Kd.C_below HRa.out hb)
           have HRb := Aside0.mk (Kd.C_below HRb.out hb)
           have Re := Aside0.mk (Kd.R_below Re.out hb)
           have Rj := Aside0.mk (Kd.R_below Rj.out hb)
           have Rm := Aside0.mk (Kd.R_below Rm.out hb)
           have Rq := Aside0.mk (Kd.R_below Rq.out hb)
           have Rg := Aside0.mk (Kd.R_below Rg.out hb)
           have Rf := Aside0.mk (Kd.R_below Rf.out hb)
           have BW := Aside0.mk (below_then BW.out BW.out.size hb)
           have Z14 : Aside0 (w13.heap.size ≤ w14.heap.size) := ⟨hb.size⟩
           clear hb
           go_wp2_with fail
           refine (copselaw06_files.calls kl Am cm L Ag cg L true _ (Kd.R_reads' Rm.out).2.2 Lm.out (Kd.R_reads' Rg.out).2.2 Lg.out HL.out).mono ?_
           rintro e15 x15 ⟨rfl, ⟨⟨q15, rfl⟩⟩⟩
           have hb : Below w14.heap.size w14 (w14.drewN q15) := pw_below_drewN (Below.refl _ _) q15
           generalize w14.drewN q15 = w15 at hb ⊢
           have HRa := Aside0.mk (Kd.C_below HRa.out hb)
           have HRb := Aside0.mk (Kd.C_below HRb.out hb)
           have Re := Aside0.mk (Kd.R_below Re.out hb)
           have Rj := Aside0.mk (Kd.R_below Rj.out hb)
           have Rm := Aside0.mk (Kd.R_below Rm.out hb)
           have Rq := Aside0.mk (Kd.R_below Rq.out hb)
           have Rg := Aside0.mk (Kd.R_below Rg.out hb)
           have Rf := Aside0.mk (Kd.R_below Rf.out hb)
           have BW := Aside0.mk (below_then BW.out BW.out.size hb)
           have Z15 : Aside0 (w14.heap.size ≤ w15.heap.size) := ⟨hb.size⟩
           clear hb
           go_wp2_with fail
           refine (delta_Paths.calls kp Af cf D P _ (Kd.R_reads' Rf.out).2.2 Lf.out HPA.out).mono ?_
           rintro e16 w16 ⟨vr, rfl, ho, hb⟩
           obtain ⟨Ar, cr, rfl, lx, -⟩ := Kd.R_reads ho
           have Lr := Aside0.mk lx
           clear lx
           have HRa := Aside0.mk (Kd.C_below HRa.out hb)
           have HRb := Aside0.mk (Kd.C_below HRb.out hb)
           have Re := Aside0.mk (Kd.R_below Re.out hb)
           have Rj := Aside0.mk (Kd.R_below Rj.out hb)
           have Rm := Aside0.mk (Kd.R_below Rm.out hb)
           have Rq := Aside0.mk (Kd.R_below Rq.out hb)
           have Rg := Aside0.mk (Kd.R_below Rg.out hb)
           have Rf := Aside0.mk (Kd.R_below Rf.out hb)
           have BW := Aside0.mk (below_then BW.out BW.out.size hb)
           have Rr := Aside0.mk (R_between ho)
           have Z16 : Aside0 (w15.heap.size ≤ w16.heap.size) := ⟨hb.size⟩
           clear ho hb
           go_wp2_with fail
           refine (copselaw06_texts.calls kt Aq cq P Ar cr P true _ (Kd.R_reads' Rq.out).2.2 Lq.out (Kd.R_reads' Rr.out).2.2 Lr.out HT.out).mono ?_
           rintro e17 x17 ⟨rfl, ⟨⟨q17, rfl⟩⟩⟩
           have hb : Below w16.heap.size w16 (w16.drewN q17) := pw_below_drewN (Below.refl _ _) q17
           generalize w16.drewN q17 = w17 at hb ⊢
           have HRa := Aside0.mk (Kd.C_below HRa.out hb)
           have HRb := Aside0.mk (Kd.C_below HRb.out hb)
           have Re := Aside0.mk (Kd.R_below Re.out hb)
           have Rj := Aside0.mk (Kd.R_below Rj.out hb)
           have Rm := Aside0.mk (Kd.R_below Rm.out hb)
           have Rq := Aside0.mk (Kd.R_below Rq.out hb)
           have Rg := Aside0.mk (Kd.R_below Rg.out hb)
           have Rf := Aside0.mk (Kd.R_below Rf.out hb)
           have Rr := Aside0.mk (Kd.R_below Rr.out hb)
           have BW := Aside0.mk (below_then BW.out BW.out.size hb)
           have Z17 : Aside0 (w16.heap.size ≤ w17.heap.size) := ⟨hb.size⟩
           clear hb
           have hlen := HLEN.out
           go_wp2
           go_ret
           exact ⟨rfl, BW.out⟩
end Go.Proofs.YtehfogjibhnabaaDoor.PAll
