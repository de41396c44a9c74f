/- Layer 6: DeltaBack: the law's walk (under way). -/
import Derived.Test.YtehfogjibhnabaaDoorDbPAllx0
import Derived.Test.YtehfogjibhnabaaDoorDbDelB
import Derived.Test.YtehfogjibhnabaaDoorDbPAlly4
import Derived.Test.YtehfogjibhnabaaDoorDbDelD
import Derived.Test.YtehfogjibhnabaaDoorDbPAlly12
import Derived.Test.YtehfogjibhnabaaDoorDbPure5
import Derived.Test.YtehfogjibhnabaaDoorDbHandA
import Derived.Test.YtehfogjibhnabaaDoorDbPAlly3
import Derived.Test.YtehfogjibhnabaaDoorDbPAlly7
import Derived.Test.YtehfogjibhnabaaDoorDbPAlly9
import Derived.WalkKit
import Derived.BigQuiet
import Derived.Outline
namespace Go.Proofs.YtehfogjibhnabaaDoor.PAll
open Go.RowKit Go.Proofs.YtehfogjibhnabaaDoorW.PrintWords Go.Proofs.YtehfogjibhnabaaDoorW.PrintLast Go.Proofs.YtehfogjibhnabaaDoorW.PrintMore
open Go.Proofs.YtehfogjibhnabaaDoor.Sp
theorem quiet_one {P : Program} {f : FuncId} {args : Array Value} {w : World} {n : Nat} {v : Value} (h : Calls P f args (w.drewN n) fun e w' => e = .returned v ∧ Drawn0 (w.drewN n) w') :
  Calls P f args (w.drewN n) fun e w'' => e = .returned v ∧ ∃ q, w'' = w.drewN q :=
 h.mono fun _ _ ⟨he, ⟨q, hq⟩⟩ => ⟨he, n + q, by rw [hq, World.drewN_drewN]⟩
theorem back_len {a b : List S55} {d : List S61} {q : Bool} (ha : snapV a = 0) (hb : snapV b = 0) (hd : d = diffD a b) (hq : q = true ↔ a = b) : ((d.length : Int) == 0) = q := by
 subst hd
 by_cases e : a = b
 ·rw [hq.2 e, (diff_nil ha hb).2 e]; rfl
 ·have h : q = false := by cases q with
   | false => rfl
   | true => exact absurd (hq.1 rfl) e
  rw [h, beq_eq_false_iff_ne]
  intro h0
  exact e ((diff_nil ha hb).1 (List.eq_nil_of_length_eq_zero (by omega)))
set_option maxHeartbeats 16000000 in
set_option maxRecDepth 100000 in
theorem DeltaBack_calls (A0 : Option Addr) (c0 : Nat) (a : List S55) (A1 : Option Addr) (c1 : Nat) (b : List S55) (A2 : Option Addr) (c2 : Nat) (c : List S55) (w : World)
  (hr0 : Kd.C k55 w A0 a.length a) (hc0 : a.length ≤ c0) (hr1 : Kd.C k55 w A1 b.length b) (hc1 : b.length ≤ c1) (hr2 : Kd.C k55 w A2 c.length c) (hc2 : c.length ≤ c2)
  (la : a.length ≤ 1048576) (lb : b.length ≤ 1048576) (lc : c.length ≤ 1048576) (fa : FitsF a) (fb : FitsF b) (fc : FitsF c) :
  Calls Tryd.prog 7 #[.slice A0 a.length c0, .slice A1 b.length c1, .slice A2 c.length c2] w fun e w' => e = .returned (.bool true) ∧ Below w.heap.size w w' := by
 obtain ⟨kv, hv⟩ := Ev.rounds alive06
 obtain ⟨k1, h1⟩ := Ev.rounds (snap_ev a (by omega) fa)
 obtain ⟨k2, h2⟩ := Ev.rounds (snap_ev b (by omega) fb)
 obtain ⟨k3, h3⟩ := Ev.rounds (snap_ev c (by omega) fc)
 obtain ⟨va, hva⟩ : ∃ v, v = snapV a := ⟨_, rfl⟩
 rw [← hva] at h1
 have Va := Aside0.mk hva
 clear hva
 obtain ⟨vb, hvb⟩ : ∃ v, v = snapV b := ⟨_, rfl⟩
 rw [← hvb] at h2
 have Vb := Aside0.mk hvb
 clear hvb
 obtain ⟨vc, hvc⟩ : ∃ v, v = snapV c := ⟨_, rfl⟩
 rw [← hvc] at h3
 have Vc := Aside0.mk hvc
 clear hvc
 have HV := Aside0.mk hv
 have HS1 := Aside0.mk h1
 have HS2 := Aside0.mk h2
 have HS3 := Aside0.mk h3
 have HRa := Aside0.mk hr0
 have HRb := Aside0.mk hr1
 have HRc := Aside0.mk hr2
 have HCa := Aside0.mk hc0
 have HCb := Aside0.mk hc1
 have HCc := Aside0.mk hc2
 have BW := Aside0.mk (Below.refl w.heap.size w)
 clear hv h1 h2 h3 hr0 hr1 hr2 hc0 hc1 hc2
 go_enter Tryd.func7, Tryd.ntmps7
 go_wp2_with fail
 refine (copselaw06_alive.calls kv true _ HV.out).mono ?_
 rintro e1 w1 ⟨rfl, hb⟩
 have HRa := Aside0.mk (Kd.C_below HRa.out hb)
 have HRb := Aside0.mk (Kd.C_below HRb.out hb)
 have HRc := Aside0.mk (Kd.C_below HRc.out hb)
 have BW := Aside0.mk (below_then BW.out BW.out.size hb)
 clear hb
 go_wp2_with fail
 refine (snap_Valid.calls k1 A0 c0 a va _ HRa.out HCa.out HS1.out).mono ?_
 rintro e2 w2 ⟨rfl, hb⟩
 have HRa := Aside0.mk (Kd.C_below HRa.out hb)
 have HRb := Aside0.mk (Kd.C_below HRb.out hb)
 have HRc := Aside0.mk (Kd.C_below HRc.out hb)
 have BW := Aside0.mk (below_then BW.out BW.out.size hb)
 clear hb
 go_wp2_with fail
 refine (copselaw06_num.calls va va _ rfl).mono ?_
 rintro e3 x3 ⟨rfl, ⟨⟨q3, rfl⟩⟩⟩
 have HRa := Aside0.mk (Kd.C_drewN HRa.out q3)
 have HRb := Aside0.mk (Kd.C_drewN HRb.out q3)
 have HRc := Aside0.mk (Kd.C_drewN HRc.out q3)
 have BW := Aside0.mk (pw_below_drewN BW.out q3)
 generalize w2.drewN q3 = w3 at HRa HRb HRc BW ⊢
 by_cases sa : va = 0
 rotate_left
 ·have hx2 : (va == 0) = false := by simpa using sa
  go_wp2
  go_ret
  exact ⟨rfl, BW.out⟩
 subst sa
 have Sa : Aside0 (snapV a = 0) := ⟨Va.out.symm⟩
 go_wp2_with fail
 refine (snap_Valid.calls k2 A1 c1 b vb _ HRb.out HCb.out HS2.out).mono ?_
 rintro e4 w4 ⟨rfl, hb⟩
 have HRa := Aside0.mk (Kd.C_below HRa.out hb)
 have HRb := Aside0.mk (Kd.C_below HRb.out hb)
 have HRc := Aside0.mk (Kd.C_below HRc.out hb)
 have BW := Aside0.mk (below_then BW.out BW.out.size hb)
 clear hb
 go_wp2_with fail
 refine (copselaw06_num.calls vb vb _ rfl).mono ?_
 rintro e5 x5 ⟨rfl, ⟨⟨q5, rfl⟩⟩⟩
 have HRa := Aside0.mk (Kd.C_drewN HRa.out q5)
 have HRb := Aside0.mk (Kd.C_drewN HRb.out q5)
 have HRc := Aside0.mk (Kd.C_drewN HRc.out q5)
 have BW := Aside0.mk (pw_below_drewN BW.out q5)
 generalize w4.drewN q5 = w5 at HRa HRb HRc BW ⊢
 by_cases sb : vb = 0
 rotate_left
 ·have hx2 : (vb == 0) = false := by simpa using sb
  go_wp2
  go_ret
  exact ⟨rfl, BW.out⟩
 subst sb
 have Sb : Aside0 (snapV b = 0) := ⟨Vb.out.symm⟩
 go_wp2_with fail
 refine (snap_Valid.calls k3 A2 c2 c vc _ HRc.out HCc.out HS3.out).mono ?_
 rintro e6 w6 ⟨rfl, hb⟩
 have HRa := Aside0.mk (Kd.C_below HRa.out hb)
 have HRb := Aside0.mk (Kd.C_below HRb.out hb)
 have HRc := Aside0.mk (Kd.C_below HRc.out hb)
 have BW := Aside0.mk (below_then BW.out BW.out.size hb)
 clear hb
 go_wp2_with fail
 refine (copselaw06_num.calls vc vc _ rfl).mono ?_
 rintro e7 x7 ⟨rfl, ⟨⟨q7, rfl⟩⟩⟩
 have HRa := Aside0.mk (Kd.C_drewN HRa.out q7)
 have HRb := Aside0.mk (Kd.C_drewN HRb.out q7)
 have HRc := Aside0.mk (Kd.C_drewN HRc.out q7)
 have BW := Aside0.mk (pw_below_drewN BW.out q7)
 generalize w6.drewN q7 = w7 at HRa HRb HRc BW ⊢
 by_cases sc : vc = 0
 rotate_left
 ·have hx2 : (vc == 0) = false := by simpa using sc
  go_wp2
  go_ret
  exact ⟨rfl, BW.out⟩
 subst sc
 have Sc : Aside0 (snapV c = 0) := ⟨Vc.out.symm⟩
 go_wp2_with fail
 obtain ⟨d, hd⟩ : ∃ d, d = diffD a b := ⟨_, rfl⟩
 have Dd := Aside0.mk hd
 clear hd
 have Nd : Aside0 (d.length ≤ 1024) := ⟨by rw [Dd.out]; have h1 := diff_length a b; have h2 := ((snap_zero a).1 Sa.out).2.1; have h3 := ((snap_zero b).1 Sb.out).2.1; omega⟩
 have fd : FitsD d := by rw [Dd.out]; exact fits_diffD Sa.out Sb.out fa fb
 obtain ⟨e, he⟩ : ∃ e, e = diffD b c := ⟨_, rfl⟩
 have De := Aside0.mk he
 clear he
 have Ne : Aside0 (e.length ≤ 1024) := ⟨by rw [De.out]; have h1 := diff_length b c; have h2 := ((snap_zero b).1 Sb.out).2.1; have h3 := ((snap_zero c).1 Sc.out).2.1; omega⟩
 have fe : FitsD e := by rw [De.out]; exact fits_diffD Sb.out Sc.out fb fc
 obtain ⟨j, hj⟩ : ∃ j, j = diffD a c := ⟨_, rfl⟩
 have Dj := Aside0.mk hj
 clear hj
 have Nj : Aside0 (j.length ≤ 1024) := ⟨by rw [Dj.out]; have h1 := diff_length a c; have h2 := ((snap_zero a).1 Sa.out).2.1; have h3 := ((snap_zero c).1 Sc.out).2.1; omega⟩
 have fj : FitsD j := by rw [Dj.out]; exact fits_diffD Sa.out Sc.out fa fc
 obtain ⟨iv, hiv⟩ : ∃ iv, iv = diffD b a := ⟨_, rfl⟩
 have Div := Aside0.mk hiv
 clear hiv
 have Niv : Aside0 (iv.length ≤ 1024) := ⟨by rw [Div.out]; have h1 := diff_length b a; have h2 := ((snap_zero b).1 Sb.out).2.1; have h3 := ((snap_zero a).1 Sa.out).2.1; omega⟩
 have fiv : FitsD iv := by rw [Div.out]; exact fits_diffD Sb.out Sa.out fb fa
 obtain ⟨k4, h4⟩ := Ev.rounds (diff06 a b (by omega) fa (by omega) fb)
 rw [if_pos ⟨Sa.out, Sb.out⟩, ← Dd.out] at h4
 have H4 := Aside0.mk h4
 clear h4
 obtain ⟨k5, h5⟩ := Ev.rounds (diff06 b c (by omega) fb (by omega) fc)
 rw [if_pos ⟨Sb.out, Sc.out⟩, ← De.out] at h5
 have H5 := Aside0.mk h5
 clear h5
 obtain ⟨k6, h6⟩ := Ev.rounds (diff06 a c (by omega) fa (by omega) fc)
 rw [if_pos ⟨Sa.out, Sc.out⟩, ← Dj.out] at h6
 have H6 := Aside0.mk h6
 clear h6
 obtain ⟨k7, h7⟩ := Ev.rounds (join06 d e (by have := Nd.out; omega) (by have := Ne.out; omega) fd fe)
 rw [show joinV d e = (j, 0) by rw [Dd.out, De.out, Dj.out]; exact joinV_diff Sa.out Sb.out Sc.out] at h7
 have H7 := Aside0.mk h7
 clear h7
 have I1 : Aside0 (delta_Invert.f d = some iv) := ⟨by rw [invert_is (by have := Nd.out; omega), Dd.out, diff_turn Sa.out Sb.out, Div.out]⟩
 have I2 : Aside0 (delta_Invert.f iv = some d) := ⟨by rw [invert_is (by have := Niv.out; omega), Div.out, diff_turn Sb.out Sa.out, Dd.out]⟩
 have P1 : Aside0 (delta_Apply.f a d = some (b, 0)) := ⟨by rw [apply_is (by omega) (by have := Nd.out; omega) fa fd, Dd.out, applyV_diff Sa.out Sb.out]⟩
 have P2 : Aside0 (delta_Apply.f b iv = some (a, 0)) := ⟨by rw [apply_is (by omega) (by have := Niv.out; omega) fb fiv, Div.out, applyV_diff Sb.out Sa.out]⟩
 have P3 : Aside0 (delta_Apply.f a j = some (c, 0)) := ⟨by rw [apply_is (by omega) (by have := Nj.out; omega) fa fj, Dj.out, applyV_diff Sa.out Sc.out]⟩
 obtain ⟨k8, h8⟩ := Ev.rounds (valid06 d (by have := Nd.out; omega) fd)
 rw [show validD d = true by rw [Dd.out]; exact validD_iff.2 (diff_delta Sa.out Sb.out)] at h8
 have H8 := Aside0.mk h8
 clear h8
 obtain ⟨k9, h9⟩ := Ev.rounds (valid06 e (by have := Ne.out; omega) fe)
 rw [show validD e = true by rw [De.out]; exact validD_iff.2 (diff_delta Sb.out Sc.out)] at h9
 have H9 := Aside0.mk h9
 clear h9
 obtain ⟨k15, h15⟩ := Ev.rounds (valid06 j (by have := Nj.out; omega) fj)
 rw [show validD j = true by rw [Dj.out]; exact validD_iff.2 (diff_delta Sa.out Sc.out)] at h15
 have H15 := Aside0.mk h15
 clear h15
 obtain ⟨k10, h10⟩ := Ev.rounds (files06_same b (by omega))
 have H10 := Aside0.mk h10
 clear h10
 obtain ⟨k11, h11⟩ := Ev.rounds (files06_same a (by omega))
 have H11 := Aside0.mk h11
 clear h11
 obtain ⟨k12, h12⟩ := Ev.rounds (files06_same c (by omega))
 have H12 := Aside0.mk h12
 clear h12
 obtain ⟨k13, h13⟩ := Ev.rounds (changes06_same j (by have := Nj.out; omega))
 have H13 := Aside0.mk h13
 clear h13
 obtain ⟨k14, h14⟩ := Ev.rounds (changes06_same d (by have := Nd.out; omega))
 have H14 := Aside0.mk h14
 clear h14
 obtain ⟨qf, hqe, hq⟩ := files06 a b (by omega)
 obtain ⟨k16, h16⟩ := hqe.rounds
 have H16 := Aside0.mk h16
 have HQ : Aside0 (((d.length : Int) == 0) = qf) := ⟨back_len Sa.out Sb.out Dd.out hq⟩
 clear hqe hq h16
 obtain ⟨k17, h17⟩ := Ev.rounds (paths06 d (by have := Nd.out; omega))
 have H17 := Aside0.mk h17
 clear h17
 refine (delta_Diff.calls k4 A0 c0 a A1 c1 b d _ HRa.out HCa.out HRb.out HCb.out H4.out).mono ?_
 rintro e8 w8 ⟨v8, rfl, ho, hb⟩
 obtain ⟨Ad, cd, rfl, ld, rd⟩ := Kd.R_reads ho
 have Ld := Aside0.mk ld
 clear ho ld
 have HRa := Aside0.mk (Kd.C_below HRa.out hb)
 have HRb := Aside0.mk (Kd.C_below HRb.out hb)
 have HRc := Aside0.mk (Kd.C_below HRc.out hb)
 have BW := Aside0.mk (below_then BW.out BW.out.size hb)
 clear hb
 have HRd := Aside0.mk rd
 clear rd
 go_wp2_with fail
 refine (delta_Diff.calls k5 A1 c1 b A2 c2 c e _ HRb.out HCb.out HRc.out HCc.out H5.out).mono ?_
 rintro e9 w9 ⟨v9, rfl, ho, hb⟩
 obtain ⟨Ae, ce, rfl, le, re⟩ := Kd.R_reads ho
 have Le := Aside0.mk le
 clear ho le
 have HRa := Aside0.mk (Kd.C_below HRa.out hb)
 have HRb := Aside0.mk (Kd.C_below HRb.out hb)
 have HRc := Aside0.mk (Kd.C_below HRc.out hb)
 have HRd := Aside0.mk (Kd.C_below HRd.out hb)
 have BW := Aside0.mk (below_then BW.out BW.out.size hb)
 clear hb
 have HRe := Aside0.mk re
 clear re
 go_wp2_with fail
 refine (delta_Apply.calls A0 c0 a Ad cd d b 0 _ HRa.out HCa.out HRd.out Ld.out P1.out).mono ?_
 rintro e10 w10 ⟨v10, rfl, ho, hb⟩
 obtain ⟨Al, cl, rfl, ll, rl⟩ := Kd.R_reads ho
 have Ll := Aside0.mk ll
 clear ho ll
 have HRa := Aside0.mk (Kd.C_below HRa.out hb)
 have HRb := Aside0.mk (Kd.C_below HRb.out hb)
 have HRc := Aside0.mk (Kd.C_below HRc.out hb)
 have HRd := Aside0.mk (Kd.C_below HRd.out hb)
 have HRe := Aside0.mk (Kd.C_below HRe.out hb)
 have BW := Aside0.mk (below_then BW.out BW.out.size hb)
 clear hb
 have HRl := Aside0.mk rl
 clear rl
 go_wp2_with fail
 refine (delta_Invert.calls Ad cd d iv _ HRd.out Ld.out I1.out).mono ?_
 rintro e11 w11 ⟨v11, rfl, ho, hb⟩
 obtain ⟨Aiv, civ, rfl, liv, riv⟩ := Kd.R_reads ho
 have Liv := Aside0.mk liv
 clear ho liv
 have HRa := Aside0.mk (Kd.C_below HRa.out hb)
 have HRb := Aside0.mk (Kd.C_below HRb.out hb)
 have HRc := Aside0.mk (Kd.C_below HRc.out hb)
 have HRd := Aside0.mk (Kd.C_below HRd.out hb)
 have HRe := Aside0.mk (Kd.C_below HRe.out hb)
 have HRl := Aside0.mk (Kd.C_below HRl.out hb)
 have BW := Aside0.mk (below_then BW.out BW.out.size hb)
 clear hb
 have HRiv := Aside0.mk riv
 clear riv
 go_wp2_with fail
 refine (delta_Apply.calls A1 c1 b Aiv civ iv a 0 _ HRb.out HCb.out HRiv.out Liv.out P2.out).mono ?_
 rintro e12 w12 ⟨v12, rfl, ho, hb⟩
 obtain ⟨Am, cm, rfl, lm, rm⟩ := Kd.R_reads ho
 have Lm := Aside0.mk lm
 clear ho lm
 have HRa := Aside0.mk (Kd.C_below HRa.out hb)
 have HRb := Aside0.mk (Kd.C_below HRb.out hb)
 have HRc := Aside0.mk (Kd.C_below HRc.out hb)
 have HRd := Aside0.mk (Kd.C_below HRd.out hb)
 have HRe := Aside0.mk (Kd.C_below HRe.out hb)
 have HRl := Aside0.mk (Kd.C_below HRl.out hb)
 have HRiv := Aside0.mk (Kd.C_below HRiv.out hb)
 have BW := Aside0.mk (below_then BW.out BW.out.size hb)
 clear hb
 have HRm := Aside0.mk rm
 clear rm
 go_wp2_with fail
 refine (delta_Join.calls k7 Ad cd d Ae ce e j 0 _ HRd.out Ld.out HRe.out Le.out H7.out).mono ?_
 rintro e13 w13 ⟨v13, rfl, ho, hb⟩
 obtain ⟨Aj, cj, rfl, lj, rj⟩ := Kd.R_reads ho
 have Lj := Aside0.mk lj
 clear ho lj
 have HRa := Aside0.mk (Kd.C_below HRa.out hb)
 have HRb := Aside0.mk (Kd.C_below HRb.out hb)
 have HRc := Aside0.mk (Kd.C_below HRc.out hb)
 have HRd := Aside0.mk (Kd.C_below HRd.out hb)
 have HRe := Aside0.mk (Kd.C_below HRe.out hb)
 have HRl := Aside0.mk (Kd.C_below HRl.out hb)
 have HRiv := Aside0.mk (Kd.C_below HRiv.out hb)
 have HRm := Aside0.mk (Kd.C_below HRm.out hb)
 have BW := Aside0.mk (below_then BW.out BW.out.size hb)
 clear hb
 have HRj := Aside0.mk rj
 clear rj
 go_wp2_with fail
 refine (delta_Apply.calls A0 c0 a Aj cj j c 0 _ HRa.out HCa.out HRj.out Lj.out P3.out).mono ?_
 rintro e14 w14 ⟨v14, rfl, ho, hb⟩
 obtain ⟨An, cn, rfl, ln, rn⟩ := Kd.R_reads ho
 have Ln := Aside0.mk ln
 clear ho ln
 have HRa := Aside0.mk (Kd.C_below HRa.out hb)
 have HRb := Aside0.mk (Kd.C_below HRb.out hb)
 have HRc := Aside0.mk (Kd.C_below HRc.out hb)
 have HRd := Aside0.mk (Kd.C_below HRd.out hb)
 have HRe := Aside0.mk (Kd.C_below HRe.out hb)
 have HRl := Aside0.mk (Kd.C_below HRl.out hb)
 have HRiv := Aside0.mk (Kd.C_below HRiv.out hb)
 have HRm := Aside0.mk (Kd.C_below HRm.out hb)
 have HRj := Aside0.mk (Kd.C_below HRj.out hb)
 have BW := Aside0.mk (below_then BW.out BW.out.size hb)
 clear hb
 have HRn := Aside0.mk rn
 clear rn
 go_wp2_with fail
 refine (delta_Valid.calls k8 Ad cd d true _ HRd.out Ld.out H8.out).mono ?_
 rintro e15 w15 ⟨rfl, hb⟩
 have HRa := Aside0.mk (Kd.C_below HRa.out hb)
 have HRb := Aside0.mk (Kd.C_below HRb.out hb)
 have HRc := Aside0.mk (Kd.C_below HRc.out hb)
 have HRd := Aside0.mk (Kd.C_below HRd.out hb)
 have HRe := Aside0.mk (Kd.C_below HRe.out hb)
 have HRl := Aside0.mk (Kd.C_below HRl.out hb)
 have HRiv := Aside0.mk (Kd.C_below HRiv.out hb)
 have HRm := Aside0.mk (Kd.C_below HRm.out hb)
 have HRj := Aside0.mk (Kd.C_below HRj.out hb)
 have HRn := Aside0.mk (Kd.C_below HRn.out hb)
 have BW := Aside0.mk (below_then BW.out BW.out.size hb)
 clear hb
 go_wp2_with fail
 refine (delta_Valid.calls k9 Ae ce e true _ HRe.out Le.out H9.out).mono ?_
 rintro e16 w16 ⟨rfl, hb⟩
 have HRa := Aside0.mk (Kd.C_below HRa.out hb)
 have HRb := Aside0.mk (Kd.C_below HRb.out hb)
 have HRc := Aside0.mk (Kd.C_below HRc.out hb)
 have HRd := Aside0.mk (Kd.C_below HRd.out hb)
 have HRe := Aside0.mk (Kd.C_below HRe.out hb)
 have HRl := Aside0.mk (Kd.C_below HRl.out hb)
 have HRiv := Aside0.mk (Kd.C_below HRiv.out hb)
 have HRm := Aside0.mk (Kd.C_below HRm.out hb)
 have HRj := Aside0.mk (Kd.C_below HRj.out hb)
 have HRn := Aside0.mk (Kd.C_below HRn.out hb)
 have BW := Aside0.mk (below_then BW.out BW.out.size hb)
 clear hb
 go_wp2_with fail
 refine (copselaw06_num.calls 0 0 _ rfl).mono ?_
 rintro e17 x17 ⟨rfl, ⟨⟨q17, rfl⟩⟩⟩
 have HRa := Aside0.mk (Kd.C_drewN HRa.out q17)
 have HRb := Aside0.mk (Kd.C_drewN HRb.out q17)
 have HRc := Aside0.mk (Kd.C_drewN HRc.out q17)
 have HRd := Aside0.mk (Kd.C_drewN HRd.out q17)
 have HRe := Aside0.mk (Kd.C_drewN HRe.out q17)
 have HRl := Aside0.mk (Kd.C_drewN HRl.out q17)
 have HRiv := Aside0.mk (Kd.C_drewN HRiv.out q17)
 have HRm := Aside0.mk (Kd.C_drewN HRm.out q17)
 have HRj := Aside0.mk (Kd.C_drewN HRj.out q17)
 have HRn := Aside0.mk (Kd.C_drewN HRn.out q17)
 have BW := Aside0.mk (pw_below_drewN BW.out q17)
 generalize w16.drewN q17 = w17 at HRa HRb HRc HRd HRe HRl HRiv HRm HRj HRn BW ⊢
 go_wp2_with fail
 refine (copselaw06_num.calls 0 0 _ rfl).mono ?_
 rintro e18 x18 ⟨rfl, ⟨⟨q18, rfl⟩⟩⟩
 have HRa := Aside0.mk (Kd.C_drewN HRa.out q18)
 have HRb := Aside0.mk (Kd.C_drewN HRb.out q18)
 have HRc := Aside0.mk (Kd.C_drewN HRc.out q18)
 have HRd := Aside0.mk (Kd.C_drewN HRd.out q18)
 have HRe := Aside0.mk (Kd.C_drewN HRe.out q18)
 have HRl := Aside0.mk (Kd.C_drewN HRl.out q18)
 have HRiv := Aside0.mk (Kd.C_drewN HRiv.out q18)
 have HRm := Aside0.mk (Kd.C_drewN HRm.out q18)
 have HRj := Aside0.mk (Kd.C_drewN HRj.out q18)
 have HRn := Aside0.mk (Kd.C_drewN HRn.out q18)
 have BW := Aside0.mk (pw_below_drewN BW.out q18)
 generalize w17.drewN q18 = w18 at HRa HRb HRc HRd HRe HRl HRiv HRm HRj HRn BW ⊢
 go_wp2_with fail
 refine (copselaw06_num.calls 0 0 _ rfl).mono ?_
 rintro e19 x19 ⟨rfl, ⟨⟨q19, rfl⟩⟩⟩
 have HRa := Aside0.mk (Kd.C_drewN HRa.out q19)
 have HRb := Aside0.mk (Kd.C_drewN HRb.out q19)
 have HRc := Aside0.mk (Kd.C_drewN HRc.out q19)
 have HRd := Aside0.mk (Kd.C_drewN HRd.out q19)
 have HRe := Aside0.mk (Kd.C_drewN HRe.out q19)
 have HRl := Aside0.mk (Kd.C_drewN HRl.out q19)
 have HRiv := Aside0.mk (Kd.C_drewN HRiv.out q19)
 have HRm := Aside0.mk (Kd.C_drewN HRm.out q19)
 have HRj := Aside0.mk (Kd.C_drewN HRj.out q19)
 have HRn := Aside0.mk (Kd.C_drewN HRn.out q19)
 have BW := Aside0.mk (pw_below_drewN BW.out q19)
 generalize w18.drewN q19 = w19 at HRa HRb HRc HRd HRe HRl HRiv HRm HRj HRn BW ⊢
 go_wp2_with fail
 refine (copselaw06_num.calls 0 0 _ rfl).mono ?_
 rintro e20 x20 ⟨rfl, ⟨⟨q20, rfl⟩⟩⟩
 have HRa := Aside0.mk (Kd.C_drewN HRa.out q20)
 have HRb := Aside0.mk (Kd.C_drewN HRb.out q20)
 have HRc := Aside0.mk (Kd.C_drewN HRc.out q20)
 have HRd := Aside0.mk (Kd.C_drewN HRd.out q20)
 have HRe := Aside0.mk (Kd.C_drewN HRe.out q20)
 have HRl := Aside0.mk (Kd.C_drewN HRl.out q20)
 have HRiv := Aside0.mk (Kd.C_drewN HRiv.out q20)
 have HRm := Aside0.mk (Kd.C_drewN HRm.out q20)
 have HRj := Aside0.mk (Kd.C_drewN HRj.out q20)
 have HRn := Aside0.mk (Kd.C_drewN HRn.out q20)
 have BW := Aside0.mk (pw_below_drewN BW.out q20)
 generalize w19.drewN q20 = w20 at HRa HRb HRc HRd HRe HRl HRiv HRm HRj HRn BW ⊢
 go_wp2_with fail
 refine (copselaw06_files.calls k10 Al cl b A1 c1 b true _ HRl.out Ll.out HRb.out HCb.out H10.out).mono ?_
 rintro e21 x21 ⟨rfl, ⟨⟨q21, rfl⟩⟩⟩
 have HRa := Aside0.mk (Kd.C_drewN HRa.out q21)
 have HRb := Aside0.mk (Kd.C_drewN HRb.out q21)
 have HRc := Aside0.mk (Kd.C_drewN HRc.out q21)
 have HRd := Aside0.mk (Kd.C_drewN HRd.out q21)
 have HRe := Aside0.mk (Kd.C_drewN HRe.out q21)
 have HRl := Aside0.mk (Kd.C_drewN HRl.out q21)
 have HRiv := Aside0.mk (Kd.C_drewN HRiv.out q21)
 have HRm := Aside0.mk (Kd.C_drewN HRm.out q21)
 have HRj := Aside0.mk (Kd.C_drewN HRj.out q21)
 have HRn := Aside0.mk (Kd.C_drewN HRn.out q21)
 have BW := Aside0.mk (pw_below_drewN BW.out q21)
 generalize w20.drewN q21 = w21 at HRa HRb HRc HRd HRe HRl HRiv HRm HRj HRn BW ⊢
 go_wp2_with fail
 refine (copselaw06_files.calls k11 Am cm a A0 c0 a true _ HRm.out Lm.out HRa.out HCa.out H11.out).mono ?_
 rintro e22 x22 ⟨rfl, ⟨⟨q22, rfl⟩⟩⟩
 have HRa := Aside0.mk (Kd.C_drewN HRa.out q22)
 have HRb := Aside0.mk (Kd.C_drewN HRb.out q22)
 have HRc := Aside0.mk (Kd.C_drewN HRc.out q22)
 have HRd := Aside0.mk (Kd.C_drewN HRd.out q22)
 have HRe := Aside0.mk (Kd.C_drewN HRe.out q22)
 have HRl := Aside0.mk (Kd.C_drewN HRl.out q22)
 have HRiv := Aside0.mk (Kd.C_drewN HRiv.out q22)
 have HRm := Aside0.mk (Kd.C_drewN HRm.out q22)
 have HRj := Aside0.mk (Kd.C_drewN HRj.out q22)
 have HRn := Aside0.mk (Kd.C_drewN HRn.out q22)
 have BW := Aside0.mk (pw_below_drewN BW.out q22)
 generalize w21.drewN q22 = w22 at HRa HRb HRc HRd HRe HRl HRiv HRm HRj HRn BW ⊢
 go_wp2_with fail
 refine (copselaw06_files.calls k12 An cn c A2 c2 c true _ HRn.out Ln.out HRc.out HCc.out H12.out).mono ?_
 rintro e23 x23 ⟨rfl, ⟨⟨q23, rfl⟩⟩⟩
 have HRa := Aside0.mk (Kd.C_drewN HRa.out q23)
 have HRb := Aside0.mk (Kd.C_drewN HRb.out q23)
 have HRc := Aside0.mk (Kd.C_drewN HRc.out q23)
 have HRd := Aside0.mk (Kd.C_drewN HRd.out q23)
 have HRe := Aside0.mk (Kd.C_drewN HRe.out q23)
 have HRl := Aside0.mk (Kd.C_drewN HRl.out q23)
 have HRiv := Aside0.mk (Kd.C_drewN HRiv.out q23)
 have HRm := Aside0.mk (Kd.C_drewN HRm.out q23)
 have HRj := Aside0.mk (Kd.C_drewN HRj.out q23)
 have HRn := Aside0.mk (Kd.C_drewN HRn.out q23)
 have BW := Aside0.mk (pw_below_drewN BW.out q23)
 generalize w22.drewN q23 = w23 at HRa HRb HRc HRd HRe HRl HRiv HRm HRj HRn BW ⊢
 go_wp2_with fail
 clear HRl
 clear HRiv
 clear HRm
 clear HRn
 clear HRe
 refine (delta_Diff.calls k6 A0 c0 a A2 c2 c j _ HRa.out HCa.out HRc.out HCc.out H6.out).mono ?_
 rintro e24 w24 ⟨v24, rfl, ho, hb⟩
 obtain ⟨Adf, cdf, rfl, ldf, rdf⟩ := Kd.R_reads ho
 have Ldf := Aside0.mk ldf
 clear ho ldf
 have HRa := Aside0.mk (Kd.C_below HRa.out hb)
 have HRb := Aside0.mk (Kd.C_below HRb.out hb)
 have HRc := Aside0.mk (Kd.C_below HRc.out hb)
 have HRd := Aside0.mk (Kd.C_below HRd.out hb)
 have HRj := Aside0.mk (Kd.C_below HRj.out hb)
 have BW := Aside0.mk (below_then BW.out BW.out.size hb)
 clear hb
 have HRdf := Aside0.mk rdf
 clear rdf
 go_wp2_with fail
 refine (copselaw06_changes.calls k13 Aj cj j Adf cdf j true _ HRj.out Lj.out HRdf.out Ldf.out H13.out).mono ?_
 rintro e25 x25 ⟨rfl, ⟨⟨q25, rfl⟩⟩⟩
 have HRa := Aside0.mk (Kd.C_drewN HRa.out q25)
 have HRb := Aside0.mk (Kd.C_drewN HRb.out q25)
 have HRc := Aside0.mk (Kd.C_drewN HRc.out q25)
 have HRd := Aside0.mk (Kd.C_drewN HRd.out q25)
 have HRj := Aside0.mk (Kd.C_drewN HRj.out q25)
 have HRdf := Aside0.mk (Kd.C_drewN HRdf.out q25)
 have BW := Aside0.mk (pw_below_drewN BW.out q25)
 generalize w24.drewN q25 = w25 at HRa HRb HRc HRd HRj HRdf BW ⊢
 go_wp2_with fail
 refine (copselaw06_files.calls k16 A0 c0 a A1 c1 b qf _ HRa.out HCa.out HRb.out HCb.out H16.out).mono ?_
 rintro e26 x26 ⟨rfl, ⟨⟨q26, rfl⟩⟩⟩
 have HRa := Aside0.mk (Kd.C_drewN HRa.out q26)
 have HRb := Aside0.mk (Kd.C_drewN HRb.out q26)
 have HRc := Aside0.mk (Kd.C_drewN HRc.out q26)
 have HRd := Aside0.mk (Kd.C_drewN HRd.out q26)
 have HRj := Aside0.mk (Kd.C_drewN HRj.out q26)
 have HRdf := Aside0.mk (Kd.C_drewN HRdf.out q26)
 have BW := Aside0.mk (pw_below_drewN BW.out q26)
 generalize w25.drewN q26 = w26 at HRa HRb HRc HRd HRj HRdf BW ⊢
 have hq1 := HQ.out
 have hq2 : (((d.length : Int) == 0) != qf) = false := by rw [HQ.out]; exact bne_self_eq_false _
 go_wp2_with fail
 refine (delta_Invert.calls Ad cd d iv _ HRd.out Ld.out I1.out).mono ?_
 rintro e27 w27 ⟨v27, rfl, ho, hb⟩
 obtain ⟨Aiv2, civ2, rfl, liv2, riv2⟩ := Kd.R_reads ho
 have Liv2 := Aside0.mk liv2
 clear ho liv2
 have HRa := Aside0.mk (Kd.C_below HRa.out hb)
 have HRb := Aside0.mk (Kd.C_below HRb.out hb)
 have HRc := Aside0.mk (Kd.C_below HRc.out hb)
 have HRd := Aside0.mk (Kd.C_below HRd.out hb)
 have HRj := Aside0.mk (Kd.C_below HRj.out hb)
 have HRdf := Aside0.mk (Kd.C_below HRdf.out hb)
 have BW := Aside0.mk (below_then BW.out BW.out.size hb)
 clear hb
 have HRiv2 := Aside0.mk riv2
 clear riv2
 go_wp2_with fail
 refine (delta_Invert.calls Aiv2 civ2 iv d _ HRiv2.out Liv2.out I2.out).mono ?_
 rintro e28 w28 ⟨v28, rfl, ho, hb⟩
 obtain ⟨Aiv3, civ3, rfl, liv3, riv3⟩ := Kd.R_reads ho
 have Liv3 := Aside0.mk liv3
 clear ho liv3
 have HRa := Aside0.mk (Kd.C_below HRa.out hb)
 have HRb := Aside0.mk (Kd.C_below HRb.out hb)
 have HRc := Aside0.mk (Kd.C_below HRc.out hb)
 have HRd := Aside0.mk (Kd.C_below HRd.out hb)
 have HRj := Aside0.mk (Kd.C_below HRj.out hb)
 have HRdf := Aside0.mk (Kd.C_below HRdf.out hb)
 have HRiv2 := Aside0.mk (Kd.C_below HRiv2.out hb)
 have BW := Aside0.mk (below_then BW.out BW.out.size hb)
 clear hb
 have HRiv3 := Aside0.mk riv3
 clear riv3
 go_wp2_with fail
 refine (copselaw06_changes.calls k14 Aiv3 civ3 d Ad cd d true _ HRiv3.out Liv3.out HRd.out Ld.out H14.out).mono ?_
 rintro e29 x29 ⟨rfl, ⟨⟨q29, rfl⟩⟩⟩
 have HRa := Aside0.mk (Kd.C_drewN HRa.out q29)
 have HRb := Aside0.mk (Kd.C_drewN HRb.out q29)
 have HRc := Aside0.mk (Kd.C_drewN HRc.out q29)
 have HRd := Aside0.mk (Kd.C_drewN HRd.out q29)
 have HRj := Aside0.mk (Kd.C_drewN HRj.out q29)
 have HRdf := Aside0.mk (Kd.C_drewN HRdf.out q29)
 have HRiv2 := Aside0.mk (Kd.C_drewN HRiv2.out q29)
 have HRiv3 := Aside0.mk (Kd.C_drewN HRiv3.out q29)
 have BW := Aside0.mk (pw_below_drewN BW.out q29)
 generalize w28.drewN q29 = w29 at HRa HRb HRc HRd HRj HRdf HRiv2 HRiv3 BW ⊢
 go_wp2_with fail
 clear HRdf
 clear HRiv2
 clear HRiv3
 obtain ⟨ps, hps⟩ : ∃ ps, ps = d.map S61.f0 := ⟨_, rfl⟩
 have PS := Aside0.mk hps
 have PL : Aside0 (ps.length = d.length) := ⟨by rw [hps, List.length_map]⟩
 have HP : Aside0 (delta_Paths.f k17 d = some ps) := ⟨by rw [H17.out, hps]⟩
 clear hps
 go_wp2_with fail
 refine (delta_Paths.calls k17 Ad cd d ps _ HRd.out Ld.out HP.out).mono ?_
 rintro e30 w30 ⟨v30, rfl, ho, hb⟩
 obtain ⟨Aps, cps, rfl, lps, rps⟩ := Kd.R_reads ho
 have Lps := Aside0.mk lps
 clear ho lps
 have HRa := Aside0.mk (Kd.C_below HRa.out hb)
 have HRb := Aside0.mk (Kd.C_below HRb.out hb)
 have HRc := Aside0.mk (Kd.C_below HRc.out hb)
 have HRd := Aside0.mk (Kd.C_below HRd.out hb)
 have HRj := Aside0.mk (Kd.C_below HRj.out hb)
 have BW := Aside0.mk (below_then BW.out BW.out.size hb)
 clear hb
 have HRps := Aside0.mk rps
 clear rps
 go_wp2
 go_loopg [18] a.length (fun gg s18 wr => ∃ i : Nat, i ≤ a.length ∧ a.length - i ≤ gg ∧ s18 = .int .i64 i ∧ Aside0 (Below w30.heap.size w30 wr))
 case atStart => exact ⟨0, by omega, by omega, by first | rfl | go_num, ⟨Below.refl _ _⟩⟩
 case round =>
  obtain ⟨i, hi, hg, rfl, BX⟩ := hrel
  have HRa := Aside0.mk (Kd.C_below HRa.out BX.out)
  have HRb := Aside0.mk (Kd.C_below HRb.out BX.out)
  have HRc := Aside0.mk (Kd.C_below HRc.out BX.out)
  have HRd := Aside0.mk (Kd.C_below HRd.out BX.out)
  have HRj := Aside0.mk (Kd.C_below HRj.out BX.out)
  have HRps := Aside0.mk (Kd.C_below HRps.out BX.out)
  have BW := Aside0.mk (below_then BW.out BW.out.size BX.out)
  by_cases hlt : i < a.length
  ·have hltz : (i : Int) < (a.length : Int) := by omega
   have C1 := HRa.out
   obtain ⟨x, hx⟩ : ∃ x, rd_T55 a (i : Int) = x := ⟨_, rfl⟩
   have hxm : x ∈ a := by rw [← hx]; exact rdF06_mem a i hlt
   have XM := Aside0.mk hxm
   have XF := Aside0.mk (fa x hxm)
   obtain ⟨ad, e1, h0, h1, h2, h3⟩ := at_T55 C1 (i : Int) (by omega) hltz
   subst e1
   rw [hx, Int.toNat_natCast] at h0 h1 h2 h3
   have HX := Aside0.mk hx
   obtain ⟨k20, h20⟩ := Ev.rounds (find06 b x.f0 (by omega))
   obtain ⟨r1, r2, r3, r4, r5, hr⟩ : ∃ r1 r2 r3 r4 r5, foundF (atF b x.f0) = (r1, r2, r3, r4, r5) := ⟨_, _, _, _, _, rfl⟩
   rw [show foundF (atK S55.f0 b x.f0) = _ from hr] at h20
   have H20 := Aside0.mk h20
   have HR := Aside0.mk hr
   obtain ⟨k21, h21⟩ := Ev.rounds (among06 ps x.f0 (by have := PL.out; have := Nd.out; omega))
   have H21 := Aside0.mk h21
   clear hx hxm C1 h20 hr h21
   go_wp2_with fail
   refine (snap_Find.calls k20 A1 c1 b x.f0 r1 r2 r3 r4 r5 _ HRb.out HCb.out H20.out).mono ?_
   rintro e31 w31 ⟨rfl, hb⟩
   have BY := Aside0.mk (below_then BX.out BX.out.size hb)
   have HRa := Aside0.mk (Kd.C_below HRa.out hb)
   have HRb := Aside0.mk (Kd.C_below HRb.out hb)
   have HRc := Aside0.mk (Kd.C_below HRc.out hb)
   have HRd := Aside0.mk (Kd.C_below HRd.out hb)
   have HRj := Aside0.mk (Kd.C_below HRj.out hb)
   have HRps := Aside0.mk (Kd.C_below HRps.out hb)
   have BW := Aside0.mk (below_then BW.out BW.out.size hb)
   clear hb
   go_wp2_with fail
   obtain ⟨ad', e1, h0, h1, h2, h3⟩ := at_T55 (Kd.C_alloc HRa.out (Obj.cells #[Value.string r1, Value.string r2, Value.int IntKind.i64 r3, Value.int IntKind.i64 r4] 55)) (i : Int) (by omega) hltz
   obtain rfl := Option.some.inj e1
   rw [HX.out, Int.toNat_natCast] at h0 h1 h2 h3
   by_cases hmem : x.f0 ∈ ps
   ·skip
    have HM : Aside0 (copselaw06_among.f k21 ps x.f0 = some true) := ⟨by rw [H21.out, decide_eq_true hmem]⟩
    go_quiet ((go_at_call 32; exact quiet_one (copselaw06_among.calls k21 Aps cps ps x.f0 true _ (Kd.C_drewN (Kd.C_alloc HRps.out _) _) Lps.out HM.out)))
    go_wp2
    go_roundg (a.length - (i + 1))
    case measure => omega
    case rel => exact ⟨i + 1, by omega, by omega, by go_num, ⟨by repeat (first | (with_reducible first | exact BY.out | apply below_alloc | apply pw_below_drewN | apply below_drew1) | exact BY.out)⟩⟩
   ·skip
    have hel := diff_else Sa.out Sb.out XM.out (by rw [← Dd.out, ← PS.out]; exact hmem)
    have hr5 := HR.out
    rw [hel] at hr5
    simp only [foundF, Prod.mk.injEq] at hr5
    obtain ⟨rfl, rfl, rfl, rfl, rfl⟩ := hr5
    clear hel
    have HM : Aside0 (copselaw06_among.f k21 ps x.f0 = some false) := ⟨by rw [H21.out, decide_eq_false hmem]⟩
    go_quiet ((go_at_call 32; exact quiet_one (copselaw06_among.calls k21 Aps cps ps x.f0 false _ (Kd.C_drewN (Kd.C_alloc HRps.out _) _) Lps.out HM.out)))
    go_wp2
    go_roundg (a.length - (i + 1))
    case measure => omega
    case rel => exact ⟨i + 1, by omega, by omega, by go_num, ⟨by repeat (first | (with_reducible first | exact BY.out | apply below_alloc | apply pw_below_drewN | apply below_drew1) | exact BY.out)⟩⟩
  ·have hltz : ¬ (i : Int) < (a.length : Int) := by omega
   obtain rfl : i = a.length := by omega
   clear BX hlt hi hg
   obtain ⟨k18, h18⟩ := Ev.rounds (join06 d iv (by have := Nd.out; omega) (by have := Niv.out; omega) fd fiv)
   rw [show joinV d iv = ([], 0) by rw [Dd.out, Div.out, joinV_diff Sa.out Sb.out Sa.out, (diff_nil Sa.out Sa.out).2 rfl]] at h18
   have H18 := Aside0.mk h18
   clear h18
   go_wp2_with fail
   refine (delta_Invert.calls Ad cd d iv _ HRd.out Ld.out I1.out).mono ?_
   rintro e32 w32 ⟨v32, rfl, ho, hb⟩
   obtain ⟨Aiv4, civ4, rfl, liv4, riv4⟩ := Kd.R_reads ho
   have Liv4 := Aside0.mk liv4
   clear ho liv4
   have HRa := Aside0.mk (Kd.C_below HRa.out hb)
   have HRb := Aside0.mk (Kd.C_below HRb.out hb)
   have HRc := Aside0.mk (Kd.C_below HRc.out hb)
   have HRd := Aside0.mk (Kd.C_below HRd.out hb)
   have HRj := Aside0.mk (Kd.C_below HRj.out hb)
   have HRps := Aside0.mk (Kd.C_below HRps.out hb)
   have BW := Aside0.mk (below_then BW.out BW.out.size hb)
   clear hb
   have HRiv4 := Aside0.mk riv4
   clear riv4
   go_wp2_with fail
   obtain ⟨no, hno⟩ : ∃ no : List S61, no = [] := ⟨_, rfl⟩
   have H19 : Aside0 (delta_Join.f k18 d iv = some (no, 0)) := ⟨by rw [H18.out, hno]⟩
   have z19 : ((no.length : Int) == 0) = true := by rw [hno]; rfl
   have ZN := Aside0.mk hno
   clear hno
   refine (delta_Join.calls k18 Ad cd d Aiv4 civ4 iv no 0 _ HRd.out Ld.out HRiv4.out Liv4.out H19.out).mono ?_
   rintro e33 w33 ⟨v33, rfl, ho, hb⟩
   obtain ⟨Ano, cno, rfl, lno, rno⟩ := Kd.R_reads ho
   have Lno := Aside0.mk lno
   clear ho lno
   have HRa := Aside0.mk (Kd.C_below HRa.out hb)
   have HRb := Aside0.mk (Kd.C_below HRb.out hb)
   have HRc := Aside0.mk (Kd.C_below HRc.out hb)
   have HRd := Aside0.mk (Kd.C_below HRd.out hb)
   have HRj := Aside0.mk (Kd.C_below HRj.out hb)
   have HRps := Aside0.mk (Kd.C_below HRps.out hb)
   have HRiv4 := Aside0.mk (Kd.C_below HRiv4.out hb)
   have BW := Aside0.mk (below_then BW.out BW.out.size hb)
   clear hb
   have HRno := Aside0.mk rno
   clear rno
   go_wp2_with fail
   refine (delta_Valid.calls k15 Aj cj j true _ HRj.out Lj.out H15.out).mono ?_
   rintro e34 w34 ⟨rfl, hb⟩
   have HRa := Aside0.mk (Kd.C_below HRa.out hb)
   have HRb := Aside0.mk (Kd.C_below HRb.out hb)
   have HRc := Aside0.mk (Kd.C_below HRc.out hb)
   have HRd := Aside0.mk (Kd.C_below HRd.out hb)
   have HRj := Aside0.mk (Kd.C_below HRj.out hb)
   have HRps := Aside0.mk (Kd.C_below HRps.out hb)
   have HRiv4 := Aside0.mk (Kd.C_below HRiv4.out hb)
   have HRno := Aside0.mk (Kd.C_below HRno.out hb)
   have BW := Aside0.mk (below_then BW.out BW.out.size hb)
   clear hb
   go_wp2
   go_ret
   exact ⟨by first | rfl | simp, BW.out⟩
end Go.Proofs.YtehfogjibhnabaaDoor.PAll
