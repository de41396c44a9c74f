/- PathsFresh: its walk, along the one way that answers true. -/
import Derived.Test.YtdfkaclflmgkeaaDoorPfPAllx0
import Derived.Test.YtdfkaclflmgkeaaDoorPfFreshA
import Derived.Test.YtdfkaclflmgkeaaDoorPfFreshW
import Derived.Test.YtdfkaclflmgkeaaDoorPfPAlly0
import Derived.Test.YtdfkaclflmgkeaaDoorPfPAlly2
import Derived.Test.YtdfkaclflmgkeaaDoorPfPAlly21
import Derived.Test.YtdfkaclflmgkeaaDoorPfPAlly22
import Derived.Test.YtdfkaclflmgkeaaDoorPfPure2
import Derived.Test.YtdfkaclflmgkeaaDoorPfPure3
import Derived.Test.YtdfkaclflmgkeaaDoorPfPure4
import Derived.Test.YtdfkaclflmgkeaaDoorPfPure5
import Derived.Test.YtdfkaclflmgkeaaDoorPfPure6
import Derived.Test.YtdfkaclflmgkeaaDoorPfSpec
import Derived.WalkKit
import Derived.BigQuiet
import Derived.Deep.QuietTactic
import Derived.Outline
namespace Go.Proofs.YtdfkaclflmgkeaaDoor.PAll
open Go.RowKit Go.Proofs.YtdfkaclflmgkeaaDoorW.PrintWords Go.Proofs.YtdfkaclflmgkeaaDoorW.PrintLast Go.Proofs.YtdfkaclflmgkeaaDoorW.PrintMore
open Go.Proofs.YtdfkaclflmgkeaaDoor.Sp
theorem called_same2 (n : Nat) (a b : List ByteArray) (ha : a.length ≤ 1073741824) (hb : b.length ≤ 1073741824) (hfa : Fits a) (hfb : Fits b) : ∃ r, Ev (fun k => copselaw03_called.f k (n : Int) a b a b) (r, r) ∧ r.length ≤ a.length + b.length := by
 have hn := norm_length_le
 by_cases h0 : n = 0
 ·subst h0
  refine ⟨norm a, ?_, by have := hn a; omega⟩
  refine Ev.congr (fun k => by unfold copselaw03_called.f; rw [if_pos (by omega)]) (Ev.pair (prog_norm a (by omega) hfa) (ref_norm a (by omega) hfa))
 by_cases h1 : n = 1
 ·subst h1
  refine ⟨norm (a ++ b), ?_, by have := hn (a ++ b); rw [List.length_append] at this; omega⟩
  refine Ev.congr (fun k => by unfold copselaw03_called.f; rw [if_neg (by omega), if_pos (by omega)]) (Ev.pair (prog_union a b ha hb hfa hfb) (ref_union a b ha hb hfa hfb))
 by_cases h2 : n = 2
 ·subst h2
  refine ⟨norm (a.filter fun x => decide (x ∈ b) == false), ?_, by have := hn (a.filter fun x => decide (x ∈ b) == false); have := List.length_filter_le (fun x => decide (x ∈ b) == false) a; omega⟩
  refine Ev.congr (fun k => by unfold copselaw03_called.f; rw [if_neg (by omega), if_neg (by omega), if_pos (by omega)]) (Ev.pair (prog_minus a b ha hb hfa hfb) (ref_minus a b ha hb hfa))
 by_cases h3 : n = 3
 ·subst h3
  refine ⟨norm (a.filter fun x => decide (x ∈ b) == true), ?_, by have := hn (a.filter fun x => decide (x ∈ b) == true); have := List.length_filter_le (fun x => decide (x ∈ b) == true) a; omega⟩
  refine Ev.congr (fun k => by unfold copselaw03_called.f; rw [if_neg (by omega), if_neg (by omega), if_neg (by omega), if_pos (by omega)]) (Ev.pair (prog_meet a b ha hb hfa hfb) (ref_meet a b ha hb hfa))
 by_cases h4 : n = 4
 ·subst h4
  refine ⟨norm (a.map dirB), ?_, by have := hn (a.map dirB); rw [List.length_map] at this; omega⟩
  refine Ev.congr (fun k => by unfold copselaw03_called.f; rw [if_neg (by omega), if_neg (by omega), if_neg (by omega), if_neg (by omega), if_pos (by omega)]) (Ev.pair (prog_dirs a ha hfa) (ref_dirs a ha hfa))
 refine ⟨heads a, ?_, by unfold heads; have := hn (a.filter (isHead a)); have := List.length_filter_le (isHead a) a; omega⟩
 refine Ev.congr (fun k => by unfold copselaw03_called.f; rw [if_neg (by omega), if_neg (by omega), if_neg (by omega), if_neg (by omega), if_neg (by omega)]) (Ev.pair (prog_heads a ha hfa) (ref_heads a ha hfa))
set_option maxRecDepth 100000 in
set_option maxHeartbeats 4000000 in
theorem PathsFresh (a b : List ByteArray) (A0 A1 : Option Addr) (c0 c1 : Nat) (w : World) (hr0 : Kd.C Kd.string w A0 a.length a) (hc0 : a.length ≤ c0) (hr1 : Kd.C Kd.string w A1 b.length b) (hc1 : b.length ≤ c1)
  (ha : a.length ≤ 1073741824) (hb : b.length ≤ 1073741824) (hfa : Fits a) (hfb : Fits b) :
  Calls Tryd.prog 5 #[.slice A0 a.length c0, .slice A1 b.length c1] w fun e w' => e = .returned (.bool true) ∧ Below w.heap.size w w' := by
 obtain ⟨kx, hx⟩ := (ref_norm a (by omega) hfa).rounds
 obtain ⟨ky, hy⟩ := (ref_norm b (by omega) hfb).rounds
 obtain ⟨ka, hal⟩ := alive_ev.rounds
 have hxl := norm_length_le a
 have hyl := norm_length_le b
 have fx := fits_norm hfa
 have fy := fits_norm hfb
 obtain ⟨kt1, htx⟩ := (texts_same (norm a) (by omega)).rounds
 obtain ⟨kt2, hty⟩ := (texts_same (norm b) (by omega)).rounds
 have CS := fun n => called_same2 n (norm a) (norm b) (by omega) (by omega) fx fy
 have HR0 := Aside0.mk hr0
 have HR1 := Aside0.mk hr1
 have NX := Aside0.mk hx
 have NY := Aside0.mk hy
 have AL := Aside0.mk hal
 have TX := Aside0.mk htx
 have TY := Aside0.mk hty
 have CS' := Aside0.mk CS
 clear hr0 hr1 hx hy hal htx hty CS fx fy hfa hfb
 generalize norm a = x at *
 generalize norm b = y at *
 go_enter Tryd.func5, Tryd.ntmps5
 go_wp2_with fail
 refine (copseref03_Norm.calls kx _ _ a x _ HR0.out hc0 NX.out).mono ?_
 rintro e w1 ⟨vx, rfl, hx, hb1⟩
 obtain ⟨Ax, cx, rfl, lx, rx⟩ := Kd.R_reads hx
 have RX := Aside0.mk rx
 have B1 := Aside0.mk hb1
 clear hx rx hb1
 go_wp2_with fail
 refine (copseref03_Norm.calls ky _ _ b y _ (Kd.C_below HR1.out B1.out) hc1 NY.out).mono ?_
 rintro e w2 ⟨vy, rfl, hy, hb2⟩
 obtain ⟨Ay, cy, rfl, ly, ry⟩ := Kd.R_reads hy
 have RY := Aside0.mk ry
 have B2 := Aside0.mk hb2
 clear hy ry hb2
 go_wp2_with fail
 refine (copselaw03_alive.calls ka true _ AL.out).mono ?_
 rintro e w3 ⟨rfl, hb3⟩
 have CX := Aside0.mk (Kd.C_below (Kd.C_below RX.out B2.out) hb3)
 have CY := Aside0.mk (Kd.C_below RY.out hb3)
 have B3 := Aside0.mk (below_step (below_step B1.out B2.out) hb3)
 have HA := Aside0.mk (Kd.C_below HR0.out B3.out)
 have HB := Aside0.mk (Kd.C_below HR1.out B3.out)
 clear hb3 RX RY B1 B2 HR0 HR1
 go_wp2
 go_loopg [7] 6 (fun gg s7 wr => ∃ n : Nat, n ≤ 6 ∧ 6 - n ≤ gg ∧ s7 = .int .i64 n ∧ Aside0 (Below w3.heap.size w3 wr))
 case atStart => exact ⟨0, by omega, by omega, rfl, ⟨Below.refl _ _⟩⟩
 case round =>
  obtain ⟨n, hn, hg, rfl, BW⟩ := hrel
  by_cases hlt : n < 6
  ·have hltz : (n : Int) < 6 := by omega
   obtain ⟨r, hr, hrl⟩ := CS'.out n
   obtain ⟨kc, hc⟩ := hr.rounds
   obtain ⟨kt, ht⟩ := (texts_same r (by omega)).rounds
   have KC := Aside0.mk hc
   have TR := Aside0.mk ht
   clear hr hc ht
   go_wp2_with fail
   refine (copselaw03_called.calls kc n _ _ x _ _ y _ _ x _ _ y r r _ (Kd.C_below CX.out BW.out) lx (Kd.C_below CY.out BW.out) ly (Kd.C_below CX.out BW.out) lx (Kd.C_below CY.out BW.out) ly KC.out).mono ?_
   rintro e w4 ⟨v1, u1, rfl, ho1, hu1, hb4⟩
   have O1 := Aside0.mk ho1
   have U1 := Aside0.mk hu1
   have B4 := Aside0.mk hb4
   clear ho1 hu1 hb4
   have BW4 := Aside0.mk (below_step BW.out B4.out)
   go_wp2_with fail
   refine (copselaw03_called.calls kc n _ _ x _ _ y _ _ x _ _ y r r _ (Kd.C_below CX.out BW4.out) lx (Kd.C_below CY.out BW4.out) ly (Kd.C_below CX.out BW4.out) lx (Kd.C_below CY.out BW4.out) ly KC.out).mono ?_
   rintro e w5 ⟨v2, u2, rfl, ho2, hu2, hb5⟩
   have O2 := Aside0.mk ho2
   have U2 := Aside0.mk hu2
   have B5 := Aside0.mk hb5
   clear ho2 hu2 hb5
   have BW5 := Aside0.mk (below_step BW4.out B5.out)
   obtain ⟨s1, hk1⟩ := OS.of_R O1.out
   obtain ⟨s2, hk2⟩ := OS.of_R O2.out
   have hlt1 : ∀ k, v1.ownBlock = some k → k < w4.heap.size := own_lt s1
   have S1 := Aside0.mk (s1.below B5.out)
   have S2 := Aside0.mk s2
   have K1 := Aside0.mk hk1
   have K2 := Aside0.mk hk2
   have D12 := Aside0.mk (show ∀ k, v1.ownBlock = some k → v2.ownBlock ≠ some k from fun k h1 h2 => by have := hlt1 k h1; have := hk2 k h2; omega)
   obtain ⟨B1', d1, rfl, e1, q1⟩ := Kd.R_reads U1.out
   obtain ⟨B2', d2, rfl, e2, q2⟩ := Kd.R_reads U2.out
   have Q1 := Aside0.mk (Kd.C_below q1 B5.out)
   have Q2 := Aside0.mk q2
   obtain ⟨A1', n1, rfl, _, _⟩ := s1.reads
   obtain ⟨A2', n2, rfl, _, _⟩ := s2.reads
   clear s1 s2 hk1 hk2 hlt1 q1 q2 O1 O2 U1 U2
   go_wp2_with fail
   refine (apart03 _ wr.heap.size w5.heap.size (w5.heap.size + 1) (.slice A1' r.length n1) (.slice A2' r.length n2) r r B1' B2' d1 d2 ?hl ?hw ?o1 ?o2 K1.out ?k2 D12.out ?q1 e1 ?q2 e2 (by omega) (by omega) ?sz).mono ?_
   case hl => rw [heap_alloc_old _ _ (by simp)]; exact heap_alloc_new w5 _
   case hw => have := heap_alloc_new (w5.alloc (.cells #[.slice A1' r.length n1, .slice A2' r.length n2] 22)) (.cells #[.slice B1' r.length d1, .slice B2' r.length d2] 22); rwa [World.size_alloc] at this
   case o1 => exact (S1.out.alloc _).alloc _
   case o2 => exact (S2.out.alloc _).alloc _
   case k2 => exact fun k hk => Nat.le_trans B4.out.size (K2.out k hk)
   case q1 => exact Kd.C_alloc (Kd.C_alloc Q1.out _) _
   case q2 => exact Kd.C_alloc (Kd.C_alloc Q2.out _) _
   case sz => have := B4.out.size; have := B5.out.size; simp; omega
   rintro e w6 ⟨rfl, hb6⟩
   have BW6 : Aside0 (Below w3.heap.size w3 w6) := ⟨by
    have h5 : Below wr.heap.size wr w5 := below_step B4.out B5.out
    have h5' : Below wr.heap.size wr ((w5.alloc (.cells #[.slice A1' r.length n1, .slice A2' r.length n2] 22)).alloc (.cells #[.slice B1' r.length d1, .slice B2' r.length d2] 22)) := below_alloc (below_alloc h5 _) _
    exact below_step BW.out (h5'.trans hb6)⟩
   clear hb6 BW4 BW5 S1 S2 K1 K2 D12 Q1 Q2 B4 B5
   go_wp2_with fail
   refine (copselaw03_called.calls kc n _ _ x _ _ y _ _ x _ _ y r r _ (Kd.C_below CX.out BW6.out) lx (Kd.C_below CY.out BW6.out) ly (Kd.C_below CX.out BW6.out) lx (Kd.C_below CY.out BW6.out) ly KC.out).mono ?_
   rintro e w7 ⟨v3, u3, rfl, ho3, hu3, hb7⟩
   obtain ⟨A3', n3, rfl, l3, r3⟩ := Kd.R_reads ho3
   obtain ⟨B3', d3, rfl, m3, q3⟩ := Kd.R_reads hu3
   have R3 := Aside0.mk r3
   have Q3 := Aside0.mk q3
   have BW7 := Aside0.mk (below_step BW6.out hb7)
   clear ho3 hu3 hb7 r3 q3 BW6
   go_wp2_with fail
   refine (copselaw03_texts.calls kt _ _ r _ _ r true _ R3.out l3 Q3.out m3 TR.out).mono ?_
   rintro e w8 ⟨rfl, ⟨⟨q8, rfl⟩⟩⟩
   have BW8 := Aside0.mk (pw_below_drewN BW7.out q8)
   clear BW7 R3 Q3
   generalize w7.drewN q8 = w8 at BW8 ⊢
   go_wp2_with fail
   refine (copseref03_Norm.calls kx _ _ a x _ (Kd.C_below HA.out BW8.out) hc0 NX.out).mono ?_
   rintro e w9 ⟨v9, rfl, ho9, hb9⟩
   obtain ⟨A9, n9, rfl, l9, r9⟩ := Kd.R_reads ho9
   have R9 := Aside0.mk r9
   have BW9 := Aside0.mk (below_step BW8.out hb9)
   clear ho9 hb9 r9 BW8
   go_wp2_with fail
   refine (copselaw03_texts.calls kt1 _ _ x _ _ x true _ (Kd.C_below CX.out BW9.out) lx R9.out l9 TX.out).mono ?_
   rintro e w10 ⟨rfl, ⟨⟨q10, rfl⟩⟩⟩
   have BW10 := Aside0.mk (pw_below_drewN BW9.out q10)
   clear BW9 R9
   generalize w9.drewN q10 = w10 at BW10 ⊢
   go_wp2_with fail
   refine (copseref03_Norm.calls ky _ _ b y _ (Kd.C_below HB.out BW10.out) hc1 NY.out).mono ?_
   rintro e w11 ⟨v11, rfl, ho11, hb11⟩
   obtain ⟨A11, n11, rfl, l11, r11⟩ := Kd.R_reads ho11
   have R11 := Aside0.mk r11
   have BW11 := Aside0.mk (below_step BW10.out hb11)
   clear ho11 hb11 r11 BW10
   go_wp2_with fail
   refine (copselaw03_texts.calls kt2 _ _ y _ _ y true _ (Kd.C_below CY.out BW11.out) ly R11.out l11 TY.out).mono ?_
   rintro e w12 ⟨rfl, ⟨⟨q12, rfl⟩⟩⟩
   have BW12 := Aside0.mk (pw_below_drewN BW11.out q12)
   clear BW11 R11
   generalize w11.drewN q12 = w12 at BW12 ⊢
   go_wp2
   go_roundg (6 - (n + 1))
   case measure => omega
   case rel => exact ⟨n + 1, by omega, by omega, by go_num, BW12⟩
  ·have hltz : ¬ (n : Int) < 6 := by omega
   go_wp2
   go_ret
   exact ⟨rfl, below_step B3.out BW.out⟩
end Go.Proofs.YtdfkaclflmgkeaaDoor.PAll
