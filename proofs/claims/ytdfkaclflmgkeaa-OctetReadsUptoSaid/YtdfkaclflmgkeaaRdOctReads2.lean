/- What the claim leans on. -/
import Derived.BigQuiet
import Derived.Outline
import Derived.WalkKit
import Derived.Test.YtdfkaclflmgkeaaRdPAlly0
import Derived.ChangeSame
import Derived.Deep.Fields
import Derived.Deep.Slices
import Derived.Test.YtdfkaclflmgkeaaRdRowKitO
namespace Go.Proofs.Ytdfkaclflmgkeaa.PAll
open Go.RowKit Go.Proofs.YtdfkaclflmgkeaaW.PrintWords Go.Proofs.YtdfkaclflmgkeaaW.PrintLast Go.Proofs.YtdfkaclflmgkeaaW.PrintMore
theorem quiet_same {P : Program} {f : FuncId} {args : Array Value} {w : World} {n : Nat} {v : Value} (h : Calls P f args (w.drewN n) fun e w' => e = .returned v ∧ w' = w.drewN n) :
  Calls P f args (w.drewN n) fun e w'' => e = .returned v ∧ ∃ q, w'' = w.drewN q :=
 h.mono fun _ _ ⟨he, hq⟩ => ⟨he, n, hq⟩
set_option maxRecDepth 100000 in
set_option maxHeartbeats 8000000 in
theorem reads_calls (A0 : Option Addr) (c0 : Nat) (a : List Int) (A1 : Option Addr) (c1 : Nat) (b : List Int) (A2 : Option Addr) (c2 : Nat) (sc : List (Int × Int)) (w : World) (hr0 : CB w A0 a) (hc0 : a.length ≤ c0) (hr1 : CB w A1 b) (hc1 : b.length ≤ c1) (hr2 : Kd.C kOp w A2 sc.length sc) (ha : a.length ≤ 2097152) (hb : b.length ≤ 2097152) (hs : sc.length ≤ 2097152) (hBa : Bytes a) (hBb : Bytes b) :
  Calls Try.prog 5 #[.slice A0 a.length c0, .slice A1 b.length c1, .slice A2 sc.length c2] w fun e w' => e = .returned (.bool true) ∧ Below w.heap.size w w' := by
 have hu47 := Try.underlying47
 have HR0 := Aside0.mk hr0
 have HR1 := Aside0.mk hr1
 have HR2 := Aside0.mk hr2
 have HC0 := Aside0.mk hc0
 have HC1 := Aside0.mk hc1
 clear hr0 hr1 hr2 hc0 hc1
 go_enter Try.func5, Try.ntmps5
 go_wp2_with fail
 refine (head_calls _).mono ?_
 rintro e w1 ⟨rfl, hb1⟩
 have B1 := Aside0.mk hb1
 clear hb1
 go_wp2_with fail
 refine (lent_calls A0 c0 a w1 (Kd.C_below HR0.out B1.out) (by omega)).mono ?_
 rintro e w2 ⟨g, cap, rfl, ho, hg, hb2⟩
 have G := Aside0.mk (Nat.le_trans B1.out.size hg)
 have B2 := Aside0.mk (below_then B1.out B1.out.size hb2)
 have L2 := Aside0.mk ho
 have GL2 := Aside0.mk (own_lt ho g rfl)
 clear ho hg hb2
 go_wp2_with fail
 refine (lent_calls A1 c1 b w2 (Kd.C_below HR1.out B2.out) (by omega)).mono ?_
 rintro e w3 ⟨g', cap', rfl, ho, hg, hb3⟩
 have G' := Aside0.mk (Nat.le_trans B2.out.size hg)
 have B3 := Aside0.mk (below_then B2.out B2.out.size hb3)
 have L3 := Aside0.mk (L2.out.below hb3)
 have M3 := Aside0.mk ho
 have GL3 := Aside0.mk (Nat.lt_of_lt_of_le GL2.out hb3.size)
 clear ho hg hb3
 go_wp2_with fail
 obtain ⟨hl1, hl2, _, _⟩ := CB.of_long L3.out (by rw [marks_length]; decide)
 refine (newreader_new (some ⟨g, 0, none⟩) cap a w3 hl1 hl2 (by omega)).mono ?_
 clear hl1 hl2
 rintro e w4 ⟨p1, rfl, hs1, hp1, hq1, hb4⟩
 have P1 := Aside0.mk (Nat.lt_of_lt_of_le GL3.out hp1)
 have Q1 := Aside0.mk (Nat.le_trans B3.out.size hp1)
 have B4 := Aside0.mk (below_then B3.out B3.out.size hb4)
 have L4 := Aside0.mk (L3.out.below hb4)
 have M4 := Aside0.mk (M3.out.below hb4)
 have GL4 := Aside0.mk (Nat.lt_of_lt_of_le GL3.out hb4.size)
 have S4 := Aside0.mk hs1
 have T4 := Aside0.mk hq1
 clear hs1 hp1 hq1 hb4
 go_wp2_with fail
 obtain ⟨hl1, hl2, _, _⟩ := CB.of_long M4.out (by rw [marks_length]; decide)
 refine (newreader_new (some ⟨g', 0, none⟩) cap' b w4 hl1 hl2 (by omega)).mono ?_
 clear hl1 hl2
 rintro e w5 ⟨p2, rfl, hs2, hp2, hq2, hb5⟩
 have P2 := Aside0.mk (Nat.lt_of_lt_of_le GL4.out hp2)
 have P12 := Aside0.mk (Nat.lt_of_lt_of_le T4.out hp2)
 have Q2 := Aside0.mk (Nat.le_trans B4.out.size hp2)
 have B5 := Aside0.mk (below_then B4.out B4.out.size hb5)
 have L5 := Aside0.mk (L4.out.below hb5)
 have M5 := Aside0.mk (M4.out.below hb5)
 have GL5 := Aside0.mk (Nat.lt_of_lt_of_le GL4.out hb5.size)
 have S5 := Aside0.mk (S4.out.below hb5)
 have U5 := Aside0.mk hs2
 have T5 := Aside0.mk hq2
 clear hs2 hp2 hq2 hb5
 go_wp2_with (first | (at_builtin; refine print_append_row (w0 := w5) w5.heap.size rfl (.tmp 26) (.tmp 27) 22 5 .u8 1 rfl Try.underlying22 info8m (by decide) _ [] a A0 a.length c0 rfl rfl ?aO ?aR ?aB ?aS ?aL ?_; (case aO => exact own_lit _ _ _ _ _ (Nat.le_refl _) (by decide)); (case aR => exact CB.reads (Kd.C_alloc (Kd.C_below HR0.out B5.out) _)); (case aB => exact below_alloc (Below.refl _ _) _); (case aS => simp); (case aL => simp; omega); intro v6 w6 ho hb6 _ _; obtain ⟨E6, d6, rfl, hc, hr⟩ := OB.reads (own_weaken ho (Nat.zero_le _)); have OK6 := Aside0.mk (own_base ho); have HX6 := Aside0.mk hr; have HY6 := Aside0.mk hc; have HB6 := Aside0.mk hb6; clear ho hc hr hb6) | ((with_reducible refine gate_dst (N := 30) rfl ?_); refine box_event ?hg (N := 30) ?hd (cs := #[.slice E6 a.length d6]) (t := 44) ?hr ?_; (case hd => rfl); (case hg => rfl); (case hr => first | (go_simp; done) | (go_simp; rfl)); intro q1 hg w7 hbox hb; have BK7 := Aside0.mk hbox; have PG7 := Aside0.mk hg; have HB7 := Aside0.mk hb; clear hg hbox hb) | (at_builtin; refine print_append_row (w0 := w7) w7.heap.size rfl (.tmp 31) (.tmp 32) 22 5 .u8 1 rfl Try.underlying22 info8m (by decide) _ [] b A1 b.length c1 rfl rfl ?aO ?aR ?aB ?aS ?aL ?_; (case aO => exact own_lit _ _ _ _ _ (Nat.le_refl _) (by decide)); (case aR => exact CB.reads (Kd.C_alloc (Kd.C_below HR1.out (((B5.out.trans (HB6.out.mono B5.out.size)).trans (HB7.out.mono (Nat.le_trans B5.out.size HB6.out.size))))) _)); (case aB => exact below_alloc (Below.refl _ _) _); (case aS => simp); (case aL => simp; omega); intro v8 w8 ho hb8 _ _; obtain ⟨E8, d8, rfl, hc, hr⟩ := OB.reads (own_weaken ho (Nat.zero_le _)); have OK8 := Aside0.mk (own_base ho); have HX8 := Aside0.mk hr; have HY8 := Aside0.mk hc; have HB8 := Aside0.mk hb8; clear ho hc hr hb8) | ((with_reducible refine gate_dst (N := 35) rfl ?_); refine box_event ?hg (N := 35) ?hd (cs := #[.slice E8 b.length d8]) (t := 44) ?hr ?_; (case hd => rfl); (case hg => rfl); (case hr => first | (go_simp; done) | (go_simp; rfl)); intro q2 hg w9 hbox hb; have BK9 := Aside0.mk hbox; have PG9 := Aside0.mk hg; have HB9 := Aside0.mk hb; clear hg hbox hb))
 have K59 := Aside0.mk (below_then (below_then (below_then HB6.out HB6.out.size HB7.out) (Nat.le_trans HB6.out.size HB7.out.size) HB8.out) (Nat.le_trans HB6.out.size (Nat.le_trans HB7.out.size HB8.out.size)) HB9.out)
 have B9 := Aside0.mk (below_then B5.out B5.out.size K59.out)
 have L9 := Aside0.mk (L5.out.below K59.out)
 have M9 := Aside0.mk (M5.out.below K59.out)
 have S9 := Aside0.mk (S5.out.below K59.out)
 have U9 := Aside0.mk (U5.out.below K59.out)
 have V9 : Aside0 (RN 44 w9 q1 a w5.heap.size) := ⟨RN.below (RN.below ⟨E6, d6, BK7.out, HY6.out, Kd.C_below HX6.out HB7.out, fun ad e => OK6.out ad.block (by rw [e]; rfl)⟩ HB8.out) HB9.out⟩
 have W9 : Aside0 (RN 44 w9 q2 b w7.heap.size) := ⟨E8, d8, BK9.out, HY8.out, Kd.C_below HX8.out HB9.out, fun ad e => OK8.out ad.block (by rw [e]; rfl)⟩
 have LE : Aside0 (g < p1 ∧ p1 < p2 ∧ p2 < q1 ∧ q1 < q2 ∧ g < w3.heap.size ∧ g < w4.heap.size ∧ g < w5.heap.size ∧ g < w7.heap.size) := by
  have h1 := P1.out; have h2 := P12.out; have h3 := T5.out; have h4 := HB6.out.size; have h5 := PG7.out; have h6 := blk_lt BK7.out; have h7 := HB8.out.size; have h8 := PG9.out
  have h9 := GL3.out; have h10 := GL4.out; have h11 := GL5.out; have h12 := HB7.out.size
  exact ⟨by omega, by omega, by omega, by omega, by omega, by omega, by omega, by omega⟩
 have GE : Aside0 (w.heap.size ≤ g ∧ w.heap.size ≤ p1 ∧ w.heap.size ≤ p2 ∧ w.heap.size ≤ q1 ∧ w.heap.size ≤ q2 ∧ g < w9.heap.size) := by
  have h1 := G.out; have h2 := LE.out; have h3 := K59.out.size
  exact ⟨by omega, by omega, by omega, by omega, by omega, by omega⟩
 clear B1 B2 B3 B4 L2 L3 L4 L5 M3 M4 M5 S4 S5 U5 GL2 GL3 GL4 GL5 P1 P2 P12 Q1 Q2 T4 T5 G G' HB6 HB7 HB8 HB9 BK7 BK9 PG7 PG9 HX6 HX8 HY6 HY8 OK6 OK8 K59 B5
 refine (kept_calls g cap A0 c0 a w9 L9.out (Kd.C_below HR0.out B9.out) HC0.out (by omega)).mono ?_
 rintro e w10 ⟨rfl, ⟨⟨n10, rfl⟩⟩⟩
 go_wp2_with fail
 refine (kept_calls g' cap' A1 c1 b (w9.drewN n10) M9.out (Kd.C_below HR1.out (pw_below_drewN B9.out n10)) HC1.out (by omega)).mono ?_
 rintro e w11 ⟨rfl, ⟨⟨n11, rfl⟩⟩⟩
 go_wp2
 go_loopg [13] a.length (fun gg s13 wr => ∃ i : Nat, i ≤ a.length ∧ a.length - i ≤ gg ∧ s13 = .int .i64 i ∧ Aside0 (But g w9 wr) ∧ ∃ xs : List Int, Aside0 (xs.length = a.length + 300) ∧ Aside0 (OB wr (.slice (some ⟨g, 0, none⟩) (a.length + 300) cap) xs))
 case atStart => exact ⟨0, by omega, by omega, rfl, ⟨(But.refl g w9).drewN (n10 + n11)⟩, _, ⟨by rw [List.length_append, marks_length]⟩, L9⟩
 case round =>
  obtain ⟨i, hi, hg, rfl, BT, xs, XL, OX⟩ := hrel
  by_cases hlt : i < a.length
  ·obtain ⟨x, X⟩ : ∃ x, Aside0 (x = xs.getD i 0) := ⟨_, ⟨rfl⟩⟩
   obtain ⟨hcx, hfx⟩ := OX.out.at_ i (by rw [XL.out]; omega)
   rw [← X.out] at hcx
   have hiz : (i : Int) < a.length := by omega
   go_wp2
   go_roundg (a.length - (i + 1))
   case measure => omega
   case rel => exact ⟨i + 1, by omega, by omega, by go_num, ⟨BT.out.setCell i _⟩, _, ⟨by rw [List.length_set]; exact XL.out⟩, ⟨OB.set OX.out XL.out.symm i _⟩⟩
  ·obtain rfl : i = a.length := by omega
   have R1 := Aside0.mk (S9.out.but BT.out LE.out.2.2.2.2.1 (by have := LE.out; omega))
   have R2 := Aside0.mk (U9.out.but BT.out LE.out.2.2.2.2.2.1 (by have := LE.out; omega))
   have R3 := Aside0.mk (V9.out.but BT.out LE.out.2.2.2.2.2.2.1 (by have := LE.out; omega))
   have R4 := Aside0.mk (W9.out.but BT.out LE.out.2.2.2.2.2.2.2 (by have := LE.out; omega))
   have BB := Aside0.mk (B9.out.trans (BT.out.below GE.out.1 B9.out.size))
   clear S9 U9 V9 W9 B9 L9 M9 BT OX XL
   go_wp2
   go_loopg [14, 15] sc.length (fun gg s14 _ wr => ∃ (i : Nat) (bs1 bs2 : List Int), i ≤ sc.length ∧ sc.length - i ≤ gg ∧ s14 = .int .i64 i ∧ Aside0 (Bytes bs1 ∧ Bytes bs2) ∧ Aside0 (RS 62 wr p1 bs1) ∧ Aside0 (RS 62 wr p2 bs2) ∧ Aside0 (RS 44 wr q1 bs1) ∧ Aside0 (RS 44 wr q2 bs2) ∧ Aside0 (Below w.heap.size w wr))
   case atStart => exact ⟨0, a, b, by omega, by omega, rfl, ⟨hBa, hBb⟩, R1, R2, R3, R4, BB⟩
   case round =>
    clear R1 R2 R3 R4 BB
    obtain ⟨i, bs1, bs2, hi, hg, rfl, BY, R1, R2, R3, R4, BB⟩ := hrel
    by_cases hlt : i < sc.length
    ·have hltz : (i : Int) < sc.length := by omega
     obtain ⟨⟨k, n⟩, ad, rfl, hk0, hk1⟩ := kOp_at (Kd.C_below HR2.out BB.out) i hlt
     go_wp2_with fail
     refine (step_calls p1 q1 (by have := LE.out; omega) bs1 BY.out.1 k n wr R1.out R3.out).mono ?_
     rintro e wa ⟨rfl, bs1', hy, h1, h3, hd⟩
     have R2a := Aside0.mk (hd.other _ p2 bs2 (by have := LE.out; omega) (by have := LE.out; omega) R2.out)
     have R4a := Aside0.mk (hd.other _ q2 bs2 (by have := LE.out; omega) (by have := LE.out; omega) R4.out)
     have BBa := Aside0.mk (BB.out.trans (hd.below w.heap.size GE.out.2.1 GE.out.2.2.2.1 BB.out.size))
     have BYa := Aside0.mk (And.intro hy BY.out.2)
     have R1a := Aside0.mk h1
     have R3a := Aside0.mk h3
     clear R1 R2 R3 R4 BB BY hy h1 h3 hd hk0 hk1
     by_cases hev : i % 2 = 0
     ·have hm : Int.tmod (i : Int) 2 = 0 := by rw [Int.tmod_eq_emod_of_nonneg (by omega)]; omega
      have hm' : (i : Int) % 2 = 0 := by omega
      obtain ⟨⟨k', n'⟩, ad', e', hk0, hk1⟩ := kOp_at (Kd.C_below HR2.out BBa.out) i hlt
      obtain rfl := Option.some.inj e'
      clear e'
      go_wp2_with fail
      refine (step_calls p2 q2 (by have := LE.out; omega) bs2 BYa.out.2 k' n' wa R2a.out R4a.out).mono ?_
      rintro e wb ⟨rfl, bs2', hy, h2, h4, hd⟩
      have R1 := Aside0.mk (hd.other _ p1 bs1' (by have := LE.out; omega) (by have := LE.out; omega) R1a.out)
      have R3 := Aside0.mk (hd.other _ q1 bs1' (by have := LE.out; omega) (by have := LE.out; omega) R3a.out)
      have BB := Aside0.mk (BBa.out.trans (hd.below w.heap.size GE.out.2.2.1 GE.out.2.2.2.2.1 BBa.out.size))
      have BY := Aside0.mk (And.intro BYa.out.1 hy)
      have R2 := Aside0.mk h2
      have R4 := Aside0.mk h4
      clear R1a R2a R3a R4a BBa BYa hy h2 h4 hd hk0 hk1
      go_wp2
      obtain ⟨D1, d1, dh1, hc1', _⟩ := R3.out
      obtain ⟨D2, d2, dh2, hc2', _⟩ := R4.out
      obtain ⟨hcl1, hfz1⟩ := RS.cell dh1
      obtain ⟨hcl2, hfz2⟩ := RS.cell dh2
      clear dh1 dh2 hc1' hc2' hfz1 hfz2
      go_quiet ((first | (go_at_call 22; first | exact quiet_same (left_calls p1 bs1' _ R1.out) | exact quiet_same (left_calls p2 bs2' _ R2.out)) | (go_at_call 23; first | exact quiet_same (end_calls p1 bs1' _ R1.out) | exact quiet_same (end_calls p2 bs2' _ R2.out)) | (go_at_call 24; first | exact quiet_same (refend_calls q1 bs1' _ R3.out) | exact quiet_same (refend_calls q2 bs2' _ R4.out))))
      go_wp2
      go_roundg (sc.length - (i + 1))
      case measure => omega
      case rel => exact ⟨i + 1, bs1', bs2', by omega, by omega, by go_num, BY, ⟨R1.out⟩, ⟨R2.out⟩, ⟨R3.out⟩, ⟨R4.out⟩, ⟨pw_below_drewN BB.out _⟩⟩
     ·have hm : ¬ Int.tmod (i : Int) 2 = 0 := by rw [Int.tmod_eq_emod_of_nonneg (by omega)]; omega
      have hm' : ¬ (i : Int) % 2 = 0 := by omega
      have R1 := R1a; have R2 := R2a; have R3 := R3a; have R4 := R4a; have BB := BBa; have BY := BYa
      clear R1a R2a R3a R4a BBa BYa
      go_wp2
      obtain ⟨D1, d1, dh1, hc1', _⟩ := R3.out
      obtain ⟨D2, d2, dh2, hc2', _⟩ := R4.out
      obtain ⟨hcl1, hfz1⟩ := RS.cell dh1
      obtain ⟨hcl2, hfz2⟩ := RS.cell dh2
      clear dh1 dh2 hc1' hc2' hfz1 hfz2
      go_quiet ((first | (go_at_call 22; first | exact quiet_same (left_calls p1 bs1' _ R1.out) | exact quiet_same (left_calls p2 bs2 _ R2.out)) | (go_at_call 23; first | exact quiet_same (end_calls p1 bs1' _ R1.out) | exact quiet_same (end_calls p2 bs2 _ R2.out)) | (go_at_call 24; first | exact quiet_same (refend_calls q1 bs1' _ R3.out) | exact quiet_same (refend_calls q2 bs2 _ R4.out))))
      go_wp2
      go_roundg (sc.length - (i + 1))
      case measure => omega
      case rel => exact ⟨i + 1, bs1', bs2, by omega, by omega, by go_num, BY, ⟨R1.out⟩, ⟨R2.out⟩, ⟨R3.out⟩, ⟨R4.out⟩, ⟨pw_below_drewN BB.out _⟩⟩
    ·obtain rfl : i = sc.length := by omega
     go_wp2
     go_ret
     exact ⟨rfl, BB.out⟩
end Go.Proofs.Ytdfkaclflmgkeaa.PAll
namespace Go.Proofs.Ytdfkaclflmgkeaa.Rk
open Go.ChangeShapes Go.WideShapes Go.ChangeAt Go.RowKit Go.Deep
open Go.Proofs.YtdfkaclflmgkeaaW.PrintWords Go.Proofs.Ytdfkaclflmgkeaa.PAll
section
variable {H : Type} {enc : TypeId × Value → H} {W : World}
theorem ops_in {P : Program} {base : Nat} {t e : TypeId} {fs : Array Field} {f0 f1 : Field} {v : Value} {d : DataW H} {p : List MemPlace} (ht : P.underlying t = some (.slice e)) (he : P.underlying e = some (.struct fs)) (hone : oneCellFields P fs = true) (hC : P.cellsOf e = fs.size) (hn : fs.size = 2)
  (h0 : fs[0]? = some f0) (h1 : fs[1]? = some f1) (u0 : P.underlying f0.type = some (.int .i64)) (u1 : P.underlying f1.type = some (.int .i64))
  (hv : Value.okWide P W .any base t v) (h : DataW.Trod enc P W 0 (fun _ => true) true t v d p) :
  ∃ a cap l, v = .slice a l.length cap ∧ Kd.C kOp W a l.length l ∧ l.length ≤ cap ∧ l.length ≤ Rows.uptoBulk d := by
 obtain ⟨a, len, cap, rfl⟩ := okWide_slice ht hv
 obtain ⟨fuel, hf⟩ := h
 rcases open_slice ht hf with ⟨hcs, _⟩ | ⟨x, ln, cp, m, n, D, Pl, hcs, hb, hl, hm, hmm, hx, hi⟩
 ·simp [Value.cells] at hcs
  obtain ⟨rfl, rfl, rfl⟩ := hcs
  exact ⟨none, 0, [], rfl, ⟨rfl, by simp, fun h => absurd h (by simp)⟩, by simp, by simp⟩
 ·simp [Value.cells] at hcs
  obtain ⟨rfl, rfl, rfl⟩ := hcs
  have hmc : len ≤ m := by rw [hmm]; split <;> omega
  have each : ∀ i, ∃ f : Int × Int, i < m → D i = .agg [.lit (.int .i64 f.1), .lit (.int .i64 f.2)] ∧
    ∀ j u, ([.int .i64 f.1, .int .i64 f.2] : List Value)[j]? = some u → W.cell? (x.add (i * 2 + j)) = some u := by
   intro i
   by_cases him : i < m
   ·obtain ⟨cs', hc, ht'⟩ := hi i him
    rw [hC, hn] at hc
    obtain ⟨ys, n', hn', hy, hlen, hyl, hff⟩ := DataW.trod_struct he ht'
    obtain ⟨_, hcl, hat⟩ := World.cells?_some hc
    simp only [Prod.mk.injEq] at hy
    have part : ∀ (j : Nat) (f : Field), fs[j]? = some f → ∃ (u : Value) (y : DataW H × List MemPlace), W.cell? (x.add (i * 2 + j)) = some u ∧ ys[j]? = some y ∧ DataW.trod enc P W 0 (fun _ => true) true n' f.type [u] = some y := fun j f hj => by
     obtain ⟨ho, hk⟩ := hone_of hone j f hj
     have hjl : j < fs.size := (Array.getElem?_eq_some_iff.1 hj).1
     have hcell := hat j (by omega)
     have hg := hff j f hj
     rw [ho, hk] at hg
     have hone' : (cs'.drop j).take 1 = [cs'[j]'(by omega)] := by
      rw [List.drop_eq_getElem_cons (by omega)]
      rfl
     rw [hone'] at hg
     have hys : ys[j]? = some (ys[j]'(by omega)) := List.getElem?_eq_getElem (by omega)
     refine ⟨_, _, ?_, hys, hg.trans hys⟩
     rw [← Go.Deep.add_add, hcell, List.getElem?_eq_getElem (by omega)]
    obtain ⟨v0, y0, c0, k0, t0⟩ := part 0 f0 h0
    obtain ⟨v1, y1, c1, k1, t1⟩ := part 1 f1 h1
    obtain ⟨s0, e0, r0, _⟩ := DataW.trod_int u0 t0
    obtain ⟨s1, e1, r1, _⟩ := DataW.trod_int u1 t1
    cases e0; cases e1
    have hys : ys = [y0, y1] := by
     rw [hn] at hyl
     match ys, hyl with
     | [a0, a1], _ => simp at k0 k1; rw [k0, k1]
    refine ⟨⟨s0, s1⟩, fun _ => ⟨?_, fun j u hu => ?_⟩⟩
    ·rw [hy.1, hys]; simp [r0, r1]
    ·match j, hu with
     | 0, hu => cases hu; exact c0
     | 1, hu => cases hu; exact c1
   ·exact ⟨(0, 0), fun h => absurd h him⟩
  obtain ⟨F, hF⟩ := Classical.axiomOfChoice each
  have hd : d = .slice ((List.range len).map D) ((List.range (m - len)).map fun j => D (len + j)) := congrArg Prod.fst hx
  refine ⟨some x, cap, (List.range len).map F, by simp, ⟨rfl, ?_, fun _ => ⟨x, rfl, fun j q hj => ?_⟩⟩, by simp; omega, ?_⟩
  ·have : maxLen ≤ 9223372036854775807 := by decide
   simp only [List.length_map, List.length_range]; omega
  ·obtain ⟨hjl, hq⟩ := List.getElem?_eq_some_iff.1 hj
   simp only [List.length_map, List.length_range] at hjl
   simp only [List.getElem_map, List.getElem_range] at hq
   subst hq
   exact ⟨_, rfl, ⟨[.int .i64 (F j).1], [.int .i64 (F j).2], rfl, rfl, rfl⟩, fun i u hu => (hF j (by omega)).2 i u hu⟩
  ·have := bulk_length ((List.range len).map D)
   rw [hd]; simp only [Rows.uptoBulk]; simp only [List.length_map, List.length_range] at this ⊢; omega
end
end Go.Proofs.Ytdfkaclflmgkeaa.Rk
