/- What the claim leans on. -/
import Derived.BigQuiet
import Derived.Outline
import Derived.WalkKit
import Derived.Test.YtdfkaclflmgkeaaPuPAllx0
namespace Go.Proofs.Ytdfkaclflmgkeaa.PAll
open Go.RowKit Go.Proofs.YtdfkaclflmgkeaaW.PrintWords Go.Proofs.YtdfkaclflmgkeaaW.PrintLast Go.Proofs.YtdfkaclflmgkeaaW.PrintMore
theorem lit_CBB (W : World) (rows : List (Option Addr × Nat × List Int)) (hok : ∀ r ∈ rows, r.2.2.length ≤ r.2.1 ∧ CB W r.1 r.2.2) (h : rows.length ≤ 1000) :
  Kd.C (Kd.slice 5 (Kd.int .u8)) (W.alloc (.cells (rows.map fun r => Value.slice r.1 r.2.2.length r.2.1).toArray 22)) (some ⟨W.heap.size, 0, none⟩) rows.length (rows.map (·.2.2)) := by
 refine ⟨by simp, by omega, fun _ => ⟨_, rfl, fun j x hj => ?_⟩⟩
 rw [List.getElem?_map] at hj
 obtain ⟨r, hr, rfl⟩ := Option.map_eq_some_iff.1 hj
 obtain ⟨h1, h2⟩ := hok r (List.mem_of_getElem? hr)
 refine ⟨[.slice r.1 r.2.2.length r.2.1], rfl, ⟨r.1, r.2.1, rfl, h1, Kd.C_alloc h2 _⟩, fun i v hv => ?_⟩
 rcases i with _ | i
 ·obtain rfl := Option.some.inj hv
  have hb : (W.alloc (.cells (rows.map fun r => Value.slice r.1 r.2.2.length r.2.1).toArray 22)).heap[W.heap.size]? = some (.cells (rows.map fun r => Value.slice r.1 r.2.2.length r.2.1).toArray 22 (0, 0)) := Array.getElem?_push_size
  rw [show ((⟨W.heap.size, 0, none⟩ : Addr).add (j * (Kd.slice 5 (Kd.int .u8)).sz + 0)) = ⟨W.heap.size, j, none⟩ by rw [show (Kd.slice 5 (Kd.int .u8)).sz = 1 from rfl, show j * 1 + 0 = j by omega]; unfold Addr.add; split <;> simp_all]
  refine (blk_cell hb j).trans ?_
  simp [hr]
 ·cases hv
structure PS (w : World) (A0 : Option Addr) (b : List Int) (g cap : Nat) (A3 : Option Addr) (t : List Int) (W : World) : Prop where
 hb : Below w.heap.size w W
 r : CB W A0 b
 o : OB W (.slice (some ⟨g, 0, none⟩) (b.length + 300) cap) (b ++ marks 300)
 t : CB W A3 t
section
variable {w W W1 : World} {A0 A3 : Option Addr} {b t : List Int} {g cap : Nat}
theorem PS.l (h : PS w A0 b g cap A3 t W) : CB W (some ⟨g, 0, none⟩) b := (CB.of_long h.o (by rw [marks_length]; decide)).1
theorem PS.below (h : PS w A0 b g cap A3 t W) (k : Below W.heap.size W W1) : PS w A0 b g cap A3 t W1 := ⟨below_then h.hb h.hb.size k, Kd.C_below h.r k, h.o.below k, Kd.C_below h.t k⟩
theorem PS.alloc (h : PS w A0 b g cap A3 t W) (o : Obj) : PS w A0 b g cap A3 t (W.alloc o) := h.below (below_alloc (Below.refl _ W) o)
theorem PS.drewN (h : PS w A0 b g cap A3 t W) (n : Nat) : PS w A0 b g cap A3 t (W.drewN n) := h.below (pw_below_drewN (Below.refl _ W) n)
end
set_option maxRecDepth 100000 in
set_option maxHeartbeats 16000000 in
theorem puts_calls (A0 : Option Addr) (c0 : Nat) (b : List Int) (v : Int) (s : ByteArray) (w : World) (hr0 : CB w A0 b) (hc0 : b.length ≤ c0) (hb : b.length ≤ 2097152) (hv0 : 0 ≤ v) (hv1 : v ≤ 18446744073709551615) (hs : s.size ≤ 2097152) :
  Calls Try.prog 3 #[.slice A0 b.length c0, .int .u64 v, .string s] w fun e w' => e = .returned (.bool true) ∧ Below w.heap.size w w' := by
 have HR0 := Aside0.mk hr0
 have HC0 := Aside0.mk hc0
 clear hr0 hc0
 go_enter Try.func3, Try.ntmps3
 go_wp2_with fail
 refine (head_calls _).mono ?_
 rintro e w1 ⟨rfl, hb1⟩
 have HB1 := Aside0.mk hb1
 have HR1 := Aside0.mk (Kd.C_below HR0.out hb1)
 clear hb1 HR0
 go_wp2_with fail
 refine (lent_calls A0 c0 b w1 HR1.out (by omega)).mono ?_
 rintro e w2 ⟨g, cap, rfl, ho, hg, hb2⟩
 have HB2 := Aside0.mk (below_then HB1.out HB1.out.size hb2)
 have HR2 := Aside0.mk (Kd.C_below HR1.out hb2)
 obtain ⟨hc, hcap, _, _⟩ := CB.of_long ho (by decide)
 have HL2 := Aside0.mk hc
 have HO2 := Aside0.mk ho
 have HCap := Aside0.mk hcap
 clear hb2 HB1 HR1 ho hg hc hcap
 go_wp2_with fail
 refine (text_calls (some ⟨g, 0, none⟩) cap b s w2 HL2.out HCap.out (by omega) (by omega)).mono ?_
 rintro e w3 ⟨v3, rfl, ho, _, hb3⟩
 obtain ⟨t, ht⟩ : ∃ t, t = b ++ le 4 (s.size : Int) ++ bytesOf s := ⟨_, rfl⟩
 rw [← ht] at ho
 obtain ⟨A3, c3, rfl, hc, hr⟩ := OB.reads ho
 have HT := Aside0.mk ht
 have HTL : Aside0 (t.length ≤ 4294304) := ⟨by rw [ht, List.length_append, List.length_append, le_length, bytesOf_length]; omega⟩
 have P3 := Aside0.mk (PS.mk (below_then HB2.out HB2.out.size hb3) (Kd.C_below HR2.out hb3) (HO2.out.below hb3) hr)
 have CT := Aside0.mk hc
 clear hb3 HB2 HR2 HL2 HO2 ho hc hr ht
 go_wp2_with fail
 refine (put8_calls (some ⟨g, 0, none⟩) cap b (v % 256) _ P3.out.l HCap.out (by omega) (by omega) (by omega)).mono ?_
 rintro e w4 ⟨v4, rfl, ho, _, hb4⟩
 obtain ⟨x4, hx⟩ : ∃ t, t = b ++ le 1 (v % 256) := ⟨_, rfl⟩
 rw [← hx] at ho
 have X4 := Aside0.mk hx
 obtain ⟨A4, c4, rfl, hc, hr⟩ := OB.reads ho
 have P4 := Aside0.mk (P3.out.below hb4)
 have R4 := Aside0.mk hr
 have C4 := Aside0.mk hc
 clear ho hc hr hx
 go_wp2_with fail
 refine (refput_calls 1 A0 c0 b (v % 256) _ P4.out.r HC0.out (by omega) (by omega) (by omega) (by omega)).mono ?_
 rintro e w5 ⟨v5, rfl, ho, _, hb5⟩
 obtain ⟨x5, hx⟩ : ∃ t, t = b ++ le 1 (v % 256) := ⟨_, rfl⟩
 rw [← hx] at ho
 have X5 := Aside0.mk hx
 obtain ⟨A5, c5, rfl, hc, hr⟩ := OB.reads ho
 have P5 := Aside0.mk (P4.out.below hb5)
 have R5 := Aside0.mk hr
 have C5 := Aside0.mk hc
 clear ho hc hr hx
 have R4 := Aside0.mk (Kd.C_below R4.out hb5)
 obtain rfl : x5 = x4 := X5.out.trans X4.out.symm
 clear hb4 hb5
 go_wp2_with fail
 refine (same_calls A4 c4 A5 c5 x5 _ R4.out C4.out R5.out C5.out).mono ?_
 rintro e w6 ⟨rfl, ⟨⟨q6, rfl⟩⟩⟩
 have P6 := Aside0.mk (P5.out.drewN q6)
 clear R4 R5 C4 C5 X4 X5
 go_wp2_with fail
 refine (put16_calls (some ⟨g, 0, none⟩) cap b (v % 65536) _ P6.out.l HCap.out (by omega) (by omega) (by omega)).mono ?_
 rintro e w7 ⟨v7, rfl, ho, _, hb7⟩
 obtain ⟨x7, hx⟩ : ∃ t, t = b ++ le 2 (v % 65536) := ⟨_, rfl⟩
 rw [← hx] at ho
 have X7 := Aside0.mk hx
 obtain ⟨A7, c7, rfl, hc, hr⟩ := OB.reads ho
 have P7 := Aside0.mk (P6.out.below hb7)
 have R7 := Aside0.mk hr
 have C7 := Aside0.mk hc
 clear ho hc hr hx
 go_wp2_with fail
 refine (refput_calls 2 A0 c0 b (v % 65536) _ P7.out.r HC0.out (by omega) (by omega) (by omega) (by omega)).mono ?_
 rintro e w8 ⟨v8, rfl, ho, _, hb8⟩
 obtain ⟨x8, hx⟩ : ∃ t, t = b ++ le 2 (v % 65536) := ⟨_, rfl⟩
 rw [← hx] at ho
 have X8 := Aside0.mk hx
 obtain ⟨A8, c8, rfl, hc, hr⟩ := OB.reads ho
 have P8 := Aside0.mk (P7.out.below hb8)
 have R8 := Aside0.mk hr
 have C8 := Aside0.mk hc
 clear ho hc hr hx
 have R7 := Aside0.mk (Kd.C_below R7.out hb8)
 obtain rfl : x8 = x7 := X8.out.trans X7.out.symm
 clear hb7 hb8
 go_wp2_with fail
 refine (same_calls A7 c7 A8 c8 x8 _ R7.out C7.out R8.out C8.out).mono ?_
 rintro e w9 ⟨rfl, ⟨⟨q9, rfl⟩⟩⟩
 have P9 := Aside0.mk (P8.out.drewN q9)
 clear R7 R8 C7 C8 X7 X8
 go_wp2_with fail
 refine (put32_calls (some ⟨g, 0, none⟩) cap b (v % 4294967296) _ P9.out.l HCap.out (by omega) (by omega) (by omega)).mono ?_
 rintro e w10 ⟨v10, rfl, ho, _, hb10⟩
 obtain ⟨x10, hx⟩ : ∃ t, t = b ++ le 4 (v % 4294967296) := ⟨_, rfl⟩
 rw [← hx] at ho
 have X10 := Aside0.mk hx
 obtain ⟨A10, c10, rfl, hc, hr⟩ := OB.reads ho
 have P10 := Aside0.mk (P9.out.below hb10)
 have R10 := Aside0.mk hr
 have C10 := Aside0.mk hc
 clear ho hc hr hx
 go_wp2_with fail
 refine (refput_calls 4 A0 c0 b (v % 4294967296) _ P10.out.r HC0.out (by omega) (by omega) (by omega) (by omega)).mono ?_
 rintro e w11 ⟨v11, rfl, ho, _, hb11⟩
 obtain ⟨x11, hx⟩ : ∃ t, t = b ++ le 4 (v % 4294967296) := ⟨_, rfl⟩
 rw [← hx] at ho
 have X11 := Aside0.mk hx
 obtain ⟨A11, c11, rfl, hc, hr⟩ := OB.reads ho
 have P11 := Aside0.mk (P10.out.below hb11)
 have R11 := Aside0.mk hr
 have C11 := Aside0.mk hc
 clear ho hc hr hx
 have R10 := Aside0.mk (Kd.C_below R10.out hb11)
 obtain rfl : x11 = x10 := X11.out.trans X10.out.symm
 clear hb10 hb11
 go_wp2_with fail
 refine (same_calls A10 c10 A11 c11 x11 _ R10.out C10.out R11.out C11.out).mono ?_
 rintro e w12 ⟨rfl, ⟨⟨q12, rfl⟩⟩⟩
 have P12 := Aside0.mk (P11.out.drewN q12)
 clear R10 R11 C10 C11 X10 X11
 go_wp2_with fail
 refine (put64_calls (some ⟨g, 0, none⟩) cap b v _ P12.out.l HCap.out (by omega) (by omega) (by omega)).mono ?_
 rintro e w13 ⟨v13, rfl, ho, _, hb13⟩
 obtain ⟨x13, hx⟩ : ∃ t, t = b ++ le 8 v := ⟨_, rfl⟩
 rw [← hx] at ho
 have X13 := Aside0.mk hx
 obtain ⟨A13, c13, rfl, hc, hr⟩ := OB.reads ho
 have P13 := Aside0.mk (P12.out.below hb13)
 have R13 := Aside0.mk hr
 have C13 := Aside0.mk hc
 clear ho hc hr hx
 go_wp2_with fail
 refine (refput_calls 8 A0 c0 b v _ P13.out.r HC0.out (by omega) (by omega) (by omega) (by omega)).mono ?_
 rintro e w14 ⟨v14, rfl, ho, _, hb14⟩
 obtain ⟨x14, hx⟩ : ∃ t, t = b ++ le 8 v := ⟨_, rfl⟩
 rw [← hx] at ho
 have X14 := Aside0.mk hx
 obtain ⟨A14, c14, rfl, hc, hr⟩ := OB.reads ho
 have P14 := Aside0.mk (P13.out.below hb14)
 have R14 := Aside0.mk hr
 have C14 := Aside0.mk hc
 clear ho hc hr hx
 have R13 := Aside0.mk (Kd.C_below R13.out hb14)
 obtain rfl : x14 = x13 := X14.out.trans X13.out.symm
 clear hb13 hb14
 go_wp2_with fail
 refine (same_calls A13 c13 A14 c14 x14 _ R13.out C13.out R14.out C14.out).mono ?_
 rintro e w15 ⟨rfl, ⟨⟨q15, rfl⟩⟩⟩
 have P15 := Aside0.mk (P14.out.drewN q15)
 clear R13 R14 C13 C14 X13 X14
 go_wp2_with fail
 refine (reftext_calls A0 c0 b s _ P15.out.r HC0.out (by omega) (by omega)).mono ?_
 rintro e w16 ⟨v16, rfl, ho, _, hb16⟩
 obtain ⟨x16, hx⟩ : ∃ t, t = b ++ le 4 (s.size : Int) ++ bytesOf s := ⟨_, rfl⟩
 rw [← hx] at ho
 have X16 := Aside0.mk hx
 obtain ⟨A16, c16, rfl, hc, hr⟩ := OB.reads ho
 have P16 := Aside0.mk (P15.out.below hb16)
 have R16 := Aside0.mk hr
 have C16 := Aside0.mk hc
 clear ho hc hr hx
 obtain rfl : x16 = t := X16.out.trans HT.out.symm
 go_wp2_with fail
 refine (same_calls A3 c3 A16 c16 x16 _ P16.out.t CT.out R16.out C16.out).mono ?_
 rintro e w17 ⟨rfl, ⟨⟨q17, rfl⟩⟩⟩
 have P17 := Aside0.mk (P16.out.drewN q17)
 clear R16 C16 X16 hb16
 go_wp2_with fail
 refine (join_calls (some ⟨w16.heap.size, 0, none⟩) 3 [b, x16, b] _ (lit_CBB (w16.drewN q17) [(some ⟨g, 0, none⟩, cap, b), (A3, c3, x16), (some ⟨g, 0, none⟩, cap, b)] (by simp only [List.forall_mem_cons]; exact ⟨⟨HCap.out, P17.out.l⟩, ⟨CT.out, P17.out.t⟩, ⟨HCap.out, P17.out.l⟩, fun _ h => nomatch h⟩) (by simp)) (Nat.le_refl _) (by simp) (by have := HTL.out; simp; omega)).mono ?_
 rintro e w18 ⟨v18, rfl, ho, _, hb18⟩
 obtain ⟨x18, hx⟩ : ∃ y, y = [b, x16, b].flatten := ⟨_, rfl⟩
 rw [← hx] at ho
 have X18 := Aside0.mk hx
 obtain ⟨A18, c18, rfl, hc, hr⟩ := OB.reads ho
 have P18 := Aside0.mk ((P17.out.alloc (.cells #[Value.slice (some ⟨g, 0, none⟩) b.length cap, Value.slice A3 x16.length c3, Value.slice (some ⟨g, 0, none⟩) b.length cap] 22)).below hb18)
 have R18 := Aside0.mk hr
 have C18 := Aside0.mk hc
 clear ho hc hr hx hb18
 go_wp2_with fail
 refine (refjoin_calls (some ⟨w18.heap.size, 0, none⟩) 3 [b, x16, b] _ (lit_CBB w18 [(A0, c0, b), (A3, c3, x16), (A0, c0, b)] (by simp only [List.forall_mem_cons]; exact ⟨⟨HC0.out, P18.out.r⟩, ⟨CT.out, P18.out.t⟩, ⟨HC0.out, P18.out.r⟩, fun _ h => nomatch h⟩) (by simp)) (Nat.le_refl _) (by simp) (by have := HTL.out; simp; omega)).mono ?_
 rintro e w19 ⟨v19, rfl, ho, _, hb19⟩
 obtain ⟨x19, hx⟩ : ∃ y, y = [b, x16, b].flatten := ⟨_, rfl⟩
 rw [← hx] at ho
 have X19 := Aside0.mk hx
 obtain ⟨A19, c19, rfl, hc, hr⟩ := OB.reads ho
 have P19 := Aside0.mk ((P18.out.alloc (.cells #[Value.slice A0 b.length c0, Value.slice A3 x16.length c3, Value.slice A0 b.length c0] 22)).below hb19)
 have R18 := Aside0.mk (Kd.C_below (Kd.C_alloc R18.out (.cells #[Value.slice A0 b.length c0, Value.slice A3 x16.length c3, Value.slice A0 b.length c0] 22)) hb19)
 have R19 := Aside0.mk hr
 have C19 := Aside0.mk hc
 obtain rfl : x19 = x18 := hx.trans X18.out.symm
 clear ho hc hr hx hb19
 go_wp2_with fail
 refine (same_calls A18 c18 A19 c19 x19 _ R18.out C18.out R19.out C19.out).mono ?_
 rintro e w20 ⟨rfl, ⟨⟨q20, rfl⟩⟩⟩
 have P20 := Aside0.mk (P19.out.drewN q20)
 clear R18 R19 C18 C19 X18 X19
 go_wp2_with fail
 refine (join_calls none 0 [] _ ⟨rfl, by decide, fun h => absurd h (by decide)⟩ (Nat.le_refl _) (by decide) (by decide)).mono ?_
 rintro e w21 ⟨v21, rfl, ho, _, hb21⟩
 obtain ⟨A21, c21, rfl, _, _⟩ := OB.reads ho
 have P21 := Aside0.mk (P20.out.below hb21)
 clear ho hb21
 go_wp2_with fail
 refine (kept_calls g cap A0 c0 b _ P21.out.o P21.out.r HC0.out (by omega)).mono ?_
 rintro e w22 ⟨rfl, ⟨⟨q22, rfl⟩⟩⟩
 go_wp2
 go_ret
 exact ⟨rfl, pw_below_drewN P21.out.hb _⟩
end Go.Proofs.Ytdfkaclflmgkeaa.PAll
