/- Layer 17: profile.text: its walk. -/
import Derived.Test.YtehfogjibhnabaaDoorPfPAllx0
import Derived.Test.YtehfogjibhnabaaDoorPfPure2
import Derived.Test.YtehfogjibhnabaaDoorPfProfQ
import Derived.Test.YtehfogjibhnabaaDoorPfPAlly11
import Derived.Test.YtehfogjibhnabaaDoorPfShelf
import Derived.WalkKit
import Derived.BigQuiet
import Derived.Outline
namespace Go.Proofs.YtehfogjibhnabaaDoor.PAll
open Go.RowKit Go.Shelf Go.Proofs.YtehfogjibhnabaaDoorW.PrintWords Go.Proofs.YtehfogjibhnabaaDoorW.PrintLast Go.Proofs.YtehfogjibhnabaaDoorW.PrintMore
open Go.Proofs.YtehfogjibhnabaaDoor.Sp
set_option maxHeartbeats 1000000 in
set_option maxRecDepth 100000 in
theorem eqone_calls (ad bd : Addr) (n : Nat) (hn : n = 1) (c c1 : Nat) (x y : ByteArray) (w : World) (ha : w.cell? ad = some (.string x)) (hb : w.cell? bd = some (.string y)) :
  Calls Tryd.prog 65 #[.slice (some ad) n c, .slice (some bd) n c1] w fun e w' => e = .returned (.bool (decide (x = y))) ∧ ∃ q, w' = w.drewN q := by
 have HA := Aside0.mk ha
 have HB := Aside0.mk hb
 have HN := Aside0.mk hn
 clear ha hb hn
 go_enter Tryd.func65, Tryd.ntmps65
 go_wp2
 repeat (go_quiet (fail); try go_wp2)
 go_loopg [13] 2 (fun gg s13 wr => ∃ i : Int, s13 = .int .i64 i ∧ Aside0 (0 ≤ i) ∧ Aside0 (i ≤ 1) ∧ Aside0 (1 - i < gg) ∧ Aside0 (0 < i → x = y) ∧ ∃ q, wr = w.drewN q)
 case atStart => exact ⟨0, rfl, ⟨by omega⟩, ⟨by omega⟩, ⟨by omega⟩, ⟨by omega⟩, 0, rfl⟩
 case round =>
  obtain ⟨i, rfl, HI, HJ, HG, HX, q, rfl⟩ := hrel
  by_cases h0 : i < (n : Int)
  ·have HI2 : Aside0 (i = 0) := ⟨by have := HI.out; have := HN.out; omega⟩
   have h1 : w.cell? (ad.add i.toNat) = some (.string x) := by rw [HI2.out]; exact HA.out
   have h2 : w.cell? (bd.add i.toNat) = some (.string y) := by rw [HI2.out]; exact HB.out
   have c4 : decide (0 ≤ i) = true := decide_eq_true HI.out
   have c5 : decide (i < (n : Int)) = true := decide_eq_true h0
   have p1 := eq_true HI.out
   have p2 := eq_true h0
   clear HX h0
   by_cases hx : x = y
   ·have HXX := Aside0.mk hx
    have e1 : (x.toList == y.toList) = true := by rw [hx]; exact beq_self_eq_true _
    have e2 : (x.toList != y.toList) = false := by rw [hx]; exact bne_self_eq_false _
    clear hx
    go_wp2
    repeat (go_quiet (fail); try go_wp2)
    go_roundg 1
    case measure => have := HG.out; have := HI2.out; omega
    case rel => exact ⟨1, by rw [HI2.out, wrap_add (by omega) (by omega)]; rfl, ⟨by omega⟩, ⟨by omega⟩, ⟨by omega⟩, ⟨fun _ => HXX.out⟩, _, rfl⟩
   ·have e1 : (x.toList == y.toList) = false := by
     rw [beq_eq_false_iff_ne]
     intro e
     exact hx (bs_inj (by rw [← toList_bs, ← toList_bs]; exact e))
    have e2 : (x.toList != y.toList) = true := by
     rw [bne_iff_ne]
     intro e
     exact hx (bs_inj (by rw [← toList_bs, ← toList_bs]; exact e))
    have HXX : Aside0 (decide (x = y) = false) := ⟨decide_eq_false hx⟩
    clear hx
    go_wp2
    repeat (go_quiet (fail); try go_wp2)
    go_ret
    exact ⟨by rw [HXX.out]; rfl, _, by first | rfl | exact World.drewN_drewN _ _ _⟩
  ·have hx : Aside0 (decide (x = y) = true) := ⟨decide_eq_true (HX.out (by have := HN.out; omega))⟩
   have c5 : decide (i < (n : Int)) = false := decide_eq_false h0
   go_wp2
   go_ret
   exact ⟨by rw [hx.out]; rfl, q, rfl⟩
set_option maxHeartbeats 1000000 in
set_option maxRecDepth 100000 in
theorem eqroot_calls (A : Option Addr) (c : Nat) (l : List ByteArray) (b c1 : Nat) (w : World) (hr : Kd.C Kd.string w A l.length l) (hb : w.cell? ⟨b, 0, none⟩ = some (.string ⟨#[]⟩)) :
  Calls Tryd.prog 65 #[.slice A l.length c, .slice (some ⟨b, 0, none⟩) 1 c1] w fun e w' => e = .returned (.bool (decide (l = [⟨#[]⟩]))) ∧ ∃ q, w' = w.drewN q := by
 by_cases h1 : l.length = 1
 ·obtain ⟨x, rfl⟩ := List.length_eq_one_iff.1 h1
  obtain ⟨ad, rfl, hcell⟩ := Kd.at_string hr 0 (by omega) (by simp)
  refine (eqone_calls ad ⟨b, 0, none⟩ 1 rfl c c1 x ⟨#[]⟩ w hcell hb).mono ?_
  rintro e w' ⟨rfl, h⟩
  exact ⟨by simp, h⟩
 ·have hne : ¬ (l.length : Int) = 1 := by omega
  have hd : decide (l = [⟨#[]⟩]) = false := decide_eq_false (by rintro rfl; simp at h1)
  rw [hd]
  go_enter Tryd.func65, Tryd.ntmps65
  go_wp2
  go_ret
  exact ⟨rfl, 0, rfl⟩
theorem R_others {w w' : World} {base : Nat} {v : Value} {xs : List ByteArray} (h : Kd.R Kd.string 9 w base (fun _ => True) v xs) {b : Nat} (hk : Lib.OthersKept 5 (some b) w w') (hb : ∃ cs, w.heap[b]? = some (.cells cs 83 (0, 0))) : Kd.R Kd.string 9 w' base (fun _ => True) v xs := by
 obtain ⟨cs, hb⟩ := hb
 refine Kd.R_mono (Kd.R_move (Kd.R_bound h) fun k hk1 => ?_) (fun _ _ => trivial)
 obtain ⟨_, _, _, q, hq, cells, hc⟩ := hk1
 have hq : q = 9 := by simpa [Kd.string, Kd.scalar] using hq
 subst hq
 rw [hc]
 refine hk k _ hc ?_ ?_
 ·intro e
  cases e
  rw [hc] at hb
  simp at hb
 ·intro c fz e
  simp at e
theorem bu_lt {B b : Nat} {l : Str} {w : World} (h : BU B b l w) : b < w.heap.size := by rcases h with h | h <;> exact h.lt
theorem bu_block {B b : Nat} {l : Str} {w : World} (h : BU B b l w) : ∃ cs, w.heap[b]? = some (.cells cs 83 (0, 0)) := by
 rcases h with ⟨_, v, h, _⟩ | ⟨_, v, h, _⟩ <;> exact ⟨_, h⟩
set_option maxHeartbeats 4000000 in
set_option maxRecDepth 100000 in
theorem profile_text.calls (k : Nat) (A0 : Option Addr) (c0 : Nat) (l0 : List ByteArray) (r : ByteArray) (w : World) (hr0 : Kd.C Kd.string w A0 l0.length l0) (_hc0 : l0.length ≤ c0) (h : profile_text.f k l0 = some r) :
  Calls Tryd.prog 38 #[.slice A0 l0.length c0] w fun e w' => e = .returned (.string r) ∧ Below w.heap.size w w' := by
 unfold profile_text.f at h
 split at h
 ·rename_i hh
  obtain ⟨hc, hlen⟩ := hh
  obtain rfl := Option.some.inj h
  obtain ⟨hv, ha⟩ := (cone_all l0).1 hc
  have HR := Aside0.mk hr0
  have HV := Aside0.mk hv
  have HU := Aside0.mk (rises_of ha)
  clear hr0 hv ha hc h
  go_enter Tryd.func38, Tryd.ntmps38
  go_wp2_with fail
  refine (eqroot_calls A0 c0 l0 _ _ _ (Kd.C_alloc HR.out _) (by first | rfl | simp)).mono ?_
  rintro e w1 ⟨rfl, q1, rfl⟩
  by_cases hroot : l0 = [⟨#[]⟩]
  ·have TX : Aside0 (textS l0 = [47, 42, 10]) := ⟨if_pos hroot⟩
   have hd : decide (l0 = [⟨#[]⟩]) = true := decide_eq_true hroot
   rw [hd]
   go_wp2
   go_ret
   exact ⟨by rw [TX.out]; rfl, pw_below_drewN (below_alloc (Below.refl _ _) _) _⟩
  have TX : Aside0 (textS l0 = [47, 42, 10, 33, 47, 42, 47, 10] ++ (dirsT l0).flatMap (lineT l0)) := ⟨if_neg hroot⟩
  have hd : decide (l0 = [⟨#[]⟩]) = false := decide_eq_false hroot
  rw [hd]
  have BU0 := Lib.fresh_isBuilder 83 5 ((w.alloc (.cells #[.string ⟨#[]⟩] 9)).drewN q1)
  have hs0 : ((w.alloc (.cells #[.string ⟨#[]⟩] 9)).drewN q1).heap.size = w.heap.size + 1 := Array.size_push _
  rw [hs0] at BU0
  have BB : Below w.heap.size w (((w.alloc (.cells #[.string ⟨#[]⟩] 9)).drewN q1).alloc (.cells #[.pointer none, .slice none 0 0] 83)) := below_alloc (pw_below_drewN (below_alloc (Below.refl _ _) _) _) _
  have hsz := BB.size
  go_wp2_with fail
  generalize ((w.alloc (.cells #[.string ⟨#[]⟩] 9)).drewN q1).alloc (.cells #[.pointer none, .slice none 0 0] 83) = w1 at BU0 BB hsz ⊢
  generalize hb : w.heap.size + 1 = b at BU0 ⊢
  refine (write_calls b b [] _ w1 BU0 (by decide) ?_).mono ?_
  ·rcases BU0 with h | h <;> exact Nat.le_of_lt h.lt
  rintro e w2 ⟨rfl, BU1, b2, -⟩
  have B2 : Aside0 (Below w.heap.size w w2) := ⟨BB.trans (b2.mono (by omega))⟩
  go_wp2_with fail
  have h2 := b2.size
  refine (profdirs_calls A0 c0 l0 w2 (Kd.C_below HR.out B2.out) hlen fun p hp => valid_size (HV.out p hp)).mono ?_
  rintro e w3 ⟨v, rfl, r3, b3⟩
  obtain ⟨A, c, rfl⟩ := Kd.R_slice r3
  have DL := Aside0.mk (dirsT_length HV.out)
  have DS := Aside0.mk (dirsT_size HV.out)
  have BU3 := BU.below BU1 b3
  generalize dirsT l0 = ds at r3 TX DL DS ⊢
  have R3 := Aside0.mk r3
  have U3 := Aside0.mk BU3
  have B3 := Aside0.mk (below_then B2.out B2.out.size b3)
  clear r3 BU3 BU1 b2 b3
  have HB0 := Aside0.mk hb
  clear hb hd hroot hsz h2 BB B2
  go_wp2
  go_loopg [15] ds.length (fun gg s15 wr => ∃ i : Nat, s15 = .int .i64 i ∧ i ≤ ds.length ∧ ds.length - i ≤ gg ∧ Aside0 (BU b b ([47, 42, 10, 33, 47, 42, 47, 10] ++ (ds.take i).flatMap (lineT l0)) wr) ∧ Aside0 (Kd.R Kd.string 9 wr w2.heap.size (fun _ => True) (.slice A ds.length c) ds) ∧ Aside0 (Below w.heap.size w wr))
  case atStart => exact ⟨0, rfl, Nat.zero_le _, by omega, U3, R3, B3⟩
  case round =>
   clear U3 R3 B3
   obtain ⟨i, rfl, hi, hg, U, R, B⟩ := hrel
   by_cases hlt : i < ds.length
   ·have hltz : (i : Int) < (ds.length : Int) := by omega
    obtain ⟨ad, ea, hcell⟩ := Kd.at_string (Kd.R_reads' R.out).2.2 (i : Int) (by omega) hltz
    cases ea
    rw [Int.toNat_natCast] at hcell
    have DM := Aside0.mk (DS.out _ (rd_mem ds i hlt))
    have TK := Aside0.mk (take_next' ds i hlt)
    generalize rdOf ByteArray.empty ds (i : Int) = d at hcell DM TK
    have z1 : ((⟨#[47]⟩ : ByteArray) ++ d).size = 1 + d.size := ByteArray.size_append
    have z2 : ((⟨#[33, 47]⟩ : ByteArray) ++ d).size = 2 + d.size := ByteArray.size_append
    have z3 := DM.out
    have z6 := DL.out
    have f1 : ¬ 9223372036854775807 < ((⟨#[47]⟩ : ByteArray) ++ d).size + 2 := by omega
    have f2 : ¬ 9223372036854775807 < ((⟨#[33, 47]⟩ : ByteArray) ++ d).size + 4 := by omega
    have s1 : bs ((⟨#[47]⟩ : ByteArray) ++ d ++ ⟨#[47, 10]⟩) = 47 :: bs d ++ [47, 10] := by simp [bs]
    have s2 : bs ((⟨#[33, 47]⟩ : ByteArray) ++ d ++ ⟨#[47, 42, 47, 10]⟩) = [33, 47] ++ bs d ++ [47, 42, 47, 10] := by simp [bs]
    have z4 : ((⟨#[47]⟩ : ByteArray) ++ d ++ ⟨#[47, 10]⟩).size = 3 + d.size := by rw [ByteArray.size_append, z1]; show 1 + d.size + 2 = _; omega
    have z5 : ((⟨#[33, 47]⟩ : ByteArray) ++ d ++ ⟨#[47, 42, 47, 10]⟩).size = 6 + d.size := by rw [ByteArray.size_append, z2]; show 2 + d.size + 4 = _; omega
    have FL := Aside0.mk (flat_length l0 (ds.take i) fun x hx => DS.out x (List.mem_of_mem_take hx))
    have TL : Aside0 ((ds.take i).length ≤ 125829120) := ⟨by have := DL.out; rw [List.length_take]; omega⟩
    generalize hacc : (ds.take i).flatMap (lineT l0) = acc at U FL
    have TK2 : Aside0 ((ds.take (i + 1)).flatMap (lineT l0) = acc ++ lineT l0 d) := ⟨by rw [TK.out, List.flatMap_append, hacc]; simp⟩
    clear hacc TK
    have Z1 := Aside0.mk (And.intro s1 (And.intro s2 (And.intro z4 z5)))
    clear s1 s2 z4 z5
    go_wp2_with fail
    refine (write_calls b b _ _ wr U.out (by rw [Z1.out.2.2.1]; have := DM.out; have := FL.out; have := TL.out; simp only [List.length_append, List.length_cons, List.length_nil]; omega) (Nat.le_of_lt (bu_lt U.out))).mono ?_
    rintro e w4 ⟨rfl, u4, b4, k4⟩
    rw [Z1.out.1] at u4
    have R4 := Aside0.mk (R_others R.out k4 (bu_block U.out))
    have U4 := Aside0.mk u4
    have B4 : Aside0 (Below w.heap.size w w4) := ⟨B.out.trans (b4.mono (by have := HB0.out; omega))⟩
    clear u4 b4 k4 U R B
    go_wp2_with fail
    refine (bsf_calls A0 c0 l0 d w4 (Kd.C_below HR.out B4.out) HU.out (fun x hx => by have := valid_size (HV.out x hx); omega) (by have := DM.out; omega) (by omega)).mono ?_
    rintro e w5 ⟨⟨ix, rfl⟩, b5⟩
    have R5 := Aside0.mk (Kd.R_below R4.out b5)
    have U5 := Aside0.mk (BU.below U4.out b5)
    have B5 := Aside0.mk (below_then B4.out B4.out.size b5)
    clear U4 R4 B4 b5
    by_cases hin : d ∈ l0
    ·have LT : Aside0 (lineT l0 d = 47 :: bs d ++ [47, 10]) := ⟨by unfold lineT; rw [if_pos hin, List.append_nil]⟩
     have hd : decide (d ∈ l0) = true := decide_eq_true hin
     rw [hd]
     clear hin hd
     go_wp2
     go_roundg (ds.length - (i + 1))
     case measure => omega
     case rel => exact ⟨i + 1, by go_num, by omega, by omega, ⟨by rw [TK2.out, LT.out]; simpa using U5.out⟩, R5, B5⟩
    ·have LT : Aside0 (lineT l0 d = (47 :: bs d ++ [47, 10]) ++ ([33, 47] ++ bs d ++ [47, 42, 47, 10])) := ⟨by unfold lineT; rw [if_neg hin]⟩
     have hd : decide (d ∈ l0) = false := decide_eq_false hin
     rw [hd]
     clear hin hd
     go_wp2_with fail
     refine (write_calls b b _ _ w5 U5.out (by rw [Z1.out.2.2.2]; have := DM.out; have := FL.out; have := TL.out; simp only [List.length_append, List.length_cons, List.length_nil, bs_size]; omega) (Nat.le_of_lt (bu_lt U5.out))).mono ?_
     rintro e w6 ⟨rfl, u6, b6, k6⟩
     rw [Z1.out.2.1] at u6
     have R6 := Aside0.mk (R_others R5.out k6 (bu_block U5.out))
     have U6 := Aside0.mk u6
     have B6 : Aside0 (Below w.heap.size w w6) := ⟨B5.out.trans (b6.mono (by have := HB0.out; omega))⟩
     clear u6 b6 k6 U5 R5 B5
     go_wp2
     go_roundg (ds.length - (i + 1))
     case measure => omega
     case rel => exact ⟨i + 1, by go_num, by omega, by omega, ⟨by rw [TK2.out, LT.out]; simpa using U6.out⟩, R6, B6⟩
   ·have hltz : ¬ (i : Int) < (ds.length : Int) := by omega
    obtain rfl : i = ds.length := by omega
    have U2 := Aside0.mk U.out
    clear U hi hg hlt
    rw [List.take_length, ← TX.out] at U2
    go_wp2_with fail
    refine (Tryd.Builder_String_any b b (textS l0) wr U2.out (Nat.le_of_lt (bu_lt U2.out))).mono ?_
    rintro e w4 ⟨rfl, b4⟩
    go_wp2
    go_ret
    exact ⟨rfl, B.out.trans (b4.mono (by have := HB0.out; omega))⟩
 ·exact absurd h (by simp)
end Go.Proofs.YtehfogjibhnabaaDoor.PAll
namespace Go.Proofs.YtehfogjibhnabaaDoor.PAll
open Go.RowKit Go.Proofs.YtehfogjibhnabaaDoorW.PrintWords Go.Proofs.YtehfogjibhnabaaDoorW.PrintLast Go.Proofs.YtehfogjibhnabaaDoorW.PrintMore
attribute [local go_sem] max2_int min2_int max_two min_two max_three min_three max_four min_four
set_option linter.unusedVariables false
set_option linter.unusedSimpArgs false
def profile_Write.f (k : Nat) (l0 : List ByteArray) : Option (ByteArray × Int) := (cone_Valid.f k l0).bind fun t207 => (if t207 = 0 then ((profile_text.f k l0).bind fun t208 => (if (t208.size : Int) > 65536 then (some ((⟨#[]⟩ : ByteArray), 18)) else (some (t208, 0)))) else (some ((⟨#[]⟩ : ByteArray), t207)))
theorem profile_Write.mono : ∀ a0 k, LeO (profile_Write.f k a0) (profile_Write.f (k + 1) a0) := by
 intro a0 k
 unfold profile_Write.f
 repeat' first
   | (with_reducible exact cone_Valid.mono _ _)
   | (with_reducible exact profile_text.mono _ _)
   | (with_reducible exact LeO.refl _)
   | (with_reducible exact LeO.none _)
   | (with_reducible refine LeO.ite ?_ ?_)
   | (with_reducible refine LeO.bind ?_ (fun _ => ?_))
   | exact cone_Valid.mono _ _
   | exact profile_text.mono _ _
   | exact LeO.none _
   | refine LeO.ite ?_ ?_
   | refine LeO.bind ?_ (fun _ => ?_)
set_option maxHeartbeats 8000000 in
set_option maxRecDepth 100000 in
theorem profile_Write.calls (k : Nat) (A0 : Option Addr) (c0 : Nat) (l0 : List ByteArray) (r1 : ByteArray) (r2 : Int) (w : World) (hr0 : Kd.C Kd.string w A0 l0.length l0) (hc0 : l0.length ≤ c0) (h : profile_Write.f k l0 = some (r1, r2)) :
  Calls Tryd.prog 11 #[.slice A0 l0.length c0] w fun e w' => e = .returned (.tuple #[.string r1, .int .i64 r2]) ∧ Below w.heap.size w w' := by
 have HR0 := Aside0.mk hr0
 have HC0 := Aside0.mk hc0
 clear hr0 hc0
 have HB := Aside0.mk (Below.refl w.heap.size w)
 have H : ((cone_Valid.f k l0).bind fun t207 => (if t207 = 0 then ((profile_text.f k l0).bind fun t208 => (if (t208.size : Int) > 65536 then (some ((⟨#[]⟩ : ByteArray), 18)) else (some (t208, 0)))) else (some ((⟨#[]⟩ : ByteArray), t207)))) = some (r1, r2) := h
 clear h
 replace H := Option.bind_eq_some_iff.mp H
 obtain ⟨t207, A20, H⟩ := H
 replace H : (if t207 = 0 then ((profile_text.f k l0).bind fun t208 => (if (t208.size : Int) > 65536 then (some ((⟨#[]⟩ : ByteArray), 18)) else (some (t208, 0)))) else (some ((⟨#[]⟩ : ByteArray), t207))) = some (r1, r2) := H
 have A2 := Aside0.mk A20
 clear A20
 by_cases c3 : t207 = 0
 ·rw [if_pos c3] at H
  have c3b0 : (t207 == 0) = true := beq_iff_eq.mpr c3
  have c3b1 : (t207 != 0) = false := bne_eq_false_iff_eq.mpr c3
  clear c3
  replace H := Option.bind_eq_some_iff.mp H
  obtain ⟨t208, A40, H⟩ := H
  replace H : (if (t208.size : Int) > 65536 then (some ((⟨#[]⟩ : ByteArray), 18)) else (some (t208, 0))) = some (r1, r2) := H
  have A4 := Aside0.mk A40
  clear A40
  by_cases c5 : (t208.size : Int) > 65536
  ·rw [if_pos c5] at H
   have c5b0 := decide_eq_true c5
   have c5b1 : decide (65536 < t208.size) = true := decide_eq_true (by omega)
   clear c5
   simp only [Option.some.injEq, Prod.mk.injEq] at H
   obtain ⟨rfl, rfl⟩ := H
   go_enter Tryd.func11, Tryd.ntmps11
   go_wp2_with (first | ((with_reducible refine gate_callee (f := 37) rfl ?_); refine goesL_ (some 7) rfl rfl Tryd.func37 (by kernel_rfl) rfl #[.slice A0 l0.length c0] rfl (by (try simp only [List.map_toArray, List.map_cons, List.map_nil]); first | done | rfl | (simp only [List.length_drop, List.length_take]; rfl)) ?_; (with_reducible refine (cone_Valid.calls k _ _ l0 t207 _ ?side1 ?side2 A2.out).mono ?_); (case side1 => repeat (first | exact HR0.out | (with_reducible refine Kd.C_alloc ?_ _) | (with_reducible refine Kd.C_drewN ?_ _) | (with_reducible refine Kd.C_drew ?_))); (case side2 => exact HC0.out); rintro e w6 ⟨rfl, hb⟩; refine ⟨_, rfl, ?_⟩; have n0_ := Aside0.mk (below_step (by repeat (first | (with_reducible first | exact HB.out | apply below_alloc | apply pw_below_drewN | apply below_drew1) | exact HB.out)) hb); clear HB; have HB := n0_; clear n0_; (try clear hb); (try clear hb2); (try clear hk); (try clear hi)) | ((with_reducible refine gate_callee (f := 38) rfl ?_); refine goesL_ (some 12) rfl rfl Tryd.func38 (by kernel_rfl) rfl #[.slice A0 l0.length c0] rfl (by (try simp only [List.map_toArray, List.map_cons, List.map_nil]); first | done | rfl | (simp only [List.length_drop, List.length_take]; rfl)) ?_; (with_reducible refine (profile_text.calls k _ _ l0 t208 _ ?side1 ?side2 A4.out).mono ?_); (case side1 => repeat (first | exact (Kd.C_below HR0.out HB.out) | (with_reducible refine Kd.C_alloc ?_ _) | (with_reducible refine Kd.C_drewN ?_ _) | (with_reducible refine Kd.C_drew ?_))); (case side2 => exact HC0.out); rintro e w7 ⟨rfl, hb⟩; refine ⟨_, rfl, ?_⟩; have n0_ := Aside0.mk (below_step (by repeat (first | (with_reducible first | exact HB.out | apply below_alloc | apply pw_below_drewN | apply below_drew1) | exact HB.out)) hb); clear HB; have HB := n0_; clear n0_; (try clear hb); (try clear hb2); (try clear hk); (try clear hi)))
   go_ret2
   exact ⟨by first | rfl | (simp [errW_none, errW_some] <;> rfl) | (simp [*, errW_none, errW_some] <;> rfl), by repeat (first | (with_reducible first | exact HB.out | apply below_alloc | apply pw_below_drewN | apply below_drew1) | exact HB.out)⟩
  ·rw [if_neg c5] at H
   have c5b0 := decide_eq_false c5
   have c5b1 : decide (65536 < t208.size) = false := decide_eq_false (by omega)
   clear c5
   simp only [Option.some.injEq, Prod.mk.injEq] at H
   obtain ⟨rfl, rfl⟩ := H
   go_enter Tryd.func11, Tryd.ntmps11
   go_wp2_with (first | ((with_reducible refine gate_callee (f := 37) rfl ?_); refine goesL_ (some 7) rfl rfl Tryd.func37 (by kernel_rfl) rfl #[.slice A0 l0.length c0] rfl (by (try simp only [List.map_toArray, List.map_cons, List.map_nil]); first | done | rfl | (simp only [List.length_drop, List.length_take]; rfl)) ?_; (with_reducible refine (cone_Valid.calls k _ _ l0 t207 _ ?side1 ?side2 A2.out).mono ?_); (case side1 => repeat (first | exact HR0.out | (with_reducible refine Kd.C_alloc ?_ _) | (with_reducible refine Kd.C_drewN ?_ _) | (with_reducible refine Kd.C_drew ?_))); (case side2 => exact HC0.out); rintro e w8 ⟨rfl, hb⟩; refine ⟨_, rfl, ?_⟩; have n0_ := Aside0.mk (below_step (by repeat (first | (with_reducible first | exact HB.out | apply below_alloc | apply pw_below_drewN | apply below_drew1) | exact HB.out)) hb); clear HB; have HB := n0_; clear n0_; (try clear hb); (try clear hb2); (try clear hk); (try clear hi)) | ((with_reducible refine gate_callee (f := 38) rfl ?_); refine goesL_ (some 12) rfl rfl Tryd.func38 (by kernel_rfl) rfl #[.slice A0 l0.length c0] rfl (by (try simp only [List.map_toArray, List.map_cons, List.map_nil]); first | done | rfl | (simp only [List.length_drop, List.length_take]; rfl)) ?_; (with_reducible refine (profile_text.calls k _ _ l0 t208 _ ?side1 ?side2 A4.out).mono ?_); (case side1 => repeat (first | exact (Kd.C_below HR0.out HB.out) | (with_reducible refine Kd.C_alloc ?_ _) | (with_reducible refine Kd.C_drewN ?_ _) | (with_reducible refine Kd.C_drew ?_))); (case side2 => exact HC0.out); rintro e w9 ⟨rfl, hb⟩; refine ⟨_, rfl, ?_⟩; have n0_ := Aside0.mk (below_step (by repeat (first | (with_reducible first | exact HB.out | apply below_alloc | apply pw_below_drewN | apply below_drew1) | exact HB.out)) hb); clear HB; have HB := n0_; clear n0_; (try clear hb); (try clear hb2); (try clear hk); (try clear hi)))
   go_ret2
   exact ⟨by first | rfl | (simp [errW_none, errW_some] <;> rfl) | (simp [*, errW_none, errW_some] <;> rfl), by repeat (first | (with_reducible first | exact HB.out | apply below_alloc | apply pw_below_drewN | apply below_drew1) | exact HB.out)⟩
 ·rw [if_neg c3] at H
  have c3b0 : (t207 == 0) = false := beq_eq_false_iff_ne.mpr c3
  have c3b1 : (t207 != 0) = true := bne_iff_ne.mpr c3
  simp only [Option.some.injEq, Prod.mk.injEq] at H
  obtain ⟨rfl, rfl⟩ := H
  go_enter Tryd.func11, Tryd.ntmps11
  go_wp2_with (first | ((with_reducible refine gate_callee (f := 37) rfl ?_); refine goesL_ (some 7) rfl rfl Tryd.func37 (by kernel_rfl) rfl #[.slice A0 l0.length c0] rfl (by (try simp only [List.map_toArray, List.map_cons, List.map_nil]); first | done | rfl | (simp only [List.length_drop, List.length_take]; rfl)) ?_; (with_reducible refine (cone_Valid.calls k _ _ l0 t207 _ ?side1 ?side2 A2.out).mono ?_); (case side1 => repeat (first | exact HR0.out | (with_reducible refine Kd.C_alloc ?_ _) | (with_reducible refine Kd.C_drewN ?_ _) | (with_reducible refine Kd.C_drew ?_))); (case side2 => exact HC0.out); rintro e w10 ⟨rfl, hb⟩; refine ⟨_, rfl, ?_⟩; have n0_ := Aside0.mk (below_step (by repeat (first | (with_reducible first | exact HB.out | apply below_alloc | apply pw_below_drewN | apply below_drew1) | exact HB.out)) hb); clear HB; have HB := n0_; clear n0_; (try clear hb); (try clear hb2); (try clear hk); (try clear hi)))
  go_ret2
  exact ⟨by first | rfl | (simp [errW_none, errW_some] <;> rfl) | (simp [*, errW_none, errW_some] <;> rfl), by repeat (first | (with_reducible first | exact HB.out | apply below_alloc | apply pw_below_drewN | apply below_drew1) | exact HB.out)⟩
def profile_Read.f (k : Nat) (a0 : ByteArray) : Option (List ByteArray × Int) := if (a0.size : Int) > 65536 then (some (([] : List ByteArray), 18)) else ((some (([(⟨#[]⟩ : ByteArray)] : List ByteArray) : List ByteArray)).bind fun y218 => (if a0.toList = ([47, 42, 10] : List UInt8) then ((profile_Write.f k y218).bind fun bt221 => (if bt221.2 = 0 then (if bt221.1.toList = a0.toList then (some (y218, 0)) else (some (([] : List ByteArray), 18))) else (some (([] : List ByteArray), 18)))) else ((profile_named.f k a0).bind fun t223 => ((profile_Write.f k t223).bind fun bt226 => (if bt226.2 = 0 then (if bt226.1.toList = a0.toList then (some (t223, 0)) else (some (([] : List ByteArray), 18))) else (some (([] : List ByteArray), 18)))))))
theorem profile_Read.mono : ∀ a0 k, LeO (profile_Read.f k a0) (profile_Read.f (k + 1) a0) := by
 intro a0 k
 unfold profile_Read.f
 repeat' first
   | (with_reducible exact profile_Write.mono _ _)
   | (with_reducible exact profile_named.mono _ _)
   | (with_reducible exact LeO.refl _)
   | (with_reducible exact LeO.none _)
   | (with_reducible refine LeO.ite ?_ ?_)
   | (with_reducible refine LeO.bind ?_ (fun _ => ?_))
   | exact profile_Write.mono _ _
   | exact profile_named.mono _ _
   | exact LeO.none _
   | refine LeO.ite ?_ ?_
   | refine LeO.bind ?_ (fun _ => ?_)
set_option maxHeartbeats 8000000 in
set_option maxRecDepth 100000 in
theorem profile_Read.calls (k : Nat) (a0 : ByteArray) (r1 : List ByteArray) (r2 : Int) (w : World) (h : profile_Read.f k a0 = some (r1, r2)) :
  Calls Tryd.prog 13 #[.string a0] w fun e w' => ∃ v0_ : Value, e = .returned (.tuple #[v0_, .int .i64 r2]) ∧ Kd.R Kd.string 9 w' w.heap.size (fun _ => True) v0_ r1 ∧ Below w.heap.size w w' := by
 have HB := Aside0.mk (Below.refl w.heap.size w)
 have H : (if (a0.size : Int) > 65536 then (some (([] : List ByteArray), 18)) else ((some (([(⟨#[]⟩ : ByteArray)] : List ByteArray) : List ByteArray)).bind fun y218 => (if a0.toList = ([47, 42, 10] : List UInt8) then ((profile_Write.f k y218).bind fun bt221 => (if bt221.2 = 0 then (if bt221.1.toList = a0.toList then (some (y218, 0)) else (some (([] : List ByteArray), 18))) else (some (([] : List ByteArray), 18)))) else ((profile_named.f k a0).bind fun t223 => ((profile_Write.f k t223).bind fun bt226 => (if bt226.2 = 0 then (if bt226.1.toList = a0.toList then (some (t223, 0)) else (some (([] : List ByteArray), 18))) else (some (([] : List ByteArray), 18)))))))) = some (r1, r2) := h
 clear h
 by_cases c2 : (a0.size : Int) > 65536
 ·rw [if_pos c2] at H
  have c2b0 := decide_eq_true c2
  have c2b1 : decide (65536 < a0.size) = true := decide_eq_true (by omega)
  clear c2
  simp only [Option.some.injEq, Prod.mk.injEq] at H
  obtain ⟨rfl, rfl⟩ := H
  go_enter Tryd.func13, Tryd.ntmps13
  go_wp2
  go_ret2
  exact ⟨_, by first | rfl | (simp [errW_none, errW_some] <;> rfl) | (simp [*, errW_none, errW_some] <;> rfl), by first | exact Kd.R_nil _ _ _ _ _ | exact Kd.N_nil _ _ _ _ _ | exact Kd.V_nil _ _ _ _ _ | exact Kd.Q_nil _ _ _ _ _ | exact Kd.S_nil _ _ _ _ _, by repeat (first | (with_reducible first | exact HB.out | apply below_alloc | apply pw_below_drewN | apply below_drew1) | exact HB.out)⟩
 ·rw [if_neg c2] at H
  have c2b0 := decide_eq_false c2
  have c2b1 : decide (65536 < a0.size) = false := decide_eq_false (by omega)
  clear c2
  obtain ⟨y218, hy218⟩ : ∃ y_ : List ByteArray, y_ = (([(⟨#[]⟩ : ByteArray)] : List ByteArray)) := ⟨_, rfl⟩
  replace H : (if a0.toList = ([47, 42, 10] : List UInt8) then ((profile_Write.f k y218).bind fun bt221 => (if bt221.2 = 0 then (if bt221.1.toList = a0.toList then (some (y218, 0)) else (some (([] : List ByteArray), 18))) else (some (([] : List ByteArray), 18)))) else ((profile_named.f k a0).bind fun t223 => ((profile_Write.f k t223).bind fun bt226 => (if bt226.2 = 0 then (if bt226.1.toList = a0.toList then (some (t223, 0)) else (some (([] : List ByteArray), 18))) else (some (([] : List ByteArray), 18)))))) = some (r1, r2) := by first | (rw [hy218]; with_reducible exact H) | (have H2_ := (Option.bind_some _ _).symm.trans H; rw [hy218]; with_reducible exact H2_) | (have H2_ := (Option.bind_some _ _).symm.trans H; with_reducible exact H2_) | with_reducible exact H | (rw [hy218]; exact H) | exact H
  have Ny218 := Aside0.mk hy218
  clear hy218
  by_cases c3 : a0.toList = ([47, 42, 10] : List UInt8)
  ·rw [if_pos c3] at H
   have c3b0 : (a0.toList == ([47, 42, 10] : List UInt8)) = true := beq_iff_eq.mpr c3
   have c3b1 : (a0.toList != ([47, 42, 10] : List UInt8)) = false := bne_eq_false_iff_eq.mpr c3
   clear c3
   replace H := Option.bind_eq_some_iff.mp H
   obtain ⟨⟨t221, t222⟩, A40, H⟩ := H
   replace H : (if t222 = 0 then (if t221.toList = a0.toList then (some (y218, 0)) else (some (([] : List ByteArray), 18))) else (some (([] : List ByteArray), 18))) = some (r1, r2) := H
   have A4 := Aside0.mk A40
   clear A40
   by_cases c5 : t222 = 0
   ·rw [if_pos c5] at H
    have c5b0 : (t222 == 0) = true := beq_iff_eq.mpr c5
    have c5b1 : (t222 != 0) = false := bne_eq_false_iff_eq.mpr c5
    clear c5
    by_cases c6 : t221.toList = a0.toList
    ·rw [if_pos c6] at H
     have c6b0 : (t221.toList == a0.toList) = true := beq_iff_eq.mpr c6
     have c6b1 : (t221.toList != a0.toList) = false := bne_eq_false_iff_eq.mpr c6
     clear c6
     simp only [Option.some.injEq, Prod.mk.injEq] at H
     obtain ⟨rfl, rfl⟩ := H
     go_enter Tryd.func13, Tryd.ntmps13
     go_wp2_with (first | ((with_reducible refine gate_dst (N := 10) rfl ?_); refine Kd.R_lit Kd.string _ 9 ?hg (N := 10) ?hd (xs := ([(⟨#[]⟩ : ByteArray)] : List ByteArray)) (inner := [.string (⟨#[]⟩ : ByteArray)]) (ok := fun _ => True) (okp := fun _ => True) ?hr ?hp (fun _ hk => hk) trivial (Below.refl _ _) (Nat.le_refl _) (by simp) ?_; (case hd => rfl); (case hg => rfl); (case hr => first | (go_simp; done) | (go_simp; rfl)); (case hp => exact (Reps.one (show Kd.M Kd.string _ _ _ (⟨#[]⟩ : ByteArray) [.string (⟨#[]⟩ : ByteArray)] from rfl) (Reps.none _ _))); intro v219 w7 ho8 hb hg_ hnew_; clear hg_ hnew_; (first | rw [← Ny218.out] at ho8 | (simp only [Int.reduceToNat] at ho8; rw [← Ny218.out] at ho8)); have n0_ := Aside0.mk (Kd.R_lower ho8 (below_size (by repeat (first | (with_reducible first | exact HB.out | apply below_alloc | apply pw_below_drewN | apply below_drew1) | exact HB.out)))); have n1_ := Aside0.mk (below_step (by repeat (first | (with_reducible first | exact HB.out | apply below_alloc | apply pw_below_drewN | apply below_drew1) | exact HB.out)) hb); clear HB; have HO220 := n0_; have HB := n1_; clear n0_ n1_; clear hb ho8; obtain ⟨Ao9, co9, eo9⟩ := Kd.R_slice HO220.out; subst eo9) | ((with_reducible refine gate_callee (f := 11) rfl ?_); refine goesL_ (some 17) rfl rfl Tryd.func11 (by kernel_rfl) rfl #[.slice Ao9 y218.length co9] rfl (by (try simp only [List.map_toArray, List.map_cons, List.map_nil]); first | done | rfl | (simp only [List.length_drop, List.length_take]; rfl)) ?_; (with_reducible refine (profile_Write.calls k _ _ y218 t221 t222 _ ?side1 ?side2 A4.out).mono ?_); (case side1 => repeat (first | exact (Kd.R_reads' HO220.out).2.2 | (with_reducible refine Kd.C_alloc ?_ _) | (with_reducible refine Kd.C_drewN ?_ _) | (with_reducible refine Kd.C_drew ?_))); (case side2 => exact (Kd.R_reads' HO220.out).2.1); rintro e w10 ⟨rfl, hb⟩; refine ⟨_, rfl, ?_⟩; have n0_ := Aside0.mk (Kd.R_below (by (with_reducible repeat (first | apply Kd.R_alloc | apply Kd.R_drewN | apply Kd.R_drew)); exact HO220.out) hb); have n1_ := Aside0.mk (below_step (by repeat (first | (with_reducible first | exact HB.out | apply below_alloc | apply pw_below_drewN | apply below_drew1) | exact HB.out)) hb); clear HO220; clear HB; have HO220 := n0_; have HB := n1_; clear n0_ n1_; (try clear hb); (try clear hb2); (try clear hk); (try clear hi)))
     go_ret2
     exact ⟨_, by first | rfl | (simp [errW_none, errW_some] <;> rfl) | (simp [*, errW_none, errW_some] <;> rfl), by (with_reducible repeat (first | apply Kd.R_alloc | apply Kd.R_drewN | apply Kd.R_drew)); exact HO220.out, by repeat (first | (with_reducible first | exact HB.out | apply below_alloc | apply pw_below_drewN | apply below_drew1) | exact HB.out)⟩
    ·rw [if_neg c6] at H
     have c6b0 : (t221.toList == a0.toList) = false := beq_eq_false_iff_ne.mpr c6
     have c6b1 : (t221.toList != a0.toList) = true := bne_iff_ne.mpr c6
     simp only [Option.some.injEq, Prod.mk.injEq] at H
     obtain ⟨rfl, rfl⟩ := H
     go_enter Tryd.func13, Tryd.ntmps13
     go_wp2_with (first | ((with_reducible refine gate_dst (N := 10) rfl ?_); refine Kd.R_lit Kd.string _ 9 ?hg (N := 10) ?hd (xs := ([(⟨#[]⟩ : ByteArray)] : List ByteArray)) (inner := [.string (⟨#[]⟩ : ByteArray)]) (ok := fun _ => True) (okp := fun _ => True) ?hr ?hp (fun _ hk => hk) trivial (Below.refl _ _) (Nat.le_refl _) (by simp) ?_; (case hd => rfl); (case hg => rfl); (case hr => first | (go_simp; done) | (go_simp; rfl)); (case hp => exact (Reps.one (show Kd.M Kd.string _ _ _ (⟨#[]⟩ : ByteArray) [.string (⟨#[]⟩ : ByteArray)] from rfl) (Reps.none _ _))); intro v219 w11 ho12 hb hg_ hnew_; clear hg_ hnew_; (first | rw [← Ny218.out] at ho12 | (simp only [Int.reduceToNat] at ho12; rw [← Ny218.out] at ho12)); have n0_ := Aside0.mk (Kd.R_lower ho12 (below_size (by repeat (first | (with_reducible first | exact HB.out | apply below_alloc | apply pw_below_drewN | apply below_drew1) | exact HB.out)))); have n1_ := Aside0.mk (below_step (by repeat (first | (with_reducible first | exact HB.out | apply below_alloc | apply pw_below_drewN | apply below_drew1) | exact HB.out)) hb); clear HB; have HO220 := n0_; have HB := n1_; clear n0_ n1_; clear hb ho12; obtain ⟨Ao13, co13, eo13⟩ := Kd.R_slice HO220.out; subst eo13) | ((with_reducible refine gate_callee (f := 11) rfl ?_); refine goesL_ (some 17) rfl rfl Tryd.func11 (by kernel_rfl) rfl #[.slice Ao13 y218.length co13] rfl (by (try simp only [List.map_toArray, List.map_cons, List.map_nil]); first | done | rfl | (simp only [List.length_drop, List.length_take]; rfl)) ?_; (with_reducible refine (profile_Write.calls k _ _ y218 t221 t222 _ ?side1 ?side2 A4.out).mono ?_); (case side1 => repeat (first | exact (Kd.R_reads' HO220.out).2.2 | (with_reducible refine Kd.C_alloc ?_ _) | (with_reducible refine Kd.C_drewN ?_ _) | (with_reducible refine Kd.C_drew ?_))); (case side2 => exact (Kd.R_reads' HO220.out).2.1); rintro e w14 ⟨rfl, hb⟩; refine ⟨_, rfl, ?_⟩; have n0_ := Aside0.mk (Kd.R_below (by (with_reducible repeat (first | apply Kd.R_alloc | apply Kd.R_drewN | apply Kd.R_drew)); exact HO220.out) hb); have n1_ := Aside0.mk (below_step (by repeat (first | (with_reducible first | exact HB.out | apply below_alloc | apply pw_below_drewN | apply below_drew1) | exact HB.out)) hb); clear HO220; clear HB; have HO220 := n0_; have HB := n1_; clear n0_ n1_; (try clear hb); (try clear hb2); (try clear hk); (try clear hi)))
     go_ret2
     exact ⟨_, by first | rfl | (simp [errW_none, errW_some] <;> rfl) | (simp [*, errW_none, errW_some] <;> rfl), by first | exact Kd.R_nil _ _ _ _ _ | exact Kd.N_nil _ _ _ _ _ | exact Kd.V_nil _ _ _ _ _ | exact Kd.Q_nil _ _ _ _ _ | exact Kd.S_nil _ _ _ _ _, by repeat (first | (with_reducible first | exact HB.out | apply below_alloc | apply pw_below_drewN | apply below_drew1) | exact HB.out)⟩
   ·rw [if_neg c5] at H
    have c5b0 : (t222 == 0) = false := beq_eq_false_iff_ne.mpr c5
    have c5b1 : (t222 != 0) = true := bne_iff_ne.mpr c5
    simp only [Option.some.injEq, Prod.mk.injEq] at H
    obtain ⟨rfl, rfl⟩ := H
    go_enter Tryd.func13, Tryd.ntmps13
    go_wp2_with (first | ((with_reducible refine gate_dst (N := 10) rfl ?_); refine Kd.R_lit Kd.string _ 9 ?hg (N := 10) ?hd (xs := ([(⟨#[]⟩ : ByteArray)] : List ByteArray)) (inner := [.string (⟨#[]⟩ : ByteArray)]) (ok := fun _ => True) (okp := fun _ => True) ?hr ?hp (fun _ hk => hk) trivial (Below.refl _ _) (Nat.le_refl _) (by simp) ?_; (case hd => rfl); (case hg => rfl); (case hr => first | (go_simp; done) | (go_simp; rfl)); (case hp => exact (Reps.one (show Kd.M Kd.string _ _ _ (⟨#[]⟩ : ByteArray) [.string (⟨#[]⟩ : ByteArray)] from rfl) (Reps.none _ _))); intro v219 w15 ho16 hb hg_ hnew_; clear hg_ hnew_; (first | rw [← Ny218.out] at ho16 | (simp only [Int.reduceToNat] at ho16; rw [← Ny218.out] at ho16)); have n0_ := Aside0.mk (Kd.R_lower ho16 (below_size (by repeat (first | (with_reducible first | exact HB.out | apply below_alloc | apply pw_below_drewN | apply below_drew1) | exact HB.out)))); have n1_ := Aside0.mk (below_step (by repeat (first | (with_reducible first | exact HB.out | apply below_alloc | apply pw_below_drewN | apply below_drew1) | exact HB.out)) hb); clear HB; have HO220 := n0_; have HB := n1_; clear n0_ n1_; clear hb ho16; obtain ⟨Ao17, co17, eo17⟩ := Kd.R_slice HO220.out; subst eo17) | ((with_reducible refine gate_callee (f := 11) rfl ?_); refine goesL_ (some 17) rfl rfl Tryd.func11 (by kernel_rfl) rfl #[.slice Ao17 y218.length co17] rfl (by (try simp only [List.map_toArray, List.map_cons, List.map_nil]); first | done | rfl | (simp only [List.length_drop, List.length_take]; rfl)) ?_; (with_reducible refine (profile_Write.calls k _ _ y218 t221 t222 _ ?side1 ?side2 A4.out).mono ?_); (case side1 => repeat (first | exact (Kd.R_reads' HO220.out).2.2 | (with_reducible refine Kd.C_alloc ?_ _) | (with_reducible refine Kd.C_drewN ?_ _) | (with_reducible refine Kd.C_drew ?_))); (case side2 => exact (Kd.R_reads' HO220.out).2.1); rintro e w18 ⟨rfl, hb⟩; refine ⟨_, rfl, ?_⟩; have n0_ := Aside0.mk (Kd.R_below (by (with_reducible repeat (first | apply Kd.R_alloc | apply Kd.R_drewN | apply Kd.R_drew)); exact HO220.out) hb); have n1_ := Aside0.mk (below_step (by repeat (first | (with_reducible first | exact HB.out | apply below_alloc | apply pw_below_drewN | apply below_drew1) | exact HB.out)) hb); clear HO220; clear HB; have HO220 := n0_; have HB := n1_; clear n0_ n1_; (try clear hb); (try clear hb2); (try clear hk); (try clear hi)))
    go_ret2
    exact ⟨_, by first | rfl | (simp [errW_none, errW_some] <;> rfl) | (simp [*, errW_none, errW_some] <;> rfl), by first | exact Kd.R_nil _ _ _ _ _ | exact Kd.N_nil _ _ _ _ _ | exact Kd.V_nil _ _ _ _ _ | exact Kd.Q_nil _ _ _ _ _ | exact Kd.S_nil _ _ _ _ _, by repeat (first | (with_reducible first | exact HB.out | apply below_alloc | apply pw_below_drewN | apply below_drew1) | exact HB.out)⟩
  ·rw [if_neg c3] at H
   have c3b0 : (a0.toList == ([47, 42, 10] : List UInt8)) = false := beq_eq_false_iff_ne.mpr c3
   have c3b1 : (a0.toList != ([47, 42, 10] : List UInt8)) = true := bne_iff_ne.mpr c3
   replace H := Option.bind_eq_some_iff.mp H
   obtain ⟨t223, A190, H⟩ := H
   replace H : ((profile_Write.f k t223).bind fun bt226 => (if bt226.2 = 0 then (if bt226.1.toList = a0.toList then (some (t223, 0)) else (some (([] : List ByteArray), 18))) else (some (([] : List ByteArray), 18)))) = some (r1, r2) := H
   have A19 := Aside0.mk A190
   clear A190
   replace H := Option.bind_eq_some_iff.mp H
   obtain ⟨⟨t226, t227⟩, A200, H⟩ := H
   replace H : (if t227 = 0 then (if t226.toList = a0.toList then (some (t223, 0)) else (some (([] : List ByteArray), 18))) else (some (([] : List ByteArray), 18))) = some (r1, r2) := H
   have A20 := Aside0.mk A200
   clear A200
   by_cases c21 : t227 = 0
   ·rw [if_pos c21] at H
    have c21b0 : (t227 == 0) = true := beq_iff_eq.mpr c21
    have c21b1 : (t227 != 0) = false := bne_eq_false_iff_eq.mpr c21
    clear c21
    by_cases c22 : t226.toList = a0.toList
    ·rw [if_pos c22] at H
     have c22b0 : (t226.toList == a0.toList) = true := beq_iff_eq.mpr c22
     have c22b1 : (t226.toList != a0.toList) = false := bne_eq_false_iff_eq.mpr c22
     clear c22
     simp only [Option.some.injEq, Prod.mk.injEq] at H
     obtain ⟨rfl, rfl⟩ := H
     go_enter Tryd.func13, Tryd.ntmps13
     go_wp2_with (first | ((with_reducible refine gate_dst (N := 10) rfl ?_); refine Kd.R_lit Kd.string _ 9 ?hg (N := 10) ?hd (xs := ([(⟨#[]⟩ : ByteArray)] : List ByteArray)) (inner := [.string (⟨#[]⟩ : ByteArray)]) (ok := fun _ => True) (okp := fun _ => True) ?hr ?hp (fun _ hk => hk) trivial (Below.refl _ _) (Nat.le_refl _) (by simp) ?_; (case hd => rfl); (case hg => rfl); (case hr => first | (go_simp; done) | (go_simp; rfl)); (case hp => exact (Reps.one (show Kd.M Kd.string _ _ _ (⟨#[]⟩ : ByteArray) [.string (⟨#[]⟩ : ByteArray)] from rfl) (Reps.none _ _))); intro v219 w23 ho24 hb hg_ hnew_; clear hg_ hnew_; (first | rw [← Ny218.out] at ho24 | (simp only [Int.reduceToNat] at ho24; rw [← Ny218.out] at ho24)); have n0_ := Aside0.mk (Kd.R_lower ho24 (below_size (by repeat (first | (with_reducible first | exact HB.out | apply below_alloc | apply pw_below_drewN | apply below_drew1) | exact HB.out)))); have n1_ := Aside0.mk (below_step (by repeat (first | (with_reducible first | exact HB.out | apply below_alloc | apply pw_below_drewN | apply below_drew1) | exact HB.out)) hb); clear HB; have HO220 := n0_; have HB := n1_; clear n0_ n1_; clear hb ho24) | ((with_reducible refine gate_callee (f := 39) rfl ?_); refine goesL_ (some 14) rfl rfl Tryd.func39 (by kernel_rfl) rfl #[.string a0] rfl (by (try simp only [List.map_toArray, List.map_cons, List.map_nil]); first | done | rfl | (simp only [List.length_drop, List.length_take]; rfl)) ?_; (with_reducible refine (profile_named.calls k a0 t223 _ A19.out).mono ?_); rintro e w25 ⟨v224, rfl, ho0, hb⟩; refine ⟨_, rfl, ?_⟩; have n0_ := Aside0.mk (Kd.R_elder' (by (with_reducible repeat (first | apply Kd.R_alloc | apply Kd.R_drewN | apply Kd.R_drew)); exact HO220.out) (Kd.R_base ho0) hb); have n1_ := Aside0.mk (Kd.R_lower (Kd.R_new' ho0 (Kd.R_lt (by (with_reducible repeat (first | apply Kd.R_alloc | apply Kd.R_drewN | apply Kd.R_drew)); exact HO220.out))) (below_size (by repeat (first | (with_reducible first | exact HB.out | apply below_alloc | apply pw_below_drewN | apply below_drew1) | exact HB.out)))); have n2_ := Aside0.mk (below_step (by repeat (first | (with_reducible first | exact HB.out | apply below_alloc | apply pw_below_drewN | apply below_drew1) | exact HB.out)) hb); clear HO220; clear HB; have HO220 := n0_; have HO225 := n1_; have HB := n2_; clear n0_ n1_ n2_; (try clear hb); (try clear hb2); (try clear hk); (try clear hi); (try clear ho0); obtain ⟨Ao26, co26, eo26⟩ := Kd.R_slice HO225.out; subst eo26) | ((with_reducible refine gate_callee (f := 11) rfl ?_); refine goesL_ (some 17) rfl rfl Tryd.func11 (by kernel_rfl) rfl #[.slice Ao26 t223.length co26] rfl (by (try simp only [List.map_toArray, List.map_cons, List.map_nil]); first | done | rfl | (simp only [List.length_drop, List.length_take]; rfl)) ?_; (with_reducible refine (profile_Write.calls k _ _ t223 t226 t227 _ ?side1 ?side2 A20.out).mono ?_); (case side1 => repeat (first | exact (Kd.R_reads' HO225.out).2.2 | (with_reducible refine Kd.C_alloc ?_ _) | (with_reducible refine Kd.C_drewN ?_ _) | (with_reducible refine Kd.C_drew ?_))); (case side2 => exact (Kd.R_reads' HO225.out).2.1); rintro e w27 ⟨rfl, hb⟩; refine ⟨_, rfl, ?_⟩; have n0_ := Aside0.mk (Kd.R_below (by (with_reducible repeat (first | apply Kd.R_alloc | apply Kd.R_drewN | apply Kd.R_drew)); exact HO220.out) hb); have n1_ := Aside0.mk (Kd.R_below (by (with_reducible repeat (first | apply Kd.R_alloc | apply Kd.R_drewN | apply Kd.R_drew)); exact HO225.out) hb); have n2_ := Aside0.mk (below_step (by repeat (first | (with_reducible first | exact HB.out | apply below_alloc | apply pw_below_drewN | apply below_drew1) | exact HB.out)) hb); clear HO220; clear HO225; clear HB; have HO220 := n0_; have HO225 := n1_; have HB := n2_; clear n0_ n1_ n2_; (try clear hb); (try clear hb2); (try clear hk); (try clear hi)))
     go_ret2
     exact ⟨_, by first | rfl | (simp [errW_none, errW_some] <;> rfl) | (simp [*, errW_none, errW_some] <;> rfl), by (with_reducible repeat (first | apply Kd.R_alloc | apply Kd.R_drewN | apply Kd.R_drew)); exact Kd.R_mono HO225.out (fun _ hk => trivial), by repeat (first | (with_reducible first | exact HB.out | apply below_alloc | apply pw_below_drewN | apply below_drew1) | exact HB.out)⟩
    ·rw [if_neg c22] at H
     have c22b0 : (t226.toList == a0.toList) = false := beq_eq_false_iff_ne.mpr c22
     have c22b1 : (t226.toList != a0.toList) = true := bne_iff_ne.mpr c22
     simp only [Option.some.injEq, Prod.mk.injEq] at H
     obtain ⟨rfl, rfl⟩ := H
     go_enter Tryd.func13, Tryd.ntmps13
     go_wp2_with (first | ((with_reducible refine gate_dst (N := 10) rfl ?_); refine Kd.R_lit Kd.string _ 9 ?hg (N := 10) ?hd (xs := ([(⟨#[]⟩ : ByteArray)] : List ByteArray)) (inner := [.string (⟨#[]⟩ : ByteArray)]) (ok := fun _ => True) (okp := fun _ => True) ?hr ?hp (fun _ hk => hk) trivial (Below.refl _ _) (Nat.le_refl _) (by simp) ?_; (case hd => rfl); (case hg => rfl); (case hr => first | (go_simp; done) | (go_simp; rfl)); (case hp => exact (Reps.one (show Kd.M Kd.string _ _ _ (⟨#[]⟩ : ByteArray) [.string (⟨#[]⟩ : ByteArray)] from rfl) (Reps.none _ _))); intro v219 w28 ho29 hb hg_ hnew_; clear hg_ hnew_; (first | rw [← Ny218.out] at ho29 | (simp only [Int.reduceToNat] at ho29; rw [← Ny218.out] at ho29)); have n0_ := Aside0.mk (Kd.R_lower ho29 (below_size (by repeat (first | (with_reducible first | exact HB.out | apply below_alloc | apply pw_below_drewN | apply below_drew1) | exact HB.out)))); have n1_ := Aside0.mk (below_step (by repeat (first | (with_reducible first | exact HB.out | apply below_alloc | apply pw_below_drewN | apply below_drew1) | exact HB.out)) hb); clear HB; have HO220 := n0_; have HB := n1_; clear n0_ n1_; clear hb ho29) | ((with_reducible refine gate_callee (f := 39) rfl ?_); refine goesL_ (some 14) rfl rfl Tryd.func39 (by kernel_rfl) rfl #[.string a0] rfl (by (try simp only [List.map_toArray, List.map_cons, List.map_nil]); first | done | rfl | (simp only [List.length_drop, List.length_take]; rfl)) ?_; (with_reducible refine (profile_named.calls k a0 t223 _ A19.out).mono ?_); rintro e w30 ⟨v224, rfl, ho0, hb⟩; refine ⟨_, rfl, ?_⟩; have n0_ := Aside0.mk (Kd.R_elder' (by (with_reducible repeat (first | apply Kd.R_alloc | apply Kd.R_drewN | apply Kd.R_drew)); exact HO220.out) (Kd.R_base ho0) hb); have n1_ := Aside0.mk (Kd.R_lower (Kd.R_new' ho0 (Kd.R_lt (by (with_reducible repeat (first | apply Kd.R_alloc | apply Kd.R_drewN | apply Kd.R_drew)); exact HO220.out))) (below_size (by repeat (first | (with_reducible first | exact HB.out | apply below_alloc | apply pw_below_drewN | apply below_drew1) | exact HB.out)))); have n2_ := Aside0.mk (below_step (by repeat (first | (with_reducible first | exact HB.out | apply below_alloc | apply pw_below_drewN | apply below_drew1) | exact HB.out)) hb); clear HO220; clear HB; have HO220 := n0_; have HO225 := n1_; have HB := n2_; clear n0_ n1_ n2_; (try clear hb); (try clear hb2); (try clear hk); (try clear hi); (try clear ho0); obtain ⟨Ao31, co31, eo31⟩ := Kd.R_slice HO225.out; subst eo31) | ((with_reducible refine gate_callee (f := 11) rfl ?_); refine goesL_ (some 17) rfl rfl Tryd.func11 (by kernel_rfl) rfl #[.slice Ao31 t223.length co31] rfl (by (try simp only [List.map_toArray, List.map_cons, List.map_nil]); first | done | rfl | (simp only [List.length_drop, List.length_take]; rfl)) ?_; (with_reducible refine (profile_Write.calls k _ _ t223 t226 t227 _ ?side1 ?side2 A20.out).mono ?_); (case side1 => repeat (first | exact (Kd.R_reads' HO225.out).2.2 | (with_reducible refine Kd.C_alloc ?_ _) | (with_reducible refine Kd.C_drewN ?_ _) | (with_reducible refine Kd.C_drew ?_))); (case side2 => exact (Kd.R_reads' HO225.out).2.1); rintro e w32 ⟨rfl, hb⟩; refine ⟨_, rfl, ?_⟩; have n0_ := Aside0.mk (Kd.R_below (by (with_reducible repeat (first | apply Kd.R_alloc | apply Kd.R_drewN | apply Kd.R_drew)); exact HO220.out) hb); have n1_ := Aside0.mk (Kd.R_below (by (with_reducible repeat (first | apply Kd.R_alloc | apply Kd.R_drewN | apply Kd.R_drew)); exact HO225.out) hb); have n2_ := Aside0.mk (below_step (by repeat (first | (with_reducible first | exact HB.out | apply below_alloc | apply pw_below_drewN | apply below_drew1) | exact HB.out)) hb); clear HO220; clear HO225; clear HB; have HO220 := n0_; have HO225 := n1_; have HB := n2_; clear n0_ n1_ n2_; (try clear hb); (try clear hb2); (try clear hk); (try clear hi)))
     go_ret2
     exact ⟨_, by first | rfl | (simp [errW_none, errW_some] <;> rfl) | (simp [*, errW_none, errW_some] <;> rfl), by first | exact Kd.R_nil _ _ _ _ _ | exact Kd.N_nil _ _ _ _ _ | exact Kd.V_nil _ _ _ _ _ | exact Kd.Q_nil _ _ _ _ _ | exact Kd.S_nil _ _ _ _ _, by repeat (first | (with_reducible first | exact HB.out | apply below_alloc | apply pw_below_drewN | apply below_drew1) | exact HB.out)⟩
   ·rw [if_neg c21] at H
    have c21b0 : (t227 == 0) = false := beq_eq_false_iff_ne.mpr c21
    have c21b1 : (t227 != 0) = true := bne_iff_ne.mpr c21
    simp only [Option.some.injEq, Prod.mk.injEq] at H
    obtain ⟨rfl, rfl⟩ := H
    go_enter Tryd.func13, Tryd.ntmps13
    go_wp2_with (first | ((with_reducible refine gate_dst (N := 10) rfl ?_); refine Kd.R_lit Kd.string _ 9 ?hg (N := 10) ?hd (xs := ([(⟨#[]⟩ : ByteArray)] : List ByteArray)) (inner := [.string (⟨#[]⟩ : ByteArray)]) (ok := fun _ => True) (okp := fun _ => True) ?hr ?hp (fun _ hk => hk) trivial (Below.refl _ _) (Nat.le_refl _) (by simp) ?_; (case hd => rfl); (case hg => rfl); (case hr => first | (go_simp; done) | (go_simp; rfl)); (case hp => exact (Reps.one (show Kd.M Kd.string _ _ _ (⟨#[]⟩ : ByteArray) [.string (⟨#[]⟩ : ByteArray)] from rfl) (Reps.none _ _))); intro v219 w33 ho34 hb hg_ hnew_; clear hg_ hnew_; (first | rw [← Ny218.out] at ho34 | (simp only [Int.reduceToNat] at ho34; rw [← Ny218.out] at ho34)); have n0_ := Aside0.mk (Kd.R_lower ho34 (below_size (by repeat (first | (with_reducible first | exact HB.out | apply below_alloc | apply pw_below_drewN | apply below_drew1) | exact HB.out)))); have n1_ := Aside0.mk (below_step (by repeat (first | (with_reducible first | exact HB.out | apply below_alloc | apply pw_below_drewN | apply below_drew1) | exact HB.out)) hb); clear HB; have HO220 := n0_; have HB := n1_; clear n0_ n1_; clear hb ho34) | ((with_reducible refine gate_callee (f := 39) rfl ?_); refine goesL_ (some 14) rfl rfl Tryd.func39 (by kernel_rfl) rfl #[.string a0] rfl (by (try simp only [List.map_toArray, List.map_cons, List.map_nil]); first | done | rfl | (simp only [List.length_drop, List.length_take]; rfl)) ?_; (with_reducible refine (profile_named.calls k a0 t223 _ A19.out).mono ?_); rintro e w35 ⟨v224, rfl, ho0, hb⟩; refine ⟨_, rfl, ?_⟩; have n0_ := Aside0.mk (Kd.R_elder' (by (with_reducible repeat (first | apply Kd.R_alloc | apply Kd.R_drewN | apply Kd.R_drew)); exact HO220.out) (Kd.R_base ho0) hb); have n1_ := Aside0.mk (Kd.R_lower (Kd.R_new' ho0 (Kd.R_lt (by (with_reducible repeat (first | apply Kd.R_alloc | apply Kd.R_drewN | apply Kd.R_drew)); exact HO220.out))) (below_size (by repeat (first | (with_reducible first | exact HB.out | apply below_alloc | apply pw_below_drewN | apply below_drew1) | exact HB.out)))); have n2_ := Aside0.mk (below_step (by repeat (first | (with_reducible first | exact HB.out | apply below_alloc | apply pw_below_drewN | apply below_drew1) | exact HB.out)) hb); clear HO220; clear HB; have HO220 := n0_; have HO225 := n1_; have HB := n2_; clear n0_ n1_ n2_; (try clear hb); (try clear hb2); (try clear hk); (try clear hi); (try clear ho0); obtain ⟨Ao36, co36, eo36⟩ := Kd.R_slice HO225.out; subst eo36) | ((with_reducible refine gate_callee (f := 11) rfl ?_); refine goesL_ (some 17) rfl rfl Tryd.func11 (by kernel_rfl) rfl #[.slice Ao36 t223.length co36] rfl (by (try simp only [List.map_toArray, List.map_cons, List.map_nil]); first | done | rfl | (simp only [List.length_drop, List.length_take]; rfl)) ?_; (with_reducible refine (profile_Write.calls k _ _ t223 t226 t227 _ ?side1 ?side2 A20.out).mono ?_); (case side1 => repeat (first | exact (Kd.R_reads' HO225.out).2.2 | (with_reducible refine Kd.C_alloc ?_ _) | (with_reducible refine Kd.C_drewN ?_ _) | (with_reducible refine Kd.C_drew ?_))); (case side2 => exact (Kd.R_reads' HO225.out).2.1); rintro e w37 ⟨rfl, hb⟩; refine ⟨_, rfl, ?_⟩; have n0_ := Aside0.mk (Kd.R_below (by (with_reducible repeat (first | apply Kd.R_alloc | apply Kd.R_drewN | apply Kd.R_drew)); exact HO220.out) hb); have n1_ := Aside0.mk (Kd.R_below (by (with_reducible repeat (first | apply Kd.R_alloc | apply Kd.R_drewN | apply Kd.R_drew)); exact HO225.out) hb); have n2_ := Aside0.mk (below_step (by repeat (first | (with_reducible first | exact HB.out | apply below_alloc | apply pw_below_drewN | apply below_drew1) | exact HB.out)) hb); clear HO220; clear HO225; clear HB; have HO220 := n0_; have HO225 := n1_; have HB := n2_; clear n0_ n1_ n2_; (try clear hb); (try clear hb2); (try clear hk); (try clear hi)))
    go_ret2
    exact ⟨_, by first | rfl | (simp [errW_none, errW_some] <;> rfl) | (simp [*, errW_none, errW_some] <;> rfl), by first | exact Kd.R_nil _ _ _ _ _ | exact Kd.N_nil _ _ _ _ _ | exact Kd.V_nil _ _ _ _ _ | exact Kd.Q_nil _ _ _ _ _ | exact Kd.S_nil _ _ _ _ _, by repeat (first | (with_reducible first | exact HB.out | apply below_alloc | apply pw_below_drewN | apply below_drew1) | exact HB.out)⟩
end Go.Proofs.YtehfogjibhnabaaDoor.PAll
