/- Layer 17: shown, the law's own: its walk. -/
import Derived.Test.YtehfogjibhnabaaDoorPsPAllx0
import Derived.Test.YtehfogjibhnabaaDoorPsPAlly11
import Derived.Test.YtehfogjibhnabaaDoorPsFreshW
import Derived.Test.YtehfogjibhnabaaDoorPsPAlly12
import Derived.Test.YtehfogjibhnabaaDoorPsRowKit
import Derived.WalkKit
import Derived.BigQuiet
import Derived.Outline
namespace Go.Proofs.YtehfogjibhnabaaDoor.PAll
open Go.RowKit Go.Proofs.YtehfogjibhnabaaDoorW.PrintWords Go.Proofs.YtehfogjibhnabaaDoorW.PrintLast Go.Proofs.YtehfogjibhnabaaDoorW.PrintMore
open Go.Proofs.YtehfogjibhnabaaDoor.Sp
theorem bt_head {l : Str} (h : 0 < l.length) : (bt (mk l) 0 == 33) = decide (l.head? = some 33) := by
 have h1 := bt_get (mk l) 0 (by rw [mk_size]; exact h)
 rcases l with _ | ⟨c, r⟩
 ·simp at h
 ·have h2 : bt (mk (c :: r)) 0 = (c.toNat : Int) := by
   rw [show ((0 : Nat) : Int) = 0 from rfl] at h1
   rw [h1]
   congr 1
  rw [h2]
  show _ = decide (some c = some 33)
  by_cases hc : c = 33
  ·subst hc; rfl
  ·have : ¬ c.toNat = 33 := fun e => hc (UInt8.toNat_inj.1 e)
   simp [hc]
   omega
theorem deep_step {a : ByteArray} {j : Nat} (h : j < a.size) (f : Bool) {g : Bool} (hg : (bt a (j : Int) == 47) = g) : (f || decide ((47 : UInt8) ∈ (bs a).drop j)) = ((f || g) || decide ((47 : UInt8) ∈ (bs a).drop (j + 1))) := by
 have h1 := bt_eq a j h 47 47 rfl
 rw [bs_drop a j h, ← hg]
 by_cases hc : bt a (j : Int) = 47
 ·simp [hc, h1.1 hc]
 ·have h2 : (bs a)[j]'(by rw [bs_size]; exact h) ≠ 47 := fun e => hc (h1.2 e)
  have h3 : ¬ (47 : UInt8) = (bs a)[j]'(by rw [bs_size]; exact h) := fun e => h2 e.symm
  have h4 : (47 : UInt8) ∈ (bs a)[j]'(by rw [bs_size]; exact h) :: (bs a).drop (j + 1) ↔ (47 : UInt8) ∈ (bs a).drop (j + 1) := by rw [List.mem_cons]; exact or_iff_right h3
  rw [decide_eq_decide.2 h4, beq_eq_false_iff_ne.2 hc, Bool.or_false]
set_option maxHeartbeats 4000000 in
set_option maxRecDepth 100000 in
theorem copselaw17_shown.calls (k : Nat) (a0 : ByteArray) (a1 : ByteArray) (r : Bool) (w : World) (h : copselaw17_shown.f k a0 a1 = some r) :
  Calls Tryd.prog 18 #[.string a0, .string a1] w fun e w' => e = .returned (.bool r) ∧ Below w.heap.size w w' := by
 unfold copselaw17_shown.f at h
 split at h
 ·rename_i hh
  obtain ⟨hs, ⟨hpp, hp⟩, hok⟩ := hh
  obtain rfl := Option.some.inj h
  obtain ⟨kl, hkl⟩ := Ev.rounds (lines17 a0 (by omega))
  clear h
  obtain ⟨R, hRS⟩ : ∃ R, shownS (bs a1) (cut10 [] (bs a0)) = R := ⟨_, rfl⟩
  rw [hRS]
  go_enter Tryd.func18, Tryd.ntmps18
  go_wp2_with fail
  refine (copseref17_Lines.calls kl a0 _ _ hkl).mono ?_
  rintro e w1 ⟨v0, rfl, r1, b1⟩
  obtain ⟨A, c, rfl⟩ := Kd.R_slice r1
  have RR := Aside0.mk (Kd.R_reads' r1).2.2
  have B1 := Aside0.mk b1
  have LB : (cut10 [] (bs a0)).length ≤ 65537 := by have := cut10_length (bs a0) []; rw [bs_size] at this; omega
  have LP : ∀ l ∈ cut10 [] (bs a0), l.length ≤ 65536 := fun l hl => by have := cut10_piece (bs a0) [] l hl; rw [bs_size] at this; simp at this; omega
  clear r1 b1 hkl
  rw [List.length_map] at RR ⊢
  generalize cut10 [] (bs a0) = L at RR LB LP hok hRS ⊢
  have RS := Aside0.mk hRS
  clear hRS
  have OK := Aside0.mk (List.all_eq_true.1 hok)
  have LPA := Aside0.mk LP
  clear hok LP
  go_wp2
  go_loopg [6, 7] L.length (fun gg s6 s7 wr => ∃ (i : Nat) (b : Bool), s7 = .int .i64 i ∧ i ≤ L.length ∧ L.length - i ≤ gg ∧ s6 = .bool b ∧ Aside0 ((L.drop i).foldl (stepW (bs a1)) b = shownS (bs a1) L) ∧ Aside0 (Below w1.heap.size w1 wr))
  case atStart => exact ⟨0, false, by first | rfl | go_num, by omega, by omega, rfl, ⟨rfl⟩, ⟨Below.refl _ _⟩⟩
  case round =>
   obtain ⟨i, b, rfl, hi, hg, rfl, FO, BX⟩ := hrel
   by_cases hlt : i < L.length
   ·have hltz : (i : Int) < (L.length : Int) := by omega
    obtain ⟨ad, rfl, hcell⟩ := Kd.at_string (Kd.C_below RR.out BX.out) (i : Int) (by omega) (by simpa using hltz)
    rw [Int.toNat_natCast] at hcell
    have hx : rdOf ByteArray.empty (L.map mk) (i : Int) = mk L[i] := by simp [rdOf, List.getD_eq_getElem?_getD, hlt]
    rw [hx] at hcell
    have hok := OK.out L[i] (List.getElem_mem hlt)
    have hll := LPA.out L[i] (List.getElem_mem hlt)
    have FO2 : Aside0 ((L.drop (i + 1)).foldl (stepW (bs a1)) (stepW (bs a1) b L[i]) = shownS (bs a1) L) := ⟨by have := FO.out; rw [List.drop_eq_getElem_cons hlt, List.foldl_cons] at this; exact this⟩
    generalize L[i] = l at hcell hok hll FO2
    clear FO hx
    have hsz : (mk l).size = l.length := mk_size l
    have htl : (mk l).toList = l := by rw [toList_bs, bs_mk]
    by_cases k0 : l = [47, 42]
    ·have e1 : ((mk l).toList == ([47, 42] : List UInt8)) = true := by rw [htl, k0]; rfl
     have ST : Aside0 (stepW (bs a1) b l = true) := ⟨by unfold stepW; rw [if_pos k0]⟩
     clear htl k0
     go_wp2
     go_roundg (L.length - (i + 1))
     case measure => omega
     case rel => exact ⟨i + 1, true, by go_num, by omega, by omega, rfl, ⟨by rw [← ST.out]; exact FO2.out⟩, BX⟩
    ·have e1 : ((mk l).toList == ([47, 42] : List UInt8)) = false := by rw [htl]; exact beq_eq_false_iff_ne.2 k0
     by_cases k1 : l = []
     ·have e2 : (mk l).toList.isEmpty = true := by rw [htl, k1]; rfl
      have ST : Aside0 (stepW (bs a1) b l = b) := ⟨by rw [k1, step_nil]⟩
      clear htl k0 k1
      go_wp2
      go_roundg (L.length - (i + 1))
      case measure => omega
      case rel => exact ⟨i + 1, b, by go_num, by omega, by omega, rfl, ⟨by rw [← ST.out]; rw [ST.out, ← ST.out]; exact FO2.out⟩, BX⟩
     ·have e2 : (mk l).toList.isEmpty = false := by rw [htl]; simpa using k1
      have h0 : 0 < l.length := List.length_pos_iff.2 k1
      obtain ⟨ch, q, rfl⟩ : ∃ ch q, l = ch :: q := by
       rcases l with _ | ⟨ch, q⟩
       ·exact absurd rfl k1
       ·exact ⟨ch, q, rfl⟩
      have hx9 : ∀ h : 0 < (mk (ch :: q)).size, (((mk (ch :: q))[0]'h).toNat : Int) = bt (mk (ch :: q)) 0 := bt_at (mk (ch :: q)) 0
      have hp0 : (0 : Int) < ((mk (ch :: q)).size : Int) := by omega
      have hp1 : 0 < (mk (ch :: q)).size := by omega
      have hbt := bt_head h0
      rw [List.length_cons] at hsz hll
      by_cases nt : ch = 33
      ·subst nt
       have e3 : (bt (mk (33 :: q)) 0 == 33) = true := by rw [hbt]; rfl
       have e4 : bt (mk (33 :: q)) 0 = 33 := by simpa using e3
       clear hbt
       have hE1 : (mk (33 :: q)).extract 1 (q.length + 1) = mk q := by rw [extract_mk, bs_mk, ← List.length_cons, List.take_length]; rfl
       unfold okW at hok
       rw [decide_eq_false k0, decide_eq_false k1, if_pos (show (33 :: q : Str).head? = some 33 from rfl)] at hok
       simp only [Bool.false_or, Bool.and_eq_true, Bool.or_eq_true, decide_eq_true_eq, List.drop_succ_cons, List.drop_zero] at hok
       obtain ⟨n, hn⟩ : ∃ n, q.length = n + 2 := ⟨q.length - 2, by omega⟩
       have hq : (mk q).size = n + 2 := by rw [mk_size]; exact hn
       have hw1 : wrap64 ((n : Int) + 2 - 1) = (n : Int) + 1 := by rw [wrap_add (by omega) (by omega)]; omega
       have hE2 : (mk q).extract 1 (n + 1) = mk (midS q) := by rw [extract_mk, bs_mk]; unfold midS; rw [hn]; rfl
       have hE1n : (mk (33 :: q)).extract 1 (n + 2 + 1) = mk q := by rw [← hn]; exact hE1
       have hw2 : (n : Int) + 2 - 1 = (n : Int) + 1 := by omega
       have hw3 : ((n : Int) + 1).toNat = n + 1 := by omega
       have hi1 : (1 : Int) ≤ (n : Int) + 1 := by omega
       have hi2 : (n : Int) + 1 ≤ (n : Int) + 2 := by omega
       clear htl
       by_cases k2 : midS q = [42]
       ·have e5 : ((mk (midS q)).toList == ([42] : List UInt8)) = true := by rw [toList_bs, bs_mk, k2]; rfl
        have HW : Aside0 (dirW (33 :: q) = []) := ⟨by unfold dirW; rw [if_pos (show (33 :: q : Str).head? = some 33 from rfl)]; simp [k2]⟩
        have hz0 : ¬ (a1.size : Int) ≤ 0 := by omega
        have hz1 : decide ((a1.size : Int) ≤ 0) = false := decide_eq_false hz0
        have hz2 : (0 : Int) ≤ (a1.size : Int) := by omega
        have hS0 : a1.extract 0 0 = (⟨#[]⟩ : ByteArray) := by rw [extract_mk]; rfl
        have ST : Aside0 (stepW (bs a1) b (33 :: q) = if (47 : UInt8) ∈ bs a1 then false else b) := ⟨by
         unfold stepW
         rw [if_neg k0, if_neg k1, HW.out, if_pos ⟨by rw [bs_size]; exact hpp, rfl⟩, if_pos (show (33 :: q : Str).head? = some 33 from rfl)]
         rfl⟩
        clear k2 hok
        go_wp2
        rotate_left
        ·go_loopg [11, 12] a1.size (fun gg s11 s12 wq => ∃ (j : Nat) (f : Bool), s12 = .int .i64 j ∧ s11 = .bool f ∧ j ≤ a1.size ∧ a1.size - j ≤ gg ∧ Aside0 ((f || decide ((47 : UInt8) ∈ (bs a1).drop j)) = decide ((47 : UInt8) ∈ (bs a1))) ∧ Aside0 (Below w1.heap.size w1 wq))
         case atStart => exact ⟨0, false, by first | rfl | go_num, rfl, by omega, by omega, ⟨by simp⟩, BX⟩
         case round =>
          obtain ⟨j, f, rfl, rfl, hj, hgj, FJ, BJ⟩ := hrel
          by_cases hjl : j < a1.size
          ·have hjz : (j : Int) < (a1.size : Int) := by omega
           have hxj : ∀ h : j < a1.size, ((a1[j]'h).toNat : Int) = bt a1 (j : Int) := bt_at a1 j
           have DS := Aside0.mk (@deep_step a1 j hjl f)
           by_cases hc : bt a1 (j : Int) = 47
           ·have e7 : (bt a1 (j : Int) == 47) = true := by rw [hc]; rfl
            have FN : Aside0 ((true || decide ((47 : UInt8) ∈ (bs a1).drop (j + 1))) = decide ((47 : UInt8) ∈ (bs a1))) := ⟨by rw [← FJ.out, DS.out e7]; simp⟩
            have HC := Aside0.mk hc
            clear hc
            cases f <;>
            ·go_wp2
             go_roundg (a1.size - (j + 1))
             case measure => omega
             case rel => exact ⟨j + 1, true, by go_num, rfl, by omega, by omega, FN, BJ⟩
           ·have e7 : (bt a1 (j : Int) == 47) = false := beq_eq_false_iff_ne.2 hc
            have FN : Aside0 ((f || decide ((47 : UInt8) ∈ (bs a1).drop (j + 1))) = decide ((47 : UInt8) ∈ (bs a1))) := ⟨by rw [← FJ.out, DS.out e7]; simp⟩
            have HC := Aside0.mk hc
            clear hc
            cases f <;>
            ·go_wp2
             go_roundg (a1.size - (j + 1))
             case measure => omega
             case rel => exact ⟨j + 1, _, by go_num, rfl, by omega, by omega, FN, BJ⟩
          ·have hjz : ¬ (j : Int) < (a1.size : Int) := by omega
           obtain rfl : j = a1.size := by omega
           have FF : Aside0 (f = decide ((47 : UInt8) ∈ (bs a1))) := ⟨by have := FJ.out; rw [← bs_size, List.drop_length] at this; simpa using this⟩
           have HI := Aside0.mk hg
           cases f
           ·go_wp2
            go_roundg (L.length - (i + 1))
            case measure => omega
            case rel => exact ⟨i + 1, b, by go_num, by omega, by omega, rfl, ⟨by rw [ST.out, if_neg (of_decide_eq_false FF.out.symm)] at FO2; exact FO2.out⟩, BJ⟩
           ·go_wp2
            go_roundg (L.length - (i + 1))
            case measure => omega
            case rel => exact ⟨i + 1, false, by go_num, by omega, by omega, rfl, ⟨by rw [ST.out, if_pos (of_decide_eq_true FF.out.symm)] at FO2; exact FO2.out⟩, BJ⟩
        ·exfalso; first | omega | (simp_all; done)
       ·have e5 : ((mk (midS q)).toList == ([42] : List UInt8)) = false := by rw [toList_bs, bs_mk]; exact beq_eq_false_iff_ne.2 k2
        have hm2 : 2 ≤ (midS q).length := hok.2.resolve_left k2
        obtain ⟨m, hm⟩ : ∃ m, (midS q).length = m + 2 := ⟨(midS q).length - 2, by omega⟩
        obtain ⟨D, hD⟩ : ∃ D : ByteArray, D = mk ((midS q).take m) ++ ⟨#[47]⟩ := ⟨_, rfl⟩
        have DS : Aside0 (bs D = (midS q).take m ++ [47]) := ⟨by rw [hD]; simp [bs, mk]⟩
        have HW : Aside0 (dirW (33 :: q) = (midS q).take m ++ [47]) := ⟨by
         unfold dirW
         rw [if_pos (show (33 :: q : Str).head? = some 33 from rfl), List.drop_succ_cons, List.drop_zero, if_neg k2, hm]
         rfl⟩
        have HD : Aside0 ((33 :: q : Str).head? = some 33) := ⟨rfl⟩
        have K0 := Aside0.mk k0
        have K1 := Aside0.mk k1
        have hms : (mk (midS q)).size = m + 2 := by rw [mk_size]; exact hm
        have hwm : (m : Int) + 2 - 2 = (m : Int) := by omega
        have hm0 : (0 : Int) ≤ (m : Int) := by omega
        have hm1 : (m : Int) ≤ (m : Int) + 2 := by omega
        have hE3 : (mk (midS q)).extract 0 m = mk ((midS q).take m) := by rw [extract_mk, bs_mk]; rfl
        have hcs : (mk ((midS q).take m)).size = m := by rw [mk_size, List.length_take]; omega
        have hE4 : mk ((midS q).take m) ++ (⟨#[47]⟩ : ByteArray) = D := hD.symm
        have hDl : D.size = m + 1 := by rw [hD, ByteArray.size_append, hcs]; rfl
        have HDL := Aside0.mk hDl
        have hml : m ≤ 65536 := by
         have : (midS q).length ≤ q.length := by unfold midS; simp; omega
         omega
        clear hD k2 hok k0 k1 hm hDl
        by_cases k3 : D.size < a1.size
        ·have hl1 : ¬ (a1.size : Int) ≤ (D.size : Int) := by omega
         have hl2 : decide ((a1.size : Int) ≤ (D.size : Int)) = false := decide_eq_false hl1
         have hl3 : (D.size : Int) ≤ (a1.size : Int) := by omega
         by_cases k4 : a1.extract 0 D.size = D
         ·have e6 : ((a1.extract 0 D.size).toList == D.toList) = true := by rw [k4]; exact beq_self_eq_true _
          have ST : Aside0 (stepW (bs a1) b (33 :: q) = if (47 : UInt8) ∈ (bs a1).drop D.size then false else b) := ⟨by
           unfold stepW
           rw [if_neg K0.out, if_neg K1.out, HW.out, ← DS.out, if_pos ⟨by rw [bs_size, bs_size]; exact k3, by rw [bs_size]; conv => (rhs; rw [← k4, extract_mk, bs_mk]); rw [List.drop_zero]⟩, if_pos HD.out, bs_size]⟩
          clear k4
          go_wp2
          go_loopg [11, 12] a1.size (fun gg s11 s12 wq => ∃ (j : Nat) (f : Bool), s12 = .int .i64 j ∧ s11 = .bool f ∧ j ≤ a1.size ∧ a1.size - j ≤ gg ∧ Aside0 ((f || decide ((47 : UInt8) ∈ (bs a1).drop j)) = decide ((47 : UInt8) ∈ ((bs a1).drop D.size))) ∧ Aside0 (Below w1.heap.size w1 wq))
          case atStart => exact ⟨D.size, false, by first | rfl | go_num, rfl, by omega, by omega, ⟨by simp⟩, BX⟩
          case round =>
           obtain ⟨j, f, rfl, rfl, hj, hgj, FJ, BJ⟩ := hrel
           by_cases hjl : j < a1.size
           ·have hjz : (j : Int) < (a1.size : Int) := by omega
            have hxj : ∀ h : j < a1.size, ((a1[j]'h).toNat : Int) = bt a1 (j : Int) := bt_at a1 j
            have DS := Aside0.mk (@deep_step a1 j hjl f)
            by_cases hc : bt a1 (j : Int) = 47
            ·have e7 : (bt a1 (j : Int) == 47) = true := by rw [hc]; rfl
             have FN : Aside0 ((true || decide ((47 : UInt8) ∈ (bs a1).drop (j + 1))) = decide ((47 : UInt8) ∈ ((bs a1).drop D.size))) := ⟨by rw [← FJ.out, DS.out e7]; simp⟩
             have HC := Aside0.mk hc
             clear hc
             cases f <;>
             ·go_wp2
              go_roundg (a1.size - (j + 1))
              case measure => omega
              case rel => exact ⟨j + 1, true, by go_num, rfl, by omega, by omega, FN, BJ⟩
            ·have e7 : (bt a1 (j : Int) == 47) = false := beq_eq_false_iff_ne.2 hc
             have FN : Aside0 ((f || decide ((47 : UInt8) ∈ (bs a1).drop (j + 1))) = decide ((47 : UInt8) ∈ ((bs a1).drop D.size))) := ⟨by rw [← FJ.out, DS.out e7]; simp⟩
             have HC := Aside0.mk hc
             clear hc
             cases f <;>
             ·go_wp2
              go_roundg (a1.size - (j + 1))
              case measure => omega
              case rel => exact ⟨j + 1, _, by go_num, rfl, by omega, by omega, FN, BJ⟩
           ·have hjz : ¬ (j : Int) < (a1.size : Int) := by omega
            obtain rfl : j = a1.size := by omega
            have FF : Aside0 (f = decide ((47 : UInt8) ∈ ((bs a1).drop D.size))) := ⟨by have := FJ.out; rw [← bs_size, List.drop_length] at this; simpa using this⟩
            have HI := Aside0.mk hg
            cases f
            ·go_wp2
             go_roundg (L.length - (i + 1))
             case measure => omega
             case rel => exact ⟨i + 1, b, by go_num, by omega, by omega, rfl, ⟨by rw [ST.out, if_neg (of_decide_eq_false FF.out.symm)] at FO2; exact FO2.out⟩, BJ⟩
            ·go_wp2
             go_roundg (L.length - (i + 1))
             case measure => omega
             case rel => exact ⟨i + 1, false, by go_num, by omega, by omega, rfl, ⟨by rw [ST.out, if_pos (of_decide_eq_true FF.out.symm)] at FO2; exact FO2.out⟩, BJ⟩
         ·have e6 : ((a1.extract 0 D.size).toList == D.toList) = false := by
           rw [beq_eq_false_iff_ne]
           intro e
           exact k4 (bs_inj (by rw [← toList_bs, ← toList_bs]; exact e))
          have ST : Aside0 (stepW (bs a1) b (33 :: q) = b) := ⟨by
           unfold stepW
           rw [if_neg K0.out, if_neg K1.out, HW.out, ← DS.out, if_neg]
           rintro ⟨_, h2⟩
           apply k4
           rw [extract_mk]
           apply bs_inj
           rw [bs_mk, ← bs_size D]
           exact h2⟩
          clear k4
          go_wp2
          go_roundg (L.length - (i + 1))
          case measure => omega
          case rel => exact ⟨i + 1, b, by go_num, by omega, by omega, rfl, ⟨by rw [ST.out] at FO2; exact FO2.out⟩, BX⟩
        ·have hl1 : (a1.size : Int) ≤ (D.size : Int) := by omega
         have hl2 : decide ((a1.size : Int) ≤ (D.size : Int)) = true := decide_eq_true hl1
         have ST : Aside0 (stepW (bs a1) b (33 :: q) = b) := ⟨by
          unfold stepW
          rw [if_neg K0.out, if_neg K1.out, HW.out, ← DS.out, if_neg]
          rintro ⟨h1, _⟩
          rw [bs_size, bs_size] at h1
          exact k3 h1⟩
         go_wp2
         go_roundg (L.length - (i + 1))
         case measure => omega
         case rel => exact ⟨i + 1, b, by go_num, by omega, by omega, rfl, ⟨by rw [ST.out] at FO2; exact FO2.out⟩, BX⟩
      ·have e3 : (bt (mk (ch :: q)) 0 == 33) = false := by rw [hbt]; exact decide_eq_false (by simpa using nt)
       have e4 : ¬ bt (mk (ch :: q)) 0 = 33 := by simpa using e3
       clear hbt
       unfold okW at hok
       rw [decide_eq_false k0, decide_eq_false k1, if_neg (show ¬ (ch :: q : Str).head? = some 33 by simpa using nt)] at hok
       simp only [Bool.false_or, decide_eq_true_eq, List.length_cons] at hok
       obtain ⟨n, hn⟩ : ∃ n, q.length = n + 1 := ⟨q.length - 1, by omega⟩
       obtain ⟨x, hx⟩ : ∃ x : Str, x = midS (ch :: q) := ⟨_, rfl⟩
       have hxl : x.length = n := by rw [hx]; unfold midS; simp; omega
       have hE2 : (mk (ch :: q)).extract 1 (n + 1) = mk x := by rw [extract_mk, bs_mk, hx]; unfold midS; rw [List.length_cons, hn]; rfl
       have hq : (mk (ch :: q)).size = n + 2 := by rw [mk_size, List.length_cons, hn]
       have hw2 : (n : Int) + 2 - 1 = (n : Int) + 1 := by omega
       have hw3 : ((n : Int) + 1).toNat = n + 1 := by omega
       have hi1 : (1 : Int) ≤ (n : Int) + 1 := by omega
       have hi2 : (n : Int) + 1 ≤ (n : Int) + 2 := by omega
       obtain ⟨D, hD⟩ : ∃ D : ByteArray, D = mk x ++ ⟨#[47]⟩ := ⟨_, rfl⟩
       have DS : Aside0 (bs D = x ++ [47]) := ⟨by rw [hD]; simp [bs, mk]⟩
       have HD : Aside0 (¬ (ch :: q : Str).head? = some 33) := ⟨by simpa using nt⟩
       have HW : Aside0 (dirW (ch :: q) = x ++ [47]) := ⟨by unfold dirW; rw [if_neg HD.out, hx]⟩
       have K0 := Aside0.mk k0
       have K1 := Aside0.mk k1
       have hcs : (mk x).size = n := by rw [mk_size]; exact hxl
       have hE4 : mk x ++ (⟨#[47]⟩ : ByteArray) = D := hD.symm
       have hDl : D.size = n + 1 := by rw [hD, ByteArray.size_append, hcs]; rfl
       have HDL := Aside0.mk hDl
       clear hD hx hok k0 k1 htl nt hDl hsz
       by_cases k3 : D.size < a1.size
       ·have hl1 : ¬ (a1.size : Int) ≤ (D.size : Int) := by omega
        have hl2 : decide ((a1.size : Int) ≤ (D.size : Int)) = false := decide_eq_false hl1
        have hl3 : (D.size : Int) ≤ (a1.size : Int) := by omega
        by_cases k4 : a1.extract 0 D.size = D
        ·have e6 : ((a1.extract 0 D.size).toList == D.toList) = true := by rw [k4]; exact beq_self_eq_true _
         have ST : Aside0 (stepW (bs a1) b (ch :: q) = true) := ⟨by
          unfold stepW
          rw [if_neg K0.out, if_neg K1.out, HW.out, ← DS.out, if_pos ⟨by rw [bs_size, bs_size]; exact k3, by rw [bs_size]; conv => (rhs; rw [← k4, extract_mk, bs_mk]); rw [List.drop_zero]⟩, if_neg HD.out]⟩
         clear k4
         go_wp2
         go_loopg [11, 12] a1.size (fun gg s11 s12 wq => ∃ (j : Nat) (f : Bool), s12 = .int .i64 j ∧ s11 = .bool f ∧ j ≤ a1.size ∧ a1.size - j ≤ gg ∧ Aside0 ((f || decide ((47 : UInt8) ∈ (bs a1).drop j)) = decide ((47 : UInt8) ∈ ((bs a1).drop D.size))) ∧ Aside0 (Below w1.heap.size w1 wq))
         case atStart => exact ⟨D.size, false, by first | rfl | go_num, rfl, by omega, by omega, ⟨by simp⟩, BX⟩
         case round =>
          obtain ⟨j, f, rfl, rfl, hj, hgj, FJ, BJ⟩ := hrel
          by_cases hjl : j < a1.size
          ·have hjz : (j : Int) < (a1.size : Int) := by omega
           have hxj : ∀ h : j < a1.size, ((a1[j]'h).toNat : Int) = bt a1 (j : Int) := bt_at a1 j
           have DS := Aside0.mk (@deep_step a1 j hjl f)
           by_cases hc : bt a1 (j : Int) = 47
           ·have e7 : (bt a1 (j : Int) == 47) = true := by rw [hc]; rfl
            have FN : Aside0 ((true || decide ((47 : UInt8) ∈ (bs a1).drop (j + 1))) = decide ((47 : UInt8) ∈ ((bs a1).drop D.size))) := ⟨by rw [← FJ.out, DS.out e7]; simp⟩
            have HC := Aside0.mk hc
            clear hc
            cases f <;>
            ·go_wp2
             go_roundg (a1.size - (j + 1))
             case measure => omega
             case rel => exact ⟨j + 1, true, by go_num, rfl, by omega, by omega, FN, BJ⟩
           ·have e7 : (bt a1 (j : Int) == 47) = false := beq_eq_false_iff_ne.2 hc
            have FN : Aside0 ((f || decide ((47 : UInt8) ∈ (bs a1).drop (j + 1))) = decide ((47 : UInt8) ∈ ((bs a1).drop D.size))) := ⟨by rw [← FJ.out, DS.out e7]; simp⟩
            have HC := Aside0.mk hc
            clear hc
            cases f <;>
            ·go_wp2
             go_roundg (a1.size - (j + 1))
             case measure => omega
             case rel => exact ⟨j + 1, _, by go_num, rfl, by omega, by omega, FN, BJ⟩
          ·have hjz : ¬ (j : Int) < (a1.size : Int) := by omega
           obtain rfl : j = a1.size := by omega
           have FF : Aside0 (f = decide ((47 : UInt8) ∈ ((bs a1).drop D.size))) := ⟨by have := FJ.out; rw [← bs_size, List.drop_length] at this; simpa using this⟩
           have HI := Aside0.mk hg
           cases f <;>
           ·go_wp2
            go_roundg (L.length - (i + 1))
            case measure => omega
            case rel => exact ⟨i + 1, true, by go_num, by omega, by omega, rfl, ⟨by rw [ST.out] at FO2; exact FO2.out⟩, BJ⟩
        ·have e6 : ((a1.extract 0 D.size).toList == D.toList) = false := by
          rw [beq_eq_false_iff_ne]
          intro e
          exact k4 (bs_inj (by rw [← toList_bs, ← toList_bs]; exact e))
         have ST : Aside0 (stepW (bs a1) b (ch :: q) = b) := ⟨by
          unfold stepW
          rw [if_neg K0.out, if_neg K1.out, HW.out, ← DS.out, if_neg]
          rintro ⟨_, h2⟩
          apply k4
          rw [extract_mk]
          apply bs_inj
          rw [bs_mk, ← bs_size D]
          exact h2⟩
         clear k4
         go_wp2
         go_roundg (L.length - (i + 1))
         case measure => omega
         case rel => exact ⟨i + 1, b, by go_num, by omega, by omega, rfl, ⟨by rw [ST.out] at FO2; exact FO2.out⟩, BX⟩
       ·have hl1 : (a1.size : Int) ≤ (D.size : Int) := by omega
        have hl2 : decide ((a1.size : Int) ≤ (D.size : Int)) = true := decide_eq_true hl1
        have ST : Aside0 (stepW (bs a1) b (ch :: q) = b) := ⟨by
         unfold stepW
         rw [if_neg K0.out, if_neg K1.out, HW.out, ← DS.out, if_neg]
         rintro ⟨h1, _⟩
         rw [bs_size, bs_size] at h1
         exact k3 h1⟩
        go_wp2
        go_roundg (L.length - (i + 1))
        case measure => omega
        case rel => exact ⟨i + 1, b, by go_num, by omega, by omega, rfl, ⟨by rw [ST.out] at FO2; exact FO2.out⟩, BX⟩
   ·have hltz : ¬ (i : Int) < (L.length : Int) := by omega
    obtain rfl : i = L.length := by omega
    have FF : b = shownS (bs a1) L := by have := FO.out; rw [List.drop_length] at this; exact this
    have FF2 := Aside0.mk FF
    clear FF
    go_wp2
    go_ret
    exact ⟨by rw [← RS.out, ← FF2.out]; rfl, below_then B1.out B1.out.size BX.out⟩
 ·exact absurd h (by simp)
end Go.Proofs.YtehfogjibhnabaaDoor.PAll
