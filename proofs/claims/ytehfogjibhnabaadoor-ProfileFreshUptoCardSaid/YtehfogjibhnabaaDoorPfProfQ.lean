/- The printed contracts of HasSuffix, TrimSuffix, HasPrefix. -/
import Derived.Test.YtehfogjibhnabaaDoorPfPAllx0
import Derived.Test.YtehfogjibhnabaaDoorPfWLast
import Derived.Test.YtehfogjibhnabaaDoorPfPure2
import Derived.Test.YtehfogjibhnabaaDoorPfPAlly11
import Derived.Test.YtehfogjibhnabaaDoorPfHandA
import Derived.Test.YtehfogjibhnabaaDoorPfShelf
import Derived.RangeFuncNested
import Derived.RangeFuncBox
import Derived.RangeFuncBound
import Derived.RangeFuncCalls
import Derived.RangeFuncLeaves
import Derived.Shelf.Abstract
import Derived.Shelf.RegionOpen
import Derived.WalkKit
import Derived.OwnWalkIn
import Derived.TacticsInMore
import Derived.LoopNIn
import Derived.LoopIn
import Derived.RegionIn
import Derived.Sort.LoopGhostIn
import Derived.Sort.QuietIn
import Derived.Maps.AppendAt
import Derived.Test.YtehfogjibhnabaaDoorPfPAlly2
import Derived.Test.YtehfogjibhnabaaDoorPfPAlly3
import Derived.Test.YtehfogjibhnabaaDoorPfPAlly5
import Derived.Test.YtehfogjibhnabaaDoorPfRowKit
import Derived.Shelf.Strings.Builder1
import Derived.Lib.OthersKept
import Derived.BigQuiet
import Derived.Outline
import Derived.Sort.Grow
import Derived.Shelf.SlSortCmp.NoneTotal
namespace Go.Proofs.YtehfogjibhnabaaDoor.PAll
open Go.RowKit Go.Proofs.YtehfogjibhnabaaDoorW.PrintWords Go.Proofs.YtehfogjibhnabaaDoorW.PrintLast Go.Proofs.YtehfogjibhnabaaDoorW.PrintMore
attribute [local go_sem] max2_int min2_int max_two min_two max_three min_three max_four min_four
def stringslite_HasSuffix.f (a0 : ByteArray) (a1 : ByteArray) : Option (Bool) := if (a0.size : Int) ≥ (a1.size : Int) then (if 0 ≤ (wrap64 ((a0.size : Int) - (a1.size : Int))) then (if (wrap64 ((a0.size : Int) - (a1.size : Int))) ≤ (a0.size : Int) then (some ((a0.extract ((wrap64 ((a0.size : Int) - (a1.size : Int))) : Int).toNat a0.size).toList == a1.toList)) else (none)) else (none)) else (some false)
set_option maxHeartbeats 8000000 in
set_option maxRecDepth 100000 in
theorem stringslite_HasSuffix.calls (a0 : ByteArray) (a1 : ByteArray) (r : Bool) (w : World) (h : stringslite_HasSuffix.f a0 a1 = some r) :
  Calls Tryd.prog 99 #[.string a0, .string a1] w fun e w' => e = .returned (.bool r) ∧ Drawn0 w w' := by
 have H : (if (a0.size : Int) ≥ (a1.size : Int) then (if 0 ≤ (wrap64 ((a0.size : Int) - (a1.size : Int))) then (if (wrap64 ((a0.size : Int) - (a1.size : Int))) ≤ (a0.size : Int) then (some ((a0.extract ((wrap64 ((a0.size : Int) - (a1.size : Int))) : Int).toNat a0.size).toList == a1.toList)) else (none)) else (none)) else (some false)) = some r := h
 clear h
 by_cases c3 : (a0.size : Int) ≥ (a1.size : Int)
 ·rw [if_pos c3] at H
  have c3b0 := decide_eq_true c3
  have c3b1 : decide (a1.size ≤ a0.size) = true := decide_eq_true (Int.ofNat_le.mp c3)
  clear c3
  obtain ⟨ji4, hji4⟩ : ∃ j_ : Int, (wrap64 ((a0.size : Int) - (a1.size : Int))) = j_ := ⟨_, rfl⟩
  replace H : (if 0 ≤ (ji4) then (if (ji4) ≤ (a0.size : Int) then (some ((a0.extract ((ji4) : Int).toNat a0.size).toList == a1.toList)) else (none)) else (none)) = some r := by first | (rw [hji4] at H; exact H) | (simp only [hji4] at H ⊢; exact H)
  have hji4w : (IntKind.i64.wrap ((a0.size : Int) - (a1.size : Int))) = ji4 := (i64_w _).trans hji4
  by_cases c5 : 0 ≤ (ji4)
  ·rw [if_pos c5] at H
   have c5b0 := eq_true c5
   have c5b1 := decide_eq_true c5
   clear c5
   by_cases c6 : (ji4) ≤ (a0.size : Int)
   ·rw [if_pos c6] at H
    have c6b0 := eq_true c6
    have c6b1 := decide_eq_true c6
    clear c6
    obtain rfl := Option.some.inj H
    go_enter Tryd.func99, Tryd.ntmps99
    go_wp2
    go_ret
    exact ⟨by first | rfl | (simp; done) | (simp only [← hji4] <;> (first | rfl | simp)) | (simp [*]; done), by repeat (first | exact Drawn0.refl _ | apply Drawn0.step)⟩
   ·rw [if_neg c6] at H
    exact absurd H (by simp)
  ·rw [if_neg c5] at H
   exact absurd H (by simp)
 ·rw [if_neg c3] at H
  have c3b0 := decide_eq_false c3
  have c3b1 : decide (a1.size ≤ a0.size) = false := decide_eq_false (fun h => c3 (Int.ofNat_le.mpr h))
  clear c3
  obtain rfl := Option.some.inj H
  go_enter Tryd.func99, Tryd.ntmps99
  go_wp2
  go_ret
  exact ⟨by first | rfl | (simp; done) | (simp [*]; done), by repeat (first | exact Drawn0.refl _ | apply Drawn0.step)⟩
def stringslite_TrimSuffix.f (a0 : ByteArray) (a1 : ByteArray) : Option (ByteArray) := (stringslite_HasSuffix.f a0 a1).bind fun t132 => (if t132 = true then (if 0 ≤ (wrap64 ((a0.size : Int) - (a1.size : Int))) then (if (wrap64 ((a0.size : Int) - (a1.size : Int))) ≤ (a0.size : Int) then (some (a0.extract 0 ((wrap64 ((a0.size : Int) - (a1.size : Int))) : Int).toNat)) else (none)) else (none)) else (some a0))
set_option maxHeartbeats 8000000 in
set_option maxRecDepth 100000 in
theorem stringslite_TrimSuffix.calls (a0 : ByteArray) (a1 : ByteArray) (r : ByteArray) (w : World) (h : stringslite_TrimSuffix.f a0 a1 = some r) :
  Calls Tryd.prog 97 #[.string a0, .string a1] w fun e w' => e = .returned (.string r) ∧ Drawn0 w w' := by
 have H : ((stringslite_HasSuffix.f a0 a1).bind fun t132 => (if t132 = true then (if 0 ≤ (wrap64 ((a0.size : Int) - (a1.size : Int))) then (if (wrap64 ((a0.size : Int) - (a1.size : Int))) ≤ (a0.size : Int) then (some (a0.extract 0 ((wrap64 ((a0.size : Int) - (a1.size : Int))) : Int).toNat)) else (none)) else (none)) else (some a0))) = some r := h
 clear h
 replace H := Option.bind_eq_some_iff.mp H
 obtain ⟨t132, A30, H⟩ := H
 try dsimp only at H
 have A3 := Aside0.mk A30
 clear A30
 by_cases c4 : t132 = true
 ·subst c4
  rw [if_pos rfl] at H
  have H1 := H
  clear H
  have H := H1
  clear H1
  obtain ⟨ji5, hji5⟩ : ∃ j_ : Int, (wrap64 ((a0.size : Int) - (a1.size : Int))) = j_ := ⟨_, rfl⟩
  replace H : (if 0 ≤ (ji5) then (if (ji5) ≤ (a0.size : Int) then (some (a0.extract 0 ((ji5) : Int).toNat)) else (none)) else (none)) = some r := by first | (rw [hji5] at H; exact H) | (simp only [hji5] at H ⊢; exact H)
  (try rw [hji5] at A3)
  have hji5w : (IntKind.i64.wrap ((a0.size : Int) - (a1.size : Int))) = ji5 := (i64_w _).trans hji5
  by_cases c6 : 0 ≤ (ji5)
  ·rw [if_pos c6] at H
   have c6b0 := eq_true c6
   have c6b1 := decide_eq_true c6
   clear c6
   by_cases c7 : (ji5) ≤ (a0.size : Int)
   ·rw [if_pos c7] at H
    have c7b0 := eq_true c7
    have c7b1 := decide_eq_true c7
    clear c7
    obtain rfl := Option.some.inj H
    go_enter Tryd.func97, Tryd.ntmps97
    go_wp2_with (first | ((with_reducible refine gate_callee (f := 99) rfl ?_); refine goesL_ (some 7) rfl rfl Tryd.func99 (by kernel_rfl) rfl #[.string a0, .string a1] rfl (by (try simp only [List.map_toArray, List.map_cons, List.map_nil]); first | done | rfl | (simp only [List.length_drop, List.length_take]; rfl)) ?_; (with_reducible refine (stringslite_HasSuffix.calls a0 a1 true _ A3.out).mono ?_); rintro e w' ⟨rfl, ⟨nd, rfl⟩⟩; refine ⟨_, rfl, ?_⟩))
    go_ret
    exact ⟨by first | rfl | (simp; done) | (simp only [← hji5] <;> (first | rfl | simp)) | (simp [*]; done), by repeat (first | exact Drawn0.refl _ | apply Drawn0.step)⟩
   ·rw [if_neg c7] at H
    exact absurd H (by simp)
  ·rw [if_neg c6] at H
   exact absurd H (by simp)
 ·replace c4 := Bool.eq_false_iff.mpr c4
  subst c4
  have H1 : (some a0) = some r := by rw [if_neg (show ¬ (false = true) by decide)] at H; exact H
  clear H
  have H := H1
  clear H1
  obtain rfl := Option.some.inj H
  go_enter Tryd.func97, Tryd.ntmps97
  go_wp2_with (first | ((with_reducible refine gate_callee (f := 99) rfl ?_); refine goesL_ (some 7) rfl rfl Tryd.func99 (by kernel_rfl) rfl #[.string a0, .string a1] rfl (by (try simp only [List.map_toArray, List.map_cons, List.map_nil]); first | done | rfl | (simp only [List.length_drop, List.length_take]; rfl)) ?_; (with_reducible refine (stringslite_HasSuffix.calls a0 a1 false _ A3.out).mono ?_); rintro e w' ⟨rfl, ⟨nd, rfl⟩⟩; refine ⟨_, rfl, ?_⟩))
  go_ret
  exact ⟨by first | rfl | (simp; done) | (simp [*]; done), by repeat (first | exact Drawn0.refl _ | apply Drawn0.step)⟩
def strings_TrimSuffix.f (a0 : ByteArray) (a1 : ByteArray) : Option (ByteArray) := (stringslite_TrimSuffix.f a0 a1).bind fun t133 => (some t133)
set_option maxHeartbeats 8000000 in
set_option maxRecDepth 100000 in
theorem strings_TrimSuffix.calls (a0 : ByteArray) (a1 : ByteArray) (r : ByteArray) (w : World) (h : strings_TrimSuffix.f a0 a1 = some r) :
  Calls Tryd.prog 71 #[.string a0, .string a1] w fun e w' => e = .returned (.string r) ∧ Drawn0 w w' := by
 have H : ((stringslite_TrimSuffix.f a0 a1).bind fun t133 => (some t133)) = some r := h
 clear h
 replace H := Option.bind_eq_some_iff.mp H
 obtain ⟨t133, A30, H⟩ := H
 try dsimp only at H
 have A3 := Aside0.mk A30
 clear A30
 obtain rfl := Option.some.inj H
 go_enter Tryd.func71, Tryd.ntmps71
 go_wp2_with (first | ((with_reducible refine gate_callee (f := 97) rfl ?_); refine goesL_ (some 7) rfl rfl Tryd.func97 (by kernel_rfl) rfl #[.string a0, .string a1] rfl (by (try simp only [List.map_toArray, List.map_cons, List.map_nil]); first | done | rfl | (simp only [List.length_drop, List.length_take]; rfl)) ?_; (with_reducible refine (stringslite_TrimSuffix.calls a0 a1 t133 _ A3.out).mono ?_); rintro e w' ⟨rfl, ⟨nd, rfl⟩⟩; refine ⟨_, rfl, ?_⟩))
 go_ret
 exact ⟨by first | rfl | (simp; done) | (simp [*]; done), by repeat (first | exact Drawn0.refl _ | apply Drawn0.step)⟩
def stringslite_HasPrefix.f (a0 : ByteArray) (a1 : ByteArray) : Option (Bool) := if (a0.size : Int) ≥ (a1.size : Int) then (if 0 ≤ (a1.size : Int) then (if (a1.size : Int) ≤ (a0.size : Int) then (some ((a0.extract 0 ((a1.size : Int) : Int).toNat).toList == a1.toList)) else (none)) else (none)) else (some false)
set_option maxHeartbeats 8000000 in
set_option maxRecDepth 100000 in
theorem stringslite_HasPrefix.calls (a0 : ByteArray) (a1 : ByteArray) (r : Bool) (w : World) (h : stringslite_HasPrefix.f a0 a1 = some r) :
  Calls Tryd.prog 98 #[.string a0, .string a1] w fun e w' => e = .returned (.bool r) ∧ Drawn0 w w' := by
 have H : (if (a0.size : Int) ≥ (a1.size : Int) then (if 0 ≤ (a1.size : Int) then (if (a1.size : Int) ≤ (a0.size : Int) then (some ((a0.extract 0 ((a1.size : Int) : Int).toNat).toList == a1.toList)) else (none)) else (none)) else (some false)) = some r := h
 clear h
 by_cases c3 : (a0.size : Int) ≥ (a1.size : Int)
 ·rw [if_pos c3] at H
  have c3b0 := decide_eq_true c3
  have c3b1 : decide (a1.size ≤ a0.size) = true := decide_eq_true (Int.ofNat_le.mp c3)
  clear c3
  by_cases c4 : 0 ≤ (a1.size : Int)
  ·rw [if_pos c4] at H
   have c4b0 := eq_true c4
   have c4b1 := decide_eq_true c4
   clear c4
   by_cases c5 : (a1.size : Int) ≤ (a0.size : Int)
   ·rw [if_pos c5] at H
    have c5b0 := eq_true c5
    have c5b1 := decide_eq_true c5
    clear c5
    obtain rfl := Option.some.inj H
    go_enter Tryd.func98, Tryd.ntmps98
    go_wp2
    go_ret
    exact ⟨by first | rfl | (simp; done) | (simp [*]; done), by repeat (first | exact Drawn0.refl _ | apply Drawn0.step)⟩
   ·rw [if_neg c5] at H
    exact absurd H (by simp)
  ·rw [if_neg c4] at H
   exact absurd H (by simp)
 ·rw [if_neg c3] at H
  have c3b0 := decide_eq_false c3
  have c3b1 : decide (a1.size ≤ a0.size) = false := decide_eq_false (fun h => c3 (Int.ofNat_le.mpr h))
  clear c3
  obtain rfl := Option.some.inj H
  go_enter Tryd.func98, Tryd.ntmps98
  go_wp2
  go_ret
  exact ⟨by first | rfl | (simp; done) | (simp [*]; done), by repeat (first | exact Drawn0.refl _ | apply Drawn0.step)⟩
def strings_HasPrefix.f (a0 : ByteArray) (a1 : ByteArray) : Option (Bool) := (stringslite_HasPrefix.f a0 a1).bind fun t134 => (some t134)
set_option maxHeartbeats 8000000 in
set_option maxRecDepth 100000 in
theorem strings_HasPrefix.calls (a0 : ByteArray) (a1 : ByteArray) (r : Bool) (w : World) (h : strings_HasPrefix.f a0 a1 = some r) :
  Calls Tryd.prog 72 #[.string a0, .string a1] w fun e w' => e = .returned (.bool r) ∧ Drawn0 w w' := by
 have H : ((stringslite_HasPrefix.f a0 a1).bind fun t134 => (some t134)) = some r := h
 clear h
 replace H := Option.bind_eq_some_iff.mp H
 obtain ⟨t134, A30, H⟩ := H
 try dsimp only at H
 have A3 := Aside0.mk A30
 clear A30
 obtain rfl := Option.some.inj H
 go_enter Tryd.func72, Tryd.ntmps72
 go_wp2_with (first | ((with_reducible refine gate_callee (f := 98) rfl ?_); refine goesL_ (some 7) rfl rfl Tryd.func98 (by kernel_rfl) rfl #[.string a0, .string a1] rfl (by (try simp only [List.map_toArray, List.map_cons, List.map_nil]); first | done | rfl | (simp only [List.length_drop, List.length_take]; rfl)) ?_; (with_reducible refine (stringslite_HasPrefix.calls a0 a1 t134 _ A3.out).mono ?_); rintro e w' ⟨rfl, ⟨nd, rfl⟩⟩; refine ⟨_, rfl, ?_⟩))
 go_ret
 exact ⟨by first | rfl | (simp; done) | (simp [*]; done), by repeat (first | exact Drawn0.refl _ | apply Drawn0.step)⟩
def strings_HasSuffix.f (a0 : ByteArray) (a1 : ByteArray) : Option (Bool) := (stringslite_HasSuffix.f a0 a1).bind fun t135 => (some t135)
set_option maxHeartbeats 8000000 in
set_option maxRecDepth 100000 in
theorem strings_HasSuffix.calls (a0 : ByteArray) (a1 : ByteArray) (r : Bool) (w : World) (h : strings_HasSuffix.f a0 a1 = some r) :
  Calls Tryd.prog 73 #[.string a0, .string a1] w fun e w' => e = .returned (.bool r) ∧ Drawn0 w w' := by
 have H : ((stringslite_HasSuffix.f a0 a1).bind fun t135 => (some t135)) = some r := h
 clear h
 replace H := Option.bind_eq_some_iff.mp H
 obtain ⟨t135, A30, H⟩ := H
 try dsimp only at H
 have A3 := Aside0.mk A30
 clear A30
 obtain rfl := Option.some.inj H
 go_enter Tryd.func73, Tryd.ntmps73
 go_wp2_with (first | ((with_reducible refine gate_callee (f := 99) rfl ?_); refine goesL_ (some 7) rfl rfl Tryd.func99 (by kernel_rfl) rfl #[.string a0, .string a1] rfl (by (try simp only [List.map_toArray, List.map_cons, List.map_nil]); first | done | rfl | (simp only [List.length_drop, List.length_take]; rfl)) ?_; (with_reducible refine (stringslite_HasSuffix.calls a0 a1 t135 _ A3.out).mono ?_); rintro e w' ⟨rfl, ⟨nd, rfl⟩⟩; refine ⟨_, rfl, ?_⟩))
 go_ret
 exact ⟨by first | rfl | (simp; done) | (simp [*]; done), by repeat (first | exact Drawn0.refl _ | apply Drawn0.step)⟩
end Go.Proofs.YtehfogjibhnabaaDoor.PAll
namespace Go.Proofs.YtehfogjibhnabaaDoor.PAll
open Go.RowKit Go.Proofs.YtehfogjibhnabaaDoorW.PrintWords Go.Proofs.YtehfogjibhnabaaDoorW.PrintLast Go.Proofs.YtehfogjibhnabaaDoorW.PrintMore
open Go.Proofs.YtehfogjibhnabaaDoor.Sp
theorem suffix_f (s : ByteArray) (c : UInt8) (hs : s.size ≤ 65536) : stringslite_HasSuffix.f s ⟨#[c]⟩ = some (decide ((bs s).getLast? = some c)) := by
 unfold stringslite_HasSuffix.f
 have hz : ((⟨#[c]⟩ : ByteArray).size : Int) = 1 := rfl
 rw [hz]
 rcases List.eq_nil_or_concat (bs s) with h | ⟨l, x, h⟩
 ·have h0 : s.size = 0 := by rw [← bs_size, h]; rfl
  rw [if_neg (by omega), h]; rfl
 ·have h0 : s.size = l.length + 1 := by rw [← bs_size, h]; simp
  have hw : wrap64 ((s.size : Int) - 1) = (l.length : Int) := by rw [wrap_add (by omega) (by omega)]; omega
  rw [if_pos (by omega), hw, if_pos (by omega), if_pos (by omega), Int.toNat_natCast, extract_mk, toList_bs, bs_mk, ← bs_size s, List.take_length, h]
  congr 1
  have e1 : (⟨#[c]⟩ : ByteArray).toList = [c] := by rw [toList_bs]; rfl
  rw [e1, List.concat_eq_append, List.drop_left]
  by_cases hx : x = c
  ·subst hx; simp
  ·have : ([x] == [c]) = false := by simp [hx]
   rw [this]; simp [hx]
theorem prefix_f (s : ByteArray) (c : UInt8) : stringslite_HasPrefix.f s ⟨#[c]⟩ = some (decide ((bs s).head? = some c)) := by
 unfold stringslite_HasPrefix.f
 have hz : ((⟨#[c]⟩ : ByteArray).size : Int) = 1 := rfl
 rw [hz]
 rcases h : bs s with _ | ⟨x, l⟩
 ·have h0 : s.size = 0 := by rw [← bs_size, h]; rfl
  rw [if_neg (by omega)]; rfl
 ·have h0 : s.size = l.length + 1 := by rw [← bs_size, h]; simp
  rw [if_pos (by omega), if_pos (by omega), if_pos (by omega), extract_mk, toList_bs, bs_mk, h]
  congr 1
  have e1 : (⟨#[c]⟩ : ByteArray).toList = [c] := by rw [toList_bs]; rfl
  rw [e1]
  show (([x] : Str) == [c]) = _
  by_cases hx : x = c
  ·subst hx; simp
  ·have : ([x] == [c]) = false := by simp [hx]
   rw [this]; simp [hx]
theorem trim_f (s : ByteArray) (hs : s.size ≤ 65536) : strings_TrimSuffix.f s ⟨#[10]⟩ = some (mk (trimS (bs s))) := by
 unfold strings_TrimSuffix.f stringslite_TrimSuffix.f
 rw [suffix_f s 10 hs]
 have hz : ((⟨#[10]⟩ : ByteArray).size : Int) = 1 := rfl
 rw [hz]
 simp only [Option.bind_some, decide_eq_true_eq]
 unfold trimS
 by_cases h : (bs s).getLast? = some 10
 ·have h0 : 0 < s.size := by
   rw [← bs_size]
   refine List.length_pos_iff.2 fun e => ?_
   rw [e] at h; simp at h
  have hw : wrap64 ((s.size : Int) - 1) = ((s.size - 1 : Nat) : Int) := by rw [wrap_add (by omega) (by omega)]; omega
  rw [if_pos h, if_pos h, hw, if_pos (by omega), if_pos (by omega), Int.toNat_natCast, extract_mk, List.drop_zero, Option.bind_some, ← bs_size, ← List.dropLast_eq_take]
 ·rw [if_neg h, if_neg h, Option.bind_some, mk_bs]
theorem hasprefix_calls (s : ByteArray) (c : UInt8) (w : World) : Calls Tryd.prog 72 #[.string s, .string ⟨#[c]⟩] w fun e w' => e = .returned (.bool (decide ((bs s).head? = some c))) ∧ Drawn0 w w' :=
 strings_HasPrefix.calls s ⟨#[c]⟩ _ w (by unfold strings_HasPrefix.f; rw [prefix_f]; rfl)
theorem hassuffix_calls (s : ByteArray) (hs : s.size ≤ 65536) (c : UInt8) (w : World) : Calls Tryd.prog 73 #[.string s, .string ⟨#[c]⟩] w fun e w' => e = .returned (.bool (decide ((bs s).getLast? = some c))) ∧ Drawn0 w w' :=
 strings_HasSuffix.calls s ⟨#[c]⟩ _ w (by unfold strings_HasSuffix.f; rw [suffix_f s c hs]; rfl)
theorem trimsuffix_calls (s : ByteArray) (hs : s.size ≤ 65536) (w : World) : Calls Tryd.prog 71 #[.string s, .string ⟨#[10]⟩] w fun e w' => e = .returned (.string (mk (trimS (bs s)))) ∧ Drawn0 w w' :=
 strings_TrimSuffix.calls s ⟨#[10]⟩ _ w (trim_f s hs)
end Go.Proofs.YtehfogjibhnabaaDoor.PAll
namespace Go.Proofs.YtehfogjibhnabaaDoor.PAll
open Go.RowKit Go.Shelf Go.Proofs.YtehfogjibhnabaaDoorW.PrintWords Go.Proofs.YtehfogjibhnabaaDoorW.PrintLast Go.Proofs.YtehfogjibhnabaaDoorW.PrintMore
open Go.Proofs.YtehfogjibhnabaaDoor.Sp
def outOf (pre : List ByteArray) : List ByteArray := (pre.map fun x => trimS (bs x)).foldl stepN []
theorem outOf_snoc (pre : List ByteArray) (x : ByteArray) : outOf (pre ++ [x]) = stepN (outOf pre) (trimS (bs x)) := by unfold outOf; simp
theorem outOf_all (s : ByteArray) : outOf (linesB s) = namedT s := by
 unfold outOf linesB namedT
 rw [List.map_map]
 congr 2
set_option maxRecDepth 100000 in
theorem lines_in (n : Nat) (s : ByteArray) (w : World) :
  CallsIn Fence.wide n Tryd.prog 70 #[.string s] w fun e w' => e = .returned (.func (.func 95) #[] #[.pointer (some ⟨w.heap.size, 0, none⟩)]) ∧ w' = w.alloc (.cells #[.string s] 9) := by
 refine callsIn_of_wp Tryd.func70 rfl trivial ?_ rfl
 simp only [Tryd.ntmps70, List.size_toArray, List.length_cons, List.length_nil, Nat.reduceAdd, Nat.reduceSub, Array.replicate_succ, Array.replicate_zero, List.push_toArray, List.append_toArray, List.nil_append, List.cons_append]
 gi_wp2
 go_ret
 exact ⟨rfl, rfl⟩
theorem grownBy_drew' {w w' : World} {row : Option Nat} (h : w.grownBy w' row) : w.grownBy w'.drew row := ⟨h.os, h.tape, h.output, h.size, h.block⟩
theorem below_of_grown {B : Nat} {A C : World} {row : Option Nat} (hg : A.grownBy C row) (hB : B ≤ A.heap.size) (hr : ∀ k, row = some k → B ≤ k) : Below B A C :=
 ⟨hg.os, hg.tape, hg.output, hg.size, fun k hk => hg.block k (Nat.lt_of_lt_of_le hk hB) (fun e => by have := hr _ e.symm; omega)⟩
theorem i64_same {x : Int} (h0 : 0 ≤ x) (h1 : x ≤ 9223372036854775807) : IntKind.i64.wrap x = x := by
 rw [i64_w]; exact wrap_add (by omega) (by omega)
theorem trimS_length (l : Str) : (trimS l).length ≤ l.length := by
 unfold trimS
 split
 ·rw [List.length_dropLast]; omega
 ·exact Nat.le_refl _
theorem lines_facts {s : ByteArray} {pre suf : List ByteArray} {x : ByteArray} (hs : s.size ≤ 65536) (h : linesB s = pre ++ x :: suf) : x.size ≤ 65536 ∧ (outOf pre).length ≤ 65537 ∧ ∀ p ∈ outOf pre, p.size ≤ 65536 := by
 have hr := rawN_length (s.size + 1) (bs s)
 have hlen := congrArg List.length h
 have hle : ∀ y ∈ linesB s, y.size ≤ 65536 := fun y hy => by
  obtain ⟨z, hz, rfl⟩ := List.mem_map.1 hy
  have := hr.2 z hz
  rw [bs_size] at this
  rw [mk_size]; omega
 unfold linesB at hlen
 rw [List.length_map, List.length_append, List.length_cons] at hlen
 have hb := steps_bound 65536 (pre.map fun x => trimS (bs x)) [] (fun l hl => by
  obtain ⟨y, hy, rfl⟩ := List.mem_map.1 hl
  have h1 := hle y (by rw [h]; exact List.mem_append_left _ hy)
  have h2 := trimS_length (bs y)
  rw [bs_size] at h2; omega) (fun p hp => absurd hp (by simp))
 rw [List.length_map, List.length_nil] at hb
 refine ⟨hle x (by rw [h]; simp), ?_, hb.2⟩
 have := hb.1
 unfold outOf
 omega
theorem invN_R {W : World} {v : Value} {l : List ByteArray} {b : Nat} (h : W.ownsRow b 9 1 v l.length (encs Value.string l)) : Kd.R Kd.string 9 W b (fun _ => True) v l :=
 ⟨fun _ _ => trivial, encs Value.string l, h, reps_strs (M := Kd.string.M W b (fun k' => (fun _ => True) k' ∧ some k' ≠ v.ownBlock)) (fun _ => rfl) _⟩
def InvN (w : World) (pre : List ByteArray) (W : World) : Prop :=
 (∃ v, Boxed W w.heap.size 22 v ∧ W.ownsRow (w.heap.size + 2) 9 1 v (outOf pre).length (encs Value.string (outOf pre))) ∧ Below w.heap.size w W
theorem invN_grown (w : World) {pre : List ByteArray} {A B : World} {row : Option Nat} (h : InvN w pre A) (hg : A.grownBy B row) (hr : ∀ k, row = some k → w.heap.size < k ∧ ∀ cells, k < w.heap.size + 2 ∨ A.heap[k]? ≠ some (.cells cells 9 (0, 0))) : InvN w pre B := by
 obtain ⟨⟨v, hv, hrow⟩, hB⟩ := h
 refine ⟨⟨v, hv.kept hg (fun e => by have := (hr _ e.symm).1; omega), own_move hrow fun k hk => hg.block k (own_lt hrow k hk) fun e => ?_⟩, ?_⟩
 ·have h1 := own_base hrow k hk
  obtain ⟨cells, hc⟩ := own_typed hrow k hk
  rcases (hr k e.symm).2 cells with h2 | h2
  ·omega
  ·exact h2 hc
 ·exact hB.trans ⟨hg.os, hg.tape, hg.output, hg.size, fun k hk => hg.block k (Nat.lt_of_lt_of_le hk hB.size) (fun e => by have := (hr _ e.symm).1; omega)⟩
theorem invN_box (w : World) : AbidesBox (w.heap.size + 1) (InvN w) := fun s A B h hg => invN_grown w h hg fun k e => by
 cases e
 exact ⟨by omega, fun _ => .inl (by omega)⟩
theorem invN_own (w : World) {b : Nat} (hb : w.heap.size + 2 ≤ b) : OwnFrom b (InvN w) := fun s A B row h hg hr => invN_grown w h hg fun k e => by
 obtain ⟨h1, o, h2, h3⟩ := hr k e
 refine ⟨by omega, fun cells => .inr fun h4 => ?_⟩
 rw [h2] at h4
 cases h4
 cases h3
theorem keep_facts {w W : World} {v : Value} {o : List ByteArray} {pre : List ByteArray} {x : ByteArray} {t : Str} (hB : Below w.heap.size w W) (hv : Boxed W w.heap.size 22 v) (hrow : W.ownsRow (w.heap.size + 2) 9 1 v o.length (encs Value.string o)) (hos : outOf (pre ++ [x]) = stepN o t) (h : stepN o t = o) (m : Nat) :
  KeepsOthers W (W.drewN m) ∧ SameAt (w.heap.size + 1) W (W.drewN m) ∧ InvN w (pre ++ [x]) (W.drewN m) := by
 have hg : W.grownBy (W.drewN m) none := ⟨rfl, rfl, rfl, Nat.le_refl _, fun _ _ _ => rfl⟩
 refine ⟨KeepsOthers.of_grownBy hg (by simp), sameAt_of rfl, ⟨v, hv.kept hg (by simp), ?_⟩, hB.trans (below_of_grown hg hB.size (by simp))⟩
 rw [hos, h]
 exact own_move hrow fun k hk => rfl
theorem nota_facts {s : ByteArray} (_hsz : s.size ≤ 65536) {w W : World} {v : Value} {o : List ByteArray} {pre : List ByteArray} {x : ByteArray} {t : Str} (hol : o.length ≤ 65537) (hos : ∀ p ∈ o, p.size ≤ 65536) (hrow : W.ownsRow (w.heap.size + 2) 9 1 v o.length (encs Value.string o)) (hB : Below w.heap.size w W) (hv : Boxed W w.heap.size 22 v) (_hc : W.cell? ⟨w.heap.size, 0, none⟩ = some v) (hO : outOf (pre ++ [x]) = stepN o t)
    (hn : ¬ (2 < t.length ∧ t.head? = some 47 ∧ t.getLast? = some 47)) :
    (Aside0 (stepN o t = o) ∧ ∃ A cp, v = .slice A 0 cp) ∨
    ∃ (z : ByteArray) (n : Nat) (ad : Addr) (cp : Nat), v = .slice (some ad) (n + 1) cp ∧ W.cell? (ad.add n) = some (.string z) ∧ z.size ≤ 65536 ∧ n ≤ 65536 ∧ n + 1 ≤ cp ∧
      ((Aside0 (stepN o t = o) ∧ ((mk t).toList == ((⟨#[33, 47]⟩ : ByteArray) ++ z ++ ⟨#[47, 42, 47]⟩).toList) = false) ∨
       (Aside0 (stepN o t = o.take n) ∧ ((mk t).toList == ((⟨#[33, 47]⟩ : ByteArray) ++ z ++ ⟨#[47, 42, 47]⟩).toList) = true ∧
        ∀ m, KeepsOthers W ((W.drewN m).setCell ⟨w.heap.size, 0, none⟩ (.slice (some ad) n cp)) ∧ SameAt (w.heap.size + 1) W ((W.drewN m).setCell ⟨w.heap.size, 0, none⟩ (.slice (some ad) n cp)) ∧ InvN w (pre ++ [x]) ((W.drewN m).setCell ⟨w.heap.size, 0, none⟩ (.slice (some ad) n cp)))) := by
  have hst : stepN o t = if o ≠ [] ∧ t = [33, 47] ++ bs (o.getD (o.length - 1) ByteArray.empty) ++ [47, 42, 47] then o.take (o.length - 1) else o := by unfold stepN; rw [if_neg hn]
  obtain ⟨A, cp, rfl⟩ := own_slice hrow
  rcases Nat.eq_zero_or_pos o.length with h0 | h0
  · refine .inl ⟨⟨?_⟩, A, cp, by rw [h0]⟩
    rw [hst, if_neg (fun h => h.1 (List.eq_nil_of_length_eq_zero h0))]
  · obtain ⟨n, hn1⟩ : ∃ n, o.length = n + 1 := ⟨o.length - 1, by omega⟩
    have hR := Kd.R_reads' (invN_R hrow)
    obtain ⟨ad, rfl, hcell⟩ := Kd.at_string hR.2.2 (n : Int) (by omega) (by omega)
    rw [Int.toNat_natCast, rdOf_getD] at hcell
    have hmem : o.getD n ByteArray.empty ∈ o := getD_mem (by omega)
    refine .inr ⟨o.getD n ByteArray.empty, n, ad, cp, by rw [hn1], hcell, hos _ hmem, by omega, by have := hR.2.1; omega, ?_⟩
    have hne : o ≠ [] := fun e => by rw [e] at h0; simp at h0
    have e1 : ((⟨#[33, 47]⟩ : ByteArray) ++ o.getD n ByteArray.empty ++ ⟨#[47, 42, 47]⟩).toList = [33, 47] ++ bs (o.getD n ByteArray.empty) ++ [47, 42, 47] := by rw [toList_bs]; simp [bs]
    have e2 : (mk t).toList = t := by rw [toList_bs, bs_mk]
    rw [hn1, Nat.add_sub_cancel] at hst
    rw [e1, e2]
    by_cases ht : t = [33, 47] ++ bs (o.getD n ByteArray.empty) ++ [47, 42, 47]
    · rw [if_pos ⟨hne, ht⟩] at hst
      refine .inr ⟨⟨hst⟩, beq_iff_eq.2 ht, fun m => ?_⟩
      have hg : W.grownBy (W.drewN m) none := ⟨rfl, rfl, rfl, Nat.le_refl _, fun _ _ _ => rfl⟩
      have hv2 := (hv.kept hg (by simp)).set (.slice (some ad) n cp)
      refine ⟨(KeepsOthers.of_grownBy hg (by simp)).trans (KeepsOthers.setCell _ _ _), sameAt_of (Below.heap_setCell _ _ _ _ (by simp)), ⟨_, hv2, ?_⟩, ?_⟩
      · have hl : (outOf (pre ++ [x])).length = n := by rw [hO, hst, List.length_take]; omega
        have he : encs Value.string (outOf (pre ++ [x])) = (encs Value.string o).take (n * 1) := by rw [hO, hst]; simp [encs]
        rw [hl, he]
        have h1 := own_take hrow (m := n) (by omega)
        exact own_move h1 fun k hk => Below.heap_setCell _ _ _ _ (by have := own_base h1 k hk; simp; omega)
      · exact ((hB.trans (below_of_grown hg hB.size (by simp))).setCell (p := ⟨w.heap.size, 0, none⟩) (Nat.le_refl _) _)
    · rw [if_neg (fun h => ht h.2)] at hst
      exact .inl ⟨⟨hst⟩, beq_eq_false_iff_ne.2 ht⟩
attribute [local go_sem] Oper.semAt_some
set_option maxRecDepth 100000 in
set_option maxHeartbeats 2000000 in
theorem profile_named.calls (k : Nat) (a0 : ByteArray) (r : List ByteArray) (w : World) (h : profile_named.f k a0 = some r) :
  Calls Tryd.prog 39 #[.string a0] w fun e w' => ∃ v0_ : Value, e = .returned (v0_) ∧ Kd.R Kd.string 9 w' w.heap.size (fun _ => True) v0_ r ∧ Below w.heap.size w w' := by
 unfold profile_named.f at h
 split at h
 ·rename_i hsz
  obtain rfl := Option.some.inj h
  clear h
  obtain ⟨i0, hi, hz0, hz1, hz2⟩ := info_parts info_str
  refine (callsIn_wide (n := 4)).1 ?_
  refine callsIn_of_wp_marks Tryd.func39 rfl trivial ?_ rfl
  simp only [Tryd.ntmps39, List.size_toArray, List.length_cons, List.length_nil, Nat.reduceAdd, Nat.reduceSub, Array.replicate_succ, Array.replicate_zero, List.push_toArray, List.append_toArray, List.nil_append, List.cons_append]
  gi_wp2_with (refine ⟨trivial, ?_⟩; gi_at_call 70; refine (lines_in _ _ _).mono ?_; rintro e w' ⟨rfl, rfl⟩)
  have bO := Boxed.new w 22 (.slice none 0 0)
  have bN := Boxed.new (w.alloc (.cells #[.slice none 0 0] 22)) 9 (.string a0)
  rw [World.size_alloc] at bN
  have hB0 : Below w.heap.size w ((w.alloc (.cells #[.slice none 0 0] 22)).alloc (.cells #[.string a0] 9)) := ((Below.refl _ w).alloc (Nat.le_refl _) _).alloc (by simp) _
  have hS0 : ((w.alloc (.cells #[.slice none 0 0] 22)).alloc (.cells #[.string a0] 9)).heap.size = w.heap.size + 2 := by simp
  refine range_boxed (by omega) (gf := 95) (lb := #[.pointer (some ⟨w.heap.size + 1, 0, none⟩)]) rfl trivial (enters_of Tryd.func95 (by kernel_rfl) rfl)
   (lines1_in _ (by omega) (w.heap.size + 1) a0 hsz _ bN) (by rw [hS0]; omega) (fun _ => rfl) (InvN w) (invN_box w) (invN_own w (by rw [hS0]; omega)) ⟨⟨_, bO.alloc _, World.ownsRow_nil _ _ _ _⟩, hB0⟩
   (fun x => { tmps := #[.string a0, undef, .slice none 0 0, .pointer (some ⟨w.heap.size, 0, none⟩), .string x, .string a0, .func (.func 95) #[] #[.pointer (some ⟨w.heap.size + 1, 0, none⟩)], .string x, undef, undef, undef, undef, undef, undef, undef, undef, undef, undef, undef, undef, undef, undef, undef, undef, undef, undef, undef, undef, undef, undef, undef, undef, undef, undef, undef, undef, undef, undef, undef, undef, undef, undef, undef, undef, undef, undef, undef, undef, undef, undef, undef, undef], defers := [] }) ?assign ?body ?done
  case assign =>
   intro l x W K hK
   gi_wp2
   exact hK
  case body =>
   intro l pre x suf W hL hI hbW
   obtain ⟨hx, hol, hos⟩ := lines_facts hsz hL
   obtain ⟨⟨v, hv, hrow⟩, hB⟩ := hI
   have hc := hv.cell
   have hf := hv.frozen
   have htr := fun W => trimsuffix_calls x hx W
   have ht : (trimS (bs x)).length ≤ 65536 := by have := trimS_length (bs x); rw [bs_size] at this; omega
   have OS : Aside0 (outOf (pre ++ [x]) = stepN (outOf pre) (trimS (bs x))) := ⟨outOf_snoc pre x⟩
   generalize outOf pre = o at hol hos hrow OS
   generalize trimS (bs x) = t at htr ht OS
   have hT : (mk t).size = t.length := mk_size t
   have hpp := fun W => hasprefix_calls (mk t) 47 W
   have hss := fun W => hassuffix_calls (mk t) (by omega) 47 W
   rw [bs_mk] at hpp hss
   have HOS := Aside0.mk hos
   have HB := Aside0.mk hB
   have HROW := Aside0.mk hrow
   have HV := Aside0.mk hv
   have HL := Aside0.mk hL
   clear hos hB hrow hv hL
   by_cases c1 : 2 < t.length
   ·have c1b : decide ((2 : Int) < ((mk t).size : Int)) = true := decide_eq_true (by omega)
    by_cases c2 : t.head? = some 47
    ·by_cases c3 : t.getLast? = some 47
     ·have ST : Aside0 (stepN o t = o ++ [mk ((t.take (t.length - 1)).drop 1)]) := ⟨by unfold stepN; rw [if_pos ⟨c1, c2, c3⟩]⟩
      have d2 : decide (t.head? = some 47) = true := decide_eq_true c2
      have d3 : decide (t.getLast? = some 47) = true := decide_eq_true c3
      rw [d2] at hpp
      rw [d3] at hss
      clear c2 c3 d2 d3
      gi_wp2_with (first | (refine ⟨trivial, ?_⟩; gi_at_call 71; refine (callsIn_wide.2 (htr _)).mono ?_; rintro e w1 ⟨rfl, ⟨m1, rfl⟩⟩) | (refine ⟨trivial, ?_⟩; gi_at_call 72; refine (callsIn_wide.2 (hpp _)).mono ?_; rintro e w2 ⟨rfl, ⟨m2, rfl⟩⟩) | (refine ⟨trivial, ?_⟩; gi_at_call 73; refine (callsIn_wide.2 (hss _)).mono ?_; rintro e w3 ⟨rfl, ⟨m3, rfl⟩⟩) | (refine ⟨trivial, ?_⟩))
      obtain ⟨W2, hW2⟩ : ∃ W2, W.drewN (m1 + m2 + m3) = W2 := ⟨_, rfl⟩
      have hh : W2.heap = W.heap := by rw [← hW2]; rfl
      rw [hW2]
      have hk2 : W.grownBy W2 none := by rw [← hW2]; exact ⟨rfl, rfl, rfl, Nat.le_refl _, fun _ _ _ => rfl⟩
      clear hW2
      have hv2 : Boxed W2 w.heap.size 22 v := by unfold Boxed; rw [hh]; exact HV.out
      have hrow2 : W2.ownsRow (w.heap.size + 2) 9 1 v o.length (encs Value.string o) := own_move HROW.out fun k _ => by rw [hh]
      have hc2 := hv2.cell
      have hf2 := hv2.frozen
      obtain ⟨m, hm⟩ : ∃ m, t.length = m + 1 := ⟨t.length - 1, by omega⟩
      have hm0 := hm
      have hT2 : (mk t).size = m + 1 := by omega
      have hm1 : (1 : Int) ≤ (m : Int) := by omega
      have hm2 : (m : Int) ≤ ((m : Int) + 1) := by omega
      have hw : IntKind.i64.wrap (m : Int) = (m : Int) := i64_same (by omega) (by omega)
      clear hT ht hm c1 c1b hc hf
      obtain ⟨pc, hpc⟩ : ∃ pc, pc = (mk t).extract 1 m := ⟨_, rfl⟩
      obtain ⟨W3, hW3⟩ : ∃ W3, W3 = (W2.alloc (.cells #[.string pc] 9)).drew := ⟨_, rfl⟩
      have g3 : W2.grownBy W3 none := by rw [hW3]; exact grownBy_drew' (World.grownBy_alloc W2 _ none)
      obtain ⟨v', w5, hrun, hown', hgrow, -, -⟩ := run_append_own_at (P := Tryd.prog) (w := W3) (w.heap.size + 2) 22 22 9 i0 (.string ByteArray.empty) 1 16 Tryd.underlying22 hi hz0 hz1 hz2 rfl (by decide) v o.length (encs Value.string o)
       (own_move hrow2 fun k hk => g3.block k (own_lt hrow2 k hk) (by simp)) ⟨W2.heap.size, 0, none⟩ 1 1 [.string pc] rfl (by rw [hW3]; exact cell_one_new W2 _ _) (by simp [Value.oneCell']) (by have : maxLen = 9223372036854775807 := rfl; omega) (by omega) (by have := HB.out.size; have := hk2.size; have := g3.size; omega)
      obtain ⟨g', cap', rfl⟩ := ownsRow_succ hown'
      have hv5 : Boxed w5 w.heap.size 22 v := (hv2.kept g3 (by simp)).kept hgrow (hv2.not_row (by decide) hrow2)
      have hc5 := hv5.cell
      have hf5 := hv5.frozen
      have hcA := (hv2.alloc (.cells #[.string ((mk t).extract 1 m)] 9)).cell
      have rowW3 : W3.ownsRow (w.heap.size + 2) 9 1 v o.length (encs Value.string o) := own_move hrow2 fun k hk => g3.block k (own_lt hrow2 k hk) (by simp)
      have hbase : ∀ k, v.ownBlock = some k → w.heap.size + 2 ≤ k := fun k hk => own_base rowW3 k hk
      have s1 := hk2.size
      have s2 := g3.size
      have s3 := HB.out.size
      have FIN : Aside0 (KeepsOthers W (w5.setCell ⟨w.heap.size, 0, none⟩ (.slice (some ⟨g', 0, none⟩) (o.length + 1) cap')) ∧ SameAt (w.heap.size + 1) W (w5.setCell ⟨w.heap.size, 0, none⟩ (.slice (some ⟨g', 0, none⟩) (o.length + 1) cap')) ∧ InvN w (pre ++ [x]) (w5.setCell ⟨w.heap.size, 0, none⟩ (.slice (some ⟨g', 0, none⟩) (o.length + 1) cap'))) := by
       refine ⟨((((KeepsOthers.of_grownBy hk2 (by simp)).trans (KeepsOthers.of_grownBy g3 (by simp))).trans (KeepsOthers.of_grownBy hgrow fun j o' hj ho' => ?_)).trans (KeepsOthers.setCell _ _ _)), sameAt_of ?_, ⟨_, hv5.set _, ?_⟩, ?_⟩
       ·obtain ⟨cells, hcl⟩ := own_typed rowW3 j hj
        rw [hcl] at ho'; cases ho'; rfl
       ·rw [Below.heap_setCell _ _ _ _ (by simp), hgrow.block _ (by omega) (fun e => by have := hbase _ e.symm; omega), g3.block _ (by omega) (by simp), hk2.block _ (by omega) (by simp)]
       ·have e1 : outOf (pre ++ [x]) = o ++ [pc] := by rw [OS.out, ST.out, hpc, extract_mk, bs_mk, hm0]; simp
        have e2 : (outOf (pre ++ [x])).length = o.length + 1 := by rw [e1]; simp
        have e3 : encs Value.string (outOf (pre ++ [x])) = encs Value.string o ++ [.string pc] := by rw [e1]; simp [encs]
        rw [e2, e3]
        exact own_move hown' fun k hk => Below.heap_setCell _ _ _ _ (by have := own_base hown' k hk; simp; omega)
       ·exact (((HB.out.trans (below_of_grown hk2 (by omega) (by simp))).trans (below_of_grown g3 (by omega) (by simp))).trans (below_of_grown hgrow (by omega) (fun k hk => by have := hbase k hk; omega))).setCell (p := ⟨w.heap.size, 0, none⟩) (Nat.le_refl _) _
      rw [hW3, hpc] at hrun
      clear hh hown' hk2 g3 hgrow hrow2 hv2 hv5 hpc rowW3 hbase hm0 s1 s2 s3
      simp [go_sem] at hrun
      gi_region_with (first | (rw [hrun]; simp only [Result.andThen, Oper.uponIn_value]) | fail)
      all_goals gi_wp2
      all_goals (first | exact FIN.out | exact ⟨rfl, FIN.out⟩)
     ·have d2 : decide (t.head? = some 47) = true := decide_eq_true c2
      have d3 : decide (t.getLast? = some 47) = false := decide_eq_false c3
      rw [d2] at hpp
      rw [d3] at hss
      have NT := nota_facts hsz hol HOS.out HROW.out HB.out HV.out hc OS.out (fun h => c3 h.2.2)
      have F0 := fun h => keep_facts HB.out HV.out HROW.out OS.out (x := x) (pre := pre) (t := t) h
      clear c2 c3 d2 d3
      rcases NT with ⟨ST, ⟨A, cp, rfl⟩⟩ | ⟨z, n, ad, cp, rfl, hcz, hz, hnb, hncp, ⟨ST, hEq⟩ | ⟨ST, hEq, hFc⟩⟩
      ·gi_wp2_with (first | (refine ⟨trivial, ?_⟩; gi_at_call 71; refine (callsIn_wide.2 (htr _)).mono ?_; rintro e w1 ⟨rfl, ⟨m1, rfl⟩⟩) | (refine ⟨trivial, ?_⟩; gi_at_call 72; refine (callsIn_wide.2 (hpp _)).mono ?_; rintro e w2 ⟨rfl, ⟨m2, rfl⟩⟩) | (refine ⟨trivial, ?_⟩; gi_at_call 73; refine (callsIn_wide.2 (hss _)).mono ?_; rintro e w3 ⟨rfl, ⟨m3, rfl⟩⟩) | (refine ⟨trivial, ?_⟩))
       first | exact F0 ST.out _ | exact ⟨(F0 ST.out _).1, (F0 ST.out _).2.2⟩
      ·have z1 : ((⟨#[33, 47]⟩ : ByteArray) ++ z).size = 2 + z.size := ByteArray.size_append
       have hn0 : (0 : Int) ≤ (n : Int) := by omega
       gi_wp2_with (first | (refine ⟨trivial, ?_⟩; gi_at_call 71; refine (callsIn_wide.2 (htr _)).mono ?_; rintro e w1 ⟨rfl, ⟨m1, rfl⟩⟩) | (refine ⟨trivial, ?_⟩; gi_at_call 72; refine (callsIn_wide.2 (hpp _)).mono ?_; rintro e w2 ⟨rfl, ⟨m2, rfl⟩⟩) | (refine ⟨trivial, ?_⟩; gi_at_call 73; refine (callsIn_wide.2 (hss _)).mono ?_; rintro e w3 ⟨rfl, ⟨m3, rfl⟩⟩) | (refine ⟨trivial, ?_⟩))
       first | exact F0 ST.out _ | exact ⟨(F0 ST.out _).1, (F0 ST.out _).2.2⟩
      ·have z1 : ((⟨#[33, 47]⟩ : ByteArray) ++ z).size = 2 + z.size := ByteArray.size_append
       have hn0 : (0 : Int) ≤ (n : Int) := by omega
       have hwn : IntKind.i64.wrap (n : Int) = (n : Int) := i64_same (by omega) (by omega)
       gi_wp2_with (first | (refine ⟨trivial, ?_⟩; gi_at_call 71; refine (callsIn_wide.2 (htr _)).mono ?_; rintro e w1 ⟨rfl, ⟨m1, rfl⟩⟩) | (refine ⟨trivial, ?_⟩; gi_at_call 72; refine (callsIn_wide.2 (hpp _)).mono ?_; rintro e w2 ⟨rfl, ⟨m2, rfl⟩⟩) | (refine ⟨trivial, ?_⟩; gi_at_call 73; refine (callsIn_wide.2 (hss _)).mono ?_; rintro e w3 ⟨rfl, ⟨m3, rfl⟩⟩) | (refine ⟨trivial, ?_⟩))
       all_goals (exact hFc _)
    ·have d2 : decide (t.head? = some 47) = false := decide_eq_false c2
     rw [d2] at hpp
     have NT := nota_facts hsz hol HOS.out HROW.out HB.out HV.out hc OS.out (fun h => c2 h.2.1)
     have F0 := fun h => keep_facts HB.out HV.out HROW.out OS.out (x := x) (pre := pre) (t := t) h
     clear c2 d2
     rcases NT with ⟨ST, ⟨A, cp, rfl⟩⟩ | ⟨z, n, ad, cp, rfl, hcz, hz, hnb, hncp, ⟨ST, hEq⟩ | ⟨ST, hEq, hFc⟩⟩
     ·gi_wp2_with (first | (refine ⟨trivial, ?_⟩; gi_at_call 71; refine (callsIn_wide.2 (htr _)).mono ?_; rintro e w1 ⟨rfl, ⟨m1, rfl⟩⟩) | (refine ⟨trivial, ?_⟩; gi_at_call 72; refine (callsIn_wide.2 (hpp _)).mono ?_; rintro e w2 ⟨rfl, ⟨m2, rfl⟩⟩) | (refine ⟨trivial, ?_⟩; gi_at_call 73; refine (callsIn_wide.2 (hss _)).mono ?_; rintro e w3 ⟨rfl, ⟨m3, rfl⟩⟩) | (refine ⟨trivial, ?_⟩))
      first | exact F0 ST.out _ | exact ⟨(F0 ST.out _).1, (F0 ST.out _).2.2⟩
     ·have z1 : ((⟨#[33, 47]⟩ : ByteArray) ++ z).size = 2 + z.size := ByteArray.size_append
      have hn0 : (0 : Int) ≤ (n : Int) := by omega
      gi_wp2_with (first | (refine ⟨trivial, ?_⟩; gi_at_call 71; refine (callsIn_wide.2 (htr _)).mono ?_; rintro e w1 ⟨rfl, ⟨m1, rfl⟩⟩) | (refine ⟨trivial, ?_⟩; gi_at_call 72; refine (callsIn_wide.2 (hpp _)).mono ?_; rintro e w2 ⟨rfl, ⟨m2, rfl⟩⟩) | (refine ⟨trivial, ?_⟩; gi_at_call 73; refine (callsIn_wide.2 (hss _)).mono ?_; rintro e w3 ⟨rfl, ⟨m3, rfl⟩⟩) | (refine ⟨trivial, ?_⟩))
      first | exact F0 ST.out _ | exact ⟨(F0 ST.out _).1, (F0 ST.out _).2.2⟩
     ·have z1 : ((⟨#[33, 47]⟩ : ByteArray) ++ z).size = 2 + z.size := ByteArray.size_append
      have hn0 : (0 : Int) ≤ (n : Int) := by omega
      have hwn : IntKind.i64.wrap (n : Int) = (n : Int) := i64_same (by omega) (by omega)
      gi_wp2_with (first | (refine ⟨trivial, ?_⟩; gi_at_call 71; refine (callsIn_wide.2 (htr _)).mono ?_; rintro e w1 ⟨rfl, ⟨m1, rfl⟩⟩) | (refine ⟨trivial, ?_⟩; gi_at_call 72; refine (callsIn_wide.2 (hpp _)).mono ?_; rintro e w2 ⟨rfl, ⟨m2, rfl⟩⟩) | (refine ⟨trivial, ?_⟩; gi_at_call 73; refine (callsIn_wide.2 (hss _)).mono ?_; rintro e w3 ⟨rfl, ⟨m3, rfl⟩⟩) | (refine ⟨trivial, ?_⟩))
      all_goals (exact hFc _)
   ·have c1b : decide ((2 : Int) < ((mk t).size : Int)) = false := decide_eq_false (by omega)
    have NT := nota_facts hsz hol HOS.out HROW.out HB.out HV.out hc OS.out (fun h => c1 h.1)
    have F0 := fun h => keep_facts HB.out HV.out HROW.out OS.out (x := x) (pre := pre) (t := t) h
    rcases NT with ⟨ST, ⟨A, cp, rfl⟩⟩ | ⟨z, n, ad, cp, rfl, hcz, hz, hnb, hncp, ⟨ST, hEq⟩ | ⟨ST, hEq, hFc⟩⟩
    ·gi_wp2_with (first | (refine ⟨trivial, ?_⟩; gi_at_call 71; refine (callsIn_wide.2 (htr _)).mono ?_; rintro e w1 ⟨rfl, ⟨m1, rfl⟩⟩) | (refine ⟨trivial, ?_⟩; gi_at_call 72; refine (callsIn_wide.2 (hpp _)).mono ?_; rintro e w2 ⟨rfl, ⟨m2, rfl⟩⟩) | (refine ⟨trivial, ?_⟩; gi_at_call 73; refine (callsIn_wide.2 (hss _)).mono ?_; rintro e w3 ⟨rfl, ⟨m3, rfl⟩⟩) | (refine ⟨trivial, ?_⟩))
     first | exact F0 ST.out _ | exact ⟨(F0 ST.out _).1, (F0 ST.out _).2.2⟩
    ·have z1 : ((⟨#[33, 47]⟩ : ByteArray) ++ z).size = 2 + z.size := ByteArray.size_append
     have hn0 : (0 : Int) ≤ (n : Int) := by omega
     gi_wp2_with (first | (refine ⟨trivial, ?_⟩; gi_at_call 71; refine (callsIn_wide.2 (htr _)).mono ?_; rintro e w1 ⟨rfl, ⟨m1, rfl⟩⟩) | (refine ⟨trivial, ?_⟩; gi_at_call 72; refine (callsIn_wide.2 (hpp _)).mono ?_; rintro e w2 ⟨rfl, ⟨m2, rfl⟩⟩) | (refine ⟨trivial, ?_⟩; gi_at_call 73; refine (callsIn_wide.2 (hss _)).mono ?_; rintro e w3 ⟨rfl, ⟨m3, rfl⟩⟩) | (refine ⟨trivial, ?_⟩))
     first | exact F0 ST.out _ | exact ⟨(F0 ST.out _).1, (F0 ST.out _).2.2⟩
    ·have z1 : ((⟨#[33, 47]⟩ : ByteArray) ++ z).size = 2 + z.size := ByteArray.size_append
     have hn0 : (0 : Int) ≤ (n : Int) := by omega
     have hwn : IntKind.i64.wrap (n : Int) = (n : Int) := i64_same (by omega) (by omega)
     gi_wp2_with (first | (refine ⟨trivial, ?_⟩; gi_at_call 71; refine (callsIn_wide.2 (htr _)).mono ?_; rintro e w1 ⟨rfl, ⟨m1, rfl⟩⟩) | (refine ⟨trivial, ?_⟩; gi_at_call 72; refine (callsIn_wide.2 (hpp _)).mono ?_; rintro e w2 ⟨rfl, ⟨m2, rfl⟩⟩) | (refine ⟨trivial, ?_⟩; gi_at_call 73; refine (callsIn_wide.2 (hss _)).mono ?_; rintro e w3 ⟨rfl, ⟨m3, rfl⟩⟩) | (refine ⟨trivial, ?_⟩))
     all_goals (exact hFc _)
  case done =>
   intro D W hD hI hK
   obtain ⟨⟨v, hv, hrow⟩, hB⟩ := hI
   have hD0 : w.heap.size ≤ D := by rw [hS0] at hD; omega
   have hc := hv.cell
   rw [outOf_all] at hrow
   have hR : Kd.R Kd.string 9 W w.heap.size (fun _ => True) v (namedT a0) := Kd.R_lower (invN_R hrow) (by omega)
   obtain ⟨A, c, rfl⟩ := Kd.R_slice hR
   have HR := Aside0.mk hR
   have HB := Aside0.mk hB
   have HKD := Aside0.mk hK
   clear hR hB hrow
   gi_wp2
   refine ⟨by simp, .inl ⟨_, _, rfl, run_takeDeferred HKD.out, ?_⟩⟩
   refine ⟨_, results_tmp rfl _ _ _, _, rfl, ?_, ?_⟩
   ·exact Kd.R_mono (Kd.R_grown (Kd.R_bound HR.out) (grownBy_putObj' W D _) (fun q hq e => by
     cases e
     obtain ⟨_, _, _, _, _, cells, hcl⟩ := hq
     rw [HKD.out] at hcl
     cases hcl)) (fun _ _ => trivial)
   ·exact HB.out.trans (belowK_b (w := w) (Nat.le_refl _) W D _ _ hD0 HKD.out rfl rfl)
 ·exact absurd h (by simp)
end Go.Proofs.YtehfogjibhnabaaDoor.PAll
namespace Go.Proofs.YtehfogjibhnabaaDoor.PAll
open Go.RowKit Go.Proofs.YtehfogjibhnabaaDoorW.PrintWords Go.Proofs.YtehfogjibhnabaaDoorW.PrintLast Go.Proofs.YtehfogjibhnabaaDoorW.PrintMore
open Go.Proofs.YtehfogjibhnabaaDoor.Sp
theorem joinS_append : ∀ (l m : List Str), l ≠ [] → m ≠ [] → joinS (l ++ m) = joinS l ++ 47 :: joinS m
 | [], _, h, _ => absurd rfl h
 | [a], m, _, hm => by rw [List.singleton_append, joinS_cons a hm]; rfl
 | a :: b :: r, m, _, hm => by
  have ih := joinS_append (b :: r) m (by simp) hm
  rw [List.cons_append, joinS_cons a (by simp), ih, joinS_cons a (by simp)]
  simp
theorem above_text {a b : ByteArray} (h : bs a ≠ []) : aboveB a b = true ↔ ∃ y, bs b = bs a ++ 47 :: y := by
 rw [above_iff, pB_map_prefix, pB_len, pB_len]
 constructor
 ·rintro ⟨⟨r, hr⟩, hl⟩
  have hb : bs b ≠ [] := fun e => by rw [e] at hl; simp [pcs] at hl
  rw [← hr] at hl
  have hrn : r ≠ [] := fun e => by subst e; simp at hl
  refine ⟨joinS r, ?_⟩
  rw [← join_pcs (bs b), ← hr, joinS_append _ _ (by rw [pcs_of h]; exact spl_ne _) hrn, join_pcs]
 ·rintro ⟨y, e⟩
  have hb : bs b ≠ [] := by rw [e]; simp
  rw [pcs_of h, pcs_of hb, e, spl_append]
  refine ⟨⟨_, rfl⟩, ?_⟩
  rw [List.length_append]
  have := List.length_pos_iff.2 (spl_ne y)
  omega
end Go.Proofs.YtehfogjibhnabaaDoor.PAll
namespace Go.Proofs.YtehfogjibhnabaaDoor.PAll
open Go.RowKit Go.Proofs.YtehfogjibhnabaaDoorW.PrintWords Go.Proofs.YtehfogjibhnabaaDoorW.PrintLast Go.Proofs.YtehfogjibhnabaaDoorW.PrintMore
open Go.Proofs.YtehfogjibhnabaaDoor.Sp
theorem lastIx_free : ∀ (b : Str), (47 : UInt8) ∉ b → ∀ i acc : Int, lastIx b i acc = acc
 | [], _, _, _ => rfl
 | c :: b, h, i, acc => by
  have hc : c ≠ 47 := fun e => h (by rw [e]; exact List.mem_cons_self)
  rw [lastIx, if_neg hc]
  exact lastIx_free b (fun hm => h (List.mem_cons_of_mem _ hm)) _ _
theorem lastIx_both : ∀ (a m : Str) (i acc : Int), lastIx (a ++ m) i acc = lastIx m (i + a.length) (lastIx a i acc)
 | [], m, i, acc => by simp [lastIx]
 | c :: a, m, i, acc => by
  rw [List.cons_append, lastIx, lastIx_both a m, lastIx, List.length_cons, show i + 1 + (a.length : Int) = i + ((a.length + 1 : Nat) : Int) by omega]
theorem lastIx_flat (b : Str) (h : (47 : UInt8) ∉ b) (a : Str) (i acc : Int) : lastIx (a ++ 47 :: b) i acc = i + a.length := by
 rw [lastIx_both, lastIx, if_pos rfl, lastIx_free b h]
theorem dir_split {a b : Str} (h : (47 : UInt8) ∉ b) : dirB (mk (a ++ 47 :: b)) = mk a := by
 have hl : lastS (bs (mk (a ++ 47 :: b))) = a.length := by unfold lastS; rw [bs_mk, lastIx_flat b h]; omega
 unfold dirB
 rw [hl, if_neg (by omega), extract_mk, bs_mk, Int.toNat_natCast, List.drop_zero]
 congr 1
 simp
theorem last_slash (y : Str) : (47 : UInt8) ∉ y ∨ ∃ y1 y2, y = y1 ++ 47 :: y2 ∧ (47 : UInt8) ∉ y2 := by
 induction y with
 | nil => exact .inl (by simp)
 | cons c y ih =>
  rcases ih with h | ⟨y1, y2, rfl, h2⟩
  ·by_cases hc : c = 47
   ·subst hc; exact .inr ⟨[], y, rfl, h⟩
   ·exact .inl (by simp [h, Ne.symm hc])
  ·exact .inr ⟨c :: y1, y2, rfl, h2⟩
theorem above_dirB {d : ByteArray} (h : bs (dirB d) ≠ []) : aboveB (dirB d) d = true := by
 obtain ⟨y, e⟩ := pB_dir d h
 exact (above_iff _ _).2 ⟨⟨[y], e.symm⟩, by rw [e, List.length_append]; simp⟩
theorem ups_above (n : Nat) : ∀ c : ByteArray, c.size ≤ n → ∀ x ∈ ups c, x = c ∨ aboveB x c = true := by
 induction n with
 | zero =>
  intro c h x hx
  have : bs c = [] := List.eq_nil_of_length_eq_zero (by rw [bs_size]; omega)
  rw [ups_nil this] at hx; simp at hx
 | succ n ih =>
  intro c h x hx
  by_cases h0 : bs c = []
  ·rw [ups_nil h0] at hx; simp at hx
  ·have h1 := dirB_less h0
   rw [ups_cons h0] at hx
   rcases List.mem_cons.1 hx with rfl | hx
   ·exact .inl rfl
   ·by_cases h2 : bs (dirB c) = []
    ·rw [ups_nil h2] at hx; simp at hx
    ·have ha := above_dirB h2
     rcases ih (dirB c) (by omega) x hx with rfl | hx
     ·exact .inr ha
     ·exact .inr (above_trans hx ha)
theorem above_ups (n : Nat) : ∀ (u c : ByteArray), c.size ≤ n → bs u ≠ [] → aboveB u c = true → u ∈ ups c := by
 induction n with
 | zero =>
  intro u c h hu ha
  obtain ⟨y, e⟩ := (above_text hu).1 ha
  have := congrArg List.length e
  rw [bs_size] at this
  simp at this
  omega
 | succ n ih =>
  intro u c h hu ha
  obtain ⟨y, e⟩ := (above_text hu).1 ha
  have h0 : bs c ≠ [] := by rw [e]; simp
  have h1 := dirB_less h0
  rw [ups_cons h0]
  refine List.mem_cons_of_mem _ ?_
  have ec : c = mk (bs u ++ 47 :: y) := by rw [← e, mk_bs]
  rcases last_slash y with hy | ⟨y1, y2, rfl, hy⟩
  ·rw [ec, dir_split hy, mk_bs]; exact self_ups hu
  ·have ed : dirB c = mk (bs u ++ 47 :: y1) := by
    rw [ec, show bs u ++ 47 :: (y1 ++ 47 :: y2) = (bs u ++ 47 :: y1) ++ 47 :: y2 by simp, dir_split hy]
   refine ih u (dirB c) (by omega) hu ((above_text hu).2 ⟨y1, by rw [ed, bs_mk]⟩)
theorem mem_ups {u c : ByteArray} : u ∈ ups c ↔ bs u ≠ [] ∧ (u = c ∨ aboveB u c = true) := by
 constructor
 ·exact fun h => ⟨(ups_size c.size c (Nat.le_refl _) u h).2, ups_above c.size c (Nat.le_refl _) u h⟩
 ·rintro ⟨h0, rfl | h⟩
  ·exact self_ups h0
  ·exact above_ups c.size u c (Nat.le_refl _) h0 h
theorem ups_falls (n : Nat) : ∀ c : ByteArray, c.size ≤ n → (ups c).Pairwise (fun a b => cB b a < 0) := by
 induction n with
 | zero =>
  intro c h
  have : bs c = [] := List.eq_nil_of_length_eq_zero (by rw [bs_size]; omega)
  rw [ups_nil this]; exact List.Pairwise.nil
 | succ n ih =>
  intro c h
  by_cases h0 : bs c = []
  ·rw [ups_nil h0]; exact List.Pairwise.nil
  ·have h1 := dirB_less h0
   rw [ups_cons h0]
   refine List.pairwise_cons.2 ⟨fun x hx => ?_, ih (dirB c) (by omega)⟩
   have hx2 := mem_ups.1 (show x ∈ ups c by rw [ups_cons h0]; exact List.mem_cons_of_mem _ hx)
   rcases hx2.2 with e | e
   ·exfalso
    have h3 := (ups_size (dirB c).size (dirB c) (Nat.le_refl _) x hx).1
    rw [e] at h3
    omega
   ·exact above_lt e
theorem ups_rise (c : ByteArray) : Rises (ups c).reverse := List.pairwise_reverse.2 (ups_falls c.size c (Nat.le_refl _))
def stepD (out : List ByteArray) (u : ByteArray) : List ByteArray := if out.length = 0 then out ++ [u] else if cB (out.getD (out.length - 1) ByteArray.empty) u < 0 then out ++ [u] else out
def dirsR (k : List ByteArray) : List ByteArray := k.foldl (fun out c => (ups c).reverse.foldl stepD out) []
theorem rises_last {out : List ByteArray} (hr : Rises out) {z : ByteArray} (hz : z ∈ out) : z = out.getD (out.length - 1) ByteArray.empty ∨ cB z (out.getD (out.length - 1) ByteArray.empty) < 0 := le_last hr (by intro e; rw [List.eq_nil_of_length_eq_zero e] at hz; simp at hz) hz
theorem rises_snoc {out : List ByteArray} (hr : Rises out) {u : ByteArray} (h : ∀ z ∈ out, cB z u < 0) : Rises (out ++ [u]) := by
 refine List.pairwise_append.2 ⟨hr, List.pairwise_singleton _ _, fun a ha b hb => ?_⟩
 rw [List.mem_singleton.1 hb]; exact h a ha
theorem chain_steps {k1 : List ByteArray} {c : ByteArray} (hc : ∀ x ∈ k1, cB x c < 0) : ∀ (us vs out : List ByteArray), (ups c).reverse = vs ++ us → Rises out → (∀ z, z ∈ out ↔ z ∈ vs ∨ ∃ d ∈ k1, z ∈ ups d) →
  Rises (us.foldl stepD out) ∧ ∀ z, z ∈ us.foldl stepD out ↔ z ∈ vs ++ us ∨ ∃ d ∈ k1, z ∈ ups d
 | [], vs, out, _, hr, hm => ⟨hr, fun z => by rw [List.append_nil]; exact hm z⟩
 | u :: us, vs, out, he, hr, hm => by
  have hu : u ∈ ups c := by rw [← List.mem_reverse, he]; simp
  have huA := (mem_ups.1 hu)
  have key : stepD out u = if u ∈ out then out else out ++ [u] := by
   unfold stepD
   by_cases h0 : out.length = 0
   ·rw [if_pos h0, if_neg (by rw [List.eq_nil_of_length_eq_zero h0]; simp)]
   ·rw [if_neg h0]
    by_cases hin : u ∈ out
    ·rw [if_pos hin, if_neg]
     rcases rises_last hr hin with e | e
     ·rw [← e, cB_self]; omega
     ·have := cB_neg u (out.getD (out.length - 1) ByteArray.empty); omega
    ·rw [if_neg hin, if_pos]
     have hl := last_mem h0
     generalize out.getD (out.length - 1) ByteArray.empty = q at hl
     rcases Int.lt_trichotomy (cB q u) 0 with h | h | h
     ·exact h
     ·exact absurd (cB_eq h ▸ hl) hin
     ·exfalso
      have hlt : cB u q < 0 := by have := cB_neg q u; omega
      rcases (hm q).1 hl with hq | ⟨d, hd, hq⟩
      ·have hrr := ups_rise c
       rw [he] at hrr
       have := (List.pairwise_append.1 hrr).2.2 q hq u List.mem_cons_self
       omega
      ·have hqd := mem_ups.1 hq
       have hdc := hc d hd
       have hqc : cB q c < 0 := by
        rcases hqd.2 with e | e
        ·rw [e]; exact hdc
        ·exact cB_trans (above_lt e) hdc
       rcases huA.2 with e | e
       ·rw [e] at hlt; have := cB_neg q c; omega
       ·have huq := above_between e hlt hqc
        have : u ∈ ups d := mem_ups.2 ⟨huA.1, by
         rcases hqd.2 with e2 | e2
         ·rw [← e2]; exact .inr huq
         ·exact .inr (above_trans huq e2)⟩
        exact hin ((hm u).2 (.inr ⟨d, hd, this⟩))
  rw [List.foldl_cons, key]
  have he' : (ups c).reverse = (vs ++ [u]) ++ us := by rw [he]; simp
  by_cases hin : u ∈ out
  ·rw [if_pos hin]
   have := chain_steps hc us (vs ++ [u]) out he' hr fun z => by
    rw [hm z, List.mem_append, List.mem_singleton]
    constructor
    ·rintro (h | h)
     ·exact .inl (.inl h)
     ·exact .inr h
    ·rintro ((h | h) | h)
     ·exact .inl h
     ·rw [h]; exact (hm u).1 hin
     ·exact .inr h
   simpa using this
  ·rw [if_neg hin]
   have h0 : ∀ z ∈ out, cB z u < 0 := by
    have hk := key
    rw [if_neg hin] at hk
    intro z hz
    have hne : out.length ≠ 0 := by intro e; rw [List.eq_nil_of_length_eq_zero e] at hz; simp at hz
    have hlast : cB (out.getD (out.length - 1) ByteArray.empty) u < 0 := by
     unfold stepD at hk
     rw [if_neg hne] at hk
     by_cases h : cB (out.getD (out.length - 1) ByteArray.empty) u < 0
     ·exact h
     ·rw [if_neg h] at hk
      have := congrArg List.length hk
      simp at this
    rcases rises_last hr hz with e | e
    ·rw [e]; exact hlast
    ·exact cB_trans e hlast
   have := chain_steps hc us (vs ++ [u]) (out ++ [u]) he' (rises_snoc hr h0) fun z => by
    rw [List.mem_append, hm z, List.mem_append]
    constructor
    ·rintro ((h | h) | h)
     ·exact .inl (.inl h)
     ·exact .inr h
     ·exact .inl (.inr h)
    ·rintro ((h | h) | h)
     ·exact .inl (.inl h)
     ·exact .inr h
     ·exact .inl (.inr h)
   simpa using this
theorem dirsR_run : ∀ (k2 k1 out : List ByteArray), (k1 ++ k2).Pairwise Apart2 → Rises out → (∀ z, z ∈ out ↔ ∃ d ∈ k1, z ∈ ups d) →
  Rises (k2.foldl (fun out c => (ups c).reverse.foldl stepD out) out) ∧ ∀ z, z ∈ k2.foldl (fun out c => (ups c).reverse.foldl stepD out) out ↔ ∃ d ∈ k1 ++ k2, z ∈ ups d
 | [], k1, out, _, hr, hm => ⟨hr, fun z => by rw [List.append_nil]; exact hm z⟩
 | c :: k2, k1, out, ha, hr, hm => by
  have hc : ∀ x ∈ k1, cB x c < 0 := fun x hx => ((List.pairwise_append.1 ha).2.2 x hx c List.mem_cons_self).1
  obtain ⟨r1, m1⟩ := chain_steps hc (ups c).reverse [] out (by simp) hr (fun z => by rw [hm z]; simp)
  have := dirsR_run k2 (k1 ++ [c]) _ (by rw [List.append_assoc]; exact ha) r1 (fun z => by
   rw [m1 z, List.nil_append, List.mem_reverse]
   constructor
   ·rintro (h | ⟨d, hd, h⟩)
    ·exact ⟨c, by simp, h⟩
    ·exact ⟨d, by simp [hd], h⟩
   ·rintro ⟨d, hd, h⟩
    rcases List.mem_append.1 hd with hd | hd
    ·exact .inr ⟨d, hd, h⟩
    ·rw [List.mem_singleton.1 hd] at h; exact .inl h)
  rw [List.append_assoc] at this
  exact this
theorem dirsR_is {k : List ByteArray} (h : k.Pairwise Apart2) : dirsR k = dirsT k := by
 obtain ⟨r1, m1⟩ := dirsR_run k [] [] (by simpa using h) List.Pairwise.nil (by simp)
 exact rises_uniq _ _ r1 (rises_norm _) fun z => by
  rw [show dirsR k = k.foldl (fun out c => (ups c).reverse.foldl stepD out) [] from rfl, m1 z, mem_dirsT, List.nil_append]
end Go.Proofs.YtehfogjibhnabaaDoor.PAll
namespace Go.Proofs.YtehfogjibhnabaaDoor.PAll
open Go.RowKit Go.Proofs.YtehfogjibhnabaaDoorW.PrintWords Go.Proofs.YtehfogjibhnabaaDoorW.PrintLast Go.Proofs.YtehfogjibhnabaaDoorW.PrintMore
open Go.Proofs.YtehfogjibhnabaaDoor.Sp
theorem byte_is (v : Int) : copseref02_Byte.f v = some (okc v) := by
 unfold copseref02_Byte.f
 by_cases h : okc v = true
 ·rw [h]
  simp only [okc, Bool.or_eq_true, Bool.and_eq_true, decide_eq_true_eq] at h
  repeat' split
  all_goals first | rfl | (exfalso; omega) | (congr 1; simp; omega)
 ·rw [Bool.not_eq_true] at h
  rw [h]
  simp only [okc, Bool.or_eq_false_iff, Bool.and_eq_false_iff, decide_eq_false_iff_not] at h
  repeat' split
  all_goals first | rfl | (exfalso; omega) | (congr 1; simp; omega)
theorem comp02_run (a : ByteArray) (ha : a.size ≤ 4294967296) (d : Nat) : ∀ i, a.size - i = d → i ≤ a.size → Ev (fun k => copseref02_Component.l0 k a (i : Int)) (((bs a).drop i).all fun c => okc (c.toNat : Int)) := by
 induction d with
 | zero =>
  intro i hd hi
  refine ⟨1, fun k hk => ?_⟩
  obtain ⟨k, rfl⟩ : ∃ m, k = m + 1 := ⟨k - 1, by omega⟩
  simp only [copseref02_Component.l0]
  rw [if_neg (by omega), List.drop_of_length_le (by rw [bs_size]; omega)]; rfl
 | succ d ih =>
  intro i hd hi
  have hv := bt_get a i (by omega)
  obtain ⟨K, hK⟩ := ih (i + 1) (by omega) (by omega)
  rw [bs_drop a i (by omega), List.all_cons, ← hv]
  dsimp only at hK
  refine ⟨K + 1, fun k hk => ?_⟩
  obtain ⟨k, rfl⟩ : ∃ m, k = m + 1 := ⟨k - 1, by omega⟩
  have hk1 := hK k (by omega)
  simp only [copseref02_Component.l0]
  rw [if_pos (by omega), if_pos (by omega), byte_is, Option.bind_some, wrap_succ (n := a.size) (by omega) (by omega), hk1]
  cases okc (bt a (i : Int)) <;> simp
theorem ref_comp (a : ByteArray) (ha : a.size ≤ 4294967296) : Ev (fun k => copseref02_Component.f k a) (compB a) := by
 have hj : Ev (fun k => copseref02_Component.j0 k a true) false := ⟨1, fun k hk => by
  obtain ⟨k, rfl⟩ : ∃ m, k = m + 1 := ⟨k - 1, by omega⟩
  simp [copseref02_Component.j0]⟩
 unfold copseref02_Component.f compB
 simp only [toList_bs]
 by_cases h1 : bs a = []
 ·have hz : (a.size : Int) < 1 := by have := bs_size a; rw [h1] at this; simp at this; omega
  simp only [if_pos hz]; exact Ev.val hj (by simp [h1])
 ·have hz : ¬ (a.size : Int) < 1 := fun h => h1 (List.length_eq_zero_iff.1 (by rw [bs_size]; omega))
  simp only [if_neg hz]
  by_cases h2 : (a.size : Int) > 32
  ·simp only [if_pos h2]; exact Ev.val hj (by simp; omega)
  ·simp only [if_neg h2]
   by_cases h3 : bs a = [46]
   ·simp only [h3, if_true]; exact Ev.val hj (by simp)
   ·simp only [if_neg h3]
    by_cases h4 : bs a = [46, 46]
    ·simp only [h4, if_true]; exact Ev.val hj (by simp)
    ·simp only [if_neg h4]
     by_cases h5 : bs a = [46, 46, 46]
     ·simp only [h5, beq_self_eq_true]; exact Ev.val hj (by simp)
     ·have e5 : (bs a == [46, 46, 46]) = false := beq_eq_false_iff_ne.mpr h5
      simp only [e5]
      obtain ⟨K, hK⟩ := comp02_run a ha a.size 0 (by omega) (by omega)
      dsimp only at hK
      refine ⟨K + 1, fun k hk => ?_⟩
      obtain ⟨k, rfl⟩ : ∃ m, k = m + 1 := ⟨k - 1, by omega⟩
      have := hK k (by omega)
      simp only [copseref02_Component.j0, Bool.false_eq_true, if_false]
      rw [show ((0 : Nat) : Int) = 0 from rfl] at this
      rw [this]
      have g2 : a.size ≤ 32 := by omega
      simp [h1, g2, h3, h4]
theorem refv_run (x : List ByteArray) (hx : x.length ≤ 4294967296) (hs : ∀ p ∈ x, p.size ≤ 4294967296) (d : Nat) : ∀ i, x.length - i = d → i ≤ x.length → Ev (fun k => copseref02_Valid.l0 k x (i : Int)) ((x.drop i).all compB) := by
 induction d with
 | zero =>
  intro i hd hi
  refine ⟨1, fun k hk => ?_⟩
  obtain ⟨k, rfl⟩ : ∃ m, k = m + 1 := ⟨k - 1, by omega⟩
  simp only [copseref02_Valid.l0]
  rw [if_neg (by omega), List.drop_of_length_le (by omega)]; rfl
 | succ d ih =>
  intro i hd hi
  have hm := rd_mem x i (by omega)
  obtain ⟨K, hK⟩ := ih (i + 1) (by omega) (by omega)
  obtain ⟨K1, hK1⟩ := ref_comp _ (hs _ hm)
  rw [rdOf_drop x i (by omega), List.all_cons]
  dsimp only at hK hK1
  refine ⟨max K K1 + 1, fun k hk => ?_⟩
  obtain ⟨k, rfl⟩ : ∃ m, k = m + 1 := ⟨k - 1, by omega⟩
  simp only [copseref02_Valid.l0]
  rw [if_pos (by omega), if_pos (by omega), hK1 k (by omega), Option.bind_some, wrap_succ (n := x.length) (by omega) (by omega), hK k (by omega)]
  cases compB (rdOf ByteArray.empty x (i : Int)) <;> simp
theorem refv_j0 (a : ByteArray) (ha : a.size ≤ 4294967295) (b : Bool) : Ev (fun k => copseref02_Valid.j0 k (pB a) b) (if b = true then false else (pB a).all compB) := by
 cases b with
 | true => exact ⟨1, fun k hk => by
   obtain ⟨k, rfl⟩ : ∃ m, k = m + 1 := ⟨k - 1, by omega⟩
   simp [copseref02_Valid.j0]⟩
 | false =>
  have hl := pB_length_le a
  obtain ⟨K, hK⟩ := refv_run (pB a) (by omega) (fun p hp => by have := pB_piece_le a p hp; omega) (pB a).length 0 (by omega) (by omega)
  dsimp only at hK
  refine ⟨K + 1, fun k hk => ?_⟩
  obtain ⟨k, rfl⟩ : ∃ m, k = m + 1 := ⟨k - 1, by omega⟩
  simp only [copseref02_Valid.j0, Bool.false_eq_true, if_false]
  exact hK k (by omega)
theorem ref_valid (a : ByteArray) (ha : a.size ≤ 4294967295) : Ev (fun k => copseref02_Valid.f k a) (validB a) := by
 unfold copseref02_Valid.f validB
 refine Ev.bind (ref_split a (by omega)) ?_
 by_cases h1 : (a.size : Int) > 120
 ·simp only [if_pos h1]; exact Ev.val (refv_j0 a ha true) (by simp; omega)
 ·simp only [if_neg h1]
  refine Ev.val (refv_j0 a ha _) ?_
  have g1 : a.size ≤ 120 := by omega
  by_cases h2 : ((pB a).length : Int) > 12
  ·simp [h2, g1]; omega
  ·have g2 : (pB a).length ≤ 12 := by omega
   simp [h2, g1, g2]
end Go.Proofs.YtehfogjibhnabaaDoor.PAll
namespace Go.Proofs.YtehfogjibhnabaaDoor.PAll
open Go.RowKit Go.Proofs.YtehfogjibhnabaaDoorW.PrintWords Go.Proofs.YtehfogjibhnabaaDoorW.PrintLast Go.Proofs.YtehfogjibhnabaaDoorW.PrintMore
open Go.Proofs.YtehfogjibhnabaaDoor.Sp
theorem has17_run (l : List ByteArray) (p : ByteArray) (hl : l.length ≤ 4294967296) (d : Nat) : ∀ i, l.length - i = d → i ≤ l.length → Ev (fun k => copseref17_has.l0 k l p (i : Int)) (decide (p ∈ l.drop i)) := by
 induction d with
 | zero =>
  intro i hd hi
  refine ⟨1, fun k hk => ?_⟩
  obtain ⟨k, rfl⟩ : ∃ m, k = m + 1 := ⟨k - 1, by omega⟩
  simp only [copseref17_has.l0]
  rw [if_neg (by omega), List.drop_of_length_le (by omega)]; rfl
 | succ d ih =>
  intro i hd hi
  obtain ⟨K, hK⟩ := ih (i + 1) (by omega) (by omega)
  dsimp only at hK
  refine ⟨K + 1, fun k hk => ?_⟩
  obtain ⟨k, rfl⟩ : ∃ m, k = m + 1 := ⟨k - 1, by omega⟩
  simp only [copseref17_has.l0]
  rw [if_pos (by omega), if_pos (by omega), rdOf_drop l i (by omega)]
  by_cases h : rdOf ByteArray.empty l (i : Int) = p
  ·rw [if_pos (by rw [h]), h]; simp
  ·rw [if_neg (fun e => h (bs_inj (by rw [← toList_bs, ← toList_bs]; exact e))), wrap_succ (n := l.length) (by omega) (by omega), hK k (by omega)]
   simp [Ne.symm h]
theorem has17 (l : List ByteArray) (p : ByteArray) (hl : l.length ≤ 4294967296) : Ev (fun k => copseref17_has.f k l p) (decide (p ∈ l)) :=
 has17_run l p hl l.length 0 (by omega) (by omega)
theorem cones17_run (x : List ByteArray) (hx : x.length ≤ 4294967296) (hf : Fits x) (d : Nat) : ∀ i, x.length - i = d → i ≤ x.length → Ev (fun k => copseref17_Cones.l0 k x (i : Int)) (coneR (before x i) (x.drop i)) := by
 induction d with
 | zero =>
  intro i hd hi
  refine ⟨1, fun k hk => ?_⟩
  obtain ⟨k, rfl⟩ : ∃ m, k = m + 1 := ⟨k - 1, by omega⟩
  simp only [copseref17_Cones.l0]
  rw [if_neg (by omega), List.drop_of_length_le (by omega)]
  cases before x i <;> simp [coneR]
 | succ d ih =>
  intro i hd hi
  have hs := hf.at_ (show i < x.length by omega)
  obtain ⟨K, hK⟩ := ih (i + 1) (by omega) (by omega)
  obtain ⟨K1, hK1⟩ := ref_valid (rdOf ByteArray.empty x (i : Int)) (by omega)
  rw [rdOf_drop x i (by omega)]
  have hb : before x (i + 1) = some (rdOf ByteArray.empty x (i : Int)) := by simp [before]
  rw [hb] at hK
  dsimp only at hK hK1
  by_cases h0 : i = 0
  ·subst h0
   refine ⟨max K K1 + 1, fun k hk => ?_⟩
   obtain ⟨k, rfl⟩ : ∃ m, k = m + 1 := ⟨k - 1, by omega⟩
   simp only [copseref17_Cones.l0]
   rw [if_pos (by omega), if_pos (by omega), hK1 k (by omega), Option.bind_some]
   have h1 := hK k (by omega)
   rw [show before x 0 = none from rfl]
   unfold coneR
   cases validB (rdOf ByteArray.empty x ((0 : Nat) : Int)) with
   | false => simp
   | true =>
    rw [if_pos rfl, if_neg (by omega), wrap_succ (n := x.length) (by omega) (by omega), h1]
    simp
  ·have hs1 := hf.at_ (show i - 1 < x.length by omega)
   obtain ⟨K2, hK2⟩ := ref_cmp (rdOf ByteArray.empty x ((i - 1 : Nat) : Int)) (rdOf ByteArray.empty x (i : Int)) (by omega) (by omega)
   obtain ⟨K3, hK3⟩ := ref_above (rdOf ByteArray.empty x ((i - 1 : Nat) : Int)) (rdOf ByteArray.empty x (i : Int)) (by omega) (by omega)
   dsimp only at hK2 hK3
   refine ⟨max K (max K1 (max K2 K3)) + 1, fun k hk => ?_⟩
   obtain ⟨k, rfl⟩ : ∃ m, k = m + 1 := ⟨k - 1, by omega⟩
   have ew : wrap64 ((i : Int) - 1) = ((i - 1 : Nat) : Int) := by rw [wrap_add (by omega) (by omega)]; omega
   simp only [copseref17_Cones.l0]
   rw [if_pos (by omega), if_pos (by omega), hK1 k (by omega), Option.bind_some, ew]
   have h1 := hK k (by omega)
   rw [show before x i = some (rdOf ByteArray.empty x ((i - 1 : Nat) : Int)) from by simp [before, h0]]
   unfold coneR
   cases validB (rdOf ByteArray.empty x (i : Int)) with
   | false => simp
   | true =>
    rw [if_pos rfl, if_pos (by omega), if_pos (by omega), if_pos (by omega), hK2 k (by omega), Option.bind_some]
    by_cases c1 : cB (rdOf ByteArray.empty x ((i - 1 : Nat) : Int)) (rdOf ByteArray.empty x (i : Int)) < 0
    ·rw [if_neg (by omega), hK3 k (by omega), Option.bind_some]
     cases c2 : aboveB (rdOf ByteArray.empty x ((i - 1 : Nat) : Int)) (rdOf ByteArray.empty x (i : Int)) with
     | true => simp
     | false =>
      rw [if_neg (by simp), wrap_succ (n := x.length) (by omega) (by omega), h1]
      simp [c1]
    ·rw [if_pos (by omega)]
     simp [c1]
theorem cones17 (x : List ByteArray) (hx : x.length ≤ 4294967296) (hf : Fits x) : Ev (fun k => copseref17_Cones.f k x) (coneR none x) :=
 Ev.val (cones17_run x hx hf x.length 0 (by omega) (by omega)) (by rw [show before x 0 = none from rfl, List.drop_zero])
theorem take_next' (l : List ByteArray) (i : Nat) (h : i < l.length) : l.take (i + 1) = l.take i ++ [rdOf ByteArray.empty l (i : Int)] := by
 rw [List.take_add_one]
 congr 1
 simp [rdOf, List.getD_eq_getElem?_getD, List.getElem?_eq_getElem h]
theorem dirs17_l2 (x out up : List ByteArray) (i : Nat) (R : List ByteArray) (hf : Fits up) (_hup : up.length ≤ 1073741824)
  (next : ∀ out', Fits out' → out'.length ≤ out.length + up.length → out' = up.reverse.foldl stepD out → Ev (fun k => copseref17_dirs.l0 k x out' (wrap64 ((i : Int) + 1))) R) :
  ∀ (j : Nat) (o : List ByteArray), j ≤ up.length → Fits o → o.length + j ≤ out.length + up.length → out.length + up.length ≤ 4294967296 → (up.take j).reverse.foldl stepD o = up.reverse.foldl stepD out →
   Ev (fun k => copseref17_dirs.l2 k x o (i : Int) up ((j : Int) - 1)) R := by
 intro j
 induction j with
 | zero =>
  intro o hj hfo hlo hb he
  refine Ev.step (f := fun k => copseref17_dirs.l0 k x o (wrap64 ((i : Int) + 1))) (fun k => ?_) (next o hfo (by omega) (by simpa using he))
  simp only [copseref17_dirs.l2]
  rw [if_neg (by omega)]
 | succ j ih =>
  intro o hj hfo hlo hb he
  have hjl : j < up.length := by omega
  have hu := hf.at_ hjl
  have e1 : up.take (j + 1) = up.take j ++ [rdOf ByteArray.empty up (j : Int)] := take_next' up j hjl
  generalize hru : rdOf ByteArray.empty up (j : Int) = u at hu e1
  rw [e1, List.reverse_append, List.reverse_singleton, List.singleton_append, List.foldl_cons] at he
  have ew : wrap64 (((j + 1 : Nat) : Int) - 1 - 1) = (j : Int) - 1 := by rw [wrap_add (by omega) (by omega)]; omega
  have ej : ((j + 1 : Nat) : Int) - 1 = (j : Int) := by omega
  by_cases h0 : o.length = 0
  ·have hs : stepD o u = o ++ [u] := by unfold stepD; rw [if_pos h0]
   rw [hs] at he
   have hn := ih (o ++ [u]) (by omega) (fun p hp => by rcases List.mem_append.1 hp with hp | hp; exact hfo p hp; rw [List.mem_singleton.1 hp]; exact hu) (by rw [List.length_append]; simp; omega) hb he
   refine Ev.step (f := fun k => copseref17_dirs.l2 k x (o ++ [u]) (i : Int) up ((j : Int) - 1)) (fun k => ?_) hn
   simp only [copseref17_dirs.l2]
   rw [ew, ej, if_pos (by omega), if_pos (by omega), if_pos (by omega), if_pos (by omega), if_pos (by omega), hru]
  ·have hl := last_mem h0
   have er : rdOf ByteArray.empty o (wrap64 ((o.length : Int) - 1)) = o.getD (o.length - 1) ByteArray.empty := by
    rw [wrap_add (by omega) (by omega), show (o.length : Int) - 1 = ((o.length - 1 : Nat) : Int) by omega]; exact rdOf_getD o (o.length - 1)
   have hwb : 0 ≤ wrap64 ((o.length : Int) - 1) ∧ wrap64 ((o.length : Int) - 1) < o.length := by rw [wrap_add (by omega) (by omega)]; omega
   obtain ⟨K1, hK1⟩ := ref_cmp (o.getD (o.length - 1) ByteArray.empty) u (by have := hfo _ hl; omega) (by omega)
   dsimp only at hK1
   by_cases hc : cB (o.getD (o.length - 1) ByteArray.empty) u < 0
   ·have hs : stepD o u = o ++ [u] := by unfold stepD; rw [if_neg h0, if_pos hc]
    rw [hs] at he
    obtain ⟨K, hK⟩ := ih (o ++ [u]) (by omega) (fun p hp => by rcases List.mem_append.1 hp with hp | hp; exact hfo p hp; rw [List.mem_singleton.1 hp]; exact hu) (by rw [List.length_append]; simp; omega) hb he
    dsimp only at hK
    refine ⟨max K K1 + 1, fun k hk => ?_⟩
    obtain ⟨k, rfl⟩ : ∃ m, k = m + 1 := ⟨k - 1, by omega⟩
    simp only [copseref17_dirs.l2]
    rw [ew, ej, if_pos (by omega), if_neg (by omega), if_pos hwb.1, if_pos hwb.2, if_pos (by omega), if_pos (by omega), er, hru, hK1 k (by omega), Option.bind_some, if_pos hc, if_pos (by omega)]
    exact hK k (by omega)
   ·have hs : stepD o u = o := by unfold stepD; rw [if_neg h0, if_neg hc]
    rw [hs] at he
    obtain ⟨K, hK⟩ := ih o (by omega) hfo (by omega) hb he
    dsimp only at hK
    refine ⟨max K K1 + 1, fun k hk => ?_⟩
    obtain ⟨k, rfl⟩ : ∃ m, k = m + 1 := ⟨k - 1, by omega⟩
    simp only [copseref17_dirs.l2]
    rw [ew, ej, if_pos (by omega), if_neg (by omega), if_pos hwb.1, if_pos hwb.2, if_pos (by omega), if_pos (by omega), er, hru, hK1 k (by omega), Option.bind_some, if_neg hc]
    exact hK k (by omega)
theorem dirs17_l1 (x out : List ByteArray) (i : Nat) (R : List ByteArray) (c : ByteArray) (hcs : c.size ≤ 4294967)
  (next : Ev (fun k => copseref17_dirs.l2 k x out (i : Int) (ups c) (((ups c).length : Int) - 1)) R) (n : Nat) :
  ∀ (d : ByteArray) (up : List ByteArray), d.size ≤ n → d.size ≤ c.size → up.length + d.size ≤ c.size → up ++ ups d = ups c → Ev (fun k => copseref17_dirs.l1 k x out (i : Int) up d) R := by
 induction n with
 | zero =>
  intro d up hd hdc hul he
  have h0 : bs d = [] := List.eq_nil_of_length_eq_zero (by rw [bs_size]; omega)
  rw [ups_nil h0, List.append_nil] at he
  refine Ev.step (f := fun k => copseref17_dirs.l2 k x out (i : Int) up ((up.length : Int) - 1)) (fun k => ?_) (by rw [he]; exact next)
  simp only [copseref17_dirs.l1]
  rw [if_pos (by rw [toList_bs]; exact h0), wrap_add (by omega) (by omega)]
 | succ n ih =>
  intro d up hd hdc hul he
  by_cases h0 : bs d = []
  ·rw [ups_nil h0, List.append_nil] at he
   refine Ev.step (f := fun k => copseref17_dirs.l2 k x out (i : Int) up ((up.length : Int) - 1)) (fun k => ?_) (by rw [he]; exact next)
   simp only [copseref17_dirs.l1]
   rw [if_pos (by rw [toList_bs]; exact h0), wrap_add (by omega) (by omega)]
  ·have h1 := dirB_less h0
   rw [ups_cons h0] at he
   obtain ⟨K1, hK1⟩ := ref_dir d (by omega)
   obtain ⟨K, hK⟩ := ih (dirB d) (up ++ [d]) (by omega) (by omega) (by rw [List.length_append]; simp; omega) (by rw [List.append_assoc]; exact he)
   dsimp only at hK hK1
   refine ⟨max K K1 + 1, fun k hk => ?_⟩
   obtain ⟨k, rfl⟩ : ∃ m, k = m + 1 := ⟨k - 1, by omega⟩
   simp only [copseref17_dirs.l1]
   rw [if_neg (by rw [toList_bs]; exact h0), if_pos (by omega), hK1 k (by omega), Option.bind_some]
   exact hK k (by omega)
theorem dirs17_run (x : List ByteArray) (hx : x.length ≤ 1048576) (hv : ∀ p ∈ x, p.size ≤ 120) (d : Nat) : ∀ (i : Nat) (out : List ByteArray), x.length - i = d → i ≤ x.length → Fits out → out.length ≤ 120 * i →
  Ev (fun k => copseref17_dirs.l0 k x out (i : Int)) ((x.drop i).foldl (fun out c => (ups c).reverse.foldl stepD out) out) := by
 induction d with
 | zero =>
  intro i out hd hi hfo hlo
  refine ⟨1, fun k hk => ?_⟩
  obtain ⟨k, rfl⟩ : ∃ m, k = m + 1 := ⟨k - 1, by omega⟩
  simp only [copseref17_dirs.l0]
  rw [if_neg (by omega), List.drop_of_length_le (by omega)]; rfl
 | succ d ih =>
  intro i out hd hi hfo hlo
  have hil : i < x.length := by omega
  rw [rdOf_drop x i hil, List.foldl_cons]
  have hcs : (rdOf ByteArray.empty x (i : Int)).size ≤ 120 := hv _ (rd_mem x i hil)
  generalize hrc : rdOf ByteArray.empty x (i : Int) = c at hcs
  have hul := ups_length c.size c (Nat.le_refl _)
  have hfu : Fits (ups c) := fun p hp => by have := (ups_size c.size c (Nat.le_refl _) p hp).1; omega
  have h2 := dirs17_l2 x out (ups c) i ((x.drop (i + 1)).foldl (fun out c => (ups c).reverse.foldl stepD out) ((ups c).reverse.foldl stepD out)) hfu (by omega)
   (fun out' hf' hl' he' => by
    rw [wrap_succ (n := x.length) (by omega) (by omega), ← he']
    exact ih (i + 1) out' (by omega) (by omega) hf' (by omega)) (ups c).length out (Nat.le_refl _) hfo (by omega) (by omega) (by rw [List.take_length])
  have h1 := dirs17_l1 x out i _ c (by omega) h2 c.size c [] (Nat.le_refl _) (Nat.le_refl _) (by simp) (by simp)
  refine Ev.step (f := fun k => copseref17_dirs.l1 k x out (i : Int) [] c) (fun k => ?_) h1
  simp only [copseref17_dirs.l0]
  rw [if_pos (by omega), if_pos (by omega), hrc]
theorem dirs17 (x : List ByteArray) (hx : x.length ≤ 1048576) (hv : ∀ p ∈ x, p.size ≤ 120) (ha : x.Pairwise Apart2) : Ev (fun k => copseref17_dirs.f k x) (dirsT x) := by
 rw [← dirsR_is ha]
 exact dirs17_run x hx hv x.length 0 [] (by omega) (by omega) (fun p hp => absurd hp (by simp)) (Nat.zero_le _)
end Go.Proofs.YtehfogjibhnabaaDoor.PAll
namespace Go.Proofs.YtehfogjibhnabaaDoor.PAll
open Go.RowKit Go.Shelf Go.Proofs.YtehfogjibhnabaaDoorW.PrintWords Go.Proofs.YtehfogjibhnabaaDoorW.PrintLast Go.Proofs.YtehfogjibhnabaaDoorW.PrintMore
open Go.Proofs.YtehfogjibhnabaaDoor.Sp
theorem sizeB : (Tryd.prog.info? 83).map (·.size) = some 2 := by kernel_rfl
theorem liesB : liesAt Tryd.prog Tryd.prog.depth 83 (2 / Tryd.prog.cellsOf 83) 0 83 1 = true := by kernel_rfl
theorem infoByteB : (Tryd.prog.info? 5).map (fun i => (i.zero, i.size, i.bytes)) = some (some (.int .u8 0), 1, 1) := by kernel_rfl
set_option maxHeartbeats 1000000 in
set_option maxRecDepth 100000 in
theorem check_used (b : Nat) (w : World) (h0 : w.cell? ⟨b, 0, none⟩ = some (.pointer (some ⟨b, 0, none⟩))) :
  Calls Tryd.prog 92 #[.pointer (some ⟨b, 0, none⟩)] w fun e w' => e = .returned (.tuple #[]) ∧ w' = w := by
 obtain ⟨j, hj, _⟩ := Option.map_eq_some_iff.1 sizeB
 go_enter Tryd.func92, Tryd.ntmps92
 go_wp2
 rw [Lib.run_neq_ptr_same w _ Tryd.underlying80 hj]
 try simp only [Result.andThen]
 try rw [Oper.upon_value]
 go_wp2
 go_end0
 exact ⟨rfl, rfl⟩
set_option maxHeartbeats 1000000 in
set_option maxRecDepth 100000 in
theorem check_fresh (b : Nat) (w : World) (h0 : w.cell? ⟨b, 0, none⟩ = some (.pointer none)) (hsh : w.shape? b = some (83, 2)) (hfz : w.frozen? ⟨b, 0, none⟩ = false) :
  Calls Tryd.prog 92 #[.pointer (some ⟨b, 0, none⟩)] w fun e w' => e = .returned (.tuple #[]) ∧ w' = w.setCell ⟨b, 0, none⟩ (.pointer (some ⟨b, 0, none⟩)) := by
 obtain ⟨j, hj, hjs⟩ := Option.map_eq_some_iff.1 sizeB
 go_enter Tryd.func92, Tryd.ntmps92
 go_wp2
 rw [Lib.run_to_unsafe w ⟨b, 0, none⟩ Tryd.underlying80 Tryd.underlying121 hj (by rw [hjs]; decide) hsh (Nat.zero_lt_succ 1)]
 simp only [Result.andThen]
 rw [Oper.upon_value]
 go_wp2
 rw [run_callFunc_extern Tryd.func115 (by kernel_rfl) (by kernel_rfl) (by kernel_rfl) (e := Extern.AbiNoEscape.same) (by kernel_rfl)]
 rw [Lib.run_noEscape]
 simp only [Result.andThen]
 rw [Oper.upon_value]
 go_wp2
 rw [Lib.run_from_unsafe w ⟨b, 0, none⟩ Tryd.underlying121 Tryd.underlying80 hj hsh liesB]
 simp only [Result.andThen]
 rw [Oper.upon_value]
 go_wp2
 go_end0
 exact ⟨rfl, rfl⟩
abbrev BU (B b : Nat) (l : Str) (w : World) : Prop := Lib.IsBuilder 83 5 B b (Lib.byteCells l) w
theorem check_calls (B b : Nat) (bs : List Value) (w : World) (h : Lib.IsBuilder 83 5 B b bs w) :
  Calls Tryd.prog 92 #[.pointer (some ⟨b, 0, none⟩)] w fun e w' => e = .returned (.tuple #[]) ∧ (Lib.BuilderAt 83 5 B b (.pointer (some ⟨b, 0, none⟩)) bs w' ∧ Below B w w' ∧ Lib.OthersKept 5 (some b) w w') := by
 rcases h with h | h
 ·refine (check_fresh b w h.cell0 h.shape h.frozen0).mono ?_
  rintro e w' ⟨rfl, rfl⟩
  exact ⟨rfl, h.used _, (Below.refl B w).setCell (p := ⟨b, 0, none⟩) h.1 _, (Lib.OthersKept.refl _ _ w).setCell ⟨b, 0, none⟩ rfl _⟩
 ·refine (check_used b w h.cell0).mono ?_
  rintro e w' ⟨rfl, rfl⟩
  exact ⟨rfl, h, Below.refl B _, Lib.OthersKept.refl _ _ _⟩
set_option maxHeartbeats 2000000 in
set_option maxRecDepth 100000 in
theorem write_cells (B b : Nat) (bs : List Value) (s : ByteArray) (w : World) (h : Lib.IsBuilder 83 5 B b bs w) (hlen : bs.length + s.size ≤ 140737488355328) (hBw : B ≤ w.heap.size) :
  Calls Tryd.prog 66 #[.pointer (some ⟨b, 0, none⟩), .string s] w fun e w' => e = .returned (.tuple #[.int .i64 s.size, .nilIface]) ∧ (Lib.BuilderAt 83 5 B b (.pointer (some ⟨b, 0, none⟩)) (bs ++ Lib.strCells s) w' ∧ Below B w w' ∧ Lib.OthersKept 5 (some b) w w') := by
 obtain ⟨i0, hi, hz0, hz1, hz2⟩ := info_parts infoByteB
 go_enter Tryd.func66, Tryd.ntmps66
 go_wp2_with (go_at_call 92; refine (check_calls B b bs _ h).mono ?_)
 rintro e w1 ⟨rfl, h1, hb1, hk1⟩
 obtain ⟨hB, v, hbk, hown, hne⟩ := h1
 have HK1 := Aside0.mk hk1
 clear hk1
 have c0 : w1.cell? ⟨b, 0, none⟩ = some (.pointer (some ⟨b, 0, none⟩)) := by rw [Lib.cell_of_heap hbk]; rfl
 have c1 : w1.cell? ⟨b, 1, none⟩ = some v := by rw [Lib.cell_of_heap hbk]; rfl
 go_wp2_with (at_builtin; refine Lib.wpList_append_own_string _ rfl _ _ 81 9 rfl B 5 i0 Tryd.underlying81 Tryd.underlying9 hi hz0 hz1 hz2 _ _ _ rfl hown s rfl ?c3 ?c4 ?c5 ?_)
 case c3 => unfold maxLen; omega
 case c4 => omega
 case c5 => have := hb1.size; omega
 intro v' w2 hown' hgrow _
 have hlt : b < w1.heap.size := by
  rcases Nat.lt_or_ge b w1.heap.size with h' | h'
  ·exact h'
  ·simp [Array.getElem?_eq_none h'] at hbk
 have hb2 : w2.heap[b]? = some (.cells #[.pointer (some ⟨b, 0, none⟩), v] 83 (0, 0)) := by
  rw [hgrow.block b hlt (fun e => hne e.symm)]
  exact hbk
 have d0 : w2.cell? ⟨b, 0, none⟩ = some (.pointer (some ⟨b, 0, none⟩)) := by rw [Lib.cell_of_heap hb2]; rfl
 have d1 : w2.cell? ⟨b, 1, none⟩ = some v := by rw [Lib.cell_of_heap hb2]; rfl
 have f1 : w2.frozen? ⟨b, 1, none⟩ = false := Lib.frozen_of_heap hb2 1
 have KG := Aside0.mk (HK1.out.grown hgrow fun g hg => by
  obtain ⟨cs, hcs⟩ := own_typed hown g hg
  exact ⟨cs, (0, 0), hcs⟩)
 obtain ⟨ao, n', cap, rfl⟩ : ∃ ao n' cap, v' = .slice ao n' cap := by
  rcases hown'.2 with ⟨hv, _⟩ | ⟨g, cap, cur, hv, _⟩
  ·exact ⟨_, _, _, hv⟩
  ·exact ⟨_, _, _, hv⟩
 go_wp2
 go_ret2
 refine ⟨rfl, ?_, ?_, ?_⟩
 ·exact Lib.BuilderAt.put (T := 83) (e := 5) hB hb2 (bs' := bs ++ Lib.strCells s) (by simpa [Lib.strCells_length] using hown') (by decide)
 ·exact (hb1.grown hgrow (by have := hb1.size; omega) (fun k hk => (hown.lt k hk).1)).setCell (p := ⟨b, 1, none⟩) hB _
 ·exact KG.out.setCell ⟨b, 1, none⟩ rfl _
theorem strCells_bytes (s : ByteArray) : Lib.strCells s = Lib.byteCells (bs s) := by
 simp [Lib.strCells, Lib.byteCells, bs]
theorem byteCells_append (a b : Str) : Lib.byteCells (a ++ b) = Lib.byteCells a ++ Lib.byteCells b := by simp [Lib.byteCells]
theorem write_calls (B b : Nat) (l : Str) (s : ByteArray) (w : World) (h : BU B b l w) (hlen : l.length + s.size ≤ 140737488355328) (hBw : B ≤ w.heap.size) :
  Calls Tryd.prog 66 #[.pointer (some ⟨b, 0, none⟩), .string s] w fun e w' => e = .returned (.tuple #[.int .i64 s.size, .nilIface]) ∧ BU B b (l ++ bs s) w' ∧ Below B w w' ∧ Lib.OthersKept 5 (some b) w w' := by
 refine (write_cells B b (Lib.byteCells l) s w h (by rw [Lib.byteCells_length]; exact hlen) hBw).mono ?_
 rintro e w' ⟨rfl, h1, h2, h3⟩
 exact ⟨rfl, .inr (by rw [byteCells_append, ← strCells_bytes]; exact h1), h2, h3⟩
theorem BU.below {B b : Nat} {l : Str} {w w1 : World} (h : BU B b l w) (hb : Below w.heap.size w w1) : BU B b l w1 := by
 have one : ∀ p, Lib.BuilderAt 83 5 B b p (Lib.byteCells l) w → Lib.BuilderAt 83 5 B b p (Lib.byteCells l) w1 := by
  rintro p ⟨hB, v, hbk, hown, hne⟩
  exact ⟨hB, v, (hb.block b (Array.getElem?_eq_some_iff.1 hbk).1).trans hbk, own_move hown fun k hk => hb.block k (own_lt hown k hk), hne⟩
 rcases h with h | h
 ·exact .inl (one _ h)
 ·exact .inr (one _ h)
end Go.Proofs.YtehfogjibhnabaaDoor.PAll
namespace Go.Proofs.YtehfogjibhnabaaDoor.PAll
open Go.RowKit Go.Shelf Go.Proofs.YtehfogjibhnabaaDoorW.PrintWords Go.Proofs.YtehfogjibhnabaaDoorW.PrintLast Go.Proofs.YtehfogjibhnabaaDoorW.PrintMore
open Go.Proofs.YtehfogjibhnabaaDoor.Sp Go.Sort
def upsTo (l : List ByteArray) (i : Nat) : List ByteArray := (l.take i).flatMap ups
theorem upsTo_succ (l : List ByteArray) (i : Nat) (h : i < l.length) : upsTo l (i + 1) = upsTo l i ++ ups (rdOf ByteArray.empty l (i : Int)) := by
 unfold upsTo
 rw [take_next' l i h, List.flatMap_append]
 simp
theorem upsTo_length {l : List ByteArray} (hs : ∀ p ∈ l, p.size ≤ 120) (i : Nat) : (upsTo l i).length ≤ 120 * l.length := by
 have h1 := flatMap_le 120 (l.take i) fun p hp => by
  have h1 := ups_length p.size p (Nat.le_refl _)
  have h2 := hs p (List.mem_of_mem_take hp)
  omega
 rw [List.length_take] at h1
 unfold upsTo
 have : 120 * min i l.length ≤ 120 * l.length := Nat.mul_le_mul_left _ (by omega)
 omega
theorem upsTo_size {l : List ByteArray} (hs : ∀ p ∈ l, p.size ≤ 120) (i : Nat) : ∀ x ∈ upsTo l i, x.size < 4294967281 := fun x hx => by
 obtain ⟨c, hc, hx⟩ := List.mem_flatMap.1 hx
 have h1 := (ups_size c.size c (Nat.le_refl _) x hx).1
 have h2 := hs c (List.mem_of_mem_take hc)
 omega
set_option maxHeartbeats 4000000 in
set_option maxRecDepth 100000 in
theorem profdirs_calls (A0 : Option Addr) (c0 : Nat) (l0 : List ByteArray) (w : World) (hr0 : Kd.C Kd.string w A0 l0.length l0) (hl : l0.length ≤ 1048576) (hs : ∀ p ∈ l0, p.size ≤ 120) :
  Calls Tryd.prog 67 #[.slice A0 l0.length c0] w fun e w' => ∃ v0_ : Value, e = .returned v0_ ∧ Kd.R Kd.string 9 w' w.heap.size (fun _ => True) v0_ (dirsT l0) ∧ Below w.heap.size w w' := by
 have HR := Aside0.mk hr0
 have HS := Aside0.mk hs
 have DIR : Aside0 (∀ d : ByteArray, d.size ≤ 120 → ∃ k, path_Dir.f k d = some (dirB d)) := ⟨fun d hd => Ev.rounds (prog_dir d (by omega))⟩
 clear hr0 hs
 go_enter Tryd.func67, Tryd.ntmps67
 go_wp2
 go_loopg [3, 8] l0.length (fun gg s3 s8 wr => ∃ i : Nat, i ≤ l0.length ∧ l0.length - i ≤ gg ∧ s8 = .int .i64 i ∧ Aside0 (wr.ownsRow w.heap.size 9 1 s3 (encs Value.string (upsTo l0 i)).length (encs Value.string (upsTo l0 i))) ∧ Aside0 (Below w.heap.size w wr))
 case atStart => exact ⟨0, by omega, by omega, rfl, ⟨World.ownsRow_nil _ _ _ _⟩, ⟨Below.refl _ _⟩⟩
 case round =>
  obtain ⟨i, hi, hg, rfl, OX, BX⟩ := hrel
  by_cases hlt : i < l0.length
  ·have hltz : (i : Int) < (l0.length : Int) := by omega
   obtain ⟨ad, rfl, hcell⟩ := Kd.at_string (Kd.C_below HR.out BX.out) (i : Int) (by omega) hltz
   rw [Int.toNat_natCast] at hcell
   have HC : Aside0 ((rdOf ByteArray.empty l0 (i : Int)).size ≤ 120) := ⟨HS.out _ (rd_mem l0 i hlt)⟩
   have HU := Aside0.mk (upsTo_succ l0 i hlt)
   have HLN := Aside0.mk (upsTo_length HS.out (i + 1))
   generalize rdOf ByteArray.empty l0 (i : Int) = c at hcell HC HU
   go_wp2
   go_loopg [3, 5] c.size (fun gg s3 s5 wz => ∃ (d : ByteArray) (xs : List ByteArray), d.size ≤ gg ∧ s5 = .string d ∧ Aside0 (d.size ≤ 120) ∧ Aside0 (xs ++ ups d = upsTo l0 (i + 1)) ∧ Aside0 (wz.ownsRow w.heap.size 9 1 s3 (encs Value.string xs).length (encs Value.string xs)) ∧ Aside0 (Below w.heap.size w wz))
   case atStart => exact ⟨c, _, Nat.le_refl _, rfl, HC, ⟨HU.out.symm⟩, OX, BX⟩
   case round =>
    obtain ⟨d, xs, hdg, rfl, HD, HX, O5, B5⟩ := hrel
    clear OX BX hcell
    by_cases h0 : bs d = []
    ·have h1 : d.toList = [] := by rw [toList_bs]; exact h0
     have h2 : d.toList.isEmpty = true := by rw [h1]; rfl
     have HXX : Aside0 (xs = upsTo l0 (i + 1)) := ⟨by have := HX.out; rwa [ups_nil h0, List.append_nil] at this⟩
     clear h0
     go_wp2
     go_roundg (l0.length - (i + 1))
     case measure => omega
     case rel => exact ⟨i + 1, by omega, by omega, by go_num, ⟨by rw [← HXX.out]; exact O5.out⟩, B5⟩
    ·have h1 : ¬ d.toList = [] := by rw [toList_bs]; exact h0
     have h2 : d.toList.isEmpty = false := by simpa using h1
     have HN := Aside0.mk (dirB_less h0)
     have HX2 : Aside0 ((xs ++ [d]) ++ ups (dirB d) = upsTo l0 (i + 1)) := ⟨by have := HX.out; rw [ups_cons h0] at this; rw [← this]; simp⟩
     have HXL : Aside0 ((encs Value.string xs).length + 1 ≤ 8000000000) := ⟨by
      have h3 := congrArg List.length HX2.out
      have h4 := HLN.out
      simp only [List.length_append, List.length_cons, List.length_nil] at h3
      simp only [encs, List.length_map]
      omega⟩
     obtain ⟨kd, hkd⟩ := DIR.out d HD.out
     have KD := Aside0.mk hkd
     clear h0 hkd
     go_wp2_with (first | (at_builtin; refine print_append (w0 := w) w.heap.size rfl (.tmp 16) (.tmp 18) 22 9 (.string ByteArray.empty) 16 rfl Tryd.underlying22 info9s rfl (by decide) u3 (encs Value.string xs) (.string d) rfl rfl rfl O5.out B5.out B5.out.size (by have := HXL.out; omega) ?_; intro v6 w6 hown hb6 _ _; have O6 := Aside0.mk hown; have B6 := Aside0.mk hb6; clear hown hb6) | (go_at_call 44; refine (path_Dir.calls kd d (dirB d) _ KD.out).mono ?_; rintro e w7 ⟨rfl, hq7⟩))
     go_roundg (dirB d).size
     case measure => have := HN.out; omega
     case rel =>
      have hb7 : Below w6.heap.size w6 w7 := by first | exact hq7 | exact hq7.below
      exact ⟨dirB d, xs ++ [d], Nat.le_refl _, rfl, ⟨by have := HN.out; have := HD.out; omega⟩, HX2, ⟨own_move (by simpa [encs] using O6.out) fun k hk => hb7.block k (own_lt O6.out k hk)⟩, ⟨below_then B6.out B6.out.size hb7⟩⟩
  ·have hltz : ¬ (i : Int) < (l0.length : Int) := by omega
   obtain rfl : i = l0.length := by omega
   have HL : Aside0 (upsTo l0 l0.length = l0.flatMap ups) := ⟨by unfold upsTo; rw [List.take_length]⟩
   have HLN := Aside0.mk (upsTo_length HS.out l0.length)
   have HSZ := Aside0.mk (upsTo_size HS.out l0.length)
   have DT : Aside0 (dirsT l0 = norm (upsTo l0 l0.length)) := ⟨by rw [HL.out]; rfl⟩
   generalize hq : upsTo l0 l0.length = l at OX HLN HSZ DT
   clear hq HL hlt hi hg
   rcases Nat.eq_zero_or_pos l.length with h0 | h0
   ·obtain rfl := List.eq_nil_of_length_eq_zero h0
    obtain ⟨A, cap, rfl⟩ := own_slice OX.out
    go_wp2_with fail
    refine (sort_none A cap _).mono ?_
    rintro e w2 ⟨rfl, rfl⟩
    go_wp2_with fail
    refine (Tryd.slices_Compact_string_empty A cap _).mono ?_
    rintro e w3 ⟨rfl, rfl⟩
    go_wp2
    go_ret
    exact ⟨_, rfl, by rw [DT.out]; exact ⟨fun _ _ => trivial, [], OX.out, Reps.none _ _⟩, BX.out⟩
   ·obtain ⟨n, HN⟩ : ∃ n, Aside0 (l.length = n) := ⟨_, ⟨rfl⟩⟩
    have hel : (encs Value.string l).length = n := by simp only [encs, List.length_map]; exact HN.out
    have hown := OX.out
    rw [hel] at hown
    have H0 : Aside0 (0 < n) := ⟨by have := HN.out; omega⟩
    have HB : Aside0 (n < 8796093022208) := ⟨by have := HN.out; have := HLN.out; omega⟩
    have B1 := BX
    obtain ⟨g, cap, rfl, hg0, hg1⟩ := hown.form H0.out
    have hcap := own_le hown
    obtain ⟨d, hd⟩ : ∃ d : Array Sh, d.toList.map (·.1) = l := ⟨(l.pmap (fun x hx => (⟨x, hx⟩ : Sh)) HSZ.out).toArray, by simp [List.map_pmap]⟩
    have hdn : d.size = n := by rw [← HN.out, ← hd]; simp
    have C2 := Aside0.mk (Tryd.slices_SortFunc encSh (fun _ => rfl) cmpSh swoSh 50 #[] g 0 cap d wr (enters_of Tryd.func50 (by kernel_rfl) rfl) (cmpLays g d.size wr) (holds_sh hown d hd) hg1 (by have := HB.out; omega))
    have OWN := Aside0.mk hown
    have HD := Aside0.mk hd
    have DN := Aside0.mk hdn
    have HCAP := Aside0.mk hcap
    have HG := Aside0.mk (And.intro hg0 hg1)
    clear hown hd hcap hg0 hg1 hel OX BX
    rw [hdn] at C2
    clear hdn h0
    go_wp2_with fail
    refine C2.out.mono ?_
    rintro e w2 ⟨rfl, d', m, os, hp, hs, rfl⟩
    have hd' : d'.size = n := hp.1.trans DN.out
    have hH2 : Holds encSh (sortWorld encSh wr g 0 m d' os) g 0 d' := SW.holds ⟨m, os, rfl⟩ HG.out.2 (holds_sh OWN.out d HD.out) hp.1
    have C3 := Aside0.mk (Tryd.slices_Compact_string g 0 cap (shs d') (sortWorld encSh wr g 0 m d' os) (holds_map' hH2) (by have := HB.out; rw [shs_length]; omega) (by have := HCAP.out; rw [shs_length]; omega))
    have hlen : (shs d').length = n := (shs_length d').trans hd'
    rw [hlen] at C3
    have hperm : (d'.toList.map (·.1)).Perm l := by
     have := hp.2.2
     rw [show d'.extract 0 n = d' by rw [← hd', Array.extract_size], show d.extract 0 n = d by rw [← DN.out, Array.extract_size]] at this
     rw [← HD.out]
     exact this.map _
    have hsort : SortedIn (ltOf cmpSh) 0 d'.size d' := by rw [hd']; exact hs
    have hres : (Lib.compact (shs d')).map mk = norm l := compact_sorted d' hsort l hperm
    have hclen : (Lib.compact (shs d')).length = (norm l).length := by rw [← hres, List.length_map]
    have hcle : (Lib.compact (shs d')).length ≤ n := by rw [← hlen]; exact Lib.compact_length_le _
    have FIN := fun q => own_norm (m := m) OWN.out d' os q (norm l) (Lib.compact (shs d') ++ List.replicate (n - (Lib.compact (shs d')).length) []).toArray (by simp only [List.size_toArray, List.length_append, List.length_replicate]; omega) (by omega) (fun j hj => by
     rw [← hres]
     have hj' : j < (Lib.compact (shs d')).length := by omega
     rw [getElem!_pos _ j (by simp only [List.size_toArray, List.length_append, List.length_replicate]; omega)]
     simp only [List.getElem_toArray]
     rw [List.getElem_append_left hj']
     simp [List.getD_eq_getElem?_getD, hj', bs_mk]) HG.out.2
    have BEL : Below w.heap.size w (sortWorld encSh wr g 0 m d' os) := by
     unfold sortWorld
     refine below_grow os (below_putRow encSh g 0 d' (below_ahead m B1.out) HG.out.1) ?_
     have := B1.out.size
     simpa [putRow, mapBlock, Sort.ahead] using this
    rw [hclen] at C3 FIN
    have BEL' := Aside0.mk BEL
    have FIN' := Aside0.mk FIN
    clear BEL FIN hH2 hp hs hperm hsort hres hclen hcle hlen hd' C2
    generalize sortWorld encSh wr g 0 m d' os = w2 at C3 FIN' BEL' ⊢
    go_wp2_with fail
    refine C3.out.mono ?_
    rintro e w3 ⟨rfl, q, rfl⟩
    have F := Aside0.mk (FIN'.out q)
    have BF := Aside0.mk (below_putRow encStr g 0 (Lib.compact (shs d') ++ List.replicate (n - (norm l).length) []).toArray (below_ahead q BEL'.out) HG.out.1)
    clear FIN' C3
    generalize putRow encStr (Sort.ahead w2 q) g 0 _ = w3 at F BF ⊢
    go_wp2
    go_ret
    exact ⟨_, rfl, by rw [DT.out]; exact F.out, BF.out⟩
end Go.Proofs.YtehfogjibhnabaaDoor.PAll
