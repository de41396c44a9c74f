/- cone.Shows: what it answers; its walk, with its closure's. -/
import Derived.Test.YtdfkaclflmgkeaaDoorCvPAllx0
import Derived.Test.YtdfkaclflmgkeaaDoorCvHandB
import Derived.Test.YtdfkaclflmgkeaaDoorCvPAlly16
import Derived.Test.YtdfkaclflmgkeaaDoorCvPAlly3
import Derived.Test.YtdfkaclflmgkeaaDoorCvSpec
import Derived.Test.YtdfkaclflmgkeaaDoorCvShelf
import Derived.Shelf.Abstract
namespace Go.Proofs.YtdfkaclflmgkeaaDoor.PAll
open Go.RowKit Go.Shelf Go.Proofs.YtdfkaclflmgkeaaDoorW.PrintWords Go.Proofs.YtdfkaclflmgkeaaDoorW.PrintLast Go.Proofs.YtdfkaclflmgkeaaDoorW.PrintMore
open Go.Proofs.YtdfkaclflmgkeaaDoor.Sp
def near1 (k : Nat) (d c : ByteArray) : Option Bool := if c.toList = d.toList then some true else (path_Above.f k c d).bind fun b => if b = true then some true else path_Above.f k d c
def near (k : Nat) (d : ByteArray) : List ByteArray → Option Bool
 | [] => some false
 | c :: r => (near1 k d c).bind fun b => if b = true then some true else near k d r
def cone_Shows.f (k : Nat) (l0 : List ByteArray) (a1 : ByteArray) : Option (Bool) := (path_Dir.f k a1).bind fun d => if d.toList = [] then some true else near k d l0
theorem near1_mono (d c : ByteArray) (k : Nat) : LeO (near1 k d c) (near1 (k + 1) d c) := by
 unfold near1
 exact LeO.ite (LeO.refl _) (LeO.bind (path_Above.mono _ _ _) fun _ => LeO.ite (LeO.refl _) (path_Above.mono _ _ _))
theorem near_mono (d : ByteArray) : ∀ l k, LeO (near k d l) (near (k + 1) d l)
 | [], _ => LeO.refl _
 | c :: r, k => by
  unfold near
  exact LeO.bind (near1_mono _ _ _) fun _ => LeO.ite (LeO.refl _) (near_mono d r k)
theorem cone_Shows.mono : ∀ a0 a1 k, LeO (cone_Shows.f k a0 a1) (cone_Shows.f (k + 1) a0 a1) := fun _ _ _ => LeO.bind (path_Dir.mono _ _) fun _ => LeO.ite (LeO.refl _) (near_mono _ _ _)
set_option maxHeartbeats 1000000 in
theorem near1_calls (k : Nat) (d c : ByteArray) (b : Bool) (B : Nat) (w : World) (hB : B < w.heap.size) (hc : w.cell? ⟨B, 0, none⟩ = some (.string d)) (h : near1 k d c = some b) :
  Calls Tryd.prog 64 #[.string c, .pointer (some ⟨B, 0, none⟩)] w fun e w' => e = .returned (.bool b) ∧ Below w.heap.size w w' := by
 have HB := Aside0.mk (Below.refl w.heap.size w)
 have HH := Aside0.mk hB
 clear hB
 unfold near1 at h
 by_cases c4 : c.toList = d.toList
 ·rw [if_pos c4] at h
  have c4b0 : (c.toList == d.toList) = true := beq_iff_eq.mpr c4
  clear c4
  cases Option.some.inj h
  clear h
  go_enter Tryd.func64, Tryd.ntmps64
  go_wp2
  go_ret
  exact ⟨by first | rfl | (simp; done) | (simp [*]; done), by repeat (first | exact HB.out | apply pw_below_drewN | apply below_drew1)⟩
 ·rw [if_neg c4] at h
  have c4b0 : (c.toList == d.toList) = false := beq_eq_false_iff_ne.mpr c4
  clear c4
  obtain ⟨t1, A1, h⟩ := Option.bind_eq_some_iff.mp h
  have A2 := Aside0.mk A1
  clear A1
  cases t1 with
  | true =>
   cases Option.some.inj h
   clear h
   go_enter Tryd.func64, Tryd.ntmps64
   go_wp2_with (go_at_call 22; (with_reducible refine (path_Above.calls k c d true _ A2.out).mono ?_); rintro e w' ⟨rfl, HB1⟩)
   go_ret
   exact ⟨by first | rfl | (simp; done) | (simp [*]; done), by repeat (first | exact HB.out.trans HB1 | exact HB1 | apply pw_below_drewN | apply below_drew1)⟩
  | false =>
   have A3 := Aside0.mk (show path_Above.f k d c = some b from h)
   clear h
   have hcell : ∀ w', Below w.heap.size w w' → w'.cell? ⟨B, 0, none⟩ = some (.string d) := fun w' hb => (hb.cell (p := ⟨B, 0, none⟩) HH.out).trans hc
   go_enter Tryd.func64, Tryd.ntmps64
   go_wp2_with (go_at_call 22; first | ((with_reducible refine (path_Above.calls k c d false _ A2.out).mono ?_); rintro e w1 ⟨rfl, HB1⟩; have HB1 := below_step (by repeat (first | exact HB.out | apply pw_below_drewN | apply below_drew1)) HB1; have hc1 := hcell _ HB1) | ((with_reducible refine (path_Above.calls k d c b _ A3.out).mono ?_); rintro e w2 ⟨rfl, HB2⟩))
   go_ret
   exact ⟨by first | rfl | (simp; done) | (simp [*]; done), below_step (by repeat (first | exact HB1 | apply pw_below_drewN | apply below_drew1)) HB2⟩
set_option maxHeartbeats 2000000 in
theorem index_calls (k : Nat) (d : ByteArray) (A : Option Addr) (c : Nat) (l : List ByteArray) (r : Bool) (B : Nat) (w : World) (hr : Kd.C Kd.string w A l.length l) (hB : B < w.heap.size) (hc : w.cell? ⟨B, 0, none⟩ = some (.string d))
  (h : near k d l = some r) :
  Calls Tryd.prog 88 #[.slice A l.length c, .func (.func 64) #[] #[.pointer (some ⟨B, 0, none⟩)]] w fun e w' => (∃ i : Int, e = .returned (.int .i64 i) ∧ decide (0 ≤ i) = r) ∧ Below w.heap.size w w' := by
 have HR := Aside0.mk hr
 have HH := Aside0.mk hB
 have HC := Aside0.mk hc
 have H0 := Aside0.mk h
 have hbig : (l.length : Int) ≤ 9223372036854775807 := by have := hr.2.1; omega
 clear hr hB hc h
 have eg : ∀ args w, (callFunc 64 args).run Tryd.prog w = .ok (.enter 64 args) w := enters_of Tryd.func64 (by kernel_rfl) rfl
 go_enter Tryd.func88, Tryd.ntmps88
 go_wp2
 go_loopg [5, 8] l.length (fun gg _ s8 wr => ∃ kk : Nat, kk ≤ l.length ∧ l.length - kk ≤ gg ∧ s8 = .int .i64 kk ∧ Aside0 (Below w.heap.size w wr) ∧ Aside0 (near k d (l.drop kk) = some r))
 case atStart => exact ⟨0, Nat.zero_le _, by omega, rfl, ⟨Below.refl _ w⟩, ⟨H0.out⟩⟩
 case round =>
  obtain ⟨kk, hkk, hg, rfl, BW, A0⟩ := hrel
  by_cases hlt : kk < l.length
  ·have hltz : (kk : Int) < (l.length : Int) := by omega
   have hn := A0.out
   rw [rdOf_drop l kk hlt] at hn
   simp only [near] at hn
   obtain ⟨b, hb, hn⟩ := Option.bind_eq_some_iff.mp hn
   obtain ⟨ad, ea, hx⟩ := Kd.at_string HR.out (kk : Int) (by omega) (by omega)
   cases ea
   rw [Int.toNat_natCast] at hx
   replace hx := (BW.out.cell (World.block_lt_of_cell? w _ hx)).trans hx
   have hcall : Calls Tryd.prog 64 (#[.string (rdOf ByteArray.empty l (kk : Int))] ++ #[.pointer (some ⟨B, 0, none⟩)]) wr _ := near1_calls k d (rdOf ByteArray.empty l (kk : Int)) b B wr (Nat.lt_of_lt_of_le HH.out BW.out.size) ((BW.out.cell (p := ⟨B, 0, none⟩) HH.out).trans HC.out) hb
   clear hb A0
   cases b with
   | true =>
    cases Option.some.inj hn
    clear hn
    go_wp2_with (go_at_fn 64; refine hcall.mono ?_; rintro e w' ⟨rfl, hb'⟩)
    go_ret
    exact ⟨⟨_, rfl, by simp⟩, below_step BW.out hb'⟩
   | false =>
    have A1 := Aside0.mk (show near k d (l.drop (kk + 1)) = some r from hn)
    clear hn
    go_wp2_with (go_at_fn 64; refine hcall.mono ?_; rintro e w' ⟨rfl, hb'⟩)
    go_roundg (l.length - (kk + 1))
    case measure => omega
    case rel => exact ⟨kk + 1, by omega, by omega, by go_num, ⟨below_step BW.out hb'⟩, A1⟩
  ·have hltz : ¬ (kk : Int) < (l.length : Int) := by omega
   have hn := A0.out
   rw [List.drop_of_length_le (by omega)] at hn
   cases Option.some.inj hn
   go_wp2
   go_ret
   exact ⟨⟨_, rfl, by simp⟩, BW.out⟩
set_option maxHeartbeats 1000000 in
theorem contains_calls (k : Nat) (d : ByteArray) (A : Option Addr) (c : Nat) (l : List ByteArray) (r : Bool) (B : Nat) (w : World) (hr : Kd.C Kd.string w A l.length l) (hB : B < w.heap.size) (hc : w.cell? ⟨B, 0, none⟩ = some (.string d))
  (h : near k d l = some r) :
  Calls Tryd.prog 65 #[.slice A l.length c, .func (.func 64) #[] #[.pointer (some ⟨B, 0, none⟩)]] w fun e w' => e = .returned (.bool r) ∧ Below w.heap.size w w' := by
 have hcall := index_calls k d A c l r B w hr hB hc h
 clear hr hB hc h
 go_enter Tryd.func65, Tryd.ntmps65
 go_wp2_with (go_at_call 88; refine hcall.mono ?_; rintro e w' ⟨⟨i, rfl, hi⟩, hb'⟩; subst hi)
 go_ret
 exact ⟨rfl, hb'⟩
set_option maxHeartbeats 1000000 in
theorem cone_Shows.calls (k : Nat) (A0 : Option Addr) (c0 : Nat) (l0 : List ByteArray) (a1 : ByteArray) (r : Bool) (w : World) (hr0 : Kd.C Kd.string w A0 l0.length l0) (_hc0 : l0.length ≤ c0) (h : cone_Shows.f k l0 a1 = some r) :
  Calls Tryd.prog 34 #[.slice A0 l0.length c0, .string a1] w fun e w' => e = .returned (.bool r) ∧ Below w.heap.size w w' := by
 have HB := Aside0.mk (Below.refl w.heap.size w)
 have HR := Aside0.mk hr0
 unfold cone_Shows.f at h
 obtain ⟨d, A3, h⟩ := Option.bind_eq_some_iff.mp h
 have A4 := Aside0.mk A3
 clear A3 hr0
 by_cases c4 : d.toList = []
 ·rw [if_pos c4] at h
  have c4b0 : (d.toList == ([] : List UInt8)) = true := beq_iff_eq.mpr c4
  clear c4
  cases Option.some.inj h
  clear h
  go_enter Tryd.func34, Tryd.ntmps34
  go_wp2_with (go_at_call 23; (with_reducible refine (path_Dir.calls k a1 d _ A4.out).mono ?_); rintro e w1 ⟨rfl, HB1⟩; have HB1 := below_step (by repeat (first | exact HB.out | apply below_alloc | apply pw_below_drewN | apply below_drew1)) HB1)
  go_ret
  exact ⟨by first | rfl | (simp; done) | (simp [*]; done), by repeat (first | (with_reducible first | exact HB1 | apply below_alloc | apply pw_below_drewN | apply below_drew1) | exact HB1)⟩
 ·rw [if_neg c4] at h
  have c4b0 : (d.toList == ([] : List UInt8)) = false := beq_eq_false_iff_ne.mpr c4
  have A5 := Aside0.mk h
  clear c4 h
  go_enter Tryd.func34, Tryd.ntmps34
  go_wp2_with (first | (go_at_call 23; (with_reducible refine (path_Dir.calls k a1 d _ A4.out).mono ?_); rintro e w1 ⟨rfl, HB1⟩; have HB1 := Aside0.mk (below_step (by repeat (first | exact HB.out | apply below_alloc | apply pw_below_drewN | apply below_drew1)) HB1)) | (go_at_call 65; refine (contains_calls k d A0 c0 l0 r w1.heap.size _ (Kd.C_below HR.out (by repeat (first | (with_reducible first | exact HB1.out | apply below_alloc | apply pw_below_drewN | apply below_drew1) | exact HB1.out))) (by simp) (by simp) A5.out).mono ?_; rintro e w2 ⟨rfl, HB2⟩))
  go_ret
  exact ⟨by first | rfl | (simp; done) | (simp [*]; done), below_step (by repeat (first | (with_reducible first | exact HB1.out | apply below_alloc | apply pw_below_drewN | apply below_drew1) | exact HB1.out)) HB2⟩
end Go.Proofs.YtdfkaclflmgkeaaDoor.PAll
