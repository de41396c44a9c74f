/- What functions of the program compute, each with its walk: a contract for every world and every argument of the kind told. -/
import Derived.Test.YtdfkaclflmgkeaaDoorCcPAllx0
import Derived.Test.YtdfkaclflmgkeaaDoorCcHandC
import Derived.Test.YtdfkaclflmgkeaaDoorCcHandD
import Derived.Test.YtdfkaclflmgkeaaDoorCcPAlly15
import Derived.Test.YtdfkaclflmgkeaaDoorCcPAlly18
import Derived.Test.YtdfkaclflmgkeaaDoorCcPAlly26
import Derived.Test.YtdfkaclflmgkeaaDoorCcPAlly3
namespace Go.Proofs.YtdfkaclflmgkeaaDoor.PAll
open Go.RowKit Go.Proofs.YtdfkaclflmgkeaaDoorW.PrintWords Go.Proofs.YtdfkaclflmgkeaaDoorW.PrintLast Go.Proofs.YtdfkaclflmgkeaaDoorW.PrintMore
set_option linter.unusedVariables false
set_option linter.unusedSimpArgs false
mutual
def copselaw15_ConeCovers.l0 : Nat → List ByteArray → List ByteArray → Int → Option (Bool)
 | 0, _, _, _ => none
 | k + 1, x0, x3, x4 => if x4 < (x0.length : Int) then (if 0 ≤ x4 then ((path_Valid.f k (rdOf ByteArray.empty x0 x4)).bind fun t728 => (if t728 = true then (if x3.length < 8796093022208 then (copselaw15_ConeCovers.l0 k x0 (x3 ++ [rdOf ByteArray.empty x0 x4]) (wrap64 (x4 + 1))) else (none)) else (copselaw15_ConeCovers.l0 k x0 x3 (wrap64 (x4 + 1))))) else (none)) else ((cone_Cover.f k x3).bind fun t733 => ((copselaw15_alive.f k).bind fun t736 => (if t736 = true then ((cone_Valid.f k t733).bind fun t737 => ((copselaw15_num.f t737).bind fun t738 => (copselaw15_ConeCovers.j1 k x3 t733 (t738 != 0)))) else (copselaw15_ConeCovers.j1 k x3 t733 true))))
def copselaw15_ConeCovers.j1 : Nat → List ByteArray → List ByteArray → Bool → Option (Bool)
 | 0, _, _, _ => none
 | k + 1, x3, x5, x39 => if x39 = true then (some false) else (copselaw15_ConeCovers.l1 k x3 x5 0)
def copselaw15_ConeCovers.l1 : Nat → List ByteArray → List ByteArray → Int → Option (Bool)
 | 0, _, _, _ => none
 | k + 1, x3, x5, x6 => if x6 < (x3.length : Int) then (if 0 ≤ x6 then ((cone_Shows.f k x5 (rdOf ByteArray.empty x3 x6)).bind fun t740 => (if t740 = true then (copselaw15_ConeCovers.l1 k x3 x5 (wrap64 (x6 + 1))) else (some false))) else (none)) else (copselaw15_ConeCovers.l2 k x3 x5 0)
def copselaw15_ConeCovers.l2 : Nat → List ByteArray → List ByteArray → Int → Option (Bool)
 | 0, _, _, _ => none
 | k + 1, x3, x5, x7 => if x7 < (x5.length : Int) then (if 0 ≤ x7 then (if x7 ≤ (x5.length : Int) then ((some (x5.take (x7 : Int).toNat : List ByteArray)).bind fun y741 => (if ([] : List ByteArray).length + y741.length < 8796093022208 then ((some (([] : List ByteArray) ++ y741 : List ByteArray)).bind fun y745 => (if 0 ≤ (wrap64 (x7 + 1)) then (if (wrap64 (x7 + 1)) ≤ (x5.length : Int) then ((some (x5.drop ((wrap64 (x7 + 1)) : Int).toNat : List ByteArray)).bind fun y748 => (if y745.length + y748.length < 8796093022208 then (copselaw15_ConeCovers.l3 k x3 x5 x7 (y745 ++ y748) true false 0) else (none))) else (none)) else (none))) else (none))) else (none)) else (none)) else (some true)
def copselaw15_ConeCovers.l3 : Nat → List ByteArray → List ByteArray → Int → List ByteArray → Bool → Bool → Int → Option (Bool)
 | 0, _, _, _, _, _, _, _ => none
 | k + 1, x3, x5, x7, x8, x9, x10, x11 => if x11 < (x3.length : Int) then (if x9 = true then (if 0 ≤ x11 then ((cone_Shows.f k x8 (rdOf ByteArray.empty x3 x11)).bind fun t756 => (if x10 = true then (copselaw15_ConeCovers.l3 k x3 x5 x7 x8 t756 true (wrap64 (x11 + 1))) else ((path_Dir.f k (rdOf ByteArray.empty x3 x11)).bind fun t758 => (if 0 ≤ x7 then (if x7 < (x5.length : Int) then (copselaw15_ConeCovers.l3 k x3 x5 x7 x8 t756 (t758.toList == (rdOf ByteArray.empty x5 x7).toList) (wrap64 (x11 + 1))) else (none)) else (none))))) else (none)) else (if x10 = true then (copselaw15_ConeCovers.l3 k x3 x5 x7 x8 false true (wrap64 (x11 + 1))) else (if 0 ≤ x11 then ((path_Dir.f k (rdOf ByteArray.empty x3 x11)).bind fun t761 => (if 0 ≤ x7 then (if x7 < (x5.length : Int) then (copselaw15_ConeCovers.l3 k x3 x5 x7 x8 false (t761.toList == (rdOf ByteArray.empty x5 x7).toList) (wrap64 (x11 + 1))) else (none)) else (none))) else (none)))) else (if x9 = true then (some false) else (if x10 = true then (if 0 ≤ x7 then (if x7 < (x5.length : Int) then (if (rdOf ByteArray.empty x5 x7).toList = ([] : List UInt8) then (some false) else (copselaw15_ConeCovers.l2 k x3 x5 (wrap64 (x7 + 1)))) else (none)) else (none)) else (some false)))
end
def copselaw15_ConeCovers.f (k : Nat) (l0 : List ByteArray) : Option (Bool) := copselaw15_ConeCovers.l0 k l0 ([] : List ByteArray) 0
def copselaw15_ConeCovers.T27 : Bool × List (List Nat × List Nat) := (true, [([], []), ([0], [0]), ([1], [1]), ([1], [1]), ([2, 3, 1], [1, 2, 3]), ([4, 1], [1, 4]), ([5, 1, 1], [1, 5]), ([1], [1]), ([1], [1]), ([7, 8, 1], [1, 7, 8]), ([9, 1], [1, 9]), ([6, 10, 1], [1, 6, 10]), ([1, 11], [1, 11]), ([12, 6, 0, 1, 2, 3, 4, 5, 6, 7, 8, 9, 10, 11, 12], [0, 12])])
def copselaw15_ConeCovers.B27 : List Nat := [0, 1, 3, 3, 15, 31, 63, 3, 3, 387, 899, 2047, 4095, 8191]
theorem copselaw15_ConeCovers.tab27 : rtab .any (opsOf Tryd.f7 27) = copselaw15_ConeCovers.T27 := by kernel_rfl
theorem copselaw15_ConeCovers.bits27 : waitsOk copselaw15_ConeCovers.T27.2 copselaw15_ConeCovers.B27 = true := by kernel_rfl
set_option maxHeartbeats 8000000 in
set_option maxRecDepth 100000 in
theorem copselaw15_ConeCovers.calls (k : Nat) (A0 : Option Addr) (c0 : Nat) (l0 : List ByteArray) (r : Bool) (w : World) (hr0 : Kd.C Kd.string w A0 l0.length l0) (hc0 : l0.length ≤ c0) (h : copselaw15_ConeCovers.f k l0 = some r) :
  Calls Tryd.prog 7 #[.slice A0 l0.length c0] w fun e w' => e = .returned (.bool r) ∧ Below w.heap.size w w' := by
 have HR0 := Aside0.mk hr0
 have HC0 := Aside0.mk hc0
 clear hr0 hc0
 have HB := Aside0.mk (Below.refl w.heap.size w)
 have H : (copselaw15_ConeCovers.l0 k l0 ([] : List ByteArray) 0) = some r := h
 clear h
 have H' := Aside0.mk H
 clear H
 go_enter Tryd.func7, Tryd.ntmps7
 go_wp2
 go_loopg [3, 4] k (fun kq v3 v4 w' => ∃ (x3_1 : List ByteArray) (x4_1 : Int), v4 = .int .i64 x4_1 ∧ Aside0 (copselaw15_ConeCovers.l0 kq l0 x3_1 x4_1 = some r) ∧ Aside0 (kq ≤ k) ∧ Aside0 (Kd.R Kd.string 9 w' w.heap.size (fun _ => True) v3 x3_1) ∧ Aside0 (Below w.heap.size w w'))
 case atStart => exact ⟨(([] : List ByteArray)), (0), (by first | rfl | (simp; done) | (simp [*]; done)), H', ⟨Nat.le_refl _⟩, ⟨by first | exact Kd.R_nil _ _ _ _ _ | exact Kd.N_nil _ _ _ _ _ | exact Kd.V_nil _ _ _ _ _ | exact Kd.Q_nil _ _ _ _ _ | exact Kd.S_nil _ _ _ _ _⟩, ⟨by repeat (first | (with_reducible first | exact HB.out | apply below_alloc | apply pw_below_drewN | apply below_drew1) | exact HB.out)⟩⟩
 case round =>
  clear H'
  obtain ⟨x3_1, x4_1, rfl, HA, HK1, HO_3, HB⟩ := hrel
  cases gk with
  | zero => exact absurd HA.out (by simp [copselaw15_ConeCovers.l0])
  | succ k1 =>
   have H := HA.out
   clear HA
   simp only [copselaw15_ConeCovers.l0] at H
   by_cases c2 : x4_1 < (l0.length : Int)
   ·rw [if_pos c2] at H
    have c2b0 : decide (x4_1 < (l0.length : Int)) = true := decide_eq_true c2
    clear c2
    by_cases c3 : 0 ≤ x4_1
    ·rw [if_pos c3] at H
     have c3b0 : decide (0 ≤ x4_1) = true := decide_eq_true c3
     clear c3
     replace H := Option.bind_eq_some_iff.mp H
     obtain ⟨t728, A40, H⟩ := H
     replace H : (if t728 = true then (if x3_1.length < 8796093022208 then (copselaw15_ConeCovers.l0 k1 l0 (x3_1 ++ [rdOf ByteArray.empty l0 x4_1]) (wrap64 (x4_1 + 1))) else (none)) else (copselaw15_ConeCovers.l0 k1 l0 x3_1 (wrap64 (x4_1 + 1)))) = some r := H
     have A4 := Aside0.mk A40
     clear A40
     by_cases c5 : t728 = true
     ·subst c5
      have H1 : (if x3_1.length < 8796093022208 then (copselaw15_ConeCovers.l0 k1 l0 (x3_1 ++ [rdOf ByteArray.empty l0 x4_1]) (wrap64 (x4_1 + 1))) else (none)) = some r := by rw [if_pos rfl] at H; exact H
      clear H
      have H := H1
      clear H1
      by_cases c6 : x3_1.length < 8796093022208
      ·rw [if_pos c6] at H
       have LMc6 := Aside0.mk c6
       clear c6
       obtain ⟨y730, hy730⟩ : ∃ y_ : List ByteArray, y_ = (x3_1 ++ [rdOf ByteArray.empty l0 x4_1]) := ⟨_, rfl⟩
       replace H : (copselaw15_ConeCovers.l0 k1 l0 y730 (wrap64 (x4_1 + 1))) = some r := by first | (rw [hy730]; with_reducible exact H) | (have H2_ := (Option.bind_some _ _).symm.trans H; rw [hy730]; with_reducible exact H2_) | (have H2_ := (Option.bind_some _ _).symm.trans H; with_reducible exact H2_) | with_reducible exact H | (rw [hy730]; exact H) | exact H
       have Ny730 := Aside0.mk hy730
       clear hy730
       have H' := Aside0.mk H
       clear H
       have p727 : 0 ≤ (x4_1 : Int) := of_decide_eq_true (by first | (with_reducible assumption) | assumption)
       have q727 : x4_1 < (l0.length : Int) := of_decide_eq_true (by first | (with_reducible assumption) | assumption)
       obtain ⟨ad727, e727, hx727_0⟩ := Kd.at_string HR0.out x4_1 p727 q727
       cases e727
       replace hx727_0 := (HB.out.cell (World.block_lt_of_cell? w _ hx727_0)).trans hx727_0
       replace p727 := eq_true p727
       replace q727 := eq_true q727
       go_wp2_with (first | ((with_reducible refine gate_callee (f := 40) rfl ?_); refine goesL_ (some 22) rfl rfl Tryd.func40 (by kernel_rfl) rfl #[.string (rdOf ByteArray.empty l0 x4_1)] rfl (by (try simp only [List.map_toArray, List.map_cons, List.map_nil]); first | done | rfl | (simp only [List.length_drop, List.length_take]; rfl)) ?_; (with_reducible refine (path_Valid.calls k1 (rdOf ByteArray.empty l0 x4_1) true _ A4.out).mono ?_); rintro e w7 ⟨rfl, hb⟩; refine ⟨_, rfl, ?_⟩; have n0_ := Aside0.mk (Kd.R_below (by (with_reducible repeat (first | apply Kd.R_alloc | apply Kd.R_drewN | apply Kd.R_drew)); exact HO_3.out) hb); have n1_ := Aside0.mk (below_step (by repeat (first | (with_reducible first | exact HB.out | apply below_alloc | apply pw_below_drewN | apply below_drew1) | exact HB.out)) hb); clear HO_3; clear HB; have HO_3 := n0_; have HB := n1_; clear n0_ n1_; (try clear hb); (try clear hb2); (try clear hk); (try clear hi); have p729 : 0 ≤ (x4_1 : Int) := of_decide_eq_true (by first | (with_reducible assumption) | assumption); have q729 : x4_1 < (l0.length : Int) := of_decide_eq_true (by first | (with_reducible assumption) | assumption); obtain ⟨ad729, e729, hx729_0⟩ := Kd.at_string HR0.out x4_1 p729 q729; obtain rfl : ad727 = ad729 := (by injection e729); replace hx729_0 := (HB.out.cell (World.block_lt_of_cell? w _ hx729_0)).trans hx729_0; replace p729 := eq_true p729; replace q729 := eq_true q729) | ((with_reducible refine gate_builtin (b := .append) (xs := #[.tmp 23, .tmp 28]) rfl ?_); at_builtin; refine Kd.R_append Kd.string (w0 := w) w.heap.size rfl (.tmp 23) (.tmp 28) 22 9 (.string ⟨#[]⟩) 16 rfl Tryd.underlying22 info9 rfl (by decide) (by omega) u3 x3_1 (rdOf ByteArray.empty l0 x4_1) [.string (rdOf ByteArray.empty l0 x4_1)] (fun _ => True) (fun _ => False) rfl rfl ?aP (fun _ hk => hk.elim) ?aF ?aO ?aB ?aS ?aL ?_; (case aP => exact rfl); (case aB => exact (by repeat (first | (with_reducible first | exact HB.out | apply below_alloc | apply pw_below_drewN | apply below_drew1) | exact HB.out))); (case aF => exact (fun _ _ => trivial)); (case aO => exact (by (with_reducible repeat (first | apply Kd.R_alloc | apply Kd.R_drewN | apply Kd.R_drew)); exact HO_3.out)); (case aS => exact (below_size (by repeat (first | (with_reducible first | exact HB.out | apply below_alloc | apply pw_below_drewN | apply below_drew1) | exact HB.out)))); (case aL => have := LMc6.out; omega); intro v731 w8 ho hb hg hat; rw [← Ny730.out] at ho; have n0_ := Aside0.mk (hb); have n1_ := Aside0.mk (ho); clear HB; clear HO_3; have HB := n0_; have HO732 := n1_; clear n0_ n1_; clear ho hb hg hat))
       go_roundg k1
       case measure => have := HK1.out; omega
       case rel => exact ⟨(y730), (wrap64 (x4_1 + 1)), (by first | rfl | (simp; done) | (simp [*]; done)), H', ⟨by have := HK1.out; omega⟩, ⟨by (with_reducible repeat (first | apply Kd.R_alloc | apply Kd.R_drewN | apply Kd.R_drew)); exact HO732.out⟩, ⟨by repeat (first | (with_reducible first | exact HB.out | apply below_alloc | apply pw_below_drewN | apply below_drew1) | exact HB.out)⟩⟩
      ·rw [if_neg c6] at H
       exact absurd H (by simp)
     ·replace c5 := Bool.eq_false_iff.mpr c5
      subst c5
      have H1 : (copselaw15_ConeCovers.l0 k1 l0 x3_1 (wrap64 (x4_1 + 1))) = some r := by rw [if_neg (show ¬ (false = true) by decide)] at H; exact H
      clear H
      have H := H1
      clear H1
      have H' := Aside0.mk H
      clear H
      have p727 : 0 ≤ (x4_1 : Int) := of_decide_eq_true (by first | (with_reducible assumption) | assumption)
      have q727 : x4_1 < (l0.length : Int) := of_decide_eq_true (by first | (with_reducible assumption) | assumption)
      obtain ⟨ad727, e727, hx727_0⟩ := Kd.at_string HR0.out x4_1 p727 q727
      cases e727
      replace hx727_0 := (HB.out.cell (World.block_lt_of_cell? w _ hx727_0)).trans hx727_0
      replace p727 := eq_true p727
      replace q727 := eq_true q727
      go_wp2_with (first | ((with_reducible refine gate_callee (f := 40) rfl ?_); refine goesL_ (some 22) rfl rfl Tryd.func40 (by kernel_rfl) rfl #[.string (rdOf ByteArray.empty l0 x4_1)] rfl (by (try simp only [List.map_toArray, List.map_cons, List.map_nil]); first | done | rfl | (simp only [List.length_drop, List.length_take]; rfl)) ?_; (with_reducible refine (path_Valid.calls k1 (rdOf ByteArray.empty l0 x4_1) false _ A4.out).mono ?_); rintro e w9 ⟨rfl, hb⟩; refine ⟨_, rfl, ?_⟩; have n0_ := Aside0.mk (Kd.R_below (by (with_reducible repeat (first | apply Kd.R_alloc | apply Kd.R_drewN | apply Kd.R_drew)); exact HO_3.out) hb); have n1_ := Aside0.mk (below_step (by repeat (first | (with_reducible first | exact HB.out | apply below_alloc | apply pw_below_drewN | apply below_drew1) | exact HB.out)) hb); clear HO_3; clear HB; have HO_3 := n0_; have HB := n1_; clear n0_ n1_; (try clear hb); (try clear hb2); (try clear hk); (try clear hi)))
      go_roundg k1
      case measure => have := HK1.out; omega
      case rel => exact ⟨(x3_1), (wrap64 (x4_1 + 1)), (by first | rfl | (simp; done) | (simp [*]; done)), H', ⟨by have := HK1.out; omega⟩, ⟨by (with_reducible repeat (first | apply Kd.R_alloc | apply Kd.R_drewN | apply Kd.R_drew)); exact HO_3.out⟩, ⟨by repeat (first | (with_reducible first | exact HB.out | apply below_alloc | apply pw_below_drewN | apply below_drew1) | exact HB.out)⟩⟩
    ·rw [if_neg c3] at H
     exact absurd H (by simp)
   ·rw [if_neg c2] at H
    have c2b0 : decide (x4_1 < (l0.length : Int)) = false := decide_eq_false c2
    clear c2
    replace H := Option.bind_eq_some_iff.mp H
    obtain ⟨t733, A100, H⟩ := H
    replace H : ((copselaw15_alive.f k1).bind fun t736 => (if t736 = true then ((cone_Valid.f k1 t733).bind fun t737 => ((copselaw15_num.f t737).bind fun t738 => (copselaw15_ConeCovers.j1 k1 x3_1 t733 (t738 != 0)))) else (copselaw15_ConeCovers.j1 k1 x3_1 t733 true))) = some r := H
    have A10 := Aside0.mk A100
    clear A100
    have HC11 := Aside0.mk H
    clear H
    obtain ⟨Ao12, co12, eo12⟩ := Kd.R_slice HO_3.out
    subst eo12
    go_upto_region 8 with (first | ((with_reducible refine gate_callee (f := 30) rfl ?_); refine goesL_ (some 31) rfl rfl Tryd.func30 (by kernel_rfl) rfl #[.slice Ao12 x3_1.length co12] rfl (by (try simp only [List.map_toArray, List.map_cons, List.map_nil]); first | done | rfl | (simp only [List.length_drop, List.length_take]; rfl)) ?_; (with_reducible refine (cone_Cover.calls k1 _ _ x3_1 t733 _ ?side1 ?side2 A10.out).mono ?_); (case side1 => repeat (first | exact (Kd.R_reads' HO_3.out).2.2 | (with_reducible refine Kd.C_alloc ?_ _) | (with_reducible refine Kd.C_drewN ?_ _) | (with_reducible refine Kd.C_drew ?_))); (case side2 => exact (Kd.R_reads' HO_3.out).2.1); rintro e w13 ⟨v734, rfl, ho0, hb⟩; refine ⟨_, rfl, ?_⟩; have n0_ := Aside0.mk (Kd.R_elder' (by (with_reducible repeat (first | apply Kd.R_alloc | apply Kd.R_drewN | apply Kd.R_drew)); exact HO_3.out) (Kd.R_base ho0) hb); have n1_ := Aside0.mk (Kd.R_lower (Kd.R_new' ho0 (Kd.R_lt (by (with_reducible repeat (first | apply Kd.R_alloc | apply Kd.R_drewN | apply Kd.R_drew)); exact HO_3.out))) (below_size (by repeat (first | (with_reducible first | exact HB.out | apply below_alloc | apply pw_below_drewN | apply below_drew1) | exact HB.out)))); have n2_ := Aside0.mk (below_step (by repeat (first | (with_reducible first | exact HB.out | apply below_alloc | apply pw_below_drewN | apply below_drew1) | exact HB.out)) hb); clear HO_3; clear HB; have HO_3 := n0_; have HO735 := n1_; have HB := n2_; clear n0_ n1_ n2_; (try clear hb); (try clear hb2); (try clear hk); (try clear hi); (try clear ho0)))
    (try simp only [Act.put, List.setIfInBounds_toArray, List.set_cons_zero, List.set_cons_succ])
    go_cut [39] (fun v39 wc => ∃ (kq : Nat) (x39_10 : Bool), v39 = .bool x39_10 ∧ Aside0 (copselaw15_ConeCovers.j1 kq x3_1 t733 x39_10 = some r) ∧ Aside0 (kq ≤ k1) ∧ Aside0 (Kd.R Kd.string 9 wc w.heap.size (fun k_ => some k_ ≠ (v734 : Value).ownBlock) (.slice Ao12 x3_1.length co12) x3_1) ∧ Aside0 (Kd.R Kd.string 9 wc w.heap.size (fun k_ => some k_ ≠ ((.slice Ao12 x3_1.length co12) : Value).ownBlock) v734 t733) ∧ Aside0 (Below w.heap.size w wc))
    case first =>
     have H := HC11.out
     clear HC11
     replace H := Option.bind_eq_some_iff.mp H
     obtain ⟨t736, A140, H⟩ := H
     replace H : (if t736 = true then ((cone_Valid.f k1 t733).bind fun t737 => ((copselaw15_num.f t737).bind fun t738 => (copselaw15_ConeCovers.j1 k1 x3_1 t733 (t738 != 0)))) else (copselaw15_ConeCovers.j1 k1 x3_1 t733 true)) = some r := H
     have A14 := Aside0.mk A140
     clear A140
     by_cases c15 : t736 = true
     ·subst c15
      have H1 : ((cone_Valid.f k1 t733).bind fun t737 => ((copselaw15_num.f t737).bind fun t738 => (copselaw15_ConeCovers.j1 k1 x3_1 t733 (t738 != 0)))) = some r := by rw [if_pos rfl] at H; exact H
      clear H
      have H := H1
      clear H1
      replace H := Option.bind_eq_some_iff.mp H
      obtain ⟨t737, A160, H⟩ := H
      replace H : ((copselaw15_num.f t737).bind fun t738 => (copselaw15_ConeCovers.j1 k1 x3_1 t733 (t738 != 0))) = some r := H
      have A16 := Aside0.mk A160
      clear A160
      replace H := Option.bind_eq_some_iff.mp H
      obtain ⟨t738, A170, H⟩ := H
      replace H : (copselaw15_ConeCovers.j1 k1 x3_1 t733 (t738 != 0)) = some r := H
      have A17 := Aside0.mk A170
      clear A170
      have H' := Aside0.mk H
      clear H
      go_wp2_with (first | ((with_reducible refine gate_callee (f := 36) rfl ?_); refine goesL_ (some 32) rfl rfl Tryd.func36 (by kernel_rfl) rfl #[] rfl (by (try simp only [List.map_toArray, List.map_cons, List.map_nil]); first | done | rfl | (simp only [List.length_drop, List.length_take]; rfl)) ?_; (with_reducible refine (copselaw15_alive.calls k1  true _ A14.out).mono ?_); rintro e w18 ⟨rfl, hb⟩; refine ⟨_, rfl, ?_⟩; have n0_ := Aside0.mk (Kd.R_below (by (with_reducible repeat (first | apply Kd.R_alloc | apply Kd.R_drewN | apply Kd.R_drew)); exact HO_3.out) hb); have n1_ := Aside0.mk (Kd.R_below (by (with_reducible repeat (first | apply Kd.R_alloc | apply Kd.R_drewN | apply Kd.R_drew)); exact HO735.out) hb); have n2_ := Aside0.mk (below_step (by repeat (first | (with_reducible first | exact HB.out | apply below_alloc | apply pw_below_drewN | apply below_drew1) | exact HB.out)) hb); clear HO_3; clear HO735; clear HB; have HO_3 := n0_; have HO735 := n1_; have HB := n2_; clear n0_ n1_ n2_; (try clear hb); (try clear hb2); (try clear hk); (try clear hi); obtain ⟨Ao19, co19, eo19⟩ := Kd.R_slice HO735.out; subst eo19) | (go_at_call 32; (with_reducible refine (cone_Valid.calls k1 _ _ t733 t737 _ ?side1 ?side2 A16.out).mono ?_); (case side1 => repeat (first | exact (Kd.R_reads' HO735.out).2.2 | (with_reducible refine Kd.C_alloc ?_ _) | (with_reducible refine Kd.C_drewN ?_ _) | (with_reducible refine Kd.C_drew ?_))); (case side2 => exact (Kd.R_reads' HO735.out).2.1); rintro e w20 ⟨rfl, hb⟩; have n0_ := Aside0.mk (Kd.R_below (by (with_reducible repeat (first | apply Kd.R_alloc | apply Kd.R_drewN | apply Kd.R_drew)); exact HO_3.out) hb); have n1_ := Aside0.mk (Kd.R_below (by (with_reducible repeat (first | apply Kd.R_alloc | apply Kd.R_drewN | apply Kd.R_drew)); exact HO735.out) hb); have n2_ := Aside0.mk (below_step (by repeat (first | (with_reducible first | exact HB.out | apply below_alloc | apply pw_below_drewN | apply below_drew1) | exact HB.out)) hb); clear HO_3; clear HO735; clear HB; have HO_3 := n0_; have HO735 := n1_; have HB := n2_; clear n0_ n1_ n2_; (try clear hb); (try clear hb2); (try clear hk); (try clear hi)) | (go_at_call 31; (with_reducible refine (copselaw15_num.calls t737 t738 _ A17.out).mono ?_); rintro e w' ⟨rfl, ⟨nd, rfl⟩⟩))
      go_meet
      case rel => exact ⟨_, ((t738 != 0)), (by first | rfl | (simp; done) | (simp [*]; done)), H', ⟨by have := HK1.out; first | omega | exact Nat.le_refl _⟩, ⟨by (with_reducible repeat (first | apply Kd.R_alloc | apply Kd.R_drewN | apply Kd.R_drew)); exact Kd.R_mono HO_3.out (fun _ hk => hk.2)⟩, ⟨by (with_reducible repeat (first | apply Kd.R_alloc | apply Kd.R_drewN | apply Kd.R_drew)); exact Kd.R_mono HO735.out (fun _ hk => hk.2)⟩, ⟨by repeat (first | (with_reducible first | exact HB.out | apply below_alloc | apply pw_below_drewN | apply below_drew1) | exact HB.out)⟩⟩
     ·replace c15 := Bool.eq_false_iff.mpr c15
      subst c15
      have H1 : (copselaw15_ConeCovers.j1 k1 x3_1 t733 true) = some r := by rw [if_neg (show ¬ (false = true) by decide)] at H; exact H
      clear H
      have H := H1
      clear H1
      have H' := Aside0.mk H
      clear H
      go_wp2_with (first | ((with_reducible refine gate_callee (f := 36) rfl ?_); refine goesL_ (some 32) rfl rfl Tryd.func36 (by kernel_rfl) rfl #[] rfl (by (try simp only [List.map_toArray, List.map_cons, List.map_nil]); first | done | rfl | (simp only [List.length_drop, List.length_take]; rfl)) ?_; (with_reducible refine (copselaw15_alive.calls k1  false _ A14.out).mono ?_); rintro e w21 ⟨rfl, hb⟩; refine ⟨_, rfl, ?_⟩; have n0_ := Aside0.mk (Kd.R_below (by (with_reducible repeat (first | apply Kd.R_alloc | apply Kd.R_drewN | apply Kd.R_drew)); exact HO_3.out) hb); have n1_ := Aside0.mk (Kd.R_below (by (with_reducible repeat (first | apply Kd.R_alloc | apply Kd.R_drewN | apply Kd.R_drew)); exact HO735.out) hb); have n2_ := Aside0.mk (below_step (by repeat (first | (with_reducible first | exact HB.out | apply below_alloc | apply pw_below_drewN | apply below_drew1) | exact HB.out)) hb); clear HO_3; clear HO735; clear HB; have HO_3 := n0_; have HO735 := n1_; have HB := n2_; clear n0_ n1_ n2_; (try clear hb); (try clear hb2); (try clear hk); (try clear hi)))
      go_meet
      case rel => exact ⟨_, (true), (by first | rfl | (simp; done) | (simp [*]; done)), H', ⟨by have := HK1.out; first | omega | exact Nat.le_refl _⟩, ⟨by (with_reducible repeat (first | apply Kd.R_alloc | apply Kd.R_drewN | apply Kd.R_drew)); exact Kd.R_mono HO_3.out (fun _ hk => hk.2)⟩, ⟨by (with_reducible repeat (first | apply Kd.R_alloc | apply Kd.R_drewN | apply Kd.R_drew)); exact Kd.R_mono HO735.out (fun _ hk => hk.2)⟩, ⟨by repeat (first | (with_reducible first | exact HB.out | apply below_alloc | apply pw_below_drewN | apply below_drew1) | exact HB.out)⟩⟩
    case rest =>
     clear HC11
     try clear c1
     try clear c2
     try clear c2b0
     try clear p2
     try clear c3
     try clear c3b0
     try clear c4
     try clear c5
     try clear c6
     try clear p6
     try clear c7
     try clear p7
     try clear q7
     try clear hx7
     try clear c15
     try clear hx727_0
     try clear hx729_0
     try clear p727
     try clear p729
     try clear q727
     try clear q729
     obtain ⟨kq, x39_10, rfl, HA, HJ10, HO_3, HO_5, HB⟩ := hcut
     cases kq with
     | zero => exact absurd HA.out (by simp [copselaw15_ConeCovers.j1])
     | succ kj10 =>
      have H := HA.out
      clear HA
      simp only [copselaw15_ConeCovers.j1] at H
      by_cases c22 : x39_10 = true
      ·subst c22
       have H1 : (some false) = some r := by rw [if_pos rfl] at H; exact H
       clear H
       have H := H1
       clear H1
       obtain rfl := Option.some.inj H
       go_wp2
       go_ret
       exact ⟨by first | rfl | (simp [errW_none, errW_some] <;> rfl) | (simp [*, errW_none, errW_some] <;> rfl), by repeat (first | (with_reducible first | exact HB.out | apply below_alloc | apply pw_below_drewN | apply below_drew1) | exact HB.out)⟩
      ·replace c22 := Bool.eq_false_iff.mpr c22
       subst c22
       have H1 : (copselaw15_ConeCovers.l1 kj10 x3_1 t733 0) = some r := by rw [if_neg (show ¬ (false = true) by decide)] at H; exact H
       clear H
       have H := H1
       clear H1
       have H' := Aside0.mk H
       clear H
       go_wp2
       go_loopg [6] kj10 (fun kq v6 w' => ∃ (x6_3 : Int), v6 = .int .i64 x6_3 ∧ Aside0 (copselaw15_ConeCovers.l1 kq x3_1 t733 x6_3 = some r) ∧ Aside0 (kq ≤ kj10) ∧ Aside0 (Kd.R Kd.string 9 w' w.heap.size (fun k_ => some k_ ≠ (v734 : Value).ownBlock) (.slice Ao12 x3_1.length co12) x3_1) ∧ Aside0 (Kd.R Kd.string 9 w' w.heap.size (fun k_ => some k_ ≠ ((.slice Ao12 x3_1.length co12) : Value).ownBlock) v734 t733) ∧ Aside0 (Below w.heap.size w w'))
       case atStart => exact ⟨(0), (by first | rfl | (simp; done) | (simp [*]; done)), H', ⟨Nat.le_refl _⟩, ⟨by (with_reducible repeat (first | apply Kd.R_alloc | apply Kd.R_drewN | apply Kd.R_drew)); exact HO_3.out⟩, ⟨by (with_reducible repeat (first | apply Kd.R_alloc | apply Kd.R_drewN | apply Kd.R_drew)); exact HO_5.out⟩, ⟨by repeat (first | (with_reducible first | exact HB.out | apply below_alloc | apply pw_below_drewN | apply below_drew1) | exact HB.out)⟩⟩
       case round =>
        clear H'
        try clear c1
        try clear c2
        try clear c2b0
        try clear p2
        try clear c3
        try clear c3b0
        try clear c4
        try clear c5
        try clear c6
        try clear p6
        try clear c7
        try clear p7
        try clear q7
        try clear hx7
        try clear c15
        try clear c22
        try clear hx727_0
        try clear hx729_0
        try clear p2
        try clear p6
        try clear p7
        try clear p727
        try clear p729
        try clear q7
        try clear q727
        try clear q729
        obtain ⟨x6_3, rfl, HA, HK3, HO_3, HO_5, HB⟩ := hrel
        cases gk with
        | zero => exact absurd HA.out (by simp [copselaw15_ConeCovers.l1])
        | succ k3 =>
         have H := HA.out
         clear HA
         simp only [copselaw15_ConeCovers.l1] at H
         by_cases c23 : x6_3 < (x3_1.length : Int)
         ·rw [if_pos c23] at H
          have c23b0 : decide (x6_3 < (x3_1.length : Int)) = true := decide_eq_true c23
          clear c23
          by_cases c24 : 0 ≤ x6_3
          ·rw [if_pos c24] at H
           have c24b0 : decide (0 ≤ x6_3) = true := decide_eq_true c24
           clear c24
           replace H := Option.bind_eq_some_iff.mp H
           obtain ⟨t740, A250, H⟩ := H
           replace H : (if t740 = true then (copselaw15_ConeCovers.l1 k3 x3_1 t733 (wrap64 (x6_3 + 1))) else (some false)) = some r := H
           have A25 := Aside0.mk A250
           clear A250
           by_cases c26 : t740 = true
           ·subst c26
            have H1 : (copselaw15_ConeCovers.l1 k3 x3_1 t733 (wrap64 (x6_3 + 1))) = some r := by rw [if_pos rfl] at H; exact H
            clear H
            have H := H1
            clear H1
            have H' := Aside0.mk H
            clear H
            have p739 : 0 ≤ (x6_3 : Int) := of_decide_eq_true (by first | (with_reducible assumption) | assumption)
            have q739 : x6_3 < (x3_1.length : Int) := of_decide_eq_true (by first | (with_reducible assumption) | assumption)
            obtain ⟨ad739, e739, hx739_0⟩ := Kd.at_string (Kd.R_reads' HO_3.out).2.2 x6_3 p739 q739
            cases e739
            replace p739 := eq_true p739
            replace q739 := eq_true q739
            obtain ⟨Ao27, co27, eo27⟩ := Kd.R_slice HO_5.out
            subst eo27
            go_wp2_with (first | ((with_reducible refine gate_callee (f := 34) rfl ?_); refine goesL_ (some 51) rfl rfl Tryd.func34 (by kernel_rfl) rfl #[.slice Ao27 t733.length co27, .string (rdOf ByteArray.empty x3_1 x6_3)] rfl (by (try simp only [List.map_toArray, List.map_cons, List.map_nil]); first | done | rfl | (simp only [List.length_drop, List.length_take]; rfl)) ?_; (with_reducible refine (cone_Shows.calls k3 _ _ t733 (rdOf ByteArray.empty x3_1 x6_3) true _ ?side1 ?side2 A25.out).mono ?_); (case side1 => repeat (first | exact (Kd.R_reads' HO_5.out).2.2 | (with_reducible refine Kd.C_alloc ?_ _) | (with_reducible refine Kd.C_drewN ?_ _) | (with_reducible refine Kd.C_drew ?_))); (case side2 => exact (Kd.R_reads' HO_5.out).2.1); rintro e w28 ⟨rfl, hb⟩; refine ⟨_, rfl, ?_⟩; have n0_ := Aside0.mk (Kd.R_below (by (with_reducible repeat (first | apply Kd.R_alloc | apply Kd.R_drewN | apply Kd.R_drew)); exact HO_3.out) hb); have n1_ := Aside0.mk (Kd.R_below (by (with_reducible repeat (first | apply Kd.R_alloc | apply Kd.R_drewN | apply Kd.R_drew)); exact HO_5.out) hb); have n2_ := Aside0.mk (below_step (by repeat (first | (with_reducible first | exact HB.out | apply below_alloc | apply pw_below_drewN | apply below_drew1) | exact HB.out)) hb); clear HO_3; clear HO_5; clear HB; have HO_3 := n0_; have HO_5 := n1_; have HB := n2_; clear n0_ n1_ n2_; (try clear hb); (try clear hb2); (try clear hk); (try clear hi)))
            go_roundg k3
            case measure => have := HK1.out; have := HJ10.out; have := HK3.out; omega
            case rel => exact ⟨(wrap64 (x6_3 + 1)), (by first | rfl | (simp; done) | (simp [*]; done)), H', ⟨by have := HK1.out; have := HJ10.out; have := HK3.out; omega⟩, ⟨by (with_reducible repeat (first | apply Kd.R_alloc | apply Kd.R_drewN | apply Kd.R_drew)); exact HO_3.out⟩, ⟨by (with_reducible repeat (first | apply Kd.R_alloc | apply Kd.R_drewN | apply Kd.R_drew)); exact HO_5.out⟩, ⟨by repeat (first | (with_reducible first | exact HB.out | apply below_alloc | apply pw_below_drewN | apply below_drew1) | exact HB.out)⟩⟩
           ·replace c26 := Bool.eq_false_iff.mpr c26
            subst c26
            have H1 : (some false) = some r := by rw [if_neg (show ¬ (false = true) by decide)] at H; exact H
            clear H
            have H := H1
            clear H1
            obtain rfl := Option.some.inj H
            have p739 : 0 ≤ (x6_3 : Int) := of_decide_eq_true (by first | (with_reducible assumption) | assumption)
            have q739 : x6_3 < (x3_1.length : Int) := of_decide_eq_true (by first | (with_reducible assumption) | assumption)
            obtain ⟨ad739, e739, hx739_0⟩ := Kd.at_string (Kd.R_reads' HO_3.out).2.2 x6_3 p739 q739
            cases e739
            replace p739 := eq_true p739
            replace q739 := eq_true q739
            obtain ⟨Ao29, co29, eo29⟩ := Kd.R_slice HO_5.out
            subst eo29
            go_wp2_with (first | ((with_reducible refine gate_callee (f := 34) rfl ?_); refine goesL_ (some 51) rfl rfl Tryd.func34 (by kernel_rfl) rfl #[.slice Ao29 t733.length co29, .string (rdOf ByteArray.empty x3_1 x6_3)] rfl (by (try simp only [List.map_toArray, List.map_cons, List.map_nil]); first | done | rfl | (simp only [List.length_drop, List.length_take]; rfl)) ?_; (with_reducible refine (cone_Shows.calls k3 _ _ t733 (rdOf ByteArray.empty x3_1 x6_3) false _ ?side1 ?side2 A25.out).mono ?_); (case side1 => repeat (first | exact (Kd.R_reads' HO_5.out).2.2 | (with_reducible refine Kd.C_alloc ?_ _) | (with_reducible refine Kd.C_drewN ?_ _) | (with_reducible refine Kd.C_drew ?_))); (case side2 => exact (Kd.R_reads' HO_5.out).2.1); rintro e w30 ⟨rfl, hb⟩; refine ⟨_, rfl, ?_⟩; have n0_ := Aside0.mk (Kd.R_below (by (with_reducible repeat (first | apply Kd.R_alloc | apply Kd.R_drewN | apply Kd.R_drew)); exact HO_3.out) hb); have n1_ := Aside0.mk (Kd.R_below (by (with_reducible repeat (first | apply Kd.R_alloc | apply Kd.R_drewN | apply Kd.R_drew)); exact HO_5.out) hb); have n2_ := Aside0.mk (below_step (by repeat (first | (with_reducible first | exact HB.out | apply below_alloc | apply pw_below_drewN | apply below_drew1) | exact HB.out)) hb); clear HO_3; clear HO_5; clear HB; have HO_3 := n0_; have HO_5 := n1_; have HB := n2_; clear n0_ n1_ n2_; (try clear hb); (try clear hb2); (try clear hk); (try clear hi)))
            go_ret
            exact ⟨by first | rfl | (simp [errW_none, errW_some] <;> rfl) | (simp [*, errW_none, errW_some] <;> rfl), by repeat (first | (with_reducible first | exact HB.out | apply below_alloc | apply pw_below_drewN | apply below_drew1) | exact HB.out)⟩
          ·rw [if_neg c24] at H
           exact absurd H (by simp)
         ·rw [if_neg c23] at H
          have c23b0 : decide (x6_3 < (x3_1.length : Int)) = false := decide_eq_false c23
          clear c23
          have H' := Aside0.mk H
          clear H
          go_wp2
          go_loopg [7] k3 (fun kq v7 w' => ∃ (x7_4 : Int), v7 = .int .i64 x7_4 ∧ Aside0 (copselaw15_ConeCovers.l2 kq x3_1 t733 x7_4 = some r) ∧ Aside0 (kq ≤ k3) ∧ Aside0 (Kd.R Kd.string 9 w' w.heap.size (fun k_ => some k_ ≠ (v734 : Value).ownBlock) (.slice Ao12 x3_1.length co12) x3_1) ∧ Aside0 (Kd.R Kd.string 9 w' w.heap.size (fun k_ => some k_ ≠ ((.slice Ao12 x3_1.length co12) : Value).ownBlock) v734 t733) ∧ Aside0 (Below w.heap.size w w'))
          case atStart => exact ⟨(0), (by first | rfl | (simp; done) | (simp [*]; done)), H', ⟨Nat.le_refl _⟩, ⟨by (with_reducible repeat (first | apply Kd.R_alloc | apply Kd.R_drewN | apply Kd.R_drew)); exact HO_3.out⟩, ⟨by (with_reducible repeat (first | apply Kd.R_alloc | apply Kd.R_drewN | apply Kd.R_drew)); exact HO_5.out⟩, ⟨by repeat (first | (with_reducible first | exact HB.out | apply below_alloc | apply pw_below_drewN | apply below_drew1) | exact HB.out)⟩⟩
          case round =>
           clear H'
           try clear c1
           try clear c2
           try clear c2b0
           try clear p2
           try clear c3
           try clear c3b0
           try clear c4
           try clear c5
           try clear c6
           try clear p6
           try clear c7
           try clear p7
           try clear q7
           try clear hx7
           try clear c15
           try clear c22
           try clear c23
           try clear c23b0
           try clear c24
           try clear c24b0
           try clear c26
           try clear c30
           try clear hx727_0
           try clear hx729_0
           try clear hx739_0
           try clear p2
           try clear p6
           try clear p7
           try clear p727
           try clear p729
           try clear p739
           try clear q7
           try clear q727
           try clear q729
           try clear q739
           obtain ⟨x7_4, rfl, HA, HK4, HO_3, HO_5, HB⟩ := hrel
           cases gk with
           | zero => exact absurd HA.out (by simp [copselaw15_ConeCovers.l2])
           | succ k4 =>
            have H := HA.out
            clear HA
            simp only [copselaw15_ConeCovers.l2] at H
            by_cases c31 : x7_4 < (t733.length : Int)
            ·rw [if_pos c31] at H
             have c31b0 : decide (x7_4 < (t733.length : Int)) = true := decide_eq_true c31
             clear c31
             by_cases c32 : 0 ≤ x7_4
             ·rw [if_pos c32] at H
              have c32b0 := eq_true c32
              have c32b1 : decide (0 ≤ x7_4) = true := decide_eq_true c32
              clear c32
              by_cases c33 : x7_4 ≤ (t733.length : Int)
              ·rw [if_pos c33] at H
               have c33b0 := eq_true c33
               have c33b1 : decide (x7_4 ≤ (t733.length : Int)) = true := decide_eq_true c33
               clear c33
               obtain ⟨y741, hy741⟩ : ∃ y_ : List ByteArray, y_ = (t733.take (x7_4 : Int).toNat) := ⟨_, rfl⟩
               replace H : (if ([] : List ByteArray).length + y741.length < 8796093022208 then ((some (([] : List ByteArray) ++ y741 : List ByteArray)).bind fun y745 => (if 0 ≤ (wrap64 (x7_4 + 1)) then (if (wrap64 (x7_4 + 1)) ≤ (t733.length : Int) then ((some (t733.drop ((wrap64 (x7_4 + 1)) : Int).toNat : List ByteArray)).bind fun y748 => (if y745.length + y748.length < 8796093022208 then (copselaw15_ConeCovers.l3 k4 x3_1 t733 x7_4 (y745 ++ y748) true false 0) else (none))) else (none)) else (none))) else (none)) = some r := by first | (rw [hy741]; with_reducible exact H) | (have H2_ := (Option.bind_some _ _).symm.trans H; rw [hy741]; with_reducible exact H2_) | (have H2_ := (Option.bind_some _ _).symm.trans H; with_reducible exact H2_) | with_reducible exact H | (rw [hy741]; exact H) | exact H
               have Ny741 := Aside0.mk hy741
               clear hy741
               by_cases c34 : ([] : List ByteArray).length + y741.length < 8796093022208
               ·rw [if_pos c34] at H
                have LMc34 := Aside0.mk c34
                clear c34
                obtain ⟨y745, hy745⟩ : ∃ y_ : List ByteArray, y_ = (([] : List ByteArray) ++ y741) := ⟨_, rfl⟩
                replace H : (if 0 ≤ (wrap64 (x7_4 + 1)) then (if (wrap64 (x7_4 + 1)) ≤ (t733.length : Int) then ((some (t733.drop ((wrap64 (x7_4 + 1)) : Int).toNat : List ByteArray)).bind fun y748 => (if y745.length + y748.length < 8796093022208 then (copselaw15_ConeCovers.l3 k4 x3_1 t733 x7_4 (y745 ++ y748) true false 0) else (none))) else (none)) else (none)) = some r := by first | (rw [hy745]; with_reducible exact H) | (have H2_ := (Option.bind_some _ _).symm.trans H; rw [hy745]; with_reducible exact H2_) | (have H2_ := (Option.bind_some _ _).symm.trans H; with_reducible exact H2_) | with_reducible exact H | (rw [hy745]; exact H) | exact H
                have Ny745 := Aside0.mk hy745
                clear hy745
                obtain ⟨ji35, hji35⟩ : ∃ j_ : Int, (wrap64 (x7_4 + 1)) = j_ := ⟨_, rfl⟩
                replace H : (if 0 ≤ (ji35) then (if (ji35) ≤ (t733.length : Int) then ((some (t733.drop ((ji35) : Int).toNat : List ByteArray)).bind fun y748 => (if y745.length + y748.length < 8796093022208 then (copselaw15_ConeCovers.l3 k4 x3_1 t733 x7_4 (y745 ++ y748) true false 0) else (none))) else (none)) else (none)) = some r := by first | (rw [hji35] at H; exact H) | (simp only [hji35] at H ⊢; exact H)
                have hji35w : (IntKind.i64.wrap (x7_4 + 1)) = ji35 := (i64_w _).trans hji35
                by_cases c36 : 0 ≤ (ji35)
                ·rw [if_pos c36] at H
                 have c36b0 := eq_true c36
                 have c36b1 : decide (0 ≤ (ji35)) = true := decide_eq_true c36
                 clear c36
                 by_cases c37 : (ji35) ≤ (t733.length : Int)
                 ·rw [if_pos c37] at H
                  have c37b0 := eq_true c37
                  have c37b1 : decide ((ji35) ≤ (t733.length : Int)) = true := decide_eq_true c37
                  clear c37
                  obtain ⟨y748, hy748⟩ : ∃ y_ : List ByteArray, y_ = (t733.drop ((ji35) : Int).toNat) := ⟨_, rfl⟩
                  replace H : (if y745.length + y748.length < 8796093022208 then (copselaw15_ConeCovers.l3 k4 x3_1 t733 x7_4 (y745 ++ y748) true false 0) else (none)) = some r := by first | (rw [hy748]; with_reducible exact H) | (have H2_ := (Option.bind_some _ _).symm.trans H; rw [hy748]; with_reducible exact H2_) | (have H2_ := (Option.bind_some _ _).symm.trans H; with_reducible exact H2_) | with_reducible exact H | (rw [hy748]; exact H) | exact H
                  have Ny748 := Aside0.mk hy748
                  clear hy748
                  by_cases c38 : y745.length + y748.length < 8796093022208
                  ·rw [if_pos c38] at H
                   have LMc38 := Aside0.mk c38
                   clear c38
                   obtain ⟨y752, hy752⟩ : ∃ y_ : List ByteArray, y_ = (y745 ++ y748) := ⟨_, rfl⟩
                   replace H : (copselaw15_ConeCovers.l3 k4 x3_1 t733 x7_4 y752 true false 0) = some r := by first | (rw [hy752]; with_reducible exact H) | (have H2_ := (Option.bind_some _ _).symm.trans H; rw [hy752]; with_reducible exact H2_) | (have H2_ := (Option.bind_some _ _).symm.trans H; with_reducible exact H2_) | with_reducible exact H | (rw [hy752]; exact H) | exact H
                   have Ny752 := Aside0.mk hy752
                   clear hy752
                   have H' := Aside0.mk H
                   clear H
                   obtain ⟨Ao39, co39, eo39⟩ := Kd.R_slice HO_5.out
                   subst eo39
                   have q40 : (x7_4 : Int) ≤ ((t733.length : Int) : Int) := of_decide_eq_true (by first | (with_reducible assumption) | assumption)
                   obtain ⟨i040, hi040, _, hsz40, _⟩ := info_parts info9
                   have hroom40 : t733.length ≤ co39 := (Kd.R_reads' HO_5.out).2.1
                   have hC40 : Kd.C Kd.string _ Ao39 t733.length t733 := (Kd.R_reads' HO_5.out).2.2
                   have hcut40 := cut_to (P := Tryd.prog) 22 9 .i64 Tryd.underlying22 hi040 Ao39 t733.length co39 x7_4 (of_decide_eq_true (by first | (with_reducible assumption) | assumption)) q40 hroom40
                   have hr40 := Kd.C_take (m := (x7_4 : Int).toNat) hC40 (by omega)
                   have hy40 : y741.length = (x7_4 : Int).toNat := (by rw [Ny741.out, List.length_take]; omega)
                   rw [← Ny741.out] at hr40
                   rw [← hy40] at hcut40
                   have HR744 := Aside0.mk hr40
                   have HC744 := Aside0.mk (show y741.length ≤ co39 from by omega)
                   clear hr40 hC40 hroom40 hi040 hsz40
                   have KY40 := Aside0.mk hy40
                   clear hy40
                   have KL40 := Aside0.mk (show (x7_4 : Int).toNat ≤ t733.length from by omega)
                   replace q40 := eq_true q40
                   go_wp2_with (first | ((with_reducible refine gate_builtin (b := .append) (xs := #[.tmp 59, .tmp 62]) rfl ?_); at_builtin; refine Kd.R_append_rows Kd.string (w0 := w) w.heap.size rfl (.tmp 59) (.tmp 62) 22 9 (.string ⟨#[]⟩) 16 rfl Tryd.underlying22 info9 rfl (by decide) (by omega) (.slice none 0 0) ([] : List ByteArray) y741 _ _ _ (fun k_ => some k_ ≠ (.slice Ao12 x3_1.length co12 : Value).ownBlock ∧ some k_ ≠ (.slice Ao39 t733.length co39 : Value).ownBlock) (fun _ => False) rfl rfl ?aO ?aR (fun _ _ h => h) (fun _ h => h.elim) ?aF ?aB ?aS ?aL ?_; (case aR => repeat (first | exact (by repeat (first | (with_reducible exact HR744.out) | (with_reducible refine Kd.C_alloc ?_ _) | (with_reducible refine Kd.C_drewN ?_ _) | (with_reducible refine Kd.C_drew ?_) | exact HR744.out)) | (with_reducible refine Kd.C_alloc ?_ _) | (with_reducible refine Kd.C_drewN ?_ _) | (with_reducible refine Kd.C_drew ?_))); (case aB => exact (by repeat (first | (with_reducible first | exact HB.out | apply below_alloc | apply pw_below_drewN | apply below_drew1) | exact HB.out))); (case aF => exact (fun k_ hk => ⟨Kd.fresh' (Kd.R_lt (by (with_reducible repeat (first | apply Kd.R_alloc | apply Kd.R_drewN | apply Kd.R_drew)); exact HO_3.out)) k_ hk, Kd.fresh' (Kd.R_lt (by (with_reducible repeat (first | apply Kd.R_alloc | apply Kd.R_drewN | apply Kd.R_drew)); exact HO_5.out)) k_ hk⟩)); (case aO => exact ((Kd.R_nil _ _ _ _ (fun k_ => some k_ ≠ (.slice Ao12 x3_1.length co12 : Value).ownBlock ∧ some k_ ≠ (.slice Ao39 t733.length co39 : Value).ownBlock)))); (case aS => exact (below_size (by repeat (first | (with_reducible first | exact HB.out | apply below_alloc | apply pw_below_drewN | apply below_drew1) | exact HB.out)))); (case aL => have := LMc34.out; omega); intro v746 w41 ho hb hg hat; rw [← Ny745.out] at ho; have n0_ := Aside0.mk (Kd.R_after (Kd.R_apart_nil (by (with_reducible repeat (first | apply Kd.R_alloc | apply Kd.R_drewN | apply Kd.R_drew)); exact HO_3.out)) hg hat); have n1_ := Aside0.mk (Kd.R_after (Kd.R_apart_nil (by (with_reducible repeat (first | apply Kd.R_alloc | apply Kd.R_drewN | apply Kd.R_drew)); exact HO_5.out)) hg hat); have n2_ := Aside0.mk (hb); have n3_ := Aside0.mk ((show Kd.C Kd.string w41 Ao39 y741.length y741 from by rw [Ny741.out]; exact Kd.C_take (m := (x7_4 : Int).toNat) ((Kd.R_reads' (Kd.R_after (Kd.R_apart_nil (by (with_reducible repeat (first | apply Kd.R_alloc | apply Kd.R_drewN | apply Kd.R_drew)); exact HO_5.out)) hg hat)).2.2) KL40.out)); have n4_ := Aside0.mk (ho); clear HO_3; clear HO_5; clear HB; clear HR744; have HO_3 := n0_; have HO_5 := n1_; have HB := n2_; have HR744 := n3_; have HO747 := n4_; clear n0_ n1_ n2_ n3_ n4_; clear ho hb hg hat; have q42 : ((ji35) : Int) ≤ ((t733.length : Int) : Int) := of_decide_eq_true (by first | (with_reducible assumption) | assumption); obtain ⟨i042, hi042, _, hsz42, _⟩ := info_parts info9; have hroom42 : t733.length ≤ co39 := (Kd.R_reads' HO_5.out).2.1; have hC42 : Kd.C Kd.string _ Ao39 t733.length t733 := (Kd.R_reads' HO_5.out).2.2; have q042 : (0 : Int) ≤ ((ji35) : Int) := of_decide_eq_true (by first | (with_reducible assumption) | assumption); have hcut42 := cut_from (P := Tryd.prog) 22 9 .i64 Tryd.underlying22 hi042 1 hsz42 Ao39 t733.length co39 (ji35) q042 q42; have hr42 := Kd.C_drop (m := ((ji35) : Int).toNat) (c := co39) hC42 (by omega) hroom42; obtain ⟨A42, hA42⟩ : ∃ A1, A1 = (if co39 = ((ji35) : Int).toNat then Ao39 else (Ao39 : Option Addr).map (·.add (((ji35) : Int).toNat * 1))) := ⟨_, rfl⟩; obtain ⟨c42, hc42⟩ : ∃ c1, c1 = co39 - ((ji35) : Int).toNat := ⟨_, rfl⟩; have hy42 : y748.length = t733.length - ((ji35) : Int).toNat := (by rw [Ny748.out, List.length_drop] <;> omega); rw [show (t733).drop ((ji35) : Int).toNat = y748 from Ny748.out.symm] at hr42; replace hr42 : Kd.C Kd.string _ A42 y748.length y748 := (by rw [hA42]; exact hr42); rw [← hy42, ← hA42, ← hc42] at hcut42; have HR751 := Aside0.mk hr42; have HC751 := Aside0.mk (show y748.length ≤ c42 from by rw [hy42, hc42]; exact Nat.sub_le_sub_right hroom42 _); clear hr42 hC42 hroom42 hi042 hsz42 hc42; have KY42 := Aside0.mk hy42; have KA42 := Aside0.mk hA42; clear hy42 hA42; have KL42 := Aside0.mk (show ((ji35) : Int).toNat ≤ t733.length from by omega); replace q42 := eq_true q42) | ((with_reducible refine gate_builtin (b := .append) (xs := #[.tmp 64, .tmp 68]) rfl ?_); at_builtin; refine Kd.R_append_rows Kd.string (w0 := w) w.heap.size rfl (.tmp 64) (.tmp 68) 22 9 (.string ⟨#[]⟩) 16 rfl Tryd.underlying22 info9 rfl (by decide) (by omega) v746 y745 y748 _ _ _ (fun k_ => some k_ ≠ (.slice Ao12 x3_1.length co12 : Value).ownBlock ∧ some k_ ≠ (.slice Ao39 t733.length co39 : Value).ownBlock) (fun _ => False) rfl rfl ?aO ?aR (fun _ _ h => h) (fun _ h => h.elim) ?aF ?aB ?aS ?aL ?_; (case aR => repeat (first | exact (by repeat (first | (with_reducible exact HR751.out) | (with_reducible refine Kd.C_alloc ?_ _) | (with_reducible refine Kd.C_drewN ?_ _) | (with_reducible refine Kd.C_drew ?_) | exact HR751.out)) | (with_reducible refine Kd.C_alloc ?_ _) | (with_reducible refine Kd.C_drewN ?_ _) | (with_reducible refine Kd.C_drew ?_))); (case aB => exact (by repeat (first | (with_reducible first | exact HB.out | apply below_alloc | apply pw_below_drewN | apply below_drew1) | exact HB.out))); (case aF => exact (fun k_ hk => ⟨Kd.fresh' (Kd.R_lt (by (with_reducible repeat (first | apply Kd.R_alloc | apply Kd.R_drewN | apply Kd.R_drew)); exact HO_3.out)) k_ hk, Kd.fresh' (Kd.R_lt (by (with_reducible repeat (first | apply Kd.R_alloc | apply Kd.R_drewN | apply Kd.R_drew)); exact HO_5.out)) k_ hk⟩)); (case aO => exact (by (with_reducible repeat (first | apply Kd.R_alloc | apply Kd.R_drewN | apply Kd.R_drew)); exact HO747.out)); (case aS => exact (below_size (by repeat (first | (with_reducible first | exact HB.out | apply below_alloc | apply pw_below_drewN | apply below_drew1) | exact HB.out)))); (case aL => have := LMc38.out; omega); intro v753 w43 ho hb hg hat; rw [← Ny752.out] at ho; have n0_ := Aside0.mk (Kd.R_after (ok := (fun k_ => some k_ ≠ (.slice Ao39 t733.length co39 : Value).ownBlock)) (by (with_reducible repeat (first | apply Kd.R_alloc | apply Kd.R_drewN | apply Kd.R_drew)); exact HO_3.out) hg hat); have n1_ := Aside0.mk (Kd.R_after (ok := (fun k_ => some k_ ≠ (.slice Ao12 x3_1.length co12 : Value).ownBlock)) (by (with_reducible repeat (first | apply Kd.R_alloc | apply Kd.R_drewN | apply Kd.R_drew)); exact HO_5.out) hg hat); have n2_ := Aside0.mk (hb); have n3_ := Aside0.mk ((show Kd.C Kd.string w43 Ao39 y741.length y741 from by rw [Ny741.out]; exact Kd.C_take (m := (x7_4 : Int).toNat) ((Kd.R_reads' (Kd.R_after (ok := (fun k_ => some k_ ≠ (.slice Ao12 x3_1.length co12 : Value).ownBlock)) (by (with_reducible repeat (first | apply Kd.R_alloc | apply Kd.R_drewN | apply Kd.R_drew)); exact HO_5.out) hg hat)).2.2) KL40.out)); have n4_ := Aside0.mk ((show Kd.C Kd.string w43 A42 y748.length y748 from by rw [Ny748.out, KA42.out]; exact Kd.C_drop (m := ((ji35) : Int).toNat) (c := co39) ((Kd.R_reads' (Kd.R_after (ok := (fun k_ => some k_ ≠ (.slice Ao12 x3_1.length co12 : Value).ownBlock)) (by (with_reducible repeat (first | apply Kd.R_alloc | apply Kd.R_drewN | apply Kd.R_drew)); exact HO_5.out) hg hat)).2.2) KL42.out ((Kd.R_reads' (Kd.R_after (ok := (fun k_ => some k_ ≠ (.slice Ao12 x3_1.length co12 : Value).ownBlock)) (by (with_reducible repeat (first | apply Kd.R_alloc | apply Kd.R_drewN | apply Kd.R_drew)); exact HO_5.out) hg hat)).2.1))); have n5_ := Aside0.mk (ho); clear HO_3; clear HO_5; clear HB; clear HR744; clear HR751; clear HO747; have HO_3 := n0_; have HO_5 := n1_; have HB := n2_; have HR744 := n3_; have HR751 := n4_; have HO754 := n5_; clear n0_ n1_ n2_ n3_ n4_ n5_; clear ho hb hg hat))
                   go_loopg [9, 10, 11] k4 (fun kq v9 v10 v11 w' => ∃ (x9_5 : Bool) (x10_5 : Bool) (x11_5 : Int), v9 = .bool x9_5 ∧ v10 = .bool x10_5 ∧ v11 = .int .i64 x11_5 ∧ Aside0 (copselaw15_ConeCovers.l3 kq x3_1 t733 x7_4 y752 x9_5 x10_5 x11_5 = some r) ∧ Aside0 (kq ≤ k4) ∧ Aside0 (Kd.R Kd.string 9 w' w.heap.size (fun k_ => some k_ ≠ ((.slice Ao39 t733.length co39) : Value).ownBlock ∧ some k_ ≠ (v753 : Value).ownBlock) (.slice Ao12 x3_1.length co12) x3_1) ∧ Aside0 (Kd.R Kd.string 9 w' w.heap.size (fun k_ => some k_ ≠ ((.slice Ao12 x3_1.length co12) : Value).ownBlock ∧ some k_ ≠ (v753 : Value).ownBlock) (.slice Ao39 t733.length co39) t733) ∧ Aside0 (Kd.R Kd.string 9 w' w.heap.size (fun k_ => some k_ ≠ ((.slice Ao12 x3_1.length co12) : Value).ownBlock ∧ some k_ ≠ ((.slice Ao39 t733.length co39) : Value).ownBlock) v753 y752) ∧ Aside0 (Kd.C Kd.string w' Ao39 y741.length y741) ∧ Aside0 (Kd.C Kd.string w' A42 y748.length y748) ∧ Aside0 (Below w.heap.size w w'))
                   case atStart => exact ⟨(true), (false), (0), (by first | rfl | (simp; done) | (simp [*]; done)), (by first | rfl | (simp; done) | (simp [*]; done)), (by first | rfl | (simp; done) | (simp [*]; done)), H', ⟨Nat.le_refl _⟩, ⟨by (with_reducible repeat (first | apply Kd.R_alloc | apply Kd.R_drewN | apply Kd.R_drew)); exact HO_3.out⟩, ⟨by (with_reducible repeat (first | apply Kd.R_alloc | apply Kd.R_drewN | apply Kd.R_drew)); exact HO_5.out⟩, ⟨by (with_reducible repeat (first | apply Kd.R_alloc | apply Kd.R_drewN | apply Kd.R_drew)); exact HO754.out⟩, ⟨by repeat (first | (with_reducible exact HR744.out) | (with_reducible refine Kd.C_alloc ?_ _) | (with_reducible refine Kd.C_drewN ?_ _) | (with_reducible refine Kd.C_drew ?_) | exact HR744.out)⟩, ⟨by repeat (first | (with_reducible exact HR751.out) | (with_reducible refine Kd.C_alloc ?_ _) | (with_reducible refine Kd.C_drewN ?_ _) | (with_reducible refine Kd.C_drew ?_) | exact HR751.out)⟩, ⟨by repeat (first | (with_reducible first | exact HB.out | apply below_alloc | apply pw_below_drewN | apply below_drew1) | exact HB.out)⟩⟩
                   case round =>
                    clear H'
                    try clear c1
                    try clear c2
                    try clear c2b0
                    try clear p2
                    try clear c3
                    try clear c3b0
                    try clear c4
                    try clear q4
                    try clear c5
                    try clear c6
                    try clear p6
                    try clear c7
                    try clear p7
                    try clear q7
                    try clear hx7
                    try clear c15
                    try clear c22
                    try clear c23
                    try clear c23b0
                    try clear c24
                    try clear c24b0
                    try clear c26
                    try clear c30
                    try clear c31
                    try clear c31b0
                    try clear c32
                    try clear c32b0
                    try clear c32b1
                    try clear c33
                    try clear c33b0
                    try clear c33b1
                    try clear c34
                    try clear c36
                    try clear c36b0
                    try clear c36b1
                    try clear c37
                    try clear c37b0
                    try clear c37b1
                    try clear c38
                    try clear c40
                    try clear q40
                    try clear c42
                    try clear q42
                    try clear hx727_0
                    try clear hx729_0
                    try clear hx739_0
                    try clear p2
                    try clear p6
                    try clear p7
                    try clear p727
                    try clear p729
                    try clear p739
                    try clear q042
                    try clear q40
                    try clear q42
                    try clear q7
                    try clear q727
                    try clear q729
                    try clear q739
                    obtain ⟨x9_5, x10_5, x11_5, rfl, rfl, rfl, HA, HK5, HO_3, HO_5, HO_8, HR744, HR751, HB⟩ := hrel
                    cases gk with
                    | zero => exact absurd HA.out (by simp [copselaw15_ConeCovers.l3])
                    | succ k5 =>
                     have H := HA.out
                     clear HA
                     simp only [copselaw15_ConeCovers.l3] at H
                     by_cases c44 : x11_5 < (x3_1.length : Int)
                     ·rw [if_pos c44] at H
                      have c44b0 : decide (x11_5 < (x3_1.length : Int)) = true := decide_eq_true c44
                      clear c44
                      by_cases c45 : x9_5 = true
                      ·subst c45
                       have H1 : (if 0 ≤ x11_5 then ((cone_Shows.f k5 y752 (rdOf ByteArray.empty x3_1 x11_5)).bind fun t756 => (if x10_5 = true then (copselaw15_ConeCovers.l3 k5 x3_1 t733 x7_4 y752 t756 true (wrap64 (x11_5 + 1))) else ((path_Dir.f k5 (rdOf ByteArray.empty x3_1 x11_5)).bind fun t758 => (if 0 ≤ x7_4 then (if x7_4 < (t733.length : Int) then (copselaw15_ConeCovers.l3 k5 x3_1 t733 x7_4 y752 t756 (t758.toList == (rdOf ByteArray.empty t733 x7_4).toList) (wrap64 (x11_5 + 1))) else (none)) else (none))))) else (none)) = some r := by rw [if_pos rfl] at H; exact H
                       clear H
                       have H := H1
                       clear H1
                       by_cases c46 : 0 ≤ x11_5
                       ·rw [if_pos c46] at H
                        have c46b0 : decide (0 ≤ x11_5) = true := decide_eq_true c46
                        clear c46
                        replace H := Option.bind_eq_some_iff.mp H
                        obtain ⟨t756, A470, H⟩ := H
                        replace H : (if x10_5 = true then (copselaw15_ConeCovers.l3 k5 x3_1 t733 x7_4 y752 t756 true (wrap64 (x11_5 + 1))) else ((path_Dir.f k5 (rdOf ByteArray.empty x3_1 x11_5)).bind fun t758 => (if 0 ≤ x7_4 then (if x7_4 < (t733.length : Int) then (copselaw15_ConeCovers.l3 k5 x3_1 t733 x7_4 y752 t756 (t758.toList == (rdOf ByteArray.empty t733 x7_4).toList) (wrap64 (x11_5 + 1))) else (none)) else (none)))) = some r := H
                        have A47 := Aside0.mk A470
                        clear A470
                        by_cases c48 : x10_5 = true
                        ·subst c48
                         have H1 : (copselaw15_ConeCovers.l3 k5 x3_1 t733 x7_4 y752 t756 true (wrap64 (x11_5 + 1))) = some r := by rw [if_pos rfl] at H; exact H
                         clear H
                         have H := H1
                         clear H1
                         have H' := Aside0.mk H
                         clear H
                         have p755 : 0 ≤ (x11_5 : Int) := of_decide_eq_true (by first | (with_reducible assumption) | assumption)
                         have q755 : x11_5 < (x3_1.length : Int) := of_decide_eq_true (by first | (with_reducible assumption) | assumption)
                         obtain ⟨ad755, e755, hx755_0⟩ := Kd.at_string (Kd.R_reads' HO_3.out).2.2 x11_5 p755 q755
                         cases e755
                         replace p755 := eq_true p755
                         replace q755 := eq_true q755
                         obtain ⟨Ao49, co49, eo49⟩ := Kd.R_slice HO_8.out
                         subst eo49
                         try go_wp2_with (first | (go_at_call 34; (with_reducible refine (cone_Shows.calls k5 _ _ y752 (rdOf ByteArray.empty x3_1 x11_5) t756 _ ?side1 ?side2 A47.out).mono ?_); (case side1 => repeat (first | exact (Kd.R_reads' HO_8.out).2.2 | (with_reducible refine Kd.C_alloc ?_ _) | (with_reducible refine Kd.C_drewN ?_ _) | (with_reducible refine Kd.C_drew ?_))); (case side2 => exact (Kd.R_reads' HO_8.out).2.1); rintro e w50 ⟨rfl, hb⟩; have n0_ := Aside0.mk (Kd.R_below (by (with_reducible repeat (first | apply Kd.R_alloc | apply Kd.R_drewN | apply Kd.R_drew)); exact HO_3.out) hb); have n1_ := Aside0.mk (Kd.R_below (by (with_reducible repeat (first | apply Kd.R_alloc | apply Kd.R_drewN | apply Kd.R_drew)); exact HO_5.out) hb); have n2_ := Aside0.mk (Kd.R_below (by (with_reducible repeat (first | apply Kd.R_alloc | apply Kd.R_drewN | apply Kd.R_drew)); exact HO_8.out) hb); have n3_ := Aside0.mk (Kd.C_below (by repeat (first | (with_reducible exact HR744.out) | (with_reducible refine Kd.C_alloc ?_ _) | (with_reducible refine Kd.C_drewN ?_ _) | (with_reducible refine Kd.C_drew ?_) | exact HR744.out)) hb); have n4_ := Aside0.mk (Kd.C_below (by repeat (first | (with_reducible exact HR751.out) | (with_reducible refine Kd.C_alloc ?_ _) | (with_reducible refine Kd.C_drewN ?_ _) | (with_reducible refine Kd.C_drew ?_) | exact HR751.out)) hb); have n5_ := Aside0.mk (below_step (by repeat (first | (with_reducible first | exact HB.out | apply below_alloc | apply pw_below_drewN | apply below_drew1) | exact HB.out)) hb); clear HO_3; clear HO_5; clear HO_8; clear HR744; clear HR751; clear HB; have HO_3 := n0_; have HO_5 := n1_; have HO_8 := n2_; have HR744 := n3_; have HR751 := n4_; have HB := n5_; clear n0_ n1_ n2_ n3_ n4_ n5_; (try clear hb); (try clear hb2); (try clear hk); (try clear hi)))
                         have n0_ := Aside0.mk (Kd.R_drew HO_3.out)
                         have n1_ := Aside0.mk (Kd.R_drew HO_5.out)
                         have n2_ := Aside0.mk (Kd.R_drew HO_8.out)
                         have n3_ := Aside0.mk (Kd.C_drew HR744.out)
                         have n4_ := Aside0.mk (Kd.C_drew HR751.out)
                         have n5_ := Aside0.mk (below_drew1 HB.out)
                         clear HO_3
                         clear HO_5
                         clear HO_8
                         clear HR744
                         clear HR751
                         clear HB
                         have HO_3 := n0_
                         have HO_5 := n1_
                         have HO_8 := n2_
                         have HR744 := n3_
                         have HR751 := n4_
                         have HB := n5_
                         clear n0_ n1_ n2_ n3_ n4_ n5_
                         refine start_ (n := 14) (S := fun w' => True) (ds := []) #[false, false, false, false, false, false, false, false, false, false, false, false, false, false] (by kernel_rfl) rfl rfl trivial (fun hHeld => ?_); refine with_tabW copselaw15_ConeCovers.tab27 copselaw15_ConeCovers.bits27 (fun HT_ HW_ => ?_)
                         generalize w50.drew = w51 at HO_3 HO_5 HO_8 HR744 HR751 HB hHeld ⊢
                         refine pure_ (i := 0) (N := some 85) (v := ?_) (a' := ?_) #[true, false, false, false, false, false, false, false, false, false, false, false, false, false] rfl rfl (any_of HT_.out (by kernel_rfl)) (fun _ _ _ h => h) (Or.inl ⟨by rfl, ?_⟩) ?_ ?_
                         rotate_left
                         ·intro w'
                          go_simp
                          with_reducible rfl
                         rotate_left
                         ·simp only [Act.put, List.setIfInBounds_toArray, List.set_cons_zero, List.set_cons_succ, i64_w, i32_w]
                          rfl
                         refine pure_ (i := 1) (N := some 86) (v := ?_) (a' := ?_) #[true, true, false, false, false, false, false, false, false, false, false, false, false, false] rfl rfl (any_of HT_.out (by kernel_rfl)) (fun _ _ _ h => h) (Or.inl ⟨by rfl, ?_⟩) ?_ ?_
                         rotate_left
                         ·intro w'
                          go_simp
                          with_reducible rfl
                         rotate_left
                         ·simp only [Act.put, List.setIfInBounds_toArray, List.set_cons_zero, List.set_cons_succ, i64_w, i32_w]
                          rfl
                         refine pure_ (i := 2) (N := some 87) (v := undef) (a' := ?_) #[true, true, true, false, false, false, false, false, false, false, false, false, false, false] rfl rfl (any_of HT_.out (by kernel_rfl)) (fun _ _ _ h => h) (Or.inr ⟨by rfl, rfl⟩) ?_ ?_
                         rotate_left
                         ·simp only [Act.put, List.setIfInBounds_toArray, List.set_cons_zero, List.set_cons_succ, i64_w, i32_w]
                          rfl
                         refine pure_ (i := 3) (N := some 88) (v := undef) (a' := ?_) #[true, true, true, true, false, false, false, false, false, false, false, false, false, false] rfl rfl (any_of HT_.out (by kernel_rfl)) (fun _ _ _ h => h) (Or.inr ⟨by rfl, rfl⟩) ?_ ?_
                         rotate_left
                         ·simp only [Act.put, List.setIfInBounds_toArray, List.set_cons_zero, List.set_cons_succ, i64_w, i32_w]
                          rfl
                         refine pure_ (i := 4) (N := some 89) (v := undef) (a' := ?_) #[true, true, true, true, true, false, false, false, false, false, false, false, false, false] rfl rfl (any_of HT_.out (by kernel_rfl)) (fun _ _ _ h => h) (Or.inr ⟨by rfl, rfl⟩) ?_ ?_
                         rotate_left
                         ·simp only [Act.put, List.setIfInBounds_toArray, List.set_cons_zero, List.set_cons_succ, i64_w, i32_w]
                          rfl
                         refine pure_ (i := 5) (N := some 90) (v := undef) (a' := ?_) #[true, true, true, true, true, true, false, false, false, false, false, false, false, false] rfl rfl (any_of HT_.out (by kernel_rfl)) (fun _ _ _ h => h) (Or.inr ⟨by rfl, rfl⟩) ?_ ?_
                         rotate_left
                         ·simp only [Act.put, List.setIfInBounds_toArray, List.set_cons_zero, List.set_cons_succ, i64_w, i32_w]
                          rfl
                         refine pure_ (i := 6) (N := some 91) (v := undef) (a' := ?_) #[true, true, true, true, true, true, true, false, false, false, false, false, false, false] rfl rfl (any_of HT_.out (by kernel_rfl)) (fun _ _ _ h => h) (Or.inr ⟨by rfl, rfl⟩) ?_ ?_
                         rotate_left
                         ·simp only [Act.put, List.setIfInBounds_toArray, List.set_cons_zero, List.set_cons_succ, i64_w, i32_w]
                          rfl
                         refine pure_ (i := 7) (N := some 92) (v := undef) (a' := ?_) #[true, true, true, true, true, true, true, true, false, false, false, false, false, false] rfl rfl (any_of HT_.out (by kernel_rfl)) (fun _ _ _ h => h) (Or.inr ⟨by rfl, rfl⟩) ?_ ?_
                         rotate_left
                         ·simp only [Act.put, List.setIfInBounds_toArray, List.set_cons_zero, List.set_cons_succ, i64_w, i32_w]
                          rfl
                         refine pure_ (i := 8) (N := some 93) (v := undef) (a' := ?_) #[true, true, true, true, true, true, true, true, true, false, false, false, false, false] rfl rfl (any_of HT_.out (by kernel_rfl)) (fun _ _ _ h => h) (Or.inr ⟨by rfl, rfl⟩) ?_ ?_
                         rotate_left
                         ·simp only [Act.put, List.setIfInBounds_toArray, List.set_cons_zero, List.set_cons_succ, i64_w, i32_w]
                          rfl
                         refine pure_ (i := 9) (N := some 94) (v := undef) (a' := ?_) #[true, true, true, true, true, true, true, true, true, true, false, false, false, false] rfl rfl (any_of HT_.out (by kernel_rfl)) (fun _ _ _ h => h) (Or.inr ⟨by rfl, rfl⟩) ?_ ?_
                         rotate_left
                         ·simp only [Act.put, List.setIfInBounds_toArray, List.set_cons_zero, List.set_cons_succ, i64_w, i32_w]
                          rfl
                         refine pure_ (i := 10) (N := some 95) (v := undef) (a' := ?_) #[true, true, true, true, true, true, true, true, true, true, true, false, false, false] rfl rfl (any_of HT_.out (by kernel_rfl)) (fun _ _ _ h => h) (Or.inr ⟨by rfl, rfl⟩) ?_ ?_
                         rotate_left
                         ·simp only [Act.put, List.setIfInBounds_toArray, List.set_cons_zero, List.set_cons_succ, i64_w, i32_w]
                          rfl
                         refine pure_ (i := 11) (N := some 96) (v := undef) (a' := ?_) #[true, true, true, true, true, true, true, true, true, true, true, true, false, false] rfl rfl (any_of HT_.out (by kernel_rfl)) (fun _ _ _ h => h) (Or.inr ⟨by rfl, rfl⟩) ?_ ?_
                         rotate_left
                         ·simp only [Act.put, List.setIfInBounds_toArray, List.set_cons_zero, List.set_cons_succ, i64_w, i32_w]
                          rfl
                         refine pure_ (i := 12) (N := some 97) (v := ?_) (a' := ?_) #[true, true, true, true, true, true, true, true, true, true, true, true, true, false] rfl rfl (any_of HT_.out (by kernel_rfl)) (fun _ _ _ h => h) (Or.inl ⟨by rfl, ?_⟩) ?_ ?_
                         rotate_left
                         ·intro w'
                          go_simp
                          with_reducible rfl
                         rotate_left
                         ·simp only [Act.put, List.setIfInBounds_toArray, List.set_cons_zero, List.set_cons_succ, i64_w, i32_w]
                          rfl
                         refine pure_ (i := 13) (N := some 10) (v := ?_) (a' := ?_) #[true, true, true, true, true, true, true, true, true, true, true, true, true, true] rfl rfl (any_of HT_.out (by kernel_rfl)) (fun _ _ _ h => h) (Or.inl ⟨by rfl, ?_⟩) ?_ ?_
                         rotate_left
                         ·intro w'
                          go_simp
                          with_reducible rfl
                         rotate_left
                         ·simp only [Act.put, List.setIfInBounds_toArray, List.set_cons_zero, List.set_cons_succ, i64_w, i32_w]
                          rfl
                         refine done_ (done_of HT_.out (by kernel_rfl)) ?_
                         try go_wp2
                         go_roundg k5
                         case measure => have := HK1.out; have := HJ10.out; have := HK3.out; have := HK4.out; have := HK5.out; omega
                         case rel => exact ⟨(t756), (true), (wrap64 (x11_5 + 1)), (by first | rfl | (simp; done) | (simp [*]; done)), (by first | rfl | (simp; done) | (simp [*]; done)), (by first | rfl | (simp; done) | (simp [*]; done)), H', ⟨by have := HK1.out; have := HJ10.out; have := HK3.out; have := HK4.out; have := HK5.out; omega⟩, ⟨by (with_reducible repeat (first | apply Kd.R_alloc | apply Kd.R_drewN | apply Kd.R_drew)); exact HO_3.out⟩, ⟨by (with_reducible repeat (first | apply Kd.R_alloc | apply Kd.R_drewN | apply Kd.R_drew)); exact HO_5.out⟩, ⟨by (with_reducible repeat (first | apply Kd.R_alloc | apply Kd.R_drewN | apply Kd.R_drew)); exact HO_8.out⟩, ⟨by repeat (first | (with_reducible exact HR744.out) | (with_reducible refine Kd.C_alloc ?_ _) | (with_reducible refine Kd.C_drewN ?_ _) | (with_reducible refine Kd.C_drew ?_) | exact HR744.out)⟩, ⟨by repeat (first | (with_reducible exact HR751.out) | (with_reducible refine Kd.C_alloc ?_ _) | (with_reducible refine Kd.C_drewN ?_ _) | (with_reducible refine Kd.C_drew ?_) | exact HR751.out)⟩, ⟨by repeat (first | (with_reducible first | exact HB.out | apply below_alloc | apply pw_below_drewN | apply below_drew1) | exact HB.out)⟩⟩
                        ·replace c48 := Bool.eq_false_iff.mpr c48
                         subst c48
                         have H1 : ((path_Dir.f k5 (rdOf ByteArray.empty x3_1 x11_5)).bind fun t758 => (if 0 ≤ x7_4 then (if x7_4 < (t733.length : Int) then (copselaw15_ConeCovers.l3 k5 x3_1 t733 x7_4 y752 t756 (t758.toList == (rdOf ByteArray.empty t733 x7_4).toList) (wrap64 (x11_5 + 1))) else (none)) else (none))) = some r := by rw [if_neg (show ¬ (false = true) by decide)] at H; exact H
                         clear H
                         have H := H1
                         clear H1
                         replace H := Option.bind_eq_some_iff.mp H
                         obtain ⟨t758, A520, H⟩ := H
                         replace H : (if 0 ≤ x7_4 then (if x7_4 < (t733.length : Int) then (copselaw15_ConeCovers.l3 k5 x3_1 t733 x7_4 y752 t756 (t758.toList == (rdOf ByteArray.empty t733 x7_4).toList) (wrap64 (x11_5 + 1))) else (none)) else (none)) = some r := H
                         have A52 := Aside0.mk A520
                         clear A520
                         by_cases c53 : 0 ≤ x7_4
                         ·rw [if_pos c53] at H
                          have c53b0 : decide (0 ≤ x7_4) = true := decide_eq_true c53
                          clear c53
                          by_cases c54 : x7_4 < (t733.length : Int)
                          ·rw [if_pos c54] at H
                           have c54b0 : decide (x7_4 < (t733.length : Int)) = true := decide_eq_true c54
                           clear c54
                           have H' := Aside0.mk H
                           clear H
                           have p755 : 0 ≤ (x11_5 : Int) := of_decide_eq_true (by first | (with_reducible assumption) | assumption)
                           have q755 : x11_5 < (x3_1.length : Int) := of_decide_eq_true (by first | (with_reducible assumption) | assumption)
                           obtain ⟨ad755, e755, hx755_0⟩ := Kd.at_string (Kd.R_reads' HO_3.out).2.2 x11_5 p755 q755
                           cases e755
                           replace p755 := eq_true p755
                           replace q755 := eq_true q755
                           obtain ⟨Ao55, co55, eo55⟩ := Kd.R_slice HO_8.out
                           subst eo55
                           try go_wp2_with (first | (go_at_call 34; (with_reducible refine (cone_Shows.calls k5 _ _ y752 (rdOf ByteArray.empty x3_1 x11_5) t756 _ ?side1 ?side2 A47.out).mono ?_); (case side1 => repeat (first | exact (Kd.R_reads' HO_8.out).2.2 | (with_reducible refine Kd.C_alloc ?_ _) | (with_reducible refine Kd.C_drewN ?_ _) | (with_reducible refine Kd.C_drew ?_))); (case side2 => exact (Kd.R_reads' HO_8.out).2.1); rintro e w56 ⟨rfl, hb⟩; have n0_ := Aside0.mk (Kd.R_below (by (with_reducible repeat (first | apply Kd.R_alloc | apply Kd.R_drewN | apply Kd.R_drew)); exact HO_3.out) hb); have n1_ := Aside0.mk (Kd.R_below (by (with_reducible repeat (first | apply Kd.R_alloc | apply Kd.R_drewN | apply Kd.R_drew)); exact HO_5.out) hb); have n2_ := Aside0.mk (Kd.R_below (by (with_reducible repeat (first | apply Kd.R_alloc | apply Kd.R_drewN | apply Kd.R_drew)); exact HO_8.out) hb); have n3_ := Aside0.mk (Kd.C_below (by repeat (first | (with_reducible exact HR744.out) | (with_reducible refine Kd.C_alloc ?_ _) | (with_reducible refine Kd.C_drewN ?_ _) | (with_reducible refine Kd.C_drew ?_) | exact HR744.out)) hb); have n4_ := Aside0.mk (Kd.C_below (by repeat (first | (with_reducible exact HR751.out) | (with_reducible refine Kd.C_alloc ?_ _) | (with_reducible refine Kd.C_drewN ?_ _) | (with_reducible refine Kd.C_drew ?_) | exact HR751.out)) hb); have n5_ := Aside0.mk (below_step (by repeat (first | (with_reducible first | exact HB.out | apply below_alloc | apply pw_below_drewN | apply below_drew1) | exact HB.out)) hb); clear HO_3; clear HO_5; clear HO_8; clear HR744; clear HR751; clear HB; have HO_3 := n0_; have HO_5 := n1_; have HO_8 := n2_; have HR744 := n3_; have HR751 := n4_; have HB := n5_; clear n0_ n1_ n2_ n3_ n4_ n5_; (try clear hb); (try clear hb2); (try clear hk); (try clear hi)))
                           have n0_ := Aside0.mk (Kd.R_drew HO_3.out)
                           have n1_ := Aside0.mk (Kd.R_drew HO_5.out)
                           have n2_ := Aside0.mk (Kd.R_drew HO_8.out)
                           have n3_ := Aside0.mk (Kd.C_drew HR744.out)
                           have n4_ := Aside0.mk (Kd.C_drew HR751.out)
                           have n5_ := Aside0.mk (below_drew1 HB.out)
                           clear HO_3
                           clear HO_5
                           clear HO_8
                           clear HR744
                           clear HR751
                           clear HB
                           have HO_3 := n0_
                           have HO_5 := n1_
                           have HO_8 := n2_
                           have HR744 := n3_
                           have HR751 := n4_
                           have HB := n5_
                           clear n0_ n1_ n2_ n3_ n4_ n5_
                           have p757 : 0 ≤ (x11_5 : Int) := of_decide_eq_true (by first | (with_reducible assumption) | assumption)
                           have q757 : x11_5 < (x3_1.length : Int) := of_decide_eq_true (by first | (with_reducible assumption) | assumption)
                           obtain ⟨ad757, e757, hx757_0⟩ := Kd.at_string (Kd.R_reads' HO_3.out).2.2 x11_5 p757 q757
                           obtain rfl : ad755 = ad757 := (by injection e757)
                           replace p757 := eq_true p757
                           replace q757 := eq_true q757
                           have p759 : 0 ≤ (x7_4 : Int) := of_decide_eq_true (by first | (with_reducible assumption) | assumption)
                           have q759 : x7_4 < (t733.length : Int) := of_decide_eq_true (by first | (with_reducible assumption) | assumption)
                           obtain ⟨ad759, e759, hx759_0⟩ := Kd.at_string (Kd.R_reads' HO_5.out).2.2 x7_4 p759 q759
                           cases e759
                           replace p759 := eq_true p759
                           replace q759 := eq_true q759
                           refine start_ (n := 14) (S := fun w' => w'.cell? (ad755.add (x11_5).toNat) = some (.string (rdOf ByteArray.empty x3_1 x11_5)) ∧ w'.cell? (ad759.add (x7_4).toNat) = some (.string (rdOf ByteArray.empty t733 x7_4))) (ds := []) #[false, false, false, false, false, false, false, false, false, false, false, false, false, false] (by kernel_rfl) rfl rfl ⟨hx757_0, hx759_0⟩ (fun hHeld => ?_); refine with_tabW copselaw15_ConeCovers.tab27 copselaw15_ConeCovers.bits27 (fun HT_ HW_ => ?_)
                           generalize w56.drew = w57 at HO_3 HO_5 HO_8 HR744 HR751 HB hx757_0 hx759_0 hHeld ⊢
                           refine pure_ (i := 0) (N := some 85) (v := ?_) (a' := ?_) #[true, false, false, false, false, false, false, false, false, false, false, false, false, false] rfl rfl (any_of HT_.out (by kernel_rfl)) (fun _ _ _ h => h) (Or.inl ⟨by rfl, ?_⟩) ?_ ?_
                           rotate_left
                           ·intro w'
                            go_simp
                            with_reducible rfl
                           rotate_left
                           ·simp only [Act.put, List.setIfInBounds_toArray, List.set_cons_zero, List.set_cons_succ, i64_w, i32_w]
                            rfl
                           refine pure_ (i := 1) (N := some 86) (v := ?_) (a' := ?_) #[true, true, false, false, false, false, false, false, false, false, false, false, false, false] rfl rfl (any_of HT_.out (by kernel_rfl)) (fun _ _ _ h => h) (Or.inl ⟨by rfl, ?_⟩) ?_ ?_
                           rotate_left
                           ·intro w'
                            go_simp
                            with_reducible rfl
                           rotate_left
                           ·simp only [Act.put, List.setIfInBounds_toArray, List.set_cons_zero, List.set_cons_succ, i64_w, i32_w]
                            rfl
                           refine pure_ (i := 2) (N := some 87) (v := ?_) (a' := ?_) #[true, true, true, false, false, false, false, false, false, false, false, false, false, false] rfl rfl (any_of HT_.out (by kernel_rfl)) (fun _ _ _ h => h) (Or.inl ⟨by rfl, ?_⟩) ?_ ?_
                           rotate_left
                           ·intro w'
                            go_simp
                            with_reducible rfl
                           rotate_left
                           ·simp only [Act.put, List.setIfInBounds_toArray, List.set_cons_zero, List.set_cons_succ, i64_w, i32_w]
                            rfl
                           refine pure_ (i := 3) (N := some 88) (v := ?_) (a' := ?_) #[true, true, true, true, false, false, false, false, false, false, false, false, false, false] rfl rfl (any_of HT_.out (by kernel_rfl)) (fun _ _ _ h => h) (Or.inl ⟨by rfl, ?_⟩) ?_ ?_
                           rotate_left
                           ·intro w'
                            go_simp
                            with_reducible rfl
                           rotate_left
                           ·simp only [Act.put, List.setIfInBounds_toArray, List.set_cons_zero, List.set_cons_succ, i64_w, i32_w]
                            rfl
                           refine pure_ (i := 4) (N := some 89) (v := ?_) (a' := ?_) #[true, true, true, true, true, false, false, false, false, false, false, false, false, false] rfl rfl (any_of HT_.out (by kernel_rfl)) (fun _ _ _ h => h) (Or.inl ⟨by rfl, ?_⟩) ?_ ?_
                           rotate_left
                           ·intro w'
                            go_simp
                            with_reducible rfl
                           rotate_left
                           ·simp only [Act.put, List.setIfInBounds_toArray, List.set_cons_zero, List.set_cons_succ, i64_w, i32_w]
                            rfl
                           refine pure_ (i := 7) (N := some 92) (v := ?_) (a' := ?_) #[true, true, true, true, true, false, false, true, false, false, false, false, false, false] rfl rfl (any_of HT_.out (by kernel_rfl)) (fun _ _ _ h => h) (Or.inl ⟨by rfl, ?_⟩) ?_ ?_
                           rotate_left
                           ·intro w'
                            go_simp
                            with_reducible rfl
                           rotate_left
                           ·simp only [Act.put, List.setIfInBounds_toArray, List.set_cons_zero, List.set_cons_succ, i64_w, i32_w]
                            rfl
                           refine pure_ (i := 8) (N := some 93) (v := ?_) (a' := ?_) #[true, true, true, true, true, false, false, true, true, false, false, false, false, false] rfl rfl (any_of HT_.out (by kernel_rfl)) (fun _ _ _ h => h) (Or.inl ⟨by rfl, ?_⟩) ?_ ?_
                           rotate_left
                           ·intro w'
                            go_simp
                            with_reducible rfl
                           rotate_left
                           ·simp only [Act.put, List.setIfInBounds_toArray, List.set_cons_zero, List.set_cons_succ, i64_w, i32_w]
                            rfl
                           refine pure_ (i := 9) (N := some 94) (v := ?_) (a' := ?_) #[true, true, true, true, true, false, false, true, true, true, false, false, false, false] rfl rfl (any_of HT_.out (by kernel_rfl)) (fun _ _ _ h => h) (Or.inl ⟨by rfl, ?_⟩) ?_ ?_
                           rotate_left
                           ·intro w'
                            go_simp
                            with_reducible rfl
                           rotate_left
                           ·simp only [Act.put, List.setIfInBounds_toArray, List.set_cons_zero, List.set_cons_succ, i64_w, i32_w]
                            rfl
                           refine take_ (i := 5) (N := some 90) (v := ?_) (a' := ?_) #[true, true, true, true, true, true, false, true, true, true, false, false, false, false] rfl rfl (take_ofW HT_.out HW_.out (by kernel_rfl)) (fun _ _ _ h => h) (Or.inl ⟨by rfl, ?_⟩) hHeld ?_ ?_
                           rotate_left
                           ·rintro w' ⟨s0, s1⟩
                            go_simp
                            with_reducible rfl
                           rotate_left
                           ·simp only [Act.put, List.setIfInBounds_toArray, List.set_cons_zero, List.set_cons_succ, i64_w, i32_w]
                            rfl
                           refine take_ (i := 10) (N := some 95) (v := ?_) (a' := ?_) #[true, true, true, true, true, true, false, true, true, true, true, false, false, false] rfl rfl (take_ofW HT_.out HW_.out (by kernel_rfl)) (fun _ _ _ h => h) (Or.inl ⟨by rfl, ?_⟩) hHeld ?_ ?_
                           rotate_left
                           ·rintro w' ⟨s0, s1⟩
                            go_simp
                            with_reducible rfl
                           rotate_left
                           ·simp only [Act.put, List.setIfInBounds_toArray, List.set_cons_zero, List.set_cons_succ, i64_w, i32_w]
                            rfl
                           refine one_ (i := 6) (N := some 91) #[true, true, true, true, true, true, true, true, true, true, true, false, false, false] rfl rfl (one_of HT_.out (by kernel_rfl)) (by decide) (fun K hK => ?_)
                           refine goes_ Tryd.func23 (by kernel_rfl) rfl #[.string (rdOf ByteArray.empty x3_1 x11_5)] (by rfl) rfl rfl (by (try simp only [List.map_toArray, List.map_cons, List.map_nil]); first | done | rfl | (simp only [List.length_drop, List.length_take]; rfl)) ?_
                           with_reducible refine (path_Dir.calls k5 (rdOf ByteArray.empty x3_1 x11_5) t758 _ A52.out).mono ?_
                           rintro e w58 ⟨rfl, hb⟩
                           have HS0_ := (hb.cell (World.block_lt_of_cell? _ _ (hHeld.1))).trans (hHeld.1)
                           have HS1_ := (hb.cell (World.block_lt_of_cell? _ _ (hHeld.2))).trans (hHeld.2)
                           refine ⟨_, rfl, ?_⟩
                           have n0_ := Aside0.mk (Kd.R_below (by (with_reducible repeat (first | apply Kd.R_alloc | apply Kd.R_drewN | apply Kd.R_drew)); exact HO_3.out) hb)
                           have n1_ := Aside0.mk (Kd.R_below (by (with_reducible repeat (first | apply Kd.R_alloc | apply Kd.R_drewN | apply Kd.R_drew)); exact HO_5.out) hb)
                           have n2_ := Aside0.mk (Kd.R_below (by (with_reducible repeat (first | apply Kd.R_alloc | apply Kd.R_drewN | apply Kd.R_drew)); exact HO_8.out) hb)
                           have n3_ := Aside0.mk (Kd.C_below (by repeat (first | (with_reducible exact HR744.out) | (with_reducible refine Kd.C_alloc ?_ _) | (with_reducible refine Kd.C_drewN ?_ _) | (with_reducible refine Kd.C_drew ?_) | exact HR744.out)) hb)
                           have n4_ := Aside0.mk (Kd.C_below (by repeat (first | (with_reducible exact HR751.out) | (with_reducible refine Kd.C_alloc ?_ _) | (with_reducible refine Kd.C_drewN ?_ _) | (with_reducible refine Kd.C_drew ?_) | exact HR751.out)) hb)
                           have n5_ := Aside0.mk (below_step (by repeat (first | (with_reducible first | exact HB.out | apply below_alloc | apply pw_below_drewN | apply below_drew1) | exact HB.out)) hb)
                           clear HO_3
                           clear HO_5
                           clear HO_8
                           clear HR744
                           clear HR751
                           clear HB
                           have HO_3 := n0_
                           have HO_5 := n1_
                           have HO_8 := n2_
                           have HR744 := n3_
                           have HR751 := n4_
                           have HB := n5_
                           clear n0_ n1_ n2_ n3_ n4_ n5_
                           (try clear hb)
                           (try clear hb2)
                           (try clear hk)
                           (try clear hi)
                           refine hK.out _ _ ⟨HS0_, HS1_⟩ (fun hHeld => ?_)
                           clear hK K
                           refine norm_ (a' := ?_) ?_ ?_
                           rotate_left
                           ·show Act.put _ (some 91) _ = _
                            simp only [Act.put, List.setIfInBounds_toArray, List.set_cons_zero, List.set_cons_succ, i64_w, i32_w]
                            rfl
                           refine pure_ (i := 11) (N := some 96) (v := ?_) (a' := ?_) #[true, true, true, true, true, true, true, true, true, true, true, true, false, false] rfl rfl (any_of HT_.out (by kernel_rfl)) (fun _ _ _ h => h) (Or.inl ⟨by rfl, ?_⟩) ?_ ?_
                           rotate_left
                           ·intro w'
                            go_simp
                            with_reducible rfl
                           rotate_left
                           ·simp only [Act.put, List.setIfInBounds_toArray, List.set_cons_zero, List.set_cons_succ, i64_w, i32_w]
                            rfl
                           refine pure_ (i := 12) (N := some 97) (v := ?_) (a' := ?_) #[true, true, true, true, true, true, true, true, true, true, true, true, true, false] rfl rfl (any_of HT_.out (by kernel_rfl)) (fun _ _ _ h => h) (Or.inl ⟨by rfl, ?_⟩) ?_ ?_
                           rotate_left
                           ·intro w'
                            go_simp
                            with_reducible rfl
                           rotate_left
                           ·simp only [Act.put, List.setIfInBounds_toArray, List.set_cons_zero, List.set_cons_succ, i64_w, i32_w]
                            rfl
                           refine pure_ (i := 13) (N := some 10) (v := ?_) (a' := ?_) #[true, true, true, true, true, true, true, true, true, true, true, true, true, true] rfl rfl (any_of HT_.out (by kernel_rfl)) (fun _ _ _ h => h) (Or.inl ⟨by rfl, ?_⟩) ?_ ?_
                           rotate_left
                           ·intro w'
                            go_simp
                            with_reducible rfl
                           rotate_left
                           ·simp only [Act.put, List.setIfInBounds_toArray, List.set_cons_zero, List.set_cons_succ, i64_w, i32_w]
                            rfl
                           refine done_ (done_of HT_.out (by kernel_rfl)) ?_
                           try go_wp2
                           go_roundg k5
                           case measure => have := HK1.out; have := HJ10.out; have := HK3.out; have := HK4.out; have := HK5.out; omega
                           case rel => exact ⟨(t756), ((t758.toList == (rdOf ByteArray.empty t733 x7_4).toList)), (wrap64 (x11_5 + 1)), (by first | rfl | (simp; done) | (simp [*]; done)), (by first | rfl | (simp; done) | (simp [*]; done)), (by first | rfl | (simp; done) | (simp [*]; done)), H', ⟨by have := HK1.out; have := HJ10.out; have := HK3.out; have := HK4.out; have := HK5.out; omega⟩, ⟨by (with_reducible repeat (first | apply Kd.R_alloc | apply Kd.R_drewN | apply Kd.R_drew)); exact HO_3.out⟩, ⟨by (with_reducible repeat (first | apply Kd.R_alloc | apply Kd.R_drewN | apply Kd.R_drew)); exact HO_5.out⟩, ⟨by (with_reducible repeat (first | apply Kd.R_alloc | apply Kd.R_drewN | apply Kd.R_drew)); exact HO_8.out⟩, ⟨by repeat (first | (with_reducible exact HR744.out) | (with_reducible refine Kd.C_alloc ?_ _) | (with_reducible refine Kd.C_drewN ?_ _) | (with_reducible refine Kd.C_drew ?_) | exact HR744.out)⟩, ⟨by repeat (first | (with_reducible exact HR751.out) | (with_reducible refine Kd.C_alloc ?_ _) | (with_reducible refine Kd.C_drewN ?_ _) | (with_reducible refine Kd.C_drew ?_) | exact HR751.out)⟩, ⟨by repeat (first | (with_reducible first | exact HB.out | apply below_alloc | apply pw_below_drewN | apply below_drew1) | exact HB.out)⟩⟩
                          ·rw [if_neg c54] at H
                           exact absurd H (by simp)
                         ·rw [if_neg c53] at H
                          exact absurd H (by simp)
                       ·rw [if_neg c46] at H
                        exact absurd H (by simp)
                      ·replace c45 := Bool.eq_false_iff.mpr c45
                       subst c45
                       have H1 : (if x10_5 = true then (copselaw15_ConeCovers.l3 k5 x3_1 t733 x7_4 y752 false true (wrap64 (x11_5 + 1))) else (if 0 ≤ x11_5 then ((path_Dir.f k5 (rdOf ByteArray.empty x3_1 x11_5)).bind fun t761 => (if 0 ≤ x7_4 then (if x7_4 < (t733.length : Int) then (copselaw15_ConeCovers.l3 k5 x3_1 t733 x7_4 y752 false (t761.toList == (rdOf ByteArray.empty t733 x7_4).toList) (wrap64 (x11_5 + 1))) else (none)) else (none))) else (none))) = some r := by rw [if_neg (show ¬ (false = true) by decide)] at H; exact H
                       clear H
                       have H := H1
                       clear H1
                       by_cases c59 : x10_5 = true
                       ·subst c59
                        have H1 : (copselaw15_ConeCovers.l3 k5 x3_1 t733 x7_4 y752 false true (wrap64 (x11_5 + 1))) = some r := by rw [if_pos rfl] at H; exact H
                        clear H
                        have H := H1
                        clear H1
                        have H' := Aside0.mk H
                        clear H
                        try go_wp2
                        have n0_ := Aside0.mk (Kd.R_drew HO_3.out)
                        have n1_ := Aside0.mk (Kd.R_drew HO_5.out)
                        have n2_ := Aside0.mk (Kd.R_drew HO_8.out)
                        have n3_ := Aside0.mk (Kd.C_drew HR744.out)
                        have n4_ := Aside0.mk (Kd.C_drew HR751.out)
                        have n5_ := Aside0.mk (below_drew1 HB.out)
                        clear HO_3
                        clear HO_5
                        clear HO_8
                        clear HR744
                        clear HR751
                        clear HB
                        have HO_3 := n0_
                        have HO_5 := n1_
                        have HO_8 := n2_
                        have HR744 := n3_
                        have HR751 := n4_
                        have HB := n5_
                        clear n0_ n1_ n2_ n3_ n4_ n5_
                        refine start_ (n := 14) (S := fun w' => True) (ds := []) #[false, false, false, false, false, false, false, false, false, false, false, false, false, false] (by kernel_rfl) rfl rfl trivial (fun hHeld => ?_); refine with_tabW copselaw15_ConeCovers.tab27 copselaw15_ConeCovers.bits27 (fun HT_ HW_ => ?_)
                        generalize wr.drew = w60 at HO_3 HO_5 HO_8 HR744 HR751 HB hHeld ⊢
                        refine pure_ (i := 0) (N := some 85) (v := ?_) (a' := ?_) #[true, false, false, false, false, false, false, false, false, false, false, false, false, false] rfl rfl (any_of HT_.out (by kernel_rfl)) (fun _ _ _ h => h) (Or.inl ⟨by rfl, ?_⟩) ?_ ?_
                        rotate_left
                        ·intro w'
                         go_simp
                         with_reducible rfl
                        rotate_left
                        ·simp only [Act.put, List.setIfInBounds_toArray, List.set_cons_zero, List.set_cons_succ, i64_w, i32_w]
                         rfl
                        refine pure_ (i := 1) (N := some 86) (v := ?_) (a' := ?_) #[true, true, false, false, false, false, false, false, false, false, false, false, false, false] rfl rfl (any_of HT_.out (by kernel_rfl)) (fun _ _ _ h => h) (Or.inl ⟨by rfl, ?_⟩) ?_ ?_
                        rotate_left
                        ·intro w'
                         go_simp
                         with_reducible rfl
                        rotate_left
                        ·simp only [Act.put, List.setIfInBounds_toArray, List.set_cons_zero, List.set_cons_succ, i64_w, i32_w]
                         rfl
                        refine pure_ (i := 2) (N := some 87) (v := undef) (a' := ?_) #[true, true, true, false, false, false, false, false, false, false, false, false, false, false] rfl rfl (any_of HT_.out (by kernel_rfl)) (fun _ _ _ h => h) (Or.inr ⟨by rfl, rfl⟩) ?_ ?_
                        rotate_left
                        ·simp only [Act.put, List.setIfInBounds_toArray, List.set_cons_zero, List.set_cons_succ, i64_w, i32_w]
                         rfl
                        refine pure_ (i := 3) (N := some 88) (v := undef) (a' := ?_) #[true, true, true, true, false, false, false, false, false, false, false, false, false, false] rfl rfl (any_of HT_.out (by kernel_rfl)) (fun _ _ _ h => h) (Or.inr ⟨by rfl, rfl⟩) ?_ ?_
                        rotate_left
                        ·simp only [Act.put, List.setIfInBounds_toArray, List.set_cons_zero, List.set_cons_succ, i64_w, i32_w]
                         rfl
                        refine pure_ (i := 4) (N := some 89) (v := undef) (a' := ?_) #[true, true, true, true, true, false, false, false, false, false, false, false, false, false] rfl rfl (any_of HT_.out (by kernel_rfl)) (fun _ _ _ h => h) (Or.inr ⟨by rfl, rfl⟩) ?_ ?_
                        rotate_left
                        ·simp only [Act.put, List.setIfInBounds_toArray, List.set_cons_zero, List.set_cons_succ, i64_w, i32_w]
                         rfl
                        refine pure_ (i := 5) (N := some 90) (v := undef) (a' := ?_) #[true, true, true, true, true, true, false, false, false, false, false, false, false, false] rfl rfl (any_of HT_.out (by kernel_rfl)) (fun _ _ _ h => h) (Or.inr ⟨by rfl, rfl⟩) ?_ ?_
                        rotate_left
                        ·simp only [Act.put, List.setIfInBounds_toArray, List.set_cons_zero, List.set_cons_succ, i64_w, i32_w]
                         rfl
                        refine pure_ (i := 6) (N := some 91) (v := undef) (a' := ?_) #[true, true, true, true, true, true, true, false, false, false, false, false, false, false] rfl rfl (any_of HT_.out (by kernel_rfl)) (fun _ _ _ h => h) (Or.inr ⟨by rfl, rfl⟩) ?_ ?_
                        rotate_left
                        ·simp only [Act.put, List.setIfInBounds_toArray, List.set_cons_zero, List.set_cons_succ, i64_w, i32_w]
                         rfl
                        refine pure_ (i := 7) (N := some 92) (v := undef) (a' := ?_) #[true, true, true, true, true, true, true, true, false, false, false, false, false, false] rfl rfl (any_of HT_.out (by kernel_rfl)) (fun _ _ _ h => h) (Or.inr ⟨by rfl, rfl⟩) ?_ ?_
                        rotate_left
                        ·simp only [Act.put, List.setIfInBounds_toArray, List.set_cons_zero, List.set_cons_succ, i64_w, i32_w]
                         rfl
                        refine pure_ (i := 8) (N := some 93) (v := undef) (a' := ?_) #[true, true, true, true, true, true, true, true, true, false, false, false, false, false] rfl rfl (any_of HT_.out (by kernel_rfl)) (fun _ _ _ h => h) (Or.inr ⟨by rfl, rfl⟩) ?_ ?_
                        rotate_left
                        ·simp only [Act.put, List.setIfInBounds_toArray, List.set_cons_zero, List.set_cons_succ, i64_w, i32_w]
                         rfl
                        refine pure_ (i := 9) (N := some 94) (v := undef) (a' := ?_) #[true, true, true, true, true, true, true, true, true, true, false, false, false, false] rfl rfl (any_of HT_.out (by kernel_rfl)) (fun _ _ _ h => h) (Or.inr ⟨by rfl, rfl⟩) ?_ ?_
                        rotate_left
                        ·simp only [Act.put, List.setIfInBounds_toArray, List.set_cons_zero, List.set_cons_succ, i64_w, i32_w]
                         rfl
                        refine pure_ (i := 10) (N := some 95) (v := undef) (a' := ?_) #[true, true, true, true, true, true, true, true, true, true, true, false, false, false] rfl rfl (any_of HT_.out (by kernel_rfl)) (fun _ _ _ h => h) (Or.inr ⟨by rfl, rfl⟩) ?_ ?_
                        rotate_left
                        ·simp only [Act.put, List.setIfInBounds_toArray, List.set_cons_zero, List.set_cons_succ, i64_w, i32_w]
                         rfl
                        refine pure_ (i := 11) (N := some 96) (v := undef) (a' := ?_) #[true, true, true, true, true, true, true, true, true, true, true, true, false, false] rfl rfl (any_of HT_.out (by kernel_rfl)) (fun _ _ _ h => h) (Or.inr ⟨by rfl, rfl⟩) ?_ ?_
                        rotate_left
                        ·simp only [Act.put, List.setIfInBounds_toArray, List.set_cons_zero, List.set_cons_succ, i64_w, i32_w]
                         rfl
                        refine pure_ (i := 12) (N := some 97) (v := ?_) (a' := ?_) #[true, true, true, true, true, true, true, true, true, true, true, true, true, false] rfl rfl (any_of HT_.out (by kernel_rfl)) (fun _ _ _ h => h) (Or.inl ⟨by rfl, ?_⟩) ?_ ?_
                        rotate_left
                        ·intro w'
                         go_simp
                         with_reducible rfl
                        rotate_left
                        ·simp only [Act.put, List.setIfInBounds_toArray, List.set_cons_zero, List.set_cons_succ, i64_w, i32_w]
                         rfl
                        refine pure_ (i := 13) (N := some 10) (v := ?_) (a' := ?_) #[true, true, true, true, true, true, true, true, true, true, true, true, true, true] rfl rfl (any_of HT_.out (by kernel_rfl)) (fun _ _ _ h => h) (Or.inl ⟨by rfl, ?_⟩) ?_ ?_
                        rotate_left
                        ·intro w'
                         go_simp
                         with_reducible rfl
                        rotate_left
                        ·simp only [Act.put, List.setIfInBounds_toArray, List.set_cons_zero, List.set_cons_succ, i64_w, i32_w]
                         rfl
                        refine done_ (done_of HT_.out (by kernel_rfl)) ?_
                        try go_wp2
                        go_roundg k5
                        case measure => have := HK1.out; have := HJ10.out; have := HK3.out; have := HK4.out; have := HK5.out; omega
                        case rel => exact ⟨(false), (true), (wrap64 (x11_5 + 1)), (by first | rfl | (simp; done) | (simp [*]; done)), (by first | rfl | (simp; done) | (simp [*]; done)), (by first | rfl | (simp; done) | (simp [*]; done)), H', ⟨by have := HK1.out; have := HJ10.out; have := HK3.out; have := HK4.out; have := HK5.out; omega⟩, ⟨by (with_reducible repeat (first | apply Kd.R_alloc | apply Kd.R_drewN | apply Kd.R_drew)); exact HO_3.out⟩, ⟨by (with_reducible repeat (first | apply Kd.R_alloc | apply Kd.R_drewN | apply Kd.R_drew)); exact HO_5.out⟩, ⟨by (with_reducible repeat (first | apply Kd.R_alloc | apply Kd.R_drewN | apply Kd.R_drew)); exact HO_8.out⟩, ⟨by repeat (first | (with_reducible exact HR744.out) | (with_reducible refine Kd.C_alloc ?_ _) | (with_reducible refine Kd.C_drewN ?_ _) | (with_reducible refine Kd.C_drew ?_) | exact HR744.out)⟩, ⟨by repeat (first | (with_reducible exact HR751.out) | (with_reducible refine Kd.C_alloc ?_ _) | (with_reducible refine Kd.C_drewN ?_ _) | (with_reducible refine Kd.C_drew ?_) | exact HR751.out)⟩, ⟨by repeat (first | (with_reducible first | exact HB.out | apply below_alloc | apply pw_below_drewN | apply below_drew1) | exact HB.out)⟩⟩
                       ·replace c59 := Bool.eq_false_iff.mpr c59
                        subst c59
                        have H1 : (if 0 ≤ x11_5 then ((path_Dir.f k5 (rdOf ByteArray.empty x3_1 x11_5)).bind fun t761 => (if 0 ≤ x7_4 then (if x7_4 < (t733.length : Int) then (copselaw15_ConeCovers.l3 k5 x3_1 t733 x7_4 y752 false (t761.toList == (rdOf ByteArray.empty t733 x7_4).toList) (wrap64 (x11_5 + 1))) else (none)) else (none))) else (none)) = some r := by rw [if_neg (show ¬ (false = true) by decide)] at H; exact H
                        clear H
                        have H := H1
                        clear H1
                        by_cases c61 : 0 ≤ x11_5
                        ·rw [if_pos c61] at H
                         have c61b0 : decide (0 ≤ x11_5) = true := decide_eq_true c61
                         clear c61
                         replace H := Option.bind_eq_some_iff.mp H
                         obtain ⟨t761, A620, H⟩ := H
                         replace H : (if 0 ≤ x7_4 then (if x7_4 < (t733.length : Int) then (copselaw15_ConeCovers.l3 k5 x3_1 t733 x7_4 y752 false (t761.toList == (rdOf ByteArray.empty t733 x7_4).toList) (wrap64 (x11_5 + 1))) else (none)) else (none)) = some r := H
                         have A62 := Aside0.mk A620
                         clear A620
                         by_cases c63 : 0 ≤ x7_4
                         ·rw [if_pos c63] at H
                          have c63b0 : decide (0 ≤ x7_4) = true := decide_eq_true c63
                          clear c63
                          by_cases c64 : x7_4 < (t733.length : Int)
                          ·rw [if_pos c64] at H
                           have c64b0 : decide (x7_4 < (t733.length : Int)) = true := decide_eq_true c64
                           clear c64
                           have H' := Aside0.mk H
                           clear H
                           try go_wp2
                           have n0_ := Aside0.mk (Kd.R_drew HO_3.out)
                           have n1_ := Aside0.mk (Kd.R_drew HO_5.out)
                           have n2_ := Aside0.mk (Kd.R_drew HO_8.out)
                           have n3_ := Aside0.mk (Kd.C_drew HR744.out)
                           have n4_ := Aside0.mk (Kd.C_drew HR751.out)
                           have n5_ := Aside0.mk (below_drew1 HB.out)
                           clear HO_3
                           clear HO_5
                           clear HO_8
                           clear HR744
                           clear HR751
                           clear HB
                           have HO_3 := n0_
                           have HO_5 := n1_
                           have HO_8 := n2_
                           have HR744 := n3_
                           have HR751 := n4_
                           have HB := n5_
                           clear n0_ n1_ n2_ n3_ n4_ n5_
                           have p760 : 0 ≤ (x11_5 : Int) := of_decide_eq_true (by first | (with_reducible assumption) | assumption)
                           have q760 : x11_5 < (x3_1.length : Int) := of_decide_eq_true (by first | (with_reducible assumption) | assumption)
                           obtain ⟨ad760, e760, hx760_0⟩ := Kd.at_string (Kd.R_reads' HO_3.out).2.2 x11_5 p760 q760
                           cases e760
                           replace p760 := eq_true p760
                           replace q760 := eq_true q760
                           have p762 : 0 ≤ (x7_4 : Int) := of_decide_eq_true (by first | (with_reducible assumption) | assumption)
                           have q762 : x7_4 < (t733.length : Int) := of_decide_eq_true (by first | (with_reducible assumption) | assumption)
                           obtain ⟨ad762, e762, hx762_0⟩ := Kd.at_string (Kd.R_reads' HO_5.out).2.2 x7_4 p762 q762
                           cases e762
                           replace p762 := eq_true p762
                           replace q762 := eq_true q762
                           refine start_ (n := 14) (S := fun w' => w'.cell? (ad760.add (x11_5).toNat) = some (.string (rdOf ByteArray.empty x3_1 x11_5)) ∧ w'.cell? (ad762.add (x7_4).toNat) = some (.string (rdOf ByteArray.empty t733 x7_4))) (ds := []) #[false, false, false, false, false, false, false, false, false, false, false, false, false, false] (by kernel_rfl) rfl rfl ⟨hx760_0, hx762_0⟩ (fun hHeld => ?_); refine with_tabW copselaw15_ConeCovers.tab27 copselaw15_ConeCovers.bits27 (fun HT_ HW_ => ?_)
                           generalize wr.drew = w65 at HO_3 HO_5 HO_8 HR744 HR751 HB hx760_0 hx762_0 hHeld ⊢
                           refine pure_ (i := 0) (N := some 85) (v := ?_) (a' := ?_) #[true, false, false, false, false, false, false, false, false, false, false, false, false, false] rfl rfl (any_of HT_.out (by kernel_rfl)) (fun _ _ _ h => h) (Or.inl ⟨by rfl, ?_⟩) ?_ ?_
                           rotate_left
                           ·intro w'
                            go_simp
                            with_reducible rfl
                           rotate_left
                           ·simp only [Act.put, List.setIfInBounds_toArray, List.set_cons_zero, List.set_cons_succ, i64_w, i32_w]
                            rfl
                           refine pure_ (i := 1) (N := some 86) (v := ?_) (a' := ?_) #[true, true, false, false, false, false, false, false, false, false, false, false, false, false] rfl rfl (any_of HT_.out (by kernel_rfl)) (fun _ _ _ h => h) (Or.inl ⟨by rfl, ?_⟩) ?_ ?_
                           rotate_left
                           ·intro w'
                            go_simp
                            with_reducible rfl
                           rotate_left
                           ·simp only [Act.put, List.setIfInBounds_toArray, List.set_cons_zero, List.set_cons_succ, i64_w, i32_w]
                            rfl
                           refine pure_ (i := 2) (N := some 87) (v := ?_) (a' := ?_) #[true, true, true, false, false, false, false, false, false, false, false, false, false, false] rfl rfl (any_of HT_.out (by kernel_rfl)) (fun _ _ _ h => h) (Or.inl ⟨by rfl, ?_⟩) ?_ ?_
                           rotate_left
                           ·intro w'
                            go_simp
                            with_reducible rfl
                           rotate_left
                           ·simp only [Act.put, List.setIfInBounds_toArray, List.set_cons_zero, List.set_cons_succ, i64_w, i32_w]
                            rfl
                           refine pure_ (i := 3) (N := some 88) (v := ?_) (a' := ?_) #[true, true, true, true, false, false, false, false, false, false, false, false, false, false] rfl rfl (any_of HT_.out (by kernel_rfl)) (fun _ _ _ h => h) (Or.inl ⟨by rfl, ?_⟩) ?_ ?_
                           rotate_left
                           ·intro w'
                            go_simp
                            with_reducible rfl
                           rotate_left
                           ·simp only [Act.put, List.setIfInBounds_toArray, List.set_cons_zero, List.set_cons_succ, i64_w, i32_w]
                            rfl
                           refine pure_ (i := 4) (N := some 89) (v := ?_) (a' := ?_) #[true, true, true, true, true, false, false, false, false, false, false, false, false, false] rfl rfl (any_of HT_.out (by kernel_rfl)) (fun _ _ _ h => h) (Or.inl ⟨by rfl, ?_⟩) ?_ ?_
                           rotate_left
                           ·intro w'
                            go_simp
                            with_reducible rfl
                           rotate_left
                           ·simp only [Act.put, List.setIfInBounds_toArray, List.set_cons_zero, List.set_cons_succ, i64_w, i32_w]
                            rfl
                           refine pure_ (i := 7) (N := some 92) (v := ?_) (a' := ?_) #[true, true, true, true, true, false, false, true, false, false, false, false, false, false] rfl rfl (any_of HT_.out (by kernel_rfl)) (fun _ _ _ h => h) (Or.inl ⟨by rfl, ?_⟩) ?_ ?_
                           rotate_left
                           ·intro w'
                            go_simp
                            with_reducible rfl
                           rotate_left
                           ·simp only [Act.put, List.setIfInBounds_toArray, List.set_cons_zero, List.set_cons_succ, i64_w, i32_w]
                            rfl
                           refine pure_ (i := 8) (N := some 93) (v := ?_) (a' := ?_) #[true, true, true, true, true, false, false, true, true, false, false, false, false, false] rfl rfl (any_of HT_.out (by kernel_rfl)) (fun _ _ _ h => h) (Or.inl ⟨by rfl, ?_⟩) ?_ ?_
                           rotate_left
                           ·intro w'
                            go_simp
                            with_reducible rfl
                           rotate_left
                           ·simp only [Act.put, List.setIfInBounds_toArray, List.set_cons_zero, List.set_cons_succ, i64_w, i32_w]
                            rfl
                           refine pure_ (i := 9) (N := some 94) (v := ?_) (a' := ?_) #[true, true, true, true, true, false, false, true, true, true, false, false, false, false] rfl rfl (any_of HT_.out (by kernel_rfl)) (fun _ _ _ h => h) (Or.inl ⟨by rfl, ?_⟩) ?_ ?_
                           rotate_left
                           ·intro w'
                            go_simp
                            with_reducible rfl
                           rotate_left
                           ·simp only [Act.put, List.setIfInBounds_toArray, List.set_cons_zero, List.set_cons_succ, i64_w, i32_w]
                            rfl
                           refine take_ (i := 5) (N := some 90) (v := ?_) (a' := ?_) #[true, true, true, true, true, true, false, true, true, true, false, false, false, false] rfl rfl (take_ofW HT_.out HW_.out (by kernel_rfl)) (fun _ _ _ h => h) (Or.inl ⟨by rfl, ?_⟩) hHeld ?_ ?_
                           rotate_left
                           ·rintro w' ⟨s0, s1⟩
                            go_simp
                            with_reducible rfl
                           rotate_left
                           ·simp only [Act.put, List.setIfInBounds_toArray, List.set_cons_zero, List.set_cons_succ, i64_w, i32_w]
                            rfl
                           refine take_ (i := 10) (N := some 95) (v := ?_) (a' := ?_) #[true, true, true, true, true, true, false, true, true, true, true, false, false, false] rfl rfl (take_ofW HT_.out HW_.out (by kernel_rfl)) (fun _ _ _ h => h) (Or.inl ⟨by rfl, ?_⟩) hHeld ?_ ?_
                           rotate_left
                           ·rintro w' ⟨s0, s1⟩
                            go_simp
                            with_reducible rfl
                           rotate_left
                           ·simp only [Act.put, List.setIfInBounds_toArray, List.set_cons_zero, List.set_cons_succ, i64_w, i32_w]
                            rfl
                           refine one_ (i := 6) (N := some 91) #[true, true, true, true, true, true, true, true, true, true, true, false, false, false] rfl rfl (one_of HT_.out (by kernel_rfl)) (by decide) (fun K hK => ?_)
                           refine goes_ Tryd.func23 (by kernel_rfl) rfl #[.string (rdOf ByteArray.empty x3_1 x11_5)] (by rfl) rfl rfl (by (try simp only [List.map_toArray, List.map_cons, List.map_nil]); first | done | rfl | (simp only [List.length_drop, List.length_take]; rfl)) ?_
                           with_reducible refine (path_Dir.calls k5 (rdOf ByteArray.empty x3_1 x11_5) t761 _ A62.out).mono ?_
                           rintro e w66 ⟨rfl, hb⟩
                           have HS0_ := (hb.cell (World.block_lt_of_cell? _ _ (hHeld.1))).trans (hHeld.1)
                           have HS1_ := (hb.cell (World.block_lt_of_cell? _ _ (hHeld.2))).trans (hHeld.2)
                           refine ⟨_, rfl, ?_⟩
                           have n0_ := Aside0.mk (Kd.R_below (by (with_reducible repeat (first | apply Kd.R_alloc | apply Kd.R_drewN | apply Kd.R_drew)); exact HO_3.out) hb)
                           have n1_ := Aside0.mk (Kd.R_below (by (with_reducible repeat (first | apply Kd.R_alloc | apply Kd.R_drewN | apply Kd.R_drew)); exact HO_5.out) hb)
                           have n2_ := Aside0.mk (Kd.R_below (by (with_reducible repeat (first | apply Kd.R_alloc | apply Kd.R_drewN | apply Kd.R_drew)); exact HO_8.out) hb)
                           have n3_ := Aside0.mk (Kd.C_below (by repeat (first | (with_reducible exact HR744.out) | (with_reducible refine Kd.C_alloc ?_ _) | (with_reducible refine Kd.C_drewN ?_ _) | (with_reducible refine Kd.C_drew ?_) | exact HR744.out)) hb)
                           have n4_ := Aside0.mk (Kd.C_below (by repeat (first | (with_reducible exact HR751.out) | (with_reducible refine Kd.C_alloc ?_ _) | (with_reducible refine Kd.C_drewN ?_ _) | (with_reducible refine Kd.C_drew ?_) | exact HR751.out)) hb)
                           have n5_ := Aside0.mk (below_step (by repeat (first | (with_reducible first | exact HB.out | apply below_alloc | apply pw_below_drewN | apply below_drew1) | exact HB.out)) hb)
                           clear HO_3
                           clear HO_5
                           clear HO_8
                           clear HR744
                           clear HR751
                           clear HB
                           have HO_3 := n0_
                           have HO_5 := n1_
                           have HO_8 := n2_
                           have HR744 := n3_
                           have HR751 := n4_
                           have HB := n5_
                           clear n0_ n1_ n2_ n3_ n4_ n5_
                           (try clear hb)
                           (try clear hb2)
                           (try clear hk)
                           (try clear hi)
                           refine hK.out _ _ ⟨HS0_, HS1_⟩ (fun hHeld => ?_)
                           clear hK K
                           refine norm_ (a' := ?_) ?_ ?_
                           rotate_left
                           ·show Act.put _ (some 91) _ = _
                            simp only [Act.put, List.setIfInBounds_toArray, List.set_cons_zero, List.set_cons_succ, i64_w, i32_w]
                            rfl
                           refine pure_ (i := 11) (N := some 96) (v := ?_) (a' := ?_) #[true, true, true, true, true, true, true, true, true, true, true, true, false, false] rfl rfl (any_of HT_.out (by kernel_rfl)) (fun _ _ _ h => h) (Or.inl ⟨by rfl, ?_⟩) ?_ ?_
                           rotate_left
                           ·intro w'
                            go_simp
                            with_reducible rfl
                           rotate_left
                           ·simp only [Act.put, List.setIfInBounds_toArray, List.set_cons_zero, List.set_cons_succ, i64_w, i32_w]
                            rfl
                           refine pure_ (i := 12) (N := some 97) (v := ?_) (a' := ?_) #[true, true, true, true, true, true, true, true, true, true, true, true, true, false] rfl rfl (any_of HT_.out (by kernel_rfl)) (fun _ _ _ h => h) (Or.inl ⟨by rfl, ?_⟩) ?_ ?_
                           rotate_left
                           ·intro w'
                            go_simp
                            with_reducible rfl
                           rotate_left
                           ·simp only [Act.put, List.setIfInBounds_toArray, List.set_cons_zero, List.set_cons_succ, i64_w, i32_w]
                            rfl
                           refine pure_ (i := 13) (N := some 10) (v := ?_) (a' := ?_) #[true, true, true, true, true, true, true, true, true, true, true, true, true, true] rfl rfl (any_of HT_.out (by kernel_rfl)) (fun _ _ _ h => h) (Or.inl ⟨by rfl, ?_⟩) ?_ ?_
                           rotate_left
                           ·intro w'
                            go_simp
                            with_reducible rfl
                           rotate_left
                           ·simp only [Act.put, List.setIfInBounds_toArray, List.set_cons_zero, List.set_cons_succ, i64_w, i32_w]
                            rfl
                           refine done_ (done_of HT_.out (by kernel_rfl)) ?_
                           try go_wp2
                           go_roundg k5
                           case measure => have := HK1.out; have := HJ10.out; have := HK3.out; have := HK4.out; have := HK5.out; omega
                           case rel => exact ⟨(false), ((t761.toList == (rdOf ByteArray.empty t733 x7_4).toList)), (wrap64 (x11_5 + 1)), (by first | rfl | (simp; done) | (simp [*]; done)), (by first | rfl | (simp; done) | (simp [*]; done)), (by first | rfl | (simp; done) | (simp [*]; done)), H', ⟨by have := HK1.out; have := HJ10.out; have := HK3.out; have := HK4.out; have := HK5.out; omega⟩, ⟨by (with_reducible repeat (first | apply Kd.R_alloc | apply Kd.R_drewN | apply Kd.R_drew)); exact HO_3.out⟩, ⟨by (with_reducible repeat (first | apply Kd.R_alloc | apply Kd.R_drewN | apply Kd.R_drew)); exact HO_5.out⟩, ⟨by (with_reducible repeat (first | apply Kd.R_alloc | apply Kd.R_drewN | apply Kd.R_drew)); exact HO_8.out⟩, ⟨by repeat (first | (with_reducible exact HR744.out) | (with_reducible refine Kd.C_alloc ?_ _) | (with_reducible refine Kd.C_drewN ?_ _) | (with_reducible refine Kd.C_drew ?_) | exact HR744.out)⟩, ⟨by repeat (first | (with_reducible exact HR751.out) | (with_reducible refine Kd.C_alloc ?_ _) | (with_reducible refine Kd.C_drewN ?_ _) | (with_reducible refine Kd.C_drew ?_) | exact HR751.out)⟩, ⟨by repeat (first | (with_reducible first | exact HB.out | apply below_alloc | apply pw_below_drewN | apply below_drew1) | exact HB.out)⟩⟩
                          ·rw [if_neg c64] at H
                           exact absurd H (by simp)
                         ·rw [if_neg c63] at H
                          exact absurd H (by simp)
                        ·rw [if_neg c61] at H
                         exact absurd H (by simp)
                     ·rw [if_neg c44] at H
                      have c44b0 : decide (x11_5 < (x3_1.length : Int)) = false := decide_eq_false c44
                      clear c44
                      by_cases c67 : x9_5 = true
                      ·subst c67
                       have H1 : (some false) = some r := by rw [if_pos rfl] at H; exact H
                       clear H
                       have H := H1
                       clear H1
                       obtain rfl := Option.some.inj H
                       go_wp2
                       go_ret
                       exact ⟨by first | rfl | (simp [errW_none, errW_some] <;> rfl) | (simp only [← hji35]; first | rfl | (simp [errW_none, errW_some] <;> rfl)) | (simp [*, errW_none, errW_some] <;> rfl), by repeat (first | (with_reducible first | exact HB.out | apply below_alloc | apply pw_below_drewN | apply below_drew1) | exact HB.out)⟩
                      ·replace c67 := Bool.eq_false_iff.mpr c67
                       subst c67
                       have H1 : (if x10_5 = true then (if 0 ≤ x7_4 then (if x7_4 < (t733.length : Int) then (if (rdOf ByteArray.empty t733 x7_4).toList = ([] : List UInt8) then (some false) else (copselaw15_ConeCovers.l2 k5 x3_1 t733 (wrap64 (x7_4 + 1)))) else (none)) else (none)) else (some false)) = some r := by rw [if_neg (show ¬ (false = true) by decide)] at H; exact H
                       clear H
                       have H := H1
                       clear H1
                       by_cases c68 : x10_5 = true
                       ·subst c68
                        have H1 : (if 0 ≤ x7_4 then (if x7_4 < (t733.length : Int) then (if (rdOf ByteArray.empty t733 x7_4).toList = ([] : List UInt8) then (some false) else (copselaw15_ConeCovers.l2 k5 x3_1 t733 (wrap64 (x7_4 + 1)))) else (none)) else (none)) = some r := by rw [if_pos rfl] at H; exact H
                        clear H
                        have H := H1
                        clear H1
                        by_cases c69 : 0 ≤ x7_4
                        ·rw [if_pos c69] at H
                         have c69b0 : decide (0 ≤ x7_4) = true := decide_eq_true c69
                         clear c69
                         by_cases c70 : x7_4 < (t733.length : Int)
                         ·rw [if_pos c70] at H
                          have c70b0 : decide (x7_4 < (t733.length : Int)) = true := decide_eq_true c70
                          clear c70
                          by_cases c71 : (rdOf ByteArray.empty t733 x7_4).toList = ([] : List UInt8)
                          ·rw [if_pos c71] at H
                           have c71b0 : ((rdOf ByteArray.empty t733 x7_4).toList == ([] : List UInt8)) = true := beq_iff_eq.mpr c71
                           have c71b1 : ((rdOf ByteArray.empty t733 x7_4).toList != ([] : List UInt8)) = false := bne_eq_false_iff_eq.mpr c71
                           clear c71
                           obtain rfl := Option.some.inj H
                           have p763 : 0 ≤ (x7_4 : Int) := of_decide_eq_true (by first | (with_reducible assumption) | assumption)
                           have q763 : x7_4 < (t733.length : Int) := of_decide_eq_true (by first | (with_reducible assumption) | assumption)
                           obtain ⟨ad763, e763, hx763_0⟩ := Kd.at_string (Kd.R_reads' HO_5.out).2.2 x7_4 p763 q763
                           cases e763
                           replace p763 := eq_true p763
                           replace q763 := eq_true q763
                           go_wp2
                           go_ret
                           exact ⟨by first | rfl | (simp [errW_none, errW_some] <;> rfl) | (simp only [← hji35]; first | rfl | (simp [errW_none, errW_some] <;> rfl)) | (simp [*, errW_none, errW_some] <;> rfl), by repeat (first | (with_reducible first | exact HB.out | apply below_alloc | apply pw_below_drewN | apply below_drew1) | exact HB.out)⟩
                          ·rw [if_neg c71] at H
                           have c71b0 : ((rdOf ByteArray.empty t733 x7_4).toList == ([] : List UInt8)) = false := beq_eq_false_iff_ne.mpr c71
                           have c71b1 : ((rdOf ByteArray.empty t733 x7_4).toList != ([] : List UInt8)) = true := bne_iff_ne.mpr c71
                           have H' := Aside0.mk H
                           clear H
                           have p763 : 0 ≤ (x7_4 : Int) := of_decide_eq_true (by first | (with_reducible assumption) | assumption)
                           have q763 : x7_4 < (t733.length : Int) := of_decide_eq_true (by first | (with_reducible assumption) | assumption)
                           obtain ⟨ad763, e763, hx763_0⟩ := Kd.at_string (Kd.R_reads' HO_5.out).2.2 x7_4 p763 q763
                           cases e763
                           replace p763 := eq_true p763
                           replace q763 := eq_true q763
                           go_wp2
                           go_roundg k5
                           case measure => have := HK1.out; have := HJ10.out; have := HK3.out; have := HK4.out; have := HK5.out; omega
                           case rel => exact ⟨(wrap64 (x7_4 + 1)), (by first | rfl | (simp; done) | (simp [*]; done)), H', ⟨by have := HK1.out; have := HJ10.out; have := HK3.out; have := HK4.out; have := HK5.out; omega⟩, ⟨by (with_reducible repeat (first | apply Kd.R_alloc | apply Kd.R_drewN | apply Kd.R_drew)); exact Kd.R_mono HO_3.out (fun _ hk => hk.1)⟩, ⟨by (with_reducible repeat (first | apply Kd.R_alloc | apply Kd.R_drewN | apply Kd.R_drew)); exact Kd.R_mono HO_5.out (fun _ hk => hk.1)⟩, ⟨by repeat (first | (with_reducible first | exact HB.out | apply below_alloc | apply pw_below_drewN | apply below_drew1) | exact HB.out)⟩⟩
                         ·rw [if_neg c70] at H
                          exact absurd H (by simp)
                        ·rw [if_neg c69] at H
                         exact absurd H (by simp)
                       ·replace c68 := Bool.eq_false_iff.mpr c68
                        subst c68
                        have H1 : (some false) = some r := by rw [if_neg (show ¬ (false = true) by decide)] at H; exact H
                        clear H
                        have H := H1
                        clear H1
                        obtain rfl := Option.some.inj H
                        go_wp2
                        go_ret
                        exact ⟨by first | rfl | (simp [errW_none, errW_some] <;> rfl) | (simp only [← hji35]; first | rfl | (simp [errW_none, errW_some] <;> rfl)) | (simp [*, errW_none, errW_some] <;> rfl), by repeat (first | (with_reducible first | exact HB.out | apply below_alloc | apply pw_below_drewN | apply below_drew1) | exact HB.out)⟩
                  ·rw [if_neg c38] at H
                   exact absurd H (by simp)
                 ·rw [if_neg c37] at H
                  exact absurd H (by simp)
                ·rw [if_neg c36] at H
                 exact absurd H (by simp)
               ·rw [if_neg c34] at H
                exact absurd H (by simp)
              ·rw [if_neg c33] at H
               exact absurd H (by simp)
             ·rw [if_neg c32] at H
              exact absurd H (by simp)
            ·rw [if_neg c31] at H
             have c31b0 : decide (x7_4 < (t733.length : Int)) = false := decide_eq_false c31
             clear c31
             obtain rfl := Option.some.inj H
             obtain ⟨Ao72, co72, eo72⟩ := Kd.R_slice HO_5.out
             subst eo72
             go_wp2
             go_ret
             exact ⟨by first | rfl | (simp [errW_none, errW_some] <;> rfl) | (simp [*, errW_none, errW_some] <;> rfl), by repeat (first | (with_reducible first | exact HB.out | apply below_alloc | apply pw_below_drewN | apply below_drew1) | exact HB.out)⟩
end Go.Proofs.YtdfkaclflmgkeaaDoor.PAll
