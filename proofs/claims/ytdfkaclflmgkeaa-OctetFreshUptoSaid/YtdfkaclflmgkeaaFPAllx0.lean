/- The values' own types, as the walks use them. -/
import Derived.Test.YtdfkaclflmgkeaaProg
import Derived.Below
import Derived.Deep.Draws
import Derived.Deep.AppendLies
import Derived.Maps.AppendAt
import Derived.OwnWalk
import Derived.Laws.BytesArg
import Derived.Laws.MakeOwn
import Derived.Laws.OwnMore
import Derived.Deep.OwnRows
import Derived.Tactics
import Derived.Lib.ConvBytes
import Derived.Laws.Slices
import Derived.WalkKit
import Derived.KernelRfl
import Derived.RowKit3
import Derived.Deep.LoopGhost
import Derived.Deep.QuietTactic
import Derived.BigQuiet
import Derived.WideLaws
import Derived.Deep.DeepCutAuto
import Derived.Deep.CutBlock
import Derived.Deep.RegionHeld3
import Derived.Laws.Rows
import Derived.Lib.AppendStr
import Derived.ArgAppend
import Derived.Laws.IdiomCopy
import Derived.OrdersHeld
import Derived.Laws.BitsLemmas
import Derived.RowKit
import Derived.Test.YtdfkaclflmgkeaaFWWords
import Derived.Test.YtdfkaclflmgkeaaFWLast
import Derived.Laws.StructEq
import Derived.Outline
import Derived.WalkSpells
import Derived.Laws.BitsAllLaws
namespace Go.Proofs.Ytdfkaclflmgkeaa.PAll
open Go.RowKit Go.Proofs.YtdfkaclflmgkeaaW.PrintWords Go.Proofs.YtdfkaclflmgkeaaW.PrintLast Go.Proofs.YtdfkaclflmgkeaaW.PrintMore
attribute [local go_sem] max2_int min2_int max_two min_two max_three min_three max_four min_four
set_option linter.unusedVariables false
set_option linter.unusedSimpArgs false
def errW : Option Int → Value
 | none => .nilIface
 | some c => .iface 0 (.int .i64 c)
theorem errW_none : errW none = .nilIface := rfl
theorem errW_some (c : Int) : errW (some c) = .iface 0 (.int .i64 c) := rfl
theorem info5 : (Try.prog.info? 5).map (fun i => (i.zero, i.size, i.bytes)) = some (some (.int .u8 0), 1, 1) := by kernel_rfl
def rd_L1 (xs : List (List Int)) (i : Int) : (List Int) := xs.getD i.toNat ([] : List Int)
theorem at_L1 {w : World} {A : Option Addr} {n : Nat} {xs : List (List Int)} (h : Kd.C (Kd.slice 5 (Kd.int .u8)) w A n xs) (i : Int) (h0 : 0 ≤ i) (h1 : i < n) : ∃ ad A0 c0, A = some ad ∧ w.cell? (ad.add i.toNat) = some (.slice A0 (rd_L1 xs i).length c0) ∧ (rd_L1 xs i).length ≤ c0 ∧ (Kd.int .u8).C w A0 (rd_L1 xs i).length (rd_L1 xs i) := by
 obtain ⟨ad, c, e, _, hK, hc0⟩ := Kd.C_get h ([] : List Int) i h0 h1
 have hc : ∀ j u, c[j]? = some u → w.cell? (ad.add (i.toNat * 1 + j)) = some u := hc0
 obtain ⟨A0, c0, rfl, l0, g0⟩ := hK
 exact ⟨ad, A0, c0, e, by have hq := hc 0 _ rfl; rwa [Nat.mul_one, Nat.add_zero] at hq, l0, g0⟩
end Go.Proofs.Ytdfkaclflmgkeaa.PAll
namespace Go.Proofs.Ytdfkaclflmgkeaa.PAll
open Go.RowKit Go.Proofs.YtdfkaclflmgkeaaW.PrintWords Go.Proofs.YtdfkaclflmgkeaaW.PrintLast Go.Proofs.YtdfkaclflmgkeaaW.PrintMore
attribute [local go_sem] max2_int min2_int max_two min_two max_three min_three max_four min_four
set_option linter.unusedVariables false
set_option linter.unusedSimpArgs false
def copselaw01_same.f (l0 : List Int) (l1 : List Int) : Option (Bool) := some ((strOfNums l0).toList == (strOfNums l1).toList)
set_option maxHeartbeats 8000000 in
set_option maxRecDepth 100000 in
theorem copselaw01_same.calls (A0 : Option Addr) (c0 : Nat) (l0 : List Int) (A1 : Option Addr) (c1 : Nat) (l1 : List Int) (r : Bool) (w : World) (hr0 : Kd.C (Kd.int .u8) w A0 l0.length l0) (hc0 : l0.length ≤ c0) (hr1 : Kd.C (Kd.int .u8) w A1 l1.length l1) (hc1 : l1.length ≤ c1) (h : copselaw01_same.f l0 l1 = some r) :
  Calls Try.prog 10 #[.slice A0 l0.length c0, .slice A1 l1.length c1] w fun e w' => e = .returned (.bool r) ∧ Drawn0 w w' := by
 have HR0 := Aside0.mk hr0
 have HC0 := Aside0.mk hc0
 clear hr0 hc0
 have HR1 := Aside0.mk hr1
 have HC1 := Aside0.mk hc1
 clear hr1 hc1
 have H : (some ((strOfNums l0).toList == (strOfNums l1).toList)) = some r := h
 clear h
 obtain rfl := Option.some.inj H
 have hcv3 := Kd.C_string (P := Try.prog) (A := A0) (c := c0) Try.underlying22 Try.underlying5 Try.underlying9 HR0.out
 have hcv4 := Kd.C_string (P := Try.prog) (A := A1) (c := c1) Try.underlying22 Try.underlying5 Try.underlying9 HR1.out
 go_enter Try.func10, Try.ntmps10
 go_wp2
 go_ret
 exact ⟨by first | rfl | (simp; done) | (simp [*]; done), by repeat (first | exact Drawn0.refl _ | apply Drawn0.step)⟩
def copseref01_Put.l0 : Nat → Int → Int → List Int → Int → Option (List Int)
 | 0, _, _, _, _ => none
 | k + 1, x1, x2, x7, x8 => if x8 < x2 then (if x7.length < 140737488355328 then (copseref01_Put.l0 k (IntKind.u64.wrap (Int.tdiv x1 256)) x2 (x7 ++ [(Int.tmod x1 256) % 256]) (wrap64 (x8 + 1))) else (none)) else (some x7)
def copseref01_Put.f (k : Nat) (l0 : List Int) (a1 : Int) (a2 : Int) : Option (List Int) := if ([] : List Int).length + l0.length < 140737488355328 then (copseref01_Put.l0 k a1 a2 (([] : List Int) ++ l0) 0) else (none)
set_option maxHeartbeats 8000000 in
set_option maxRecDepth 100000 in
theorem copseref01_Put.calls (k : Nat) (A0 : Option Addr) (c0 : Nat) (l0 : List Int) (a1 : Int) (a2 : Int) (r : List Int) (w : World) (hr0 : Kd.C (Kd.int .u8) w A0 l0.length l0) (hc0 : l0.length ≤ c0) (h : copseref01_Put.f k l0 a1 a2 = some r) :
  Calls Try.prog 12 #[.slice A0 l0.length c0, .int .u64 a1, .int .i64 a2] w fun e w' => ∃ v0_ : Value, e = .returned (v0_) ∧ Kd.R (Kd.int .u8) 5 w' w.heap.size (fun _ => True) v0_ r ∧ Below w.heap.size w w' := by
 have HR0 := Aside0.mk hr0
 have HC0 := Aside0.mk hc0
 clear hr0 hc0
 have HB := Aside0.mk (Below.refl w.heap.size w)
 have H : (if ([] : List Int).length + l0.length < 140737488355328 then (copseref01_Put.l0 k a1 a2 (([] : List Int) ++ l0) 0) else (none)) = some r := h
 clear h
 by_cases c4 : ([] : List Int).length + l0.length < 140737488355328
 ·rw [if_pos c4] at H
  have LMc4 := Aside0.mk c4
  clear c4
  obtain ⟨y119, hy119⟩ : ∃ y_ : List Int, y_ = (([] : List Int) ++ l0) := ⟨_, rfl⟩
  replace H : (copseref01_Put.l0 k a1 a2 y119 0) = some r := by first | (rw [hy119]; with_reducible exact H) | (have H2_ := (Option.bind_some _ _).symm.trans H; rw [hy119]; with_reducible exact H2_) | (have H2_ := (Option.bind_some _ _).symm.trans H; with_reducible exact H2_) | with_reducible exact H | (rw [hy119]; exact H) | exact H
  have Ny119 := Aside0.mk hy119
  clear hy119
  have H' := Aside0.mk H
  clear H
  go_enter Try.func12, Try.ntmps12
  go_wp2_with (first | ((with_reducible refine gate_builtin (b := .append) (xs := #[.tmp 9, .tmp 10]) rfl ?_); at_builtin; refine Kd.R_append_rows (Kd.int .u8) (w0 := w) w.heap.size rfl (.tmp 9) (.tmp 10) 22 5 (.int .u8 0) 1 rfl Try.underlying22 info5 rfl (by decide) (by omega) (.slice none 0 0) ([] : List Int) l0 _ _ _ (fun _ => True) (fun _ => False) rfl rfl ?aO ?aR (fun _ _ h => h) (fun _ h => h.elim) ?aF ?aB ?aS ?aL ?_; (case aR => repeat (first | exact HR0.out | (with_reducible refine Kd.C_alloc ?_ _) | (with_reducible refine Kd.C_drewN ?_ _) | (with_reducible refine Kd.C_drew ?_))); (case aB => exact (by repeat (first | (with_reducible first | exact HB.out | apply below_alloc | apply pw_below_drewN | apply below_drew1) | exact HB.out))); (case aF => exact (fun _ _ => trivial)); (case aO => exact ((Kd.R_nil _ _ _ _ (fun _ => True)))); (case aS => exact (below_size (by repeat (first | (with_reducible first | exact HB.out | apply below_alloc | apply pw_below_drewN | apply below_drew1) | exact HB.out)))); (case aL => have := LMc4.out; omega); intro v120 w5 ho hb hg hat; rw [← Ny119.out] at ho; have n0_ := Aside0.mk (hb); have n1_ := Aside0.mk (ho); clear HB; have HB := n0_; have HO121 := n1_; clear n0_ n1_; clear ho hb hg hat))
  go_loopg [1, 7, 8] k (fun kq v1 v7 v8 w' => ∃ (x1_1 : Int) (x7_1 : List Int) (x8_1 : Int), v1 = .int .u64 x1_1 ∧ v8 = .int .i64 x8_1 ∧ Aside0 (copseref01_Put.l0 kq x1_1 a2 x7_1 x8_1 = some r) ∧ Aside0 (kq ≤ k) ∧ Aside0 (Kd.R (Kd.int .u8) 5 w' w.heap.size (fun _ => True) v7 x7_1) ∧ Aside0 (Below w.heap.size w w'))
  case atStart => exact ⟨(a1), (y119), (0), (by first | rfl | (simp; done) | (simp [*]; done)), (by first | rfl | (simp; done) | (simp [*]; done)), H', ⟨Nat.le_refl _⟩, ⟨by (with_reducible repeat (first | apply Kd.R_alloc | apply Kd.R_drewN | apply Kd.R_drew)); exact HO121.out⟩, ⟨by repeat (first | (with_reducible first | exact HB.out | apply below_alloc | apply pw_below_drewN | apply below_drew1) | exact HB.out)⟩⟩
  case round =>
   clear H'
   try clear c1
   try clear p2
   try clear c4
   obtain ⟨x1_1, x7_1, x8_1, rfl, rfl, HA, HK1, HO_7, HB⟩ := hrel
   cases gk with
   | zero => exact absurd HA.out (by simp [copseref01_Put.l0])
   | succ k1 =>
    have H := HA.out
    clear HA
    simp only [copseref01_Put.l0] at H
    by_cases c6 : x8_1 < a2
    ·rw [if_pos c6] at H
     have c6b0 := decide_eq_true c6
     clear c6
     by_cases c7 : x7_1.length < 140737488355328
     ·rw [if_pos c7] at H
      have LMc7 := Aside0.mk c7
      clear c7
      obtain ⟨y122, hy122⟩ : ∃ y_ : List Int, y_ = (x7_1 ++ [(Int.tmod x1_1 256) % 256]) := ⟨_, rfl⟩
      replace H : (copseref01_Put.l0 k1 (IntKind.u64.wrap (Int.tdiv x1_1 256)) a2 y122 (wrap64 (x8_1 + 1))) = some r := by first | (rw [hy122]; with_reducible exact H) | (have H2_ := (Option.bind_some _ _).symm.trans H; rw [hy122]; with_reducible exact H2_) | (have H2_ := (Option.bind_some _ _).symm.trans H; with_reducible exact H2_) | with_reducible exact H | (rw [hy122]; exact H) | exact H
      have Ny122 := Aside0.mk hy122
      clear hy122
      have H' := Aside0.mk H
      clear H
      go_wp2_with (first | ((with_reducible refine gate_builtin (b := .append) (xs := #[.tmp 17, .tmp 21]) rfl ?_); at_builtin; refine Kd.R_append (Kd.int .u8) (w0 := w) w.heap.size rfl (.tmp 17) (.tmp 21) 22 5 (.int .u8 0) 1 rfl Try.underlying22 info5 rfl (by decide) (by omega) u7 x7_1 ((Int.tmod x1_1 256) % 256) [.int .u8 ((Int.tmod x1_1 256) % 256)] (fun _ => True) (fun _ => False) rfl rfl ?aP (fun _ hk => hk.elim) ?aF ?aO ?aB ?aS ?aL ?_; (case aP => exact rfl); (case aB => exact (by repeat (first | (with_reducible first | exact HB.out | apply below_alloc | apply pw_below_drewN | apply below_drew1) | exact HB.out))); (case aF => exact (fun _ _ => trivial)); (case aO => exact (by (with_reducible repeat (first | apply Kd.R_alloc | apply Kd.R_drewN | apply Kd.R_drew)); exact HO_7.out)); (case aS => exact (below_size (by repeat (first | (with_reducible first | exact HB.out | apply below_alloc | apply pw_below_drewN | apply below_drew1) | exact HB.out)))); (case aL => have := LMc7.out; omega); intro v123 w8 ho hb hg hat; rw [← Ny122.out] at ho; have n0_ := Aside0.mk (hb); have n1_ := Aside0.mk (ho); clear HB; clear HO_7; have HB := n0_; have HO124 := n1_; clear n0_ n1_; clear ho hb hg hat))
      go_roundg k1
      case measure => have := HK1.out; omega
      case rel => exact ⟨(IntKind.u64.wrap (Int.tdiv x1_1 256)), (y122), (wrap64 (x8_1 + 1)), (by first | rfl | (simp; done) | (simp [*]; done)), (by first | rfl | (simp; done) | (simp [*]; done)), H', ⟨by have := HK1.out; omega⟩, ⟨by (with_reducible repeat (first | apply Kd.R_alloc | apply Kd.R_drewN | apply Kd.R_drew)); exact HO124.out⟩, ⟨by repeat (first | (with_reducible first | exact HB.out | apply below_alloc | apply pw_below_drewN | apply below_drew1) | exact HB.out)⟩⟩
     ·rw [if_neg c7] at H
      exact absurd H (by simp)
    ·rw [if_neg c6] at H
     have c6b0 := decide_eq_false c6
     clear c6
     obtain rfl := Option.some.inj H
     go_wp2
     go_ret
     exact ⟨_, by first | rfl | (simp [errW_none, errW_some] <;> rfl) | (simp [*, errW_none, errW_some] <;> rfl), by (with_reducible repeat (first | apply Kd.R_alloc | apply Kd.R_drewN | apply Kd.R_drew)); exact HO_7.out, by repeat (first | (with_reducible first | exact HB.out | apply below_alloc | apply pw_below_drewN | apply below_drew1) | exact HB.out)⟩
 ·rw [if_neg c4] at H
  exact absurd H (by simp)
def copseref01_Text.f (k : Nat) (l0 : List Int) (a1 : ByteArray) : Option (List Int) := (copseref01_Put.f k l0 (IntKind.u64.wrap ((a1.size : Int))) 4).bind fun t131 => (if t131.length + a1.size < 140737488355328 then (some (t131 ++ bytesOf a1)) else (none))
set_option maxHeartbeats 8000000 in
set_option maxRecDepth 100000 in
theorem copseref01_Text.calls (k : Nat) (A0 : Option Addr) (c0 : Nat) (l0 : List Int) (a1 : ByteArray) (r : List Int) (w : World) (hr0 : Kd.C (Kd.int .u8) w A0 l0.length l0) (hc0 : l0.length ≤ c0) (h : copseref01_Text.f k l0 a1 = some r) :
  Calls Try.prog 16 #[.slice A0 l0.length c0, .string a1] w fun e w' => ∃ v0_ : Value, e = .returned (v0_) ∧ Kd.R (Kd.int .u8) 5 w' w.heap.size (fun _ => True) v0_ r ∧ Below w.heap.size w w' := by
 have HR0 := Aside0.mk hr0
 have HC0 := Aside0.mk hc0
 clear hr0 hc0
 have HB := Aside0.mk (Below.refl w.heap.size w)
 have H : ((copseref01_Put.f k l0 (IntKind.u64.wrap ((a1.size : Int))) 4).bind fun t131 => (if t131.length + a1.size < 140737488355328 then (some (t131 ++ bytesOf a1)) else (none))) = some r := h
 clear h
 replace H := Option.bind_eq_some_iff.mp H
 obtain ⟨t131, A30, H⟩ := H
 try dsimp only at H
 have A3 := Aside0.mk A30
 clear A30
 by_cases c4 : t131.length + a1.size < 140737488355328
 ·rw [if_pos c4] at H
  have LMc4 := Aside0.mk c4
  clear c4
  obtain ⟨y134, hy134⟩ : ∃ y_ : List Int, y_ = (t131 ++ bytesOf a1) := ⟨_, rfl⟩
  replace H : (some y134) = some r := by first | (rw [hy134]; with_reducible exact H) | (have H2_ := (Option.bind_some _ _).symm.trans H; rw [hy134]; with_reducible exact H2_) | (have H2_ := (Option.bind_some _ _).symm.trans H; with_reducible exact H2_) | with_reducible exact H | (rw [hy134]; exact H) | exact H
  have Ny134 := Aside0.mk hy134
  clear hy134
  obtain rfl := Option.some.inj H
  go_enter Try.func16, Try.ntmps16
  go_wp2_with (first | ((with_reducible refine gate_callee (f := 12) rfl ?_); refine goesL_ (some 10) rfl rfl Try.func12 (by kernel_rfl) rfl #[.slice A0 l0.length c0, .int .u64 (IntKind.u64.wrap ((a1.size : Int))), .int .i64 4] rfl (by (try simp only [List.map_toArray, List.map_cons, List.map_nil]); first | done | rfl | (simp only [List.length_drop, List.length_take]; rfl)) ?_; (with_reducible refine (copseref01_Put.calls k _ _ l0 (IntKind.u64.wrap ((a1.size : Int))) 4 t131 _ ?side1 ?side2 A3.out).mono ?_); (case side1 => repeat (first | exact HR0.out | (with_reducible refine Kd.C_alloc ?_ _) | (with_reducible refine Kd.C_drewN ?_ _) | (with_reducible refine Kd.C_drew ?_))); (case side2 => exact HC0.out); rintro e w5 ⟨v132, rfl, ho0, hb⟩; refine ⟨_, rfl, ?_⟩; have n0_ := Aside0.mk (Kd.R_lower ho0 (below_size (by repeat (first | (with_reducible first | exact HB.out | apply below_alloc | apply pw_below_drewN | apply below_drew1) | exact HB.out)))); have n1_ := Aside0.mk (below_step (by repeat (first | (with_reducible first | exact HB.out | apply below_alloc | apply pw_below_drewN | apply below_drew1) | exact HB.out)) hb); clear HB; have HO133 := n0_; have HB := n1_; clear n0_ n1_; (try clear hb); (try clear hb2); (try clear hk); (try clear hi); (try clear ho0)) | (at_builtin; refine print_append_str (w0 := w) w.heap.size rfl (.tmp 11) _ 22 9 5 rfl Try.underlying22 Try.underlying9 info5 v132 t131 a1 rfl rfl ?aO ?aB ?aS ?aL ?_; (case aB => exact (by repeat (first | (with_reducible first | exact HB.out | apply below_alloc | apply pw_below_drewN | apply below_drew1) | exact HB.out))); (case aO => exact (Kd.own_of_R (by (with_reducible repeat (first | apply Kd.R_alloc | apply Kd.R_drewN | apply Kd.R_drew)); exact HO133.out))); (case aS => exact (below_size (by repeat (first | (with_reducible first | exact HB.out | apply below_alloc | apply pw_below_drewN | apply below_drew1) | exact HB.out)))); (case aL => have := LMc4.out; omega); intro v135 w6 ho0 hb hg; have ho := Kd.R_of_own (h1 := fun _ => rfl) (ok := fun _ => True) ho0 (fun _ _ => trivial); clear ho0; have hat := True.intro; rw [← Ny134.out] at ho; change Kd.R (Kd.int .u8) 5 w6 w.heap.size (fun _ => True) v135 y134 at ho; have n0_ := Aside0.mk (hb); have n1_ := Aside0.mk (ho); clear HB; clear HO133; have HB := n0_; have HO136 := n1_; clear n0_ n1_; clear ho hb hg hat))
  go_ret
  exact ⟨_, by first | rfl | (simp [errW_none, errW_some] <;> rfl) | (simp [*, errW_none, errW_some] <;> rfl), by (with_reducible repeat (first | apply Kd.R_alloc | apply Kd.R_drewN | apply Kd.R_drew)); exact HO136.out, by repeat (first | (with_reducible first | exact HB.out | apply below_alloc | apply pw_below_drewN | apply below_drew1) | exact HB.out)⟩
 ·rw [if_neg c4] at H
  exact absurd H (by simp)
def octet_Join.l0 : Nat → List Int → List (List Int) → Int → Int → Option (List Int)
 | 0, _, _, _, _ => none
 | k + 1, x3, x6, x7, x8 => if x8 < x7 then (if 0 ≤ x8 then (if x8 < (x6.length : Int) then (if x3.length + (rd_L1 x6 x8).length < 140737488355328 then (octet_Join.l0 k (x3 ++ (rd_L1 x6 x8)) x6 x7 (wrap64 (x8 + 1))) else (none)) else (none)) else (none)) else (some x3)
def octet_Join.f (k : Nat) (l0 : List (List Int)) : Option (List Int) := octet_Join.l0 k ([] : List Int) l0 (l0.length : Int) 0
set_option maxHeartbeats 8000000 in
set_option maxRecDepth 100000 in
theorem octet_Join.calls (k : Nat) (A0 : Option Addr) (c0 : Nat) (l0 : List (List Int)) (r : List Int) (w : World) (hr0 : Kd.C (Kd.slice 5 (Kd.int .u8)) w A0 l0.length l0) (hc0 : l0.length ≤ c0) (h : octet_Join.f k l0 = some r) :
  Calls Try.prog 17 #[.slice A0 l0.length c0] w fun e w' => ∃ v0_ : Value, e = .returned (v0_) ∧ Kd.R (Kd.int .u8) 5 w' w.heap.size (fun _ => True) v0_ r ∧ Below w.heap.size w w' := by
 have HR0 := Aside0.mk hr0
 have HC0 := Aside0.mk hc0
 clear hr0 hc0
 have HB := Aside0.mk (Below.refl w.heap.size w)
 have H : (octet_Join.l0 k ([] : List Int) l0 (l0.length : Int) 0) = some r := h
 clear h
 have H' := Aside0.mk H
 clear H
 go_enter Try.func17, Try.ntmps17
 go_wp2
 go_loopg [3, 8] k (fun kq v3 v8 w' => ∃ (x3_1 : List Int) (x8_1 : Int), v8 = .int .i64 x8_1 ∧ Aside0 (octet_Join.l0 kq x3_1 l0 (l0.length : Int) x8_1 = some r) ∧ Aside0 (kq ≤ k) ∧ Aside0 (Kd.R (Kd.int .u8) 5 w' w.heap.size (fun _ => True) v3 x3_1) ∧ Aside0 (Below w.heap.size w w'))
 case atStart => exact ⟨(([] : List Int)), (0), (by first | rfl | (simp; done) | (simp [*]; done)), H', ⟨Nat.le_refl _⟩, ⟨by first | exact Kd.R_nil _ _ _ _ _ | exact Kd.N_nil _ _ _ _ _ | exact Kd.V_nil _ _ _ _ _ | exact Kd.Q_nil _ _ _ _ _ | exact Kd.S_nil _ _ _ _ _⟩, ⟨by repeat (first | (with_reducible first | exact HB.out | apply below_alloc | apply pw_below_drewN | apply below_drew1) | exact HB.out)⟩⟩
 case round =>
  clear H'
  try clear c1
  obtain ⟨x3_1, x8_1, rfl, HA, HK1, HO_3, HB⟩ := hrel
  cases gk with
  | zero => exact absurd HA.out (by simp [octet_Join.l0])
  | succ k1 =>
   have H := HA.out
   clear HA
   simp only [octet_Join.l0] at H
   by_cases c2 : x8_1 < (l0.length : Int)
   ·rw [if_pos c2] at H
    have c2b0 := decide_eq_true c2
    clear c2
    by_cases c3 : 0 ≤ x8_1
    ·rw [if_pos c3] at H
     have c3b0 := decide_eq_true c3
     clear c3
     by_cases c4 : x8_1 < (l0.length : Int)
     ·rw [if_pos c4] at H
      have c4b0 := decide_eq_true c4
      clear c4
      by_cases c5 : x3_1.length + (rd_L1 l0 x8_1).length < 140737488355328
      ·rw [if_pos c5] at H
       have LMc5 := Aside0.mk c5
       clear c5
       obtain ⟨y138, hy138⟩ : ∃ y_ : List Int, y_ = (x3_1 ++ (rd_L1 l0 x8_1)) := ⟨_, rfl⟩
       replace H : (octet_Join.l0 k1 y138 l0 (l0.length : Int) (wrap64 (x8_1 + 1))) = some r := by first | (rw [hy138]; with_reducible exact H) | (have H2_ := (Option.bind_some _ _).symm.trans H; rw [hy138]; with_reducible exact H2_) | (have H2_ := (Option.bind_some _ _).symm.trans H; with_reducible exact H2_) | with_reducible exact H | (rw [hy138]; exact H) | exact H
       have Ny138 := Aside0.mk hy138
       clear hy138
       have H' := Aside0.mk H
       clear H
       have p137 : 0 ≤ (x8_1 : Int) := of_decide_eq_true (by first | (with_reducible assumption) | assumption)
       have q137 : x8_1 < (l0.length : Int) := of_decide_eq_true (by first | (with_reducible assumption) | assumption)
       obtain ⟨ad137, A137_0, c137_0, e137, hx137_0, hl137_0, hi137_0⟩ := at_L1 HR0.out x8_1 p137 q137
       cases e137
       replace hx137_0 := (HB.out.cell (World.block_lt_of_cell? w _ hx137_0)).trans hx137_0
       have HR137_0 := Aside0.mk hi137_0
       have HC137_0 := Aside0.mk hl137_0
       clear hi137_0 hl137_0
       replace p137 := eq_true p137
       replace q137 := eq_true q137
       go_wp2_with (first | ((with_reducible refine gate_builtin (b := .append) (xs := #[.tmp 12, .tmp 13]) rfl ?_); at_builtin; refine Kd.R_append_rows (Kd.int .u8) (w0 := w) w.heap.size rfl (.tmp 12) (.tmp 13) 22 5 (.int .u8 0) 1 rfl Try.underlying22 info5 rfl (by decide) (by omega) u3 x3_1 (rd_L1 l0 x8_1) _ _ _ (fun _ => True) (fun _ => False) rfl rfl ?aO ?aR (fun _ _ h => h) (fun _ h => h.elim) ?aF ?aB ?aS ?aL ?_; (case aR => repeat (first | exact (Kd.C_below HR137_0.out HB.out) | (with_reducible refine Kd.C_alloc ?_ _) | (with_reducible refine Kd.C_drewN ?_ _) | (with_reducible refine Kd.C_drew ?_))); (case aB => exact (by repeat (first | (with_reducible first | exact HB.out | apply below_alloc | apply pw_below_drewN | apply below_drew1) | exact HB.out))); (case aF => exact (fun _ _ => trivial)); (case aO => exact (by (with_reducible repeat (first | apply Kd.R_alloc | apply Kd.R_drewN | apply Kd.R_drew)); exact HO_3.out)); (case aS => exact (below_size (by repeat (first | (with_reducible first | exact HB.out | apply below_alloc | apply pw_below_drewN | apply below_drew1) | exact HB.out)))); (case aL => have := LMc5.out; omega); intro v139 w6 ho hb hg hat; rw [← Ny138.out] at ho; have n0_ := Aside0.mk (hb); have n1_ := Aside0.mk (ho); clear HB; clear HO_3; have HB := n0_; have HO140 := n1_; clear n0_ n1_; clear ho hb hg hat))
       go_roundg k1
       case measure => have := HK1.out; omega
       case rel => exact ⟨(y138), (wrap64 (x8_1 + 1)), (by first | rfl | (simp; done) | (simp [*]; done)), H', ⟨by have := HK1.out; omega⟩, ⟨by (with_reducible repeat (first | apply Kd.R_alloc | apply Kd.R_drewN | apply Kd.R_drew)); exact HO140.out⟩, ⟨by repeat (first | (with_reducible first | exact HB.out | apply below_alloc | apply pw_below_drewN | apply below_drew1) | exact HB.out)⟩⟩
      ·rw [if_neg c5] at H
       exact absurd H (by simp)
     ·rw [if_neg c4] at H
      exact absurd H (by simp)
    ·rw [if_neg c3] at H
     exact absurd H (by simp)
   ·rw [if_neg c2] at H
    have c2b0 := decide_eq_false c2
    clear c2
    obtain rfl := Option.some.inj H
    go_wp2
    go_ret
    exact ⟨_, by first | rfl | (simp [errW_none, errW_some] <;> rfl) | (simp [*, errW_none, errW_some] <;> rfl), by (with_reducible repeat (first | apply Kd.R_alloc | apply Kd.R_drewN | apply Kd.R_drew)); exact HO_3.out, by repeat (first | (with_reducible first | exact HB.out | apply below_alloc | apply pw_below_drewN | apply below_drew1) | exact HB.out)⟩
def copseref01_Join.l0 : Nat → List (List Int) → List Int → Int → Option (List Int)
 | 0, _, _, _ => none
 | k + 1, x0, x3, x4 => if x4 < (x0.length : Int) then (if 0 ≤ x4 then (if x3.length + (rd_L1 x0 x4).length < 140737488355328 then (copseref01_Join.l0 k x0 (x3 ++ (rd_L1 x0 x4)) (wrap64 (x4 + 1))) else (none)) else (none)) else (some x3)
def copseref01_Join.f (k : Nat) (l0 : List (List Int)) : Option (List Int) := copseref01_Join.l0 k l0 ([] : List Int) 0
set_option maxHeartbeats 8000000 in
set_option maxRecDepth 100000 in
theorem copseref01_Join.calls (k : Nat) (A0 : Option Addr) (c0 : Nat) (l0 : List (List Int)) (r : List Int) (w : World) (hr0 : Kd.C (Kd.slice 5 (Kd.int .u8)) w A0 l0.length l0) (hc0 : l0.length ≤ c0) (h : copseref01_Join.f k l0 = some r) :
  Calls Try.prog 18 #[.slice A0 l0.length c0] w fun e w' => ∃ v0_ : Value, e = .returned (v0_) ∧ Kd.R (Kd.int .u8) 5 w' w.heap.size (fun _ => True) v0_ r ∧ Below w.heap.size w w' := by
 have HR0 := Aside0.mk hr0
 have HC0 := Aside0.mk hc0
 clear hr0 hc0
 have HB := Aside0.mk (Below.refl w.heap.size w)
 have H : (copseref01_Join.l0 k l0 ([] : List Int) 0) = some r := h
 clear h
 have H' := Aside0.mk H
 clear H
 go_enter Try.func18, Try.ntmps18
 go_wp2
 go_loopg [3, 4] k (fun kq v3 v4 w' => ∃ (x3_1 : List Int) (x4_1 : Int), v4 = .int .i64 x4_1 ∧ Aside0 (copseref01_Join.l0 kq l0 x3_1 x4_1 = some r) ∧ Aside0 (kq ≤ k) ∧ Aside0 (Kd.R (Kd.int .u8) 5 w' w.heap.size (fun _ => True) v3 x3_1) ∧ Aside0 (Below w.heap.size w w'))
 case atStart => exact ⟨(([] : List Int)), (0), (by first | rfl | (simp; done) | (simp [*]; done)), H', ⟨Nat.le_refl _⟩, ⟨by first | exact Kd.R_nil _ _ _ _ _ | exact Kd.N_nil _ _ _ _ _ | exact Kd.V_nil _ _ _ _ _ | exact Kd.Q_nil _ _ _ _ _ | exact Kd.S_nil _ _ _ _ _⟩, ⟨by repeat (first | (with_reducible first | exact HB.out | apply below_alloc | apply pw_below_drewN | apply below_drew1) | exact HB.out)⟩⟩
 case round =>
  clear H'
  try clear c1
  obtain ⟨x3_1, x4_1, rfl, HA, HK1, HO_3, HB⟩ := hrel
  cases gk with
  | zero => exact absurd HA.out (by simp [copseref01_Join.l0])
  | succ k1 =>
   have H := HA.out
   clear HA
   simp only [copseref01_Join.l0] at H
   by_cases c2 : x4_1 < (l0.length : Int)
   ·rw [if_pos c2] at H
    have c2b0 := decide_eq_true c2
    clear c2
    by_cases c3 : 0 ≤ x4_1
    ·rw [if_pos c3] at H
     have c3b0 := decide_eq_true c3
     clear c3
     by_cases c4 : x3_1.length + (rd_L1 l0 x4_1).length < 140737488355328
     ·rw [if_pos c4] at H
      have LMc4 := Aside0.mk c4
      clear c4
      obtain ⟨y142, hy142⟩ : ∃ y_ : List Int, y_ = (x3_1 ++ (rd_L1 l0 x4_1)) := ⟨_, rfl⟩
      replace H : (copseref01_Join.l0 k1 l0 y142 (wrap64 (x4_1 + 1))) = some r := by first | (rw [hy142]; with_reducible exact H) | (have H2_ := (Option.bind_some _ _).symm.trans H; rw [hy142]; with_reducible exact H2_) | (have H2_ := (Option.bind_some _ _).symm.trans H; with_reducible exact H2_) | with_reducible exact H | (rw [hy142]; exact H) | exact H
      have Ny142 := Aside0.mk hy142
      clear hy142
      have H' := Aside0.mk H
      clear H
      have p141 : 0 ≤ (x4_1 : Int) := of_decide_eq_true (by first | (with_reducible assumption) | assumption)
      have q141 : x4_1 < (l0.length : Int) := of_decide_eq_true (by first | (with_reducible assumption) | assumption)
      obtain ⟨ad141, A141_0, c141_0, e141, hx141_0, hl141_0, hi141_0⟩ := at_L1 HR0.out x4_1 p141 q141
      cases e141
      replace hx141_0 := (HB.out.cell (World.block_lt_of_cell? w _ hx141_0)).trans hx141_0
      have HR141_0 := Aside0.mk hi141_0
      have HC141_0 := Aside0.mk hl141_0
      clear hi141_0 hl141_0
      replace p141 := eq_true p141
      replace q141 := eq_true q141
      go_wp2_with (first | ((with_reducible refine gate_builtin (b := .append) (xs := #[.tmp 11, .tmp 15]) rfl ?_); at_builtin; refine Kd.R_append_rows (Kd.int .u8) (w0 := w) w.heap.size rfl (.tmp 11) (.tmp 15) 22 5 (.int .u8 0) 1 rfl Try.underlying22 info5 rfl (by decide) (by omega) u3 x3_1 (rd_L1 l0 x4_1) _ _ _ (fun _ => True) (fun _ => False) rfl rfl ?aO ?aR (fun _ _ h => h) (fun _ h => h.elim) ?aF ?aB ?aS ?aL ?_; (case aR => repeat (first | exact (Kd.C_below HR141_0.out HB.out) | (with_reducible refine Kd.C_alloc ?_ _) | (with_reducible refine Kd.C_drewN ?_ _) | (with_reducible refine Kd.C_drew ?_))); (case aB => exact (by repeat (first | (with_reducible first | exact HB.out | apply below_alloc | apply pw_below_drewN | apply below_drew1) | exact HB.out))); (case aF => exact (fun _ _ => trivial)); (case aO => exact (by (with_reducible repeat (first | apply Kd.R_alloc | apply Kd.R_drewN | apply Kd.R_drew)); exact HO_3.out)); (case aS => exact (below_size (by repeat (first | (with_reducible first | exact HB.out | apply below_alloc | apply pw_below_drewN | apply below_drew1) | exact HB.out)))); (case aL => have := LMc4.out; omega); intro v143 w5 ho hb hg hat; rw [← Ny142.out] at ho; have n0_ := Aside0.mk (hb); have n1_ := Aside0.mk (ho); clear HB; clear HO_3; have HB := n0_; have HO144 := n1_; clear n0_ n1_; clear ho hb hg hat))
      go_roundg k1
      case measure => have := HK1.out; omega
      case rel => exact ⟨(y142), (wrap64 (x4_1 + 1)), (by first | rfl | (simp; done) | (simp [*]; done)), H', ⟨by have := HK1.out; omega⟩, ⟨by (with_reducible repeat (first | apply Kd.R_alloc | apply Kd.R_drewN | apply Kd.R_drew)); exact HO144.out⟩, ⟨by repeat (first | (with_reducible first | exact HB.out | apply below_alloc | apply pw_below_drewN | apply below_drew1) | exact HB.out)⟩⟩
     ·rw [if_neg c4] at H
      exact absurd H (by simp)
    ·rw [if_neg c3] at H
     exact absurd H (by simp)
   ·rw [if_neg c2] at H
    have c2b0 := decide_eq_false c2
    clear c2
    obtain rfl := Option.some.inj H
    go_wp2
    go_ret
    exact ⟨_, by first | rfl | (simp [errW_none, errW_some] <;> rfl) | (simp [*, errW_none, errW_some] <;> rfl), by (with_reducible repeat (first | apply Kd.R_alloc | apply Kd.R_drewN | apply Kd.R_drew)); exact HO_3.out, by repeat (first | (with_reducible first | exact HB.out | apply below_alloc | apply pw_below_drewN | apply below_drew1) | exact HB.out)⟩
def octet_low.l0 : Nat → Int → List Int → Int → Int → Option (Int)
 | 0, _, _, _, _ => none
 | k + 1, x3, x6, x7, x8 => if x8 < x7 then (if 0 ≤ x8 then (if x8 < (x6.length : Int) then (if 0 ≤ (wrap64 (8 * x8)) then (octet_low.l0 k (Go.bits .or .u64 x3 (shl .u64 (IntKind.u64.wrap (rd x6 x8)) (wrap64 (8 * x8)))) x6 x7 (wrap64 (x8 + 1))) else (none)) else (none)) else (none)) else (some x3)
def octet_low.f (k : Nat) (l0 : List Int) : Option (Int) := octet_low.l0 k 0 l0 (l0.length : Int) 0
set_option maxHeartbeats 8000000 in
set_option maxRecDepth 100000 in
theorem octet_low.calls (k : Nat) (A0 : Option Addr) (c0 : Nat) (l0 : List Int) (r : Int) (w : World) (hr0 : Kd.C (Kd.int .u8) w A0 l0.length l0) (hc0 : l0.length ≤ c0) (h : octet_low.f k l0 = some r) :
  Calls Try.prog 35 #[.slice A0 l0.length c0] w fun e w' => e = .returned (.int .u64 r) ∧ Drawn0 w w' := by
 have HR0 := Aside0.mk hr0
 have HC0 := Aside0.mk hc0
 clear hr0 hc0
 have H : (octet_low.l0 k 0 l0 (l0.length : Int) 0) = some r := h
 clear h
 have H' := Aside0.mk H
 clear H
 go_enter Try.func35, Try.ntmps35
 go_wp2
 go_loopg [3, 8] k (fun kq v3 v8 w' => ∃ (x3_1 : Int) (x8_1 : Int), v3 = .int .u64 x3_1 ∧ v8 = .int .i64 x8_1 ∧ Aside0 (octet_low.l0 kq x3_1 l0 (l0.length : Int) x8_1 = some r) ∧ Aside0 (kq ≤ k) ∧ Drawn0 w w')
 case atStart => exact ⟨(0), (0), (by first | rfl | (simp; done) | (simp [*]; done)), (by first | rfl | (simp; done) | (simp [*]; done)), H', ⟨Nat.le_refl _⟩, by repeat (first | exact Drawn0.refl _ | apply Drawn0.step)⟩
 case round =>
  clear H'
  obtain ⟨x3_1, x8_1, rfl, rfl, HA, HK1, ⟨m1, rfl⟩⟩ := hrel
  cases gk with
  | zero => exact absurd HA.out (by simp [octet_low.l0])
  | succ k1 =>
   have H := HA.out
   clear HA
   simp only [octet_low.l0] at H
   by_cases c2 : x8_1 < (l0.length : Int)
   ·rw [if_pos c2] at H
    have c2b0 := decide_eq_true c2
    clear c2
    by_cases c3 : 0 ≤ x8_1
    ·rw [if_pos c3] at H
     have c3b0 := decide_eq_true c3
     clear c3
     by_cases c4 : x8_1 < (l0.length : Int)
     ·rw [if_pos c4] at H
      have c4b0 := decide_eq_true c4
      clear c4
      obtain ⟨ji5, hji5⟩ : ∃ j_ : Int, (wrap64 (8 * x8_1)) = j_ := ⟨_, rfl⟩
      replace H : (if 0 ≤ (ji5) then (octet_low.l0 k1 (Go.bits .or .u64 x3_1 (shl .u64 (IntKind.u64.wrap (rd l0 x8_1)) (ji5))) l0 (l0.length : Int) (wrap64 (x8_1 + 1))) else (none)) = some r := by first | (rw [hji5] at H; exact H) | (simp only [hji5] at H ⊢; exact H)
      have hji5w : (IntKind.i64.wrap (8 * x8_1)) = ji5 := (i64_w _).trans hji5
      by_cases c6 : 0 ≤ (ji5)
      ·rw [if_pos c6] at H
       have c6b0 := eq_true c6
       have c6b1 := decide_eq_true c6
       clear c6
       obtain ⟨ji7, hji7⟩ : ∃ j_ : Int, (shl .u64 (IntKind.u64.wrap (rd l0 x8_1)) (ji5)) = j_ := ⟨_, rfl⟩
       replace H : (octet_low.l0 k1 (Go.bits .or .u64 x3_1 (ji7)) l0 (l0.length : Int) (wrap64 (x8_1 + 1))) = some r := by first | (rw [hji7] at H; exact H) | (simp only [hji7] at H ⊢; exact H)
       have hji7_ : (IntKind.u64.wrap ((IntKind.u64.wrap (rd l0 x8_1)) * 2 ^ min (ji5).toNat 64)) = ji7 := hji7
       have hji7z : (ji5) ≤ 64 → (IntKind.u64.wrap ((IntKind.u64.wrap (rd l0 x8_1)) * 2 ^ (ji5).toNat)) = ji7 := shl_small hji7
       have H' := Aside0.mk H
       clear H
       have p156 : 0 ≤ (x8_1 : Int) := of_decide_eq_true (by first | (with_reducible assumption) | assumption)
       have q156 : x8_1 < (l0.length : Int) := of_decide_eq_true (by first | (with_reducible assumption) | assumption)
       obtain ⟨ad156, e156, hx156_0⟩ := Kd.at_int HR0.out x8_1 p156 q156
       cases e156
       replace p156 := eq_true p156
       replace q156 := eq_true q156
       go_wp2
       go_roundg k1
       case measure => have := HK1.out; omega
       case rel => exact ⟨(Go.bits .or .u64 x3_1 (ji7)), (wrap64 (x8_1 + 1)), (by first | rfl | (simp; done) | (simp only [← hji7] <;> (first | rfl | simp)) | (simp [*]; done)), (by first | rfl | (simp; done) | (simp [*]; done)), H', ⟨by have := HK1.out; omega⟩, by repeat (first | exact Drawn0.refl _ | apply Drawn0.step)⟩
      ·rw [if_neg c6] at H
       exact absurd H (by simp)
     ·rw [if_neg c4] at H
      exact absurd H (by simp)
    ·rw [if_neg c3] at H
     exact absurd H (by simp)
   ·rw [if_neg c2] at H
    have c2b0 := decide_eq_false c2
    clear c2
    obtain rfl := Option.some.inj H
    go_wp2
    go_ret
    exact ⟨by first | rfl | (simp; done) | (simp [*]; done), by repeat (first | exact Drawn0.refl _ | apply Drawn0.step)⟩
def IsS62 (w0 W : World) (g : Nat) (f0 : List Int) : Prop := ∃ A0 c0, W.heap[g]? = some (.cells #[.slice A0 f0.length c0] 62 (0, 0)) ∧ w0.heap.size ≤ g ∧ Kd.C (Kd.int .u8) w0 A0 f0.length f0
theorem IsS62.grown {w0 W : World} {g : Nat} {f0 : List Int} {W1 : World} {row : Option Nat} (h : IsS62 w0 W g f0) (hw : W.grownBy W1 row) (hne : some g ≠ row) : IsS62 w0 W1 g f0 := by
 obtain ⟨A0, c0, hb, hg, hr0⟩ := h
 exact ⟨A0, c0, blk_grown hb hw hne, hg, hr0⟩
theorem IsS62.kept {w0 W : World} {g : Nat} {f0 : List Int} {W1 : World} {S : Nat → Prop} (h : IsS62 w0 W g f0) (hk : Kept W W1 S) (hne : ¬ S g) : IsS62 w0 W1 g f0 := by
 obtain ⟨A0, c0, hb, hg, hr0⟩ := h
 exact ⟨A0, c0, blk_kept hb hk hne, hg, hr0⟩
theorem IsS62.below {w0 W : World} {g : Nat} {f0 : List Int} {W1 : World} (h : IsS62 w0 W g f0) (hw : Below W.heap.size W W1) : IsS62 w0 W1 g f0 := h.grown (grown_of_below hw none) (by simp)
theorem IsS62.alloc {w0 W : World} {g : Nat} {f0 : List Int} (h : IsS62 w0 W g f0) (o : Obj) : IsS62 w0 (W.alloc o) g f0 := h.below (below_alloc (Below.refl _ _) o)
theorem IsS62.drewN {w0 W : World} {g : Nat} {f0 : List Int} (h : IsS62 w0 W g f0) (m : Nat) : IsS62 w0 (W.drewN m) g f0 := h
theorem IsS62.drew {w0 W : World} {g : Nat} {f0 : List Int} (h : IsS62 w0 W g f0) : IsS62 w0 W.drew g f0 := h
theorem IsS62.at_ {w0 W : World} {g : Nat} {f0 : List Int} {w' : World} {m : Nat} (hq : W.drewN m = w') (h : IsS62 w0 W g f0) : IsS62 w0 w' g f0 := by subst hq; exact IsS62.drewN h m
theorem IsS62.apart {w0 W : World} {g : Nat} {f0 : List Int} {α : Type} {d : Kd α} {e : Nat} {base : Nat} {ok : Nat → Prop} {v : Value} {xs : List α} (h : IsS62 w0 W g f0) (ho : d.R e W base ok v xs) (ht : ∀ q, q ∈ e :: d.E → q ≠ 62) : d.R e W base (fun k => ok k ∧ k ≠ g) v xs := by
 obtain ⟨A0, c0, hb, hg, hr0⟩ := h
 exact Kd.R_types ho hb ht
theorem IsS62.own_ne {w0 W : World} {g : Nat} {f0 : List Int} {α : Type} {d : Kd α} {e : Nat} {base : Nat} {ok : Nat → Prop} {v : Value} {xs : List α} (h : IsS62 w0 W g f0) (ho : d.R e W base ok v xs) (ht : e ≠ 62) : some g ≠ v.ownBlock := by
 obtain ⟨A0, c0, hb, hg, hr0⟩ := h
 exact Kd.R_ne ho hb ht
theorem IsS62.lt {w0 W : World} {g : Nat} {f0 : List Int} (h : IsS62 w0 W g f0) : g < W.heap.size := by
 obtain ⟨A0, c0, hb, hg, hr0⟩ := h
 exact blk_lt hb
def IsS44 (w0 W : World) (g : Nat) (f0 : List Int) : Prop := ∃ A0 c0, W.heap[g]? = some (.cells #[.slice A0 f0.length c0] 44 (0, 0)) ∧ w0.heap.size ≤ g ∧ Kd.C (Kd.int .u8) w0 A0 f0.length f0
theorem IsS44.grown {w0 W : World} {g : Nat} {f0 : List Int} {W1 : World} {row : Option Nat} (h : IsS44 w0 W g f0) (hw : W.grownBy W1 row) (hne : some g ≠ row) : IsS44 w0 W1 g f0 := by
 obtain ⟨A0, c0, hb, hg, hr0⟩ := h
 exact ⟨A0, c0, blk_grown hb hw hne, hg, hr0⟩
theorem IsS44.kept {w0 W : World} {g : Nat} {f0 : List Int} {W1 : World} {S : Nat → Prop} (h : IsS44 w0 W g f0) (hk : Kept W W1 S) (hne : ¬ S g) : IsS44 w0 W1 g f0 := by
 obtain ⟨A0, c0, hb, hg, hr0⟩ := h
 exact ⟨A0, c0, blk_kept hb hk hne, hg, hr0⟩
theorem IsS44.below {w0 W : World} {g : Nat} {f0 : List Int} {W1 : World} (h : IsS44 w0 W g f0) (hw : Below W.heap.size W W1) : IsS44 w0 W1 g f0 := h.grown (grown_of_below hw none) (by simp)
theorem IsS44.alloc {w0 W : World} {g : Nat} {f0 : List Int} (h : IsS44 w0 W g f0) (o : Obj) : IsS44 w0 (W.alloc o) g f0 := h.below (below_alloc (Below.refl _ _) o)
theorem IsS44.drewN {w0 W : World} {g : Nat} {f0 : List Int} (h : IsS44 w0 W g f0) (m : Nat) : IsS44 w0 (W.drewN m) g f0 := h
theorem IsS44.drew {w0 W : World} {g : Nat} {f0 : List Int} (h : IsS44 w0 W g f0) : IsS44 w0 W.drew g f0 := h
theorem IsS44.at_ {w0 W : World} {g : Nat} {f0 : List Int} {w' : World} {m : Nat} (hq : W.drewN m = w') (h : IsS44 w0 W g f0) : IsS44 w0 w' g f0 := by subst hq; exact IsS44.drewN h m
theorem IsS44.apart {w0 W : World} {g : Nat} {f0 : List Int} {α : Type} {d : Kd α} {e : Nat} {base : Nat} {ok : Nat → Prop} {v : Value} {xs : List α} (h : IsS44 w0 W g f0) (ho : d.R e W base ok v xs) (ht : ∀ q, q ∈ e :: d.E → q ≠ 44) : d.R e W base (fun k => ok k ∧ k ≠ g) v xs := by
 obtain ⟨A0, c0, hb, hg, hr0⟩ := h
 exact Kd.R_types ho hb ht
theorem IsS44.own_ne {w0 W : World} {g : Nat} {f0 : List Int} {α : Type} {d : Kd α} {e : Nat} {base : Nat} {ok : Nat → Prop} {v : Value} {xs : List α} (h : IsS44 w0 W g f0) (ho : d.R e W base ok v xs) (ht : e ≠ 44) : some g ≠ v.ownBlock := by
 obtain ⟨A0, c0, hb, hg, hr0⟩ := h
 exact Kd.R_ne ho hb ht
theorem IsS44.lt {w0 W : World} {g : Nat} {f0 : List Int} (h : IsS44 w0 W g f0) : g < W.heap.size := by
 obtain ⟨A0, c0, hb, hg, hr0⟩ := h
 exact blk_lt hb
end Go.Proofs.Ytdfkaclflmgkeaa.PAll
namespace Go.Proofs.Ytdfkaclflmgkeaa.PAll
open Go.RowKit Go.Proofs.YtdfkaclflmgkeaaW.PrintWords Go.Proofs.YtdfkaclflmgkeaaW.PrintLast Go.Proofs.YtdfkaclflmgkeaaW.PrintMore
abbrev OB (w : World) (v : Value) (xs : List Int) : Prop := w.ownsRow 0 5 1 v xs.length (nums .u8 xs)
abbrev CB (w : World) (A : Option Addr) (xs : List Int) : Prop := Kd.C (Kd.int .u8) w A xs.length xs
theorem reps_nums {M : Int → List Value → Prop} (hM : ∀ x, M x [.int .u8 x]) : ∀ xs : List Int, Reps M 1 xs (nums .u8 xs)
 | [] => Reps.none _ _
 | x :: xs => Reps.one (hM x) (reps_nums hM xs)
theorem OB.of_R {w : World} {base : Nat} {ok : Nat → Prop} {v : Value} {xs : List Int} (h : Kd.R (Kd.int .u8) 5 w base ok v xs) : OB w v xs ∧ ∀ k, v.ownBlock = some k → base ≤ k := by
 obtain ⟨_, inner, ho, hr⟩ := h
 have e1 : inner = nums .u8 xs := by
  apply List.ext_getElem?
  intro j
  have hl := hr.1
  rw [show (Kd.int .u8).sz = 1 from rfl, Nat.mul_one] at hl
  by_cases hj : j < xs.length
  ·have := hr.2 j xs[j] (List.getElem?_eq_getElem hj)
   rw [show (Kd.int .u8).sz = 1 from rfl, Nat.mul_one] at this
   have this : (inner.drop j).take 1 = [Value.int .u8 xs[j]] := this
   have h2 : inner[j]? = some (Value.int .u8 xs[j]) := by
    have := congrArg (fun l => l[0]?) this
    simpa using this
   rw [h2]; simp [nums, hj]
  ·rw [List.getElem?_eq_none (by omega), List.getElem?_eq_none (by simp [nums]; omega)]
 rw [e1] at ho
 exact ⟨own_weaken ho (Nat.zero_le _), own_base ho⟩
theorem OB.to_R {w : World} {base : Nat} {v : Value} {xs : List Int} (h : w.ownsRow base 5 1 v xs.length (nums .u8 xs)) : Kd.R (Kd.int .u8) 5 w base (fun _ => True) v xs :=
 ⟨fun _ _ => trivial, nums .u8 xs, h, reps_nums (M := (Kd.int .u8).M w base (fun k' => True ∧ some k' ≠ v.ownBlock)) (fun _ => rfl) xs⟩
theorem OB.reads {w : World} {v : Value} {xs : List Int} (h : OB w v xs) : ∃ A c, v = .slice A xs.length c ∧ xs.length ≤ c ∧ CB w A xs := Kd.R_reads (OB.to_R h)
theorem OB.below {w w1 : World} {v : Value} {xs : List Int} (h : OB w v xs) (hb : Below w.heap.size w w1) : OB w1 v xs := own_move h fun k hk => hb.block k (own_lt h k hk)
theorem CB.reads {w : World} {A : Option Addr} {xs : List Int} (h : CB w A xs) : ReadsInt w .u8 A xs.length xs := by
 refine ⟨rfl, h.2.1, fun h0 => ?_⟩
 obtain ⟨ad, e, hc⟩ := h.2.2 h0
 refine ⟨ad, e, fun j hj => ?_⟩
 obtain ⟨c, _, hcs, hcc⟩ := hc j _ (List.getElem?_eq_getElem hj)
 have hcs' : c = [.int .u8 xs[j]] := hcs
 subst hcs'
 have := hcc 0 (.int .u8 xs[j]) rfl
 rw [show j * (Kd.int .u8).sz + 0 = j from by show j * 1 + 0 = j; omega] at this
 rw [this]
 simp [List.getD_eq_getElem?_getD, List.getElem?_eq_getElem hj]
theorem info8 : (Try.prog.info? 5).map (fun i => (i.zero, i.size, i.bytes)) = some (some (.int .u8 0), 1, 1) := by kernel_rfl
def marks (n : Nat) : List Int := (List.range n).map fun q : Nat => ((q : Int) % 256)
theorem marks_succ (n : Nat) : marks (n + 1) = marks n ++ [((n : Int) % 256)] := by unfold marks; rw [List.range_succ, List.map_append]; rfl
theorem marks_length (n : Nat) : (marks n).length = n := by unfold marks; simp
set_option maxHeartbeats 1000000 in
theorem clone_calls (A0 : Option Addr) (c0 : Nat) (b : List Int) (w : World) (hr0 : CB w A0 b) (hc0 : b.length ≤ c0) (hb : b.length ≤ 4294967296) :
  Calls Try.prog 28 #[.slice A0 b.length c0] w fun e w' => ∃ v, e = .returned v ∧ OB w' v b ∧ (∀ k, v.ownBlock = some k → w.heap.size ≤ k) ∧ Below w.heap.size w w' := by
 have HR := Aside0.mk hr0.reads
 cases A0 with
 | none =>
  have h0 : b.length = 0 := by
   rcases Nat.eq_zero_or_pos b.length with h | h
   ·exact h
   ·obtain ⟨ad, e, _⟩ := hr0.2.2 h; cases e
  obtain rfl := List.eq_nil_of_length_eq_zero h0
  have HB := Aside0.mk (Below.refl w.heap.size w)
  have hk := fun W => Lib.run_eql_slice_nil (P := Try.prog) W 22 5 none 0 c0 0 0 Try.underlying22
  clear hr0
  go_enter Try.func28, Try.ntmps28
  go_wp2
  go_ret
  exact ⟨_, rfl, World.ownsRow_nil _ _ _ _, fun k hk => by simp [Value.ownBlock] at hk, HB.out⟩
 | some ad =>
  have HB := Aside0.mk (Below.refl w.heap.size w)
  have hk := fun W => Lib.run_eql_slice_nil (P := Try.prog) W 22 5 (some ad) b.length c0 0 0 Try.underlying22
  clear hr0
  go_enter Try.func28, Try.ntmps28
  go_wp2_with (at_builtin; refine print_append_row (w0 := w) w.heap.size rfl (.tmp 5) (.tmp 6) 22 5 .u8 1 rfl Try.underlying22 info8 (by decide) _ [] b (some ad) b.length c0 rfl rfl ?aO ?aR ?aB ?aS ?aL ?_; (case aO => exact own_lit _ _ _ _ _ (Nat.le_refl _) (by decide)); (case aR => exact HR.out.below (below_alloc HB.out _)); (case aB => exact below_alloc HB.out _); (case aS => simp); (case aL => simp; omega); intro v1 w1 ho hb1 _ _)
  go_ret
  exact ⟨_, rfl, own_weaken ho (Nat.zero_le _), own_base ho, hb1⟩
set_option maxRecDepth 100000 in
set_option maxHeartbeats 2000000 in
theorem lent_calls (A0 : Option Addr) (c0 : Nat) (b : List Int) (w : World) (hr0 : CB w A0 b) (hb : b.length ≤ 1073741824) :
  Calls Try.prog 8 #[.slice A0 b.length c0] w fun e w' => ∃ g cap, e = .returned (.slice (some ⟨g, 0, none⟩) b.length cap) ∧ OB w' (.slice (some ⟨g, 0, none⟩) (b.length + 300) cap) (b ++ marks 300) ∧ w.heap.size ≤ g ∧ Below w.heap.size w w' := by
 have HR := Aside0.mk hr0.reads
 have HB := Aside0.mk (Below.refl w.heap.size w)
 clear hr0
 go_enter Try.func8, Try.ntmps8
 go_wp2_with (at_builtin; refine print_append_row (w0 := w) w.heap.size rfl (.tmp 5) (.tmp 6) 22 5 .u8 1 rfl Try.underlying22 info8 (by decide) _ [] b A0 b.length c0 rfl rfl (own_nil _ _ _ _) HR.out HB.out (Nat.le_refl _) (by simp; omega) ?_; intro v1 w1 ho hb1 _ _; have O1 := Aside0.mk ho; have B1 := Aside0.mk hb1; clear ho hb1 HB)
 go_loopg [3, 4] 300 (fun gg s3 s4 wr => ∃ i : Nat, i ≤ 300 ∧ 300 - i ≤ gg ∧ s4 = .int .i64 i ∧ Aside0 (wr.ownsRow w.heap.size 5 1 s3 (b ++ marks i).length (nums .u8 (b ++ marks i))) ∧ Aside0 (Below w.heap.size w wr))
 case atStart => exact ⟨0, by omega, by omega, rfl, ⟨by have := O1.out; simpa [marks] using this⟩, B1⟩
 case round =>
  obtain ⟨i, hi, hg, rfl, O1, B1⟩ := hrel
  by_cases hlt : i < 300
  ·have hltz : (i : Int) < 300 := by omega
   go_wp2_with (at_builtin; refine print_append_num (w0 := w) w.heap.size rfl (.tmp 12) (.tmp 15) 22 5 .u8 1 rfl Try.underlying22 info8 (by decide) u3 (b ++ marks i) ((i : Int) % 256) rfl rfl O1.out B1.out B1.out.size (by rw [List.length_append, marks_length]; omega) ?_; intro v5 w5 ho5 hb5 _ _)
   go_roundg (300 - (i + 1))
   case measure => omega
   case rel => exact ⟨i + 1, by omega, by omega, by go_num, ⟨by rw [marks_succ, ← List.append_assoc]; exact ho5⟩, ⟨hb5⟩⟩
  ·have hltz : ¬ (i : Int) < 300 := by omega
   obtain rfl : i = 300 := by omega
   have hlen : (b ++ marks 300).length = b.length + 300 := by rw [List.length_append, marks_length]
   have O2 := O1.out
   rw [hlen] at O2
   obtain ⟨g, cap, rfl, hgb, _⟩ := World.ownsRow.form O2 (by omega)
   have hcap := own_le O2
   have OO := Aside0.mk O2
   clear O1 O2 hlen
   obtain ⟨i0, hi0, _, hsz0, _⟩ := info_parts info8
   have hcut := cut_to (P := Try.prog) 22 5 .i64 Try.underlying22 hi0 (some ⟨g, 0, none⟩) (b.length + 300) cap (b.length : Int) (by omega) (by omega) hcap
   rw [Int.toNat_natCast] at hcut
   clear hi0 hsz0
   go_wp2
   go_ret
   exact ⟨g, cap, rfl, by show World.ownsRow _ _ _ _ _ _ _; rw [List.length_append, marks_length]; exact own_weaken OO.out (Nat.zero_le _), hgb, B1.out⟩
theorem OB.at_ {w : World} {g n c : Nat} {xs : List Int} (h : OB w (.slice (some ⟨g, 0, none⟩) n c) xs) (j : Nat) (hj : j < xs.length) : w.cell? ⟨g, j, none⟩ = some (.int .u8 (xs.getD j 0)) ∧ w.frozen? ⟨g, j, none⟩ = false := by
 obtain ⟨g', cap, he, _⟩ := World.ownsRow.form h (by omega)
 have hn : n = xs.length := by injection he
 subst hn
 have := own_at h (j : Int) (by omega) (by omega)
 rw [Int.toNat_natCast] at this
 exact ⟨by rw [this.1]; simp [rd], this.2⟩
theorem marks_get (b : List Int) (i : Nat) (hi : i < 300) : (b ++ marks 300).getD (b.length + i) 0 = ((i : Int) % 256) := by
 rw [List.getD_eq_getElem?_getD, List.getElem?_append_right (by omega), Nat.add_sub_cancel_left]
 simp [marks, hi]
theorem CB.of_long {w : World} {g n cap : Nat} {b t : List Int} (h : OB w (.slice (some ⟨g, 0, none⟩) n cap) (b ++ t)) (hp : 0 < t.length) : CB w (some ⟨g, 0, none⟩) b ∧ b.length ≤ cap ∧ n = b.length + t.length ∧ n ≤ cap := by
 obtain ⟨g', cap', he, _⟩ := World.ownsRow.form h (by simp; omega)
 have hn : n = (b ++ t).length := by injection he
 obtain ⟨A, c, e2, hl, hr⟩ := OB.reads h
 injection e2 with e3 e4 e5
 subst e3; subst e5
 have hlen : (b ++ t).length = b.length + t.length := List.length_append
 have := Kd.C_take (m := b.length) hr (by omega)
 rw [List.take_left] at this
 exact ⟨this, by omega, by omega, by omega⟩
theorem cut_over {P : Program} (t e : TypeId) (kh : IntKind) {i : TypeInfo} (ht : P.underlying t = some (.slice e)) (hi : P.info? e = some i) (A : Option Addr) (n c : Nat) (j : Int) (h0 : 0 ≤ j) (hm : j ≤ c) :
  ∀ W : World, (Instr.slice t (.slice A n c) none (some (.int kh j)) none).run P W = .ok (.slice A j.toNat c) W := by
 intro W
 have hel : P.elem t = e := by simp [Program.elem, ht]
 have hu : P.underlying t = some (.slice (P.elem t)) := by rw [hel]; exact ht
 have ha : (A.map fun x => x.add 0) = A := by cases A <;> simp [Addr.add]
 rw [run_slice_h W t A n c hu kh j h0 hm, hel]
 simp [sizeOf, typeInfo, hi, sliced, Result.andThen, ha]
set_option maxRecDepth 100000 in
set_option maxHeartbeats 2000000 in
theorem kept_calls (g cap : Nat) (A1 : Option Addr) (c1 : Nat) (b : List Int) (w : World) (h : OB w (.slice (some ⟨g, 0, none⟩) (b.length + 300) cap) (b ++ marks 300)) (hr1 : CB w A1 b) (hc1 : b.length ≤ c1) (hb : b.length ≤ 1073741824) :
  Calls Try.prog 19 #[.slice (some ⟨g, 0, none⟩) b.length cap, .slice A1 b.length c1] w fun e w' => e = .returned (.bool true) ∧ Drawn0 w w' := by
 have H := Aside0.mk h
 obtain ⟨hc, hcap, _, hcap2⟩ := CB.of_long h (by decide)
 rw [marks_length] at *
 have HC := Aside0.mk hc
 have H1 := Aside0.mk hr1
 clear h hc hr1
 have hk : ∀ W, (Instr.slice 22 (.slice (some ⟨g, 0, none⟩) b.length cap) none (some (.int .i64 ((b.length : Int) + 300))) none).run Try.prog W = .ok (.slice (some ⟨g, 0, none⟩) (b.length + 300) cap) W := by
  obtain ⟨i0, hi0, _, _, _⟩ := info_parts info8
  have := cut_over (P := Try.prog) 22 5 .i64 Try.underlying22 hi0 (some ⟨g, 0, none⟩) b.length cap ((b.length : Int) + 300) (by omega) (by omega)
  rwa [show ((b.length : Int) + 300).toNat = b.length + 300 by omega] at this
 go_enter Try.func19, Try.ntmps19
 go_wp2_with fail
 refine (copselaw01_same.calls _ _ b _ _ b true _ HC.out hcap H1.out hc1 ?sm).mono ?_
 case sm => unfold copselaw01_same.f; simp
 rintro e w1 ⟨rfl, ⟨⟨q1, rfl⟩⟩⟩
 go_wp2
 go_loopg [6] 300 (fun gg s6 wr => ∃ i : Nat, i ≤ 300 ∧ 300 - i ≤ gg ∧ s6 = .int .i64 i ∧ Drawn0 w wr)
 case atStart => exact ⟨0, by omega, by omega, rfl, ⟨_, rfl⟩⟩
 case round =>
  obtain ⟨i, hi, hg, rfl, ⟨m, rfl⟩⟩ := hrel
  by_cases hlt : i < 300
  ·have hltz : (i : Int) < 300 := by omega
   have hc := (H.out.at_ (b.length + i) (by rw [List.length_append, marks_length]; omega)).1
   rw [marks_get b i hlt] at hc
   have ht : ((b.length : Int) + (i : Int)).toNat = b.length + i := by omega
   go_wp2
   go_roundg (300 - (i + 1))
   case measure => omega
   case rel => exact ⟨i + 1, by omega, by omega, by go_num, ⟨_, rfl⟩⟩
  ·have hltz : ¬ (i : Int) < 300 := by omega
   go_wp2
   go_ret
   exact ⟨rfl, ⟨_, rfl⟩⟩
end Go.Proofs.Ytdfkaclflmgkeaa.PAll
namespace Go.Proofs.Ytdfkaclflmgkeaa.PAll
open Go.RowKit Go.Proofs.YtdfkaclflmgkeaaW.PrintWords Go.Proofs.YtdfkaclflmgkeaaW.PrintLast Go.Proofs.YtdfkaclflmgkeaaW.PrintMore
def sh : Nat → Int → Int
 | 0, v => v
 | j + 1, v => sh j v / 256
theorem sh_bd {v : Int} (h0 : 0 ≤ v) (h1 : v ≤ 18446744073709551615) : ∀ j, 0 ≤ sh j v ∧ sh j v ≤ 18446744073709551615
 | 0 => ⟨h0, h1⟩
 | j + 1 => by have := sh_bd h0 h1 j; unfold sh; omega
def le (n : Nat) (v : Int) : List Int := (List.range n).map fun q => sh q v % 256
theorem le_succ (n : Nat) (v : Int) : le (n + 1) v = le n v ++ [sh n v % 256] := by unfold le; rw [List.range_succ, List.map_append]; rfl
theorem le_length (n : Nat) (v : Int) : (le n v).length = n := by unfold le; simp
theorem own_raise {w : World} {b b' : Nat} {e : TypeId} {size n : Nat} {v : Value} {xs : List Value} (h : w.ownsRow b e size v n xs) (hk : ∀ k, v.ownBlock = some k → b' ≤ k) : w.ownsRow b' e size v n xs := by
 obtain ⟨h1, h2⟩ := h
 refine ⟨h1, ?_⟩
 rcases h2 with h2 | ⟨g, cap, cur, rfl, hg, r⟩
 ·exact .inl h2
 ·exact .inr ⟨g, cap, cur, rfl, hk g rfl, r⟩
set_option maxRecDepth 100000 in
set_option maxHeartbeats 4000000 in
theorem put8_calls (A0 : Option Addr) (c0 : Nat) (b : List Int) (v : Int) (w : World) (hr0 : CB w A0 b) (hc0 : b.length ≤ c0) (hb : b.length ≤ 1073741824) (hv0 : 0 ≤ v) (hv2 : v ≤ 255) :
  Calls Try.prog 11 #[.slice A0 b.length c0, .int .u8 v] w fun e w' => ∃ r, e = .returned r ∧ OB w' r (b ++ le 1 v) ∧ (∀ k, r.ownBlock = some k → w.heap.size ≤ k) ∧ Below w.heap.size w w' := by
 have hv1 : v ≤ 18446744073709551615 := by omega
 have hxor : bits BinOp.xor IntKind.u8 IntKind.u8.max 0 = 255 := by kernel_rfl
 have hwr : IntKind.u64.wrap 255 = 255 := by kernel_rfl
 go_enter Try.func11, Try.ntmps11
 go_wp2_with fail
 refine (clone_calls A0 c0 b w hr0 hc0 (by omega)).mono ?_
 rintro e w1 ⟨v1, rfl, ho, hk, hb1⟩
 have O1 : Aside0 (w1.ownsRow w.heap.size 5 1 v1 (b ++ le 0 v).length (nums .u8 (b ++ le 0 v))) := ⟨by
  rw [show b ++ le 0 v = b by simp [le]]; exact own_raise ho hk⟩
 have B1 := Aside0.mk hb1
 clear ho hk hb1 hr0
 clear hv2
 go_wp2
 go_loopg [5, 6, 7] 1 (fun gg s5 s6 s7 wr => ∃ j : Nat, j ≤ 1 ∧ 1 - j ≤ gg ∧ s6 = .int .u64 (sh j v) ∧ s7 = .int .u64 ((fun j : Nat => if j = 0 then (255 : Int) else 0) j) ∧ Aside0 (wr.ownsRow w.heap.size 5 1 s5 (b ++ le j v).length (nums .u8 (b ++ le j v))) ∧ Aside0 (Below w.heap.size w wr))
 case atStart => exact ⟨0, by omega, by omega, rfl, rfl, O1, B1⟩
 case round =>
  obtain ⟨j, hj, hg, rfl, rfl, O1, B1⟩ := hrel
  obtain rfl | rfl : j = 0 ∨ j = 1 := by omega
  ·obtain ⟨x, X⟩ : ∃ x, Aside0 (x = sh 0 v) := ⟨_, ⟨rfl⟩⟩
   have hx : 0 ≤ x ∧ x ≤ 18446744073709551615 := X.out ▸ sh_bd hv0 hv1 0
   obtain ⟨hx0, hx1⟩ := hx
   rw [← X.out]
   go_wp2_with (at_builtin; refine print_append_num (w0 := w) w.heap.size rfl (.tmp 21) (.tmp 24) 22 5 .u8 1 rfl Try.underlying22 info8 (by decide) u5 (b ++ le 0 v) (x % 256) rfl rfl O1.out B1.out B1.out.size (by rw [List.length_append, le_length]; omega) ?_; intro v5 w5 ho5 hb5 _ _)
   go_roundg 0
   case measure => omega
   case rel => exact ⟨1, by omega, by omega, by rw [X.out]; rfl, rfl, ⟨by rw [le_succ, ← List.append_assoc, ← X.out]; exact ho5⟩, ⟨hb5⟩⟩
  ·go_wp2
   go_ret
   exact ⟨_, rfl, own_weaken O1.out (Nat.zero_le _), own_base O1.out, B1.out⟩
set_option maxRecDepth 100000 in
set_option maxHeartbeats 4000000 in
theorem put16_calls (A0 : Option Addr) (c0 : Nat) (b : List Int) (v : Int) (w : World) (hr0 : CB w A0 b) (hc0 : b.length ≤ c0) (hb : b.length ≤ 1073741824) (hv0 : 0 ≤ v) (hv2 : v ≤ 65535) :
  Calls Try.prog 13 #[.slice A0 b.length c0, .int .u16 v] w fun e w' => ∃ r, e = .returned r ∧ OB w' r (b ++ le 2 v) ∧ (∀ k, r.ownBlock = some k → w.heap.size ≤ k) ∧ Below w.heap.size w w' := by
 have hv1 : v ≤ 18446744073709551615 := by omega
 have hxor : bits BinOp.xor IntKind.u16 IntKind.u16.max 0 = 65535 := by kernel_rfl
 have hwr : IntKind.u64.wrap 65535 = 65535 := by kernel_rfl
 go_enter Try.func13, Try.ntmps13
 go_wp2_with fail
 refine (clone_calls A0 c0 b w hr0 hc0 (by omega)).mono ?_
 rintro e w1 ⟨v1, rfl, ho, hk, hb1⟩
 have O1 : Aside0 (w1.ownsRow w.heap.size 5 1 v1 (b ++ le 0 v).length (nums .u8 (b ++ le 0 v))) := ⟨by
  rw [show b ++ le 0 v = b by simp [le]]; exact own_raise ho hk⟩
 have B1 := Aside0.mk hb1
 clear ho hk hb1 hr0
 clear hv2
 go_wp2
 go_loopg [5, 6, 7] 2 (fun gg s5 s6 s7 wr => ∃ j : Nat, j ≤ 2 ∧ 2 - j ≤ gg ∧ s6 = .int .u64 (sh j v) ∧ s7 = .int .u64 ((fun j : Nat => if j = 0 then (65535 : Int) else if j = 1 then (255 : Int) else 0) j) ∧ Aside0 (wr.ownsRow w.heap.size 5 1 s5 (b ++ le j v).length (nums .u8 (b ++ le j v))) ∧ Aside0 (Below w.heap.size w wr))
 case atStart => exact ⟨0, by omega, by omega, rfl, rfl, O1, B1⟩
 case round =>
  obtain ⟨j, hj, hg, rfl, rfl, O1, B1⟩ := hrel
  obtain rfl | rfl | rfl : j = 0 ∨ j = 1 ∨ j = 2 := by omega
  ·obtain ⟨x, X⟩ : ∃ x, Aside0 (x = sh 0 v) := ⟨_, ⟨rfl⟩⟩
   have hx : 0 ≤ x ∧ x ≤ 18446744073709551615 := X.out ▸ sh_bd hv0 hv1 0
   obtain ⟨hx0, hx1⟩ := hx
   rw [← X.out]
   go_wp2_with (at_builtin; refine print_append_num (w0 := w) w.heap.size rfl (.tmp 21) (.tmp 24) 22 5 .u8 1 rfl Try.underlying22 info8 (by decide) u5 (b ++ le 0 v) (x % 256) rfl rfl O1.out B1.out B1.out.size (by rw [List.length_append, le_length]; omega) ?_; intro v5 w5 ho5 hb5 _ _)
   go_roundg 1
   case measure => omega
   case rel => exact ⟨1, by omega, by omega, by rw [X.out]; rfl, rfl, ⟨by rw [le_succ, ← List.append_assoc, ← X.out]; exact ho5⟩, ⟨hb5⟩⟩
  ·obtain ⟨x, X⟩ : ∃ x, Aside0 (x = sh 1 v) := ⟨_, ⟨rfl⟩⟩
   have hx : 0 ≤ x ∧ x ≤ 18446744073709551615 := X.out ▸ sh_bd hv0 hv1 1
   obtain ⟨hx0, hx1⟩ := hx
   rw [← X.out]
   go_wp2_with (at_builtin; refine print_append_num (w0 := w) w.heap.size rfl (.tmp 21) (.tmp 24) 22 5 .u8 1 rfl Try.underlying22 info8 (by decide) u5 (b ++ le 1 v) (x % 256) rfl rfl O1.out B1.out B1.out.size (by rw [List.length_append, le_length]; omega) ?_; intro v5 w5 ho5 hb5 _ _)
   go_roundg 0
   case measure => omega
   case rel => exact ⟨2, by omega, by omega, by rw [X.out]; rfl, rfl, ⟨by rw [le_succ, ← List.append_assoc, ← X.out]; exact ho5⟩, ⟨hb5⟩⟩
  ·go_wp2
   go_ret
   exact ⟨_, rfl, own_weaken O1.out (Nat.zero_le _), own_base O1.out, B1.out⟩
set_option maxRecDepth 100000 in
set_option maxHeartbeats 4000000 in
theorem put32_calls (A0 : Option Addr) (c0 : Nat) (b : List Int) (v : Int) (w : World) (hr0 : CB w A0 b) (hc0 : b.length ≤ c0) (hb : b.length ≤ 1073741824) (hv0 : 0 ≤ v) (hv2 : v ≤ 4294967295) :
  Calls Try.prog 14 #[.slice A0 b.length c0, .int .u32 v] w fun e w' => ∃ r, e = .returned r ∧ OB w' r (b ++ le 4 v) ∧ (∀ k, r.ownBlock = some k → w.heap.size ≤ k) ∧ Below w.heap.size w w' := by
 have hv1 : v ≤ 18446744073709551615 := by omega
 have hxor : bits BinOp.xor IntKind.u32 IntKind.u32.max 0 = 4294967295 := by kernel_rfl
 have hwr : IntKind.u64.wrap 4294967295 = 4294967295 := by kernel_rfl
 go_enter Try.func14, Try.ntmps14
 go_wp2_with fail
 refine (clone_calls A0 c0 b w hr0 hc0 (by omega)).mono ?_
 rintro e w1 ⟨v1, rfl, ho, hk, hb1⟩
 have O1 : Aside0 (w1.ownsRow w.heap.size 5 1 v1 (b ++ le 0 v).length (nums .u8 (b ++ le 0 v))) := ⟨by
  rw [show b ++ le 0 v = b by simp [le]]; exact own_raise ho hk⟩
 have B1 := Aside0.mk hb1
 clear ho hk hb1 hr0
 clear hv2
 go_wp2
 go_loopg [5, 6, 7] 4 (fun gg s5 s6 s7 wr => ∃ j : Nat, j ≤ 4 ∧ 4 - j ≤ gg ∧ s6 = .int .u64 (sh j v) ∧ s7 = .int .u64 ((fun j : Nat => if j = 0 then (4294967295 : Int) else if j = 1 then (16777215 : Int) else if j = 2 then (65535 : Int) else if j = 3 then (255 : Int) else 0) j) ∧ Aside0 (wr.ownsRow w.heap.size 5 1 s5 (b ++ le j v).length (nums .u8 (b ++ le j v))) ∧ Aside0 (Below w.heap.size w wr))
 case atStart => exact ⟨0, by omega, by omega, rfl, rfl, O1, B1⟩
 case round =>
  obtain ⟨j, hj, hg, rfl, rfl, O1, B1⟩ := hrel
  obtain rfl | rfl | rfl | rfl | rfl : j = 0 ∨ j = 1 ∨ j = 2 ∨ j = 3 ∨ j = 4 := by omega
  ·obtain ⟨x, X⟩ : ∃ x, Aside0 (x = sh 0 v) := ⟨_, ⟨rfl⟩⟩
   have hx : 0 ≤ x ∧ x ≤ 18446744073709551615 := X.out ▸ sh_bd hv0 hv1 0
   obtain ⟨hx0, hx1⟩ := hx
   rw [← X.out]
   go_wp2_with (at_builtin; refine print_append_num (w0 := w) w.heap.size rfl (.tmp 21) (.tmp 24) 22 5 .u8 1 rfl Try.underlying22 info8 (by decide) u5 (b ++ le 0 v) (x % 256) rfl rfl O1.out B1.out B1.out.size (by rw [List.length_append, le_length]; omega) ?_; intro v5 w5 ho5 hb5 _ _)
   go_roundg 3
   case measure => omega
   case rel => exact ⟨1, by omega, by omega, by rw [X.out]; rfl, rfl, ⟨by rw [le_succ, ← List.append_assoc, ← X.out]; exact ho5⟩, ⟨hb5⟩⟩
  ·obtain ⟨x, X⟩ : ∃ x, Aside0 (x = sh 1 v) := ⟨_, ⟨rfl⟩⟩
   have hx : 0 ≤ x ∧ x ≤ 18446744073709551615 := X.out ▸ sh_bd hv0 hv1 1
   obtain ⟨hx0, hx1⟩ := hx
   rw [← X.out]
   go_wp2_with (at_builtin; refine print_append_num (w0 := w) w.heap.size rfl (.tmp 21) (.tmp 24) 22 5 .u8 1 rfl Try.underlying22 info8 (by decide) u5 (b ++ le 1 v) (x % 256) rfl rfl O1.out B1.out B1.out.size (by rw [List.length_append, le_length]; omega) ?_; intro v5 w5 ho5 hb5 _ _)
   go_roundg 2
   case measure => omega
   case rel => exact ⟨2, by omega, by omega, by rw [X.out]; rfl, rfl, ⟨by rw [le_succ, ← List.append_assoc, ← X.out]; exact ho5⟩, ⟨hb5⟩⟩
  ·obtain ⟨x, X⟩ : ∃ x, Aside0 (x = sh 2 v) := ⟨_, ⟨rfl⟩⟩
   have hx : 0 ≤ x ∧ x ≤ 18446744073709551615 := X.out ▸ sh_bd hv0 hv1 2
   obtain ⟨hx0, hx1⟩ := hx
   rw [← X.out]
   go_wp2_with (at_builtin; refine print_append_num (w0 := w) w.heap.size rfl (.tmp 21) (.tmp 24) 22 5 .u8 1 rfl Try.underlying22 info8 (by decide) u5 (b ++ le 2 v) (x % 256) rfl rfl O1.out B1.out B1.out.size (by rw [List.length_append, le_length]; omega) ?_; intro v5 w5 ho5 hb5 _ _)
   go_roundg 1
   case measure => omega
   case rel => exact ⟨3, by omega, by omega, by rw [X.out]; rfl, rfl, ⟨by rw [le_succ, ← List.append_assoc, ← X.out]; exact ho5⟩, ⟨hb5⟩⟩
  ·obtain ⟨x, X⟩ : ∃ x, Aside0 (x = sh 3 v) := ⟨_, ⟨rfl⟩⟩
   have hx : 0 ≤ x ∧ x ≤ 18446744073709551615 := X.out ▸ sh_bd hv0 hv1 3
   obtain ⟨hx0, hx1⟩ := hx
   rw [← X.out]
   go_wp2_with (at_builtin; refine print_append_num (w0 := w) w.heap.size rfl (.tmp 21) (.tmp 24) 22 5 .u8 1 rfl Try.underlying22 info8 (by decide) u5 (b ++ le 3 v) (x % 256) rfl rfl O1.out B1.out B1.out.size (by rw [List.length_append, le_length]; omega) ?_; intro v5 w5 ho5 hb5 _ _)
   go_roundg 0
   case measure => omega
   case rel => exact ⟨4, by omega, by omega, by rw [X.out]; rfl, rfl, ⟨by rw [le_succ, ← List.append_assoc, ← X.out]; exact ho5⟩, ⟨hb5⟩⟩
  ·go_wp2
   go_ret
   exact ⟨_, rfl, own_weaken O1.out (Nat.zero_le _), own_base O1.out, B1.out⟩
set_option maxRecDepth 100000 in
set_option maxHeartbeats 4000000 in
theorem put64_calls (A0 : Option Addr) (c0 : Nat) (b : List Int) (v : Int) (w : World) (hr0 : CB w A0 b) (hc0 : b.length ≤ c0) (hb : b.length ≤ 1073741824) (hv0 : 0 ≤ v) (hv2 : v ≤ 18446744073709551615) :
  Calls Try.prog 15 #[.slice A0 b.length c0, .int .u64 v] w fun e w' => ∃ r, e = .returned r ∧ OB w' r (b ++ le 8 v) ∧ (∀ k, r.ownBlock = some k → w.heap.size ≤ k) ∧ Below w.heap.size w w' := by
 have hv1 : v ≤ 18446744073709551615 := by omega
 have hxor : bits BinOp.xor IntKind.u64 IntKind.u64.max 0 = 18446744073709551615 := by kernel_rfl
 have hwr : IntKind.u64.wrap 18446744073709551615 = 18446744073709551615 := by kernel_rfl
 go_enter Try.func15, Try.ntmps15
 go_wp2_with fail
 refine (clone_calls A0 c0 b w hr0 hc0 (by omega)).mono ?_
 rintro e w1 ⟨v1, rfl, ho, hk, hb1⟩
 have O1 : Aside0 (w1.ownsRow w.heap.size 5 1 v1 (b ++ le 0 v).length (nums .u8 (b ++ le 0 v))) := ⟨by
  rw [show b ++ le 0 v = b by simp [le]]; exact own_raise ho hk⟩
 have B1 := Aside0.mk hb1
 clear ho hk hb1 hr0
 clear hv2
 go_wp2
 go_loopg [5, 6, 7] 8 (fun gg s5 s6 s7 wr => ∃ j : Nat, j ≤ 8 ∧ 8 - j ≤ gg ∧ s6 = .int .u64 (sh j v) ∧ s7 = .int .u64 ((fun j : Nat => if j = 0 then (18446744073709551615 : Int) else if j = 1 then (72057594037927935 : Int) else if j = 2 then (281474976710655 : Int) else if j = 3 then (1099511627775 : Int) else if j = 4 then (4294967295 : Int) else if j = 5 then (16777215 : Int) else if j = 6 then (65535 : Int) else if j = 7 then (255 : Int) else 0) j) ∧ Aside0 (wr.ownsRow w.heap.size 5 1 s5 (b ++ le j v).length (nums .u8 (b ++ le j v))) ∧ Aside0 (Below w.heap.size w wr))
 case atStart => exact ⟨0, by omega, by omega, rfl, rfl, O1, B1⟩
 case round =>
  obtain ⟨j, hj, hg, rfl, rfl, O1, B1⟩ := hrel
  obtain rfl | rfl | rfl | rfl | rfl | rfl | rfl | rfl | rfl : j = 0 ∨ j = 1 ∨ j = 2 ∨ j = 3 ∨ j = 4 ∨ j = 5 ∨ j = 6 ∨ j = 7 ∨ j = 8 := by omega
  ·obtain ⟨x, X⟩ : ∃ x, Aside0 (x = sh 0 v) := ⟨_, ⟨rfl⟩⟩
   have hx : 0 ≤ x ∧ x ≤ 18446744073709551615 := X.out ▸ sh_bd hv0 hv1 0
   obtain ⟨hx0, hx1⟩ := hx
   rw [← X.out]
   go_wp2_with (at_builtin; refine print_append_num (w0 := w) w.heap.size rfl (.tmp 19) (.tmp 22) 22 5 .u8 1 rfl Try.underlying22 info8 (by decide) u5 (b ++ le 0 v) (x % 256) rfl rfl O1.out B1.out B1.out.size (by rw [List.length_append, le_length]; omega) ?_; intro v5 w5 ho5 hb5 _ _)
   go_roundg 7
   case measure => omega
   case rel => exact ⟨1, by omega, by omega, by rw [X.out]; rfl, rfl, ⟨by rw [le_succ, ← List.append_assoc, ← X.out]; exact ho5⟩, ⟨hb5⟩⟩
  ·obtain ⟨x, X⟩ : ∃ x, Aside0 (x = sh 1 v) := ⟨_, ⟨rfl⟩⟩
   have hx : 0 ≤ x ∧ x ≤ 18446744073709551615 := X.out ▸ sh_bd hv0 hv1 1
   obtain ⟨hx0, hx1⟩ := hx
   rw [← X.out]
   go_wp2_with (at_builtin; refine print_append_num (w0 := w) w.heap.size rfl (.tmp 19) (.tmp 22) 22 5 .u8 1 rfl Try.underlying22 info8 (by decide) u5 (b ++ le 1 v) (x % 256) rfl rfl O1.out B1.out B1.out.size (by rw [List.length_append, le_length]; omega) ?_; intro v5 w5 ho5 hb5 _ _)
   go_roundg 6
   case measure => omega
   case rel => exact ⟨2, by omega, by omega, by rw [X.out]; rfl, rfl, ⟨by rw [le_succ, ← List.append_assoc, ← X.out]; exact ho5⟩, ⟨hb5⟩⟩
  ·obtain ⟨x, X⟩ : ∃ x, Aside0 (x = sh 2 v) := ⟨_, ⟨rfl⟩⟩
   have hx : 0 ≤ x ∧ x ≤ 18446744073709551615 := X.out ▸ sh_bd hv0 hv1 2
   obtain ⟨hx0, hx1⟩ := hx
   rw [← X.out]
   go_wp2_with (at_builtin; refine print_append_num (w0 := w) w.heap.size rfl (.tmp 19) (.tmp 22) 22 5 .u8 1 rfl Try.underlying22 info8 (by decide) u5 (b ++ le 2 v) (x % 256) rfl rfl O1.out B1.out B1.out.size (by rw [List.length_append, le_length]; omega) ?_; intro v5 w5 ho5 hb5 _ _)
   go_roundg 5
   case measure => omega
   case rel => exact ⟨3, by omega, by omega, by rw [X.out]; rfl, rfl, ⟨by rw [le_succ, ← List.append_assoc, ← X.out]; exact ho5⟩, ⟨hb5⟩⟩
  ·obtain ⟨x, X⟩ : ∃ x, Aside0 (x = sh 3 v) := ⟨_, ⟨rfl⟩⟩
   have hx : 0 ≤ x ∧ x ≤ 18446744073709551615 := X.out ▸ sh_bd hv0 hv1 3
   obtain ⟨hx0, hx1⟩ := hx
   rw [← X.out]
   go_wp2_with (at_builtin; refine print_append_num (w0 := w) w.heap.size rfl (.tmp 19) (.tmp 22) 22 5 .u8 1 rfl Try.underlying22 info8 (by decide) u5 (b ++ le 3 v) (x % 256) rfl rfl O1.out B1.out B1.out.size (by rw [List.length_append, le_length]; omega) ?_; intro v5 w5 ho5 hb5 _ _)
   go_roundg 4
   case measure => omega
   case rel => exact ⟨4, by omega, by omega, by rw [X.out]; rfl, rfl, ⟨by rw [le_succ, ← List.append_assoc, ← X.out]; exact ho5⟩, ⟨hb5⟩⟩
  ·obtain ⟨x, X⟩ : ∃ x, Aside0 (x = sh 4 v) := ⟨_, ⟨rfl⟩⟩
   have hx : 0 ≤ x ∧ x ≤ 18446744073709551615 := X.out ▸ sh_bd hv0 hv1 4
   obtain ⟨hx0, hx1⟩ := hx
   rw [← X.out]
   go_wp2_with (at_builtin; refine print_append_num (w0 := w) w.heap.size rfl (.tmp 19) (.tmp 22) 22 5 .u8 1 rfl Try.underlying22 info8 (by decide) u5 (b ++ le 4 v) (x % 256) rfl rfl O1.out B1.out B1.out.size (by rw [List.length_append, le_length]; omega) ?_; intro v5 w5 ho5 hb5 _ _)
   go_roundg 3
   case measure => omega
   case rel => exact ⟨5, by omega, by omega, by rw [X.out]; rfl, rfl, ⟨by rw [le_succ, ← List.append_assoc, ← X.out]; exact ho5⟩, ⟨hb5⟩⟩
  ·obtain ⟨x, X⟩ : ∃ x, Aside0 (x = sh 5 v) := ⟨_, ⟨rfl⟩⟩
   have hx : 0 ≤ x ∧ x ≤ 18446744073709551615 := X.out ▸ sh_bd hv0 hv1 5
   obtain ⟨hx0, hx1⟩ := hx
   rw [← X.out]
   go_wp2_with (at_builtin; refine print_append_num (w0 := w) w.heap.size rfl (.tmp 19) (.tmp 22) 22 5 .u8 1 rfl Try.underlying22 info8 (by decide) u5 (b ++ le 5 v) (x % 256) rfl rfl O1.out B1.out B1.out.size (by rw [List.length_append, le_length]; omega) ?_; intro v5 w5 ho5 hb5 _ _)
   go_roundg 2
   case measure => omega
   case rel => exact ⟨6, by omega, by omega, by rw [X.out]; rfl, rfl, ⟨by rw [le_succ, ← List.append_assoc, ← X.out]; exact ho5⟩, ⟨hb5⟩⟩
  ·obtain ⟨x, X⟩ : ∃ x, Aside0 (x = sh 6 v) := ⟨_, ⟨rfl⟩⟩
   have hx : 0 ≤ x ∧ x ≤ 18446744073709551615 := X.out ▸ sh_bd hv0 hv1 6
   obtain ⟨hx0, hx1⟩ := hx
   rw [← X.out]
   go_wp2_with (at_builtin; refine print_append_num (w0 := w) w.heap.size rfl (.tmp 19) (.tmp 22) 22 5 .u8 1 rfl Try.underlying22 info8 (by decide) u5 (b ++ le 6 v) (x % 256) rfl rfl O1.out B1.out B1.out.size (by rw [List.length_append, le_length]; omega) ?_; intro v5 w5 ho5 hb5 _ _)
   go_roundg 1
   case measure => omega
   case rel => exact ⟨7, by omega, by omega, by rw [X.out]; rfl, rfl, ⟨by rw [le_succ, ← List.append_assoc, ← X.out]; exact ho5⟩, ⟨hb5⟩⟩
  ·obtain ⟨x, X⟩ : ∃ x, Aside0 (x = sh 7 v) := ⟨_, ⟨rfl⟩⟩
   have hx : 0 ≤ x ∧ x ≤ 18446744073709551615 := X.out ▸ sh_bd hv0 hv1 7
   obtain ⟨hx0, hx1⟩ := hx
   rw [← X.out]
   go_wp2_with (at_builtin; refine print_append_num (w0 := w) w.heap.size rfl (.tmp 19) (.tmp 22) 22 5 .u8 1 rfl Try.underlying22 info8 (by decide) u5 (b ++ le 7 v) (x % 256) rfl rfl O1.out B1.out B1.out.size (by rw [List.length_append, le_length]; omega) ?_; intro v5 w5 ho5 hb5 _ _)
   go_roundg 0
   case measure => omega
   case rel => exact ⟨8, by omega, by omega, by rw [X.out]; rfl, rfl, ⟨by rw [le_succ, ← List.append_assoc, ← X.out]; exact ho5⟩, ⟨hb5⟩⟩
  ·go_wp2
   go_ret
   exact ⟨_, rfl, own_weaken O1.out (Nat.zero_le _), own_base O1.out, B1.out⟩
end Go.Proofs.Ytdfkaclflmgkeaa.PAll
namespace Go.Proofs.Ytdfkaclflmgkeaa.PAll
open Go.RowKit Go.Proofs.YtdfkaclflmgkeaaW.PrintWords Go.Proofs.YtdfkaclflmgkeaaW.PrintLast Go.Proofs.YtdfkaclflmgkeaaW.PrintMore
abbrev NewB (w w' : World) (v : Value) (xs : List Int) : Prop := OB w' v xs ∧ (∀ k, v.ownBlock = some k → w.heap.size ≤ k) ∧ Below w.heap.size w w'
theorem info8b : (Try.prog.info? 5).map (fun i => (i.zero, i.size, i.bytes)) = some (some (.int .u8 0), 1, 1) := by kernel_rfl
set_option maxRecDepth 100000 in
set_option maxHeartbeats 4000000 in
theorem text_calls (A0 : Option Addr) (c0 : Nat) (b : List Int) (s : ByteArray) (w : World) (hr0 : CB w A0 b) (hc0 : b.length ≤ c0) (hb : b.length ≤ 1073741824) (hs : s.size ≤ 1073741824) :
  Calls Try.prog 9 #[.slice A0 b.length c0, .string s] w fun e w' => ∃ r, e = .returned r ∧ NewB w w' r (b ++ le 4 (s.size : Int) ++ bytesOf s) := by
 have hwr : IntKind.u32.wrap (s.size : Int) = (s.size : Int) := by
  show (s.size : Int) % 4294967296 = _
  omega
 go_enter Try.func9, Try.ntmps9
 go_wp2_with fail
 try rw [hwr]
 refine (put32_calls A0 c0 b (s.size : Int) w hr0 hc0 hb (by omega) (by omega)).mono ?_
 rintro e w1 ⟨v1, rfl, ho, hk, hb1⟩
 have O1 := Aside0.mk (own_raise ho hk)
 have B1 := Aside0.mk hb1
 clear ho hk hb1 hr0
 go_wp2_with (at_builtin; refine print_append_str (w0 := w) w.heap.size rfl (.tmp 9) (.tmp 10) 22 9 5 rfl Try.underlying22 Try.underlying9 info8b v1 (b ++ le 4 (s.size : Int)) s rfl rfl O1.out B1.out B1.out.size (by rw [List.length_append, le_length]; omega) ?_; intro v5 w5 ho5 hb5 _)
 go_ret
 exact ⟨_, rfl, own_weaken ho5 (Nat.zero_le _), own_base ho5, hb5⟩
theorem ref_put {n : Nat} (b : List Int) (v : Int) (h0 : 0 ≤ v) (h1 : v ≤ 18446744073709551615) (hn : n ≤ 8) (hb : b.length ≤ 2147483648) : ∀ m j, j + m = n → copseref01_Put.l0 (m + 1) (sh j v) (n : Int) (b ++ le j v) (j : Int) = some (b ++ le n v)
 | 0, j, h => by
  obtain rfl : j = n := by omega
  unfold copseref01_Put.l0
  rw [if_neg (by omega)]
 | m + 1, j, h => by
  have hs := sh_bd h0 h1 j
  have hl : (b ++ le j v).length = b.length + j := by rw [List.length_append, le_length]
  unfold copseref01_Put.l0
  rw [if_pos (by omega), if_pos (by rw [hl]; omega)]
  have e1 : IntKind.u64.wrap (Int.tdiv (sh j v) 256) = sh (j + 1) v := by
   rw [Int.tdiv_eq_ediv_of_nonneg hs.1]
   show (sh j v / 256) % 18446744073709551616 = sh j v / 256
   omega
  have e2 : (Int.tmod (sh j v) 256) % 256 = sh j v % 256 := by
   rw [Int.tmod_eq_emod_of_nonneg hs.1]; omega
  have e3 : wrap64 ((j : Int) + 1) = ((j + 1 : Nat) : Int) := by unfold wrap64; omega
  rw [e1, e2, e3, List.append_assoc, ← le_succ]
  exact ref_put b v h0 h1 hn hb m (j + 1) (by omega)
theorem ref_put_f (n : Nat) (b : List Int) (v : Int) (h0 : 0 ≤ v) (h1 : v ≤ 18446744073709551615) (hn : n ≤ 8) (hb : b.length ≤ 2147483648) : copseref01_Put.f (n + 1) b v (n : Int) = some (b ++ le n v) := by
 unfold copseref01_Put.f
 rw [if_pos (by simp; omega)]
 have := ref_put b v h0 h1 hn hb n 0 (by omega)
 simpa [le, sh] using this
theorem NewB.of_R {w w' : World} {v : Value} {xs : List Int} {ok : Nat → Prop} (h : Kd.R (Kd.int .u8) 5 w' w.heap.size ok v xs) (hb : Below w.heap.size w w') : NewB w w' v xs := ⟨(OB.of_R h).1, (OB.of_R h).2, hb⟩
theorem refput_calls (n : Nat) (A0 : Option Addr) (c0 : Nat) (b : List Int) (v : Int) (w : World) (hr0 : CB w A0 b) (hc0 : b.length ≤ c0) (hb : b.length ≤ 1073741824) (h0 : 0 ≤ v) (h1 : v ≤ 18446744073709551615) (hn : n ≤ 8) :
  Calls Try.prog 12 #[.slice A0 b.length c0, .int .u64 v, .int .i64 (n : Int)] w fun e w' => ∃ r, e = .returned r ∧ NewB w w' r (b ++ le n v) := by
 refine (copseref01_Put.calls (n + 1) A0 c0 b v n _ w hr0 hc0 (ref_put_f n b v h0 h1 hn (by omega))).mono ?_
 rintro e w1 ⟨v1, rfl, hr, hb1⟩
 exact ⟨v1, rfl, NewB.of_R hr hb1⟩
theorem reftext_calls (A0 : Option Addr) (c0 : Nat) (b : List Int) (s : ByteArray) (w : World) (hr0 : CB w A0 b) (hc0 : b.length ≤ c0) (hb : b.length ≤ 1073741824) (hs : s.size ≤ 1073741824) :
  Calls Try.prog 16 #[.slice A0 b.length c0, .string s] w fun e w' => ∃ r, e = .returned r ∧ NewB w w' r (b ++ le 4 (s.size : Int) ++ bytesOf s) := by
 refine (copseref01_Text.calls 5 A0 c0 b s (b ++ le 4 (s.size : Int) ++ bytesOf s) w hr0 hc0 ?_).mono ?_
 ·unfold copseref01_Text.f
  rw [show IntKind.u64.wrap (s.size : Int) = (s.size : Int) by show (s.size : Int) % 18446744073709551616 = _; omega]
  have := ref_put_f 4 b (s.size : Int) (by omega) (by omega) (by omega) (by omega)
  rw [show ((4 : Nat) : Int) = 4 from rfl] at this
  rw [this, Option.bind_some, if_pos (by rw [List.length_append, le_length]; omega)]
 rintro e w1 ⟨v1, rfl, hr, hb1⟩
 exact ⟨v1, rfl, NewB.of_R hr hb1⟩
theorem rd_L1_nat (l : List (List Int)) (j : Nat) (hj : j < l.length) : rd_L1 l (j : Int) = l[j] := by
 unfold rd_L1
 rw [Int.toNat_natCast]
 simp [List.getD_eq_getElem?_getD, List.getElem?_eq_getElem hj]
theorem flat_take_le (l : List (List Int)) (j : Nat) : (l.take j).flatten.length ≤ l.flatten.length := by
 have : l.flatten = (l.take j).flatten ++ (l.drop j).flatten := by rw [← List.flatten_append, List.take_append_drop]
 rw [this, List.length_append]; omega
theorem flat_succ (l : List (List Int)) (j : Nat) (hj : j < l.length) : (l.take (j + 1)).flatten = (l.take j).flatten ++ l[j] := by
 rw [List.take_succ_eq_append_getElem hj, List.flatten_append]; simp
theorem join_l (l : List (List Int)) (hl : l.length ≤ 1000) (hf : l.flatten.length ≤ 4294967296) : ∀ m j, j + m = l.length → octet_Join.l0 (m + 1) (l.take j).flatten l (l.length : Int) (j : Int) = some l.flatten
 | 0, j, h => by
  obtain rfl : j = l.length := by omega
  unfold octet_Join.l0
  rw [if_neg (by omega), List.take_length]
 | m + 1, j, h => by
  have h1 := flat_take_le l (j + 1)
  rw [flat_succ l j (by omega), List.length_append] at h1
  unfold octet_Join.l0
  rw [if_pos (by omega), if_pos (by omega), if_pos (by omega), rd_L1_nat l j (by omega), if_pos (by omega), ← flat_succ l j (by omega), show wrap64 ((j : Int) + 1) = ((j + 1 : Nat) : Int) by unfold wrap64; omega]
  exact join_l l hl hf m (j + 1) (by omega)
theorem refjoin_l (l : List (List Int)) (hl : l.length ≤ 1000) (hf : l.flatten.length ≤ 4294967296) : ∀ m j, j + m = l.length → copseref01_Join.l0 (m + 1) l (l.take j).flatten (j : Int) = some l.flatten
 | 0, j, h => by
  obtain rfl : j = l.length := by omega
  unfold copseref01_Join.l0
  rw [if_neg (by omega), List.take_length]
 | m + 1, j, h => by
  have h1 := flat_take_le l (j + 1)
  rw [flat_succ l j (by omega), List.length_append] at h1
  unfold copseref01_Join.l0
  rw [if_pos (by omega), if_pos (by omega), rd_L1_nat l j (by omega), if_pos (by omega), ← flat_succ l j (by omega), show wrap64 ((j : Int) + 1) = ((j + 1 : Nat) : Int) by unfold wrap64; omega]
  exact refjoin_l l hl hf m (j + 1) (by omega)
abbrev CBB (w : World) (A : Option Addr) (l : List (List Int)) : Prop := Kd.C (Kd.slice 5 (Kd.int .u8)) w A l.length l
theorem join_calls (A0 : Option Addr) (c0 : Nat) (l : List (List Int)) (w : World) (hr0 : CBB w A0 l) (hc0 : l.length ≤ c0) (hl : l.length ≤ 1000) (hf : l.flatten.length ≤ 4294967296) :
  Calls Try.prog 17 #[.slice A0 l.length c0] w fun e w' => ∃ r, e = .returned r ∧ NewB w w' r l.flatten := by
 refine (octet_Join.calls (l.length + 1) A0 c0 l l.flatten w hr0 hc0 ?_).mono ?_
 ·have := join_l l hl hf l.length 0 (by omega)
  exact this
 rintro e w1 ⟨v1, rfl, hr, hb1⟩
 exact ⟨v1, rfl, NewB.of_R hr hb1⟩
theorem refjoin_calls (A0 : Option Addr) (c0 : Nat) (l : List (List Int)) (w : World) (hr0 : CBB w A0 l) (hc0 : l.length ≤ c0) (hl : l.length ≤ 1000) (hf : l.flatten.length ≤ 4294967296) :
  Calls Try.prog 18 #[.slice A0 l.length c0] w fun e w' => ∃ r, e = .returned r ∧ NewB w w' r l.flatten := by
 refine (copseref01_Join.calls (l.length + 1) A0 c0 l l.flatten w hr0 hc0 ?_).mono ?_
 ·have := refjoin_l l hl hf l.length 0 (by omega)
  exact this
 rintro e w1 ⟨v1, rfl, hr, hb1⟩
 exact ⟨v1, rfl, NewB.of_R hr hb1⟩
theorem same_calls (A0 : Option Addr) (c0 : Nat) (A1 : Option Addr) (c1 : Nat) (l : List Int) (w : World) (hr0 : CB w A0 l) (hc0 : l.length ≤ c0) (hr1 : CB w A1 l) (hc1 : l.length ≤ c1) :
  Calls Try.prog 10 #[.slice A0 l.length c0, .slice A1 l.length c1] w fun e w' => e = .returned (.bool true) ∧ Drawn0 w w' :=
 copselaw01_same.calls A0 c0 l A1 c1 l true w hr0 hc0 hr1 hc1 (by unfold copselaw01_same.f; simp)
end Go.Proofs.Ytdfkaclflmgkeaa.PAll
namespace Go.Proofs.Ytdfkaclflmgkeaa.PAll
open Go.RowKit Go.Proofs.YtdfkaclflmgkeaaW.PrintWords Go.Proofs.YtdfkaclflmgkeaaW.PrintLast Go.Proofs.YtdfkaclflmgkeaaW.PrintMore
def leval : List Int → Int
 | [] => 0
 | x :: r => x + 256 * leval r
def Bytes (l : List Int) : Prop := ∀ x ∈ l, 0 ≤ x ∧ x ≤ 255
theorem Bytes.take {l : List Int} (h : Bytes l) (n : Nat) : Bytes (l.take n) := fun x hx => h x (List.mem_of_mem_take hx)
theorem Bytes.drop {l : List Int} (h : Bytes l) (n : Nat) : Bytes (l.drop n) := fun x hx => h x (List.mem_of_mem_drop hx)
theorem leval_append (a : List Int) (y : Int) : leval (a ++ [y]) = leval a + y * ((2 ^ (8 * a.length) : Nat) : Int) := by
 induction a with
 | nil => simp [leval]
 | cons x r ih =>
  show x + 256 * leval (r ++ [y]) = _
  rw [ih]
  show _ = x + 256 * leval r + _
  rw [List.length_cons, show 8 * (r.length + 1) = 8 * r.length + 8 by omega, Nat.pow_add, Int.mul_add]
  have : ((2 ^ (8 * r.length) * 2 ^ 8 : Nat) : Int) = 256 * ((2 ^ (8 * r.length) : Nat) : Int) := by omega
  rw [this, Int.mul_left_comm]
  omega
theorem leval_bd {l : List Int} (h : Bytes l) : 0 ≤ leval l ∧ leval l < ((2 ^ (8 * l.length) : Nat) : Int) := by
 induction l with
 | nil => simp [leval]
 | cons x r ih =>
  have ⟨i1, i2⟩ := ih (fun y hy => h y (List.mem_cons_of_mem _ hy))
  have ⟨h1, h2⟩ := h x (List.mem_cons_self ..)
  show 0 ≤ x + 256 * leval r ∧ x + 256 * leval r < _
  rw [List.length_cons, show 8 * (r.length + 1) = 8 * r.length + 8 by omega, Nat.pow_add]
  omega
theorem or_step (n x j : Nat) (hj : j < 8) (hn : n < 2 ^ (8 * j)) (hx : x < 256) : bits BinOp.or IntKind.u64 (n : Int) (IntKind.u64.wrap ((x : Int) * ((2 ^ (8 * j) : Nat) : Int))) = (n : Int) + x * ((2 ^ (8 * j) : Nat) : Int) := by
 have hb : x * 2 ^ (8 * j) + 2 ^ (8 * j) ≤ 256 * 2 ^ (8 * j) := by
  rw [show x * 2 ^ (8 * j) + 2 ^ (8 * j) = (x + 1) * 2 ^ (8 * j) by rw [Nat.add_mul, Nat.one_mul]]
  exact Nat.mul_le_mul_right _ (by omega)
 have hp : 256 * 2 ^ (8 * j) ≤ 2 ^ 64 := by
  rw [show 256 = 2 ^ 8 from rfl, ← Nat.pow_add]
  exact Nat.pow_le_pow_right (by omega) (by omega)
 have e : ((x : Int) * ((2 ^ (8 * j) : Nat) : Int)) = ((x * 2 ^ (8 * j) : Nat) : Int) := by simp
 rw [e, show IntKind.u64.wrap ((x * 2 ^ (8 * j) : Nat) : Int) = ((x * 2 ^ (8 * j) : Nat) : Int) by show _ % 18446744073709551616 = _; omega]
 rw [u64_or_nat n (x * 2 ^ (8 * j)) (by omega) (by omega)]
 rw [Nat.or_comm, ← Nat.shiftLeft_eq, ← Nat.shiftLeft_add_eq_or_of_lt hn, Nat.shiftLeft_eq]
 omega
theorem low_l (l : List Int) (hl : l.length ≤ 8) (hB : Bytes l) : ∀ m j, j + m = l.length → octet_low.l0 (m + 1) (leval (l.take j)) l (l.length : Int) (j : Int) = some (leval l)
 | 0, j, h => by
  obtain rfl : j = l.length := by omega
  unfold octet_low.l0
  rw [if_neg (by omega), List.take_length]
 | m + 1, j, h => by
  have hj : j < l.length := by omega
  have hbj := leval_bd (hB.take j)
  rw [List.length_take, Nat.min_eq_left (by omega)] at hbj
  have hx := hB l[j] (List.getElem_mem hj)
  have hrd : rd l (j : Int) = l[j] := by
   unfold rd
   rw [Int.toNat_natCast]
   simp [List.getD_eq_getElem?_getD, List.getElem?_eq_getElem hj]
  have e8 : wrap64 (8 * (j : Int)) = ((8 * j : Nat) : Int) := by unfold wrap64; omega
  obtain ⟨n, hn⟩ := Int.eq_ofNat_of_zero_le hbj.1
  obtain ⟨x, hx'⟩ := Int.eq_ofNat_of_zero_le hx.1
  unfold octet_low.l0
  rw [if_pos (by omega), if_pos (by omega), if_pos (by omega), hrd, e8, if_pos (by omega), show wrap64 ((j : Int) + 1) = ((j + 1 : Nat) : Int) by unfold wrap64; omega]
  have e1 : Go.bits .or .u64 (leval (l.take j)) (shl .u64 (IntKind.u64.wrap l[j]) ((8 * j : Nat) : Int)) = leval (l.take (j + 1)) := by
   rw [List.take_succ_eq_append_getElem hj, leval_append, List.length_take, Nat.min_eq_left (by omega)]
   unfold shl
   rw [hn, hx', Int.toNat_natCast, Nat.min_eq_left (show 8 * j ≤ IntKind.u64.bits by show 8 * j ≤ 64; omega)]
   rw [show IntKind.u64.wrap (x : Int) = (x : Int) by show (x : Int) % 18446744073709551616 = _; omega]
   have := or_step n x j (by omega) (by omega) (by omega)
   rw [← this]
   simp
  rw [e1]
  exact low_l l hl hB m (j + 1) (by omega)
theorem low_calls (A0 : Option Addr) (c0 : Nat) (l : List Int) (w : World) (hr0 : CB w A0 l) (hc0 : l.length ≤ c0) (hl : l.length ≤ 8) (hB : Bytes l) :
  Calls Try.prog 35 #[.slice A0 l.length c0] w fun e w' => e = .returned (.int .u64 (leval l)) ∧ Drawn0 w w' :=
 octet_low.calls (l.length + 1) A0 c0 l _ w hr0 hc0 (low_l l hl hB l.length 0 (by omega))
def RS (t : TypeId) (w : World) (p : Nat) (bs : List Int) : Prop := ∃ A c, w.heap[p]? = some (.cells #[.slice A bs.length c] t (0, 0)) ∧ bs.length ≤ c ∧ CB w A bs
structure Rd (p : Nat) (w w' : World) : Prop where
 os : w'.os = w.os
 tape : w'.tape = w.tape
 output : w'.output = w.output
 size : w.heap.size ≤ w'.heap.size
 block : ∀ k, k < w.heap.size → k ≠ p → w'.heap[k]? = w.heap[k]?
 was : ∃ A n c t, w.heap[p]? = some (.cells #[.slice A n c] t (0, 0))
theorem RS.same {t : TypeId} {w : World} {p : Nat} {bs : List Int} (h : RS t w p bs) : Rd p w w := by
 obtain ⟨A, c, hp, _⟩ := h
 exact ⟨rfl, rfl, rfl, Nat.le_refl _, fun _ _ _ => rfl, A, _, c, t, hp⟩
theorem Rd.drewN {p : Nat} {w w' : World} (h : Rd p w w') (m : Nat) : Rd p w (w'.drewN m) := ⟨h.os, h.tape, h.output, h.size, h.block, h.was⟩
theorem Rd.drew {p : Nat} {w w' : World} (h : Rd p w w') : Rd p w w'.drew := ⟨h.os, h.tape, h.output, h.size, h.block, h.was⟩
theorem Rd.setCell {p : Nat} {w w' : World} (h : Rd p w w') (u : Value) : Rd p w (w'.setCell ⟨p, 0, none⟩ u) :=
 ⟨h.os, h.tape, h.output, by have := h.size; simpa [World.setCell] using this, fun k hk hp => (Below.heap_setCell w' ⟨p, 0, none⟩ u k hp).trans (h.block k hk hp), h.was⟩
theorem Rd.cell {p : Nat} {w w' : World} (h : Rd p w w') {a : Addr} {k : IntKind} {x : Int} (ha : w.cell? a = some (.int k x)) : w'.cell? a = some (.int k x) := by
 obtain ⟨A, n, c, t, hp⟩ := h.was
 by_cases hb : a.block = p
 ·exfalso
  unfold World.cell? at ha
  rw [hb, hp] at ha
  simp only at ha
  split at ha
  ·cases ha
  ·rcases Nat.eq_zero_or_pos a.off with h0 | h0
   ·rw [h0] at ha; simp at ha
   ·rw [Array.getElem?_eq_none (by simp; omega)] at ha; cases ha
 ·rw [← ha]
  have hlt : a.block < w.heap.size := World.block_lt_of_cell? w a ha
  unfold World.cell?
  rw [h.block a.block hlt hb]
theorem CB.imp {w w' : World} {A : Option Addr} {xs : List Int} (h : CB w A xs) (hw : ∀ (a : Addr) (x : Int), w.cell? a = some (.int .u8 x) → w'.cell? a = some (.int .u8 x)) : CB w' A xs := by
 refine ⟨h.1, h.2.1, fun h0 => ?_⟩
 obtain ⟨ad, e, hc⟩ := h.2.2 h0
 refine ⟨ad, e, fun j x hj => ?_⟩
 obtain ⟨c, h1, h2, h3⟩ := hc j x hj
 have h2' : c = [.int .u8 x] := h2
 subst h2'
 refine ⟨_, h1, rfl, fun i v hv => ?_⟩
 have := h3 i v hv
 rcases i with _ | i
 ·obtain rfl := Option.some.inj hv
  exact hw _ _ this
 ·cases hv
theorem Rd.reads {p : Nat} {w w' : World} (h : Rd p w w') {A : Option Addr} {xs : List Int} (hr : CB w A xs) : CB w' A xs := hr.imp fun _ _ => h.cell
theorem RS.below {q : Nat} {t : TypeId} {w w' : World} {bs : List Int} (hr : RS t w q bs) (h : Below w.heap.size w w') : RS t w' q bs := by
 obtain ⟨A, c, hq, hc, hr⟩ := hr
 exact ⟨A, c, (h.block q (Array.getElem?_eq_some_iff.1 hq).1).trans hq, hc, Kd.C_below hr h⟩
theorem RS.set {t : TypeId} {w : World} {p : Nat} {bs bs' : List Int} (h : RS t w p bs) {A : Option Addr} {n c : Nat} (hn : n = bs'.length) (hc : n ≤ c) (hr : CB w A bs') : RS t (w.setCell ⟨p, 0, none⟩ (.slice A n c)) p bs' := by
 have hR := (h.same).setCell (.slice A n c)
 obtain ⟨A0, c0, hp, _, _⟩ := h
 subst hn
 refine ⟨A, c, ?_, hc, hR.reads hr⟩
 simp [World.setCell, Array.getElem?_modify, hp]
theorem Rd.trans {p : Nat} {a b c : World} (h : Rd p a b) (k : Rd p b c) : Rd p a c := ⟨k.os.trans h.os, k.tape.trans h.tape, k.output.trans h.output, Nat.le_trans h.size k.size, fun q hq hp => (k.block q (Nat.lt_of_lt_of_le hq h.size) hp).trans (h.block q hq hp), h.was⟩
end Go.Proofs.Ytdfkaclflmgkeaa.PAll
namespace Go.Proofs.Ytdfkaclflmgkeaa.PAll
open Go.RowKit Go.Proofs.YtdfkaclflmgkeaaW.PrintWords Go.Proofs.YtdfkaclflmgkeaaW.PrintLast Go.Proofs.YtdfkaclflmgkeaaW.PrintMore
theorem info8m : (Try.prog.info? 5).map (fun i => (i.zero, i.size, i.bytes)) = some (some (.int .u8 0), 1, 1) := by kernel_rfl
theorem cut_head {w : World} {A : Option Addr} {c : Nat} {bs : List Int} (hr : CB w A bs) (hc : bs.length ≤ c) (n : Nat) (j : Int) (hj : j = n) (hn : n ≤ bs.length) :
  (∀ W : World, (Instr.slice 22 (.slice A bs.length c) none (some (.int .i64 j)) none).run Try.prog W = .ok (.slice A (bs.take n).length c) W) ∧ CB w A (bs.take n) ∧ (bs.take n).length ≤ c := by
 subst hj
 obtain ⟨i0, hi0, _, _, _⟩ := info_parts info8m
 refine ⟨fun W => ?_, Kd.C_take hr hn, by rw [List.length_take]; omega⟩
 have := cut_to (P := Try.prog) 22 5 .i64 Try.underlying22 hi0 A bs.length c (n : Int) (by omega) (by omega) hc W
 rw [Int.toNat_natCast] at this
 rw [show (bs.take n).length = n by rw [List.length_take]; omega]
 exact this
theorem cut_tail {w : World} {A : Option Addr} {c : Nat} {bs : List Int} (hr : CB w A bs) (hc : bs.length ≤ c) (n : Nat) (j : Int) (hj : j = n) (hn : n ≤ bs.length) :
  ∃ A2 c2, (∀ W : World, (Instr.slice 22 (.slice A bs.length c) (some (.int .i64 j)) none none).run Try.prog W = .ok (.slice A2 (bs.drop n).length c2) W) ∧ CB w A2 (bs.drop n) ∧ (bs.drop n).length ≤ c2 := by
 subst hj
 obtain ⟨i0, hi0, _, hsz, _⟩ := info_parts info8m
 refine ⟨_, c - n, fun W => ?_, Kd.C_drop (c := c) hr hn hc, by rw [List.length_drop]; omega⟩
 have := cut_from (P := Try.prog) 22 5 .i64 Try.underlying22 hi0 1 hsz A bs.length c (n : Int) (by omega) (by omega) W
 rw [Int.toNat_natCast] at this
 rw [List.length_drop]
 exact this
theorem cut_head' {w : World} {A : Option Addr} {c : Nat} {bs : List Int} (hr : CB w A bs) (hc : bs.length ≤ c) (n : Nat) (j : Int) (hj : j = n) (hn : n ≤ bs.length) :
  ∃ hd : List Int, Aside0 (hd = bs.take n) ∧ (∀ W : World, (Instr.slice 22 (.slice A bs.length c) none (some (.int .i64 j)) none).run Try.prog W = .ok (.slice A hd.length c) W) ∧ CB w A hd ∧ hd.length ≤ c ∧ Aside0 (hd.length = n) := by
 obtain ⟨h1, h2, h3⟩ := cut_head hr hc n j hj hn
 exact ⟨_, ⟨rfl⟩, h1, h2, h3, ⟨by rw [List.length_take]; omega⟩⟩
theorem cut_tail' {w : World} {A : Option Addr} {c : Nat} {bs : List Int} (hr : CB w A bs) (hc : bs.length ≤ c) (n : Nat) (j : Int) (hj : j = n) (hn : n ≤ bs.length) :
  ∃ (tl : List Int) (A2 : Option Addr) (c2 : Nat), Aside0 (tl = bs.drop n) ∧ (∀ W : World, (Instr.slice 22 (.slice A bs.length c) (some (.int .i64 j)) none none).run Try.prog W = .ok (.slice A2 tl.length c2) W) ∧ Aside0 (CB w A2 tl) ∧ Aside0 (tl.length ≤ c2) := by
 obtain ⟨A2, c2, h1, h2, h3⟩ := cut_tail hr hc n j hj hn
 exact ⟨_, A2, c2, ⟨rfl⟩, h1, ⟨h2⟩, ⟨h3⟩⟩
def Two (t : TypeId) (p : Nat) (w : World) (v : Value) (n : Int) (bs : List Int) (e : Ending) (w' : World) : Prop :=
 e = .returned (.tuple #[v, .int .i64 n]) ∧ RS t w' p bs ∧ Rd p w w'
theorem RS.cell {t : TypeId} {w : World} {p : Nat} {A : Option Addr} {n c : Nat} (h : w.heap[p]? = some (.cells #[.slice A n c] t (0, 0))) : w.cell? ⟨p, 0, none⟩ = some (.slice A n c) ∧ w.frozen? ⟨p, 0, none⟩ = false := ⟨(blk_cell h 0).trans rfl, blk_frozen h 0⟩
end Go.Proofs.Ytdfkaclflmgkeaa.PAll
namespace Go.Proofs.Ytdfkaclflmgkeaa.PAll
open Go.RowKit Go.Proofs.YtdfkaclflmgkeaaW.PrintWords Go.Proofs.YtdfkaclflmgkeaaW.PrintLast Go.Proofs.YtdfkaclflmgkeaaW.PrintMore
def rdText (bs : List Int) (most : Int) : ByteArray × Int × List Int :=
 if (bs.length : Int) < 4 then (ByteArray.empty, 11, bs) else if leval (bs.take 4) > most then (ByteArray.empty, 12, bs) else if (bs.length : Int) - 4 < leval (bs.take 4) then (ByteArray.empty, 11, bs) else
  (strOfNums ((bs.take (4 + (leval (bs.take 4)).toNat)).drop 4), 0, bs.drop (4 + (leval (bs.take 4)).toNat))
def rdEnd (bs : List Int) : Int := if (bs.length : Int) > 0 then 12 else 0
theorem cut_mid' {w : World} {A : Option Addr} {c : Nat} {bs : List Int} (hr : CB w A bs) (hc : bs.length ≤ c) (lo hi : Nat) (jl jh : Int) (hl : jl = lo) (hh : jh = hi) (h1 : lo ≤ hi) (h2 : hi ≤ bs.length) :
  ∃ (md : List Int) (A2 : Option Addr) (c2 : Nat), Aside0 (md = (bs.take hi).drop lo) ∧ (∀ W : World, (Instr.slice 22 (.slice A bs.length c) (some (.int .i64 jl)) (some (.int .i64 jh)) none).run Try.prog W = .ok (.slice A2 md.length c2) W) ∧ CB w A2 md := by
 subst hl; subst hh
 obtain ⟨i0, hi0, _, hsz, _⟩ := info_parts info8m
 refine ⟨_, _, c - lo, ⟨rfl⟩, fun W => ?_, Kd.C_mid (c := c) hr h1 h2 hc⟩
 have := cut_mid (P := Try.prog) 22 5 .i64 .i64 Try.underlying22 hi0 1 hsz A bs.length c (lo : Int) (hi : Int) (by omega) (by omega) (by omega) hc W
 rw [Int.toNat_natCast, Int.toNat_natCast] at this
 rw [List.length_drop, List.length_take, Nat.min_eq_left h2]
 exact this
theorem leval_4 {bs : List Int} (hB : Bytes bs) : 0 ≤ leval (bs.take 4) ∧ leval (bs.take 4) ≤ 4294967295 := by
 have h := leval_bd (hB.take 4)
 have : (2 ^ (8 * (bs.take 4).length) : Nat) ≤ 2 ^ 32 := Nat.pow_le_pow_right (by omega) (by rw [List.length_take]; omega)
 omega
set_option maxRecDepth 100000 in
set_option maxHeartbeats 4000000 in
theorem rtext_calls (p : Nat) (bs : List Int) (most : Int) (w : World) (h : RS 62 w p bs) (hB : Bytes bs) :
  Calls Try.prog 27 #[.pointer (some ⟨p, 0, none⟩), .int .i64 most] w fun e w' => ∃ r, rdText bs most = r ∧ Two 62 p w (.string r.1) r.2.1 r.2.2 e w' := by
 have HS := Aside0.mk h
 obtain ⟨A, c, hp, hc, hr⟩ := h
 obtain ⟨hcell, hfz⟩ := RS.cell hp
 have HC := Aside0.mk hc
 have HR := Aside0.mk hr
 have hlen : bs.length ≤ 9223372036854775807 := hr.2.1
 clear hp hc hr
 by_cases hlt : (bs.length : Int) < 4
 ·go_enter Try.func27, Try.ntmps27
  go_wp2
  go_ret2
  exact ⟨(ByteArray.empty, 11, bs), by unfold rdText; rw [if_pos (by omega)], rfl, HS.out, HS.out.same⟩
 ·obtain ⟨hd, E1, hcut, hr1, hc1, hl1⟩ := cut_head' HR.out HC.out 4 4 rfl (by omega)
  have hv := leval_4 hB
  rw [← E1.out] at hv
  obtain ⟨n, hn⟩ := Int.eq_ofNat_of_zero_le hv.1
  have HN := Aside0.mk hn
  have hn1 : n ≤ 4294967295 := by omega
  clear hn hv
  go_enter Try.func27, Try.ntmps27
  go_wp2_with fail
  refine (low_calls A c hd _ hr1 hc1 (by rw [hl1.out]; omega) (by rw [E1.out]; exact hB.take 4)).mono ?_
  rw [HN.out]
  rintro e w1 ⟨rfl, ⟨⟨q1, rfl⟩⟩⟩
  clear hr1 hc1
  by_cases hgt : (n : Int) > most
  ·go_wp2
   go_ret2
   exact ⟨(ByteArray.empty, 12, bs), by unfold rdText; rw [if_neg (by omega), ← E1.out, if_pos (by rw [HN.out]; omega)], rfl, HS.out, HS.out.same.drewN q1⟩
  ·by_cases hsh : (bs.length : Int) - 4 < n
   ·go_wp2
    go_ret2
    exact ⟨(ByteArray.empty, 11, bs), by unfold rdText; rw [if_neg (by omega), ← E1.out, if_neg (by rw [HN.out]; omega), if_pos (by rw [HN.out]; omega)], rfl, HS.out, HS.out.same.drewN q1⟩
   ·obtain ⟨md, A3, c3, E3, hcut3, hr3⟩ := cut_mid' HR.out HC.out 4 (4 + n) 4 (4 + (n : Int)) rfl (by omega) (by omega) (by omega)
    obtain ⟨tl, A2, c2, E2, hcut2, R2, C2⟩ := cut_tail' HR.out HC.out (4 + n) (4 + (n : Int)) (by omega) (by omega)
    have hstr : (convert 22 9 (.slice A3 md.length c3)).run Try.prog (w.drewN q1) = .ok (.string (strOfNums md)) (w.drewN q1) :=
     Kd.C_string (P := Try.prog) Try.underlying22 Try.underlying5 Try.underlying9 (Kd.C_drewN hr3 q1)
    have hw4 : wrap64 (4 + (n : Int)) = 4 + (n : Int) := by unfold wrap64; omega
    clear hr3
    go_wp2
    go_ret2
    exact ⟨(strOfNums md, 0, tl), by rw [E3.out, E2.out]; unfold rdText; rw [if_neg (by omega), ← E1.out, if_neg (by rw [HN.out]; omega), if_neg (by rw [HN.out]; omega), HN.out]; rfl, rfl, RS.set (bs := bs) HS.out rfl C2.out R2.out, (HS.out.same.drewN q1).setCell _⟩
set_option maxRecDepth 100000 in
theorem left_calls (p : Nat) (bs : List Int) (w : World) (h : RS 62 w p bs) :
  Calls Try.prog 22 #[.pointer (some ⟨p, 0, none⟩)] w fun e w' => e = .returned (.int .i64 (bs.length : Int)) ∧ w' = w := by
 obtain ⟨A, c, hp, hc, hr⟩ := h
 obtain ⟨hcell, hfz⟩ := RS.cell hp
 clear hp hc hr
 go_enter Try.func22, Try.ntmps22
 go_wp2
 go_ret
 exact ⟨rfl, rfl⟩
set_option maxRecDepth 100000 in
theorem end_calls (p : Nat) (bs : List Int) (w : World) (h : RS 62 w p bs) :
  Calls Try.prog 23 #[.pointer (some ⟨p, 0, none⟩)] w fun e w' => e = .returned (.int .i64 (rdEnd bs)) ∧ w' = w := by
 obtain ⟨A, c, hp, hc, hr⟩ := h
 obtain ⟨hcell, hfz⟩ := RS.cell hp
 clear hp hc hr
 by_cases h0 : (bs.length : Int) > 0
 ·go_enter Try.func23, Try.ntmps23
  go_wp2
  go_ret
  exact ⟨by unfold rdEnd; rw [if_pos h0]; rfl, rfl⟩
 ·go_enter Try.func23, Try.ntmps23
  go_wp2
  go_ret
  exact ⟨by unfold rdEnd; rw [if_neg (by omega)]; rfl, rfl⟩
set_option maxRecDepth 100000 in
theorem newreader_calls (A0 : Option Addr) (c0 : Nat) (b : List Int) (w : World) (hr0 : CB w A0 b) (hc0 : b.length ≤ c0) (hb : b.length ≤ 4294967296) :
  Calls Try.prog 20 #[.slice A0 b.length c0] w fun e w' => ∃ p, e = .returned (.pointer (some ⟨p, 0, none⟩)) ∧ RS 62 w' p b ∧ w.heap.size ≤ p ∧ Below w.heap.size w w' := by
 go_enter Try.func20, Try.ntmps20
 go_wp2_with fail
 refine (clone_calls A0 c0 b w hr0 hc0 hb).mono ?_
 rintro e w1 ⟨v1, rfl, ho, hk, hb1⟩
 obtain ⟨A, c, rfl, hc, hr⟩ := OB.reads ho
 have HC := Aside0.mk hc
 have HR := Aside0.mk hr
 have HB := Aside0.mk hb1
 clear hr0 hc0 ho hk hb1 hc hr
 go_wp2
 go_ret
 exact ⟨w1.heap.size, rfl, ⟨A, c, by show (w1.heap.push _)[w1.heap.size]? = _; exact Array.getElem?_push_size, HC.out, Kd.C_alloc HR.out _⟩, HB.out.size, below_alloc HB.out _⟩
end Go.Proofs.Ytdfkaclflmgkeaa.PAll
namespace Go.Proofs.Ytdfkaclflmgkeaa.PAll
open Go.RowKit Go.Proofs.YtdfkaclflmgkeaaW.PrintWords Go.Proofs.YtdfkaclflmgkeaaW.PrintLast Go.Proofs.YtdfkaclflmgkeaaW.PrintMore
theorem Rd.below {p B : Nat} {w w' : World} (h : Rd p w w') (h1 : B ≤ p) (h2 : B ≤ w.heap.size) : Below B w w' := ⟨h.os, h.tape, h.output, h.size, fun k hk => h.block k (by omega) (by omega)⟩
theorem lit_CB (W : World) (xs : List Int) (h : xs.length ≤ 9223372036854775807) : CB (W.alloc (.cells (nums .u8 xs).toArray 5)) (some ⟨W.heap.size, 0, none⟩) xs := by
 obtain ⟨A, c, e, _, hr⟩ := OB.reads (own_lit W 0 5 .u8 xs (Nat.zero_le _) h)
 injection e with e1 _ _
 subst e1
 exact hr
set_option maxRecDepth 100000 in
set_option maxHeartbeats 4000000 in
theorem head_calls (w : World) :
  Calls Try.prog 7 #[] w fun e w' => e = .returned (.bool true) ∧ Below w.heap.size w w' := by
 have hm2 : (⟨#[97, 98]⟩ : ByteArray).size = 2 := rfl
 go_enter Try.func7, Try.ntmps7
 go_wp2_with fail
 refine (newreader_calls (some ⟨w.heap.size, 0, none⟩) 7 [2, 0, 0, 0, 97, 98, 7] _ (lit_CB w [2, 0, 0, 0, 97, 98, 7] (by decide)) (Nat.le_refl _) (by decide)).mono ?_
 rintro e w1 ⟨p, rfl, hs, hp, hb⟩
 have hp' : w.heap.size ≤ p := Nat.le_trans (below_alloc (Below.refl _ w) _).size hp
 have HP := Aside0.mk hp'
 have HB1 := Aside0.mk (below_then (below_alloc (Below.refl _ w) _) (below_alloc (Below.refl _ w) _).size hb)
 have HS1 := Aside0.mk hs
 clear hs hp hb hp'
 go_wp2_with fail
 refine (put16_calls (some ⟨w1.heap.size, 0, none⟩) 1 [9] 258 _ (lit_CB w1 [9] (by decide)) (Nat.le_refl _) (by decide) (by decide) (by decide)).mono ?_
 rintro e w2 ⟨v2, rfl, ho, _, hb⟩
 obtain ⟨A2, c2, rfl, hc, hr⟩ := OB.reads ho
 have R2 := Aside0.mk hr
 have C2 := Aside0.mk hc
 have HB2 := Aside0.mk (below_then (below_alloc HB1.out _) (below_alloc HB1.out _).size hb)
 have HS2 := Aside0.mk ((HS1.out.below (below_alloc (Below.refl _ w1) _)).below hb)
 clear ho hb hc hr HB1 HS1
 go_wp2_with fail
 refine (same_calls A2 c2 (some ⟨w2.heap.size, 0, none⟩) 3 [9, 2, 1] _ (Kd.C_alloc R2.out _) C2.out (lit_CB w2 [9, 2, 1] (by decide)) (Nat.le_refl _)).mono ?_
 rintro e w3 ⟨rfl, ⟨⟨q3, rfl⟩⟩⟩
 have HB3 := Aside0.mk (below_alloc HB2.out (.cells #[.int .u8 9, .int .u8 2, .int .u8 1] 5))
 have HS3 := Aside0.mk (HS2.out.below (below_alloc (Below.refl _ w2) (.cells #[.int .u8 9, .int .u8 2, .int .u8 1] 5)))
 clear HB2 HS2 R2 C2
 go_wp2_with fail
 refine (text_calls none 0 [] ⟨#[97, 98]⟩ _ ⟨rfl, by decide, fun h => absurd h (by decide)⟩ (Nat.le_refl _) (by decide) (by decide)).mono ?_
 rintro e w4 ⟨v4, rfl, ho, _, hb⟩
 obtain ⟨A4, c4, rfl, hc, hr⟩ := OB.reads ho
 have R4 := Aside0.mk hr
 have C4 := Aside0.mk hc
 have HB4 := Aside0.mk (below_then (pw_below_drewN HB3.out q3) (pw_below_drewN HB3.out q3).size hb)
 have HS4 := Aside0.mk (RS.below (w := (w2.alloc _).drewN q3) HS3.out hb)
 clear ho hb hc hr HB3 HS3
 go_wp2_with fail
 refine (same_calls A4 c4 (some ⟨w4.heap.size, 0, none⟩) 6 [2, 0, 0, 0, 97, 98] _ (Kd.C_alloc R4.out _) C4.out (lit_CB w4 [2, 0, 0, 0, 97, 98] (by decide)) (Nat.le_refl _)).mono ?_
 rintro e w5 ⟨rfl, ⟨⟨q5, rfl⟩⟩⟩
 have HB5 := Aside0.mk (below_alloc HB4.out (.cells (nums .u8 [2, 0, 0, 0, 97, 98]).toArray 5))
 have HS5 := Aside0.mk (HS4.out.below (below_alloc (Below.refl _ w4) (.cells (nums .u8 [2, 0, 0, 0, 97, 98]).toArray 5)))
 clear HB4 HS4 R4 C4
 go_wp2_with fail
 refine (rtext_calls p [2, 0, 0, 0, 97, 98, 7] 1 ((w4.alloc (.cells (nums .u8 [2, 0, 0, 0, 97, 98]).toArray 5)).drewN q5) HS5.out (by unfold Bytes; decide)).mono ?_
 rintro e w6 ⟨r, hr, he, hs, hd⟩
 obtain rfl : r = (ByteArray.empty, 12, [2, 0, 0, 0, 97, 98, 7]) := hr.symm.trans (by decide)
 subst he
 have HB6 := Aside0.mk ((pw_below_drewN HB5.out q5).trans (hd.below HP.out HB5.out.size))
 have HS6 := Aside0.mk hs
 clear hs hd hr HB5 HS5
 go_wp2_with fail
 refine (rtext_calls p [2, 0, 0, 0, 97, 98, 7] 2 _ HS6.out (by unfold Bytes; decide)).mono ?_
 rintro e w7 ⟨r, hr, he, hs, hd⟩
 obtain rfl : r = (⟨#[97, 98]⟩, 0, [7]) := hr.symm.trans (by decide)
 subst he
 have HB7 := Aside0.mk (HB6.out.trans (hd.below HP.out HB6.out.size))
 have HS7 := Aside0.mk hs
 clear hs hd hr HB6 HS6
 go_wp2_with fail
 refine (left_calls p [7] _ HS7.out).mono ?_
 rintro e w8 ⟨rfl, rfl⟩
 go_wp2_with fail
 refine (end_calls p [7] _ HS7.out).mono ?_
 rintro e w9 ⟨rfl, rfl⟩
 have he7 : rdEnd [7] = 12 := rfl
 go_wp2
 go_ret
 exact ⟨rfl, HB7.out⟩
end Go.Proofs.Ytdfkaclflmgkeaa.PAll
