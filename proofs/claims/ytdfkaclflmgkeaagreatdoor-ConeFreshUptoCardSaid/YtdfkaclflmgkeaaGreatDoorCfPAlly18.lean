/- What functions of the program compute, each with its walk: a contract for every world and every argument of the kind told. -/
import Derived.Test.YtdfkaclflmgkeaaGreatDoorCfPAllx0
import Derived.Test.YtdfkaclflmgkeaaGreatDoorCfPAlly16
import Derived.Test.YtdfkaclflmgkeaaGreatDoorCfPAlly12
import Derived.Test.YtdfkaclflmgkeaaGreatDoorCfHandA
import Derived.Test.YtdfkaclflmgkeaaGreatDoorCfPAlly4
import Derived.Test.YtdfkaclflmgkeaaGreatDoorCfHandB
namespace Go.Proofs.YtdfkaclflmgkeaaGreatDoor.PAll
open Go.RowKit Go.Proofs.YtdfkaclflmgkeaaGreatDoorW.PrintWords Go.Proofs.YtdfkaclflmgkeaaGreatDoorW.PrintLast Go.Proofs.YtdfkaclflmgkeaaGreatDoorW.PrintMore
attribute [local go_sem] max2_int min2_int max_two min_two max_three min_three max_four min_four
set_option linter.unusedVariables false
set_option linter.unusedSimpArgs false
mutual
def copselaw15_ConeFresh.j0 : Nat → List (S36) → List ByteArray → Bool → Option (Bool)
 | 0, _, _, _ => none
 | k + 1, x0, x7, x47 => if x47 = true then (some false) else ((cone_View.f k x0 x7).bind fun bt375 => ((cone_View.f k x0 x7).bind fun bt379 => ((copseref15_View.f k x0 x7).bind fun bt383 => ((copselaw15_files.f k bt375.1 bt383.1).bind fun t387 => (if t387 = true then ((copselaw15_files.f k bt379.1 bt383.1).bind fun t388 => (copselaw15_ConeFresh.j1 k x0 x7 bt375.1 bt379.1 bt383.1 (!t388))) else (copselaw15_ConeFresh.j1 k x0 x7 bt375.1 bt379.1 bt383.1 true))))))
def copselaw15_ConeFresh.j1 : Nat → List (S36) → List ByteArray → List (S36) → List (S36) → List (S36) → Bool → Option (Bool)
 | 0, _, _, _, _, _, _ => none
 | k + 1, x0, x7, x8, x10, x12, x75 => if x75 = true then (some false) else (copselaw15_ConeFresh.l0 k x0 x7 x8 x10 x12 0)
def copselaw15_ConeFresh.l0 : Nat → List (S36) → List ByteArray → List (S36) → List (S36) → List (S36) → Int → Option (Bool)
 | 0, _, _, _, _, _, _ => none
 | k + 1, x0, x7, x8, x10, x12, x14 => if x14 < (x8.length : Int) then (if 0 ≤ x14 then (copselaw15_ConeFresh.l0 k x0 x7 (x8.set (x14 : Int).toNat (⟨(⟨#[49]⟩ : ByteArray), (⟨#[]⟩ : ByteArray), 0, 0⟩ : S36)) x10 x12 (wrap64 (x14 + 1))) else (none)) else (copselaw15_ConeFresh.l1 k x0 x7 x8 x10 x12 0)
def copselaw15_ConeFresh.l1 : Nat → List (S36) → List ByteArray → List (S36) → List (S36) → List (S36) → Int → Option (Bool)
 | 0, _, _, _, _, _, _ => none
 | k + 1, x0, x7, x8, x10, x12, x15 => if x15 < (x10.length : Int) then (if 0 ≤ x15 then (copselaw15_ConeFresh.l1 k x0 x7 x8 (x10.set (x15 : Int).toNat (⟨(⟨#[50]⟩ : ByteArray), (⟨#[]⟩ : ByteArray), 0, 0⟩ : S36)) x12 (wrap64 (x15 + 1))) else (none)) else (copselaw15_ConeFresh.l2 k x0 x7 x12 x8 x10 0)
def copselaw15_ConeFresh.l2 : Nat → List (S36) → List ByteArray → List (S36) → List (S36) → List (S36) → Int → Option (Bool)
 | 0, _, _, _, _, _, _ => none
 | k + 1, x0, x7, x12, x16, x17, x18 => if x18 < 30 then (if x16.length < 2932031007402 then (copselaw15_ConeFresh.l2 k x0 x7 x12 (x16 ++ [(⟨(⟨#[49]⟩ : ByteArray), (⟨#[]⟩ : ByteArray), 0, 0⟩ : S36)]) x17 (wrap64 (x18 + 1))) else (none)) else (copselaw15_ConeFresh.l3 k x0 x7 x12 x16 x17 0)
def copselaw15_ConeFresh.l3 : Nat → List (S36) → List ByteArray → List (S36) → List (S36) → List (S36) → Int → Option (Bool)
 | 0, _, _, _, _, _, _ => none
 | k + 1, x0, x7, x12, x16, x17, x19 => if x19 < 30 then (if x17.length < 2932031007402 then (copselaw15_ConeFresh.l3 k x0 x7 x12 x16 (x17 ++ [(⟨(⟨#[50]⟩ : ByteArray), (⟨#[]⟩ : ByteArray), 0, 0⟩ : S36)]) (wrap64 (x19 + 1))) else (none)) else (copselaw15_ConeFresh.l4 k x0 x7 x12 x16 x17 0)
def copselaw15_ConeFresh.l4 : Nat → List (S36) → List ByteArray → List (S36) → List (S36) → List (S36) → Int → Option (Bool)
 | 0, _, _, _, _, _, _ => none
 | k + 1, x0, x7, x12, x16, x17, x20 => if x20 < (x16.length : Int) then (if 0 ≤ x20 then (if ((rd_T36 x16 x20).f0).toList = ([49] : List UInt8) then (if x20 < (x17.length : Int) then (if ((rd_T36 x17 x20).f0).toList = ([50] : List UInt8) then (copselaw15_ConeFresh.l4 k x0 x7 x12 x16 x17 (wrap64 (x20 + 1))) else (some false)) else (none)) else (some false)) else (none)) else ((cone_View.f k x0 x7).bind fun bt399 => ((copselaw15_files.f k bt399.1 x12).bind fun t403 => (some t403)))
end
def copselaw15_ConeFresh.f (k : Nat) (l0 : List (S36)) (l1 : List ByteArray) : Option (Bool) := (cone_Cover.f k l1).bind fun t354 => ((cone_Cover.f k l1).bind fun t357 => ((copseref15_Cover.f k l1).bind fun t360 => ((copselaw15_alive.f k).bind fun t363 => (if t363 = true then ((copselaw15_apart.f (([t354, t357] : List (List ByteArray))) (([t360, t360] : List (List ByteArray)))).bind fun t370 => (if t370 = true then ((cone_Cover.f k l1).bind fun t371 => ((copselaw15_texts.f k t371 t360).bind fun t374 => (copselaw15_ConeFresh.j0 k l0 t360 (!t374)))) else (copselaw15_ConeFresh.j0 k l0 t360 true))) else (copselaw15_ConeFresh.j0 k l0 t360 true)))))
set_option maxHeartbeats 8000000 in
set_option maxRecDepth 100000 in
theorem copselaw15_ConeFresh.calls (k : Nat) (A0 : Option Addr) (c0 : Nat) (l0 : List (S36)) (A1 : Option Addr) (c1 : Nat) (l1 : List ByteArray) (r : Bool) (w : World) (hrt : r = true) (hr0 : Kd.C k36 w A0 l0.length l0) (hc0 : l0.length ≤ c0) (hr1 : Kd.C Kd.string w A1 l1.length l1) (hc1 : l1.length ≤ c1) (h : copselaw15_ConeFresh.f k l0 l1 = some r) :
  Calls Tryz.prog 3 #[.slice A0 l0.length c0, .slice A1 l1.length c1] w fun e w' => e = .returned (.bool r) ∧ Below w.heap.size w w' := by
 have hu36 := Tryz.underlying36
 have HR0 := Aside0.mk hr0
 have HC0 := Aside0.mk hc0
 clear hr0 hc0
 have HR1 := Aside0.mk hr1
 have HC1 := Aside0.mk hc1
 clear hr1 hc1
 have HB := Aside0.mk (Below.refl w.heap.size w)
 have H : ((cone_Cover.f k l1).bind fun t354 => ((cone_Cover.f k l1).bind fun t357 => ((copseref15_Cover.f k l1).bind fun t360 => ((copselaw15_alive.f k).bind fun t363 => (if t363 = true then ((copselaw15_apart.f (([t354, t357] : List (List ByteArray))) (([t360, t360] : List (List ByteArray)))).bind fun t370 => (if t370 = true then ((cone_Cover.f k l1).bind fun t371 => ((copselaw15_texts.f k t371 t360).bind fun t374 => (copselaw15_ConeFresh.j0 k l0 t360 (!t374)))) else (copselaw15_ConeFresh.j0 k l0 t360 true))) else (copselaw15_ConeFresh.j0 k l0 t360 true)))))) = some r := h
 clear h
 replace H := Option.bind_eq_some_iff.mp H
 obtain ⟨t354, A30, H⟩ := H
 try dsimp only at H
 have A3 := Aside0.mk A30
 clear A30
 replace H := Option.bind_eq_some_iff.mp H
 obtain ⟨t357, A40, H⟩ := H
 try dsimp only at H
 have A4 := Aside0.mk A40
 clear A40
 replace H := Option.bind_eq_some_iff.mp H
 obtain ⟨t360, A50, H⟩ := H
 try dsimp only at H
 have A5 := Aside0.mk A50
 clear A50
 have HC6 := Aside0.mk H
 clear H
 go_enter Tryz.func3, Tryz.ntmps3
 go_upto_region 4 with (first | ((with_reducible refine gate_callee (f := 4) rfl ?_); refine goesL_ (some 24) rfl rfl Tryz.func4 (by kernel_rfl) rfl #[.slice A1 l1.length c1] rfl (by (try simp only [List.map_toArray, List.map_cons, List.map_nil]); first | done | rfl | (simp only [List.length_drop, List.length_take]; rfl)) ?_; (with_reducible refine (cone_Cover.calls k _ _ l1 t354 _ ?side1 ?side2 A3.out).mono ?_); (case side1 => repeat (first | exact HR1.out | (with_reducible refine Kd.C_alloc ?_ _) | (with_reducible refine Kd.C_drewN ?_ _) | (with_reducible refine Kd.C_drew ?_))); (case side2 => exact HC1.out); rintro e w7 ⟨v355, rfl, ho0, hb⟩; refine ⟨_, rfl, ?_⟩; have n0_ := Aside0.mk (Kd.R_lower ho0 (below_size (by repeat (first | (with_reducible first | exact HB.out | apply below_alloc | apply pw_below_drewN | apply below_drew1) | exact HB.out)))); have n1_ := Aside0.mk (below_step (by repeat (first | (with_reducible first | exact HB.out | apply below_alloc | apply pw_below_drewN | apply below_drew1) | exact HB.out)) hb); clear HB; have HO356 := n0_; have HB := n1_; clear n0_ n1_; (try clear hb); (try clear hb2); (try clear hk); (try clear hi); (try clear ho0)) | ((with_reducible refine gate_callee (f := 4) rfl ?_); refine goesL_ (some 26) rfl rfl Tryz.func4 (by kernel_rfl) rfl #[.slice A1 l1.length c1] rfl (by (try simp only [List.map_toArray, List.map_cons, List.map_nil]); first | done | rfl | (simp only [List.length_drop, List.length_take]; rfl)) ?_; (with_reducible refine (cone_Cover.calls k _ _ l1 t357 _ ?side1 ?side2 A4.out).mono ?_); (case side1 => repeat (first | exact (Kd.C_below HR1.out HB.out) | (with_reducible refine Kd.C_alloc ?_ _) | (with_reducible refine Kd.C_drewN ?_ _) | (with_reducible refine Kd.C_drew ?_))); (case side2 => exact HC1.out); rintro e w8 ⟨v358, rfl, ho0, hb⟩; refine ⟨_, rfl, ?_⟩; have n0_ := Aside0.mk (Kd.R_elder' (by (with_reducible repeat (first | apply Kd.R_alloc | apply Kd.R_drewN | apply Kd.R_drew)); exact HO356.out) (Kd.R_base ho0) hb); have n1_ := Aside0.mk (Kd.R_lower (Kd.R_new' ho0 (Kd.R_lt (by (with_reducible repeat (first | apply Kd.R_alloc | apply Kd.R_drewN | apply Kd.R_drew)); exact HO356.out))) (below_size (by repeat (first | (with_reducible first | exact HB.out | apply below_alloc | apply pw_below_drewN | apply below_drew1) | exact HB.out)))); have n2_ := Aside0.mk (below_step (by repeat (first | (with_reducible first | exact HB.out | apply below_alloc | apply pw_below_drewN | apply below_drew1) | exact HB.out)) hb); clear HO356; clear HB; have HO356 := n0_; have HO359 := n1_; have HB := n2_; clear n0_ n1_ n2_; (try clear hb); (try clear hb2); (try clear hk); (try clear hi); (try clear ho0)) | ((with_reducible refine gate_callee (f := 5) rfl ?_); refine goesL_ (some 28) rfl rfl Tryz.func5 (by kernel_rfl) rfl #[.slice A1 l1.length c1] rfl (by (try simp only [List.map_toArray, List.map_cons, List.map_nil]); first | done | rfl | (simp only [List.length_drop, List.length_take]; rfl)) ?_; (with_reducible refine (copseref15_Cover.calls k _ _ l1 t360 _ ?side1 ?side2 A5.out).mono ?_); (case side1 => repeat (first | exact (Kd.C_below HR1.out HB.out) | (with_reducible refine Kd.C_alloc ?_ _) | (with_reducible refine Kd.C_drewN ?_ _) | (with_reducible refine Kd.C_drew ?_))); (case side2 => exact HC1.out); rintro e w9 ⟨v361, rfl, ho0, hb⟩; refine ⟨_, rfl, ?_⟩; have n0_ := Aside0.mk (Kd.R_elder' (by (with_reducible repeat (first | apply Kd.R_alloc | apply Kd.R_drewN | apply Kd.R_drew)); exact HO356.out) (Kd.R_base ho0) hb); have n1_ := Aside0.mk (Kd.R_elder' (by (with_reducible repeat (first | apply Kd.R_alloc | apply Kd.R_drewN | apply Kd.R_drew)); exact HO359.out) (Kd.R_base ho0) hb); have n2_ := Aside0.mk (Kd.R_lower (Kd.R_new' (Kd.R_new' ho0 (Kd.R_lt (by (with_reducible repeat (first | apply Kd.R_alloc | apply Kd.R_drewN | apply Kd.R_drew)); exact HO356.out))) (Kd.R_lt (by (with_reducible repeat (first | apply Kd.R_alloc | apply Kd.R_drewN | apply Kd.R_drew)); exact HO359.out))) (below_size (by repeat (first | (with_reducible first | exact HB.out | apply below_alloc | apply pw_below_drewN | apply below_drew1) | exact HB.out)))); have n3_ := Aside0.mk (below_step (by repeat (first | (with_reducible first | exact HB.out | apply below_alloc | apply pw_below_drewN | apply below_drew1) | exact HB.out)) hb); clear HO356; clear HO359; clear HB; have HO356 := n0_; have HO359 := n1_; have HO362 := n2_; have HB := n3_; clear n0_ n1_ n2_ n3_; (try clear hb); (try clear hb2); (try clear hk); (try clear hi); (try clear ho0)))
 (try simp only [Act.put, List.setIfInBounds_toArray, List.set_cons_zero, List.set_cons_succ])
 go_cut [47] (fun v47 wc => ∃ (kq : Nat) (x47_5 : Bool), v47 = .bool x47_5 ∧ Aside0 (copselaw15_ConeFresh.j0 kq l0 t360 x47_5 = some r) ∧ Aside0 (kq ≤ k) ∧ Aside0 (Kd.R Kd.string 9 wc w.heap.size (fun _ => True) v361 t360) ∧ Aside0 (Below w.heap.size w wc))
 case first =>
  as_aux_lemma =>
  have H := HC6.out
  clear HC6
  replace H := Option.bind_eq_some_iff.mp H
  obtain ⟨t363, A100, H⟩ := H
  try dsimp only at H
  have A10 := Aside0.mk A100
  clear A100
  by_cases c11 : t363 = true
  ·subst c11
   rw [if_pos rfl] at H
   have H1 := H
   clear H
   have H := H1
   clear H1
   obtain ⟨y364, hy364⟩ : ∃ y_ : List (List ByteArray), y_ = (([t354, t357] : List (List ByteArray))) := ⟨_, rfl⟩
   replace H : ((copselaw15_apart.f y364 (([t360, t360] : List (List ByteArray)))).bind fun t370 => (if t370 = true then ((cone_Cover.f k l1).bind fun t371 => ((copselaw15_texts.f k t371 t360).bind fun t374 => (copselaw15_ConeFresh.j0 k l0 t360 (!t374)))) else (copselaw15_ConeFresh.j0 k l0 t360 true))) = some r := by first | (rw [hy364]; with_reducible exact H) | (have H2_ := (Option.bind_some _ _).symm.trans H; rw [hy364]; with_reducible exact H2_) | (have H2_ := (Option.bind_some _ _).symm.trans H; with_reducible exact H2_) | with_reducible exact H | (rw [hy364]; exact H) | exact H
   have Ny364 := Aside0.mk hy364
   clear hy364
   obtain ⟨y367, hy367⟩ : ∃ y_ : List (List ByteArray), y_ = (([t360, t360] : List (List ByteArray))) := ⟨_, rfl⟩
   replace H : ((copselaw15_apart.f y364 y367).bind fun t370 => (if t370 = true then ((cone_Cover.f k l1).bind fun t371 => ((copselaw15_texts.f k t371 t360).bind fun t374 => (copselaw15_ConeFresh.j0 k l0 t360 (!t374)))) else (copselaw15_ConeFresh.j0 k l0 t360 true))) = some r := by first | (rw [hy367]; with_reducible exact H) | (have H2_ := (Option.bind_some _ _).symm.trans H; rw [hy367]; with_reducible exact H2_) | (have H2_ := (Option.bind_some _ _).symm.trans H; with_reducible exact H2_) | with_reducible exact H | (rw [hy367]; exact H) | exact H
   have Ny367 := Aside0.mk hy367
   clear hy367
   replace H := Option.bind_eq_some_iff.mp H
   obtain ⟨t370, A120, H⟩ := H
   try dsimp only at H
   have A12 := Aside0.mk A120
   clear A120
   by_cases c13 : t370 = true
   ·subst c13
    rw [if_pos rfl] at H
    have H1 := H
    clear H
    have H := H1
    clear H1
    replace H := Option.bind_eq_some_iff.mp H
    obtain ⟨t371, A140, H⟩ := H
    try dsimp only at H
    have A14 := Aside0.mk A140
    clear A140
    replace H := Option.bind_eq_some_iff.mp H
    obtain ⟨t374, A150, H⟩ := H
    try dsimp only at H
    have A15 := Aside0.mk A150
    clear A150
    have H' := Aside0.mk H
    clear H
    go_wp2_with fail
    refine (aliveCW _).mono ?_
    rintro e wa ⟨rfl, hba⟩
    have P356 := Aside0.mk (Kd.R_below HO356.out hba)
    have P359 := Aside0.mk (Kd.R_below HO359.out hba)
    have P362 := Aside0.mk (Kd.R_below HO362.out hba)
    have HBa := Aside0.mk (below_step HB.out hba)
    clear HO356 HO359 HO362 HB hba
    have hyp : t354 = t360 ∧ t357 = t360 ∧ t360.length ≤ 4294967000 := by
     have h := A12.out
     rw [Ny364.out, Ny367.out] at h
     unfold copselaw15_apart.f at h
     split at h
     ·rename_i hh
      obtain ⟨h1, _, h3⟩ := hh
      injection h1 with h1 h2; injection h2 with h2 _
      exact ⟨h1, h2, h1 ▸ h3 t354 List.mem_cons_self⟩
     ·cases h
    obtain ⟨e354, e357, hlen⟩ := hyp
    obtain ⟨s1, hk1⟩ := OS.of_R (e354 ▸ P356.out)
    obtain ⟨s2, hk2⟩ := OS.of_R (e357 ▸ P359.out)
    have D12 := Aside0.mk (show ∀ q, v355.ownBlock = some q → v358.ownBlock ≠ some q from fun q h1 h2 => (P356.out.1 q h1).1.2 h2.symm)
    have K1 := Aside0.mk hk1
    have K2 := Aside0.mk hk2
    obtain ⟨Aa, na, hva, _, _⟩ := s1.reads
    subst hva
    obtain ⟨Ab, nb, hvb, _, _⟩ := s2.reads
    subst hvb
    obtain ⟨Ac, nc, hvc, lc, rc⟩ := Kd.R_reads P362.out
    subst hvc
    have S1 := Aside0.mk s1
    have S2 := Aside0.mk s2
    have RC := Aside0.mk rc
    clear s1 s2 rc hk1 hk2 P356 P359 e354 e357 A12 Ny364 Ny367 A3 A4
    go_wp2_with fail
    refine (apart15 _ wa.heap.size (wa.heap.size + 1) (.slice Aa t360.length na) (.slice Ab t360.length nb) t360 t360 Ac Ac nc nc ?hl ?hw ?o1 ?o2 D12.out ?q1 lc ?q2 lc hlen hlen).mono ?_
    case hl => rw [heap_alloc_old _ _ (by simp)]; exact heap_alloc_new wa _
    case hw => have := heap_alloc_new (wa.alloc (.cells #[.slice Aa t360.length na, .slice Ab t360.length nb] 23)) (.cells #[.slice Ac t360.length nc, .slice Ac t360.length nc] 23); rwa [World.size_alloc] at this
    case o1 => exact (S1.out.alloc _).alloc _
    case o2 => exact (S2.out.alloc _).alloc _
    case q1 => exact Kd.C_alloc (Kd.C_alloc RC.out _) _
    case q2 => exact Kd.C_alloc (Kd.C_alloc RC.out _) _
    rintro e wb ⟨rfl, hbb⟩
    have Q362 := Aside0.mk (Kd.R_step (w1 := wb) (Kd.R_alloc (Kd.R_alloc P362.out _) _) (fun q hq hlt => hbb.block q hlt (by rintro (h | h | h); exact hq.1.2 h.symm; exact hq.2 h.symm; omega)))
    have h5 : Below w.heap.size w ((wa.alloc (.cells #[.slice Aa t360.length na, .slice Ab t360.length nb] 23)).alloc (.cells #[.slice Ac t360.length nc, .slice Ac t360.length nc] 23)) := below_alloc (below_alloc HBa.out _) _
    have HBb := Aside0.mk (h5.trans (hbb.below h5.size (by rintro q (h | h | h); exact K1.out q h; exact K2.out q h; exact Nat.le_trans h5.size h)))
    clear hbb h5 P362 S1 S2 RC HBa D12 K1 K2
    go_wp2_with fail
    refine (cone_Cover.calls k _ _ l1 t371 _ (Kd.C_below HR1.out HBb.out) HC1.out A14.out).mono ?_
    rintro e wc ⟨vc, rfl, hoc, hbc⟩
    obtain ⟨Ad, nd, hvd, ld, rd⟩ := Kd.R_reads hoc
    subst hvd
    have R362 := Aside0.mk (Kd.R_below Q362.out hbc)
    have RD := Aside0.mk rd
    have HBc := Aside0.mk (below_step HBb.out hbc)
    clear hoc hbc rd Q362 HBb
    go_wp2_with fail
    refine (copselaw15_texts.calls k _ _ t371 _ _ t360 t374 _ RD.out ld (Kd.R_reads' R362.out).2.2 (Kd.R_reads' R362.out).2.1 A15.out).mono ?_
    rintro e wd ⟨rfl, ⟨⟨qd, rfl⟩⟩⟩
    have HO362 := Aside0.mk (Kd.R_mono (ok' := fun _ => True) (Kd.R_drewN R362.out qd) (fun _ _ => trivial))
    have HB := Aside0.mk (pw_below_drewN HBc.out qd)
    clear RD R362 HBc
    go_wp2
    go_meet
    case rel => exact ⟨_, (!t374), (by first | rfl | (simp; done) | (simp [*]; done)), H', ⟨by first | omega | exact Nat.le_refl _⟩, ⟨by (with_reducible repeat (first | apply Kd.R_alloc | apply Kd.R_drewN | apply Kd.R_drew)); exact HO362.out⟩, ⟨by repeat (first | (with_reducible first | exact HB.out | apply below_alloc | apply pw_below_drewN | apply below_drew1) | exact HB.out)⟩⟩
   ·replace c13 := Bool.eq_false_iff.mpr c13
    subst c13
    have H1 : (copselaw15_ConeFresh.j0 k l0 t360 true) = some r := by rw [if_neg (show ¬ (false = true) by decide)] at H; exact H
    exact absurd (H1.trans (congrArg some hrt)) (by cases k <;> simp [copselaw15_ConeFresh.j0])
  ·replace c11 := Bool.eq_false_iff.mpr c11
   subst c11
   have H1 : (copselaw15_ConeFresh.j0 k l0 t360 true) = some r := by rw [if_neg (show ¬ (false = true) by decide)] at H; exact H
   exact absurd (H1.trans (congrArg some hrt)) (by cases k <;> simp [copselaw15_ConeFresh.j0])
 case rest =>
  as_aux_lemma =>
  clear HC6
  try clear c1
  try clear p2
  try clear c3
  try clear c4
  try clear c5
  try clear c6
  try clear c11
  try clear c13
  obtain ⟨kq, x47_5, rfl, HA, HJ5, HO_7, HB⟩ := hcut
  cases kq with
  | zero => exact absurd HA.out (by simp [copselaw15_ConeFresh.j0])
  | succ kj5 =>
   have H := HA.out
   clear HA
   simp only [copselaw15_ConeFresh.j0] at H
   by_cases c39 : x47_5 = true
   ·subst c39
    rw [if_pos rfl] at H
    have H1 := H
    exact absurd (H1.trans (congrArg some hrt)) (by simp)
   ·replace c39 := Bool.eq_false_iff.mpr c39
    subst c39
    have H1 : ((cone_View.f kj5 l0 t360).bind fun bt375 => ((cone_View.f kj5 l0 t360).bind fun bt379 => ((copseref15_View.f kj5 l0 t360).bind fun bt383 => ((copselaw15_files.f kj5 bt375.1 bt383.1).bind fun t387 => (if t387 = true then ((copselaw15_files.f kj5 bt379.1 bt383.1).bind fun t388 => (copselaw15_ConeFresh.j1 kj5 l0 t360 bt375.1 bt379.1 bt383.1 (!t388))) else (copselaw15_ConeFresh.j1 kj5 l0 t360 bt375.1 bt379.1 bt383.1 true)))))) = some r := by rw [if_neg (show ¬ (false = true) by decide)] at H; exact H
    clear H
    have H := H1
    clear H1
    replace H := Option.bind_eq_some_iff.mp H
    obtain ⟨⟨t375, t376⟩, A400, H⟩ := H
    try dsimp only at H
    have A40 := Aside0.mk A400
    clear A400
    replace H := Option.bind_eq_some_iff.mp H
    obtain ⟨⟨t379, t380⟩, A410, H⟩ := H
    try dsimp only at H
    have A41 := Aside0.mk A410
    clear A410
    replace H := Option.bind_eq_some_iff.mp H
    obtain ⟨⟨t383, t384⟩, A420, H⟩ := H
    try dsimp only at H
    have A42 := Aside0.mk A420
    clear A420
    have HC43 := Aside0.mk H
    clear H
    obtain ⟨Ao44, co44, eo44⟩ := Kd.R_slice HO_7.out
    subst eo44
    go_upto_region 9 with (first | ((with_reducible refine gate_callee (f := 9) rfl ?_); refine goesL_ (some 51) rfl rfl Tryz.func9 (by kernel_rfl) rfl #[.slice A0 l0.length c0, .slice Ao44 t360.length co44] rfl (by (try simp only [List.map_toArray, List.map_cons, List.map_nil]); first | done | rfl | (simp only [List.length_drop, List.length_take]; rfl)) ?_; (with_reducible refine (cone_View.calls kj5 _ _ l0 _ _ t360 t375 t376 _ ?side1 ?side2 ?side3 ?side4 A40.out).mono ?_); (case side1 => repeat (first | exact (Kd.C_below HR0.out HB.out) | (with_reducible refine Kd.C_alloc ?_ _) | (with_reducible refine Kd.C_drewN ?_ _) | (with_reducible refine Kd.C_drew ?_))); (case side2 => exact HC0.out); (case side3 => repeat (first | exact (Kd.R_reads' HO_7.out).2.2 | (with_reducible refine Kd.C_alloc ?_ _) | (with_reducible refine Kd.C_drewN ?_ _) | (with_reducible refine Kd.C_drew ?_))); (case side4 => exact (Kd.R_reads' HO_7.out).2.1); rintro e w45 ⟨v377, rfl, ho0, hb⟩; refine ⟨_, rfl, ?_⟩; have n0_ := Aside0.mk (Kd.R_below (by (with_reducible repeat (first | apply Kd.R_alloc | apply Kd.R_drewN | apply Kd.R_drew)); exact HO_7.out) hb); have n1_ := Aside0.mk (Kd.R_lower ho0 (below_size (by repeat (first | (with_reducible first | exact HB.out | apply below_alloc | apply pw_below_drewN | apply below_drew1) | exact HB.out)))); have n2_ := Aside0.mk (below_step (by repeat (first | (with_reducible first | exact HB.out | apply below_alloc | apply pw_below_drewN | apply below_drew1) | exact HB.out)) hb); clear HO_7; clear HB; have HO_7 := n0_; have HO378 := n1_; have HB := n2_; clear n0_ n1_ n2_; (try clear hb); (try clear hb2); (try clear hk); (try clear hi); (try clear ho0)) | ((with_reducible refine gate_callee (f := 9) rfl ?_); refine goesL_ (some 57) rfl rfl Tryz.func9 (by kernel_rfl) rfl #[.slice A0 l0.length c0, .slice Ao44 t360.length co44] rfl (by (try simp only [List.map_toArray, List.map_cons, List.map_nil]); first | done | rfl | (simp only [List.length_drop, List.length_take]; rfl)) ?_; (with_reducible refine (cone_View.calls kj5 _ _ l0 _ _ t360 t379 t380 _ ?side1 ?side2 ?side3 ?side4 A41.out).mono ?_); (case side1 => repeat (first | exact (Kd.C_below HR0.out HB.out) | (with_reducible refine Kd.C_alloc ?_ _) | (with_reducible refine Kd.C_drewN ?_ _) | (with_reducible refine Kd.C_drew ?_))); (case side2 => exact HC0.out); (case side3 => repeat (first | exact (Kd.R_reads' HO_7.out).2.2 | (with_reducible refine Kd.C_alloc ?_ _) | (with_reducible refine Kd.C_drewN ?_ _) | (with_reducible refine Kd.C_drew ?_))); (case side4 => exact (Kd.R_reads' HO_7.out).2.1); rintro e w46 ⟨v381, rfl, ho0, hb⟩; refine ⟨_, rfl, ?_⟩; have n0_ := Aside0.mk (Kd.R_below (by (with_reducible repeat (first | apply Kd.R_alloc | apply Kd.R_drewN | apply Kd.R_drew)); exact HO_7.out) hb); have n1_ := Aside0.mk (Kd.R_elder' (by (with_reducible repeat (first | apply Kd.R_alloc | apply Kd.R_drewN | apply Kd.R_drew)); exact HO378.out) (Kd.R_base ho0) hb); have n2_ := Aside0.mk (Kd.R_lower (Kd.R_new' ho0 (Kd.R_lt (by (with_reducible repeat (first | apply Kd.R_alloc | apply Kd.R_drewN | apply Kd.R_drew)); exact HO378.out))) (below_size (by repeat (first | (with_reducible first | exact HB.out | apply below_alloc | apply pw_below_drewN | apply below_drew1) | exact HB.out)))); have n3_ := Aside0.mk (below_step (by repeat (first | (with_reducible first | exact HB.out | apply below_alloc | apply pw_below_drewN | apply below_drew1) | exact HB.out)) hb); clear HO_7; clear HO378; clear HB; have HO_7 := n0_; have HO378 := n1_; have HO382 := n2_; have HB := n3_; clear n0_ n1_ n2_ n3_; (try clear hb); (try clear hb2); (try clear hk); (try clear hi); (try clear ho0)) | ((with_reducible refine gate_callee (f := 10) rfl ?_); refine goesL_ (some 63) rfl rfl Tryz.func10 (by kernel_rfl) rfl #[.slice A0 l0.length c0, .slice Ao44 t360.length co44] rfl (by (try simp only [List.map_toArray, List.map_cons, List.map_nil]); first | done | rfl | (simp only [List.length_drop, List.length_take]; rfl)) ?_; (with_reducible refine (copseref15_View.calls kj5 _ _ l0 _ _ t360 t383 t384 _ ?side1 ?side2 ?side3 ?side4 A42.out).mono ?_); (case side1 => repeat (first | exact (Kd.C_below HR0.out HB.out) | (with_reducible refine Kd.C_alloc ?_ _) | (with_reducible refine Kd.C_drewN ?_ _) | (with_reducible refine Kd.C_drew ?_))); (case side2 => exact HC0.out); (case side3 => repeat (first | exact (Kd.R_reads' HO_7.out).2.2 | (with_reducible refine Kd.C_alloc ?_ _) | (with_reducible refine Kd.C_drewN ?_ _) | (with_reducible refine Kd.C_drew ?_))); (case side4 => exact (Kd.R_reads' HO_7.out).2.1); rintro e w47 ⟨v385, rfl, ho0, hb⟩; refine ⟨_, rfl, ?_⟩; have n0_ := Aside0.mk (Kd.R_below (by (with_reducible repeat (first | apply Kd.R_alloc | apply Kd.R_drewN | apply Kd.R_drew)); exact HO_7.out) hb); have n1_ := Aside0.mk (Kd.R_elder' (by (with_reducible repeat (first | apply Kd.R_alloc | apply Kd.R_drewN | apply Kd.R_drew)); exact HO378.out) (Kd.R_base ho0) hb); have n2_ := Aside0.mk (Kd.R_elder' (by (with_reducible repeat (first | apply Kd.R_alloc | apply Kd.R_drewN | apply Kd.R_drew)); exact HO382.out) (Kd.R_base ho0) hb); have n3_ := Aside0.mk (Kd.R_lower (Kd.R_new' (Kd.R_new' ho0 (Kd.R_lt (by (with_reducible repeat (first | apply Kd.R_alloc | apply Kd.R_drewN | apply Kd.R_drew)); exact HO378.out))) (Kd.R_lt (by (with_reducible repeat (first | apply Kd.R_alloc | apply Kd.R_drewN | apply Kd.R_drew)); exact HO382.out))) (below_size (by repeat (first | (with_reducible first | exact HB.out | apply below_alloc | apply pw_below_drewN | apply below_drew1) | exact HB.out)))); have n4_ := Aside0.mk (below_step (by repeat (first | (with_reducible first | exact HB.out | apply below_alloc | apply pw_below_drewN | apply below_drew1) | exact HB.out)) hb); clear HO_7; clear HO378; clear HO382; clear HB; have HO_7 := n0_; have HO378 := n1_; have HO382 := n2_; have HO386 := n3_; have HB := n4_; clear n0_ n1_ n2_ n3_ n4_; (try clear hb); (try clear hb2); (try clear hk); (try clear hi); (try clear ho0)))
    (try simp only [Act.put, List.setIfInBounds_toArray, List.set_cons_zero, List.set_cons_succ])
    go_cut [75] (fun v75 wc => ∃ (kq : Nat) (x75_42 : Bool), v75 = .bool x75_42 ∧ Aside0 (copselaw15_ConeFresh.j1 kq l0 t360 t375 t379 t383 x75_42 = some r) ∧ Aside0 (kq ≤ kj5) ∧ Aside0 (Kd.R Kd.string 9 wc w.heap.size (fun _ => True) (.slice Ao44 t360.length co44) t360) ∧ Aside0 (Kd.R k36 36 wc w.heap.size (fun k_ => some k_ ≠ (v381 : Value).ownBlock ∧ some k_ ≠ (v385 : Value).ownBlock) v377 t375) ∧ Aside0 (Kd.R k36 36 wc w.heap.size (fun k_ => some k_ ≠ (v377 : Value).ownBlock ∧ some k_ ≠ (v385 : Value).ownBlock) v381 t379) ∧ Aside0 (Kd.R k36 36 wc w.heap.size (fun k_ => some k_ ≠ (v377 : Value).ownBlock ∧ some k_ ≠ (v381 : Value).ownBlock) v385 t383) ∧ Aside0 (Below w.heap.size w wc))
    case first =>
     as_aux_lemma =>
     have H := HC43.out
     clear HC43
     replace H := Option.bind_eq_some_iff.mp H
     obtain ⟨t387, A480, H⟩ := H
     try dsimp only at H
     have A48 := Aside0.mk A480
     clear A480
     by_cases c49 : t387 = true
     ·subst c49
      rw [if_pos rfl] at H
      have H1 := H
      clear H
      have H := H1
      clear H1
      replace H := Option.bind_eq_some_iff.mp H
      obtain ⟨t388, A500, H⟩ := H
      try dsimp only at H
      have A50 := Aside0.mk A500
      clear A500
      have H' := Aside0.mk H
      clear H
      obtain ⟨Ao51, co51, eo51⟩ := Kd.R_slice HO378.out
      subst eo51
      obtain ⟨Ao52, co52, eo52⟩ := Kd.R_slice HO386.out
      subst eo52
      go_wp2_with (first | ((with_reducible refine gate_callee (f := 11) rfl ?_); refine goesL_ (some 68) rfl rfl Tryz.func11 (by kernel_rfl) rfl #[.slice Ao51 t375.length co51, .slice Ao52 t383.length co52] rfl (by (try simp only [List.map_toArray, List.map_cons, List.map_nil]); first | done | rfl | (simp only [List.length_drop, List.length_take]; rfl)) ?_; (with_reducible refine (copselaw15_files.calls kj5 _ _ t375 _ _ t383 true _ ?side1 ?side2 ?side3 ?side4 A48.out).mono ?_); (case side1 => repeat (first | exact (Kd.R_reads' HO378.out).2.2 | (with_reducible refine Kd.C_alloc ?_ _) | (with_reducible refine Kd.C_drewN ?_ _) | (with_reducible refine Kd.C_drew ?_))); (case side2 => exact (Kd.R_reads' HO378.out).2.1); (case side3 => repeat (first | exact (Kd.R_reads' HO386.out).2.2 | (with_reducible refine Kd.C_alloc ?_ _) | (with_reducible refine Kd.C_drewN ?_ _) | (with_reducible refine Kd.C_drew ?_))); (case side4 => exact (Kd.R_reads' HO386.out).2.1); rintro e w' ⟨rfl, ⟨nd, rfl⟩⟩; refine ⟨_, rfl, ?_⟩; obtain ⟨Ao53, co53, eo53⟩ := Kd.R_slice HO382.out; subst eo53) | (go_at_call 11; (with_reducible refine (copselaw15_files.calls kj5 _ _ t379 _ _ t383 t388 _ ?side1 ?side2 ?side3 ?side4 A50.out).mono ?_); (case side1 => repeat (first | exact (Kd.R_reads' HO382.out).2.2 | (with_reducible refine Kd.C_alloc ?_ _) | (with_reducible refine Kd.C_drewN ?_ _) | (with_reducible refine Kd.C_drew ?_))); (case side2 => exact (Kd.R_reads' HO382.out).2.1); (case side3 => repeat (first | exact (Kd.R_reads' HO386.out).2.2 | (with_reducible refine Kd.C_alloc ?_ _) | (with_reducible refine Kd.C_drewN ?_ _) | (with_reducible refine Kd.C_drew ?_))); (case side4 => exact (Kd.R_reads' HO386.out).2.1); rintro e w' ⟨rfl, ⟨nd, rfl⟩⟩))
      go_meet
      case rel => exact ⟨_, (!t388), (by first | rfl | (simp; done) | (simp [*]; done)), H', ⟨by have := HJ5.out; first | omega | exact Nat.le_refl _⟩, ⟨by (with_reducible repeat (first | apply Kd.R_alloc | apply Kd.R_drewN | apply Kd.R_drew)); exact HO_7.out⟩, ⟨by (with_reducible repeat (first | apply Kd.R_alloc | apply Kd.R_drewN | apply Kd.R_drew)); exact Kd.R_mono HO378.out (fun _ hk => ⟨hk.1.2, hk.2⟩)⟩, ⟨by (with_reducible repeat (first | apply Kd.R_alloc | apply Kd.R_drewN | apply Kd.R_drew)); exact Kd.R_mono HO382.out (fun _ hk => ⟨hk.1.2, hk.2⟩)⟩, ⟨by (with_reducible repeat (first | apply Kd.R_alloc | apply Kd.R_drewN | apply Kd.R_drew)); exact Kd.R_mono HO386.out (fun _ hk => ⟨hk.1.2, hk.2⟩)⟩, ⟨by repeat (first | (with_reducible first | exact HB.out | apply below_alloc | apply pw_below_drewN | apply below_drew1) | exact HB.out)⟩⟩
     ·replace c49 := Bool.eq_false_iff.mpr c49
      subst c49
      have H1 : (copselaw15_ConeFresh.j1 kj5 l0 t360 t375 t379 t383 true) = some r := by rw [if_neg (show ¬ (false = true) by decide)] at H; exact H
      exact absurd (H1.trans (congrArg some hrt)) (by cases kj5 <;> simp [copselaw15_ConeFresh.j1])
    case rest =>
     as_aux_lemma =>
     clear HC43
     try clear c1
     try clear p2
     try clear c3
     try clear c4
     try clear c5
     try clear c6
     try clear c9
     try clear c10
     try clear c11
     try clear c13
     try clear c39
     try clear c49
     try clear p2
     obtain ⟨kq, x75_42, rfl, HA, HJ42, HO_7, HO_8, HO_10, HO_12, HB⟩ := hcut
     cases kq with
     | zero => exact absurd HA.out (by simp [copselaw15_ConeFresh.j1])
     | succ kj42 =>
      have H := HA.out
      clear HA
      simp only [copselaw15_ConeFresh.j1] at H
      by_cases c56 : x75_42 = true
      ·subst c56
       rw [if_pos rfl] at H
       have H1 := H
       exact absurd (H1.trans (congrArg some hrt)) (by simp)
      ·replace c56 := Bool.eq_false_iff.mpr c56
       subst c56
       have H1 : (copselaw15_ConeFresh.l0 kj42 l0 t360 t375 t379 t383 0) = some r := by rw [if_neg (show ¬ (false = true) by decide)] at H; exact H
       clear H
       have H := H1
       clear H1
       have H' := Aside0.mk H
       clear H
       go_wp2
       go_loopg [14] kj42 (fun kq v14 w' => ∃ (x8_3 : List (S36)) (x14_3 : Int), v14 = .int .i64 x14_3 ∧ Aside0 (copselaw15_ConeFresh.l0 kq l0 t360 x8_3 t379 t383 x14_3 = some r) ∧ Aside0 (kq ≤ kj42) ∧ Aside0 (Kd.R Kd.string 9 w' w.heap.size (fun _ => True) (.slice Ao44 t360.length co44) t360) ∧ Aside0 (Kd.R k36 36 w' w.heap.size (fun k_ => some k_ ≠ (v381 : Value).ownBlock ∧ some k_ ≠ (v385 : Value).ownBlock) v377 x8_3) ∧ Aside0 (Kd.R k36 36 w' w.heap.size (fun k_ => some k_ ≠ (v377 : Value).ownBlock ∧ some k_ ≠ (v385 : Value).ownBlock) v381 t379) ∧ Aside0 (Kd.R k36 36 w' w.heap.size (fun k_ => some k_ ≠ (v377 : Value).ownBlock ∧ some k_ ≠ (v381 : Value).ownBlock) v385 t383) ∧ Aside0 (Below w.heap.size w w'))
       case atStart => exact ⟨(t375), (0), (by first | rfl | (simp; done) | (simp [*]; done)), H', ⟨Nat.le_refl _⟩, ⟨by (with_reducible repeat (first | apply Kd.R_alloc | apply Kd.R_drewN | apply Kd.R_drew)); exact HO_7.out⟩, ⟨by (with_reducible repeat (first | apply Kd.R_alloc | apply Kd.R_drewN | apply Kd.R_drew)); exact HO_8.out⟩, ⟨by (with_reducible repeat (first | apply Kd.R_alloc | apply Kd.R_drewN | apply Kd.R_drew)); exact HO_10.out⟩, ⟨by (with_reducible repeat (first | apply Kd.R_alloc | apply Kd.R_drewN | apply Kd.R_drew)); exact HO_12.out⟩, ⟨by repeat (first | (with_reducible first | exact HB.out | apply below_alloc | apply pw_below_drewN | apply below_drew1) | exact HB.out)⟩⟩
       case round =>
        as_aux_lemma =>
        clear H'
        try clear c1
        try clear p2
        try clear c3
        try clear c4
        try clear c5
        try clear c6
        try clear c9
        try clear c10
        try clear c11
        try clear c13
        try clear c39
        try clear c49
        try clear c56
        try clear p2
        obtain ⟨x8_3, x14_3, rfl, HA, HK3, HO_7, HO_8, HO_10, HO_12, HB⟩ := hrel
        cases gk with
        | zero => exact absurd HA.out (by simp [copselaw15_ConeFresh.l0])
        | succ k3 =>
         have H := HA.out
         clear HA
         simp only [copselaw15_ConeFresh.l0] at H
         by_cases c57 : x14_3 < (x8_3.length : Int)
         ·rw [if_pos c57] at H
          have c57b0 := decide_eq_true c57
          clear c57
          by_cases c58 : 0 ≤ x14_3
          ·rw [if_pos c58] at H
           have c58b0 := decide_eq_true c58
           clear c58
           obtain ⟨y389, hy389⟩ : ∃ y_ : List (S36), y_ = (x8_3.set (x14_3 : Int).toNat (⟨(⟨#[49]⟩ : ByteArray), (⟨#[]⟩ : ByteArray), 0, 0⟩ : S36)) := ⟨_, rfl⟩
           replace H : (copselaw15_ConeFresh.l0 k3 l0 t360 y389 t379 t383 (wrap64 (x14_3 + 1))) = some r := by first | (rw [hy389]; with_reducible exact H) | (have H2_ := (Option.bind_some _ _).symm.trans H; rw [hy389]; with_reducible exact H2_) | (have H2_ := (Option.bind_some _ _).symm.trans H; with_reducible exact H2_) | with_reducible exact H | (rw [hy389]; exact H) | exact H
           have Ny389 := Aside0.mk hy389
           clear hy389
           have H' := Aside0.mk H
           clear H
           obtain ⟨Ao60, co60, eo60⟩ := Kd.R_slice HO_8.out
           subst eo60
           have p59 : 0 ≤ (x14_3 : Int) := of_decide_eq_true (by first | (with_reducible assumption) | assumption)
           have q59 : (x14_3 : Int) < ((x8_3.length : Int) : Int) := of_decide_eq_true (by first | (with_reducible assumption) | assumption)
           obtain ⟨go59, co59, eo59, gb59, gl59, cl59, HG59⟩ := Kd.R_form HO_8.out (by omega)
           (first | cases eo59 | (injection eo59 with ea_ en_ ec_; (first | subst ea_ | (injection ea_ with ea_; subst ea_)); subst ec_; clear en_))
           have GB59 := Aside0.mk gb59
           have GG59 := Aside0.mk HG59
           clear gb59 gl59 HG59
           obtain ⟨ce59, hcl59, hM59, hcc59, hfr59⟩ := Kd.R_elem HO_8.out z36 (x14_3 : Int) p59 q59
           obtain rfl := k36_openM hM59
           have hx59_0 : wr.cell? ⟨go59, (x14_3 : Int).toNat * 4, none⟩ = some (.string ((rd_T36 x8_3 x14_3).f0)) := hcc59 0 _ rfl
           have hx59_1 : wr.cell? ⟨go59, (x14_3 : Int).toNat * 4 + 1, none⟩ = some (.string ((rd_T36 x8_3 x14_3).f1)) := hcc59 1 _ rfl
           have hx59_2 : wr.cell? ⟨go59, (x14_3 : Int).toNat * 4 + 2, none⟩ = some (.int .i64 ((rd_T36 x8_3 x14_3).f2)) := hcc59 2 _ rfl
           have hx59_3 : wr.cell? ⟨go59, (x14_3 : Int).toNat * 4 + 3, none⟩ = some (.int .i64 ((rd_T36 x8_3 x14_3).f3)) := hcc59 3 _ rfl
           have hf59_0 : wr.frozen? ⟨go59, (x14_3 : Int).toNat * 4, none⟩ = false := hfr59 0
           have hf59_1 : wr.frozen? ⟨go59, (x14_3 : Int).toNat * 4 + 1, none⟩ = false := hfr59 1
           have hf59_2 : wr.frozen? ⟨go59, (x14_3 : Int).toNat * 4 + 2, none⟩ = false := hfr59 2
           have hf59_3 : wr.frozen? ⟨go59, (x14_3 : Int).toNat * 4 + 3, none⟩ = false := hfr59 3
           clear hcl59 hcc59 hfr59 hM59
           replace p59 := eq_true p59
           replace q59 := eq_true q59
           have HX61 := Aside0.mk (show Kd.R k36 36 wr w.heap.size (fun k_ => some k_ ≠ (v381 : Value).ownBlock ∧ some k_ ≠ (v385 : Value).ownBlock) (.slice (some ⟨go59, 0, none⟩) x8_3.length co60) x8_3 from (by (with_reducible repeat (first | apply Kd.R_alloc | apply Kd.R_drewN | apply Kd.R_drew)); exact HO_8.out))
           obtain ⟨ce61, hcl61, hM61, hcc61, hfr61⟩ := Kd.R_elem HX61.out z36 (x14_3 : Int) (of_decide_eq_true (by first | (with_reducible assumption) | assumption)) (by have h_ : (x14_3 : Int) < ((x8_3.length : Int) : Int) := of_decide_eq_true (by first | (with_reducible assumption) | assumption); first | exact h_ | (have e_ := (Kd.R_reads' HO_8.out).1; omega) | simpa using h_)
           obtain rfl := k36_openM hM61
           have HP61 := Kd.R_seg HX61.out (x14_3 : Int) (of_decide_eq_true (by first | (with_reducible assumption) | assumption)) (by have h_ : (x14_3 : Int) < ((x8_3.length : Int) : Int) := of_decide_eq_true (by first | (with_reducible assumption) | assumption); first | exact h_ | (have e_ := (Kd.R_reads' HO_8.out).1; omega) | simpa using h_) (seg := [.string (⟨#[49]⟩ : ByteArray), .string (⟨#[]⟩ : ByteArray), .int .i64 0, .int .i64 0]) (j := 0) hcl61 hcc61 (show 4 ≤ 4 from by decide) (x' := (⟨(⟨#[49]⟩ : ByteArray), (⟨#[]⟩ : ByteArray), 0, 0⟩ : S36)) (k36_mkM _ _ _ (⟨(⟨#[49]⟩ : ByteArray), (⟨#[]⟩ : ByteArray), 0, 0⟩ : S36) ) (fun _ hk => hk)
           have hx61_0 := hcc61 0 _ rfl
           (try simp only [show (k36).sz = 4 from rfl, Nat.mul_one, Nat.add_zero] at hx61_0)
           have hf61_0 := hfr61 0
           (try simp only [show (k36).sz = 4 from rfl, Nat.mul_one, Nat.add_zero] at hf61_0)
           have hx61_1 := hcc61 1 _ rfl
           (try simp only [show (k36).sz = 4 from rfl, Nat.mul_one, Nat.add_zero] at hx61_1)
           have hf61_1 := hfr61 1
           (try simp only [show (k36).sz = 4 from rfl, Nat.mul_one, Nat.add_zero] at hf61_1)
           have hx61_2 := hcc61 2 _ rfl
           (try simp only [show (k36).sz = 4 from rfl, Nat.mul_one, Nat.add_zero] at hx61_2)
           have hf61_2 := hfr61 2
           (try simp only [show (k36).sz = 4 from rfl, Nat.mul_one, Nat.add_zero] at hf61_2)
           have hx61_3 := hcc61 3 _ rfl
           (try simp only [show (k36).sz = 4 from rfl, Nat.mul_one, Nat.add_zero] at hx61_3)
           have hf61_3 := hfr61 3
           (try simp only [show (k36).sz = 4 from rfl, Nat.mul_one, Nat.add_zero] at hf61_3)
           clear hcl61 hcc61 hfr61 hM61
           go_wp2_with (first | ((with_reducible refine gate_store (t := 36) (p := 85) rfl ?_); refine store_event (t := 36) (p := 85) (v := ?vo_w62) (w1 := ((((wr.setCell ⟨go59, (x14_3 : Int).toNat * 4, none⟩ (.string (⟨#[49]⟩ : ByteArray))).setCell ⟨go59, (x14_3 : Int).toNat * 4 + 1, none⟩ (.string (⟨#[]⟩ : ByteArray))).setCell ⟨go59, (x14_3 : Int).toNat * 4 + 2, none⟩ (.int .i64 0)).setCell ⟨go59, (x14_3 : Int).toNat * 4 + 3, none⟩ (.int .i64 0))) ?hg ?ho ?hn ?hr ?_; (case ho => rfl); (case hg => rfl); (case hn => rfl); (case hr => first | (go_simp; done) | (go_simp; rfl)); intro w62 hw; have hg : wr.grownBy w62 (some go59) := (by rw [hw]; exact HP61.2); have hp_ : Kd.R k36 36 w62 w.heap.size (fun k_ => some k_ ≠ (v381 : Value).ownBlock ∧ some k_ ≠ (v385 : Value).ownBlock) (.slice (some ⟨go59, 0, none⟩) x8_3.length co60) y389 := (by rw [hw, Ny389.out]; exact HP61.1); clear HP61; have n0_ := Aside0.mk (Kd.R_over' (v := (.slice (some ⟨go59, 0, none⟩) x8_3.length co60)) (by (with_reducible repeat (first | apply Kd.R_alloc | apply Kd.R_drewN | apply Kd.R_drew)); exact HO_7.out) (Kd.R_typed HO_8.out) (by decide) hg); have n1_ := Aside0.mk (hp_); have n2_ := Aside0.mk (Kd.R_after (v := (.slice (some ⟨go59, 0, none⟩) x8_3.length co60)) (v1 := (.slice (some ⟨go59, 0, none⟩) x8_3.length co60)) (ok := (fun k_ => some k_ ≠ (v385 : Value).ownBlock)) (by (with_reducible repeat (first | apply Kd.R_alloc | apply Kd.R_drewN | apply Kd.R_drew)); exact Kd.R_mono HO_10.out (fun _ hk => ⟨hk.2, hk.1⟩)) hg (.inl rfl)); have n3_ := Aside0.mk (Kd.R_after (v := (.slice (some ⟨go59, 0, none⟩) x8_3.length co60)) (v1 := (.slice (some ⟨go59, 0, none⟩) x8_3.length co60)) (ok := (fun k_ => some k_ ≠ (v381 : Value).ownBlock)) (by (with_reducible repeat (first | apply Kd.R_alloc | apply Kd.R_drewN | apply Kd.R_drew)); exact Kd.R_mono HO_12.out (fun _ hk => ⟨hk.2, hk.1⟩)) hg (.inl rfl)); have n4_ := Aside0.mk ((by rw [hw]; exact below_set (below_set (below_set (below_set (HB.out) GB59.out) GB59.out) GB59.out) GB59.out : Below w.heap.size w w62)); clear HO_7; clear HO_8; clear HO_10; clear HO_12; clear HB; have HO_7 := n0_; have HO_8 := n1_; have HO_10 := n2_; have HO_12 := n3_; have HB := n4_; clear n0_ n1_ n2_ n3_ n4_; clear hg hw hp_))
           go_roundg k3
           case measure => have := HJ5.out; have := HJ42.out; have := HK3.out; omega
           case rel => exact ⟨(y389), (wrap64 (x14_3 + 1)), (by first | rfl | (simp; done) | (simp [*]; done)), H', ⟨by have := HJ5.out; have := HJ42.out; have := HK3.out; omega⟩, ⟨by (with_reducible repeat (first | apply Kd.R_alloc | apply Kd.R_drewN | apply Kd.R_drew)); exact HO_7.out⟩, ⟨by (with_reducible repeat (first | apply Kd.R_alloc | apply Kd.R_drewN | apply Kd.R_drew)); exact HO_8.out⟩, ⟨by (with_reducible repeat (first | apply Kd.R_alloc | apply Kd.R_drewN | apply Kd.R_drew)); exact Kd.R_mono HO_10.out (fun _ hk => ⟨hk.2, hk.1⟩)⟩, ⟨by (with_reducible repeat (first | apply Kd.R_alloc | apply Kd.R_drewN | apply Kd.R_drew)); exact Kd.R_mono HO_12.out (fun _ hk => ⟨hk.2, hk.1⟩)⟩, ⟨by repeat (first | (with_reducible first | exact HB.out | apply below_alloc | apply pw_below_drewN | apply below_drew1) | exact HB.out)⟩⟩
          ·rw [if_neg c58] at H
           exact absurd H (by simp)
         ·rw [if_neg c57] at H
          have c57b0 := decide_eq_false c57
          clear c57
          have H' := Aside0.mk H
          clear H
          obtain ⟨Ao63, co63, eo63⟩ := Kd.R_slice HO_8.out
          subst eo63
          go_wp2
          go_loopg [15] k3 (fun kq v15 w' => ∃ (x10_4 : List (S36)) (x15_4 : Int), v15 = .int .i64 x15_4 ∧ Aside0 (copselaw15_ConeFresh.l1 kq l0 t360 x8_3 x10_4 t383 x15_4 = some r) ∧ Aside0 (kq ≤ k3) ∧ Aside0 (Kd.R Kd.string 9 w' w.heap.size (fun _ => True) (.slice Ao44 t360.length co44) t360) ∧ Aside0 (Kd.R k36 36 w' w.heap.size (fun k_ => some k_ ≠ (v381 : Value).ownBlock ∧ some k_ ≠ (v385 : Value).ownBlock) (.slice Ao63 x8_3.length co63) x8_3) ∧ Aside0 (Kd.R k36 36 w' w.heap.size (fun k_ => some k_ ≠ ((.slice Ao63 x8_3.length co63) : Value).ownBlock ∧ some k_ ≠ (v385 : Value).ownBlock) v381 x10_4) ∧ Aside0 (Kd.R k36 36 w' w.heap.size (fun k_ => some k_ ≠ ((.slice Ao63 x8_3.length co63) : Value).ownBlock ∧ some k_ ≠ (v381 : Value).ownBlock) v385 t383) ∧ Aside0 (Below w.heap.size w w'))
          case atStart => exact ⟨(t379), (0), (by first | rfl | (simp; done) | (simp [*]; done)), H', ⟨Nat.le_refl _⟩, ⟨by (with_reducible repeat (first | apply Kd.R_alloc | apply Kd.R_drewN | apply Kd.R_drew)); exact HO_7.out⟩, ⟨by (with_reducible repeat (first | apply Kd.R_alloc | apply Kd.R_drewN | apply Kd.R_drew)); exact HO_8.out⟩, ⟨by (with_reducible repeat (first | apply Kd.R_alloc | apply Kd.R_drewN | apply Kd.R_drew)); exact HO_10.out⟩, ⟨by (with_reducible repeat (first | apply Kd.R_alloc | apply Kd.R_drewN | apply Kd.R_drew)); exact HO_12.out⟩, ⟨by repeat (first | (with_reducible first | exact HB.out | apply below_alloc | apply pw_below_drewN | apply below_drew1) | exact HB.out)⟩⟩
          case round =>
           as_aux_lemma =>
           clear H'
           try clear c1
           try clear p2
           try clear c3
           try clear c4
           try clear c5
           try clear p5
           try clear q5
           try clear hx5
           try clear hf5
           try clear c6
           try clear p6
           try clear hx6
           try clear hf6
           try clear c9
           try clear c10
           try clear c11
           try clear c13
           try clear c39
           try clear c49
           try clear c56
           try clear c57
           try clear c57b0
           try clear c58
           try clear c58b0
           try clear c59
           try clear p59
           try clear q59
           try clear hx59
           try clear hf59
           try clear c61
           try clear hx61
           try clear hf61
           try clear hx59_0
           try clear hx59_1
           try clear hx59_2
           try clear hx59_3
           try clear hx61_0
           try clear hx61_1
           try clear hx61_2
           try clear hx61_3
           try clear p2
           try clear p59
           try clear q59
           obtain ⟨x10_4, x15_4, rfl, HA, HK4, HO_7, HO_8, HO_10, HO_12, HB⟩ := hrel
           cases gk with
           | zero => exact absurd HA.out (by simp [copselaw15_ConeFresh.l1])
           | succ k4 =>
            have H := HA.out
            clear HA
            simp only [copselaw15_ConeFresh.l1] at H
            by_cases c64 : x15_4 < (x10_4.length : Int)
            ·rw [if_pos c64] at H
             have c64b0 := decide_eq_true c64
             clear c64
             by_cases c65 : 0 ≤ x15_4
             ·rw [if_pos c65] at H
              have c65b0 := decide_eq_true c65
              clear c65
              obtain ⟨y390, hy390⟩ : ∃ y_ : List (S36), y_ = (x10_4.set (x15_4 : Int).toNat (⟨(⟨#[50]⟩ : ByteArray), (⟨#[]⟩ : ByteArray), 0, 0⟩ : S36)) := ⟨_, rfl⟩
              replace H : (copselaw15_ConeFresh.l1 k4 l0 t360 x8_3 y390 t383 (wrap64 (x15_4 + 1))) = some r := by first | (rw [hy390]; with_reducible exact H) | (have H2_ := (Option.bind_some _ _).symm.trans H; rw [hy390]; with_reducible exact H2_) | (have H2_ := (Option.bind_some _ _).symm.trans H; with_reducible exact H2_) | with_reducible exact H | (rw [hy390]; exact H) | exact H
              have Ny390 := Aside0.mk hy390
              clear hy390
              have H' := Aside0.mk H
              clear H
              obtain ⟨Ao67, co67, eo67⟩ := Kd.R_slice HO_10.out
              subst eo67
              have p66 : 0 ≤ (x15_4 : Int) := of_decide_eq_true (by first | (with_reducible assumption) | assumption)
              have q66 : (x15_4 : Int) < ((x10_4.length : Int) : Int) := of_decide_eq_true (by first | (with_reducible assumption) | assumption)
              obtain ⟨go66, co66, eo66, gb66, gl66, cl66, HG66⟩ := Kd.R_form HO_10.out (by omega)
              (first | cases eo66 | (injection eo66 with ea_ en_ ec_; (first | subst ea_ | (injection ea_ with ea_; subst ea_)); subst ec_; clear en_))
              have GB66 := Aside0.mk gb66
              have GG66 := Aside0.mk HG66
              clear gb66 gl66 HG66
              obtain ⟨ce66, hcl66, hM66, hcc66, hfr66⟩ := Kd.R_elem HO_10.out z36 (x15_4 : Int) p66 q66
              obtain rfl := k36_openM hM66
              have hx66_0 : wr.cell? ⟨go66, (x15_4 : Int).toNat * 4, none⟩ = some (.string ((rd_T36 x10_4 x15_4).f0)) := hcc66 0 _ rfl
              have hx66_1 : wr.cell? ⟨go66, (x15_4 : Int).toNat * 4 + 1, none⟩ = some (.string ((rd_T36 x10_4 x15_4).f1)) := hcc66 1 _ rfl
              have hx66_2 : wr.cell? ⟨go66, (x15_4 : Int).toNat * 4 + 2, none⟩ = some (.int .i64 ((rd_T36 x10_4 x15_4).f2)) := hcc66 2 _ rfl
              have hx66_3 : wr.cell? ⟨go66, (x15_4 : Int).toNat * 4 + 3, none⟩ = some (.int .i64 ((rd_T36 x10_4 x15_4).f3)) := hcc66 3 _ rfl
              have hf66_0 : wr.frozen? ⟨go66, (x15_4 : Int).toNat * 4, none⟩ = false := hfr66 0
              have hf66_1 : wr.frozen? ⟨go66, (x15_4 : Int).toNat * 4 + 1, none⟩ = false := hfr66 1
              have hf66_2 : wr.frozen? ⟨go66, (x15_4 : Int).toNat * 4 + 2, none⟩ = false := hfr66 2
              have hf66_3 : wr.frozen? ⟨go66, (x15_4 : Int).toNat * 4 + 3, none⟩ = false := hfr66 3
              clear hcl66 hcc66 hfr66 hM66
              replace p66 := eq_true p66
              replace q66 := eq_true q66
              have HX68 := Aside0.mk (show Kd.R k36 36 wr w.heap.size (fun k_ => some k_ ≠ (.slice Ao63 x8_3.length co63 : Value).ownBlock ∧ some k_ ≠ (v385 : Value).ownBlock) (.slice (some ⟨go66, 0, none⟩) x10_4.length co67) x10_4 from (by (with_reducible repeat (first | apply Kd.R_alloc | apply Kd.R_drewN | apply Kd.R_drew)); exact HO_10.out))
              obtain ⟨ce68, hcl68, hM68, hcc68, hfr68⟩ := Kd.R_elem HX68.out z36 (x15_4 : Int) (of_decide_eq_true (by first | (with_reducible assumption) | assumption)) (by have h_ : (x15_4 : Int) < ((x10_4.length : Int) : Int) := of_decide_eq_true (by first | (with_reducible assumption) | assumption); first | exact h_ | (have e_ := (Kd.R_reads' HO_10.out).1; omega) | simpa using h_)
              obtain rfl := k36_openM hM68
              have HP68 := Kd.R_seg HX68.out (x15_4 : Int) (of_decide_eq_true (by first | (with_reducible assumption) | assumption)) (by have h_ : (x15_4 : Int) < ((x10_4.length : Int) : Int) := of_decide_eq_true (by first | (with_reducible assumption) | assumption); first | exact h_ | (have e_ := (Kd.R_reads' HO_10.out).1; omega) | simpa using h_) (seg := [.string (⟨#[50]⟩ : ByteArray), .string (⟨#[]⟩ : ByteArray), .int .i64 0, .int .i64 0]) (j := 0) hcl68 hcc68 (show 4 ≤ 4 from by decide) (x' := (⟨(⟨#[50]⟩ : ByteArray), (⟨#[]⟩ : ByteArray), 0, 0⟩ : S36)) (k36_mkM _ _ _ (⟨(⟨#[50]⟩ : ByteArray), (⟨#[]⟩ : ByteArray), 0, 0⟩ : S36) ) (fun _ hk => hk)
              have hx68_0 := hcc68 0 _ rfl
              (try simp only [show (k36).sz = 4 from rfl, Nat.mul_one, Nat.add_zero] at hx68_0)
              have hf68_0 := hfr68 0
              (try simp only [show (k36).sz = 4 from rfl, Nat.mul_one, Nat.add_zero] at hf68_0)
              have hx68_1 := hcc68 1 _ rfl
              (try simp only [show (k36).sz = 4 from rfl, Nat.mul_one, Nat.add_zero] at hx68_1)
              have hf68_1 := hfr68 1
              (try simp only [show (k36).sz = 4 from rfl, Nat.mul_one, Nat.add_zero] at hf68_1)
              have hx68_2 := hcc68 2 _ rfl
              (try simp only [show (k36).sz = 4 from rfl, Nat.mul_one, Nat.add_zero] at hx68_2)
              have hf68_2 := hfr68 2
              (try simp only [show (k36).sz = 4 from rfl, Nat.mul_one, Nat.add_zero] at hf68_2)
              have hx68_3 := hcc68 3 _ rfl
              (try simp only [show (k36).sz = 4 from rfl, Nat.mul_one, Nat.add_zero] at hx68_3)
              have hf68_3 := hfr68 3
              (try simp only [show (k36).sz = 4 from rfl, Nat.mul_one, Nat.add_zero] at hf68_3)
              clear hcl68 hcc68 hfr68 hM68
              go_wp2_with (first | ((with_reducible refine gate_store (t := 36) (p := 95) rfl ?_); refine store_event (t := 36) (p := 95) (v := ?vo_w69) (w1 := ((((wr.setCell ⟨go66, (x15_4 : Int).toNat * 4, none⟩ (.string (⟨#[50]⟩ : ByteArray))).setCell ⟨go66, (x15_4 : Int).toNat * 4 + 1, none⟩ (.string (⟨#[]⟩ : ByteArray))).setCell ⟨go66, (x15_4 : Int).toNat * 4 + 2, none⟩ (.int .i64 0)).setCell ⟨go66, (x15_4 : Int).toNat * 4 + 3, none⟩ (.int .i64 0))) ?hg ?ho ?hn ?hr ?_; (case ho => rfl); (case hg => rfl); (case hn => rfl); (case hr => first | (go_simp; done) | (go_simp; rfl)); intro w69 hw; have hg : wr.grownBy w69 (some go66) := (by rw [hw]; exact HP68.2); have hp_ : Kd.R k36 36 w69 w.heap.size (fun k_ => some k_ ≠ (.slice Ao63 x8_3.length co63 : Value).ownBlock ∧ some k_ ≠ (v385 : Value).ownBlock) (.slice (some ⟨go66, 0, none⟩) x10_4.length co67) y390 := (by rw [hw, Ny390.out]; exact HP68.1); clear HP68; have n0_ := Aside0.mk (Kd.R_over' (v := (.slice (some ⟨go66, 0, none⟩) x10_4.length co67)) (by (with_reducible repeat (first | apply Kd.R_alloc | apply Kd.R_drewN | apply Kd.R_drew)); exact HO_7.out) (Kd.R_typed HO_10.out) (by decide) hg); have n1_ := Aside0.mk (Kd.R_after (v := (.slice (some ⟨go66, 0, none⟩) x10_4.length co67)) (v1 := (.slice (some ⟨go66, 0, none⟩) x10_4.length co67)) (ok := (fun k_ => some k_ ≠ (v385 : Value).ownBlock)) (by (with_reducible repeat (first | apply Kd.R_alloc | apply Kd.R_drewN | apply Kd.R_drew)); exact Kd.R_mono HO_8.out (fun _ hk => ⟨hk.2, hk.1⟩)) hg (.inl rfl)); have n2_ := Aside0.mk (hp_); have n3_ := Aside0.mk (Kd.R_after (v := (.slice (some ⟨go66, 0, none⟩) x10_4.length co67)) (v1 := (.slice (some ⟨go66, 0, none⟩) x10_4.length co67)) (ok := (fun k_ => some k_ ≠ (.slice Ao63 x8_3.length co63 : Value).ownBlock)) (by (with_reducible repeat (first | apply Kd.R_alloc | apply Kd.R_drewN | apply Kd.R_drew)); exact HO_12.out) hg (.inl rfl)); have n4_ := Aside0.mk ((by rw [hw]; exact below_set (below_set (below_set (below_set (HB.out) GB66.out) GB66.out) GB66.out) GB66.out : Below w.heap.size w w69)); clear HO_7; clear HO_8; clear HO_10; clear HO_12; clear HB; have HO_7 := n0_; have HO_8 := n1_; have HO_10 := n2_; have HO_12 := n3_; have HB := n4_; clear n0_ n1_ n2_ n3_ n4_; clear hg hw hp_))
              go_roundg k4
              case measure => have := HJ5.out; have := HJ42.out; have := HK3.out; have := HK4.out; omega
              case rel => exact ⟨(y390), (wrap64 (x15_4 + 1)), (by first | rfl | (simp; done) | (simp [*]; done)), H', ⟨by have := HJ5.out; have := HJ42.out; have := HK3.out; have := HK4.out; omega⟩, ⟨by (with_reducible repeat (first | apply Kd.R_alloc | apply Kd.R_drewN | apply Kd.R_drew)); exact HO_7.out⟩, ⟨by (with_reducible repeat (first | apply Kd.R_alloc | apply Kd.R_drewN | apply Kd.R_drew)); exact Kd.R_mono HO_8.out (fun _ hk => ⟨hk.2, hk.1⟩)⟩, ⟨by (with_reducible repeat (first | apply Kd.R_alloc | apply Kd.R_drewN | apply Kd.R_drew)); exact HO_10.out⟩, ⟨by (with_reducible repeat (first | apply Kd.R_alloc | apply Kd.R_drewN | apply Kd.R_drew)); exact HO_12.out⟩, ⟨by repeat (first | (with_reducible first | exact HB.out | apply below_alloc | apply pw_below_drewN | apply below_drew1) | exact HB.out)⟩⟩
             ·rw [if_neg c65] at H
              exact absurd H (by simp)
            ·rw [if_neg c64] at H
             have c64b0 := decide_eq_false c64
             clear c64
             have H' := Aside0.mk H
             clear H
             obtain ⟨Ao70, co70, eo70⟩ := Kd.R_slice HO_10.out
             subst eo70
             go_wp2
             go_loopg [16, 18] k4 (fun kq v16 v18 w' => ∃ (x16_5 : List (S36)) (x18_5 : Int), v18 = .int .i64 x18_5 ∧ Aside0 (copselaw15_ConeFresh.l2 kq l0 t360 t383 x16_5 x10_4 x18_5 = some r) ∧ Aside0 (kq ≤ k4) ∧ Aside0 (Kd.R Kd.string 9 w' w.heap.size (fun _ => True) (.slice Ao44 t360.length co44) t360) ∧ Aside0 (Kd.R k36 36 w' w.heap.size (fun k_ => some k_ ≠ (v16 : Value).ownBlock ∧ some k_ ≠ ((.slice Ao70 x10_4.length co70) : Value).ownBlock) v385 t383) ∧ Aside0 (Kd.R k36 36 w' w.heap.size (fun k_ => some k_ ≠ (v385 : Value).ownBlock ∧ some k_ ≠ ((.slice Ao70 x10_4.length co70) : Value).ownBlock) v16 x16_5) ∧ Aside0 (Kd.R k36 36 w' w.heap.size (fun k_ => some k_ ≠ (v385 : Value).ownBlock ∧ some k_ ≠ (v16 : Value).ownBlock) (.slice Ao70 x10_4.length co70) x10_4) ∧ Aside0 (Below w.heap.size w w'))
             case atStart => exact ⟨(x8_3), (0), (by first | rfl | (simp; done) | (simp [*]; done)), H', ⟨Nat.le_refl _⟩, ⟨by (with_reducible repeat (first | apply Kd.R_alloc | apply Kd.R_drewN | apply Kd.R_drew)); exact HO_7.out⟩, ⟨by (with_reducible repeat (first | apply Kd.R_alloc | apply Kd.R_drewN | apply Kd.R_drew)); exact HO_12.out⟩, ⟨by (with_reducible repeat (first | apply Kd.R_alloc | apply Kd.R_drewN | apply Kd.R_drew)); exact Kd.R_mono HO_8.out (fun _ hk => ⟨hk.2, hk.1⟩)⟩, ⟨by (with_reducible repeat (first | apply Kd.R_alloc | apply Kd.R_drewN | apply Kd.R_drew)); exact Kd.R_mono HO_10.out (fun _ hk => ⟨hk.2, hk.1⟩)⟩, ⟨by repeat (first | (with_reducible first | exact HB.out | apply below_alloc | apply pw_below_drewN | apply below_drew1) | exact HB.out)⟩⟩
             case round =>
              as_aux_lemma =>
              clear H'
              try clear c1
              try clear p2
              try clear c3
              try clear c4
              try clear c5
              try clear p5
              try clear q5
              try clear hx5
              try clear hf5
              try clear c6
              try clear p6
              try clear q6
              try clear hx6
              try clear hf6
              try clear c9
              try clear c10
              try clear c11
              try clear c13
              try clear c39
              try clear c49
              try clear c56
              try clear c57
              try clear c57b0
              try clear c58
              try clear c58b0
              try clear c59
              try clear p59
              try clear q59
              try clear hx59
              try clear hf59
              try clear c61
              try clear hx61
              try clear hf61
              try clear c64
              try clear c64b0
              try clear p64
              try clear c65
              try clear c65b0
              try clear c66
              try clear p66
              try clear q66
              try clear hx66
              try clear hf66
              try clear c68
              try clear hx68
              try clear hf68
              try clear hx59_0
              try clear hx59_1
              try clear hx59_2
              try clear hx59_3
              try clear hx61_0
              try clear hx61_1
              try clear hx61_2
              try clear hx61_3
              try clear hx66_0
              try clear hx66_1
              try clear hx66_2
              try clear hx66_3
              try clear hx68_0
              try clear hx68_1
              try clear hx68_2
              try clear hx68_3
              try clear p2
              try clear p5
              try clear p59
              try clear p6
              try clear p66
              try clear q5
              try clear q59
              try clear q66
              obtain ⟨x16_5, x18_5, rfl, HA, HK5, HO_7, HO_12, HO_16, HO_17, HB⟩ := hrel
              cases gk with
              | zero => exact absurd HA.out (by simp [copselaw15_ConeFresh.l2])
              | succ k5 =>
               have H := HA.out
               clear HA
               simp only [copselaw15_ConeFresh.l2] at H
               by_cases c71 : x18_5 < 30
               ·rw [if_pos c71] at H
                have c71b0 := decide_eq_true c71
                clear c71
                by_cases c72 : x16_5.length < 2932031007402
                ·rw [if_pos c72] at H
                 have LMc72 := Aside0.mk c72
                 clear c72
                 obtain ⟨y391, hy391⟩ : ∃ y_ : List (S36), y_ = (x16_5 ++ [(⟨(⟨#[49]⟩ : ByteArray), (⟨#[]⟩ : ByteArray), 0, 0⟩ : S36)]) := ⟨_, rfl⟩
                 replace H : (copselaw15_ConeFresh.l2 k5 l0 t360 t383 y391 x10_4 (wrap64 (x18_5 + 1))) = some r := by first | (rw [hy391]; with_reducible exact H) | (have H2_ := (Option.bind_some _ _).symm.trans H; rw [hy391]; with_reducible exact H2_) | (have H2_ := (Option.bind_some _ _).symm.trans H; with_reducible exact H2_) | with_reducible exact H | (rw [hy391]; exact H) | exact H
                 have Ny391 := Aside0.mk hy391
                 clear hy391
                 have H' := Aside0.mk H
                 clear H
                 go_wp2_with (first | ((with_reducible refine gate_builtin (b := .append) (xs := #[.tmp 102, .tmp 104]) rfl ?_); (try (refine gate_guard (by rfl) ?_; dsimp only)); at_builtin; refine Kd.R_append k36 (w0 := w) w.heap.size rfl (.tmp 102) (.tmp 104) 22 36 (.agg #[(.string ⟨#[]⟩), (.string ⟨#[]⟩), (.int .i64 0), (.int .i64 0)]) 48 rfl Tryz.underlying22 info36 rfl (by decide) (by omega) u16 x16_5 (⟨(⟨#[49]⟩ : ByteArray), (⟨#[]⟩ : ByteArray), 0, 0⟩ : S36) [.string (⟨#[49]⟩ : ByteArray), .string (⟨#[]⟩ : ByteArray), .int .i64 0, .int .i64 0] (fun k_ => some k_ ≠ (v385 : Value).ownBlock ∧ some k_ ≠ (.slice Ao70 x10_4.length co70 : Value).ownBlock) (fun _ => False) rfl rfl ?aP (fun _ hk => hk.elim) ?aF ?aO ?aB ?aS ?aL ?_; (case aP => exact k36_mkM _ _ _ (⟨(⟨#[49]⟩ : ByteArray), (⟨#[]⟩ : ByteArray), 0, 0⟩ : S36)); (case aB => exact (by repeat (first | (with_reducible first | exact HB.out | apply below_alloc | apply pw_below_drewN | apply below_drew1) | exact HB.out))); (case aF => exact (fun k_ hk => ⟨Kd.fresh' (Kd.R_lt (by (with_reducible repeat (first | apply Kd.R_alloc | apply Kd.R_drewN | apply Kd.R_drew)); exact HO_12.out)) k_ hk, Kd.fresh' (Kd.R_lt (by (with_reducible repeat (first | apply Kd.R_alloc | apply Kd.R_drewN | apply Kd.R_drew)); exact HO_17.out)) k_ hk⟩)); (case aO => exact (by (with_reducible repeat (first | apply Kd.R_alloc | apply Kd.R_drewN | apply Kd.R_drew)); exact HO_16.out)); (case aS => exact (below_size (by repeat (first | (with_reducible first | exact HB.out | apply below_alloc | apply pw_below_drewN | apply below_drew1) | exact HB.out)))); (case aL => have := LMc72.out; omega); intro v392 w73 ho hb hg hat; rw [← Ny391.out] at ho; have n0_ := Aside0.mk (Kd.R_over' (by (with_reducible repeat (first | apply Kd.R_alloc | apply Kd.R_drewN | apply Kd.R_drew)); exact HO_7.out) (Kd.R_typed (by (with_reducible repeat (first | apply Kd.R_alloc | apply Kd.R_drewN | apply Kd.R_drew)); exact HO_16.out)) (by decide) hg); have n1_ := Aside0.mk (Kd.R_after (ok := (fun k_ => some k_ ≠ (.slice Ao70 x10_4.length co70 : Value).ownBlock)) (by (with_reducible repeat (first | apply Kd.R_alloc | apply Kd.R_drewN | apply Kd.R_drew)); exact Kd.R_mono HO_12.out (fun _ hk => ⟨hk.2, hk.1⟩)) hg hat); have n2_ := Aside0.mk (Kd.R_after (ok := (fun k_ => some k_ ≠ (v385 : Value).ownBlock)) (by (with_reducible repeat (first | apply Kd.R_alloc | apply Kd.R_drewN | apply Kd.R_drew)); exact HO_17.out) hg hat); have n3_ := Aside0.mk (hb); have n4_ := Aside0.mk (ho); clear HO_7; clear HO_12; clear HO_17; clear HB; clear HO_16; have HO_7 := n0_; have HO_12 := n1_; have HO_17 := n2_; have HB := n3_; have HO393 := n4_; clear n0_ n1_ n2_ n3_ n4_; clear ho hb hg hat))
                 go_roundg k5
                 case measure => have := HJ5.out; have := HJ42.out; have := HK3.out; have := HK4.out; have := HK5.out; omega
                 case rel => exact ⟨(y391), (wrap64 (x18_5 + 1)), (by first | rfl | (simp; done) | (simp [*]; done)), H', ⟨by have := HJ5.out; have := HJ42.out; have := HK3.out; have := HK4.out; have := HK5.out; omega⟩, ⟨by (with_reducible repeat (first | apply Kd.R_alloc | apply Kd.R_drewN | apply Kd.R_drew)); exact HO_7.out⟩, ⟨by (with_reducible repeat (first | apply Kd.R_alloc | apply Kd.R_drewN | apply Kd.R_drew)); exact Kd.R_mono HO_12.out (fun _ hk => ⟨hk.2, hk.1⟩)⟩, ⟨by (with_reducible repeat (first | apply Kd.R_alloc | apply Kd.R_drewN | apply Kd.R_drew)); exact HO393.out⟩, ⟨by (with_reducible repeat (first | apply Kd.R_alloc | apply Kd.R_drewN | apply Kd.R_drew)); exact HO_17.out⟩, ⟨by repeat (first | (with_reducible first | exact HB.out | apply below_alloc | apply pw_below_drewN | apply below_drew1) | exact HB.out)⟩⟩
                ·rw [if_neg c72] at H
                 exact absurd H (by simp)
               ·rw [if_neg c71] at H
                have c71b0 := decide_eq_false c71
                clear c71
                have H' := Aside0.mk H
                clear H
                go_wp2
                go_loopg [17, 19] k5 (fun kq v17 v19 w' => ∃ (x17_6 : List (S36)) (x19_6 : Int), v19 = .int .i64 x19_6 ∧ Aside0 (copselaw15_ConeFresh.l3 kq l0 t360 t383 x16_5 x17_6 x19_6 = some r) ∧ Aside0 (kq ≤ k5) ∧ Aside0 (Kd.R Kd.string 9 w' w.heap.size (fun _ => True) (.slice Ao44 t360.length co44) t360) ∧ Aside0 (Kd.R k36 36 w' w.heap.size (fun k_ => some k_ ≠ (u16 : Value).ownBlock ∧ some k_ ≠ (v17 : Value).ownBlock) v385 t383) ∧ Aside0 (Kd.R k36 36 w' w.heap.size (fun k_ => some k_ ≠ (v385 : Value).ownBlock ∧ some k_ ≠ (v17 : Value).ownBlock) u16 x16_5) ∧ Aside0 (Kd.R k36 36 w' w.heap.size (fun k_ => some k_ ≠ (v385 : Value).ownBlock ∧ some k_ ≠ (u16 : Value).ownBlock) v17 x17_6) ∧ Aside0 (Below w.heap.size w w'))
                case atStart => exact ⟨(x10_4), (0), (by first | rfl | (simp; done) | (simp [*]; done)), H', ⟨Nat.le_refl _⟩, ⟨by (with_reducible repeat (first | apply Kd.R_alloc | apply Kd.R_drewN | apply Kd.R_drew)); exact HO_7.out⟩, ⟨by (with_reducible repeat (first | apply Kd.R_alloc | apply Kd.R_drewN | apply Kd.R_drew)); exact HO_12.out⟩, ⟨by (with_reducible repeat (first | apply Kd.R_alloc | apply Kd.R_drewN | apply Kd.R_drew)); exact HO_16.out⟩, ⟨by (with_reducible repeat (first | apply Kd.R_alloc | apply Kd.R_drewN | apply Kd.R_drew)); exact HO_17.out⟩, ⟨by repeat (first | (with_reducible first | exact HB.out | apply below_alloc | apply pw_below_drewN | apply below_drew1) | exact HB.out)⟩⟩
                case round =>
                 as_aux_lemma =>
                 clear H'
                 try clear c1
                 try clear p2
                 try clear c3
                 try clear c4
                 try clear c5
                 try clear p5
                 try clear q5
                 try clear hx5
                 try clear hf5
                 try clear c6
                 try clear p6
                 try clear q6
                 try clear hx6
                 try clear hf6
                 try clear c7
                 try clear c9
                 try clear c10
                 try clear c11
                 try clear c13
                 try clear c39
                 try clear c49
                 try clear c56
                 try clear c57
                 try clear c57b0
                 try clear c58
                 try clear c58b0
                 try clear c59
                 try clear p59
                 try clear q59
                 try clear hx59
                 try clear hf59
                 try clear c61
                 try clear hx61
                 try clear hf61
                 try clear c64
                 try clear c64b0
                 try clear p64
                 try clear c65
                 try clear c65b0
                 try clear c66
                 try clear p66
                 try clear q66
                 try clear hx66
                 try clear hf66
                 try clear c68
                 try clear hx68
                 try clear hf68
                 try clear c71
                 try clear c71b0
                 try clear c72
                 try clear hx59_0
                 try clear hx59_1
                 try clear hx59_2
                 try clear hx59_3
                 try clear hx61_0
                 try clear hx61_1
                 try clear hx61_2
                 try clear hx61_3
                 try clear hx66_0
                 try clear hx66_1
                 try clear hx66_2
                 try clear hx66_3
                 try clear hx68_0
                 try clear hx68_1
                 try clear hx68_2
                 try clear hx68_3
                 try clear p2
                 try clear p5
                 try clear p59
                 try clear p6
                 try clear p64
                 try clear p66
                 try clear q5
                 try clear q59
                 try clear q6
                 try clear q66
                 obtain ⟨x17_6, x19_6, rfl, HA, HK6, HO_7, HO_12, HO_16, HO_17, HB⟩ := hrel
                 cases gk with
                 | zero => exact absurd HA.out (by simp [copselaw15_ConeFresh.l3])
                 | succ k6 =>
                  have H := HA.out
                  clear HA
                  simp only [copselaw15_ConeFresh.l3] at H
                  by_cases c74 : x19_6 < 30
                  ·rw [if_pos c74] at H
                   have c74b0 := decide_eq_true c74
                   clear c74
                   by_cases c75 : x17_6.length < 2932031007402
                   ·rw [if_pos c75] at H
                    have LMc75 := Aside0.mk c75
                    clear c75
                    obtain ⟨y394, hy394⟩ : ∃ y_ : List (S36), y_ = (x17_6 ++ [(⟨(⟨#[50]⟩ : ByteArray), (⟨#[]⟩ : ByteArray), 0, 0⟩ : S36)]) := ⟨_, rfl⟩
                    replace H : (copselaw15_ConeFresh.l3 k6 l0 t360 t383 x16_5 y394 (wrap64 (x19_6 + 1))) = some r := by first | (rw [hy394]; with_reducible exact H) | (have H2_ := (Option.bind_some _ _).symm.trans H; rw [hy394]; with_reducible exact H2_) | (have H2_ := (Option.bind_some _ _).symm.trans H; with_reducible exact H2_) | with_reducible exact H | (rw [hy394]; exact H) | exact H
                    have Ny394 := Aside0.mk hy394
                    clear hy394
                    have H' := Aside0.mk H
                    clear H
                    go_wp2_with (first | ((with_reducible refine gate_builtin (b := .append) (xs := #[.tmp 110, .tmp 112]) rfl ?_); (try (refine gate_guard (by rfl) ?_; dsimp only)); at_builtin; refine Kd.R_append k36 (w0 := w) w.heap.size rfl (.tmp 110) (.tmp 112) 22 36 (.agg #[(.string ⟨#[]⟩), (.string ⟨#[]⟩), (.int .i64 0), (.int .i64 0)]) 48 rfl Tryz.underlying22 info36 rfl (by decide) (by omega) u17 x17_6 (⟨(⟨#[50]⟩ : ByteArray), (⟨#[]⟩ : ByteArray), 0, 0⟩ : S36) [.string (⟨#[50]⟩ : ByteArray), .string (⟨#[]⟩ : ByteArray), .int .i64 0, .int .i64 0] (fun k_ => some k_ ≠ (v385 : Value).ownBlock ∧ some k_ ≠ (u16 : Value).ownBlock) (fun _ => False) rfl rfl ?aP (fun _ hk => hk.elim) ?aF ?aO ?aB ?aS ?aL ?_; (case aP => exact k36_mkM _ _ _ (⟨(⟨#[50]⟩ : ByteArray), (⟨#[]⟩ : ByteArray), 0, 0⟩ : S36)); (case aB => exact (by repeat (first | (with_reducible first | exact HB.out | apply below_alloc | apply pw_below_drewN | apply below_drew1) | exact HB.out))); (case aF => exact (fun k_ hk => ⟨Kd.fresh' (Kd.R_lt (by (with_reducible repeat (first | apply Kd.R_alloc | apply Kd.R_drewN | apply Kd.R_drew)); exact HO_12.out)) k_ hk, Kd.fresh' (Kd.R_lt (by (with_reducible repeat (first | apply Kd.R_alloc | apply Kd.R_drewN | apply Kd.R_drew)); exact HO_16.out)) k_ hk⟩)); (case aO => exact (by (with_reducible repeat (first | apply Kd.R_alloc | apply Kd.R_drewN | apply Kd.R_drew)); exact HO_17.out)); (case aS => exact (below_size (by repeat (first | (with_reducible first | exact HB.out | apply below_alloc | apply pw_below_drewN | apply below_drew1) | exact HB.out)))); (case aL => have := LMc75.out; omega); intro v395 w76 ho hb hg hat; rw [← Ny394.out] at ho; have n0_ := Aside0.mk (Kd.R_over' (by (with_reducible repeat (first | apply Kd.R_alloc | apply Kd.R_drewN | apply Kd.R_drew)); exact HO_7.out) (Kd.R_typed (by (with_reducible repeat (first | apply Kd.R_alloc | apply Kd.R_drewN | apply Kd.R_drew)); exact HO_17.out)) (by decide) hg); have n1_ := Aside0.mk (Kd.R_after (ok := (fun k_ => some k_ ≠ (u16 : Value).ownBlock)) (by (with_reducible repeat (first | apply Kd.R_alloc | apply Kd.R_drewN | apply Kd.R_drew)); exact HO_12.out) hg hat); have n2_ := Aside0.mk (Kd.R_after (ok := (fun k_ => some k_ ≠ (v385 : Value).ownBlock)) (by (with_reducible repeat (first | apply Kd.R_alloc | apply Kd.R_drewN | apply Kd.R_drew)); exact HO_16.out) hg hat); have n3_ := Aside0.mk (hb); have n4_ := Aside0.mk (ho); clear HO_7; clear HO_12; clear HO_16; clear HB; clear HO_17; have HO_7 := n0_; have HO_12 := n1_; have HO_16 := n2_; have HB := n3_; have HO396 := n4_; clear n0_ n1_ n2_ n3_ n4_; clear ho hb hg hat))
                    go_roundg k6
                    case measure => have := HJ5.out; have := HJ42.out; have := HK3.out; have := HK4.out; have := HK5.out; have := HK6.out; omega
                    case rel => exact ⟨(y394), (wrap64 (x19_6 + 1)), (by first | rfl | (simp; done) | (simp [*]; done)), H', ⟨by have := HJ5.out; have := HJ42.out; have := HK3.out; have := HK4.out; have := HK5.out; have := HK6.out; omega⟩, ⟨by (with_reducible repeat (first | apply Kd.R_alloc | apply Kd.R_drewN | apply Kd.R_drew)); exact HO_7.out⟩, ⟨by (with_reducible repeat (first | apply Kd.R_alloc | apply Kd.R_drewN | apply Kd.R_drew)); exact HO_12.out⟩, ⟨by (with_reducible repeat (first | apply Kd.R_alloc | apply Kd.R_drewN | apply Kd.R_drew)); exact HO_16.out⟩, ⟨by (with_reducible repeat (first | apply Kd.R_alloc | apply Kd.R_drewN | apply Kd.R_drew)); exact HO396.out⟩, ⟨by repeat (first | (with_reducible first | exact HB.out | apply below_alloc | apply pw_below_drewN | apply below_drew1) | exact HB.out)⟩⟩
                   ·rw [if_neg c75] at H
                    exact absurd H (by simp)
                  ·rw [if_neg c74] at H
                   have c74b0 := decide_eq_false c74
                   clear c74
                   have H' := Aside0.mk H
                   clear H
                   go_wp2
                   go_loopg [20] k6 (fun kq v20 w' => ∃ (x20_7 : Int), v20 = .int .i64 x20_7 ∧ Aside0 (copselaw15_ConeFresh.l4 kq l0 t360 t383 x16_5 x17_6 x20_7 = some r) ∧ Aside0 (kq ≤ k6) ∧ Aside0 (Kd.R Kd.string 9 w' w.heap.size (fun _ => True) (.slice Ao44 t360.length co44) t360) ∧ Aside0 (Kd.R k36 36 w' w.heap.size (fun k_ => some k_ ≠ (u16 : Value).ownBlock ∧ some k_ ≠ (u17 : Value).ownBlock) v385 t383) ∧ Aside0 (Kd.R k36 36 w' w.heap.size (fun k_ => some k_ ≠ (v385 : Value).ownBlock ∧ some k_ ≠ (u17 : Value).ownBlock) u16 x16_5) ∧ Aside0 (Kd.R k36 36 w' w.heap.size (fun k_ => some k_ ≠ (v385 : Value).ownBlock ∧ some k_ ≠ (u16 : Value).ownBlock) u17 x17_6) ∧ Aside0 (Below w.heap.size w w'))
                   case atStart => exact ⟨(0), (by first | rfl | (simp; done) | (simp [*]; done)), H', ⟨Nat.le_refl _⟩, ⟨by (with_reducible repeat (first | apply Kd.R_alloc | apply Kd.R_drewN | apply Kd.R_drew)); exact HO_7.out⟩, ⟨by (with_reducible repeat (first | apply Kd.R_alloc | apply Kd.R_drewN | apply Kd.R_drew)); exact HO_12.out⟩, ⟨by (with_reducible repeat (first | apply Kd.R_alloc | apply Kd.R_drewN | apply Kd.R_drew)); exact HO_16.out⟩, ⟨by (with_reducible repeat (first | apply Kd.R_alloc | apply Kd.R_drewN | apply Kd.R_drew)); exact HO_17.out⟩, ⟨by repeat (first | (with_reducible first | exact HB.out | apply below_alloc | apply pw_below_drewN | apply below_drew1) | exact HB.out)⟩⟩
                   case round =>
                    as_aux_lemma =>
                    clear H'
                    try clear c1
                    try clear p2
                    try clear c3
                    try clear c4
                    try clear c5
                    try clear p5
                    try clear q5
                    try clear hx5
                    try clear hf5
                    try clear c6
                    try clear p6
                    try clear q6
                    try clear hx6
                    try clear hf6
                    try clear c7
                    try clear c9
                    try clear c10
                    try clear c11
                    try clear c13
                    try clear c39
                    try clear c49
                    try clear c56
                    try clear c57
                    try clear c57b0
                    try clear c58
                    try clear c58b0
                    try clear c59
                    try clear p59
                    try clear q59
                    try clear hx59
                    try clear hf59
                    try clear c61
                    try clear hx61
                    try clear hf61
                    try clear c64
                    try clear c64b0
                    try clear p64
                    try clear c65
                    try clear c65b0
                    try clear c66
                    try clear p66
                    try clear q66
                    try clear hx66
                    try clear hf66
                    try clear c68
                    try clear hx68
                    try clear hf68
                    try clear c71
                    try clear c71b0
                    try clear c72
                    try clear c74
                    try clear c74b0
                    try clear c75
                    try clear hx59_0
                    try clear hx59_1
                    try clear hx59_2
                    try clear hx59_3
                    try clear hx61_0
                    try clear hx61_1
                    try clear hx61_2
                    try clear hx61_3
                    try clear hx66_0
                    try clear hx66_1
                    try clear hx66_2
                    try clear hx66_3
                    try clear hx68_0
                    try clear hx68_1
                    try clear hx68_2
                    try clear hx68_3
                    try clear p2
                    try clear p5
                    try clear p59
                    try clear p6
                    try clear p64
                    try clear p66
                    try clear q5
                    try clear q59
                    try clear q6
                    try clear q66
                    obtain ⟨x20_7, rfl, HA, HK7, HO_7, HO_12, HO_16, HO_17, HB⟩ := hrel
                    cases gk with
                    | zero => exact absurd HA.out (by simp [copselaw15_ConeFresh.l4])
                    | succ k7 =>
                     have H := HA.out
                     clear HA
                     simp only [copselaw15_ConeFresh.l4] at H
                     by_cases c77 : x20_7 < (x16_5.length : Int)
                     ·rw [if_pos c77] at H
                      have c77b0 := decide_eq_true c77
                      clear c77
                      by_cases c78 : 0 ≤ x20_7
                      ·rw [if_pos c78] at H
                       have c78b0 := decide_eq_true c78
                       clear c78
                       by_cases c79 : ((rd_T36 x16_5 x20_7).f0).toList = ([49] : List UInt8)
                       ·rw [if_pos c79] at H
                        have c79b0 : (((rd_T36 x16_5 x20_7).f0).toList == ([49] : List UInt8)) = true := beq_iff_eq.mpr c79
                        have c79b1 : (((rd_T36 x16_5 x20_7).f0).toList != ([49] : List UInt8)) = false := bne_eq_false_iff_eq.mpr c79
                        clear c79
                        by_cases c80 : x20_7 < (x17_6.length : Int)
                        ·rw [if_pos c80] at H
                         have c80b0 := decide_eq_true c80
                         clear c80
                         by_cases c81 : ((rd_T36 x17_6 x20_7).f0).toList = ([50] : List UInt8)
                         ·rw [if_pos c81] at H
                          have c81b0 : (((rd_T36 x17_6 x20_7).f0).toList == ([50] : List UInt8)) = true := beq_iff_eq.mpr c81
                          have c81b1 : (((rd_T36 x17_6 x20_7).f0).toList != ([50] : List UInt8)) = false := bne_eq_false_iff_eq.mpr c81
                          clear c81
                          have H' := Aside0.mk H
                          clear H
                          obtain ⟨Ao82, co82, eo82⟩ := Kd.R_slice HO_16.out
                          subst eo82
                          have p397 : 0 ≤ (x20_7 : Int) := of_decide_eq_true (by first | (with_reducible assumption) | assumption)
                          have q397 : x20_7 < (x16_5.length : Int) := of_decide_eq_true (by first | (with_reducible assumption) | assumption)
                          obtain ⟨ad397, e397, hx397_0, hx397_1, hx397_2, hx397_3⟩ := at_T36 (Kd.R_reads' HO_16.out).2.2 x20_7 p397 q397
                          cases e397
                          replace p397 := eq_true p397
                          replace q397 := eq_true q397
                          obtain ⟨Ao83, co83, eo83⟩ := Kd.R_slice HO_17.out
                          subst eo83
                          have p398 : 0 ≤ (x20_7 : Int) := of_decide_eq_true (by first | (with_reducible assumption) | assumption)
                          have q398 : x20_7 < (x17_6.length : Int) := of_decide_eq_true (by first | (with_reducible assumption) | assumption)
                          obtain ⟨ad398, e398, hx398_0, hx398_1, hx398_2, hx398_3⟩ := at_T36 (Kd.R_reads' HO_17.out).2.2 x20_7 p398 q398
                          cases e398
                          replace p398 := eq_true p398
                          replace q398 := eq_true q398
                          go_wp2
                          go_roundg k7
                          case measure => have := HJ5.out; have := HJ42.out; have := HK3.out; have := HK4.out; have := HK5.out; have := HK6.out; have := HK7.out; omega
                          case rel => exact ⟨(wrap64 (x20_7 + 1)), (by first | rfl | (simp; done) | (simp [*]; done)), H', ⟨by have := HJ5.out; have := HJ42.out; have := HK3.out; have := HK4.out; have := HK5.out; have := HK6.out; have := HK7.out; omega⟩, ⟨by (with_reducible repeat (first | apply Kd.R_alloc | apply Kd.R_drewN | apply Kd.R_drew)); exact HO_7.out⟩, ⟨by (with_reducible repeat (first | apply Kd.R_alloc | apply Kd.R_drewN | apply Kd.R_drew)); exact HO_12.out⟩, ⟨by (with_reducible repeat (first | apply Kd.R_alloc | apply Kd.R_drewN | apply Kd.R_drew)); exact HO_16.out⟩, ⟨by (with_reducible repeat (first | apply Kd.R_alloc | apply Kd.R_drewN | apply Kd.R_drew)); exact HO_17.out⟩, ⟨by repeat (first | (with_reducible first | exact HB.out | apply below_alloc | apply pw_below_drewN | apply below_drew1) | exact HB.out)⟩⟩
                         ·rw [if_neg c81] at H
                          exact absurd (H.trans (congrArg some hrt)) (by simp)
                        ·rw [if_neg c80] at H
                         exact absurd H (by simp)
                       ·rw [if_neg c79] at H
                        exact absurd (H.trans (congrArg some hrt)) (by simp)
                      ·rw [if_neg c78] at H
                       exact absurd H (by simp)
                     ·rw [if_neg c77] at H
                      have c77b0 := decide_eq_false c77
                      clear c77
                      replace H := Option.bind_eq_some_iff.mp H
                      obtain ⟨⟨t399, t400⟩, A870, H⟩ := H
                      try dsimp only at H
                      have A87 := Aside0.mk A870
                      clear A870
                      replace H := Option.bind_eq_some_iff.mp H
                      obtain ⟨t403, A880, H⟩ := H
                      try dsimp only at H
                      have A88 := Aside0.mk A880
                      clear A880
                      obtain rfl := Option.some.inj H
                      obtain ⟨Ao89, co89, eo89⟩ := Kd.R_slice HO_16.out
                      subst eo89
                      go_wp2_with (first | ((with_reducible refine gate_callee (f := 9) rfl ?_); refine goesL_ (some 137) rfl rfl Tryz.func9 (by kernel_rfl) rfl #[.slice A0 l0.length c0, .slice Ao44 t360.length co44] rfl (by (try simp only [List.map_toArray, List.map_cons, List.map_nil]); first | done | rfl | (simp only [List.length_drop, List.length_take]; rfl)) ?_; (with_reducible refine (cone_View.calls k7 _ _ l0 _ _ t360 t399 t400 _ ?side1 ?side2 ?side3 ?side4 A87.out).mono ?_); (case side1 => repeat (first | exact (Kd.C_below HR0.out HB.out) | (with_reducible refine Kd.C_alloc ?_ _) | (with_reducible refine Kd.C_drewN ?_ _) | (with_reducible refine Kd.C_drew ?_))); (case side2 => exact HC0.out); (case side3 => repeat (first | exact (Kd.R_reads' HO_7.out).2.2 | (with_reducible refine Kd.C_alloc ?_ _) | (with_reducible refine Kd.C_drewN ?_ _) | (with_reducible refine Kd.C_drew ?_))); (case side4 => exact (Kd.R_reads' HO_7.out).2.1); rintro e w90 ⟨v401, rfl, ho0, hb⟩; refine ⟨_, rfl, ?_⟩; have n0_ := Aside0.mk (Kd.R_below (by (with_reducible repeat (first | apply Kd.R_alloc | apply Kd.R_drewN | apply Kd.R_drew)); exact HO_7.out) hb); have n1_ := Aside0.mk (Kd.R_elder' (by (with_reducible repeat (first | apply Kd.R_alloc | apply Kd.R_drewN | apply Kd.R_drew)); exact HO_12.out) (Kd.R_base ho0) hb); have n2_ := Aside0.mk (Kd.R_elder' (by (with_reducible repeat (first | apply Kd.R_alloc | apply Kd.R_drewN | apply Kd.R_drew)); exact HO_16.out) (Kd.R_base ho0) hb); have n3_ := Aside0.mk (Kd.R_elder' (by (with_reducible repeat (first | apply Kd.R_alloc | apply Kd.R_drewN | apply Kd.R_drew)); exact HO_17.out) (Kd.R_base ho0) hb); have n4_ := Aside0.mk (Kd.R_lower (Kd.R_new' (Kd.R_new' (Kd.R_new' ho0 (Kd.R_lt (by (with_reducible repeat (first | apply Kd.R_alloc | apply Kd.R_drewN | apply Kd.R_drew)); exact HO_12.out))) (Kd.R_lt (by (with_reducible repeat (first | apply Kd.R_alloc | apply Kd.R_drewN | apply Kd.R_drew)); exact HO_16.out))) (Kd.R_lt (by (with_reducible repeat (first | apply Kd.R_alloc | apply Kd.R_drewN | apply Kd.R_drew)); exact HO_17.out))) (below_size (by repeat (first | (with_reducible first | exact HB.out | apply below_alloc | apply pw_below_drewN | apply below_drew1) | exact HB.out)))); have n5_ := Aside0.mk (below_step (by repeat (first | (with_reducible first | exact HB.out | apply below_alloc | apply pw_below_drewN | apply below_drew1) | exact HB.out)) hb); clear HO_7; clear HO_12; clear HO_16; clear HO_17; clear HB; have HO_7 := n0_; have HO_12 := n1_; have HO_16 := n2_; have HO_17 := n3_; have HO402 := n4_; have HB := n5_; clear n0_ n1_ n2_ n3_ n4_ n5_; (try clear hb); (try clear hb2); (try clear hk); (try clear hi); (try clear ho0); obtain ⟨Ao91, co91, eo91⟩ := Kd.R_slice HO402.out; subst eo91; obtain ⟨Ao92, co92, eo92⟩ := Kd.R_slice HO_12.out; subst eo92) | ((with_reducible refine gate_callee (f := 11) rfl ?_); refine goesL_ (some 142) rfl rfl Tryz.func11 (by kernel_rfl) rfl #[.slice Ao91 t399.length co91, .slice Ao92 t383.length co92] rfl (by (try simp only [List.map_toArray, List.map_cons, List.map_nil]); first | done | rfl | (simp only [List.length_drop, List.length_take]; rfl)) ?_; (with_reducible refine (copselaw15_files.calls k7 _ _ t399 _ _ t383 t403 _ ?side1 ?side2 ?side3 ?side4 A88.out).mono ?_); (case side1 => repeat (first | exact (Kd.R_reads' HO402.out).2.2 | (with_reducible refine Kd.C_alloc ?_ _) | (with_reducible refine Kd.C_drewN ?_ _) | (with_reducible refine Kd.C_drew ?_))); (case side2 => exact (Kd.R_reads' HO402.out).2.1); (case side3 => repeat (first | exact (Kd.R_reads' HO_12.out).2.2 | (with_reducible refine Kd.C_alloc ?_ _) | (with_reducible refine Kd.C_drewN ?_ _) | (with_reducible refine Kd.C_drew ?_))); (case side4 => exact (Kd.R_reads' HO_12.out).2.1); rintro e w' ⟨rfl, ⟨nd, rfl⟩⟩; refine ⟨_, rfl, ?_⟩))
                      go_ret
                      exact ⟨by first | rfl | (simp [errW_none, errW_some] <;> rfl) | (simp [*, errW_none, errW_some] <;> rfl), by repeat (first | (with_reducible first | exact HB.out | apply below_alloc | apply pw_below_drewN | apply below_drew1) | exact HB.out)⟩
end Go.Proofs.YtdfkaclflmgkeaaGreatDoor.PAll
namespace Go.Proofs.YtdfkaclflmgkeaaGreatDoor.PAll
open Go.RowKit Go.Proofs.YtdfkaclflmgkeaaGreatDoorW.PrintWords Go.Proofs.YtdfkaclflmgkeaaGreatDoorW.PrintLast Go.Proofs.YtdfkaclflmgkeaaGreatDoorW.PrintMore
open Go.Proofs.YtdfkaclflmgkeaaGreatDoor.Sp
theorem Ev.val {α : Type} {g : Nat → Option α} {r r' : α} (h : Ev g r) (e : r = r') : Ev g r' := e ▸ h
theorem ev_some {α : Type} (r : α) : Ev (fun _ => some r) r := Ev.now r
theorem ev_pure {α : Type} {g : Nat → Option α} {r : α} (h : ∀ k, g k = some r) : Ev g r := ⟨0, fun k _ => h k⟩
theorem wrap_add {x : Int} (h0 : -9223372036854775808 ≤ x) (h1 : x ≤ 9223372036854775807) : wrap64 x = x := by unfold wrap64; omega
theorem bt_get (a : ByteArray) (i : Nat) (h : i < a.size) : bt a (i : Int) = (((bs a)[i]'(by rw [bs_size]; exact h)).toNat : Int) := by
 unfold bt
 rw [dif_pos (by simpa using h)]
 rfl
theorem bt_eq (a : ByteArray) (i : Nat) (h : i < a.size) (c : UInt8) (n : Int) (hn : n = (c.toNat : Int)) : bt a (i : Int) = n ↔ (bs a)[i]'(by rw [bs_size]; exact h) = c := by
 rw [bt_get a i h, hn]
 constructor
 ·intro e; exact UInt8.toNat_inj.1 (by omega)
 ·intro e; rw [e]
theorem bs_drop (a : ByteArray) (i : Nat) (h : i < a.size) : (bs a).drop i = (bs a)[i]'(by rw [bs_size]; exact h) :: (bs a).drop (i + 1) := List.drop_eq_getElem_cons (by rw [bs_size]; exact h)
theorem extract_mk (a : ByteArray) (i j : Nat) : a.extract i j = mk (((bs a).take j).drop i) := by
 apply bs_inj
 rw [bs_mk]
 show (a.extract i j).data.toList = _
 rw [Lib.extract_data, List.drop_take]
 rfl
theorem ref_has_run (l : List ByteArray) (p : ByteArray) (hl : l.length ≤ 4294967296) (d : Nat) : ∀ i, l.length - i = d → i ≤ l.length → Ev (fun k => copseref03_Has.l0 k l p (i : Int)) (decide (p ∈ l.drop i)) := by
 induction d with
 | zero =>
  intro i hd hi
  refine ⟨1, fun k hk => ?_⟩
  obtain ⟨k, rfl⟩ : ∃ m, k = m + 1 := ⟨k - 1, by omega⟩
  simp only [copseref03_Has.l0]
  rw [if_neg (by omega), List.drop_of_length_le (by omega)]; rfl
 | succ d ih =>
  intro i hd hi
  obtain ⟨K, hK⟩ := ih (i + 1) (by omega) (by omega)
  dsimp only at hK
  refine ⟨K + 1, fun k hk => ?_⟩
  obtain ⟨k, rfl⟩ : ∃ m, k = m + 1 := ⟨k - 1, by omega⟩
  simp only [copseref03_Has.l0]
  rw [if_pos (by omega), if_pos (by omega), rdOf_drop l i (by omega)]
  by_cases h : rdOf ByteArray.empty l (i : Int) = p
  ·rw [if_pos (by rw [h]), h]; simp
  ·rw [if_neg (fun e => h (bs_inj (by rw [← toList_bs, ← toList_bs]; exact e))), wrap_succ (n := l.length) (by omega) (by omega), hK k (by omega)]
   simp [Ne.symm h]
theorem ref_has (l : List ByteArray) (p : ByteArray) (hl : l.length ≤ 4294967296) : Ev (fun k => copseref03_Has.f k l p) (decide (p ∈ l)) :=
 ref_has_run l p hl l.length 0 (by omega) (by omega)
def splC (cur rest : Str) : List Str := match spl rest with
 | h :: t => (cur ++ h) :: t
 | [] => [cur]
theorem splC_nil (cur : Str) : splC cur [] = [cur] := by simp [splC, spl]
theorem splC_slash (cur r : Str) : splC cur (47 :: r) = cur :: splC [] r := by
 simp only [splC, spl, if_true, List.append_nil]
 congr 1
 cases h : spl r with
 | nil => exact absurd h (spl_ne r)
 | cons x t => simp
theorem splC_other (cur r : Str) {c : UInt8} (hc : c ≠ 47) : splC cur (c :: r) = splC (cur ++ [c]) r := by
 simp only [splC, spl, if_neg hc]
 cases h : spl r with
 | nil => exact absurd h (spl_ne r)
 | cons x t => simp
theorem splC_whole (s : Str) : splC [] s = spl s := by
 unfold splC
 cases h : spl s with
 | nil => exact absurd h (spl_ne s)
 | cons x t => simp
theorem ref_split_run (a : ByteArray) (ha : a.size ≤ 4294967296) (d : Nat) : ∀ (i fr : Nat) (acc : List ByteArray), a.size - i = d → i ≤ a.size → fr ≤ i → acc.length + a.size - i ≤ 4294967297 →
  Ev (fun k => copseref02_Split.l0 k a acc (fr : Int) (i : Int)) (acc ++ (splC (((bs a).take i).drop fr) ((bs a).drop i)).map mk) := by
 induction d with
 | zero =>
  intro i fr acc hd hi hf hl
  have e : i = a.size := by omega
  refine ⟨2, fun k hk => ?_⟩
  obtain ⟨k, rfl⟩ : ∃ m, k = m + 2 := ⟨k - 2, by omega⟩
  simp only [copseref02_Split.l0]
  rw [if_pos (by omega), if_pos (by omega), if_pos (by omega), if_pos (by omega), if_pos (by omega), wrap_succ (n := 4294967299) (by omega) (by omega), if_neg (by omega), Int.toNat_natCast, Int.toNat_natCast, extract_mk, List.drop_of_length_le (l := bs a) (i := i) (by rw [bs_size]; omega), splC_nil]
  rfl
 | succ d ih =>
  intro i fr acc hd hi hf hl
  have hlt : i < a.size := by omega
  rw [bs_drop a i hlt]
  by_cases h : bt a (i : Int) = 47
  ·have h' := (bt_eq a i hlt 47 47 rfl).1 h
   obtain ⟨K, hK⟩ := ih (i + 1) (i + 1) (acc ++ [mk (((bs a).take i).drop fr)]) (by omega) (by omega) (by omega) (by simp; omega)
   dsimp only at hK
   refine ⟨K + 1, fun k hk => ?_⟩
   obtain ⟨k, rfl⟩ : ∃ m, k = m + 1 := ⟨k - 1, by omega⟩
   simp only [copseref02_Split.l0]
   rw [if_pos (by omega), if_neg (by omega), if_pos (by omega), if_pos (by omega), if_pos h, if_pos (by omega), if_pos (by omega), if_pos (by omega), wrap_succ (n := a.size) (by omega) (by omega), Int.toNat_natCast, Int.toNat_natCast, extract_mk, hK k (by omega), h', splC_slash]
   rw [List.drop_of_length_le (l := (bs a).take (i + 1)) (by rw [List.length_take]; omega)]
   simp
  ·have h' : (bs a)[i]'(by rw [bs_size]; exact hlt) ≠ 47 := fun e => h ((bt_eq a i hlt 47 47 rfl).2 e)
   obtain ⟨K, hK⟩ := ih (i + 1) fr acc (by omega) (by omega) (by omega) (by omega)
   dsimp only at hK
   refine ⟨K + 1, fun k hk => ?_⟩
   obtain ⟨k, rfl⟩ : ∃ m, k = m + 1 := ⟨k - 1, by omega⟩
   simp only [copseref02_Split.l0]
   rw [if_pos (by omega), if_neg (by omega), if_pos (by omega), if_pos (by omega), if_neg h, wrap_succ (n := a.size) (by omega) (by omega), hK k (by omega), splC_other _ _ h']
   have hlen : i < (bs a).length := by rw [bs_size]; exact hlt
   rw [List.take_succ_eq_append_getElem hlen, List.drop_append_of_le_length (by rw [List.length_take]; omega)]
theorem ref_split (a : ByteArray) (ha : a.size ≤ 4294967296) : Ev (fun k => copseref02_Split.f k a) (pB a) := by
 by_cases h : bs a = []
 ·rw [pB_nil h]
  refine ev_pure fun k => ?_
  unfold copseref02_Split.f
  rw [if_pos (by rw [toList_bs]; exact h)]
 ·have := ref_split_run a ha a.size 0 0 [] (by omega) (by omega) (by omega) (by simp only [List.length_nil]; omega)
  refine Ev.congr (fun k => ?_) (Ev.val this ?_)
  ·unfold copseref02_Split.f
   rw [if_neg (by rw [toList_bs]; exact h)]; rfl
  ·simp only [List.take_zero, List.drop_zero, List.drop_nil, List.nil_append, splC_whole]
   unfold pB; rw [pcs_of h]
theorem prog_split (a : ByteArray) (ha : a.size < 4294967281) : Ev (fun k => path_Split.f k a) (pB a) := ev_pure fun k => by unfold path_Split.f; rw [if_pos ha]
end Go.Proofs.YtdfkaclflmgkeaaGreatDoor.PAll
