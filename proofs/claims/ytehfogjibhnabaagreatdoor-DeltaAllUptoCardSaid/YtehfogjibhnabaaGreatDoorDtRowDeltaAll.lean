/- DeltaAll: the card of the second form. For all arguments whose bulk is at most the bound the law answers true, and its arguments read as they did. -/
import Derived.Test.YtehfogjibhnabaaGreatDoorDtPAllx0
import Derived.Below
import Derived.Test.YtehfogjibhnabaaGreatDoorDtDzP
namespace Go.Proofs.YtehfogjibhnabaaGreatDoor.DeltaAllRow
open Go.ChangeShapes Go.WideShapes Go.ChangeAt Go.RowKit
open Go.ChangeMaps (open_string shut_string)
open Go.Proofs.YtehfogjibhnabaaGreatDoorW.PrintWords Go.Proofs.YtehfogjibhnabaaGreatDoor.Rk
set_option maxRecDepth 100000 in
theorem contract (H : Type) (enc : TypeId × Value → H) (W : World) (base : Nat) (args : Array Value) (ds gs : List (DataW H)) (before : List MemPlace)
  (hval : ∀ (j : Nat) t v, Tryz.f3.params[j]? = some t → args[j]? = some v → Value.okWide Tryz.prog W .any base t v)
  (hW : DataW.Whole enc Tryz.prog Tryz.f3.params.toList Rows.deltaAllSpec.vars false W args.toList ds gs before) (hk : Rows.uptoSmall H (ds ++ gs) = true) :
  Calls Tryz.prog 3 args W fun e W' => ∃ v, e = .returned v ∧ Rows.deltaAllSpec.post enc Tryz.prog Tryz.f3 false true false false W args v W' := by
 have hW' := hW
 obtain ⟨p, q, hA0, hV, rfl, hfz, hnd⟩ := hW
 have hA : DataW.TrodAll enc Tryz.prog W 0 (fun _ => true) true Tryz.f3.params.toList args.toList ds p := hA0
 rw [Tryz.params3] at hA hval
 obtain ⟨v0, vs0, d0, ds0, p0, q0, hargs, rfl, rfl, h0, r0⟩ := trodAll_cons hA
 obtain ⟨v1, vs1, d1, ds1, p1, q1, rfl, rfl, rfl, h1, r1⟩ := trodAll_cons r0
 obtain ⟨v2, vs2, d2, ds2, p2, q2, rfl, rfl, rfl, h2, r2⟩ := trodAll_cons r1
 obtain ⟨v3, vs3, d3, ds3, p3, q3, rfl, rfl, rfl, h3, r3⟩ := trodAll_cons r2
 obtain ⟨rfl, rfl, rfl⟩ := trodAll_nil r3
 obtain rfl : args = #[v0, v1, v2, v3] := by cases args; simp_all
 obtain ⟨rfl, rfl⟩ := trodVars_none hV
 have lt0 : ∀ x ∈ p0, x.block < W.heap.size := by obtain ⟨m, hm⟩ := h0; exact DataW.trod_lt m _ _ _ hm
 have lt1 : ∀ x ∈ p1, x.block < W.heap.size := by obtain ⟨m, hm⟩ := h1; exact DataW.trod_lt m _ _ _ hm
 have lt2 : ∀ x ∈ p2, x.block < W.heap.size := by obtain ⟨m, hm⟩ := h2; exact DataW.trod_lt m _ _ _ hm
 have lt3 : ∀ x ∈ p3, x.block < W.heap.size := by obtain ⟨m, hm⟩ := h3; exact DataW.trod_lt m _ _ _ hm
 obtain ⟨a0, cap0, l0, rfl, hr0, hc0, hb0, hf0⟩ := files_in Tryz.underlying22 Tryz.underlying43 (by kernel_rfl) (by kernel_rfl) rfl rfl rfl rfl rfl Tryz.underlying9 Tryz.underlying9 Tryz.underlying3 Tryz.underlying3 (hval 0 22 v0 rfl rfl) h0
 obtain ⟨a1, cap1, l1, rfl, hr1, hc1, hb1, hf1⟩ := files_in Tryz.underlying22 Tryz.underlying43 (by kernel_rfl) (by kernel_rfl) rfl rfl rfl rfl rfl Tryz.underlying9 Tryz.underlying9 Tryz.underlying3 Tryz.underlying3 (hval 1 22 v1 rfl rfl) h1
 obtain ⟨a2, cap2, l2, rfl, hr2, hc2, hb2, hf2⟩ := changes_in Tryz.underlying23 Tryz.underlying45 (by kernel_rfl) rfl rfl rfl rfl rfl rfl ⟨rfl, by kernel_rfl⟩ ⟨rfl, by kernel_rfl⟩ ⟨rfl, by kernel_rfl⟩ ⟨rfl, by kernel_rfl⟩ ⟨rfl, by kernel_rfl⟩ Tryz.underlying9 Tryz.underlying4 Tryz.underlying4 Tryz.underlying43 Tryz.underlying43 (by kernel_rfl) rfl rfl rfl rfl rfl Tryz.underlying9 Tryz.underlying9 Tryz.underlying3 Tryz.underlying3 (hval 2 23 v2 rfl rfl) h2
 obtain ⟨a3, cap3, l3, rfl, hr3, hc3, hb3, hf3⟩ := changes_in Tryz.underlying23 Tryz.underlying45 (by kernel_rfl) rfl rfl rfl rfl rfl rfl ⟨rfl, by kernel_rfl⟩ ⟨rfl, by kernel_rfl⟩ ⟨rfl, by kernel_rfl⟩ ⟨rfl, by kernel_rfl⟩ ⟨rfl, by kernel_rfl⟩ Tryz.underlying9 Tryz.underlying4 Tryz.underlying4 Tryz.underlying43 Tryz.underlying43 (by kernel_rfl) rfl rfl rfl rfl rfl Tryz.underlying9 Tryz.underlying9 Tryz.underlying3 Tryz.underlying3 (hval 3 23 v3 rfl rfl) h3
 have hB := bulk_bound hk
 simp only [List.append_nil, Rows.uptoBulkAll] at hB
 clear hA0
 simp only [List.append_nil] at hW'
 refine (PAll.DeltaAll_calls a0 cap0 l0 a1 cap1 l1 a2 cap2 l2 a3 cap3 l3 W hr0 hc0 hr1 hc1 hr2 hc2 hr3 hc3 (by omega) (by omega) (by omega) (by omega) (fun s hs => by have := hf0 s hs; omega) (fun s hs => by have := hf1 s hs; omega) (fun s hs => by have := hf2 s hs; omega) (fun s hs => by have := hf3 s hs; omega)).mono fun e W' ⟨he, bel⟩ => ?_
 subst he
 exact ⟨_, rfl, _, _, _, [], _, [], hW', trodAll_mk1 (shut_bool Tryz.underlying4 _), (trodAll_cons_mk (Below.trod laidOut (by kernel_rfl) (of_decide_eq_true (by kernel_rfl)) h0 bel lt0) (trodAll_cons_mk (Below.trod laidOut (by kernel_rfl) (of_decide_eq_true (by kernel_rfl)) h1 bel lt1) (trodAll_cons_mk (Below.trod laidOut (by kernel_rfl) (of_decide_eq_true (by kernel_rfl)) h2 bel lt2) (trodAll_cons_mk (Below.trod laidOut (by kernel_rfl) (of_decide_eq_true (by kernel_rfl)) h3 bel lt3) trodAll_mk0)))), rfl, bel.frame _, fun h => by cases h⟩
noncomputable abbrev args0 : Array Value := #[.slice none 0 0, .slice none 0 0, .slice none 0 0, .slice none 0 0]
theorem laid_met (os : Os) : laidMet Tryz.prog Rows.deltaAllUptoRow.laid ((laidWorld os).forCall (fun _ _ => 0) ⟨#[], args0, []⟩).memory :=
 laidMet_of_run' 8 (by kernel_rfl) (by kernel_rfl)
theorem reads (os : Os) {H : Type} (enc : TypeId × Value → H) : ∃ places, DataW.whole enc Tryz.prog ((laidWorld os).forCall (fun _ _ => 0) ⟨#[], args0, []⟩).memory Tryz.f3.params.toList Rows.deltaAllSpec.vars false args0.toList 8 = some ([.nil, .nil, .nil, .nil], [], places) :=
 ⟨[], by kernel_rfl⟩
set_option maxRecDepth 100000 in
theorem liftedUpto (os : Os) (started : os.Started) (H : Type) (enc : TypeId × Value → H) (F : Stop.Interp) :
  ReturnsInHanded {} Tryz.checked os 3 .any ((Rows.OpenSpec.upto Rows.deltaAllSpec).preRow enc Tryz.prog Tryz.f3 Rows.deltaAllUptoRow.domain false Rows.deltaAllUptoRow.laid) (((Rows.OpenSpec.upto Rows.deltaAllSpec).at F).post enc Tryz.prog Tryz.f3 false true false false) := by
 obtain ⟨places, hx⟩ := reads os enc
 refine returnsInHanded_of_row (C := Tryz.checked) (s := Rows.OpenSpec.upto Rows.deltaAllSpec) own started (by kernel_rfl) Tryz.func3
  (witness_row_at (enc := enc) (C := Tryz.checked) false (laidWorld os) args0 rfl (by kernel_rfl) (by kernel_rfl) (by kernel_rfl)
   (OpenSpec.preRow_of_cond 8 hx (by kernel_rfl) (fun k hk => by cases hk; kernel_rfl) (by kernel_rfl) (laid_met os))) ?_
 intro W base args ds gs before hval hW _ hcond _ _ _ _
 exact contract H enc W base args ds gs before hval hW (hcond _ rfl)
theorem saidUpto : Rows.DeltaAllUptoSaid :=
 OpenClaim.holds_of_cond 3 Tryz.f3 rfl rfl rfl rfl rfl rfl rfl ⟨rfl, rfl, rfl, rfl, rfl⟩ rfl rfl rfl rfl rfl (by kernel_rfl) Tryz.func3 (by kernel_rfl)
  (of_decide_eq_true (by kernel_rfl)) (by unfold Func.isWrapper; first | (rw [if_pos (by decide +kernel)]; kernel_rfl) | (rw [if_neg (by decide +kernel)]; exact ⟨rfl, rfl⟩))
  (fun os started H enc _ F => by rw [OpenClaim.pre_eq_preRow]; exact liftedUpto os started H enc F)
theorem plain (f : FuncId) (fn : Func) (hf : Tryz.pinned.checked.prog.funcNamed "copse/copselaw06.DeltaAll" = some f) (hfn : Tryz.pinned.checked.prog.funcs[f]? = some fn) :
  false = Tryz.pinned.checked.prog.looks [] ∧ ∀ (j : Nat) t, fn.params[j]? = some t → Tryz.pinned.checked.prog.wantsStandIn t = false := by
 obtain rfl : f = 3 := Option.some.inj ((show Tryz.prog.funcNamed "copse/copselaw06.DeltaAll" = some 3 by kernel_rfl).symm.trans hf) |>.symm
 obtain rfl : fn = Tryz.f3 := (Option.some.inj (Tryz.func3.symm.trans hfn)).symm
 refine ⟨by kernel_rfl, fun j t ht => ?_⟩
 rw [Tryz.params3] at ht
 have hm : t ∈ [22, 22, 23, 23] := by simpa using Array.mem_of_getElem? ht
 simp only [List.mem_cons, List.mem_nil_iff, or_false] at hm
 rcases hm with rfl | rfl | rfl | rfl
 ·exact (show Tryz.prog.wantsStandIn 22 = false by kernel_rfl)
 ·exact (show Tryz.prog.wantsStandIn 22 = false by kernel_rfl)
 ·exact (show Tryz.prog.wantsStandIn 23 = false by kernel_rfl)
 exact (show Tryz.prog.wantsStandIn 23 = false by kernel_rfl)
theorem cardUpto : Rows.DeltaAllUptoCardSaid :=
 Claim7.holds_tied_plain_at .later [] _ _ _ _ saidUpto (fun _ h => by cases h) (by kernel_rfl) (fun _ h => by cases h) deltaAllUpto_row_tie rfl ⟨rfl, rfl⟩ (by kernel_rfl) rfl plain (by kernel_rfl)
end Go.Proofs.YtehfogjibhnabaaGreatDoor.DeltaAllRow
