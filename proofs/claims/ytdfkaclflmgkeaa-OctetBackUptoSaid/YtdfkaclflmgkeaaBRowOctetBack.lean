/- What the claim leans on. -/
import Derived.Below
import Derived.Carry
import Derived.Deep.DeepHandedRow
import Derived.Test.YtdfkaclflmgkeaaBOctBackW3
namespace Go.Proofs.Ytdfkaclflmgkeaa.OctetBackRow
open Go.ChangeShapes Go.WideShapes Go.ChangeAt Go.RowKit
open Go.ChangeMaps (open_string shut_string)
open Go.Proofs.YtdfkaclflmgkeaaW.PrintWords Go.Proofs.Ytdfkaclflmgkeaa.Rk
set_option maxRecDepth 100000 in
theorem contract (H : Type) (enc : TypeId × Value → H) (W : World) (base : Nat) (args : Array Value) (ds gs : List (DataW H)) (before : List MemPlace)
  (hval : ∀ (j : Nat) t v, Try.f6.params[j]? = some t → args[j]? = some v → Value.okWide Try.prog W .any base t v)
  (hW : DataW.Whole enc Try.prog Try.f6.params.toList Rows.octetBackSpec.vars false W args.toList ds gs before) (hk : Rows.uptoSmall H (ds ++ gs) = true) :
  Calls Try.prog 6 args W fun e W' => ∃ v, e = .returned v ∧ Rows.octetBackSpec.post enc Try.prog Try.f6 false true false false W args v W' := by
 have hW' := hW
 obtain ⟨p, q, hA0, hV, rfl, hfz, hnd⟩ := hW
 have hA : DataW.TrodAll enc Try.prog W 0 (fun _ => true) true Try.f6.params.toList args.toList ds p := hA0
 rw [Try.params6] at hA hval
 obtain ⟨v0, vs0, d0, ds0, p0, q0, hargs, rfl, rfl, h0, r0⟩ := trodAll_cons hA
 obtain ⟨rfl, rfl, rfl⟩ := trodAll_nil r0
 obtain rfl : args = #[v0] := by cases args; simp_all
 obtain ⟨rfl, rfl⟩ := trodVars_none hV
 have lt0 : ∀ x ∈ p0, x.block < W.heap.size := by obtain ⟨m, hm⟩ := h0; exact DataW.trod_lt m _ _ _ hm
 obtain ⟨a0, cap0, l0, rfl, hr0, hc0, ⟨hb0, he0⟩, hI0⟩ := items_in Try.underlying52 Try.underlying54 (by kernel_rfl) (by kernel_rfl) rfl rfl rfl rfl Try.underlying3 Try.underlying23 Try.underlying9 (hval 0 52 v0 rfl rfl) h0
 have hB := bulk_bound hk
 simp only [List.append_nil, Rows.uptoBulkAll] at hB
 clear hA0
 simp only [List.append_nil] at hW'
 refine (PAll.octback_calls a0 cap0 l0 W hr0 hc0 (by omega) (by rw [PAll.encAll_end, List.length_append]; simp; omega) (fun x hx => ⟨(hI0 x hx).1, (hI0 x hx).2.1, Nat.le_trans (hI0 x hx).2.2 (by omega)⟩)).mono fun e W' ⟨he, bel⟩ => ?_
 subst he
 exact ⟨_, rfl, _, _, _, [], _, [], hW', trodAll_mk1 (shut_bool Try.underlying4 _), (trodAll_cons_mk (Below.trod laidOut (by kernel_rfl) (of_decide_eq_true (by kernel_rfl)) h0 bel lt0) trodAll_mk0), rfl, bel.frame _, fun h => by cases h⟩
set_option maxRecDepth 100000 in
theorem lifted (os : Os) (started : os.Started) (H : Type) (enc : TypeId × Value → H) (F : Stop.Interp) :
  ReturnsInHanded {} Try.checked os 6 .any ((Rows.OpenSpec.upto Rows.octetBackSpec).pre6 enc Try.prog Try.f6 Rows.octetBackUptoRow.domain false) (((Rows.OpenSpec.upto Rows.octetBackSpec).at F).post enc Try.prog Try.f6 false true false false) := by
 refine returnsInHanded_of_cond (C := Try.checked) (s := Rows.OpenSpec.upto Rows.octetBackSpec) (k := Rows.uptoSmall) rfl own started (by kernel_rfl) Try.func6
  (OpenSpec.witness (enc := enc) (C := Try.checked) (s := Rows.OpenSpec.upto Rows.octetBackSpec) (k := Rows.uptoSmall) rfl false ⟨#[], #[.slice none 0 0], []⟩ 8 (by kernel_rfl) (by kernel_rfl) (by kernel_rfl)
   (x := ([.nil], [], [])) (by kernel_rfl) rfl (by kernel_rfl)) ?_
 intro W base args ds gs before hval hW _ hk _
 exact contract H enc W base args ds gs before hval hW hk
theorem saidUpto : Rows.OctetBackUptoSaid :=
 OpenClaim.holds_of_cond 6 Try.f6 rfl rfl rfl rfl rfl rfl rfl ⟨rfl, rfl, rfl, rfl, rfl⟩ rfl rfl rfl rfl rfl (by kernel_rfl) Try.func6 (by kernel_rfl)
  (of_decide_eq_true (by kernel_rfl)) (by unfold Func.isWrapper; first | (rw [if_pos (by decide +kernel)]; kernel_rfl) | (rw [if_neg (by decide +kernel)]; exact ⟨rfl, rfl⟩))
  (fun os started H enc _ F => lifted os started H enc F)
end Go.Proofs.Ytdfkaclflmgkeaa.OctetBackRow
