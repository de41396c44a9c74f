/- Layer 17: ProfileShows. -/
import Derived.Test.YtehfogjibhnabaaDoorPsPAllx0
import Derived.Test.YtehfogjibhnabaaDoorPsHandB
import Derived.Test.YtehfogjibhnabaaDoorPsPAlly11
import Derived.Test.YtehfogjibhnabaaDoorPsHandA
import Derived.Test.YtehfogjibhnabaaDoorPsPAlly12
import Derived.Test.YtehfogjibhnabaaDoorPsPAlly15
import Derived.Test.YtehfogjibhnabaaDoorPsFreshW
import Derived.Test.YtehfogjibhnabaaDoorPsProfQ
namespace Go.Proofs.YtehfogjibhnabaaDoor.PAll
open Go.RowKit Go.Proofs.YtehfogjibhnabaaDoorW.PrintWords Go.Proofs.YtehfogjibhnabaaDoorW.PrintLast Go.Proofs.YtehfogjibhnabaaDoorW.PrintMore
open Go.Proofs.YtehfogjibhnabaaDoor.Sp
theorem openL_ok (d : ByteArray) : okW (openL d) = true := by
 unfold okW
 rw [if_neg (show ¬ (openL d).head? = some 33 by rw [head_dir]; decide)]
 have : 2 ≤ (openL d).length := by rw [openL_length]; omega
 simp [this]
theorem shutL_ok (d : ByteArray) : okW (shutL d) = true := by
 unfold okW
 have h5 : midS ((shutL d).drop 1) = bs d ++ [47, 42] := by
  unfold midS shutL
  simp
  rw [show bs d ++ [47, 42, 47] = (bs d ++ [47, 42]) ++ [47] by simp]
  exact List.take_left' (by simp)
 rw [if_pos (show (shutL d).head? = some 33 from rfl), h5]
 have h1 : 2 ≤ ((shutL d).drop 1).length := by unfold shutL; simp
 have h2 : 2 ≤ (bs d ++ [47, 42]).length := by simp
 rw [decide_eq_true h1, decide_eq_true h2]
 simp
theorem lines_ok (k : List ByteArray) : (linesT k ++ [[]]).all okW = true := by
 rw [List.all_eq_true]
 intro l hl
 rcases List.mem_append.1 hl with hl | hl
 ·unfold linesT at hl
  rcases List.mem_cons.1 hl with rfl | hl
  ·rfl
  rcases List.mem_cons.1 hl with rfl | hl
  ·rfl
  obtain ⟨d, _, hl⟩ := List.mem_flatMap.1 hl
  unfold twoL at hl
  rcases List.mem_cons.1 hl with rfl | hl
  ·exact openL_ok d
  ·split at hl
   ·simp at hl
   ·obtain rfl := List.mem_singleton.1 hl
    exact shutL_ok d
 ·obtain rfl := List.mem_singleton.1 hl
  rfl
theorem shown17 {k : List ByteArray} {t p : ByteArray} (n : Nat) (h : writeR k = (t, 0)) (hv : validB p = true) (hp : bs p ≠ []) : copselaw17_shown.f n t p = some (showsB k p) := by
 obtain ⟨hc, hs, hl⟩ := writeR_ok h
 have hz := valid_size hv
 have hp0 : 0 < p.size := by rw [← bs_size]; exact List.length_pos_iff.2 hp
 unfold copselaw17_shown.f
 by_cases h0 : k = [⟨#[]⟩]
 ·have e : cut10 [] (bs t) = [[47, 42], []] := by rw [hs, bs_mk, h0, textS_root]; rfl
  rw [e, if_pos ⟨by rw [hs, mk_size]; omega, ⟨hp0, by omega⟩, rfl⟩, h0]
  have e1 : shownS (bs p) [[47, 42], []] = true := by
   unfold shownS
   rw [List.foldl_cons, List.foldl_cons, List.foldl_nil, step_nil]
   unfold stepW
   rw [if_pos rfl]
  rw [e1]
  congr 1
  unfold showsB nearB
  by_cases hd : bs (dirB p) = []
  ·simp [hd]
  ·have : aboveB ⟨#[]⟩ (dirB p) = true := above_root hd
   simp [this]
 ·have e : cut10 [] (bs t) = linesT k ++ [[]] := by rw [hs, bs_mk, textS_lines h0, cut10_join _ (lines_free (cones_of hc h0))]
  rw [e, if_pos ⟨by rw [hs, mk_size]; omega, ⟨hp0, by omega⟩, lines_ok k⟩, shown_is (cones_of hc h0) hv hp]
theorem shows17_run (k l : List ByteArray) (t : ByteArray) (hl : l.length ≤ 4294967296) (hf : Fits k) (hfl : Fits l) (h : writeR k = (t, 0)) (d : Nat) : ∀ i, l.length - i = d → i ≤ l.length → Ev (fun n => copselaw17_ProfileShows.l0 n k l t (i : Int)) true := by
 have stop : ∀ i : Nat, Ev (fun n => copselaw17_ProfileShows.j2 n k l t (i : Int) false) true := fun i => by
  refine ⟨1, fun n hn => ?_⟩
  obtain ⟨n, rfl⟩ : ∃ m, n = m + 1 := ⟨n - 1, by omega⟩
  simp only [copselaw17_ProfileShows.j2]
  rw [if_neg (by simp)]
 induction d with
 | zero =>
  intro i hd hi
  refine Ev.step (f := fun n => copselaw17_ProfileShows.j2 n k l t (i : Int) false) (fun n => ?_) (stop i)
  simp only [copselaw17_ProfileShows.l0]
  rw [if_neg (by omega)]
 | succ d ih =>
  intro i hd hi
  have hlt : i < l.length := by omega
  refine Ev.step (f := fun n => copselaw17_ProfileShows.j2 n k l t (i : Int) (decide ((i : Int) < 40))) (fun n => ?_) ?_
  ·simp only [copselaw17_ProfileShows.l0]
   rw [if_pos (by omega)]
  by_cases h40 : (i : Int) < 40
  ·rw [decide_eq_true h40]
   have hr := ih (i + 1) (by omega) (by omega)
   have hw : wrap64 ((i : Int) + 1) = ((i + 1 : Nat) : Int) := wrap_succ (n := l.length) (by omega) (by omega)
   have hp := hfl _ (rd_mem l i hlt)
   generalize hpp : rdOf ByteArray.empty l (i : Int) = p at hp
   by_cases h0 : bs p = []
   ·refine Ev.step (f := fun n => copselaw17_ProfileShows.l0 n k l t ((i + 1 : Nat) : Int)) (fun n => ?_) hr
    simp only [copselaw17_ProfileShows.j2]
    rw [if_pos trivial, if_pos (by omega), if_pos (by omega), hpp, toList_bs, if_pos h0, hw]
   ·refine Ev.step (f := fun n => (copseref02_Valid.f n p).bind fun t301 => (if t301 = true then ((copselaw17_shown.f n t p).bind fun t303 => ((cone_Shows.f n k p).bind fun t305 => (if (t303 != t305) = true then (some false) else (copselaw17_ProfileShows.l0 n k l t ((i + 1 : Nat) : Int))))) else (copselaw17_ProfileShows.l0 n k l t ((i + 1 : Nat) : Int)))) (fun n => ?_) ?_
    ·simp only [copselaw17_ProfileShows.j2]
     rw [if_pos trivial, if_pos (by omega), if_pos (by omega), hpp, toList_bs, if_neg h0, hw]
    refine Ev.bind (ref_valid p (by omega)) ?_
    by_cases hv : validB p = true
    ·rw [hv]
     simp only [if_true]
     refine Ev.bind (ev_pure fun n => shown17 n h hv h0) (Ev.bind (shows_ev k p hf (by omega)) ?_)
     simp only [bne_self_eq_false, Bool.false_eq_true, if_false]
     exact hr
    ·simp only [if_neg hv]
     exact hr
  ·rw [decide_eq_false h40]
   exact stop i
theorem ProfileShows (k l : List ByteArray) (hk : k.length ≤ 1048576) (hl : l.length ≤ 1048576) (hf : Fits k) (hfl : Fits l) : ∃ n, copselaw17_ProfileShows.f n k l = some true := by
 refine Ev.rounds ?_
 unfold copselaw17_ProfileShows.f
 refine Ev.bind (progWrite k hk hf) (Ev.bind known17 ?_)
 generalize hq : writeR k = q
 obtain ⟨t, e⟩ := q
 simp only [if_true]
 by_cases he : e = 0
 ·subst he
  refine Ev.step (f := fun n => copselaw17_ProfileShows.l0 n k l t ((0 : Nat) : Int)) (fun n => ?_) (shows17_run k l t (by omega) hf hfl hq l.length 0 (by omega) (by omega))
  simp only [copselaw17_ProfileShows.j0]
  rw [if_neg (by simp)]
  rfl
 ·refine Ev.step (f := fun n => (copselaw17_known.f n).bind fun t298 => some t298) (fun n => ?_) (Ev.bind known17 (ev_some true))
  simp only [copselaw17_ProfileShows.j0]
  rw [if_pos (by simpa using he)]
end Go.Proofs.YtehfogjibhnabaaDoor.PAll
