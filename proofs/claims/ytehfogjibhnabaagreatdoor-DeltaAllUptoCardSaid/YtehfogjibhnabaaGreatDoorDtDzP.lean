/- Layer 6: the document's answer Apply: its walk. -/
import Derived.Test.YtehfogjibhnabaaGreatDoorDtPAllx0
import Derived.Test.YtehfogjibhnabaaGreatDoorDtPAlly13
import Derived.Test.YtehfogjibhnabaaGreatDoorDtPAlly6
import Derived.Test.YtehfogjibhnabaaGreatDoorDtPAlly17
import Derived.Test.YtehfogjibhnabaaGreatDoorDtDelQ
import Derived.Test.YtehfogjibhnabaaGreatDoorDtPAlly15
import Derived.Test.YtehfogjibhnabaaGreatDoorDtDelY
import Derived.Test.YtehfogjibhnabaaGreatDoorDtPAlly7
import Derived.Test.YtehfogjibhnabaaGreatDoorDtDzH
import Derived.Test.YtehfogjibhnabaaGreatDoorDtHandA
import Derived.Test.YtehfogjibhnabaaGreatDoorDtPAlly5
import Derived.WalkKit
import Derived.BigQuiet
import Derived.Outline
import Derived.Test.YtehfogjibhnabaaGreatDoorDtDelJ
namespace Go.Proofs.YtehfogjibhnabaaGreatDoor.PAll
open Go.RowKit Go.Proofs.YtehfogjibhnabaaGreatDoorW.PrintWords Go.Proofs.YtehfogjibhnabaaGreatDoorW.PrintLast Go.Proofs.YtehfogjibhnabaaGreatDoorW.PrintMore
open Go.Proofs.YtehfogjibhnabaaGreatDoor.Sp
attribute [local go_sem high] eqA43
def layS (p : ByteArray) (s : S43 × Bool) (c : S45) : S43 × Bool := if c.f0 = p then (c.f4, c.f2) else s
theorem layS_fold (p : ByteArray) : ∀ (d : List S45) (s : S43 × Bool), RisesK S45.f0 d → d.foldl (layS p) s = match atC d p with | none => s | some c => (c.f4, c.f2)
 | [], s, _ => rfl
 | c :: d, s, h => by
  obtain ⟨h1, h2⟩ := List.pairwise_cons.1 h
  rw [List.foldl_cons, layS_fold p d _ h2]
  show _ = match atK S45.f0 (c :: d) p with | none => s | some c => (c.f4, c.f2)
  rw [atK_cons]
  unfold layS
  by_cases e : c.f0 = p
  ·rw [if_pos e, if_pos e, show atC d p = none from atK_none.2 fun x hx ex => absurd (e.trans ex.symm) (cB_ne (h1 x hx))]
  ·rw [if_neg e, if_neg e]
def layTo (a : List S43) (d : List S45) (n : List ByteArray) : List S43 := n.filterMap (laidO a d)
theorem layTo_succ (a : List S43) (d : List S45) (hd : RisesK S45.f0 d) (n : List ByteArray) (i : Nat) (h : i < n.length) (s : S43 × Bool) (hs : s = d.foldl (layS (rdOf ByteArray.empty n (i : Int))) (fileO (atF a (rdOf ByteArray.empty n (i : Int))), (atF a (rdOf ByteArray.empty n (i : Int))).isSome)) : layTo a d (n.take (i + 1)) = layTo a d (n.take i) ++ (if s.2 = true then [s.1] else []) := by
 rw [hs, layS_fold _ d _ hd]
 unfold layTo
 rw [show n.take (i + 1) = n.take i ++ [rdOf ByteArray.empty n (i : Int)] by
  rw [List.take_succ_eq_append_getElem h]
  congr 2
  unfold rdOf
  rw [Int.toNat_natCast, List.getD_eq_getElem?_getD, List.getElem?_eq_getElem h]; rfl, List.filterMap_append]
 congr 1
 show List.filterMap (laidO a d) [_] = _
 unfold laidO
 simp only [List.filterMap_cons, List.filterMap_nil]
 cases e1 : atC d (rdOf ByteArray.empty n (i : Int)) with
 | none => cases e2 : atF a (rdOf ByteArray.empty n (i : Int)) <;> simp
 | some c => cases e2 : c.f2 <;> simp [e2]
theorem layTo_length (a : List S43) (d : List S45) (n : List ByteArray) (i : Nat) : (layTo a d (n.take i)).length ≤ i := by
 unfold layTo
 have := List.length_filterMap_le (laidO a d) (n.take i)
 rw [List.length_take] at this
 omega
theorem applyV_nine {a : List S43} {d : List S45} (ha : snapV a = 0) (i : Nat) (hi : i < d.length) (h : offB a (rd_T45 d (i : Int)) = true) : applyV a d = ([], 9) := by
 unfold applyV
 rw [if_pos ha]
 split
 ·rw [if_pos (List.any_eq_true.2 ⟨_, rdC_mem d i hi, h⟩)]
 rfl
theorem applyV_fits {a : List S43} {d : List S45} (ha : snapV a = 0) (hd : validD d = true) (h : ∀ j, j < d.length → offB a (rd_T45 d (j : Int)) = false) : applyV a d = if snapV (applyL a d) = 0 then (applyL a d, 0) else ([], 9) := by
 unfold applyV
 rw [if_pos ha, if_pos hd, if_neg]
 intro hc
 obtain ⟨c, hc, ho⟩ := List.any_eq_true.1 hc
 obtain ⟨j, hj, rfl⟩ := List.getElem_of_mem hc
 rw [← rdC_get d j hj, h j hj] at ho
 cases ho
theorem fits_layTo {a : List S43} {d : List S45} (fa : FitsF a) (fd : FitsD d) (n : List ByteArray) : FitsF (layTo a d n) := by
 intro f hf
 unfold layTo at hf
 obtain ⟨p, _, hp⟩ := List.mem_filterMap.1 hf
 unfold laidO at hp
 cases hc : atC d p with
 | none => rw [hc] at hp; exact fa f (atK_some hp).2
 | some c =>
  rw [hc] at hp
  dsimp only at hp
  split at hp
  ·injection hp with hp
   rw [← hp]
   exact (fd c (atK_some hc).2).2.2
  cases hp
def RefA.T15 : Bool × List (List Nat × List Nat) := (true, [([], []), ([], []), ([], []), ([1, 2], [1, 2]), ([3], [3]), ([4], [4]), ([0, 5], [0, 5]), ([6], [6]), ([7], [7]), ([7], [7]), ([7], [7]), ([9, 10, 7], [7, 9, 10]), ([11, 7], [7, 11]), ([12, 7], [7, 12]), ([8, 13, 7], [7, 8, 13]), ([7, 14], [7, 14])])
def RefA.B15 : List Nat := [0, 0, 0, 6, 14, 30, 63, 127, 255, 255, 255, 1791, 3839, 7935, 16383, 32767]
theorem RefA.tab15 : rtab .any (opsOf Tryz.f11 15) = RefA.T15 := by kernel_rfl
theorem RefA.bits15 : waitsOk RefA.T15.2 RefA.B15 = true := by kernel_rfl
def RefA.T27 : Bool × List (List Nat × List Nat) := (true, [([], []), ([], []), ([0, 1], [0, 1]), ([2], [2]), ([3], [3]), ([], []), ([], []), ([5, 6], [5, 6]), ([7], [7]), ([4, 8], [4, 8])])
def RefA.B27 : List Nat := [0, 0, 3, 7, 15, 0, 0, 96, 224, 511]
theorem RefA.tab27 : rtab .any (opsOf Tryz.f11 27) = RefA.T27 := by kernel_rfl
theorem RefA.bits27 : waitsOk RefA.T27.2 RefA.B27 = true := by kernel_rfl
set_option maxHeartbeats 4000000 in
set_option maxRecDepth 100000 in
theorem refapply_calls (A0 : Option Addr) (c0 : Nat) (a : List S43) (A1 : Option Addr) (c1 : Nat) (d : List S45) (w : World) (hr0 : Kd.C k43 w A0 a.length a) (hc0 : a.length ≤ c0) (hr1 : Kd.C k45 w A1 d.length d) (hc1 : d.length ≤ c1) (la : a.length ≤ 1048576) (lb : d.length ≤ 1048576) (fa : FitsF a) (fb : FitsD d) :
  Calls Tryz.prog 11 #[.slice A0 a.length c0, .slice A1 d.length c1] w fun r w' => ∃ v : Value, r = .returned (.tuple #[v, .int .i64 (applyV a d).2]) ∧ Kd.R k43 43 w' w.heap.size (fun _ => True) v (applyV a d).1 ∧ Below w.heap.size w w' := by
 have hu := Tryz.underlying43
 have hu2 := Tryz.underlying45
 have HR0 := Aside0.mk hr0
 have HR1 := Aside0.mk hr1
 have FA := Aside0.mk fa
 have FD := Aside0.mk fb
 have HC0 := Aside0.mk hc0
 have HC1 := Aside0.mk hc1
 clear hr0 hr1 fa fb
 go_enter Tryz.func11, Tryz.ntmps11
 by_cases ha : snapV a = 0
 case neg =>
  have AV : Aside0 (applyV a d = ([], snapV a)) := ⟨by unfold applyV; rw [if_neg ha]⟩
  have hn0 : (snapV a == 0) = false := beq_eq_false_iff_ne.2 ha
  go_wp2_with fail
  refine (refsnap_calls A0 c0 a _ HR0.out (by omega) FA.out).mono ?_
  rintro e1 w1 ⟨rfl, hb⟩
  go_wp2
  go_ret2
  exact ⟨_, by rw [AV.out]; rfl, by rw [AV.out]; exact Kd.R_nil _ _ _ _ _, hb⟩
 go_wp2_with fail
 refine (refsnap_calls A0 c0 a _ HR0.out (by omega) FA.out).mono ?_
 rintro e1 w1 ⟨rfl, hb⟩
 rw [ha]
 have HA := Aside0.mk ha
 have B1 := Aside0.mk hb
 clear hb ha
 cases hv : validD d with
 | false =>
  have AV : Aside0 (applyV a d = ([], 9)) := ⟨by unfold applyV; rw [if_pos HA.out, if_neg (by simp [hv])]⟩
  go_wp2_with fail
  refine (ref06_calls A1 c1 d _ (Kd.C_below HR1.out B1.out) (by omega) FD.out).mono ?_
  rintro e2 w2 ⟨rfl, hb⟩
  rw [hv]
  go_wp2
  go_ret2
  exact ⟨_, by rw [AV.out]; rfl, by rw [AV.out]; exact Kd.R_nil _ _ _ _ _, below_then B1.out B1.out.size hb⟩
 | true =>
 have DP := Aside0.mk (validD_iff.1 hv)
 go_wp2_with fail
 refine (ref06_calls A1 c1 d _ (Kd.C_below HR1.out B1.out) (by omega) FD.out).mono ?_
 rintro e2 w2 ⟨rfl, hb⟩
 rw [hv]
 have HV := Aside0.mk hv
 have B2 : Aside0 (Below w.heap.size w w2) := ⟨below_then B1.out B1.out.size hb⟩
 clear hb B1 hv
 go_wp2
 go_loopg [7, 8] a.length (fun gg s7 s8 wr => ∃ (i : Nat) (xs : List ByteArray), i ≤ a.length ∧ a.length - i ≤ gg ∧ s8 = .int .i64 i ∧ Aside0 (xs = (a.take i).map S43.f0) ∧ Aside0 (Kd.R Kd.string 9 wr w.heap.size (fun _ => True) s7 xs) ∧ Aside0 (Below w.heap.size w wr))
 case atStart => exact ⟨0, [], by omega, by omega, rfl, ⟨rfl⟩, ⟨Kd.R_nil _ _ _ _ _⟩, B2⟩
 case round =>
  clear B2
  obtain ⟨i, xs, hi, hg, rfl, X1, O1, B1⟩ := hrel
  by_cases hlt : i < a.length
  case pos =>
   have hltz : (i : Int) < (a.length : Int) := by omega
   obtain ⟨ad, rfl, p0, p1, p2, p3⟩ := at_T43 (Kd.C_below HR0.out B1.out) (i : Int) (by omega) hltz
   rw [Int.toNat_natCast] at p0
   have X2 : Aside0 (xs ++ [(rd_T43 a (i : Int)).f0] = (a.take (i + 1)).map S43.f0) := ⟨by
    rw [X1.out, List.take_succ_eq_append_getElem hlt, List.map_append]
    unfold rd_T43
    rw [Int.toNat_natCast, List.getD_eq_getElem?_getD, List.getElem?_eq_getElem hlt]
    rfl⟩
   have XL : Aside0 (xs.length ≤ 1048576) := ⟨by rw [X1.out, List.length_map, List.length_take]; omega⟩
   generalize (rd_T43 a (i : Int)).f0 = p at p0 X2
   clear p1 p2 p3
   go_wp2_with (first
    | ((with_reducible refine gate_builtin (b := .append) (xs := #[.tmp 31, .tmp 37]) rfl ?_); at_builtin; refine Kd.R_append Kd.string (w0 := w) w.heap.size rfl (.tmp 31) (.tmp 37) 38 9 (.string ⟨#[]⟩) 16 rfl Tryz.underlying38 info9 rfl (by decide) (by omega) u7 xs (p) [.string (p)] (fun _ => True) (fun _ => False) rfl (by first | (go_simp; done) | (go_simp; rfl)) rfl (fun _ h => h.elim) (fun _ _ => trivial) O1.out B1.out B1.out.size (by have := XL.out; omega) ?_; intro v9 w9 ho hb hg hat; have O9 := Aside0.mk ho; have B9 := Aside0.mk hb; clear ho hb hg hat)
    | fail)
   go_roundg (a.length - (i + 1))
   case measure => omega
   case rel => exact ⟨i + 1, xs ++ [p], by omega, by omega, by go_num, X2, O9, B9⟩
  have hltz : ¬ (i : Int) < (a.length : Int) := by omega
  obtain rfl : i = a.length := by omega
  have X9 : Aside0 (xs = a.map S43.f0) := ⟨by rw [X1.out, List.take_length]⟩
  have XL0 : Aside0 (xs.length ≤ 1048576) := ⟨by rw [X9.out, List.length_map]; exact la⟩
  clear X1
  go_wp2
  go_loopg [7, 9] d.length (fun gg s7 s9 wr => ∃ (i : Nat) (ys : List ByteArray), i ≤ d.length ∧ d.length - i ≤ gg ∧ s9 = .int .i64 i ∧ Aside0 (ys = a.map S43.f0 ++ (d.take i).map S45.f0) ∧ Aside0 (∀ j, j < i → offB a (rd_T45 d (j : Int)) = false) ∧ Aside0 (Kd.R Kd.string 9 wr w.heap.size (fun _ => True) s7 ys) ∧ Aside0 (Below w.heap.size w wr))
  case atStart => exact ⟨0, xs, by omega, by omega, rfl, ⟨by rw [X9.out]; simp⟩, ⟨fun j h => absurd h (by omega)⟩, O1, B1⟩
  case round =>
   clear O1 B1 X9 XL0
   obtain ⟨i, ys, hi, hg, rfl, X1, F1, O1, B1⟩ := hrel
   by_cases hlt : i < d.length
   case pos =>
    have hltz : (i : Int) < (d.length : Int) := by omega
    obtain ⟨ad, rfl, p0, p1, p2, p3, p4, p5, p6, p7, p8, p9, p10⟩ := at_T45 (Kd.C_below HR1.out B1.out) (i : Int) (by omega) hltz
    rw [Int.toNat_natCast] at p0 p1 p2 p3 p4 p5 p6 p7 p8 p9 p10
    have X2 : Aside0 (ys ++ [(rd_T45 d (i : Int)).f0] = a.map S43.f0 ++ (d.take (i + 1)).map S45.f0) := ⟨by
     rw [X1.out, List.take_succ_eq_append_getElem hlt, List.map_append, List.append_assoc, rdC_get d i hlt]
     rfl⟩
    have XL : Aside0 (ys.length ≤ 2097152) := ⟨by rw [X1.out, List.length_append, List.length_map, List.length_map, List.length_take]; omega⟩
    have NINE : Aside0 (offB a (rd_T45 d (i : Int)) = true → applyV a d = ([], 9)) := ⟨applyV_nine HA.out i hlt⟩
    have FN : Aside0 (offB a (rd_T45 d (i : Int)) = false → ∀ j, j < i + 1 → offB a (rd_T45 d (j : Int)) = false) := ⟨fun h j hj => by
     by_cases e : j = i
     ·subst e; exact h
     ·exact F1.out j (by omega)⟩
    generalize rd_T45 d (i : Int) = c at p0 p1 p2 p3 p4 p5 p6 p7 p8 p9 p10 X2 NINE FN
    obtain ⟨ka, hka⟩ := Ev.rounds (refat06 a c.f0 (by omega))
    change copseref06_at.f ka a c.f0 = some (foundF (atF a c.f0)) at hka
    rw [foundF_is] at hka
    have OFF := Aside0.mk (off06 (foundF_is (atK S43.f0 a c.f0)))
    change Aside0 (offB a c = (!((atF a c.f0).isSome == c.f1) || !eqF (fileO (atF a c.f0)) c.f3)) at OFF
    generalize fileO (atF a c.f0) = x at hka OFF
    generalize (atF a c.f0).isSome = hx at hka OFF
    have KA := Aside0.mk hka
    clear hka
    go_wp2_with fail
    refine (copseref06_at.calls ka A0 c0 a c.f0 _ _ _ _ _ _ (Kd.C_below HR0.out B1.out) HC0.out KA.out).mono ?_
    rintro e5 w5 ⟨rfl, hb⟩
    have B5 : Aside0 (Below wr.heap.size wr (w5.alloc (.cells #[.string x.f0, .string x.f1, .int .i64 x.f2, .int .i64 x.f3] 43))) := ⟨(show Below wr.heap.size wr w5 from hb).alloc hb.size _⟩
    have g0 : (w5.alloc (.cells #[.string x.f0, .string x.f1, .int .i64 x.f2, .int .i64 x.f3] 43)).cell? (ad.add (i * 11)) = some (.string c.f0) := Lib.cell?_alloc_some _ (below_keeps hb p0)
    have g1 : (w5.alloc (.cells #[.string x.f0, .string x.f1, .int .i64 x.f2, .int .i64 x.f3] 43)).cell? ⟨(ad.add (i * 11)).block, (ad.add (i * 11)).off + 1, none⟩ = some (.bool c.f1) := Lib.cell?_alloc_some _ (below_keeps hb p1)
    have g3 : (w5.alloc (.cells #[.string x.f0, .string x.f1, .int .i64 x.f2, .int .i64 x.f3] 43)).cell? ⟨(ad.add (i * 11)).block, (ad.add (i * 11)).off + 3, none⟩ = some (.string c.f3.f0) := Lib.cell?_alloc_some _ (below_keeps hb p3)
    have g4 : (w5.alloc (.cells #[.string x.f0, .string x.f1, .int .i64 x.f2, .int .i64 x.f3] 43)).cell? ⟨(ad.add (i * 11)).block, (ad.add (i * 11)).off + 4, none⟩ = some (.string c.f3.f1) := Lib.cell?_alloc_some _ (below_keeps hb p4)
    have g5 : (w5.alloc (.cells #[.string x.f0, .string x.f1, .int .i64 x.f2, .int .i64 x.f3] 43)).cell? ⟨(ad.add (i * 11)).block, (ad.add (i * 11)).off + 5, none⟩ = some (.int .i64 c.f3.f2) := Lib.cell?_alloc_some _ (below_keeps hb p5)
    have g6 : (w5.alloc (.cells #[.string x.f0, .string x.f1, .int .i64 x.f2, .int .i64 x.f3] 43)).cell? ⟨(ad.add (i * 11)).block, (ad.add (i * 11)).off + 6, none⟩ = some (.int .i64 c.f3.f3) := Lib.cell?_alloc_some _ (below_keeps hb p6)
    clear hb p0 p1 p2 p3 p4 p5 p6 p7 p8 p9 p10
    have O5 := Aside0.mk (Kd.R_below O1.out B5.out)
    have W5 : Aside0 (Below w.heap.size w (w5.alloc (.cells #[.string x.f0, .string x.f1, .int .i64 x.f2, .int .i64 x.f3] 43))) := ⟨below_then B1.out B1.out.size B5.out⟩
    have O6 : Aside0 (Kd.R Kd.string 9 ((w5.alloc (.cells #[.string x.f0, .string x.f1, .int .i64 x.f2, .int .i64 x.f3] 43))).drew w.heap.size (fun _ => True) u7 ys) := ⟨Kd.R_drew O5.out⟩
    have W6 : Aside0 (Below w.heap.size w ((w5.alloc (.cells #[.string x.f0, .string x.f1, .int .i64 x.f2, .int .i64 x.f3] 43))).drew) := ⟨W5.out.drew⟩
    clear O5 W5 B5
    obtain ⟨f1, hf1⟩ : ∃ f1, c.f1 = f1 := ⟨_, rfl⟩
    rw [hf1] at g1 OFF
    clear hf1
    by_cases h1 : hx = f1
    case pos =>
     subst h1
     cases h2 : eqF x c.f3 with
     | true =>
      have h3 := eqF_iff.1 h2
      have FN2 := Aside0.mk (FN.out (by rw [OFF.out, h2]; simp))
      rw [← h3] at g3 g4 g5 g6
      clear h2 h3 OFF NINE FN
      change ((w5.alloc (.cells #[.string x.f0, .string x.f1, .int .i64 x.f2, .int .i64 x.f3] 43))).drew.cell? (ad.add (i * 11)) = _ at g0
      go_wp2
      refine start_ (n := 16) (S := fun w' => w'.cell? ⟨(ad.add (i * 11)).block, (ad.add (i * 11)).off + 1, none⟩ = some (.bool hx) ∧ w'.cell? ⟨(ad.add (i * 11)).block, (ad.add (i * 11)).off + 3, none⟩ = some (.string x.f0) ∧ w'.cell? ⟨(ad.add (i * 11)).block, (ad.add (i * 11)).off + 4, none⟩ = some (.string x.f1) ∧ w'.cell? ⟨(ad.add (i * 11)).block, (ad.add (i * 11)).off + 5, none⟩ = some (.int .i64 x.f2) ∧ w'.cell? ⟨(ad.add (i * 11)).block, (ad.add (i * 11)).off + 6, none⟩ = some (.int .i64 x.f3) ∧ w'.cell? ⟨w5.heap.size, 0, none⟩ = some (.string x.f0) ∧ w'.cell? ⟨w5.heap.size, 1, none⟩ = some (.string x.f1) ∧ w'.cell? ⟨w5.heap.size, 2, none⟩ = some (.int .i64 x.f2) ∧ w'.cell? ⟨w5.heap.size, 3, none⟩ = some (.int .i64 x.f3)) (ds := []) (_root_.Go.Proofs.YtehfogjibhnabaaGreatDoorW.PrintWords.lb 16 0) (by kernel_rfl) rfl rfl ⟨g1, g3, g4, g5, g6, cell_new w5 _ _ 0, cell_new w5 _ _ 1, cell_new w5 _ _ 2, cell_new w5 _ _ 3⟩ (fun hHeld => ?_); refine with_tabW RefA.tab15 RefA.bits15 (fun HT_ HW_ => ?_)
      generalize (w5.alloc (.cells #[.string x.f0, .string x.f1, .int .i64 x.f2, .int .i64 x.f3] 43)).drew = w7 at O6 W6 g0 hHeld ⊢
      refine pv_ 0 55 (_root_.Go.Proofs.YtehfogjibhnabaaGreatDoorW.PrintWords.lb 16 1) HT_.out ?_
      refine pv_ 1 56 (_root_.Go.Proofs.YtehfogjibhnabaaGreatDoorW.PrintWords.lb 16 3) HT_.out ?_
      refine pv_ 2 57 (_root_.Go.Proofs.YtehfogjibhnabaaGreatDoorW.PrintWords.lb 16 7) HT_.out ?_
      refine pv_ 3 58 (_root_.Go.Proofs.YtehfogjibhnabaaGreatDoorW.PrintWords.lb 16 15) HT_.out ?_
      refine pv_ 4 59 (_root_.Go.Proofs.YtehfogjibhnabaaGreatDoorW.PrintWords.lb 16 31) HT_.out ?_
      refine tk_ 5 60 (_root_.Go.Proofs.YtehfogjibhnabaaGreatDoorW.PrintWords.lb 16 63) HT_.out HW_.out hHeld ?_
      refine pv_ 6 61 (_root_.Go.Proofs.YtehfogjibhnabaaGreatDoorW.PrintWords.lb 16 127) HT_.out ?_
      refine pv_ 7 62 (_root_.Go.Proofs.YtehfogjibhnabaaGreatDoorW.PrintWords.lb 16 255) HT_.out ?_
      refine pv_ 9 64 (_root_.Go.Proofs.YtehfogjibhnabaaGreatDoorW.PrintWords.lb 16 767) HT_.out ?_
      refine pv_ 10 65 (_root_.Go.Proofs.YtehfogjibhnabaaGreatDoorW.PrintWords.lb 16 1791) HT_.out ?_
      refine pv_ 11 66 (_root_.Go.Proofs.YtehfogjibhnabaaGreatDoorW.PrintWords.lb 16 3839) HT_.out ?_
      refine pv_ 12 67 (_root_.Go.Proofs.YtehfogjibhnabaaGreatDoorW.PrintWords.lb 16 7935) HT_.out ?_
      refine tk_ 8 63 (_root_.Go.Proofs.YtehfogjibhnabaaGreatDoorW.PrintWords.lb 16 8191) HT_.out HW_.out hHeld ?_
      refine tk_ 13 68 (_root_.Go.Proofs.YtehfogjibhnabaaGreatDoorW.PrintWords.lb 16 16383) HT_.out HW_.out hHeld ?_
      refine pv_ 14 69 (_root_.Go.Proofs.YtehfogjibhnabaaGreatDoorW.PrintWords.lb 16 32767) HT_.out ?_
      refine pv_ 15 70 (_root_.Go.Proofs.YtehfogjibhnabaaGreatDoorW.PrintWords.lb 16 65535) HT_.out ?_
      refine done_ (done_of HT_.out (by kernel_rfl)) ?_
      go_wp2_with (first
       | ((with_reducible refine gate_builtin (b := .append) (xs := #[.tmp 71, .tmp 77]) rfl ?_); at_builtin; refine Kd.R_append Kd.string (w0 := w) w.heap.size rfl (.tmp 71) (.tmp 77) 38 9 (.string ⟨#[]⟩) 16 rfl Tryz.underlying38 info9 rfl (by decide) (by omega) u7 ys (c.f0) [.string (c.f0)] (fun _ => True) (fun _ => False) rfl (by first | (go_simp; done) | (go_simp; rfl)) rfl (fun _ h => h.elim) (fun _ _ => trivial) O6.out W6.out W6.out.size (by have := XL.out; omega) ?_; intro v9 w9 ho hb hg hat; have O9 := Aside0.mk ho; have B9 := Aside0.mk hb; clear ho hb hg hat)
       | fail)
      go_roundg (d.length - (i + 1))
      case measure => omega
      case rel => exact ⟨i + 1, ys ++ [c.f0], by omega, by omega, by go_num, X2, FN2, O9, B9⟩
     | false =>
      have hne := neF_bits h2
      have AV := Aside0.mk (NINE.out (by rw [OFF.out, h2]; simp))
      clear h2 OFF NINE FN
      change ((w5.alloc (.cells #[.string x.f0, .string x.f1, .int .i64 x.f2, .int .i64 x.f3] 43))).drew.cell? (ad.add (i * 11)) = _ at g0
      go_wp2
      refine start_ (n := 16) (S := fun w' => w'.cell? ⟨(ad.add (i * 11)).block, (ad.add (i * 11)).off + 1, none⟩ = some (.bool hx) ∧ w'.cell? ⟨(ad.add (i * 11)).block, (ad.add (i * 11)).off + 3, none⟩ = some (.string c.f3.f0) ∧ w'.cell? ⟨(ad.add (i * 11)).block, (ad.add (i * 11)).off + 4, none⟩ = some (.string c.f3.f1) ∧ w'.cell? ⟨(ad.add (i * 11)).block, (ad.add (i * 11)).off + 5, none⟩ = some (.int .i64 c.f3.f2) ∧ w'.cell? ⟨(ad.add (i * 11)).block, (ad.add (i * 11)).off + 6, none⟩ = some (.int .i64 c.f3.f3) ∧ w'.cell? ⟨w5.heap.size, 0, none⟩ = some (.string x.f0) ∧ w'.cell? ⟨w5.heap.size, 1, none⟩ = some (.string x.f1) ∧ w'.cell? ⟨w5.heap.size, 2, none⟩ = some (.int .i64 x.f2) ∧ w'.cell? ⟨w5.heap.size, 3, none⟩ = some (.int .i64 x.f3)) (ds := []) (_root_.Go.Proofs.YtehfogjibhnabaaGreatDoorW.PrintWords.lb 16 0) (by kernel_rfl) rfl rfl ⟨g1, g3, g4, g5, g6, cell_new w5 _ _ 0, cell_new w5 _ _ 1, cell_new w5 _ _ 2, cell_new w5 _ _ 3⟩ (fun hHeld => ?_); refine with_tabW RefA.tab15 RefA.bits15 (fun HT_ HW_ => ?_)
      generalize (w5.alloc (.cells #[.string x.f0, .string x.f1, .int .i64 x.f2, .int .i64 x.f3] 43)).drew = w7 at O6 W6 g0 hHeld ⊢
      refine pv_ 0 55 (_root_.Go.Proofs.YtehfogjibhnabaaGreatDoorW.PrintWords.lb 16 1) HT_.out ?_
      refine pv_ 1 56 (_root_.Go.Proofs.YtehfogjibhnabaaGreatDoorW.PrintWords.lb 16 3) HT_.out ?_
      refine pv_ 2 57 (_root_.Go.Proofs.YtehfogjibhnabaaGreatDoorW.PrintWords.lb 16 7) HT_.out ?_
      refine pv_ 3 58 (_root_.Go.Proofs.YtehfogjibhnabaaGreatDoorW.PrintWords.lb 16 15) HT_.out ?_
      refine pv_ 4 59 (_root_.Go.Proofs.YtehfogjibhnabaaGreatDoorW.PrintWords.lb 16 31) HT_.out ?_
      refine tk_ 5 60 (_root_.Go.Proofs.YtehfogjibhnabaaGreatDoorW.PrintWords.lb 16 63) HT_.out HW_.out hHeld ?_
      refine pv_ 6 61 (_root_.Go.Proofs.YtehfogjibhnabaaGreatDoorW.PrintWords.lb 16 127) HT_.out ?_
      refine pv_ 7 62 (_root_.Go.Proofs.YtehfogjibhnabaaGreatDoorW.PrintWords.lb 16 255) HT_.out ?_
      refine pv_ 9 64 (_root_.Go.Proofs.YtehfogjibhnabaaGreatDoorW.PrintWords.lb 16 767) HT_.out ?_
      refine pv_ 10 65 (_root_.Go.Proofs.YtehfogjibhnabaaGreatDoorW.PrintWords.lb 16 1791) HT_.out ?_
      refine pv_ 11 66 (_root_.Go.Proofs.YtehfogjibhnabaaGreatDoorW.PrintWords.lb 16 3839) HT_.out ?_
      refine pv_ 12 67 (_root_.Go.Proofs.YtehfogjibhnabaaGreatDoorW.PrintWords.lb 16 7935) HT_.out ?_
      refine tk_ 8 63 (_root_.Go.Proofs.YtehfogjibhnabaaGreatDoorW.PrintWords.lb 16 8191) HT_.out HW_.out hHeld ?_
      refine tk_ 13 68 (_root_.Go.Proofs.YtehfogjibhnabaaGreatDoorW.PrintWords.lb 16 16383) HT_.out HW_.out hHeld ?_
      refine pv_ 14 69 (_root_.Go.Proofs.YtehfogjibhnabaaGreatDoorW.PrintWords.lb 16 32767) HT_.out ?_
      refine pv_ 15 70 (_root_.Go.Proofs.YtehfogjibhnabaaGreatDoorW.PrintWords.lb 16 65535) HT_.out ?_
      refine done_ (done_of HT_.out (by kernel_rfl)) ?_
      go_wp2
      go_ret2
      exact ⟨_, by rw [AV.out]; rfl, by rw [AV.out]; exact Kd.R_nil _ _ _ _ _, W6.out⟩
    case neg =>
     have AV := Aside0.mk (NINE.out (by rw [OFF.out]; simp [h1]))
     clear OFF NINE FN
     change ((w5.alloc (.cells #[.string x.f0, .string x.f1, .int .i64 x.f2, .int .i64 x.f3] 43))).drew.cell? (ad.add (i * 11)) = _ at g0
     cases hx with
     | true =>
      obtain rfl : f1 = false := by cases f1; rfl; exact absurd rfl h1
      clear h1
      go_wp2
      refine start_ (n := 16) (S := fun w' => w'.cell? ⟨(ad.add (i * 11)).block, (ad.add (i * 11)).off + 1, none⟩ = some (.bool false) ∧ w'.cell? ⟨(ad.add (i * 11)).block, (ad.add (i * 11)).off + 3, none⟩ = some (.string c.f3.f0) ∧ w'.cell? ⟨(ad.add (i * 11)).block, (ad.add (i * 11)).off + 4, none⟩ = some (.string c.f3.f1) ∧ w'.cell? ⟨(ad.add (i * 11)).block, (ad.add (i * 11)).off + 5, none⟩ = some (.int .i64 c.f3.f2) ∧ w'.cell? ⟨(ad.add (i * 11)).block, (ad.add (i * 11)).off + 6, none⟩ = some (.int .i64 c.f3.f3) ∧ w'.cell? ⟨w5.heap.size, 0, none⟩ = some (.string x.f0) ∧ w'.cell? ⟨w5.heap.size, 1, none⟩ = some (.string x.f1) ∧ w'.cell? ⟨w5.heap.size, 2, none⟩ = some (.int .i64 x.f2) ∧ w'.cell? ⟨w5.heap.size, 3, none⟩ = some (.int .i64 x.f3)) (ds := []) (_root_.Go.Proofs.YtehfogjibhnabaaGreatDoorW.PrintWords.lb 16 0) (by kernel_rfl) rfl rfl ⟨g1, g3, g4, g5, g6, cell_new w5 _ _ 0, cell_new w5 _ _ 1, cell_new w5 _ _ 2, cell_new w5 _ _ 3⟩ (fun hHeld => ?_); refine with_tabW RefA.tab15 RefA.bits15 (fun HT_ HW_ => ?_)
      generalize (w5.alloc (.cells #[.string x.f0, .string x.f1, .int .i64 x.f2, .int .i64 x.f3] 43)).drew = w7 at O6 W6 g0 hHeld ⊢
      refine pv_ 0 55 (_root_.Go.Proofs.YtehfogjibhnabaaGreatDoorW.PrintWords.lb 16 1) HT_.out ?_
      refine pv_ 1 56 (_root_.Go.Proofs.YtehfogjibhnabaaGreatDoorW.PrintWords.lb 16 3) HT_.out ?_
      refine pv_ 2 57 (_root_.Go.Proofs.YtehfogjibhnabaaGreatDoorW.PrintWords.lb 16 7) HT_.out ?_
      refine pv_ 3 58 (_root_.Go.Proofs.YtehfogjibhnabaaGreatDoorW.PrintWords.lb 16 15) HT_.out ?_
      refine pv_ 4 59 (_root_.Go.Proofs.YtehfogjibhnabaaGreatDoorW.PrintWords.lb 16 31) HT_.out ?_
      refine tk_ 5 60 (_root_.Go.Proofs.YtehfogjibhnabaaGreatDoorW.PrintWords.lb 16 63) HT_.out HW_.out hHeld ?_
      refine pv_ 6 61 (_root_.Go.Proofs.YtehfogjibhnabaaGreatDoorW.PrintWords.lb 16 127) HT_.out ?_
      refine pv_ 7 62 (_root_.Go.Proofs.YtehfogjibhnabaaGreatDoorW.PrintWords.lb 16 255) HT_.out ?_
      refine pg_ 8 63 (_root_.Go.Proofs.YtehfogjibhnabaaGreatDoorW.PrintWords.lb 16 511) HT_.out ?_
      refine pg_ 9 64 (_root_.Go.Proofs.YtehfogjibhnabaaGreatDoorW.PrintWords.lb 16 1023) HT_.out ?_
      refine pg_ 10 65 (_root_.Go.Proofs.YtehfogjibhnabaaGreatDoorW.PrintWords.lb 16 2047) HT_.out ?_
      refine pg_ 11 66 (_root_.Go.Proofs.YtehfogjibhnabaaGreatDoorW.PrintWords.lb 16 4095) HT_.out ?_
      refine pg_ 12 67 (_root_.Go.Proofs.YtehfogjibhnabaaGreatDoorW.PrintWords.lb 16 8191) HT_.out ?_
      refine pg_ 13 68 (_root_.Go.Proofs.YtehfogjibhnabaaGreatDoorW.PrintWords.lb 16 16383) HT_.out ?_
      refine pg_ 14 69 (_root_.Go.Proofs.YtehfogjibhnabaaGreatDoorW.PrintWords.lb 16 32767) HT_.out ?_
      refine pv_ 15 70 (_root_.Go.Proofs.YtehfogjibhnabaaGreatDoorW.PrintWords.lb 16 65535) HT_.out ?_
      refine done_ (done_of HT_.out (by kernel_rfl)) ?_
      go_wp2
      go_ret2
      exact ⟨_, by rw [AV.out]; rfl, by rw [AV.out]; exact Kd.R_nil _ _ _ _ _, W6.out⟩
     | false =>
      obtain rfl : f1 = true := by cases f1; exact absurd rfl h1; rfl
      clear h1
      go_wp2
      refine start_ (n := 16) (S := fun w' => w'.cell? ⟨(ad.add (i * 11)).block, (ad.add (i * 11)).off + 1, none⟩ = some (.bool true) ∧ w'.cell? ⟨(ad.add (i * 11)).block, (ad.add (i * 11)).off + 3, none⟩ = some (.string c.f3.f0) ∧ w'.cell? ⟨(ad.add (i * 11)).block, (ad.add (i * 11)).off + 4, none⟩ = some (.string c.f3.f1) ∧ w'.cell? ⟨(ad.add (i * 11)).block, (ad.add (i * 11)).off + 5, none⟩ = some (.int .i64 c.f3.f2) ∧ w'.cell? ⟨(ad.add (i * 11)).block, (ad.add (i * 11)).off + 6, none⟩ = some (.int .i64 c.f3.f3) ∧ w'.cell? ⟨w5.heap.size, 0, none⟩ = some (.string x.f0) ∧ w'.cell? ⟨w5.heap.size, 1, none⟩ = some (.string x.f1) ∧ w'.cell? ⟨w5.heap.size, 2, none⟩ = some (.int .i64 x.f2) ∧ w'.cell? ⟨w5.heap.size, 3, none⟩ = some (.int .i64 x.f3)) (ds := []) (_root_.Go.Proofs.YtehfogjibhnabaaGreatDoorW.PrintWords.lb 16 0) (by kernel_rfl) rfl rfl ⟨g1, g3, g4, g5, g6, cell_new w5 _ _ 0, cell_new w5 _ _ 1, cell_new w5 _ _ 2, cell_new w5 _ _ 3⟩ (fun hHeld => ?_); refine with_tabW RefA.tab15 RefA.bits15 (fun HT_ HW_ => ?_)
      generalize (w5.alloc (.cells #[.string x.f0, .string x.f1, .int .i64 x.f2, .int .i64 x.f3] 43)).drew = w7 at O6 W6 g0 hHeld ⊢
      refine pv_ 0 55 (_root_.Go.Proofs.YtehfogjibhnabaaGreatDoorW.PrintWords.lb 16 1) HT_.out ?_
      refine pv_ 1 56 (_root_.Go.Proofs.YtehfogjibhnabaaGreatDoorW.PrintWords.lb 16 3) HT_.out ?_
      refine pv_ 2 57 (_root_.Go.Proofs.YtehfogjibhnabaaGreatDoorW.PrintWords.lb 16 7) HT_.out ?_
      refine pv_ 3 58 (_root_.Go.Proofs.YtehfogjibhnabaaGreatDoorW.PrintWords.lb 16 15) HT_.out ?_
      refine pv_ 4 59 (_root_.Go.Proofs.YtehfogjibhnabaaGreatDoorW.PrintWords.lb 16 31) HT_.out ?_
      refine tk_ 5 60 (_root_.Go.Proofs.YtehfogjibhnabaaGreatDoorW.PrintWords.lb 16 63) HT_.out HW_.out hHeld ?_
      refine pv_ 6 61 (_root_.Go.Proofs.YtehfogjibhnabaaGreatDoorW.PrintWords.lb 16 127) HT_.out ?_
      refine pv_ 7 62 (_root_.Go.Proofs.YtehfogjibhnabaaGreatDoorW.PrintWords.lb 16 255) HT_.out ?_
      refine pg_ 8 63 (_root_.Go.Proofs.YtehfogjibhnabaaGreatDoorW.PrintWords.lb 16 511) HT_.out ?_
      refine pg_ 9 64 (_root_.Go.Proofs.YtehfogjibhnabaaGreatDoorW.PrintWords.lb 16 1023) HT_.out ?_
      refine pg_ 10 65 (_root_.Go.Proofs.YtehfogjibhnabaaGreatDoorW.PrintWords.lb 16 2047) HT_.out ?_
      refine pg_ 11 66 (_root_.Go.Proofs.YtehfogjibhnabaaGreatDoorW.PrintWords.lb 16 4095) HT_.out ?_
      refine pg_ 12 67 (_root_.Go.Proofs.YtehfogjibhnabaaGreatDoorW.PrintWords.lb 16 8191) HT_.out ?_
      refine pg_ 13 68 (_root_.Go.Proofs.YtehfogjibhnabaaGreatDoorW.PrintWords.lb 16 16383) HT_.out ?_
      refine pg_ 14 69 (_root_.Go.Proofs.YtehfogjibhnabaaGreatDoorW.PrintWords.lb 16 32767) HT_.out ?_
      refine pv_ 15 70 (_root_.Go.Proofs.YtehfogjibhnabaaGreatDoorW.PrintWords.lb 16 65535) HT_.out ?_
      refine done_ (done_of HT_.out (by kernel_rfl)) ?_
      go_wp2
      go_ret2
      exact ⟨_, by rw [AV.out]; rfl, by rw [AV.out]; exact Kd.R_nil _ _ _ _ _, W6.out⟩
   have hltz : ¬ (i : Int) < (d.length : Int) := by omega
   obtain rfl : i = d.length := by omega
   have X9 : Aside0 (ys = a.map S43.f0 ++ d.map S45.f0) := ⟨by rw [X1.out, List.take_length]⟩
   have YL : Aside0 (ys.length ≤ 2097152) := ⟨by rw [X9.out, List.length_append, List.length_map, List.length_map]; omega⟩
   have AV := Aside0.mk (applyV_fits HA.out HV.out F1.out)
   obtain ⟨K2, hK2⟩ := Ev.rounds (ref_norm ys (by have := YL.out; omega) (fun p hp => by
    rw [X9.out] at hp
    rcases List.mem_append.1 hp with hp | hp
    ·obtain ⟨x, hx, rfl⟩ := List.mem_map.1 hp
     have := (FA.out x hx).1
     omega
    ·obtain ⟨x, hx, rfl⟩ := List.mem_map.1 hp
     have := (FD.out x hx).1
     omega))
   have KD2 := Aside0.mk hK2
   obtain ⟨As, cs, rfl, ls, rs⟩ := Kd.R_reads O1.out
   have LS := Aside0.mk ls
   have RS := Aside0.mk rs
   clear hK2 ls rs X1 F1
   go_wp2_with fail
   refine (copseref03_Norm.calls K2 As cs ys _ _ RS.out LS.out KD2.out).mono ?_
   rintro e7 w7 ⟨vn, rfl, ho, hb⟩
   have RL : Aside0 (layTo a d (norm ys) = applyL a d) := ⟨by rw [X9.out]; exact ref_applyL HA.out DP.out⟩
   have SN : Aside0 ((norm ys).length ≤ 2097152) := ⟨Nat.le_trans (norm_length_le ys) YL.out⟩
   generalize norm ys = n at ho RL SN
   obtain ⟨An, cn, rfl, ln, rn⟩ := Kd.R_reads ho
   have ON := Aside0.mk (Kd.R_lower ho B1.out.size)
   have B7 : Aside0 (Below w.heap.size w w7) := ⟨below_then B1.out B1.out.size hb⟩
   have SNL := SN.out
   clear ho hb ln rn B1 O1 LS RS KD2 X9 YL
   go_wp2
   go_loopg [12, 13] n.length (fun gg s12 s13 wr => ∃ i : Nat, i ≤ n.length ∧ n.length - i ≤ gg ∧ s13 = .int .i64 i ∧ Aside0 (Kd.R k43 43 wr w.heap.size (fun _ => True) s12 (layTo a d (n.take i))) ∧ Aside0 (Kd.R Kd.string 9 wr w.heap.size (fun _ => True) (.slice An n.length cn) n) ∧ Aside0 (Below w.heap.size w wr))
   case atStart => exact ⟨0, by omega, by omega, rfl, ⟨Kd.R_nil _ _ _ _ _⟩, ON, B7⟩
   case round =>
    clear ON B7
    obtain ⟨i, hi, hg, rfl, O1, N1, B1⟩ := hrel
    by_cases hlt : i < n.length
    case pos =>
     have hltz : (i : Int) < (n.length : Int) := by omega
     obtain ⟨wo, rfl⟩ : ∃ wo, wo = wr := ⟨_, rfl⟩
     obtain ⟨ad, rfl, hcell⟩ := Kd.at_string (Kd.R_reads' N1.out).2.2 (i : Int) (by omega) hltz
     rw [Int.toNat_natCast] at hcell
     have HC := Aside0.mk hcell
     have DS : Aside0 (∀ s : S43 × Bool, s = d.foldl (layS (rdOf ByteArray.empty n (i : Int))) (fileO (atF a (rdOf ByteArray.empty n (i : Int))), (atF a (rdOf ByteArray.empty n (i : Int))).isSome) → layTo a d (n.take (i + 1)) = layTo a d (n.take i) ++ (if s.2 = true then [s.1] else [])) := ⟨fun s hs => layTo_succ a d DP.out.rises n i hlt s hs⟩
     have DL := Aside0.mk (layTo_length a d n i)
     generalize rdOf ByteArray.empty n (i : Int) = p at hcell HC DS
     obtain ⟨ka, hka⟩ := Ev.rounds (refat06 a p (by omega))
     change copseref06_at.f ka a p = some (foundF (atF a p)) at hka
     rw [foundF_is] at hka
     generalize fileO (atF a p) = x at hka DS
     generalize (atF a p).isSome = hx at hka DS
     have KA := Aside0.mk hka
     clear hka
     go_wp2_with fail
     refine (copseref06_at.calls ka A0 c0 a p _ _ _ _ _ _ (Kd.C_below HR0.out B1.out) HC0.out KA.out).mono ?_
     rintro e5 w5 ⟨rfl, hb⟩
     have B5 : Aside0 (Below wo.heap.size wo (w5.alloc (.cells #[.string x.f0, .string x.f1, .int .i64 x.f2, .int .i64 x.f3] 43))) := ⟨(show Below wo.heap.size wo w5 from hb).alloc hb.size _⟩
     have S5 : Aside0 (wo.heap.size ≤ w5.heap.size) := ⟨hb.size⟩
     have K5 : Aside0 ((w5.alloc (.cells #[.string x.f0, .string x.f1, .int .i64 x.f2, .int .i64 x.f3] 43)).heap[w5.heap.size]? = some (.cells #[.string x.f0, .string x.f1, .int .i64 x.f2, .int .i64 x.f3] 43 (0, 0))) := ⟨heap_alloc_new w5 _⟩
     clear hb hcell
     go_wp2
     go_loopg [15, 16] d.length (fun gg s15 s16 wr => ∃ (k : Nat) (s : S43 × Bool), k ≤ d.length ∧ d.length - k ≤ gg ∧ s16 = .int .i64 k ∧ s15 = .bool s.2 ∧ Aside0 (s = (d.take k).foldl (layS p) (x, hx)) ∧ Aside0 (wr.heap[w5.heap.size]? = some (.cells #[.string s.1.f0, .string s.1.f1, .int .i64 s.1.f2, .int .i64 s.1.f3] 43 (0, 0))) ∧ Aside0 (Below wo.heap.size wo wr))
     case atStart => exact ⟨0, (x, hx), by omega, by omega, rfl, rfl, ⟨rfl⟩, K5, B5⟩
     case round =>
      clear B5 K5
      obtain ⟨k, s, hk, hgk, rfl, rfl, SS, BK, BZ⟩ := hrel
      by_cases hltk : k < d.length
      case pos =>
       have hltz2 : (k : Int) < (d.length : Int) := by omega
       obtain ⟨ad1, rfl, g0, g1, g2, g3, g4, g5, g6, g7, g8, g9, g10⟩ := at_T45 (Kd.C_below (Kd.C_below HR1.out B1.out) BZ.out) (k : Int) (by omega) hltz2
       rw [Int.toNat_natCast] at g0 g2 g7 g8 g9 g10
       have hc := below_keeps BZ.out HC.out
       have SS2 : Aside0 (layS p s (rd_T45 d (k : Int)) = (d.take (k + 1)).foldl (layS p) (x, hx)) := ⟨by rw [List.take_succ_eq_append_getElem hltk, List.foldl_append, ← SS.out, rdC_get d k hltk]; rfl⟩
       have E2 : Aside0 (∀ W, Below w.heap.size w W → W.cell? ⟨(ad1.add (k * 11)).block, (ad1.add (k * 11)).off + 2, none⟩ = some (.bool (rd_T45 d (k : Int)).f2)) := ⟨fun W hW => by
        obtain ⟨ad', e, _, _, f2, _⟩ := at_T45 (Kd.C_below HR1.out hW) (k : Int) (by omega) hltz2
        obtain rfl : ad1 = ad' := by injection e
        rwa [Int.toNat_natCast] at f2⟩
       generalize rd_T45 d (k : Int) = c at g0 g2 g7 g8 g9 g10 SS2 E2
       clear g1 g3 g4 g5 g6
       have BK2 : Aside0 (wr.drew.heap[w5.heap.size]? = some (.cells #[.string s.1.f0, .string s.1.f1, .int .i64 s.1.f2, .int .i64 s.1.f3] 43 (0, 0))) := ⟨BK.out⟩
       have BZ2 : Aside0 (Below wo.heap.size wo wr.drew) := ⟨BZ.out.drew⟩
       change wr.drew.cell? _ = _ at g0 g2 g7 g8 g9 g10 hc
       clear BK BZ SS
       by_cases hcp : c.f0 = p
       case pos =>
        have hcl : c.f0.toList = p.toList := by rw [hcp]
        have SS3 : Aside0 ((c.f4, c.f2) = (d.take (k + 1)).foldl (layS p) (x, hx)) := ⟨by rw [← SS2.out]; unfold layS; rw [if_pos hcp]⟩
        clear hcp SS2
        go_wp2
        refine start_ (n := 10) (S := fun w' => w'.cell? (ad1.add (k * 11)) = some (.string c.f0) ∧ w'.cell? (ad.add i) = some (.string p)) (ds := []) (_root_.Go.Proofs.YtehfogjibhnabaaGreatDoorW.PrintWords.lb 10 0) (by kernel_rfl) rfl rfl ⟨g0, hc⟩ (fun hHeld => ?_); refine with_tabW RefA.tab27 RefA.bits27 (fun HT_ HW_ => ?_)
        generalize wr.drew = w9 at g0 g2 g7 g8 g9 g10 BK2 BZ2 hHeld ⊢
        refine pv_ 0 102 (_root_.Go.Proofs.YtehfogjibhnabaaGreatDoorW.PrintWords.lb 10 1) HT_.out ?_
        refine pv_ 1 103 (_root_.Go.Proofs.YtehfogjibhnabaaGreatDoorW.PrintWords.lb 10 3) HT_.out ?_
        refine pv_ 2 104 (_root_.Go.Proofs.YtehfogjibhnabaaGreatDoorW.PrintWords.lb 10 7) HT_.out ?_
        refine pv_ 3 105 (_root_.Go.Proofs.YtehfogjibhnabaaGreatDoorW.PrintWords.lb 10 15) HT_.out ?_
        refine pv_ 5 107 (_root_.Go.Proofs.YtehfogjibhnabaaGreatDoorW.PrintWords.lb 10 47) HT_.out ?_
        refine pv_ 6 108 (_root_.Go.Proofs.YtehfogjibhnabaaGreatDoorW.PrintWords.lb 10 111) HT_.out ?_
        refine pv_ 7 109 (_root_.Go.Proofs.YtehfogjibhnabaaGreatDoorW.PrintWords.lb 10 239) HT_.out ?_
        refine tk_ 4 106 (_root_.Go.Proofs.YtehfogjibhnabaaGreatDoorW.PrintWords.lb 10 255) HT_.out HW_.out hHeld ?_
        refine tk_ 8 110 (_root_.Go.Proofs.YtehfogjibhnabaaGreatDoorW.PrintWords.lb 10 511) HT_.out HW_.out hHeld ?_
        refine pv_ 9 111 (_root_.Go.Proofs.YtehfogjibhnabaaGreatDoorW.PrintWords.lb 10 1023) HT_.out ?_
        refine done_ (done_of HT_.out (by kernel_rfl)) ?_
        have k0 := blk_frozen BK2.out 0
        have k1 := blk_frozen BK2.out 1
        have k2 := blk_frozen BK2.out 2
        have k3 := blk_frozen BK2.out 3
        have h0 : w9.cell? ⟨w5.heap.size, 0, none⟩ = some (.string s.1.f0) := (blk_cell BK2.out 0).trans rfl
        have h1 : w9.cell? ⟨w5.heap.size, 1, none⟩ = some (.string s.1.f1) := (blk_cell BK2.out 1).trans rfl
        have h2 : w9.cell? ⟨w5.heap.size, 2, none⟩ = some (.int .i64 s.1.f2) := (blk_cell BK2.out 2).trans rfl
        have h3 : w9.cell? ⟨w5.heap.size, 3, none⟩ = some (.int .i64 s.1.f3) := (blk_cell BK2.out 3).trans rfl
        go_upto_region 29 with (fail)
        obtain ⟨w10, h10⟩ : ∃ w10, (World.setCell (World.setCell (World.setCell (World.setCell w9 ⟨w5.heap.size, 0, none⟩ (.string c.f4.f0)) ⟨w5.heap.size, 1, none⟩ (.string c.f4.f1)) ⟨w5.heap.size, 2, none⟩ (.int .i64 c.f4.f2)) ⟨w5.heap.size, 3, none⟩ (.int .i64 c.f4.f3)) = w10 := ⟨_, rfl⟩
        have BK3 : Aside0 (w10.heap[w5.heap.size]? = some (.cells #[.string c.f4.f0, .string c.f4.f1, .int .i64 c.f4.f2, .int .i64 c.f4.f3] 43 (0, 0))) := ⟨by rw [← h10]; exact (blk_put (cs' := #[.string c.f4.f0, .string c.f4.f1, .int .i64 c.f4.f2, .int .i64 c.f4.f3]) (blk_put (cs' := #[.string c.f4.f0, .string c.f4.f1, .int .i64 c.f4.f2, .int .i64 s.1.f3]) (blk_put (cs' := #[.string c.f4.f0, .string c.f4.f1, .int .i64 s.1.f2, .int .i64 s.1.f3]) (blk_put (cs' := #[.string c.f4.f0, .string s.1.f1, .int .i64 s.1.f2, .int .i64 s.1.f3]) BK2.out 0 (.string c.f4.f0) rfl) 1 (.string c.f4.f1) rfl) 2 (.int .i64 c.f4.f2) rfl) 3 (.int .i64 c.f4.f3) rfl)⟩
        have BZ3 : Aside0 (Below wo.heap.size wo w10) := ⟨by rw [← h10]; exact ((((BZ2.out.setCell S5.out _).setCell S5.out _).setCell S5.out _).setCell S5.out _)⟩
        rw [h10]
        have e2 : w10.cell? ⟨(ad1.add (k * 11)).block, (ad1.add (k * 11)).off + 2, none⟩ = some (.bool c.f2) := E2.out _ (below_then B1.out B1.out.size BZ3.out)
        clear h10 k0 k1 k2 k3 BK2 BZ2
        go_wp2
        go_roundg (d.length - (k + 1))
        case measure => omega
        case rel => exact ⟨k + 1, (c.f4, c.f2), by omega, by omega, by go_num, rfl, SS3, BK3, BZ3⟩
       case neg =>
        have hcl : ¬ c.f0.toList = p.toList := fun e => hcp (bs_inj (by rw [← toList_bs, ← toList_bs]; exact e))
        have hcb : (c.f0.toList == p.toList) = false := beq_eq_false_iff_ne.2 hcl
        have SS3 : Aside0 (s = (d.take (k + 1)).foldl (layS p) (x, hx)) := ⟨by rw [← SS2.out]; unfold layS; rw [if_neg hcp]⟩
        clear hcp SS2
        go_wp2
        refine start_ (n := 10) (S := fun w' => w'.cell? (ad1.add (k * 11)) = some (.string c.f0) ∧ w'.cell? (ad.add i) = some (.string p)) (ds := []) (_root_.Go.Proofs.YtehfogjibhnabaaGreatDoorW.PrintWords.lb 10 0) (by kernel_rfl) rfl rfl ⟨g0, hc⟩ (fun hHeld => ?_); refine with_tabW RefA.tab27 RefA.bits27 (fun HT_ HW_ => ?_)
        generalize wr.drew = w9 at g0 g2 g7 g8 g9 g10 BK2 BZ2 hHeld ⊢
        refine pv_ 0 102 (_root_.Go.Proofs.YtehfogjibhnabaaGreatDoorW.PrintWords.lb 10 1) HT_.out ?_
        refine pv_ 1 103 (_root_.Go.Proofs.YtehfogjibhnabaaGreatDoorW.PrintWords.lb 10 3) HT_.out ?_
        refine pv_ 2 104 (_root_.Go.Proofs.YtehfogjibhnabaaGreatDoorW.PrintWords.lb 10 7) HT_.out ?_
        refine pv_ 3 105 (_root_.Go.Proofs.YtehfogjibhnabaaGreatDoorW.PrintWords.lb 10 15) HT_.out ?_
        refine pv_ 5 107 (_root_.Go.Proofs.YtehfogjibhnabaaGreatDoorW.PrintWords.lb 10 47) HT_.out ?_
        refine pv_ 6 108 (_root_.Go.Proofs.YtehfogjibhnabaaGreatDoorW.PrintWords.lb 10 111) HT_.out ?_
        refine pv_ 7 109 (_root_.Go.Proofs.YtehfogjibhnabaaGreatDoorW.PrintWords.lb 10 239) HT_.out ?_
        refine tk_ 4 106 (_root_.Go.Proofs.YtehfogjibhnabaaGreatDoorW.PrintWords.lb 10 255) HT_.out HW_.out hHeld ?_
        refine tk_ 8 110 (_root_.Go.Proofs.YtehfogjibhnabaaGreatDoorW.PrintWords.lb 10 511) HT_.out HW_.out hHeld ?_
        refine pv_ 9 111 (_root_.Go.Proofs.YtehfogjibhnabaaGreatDoorW.PrintWords.lb 10 1023) HT_.out ?_
        refine done_ (done_of HT_.out (by kernel_rfl)) ?_
        go_wp2
        go_roundg (d.length - (k + 1))
        case measure => omega
        case rel => exact ⟨k + 1, s, by omega, by omega, by go_num, rfl, SS3, BK2, BZ2⟩
      case neg =>
       have hltz2 : ¬ (k : Int) < (d.length : Int) := by omega
       obtain rfl : k = d.length := by omega
       have DS2 := Aside0.mk (DS.out s (by rw [SS.out, List.take_length]))
       have O9 := Aside0.mk (Kd.R_below O1.out BZ.out)
       have N9 := Aside0.mk (Kd.R_below N1.out BZ.out)
       have W9 : Aside0 (Below w.heap.size w wr) := ⟨below_then B1.out B1.out.size BZ.out⟩
       have q0 : wr.cell? ⟨w5.heap.size, 0, none⟩ = some (.string s.1.f0) := (blk_cell BK.out 0).trans rfl
       have q1 : wr.cell? ⟨w5.heap.size, 1, none⟩ = some (.string s.1.f1) := (blk_cell BK.out 1).trans rfl
       have q2 : wr.cell? ⟨w5.heap.size, 2, none⟩ = some (.int .i64 s.1.f2) := (blk_cell BK.out 2).trans rfl
       have q3 : wr.cell? ⟨w5.heap.size, 3, none⟩ = some (.int .i64 s.1.f3) := (blk_cell BK.out 3).trans rfl
       obtain ⟨f, b⟩ := s
       dsimp only at DS2 q0 q1 q2 q3 ⊢
       clear SS BK BZ DS
       cases b with
       | false =>
        go_wp2
        go_roundg (n.length - (i + 1))
        case measure => omega
        case rel => exact ⟨i + 1, by omega, by omega, by go_num, ⟨by rw [DS2.out]; simpa using O9.out⟩, N9, W9⟩
       | true =>
        go_wp2_with (first
         | ((with_reducible refine gate_builtin (b := .append) (xs := #[.tmp 123, .tmp 125]) rfl ?_); at_builtin; refine Kd.R_append k43 (w0 := w) w.heap.size rfl (.tmp 123) (.tmp 125) 22 43 (.agg #[(.string ⟨#[]⟩), (.string ⟨#[]⟩), (.int .i64 0), (.int .i64 0)]) 48 rfl Tryz.underlying22 info43 rfl (by decide) (by omega) u12 (layTo a d (n.take i)) f [.string f.f0, .string f.f1, .int .i64 f.f2, .int .i64 f.f3] (fun _ => True) (fun _ => False) rfl (by first | (go_simp; done) | (go_simp; rfl)) (k43_mkM _ _ _ f) (fun _ h => h.elim) (fun _ _ => trivial) O9.out W9.out W9.out.size (by have := DL.out; omega) ?_; intro vv ww ho hb hgr hat; have OO := Aside0.mk ho; have BB := Aside0.mk hb; have NN := Aside0.mk (Kd.R_over' N9.out (Kd.R_typed O9.out) (by decide) hgr); clear ho hb hgr hat)
         | fail)
        go_roundg (n.length - (i + 1))
        case measure => omega
        case rel => exact ⟨i + 1, by omega, by omega, by go_num, ⟨by rw [DS2.out]; exact OO.out⟩, NN, BB⟩
    case neg =>
     have hltz : ¬ (i : Int) < (n.length : Int) := by omega
     obtain rfl : i = n.length := by omega
     have h5 := O1.out
     rw [List.take_length] at h5
     have FL := Aside0.mk (fits_layTo FA.out FD.out n)
     have LL : Aside0 ((layTo a d n).length ≤ 2097152) := ⟨by have := layTo_length a d n n.length; rw [List.take_length] at this; omega⟩
     rw [RL.out] at h5 FL LL
     obtain ⟨Ao, co, rfl, lo, ro⟩ := Kd.R_reads h5
     have O5 := Aside0.mk h5
     have RO := Aside0.mk (Kd.R_reads' h5).2.2
     have LLL := LL.out
     clear h5 lo ro O1 N1
     by_cases hs : snapV (applyL a d) = 0
     case pos =>
      have AV2 : Aside0 (applyV a d = (applyL a d, 0)) := ⟨by rw [AV.out, if_pos hs]⟩
      go_wp2_with fail
      refine (refsnap_calls Ao co (applyL a d) _ RO.out (by omega) FL.out).mono ?_
      rintro e8 w8 ⟨rfl, hb⟩
      rw [hs]
      have B8 : Aside0 (Below w.heap.size w w8) := ⟨below_then B1.out B1.out.size hb⟩
      have O8 := Aside0.mk (Kd.R_below O5.out hb)
      clear hb
      go_wp2
      go_ret2
      exact ⟨_, by rw [AV2.out]; rfl, by rw [AV2.out]; exact O8.out, B8.out⟩
     case neg =>
      have AV2 : Aside0 (applyV a d = ([], 9)) := ⟨by rw [AV.out, if_neg hs]⟩
      have hn0 : (snapV (applyL a d) == 0) = false := beq_eq_false_iff_ne.2 hs
      go_wp2_with fail
      refine (refsnap_calls Ao co (applyL a d) _ RO.out (by omega) FL.out).mono ?_
      rintro e8 w8 ⟨rfl, hb⟩
      have B8 : Aside0 (Below w.heap.size w w8) := ⟨below_then B1.out B1.out.size hb⟩
      clear hb
      go_wp2
      go_ret2
      exact ⟨_, by rw [AV2.out]; rfl, by rw [AV2.out]; exact Kd.R_nil _ _ _ _ _, B8.out⟩
theorem apply_short (a : List S43) (d : List S45) : (applyV a d).1.length ≤ 512 := by
 unfold applyV
 split
 rotate_left
 ·simp
 split
 rotate_left
 ·simp
 split
 ·simp
 split
 ·rename_i h
  exact ((snap_zero _).1 h).2.1
 simp
theorem join_short (d e : List S45) : (joinV d e).1.length ≤ d.length + e.length := by
 unfold joinV
 split
 ·split
  ·simp
  exact joinK_length _ d e
 simp
theorem diff_short (a b : List S43) : (if snapV a = 0 ∧ snapV b = 0 then diffD a b else []).length ≤ a.length + b.length := by
 split
 ·exact diff_length a b
 simp
theorem texts06_run (a : List ByteArray) (ha : a.length ≤ 1073741824) (d : Nat) : ∀ i, a.length - i = d → i ≤ a.length → Ev (fun k => copselaw06_texts.l0 k a a (i : Int)) true := by
 induction d with
 | zero =>
  intro i hd hi
  refine ⟨1, fun k hk => ?_⟩
  obtain ⟨k, rfl⟩ : ∃ m, k = m + 1 := ⟨k - 1, by omega⟩
  simp only [copselaw06_texts.l0]
  rw [if_neg (by omega)]
 | succ d ih =>
  intro i hd hi
  obtain ⟨K, hK⟩ := ih (i + 1) (by omega) (by omega)
  dsimp only at hK
  refine ⟨K + 1, fun k hk => ?_⟩
  obtain ⟨k, rfl⟩ : ∃ m, k = m + 1 := ⟨k - 1, by omega⟩
  simp only [copselaw06_texts.l0]
  rw [if_pos (by omega), if_pos (by omega), if_pos (by omega), if_pos trivial, wrap_succ (n := a.length) (by omega) (by omega)]
  exact hK k (by omega)
theorem texts06_same (a : List ByteArray) (ha : a.length ≤ 1073741824) : Ev (fun k => copselaw06_texts.f k a a) true := by
 refine Ev.congr (fun k => ?_) (texts06_run a ha a.length 0 (by omega) (by omega))
 unfold copselaw06_texts.f
 rw [if_pos (by omega)]; rfl
set_option maxHeartbeats 16000000 in
set_option maxRecDepth 100000 in
theorem DeltaAll_calls (Aa : Option Addr) (ca : Nat) (a : List S43) (Ab : Option Addr) (cb : Nat) (b : List S43) (Ad : Option Addr) (cd : Nat) (d : List S45) (Ae : Option Addr) (ce : Nat) (e : List S45) (w : World)
  (hra : Kd.C k43 w Aa a.length a) (hca : a.length ≤ ca) (hrb : Kd.C k43 w Ab b.length b) (hcb : b.length ≤ cb) (hrd : Kd.C k45 w Ad d.length d) (hcd : d.length ≤ cd) (hre : Kd.C k45 w Ae e.length e) (hce : e.length ≤ ce)
  (la : a.length ≤ 1048576) (lb : b.length ≤ 1048576) (ld : d.length ≤ 1048576) (le : e.length ≤ 1048576) (fa : FitsF a) (fb : FitsF b) (fd : FitsD d) (fe : FitsD e) :
  Calls Tryz.prog 3 #[.slice Aa a.length ca, .slice Ab b.length cb, .slice Ad d.length cd, .slice Ae e.length ce] w fun r w' => r = .returned (.bool true) ∧ Below w.heap.size w w' := by
 have hu := Tryz.underlying43
 have hu2 := Tryz.underlying45
 obtain ⟨kx, hx⟩ := Ev.rounds (lentf06 a (by omega))
 obtain ⟨X, eX⟩ : ∃ X, X = a ++ (List.range 20).map markF := ⟨_, rfl⟩
 rw [← eX] at hx
 have tx : X.take a.length = a := by rw [eX]; simp
 have nx : a.length ≤ X.length ∧ X.length ≤ 1048596 := by rw [eX]; simp; omega
 obtain ⟨ky, hy⟩ := Ev.rounds (lentf06 b (by omega))
 obtain ⟨Y, eY⟩ : ∃ X, X = b ++ (List.range 20).map markF := ⟨_, rfl⟩
 rw [← eY] at hy
 have ty : Y.take b.length = b := by rw [eY]; simp
 have ny : b.length ≤ Y.length ∧ Y.length ≤ 1048596 := by rw [eY]; simp; omega
 obtain ⟨kp, hp⟩ := Ev.rounds (lentc06 d (by omega))
 obtain ⟨P, eP⟩ : ∃ X, X = d ++ (List.range 20).map markC := ⟨_, rfl⟩
 rw [← eP] at hp
 have tp : P.take d.length = d := by rw [eP]; simp
 have np : d.length ≤ P.length ∧ P.length ≤ 1048596 := by rw [eP]; simp; omega
 obtain ⟨kq, hq⟩ := Ev.rounds (lentc06 e (by omega))
 obtain ⟨Q, eQ⟩ : ∃ X, X = e ++ (List.range 20).map markC := ⟨_, rfl⟩
 rw [← eQ] at hq
 have tq : Q.take e.length = e := by rw [eQ]; simp
 have nq : e.length ≤ Q.length ∧ Q.length ≤ 1048596 := by rw [eQ]; simp; omega
 clear eX eY eP eQ
 obtain ⟨kv, hv⟩ := Ev.rounds alive06
 obtain ⟨kw, hw⟩ := Ev.rounds (valid06 d (by omega) fd)
 obtain ⟨ki, hi⟩ := Ev.rounds (diff06 a b (by omega) fa (by omega) fb)
 have REFD := refdiff_calls Aa ca a Ab cb b
 have nD := diff_short a b
 obtain ⟨D, hD⟩ : ∃ D, (if snapV a = 0 ∧ snapV b = 0 then diffD a b else []) = D := ⟨_, rfl⟩
 rw [hD] at hi nD REFD
 obtain ⟨L, er, hL⟩ : ∃ L er, applyV a d = (L, er) := ⟨_, _, rfl⟩
 have hap : delta_Apply.f a d = some (L, er) := by rw [apply_is (by omega) (by omega) fa fd, hL]
 have nL : L.length ≤ 512 := by have := apply_short a d; rw [hL] at this; exact this
 have REFA := refapply_calls Aa ca a Ad cd d
 rw [hL] at REFA
 obtain ⟨TV, hTV⟩ : ∃ T, d.map turnC = T := ⟨_, rfl⟩
 have hin : delta_Invert.f d = some TV := by rw [invert_is (by omega), hTV]
 have REFI := refinvert_calls Ad cd d
 rw [hTV] at REFI
 have nTV : TV.length = d.length := by rw [← hTV, List.length_map]
 obtain ⟨kj, hj⟩ := Ev.rounds (join06 d e (by omega) (by omega) fd fe)
 have nJ := join_short d e
 have REFJ := refjoin_calls Ad cd d Ae ce e
 obtain ⟨J, ej, hJ⟩ : ∃ J ej, joinV d e = (J, ej) := ⟨_, _, rfl⟩
 rw [hJ] at hj nJ REFJ
 obtain ⟨kn, hn⟩ := Ev.rounds (paths06 d (by omega))
 obtain ⟨kr, hr⟩ := Ev.rounds (refpaths06 d (by omega))
 obtain ⟨NM, hNM⟩ : ∃ T, d.map S45.f0 = T := ⟨_, rfl⟩
 rw [hNM] at hn hr
 have nNM : NM.length = d.length := by rw [← hNM, List.length_map]
 dsimp only at nJ REFJ REFA
 have HX := Aside0.mk hx
 have HY := Aside0.mk hy
 have HP := Aside0.mk hp
 have HQ := Aside0.mk hq
 have Tx := Aside0.mk tx
 have Ty := Aside0.mk ty
 have Tp := Aside0.mk tp
 have Tq := Aside0.mk tq
 have Nx := Aside0.mk nx.1
 have Ny := Aside0.mk ny.1
 have Np := Aside0.mk np.1
 have Nq := Aside0.mk nq.1
 have MX := Aside0.mk nx.2
 have MY := Aside0.mk ny.2
 have MP := Aside0.mk np.2
 have MQ := Aside0.mk nq.2
 have HV := Aside0.mk hv
 have HW := Aside0.mk hw
 have HD := Aside0.mk hi
 have HAP := Aside0.mk hap
 have HIN := Aside0.mk hin
 have HJ := Aside0.mk hj
 have HNM := Aside0.mk hn
 have HPR := Aside0.mk hr
 have RD0 := Aside0.mk REFD
 have RA0 := Aside0.mk REFA
 have RI0 := Aside0.mk REFI
 have RJ0 := Aside0.mk REFJ
 have nDD := Aside0.mk nD
 have nLL := Aside0.mk nL
 have nTT := Aside0.mk nTV
 have nJJ := Aside0.mk nJ
 have nNN := Aside0.mk nNM
 have HRa := Aside0.mk hra
 have HRb := Aside0.mk hrb
 have HRd := Aside0.mk hrd
 have HRe := Aside0.mk hre
 have H0a := Aside0.mk hra
 have H0b := Aside0.mk hrb
 have H0d := Aside0.mk hrd
 have H0e := Aside0.mk hre
 have HCa := Aside0.mk hca
 have HCb := Aside0.mk hcb
 have HCd := Aside0.mk hcd
 have HCe := Aside0.mk hce
 have FA := Aside0.mk fa
 have FB := Aside0.mk fb
 have FD := Aside0.mk fd
 have FE := Aside0.mk fe
 have BW := Aside0.mk (Below.refl w.heap.size w)
 clear hx hy hp hq tx ty tp tq nx ny np nq hv hw hi hap hin hj hn hr REFD REFA REFI REFJ nD nL nTV nJ nNM hra hrb hrd hre hca hcb hcd hce fa fb fd fe hD hL hTV hJ hNM
 go_enter Tryz.func3, Tryz.ntmps3
 go_wp2_with fail
 refine (copselaw06_lentFiles.calls kx Aa ca a X _ HRa.out HCa.out HX.out).mono ?_
 rintro e1 w1 ⟨vx, rfl, ho, hb⟩
 obtain ⟨Ax, cx, rfl, lx, -⟩ := Kd.R_reads ho
 have Lx := Aside0.mk lx
 clear lx
 have HRa := Aside0.mk (Kd.C_below HRa.out hb)
 have HRb := Aside0.mk (Kd.C_below HRb.out hb)
 have HRd := Aside0.mk (Kd.C_below HRd.out hb)
 have HRe := Aside0.mk (Kd.C_below HRe.out hb)
 have BW := Aside0.mk (below_then BW.out BW.out.size hb)
 have Rx := Aside0.mk (R_between ho)
 have Z1 : Aside0 (w.heap.size ≤ w1.heap.size) := ⟨hb.size⟩
 clear ho hb
 go_wp2_with fail
 refine (copselaw06_lentFiles.calls ky Ab cb b Y _ HRb.out HCb.out HY.out).mono ?_
 rintro e2 w2 ⟨vy, rfl, ho, hb⟩
 obtain ⟨Ay, cy, rfl, lx, -⟩ := Kd.R_reads ho
 have Ly := Aside0.mk lx
 clear lx
 have HRa := Aside0.mk (Kd.C_below HRa.out hb)
 have HRb := Aside0.mk (Kd.C_below HRb.out hb)
 have HRd := Aside0.mk (Kd.C_below HRd.out hb)
 have HRe := Aside0.mk (Kd.C_below HRe.out hb)
 have Rx := Aside0.mk (Kd.R_below Rx.out hb)
 have BW := Aside0.mk (below_then BW.out BW.out.size hb)
 have Ry := Aside0.mk (R_between ho)
 have Z2 : Aside0 (w1.heap.size ≤ w2.heap.size) := ⟨hb.size⟩
 clear ho hb
 go_wp2_with fail
 refine (copselaw06_lentChanges.calls kp Ad cd d P _ HRd.out HCd.out HP.out).mono ?_
 rintro e3 w3 ⟨vp, rfl, ho, hb⟩
 obtain ⟨Ap, cp, rfl, lx, -⟩ := Kd.R_reads ho
 have Lp := Aside0.mk lx
 clear lx
 have HRa := Aside0.mk (Kd.C_below HRa.out hb)
 have HRb := Aside0.mk (Kd.C_below HRb.out hb)
 have HRd := Aside0.mk (Kd.C_below HRd.out hb)
 have HRe := Aside0.mk (Kd.C_below HRe.out hb)
 have Rx := Aside0.mk (Kd.R_below Rx.out hb)
 have Ry := Aside0.mk (Kd.R_below Ry.out hb)
 have BW := Aside0.mk (below_then BW.out BW.out.size hb)
 have Rp := Aside0.mk (R_between ho)
 have Z3 : Aside0 (w2.heap.size ≤ w3.heap.size) := ⟨hb.size⟩
 clear ho hb
 go_wp2_with fail
 refine (copselaw06_lentChanges.calls kq Ae ce e Q _ HRe.out HCe.out HQ.out).mono ?_
 rintro e4 w4 ⟨vq, rfl, ho, hb⟩
 obtain ⟨Aq, cq, rfl, lx, -⟩ := Kd.R_reads ho
 have Lq := Aside0.mk lx
 clear lx
 have HRa := Aside0.mk (Kd.C_below HRa.out hb)
 have HRb := Aside0.mk (Kd.C_below HRb.out hb)
 have HRd := Aside0.mk (Kd.C_below HRd.out hb)
 have HRe := Aside0.mk (Kd.C_below HRe.out hb)
 have Rx := Aside0.mk (Kd.R_below Rx.out hb)
 have Ry := Aside0.mk (Kd.R_below Ry.out hb)
 have Rp := Aside0.mk (Kd.R_below Rp.out hb)
 have BW := Aside0.mk (below_then BW.out BW.out.size hb)
 have Rq := Aside0.mk (R_between ho)
 have Z4 : Aside0 (w3.heap.size ≤ w4.heap.size) := ⟨hb.size⟩
 clear ho hb
 have gx : a.length ≤ cx := Nat.le_trans Nx.out Lx.out
 have gy : b.length ≤ cy := Nat.le_trans Ny.out Ly.out
 have gp : d.length ≤ cp := Nat.le_trans Np.out Lp.out
 have gq : e.length ≤ cq := Nat.le_trans Nq.out Lq.out
 have hvd : (validD d != validD d) = false := by simp
 go_wp2_with fail
 refine (copselaw06_alive.calls kv true _ HV.out).mono ?_
 rintro e5 w5 ⟨rfl, hb⟩
 have HRa := Aside0.mk (Kd.C_below HRa.out hb)
 have HRb := Aside0.mk (Kd.C_below HRb.out hb)
 have HRd := Aside0.mk (Kd.C_below HRd.out hb)
 have HRe := Aside0.mk (Kd.C_below HRe.out hb)
 have Rx := Aside0.mk (Kd.R_below Rx.out hb)
 have Ry := Aside0.mk (Kd.R_below Ry.out hb)
 have Rp := Aside0.mk (Kd.R_below Rp.out hb)
 have Rq := Aside0.mk (Kd.R_below Rq.out hb)
 have BW := Aside0.mk (below_then BW.out BW.out.size hb)
 have Z5 : Aside0 (w4.heap.size ≤ w5.heap.size) := ⟨hb.size⟩
 clear hb
 go_wp2_with fail
 refine (delta_Valid.calls kw Ap cp d (validD d) _ (front06 Rp.out Tp.out Np.out) (Nat.le_trans Np.out Lp.out) HW.out).mono ?_
 rintro e6 w6 ⟨rfl, hb⟩
 have HRa := Aside0.mk (Kd.C_below HRa.out hb)
 have HRb := Aside0.mk (Kd.C_below HRb.out hb)
 have HRd := Aside0.mk (Kd.C_below HRd.out hb)
 have HRe := Aside0.mk (Kd.C_below HRe.out hb)
 have Rx := Aside0.mk (Kd.R_below Rx.out hb)
 have Ry := Aside0.mk (Kd.R_below Ry.out hb)
 have Rp := Aside0.mk (Kd.R_below Rp.out hb)
 have Rq := Aside0.mk (Kd.R_below Rq.out hb)
 have BW := Aside0.mk (below_then BW.out BW.out.size hb)
 have Z6 : Aside0 (w5.heap.size ≤ w6.heap.size) := ⟨hb.size⟩
 clear hb
 go_wp2_with fail
 refine (ref06_calls Ad cd d _ HRd.out (by omega) FD.out).mono ?_
 rintro e7 w7 ⟨rfl, hb⟩
 have HRa := Aside0.mk (Kd.C_below HRa.out hb)
 have HRb := Aside0.mk (Kd.C_below HRb.out hb)
 have HRd := Aside0.mk (Kd.C_below HRd.out hb)
 have HRe := Aside0.mk (Kd.C_below HRe.out hb)
 have Rx := Aside0.mk (Kd.R_below Rx.out hb)
 have Ry := Aside0.mk (Kd.R_below Ry.out hb)
 have Rp := Aside0.mk (Kd.R_below Rp.out hb)
 have Rq := Aside0.mk (Kd.R_below Rq.out hb)
 have BW := Aside0.mk (below_then BW.out BW.out.size hb)
 have Z7 : Aside0 (w6.heap.size ≤ w7.heap.size) := ⟨hb.size⟩
 clear hb
 go_wp2
 go_region_with (go_at_call 9; refine (delta_Diff.calls ki Ax cx a Ay cy b D _ (Kd.C_drew (front06 Rx.out Tx.out Nx.out)) (Nat.le_trans Nx.out Lx.out) (Kd.C_drew (front06 Ry.out Ty.out Ny.out)) (Nat.le_trans Ny.out Ly.out) HD.out).mono ?_; rintro e8 w8 ⟨vi, rfl, ho, hb0⟩)
 have hb : Below w7.heap.size w7 w8 := Below.trans (Below.refl _ w7).drew hb0
 clear hb0
 obtain ⟨Ai, ci, rfl, lx, -⟩ := Kd.R_reads ho
 have Li := Aside0.mk lx
 clear lx
 have HRa := Aside0.mk (Kd.C_below HRa.out hb)
 have HRb := Aside0.mk (Kd.C_below HRb.out hb)
 have HRd := Aside0.mk (Kd.C_below HRd.out hb)
 have HRe := Aside0.mk (Kd.C_below HRe.out hb)
 have Rx := Aside0.mk (Kd.R_below Rx.out hb)
 have Ry := Aside0.mk (Kd.R_below Ry.out hb)
 have Rp := Aside0.mk (Kd.R_below Rp.out hb)
 have Rq := Aside0.mk (Kd.R_below Rq.out hb)
 have BW := Aside0.mk (below_then BW.out BW.out.size hb)
 have Ri := Aside0.mk (R_between ho)
 have Z8 : Aside0 (w7.heap.size ≤ w8.heap.size) := ⟨hb.size⟩
 clear ho hb
 go_wp2
 go_region_with (go_at_call 10; refine (delta_Apply.calls Ax cx a Ap cp d L er _ (Kd.C_drew (front06 Rx.out Tx.out Nx.out)) (Nat.le_trans Nx.out Lx.out) (Kd.C_drew (front06 Rp.out Tp.out Np.out)) (Nat.le_trans Np.out Lp.out) HAP.out).mono ?_; rintro e9 w9 ⟨vl, rfl, ho, hb0⟩)
 have hb : Below w8.heap.size w8 w9 := Below.trans (Below.refl _ w8).drew hb0
 clear hb0
 obtain ⟨Al, cl, rfl, lx, -⟩ := Kd.R_reads ho
 have Ll := Aside0.mk lx
 clear lx
 have HRa := Aside0.mk (Kd.C_below HRa.out hb)
 have HRb := Aside0.mk (Kd.C_below HRb.out hb)
 have HRd := Aside0.mk (Kd.C_below HRd.out hb)
 have HRe := Aside0.mk (Kd.C_below HRe.out hb)
 have Rx := Aside0.mk (Kd.R_below Rx.out hb)
 have Ry := Aside0.mk (Kd.R_below Ry.out hb)
 have Rp := Aside0.mk (Kd.R_below Rp.out hb)
 have Rq := Aside0.mk (Kd.R_below Rq.out hb)
 have Ri := Aside0.mk (Kd.R_below Ri.out hb)
 have BW := Aside0.mk (below_then BW.out BW.out.size hb)
 have Rl := Aside0.mk (R_between ho)
 have Z9 : Aside0 (w8.heap.size ≤ w9.heap.size) := ⟨hb.size⟩
 clear ho hb
 go_wp2_with fail
 refine (RA0.out _ HRa.out HCa.out HRd.out HCd.out la ld FA.out FD.out).mono ?_
 rintro e10 w10 ⟨vm, rfl, ho, hb⟩
 obtain ⟨Am, cm, rfl, lx, -⟩ := Kd.R_reads ho
 have Lm := Aside0.mk lx
 clear lx
 have HRa := Aside0.mk (Kd.C_below HRa.out hb)
 have HRb := Aside0.mk (Kd.C_below HRb.out hb)
 have HRd := Aside0.mk (Kd.C_below HRd.out hb)
 have HRe := Aside0.mk (Kd.C_below HRe.out hb)
 have Rx := Aside0.mk (Kd.R_below Rx.out hb)
 have Ry := Aside0.mk (Kd.R_below Ry.out hb)
 have Rp := Aside0.mk (Kd.R_below Rp.out hb)
 have Rq := Aside0.mk (Kd.R_below Rq.out hb)
 have Ri := Aside0.mk (Kd.R_below Ri.out hb)
 have Rl := Aside0.mk (Kd.R_below Rl.out hb)
 have BW := Aside0.mk (below_then BW.out BW.out.size hb)
 have Rm := Aside0.mk (R_between ho)
 have Z10 : Aside0 (w9.heap.size ≤ w10.heap.size) := ⟨hb.size⟩
 clear ho hb
 go_wp2_with fail
 refine (delta_Invert.calls Ap cp d TV _ (front06 Rp.out Tp.out Np.out) (Nat.le_trans Np.out Lp.out) HIN.out).mono ?_
 rintro e11 w11 ⟨vt, rfl, ho, hb⟩
 obtain ⟨At, ct, rfl, lx, -⟩ := Kd.R_reads ho
 have Lt := Aside0.mk lx
 clear lx
 have HRa := Aside0.mk (Kd.C_below HRa.out hb)
 have HRb := Aside0.mk (Kd.C_below HRb.out hb)
 have HRd := Aside0.mk (Kd.C_below HRd.out hb)
 have HRe := Aside0.mk (Kd.C_below HRe.out hb)
 have Rx := Aside0.mk (Kd.R_below Rx.out hb)
 have Ry := Aside0.mk (Kd.R_below Ry.out hb)
 have Rp := Aside0.mk (Kd.R_below Rp.out hb)
 have Rq := Aside0.mk (Kd.R_below Rq.out hb)
 have Ri := Aside0.mk (Kd.R_below Ri.out hb)
 have Rl := Aside0.mk (Kd.R_below Rl.out hb)
 have Rm := Aside0.mk (Kd.R_below Rm.out hb)
 have BW := Aside0.mk (below_then BW.out BW.out.size hb)
 have Rt := Aside0.mk (R_between ho)
 have Z11 : Aside0 (w10.heap.size ≤ w11.heap.size) := ⟨hb.size⟩
 clear ho hb
 go_wp2
 go_region_with (go_at_call 13; refine (delta_Join.calls kj Ap cp d Aq cq e J ej _ (Kd.C_drew (front06 Rp.out Tp.out Np.out)) (Nat.le_trans Np.out Lp.out) (Kd.C_drew (front06 Rq.out Tq.out Nq.out)) (Nat.le_trans Nq.out Lq.out) HJ.out).mono ?_; rintro e12 w12 ⟨vj, rfl, ho, hb0⟩)
 have hb : Below w11.heap.size w11 w12 := Below.trans (Below.refl _ w11).drew hb0
 clear hb0
 obtain ⟨Aj, cj, rfl, lx, -⟩ := Kd.R_reads ho
 have Lj := Aside0.mk lx
 clear lx
 have HRa := Aside0.mk (Kd.C_below HRa.out hb)
 have HRb := Aside0.mk (Kd.C_below HRb.out hb)
 have HRd := Aside0.mk (Kd.C_below HRd.out hb)
 have HRe := Aside0.mk (Kd.C_below HRe.out hb)
 have Rx := Aside0.mk (Kd.R_below Rx.out hb)
 have Ry := Aside0.mk (Kd.R_below Ry.out hb)
 have Rp := Aside0.mk (Kd.R_below Rp.out hb)
 have Rq := Aside0.mk (Kd.R_below Rq.out hb)
 have Ri := Aside0.mk (Kd.R_below Ri.out hb)
 have Rl := Aside0.mk (Kd.R_below Rl.out hb)
 have Rm := Aside0.mk (Kd.R_below Rm.out hb)
 have Rt := Aside0.mk (Kd.R_below Rt.out hb)
 have BW := Aside0.mk (below_then BW.out BW.out.size hb)
 have Rj := Aside0.mk (R_between ho)
 have Z12 : Aside0 (w11.heap.size ≤ w12.heap.size) := ⟨hb.size⟩
 clear ho hb
 go_wp2_with fail
 refine (RJ0.out _ HRd.out HCd.out HRe.out HCe.out ld le FD.out FE.out).mono ?_
 rintro e13 w13 ⟨vk, rfl, ho, hb⟩
 obtain ⟨Ak, ck, rfl, lx, -⟩ := Kd.R_reads ho
 have Lk := Aside0.mk lx
 clear lx
 have HRa := Aside0.mk (Kd.C_below HRa.out hb)
 have HRb := Aside0.mk (Kd.C_below HRb.out hb)
 have HRd := Aside0.mk (Kd.C_below HRd.out hb)
 have HRe := Aside0.mk (Kd.C_below HRe.out hb)
 have Rx := Aside0.mk (Kd.R_below Rx.out hb)
 have Ry := Aside0.mk (Kd.R_below Ry.out hb)
 have Rp := Aside0.mk (Kd.R_below Rp.out hb)
 have Rq := Aside0.mk (Kd.R_below Rq.out hb)
 have Ri := Aside0.mk (Kd.R_below Ri.out hb)
 have Rl := Aside0.mk (Kd.R_below Rl.out hb)
 have Rm := Aside0.mk (Kd.R_below Rm.out hb)
 have Rt := Aside0.mk (Kd.R_below Rt.out hb)
 have Rj := Aside0.mk (Kd.R_below Rj.out hb)
 have BW := Aside0.mk (below_then BW.out BW.out.size hb)
 have Rk := Aside0.mk (R_between ho)
 have Z13 : Aside0 (w12.heap.size ≤ w13.heap.size) := ⟨hb.size⟩
 clear ho hb
 go_wp2_with fail
 refine (delta_Paths.calls kn Ap cp d NM _ (front06 Rp.out Tp.out Np.out) (Nat.le_trans Np.out Lp.out) HNM.out).mono ?_
 rintro e14 w14 ⟨vn, rfl, ho, hb⟩
 obtain ⟨An, cn, rfl, lx, -⟩ := Kd.R_reads ho
 have Ln := Aside0.mk lx
 clear lx
 have HRa := Aside0.mk (Kd.C_below HRa.out hb)
 have HRb := Aside0.mk (Kd.C_below HRb.out hb)
 have HRd := Aside0.mk (Kd.C_below HRd.out hb)
 have HRe := Aside0.mk (Kd.C_below HRe.out hb)
 have Rx := Aside0.mk (Kd.R_below Rx.out hb)
 have Ry := Aside0.mk (Kd.R_below Ry.out hb)
 have Rp := Aside0.mk (Kd.R_below Rp.out hb)
 have Rq := Aside0.mk (Kd.R_below Rq.out hb)
 have Ri := Aside0.mk (Kd.R_below Ri.out hb)
 have Rl := Aside0.mk (Kd.R_below Rl.out hb)
 have Rm := Aside0.mk (Kd.R_below Rm.out hb)
 have Rt := Aside0.mk (Kd.R_below Rt.out hb)
 have Rj := Aside0.mk (Kd.R_below Rj.out hb)
 have Rk := Aside0.mk (Kd.R_below Rk.out hb)
 have BW := Aside0.mk (below_then BW.out BW.out.size hb)
 have Rn := Aside0.mk (R_between ho)
 have Z14 : Aside0 (w13.heap.size ≤ w14.heap.size) := ⟨hb.size⟩
 clear ho hb
 go_wp2_with fail
 obtain ⟨kX, hkX⟩ := Ev.rounds (files06_same X (by have := MX.out; omega))
 obtain ⟨kY, hkY⟩ := Ev.rounds (files06_same Y (by have := MY.out; omega))
 obtain ⟨kP, hkP⟩ := Ev.rounds (changes06_same P (by have := MP.out; omega))
 obtain ⟨kQ, hkQ⟩ := Ev.rounds (changes06_same Q (by have := MQ.out; omega))
 have KX := Aside0.mk hkX
 have KY := Aside0.mk hkY
 have KP := Aside0.mk hkP
 have KQ := Aside0.mk hkQ
 clear hkX hkY hkP hkQ
 refine (copselaw06_lentFiles.calls kx Aa ca a X _ HRa.out HCa.out HX.out).mono ?_
 rintro e15 w15 ⟨vf1, rfl, ho, hb⟩
 obtain ⟨Af1, cf1, rfl, lx, -⟩ := Kd.R_reads ho
 have Lf1 := Aside0.mk lx
 clear lx
 have HRa := Aside0.mk (Kd.C_below HRa.out hb)
 have HRb := Aside0.mk (Kd.C_below HRb.out hb)
 have HRd := Aside0.mk (Kd.C_below HRd.out hb)
 have HRe := Aside0.mk (Kd.C_below HRe.out hb)
 have Rx := Aside0.mk (Kd.R_below Rx.out hb)
 have Ry := Aside0.mk (Kd.R_below Ry.out hb)
 have Rp := Aside0.mk (Kd.R_below Rp.out hb)
 have Rq := Aside0.mk (Kd.R_below Rq.out hb)
 have Ri := Aside0.mk (Kd.R_below Ri.out hb)
 have Rl := Aside0.mk (Kd.R_below Rl.out hb)
 have Rm := Aside0.mk (Kd.R_below Rm.out hb)
 have Rt := Aside0.mk (Kd.R_below Rt.out hb)
 have Rj := Aside0.mk (Kd.R_below Rj.out hb)
 have Rk := Aside0.mk (Kd.R_below Rk.out hb)
 have Rn := Aside0.mk (Kd.R_below Rn.out hb)
 have BW := Aside0.mk (below_then BW.out BW.out.size hb)
 have Rf1 := Aside0.mk (R_between ho)
 have Z15 : Aside0 (w14.heap.size ≤ w15.heap.size) := ⟨hb.size⟩
 clear ho hb
 go_wp2_with fail
 refine (copselaw06_files.calls kX Ax cx X Af1 cf1 X true _ (Kd.R_reads' Rx.out).2.2 Lx.out (Kd.R_reads' Rf1.out).2.2 Lf1.out KX.out).mono ?_
 rintro e16 x16 ⟨rfl, ⟨⟨q16, rfl⟩⟩⟩
 have hb : Below w15.heap.size w15 (w15.drewN q16) := pw_below_drewN (Below.refl _ _) q16
 generalize w15.drewN q16 = w16 at hb ⊢
 have HRa := Aside0.mk (Kd.C_below HRa.out hb)
 have HRb := Aside0.mk (Kd.C_below HRb.out hb)
 have HRd := Aside0.mk (Kd.C_below HRd.out hb)
 have HRe := Aside0.mk (Kd.C_below HRe.out hb)
 have Rx := Aside0.mk (Kd.R_below Rx.out hb)
 have Ry := Aside0.mk (Kd.R_below Ry.out hb)
 have Rp := Aside0.mk (Kd.R_below Rp.out hb)
 have Rq := Aside0.mk (Kd.R_below Rq.out hb)
 have Ri := Aside0.mk (Kd.R_below Ri.out hb)
 have Rl := Aside0.mk (Kd.R_below Rl.out hb)
 have Rm := Aside0.mk (Kd.R_below Rm.out hb)
 have Rt := Aside0.mk (Kd.R_below Rt.out hb)
 have Rj := Aside0.mk (Kd.R_below Rj.out hb)
 have Rk := Aside0.mk (Kd.R_below Rk.out hb)
 have Rn := Aside0.mk (Kd.R_below Rn.out hb)
 have Rf1 := Aside0.mk (Kd.R_below Rf1.out hb)
 have BW := Aside0.mk (below_then BW.out BW.out.size hb)
 have Z16 : Aside0 (w15.heap.size ≤ w16.heap.size) := ⟨hb.size⟩
 clear hb
 go_wp2_with fail
 refine (copselaw06_lentFiles.calls ky Ab cb b Y _ HRb.out HCb.out HY.out).mono ?_
 rintro e17 w17 ⟨vf2, rfl, ho, hb⟩
 obtain ⟨Af2, cf2, rfl, lx, -⟩ := Kd.R_reads ho
 have Lf2 := Aside0.mk lx
 clear lx
 have HRa := Aside0.mk (Kd.C_below HRa.out hb)
 have HRb := Aside0.mk (Kd.C_below HRb.out hb)
 have HRd := Aside0.mk (Kd.C_below HRd.out hb)
 have HRe := Aside0.mk (Kd.C_below HRe.out hb)
 have Rx := Aside0.mk (Kd.R_below Rx.out hb)
 have Ry := Aside0.mk (Kd.R_below Ry.out hb)
 have Rp := Aside0.mk (Kd.R_below Rp.out hb)
 have Rq := Aside0.mk (Kd.R_below Rq.out hb)
 have Ri := Aside0.mk (Kd.R_below Ri.out hb)
 have Rl := Aside0.mk (Kd.R_below Rl.out hb)
 have Rm := Aside0.mk (Kd.R_below Rm.out hb)
 have Rt := Aside0.mk (Kd.R_below Rt.out hb)
 have Rj := Aside0.mk (Kd.R_below Rj.out hb)
 have Rk := Aside0.mk (Kd.R_below Rk.out hb)
 have Rn := Aside0.mk (Kd.R_below Rn.out hb)
 have BW := Aside0.mk (below_then BW.out BW.out.size hb)
 have Rf2 := Aside0.mk (R_between ho)
 have Z17 : Aside0 (w16.heap.size ≤ w17.heap.size) := ⟨hb.size⟩
 clear ho hb
 go_wp2_with fail
 refine (copselaw06_files.calls kY Ay cy Y Af2 cf2 Y true _ (Kd.R_reads' Ry.out).2.2 Ly.out (Kd.R_reads' Rf2.out).2.2 Lf2.out KY.out).mono ?_
 rintro e18 x18 ⟨rfl, ⟨⟨q18, rfl⟩⟩⟩
 have hb : Below w17.heap.size w17 (w17.drewN q18) := pw_below_drewN (Below.refl _ _) q18
 generalize w17.drewN q18 = w18 at hb ⊢
 have HRa := Aside0.mk (Kd.C_below HRa.out hb)
 have HRb := Aside0.mk (Kd.C_below HRb.out hb)
 have HRd := Aside0.mk (Kd.C_below HRd.out hb)
 have HRe := Aside0.mk (Kd.C_below HRe.out hb)
 have Rx := Aside0.mk (Kd.R_below Rx.out hb)
 have Ry := Aside0.mk (Kd.R_below Ry.out hb)
 have Rp := Aside0.mk (Kd.R_below Rp.out hb)
 have Rq := Aside0.mk (Kd.R_below Rq.out hb)
 have Ri := Aside0.mk (Kd.R_below Ri.out hb)
 have Rl := Aside0.mk (Kd.R_below Rl.out hb)
 have Rm := Aside0.mk (Kd.R_below Rm.out hb)
 have Rt := Aside0.mk (Kd.R_below Rt.out hb)
 have Rj := Aside0.mk (Kd.R_below Rj.out hb)
 have Rk := Aside0.mk (Kd.R_below Rk.out hb)
 have Rn := Aside0.mk (Kd.R_below Rn.out hb)
 have Rf2 := Aside0.mk (Kd.R_below Rf2.out hb)
 have BW := Aside0.mk (below_then BW.out BW.out.size hb)
 have Z18 : Aside0 (w17.heap.size ≤ w18.heap.size) := ⟨hb.size⟩
 clear hb
 go_wp2_with fail
 refine (copselaw06_lentChanges.calls kp Ad cd d P _ HRd.out HCd.out HP.out).mono ?_
 rintro e19 w19 ⟨vf3, rfl, ho, hb⟩
 obtain ⟨Af3, cf3, rfl, lx, -⟩ := Kd.R_reads ho
 have Lf3 := Aside0.mk lx
 clear lx
 have HRa := Aside0.mk (Kd.C_below HRa.out hb)
 have HRb := Aside0.mk (Kd.C_below HRb.out hb)
 have HRd := Aside0.mk (Kd.C_below HRd.out hb)
 have HRe := Aside0.mk (Kd.C_below HRe.out hb)
 have Rx := Aside0.mk (Kd.R_below Rx.out hb)
 have Ry := Aside0.mk (Kd.R_below Ry.out hb)
 have Rp := Aside0.mk (Kd.R_below Rp.out hb)
 have Rq := Aside0.mk (Kd.R_below Rq.out hb)
 have Ri := Aside0.mk (Kd.R_below Ri.out hb)
 have Rl := Aside0.mk (Kd.R_below Rl.out hb)
 have Rm := Aside0.mk (Kd.R_below Rm.out hb)
 have Rt := Aside0.mk (Kd.R_below Rt.out hb)
 have Rj := Aside0.mk (Kd.R_below Rj.out hb)
 have Rk := Aside0.mk (Kd.R_below Rk.out hb)
 have Rn := Aside0.mk (Kd.R_below Rn.out hb)
 have BW := Aside0.mk (below_then BW.out BW.out.size hb)
 have Rf3 := Aside0.mk (R_between ho)
 have Z19 : Aside0 (w18.heap.size ≤ w19.heap.size) := ⟨hb.size⟩
 clear ho hb
 go_wp2_with fail
 refine (copselaw06_changes.calls kP Ap cp P Af3 cf3 P true _ (Kd.R_reads' Rp.out).2.2 Lp.out (Kd.R_reads' Rf3.out).2.2 Lf3.out KP.out).mono ?_
 rintro e20 x20 ⟨rfl, ⟨⟨q20, rfl⟩⟩⟩
 have hb : Below w19.heap.size w19 (w19.drewN q20) := pw_below_drewN (Below.refl _ _) q20
 generalize w19.drewN q20 = w20 at hb ⊢
 have HRa := Aside0.mk (Kd.C_below HRa.out hb)
 have HRb := Aside0.mk (Kd.C_below HRb.out hb)
 have HRd := Aside0.mk (Kd.C_below HRd.out hb)
 have HRe := Aside0.mk (Kd.C_below HRe.out hb)
 have Rx := Aside0.mk (Kd.R_below Rx.out hb)
 have Ry := Aside0.mk (Kd.R_below Ry.out hb)
 have Rp := Aside0.mk (Kd.R_below Rp.out hb)
 have Rq := Aside0.mk (Kd.R_below Rq.out hb)
 have Ri := Aside0.mk (Kd.R_below Ri.out hb)
 have Rl := Aside0.mk (Kd.R_below Rl.out hb)
 have Rm := Aside0.mk (Kd.R_below Rm.out hb)
 have Rt := Aside0.mk (Kd.R_below Rt.out hb)
 have Rj := Aside0.mk (Kd.R_below Rj.out hb)
 have Rk := Aside0.mk (Kd.R_below Rk.out hb)
 have Rn := Aside0.mk (Kd.R_below Rn.out hb)
 have Rf3 := Aside0.mk (Kd.R_below Rf3.out hb)
 have BW := Aside0.mk (below_then BW.out BW.out.size hb)
 have Z20 : Aside0 (w19.heap.size ≤ w20.heap.size) := ⟨hb.size⟩
 clear hb
 go_wp2_with fail
 refine (copselaw06_lentChanges.calls kq Ae ce e Q _ HRe.out HCe.out HQ.out).mono ?_
 rintro e21 w21 ⟨vf4, rfl, ho, hb⟩
 obtain ⟨Af4, cf4, rfl, lx, -⟩ := Kd.R_reads ho
 have Lf4 := Aside0.mk lx
 clear lx
 have HRa := Aside0.mk (Kd.C_below HRa.out hb)
 have HRb := Aside0.mk (Kd.C_below HRb.out hb)
 have HRd := Aside0.mk (Kd.C_below HRd.out hb)
 have HRe := Aside0.mk (Kd.C_below HRe.out hb)
 have Rx := Aside0.mk (Kd.R_below Rx.out hb)
 have Ry := Aside0.mk (Kd.R_below Ry.out hb)
 have Rp := Aside0.mk (Kd.R_below Rp.out hb)
 have Rq := Aside0.mk (Kd.R_below Rq.out hb)
 have Ri := Aside0.mk (Kd.R_below Ri.out hb)
 have Rl := Aside0.mk (Kd.R_below Rl.out hb)
 have Rm := Aside0.mk (Kd.R_below Rm.out hb)
 have Rt := Aside0.mk (Kd.R_below Rt.out hb)
 have Rj := Aside0.mk (Kd.R_below Rj.out hb)
 have Rk := Aside0.mk (Kd.R_below Rk.out hb)
 have Rn := Aside0.mk (Kd.R_below Rn.out hb)
 have BW := Aside0.mk (below_then BW.out BW.out.size hb)
 have Rf4 := Aside0.mk (R_between ho)
 have Z21 : Aside0 (w20.heap.size ≤ w21.heap.size) := ⟨hb.size⟩
 clear ho hb
 go_wp2_with fail
 refine (copselaw06_changes.calls kQ Aq cq Q Af4 cf4 Q true _ (Kd.R_reads' Rq.out).2.2 Lq.out (Kd.R_reads' Rf4.out).2.2 Lf4.out KQ.out).mono ?_
 rintro e22 x22 ⟨rfl, ⟨⟨q22, rfl⟩⟩⟩
 have hb : Below w21.heap.size w21 (w21.drewN q22) := pw_below_drewN (Below.refl _ _) q22
 generalize w21.drewN q22 = w22 at hb ⊢
 have HRa := Aside0.mk (Kd.C_below HRa.out hb)
 have HRb := Aside0.mk (Kd.C_below HRb.out hb)
 have HRd := Aside0.mk (Kd.C_below HRd.out hb)
 have HRe := Aside0.mk (Kd.C_below HRe.out hb)
 have Rx := Aside0.mk (Kd.R_below Rx.out hb)
 have Ry := Aside0.mk (Kd.R_below Ry.out hb)
 have Rp := Aside0.mk (Kd.R_below Rp.out hb)
 have Rq := Aside0.mk (Kd.R_below Rq.out hb)
 have Ri := Aside0.mk (Kd.R_below Ri.out hb)
 have Rl := Aside0.mk (Kd.R_below Rl.out hb)
 have Rm := Aside0.mk (Kd.R_below Rm.out hb)
 have Rt := Aside0.mk (Kd.R_below Rt.out hb)
 have Rj := Aside0.mk (Kd.R_below Rj.out hb)
 have Rk := Aside0.mk (Kd.R_below Rk.out hb)
 have Rn := Aside0.mk (Kd.R_below Rn.out hb)
 have Rf4 := Aside0.mk (Kd.R_below Rf4.out hb)
 have BW := Aside0.mk (below_then BW.out BW.out.size hb)
 have Z22 : Aside0 (w21.heap.size ≤ w22.heap.size) := ⟨hb.size⟩
 clear hb
 have ZZ : Aside0 (w.heap.size ≤ w1.heap.size ∧ w1.heap.size ≤ w2.heap.size ∧ w2.heap.size ≤ w3.heap.size ∧ w3.heap.size ≤ w4.heap.size ∧ w4.heap.size ≤ w5.heap.size ∧ w5.heap.size ≤ w6.heap.size ∧ w6.heap.size ≤ w7.heap.size ∧ w7.heap.size ≤ w8.heap.size ∧ w8.heap.size ≤ w9.heap.size ∧ w9.heap.size ≤ w10.heap.size ∧ w10.heap.size ≤ w11.heap.size ∧ w11.heap.size ≤ w12.heap.size ∧ w12.heap.size ≤ w13.heap.size ∧ w13.heap.size ≤ w14.heap.size ∧ w14.heap.size ≤ w15.heap.size ∧ w15.heap.size ≤ w16.heap.size ∧ w16.heap.size ≤ w17.heap.size ∧ w17.heap.size ≤ w18.heap.size ∧ w18.heap.size ≤ w19.heap.size ∧ w19.heap.size ≤ w20.heap.size ∧ w20.heap.size ≤ w21.heap.size ∧ w21.heap.size ≤ w22.heap.size) := ⟨by have := Z1.out; have := Z2.out; have := Z3.out; have := Z4.out; have := Z5.out; have := Z6.out; have := Z7.out; have := Z8.out; have := Z9.out; have := Z10.out; have := Z11.out; have := Z12.out; have := Z13.out; have := Z14.out; have := Z15.out; have := Z16.out; have := Z17.out; have := Z18.out; have := Z19.out; have := Z20.out; have := Z21.out; have := Z22.out; omega⟩
 have HH : Aside0 (Held4 w.heap.size w1.heap.size w2.heap.size w3.heap.size w4.heap.size w22.heap.size w w22 (.slice Ax X.length cx) (.slice Ay Y.length cy) (.slice Ap P.length cp) (.slice Aq Q.length cq) X Y P Q w22) := ⟨by
  have zz := ZZ.out
  exact ⟨by omega, BW.out, Nat.le_refl _, fun _ _ _ => rfl, Rx.out, Kd.R_lower Ry.out (by omega), Kd.R_lower Rp.out (by omega), Kd.R_lower Rq.out (by omega)⟩⟩
 clear Rx Ry Rp Rq Z1 Z2 Z3 Z4 Z5 Z6 Z7 Z8 Z9 Z10 Z11 Z12 Z13 Z14 Z15 Z16 Z17 Z18 Z19 Z20 Z21 Z22
 go_wp2
 go_loopg [24] X.length (fun gg s24 wr => ∃ (k : Nat) (xs : List S43), k ≤ X.length ∧ X.length - k ≤ gg ∧ s24 = .int .i64 k ∧ xs.length = X.length ∧ Aside0 (Held4 w.heap.size w1.heap.size w2.heap.size w3.heap.size w4.heap.size w22.heap.size w w22 (.slice Ax X.length cx) (.slice Ay Y.length cy) (.slice Ap P.length cp) (.slice Aq Q.length cq) xs Y P Q wr))
 case atStart => exact ⟨0, _, by omega, by omega, by first | rfl | go_num, rfl, HH⟩
 case round =>
  clear HH
  obtain ⟨k, xs, hk, hg, rfl, hxl, HH⟩ := hrel
  by_cases hlt : k < X.length
  ·have hltz : (k : Int) < (X.length : Int) := by omega
   obtain ⟨g0, cap0, he, -⟩ := Kd.R_form HH.out.rx (by omega)
   have hA : Ax = some ⟨g0, 0, none⟩ := by injection he
   subst hA
   clear he
   obtain ⟨ad, cc, e1, hcl, -, hcc⟩ := Kd.C_get (Kd.R_reads' HH.out.rx).2.2 z43 (k : Int) (by omega) (by rw [hxl]; exact hltz)
   injection e1 with e1
   subst e1
   have HCC := Aside0.mk hcc
   have HCL := Aside0.mk hcl
   clear hcc hcl
   have hmx := MX.out
   go_wp2_with (first
    | ((with_reducible refine gate_store (t := 43) (p := 138) (v := .tmp 137) rfl ?_); refine Kd.R_store k43 (w0 := w) w.heap.size rfl rfl 43 (.tmp 138) (.tmp 137) rfl 43 (k : Int) 0 xs (⟨⟨#[37]⟩, ⟨#[]⟩, 0, 0⟩ : S43) _ [.string ⟨#[37]⟩, .string ⟨#[]⟩, .int .i64 0, .int .i64 0] cc (fun k => w.heap.size ≤ k ∧ k < w1.heap.size) (fun _ => False) rfl (by rw [Int.toNat_natCast]; rfl) rfl rfl (by kernel_rfl) (by simp [Value.oneCell']) HH.out.rx (by omega) hltz HCL.out (fun j u hu => by have := HCC.out j u hu; rwa [add_plain] at this) (Nat.le_refl 4) (by rw [List.take_zero, List.nil_append, List.drop_eq_nil_of_le (by rw [HCL.out]; exact Nat.le_refl 4), List.append_nil]; exact k43_mkM _ _ _ (⟨⟨#[37]⟩, ⟨#[]⟩, 0, 0⟩ : S43)) (fun _ h => h.elim) HH.out.bw ?_; intro w2_ ho hb hgr; have HH2 := Aside0.mk (HH.out.x_step rfl hgr ho); clear ho hb hgr)
    | fail)
   go_roundg (X.length - (k + 1))
   case measure => omega
   case rel => exact ⟨k + 1, _, by omega, by omega, by go_num, by rw [List.length_set]; exact hxl, HH2⟩
  have hltz : ¬ (k : Int) < (X.length : Int) := by omega
  have hkl : k = X.length := by omega
  subst hkl
  have Xx := Aside0.mk hxl
  clear hxl
  obtain ⟨xx, hxs⟩ : ∃ xx, xx = xs := ⟨_, rfl⟩
  rw [← hxs] at Xx HH
  clear hxs hlt hk hg hltz
  go_wp2
  go_loopg [25] Y.length (fun gg s25 wr => ∃ (k : Nat) (xs : List S43), k ≤ Y.length ∧ Y.length - k ≤ gg ∧ s25 = .int .i64 k ∧ xs.length = Y.length ∧ Aside0 (Held4 w.heap.size w1.heap.size w2.heap.size w3.heap.size w4.heap.size w22.heap.size w w22 (.slice Ax X.length cx) (.slice Ay Y.length cy) (.slice Ap P.length cp) (.slice Aq Q.length cq) xx xs P Q wr))
  case atStart => exact ⟨0, _, by omega, by omega, by first | rfl | go_num, rfl, HH⟩
  case round =>
   clear HH
   obtain ⟨k, xs, hk, hg, rfl, hxl, HH⟩ := hrel
   by_cases hlt : k < Y.length
   ·have hltz : (k : Int) < (Y.length : Int) := by omega
    obtain ⟨g0, cap0, he, -⟩ := Kd.R_form HH.out.ry (by omega)
    have hA : Ay = some ⟨g0, 0, none⟩ := by injection he
    subst hA
    clear he
    obtain ⟨ad, cc, e1, hcl, -, hcc⟩ := Kd.C_get (Kd.R_reads' HH.out.ry).2.2 z43 (k : Int) (by omega) (by rw [hxl]; exact hltz)
    injection e1 with e1
    subst e1
    have HCC := Aside0.mk hcc
    have HCL := Aside0.mk hcl
    clear hcc hcl
    have hmx := MY.out
    go_wp2_with (first
     | ((with_reducible refine gate_store (t := 43) (p := 148) (v := .tmp 147) rfl ?_); refine Kd.R_store k43 (w0 := w) w.heap.size rfl rfl 43 (.tmp 148) (.tmp 147) rfl 43 (k : Int) 0 xs (⟨⟨#[37]⟩, ⟨#[]⟩, 0, 0⟩ : S43) _ [.string ⟨#[37]⟩, .string ⟨#[]⟩, .int .i64 0, .int .i64 0] cc (fun k => w1.heap.size ≤ k ∧ k < w2.heap.size) (fun _ => False) rfl (by rw [Int.toNat_natCast]; rfl) rfl rfl (by kernel_rfl) (by simp [Value.oneCell']) HH.out.ry (by omega) hltz HCL.out (fun j u hu => by have := HCC.out j u hu; rwa [add_plain] at this) (Nat.le_refl 4) (by rw [List.take_zero, List.nil_append, List.drop_eq_nil_of_le (by rw [HCL.out]; exact Nat.le_refl 4), List.append_nil]; exact k43_mkM _ _ _ (⟨⟨#[37]⟩, ⟨#[]⟩, 0, 0⟩ : S43)) (fun _ h => h.elim) HH.out.bw ?_; intro w2_ ho hb hgr; have HH2 := Aside0.mk (HH.out.y_step rfl hgr ho); clear ho hb hgr)
     | fail)
    go_roundg (Y.length - (k + 1))
    case measure => omega
    case rel => exact ⟨k + 1, _, by omega, by omega, by go_num, by rw [List.length_set]; exact hxl, HH2⟩
   have hltz : ¬ (k : Int) < (Y.length : Int) := by omega
   have hkl : k = Y.length := by omega
   subst hkl
   have Xy := Aside0.mk hxl
   clear hxl
   obtain ⟨xy, hxs⟩ : ∃ xy, xy = xs := ⟨_, rfl⟩
   rw [← hxs] at Xy HH
   clear hxs hlt hk hg hltz
   go_wp2
   go_loopg [26] P.length (fun gg s26 wr => ∃ (k : Nat) (xs : List S45), k ≤ P.length ∧ P.length - k ≤ gg ∧ s26 = .int .i64 k ∧ xs.length = P.length ∧ Aside0 (Held4 w.heap.size w1.heap.size w2.heap.size w3.heap.size w4.heap.size w22.heap.size w w22 (.slice Ax X.length cx) (.slice Ay Y.length cy) (.slice Ap P.length cp) (.slice Aq Q.length cq) xx xy xs Q wr))
   case atStart => exact ⟨0, _, by omega, by omega, by first | rfl | go_num, rfl, HH⟩
   case round =>
    clear HH
    obtain ⟨k, xs, hk, hg, rfl, hxl, HH⟩ := hrel
    by_cases hlt : k < P.length
    ·have hltz : (k : Int) < (P.length : Int) := by omega
     obtain ⟨g0, cap0, he, -⟩ := Kd.R_form HH.out.rp (by omega)
     have hA : Ap = some ⟨g0, 0, none⟩ := by injection he
     subst hA
     clear he
     obtain ⟨ad, cc, e1, hcl, -, hcc⟩ := Kd.C_get (Kd.R_reads' HH.out.rp).2.2 z45 (k : Int) (by omega) (by rw [hxl]; exact hltz)
     injection e1 with e1
     subst e1
     have HCC := Aside0.mk hcc
     have HCL := Aside0.mk hcl
     clear hcc hcl
     have hmx := MP.out
     go_wp2_with (first
      | ((with_reducible refine gate_store (t := 45) (p := 158) (v := .tmp 157) rfl ?_); refine Kd.R_store k45 (w0 := w) w.heap.size rfl rfl 45 (.tmp 158) (.tmp 157) rfl 45 (k : Int) 0 xs (⟨⟨#[37]⟩, false, false, ⟨⟨#[]⟩, ⟨#[]⟩, 0, 0⟩, ⟨⟨#[]⟩, ⟨#[]⟩, 0, 0⟩⟩ : S45) _ [.string ⟨#[37]⟩, .bool false, .bool false, .string ⟨#[]⟩, .string ⟨#[]⟩, .int .i64 0, .int .i64 0, .string ⟨#[]⟩, .string ⟨#[]⟩, .int .i64 0, .int .i64 0] cc (fun k => w2.heap.size ≤ k ∧ k < w3.heap.size) (fun _ => False) rfl (by rw [Int.toNat_natCast]; rfl) rfl rfl (by kernel_rfl) (by simp [Value.oneCell']) HH.out.rp (by omega) hltz HCL.out (fun j u hu => by have := HCC.out j u hu; rwa [add_plain] at this) (Nat.le_refl 11) (by rw [List.take_zero, List.nil_append, List.drop_eq_nil_of_le (by rw [HCL.out]; exact Nat.le_refl 11), List.append_nil]; exact k45_mkM _ _ _ (⟨⟨#[37]⟩, false, false, ⟨⟨#[]⟩, ⟨#[]⟩, 0, 0⟩, ⟨⟨#[]⟩, ⟨#[]⟩, 0, 0⟩⟩ : S45)) (fun _ h => h.elim) HH.out.bw ?_; intro w2_ ho hb hgr; have HH2 := Aside0.mk (HH.out.p_step rfl hgr ho); clear ho hb hgr)
      | fail)
     go_roundg (P.length - (k + 1))
     case measure => omega
     case rel => exact ⟨k + 1, _, by omega, by omega, by go_num, by rw [List.length_set]; exact hxl, HH2⟩
    have hltz : ¬ (k : Int) < (P.length : Int) := by omega
    have hkl : k = P.length := by omega
    subst hkl
    have Xp := Aside0.mk hxl
    clear hxl
    obtain ⟨xp, hxs⟩ : ∃ xp, xp = xs := ⟨_, rfl⟩
    rw [← hxs] at Xp HH
    clear hxs hlt hk hg hltz
    go_wp2
    go_loopg [27] Q.length (fun gg s27 wr => ∃ (k : Nat) (xs : List S45), k ≤ Q.length ∧ Q.length - k ≤ gg ∧ s27 = .int .i64 k ∧ xs.length = Q.length ∧ Aside0 (Held4 w.heap.size w1.heap.size w2.heap.size w3.heap.size w4.heap.size w22.heap.size w w22 (.slice Ax X.length cx) (.slice Ay Y.length cy) (.slice Ap P.length cp) (.slice Aq Q.length cq) xx xy xp xs wr))
    case atStart => exact ⟨0, _, by omega, by omega, by first | rfl | go_num, rfl, HH⟩
    case round =>
     clear HH
     obtain ⟨k, xs, hk, hg, rfl, hxl, HH⟩ := hrel
     by_cases hlt : k < Q.length
     ·have hltz : (k : Int) < (Q.length : Int) := by omega
      obtain ⟨g0, cap0, he, -⟩ := Kd.R_form HH.out.rq (by omega)
      have hA : Aq = some ⟨g0, 0, none⟩ := by injection he
      subst hA
      clear he
      obtain ⟨ad, cc, e1, hcl, -, hcc⟩ := Kd.C_get (Kd.R_reads' HH.out.rq).2.2 z45 (k : Int) (by omega) (by rw [hxl]; exact hltz)
      injection e1 with e1
      subst e1
      have HCC := Aside0.mk hcc
      have HCL := Aside0.mk hcl
      clear hcc hcl
      have hmx := MQ.out
      go_wp2_with (first
       | ((with_reducible refine gate_store (t := 45) (p := 168) (v := .tmp 167) rfl ?_); refine Kd.R_store k45 (w0 := w) w.heap.size rfl rfl 45 (.tmp 168) (.tmp 167) rfl 45 (k : Int) 0 xs (⟨⟨#[37]⟩, false, false, ⟨⟨#[]⟩, ⟨#[]⟩, 0, 0⟩, ⟨⟨#[]⟩, ⟨#[]⟩, 0, 0⟩⟩ : S45) _ [.string ⟨#[37]⟩, .bool false, .bool false, .string ⟨#[]⟩, .string ⟨#[]⟩, .int .i64 0, .int .i64 0, .string ⟨#[]⟩, .string ⟨#[]⟩, .int .i64 0, .int .i64 0] cc (fun k => w3.heap.size ≤ k ∧ k < w4.heap.size) (fun _ => False) rfl (by rw [Int.toNat_natCast]; rfl) rfl rfl (by kernel_rfl) (by simp [Value.oneCell']) HH.out.rq (by omega) hltz HCL.out (fun j u hu => by have := HCC.out j u hu; rwa [add_plain] at this) (Nat.le_refl 11) (by rw [List.take_zero, List.nil_append, List.drop_eq_nil_of_le (by rw [HCL.out]; exact Nat.le_refl 11), List.append_nil]; exact k45_mkM _ _ _ (⟨⟨#[37]⟩, false, false, ⟨⟨#[]⟩, ⟨#[]⟩, 0, 0⟩, ⟨⟨#[]⟩, ⟨#[]⟩, 0, 0⟩⟩ : S45)) (fun _ h => h.elim) HH.out.bw ?_; intro w2_ ho hb hgr; have HH2 := Aside0.mk (HH.out.q_step rfl hgr ho); clear ho hb hgr)
       | fail)
      go_roundg (Q.length - (k + 1))
      case measure => omega
      case rel => exact ⟨k + 1, _, by omega, by omega, by go_num, by rw [List.length_set]; exact hxl, HH2⟩
     have hltz : ¬ (k : Int) < (Q.length : Int) := by omega
     have hkl : k = Q.length := by omega
     subst hkl
     have Xq := Aside0.mk hxl
     clear hxl
     obtain ⟨xq, hxs⟩ : ∃ xq, xq = xs := ⟨_, rfl⟩
     rw [← hxs] at Xq HH
     clear hxs hlt hk hg hltz
     have Ri := Aside0.mk (HH.out.kept Ri.out (by have := ZZ.out; omega) (by have := ZZ.out; have : w7.drew.heap.size = w7.heap.size := rfl; have : w8.drew.heap.size = w8.heap.size := rfl; have : w11.drew.heap.size = w11.heap.size := rfl; omega))
     have Rl := Aside0.mk (HH.out.kept Rl.out (by have := ZZ.out; omega) (by have := ZZ.out; have : w7.drew.heap.size = w7.heap.size := rfl; have : w8.drew.heap.size = w8.heap.size := rfl; have : w11.drew.heap.size = w11.heap.size := rfl; omega))
     have Rm := Aside0.mk (HH.out.kept Rm.out (by have := ZZ.out; omega) (by have := ZZ.out; have : w7.drew.heap.size = w7.heap.size := rfl; have : w8.drew.heap.size = w8.heap.size := rfl; have : w11.drew.heap.size = w11.heap.size := rfl; omega))
     have Rt := Aside0.mk (HH.out.kept Rt.out (by have := ZZ.out; omega) (by have := ZZ.out; have : w7.drew.heap.size = w7.heap.size := rfl; have : w8.drew.heap.size = w8.heap.size := rfl; have : w11.drew.heap.size = w11.heap.size := rfl; omega))
     have Rj := Aside0.mk (HH.out.kept Rj.out (by have := ZZ.out; omega) (by have := ZZ.out; have : w7.drew.heap.size = w7.heap.size := rfl; have : w8.drew.heap.size = w8.heap.size := rfl; have : w11.drew.heap.size = w11.heap.size := rfl; omega))
     have Rk := Aside0.mk (HH.out.kept Rk.out (by have := ZZ.out; omega) (by have := ZZ.out; have : w7.drew.heap.size = w7.heap.size := rfl; have : w8.drew.heap.size = w8.heap.size := rfl; have : w11.drew.heap.size = w11.heap.size := rfl; omega))
     have Rn := Aside0.mk (HH.out.kept Rn.out (by have := ZZ.out; omega) (by have := ZZ.out; have : w7.drew.heap.size = w7.heap.size := rfl; have : w8.drew.heap.size = w8.heap.size := rfl; have : w11.drew.heap.size = w11.heap.size := rfl; omega))
     have HRa := Aside0.mk (Kd.C_below H0a.out HH.out.bw)
     have HRb := Aside0.mk (Kd.C_below H0b.out HH.out.bw)
     have HRd := Aside0.mk (Kd.C_below H0d.out HH.out.bw)
     have HRe := Aside0.mk (Kd.C_below H0e.out HH.out.bw)
     have BW := Aside0.mk HH.out.bw
     clear HH ZZ
     obtain ⟨kD, hkD⟩ := Ev.rounds (changes06_same D (by have := nDD.out; omega))
     obtain ⟨kL, hkL⟩ := Ev.rounds (files06_same L (by have := nLL.out; omega))
     obtain ⟨kT, hkT⟩ := Ev.rounds (changes06_same TV (by have := nTT.out; omega))
     obtain ⟨kJ, hkJ⟩ := Ev.rounds (changes06_same J (by have := nJJ.out; omega))
     obtain ⟨kN, hkN⟩ := Ev.rounds (texts06_same NM (by have := nNN.out; omega))
     have KD := Aside0.mk hkD
     have KL := Aside0.mk hkL
     have KT := Aside0.mk hkT
     have KJ := Aside0.mk hkJ
     have KN := Aside0.mk hkN
     clear hkD hkL hkT hkJ hkN
     go_wp2_with fail
     refine (RD0.out _ HRa.out HCa.out HRb.out HCb.out la lb FA.out FB.out).mono ?_
     rintro e23 w23 ⟨vr, rfl, ho, hb⟩
     obtain ⟨Ar, cr, rfl, lx, -⟩ := Kd.R_reads ho
     have Lr := Aside0.mk lx
     clear lx
     have HRa := Aside0.mk (Kd.C_below HRa.out hb)
     have HRb := Aside0.mk (Kd.C_below HRb.out hb)
     have HRd := Aside0.mk (Kd.C_below HRd.out hb)
     have HRe := Aside0.mk (Kd.C_below HRe.out hb)
     have Ri := Aside0.mk (Kd.R_below Ri.out hb)
     have Rl := Aside0.mk (Kd.R_below Rl.out hb)
     have Rm := Aside0.mk (Kd.R_below Rm.out hb)
     have Rt := Aside0.mk (Kd.R_below Rt.out hb)
     have Rj := Aside0.mk (Kd.R_below Rj.out hb)
     have Rk := Aside0.mk (Kd.R_below Rk.out hb)
     have Rn := Aside0.mk (Kd.R_below Rn.out hb)
     have BW := Aside0.mk (below_then BW.out BW.out.size hb)
     have Rr := Aside0.mk (R_between ho)
     have Z23 : Aside0 (wr.heap.size ≤ w23.heap.size) := ⟨hb.size⟩
     clear ho hb
     go_wp2_with fail
     refine (copselaw06_changes.calls kD Ai ci D Ar cr D true _ (Kd.R_reads' Ri.out).2.2 Li.out (Kd.R_reads' Rr.out).2.2 Lr.out KD.out).mono ?_
     rintro e24 x24 ⟨rfl, ⟨⟨q24, rfl⟩⟩⟩
     have hb : Below w23.heap.size w23 (w23.drewN q24) := pw_below_drewN (Below.refl _ _) q24
     generalize w23.drewN q24 = w24 at hb ⊢
     have HRa := Aside0.mk (Kd.C_below HRa.out hb)
     have HRb := Aside0.mk (Kd.C_below HRb.out hb)
     have HRd := Aside0.mk (Kd.C_below HRd.out hb)
     have HRe := Aside0.mk (Kd.C_below HRe.out hb)
     have Ri := Aside0.mk (Kd.R_below Ri.out hb)
     have Rl := Aside0.mk (Kd.R_below Rl.out hb)
     have Rm := Aside0.mk (Kd.R_below Rm.out hb)
     have Rt := Aside0.mk (Kd.R_below Rt.out hb)
     have Rj := Aside0.mk (Kd.R_below Rj.out hb)
     have Rk := Aside0.mk (Kd.R_below Rk.out hb)
     have Rn := Aside0.mk (Kd.R_below Rn.out hb)
     have Rr := Aside0.mk (Kd.R_below Rr.out hb)
     have BW := Aside0.mk (below_then BW.out BW.out.size hb)
     have Z24 : Aside0 (w23.heap.size ≤ w24.heap.size) := ⟨hb.size⟩
     clear hb
     go_wp2_with fail
     refine (copselaw06_files.calls kL Al cl L Am cm L true _ (Kd.R_reads' Rl.out).2.2 Ll.out (Kd.R_reads' Rm.out).2.2 Lm.out KL.out).mono ?_
     rintro e25 x25 ⟨rfl, ⟨⟨q25, rfl⟩⟩⟩
     have hb : Below w24.heap.size w24 (w24.drewN q25) := pw_below_drewN (Below.refl _ _) q25
     generalize w24.drewN q25 = w25 at hb ⊢
     have HRa := Aside0.mk (Kd.C_below HRa.out hb)
     have HRb := Aside0.mk (Kd.C_below HRb.out hb)
     have HRd := Aside0.mk (Kd.C_below HRd.out hb)
     have HRe := Aside0.mk (Kd.C_below HRe.out hb)
     have Ri := Aside0.mk (Kd.R_below Ri.out hb)
     have Rl := Aside0.mk (Kd.R_below Rl.out hb)
     have Rm := Aside0.mk (Kd.R_below Rm.out hb)
     have Rt := Aside0.mk (Kd.R_below Rt.out hb)
     have Rj := Aside0.mk (Kd.R_below Rj.out hb)
     have Rk := Aside0.mk (Kd.R_below Rk.out hb)
     have Rn := Aside0.mk (Kd.R_below Rn.out hb)
     have Rr := Aside0.mk (Kd.R_below Rr.out hb)
     have BW := Aside0.mk (below_then BW.out BW.out.size hb)
     have Z25 : Aside0 (w24.heap.size ≤ w25.heap.size) := ⟨hb.size⟩
     clear hb
     go_wp2_with fail
     refine (copselaw06_num.calls er er _ rfl).mono ?_
     rintro e26 x26 ⟨rfl, ⟨⟨q26, rfl⟩⟩⟩
     have hb : Below w25.heap.size w25 (w25.drewN q26) := pw_below_drewN (Below.refl _ _) q26
     generalize w25.drewN q26 = w26 at hb ⊢
     have HRa := Aside0.mk (Kd.C_below HRa.out hb)
     have HRb := Aside0.mk (Kd.C_below HRb.out hb)
     have HRd := Aside0.mk (Kd.C_below HRd.out hb)
     have HRe := Aside0.mk (Kd.C_below HRe.out hb)
     have Ri := Aside0.mk (Kd.R_below Ri.out hb)
     have Rl := Aside0.mk (Kd.R_below Rl.out hb)
     have Rm := Aside0.mk (Kd.R_below Rm.out hb)
     have Rt := Aside0.mk (Kd.R_below Rt.out hb)
     have Rj := Aside0.mk (Kd.R_below Rj.out hb)
     have Rk := Aside0.mk (Kd.R_below Rk.out hb)
     have Rn := Aside0.mk (Kd.R_below Rn.out hb)
     have Rr := Aside0.mk (Kd.R_below Rr.out hb)
     have BW := Aside0.mk (below_then BW.out BW.out.size hb)
     have Z26 : Aside0 (w25.heap.size ≤ w26.heap.size) := ⟨hb.size⟩
     clear hb
     go_wp2_with fail
     refine (RI0.out _ HRd.out (by omega)).mono ?_
     rintro e27 w27 ⟨vs, rfl, ho, hb⟩
     obtain ⟨As, cs, rfl, lx, -⟩ := Kd.R_reads ho
     have Ls := Aside0.mk lx
     clear lx
     have HRa := Aside0.mk (Kd.C_below HRa.out hb)
     have HRb := Aside0.mk (Kd.C_below HRb.out hb)
     have HRd := Aside0.mk (Kd.C_below HRd.out hb)
     have HRe := Aside0.mk (Kd.C_below HRe.out hb)
     have Ri := Aside0.mk (Kd.R_below Ri.out hb)
     have Rl := Aside0.mk (Kd.R_below Rl.out hb)
     have Rm := Aside0.mk (Kd.R_below Rm.out hb)
     have Rt := Aside0.mk (Kd.R_below Rt.out hb)
     have Rj := Aside0.mk (Kd.R_below Rj.out hb)
     have Rk := Aside0.mk (Kd.R_below Rk.out hb)
     have Rn := Aside0.mk (Kd.R_below Rn.out hb)
     have Rr := Aside0.mk (Kd.R_below Rr.out hb)
     have BW := Aside0.mk (below_then BW.out BW.out.size hb)
     have Rs := Aside0.mk (R_between ho)
     have Z27 : Aside0 (w26.heap.size ≤ w27.heap.size) := ⟨hb.size⟩
     clear ho hb
     go_wp2_with fail
     refine (copselaw06_changes.calls kT At ct TV As cs TV true _ (Kd.R_reads' Rt.out).2.2 Lt.out (Kd.R_reads' Rs.out).2.2 Ls.out KT.out).mono ?_
     rintro e28 x28 ⟨rfl, ⟨⟨q28, rfl⟩⟩⟩
     have hb : Below w27.heap.size w27 (w27.drewN q28) := pw_below_drewN (Below.refl _ _) q28
     generalize w27.drewN q28 = w28 at hb ⊢
     have HRa := Aside0.mk (Kd.C_below HRa.out hb)
     have HRb := Aside0.mk (Kd.C_below HRb.out hb)
     have HRd := Aside0.mk (Kd.C_below HRd.out hb)
     have HRe := Aside0.mk (Kd.C_below HRe.out hb)
     have Ri := Aside0.mk (Kd.R_below Ri.out hb)
     have Rl := Aside0.mk (Kd.R_below Rl.out hb)
     have Rm := Aside0.mk (Kd.R_below Rm.out hb)
     have Rt := Aside0.mk (Kd.R_below Rt.out hb)
     have Rj := Aside0.mk (Kd.R_below Rj.out hb)
     have Rk := Aside0.mk (Kd.R_below Rk.out hb)
     have Rn := Aside0.mk (Kd.R_below Rn.out hb)
     have Rr := Aside0.mk (Kd.R_below Rr.out hb)
     have Rs := Aside0.mk (Kd.R_below Rs.out hb)
     have BW := Aside0.mk (below_then BW.out BW.out.size hb)
     have Z28 : Aside0 (w27.heap.size ≤ w28.heap.size) := ⟨hb.size⟩
     clear hb
     go_wp2_with fail
     refine (copselaw06_changes.calls kJ Aj cj J Ak ck J true _ (Kd.R_reads' Rj.out).2.2 Lj.out (Kd.R_reads' Rk.out).2.2 Lk.out KJ.out).mono ?_
     rintro e29 x29 ⟨rfl, ⟨⟨q29, rfl⟩⟩⟩
     have hb : Below w28.heap.size w28 (w28.drewN q29) := pw_below_drewN (Below.refl _ _) q29
     generalize w28.drewN q29 = w29 at hb ⊢
     have HRa := Aside0.mk (Kd.C_below HRa.out hb)
     have HRb := Aside0.mk (Kd.C_below HRb.out hb)
     have HRd := Aside0.mk (Kd.C_below HRd.out hb)
     have HRe := Aside0.mk (Kd.C_below HRe.out hb)
     have Ri := Aside0.mk (Kd.R_below Ri.out hb)
     have Rl := Aside0.mk (Kd.R_below Rl.out hb)
     have Rm := Aside0.mk (Kd.R_below Rm.out hb)
     have Rt := Aside0.mk (Kd.R_below Rt.out hb)
     have Rj := Aside0.mk (Kd.R_below Rj.out hb)
     have Rk := Aside0.mk (Kd.R_below Rk.out hb)
     have Rn := Aside0.mk (Kd.R_below Rn.out hb)
     have Rr := Aside0.mk (Kd.R_below Rr.out hb)
     have Rs := Aside0.mk (Kd.R_below Rs.out hb)
     have BW := Aside0.mk (below_then BW.out BW.out.size hb)
     have Z29 : Aside0 (w28.heap.size ≤ w29.heap.size) := ⟨hb.size⟩
     clear hb
     go_wp2_with fail
     refine (copselaw06_num.calls ej ej _ rfl).mono ?_
     rintro e30 x30 ⟨rfl, ⟨⟨q30, rfl⟩⟩⟩
     have hb : Below w29.heap.size w29 (w29.drewN q30) := pw_below_drewN (Below.refl _ _) q30
     generalize w29.drewN q30 = w30 at hb ⊢
     have HRa := Aside0.mk (Kd.C_below HRa.out hb)
     have HRb := Aside0.mk (Kd.C_below HRb.out hb)
     have HRd := Aside0.mk (Kd.C_below HRd.out hb)
     have HRe := Aside0.mk (Kd.C_below HRe.out hb)
     have Ri := Aside0.mk (Kd.R_below Ri.out hb)
     have Rl := Aside0.mk (Kd.R_below Rl.out hb)
     have Rm := Aside0.mk (Kd.R_below Rm.out hb)
     have Rt := Aside0.mk (Kd.R_below Rt.out hb)
     have Rj := Aside0.mk (Kd.R_below Rj.out hb)
     have Rk := Aside0.mk (Kd.R_below Rk.out hb)
     have Rn := Aside0.mk (Kd.R_below Rn.out hb)
     have Rr := Aside0.mk (Kd.R_below Rr.out hb)
     have Rs := Aside0.mk (Kd.R_below Rs.out hb)
     have BW := Aside0.mk (below_then BW.out BW.out.size hb)
     have Z30 : Aside0 (w29.heap.size ≤ w30.heap.size) := ⟨hb.size⟩
     clear hb
     go_wp2_with fail
     refine (copseref06_Paths.calls kr Ad cd d NM _ HRd.out HCd.out HPR.out).mono ?_
     rintro e31 w31 ⟨vu, rfl, ho, hb⟩
     obtain ⟨Au, cu, rfl, lx, -⟩ := Kd.R_reads ho
     have Lu := Aside0.mk lx
     clear lx
     have HRa := Aside0.mk (Kd.C_below HRa.out hb)
     have HRb := Aside0.mk (Kd.C_below HRb.out hb)
     have HRd := Aside0.mk (Kd.C_below HRd.out hb)
     have HRe := Aside0.mk (Kd.C_below HRe.out hb)
     have Ri := Aside0.mk (Kd.R_below Ri.out hb)
     have Rl := Aside0.mk (Kd.R_below Rl.out hb)
     have Rm := Aside0.mk (Kd.R_below Rm.out hb)
     have Rt := Aside0.mk (Kd.R_below Rt.out hb)
     have Rj := Aside0.mk (Kd.R_below Rj.out hb)
     have Rk := Aside0.mk (Kd.R_below Rk.out hb)
     have Rn := Aside0.mk (Kd.R_below Rn.out hb)
     have Rr := Aside0.mk (Kd.R_below Rr.out hb)
     have Rs := Aside0.mk (Kd.R_below Rs.out hb)
     have BW := Aside0.mk (below_then BW.out BW.out.size hb)
     have Ru := Aside0.mk (R_between ho)
     have Z31 : Aside0 (w30.heap.size ≤ w31.heap.size) := ⟨hb.size⟩
     clear ho hb
     go_wp2_with fail
     refine (copselaw06_texts.calls kN An cn NM Au cu NM true _ (Kd.R_reads' Rn.out).2.2 Ln.out (Kd.R_reads' Ru.out).2.2 Lu.out KN.out).mono ?_
     rintro e32 x32 ⟨rfl, ⟨⟨q32, rfl⟩⟩⟩
     have hb : Below w31.heap.size w31 (w31.drewN q32) := pw_below_drewN (Below.refl _ _) q32
     generalize w31.drewN q32 = w32 at hb ⊢
     have HRa := Aside0.mk (Kd.C_below HRa.out hb)
     have HRb := Aside0.mk (Kd.C_below HRb.out hb)
     have HRd := Aside0.mk (Kd.C_below HRd.out hb)
     have HRe := Aside0.mk (Kd.C_below HRe.out hb)
     have Ri := Aside0.mk (Kd.R_below Ri.out hb)
     have Rl := Aside0.mk (Kd.R_below Rl.out hb)
     have Rm := Aside0.mk (Kd.R_below Rm.out hb)
     have Rt := Aside0.mk (Kd.R_below Rt.out hb)
     have Rj := Aside0.mk (Kd.R_below Rj.out hb)
     have Rk := Aside0.mk (Kd.R_below Rk.out hb)
     have Rn := Aside0.mk (Kd.R_below Rn.out hb)
     have Rr := Aside0.mk (Kd.R_below Rr.out hb)
     have Rs := Aside0.mk (Kd.R_below Rs.out hb)
     have Ru := Aside0.mk (Kd.R_below Ru.out hb)
     have BW := Aside0.mk (below_then BW.out BW.out.size hb)
     have Z32 : Aside0 (w31.heap.size ≤ w32.heap.size) := ⟨hb.size⟩
     clear hb
     go_wp2
     go_ret
     exact ⟨rfl, BW.out⟩
end Go.Proofs.YtehfogjibhnabaaGreatDoor.PAll
