/- What the claim leans on. -/
import Derived.BigQuiet
import Derived.Deep.RegionLawGrows
import Derived.Outline
import Derived.WalkKit
import Derived.Test.YtdfkaclflmgkeaaBPAllx0
import Derived.ChangeSame
import Derived.Deep.Fields
import Derived.Deep.Slices
import Derived.Test.YtdfkaclflmgkeaaBRowKitO
namespace Go.Proofs.Ytdfkaclflmgkeaa.PAll
open Go.RowKit Go.Proofs.YtdfkaclflmgkeaaW.PrintWords Go.Proofs.YtdfkaclflmgkeaaW.PrintLast Go.Proofs.YtdfkaclflmgkeaaW.PrintMore
set_option linter.unusedSimpArgs false
def encX (x : S54) : List Int := encI x.f0 x.f1 x.f2
def encAll (l : List S54) : List Int := (l.map encX).flatten
theorem encAll_succ (l : List S54) (i : Nat) (h : i < l.length) : encAll (l.take (i + 1)) = encAll (l.take i) ++ encX l[i] := by
 unfold encAll
 rw [List.take_succ_eq_append_getElem h, List.map_append, List.flatten_append]; simp
theorem encAll_le (l : List S54) (i : Nat) : (encAll (l.take i)).length ≤ (encAll l).length := by
 have : encAll l = encAll (l.take i) ++ encAll (l.drop i) := by unfold encAll; rw [← List.flatten_append, ← List.map_append, List.take_append_drop]
 rw [this, List.length_append]; omega
theorem info54 : (Try.prog.info? 54).map (fun i => (i.zero, i.size, i.bytes)) = some (some (.agg #[.int .i64 0, .int .u64 0, .string ⟨#[]⟩]), 3, 32) := by kernel_rfl
theorem R_lit0 (w : World) : Kd.R k54 54 (w.alloc (.cells #[] 54)) w.heap.size (fun _ => True) (.slice (some ⟨w.heap.size, 0, none⟩) 0 0) [] :=
 ⟨fun _ _ => trivial, [], by have := World.ownsRow_lit (base := w.heap.size) (e := 54) (size := 3) w #[] 0 (Nat.le_refl _) (by decide) (by simp); exact this, Reps.none _ _⟩
def endI : S54 := ⟨5, 0, ⟨#[101, 110, 100]⟩⟩
theorem encAll_end0 (l : List S54) : encAll (l ++ [endI]) = encAll l ++ [3, 0, 0, 0, 101, 110, 100] := by
 have enc_end : encX endI = [3, 0, 0, 0, 101, 110, 100] := by decide
 unfold encAll
 rw [List.map_append, List.flatten_append]
 show _ ++ (encX endI ++ []) = _
 rw [List.append_nil, enc_end]
theorem end_none (p : Nat) (w : World) (h : RS 62 w p []) :
  Calls Try.prog 23 #[.pointer (some ⟨p, 0, none⟩)] w fun e w' => e = .returned (.int .i64 0) ∧ w' = w := end_calls p [] w h
theorem end_more (p : Nat) (w : World) (h : RS 62 w p [7]) :
  Calls Try.prog 23 #[.pointer (some ⟨p, 0, none⟩)] w fun e w' => e = .returned (.int .i64 12) ∧ w' = w := end_calls p [7] w h
theorem RS.lt {t : TypeId} {w : World} {p : Nat} {bs : List Int} (h : RS t w p bs) : p < w.heap.size := by
 obtain ⟨A, c, hp, _⟩ := h
 exact (Array.getElem?_eq_some_iff.1 hp).1
def Ap9 (wd w' : World) (p1 p2 : Nat) (y z : List Int) (v : Value) : Prop :=
 ∃ W : World, RS 62 W p1 y ∧ RS 62 W p2 z ∧ p1 < p2 ∧ wd.heap.size ≤ p1 ∧ Below wd.heap.size wd W ∧ Below W.heap.size W w' ∧ w'.ownsRow W.heap.size 5 1 v y.length (nums .u8 y)
theorem Ap9.mk9 {wd W w' : World} {p1 p2 : Nat} {y z : List Int} {v : Value} (hB : Below wd.heap.size wd W) (h1 : RS 62 W p1 y) (h2 : RS 62 W p2 z) (h3 : wd.heap.size ≤ p1) (h4 : p1 < p2) (hb : Below W.heap.size W w') (ho : w'.ownsRow W.heap.size 5 1 v (0 + y.length) ([] ++ nums .u8 y)) : Ap9 wd w' p1 p2 y z v :=
 ⟨W, h1, h2, h4, h3, hB, hb, by rw [Nat.zero_add, List.nil_append] at ho; exact ho⟩
theorem Ap9.below {wd w w' : World} {p1 p2 : Nat} {y z : List Int} {v : Value} (h : Ap9 wd w p1 p2 y z v) (hb : Below w.heap.size w w') : Ap9 wd w' p1 p2 y z v := by
 obtain ⟨W, h1, h2, h3, h4, h5, h6, h7⟩ := h
 exact ⟨W, h1, h2, h3, h4, h5, below_then h6 h6.size hb, own_move h7 fun k hk => hb.block k (own_lt h7 k hk)⟩
theorem Ap9.new {wd w : World} {p1 p2 : Nat} {y z : List Int} {v : Value} (h : Ap9 wd w p1 p2 y z v) : v.ownBlock ≠ some w.heap.size := fun e => by
 obtain ⟨W, h1, h2, h3, h4, h5, h6, h7⟩ := h
 exact Nat.lt_irrefl _ (own_lt h7 _ e)
theorem Ap9.old {W w' : World} {g n : Nat} {x : Int} {v : Value} {xs : List Value} (h : CB W (some ⟨g, 0, none⟩) [x]) (ho : w'.ownsRow W.heap.size 5 1 v n xs) : v.ownBlock ≠ some g := fun e => by
 have h1 := own_base ho g e
 obtain ⟨ad, ea, hc⟩ := h.2.2 (by simp)
 injection ea with ea
 subst ea
 obtain ⟨c, _, h2, h3⟩ := hc 0 x rfl
 have h2' : c = [.int .u8 x] := h2
 subst h2'
 have := World.block_lt_of_cell? W _ (h3 0 _ rfl)
 have h4 : ((⟨g, 0, none⟩ : Addr).add (0 * (Kd.int .u8).sz + 0)).block = g := by unfold Addr.add; split <;> rfl
 rw [h4] at this
 omega
theorem CB.cells {w : World} {ad : Addr} {xs : List Int} (h : CB w (some ad) xs) : ∀ (j : Nat) (u : Value), (nums .u8 xs)[j]? = some u → w.cell? (ad.add j) = some u := by
 intro j u hj
 have hl : j < xs.length := by
  have := (List.getElem?_eq_some_iff.1 hj).1
  simpa [nums] using this
 obtain ⟨ad', e, hc⟩ := h.2.2 (by omega)
 injection e with e
 subst e
 obtain ⟨c, _, h2, h3⟩ := hc j _ (List.getElem?_eq_getElem hl)
 have h2' : c = [.int .u8 xs[j]] := h2
 subst h2'
 have h4 := h3 0 _ rfl
 rw [show j * (Kd.int .u8).sz + 0 = j from by show j * 1 + 0 = j; omega] at h4
 rw [h4]
 simp [nums, List.getElem?_eq_getElem hl] at hj
 rw [← hj]
theorem nums_one (k : IntKind) (xs : List Int) : ∀ u ∈ nums k xs, u.oneCell' = true := by
 intro u hu
 obtain ⟨x, _, rfl⟩ := List.mem_map.1 hu
 rfl
theorem enc_end : encX endI = [3, 0, 0, 0, 101, 110, 100] := by decide
theorem encAll_end (l : List S54) : encAll (l ++ [endI]) = encAll l ++ [3, 0, 0, 0, 101, 110, 100] := by
 unfold encAll
 rw [List.map_append, List.flatten_append]
 show _ ++ (encX endI ++ []) = _
 rw [List.append_nil, enc_end]
theorem encAll_cut (l : List S54) : (encAll (l ++ [endI])).take ((encAll (l ++ [endI])).length - 1) = encAll l ++ [3, 0, 0, 0, 101, 110] := by
 rw [encAll_end, show encAll l ++ [3, 0, 0, 0, 101, 110, 100] = (encAll l ++ [3, 0, 0, 0, 101, 110]) ++ [100] by simp]
 apply List.take_left'
 simp
theorem encAll_bytes (l : List S54) : Bytes (encAll l) := by
 intro x hx
 obtain ⟨r, hr, hx⟩ := List.mem_flatten.1 hx
 obtain ⟨i, _, rfl⟩ := List.mem_map.1 hr
 exact encI_bytes _ _ _ x hx
theorem encAll_cons (x : S54) (l : List S54) : encAll (x :: l) = encX x ++ encAll l := by unfold encAll; rfl
theorem encAll_drop (l : List S54) (i : Nat) (h : i < l.length) : encAll (l.drop i) = encX l[i] ++ encAll (l.drop (i + 1)) := by
 rw [List.drop_eq_getElem_cons h, encAll_cons]
theorem short_end : rdText [3, 0, 0, 0, 101, 110] 3 = (ByteArray.empty, 11, [3, 0, 0, 0, 101, 110]) := by decide
def OctBackW.T9 : Bool × List (List Nat × List Nat) := (true, [([], []), ([0], [0]), ([], []), ([], []), ([3], [3]), ([4], [4]), ([5], [5]), ([2, 6], [2, 6]), ([7, 1], [7]), ([], []), ([], []), ([9, 10, 8], [9, 10]), ([], []), ([11, 12, 11], [11, 12]), ([13, 13], [13]), ([1, 14, 0, 1], [1]), ([8, 15, 0, 1, 2, 3, 4, 5, 6, 7, 8, 15], [8]), ([14, 16, 0, 1, 2, 3, 4, 5, 6, 7, 8, 9, 10, 11, 12, 13, 14, 15, 16], [14])])
def OctBackW.B9 : List Nat := [0, 1, 0, 0, 8, 24, 56, 124, 255, 0, 0, 2047, 0, 8191, 16383, 32767, 65535, 131071]
theorem OctBackW.tab9 : rtab .any (opsOf Try.f6 9) = OctBackW.T9 := by kernel_rfl
theorem OctBackW.bits9 : waitsOk OctBackW.T9.2 OctBackW.B9 = true := by kernel_rfl
set_option maxRecDepth 100000 in
set_option maxHeartbeats 8000000 in
theorem octback_calls (A0 : Option Addr) (c0 : Nat) (l : List S54) (w : World) (hr0 : Kd.C k54 w A0 l.length l) (hc0 : l.length ≤ c0) (hl : l.length ≤ 2097152) (hE : (encAll (l ++ [endI])).length ≤ 536870912) (hI : ∀ x ∈ l, 0 ≤ x.f1 ∧ x.f1 ≤ 18446744073709551615 ∧ x.f2.size ≤ 2097152) :
  Calls Try.prog 6 #[.slice A0 l.length c0] w fun e w' => e = .returned (.bool true) ∧ Below w.heap.size w w' := by
 have hu54 := Try.underlying54
 have HR0 := Aside0.mk hr0
 have HC0 := Aside0.mk hc0
 clear hr0 hc0
 go_enter Try.func6, Try.ntmps6
 go_wp2_with fail
 refine (head_calls _).mono ?_
 rintro e w1 ⟨rfl, hb1⟩
 have B1 := Aside0.mk hb1
 clear hb1
 go_wp2_with (first | ((with_reducible refine gate_builtin (b := .append) (xs := #[.tmp 15, .tmp 16]) rfl ?_); at_builtin; refine Kd.R_append_rows k54 (w0 := w1) w1.heap.size rfl (.tmp 15) (.tmp 16) 52 54 (.agg #[.int .i64 0, .int .u64 0, .string ⟨#[]⟩]) 32 rfl Try.underlying52 info54 rfl (by decide) (by omega) _ ([] : List S54) l _ _ _ (fun _ => True) (fun _ => False) rfl rfl ?aO ?aR (fun _ _ h => h) (fun _ h => h.elim) ?aF ?aB ?aS ?aL ?_; (case aR => exact Kd.C_alloc (Kd.C_below HR0.out B1.out) _); (case aB => exact below_alloc (Below.refl _ _) _); (case aF => exact (fun _ _ => trivial)); (case aO => exact R_lit0 w1); (case aS => simp); (case aL => simp; omega); intro v2 w2 ho hb hg hat; rw [List.nil_append] at ho; have O2 := Aside0.mk ho; have B2 := Aside0.mk hb; clear ho hb hg hat) | ((with_reducible refine gate_builtin (b := .append) (xs := #[.tmp 17, .tmp 19]) rfl ?_); at_builtin; refine Kd.R_append k54 (w0 := w1) w1.heap.size rfl (.tmp 17) (.tmp 19) 52 54 (.agg #[.int .i64 0, .int .u64 0, .string ⟨#[]⟩]) 32 rfl Try.underlying52 info54 rfl (by decide) (by decide) v2 l endI [.int .i64 5, .int .u64 0, .string ⟨#[101, 110, 100]⟩] (fun _ => True) (fun _ => False) rfl rfl ?aP (fun _ h => h.elim) (fun _ _ => trivial) ?aO ?aB ?aS ?aL ?_; (case aP => exact k54_mkM _ _ _ endI); (case aO => exact O2.out); (case aB => exact B2.out); (case aS => exact B2.out.size); (case aL => omega); intro v3 w3 ho hb hg hat; obtain ⟨m, hm⟩ : ∃ m, m = l ++ [endI] := ⟨_, rfl⟩; rw [← hm] at ho; have HM := Aside0.mk hm; clear hm; obtain ⟨A3, c3, rfl, hc, hr⟩ := Kd.R_reads ho; have R3 := Aside0.mk hr; have C3 := Aside0.mk hc; have B3 := Aside0.mk (below_then B1.out B1.out.size hb); clear ho hb hg hat hc hr O2 B2))
 have HI : Aside0 (∀ x ∈ m, 0 ≤ x.f1 ∧ x.f1 ≤ 18446744073709551615 ∧ x.f2.size ≤ 2097152) := ⟨by
  rw [HM.out]; intro x hx
  rcases List.mem_append.1 hx with h | h
  ·exact hI x h
  ·obtain rfl := List.mem_singleton.1 h
   exact ⟨by decide, by decide, by decide⟩⟩
 have hml : m.length ≤ 2097153 := by rw [HM.out, List.length_append]; simp; omega
 have HEm : Aside0 ((encAll m).length ≤ 536870912) := ⟨by rw [HM.out]; exact hE⟩
 clear hI hE
 go_loopg [3, 4] m.length (fun gg s3 s4 wr => ∃ i : Nat, i ≤ m.length ∧ m.length - i ≤ gg ∧ s4 = .int .i64 i ∧ Aside0 (OB wr s3 (encAll (m.take i))) ∧ Aside0 (Below w3.heap.size w3 wr))
 case atStart => exact ⟨0, by omega, by omega, rfl, ⟨World.ownsRow_nil _ _ _ _⟩, ⟨Below.refl _ _⟩⟩
 case round =>
  obtain ⟨i, hi, hg, rfl, OX, BX⟩ := hrel
  obtain ⟨y, hy⟩ : ∃ y, y = encAll (m.take i) := ⟨_, rfl⟩
  have hyl : y.length ≤ 536870912 := by rw [hy]; exact Nat.le_trans (encAll_le m i) HEm.out
  rw [← hy] at OX
  have HY := Aside0.mk hy
  clear hy
  obtain ⟨A4, c4, rfl, hc4, hr4⟩ := OB.reads OX.out
  by_cases hlt : i < m.length
  ·have hltz : (i : Int) < m.length := by omega
   obtain ⟨ad, rfl, hq0, hq1, hq2⟩ := at_T54 (Kd.C_below R3.out BX.out) (i : Int) (by omega) hltz
   have hrd : rd_T54 m (i : Int) = m[i] := by unfold rd_T54; rw [Int.toNat_natCast]; simp [List.getD_eq_getElem?_getD, List.getElem?_eq_getElem hlt]
   obtain ⟨x, hx⟩ : ∃ x, x = m[i] := ⟨_, rfl⟩
   rw [hrd, ← hx, Int.toNat_natCast] at hq0 hq1 hq2
   have HX := Aside0.mk hx
   obtain ⟨i1, i2, i3⟩ := HI.out x (by rw [hx]; exact List.getElem_mem hlt)
   clear hrd hx
   go_wp2_with fail
   refine (lay_calls A4 c4 y x.f0 x.f1 x.f2 wr hr4 hc4 (by omega) i1 i2 (by omega)).mono ?_
   rintro e w5 ⟨r, rfl, hn⟩
   have HN := Aside0.mk hn
   clear hn hr4 hc4 hq0 hq1 hq2
   go_wp2
   go_roundg (m.length - (i + 1))
   case measure => omega
   case rel => exact ⟨i + 1, by omega, by omega, by go_num, ⟨by rw [encAll_succ m i hlt, ← HY.out, ← HX.out]; exact HN.out.1⟩, ⟨below_then BX.out BX.out.size HN.out.2.2⟩⟩
  ·obtain rfl : i = m.length := by omega
   have hy7 : 7 ≤ y.length := by rw [HY.out, List.take_length, HM.out, encAll_end0, List.length_append]; simp
   have hwy : wrap64 ((y.length : Int) - 1) = (y.length : Int) - 1 := by unfold wrap64; omega
   have hgy : (1 : Int) < (y.length : Int) := by omega
   obtain ⟨ad4, rfl⟩ : ∃ ad, A4 = some ad := by
    obtain ⟨ad, e, _⟩ := hr4.2.2 (by omega)
    exact ⟨ad, e⟩
   obtain ⟨i8, hi8, hi8z, hi8s, hi8b⟩ := info_parts info8
   have HYr : Aside0 (CB wr.drew (some ad4) y) := ⟨hr4⟩
   have BXr : Aside0 (Below w3.heap.size w3 wr.drew) := ⟨below_drew BX.out⟩
   obtain ⟨A5, hcut, hr5, hc5⟩ : ∃ z : List Int, Aside0 (z = y.take (y.length - 1)) ∧ (∀ W : World, (Instr.slice 22 (.slice (some ad4) y.length c4) none (some (.int .i64 ((y.length : Int) - 1))) none).run Try.prog W = .ok (.slice (some ad4) z.length c4) W) ∧ CB wr (some ad4) z := by
    obtain ⟨hd, E, h1, h2, _, _⟩ := cut_head' hr4 hc4 (y.length - 1) ((y.length : Int) - 1) (by omega) (by omega)
    exact ⟨hd, E, h1, h2⟩
   have HZr : Aside0 (CB wr.drew (some ad4) A5) := ⟨hc5⟩
   obtain ⟨hz4, hz5⟩ : A5.length ≤ c4 ∧ A5.length ≤ 4294967296 := by rw [hcut.out, List.length_take]; omega
   clear OX BX
   go_wp2_with fail
   refine start_ (n := 18) (S := fun _ => True) (ds := []) (lb 18 0) (by kernel_rfl) rfl rfl trivial (fun hHeld => ?_); refine with_tabW OctBackW.tab9 OctBackW.bits9 (fun HT_ HW_ => ?_)
   generalize wr.drew = wd at HYr HZr BXr hHeld ⊢
   refine pure_ (i := 0) (N := some 33) (v := ?_) (a' := ?_) (lb 18 1) rfl rfl (any_of HT_.out (by kernel_rfl)) (fun _ _ _ h => h) (Or.inl ⟨by rfl, ?_⟩) ?_ ?_
   rotate_left
   ·intro w'
    go_simp
    with_reducible rfl
   rotate_left
   ·simp only [Act.put, List.setIfInBounds_toArray, List.set_cons_zero, List.set_cons_succ, i64_w, i32_w]
    rfl
   refine pure_ (i := 2) (N := some 35) (v := ?_) (a' := ?_) (lb 18 5) rfl rfl (any_of HT_.out (by kernel_rfl)) (fun _ _ _ h => h) (Or.inl ⟨by rfl, ?_⟩) ?_ ?_
   rotate_left
   ·intro w'
    go_simp
    with_reducible rfl
   rotate_left
   ·simp only [Act.put, List.setIfInBounds_toArray, List.set_cons_zero, List.set_cons_succ, i64_w, i32_w]
    rfl
   refine pure_ (i := 3) (N := some 36) (v := ?_) (a' := ?_) (lb 18 13) rfl rfl (any_of HT_.out (by kernel_rfl)) (fun _ _ _ h => h) (Or.inl ⟨by rfl, ?_⟩) ?_ ?_
   rotate_left
   ·intro w'
    go_simp
    with_reducible rfl
   rotate_left
   ·simp only [Act.put, List.setIfInBounds_toArray, List.set_cons_zero, List.set_cons_succ, i64_w, i32_w]
    rfl
   refine pure_ (i := 4) (N := some 37) (v := ?_) (a' := ?_) (lb 18 29) rfl rfl (any_of HT_.out (by kernel_rfl)) (fun _ _ _ h => h) (Or.inl ⟨by rfl, ?_⟩) ?_ ?_
   rotate_left
   ·intro w'
    go_simp
    with_reducible rfl
   rotate_left
   ·simp only [Act.put, List.setIfInBounds_toArray, List.set_cons_zero, List.set_cons_succ, i64_w, i32_w]
    rfl
   refine pure_ (i := 5) (N := some 38) (v := ?_) (a' := ?_) (lb 18 61) rfl rfl (any_of HT_.out (by kernel_rfl)) (fun _ _ _ h => h) (Or.inl ⟨by rfl, ?_⟩) ?_ ?_
   rotate_left
   ·intro w'
    go_simp
    with_reducible rfl
   rotate_left
   ·simp only [Act.put, List.setIfInBounds_toArray, List.set_cons_zero, List.set_cons_succ, i64_w, i32_w]
    rfl
   refine pure_ (i := 6) (N := some 39) (v := ?_) (a' := ?_) (lb 18 125) rfl rfl (any_of HT_.out (by kernel_rfl)) (fun _ _ _ h => h) (Or.inl ⟨by rfl, ?_⟩) ?_ ?_
   rotate_left
   ·intro w'
    go_simp
    with_reducible rfl
   rotate_left
   ·simp only [Act.put, List.setIfInBounds_toArray, List.set_cons_zero, List.set_cons_succ, i64_w, i32_w]
    rfl
   refine pure_ (i := 7) (N := some 40) (v := ?_) (a' := ?_) (lb 18 253) rfl rfl (any_of HT_.out (by kernel_rfl)) (fun _ _ _ h => h) (Or.inl ⟨by rfl, ?_⟩) ?_ ?_
   rotate_left
   ·intro w'
    go_simp
    with_reducible rfl
   rotate_left
   ·simp only [Act.put, List.setIfInBounds_toArray, List.set_cons_zero, List.set_cons_succ, i64_w, i32_w]
    rfl
   refine pure_ (i := 10) (N := some 43) (v := ?_) (a' := ?_) (lb 18 1277) rfl rfl (any_of HT_.out (by kernel_rfl)) (fun _ _ _ h => h) (Or.inl ⟨by rfl, ?_⟩) ?_ ?_
   rotate_left
   ·intro w'
    go_simp
    with_reducible rfl
   rotate_left
   ·simp only [Act.put, List.setIfInBounds_toArray, List.set_cons_zero, List.set_cons_succ, i64_w, i32_w]
    rfl
   have nB : Aside0 (Below wd.heap.size wd wd) := ⟨Below.refl _ _⟩
   refine join_ (σ := Nat × Nat × Nat × Nat × Value) 5 #[true, true, true, true, true, true, true, true, true, true, true, true, true, false, false, false, false, false] (fun s_ => [(34, .pointer (some ⟨s_.1, 0, none⟩)), (41, .pointer (some ⟨s_.2.1, 0, none⟩)), (42, .slice (some ⟨s_.2.2.1, 0, none⟩) 0 0), (44, s_.2.2.2.2), (45, .slice (some ⟨s_.2.2.2.1, 0, none⟩) 1 1)]) (fun s_ w' => Aside0 (Below wd.heap.size wd w') ∧ Aside0 (Ap9 wd w' s_.1 s_.2.1 y A5 s_.2.2.2.2) ∧ Aside0 (CB w' (some ⟨s_.2.2.2.1, 0, none⟩) [7]) ∧ Aside0 ((s_.2.2.2.2).ownBlock ≠ some s_.2.2.2.1)) ?_ ?_
   rotate_left
   ·intro hJ1_8_9_11_12
    refine join_ (σ := Nat × Nat × Nat × Value) 6 #[true, true, true, true, true, true, true, true, true, true, true, true, false, false, false, false, false, false] (fun s_ => [(34, .pointer (some ⟨s_.1, 0, none⟩)), (41, .pointer (some ⟨s_.2.1, 0, none⟩)), (42, .slice (some ⟨s_.2.2.1, 0, none⟩) 0 0), (44, s_.2.2.2)]) (fun s_ w' => Aside0 (Below wd.heap.size wd w') ∧ Aside0 (Ap9 wd w' s_.1 s_.2.1 y A5 s_.2.2.2)) ?_ ?_
    rotate_left
    ·intro hJ1_8_9_11
     refine join_ (σ := Nat × Nat × Nat × Nat) 6 #[true, true, true, true, true, true, true, true, true, true, true, false, true, false, false, false, false, false] (fun s_ => [(34, .pointer (some ⟨s_.1, 0, none⟩)), (41, .pointer (some ⟨s_.2.1, 0, none⟩)), (42, .slice (some ⟨s_.2.2.1, 0, none⟩) 0 0), (45, .slice (some ⟨s_.2.2.2, 0, none⟩) 1 1)]) (fun s_ w' => Aside0 (Below wd.heap.size wd w') ∧ Aside0 (RS 62 w' s_.1 y) ∧ Aside0 (wd.heap.size ≤ s_.1) ∧ Aside0 (RS 62 w' s_.2.1 A5) ∧ Aside0 (s_.1 < s_.2.1) ∧ Aside0 (CB w' (some ⟨s_.2.2.2, 0, none⟩) [7])) ?_ ?_
     rotate_left
     ·intro hJ1_8_9_12
      refine join_ (σ := Nat × Nat × Nat) 7 #[true, true, true, true, true, true, true, true, true, true, true, false, false, false, false, false, false, false] (fun s_ => [(34, .pointer (some ⟨s_.1, 0, none⟩)), (41, .pointer (some ⟨s_.2.1, 0, none⟩)), (42, .slice (some ⟨s_.2.2, 0, none⟩) 0 0)]) (fun s_ w' => Aside0 (Below wd.heap.size wd w') ∧ Aside0 (RS 62 w' s_.1 y) ∧ Aside0 (wd.heap.size ≤ s_.1) ∧ Aside0 (RS 62 w' s_.2.1 A5) ∧ Aside0 (s_.1 < s_.2.1)) ?_ ?_
      rotate_left
      ·intro hJ1_8_9
       refine join_ (σ := Nat × Nat × Nat) 7 #[true, true, true, true, true, true, true, true, true, false, true, false, true, false, false, false, false, false] (fun s_ => [(34, .pointer (some ⟨s_.1, 0, none⟩)), (41, .pointer (some ⟨s_.2.1, 0, none⟩)), (45, .slice (some ⟨s_.2.2, 0, none⟩) 1 1)]) (fun s_ w' => Aside0 (Below wd.heap.size wd w') ∧ Aside0 (RS 62 w' s_.1 y) ∧ Aside0 (wd.heap.size ≤ s_.1) ∧ Aside0 (RS 62 w' s_.2.1 A5) ∧ Aside0 (s_.1 < s_.2.1) ∧ Aside0 (CB w' (some ⟨s_.2.2, 0, none⟩) [7])) ?_ ?_
       rotate_left
       ·intro hJ1_8_12
        refine join_ (σ := Nat × Nat × Nat) 7 #[true, true, true, true, true, true, true, true, false, true, true, false, true, false, false, false, false, false] (fun s_ => [(34, .pointer (some ⟨s_.1, 0, none⟩)), (42, .slice (some ⟨s_.2.1, 0, none⟩) 0 0), (45, .slice (some ⟨s_.2.2, 0, none⟩) 1 1)]) (fun s_ w' => Aside0 (Below wd.heap.size wd w') ∧ Aside0 (RS 62 w' s_.1 y) ∧ Aside0 (wd.heap.size ≤ s_.1) ∧ Aside0 (CB w' (some ⟨s_.2.2, 0, none⟩) [7])) ?_ ?_
        rotate_left
        ·intro hJ1_9_12
         refine join_ (σ := Nat × Nat) 8 #[true, true, true, true, true, true, true, true, true, false, true, false, false, false, false, false, false, false] (fun s_ => [(34, .pointer (some ⟨s_.1, 0, none⟩)), (41, .pointer (some ⟨s_.2, 0, none⟩))]) (fun s_ w' => Aside0 (Below wd.heap.size wd w') ∧ Aside0 (RS 62 w' s_.1 y) ∧ Aside0 (wd.heap.size ≤ s_.1) ∧ Aside0 (RS 62 w' s_.2 A5) ∧ Aside0 (s_.1 < s_.2)) ?_ ?_
         rotate_left
         ·intro hJ1_8
          refine join_ (σ := Nat × Nat) 8 #[true, true, true, true, true, true, true, true, false, true, true, false, false, false, false, false, false, false] (fun s_ => [(34, .pointer (some ⟨s_.1, 0, none⟩)), (42, .slice (some ⟨s_.2, 0, none⟩) 0 0)]) (fun s_ w' => Aside0 (Below wd.heap.size wd w') ∧ Aside0 (RS 62 w' s_.1 y) ∧ Aside0 (wd.heap.size ≤ s_.1)) ?_ ?_
          rotate_left
          ·intro hJ1_9
           refine join_ (σ := Nat × Nat) 8 #[true, true, true, true, true, true, true, true, false, false, true, false, true, false, false, false, false, false] (fun s_ => [(34, .pointer (some ⟨s_.1, 0, none⟩)), (45, .slice (some ⟨s_.2, 0, none⟩) 1 1)]) (fun s_ w' => Aside0 (Below wd.heap.size wd w') ∧ Aside0 (RS 62 w' s_.1 y) ∧ Aside0 (wd.heap.size ≤ s_.1) ∧ Aside0 (CB w' (some ⟨s_.2, 0, none⟩) [7])) ?_ ?_
           rotate_left
           ·intro hJ1_12
            refine join_ (σ := Nat × Nat) 8 #[true, false, true, true, true, true, true, true, false, true, true, false, true, false, false, false, false, false] (fun s_ => [(42, .slice (some ⟨s_.1, 0, none⟩) 0 0), (45, .slice (some ⟨s_.2, 0, none⟩) 1 1)]) (fun s_ w' => Aside0 (Below wd.heap.size wd w') ∧ Aside0 (CB w' (some ⟨s_.2, 0, none⟩) [7])) ?_ ?_
            rotate_left
            ·intro hJ9_12
             refine join_ (σ := Nat) 9 #[true, true, true, true, true, true, true, true, false, false, true, false, false, false, false, false, false, false] (fun s_ => [(34, .pointer (some ⟨s_, 0, none⟩))]) (fun s_ w' => Aside0 (Below wd.heap.size wd w') ∧ Aside0 (RS 62 w' s_ y) ∧ Aside0 (wd.heap.size ≤ s_)) ?_ ?_
             rotate_left
             ·intro hJ1
              refine join_ (σ := Nat) 9 #[true, false, true, true, true, true, true, true, false, true, true, false, false, false, false, false, false, false] (fun s_ => [(42, .slice (some ⟨s_, 0, none⟩) 0 0)]) (fun s_ w' => Aside0 (Below wd.heap.size wd w')) ?_ ?_
              rotate_left
              ·intro hJ9
               refine join_ (σ := Nat) 9 #[true, false, true, true, true, true, true, true, false, false, true, false, true, false, false, false, false, false] (fun s_ => [(45, .slice (some ⟨s_, 0, none⟩) 1 1)]) (fun s_ w' => Aside0 (Below wd.heap.size wd w') ∧ Aside0 (CB w' (some ⟨s_, 0, none⟩) [7])) ?_ ?_
               rotate_left
               ·intro hJ12
                refine three_ (i := 1) (j := 9) (k := 12) (Ni := some 34) (Nj := some 42) (Nk := some 45) (lb 18 1279) (lb 18 1789) (lb 18 5373) rfl rfl rfl rfl rfl rfl (three_of HT_.out (by kernel_rfl)) (by decide) (by decide) (by decide) (fun K hK => ?_) (fun K hK => ?_) (fun K hK => ?_)
                ·skip
                 refine goes_ Try.func20 (by kernel_rfl) rfl #[.slice (some ad4) y.length c4] (by rfl) rfl rfl (by simp only [List.map_toArray, List.map_cons, List.map_nil]; rfl) ?_
                 refine (newreader_calls (some ad4) c4 y _ (Kd.C_below HYr.out nB.out) hc4 (by omega)).mono ?_
                 rintro e w5 ⟨p1, rfl, hr, hp, hb⟩
                 refine ⟨_, rfl, ?_⟩
                 refine hK.out _ _ trivial (fun hHeld => ?_)
                 clear hK K
                 refine norm_ (a' := ?_) ?_ ?_
                 rotate_left
                 ·show Act.put _ (some 34) _ = _
                  simp only [Act.put, List.setIfInBounds_toArray, List.set_cons_zero, List.set_cons_succ, i64_w, i32_w]
                  rfl
                 exact norm_ (by first | (simp only [putAll, Act.put, List.setIfInBounds_toArray, List.set_cons_zero, List.set_cons_succ]; done) | (simp only [putAll, Act.put, List.setIfInBounds_toArray, List.set_cons_zero, List.set_cons_succ]; rfl)) (hJ1 p1 _ ⟨⟨below_then nB.out nB.out.size hb⟩, ⟨hr⟩, ⟨Nat.le_trans nB.out.size hp⟩⟩)
                ·skip
                 refine value_ (w1 := wd.alloc (.cells #[] 5)) (v := .slice (some ⟨wd.heap.size, 0, none⟩) 0 0) (by rfl) rfl ?_ ?_
                 ·go_simp
                 have hb : Below wd.heap.size wd (wd.alloc (.cells #[] 5)) := below_alloc (Below.refl _ _) _
                 refine hK.out _ _ trivial (fun hHeld => ?_)
                 clear hK K
                 refine norm_ (a' := ?_) ?_ ?_
                 rotate_left
                 ·show Act.put _ (some 42) _ = _
                  simp only [Act.put, List.setIfInBounds_toArray, List.set_cons_zero, List.set_cons_succ, i64_w, i32_w]
                  rfl
                 exact norm_ (by first | (simp only [putAll, Act.put, List.setIfInBounds_toArray, List.set_cons_zero, List.set_cons_succ]; done) | (simp only [putAll, Act.put, List.setIfInBounds_toArray, List.set_cons_zero, List.set_cons_succ]; rfl)) (hJ9 wd.heap.size _ ⟨below_then nB.out nB.out.size hb⟩)
                ·skip
                 refine value_ (w1 := wd.alloc (.cells #[.int .u8 7] 5)) (v := .slice (some ⟨wd.heap.size, 0, none⟩) 1 1) (by rfl) rfl ?_ ?_
                 ·go_simp
                 have hb : Below wd.heap.size wd (wd.alloc (.cells #[.int .u8 7] 5)) := below_alloc (Below.refl _ _) _
                 refine hK.out _ _ trivial (fun hHeld => ?_)
                 clear hK K
                 refine norm_ (a' := ?_) ?_ ?_
                 rotate_left
                 ·show Act.put _ (some 45) _ = _
                  simp only [Act.put, List.setIfInBounds_toArray, List.set_cons_zero, List.set_cons_succ, i64_w, i32_w]
                  rfl
                 exact norm_ (by first | (simp only [putAll, Act.put, List.setIfInBounds_toArray, List.set_cons_zero, List.set_cons_succ]; done) | (simp only [putAll, Act.put, List.setIfInBounds_toArray, List.set_cons_zero, List.set_cons_succ]; rfl)) (hJ12 wd.heap.size _ ⟨⟨below_then nB.out nB.out.size hb⟩, ⟨lit_CB wd [7] (by decide)⟩⟩)
               ·skip
                clear nB
                rintro h12 wn ⟨nB, n12⟩
                have hHeld := trivial
                refine norm_ (a' := ?_) ?_ ?_
                rotate_left
                ·simp only [putAll, Act.put, List.setIfInBounds_toArray, List.set_cons_zero, List.set_cons_succ]
                 rfl
                refine two_ (i := 1) (j := 9) (Ni := some 34) (Nj := some 42) (lb 18 5375) (lb 18 5885) rfl rfl rfl rfl (two_of HT_.out (by kernel_rfl)) (by decide) (by decide) (fun K hK => ?_) (fun K hK => ?_)
                ·skip
                 refine goes_ Try.func20 (by kernel_rfl) rfl #[.slice (some ad4) y.length c4] (by rfl) rfl rfl (by simp only [List.map_toArray, List.map_cons, List.map_nil]; rfl) ?_
                 refine (newreader_calls (some ad4) c4 y _ (Kd.C_below HYr.out nB.out) hc4 (by omega)).mono ?_
                 rintro e w5 ⟨p1, rfl, hr, hp, hb⟩
                 refine ⟨_, rfl, ?_⟩
                 refine hK.out _ _ trivial (fun hHeld => ?_)
                 clear hK K
                 refine norm_ (a' := ?_) ?_ ?_
                 rotate_left
                 ·show Act.put _ (some 34) _ = _
                  simp only [Act.put, List.setIfInBounds_toArray, List.set_cons_zero, List.set_cons_succ, i64_w, i32_w]
                  rfl
                 exact norm_ (by first | (simp only [putAll, Act.put, List.setIfInBounds_toArray, List.set_cons_zero, List.set_cons_succ]; done) | (simp only [putAll, Act.put, List.setIfInBounds_toArray, List.set_cons_zero, List.set_cons_succ]; rfl)) (hJ1_12 (p1, h12) _ ⟨⟨below_then nB.out nB.out.size hb⟩, ⟨hr⟩, ⟨Nat.le_trans nB.out.size hp⟩, ⟨Kd.C_below n12.out hb⟩⟩)
                ·skip
                 refine value_ (w1 := wn.alloc (.cells #[] 5)) (v := .slice (some ⟨wn.heap.size, 0, none⟩) 0 0) (by rfl) rfl ?_ ?_
                 ·go_simp
                 have hb : Below wn.heap.size wn (wn.alloc (.cells #[] 5)) := below_alloc (Below.refl _ _) _
                 refine hK.out _ _ trivial (fun hHeld => ?_)
                 clear hK K
                 refine norm_ (a' := ?_) ?_ ?_
                 rotate_left
                 ·show Act.put _ (some 42) _ = _
                  simp only [Act.put, List.setIfInBounds_toArray, List.set_cons_zero, List.set_cons_succ, i64_w, i32_w]
                  rfl
                 exact norm_ (by first | (simp only [putAll, Act.put, List.setIfInBounds_toArray, List.set_cons_zero, List.set_cons_succ]; done) | (simp only [putAll, Act.put, List.setIfInBounds_toArray, List.set_cons_zero, List.set_cons_succ]; rfl)) (hJ9_12 (wn.heap.size, h12) _ ⟨⟨below_then nB.out nB.out.size hb⟩, ⟨Kd.C_below n12.out hb⟩⟩)
              ·skip
               clear nB
               rintro h9 wn nB
               have hHeld := trivial
               refine norm_ (a' := ?_) ?_ ?_
               rotate_left
               ·simp only [putAll, Act.put, List.setIfInBounds_toArray, List.set_cons_zero, List.set_cons_succ]
                rfl
               refine two_ (i := 1) (j := 12) (Ni := some 34) (Nj := some 45) (lb 18 1791) (lb 18 5885) rfl rfl rfl rfl (two_of HT_.out (by kernel_rfl)) (by decide) (by decide) (fun K hK => ?_) (fun K hK => ?_)
               ·skip
                refine goes_ Try.func20 (by kernel_rfl) rfl #[.slice (some ad4) y.length c4] (by rfl) rfl rfl (by simp only [List.map_toArray, List.map_cons, List.map_nil]; rfl) ?_
                refine (newreader_calls (some ad4) c4 y _ (Kd.C_below HYr.out nB.out) hc4 (by omega)).mono ?_
                rintro e w5 ⟨p1, rfl, hr, hp, hb⟩
                refine ⟨_, rfl, ?_⟩
                refine hK.out _ _ trivial (fun hHeld => ?_)
                clear hK K
                refine norm_ (a' := ?_) ?_ ?_
                rotate_left
                ·show Act.put _ (some 34) _ = _
                 simp only [Act.put, List.setIfInBounds_toArray, List.set_cons_zero, List.set_cons_succ, i64_w, i32_w]
                 rfl
                exact norm_ (by first | (simp only [putAll, Act.put, List.setIfInBounds_toArray, List.set_cons_zero, List.set_cons_succ]; done) | (simp only [putAll, Act.put, List.setIfInBounds_toArray, List.set_cons_zero, List.set_cons_succ]; rfl)) (hJ1_9 (p1, h9) _ ⟨⟨below_then nB.out nB.out.size hb⟩, ⟨hr⟩, ⟨Nat.le_trans nB.out.size hp⟩⟩)
               ·skip
                refine value_ (w1 := wn.alloc (.cells #[.int .u8 7] 5)) (v := .slice (some ⟨wn.heap.size, 0, none⟩) 1 1) (by rfl) rfl ?_ ?_
                ·go_simp
                have hb : Below wn.heap.size wn (wn.alloc (.cells #[.int .u8 7] 5)) := below_alloc (Below.refl _ _) _
                refine hK.out _ _ trivial (fun hHeld => ?_)
                clear hK K
                refine norm_ (a' := ?_) ?_ ?_
                rotate_left
                ·show Act.put _ (some 45) _ = _
                 simp only [Act.put, List.setIfInBounds_toArray, List.set_cons_zero, List.set_cons_succ, i64_w, i32_w]
                 rfl
                exact norm_ (by first | (simp only [putAll, Act.put, List.setIfInBounds_toArray, List.set_cons_zero, List.set_cons_succ]; done) | (simp only [putAll, Act.put, List.setIfInBounds_toArray, List.set_cons_zero, List.set_cons_succ]; rfl)) (hJ9_12 (h9, wn.heap.size) _ ⟨⟨below_then nB.out nB.out.size hb⟩, ⟨lit_CB wn [7] (by decide)⟩⟩)
             ·skip
              clear nB
              rintro p1 wn ⟨nB, n1, n1b⟩
              have hHeld := trivial
              refine norm_ (a' := ?_) ?_ ?_
              rotate_left
              ·simp only [putAll, Act.put, List.setIfInBounds_toArray, List.set_cons_zero, List.set_cons_succ]
               rfl
              refine three_ (i := 8) (j := 9) (k := 12) (Ni := some 41) (Nj := some 42) (Nk := some 45) (lb 18 1535) (lb 18 1791) (lb 18 5375) rfl rfl rfl rfl rfl rfl (three_of HT_.out (by kernel_rfl)) (by decide) (by decide) (by decide) (fun K hK => ?_) (fun K hK => ?_) (fun K hK => ?_)
              ·skip
               refine goes_ Try.func20 (by kernel_rfl) rfl #[.slice (some ad4) A5.length c4] (by rfl) rfl rfl (by simp only [List.map_toArray, List.map_cons, List.map_nil]; rfl) ?_
               refine (newreader_calls (some ad4) c4 A5 _ (Kd.C_below HZr.out nB.out) hz4 hz5).mono ?_
               rintro e w5 ⟨p2, rfl, hr, hp, hb⟩
               refine ⟨_, rfl, ?_⟩
               refine hK.out _ _ trivial (fun hHeld => ?_)
               clear hK K
               refine norm_ (a' := ?_) ?_ ?_
               rotate_left
               ·show Act.put _ (some 41) _ = _
                simp only [Act.put, List.setIfInBounds_toArray, List.set_cons_zero, List.set_cons_succ, i64_w, i32_w]
                rfl
               exact norm_ (by first | (simp only [putAll, Act.put, List.setIfInBounds_toArray, List.set_cons_zero, List.set_cons_succ]; done) | (simp only [putAll, Act.put, List.setIfInBounds_toArray, List.set_cons_zero, List.set_cons_succ]; rfl)) (hJ1_8 (p1, p2) _ ⟨⟨below_then nB.out nB.out.size hb⟩, ⟨n1.out.below hb⟩, n1b, ⟨hr⟩, ⟨Nat.lt_of_lt_of_le n1.out.lt hp⟩⟩)
              ·skip
               refine value_ (w1 := wn.alloc (.cells #[] 5)) (v := .slice (some ⟨wn.heap.size, 0, none⟩) 0 0) (by rfl) rfl ?_ ?_
               ·go_simp
               have hb : Below wn.heap.size wn (wn.alloc (.cells #[] 5)) := below_alloc (Below.refl _ _) _
               refine hK.out _ _ trivial (fun hHeld => ?_)
               clear hK K
               refine norm_ (a' := ?_) ?_ ?_
               rotate_left
               ·show Act.put _ (some 42) _ = _
                simp only [Act.put, List.setIfInBounds_toArray, List.set_cons_zero, List.set_cons_succ, i64_w, i32_w]
                rfl
               exact norm_ (by first | (simp only [putAll, Act.put, List.setIfInBounds_toArray, List.set_cons_zero, List.set_cons_succ]; done) | (simp only [putAll, Act.put, List.setIfInBounds_toArray, List.set_cons_zero, List.set_cons_succ]; rfl)) (hJ1_9 (p1, wn.heap.size) _ ⟨⟨below_then nB.out nB.out.size hb⟩, ⟨n1.out.below hb⟩, n1b⟩)
              ·skip
               refine value_ (w1 := wn.alloc (.cells #[.int .u8 7] 5)) (v := .slice (some ⟨wn.heap.size, 0, none⟩) 1 1) (by rfl) rfl ?_ ?_
               ·go_simp
               have hb : Below wn.heap.size wn (wn.alloc (.cells #[.int .u8 7] 5)) := below_alloc (Below.refl _ _) _
               refine hK.out _ _ trivial (fun hHeld => ?_)
               clear hK K
               refine norm_ (a' := ?_) ?_ ?_
               rotate_left
               ·show Act.put _ (some 45) _ = _
                simp only [Act.put, List.setIfInBounds_toArray, List.set_cons_zero, List.set_cons_succ, i64_w, i32_w]
                rfl
               exact norm_ (by first | (simp only [putAll, Act.put, List.setIfInBounds_toArray, List.set_cons_zero, List.set_cons_succ]; done) | (simp only [putAll, Act.put, List.setIfInBounds_toArray, List.set_cons_zero, List.set_cons_succ]; rfl)) (hJ1_12 (p1, wn.heap.size) _ ⟨⟨below_then nB.out nB.out.size hb⟩, ⟨n1.out.below hb⟩, n1b, ⟨lit_CB wn [7] (by decide)⟩⟩)
            ·skip
             clear nB
             rintro ⟨h9, h12⟩ wn ⟨nB, n12⟩
             have hHeld := trivial
             refine norm_ (a' := ?_) ?_ ?_
             rotate_left
             ·simp only [putAll, Act.put, List.setIfInBounds_toArray, List.set_cons_zero, List.set_cons_succ]
              rfl
             refine one_ (i := 1) (N := some 34) (lb 18 5887) rfl rfl (one_of HT_.out (by kernel_rfl)) (by decide) (fun K hK => ?_)
             refine goes_ Try.func20 (by kernel_rfl) rfl #[.slice (some ad4) y.length c4] (by rfl) rfl rfl (by simp only [List.map_toArray, List.map_cons, List.map_nil]; rfl) ?_
             refine (newreader_calls (some ad4) c4 y _ (Kd.C_below HYr.out nB.out) hc4 (by omega)).mono ?_
             rintro e w5 ⟨p1, rfl, hr, hp, hb⟩
             refine ⟨_, rfl, ?_⟩
             refine hK.out _ _ trivial (fun hHeld => ?_)
             clear hK K
             refine norm_ (a' := ?_) ?_ ?_
             rotate_left
             ·show Act.put _ (some 34) _ = _
              simp only [Act.put, List.setIfInBounds_toArray, List.set_cons_zero, List.set_cons_succ, i64_w, i32_w]
              rfl
             exact norm_ (by first | (simp only [putAll, Act.put, List.setIfInBounds_toArray, List.set_cons_zero, List.set_cons_succ]; done) | (simp only [putAll, Act.put, List.setIfInBounds_toArray, List.set_cons_zero, List.set_cons_succ]; rfl)) (hJ1_9_12 (p1, h9, h12) _ ⟨⟨below_then nB.out nB.out.size hb⟩, ⟨hr⟩, ⟨Nat.le_trans nB.out.size hp⟩, ⟨Kd.C_below n12.out hb⟩⟩)
           ·skip
            clear nB
            rintro ⟨p1, h12⟩ wn ⟨nB, n1, n1b, n12⟩
            have hHeld := trivial
            refine norm_ (a' := ?_) ?_ ?_
            rotate_left
            ·simp only [putAll, Act.put, List.setIfInBounds_toArray, List.set_cons_zero, List.set_cons_succ]
             rfl
            refine two_ (i := 8) (j := 9) (Ni := some 41) (Nj := some 42) (lb 18 5631) (lb 18 5887) rfl rfl rfl rfl (two_of HT_.out (by kernel_rfl)) (by decide) (by decide) (fun K hK => ?_) (fun K hK => ?_)
            ·skip
             refine goes_ Try.func20 (by kernel_rfl) rfl #[.slice (some ad4) A5.length c4] (by rfl) rfl rfl (by simp only [List.map_toArray, List.map_cons, List.map_nil]; rfl) ?_
             refine (newreader_calls (some ad4) c4 A5 _ (Kd.C_below HZr.out nB.out) hz4 hz5).mono ?_
             rintro e w5 ⟨p2, rfl, hr, hp, hb⟩
             refine ⟨_, rfl, ?_⟩
             refine hK.out _ _ trivial (fun hHeld => ?_)
             clear hK K
             refine norm_ (a' := ?_) ?_ ?_
             rotate_left
             ·show Act.put _ (some 41) _ = _
              simp only [Act.put, List.setIfInBounds_toArray, List.set_cons_zero, List.set_cons_succ, i64_w, i32_w]
              rfl
             exact norm_ (by first | (simp only [putAll, Act.put, List.setIfInBounds_toArray, List.set_cons_zero, List.set_cons_succ]; done) | (simp only [putAll, Act.put, List.setIfInBounds_toArray, List.set_cons_zero, List.set_cons_succ]; rfl)) (hJ1_8_12 (p1, p2, h12) _ ⟨⟨below_then nB.out nB.out.size hb⟩, ⟨n1.out.below hb⟩, n1b, ⟨hr⟩, ⟨Nat.lt_of_lt_of_le n1.out.lt hp⟩, ⟨Kd.C_below n12.out hb⟩⟩)
            ·skip
             refine value_ (w1 := wn.alloc (.cells #[] 5)) (v := .slice (some ⟨wn.heap.size, 0, none⟩) 0 0) (by rfl) rfl ?_ ?_
             ·go_simp
             have hb : Below wn.heap.size wn (wn.alloc (.cells #[] 5)) := below_alloc (Below.refl _ _) _
             refine hK.out _ _ trivial (fun hHeld => ?_)
             clear hK K
             refine norm_ (a' := ?_) ?_ ?_
             rotate_left
             ·show Act.put _ (some 42) _ = _
              simp only [Act.put, List.setIfInBounds_toArray, List.set_cons_zero, List.set_cons_succ, i64_w, i32_w]
              rfl
             exact norm_ (by first | (simp only [putAll, Act.put, List.setIfInBounds_toArray, List.set_cons_zero, List.set_cons_succ]; done) | (simp only [putAll, Act.put, List.setIfInBounds_toArray, List.set_cons_zero, List.set_cons_succ]; rfl)) (hJ1_9_12 (p1, wn.heap.size, h12) _ ⟨⟨below_then nB.out nB.out.size hb⟩, ⟨n1.out.below hb⟩, n1b, ⟨Kd.C_below n12.out hb⟩⟩)
          ·skip
           clear nB
           rintro ⟨p1, h9⟩ wn ⟨nB, n1, n1b⟩
           have hHeld := trivial
           refine norm_ (a' := ?_) ?_ ?_
           rotate_left
           ·simp only [putAll, Act.put, List.setIfInBounds_toArray, List.set_cons_zero, List.set_cons_succ]
            rfl
           refine two_ (i := 8) (j := 12) (Ni := some 41) (Nj := some 45) (lb 18 2047) (lb 18 5887) rfl rfl rfl rfl (two_of HT_.out (by kernel_rfl)) (by decide) (by decide) (fun K hK => ?_) (fun K hK => ?_)
           ·skip
            refine goes_ Try.func20 (by kernel_rfl) rfl #[.slice (some ad4) A5.length c4] (by rfl) rfl rfl (by simp only [List.map_toArray, List.map_cons, List.map_nil]; rfl) ?_
            refine (newreader_calls (some ad4) c4 A5 _ (Kd.C_below HZr.out nB.out) hz4 hz5).mono ?_
            rintro e w5 ⟨p2, rfl, hr, hp, hb⟩
            refine ⟨_, rfl, ?_⟩
            refine hK.out _ _ trivial (fun hHeld => ?_)
            clear hK K
            refine norm_ (a' := ?_) ?_ ?_
            rotate_left
            ·show Act.put _ (some 41) _ = _
             simp only [Act.put, List.setIfInBounds_toArray, List.set_cons_zero, List.set_cons_succ, i64_w, i32_w]
             rfl
            exact norm_ (by first | (simp only [putAll, Act.put, List.setIfInBounds_toArray, List.set_cons_zero, List.set_cons_succ]; done) | (simp only [putAll, Act.put, List.setIfInBounds_toArray, List.set_cons_zero, List.set_cons_succ]; rfl)) (hJ1_8_9 (p1, p2, h9) _ ⟨⟨below_then nB.out nB.out.size hb⟩, ⟨n1.out.below hb⟩, n1b, ⟨hr⟩, ⟨Nat.lt_of_lt_of_le n1.out.lt hp⟩⟩)
           ·skip
            refine value_ (w1 := wn.alloc (.cells #[.int .u8 7] 5)) (v := .slice (some ⟨wn.heap.size, 0, none⟩) 1 1) (by rfl) rfl ?_ ?_
            ·go_simp
            have hb : Below wn.heap.size wn (wn.alloc (.cells #[.int .u8 7] 5)) := below_alloc (Below.refl _ _) _
            refine hK.out _ _ trivial (fun hHeld => ?_)
            clear hK K
            refine norm_ (a' := ?_) ?_ ?_
            rotate_left
            ·show Act.put _ (some 45) _ = _
             simp only [Act.put, List.setIfInBounds_toArray, List.set_cons_zero, List.set_cons_succ, i64_w, i32_w]
             rfl
            exact norm_ (by first | (simp only [putAll, Act.put, List.setIfInBounds_toArray, List.set_cons_zero, List.set_cons_succ]; done) | (simp only [putAll, Act.put, List.setIfInBounds_toArray, List.set_cons_zero, List.set_cons_succ]; rfl)) (hJ1_9_12 (p1, h9, wn.heap.size) _ ⟨⟨below_then nB.out nB.out.size hb⟩, ⟨n1.out.below hb⟩, n1b, ⟨lit_CB wn [7] (by decide)⟩⟩)
         ·skip
          clear nB
          rintro ⟨p1, p2⟩ wn ⟨nB, n1, n1b, n2, n2b⟩
          have hHeld := trivial
          refine norm_ (a' := ?_) ?_ ?_
          rotate_left
          ·simp only [putAll, Act.put, List.setIfInBounds_toArray, List.set_cons_zero, List.set_cons_succ]
           rfl
          refine two_ (i := 9) (j := 12) (Ni := some 42) (Nj := some 45) (lb 18 2047) (lb 18 5631) rfl rfl rfl rfl (two_of HT_.out (by kernel_rfl)) (by decide) (by decide) (fun K hK => ?_) (fun K hK => ?_)
          ·skip
           refine value_ (w1 := wn.alloc (.cells #[] 5)) (v := .slice (some ⟨wn.heap.size, 0, none⟩) 0 0) (by rfl) rfl ?_ ?_
           ·go_simp
           have hb : Below wn.heap.size wn (wn.alloc (.cells #[] 5)) := below_alloc (Below.refl _ _) _
           refine hK.out _ _ trivial (fun hHeld => ?_)
           clear hK K
           refine norm_ (a' := ?_) ?_ ?_
           rotate_left
           ·show Act.put _ (some 42) _ = _
            simp only [Act.put, List.setIfInBounds_toArray, List.set_cons_zero, List.set_cons_succ, i64_w, i32_w]
            rfl
           exact norm_ (by first | (simp only [putAll, Act.put, List.setIfInBounds_toArray, List.set_cons_zero, List.set_cons_succ]; done) | (simp only [putAll, Act.put, List.setIfInBounds_toArray, List.set_cons_zero, List.set_cons_succ]; rfl)) (hJ1_8_9 (p1, p2, wn.heap.size) _ ⟨⟨below_then nB.out nB.out.size hb⟩, ⟨n1.out.below hb⟩, n1b, ⟨n2.out.below hb⟩, n2b⟩)
          ·skip
           refine value_ (w1 := wn.alloc (.cells #[.int .u8 7] 5)) (v := .slice (some ⟨wn.heap.size, 0, none⟩) 1 1) (by rfl) rfl ?_ ?_
           ·go_simp
           have hb : Below wn.heap.size wn (wn.alloc (.cells #[.int .u8 7] 5)) := below_alloc (Below.refl _ _) _
           refine hK.out _ _ trivial (fun hHeld => ?_)
           clear hK K
           refine norm_ (a' := ?_) ?_ ?_
           rotate_left
           ·show Act.put _ (some 45) _ = _
            simp only [Act.put, List.setIfInBounds_toArray, List.set_cons_zero, List.set_cons_succ, i64_w, i32_w]
            rfl
           exact norm_ (by first | (simp only [putAll, Act.put, List.setIfInBounds_toArray, List.set_cons_zero, List.set_cons_succ]; done) | (simp only [putAll, Act.put, List.setIfInBounds_toArray, List.set_cons_zero, List.set_cons_succ]; rfl)) (hJ1_8_12 (p1, p2, wn.heap.size) _ ⟨⟨below_then nB.out nB.out.size hb⟩, ⟨n1.out.below hb⟩, n1b, ⟨n2.out.below hb⟩, n2b, ⟨lit_CB wn [7] (by decide)⟩⟩)
        ·skip
         clear nB
         rintro ⟨p1, h9, h12⟩ wn ⟨nB, n1, n1b, n12⟩
         have hHeld := trivial
         refine norm_ (a' := ?_) ?_ ?_
         rotate_left
         ·simp only [putAll, Act.put, List.setIfInBounds_toArray, List.set_cons_zero, List.set_cons_succ]
          rfl
         refine one_ (i := 8) (N := some 41) (lb 18 6143) rfl rfl (one_of HT_.out (by kernel_rfl)) (by decide) (fun K hK => ?_)
         refine goes_ Try.func20 (by kernel_rfl) rfl #[.slice (some ad4) A5.length c4] (by rfl) rfl rfl (by simp only [List.map_toArray, List.map_cons, List.map_nil]; rfl) ?_
         refine (newreader_calls (some ad4) c4 A5 _ (Kd.C_below HZr.out nB.out) hz4 hz5).mono ?_
         rintro e w5 ⟨p2, rfl, hr, hp, hb⟩
         refine ⟨_, rfl, ?_⟩
         refine hK.out _ _ trivial (fun hHeld => ?_)
         clear hK K
         refine norm_ (a' := ?_) ?_ ?_
         rotate_left
         ·show Act.put _ (some 41) _ = _
          simp only [Act.put, List.setIfInBounds_toArray, List.set_cons_zero, List.set_cons_succ, i64_w, i32_w]
          rfl
         exact norm_ (by first | (simp only [putAll, Act.put, List.setIfInBounds_toArray, List.set_cons_zero, List.set_cons_succ]; done) | (simp only [putAll, Act.put, List.setIfInBounds_toArray, List.set_cons_zero, List.set_cons_succ]; rfl)) (hJ1_8_9_12 (p1, p2, h9, h12) _ ⟨⟨below_then nB.out nB.out.size hb⟩, ⟨n1.out.below hb⟩, n1b, ⟨hr⟩, ⟨Nat.lt_of_lt_of_le n1.out.lt hp⟩, ⟨Kd.C_below n12.out hb⟩⟩)
       ·skip
        clear nB
        rintro ⟨p1, p2, h12⟩ wn ⟨nB, n1, n1b, n2, n2b, n12⟩
        have hHeld := trivial
        refine norm_ (a' := ?_) ?_ ?_
        rotate_left
        ·simp only [putAll, Act.put, List.setIfInBounds_toArray, List.set_cons_zero, List.set_cons_succ]
         rfl
        refine one_ (i := 9) (N := some 42) (lb 18 6143) rfl rfl (one_of HT_.out (by kernel_rfl)) (by decide) (fun K hK => ?_)
        refine value_ (w1 := wn.alloc (.cells #[] 5)) (v := .slice (some ⟨wn.heap.size, 0, none⟩) 0 0) (by rfl) rfl ?_ ?_
        ·go_simp
        have hb : Below wn.heap.size wn (wn.alloc (.cells #[] 5)) := below_alloc (Below.refl _ _) _
        refine hK.out _ _ trivial (fun hHeld => ?_)
        clear hK K
        refine norm_ (a' := ?_) ?_ ?_
        rotate_left
        ·show Act.put _ (some 42) _ = _
         simp only [Act.put, List.setIfInBounds_toArray, List.set_cons_zero, List.set_cons_succ, i64_w, i32_w]
         rfl
        exact norm_ (by first | (simp only [putAll, Act.put, List.setIfInBounds_toArray, List.set_cons_zero, List.set_cons_succ]; done) | (simp only [putAll, Act.put, List.setIfInBounds_toArray, List.set_cons_zero, List.set_cons_succ]; rfl)) (hJ1_8_9_12 (p1, p2, wn.heap.size, h12) _ ⟨⟨below_then nB.out nB.out.size hb⟩, ⟨n1.out.below hb⟩, n1b, ⟨n2.out.below hb⟩, n2b, ⟨Kd.C_below n12.out hb⟩⟩)
      ·skip
       clear nB
       rintro ⟨p1, p2, h9⟩ wn ⟨nB, n1, n1b, n2, n2b⟩
       have hHeld := trivial
       refine norm_ (a' := ?_) ?_ ?_
       rotate_left
       ·simp only [putAll, Act.put, List.setIfInBounds_toArray, List.set_cons_zero, List.set_cons_succ]
        rfl
       refine two_ (i := 11) (j := 12) (Ni := some 44) (Nj := some 45) (lb 18 4095) (lb 18 6143) rfl rfl rfl rfl (two_of HT_.out (by kernel_rfl)) (by decide) (by decide) (fun K hK => ?_) (fun K hK => ?_)
       ·skip
        refine step_append_grows rfl (.tmp 42) (.tmp 43) 22 (by rfl) 5 i8 (.int .u8 0) 1 1 Try.underlying22 hi8 hi8z hi8s hi8b (by decide) (by decide) (some ⟨h9, 0, none⟩) 0 0 [] (by rfl) (by simp) (by simp) (by simp) ad4 y.length c4 (nums .u8 y) (by rfl) (by simp [nums]) (CB.cells (Kd.C_below HYr.out nB.out)) (nums_one .u8 y) (by omega) (by unfold maxLen; omega) (by omega) ?_
        intro v11 w5 ho hgr
        have hb : Below wn.heap.size wn w5 := pw_below_grown (Below.refl _ _) none (Nat.le_refl _) hgr (by simp)
        refine hK.out _ _ trivial (fun hHeld => ?_)
        clear hK K
        refine norm_ (a' := ?_) ?_ ?_
        rotate_left
        ·show Act.put _ (some 44) _ = _
         simp only [Act.put, List.setIfInBounds_toArray, List.set_cons_zero, List.set_cons_succ, i64_w, i32_w]
         rfl
        exact norm_ (by first | (simp only [putAll, Act.put, List.setIfInBounds_toArray, List.set_cons_zero, List.set_cons_succ]; done) | (simp only [putAll, Act.put, List.setIfInBounds_toArray, List.set_cons_zero, List.set_cons_succ]; rfl)) (hJ1_8_9_11 (p1, p2, h9, v11) _ ⟨⟨below_then nB.out nB.out.size hb⟩, ⟨Ap9.mk9 nB.out n1.out n2.out n1b.out n2b.out hb ho⟩⟩)
       ·skip
        refine value_ (w1 := wn.alloc (.cells #[.int .u8 7] 5)) (v := .slice (some ⟨wn.heap.size, 0, none⟩) 1 1) (by rfl) rfl ?_ ?_
        ·go_simp
        have hb : Below wn.heap.size wn (wn.alloc (.cells #[.int .u8 7] 5)) := below_alloc (Below.refl _ _) _
        refine hK.out _ _ trivial (fun hHeld => ?_)
        clear hK K
        refine norm_ (a' := ?_) ?_ ?_
        rotate_left
        ·show Act.put _ (some 45) _ = _
         simp only [Act.put, List.setIfInBounds_toArray, List.set_cons_zero, List.set_cons_succ, i64_w, i32_w]
         rfl
        exact norm_ (by first | (simp only [putAll, Act.put, List.setIfInBounds_toArray, List.set_cons_zero, List.set_cons_succ]; done) | (simp only [putAll, Act.put, List.setIfInBounds_toArray, List.set_cons_zero, List.set_cons_succ]; rfl)) (hJ1_8_9_12 (p1, p2, h9, wn.heap.size) _ ⟨⟨below_then nB.out nB.out.size hb⟩, ⟨n1.out.below hb⟩, n1b, ⟨n2.out.below hb⟩, n2b, ⟨lit_CB wn [7] (by decide)⟩⟩)
     ·skip
      clear nB
      rintro ⟨p1, p2, h9, h12⟩ wn ⟨nB, n1, n1b, n2, n2b, n12⟩
      have hHeld := trivial
      refine norm_ (a' := ?_) ?_ ?_
      rotate_left
      ·simp only [putAll, Act.put, List.setIfInBounds_toArray, List.set_cons_zero, List.set_cons_succ]
       rfl
      refine one_ (i := 11) (N := some 44) (lb 18 8191) rfl rfl (one_of HT_.out (by kernel_rfl)) (by decide) (fun K hK => ?_)
      refine step_append_grows rfl (.tmp 42) (.tmp 43) 22 (by rfl) 5 i8 (.int .u8 0) 1 1 Try.underlying22 hi8 hi8z hi8s hi8b (by decide) (by decide) (some ⟨h9, 0, none⟩) 0 0 [] (by rfl) (by simp) (by simp) (by simp) ad4 y.length c4 (nums .u8 y) (by rfl) (by simp [nums]) (CB.cells (Kd.C_below HYr.out nB.out)) (nums_one .u8 y) (by omega) (by unfold maxLen; omega) (by omega) ?_
      intro v11 w5 ho hgr
      have hb : Below wn.heap.size wn w5 := pw_below_grown (Below.refl _ _) none (Nat.le_refl _) hgr (by simp)
      refine hK.out _ _ trivial (fun hHeld => ?_)
      clear hK K
      refine norm_ (a' := ?_) ?_ ?_
      rotate_left
      ·show Act.put _ (some 44) _ = _
       simp only [Act.put, List.setIfInBounds_toArray, List.set_cons_zero, List.set_cons_succ, i64_w, i32_w]
       rfl
      exact norm_ (by first | (simp only [putAll, Act.put, List.setIfInBounds_toArray, List.set_cons_zero, List.set_cons_succ]; done) | (simp only [putAll, Act.put, List.setIfInBounds_toArray, List.set_cons_zero, List.set_cons_succ]; rfl)) (hJ1_8_9_11_12 (p1, p2, h9, h12, v11) _ ⟨⟨below_then nB.out nB.out.size hb⟩, ⟨Ap9.mk9 nB.out n1.out n2.out n1b.out n2b.out hb ho⟩, ⟨Kd.C_below n12.out hb⟩, ⟨Ap9.old n12.out ho⟩⟩)
    ·skip
     clear nB
     rintro ⟨p1, p2, h9, v11⟩ wn ⟨nB, nA⟩
     have hHeld := trivial
     refine norm_ (a' := ?_) ?_ ?_
     rotate_left
     ·simp only [putAll, Act.put, List.setIfInBounds_toArray, List.set_cons_zero, List.set_cons_succ]
      rfl
     refine one_ (i := 12) (N := some 45) (lb 18 8191) rfl rfl (one_of HT_.out (by kernel_rfl)) (by decide) (fun K hK => ?_)
     refine value_ (w1 := wn.alloc (.cells #[.int .u8 7] 5)) (v := .slice (some ⟨wn.heap.size, 0, none⟩) 1 1) (by rfl) rfl ?_ ?_
     ·go_simp
     have hb : Below wn.heap.size wn (wn.alloc (.cells #[.int .u8 7] 5)) := below_alloc (Below.refl _ _) _
     refine hK.out _ _ trivial (fun hHeld => ?_)
     clear hK K
     refine norm_ (a' := ?_) ?_ ?_
     rotate_left
     ·show Act.put _ (some 45) _ = _
      simp only [Act.put, List.setIfInBounds_toArray, List.set_cons_zero, List.set_cons_succ, i64_w, i32_w]
      rfl
     exact norm_ (by first | (simp only [putAll, Act.put, List.setIfInBounds_toArray, List.set_cons_zero, List.set_cons_succ]; done) | (simp only [putAll, Act.put, List.setIfInBounds_toArray, List.set_cons_zero, List.set_cons_succ]; rfl)) (hJ1_8_9_11_12 (p1, p2, h9, wn.heap.size, v11) _ ⟨⟨below_then nB.out nB.out.size hb⟩, ⟨nA.out.below hb⟩, ⟨lit_CB wn [7] (by decide)⟩, ⟨nA.out.new⟩⟩)
   clear nB
   rintro ⟨p1, p2, h9, h12, v11⟩ wn ⟨nB, nA, n12, nN⟩
   have hHeld := trivial
   refine norm_ (a' := ?_) ?_ ?_
   rotate_left
   ·simp only [putAll, Act.put, List.setIfInBounds_toArray, List.set_cons_zero, List.set_cons_succ]
    rfl
   obtain ⟨W9, R1, R2, hp12, hp1, hW, hWn, hown⟩ := nA.out
   refine one_ (i := 13) (N := some 46) (lb 18 16383) rfl rfl (one_of HT_.out (by kernel_rfl)) (by decide) (fun K hK => ?_)
   refine Kd.R_append_rows_step (Kd.int .u8) (w0 := W9) W9.heap.size (by rfl) (.tmp 44) (.tmp 45) 22 5 (.int .u8 0) 1 (by rfl) Try.underlying22 info8m rfl (by decide) (by decide) v11 y [7] (some ⟨h12, 0, none⟩) 1 1 (fun _ => True) (fun _ => False) (by rfl) (by rfl) (OB.to_R hown) n12.out (fun _ _ h => h) (fun _ h => h.elim) (fun _ _ => trivial) hWn hWn.size (by omega) ?_
   intro v13 w13 hR13 hb13 hg13 _
   obtain ⟨y7, hy7b⟩ : ∃ z : List Int, z = y ++ [7] := ⟨_, rfl⟩
   rw [← hy7b] at hR13
   have HL7 : y7.length ≤ 4294967296 := by rw [hy7b, List.length_append]; simp; omega
   have HY7 := Aside0.mk hy7b
   clear hy7b
   have Q1 := Aside0.mk (R1.below hb13)
   have Q2 := Aside0.mk (R2.below hb13)
   have QB := Aside0.mk (below_then hW hW.size hb13)
   have P12 : Aside0 (p1 < p2) := ⟨hp12⟩
   have P1 : Aside0 (wd.heap.size ≤ p1) := ⟨hp1⟩
   obtain ⟨A13, c13, rfl, hc13, hr13⟩ := OB.reads (OB.of_R hR13).1
   have Q13 := Aside0.mk hr13
   have QC13 := Aside0.mk hc13
   clear R1 R2 hp12 hp1 hW hWn hown hR13 hb13 hg13 hc13 hr13 n12 nA nN nB W9
   refine hK.out _ _ trivial (fun hHeld => ?_)
   clear hK K
   refine norm_ (a' := ?_) ?_ ?_
   rotate_left
   ·show Act.put _ (some 46) _ = _
    simp only [Act.put, List.setIfInBounds_toArray, List.set_cons_zero, List.set_cons_succ, i64_w, i32_w]
    rfl
   refine one_ (i := 14) (N := some 47) (lb 18 32767) rfl rfl (one_of HT_.out (by kernel_rfl)) (by decide) (fun K hK => ?_)
   refine goes_ Try.func20 (by kernel_rfl) rfl #[.slice A13 y7.length c13] (by rfl) rfl rfl (by simp only [List.map_toArray, List.map_cons, List.map_nil]; rfl) ?_
   refine (newreader_calls A13 c13 y7 _ Q13.out QC13.out HL7).mono ?_
   rintro e w14 ⟨p3, rfl, hr, hp, hb⟩
   refine ⟨_, rfl, ?_⟩
   have T1 := Aside0.mk (Q1.out.below hb)
   have T2 := Aside0.mk (Q2.out.below hb)
   have T3 := Aside0.mk hr
   have P23 : Aside0 (p2 < p3) := ⟨Nat.lt_of_lt_of_le Q2.out.lt hp⟩
   have TB := Aside0.mk (below_then QB.out QB.out.size hb)
   clear hr hp hb Q1 Q2 QB Q13 QC13
   refine hK.out _ _ trivial (fun hHeld => ?_)
   clear hK K
   refine norm_ (a' := ?_) ?_ ?_
   rotate_left
   ·show Act.put _ (some 47) _ = _
    simp only [Act.put, List.setIfInBounds_toArray, List.set_cons_zero, List.set_cons_succ, i64_w, i32_w]
    rfl
   refine pure_ (i := 15) (N := some 5) (v := ?_) (a' := ?_) (lb 18 65535) rfl rfl (any_of HT_.out (by kernel_rfl)) (fun _ _ _ h => h) (Or.inl ⟨by rfl, ?_⟩) ?_ ?_
   rotate_left
   ·intro w'
    go_simp
    with_reducible rfl
   rotate_left
   ·simp only [Act.put, List.setIfInBounds_toArray, List.set_cons_zero, List.set_cons_succ, i64_w, i32_w]
    rfl
   refine pure_ (i := 16) (N := some 6) (v := ?_) (a' := ?_) (lb 18 131071) rfl rfl (any_of HT_.out (by kernel_rfl)) (fun _ _ _ h => h) (Or.inl ⟨by rfl, ?_⟩) ?_ ?_
   rotate_left
   ·intro w'
    go_simp
    with_reducible rfl
   rotate_left
   ·simp only [Act.put, List.setIfInBounds_toArray, List.set_cons_zero, List.set_cons_succ, i64_w, i32_w]
    rfl
   refine pure_ (i := 17) (N := some 7) (v := ?_) (a' := ?_) (lb 18 262143) rfl rfl (any_of HT_.out (by kernel_rfl)) (fun _ _ _ h => h) (Or.inl ⟨by rfl, ?_⟩) ?_ ?_
   rotate_left
   ·intro w'
    go_simp
    with_reducible rfl
   rotate_left
   ·simp only [Act.put, List.setIfInBounds_toArray, List.set_cons_zero, List.set_cons_succ, i64_w, i32_w]
    rfl
   refine done_ (done_of HT_.out (by kernel_rfl)) ?_
   have W3 : Aside0 (w3.heap.size ≤ p1 ∧ w3.heap.size ≤ p2 ∧ w3.heap.size ≤ p3) := by
    have h1 := P1.out; have h2 := P12.out; have h3 := P23.out; have h4 := BXr.out.size
    exact ⟨by omega, by omega, by omega⟩
   have NE : Aside0 (p1 ≠ p2 ∧ p1 ≠ p3 ∧ p2 ≠ p3) := by
    have h2 := P12.out; have h3 := P23.out
    exact ⟨by omega, by omega, by omega⟩
   have HL : Aside0 (m.length = l.length + 1) := ⟨by rw [HM.out, List.length_append]; rfl⟩
   have BX0 : Aside0 (Below w3.heap.size w3 w14) := ⟨below_then BXr.out BXr.out.size TB.out⟩
   have S1 : Aside0 (RS 62 w14 p1 (encAll (m.drop 0))) := ⟨by
    have h := T1.out
    rw [HY.out, List.take_length] at h
    exact h⟩
   have S3 : Aside0 (RS 62 w14 p3 (encAll (m.drop 0) ++ [7])) := ⟨by
    have h := T3.out
    rw [HY7.out, HY.out, List.take_length] at h
    exact h⟩
   have S2 : Aside0 (RS 62 w14 p2 (encAll (l.drop 0) ++ [3, 0, 0, 0, 101, 110])) := ⟨by
    have h := T2.out
    rw [hcut.out, HY.out, List.take_length, HM.out, encAll_cut] at h
    exact h⟩
   have C3b := Aside0.mk (Nat.le_trans C3.out (Nat.le_refl _))
   clear T1 T2 T3 TB P1 P12 P23 BXr HYr HZr hc4 hz4 hz5 hcut hy7 hwy hgy hi8 hi8z hi8s hi8b
   go_wp2
   go_loopg [8] m.length (fun gg s8 wr => ∃ i : Nat, i ≤ m.length ∧ m.length - i ≤ gg ∧ s8 = .int .i64 i ∧ Aside0 (RS 62 wr p1 (encAll (m.drop i))) ∧ Aside0 (RS 62 wr p3 (encAll (m.drop i) ++ [7])) ∧ Aside0 (RS 62 wr p2 (encAll (l.drop i) ++ [3, 0, 0, 0, 101, 110])) ∧ Aside0 (Below w3.heap.size w3 wr))
   case atStart => exact ⟨0, by omega, by omega, rfl, S1, S3, S2, BX0⟩
   case round =>
    obtain ⟨i, hi, hg, rfl, U1, U3, U2, BY⟩ := hrel
    clear S1 S2 S3 BX0
    by_cases hlt : i < m.length
    ·have hltz : (i : Int) < m.length := by omega
     obtain ⟨ad, rfl, hq0, hq1, hq2⟩ := at_T54 (Kd.C_below R3.out BY.out) (i : Int) (by omega) hltz
     have hrd : rd_T54 m (i : Int) = m[i] := by unfold rd_T54; rw [Int.toNat_natCast]; simp [List.getD_eq_getElem?_getD, List.getElem?_eq_getElem hlt]
     obtain ⟨x, hx⟩ : ∃ x, x = m[i] := ⟨_, rfl⟩
     have HR : Aside0 (rd_T54 m (i : Int) = x) := ⟨by rw [hrd, hx]⟩
     rw [hrd, ← hx, Int.toNat_natCast] at hq0 hq1 hq2
     have HD : Aside0 (encAll (m.drop i) = encI x.f0 x.f1 x.f2 ++ encAll (m.drop (i + 1))) := ⟨by rw [encAll_drop m i hlt, ← hx]; rfl⟩
     have HX := Aside0.mk hx
     obtain ⟨i1, i2, i3⟩ := HI.out x (by rw [hx]; exact List.getElem_mem hlt)
     clear hrd hx
     go_wp2_with fail
     refine (back_calls p1 (encAll (m.drop (i + 1))) x.f0 x.f1 x.f2 wr (by rw [← HD.out]; exact U1.out) (encAll_bytes _) i1 i2 (by omega)).mono ?_
     rintro e w5 ⟨rfl, hs, hd⟩
     have V1 := Aside0.mk hs
     have V3 := Aside0.mk (hd.other _ _ _ NE.out.2.1.symm NE.out.2.1.symm U3.out)
     have V2 := Aside0.mk (hd.other _ _ _ NE.out.1.symm NE.out.1.symm U2.out)
     have BV := Aside0.mk (BY.out.trans (hd.below _ W3.out.1 W3.out.1 BY.out.size))
     clear hs hd hq0 hq1 hq2 U1 U2 U3 BY
     obtain ⟨ad', he, hq0, hq1, hq2⟩ := at_T54 (Kd.C_below R3.out BV.out) (i : Int) (by omega) hltz
     injection he with he
     subst he
     rw [HR.out, Int.toNat_natCast] at hq0 hq1 hq2
     go_wp2_with fail
     refine (back_calls p3 (encAll (m.drop (i + 1)) ++ [7]) x.f0 x.f1 x.f2 w5 (by rw [← List.append_assoc, ← HD.out]; exact V3.out) ((encAll_bytes _).append (by intro z hz; obtain rfl := List.mem_singleton.1 hz; decide)) i1 i2 (by omega)).mono ?_
     rintro e w6 ⟨rfl, hs, hd⟩
     have X3 := Aside0.mk hs
     have X1 := Aside0.mk (hd.other _ _ _ NE.out.2.1 NE.out.2.1 V1.out)
     have X2 := Aside0.mk (hd.other _ _ _ NE.out.2.2 NE.out.2.2 V2.out)
     have BX := Aside0.mk (BV.out.trans (hd.below _ W3.out.2.2 W3.out.2.2 BV.out.size))
     clear hs hd hq0 hq1 hq2 V1 V2 V3 BV
     obtain ⟨ad', he, hq0, hq1, hq2⟩ := at_T54 (Kd.C_below R3.out BX.out) (i : Int) (by omega) hltz
     injection he with he
     subst he
     rw [HR.out, Int.toNat_natCast] at hq0 hq1 hq2
     have hwl : wrap64 ((m.length : Int) - 1) = (m.length : Int) - 1 := by unfold wrap64; omega
     by_cases hlt2 : i < l.length
     ·have hlt3 : (i : Int) < (m.length : Int) - 1 := by have := HL.out; omega
      have HD2 : Aside0 (encAll (l.drop i) = encI x.f0 x.f1 x.f2 ++ encAll (l.drop (i + 1))) := ⟨by
       rw [encAll_drop l i hlt2, HX.out]
       have : m[i] = l[i] := by
        have h1 : m[i]? = l[i]? := by rw [HM.out, List.getElem?_append_left hlt2]
        rw [List.getElem?_eq_getElem hlt, List.getElem?_eq_getElem hlt2] at h1
        exact Option.some.inj h1
       rw [this]; rfl⟩
      go_wp2_with fail
      refine (back_calls p2 (encAll (l.drop (i + 1)) ++ [3, 0, 0, 0, 101, 110]) x.f0 x.f1 x.f2 w6 (by rw [← List.append_assoc, ← HD2.out]; exact X2.out) ((encAll_bytes _).append (by unfold Bytes; decide)) i1 i2 (by omega)).mono ?_
      rintro e w7 ⟨rfl, hs, hd⟩
      have Y2 := Aside0.mk hs
      have Y1 := Aside0.mk (hd.other _ _ _ NE.out.1 NE.out.1 X1.out)
      have Y3 := Aside0.mk (hd.other _ _ _ NE.out.2.2.symm NE.out.2.2.symm X3.out)
      have BYY := Aside0.mk (BX.out.trans (hd.below _ W3.out.2.1 W3.out.2.1 BX.out.size))
      clear hs hd hq0 hq1 hq2 X1 X2 X3 BX
      go_wp2
      go_roundg (m.length - (i + 1))
      case measure => omega
      case rel => exact ⟨i + 1, by omega, by omega, by go_num, Y1, Y3, Y2, BYY⟩
     ·have hlt3 : ¬ (i : Int) < (m.length : Int) - 1 := by have := HL.out; omega
      go_wp2
      go_roundg (m.length - (i + 1))
      case measure => omega
      case rel => exact ⟨i + 1, by omega, by omega, by go_num, X1, X3, ⟨by
       have h := X2.out
       rw [List.drop_of_length_le (by omega)] at h
       rw [List.drop_of_length_le (by omega)]
       exact h⟩, BX⟩
    ·obtain rfl : i = m.length := by omega
     have Z1 : Aside0 (RS 62 wr p1 []) := ⟨by
      have h := U1.out
      rw [List.drop_length] at h
      exact h⟩
     have Z3 : Aside0 (RS 62 wr p3 [7]) := ⟨by
      have h := U3.out
      rw [List.drop_length] at h
      exact h⟩
     have Z2 : Aside0 (RS 62 wr p2 [3, 0, 0, 0, 101, 110]) := ⟨by
      have h := U2.out
      rw [List.drop_of_length_le (by have := HL.out; omega)] at h
      exact h⟩
     clear U1 U2 U3
     go_wp2_with fail
     refine (left_calls p2 [3, 0, 0, 0, 101, 110] wr Z2.out).mono ?_
     rintro e w5 ⟨rfl, rfl⟩
     go_wp2_with fail
     refine (rtext_calls p2 [3, 0, 0, 0, 101, 110] 3 w5 Z2.out (by unfold Bytes; decide)).mono ?_
     rintro e w6 ⟨r, hr, he, hs, hd⟩
     obtain rfl : r = (ByteArray.empty, 11, [3, 0, 0, 0, 101, 110]) := hr.symm.trans short_end
     subst he
     have X2 := Aside0.mk hs
     have X1 := Aside0.mk (hd.other Z1.out NE.out.1)
     have X3 := Aside0.mk (hd.other Z3.out NE.out.2.2.symm)
     have BX := Aside0.mk (BY.out.trans (hd.below W3.out.2.1 BY.out.size))
     clear hr hs hd Z1 Z2 Z3 BY
     go_wp2_with fail
     refine (end_none p1 w6 X1.out).mono ?_
     rintro e w7 ⟨rfl, rfl⟩
     go_wp2_with fail
     refine (left_calls p1 [] w7 X1.out).mono ?_
     rintro e w8 ⟨rfl, rfl⟩
     go_wp2_with fail
     refine (end_more p3 w8 X3.out).mono ?_
     rintro e w9 ⟨rfl, rfl⟩
     go_wp2_with fail
     refine (left_calls p3 [7] w9 X3.out).mono ?_
     rintro e w10 ⟨rfl, rfl⟩
     go_wp2_with fail
     refine (left_calls p2 [3, 0, 0, 0, 101, 110] w10 X2.out).mono ?_
     rintro e w11 ⟨rfl, rfl⟩
     go_wp2
     go_ret
     exact ⟨rfl, below_then B3.out B3.out.size BX.out⟩
end Go.Proofs.Ytdfkaclflmgkeaa.PAll
namespace Go.Proofs.Ytdfkaclflmgkeaa.Rk
open Go.ChangeShapes Go.WideShapes Go.ChangeAt Go.RowKit Go.Deep
open Go.Proofs.YtdfkaclflmgkeaaW.PrintWords Go.Proofs.Ytdfkaclflmgkeaa.PAll
section
variable {H : Type} {enc : TypeId × Value → H} {W : World}
theorem bulk_mem {H : Type} {d : DataW H} {l : List (DataW H)} (h : d ∈ l) : Rows.uptoBulk d ≤ Rows.uptoBulkAll l := by
 induction l with
 | nil => cases h
 | cons x r ih =>
  simp only [Rows.uptoBulkAll]
  rcases List.mem_cons.1 h with e | e
  ·subst e; omega
  ·have := ih e; omega
theorem bulk_item (f : S54) : Rows.uptoBulk (.agg [.lit (.int .i64 f.f0), .lit (.int .u64 f.f1), .lit (.string f.f2.data.toList)] : DataW H) = f.f2.size + 4 := by
 have e1 := bulk_str (H := H) f.f2
 simp only [Rows.uptoBulk, Rows.uptoBulkAll] at e1 ⊢
 omega
theorem enc_bulk (f : S54) : (encX f).length ≤ 2 * (f.f2.size + 4) := by
 unfold encX encI
 repeat' split
 all_goals (simp only [le_length, List.length_append, bytesOf_length]; omega)
theorem encAll_bulk (D : Nat → DataW H) (F : Nat → S54) (h : ∀ i, Rows.uptoBulk (D i) = (F i).f2.size + 4) : ∀ n, (encAll ((List.range n).map F)).length ≤ 2 * Rows.uptoBulkAll ((List.range n).map D)
 | 0 => by simp [encAll]
 | n + 1 => by
  have ih := encAll_bulk D F h n
  have e1 : encAll ((List.range (n + 1)).map F) = encAll ((List.range n).map F) ++ encX (F n) := by
   unfold encAll; rw [List.range_succ, List.map_append, List.map_append, List.flatten_append]; simp
  have e2 : ∀ (a : List (DataW H)) (b : DataW H), Rows.uptoBulkAll (a ++ [b]) = Rows.uptoBulkAll a + Rows.uptoBulk b := by
   intro a b
   induction a with
   | nil => simp [Rows.uptoBulkAll]
   | cons x r ih => simp only [List.cons_append, Rows.uptoBulkAll, ih]; omega
  have := enc_bulk (F n)
  have := h n
  rw [e1, List.length_append, List.range_succ, List.map_append, List.map_cons, List.map_nil, e2]
  omega
theorem items_in {P : Program} {base : Nat} {t e : TypeId} {fs : Array Field} {f0 f1 f2 : Field} {v : Value} {d : DataW H} {p : List MemPlace} (ht : P.underlying t = some (.slice e)) (he : P.underlying e = some (.struct fs)) (hone : oneCellFields P fs = true) (hC : P.cellsOf e = fs.size) (hn : fs.size = 3)
  (h0 : fs[0]? = some f0) (h1 : fs[1]? = some f1) (h2 : fs[2]? = some f2) (u0 : P.underlying f0.type = some (.int .i64)) (u1 : P.underlying f1.type = some (.int .u64)) (u2 : P.underlying f2.type = some .string)
  (hv : Value.okWide P W .any base t v) (h : DataW.Trod enc P W 0 (fun _ => true) true t v d p) :
  ∃ a cap l, v = .slice a l.length cap ∧ Kd.C k54 W a l.length l ∧ l.length ≤ cap ∧ (l.length ≤ Rows.uptoBulk d ∧ (encAll l).length ≤ 2 * Rows.uptoBulk d) ∧ ∀ f ∈ l, 0 ≤ f.f1 ∧ f.f1 ≤ 18446744073709551615 ∧ f.f2.size ≤ Rows.uptoBulk d := by
 obtain ⟨a, len, cap, rfl⟩ := okWide_slice ht hv
 obtain ⟨fuel, hf⟩ := h
 rcases open_slice ht hf with ⟨hcs, _⟩ | ⟨x, ln, cp, m, n, D, Pl, hcs, hb, hl, hm, hmm, hx, hi⟩
 ·simp [Value.cells] at hcs
  obtain ⟨rfl, rfl, rfl⟩ := hcs
  exact ⟨none, 0, [], rfl, ⟨rfl, by simp, fun h => absurd h (by simp)⟩, by simp, ⟨by simp, by simp [encAll]⟩, by simp⟩
 ·simp [Value.cells] at hcs
  obtain ⟨rfl, rfl, rfl⟩ := hcs
  have hmc : len ≤ m := by rw [hmm]; split <;> omega
  have each : ∀ i, ∃ f : S54, i < m → D i = .agg [.lit (.int .i64 f.f0), .lit (.int .u64 f.f1), .lit (.string f.f2.data.toList)] ∧
    (∀ j u, ([.int .i64 f.f0, .int .u64 f.f1, .string f.f2] : List Value)[j]? = some u → W.cell? (x.add (i * 3 + j)) = some u) ∧ 0 ≤ f.f1 ∧ f.f1 ≤ 18446744073709551615 := by
   intro i
   by_cases him : i < m
   ·obtain ⟨cs', hc, ht'⟩ := hi i him
    rw [hC, hn] at hc
    obtain ⟨ys, n', hn', hy, hlen, hyl, hff⟩ := DataW.trod_struct he ht'
    obtain ⟨_, hcl, hat⟩ := World.cells?_some hc
    simp only [Prod.mk.injEq] at hy
    have part : ∀ (j : Nat) (f : Field), fs[j]? = some f → ∃ (u : Value) (y : DataW H × List MemPlace), W.cell? (x.add (i * 3 + j)) = some u ∧ ys[j]? = some y ∧ DataW.trod enc P W 0 (fun _ => true) true n' f.type [u] = some y := fun j f hj => by
     obtain ⟨ho, hk⟩ := hone_of hone j f hj
     have hjl : j < fs.size := (Array.getElem?_eq_some_iff.1 hj).1
     have hcell := hat j (by omega)
     have hg := hff j f hj
     rw [ho, hk] at hg
     have hone' : (cs'.drop j).take 1 = [cs'[j]'(by omega)] := by
      rw [List.drop_eq_getElem_cons (by omega)]
      rfl
     rw [hone'] at hg
     have hys : ys[j]? = some (ys[j]'(by omega)) := List.getElem?_eq_getElem (by omega)
     refine ⟨_, _, ?_, hys, hg.trans hys⟩
     rw [← Go.Deep.add_add, hcell, List.getElem?_eq_getElem (by omega)]
    obtain ⟨v0, y0, c0, k0, t0⟩ := part 0 f0 h0
    obtain ⟨v1, y1, c1, k1, t1⟩ := part 1 f1 h1
    obtain ⟨v2, y2, c2, k2, t2⟩ := part 2 f2 h2
    obtain ⟨s0, e0, r0, _⟩ := DataW.trod_int u0 t0
    obtain ⟨s1, e1, r1, w1⟩ := DataW.trod_int u1 t1
    obtain ⟨s2, e2, r2, _⟩ := DataW.trod_string u2 t2
    cases e0; cases e1; cases e2
    have hys : ys = [y0, y1, y2] := by
     rw [hn] at hyl
     match ys, hyl with
     | [a0, a1, a2], _ => simp at k0 k1 k2; rw [k0, k1, k2]
    have hw1 : 0 ≤ s1 ∧ s1 ≤ 18446744073709551615 := by simpa [Lit.wf, IntKind.min, IntKind.max, IntKind.signed, IntKind.bits] using w1
    refine ⟨⟨s0, s1, s2⟩, fun _ => ⟨?_, fun j u hu => ?_, hw1⟩⟩
    ·rw [hy.1, hys]; simp [r0, r1, r2]
    ·match j, hu with
     | 0, hu => cases hu; exact c0
     | 1, hu => cases hu; exact c1
     | 2, hu => cases hu; exact c2
   ·exact ⟨z54, fun h => absurd h him⟩
  obtain ⟨F, hF⟩ := Classical.axiomOfChoice each
  have hd : d = .slice ((List.range len).map D) ((List.range (m - len)).map fun j => D (len + j)) := congrArg Prod.fst hx
  have hbulk : ∀ i, i < len → Rows.uptoBulk (D i) ≤ Rows.uptoBulk d := fun i hil => by
   have := bulk_mem (d := D i) (l := (List.range len).map D) (List.mem_map.2 ⟨i, List.mem_range.2 hil, rfl⟩)
   rw [hd]; simp only [Rows.uptoBulk]; omega
  refine ⟨some x, cap, (List.range len).map F, by simp, ⟨rfl, ?_, fun _ => ⟨x, rfl, fun j q hj => ?_⟩⟩, by simp; omega, ?_, ?_⟩
  ·have : maxLen ≤ 9223372036854775807 := by decide
   simp only [List.length_map, List.length_range]; omega
  ·obtain ⟨hjl, hq⟩ := List.getElem?_eq_some_iff.1 hj
   simp only [List.length_map, List.length_range] at hjl
   simp only [List.getElem_map, List.getElem_range] at hq
   subst hq
   exact ⟨_, rfl, k54_mk W (F j), fun i u hu => (hF j (by omega)).2.1 i u hu⟩
  ·have := bulk_length ((List.range len).map D)
   have h2 : (encAll ((List.range len).map F)).length ≤ 2 * Rows.uptoBulkAll ((List.range len).map D) := by
    have h3 := encAll_bulk (H := H) (fun i => if i < m then D i else .agg [.lit (.int .i64 (F i).f0), .lit (.int .u64 (F i).f1), .lit (.string (F i).f2.data.toList)]) F (fun i => by
     split
     ·rw [(hF i (by assumption)).1]; exact bulk_item (H := H) (F i)
     ·exact bulk_item (H := H) (F i)) len
    have e : (List.range len).map (fun i => if i < m then D i else .agg [.lit (.int .i64 (F i).f0), .lit (.int .u64 (F i).f1), .lit (.string (F i).f2.data.toList)]) = (List.range len).map D := List.map_congr_left fun i hi => by
     have := List.mem_range.1 hi
     rw [if_pos (by omega)]
    rw [e] at h3
    exact h3
   rw [hd]; simp only [Rows.uptoBulk]; simp only [List.length_map, List.length_range] at this ⊢; exact ⟨by omega, by omega⟩
  ·intro f hf'
   obtain ⟨i, hi', rfl⟩ := List.mem_map.1 hf'
   have hil := List.mem_range.1 hi'
   have h1 := hbulk i hil
   rw [(hF i (by omega)).1] at h1
   have h2 := bulk_item (H := H) (F i)
   exact ⟨(hF i (by omega)).2.2.1, (hF i (by omega)).2.2.2, by omega⟩
end
end Go.Proofs.Ytdfkaclflmgkeaa.Rk
