/- Layer 17: the marks of ProfileFresh: marked. -/
import Derived.Test.YtehfogjibhnabaaDoorPfPAllx0
import Derived.Test.YtehfogjibhnabaaDoorPfHandA
import Derived.Test.YtehfogjibhnabaaDoorPfPAlly13
import Derived.WalkKit
import Derived.BigQuiet
import Derived.Outline
import Derived.Laws.BytesArg
import Derived.Deep.RegionHeld3
import Derived.Deep.RegionWith
import Derived.Deep.RegionLawGrows
import Derived.Deep.DeepCutAuto
import Derived.Test.YtehfogjibhnabaaDoorPfProfT
import Derived.Test.YtehfogjibhnabaaDoorPfPAlly5
import Derived.Test.YtehfogjibhnabaaDoorPfPAlly11
import Derived.Test.YtehfogjibhnabaaDoorPfPure2
namespace Go.Proofs.YtehfogjibhnabaaDoor.PAll
open Go.RowKit Go.Proofs.YtehfogjibhnabaaDoorW.PrintWords Go.Proofs.YtehfogjibhnabaaDoorW.PrintLast Go.Proofs.YtehfogjibhnabaaDoorW.PrintMore
open Go.Proofs.YtehfogjibhnabaaDoor.Sp
def markS (n : Nat) : ByteArray := ⟨#[109, 97, 114, 107, 32]⟩ ++ strOfNums [48 + (n : Int) % 64, 48 + (n : Int) / 64]
set_option maxHeartbeats 1000000 in
set_option maxRecDepth 100000 in
theorem mark17_calls (n : Nat) (hn : n < 64) (w : World) :
  Calls Tryd.prog 41 #[.int .i64 n] w fun e w' => e = .returned (.string (markS n)) ∧ Below w.heap.size w w' := by
 have h0 : 0 ≤ (n : Int) := by omega
 have h1 : (n : Int) ≤ 63 := by omega
 have hC := run_convert_bytes_arg (P := Tryd.prog) (w.alloc (.cells #[.int .u8 (48 + (n : Int) % 64), .int .u8 (48 + (n : Int) / 64)] 5)) 81 5 Tryd.underlying81 Tryd.underlying5 w.heap.size 0 2 2 [48 + (n : Int) % 64, 48 + (n : Int) / 64] rfl
  (fun i hi => by
   rw [Nat.zero_add]
   rcases i with _ | _ | i
   ·simp
   ·simp
   ·omega) 9 Tryd.underlying9
 have hz : (strOfNums [48 + (n : Int) % 64, 48 + (n : Int) / 64]).size = 2 := strOfNums_size _
 have M : Aside0 (markS n = ⟨#[109, 97, 114, 107, 32]⟩ ++ strOfNums [48 + (n : Int) % 64, 48 + (n : Int) / 64]) := ⟨rfl⟩
 generalize strOfNums [48 + (n : Int) % 64, 48 + (n : Int) / 64] = s at hC hz M
 go_enter Tryd.func41, Tryd.ntmps41
 go_wp2
 go_ret
 exact ⟨by rw [M.out]; rfl, below_alloc (Below.refl _ _) _⟩
theorem OS.form {e : TypeId} {w : World} {v : Value} {x : List ByteArray} (h : OS e w v x) (h0 : 0 < x.length) : ∃ g c, v = .slice (some ⟨g, 0, none⟩) x.length c ∧ g < w.heap.size := by
 obtain ⟨g, cap, he, _, h2⟩ := World.ownsRow.form h h0
 exact ⟨g, cap, he, h2⟩
theorem OwnS.cellS {e : TypeId} {w : World} {g n c : Nat} {x : List ByteArray} (h : OS e w (.slice (some ⟨g, 0, none⟩) n c) x) (j : Nat) (hj : j < x.length) : ∃ u, w.cell? ⟨g, j, none⟩ = some (.string u) ∧ w.frozen? ⟨g, j, none⟩ = false := by
 obtain ⟨g', c', e1, _⟩ := OS.form h (by omega)
 injection e1 with _ e2 _
 subst e2
 refine ⟨x[j], ?_, h.frozenAt j⟩
 rw [h.cellAt j (by omega), List.getElem?_map, List.getElem?_eq_getElem hj]
 rfl
theorem repl_none {n q : Nat} {u : Value} (h : (List.replicate n (Value.slice none 0 0))[q]? = some u) : u = .slice none 0 0 := by
 rw [List.getElem?_replicate] at h
 split at h
 ·exact (Option.some.inj h).symm
 ·cases h
theorem repl_nil {n q : Nat} {u : List ByteArray} (h : (List.replicate n ([] : List ByteArray))[q]? = some u) : u = [] := by
 rw [List.getElem?_replicate] at h
 split at h
 ·exact (Option.some.inj h).symm
 ·cases h
def ProfFW.T32 : Bool × List (List Nat × List Nat) := (true, [([], []), ([], []), ([0, 1], [0, 1]), ([2], [2]), ([], []), ([3, 4], [3, 4]), ([5], [5]), ([], []), ([7], [7]), ([6, 8], [6, 8]), ([9, 8], [9]), ([10], [10]), ([10], [10]), ([10], [10]), ([12, 13, 10], [10, 12, 13]), ([14, 10], [10, 14]), ([15, 10], [10, 15]), ([11, 16, 10], [10, 11, 16]), ([17, 10, 10], [10, 17]), ([18], [18]), ([18], [18]), ([19, 20, 18], [18, 19, 20]), ([21, 18], [18, 21]), ([18], [18]), ([22, 23, 18], [18, 22, 23]), ([24, 18], [18, 24]), ([18], [18]), ([26, 18, 18], [18, 26]), ([25, 27, 18], [18, 25, 27]), ([18, 28, 10], [10, 18, 28]), ([10, 29], [10, 29])])
def ProfFW.B32 : List Nat := [0, 0, 3, 7, 0, 31, 63, 0, 128, 511, 1023, 2047, 2047, 2047, 14335, 30719, 63487, 131071, 262143, 524287, 524287, 2097151, 4194303, 524287, 16777215, 33554431, 524287, 67633151, 268435455, 536870911, 1073741823]
theorem ProfFW.tab32 : rtab .any (opsOf Tryd.f16 32) = ProfFW.T32 := by kernel_rfl
theorem ProfFW.bits32 : waitsOk ProfFW.T32.2 ProfFW.B32 = true := by kernel_rfl
theorem infoSS : (Tryd.prog.info? 22).map (fun i => (i.zero, i.size, i.bytes)) = some (some (.slice none 0 0), 1, 24) := by kernel_rfl
theorem infoS : (Tryd.prog.info? 9).map (fun i => (i.zero, i.size, i.bytes)) = some (some (.string ByteArray.empty), 1, 16) := by kernel_rfl
theorem below_grown0 {w w1 : World} (h : w.grownBy w1 none) : Below w.heap.size w w1 := (Below.refl _ w).grown h (Nat.le_refl _) (fun k hk => by cases hk)
structure Sit (B gl ga ca n : Nat) (w0 w : World) (vs ls : List Value) (ys zs : List (List ByteArray)) : Prop where
 fam : Fam B w vs ls ys zs
 all : OwnS B w (.slice (some ⟨ga, 0, none⟩) vs.length ca) vs
 long : OwnS gl w (.slice (some ⟨gl, 0, none⟩) ls.length n) ls
 fx : Full markS vs.length ys
 fz : Full markS vs.length zs
 bel : Below B w0 w
 lt : ga < gl
 le : B ≤ w0.heap.size
theorem Sit.below {B gl ga ca n : Nat} {w0 w w1 : World} {vs ls : List Value} {ys zs : List (List ByteArray)} (h : Sit B gl ga ca n w0 w vs ls ys zs) (hb : Below w.heap.size w w1) : Sit B gl ga ca n w0 w1 vs ls ys zs :=
 ⟨h.fam.below hb, h.all.below hb, h.long.below hb, h.fx, h.fz, h.bel.trans (hb.mono (Nat.le_trans h.le h.bel.size)), h.lt, h.le⟩
theorem Sit.ge {B gl ga ca n : Nat} {w0 w : World} {vs ls : List Value} {ys zs : List (List ByteArray)} (h : Sit B gl ga ca n w0 w vs ls ys zs) : B ≤ w.heap.size := Nat.le_trans h.le h.bel.size
theorem OS.form3 {e : TypeId} {w : World} {v : Value} {x : List ByteArray} (h : OS e w v x) : ∃ A n c, v = .slice A n c := by
 obtain ⟨A, c, e, _⟩ := h.reads
 exact ⟨A, _, c, e⟩
theorem below_drew {w w1 : World} (h : Below w.drew.heap.size w.drew w1) : Below w.heap.size w w1 := Below.trans (Below.refl _ w).drew h
theorem Sit.put {B gl ga ca n : Nat} {w0 w : World} {vs ls : List Value} {ys zs : List (List ByteArray)} (h : Sit B gl ga ca n w0 w vs ls ys zs) {i : Nat} {v : Value} {x : List ByteArray} (hv : vs[i]? = some v) (hx : ys[i]? = some x) (hB : B ≤ gl) :
  Sit B gl ga ca n w0 (w.setCell ⟨gl, i, none⟩ v) vs (ls.set i v) ys (zs.set i x) := by
 have hi : i < vs.length := (List.getElem?_eq_some_iff.1 hv).1
 have hl := h.fam.l1
 refine ⟨(h.fam.put hv hx).move fun q u y hu ho => ho.row_far h.long rfl v, ?_, ?_, h.fx, h.fz.set fun y hy => h.fx i x hi hx y hy, h.bel.setCell hB v, h.lt, h.le⟩
 ·refine own_move h.all fun k hk => Below.heap_setCell w ⟨gl, i, none⟩ v k fun e => ?_
  have e : k = gl := e
  have h2 := h.lt
  have h3 : ga = k := by simpa [Value.ownBlock] using hk
  omega
 ·have := (h.long.stored i v).1
  show World.ownsRow _ _ _ _ _ _ _
  rw [List.length_set]
  exact this
theorem Sit.grow {B gl ga ca n : Nat} {w0 w w1 : World} {vs ls : List Value} {ys zs : List (List ByteArray)} (h : Sit B gl ga ca n w0 w vs ls ys zs) {i : Nat} {v v1 : Value} {z : List ByteArray} (hv : ls[i]? = some v) (hz : zs[i]? = some z)
  (ho : OS 9 w1 v1 (z ++ [markS i])) (hk : ∀ k, v1.ownBlock = some k → B ≤ k) (hat : v1.ownBlock = v.ownBlock ∨ ∃ b, v1.ownBlock = some b ∧ w.heap.size ≤ b)
  (hg : w.grownBy w1 v.ownBlock) (hbl : Below B w0 w1)
  (keep : ∀ u ys y, (∀ k, u.ownBlock = some k → v.ownBlock = some k → (∀ q ∈ [markS i], q = y) ∧ ∀ q ∈ ys, q = y) → OS 9 w u ys → OS 9 w1 u ys) (hB : B ≤ gl) :
  OwnS gl w1 (.slice (some ⟨gl, 0, none⟩) ls.length n) ls ∧ Sit B gl ga ca n w0 (w1.setCell ⟨gl, i, none⟩ v1) vs (ls.set i v1) ys (zs.set i (z ++ [markS i])) := by
 have hvo := h.fam.long i v z hv hz
 have hl1 : OwnS gl w1 (.slice (some ⟨gl, 0, none⟩) ls.length n) ls := h.long.grown hvo hg
 have ha1 : OwnS B w1 (.slice (some ⟨ga, 0, none⟩) vs.length ca) vs := h.all.grown hvo hg
 obtain ⟨f1, f2⟩ := h.fam.grow markS hv hz h.fx h.fz ho hk hat keep
 refine ⟨hl1, f1.move fun q u y hu ho => ho.row_far hl1 rfl v1, ?_, ?_, h.fx, f2, hbl.setCell hB v1, h.lt, h.le⟩
 ·refine own_move ha1 fun k hk => Below.heap_setCell w1 ⟨gl, i, none⟩ v1 k fun e => ?_
  have e : k = gl := e
  have h2 := h.lt
  have h3 : ga = k := by simpa [Value.ownBlock] using hk
  omega
 ·have := (hl1.stored i v1).1
  show World.ownsRow _ _ _ _ _ _ _
  rw [List.length_set]
  exact this
theorem Sit.keep {B gl ga ca n : Nat} {w0 w w1 : World} {vs ls : List Value} {ys zs : List (List ByteArray)} (h : Sit B gl ga ca n w0 w vs ls ys zs) {i : Nat} {v : Value} {x : List ByteArray} (hv : vs[i]? = some v) (hx : ys[i]? = some x) {ms : List ByteArray} (hms : ∀ q ∈ ms, q = markS i)
  (hg : w.grownBy w1 v.ownBlock) (hbl : Below B w0 w1)
  (keep : ∀ u ys y, (∀ k, u.ownBlock = some k → v.ownBlock = some k → (∀ q ∈ ms, q = y) ∧ ∀ q ∈ ys, q = y) → OS 9 w u ys → OS 9 w1 u ys) : Sit B gl ga ca n w0 w1 vs ls ys zs :=
 ⟨h.fam.keep markS hv h.fx h.fz hms keep, h.all.grown (h.fam.row i v x hv hx) hg, h.long.grown (h.fam.row i v x hv hx) hg, h.fx, h.fz, hbl, h.lt, h.le⟩
theorem OS.cellM {w : World} {g n c i : Nat} {x : List ByteArray} (h : OS 9 w (.slice (some ⟨g, 0, none⟩) n c) x) (hm : ∀ y ∈ x, y = markS i) (j : Nat) (hj : j < x.length) : w.cell? ⟨g, j, none⟩ = some (.string (markS i)) := by
 obtain ⟨g', c', e1, _⟩ := OS.form h (by omega)
 injection e1 with _ e2 _
 subst e2
 rw [h.cellAt j (by omega), List.getElem?_map, List.getElem?_eq_getElem hj, hm _ (List.getElem_mem hj)]
 rfl
set_option maxHeartbeats 16000000 in
set_option maxRecDepth 100000 in
theorem marked17_calls (sa : Value) (vs : List Value) (xs : List (List ByteArray)) (B : Nat) (w : World) (ho : OwnS B w sa vs) (h0 : 0 < vs.length) (hv : vs.length ≤ 16)
  (hf : Fam B w vs (List.replicate vs.length (.slice none 0 0)) xs (List.replicate vs.length [])) (hx : ∀ x ∈ xs, x.length ≤ 4294967000) :
  Calls Tryd.prog 16 #[sa] w fun e w' => e = .returned (.bool true) ∧ Below B w w' := by
 obtain ⟨ga, ca, rfl, hga1, hga2⟩ := ho.form h0
 have HO := Aside0.mk ho
 have HF := Aside0.mk hf
 have HX := Aside0.mk hx
 have GA := Aside0.mk (And.intro hga1 hga2)
 clear ho hf hx hga1 hga2
 go_enter Tryd.func16, Tryd.ntmps16
 go_wp2
 go_loopg [3] vs.length (fun gg s3 wr => ∃ i : Nat, i ≤ vs.length ∧ vs.length - i ≤ gg ∧ s3 = .int .i64 i ∧ ∃ ys : List (List ByteArray), Aside0 (Fam B wr vs (List.replicate vs.length (.slice none 0 0)) ys (List.replicate vs.length [])) ∧ Aside0 (OwnS B wr (.slice (some ⟨ga, 0, none⟩) vs.length ca) vs) ∧ Aside0 (Below B w wr) ∧ Aside0 (Full markS i ys) ∧ Aside0 (∀ x ∈ ys, x.length ≤ 4294967000))
 case atStart => exact ⟨0, by omega, by omega, rfl, xs, HF, HO, ⟨Below.refl _ _⟩, ⟨fun q x h => absurd h (by omega)⟩, HX⟩
 case round =>
  obtain ⟨i, hi, hg, rfl, ys, F4, O4, W4, M4, X4⟩ := hrel
  clear HF HO HX
  by_cases hlt : i < vs.length
  ·have hltz : (i : Int) < (vs.length : Int) := by omega
   obtain ⟨v1, hv1⟩ : ∃ u, vs[i]? = some u := ⟨_, List.getElem?_eq_getElem hlt⟩
   obtain ⟨x, hx⟩ := getElem?_some_of F4.out.l2 hv1
   obtain ⟨A1, c1, rfl, l1, r1⟩ := (F4.out.row i _ x hv1 hx).reads
   have HV1 := Aside0.mk hv1
   have HX1 := Aside0.mk hx
   have hil : i < ys.length := by have := F4.out.l2; omega
   have hxl : x.length ≤ 4294967000 := X4.out x (List.mem_of_getElem? hx)
   have SS : Aside0 (Fam B wr vs (List.replicate vs.length (.slice none 0 0)) (ys.set i x) (List.replicate vs.length [])) := ⟨by
    have e : ys.set i x = ys := by
     apply List.ext_getElem?
     intro q
     by_cases hq : q = i
     ·subst hq; rw [List.getElem?_set_self hil, HX1.out]
     ·rw [List.getElem?_set_ne (by omega)]
    rw [e]; exact F4.out⟩
   clear hv1 hx l1 r1
   go_wp2
   go_loopg [4] x.length (fun gg s4 wz => ∃ (j : Nat) (y : List ByteArray), j ≤ x.length ∧ x.length - j ≤ gg ∧ s4 = .int .i64 j ∧ Aside0 (y.length = x.length) ∧ Aside0 (Fam B wz vs (List.replicate vs.length (.slice none 0 0)) (ys.set i y) (List.replicate vs.length [])) ∧ Aside0 (OwnS B wz (.slice (some ⟨ga, 0, none⟩) vs.length ca) vs) ∧ Aside0 (Below B w wz) ∧ Aside0 (∀ q, q < j → y[q]? = some (markS i)))
   case atStart => exact ⟨0, x, by omega, by omega, rfl, ⟨rfl⟩, SS, O4, W4, ⟨fun q h => absurd h (by omega)⟩⟩
   case round =>
    obtain ⟨j, y, hj, hgj, rfl, YL, S5, O5, W5, M5⟩ := hrel
    clear SS F4 O4 W4
    have p1 := (O5.out.cell HV1.out).1
    have HY : Aside0 ((ys.set i y)[i]? = some y) := ⟨List.getElem?_set_self hil⟩
    by_cases hlj : j < x.length
    ·have hljz : (j : Int) < (x.length : Int) := by omega
     obtain ⟨g1, c1', e1, hl1⟩ := OS.form (S5.out.row i _ y HV1.out HY.out) (by have := YL.out; omega)
     injection e1 with e1 e2 e3
     subst e1
     clear e2 e3
     have q1 := (OwnS.cellS (S5.out.row i _ y HV1.out HY.out) j (by have := YL.out; omega))
     obtain ⟨u, hcu, hfu⟩ := q1
     have GL : Aside0 (ga < wr.heap.size ∧ g1 < wr.heap.size) := ⟨own_lt O5.out ga rfl, own_lt (S5.out.row i _ y HV1.out HY.out) g1 rfl⟩
     have hi16 : i < 64 := by omega
     go_wp2
     go_region_with (go_at_call 41; refine (mark17_calls i hi16 _).mono ?_; rintro e w4 ⟨rfl, hb⟩; have k1 := (hb.cell (p := ⟨ga, i, none⟩) GL.out.1).trans p1; have k2 := (hb.cell (p := ⟨g1, j, none⟩) GL.out.2).trans hcu; have k3 := (hb.frozen (p := ⟨g1, j, none⟩) GL.out.2).trans hfu)
     all_goals
      have hb : Below wr.heap.size wr w4 := Below.trans (Below.refl _ wr).drew hb
      have SX : Aside0 (Fam B w4 vs (List.replicate vs.length (.slice none 0 0)) (ys.set i y) (List.replicate vs.length [])) := ⟨S5.out.below hb⟩
      have OX : Aside0 (OwnS B w4 (.slice (some ⟨ga, 0, none⟩) vs.length ca) vs) := ⟨O5.out.below hb⟩
      have WX : Aside0 (Below B w w4) := ⟨W5.out.trans (hb.mono (Nat.le_trans (Nat.le_of_lt (Nat.lt_of_le_of_lt GA.out.1 GA.out.2)) W5.out.size))⟩
      clear hb k1 k2 k3 S5 O5 W5
      go_wp2
      go_roundg (x.length - (j + 1))
      case measure => omega
      case rel => exact ⟨j + 1, y.set j (markS i), by omega, by omega, by go_num, ⟨by rw [List.length_set]; exact YL.out⟩, ⟨by have h := SX.out.set (i := i) (by rw [YL.out]; exact HV1.out) HY.out (fun q u hu => by rw [repl_none hu]; rfl) j (markS i); rwa [List.set_set] at h⟩, ⟨OX.out.set (SX.out.row i _ y HV1.out HY.out) rfl _⟩, ⟨WX.out.setCell (SX.out.low i _ g1 (.inl HV1.out) rfl) _⟩, ⟨fun q hq => by
       by_cases e : q = j
       ·subst e; rw [List.getElem?_set_self (by have := YL.out; omega)]
       ·rw [List.getElem?_set_ne (by omega)]; exact M5.out q (by omega)⟩⟩
    ·have hljz : ¬ (j : Int) < (x.length : Int) := by omega
     obtain rfl : j = x.length := by omega
     go_wp2
     go_roundg (vs.length - (i + 1))
     case measure => omega
     case rel =>
      refine ⟨i + 1, by omega, by omega, by go_num, _, S5, O5, W5, ⟨fun q z hq hz w hw => ?_⟩, ⟨fun z hz => ?_⟩⟩
      ·by_cases hqi : q = i
       ·subst hqi
        rw [HY.out] at hz
        injection hz with hz
        subst hz
        obtain ⟨r, hr, rfl⟩ := List.getElem_of_mem hw
        have := M5.out r (by have := YL.out; omega)
        rw [List.getElem?_eq_getElem hr] at this
        exact Option.some.inj this
       ·rw [List.getElem?_set_ne (by omega)] at hz
        exact M4.out q z (by omega) hz w hw
      ·rcases List.mem_or_eq_of_mem_set hz with hz | rfl
       ·exact X4.out z hz
       ·have := YL.out; omega
  ·have hltz : ¬ (i : Int) < (vs.length : Int) := by omega
   obtain rfl : i = vs.length := by omega
   have GA2 : Aside0 (B ≤ wr.heap.size) := ⟨Nat.le_trans (Nat.le_of_lt (Nat.lt_of_le_of_lt GA.out.1 GA.out.2)) W4.out.size⟩
   have GA3 : Aside0 (ga < wr.heap.size) := ⟨own_lt O4.out ga rfl⟩
   clear hlt hi hg
   obtain ⟨i0, hi0, hz0, hz1, hz2⟩ := info_parts infoSS
   obtain ⟨w5, hmk, hown, hgr⟩ := run_make_full (P := Tryd.prog) wr wr.heap.size 37 22 i0 (.slice none 0 0) 1 Tryd.underlying37 hi0 hz0 hz1 .i64 .i64 vs.length (by rw [hz2]; omega) (by simp only [maxLen]; omega) (Nat.le_refl _)
   have hb5 := below_grown0 hgr
   obtain ⟨gl, hgl⟩ : ∃ g, g = wr.heap.size := ⟨_, rfl⟩
   have ST : Aside0 (Sit B gl ga ca vs.length w w5 vs (List.replicate vs.length (.slice none 0 0)) ys (List.replicate vs.length [])) := ⟨by
    refine ⟨F4.out.below hb5, O4.out.below hb5, ?_, M4.out, fun q x hq hx y hy => ?_, W4.out.trans (hb5.mono GA2.out), by rw [hgl]; exact GA3.out, by have := GA.out; omega⟩
    ·show World.ownsRow _ _ _ _ _ _ _
     rw [List.length_replicate, hgl]
     rw [Nat.mul_one] at hown
     have e : (madeCells (Value.slice none 0 0).cells vs.length).toList = List.replicate vs.length (Value.slice none 0 0) := toList_madeCells_one _ _
     rw [← e]
     exact hown
    ·rw [repl_nil hx] at hy
     cases hy⟩
   have GB : Aside0 (B ≤ gl) := ⟨by rw [hgl]; exact GA2.out⟩
   rw [← hgl] at hmk
   clear hi0 hz0 hz1 hz2 hown hgr hb5 hgl F4 O4 W4 M4 GA2 GA3
   go_wp2
   clear hmk
   go_loopg [6] vs.length (fun gg s6 wz => ∃ i : Nat, i ≤ vs.length ∧ vs.length - i ≤ gg ∧ s6 = .int .i64 i ∧ ∃ (ls : List Value) (zs : List (List ByteArray)), Aside0 (Sit B gl ga ca vs.length w wz vs ls ys zs))
   case atStart => exact ⟨0, by omega, by omega, rfl, _, _, ST⟩
   case round =>
    obtain ⟨i, hi, hg, rfl, ls, zs, S6⟩ := hrel
    clear ST
    by_cases hlt : i < vs.length
    ·have hltz : (i : Int) < (vs.length : Int) := by omega
     obtain ⟨v1, hv1⟩ : ∃ u, vs[i]? = some u := ⟨_, List.getElem?_eq_getElem hlt⟩
     obtain ⟨x, hx⟩ := getElem?_some_of S6.out.fam.l2 hv1
     obtain ⟨A1, c1, rfl, l1, r1⟩ := (S6.out.fam.row i _ x hv1 hx).reads
     obtain ⟨u1, hu1⟩ : ∃ u, ls[i]? = some u := ⟨_, List.getElem?_eq_getElem (by have := S6.out.fam.l1; omega)⟩
     have p1 := (S6.out.all.cell hv1).1
     have p2 := (S6.out.long.cell hu1).1
     have p3 := (S6.out.long.cell hu1).2
     have hxl : x.length ≤ 4294967000 := X4.out x (List.mem_of_getElem? hx)
     have S7 := Aside0.mk (S6.out.put hv1 hx GB.out)
     have HLL : Aside0 (i < ls.length ∧ i < zs.length) := ⟨by have := S6.out.fam.l1; have := S6.out.fam.l3; omega⟩
     clear hv1 hx l1 r1 hu1 S6
     go_wp2
     go_loopg [7] 16 (fun gg s7 wq => ∃ j : Nat, j ≤ 16 ∧ 16 - j ≤ gg ∧ s7 = .int .i64 j ∧ ∃ (ls : List Value) (zs : List (List ByteArray)) (z : List ByteArray), Aside0 (zs[i]? = some z) ∧ Aside0 (z.length ≤ 4294967000 + j) ∧ Aside0 (i < ls.length ∧ i < zs.length) ∧ Aside0 (Sit B gl ga ca vs.length w wq vs ls ys zs))
     case atStart => exact ⟨0, by omega, by omega, by first | rfl | go_num, _, _, x, ⟨List.getElem?_set_self HLL.out.2⟩, ⟨by omega⟩, ⟨by rw [List.length_set, List.length_set]; exact HLL.out⟩, S7⟩
     case round =>
      obtain ⟨j, hj, hgj, rfl, ls, zs, z, ZI, ZL, LI, S8⟩ := hrel
      clear S7 HLL
      by_cases hlj : j < 16
      ·have hljz : (j : Int) < 16 := by omega
       obtain ⟨v2, hv2⟩ : ∃ u, ls[i]? = some u := ⟨_, List.getElem?_eq_getElem LI.out.1⟩
       have OV := S8.out.fam.long i _ z hv2 ZI.out
       obtain ⟨A2, c2, rfl, l2, r2⟩ := OV.reads
       have OV := Aside0.mk OV
       have LOW := Aside0.mk (fun k => S8.out.fam.low i _ k (.inr hv2))
       have HV2 := Aside0.mk hv2
       have p2 := (S8.out.long.cell hv2).1
       have p3 := (S8.out.long.cell hv2).2
       have GLT : Aside0 (gl < wr.heap.size) := ⟨own_lt S8.out.long gl rfl⟩
       have hi16 : i < 64 := by omega
       have hil : (i : Int) < (ls.length : Int) := by have := LI.out.1; omega
       clear hv2 l2 r2
       go_wp2
       go_region_law (first
        | (go_simp; go_at_call 41; refine (mark17_calls i hi16 _).mono ?_; rintro e w4 ⟨rfl, hb⟩; have k2 := (hb.cell (p := ⟨gl, i, none⟩) GLT.out).trans p2; have k3 := (hb.frozen (p := ⟨gl, i, none⟩) GLT.out).trans p3; have k4 := ((below_alloc (Below.refl w4.heap.size w4) (.cells #[.string (markS i)] 9)).cell (p := ⟨gl, i, none⟩) (Nat.lt_of_lt_of_le GLT.out hb.size)).trans k2; have HB := Aside0.mk (below_drew hb); clear hb)
        | (refine step_marks (w0 := w) (W := w4) (fun k => B ≤ k) rfl (.tmp 61) (.tmp 64) 22 9 rfl Tryd.underlying22 infoS (.slice A2 z.length c2) z [markS i] rfl #[.string (markS i)] rfl 1 1 rfl rfl (OV.out.below HB.out) LOW.out (Bl.of_below' (S8.out.below HB.out).bel (fun _ h => h)) (fun k hk => Nat.le_trans (S8.out.below HB.out).ge hk) (by have := ZL.out; simp; omega) ?_; intro v5 w5 ho hk hW hgr hat keep; obtain ⟨A5, n5, d5, rfl⟩ := ho.form3; have SG := Aside0.mk ((S8.out.below HB.out).grow HV2.out ZI.out ho hk hat hgr (hW.below S8.out.le (fun _ h => h)) keep GB.out); have q2 := (SG.out.1.cell HV2.out).1; have q3 := (SG.out.1.cell HV2.out).2; clear ho hk hW hgr hat keep))
       all_goals
        clear k2 k3 k4 q2 q3
        have L2 : Aside0 (i < ls.length ∧ i < zs.length) := LI
        clear S8 OV LOW HV2
        go_wp2
        go_roundg (16 - (j + 1))
        case measure => omega
        case rel => exact ⟨j + 1, by omega, by omega, by go_num, _, _, z ++ [markS i], ⟨List.getElem?_set_self L2.out.2⟩, ⟨by have := ZL.out; simp; omega⟩, ⟨by rw [List.length_set, List.length_set]; exact L2.out⟩, ⟨SG.out.2⟩⟩
      ·have hljz : ¬ (j : Int) < 16 := by omega
       go_wp2
       go_roundg (vs.length - (i + 1))
       case measure => omega
       case rel => exact ⟨i + 1, by omega, by omega, by go_num, ls, zs, S8⟩
    ·have hltz : ¬ (i : Int) < (vs.length : Int) := by omega
     obtain rfl : i = vs.length := by omega
     clear hlt hi hg
     go_wp2
     go_loopg [8] vs.length (fun gg s8 wz => ∃ i : Nat, i ≤ vs.length ∧ vs.length - i ≤ gg ∧ s8 = .int .i64 i ∧ Aside0 (Sit B gl ga ca vs.length w wz vs ls ys zs))
     case atStart => exact ⟨0, by omega, by omega, rfl, S6⟩
     case round =>
      clear S6
      obtain ⟨i, hi, hg, rfl, S6⟩ := hrel
      by_cases hlt : i < vs.length
      ·have hltz : (i : Int) < (vs.length : Int) := by omega
       have hi16 : i < 64 := by omega
       obtain ⟨v1, hv1⟩ : ∃ u, vs[i]? = some u := ⟨_, List.getElem?_eq_getElem hlt⟩
       obtain ⟨x, hx⟩ := getElem?_some_of S6.out.fam.l2 hv1
       have OV := S6.out.fam.row i _ x hv1 hx
       obtain ⟨A1, c1, rfl, l1, r1⟩ := OV.reads
       have OV := Aside0.mk OV
       have LOW := Aside0.mk (fun k => S6.out.fam.low i _ k (.inl hv1))
       have p1 := (S6.out.all.cell hv1).1
       have HV1 := Aside0.mk hv1
       have HX1 := Aside0.mk hx
       have XL : Aside0 (x.length ≤ 4294967000) := ⟨X4.out x (List.mem_of_getElem? hx)⟩
       have MX : Aside0 (∀ q ∈ x, q = markS i) := ⟨S6.out.fx i x hlt hx⟩
       have GAL : Aside0 (ga < wr.heap.size) := ⟨own_lt S6.out.all ga rfl⟩
       have HB : Aside0 (Below wr.heap.size wr wr.drew) := ⟨(Below.refl _ _).drew⟩
       clear hv1 hx l1 r1
       go_upto_region 20 with (fail)
       go_cut [9] (fun s9 wx => ∃ (A5 : Option Addr) (c5 : Nat) (y : List ByteArray), s9 = .slice A5 y.length c5 ∧ Aside0 (∀ q ∈ y, q = markS i) ∧ Aside0 (OS 9 wx (.slice A5 y.length c5) y) ∧ Aside0 (y.length ≤ 4294967300) ∧ Aside0 (Sit B gl ga ca vs.length w wx vs ls ys zs))
       case first =>
        go_region_held3 (fun w' => w'.cell? ⟨ga, i, none⟩ = some (.slice A1 x.length c1)) (go_keep) (first
         | (go_at_call 41; refine (mark17_calls i hi16 _).mono ?_; rintro e w4 ⟨rfl, hb⟩; have HB := Aside0.mk (HB.out.trans (hb.mono HB.out.size)); clear hb; have k2 := (HB.out.cell (p := ⟨ga, i, none⟩) GAL.out).trans p1; have k4 := ((below_alloc (Below.refl w4.heap.size w4) (.cells #[.string (markS i), .string (markS i), .string (markS i), .string (markS i), .string (markS i), .string (markS i), .string (markS i), .string (markS i)] 9)).cell (p := ⟨ga, i, none⟩) (Nat.lt_of_lt_of_le GAL.out HB.out.size)).trans k2)
         | (refine step_marks (w0 := w) (W := w4) (fun k => B ≤ k) rfl (.tmp 76) (.tmp 93) 22 9 rfl Tryd.underlying22 infoS (.slice A1 x.length c1) x [markS i, markS i, markS i, markS i, markS i, markS i, markS i, markS i] rfl #[.string (markS i), .string (markS i), .string (markS i), .string (markS i), .string (markS i), .string (markS i), .string (markS i), .string (markS i)] rfl 8 8 rfl rfl (OV.out.below HB.out) LOW.out (Bl.of_below' (S6.out.below HB.out).bel (fun _ h => h)) (fun k hk => Nat.le_trans (S6.out.below HB.out).ge hk) (by have := XL.out; simp; omega) ?_; intro v5 w5 ho hk hW hgr hat keep; obtain ⟨y, hy⟩ : ∃ y, y = x ++ [markS i, markS i, markS i, markS i, markS i, markS i, markS i, markS i] := ⟨_, rfl⟩; rw [← hy] at ho; have MY : Aside0 (∀ q ∈ y, q = markS i) := ⟨by rw [hy]; intro q hq; rcases List.mem_append.1 hq with hq | hq; exact MX.out q hq; simpa using hq⟩; obtain ⟨A5, c5, rfl, l5, r5⟩ := ho.reads; have SG := Aside0.mk ((S6.out.below HB.out).keep HV1.out HX1.out (by intro q hq; simpa using hq) hgr (hW.below S6.out.le (fun _ h => h)) keep); have O5 := Aside0.mk ho; have YL : Aside0 (y.length ≤ 4294967300) := ⟨by rw [hy]; have := XL.out; simp; omega⟩; have k5 := (SG.out.all.cell HV1.out).1; clear ho hk hW hgr hat keep hy l5 r5))
        all_goals
         clear k2 k4 k5 HB OV LOW HV1 HX1 XL MX S6 p1
         go_wp2_with fail
         go_meet
         exact ⟨A5, c5, y, rfl, MY, O5, YL, SG⟩
       case rest =>
        obtain ⟨A5, c5, y, rfl, MY, O5, YL, SG⟩ := hcut
        clear HB OV LOW HV1 HX1 XL MX S6 p1
        have hyl : y.length ≤ 4294967300 := YL.out
        go_wp2
        go_loopg [10] y.length (fun gg s10 wz => ∃ j : Nat, j ≤ y.length ∧ y.length - j ≤ gg ∧ s10 = .int .i64 j ∧ Aside0 (OS 9 wz (.slice A5 y.length c5) y) ∧ Aside0 (Sit B gl ga ca vs.length w wz vs ls ys zs))
        case atStart => exact ⟨0, by omega, by omega, by first | rfl | go_num, O5, SG⟩
        case round =>
         clear O5 SG
         obtain ⟨j, hj, hgj, rfl, O5, SG⟩ := hrel
         by_cases hlj : j < y.length
         ·have hljz : (j : Int) < (y.length : Int) := by omega
          obtain ⟨g5, c5', e1, hg5⟩ := OS.form O5.out (by omega)
          injection e1 with e1 e2 e3
          subst e1
          clear e2 e3
          have p1 := OS.cellM O5.out MY.out j hlj
          have GAL : Aside0 (g5 < wr.heap.size) := ⟨hg5⟩
          have HB : Aside0 (Below wr.heap.size wr wr.drew) := ⟨(Below.refl _ _).drew⟩
          clear hg5
          go_wp2
          go_upto_region 24 with (fail)
          go_cut [107] (fun s107 wx => s107 = .bool false ∧ Aside0 (Below wr.heap.size wr wx))
          case first =>
           go_region_law (first
            | (go_simp; go_at_call 41; refine (mark17_calls i hi16 _).mono ?_; rintro e w4 ⟨rfl, hb⟩; have HB := Aside0.mk (HB.out.trans (hb.mono HB.out.size)); clear hb; have k2 := (HB.out.cell (p := ⟨g5, j, none⟩) GAL.out).trans p1))
           all_goals
            go_wp2_with fail
            go_meet
            exact ⟨by first | rfl | simp, HB⟩
          case rest =>
           obtain ⟨rfl, HX⟩ := hcut
           have O6 := Aside0.mk (O5.out.below HX.out)
           have S6 := Aside0.mk (SG.out.below HX.out)
           clear O5 SG HX HB p1 GAL
           go_wp2
           go_roundg (y.length - (j + 1))
           case measure => omega
           case rel => exact ⟨j + 1, by omega, by omega, by go_num, O6, S6⟩
         ·have hljz : ¬ (j : Int) < (y.length : Int) := by omega
          go_wp2
          go_roundg (vs.length - (i + 1))
          case measure => omega
          case rel => exact ⟨i + 1, by omega, by omega, by go_num, SG⟩
      ·have hltz : ¬ (i : Int) < (vs.length : Int) := by omega
       obtain rfl : i = vs.length := by omega
       clear hlt hi hg
       go_wp2
       go_loopg [11] vs.length (fun gg s11 wz => ∃ i : Nat, i ≤ vs.length ∧ vs.length - i ≤ gg ∧ s11 = .int .i64 i ∧ Aside0 (Sit B gl ga ca vs.length w wz vs ls ys zs))
       case atStart => exact ⟨0, by omega, by omega, by first | rfl | go_num, S6⟩
       case round =>
        clear S6
        obtain ⟨i, hi, hg, rfl, S6⟩ := hrel
        by_cases hlt : i < vs.length
        ·have hltz : (i : Int) < (vs.length : Int) := by omega
         have hi16 : i < 64 := by omega
         obtain ⟨v1, hv1⟩ : ∃ u, vs[i]? = some u := ⟨_, List.getElem?_eq_getElem hlt⟩
         obtain ⟨v2, hv2⟩ : ∃ u, ls[i]? = some u := ⟨_, List.getElem?_eq_getElem (by have := S6.out.fam.l1; omega)⟩
         obtain ⟨x, hx⟩ := getElem?_some_of S6.out.fam.l2 hv1
         obtain ⟨z, hz⟩ : ∃ u, zs[i]? = some u := ⟨_, List.getElem?_eq_getElem (by have := S6.out.fam.l3; omega)⟩
         have OV := S6.out.fam.row i _ x hv1 hx
         have OL := S6.out.fam.long i _ z hv2 hz
         obtain ⟨A1, c1, rfl, l1, r1⟩ := OV.reads
         obtain ⟨A2, c2, rfl, l2, r2⟩ := OL.reads
         have HV1 := Aside0.mk hv1
         have HV2 := Aside0.mk hv2
         have HX1 := Aside0.mk hx
         have HZ1 := Aside0.mk hz
         have MX : Aside0 (∀ q ∈ x, q = markS i) := ⟨S6.out.fx i x hlt hx⟩
         have MZ : Aside0 (∀ q ∈ z, q = markS i) := ⟨S6.out.fz i z hlt hz⟩
         have hxl : x.length ≤ 9223372036854775807 := r1.2.1
         have hzl : z.length ≤ 9223372036854775807 := r2.2.1
         have hil : (i : Int) < (ls.length : Int) := by have := S6.out.fam.l1; omega
         clear hv1 hv2 hx hz l1 r1 l2 r2 OV OL
         go_wp2
         go_loopg [12] z.length (fun gg s12 wz => ∃ j : Nat, j ≤ z.length ∧ z.length - j ≤ gg ∧ s12 = .int .i64 j ∧ Aside0 (Sit B gl ga ca vs.length w wz vs ls ys zs))
         case atStart => exact ⟨0, by omega, by omega, by first | rfl | go_num, S6⟩
         case round =>
          clear S6
          obtain ⟨j, hj, hgj, rfl, SG⟩ := hrel
          have p1 := (SG.out.all.cell HV1.out).1
          have p2 := (SG.out.long.cell HV2.out).1
          by_cases hlj : j < z.length
          ·have hljz : (j : Int) < (z.length : Int) := by omega
           have OL := SG.out.fam.long i _ z HV2.out HZ1.out
           have OV := SG.out.fam.row i _ x HV1.out HX1.out
           obtain ⟨g2, c2', e1, hg2⟩ := OS.form OL (by omega)
           injection e1 with e1 e2 e3
           subst e1
           clear e2 e3
           have p3 := OS.cellM OL MZ.out j hlj
           have GAL : Aside0 (ga < wr.heap.size ∧ gl < wr.heap.size ∧ g2 < wr.heap.size) := ⟨own_lt SG.out.all ga rfl, own_lt SG.out.long gl rfl, hg2⟩
           have HB : Aside0 (Below wr.heap.size wr wr.drew) := ⟨(Below.refl _ _).drew⟩
           by_cases hlx : j < x.length
           ·have hlxz : (j : Int) < (x.length : Int) := by omega
            obtain ⟨g1, c1', e1, hg1⟩ := OS.form OV (by omega)
            injection e1 with e1 e2 e3
            subst e1
            clear e2 e3
            have p4 := OS.cellM OV MX.out j hlx
            have GA1 : Aside0 (g1 < wr.heap.size) := ⟨hg1⟩
            clear hg1 hg2 OL OV
            go_wp2
            go_upto_region 32 with (fail)
            go_cut [153] (fun s153 wx => s153 = .bool false ∧ Aside0 (Below wr.heap.size wr wx))
            case first =>
             go_region_held3 (fun w' => w'.cell? ⟨ga, i, none⟩ = some (.slice (some ⟨g1, 0, none⟩) x.length c1) ∧ w'.cell? ⟨gl, i, none⟩ = some (.slice (some ⟨g2, 0, none⟩) z.length c2) ∧ w'.cell? ⟨g2, j, none⟩ = some (.string (markS i)) ∧ w'.cell? ⟨g1, j, none⟩ = some (.string (markS i))) (go_keep)
              (first | (go_at_call 41; refine (mark17_calls i hi16 _).mono ?_; rintro e w4 ⟨rfl, hb⟩; have HB := Aside0.mk (HB.out.trans (hb.mono HB.out.size)); clear hb; have k1 := (HB.out.cell (p := ⟨ga, i, none⟩) GAL.out.1).trans p1; have k2 := (HB.out.cell (p := ⟨gl, i, none⟩) GAL.out.2.1).trans p2; have k3 := (HB.out.cell (p := ⟨g2, j, none⟩) GAL.out.2.2).trans p3; have k4 := (HB.out.cell (p := ⟨g1, j, none⟩) GA1.out).trans p4))
             all_goals
              go_wp2_with fail
              go_meet
              exact ⟨by first | rfl | simp, HB⟩
            case rest =>
             obtain ⟨rfl, HX⟩ := hcut
             have S6 := Aside0.mk (SG.out.below HX.out)
             clear SG HX HB p1 p2 p3 p4 GAL GA1
             go_wp2
             go_roundg (z.length - (j + 1))
             case measure => omega
             case rel => exact ⟨j + 1, by omega, by omega, by go_num, S6⟩
           ·have hlxz : ¬ (j : Int) < (x.length : Int) := by omega
            have hlxd : decide ((j : Int) < (x.length : Int)) = false := decide_eq_false hlxz
            have hlxe : decide (j < x.length) = false := decide_eq_false hlx
            clear hg2 OL OV
            go_wp2
            go_upto_region 32 with (fail)
            go_cut [153] (fun s153 wx => s153 = .bool false ∧ Aside0 (Below wr.heap.size wr wx))
            case first =>
             refine start_ (n := 31) (S := fun w' => w'.cell? ⟨ga, i, none⟩ = some (.slice A1 x.length c1) ∧ w'.cell? ⟨gl, i, none⟩ = some (.slice (some ⟨g2, 0, none⟩) z.length c2) ∧ w'.cell? ⟨g2, j, none⟩ = some (.string (markS i))) (ds := []) (lb 31 0) (by kernel_rfl) rfl rfl ⟨p1, p2, p3⟩ (fun hHeld => ?_); refine with_tabW ProfFW.tab32 ProfFW.bits32 (fun HT_ HW_ => ?_)
             refine pure_ (i := 0) (N := some 123) (v := ?_) (a' := ?_) (lb 31 1) rfl rfl (any_of HT_.out (by kernel_rfl)) (fun _ _ _ h => h) (Or.inl ⟨by rfl, ?_⟩) ?_ ?_
             rotate_left
             ·intro w'
              go_simp
              with_reducible rfl
             rotate_left
             ·simp only [Act.put, List.setIfInBounds_toArray, List.set_cons_zero, List.set_cons_succ]
              rfl
             refine pure_ (i := 1) (N := some 124) (v := ?_) (a' := ?_) (lb 31 3) rfl rfl (any_of HT_.out (by kernel_rfl)) (fun _ _ _ h => h) (Or.inl ⟨by rfl, ?_⟩) ?_ ?_
             rotate_left
             ·intro w'
              go_simp
              with_reducible rfl
             rotate_left
             ·simp only [Act.put, List.setIfInBounds_toArray, List.set_cons_zero, List.set_cons_succ]
              rfl
             refine pure_ (i := 2) (N := some 125) (v := ?_) (a' := ?_) (lb 31 7) rfl rfl (any_of HT_.out (by kernel_rfl)) (fun _ _ _ h => h) (Or.inl ⟨by rfl, ?_⟩) ?_ ?_
             rotate_left
             ·intro w'
              go_simp
              with_reducible rfl
             rotate_left
             ·simp only [Act.put, List.setIfInBounds_toArray, List.set_cons_zero, List.set_cons_succ]
              rfl
             refine pure_ (i := 4) (N := some 127) (v := ?_) (a' := ?_) (lb 31 23) rfl rfl (any_of HT_.out (by kernel_rfl)) (fun _ _ _ h => h) (Or.inl ⟨by rfl, ?_⟩) ?_ ?_
             rotate_left
             ·intro w'
              go_simp
              with_reducible rfl
             rotate_left
             ·simp only [Act.put, List.setIfInBounds_toArray, List.set_cons_zero, List.set_cons_succ]
              rfl
             refine pure_ (i := 7) (N := some 130) (v := ?_) (a' := ?_) (lb 31 151) rfl rfl (any_of HT_.out (by kernel_rfl)) (fun _ _ _ h => h) (Or.inl ⟨by rfl, ?_⟩) ?_ ?_
             rotate_left
             ·intro w'
              go_simp
              with_reducible rfl
             rotate_left
             ·simp only [Act.put, List.setIfInBounds_toArray, List.set_cons_zero, List.set_cons_succ]
              rfl
             refine take_ (i := 3) (N := some 126) (v := ?_) (a' := ?_) (lb 31 159) rfl rfl (take_ofW HT_.out HW_.out (by kernel_rfl)) (fun _ _ _ h => h) (Or.inl ⟨by rfl, ?_⟩) hHeld ?_ ?_
             rotate_left
             ·rintro w' ⟨s0, s1, s2⟩
              go_simp
              with_reducible rfl
             rotate_left
             ·simp only [Act.put, List.setIfInBounds_toArray, List.set_cons_zero, List.set_cons_succ]
              rfl
             refine pure_ (i := 5) (N := some 128) (v := ?_) (a' := ?_) (lb 31 191) rfl rfl (any_of HT_.out (by kernel_rfl)) (fun _ _ _ h => h) (Or.inl ⟨by rfl, ?_⟩) ?_ ?_
             rotate_left
             ·intro w'
              go_simp
              with_reducible rfl
             rotate_left
             ·simp only [Act.put, List.setIfInBounds_toArray, List.set_cons_zero, List.set_cons_succ]
              rfl
             refine take_ (i := 6) (N := some 129) (v := ?_) (a' := ?_) (lb 31 255) rfl rfl (take_ofW HT_.out HW_.out (by kernel_rfl)) (fun _ _ _ h => h) (Or.inl ⟨by rfl, ?_⟩) hHeld ?_ ?_
             rotate_left
             ·rintro w' ⟨s0, s1, s2⟩
              go_simp
              with_reducible rfl
             rotate_left
             ·simp only [Act.put, List.setIfInBounds_toArray, List.set_cons_zero, List.set_cons_succ]
              rfl
             refine one_ (i := 8) (N := some 131) (lb 31 511) rfl rfl (one_of HT_.out (by kernel_rfl)) (by decide) (fun K hK => ?_)
             refine goes_ Tryd.func41 (by kernel_rfl) rfl #[.int .i64 i] (by rfl) rfl rfl (by (try simp only [List.map_toArray, List.map_cons, List.map_nil]); first | done | rfl) ?_
             refine (mark17_calls i hi16 _).mono ?_
             rintro e w4 ⟨rfl, hb⟩
             have HB := Aside0.mk (below_drew hb)
             refine ⟨_, rfl, ?_⟩
             clear hb
             refine hK.out _ _ ⟨(HB.out.cell (p := ⟨ga, i, none⟩) GAL.out.1).trans p1, (HB.out.cell (p := ⟨gl, i, none⟩) GAL.out.2.1).trans p2, (HB.out.cell (p := ⟨g2, j, none⟩) GAL.out.2.2).trans p3⟩ (fun hHeld => ?_)
             clear hK K
             refine norm_ (a' := ?_) ?_ ?_
             rotate_left
             ·show Act.put _ (some 131) _ = _
              simp only [Act.put, List.setIfInBounds_toArray, List.set_cons_zero, List.set_cons_succ]
              rfl
             refine pure_ (i := 9) (N := some 132) (v := ?_) (a' := ?_) (lb 31 1023) rfl rfl (any_of HT_.out (by kernel_rfl)) (fun _ _ _ h => h) (Or.inl ⟨by rfl, ?_⟩) ?_ ?_
             rotate_left
             ·intro w'
              go_simp
              with_reducible rfl
             rotate_left
             ·simp only [Act.put, List.setIfInBounds_toArray, List.set_cons_zero, List.set_cons_succ]
              rfl
             refine pure_ (i := 10) (N := some 133) (v := ?_) (a' := ?_) (lb 31 2047) rfl rfl (any_of HT_.out (by kernel_rfl)) (fun _ _ _ h => h) (Or.inl ⟨by rfl, ?_⟩) ?_ ?_
             rotate_left
             ·intro w'
              go_simp
              with_reducible rfl
             rotate_left
             ·simp only [Act.put, List.setIfInBounds_toArray, List.set_cons_zero, List.set_cons_succ]
              rfl
             refine pure_ (i := 11) (N := some 134) (v := ?_) (a' := ?_) (lb 31 4095) rfl rfl (any_of HT_.out (by kernel_rfl)) (fun _ _ _ h => h) (Or.inl ⟨by rfl, ?_⟩) ?_ ?_
             rotate_left
             ·intro w'
              go_simp
              with_reducible rfl
             rotate_left
             ·simp only [Act.put, List.setIfInBounds_toArray, List.set_cons_zero, List.set_cons_succ]
              rfl
             refine pure_ (i := 12) (N := some 135) (v := ?_) (a' := ?_) (lb 31 8191) rfl rfl (any_of HT_.out (by kernel_rfl)) (fun _ _ _ h => h) (Or.inl ⟨by rfl, ?_⟩) ?_ ?_
             rotate_left
             ·intro w'
              go_simp
              with_reducible rfl
             rotate_left
             ·simp only [Act.put, List.setIfInBounds_toArray, List.set_cons_zero, List.set_cons_succ]
              rfl
             refine pure_ (i := 13) (N := some 136) (v := ?_) (a' := ?_) (lb 31 16383) rfl rfl (any_of HT_.out (by kernel_rfl)) (fun _ _ _ h => h) (Or.inl ⟨by rfl, ?_⟩) ?_ ?_
             rotate_left
             ·intro w'
              go_simp
              with_reducible rfl
             rotate_left
             ·simp only [Act.put, List.setIfInBounds_toArray, List.set_cons_zero, List.set_cons_succ]
              rfl
             refine pure_ (i := 14) (N := some 137) (v := ?_) (a' := ?_) (lb 31 32767) rfl rfl (any_of HT_.out (by kernel_rfl)) (fun _ _ _ h => h) (Or.inl ⟨by rfl, ?_⟩) ?_ ?_
             rotate_left
             ·intro w'
              go_simp
              with_reducible rfl
             rotate_left
             ·simp only [Act.put, List.setIfInBounds_toArray, List.set_cons_zero, List.set_cons_succ]
              rfl
             refine take_ (i := 15) (N := some 138) (v := ?_) (a' := ?_) (lb 31 65535) rfl rfl (take_ofW HT_.out HW_.out (by kernel_rfl)) (fun _ _ _ h => h) (Or.inl ⟨by rfl, ?_⟩) hHeld ?_ ?_
             rotate_left
             ·rintro w' ⟨s0, s1, s2⟩
              go_simp
              with_reducible rfl
             rotate_left
             ·simp only [Act.put, List.setIfInBounds_toArray, List.set_cons_zero, List.set_cons_succ]
              rfl
             refine pure_ (i := 16) (N := some 139) (v := ?_) (a' := ?_) (lb 31 131071) rfl rfl (any_of HT_.out (by kernel_rfl)) (fun _ _ _ h => h) (Or.inl ⟨by rfl, ?_⟩) ?_ ?_
             rotate_left
             ·intro w'
              go_simp
              with_reducible rfl
             rotate_left
             ·simp only [Act.put, List.setIfInBounds_toArray, List.set_cons_zero, List.set_cons_succ]
              rfl
             refine pure_ (i := 17) (N := some 140) (v := ?_) (a' := ?_) (lb 31 262143) rfl rfl (any_of HT_.out (by kernel_rfl)) (fun _ _ _ h => h) (Or.inl ⟨by rfl, ?_⟩) ?_ ?_
             rotate_left
             ·intro w'
              go_simp
              with_reducible rfl
             rotate_left
             ·simp only [Act.put, List.setIfInBounds_toArray, List.set_cons_zero, List.set_cons_succ]
              rfl
             refine pure_ (i := 18) (N := some 141) (v := ?_) (a' := ?_) (lb 31 524287) rfl rfl (any_of HT_.out (by kernel_rfl)) (fun _ _ _ h => h) (Or.inl ⟨by rfl, ?_⟩) ?_ ?_
             rotate_left
             ·intro w'
              go_simp
              with_reducible rfl
             rotate_left
             ·simp only [Act.put, List.setIfInBounds_toArray, List.set_cons_zero, List.set_cons_succ]
              rfl
             refine pure_ (i := 19) (N := some 142) (v := undef) (a' := ?_) (lb 31 1048575) rfl rfl (any_of HT_.out (by kernel_rfl)) (fun _ _ _ h => h) (Or.inr ⟨by rfl, rfl⟩) ?_ ?_
             rotate_left
             ·simp only [Act.put, List.setIfInBounds_toArray, List.set_cons_zero, List.set_cons_succ]
              rfl
             refine pure_ (i := 20) (N := some 143) (v := undef) (a' := ?_) (lb 31 2097151) rfl rfl (any_of HT_.out (by kernel_rfl)) (fun _ _ _ h => h) (Or.inr ⟨by rfl, rfl⟩) ?_ ?_
             rotate_left
             ·simp only [Act.put, List.setIfInBounds_toArray, List.set_cons_zero, List.set_cons_succ]
              rfl
             refine pure_ (i := 21) (N := some 144) (v := undef) (a' := ?_) (lb 31 4194303) rfl rfl (any_of HT_.out (by kernel_rfl)) (fun _ _ _ h => h) (Or.inr ⟨by rfl, rfl⟩) ?_ ?_
             rotate_left
             ·simp only [Act.put, List.setIfInBounds_toArray, List.set_cons_zero, List.set_cons_succ]
              rfl
             refine pure_ (i := 22) (N := some 145) (v := undef) (a' := ?_) (lb 31 8388607) rfl rfl (any_of HT_.out (by kernel_rfl)) (fun _ _ _ h => h) (Or.inr ⟨by rfl, rfl⟩) ?_ ?_
             rotate_left
             ·simp only [Act.put, List.setIfInBounds_toArray, List.set_cons_zero, List.set_cons_succ]
              rfl
             refine pure_ (i := 23) (N := some 146) (v := undef) (a' := ?_) (lb 31 16777215) rfl rfl (any_of HT_.out (by kernel_rfl)) (fun _ _ _ h => h) (Or.inr ⟨by rfl, rfl⟩) ?_ ?_
             rotate_left
             ·simp only [Act.put, List.setIfInBounds_toArray, List.set_cons_zero, List.set_cons_succ]
              rfl
             refine pure_ (i := 24) (N := some 147) (v := undef) (a' := ?_) (lb 31 33554431) rfl rfl (any_of HT_.out (by kernel_rfl)) (fun _ _ _ h => h) (Or.inr ⟨by rfl, rfl⟩) ?_ ?_
             rotate_left
             ·simp only [Act.put, List.setIfInBounds_toArray, List.set_cons_zero, List.set_cons_succ]
              rfl
             refine pure_ (i := 25) (N := some 148) (v := undef) (a' := ?_) (lb 31 67108863) rfl rfl (any_of HT_.out (by kernel_rfl)) (fun _ _ _ h => h) (Or.inr ⟨by rfl, rfl⟩) ?_ ?_
             rotate_left
             ·simp only [Act.put, List.setIfInBounds_toArray, List.set_cons_zero, List.set_cons_succ]
              rfl
             refine pure_ (i := 26) (N := some 149) (v := undef) (a' := ?_) (lb 31 134217727) rfl rfl (any_of HT_.out (by kernel_rfl)) (fun _ _ _ h => h) (Or.inr ⟨by rfl, rfl⟩) ?_ ?_
             rotate_left
             ·simp only [Act.put, List.setIfInBounds_toArray, List.set_cons_zero, List.set_cons_succ]
              rfl
             refine pure_ (i := 27) (N := some 150) (v := undef) (a' := ?_) (lb 31 268435455) rfl rfl (any_of HT_.out (by kernel_rfl)) (fun _ _ _ h => h) (Or.inr ⟨by rfl, rfl⟩) ?_ ?_
             rotate_left
             ·simp only [Act.put, List.setIfInBounds_toArray, List.set_cons_zero, List.set_cons_succ]
              rfl
             refine pure_ (i := 28) (N := some 151) (v := undef) (a' := ?_) (lb 31 536870911) rfl rfl (any_of HT_.out (by kernel_rfl)) (fun _ _ _ h => h) (Or.inr ⟨by rfl, rfl⟩) ?_ ?_
             rotate_left
             ·simp only [Act.put, List.setIfInBounds_toArray, List.set_cons_zero, List.set_cons_succ]
              rfl
             refine pure_ (i := 29) (N := some 152) (v := ?_) (a' := ?_) (lb 31 1073741823) rfl rfl (any_of HT_.out (by kernel_rfl)) (fun _ _ _ h => h) (Or.inl ⟨by rfl, ?_⟩) ?_ ?_
             rotate_left
             ·intro w'
              go_simp
              with_reducible rfl
             rotate_left
             ·simp only [Act.put, List.setIfInBounds_toArray, List.set_cons_zero, List.set_cons_succ]
              rfl
             refine pure_ (i := 30) (N := some 153) (v := ?_) (a' := ?_) (lb 31 2147483647) rfl rfl (any_of HT_.out (by kernel_rfl)) (fun _ _ _ h => h) (Or.inl ⟨by rfl, ?_⟩) ?_ ?_
             rotate_left
             ·intro w'
              go_simp
              with_reducible rfl
             rotate_left
             ·simp only [Act.put, List.setIfInBounds_toArray, List.set_cons_zero, List.set_cons_succ]
              rfl
             refine done_ (done_of HT_.out (by kernel_rfl)) ?_
             go_wp2_with fail
             go_meet
             exact ⟨by first | rfl | simp, HB⟩
            case rest =>
             obtain ⟨rfl, HX⟩ := hcut
             have S6 := Aside0.mk (SG.out.below HX.out)
             clear SG HX HB p1 p2 p3 GAL
             go_wp2
             go_roundg (z.length - (j + 1))
             case measure => omega
             case rel => exact ⟨j + 1, by omega, by omega, by go_num, S6⟩
          ·have hljz : ¬ (j : Int) < (z.length : Int) := by omega
           obtain rfl : j = z.length := by omega
           go_wp2
           go_roundg (vs.length - (i + 1))
           case measure => omega
           case rel => exact ⟨i + 1, by omega, by omega, by go_num, SG⟩
        ·have hltz : ¬ (i : Int) < (vs.length : Int) := by omega
         obtain rfl : i = vs.length := by omega
         go_wp2
         go_ret
         exact ⟨rfl, S6.out.bel⟩
end Go.Proofs.YtehfogjibhnabaaDoor.PAll
namespace Go.Proofs.YtehfogjibhnabaaDoor.PAll
open Go.RowKit Go.Proofs.YtehfogjibhnabaaDoorW.PrintWords Go.Proofs.YtehfogjibhnabaaDoorW.PrintLast Go.Proofs.YtehfogjibhnabaaDoorW.PrintMore
open Go.Proofs.YtehfogjibhnabaaDoor.Sp
theorem OS.front {w : World} {g n c : Nat} {l r : List ByteArray} (h : OS 9 w (.slice (some ⟨g, 0, none⟩) n c) (l ++ r)) : Kd.C Kd.string w (some ⟨g, 0, none⟩) l.length l ∧ l.length ≤ c := by
 obtain ⟨A, c', e, h1, h2⟩ := h.reads
 injection e with e1 e2 e3
 subst e1 e3
 have h3 := (Kd.reads_of_C (d := ByteArray.empty) h2).take_ l.length (by simp)
 rw [List.take_left' rfl] at h3
 exact ⟨Kd.C_of_reads h3, by simp at h1; omega⟩
theorem lit_R0 (w : World) : Kd.R Kd.string 9 (w.alloc (.cells #[] 9)) w.heap.size (fun _ => True) (.slice (some ⟨w.heap.size, 0, none⟩) 0 0) [] :=
 Kd.R_of_own (World.ownsRow_made (size := 1) w #[] 0 (Nat.le_refl _) (by decide) rfl) (fun _ _ => trivial)
theorem room_of {w3 : World} {v3 : Value} {l : List ByteArray} (ho : OS 9 w3 v3 (l ++ [⟨#[111, 110, 101]⟩, ⟨#[116, 119, 111]⟩])) :
  ∃ (rm : List ByteArray) (g c3 : Nat), v3 = .slice (some ⟨g, 0, none⟩) rm.length c3 ∧ rm.length = l.length + 2 ∧ rm = l ++ [⟨#[111, 110, 101]⟩, ⟨#[116, 119, 111]⟩] ∧ OS 9 w3 (.slice (some ⟨g, 0, none⟩) rm.length c3) rm ∧ g < w3.heap.size ∧ l.length ≤ c3 := by
 obtain ⟨g, c3, rfl, hg⟩ := ho.form (by simp)
 exact ⟨_, g, c3, rfl, by simp, rfl, ho, hg, ho.front.2⟩
theorem fam4 {B n1 n2 n3 : Nat} {w : World} {va vb vc vd : Value} {xa xb xc xd : List ByteArray} (oa : OS 9 w va xa) (ob : OS 9 w vb xb) (oc : OS 9 w vc xc) (od : OS 9 w vd xd)
  (ka : ∀ k, va.ownBlock = some k → B ≤ k ∧ k < n1) (kb : ∀ k, vb.ownBlock = some k → n1 ≤ k ∧ k < n2) (kc : ∀ k, vc.ownBlock = some k → n2 ≤ k ∧ k < n3) (kd : ∀ k, vd.ownBlock = some k → n3 ≤ k) (h1 : B ≤ n1) (h2 : n1 ≤ n2) (h3 : n2 ≤ n3) :
  Fam B w [va, vb, vc, vd] (List.replicate [va, vb, vc, vd].length (.slice none 0 0)) [xa, xb, xc, xd] (List.replicate [va, vb, vc, vd].length []) := by
 have hin : ∀ (q : Nat) (u : Value) (k : Nat), ([va, vb, vc, vd][q]? = some u ∨ (List.replicate [va, vb, vc, vd].length (Value.slice none 0 0))[q]? = some u) → u.ownBlock = some k → (q = 0 ∧ B ≤ k ∧ k < n1) ∨ (q = 1 ∧ n1 ≤ k ∧ k < n2) ∨ (q = 2 ∧ n2 ≤ k ∧ k < n3) ∨ (q = 3 ∧ n3 ≤ k) := by
  intro q u k hu hk
  rcases hu with hu | hu
  ·rcases q with _ | _ | _ | _ | q
   ·obtain rfl := Option.some.inj hu; exact .inl ⟨rfl, ka k hk⟩
   ·obtain rfl := Option.some.inj hu; exact .inr (.inl ⟨rfl, kb k hk⟩)
   ·obtain rfl := Option.some.inj hu; exact .inr (.inr (.inl ⟨rfl, kc k hk⟩))
   ·obtain rfl := Option.some.inj hu; exact .inr (.inr (.inr ⟨rfl, kd k hk⟩))
   ·simp at hu
  ·rw [repl_none hu] at hk
   simp [Value.ownBlock] at hk
 refine ⟨by simp, rfl, by simp, fun q v x hv hx => ?_, fun q v x hv hx => ?_, fun q r u v k hqr hu hv hk1 hk2 => ?_, fun q u k hu hk => ?_⟩
 ·rcases q with _ | _ | _ | _ | q
  ·obtain rfl := Option.some.inj hv; obtain rfl := Option.some.inj hx; exact oa
  ·obtain rfl := Option.some.inj hv; obtain rfl := Option.some.inj hx; exact ob
  ·obtain rfl := Option.some.inj hv; obtain rfl := Option.some.inj hx; exact oc
  ·obtain rfl := Option.some.inj hv; obtain rfl := Option.some.inj hx; exact od
  ·simp at hv
 ·rw [repl_none hv, repl_nil hx]
  exact World.ownsRow_nil _ _ _ _
 ·have a1 := hin q u k hu hk1
  have a2 := hin r v k hv hk2
  omega
 ·have := hin q u k hu hk
  omega
theorem writeR_err {k : List ByteArray} {t : ByteArray} {e : Int} (h : writeR k = (t, e)) (he : e ≠ 0) : t = ⟨#[]⟩ := by
 unfold writeR at h
 split at h
 ·unfold writeS at h
  split at h
  ·exact (Prod.mk.inj h).1.symm
  ·exact absurd (Prod.mk.inj h).2.symm he
 ·exact (Prod.mk.inj h).1.symm
set_option maxHeartbeats 16000000 in
set_option maxRecDepth 100000 in
theorem ProfileFresh_calls (A0 : Option Addr) (c0 : Nat) (l : List ByteArray) (s : ByteArray) (w : World) (hr0 : Kd.C Kd.string w A0 l.length l) (hc0 : l.length ≤ c0) (hl : l.length ≤ 1048576) (hf : ∀ p ∈ l, p.size ≤ 1073741823) :
  Calls Tryd.prog 5 #[.slice A0 l.length c0, .string s] w fun e w' => e = .returned (.bool true) ∧ Below w.heap.size w w' := by
 obtain ⟨kw, hw⟩ := Ev.rounds (progWrite l hl fun p hp => by have := hf p hp; omega)
 obtain ⟨kk, hk⟩ := Ev.rounds known17
 obtain ⟨ks, hs⟩ := Ev.rounds (same17 l (by omega))
 obtain ⟨t, e, hq⟩ : ∃ t e, writeR l = (t, e) := ⟨_, _, rfl⟩
 obtain ⟨kr, hr⟩ := Ev.rounds (progRead t)
 obtain ⟨kz, hz⟩ := Ev.rounds (progRead s)
 have hzl := (readR_bound s).1
 obtain ⟨xs, es, hq2⟩ : ∃ xs es, readR s = (xs, es) := ⟨_, _, rfl⟩
 rw [hq2] at hz hzl
 have HT := Aside0.mk hr
 have HZ := Aside0.mk hz
 have HZL : Aside0 (xs.length ≤ 65537) := ⟨hzl⟩
 rw [hq] at hw
 have HQ := Aside0.mk hq
 have HW := Aside0.mk hw
 have HK := Aside0.mk hk
 have HS := Aside0.mk hs
 have HR0 := Aside0.mk hr0
 have HC0 := Aside0.mk hc0
 have HF := Aside0.mk hf
 clear hr0 hc0 hf hq hw hk hs hr hz hq2 hzl
 go_enter Tryd.func5, Tryd.ntmps5
 go_wp2_with (first
  | ((with_reducible refine gate_builtin (b := .append) (xs := #[.tmp 23, .tmp 24]) rfl ?_); at_builtin; refine Kd.R_append_row Value.string ByteArray.empty (w0 := w) w.heap.size rfl (.tmp 23) (.tmp 24) 22 9 (.string ByteArray.empty) 16 rfl Tryd.underlying22 infoS rfl (by decide) (.slice (some ⟨w.heap.size, 0, none⟩) 0 0) [] l A0 l.length c0 (fun _ => True) rfl rfl (fun _ _ => trivial) (lit_R0 w) (Kd.C_alloc HR0.out _) (below_alloc (Below.refl _ _) _) (by simp) (by simp; omega) ?_; intro v2 w2 ho hb h4 h5; rw [List.nil_append] at ho; obtain ⟨o2, k2⟩ := OS.of_R ho; obtain ⟨A2, n2, d2, rfl⟩ := o2.form3; have O2 := Aside0.mk o2; have K2 := Aside0.mk k2; have B2 := Aside0.mk hb; clear ho hb h4 h5 o2 k2)
  | ((with_reducible refine gate_builtin (b := .append) (xs := #[.tmp 25, .tmp 26]) rfl ?_); at_builtin; refine app_marks (w0 := w) (W := w2) (fun k => w.heap.size ≤ k) rfl (.tmp 25) (.tmp 26) 22 9 rfl Tryd.underlying22 infoS (.slice A2 n2 d2) l [⟨#[111, 110, 101]⟩, ⟨#[116, 119, 111]⟩] rfl #[.string ⟨#[111, 110, 101]⟩, .string ⟨#[116, 119, 111]⟩] rfl 2 2 rfl rfl O2.out K2.out (Bl.of_below' B2.out (fun _ h => h)) (fun k hk => Nat.le_trans B2.out.size hk) (by have h : ([⟨#[111, 110, 101]⟩, ⟨#[116, 119, 111]⟩] : List ByteArray).length = 2 := rfl; omega) ?_; intro v3 w3 ho hk hW hx1 hx2 hx3; clear hx1 hx2 hx3; obtain ⟨rm, g, c3, rfl, r1, r2, r3, r4, r5⟩ := room_of ho; have RL := Aside0.mk r1; have RM := Aside0.mk r2; have O3 := Aside0.mk r3; have G3 := Aside0.mk r4; have K3 := Aside0.mk (hk g rfl); have B3 := Aside0.mk (hW.below (Nat.le_refl _) (fun _ h => h)); have hc3 : (l.length : Int) ≤ (c3 : Int) := Int.ofNat_le.2 r5; have rl1 : (l.length : Int) < (rm.length : Int) := (by omega); have rl2 : (l.length : Int) + 1 < (rm.length : Int) := (by omega); clear ho hk hW r1 r2 r3 r4 r5 O2 K2 B2)
  | fail)
 have FR : Aside0 (∀ W, OS 9 W (.slice (some ⟨g, 0, none⟩) rm.length c3) rm → Kd.C Kd.string W (some ⟨g, 0, none⟩) l.length l ∧ l.length ≤ c3) := ⟨fun W h => by rw [RM.out] at h; exact h.front⟩
 refine (profile_Write.calls kw (some ⟨g, 0, none⟩) c3 l t e _ (FR.out _ O3.out).1 (FR.out _ O3.out).2 HW.out).mono ?_
 rintro e4 w4 ⟨rfl, hb⟩
 have O4 := Aside0.mk (O3.out.below hb)
 have B4 := Aside0.mk (below_then B3.out B3.out.size hb)
 clear hb O3 B3
 go_wp2_with fail
 refine (copselaw17_known.calls kk true _ HK.out).mono ?_
 rintro e5 w5 ⟨rfl, hb⟩
 have O5 := Aside0.mk (O4.out.below hb)
 have B5 := Aside0.mk (below_then B4.out B4.out.size hb)
 clear hb O4 B4
 have HRk := Aside0.mk (Kd.C_below HR0.out B5.out)
 have cells : Aside0 (w5.cell? ⟨g, l.length, none⟩ = some (.string ⟨#[111, 110, 101]⟩) ∧ w5.cell? ⟨g, l.length + 1, none⟩ = some (.string ⟨#[116, 119, 111]⟩)) := ⟨by
  have h := O5.out
  constructor
  ·rw [h.cellAt _ (by have := RL.out; omega), RM.out]; simp
  ·rw [h.cellAt _ (by have := RL.out; omega), RM.out]; simp⟩
 go_wp2_with fail
 refine (copselaw17_same.calls ks (some ⟨g, 0, none⟩) c3 l A0 c0 l true _ (FR.out _ O5.out).1 (FR.out _ O5.out).2 HRk.out HC0.out HS.out).mono ?_
 rintro e6 w6 ⟨rfl, ⟨⟨q6, rfl⟩⟩⟩
 have p1 := cells.out.1
 have p2 := cells.out.2
 have hlz : (l.length : Int) ≤ 1048576 := by omega
 by_cases he : e = 0
 ·subst he
  have RT : Aside0 (profile_Read.f kr t = some (l, 0)) := ⟨by rw [HT.out, read_back HQ.out]⟩
  have O6 := Aside0.mk (O5.out.below (pw_below_drewN (Below.refl w5.heap.size w5) q6))
  have B6 := Aside0.mk (pw_below_drewN B5.out q6)
  have G6 : Aside0 (g < (w5.drewN q6).heap.size) := ⟨own_lt O6.out g rfl⟩
  have wb : Below w.heap.size w (w5.drewN q6) := B6.out
  clear wb
  go_wp2_with fail
  clear p1 p2 cells O5 B5 HRk
  generalize w5.drewN q6 = w6 at O6 B6 G6 ⊢
  refine (profile_Read.calls kr t l 0 _ RT.out).mono ?_
  rintro e7 w7 ⟨v7, rfl, ho, hb⟩
  obtain ⟨so, ko⟩ := OS.of_R ho
  obtain ⟨A7, d7, rfl, l7, r7⟩ := so.reads
  have S7 := Aside0.mk so
  have K7 : Aside0 (∀ k, (Value.slice A7 l.length d7).ownBlock = some k → w6.heap.size ≤ k ∧ k < w7.heap.size) := ⟨fun k hk => ⟨ko k hk, own_lt so k hk⟩⟩
  have BB7 := Aside0.mk hb
  have LC7 := Aside0.mk l7
  have R7 := Aside0.mk r7
  clear ho hb so ko l7 r7
  go_wp2_with fail
  refine (profile_Read.calls kr t l 0 _ RT.out).mono ?_
  rintro e8 w8 ⟨v8, rfl, ho, hb⟩
  obtain ⟨so, ko⟩ := OS.of_R ho
  obtain ⟨A8, d8, rfl, l8, r8⟩ := so.reads
  have S8 := Aside0.mk so
  have K8 : Aside0 (∀ k, (Value.slice A8 l.length d8).ownBlock = some k → w7.heap.size ≤ k ∧ k < w8.heap.size) := ⟨fun k hk => ⟨ko k hk, own_lt so k hk⟩⟩
  have BB8 := Aside0.mk hb
  have LC8 := Aside0.mk l8
  have R8 := Aside0.mk r8
  clear ho hb so ko l8 r8
  go_wp2_with fail
  refine (profile_Read.calls kz s xs es _ HZ.out).mono ?_
  rintro e9 w9 ⟨v9, rfl, ho, hb⟩
  obtain ⟨so, ko⟩ := OS.of_R ho
  obtain ⟨A9, d9, rfl, l9, r9⟩ := so.reads
  have S9 := Aside0.mk so
  have K9 : Aside0 (∀ k, (Value.slice A9 xs.length d9).ownBlock = some k → w8.heap.size ≤ k ∧ k < w9.heap.size) := ⟨fun k hk => ⟨ko k hk, own_lt so k hk⟩⟩
  have BB9 := Aside0.mk hb
  have LC9 := Aside0.mk l9
  have R9 := Aside0.mk r9
  clear ho hb so ko l9 r9
  go_wp2_with fail
  refine (profile_Read.calls kr t l 0 _ RT.out).mono ?_
  rintro e10 w10 ⟨v10, rfl, ho, hb⟩
  obtain ⟨so, ko⟩ := OS.of_R ho
  obtain ⟨A10, d10, rfl, l10, r10⟩ := so.reads
  have S10 := Aside0.mk so
  have K10 : Aside0 (∀ k, (Value.slice A10 l.length d10).ownBlock = some k → w9.heap.size ≤ k ∧ k < w10.heap.size) := ⟨fun k hk => ⟨ko k hk, own_lt so k hk⟩⟩
  have BB10 := Aside0.mk hb
  have LC10 := Aside0.mk l10
  have R10 := Aside0.mk r10
  clear ho hb so ko l10 r10
  have B10 : Aside0 (Below w6.heap.size w6 w10) := ⟨below_then (below_then (below_then BB7.out BB7.out.size BB8.out) (Nat.le_trans BB7.out.size BB8.out.size) BB9.out) (Nat.le_trans (Nat.le_trans BB7.out.size BB8.out.size) BB9.out.size) BB10.out⟩
  have N7 := Aside0.mk BB7.out.size
  have N8 := Aside0.mk BB8.out.size
  have N9 := Aside0.mk BB9.out.size
  have T7 := Aside0.mk (((S7.out.below BB8.out).below BB9.out).below BB10.out)
  have T8 := Aside0.mk ((S8.out.below BB9.out).below BB10.out)
  have T9 := Aside0.mk (S9.out.below BB10.out)
  have HRx := Aside0.mk (Kd.C_below HR0.out (below_then B6.out B6.out.size B10.out))
  have R7 := Aside0.mk (Kd.C_below (Kd.C_below (Kd.C_below R7.out BB8.out) BB9.out) BB10.out)
  have R8 := Aside0.mk (Kd.C_below (Kd.C_below R8.out BB9.out) BB10.out)
  clear S7 S8 S9 BB7 BB8 BB9 BB10
  go_wp2_with fail
  refine (copselaw17_same.calls ks A7 d7 l A0 c0 l true _ R7.out LC7.out HRx.out HC0.out HS.out).mono ?_
  rintro e11 w11 ⟨rfl, ⟨⟨q11, rfl⟩⟩⟩
  go_wp2_with fail
  refine (copselaw17_same.calls ks A8 d8 l A0 c0 l true _ (Kd.C_drewN R8.out _) LC8.out (Kd.C_drewN HRx.out _) HC0.out HS.out).mono ?_
  rintro e12 w12 ⟨rfl, ⟨⟨q12, rfl⟩⟩⟩
  go_wp2_with fail
  refine (copselaw17_same.calls ks A10 d10 l A0 c0 l true _ (Kd.C_drewN R10.out _) LC10.out (Kd.C_drewN HRx.out _) HC0.out HS.out).mono ?_
  rintro e13 w13 ⟨rfl, ⟨⟨q13, rfl⟩⟩⟩
  rw [World.drewN_drewN]
  have bd : Below w10.heap.size w10 (w10.drewN (q11 + q12 + q13)) := pw_below_drewN (Below.refl _ _) _
  have T7 := Aside0.mk (T7.out.below bd)
  have T8 := Aside0.mk (T8.out.below bd)
  have T9 := Aside0.mk (T9.out.below bd)
  have T10 := Aside0.mk (S10.out.below bd)
  have B13 := Aside0.mk (B10.out.trans (bd.mono B10.out.size))
  have N10 : Aside0 (w6.heap.size ≤ w10.heap.size) := ⟨B10.out.size⟩
  have SZ : Aside0 ((w10.drewN (q11 + q12 + q13)).heap.size = w10.heap.size) := ⟨rfl⟩
  clear bd R7 R8 R9 R10 HRx S10 B10 LC7 LC8 LC9 LC10
  generalize w10.drewN (q11 + q12 + q13) = wm at T7 T8 T9 T10 B13 SZ ⊢
  go_wp2_with fail
  have XL : Aside0 (∀ x ∈ [l, l, xs, l], x.length ≤ 4294967000) := ⟨fun x hx => by
   have := HZL.out
   simp only [List.mem_cons, List.not_mem_nil, or_false] at hx
   rcases hx with rfl | rfl | rfl | rfl <;> omega⟩
  have FM := Aside0.mk (fam4 (B := w6.heap.size) (n1 := w7.heap.size) (n2 := w8.heap.size) (n3 := w9.heap.size) (T7.out.alloc (.cells #[.slice A7 l.length d7, .slice A8 l.length d8, .slice A9 xs.length d9, .slice A10 l.length d10] 22)) (T8.out.alloc _) (T9.out.alloc _) (T10.out.alloc _) K7.out K8.out K9.out (fun k hk => (K10.out k hk).1) N7.out N8.out N9.out)
  have OW : Aside0 (OwnS w6.heap.size (wm.alloc (.cells #[.slice A7 l.length d7, .slice A8 l.length d8, .slice A9 xs.length d9, .slice A10 l.length d10] 22)) (.slice (some ⟨wm.heap.size, 0, none⟩) 4 4) [.slice A7 l.length d7, .slice A8 l.length d8, .slice A9 xs.length d9, .slice A10 l.length d10]) := ⟨World.ownsRow_lit wm _ 4 (by have := SZ.out; have := N10.out; omega) (by decide) rfl⟩
  have BA : Aside0 (Below w6.heap.size w6 (wm.alloc (.cells #[.slice A7 l.length d7, .slice A8 l.length d8, .slice A9 xs.length d9, .slice A10 l.length d10] 22))) := ⟨below_alloc B13.out _⟩
  clear T7 T8 T9 T10 K7 K8 K9 K10 N7 N8 N9 B13
  refine (marked17_calls _ _ _ _ _ OW.out (by simp) (by simp) FM.out XL.out).mono ?_
  rintro e14 w14 ⟨rfl, hb⟩
  have O14 : Aside0 (OS 9 w14 (.slice (some ⟨g, 0, none⟩) rm.length c3) rm) := ⟨own_move O6.out fun k hk => by
   have hk : g = k := by simpa [Value.ownBlock] using hk
   subst hk
   exact (BA.out.trans hb).block g G6.out⟩
  have B14 := Aside0.mk (below_then B6.out B6.out.size (BA.out.trans hb))
  clear hb BA OW FM XL O6 B6 G6 SZ N10
  go_wp2_with fail
  refine (profile_Read.calls kr t l 0 _ RT.out).mono ?_
  rintro e15 w15 ⟨v15, rfl, ho, hb⟩
  obtain ⟨so, ko⟩ := OS.of_R ho
  obtain ⟨A15, d15, rfl, l15, r15⟩ := so.reads
  have R15 := Aside0.mk r15
  have L15 := Aside0.mk l15
  have O15 := Aside0.mk (O14.out.below hb)
  have B15 := Aside0.mk (below_then B14.out B14.out.size hb)
  clear ho hb so ko l15 r15 O14 B14
  go_wp2_with fail
  refine (profile_Write.calls kw (some ⟨g, 0, none⟩) c3 l t 0 _ (FR.out _ O15.out).1 (FR.out _ O15.out).2 HW.out).mono ?_
  rintro e16 w16 ⟨rfl, hb⟩
  have R16 := Aside0.mk (Kd.C_below R15.out hb)
  have O16 := Aside0.mk (O15.out.below hb)
  have B16 := Aside0.mk (below_then B15.out B15.out.size hb)
  have H16 := Aside0.mk (Kd.C_below HR0.out B16.out)
  clear hb R15 O15 B15
  go_wp2_with fail
  refine (copselaw17_same.calls ks A15 d15 l A0 c0 l true _ R16.out L15.out H16.out HC0.out HS.out).mono ?_
  rintro e17 w17 ⟨rfl, ⟨⟨q17, rfl⟩⟩⟩
  have tt : (t.toList == t.toList) = true := beq_self_eq_true _
  have tf : (t.toList != t.toList) = false := bne_self_eq_false _
  by_cases hl0 : l = []
  ·have hz : ((l.length : Int) == 0) = true := by rw [hl0]; rfl
   clear hl0
   go_wp2_with fail
   refine (copselaw17_same.calls ks A15 d15 l A0 c0 l true _ (Kd.C_drewN R16.out _) L15.out (Kd.C_drewN H16.out _) HC0.out HS.out).mono ?_
   rintro e18 w18 ⟨rfl, ⟨⟨q18, rfl⟩⟩⟩
   go_wp2
   go_ret
   exact ⟨rfl, pw_below_drewN B16.out _⟩
  ·have hz : ((l.length : Int) == 0) = false := by simpa using hl0
   have hlp : 0 < l.length := List.length_pos_iff.2 hl0
   obtain ⟨m, hm⟩ : ∃ m, m + 1 = l.length := ⟨l.length - 1, by omega⟩
   have HM := Aside0.mk hm
   have hmi : (l.length : Int) - 1 = (m : Int) := by omega
   have hmr : (m : Int) < (rm.length : Int) := by omega
   obtain ⟨u, hu⟩ : ∃ u, l[m]? = some u := ⟨_, List.getElem?_eq_getElem (by omega)⟩
   have hur : rm[m]? = some u := by rw [RM.out, List.getElem?_append_left (by omega)]; exact hu
   have husz : u.size ≤ 1073741823 := HF.out u (List.mem_of_getElem? hu)
   have hys : (u ++ (⟨#[122]⟩ : ByteArray)).size = u.size + 1 := ByteArray.size_append
   have O17 := Aside0.mk (O16.out.below (pw_below_drewN (Below.refl w16.heap.size w16) q17))
   have B17 := Aside0.mk (pw_below_drewN B16.out q17)
   have p4 : (w16.drewN q17).cell? ⟨g, m, none⟩ = some (.string u) := by rw [O17.out.cellAt m (by omega), List.getElem?_map, hur]; rfl
   have p5 : (w16.drewN q17).frozen? ⟨g, m, none⟩ = false := O17.out.frozenAt m
   obtain ⟨y, hy⟩ : ∃ y, y = u ++ (⟨#[122]⟩ : ByteArray) := ⟨_, rfl⟩
   have hyc : u ++ (⟨#[122]⟩ : ByteArray) = y := hy.symm
   have O18 := Aside0.mk (O17.out.set rfl m y)
   have B18 : Aside0 (Below w.heap.size w ((w16.drewN q17).setCell ⟨g, m, none⟩ (.string y))) := ⟨B17.out.setCell K3.out _⟩
   obtain ⟨l2, hl2⟩ : ∃ l2, l2 = l.set m y := ⟨_, rfl⟩
   have hl2l : l2.length = l.length := by rw [hl2, List.length_set]
   have F2 : Aside0 (∀ W, OS 9 W (.slice (some ⟨g, 0, none⟩) rm.length c3) (rm.set m y) → Kd.C Kd.string W (some ⟨g, 0, none⟩) l2.length l2 ∧ l2.length ≤ c3) := ⟨fun W h => by
    rw [hl2]
    have e : rm.set m y = l.set m y ++ [⟨#[111, 110, 101]⟩, ⟨#[116, 119, 111]⟩] := by rw [RM.out, List.set_append_left _ _ (by omega)]
    rw [e] at h
    exact h.front⟩
   have ft : Fits l2 := fun p hp => by
    rw [hl2] at hp
    rcases List.mem_or_eq_of_mem_set hp with hp | rfl
    ·have := HF.out p hp; omega
    ·rw [hy, hys]; omega
   have hl2b : l2.length ≤ 1048576 := by omega
   obtain ⟨k1, hk1⟩ := Ev.rounds (write17 l2 hl2b ft)
   obtain ⟨k2, hk2⟩ := Ev.rounds (progWrite l2 hl2b ft)
   obtain ⟨r1, r2, hr⟩ : ∃ r1 r2, writeR l2 = (r1, r2) := ⟨_, _, rfl⟩
   rw [hr] at hk1 hk2
   have C1 : Aside0 (∀ W, Kd.C Kd.string W (some ⟨g, 0, none⟩) l2.length l2 ∧ l2.length ≤ c3 → Calls Tryd.prog 10 #[.slice (some ⟨g, 0, none⟩) l.length c3] W fun e w' => e = .returned (.tuple #[.string r1, .int .i64 r2]) ∧ Below W.heap.size W w') := ⟨fun W h => by have := copseref17_Write.calls k1 (some ⟨g, 0, none⟩) c3 l2 r1 r2 W h.1 h.2 hk1; rwa [hl2l] at this⟩
   have C2 : Aside0 (∀ W, Kd.C Kd.string W (some ⟨g, 0, none⟩) l2.length l2 ∧ l2.length ≤ c3 → Calls Tryd.prog 11 #[.slice (some ⟨g, 0, none⟩) l.length c3] W fun e w' => e = .returned (.tuple #[.string r1, .int .i64 r2]) ∧ Below W.heap.size W w') := ⟨fun W h => by have := profile_Write.calls k2 (some ⟨g, 0, none⟩) c3 l2 r1 r2 W h.1 h.2 hk2; rwa [hl2l] at this⟩
   clear hl0 hm hu hur hl2 hl2l ft hl2b hk1 hk2 hr hy O16 B16 R16 H16 O17 B17
   go_wp2_with fail
   refine (C1.out _ (F2.out _ O18.out)).mono ?_
   rintro e19 w19 ⟨rfl, hb⟩
   have O19 := Aside0.mk (O18.out.below hb)
   have B19 := Aside0.mk (below_then B18.out B18.out.size hb)
   clear hb O18 B18 p4 p5
   go_wp2_with fail
   refine (C2.out _ (F2.out _ O19.out)).mono ?_
   rintro e20 w20 ⟨rfl, hb⟩
   have B20 := Aside0.mk (below_then B19.out B19.out.size hb)
   have t1 : (r1.toList == r1.toList) = true := beq_self_eq_true _
   clear hb O19 B19
   go_wp2
   go_ret
   exact ⟨by first | rfl | simp, B20.out⟩
 ·have TE : Aside0 (t = ⟨#[]⟩) := ⟨writeR_err HQ.out he⟩
  have h1 : t.toList.isEmpty = true := by rw [TE.out, toList_bs]; rfl
  have h2 : (e == 0) = false := by simpa using he
  go_wp2
  go_ret
  exact ⟨rfl, pw_below_drewN B5.out q6⟩
end Go.Proofs.YtehfogjibhnabaaDoor.PAll
