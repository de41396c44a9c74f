/- Layer 17: what the document's functions answer. -/
import Derived.Test.YtehfogjibhnabaaDoorPrPAllx0
import Derived.Test.YtehfogjibhnabaaDoorPrPAlly11
import Derived.Test.YtehfogjibhnabaaDoorPrPAlly2
import Derived.Test.YtehfogjibhnabaaDoorPrPAlly3
import Derived.Test.YtehfogjibhnabaaDoorPrPAlly5
import Derived.Test.YtehfogjibhnabaaDoorPrProf1
import Derived.Test.YtehfogjibhnabaaDoorPrPAlly8
import Derived.Test.YtehfogjibhnabaaDoorPrRowKit
import Derived.Test.YtehfogjibhnabaaDoorPrShelf
import Derived.Shelf.Strings.Builder1
import Derived.Lib.OthersKept
import Derived.WalkKit
import Derived.BigQuiet
import Derived.Outline
import Derived.Test.YtehfogjibhnabaaDoorPrHandA
import Derived.Sort.Grow
import Derived.Shelf.SlSortCmp.NoneTotal
namespace Go.Proofs.YtehfogjibhnabaaDoor.PAll
open Go.RowKit Go.Proofs.YtehfogjibhnabaaDoorW.PrintWords Go.Proofs.YtehfogjibhnabaaDoorW.PrintLast Go.Proofs.YtehfogjibhnabaaDoorW.PrintMore
open Go.Proofs.YtehfogjibhnabaaDoor.Sp
theorem has17_run (l : List ByteArray) (p : ByteArray) (hl : l.length ≤ 4294967296) (d : Nat) : ∀ i, l.length - i = d → i ≤ l.length → Ev (fun k => copseref17_has.l0 k l p (i : Int)) (decide (p ∈ l.drop i)) := by
 induction d with
 | zero =>
  intro i hd hi
  refine ⟨1, fun k hk => ?_⟩
  obtain ⟨k, rfl⟩ : ∃ m, k = m + 1 := ⟨k - 1, by omega⟩
  simp only [copseref17_has.l0]
  rw [if_neg (by omega), List.drop_of_length_le (by omega)]; rfl
 | succ d ih =>
  intro i hd hi
  obtain ⟨K, hK⟩ := ih (i + 1) (by omega) (by omega)
  dsimp only at hK
  refine ⟨K + 1, fun k hk => ?_⟩
  obtain ⟨k, rfl⟩ : ∃ m, k = m + 1 := ⟨k - 1, by omega⟩
  simp only [copseref17_has.l0]
  rw [if_pos (by omega), if_pos (by omega), rdOf_drop l i (by omega)]
  by_cases h : rdOf ByteArray.empty l (i : Int) = p
  ·rw [if_pos (by rw [h]), h]; simp
  ·rw [if_neg (fun e => h (bs_inj (by rw [← toList_bs, ← toList_bs]; exact e))), wrap_succ (n := l.length) (by omega) (by omega), hK k (by omega)]
   simp [Ne.symm h]
theorem has17 (l : List ByteArray) (p : ByteArray) (hl : l.length ≤ 4294967296) : Ev (fun k => copseref17_has.f k l p) (decide (p ∈ l)) :=
 has17_run l p hl l.length 0 (by omega) (by omega)
theorem cones17_run (x : List ByteArray) (hx : x.length ≤ 4294967296) (hf : Fits x) (d : Nat) : ∀ i, x.length - i = d → i ≤ x.length → Ev (fun k => copseref17_Cones.l0 k x (i : Int)) (coneR (before x i) (x.drop i)) := by
 induction d with
 | zero =>
  intro i hd hi
  refine ⟨1, fun k hk => ?_⟩
  obtain ⟨k, rfl⟩ : ∃ m, k = m + 1 := ⟨k - 1, by omega⟩
  simp only [copseref17_Cones.l0]
  rw [if_neg (by omega), List.drop_of_length_le (by omega)]
  cases before x i <;> simp [coneR]
 | succ d ih =>
  intro i hd hi
  have hs := hf.at_ (show i < x.length by omega)
  obtain ⟨K, hK⟩ := ih (i + 1) (by omega) (by omega)
  obtain ⟨K1, hK1⟩ := ref_valid (rdOf ByteArray.empty x (i : Int)) (by omega)
  rw [rdOf_drop x i (by omega)]
  have hb : before x (i + 1) = some (rdOf ByteArray.empty x (i : Int)) := by simp [before]
  rw [hb] at hK
  dsimp only at hK hK1
  by_cases h0 : i = 0
  ·subst h0
   refine ⟨max K K1 + 1, fun k hk => ?_⟩
   obtain ⟨k, rfl⟩ : ∃ m, k = m + 1 := ⟨k - 1, by omega⟩
   simp only [copseref17_Cones.l0]
   rw [if_pos (by omega), if_pos (by omega), hK1 k (by omega), Option.bind_some]
   have h1 := hK k (by omega)
   rw [show before x 0 = none from rfl]
   unfold coneR
   cases validB (rdOf ByteArray.empty x ((0 : Nat) : Int)) with
   | false => simp
   | true =>
    rw [if_pos rfl, if_neg (by omega), wrap_succ (n := x.length) (by omega) (by omega), h1]
    simp
  ·have hs1 := hf.at_ (show i - 1 < x.length by omega)
   obtain ⟨K2, hK2⟩ := ref_cmp (rdOf ByteArray.empty x ((i - 1 : Nat) : Int)) (rdOf ByteArray.empty x (i : Int)) (by omega) (by omega)
   obtain ⟨K3, hK3⟩ := ref_above (rdOf ByteArray.empty x ((i - 1 : Nat) : Int)) (rdOf ByteArray.empty x (i : Int)) (by omega) (by omega)
   dsimp only at hK2 hK3
   refine ⟨max K (max K1 (max K2 K3)) + 1, fun k hk => ?_⟩
   obtain ⟨k, rfl⟩ : ∃ m, k = m + 1 := ⟨k - 1, by omega⟩
   have ew : wrap64 ((i : Int) - 1) = ((i - 1 : Nat) : Int) := by rw [wrap_add (by omega) (by omega)]; omega
   simp only [copseref17_Cones.l0]
   rw [if_pos (by omega), if_pos (by omega), hK1 k (by omega), Option.bind_some, ew]
   have h1 := hK k (by omega)
   rw [show before x i = some (rdOf ByteArray.empty x ((i - 1 : Nat) : Int)) from by simp [before, h0]]
   unfold coneR
   cases validB (rdOf ByteArray.empty x (i : Int)) with
   | false => simp
   | true =>
    rw [if_pos rfl, if_pos (by omega), if_pos (by omega), if_pos (by omega), hK2 k (by omega), Option.bind_some]
    by_cases c1 : cB (rdOf ByteArray.empty x ((i - 1 : Nat) : Int)) (rdOf ByteArray.empty x (i : Int)) < 0
    ·rw [if_neg (by omega), hK3 k (by omega), Option.bind_some]
     cases c2 : aboveB (rdOf ByteArray.empty x ((i - 1 : Nat) : Int)) (rdOf ByteArray.empty x (i : Int)) with
     | true => simp
     | false =>
      rw [if_neg (by simp), wrap_succ (n := x.length) (by omega) (by omega), h1]
      simp [c1]
    ·rw [if_pos (by omega)]
     simp [c1]
theorem cones17 (x : List ByteArray) (hx : x.length ≤ 4294967296) (hf : Fits x) : Ev (fun k => copseref17_Cones.f k x) (coneR none x) :=
 Ev.val (cones17_run x hx hf x.length 0 (by omega) (by omega)) (by rw [show before x 0 = none from rfl, List.drop_zero])
theorem take_next' (l : List ByteArray) (i : Nat) (h : i < l.length) : l.take (i + 1) = l.take i ++ [rdOf ByteArray.empty l (i : Int)] := by
 rw [List.take_add_one]
 congr 1
 simp [rdOf, List.getD_eq_getElem?_getD, List.getElem?_eq_getElem h]
theorem dirs17_l2 (x out up : List ByteArray) (i : Nat) (R : List ByteArray) (hf : Fits up) (_hup : up.length ≤ 1073741824)
  (next : ∀ out', Fits out' → out'.length ≤ out.length + up.length → out' = up.reverse.foldl stepD out → Ev (fun k => copseref17_dirs.l0 k x out' (wrap64 ((i : Int) + 1))) R) :
  ∀ (j : Nat) (o : List ByteArray), j ≤ up.length → Fits o → o.length + j ≤ out.length + up.length → out.length + up.length ≤ 4294967296 → (up.take j).reverse.foldl stepD o = up.reverse.foldl stepD out →
   Ev (fun k => copseref17_dirs.l2 k x o (i : Int) up ((j : Int) - 1)) R := by
 intro j
 induction j with
 | zero =>
  intro o hj hfo hlo hb he
  refine Ev.step (f := fun k => copseref17_dirs.l0 k x o (wrap64 ((i : Int) + 1))) (fun k => ?_) (next o hfo (by omega) (by simpa using he))
  simp only [copseref17_dirs.l2]
  rw [if_neg (by omega)]
 | succ j ih =>
  intro o hj hfo hlo hb he
  have hjl : j < up.length := by omega
  have hu := hf.at_ hjl
  have e1 : up.take (j + 1) = up.take j ++ [rdOf ByteArray.empty up (j : Int)] := take_next' up j hjl
  generalize hru : rdOf ByteArray.empty up (j : Int) = u at hu e1
  rw [e1, List.reverse_append, List.reverse_singleton, List.singleton_append, List.foldl_cons] at he
  have ew : wrap64 (((j + 1 : Nat) : Int) - 1 - 1) = (j : Int) - 1 := by rw [wrap_add (by omega) (by omega)]; omega
  have ej : ((j + 1 : Nat) : Int) - 1 = (j : Int) := by omega
  by_cases h0 : o.length = 0
  ·have hs : stepD o u = o ++ [u] := by unfold stepD; rw [if_pos h0]
   rw [hs] at he
   have hn := ih (o ++ [u]) (by omega) (fun p hp => by rcases List.mem_append.1 hp with hp | hp; exact hfo p hp; rw [List.mem_singleton.1 hp]; exact hu) (by rw [List.length_append]; simp; omega) hb he
   refine Ev.step (f := fun k => copseref17_dirs.l2 k x (o ++ [u]) (i : Int) up ((j : Int) - 1)) (fun k => ?_) hn
   simp only [copseref17_dirs.l2]
   rw [ew, ej, if_pos (by omega), if_pos (by omega), if_pos (by omega), if_pos (by omega), if_pos (by omega), hru]
  ·have hl := last_mem h0
   have er : rdOf ByteArray.empty o (wrap64 ((o.length : Int) - 1)) = o.getD (o.length - 1) ByteArray.empty := by
    rw [wrap_add (by omega) (by omega), show (o.length : Int) - 1 = ((o.length - 1 : Nat) : Int) by omega]; exact rdOf_getD o (o.length - 1)
   have hwb : 0 ≤ wrap64 ((o.length : Int) - 1) ∧ wrap64 ((o.length : Int) - 1) < o.length := by rw [wrap_add (by omega) (by omega)]; omega
   obtain ⟨K1, hK1⟩ := ref_cmp (o.getD (o.length - 1) ByteArray.empty) u (by have := hfo _ hl; omega) (by omega)
   dsimp only at hK1
   by_cases hc : cB (o.getD (o.length - 1) ByteArray.empty) u < 0
   ·have hs : stepD o u = o ++ [u] := by unfold stepD; rw [if_neg h0, if_pos hc]
    rw [hs] at he
    obtain ⟨K, hK⟩ := ih (o ++ [u]) (by omega) (fun p hp => by rcases List.mem_append.1 hp with hp | hp; exact hfo p hp; rw [List.mem_singleton.1 hp]; exact hu) (by rw [List.length_append]; simp; omega) hb he
    dsimp only at hK
    refine ⟨max K K1 + 1, fun k hk => ?_⟩
    obtain ⟨k, rfl⟩ : ∃ m, k = m + 1 := ⟨k - 1, by omega⟩
    simp only [copseref17_dirs.l2]
    rw [ew, ej, if_pos (by omega), if_neg (by omega), if_pos hwb.1, if_pos hwb.2, if_pos (by omega), if_pos (by omega), er, hru, hK1 k (by omega), Option.bind_some, if_pos hc, if_pos (by omega)]
    exact hK k (by omega)
   ·have hs : stepD o u = o := by unfold stepD; rw [if_neg h0, if_neg hc]
    rw [hs] at he
    obtain ⟨K, hK⟩ := ih o (by omega) hfo (by omega) hb he
    dsimp only at hK
    refine ⟨max K K1 + 1, fun k hk => ?_⟩
    obtain ⟨k, rfl⟩ : ∃ m, k = m + 1 := ⟨k - 1, by omega⟩
    simp only [copseref17_dirs.l2]
    rw [ew, ej, if_pos (by omega), if_neg (by omega), if_pos hwb.1, if_pos hwb.2, if_pos (by omega), if_pos (by omega), er, hru, hK1 k (by omega), Option.bind_some, if_neg hc]
    exact hK k (by omega)
theorem dirs17_l1 (x out : List ByteArray) (i : Nat) (R : List ByteArray) (c : ByteArray) (hcs : c.size ≤ 4294967)
  (next : Ev (fun k => copseref17_dirs.l2 k x out (i : Int) (ups c) (((ups c).length : Int) - 1)) R) (n : Nat) :
  ∀ (d : ByteArray) (up : List ByteArray), d.size ≤ n → d.size ≤ c.size → up.length + d.size ≤ c.size → up ++ ups d = ups c → Ev (fun k => copseref17_dirs.l1 k x out (i : Int) up d) R := by
 induction n with
 | zero =>
  intro d up hd hdc hul he
  have h0 : bs d = [] := List.eq_nil_of_length_eq_zero (by rw [bs_size]; omega)
  rw [ups_nil h0, List.append_nil] at he
  refine Ev.step (f := fun k => copseref17_dirs.l2 k x out (i : Int) up ((up.length : Int) - 1)) (fun k => ?_) (by rw [he]; exact next)
  simp only [copseref17_dirs.l1]
  rw [if_pos (by rw [toList_bs]; exact h0), wrap_add (by omega) (by omega)]
 | succ n ih =>
  intro d up hd hdc hul he
  by_cases h0 : bs d = []
  ·rw [ups_nil h0, List.append_nil] at he
   refine Ev.step (f := fun k => copseref17_dirs.l2 k x out (i : Int) up ((up.length : Int) - 1)) (fun k => ?_) (by rw [he]; exact next)
   simp only [copseref17_dirs.l1]
   rw [if_pos (by rw [toList_bs]; exact h0), wrap_add (by omega) (by omega)]
  ·have h1 := dirB_less h0
   rw [ups_cons h0] at he
   obtain ⟨K1, hK1⟩ := ref_dir d (by omega)
   obtain ⟨K, hK⟩ := ih (dirB d) (up ++ [d]) (by omega) (by omega) (by rw [List.length_append]; simp; omega) (by rw [List.append_assoc]; exact he)
   dsimp only at hK hK1
   refine ⟨max K K1 + 1, fun k hk => ?_⟩
   obtain ⟨k, rfl⟩ : ∃ m, k = m + 1 := ⟨k - 1, by omega⟩
   simp only [copseref17_dirs.l1]
   rw [if_neg (by rw [toList_bs]; exact h0), if_pos (by omega), hK1 k (by omega), Option.bind_some]
   exact hK k (by omega)
theorem dirs17_run (x : List ByteArray) (hx : x.length ≤ 1048576) (hv : ∀ p ∈ x, p.size ≤ 120) (d : Nat) : ∀ (i : Nat) (out : List ByteArray), x.length - i = d → i ≤ x.length → Fits out → out.length ≤ 120 * i →
  Ev (fun k => copseref17_dirs.l0 k x out (i : Int)) ((x.drop i).foldl (fun out c => (ups c).reverse.foldl stepD out) out) := by
 induction d with
 | zero =>
  intro i out hd hi hfo hlo
  refine ⟨1, fun k hk => ?_⟩
  obtain ⟨k, rfl⟩ : ∃ m, k = m + 1 := ⟨k - 1, by omega⟩
  simp only [copseref17_dirs.l0]
  rw [if_neg (by omega), List.drop_of_length_le (by omega)]; rfl
 | succ d ih =>
  intro i out hd hi hfo hlo
  have hil : i < x.length := by omega
  rw [rdOf_drop x i hil, List.foldl_cons]
  have hcs : (rdOf ByteArray.empty x (i : Int)).size ≤ 120 := hv _ (rd_mem x i hil)
  generalize hrc : rdOf ByteArray.empty x (i : Int) = c at hcs
  have hul := ups_length c.size c (Nat.le_refl _)
  have hfu : Fits (ups c) := fun p hp => by have := (ups_size c.size c (Nat.le_refl _) p hp).1; omega
  have h2 := dirs17_l2 x out (ups c) i ((x.drop (i + 1)).foldl (fun out c => (ups c).reverse.foldl stepD out) ((ups c).reverse.foldl stepD out)) hfu (by omega)
   (fun out' hf' hl' he' => by
    rw [wrap_succ (n := x.length) (by omega) (by omega), ← he']
    exact ih (i + 1) out' (by omega) (by omega) hf' (by omega)) (ups c).length out (Nat.le_refl _) hfo (by omega) (by omega) (by rw [List.take_length])
  have h1 := dirs17_l1 x out i _ c (by omega) h2 c.size c [] (Nat.le_refl _) (Nat.le_refl _) (by simp) (by simp)
  refine Ev.step (f := fun k => copseref17_dirs.l1 k x out (i : Int) [] c) (fun k => ?_) h1
  simp only [copseref17_dirs.l0]
  rw [if_pos (by omega), if_pos (by omega), hrc]
theorem dirs17 (x : List ByteArray) (hx : x.length ≤ 1048576) (hv : ∀ p ∈ x, p.size ≤ 120) (ha : x.Pairwise Apart2) : Ev (fun k => copseref17_dirs.f k x) (dirsT x) := by
 rw [← dirsR_is ha]
 exact dirs17_run x hx hv x.length 0 [] (by omega) (by omega) (fun p hp => absurd hp (by simp)) (Nat.zero_le _)
end Go.Proofs.YtehfogjibhnabaaDoor.PAll
namespace Go.Proofs.YtehfogjibhnabaaDoor.PAll
open Go.RowKit Go.Shelf Go.Proofs.YtehfogjibhnabaaDoorW.PrintWords Go.Proofs.YtehfogjibhnabaaDoorW.PrintLast Go.Proofs.YtehfogjibhnabaaDoorW.PrintMore
open Go.Proofs.YtehfogjibhnabaaDoor.Sp
theorem sizeB : (Tryd.prog.info? 83).map (·.size) = some 2 := by kernel_rfl
theorem liesB : liesAt Tryd.prog Tryd.prog.depth 83 (2 / Tryd.prog.cellsOf 83) 0 83 1 = true := by kernel_rfl
theorem infoByteB : (Tryd.prog.info? 5).map (fun i => (i.zero, i.size, i.bytes)) = some (some (.int .u8 0), 1, 1) := by kernel_rfl
set_option maxHeartbeats 1000000 in
set_option maxRecDepth 100000 in
theorem check_used (b : Nat) (w : World) (h0 : w.cell? ⟨b, 0, none⟩ = some (.pointer (some ⟨b, 0, none⟩))) :
  Calls Tryd.prog 92 #[.pointer (some ⟨b, 0, none⟩)] w fun e w' => e = .returned (.tuple #[]) ∧ w' = w := by
 obtain ⟨j, hj, _⟩ := Option.map_eq_some_iff.1 sizeB
 go_enter Tryd.func92, Tryd.ntmps92
 go_wp2
 rw [Lib.run_neq_ptr_same w _ Tryd.underlying80 hj]
 try simp only [Result.andThen]
 try rw [Oper.upon_value]
 go_wp2
 go_end0
 exact ⟨rfl, rfl⟩
set_option maxHeartbeats 1000000 in
set_option maxRecDepth 100000 in
theorem check_fresh (b : Nat) (w : World) (h0 : w.cell? ⟨b, 0, none⟩ = some (.pointer none)) (hsh : w.shape? b = some (83, 2)) (hfz : w.frozen? ⟨b, 0, none⟩ = false) :
  Calls Tryd.prog 92 #[.pointer (some ⟨b, 0, none⟩)] w fun e w' => e = .returned (.tuple #[]) ∧ w' = w.setCell ⟨b, 0, none⟩ (.pointer (some ⟨b, 0, none⟩)) := by
 obtain ⟨j, hj, hjs⟩ := Option.map_eq_some_iff.1 sizeB
 go_enter Tryd.func92, Tryd.ntmps92
 go_wp2
 rw [Lib.run_to_unsafe w ⟨b, 0, none⟩ Tryd.underlying80 Tryd.underlying121 hj (by rw [hjs]; decide) hsh (Nat.zero_lt_succ 1)]
 simp only [Result.andThen]
 rw [Oper.upon_value]
 go_wp2
 rw [run_callFunc_extern Tryd.func115 (by kernel_rfl) (by kernel_rfl) (by kernel_rfl) (e := Extern.AbiNoEscape.same) (by kernel_rfl)]
 rw [Lib.run_noEscape]
 simp only [Result.andThen]
 rw [Oper.upon_value]
 go_wp2
 rw [Lib.run_from_unsafe w ⟨b, 0, none⟩ Tryd.underlying121 Tryd.underlying80 hj hsh liesB]
 simp only [Result.andThen]
 rw [Oper.upon_value]
 go_wp2
 go_end0
 exact ⟨rfl, rfl⟩
abbrev BU (B b : Nat) (l : Str) (w : World) : Prop := Lib.IsBuilder 83 5 B b (Lib.byteCells l) w
theorem check_calls (B b : Nat) (bs : List Value) (w : World) (h : Lib.IsBuilder 83 5 B b bs w) :
  Calls Tryd.prog 92 #[.pointer (some ⟨b, 0, none⟩)] w fun e w' => e = .returned (.tuple #[]) ∧ (Lib.BuilderAt 83 5 B b (.pointer (some ⟨b, 0, none⟩)) bs w' ∧ Below B w w' ∧ Lib.OthersKept 5 (some b) w w') := by
 rcases h with h | h
 ·refine (check_fresh b w h.cell0 h.shape h.frozen0).mono ?_
  rintro e w' ⟨rfl, rfl⟩
  exact ⟨rfl, h.used _, (Below.refl B w).setCell (p := ⟨b, 0, none⟩) h.1 _, (Lib.OthersKept.refl _ _ w).setCell ⟨b, 0, none⟩ rfl _⟩
 ·refine (check_used b w h.cell0).mono ?_
  rintro e w' ⟨rfl, rfl⟩
  exact ⟨rfl, h, Below.refl B _, Lib.OthersKept.refl _ _ _⟩
set_option maxHeartbeats 2000000 in
set_option maxRecDepth 100000 in
theorem write_cells (B b : Nat) (bs : List Value) (s : ByteArray) (w : World) (h : Lib.IsBuilder 83 5 B b bs w) (hlen : bs.length + s.size ≤ 140737488355328) (hBw : B ≤ w.heap.size) :
  Calls Tryd.prog 66 #[.pointer (some ⟨b, 0, none⟩), .string s] w fun e w' => e = .returned (.tuple #[.int .i64 s.size, .nilIface]) ∧ (Lib.BuilderAt 83 5 B b (.pointer (some ⟨b, 0, none⟩)) (bs ++ Lib.strCells s) w' ∧ Below B w w' ∧ Lib.OthersKept 5 (some b) w w') := by
 obtain ⟨i0, hi, hz0, hz1, hz2⟩ := info_parts infoByteB
 go_enter Tryd.func66, Tryd.ntmps66
 go_wp2_with (go_at_call 92; refine (check_calls B b bs _ h).mono ?_)
 rintro e w1 ⟨rfl, h1, hb1, hk1⟩
 obtain ⟨hB, v, hbk, hown, hne⟩ := h1
 have HK1 := Aside0.mk hk1
 clear hk1
 have c0 : w1.cell? ⟨b, 0, none⟩ = some (.pointer (some ⟨b, 0, none⟩)) := by rw [Lib.cell_of_heap hbk]; rfl
 have c1 : w1.cell? ⟨b, 1, none⟩ = some v := by rw [Lib.cell_of_heap hbk]; rfl
 go_wp2_with (at_builtin; refine Lib.wpList_append_own_string _ rfl _ _ 81 9 rfl B 5 i0 Tryd.underlying81 Tryd.underlying9 hi hz0 hz1 hz2 _ _ _ rfl hown s rfl ?c3 ?c4 ?c5 ?_)
 case c3 => unfold maxLen; omega
 case c4 => omega
 case c5 => have := hb1.size; omega
 intro v' w2 hown' hgrow _
 have hlt : b < w1.heap.size := by
  rcases Nat.lt_or_ge b w1.heap.size with h' | h'
  ·exact h'
  ·simp [Array.getElem?_eq_none h'] at hbk
 have hb2 : w2.heap[b]? = some (.cells #[.pointer (some ⟨b, 0, none⟩), v] 83 (0, 0)) := by
  rw [hgrow.block b hlt (fun e => hne e.symm)]
  exact hbk
 have d0 : w2.cell? ⟨b, 0, none⟩ = some (.pointer (some ⟨b, 0, none⟩)) := by rw [Lib.cell_of_heap hb2]; rfl
 have d1 : w2.cell? ⟨b, 1, none⟩ = some v := by rw [Lib.cell_of_heap hb2]; rfl
 have f1 : w2.frozen? ⟨b, 1, none⟩ = false := Lib.frozen_of_heap hb2 1
 have KG := Aside0.mk (HK1.out.grown hgrow fun g hg => by
  obtain ⟨cs, hcs⟩ := own_typed hown g hg
  exact ⟨cs, (0, 0), hcs⟩)
 obtain ⟨ao, n', cap, rfl⟩ : ∃ ao n' cap, v' = .slice ao n' cap := by
  rcases hown'.2 with ⟨hv, _⟩ | ⟨g, cap, cur, hv, _⟩
  ·exact ⟨_, _, _, hv⟩
  ·exact ⟨_, _, _, hv⟩
 go_wp2
 go_ret2
 refine ⟨rfl, ?_, ?_, ?_⟩
 ·exact Lib.BuilderAt.put (T := 83) (e := 5) hB hb2 (bs' := bs ++ Lib.strCells s) (by simpa [Lib.strCells_length] using hown') (by decide)
 ·exact (hb1.grown hgrow (by have := hb1.size; omega) (fun k hk => (hown.lt k hk).1)).setCell (p := ⟨b, 1, none⟩) hB _
 ·exact KG.out.setCell ⟨b, 1, none⟩ rfl _
theorem strCells_bytes (s : ByteArray) : Lib.strCells s = Lib.byteCells (bs s) := by
 simp [Lib.strCells, Lib.byteCells, bs]
theorem byteCells_append (a b : Str) : Lib.byteCells (a ++ b) = Lib.byteCells a ++ Lib.byteCells b := by simp [Lib.byteCells]
theorem write_calls (B b : Nat) (l : Str) (s : ByteArray) (w : World) (h : BU B b l w) (hlen : l.length + s.size ≤ 140737488355328) (hBw : B ≤ w.heap.size) :
  Calls Tryd.prog 66 #[.pointer (some ⟨b, 0, none⟩), .string s] w fun e w' => e = .returned (.tuple #[.int .i64 s.size, .nilIface]) ∧ BU B b (l ++ bs s) w' ∧ Below B w w' ∧ Lib.OthersKept 5 (some b) w w' := by
 refine (write_cells B b (Lib.byteCells l) s w h (by rw [Lib.byteCells_length]; exact hlen) hBw).mono ?_
 rintro e w' ⟨rfl, h1, h2, h3⟩
 exact ⟨rfl, .inr (by rw [byteCells_append, ← strCells_bytes]; exact h1), h2, h3⟩
theorem BU.below {B b : Nat} {l : Str} {w w1 : World} (h : BU B b l w) (hb : Below w.heap.size w w1) : BU B b l w1 := by
 have one : ∀ p, Lib.BuilderAt 83 5 B b p (Lib.byteCells l) w → Lib.BuilderAt 83 5 B b p (Lib.byteCells l) w1 := by
  rintro p ⟨hB, v, hbk, hown, hne⟩
  exact ⟨hB, v, (hb.block b (Array.getElem?_eq_some_iff.1 hbk).1).trans hbk, own_move hown fun k hk => hb.block k (own_lt hown k hk), hne⟩
 rcases h with h | h
 ·exact .inl (one _ h)
 ·exact .inr (one _ h)
end Go.Proofs.YtehfogjibhnabaaDoor.PAll
namespace Go.Proofs.YtehfogjibhnabaaDoor.PAll
open Go.RowKit Go.Shelf Go.Proofs.YtehfogjibhnabaaDoorW.PrintWords Go.Proofs.YtehfogjibhnabaaDoorW.PrintLast Go.Proofs.YtehfogjibhnabaaDoorW.PrintMore
open Go.Proofs.YtehfogjibhnabaaDoor.Sp Go.Sort
def upsTo (l : List ByteArray) (i : Nat) : List ByteArray := (l.take i).flatMap ups
theorem upsTo_succ (l : List ByteArray) (i : Nat) (h : i < l.length) : upsTo l (i + 1) = upsTo l i ++ ups (rdOf ByteArray.empty l (i : Int)) := by
 unfold upsTo
 rw [take_next' l i h, List.flatMap_append]
 simp
theorem upsTo_length {l : List ByteArray} (hs : ∀ p ∈ l, p.size ≤ 120) (i : Nat) : (upsTo l i).length ≤ 120 * l.length := by
 have h1 := flatMap_le 120 (l.take i) fun p hp => by
  have h1 := ups_length p.size p (Nat.le_refl _)
  have h2 := hs p (List.mem_of_mem_take hp)
  omega
 rw [List.length_take] at h1
 unfold upsTo
 have : 120 * min i l.length ≤ 120 * l.length := Nat.mul_le_mul_left _ (by omega)
 omega
theorem upsTo_size {l : List ByteArray} (hs : ∀ p ∈ l, p.size ≤ 120) (i : Nat) : ∀ x ∈ upsTo l i, x.size < 4294967281 := fun x hx => by
 obtain ⟨c, hc, hx⟩ := List.mem_flatMap.1 hx
 have h1 := (ups_size c.size c (Nat.le_refl _) x hx).1
 have h2 := hs c (List.mem_of_mem_take hc)
 omega
set_option maxHeartbeats 4000000 in
set_option maxRecDepth 100000 in
theorem profdirs_calls (A0 : Option Addr) (c0 : Nat) (l0 : List ByteArray) (w : World) (hr0 : Kd.C Kd.string w A0 l0.length l0) (hl : l0.length ≤ 1048576) (hs : ∀ p ∈ l0, p.size ≤ 120) :
  Calls Tryd.prog 67 #[.slice A0 l0.length c0] w fun e w' => ∃ v0_ : Value, e = .returned v0_ ∧ Kd.R Kd.string 9 w' w.heap.size (fun _ => True) v0_ (dirsT l0) ∧ Below w.heap.size w w' := by
 have HR := Aside0.mk hr0
 have HS := Aside0.mk hs
 have DIR : Aside0 (∀ d : ByteArray, d.size ≤ 120 → ∃ k, path_Dir.f k d = some (dirB d)) := ⟨fun d hd => Ev.rounds (prog_dir d (by omega))⟩
 clear hr0 hs
 go_enter Tryd.func67, Tryd.ntmps67
 go_wp2
 go_loopg [3, 8] l0.length (fun gg s3 s8 wr => ∃ i : Nat, i ≤ l0.length ∧ l0.length - i ≤ gg ∧ s8 = .int .i64 i ∧ Aside0 (wr.ownsRow w.heap.size 9 1 s3 (encs Value.string (upsTo l0 i)).length (encs Value.string (upsTo l0 i))) ∧ Aside0 (Below w.heap.size w wr))
 case atStart => exact ⟨0, by omega, by omega, rfl, ⟨World.ownsRow_nil _ _ _ _⟩, ⟨Below.refl _ _⟩⟩
 case round =>
  obtain ⟨i, hi, hg, rfl, OX, BX⟩ := hrel
  by_cases hlt : i < l0.length
  ·have hltz : (i : Int) < (l0.length : Int) := by omega
   obtain ⟨ad, rfl, hcell⟩ := Kd.at_string (Kd.C_below HR.out BX.out) (i : Int) (by omega) hltz
   rw [Int.toNat_natCast] at hcell
   have HC : Aside0 ((rdOf ByteArray.empty l0 (i : Int)).size ≤ 120) := ⟨HS.out _ (rd_mem l0 i hlt)⟩
   have HU := Aside0.mk (upsTo_succ l0 i hlt)
   have HLN := Aside0.mk (upsTo_length HS.out (i + 1))
   generalize rdOf ByteArray.empty l0 (i : Int) = c at hcell HC HU
   go_wp2
   go_loopg [3, 5] c.size (fun gg s3 s5 wz => ∃ (d : ByteArray) (xs : List ByteArray), d.size ≤ gg ∧ s5 = .string d ∧ Aside0 (d.size ≤ 120) ∧ Aside0 (xs ++ ups d = upsTo l0 (i + 1)) ∧ Aside0 (wz.ownsRow w.heap.size 9 1 s3 (encs Value.string xs).length (encs Value.string xs)) ∧ Aside0 (Below w.heap.size w wz))
   case atStart => exact ⟨c, _, Nat.le_refl _, rfl, HC, ⟨HU.out.symm⟩, OX, BX⟩
   case round =>
    obtain ⟨d, xs, hdg, rfl, HD, HX, O5, B5⟩ := hrel
    clear OX BX hcell
    by_cases h0 : bs d = []
    ·have h1 : d.toList = [] := by rw [toList_bs]; exact h0
     have h2 : d.toList.isEmpty = true := by rw [h1]; rfl
     have HXX : Aside0 (xs = upsTo l0 (i + 1)) := ⟨by have := HX.out; rwa [ups_nil h0, List.append_nil] at this⟩
     clear h0
     go_wp2
     go_roundg (l0.length - (i + 1))
     case measure => omega
     case rel => exact ⟨i + 1, by omega, by omega, by go_num, ⟨by rw [← HXX.out]; exact O5.out⟩, B5⟩
    ·have h1 : ¬ d.toList = [] := by rw [toList_bs]; exact h0
     have h2 : d.toList.isEmpty = false := by simpa using h1
     have HN := Aside0.mk (dirB_less h0)
     have HX2 : Aside0 ((xs ++ [d]) ++ ups (dirB d) = upsTo l0 (i + 1)) := ⟨by have := HX.out; rw [ups_cons h0] at this; rw [← this]; simp⟩
     have HXL : Aside0 ((encs Value.string xs).length + 1 ≤ 8000000000) := ⟨by
      have h3 := congrArg List.length HX2.out
      have h4 := HLN.out
      simp only [List.length_append, List.length_cons, List.length_nil] at h3
      simp only [encs, List.length_map]
      omega⟩
     obtain ⟨kd, hkd⟩ := DIR.out d HD.out
     have KD := Aside0.mk hkd
     clear h0 hkd
     go_wp2_with (first | (at_builtin; refine print_append (w0 := w) w.heap.size rfl (.tmp 16) (.tmp 18) 22 9 (.string ByteArray.empty) 16 rfl Tryd.underlying22 info9s rfl (by decide) u3 (encs Value.string xs) (.string d) rfl rfl rfl O5.out B5.out B5.out.size (by have := HXL.out; omega) ?_; intro v6 w6 hown hb6 _ _; have O6 := Aside0.mk hown; have B6 := Aside0.mk hb6; clear hown hb6) | (go_at_call 44; refine (path_Dir.calls kd d (dirB d) _ KD.out).mono ?_; rintro e w7 ⟨rfl, hq7⟩))
     go_roundg (dirB d).size
     case measure => have := HN.out; omega
     case rel =>
      have hb7 : Below w6.heap.size w6 w7 := by first | exact hq7 | exact hq7.below
      exact ⟨dirB d, xs ++ [d], Nat.le_refl _, rfl, ⟨by have := HN.out; have := HD.out; omega⟩, HX2, ⟨own_move (by simpa [encs] using O6.out) fun k hk => hb7.block k (own_lt O6.out k hk)⟩, ⟨below_then B6.out B6.out.size hb7⟩⟩
  ·have hltz : ¬ (i : Int) < (l0.length : Int) := by omega
   obtain rfl : i = l0.length := by omega
   have HL : Aside0 (upsTo l0 l0.length = l0.flatMap ups) := ⟨by unfold upsTo; rw [List.take_length]⟩
   have HLN := Aside0.mk (upsTo_length HS.out l0.length)
   have HSZ := Aside0.mk (upsTo_size HS.out l0.length)
   have DT : Aside0 (dirsT l0 = norm (upsTo l0 l0.length)) := ⟨by rw [HL.out]; rfl⟩
   generalize hq : upsTo l0 l0.length = l at OX HLN HSZ DT
   clear hq HL hlt hi hg
   rcases Nat.eq_zero_or_pos l.length with h0 | h0
   ·obtain rfl := List.eq_nil_of_length_eq_zero h0
    obtain ⟨A, cap, rfl⟩ := own_slice OX.out
    go_wp2_with fail
    refine (sort_none A cap _).mono ?_
    rintro e w2 ⟨rfl, rfl⟩
    go_wp2_with fail
    refine (Tryd.slices_Compact_string_empty A cap _).mono ?_
    rintro e w3 ⟨rfl, rfl⟩
    go_wp2
    go_ret
    exact ⟨_, rfl, by rw [DT.out]; exact ⟨fun _ _ => trivial, [], OX.out, Reps.none _ _⟩, BX.out⟩
   ·obtain ⟨n, HN⟩ : ∃ n, Aside0 (l.length = n) := ⟨_, ⟨rfl⟩⟩
    have hel : (encs Value.string l).length = n := by simp only [encs, List.length_map]; exact HN.out
    have hown := OX.out
    rw [hel] at hown
    have H0 : Aside0 (0 < n) := ⟨by have := HN.out; omega⟩
    have HB : Aside0 (n < 8796093022208) := ⟨by have := HN.out; have := HLN.out; omega⟩
    have B1 := BX
    obtain ⟨g, cap, rfl, hg0, hg1⟩ := hown.form H0.out
    have hcap := own_le hown
    obtain ⟨d, hd⟩ : ∃ d : Array Sh, d.toList.map (·.1) = l := ⟨(l.pmap (fun x hx => (⟨x, hx⟩ : Sh)) HSZ.out).toArray, by simp [List.map_pmap]⟩
    have hdn : d.size = n := by rw [← HN.out, ← hd]; simp
    have C2 := Aside0.mk (Tryd.slices_SortFunc encSh (fun _ => rfl) cmpSh swoSh 50 #[] g 0 cap d wr (enters_of Tryd.func50 (by kernel_rfl) rfl) (cmpLays g d.size wr) (holds_sh hown d hd) hg1 (by have := HB.out; omega))
    have OWN := Aside0.mk hown
    have HD := Aside0.mk hd
    have DN := Aside0.mk hdn
    have HCAP := Aside0.mk hcap
    have HG := Aside0.mk (And.intro hg0 hg1)
    clear hown hd hcap hg0 hg1 hel OX BX
    rw [hdn] at C2
    clear hdn h0
    go_wp2_with fail
    refine C2.out.mono ?_
    rintro e w2 ⟨rfl, d', m, os, hp, hs, rfl⟩
    have hd' : d'.size = n := hp.1.trans DN.out
    have hH2 : Holds encSh (sortWorld encSh wr g 0 m d' os) g 0 d' := SW.holds ⟨m, os, rfl⟩ HG.out.2 (holds_sh OWN.out d HD.out) hp.1
    have C3 := Aside0.mk (Tryd.slices_Compact_string g 0 cap (shs d') (sortWorld encSh wr g 0 m d' os) (holds_map' hH2) (by have := HB.out; rw [shs_length]; omega) (by have := HCAP.out; rw [shs_length]; omega))
    have hlen : (shs d').length = n := (shs_length d').trans hd'
    rw [hlen] at C3
    have hperm : (d'.toList.map (·.1)).Perm l := by
     have := hp.2.2
     rw [show d'.extract 0 n = d' by rw [← hd', Array.extract_size], show d.extract 0 n = d by rw [← DN.out, Array.extract_size]] at this
     rw [← HD.out]
     exact this.map _
    have hsort : SortedIn (ltOf cmpSh) 0 d'.size d' := by rw [hd']; exact hs
    have hres : (Lib.compact (shs d')).map mk = norm l := compact_sorted d' hsort l hperm
    have hclen : (Lib.compact (shs d')).length = (norm l).length := by rw [← hres, List.length_map]
    have hcle : (Lib.compact (shs d')).length ≤ n := by rw [← hlen]; exact Lib.compact_length_le _
    have FIN := fun q => own_norm (m := m) OWN.out d' os q (norm l) (Lib.compact (shs d') ++ List.replicate (n - (Lib.compact (shs d')).length) []).toArray (by simp only [List.size_toArray, List.length_append, List.length_replicate]; omega) (by omega) (fun j hj => by
     rw [← hres]
     have hj' : j < (Lib.compact (shs d')).length := by omega
     rw [getElem!_pos _ j (by simp only [List.size_toArray, List.length_append, List.length_replicate]; omega)]
     simp only [List.getElem_toArray]
     rw [List.getElem_append_left hj']
     simp [List.getD_eq_getElem?_getD, hj', bs_mk]) HG.out.2
    have BEL : Below w.heap.size w (sortWorld encSh wr g 0 m d' os) := by
     unfold sortWorld
     refine below_grow os (below_putRow encSh g 0 d' (below_ahead m B1.out) HG.out.1) ?_
     have := B1.out.size
     simpa [putRow, mapBlock, Sort.ahead] using this
    rw [hclen] at C3 FIN
    have BEL' := Aside0.mk BEL
    have FIN' := Aside0.mk FIN
    clear BEL FIN hH2 hp hs hperm hsort hres hclen hcle hlen hd' C2
    generalize sortWorld encSh wr g 0 m d' os = w2 at C3 FIN' BEL' ⊢
    go_wp2_with fail
    refine C3.out.mono ?_
    rintro e w3 ⟨rfl, q, rfl⟩
    have F := Aside0.mk (FIN'.out q)
    have BF := Aside0.mk (below_putRow encStr g 0 (Lib.compact (shs d') ++ List.replicate (n - (norm l).length) []).toArray (below_ahead q BEL'.out) HG.out.1)
    clear FIN' C3
    generalize putRow encStr (Sort.ahead w2 q) g 0 _ = w3 at F BF ⊢
    go_wp2
    go_ret
    exact ⟨_, rfl, by rw [DT.out]; exact F.out, BF.out⟩
end Go.Proofs.YtehfogjibhnabaaDoor.PAll
namespace Go.Proofs.YtehfogjibhnabaaDoor.PAll
open Go.RowKit Go.Shelf Go.Proofs.YtehfogjibhnabaaDoorW.PrintWords Go.Proofs.YtehfogjibhnabaaDoorW.PrintLast Go.Proofs.YtehfogjibhnabaaDoorW.PrintMore
open Go.Proofs.YtehfogjibhnabaaDoor.Sp
set_option maxHeartbeats 1000000 in
set_option maxRecDepth 100000 in
theorem eqone_calls (ad bd : Addr) (n : Nat) (hn : n = 1) (c c1 : Nat) (x y : ByteArray) (w : World) (ha : w.cell? ad = some (.string x)) (hb : w.cell? bd = some (.string y)) :
  Calls Tryd.prog 65 #[.slice (some ad) n c, .slice (some bd) n c1] w fun e w' => e = .returned (.bool (decide (x = y))) ∧ ∃ q, w' = w.drewN q := by
 have HA := Aside0.mk ha
 have HB := Aside0.mk hb
 have HN := Aside0.mk hn
 clear ha hb hn
 go_enter Tryd.func65, Tryd.ntmps65
 go_wp2
 repeat (go_quiet (fail); try go_wp2)
 go_loopg [13] 2 (fun gg s13 wr => ∃ i : Int, s13 = .int .i64 i ∧ Aside0 (0 ≤ i) ∧ Aside0 (i ≤ 1) ∧ Aside0 (1 - i < gg) ∧ Aside0 (0 < i → x = y) ∧ ∃ q, wr = w.drewN q)
 case atStart => exact ⟨0, rfl, ⟨by omega⟩, ⟨by omega⟩, ⟨by omega⟩, ⟨by omega⟩, 0, rfl⟩
 case round =>
  obtain ⟨i, rfl, HI, HJ, HG, HX, q, rfl⟩ := hrel
  by_cases h0 : i < (n : Int)
  ·have HI2 : Aside0 (i = 0) := ⟨by have := HI.out; have := HN.out; omega⟩
   have h1 : w.cell? (ad.add i.toNat) = some (.string x) := by rw [HI2.out]; exact HA.out
   have h2 : w.cell? (bd.add i.toNat) = some (.string y) := by rw [HI2.out]; exact HB.out
   have c4 : decide (0 ≤ i) = true := decide_eq_true HI.out
   have c5 : decide (i < (n : Int)) = true := decide_eq_true h0
   have p1 := eq_true HI.out
   have p2 := eq_true h0
   clear HX h0
   by_cases hx : x = y
   ·have HXX := Aside0.mk hx
    have e1 : (x.toList == y.toList) = true := by rw [hx]; exact beq_self_eq_true _
    have e2 : (x.toList != y.toList) = false := by rw [hx]; exact bne_self_eq_false _
    clear hx
    go_wp2
    repeat (go_quiet (fail); try go_wp2)
    go_roundg 1
    case measure => have := HG.out; have := HI2.out; omega
    case rel => exact ⟨1, by rw [HI2.out, wrap_add (by omega) (by omega)]; rfl, ⟨by omega⟩, ⟨by omega⟩, ⟨by omega⟩, ⟨fun _ => HXX.out⟩, _, rfl⟩
   ·have e1 : (x.toList == y.toList) = false := by
     rw [beq_eq_false_iff_ne]
     intro e
     exact hx (bs_inj (by rw [← toList_bs, ← toList_bs]; exact e))
    have e2 : (x.toList != y.toList) = true := by
     rw [bne_iff_ne]
     intro e
     exact hx (bs_inj (by rw [← toList_bs, ← toList_bs]; exact e))
    have HXX : Aside0 (decide (x = y) = false) := ⟨decide_eq_false hx⟩
    clear hx
    go_wp2
    repeat (go_quiet (fail); try go_wp2)
    go_ret
    exact ⟨by rw [HXX.out]; rfl, _, by first | rfl | exact World.drewN_drewN _ _ _⟩
  ·have hx : Aside0 (decide (x = y) = true) := ⟨decide_eq_true (HX.out (by have := HN.out; omega))⟩
   have c5 : decide (i < (n : Int)) = false := decide_eq_false h0
   go_wp2
   go_ret
   exact ⟨by rw [hx.out]; rfl, q, rfl⟩
set_option maxHeartbeats 1000000 in
set_option maxRecDepth 100000 in
theorem eqroot_calls (A : Option Addr) (c : Nat) (l : List ByteArray) (b c1 : Nat) (w : World) (hr : Kd.C Kd.string w A l.length l) (hb : w.cell? ⟨b, 0, none⟩ = some (.string ⟨#[]⟩)) :
  Calls Tryd.prog 65 #[.slice A l.length c, .slice (some ⟨b, 0, none⟩) 1 c1] w fun e w' => e = .returned (.bool (decide (l = [⟨#[]⟩]))) ∧ ∃ q, w' = w.drewN q := by
 by_cases h1 : l.length = 1
 ·obtain ⟨x, rfl⟩ := List.length_eq_one_iff.1 h1
  obtain ⟨ad, rfl, hcell⟩ := Kd.at_string hr 0 (by omega) (by simp)
  refine (eqone_calls ad ⟨b, 0, none⟩ 1 rfl c c1 x ⟨#[]⟩ w hcell hb).mono ?_
  rintro e w' ⟨rfl, h⟩
  exact ⟨by simp, h⟩
 ·have hne : ¬ (l.length : Int) = 1 := by omega
  have hd : decide (l = [⟨#[]⟩]) = false := decide_eq_false (by rintro rfl; simp at h1)
  rw [hd]
  go_enter Tryd.func65, Tryd.ntmps65
  go_wp2
  go_ret
  exact ⟨rfl, 0, rfl⟩
theorem R_others {w w' : World} {base : Nat} {v : Value} {xs : List ByteArray} (h : Kd.R Kd.string 9 w base (fun _ => True) v xs) {b : Nat} (hk : Lib.OthersKept 5 (some b) w w') (hb : ∃ cs, w.heap[b]? = some (.cells cs 83 (0, 0))) : Kd.R Kd.string 9 w' base (fun _ => True) v xs := by
 obtain ⟨cs, hb⟩ := hb
 refine Kd.R_mono (Kd.R_move (Kd.R_bound h) fun k hk1 => ?_) (fun _ _ => trivial)
 obtain ⟨_, _, _, q, hq, cells, hc⟩ := hk1
 have hq : q = 9 := by simpa [Kd.string, Kd.scalar] using hq
 subst hq
 rw [hc]
 refine hk k _ hc ?_ ?_
 ·intro e
  cases e
  rw [hc] at hb
  simp at hb
 ·intro c fz e
  simp at e
theorem bu_lt {B b : Nat} {l : Str} {w : World} (h : BU B b l w) : b < w.heap.size := by rcases h with h | h <;> exact h.lt
theorem bu_block {B b : Nat} {l : Str} {w : World} (h : BU B b l w) : ∃ cs, w.heap[b]? = some (.cells cs 83 (0, 0)) := by
 rcases h with ⟨_, v, h, _⟩ | ⟨_, v, h, _⟩ <;> exact ⟨_, h⟩
set_option maxHeartbeats 4000000 in
set_option maxRecDepth 100000 in
theorem profile_text.calls (k : Nat) (A0 : Option Addr) (c0 : Nat) (l0 : List ByteArray) (r : ByteArray) (w : World) (hr0 : Kd.C Kd.string w A0 l0.length l0) (_hc0 : l0.length ≤ c0) (h : profile_text.f k l0 = some r) :
  Calls Tryd.prog 38 #[.slice A0 l0.length c0] w fun e w' => e = .returned (.string r) ∧ Below w.heap.size w w' := by
 unfold profile_text.f at h
 split at h
 ·rename_i hh
  obtain ⟨hc, hlen⟩ := hh
  obtain rfl := Option.some.inj h
  obtain ⟨hv, ha⟩ := (cone_all l0).1 hc
  have HR := Aside0.mk hr0
  have HV := Aside0.mk hv
  have HU := Aside0.mk (rises_of ha)
  clear hr0 hv ha hc h
  go_enter Tryd.func38, Tryd.ntmps38
  go_wp2_with fail
  refine (eqroot_calls A0 c0 l0 _ _ _ (Kd.C_alloc HR.out _) (by first | rfl | simp)).mono ?_
  rintro e w1 ⟨rfl, q1, rfl⟩
  by_cases hroot : l0 = [⟨#[]⟩]
  ·have TX : Aside0 (textS l0 = [47, 42, 10]) := ⟨if_pos hroot⟩
   have hd : decide (l0 = [⟨#[]⟩]) = true := decide_eq_true hroot
   rw [hd]
   go_wp2
   go_ret
   exact ⟨by rw [TX.out]; rfl, pw_below_drewN (below_alloc (Below.refl _ _) _) _⟩
  have TX : Aside0 (textS l0 = [47, 42, 10, 33, 47, 42, 47, 10] ++ (dirsT l0).flatMap (lineT l0)) := ⟨if_neg hroot⟩
  have hd : decide (l0 = [⟨#[]⟩]) = false := decide_eq_false hroot
  rw [hd]
  have BU0 := Lib.fresh_isBuilder 83 5 ((w.alloc (.cells #[.string ⟨#[]⟩] 9)).drewN q1)
  have hs0 : ((w.alloc (.cells #[.string ⟨#[]⟩] 9)).drewN q1).heap.size = w.heap.size + 1 := Array.size_push _
  rw [hs0] at BU0
  have BB : Below w.heap.size w (((w.alloc (.cells #[.string ⟨#[]⟩] 9)).drewN q1).alloc (.cells #[.pointer none, .slice none 0 0] 83)) := below_alloc (pw_below_drewN (below_alloc (Below.refl _ _) _) _) _
  have hsz := BB.size
  go_wp2_with fail
  generalize ((w.alloc (.cells #[.string ⟨#[]⟩] 9)).drewN q1).alloc (.cells #[.pointer none, .slice none 0 0] 83) = w1 at BU0 BB hsz ⊢
  generalize hb : w.heap.size + 1 = b at BU0 ⊢
  refine (write_calls b b [] _ w1 BU0 (by decide) ?_).mono ?_
  ·rcases BU0 with h | h <;> exact Nat.le_of_lt h.lt
  rintro e w2 ⟨rfl, BU1, b2, -⟩
  have B2 : Aside0 (Below w.heap.size w w2) := ⟨BB.trans (b2.mono (by omega))⟩
  go_wp2_with fail
  have h2 := b2.size
  refine (profdirs_calls A0 c0 l0 w2 (Kd.C_below HR.out B2.out) hlen fun p hp => valid_size (HV.out p hp)).mono ?_
  rintro e w3 ⟨v, rfl, r3, b3⟩
  obtain ⟨A, c, rfl⟩ := Kd.R_slice r3
  have DL := Aside0.mk (dirsT_length HV.out)
  have DS := Aside0.mk (dirsT_size HV.out)
  have BU3 := BU.below BU1 b3
  generalize dirsT l0 = ds at r3 TX DL DS ⊢
  have R3 := Aside0.mk r3
  have U3 := Aside0.mk BU3
  have B3 := Aside0.mk (below_then B2.out B2.out.size b3)
  clear r3 BU3 BU1 b2 b3
  have HB0 := Aside0.mk hb
  clear hb hd hroot hsz h2 BB B2
  go_wp2
  go_loopg [15] ds.length (fun gg s15 wr => ∃ i : Nat, s15 = .int .i64 i ∧ i ≤ ds.length ∧ ds.length - i ≤ gg ∧ Aside0 (BU b b ([47, 42, 10, 33, 47, 42, 47, 10] ++ (ds.take i).flatMap (lineT l0)) wr) ∧ Aside0 (Kd.R Kd.string 9 wr w2.heap.size (fun _ => True) (.slice A ds.length c) ds) ∧ Aside0 (Below w.heap.size w wr))
  case atStart => exact ⟨0, rfl, Nat.zero_le _, by omega, U3, R3, B3⟩
  case round =>
   clear U3 R3 B3
   obtain ⟨i, rfl, hi, hg, U, R, B⟩ := hrel
   by_cases hlt : i < ds.length
   ·have hltz : (i : Int) < (ds.length : Int) := by omega
    obtain ⟨ad, ea, hcell⟩ := Kd.at_string (Kd.R_reads' R.out).2.2 (i : Int) (by omega) hltz
    cases ea
    rw [Int.toNat_natCast] at hcell
    have DM := Aside0.mk (DS.out _ (rd_mem ds i hlt))
    have TK := Aside0.mk (take_next' ds i hlt)
    generalize rdOf ByteArray.empty ds (i : Int) = d at hcell DM TK
    have z1 : ((⟨#[47]⟩ : ByteArray) ++ d).size = 1 + d.size := ByteArray.size_append
    have z2 : ((⟨#[33, 47]⟩ : ByteArray) ++ d).size = 2 + d.size := ByteArray.size_append
    have z3 := DM.out
    have z6 := DL.out
    have f1 : ¬ 9223372036854775807 < ((⟨#[47]⟩ : ByteArray) ++ d).size + 2 := by omega
    have f2 : ¬ 9223372036854775807 < ((⟨#[33, 47]⟩ : ByteArray) ++ d).size + 4 := by omega
    have s1 : bs ((⟨#[47]⟩ : ByteArray) ++ d ++ ⟨#[47, 10]⟩) = 47 :: bs d ++ [47, 10] := by simp [bs]
    have s2 : bs ((⟨#[33, 47]⟩ : ByteArray) ++ d ++ ⟨#[47, 42, 47, 10]⟩) = [33, 47] ++ bs d ++ [47, 42, 47, 10] := by simp [bs]
    have z4 : ((⟨#[47]⟩ : ByteArray) ++ d ++ ⟨#[47, 10]⟩).size = 3 + d.size := by rw [ByteArray.size_append, z1]; show 1 + d.size + 2 = _; omega
    have z5 : ((⟨#[33, 47]⟩ : ByteArray) ++ d ++ ⟨#[47, 42, 47, 10]⟩).size = 6 + d.size := by rw [ByteArray.size_append, z2]; show 2 + d.size + 4 = _; omega
    have FL := Aside0.mk (flat_length l0 (ds.take i) fun x hx => DS.out x (List.mem_of_mem_take hx))
    have TL : Aside0 ((ds.take i).length ≤ 125829120) := ⟨by have := DL.out; rw [List.length_take]; omega⟩
    generalize hacc : (ds.take i).flatMap (lineT l0) = acc at U FL
    have TK2 : Aside0 ((ds.take (i + 1)).flatMap (lineT l0) = acc ++ lineT l0 d) := ⟨by rw [TK.out, List.flatMap_append, hacc]; simp⟩
    clear hacc TK
    have Z1 := Aside0.mk (And.intro s1 (And.intro s2 (And.intro z4 z5)))
    clear s1 s2 z4 z5
    go_wp2_with fail
    refine (write_calls b b _ _ wr U.out (by rw [Z1.out.2.2.1]; have := DM.out; have := FL.out; have := TL.out; simp only [List.length_append, List.length_cons, List.length_nil]; omega) (Nat.le_of_lt (bu_lt U.out))).mono ?_
    rintro e w4 ⟨rfl, u4, b4, k4⟩
    rw [Z1.out.1] at u4
    have R4 := Aside0.mk (R_others R.out k4 (bu_block U.out))
    have U4 := Aside0.mk u4
    have B4 : Aside0 (Below w.heap.size w w4) := ⟨B.out.trans (b4.mono (by have := HB0.out; omega))⟩
    clear u4 b4 k4 U R B
    go_wp2_with fail
    refine (bsf_calls A0 c0 l0 d w4 (Kd.C_below HR.out B4.out) HU.out (fun x hx => by have := valid_size (HV.out x hx); omega) (by have := DM.out; omega) (by omega)).mono ?_
    rintro e w5 ⟨⟨ix, rfl⟩, b5⟩
    have R5 := Aside0.mk (Kd.R_below R4.out b5)
    have U5 := Aside0.mk (BU.below U4.out b5)
    have B5 := Aside0.mk (below_then B4.out B4.out.size b5)
    clear U4 R4 B4 b5
    by_cases hin : d ∈ l0
    ·have LT : Aside0 (lineT l0 d = 47 :: bs d ++ [47, 10]) := ⟨by unfold lineT; rw [if_pos hin, List.append_nil]⟩
     have hd : decide (d ∈ l0) = true := decide_eq_true hin
     rw [hd]
     clear hin hd
     go_wp2
     go_roundg (ds.length - (i + 1))
     case measure => omega
     case rel => exact ⟨i + 1, by go_num, by omega, by omega, ⟨by rw [TK2.out, LT.out]; simpa using U5.out⟩, R5, B5⟩
    ·have LT : Aside0 (lineT l0 d = (47 :: bs d ++ [47, 10]) ++ ([33, 47] ++ bs d ++ [47, 42, 47, 10])) := ⟨by unfold lineT; rw [if_neg hin]⟩
     have hd : decide (d ∈ l0) = false := decide_eq_false hin
     rw [hd]
     clear hin hd
     go_wp2_with fail
     refine (write_calls b b _ _ w5 U5.out (by rw [Z1.out.2.2.2]; have := DM.out; have := FL.out; have := TL.out; simp only [List.length_append, List.length_cons, List.length_nil, bs_size]; omega) (Nat.le_of_lt (bu_lt U5.out))).mono ?_
     rintro e w6 ⟨rfl, u6, b6, k6⟩
     rw [Z1.out.2.1] at u6
     have R6 := Aside0.mk (R_others R5.out k6 (bu_block U5.out))
     have U6 := Aside0.mk u6
     have B6 : Aside0 (Below w.heap.size w w6) := ⟨B5.out.trans (b6.mono (by have := HB0.out; omega))⟩
     clear u6 b6 k6 U5 R5 B5
     go_wp2
     go_roundg (ds.length - (i + 1))
     case measure => omega
     case rel => exact ⟨i + 1, by go_num, by omega, by omega, ⟨by rw [TK2.out, LT.out]; simpa using U6.out⟩, R6, B6⟩
   ·have hltz : ¬ (i : Int) < (ds.length : Int) := by omega
    obtain rfl : i = ds.length := by omega
    have U2 := Aside0.mk U.out
    clear U hi hg hlt
    rw [List.take_length, ← TX.out] at U2
    go_wp2_with fail
    refine (Tryd.Builder_String_any b b (textS l0) wr U2.out (Nat.le_of_lt (bu_lt U2.out))).mono ?_
    rintro e w4 ⟨rfl, b4⟩
    go_wp2
    go_ret
    exact ⟨rfl, B.out.trans (b4.mono (by have := HB0.out; omega))⟩
 ·exact absurd h (by simp)
end Go.Proofs.YtehfogjibhnabaaDoor.PAll
namespace Go.Proofs.YtehfogjibhnabaaDoor.PAll
open Go.RowKit Go.Proofs.YtehfogjibhnabaaDoorW.PrintWords Go.Proofs.YtehfogjibhnabaaDoorW.PrintLast Go.Proofs.YtehfogjibhnabaaDoorW.PrintMore
attribute [local go_sem] max2_int min2_int max_two min_two max_three min_three max_four min_four
set_option linter.unusedVariables false
set_option linter.unusedSimpArgs false
def profile_Write.f (k : Nat) (l0 : List ByteArray) : Option (ByteArray × Int) := (cone_Valid.f k l0).bind fun t207 => (if t207 = 0 then ((profile_text.f k l0).bind fun t208 => (if (t208.size : Int) > 65536 then (some ((⟨#[]⟩ : ByteArray), 18)) else (some (t208, 0)))) else (some ((⟨#[]⟩ : ByteArray), t207)))
theorem profile_Write.mono : ∀ a0 k, LeO (profile_Write.f k a0) (profile_Write.f (k + 1) a0) := by
 intro a0 k
 unfold profile_Write.f
 repeat' first
   | (with_reducible exact cone_Valid.mono _ _)
   | (with_reducible exact profile_text.mono _ _)
   | (with_reducible exact LeO.refl _)
   | (with_reducible exact LeO.none _)
   | (with_reducible refine LeO.ite ?_ ?_)
   | (with_reducible refine LeO.bind ?_ (fun _ => ?_))
   | exact cone_Valid.mono _ _
   | exact profile_text.mono _ _
   | exact LeO.none _
   | refine LeO.ite ?_ ?_
   | refine LeO.bind ?_ (fun _ => ?_)
set_option maxHeartbeats 8000000 in
set_option maxRecDepth 100000 in
theorem profile_Write.calls (k : Nat) (A0 : Option Addr) (c0 : Nat) (l0 : List ByteArray) (r1 : ByteArray) (r2 : Int) (w : World) (hr0 : Kd.C Kd.string w A0 l0.length l0) (hc0 : l0.length ≤ c0) (h : profile_Write.f k l0 = some (r1, r2)) :
  Calls Tryd.prog 11 #[.slice A0 l0.length c0] w fun e w' => e = .returned (.tuple #[.string r1, .int .i64 r2]) ∧ Below w.heap.size w w' := by
 have HR0 := Aside0.mk hr0
 have HC0 := Aside0.mk hc0
 clear hr0 hc0
 have HB := Aside0.mk (Below.refl w.heap.size w)
 have H : ((cone_Valid.f k l0).bind fun t207 => (if t207 = 0 then ((profile_text.f k l0).bind fun t208 => (if (t208.size : Int) > 65536 then (some ((⟨#[]⟩ : ByteArray), 18)) else (some (t208, 0)))) else (some ((⟨#[]⟩ : ByteArray), t207)))) = some (r1, r2) := h
 clear h
 replace H := Option.bind_eq_some_iff.mp H
 obtain ⟨t207, A20, H⟩ := H
 replace H : (if t207 = 0 then ((profile_text.f k l0).bind fun t208 => (if (t208.size : Int) > 65536 then (some ((⟨#[]⟩ : ByteArray), 18)) else (some (t208, 0)))) else (some ((⟨#[]⟩ : ByteArray), t207))) = some (r1, r2) := H
 have A2 := Aside0.mk A20
 clear A20
 by_cases c3 : t207 = 0
 ·rw [if_pos c3] at H
  have c3b0 : (t207 == 0) = true := beq_iff_eq.mpr c3
  have c3b1 : (t207 != 0) = false := bne_eq_false_iff_eq.mpr c3
  clear c3
  replace H := Option.bind_eq_some_iff.mp H
  obtain ⟨t208, A40, H⟩ := H
  replace H : (if (t208.size : Int) > 65536 then (some ((⟨#[]⟩ : ByteArray), 18)) else (some (t208, 0))) = some (r1, r2) := H
  have A4 := Aside0.mk A40
  clear A40
  by_cases c5 : (t208.size : Int) > 65536
  ·rw [if_pos c5] at H
   have c5b0 := decide_eq_true c5
   have c5b1 : decide (65536 < t208.size) = true := decide_eq_true (by omega)
   clear c5
   simp only [Option.some.injEq, Prod.mk.injEq] at H
   obtain ⟨rfl, rfl⟩ := H
   go_enter Tryd.func11, Tryd.ntmps11
   go_wp2_with (first | ((with_reducible refine gate_callee (f := 37) rfl ?_); refine goesL_ (some 7) rfl rfl Tryd.func37 (by kernel_rfl) rfl #[.slice A0 l0.length c0] rfl (by (try simp only [List.map_toArray, List.map_cons, List.map_nil]); first | done | rfl | (simp only [List.length_drop, List.length_take]; rfl)) ?_; (with_reducible refine (cone_Valid.calls k _ _ l0 t207 _ ?side1 ?side2 A2.out).mono ?_); (case side1 => repeat (first | exact HR0.out | (with_reducible refine Kd.C_alloc ?_ _) | (with_reducible refine Kd.C_drewN ?_ _) | (with_reducible refine Kd.C_drew ?_))); (case side2 => exact HC0.out); rintro e w6 ⟨rfl, hb⟩; refine ⟨_, rfl, ?_⟩; have n0_ := Aside0.mk (below_step (by repeat (first | (with_reducible first | exact HB.out | apply below_alloc | apply pw_below_drewN | apply below_drew1) | exact HB.out)) hb); clear HB; have HB := n0_; clear n0_; (try clear hb); (try clear hb2); (try clear hk); (try clear hi)) | ((with_reducible refine gate_callee (f := 38) rfl ?_); refine goesL_ (some 12) rfl rfl Tryd.func38 (by kernel_rfl) rfl #[.slice A0 l0.length c0] rfl (by (try simp only [List.map_toArray, List.map_cons, List.map_nil]); first | done | rfl | (simp only [List.length_drop, List.length_take]; rfl)) ?_; (with_reducible refine (profile_text.calls k _ _ l0 t208 _ ?side1 ?side2 A4.out).mono ?_); (case side1 => repeat (first | exact (Kd.C_below HR0.out HB.out) | (with_reducible refine Kd.C_alloc ?_ _) | (with_reducible refine Kd.C_drewN ?_ _) | (with_reducible refine Kd.C_drew ?_))); (case side2 => exact HC0.out); rintro e w7 ⟨rfl, hb⟩; refine ⟨_, rfl, ?_⟩; have n0_ := Aside0.mk (below_step (by repeat (first | (with_reducible first | exact HB.out | apply below_alloc | apply pw_below_drewN | apply below_drew1) | exact HB.out)) hb); clear HB; have HB := n0_; clear n0_; (try clear hb); (try clear hb2); (try clear hk); (try clear hi)))
   go_ret2
   exact ⟨by first | rfl | (simp [errW_none, errW_some] <;> rfl) | (simp [*, errW_none, errW_some] <;> rfl), by repeat (first | (with_reducible first | exact HB.out | apply below_alloc | apply pw_below_drewN | apply below_drew1) | exact HB.out)⟩
  ·rw [if_neg c5] at H
   have c5b0 := decide_eq_false c5
   have c5b1 : decide (65536 < t208.size) = false := decide_eq_false (by omega)
   clear c5
   simp only [Option.some.injEq, Prod.mk.injEq] at H
   obtain ⟨rfl, rfl⟩ := H
   go_enter Tryd.func11, Tryd.ntmps11
   go_wp2_with (first | ((with_reducible refine gate_callee (f := 37) rfl ?_); refine goesL_ (some 7) rfl rfl Tryd.func37 (by kernel_rfl) rfl #[.slice A0 l0.length c0] rfl (by (try simp only [List.map_toArray, List.map_cons, List.map_nil]); first | done | rfl | (simp only [List.length_drop, List.length_take]; rfl)) ?_; (with_reducible refine (cone_Valid.calls k _ _ l0 t207 _ ?side1 ?side2 A2.out).mono ?_); (case side1 => repeat (first | exact HR0.out | (with_reducible refine Kd.C_alloc ?_ _) | (with_reducible refine Kd.C_drewN ?_ _) | (with_reducible refine Kd.C_drew ?_))); (case side2 => exact HC0.out); rintro e w8 ⟨rfl, hb⟩; refine ⟨_, rfl, ?_⟩; have n0_ := Aside0.mk (below_step (by repeat (first | (with_reducible first | exact HB.out | apply below_alloc | apply pw_below_drewN | apply below_drew1) | exact HB.out)) hb); clear HB; have HB := n0_; clear n0_; (try clear hb); (try clear hb2); (try clear hk); (try clear hi)) | ((with_reducible refine gate_callee (f := 38) rfl ?_); refine goesL_ (some 12) rfl rfl Tryd.func38 (by kernel_rfl) rfl #[.slice A0 l0.length c0] rfl (by (try simp only [List.map_toArray, List.map_cons, List.map_nil]); first | done | rfl | (simp only [List.length_drop, List.length_take]; rfl)) ?_; (with_reducible refine (profile_text.calls k _ _ l0 t208 _ ?side1 ?side2 A4.out).mono ?_); (case side1 => repeat (first | exact (Kd.C_below HR0.out HB.out) | (with_reducible refine Kd.C_alloc ?_ _) | (with_reducible refine Kd.C_drewN ?_ _) | (with_reducible refine Kd.C_drew ?_))); (case side2 => exact HC0.out); rintro e w9 ⟨rfl, hb⟩; refine ⟨_, rfl, ?_⟩; have n0_ := Aside0.mk (below_step (by repeat (first | (with_reducible first | exact HB.out | apply below_alloc | apply pw_below_drewN | apply below_drew1) | exact HB.out)) hb); clear HB; have HB := n0_; clear n0_; (try clear hb); (try clear hb2); (try clear hk); (try clear hi)))
   go_ret2
   exact ⟨by first | rfl | (simp [errW_none, errW_some] <;> rfl) | (simp [*, errW_none, errW_some] <;> rfl), by repeat (first | (with_reducible first | exact HB.out | apply below_alloc | apply pw_below_drewN | apply below_drew1) | exact HB.out)⟩
 ·rw [if_neg c3] at H
  have c3b0 : (t207 == 0) = false := beq_eq_false_iff_ne.mpr c3
  have c3b1 : (t207 != 0) = true := bne_iff_ne.mpr c3
  simp only [Option.some.injEq, Prod.mk.injEq] at H
  obtain ⟨rfl, rfl⟩ := H
  go_enter Tryd.func11, Tryd.ntmps11
  go_wp2_with (first | ((with_reducible refine gate_callee (f := 37) rfl ?_); refine goesL_ (some 7) rfl rfl Tryd.func37 (by kernel_rfl) rfl #[.slice A0 l0.length c0] rfl (by (try simp only [List.map_toArray, List.map_cons, List.map_nil]); first | done | rfl | (simp only [List.length_drop, List.length_take]; rfl)) ?_; (with_reducible refine (cone_Valid.calls k _ _ l0 t207 _ ?side1 ?side2 A2.out).mono ?_); (case side1 => repeat (first | exact HR0.out | (with_reducible refine Kd.C_alloc ?_ _) | (with_reducible refine Kd.C_drewN ?_ _) | (with_reducible refine Kd.C_drew ?_))); (case side2 => exact HC0.out); rintro e w10 ⟨rfl, hb⟩; refine ⟨_, rfl, ?_⟩; have n0_ := Aside0.mk (below_step (by repeat (first | (with_reducible first | exact HB.out | apply below_alloc | apply pw_below_drewN | apply below_drew1) | exact HB.out)) hb); clear HB; have HB := n0_; clear n0_; (try clear hb); (try clear hb2); (try clear hk); (try clear hi)))
  go_ret2
  exact ⟨by first | rfl | (simp [errW_none, errW_some] <;> rfl) | (simp [*, errW_none, errW_some] <;> rfl), by repeat (first | (with_reducible first | exact HB.out | apply below_alloc | apply pw_below_drewN | apply below_drew1) | exact HB.out)⟩
def profile_Read.f (k : Nat) (a0 : ByteArray) : Option (List ByteArray × Int) := if (a0.size : Int) > 65536 then (some (([] : List ByteArray), 18)) else ((some (([(⟨#[]⟩ : ByteArray)] : List ByteArray) : List ByteArray)).bind fun y218 => (if a0.toList = ([47, 42, 10] : List UInt8) then ((profile_Write.f k y218).bind fun bt221 => (if bt221.2 = 0 then (if bt221.1.toList = a0.toList then (some (y218, 0)) else (some (([] : List ByteArray), 18))) else (some (([] : List ByteArray), 18)))) else ((profile_named.f k a0).bind fun t223 => ((profile_Write.f k t223).bind fun bt226 => (if bt226.2 = 0 then (if bt226.1.toList = a0.toList then (some (t223, 0)) else (some (([] : List ByteArray), 18))) else (some (([] : List ByteArray), 18)))))))
theorem profile_Read.mono : ∀ a0 k, LeO (profile_Read.f k a0) (profile_Read.f (k + 1) a0) := by
 intro a0 k
 unfold profile_Read.f
 repeat' first
   | (with_reducible exact profile_Write.mono _ _)
   | (with_reducible exact profile_named.mono _ _)
   | (with_reducible exact LeO.refl _)
   | (with_reducible exact LeO.none _)
   | (with_reducible refine LeO.ite ?_ ?_)
   | (with_reducible refine LeO.bind ?_ (fun _ => ?_))
   | exact profile_Write.mono _ _
   | exact profile_named.mono _ _
   | exact LeO.none _
   | refine LeO.ite ?_ ?_
   | refine LeO.bind ?_ (fun _ => ?_)
set_option maxHeartbeats 8000000 in
set_option maxRecDepth 100000 in
theorem profile_Read.calls (k : Nat) (a0 : ByteArray) (r1 : List ByteArray) (r2 : Int) (w : World) (h : profile_Read.f k a0 = some (r1, r2)) :
  Calls Tryd.prog 13 #[.string a0] w fun e w' => ∃ v0_ : Value, e = .returned (.tuple #[v0_, .int .i64 r2]) ∧ Kd.R Kd.string 9 w' w.heap.size (fun _ => True) v0_ r1 ∧ Below w.heap.size w w' := by
 have HB := Aside0.mk (Below.refl w.heap.size w)
 have H : (if (a0.size : Int) > 65536 then (some (([] : List ByteArray), 18)) else ((some (([(⟨#[]⟩ : ByteArray)] : List ByteArray) : List ByteArray)).bind fun y218 => (if a0.toList = ([47, 42, 10] : List UInt8) then ((profile_Write.f k y218).bind fun bt221 => (if bt221.2 = 0 then (if bt221.1.toList = a0.toList then (some (y218, 0)) else (some (([] : List ByteArray), 18))) else (some (([] : List ByteArray), 18)))) else ((profile_named.f k a0).bind fun t223 => ((profile_Write.f k t223).bind fun bt226 => (if bt226.2 = 0 then (if bt226.1.toList = a0.toList then (some (t223, 0)) else (some (([] : List ByteArray), 18))) else (some (([] : List ByteArray), 18)))))))) = some (r1, r2) := h
 clear h
 by_cases c2 : (a0.size : Int) > 65536
 ·rw [if_pos c2] at H
  have c2b0 := decide_eq_true c2
  have c2b1 : decide (65536 < a0.size) = true := decide_eq_true (by omega)
  clear c2
  simp only [Option.some.injEq, Prod.mk.injEq] at H
  obtain ⟨rfl, rfl⟩ := H
  go_enter Tryd.func13, Tryd.ntmps13
  go_wp2
  go_ret2
  exact ⟨_, by first | rfl | (simp [errW_none, errW_some] <;> rfl) | (simp [*, errW_none, errW_some] <;> rfl), by first | exact Kd.R_nil _ _ _ _ _ | exact Kd.N_nil _ _ _ _ _ | exact Kd.V_nil _ _ _ _ _ | exact Kd.Q_nil _ _ _ _ _ | exact Kd.S_nil _ _ _ _ _, by repeat (first | (with_reducible first | exact HB.out | apply below_alloc | apply pw_below_drewN | apply below_drew1) | exact HB.out)⟩
 ·rw [if_neg c2] at H
  have c2b0 := decide_eq_false c2
  have c2b1 : decide (65536 < a0.size) = false := decide_eq_false (by omega)
  clear c2
  obtain ⟨y218, hy218⟩ : ∃ y_ : List ByteArray, y_ = (([(⟨#[]⟩ : ByteArray)] : List ByteArray)) := ⟨_, rfl⟩
  replace H : (if a0.toList = ([47, 42, 10] : List UInt8) then ((profile_Write.f k y218).bind fun bt221 => (if bt221.2 = 0 then (if bt221.1.toList = a0.toList then (some (y218, 0)) else (some (([] : List ByteArray), 18))) else (some (([] : List ByteArray), 18)))) else ((profile_named.f k a0).bind fun t223 => ((profile_Write.f k t223).bind fun bt226 => (if bt226.2 = 0 then (if bt226.1.toList = a0.toList then (some (t223, 0)) else (some (([] : List ByteArray), 18))) else (some (([] : List ByteArray), 18)))))) = some (r1, r2) := by first | (rw [hy218]; with_reducible exact H) | (have H2_ := (Option.bind_some _ _).symm.trans H; rw [hy218]; with_reducible exact H2_) | (have H2_ := (Option.bind_some _ _).symm.trans H; with_reducible exact H2_) | with_reducible exact H | (rw [hy218]; exact H) | exact H
  have Ny218 := Aside0.mk hy218
  clear hy218
  by_cases c3 : a0.toList = ([47, 42, 10] : List UInt8)
  ·rw [if_pos c3] at H
   have c3b0 : (a0.toList == ([47, 42, 10] : List UInt8)) = true := beq_iff_eq.mpr c3
   have c3b1 : (a0.toList != ([47, 42, 10] : List UInt8)) = false := bne_eq_false_iff_eq.mpr c3
   clear c3
   replace H := Option.bind_eq_some_iff.mp H
   obtain ⟨⟨t221, t222⟩, A40, H⟩ := H
   replace H : (if t222 = 0 then (if t221.toList = a0.toList then (some (y218, 0)) else (some (([] : List ByteArray), 18))) else (some (([] : List ByteArray), 18))) = some (r1, r2) := H
   have A4 := Aside0.mk A40
   clear A40
   by_cases c5 : t222 = 0
   ·rw [if_pos c5] at H
    have c5b0 : (t222 == 0) = true := beq_iff_eq.mpr c5
    have c5b1 : (t222 != 0) = false := bne_eq_false_iff_eq.mpr c5
    clear c5
    by_cases c6 : t221.toList = a0.toList
    ·rw [if_pos c6] at H
     have c6b0 : (t221.toList == a0.toList) = true := beq_iff_eq.mpr c6
     have c6b1 : (t221.toList != a0.toList) = false := bne_eq_false_iff_eq.mpr c6
     clear c6
     simp only [Option.some.injEq, Prod.mk.injEq] at H
     obtain ⟨rfl, rfl⟩ := H
     go_enter Tryd.func13, Tryd.ntmps13
     go_wp2_with (first | ((with_reducible refine gate_dst (N := 10) rfl ?_); refine Kd.R_lit Kd.string _ 9 ?hg (N := 10) ?hd (xs := ([(⟨#[]⟩ : ByteArray)] : List ByteArray)) (inner := [.string (⟨#[]⟩ : ByteArray)]) (ok := fun _ => True) (okp := fun _ => True) ?hr ?hp (fun _ hk => hk) trivial (Below.refl _ _) (Nat.le_refl _) (by simp) ?_; (case hd => rfl); (case hg => rfl); (case hr => first | (go_simp; done) | (go_simp; rfl)); (case hp => exact (Reps.one (show Kd.M Kd.string _ _ _ (⟨#[]⟩ : ByteArray) [.string (⟨#[]⟩ : ByteArray)] from rfl) (Reps.none _ _))); intro v219 w7 ho8 hb hg_ hnew_; clear hg_ hnew_; (first | rw [← Ny218.out] at ho8 | (simp only [Int.reduceToNat] at ho8; rw [← Ny218.out] at ho8)); have n0_ := Aside0.mk (Kd.R_lower ho8 (below_size (by repeat (first | (with_reducible first | exact HB.out | apply below_alloc | apply pw_below_drewN | apply below_drew1) | exact HB.out)))); have n1_ := Aside0.mk (below_step (by repeat (first | (with_reducible first | exact HB.out | apply below_alloc | apply pw_below_drewN | apply below_drew1) | exact HB.out)) hb); clear HB; have HO220 := n0_; have HB := n1_; clear n0_ n1_; clear hb ho8; obtain ⟨Ao9, co9, eo9⟩ := Kd.R_slice HO220.out; subst eo9) | ((with_reducible refine gate_callee (f := 11) rfl ?_); refine goesL_ (some 17) rfl rfl Tryd.func11 (by kernel_rfl) rfl #[.slice Ao9 y218.length co9] rfl (by (try simp only [List.map_toArray, List.map_cons, List.map_nil]); first | done | rfl | (simp only [List.length_drop, List.length_take]; rfl)) ?_; (with_reducible refine (profile_Write.calls k _ _ y218 t221 t222 _ ?side1 ?side2 A4.out).mono ?_); (case side1 => repeat (first | exact (Kd.R_reads' HO220.out).2.2 | (with_reducible refine Kd.C_alloc ?_ _) | (with_reducible refine Kd.C_drewN ?_ _) | (with_reducible refine Kd.C_drew ?_))); (case side2 => exact (Kd.R_reads' HO220.out).2.1); rintro e w10 ⟨rfl, hb⟩; refine ⟨_, rfl, ?_⟩; have n0_ := Aside0.mk (Kd.R_below (by (with_reducible repeat (first | apply Kd.R_alloc | apply Kd.R_drewN | apply Kd.R_drew)); exact HO220.out) hb); have n1_ := Aside0.mk (below_step (by repeat (first | (with_reducible first | exact HB.out | apply below_alloc | apply pw_below_drewN | apply below_drew1) | exact HB.out)) hb); clear HO220; clear HB; have HO220 := n0_; have HB := n1_; clear n0_ n1_; (try clear hb); (try clear hb2); (try clear hk); (try clear hi)))
     go_ret2
     exact ⟨_, by first | rfl | (simp [errW_none, errW_some] <;> rfl) | (simp [*, errW_none, errW_some] <;> rfl), by (with_reducible repeat (first | apply Kd.R_alloc | apply Kd.R_drewN | apply Kd.R_drew)); exact HO220.out, by repeat (first | (with_reducible first | exact HB.out | apply below_alloc | apply pw_below_drewN | apply below_drew1) | exact HB.out)⟩
    ·rw [if_neg c6] at H
     have c6b0 : (t221.toList == a0.toList) = false := beq_eq_false_iff_ne.mpr c6
     have c6b1 : (t221.toList != a0.toList) = true := bne_iff_ne.mpr c6
     simp only [Option.some.injEq, Prod.mk.injEq] at H
     obtain ⟨rfl, rfl⟩ := H
     go_enter Tryd.func13, Tryd.ntmps13
     go_wp2_with (first | ((with_reducible refine gate_dst (N := 10) rfl ?_); refine Kd.R_lit Kd.string _ 9 ?hg (N := 10) ?hd (xs := ([(⟨#[]⟩ : ByteArray)] : List ByteArray)) (inner := [.string (⟨#[]⟩ : ByteArray)]) (ok := fun _ => True) (okp := fun _ => True) ?hr ?hp (fun _ hk => hk) trivial (Below.refl _ _) (Nat.le_refl _) (by simp) ?_; (case hd => rfl); (case hg => rfl); (case hr => first | (go_simp; done) | (go_simp; rfl)); (case hp => exact (Reps.one (show Kd.M Kd.string _ _ _ (⟨#[]⟩ : ByteArray) [.string (⟨#[]⟩ : ByteArray)] from rfl) (Reps.none _ _))); intro v219 w11 ho12 hb hg_ hnew_; clear hg_ hnew_; (first | rw [← Ny218.out] at ho12 | (simp only [Int.reduceToNat] at ho12; rw [← Ny218.out] at ho12)); have n0_ := Aside0.mk (Kd.R_lower ho12 (below_size (by repeat (first | (with_reducible first | exact HB.out | apply below_alloc | apply pw_below_drewN | apply below_drew1) | exact HB.out)))); have n1_ := Aside0.mk (below_step (by repeat (first | (with_reducible first | exact HB.out | apply below_alloc | apply pw_below_drewN | apply below_drew1) | exact HB.out)) hb); clear HB; have HO220 := n0_; have HB := n1_; clear n0_ n1_; clear hb ho12; obtain ⟨Ao13, co13, eo13⟩ := Kd.R_slice HO220.out; subst eo13) | ((with_reducible refine gate_callee (f := 11) rfl ?_); refine goesL_ (some 17) rfl rfl Tryd.func11 (by kernel_rfl) rfl #[.slice Ao13 y218.length co13] rfl (by (try simp only [List.map_toArray, List.map_cons, List.map_nil]); first | done | rfl | (simp only [List.length_drop, List.length_take]; rfl)) ?_; (with_reducible refine (profile_Write.calls k _ _ y218 t221 t222 _ ?side1 ?side2 A4.out).mono ?_); (case side1 => repeat (first | exact (Kd.R_reads' HO220.out).2.2 | (with_reducible refine Kd.C_alloc ?_ _) | (with_reducible refine Kd.C_drewN ?_ _) | (with_reducible refine Kd.C_drew ?_))); (case side2 => exact (Kd.R_reads' HO220.out).2.1); rintro e w14 ⟨rfl, hb⟩; refine ⟨_, rfl, ?_⟩; have n0_ := Aside0.mk (Kd.R_below (by (with_reducible repeat (first | apply Kd.R_alloc | apply Kd.R_drewN | apply Kd.R_drew)); exact HO220.out) hb); have n1_ := Aside0.mk (below_step (by repeat (first | (with_reducible first | exact HB.out | apply below_alloc | apply pw_below_drewN | apply below_drew1) | exact HB.out)) hb); clear HO220; clear HB; have HO220 := n0_; have HB := n1_; clear n0_ n1_; (try clear hb); (try clear hb2); (try clear hk); (try clear hi)))
     go_ret2
     exact ⟨_, by first | rfl | (simp [errW_none, errW_some] <;> rfl) | (simp [*, errW_none, errW_some] <;> rfl), by first | exact Kd.R_nil _ _ _ _ _ | exact Kd.N_nil _ _ _ _ _ | exact Kd.V_nil _ _ _ _ _ | exact Kd.Q_nil _ _ _ _ _ | exact Kd.S_nil _ _ _ _ _, by repeat (first | (with_reducible first | exact HB.out | apply below_alloc | apply pw_below_drewN | apply below_drew1) | exact HB.out)⟩
   ·rw [if_neg c5] at H
    have c5b0 : (t222 == 0) = false := beq_eq_false_iff_ne.mpr c5
    have c5b1 : (t222 != 0) = true := bne_iff_ne.mpr c5
    simp only [Option.some.injEq, Prod.mk.injEq] at H
    obtain ⟨rfl, rfl⟩ := H
    go_enter Tryd.func13, Tryd.ntmps13
    go_wp2_with (first | ((with_reducible refine gate_dst (N := 10) rfl ?_); refine Kd.R_lit Kd.string _ 9 ?hg (N := 10) ?hd (xs := ([(⟨#[]⟩ : ByteArray)] : List ByteArray)) (inner := [.string (⟨#[]⟩ : ByteArray)]) (ok := fun _ => True) (okp := fun _ => True) ?hr ?hp (fun _ hk => hk) trivial (Below.refl _ _) (Nat.le_refl _) (by simp) ?_; (case hd => rfl); (case hg => rfl); (case hr => first | (go_simp; done) | (go_simp; rfl)); (case hp => exact (Reps.one (show Kd.M Kd.string _ _ _ (⟨#[]⟩ : ByteArray) [.string (⟨#[]⟩ : ByteArray)] from rfl) (Reps.none _ _))); intro v219 w15 ho16 hb hg_ hnew_; clear hg_ hnew_; (first | rw [← Ny218.out] at ho16 | (simp only [Int.reduceToNat] at ho16; rw [← Ny218.out] at ho16)); have n0_ := Aside0.mk (Kd.R_lower ho16 (below_size (by repeat (first | (with_reducible first | exact HB.out | apply below_alloc | apply pw_below_drewN | apply below_drew1) | exact HB.out)))); have n1_ := Aside0.mk (below_step (by repeat (first | (with_reducible first | exact HB.out | apply below_alloc | apply pw_below_drewN | apply below_drew1) | exact HB.out)) hb); clear HB; have HO220 := n0_; have HB := n1_; clear n0_ n1_; clear hb ho16; obtain ⟨Ao17, co17, eo17⟩ := Kd.R_slice HO220.out; subst eo17) | ((with_reducible refine gate_callee (f := 11) rfl ?_); refine goesL_ (some 17) rfl rfl Tryd.func11 (by kernel_rfl) rfl #[.slice Ao17 y218.length co17] rfl (by (try simp only [List.map_toArray, List.map_cons, List.map_nil]); first | done | rfl | (simp only [List.length_drop, List.length_take]; rfl)) ?_; (with_reducible refine (profile_Write.calls k _ _ y218 t221 t222 _ ?side1 ?side2 A4.out).mono ?_); (case side1 => repeat (first | exact (Kd.R_reads' HO220.out).2.2 | (with_reducible refine Kd.C_alloc ?_ _) | (with_reducible refine Kd.C_drewN ?_ _) | (with_reducible refine Kd.C_drew ?_))); (case side2 => exact (Kd.R_reads' HO220.out).2.1); rintro e w18 ⟨rfl, hb⟩; refine ⟨_, rfl, ?_⟩; have n0_ := Aside0.mk (Kd.R_below (by (with_reducible repeat (first | apply Kd.R_alloc | apply Kd.R_drewN | apply Kd.R_drew)); exact HO220.out) hb); have n1_ := Aside0.mk (below_step (by repeat (first | (with_reducible first | exact HB.out | apply below_alloc | apply pw_below_drewN | apply below_drew1) | exact HB.out)) hb); clear HO220; clear HB; have HO220 := n0_; have HB := n1_; clear n0_ n1_; (try clear hb); (try clear hb2); (try clear hk); (try clear hi)))
    go_ret2
    exact ⟨_, by first | rfl | (simp [errW_none, errW_some] <;> rfl) | (simp [*, errW_none, errW_some] <;> rfl), by first | exact Kd.R_nil _ _ _ _ _ | exact Kd.N_nil _ _ _ _ _ | exact Kd.V_nil _ _ _ _ _ | exact Kd.Q_nil _ _ _ _ _ | exact Kd.S_nil _ _ _ _ _, by repeat (first | (with_reducible first | exact HB.out | apply below_alloc | apply pw_below_drewN | apply below_drew1) | exact HB.out)⟩
  ·rw [if_neg c3] at H
   have c3b0 : (a0.toList == ([47, 42, 10] : List UInt8)) = false := beq_eq_false_iff_ne.mpr c3
   have c3b1 : (a0.toList != ([47, 42, 10] : List UInt8)) = true := bne_iff_ne.mpr c3
   replace H := Option.bind_eq_some_iff.mp H
   obtain ⟨t223, A190, H⟩ := H
   replace H : ((profile_Write.f k t223).bind fun bt226 => (if bt226.2 = 0 then (if bt226.1.toList = a0.toList then (some (t223, 0)) else (some (([] : List ByteArray), 18))) else (some (([] : List ByteArray), 18)))) = some (r1, r2) := H
   have A19 := Aside0.mk A190
   clear A190
   replace H := Option.bind_eq_some_iff.mp H
   obtain ⟨⟨t226, t227⟩, A200, H⟩ := H
   replace H : (if t227 = 0 then (if t226.toList = a0.toList then (some (t223, 0)) else (some (([] : List ByteArray), 18))) else (some (([] : List ByteArray), 18))) = some (r1, r2) := H
   have A20 := Aside0.mk A200
   clear A200
   by_cases c21 : t227 = 0
   ·rw [if_pos c21] at H
    have c21b0 : (t227 == 0) = true := beq_iff_eq.mpr c21
    have c21b1 : (t227 != 0) = false := bne_eq_false_iff_eq.mpr c21
    clear c21
    by_cases c22 : t226.toList = a0.toList
    ·rw [if_pos c22] at H
     have c22b0 : (t226.toList == a0.toList) = true := beq_iff_eq.mpr c22
     have c22b1 : (t226.toList != a0.toList) = false := bne_eq_false_iff_eq.mpr c22
     clear c22
     simp only [Option.some.injEq, Prod.mk.injEq] at H
     obtain ⟨rfl, rfl⟩ := H
     go_enter Tryd.func13, Tryd.ntmps13
     go_wp2_with (first | ((with_reducible refine gate_dst (N := 10) rfl ?_); refine Kd.R_lit Kd.string _ 9 ?hg (N := 10) ?hd (xs := ([(⟨#[]⟩ : ByteArray)] : List ByteArray)) (inner := [.string (⟨#[]⟩ : ByteArray)]) (ok := fun _ => True) (okp := fun _ => True) ?hr ?hp (fun _ hk => hk) trivial (Below.refl _ _) (Nat.le_refl _) (by simp) ?_; (case hd => rfl); (case hg => rfl); (case hr => first | (go_simp; done) | (go_simp; rfl)); (case hp => exact (Reps.one (show Kd.M Kd.string _ _ _ (⟨#[]⟩ : ByteArray) [.string (⟨#[]⟩ : ByteArray)] from rfl) (Reps.none _ _))); intro v219 w23 ho24 hb hg_ hnew_; clear hg_ hnew_; (first | rw [← Ny218.out] at ho24 | (simp only [Int.reduceToNat] at ho24; rw [← Ny218.out] at ho24)); have n0_ := Aside0.mk (Kd.R_lower ho24 (below_size (by repeat (first | (with_reducible first | exact HB.out | apply below_alloc | apply pw_below_drewN | apply below_drew1) | exact HB.out)))); have n1_ := Aside0.mk (below_step (by repeat (first | (with_reducible first | exact HB.out | apply below_alloc | apply pw_below_drewN | apply below_drew1) | exact HB.out)) hb); clear HB; have HO220 := n0_; have HB := n1_; clear n0_ n1_; clear hb ho24) | ((with_reducible refine gate_callee (f := 39) rfl ?_); refine goesL_ (some 14) rfl rfl Tryd.func39 (by kernel_rfl) rfl #[.string a0] rfl (by (try simp only [List.map_toArray, List.map_cons, List.map_nil]); first | done | rfl | (simp only [List.length_drop, List.length_take]; rfl)) ?_; (with_reducible refine (profile_named.calls k a0 t223 _ A19.out).mono ?_); rintro e w25 ⟨v224, rfl, ho0, hb⟩; refine ⟨_, rfl, ?_⟩; have n0_ := Aside0.mk (Kd.R_elder' (by (with_reducible repeat (first | apply Kd.R_alloc | apply Kd.R_drewN | apply Kd.R_drew)); exact HO220.out) (Kd.R_base ho0) hb); have n1_ := Aside0.mk (Kd.R_lower (Kd.R_new' ho0 (Kd.R_lt (by (with_reducible repeat (first | apply Kd.R_alloc | apply Kd.R_drewN | apply Kd.R_drew)); exact HO220.out))) (below_size (by repeat (first | (with_reducible first | exact HB.out | apply below_alloc | apply pw_below_drewN | apply below_drew1) | exact HB.out)))); have n2_ := Aside0.mk (below_step (by repeat (first | (with_reducible first | exact HB.out | apply below_alloc | apply pw_below_drewN | apply below_drew1) | exact HB.out)) hb); clear HO220; clear HB; have HO220 := n0_; have HO225 := n1_; have HB := n2_; clear n0_ n1_ n2_; (try clear hb); (try clear hb2); (try clear hk); (try clear hi); (try clear ho0); obtain ⟨Ao26, co26, eo26⟩ := Kd.R_slice HO225.out; subst eo26) | ((with_reducible refine gate_callee (f := 11) rfl ?_); refine goesL_ (some 17) rfl rfl Tryd.func11 (by kernel_rfl) rfl #[.slice Ao26 t223.length co26] rfl (by (try simp only [List.map_toArray, List.map_cons, List.map_nil]); first | done | rfl | (simp only [List.length_drop, List.length_take]; rfl)) ?_; (with_reducible refine (profile_Write.calls k _ _ t223 t226 t227 _ ?side1 ?side2 A20.out).mono ?_); (case side1 => repeat (first | exact (Kd.R_reads' HO225.out).2.2 | (with_reducible refine Kd.C_alloc ?_ _) | (with_reducible refine Kd.C_drewN ?_ _) | (with_reducible refine Kd.C_drew ?_))); (case side2 => exact (Kd.R_reads' HO225.out).2.1); rintro e w27 ⟨rfl, hb⟩; refine ⟨_, rfl, ?_⟩; have n0_ := Aside0.mk (Kd.R_below (by (with_reducible repeat (first | apply Kd.R_alloc | apply Kd.R_drewN | apply Kd.R_drew)); exact HO220.out) hb); have n1_ := Aside0.mk (Kd.R_below (by (with_reducible repeat (first | apply Kd.R_alloc | apply Kd.R_drewN | apply Kd.R_drew)); exact HO225.out) hb); have n2_ := Aside0.mk (below_step (by repeat (first | (with_reducible first | exact HB.out | apply below_alloc | apply pw_below_drewN | apply below_drew1) | exact HB.out)) hb); clear HO220; clear HO225; clear HB; have HO220 := n0_; have HO225 := n1_; have HB := n2_; clear n0_ n1_ n2_; (try clear hb); (try clear hb2); (try clear hk); (try clear hi)))
     go_ret2
     exact ⟨_, by first | rfl | (simp [errW_none, errW_some] <;> rfl) | (simp [*, errW_none, errW_some] <;> rfl), by (with_reducible repeat (first | apply Kd.R_alloc | apply Kd.R_drewN | apply Kd.R_drew)); exact Kd.R_mono HO225.out (fun _ hk => trivial), by repeat (first | (with_reducible first | exact HB.out | apply below_alloc | apply pw_below_drewN | apply below_drew1) | exact HB.out)⟩
    ·rw [if_neg c22] at H
     have c22b0 : (t226.toList == a0.toList) = false := beq_eq_false_iff_ne.mpr c22
     have c22b1 : (t226.toList != a0.toList) = true := bne_iff_ne.mpr c22
     simp only [Option.some.injEq, Prod.mk.injEq] at H
     obtain ⟨rfl, rfl⟩ := H
     go_enter Tryd.func13, Tryd.ntmps13
     go_wp2_with (first | ((with_reducible refine gate_dst (N := 10) rfl ?_); refine Kd.R_lit Kd.string _ 9 ?hg (N := 10) ?hd (xs := ([(⟨#[]⟩ : ByteArray)] : List ByteArray)) (inner := [.string (⟨#[]⟩ : ByteArray)]) (ok := fun _ => True) (okp := fun _ => True) ?hr ?hp (fun _ hk => hk) trivial (Below.refl _ _) (Nat.le_refl _) (by simp) ?_; (case hd => rfl); (case hg => rfl); (case hr => first | (go_simp; done) | (go_simp; rfl)); (case hp => exact (Reps.one (show Kd.M Kd.string _ _ _ (⟨#[]⟩ : ByteArray) [.string (⟨#[]⟩ : ByteArray)] from rfl) (Reps.none _ _))); intro v219 w28 ho29 hb hg_ hnew_; clear hg_ hnew_; (first | rw [← Ny218.out] at ho29 | (simp only [Int.reduceToNat] at ho29; rw [← Ny218.out] at ho29)); have n0_ := Aside0.mk (Kd.R_lower ho29 (below_size (by repeat (first | (with_reducible first | exact HB.out | apply below_alloc | apply pw_below_drewN | apply below_drew1) | exact HB.out)))); have n1_ := Aside0.mk (below_step (by repeat (first | (with_reducible first | exact HB.out | apply below_alloc | apply pw_below_drewN | apply below_drew1) | exact HB.out)) hb); clear HB; have HO220 := n0_; have HB := n1_; clear n0_ n1_; clear hb ho29) | ((with_reducible refine gate_callee (f := 39) rfl ?_); refine goesL_ (some 14) rfl rfl Tryd.func39 (by kernel_rfl) rfl #[.string a0] rfl (by (try simp only [List.map_toArray, List.map_cons, List.map_nil]); first | done | rfl | (simp only [List.length_drop, List.length_take]; rfl)) ?_; (with_reducible refine (profile_named.calls k a0 t223 _ A19.out).mono ?_); rintro e w30 ⟨v224, rfl, ho0, hb⟩; refine ⟨_, rfl, ?_⟩; have n0_ := Aside0.mk (Kd.R_elder' (by (with_reducible repeat (first | apply Kd.R_alloc | apply Kd.R_drewN | apply Kd.R_drew)); exact HO220.out) (Kd.R_base ho0) hb); have n1_ := Aside0.mk (Kd.R_lower (Kd.R_new' ho0 (Kd.R_lt (by (with_reducible repeat (first | apply Kd.R_alloc | apply Kd.R_drewN | apply Kd.R_drew)); exact HO220.out))) (below_size (by repeat (first | (with_reducible first | exact HB.out | apply below_alloc | apply pw_below_drewN | apply below_drew1) | exact HB.out)))); have n2_ := Aside0.mk (below_step (by repeat (first | (with_reducible first | exact HB.out | apply below_alloc | apply pw_below_drewN | apply below_drew1) | exact HB.out)) hb); clear HO220; clear HB; have HO220 := n0_; have HO225 := n1_; have HB := n2_; clear n0_ n1_ n2_; (try clear hb); (try clear hb2); (try clear hk); (try clear hi); (try clear ho0); obtain ⟨Ao31, co31, eo31⟩ := Kd.R_slice HO225.out; subst eo31) | ((with_reducible refine gate_callee (f := 11) rfl ?_); refine goesL_ (some 17) rfl rfl Tryd.func11 (by kernel_rfl) rfl #[.slice Ao31 t223.length co31] rfl (by (try simp only [List.map_toArray, List.map_cons, List.map_nil]); first | done | rfl | (simp only [List.length_drop, List.length_take]; rfl)) ?_; (with_reducible refine (profile_Write.calls k _ _ t223 t226 t227 _ ?side1 ?side2 A20.out).mono ?_); (case side1 => repeat (first | exact (Kd.R_reads' HO225.out).2.2 | (with_reducible refine Kd.C_alloc ?_ _) | (with_reducible refine Kd.C_drewN ?_ _) | (with_reducible refine Kd.C_drew ?_))); (case side2 => exact (Kd.R_reads' HO225.out).2.1); rintro e w32 ⟨rfl, hb⟩; refine ⟨_, rfl, ?_⟩; have n0_ := Aside0.mk (Kd.R_below (by (with_reducible repeat (first | apply Kd.R_alloc | apply Kd.R_drewN | apply Kd.R_drew)); exact HO220.out) hb); have n1_ := Aside0.mk (Kd.R_below (by (with_reducible repeat (first | apply Kd.R_alloc | apply Kd.R_drewN | apply Kd.R_drew)); exact HO225.out) hb); have n2_ := Aside0.mk (below_step (by repeat (first | (with_reducible first | exact HB.out | apply below_alloc | apply pw_below_drewN | apply below_drew1) | exact HB.out)) hb); clear HO220; clear HO225; clear HB; have HO220 := n0_; have HO225 := n1_; have HB := n2_; clear n0_ n1_ n2_; (try clear hb); (try clear hb2); (try clear hk); (try clear hi)))
     go_ret2
     exact ⟨_, by first | rfl | (simp [errW_none, errW_some] <;> rfl) | (simp [*, errW_none, errW_some] <;> rfl), by first | exact Kd.R_nil _ _ _ _ _ | exact Kd.N_nil _ _ _ _ _ | exact Kd.V_nil _ _ _ _ _ | exact Kd.Q_nil _ _ _ _ _ | exact Kd.S_nil _ _ _ _ _, by repeat (first | (with_reducible first | exact HB.out | apply below_alloc | apply pw_below_drewN | apply below_drew1) | exact HB.out)⟩
   ·rw [if_neg c21] at H
    have c21b0 : (t227 == 0) = false := beq_eq_false_iff_ne.mpr c21
    have c21b1 : (t227 != 0) = true := bne_iff_ne.mpr c21
    simp only [Option.some.injEq, Prod.mk.injEq] at H
    obtain ⟨rfl, rfl⟩ := H
    go_enter Tryd.func13, Tryd.ntmps13
    go_wp2_with (first | ((with_reducible refine gate_dst (N := 10) rfl ?_); refine Kd.R_lit Kd.string _ 9 ?hg (N := 10) ?hd (xs := ([(⟨#[]⟩ : ByteArray)] : List ByteArray)) (inner := [.string (⟨#[]⟩ : ByteArray)]) (ok := fun _ => True) (okp := fun _ => True) ?hr ?hp (fun _ hk => hk) trivial (Below.refl _ _) (Nat.le_refl _) (by simp) ?_; (case hd => rfl); (case hg => rfl); (case hr => first | (go_simp; done) | (go_simp; rfl)); (case hp => exact (Reps.one (show Kd.M Kd.string _ _ _ (⟨#[]⟩ : ByteArray) [.string (⟨#[]⟩ : ByteArray)] from rfl) (Reps.none _ _))); intro v219 w33 ho34 hb hg_ hnew_; clear hg_ hnew_; (first | rw [← Ny218.out] at ho34 | (simp only [Int.reduceToNat] at ho34; rw [← Ny218.out] at ho34)); have n0_ := Aside0.mk (Kd.R_lower ho34 (below_size (by repeat (first | (with_reducible first | exact HB.out | apply below_alloc | apply pw_below_drewN | apply below_drew1) | exact HB.out)))); have n1_ := Aside0.mk (below_step (by repeat (first | (with_reducible first | exact HB.out | apply below_alloc | apply pw_below_drewN | apply below_drew1) | exact HB.out)) hb); clear HB; have HO220 := n0_; have HB := n1_; clear n0_ n1_; clear hb ho34) | ((with_reducible refine gate_callee (f := 39) rfl ?_); refine goesL_ (some 14) rfl rfl Tryd.func39 (by kernel_rfl) rfl #[.string a0] rfl (by (try simp only [List.map_toArray, List.map_cons, List.map_nil]); first | done | rfl | (simp only [List.length_drop, List.length_take]; rfl)) ?_; (with_reducible refine (profile_named.calls k a0 t223 _ A19.out).mono ?_); rintro e w35 ⟨v224, rfl, ho0, hb⟩; refine ⟨_, rfl, ?_⟩; have n0_ := Aside0.mk (Kd.R_elder' (by (with_reducible repeat (first | apply Kd.R_alloc | apply Kd.R_drewN | apply Kd.R_drew)); exact HO220.out) (Kd.R_base ho0) hb); have n1_ := Aside0.mk (Kd.R_lower (Kd.R_new' ho0 (Kd.R_lt (by (with_reducible repeat (first | apply Kd.R_alloc | apply Kd.R_drewN | apply Kd.R_drew)); exact HO220.out))) (below_size (by repeat (first | (with_reducible first | exact HB.out | apply below_alloc | apply pw_below_drewN | apply below_drew1) | exact HB.out)))); have n2_ := Aside0.mk (below_step (by repeat (first | (with_reducible first | exact HB.out | apply below_alloc | apply pw_below_drewN | apply below_drew1) | exact HB.out)) hb); clear HO220; clear HB; have HO220 := n0_; have HO225 := n1_; have HB := n2_; clear n0_ n1_ n2_; (try clear hb); (try clear hb2); (try clear hk); (try clear hi); (try clear ho0); obtain ⟨Ao36, co36, eo36⟩ := Kd.R_slice HO225.out; subst eo36) | ((with_reducible refine gate_callee (f := 11) rfl ?_); refine goesL_ (some 17) rfl rfl Tryd.func11 (by kernel_rfl) rfl #[.slice Ao36 t223.length co36] rfl (by (try simp only [List.map_toArray, List.map_cons, List.map_nil]); first | done | rfl | (simp only [List.length_drop, List.length_take]; rfl)) ?_; (with_reducible refine (profile_Write.calls k _ _ t223 t226 t227 _ ?side1 ?side2 A20.out).mono ?_); (case side1 => repeat (first | exact (Kd.R_reads' HO225.out).2.2 | (with_reducible refine Kd.C_alloc ?_ _) | (with_reducible refine Kd.C_drewN ?_ _) | (with_reducible refine Kd.C_drew ?_))); (case side2 => exact (Kd.R_reads' HO225.out).2.1); rintro e w37 ⟨rfl, hb⟩; refine ⟨_, rfl, ?_⟩; have n0_ := Aside0.mk (Kd.R_below (by (with_reducible repeat (first | apply Kd.R_alloc | apply Kd.R_drewN | apply Kd.R_drew)); exact HO220.out) hb); have n1_ := Aside0.mk (Kd.R_below (by (with_reducible repeat (first | apply Kd.R_alloc | apply Kd.R_drewN | apply Kd.R_drew)); exact HO225.out) hb); have n2_ := Aside0.mk (below_step (by repeat (first | (with_reducible first | exact HB.out | apply below_alloc | apply pw_below_drewN | apply below_drew1) | exact HB.out)) hb); clear HO220; clear HO225; clear HB; have HO220 := n0_; have HO225 := n1_; have HB := n2_; clear n0_ n1_ n2_; (try clear hb); (try clear hb2); (try clear hk); (try clear hi)))
    go_ret2
    exact ⟨_, by first | rfl | (simp [errW_none, errW_some] <;> rfl) | (simp [*, errW_none, errW_some] <;> rfl), by first | exact Kd.R_nil _ _ _ _ _ | exact Kd.N_nil _ _ _ _ _ | exact Kd.V_nil _ _ _ _ _ | exact Kd.Q_nil _ _ _ _ _ | exact Kd.S_nil _ _ _ _ _, by repeat (first | (with_reducible first | exact HB.out | apply below_alloc | apply pw_below_drewN | apply below_drew1) | exact HB.out)⟩
end Go.Proofs.YtehfogjibhnabaaDoor.PAll
