/- apart, called with two lists that lie in memory of their own: it answers true, and nothing elder is changed. -/
import Derived.Test.YtdfkaclflmgkeaaDoorPfPAllx0
import Derived.Test.YtdfkaclflmgkeaaDoorPfFreshW
import Derived.Test.YtdfkaclflmgkeaaDoorPfHandA
import Derived.Test.YtdfkaclflmgkeaaDoorPfHandB
import Derived.Test.YtdfkaclflmgkeaaDoorPfPAlly0
import Derived.Test.YtdfkaclflmgkeaaDoorPfPAlly5
import Derived.Test.YtdfkaclflmgkeaaDoorPfPure6
import Derived.Test.YtdfkaclflmgkeaaDoorPfRowKit
import Derived.Test.YtdfkaclflmgkeaaDoorPfSpec
import Derived.WalkKit
import Derived.BigQuiet
import Derived.Deep.QuietTactic
import Derived.StillTailTactics
import Derived.Outline
namespace Go.Proofs.YtdfkaclflmgkeaaDoor.PAll
open Go.RowKit Go.Proofs.YtdfkaclflmgkeaaDoorW.PrintWords Go.Proofs.YtdfkaclflmgkeaaDoorW.PrintLast Go.Proofs.YtdfkaclflmgkeaaDoorW.PrintMore
open Go.Proofs.YtdfkaclflmgkeaaDoor.Sp
theorem full_run (m : ByteArray) (l : List ByteArray) (hl : l.length ≤ 4294967296) (hm : ∀ x ∈ l, x = m) (d : Nat) : ∀ i, l.length - i = d → i ≤ l.length → Ev (fun k => copselaw03_full.l0 k l m (i : Int)) true := by
 induction d with
 | zero =>
  intro i hd hi
  refine ⟨1, fun k hk => ?_⟩
  obtain ⟨k, rfl⟩ : ∃ m, k = m + 1 := ⟨k - 1, by omega⟩
  simp only [copselaw03_full.l0]
  rw [if_neg (by omega)]
 | succ d ih =>
  intro i hd hi
  obtain ⟨K, hK⟩ := ih (i + 1) (by omega) (by omega)
  dsimp only at hK
  have hx : rdOf ByteArray.empty l (i : Int) = m := hm _ (by
   have e : rdOf ByteArray.empty l (i : Int) = l[i]'(by omega) := by simp [rdOf, List.getD_eq_getElem?_getD, List.getElem?_eq_getElem (show i < l.length by omega)]
   rw [e]; exact List.getElem_mem _)
  refine ⟨K + 1, fun k hk => ?_⟩
  obtain ⟨k, rfl⟩ : ∃ m, k = m + 1 := ⟨k - 1, by omega⟩
  simp only [copselaw03_full.l0]
  rw [if_pos (by omega), if_pos (by omega), if_pos (by rw [hx]), wrap_succ (n := l.length) (by omega) (by omega)]
  exact hK k (by omega)
theorem full_ev (m : ByteArray) (l : List ByteArray) (hl : l.length ≤ 4294967296) (hm : ∀ x ∈ l, x = m) : ∃ k, copselaw03_full.f k l m = some true := Ev.rounds (full_run m l hl hm l.length 0 (by omega) (by omega))
def markT (n : Nat) : ByteArray := Sp.mk (List.replicate (n + 1) 33)
theorem markT_succ (n : Nat) : markT n ++ ⟨#[33]⟩ = markT (n + 1) := by
 apply bs_inj
 unfold markT
 rw [bs_mk]
 show (Sp.mk (List.replicate (n + 1) 33) ++ (⟨#[33]⟩ : ByteArray)).data.toList = _
 rw [ByteArray.data_append, Array.toList_append]
 show List.replicate (n + 1) 33 ++ [33] = _
 rw [List.replicate_succ' (n := n + 1)]
theorem markT_size (n : Nat) : (markT n).size = n + 1 := by rw [← bs_size]; unfold markT; rw [bs_mk]; simp
theorem mark_at (n : Nat) (hn : n ≤ 1000) (w : World) : Calls Tryd.prog 58 #[.int .i64 (n : Int)] w fun e w' => e = .returned (.string (markT n)) ∧ w' = w := by
 go_enter Tryd.func58, Tryd.ntmps58
 go_wp2
 go_loopg [3, 4] n (fun gg s3 s4 wr => ∃ i : Nat, i ≤ n ∧ n - i ≤ gg ∧ s4 = .int .i64 i ∧ s3 = .string (markT i) ∧ wr = w)
 case atStart => exact ⟨0, by omega, by omega, rfl, rfl, rfl⟩
 case round =>
  obtain ⟨i, hi, hg, rfl, rfl, rfl⟩ := hrel
  by_cases hlt : i < n
  ·have hltz : (i : Int) < (n : Int) := by omega
   have hsz := markT_size i
   go_wp2
   go_roundg (n - (i + 1))
   case measure => omega
   case rel => exact ⟨i + 1, by omega, by omega, by go_num, by rw [← markT_succ], rfl⟩
  ·have hltz : ¬ (i : Int) < (n : Int) := by omega
   obtain rfl : i = n := by omega
   go_wp2
   go_ret
   exact ⟨rfl, rfl⟩
theorem OS.C_ {e : TypeId} {w : World} {A : Option Addr} {n c : Nat} {xs : List ByteArray} (h : OS e w (.slice A n c) xs) (_hn : n = xs.length) : Kd.C Kd.string w A xs.length xs ∧ xs.length ≤ c := by
 obtain ⟨A', c', he, hl, hr⟩ := h.reads
 injection he with h1 h2 h3
 subst h1; subst h3
 exact ⟨hr, hl⟩
theorem infoSS : (Tryd.prog.info? 22).map (fun i => (i.zero, i.size, i.bytes)) = some (some (.slice none 0 0), 1, 24) := by kernel_rfl
def ApSt (ts te : TypeId) (w wr : World) (v2 : Value) (n1 n2 i : Nat) (s5 : Value) : Prop :=
 (i = 0 ∧ s5 = .slice none 0 0) ∨
 (i = 1 ∧ ∃ (G1 : Value) (z1 : List ByteArray), Aside0 (z1.length = n1 + 40 ∧ ∀ x ∈ z1, x = ⟨#[33]⟩) ∧ Aside0 (OS te wr G1 z1) ∧ Aside0 (∀ k, G1.ownBlock = some k → v2.ownBlock ≠ some k) ∧ Aside0 (wr.ownsRow w.heap.size ts 1 s5 1 [G1])) ∨
 (i = 2 ∧ ∃ (G1 : Value) (z1 : List ByteArray) (G2 : Value) (z2 : List ByteArray), Aside0 (z1.length = n1 + 40 ∧ ∀ x ∈ z1, x = ⟨#[33]⟩) ∧ Aside0 (z2.length = n2 + 40 ∧ ∀ x ∈ z2, x = ⟨#[33, 33]⟩) ∧ Aside0 (OS te wr G1 z1) ∧ Aside0 (OS te wr G2 z2) ∧ Aside0 (wr.ownsRow w.heap.size ts 1 s5 2 [G1, G2]))
theorem ApSt.zero {ts te : TypeId} {w wr : World} {v2 : Value} {n1 n2 : Nat} {s5 : Value} (h : ApSt ts te w wr v2 n1 n2 0 s5) : s5 = .slice none 0 0 := by
 rcases h with ⟨_, h⟩ | ⟨h, _⟩ | ⟨h, _⟩
 ·exact h
 ·exact absurd h (by decide)
 ·exact absurd h (by decide)
theorem ApSt.one {ts te : TypeId} {w wr : World} {v2 : Value} {n1 n2 : Nat} {s5 : Value} (h : ApSt ts te w wr v2 n1 n2 1 s5) : ∃ (G1 : Value) (z1 : List ByteArray), Aside0 (z1.length = n1 + 40 ∧ ∀ x ∈ z1, x = ⟨#[33]⟩) ∧ Aside0 (OS te wr G1 z1) ∧ Aside0 (∀ k, G1.ownBlock = some k → v2.ownBlock ≠ some k) ∧ Aside0 (wr.ownsRow w.heap.size ts 1 s5 1 [G1]) := by
 rcases h with ⟨h, _⟩ | ⟨_, h⟩ | ⟨h, _⟩
 ·exact absurd h (by decide)
 ·exact h
 ·exact absurd h (by decide)
theorem ApSt.two {ts te : TypeId} {w wr : World} {v2 : Value} {n1 n2 : Nat} {s5 : Value} (h : ApSt ts te w wr v2 n1 n2 2 s5) : ∃ (G1 : Value) (z1 : List ByteArray) (G2 : Value) (z2 : List ByteArray), Aside0 (z1.length = n1 + 40 ∧ ∀ x ∈ z1, x = ⟨#[33]⟩) ∧ Aside0 (z2.length = n2 + 40 ∧ ∀ x ∈ z2, x = ⟨#[33, 33]⟩) ∧ Aside0 (OS te wr G1 z1) ∧ Aside0 (OS te wr G2 z2) ∧ Aside0 (wr.ownsRow w.heap.size ts 1 s5 2 [G1, G2]) := by
 rcases h with ⟨h, _⟩ | ⟨h, _⟩ | ⟨_, h⟩
 ·exact absurd h (by decide)
 ·exact absurd h (by decide)
 ·exact h
theorem mark_at0 (w : World) : Calls Tryd.prog 58 #[.int .i64 ((0 : Nat) : Int)] w fun e w' => e = .returned (.string ⟨#[33]⟩) ∧ w' = w := mark_at 0 (by omega) w
theorem mark_at1 (w : World) : Calls Tryd.prog 58 #[.int .i64 ((1 : Nat) : Int)] w fun e w' => e = .returned (.string ⟨#[33, 33]⟩) ∧ w' = w := mark_at 1 (by omega) w
theorem mark_q0 (w : World) : Calls Tryd.prog 58 #[.int .i64 ((0 : Nat) : Int)] w fun e w' => e = .returned (.string ⟨#[33]⟩) ∧ Drawn0 w w' := (mark_at0 w).mono fun _ _ ⟨he, hw⟩ => ⟨he, hw ▸ Drawn0.refl _⟩
theorem mark_q1 (w : World) : Calls Tryd.prog 58 #[.int .i64 ((1 : Nat) : Int)] w fun e w' => e = .returned (.string ⟨#[33, 33]⟩) ∧ Drawn0 w w' := (mark_at1 w).mono fun _ _ ⟨he, hw⟩ => ⟨he, hw ▸ Drawn0.refl _⟩
theorem cell_at {w : World} {g j : Nat} {cs : Array Value} {t : TypeId} {fr : Nat × Nat} {v : Value} (h : w.heap[g]? = some (.cells cs t fr)) (hj : cs[j]? = some v) : w.cell? ⟨g, j, none⟩ = some v := by simp [World.cell?, h, hj]
theorem OS.head {e : TypeId} {w : World} {A : Option Addr} {n c : Nat} {xs : List ByteArray} (h : OS e w (.slice A n c) xs) (h0 : 0 < xs.length) : n = xs.length ∧ ∃ g, A = some ⟨g, 0, none⟩ := by
 obtain ⟨g, cap, he, _⟩ := World.ownsRow.form h h0
 injection he with h1 h2 h3
 exact ⟨h2, g, h1⟩
theorem OS.at_ {e : TypeId} {w : World} {g n c : Nat} {xs : List ByteArray} (h : OS e w (.slice (some ⟨g, 0, none⟩) n c) xs) (j : Nat) (hj : j < xs.length) : w.cell? ⟨g, j, none⟩ = some (.string (xs.getD j ByteArray.empty)) ∧ w.frozen? ⟨g, j, none⟩ = false := by
 have hn : n = xs.length := (OS.head h (by omega)).1
 subst hn
 have := own_at_of (enc := Value.string) (d := ByteArray.empty) (xs := xs) (show w.ownsRow 0 e 1 (.slice (some ⟨g, 0, none⟩) xs.length c) xs.length (encs Value.string xs) from h) (j : Int) (by omega) (by omega)
 rw [Int.toNat_natCast] at this
 refine ⟨?_, this.2⟩
 rw [this.1]; simp [rdOf]
theorem quiet_add {P : Program} {f : FuncId} {args : Array Value} {w : World} {m n : Nat} {v : Value} (h : Calls P f args (w.drewN (m + n)) fun e w' => e = .returned v ∧ Drawn0 (w.drewN (m + n)) w') :
  Calls P f args (w.drewN (m + n)) fun e w'' => e = .returned v ∧ ∃ q, w'' = w.drewN (m + q) :=
 h.mono fun _ _ ⟨he, ⟨q, hq⟩⟩ => ⟨he, n + q, by rw [hq, World.drewN_drewN, Nat.add_assoc]⟩
set_option maxRecDepth 100000 in
set_option maxHeartbeats 4000000 in
theorem apart03 (w : World) (B gl gw : Nat) (v1 v2 : Value) (x1 x2 : List ByteArray) (B1 B2 : Option Addr) (d1 d2 : Nat)
  (hl : w.heap[gl]? = some (.cells #[v1, v2] 22 (0, 0))) (hw : w.heap[gw]? = some (.cells #[.slice B1 x1.length d1, .slice B2 x2.length d2] 22 (0, 0)))
  (o1 : OS 9 w v1 x1) (o2 : OS 9 w v2 x2) (b1 : ∀ k, v1.ownBlock = some k → B ≤ k) (b2 : ∀ k, v2.ownBlock = some k → B ≤ k) (hd : ∀ k, v1.ownBlock = some k → v2.ownBlock ≠ some k)
  (c1 : Kd.C Kd.string w B1 x1.length x1) (e1 : x1.length ≤ d1) (c2 : Kd.C Kd.string w B2 x2.length x2) (e2 : x2.length ≤ d2) (h1 : x1.length ≤ 4294967000) (h2 : x2.length ≤ 4294967000) (hB : B ≤ w.heap.size) :
  Calls Tryd.prog 25 #[.slice (some ⟨gl, 0, none⟩) 2 2, .slice (some ⟨gw, 0, none⟩) 2 2] w fun e w' => e = .returned (.bool true) ∧ Below B w w' := by
 obtain ⟨kt1, t1⟩ := Ev.rounds (texts_same x1 (by omega))
 obtain ⟨kt2, t2⟩ := Ev.rounds (texts_same x2 (by omega))
 obtain ⟨A1, n1, rfl, l1, r1⟩ := o1.reads
 obtain ⟨A2, n2, rfl, l2, r2⟩ := o2.reads
 have T1 := Aside0.mk t1
 have T2 := Aside0.mk t2
 have O1 := Aside0.mk o1
 have O2 := Aside0.mk o2
 have C1 := Aside0.mk c1
 have C2 := Aside0.mk c2
 have R1 := Aside0.mk r1
 have R2 := Aside0.mk r2
 have D := Aside0.mk hd
 have b1' := Aside0.mk b1
 have b2' := Aside0.mk b2
 have HL := Aside0.mk hl
 have HW := Aside0.mk hw
 clear t1 t2 o1 o2 c1 c2 r1 r2 hd b1 b2 hl hw
 have hgl : gl < w.heap.size := (Array.getElem?_eq_some_iff.1 HL.out).1
 have p0 := cell_at (j := 0) HL.out rfl
 have p1 := cell_at (j := 1) HL.out rfl
 have q0 := cell_at (j := 0) HW.out rfl
 have q1 := cell_at (j := 1) HW.out rfl
 go_enter Tryd.func25, Tryd.ntmps25
 go_wp2
 go_loopg [6] 2 (fun gg s6 wr => ∃ i : Nat, i ≤ 2 ∧ 2 - i ≤ gg ∧ s6 = .int .i64 i ∧ Drawn0 w wr)
 case atStart => exact ⟨0, by omega, by omega, rfl, Drawn0.refl _⟩
 case round =>
  obtain ⟨i, hi, hg, rfl, ⟨m, rfl⟩⟩ := hrel
  obtain rfl | rfl | rfl : i = 0 ∨ i = 1 ∨ i = 2 := by omega
  ·go_wp2
   go_quiet ((go_at_call 14; exact quiet_add (copselaw03_texts.calls kt1 _ _ x1 _ _ x1 true _ (Kd.C_drewN R1.out _) l1 (Kd.C_drewN C1.out _) e1 T1.out)))
   go_wp2
   go_roundg 1
   case measure => omega
   case rel => exact ⟨1, by omega, by omega, by go_num, ⟨_, rfl⟩⟩
  ·go_wp2
   go_quiet ((go_at_call 14; exact quiet_add (copselaw03_texts.calls kt2 _ _ x2 _ _ x2 true _ (Kd.C_drewN R2.out _) l2 (Kd.C_drewN C2.out _) e2 T2.out)))
   go_wp2
   go_roundg 0
   case measure => omega
   case rel => exact ⟨2, by omega, by omega, by go_num, ⟨_, rfl⟩⟩
  ·go_wp2
   go_loopg [7] 2 (fun gg s7 wr => ∃ (i : Nat) (y1 y2 : List ByteArray), i ≤ 2 ∧ 2 - i ≤ gg ∧ s7 = .int .i64 i ∧ Aside0 (y1.length = x1.length) ∧ Aside0 (y2.length = x2.length) ∧ Aside0 (OS 9 wr (.slice A1 x1.length n1) y1) ∧ Aside0 (OS 9 wr (.slice A2 x2.length n2) y2) ∧ Aside0 (1 ≤ i → ∀ x ∈ y1, x = ⟨#[33]⟩) ∧ Aside0 (2 ≤ i → ∀ x ∈ y2, x = ⟨#[33, 33]⟩) ∧ Aside0 (wr.heap[gl]? = some (.cells #[.slice A1 x1.length n1, .slice A2 x2.length n2] 22 (0, 0))) ∧ Aside0 (Below B w wr))
   case atStart =>
    have hb := (Drawn0.mk ⟨m, rfl⟩ : Drawn0 w (w.drewN m)).below
    exact ⟨0, x1, x2, by omega, by omega, rfl, ⟨rfl⟩, ⟨rfl⟩, ⟨O1.out.below hb⟩, ⟨O2.out.below hb⟩, ⟨fun h => absurd h (by omega)⟩, ⟨fun h => absurd h (by omega)⟩, ⟨HL.out⟩, ⟨hb.mono hB⟩⟩
   case round =>
    obtain ⟨i, y1, y2, hi, hg, rfl, Y1, Y2, P1, P2, M1, M2, HL1, BW⟩ := hrel
    clear p0 p1 q0 q1 R1 R2 C1 C2 T1 T2
    have p0 := cell_at (j := 0) HL1.out rfl
    have p1 := cell_at (j := 1) HL1.out rfl
    obtain rfl | rfl | rfl : i = 0 ∨ i = 1 ∨ i = 2 := by omega
    ·go_wp2
     go_loopg [8] x1.length (fun gg s8 wz => ∃ (j : Nat) (y : List ByteArray), j ≤ x1.length ∧ x1.length - j ≤ gg ∧ s8 = .int .i64 j ∧ Aside0 (y.length = x1.length) ∧ Aside0 (OS 9 wz (.slice A1 x1.length n1) y) ∧ Aside0 (∀ q, q < j → y[q]? = some ⟨#[33]⟩) ∧ Aside0 (OS 9 wz (.slice A2 x2.length n2) y2) ∧ Aside0 (wz.heap[gl]? = some (.cells #[.slice A1 x1.length n1, .slice A2 x2.length n2] 22 (0, 0))) ∧ Aside0 (Below B w wz))
     case atStart => exact ⟨0, y1, by omega, by omega, rfl, Y1, P1, ⟨fun q h => absurd h (by omega)⟩, P2, HL1, BW⟩
     case round =>
      obtain ⟨j, y, hj, hgj, rfl, Y, P, M, P2', HL2, BW2⟩ := hrel
      clear p0 p1 P1 P2 HL1 BW
      have p0 := cell_at (j := 0) HL2.out rfl
      by_cases hlt : j < x1.length
      ·have hltz : (j : Int) < (x1.length : Int) := by omega
       obtain ⟨g1, rfl⟩ := (P.out.head (by have := Y.out; omega)).2
       obtain ⟨hcj, hfj⟩ := P.out.at_ j (by have := Y.out; omega)
       go_wp2
       go_still_tail 8, (by kernel_rfl)
       still_call (mark_at0 _)
       repeat still_step
       refine wpStill_nil ?_
       change wpList _ _ _ _ _ wr.drew
       have PD := Aside0.mk (show OS 9 wr.drew (.slice (some ⟨g1, 0, none⟩) x1.length n1) y from P.out)
       have P2D := Aside0.mk (show OS 9 wr.drew (.slice A2 x2.length n2) y2 from P2'.out)
       have HLD := Aside0.mk (show wr.drew.heap[gl]? = some (.cells #[.slice (some ⟨g1, 0, none⟩) x1.length n1, .slice A2 x2.length n2] 22 (0, 0)) from HL2.out)
       have BD := Aside0.mk (below_drew BW2.out)
       have hcd : wr.drew.cell? ⟨g1, j, none⟩ = some (.string (y.getD j ByteArray.empty)) := hcj
       have hfd : wr.drew.frozen? ⟨g1, j, none⟩ = false := hfj
       clear P P2' HL2 BW2 hcj hfj p0
       generalize wr.drew = w2 at PD P2D HLD BD hcd hfd ⊢
       go_wp2
       have hgl : g1 ≠ gl := by
        rintro rfl
        obtain ⟨cs, hcs⟩ := own_typed PD.out g1 rfl
        rw [HLD.out] at hcs
        injection hcs with hcs; injection hcs with _ hcs; exact absurd hcs (by decide)
       go_roundg (x1.length - (j + 1))
       case measure => omega
       case rel =>
        refine ⟨j + 1, y.set j ⟨#[33]⟩, by omega, by omega, by go_num, ⟨by rw [List.length_set]; exact Y.out⟩, ⟨PD.out.set Y.out.symm j _⟩, ⟨fun q hq => ?_⟩, ⟨P2D.out.far _ fun k hk => ?_⟩, ⟨?_⟩, ⟨?_⟩⟩
        ·by_cases e : q = j
         ·subst e; rw [List.getElem?_set_self (by have := Y.out; omega)]
         ·rw [List.getElem?_set_ne (by omega)]; exact M.out q (by omega)
        ·rintro rfl; exact D.out k rfl hk
        ·rw [Below.heap_setCell w2 ⟨g1, j, none⟩ _ gl (Ne.symm hgl)]; exact HLD.out
        ·exact BD.out.setCell (b1'.out g1 rfl) _
      ·have hltz : ¬ (j : Int) < (x1.length : Int) := by omega
       obtain rfl : j = x1.length := by omega
       go_wp2
       go_roundg 1
       case measure => omega
       case rel =>
        refine ⟨1, y, y2, by omega, by omega, by go_num, Y, Y2, P, P2', ⟨fun _ x hx => ?_⟩, ⟨fun h => absurd h (by omega)⟩, HL2, BW2⟩
        obtain ⟨q, hq, rfl⟩ := List.getElem_of_mem hx
        have := M.out q (by have := Y.out; omega)
        rw [List.getElem?_eq_getElem hq] at this
        exact Option.some.inj this
    ·go_wp2
     go_loopg [8] x2.length (fun gg s8 wz => ∃ (j : Nat) (y : List ByteArray), j ≤ x2.length ∧ x2.length - j ≤ gg ∧ s8 = .int .i64 j ∧ Aside0 (y.length = x2.length) ∧ Aside0 (OS 9 wz (.slice A2 x2.length n2) y) ∧ Aside0 (∀ q, q < j → y[q]? = some ⟨#[33, 33]⟩) ∧ Aside0 (OS 9 wz (.slice A1 x1.length n1) y1) ∧ Aside0 (wz.heap[gl]? = some (.cells #[.slice A1 x1.length n1, .slice A2 x2.length n2] 22 (0, 0))) ∧ Aside0 (Below B w wz))
     case atStart => exact ⟨0, y2, by omega, by omega, rfl, Y2, P2, ⟨fun q h => absurd h (by omega)⟩, P1, HL1, BW⟩
     case round =>
      obtain ⟨j, y, hj, hgj, rfl, Y, P, M, P2', HL2, BW2⟩ := hrel
      clear p0 p1 P1 P2 HL1 BW
      have p0 := cell_at (j := 1) HL2.out rfl
      by_cases hlt : j < x2.length
      ·have hltz : (j : Int) < (x2.length : Int) := by omega
       obtain ⟨g1, rfl⟩ := (P.out.head (by have := Y.out; omega)).2
       obtain ⟨hcj, hfj⟩ := P.out.at_ j (by have := Y.out; omega)
       go_wp2
       go_still_tail 8, (by kernel_rfl)
       still_call (mark_at1 _)
       repeat still_step
       refine wpStill_nil ?_
       change wpList _ _ _ _ _ wr.drew
       have PD := Aside0.mk (show OS 9 wr.drew (.slice (some ⟨g1, 0, none⟩) x2.length n2) y from P.out)
       have P2D := Aside0.mk (show OS 9 wr.drew (.slice A1 x1.length n1) y1 from P2'.out)
       have HLD := Aside0.mk (show wr.drew.heap[gl]? = some (.cells #[.slice A1 x1.length n1, .slice (some ⟨g1, 0, none⟩) x2.length n2] 22 (0, 0)) from HL2.out)
       have BD := Aside0.mk (below_drew BW2.out)
       have hcd : wr.drew.cell? ⟨g1, j, none⟩ = some (.string (y.getD j ByteArray.empty)) := hcj
       have hfd : wr.drew.frozen? ⟨g1, j, none⟩ = false := hfj
       clear P P2' HL2 BW2 hcj hfj p0
       generalize wr.drew = w2 at PD P2D HLD BD hcd hfd ⊢
       go_wp2
       have hgl : g1 ≠ gl := by
        rintro rfl
        obtain ⟨cs, hcs⟩ := own_typed PD.out g1 rfl
        rw [HLD.out] at hcs
        injection hcs with hcs; injection hcs with _ hcs; exact absurd hcs (by decide)
       go_roundg (x2.length - (j + 1))
       case measure => omega
       case rel =>
        refine ⟨j + 1, y.set j ⟨#[33, 33]⟩, by omega, by omega, by go_num, ⟨by rw [List.length_set]; exact Y.out⟩, ⟨PD.out.set Y.out.symm j _⟩, ⟨fun q hq => ?_⟩, ⟨P2D.out.far _ fun k hk => ?_⟩, ⟨?_⟩, ⟨?_⟩⟩
        ·by_cases e : q = j
         ·subst e; rw [List.getElem?_set_self (by have := Y.out; omega)]
         ·rw [List.getElem?_set_ne (by omega)]; exact M.out q (by omega)
        ·rintro rfl; exact D.out k hk rfl
        ·rw [Below.heap_setCell w2 ⟨g1, j, none⟩ _ gl (Ne.symm hgl)]; exact HLD.out
        ·exact BD.out.setCell (b2'.out g1 rfl) _
      ·have hltz : ¬ (j : Int) < (x2.length : Int) := by omega
       obtain rfl : j = x2.length := by omega
       go_wp2
       go_roundg 0
       case measure => omega
       case rel =>
        refine ⟨2, y1, y, by omega, by omega, by go_num, Y1, Y, P2', P, ⟨fun _ => M1.out (by omega)⟩, ⟨fun _ x hx => ?_⟩, HL2, BW2⟩
        obtain ⟨q, hq, rfl⟩ := List.getElem_of_mem hx
        have := M.out q (by have := Y.out; omega)
        rw [List.getElem?_eq_getElem hq] at this
        exact Option.some.inj this
    ·have hb0 := BW.out
     replace M1 := Aside0.mk (M1.out (by omega))
     replace M2 := Aside0.mk (M2.out (by omega))
     go_wp2
     go_loopg [5, 9] 2 (fun gg s5 s9 wr => ∃ i : Nat, i ≤ 2 ∧ 2 - i ≤ gg ∧ s9 = .int .i64 i ∧ Aside0 (OS 9 wr (.slice A1 x1.length n1) y1) ∧ Aside0 (OS 9 wr (.slice A2 x2.length n2) y2) ∧ Aside0 (wr.heap[gl]? = some (.cells #[.slice A1 x1.length n1, .slice A2 x2.length n2] 22 (0, 0))) ∧ Aside0 (Below B w wr) ∧ ApSt 22 9 w wr (.slice A2 x2.length n2) x1.length x2.length i s5)
     case atStart => exact ⟨0, by omega, by omega, rfl, P1, P2, HL1, BW, .inl ⟨rfl, rfl⟩⟩
     case round =>
      obtain ⟨i, hi, hg, rfl, P1, P2, HL1, BW, ST⟩ := hrel
      clear p0 p1 hb0
      have p0 := cell_at (j := 0) HL1.out rfl
      have p1 := cell_at (j := 1) HL1.out rfl
      obtain rfl | rfl | rfl : i = 0 ∨ i = 1 ∨ i = 2 := by omega
      ·obtain rfl : u5 = .slice none 0 0 := ST.zero
       have MO : Aside0 (wr.ownsRow w.heap.size 22 1 (.slice none 0 0) 0 []) := ⟨World.ownsRow_nil _ _ _ _⟩
       go_wp2
       go_loopg [10, 11] 40 (fun gg s10 s11 wz => ∃ (j : Nat) (zs : List ByteArray), j ≤ 40 ∧ 40 - j ≤ gg ∧ s11 = .int .i64 j ∧ Aside0 (zs.length = x1.length + j ∧ ∀ x ∈ zs, x = ⟨#[33]⟩) ∧ Aside0 (OS 9 wz s10 zs) ∧ Aside0 (OS 9 wz (.slice A1 x1.length n1) y1) ∧ Aside0 (∀ k, s10.ownBlock = some k → B ≤ k) ∧ Aside0 (∀ p ∈ ([(.slice A2 x2.length n2, y2)] : List (Value × List ByteArray)), OS 9 wz p.1 p.2 ∧ ∀ k, p.1.ownBlock = some k → s10.ownBlock ≠ some k) ∧ Aside0 (wz.ownsRow w.heap.size 22 1 (.slice none 0 0) 0 []) ∧ Aside0 (wz.heap[gl]? = some (.cells #[.slice A1 x1.length n1, .slice A2 x2.length n2] 22 (0, 0))) ∧ Aside0 (Below B w wz))
       case atStart => exact ⟨0, y1, by omega, by omega, rfl, ⟨⟨by have := Y1.out; omega, M1.out⟩⟩, P1, P1, b1', ⟨fun p hp => by rcases List.mem_singleton.1 hp with rfl; exact ⟨P2.out, fun k hk hk2 => D.out k hk2 hk⟩⟩, MO, HL1, BW⟩
       case round =>
        obtain ⟨j, zs, hj, hgj, rfl, ZS, OZ, OV, BZ, OO, MO2, HL2, BW2⟩ := hrel
        clear p0 p1 P1 P2 HL1 BW MO
        have hBz : B ≤ wr.heap.size := Nat.le_trans hB BW2.out.size
        by_cases hlt : j < 40
        ·have hltz : (j : Int) < 40 := by omega
         go_wp2_with (first | (go_at_call 58; refine (mark_at0 _).mono ?_; rintro e w' ⟨rfl, rfl⟩) | (at_builtin; refine app_alias (w0 := w) B rfl (.tmp 66) (.tmp 69) 22 9 rfl Tryd.underlying22 info9s u10 zs ⟨#[33]⟩ rfl rfl OZ.out BZ.out BW2.out hBz (by have := ZS.out.1; omega) ?_; intro v1 wn hO1 hB1 hW1 hg1 hat1 keep))
         go_roundg (40 - (j + 1))
         case measure => omega
         case rel =>
          have hgs : some gl ≠ u10.ownBlock := fun e => by
           obtain ⟨cs, hcs⟩ := own_typed OZ.out gl e.symm
           rw [HL2.out] at hcs
           injection hcs with hcs; injection hcs with _ hcs; exact absurd hcs (by decide)
          refine ⟨j + 1, zs ++ [⟨#[33]⟩], by omega, by omega, by go_num, ⟨⟨by rw [List.length_append, ZS.out.1]; simp; omega, fun x hx => ?_⟩⟩, ⟨hO1⟩, ⟨keep _ _ (fun k _ _ => by have := ZS.out.1; have := Y1.out; omega) OV.out⟩, ⟨hB1⟩, ⟨fun p hp => ⟨keep _ _ (fun k hk hk2 => absurd hk2 ((OO.out p hp).2 k hk)) (OO.out p hp).1, fun k hk hk2 => ?_⟩⟩, ⟨own_other MO2.out hg1 (own_type_ne MO2.out OZ.out (by decide))⟩, ⟨(hg1.block gl (Nat.lt_of_lt_of_le hgl BW2.out.size) hgs).trans HL2.out⟩, ⟨hW1⟩⟩
          ·rcases List.mem_append.1 hx with hx | hx
           ·exact ZS.out.2 x hx
           ·exact List.mem_singleton.1 hx
          ·rcases hat1 with hat1 | ⟨b, hb, hlb⟩
           ·exact (OO.out p hp).2 k hk (hat1.symm.trans hk2)
           ·have := own_lt (OO.out p hp).1 k hk
            rw [hb] at hk2
            injection hk2 with hk2
            omega
        ·have hltz : ¬ (j : Int) < 40 := by omega
         obtain rfl : j = 40 := by omega
         obtain ⟨AG, cG, rfl, _, _⟩ := OZ.out.reads
         go_wp2_with (at_builtin; refine print_append (w0 := wr) w.heap.size rfl (.tmp 71) (.tmp 73) 35 22 (.slice none 0 0) 24 rfl Tryd.underlying35 infoSS rfl (by decide) (.slice none 0 0) [] (.slice AG zs.length cG) rfl rfl rfl MO2.out (Below.refl _ _) BW2.out.size (by simp) ?_; intro v5 wn hown hbW hgW _)
         go_roundg 1
         case measure => omega
         case rel =>
          have keep2 : ∀ u ys, OS 9 wr u ys → OS 9 wn u ys := fun u ys hu => own_other hu hgW (own_type_ne hu MO2.out (by decide))
          exact ⟨1, by omega, by omega, by go_num, ⟨keep2 _ _ OV.out⟩, ⟨keep2 _ _ (OO.out _ List.mem_cons_self).1⟩, ⟨(hbW.block gl hgl).trans HL2.out⟩, ⟨BW2.out.trans (hbW.mono hB)⟩, .inr (.inl ⟨rfl, _, zs, ⟨ZS.out⟩, ⟨keep2 _ _ OZ.out⟩, ⟨fun k hk hk2 => (OO.out _ List.mem_cons_self).2 k hk2 hk⟩, ⟨hown⟩⟩)⟩
      ·obtain ⟨G1, z1, ZG1, OG1, NG1, MO⟩ := ST.one
       go_wp2
       go_loopg [10, 11] 40 (fun gg s10 s11 wz => ∃ (j : Nat) (zs : List ByteArray), j ≤ 40 ∧ 40 - j ≤ gg ∧ s11 = .int .i64 j ∧ Aside0 (zs.length = x2.length + j ∧ ∀ x ∈ zs, x = ⟨#[33, 33]⟩) ∧ Aside0 (OS 9 wz s10 zs) ∧ Aside0 (OS 9 wz (.slice A2 x2.length n2) y2) ∧ Aside0 (∀ k, s10.ownBlock = some k → B ≤ k) ∧ Aside0 (∀ p ∈ ([(.slice A1 x1.length n1, y1), (G1, z1)] : List (Value × List ByteArray)), OS 9 wz p.1 p.2 ∧ ∀ k, p.1.ownBlock = some k → s10.ownBlock ≠ some k) ∧ Aside0 (wz.ownsRow w.heap.size 22 1 (u5) 1 [G1]) ∧ Aside0 (wz.heap[gl]? = some (.cells #[.slice A1 x1.length n1, .slice A2 x2.length n2] 22 (0, 0))) ∧ Aside0 (Below B w wz))
       case atStart => exact ⟨0, y2, by omega, by omega, rfl, ⟨⟨by have := Y2.out; omega, M2.out⟩⟩, P2, P2, b2', ⟨fun p hp => by rcases List.mem_cons.1 hp with rfl | hp; exact ⟨P1.out, fun k hk hk2 => D.out k hk hk2⟩; rcases List.mem_singleton.1 hp with rfl; exact ⟨OG1.out, fun k hk hk2 => NG1.out k hk hk2⟩⟩, MO, HL1, BW⟩
       case round =>
        obtain ⟨j, zs, hj, hgj, rfl, ZS, OZ, OV, BZ, OO, MO2, HL2, BW2⟩ := hrel
        clear p0 p1 P1 P2 HL1 BW MO
        have hBz : B ≤ wr.heap.size := Nat.le_trans hB BW2.out.size
        by_cases hlt : j < 40
        ·have hltz : (j : Int) < 40 := by omega
         go_wp2_with (first | (go_at_call 58; refine (mark_at1 _).mono ?_; rintro e w' ⟨rfl, rfl⟩) | (at_builtin; refine app_alias (w0 := w) B rfl (.tmp 66) (.tmp 69) 22 9 rfl Tryd.underlying22 info9s u10 zs ⟨#[33, 33]⟩ rfl rfl OZ.out BZ.out BW2.out hBz (by have := ZS.out.1; omega) ?_; intro v1 wn hO1 hB1 hW1 hg1 hat1 keep))
         go_roundg (40 - (j + 1))
         case measure => omega
         case rel =>
          have hgs : some gl ≠ u10.ownBlock := fun e => by
           obtain ⟨cs, hcs⟩ := own_typed OZ.out gl e.symm
           rw [HL2.out] at hcs
           injection hcs with hcs; injection hcs with _ hcs; exact absurd hcs (by decide)
          refine ⟨j + 1, zs ++ [⟨#[33, 33]⟩], by omega, by omega, by go_num, ⟨⟨by rw [List.length_append, ZS.out.1]; simp; omega, fun x hx => ?_⟩⟩, ⟨hO1⟩, ⟨keep _ _ (fun k _ _ => by have := ZS.out.1; have := Y2.out; omega) OV.out⟩, ⟨hB1⟩, ⟨fun p hp => ⟨keep _ _ (fun k hk hk2 => absurd hk2 ((OO.out p hp).2 k hk)) (OO.out p hp).1, fun k hk hk2 => ?_⟩⟩, ⟨own_other MO2.out hg1 (own_type_ne MO2.out OZ.out (by decide))⟩, ⟨(hg1.block gl (Nat.lt_of_lt_of_le hgl BW2.out.size) hgs).trans HL2.out⟩, ⟨hW1⟩⟩
          ·rcases List.mem_append.1 hx with hx | hx
           ·exact ZS.out.2 x hx
           ·exact List.mem_singleton.1 hx
          ·rcases hat1 with hat1 | ⟨b, hb, hlb⟩
           ·exact (OO.out p hp).2 k hk (hat1.symm.trans hk2)
           ·have := own_lt (OO.out p hp).1 k hk
            rw [hb] at hk2
            injection hk2 with hk2
            omega
        ·have hltz : ¬ (j : Int) < 40 := by omega
         obtain rfl : j = 40 := by omega
         obtain ⟨AG, cG, rfl, _, _⟩ := OZ.out.reads
         go_wp2_with (at_builtin; refine print_append (w0 := wr) w.heap.size rfl (.tmp 71) (.tmp 73) 35 22 (.slice none 0 0) 24 rfl Tryd.underlying35 infoSS rfl (by decide) (u5) [G1] (.slice AG zs.length cG) rfl rfl rfl MO2.out (Below.refl _ _) BW2.out.size (by simp) ?_; intro v5 wn hown hbW hgW _)
         go_roundg 0
         case measure => omega
         case rel =>
          have keep2 : ∀ u ys, OS 9 wr u ys → OS 9 wn u ys := fun u ys hu => own_other hu hgW (own_type_ne hu MO2.out (by decide))
          exact ⟨2, by omega, by omega, by go_num, ⟨keep2 _ _ (OO.out _ List.mem_cons_self).1⟩, ⟨keep2 _ _ OV.out⟩, ⟨(hbW.block gl hgl).trans HL2.out⟩, ⟨BW2.out.trans (hbW.mono hB)⟩, .inr (.inr ⟨rfl, G1, z1, _, zs, ⟨ZG1.out⟩, ⟨ZS.out⟩, ⟨keep2 _ _ (OO.out _ (List.mem_cons_of_mem _ List.mem_cons_self)).1⟩, ⟨keep2 _ _ OZ.out⟩, ⟨hown⟩⟩)⟩
      ·obtain ⟨G1, z1, G2, z2, Z1, Z2, Q1, Q2, MO⟩ := ST.two
       obtain ⟨kf0, f0⟩ := full_ev ⟨#[33]⟩ y1 (by have := Y1.out; omega) M1.out
       have F0 : Aside0 (∀ q, Calls Tryd.prog 59 #[.slice A1 x1.length n1, .string ⟨#[33]⟩] (wr.drewN q) fun e w' => e = .returned (.bool true) ∧ Drawn0 (wr.drewN q) w') := ⟨fun q => by
        have hc := OS.C_ P1.out Y1.out.symm
        rw [← Y1.out]
        exact copselaw03_full.calls kf0 _ _ y1 _ true _ (Kd.C_drewN hc.1 _) hc.2 f0⟩
       obtain ⟨kg0, g0⟩ := full_ev ⟨#[33]⟩ z1 (by have := Z1.out.1; omega) Z1.out.2
       obtain ⟨AG0, cG0, rfl, lG0, rG0⟩ := Q1.out.reads
       have H0 : Aside0 (∀ q, Calls Tryd.prog 59 #[.slice AG0 z1.length cG0, .string ⟨#[33]⟩] (wr.drewN q) fun e w' => e = .returned (.bool true) ∧ Drawn0 (wr.drewN q) w') := ⟨fun q => copselaw03_full.calls kg0 _ _ z1 _ true _ (Kd.C_drewN rG0 _) lG0 g0⟩
       obtain ⟨kf1, f1⟩ := full_ev ⟨#[33, 33]⟩ y2 (by have := Y2.out; omega) M2.out
       have F1 : Aside0 (∀ q, Calls Tryd.prog 59 #[.slice A2 x2.length n2, .string ⟨#[33, 33]⟩] (wr.drewN q) fun e w' => e = .returned (.bool true) ∧ Drawn0 (wr.drewN q) w') := ⟨fun q => by
        have hc := OS.C_ P2.out Y2.out.symm
        rw [← Y2.out]
        exact copselaw03_full.calls kf1 _ _ y2 _ true _ (Kd.C_drewN hc.1 _) hc.2 f1⟩
       obtain ⟨kg1, g1⟩ := full_ev ⟨#[33, 33]⟩ z2 (by have := Z2.out.1; omega) Z2.out.2
       obtain ⟨AG1, cG1, rfl, lG1, rG1⟩ := Q2.out.reads
       have H1 : Aside0 (∀ q, Calls Tryd.prog 59 #[.slice AG1 z2.length cG1, .string ⟨#[33, 33]⟩] (wr.drewN q) fun e w' => e = .returned (.bool true) ∧ Drawn0 (wr.drewN q) w') := ⟨fun q => copselaw03_full.calls kg1 _ _ z2 _ true _ (Kd.C_drewN rG1 _) lG1 g1⟩
       obtain ⟨gm, cm, rfl, _, _⟩ := World.ownsRow.form MO.out (by decide)
       have e0 : wr.cell? ⟨gm, 0, none⟩ = some (.slice AG0 z1.length cG0) := by have := MO.out.cells (g := gm) rfl 0 _ rfl; rwa [add_plain] at this
       have e1 : wr.cell? ⟨gm, 1, none⟩ = some (.slice AG1 z2.length cG1) := by have := MO.out.cells (g := gm) rfl 1 _ rfl; rwa [add_plain] at this
       clear rG0 rG1 f0 f1 g0 g1
       go_wp2
       obtain ⟨wo, hwo⟩ : ∃ wo : World, wo = wr := ⟨_, rfl⟩
       rw [← hwo] at e0 e1 p0 p1 BW F0 F1 H0 H1
       go_loopg [12] 2 (fun gg s12 wz => ∃ i : Nat, i ≤ 2 ∧ 2 - i ≤ gg ∧ s12 = .int .i64 i ∧ Drawn0 wo wz)
       case atStart => exact ⟨0, by omega, by omega, rfl, hwo ▸ Drawn0.refl _⟩
       case round =>
        clear hwo
        obtain ⟨i, hi, hg, rfl, ⟨mq, rfl⟩⟩ := hrel
        obtain rfl | rfl | rfl : i = 0 ∨ i = 1 ∨ i = 2 := by omega
        ·have p0' := p0
         have e0' := e0
         go_wp2
         go_quiet ((first | (go_at_call 58; exact quiet_add (mark_q0 _)) | (go_at_call 59; with_reducible exact quiet_add (F0.out _)) | (go_at_call 59; with_reducible exact quiet_add (H0.out _))))
         go_wp2
         go_roundg 1
         case measure => omega
         case rel => exact ⟨1, by omega, by omega, by go_num, ⟨_, rfl⟩⟩
        ·have p0' := p1
         have e0' := e1
         go_wp2
         go_quiet ((first | (go_at_call 58; exact quiet_add (mark_q1 _)) | (go_at_call 59; with_reducible exact quiet_add (F1.out _)) | (go_at_call 59; with_reducible exact quiet_add (H1.out _))))
         go_wp2
         go_roundg 0
         case measure => omega
         case rel => exact ⟨2, by omega, by omega, by go_num, ⟨_, rfl⟩⟩
        ·go_wp2
         go_ret
         exact ⟨rfl, pw_below_drewN BW.out _⟩
end Go.Proofs.YtdfkaclflmgkeaaDoor.PAll
