/-
  DERIVED: THE SHELF's CONTRACTS AT THIS DUMP, IN PLAIN WORDS (tools/lay-plain.mjs out of 'TrydShelfMin.lean', which tools/lay-shelf.mjs wrote): THE SAME DECLARATIONS UNDER THE SAME NAMES: 'import', 'namespace', 'open', 'def', 'theorem' AND NOTHING ELSE: no command of the shelf's: FOR A HAND-IN. Each laying: the table of numbers ('.._ren') and one theorem, a field a fact of the dump's own or the kernel's comparison; each contract: ONE APPLICATION.
-/
import Derived.Shelf.Small.Bits
import Derived.Shelf.Strconv.Itoa0
import Derived.Shelf.Strings.Search1
import Derived.Shelf.Strings.Search2
import Derived.Shelf.Strings.Search3
import Derived.Shelf.Strings.Count
import Derived.Shelf.LaysM
import Derived.Shelf.Strings.Shaped
import Derived.Shelf.Strings.Split
import Derived.Shelf.Unicode.DecodeSlow
import Derived.Shelf.Unicode.DecodeAny
import Derived.Ground.Names2Prog
import Derived.Shelf.Slices.Clone
import Derived.Shelf.Slices.CompactS
import Derived.Shelf.Slices.SearchI
import Derived.Shelf.Slices.Cells
import Derived.Ground.SlgnProg
import Derived.Shelf.SlicesE.Clone
import Derived.Ground.SlsfProg
import Derived.Shelf.SlSortCmp.Insertion
import Derived.Shelf.SlSortCmp.SiftDown1
import Derived.Shelf.SlSortCmp.HeapSort1
import Derived.Shelf.SlSortCmp.Insertion1
import Derived.Shelf.SlSortCmp.Median1
import Derived.Shelf.SlSortCmp.Pivot1
import Derived.Shelf.SlSortCmp.ReverseRange1
import Derived.Shelf.SlSortCmp.PartialInsertion1
import Derived.Shelf.SlSortCmp.PartitionEqual1
import Derived.Shelf.SlSortCmp.Partition1
import Derived.Shelf.SlSortCmp.Pdq1
import Derived.Shelf.SlSortCmp.Whole1
import Derived.Test.YtdfkaclflmgkeaaDoorProg
namespace Go.Proofs
open Go.Shelf
def Tryd.lays138_ren : Go.Shelf.Ren := ⟨fun | 138 => 90 | 195 => 108 | 218 => 109 | 143 => 110 | 219 => 117 | 217 => 120 | 225 => 121 | 224 => 122 | 267 => 123 | 266 => 125 | 314 => 126 | n => n, fun | 9 => 9 | 3 => 3 | 4 => 4 | 5 => 5 | 0 => 0 | 46 => 72 | 146 => 104 | 51 => 85 | n => n, fun | 1 => 0 | n => n⟩
theorem Tryd.lays138 : Go.Proofs.Lays.n138 Tryd.prog Tryd.lays138_ren := {
 mixed := by kernel_rfl
 f138 := Tryd.func90.trans (congrArg some (by kernel_rfl))
 f143 := Tryd.func110.trans (congrArg some (by kernel_rfl))
 f195 := Tryd.func108.trans (congrArg some (by kernel_rfl))
 f217 := Tryd.func120.trans (congrArg some (by kernel_rfl))
 f218 := Tryd.func109.trans (congrArg some (by kernel_rfl))
 f219 := Tryd.func117.trans (congrArg some (by kernel_rfl))
 f224 := Tryd.func122.trans (congrArg some (by kernel_rfl))
 f225 := Tryd.func121.trans (congrArg some (by kernel_rfl))
 f266 := Tryd.func125.trans (congrArg some (by kernel_rfl))
 f267 := Tryd.func123.trans (congrArg some (by kernel_rfl))
 f314 := Tryd.func126.trans (congrArg some (by kernel_rfl))
 t0 := Tryd.underlying0
 a0 := Tryd.isAgg0
 z0 := Tryd.sizeOf0
 v0 := Tryd.zeroValue0
 t3 := Tryd.underlying3
 a3 := Tryd.isAgg3
 z3 := Tryd.sizeOf3
 v3 := Tryd.zeroValue3
 t4 := Tryd.underlying4
 a4 := Tryd.isAgg4
 z4 := Tryd.sizeOf4
 v4 := Tryd.zeroValue4
 t5 := Tryd.underlying5
 a5 := Tryd.isAgg5
 z5 := Tryd.sizeOf5
 v5 := Tryd.zeroValue5
 t9 := Tryd.underlying9
 a9 := Tryd.isAgg9
 z9 := Tryd.sizeOf9
 v9 := Tryd.zeroValue9
 t46 := Tryd.underlying72
 a46 := Tryd.isAgg72
 z46 := Tryd.sizeOf72
 v46 := Tryd.zeroValue72
 t51 := Tryd.underlying85
 a51 := Tryd.isAgg85
 z51 := Tryd.sizeOf85
 v51 := Tryd.zeroValue85
 t146 := Tryd.underlying104
 a146 := Tryd.isAgg104
 z146 := Tryd.sizeOf104
 v146 := Tryd.zeroValue104
 g1 := by kernel_rfl }
open Go.RowKit Go.Lib in
theorem Tryd.strings_Count_one (s : ByteArray) (c : UInt8) (w : World) :
  Calls Tryd.prog 90 #[.string s, .string ⟨#[c]⟩] w fun e w' => e = .returned (.int .i64 (Lib.countByte s.data.toList c)) ∧ w' = w := Any.strings_Count_one Tryd.lays138 s c w
def Tryd.lays146_ren : Go.Shelf.Ren := ⟨fun | 146 => 77 | 221 => 104 | 268 => 116 | 138 => 90 | 143 => 110 | 195 => 108 | 197 => 119 | 218 => 109 | 219 => 117 | 260 => 124 | 217 => 120 | 225 => 121 | 224 => 122 | 267 => 123 | 266 => 125 | 314 => 126 | n => n, fun | 9 => 9 | 31 => 22 | 3 => 3 | 4 => 4 | 0 => 0 | 105 => 101 | 21 => 21 | 5 => 5 | 46 => 72 | 119 => 106 | 139 => 109 | 138 => 108 | 146 => 104 | 51 => 85 | n => n, fun | 1 => 0 | 3 => 1 | 4 => 2 | n => n⟩
theorem Tryd.lays146 : Go.Proofs.Lays.n146 Tryd.prog Tryd.lays146_ren := {
 mixed := by kernel_rfl
 f138 := Tryd.func90.trans (congrArg some (by kernel_rfl))
 f143 := Tryd.func110.trans (congrArg some (by kernel_rfl))
 f146 := Tryd.func77.trans (congrArg some (by kernel_rfl))
 f195 := Tryd.func108.trans (congrArg some (by kernel_rfl))
 f197 := Tryd.func119.trans (congrArg some (by kernel_rfl))
 f217 := Tryd.func120.trans (congrArg some (by kernel_rfl))
 f218 := Tryd.func109.trans (congrArg some (by kernel_rfl))
 f219 := Tryd.func117.trans (congrArg some (by kernel_rfl))
 f221 := Tryd.func104.trans (congrArg some (by kernel_rfl))
 f224 := Tryd.func122.trans (congrArg some (by kernel_rfl))
 f225 := Tryd.func121.trans (congrArg some (by kernel_rfl))
 f260 := Tryd.func124.trans (congrArg some (by kernel_rfl))
 f266 := Tryd.func125.trans (congrArg some (by kernel_rfl))
 f267 := Tryd.func123.trans (congrArg some (by kernel_rfl))
 f268 := Tryd.func116.trans (congrArg some (by kernel_rfl))
 f314 := Tryd.func126.trans (congrArg some (by kernel_rfl))
 t0 := Tryd.underlying0
 a0 := Tryd.isAgg0
 z0 := Tryd.sizeOf0
 v0 := Tryd.zeroValue0
 t3 := Tryd.underlying3
 a3 := Tryd.isAgg3
 z3 := Tryd.sizeOf3
 v3 := Tryd.zeroValue3
 t4 := Tryd.underlying4
 a4 := Tryd.isAgg4
 z4 := Tryd.sizeOf4
 v4 := Tryd.zeroValue4
 t5 := Tryd.underlying5
 a5 := Tryd.isAgg5
 z5 := Tryd.sizeOf5
 v5 := Tryd.zeroValue5
 t9 := Tryd.underlying9
 a9 := Tryd.isAgg9
 z9 := Tryd.sizeOf9
 v9 := Tryd.zeroValue9
 t21 := Tryd.underlying21
 a21 := Tryd.isAgg21
 z21 := Tryd.sizeOf21
 v21 := Tryd.zeroValue21
 t31 := Tryd.underlying22
 a31 := Tryd.isAgg22
 z31 := Tryd.sizeOf22
 v31 := Tryd.zeroValue22
 t46 := Tryd.underlying72
 a46 := Tryd.isAgg72
 z46 := Tryd.sizeOf72
 v46 := Tryd.zeroValue72
 t51 := Tryd.underlying85
 a51 := Tryd.isAgg85
 z51 := Tryd.sizeOf85
 v51 := Tryd.zeroValue85
 t105 := Tryd.underlying101
 a105 := Tryd.isAgg101
 z105 := Tryd.sizeOf101
 v105 := Tryd.zeroValue101
 t119 := Tryd.underlying106
 a119 := Tryd.isAgg106
 z119 := Tryd.sizeOf106
 t138 := Tryd.underlying108
 a138 := Tryd.isAgg108
 z138 := Tryd.sizeOf108
 v138 := Tryd.zeroValue108
 t139 := Tryd.underlying109
 a139 := Tryd.isAgg109
 z139 := Tryd.sizeOf109
 v139 := Tryd.zeroValue109
 t146 := Tryd.underlying104
 a146 := Tryd.isAgg104
 z146 := Tryd.sizeOf104
 v146 := Tryd.zeroValue104
 g1 := by kernel_rfl
 g3 := by kernel_rfl
 g4 := by kernel_rfl }
def Tryd.laysNm216_ren : Go.Shelf.Ren := ⟨fun | 16 => 49 | n => n, fun | 24 => 22 | 9 => 9 | 4 => 4 | n => n, fun | n => n⟩
theorem Tryd.laysNm216 : Go.Proofs.Lays2.n16 Tryd.prog Tryd.laysNm216_ren := {
 mixed := by kernel_rfl
 f16 := Tryd.func49.trans (congrArg some (by kernel_rfl))
 t4 := Tryd.underlying4
 a4 := Tryd.isAgg4
 z4 := Tryd.sizeOf4
 v4 := Tryd.zeroValue4
 t9 := Tryd.underlying9
 a9 := Tryd.isAgg9
 z9 := Tryd.sizeOf9
 v9 := Tryd.zeroValue9
 t24 := Tryd.underlying22
 a24 := Tryd.isAgg22
 z24 := Tryd.sizeOf22
 v24 := Tryd.zeroValue22
 i9 := by kernel_rfl }
open Go.RowKit Go.Lib in
theorem Tryd.slices_Clone_string (b off n c : Nat) (zs : List ByteArray) (w : World) (hz : n ≤ zs.length) (hbig : n * 16 ≤ 140737488355328) (hc : ∀ j, j < zs.length → w.cell? ⟨b, off + j, none⟩ = some (.string (zs.getD j ByteArray.empty))) :
  Calls Tryd.prog 49 #[.slice (some ⟨b, off, none⟩) n c] w fun e w' => ∃ v', e = .returned v' ∧ w'.ownsRow w.heap.size 9 1 v' n ((zs.take n).map (Value.string)) ∧ v' ≠ .slice none 0 0 ∧ Below w.heap.size w w' := Any.slices_Clone_string Tryd.laysNm216 b off n c zs w hz hbig hc
open Go.RowKit Go.Lib in
theorem Tryd.slices_Clone_string_nil (n c : Nat) (w : World) :
  Calls Tryd.prog 49 #[.slice none n c] w fun e w' => e = .returned (.slice none 0 0) ∧ w' = w := Any.slices_Clone_string_nil Tryd.laysNm216 n c w
open Go.RowKit Go.Lib in
theorem Tryd.slices_Clone_string_zero (a : Addr) (c : Nat) (w : World) :
  Calls Tryd.prog 49 #[.slice (some a) 0 c] w fun e w' => ∃ v', e = .returned v' ∧ w'.ownsRow w.heap.size 9 1 v' 0 [] ∧ v' ≠ .slice none 0 0 ∧ Below w.heap.size w w' := Any.slices_Clone_string_zero Tryd.laysNm216 a c w
def Tryd.lays194_ren : Go.Shelf.Ren := ⟨fun | 194 => 52 | n => n, fun | 31 => 22 | 9 => 9 | 3 => 3 | 4 => 4 | 0 => 0 | n => n, fun | n => n⟩
theorem Tryd.lays194 : Go.Proofs.Lays.n194 Tryd.prog Tryd.lays194_ren := {
 mixed := by kernel_rfl
 f194 := Tryd.func52.trans (congrArg some (by kernel_rfl))
 t0 := Tryd.underlying0
 a0 := Tryd.isAgg0
 z0 := Tryd.sizeOf0
 v0 := Tryd.zeroValue0
 t3 := Tryd.underlying3
 a3 := Tryd.isAgg3
 z3 := Tryd.sizeOf3
 v3 := Tryd.zeroValue3
 t4 := Tryd.underlying4
 a4 := Tryd.isAgg4
 z4 := Tryd.sizeOf4
 v4 := Tryd.zeroValue4
 t9 := Tryd.underlying9
 a9 := Tryd.isAgg9
 z9 := Tryd.sizeOf9
 v9 := Tryd.zeroValue9
 t31 := Tryd.underlying22
 a31 := Tryd.isAgg22
 z31 := Tryd.sizeOf22
 v31 := Tryd.zeroValue22 }
open Go.RowKit Go.Lib Go.Sort in
theorem Tryd.slices_Compact_string (blk off cap : Nat) (zs : List (List UInt8)) (w : World) (hH : Holds encStr w blk off zs.toArray) (hsz : zs.length ≤ 9223372036854775807) (hcap : zs.length ≤ cap) :
  Calls Tryd.prog 52 #[.slice (some ⟨blk, off, none⟩) zs.length cap] w fun e w' => e = .returned (.slice (some ⟨blk, off, none⟩) (Lib.compact zs).length cap) ∧ ∃ q, w' = putRow encStr (Sort.ahead w q) blk off (Lib.compact zs ++ List.replicate (zs.length - (Lib.compact zs).length) []).toArray := Any.slices_Compact_string Tryd.lays194 blk off cap zs w hH hsz hcap
open Go.RowKit Go.Lib Go.Sort in
theorem Tryd.slices_Compact_string_empty (a : Option Addr) (cap : Nat) (w : World) :
  Calls Tryd.prog 52 #[.slice a 0 cap] w fun e w' => e = .returned (.slice a 0 cap) ∧ w' = w := Any.slices_Compact_string_empty Tryd.lays194 a cap w
def Tryd.laysSlF6_f50_ren : Go.Shelf.Ren := ⟨fun | 6 => 50 | 15 => 74 | 14 => 73 | 28 => 100 | 29 => 101 | 20 => 92 | 21 => 93 | 22 => 94 | 23 => 95 | 24 => 96 | 25 => 97 | 26 => 98 | 27 => 99 | 46 => 111 | 47 => 112 | 48 => 113 | 49 => 114 | 50 => 115 | 57 => 118 | n => n, fun | 22 => 22 | 24 => 9 | 25 => 55 | 3 => 3 | 39 => 72 | 0 => 0 | 53 => 85 | 55 => 87 | 4 => 4 | 46 => 78 | 45 => 77 | 50 => 82 | 5 => 5 | 9 => 9 | 66 => 91 | 70 => 95 | 76 => 98 | 77 => 99 | n => n, fun | n => n⟩
theorem Tryd.laysSlF6_f50 : Go.Proofs.SlLaysF.n6 Tryd.prog Tryd.laysSlF6_f50_ren := {
 mixed := by kernel_rfl
 f6 := ⟨Tryd.f50.name, by decide, Tryd.func50.trans (congrArg some (by kernel_rfl))⟩
 f14 := ⟨Tryd.f73.name, by decide, Tryd.func73.trans (congrArg some (by kernel_rfl))⟩
 f15 := Tryd.func74.trans (congrArg some (by kernel_rfl))
 f20 := ⟨Tryd.f92.name, by decide, Tryd.func92.trans (congrArg some (by kernel_rfl))⟩
 f21 := ⟨Tryd.f93.name, by decide, Tryd.func93.trans (congrArg some (by kernel_rfl))⟩
 f22 := ⟨Tryd.f94.name, by decide, Tryd.func94.trans (congrArg some (by kernel_rfl))⟩
 f23 := ⟨Tryd.f95.name, by decide, Tryd.func95.trans (congrArg some (by kernel_rfl))⟩
 f24 := ⟨Tryd.f96.name, by decide, Tryd.func96.trans (congrArg some (by kernel_rfl))⟩
 f25 := ⟨Tryd.f97.name, by decide, Tryd.func97.trans (congrArg some (by kernel_rfl))⟩
 f26 := ⟨Tryd.f98.name, by decide, Tryd.func98.trans (congrArg some (by kernel_rfl))⟩
 f27 := ⟨Tryd.f99.name, by decide, Tryd.func99.trans (congrArg some (by kernel_rfl))⟩
 f28 := Tryd.func100.trans (congrArg some (by kernel_rfl))
 f29 := Tryd.func101.trans (congrArg some (by kernel_rfl))
 f46 := ⟨Tryd.f111.name, by decide, Tryd.func111.trans (congrArg some (by kernel_rfl))⟩
 f47 := Tryd.func112.trans (congrArg some (by kernel_rfl))
 f48 := Tryd.func113.trans (congrArg some (by kernel_rfl))
 f49 := ⟨Tryd.f114.name, by decide, Tryd.func114.trans (congrArg some (by kernel_rfl))⟩
 f50 := ⟨Tryd.f115.name, by decide, Tryd.func115.trans (congrArg some (by kernel_rfl))⟩
 f57 := ⟨Tryd.f118.name, by decide, Tryd.func118.trans (congrArg some (by kernel_rfl))⟩
 t0 := Tryd.underlying0
 a0 := Tryd.isAgg0
 z0 := Tryd.sizeOf0
 v0 := Tryd.zeroValue0
 t3 := Tryd.underlying3
 a3 := Tryd.isAgg3
 z3 := Tryd.sizeOf3
 v3 := Tryd.zeroValue3
 t4 := Tryd.underlying4
 a4 := Tryd.isAgg4
 z4 := Tryd.sizeOf4
 v4 := Tryd.zeroValue4
 t5 := Tryd.underlying5
 a5 := Tryd.isAgg5
 z5 := Tryd.sizeOf5
 v5 := Tryd.zeroValue5
 t9 := Tryd.underlying9
 a9 := Tryd.isAgg9
 z9 := Tryd.sizeOf9
 v9 := Tryd.zeroValue9
 t22 := Tryd.underlying22
 a22 := Tryd.isAgg22
 z22 := Tryd.sizeOf22
 v22 := Tryd.zeroValue22
 a24 := Tryd.isAgg9
 z24 := Tryd.sizeOf9
 t25 := Tryd.underlying55
 a25 := Tryd.isAgg55
 z25 := Tryd.sizeOf55
 v25 := Tryd.zeroValue55
 t39 := Tryd.underlying72
 a39 := Tryd.isAgg72
 z39 := Tryd.sizeOf72
 v39 := Tryd.zeroValue72
 t45 := Tryd.underlying77
 a45 := Tryd.isAgg77
 z45 := Tryd.sizeOf77
 v45 := Tryd.zeroValue77
 t46 := Tryd.underlying78
 a46 := Tryd.isAgg78
 z46 := Tryd.sizeOf78
 v46 := Tryd.zeroValue78
 t50 := Tryd.underlying82
 a50 := Tryd.isAgg82
 z50 := Tryd.sizeOf82
 v50 := Tryd.zeroValue82
 t53 := Tryd.underlying85
 a53 := Tryd.isAgg85
 z53 := Tryd.sizeOf85
 v53 := Tryd.zeroValue85
 t55 := Tryd.underlying87
 a55 := Tryd.isAgg87
 z55 := Tryd.sizeOf87
 v55 := Tryd.zeroValue87
 t66 := Tryd.underlying91
 a66 := Tryd.isAgg91
 z66 := Tryd.sizeOf91
 v66 := Tryd.zeroValue91
 t70 := Tryd.underlying95
 a70 := Tryd.isAgg95
 z70 := Tryd.sizeOf95
 v70 := Tryd.zeroValue95
 t76 := Tryd.underlying98
 a76 := Tryd.isAgg98
 z76 := Tryd.sizeOf98
 v76 := Tryd.zeroValue98
 t77 := Tryd.underlying99
 a77 := Tryd.isAgg99
 z77 := Tryd.sizeOf99
 v77 := Tryd.zeroValue99 }
open Go.RowKit Go.Lib Go.Sort in
theorem Tryd.slices_SortFunc {α : Type} [Inhabited α] (enc : α → Value) (h1 : OneCell enc) (cf : α → α → Int) (hO : SWO (ltOf cf)) (g : Nat) (cb : Array Value) (blk off cap : Nat) (d : Array α) (w : World) (eg : ∀ args w, (callFunc g args).run Tryd.prog w = .ok (.enter g args) w) (hcmp : CmpLays1 Tryd.prog g cb enc cf blk off d.size w) (hH : Holds enc w blk off d) (hblk : blk < w.heap.size) (hsz : d.size < 4611686018427387904) :
  Calls Tryd.prog 50 #[.slice (some ⟨blk, off, none⟩) d.size cap, .func (.func g) #[] cb] w fun e w' =>
   e = .returned (.tuple #[]) ∧ ∃ d' n os, PermIn 0 d.size d d' ∧ SortedIn (ltOf cf) 0 d.size d' ∧ w' = sortWorld enc w blk off n d' os := Any.slices_SortFunc Tryd.laysSlF6_f50 enc h1 cf hO g cb blk off cap d w eg hcmp hH hblk hsz
end Go.Proofs
