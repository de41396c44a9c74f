/-
  DERIVED: THE SHELF's CONTRACTS AT THIS DUMP, IN PLAIN WORDS (tools/lay-plain.mjs out of 'YtehfogjibhnabaaDoorShelf.lean', which tools/lay-shelf.mjs wrote): THE SAME DECLARATIONS UNDER THE SAME NAMES: 'import', 'namespace', 'open', 'def', 'theorem' AND NOTHING ELSE: no command of the shelf's: FOR A HAND-IN. Each laying: the table of numbers ('.._ren') and one theorem, a field a fact of the dump's own or the kernel's comparison; each contract: ONE APPLICATION.
-/
import Derived.Shelf.Strings.Builder1
import Derived.Shelf.Small.Bits
import Derived.Shelf.SlSortCmp.WholeK
import Derived.Shelf.Small.Strs
import Derived.Shelf.Small.Wraps
import Derived.Shelf.Strings.BuilderF
import Derived.Shelf.Strings.BuilderK
import Derived.Shelf.Strconv.Itoa0
import Derived.Shelf.Strings.Search1
import Derived.Shelf.Strings.Search2
import Derived.Shelf.Strings.Search3
import Derived.Shelf.Strings.Count
import Derived.Shelf.LaysM
import Derived.Shelf.Strings.Shaped
import Derived.Shelf.Strings.LastIndex
import Derived.Shelf.Strings.Prefix
import Derived.Shelf.Strings.Split
import Derived.Shelf.Unicode.DecodeSlow
import Derived.Shelf.Slices.Equal
import Derived.Shelf.Slices.CompactS
import Derived.Shelf.Slices.Cells
import Derived.Shelf.Slices.Empties2
import Derived.Ground.SlsfProg
import Derived.Shelf.SlSortCmp.Insertion
import Derived.Shelf.SlSortCmp.SiftDown1
import Derived.Shelf.SlSortCmp.HeapSort1
import Derived.Shelf.SlSortCmp.Insertion1
import Derived.Shelf.SlSortCmp.Median1
import Derived.Shelf.SlSortCmp.Pivot1
import Derived.Shelf.SlSortCmp.ReverseRange1
import Derived.Shelf.SlSortCmp.PartialInsertion1
import Derived.Shelf.SlSortCmp.PartitionEqual1
import Derived.Shelf.SlSortCmp.Partition1
import Derived.Shelf.SlSortCmp.Pdq1
import Derived.Shelf.SlSortCmp.Whole1
import Derived.Shelf.SlSortCmp.NoneTotal
import Derived.Test.YtehfogjibhnabaaDoorProg
namespace Go.Proofs
open Go.Shelf
def Tryd.lays138_ren : Go.Shelf.Ren := ⟨fun | 138 => 114 | 195 => 124 | 218 => 125 | 143 => 126 | 219 => 138 | 217 => 117 | 225 => 143 | 224 => 144 | 267 => 145 | 266 => 135 | 314 => 148 | n => n, fun | 9 => 9 | 3 => 3 | 4 => 4 | 5 => 5 | 0 => 0 | 46 => 103 | 146 => 146 | 51 => 118 | n => n, fun | 1 => 0 | n => n⟩
theorem Tryd.lays138 : Go.Proofs.Lays.n138 Tryd.prog Tryd.lays138_ren := {
 mixed := by kernel_rfl
 f138 := Tryd.func114.trans (congrArg some (by kernel_rfl))
 f143 := Tryd.func126.trans (congrArg some (by kernel_rfl))
 f195 := Tryd.func124.trans (congrArg some (by kernel_rfl))
 f217 := Tryd.func117.trans (congrArg some (by kernel_rfl))
 f218 := Tryd.func125.trans (congrArg some (by kernel_rfl))
 f219 := Tryd.func138.trans (congrArg some (by kernel_rfl))
 f224 := Tryd.func144.trans (congrArg some (by kernel_rfl))
 f225 := Tryd.func143.trans (congrArg some (by kernel_rfl))
 f266 := Tryd.func135.trans (congrArg some (by kernel_rfl))
 f267 := Tryd.func145.trans (congrArg some (by kernel_rfl))
 f314 := Tryd.func148.trans (congrArg some (by kernel_rfl))
 t0 := Tryd.underlying0
 a0 := Tryd.isAgg0
 z0 := Tryd.sizeOf0
 v0 := Tryd.zeroValue0
 t3 := Tryd.underlying3
 a3 := Tryd.isAgg3
 z3 := Tryd.sizeOf3
 v3 := Tryd.zeroValue3
 t4 := Tryd.underlying4
 a4 := Tryd.isAgg4
 z4 := Tryd.sizeOf4
 v4 := Tryd.zeroValue4
 t5 := Tryd.underlying5
 a5 := Tryd.isAgg5
 z5 := Tryd.sizeOf5
 v5 := Tryd.zeroValue5
 t9 := Tryd.underlying9
 a9 := Tryd.isAgg9
 z9 := Tryd.sizeOf9
 v9 := Tryd.zeroValue9
 t46 := Tryd.underlying103
 a46 := Tryd.isAgg103
 z46 := Tryd.sizeOf103
 v46 := Tryd.zeroValue103
 t51 := Tryd.underlying118
 a51 := Tryd.isAgg118
 z51 := Tryd.sizeOf118
 v51 := Tryd.zeroValue118
 t146 := Tryd.underlying146
 a146 := Tryd.isAgg146
 z146 := Tryd.sizeOf146
 v146 := Tryd.zeroValue146
 g1 := by kernel_rfl }
open Go.RowKit Go.Lib in
theorem Tryd.strings_Count_one (s : ByteArray) (c : UInt8) (w : World) :
  Calls Tryd.prog 114 #[.string s, .string ⟨#[c]⟩] w fun e w' => e = .returned (.int .i64 (Lib.countByte s.data.toList c)) ∧ w' = w := Any.strings_Count_one Tryd.lays138 s c w
def Tryd.lays146_ren : Go.Shelf.Ren := ⟨fun | 146 => 101 | 221 => 118 | 268 => 136 | 138 => 114 | 143 => 126 | 195 => 124 | 197 => 142 | 218 => 125 | 219 => 138 | 260 => 147 | 217 => 117 | 225 => 143 | 224 => 144 | 267 => 145 | 266 => 135 | 314 => 148 | n => n, fun | 9 => 9 | 31 => 22 | 3 => 3 | 4 => 4 | 0 => 0 | 105 => 142 | 21 => 21 | 5 => 5 | 46 => 103 | 119 => 148 | 139 => 151 | 138 => 150 | 146 => 146 | 51 => 118 | n => n, fun | 1 => 0 | 3 => 1 | 4 => 2 | n => n⟩
theorem Tryd.lays146 : Go.Proofs.Lays.n146 Tryd.prog Tryd.lays146_ren := {
 mixed := by kernel_rfl
 f138 := Tryd.func114.trans (congrArg some (by kernel_rfl))
 f143 := Tryd.func126.trans (congrArg some (by kernel_rfl))
 f146 := Tryd.func101.trans (congrArg some (by kernel_rfl))
 f195 := Tryd.func124.trans (congrArg some (by kernel_rfl))
 f197 := Tryd.func142.trans (congrArg some (by kernel_rfl))
 f217 := Tryd.func117.trans (congrArg some (by kernel_rfl))
 f218 := Tryd.func125.trans (congrArg some (by kernel_rfl))
 f219 := Tryd.func138.trans (congrArg some (by kernel_rfl))
 f221 := Tryd.func118.trans (congrArg some (by kernel_rfl))
 f224 := Tryd.func144.trans (congrArg some (by kernel_rfl))
 f225 := Tryd.func143.trans (congrArg some (by kernel_rfl))
 f260 := Tryd.func147.trans (congrArg some (by kernel_rfl))
 f266 := Tryd.func135.trans (congrArg some (by kernel_rfl))
 f267 := Tryd.func145.trans (congrArg some (by kernel_rfl))
 f268 := Tryd.func136.trans (congrArg some (by kernel_rfl))
 f314 := Tryd.func148.trans (congrArg some (by kernel_rfl))
 t0 := Tryd.underlying0
 a0 := Tryd.isAgg0
 z0 := Tryd.sizeOf0
 v0 := Tryd.zeroValue0
 t3 := Tryd.underlying3
 a3 := Tryd.isAgg3
 z3 := Tryd.sizeOf3
 v3 := Tryd.zeroValue3
 t4 := Tryd.underlying4
 a4 := Tryd.isAgg4
 z4 := Tryd.sizeOf4
 v4 := Tryd.zeroValue4
 t5 := Tryd.underlying5
 a5 := Tryd.isAgg5
 z5 := Tryd.sizeOf5
 v5 := Tryd.zeroValue5
 t9 := Tryd.underlying9
 a9 := Tryd.isAgg9
 z9 := Tryd.sizeOf9
 v9 := Tryd.zeroValue9
 t21 := Tryd.underlying21
 a21 := Tryd.isAgg21
 z21 := Tryd.sizeOf21
 v21 := Tryd.zeroValue21
 t31 := Tryd.underlying22
 a31 := Tryd.isAgg22
 z31 := Tryd.sizeOf22
 v31 := Tryd.zeroValue22
 t46 := Tryd.underlying103
 a46 := Tryd.isAgg103
 z46 := Tryd.sizeOf103
 v46 := Tryd.zeroValue103
 t51 := Tryd.underlying118
 a51 := Tryd.isAgg118
 z51 := Tryd.sizeOf118
 v51 := Tryd.zeroValue118
 t105 := Tryd.underlying142
 a105 := Tryd.isAgg142
 z105 := Tryd.sizeOf142
 v105 := Tryd.zeroValue142
 t119 := Tryd.underlying148
 a119 := Tryd.isAgg148
 z119 := Tryd.sizeOf148
 t138 := Tryd.underlying150
 a138 := Tryd.isAgg150
 z138 := Tryd.sizeOf150
 v138 := Tryd.zeroValue150
 t139 := Tryd.underlying151
 a139 := Tryd.isAgg151
 z139 := Tryd.sizeOf151
 v139 := Tryd.zeroValue151
 t146 := Tryd.underlying146
 a146 := Tryd.isAgg146
 z146 := Tryd.sizeOf146
 v146 := Tryd.zeroValue146
 g1 := by kernel_rfl
 g3 := by kernel_rfl
 g4 := by kernel_rfl }
def Tryd.laysSlF6_f93_ren : Go.Shelf.Ren := ⟨fun | 6 => 93 | 15 => 85 | 14 => 116 | 28 => 112 | 29 => 113 | 20 => 127 | 21 => 128 | 22 => 129 | 23 => 130 | 24 => 131 | 25 => 132 | 26 => 133 | 27 => 134 | 46 => 139 | 47 => 120 | 48 => 121 | 49 => 140 | 50 => 141 | 57 => 146 | n => n, fun | 22 => 22 | 24 => 9 | 25 => 71 | 3 => 3 | 39 => 103 | 0 => 0 | 53 => 118 | 55 => 120 | 4 => 4 | 46 => 112 | 45 => 111 | 50 => 88 | 5 => 5 | 9 => 9 | 66 => 125 | 70 => 129 | 76 => 137 | 77 => 138 | n => n, fun | n => n⟩
theorem Tryd.laysSlF6_f93 : Go.Proofs.SlLaysF.n6 Tryd.prog Tryd.laysSlF6_f93_ren := {
 mixed := by kernel_rfl
 f6 := ⟨Tryd.f93.name, by decide, Tryd.func93.trans (congrArg some (by kernel_rfl))⟩
 f14 := ⟨Tryd.f116.name, by decide, Tryd.func116.trans (congrArg some (by kernel_rfl))⟩
 f15 := Tryd.func85.trans (congrArg some (by kernel_rfl))
 f20 := ⟨Tryd.f127.name, by decide, Tryd.func127.trans (congrArg some (by kernel_rfl))⟩
 f21 := ⟨Tryd.f128.name, by decide, Tryd.func128.trans (congrArg some (by kernel_rfl))⟩
 f22 := ⟨Tryd.f129.name, by decide, Tryd.func129.trans (congrArg some (by kernel_rfl))⟩
 f23 := ⟨Tryd.f130.name, by decide, Tryd.func130.trans (congrArg some (by kernel_rfl))⟩
 f24 := ⟨Tryd.f131.name, by decide, Tryd.func131.trans (congrArg some (by kernel_rfl))⟩
 f25 := ⟨Tryd.f132.name, by decide, Tryd.func132.trans (congrArg some (by kernel_rfl))⟩
 f26 := ⟨Tryd.f133.name, by decide, Tryd.func133.trans (congrArg some (by kernel_rfl))⟩
 f27 := ⟨Tryd.f134.name, by decide, Tryd.func134.trans (congrArg some (by kernel_rfl))⟩
 f28 := Tryd.func112.trans (congrArg some (by kernel_rfl))
 f29 := Tryd.func113.trans (congrArg some (by kernel_rfl))
 f46 := ⟨Tryd.f139.name, by decide, Tryd.func139.trans (congrArg some (by kernel_rfl))⟩
 f47 := Tryd.func120.trans (congrArg some (by kernel_rfl))
 f48 := Tryd.func121.trans (congrArg some (by kernel_rfl))
 f49 := ⟨Tryd.f140.name, by decide, Tryd.func140.trans (congrArg some (by kernel_rfl))⟩
 f50 := ⟨Tryd.f141.name, by decide, Tryd.func141.trans (congrArg some (by kernel_rfl))⟩
 f57 := ⟨Tryd.f146.name, by decide, Tryd.func146.trans (congrArg some (by kernel_rfl))⟩
 t0 := Tryd.underlying0
 a0 := Tryd.isAgg0
 z0 := Tryd.sizeOf0
 v0 := Tryd.zeroValue0
 t3 := Tryd.underlying3
 a3 := Tryd.isAgg3
 z3 := Tryd.sizeOf3
 v3 := Tryd.zeroValue3
 t4 := Tryd.underlying4
 a4 := Tryd.isAgg4
 z4 := Tryd.sizeOf4
 v4 := Tryd.zeroValue4
 t5 := Tryd.underlying5
 a5 := Tryd.isAgg5
 z5 := Tryd.sizeOf5
 v5 := Tryd.zeroValue5
 t9 := Tryd.underlying9
 a9 := Tryd.isAgg9
 z9 := Tryd.sizeOf9
 v9 := Tryd.zeroValue9
 t22 := Tryd.underlying22
 a22 := Tryd.isAgg22
 z22 := Tryd.sizeOf22
 v22 := Tryd.zeroValue22
 a24 := Tryd.isAgg9
 z24 := Tryd.sizeOf9
 t25 := Tryd.underlying71
 a25 := Tryd.isAgg71
 z25 := Tryd.sizeOf71
 v25 := Tryd.zeroValue71
 t39 := Tryd.underlying103
 a39 := Tryd.isAgg103
 z39 := Tryd.sizeOf103
 v39 := Tryd.zeroValue103
 t45 := Tryd.underlying111
 a45 := Tryd.isAgg111
 z45 := Tryd.sizeOf111
 v45 := Tryd.zeroValue111
 t46 := Tryd.underlying112
 a46 := Tryd.isAgg112
 z46 := Tryd.sizeOf112
 v46 := Tryd.zeroValue112
 t50 := Tryd.underlying88
 a50 := Tryd.isAgg88
 z50 := Tryd.sizeOf88
 v50 := Tryd.zeroValue88
 t53 := Tryd.underlying118
 a53 := Tryd.isAgg118
 z53 := Tryd.sizeOf118
 v53 := Tryd.zeroValue118
 t55 := Tryd.underlying120
 a55 := Tryd.isAgg120
 z55 := Tryd.sizeOf120
 v55 := Tryd.zeroValue120
 t66 := Tryd.underlying125
 a66 := Tryd.isAgg125
 z66 := Tryd.sizeOf125
 v66 := Tryd.zeroValue125
 t70 := Tryd.underlying129
 a70 := Tryd.isAgg129
 z70 := Tryd.sizeOf129
 v70 := Tryd.zeroValue129
 t76 := Tryd.underlying137
 a76 := Tryd.isAgg137
 z76 := Tryd.sizeOf137
 v76 := Tryd.zeroValue137
 t77 := Tryd.underlying138
 a77 := Tryd.isAgg138
 z77 := Tryd.sizeOf138
 v77 := Tryd.zeroValue138 }
open Go.RowKit Go.Lib Go.Sort in
theorem Tryd.slices_SortFunc {α : Type} [Inhabited α] (enc : α → Value) (h1 : OneCell enc) (cf : α → α → Int) (hO : SWO (ltOf cf)) (g : Nat) (cb : Array Value) (blk off cap : Nat) (d : Array α) (w : World) (eg : ∀ args w, (callFunc g args).run Tryd.prog w = .ok (.enter g args) w) (hcmp : CmpLays1 Tryd.prog g cb enc cf blk off d.size w) (hH : Holds enc w blk off d) (hblk : blk < w.heap.size) (hsz : d.size < 4611686018427387904) :
  Calls Tryd.prog 93 #[.slice (some ⟨blk, off, none⟩) d.size cap, .func (.func g) #[] cb] w fun e w' =>
   e = .returned (.tuple #[]) ∧ ∃ d' n os, PermIn 0 d.size d d' ∧ SortedIn (ltOf cf) 0 d.size d' ∧ w' = sortWorld enc w blk off n d' os := Any.slices_SortFunc Tryd.laysSlF6_f93 enc h1 cf hO g cb blk off cap d w eg hcmp hH hblk hsz
def Tryd.laysSlF06_f57_ren : Go.Shelf.Ren := ⟨fun | 6 => 57 | 15 => 85 | 14 => 84 | 28 => 112 | 29 => 113 | 20 => 104 | 21 => 105 | 22 => 106 | 23 => 107 | 24 => 108 | 25 => 109 | 26 => 110 | 27 => 111 | 46 => 119 | 47 => 120 | 48 => 121 | 49 => 122 | 50 => 123 | 57 => 137 | n => n, fun | 22 => 40 | 24 => 55 | 25 => 78 | 3 => 3 | 39 => 103 | 0 => 0 | 53 => 118 | 55 => 120 | 4 => 4 | 46 => 112 | 45 => 111 | 50 => 88 | 5 => 5 | 9 => 9 | 66 => 125 | 70 => 129 | 76 => 137 | 77 => 138 | n => n, fun | n => n⟩
theorem Tryd.laysSlF06_f57 : Go.Proofs.SlLaysF0.n6 Tryd.prog Tryd.laysSlF06_f57_ren := {
 mixed := by kernel_rfl
 f6 := ⟨Tryd.f57.name, by decide, Tryd.func57.trans (congrArg some (by kernel_rfl))⟩
 f14 := ⟨Tryd.f84.name, by decide, Tryd.func84.trans (congrArg some (by kernel_rfl))⟩
 f15 := Tryd.func85.trans (congrArg some (by kernel_rfl))
 f20 := ⟨Tryd.f104.name, by decide, Tryd.func104.trans (congrArg some (by kernel_rfl))⟩
 f21 := ⟨Tryd.f105.name, by decide, Tryd.func105.trans (congrArg some (by kernel_rfl))⟩
 f22 := ⟨Tryd.f106.name, by decide, Tryd.func106.trans (congrArg some (by kernel_rfl))⟩
 f23 := ⟨Tryd.f107.name, by decide, Tryd.func107.trans (congrArg some (by kernel_rfl))⟩
 f24 := ⟨Tryd.f108.name, by decide, Tryd.func108.trans (congrArg some (by kernel_rfl))⟩
 f25 := ⟨Tryd.f109.name, by decide, Tryd.func109.trans (congrArg some (by kernel_rfl))⟩
 f26 := ⟨Tryd.f110.name, by decide, Tryd.func110.trans (congrArg some (by kernel_rfl))⟩
 f27 := ⟨Tryd.f111.name, by decide, Tryd.func111.trans (congrArg some (by kernel_rfl))⟩
 f28 := Tryd.func112.trans (congrArg some (by kernel_rfl))
 f29 := Tryd.func113.trans (congrArg some (by kernel_rfl))
 f46 := ⟨Tryd.f119.name, by decide, Tryd.func119.trans (congrArg some (by kernel_rfl))⟩
 f47 := Tryd.func120.trans (congrArg some (by kernel_rfl))
 f48 := Tryd.func121.trans (congrArg some (by kernel_rfl))
 f49 := ⟨Tryd.f122.name, by decide, Tryd.func122.trans (congrArg some (by kernel_rfl))⟩
 f50 := ⟨Tryd.f123.name, by decide, Tryd.func123.trans (congrArg some (by kernel_rfl))⟩
 f57 := ⟨Tryd.f137.name, by decide, Tryd.func137.trans (congrArg some (by kernel_rfl))⟩
 t0 := Tryd.underlying0
 a0 := Tryd.isAgg0
 z0 := Tryd.sizeOf0
 v0 := Tryd.zeroValue0
 t3 := Tryd.underlying3
 a3 := Tryd.isAgg3
 z3 := Tryd.sizeOf3
 v3 := Tryd.zeroValue3
 t4 := Tryd.underlying4
 a4 := Tryd.isAgg4
 z4 := Tryd.sizeOf4
 v4 := Tryd.zeroValue4
 t5 := Tryd.underlying5
 a5 := Tryd.isAgg5
 z5 := Tryd.sizeOf5
 v5 := Tryd.zeroValue5
 t9 := Tryd.underlying9
 a9 := Tryd.isAgg9
 z9 := Tryd.sizeOf9
 v9 := Tryd.zeroValue9
 t22 := Tryd.underlying40
 a22 := Tryd.isAgg40
 z22 := Tryd.sizeOf40
 v22 := Tryd.zeroValue40
 t25 := Tryd.underlying78
 a25 := Tryd.isAgg78
 z25 := Tryd.sizeOf78
 v25 := Tryd.zeroValue78
 t39 := Tryd.underlying103
 a39 := Tryd.isAgg103
 z39 := Tryd.sizeOf103
 v39 := Tryd.zeroValue103
 t45 := Tryd.underlying111
 a45 := Tryd.isAgg111
 z45 := Tryd.sizeOf111
 v45 := Tryd.zeroValue111
 t46 := Tryd.underlying112
 a46 := Tryd.isAgg112
 z46 := Tryd.sizeOf112
 v46 := Tryd.zeroValue112
 t50 := Tryd.underlying88
 a50 := Tryd.isAgg88
 z50 := Tryd.sizeOf88
 v50 := Tryd.zeroValue88
 t53 := Tryd.underlying118
 a53 := Tryd.isAgg118
 z53 := Tryd.sizeOf118
 v53 := Tryd.zeroValue118
 t55 := Tryd.underlying120
 a55 := Tryd.isAgg120
 z55 := Tryd.sizeOf120
 v55 := Tryd.zeroValue120
 t66 := Tryd.underlying125
 a66 := Tryd.isAgg125
 z66 := Tryd.sizeOf125
 v66 := Tryd.zeroValue125
 t70 := Tryd.underlying129
 a70 := Tryd.isAgg129
 z70 := Tryd.sizeOf129
 v70 := Tryd.zeroValue129
 t76 := Tryd.underlying137
 a76 := Tryd.isAgg137
 z76 := Tryd.sizeOf137
 v76 := Tryd.zeroValue137
 t77 := Tryd.underlying138
 a77 := Tryd.isAgg138
 z77 := Tryd.sizeOf138
 v77 := Tryd.zeroValue138 }
end Go.Proofs
