/-
  DERIVED: THE SHELF's CONTRACTS AT THIS DUMP, IN PLAIN WORDS (tools/lay-plain.mjs out of 'YtehfogjibhnabaaGreatDoorShelf.lean', which tools/lay-shelf.mjs wrote): THE SAME DECLARATIONS UNDER THE SAME NAMES: 'import', 'namespace', 'open', 'def', 'theorem' AND NOTHING ELSE: no command of the shelf's: FOR A HAND-IN. Each laying: the table of numbers ('.._ren') and one theorem, a field a fact of the dump's own or the kernel's comparison; each contract: ONE APPLICATION.
-/
import Derived.Shelf.SlSortCmp.WholeK
import Derived.Shelf.SlSortCmp.NoneTotal
import Derived.Shelf.Small.Bits
import Derived.Shelf.Small.Wraps
import Derived.Shelf.Strconv.Itoa0
import Derived.Shelf.Strings.Search1
import Derived.Shelf.Strings.Search2
import Derived.Shelf.Strings.Search3
import Derived.Shelf.Strings.Count
import Derived.Shelf.LaysM
import Derived.Shelf.Strings.Shaped
import Derived.Shelf.Strings.LastIndex
import Derived.Shelf.Strings.Split
import Derived.Shelf.Unicode.DecodeSlow
import Derived.Test.YtehfogjibhnabaaGreatDoorProg
namespace Go.Proofs
open Go.Shelf
def Tryz.lays138_ren : Go.Shelf.Ren := ⟨fun | 138 => 81 | 195 => 92 | 218 => 93 | 143 => 94 | 219 => 99 | 217 => 101 | 225 => 102 | 224 => 103 | 267 => 104 | 266 => 106 | 314 => 107 | n => n, fun | 9 => 9 | 3 => 3 | 4 => 4 | 5 => 5 | 0 => 0 | 46 => 76 | 146 => 111 | 51 => 91 | n => n, fun | 1 => 0 | n => n⟩
theorem Tryz.lays138 : Go.Proofs.Lays.n138 Tryz.prog Tryz.lays138_ren := {
 mixed := by kernel_rfl
 f138 := Tryz.func81.trans (congrArg some (by kernel_rfl))
 f143 := Tryz.func94.trans (congrArg some (by kernel_rfl))
 f195 := Tryz.func92.trans (congrArg some (by kernel_rfl))
 f217 := Tryz.func101.trans (congrArg some (by kernel_rfl))
 f218 := Tryz.func93.trans (congrArg some (by kernel_rfl))
 f219 := Tryz.func99.trans (congrArg some (by kernel_rfl))
 f224 := Tryz.func103.trans (congrArg some (by kernel_rfl))
 f225 := Tryz.func102.trans (congrArg some (by kernel_rfl))
 f266 := Tryz.func106.trans (congrArg some (by kernel_rfl))
 f267 := Tryz.func104.trans (congrArg some (by kernel_rfl))
 f314 := Tryz.func107.trans (congrArg some (by kernel_rfl))
 t0 := Tryz.underlying0
 a0 := Tryz.isAgg0
 z0 := Tryz.sizeOf0
 v0 := Tryz.zeroValue0
 t3 := Tryz.underlying3
 a3 := Tryz.isAgg3
 z3 := Tryz.sizeOf3
 v3 := Tryz.zeroValue3
 t4 := Tryz.underlying4
 a4 := Tryz.isAgg4
 z4 := Tryz.sizeOf4
 v4 := Tryz.zeroValue4
 t5 := Tryz.underlying5
 a5 := Tryz.isAgg5
 z5 := Tryz.sizeOf5
 v5 := Tryz.zeroValue5
 t9 := Tryz.underlying9
 a9 := Tryz.isAgg9
 z9 := Tryz.sizeOf9
 v9 := Tryz.zeroValue9
 t46 := Tryz.underlying76
 a46 := Tryz.isAgg76
 z46 := Tryz.sizeOf76
 v46 := Tryz.zeroValue76
 t51 := Tryz.underlying91
 a51 := Tryz.isAgg91
 z51 := Tryz.sizeOf91
 v51 := Tryz.zeroValue91
 t146 := Tryz.underlying111
 a146 := Tryz.isAgg111
 z146 := Tryz.sizeOf111
 v146 := Tryz.zeroValue111
 g1 := by kernel_rfl }
open Go.RowKit Go.Lib in
theorem Tryz.strings_Count_one (s : ByteArray) (c : UInt8) (w : World) :
  Calls Tryz.prog 81 #[.string s, .string ⟨#[c]⟩] w fun e w' => e = .returned (.int .i64 (Lib.countByte s.data.toList c)) ∧ w' = w := Any.strings_Count_one Tryz.lays138 s c w
def Tryz.lays149_ren : Go.Shelf.Ren := ⟨fun | 149 => 84 | 222 => 96 | n => n, fun | 9 => 9 | 5 => 5 | 3 => 3 | 4 => 4 | n => n, fun | n => n⟩
theorem Tryz.lays149 : Go.Proofs.Lays.n149 Tryz.prog Tryz.lays149_ren := {
 mixed := by kernel_rfl
 f149 := Tryz.func84.trans (congrArg some (by kernel_rfl))
 f222 := Tryz.func96.trans (congrArg some (by kernel_rfl))
 t3 := Tryz.underlying3
 a3 := Tryz.isAgg3
 z3 := Tryz.sizeOf3
 v3 := Tryz.zeroValue3
 t4 := Tryz.underlying4
 a4 := Tryz.isAgg4
 z4 := Tryz.sizeOf4
 v4 := Tryz.zeroValue4
 t5 := Tryz.underlying5
 a5 := Tryz.isAgg5
 z5 := Tryz.sizeOf5
 v5 := Tryz.zeroValue5
 t9 := Tryz.underlying9
 a9 := Tryz.isAgg9
 z9 := Tryz.sizeOf9
 v9 := Tryz.zeroValue9 }
open Go.RowKit Go.Lib in
theorem Tryz.strings_LastIndexByte (s : ByteArray) (c : Int) (hs : s.size < 4611686018427387904) (w : World) :
  Calls Tryz.prog 84 #[.string s, .int .u8 c] w fun e w' => e = .returned (.int .i64 (Lib.lastIndexByte s c)) ∧ w' = w := Any.strings_LastIndexByte Tryz.lays149 s c hs w
def Tryz.lays146_ren : Go.Shelf.Ren := ⟨fun | 146 => 64 | 221 => 82 | 268 => 95 | 138 => 81 | 143 => 94 | 195 => 92 | 197 => 100 | 218 => 93 | 219 => 99 | 260 => 105 | 217 => 101 | 225 => 102 | 224 => 103 | 267 => 104 | 266 => 106 | 314 => 107 | n => n, fun | 9 => 9 | 31 => 38 | 3 => 3 | 4 => 4 | 0 => 0 | 105 => 108 | 21 => 21 | 5 => 5 | 46 => 76 | 119 => 113 | 139 => 116 | 138 => 115 | 146 => 111 | 51 => 91 | n => n, fun | 1 => 0 | 3 => 1 | 4 => 2 | n => n⟩
theorem Tryz.lays146 : Go.Proofs.Lays.n146 Tryz.prog Tryz.lays146_ren := {
 mixed := by kernel_rfl
 f138 := Tryz.func81.trans (congrArg some (by kernel_rfl))
 f143 := Tryz.func94.trans (congrArg some (by kernel_rfl))
 f146 := Tryz.func64.trans (congrArg some (by kernel_rfl))
 f195 := Tryz.func92.trans (congrArg some (by kernel_rfl))
 f197 := Tryz.func100.trans (congrArg some (by kernel_rfl))
 f217 := Tryz.func101.trans (congrArg some (by kernel_rfl))
 f218 := Tryz.func93.trans (congrArg some (by kernel_rfl))
 f219 := Tryz.func99.trans (congrArg some (by kernel_rfl))
 f221 := Tryz.func82.trans (congrArg some (by kernel_rfl))
 f224 := Tryz.func103.trans (congrArg some (by kernel_rfl))
 f225 := Tryz.func102.trans (congrArg some (by kernel_rfl))
 f260 := Tryz.func105.trans (congrArg some (by kernel_rfl))
 f266 := Tryz.func106.trans (congrArg some (by kernel_rfl))
 f267 := Tryz.func104.trans (congrArg some (by kernel_rfl))
 f268 := Tryz.func95.trans (congrArg some (by kernel_rfl))
 f314 := Tryz.func107.trans (congrArg some (by kernel_rfl))
 t0 := Tryz.underlying0
 a0 := Tryz.isAgg0
 z0 := Tryz.sizeOf0
 v0 := Tryz.zeroValue0
 t3 := Tryz.underlying3
 a3 := Tryz.isAgg3
 z3 := Tryz.sizeOf3
 v3 := Tryz.zeroValue3
 t4 := Tryz.underlying4
 a4 := Tryz.isAgg4
 z4 := Tryz.sizeOf4
 v4 := Tryz.zeroValue4
 t5 := Tryz.underlying5
 a5 := Tryz.isAgg5
 z5 := Tryz.sizeOf5
 v5 := Tryz.zeroValue5
 t9 := Tryz.underlying9
 a9 := Tryz.isAgg9
 z9 := Tryz.sizeOf9
 v9 := Tryz.zeroValue9
 t21 := Tryz.underlying21
 a21 := Tryz.isAgg21
 z21 := Tryz.sizeOf21
 v21 := Tryz.zeroValue21
 t31 := Tryz.underlying38
 a31 := Tryz.isAgg38
 z31 := Tryz.sizeOf38
 v31 := Tryz.zeroValue38
 t46 := Tryz.underlying76
 a46 := Tryz.isAgg76
 z46 := Tryz.sizeOf76
 v46 := Tryz.zeroValue76
 t51 := Tryz.underlying91
 a51 := Tryz.isAgg91
 z51 := Tryz.sizeOf91
 v51 := Tryz.zeroValue91
 t105 := Tryz.underlying108
 a105 := Tryz.isAgg108
 z105 := Tryz.sizeOf108
 v105 := Tryz.zeroValue108
 t119 := Tryz.underlying113
 a119 := Tryz.isAgg113
 z119 := Tryz.sizeOf113
 t138 := Tryz.underlying115
 a138 := Tryz.isAgg115
 z138 := Tryz.sizeOf115
 v138 := Tryz.zeroValue115
 t139 := Tryz.underlying116
 a139 := Tryz.isAgg116
 z139 := Tryz.sizeOf116
 v139 := Tryz.zeroValue116
 t146 := Tryz.underlying111
 a146 := Tryz.isAgg111
 z146 := Tryz.sizeOf111
 v146 := Tryz.zeroValue111
 g1 := by kernel_rfl
 g3 := by kernel_rfl
 g4 := by kernel_rfl }
def Tryz.laysSlF06_f35_ren : Go.Shelf.Ren := ⟨fun | 6 => 35 | 15 => 59 | 14 => 58 | 28 => 77 | 29 => 78 | 20 => 69 | 21 => 70 | 22 => 71 | 23 => 72 | 24 => 73 | 25 => 74 | 26 => 75 | 27 => 76 | 46 => 85 | 47 => 86 | 48 => 87 | 49 => 88 | 50 => 89 | 57 => 97 | n => n, fun | 22 => 22 | 24 => 43 | 25 => 60 | 3 => 3 | 39 => 76 | 0 => 0 | 53 => 91 | 55 => 93 | 4 => 4 | 46 => 84 | 45 => 83 | 50 => 88 | 5 => 5 | 9 => 9 | 66 => 98 | 70 => 102 | 76 => 105 | 77 => 106 | n => n, fun | n => n⟩
theorem Tryz.laysSlF06_f35 : Go.Proofs.SlLaysF0.n6 Tryz.prog Tryz.laysSlF06_f35_ren := {
 mixed := by kernel_rfl
 f6 := ⟨Tryz.f35.name, by decide, Tryz.func35.trans (congrArg some (by kernel_rfl))⟩
 f14 := ⟨Tryz.f58.name, by decide, Tryz.func58.trans (congrArg some (by kernel_rfl))⟩
 f15 := Tryz.func59.trans (congrArg some (by kernel_rfl))
 f20 := ⟨Tryz.f69.name, by decide, Tryz.func69.trans (congrArg some (by kernel_rfl))⟩
 f21 := ⟨Tryz.f70.name, by decide, Tryz.func70.trans (congrArg some (by kernel_rfl))⟩
 f22 := ⟨Tryz.f71.name, by decide, Tryz.func71.trans (congrArg some (by kernel_rfl))⟩
 f23 := ⟨Tryz.f72.name, by decide, Tryz.func72.trans (congrArg some (by kernel_rfl))⟩
 f24 := ⟨Tryz.f73.name, by decide, Tryz.func73.trans (congrArg some (by kernel_rfl))⟩
 f25 := ⟨Tryz.f74.name, by decide, Tryz.func74.trans (congrArg some (by kernel_rfl))⟩
 f26 := ⟨Tryz.f75.name, by decide, Tryz.func75.trans (congrArg some (by kernel_rfl))⟩
 f27 := ⟨Tryz.f76.name, by decide, Tryz.func76.trans (congrArg some (by kernel_rfl))⟩
 f28 := Tryz.func77.trans (congrArg some (by kernel_rfl))
 f29 := Tryz.func78.trans (congrArg some (by kernel_rfl))
 f46 := ⟨Tryz.f85.name, by decide, Tryz.func85.trans (congrArg some (by kernel_rfl))⟩
 f47 := Tryz.func86.trans (congrArg some (by kernel_rfl))
 f48 := Tryz.func87.trans (congrArg some (by kernel_rfl))
 f49 := ⟨Tryz.f88.name, by decide, Tryz.func88.trans (congrArg some (by kernel_rfl))⟩
 f50 := ⟨Tryz.f89.name, by decide, Tryz.func89.trans (congrArg some (by kernel_rfl))⟩
 f57 := ⟨Tryz.f97.name, by decide, Tryz.func97.trans (congrArg some (by kernel_rfl))⟩
 t0 := Tryz.underlying0
 a0 := Tryz.isAgg0
 z0 := Tryz.sizeOf0
 v0 := Tryz.zeroValue0
 t3 := Tryz.underlying3
 a3 := Tryz.isAgg3
 z3 := Tryz.sizeOf3
 v3 := Tryz.zeroValue3
 t4 := Tryz.underlying4
 a4 := Tryz.isAgg4
 z4 := Tryz.sizeOf4
 v4 := Tryz.zeroValue4
 t5 := Tryz.underlying5
 a5 := Tryz.isAgg5
 z5 := Tryz.sizeOf5
 v5 := Tryz.zeroValue5
 t9 := Tryz.underlying9
 a9 := Tryz.isAgg9
 z9 := Tryz.sizeOf9
 v9 := Tryz.zeroValue9
 t22 := Tryz.underlying22
 a22 := Tryz.isAgg22
 z22 := Tryz.sizeOf22
 v22 := Tryz.zeroValue22
 t25 := Tryz.underlying60
 a25 := Tryz.isAgg60
 z25 := Tryz.sizeOf60
 v25 := Tryz.zeroValue60
 t39 := Tryz.underlying76
 a39 := Tryz.isAgg76
 z39 := Tryz.sizeOf76
 v39 := Tryz.zeroValue76
 t45 := Tryz.underlying83
 a45 := Tryz.isAgg83
 z45 := Tryz.sizeOf83
 v45 := Tryz.zeroValue83
 t46 := Tryz.underlying84
 a46 := Tryz.isAgg84
 z46 := Tryz.sizeOf84
 v46 := Tryz.zeroValue84
 t50 := Tryz.underlying88
 a50 := Tryz.isAgg88
 z50 := Tryz.sizeOf88
 v50 := Tryz.zeroValue88
 t53 := Tryz.underlying91
 a53 := Tryz.isAgg91
 z53 := Tryz.sizeOf91
 v53 := Tryz.zeroValue91
 t55 := Tryz.underlying93
 a55 := Tryz.isAgg93
 z55 := Tryz.sizeOf93
 v55 := Tryz.zeroValue93
 t66 := Tryz.underlying98
 a66 := Tryz.isAgg98
 z66 := Tryz.sizeOf98
 v66 := Tryz.zeroValue98
 t70 := Tryz.underlying102
 a70 := Tryz.isAgg102
 z70 := Tryz.sizeOf102
 v70 := Tryz.zeroValue102
 t76 := Tryz.underlying105
 a76 := Tryz.isAgg105
 z76 := Tryz.sizeOf105
 v76 := Tryz.zeroValue105
 t77 := Tryz.underlying106
 a77 := Tryz.isAgg106
 z77 := Tryz.sizeOf106
 v77 := Tryz.zeroValue106 }
end Go.Proofs
