/-
  DERIVED: THE SHELF's CONTRACTS AT THIS DUMP, IN PLAIN WORDS (tools/lay-plain.mjs out of 'TryzShelf.lean', which tools/lay-shelf.mjs wrote): THE SAME DECLARATIONS UNDER THE SAME NAMES: 'import', 'namespace', 'open', 'def', 'theorem' AND NOTHING ELSE: no command of the shelf's: FOR A HAND-IN. Each laying: the table of numbers ('.._ren') and one theorem, a field a fact of the dump's own or the kernel's comparison; each contract: ONE APPLICATION.
-/
import Derived.Shelf.Strings.Builder1
import Derived.Shelf.Strings.Search3
import Derived.Shelf.Strings.Count
import Derived.Shelf.Strings.Cut
import Derived.Test.YtdeclhljkmlpiaaGreatProg
set_option linter.unusedSimpArgs false
set_option linter.unusedVariables false
namespace Go.Proofs
open Go.Shelf
open Go.RowKit in
def Tryz.Gn:Go.Shelf.Ren:=⟨fun | 143=>80 | 219=>94 | 217=>89 | 225=>71 | 224=>70 | 267=>101 | 266=>99 | 314=>108 | n=>n,fun | 9=>9 | 3=>3 | 4=>4 | 5=>5 | 46=>110 | 146=>156 | 51=>122 | n=>n,fun | 1=>0 | n=>n⟩
theorem Tryz.Ur:Go.Proofs.Lays.n143 Tryz.prog Tryz.Gn:={
  mixed:=by kernel_rfl
  f143:=Tryz.func80.trans (congrArg some (by kernel_rfl))
  f217:=Tryz.func89.trans (congrArg some (by kernel_rfl))
  f219:=Tryz.func94.trans (congrArg some (by kernel_rfl))
  f224:=Tryz.func70.trans (congrArg some (by kernel_rfl))
  f225:=Tryz.func71.trans (congrArg some (by kernel_rfl))
  f266:=Tryz.func99.trans (congrArg some (by kernel_rfl))
  f267:=Tryz.func101.trans (congrArg some (by kernel_rfl))
  f314:=Tryz.func108.trans (congrArg some (by kernel_rfl))
  t3:=Tryz.underlying3
  a3:=Tryz.isAgg3
  z3:=Tryz.sizeOf3
  v3:=Tryz.zeroValue3
  t4:=Tryz.underlying4
  a4:=Tryz.isAgg4
  z4:=Tryz.sizeOf4
  v4:=Tryz.zeroValue4
  t5:=Tryz.underlying5
  a5:=Tryz.isAgg5
  z5:=Tryz.sizeOf5
  v5:=Tryz.zeroValue5
  t9:=Tryz.underlying9
  a9:=Tryz.isAgg9
  z9:=Tryz.sizeOf9
  v9:=Tryz.zeroValue9
  t46:=Tryz.underlying110
  a46:=Tryz.isAgg110
  z46:=Tryz.sizeOf110
  v46:=Tryz.zeroValue110
  t51:=Tryz.underlying122
  a51:=Tryz.isAgg122
  z51:=Tryz.sizeOf122
  v51:=Tryz.zeroValue122
  t146:=Tryz.underlying156
  a146:=Tryz.isAgg156
  z146:=Tryz.sizeOf156
  v146:=Tryz.zeroValue156
  g1:=by kernel_rfl }
open Go.RowKit Go.Lib in
open Go.RowKit Go.Lib in
theorem Tryz.strings_Index (s sub:ByteArray) (m:Int) (w:World) (hs:s.size < 4294967281) (hm:w.cell? ⟨0,0,none⟩=some (.int .i64 m)) :
    Calls Tryz.prog 80 #[.string s,.string sub] w fun e w'=>e=.returned (.int .i64 (Lib.index s.data.toList sub.data.toList)) ∧ w'=w:=Any.strings_Index Tryz.Ur s sub m w hs hm
def Tryz.Ht:Go.Shelf.Ren:=⟨fun | 145=>73 | 220=>91 | 219=>94 | 217=>89 | 225=>71 | 224=>70 | 267=>101 | 266=>99 | 314=>108 | n=>n,fun | 9=>9 | 4=>4 | 59=>113 | 3=>3 | 5=>5 | 46=>110 | 146=>156 | 51=>122 | n=>n,fun | 1=>0 | n=>n⟩
theorem Tryz.Vb:Go.Proofs.Lays.n145 Tryz.prog Tryz.Ht:={
  mixed:=by kernel_rfl
  f145:=Tryz.func73.trans (congrArg some (by kernel_rfl))
  f217:=Tryz.func89.trans (congrArg some (by kernel_rfl))
  f219:=Tryz.func94.trans (congrArg some (by kernel_rfl))
  f220:=Tryz.func91.trans (congrArg some (by kernel_rfl))
  f224:=Tryz.func70.trans (congrArg some (by kernel_rfl))
  f225:=Tryz.func71.trans (congrArg some (by kernel_rfl))
  f266:=Tryz.func99.trans (congrArg some (by kernel_rfl))
  f267:=Tryz.func101.trans (congrArg some (by kernel_rfl))
  f314:=Tryz.func108.trans (congrArg some (by kernel_rfl))
  t3:=Tryz.underlying3
  a3:=Tryz.isAgg3
  z3:=Tryz.sizeOf3
  v3:=Tryz.zeroValue3
  t4:=Tryz.underlying4
  a4:=Tryz.isAgg4
  z4:=Tryz.sizeOf4
  v4:=Tryz.zeroValue4
  t5:=Tryz.underlying5
  a5:=Tryz.isAgg5
  z5:=Tryz.sizeOf5
  v5:=Tryz.zeroValue5
  t9:=Tryz.underlying9
  a9:=Tryz.isAgg9
  z9:=Tryz.sizeOf9
  v9:=Tryz.zeroValue9
  t46:=Tryz.underlying110
  a46:=Tryz.isAgg110
  z46:=Tryz.sizeOf110
  v46:=Tryz.zeroValue110
  t51:=Tryz.underlying122
  a51:=Tryz.isAgg122
  z51:=Tryz.sizeOf122
  v51:=Tryz.zeroValue122
  t59:=Tryz.underlying113
  a59:=Tryz.isAgg113
  z59:=Tryz.sizeOf113
  v59:=Tryz.zeroValue113
  t146:=Tryz.underlying156
  a146:=Tryz.isAgg156
  z146:=Tryz.sizeOf156
  v146:=Tryz.zeroValue156
  g1:=by kernel_rfl }
open Go.RowKit Go.Lib in
theorem Tryz.strings_Cut (s sep:ByteArray) (m:Int) (w:World) (hs:s.size < 4294967281) (hm:w.cell? ⟨0,0,none⟩=some (.int .i64 m)) :
    Calls Tryz.prog 73 #[.string s,.string sep] w fun e w'=>e=.returned (.tuple #[.string ⟨(Lib.cut s.data.toList sep.data.toList).1.toArray⟩,.string ⟨(Lib.cut s.data.toList sep.data.toList).2.1.toArray⟩,.bool (Lib.cut s.data.toList sep.data.toList).2.2]) ∧ ∃ n,w'=w.drewN n:=Any.strings_Cut Tryz.Vb s sep m w hs hm
def Tryz.Gc:Go.Shelf.Ren:=⟨fun | 138=>161 | 195=>162 | 218=>163 | 143=>80 | 219=>94 | 217=>89 | 225=>71 | 224=>70 | 267=>101 | 266=>99 | 314=>108 | n=>n,fun | 9=>9 | 3=>3 | 4=>4 | 5=>5 | 0=>0 | 46=>110 | 146=>156 | 51=>122 | n=>n,fun | 1=>0 | n=>n⟩
theorem Tryz.Uc:Go.Proofs.Lays.n138 Tryz.prog Tryz.Gc:={
  mixed:=by kernel_rfl
  f138:=Tryz.func161.trans (congrArg some (by kernel_rfl))
  f143:=Tryz.func80.trans (congrArg some (by kernel_rfl))
  f195:=Tryz.func162.trans (congrArg some (by kernel_rfl))
  f217:=Tryz.func89.trans (congrArg some (by kernel_rfl))
  f218:=Tryz.func163.trans (congrArg some (by kernel_rfl))
  f219:=Tryz.func94.trans (congrArg some (by kernel_rfl))
  f224:=Tryz.func70.trans (congrArg some (by kernel_rfl))
  f225:=Tryz.func71.trans (congrArg some (by kernel_rfl))
  f266:=Tryz.func99.trans (congrArg some (by kernel_rfl))
  f267:=Tryz.func101.trans (congrArg some (by kernel_rfl))
  f314:=Tryz.func108.trans (congrArg some (by kernel_rfl))
  t0:=Tryz.underlying0
  a0:=Tryz.isAgg0
  z0:=Tryz.sizeOf0
  v0:=Tryz.zeroValue0
  t3:=Tryz.underlying3
  a3:=Tryz.isAgg3
  z3:=Tryz.sizeOf3
  v3:=Tryz.zeroValue3
  t4:=Tryz.underlying4
  a4:=Tryz.isAgg4
  z4:=Tryz.sizeOf4
  v4:=Tryz.zeroValue4
  t5:=Tryz.underlying5
  a5:=Tryz.isAgg5
  z5:=Tryz.sizeOf5
  v5:=Tryz.zeroValue5
  t9:=Tryz.underlying9
  a9:=Tryz.isAgg9
  z9:=Tryz.sizeOf9
  v9:=Tryz.zeroValue9
  t46:=Tryz.underlying110
  a46:=Tryz.isAgg110
  z46:=Tryz.sizeOf110
  v46:=Tryz.zeroValue110
  t51:=Tryz.underlying122
  a51:=Tryz.isAgg122
  z51:=Tryz.sizeOf122
  v51:=Tryz.zeroValue122
  t146:=Tryz.underlying156
  a146:=Tryz.isAgg156
  z146:=Tryz.sizeOf156
  v146:=Tryz.zeroValue156
  g1:=by kernel_rfl }
open Go.RowKit Go.Lib in
theorem Tryz.strings_Count_one (s:ByteArray) (c:UInt8) (w:World) :
    Calls Tryz.prog 161 #[.string s,.string ⟨#[c]⟩] w fun e w'=>e=.returned (.int .i64 (Lib.countByte s.data.toList c)) ∧ w'=w:=Any.strings_Count_one Tryz.Uc s c w
end Go.Proofs
