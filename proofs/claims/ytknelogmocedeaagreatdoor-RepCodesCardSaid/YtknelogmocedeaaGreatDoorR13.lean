/- Several texts, one behind the other. Contracts of functions of Go's library, as the kit's shelf proves them of whatever program, at this program's numbers. Each states its own conditions. Contracts of functions of Go's library, as the kit's shelf proves them of whatever program, at this program's numbers. Each states its own conditions. -/
import Derived.Shelf.Strings.Search3
import Derived.Shelf.Strings.Cut
import Derived.Shelf.Strings.Split
import Derived.Test.YtknelogmocedeaaGreatDoorProg
import Derived.Shelf.GgClosure.StringsIndexFuncTop
namespace Go.Proofs.YtknelogmocedeaaGreatDoor
open Go.Shelf
def Shelf.Laysn144_ren:Go.Shelf.Ren:=⟨fun | 143=>90 | 144=>53 | 217=>161 | 219=>132 | 224=>163 | 225=>162 | 266=>186 | 267=>164 | 314=>187 | n=>n,fun | 3=>3 | 4=>4 | 5=>5 | 9=>9 | 46=>281 | 51=>312 | 146=>313 | n=>n,fun | 1=>9 | n=>n⟩
theorem Shelf.Laysn144:Go.Proofs.Lays.n144 Tryz.prog Shelf.Laysn144_ren:={
 mixed:=by kernel_rfl
 f143:=Tryz.func90.trans (congrArg some (by kernel_rfl))
 f144:=Tryz.func53.trans (congrArg some (by kernel_rfl))
 f217:=Tryz.func161.trans (congrArg some (by kernel_rfl))
 f219:=Tryz.func132.trans (congrArg some (by kernel_rfl))
 f224:=Tryz.func163.trans (congrArg some (by kernel_rfl))
 f225:=Tryz.func162.trans (congrArg some (by kernel_rfl))
 f266:=Tryz.func186.trans (congrArg some (by kernel_rfl))
 f267:=Tryz.func164.trans (congrArg some (by kernel_rfl))
 f314:=Tryz.func187.trans (congrArg some (by kernel_rfl))
 t3:=Tryz.underlying3
 a3:=Tryz.isAgg3
 z3:=Tryz.sizeOf3
 v3:=Tryz.zeroValue3
 t4:=Tryz.underlying4
 a4:=Tryz.isAgg4
 z4:=Tryz.sizeOf4
 v4:=Tryz.zeroValue4
 t5:=Tryz.underlying5
 a5:=Tryz.isAgg5
 z5:=Tryz.sizeOf5
 v5:=Tryz.zeroValue5
 t9:=Tryz.underlying9
 a9:=Tryz.isAgg9
 z9:=Tryz.sizeOf9
 v9:=Tryz.zeroValue9
 t46:=Tryz.underlying281
 a46:=Tryz.isAgg281
 z46:=Tryz.sizeOf281
 v46:=Tryz.zeroValue281
 t51:=Tryz.underlying312
 a51:=Tryz.isAgg312
 z51:=Tryz.sizeOf312
 v51:=Tryz.zeroValue312
 t146:=Tryz.underlying313
 a146:=Tryz.isAgg313
 z146:=Tryz.sizeOf313
 v146:=Tryz.zeroValue313
 g1:=by kernel_rfl}
open Go.RowKit Go.Lib in
theorem Shelf.strings_Contains_one (s:ByteArray)(c:UInt8)(w:World):
  Calls Tryz.prog 53 #[.string s,.string ⟨#[c]⟩] w fun e w'=>e=.returned (.bool (decide (0≤Lib.indexByte s.data.toList c)))∧w'=w:=Any.strings_Contains_one Shelf.Laysn144 s c w
def Shelf.Laysn145_ren:Go.Shelf.Ren:=⟨fun | 145=>125 | 217=>161 | 219=>132 | 220=>157 | 224=>163 | 225=>162 | 266=>186 | 267=>164 | 314=>187 | n=>n,fun | 3=>3 | 4=>4 | 5=>5 | 9=>9 | 46=>281 | 51=>312 | 59=>221 | 146=>313 | n=>n,fun | 1=>9 | n=>n⟩
theorem Shelf.Laysn145:Go.Proofs.Lays.n145 Tryz.prog Shelf.Laysn145_ren:={
 mixed:=by kernel_rfl
 f145:=Tryz.func125.trans (congrArg some (by kernel_rfl))
 f217:=Tryz.func161.trans (congrArg some (by kernel_rfl))
 f219:=Tryz.func132.trans (congrArg some (by kernel_rfl))
 f220:=Tryz.func157.trans (congrArg some (by kernel_rfl))
 f224:=Tryz.func163.trans (congrArg some (by kernel_rfl))
 f225:=Tryz.func162.trans (congrArg some (by kernel_rfl))
 f266:=Tryz.func186.trans (congrArg some (by kernel_rfl))
 f267:=Tryz.func164.trans (congrArg some (by kernel_rfl))
 f314:=Tryz.func187.trans (congrArg some (by kernel_rfl))
 t3:=Tryz.underlying3
 a3:=Tryz.isAgg3
 z3:=Tryz.sizeOf3
 v3:=Tryz.zeroValue3
 t4:=Tryz.underlying4
 a4:=Tryz.isAgg4
 z4:=Tryz.sizeOf4
 v4:=Tryz.zeroValue4
 t5:=Tryz.underlying5
 a5:=Tryz.isAgg5
 z5:=Tryz.sizeOf5
 v5:=Tryz.zeroValue5
 t9:=Tryz.underlying9
 a9:=Tryz.isAgg9
 z9:=Tryz.sizeOf9
 v9:=Tryz.zeroValue9
 t46:=Tryz.underlying281
 a46:=Tryz.isAgg281
 z46:=Tryz.sizeOf281
 v46:=Tryz.zeroValue281
 t51:=Tryz.underlying312
 a51:=Tryz.isAgg312
 z51:=Tryz.sizeOf312
 v51:=Tryz.zeroValue312
 t59:=Tryz.underlying221
 a59:=Tryz.isAgg221
 z59:=Tryz.sizeOf221
 v59:=Tryz.zeroValue221
 t146:=Tryz.underlying313
 a146:=Tryz.isAgg313
 z146:=Tryz.sizeOf313
 v146:=Tryz.zeroValue313
 g1:=by kernel_rfl}
open Go.RowKit Go.Lib in
theorem Shelf.strings_Cut (s sep:ByteArray)(m:Int)(w:World)(hs:s.size < 4294967281)(hm:w.cell? ⟨9,0,none⟩=some (.int .i64 m)):
  Calls Tryz.prog 125 #[.string s,.string sep] w fun e w'=>e=.returned (.tuple #[.string ⟨(Lib.cut s.data.toList sep.data.toList).1.toArray⟩,.string ⟨(Lib.cut s.data.toList sep.data.toList).2.1.toArray⟩,.bool (Lib.cut s.data.toList sep.data.toList).2.2])∧∃n,w'=w.drewN n:=Any.strings_Cut Shelf.Laysn145 s sep m w hs hm
def Shelf.Laysn146_ren:Go.Shelf.Ren:=⟨fun | 138=>135 | 143=>90 | 146=>56 | 195=>166 | 197=>167 | 217=>161 | 218=>168 | 219=>132 | 221=>93 | 224=>163 | 225=>162 | 260=>188 | 266=>186 | 267=>164 | 268=>134 | 314=>187 | n=>n,fun | 0=>0 | 3=>3 | 4=>4 | 5=>5 | 9=>9 | 21=>21 | 31=>22 | 46=>281 | 51=>312 | 105=>284 | 119=>334 | 138=>336 | 139=>337 | 146=>313 | n=>n,fun | 1=>9 | 3=>15 | 4=>16 | n=>n⟩
theorem Shelf.Laysn146:Go.Proofs.Lays.n146 Tryz.prog Shelf.Laysn146_ren:={
 mixed:=by kernel_rfl
 f138:=Tryz.func135.trans (congrArg some (by kernel_rfl))
 f143:=Tryz.func90.trans (congrArg some (by kernel_rfl))
 f146:=Tryz.func56.trans (congrArg some (by kernel_rfl))
 f195:=Tryz.func166.trans (congrArg some (by kernel_rfl))
 f197:=Tryz.func167.trans (congrArg some (by kernel_rfl))
 f217:=Tryz.func161.trans (congrArg some (by kernel_rfl))
 f218:=Tryz.func168.trans (congrArg some (by kernel_rfl))
 f219:=Tryz.func132.trans (congrArg some (by kernel_rfl))
 f221:=Tryz.func93.trans (congrArg some (by kernel_rfl))
 f224:=Tryz.func163.trans (congrArg some (by kernel_rfl))
 f225:=Tryz.func162.trans (congrArg some (by kernel_rfl))
 f260:=Tryz.func188.trans (congrArg some (by kernel_rfl))
 f266:=Tryz.func186.trans (congrArg some (by kernel_rfl))
 f267:=Tryz.func164.trans (congrArg some (by kernel_rfl))
 f268:=Tryz.func134.trans (congrArg some (by kernel_rfl))
 f314:=Tryz.func187.trans (congrArg some (by kernel_rfl))
 t0:=Tryz.underlying0
 a0:=Tryz.isAgg0
 z0:=Tryz.sizeOf0
 v0:=Tryz.zeroValue0
 t3:=Tryz.underlying3
 a3:=Tryz.isAgg3
 z3:=Tryz.sizeOf3
 v3:=Tryz.zeroValue3
 t4:=Tryz.underlying4
 a4:=Tryz.isAgg4
 z4:=Tryz.sizeOf4
 v4:=Tryz.zeroValue4
 t5:=Tryz.underlying5
 a5:=Tryz.isAgg5
 z5:=Tryz.sizeOf5
 v5:=Tryz.zeroValue5
 t9:=Tryz.underlying9
 a9:=Tryz.isAgg9
 z9:=Tryz.sizeOf9
 v9:=Tryz.zeroValue9
 t21:=Tryz.underlying21
 a21:=Tryz.isAgg21
 z21:=Tryz.sizeOf21
 v21:=Tryz.zeroValue21
 t31:=Tryz.underlying22
 a31:=Tryz.isAgg22
 z31:=Tryz.sizeOf22
 v31:=Tryz.zeroValue22
 t46:=Tryz.underlying281
 a46:=Tryz.isAgg281
 z46:=Tryz.sizeOf281
 v46:=Tryz.zeroValue281
 t51:=Tryz.underlying312
 a51:=Tryz.isAgg312
 z51:=Tryz.sizeOf312
 v51:=Tryz.zeroValue312
 t105:=Tryz.underlying284
 a105:=Tryz.isAgg284
 z105:=Tryz.sizeOf284
 v105:=Tryz.zeroValue284
 t119:=Tryz.underlying334
 a119:=Tryz.isAgg334
 z119:=Tryz.sizeOf334
 t138:=Tryz.underlying336
 a138:=Tryz.isAgg336
 z138:=Tryz.sizeOf336
 v138:=Tryz.zeroValue336
 t139:=Tryz.underlying337
 a139:=Tryz.isAgg337
 z139:=Tryz.sizeOf337
 v139:=Tryz.zeroValue337
 t146:=Tryz.underlying313
 a146:=Tryz.isAgg313
 z146:=Tryz.sizeOf313
 v146:=Tryz.zeroValue313
 g1:=by kernel_rfl
 g3:=by kernel_rfl
 g4:=by kernel_rfl}
open Go.RowKit Go.Lib in
theorem Shelf.strings_Split (s sep:ByteArray)(m:Int)(w:World)(hs:s.size < 4294967281)(hm:w.cell? ⟨9,0,none⟩=some (.int .i64 m))(h1:1≤sep.size):
  Calls Tryz.prog 56 #[.string s,.string sep] w fun e w'=>
   e=.returned (.slice (some ⟨w.heap.size,0,none⟩) (Lib.countB s sep+1) (Lib.countB s sep+1))∧w'=w.alloc (.cells ((Lib.splitB sep 0 (Lib.countB s sep) s).map Value.string).toArray 9):=Any.strings_Split Shelf.Laysn146 (by kernel_rfl) s sep m w hs hm h1
end Go.Proofs.YtknelogmocedeaaGreatDoor
namespace Go.Proofs.YtknelogmocedeaaGreatDoor
open Go.Shelf
def Shelf.LaysGwn17_ren:Go.Shelf.Ren:=⟨fun | 15=>133 | 17=>92 | 20=>165 | n=>n,fun | 0=>0 | 3=>3 | 4=>4 | 9=>9 | 21=>21 | 23=>171 | n=>n,fun | n=>n⟩
theorem Shelf.LaysGwn17:Go.Proofs.LaysGw.n17 Tryz.prog Shelf.LaysGwn17_ren:={
 mixed:=by kernel_rfl
 f15:=Tryz.func133.trans (congrArg some (by kernel_rfl))
 f17:=Tryz.func92.trans (congrArg some (by kernel_rfl))
 f20:=Tryz.func165.trans (congrArg some (by kernel_rfl))
 t0:=Tryz.underlying0
 a0:=Tryz.isAgg0
 z0:=Tryz.sizeOf0
 v0:=Tryz.zeroValue0
 i0:=by kernel_rfl
 t3:=Tryz.underlying3
 a3:=Tryz.isAgg3
 z3:=Tryz.sizeOf3
 v3:=Tryz.zeroValue3
 i3:=by kernel_rfl
 t4:=Tryz.underlying4
 a4:=Tryz.isAgg4
 z4:=Tryz.sizeOf4
 v4:=Tryz.zeroValue4
 i4:=by kernel_rfl
 t9:=Tryz.underlying9
 a9:=Tryz.isAgg9
 z9:=Tryz.sizeOf9
 v9:=Tryz.zeroValue9
 i9:=by kernel_rfl
 t21:=Tryz.underlying21
 a21:=Tryz.isAgg21
 z21:=Tryz.sizeOf21
 v21:=Tryz.zeroValue21
 i21:=by kernel_rfl
 t23:=Tryz.underlying171
 a23:=Tryz.isAgg171
 z23:=Tryz.sizeOf171
 v23:=Tryz.zeroValue171
 i23:=by kernel_rfl}
open Go.RowKit Go.Lib in
theorem Shelf.strings_ContainsFunc (g:Nat)(lb:Array Value)(eg:∀args w,(callFunc g args).run Tryz.prog w=.ok (.enter g args) w)(p:Nat→Bool)(s:ByteArray)(w:World)(hp:PredAt Tryz.prog g lb encR p w):
  Calls Tryz.prog 92 #[.string s,.func (.func g) #[] lb] w fun e w'=>e=.returned (.bool (decide (0≤Lib.idxFunc p true s)))∧Below w.heap.size w w':=Any.strings_ContainsFunc Shelf.LaysGwn17 g lb eg p s w hp
end Go.Proofs.YtknelogmocedeaaGreatDoor
