/-
  Texts of this proof, one behind the other: StrsL, NameS, Str2, FsA, FsB, FsC, FsD, FsE, FsF, FsG, FsH.
-/
import Derived.Test.YticadfhpolhkeaaGreatDoorQ2
import Derived.Shelf.Strings.Builder1
import Derived.Shelf.Strings.Builder2
import Derived.Shelf.Small.Bits
import Derived.Shelf.Small.Strs
import Derived.Shelf.Strings.BuilderF
import Derived.Shelf.Strings.BuilderK
import Derived.Shelf.Utf8.RuneCount
import Derived.Shelf.Strings.Builder2Cap
import Derived.Shelf.LaysM
import Derived.Shelf.Strings.Search1
import Derived.Shelf.Strings.Search2
import Derived.Shelf.Strings.Search3
import Derived.Shelf.Strings.Count
import Derived.Shelf.Strings.Shaped
import Derived.Shelf.Sort.Plain
import Derived.Shelf.Strings.Prefix
import Derived.Shelf.Strings.Split
import Derived.Shelf.Strings.Replace
import Derived.Shelf.Strings.SplitShaped
import Derived.Shelf.Unicode.Decode
import Derived.Shelf.Strings.RuneCount
import Derived.Shelf.Unicode.DecodeSlow
import Derived.Shelf.Unicode.DecodeAny
import Derived.Shelf.Strings.BuilderCap
import Derived.Shelf.Slices.In.SortNone
import Derived.Test.YticadfhpolhkeaaGreatDoorProg
import Derived.Shelf.Strings.Runes
import Derived.Shelf.Strings.Cut
import Derived.Shelf.Strings.IndexAnyAll
import Derived.Maps.RangeWalk
import Derived.Sort.MapsRangeIn
set_option maxHeartbeats 16000000
set_option maxRecDepth 100000
set_option linter.unusedVariables false
set_option linter.unusedSimpArgs false
namespace Go.Proofs
open Go.Shelf
def Tryz.lays137_ren:Go.Shelf.Ren:=⟨fun|137=>150|217=>203|266=>258|n=>n,fun|9=>9|5=>5|3=>3|n=>n,fun|n=>n⟩
theorem Tryz.lays137:Go.Proofs.Lays.n137 Tryz.prog Tryz.lays137_ren:={
 mixed:=by kernel_rfl
 f137:=Tryz.func150.trans (congrArg some (by kernel_rfl))
 f217:=Tryz.func203.trans (congrArg some (by kernel_rfl))
 f266:=Tryz.func258.trans (congrArg some (by kernel_rfl))
 t3:=Tryz.underlying3
 a3:=Tryz.isAgg3
 z3:=Tryz.sizeOf3
 v3:=Tryz.zeroValue3
 t5:=Tryz.underlying5
 a5:=Tryz.isAgg5
 z5:=Tryz.sizeOf5
 v5:=Tryz.zeroValue5
 t9:=Tryz.underlying9
 a9:=Tryz.isAgg9
 z9:=Tryz.sizeOf9
 v9:=Tryz.zeroValue9 }
open Go.RowKit in
theorem Tryz.strings_IndexByte (s:ByteArray) (c:Int) (w:World) :
  Calls Tryz.prog 150 #[.string s,.int .u8 c] w λe w'=>e = .returned (.int .i64 (Lib.indexByte s.data.toList c.toNat.toUInt8))/\w'=w:=Any.strings_IndexByte Tryz.lays137 s c w
def Tryz.lays190_ren:Go.Shelf.Ren:=⟨fun|190=>105|125=>164|258=>163|128=>225|129=>226|302=>216|303=>217|304=>218|305=>219|306=>220|307=>221|308=>222|309=>223|310=>224|333=>270|329=>271|330=>272|334=>273|335=>274|336=>275|344=>319|n=>n,fun|31=>43|9=>9|3=>3|46=>185|0=>0|51=>202|53=>204|4=>4|183=>334|182=>333|131=>213|5=>5|218=>387|222=>391|228=>462|229=>463|n=>n,fun|n=>n⟩
theorem Tryz.lays190:Go.Proofs.Lays.n190 Tryz.prog Tryz.lays190_ren:={
 mixed:=by kernel_rfl
 f125:=Tryz.func164.trans (congrArg some (by kernel_rfl))
 f128:=Tryz.func225.trans (congrArg some (by kernel_rfl))
 f129:=Tryz.func226.trans (congrArg some (by kernel_rfl))
 f190:=Tryz.func105.trans (congrArg some (by kernel_rfl))
 f258:=Tryz.func163.trans (congrArg some (by kernel_rfl))
 f302:=Tryz.func216.trans (congrArg some (by kernel_rfl))
 f303:=Tryz.func217.trans (congrArg some (by kernel_rfl))
 f304:=Tryz.func218.trans (congrArg some (by kernel_rfl))
 f305:=Tryz.func219.trans (congrArg some (by kernel_rfl))
 f306:=Tryz.func220.trans (congrArg some (by kernel_rfl))
 f307:=Tryz.func221.trans (congrArg some (by kernel_rfl))
 f308:=Tryz.func222.trans (congrArg some (by kernel_rfl))
 f309:=Tryz.func223.trans (congrArg some (by kernel_rfl))
 f310:=Tryz.func224.trans (congrArg some (by kernel_rfl))
 f329:=Tryz.func271.trans (congrArg some (by kernel_rfl))
 f330:=Tryz.func272.trans (congrArg some (by kernel_rfl))
 f333:=Tryz.func270.trans (congrArg some (by kernel_rfl))
 f334:=Tryz.func273.trans (congrArg some (by kernel_rfl))
 f335:=Tryz.func274.trans (congrArg some (by kernel_rfl))
 f336:=Tryz.func275.trans (congrArg some (by kernel_rfl))
 f344:=Tryz.func319.trans (congrArg some (by kernel_rfl))
 t0:=Tryz.underlying0
 a0:=Tryz.isAgg0
 z0:=Tryz.sizeOf0
 v0:=Tryz.zeroValue0
 t3:=Tryz.underlying3
 a3:=Tryz.isAgg3
 z3:=Tryz.sizeOf3
 v3:=Tryz.zeroValue3
 t4:=Tryz.underlying4
 a4:=Tryz.isAgg4
 z4:=Tryz.sizeOf4
 v4:=Tryz.zeroValue4
 t5:=Tryz.underlying5
 a5:=Tryz.isAgg5
 z5:=Tryz.sizeOf5
 v5:=Tryz.zeroValue5
 t9:=Tryz.underlying9
 a9:=Tryz.isAgg9
 z9:=Tryz.sizeOf9
 v9:=Tryz.zeroValue9
 t31:=Tryz.underlying43
 a31:=Tryz.isAgg43
 z31:=Tryz.sizeOf43
 v31:=Tryz.zeroValue43
 t46:=Tryz.underlying185
 a46:=Tryz.isAgg185
 z46:=Tryz.sizeOf185
 v46:=Tryz.zeroValue185
 t51:=Tryz.underlying202
 a51:=Tryz.isAgg202
 z51:=Tryz.sizeOf202
 v51:=Tryz.zeroValue202
 t53:=Tryz.underlying204
 a53:=Tryz.isAgg204
 z53:=Tryz.sizeOf204
 v53:=Tryz.zeroValue204
 t131:=Tryz.underlying213
 a131:=Tryz.isAgg213
 z131:=Tryz.sizeOf213
 v131:=Tryz.zeroValue213
 t182:=Tryz.underlying333
 a182:=Tryz.isAgg333
 z182:=Tryz.sizeOf333
 v182:=Tryz.zeroValue333
 t183:=Tryz.underlying334
 a183:=Tryz.isAgg334
 z183:=Tryz.sizeOf334
 v183:=Tryz.zeroValue334
 t218:=Tryz.underlying387
 a218:=Tryz.isAgg387
 z218:=Tryz.sizeOf387
 v218:=Tryz.zeroValue387
 t222:=Tryz.underlying391
 a222:=Tryz.isAgg391
 z222:=Tryz.sizeOf391
 v222:=Tryz.zeroValue391
 t228:=Tryz.underlying462
 a228:=Tryz.isAgg462
 z228:=Tryz.sizeOf462
 v228:=Tryz.zeroValue462
 t229:=Tryz.underlying463
 a229:=Tryz.isAgg463
 z229:=Tryz.sizeOf463
 v229:=Tryz.zeroValue463 }
open Go.Sort Go.RowKit in
theorem Tryz.slices_Sort_string (ag off cap:Nat) (ss:List (List UInt8)) (w:World) (hH:Holds encStr w ag off ss.toArray) (nP:ag<w.heap.size) (cZ:ss.length<4611686018427387904) :
  Calls Tryz.prog 105 #[.slice (some ⟨ag,off,none⟩) ss.length cap] w λe w'=>e = .returned (.tuple #[])/\∃n os,w'=grow (putRow encStr (Sort.ahead w n) ag off (ss.mergeSort λx y=>decide (x<=y)).toArray) os:=Any.slices_Sort_string Tryz.lays190 ag off cap ss w hH nP cZ
def Tryz.lays99_ren:Go.Shelf.Ren:=⟨fun|99=>17|206=>51|n=>n,fun|9=>9|4=>4|3=>3|n=>n,fun|n=>n⟩
theorem Tryz.lays99:Go.Proofs.Lays.n99 Tryz.prog Tryz.lays99_ren:={
 mixed:=by kernel_rfl
 f99:=Tryz.func17.trans (congrArg some (by kernel_rfl))
 f206:=Tryz.func51.trans (congrArg some (by kernel_rfl))
 t3:=Tryz.underlying3
 a3:=Tryz.isAgg3
 z3:=Tryz.sizeOf3
 v3:=Tryz.zeroValue3
 t4:=Tryz.underlying4
 a4:=Tryz.isAgg4
 z4:=Tryz.sizeOf4
 v4:=Tryz.zeroValue4
 t9:=Tryz.underlying9
 a9:=Tryz.isAgg9
 z9:=Tryz.sizeOf9
 v9:=Tryz.zeroValue9 }
open Go.RowKit Go.Lib in
theorem Tryz.strings_HasPrefix (s p:ByteArray) (w:World) :
  Calls Tryz.prog 17 #[.string s,.string p] w λe w'=>e = .returned (.bool (Lib.hasPrefix s.data.toList p.data.toList))/\w'=w:=Any.strings_HasPrefix Tryz.lays99 s p w
end Go.Proofs
namespace Go.Proofs
open Go.Shelf
def Tryz.lays144_ren:Go.Shelf.Ren:=⟨fun|144=>50|143=>97|219=>156|217=>203|225=>153|224=>152|267=>207|266=>258|314=>260|n=>n,fun|9=>9|4=>4|3=>3|5=>5|46=>185|146=>379|51=>202|n=>n,fun|1=>2|n=>n⟩
theorem Tryz.lays144:Go.Proofs.Lays.n144 Tryz.prog Tryz.lays144_ren:={
 mixed:=by kernel_rfl
 f143:=Tryz.func97.trans (congrArg some (by kernel_rfl))
 f144:=Tryz.func50.trans (congrArg some (by kernel_rfl))
 f217:=Tryz.func203.trans (congrArg some (by kernel_rfl))
 f219:=Tryz.func156.trans (congrArg some (by kernel_rfl))
 f224:=Tryz.func152.trans (congrArg some (by kernel_rfl))
 f225:=Tryz.func153.trans (congrArg some (by kernel_rfl))
 f266:=Tryz.func258.trans (congrArg some (by kernel_rfl))
 f267:=Tryz.func207.trans (congrArg some (by kernel_rfl))
 f314:=Tryz.func260.trans (congrArg some (by kernel_rfl))
 t3:=Tryz.underlying3
 a3:=Tryz.isAgg3
 z3:=Tryz.sizeOf3
 v3:=Tryz.zeroValue3
 t4:=Tryz.underlying4
 a4:=Tryz.isAgg4
 z4:=Tryz.sizeOf4
 v4:=Tryz.zeroValue4
 t5:=Tryz.underlying5
 a5:=Tryz.isAgg5
 z5:=Tryz.sizeOf5
 v5:=Tryz.zeroValue5
 t9:=Tryz.underlying9
 a9:=Tryz.isAgg9
 z9:=Tryz.sizeOf9
 v9:=Tryz.zeroValue9
 t46:=Tryz.underlying185
 a46:=Tryz.isAgg185
 z46:=Tryz.sizeOf185
 v46:=Tryz.zeroValue185
 t51:=Tryz.underlying202
 a51:=Tryz.isAgg202
 z51:=Tryz.sizeOf202
 v51:=Tryz.zeroValue202
 t146:=Tryz.underlying379
 a146:=Tryz.isAgg379
 z146:=Tryz.sizeOf379
 v146:=Tryz.zeroValue379
 g1:=by kernel_rfl }
open Go.RowKit Go.Lib in
open Go.RowKit Go.Lib in
theorem Tryz.strings_Contains (s sub:ByteArray) (m:Int) (w:World) (hs:s.size<4294967281) (hm:w.cell? ⟨2,0,none⟩=some (.int .i64 m)) :
  Calls Tryz.prog 50 #[.string s,.string sub] w λe w'=>e = .returned (.bool (Lib.contains s.data.toList sub.data.toList))/\w'=w:=Any.strings_Contains Tryz.lays144 s sub m w hs hm
def Tryz.lays100_ren:Go.Shelf.Ren:=⟨fun|100=>49|207=>96|n=>n,fun|9=>9|4=>4|3=>3|n=>n,fun|n=>n⟩
theorem Tryz.lays100:Go.Proofs.Lays.n100 Tryz.prog Tryz.lays100_ren:={
 mixed:=by kernel_rfl
 f100:=Tryz.func49.trans (congrArg some (by kernel_rfl))
 f207:=Tryz.func96.trans (congrArg some (by kernel_rfl))
 t3:=Tryz.underlying3
 a3:=Tryz.isAgg3
 z3:=Tryz.sizeOf3
 v3:=Tryz.zeroValue3
 t4:=Tryz.underlying4
 a4:=Tryz.isAgg4
 z4:=Tryz.sizeOf4
 v4:=Tryz.zeroValue4
 t9:=Tryz.underlying9
 a9:=Tryz.isAgg9
 z9:=Tryz.sizeOf9
 v9:=Tryz.zeroValue9 }
open Go.RowKit Go.Lib in
theorem Tryz.strings_HasSuffix (s p:ByteArray) (w:World) (hs:s.size<=9223372036854775807) :
  Calls Tryz.prog 49 #[.string s,.string p] w λe w'=>e = .returned (.bool (Lib.hasSuffix s.data.toList p.data.toList))/\w'=w:=Any.strings_HasSuffix Tryz.lays100 s p w hs
def Tryz.lays146_ren:Go.Shelf.Ren:=⟨fun|146=>48|221=>95|268=>154|138=>155|143=>97|195=>204|197=>205|218=>206|219=>156|260=>259|217=>203|225=>153|224=>152|267=>207|266=>258|314=>260|n=>n,fun|9=>9|31=>43|3=>3|4=>4|0=>0|105=>321|21=>21|5=>5|46=>185|119=>181|139=>184|138=>183|146=>379|51=>202|n=>n,fun|1=>2|3=>0|4=>1|n=>n⟩
theorem Tryz.lays146:Go.Proofs.Lays.n146 Tryz.prog Tryz.lays146_ren:={
 mixed:=by kernel_rfl
 f138:=Tryz.func155.trans (congrArg some (by kernel_rfl))
 f143:=Tryz.func97.trans (congrArg some (by kernel_rfl))
 f146:=Tryz.func48.trans (congrArg some (by kernel_rfl))
 f195:=Tryz.func204.trans (congrArg some (by kernel_rfl))
 f197:=Tryz.func205.trans (congrArg some (by kernel_rfl))
 f217:=Tryz.func203.trans (congrArg some (by kernel_rfl))
 f218:=Tryz.func206.trans (congrArg some (by kernel_rfl))
 f219:=Tryz.func156.trans (congrArg some (by kernel_rfl))
 f221:=Tryz.func95.trans (congrArg some (by kernel_rfl))
 f224:=Tryz.func152.trans (congrArg some (by kernel_rfl))
 f225:=Tryz.func153.trans (congrArg some (by kernel_rfl))
 f260:=Tryz.func259.trans (congrArg some (by kernel_rfl))
 f266:=Tryz.func258.trans (congrArg some (by kernel_rfl))
 f267:=Tryz.func207.trans (congrArg some (by kernel_rfl))
 f268:=Tryz.func154.trans (congrArg some (by kernel_rfl))
 f314:=Tryz.func260.trans (congrArg some (by kernel_rfl))
 t0:=Tryz.underlying0
 a0:=Tryz.isAgg0
 z0:=Tryz.sizeOf0
 v0:=Tryz.zeroValue0
 t3:=Tryz.underlying3
 a3:=Tryz.isAgg3
 z3:=Tryz.sizeOf3
 v3:=Tryz.zeroValue3
 t4:=Tryz.underlying4
 a4:=Tryz.isAgg4
 z4:=Tryz.sizeOf4
 v4:=Tryz.zeroValue4
 t5:=Tryz.underlying5
 a5:=Tryz.isAgg5
 z5:=Tryz.sizeOf5
 v5:=Tryz.zeroValue5
 t9:=Tryz.underlying9
 a9:=Tryz.isAgg9
 z9:=Tryz.sizeOf9
 v9:=Tryz.zeroValue9
 t21:=Tryz.underlying21
 a21:=Tryz.isAgg21
 z21:=Tryz.sizeOf21
 v21:=Tryz.zeroValue21
 t31:=Tryz.underlying43
 a31:=Tryz.isAgg43
 z31:=Tryz.sizeOf43
 v31:=Tryz.zeroValue43
 t46:=Tryz.underlying185
 a46:=Tryz.isAgg185
 z46:=Tryz.sizeOf185
 v46:=Tryz.zeroValue185
 t51:=Tryz.underlying202
 a51:=Tryz.isAgg202
 z51:=Tryz.sizeOf202
 v51:=Tryz.zeroValue202
 t105:=Tryz.underlying321
 a105:=Tryz.isAgg321
 z105:=Tryz.sizeOf321
 v105:=Tryz.zeroValue321
 t119:=Tryz.underlying181
 a119:=Tryz.isAgg181
 z119:=Tryz.sizeOf181
 t138:=Tryz.underlying183
 a138:=Tryz.isAgg183
 z138:=Tryz.sizeOf183
 v138:=Tryz.zeroValue183
 t139:=Tryz.underlying184
 a139:=Tryz.isAgg184
 z139:=Tryz.sizeOf184
 v139:=Tryz.zeroValue184
 t146:=Tryz.underlying379
 a146:=Tryz.isAgg379
 z146:=Tryz.sizeOf379
 v146:=Tryz.zeroValue379
 g1:=by kernel_rfl
 g3:=by kernel_rfl
 g4:=by kernel_rfl }
open Go.RowKit Go.Lib in
theorem Tryz.strings_Split (s sep:ByteArray) (m:Int) (w:World) (hs:s.size<4294967281) (hm:w.cell? ⟨2,0,none⟩=some (.int .i64 m)) (h1:1<=sep.size) :
  Calls Tryz.prog 48 #[.string s,.string sep] w λe w'=>e = .returned (.slice (some ⟨w.heap.size,0,none⟩) (Lib.countB s sep+1) (Lib.countB s sep+1))/\w'=w.alloc (.cells ((Lib.splitB sep 0 (Lib.countB s sep) s).map Value.string).toArray 9):=Any.strings_Split Tryz.lays146 (by kernel_rfl) s sep m w hs hm h1
def Tryz.lays151_ren:Go.Shelf.Ren:=⟨fun|151=>47|152=>94|137=>150|119=>151|224=>152|225=>153|217=>203|266=>258|n=>n,fun|9=>9|21=>21|4=>4|3=>3|5=>5|0=>0|46=>185|n=>n,fun|n=>n⟩
theorem Tryz.lays151:Go.Proofs.Lays.n151 Tryz.prog Tryz.lays151_ren:={
 mixed:=by kernel_rfl
 f119:=Tryz.func151.trans (congrArg some (by kernel_rfl))
 f137:=Tryz.func150.trans (congrArg some (by kernel_rfl))
 f151:=Tryz.func47.trans (congrArg some (by kernel_rfl))
 f152:=Tryz.func94.trans (congrArg some (by kernel_rfl))
 f217:=Tryz.func203.trans (congrArg some (by kernel_rfl))
 f224:=Tryz.func152.trans (congrArg some (by kernel_rfl))
 f225:=Tryz.func153.trans (congrArg some (by kernel_rfl))
 f266:=Tryz.func258.trans (congrArg some (by kernel_rfl))
 t0:=Tryz.underlying0
 a0:=Tryz.isAgg0
 z0:=Tryz.sizeOf0
 v0:=Tryz.zeroValue0
 t3:=Tryz.underlying3
 a3:=Tryz.isAgg3
 z3:=Tryz.sizeOf3
 v3:=Tryz.zeroValue3
 t4:=Tryz.underlying4
 a4:=Tryz.isAgg4
 z4:=Tryz.sizeOf4
 v4:=Tryz.zeroValue4
 t5:=Tryz.underlying5
 a5:=Tryz.isAgg5
 z5:=Tryz.sizeOf5
 v5:=Tryz.zeroValue5
 t9:=Tryz.underlying9
 a9:=Tryz.isAgg9
 z9:=Tryz.sizeOf9
 v9:=Tryz.zeroValue9
 t21:=Tryz.underlying21
 a21:=Tryz.isAgg21
 z21:=Tryz.sizeOf21
 v21:=Tryz.zeroValue21
 t46:=Tryz.underlying185
 a46:=Tryz.isAgg185
 z46:=Tryz.sizeOf185
 v46:=Tryz.zeroValue185 }
open Go.RowKit Go.Lib in
theorem Tryz.strings_ContainsRune_ascii (s:ByteArray) (r:Int) (w:World) (h0:0<=r) (h1:r<128) :
  Calls Tryz.prog 47 #[.string s,.int .i32 r] w λe w'=>e = .returned (.bool (decide (0<=Lib.indexByte s.data.toList r.toNat.toUInt8)))/\w'=w:=Any.strings_ContainsRune_ascii Tryz.lays151 s r w h0 h1
end Go.Proofs
namespace Go.Proofs
open Go.Shelf
def Tryz.lays195_ren:Go.Shelf.Ren:=⟨fun|195=>204|n=>n,fun|9=>9|3=>3|0=>0|4=>4|n=>n,fun|n=>n⟩
theorem Tryz.lays195:Go.Proofs.Lays.n195 Tryz.prog Tryz.lays195_ren:={
 mixed:=by kernel_rfl
 f195:=Tryz.func204.trans (congrArg some (by kernel_rfl))
 t0:=Tryz.underlying0
 a0:=Tryz.isAgg0
 z0:=Tryz.sizeOf0
 v0:=Tryz.zeroValue0
 t3:=Tryz.underlying3
 a3:=Tryz.isAgg3
 z3:=Tryz.sizeOf3
 v3:=Tryz.zeroValue3
 t4:=Tryz.underlying4
 a4:=Tryz.isAgg4
 z4:=Tryz.sizeOf4
 v4:=Tryz.zeroValue4
 t9:=Tryz.underlying9
 a9:=Tryz.isAgg9
 z9:=Tryz.sizeOf9
 v9:=Tryz.zeroValue9 }
open Go.RowKit in
theorem Tryz.utf8_RuneCountInString (s:ByteArray) (w:World) (hs:s.size<9223372036854775807) :
  Calls Tryz.prog 204 #[.string s] w λe w'=>e = .returned (.int .i64 (Lib.runeCount s))/\∃pos,w'=w.iter s pos:=Any.utf8_RuneCountInString Tryz.lays195 s w hs
def Tryz.lays145_ren:Go.Shelf.Ren:=⟨fun|145=>139|220=>197|219=>156|217=>203|225=>153|224=>152|267=>207|266=>258|314=>260|n=>n,fun|9=>9|4=>4|59=>244|3=>3|5=>5|46=>185|146=>379|51=>202|n=>n,fun|1=>2|n=>n⟩
theorem Tryz.lays145:Go.Proofs.Lays.n145 Tryz.prog Tryz.lays145_ren:={
 mixed:=by kernel_rfl
 f145:=Tryz.func139.trans (congrArg some (by kernel_rfl))
 f217:=Tryz.func203.trans (congrArg some (by kernel_rfl))
 f219:=Tryz.func156.trans (congrArg some (by kernel_rfl))
 f220:=Tryz.func197.trans (congrArg some (by kernel_rfl))
 f224:=Tryz.func152.trans (congrArg some (by kernel_rfl))
 f225:=Tryz.func153.trans (congrArg some (by kernel_rfl))
 f266:=Tryz.func258.trans (congrArg some (by kernel_rfl))
 f267:=Tryz.func207.trans (congrArg some (by kernel_rfl))
 f314:=Tryz.func260.trans (congrArg some (by kernel_rfl))
 t3:=Tryz.underlying3
 a3:=Tryz.isAgg3
 z3:=Tryz.sizeOf3
 v3:=Tryz.zeroValue3
 t4:=Tryz.underlying4
 a4:=Tryz.isAgg4
 z4:=Tryz.sizeOf4
 v4:=Tryz.zeroValue4
 t5:=Tryz.underlying5
 a5:=Tryz.isAgg5
 z5:=Tryz.sizeOf5
 v5:=Tryz.zeroValue5
 t9:=Tryz.underlying9
 a9:=Tryz.isAgg9
 z9:=Tryz.sizeOf9
 v9:=Tryz.zeroValue9
 t46:=Tryz.underlying185
 a46:=Tryz.isAgg185
 z46:=Tryz.sizeOf185
 v46:=Tryz.zeroValue185
 t51:=Tryz.underlying202
 a51:=Tryz.isAgg202
 z51:=Tryz.sizeOf202
 v51:=Tryz.zeroValue202
 t59:=Tryz.underlying244
 a59:=Tryz.isAgg244
 z59:=Tryz.sizeOf244
 v59:=Tryz.zeroValue244
 t146:=Tryz.underlying379
 a146:=Tryz.isAgg379
 z146:=Tryz.sizeOf379
 v146:=Tryz.zeroValue379
 g1:=by kernel_rfl }
open Go.RowKit Go.Lib in
theorem Tryz.strings_Cut (s sep:ByteArray) (m:Int) (w:World) (hs:s.size<4294967281) (hm:w.cell? ⟨2,0,none⟩=some (.int .i64 m)) :
  Calls Tryz.prog 139 #[.string s,.string sep] w λe w'=>e = .returned (.tuple #[.string ⟨(Lib.cut s.data.toList sep.data.toList).1.toArray⟩,.string ⟨(Lib.cut s.data.toList sep.data.toList).2.1.toArray⟩,.bool (Lib.cut s.data.toList sep.data.toList).2.2])/\∃n,w'=w.drewN n:=Any.strings_Cut Tryz.lays145 s sep m w hs hm
def Tryz.lays102_ren:Go.Shelf.Ren:=⟨fun|102=>138|209=>196|207=>96|n=>n,fun|9=>9|4=>4|3=>3|n=>n,fun|n=>n⟩
theorem Tryz.lays102:Go.Proofs.Lays.n102 Tryz.prog Tryz.lays102_ren:={
 mixed:=by kernel_rfl
 f102:=Tryz.func138.trans (congrArg some (by kernel_rfl))
 f207:=Tryz.func96.trans (congrArg some (by kernel_rfl))
 f209:=Tryz.func196.trans (congrArg some (by kernel_rfl))
 t3:=Tryz.underlying3
 a3:=Tryz.isAgg3
 z3:=Tryz.sizeOf3
 v3:=Tryz.zeroValue3
 t4:=Tryz.underlying4
 a4:=Tryz.isAgg4
 z4:=Tryz.sizeOf4
 v4:=Tryz.zeroValue4
 t9:=Tryz.underlying9
 a9:=Tryz.isAgg9
 z9:=Tryz.sizeOf9
 v9:=Tryz.zeroValue9 }
open Go.RowKit Go.Lib in
theorem Tryz.strings_TrimSuffix (s p:ByteArray) (w:World) (hs:s.size<=9223372036854775807) :
  Calls Tryz.prog 138 #[.string s,.string p] w λe w'=>e = .returned (.string ⟨(Lib.trimSuffix s.data.toList p.data.toList).toArray⟩)/\w'=w:=Any.strings_TrimSuffix Tryz.lays102 s p w hs
def Tryz.lays150_ren:Go.Shelf.Ren:=⟨fun|150=>231|153=>284|152=>94|226=>323|227=>279|228=>321|137=>150|119=>151|224=>152|225=>153|217=>203|266=>258|n=>n,fun|9=>9|4=>4|3=>3|5=>5|21=>21|117=>396|116=>395|0=>0|46=>185|124=>399|n=>n,fun|n=>n⟩
theorem Tryz.lays150:Go.Proofs.Lays.n150 Tryz.prog Tryz.lays150_ren:={
 mixed:=by kernel_rfl
 f119:=Tryz.func151.trans (congrArg some (by kernel_rfl))
 f137:=Tryz.func150.trans (congrArg some (by kernel_rfl))
 f150:=Tryz.func231.trans (congrArg some (by kernel_rfl))
 f152:=Tryz.func94.trans (congrArg some (by kernel_rfl))
 f153:=Tryz.func284.trans (congrArg some (by kernel_rfl))
 f217:=Tryz.func203.trans (congrArg some (by kernel_rfl))
 f224:=Tryz.func152.trans (congrArg some (by kernel_rfl))
 f225:=Tryz.func153.trans (congrArg some (by kernel_rfl))
 f226:=Tryz.func323.trans (congrArg some (by kernel_rfl))
 f227:=Tryz.func279.trans (congrArg some (by kernel_rfl))
 f228:=Tryz.func321.trans (congrArg some (by kernel_rfl))
 f266:=Tryz.func258.trans (congrArg some (by kernel_rfl))
 t0:=Tryz.underlying0
 a0:=Tryz.isAgg0
 z0:=Tryz.sizeOf0
 v0:=Tryz.zeroValue0
 t3:=Tryz.underlying3
 a3:=Tryz.isAgg3
 z3:=Tryz.sizeOf3
 v3:=Tryz.zeroValue3
 t4:=Tryz.underlying4
 a4:=Tryz.isAgg4
 z4:=Tryz.sizeOf4
 v4:=Tryz.zeroValue4
 t5:=Tryz.underlying5
 a5:=Tryz.isAgg5
 z5:=Tryz.sizeOf5
 v5:=Tryz.zeroValue5
 t9:=Tryz.underlying9
 a9:=Tryz.isAgg9
 z9:=Tryz.sizeOf9
 v9:=Tryz.zeroValue9
 t21:=Tryz.underlying21
 a21:=Tryz.isAgg21
 z21:=Tryz.sizeOf21
 v21:=Tryz.zeroValue21
 t46:=Tryz.underlying185
 a46:=Tryz.isAgg185
 z46:=Tryz.sizeOf185
 v46:=Tryz.zeroValue185
 t116:=Tryz.underlying395
 a116:=Tryz.isAgg395
 z116:=Tryz.sizeOf395
 t117:=Tryz.underlying396
 a117:=Tryz.isAgg396
 z117:=Tryz.sizeOf396
 v117:=Tryz.zeroValue396
 t124:=Tryz.underlying399
 a124:=Tryz.isAgg399
 z124:=Tryz.sizeOf399
 v124:=Tryz.zeroValue399 }
open Go.RowKit Go.Lib in
theorem Tryz.strings_ContainsAny (s chars:ByteArray) (w:World) (hs:s.size<4294967281) (hcs:chars.size<4294967281) (has:∀(j:Nat) b,s.data.toList[j]?=some b->b.toNat<128) (yj:∀(j:Nat) b,chars.data.toList[j]?=some b->b.toNat<128) :
  Calls Tryz.prog 231 #[.string s,.string chars] w λe w'=>e = .returned (.bool (Lib.containsAny s.data.toList chars.data.toList))/\Go.RowKit.Below w.heap.size w w':=Any.strings_ContainsAny_laid Tryz.lays150 (by kernel_rfl) s chars w hs hcs has yj
def Tryz.lays206_ren:Go.Shelf.Ren:=⟨fun|206=>51|n=>n,fun|9=>9|4=>4|3=>3|n=>n,fun|n=>n⟩
theorem Tryz.lays206:Go.Proofs.Lays.n206 Tryz.prog Tryz.lays206_ren:={
 mixed:=by kernel_rfl
 f206:=Tryz.func51.trans (congrArg some (by kernel_rfl))
 t3:=Tryz.underlying3
 a3:=Tryz.isAgg3
 z3:=Tryz.sizeOf3
 v3:=Tryz.zeroValue3
 t4:=Tryz.underlying4
 a4:=Tryz.isAgg4
 z4:=Tryz.sizeOf4
 v4:=Tryz.zeroValue4
 t9:=Tryz.underlying9
 a9:=Tryz.isAgg9
 z9:=Tryz.sizeOf9
 v9:=Tryz.zeroValue9 }
open Go.RowKit Go.Lib in
theorem Tryz.stringslite_HasPrefix (s p:ByteArray) (w:World) :
  Calls Tryz.prog 51 #[.string s,.string p] w λe w'=>e = .returned (.bool (Lib.hasPrefix s.data.toList p.data.toList))/\w'=w:=Any.stringslite_HasPrefix Tryz.lays206 s p w
end Go.Proofs
namespace Go.Proofs.YticadfhpolhkeaaGreatDoor
namespace fs
open Go Go.RowKit lib pk
set_option maxRecDepth 100000
def lF (k:Nm):Prop:=1<=k.length/\k.length<=200/\∀c∈k,c≠0
theorem index_none:∀(k:Nm),(∀c∈k,c≠0)->Lib.indexByte k 0 = -1
 | [],_=>rfl
 | b::l,h=>by
  have hb:(b==0)=false:=by simpa using h b (by simp)
  have:=index_none l (λc hc=>h c (oH _ hc));unfold Lib.indexByte;rw[hb,this];rfl
def FsC (q B:Nat) (dz bj:Value):Array Value:=#[.int .i64 q,.map (some B),dz,bj,.int .i64 (-1),.bool false]
def rY (w:World) (F q B:Nat) (dz bj:Value):Prop:=w.heap[F]?=some (.cells (FsC q B dz bj) 95 (0,0))
theorem SK (F q B:Nat) (dz bj:Value) (g c:Nat) (l:List Nm) (w:World) (hF:rY w F q B dz bj) (hl:∀i k,l[i]?=some k->w.cell? ⟨g,i,none⟩=some (.string (str k))) (iq:∀k∈l,lF k) (hlen:l.length<=2) :
  Calls Tryz.prog 136 #[.pointer (some ⟨F,0,none⟩),.slice (some ⟨g,0,none⟩) l.length c] w λe w'=>e = .returned (.int .i64 0)/\w'=w:=by
 have c5:w.cell? ⟨F,5,none⟩=some (.bool false):=by rw[cell_of hF];rfl
 obtain⟨N,hN⟩:=ah l.length;have H:=aq hl iq hN;rw[<-hN]at hlen ⊢;clear hF hl iq hN;go_enter Tryz.func136,Tryz.ntmps136;go_wp2;clear c5;go_loopg [13] N (λk s13 wr=>∃i:Nat,s13 = .int .i64 (i:Nat)/\i+k=N/\wr=w);case atStart=>exact⟨0,rfl,by omega,rfl⟩
 case round=>
  obtain⟨i,rfl,cQ,rfl⟩:=hrel;by_cases hi:i<N
  ·obtain⟨k,rfl⟩:∃k,gk=k+1:=⟨gk-1,by omega⟩;have cN:i<l.length:=by rw[<-H.out.2.2];exact hi
   have sG:=H.out.1 i l[i] (dm cN);obtain⟨n1,n2,n3⟩:=H.out.2.1 l[i] (sk cN);have hx:=λw'=>Tryz.strings_IndexByte (str l[i]) 0 w'
   have ex:(str l[i]).data.toList=l[i]:=rfl;rw[ex,show ((0:Int).toNat.toUInt8)=0 from rfl,index_none _ n3]at hx;have cZ:(str l[i]).size=l[i].length:=by simp[str,ByteArray.size]
   obtain⟨z,hz⟩:=ah (str l[i]);rw[<-hz]at sG hx cZ;have g1:1<=z.size:=by omega
   have g2:z.size<=200:=by omega
   have HX:=af hx;clear hx ex hz n1 n2 n3 cZ;go_wp2_with (go_at_call 150;refine (HX.out _).mono ?_;rintro e w2 ⟨rfl,hw⟩;obtain rfl:=hw.symm);go_roundg k;case measure=>omega
   case rel=>exact⟨i+1,by go_num,by omega,rfl⟩
  ·go_wp2;go_ret;exact⟨rfl,rfl⟩
theorem O4 (F q B:Nat) (dz bj:Value) (w:World) (hF:rY w F q B dz bj) :
  Calls Tryz.prog 125 #[.pointer (some ⟨F,0,none⟩)] w λe w'=>e = .returned (.int .i64 0)/\rY w' F q B dz bj/\Fr [F] w w':=by
 have c4:w.cell? ⟨F,4,none⟩=some (.int .i64 (-1)):=by rw[cell_of hF];rfl
 have z4:=aT hF 4;have H:=af hF;clear hF;go_enter Tryz.func125,Tryz.ntmps125;go_wp2;rw[show (-min 2 1:Int) = -1 by decide];go_ret;exact⟨rfl,(df (o:=4) H.out _).trans rfl,(Fr.refl [F] w).setCell (by simp) _⟩
def GY (w:World) (q:Option Nat) (e:Ending) (w':World):Prop:=(match q with
 | none=>e = .returned (.tuple #[.pointer none,.int .i64 61])
 | some p=>e = .returned (.tuple #[.pointer (some ⟨p,0,none⟩),.int .i64 0]))/\Fr [] w w'
theorem J7 (F q B n:Nat) (dz bj:Value) (g:Nm->Option Nat) (k:Nm) (w:World) (hF:rY w F q B dz bj) (hN:Names w B n g) (hk:lF k) :
  Calls Tryz.prog 119 #[.pointer (some ⟨F,0,none⟩),.string (str k)] w (GY w (g k)):=by
 have f1:Fr [] w (w.alloc (.cells #[.string (str k)] 9)):=(Fr.refl [] w).alloc _;have hb:=aV w (.cells #[.string (str k)] 9);obtain⟨w1,aJ⟩:=ah (w.alloc (.cells #[.string (str k)] 9));rw[<-aJ]at f1 hb;obtain⟨X,hX⟩:=ah w.heap.size;rw[<-hX]at hb;have jP:=SK F q B dz bj X 1 [k] w1 (f1.ag hF (by simp)) (λi x hi=>by
  match i,hi with
  | 0,hi=>
   obtain rfl:=ig hi
   rw[cell_of hb]
   rfl) (λx hx=>by simp only[eF]at hx;rw[hx];exact hk) (by show (1:Nat)<=2;decide)
 rw[show [k].length=1 from rfl]at jP;have c1:w1.cell? ⟨F,1,none⟩=some (.map (some B)):=by rw[cell_of (f1.ag hF (by simp))];rfl
 have iF:=(hN.fr f1 (by simp)).look k (by have:=hk.2.1;omega);have H:=ai jP f1;obtain⟨z,hz⟩:=ah (str k);rw[<-hz]at iF aJ ⊢;have HW:=ai hX aJ;clear jP f1 hb hF hN hk hz hX aJ;go_enter Tryz.func119,Tryz.ntmps119;go_upto_region 2 with (go_at_call 136;rw[<-HW.o0,<-HW.l1];refine H.o0.mono ?_;rintro e w2 ⟨rfl,hw⟩;obtain rfl:=hw.symm);cases hg:g k with
 | none=>
  rw[hg]at iF;have uW:(Instr.lookup 92 (.map (some B)) (.string z) false).run Tryz.prog w1 = .ok (.pointer none) w1:=iF;clear iF;go_wp2;go_ret2;rw[hg];exact⟨rfl,H.l1⟩
 | some p=>rw[hg]at iF;have uW:(Instr.lookup 92 (.map (some B)) (.string z) false).run Tryz.prog w1 = .ok (.pointer (some ⟨p,0,none⟩)) w1:=iF;clear iF;go_wp2;go_ret2;rw[hg];exact⟨rfl,H.l1⟩
set_option maxRecDepth 100000
inductive Lb|fs|names|bj|file|data (p:Nat)
def pH (w:World) (p:Nat) (a:OA) (c:Nat) (syn:Int) (bs:LB):Prop:=w.heap[p]?=some (.cells #[.slice a bs.length c,.int .i64 syn] 221 (0,0))/\iY w 5 a c (bs.map bv)
theorem yB:aw Tryz.prog 93 313 .nilIface 1 16:=aw.of Tryz.underlying93 (by kernel_rfl) rfl (by decide)
structure Fs (w:World) (F n M:Nat) (t:Nm->Option (List UInt8)) (lab:Nat->Option Lb):Prop where
 st:∃q B dz bj m vs g,(1048576<=q/\q<=16777216)/\rY w F q B dz bj/\Names w B n g/\w.ownsRow 0 313 1 bj m vs/\m<=n/\lab F=some .fs/\lab B=some .names/\(∀x,bj.ownBlock=some x->lab x=some .bj)/\
  (∀k,t k=none->g k=none)/\(∀k bs,t k=some bs->bs.length<=M/\∃p a c syn,g k=some p/\pH w p a c syn bs/\lab p=some .file/\∀x∈ag a,lab x=some (.data p))/\∀k k' p,g k=some p->g k'=some p->k=k'
 few:n<=900
 most:M<=100000
 low:∀x,lab x≠none->x<w.heap.size
theorem Fs.fr {T:LN} {w w':World} {F n M:Nat} {t:Nm->Option (List UInt8)} {lab:Nat->Option Lb} (h:Fs w F n M t lab) (f:Fr T w w') (hT:∀x∈T,lab x=none):Fs w' F n M t lab:=by
 have no:∀x l,lab x=some l->x∉T:=λx l hx hm=>by rw[hT x hm]at hx;cases hx
 obtain⟨⟨q,B,dz,bj,m,vs,g,hq,h1,h2,h3,h4,h5,h6,h7,h8,h9,iC⟩,hn,hM,ef⟩:=h;refine⟨⟨q,B,dz,bj,m,vs,g,hq,f.ag h1 (no _ _ h5),h2.fr f (no _ _ h6),dp h3 f (λx hx=>no _ _ (h7 x hx)),h4,h5,h6,h7,h8,λk bs hk=>?_,iC⟩,hn,hM,λx hx=>fM (ef x hx) f.size⟩;obtain⟨k1,p,a,c,syn,k2,k3,k4,k5⟩:=h9 k bs hk;exact⟨k1,p,a,c,syn,k2,⟨f.ag k3.1 (no _ _ k4),k3.2.fr f (λx hx=>no _ _ (k5 x hx))⟩,k4,k5⟩
def dS (w:World) (lab:Nat->Option Lb) (w':World) (av:Nat->Option Lb):Prop:=(∃T,Fr T w w'/\∀x∈T,lab x≠none)/\∀x,av x≠none->lab x≠none\/w.heap.size<=x
theorem WZ (q:Nat) (hq:1048576<=q/\q<=16777216) (w:World):Calls Tryz.prog 11 #[.int .i64 (q:Nat)] w λe w'=>∃F lab,e = .returned (.tuple #[.pointer (some ⟨F,0,none⟩),.int .i64 0])/\Fs w' F 0 0 (λ_=>none) lab/\(∀x,lab x≠none->w.heap.size<=x)/\Fr [] w w':=by
 have nj:=λw'=>run_makeMap (P:=Tryz.prog) 92 w'
 go_enter Tryz.func11,Tryz.ntmps11;go_wp2;go_ret2;have Bj:∀(w:World) (o:Obj),(w.alloc o).heap.size=w.heap.size+1:=λw o=>Array.size_push _
 have f1:Fr [] w (w.alloc (.map #[] 0)):=(Fr.refl [] w).alloc _;have f2:Fr [] (w.alloc (.map #[] 0)) ((w.alloc (.map #[] 0)).alloc (.map #[] 0)):=(Fr.refl [] _).alloc _;have f3:=(Fr.refl [] ((w.alloc (.map #[] 0)).alloc (.map #[] 0))).alloc (.cells #[.int .i64 q,.map (some w.heap.size),.map (some (w.heap.size+1)),.slice none 0 0,.int .i64 (-1),.bool false] 95);have cZ:((w.alloc (.map #[] 0)).alloc (.map #[] 0)).heap.size=w.heap.size+1+1:=by rw[Bj,Bj]
 have hb:=aV ((w.alloc (.map #[] 0)).alloc (.map #[] 0)) (.cells #[.int .i64 q,.map (some w.heap.size),.map (some (w.heap.size+1)),.slice none 0 0,.int .i64 (-1),.bool false] 95);rw[cZ]at hb;refine⟨w.heap.size+1+1,λx=>if x=w.heap.size+1+1 then some .fs else if x=w.heap.size then some .names else none,rfl,⟨⟨q,w.heap.size,.map (some (w.heap.size+1)),.slice none 0 0,0,[],λ_=>none,hq,hb,((Names.made w).fr f2 (by simp)).fr f3 (by simp),oE _ _ _ _,by decide,by simp,by rw[if_neg (by omega),if_pos rfl],(λx hx=>by cases hx),(λ_ _=>rfl),(λk bs hk=>by cases hk),(λk k' p hp=>by cases hp)⟩,by decide,by decide,λx hx=>?_⟩,λx hx=>?_,(f1.trans f2).trans f3⟩
 ·try simp only at hx
  have sw:(((w.alloc (.map #[] 0)).alloc (.map #[] 0)).alloc (.cells #[.int .i64 q,.map (some w.heap.size),.map (some (w.heap.size+1)),.slice none 0 0,.int .i64 (-1),.bool false] 95)).heap.size=w.heap.size+1+1+1:=by rw[Bj,Bj,Bj]
  rw[sw];by_cases h1:x=w.heap.size+1+1
  ·omega
  ·rw[if_neg h1]at hx;by_cases h2:x=w.heap.size
   ·omega
   ·rw[if_neg h2]at hx;exact absurd rfl hx
 ·try simp only at hx
  by_cases h1:x=w.heap.size+1+1
  ·omega
  ·rw[if_neg h1]at hx;by_cases h2:x=w.heap.size
   ·omega
   ·rw[if_neg h2]at hx;exact absurd rfl hx
theorem YD (w:World):Calls Tryz.prog 11 #[.int .i64 1048576] w λe w'=>∃F lab,e = .returned (.tuple #[.pointer (some ⟨F,0,none⟩),.int .i64 0])/\Fs w' F 0 0 (λ_=>none) lab/\(∀x,lab x≠none->w.heap.size<=x)/\Fr [] w w':=WZ 1048576 (by decide) w
set_option maxRecDepth 100000
theorem qrz (B n:Nat) (g:Nm->Option Nat) (k:Nm) (P:Nat) (w:World) (hN:Names w B n g) (hn:n<1000) (hk:lF k) :
  Calls Tryz.prog 442 #[.agg #[.string (str k),.pointer (some ⟨P,0,none⟩)],.map (some B)] w λe w'=>e = .returned (.tuple #[])/\Names w' B (n+1) (set g k (some P))/\Fr [B] w w':=by
 have f1:Fr [] w (w.alloc (.cells #[.string (str k),.pointer (some ⟨P,0,none⟩)] 294)):=(Fr.refl [] w).alloc _;have hb:=aV w (.cells #[.string (str k),.pointer (some ⟨P,0,none⟩)] 294);obtain⟨X,hX⟩:=ah w.heap.size;obtain⟨w1,aJ⟩:=ah (w.alloc (.cells #[.string (str k),.pointer (some ⟨P,0,none⟩)] 294));rw[<-aJ,<-hX]at hb;rw[<-aJ]at f1;have c0:w1.cell? ⟨X,0,none⟩=some (.string (str k)):=by rw[cell_of hb];rfl
 have c1:w1.cell? ⟨X,1,none⟩=some (.pointer (some ⟨P,0,none⟩)):=by rw[cell_of hb];rfl
 obtain⟨w2,aW,ym,f2⟩:=(hN.fr f1 (by simp)).store hn k (by have:=hk.2.1;omega) P;have Cf:(Instr.mapUpdate 92 (.map (some B)) (.string (str k)) (.pointer (some ⟨P,0,none⟩))).run Tryz.prog w1 = .ok () w2:=aW;obtain⟨z,hz⟩:=ah (str k);rw[<-hz]at c0 Cf aJ ⊢;have H:=aA ym (f1.mono (T:=[B]) (by simp) |>.trans f2) hX aJ;clear aW hN ym f1 f2 hb hX aJ hz hk;go_enter Tryz.func442,Tryz.ntmps442;go_upto_region 1 with fail;rw[<-H.o2,<-H.l3];go_wp2;exact bodyPost_end (results_none rfl _ _ _) rfl ⟨rfl,H.o0,H.o1⟩
theorem qtc {P:Program} {ops:Array Oper} {C:World->Prop} {Q:Act->Prop} {o:Oper} {rest:List Oper} {a:Act} (hg:Region.wanted o (yielded ops a.tmps)=true) (x:Operand) (ho:o.op = .nilCheck x) (nm:String) (t:TypeId) (v:Value) (N3:AV)
  (hx:a.eval x = .func (.method nm) #[.iface t v] N3) (hn:∀w,(nilAhead (P.types.size+Made.depth) t v nm).run P w = .ok (some false) w) (h:wpQuiet P ops C Q rest (a.put o.dst (.func (.method nm) #[.iface t v] N3))):wpQuiet P ops C Q (o::rest) a:=by
 show if Region.wanted o (yielded ops a.tmps) then o.quiet P a C (wpQuiet P ops C Q rest) else wpQuiet P ops C Q rest (a.put o.dst undef)
 rw[if_pos hg];refine⟨_,λw _=>?_,h⟩;unfold Oper.quietAt;simp[execOp,ho,hx,hn,Oper.quietUpon,Result.andThen]
theorem qsi (k:Nm) (P:Nat) (w:World):(nilAhead (Tryz.prog.types.size+Made.depth) 294 (.agg #[.string (str k),.pointer (some ⟨P,0,none⟩)]) "stemma/fs.apply").run Tryz.prog w = .ok (some false) w:=by kernel_rfl
theorem qtr (k:Nm) (P:Nat) (f:Nat) (w:World):(method (f+1) 294 (.agg #[.string (str k),.pointer (some ⟨P,0,none⟩)]) "stemma/fs.apply").run Tryz.prog w = .ok (442,.agg #[.string (str k),.pointer (some ⟨P,0,none⟩)]) w:=by kernel_rfl
theorem quj (B:Nat) (k:Nm) (P:Nat) (w:World):(callFunc 442 #[.agg #[.string (str k),.pointer (some ⟨P,0,none⟩)],.map (some B)]).run Tryz.prog w = .ok (.enter 442 #[.agg #[.string (str k),.pointer (some ⟨P,0,none⟩)],.map (some B)]) w:=by kernel_rfl
def RB (w:World) (F q B:Nat) (dz bj:Value) (m n':Nat) (g':Nm->Option Nat) (e:Ending) (w':World):Prop:=
 e = .returned (.int .i64 0)/\∃jG CU,rY w' F q B dz jG/\Names w' B n' g'/\w'.ownsRow 0 313 1 jG (m+1) CU/\Fr (F::B::bj.ownBlock.toList) w w'/\∀x,jG.ownBlock=some x->bj.ownBlock=some x\/w.heap.size<=x
theorem TG (F q B n n' m:Nat) (dz bj:Value) (vs:LV) (g g':Nm->Option Nat) (ty:TypeId) (val:Value) (Bi:FuncId) (w:World) (hF:rY w F q B dz bj) (hN:Names w B n g) (hc:w.ownsRow 0 313 1 bj m vs) (hm:m<=1000) (rO:F≠B) (qY:∀x,bj.ownBlock=some x->x≠F/\x≠B)
  (hna:∀w,(nilAhead (Tryz.prog.types.size+Made.depth) ty val "stemma/fs.apply").run Tryz.prog w = .ok (some false) w) (zp:∀(f:Nat) w,(method (f+1) ty val "stemma/fs.apply").run Tryz.prog w = .ok (Bi,val) w)
  (QI:∀w,(callFunc Bi #[val,.map (some B)]).run Tryz.prog w = .ok (.enter Bi #[val,.map (some B)]) w)
  (cS:∀w',Names w' B n g->Calls Tryz.prog Bi #[val,.map (some B)] w' λe fK=>e = .returned (.tuple #[])/\Names fK B n' g'/\Fr [B] w' fK) :
  Calls Tryz.prog 137 #[.pointer (some ⟨F,0,none⟩),.iface ty val] w (RB w F q B dz bj m n' g'):=by
 have hb:=O4 F q B dz bj w hF;have H:=aQ hb hN hc qY cS;clear hb hF hN hc qY cS;go_enter Tryz.func137,Tryz.ntmps137;go_upto_region 4 with (go_at_call 125;refine H.o0.mono ?_;rintro e w1 ⟨rfl,b1,f1⟩;have H1:=ai b1 f1;clear b1 f1);have c1:w1.drew.cell? ⟨F,1,none⟩=some (.map (some B)):=(show w1.cell? _=_ by rw[cell_of H1.o0];rfl);have s1:∀x,(sup [B] w1.drew x).cell? ⟨F,1,none⟩=some (.map (some B)):=λx=>(gB [B] w1.drew x).cell c1 (by simpa using rO)
 refine lK 9 [(false,0),(false,1),(false,2),(false,3),(false,4),(true,5),(false,6),(false,7),(true,8)] [B] (by kernel_rfl) (by kernel_rfl) (λ_ _ d _ _ h=>by cases d<;>exact h) ?_;simp only[kQ];refine eD 5 rfl ?_;simp only[cT];repeat (go_big_quiet_step (fail))
 refine wpQuiet_nil ?_;refine jb rfl ?_;intro XX gY;go_wp2_with fail;refine gY.out _ _ (Fr.refl _ _) ?_;clear gY XX;refine eD 2 rfl ?_;simp only[cT];refine qtc rfl _ rfl _ _ _ _ rfl hna ?_;simp only[Act.put,pS,nV,pQ];repeat (go_big_quiet_step (fail))
 refine wpQuiet_nil ?_;refine jb rfl ?_;intro XX gY;have cS:=H.l4 w1.drew ((H.o1.fr H1.l1 (by simp;exact λe=>rO e.symm)).fr (Fr.aB [] w1) (by simp));go_wp2_with fail;refine cS.mono ?_;rintro e w2 ⟨rfl,ym,f2⟩;refine gY.out _ _ f2 ?_;clear gY XX cS;refine j4 ?_;have b2:rY w2 F q B dz bj:=f2.ag (show w1.drew.heap[F]?=_ from H1.o0) (by simpa using rO);have c3:w2.cell? ⟨F,3,none⟩=some bj:=by rw[cell_of b2];rfl
 have fa:Fr [] w2 (w2.alloc (.cells #[.iface ty val] 313)):=(Fr.refl [] w2).alloc _;have fc:∀x,bj.ownBlock=some x->x∉[F]/\x∉[B]:=λx hx=>by have:=H.o3 x hx;simpa using this
 have nH:=dp (dp (dp (dp H.o2 H1.l1 (λx hx=>(fc x hx).1)) (Fr.aB [] w1) (by simp)) f2 (λx hx=>(fc x hx).2)) fa (by simp);have H2:=aQ b2 ym f2 fa nH;clear b2 ym f2 fa nH fc c1 s1;go_wp2_with (at_builtin;refine fq yB rfl _ _ rfl bj m vs bj.ownBlock.toList rfl rfl H2.out.2.2.2.2 (some ⟨w2.heap.size,0,none⟩) 1 1 [.iface ty val] rfl (ax _) (by simp) (oC w2 _ _ _) rfl (by simp[Value.oneCell']) (by omega) (by unfold maxLen;omega) ?_;intro a3 q3 w3 A3;have b3:rY w3 F q B dz bj:=A3.fr.ag (H2.out.2.2.2.1.ag H2.out.1 (by simp)) (λhx=>by have e:=H.o3 F (by simpa using hx);exact e.1 rfl);have d3:w3.cell? ⟨F,3,none⟩=some bj:=(by rw[cell_of b3];rfl);have z3:=aT b3 3;have H3:=ai A3 b3;clear A3 b3);go_ret;obtain⟨b2,ym,f2,fa,nH⟩:=H2.out;obtain⟨A3,b3⟩:=H3.out;have qY:=H.o3;have f4:Fr [F] w3 (w3.setCell ⟨F,3,none⟩ (.slice a3 (m+1) q3)):=(Fr.refl [F] w3).setCell (by simp) _;have s12:w.heap.size<=w2.heap.size:=bP H1.l1.size f2.size;have dc:∀x,(Value.slice a3 (m+1) q3).ownBlock=some x->bj.ownBlock=some x\/w2.heap.size<=x:=λx hx=>by
  have mJ:x∈ag a3:=by rw[<-cY a3 (m+1) q3,hx];simp
  rcases A3.at_ x mJ with h|h
  ·exact .inl (by simpa using h)
  ·right;rw[h];exact fa.size
 have rP:=lt_of_block b2;have hBc:B∉bj.ownBlock.toList:=λhx=>(qY B (by simpa using hx)).2 rfl
 have hT:∀y,y∈[F]\/y∈[B]\/y∈bj.ownBlock.toList->y∈F::B::bj.ownBlock.toList:=λy hy=>by simp only[eX,mV,or_false]at hy ⊢;exact hy
 refine⟨rfl,.slice a3 (m+1) q3,vs++[.iface ty val],(df (o:=3) b3 _).trans rfl,((ym.fr fa (by simp)).fr A3.fr hBc).fr f4 (by simpa using λe=>rO e.symm),dp A3.own f4 (λx hx hm=>?_),?_,λx hx=>?_⟩
 ·simp only[eF]at hm;subst hm;rcases dc x hx with h|h
  ·exact (qY x h).1 rfl
  ·omega
 ·exact ((((H1.l1.mono (T:=F::B::bj.ownBlock.toList) (λy hy=>.inl (hT y (.inl hy)))).trans ((Fr.aB _ w1))).trans (f2.mono (T:=F::B::bj.ownBlock.toList) (λy hy=>.inl (hT y (.inr (.inl hy)))))).trans ((fa.mono (by simp)).trans (A3.fr.mono (T:=F::B::bj.ownBlock.toList) (λy hy=>.inl (hT y (.inr (.inr hy))))))).trans (f4.mono (T:=F::B::bj.ownBlock.toList) (λy hy=>.inl (hT y (.inl hy))))
 ·rcases dc x hx with h|h
  ·exact .inl h
  ·exact .inr (by omega)
set_option maxRecDepth 100000
def aS (t:Nm->Option (List UInt8)) (k:Nm) (v:Option (List UInt8)):Nm->Option (List UInt8):=λx=>if x=k then v else t x
theorem qx2 (F q B n m:Nat) (dz bj:Value) (vs:LV) (g:Nm->Option Nat) (k:Nm) (w:World) (hF:rY w F q B dz bj) (hN:Names w B n g) (hn:n<1000) (hc:w.ownsRow 0 313 1 bj m vs) (hm:m<=1000) (rO:F≠B) (qY:∀x,bj.ownBlock=some x->x≠F/\x≠B) (hk:lF k) (hg:g k=none) :
  Calls Tryz.prog 121 #[.pointer (some ⟨F,0,none⟩),.string (str k)] w λe w'=>∃w1 P,Fr [] w w1/\w1.heap[P]?=some (.cells #[.slice none 0 0,.int .i64 0] 221 (0,0))/\w.heap.size<=P/\RB w1 F q B dz bj m (n+1) (set g k (some P)) e w':=by
 have f1:Fr [] w (w.alloc (.cells #[.string (str k)] 9)):=(Fr.refl [] w).alloc _;have hb:=aV w (.cells #[.string (str k)] 9);obtain⟨w1,aJ⟩:=ah (w.alloc (.cells #[.string (str k)] 9));rw[<-aJ]at f1 hb;obtain⟨X,hX⟩:=ah w.heap.size;rw[<-hX]at hb;have jP:=SK F q B dz bj X 1 [k] w1 (f1.ag hF (by simp)) (λi x hi=>by
  match i,hi with
  | 0,hi=>
   obtain rfl:=ig hi
   rw[cell_of hb]
   rfl) (λx hx=>by simp only[eF]at hx;rw[hx];exact hk) (by show (1:Nat)<=2;decide)
 rw[show [k].length=1 from rfl]at jP;have c1:w1.cell? ⟨F,1,none⟩=some (.map (some B)):=by rw[cell_of (f1.ag hF (by simp))];rfl
 have iF:=(hN.fr f1 (by simp)).look k (by have:=hk.2.1;omega);rw[hg]at iF;have uW:(Instr.lookup 92 (.map (some B)) (.string (str k)) false).run Tryz.prog w1 = .ok (.pointer none) w1:=iF;have f2:Fr [] w1 (w1.alloc (.cells #[.slice none 0 0,.int .i64 0] 221)):=(Fr.refl [] w1).alloc _;have mF:=aV w1 (.cells #[.slice none 0 0,.int .i64 0] 221);obtain⟨P,hP⟩:=ah w1.heap.size;obtain⟨w2,cC⟩:=ah (w1.alloc (.cells #[.slice none 0 0,.int .i64 0] 221));rw[<-cC]at f2 mF;rw[<-hP]at mF;have f12:=f1.trans f2;have cj:=TG F q B n (n+1) m dz bj vs g (set g k (some P)) 294 (.agg #[.string (str k),.pointer (some ⟨P,0,none⟩)]) 442 w2 (f12.ag hF (by simp)) (hN.fr f12 (by simp)) (dp hc f12 (by simp)) hm rO qY (λw=>qsi k P w) (λf w=>qtr k P f w) (λw=>quj B k P w) (λw' h=>qrz B n g k P w' h hn hk);obtain⟨z,hz⟩:=ah (str k);rw[<-hz]at uW aJ cj ⊢;have H:=aQ jP cj f12 mF (by rw[hP];exact f1.size:w.heap.size<=P);have HW:=aA hX aJ hP cC;clear jP cj f1 f2 f12 hb mF hF hN hk hz hX aJ iF hP cC hc hg qY;go_enter Tryz.func121,Tryz.ntmps121;go_upto_region 2 with (go_at_call 136;rw[<-HW.o0,<-HW.o1];refine H.o0.mono ?_;rintro e w3 ⟨rfl,hw⟩;obtain rfl:=hw.symm);go_wp2_with (go_at_call 137;rw[<-HW.o2,<-HW.l3];refine H.o1.mono ?_;rintro e w4 h4;obtain⟨rfl,h5⟩:=h4;have H5:=af h5;clear h5);go_ret;exact⟨w2,P,H.o2,H.o3,H.l4,rfl,H5.out⟩
theorem R5 {w:World} {e:TypeId} {v:Value} {n:Nat} {xs:LV} (h:w.ownsRow 0 e 1 v n xs) {x:Nat} (hx:v.ownBlock=some x):x<w.heap.size:=by
 rcases h.2 with⟨h1,h2⟩|⟨g,cap,cur,h1,hb,hg,_⟩
 ·rw[h1]at hx;cases hx
 ·rw[h1]at hx;obtain rfl:=ig hx;exact lt_of_block hg
theorem qoo (F n M:Nat) (t:Nm->Option (List UInt8)) (lab:Nat->Option Lb) (k:Nm) (w:World) (h:Fs w F n M t lab) (hk:lF k) (ht:t k=none) (hn:n<890) :
  Calls Tryz.prog 121 #[.pointer (some ⟨F,0,none⟩),.string (str k)] w λe w'=>e = .returned (.int .i64 0)/\∃av,Fs w' F (n+1) M (aS t k (some [])) av/\dS w lab w' av:=by
 obtain⟨⟨q,B,dz,bj,m,vs,g,hq,h1,h2,h3,h4,h5,h6,h7,h8,h9,iC⟩,kM,hM,ef⟩:=h;have rO:F≠B:=by rintro rfl;rw[h5]at h6;cases h6
 have qY:∀x,bj.ownBlock=some x->x≠F/\x≠B:=λx hx=>by
  have:=h7 x hx;constructor
  ·rintro rfl;rw[h5]at this;cases this
  ·rintro rfl;rw[h6]at this;cases this
 refine (qx2 F q B n m dz bj vs g k w h1 h2 (by omega) h3 (by omega) rO qY hk (h8 k ht)).mono ?_;rintro e w' ⟨w1,P,f1,hP,hPw,he,jG,CU,k1,k2,k3,f2,k4⟩;have hP1:=lt_of_block hP;have Nu:lab P=none:=by
  cases hl:lab P with
  | none=>rfl
  | some l=>have:=ef P (by rw[hl];exact nW l);omega
 have hPt:P∉F::B::bj.ownBlock.toList:=λhm=>by
  have hl:lab P≠none:=by
   simp only[eX,Ii]at hm;rcases hm with rfl|rfl|hm
   ·rw[h5];exact nW _
   ·rw[h6];exact nW _
   ·rw[h7 P hm];exact nW _
  exact hl Nu
 have uB:∀x∈F::B::bj.ownBlock.toList,∃l,lab x=some l/\(l = .fs\/l = .names\/l = .bj):=λx hm=>by
  simp only[eX,Ii]at hm;rcases hm with rfl|rfl|hm
  ·exact⟨_,h5,.inl rfl⟩
  ·exact⟨_,h6,.inr (.inl rfl)⟩
  ·exact⟨_,h7 x hm,.inr (.inr rfl)⟩
 have hold:∀x l,lab x=some l->x≠P/\(jG.ownBlock=some x->l = .bj):=λx l hl=>by
  have hx:=ef x (by rw[hl];exact nW l);refine⟨by omega,λhc=>?_⟩;rcases k4 x hc with hc|hc
  ·have:=h7 x hc;rw[hl]at this;exact ig this
  ·have:=f1.size;omega
 obtain⟨av,jm⟩:∃av:Nat->Option Lb,av=λx=>if x=P then some .file else if jG.ownBlock=some x then some .bj else lab x:=⟨_,rfl⟩
 have dL:∀x l,lab x=some l->av x=some l:=λx l hl=>by
  obtain⟨a1,a2⟩:=hold x l hl;rw[jm];simp only[if_neg a1];split
  ·next hc=>rw[a2 hc]
  ·exact hl
 have bZ:∀x,av x≠none->lab x≠none\/w.heap.size<=x:=λx hx=>by
  rw[jm]at hx;simp only at hx;by_cases e1:x=P
  ·right;omega
  ·rw[if_neg e1]at hx;by_cases e2:jG.ownBlock=some x
   ·rcases k4 x e2 with hc|hc
    ·left;rw[h7 x hc];exact nW _
    ·right;have:=f1.size;omega
   ·rw[if_neg e2]at hx;exact .inl hx
 have f12:Fr (F::B::bj.ownBlock.toList) w w':=(f1.mono (T:=F::B::bj.ownBlock.toList) (by simp)).trans f2;refine⟨he,av,⟨⟨q,B,dz,jG,m+1,CU,set g k (some P),hq,k1,k2,k3,by omega,dL _ _ h5,dL _ _ h6,λx hx=>?_,λx hx=>?_,λx bs hx=>?_,λx y p hx hy=>?_⟩,by omega,hM,λx hx=>?_⟩,⟨_,f12,λx hx=>?_⟩,bZ⟩
 ·rw[jm];have hxP:x≠P:=by
   rintro rfl;rcases k4 x hx with hc|hc
   ·exact hPt (by simp[hc])
   ·omega
  simp only[if_neg hxP,if_pos hx]
 ·unfold aS at hx;unfold set;by_cases e:x=k
  ·rw[if_pos e]at hx;cases hx
  ·rw[if_neg e]at hx ⊢;exact h8 x hx
 ·unfold aS at hx;unfold set;by_cases e:x=k
  ·rw[if_pos e]at hx ⊢;obtain rfl:=ig hx;exact⟨by simp,P,none,0,0,rfl,⟨f2.ag hP hPt,.inl ⟨rfl,rfl,rfl⟩⟩,by rw[jm];simp,by simp[ag]⟩
  ·rw[if_neg e]at hx ⊢;obtain⟨b1,p,a,c,syn,b2,b3,b4,b5⟩:=h9 x bs hx;have hpT:p∉F::B::bj.ownBlock.toList:=λhm=>by obtain⟨l,hl,kj⟩:=uB p hm;rw[b4]at hl;obtain rfl:=ig hl;rcases kj with h|h|h<;>cases h
   refine⟨b1,p,a,c,syn,b2,⟨f12.ag b3.1 hpT,b3.2.fr f12 (λy hy hm=>?_)⟩,dL _ _ b4,λy hy=>dL _ _ (b5 y hy)⟩;obtain⟨l,hl,kj⟩:=uB y hm;rw[b5 y hy]at hl;obtain rfl:=ig hl;rcases kj with h|h|h<;>cases h
 ·unfold set at hx hy;have gP:∀z,g z≠some P:=λz hz=>by
   cases Ql:t z with
   | none=>rw[h8 z Ql]at hz;cases hz
   | some bs=>obtain⟨_,p,a,c,syn,b2,_,b4,_⟩:=h9 z bs Ql;rw[b2]at hz;obtain rfl:=ig hz;rw[Nu]at b4;cases b4
  by_cases e1:x=k
  ·rw[if_pos e1]at hx;obtain rfl:=ig hx;by_cases e2:y=k
   ·rw[e1,e2]
   ·rw[if_neg e2]at hy;exact absurd hy (gP y)
  ·rw[if_neg e1]at hx;by_cases e2:y=k
   ·rw[if_pos e2]at hy;obtain rfl:=ig hy;exact absurd hx (gP x)
   ·rw[if_neg e2]at hy;exact iC x y p hx hy
 ·rw[jm]at hx;simp only at hx;by_cases e1:x=P
  ·have:=f2.size;omega
  ·rw[if_neg e1]at hx;by_cases e2:jG.ownBlock=some x
   ·exact R5 k3 e2
   ·rw[if_neg e2]at hx;exact fM (ef x hx) f12.size
 ·obtain⟨l,hl,_⟩:=uB x hx;rw[hl];exact nW _
set_option maxRecDepth 100000
theorem Zr {w w':World} {row:Option Nat} (h:w.grownBy w' row):Fr row.toList w w':=
 ⟨h.os,h.tape,h.output,h.size,λk hk hm=>h.block k hk (λe=>hm (by simp[e]))⟩
theorem zhm {key:Value} {kl:Lit} (h:keyOf Tryz.prog 9 key=some kl):∃x:Nm,key = .string (str x)/\kl = .string x:=by obtain⟨s,rfl⟩:=Maps.keyOf_string_inv Tryz.underlying9 h;have es:s=str s.data.toList:=rfl;refine⟨s.data.toList,by rw[<-es],?_⟩;rw[keyOf_string Tryz.underlying9]at h;unfold mapKey at h;simp[Tryz.underlying9]at h;first|exact h.2.symm|exact h.symm|exact ()
theorem zgo (v:Value) (y:DataW Unit×List MemPlace) (h:pR v=some y):∃c,v=pV c:=by obtain⟨q,hq,_⟩:=Xq h;exact⟨q,hq⟩
theorem SZ (F n M:Nat) (t:Nm->Option (List UInt8)) (lab:Nat->Option Lb) (w:World) (h:Fs w F n M t lab) :
  Calls Tryz.prog 184 #[.pointer (some ⟨F,0,none⟩)] w λe w'=>(∃u:Nat,u<=n*M/\e = .returned (.int .i64 (u:Nat)))/\Fr [] w w':=by
 obtain⟨⟨q,B,dz,bj,m,vs,g,hq,h1,⟨D,hD,hV⟩,h3,h4,h5,h6,h7,h8,h9,iC⟩,kM,hM,ef⟩:=h;have c1:w.cell? ⟨F,1,none⟩=some (.map (some B)):=by rw[cell_of h1];rfl
 have D8:∀x p,g x=some p->∃(a:OA) (c:Nat) (syn:Int) (bs:LB),bs.length<=M/\w.heap[p]?=some (.cells #[.slice a bs.length c,.int .i64 syn] 221 (0,0)):=λx p hp=>by
  cases uu:t x with
  | none=>rw[h8 x uu]at hp;cases hp
  | some bs=>obtain⟨b1,p',a,c,syn,b2,b3,_⟩:=h9 x bs uu;rw[hp]at b2;obtain rfl:=ig b2;exact⟨a,c,syn,bs,b1,b3.1⟩
 have hnM:n*M<=90000000:=by have:=Hk kM hM;omega
 have cZ:=hD.size_le;have H:=aA hD hV D8 cZ;clear hD hV h1 h3 h4 h5 h6 h7 h8 h9 iC ef D8 cZ;go_enter Tryz.func184,Tryz.ntmps184;go_upto_block 0 with (at_range;refine wpList_range_own _ rfl _ 92 rfl 9 217 Ds Py pR B n D rfl H.out.1 ?_;intro w0 xr QC mf;have H0:=aq xr QC mf;clear xr QC mf);obtain⟨r,hr⟩:=ah w.heap.size;rw[<-hr];have HR:=af hr;have f0:Fr [] w w0:=Zr H0.o1;have xr:=H0.o0;rw[<-hr]at xr;have HG:=ai xr f0;clear hr c1 H0 xr f0;go_wp2;go_frame;go_loopg [3] (Maps.size D) (λk s3 wr=>∃(u cnt:Nat) (left:Lit->Bool),s3 = .int .i64 (u:Nat)/\cnt<=k/\u+cnt*M<=n*M/\wr.ranges Tryz.prog 9 pR B r n D left cnt/\(∀z,left z=true->Maps.has D z=true)/\Fr [] w wr);case atStart=>exact⟨0,_,_,rfl,ax _,by rw[iN];exact Aw _ H.out.2.2.2,HG.o0,λ_ h=>h,HG.l1⟩
 case round=>
  obtain⟨u,cnt,left,rfl,zy,hu,uR,D1,hf⟩:=hrel;have HL:=aq uR D1 hf;clear uR D1 hf;have LY:u<=90000000:=by omega
  go_upto_region 4 with (at_next;refine wpList_next_ranges _ rfl _ rfl 9 Ds pR (λs:ByteArray=>Value.string s) pV (λkey kl h=>Maps.keyOf_string_inv Tryz.underlying9 h) zgo B r n D left cnt rfl HL.o0 ?_ ?_)
  ·intro dB AY;go_wp2;go_ret;exact⟨⟨u,by omega,rfl⟩,HL.l2⟩
  ·intro x c kl a b w' xL nN iF hv dc uR bF hgr cZ Cv;obtain⟨x',vW,rfl⟩:=zhm nN;have D4:=HL.o1 _ iF;obtain⟨v1,v2⟩:=H.out.2.1 x';have QA:∃p,g x'=some p:=by
    cases hg:g x' with
    | none=>rw[v1 hg]at D4;cases D4
    | some p=>exact⟨p,rfl⟩
   obtain⟨p,hp⟩:=QA;have hc:c=some p:=by rw[RC]at hv;have e1:=congrArg Prod.fst (ig hv);simp only at e1;have e2:=dc .nil;rw[(v2 p hp).2,<-e1]at e2;exact (R4 e2).symm
   subst hc;rw[show pV (some p) = .pointer (some ⟨p,0,none⟩) from rfl]at Cv ⊢;obtain⟨fa,fc,fs,fb,xy,hfb⟩:=H.out.2.2.1 x' p hp;have f1:Fr [] w w':=HL.l2.step (Zr hgr) (λy hy=>.inr (by simp at hy;have:=HR.out;omega));have c0:w'.cell? ⟨p,0,none⟩=some (.slice fa fb.length fc):=by rw[cell_of (f1.ag hfb (by simp))];rfl
   have hmul:(xL+1)*M<=cnt*M:=Aw _ bF;rw[oD,CX]at hmul;obtain⟨fl,M6⟩:=ah fb.length;rw[<-M6]at c0 xy;have HX:=aq f1 uR (λz hz=>HL.o1 z (by simp only[kI]at hz;exact hz.1):∀z,(left z&&!z.sameKey (.string x'))=true->Maps.has D z=true);clear nN iF hv dc uR hgr cZ D4 v1 v2 hp hfb f1 M6 vW;go_wp2;go_roundg xL;case measure=>omega
   case rel=>exact⟨u+fl,xL,_,by go_num,ax _,by omega,HX.o1,HX.l2,HX.o0⟩
set_option maxRecDepth 100000
theorem qyc (F q B n U:Nat) (dz bj:Value) (g:Nm->Option Nat) (k:Nm) (p:Nat) (a:OA) (c:Nat) (syn:Int) (bs:LB) (ba:OA) (bc:Nat) (nb:LB) (w:World) (hF:rY w F q B dz bj) (hN:Names w B n g) (hk:lF k) (hg:g k=some p)
  (hp:pH w p a c syn bs) (hb:lib.Rd w ba bc nb) (hu:∀w',Fr [] w w'->Calls Tryz.prog 184 #[.pointer (some ⟨F,0,none⟩)] w' λe fK=>(∃u:Nat,u<=U/\e = .returned (.int .i64 (u:Nat)))/\Fr [] w' fK)
  (dh:nb.length+U<=q) (hq:q<=16777216) (dW:bs.length<=1000000) (Jd:p≠F) (zF:∀x∈ag a,x≠F/\x≠p) (Np:nb≠[]->∀x∈ag ba,x≠F) :
  Calls Tryz.prog 122 #[.pointer (some ⟨F,0,none⟩),.string (str k),.slice ba nb.length bc] w λe w'=>e = .returned (.int .i64 0)/\∃a' c',pH w' p a' c' syn (bs++nb)/\Fr (F::p::ag a) w w'/\rY w' F q B dz bj/\∀x∈ag a',x∈ag a\/w.heap.size<=x:=by
 have kC:=J7 F q B n dz bj g k w hF hN hk;rw[hg]at kC;unfold GY at kC;simp only at kC;obtain⟨L,hL⟩:=ah nb.length;rw[<-hL]at dh ⊢;have hle:=hb.le;rw[<-hL]at hle;obtain⟨z,hz⟩:=ah (str k);rw[<-hz]at kC ⊢;have H:=lf kC hF hp hb hu hL zF Np;clear kC hF hp hb hu hL hz hN hk hg zF Np;go_enter Tryz.func122,Tryz.ntmps122;go_upto_region 4 with (go_at_call 119;refine H.out.1.mono ?_;rintro e w1 ⟨rfl,f1⟩;have H1:=af f1;clear f1);have c0:w1.drew.cell? ⟨F,0,none⟩=some (.int .i64 q):=(show w1.cell? _=_ by rw[cell_of (H1.out.ag H.out.2.1 (by simp))];rfl);have s0:∀x,(sup [] w1.drew x).cell? ⟨F,0,none⟩=some (.int .i64 q):=λx=>(gB [] w1.drew x).cell c0 (by simp)
 refine lK 10 [(false,0),(false,1),(false,2),(false,3),(false,4),(false,5),(false,6),(true,7),(false,8),(false,9)] [] (by kernel_rfl) (by kernel_rfl) (λ_ _ d _ _ h=>by cases d<;>exact h) ?_;simp only[kQ];refine eD 7 rfl ?_;simp only[cT];repeat (go_big_quiet_step (fail))
 refine wpQuiet_nil ?_;clear s0 c0;refine jb rfl ?_;intro XX gY;go_wp2_with (go_at_call 184;refine (H.out.2.2.2.2.1 _ (H1.out.trans (Fr.aB [] w1))).mono ?_;rintro e w2 ⟨⟨u,hu,rfl⟩,f2⟩);refine gY.out _ _ f2 ?_;clear gY XX;have H2:=af f2;clear f2;have g1:decide ((q:Int)-(u:Int)<(L:Int))=false:=by simp;omega
 refine eD 2 rfl ?_;simp only[cT];repeat (go_big_quiet_step (fail))
 refine wpQuiet_nil ?_;refine j4 ?_;have Wj:Fr [] w w2:=(H1.out.trans (Fr.aB [] w1)).trans H2.out;have qZ:=O4 F q B dz bj w2 (Wj.ag H.out.2.1 (by simp));have HB:=ai qZ Wj;clear qZ Wj;go_upto_region 9 with (go_at_call 125;refine HB.o0.mono ?_;rintro e w3 ⟨rfl,b3,f3⟩;have H3:=ai b3 f3;clear b3 f3);have yq:Fr [F] w w3:=(HB.l1.mono (T:=[F]) (by simp)).trans H3.l1;obtain⟨qt,jk⟩:=H.out.2.2.1;obtain⟨zF,Np⟩:=H.out.2.2.2.2.2.2;have p3:pH w3 p a c syn bs:=⟨yq.ag qt (by simpa using Jd),jk.fr yq (λx hx=>by have:=(zF x hx).1;simpa using this)⟩;have JU:=C4 H.out.2.2.2.1 yq (λhb x hx=>by simpa using Np hb x hx);have c0:w3.cell? ⟨p,0,none⟩=some (.slice a bs.length c):=by rw[cell_of p3.1];rfl
 obtain⟨BL,lQ⟩:=ah bs.length;rw[<-lQ]at c0 dW;have H4:=aA p3 JU yq lQ;clear p3 JU yq qt jk zF Np lQ;go_wp2_with (at_builtin;go_loud (refine qg2 aE rfl _ _ rfl a BL c (bs.map bv) rfl H4.o0.2 (by rw[gx,H4.l3]) ba L bc (nb.map bv) rfl hle H4.o1.nil H4.o1.cs (by rw[gx,H.out.2.2.2.2.2.1]) (qI _) (by omega) (by unfold maxLen;omega) ?_;intro a4 q4 w4 A4;have p4:=A4.fr.ag H4.o0.1 (λhx=>(H.out.2.2.2.2.2.2.1 p hx).2 rfl);have d4:w4.cell? ⟨p,0,none⟩=some (.slice a bs.length c):=(by rw[cell_of p4];rfl);have z4:=aT p4 0;have H5:=ai A4 p4;clear A4 p4));go_ret;obtain⟨A4,p4⟩:=H5.out;have yq:=H4.o2;have f5:Fr [p] w4 (w4.setCell ⟨p,0,none⟩ (.slice a4 (BL+L) q4)):=(Fr.refl [p] w4).setCell (by simp) _;have zF:=H.out.2.2.2.2.2.2.1;have cS:∀x∈ag a4,x∉[p]:=λx hx hm=>by
  simp only[eF]at hm;subst hm;rcases A4.at_ x hx with h|h
  ·exact (zF x h).2 rfl
  ·have:=lt_of_block H4.o0.1;omega
 have hT:∀y,y∈[F]\/y∈[p]\/y∈ag a->y∈F::p::ag a:=λy hy=>by simp only[eX,mV,or_false]at hy ⊢;exact hy
 refine⟨rfl,a4,q4,⟨?_,?_⟩,?_,?_,λx hx=>?_⟩
 ·rw[aG,<-H4.l3,<-H.out.2.2.2.2.2.1];exact (df (o:=0) p4 _).trans rfl
 ·rw[jd];exact A4.own.fr f5 cS
 ·exact ((yq.mono (T:=F::p::ag a) (λy hy=>.inl (hT y (.inl hy)))).trans (A4.fr.mono (T:=F::p::ag a) (λy hy=>.inl (hT y (.inr (.inr hy)))))).trans (f5.mono (T:=F::p::ag a) (λy hy=>.inl (hT y (.inr (.inl hy)))))
 ·exact f5.ag (A4.fr.ag H3.o0 (λhx=>(zF F hx).1 rfl)) (by simpa using λe=>Jd e.symm)
 ·rcases A4.at_ x hx with h|h
  ·exact .inl h
  ·exact .inr (bP yq.size h)
set_option maxRecDepth 100000
theorem qou (F n M M':Nat) (t:Nm->Option (List UInt8)) (lab:Nat->Option Lb) (k:Nm) (bs:LB) (ba:OA) (bc:Nat) (nb:LB) (w:World) (h:Fs w F n M t lab) (hk:lF k) (ht:t k=some bs) (hb:lib.Rd w ba bc nb) (dW:nb≠[]->∀x∈ag ba,lab x=none)
  (yo:M<=M') (qy:bs.length+nb.length<=M') (iV:M'<=100000) (dh:nb.length+n*M<=1048576) :
  Calls Tryz.prog 122 #[.pointer (some ⟨F,0,none⟩),.string (str k),.slice ba nb.length bc] w λe w'=>e = .returned (.int .i64 0)/\∃av,Fs w' F n M' (aS t k (some (bs++nb))) av/\dS w lab w' av:=by
 have LX:∀w',Fr [] w w'->Calls Tryz.prog 184 #[.pointer (some ⟨F,0,none⟩)] w' λe fK=>(∃u:Nat,u<=n*M/\e = .returned (.int .i64 (u:Nat)))/\Fr [] w' fK:=λw' f=>SZ F n M t lab w' (h.fr f (by simp))
 obtain⟨⟨q,B,dz,bj,m,vs,g,hq,h1,h2,h3,h4,h5,h6,h7,h8,h9,iC⟩,kM,hM,ef⟩:=h;obtain⟨b1,p,a,c,syn,b2,b3,b4,b5⟩:=h9 k bs ht;have ne:∀{x y:Nat} {l l':Lb},lab x=some l->lab y=some l'->l≠l'->x≠y:=λhx hy hl e=>by rw[e,hy]at hx;exact hl (ig hx).symm
 refine (qyc F q B n (n*M) dz bj g k p a c syn bs ba bc nb w h1 h2 hk b2 b3 hb LX (by omega) hq.2 (by omega) (ne b4 h5 (by intro e;cases e)) (λx hx=>⟨ne (b5 x hx) h5 (by intro e;cases e),ne (b5 x hx) b4 (by intro e;cases e)⟩) (λDW x hx e=>by rw[e]at hx;have:=dW DW F hx;rw[h5]at this;cases this)).mono ?_;rintro e w' ⟨he,a',c',f1,f2,k1,k4⟩;have uB:∀x∈F::p::ag a,∃l,lab x=some l/\(l = .fs\/l = .file\/l = .data p)/\(l = .file->x=p):=λx hm=>by
  simp only[eX]at hm;rcases hm with rfl|rfl|hm
  ·exact⟨_,h5,.inl rfl,by intro e;cases e⟩
  ·exact⟨_,b4,.inr (.inl rfl),λ_=>rfl⟩
  ·exact⟨_,b5 x hm,.inr (.inr rfl),by intro e;cases e⟩
 obtain⟨av,jm⟩:∃av:Nat->Option Lb,av=λx=>if x∈ag a' then some (.data p) else lab x:=⟨_,rfl⟩
 have dL:∀x l,lab x=some l->av x=some l:=λx l hl=>by
  rw[jm];simp only;split
  ·next hm=>
   rcases k4 x hm with hc|hc
   ·rw[b5 x hc]at hl;exact hl
   ·have:=ef x (by rw[hl];exact nW l);omega
  ·exact hl
 have off:∀x l,lab x=some l->l≠.fs->l≠.data p->x≠p->x∉F::p::ag a:=λx l hl n1 n2 n3 hm=>by
  obtain⟨l',tL,hc,hf⟩:=uB x hm;rw[hl]at tL;obtain rfl:=ig tL;rcases hc with e|e|e
  ·exact n1 e
  ·exact n3 (hf e)
  ·exact n2 e
 refine⟨he,av,⟨⟨q,B,dz,bj,m,vs,g,hq,k1,h2.fr f2 (off _ _ h6 (by intro e;cases e) (by intro e;cases e) (ne h6 b4 (by intro e;cases e))),dp h3 f2 (λx hx=>off _ _ (h7 x hx) (by intro e;cases e) (by intro e;cases e) (ne (h7 x hx) b4 (by intro e;cases e))),h4,dL _ _ h5,dL _ _ h6,λx hx=>dL _ _ (h7 x hx),λx hx=>?_,λx qB hx=>?_,iC⟩,kM,iV,λx hx=>?_⟩,⟨_,f2,λx hx=>?_⟩,λx hx=>?_⟩
 ·unfold aS at hx;by_cases e:x=k
  ·rw[if_pos e]at hx;cases hx
  ·rw[if_neg e]at hx;exact h8 x hx
 ·unfold aS at hx;by_cases e:x=k
  ·rw[if_pos e]at hx;obtain rfl:=ig hx;exact⟨by rw[aG];omega,p,a',c',syn,by rw[e];exact b2,f1,dL _ _ b4,λy hy=>by rw[jm];simp only[if_pos hy]⟩
  ·rw[if_neg e]at hx;obtain⟨d1,p',a2,c2,rm,d2,d3,d4,d5⟩:=h9 x qB hx;have ki:p'≠p:=λhp=>e (iC x k p (by rw[<-hp];exact d2) b2)
   exact⟨by omega,p',a2,c2,rm,d2,⟨f2.ag d3.1 (off _ _ d4 (by intro e;cases e) (by intro e;cases e) ki),d3.2.fr f2 (λy hy=>off _ _ (d5 y hy) (by intro e;cases e) (by intro e;cases e;exact ki rfl) (ne (d5 y hy) b4 (by intro e;cases e)))⟩,dL _ _ d4,λy hy=>dL _ _ (d5 y hy)⟩
 ·rw[jm]at hx;simp only at hx;by_cases e1:x∈ag a'
  ·exact f1.2.lt x e1
  ·rw[if_neg e1]at hx;exact fM (ef x hx) f2.size
 ·obtain⟨l,hl,_⟩:=uB x hx;rw[hl];exact nW _
 ·rw[jm]at hx;simp only at hx;by_cases e1:x∈ag a'
  ·rcases k4 x e1 with hc|hc
   ·left;rw[b5 x hc];exact nW _
   ·exact .inr hc
  ·rw[if_neg e1]at hx;exact .inl hx
set_option maxRecDepth 100000
def ui (w:World) (q:Option (List UInt8)) (e:Ending) (w':World):Prop:=(match q with
 | none=>e = .returned (.tuple #[.slice none 0 0,.int .i64 61])
 | some bs=>∃a,e = .returned (.tuple #[.slice a bs.length bs.length,.int .i64 0])/\lib.Rd w' a bs.length bs/\∀x∈ag a,w.heap.size<=x/\x<w'.heap.size)/\Fr [] w w'
theorem xW (F n M:Nat) (t:Nm->Option (List UInt8)) (lab:Nat->Option Lb) (k:Nm) (w:World) (h:Fs w F n M t lab) (hk:lF k) :
  Calls Tryz.prog 65 #[.pointer (some ⟨F,0,none⟩),.string (str k)] w (ui w (t k)):=by
 have hM:=h.most;obtain⟨⟨q,B,dz,bj,m,vs,g,hq,h1,h2,h3,h4,h5,h6,h7,h8,h9,iC⟩,_,_,ef⟩:=h;have kC:=J7 F q B n dz bj g k w h1 h2 hk;obtain⟨z,hz⟩:=ah (str k);rw[<-hz]at kC ⊢;cases ht:t k with
 | none=>
  rw[h8 k ht]at kC;unfold GY at kC;have H:=af kC;clear kC h1 h2 h3 h4 h5 h6 h7 h8 h9 iC ef hz ht;go_enter Tryz.func65,Tryz.ntmps65;go_wp2_with (go_at_call 119;refine H.out.mono ?_;rintro e w1 ⟨rfl,f1⟩;have H1:=af f1;clear f1);go_ret2;exact⟨rfl,H1.out⟩
 | some bs=>
  obtain⟨b1,p,a,c,syn,b2,b3,b4,b5⟩:=h9 k bs ht;rw[b2]at kC;unfold GY at kC;obtain⟨L,hL⟩:=ah bs.length;have H:=aq kC b3 hL;rw[<-hL]at b1;clear kC h1 h2 h3 h4 h5 h6 h7 h8 h9 iC ef hz ht b2 b3 b4 b5 hL;go_enter Tryz.func65,Tryz.ntmps65;go_upto_region 4 with (go_at_call 119;refine H.out.1.mono ?_;rintro e w1 ⟨rfl,f1⟩;have H1:=af f1;clear f1);have p1:=H1.out.ag H.out.2.1.1 (by simp);have c0:w1.cell? ⟨p,0,none⟩=some (.slice a L c):=by rw[cell_of p1,H.out.2.2];rfl
  have fX:=XO a c bs w1 (H.out.2.1.2.fr H1.out (by simp)).rd (by rw[<-H.out.2.2];omega);rw[<-H.out.2.2]at fX;have H2:=af fX;clear p1 fX;go_wp2_with (first
   | (go_at_call 109;refine H2.out.mono ?_;rintro e w3 ⟨a3,c3,rfl,r3,l3,m3,n3,f3⟩;rw[<-H.out.2.2];rw[<-H.out.2.2]at l3;have H3:=aQ r3 l3 m3 n3 f3;clear r3 l3 m3 n3 f3)
   | (go_at_call 79;refine (J2 a3 L c3 w3 H3.o1 H3.o2).mono ?_;rintro e w4 ⟨rfl,hw⟩;obtain rfl:=hw.symm))
  go_ret2;refine⟨⟨a3,by rw[<-H.out.2.2];rfl,?_,λx hx=>?_⟩,H1.out.trans H3.l4⟩
  ·have r3:=H3.o0;exact⟨r3.cs,ax _,bP r3.le r3.max,λe=>by have h1:=r3.nil e;have h2:=r3.le;omega⟩
  ·have h1:=H3.o3 x hx;have h2:=H1.out.size;omega
end fs

end Go.Proofs.YticadfhpolhkeaaGreatDoor