/-
  Texts of this proof, one behind the other: WordS, AppStr.
-/
import Derived.Test.YtflcdnmhgfhmdaaGreatDoorG2
import Derived.Test.YtflcdnmhgfhmdaaGreatDoorG5
import Derived.Shelf.Strconv.Atoi
import Derived.Shelf.Strconv.Itoa0
import Derived.Shelf.Strconv.Itoa1
import Derived.Shelf.Strconv.Itoa2
import Derived.Shelf.Strconv.Itoa3
import Derived.Shelf.Slices.Turned
import Derived.Shelf.Strings.SlTrimAscii
import Derived.Lib.AppendStr
set_option linter.unusedVariables false
set_option linter.unusedSimpArgs false
/-
  The library's functions over words and numbers, off the shelf (printed by shelf.py and byname.py).
-/
namespace Go.Proofs
open Go.Shelf
def Tryz.lays172_ren : Go.Shelf.Ren := ⟨fun | 172 => 32 | 244 => 70 | 245 => 71 | 247 => 120 | 279 => 121 | 280 => 122 | 281 => 123 | 282 => 124 | 287 => 194 | 316 => 195 | 171 => 17 | 205 => 196 | 321 => 281 | 322 => 282 | 243 => 50 | 246 => 95 | 283 => 157 | 284 => 158 | 285 => 159 | 286 => 160 | 129 => 235 | 317 => 234 | 318 => 236 | 319 => 237 | 320 => 238 | 337 => 318 | 338 => 319 | n => n, fun | 9 => 9 | 3 => 3 | 75 => 80 | 76 => 81 | 4 => 4 | 5 => 5 | 167 => 215 | 37 => 93 | 0 => 0 | 85 => 216 | 2 => 2 | 168 => 218 | 53 => 259 | 175 => 289 | 46 => 244 | 210 => 292 | 127 => 162 | 145 => 395 | 143 => 393 | 21 => 21 | 171 => 258 | 173 => 262 | 212 => 338 | 51 => 152 | 20 => 20 | 213 => 339 | 232 => 529 | 233 => 530 | 80 => 101 | n => n, fun | 15 => 1 | 16 => 2 | 17 => 3 | 18 => 6 | 19 => 7 | n => n⟩
theorem Tryz.lays172 : Go.Proofs.Lays.n172 Tryz.prog Tryz.lays172_ren := {
  mixed := by kernel_rfl
  f129 := Tryz.func235.trans (congrArg some (by kernel_rfl))
  f171 := Tryz.func17.trans (congrArg some (by kernel_rfl))
  f172 := Tryz.func32.trans (congrArg some (by kernel_rfl))
  f205 := Tryz.func196.trans (congrArg some (by kernel_rfl))
  f243 := Tryz.func50.trans (congrArg some (by kernel_rfl))
  f244 := Tryz.func70.trans (congrArg some (by kernel_rfl))
  f245 := Tryz.func71.trans (congrArg some (by kernel_rfl))
  f246 := Tryz.func95.trans (congrArg some (by kernel_rfl))
  f247 := Tryz.func120.trans (congrArg some (by kernel_rfl))
  f279 := Tryz.func121.trans (congrArg some (by kernel_rfl))
  f280 := Tryz.func122.trans (congrArg some (by kernel_rfl))
  f281 := Tryz.func123.trans (congrArg some (by kernel_rfl))
  f282 := Tryz.func124.trans (congrArg some (by kernel_rfl))
  f283 := Tryz.func157.trans (congrArg some (by kernel_rfl))
  f284 := Tryz.func158.trans (congrArg some (by kernel_rfl))
  f285 := Tryz.func159.trans (congrArg some (by kernel_rfl))
  f286 := Tryz.func160.trans (congrArg some (by kernel_rfl))
  f287 := Tryz.func194.trans (congrArg some (by kernel_rfl))
  f316 := Tryz.func195.trans (congrArg some (by kernel_rfl))
  f317 := Tryz.func234.trans (congrArg some (by kernel_rfl))
  f318 := Tryz.func236.trans (congrArg some (by kernel_rfl))
  f319 := Tryz.func237.trans (congrArg some (by kernel_rfl))
  f320 := Tryz.func238.trans (congrArg some (by kernel_rfl))
  f321 := Tryz.func281.trans (congrArg some (by kernel_rfl))
  f322 := Tryz.func282.trans (congrArg some (by kernel_rfl))
  f337 := Tryz.func318.trans (congrArg some (by kernel_rfl))
  f338 := Tryz.func319.trans (congrArg some (by kernel_rfl))
  t0 := Tryz.underlying0
  a0 := Tryz.isAgg0
  z0 := Tryz.sizeOf0
  v0 := Tryz.zeroValue0
  t2 := Tryz.underlying2
  a2 := Tryz.isAgg2
  z2 := Tryz.sizeOf2
  v2 := Tryz.zeroValue2
  t3 := Tryz.underlying3
  a3 := Tryz.isAgg3
  z3 := Tryz.sizeOf3
  v3 := Tryz.zeroValue3
  t4 := Tryz.underlying4
  a4 := Tryz.isAgg4
  z4 := Tryz.sizeOf4
  v4 := Tryz.zeroValue4
  t5 := Tryz.underlying5
  a5 := Tryz.isAgg5
  z5 := Tryz.sizeOf5
  v5 := Tryz.zeroValue5
  t9 := Tryz.underlying9
  a9 := Tryz.isAgg9
  z9 := Tryz.sizeOf9
  v9 := Tryz.zeroValue9
  t20 := Tryz.underlying20
  a20 := Tryz.isAgg20
  z20 := Tryz.sizeOf20
  v20 := Tryz.zeroValue20
  t21 := Tryz.underlying21
  a21 := Tryz.isAgg21
  z21 := Tryz.sizeOf21
  v21 := Tryz.zeroValue21
  t37 := Tryz.underlying93
  a37 := Tryz.isAgg93
  z37 := Tryz.sizeOf93
  v37 := Tryz.zeroValue93
  t46 := Tryz.underlying244
  a46 := Tryz.isAgg244
  z46 := Tryz.sizeOf244
  v46 := Tryz.zeroValue244
  t51 := Tryz.underlying152
  a51 := Tryz.isAgg152
  z51 := Tryz.sizeOf152
  v51 := Tryz.zeroValue152
  t53 := Tryz.underlying259
  a53 := Tryz.isAgg259
  z53 := Tryz.sizeOf259
  v53 := Tryz.zeroValue259
  t75 := Tryz.underlying80
  a75 := Tryz.isAgg80
  z75 := Tryz.sizeOf80
  v75 := Tryz.zeroValue80
  t76 := Tryz.underlying81
  a76 := Tryz.isAgg81
  z76 := Tryz.sizeOf81
  v76 := Tryz.zeroValue81
  t85 := Tryz.underlying216
  a85 := Tryz.isAgg216
  z85 := Tryz.sizeOf216
  v85 := Tryz.zeroValue216
  t127 := Tryz.underlying162
  a127 := Tryz.isAgg162
  z127 := Tryz.sizeOf162
  v127 := Tryz.zeroValue162
  t143 := Tryz.underlying393
  a143 := Tryz.isAgg393
  z143 := Tryz.sizeOf393
  v143 := Tryz.zeroValue393
  t145 := Tryz.underlying395
  a145 := Tryz.isAgg395
  z145 := Tryz.sizeOf395
  v145 := Tryz.zeroValue395
  t167 := Tryz.underlying215
  a167 := Tryz.isAgg215
  z167 := Tryz.sizeOf215
  v167 := Tryz.zeroValue215
  t168 := Tryz.underlying218
  a168 := Tryz.isAgg218
  z168 := Tryz.sizeOf218
  v168 := Tryz.zeroValue218
  t171 := Tryz.underlying258
  a171 := Tryz.isAgg258
  z171 := Tryz.sizeOf258
  v171 := Tryz.zeroValue258
  t173 := Tryz.underlying262
  a173 := Tryz.isAgg262
  z173 := Tryz.sizeOf262
  v173 := Tryz.zeroValue262
  t175 := Tryz.underlying289
  a175 := Tryz.isAgg289
  z175 := Tryz.sizeOf289
  v175 := Tryz.zeroValue289
  t210 := Tryz.underlying292
  a210 := Tryz.isAgg292
  z210 := Tryz.sizeOf292
  v210 := Tryz.zeroValue292
  t212 := Tryz.underlying338
  a212 := Tryz.isAgg338
  z212 := Tryz.sizeOf338
  v212 := Tryz.zeroValue338
  t213 := Tryz.underlying339
  a213 := Tryz.isAgg339
  z213 := Tryz.sizeOf339
  t232 := Tryz.underlying529
  a232 := Tryz.isAgg529
  z232 := Tryz.sizeOf529
  v232 := Tryz.zeroValue529
  t233 := Tryz.underlying530
  a233 := Tryz.isAgg530
  z233 := Tryz.sizeOf530
  v233 := Tryz.zeroValue530
  g15 := by kernel_rfl
  g16 := by kernel_rfl
  g17 := by kernel_rfl
  g18 := by kernel_rfl
  g19 := by kernel_rfl }
open Go.RowKit in
theorem Tryz.strconv_Atoi (s : ByteArray) (n : Int) (hl : s.size ≤ 18) (h : Lib.atoi s.data.toList = some n) (w : World) :
    Calls Tryz.prog 32 #[.string s] w fun e w' => e = .returned (.tuple #[.int .i64 n, .nilIface]) ∧ ∃ t, w' = Lib.bytesWorld w 5 t := Any.strconv_Atoi Tryz.lays172 s n hl h w
def Tryz.lays171_ren : Go.Shelf.Ren := ⟨fun | 171 => 17 | 243 => 50 | 246 => 95 | 283 => 157 | 284 => 158 | 285 => 159 | 286 => 160 | 129 => 235 | 317 => 234 | 318 => 236 | 319 => 237 | 320 => 238 | 337 => 318 | 338 => 319 | n => n, fun | 3 => 3 | 9 => 9 | 2 => 2 | 4 => 4 | 171 => 258 | 0 => 0 | 53 => 259 | 37 => 93 | 5 => 5 | 173 => 262 | 212 => 338 | 51 => 152 | 20 => 20 | 213 => 339 | 46 => 244 | 232 => 529 | 233 => 530 | n => n, fun | 17 => 3 | 18 => 6 | 19 => 7 | n => n⟩
theorem Tryz.lays171 : Go.Proofs.Lays.n171 Tryz.prog Tryz.lays171_ren := {
  mixed := by kernel_rfl
  f129 := Tryz.func235.trans (congrArg some (by kernel_rfl))
  f171 := Tryz.func17.trans (congrArg some (by kernel_rfl))
  f243 := Tryz.func50.trans (congrArg some (by kernel_rfl))
  f246 := Tryz.func95.trans (congrArg some (by kernel_rfl))
  f283 := Tryz.func157.trans (congrArg some (by kernel_rfl))
  f284 := Tryz.func158.trans (congrArg some (by kernel_rfl))
  f285 := Tryz.func159.trans (congrArg some (by kernel_rfl))
  f286 := Tryz.func160.trans (congrArg some (by kernel_rfl))
  f317 := Tryz.func234.trans (congrArg some (by kernel_rfl))
  f318 := Tryz.func236.trans (congrArg some (by kernel_rfl))
  f319 := Tryz.func237.trans (congrArg some (by kernel_rfl))
  f320 := Tryz.func238.trans (congrArg some (by kernel_rfl))
  f337 := Tryz.func318.trans (congrArg some (by kernel_rfl))
  f338 := Tryz.func319.trans (congrArg some (by kernel_rfl))
  t0 := Tryz.underlying0
  a0 := Tryz.isAgg0
  z0 := Tryz.sizeOf0
  v0 := Tryz.zeroValue0
  t2 := Tryz.underlying2
  a2 := Tryz.isAgg2
  z2 := Tryz.sizeOf2
  v2 := Tryz.zeroValue2
  t3 := Tryz.underlying3
  a3 := Tryz.isAgg3
  z3 := Tryz.sizeOf3
  v3 := Tryz.zeroValue3
  t4 := Tryz.underlying4
  a4 := Tryz.isAgg4
  z4 := Tryz.sizeOf4
  v4 := Tryz.zeroValue4
  t5 := Tryz.underlying5
  a5 := Tryz.isAgg5
  z5 := Tryz.sizeOf5
  v5 := Tryz.zeroValue5
  t9 := Tryz.underlying9
  a9 := Tryz.isAgg9
  z9 := Tryz.sizeOf9
  v9 := Tryz.zeroValue9
  t20 := Tryz.underlying20
  a20 := Tryz.isAgg20
  z20 := Tryz.sizeOf20
  v20 := Tryz.zeroValue20
  t37 := Tryz.underlying93
  a37 := Tryz.isAgg93
  z37 := Tryz.sizeOf93
  v37 := Tryz.zeroValue93
  t46 := Tryz.underlying244
  a46 := Tryz.isAgg244
  z46 := Tryz.sizeOf244
  v46 := Tryz.zeroValue244
  t51 := Tryz.underlying152
  a51 := Tryz.isAgg152
  z51 := Tryz.sizeOf152
  v51 := Tryz.zeroValue152
  t53 := Tryz.underlying259
  a53 := Tryz.isAgg259
  z53 := Tryz.sizeOf259
  v53 := Tryz.zeroValue259
  t171 := Tryz.underlying258
  a171 := Tryz.isAgg258
  z171 := Tryz.sizeOf258
  v171 := Tryz.zeroValue258
  t173 := Tryz.underlying262
  a173 := Tryz.isAgg262
  z173 := Tryz.sizeOf262
  v173 := Tryz.zeroValue262
  t212 := Tryz.underlying338
  a212 := Tryz.isAgg338
  z212 := Tryz.sizeOf338
  v212 := Tryz.zeroValue338
  t213 := Tryz.underlying339
  a213 := Tryz.isAgg339
  z213 := Tryz.sizeOf339
  t232 := Tryz.underlying529
  a232 := Tryz.isAgg529
  z232 := Tryz.sizeOf529
  v232 := Tryz.zeroValue529
  t233 := Tryz.underlying530
  a233 := Tryz.isAgg530
  z233 := Tryz.sizeOf530
  v233 := Tryz.zeroValue530
  g17 := by kernel_rfl
  g18 := by kernel_rfl
  g19 := by kernel_rfl }
open Go.RowKit Go.Sort Go.Lib in
theorem Tryz.strconv_Itoa_small (i : Nat) (hi : i < 100) (w : World) :
    Calls Tryz.prog 17 #[.int .i64 i] w fun e w' => e = .returned (.string ⟨(Lib.decDigits i).toArray⟩) ∧ w' = w := Any.strconv_Itoa_small Tryz.lays171 i hi w
def Tryz.lays110_ren : Go.Shelf.Ren := ⟨fun | 110 => 10 | 109 => 30 | n => n, fun | 31 => 33 | 9 => 9 | 4 => 4 | 3 => 3 | 0 => 0 | n => n, fun | n => n⟩
theorem Tryz.lays110 : Go.Proofs.Lays.n110 Tryz.prog Tryz.lays110_ren := {
  mixed := by kernel_rfl
  f109 := Tryz.func30.trans (congrArg some (by kernel_rfl))
  f110 := Tryz.func10.trans (congrArg some (by kernel_rfl))
  t0 := Tryz.underlying0
  a0 := Tryz.isAgg0
  z0 := Tryz.sizeOf0
  v0 := Tryz.zeroValue0
  t3 := Tryz.underlying3
  a3 := Tryz.isAgg3
  z3 := Tryz.sizeOf3
  v3 := Tryz.zeroValue3
  t4 := Tryz.underlying4
  a4 := Tryz.isAgg4
  z4 := Tryz.sizeOf4
  v4 := Tryz.zeroValue4
  t9 := Tryz.underlying9
  a9 := Tryz.isAgg9
  z9 := Tryz.sizeOf9
  v9 := Tryz.zeroValue9
  t31 := Tryz.underlying33
  a31 := Tryz.isAgg33
  z31 := Tryz.sizeOf33
  v31 := Tryz.zeroValue33 }
open Go.Lib in
theorem Tryz.slices_Contains_string (b off n c : Nat) (zs : List ByteArray) (x : ByteArray) (w : World) (hz : n ≤ zs.length) (hbig : n ≤ 9223372036854775807) (hc : ∀ j, j < zs.length → w.cell? ⟨b, off + j, none⟩ = some (.string (zs.getD j ByteArray.empty))) :
    Calls Tryz.prog 10 #[.slice (some ⟨b, off, none⟩) n c, .string x] w fun e w' => e = .returned (.bool (Lib.containsS (zs.take n) x)) ∧ w' = w := Any.slices_Contains_string Tryz.lays110 b off n c zs x w hz hbig hc
open Go.Lib in
theorem Tryz.slices_Contains_string_empty (a : Option Addr) (c : Nat) (x : ByteArray) (w : World) :
    Calls Tryz.prog 10 #[.slice a 0 c, .string x] w fun e w' => e = .returned (.bool false) ∧ w' = w := Any.slices_Contains_string_empty Tryz.lays110 a c x w
def Tryz.trimI_ren : Go.Shelf.Ren := ⟨fun | 160 => 31 | 232 => 64 | 231 => 63 | 227 => 65 | 234 => 67 | 233 => 66 | 236 => 69 | 235 => 68 | 228 => 117 | 271 => 119 | 151 => 118 | 197 => 114 | 120 => 193 | 152 => 192 | 260 => 187 | 137 => 279 | 119 => 280 | 224 => 190 | 225 => 189 | 217 => 188 | 266 => 277 | n => n, fun | 9 => 9 | 4 => 4 | 3 => 3 | 5 => 5 | 117 => 137 | 116 => 136 | 0 => 0 | 124 => 140 | 21 => 21 | 105 => 210 | 46 => 244 | 119 => 385 | 139 => 388 | 138 => 387 | n => n, fun | 3 => 4 | 4 => 5 | n => n⟩
theorem Tryz.trimI : Go.Proofs.Lays.n160 Tryz.prog Tryz.trimI_ren := {
  mixed := by kernel_rfl
  f119 := Tryz.func280.trans (congrArg some (by kernel_rfl))
  f120 := Tryz.func193.trans (congrArg some (by kernel_rfl))
  f137 := Tryz.func279.trans (congrArg some (by kernel_rfl))
  f151 := Tryz.func118.trans (congrArg some (by kernel_rfl))
  f152 := Tryz.func192.trans (congrArg some (by kernel_rfl))
  f160 := Tryz.func31.trans (congrArg some (by kernel_rfl))
  f197 := Tryz.func114.trans (congrArg some (by kernel_rfl))
  f217 := Tryz.func188.trans (congrArg some (by kernel_rfl))
  f224 := Tryz.func190.trans (congrArg some (by kernel_rfl))
  f225 := Tryz.func189.trans (congrArg some (by kernel_rfl))
  f227 := Tryz.func65.trans (congrArg some (by kernel_rfl))
  f228 := Tryz.func117.trans (congrArg some (by kernel_rfl))
  f231 := Tryz.func63.trans (congrArg some (by kernel_rfl))
  f232 := Tryz.func64.trans (congrArg some (by kernel_rfl))
  f233 := Tryz.func66.trans (congrArg some (by kernel_rfl))
  f234 := Tryz.func67.trans (congrArg some (by kernel_rfl))
  f235 := Tryz.func68.trans (congrArg some (by kernel_rfl))
  f236 := Tryz.func69.trans (congrArg some (by kernel_rfl))
  f260 := Tryz.func187.trans (congrArg some (by kernel_rfl))
  f266 := Tryz.func277.trans (congrArg some (by kernel_rfl))
  f271 := Tryz.func119.trans (congrArg some (by kernel_rfl))
  t0 := Tryz.underlying0
  a0 := Tryz.isAgg0
  z0 := Tryz.sizeOf0
  v0 := Tryz.zeroValue0
  t3 := Tryz.underlying3
  a3 := Tryz.isAgg3
  z3 := Tryz.sizeOf3
  v3 := Tryz.zeroValue3
  t4 := Tryz.underlying4
  a4 := Tryz.isAgg4
  z4 := Tryz.sizeOf4
  v4 := Tryz.zeroValue4
  t5 := Tryz.underlying5
  a5 := Tryz.isAgg5
  z5 := Tryz.sizeOf5
  v5 := Tryz.zeroValue5
  t9 := Tryz.underlying9
  a9 := Tryz.isAgg9
  z9 := Tryz.sizeOf9
  v9 := Tryz.zeroValue9
  t21 := Tryz.underlying21
  a21 := Tryz.isAgg21
  z21 := Tryz.sizeOf21
  v21 := Tryz.zeroValue21
  t46 := Tryz.underlying244
  a46 := Tryz.isAgg244
  z46 := Tryz.sizeOf244
  v46 := Tryz.zeroValue244
  t105 := Tryz.underlying210
  a105 := Tryz.isAgg210
  z105 := Tryz.sizeOf210
  v105 := Tryz.zeroValue210
  t116 := Tryz.underlying136
  a116 := Tryz.isAgg136
  z116 := Tryz.sizeOf136
  t117 := Tryz.underlying137
  a117 := Tryz.isAgg137
  z117 := Tryz.sizeOf137
  v117 := Tryz.zeroValue137
  t119 := Tryz.underlying385
  a119 := Tryz.isAgg385
  z119 := Tryz.sizeOf385
  t124 := Tryz.underlying140
  a124 := Tryz.isAgg140
  z124 := Tryz.sizeOf140
  v124 := Tryz.zeroValue140
  t138 := Tryz.underlying387
  a138 := Tryz.isAgg387
  z138 := Tryz.sizeOf387
  v138 := Tryz.zeroValue387
  t139 := Tryz.underlying388
  a139 := Tryz.isAgg388
  z139 := Tryz.sizeOf388
  v139 := Tryz.zeroValue388
  g3 := by kernel_rfl
  g4 := by kernel_rfl }
theorem Tryz.strings_Trim_i (s cutset : ByteArray) (w : World) (hs : s.size ≤ 9223372036854775807) (hcs : cutset.size < 4294967281) (hascii : ∀ (j : Nat) b, cutset.data.toList[j]? = some b → b.toNat < 128) :
    Calls Tryz.prog 31 #[.string s, .string cutset] w fun e w' => e = .returned (.string ⟨(Lib.trimS s.data.toList cutset.data.toList).toArray⟩) ∧ Go.RowKit.Below w.heap.size w w' :=
  Any.strings_Trim_laid Tryz.trimI (by kernel_rfl) s cutset w hs hcs hascii
end Go.Proofs
/-
  append(b, s...): a string's bytes onto a slice of bytes that is owned.
-/
namespace Go.Proofs.YtflcdnmhgfhmdaaGreatDoor.lib
open Go Go.RowKit

theorem strCells_str (bs : List UInt8) : Lib.strCells (str bs) = bs.map bv := by simp [Lib.strCells, str, bv]
theorem str_size (bs : List UInt8) : (str bs).size = bs.length := by simp [str, ByteArray.size]
section
variable {P : Program} {w : World} {t u e : TypeId}
theorem run_append_str (T : SliceTy P t e (.int .u8 0) 1 1) (hu : P.underlying u = some .string) (ty : TypeId) (v : Value) (n : Nat) (xs : List Value) (S : List Nat) (hS : v.ownBlock.toList = S) (hown : w.ownsRow 0 e 1 v n xs)
    (bs : List UInt8) (hb : n + bs.length ≤ 140737488355328) (h63 : n + bs.length ≤ maxLen) :
    ∃ ao' cap' w', (Builtin.append_ #[t, u] ty #[v, .string (str bs)]).run P w = .ok (.slice ao' (n + bs.length) cap') w' ∧ Appended w w' e 1 S ao' (n + bs.length) cap' (xs ++ bs.map bv) := by
  obtain ⟨ht, ⟨i, hi, hz, hsize, hby⟩, _, _⟩ := T
  subst hS
  rw [← str_size bs, ← strCells_str bs] at *
  generalize str bs = s at *
  have hsmall : n + s.size ≤ 9223372036854775807 := by simp only [maxLen] at h63; omega
  have hxl : xs.length = n := by simpa using hown.1
  have hlen : (xs ++ Lib.strCells s).length = (n + s.size) * 1 := by rw [List.length_append, hxl, Lib.strCells_length, Nat.mul_one]
  have grown : ∀ (old : Nat), old < n + s.size → ∀ (row : List Nat),
      Appended w (w.drew.alloc (.cells (xs.toArray ++ (Lib.strCells s).toArray ++ Builtin.zeroCells (Value.int .u8 0).cells (grownCap w (n + s.size) old e - (n + s.size))) e)) e 1 row
        (some ⟨w.heap.size, 0, none⟩) (n + s.size) (grownCap w (n + s.size) old e) (xs ++ Lib.strCells s) := by
    intro old ho row
    have hge := grownCap_ge w (n + s.size) old e
    have hcm : grownCap w (n + s.size) old e ≤ maxLen := grownCap_le_maxLen w (n + s.size) old e h63
    refine ⟨⟨hlen, .inr ⟨w.heap.size, _, _, rfl, Nat.zero_le _, heap_alloc_new w.drew _, hge, hcm, ?_, ?_⟩⟩, (Fr.drew1 row w).alloc _, fun x hx => by right; simpa [blk] using hx, hge, hcm, fun h => by cases h⟩
    · have hz1 : (Value.int IntKind.u8 0).cells.size = 1 := rfl
      simp only [Array.size_append, List.size_toArray, size_zeroCells, hz1, hxl, Lib.strCells_length]
      omega
    · simp only [Array.toList_append, List.append_assoc]
      rw [← List.append_assoc, ← hlen]
      exact List.take_left
  rcases hown.2 with ⟨rfl, rfl⟩ | ⟨g, cap, cur, rfl, hbg, hg, hnc, hcm, hcs, htake⟩
  · have hx : xs = [] := List.eq_nil_of_length_eq_zero hxl
    subst hx
    by_cases hm : s.size = 0
    · have hn : Lib.strCells s = [] := List.eq_nil_of_length_eq_zero (by rw [Lib.strCells_length]; exact hm)
      refine ⟨none, 0, w, ?_, by rw [hm, hn]; exact World.ownsRow_nil w 0 e 1, Fr.refl _ _, by simp [blk], by omega, Nat.zero_le _, fun _ => rfl⟩
      have hf := Lib.run_firstCells_string (P := P) w 1 s
      rw [hm] at hf
      simp [Builtin.append_, run_underlying ht, run_underlying hu, sizeOf, typeInfo, hi, hsize, Builtin.lenOf, hm, hf]
    · have hr := run_append_nil_string (P := P) w t u ty e i (.int .u8 0) ht hu hi hz s (by omega) (by omega) (by rw [hby]; omega)
      have hgr := grown 0 (by omega) (Value.ownBlock (.slice none 0 0)).toList
      simp only [Nat.zero_add, List.nil_append, Array.empty_append] at hgr ⊢
      have e1 : (s.data.map fun b => Value.int .u8 b.toNat) = (Lib.strCells s).toArray := by
        apply Array.ext'
        simp [Lib.strCells]
      rw [e1] at hr
      exact ⟨_, _, _, hr, hgr⟩
  · by_cases hroom : n + s.size ≤ cap
    · have hcs' : cur.size = cap := by simpa using hcs
      have hr := Lib.run_append_room_string (P := P) w t u ty e i ht hu hi hsize g n cap cur hg s hroom (by omega)
      refine ⟨_, _, _, hr, ⟨hlen, .inr ⟨g, cap, _, rfl, hbg, setRow_heap w g cur _ e _ hg, hroom, hcm, ?_, ?_⟩⟩, ⟨rfl, rfl, rfl, by simp, fun k _ hk => setRow_other w g k _ (fun e => hk (by simp [Value.ownBlock, e]))⟩, fun x hx => .inl (by simpa [blk, Value.ownBlock] using hx), hroom, hcm, fun h => by cases h⟩
      · simp only [List.size_toArray, List.length_append, List.length_take, List.length_drop, Array.length_toList, Lib.strCells_length]
        omega
      · have ht' : cur.toList.take n = xs := by simpa using htake
        rw [ht', ← hlen]
        exact List.take_left
    · have holds : ∀ j u, xs[j]? = some u → w.cell? ((⟨g, 0, none⟩ : Addr).add j) = some u := hown.cells (g := g) rfl
      have hr := Lib.run_append_grow_string (P := P) w t u ty e i (.int .u8 0) ht hu hi hz ⟨g, 0, none⟩ n cap xs (by rw [hsize]; simpa using hxl) holds s (by omega) (by omega) (by rw [hby]; exact growslice_fits (by omega) (by omega))
      exact ⟨_, _, _, hr, grown cap (by omega) _⟩
theorem wp_append_str (T : SliceTy P t e (.int .u8 0) 1 1) (hu : P.underlying u = some .string) {o : Oper} {a : Act} {K : Act → World → Prop} {Q : Exit → Act → World → Prop} (s x : Operand)
    (ho : o.op = .call { callee := .builtin .append, args := #[s, x], argTypes := #[t, u] })
    (v : Value) (n : Nat) (xs : List Value) (S : List Nat) (hs : a.eval s = v) (hS : v.ownBlock.toList = S) (hown : w.ownsRow 0 e 1 v n xs)
    (bs : List UInt8) (hx : a.eval x = .string (str bs)) (hb : n + bs.length ≤ 140737488355328) (h63 : n + bs.length ≤ maxLen)
    (h : ∀ ao' cap' w', Appended w w' e 1 S ao' (n + bs.length) cap' (xs ++ bs.map bv) → K (a.put o.dst (.slice ao' (n + bs.length) cap')) w') : o.wp P a w K Q := by
  obtain ⟨ao', cap', w', hr, h2⟩ := run_append_str (P := P) T hu o.type v n xs S hS hown bs hb h63
  unfold Oper.wp execOp
  simp only [ho, resolve, invoke, builtin, Sem.run_bind, Sem.run_pure, Result.andThen_ok, List.map_toArray, List.map_cons, List.map_nil, hs, hx, hr]
  exact h ao' cap' w' h2
theorem wpList_append_str (T : SliceTy P t e (.int .u8 0) 1 1) (hu : P.underlying u = some .string) {ops : Array Oper} {rest : List Oper} {o : Oper} {a : Act} {Q : Exit → Act → World → Prop} (hgd : o.guard = none) (s x : Operand)
    (ho : o.op = .call { callee := .builtin .append, args := #[s, x], argTypes := #[t, u] })
    (v : Value) (n : Nat) (xs : List Value) (S : List Nat) (hs : a.eval s = v) (hS : v.ownBlock.toList = S) (hown : w.ownsRow 0 e 1 v n xs)
    (bs : List UInt8) (hx : a.eval x = .string (str bs)) (hb : n + bs.length ≤ 140737488355328) (h63 : n + bs.length ≤ maxLen)
    (h : ∀ ao' cap' w', Appended w w' e 1 S ao' (n + bs.length) cap' (xs ++ bs.map bv) → wpList P ops Q rest (a.put o.dst (.slice ao' (n + bs.length) cap')) w') : wpList P ops Q (o :: rest) a w :=
  wpList_plain hgd fun _ hK => wp_append_str T hu s x ho v n xs S hs hS hown bs hx hb h63 fun ao' cap' w' h2 => hK _ _ (h ao' cap' w' h2)
end
/-! ### Strings -/
section
variable {P : Program} {w : World} {ops : Array Oper} {rest : List Oper} {o : Oper} {a : Act} {Q : Exit → Act → World → Prop} {t : TypeId}
theorem str_extract (bs : List UInt8) (l h : Nat) : (str bs).extract l h = str ((bs.take h).drop l) := by
  apply ByteArray.ext
  simp only [ByteArray.data_extract, str]
  apply Array.ext'
  simp [List.extract_eq_take_drop, List.drop_take]
theorem str_append (a b : List UInt8) : str a ++ str b = str (a ++ b) := by
  apply ByteArray.ext
  simp [str, ByteArray.data_append]
end
end Go.Proofs.YtflcdnmhgfhmdaaGreatDoor.lib
