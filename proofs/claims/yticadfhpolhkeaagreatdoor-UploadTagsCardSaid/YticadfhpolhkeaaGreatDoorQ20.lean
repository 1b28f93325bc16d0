/-
  Texts of this proof, one behind the other: WordS, ScriptN, ObjP.
-/
import Derived.Test.YticadfhpolhkeaaGreatDoorQ19
import Derived.Shelf.Strconv.Atoi
import Derived.Shelf.Strconv.Itoa0
import Derived.Shelf.Strconv.Itoa1
import Derived.Shelf.Strconv.Itoa2
import Derived.Shelf.Strconv.Itoa3
import Derived.Shelf.Slices.Turned
import Derived.Shelf.Strings.SlTrimAscii
set_option maxHeartbeats 16000000
set_option maxRecDepth 100000
set_option linter.unusedVariables false
set_option linter.unusedSimpArgs false
namespace Go.Proofs
open Go.Shelf
def Tryz.lays171_ren:Go.Shelf.Ren:=⟨fun|171=>55|243=>103|246=>162|283=>212|284=>213|285=>214|286=>215|129=>226|317=>266|318=>267|319=>268|320=>269|337=>317|338=>318|n=>n,fun|3=>3|9=>9|2=>2|4=>4|171=>328|0=>0|53=>204|37=>35|5=>5|173=>111|212=>384|51=>202|20=>20|213=>385|46=>185|232=>494|233=>495|n=>n,fun|17=>3|18=>4|19=>5|n=>n⟩
theorem Tryz.lays171:Go.Proofs.Lays.n171 Tryz.prog Tryz.lays171_ren:={
 mixed:=by kernel_rfl
 f129:=Tryz.func226.trans (congrArg some (by kernel_rfl))
 f171:=Tryz.func55.trans (congrArg some (by kernel_rfl))
 f243:=Tryz.func103.trans (congrArg some (by kernel_rfl))
 f246:=Tryz.func162.trans (congrArg some (by kernel_rfl))
 f283:=Tryz.func212.trans (congrArg some (by kernel_rfl))
 f284:=Tryz.func213.trans (congrArg some (by kernel_rfl))
 f285:=Tryz.func214.trans (congrArg some (by kernel_rfl))
 f286:=Tryz.func215.trans (congrArg some (by kernel_rfl))
 f317:=Tryz.func266.trans (congrArg some (by kernel_rfl))
 f318:=Tryz.func267.trans (congrArg some (by kernel_rfl))
 f319:=Tryz.func268.trans (congrArg some (by kernel_rfl))
 f320:=Tryz.func269.trans (congrArg some (by kernel_rfl))
 f337:=Tryz.func317.trans (congrArg some (by kernel_rfl))
 f338:=Tryz.func318.trans (congrArg some (by kernel_rfl))
 t0:=Tryz.underlying0
 a0:=Tryz.isAgg0
 z0:=Tryz.sizeOf0
 v0:=Tryz.zeroValue0
 t2:=Tryz.underlying2
 a2:=Tryz.isAgg2
 z2:=Tryz.sizeOf2
 v2:=Tryz.zeroValue2
 t3:=Tryz.underlying3
 a3:=Tryz.isAgg3
 z3:=Tryz.sizeOf3
 v3:=Tryz.zeroValue3
 t4:=Tryz.underlying4
 a4:=Tryz.isAgg4
 z4:=Tryz.sizeOf4
 v4:=Tryz.zeroValue4
 t5:=Tryz.underlying5
 a5:=Tryz.isAgg5
 z5:=Tryz.sizeOf5
 v5:=Tryz.zeroValue5
 t9:=Tryz.underlying9
 a9:=Tryz.isAgg9
 z9:=Tryz.sizeOf9
 v9:=Tryz.zeroValue9
 t20:=Tryz.underlying20
 a20:=Tryz.isAgg20
 z20:=Tryz.sizeOf20
 v20:=Tryz.zeroValue20
 t37:=Tryz.underlying35
 a37:=Tryz.isAgg35
 z37:=Tryz.sizeOf35
 v37:=Tryz.zeroValue35
 t46:=Tryz.underlying185
 a46:=Tryz.isAgg185
 z46:=Tryz.sizeOf185
 v46:=Tryz.zeroValue185
 t51:=Tryz.underlying202
 a51:=Tryz.isAgg202
 z51:=Tryz.sizeOf202
 v51:=Tryz.zeroValue202
 t53:=Tryz.underlying204
 a53:=Tryz.isAgg204
 z53:=Tryz.sizeOf204
 v53:=Tryz.zeroValue204
 t171:=Tryz.underlying328
 a171:=Tryz.isAgg328
 z171:=Tryz.sizeOf328
 v171:=Tryz.zeroValue328
 t173:=Tryz.underlying111
 a173:=Tryz.isAgg111
 z173:=Tryz.sizeOf111
 v173:=Tryz.zeroValue111
 t212:=Tryz.underlying384
 a212:=Tryz.isAgg384
 z212:=Tryz.sizeOf384
 v212:=Tryz.zeroValue384
 t213:=Tryz.underlying385
 a213:=Tryz.isAgg385
 z213:=Tryz.sizeOf385
 t232:=Tryz.underlying494
 a232:=Tryz.isAgg494
 z232:=Tryz.sizeOf494
 v232:=Tryz.zeroValue494
 t233:=Tryz.underlying495
 a233:=Tryz.isAgg495
 z233:=Tryz.sizeOf495
 v233:=Tryz.zeroValue495
 g17:=by kernel_rfl
 g18:=by kernel_rfl
 g19:=by kernel_rfl }
open Go.RowKit Go.Sort Go.Lib in
theorem Tryz.strconv_Itoa_small (i:Nat) (hi:i<100) (w:World) :
  Calls Tryz.prog 55 #[.int .i64 i] w λe w'=>e = .returned (.string ⟨(Lib.decDigits i).toArray⟩)/\w'=w:=Any.strconv_Itoa_small Tryz.lays171 i hi w
def Tryz.lays110_ren:Go.Shelf.Ren:=⟨fun|110=>52|109=>98|n=>n,fun|31=>43|9=>9|4=>4|3=>3|0=>0|n=>n,fun|n=>n⟩
theorem Tryz.lays110:Go.Proofs.Lays.n110 Tryz.prog Tryz.lays110_ren:={
 mixed:=by kernel_rfl
 f109:=Tryz.func98.trans (congrArg some (by kernel_rfl))
 f110:=Tryz.func52.trans (congrArg some (by kernel_rfl))
 t0:=Tryz.underlying0
 a0:=Tryz.isAgg0
 z0:=Tryz.sizeOf0
 v0:=Tryz.zeroValue0
 t3:=Tryz.underlying3
 a3:=Tryz.isAgg3
 z3:=Tryz.sizeOf3
 v3:=Tryz.zeroValue3
 t4:=Tryz.underlying4
 a4:=Tryz.isAgg4
 z4:=Tryz.sizeOf4
 v4:=Tryz.zeroValue4
 t9:=Tryz.underlying9
 a9:=Tryz.isAgg9
 z9:=Tryz.sizeOf9
 v9:=Tryz.zeroValue9
 t31:=Tryz.underlying43
 a31:=Tryz.isAgg43
 z31:=Tryz.sizeOf43
 v31:=Tryz.zeroValue43 }
open Go.Lib in
theorem Tryz.slices_Contains_string (b off n c:Nat) (zs:List ByteArray) (x:ByteArray) (w:World) (hz:n<=zs.length) (nQ:n<=9223372036854775807) (hc:∀j,j<zs.length->w.cell? ⟨b,off+j,none⟩=some (.string (zs.getD j ByteArray.empty))) :
  Calls Tryz.prog 52 #[.slice (some ⟨b,off,none⟩) n c,.string x] w λe w'=>e = .returned (.bool (Lib.containsS (zs.take n) x))/\w'=w:=Any.slices_Contains_string Tryz.lays110 b off n c zs x w hz nQ hc
open Go.Lib in
theorem Tryz.slices_Contains_string_empty (a:Option Addr) (c:Nat) (x:ByteArray) (w:World) :
  Calls Tryz.prog 52 #[.slice a 0 c,.string x] w λe w'=>e = .returned (.bool false)/\w'=w:=Any.slices_Contains_string_empty Tryz.lays110 a c x w
def Tryz.trimI_ren:Go.Shelf.Ren:=⟨fun|160=>230|232=>278|231=>277|227=>279|234=>281|233=>280|236=>283|235=>282|228=>321|271=>322|151=>47|197=>205|120=>350|152=>94|260=>259|137=>150|119=>151|224=>152|225=>153|217=>203|266=>258|n=>n,fun|9=>9|4=>4|3=>3|5=>5|117=>396|116=>395|0=>0|124=>399|21=>21|105=>321|46=>185|119=>181|139=>184|138=>183|n=>n,fun|3=>0|4=>1|n=>n⟩
theorem Tryz.trimI:Go.Proofs.Lays.n160 Tryz.prog Tryz.trimI_ren:={
 mixed:=by kernel_rfl
 f119:=Tryz.func151.trans (congrArg some (by kernel_rfl))
 f120:=Tryz.func350.trans (congrArg some (by kernel_rfl))
 f137:=Tryz.func150.trans (congrArg some (by kernel_rfl))
 f151:=Tryz.func47.trans (congrArg some (by kernel_rfl))
 f152:=Tryz.func94.trans (congrArg some (by kernel_rfl))
 f160:=Tryz.func230.trans (congrArg some (by kernel_rfl))
 f197:=Tryz.func205.trans (congrArg some (by kernel_rfl))
 f217:=Tryz.func203.trans (congrArg some (by kernel_rfl))
 f224:=Tryz.func152.trans (congrArg some (by kernel_rfl))
 f225:=Tryz.func153.trans (congrArg some (by kernel_rfl))
 f227:=Tryz.func279.trans (congrArg some (by kernel_rfl))
 f228:=Tryz.func321.trans (congrArg some (by kernel_rfl))
 f231:=Tryz.func277.trans (congrArg some (by kernel_rfl))
 f232:=Tryz.func278.trans (congrArg some (by kernel_rfl))
 f233:=Tryz.func280.trans (congrArg some (by kernel_rfl))
 f234:=Tryz.func281.trans (congrArg some (by kernel_rfl))
 f235:=Tryz.func282.trans (congrArg some (by kernel_rfl))
 f236:=Tryz.func283.trans (congrArg some (by kernel_rfl))
 f260:=Tryz.func259.trans (congrArg some (by kernel_rfl))
 f266:=Tryz.func258.trans (congrArg some (by kernel_rfl))
 f271:=Tryz.func322.trans (congrArg some (by kernel_rfl))
 t0:=Tryz.underlying0
 a0:=Tryz.isAgg0
 z0:=Tryz.sizeOf0
 v0:=Tryz.zeroValue0
 t3:=Tryz.underlying3
 a3:=Tryz.isAgg3
 z3:=Tryz.sizeOf3
 v3:=Tryz.zeroValue3
 t4:=Tryz.underlying4
 a4:=Tryz.isAgg4
 z4:=Tryz.sizeOf4
 v4:=Tryz.zeroValue4
 t5:=Tryz.underlying5
 a5:=Tryz.isAgg5
 z5:=Tryz.sizeOf5
 v5:=Tryz.zeroValue5
 t9:=Tryz.underlying9
 a9:=Tryz.isAgg9
 z9:=Tryz.sizeOf9
 v9:=Tryz.zeroValue9
 t21:=Tryz.underlying21
 a21:=Tryz.isAgg21
 z21:=Tryz.sizeOf21
 v21:=Tryz.zeroValue21
 t46:=Tryz.underlying185
 a46:=Tryz.isAgg185
 z46:=Tryz.sizeOf185
 v46:=Tryz.zeroValue185
 t105:=Tryz.underlying321
 a105:=Tryz.isAgg321
 z105:=Tryz.sizeOf321
 v105:=Tryz.zeroValue321
 t116:=Tryz.underlying395
 a116:=Tryz.isAgg395
 z116:=Tryz.sizeOf395
 t117:=Tryz.underlying396
 a117:=Tryz.isAgg396
 z117:=Tryz.sizeOf396
 v117:=Tryz.zeroValue396
 t119:=Tryz.underlying181
 a119:=Tryz.isAgg181
 z119:=Tryz.sizeOf181
 t124:=Tryz.underlying399
 a124:=Tryz.isAgg399
 z124:=Tryz.sizeOf399
 v124:=Tryz.zeroValue399
 t138:=Tryz.underlying183
 a138:=Tryz.isAgg183
 z138:=Tryz.sizeOf183
 v138:=Tryz.zeroValue183
 t139:=Tryz.underlying184
 a139:=Tryz.isAgg184
 z139:=Tryz.sizeOf184
 v139:=Tryz.zeroValue184
 g3:=by kernel_rfl
 g4:=by kernel_rfl }
theorem Tryz.strings_Trim_i (s pA:ByteArray) (w:World) (hs:s.size<=9223372036854775807) (hcs:pA.size<4294967281) (Gx:∀(j:Nat) b,pA.data.toList[j]?=some b->b.toNat<128) :
  Calls Tryz.prog 230 #[.string s,.string pA] w λe w'=>e = .returned (.string ⟨(Lib.trimS s.data.toList pA.data.toList).toArray⟩)/\Go.RowKit.Below w.heap.size w w':=
 Any.strings_Trim_laid Tryz.trimI (by kernel_rfl) s pA w hs hcs Gx
end Go.Proofs
namespace Go.Proofs.YticadfhpolhkeaaGreatDoor
namespace wd
open Go Go.RowKit lib
set_option maxRecDepth 100000
theorem zh7 (s:LB) (hs:s.length<=400) (w:World):Calls Tryz.prog 230 #[.string (str s),.string ⟨#[48,49,50,51,52,53,54,55,56,57]⟩] w λe w'=>e = .returned (.string (str (Lib.trimS s jn)))/\Fr [] w w':=by
 refine (Tryz.strings_Trim_i (str s) ⟨#[48,49,50,51,52,53,54,55,56,57]⟩ w (by rw[aj];omega) (by decide) (λj b hb=>?_)).mono ?_
 ·have:b∈jn:=j5 hb;simp only[jn,eX,List.mem_nil_iff,or_false]at this;rcases this with rfl|rfl|rfl|rfl|rfl|rfl|rfl|rfl|rfl|rfl<;>decide
 ·rintro e w' ⟨rfl,h⟩;exact⟨rfl,Fr.oL h []⟩
end wd
namespace ob
open Go Go.RowKit lib fs
set_option maxRecDepth 100000
theorem Ox (bs:LB) (j:Nat) (h2:j<=bs.length) (w:World):(Instr.slice 9 (.string (str bs)) none (some (.int .i64 j)) none).run Tryz.prog w = .ok (.string (str (bs.take j))) w:=by rw[run_slice_string_h w 9 (str bs) Tryz.underlying9 .i64 j (by omega) (by rw[aj];omega)];have:=IW bs 0 j;simp only[nE]at this;simp[this]
theorem zh9 (bs:LB) (i j:Nat) (h1:i<=j) (h2:j<=bs.length) (w:World) :
  (Instr.slice 9 (.string (str bs)) (some (.int .i64 i)) (some (.int .i64 j)) none).run Tryz.prog w = .ok (.string (str ((bs.take j).drop i))) w:=by
 rw[run_slice_string w 9 (str bs) .i64 .i64 i j Tryz.underlying9 (by omega) (by omega) (by rw[aj];omega),<-IW];simp
structure WD (s bad:LB):Prop where
 len:s.length<=17
 low:∀c∈s,c.toNat<128
 no:Lib.containsAny s bad=false
theorem Pa {s bad:LB} (h:WD s bad) (hb:bad.length<=9/\∀c∈bad,c.toNat<128) (w:World):Calls Tryz.prog 173 #[.string (str s),.string (str bad)] w λe w'=>e = .returned (.bool true)/\Fr [] w w':=by
 have hv:=λw=>Um s h.low h.len w
 have hc:=λw=>Tryz.strings_ContainsAny (str s) (str bad) w (by rw[aj];have:=h.len;omega) (by rw[aj];omega) (λj b hj=>h.low b (j5 hj)) (λj b hj=>hb.2 b (j5 hj))
 rw[show Lib.containsAny (str s).data.toList (str bad).data.toList=false from h.no]at hc;have H:=ai hv hc;clear hv hc h hb;go_enter Tryz.func173,Tryz.ntmps173;go_wp2_with (first
  | (go_at_call 46;refine (H.o0 _).mono ?_;rintro e w1 ⟨rfl,f1⟩;have H1:=af f1;clear f1)
  | (go_at_call 231;refine (H.l1 _).mono ?_;rintro e w2 ⟨rfl,f2⟩;have H2:=af (Fr.oL f2 []);clear f2))
 go_ret;exact⟨rfl,H1.out.trans H2.out⟩
def N5:List UInt8:=[60,62,10,0]
def Bs (a b:LB) (x:UInt8):List UInt8:=a++32::60::(b++62::32::x::[32,43,48,48,48,48])
theorem qku (c:UInt8) (s t:LB) (h:∀x∈s,x≠c):Lib.indexByte (s++c::t) c=s.length:=by
 induction s with
 | nil=>simp[Lib.indexByte]
 | cons b l ih=>have hb:b≠c:=h b (by simp);rw[uo,Lib.indexByte,ih (λx hx=>h x (oH _ hx))];simp[hb]
theorem qyv (d:Nat) (h:d<=9):Lib.trimS [(48+d).toUInt8,48,48,48,48] wd.jn=[]:=by
 match d,h with
 | 0,_|1,_|2,_|3,_|4,_|5,_|6,_|7,_|8,_|9,_=>decide
theorem qq3 (a b:LB) (d:Nat) (hd:d<=9) (ha:WD a N5) (hb:WD b N5) (h1:∀c∈a,c≠60) (h2:∀c∈b,c≠62) (w:World):Calls Tryz.prog 172 #[.string (str (Bs a b (48+d).toUInt8))] w λe w'=>e = .returned (.bool true)/\Fr [] w w':=by
 obtain⟨x,UM⟩:=ah ((48+d).toUInt8);have Fx:Lib.trimS (x::[48,48,48,48]) wd.jn=[]:=by rw[UM];exact qyv d hd
 rw[<-UM];have lA:=ha.len;have lB:=hb.len;obtain⟨S2,vt⟩:=ah (32::x::[32,43,48,48,48,48]);obtain⟨S1,wG⟩:=ah (b++62::S2);obtain⟨S,hS⟩:=ah (a++32::60::S1);rw[show Bs a b x=S by rw[hS,wG,vt];rfl];have l2:S2.length=8:=by rw[vt];rfl
 have l1:S1.length=b.length+9:=by rw[wG];simp[l2]
 have l0:S.length=a.length+b.length+11:=by rw[hS];simp[l1];omega
 have i0:∀w,Calls Tryz.prog 150 #[.string (str S),.int .u8 60] w λe w'=>e = .returned (.int .i64 ((a.length+1:Nat):Int))/\w'=w:=λw=>by
  have k:=Tryz.strings_IndexByte (str S) 60 w;rw[show Lib.indexByte (str S).data.toList (60:Int).toNat.toUInt8=((a.length+1:Nat):Int) by
   have:=qku 60 (a++[32]) S1 (by intro c hc;rcases jo.1 hc with h|h;exact h1 c h;rw[eF.1 h];decide)
   rw[show (a++[32])++60::S1=S by rw[hS];simp]at this
   rw[show (str S).data.toList=S from rfl,show (60:Int).toNat.toUInt8=60 from rfl,this]
   simp]at k
  exact k
 have i1:∀w,Calls Tryz.prog 150 #[.string (str S1),.int .u8 62] w λe w'=>e = .returned (.int .i64 ((b.length:Nat):Int))/\w'=w:=λw=>by
  have k:=Tryz.strings_IndexByte (str S1) 62 w;rw[show Lib.indexByte (str S1).data.toList (62:Int).toNat.toUInt8=((b.length:Nat):Int) by
   rw[show (str S1).data.toList=S1 from rfl,show (62:Int).toNat.toUInt8=62 from rfl,wG]
   exact qku 62 b S2 h2]at k
  exact k
 obtain⟨I,hI⟩:=ah (a.length+1);obtain⟨J,hJ⟩:=ah b.length;have x0:∀w:World,(Instr.index 9 (.string (str S)) (.int .i64 ((I:Int)-1))).run Tryz.prog w = .ok (.int .u8 32) w:=λw=>by have:=Go.Proofs.YticadfhpolhkeaaGreatDoor.crc.BH S (i:=a.length) (by omega) w;rw[show (I:Int)-1=((a.length:Nat):Int) by omega,this];simp[hS]
 have s0:∀w:World,(Instr.slice 9 (.string (str S)) none (some (.int .i64 ((I:Int)-1))) none).run Tryz.prog w = .ok (.string (str a)) w:=λw=>by rw[show (I:Int)-1=((a.length:Nat):Int) by omega,Ox S a.length (by omega) w,hS];simp
 have s1:∀w:World,(Instr.slice 9 (.string (str S)) (some (.int .i64 ((I:Int)+1))) none none).run Tryz.prog w = .ok (.string (str S1)) w:=λw=>by rw[show (I:Int)+1=((a.length+2:Nat):Int) by omega,xJ S (a.length+2) (by omega) w,hS];simp
 have s2:∀w:World,(Instr.slice 9 (.string (str S1)) none (some (.int .i64 J)) none).run Tryz.prog w = .ok (.string (str b)) w:=λw=>by rw[Ox S1 J (by omega) w,wG,hJ];simp
 have s3:∀w:World,(Instr.slice 9 (.string (str S1)) (some (.int .i64 ((J:Int)+1))) none none).run Tryz.prog w = .ok (.string (str S2)) w:=λw=>by rw[show (J:Int)+1=((b.length+1:Nat):Int) by omega,xJ S1 (b.length+1) (by omega) w,wG];simp
 have xx:∀(i:Nat) (hi:i<8) (w:World),(Instr.index 9 (.string (str S2)) (.int .i64 (i:Nat))).run Tryz.prog w = .ok (.int .u8 (((S2[i]'(by omega)).toNat:Nat):Int)) w:=λi hi w=>Go.Proofs.YticadfhpolhkeaaGreatDoor.crc.BH S2 (i:=i) (by omega) w
 have y0:∀w:World,(Instr.index 9 (.string (str S2)) (.int .i64 0)).run Tryz.prog w = .ok (.int .u8 32) w:=λw=>by have:=xx 0 (by decide) w;simpa[vt] using this
 have y2:∀w:World,(Instr.index 9 (.string (str S2)) (.int .i64 2)).run Tryz.prog w = .ok (.int .u8 32) w:=λw=>by have:=xx 2 (by decide) w;simpa[vt] using this
 have y3:∀w:World,(Instr.index 9 (.string (str S2)) (.int .i64 3)).run Tryz.prog w = .ok (.int .u8 43) w:=λw=>by have:=xx 3 (by decide) w;simpa[vt] using this
 have s4:∀w:World,(Instr.slice 9 (.string (str S2)) (some (.int .i64 1)) (some (.int .i64 2)) none).run Tryz.prog w = .ok (.string (str [x])) w:=λw=>by have:=zh9 S2 1 2 (by decide) (by omega) w;simpa[vt] using this
 have s5:∀w:World,(Instr.slice 9 (.string (str S2)) (some (.int .i64 4)) none none).run Tryz.prog w = .ok (.string (str [48,48,48,48])) w:=λw=>by have:=xJ S2 4 (by omega) w;simpa[vt] using this
 have e5:str [x]++str [48,48,48,48]=str (x::[48,48,48,48]):=gH [x] [48,48,48,48];have t0:=λw=>wd.zh7 (x::[48,48,48,48]) (by simp) w
 rw[Fx,<-e5]at t0;have u0:∀w:World,(Instr.index 9 (.string (str [x])) (.int .i64 0)).run Tryz.prog w = .ok (.int .u8 (x.toNat:Nat)) w:=λw=>Go.Proofs.YticadfhpolhkeaaGreatDoor.crc.BH [x] (i:=0) (by simp) w
 have v0:(str [x]).toList=[x]:=ay _;have q0:(str ([]:LB)).toList.isEmpty=true:=by rw[ay];rfl
 have tA:∀w,Calls Tryz.prog 173 #[.string (str a),.string ⟨#[60,62,10,0]⟩] w λe w'=>e = .returned (.bool true)/\Fr [] w w':=λw=>Pa ha (by decide) w
 have tB:∀w,Calls Tryz.prog 173 #[.string (str b),.string ⟨#[60,62,10,0]⟩] w λe w'=>e = .returned (.bool true)/\Fr [] w w':=λw=>Pa hb (by decide) w
 have z2:(str S2).size=8:=by rw[aj,l2]
 have zx:(str [x]).size=1:=aj _;have z5:(str [48,48,48,48]).size=4:=aj _;rw[<-hI]at i0;rw[<-hJ]at i1;have hI1:1<=I/\I<=18:=by omega
 have hJ1:J<=17:=by omega
 have g2:decide ((I:Int)<1)=false:=by rw[decide_eq_false_iff_not];omega
 have g3:decide ((J:Int)<0)=false:=by rw[decide_eq_false_iff_not];omega
 obtain⟨p,hp⟩:=ah (str S);obtain⟨p1,qt⟩:=ah (str S1);obtain⟨p2,jk⟩:=ah (str S2);obtain⟨px,tD⟩:=ah (str [x]);obtain⟨p5,FM⟩:=ah (str [48,48,48,48]);rw[<-hp]at i0 x0 s0 s1 ⊢;rw[<-qt]at s1 i1 s2 s3;rw[<-jk]at s3 y0 y2 y3 s4 s5 z2;rw[<-tD]at s4 t0 u0 v0 zx;rw[<-FM]at s5 t0 z5;obtain⟨n,hn⟩:=ah x.toNat;rw[<-hn]at u0;have H:=aQ i0 i1 tA tB t0;have HX:=ai v0 hn;clear hp qt jk tD FM hn v0 i0 i1 tA tB t0 e5 hI hJ l0 l1 l2 hS wG vt Fx UM hd ha hb h1 h2 xx lA lB;by_cases h0:n=48
 ·have g1:(px.toList==[48])=true:=by rw[HX.o0];have:x=48:=C9.1 (by rw[<-HX.l1,h0];rfl);rw[this];rfl
  clear h0;go_enter Tryz.func172,Tryz.ntmps172;go_wp2_with (first
   | (go_at_call 150;(with_reducible refine (H.o0 _).mono ?_);rintro e w1 ⟨rfl,hw⟩;obtain rfl:=hw.symm)
   | (go_at_call 150;(with_reducible refine (H.o1 _).mono ?_);rintro e w1 ⟨rfl,hw⟩;obtain rfl:=hw.symm)
   | (go_at_call 173;(with_reducible refine (H.o2 _).mono ?_);rintro e w1 ⟨rfl,f1⟩;have H1:=af f1;clear f1)
   | (go_at_call 173;(with_reducible refine (H.o3 _).mono ?_);rintro e w2 ⟨rfl,f2⟩;have H2:=af f2;clear f2)
   | (go_at_call 230;(with_reducible refine (H.l4 _).mono ?_);rintro e w3 ⟨rfl,f3⟩;have H3:=af f3;clear f3))
  go_ret;exact⟨rfl,(H1.out.trans H2.out).trans H3.out⟩
 ·have g1:(px.toList==[48])=false:=by rw[HX.o0,beq_eq_false_iff_ne];intro e;exact h0 (by rw[HX.l1];cases e;first|rfl|done)
  have g4:(((n:Nat):Int)==48)=false:=by rw[beq_eq_false_iff_ne];omega
  have g5:(((n:Nat):Int)!=48)=true:=by rw[bne,g4];rfl
  clear h0;go_enter Tryz.func172,Tryz.ntmps172;go_wp2_with (first
   | (go_at_call 150;(with_reducible refine (H.o0 _).mono ?_);rintro e w1 ⟨rfl,hw⟩;obtain rfl:=hw.symm)
   | (go_at_call 150;(with_reducible refine (H.o1 _).mono ?_);rintro e w1 ⟨rfl,hw⟩;obtain rfl:=hw.symm)
   | (go_at_call 173;(with_reducible refine (H.o2 _).mono ?_);rintro e w1 ⟨rfl,f1⟩;have H1:=af f1;clear f1)
   | (go_at_call 173;(with_reducible refine (H.o3 _).mono ?_);rintro e w2 ⟨rfl,f2⟩;have H2:=af f2;clear f2)
   | (go_at_call 230;(with_reducible refine (H.l4 _).mono ?_);rintro e w3 ⟨rfl,f3⟩;have H3:=af f3;clear f3))
  go_ret;exact⟨rfl,(H1.out.trans H2.out).trans H3.out⟩
end ob

end Go.Proofs.YticadfhpolhkeaaGreatDoor