/-
  Texts of this proof, one behind the other: Itoa, ObjId, LoHead, LoParse, LoFile, LoLaw3, LoRead, LoWrite.
-/
import Derived.Test.YticadfhpolhkeaaGreatDoorQ16
import Derived.Test.YticadfhpolhkeaaGreatDoorQ19
import Derived.Shelf.Strconv.Itoa3
import Derived.Laws.RangeAny
set_option maxHeartbeats 16000000
set_option maxRecDepth 100000
set_option linter.unusedVariables false
set_option linter.unusedSimpArgs false
namespace Go.Proofs
open Go.Shelf
def Tryz.laysM171_ren:Go.Shelf.Ren:=⟨fun|171=>55|243=>103|246=>162|283=>212|284=>213|285=>214|286=>215|129=>226|317=>266|318=>267|319=>268|320=>269|337=>317|338=>318|n=>n,fun|3=>3|9=>9|2=>2|4=>4|171=>328|0=>0|53=>204|37=>35|5=>5|173=>111|212=>384|51=>202|20=>20|213=>385|46=>185|232=>494|233=>495|n=>n,fun|17=>3|18=>4|19=>5|n=>n⟩
theorem Tryz.laysM171:Go.Proofs.LaysM.n171 Tryz.prog Tryz.laysM171_ren:={
 mixed:=by kernel_rfl
 f129:=Tryz.func226.trans (congrArg some (by kernel_rfl))
 f171:=Tryz.func55.trans (congrArg some (by kernel_rfl))
 f243:=Tryz.func103.trans (congrArg some (by kernel_rfl))
 f246:=Tryz.func162.trans (congrArg some (by kernel_rfl))
 f283:=Tryz.func212.trans (congrArg some (by kernel_rfl))
 f284:=Tryz.func213.trans (congrArg some (by kernel_rfl))
 f285:=Tryz.func214.trans (congrArg some (by kernel_rfl))
 f286:=Tryz.func215.trans (congrArg some (by kernel_rfl))
 f317:=Tryz.func266.trans (congrArg some (by kernel_rfl))
 f318:=Tryz.func267.trans (congrArg some (by kernel_rfl))
 f319:=Tryz.func268.trans (congrArg some (by kernel_rfl))
 f320:=Tryz.func269.trans (congrArg some (by kernel_rfl))
 f337:=Tryz.func317.trans (congrArg some (by kernel_rfl))
 f338:=Tryz.func318.trans (congrArg some (by kernel_rfl))
 t0:=Tryz.underlying0
 a0:=Tryz.isAgg0
 z0:=Tryz.sizeOf0
 v0:=Tryz.zeroValue0
 t2:=Tryz.underlying2
 a2:=Tryz.isAgg2
 z2:=Tryz.sizeOf2
 v2:=Tryz.zeroValue2
 t3:=Tryz.underlying3
 a3:=Tryz.isAgg3
 z3:=Tryz.sizeOf3
 v3:=Tryz.zeroValue3
 t4:=Tryz.underlying4
 a4:=Tryz.isAgg4
 z4:=Tryz.sizeOf4
 v4:=Tryz.zeroValue4
 t5:=Tryz.underlying5
 a5:=Tryz.isAgg5
 z5:=Tryz.sizeOf5
 v5:=Tryz.zeroValue5
 t9:=Tryz.underlying9
 a9:=Tryz.isAgg9
 z9:=Tryz.sizeOf9
 v9:=Tryz.zeroValue9
 t20:=Tryz.underlying20
 a20:=Tryz.isAgg20
 z20:=Tryz.sizeOf20
 v20:=Tryz.zeroValue20
 t37:=Tryz.underlying35
 a37:=Tryz.isAgg35
 z37:=Tryz.sizeOf35
 v37:=Tryz.zeroValue35
 t46:=Tryz.underlying185
 a46:=Tryz.isAgg185
 z46:=Tryz.sizeOf185
 v46:=Tryz.zeroValue185
 t51:=Tryz.underlying202
 a51:=Tryz.isAgg202
 z51:=Tryz.sizeOf202
 v51:=Tryz.zeroValue202
 t53:=Tryz.underlying204
 a53:=Tryz.isAgg204
 z53:=Tryz.sizeOf204
 v53:=Tryz.zeroValue204
 t171:=Tryz.underlying328
 a171:=Tryz.isAgg328
 z171:=Tryz.sizeOf328
 v171:=Tryz.zeroValue328
 t173:=Tryz.underlying111
 a173:=Tryz.isAgg111
 z173:=Tryz.sizeOf111
 v173:=Tryz.zeroValue111
 t212:=Tryz.underlying384
 a212:=Tryz.isAgg384
 z212:=Tryz.sizeOf384
 v212:=Tryz.zeroValue384
 t213:=Tryz.underlying385
 a213:=Tryz.isAgg385
 z213:=Tryz.sizeOf385
 t232:=Tryz.underlying494
 a232:=Tryz.isAgg494
 z232:=Tryz.sizeOf494
 v232:=Tryz.zeroValue494
 t233:=Tryz.underlying495
 a233:=Tryz.isAgg495
 z233:=Tryz.sizeOf495
 v233:=Tryz.zeroValue495
 g17:=by kernel_rfl
 g18:=by kernel_rfl
 g19:=by kernel_rfl
 i0:=by kernel_rfl
 i2:=by kernel_rfl
 i3:=by kernel_rfl
 i4:=by kernel_rfl
 i5:=by kernel_rfl
 i9:=by kernel_rfl
 i20:=by kernel_rfl
 i37:=by kernel_rfl
 i46:=by kernel_rfl
 i51:=by kernel_rfl
 i53:=by kernel_rfl
 i171:=by kernel_rfl
 i173:=by kernel_rfl
 i212:=by kernel_rfl
 i232:=by kernel_rfl
 i233:=by kernel_rfl
 m17:=by kernel_rfl
 m18:=by kernel_rfl
 m19:=by kernel_rfl }
open Go.RowKit Go.Sort Go.Lib in
theorem Tryz.strconv_Itoa (n:Int) (h0 : -9223372036854775808<=n) (h1:n<=9223372036854775807) (w:World) (US:Lib.TabIs Tryz.prog w "internal/strconv.uint64pow10" .u64 Lib.pow10Tab) :
  Calls Tryz.prog 55 #[.int .i64 n] w λe w'=>e = .returned (.string ⟨(Lib.itoa n).toArray⟩)/\∃k os,w'=grow (w.drewN k) os:=Any.strconv_Itoa Tryz.laysM171 n h0 h1 w US
end Go.Proofs
namespace Go.Proofs.YticadfhpolhkeaaGreatDoor
namespace obj
open Go Go.RowKit lib
def Pw (w:World):Prop:=Lib.TabIs Tryz.prog w "internal/strconv.uint64pow10" .u64 Lib.pow10Tab
theorem qzm:∃g,Tryz.prog.globalNamed "internal/strconv.uint64pow10" = some g:=Option.isSome_iff_exists.1 (by kernel_rfl)
theorem Pw.fr {w w':World} (h:Pw w) (f:Fr [] w w'):Pw w':=by
 obtain⟨g,hg⟩:=qzm;unfold Pw Lib.TabIs World.var? at h ⊢;rw[hg]at h ⊢;simp only[Option.bind_some]at h ⊢;have bF:g<w.heap.size:=by
  rcases kT g w.heap.size with h'|h'
  ·exact h'
  ·rw[J8 h']at h;cases h
 rw[f.block g bF (by simp)];exact h
theorem zhx (w:World) (k:Nat) (os:Array Obj):Fr [] w (Go.Sort.grow (w.drewN k) os):=
 ⟨rfl,rfl,rfl,by simp[Go.Sort.grow],λi hi _=>by simp only[Go.Sort.grow];exact Array.getElem?_append_left (show i<(w.drewN k).heap.size from hi)⟩
theorem Y2 (n:Nat) (h1:n<=140737488355328) (w:World) (h:Pw w):Calls Tryz.prog 55 #[.int .i64 n] w λe w'=>e = .returned (.string (str (Lib.decDigits n)))/\Fr [] w w':=
 (Go.Proofs.Tryz.strconv_Itoa (n:Int) (by omega) (by omega) w h).mono λe w' hh=>⟨by rw[hh.1];unfold str Lib.itoa;rw[if_neg (by omega)];rfl,by obtain⟨k,os,rfl⟩:=hh.2;exact zhx w k os⟩
def Od (w:World) (bs:LB) (e:Ending) (w':World):Prop:=
 ∃a c,e = .returned (.slice a bs.length c)/\lib.Rd w' a c bs/\(∀x∈ag a,w.heap.size<=x)/\Fr [] w w'
def Oc (w:World) (bs:LB) (e:Ending) (w':World):Prop:=
 ∃a c,e = .returned (.slice a bs.length c)/\iY w' 5 a c (bs.map bv)/\(∀x∈ag a,w.heap.size<=x)/\Fr [] w w'
theorem qoh (k:Int) (n:Nat) (w:World) (hn:n<=140737488355328) (hp:Pw w):Calls Tryz.prog 61 #[.int .i64 k,.int .i64 n] w (Oc w (header k n)):=by
 obtain⟨A,hA⟩:=ah (str (eT k));obtain⟨D,hD⟩:=ah (str (Lib.decDigits n));have gg:A.size<=6:=by have:=Pk k;rw[hA];simpa[str,ByteArray.size] using this
 have hDs:D.size<=16:=by
  have:=O5 16 n (by decide) (by
   have:10^16=10000000000000000:=by decide
   omega)
  have e:(str (Lib.decDigits n)).size=(Lib.decDigits n).length:=by simp[str,ByteArray.size]
  rw[hD,e];exact this
 have h1:=λw'=>Pp k w'
 have h2:=λw' h=>Y2 n hn w' h
 rw[<-hA]at h1;rw[<-hD]at h2;have fE:A++({ data:=#[32] }:ByteArray)++D++({ data:=#[0] }:ByteArray)=str (header k n):=by have e1:({ data:=#[32] }:ByteArray)=str [32]:=rfl;have e0:({ data:=#[0] }:ByteArray)=str [0]:=rfl;rw[e1,e0,hA,hD,gH,gH,gH];rfl
 have H:=aA h1 h2 fE hp;clear h1 h2 hA hD fE hp;go_enter Tryz.func61,Tryz.ntmps61;go_wp2_with (first
  | (go_at_call 23;refine (H.o0 _).mono ?_;rintro e w1 ⟨rfl,f1⟩;have HF:=af f1;clear f1)
  | (go_at_call 55;refine (H.o1 _ (H.l3.fr HF.out)).mono ?_;rintro e w2 ⟨rfl,f2⟩;have Rw:=af (HF.out.trans f2);clear f2)
  | (refine qss (n:Int) rfl _ _ _ rfl (n:Int) 0 rfl rfl (by split<;>omega) ?_)
  | (refine IY (e:=5) Tryz.underlying9 Tryz.underlying35 Tryz.underlying5 rfl _ rfl (header k n) (by rw[<-H.o2];rfl) (by have:=KH k n hn;unfold maxLen;omega) ?_;intro cap w3 zC Je f3 zr;have H3:=ai Je f3;clear Je f3))
 go_ret;exact⟨_,cap,rfl,H3.o0,λx hx=>by simp only[ag,eF]at hx;rw[hx];exact Rw.out.size,Rw.out.trans H3.l1⟩
theorem qoi (k:Int) (n:Nat) (w:World) (hn:n<=140737488355328) (hp:Pw w):Calls Tryz.prog 61 #[.int .i64 k,.int .i64 n] w (Od w (header k n)):=
 (qoh k n w hn hp).mono λ_ _ ⟨a,c,he,ho,hn,f⟩=>⟨a,c,he,ho.rd,hn,f⟩
theorem zhg (w:World):Calls Tryz.prog 59 #[.int .i64 1] w λe w'=>e = .returned (.tuple #[.pointer (some ⟨w.heap.size,0,none⟩),.int .i64 0])/\sha.Sh w' w.heap.size sha.h0 none 0 [] 0/\Fr [] w w':=by go_enter Tryz.func59,Tryz.ntmps59;go_wp2_with (go_at_call 113;refine (sha.zca _).mono ?_;rintro e w1 ⟨rfl,A1,f1⟩;have H1:=ai A1 f1;clear A1 f1);go_ret2;exact⟨rfl,H1.out⟩
theorem J1 (k:Int) (ao:OA) (cap:Nat) (bs:LB) (w:World) (h:lib.Rd w ao cap bs) (hl:bs.length<=140737488355200) (hp:Pw w) :
  Calls Tryz.prog 24 #[.int .i64 k,.slice ao bs.length cap] w λe w'=>e = .returned (.string (str (pk.aO k bs)))/\Fr [] w w':=by
 obtain⟨L,hL⟩:=ah bs.length;obtain⟨hd,pb⟩:=ah (header k L);have og:hd.length<=24:=by rw[pb];exact KH k L (by omega)
 have fk:pk.aO k bs=pk.mn (sha.wX (hd++bs)):=by rw[pb,hL];rfl
 rw[fk];have hh:=λw' eH=>qoi k L w' (by omega) eH
 rw[<-pb]at hh;rw[<-hL]at hl ⊢;have H:=aA h hL hh hp;clear h hL hh hp pb fk;go_enter Tryz.func24,Tryz.ntmps24;go_upto_region 2 with (go_at_call 59;refine (zhg _).mono ?_;rintro e w1 ⟨rfl,A1,f1⟩;have H1:=ai A1 f1;clear A1 f1);obtain⟨g,hg⟩:=ah w.heap.size;rw[<-hg]at H1 ⊢;have Jo:g<w1.heap.size:=by obtain⟨C,hC,_⟩:=H1.out.1.ag;exact lt_of_block hC
 have hW:∀w2 a2 c2,lib.Rd w2 a2 c2 hd->Fr [] w1 w2->(∀x∈ag a2,w1.heap.size<=x)->Calls Tryz.prog 60 #[.pointer (some ⟨g,0,none⟩),.slice a2 hd.length c2] w2 λe w'=>e = .returned (.tuple #[])/\Fr [g] w2 w'/\
   ∃qH qG,sha.Sh w' g (sha.blocks hd.length sha.h0 hd) qH qG (sha.leftOf hd.length hd) hd.length/\∀x∈lib.ag qH,w2.heap.size<=x:=λw2 a2 c2 r2 f2 n2=>by
  obtain⟨C,hC,s⟩:=H1.out.1.ag
  have:=sha.qqd g sha.h0 none 0 [] 0 c2 a2 hd w2 ⟨⟨C,f2.ag hC (by simp),s⟩,H1.out.1.own.fr f2 (by simp),by simp[lib.ag]⟩ r2 (λ_ x hx=>by have:=n2 x hx;omega) (by omega) (by simp;omega)
  simp only[sS,iN,lib.ag,mV,false_or]at this
  exact this
 have HW:=aq hW hg Jo;clear hW hg Jo;go_upto_region 3 with (first
  | (go_at_call 61;refine (H.o2 _ (H.l3.fr H1.out.2)).mono ?_;rintro e w2 ⟨a2,c2,rfl,r2,n2,f2⟩;have H2:=aq r2 f2 n2;clear r2 f2 n2)
  | (go_at_call 60;refine (HW.o0 _ a2 c2 H2.o0 H2.o1 H2.l2).mono ?_;rintro e w3 ⟨rfl,f3,ra3,rc3,A3,n3⟩;have H3:=aq f3 A3 n3;clear f3 A3 n3))
 obtain⟨f3,A3,n3⟩:=H3.out;have hg:=HW.o1;have Jo:=HW.l2;have NQ:Fr [] w w2:=H1.out.2.trans H2.o1;have Wa:Fr [] w w3:=NQ.step f3 (λy hy=>.inr (by simp at hy;omega));obtain⟨vM,Ci⟩:=ah (sha.leftOf hd.length hd);have AK:vM.length<64:=by rw[Ci];exact sha.S9 _ _ (ax _)
 rw[<-Ci]at A3;have hw:=sha.qqd g _ ra3 rc3 vM hd.length cap ao bs w3 A3 (H.o0.fr Wa) (λhb x hx=>by have:=Hy H.o0 hb x hx;omega) (by have:=H.o1;omega) (by have:=H.o1;omega);rw[<-H.o1]at hw;have H4:=aA hw Wa Ci n3;clear hw Wa Ci n3 f3 A3 H3 hg Jo;go_upto_region 4 with (go_at_call 60;refine H4.o0.mono ?_;rintro e w4 ⟨rfl,f4,ra4,rc4,A4,n4⟩;have H5:=aq f4 A4 n4;clear f4 A4 n4);obtain⟨f4,A4,n4⟩:=H5.out;have hg:=HW.o1;have Jo:=HW.l2;have GG:Fr [] w w4:=H4.o1.step f4 (λy hy=>.inr (by
  simp only[eX]at hy
  rcases hy with rfl|hy
  ·omega
  ·have:=(NQ).size
   have:=H4.l3 y hy
   omega))
 have hs:=sha.zgy _ _ _ _ _ _ w4 A4 (sha.S9 _ _ (ax _)) (sha.TC _ _ _ (sha.TC _ _ _ sha.zi3)) (by omega);rw[H4.o2,sha.zdh hd bs rfl (by rw[H.o1])]at hs;have H6:=ai hs GG;clear hs GG f4 A4 n4 H5 hg Jo;go_wp2_with (first
  | (go_at_call 63;refine H6.o0.mono ?_;rintro e w5 ⟨⟨a5,c5,rfl,r5⟩,f5⟩;have H7:=ai r5 f5;clear r5 f5)
  | (go_at_call 62;refine (pk.zhu a5 c5 _ w5 H7.o0 (by rw[sha.Ug];decide)).mono ?_;rintro e w6 ⟨rfl,f6⟩))
 go_ret;exact⟨rfl,(H6.l1.trans H7.l1).trans f6⟩
end obj
namespace lo
open Go Go.RowKit lib bm crc pk
variable {w w':World} {body r s y:LB} {k:Nat} {e:Ending}
set_option maxRecDepth 100000
def ie (w:World) (s:LB) (e:Ending) (w':World):Prop:=Fr [] w w'/\match kg s with
 | some (k,n)=>e = .returned (.tuple #[.int .i64 k,.int .i64 n,.bool true])
 | none=>∃x y:Int,e = .returned (.tuple #[.int .i64 x,.int .i64 y,.bool false])
theorem ie.good {n:Nat} (h:kg s=some (k,n)) (f:Fr [] w w'):ie w s (.returned (.tuple #[.int .i64 k,.int .i64 n,.bool true])) w':=⟨f,by rw[h]⟩
theorem ie.bad {x y:Int} (h:je s=none) (f:Fr [] w w') (he:e = .returned (.tuple #[.int .i64 x,.int .i64 y,.bool false])):ie w s e w':=⟨f,by rw[<-Zh,h];exact⟨x,y,he⟩⟩
theorem zd4 (w:World) (t:LB) (p:Nat) (hp:p<t.length) (h:(t[p]'hp).toNat<128) (ty:TypeId) :
  (Instr.next (.pointer (some ⟨w.heap.size,0,none⟩)) true ty).run Tryz.prog (w.iter (str t) p) = .ok (.tuple #[.bool true,.int .i64 p,.int .i32 (((t[p]'hp).toNat:Nat):Int)]) (w.iter (str t) (p+1)):=by
 have hs:p<(str t).size:=by rw[aj];exact hp
 have e:(str t)[p]'hs=t[p]'hp:=by show t.toArray[p]'(by simpa using hp)=t[p];rfl
 have:=run_next_ascii (P:=Tryz.prog) w (str t) p ty hs (by rw[e];exact h);rw[e]at this;exact this
theorem qz1 (w:World) (t:LB) (p:Nat) (hp:p<t.length) (h:128<=(t[p]'hp).toNat):∃(r q:Nat),128<=r/\r<=2147483647/\∀ty,(Instr.next (.pointer (some ⟨w.heap.size,0,none⟩)) true ty).run Tryz.prog (w.iter (str t) p) = .ok (.tuple #[.bool true,.int .i64 (p:Nat),.int .i32 (r:Nat)]) (w.iter (str t) q):=by
 have hs:p<(str t).size:=by rw[aj];exact hp
 have e:(str t)[p]'hs=t[p]'hp:=by show t.toArray[p]'(by simpa using hp)=t[p];rfl
 exact⟨_,_,(decode_high (str t) p hs (by rw[e];exact h)).1,decode_le (str t) p,λty=>run_next_any (P:=Tryz.prog) w (str t) p ty hs⟩
theorem zd5 (w:World) (t:LB) (p:Nat) (hp:¬p<t.length) (ty:TypeId) :
  (Instr.next (.pointer (some ⟨w.heap.size,0,none⟩)) true ty).run Tryz.prog (w.iter (str t) p) = .ok (.tuple #[.bool false]) (w.iter (str t) p):=
 run_next_end (P:=Tryz.prog) w (str t) p ty (by rw[aj];exact hp)
theorem zhn (w:World) (z:ByteArray) (p:Nat):Fr [] w (w.iter z p):=(Fr.refl [] w).alloc _
theorem zg6 (k:Nat):str (obj.eT k)++(⟨#[32]⟩:ByteArray)=str (pre k):=by unfold pre;rw[<-gH];rfl
theorem zg7 (k:Nat):(pre k).length<=7:=by have:=obj.Pk k;unfold pre;simp only[aG,dw,jK];omega
theorem qzd (c:UInt8) (t:LB) (i:Nat):scan (c::t) i=if c.toNat=0 then some (some i) else if c.toNat<48\/57<c.toNat then none else scan t (i+1):=by
 by_cases h:c=0
 ·subst h;rfl
 ·have h':c.toNat≠0:=λe=>h (C9.1 e)
  rw[scan,if_neg h,if_neg h']
theorem zew (a:OA) (cap:Nat) (s:LB) (w:World) (h:lib.Rd w a cap s) (hl:s.length<=100000000) (eH:obj.Pw w) :
  Calls Tryz.prog 437 #[.slice a s.length cap] w (ie w s):=by
 obtain⟨N,hN⟩:=ah s.length;have dI:=h.le;have dE:=h.max;unfold maxLen at dE;rw[<-hN]at hl dI ⊢;have H:=aq h hN eH;clear h hN eH;go_enter Tryz.func437,Tryz.ntmps437;go_upto_block 0 with fail;go_wp2;go_loopg [3,5] 4 (λk s3 s5 wr=>∃j:Nat,s3 = .int .i64 0/\s5 = .int .i64 (j:Nat)/\j+k=5/\1<=j/\(∀i,1<=i->i<j->(pre i).isPrefixOf s=false)/\Fr [] w wr);case atStart=>exact⟨1,rfl,rfl,rfl,ax _,λi h1 h2=>by omega,Fr.refl _ _⟩
 case round=>
  obtain⟨j,rfl,rfl,fP,Jm,mg,hf⟩:=hrel;have HJ:=ai mg hf;clear mg hf;by_cases hj:j<=4
  ·obtain⟨k,rfl⟩:∃k,gk=k+1:=⟨gk-1,by omega⟩;have jP:=λw'=>obj.Pp (j:Nat) w'
   have jq:=zg7 j;obtain⟨A,hA⟩:∃A,A=str (obj.eT (j:Nat)):=⟨_,rfl⟩;have gg:A.size<=6:=by have:=obj.Pk (j:Nat);rw[hA,aj];exact this
   rw[<-hA]at jP;obtain⟨B,hB⟩:=ah (str (pre j));have hAB:A++(⟨#[32]⟩:ByteArray)=B:=by rw[hA,hB];exact zg6 j
   obtain⟨l,Cl⟩:∃l,l=(pre j).length:=⟨_,rfl⟩;have hBs:B.size=l:=by rw[hB,aj,Cl]
   have tD:=λw'=>Tryz.strings_HasPrefix (str s) B w'
   have eB:B.data.toList=pre j:=by rw[hB];rfl
   have es:(str s).data.toList=s:=rfl;rw[eB,es]at tD;unfold Lib.hasPrefix at tD;rw[<-Cl]at jq;obtain⟨b,hb⟩:=ah ((pre j).isPrefixOf s);rw[<-hb]at tD;have HA:=aQ jP tD hb Cl hB;clear jP tD hb hA hB eB es Cl;go_upto_region 5 with (go_at_call 23;refine (HA.out.1 _).mono ?_;rintro e w1 ⟨rfl,f1⟩;have H1:=af f1;clear f1);clear hAB gg;have cv0:∀cap,(convert 35 9 (.slice a N cap)).run Tryz.prog w1 = .ok (.string (str s)) w1:=
    xX w1 Tryz.underlying35 Tryz.underlying5 Tryz.underlying9 H.o1.symm (H.o0.fr (HJ.l1.trans H1.out)).cs
   cases b with
   | false=>
    go_wp2_with (go_at_call 17;refine (HA.out.2.1 _).mono ?_;rintro e w2 ⟨rfl,hw⟩;obtain rfl:=hw.symm);go_roundg k;case measure=>omega
    case rel=>
     refine⟨j+1,rfl,by go_num,by omega,by omega,λi h1 h2=>?_,HJ.l1.trans H1.out⟩;by_cases oe:i=j
     ·rw[oe];exact HA.out.2.2.1.symm
     ·exact HJ.o0 i h1 (by omega)
   | true=>
    obtain⟨r,hr⟩:∃r,s=pre j++r:=by obtain⟨r,hr⟩:=Oz.1 HA.out.2.2.1.symm;exact⟨r,hr.symm⟩
    have kB:N=l+r.length:=by rw[H.o1,HA.out.2.2.2.1,hr,aG]
    have hdr:s.drop l=r:=by rw[HA.out.2.2.2.1,hr,List.drop_left' rfl]
    have hph:=hr;have Mk:je s=match scan r 0 with
      | some (some i)=>if obj.header j (N-(l+i+1))=s.take (l+i+1) then some (j,l+i+1) else none
      | _=>none:=by
     unfold je
     rw[Zi ⟨Jm,hj⟩ hr]
     dsimp only
     rw[<-HA.out.2.2.2.1,hdr,<-H.o1]
     rcases scan r 0 with _|_|i<;>rfl
    clear hph hr;have hsl:=λw'=>lib.La aE l a N cap (l:Nat) rfl (by omega) dI w'
    have Hp:=(H.o0.fr (HJ.l1.trans H1.out)).drop l (by rw[<-H.o1];omega);rw[hdr]at Hp;have cv1:∀aM,(convert 35 9 (.slice (bh a cap l 1) (N-l) aM)).run Tryz.prog w1 = .ok (.string (str r)) w1:=
     xX w1 Tryz.underlying35 Tryz.underlying5 Tryz.underlying9 (by omega) Hp.cs
    have HR:=aq kB Mk hdr;clear Hp Mk hdr kB;go_upto_region 6 with (go_at_call 17;refine (HA.out.2.1 _).mono ?_;rintro e w2 ⟨rfl,hw⟩;obtain rfl:=hw.symm);obtain⟨z,hz⟩:=ah (str r);rw[<-hz]at cv1;have uR:(Instr.range 9 (.string z)).run Tryz.prog w1 = .ok (.pointer (some ⟨w1.heap.size,0,none⟩)) (w1.iter z 0):=run_range_string (P:=Tryz.prog) w1 9 z Tryz.underlying9;have HZ:=af hz;clear hz;go_wp2;clear hsl cv1 uR cv0;have qU:∀p,Fr [] w (w1.iter z p):=λp=>(HJ.l1.trans H1.out).trans (zhn w1 z p)
    have HF:=af qU;clear qU;go_loopg [3] r.length (λk s3 wr=>∃p:Nat,s3 = .int .i64 0/\p+k=r.length/\scan r 0=scan (r.drop p) p/\wr=w1.iter z p);case atStart=>exact⟨0,rfl,by omega,rfl,rfl⟩
    case round=>
     obtain⟨p,rfl,oT,hsc,rfl⟩:=hrel;by_cases hp:p<r.length
     ·have qq:scan r 0=if (r[p]).toNat=0 then some (some p) else if (r[p]).toNat<48\/57<(r[p]).toNat then none else scan (r.drop (p+1)) (p+1):=by rw[hsc,xg hp,qzd]
      by_cases hc:(r[p]).toNat<128
      ·have jZ:=λty=>zd4 w1 r p hp hc ty
       rw[<-HZ.out]at jZ;obtain⟨x,hx⟩:=ah ((r[p]).toNat);rw[<-hx]at jZ qq hc;clear hx hsc;by_cases h0:x=0
       ·have hsc:=af qq;clear qq;subst h0;obtain⟨n,hn⟩:=ah (l+p+1);obtain⟨w2,cC⟩:=ah (w1.iter z (p+1));have f2:Fr [] w w2:=by rw[cC];exact HF.out _
        have Jg:n<=N:=by have:=HR.o0;omega
        go_upto_region 13 with fail;rw[show ((l:Int)+(p:Int)+1)=((n:Nat):Int) by omega,<-cC];have qo:=λw'=>lib.Ur aE n a N cap (n:Nat) rfl (by omega) w'
        have ru:=(H.o0.fr (f2.trans (Fr.aB [] w2))).take n;have cv2:=qko (P:=Tryz.prog) [] w2.drew Tryz.underlying35 Tryz.underlying5 Tryz.underlying9 (n:=n) (by rw[fH,<-H.o1];omega) ru.cs (by simp);obtain⟨y,hy⟩:=ah (str (s.take n));rw[<-hy]at cv2;have hh:=λw' eH=>obj.qoi (j:Nat) (N-n) w' (by omega) eH
        obtain⟨M,hM⟩:=ah (N-n);rw[<-hM]at hh;obtain⟨hd,pb⟩:∃hd,hd=obj.header (j:Nat) M:=⟨_,rfl⟩;rw[<-pb]at hh;have g0:decide (0<n)=true:=by simp;omega
        have HQ:=cU hh hy pb f2 hM hn;clear hh hy pb f2 hM hn ru cC;refine lK 21 [(false,0),(false,1),(false,2),(false,3),(false,4),(false,5),(false,6),(false,7),(false,8),(false,9),(false,12),(false,13),(false,14),(false,15),(true,10),(false,11),(false,16),(false,17),(false,18),(false,19),(false,20)] [] (by kernel_rfl) (by kernel_rfl) (λ_ _ d _ _ h=>by cases d<;>exact h) ?_;simp only[kQ];refine eD 14 rfl ?_;simp only[cT];repeat (go_big_quiet_step (fail))
        refine wpQuiet_nil ?_;rw[show ((N:Int)-(n:Int))=((M:Nat):Int) by have:=HQ.out.2.2.2.2.1;omega];refine jb rfl ?_;intro XX gY;go_wp2_with (go_at_call 61;refine (HQ.out.1 _ (H.l2.fr (HQ.out.2.2.2.1.trans (Fr.aB [] w2)))).mono ?_;rintro e w3 ⟨a3,c3,rfl,r3,n3,f3⟩);refine gY.out _ _ f3 ?_;clear gY XX;obtain⟨L3,Eh⟩:=ah hd.length;have cv3:=qko (P:=Tryz.prog) [] w3 Tryz.underlying35 Tryz.underlying5 Tryz.underlying9 (n:=L3) Eh.symm r3.cs (by simp);obtain⟨x,hx⟩:=ah (str hd);rw[<-hx]at cv3;rw[<-Eh];have H3:=ai f3 hx;clear f3 n3 r3 hx Eh;refine eD 6 rfl ?_;simp only[cT];repeat (go_big_quiet_step (fail))
        refine wpQuiet_nil ?_;refine j4 ?_;go_wp2;go_ret3;show ie w s (.returned (.tuple #[.int .i64 j,.int .i64 n,.bool (x.toList==y.toList)])) w3;obtain⟨_,hy,pb,f2,hM,hn⟩:=HQ.out;have ff:Fr [] w w3:=(f2.trans (Fr.aB [] w2)).trans H3.o0;have jk:je s=if hd=s.take n then some (j,n) else none:=by rw[HR.o1,hsc.out,if_pos trivial,pb,hM,hn]
        rw[H3.l1,hy,ay,ay];by_cases he:hd=s.take n
        ·rw[if_pos he,Zh]at jk;rw[he,beq_self_eq_true];exact ie.good jk ff
        ·rw[if_neg he]at jk;rw[show (hd==s.take n)=false by simpa using he];exact ie.bad jk ff rfl
       ·have g0:(((x:Nat):Int)==0)=false:=by simp;omega
        by_cases hb:x<48\/57<x
        ·have HS:=af (show scan r 0=none by rw[qq,if_neg h0,if_pos hb]);clear qq;have kp:je s=none:=by rw[HR.o1,HS.out]
         by_cases h1:x<48
         ·go_wp2;go_ret3;exact ie.bad kp (HF.out _) rfl
         ·go_wp2;go_ret3;exact ie.bad kp (HF.out _) rfl
        ·rw[if_neg h0,if_neg hb]at qq;have HS:=af qq;clear qq;go_wp2;go_roundg (r.length-(p+1));case measure=>omega
         case rel=>exact⟨p+1,rfl,by omega,HS.out,rfl⟩
      ·obtain⟨rr,q,h1,h2,jZ⟩:=qz1 w1 r p hp (by omega);rw[<-HZ.out]at jZ;have HS:=af (show scan r 0=none by rw[qq,if_neg (by omega),if_pos (by omega)]);clear qq;have kp:je s=none:=by rw[HR.o1,HS.out]
       go_wp2;go_ret3;exact ie.bad kp (HF.out _) rfl
     ·have jZ:=λty=>zd5 w1 r p hp ty
      rw[<-HZ.out]at jZ;have HS:=af (show scan r 0=some none by rw[hsc,Ax (by omega)];rfl);clear hsc;have kp:je s=none:=by rw[HR.o1,HS.out]
      go_upto_region 13 with fail;refine lK 21 [(false,0),(false,1),(false,2),(false,3),(false,4),(false,5),(false,6),(false,7),(false,8),(false,9),(false,12),(false,13),(false,14),(false,15),(true,10),(false,11),(false,16),(false,17),(false,18),(false,19),(false,20)] [] (by kernel_rfl) (by kernel_rfl) (λ_ _ d _ _ h=>by cases d<;>exact h) ?_;simp only[kQ];refine eD 14 rfl ?_;simp only[cT];repeat (go_big_quiet_step (fail))
      refine wpQuiet_nil ?_;refine Kc rfl ?_;simp only[Act.put,pS,nV,pQ];refine eD 6 rfl ?_;simp only[cT];repeat (go_big_quiet_step (fail))
      refine wpQuiet_nil ?_;refine j4 ?_;go_wp2;go_ret3;exact ie.bad kp ((HF.out _).trans (Fr.aB [] _)) rfl
  ·obtain rfl:j=5:=by omega
   go_wp2;go_ret3;refine ie.bad ?_ HJ.l1 rfl;unfold je;have e:([1,2,3,4].find? λk=>(pre k).isPrefixOf s)=none:=by rw[List.find?_eq_none];intro k hk hb;simp only[eX,mV,or_false]at hk;have:=HJ.o0 k (by omega) (by omega);rw[this]at hb;cases hb
   rw[e]
set_option maxRecDepth 100000
theorem XU {bs out:LB} {m:Nat} (h:inf.kW bs m = .ok (out,k)):out.length<=m:=by
 unfold inf.kW at h;split at h
 ·cases h
 ·split at h
  ·cases h
  ·split at h
   ·cases h
   ·next o n hr=>
    split at h
    ·cases h
    ·split at h
     ·simp only[jc,gq]at h;rw[<-h.1];exact inf.ziw hr
     ·cases h
def dR (w:World) (m:Nat×List UInt8×Nat) (e:Ending) (w':World):Prop:=
 ∃ao,e = .returned (.tuple #[.int .i64 (m.1:Nat),.slice ao m.2.1.length m.2.1.length,.int .i64 (m.2.2:Nat)])/\lib.Rd w' ao m.2.1.length m.2.1/\(∀x∈ag ao,w.heap.size<=x/\x<w'.heap.size)/\Fr [] w w'
theorem dR.bad {m:Nat×List UInt8×Nat} {c:Nat} (h:m=(0,[],c)) (f:Fr [] w w') (he:e = .returned (.tuple #[.int .i64 0,.slice none 0 0,.int .i64 c])):dR w m e w':=by subst h;exact⟨none,he,Rd.none w',(λx hx=>absurd hx (by simp[ag])),f⟩
theorem qzq (a:OA) (cap:Nat) (bs:LB) (w:World) (h:lib.Rd w a cap bs) (hlen:bs.length<=100000000) (eH:obj.Pw w) :
  Calls Tryz.prog 436 #[.slice a bs.length cap] w (dR w (fN bs)):=by
 have hz:=inf.zcs a cap bs 65568 w h hlen (by decide);obtain⟨P,hP⟩:=ah (fN bs);obtain⟨Z,hZ⟩:=ah (inf.kW bs 65568);obtain⟨L,hL⟩:=ah bs.length;have Bg:=hP;unfold fN at Bg;rw[<-hZ,<-hL]at Bg;rw[<-hP];rw[<-hZ,<-hL]at hz;rw[<-hL]at hlen ⊢;have H:=aA hz hZ Bg eH;clear hz hP Bg hZ hL h eH;go_enter Tryz.func436,Tryz.ntmps436;go_upto_region 2 with (go_at_call 329;refine H.o0.mono ?_;rintro e w1 (⟨x,hx,k0,k1,rfl,f1⟩|⟨out,used,ao,iq,rfl,Bw,nbo,f1⟩))
 ·have HX:=ai f1 hx;have d0:((x:Int)!=0)=true:=by simp;omega
  clear f1 hx;go_wp2;go_ret3;exact dR.bad (by rw[H.o2,HX.l1]) HX.o0 rfl
 ·have Mn:out.length<=65568:=XU (by rw[<-H.o1];exact iq);have Bg:=H.o2;rw[iq]at Bg;simp only at Bg;have hh:=zew ao out.length out w1 Bw (by omega) (H.l3.fr f1);obtain⟨N,hN⟩:=ah out.length;rw[<-hN]at hh Mn Bg Bw ⊢;have HX:=cU hh Bg Bw nbo f1 hN;clear hh Bg Bw nbo f1 hN iq;cases hk:kg out with
  | none=>
   have yk:P=(0,[],3):=by have:=HX.l1.1;rw[hk]at this;rw[this];split<;>rfl
   have HP:=ai yk hk;clear yk hk;go_upto_region 5 with (go_at_call 437;refine HX.o0.mono ?_;rintro e w2 hq;unfold ie at hq;rw[HP.l1]at hq;obtain⟨f2,x,y,rfl⟩:=hq;have H2:=af f2;clear f2);by_cases hu:used=L
   ·have d0:((used:Int)!=(L:Int))=false:=by simp;omega
    go_wp2;go_ret3;exact dR.bad HP.o0 (HX.l1.2.2.2.1.trans H2.out) rfl
   ·have d0:((used:Int)!=(L:Int))=true:=by simp;omega
    go_wp2;go_ret3;exact dR.bad HP.o0 (HX.l1.2.2.2.1.trans H2.out) rfl
  | some kn=>
   obtain⟨k,n⟩:=kn;have MQ:=qoa hk;rw[<-HX.l1.2.2.2.2]at MQ;have Jg:n<=N:=MQ.2.2.1;have HP:=ai hk MQ;clear hk MQ;go_upto_region 5 with (go_at_call 437;refine HX.o0.mono ?_;rintro e w2 hq;unfold ie at hq;rw[HP.o0]at hq;obtain⟨f2,rfl⟩:=hq;have H2:=af f2;clear f2);by_cases hu:used=L
   ·have d0:((used:Int)!=(L:Int))=false:=by simp;omega
    by_cases hb:65536<N-n
    ·have d1:decide ((65536:Int)<(N:Int)-(n:Int))=true:=by simp;omega
     have yk:P=(0,[],5):=by have:=HX.l1.1;rw[HP.o0,if_pos hu]at this;simp only at this;rw[if_pos hb]at this;exact this
     have HQ:=af yk;clear yk;go_wp2;go_ret3;exact dR.bad HQ.out (HX.l1.2.2.2.1.trans H2.out) rfl
    ·have d1:decide ((65536:Int)<(N:Int)-(n:Int))=false:=by simp;omega
     have yk:P=(k,out.drop n,0):=by have:=HX.l1.1;rw[HP.o0,if_pos hu]at this;simp only at this;rw[if_neg hb]at this;exact this
     have hsl:=λw'=>lib.La aE n ao N N (n:Nat) rfl Jg (ax _) w'
     have f12:Fr [] w w2:=HX.l1.2.2.2.1.trans H2.out;have ru:=(HX.l1.2.1.fr H2.out).drop n (by rw[<-HX.l1.2.2.2.2];exact Jg);have fX:=XO _ _ _ w2 ru (by rw[gN,<-HX.l1.2.2.2.2];omega);obtain⟨D,hD⟩:=ah (out.drop n);have V3:D.length=N-n:=by rw[hD,gN,<-HX.l1.2.2.2.2]
     rw[<-hD]at fX yk;rw[V3]at fX;have HQ:=aA yk f12 fX V3;clear yk f12 ru fX hD V3;go_wp2_with (first
      | (go_at_call 109;refine HQ.out.2.2.1.mono ?_;rintro e w3 ⟨a3,c3,rfl,r3,l3,m3,n3,f3⟩;rw[HQ.out.2.2.2];rw[HQ.out.2.2.2]at l3;have H3:=aQ r3 l3 m3 n3 f3;clear r3 l3 m3 n3 f3)
      | (go_at_call 79;refine (J2 a3 (N-n) c3 w3 H3.o1 H3.o2).mono ?_;rintro e w4 ⟨rfl,hw⟩;obtain rfl:=hw.symm))
     go_ret3;refine⟨a3,?_,?_,?_,HQ.out.2.1.trans H3.l4⟩
     ·rw[HQ.out.1];dsimp only;rw[HQ.out.2.2.2];rfl
     ·rw[HQ.out.1];have r3:=H3.o0;exact⟨r3.cs,ax _,bP r3.le r3.max,λe=>by have h1:=r3.nil e;have h2:=r3.le;show D.length=0;omega⟩
     ·intro x hx;have h1:=H3.o3 x hx;have h2:=HQ.out.2.1.size;omega
   ·have d0:((used:Int)!=(L:Int))=true:=by simp;omega
    have yk:P=(0,[],3):=by have:=HX.l1.1;rw[if_neg hu]at this;exact this
    have HQ:=af yk;clear yk;go_wp2;go_ret3;exact dR.bad HQ.out (HX.l1.2.2.2.1.trans H2.out) rfl
set_option maxRecDepth 100000
def Af (w:World) (k:Int) (body:LB) (e:Ending) (w':World):Prop:=
 ∃r,trip.RQ (obj.header k body.length++body) r/\defl.pE w (defl.aY 2 r (obj.header k body.length++body)) e w'
theorem ze9 (k:Int) (a:OA) (cap:Nat) (body:LB) (w:World) (h:lib.Rd w a cap body) (hl:body.length<=90000) (eH:obj.Pw w) :
  Calls Tryz.prog 68 #[.int .i64 k,.slice a body.length cap] w (Af w k body):=by
 obtain⟨N,hN⟩:=ah body.length;have hh:=obj.qoh k N w (by omega) eH;have hhl:=obj.KH k N (by omega);obtain⟨hd,pb⟩:=ah (obj.header k N);have hF:Af w k body=λe w'=>∃r,trip.RQ (hd++body) r/\defl.pE w (defl.aY 2 r (hd++body)) e w':=by unfold Af;rw[pb,hN]
 rw[hF];rw[<-pb]at hh hhl;rw[<-hN]at hl ⊢;obtain⟨M,hM⟩:=ah hd.length;rw[<-hM]at hhl;have H:=aA h hh hN hM;have hle:=h.le;rw[<-hN]at hle;clear h hh eH pb hF hN hM;go_enter Tryz.func68,Tryz.ntmps68;go_wp2_with (first
  | (go_at_call 61;refine H.o1.mono ?_;rintro e w1 ⟨a1,c1,rfl,o1,n1,f1⟩;rw[<-H.l3];have H1:=aq o1 n1 f1;clear o1 n1 f1)
  | (refine qg2 aE rfl _ _ rfl a1 M c1 (hd.map bv) rfl H1.o0 (by rw[gx,H.l3]) a N cap (body.map bv) rfl hle (H.o0.fr H1.l2).nil (H.o0.fr H1.l2).cs (by rw[gx,H.o2]) (bits.qI _) (by omega) (by unfold maxLen;omega) ?_;intro a2 c2 w2 A2;have o2:=A2.own;rw[<-jd]at o2;have hz:=trip.zcq a2 c2 (hd++body) 2 w2 o2.rd (by rw[aG,<-H.o2,<-H.l3];omega) o2.lt;have Nz:(hd++body).length=M+N:=(by rw[aG,<-H.o2,<-H.l3]);rw[Nz]at hz;have H2:=ai hz A2.fr;clear A2 o2 hz Nz)
  | (go_at_call 124;refine H2.o0.mono ?_;rintro e w3 ⟨r,hr,a3,rfl,o3,n3,f3⟩;have H3:=aA hr o3 n3 f3;clear hr o3 n3 f3))
 go_ret;have f12:Fr [] w w2:=H1.l2.step H2.l1 (λy hy=>.inr (H1.o1 y hy));refine⟨r,H3.o0,a3,rfl,H3.o1,λx hx=>?_,f12.trans H3.l3⟩;have h1:=H3.o2 x hx;have h2:=f12.size;omega
theorem qqf:∀{s r:LB},bG s=some r->∀c∈s,c≠0
 | [],r,h=>by simp
 | [_],r,h=>by cases h
 | a::b::t,r,h=>by
  rw[bG]at h;split at h
  ·rename_i x y q hx hy hq;have ih:=qqf hq;intro c hc e;simp only[eX]at hc;rcases hc with rfl|rfl|hc
   ·subst e;cases hx
   ·subst e;cases hy
   ·exact ih c hc e
  ·cases h
theorem XZ (h:dX s=true):∀c∈s,c≠0:=by
 unfold dX at h;split at h
 ·exact qqf (by assumption)
 ·cases h
theorem Sp {id:LB} (h:dX id=true):fs.lF (az id):=by
 have hl:=E0 h;have hz:=XZ h;unfold az;rw[if_pos h];refine⟨by simp[objs],by simp[objs];omega,λc hc=>?_⟩;simp only[jo]at hc;rcases hc with ((hc|hc)|hc)|hc
 ·revert c;decide
 ·exact hz c (sV hc)
 ·simp only[eF]at hc;rw[hc];decide
 ·exact hz c (List.mem_of_mem_drop hc)
def tmps:List UInt8:=[116,109,112,47]
theorem zh8 {id:LB} (h:dX id=true):fs.lF (tmps++id):=by
 have hl:=E0 h;have hz:=XZ h;refine⟨by simp[tmps],by simp[tmps];omega,λc hc=>?_⟩;simp only[jo]at hc;rcases hc with hc|hc
 ·revert c;decide
 ·exact hz c hc
theorem zdy {x:LB} (hx:dX x=true) (hy:dX y=true) (h:az x=az y):x=y:=by have lx:=E0 hx;have ly:=E0 hy;unfold az at h;rw[if_pos hx,if_pos hy]at h;obtain⟨h1,h2⟩:=List.append_inj' h (by rw[gN,gN,lx,ly]);obtain⟨h3,_⟩:=List.append_inj' h1 rfl;have h4:=List.append_cancel_left h3;rw[<-BP 2 x,<-BP 2 y,h4,h2]
theorem Ks (x:LB) (hy:dX y=true):tmps++x≠az y:=by unfold az;rw[if_pos hy];intro h;have:=congrArg List.head? h;simp[tmps,objs]at this
theorem qxm (bs:LB):(fN bs).2.1.length<=65568:=by
 unfold fN;split
 ·exact eE _
 ·rename_i out used hz;have h1:=XU hz;split
  ·split
   ·exact eE _
   ·split
    ·exact eE _
    ·show (out.drop _).length<=_;rw[gN];omega
  ·exact eE _
theorem qxc (hk:1<=k/\k<=4) (hl:body.length<=60000) (hr:trip.RQ (obj.header k body.length++body) r) :
  fN (defl.aY 2 r (obj.header k body.length++body))=(k,body,0):=by
 have hh:=obj.KH (k:Nat) body.length (by omega);have hz:=trip.qyj (level:=2) hr [] 65568 (by rw[aG];omega);rw[nX]at hz;unfold fN;rw[hz];simp only;rw[if_pos trivial,qxn hk];simp only;rw[aG,if_neg (by omega),List.drop_left' rfl]
theorem ze8 (hl:body.length<=60000) (hr:trip.RQ (obj.header k body.length++body) r) :
  (defl.aY 2 r (obj.header k body.length++body)).length<=6*body.length+250/\0<(defl.aY 2 r (obj.header k body.length++body)).length:=by
 have hh:=obj.KH (k:Nat) body.length (by omega);have h1:=hr.1;rw[aG]at h1;unfold defl.aY;simp only[aG,dw,jK,sums.yJ];omega
set_option maxRecDepth 100000
def jM (t:fs.Nm->Option (List UInt8)) (id:LB):Nat×List UInt8×Nat:=
 if dX id=true then
  match t (az id) with
  | none=>(0,[],61)
  | some bs=>if (fN bs).2.2=0 then if aO ((fN bs).1:Nat) (fN bs).2.1=id then fN bs else (0,[],6) else (0,[],(fN bs).2.2)
 else (0,[],1)
theorem xW (F n M:Nat) (t:fs.Nm->Option (List UInt8)) (lab:Nat->Option fs.Lb) (id:LB) (w:World) (h:fs.Fs w F n M t lab) (hlen:id.length<=140737488355328) (eH:obj.Pw w) :
  Calls Tryz.prog 435 #[.pointer (some ⟨F,0,none⟩),.string (str id)] w (dR w (jM t id)):=by
 obtain⟨P,hP⟩:=ah (jM t id);rw[<-hP];have hh:=Au id w hlen;by_cases hb:dX id=true
 ·rw[hb]at hh;have dM:∀w',Fr [] w w'->Calls Tryz.prog 65 #[.pointer (some ⟨F,0,none⟩),.string (str (az id))] w' (fs.ui w' (t (az id))):=λw' f=>fs.xW F n M t lab (az id) w' (h.fr f (by simp)) (Sp hb)
  have ki:=λw'=>SM id w' hlen
  unfold jM at hP;rw[if_pos hb]at hP;cases ht:t (az id) with
  | none=>
   rw[ht]at hP dM;unfold fs.ui at dM;simp only at hP dM;obtain⟨z,hz⟩:=ah (str id);obtain⟨y,hy⟩:=ah (str (az id));rw[<-hz]at hh ki ⊢;rw[<-hy]at ki dM;have H:=aA hh ki dM hP;clear hh ki dM hP ht hb hz hy h eH;go_enter Tryz.func435,Tryz.ntmps435;go_wp2_with (first
    | (go_at_call 116;refine H.o0.mono ?_;rintro e w1 ⟨rfl,f1⟩;have H1:=af f1;clear f1)
    | (go_at_call 66;refine (H.l1.1 _).mono ?_;rintro e w2 ⟨rfl,f2⟩;have H2:=af (H1.out.trans f2);clear f2)
    | (go_at_call 65;refine (H.l1.2.1 _ H2.out).mono ?_;rintro e w3 ⟨rfl,f3⟩;have H3:=af (H2.out.trans f3);clear f3))
   go_ret3;exact dR.bad H.l1.2.2 H3.out rfl
  | some bs=>
   rw[ht]at hP dM;unfold fs.ui at dM;simp only at hP dM;have tU:bs.length<=100000000:=by obtain⟨⟨q,B,dz,bj,m,vs,g,hq,h1,h2,h3,h4,h5,h6,h7,h8,h9,iC⟩,kM,hM,ef⟩:=h;have:=(h9 _ bs ht).1;omega
   obtain⟨⟨k,body,c⟩,hQ⟩:∃Q,Q=fN bs:=⟨_,rfl⟩;rw[<-hQ]at hP;simp only at hP;have tF:∀w' a,Fr [] w w'->lib.Rd w' a bs.length bs->Calls Tryz.prog 436 #[.slice a bs.length bs.length] w' (dR w' (k,body,c)):=λw' a f hr=>by rw[hQ];exact qzq a bs.length bs w' hr tU (eH.fr f)
   have hid:∀w' a,Fr [] w w'->lib.Rd w' a body.length body->Calls Tryz.prog 24 #[.int .i64 k,.slice a body.length body.length] w' λe fK=>e = .returned (.string (str (aO (k:Nat) body)))/\Fr [] w' fK:=λw' a f hr=>obj.J1 (k:Nat) a body.length body w' hr (by have:=qxm bs;rw[<-hQ]at this;simp only at this;omega) (eH.fr f)
   obtain⟨z,hz⟩:=ah (str id);obtain⟨y,hy⟩:=ah (str (az id));obtain⟨x,hx⟩:∃x,x=str (aO (k:Nat) body):=⟨_,rfl⟩;have UL:(x.toList==z.toList)=(aO (k:Nat) body==id):=by rw[hx,hz,ay,ay]
   rw[<-hz]at hh ki ⊢;rw[<-hy]at ki dM;rw[<-hx]at hid;obtain⟨L,hL⟩:=ah bs.length;rw[<-hL]at dM tF;unfold dR at tF;simp only at tF;obtain⟨N,hN⟩:=ah body.length;rw[<-hN]at tF hid;have H:=cU hh ki dM tF hid hP;have HN:=af hN;clear hh ki dM hP ht hb hz hy h eH tF hid hQ tU hL hN;by_cases hc:c=0
   ·subst hc;by_cases ho:aO (k:Nat) body=id
    ·rw[ho,beq_self_eq_true]at UL;have HO:=af ho;clear ho hx;go_enter Tryz.func435,Tryz.ntmps435;go_wp2_with (first
      | (go_at_call 116;refine H.o0.mono ?_;rintro e w1 ⟨rfl,f1⟩;have H1:=af f1;clear f1)
      | (go_at_call 66;refine (H.l1.1 _).mono ?_;rintro e w2 ⟨rfl,f2⟩;have H2:=af (H1.out.trans f2);clear f2)
      | (go_at_call 65;refine (H.l1.2.1 _ H2.out).mono ?_;rintro e w3 ⟨⟨a3,rfl,r3,n3⟩,f3⟩;have H3:=ai (H2.out.trans f3) r3;clear f3 r3 n3)
      | (go_at_call 436;refine (H.l1.2.2.1 _ _ H3.out.1 H3.out.2).mono ?_;rintro e w4 ⟨a4,rfl,r4,n4,f4⟩;have H4:=aq (H3.out.1.trans f4) r4 (λx hx=>⟨bP H3.out.1.size (n4 x hx).1,(n4 x hx).2⟩:∀x∈ag a4,w.heap.size<=x/\x<w4.heap.size);clear f4 r4 n4)
      | (go_at_call 24;refine (H.l1.2.2.2.1 _ _ H4.o0 H4.o1).mono ?_;rintro e w5 ⟨rfl,f5⟩;have H5:=af f5;clear f5))
     go_ret3;have f5:=H4.o0.trans H5.out;have hP:=H.l1.2.2.2.2;rw[if_pos trivial,if_pos HO.out]at hP;rw[hP];exact⟨a4,by rw[<-HN.out];rfl,by rw[<-HN.out];exact H4.o1.fr H5.out,λx hx=>⟨(H4.l2 x hx).1,fM (H4.l2 x hx).2 H5.out.size⟩,f5⟩
    ·rw[beq_eq_false_iff_ne.2 ho]at UL;have HO:=af ho;clear ho hx;go_enter Tryz.func435,Tryz.ntmps435;go_wp2_with (first
      | (go_at_call 116;refine H.o0.mono ?_;rintro e w1 ⟨rfl,f1⟩;have H1:=af f1;clear f1)
      | (go_at_call 66;refine (H.l1.1 _).mono ?_;rintro e w2 ⟨rfl,f2⟩;have H2:=af (H1.out.trans f2);clear f2)
      | (go_at_call 65;refine (H.l1.2.1 _ H2.out).mono ?_;rintro e w3 ⟨⟨a3,rfl,r3,n3⟩,f3⟩;have H3:=ai (H2.out.trans f3) r3;clear f3 r3 n3)
      | (go_at_call 436;refine (H.l1.2.2.1 _ _ H3.out.1 H3.out.2).mono ?_;rintro e w4 ⟨a4,rfl,r4,n4,f4⟩;have H4:=aq (H3.out.1.trans f4) r4 (λx hx=>⟨bP H3.out.1.size (n4 x hx).1,(n4 x hx).2⟩:∀x∈ag a4,w.heap.size<=x/\x<w4.heap.size);clear f4 r4 n4)
      | (go_at_call 24;refine (H.l1.2.2.2.1 _ _ H4.o0 H4.o1).mono ?_;rintro e w5 ⟨rfl,f5⟩;have H5:=af f5;clear f5))
     go_ret3;have hP:=H.l1.2.2.2.2;rw[if_pos trivial,if_neg HO.out]at hP;exact dR.bad hP (H4.o0.trans H5.out) rfl
   ·have HC:=af hc;have d0:((c:Int)!=0)=true:=by simp;omega
    clear hc UL hx;go_enter Tryz.func435,Tryz.ntmps435;go_wp2_with (first
     | (go_at_call 116;refine H.o0.mono ?_;rintro e w1 ⟨rfl,f1⟩;have H1:=af f1;clear f1)
     | (go_at_call 66;refine (H.l1.1 _).mono ?_;rintro e w2 ⟨rfl,f2⟩;have H2:=af (H1.out.trans f2);clear f2)
     | (go_at_call 65;refine (H.l1.2.1 _ H2.out).mono ?_;rintro e w3 ⟨⟨a3,rfl,r3,n3⟩,f3⟩;have H3:=ai (H2.out.trans f3) r3;clear f3 r3 n3)
     | (go_at_call 436;refine (H.l1.2.2.1 _ _ H3.out.1 H3.out.2).mono ?_;rintro e w4 ⟨a4,rfl,r4,n4,f4⟩;have H4:=aq (H3.out.1.trans f4) r4 (λx hx=>⟨bP H3.out.1.size (n4 x hx).1,(n4 x hx).2⟩:∀x∈ag a4,w.heap.size<=x/\x<w4.heap.size);clear f4 r4 n4))
    go_ret3;have hP:=H.l1.2.2.2.2;rw[if_neg HC.out]at hP;exact dR.bad hP H4.o0 rfl
 ·have hb:=Bool.eq_false_iff.2 hb;rw[hb]at hh;unfold jM at hP;rw[hb,if_neg (by decide)]at hP;obtain⟨z,hz⟩:=ah (str id);rw[<-hz]at hh ⊢;have H:=ai hh hP;clear hh hP hb hz h eH;go_enter Tryz.func435,Tryz.ntmps435;go_wp2_with (go_at_call 116;refine H.o0.mono ?_;rintro e w1 ⟨rfl,f1⟩;have H1:=af f1;clear f1);go_ret3;exact dR.bad H.l1 H1.out rfl
theorem YW:∀n:_root_.Fin 16,sK (bL n.1)=some n.1:=by decide
theorem qno:∀bs:List UInt8,bG (mn bs)=some bs
 | []=>rfl
 | b::t=>by have hb:=b.toNat_lt;have h1:=YW ⟨b.toNat/16,by omega⟩;have h2:=YW ⟨b.toNat%16,by omega⟩;have e:mn (b::t)=bL (b.toNat/16)::bL (b.toNat%16)::mn t:=rfl;rw[e,bG,h1,h2,qno t];simp only[fI,Ht,and_true];rw[show 16*(b.toNat/16)+b.toNat%16=b.toNat by omega,UInt8.ofNat_toNat]
theorem SE (k:Int) (body:LB):dX (aO k body)=true:=by unfold dX aO;rw[qno];simp only;rw[sha.Ug];rfl
theorem zgs (s:LB):((⟨#[116,109,112,47]⟩:ByteArray)++str s)=str (tmps++s):=by rw[<-gH];rfl
set_option maxRecDepth 100000
theorem qyn (F n M M':Nat) (t:fs.Nm->Option (List UInt8)) (lab:Nat->Option fs.Lb) (k:Nat) (a:OA) (cap:Nat) (body:LB) (w:World) (h:fs.Fs w F n M t lab) (hk:1<=k/\k<=4) (hb:lib.Rd w a cap body) (hl:body.length<=16000) (eH:obj.Pw w)
  (ht:t (az (aO k body))=none) (ye:t (tmps++aO k body)=none) (yo:M<=M') (qy:6*body.length+250<=M') (iV:M'<=100000) (dh:6*body.length+250+(n+1)*M<=1048576) (hn:n<880) :
  Calls Tryz.prog 26 #[.pointer (some ⟨F,0,none⟩),.int .i64 (k:Nat),.slice a body.length cap] w λe w'=>e = .returned (.tuple #[.string (str (aO k body)),.int .i64 0])/\∃av r,trip.RQ (obj.header k body.length++body) r/\fs.Fs w' F (n+2) M' (fs.aS t (az (aO k body)) (some (defl.aY 2 r (obj.header k body.length++body)))) av/\fs.dS w lab w' av:=by
 have Ga:=SE k body;have jP:=obj.Pp (k:Nat);have hid:∀w',Fr [] w w'->Calls Tryz.prog 24 #[.int .i64 k,.slice a body.length cap] w' λe fK=>e = .returned (.string (str (aO (k:Nat) body)))/\Fr [] w' fK:=λw' f=>obj.J1 (k:Nat) a cap body w' (hb.fr f) (by omega) (eH.fr f)
 have ki:=λw'=>SM (aO k body) w' (by rw[E0 Ga];decide)
 have dM:∀w',Fr [] w w'->Calls Tryz.prog 65 #[.pointer (some ⟨F,0,none⟩),.string (str (az (aO k body)))] w' λe fK=>e = .returned (.tuple #[.slice none 0 0,.int .i64 61])/\Fr [] w' fK:=λw' f=>by have:=fs.xW F n M t lab (az (aO k body)) w' (h.fr f (by simp)) (Sp Ga);rw[ht]at this;exact this
 have xA:=λw' (f:Fr [] w w')=>ze9 (k:Nat) a cap body w' (hb.fr f) (by omega) (eH.fr f)
 have vY:∀w' r a' , Fr [] w w'->trip.RQ (obj.header k body.length++body) r->lib.Rd w' a' (defl.aY 2 r (obj.header k body.length++body)).length (defl.aY 2 r (obj.header k body.length++body))->(∀x∈ag a',w.heap.size<=x)->Calls Tryz.prog 67 #[.pointer (some ⟨F,0,none⟩),.string (str (tmps++aO k body)),.string (str (az (aO k body))),.slice a' (defl.aY 2 r (obj.header k body.length++body)).length (defl.aY 2 r (obj.header k body.length++body)).length] w' λe fK=>e = .returned (.int .i64 0)/\∃av,fs.Fs fK F (n+2) M' (fs.aS t (az (aO k body)) (some (defl.aY 2 r (obj.header k body.length++body)))) av/\fs.dS w lab fK av:=λw' r a' f hr eY hx=>by
  have hlen:=(ze8 (k:=k) (body:=body) (by omega) hr).1;refine (fs.ZA F n M M' t lab (tmps++aO k body) (az (aO k body)) a' _ _ w' (h.fr f (by simp)) (zh8 Ga) (Sp Ga) (Ks _ Ga) ye eY (λ_ x hm=>?_) yo (by omega) iV ?_ hn).mono λe fK ⟨he,av,h1,h2⟩=>⟨he,av,h1,(fs.dS.refl w lab f).trans h2⟩
  ·cases AW:lab x with
   | none=>rfl
   | some l=>have:=h.low x (by rw[AW];exact nW _);have:=hx x hm;omega
  ·omega
 have DL:=zgs (aO k body);obtain⟨I,hI⟩:∃I,I=aO (k:Nat) body:=⟨_,rfl⟩;rw[<-hI]at hid ki dM vY DL ⊢;obtain⟨z,hz⟩:=ah (str I);obtain⟨y,hy⟩:=ah (str (az I));obtain⟨x,hx⟩:=ah (str (tmps++I));obtain⟨v,hv⟩:∃v,v=str (obj.eT (k:Nat)):=⟨_,rfl⟩;have hve:v.toList.isEmpty=false:=by rw[hv,ay];rcases (show k=1\/k=2\/k=3\/k=4 by omega) with rfl|rfl|rfl|rfl<;>rfl
 rw[<-hz]at hid ki DL ⊢;rw[<-hy]at ki dM vY;rw[<-hx]at DL vY;rw[<-hv]at jP;obtain⟨L,hL⟩:=ah body.length;rw[<-hL]at hl hid xA ⊢;have hzs:z.size=40:=by rw[hz,aj,hI];exact E0 Ga
 have d0:decide ((65536:Int)<(L:Int))=false:=by simp;omega
 have H:=eW jP hid ki dM xA vY DL;have HL:=af hL;clear jP hid ki dM xA vY DL hI hz hy hx hv hL h hb eH ht ye Ga;go_enter Tryz.func26,Tryz.ntmps26;go_wp2_with (first
  | (go_at_call 23;refine (H.o0 _).mono ?_;rintro e w1 ⟨rfl,f1⟩;have H1:=af f1;clear f1)
  | (go_at_call 24;refine (H.o1 _ H1.out).mono ?_;rintro e w2 ⟨rfl,f2⟩;have H2:=af (H1.out.trans f2);clear f2)
  | (guard_hyp H2;guard_hyp H4;go_at_call 66;refine (H.o2 _).mono ?_;rintro e w5 ⟨rfl,f5⟩;have H5:=af (H4.out.trans f5);clear f5)
  | (go_at_call 66;refine (H.o2 _).mono ?_;rintro e w3 ⟨rfl,f3⟩;have H3:=af (H2.out.trans f3);clear f3)
  | (go_at_call 65;refine (H.o3 _ H3.out).mono ?_;rintro e w4 ⟨rfl,f4⟩;have H4:=af (H3.out.trans f4);clear f4)
  | (go_at_call 68;refine (H.o4 _ H5.out).mono ?_;rintro e w6 ⟨r,hr,a6,rfl,o6,n6,f6⟩;have H6:=aq hr (H5.out.trans f6) (H.o5 _ r a6 (H5.out.trans f6) hr o6.rd (λx hx=>bP H5.out.size (n6 x hx).1));clear hr o6 n6 f6)
  | (rw[H.l6];go_at_call 67;refine H6.l2.mono ?_;rintro e w7 ⟨rfl,UE,h7,s7⟩;have H7:=aq h7 s7 (fs.PQ F _ _ _ _ w7 h7);clear h7 s7)
  | (go_at_call 69;refine H7.l2.mono ?_;rintro e w8 ⟨rfl,h8,s8⟩;have H8:=ai h8 s8;clear h8 s8))
 go_ret2;rw[HL.out];exact⟨rfl,UE,r,H6.o0,H8.o0,H7.o1.trans H8.l1⟩
end lo

end Go.Proofs.YticadfhpolhkeaaGreatDoor