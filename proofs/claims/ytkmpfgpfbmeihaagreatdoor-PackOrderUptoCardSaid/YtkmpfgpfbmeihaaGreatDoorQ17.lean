/-
  Texts of this proof, one behind the other: CrcB, PkEntry, PkMem, PackNil, RevB, PackBack, PackWr0.
-/
import Derived.Test.YtkmpfgpfbmeihaaGreatDoorQ16
import Derived.Lib.SliceRun
import Derived.Carry
import Derived.Lib.SlBytesConst
set_option maxHeartbeats 16000000
set_option maxRecDepth 100000
set_option linter.unusedVariables false
set_option linter.unusedSimpArgs false
namespace Go.Proofs.YtkmpfgpfbmeihaaGreatDoor
namespace crc
open Go Go.RowKit lib bm
def Cr (w:World) (g c:Nat):Prop:=
 ∃C,w.heap[g]?=some (.cells C 188 (0,0))/\C.size=267/\C[0]?=some (.int .i64 2)/\(∀i,i<256->C[8+i]?=some (.int .u32 (tb i:Nat)))/\C[264]?=some (.int .u32 (c:Nat))/\c<4294967296
theorem ofInt_u8 (a:Nat) (ha:a<256):(BitVec.ofInt 8 (a:Int)).toNat=a:=by rw[BitVec.ofInt_natCast,BitVec.toNat_ofNat];exact x9 (by omega)
theorem u8_xor (a b:Nat) (ha:a<256) (hb:b<256):bits .xor .u8 (a:Int) (b:Int)=((a ^^^ b:Nat):Int):=by have hx:a ^^^ b<256:=Nat.xor_lt_two_pow (n:=8) ha hb;show IntKind.u8.wrap ((BitVec.ofInt 8 (a:Int) ^^^ BitVec.ofInt 8 (b:Int)).toNat:Int)=_;rw[BitVec.toNat_xor,ofInt_u8 a ha,ofInt_u8 b hb];unfold IntKind.wrap;simp only[IntKind.signed,IntKind.bits,KD,Di,if_false,show (2:Int)^8=256 from rfl];omega
theorem zfx {C:AV} (h:yU C 256):C.all (·.oneCell')=true:=Array.all_eq_true_iff_forall_mem.2 λv hv=>by obtain⟨i,hi,rfl⟩:=Array.mem_iff_getElem.1 hv;have:=h.2 i (by rw[<-h.1];exact hi);rw[tr hi]at this;rw[lA this];rfl
theorem zbf (w:World):Calls Tryz.prog 106 #[.int .i64 2] w λe w'=>e = .returned (.pointer (some ⟨w.heap.size,0,none⟩))/\Cr w' w.heap.size 4294967295/\Fr [] w w':=by
 go_enter Tryz.func106,Tryz.ntmps106;go_wp2_with (first
  | (go_at_call 131;refine (qx3 _).mono ?_;rintro e w2 ⟨T,rfl,hT,f2⟩;have hC:=(show ∃C0:Array Value,w2.heap[w.heap.size]?=some (.cells C0 188 (0,0))/\C0.size=267/\C0[0]?=some (.int .i64 2)/\C0[264]?=some (.int .u32 (4294967295:Nat)) from ⟨_,f2.af (bC w _) (by simp),rfl,rfl,rfl⟩);have fw:=((Fr.refl [] w).alloc _).trans f2;have hi:=(show (Tryz.prog.info? 186).map (·.size)=some T.size by rw[tE,hT.1]);have HT:=aG hC fw hT hi;clear hC fw hT hi f2)
  | (obtain⟨C0,hC0,s1,s2,s3⟩:=HT.out.1;have HC:=aG hC0 s1 s2 s3;clear hC0 s1 s2 s3;refine wpList_store_mid rfl 186 (.tmp 13) (.tmp 11) rfl w.heap.size 8 T rfl rfl (quq HC.out.1 8 _ (by rw[HT.out.2.2.1.1,HC.out.2.1];decide)) HT.out.2.2.2 (zfx HT.out.2.2.1) ?_))
 go_ret;obtain⟨C',h1,h2,h3,h4⟩:=Xt T.toList 8 w2 C0 HC.out.1;refine⟨rfl,⟨C',h1,by rw[h2];exact HC.out.2.1,by rw[h3 0 (by omega)];exact HC.out.2.2.1,λi hi=>h4 i _ (by rw[oY];exact HT.out.2.2.1.2 i hi) (by rw[HC.out.2.1];omega),by rw[h3 264 (by rw[Lc,HT.out.2.2.1.1];omega)];exact HC.out.2.2.2,by decide⟩,Fr.setCells (.inr (ay _)) _ _ HT.out.2.1⟩
theorem qxu (g c0 cap:Nat) (ao:OA) (bs:LB) (w:World) (h:Cr w g c0) (hr:Rd w ao cap bs) (Gx:bs≠[]->∀x∈af ao,x≠g) :
  Calls Tryz.prog 94 #[.pointer (some ⟨g,0,none⟩),.slice ao bs.length cap] w λe w'=>e = .returned (.tuple #[])/\Fr [g] w w'/\Cr w' g (bs.foldl Gf c0):=by
 obtain⟨C,hC,cV,bZ,bu⟩:=h;have z0:=cell_of hC 0;rw[bZ]at z0;obtain⟨L,hL⟩:=ai bs.length;have hle:=hr.le;have dK:=hr.max;unfold maxLen at dK;rw[<-hL]at hle ⊢;have H:=aG (show Cr w g c0 from ⟨C,hC,cV,bZ,bu⟩) hr Gx hL;clear hr Gx hL hC cV bZ bu;go_enter Tryz.func94,Tryz.ntmps94;go_upto_block 3 with fail;clear z0;go_wp2;go_loopg [5,63] L (λk s5 s63 wr=>∃i c:Nat,s63 = .int .i64 (i:Nat)/\i+k=L/\Cr wr g c/\Fr [g] w wr/\(bs.drop i).foldl Gf c=bs.foldl Gf c0);case atStart=>exact⟨0,c0,rfl,by omega,H.o0,Fr.refl _ _,rfl⟩
 case round=>
  obtain⟨i,c,rfl,bX,hA,hf,had⟩:=hrel;by_cases hi:i<L
  ·obtain⟨k,rfl⟩:∃k,gk=k+1:=⟨gk-1,by omega⟩;have rS:i<bs.length:=by rw[<-H.l3];exact hi
   have ku:=Af H.o1 hf (λhb x hx hm=>H.o2 hb x hx (by simpa using hm));obtain⟨g1,o1,rfl,cc⟩:=ku.at rS;have hdr:bs.drop i=bs[i]::bs.drop (i+1):=Al rS;rw[hdr,DW]at had;have sM:=iL bs[i];have zu:=zgy c bs[i];obtain⟨C,hC,cV,AB,nZ,kD,fU⟩:=hA;have v7:=zh9 fU bs[i];obtain⟨z,hz⟩:=ai (Gf c bs[i]);rw[<-hz]at had zu v7;generalize bs[i].toNat=b at *;obtain⟨j,hj⟩:=ai (c%256 ^^^ b);have kz:j<256:=by rw[hj];exact Nat.xor_lt_two_pow (n:=8) (by omega) sM
   have ex:=u8_xor (c%256) b (by omega) sM;rw[<-hj,show ((c%256:Nat):Int)=(c:Int)%256 by omega]at ex;rw[<-hj]at zu;have Yc:=zi3 kz;have ez:=u32_xor (c/256) (tb j) (by omega) Yc;rw[<-zu,show ((c/256:Nat):Int)=(c:Int)/256 by omega]at ez;have ct:=cell_of hC (8+j);rw[nZ j kz]at ct;generalize tb j=tj at *;have ca:=cell_of hC 264;rw[kD]at ca;have za:=aW hC 264;have HC:=cJ hC cV AB nZ hf had;clear hC cV AB nZ hf had zu hdr ku rS kD hz hj;go_upto_region 11 with fail;clear cc;refine uO 21 (by kernel_rfl) (by kernel_rfl) ?_;simp only[uF];repeat (go_big_quiet_step (fail))
   refine wpQuiet_nil ?_;go_wp2;go_roundg k;case measure=>omega
   case rel=>have ZV:=bI (w:=wr.drew) (o:=264) (show wr.drew.heap[g]?=_ from HC.o0) (.int .u32 z);refine⟨i+1,z,by go_num,by omega,⟨_,ZV,by simp[HC.o1],by rw[aX (by decide)];exact HC.o2,λt ht=>by rw[aX (by omega)];exact HC.o3 t ht,iG (by rw[HC.o1];decide),v7⟩,(HC.o4.trans (Fr.av [g] wr)).setCell (by simp) _,HC.l5⟩
  ·obtain rfl:gk=0:=by omega
   obtain rfl:i=L:=by omega
   have hd:bs.drop i=[]:=Dh (by rw[<-H.l3];exact ay _);rw[hd]at had;have HA:=aw hA hf had;clear hA hf had hd;go_wp2;go_end0;exact⟨rfl,HA.o1,by rw[<-HA.l2];exact HA.o0⟩
theorem zf2 (g c:Nat) (w:World) (h:Cr w g c):Calls Tryz.prog 96 #[.pointer (some ⟨g,0,none⟩)] w λe w'=>(∃ao q,e = .returned (.slice ao 4 q)/\Rd w' ao q (sums.fX (4294967295-c)))/\Fr [] w w':=by
 obtain⟨C,hC,cV,bZ,_,kD,fU⟩:=h;have c0:=cell_of hC 0;have c1:=cell_of hC 264;rw[bZ]at c0;rw[kD]at c1;obtain⟨z,hz⟩:=ai (4294967295-c);have r1:=zfr c fU;rw[<-hz]at r1;have v7:z<4294967296:=by omega
 rw[<-hz];have HC:=ah hC;clear hz hC cV bZ kD;go_enter Tryz.func96,Tryz.ntmps96;go_upto_region 3 with fail;have yB:=lt_of_block HC.out;obtain⟨B,hB⟩:=ai w.heap.size;have TX:g∉[B]:=by simp;omega
 have s1:∀x,(sup [B] w.drew x).cell? ⟨g,264,none⟩=some (.int .u32 c):=λx=>(dY [B] w.drew x).cell (show w.drew.cell? _=_ from c1) TX
 have lT:∀w:World,(Instr.makeSlice 23 (.int .i64 0) (.int .i64 4)).run Tryz.prog w = .ok (.slice (some ⟨w.heap.size,0,none⟩) 0 4) (w.alloc (.cells #[.int .u8 0,.int .u8 0,.int .u8 0,.int .u8 0] 5)):=λ_=>by kernel_rfl
 have yE:∀w,ej w 5 (some ⟨B,0,none⟩) 4 (([]:LB).map bv)->Calls Tryz.prog 119 #[.slice (some ⟨B,0,none⟩) 0 4,.int .u32 z] w (sums.j1 w (some ⟨B,0,none⟩) [] z):=λw h=>sums.Nu (some ⟨B,0,none⟩) 4 [] z w v7 h (by simp)
 unfold sums.j1 at yE;simp only[kg,ft,qj]at yE;have HB:=ak hB yE;clear hB yE c0 c1;refine j4 8 [(false,1),(false,2),(false,3),(false,4),(false,5),(true,0),(true,6),(false,7)] [B] (by kernel_rfl) (by kernel_rfl) (λ_ _ d _ _ h=>by cases d<;>exact h) ?_;simp only[jm];refine dT 5 rfl ?_;simp only[bD];repeat (go_big_quiet_step (fail))
 refine wpQuiet_nil ?_;refine eT rfl ?_;intro X hX;have ZW:w.drew.heap.size=B:=HB.o0.symm;go_wp2;have f1:Fr [B] w.drew ((w.alloc (.cells #[.int .u8 0,.int .u8 0,.int .u8 0,.int .u8 0] 5)).drew):=(Fr.refl [B] w.drew).alloc (.cells #[.int .u8 0,.int .u8 0,.int .u8 0,.int .u8 0] 5);have aI:ej ((w.alloc (.cells #[.int .u8 0,.int .u8 0,.int .u8 0,.int .u8 0] 5)).drew) 5 (some ⟨B,0,none⟩) 4 (([]:LB).map bv):=.inr ⟨B,0,_,rfl,by rw[HB.o0];exact bC w _,ep _,by decide,ay _,rfl⟩;refine hX.out _ _ f1 ?_;clear hX X s1 lT;generalize (w.alloc (.cells #[.int .u8 0,.int .u8 0,.int .u8 0,.int .u8 0] 5)).drew=w1 at *;have H1:=ak (HB.l1 w1 aI) f1;clear aI f1 ZW;refine eT rfl ?_;intro X hX;go_wp2_with (go_at_call 119;refine H1.o0.mono ?_;rintro e w2 ⟨a2,c2,rfl,A2⟩);refine hX.out _ _ A2.fr ?_;clear hX X;have H2:=ah A2;clear A2;refine dT 1 rfl ?_;simp only[bD];repeat (go_big_quiet_step (fail))
 refine wpQuiet_nil ?_;refine ic ?_;go_wp2;go_ret;have hr:Rd w2 a2 c2 (sums.fX z):=H2.out.own.rd;refine⟨⟨a2,c2,rfl,hr.fr (by first|exact Fr.refl _ _|exact Fr.drewN _ _ _)⟩,?_⟩;have f2:Fr [] w w.drew:=Fr.av [] w;exact ((f2.step H1.l1 (λy hy=>.inr (by simp at hy;rw[hy,HB.o0];exact ay _))).step H2.out.fr (λy hy=>.inr (by simp[af]at hy;rw[hy,HB.o0];exact ay _)))
theorem qxx (a:OA) (cap:Nat) (bs:LB) (w:World) (h:Rd w a cap bs):Calls Tryz.prog 69 #[.int .i64 2,.slice a bs.length cap] w λe w'=>(∃ao c,e = .returned (.slice ao 4 c)/\Rd w' ao c (sums.fX (crc bs)))/\Fr [] w w':=by have H:=ah h;clear h;go_enter Tryz.func69,Tryz.ntmps69;go_upto_region 2 with (go_at_call 106;refine (zbf _).mono ?_;rintro e w1 ⟨rfl,A1,f1⟩);have hw:=qxu w.heap.size 4294967295 cap a bs w1 A1 (H.out.fr f1) (λhb x hx=>by have:=A7 H.out hb x hx;omega);have H1:=ak hw f1;clear hw f1 A1;go_upto_region 3 with (go_at_call 94;refine H1.o0.mono ?_;rintro e w2 ⟨rfl,f2,A2⟩);have hs:=zf2 _ _ w2 A2;have H2:=ak hs f2;clear hs f2 A2;go_wp2_with (go_at_call 96;refine H2.o0.mono ?_;rintro e w3 ⟨⟨a3,c3,rfl,r3⟩,f3⟩);go_ret;exact⟨⟨a3,c3,rfl,r3⟩,(H1.l1.step H2.l1 (λy hy=>.inr (by simp at hy;rw[hy];exact ay _))).trans f3⟩
theorem ziq (bs:LB):crc bs<4294967296:=by unfold crc;omega
theorem zhc (a:OA) (cap:Nat) (bs:LB) (w:World) (h:Rd w a cap bs):Calls Tryz.prog 76 #[.slice a bs.length cap] w λe w'=>e = .returned (.int .u32 (crc bs:Nat))/\Fr [] w w':=by
 have hw:=qxx a cap bs w h;have hn:=λa cap w h=>sums.qo1 a cap (crc bs) w (ziq bs) h
 have H:=ak hw hn;clear hw hn h;go_enter Tryz.func76,Tryz.ntmps76;go_wp2_with (first|(go_at_call 69;refine H.o0.mono ?_;rintro e w1 ⟨⟨a1,c1,rfl,r1⟩,f1⟩;have H1:=ak r1 f1;clear r1 f1)|(go_at_call 111;refine (H.l1 a1 c1 _ H1.o0).mono ?_;rintro e w2 ⟨rfl,f2⟩));go_ret;exact⟨rfl,H1.l1.trans f2⟩
end crc
namespace pk
open Go Go.RowKit lib bm
theorem cK:(Tryz.prog.info? 65).map (·.size)=some 7:=by kernel_rfl
theorem FW {fn:Func} {p u:Tmp} (h:fn.results=#[.cell p 65,.tmp u]) (tmps:AV) (w:World) (g:Nat) (cs:AV) (fr:Nat×Nat)
  (hp:tmps.getD p undef = .pointer (some ⟨g,0,none⟩)) (hg:w.heap[g]?=some (.cells cs 65 fr)) (hs:cs.size=7) :
  (results fn tmps).run Tryz.prog w = .ok (.tuple #[.agg cs,tmps.getD u undef]) w:=by
 rw[results_cell_tmp h];have h1:=run_loadVar_row (P:=Tryz.prog) w g 65 65 cs fr _ hg Tryz.underlying65 rfl (by rw[cK,hs]);simp only[hp,asAddr,Sem.run_pure,Ia,h1]
theorem qZ.QK {S:LN} {w w':World} {r:Nat} {a:OA} {cap at_:Nat} {bs:LB} (h:qZ w r a cap bs at_) (f:Fr S w w') (hr:r∉S) (hn:bs≠[]->∀x∈af a,x∉S):qZ w' r a cap bs at_:=
 ⟨f.af h.box hr,Af h.rd f hn,h.le,h.off⟩
theorem zdk {bs out:LB} {m k:Nat} (h:inf.kK bs m = .ok (out,k)):k<=bs.length:=by
 unfold inf.kK at h;split at h
 ·cases h
 ·split at h
  ·cases h
  ·split at h
   ·cases h
   ·split at h
    ·cases h
    ·split at h
     ·simp only[gW,fj]at h;omega
     ·cases h
def sf (x:ek) (da:OA) (dc:Nat):Array Value:=#[.int .i64 (x.kind:Nat),.int .i64 (x.at_:Nat),.int .i64 (x.size:Nat),.int .u32 (x.crc:Nat),.slice da x.data.length dc,.string (str x.base),.int .i64 (x.off:Nat)]
def Kp (w:World) (r:Nat) (a:OA) (cap:Nat) (bs:LB) (P:Except Nat (ek×Nat)) (e:Ending) (w':World):Prop:=
 Fr [r] w w'/\((∃x V,P = .error x/\0<x/\x<100/\e = .returned (.tuple #[.agg V,.int .i64 (x:Nat)])/\V.size=7/\V.all (·.oneCell')=true)\/
  ∃x q da,P = .ok (x,q)/\e = .returned (.tuple #[.agg (sf x da x.data.length),.int .i64 0])/\qZ w' r a cap bs q/\lib.Rd w' da x.data.length x.data/\(∀y∈af da,w.heap.size<=y/\y<w'.heap.size))
theorem qw6 (r:Nat) (a:OA) (cap:Nat) (bs:LB) (at_:Nat) (w:World) (h:qZ w r a cap bs at_) (hlen:bs.length<=100000000) :
  Calls Tryz.prog 44 #[.pointer (some ⟨r,0,none⟩)] w (Kp w r a cap bs (ig bs at_)):=by
 obtain⟨P,hP⟩:=ai (ig bs at_);rw[<-hP];unfold ig at hP;have hrw:=lt_of_block h.box;have c1:w.cell? ⟨r,1,none⟩=some (.int .i64 at_):=by rw[cell_of h.box];rfl
 have halt:bs≠[]->∀x∈af a,x<w.heap.size:=λhb=>A7 h.rd hb
 have H:=aG h hlen hP halt;have hle:=h.le;clear h hlen hP halt;go_enter Tryz.func44,Tryz.ntmps44;go_upto_region 2 with fail;obtain⟨B,w1,hB,cP,fM,f1⟩:∃B w1,B=w.heap.size/\w1=w.alloc (.cells #[.int .i64 0,.int .i64 (at_:Nat),.int .i64 0,.int .u32 0,.slice none 0 0,.string ⟨#[]⟩,.int .i64 0] 65)/\w1.heap[B]?=some (.cells #[.int .i64 0,.int .i64 (at_:Nat),.int .i64 0,.int .u32 0,.slice none 0 0,.string ⟨#[]⟩,.int .i64 0] 65 (0,0))/\Fr [] w w1:=
  ⟨_,_,rfl,rfl,bC w _,(Fr.refl [] w).alloc _⟩
 rw[<-cP,<-hB];have hBr:r≠B:=by omega
 have AZ:=H.o0.fr f1;have hd:=qz9 r a cap bs at_ w1 AZ H.o1;have hBa:bs≠[]->∀x∈af a,x≠B:=λhb x hx=>by have:=H.l3 hb x hx;omega
 have H1:=aQ fM f1 hd hB hBa;clear fM f1 hd hB cP AZ c1 hBa;go_upto_region 3 with (go_at_call 73;refine H1.o2.mono ?_;rintro e w2 ⟨f2,h2⟩;have kT:=f2.af H1.o0 (by simp;omega);have c0:=cell_of kT 0;have c2:=cell_of kT 2;have z0:=aW kT 0;have z2:=aW kT 2;simp only[bF,aT,bP]at c0 c2;have H2:=ak kT f2;clear kT f2;rcases h2 with⟨x,hx,k0,k1,rfl⟩|⟨k,s,n,hk,hk8,hs,rfl,MU⟩)
 ·obtain⟨w3,jR,ju,f3⟩:∃w3,w3=(w2.setCell ⟨B,0,none⟩ (.int .i64 0)).setCell ⟨B,2,none⟩ (.int .i64 0)/\w3.heap[B]?=some (.cells #[.int .i64 0,.int .i64 (at_:Nat),.int .i64 0,.int .u32 0,.slice none 0 0,.string ⟨#[]⟩,.int .i64 0] 65 (0,0))/\Fr [r] w w3:=
   ⟨_,rfl,(bI (bI H2.o0 _) _).trans rfl,((((H1.o1.mono (T:=[r]) (by simp)).trans H2.l1).setCell (.inr (by rw[H1.o3];exact ay _)) _).setCell (.inr (by rw[H1.o3];exact ay _)) _)⟩
  rw[<-jR]
  have HX:=aw ju f3 hx
  have d0:((x:Int)!=0)=true:=by simp;omega
  clear ju f3 hx jR c0 c2 z0 z2
  go_wp2_with (first|(refine wpList_load_row rfl 65 (.tmp 2) rfl B rfl 65 #[.int .i64 0,.int .i64 at_,.int .i64 0,.int .u32 0,.slice none 0 0,.string ⟨#[]⟩,.int .i64 0] (0,0) _ HX.o0 Tryz.underlying65 rfl cK ?_)|(refine wpList_store_row rfl 65 (.tmp 2) (.tmp 25) rfl B #[.int .i64 0,.int .i64 at_,.int .i64 0,.int .u32 0,.slice none 0 0,.string ⟨#[]⟩,.int .i64 0] rfl rfl 65 #[.int .i64 0,.int .i64 at_,.int .i64 0,.int .u32 0,.slice none 0 0,.string ⟨#[]⟩,.int .i64 0] HX.o0 cK rfl (by kernel_rfl) ?_))
  refine bodyPost_ret (FW rfl _ _ B #[.int .i64 0,.int .i64 at_,.int .i64 0,.int .u32 0,.slice none 0 0,.string ⟨#[]⟩,.int .i64 0] (0,0) rfl (setRow_heap _ _ _ _ _ _ HX.o0) rfl) rfl ?_
  exact⟨HX.l1.1.setRow (.inr (by rw[H1.o3];exact ay _)) _,.inl ⟨x,_,by rw[H.o2,HX.l1.2],k0,k1,rfl,rfl,by kernel_rfl⟩⟩
 ·obtain⟨w3,jR,ju,f3,f23⟩:∃w3,w3=(w2.setCell ⟨B,0,none⟩ (.int .i64 (k:Nat))).setCell ⟨B,2,none⟩ (.int .i64 (s:Nat))/\w3.heap[B]?=some (.cells #[.int .i64 (k:Nat),.int .i64 (at_:Nat),.int .i64 (s:Nat),.int .u32 0,.slice none 0 0,.string ⟨#[]⟩,.int .i64 0] 65 (0,0))/\Fr [r] w w3/\Fr [B] w2 w3:=
   ⟨_,rfl,(bI (bI H2.o0 _) _).trans rfl,((((H1.o1.mono (T:=[r]) (by simp)).trans H2.l1).setCell (.inr (by rw[H1.o3];exact ay _)) _).setCell (.inr (by rw[H1.o3];exact ay _)) _),(((Fr.refl [B] w2).setCell (by simp) _).setCell (by simp) _)⟩
  rw[<-jR]
  have sr:=MU.QK f23 (by simp;omega) (λhb x hx hm=>H1.l4 hb x hx (by simpa using hm))
  have wk:n<=(bs.drop at_).length:=(M6 _ _ _ _ _ hk).2.2.1
  rw[eV]at wk
  have pL:=(M6 _ _ _ _ _ hk).1
  obtain⟨p,hp⟩:=ai (at_+n)
  have hP:=H.o2
  rw[hk]at hP
  simp only at hP
  rw[<-hp]at hP sr
  have fY:p<=bs.length:=by omega
  have j8:=ju
  have c0:=cell_of ju 0
  have c1:=cell_of ju 1
  have z5:=aW ju 5
  have z6:=aW ju 6
  have c5:=cell_of ju 5
  have c6:=cell_of ju 6
  simp only[bF,aT,bP]at c0 c1 c5 c6
  have Qf:bs≠[]:=λe=>by rw[e]at wk;simp at wk;omega
  have H3:=aQ ju f3 sr hP hp
  have HN:=ah Qf
  clear ju j8 f3 f23 sr hP hp hk jR wk MU Qf z0 z2 c2
  go_upto_block 0 with fail
  go_cut [29] from 4 to 67 (λs29 wc=>∃base off q,gj bs at_ k p = .ok (base,off,q)/\wc.heap[B]?=some (.cells #[.int .i64 (k:Nat),.int .i64 (at_:Nat),.int .i64 (s:Nat),.int .u32 0,.slice none 0 0,.string (str base),.int .i64 (off:Nat)] 65 (0,0))/\qZ wc r a cap bs q/\Fr [r] w wc)
  case first=>
   by_cases k6:k=6
   ·subst k6
    have hb:=zbl r a cap bs p w3 H3.o2 H.o1
    have lI:∀x,x=sA (bs.drop p)->gj bs at_ 6 p=match x with
      | .error e=>.error e
      | .ok (v,k)=>if v<1\/at_<v then .error 3 else .ok ([],at_-v,p+k):=by rintro x rfl;rfl
    obtain⟨Q,hQ⟩:=ai (sA (bs.drop p))
    have lI:=lI Q hQ
    rw[<-hQ]at hb
    have HQ:=aw hb lI hQ
    clear hb lI hQ c0 c1 c5 c6 z5 z6
    go_upto_region 8 with (go_at_call 74;refine HQ.out.1.mono ?_;rintro e w4 ⟨f4,(⟨x,hx,k0,k1,rfl⟩|⟨v,m,hv,Dp,rfl,mK⟩)⟩)
    ·have j8:=f4.af H3.o0 (by simp;omega)
     have HX:=aw j8 (H3.o1.trans f4) hx
     have d0:((x:Int)!=0)=true:=by simp;omega
     clear j8 f4 hx
     go_wp2_with (first|(refine wpList_load_row rfl 65 (.tmp 2) rfl B rfl 65 #[.int .i64 ((6:Nat):Int),.int .i64 at_,.int .i64 s,.int .u32 0,.slice none 0 0,.string ⟨#[]⟩,.int .i64 0] (0,0) _ HX.o0 Tryz.underlying65 rfl cK ?_)|(refine wpList_store_row rfl 65 (.tmp 2) (.tmp 38) rfl B #[.int .i64 ((6:Nat):Int),.int .i64 at_,.int .i64 s,.int .u32 0,.slice none 0 0,.string ⟨#[]⟩,.int .i64 0] rfl rfl 65 #[.int .i64 ((6:Nat):Int),.int .i64 at_,.int .i64 s,.int .u32 0,.slice none 0 0,.string ⟨#[]⟩,.int .i64 0] HX.o0 cK rfl (by kernel_rfl) ?_))
     refine bodyPost_ret (FW rfl _ _ B #[.int .i64 ((6:Nat):Int),.int .i64 at_,.int .i64 s,.int .u32 0,.slice none 0 0,.string ⟨#[]⟩,.int .i64 0] (0,0) rfl (setRow_heap _ _ _ _ _ _ HX.o0) rfl) rfl ?_
     exact⟨HX.l1.1.setRow (.inr (by rw[H1.o3];exact ay _)) _,.inl ⟨x,_,by rw[H3.o3,HQ.out.2.1,HX.l1.2],k0,k1,rfl,rfl,by kernel_rfl⟩⟩
    ·have j8:=f4.af H3.o0 (by simp;omega)
     have c1:=cell_of j8 1
     have c6:=cell_of j8 6
     have z6:=aW j8 6
     simp only[bF,aT,bP]at c1 c6
     have tQ:gj bs at_ 6 p=if v<1\/at_<v then .error 3 else .ok ([],at_-v,p+m):=by rw[HQ.out.2.1,hv]
     have HX:=aG j8 (H3.o1.trans f4) tQ mK
     clear j8 f4 hv tQ mK
     by_cases u6:v=0
     ·subst u6
      have HV:=ah (show gj bs at_ 6 p = .error 3 by rw[HX.l1.2.1,if_pos (by omega)])
      clear c1 c6 z6
      go_wp2_with (first|(refine wpList_load_row rfl 65 (.tmp 2) rfl B rfl 65 #[.int .i64 ((6:Nat):Int),.int .i64 at_,.int .i64 s,.int .u32 0,.slice none 0 0,.string ⟨#[]⟩,.int .i64 0] (0,0) _ HX.o0 Tryz.underlying65 rfl cK ?_)|(refine wpList_store_row rfl 65 (.tmp 2) (.tmp 48) rfl B #[.int .i64 ((6:Nat):Int),.int .i64 at_,.int .i64 s,.int .u32 0,.slice none 0 0,.string ⟨#[]⟩,.int .i64 0] rfl rfl 65 #[.int .i64 ((6:Nat):Int),.int .i64 at_,.int .i64 s,.int .u32 0,.slice none 0 0,.string ⟨#[]⟩,.int .i64 0] HX.o0 cK rfl (by kernel_rfl) ?_))
      refine bodyPost_ret (FW rfl _ _ B #[.int .i64 ((6:Nat):Int),.int .i64 at_,.int .i64 s,.int .u32 0,.slice none 0 0,.string ⟨#[]⟩,.int .i64 0] (0,0) rfl (setRow_heap _ _ _ _ _ _ HX.o0) rfl) rfl ?_
      exact⟨HX.l1.1.setRow (.inr (by rw[H1.o3];exact ay _)) _,.inl ⟨3,_,by rw[H3.o3,HV.out],by decide,by decide,rfl,rfl,by kernel_rfl⟩⟩
     ·have d0:((v:Int)==0)=false:=by simp;omega
      by_cases hva:at_<v
      ·have HV:=ah (show gj bs at_ 6 p = .error 3 by rw[HX.l1.2.1,if_pos (by omega)])
       clear c6 z6 u6
       go_wp2_with (first|(refine wpList_load_row rfl 65 (.tmp 2) rfl B rfl 65 #[.int .i64 ((6:Nat):Int),.int .i64 at_,.int .i64 s,.int .u32 0,.slice none 0 0,.string ⟨#[]⟩,.int .i64 0] (0,0) _ HX.o0 Tryz.underlying65 rfl cK ?_)|(refine wpList_store_row rfl 65 (.tmp 2) (.tmp 48) rfl B #[.int .i64 ((6:Nat):Int),.int .i64 at_,.int .i64 s,.int .u32 0,.slice none 0 0,.string ⟨#[]⟩,.int .i64 0] rfl rfl 65 #[.int .i64 ((6:Nat):Int),.int .i64 at_,.int .i64 s,.int .u32 0,.slice none 0 0,.string ⟨#[]⟩,.int .i64 0] HX.o0 cK rfl (by kernel_rfl) ?_))
       refine bodyPost_ret (FW rfl _ _ B #[.int .i64 ((6:Nat):Int),.int .i64 at_,.int .i64 s,.int .u32 0,.slice none 0 0,.string ⟨#[]⟩,.int .i64 0] (0,0) rfl (setRow_heap _ _ _ _ _ _ HX.o0) rfl) rfl ?_
       exact⟨HX.l1.1.setRow (.inr (by rw[H1.o3];exact ay _)) _,.inl ⟨3,_,by rw[H3.o3,HV.out],by decide,by decide,rfl,rfl,by kernel_rfl⟩⟩
      ·have HV:=ah (show gj bs at_ 6 p = .ok ([],at_-v,p+m) by rw[HX.l1.2.1,if_neg (by omega)])
       have d1:decide (at_<v)=false:=by simp;omega
       obtain⟨off,kN⟩:=ai (at_-v)
       have zcS:(at_:Int)-v=(off:Int):=by omega
       have HO:=ah kN
       have zB:off<=100000000:=by have:=H.o1;omega
       have zbA:v<=at_:=by omega
       clear hva u6 kN
       go_wp2
       go_meet
       case rel=>exact⟨[],off,p+m,by rw[HV.out,HO.out],(bI HX.o0 _).trans rfl,HX.l1.2.2.QK ((Fr.refl [B] w4).setCell (by simp) _) (by simp;omega) (λhb x hx hm=>H1.l4 hb x hx (by simpa using hm)),HX.l1.1.setCell (.inr (by rw[H1.o3];exact ay _)) _⟩
   ·have d6:((k:Int)==6)=false:=by simp;omega
    by_cases k7:k=7
    ·subst k7
     by_cases uC:bs.length-p<20
     ·have ht:=FN r a cap bs p 20 w3 H3.o2 H.o1 (by omega)
      have lI:gj bs at_ 7 p = .error 4:=by unfold gj;rw[if_neg (by decide),if_pos rfl,if_pos uC]
      have HQ:=ak ht lI
      clear ht lI c0 c1 c5 c6 z5 z6 uC
      go_upto_region 15 with (go_at_call 43;refine HQ.out.1.mono ?_;rintro e w4 ⟨rfl,f4⟩)
      have j8:=f4.af H3.o0 (by simp)
      have HX:=ak j8 (H3.o1.step f4 (by simp))
      clear j8 f4
      go_wp2_with (first|(refine wpList_load_row rfl 65 (.tmp 2) rfl B rfl 65 #[.int .i64 ((7:Nat):Int),.int .i64 at_,.int .i64 s,.int .u32 0,.slice none 0 0,.string ⟨#[]⟩,.int .i64 0] (0,0) _ HX.o0 Tryz.underlying65 rfl cK ?_)|(refine wpList_store_row rfl 65 (.tmp 2) (.tmp 63) rfl B #[.int .i64 ((7:Nat):Int),.int .i64 at_,.int .i64 s,.int .u32 0,.slice none 0 0,.string ⟨#[]⟩,.int .i64 0] rfl rfl 65 #[.int .i64 ((7:Nat):Int),.int .i64 at_,.int .i64 s,.int .u32 0,.slice none 0 0,.string ⟨#[]⟩,.int .i64 0] HX.o0 cK rfl (by kernel_rfl) ?_))
      refine bodyPost_ret (FW rfl _ _ B #[.int .i64 ((7:Nat):Int),.int .i64 at_,.int .i64 s,.int .u32 0,.slice none 0 0,.string ⟨#[]⟩,.int .i64 0] (0,0) rfl (setRow_heap _ _ _ _ _ _ HX.o0) rfl) rfl ?_
      exact⟨HX.l1.setRow (.inr (by rw[H1.o3];exact ay _)) _,.inl ⟨4,_,by rw[H3.o3,HQ.out.2],by decide,by decide,rfl,rfl,by kernel_rfl⟩⟩
     ·have ht:=Dd r a cap bs p 20 w3 H3.o2 H.o1 (by omega)
      have lI:gj bs at_ 7 p = .ok (gH ((bs.drop p).take 20),0,p+20):=by unfold gj;rw[if_neg (by decide),if_pos rfl,if_neg uC]
      obtain⟨ap,bN⟩:=ai (cutAt a cap p)
      rw[<-bN]at ht
      have mz:((bs.drop p).take 20).length=20:=by rw[dU,eV];omega
      have EH:=λw' (f:Fr [r] w3 w')=>(Af H3.o2.rd f (λhb x hx hm=>H3.o2.off hb x hx (by simpa using hm))).mid p 20 (by omega)
      rw[<-bN]at EH
      obtain⟨bp,uw⟩:=ai ((bs.drop p).take 20)
      rw[<-uw]at lI mz EH
      have Y5:=λw' (f:Fr [r] w3 w')=>R0 ap (cap-p) bp w' (EH w' f) (by omega)
      rw[mz]at Y5
      have HQ:=aw ht lI Y5
      clear ht lI c0 c1 c5 c6 z5 z6 uC bN mz EH uw Y5
      go_upto_region 17 with (go_at_call 43;refine HQ.out.1.mono ?_;rintro e w4 ⟨rfl,mK,f4⟩)
      have j8:=f4.af H3.o0 (by simp;omega)
      have HX:=aw j8 f4 mK
      clear j8 f4 mK
      go_wp2_with (go_at_call 46;refine (HQ.out.2.2 _ HX.l1.1).mono ?_;rintro e w5 ⟨rfl,f5⟩;have oo:=f5.af HX.o0 (by simp);have c5:=cell_of oo 5;have z5:=aW oo 5;simp only[bF,aT,bP]at c5;have H5:=ak oo f5;clear oo f5)
      go_meet
      case rel=>exact⟨gH bp,0,p+20,HQ.out.2.1,(bI H5.o0 _).trans rfl,(HX.l1.2.fr H5.l1).QK ((Fr.refl [B] w5).setCell (by simp) _) (by simp;omega) (λhb x hx hm=>H1.l4 hb x hx (by simpa using hm)),((H3.o1.trans HX.l1.1).step H5.l1 (by simp)).setCell (.inr (by rw[H1.o3];exact ay _)) _⟩
    ·have d7:((k:Int)==7)=false:=by simp;omega
     have lI:gj bs at_ k p = .ok ([],0,p):=by unfold gj;rw[if_neg k6,if_neg k7]
     have HQ:=ah lI
     clear lI k6 k7
     go_wp2
     go_meet
     case rel=>exact⟨[],0,p,HQ.out,H3.o0,H3.o2,H3.o1⟩
  case rest=>
   obtain⟨base,off,q,dV,j8,mK,f4⟩:=hcut
   obtain⟨hpq,Yr,bQ,zbH⟩:=qu2 fY dV
   obtain⟨L,hL⟩:=ai bs.length
   have ZO:L<=100000000:=by rw[hL];exact H.o1
   have cZ:=mK.rd.le
   have dK:=mK.rd.max
   unfold maxLen at dK
   obtain⟨Z,hZ⟩:=ai (inf.kK (bs.drop q) 65536)
   have hP:=H3.o3
   rw[dV]at hP
   simp only at hP
   rw[<-hZ]at hP
   have hz:∀w',Fr [] wc w'->Calls Tryz.prog 75 #[.slice (aL a cap q 1) (L-q:Nat) (cap-q),.int .i64 65536] w' (inf.pT w' Z):=λw' f=>by
    have:=inf.zbw (aL a cap q 1) (cap-q) (bs.drop q) 65536 w' ((mK.rd.fr f).drop q Yr) (by rw[eV];omega) (by decide)
    rw[eV,<-hL,<-hZ]at this
    exact this
   have c0:wc.drew.cell? ⟨r,0,none⟩=some (.slice a L cap):=(show wc.cell? _=_ by rw[cell_of mK.box,hL];rfl)
   have c1:wc.drew.cell? ⟨r,1,none⟩=some (.int .i64 q):=(show wc.cell? _=_ by rw[cell_of mK.box];rfl)
   rw[<-hL]at Yr cZ fY hle
   have HB:=dk j8 mK f4 hP hz hL hZ
   clear j8 mK f4 hP hz dV hZ hL
   go_upto_region 18 with fail
   have s0:∀x,(sup [] wc.drew x).cell? ⟨r,0,none⟩=some (.slice a L cap):=λx=>(dY [] wc.drew x).cell c0 (by simp)
   have s1:∀x,(sup [] wc.drew x).cell? ⟨r,1,none⟩=some (.int .i64 q):=λx=>(dY [] wc.drew x).cell c1 (by simp)
   have hsl:=λw'=>lib.Lx aq q a L cap (q:Nat) rfl Yr cZ w'
   refine j4 17 [(false,0),(false,1),(false,2),(false,3),(false,4),(false,5),(false,6),(false,7),(false,8),(true,9),(false,10),(false,11),(false,12),(false,13),(false,14),(false,15),(false,16)] [] (by kernel_rfl) (by kernel_rfl) (λ_ _ d _ _ h=>by cases d<;>exact h) ?_
   simp only[jm]
   refine dT 9 rfl ?_
   simp only[bD]
   repeat (go_big_quiet_step (fail))
   refine wpQuiet_nil ?_
   clear s0 s1 hsl c0 c1
   refine eT rfl ?_
   intro X hX
   go_wp2_with (go_at_call 75;refine (HB.o4 _ (Fr.av [] wc)).mono ?_;rintro e w5 (⟨x,hx,k0,k1,rfl,f5⟩|⟨out,used,ao,jb,rfl,DP,nbo,f5⟩))
   ·refine hX.out _ _ f5 ?_
    clear hX X
    refine dT 7 rfl ?_
    simp only[bD]
    repeat (go_big_quiet_step (fail))
    refine wpQuiet_nil ?_
    refine ic ?_
    have wD:=(Fr.av [] wc).trans f5
    have oo:=wD.af HB.o0 (by simp)
    have HX:=aw oo (HB.o2.step wD (by simp)) hx
    have d0:((x:Int)!=0)=true:=by simp;omega
    clear oo wD f5 hx
    go_wp2_with (first|(refine wpList_load_row rfl 65 (.tmp 2) rfl B rfl 65 #[.int .i64 k,.int .i64 at_,.int .i64 s,.int .u32 0,.slice none 0 0,.string (str base),.int .i64 off] (0,0) _ HX.o0 Tryz.underlying65 rfl cK ?_)|(refine wpList_store_row rfl 65 (.tmp 2) (.tmp 84) rfl B #[.int .i64 k,.int .i64 at_,.int .i64 s,.int .u32 0,.slice none 0 0,.string (str base),.int .i64 off] rfl rfl 65 #[.int .i64 k,.int .i64 at_,.int .i64 s,.int .u32 0,.slice none 0 0,.string (str base),.int .i64 off] HX.o0 cK rfl (by kernel_rfl) ?_))
    refine bodyPost_ret (FW rfl _ _ B #[.int .i64 k,.int .i64 at_,.int .i64 s,.int .u32 0,.slice none 0 0,.string (str base),.int .i64 off] (0,0) rfl (setRow_heap _ _ _ _ _ _ HX.o0) rfl) rfl ?_
    exact⟨HX.l1.1.setRow (.inr (by rw[H1.o3];exact ay _)) _,.inl ⟨x,_,by rw[HB.o3,HX.l1.2],k0,k1,rfl,rfl,by kernel_rfl⟩⟩
   ·refine hX.out _ _ f5 ?_
    clear hX X
    refine dT 7 rfl ?_
    simp only[bD]
    repeat (go_big_quiet_step (fail))
    refine wpQuiet_nil ?_
    refine ic ?_
    have wD:=(Fr.av [] wc).trans f5
    have oo:=wD.af HB.o0 (by simp)
    have c2:=cell_of oo 2
    simp only[bF,aT,bP]at c2
    have Cm:P=if out.length=s then .ok (⟨k,at_,s,crc.crc ((bs.drop at_).take (q+used-at_)),out,base,off⟩,q+used) else .error 3:=by rw[HB.o3,jb]
    have LR:q+used<=L:=by
     have:=zdk (by rw[<-HB.l6];exact jb:inf.kK (bs.drop q) 65536 = .ok (out,used))
     rw[eV,<-HB.o5]at this
     omega
    have Gw:=DP.max
    unfold maxLen at Gw
    obtain⟨N,hN⟩:=ai out.length
    rw[<-hN]at Cm DP Gw ⊢
    have HX:=cJ oo wD Cm DP nbo hN
    clear oo wD f5 jb Cm DP nbo hN
    by_cases dE:N=s
    ·have zP:=HX.l1.2.1
     rw[if_pos dE]at zP
     have hd:((N:Int)!=s)=false:=by simp;omega
     have uh:=HB.o1.fr HX.l1.1
     have c0:w5.cell? ⟨r,0,none⟩=some (.slice a L cap):=by rw[cell_of uh.box,HB.o5];rfl
     have c1:w5.cell? ⟨r,1,none⟩=some (.int .i64 q):=by rw[cell_of uh.box];rfl
     have z1:=aW uh.box 1
     have CR:=ak zP uh
     clear zP uh dE
     go_upto_region 24 with fail
     obtain⟨u,hu⟩:=ai (q+used)
     have eu:(q:Int)+(used:Int)=(u:Int):=by omega
     obtain⟨w6,pK⟩:∃w6,w6=w5.setCell ⟨r,1,none⟩ (.int .i64 ((q:Int)+(used:Int))):=⟨_,rfl⟩
     rw[<-pK]
     have f6:Fr [r] w5 w6:=by rw[pK];exact (Fr.refl [r] w5).setCell (by simp) _
     have Cg:=bI (o:=1) CR.out.2.box (.int .i64 ((q:Int)+(used:Int)))
     rw[<-pK,eu]at Cg
     have uI:qZ w6 r a cap bs u:=⟨Cg.trans rfl,Af CR.out.2.rd f6 (λhb x hx hm=>CR.out.2.off hb x hx (by simpa using hm)),by rw[<-HB.o5,hu];exact LR,CR.out.2.off⟩
     have rX:=f6.af HX.o0 (by simp;omega)
     have k0:w6.drew.cell? ⟨r,0,none⟩=some (.slice a L cap):=(show w6.cell? _=_ by rw[cell_of uI.box,HB.o5];rfl)
     have k1:w6.drew.cell? ⟨r,1,none⟩=some (.int .i64 u):=(show w6.cell? _=_ by rw[cell_of uI.box];rfl)
     have k2:w6.drew.cell? ⟨B,1,none⟩=some (.int .i64 at_):=(show w6.cell? _=_ by rw[cell_of rX];rfl)
     have s0:∀x,(sup [] w6.drew x).cell? ⟨r,0,none⟩=some (.slice a L cap):=λx=>(dY [] w6.drew x).cell k0 (by simp)
     have s1:∀x,(sup [] w6.drew x).cell? ⟨r,1,none⟩=some (.int .i64 u):=λx=>(dY [] w6.drew x).cell k1 (by simp)
     have s2:∀x,(sup [] w6.drew x).cell? ⟨B,1,none⟩=some (.int .i64 at_):=λx=>(dY [] w6.drew x).cell k2 (by simp)
     obtain⟨m,hm⟩:=ai (u-at_)
     have hmu:at_+m=u:=by have:=H3.l4;omega
     have hsl:=λw'=>lib.run_slice_lh aq at_ m a L cap (at_:Nat) (u:Nat) rfl (by omega) (by omega) w'
     obtain⟨cr,Mi⟩:=ai (crc.crc ((bs.drop at_).take m))
     have kD:∀w',Fr [] w6 w'->Calls Tryz.prog 76 #[.slice (cutAt a cap at_) m (cap-at_)] w' λe Fs=>e = .returned (.int .u32 cr)/\Fr [] w' Fs:=λw' f=>by
      have pn:=(uI.rd.fr f).mid at_ m (by have:=HB.o5;omega)
      have:=crc.zhc _ _ _ w' pn
      rwa [show ((bs.drop at_).take m).length=m by rw[dU,eV];have:=HB.o5;omega,<-Mi]at this
     have HD:=dk rX uI f6 kD Mi hm hu
     clear rX uI f6 kD Mi Cg pK eu hu hm LR c0 c1 c2 z1 k0 k1 k2
     refine j4 14 [(false,0),(false,1),(false,2),(false,3),(false,4),(false,5),(false,6),(false,7),(false,8),(false,9),(false,10),(false,11),(false,13),(true,12)] [] (by kernel_rfl) (by kernel_rfl) (λ_ _ d _ _ h=>by cases d<;>exact h) ?_
     simp only[jm]
     refine dT 13 rfl ?_
     simp only[bD]
     repeat (go_big_quiet_step (fail))
     refine wpQuiet_nil ?_
     clear s0 s1 s2 hsl
     refine eT rfl ?_
     intro X hX
     go_wp2_with (go_at_call 76;refine (HD.o3 _ (Fr.av [] w6)).mono ?_;rintro e w7 ⟨rfl,f7⟩)
     refine hX.out _ _ f7 ?_
     clear hX X
     refine ic ?_
     have Z6:=(Fr.av [] w6).trans f7
     have Mm:=Z6.af HD.o0 (by simp)
     have c3:=cell_of Mm 3
     have c4:=cell_of Mm 4
     have z3:=aW Mm 3
     have z4:=aW Mm 4
     simp only[bF,aT,bP]at c3 c4
     have H7:=ak Mm Z6
     clear Mm Z6 f7
     go_upto_region 25 with fail
     obtain⟨w8,Tn⟩:∃w8,w8=(w7.setCell ⟨B,4,none⟩ (.slice ao N N)).setCell ⟨B,3,none⟩ (.int .u32 (cr:Nat)):=⟨_,rfl⟩
     rw[<-Tn]
     have uy:w8.heap[B]?=some (.cells #[.int .i64 k,.int .i64 at_,.int .i64 s,.int .u32 cr,.slice ao N N,.string (str base),.int .i64 off] 65 (0,0)):=by rw[Tn];exact (bI (bI H7.o0 _) _).trans rfl
     have f8:Fr [B] w7 w8:=by rw[Tn];exact ((Fr.refl [B] w7).setCell (by simp) _).setCell (by simp) _
     have H8:=ak uy f8
     clear uy f8 Tn c3 c4 z3 z4
     go_wp2_with (first|(refine wpList_load_row rfl 65 (.tmp 2) rfl B rfl 65 #[.int .i64 k,.int .i64 at_,.int .i64 s,.int .u32 cr,.slice ao N N,.string (str base),.int .i64 off] (0,0) _ H8.o0 Tryz.underlying65 rfl cK ?_)|(refine wpList_store_row rfl 65 (.tmp 2) (.tmp 115) rfl B #[.int .i64 k,.int .i64 at_,.int .i64 s,.int .u32 cr,.slice ao N N,.string (str base),.int .i64 off] rfl rfl 65 #[.int .i64 k,.int .i64 at_,.int .i64 s,.int .u32 cr,.slice ao N N,.string (str base),.int .i64 off] H8.o0 cK rfl (by kernel_rfl) ?_))
     refine bodyPost_ret (FW rfl _ _ B #[.int .i64 k,.int .i64 at_,.int .i64 s,.int .u32 cr,.slice ao N N,.string (str base),.int .i64 off] (0,0) rfl (setRow_heap _ _ _ _ _ _ H8.o0) rfl) rfl ?_
     have fB:Fr [B] w6 (w8.setRow B #[.int .i64 k,.int .i64 at_,.int .i64 s,.int .u32 cr,.slice ao N N,.string (str base),.int .i64 off]):=((H7.l1.mono (T:=[B]) (by simp)).trans H8.l1).setRow (by simp) _
     have f56:Fr [r] w5 w6:=HD.o2
     have cR:Fr [r] w (w8.setRow B #[.int .i64 k,.int .i64 at_,.int .i64 s,.int .u32 cr,.slice ao N N,.string (str base),.int .i64 off]):=((HB.o2.step HX.l1.1 (by simp)).trans f56).step fB (λy hy=>.inr (by simp at hy;rw[hy,H1.o3];exact ay _))
     have pg:=HB.o2.size
     have tR:∀y∈af ao,w.heap.size<y/\y<w5.heap.size:=λy hy=>by
      have h1:=HX.l1.2.2.2.1 y hy
      have h2:=lt_of_block HB.o0
      have h3:=H1.o3
      have h4:wc.drew.heap.size=wc.heap.size:=rfl
      omega
     refine⟨cR,.inr ⟨⟨k,at_,s,cr,out,base,off⟩,u,ao,?_,?_,HD.o1.QK fB (by simp;omega) (λhb x hx hm=>H1.l4 hb x hx (by simpa using hm)),?_,λy hy=>⟨Nat.le_of_lt (tR y hy).1,eW (tR y hy).2 (ck f56.size fB.size)⟩⟩⟩
     ·rw[CR.out.1,HD.o4,HD.o5,HD.l6]
     ·show _=Ending.returned (.tuple #[.agg (sf ⟨k,at_,s,cr,out,base,off⟩ ao out.length),.int .i64 0])
      unfold sf
      rw[<-HX.l1.2.2.2.2]
      rfl
     ·show lib.Rd _ ao out.length out
      rw[<-HX.l1.2.2.2.2]
      exact (HX.l1.2.2.1.gJ f56 (λx hx hm=>by have:=(tR x hx).1;simp at hm;omega)).gJ fB (λx hx hm=>by have:=(tR x hx).1;have h3:=H1.o3;simp at hm;omega)
    ·have zP:=HX.l1.2.1
     rw[if_neg dE]at zP
     have hd:((N:Int)!=s)=true:=by simp;omega
     have CR:=ah zP
     clear zP
     go_wp2_with (first|(refine wpList_load_row rfl 65 (.tmp 2) rfl B rfl 65 #[.int .i64 k,.int .i64 at_,.int .i64 s,.int .u32 0,.slice none 0 0,.string (str base),.int .i64 off] (0,0) _ HX.o0 Tryz.underlying65 rfl cK ?_)|(refine wpList_store_row rfl 65 (.tmp 2) (.tmp 91) rfl B #[.int .i64 k,.int .i64 at_,.int .i64 s,.int .u32 0,.slice none 0 0,.string (str base),.int .i64 off] rfl rfl 65 #[.int .i64 k,.int .i64 at_,.int .i64 s,.int .u32 0,.slice none 0 0,.string (str base),.int .i64 off] HX.o0 cK rfl (by kernel_rfl) ?_))
     refine bodyPost_ret (FW rfl _ _ B #[.int .i64 k,.int .i64 at_,.int .i64 s,.int .u32 0,.slice none 0 0,.string (str base),.int .i64 off] (0,0) rfl (setRow_heap _ _ _ _ _ _ HX.o0) rfl) rfl ?_
     exact⟨(HB.o2.step HX.l1.1 (by simp)).setRow (.inr (by rw[H1.o3];exact ay _)) _,.inl ⟨3,_,CR.out,by decide,by decide,rfl,rfl,by kernel_rfl⟩⟩
abbrev EM:=ek×Option Addr
def sk (m:EM):List Value:=(sf m.1 m.2 m.1.data.length).toList
def dS (ms:List EM):List Value:=ms.flatMap sk
theorem qr9 (ms:List EM):(dS ms).length=ms.length*7:=Se sk 7 (λ_=>rfl) ms
theorem qsa (a b:List EM):dS (a++b)=dS a++dS b:=by unfold dS;rw[Bm]
theorem zd4 (m:EM):∀u∈sk m,u.oneCell'=true:=by intro u hu;simp only[sk,sf,fP,wL,or_false]at hu;rcases hu with rfl|rfl|rfl|rfl|rfl|rfl|rfl<;>rfl
theorem zf4:az Tryz.prog 40 65 (.agg #[.int .i64 0,.int .i64 0,.int .i64 0,.int .u32 0,.slice none 0 0,.string ⟨#[]⟩,.int .i64 0]) 7 80:=az.of Tryz.underlying40 (by kernel_rfl) rfl (by decide)
structure lO (w:World) (a:OA) (ms:List EM):Prop where
 cs:Cs w a (dS ms)
 dat:∀m∈ms,lib.Rd w m.2 m.1.data.length m.1.data
theorem lO.fr {w w':World} {a:OA} {ms:List EM} (h:lO w a ms) (f:Fr [] w w'):lO w' a ms:=⟨h.cs.fr f (by simp),λm hm=>(h.dat m hm).fr f⟩
theorem za5 (ao:OA) (len cap:Nat) (w:World) (hle:len<=cap) (dK:cap<=maxLen) :
  Calls Tryz.prog 45 #[.slice ao len cap] w λe w'=>e = .returned (.slice ao len len)/\w'=w:=by
 go_enter Tryz.func45,Tryz.ntmps45;go_wp2;all_goals go_ret
 all_goals exact⟨by first|rfl|simp,rfl⟩
structure Kz (w wr:World) (R:Nat) (a:OA) (c:Nat) (ms:List EM):Prop where
 own:wr.ownsRow 0 65 7 (.slice a ms.length c) ms.length (dS ms)
 fr:Fr [] w wr
 new:∀x∈af a,w.heap.size<=x/\x≠R
 dat:∀m∈ms,lib.Rd wr m.2 m.1.data.length m.1.data/\∀y∈af m.2,w.heap.size<=y/\y<wr.heap.size/\y∉af a/\y≠R
theorem Kz.start (w w':World) (R:Nat) (f:Fr [] w w'):Kz w w' R none 0 []:=⟨wM _ _ _ _,f,by simp[af],by simp⟩
theorem Kz.more {w wr w1 w2:World} {R:Nat} {a a2:OA} {c c2:Nat} {ms:List EM} {m:EM} (h:Kz w wr R a c ms) (hR:w.heap.size<=R) (GZ:R<wr.heap.size) (f:Fr [R] wr w1)
  (hd:lib.Rd w1 m.2 m.1.data.length m.1.data) (hn:∀y∈af m.2,wr.heap.size<=y/\y<w1.heap.size)
  (A:aV w1 w2 65 7 (af a) a2 (ms.length+1) c2 (dS ms++sk m)):Kz w w2 R a2 c2 (ms++[m]):=by
 have f0:Fr [] w w1:=h.fr.step f (λy hy=>.inr (by simp at hy;omega));have f2:Fr [] w w2:=f0.step A.fr (λy hy=>.inr (h.new y hy).1);have hs:=f.size;have mB:=h.fr.size;have dP:∀y∈af a,y<wr.heap.size:=λy hy=>rr h.own (qi hy)
 have key:∀m':EM,lib.Rd w1 m'.2 m'.1.data.length m'.1.data->(∀y∈af m'.2,w.heap.size<=y/\y<w1.heap.size/\y∉af a/\y≠R)->lib.Rd w2 m'.2 m'.1.data.length m'.1.data/\∀y∈af m'.2,w.heap.size<=y/\y<w2.heap.size/\y∉af a2/\y≠R:=λm' r k=>
  ⟨r.gJ A.fr (λx hx=>(k x hx).2.2.1),λy hy=>⟨(k y hy).1,eW (k y hy).2.1 A.fr.size,λhm=>by
   rcases A.at_ y hm with q|q
   ·exact (k y hy).2.2.1 q
   ·have:=(k y hy).2.1;omega,(k y hy).2.2.2⟩⟩
 refine⟨?_,f2,λy hy=>?_,λm' jB=>?_⟩
 ·rw[qsa,aA];have:dS [m]=sk m:=by simp[dS]
  rw[this];exact A.own
 ·rcases A.at_ y hy with q|q
  ·exact h.new y q
  ·omega
 ·rcases jw.1 jB with q|q
  ·obtain⟨r,k⟩:=h.dat m' q;exact key m' (Af r f (λ_ x hx hm=>(k x hx).2.2.2 (by simpa using hm))) (λy hy=>⟨(k y hy).1,by have:=(k y hy).2.1;omega,(k y hy).2.2⟩)
  ·obtain rfl:m'=m:=by simpa using q
   exact key m' hd (λy hy=>⟨by have:=(hn y hy).1;omega,(hn y hy).2,λhm=>by have:=dP y hm;have:=(hn y hy).1;omega,by have:=(hn y hy).1;omega⟩)
theorem za3 (w:World):Calls Tryz.prog 60 #[.slice none 0 0] w λe w'=>e = .returned (.slice none 0 0)/\w'=w:=by
 have qT:∀(w:World) (a:OA) (n c n' c':Nat),(binOp .eql 27 (.slice a n c) (.slice none n' c')).run Tryz.prog w = .ok (.bool a.isNone) w:=λw a n c n' c'=>Lib.run_eql_slice_nil w _ _ a n c n' c' Tryz.underlying27
 go_enter Tryz.func60,Tryz.ntmps60;go_wp2;go_ret;exact⟨rfl,rfl⟩
theorem qzv (v:Value) (w:World):Calls Tryz.prog 64 #[.slice none 0 0,v] w λe w'=>e = .returned (.int .i64 (-1))/\w'=w:=by
 go_enter Tryz.func64,Tryz.ntmps64;go_wp2;go_loopg [8] 0 (λk s8 wr=>s8 = .int .i64 0/\wr=w);case atStart=>exact⟨rfl,rfl⟩
 case round=>
 obtain⟨rfl,rfl⟩:=hrel;go_wp2;go_ret;exact⟨rfl,rfl⟩
theorem WZ (v:Value) (w:World):Calls Tryz.prog 32 #[.slice none 0 0,v] w λe w'=>e = .returned (.slice none 0 0)/\w'=w:=by go_enter Tryz.func32,Tryz.ntmps32;go_wp2_with (go_at_call 64;refine (qzv _ _).mono ?_;rintro e w2 ⟨rfl,hw⟩;obtain rfl:=hw.symm);go_ret;exact⟨rfl,rfl⟩
theorem VL (w:World):Calls Tryz.prog 42 #[.slice none 0 0] w λe w'=>e = .returned (.slice none 0 0)/\w'=w:=by go_enter Tryz.func42,Tryz.ntmps42;go_wp2;go_ret;exact⟨rfl,rfl⟩
theorem insert_nil (v:Value) (w:World):Calls Tryz.prog 107 #[.slice none 0 0,.int .i64 0,.int .i64 0,v] w λe w'=>e = .returned (.tuple #[])/\w'=w:=by
 go_enter Tryz.func107,Tryz.ntmps107;go_wp2;go_loopg [8] 0 (λk s8 wr=>s8 = .int .i64 1/\wr=w);case atStart=>exact⟨rfl,rfl⟩
 case round=>
 obtain⟨rfl,rfl⟩:=hrel;go_wp2;exact bodyPost_end (results_none rfl _ _ _) rfl ⟨rfl,rfl⟩
theorem qwg (v:Value) (w:World):Calls Tryz.prog 70 #[.slice none 0 0,.int .i64 0,v] w λe w'=>e = .returned (.tuple #[])/\w'=w:=by
 go_enter Tryz.func70,Tryz.ntmps70;go_wp2;go_loopg [7,8] 0 (λk s7 s8 wr=>s7 = .int .i64 0/\s8 = .int .i64 20/\wr=w);case atStart=>exact⟨rfl,rfl,rfl⟩
 case round=>
 obtain⟨rfl,rfl,rfl⟩:=hrel;go_wp2_with (go_at_call 107;refine (insert_nil _ _).mono ?_;rintro e w2 ⟨rfl,hw⟩;obtain rfl:=hw.symm);go_loopg [6] 0 (λk s6 wr2=>s6 = .int .i64 20/\wr2=wr);case atStart=>exact⟨rfl,rfl⟩
 case round=>
 obtain⟨rfl,rfl⟩:=hrel;go_wp2;exact bodyPost_end (results_none rfl _ _ _) rfl ⟨rfl,rfl⟩
theorem VZ (v:Value) (w:World):Calls Tryz.prog 38 #[.slice none 0 0,v] w λe w'=>e = .returned (.tuple #[])/\w'=w:=by go_enter Tryz.func38,Tryz.ntmps38;go_wp2_with (go_at_call 70;refine (qwg _ _).mono ?_;rintro e w2 ⟨rfl,hw⟩;obtain rfl:=hw.symm);exact bodyPost_end (results_none rfl _ _ _) rfl ⟨rfl,rfl⟩
theorem WN (w:World):Calls Tryz.prog 31 #[.slice none 0 0] w λe w'=>e = .returned (.slice none 0 0)/\w'=w:=by
 go_enter Tryz.func31,Tryz.ntmps31;go_wp2_with (first
  | (go_at_call 60;refine (za3 _).mono ?_;rintro e w2 ⟨rfl,hw⟩;obtain rfl:=hw.symm)
  | (go_at_call 32;refine (WZ _ _).mono ?_;rintro e w2 ⟨rfl,hw⟩;obtain rfl:=hw.symm))
 go_ret;exact⟨rfl,rfl⟩
theorem qy3 (w:World):Calls Tryz.prog 17 #[.slice none 0 0] w λe w'=>e = .returned (.slice none 0 0)/\Fr [] w w':=by
 have lF:=λw'=>run_makeMap (P:=Tryz.prog) 75 w'
 go_enter Tryz.func17,Tryz.ntmps17;go_wp2_with (first
  | (go_at_call 38;refine (VZ _ _).mono ?_;rintro e w2 ⟨rfl,hw⟩;obtain rfl:=hw.symm)
  | (go_at_call 42;refine (VL _).mono ?_;rintro e w2 ⟨rfl,hw⟩;obtain rfl:=hw.symm))
 go_loopg [5,11] 0 (λk s5 s11 wr=>s5 = .slice none 0 0/\s11 = .int .i64 0/\Fr [] w wr);case atStart=>exact⟨rfl,rfl,((Fr.refl [] w).alloc _).alloc _⟩
 case round=>
 obtain⟨rfl,rfl,hf⟩:=hrel;clear lF;go_wp2_with (first
  | (go_at_call 38;refine (VZ _ _).mono ?_;rintro e w2 ⟨rfl,hw⟩;obtain rfl:=hw.symm)
  | (go_at_call 42;refine (VL _).mono ?_;rintro e w2 ⟨rfl,hw⟩;obtain rfl:=hw.symm))
 go_ret;exact⟨rfl,hf⟩
def aZ:List UInt8:=[80,65,67,75,0,0,0,2,0,0,0,0]
end pk
namespace pk
open Go Go.RowKit lib
def AY (l:LB) (n i k:Nat):UInt8:=if k<i\/n<=k+i then l[n-1-k]?.getD 0 else l[k]?.getD 0
theorem zcj {l:LB} {n i j:Nat} (h:i+j+1=n) (mO:i<j) (k:Nat) (hk:k<n):AY l n (i+1) k=if k=i then AY l n i j else if k=j then AY l n i i else AY l n i k:=by
 unfold AY;by_cases h1:k=i
 ·subst h1;rw[if_pos (by omega),if_pos rfl,if_neg (by omega),show n-1-k=j by omega]
 ·by_cases h2:k=j
  ·subst h2;rw[if_pos (by omega),if_neg h1,if_pos rfl,if_neg (by omega),show n-1-k=i by omega]
  ·rw[if_neg h1,if_neg h2];by_cases h3:k<i\/n<=k+i
   ·rw[if_pos (by omega),if_pos h3]
   ·rw[if_neg (by omega),if_neg h3]
theorem zga {l:LB} {n i j:Nat} (hl:l.length=n) (h:i+j+1=n) (mO:¬i<j) (k:Nat) (hk:k<n) (h1:i<=j+1):AY l n i k=l.reverse[k]?.getD 0:=by
 rw[List.getElem?_reverse (by omega),hl];unfold AY;by_cases h3:k<i\/n<=k+i
 ·rw[if_pos h3]
 ·rw[if_neg h3,show n-1-k=k by omega]
theorem zgc (g n cap:Nat) (A0:AV) (l:LB) (w:World) (hA:w.heap[g]?=some (.cells A0 5 (0,0))) (hl:l.length=n) (h1:1<=n) (hn:n<=100000000) (Jk:n<=cap) (hc:∀k,k<n->A0[k]?=some (.int .u8 ((l[k]?.getD 0).toNat:Nat))) :
  Calls Tryz.prog 28 #[.slice (some ⟨g,0,none⟩) n cap] w λe w'=>e = .returned (.tuple #[])/\Fr [g] w w'/\∃A',w'.heap[g]?=some (.cells A' 5 (0,0))/\A'.size=A0.size/\∀k,k<n->A'[k]?=some (.int .u8 ((l.reverse[k]?.getD 0).toNat:Nat)):=by
 have H0:=aw hA hl hc;clear hA hl hc;obtain⟨N,hN⟩:∃N:Int,N=(n:Int)-1:=⟨_,rfl⟩;go_enter Tryz.func28,Tryz.ntmps28;go_wp2;go_loopg [2,3] n (λk s2 s3 wr=>∃i j:Nat,s2 = .int .i64 (i:Nat)/\s3 = .int .i64 (j:Nat)/\i+j+1=n/\i<=j+1/\i+k=n/\Fr [g] w wr/\∃A',wr.heap[g]?=some (.cells A' 5 (0,0))/\A'.size=A0.size/\∀k,k<n->A'[k]?=some (.int .u8 ((AY l n i k).toNat:Nat)));case atStart=>exact⟨0,n-1,rfl,by go_num,by omega,by omega,by omega,Fr.refl _ _,A0,H0.o0,rfl,λk hk=>by rw[H0.l2 k hk];unfold AY;rw[if_neg (by omega)]⟩
 case round=>
  obtain⟨i,j,rfl,rfl,mO,Y4,bX,hf,A,hA,dW,Fa⟩:=hrel;by_cases h:i<j
  ·obtain⟨k,rfl⟩:∃k,gk=k+1:=⟨gk-1,by omega⟩;have d0:=(cell_of hA i).trans (Fa i (by omega));have d1:=(cell_of hA j).trans (Fa j (by omega));obtain⟨x,hx⟩:=ai ((AY l n i i).toNat);obtain⟨y,hy⟩:=ai ((AY l n i j).toNat);rw[<-hx]at d0;rw[<-hy]at d1;have hxb:x<256:=by rw[hx];exact iL _
   have LI:y<256:=by rw[hy];exact iL _
   have HS:=cJ hA dW Fa hx hy hf;clear hA dW Fa hx hy hf;go_upto_region 3 with fail;refine Iy [(0,0),(0,1),(0,2),(0,3),(0,4),(0,5),(0,6),(1,7),(0,8),(0,9),(0,10),(1,11),(0,12),(2,13),(0,14),(2,15)] [g] [13,15] (by kernel_rfl) (by kernel_rfl) (λ_ _ d _ _ h=>by cases d<;>exact h) ?_;simp only[gX,qq,Bq,Bp];refine nN 7 rfl ?_;simp only[bD];repeat (go_big_quiet_step (fail))
   refine wpQuiet_nil ?_;refine x5 1 rfl ?_;simp only[bD];repeat (go_big_quiet_step (fail))
   refine wpQuiet_nil ?_;refine nN 3 rfl ?_;simp only[bD];repeat (go_big_quiet_step (fail))
   refine wpQuiet_nil ?_;refine x5 1 rfl ?_;simp only[bD];repeat (go_big_quiet_step (fail))
   refine wpQuiet_nil ?_;refine nN 1 rfl ?_;simp only[bD];repeat (go_big_quiet_step (fail))
   refine wpQuiet_nil ?_;refine xZ rfl ?_;intro K hK;have z0:=aW HS.out.1 i;go_wp2;refine hK.out _ _ (Fr.bA (((Fr.refl [g] wr).setCell (by simp) _).drew)) ?_;clear hK K z0;have dI:=bI (o:=i) HS.out.1 (.int .u8 y);obtain⟨gV,dJ⟩:∃gV,gV=wr.setCell ⟨g,i,none⟩ (.int .u8 (y:Nat)):=⟨_,rfl⟩;rw[<-dJ]at dI ⊢;obtain⟨A1,hB⟩:∃A1,A1=A.setIfInBounds i (.int .u8 (y:Nat)):=⟨_,rfl⟩;rw[<-hB]at dI;have z0:=aW dI j;have c2:gV.cell? ⟨g,j,none⟩=some (.int .u8 y):=by rw[cell_of dI,hB,aX (by omega),<-cell_of HS.out.1];exact d1
   have AL:=aw dI hB dJ;clear dI hB dJ d0 d1;refine nN 1 rfl ?_;simp only[bD];repeat (go_big_quiet_step (fail))
   refine wpQuiet_nil ?_;refine xZ rfl ?_;intro K hK;go_wp2;refine hK.out _ _ (Fr.bA (((Fr.refl [g] gV).setCell (by simp) _).drew)) ?_;clear hK K z0 c2;refine Il ?_;have jv:=bI (o:=j) AL.out.1 (.int .u8 x);obtain⟨w2,bL⟩:∃w2,w2=gV.setCell ⟨g,j,none⟩ (.int .u8 (x:Nat)):=⟨_,rfl⟩;rw[<-bL]at jv ⊢;have HZ:=ak jv bL;clear jv bL;go_wp2;go_roundg k;case measure=>omega
   case rel=>
    obtain⟨hA,dW,Fa,hx,hy,hf⟩:=HS.out;obtain⟨dI,hB,dJ⟩:=AL.out;obtain⟨jv,bL⟩:=HZ.out;refine⟨i+1,j-1,by go_num,by go_num,by omega,by omega,by omega,?_,_,jv,by rw[rA,hB,rA,dW],λk hk=>?_⟩
    ·rw[bL,dJ];exact hf.trans ((((Fr.refl [g] wr).setCell (by simp) _).setCell (by simp) _).drew)
    ·have cV:∀k,k<n->k<A.size:=λk hk=>(IC.1 (Fa k hk)).1
     rw[zcj mO h k hk];by_cases h1:k=j
     ·subst h1;rw[iG (by rw[hB,rA];exact cV k hk),if_neg (by omega),if_pos rfl,hx]
     ·rw[aX (by omega),hB];by_cases h2:k=i
      ·subst h2;rw[iG (cV k hk),if_pos rfl,hy]
      ·rw[aX (by omega),if_neg h2,if_neg h1];exact Fa k hk
  ·have HS:=aG hA dW Fa hf;clear hA dW Fa hf;go_wp2;refine bodyPost_end (results_none rfl _ _ _) rfl ⟨rfl,HS.out.2.2.2,A,HS.out.1,HS.out.2.1,λk hk=>?_⟩;rw[HS.out.2.2.1 k hk,zga H0.o1 mO h k hk Y4]
open bm
theorem M3 (ao:OA) (len cap:Nat) (w:World) (hle:len<=cap) (dK:cap<=maxLen) :
  Calls Tryz.prog 29 #[.slice ao len cap] w λe w'=>e = .returned (.slice ao len len)/\w'=w:=by
 go_enter Tryz.func29,Tryz.ntmps29;go_wp2;all_goals go_ret
 all_goals exact⟨by first|rfl|simp,rfl⟩
theorem zen {f m:Nat} (h:0<m) (hf:m<=f):lL f m=UInt8.ofNat ((m-1)%128+128)::lL f ((m-1)/128):=by
 cases f with
 | zero=>omega
 | succ f=>rw[lL,if_neg (by omega),zep (f:=f) (g:=f+1) (by omega) (by omega)]
theorem zem (f:Nat):lL f 0=[]:=by cases f<;>simp[lL]
theorem zad {l:LB} {C:AV} {k:Nat} (hk:k<l.length) (h:C.toList.take l.length=l.map bv):C[k]?=some (.int .u8 ((l[k]?.getD 0).toNat:Nat)):=by have h1:=congrArg (λ(x:LV)=>x[k]?) h;simp only[oX,if_pos hk,iM]at h1;rw[br hk]at h1;simp only[Aj,bv]at h1;rw[br hk,Bi,<-h1];simp
theorem zgl (w:World) (v:Value):(w.alloc (.cells #[v] 5)).ownsRow 0 5 1 (.slice (some ⟨w.heap.size,0,none⟩) 1 1) 1 [v]:=
 ⟨rfl,.inr ⟨w.heap.size,1,#[v],rfl,ep _,bC _ _,ay _,by decide,rfl,rfl⟩⟩
theorem qv5 (n:Nat) (w:World) (hn:n<=9007199254740992):Calls Tryz.prog 9 #[.int .i64 n] w (aB w (bk n).reverse):=by
 obtain⟨bs,mD⟩:=ai (bk n);have bQ:bs.length<=10:=by rw[mD];have:=Vn (k:=9) (f:=n) (m:=n/128) (by omega);unfold bk;simp only[bU];omega
 have h7:=IU n;obtain⟨t0,Ye⟩:∃t,t=n%128:=⟨_,rfl⟩;have ht1:t0<=127:=by omega
 rw[<-Ye]at h7;obtain⟨x0,iD⟩:∃x,x=UInt8.ofNat t0:=⟨_,rfl⟩;have wu:bs=[x0]++lL n (n/128):=by rw[mD,iD,Ye];rfl
 have u6:[bv x0]=[.int .u8 (t0:Int)]:=by unfold bv;rw[iD,x7 (by omega)]
 have ow0:=zgl w (.int .u8 (t0:Int));rw[<-mD];have HB:=aG wu bQ u6 ow0;clear wu bQ iD mD Ye u6 ow0;go_enter Tryz.func9,Tryz.ntmps9;go_upto_region 2 with (refine FX (n:Int) rfl _ _ _ rfl (n:Int) 0 rfl rfl (by split<;>omega) ?_);go_upto_block 0 with fail;clear h7;go_cut [3] from 14 to 25 (λs3 wz=>∃a cap,s3 = .slice a bs.length cap/\Wr w wz a cap bs)
 case first=>
  go_wp2;go_loopg [0,3] n (λk s0 s3 wr=>∃m a cap out,s0 = .int .i64 (m:Nat)/\s3 = .slice a out.length cap/\m<=k/\m<=n/\Wr w wr a cap out/\bs=out++lL n m);case atStart=>exact⟨n/128,some ⟨w.heap.size,0,none⟩,1,[x0],by go_num,rfl,by omega,by omega,⟨by simp only[bU,kg,gX,qq,HB.o2];exact HB.l3,(Fr.refl _ _).alloc _,by simp[af]⟩,HB.o0⟩
  case round=>
   obtain⟨m,a,cap,out,rfl,rfl,yz,YE,h,aD⟩:=hrel;have H:=ak h aD;have iw:out.length<=10:=by have:=congrArg List.length aD;rw[aA]at this;have:=HB.o1;omega
   clear h aD;by_cases h0:0<m
   ·obtain⟨p,rfl⟩:∃p,m=p+1:=⟨m-1,by omega⟩;have h7:=IU p;obtain⟨t,ht⟩:=ai (p%128);have ht1:t<=127:=by omega
    rw[<-ht]at h7;have ho:=qy4 t ht1;obtain⟨x,hx⟩:=ai (UInt8.ofNat (t+128));rw[<-hx]at ho;obtain⟨S,hS⟩:=ai (af a);have HX:=aw hx hS ht;have f0:Fr [] wr (wr.alloc (.cells #[.int .u8 (x.toNat:Nat)] 5)):=(Fr.refl [] wr).alloc _;have cT:=dr H.o0.own f0 (by simp);have cA:Cs (wr.alloc (.cells #[.int .u8 (x.toNat:Nat)] 5)) (some ⟨wr.heap.size,0,none⟩) [bv x]:=nM _ _ _ 5 (bC wr _);have HA:=aw cT cA f0;clear cT cA f0 hx hS ht;go_wp2_with (refine gM aq rfl _ _ rfl (.slice a out.length cap) out.length (out.map bv) S rfl (by rw[dD,HX.o1]) HA.o0 (some ⟨wr.heap.size,0,none⟩) 1 1 [bv x] rfl (by decide) (by simp) HA.o1 (by rfl) (j3 [x]) (by omega) (by unfold maxLen;omega) ?_;intro a2 c2 w2 A1;have xQ:=ah A1;clear A1);go_roundg (p/128);case measure=>omega
    case rel=>have A1:=xQ.out;rw[HX.o1]at A1;refine⟨p/128,a2,c2,out++[x],by go_num,by rw[aA];rfl,ay _,by omega,H.o0.step HA.l2 A1,?_⟩;rw[H.l1,zen h0 YE,Ir,<-HX.l2,HX.o0,eE];rfl
   ·go_wp2;go_meet;obtain rfl:m=0:=by omega
    have he:bs=out:=by rw[H.l1,zem,mW]
    exact⟨a,cap,by rw[he],by rw[he];exact H.o0⟩
 case rest=>
 obtain⟨a,cap,rfl,h⟩:=hcut;have fM:1<=bs.length:=by rw[HB.o0];simp
 have Zu:=HB.o1;obtain⟨o1,o2⟩:=h.own;have o3:=o2.resolve_left (λhh=>by omega);obtain⟨g,cp,cur,e1,e2,e3,e4,e5,e6,e7⟩:=o3;simp only[mV]at e1;obtain⟨rfl,_,rfl⟩:=e1;have LZ:=zgc g bs.length cap cur bs wc e3 rfl fM (by omega) e4 (λk hk=>zad hk (by rw[<-e7,pI]));obtain⟨N,hN⟩:=ai bs.length;rw[<-hN]at LZ fM Zu e4 ⊢;have H:=aQ h.fr (h.new g (by simp[af])) hN LZ (lt_of_block e3);clear h o1 o2 e2 e3 e6 e7 LZ hN;go_wp2_with (first
  | (go_at_call 28;refine H.l1.2.2.1.mono ?_;rintro e w1 ⟨rfl,f1,A',q1,q2,q3⟩;have H1:=aw f1 q1 q3;clear f1 q1 q2 q3)
  | (go_at_call 29;refine (M3 _ N cap _ e4 e5).mono ?_;rintro e w2 ⟨rfl,hw⟩;obtain rfl:=hw.symm))
 go_ret;have hf:Fr [] w w1:=H.o0.step H1.o0 (λy hy=>.inr (by simp only[iH]at hy;rw[hy];exact H.l1.1));have hl:bs.reverse.length=N:=by rw[um,H.l1.2.1]
 refine⟨some ⟨g,0,none⟩,by rw[hl];rfl,⟨.inr ⟨g,0,rfl,λj u hj=>?_⟩,by rw[hl];exact ay _,by rw[hl];omega,λe=>by cases e⟩,λy hy=>?_,hf⟩
 ·rw[iM]at hj;have kz:j<bs.reverse.length:=by
   rcases kI j bs.reverse.length with h|h
   ·exact h
   ·rw[nU h]at hj;cases hj
  have:=H1.l2 j (by omega);rw[ft,cell_of H1.o1,this];rw[br kz]at hj ⊢;exact hj
 ·simp only[af,iH]at hy;rw[hy];exact⟨H.l1.1,lt_of_block H1.o1⟩
theorem ze6 {w:World} {xs:LV} (n:Nat) (hn:xs.length=n) (hm:n<=1000):(w.alloc (.cells xs.toArray 5)).ownsRow 0 5 1 (.slice (some ⟨w.heap.size,0,none⟩) n n) n xs:=
 ⟨by omega,.inr ⟨w.heap.size,n,xs.toArray,rfl,ep _,bC _ _,ay _,by unfold maxLen;omega,by simp[hn],by rw[pI,<-hn];simp⟩⟩
theorem qxt (w:World):Calls Tryz.prog 15 #[.slice none 0 0,.slice none 0 0] w (aB w (aZ++sha.dX aZ)):=by
 have lF:=λw'=>run_makeMap (P:=Tryz.prog) 75 w'
 have hcv:∀w':World,(convert 23 23 (.slice (some ⟨w'.heap.size,0,none⟩) 8 8)).run Tryz.prog (w'.alloc (.cells #[.int .u8 80,.int .u8 65,.int .u8 67,.int .u8 75,.int .u8 0,.int .u8 0,.int .u8 0,.int .u8 2] 5)) = .ok (.slice (some ⟨w'.heap.size,0,none⟩) 8 8) (w'.alloc (.cells #[.int .u8 80,.int .u8 65,.int .u8 67,.int .u8 75,.int .u8 0,.int .u8 0,.int .u8 0,.int .u8 2] 5 (8,9))):=λw'=>Lib.run_convert_bytes_const (P:=Tryz.prog) w' 23 5 #[.int .u8 80,.int .u8 65,.int .u8 67,.int .u8 75,.int .u8 0,.int .u8 0,.int .u8 0,.int .u8 2] 8 8 Tryz.underlying23 Tryz.underlying5
 go_enter Tryz.func15,Tryz.ntmps15;go_upto_region 3 with (first
  | (go_at_call 31;refine (WN _).mono ?_;rintro e w1 ⟨rfl,hw⟩;obtain rfl:=hw.symm)
  | (go_at_call 17;refine (qy3 _).mono ?_;rintro e w1 ⟨rfl,f1⟩))
 obtain⟨P,w2,hP,bL,f2,q2⟩:∃P w2,P=w1.heap.size/\w2=w1.alloc (.cells #[.slice none 0 0,.slice none 0 0,.slice none 0 0,.slice none 0 0] 74)/\Fr [] w w2/\w2.heap[P]?=some (.cells #[.slice none 0 0,.slice none 0 0,.slice none 0 0,.slice none 0 0] 74 (0,0)):=⟨_,_,rfl,rfl,f1.alloc _,bC w1 _⟩;have ZI:w.heap.size<=P:=by rw[hP];exact f1.size
 have Cm:P<w2.heap.size:=lt_of_block q2;rw[<-bL,<-hP];clear bL hP f1;obtain⟨B,hB⟩:=ai w2.heap.size;have c8:Cs ((w2.alloc (.cells #[.int .u8 80,.int .u8 65,.int .u8 67,.int .u8 75,.int .u8 0,.int .u8 0,.int .u8 0,.int .u8 2] 5 (8,9))).alloc (.cells #[.int .u8 0,.int .u8 0,.int .u8 0,.int .u8 0] 5)) (some ⟨w2.heap.size,0,none⟩) [.int .u8 80,.int .u8 65,.int .u8 67,.int .u8 75,.int .u8 0,.int .u8 0,.int .u8 0,.int .u8 2]:=by have:=qm (.cells #[.int .u8 0,.int .u8 0,.int .u8 0,.int .u8 0] 5) (bC w2 (.cells #[.int .u8 80,.int .u8 65,.int .u8 67,.int .u8 75,.int .u8 0,.int .u8 0,.int .u8 0,.int .u8 2] 5 (8,9)));exact .inr ⟨w2.heap.size,0,rfl,λj u hj=>by rw[cell_of this];simpa using hj⟩
 have c4:Cs ((w2.alloc (.cells #[.int .u8 80,.int .u8 65,.int .u8 67,.int .u8 75,.int .u8 0,.int .u8 0,.int .u8 0,.int .u8 2] 5 (8,9))).alloc (.cells #[.int .u8 0,.int .u8 0,.int .u8 0,.int .u8 0] 5)) (some ⟨w2.heap.size+1,0,none⟩) [.int .u8 0,.int .u8 0,.int .u8 0,.int .u8 0]:=by have:=bC (w2.alloc (.cells #[.int .u8 80,.int .u8 65,.int .u8 67,.int .u8 75,.int .u8 0,.int .u8 0,.int .u8 0,.int .u8 2] 5 (8,9))) (.cells #[.int .u8 0,.int .u8 0,.int .u8 0,.int .u8 0] 5);rw[fD]at this;exact .inr ⟨w2.heap.size+1,0,rfl,λj u hj=>by rw[cell_of this];simpa using hj⟩
 have fa:=((Fr.refl [] w2).alloc (.cells #[.int .u8 80,.int .u8 65,.int .u8 67,.int .u8 75,.int .u8 0,.int .u8 0,.int .u8 0,.int .u8 2] 5 (8,9))).alloc (.cells #[.int .u8 0,.int .u8 0,.int .u8 0,.int .u8 0] 5);have HO:=aQ c8 c4 (fa.af q2 (by simp)) (f2.trans fa) hB;clear c8 c4 fa f2 q2 hB;go_upto_region 4 with (at_builtin;refine XE aq rfl _ _ rfl (some ⟨w2.heap.size,0,none⟩) 8 8 [.int .u8 80,.int .u8 65,.int .u8 67,.int .u8 75,.int .u8 0,.int .u8 0,.int .u8 0,.int .u8 2] rfl HO.o0 rfl (by decide) (by simp) (some ⟨w2.heap.size+1,0,none⟩) 4 4 [.int .u8 0,.int .u8 0,.int .u8 0,.int .u8 0] rfl HO.o1 rfl (by decide) (by decide) (by decide) ?_;intro c3 w3 A3;have q3:=A3.fr.af HO.o2 (by simp);have cc:=cell_of q3 0;have zz:=aW q3 0;simp only[bF,aT]at cc;have HA:=ak A3 q3;clear A3 q3);clear cc zz;obtain⟨G,hG⟩:=ai (w2.heap.size+1+1);obtain⟨w4,gw⟩:=ai (w3.setCell ⟨P,0,none⟩ (.slice (some ⟨w2.heap.size+1+1,0,none⟩) 12 c3));rw[<-gw,<-hG];have q4:w4.heap[P]?=some (.cells #[.slice (some ⟨G,0,none⟩) 12 c3,.slice none 0 0,.slice none 0 0,.slice none 0 0] 74 (0,0)):=by rw[gw,hG];exact bI HA.l1 _
 have f34:Fr [P] w3 w4:=by rw[gw];exact (Fr.refl [P] w3).setCell (by simp) _
 have f4:Fr [] w w4:=(HO.o3.trans HA.o0.fr).step f34 (λy hy=>.inr (by simp only[iH]at hy;omega));have Bs:w4.ownsRow 0 5 1 (.slice (some ⟨G,0,none⟩) 12 c3) 12 (aZ.map bv):=by
  have h1:=HA.o0.own;rw[fD,fD,<-hG]at h1;exact dr h1 f34 (λk hk=>by
   simp only[Value.ownBlock,eJ]at hk
   simp only[iH]
   omega)
 have hGw:w.heap.size<=G:=by have:=f4.size;omega
 have hPG:P≠G:=by omega
 have wm:12<=c3/\c3<=maxLen:=⟨HA.o0.le,HA.o0.max⟩;unfold maxLen at wm;have H4:=aQ q4 f4 Bs hGw hPG;clear q4 f34 f4 Bs hGw gw hG HO HA hcv hPG;go_upto_region 5 with fail;obtain⟨M,hM⟩:=ai w4.heap.size;obtain⟨w5,pg⟩:=ai ((w4.alloc (.map #[] 0)).alloc (.cells #[.map (some w4.heap.size)] 75));have f5:Fr [] w4 w5:=by rw[pg];exact ((Fr.refl [] w4).alloc _).alloc _
 rw[<-pg];have q5:=f5.af H4.o0 (by simp);have e1:w5.cell? ⟨P,1,none⟩=some (.slice none 0 0):=by rw[cell_of q5];rfl
 have H5:=ah f5;clear f5 pg q5 hM M lF;go_wp2;go_loopg [46] 0 (λk s46 wr=>s46 = .int .i64 0/\Fr [] w5 wr);case atStart=>exact⟨rfl,Fr.refl _ _⟩
 case round=>
 obtain⟨rfl,hf⟩:=hrel;have QU:=hf.cell e1 (by simp);obtain⟨w6,pK⟩:=ai wr;have H6:=ah hf;clear hf e1;go_wp2_with (first
  | (go_at_call 31;refine (WN _).mono ?_;rintro e w1 ⟨rfl,hw⟩;obtain rfl:=hw.symm)
  | (go_at_call 32;refine (WZ _ _).mono ?_;rintro e w1 ⟨rfl,hw⟩;obtain rfl:=hw.symm))
 go_loopg [63] 0 (λk s63 wq=>s63 = .int .i64 0/\wq=wr);case atStart=>exact⟨rfl,rfl⟩
 case round=>
 obtain⟨rfl,rfl⟩:=hrel;clear pK w6 QU;have f6:Fr [] w4 wr:=H5.out.trans H6.out;have IJ:=dr H4.o2 (f6.trans (Fr.av [] wr)) (by simp);have hP:=(f6.trans (Fr.av [] wr)).af H4.o0 (by simp);have q0:∀x,(sup [G] wr.drew x).cell? ⟨P,0,none⟩=some (.slice (some ⟨G,0,none⟩) 12 c3):=λx=>(dY [G] wr.drew x).cell (by rw[cell_of hP];rfl) (by simpa using H4.l4)
 obtain⟨r6,_⟩:=wK IJ;have mA:=sha.Sm (some ⟨G,0,none⟩) c3 aZ wr.drew r6 (by decide);have H7:=aw f6 IJ mA;clear f6 IJ mA r6 hP;go_upto_region 16 with fail;refine j4 11 [(false,0),(false,1),(false,2),(false,3),(false,4),(false,5),(false,6),(false,7),(true,8),(true,9),(true,10)] [G] (by kernel_rfl) (by kernel_rfl) (λ_ _ d _ _ h=>by cases d<;>exact h) ?_;simp only[jm];refine dT 8 rfl ?_;simp only[bD];repeat (go_big_quiet_step (fail))
 refine wpQuiet_nil ?_;clear q0;refine eT rfl ?_;intro X hX;go_wp2_with (go_at_call 35;refine H7.l2.mono ?_;rintro e w7 ⟨⟨a7,c7,rfl,r7⟩,f7⟩);refine hX.out _ _ (f7.mono (by simp)) ?_;clear hX X;have HS:=ak r7 f7;clear r7 f7;have NZ:=dr H7.o1 HS.l1 (by simp);have c7l:=HS.o0.le;rw[sha.rN]at c7l;refine eT rfl ?_;intro X hX;refine uj aq _ _ rfl (.slice (some ⟨G,0,none⟩) 12 c3) 12 (aZ.map bv) [G] rfl rfl NZ a7 20 c7 ((sha.dX aZ).map bv) rfl c7l HS.o0.nil HS.o0.cs (by rw[bW];rfl) (j3 _) (by omega) (by unfold maxLen;omega) ?_;intro a8 c8 w8 A8;refine hX.out _ _ A8.fr ?_;clear hX X;refine eT rfl ?_;intro X hX;go_wp2_with (go_at_call 29;refine (M3 a8 32 c8 _ A8.le A8.max).mono ?_;rintro e w9 ⟨rfl,hw⟩;obtain rfl:=hw.symm);refine hX.out _ _ (Fr.refl _ _) ?_;clear hX X;refine ic ?_;have H8:=ah A8;clear A8 NZ c7l;go_wp2;go_ret;have o8:=H8.out.own;rw[<-gF]at o8;obtain⟨r8,_⟩:=wK o8;have f47:Fr [] w w7:=H4.o1.trans (H7.o0.trans ((Fr.av [] wr).trans HS.l1));refine⟨a8,rfl,⟨r8.cs,ay _,by decide,λe=>by have:=r8.nil e;have:=r8.le;rw[aA,sha.rN]at this;simp[aZ]at this;omega⟩,λx hx=>⟨?_,rr o8 (qi hx)⟩,f47.step H8.out.fr (λy hy=>.inr (by simp only[iH]at hy;rw[hy];exact H4.o3))⟩;rcases H8.out.at_ x hx with h|h
 ·simp only[iH]at h;rw[h];exact H4.o3
 ·rw[h];exact f47.size
end pk

end Go.Proofs.YtkmpfgpfbmeihaaGreatDoor