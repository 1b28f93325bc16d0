/-
  Texts of this proof, one behind the other: ShaMix2, ShaW, MixR, ShaSum, ShaWhole, DeltaLaw.
-/
import Derived.Test.YtkmpfgpfbmeihaaGreatDoorS3
set_option maxHeartbeats 16000000
set_option maxRecDepth 100000
set_option linter.unusedVariables false
set_option linter.unusedSimpArgs false
namespace Go.Proofs.YtkmpfgpfbmeihaaGreatDoor.sha
open Go Go.RowKit lib bm
def sv (p:List UInt8) (j:Nat):Int:=(sched p 80)[j]?.getD 0
theorem qu8 (p:List UInt8) (j t:Nat) (h:j<t) (ht:t≤80):(sched p t)[j]?.getD 0=sv p j:=by unfold sv;rw[qmd p j t h,qmd p j 80 (by omega)]
theorem zf1 (p:List UInt8) (j:Nat) (h:j<16):sv p j=word p (4*j):=by rw[<-qu8 p j (j+1) (by omega) (by omega),sched,qdz (by rw[qer];exact qae _),qer,Nat.sub_self];simp[h]
theorem zf2 (p:List UInt8) (j:Nat) (h:16≤j) (h2:j<80):sv p j=rol (bits .xor .u32 (bits .xor .u32 (bits .xor .u32 (sv p (j-3)) (sv p (j-8))) (sv p (j-14))) (sv p (j-16))) 1:=by rw[<-qu8 p j (j+1) (by omega) (by omega),sched,qdz (by rw[qer];exact qae _),qer,Nat.sub_self];rw[qu8 p (j-3) j (by omega) (by omega),qu8 p (j-8) j (by omega) (by omega),qu8 p (j-14) j (by omega) (by omega),qu8 p (j-16) j (by omega) (by omega)];simp[show ¬j<16 from by omega]
structure Mx (w wr:World) (h:H5) (p:List UInt8) (B t:Nat):Prop where
 fr:Fr [] w wr
 hb:wr.heap[B]?=some (.cells h.vals 185 (0,0))
 rb:wr.heap[B+1]?=some (.cells #[.int .u32 0,.int .u32 0,.int .u32 0,.int .u32 0,.int .u32 0] 185 (0,0))
 wb:∃A,wr.heap[B+2]?=some (.cells A 228 (0,0))∧A.size=80∧∀j,j<t→A[j]?=some (.int .u32 (sv p j))
 lo:w.heap.size=B
theorem Mx.store {w wr wd:World} {h:H5} {p:List UInt8} {B t:Nat} (m:Mx w wr h p B t) (f:Fr [] wr wd) (ht:t<80) (v:Int) (hv:v=sv p t):Mx w (wd.setCell ⟨B+2,t,none⟩ (.int .u32 v)) h p B (t+1):=by
 obtain⟨A,hA,hAs,hAt⟩:=m.wb;have f2:Fr [B+2] wd (wd.setCell ⟨B+2,t,none⟩ (.int .u32 v)):=(Fr.refl [B+2] wd).setCell (by simp) _;refine⟨(m.fr.trans f).step f2 λy hy=>.inr (by simp at hy;have:=m.lo;omega),f2.blk (f.blk m.hb (by simp)) (by simp),f2.blk (f.blk m.rb (by simp)) (by simp),⟨_,qax (f.blk hA (by simp)) _,by simp[hAs],λj hj=>?_⟩,m.lo⟩;by_cases e:j=t
 ·subst e;rw[qal (by omega),hv]
 ·rw[qaa (by omega)];exact hAt j (by omega)
theorem Mx.fr0 {w wr wd:World} {h:H5} {p:List UInt8} {B t:Nat} (m:Mx w wr h p B t) (f:Fr [] wr wd):Mx w wd h p B t:=by obtain⟨A,hA,hAs,hAt⟩:=m.wb;exact⟨m.fr.trans f,f.blk m.hb (by simp),f.blk m.rb (by simp),⟨A,f.blk hA (by simp),hAs,hAt⟩,m.lo⟩
theorem put5 {wz:World} {R:Nat} {t:TypeId} {u0 u1 u2 u3 u4:Value} (hb:wz.heap[R]?=some (.cells #[u0,u1,u2,u3,u4] t (0,0))) (v0 v1 v2 v3 v4:Value) :
  (((((wz.setCell ⟨R,0,none⟩ v0).setCell ⟨R,1,none⟩ v1).setCell ⟨R,2,none⟩ v2).setCell ⟨R,3,none⟩ v3).setCell ⟨R,4,none⟩ v4).heap[R]?=some (.cells #[v0,v1,v2,v3,v4] t (0,0))∧
   Fr [R] wz (((((wz.setCell ⟨R,0,none⟩ v0).setCell ⟨R,1,none⟩ v1).setCell ⟨R,2,none⟩ v2).setCell ⟨R,3,none⟩ v3).setCell ⟨R,4,none⟩ v4):=
 ⟨(qax (qax (qax (qax (qax hb _) _) _) _) _).trans rfl,(((((Fr.refl [R] wz).setCell (by simp) _).setCell (by simp) _).setCell (by simp) _).setCell (by simp) _).setCell (by simp) _⟩
theorem info5:(Tryz.prog.info? 185).map (·.size)=some 5:=by kernel_rfl
theorem qhv {fn:Func} {p:Tmp} (h:fn.results=#[.cell p 185]) (tmps:Array Value) (w:World) (g:Nat) (cs:Array Value) (fr:Nat×Nat)
  (hp:tmps.getD p undef = .pointer (some ⟨g,0,none⟩)) (hg:w.heap[g]?=some (.cells cs 185 fr)) (hs:cs.size=5):(results fn tmps).run Tryz.prog w = .ok (.agg cs) w:=
 results_cell_row h tmps w g 185 cs fr _ hp hg Tryz.underlying185 rfl (by rw[info5,hs])
theorem qx8 (h:H5) (a:Option Addr) (len cap:Nat) (p:List UInt8) (w:World) (hr:Rd w a cap p) (hlen:p.length=len) (h64:64≤len) :
  Calls Tryz.prog 117 #[.agg h.vals,.slice a len cap] w λe w'=>e = .returned (.agg (mixH h p).vals)∧Fr [] w w':=by
 have hle:=hr.le;have hmax:=hr.max;unfold maxLen at hmax;rw[hlen]at hle;obtain⟨g,o,rfl⟩:∃g o,a=some ⟨g,o,none⟩:=by obtain⟨g,o,e,_⟩:=hr.at (i:=0) (by omega);exact⟨g,o,e⟩
 have H:=zhd2 hr hlen;clear hr hlen;unfold H5.vals;go_enter Tryz.func117,Tryz.ntmps117;go_upto_block 0 with fail;obtain⟨B,w1,hB,hw1,hm⟩:∃B w1,B=w.heap.size∧w1=((w.alloc (.cells #[.int .u32 h.a,.int .u32 h.b,.int .u32 h.c,.int .u32 h.d,.int .u32 h.e] 185)).alloc (.cells #[.int .u32 0,.int .u32 0,.int .u32 0,.int .u32 0,.int .u32 0] 185)).alloc (.cells Tryz.zeroCells228 228)∧Mx w w1 h p B 0:=by refine⟨_,_,rfl,rfl,(((Fr.refl [] w).alloc _).alloc _).alloc _,qcx _ (qcx _ (qay w _)),qcx _ (by have:=qay (w.alloc (.cells #[.int .u32 h.a,.int .u32 h.b,.int .u32 h.c,.int .u32 h.d,.int .u32 h.e] 185)) (.cells #[.int .u32 0,.int .u32 0,.int .u32 0,.int .u32 0,.int .u32 0] 185);rw[qa1]at this;exact this),⟨_,by have:=qay ((w.alloc (.cells #[.int .u32 h.a,.int .u32 h.b,.int .u32 h.c,.int .u32 h.d,.int .u32 h.e] 185)).alloc (.cells #[.int .u32 0,.int .u32 0,.int .u32 0,.int .u32 0,.int .u32 0] 185)) (.cells Tryz.zeroCells228 228);rw[qa1,qa1]at this;exact this,by kernel_rfl,λj hj=>by omega⟩,rfl⟩
 rw[<-hw1,show w.heap.size+1+1=B+2 from by omega,<-hB];have HM:=zhd3 hm hB hw1;clear hm hB hw1;go_wp2;go_loopg [6,17] 16 (λk s6 s17 wr=>∃t:Nat,s17 = .int .i64 (t:Nat)∧t+k=16∧Mx w wr h p B t);case atStart=>exact⟨0,rfl,rfl,HM.o0⟩
 case round=>
  obtain⟨t,rfl,htk,hm⟩:=hrel;by_cases ht:t<16
  ·obtain⟨k,rfl⟩:∃k,gk=k+1:=⟨gk-1,by omega⟩;have HMM:=zhd hm;clear hm;go_upto_region 5 with fail;have hm:=HMM.out;obtain⟨A,hA,hAs,hAt⟩:=hm.wb;have zA:=qau hA t;obtain⟨x0,hx0⟩:∃x,wr.cell? ⟨B+2,t,none⟩=some x:=⟨A[t]'(by omega),by rw[cell_of hA];exact qb5 (by omega)⟩;obtain⟨m0,hm0⟩:∃m,m=4*t:=⟨_,rfl⟩;obtain⟨m1,hm1⟩:∃m,m=m0+1:=⟨_,rfl⟩;obtain⟨m2,hm2⟩:∃m,m=m0+2:=⟨_,rfl⟩;obtain⟨m3,hm3⟩:∃m,m=m0+3:=⟨_,rfl⟩;have e0:(4:Int)*(t:Int)=(m0:Int):=by omega
   have e1:(m0:Int)+1=(m1:Int):=by omega
   have e2:(m0:Int)+2=(m2:Int):=by omega
   have e3:(m0:Int)+3=(m3:Int):=by omega
   have w0:IntKind.i64.wrap ((4:Int)*(t:Int))=(m0:Int):=by rw[qbw];omega
   have w1':IntKind.i64.wrap ((m0:Int)+1)=(m1:Int):=by rw[qbw];omega
   have w2':IntKind.i64.wrap ((m0:Int)+2)=(m2:Int):=by rw[qbw];omega
   have w3':IntKind.i64.wrap ((m0:Int)+3)=(m3:Int):=by rw[qbw];omega
   have hpl:=H.l1;have hrr:=H.o0.fr hm.fr;have b0:m0<p.length:=by omega
   have b1:m1<p.length:=by omega
   have b2:m2<p.length:=by omega
   have b3:m3<p.length:=by omega
   obtain⟨_,_,q0,X0⟩:=hrr.at b0;obtain⟨_,_,q1,X1⟩:=hrr.at b1;obtain⟨_,_,q2,X2⟩:=hrr.at b2;obtain⟨_,_,q3,X3⟩:=hrr.at b3;simp only[qaw,qcz,and_true]at q0 q1 q2 q3;obtain⟨rfl,rfl⟩:=q0;obtain⟨rfl,rfl⟩:=q1;obtain⟨rfl,rfl⟩:=q2;obtain⟨rfl,rfl⟩:=q3;have hw:word p m0=((p[m0].toNat*16777216+p[m1].toNat*65536+p[m2].toNat*256+p[m3].toNat:Nat):Int):=by unfold word;rw[<-hm1,<-hm2,<-hm3,qai b0,qai b1,qai b2,qai b3];rfl
   have l0:=qbc p[m0];have l1:=qbc p[m1];have l2:=qbc p[m2];have l3:=qbc p[m3];generalize p[m0].toNat=y0 at *;generalize p[m1].toNat=y1 at *;generalize p[m2].toNat=y2 at *;generalize p[m3].toNat=y3 at *;obtain⟨z1,hz1⟩:∃z,z=y0*16777216+y1*65536:=⟨_,rfl⟩;obtain⟨z2,hz2⟩:∃z,z=z1+y2*256:=⟨_,rfl⟩;obtain⟨z3,hz3⟩:∃z,z=z2+y3:=⟨_,rfl⟩;have r1:bits .or .u32 ((y0:Int)*16777216) ((y1:Int)*65536)=(z1:Int):=by have:=sums.qki (y0*16777216) (y1*65536) 24 (by omega) (by decide) (by omega) (by omega);rw[<-hz1]at this;simpa using this
   have r2:bits .or .u32 (z1:Int) ((y2:Int)*256)=(z2:Int):=by have:=sums.qki z1 (y2*256) 16 (by omega) (by decide) (by omega) (by omega);rw[<-hz2]at this;simpa using this
   have r3:bits .or .u32 (z2:Int) (y3:Int)=(z3:Int):=by have:=sums.qki z2 y3 8 (by omega) (by decide) (by omega) (by omega);rw[<-hz3]at this;exact this
   have HV:Hid ((z3:Int)=sv p t):=zhd (by rw[zf1 p t ht,<-hm0,hw];congr 1;omega);have i0:(m0:Int)<(len:Int):=by omega
   have i1:(m1:Int)<(len:Int):=by omega
   have i2:(m2:Int)<(len:Int):=by omega
   have i3:(m3:Int)<(len:Int):=by omega
   clear hm hA hAs hAt hrr hpl hw hz1 hz2 hz3 hm0 hm1 hm2 hm3 b0 b1 b2 b3;refine qcu 35 (by kernel_rfl) (by kernel_rfl) ?_;simp only[qah,qan,qad,qaj];repeat (go_big_quiet_step (fail))
   refine wpQuiet_nil ?_;clear X0 X1 X2 X3 w0 w1' w2' w3' r1 r2 r3 e0 e1 e2 e3;go_wp2;go_roundg k;case measure=>omega
   case rel=>exact⟨t+1,by go_num,by omega,HMM.out.store (Fr.drew1 [] wr) (by omega) _ HV.out⟩
  ·obtain rfl:t=16:=by omega
   obtain rfl:gk=0:=by omega
   have HM1:=zhd hm;clear hm;obtain⟨w2,rfl⟩:∃w2:World,w2=wr:=⟨_,rfl⟩;go_upto_block 2 with fail;go_wp2;go_loopg [7] 64 (λk s7 wr=>∃t:Nat,s7 = .int .i64 (t:Nat)∧t+k=80∧16≤t∧Mx w wr h p B t);case atStart=>exact⟨16,rfl,rfl,by omega,HM1.out⟩
   case round=>
    obtain⟨t,rfl,htk,ht16,hm⟩:=hrel;have HMM:=zhd hm;clear hm;by_cases ht:t<80
    ·obtain⟨k,rfl⟩:∃k,gk=k+1:=⟨gk-1,by omega⟩;go_upto_region 10 with fail;have hm:=HMM.out;obtain⟨A,hA,hAs,hAt⟩:=hm.wb;have zA:=qau hA t;obtain⟨x0,hx0⟩:∃x,wr.cell? ⟨B+2,t,none⟩=some x:=⟨A[t]'(by omega),by rw[cell_of hA];exact qb5 (by omega)⟩;obtain⟨n3,hn3⟩:∃m,m=t-3:=⟨_,rfl⟩;obtain⟨n8,hn8⟩:∃m,m=t-8:=⟨_,rfl⟩;obtain⟨n14,hn14⟩:∃m,m=t-14:=⟨_,rfl⟩;obtain⟨n16,hn16⟩:∃m,m=t-16:=⟨_,rfl⟩;have e3:(t:Int)-3=(n3:Int):=by omega
     have e8:(t:Int)-8=(n8:Int):=by omega
     have e14:(t:Int)-14=(n14:Int):=by omega
     have e16:(t:Int)-16=(n16:Int):=by omega
     have w3:IntKind.i64.wrap ((t:Int)-3)=(n3:Int):=by rw[qbw];omega
     have w8:IntKind.i64.wrap ((t:Int)-8)=(n8:Int):=by rw[qbw];omega
     have w14:IntKind.i64.wrap ((t:Int)-14)=(n14:Int):=by rw[qbw];omega
     have w16:IntKind.i64.wrap ((t:Int)-16)=(n16:Int):=by rw[qbw];omega
     have x3:=(cell_of hA n3).trans (hAt n3 (by omega));have x8:=(cell_of hA n8).trans (hAt n8 (by omega));have x14:=(cell_of hA n14).trans (hAt n14 (by omega));have x16:=(cell_of hA n16).trans (hAt n16 (by omega));have i3:(n3:Int)<80:=by omega
     have i8:(n8:Int)<80:=by omega
     have i14:(n14:Int)<80:=by omega
     have i16:(n16:Int)<80:=by omega
     have it:(t:Int)<80:=by omega
     have hv:=zf2 p t ht16 ht;rw[<-hn3,<-hn8,<-hn14,<-hn16]at hv;have HV:=zhd hv;clear hm hA hAs hAt hn3 hn8 hn14 hn16 hv;refine qcu 22 (by kernel_rfl) (by kernel_rfl) ?_;simp only[qah,qan,qad,qaj];repeat (go_big_quiet_step (exact qdt _ 1 _ (.inl rfl) _))
     refine wpQuiet_nil ?_;clear x3 x8 x14 x16 w3 w8 w14 w16 e3 e8 e14 e16;go_wp2;go_roundg k;case measure=>omega
     case rel=>exact⟨t+1,by go_num,by omega,by omega,HMM.out.store (Fr.drew1 [] wr) ht _ HV.out.symm⟩
    ·obtain rfl:t=80:=by omega
     obtain rfl:gk=0:=by omega
     obtain⟨w3,rfl⟩:∃w3:World,w3=wr:=⟨_,rfl⟩;go_upto_region 12 with (go_at_call 148;refine (qw4 _).mono ?_;unfold fns kns;rintro e w4 ⟨rfl,f4⟩;have H4:=zhd f4;clear f4);obtain⟨Q,w5,hQ,hw5,f5,qf,qk⟩:∃Q w5,Q=w4.heap.size∧w5=(w4.alloc (.cells fns 231)).alloc (.cells kns 232)∧Fr [] w4 w5∧w5.heap[Q]?=some (.cells fns 231 (0,0))∧w5.heap[Q+1]?=some (.cells kns 232 (0,0)):=
      ⟨_,_,rfl,rfl,((Fr.refl [] w4).alloc _).alloc _,qcx _ (qay w4 _),by have:=qay (w4.alloc (.cells fns 231)) (.cells kns 232);rw[qa1]at this;exact this⟩
     unfold fns kns at hw5;rw[<-hw5,<-hQ];have hm5:=HMM.out.fr0 (H4.out.trans f5);have k0:=cell_of hm5.hb 0;have k1:=cell_of hm5.hb 1;have k2:=cell_of hm5.hb 2;have k3:=cell_of hm5.hb 3;have k4:=cell_of hm5.hb 4;unfold H5.vals at k0 k1 k2 k3 k4;simp only[qag,qac,qaf]at k0 k1 k2 k3 k4;have H5':=zhd3 hm5 qf qk;clear hm5 qf qk hw5 hQ f5;go_quiet (fail);clear k0 k1 k2 k3 k4;go_upto_block 4 with fail;go_wp2;go_loopg [10,11,12,13,14,15,16,96] 80 (λk s10 s11 s12 s13 s14 s15 s16 s96 wr=>∃t:Nat,s96 = .int .i64 (t:Nat)∧t+k=80∧s10 = .int .u32 (rounds p t h).a∧s11 = .int .u32 (rounds p t h).b∧s12 = .int .u32 (rounds p t h).c∧s13 = .int .u32 (rounds p t h).d∧s14 = .int .u32 (rounds p t h).e∧Fr [] w5 wr);case atStart=>exact⟨0,rfl,rfl,rfl,rfl,rfl,rfl,rfl,Fr.drewN [] w5 _⟩
     case round=>
      obtain⟨t,rfl,htk,rfl,rfl,rfl,rfl,rfl,hf⟩:=hrel;have HF:=zhd hf;clear hf;by_cases ht:t<80
      ·obtain⟨k,rfl⟩:∃k,gk=k+1:=⟨gk-1,by omega⟩;have hro:rounds p (t+1) h=round p t (rounds p t h):=rfl;unfold round at hro;have hsv:(sched p 80)[t]?.getD 0=sv p t:=rfl;rw[hsv]at hro;generalize rounds p t h=s at *;obtain⟨sa,sb,sc,sd,se⟩:=s;simp only at hro;have HR:=zhd hro;clear hro hsv;go_upto_region 16 with fail;have hm6:=H5'.out.1.fr0 HF.out;obtain⟨A,hA,hAs,hAt⟩:=hm6.wb;have xw:=(cell_of hA t).trans (hAt t ht);have bf:=HF.out.blk H5'.out.2.1 (by simp);have bk:=HF.out.blk H5'.out.2.2 (by simp);have it:(t:Int)<80:=by omega
       clear hm6 hA hAs hAt;obtain⟨q,hq⟩:=zex (t/20);have hq4:q<4:=by omega
       have hqi:(t:Int)/20=(q:Int):=by omega
       rw[<-hq]at HR;rcases (show q=0∨q=1∨q=2∨q=3 by omega) with rfl|rfl|rfl|rfl
       ·have xf:=cell_of bf 0;have xk:=cell_of bk 0;unfold fns at xf;unfold kns at xk;simp only[qag,qac,qaf]at xf xk;clear bf bk hq;go_quiet ((first|(go_at_call 147;exact qb9 (qdt _ 5 _ (.inr (.inl rfl))))|(go_at_call 179;exact qb9 (quv _ _ _ _))|(go_at_call 178;exact qb9 (qpe _ _ _ _))|(go_at_call 180;exact qb9 (qpm _ _ _ _))));clear xf xk xw hqi;go_wp2_with (go_at_call 147;refine (qdt _ 30 _ (.inr (.inr rfl))).mono ?_;rintro e w7 ⟨rfl,rfl⟩);go_roundg k;case measure=>omega
        case rel=>
         refine⟨t+1,by go_num,by omega,?_,?_,?_,?_,?_,HF.out.trans (Fr.drewN _ _ _)⟩;all_goals rw[HR.out]
         all_goals (first|rfl|(simp only[add32,qfu,qfv,fsel,ksel]))
       ·have xf:=cell_of bf 1;have xk:=cell_of bk 1;unfold fns at xf;unfold kns at xk;simp only[qag,qac,qaf]at xf xk;clear bf bk hq;go_quiet ((first|(go_at_call 147;exact qb9 (qdt _ 5 _ (.inr (.inl rfl))))|(go_at_call 179;exact qb9 (quv _ _ _ _))|(go_at_call 178;exact qb9 (qpe _ _ _ _))|(go_at_call 180;exact qb9 (qpm _ _ _ _))));clear xf xk xw hqi;go_wp2_with (go_at_call 147;refine (qdt _ 30 _ (.inr (.inr rfl))).mono ?_;rintro e w7 ⟨rfl,rfl⟩);go_roundg k;case measure=>omega
        case rel=>
         refine⟨t+1,by go_num,by omega,?_,?_,?_,?_,?_,HF.out.trans (Fr.drewN _ _ _)⟩;all_goals rw[HR.out]
         all_goals (first|rfl|(simp only[add32,qfu,qfv,fsel,ksel]))
       ·have xf:=cell_of bf 2;have xk:=cell_of bk 2;unfold fns at xf;unfold kns at xk;simp only[qag,qac,qaf]at xf xk;clear bf bk hq;go_quiet ((first|(go_at_call 147;exact qb9 (qdt _ 5 _ (.inr (.inl rfl))))|(go_at_call 179;exact qb9 (quv _ _ _ _))|(go_at_call 178;exact qb9 (qpe _ _ _ _))|(go_at_call 180;exact qb9 (qpm _ _ _ _))));clear xf xk xw hqi;go_wp2_with (go_at_call 147;refine (qdt _ 30 _ (.inr (.inr rfl))).mono ?_;rintro e w7 ⟨rfl,rfl⟩);go_roundg k;case measure=>omega
        case rel=>
         refine⟨t+1,by go_num,by omega,?_,?_,?_,?_,?_,HF.out.trans (Fr.drewN _ _ _)⟩;all_goals rw[HR.out]
         all_goals (first|rfl|(simp only[add32,qfu,qfv,fsel,ksel]))
       ·have xf:=cell_of bf 3;have xk:=cell_of bk 3;unfold fns at xf;unfold kns at xk;simp only[qag,qac,qaf]at xf xk;clear bf bk hq;go_quiet ((first|(go_at_call 147;exact qb9 (qdt _ 5 _ (.inr (.inl rfl))))|(go_at_call 179;exact qb9 (quv _ _ _ _))|(go_at_call 178;exact qb9 (qpe _ _ _ _))|(go_at_call 180;exact qb9 (qpm _ _ _ _))));clear xf xk xw hqi;go_wp2_with (go_at_call 147;refine (qdt _ 30 _ (.inr (.inr rfl))).mono ?_;rintro e w7 ⟨rfl,rfl⟩);go_roundg k;case measure=>omega
        case rel=>
         refine⟨t+1,by go_num,by omega,?_,?_,?_,?_,?_,HF.out.trans (Fr.drewN _ _ _)⟩;all_goals rw[HR.out]
         all_goals (first|rfl|(simp only[add32,qfu,qfv,fsel,ksel]))
      ·obtain rfl:t=80:=by omega
       obtain rfl:gk=0:=by omega
       have hm6:=H5'.out.1.fr0 HF.out;have k0:=cell_of hm6.hb 0;have k1:=cell_of hm6.hb 1;have k2:=cell_of hm6.hb 2;have k3:=cell_of hm6.hb 3;have k4:=cell_of hm6.hb 4;unfold H5.vals at k0 k1 k2 k3 k4;simp only[qag,qac,qaf]at k0 k1 k2 k3 k4;have c0:=cell_of hm6.rb 0;have c1:=cell_of hm6.rb 1;have c2:=cell_of hm6.rb 2;have c3:=cell_of hm6.rb 3;have c4:=cell_of hm6.rb 4;have z0:=qau hm6.rb 0;have z1:=qau hm6.rb 1;have z2:=qau hm6.rb 2;have z3:=qau hm6.rb 3;have z4:=qau hm6.rb 4;simp only[qag,qac,qaf]at c0 c1 c2 c3 c4;have hmx:mixH h p=⟨add32 h.a (rounds p 80 h).a,add32 h.b (rounds p 80 h).b,add32 h.c (rounds p 80 h).c,add32 h.d (rounds p 80 h).d,add32 h.e (rounds p 80 h).e⟩:=rfl;generalize rounds p 80 h=s at *;unfold add32 at hmx;have HX:=zhd2 hmx hm6;clear hmx hm6;go_wp2;obtain⟨p1,p2⟩:=put5 HX.out.2.rb (.int .u32 ((h.a+s.a)%4294967296)) (.int .u32 ((h.b+s.b)%4294967296)) (.int .u32 ((h.c+s.c)%4294967296)) (.int .u32 ((h.d+s.d)%4294967296)) (.int .u32 ((h.e+s.e)%4294967296));refine bodyPost_ret (qhv rfl _ _ (B+1) _ (0,0) rfl p1 rfl) rfl ?_;refine⟨by rw[HX.out.1],HX.out.2.fr.step p2 λy hy=>.inr (by simp at hy;have:=HX.out.2.lo;omega)⟩
structure ShC (C:Array Value) (h:H5) (v:Value) (len:Nat):Prop where
 size:C.size=267
 k:C[0]?=some (.int .i64 1)
 a:C[1]?=some (.int .u32 h.a)
 b:C[2]?=some (.int .u32 h.b)
 c:C[3]?=some (.int .u32 h.c)
 d:C[4]?=some (.int .u32 h.d)
 e:C[5]?=some (.int .u32 h.e)
 r:C[6]?=some v
 n:C[7]?=some (.int .u64 len)
theorem ShC.set6 {C:Array Value} {h:H5} {v:Value} {len:Nat} (s:ShC C h v len) (u:Value):ShC (C.setIfInBounds 6 u) h u len:=by obtain⟨h1,h2,h3,h4,h5,h6,h7,h8,h9⟩:=s;exact⟨by simp[h1],by rw[qaa (by decide),h2],by rw[qaa (by decide),h3],by rw[qaa (by decide),h4],by rw[qaa (by decide),h5],by rw[qaa (by decide),h6],by rw[qaa (by decide),h7],qal (by omega),by rw[qaa (by decide),h9]⟩
theorem ShC.set7 {C:Array Value} {h:H5} {v:Value} {len:Nat} (s:ShC C h v len) (l:Nat):ShC (C.setIfInBounds 7 (.int .u64 l)) h v l:=by obtain⟨h1,h2,h3,h4,h5,h6,h7,h8,h9⟩:=s;exact⟨by simp[h1],by rw[qaa (by decide),h2],by rw[qaa (by decide),h3],by rw[qaa (by decide),h4],by rw[qaa (by decide),h5],by rw[qaa (by decide),h6],by rw[qaa (by decide),h7],by rw[qaa (by decide),h8],qal (by omega)⟩
theorem ShC.setH {C:Array Value} {h:H5} {v:Value} {len:Nat} (s:ShC C h v len) (a b c d e:Int) :
  ShC (((((C.setIfInBounds 1 (.int .u32 a)).setIfInBounds 2 (.int .u32 b)).setIfInBounds 3 (.int .u32 c)).setIfInBounds 4 (.int .u32 d)).setIfInBounds 5 (.int .u32 e)) ⟨a,b,c,d,e⟩ v len:=by
 obtain⟨h1,h2,h3,h4,h5,h6,h7,h8,h9⟩:=s;exact⟨by simp[h1],by rw[qaa (by decide),qaa (by decide),qaa (by decide),qaa (by decide),qaa (by decide),h2],by rw[qaa (by decide),qaa (by decide),qaa (by decide),qaa (by decide)];exact qal (by simp[h1]),by rw[qaa (by decide),qaa (by decide),qaa (by decide)];exact qal (by simp[h1]),by rw[qaa (by decide),qaa (by decide)];exact qal (by simp[h1]),by rw[qaa (by decide)];exact qal (by simp[h1]),qal (by simp[h1]),by rw[qaa (by decide),qaa (by decide),qaa (by decide),qaa (by decide),qaa (by decide),h8],by rw[qaa (by decide),qaa (by decide),qaa (by decide),qaa (by decide),qaa (by decide),h9]⟩
structure Sh (w:World) (g:Nat) (h:H5) (ra:Option Addr) (rc:Nat) (rs:List UInt8) (len:Nat):Prop where
 blk:∃C,w.heap[g]?=some (.cells C 188 (0,0))∧ShC C h (.slice ra rs.length rc) len
 own:Own w 5 ra rc (rs.map bv)
 ne:g∉lib.blk ra
def leftOf:Nat→List UInt8→List UInt8
 | 0,p=>p
 | f+1,p=>if 64≤p.length then leftOf f (p.drop 64) else p
theorem qrv (w:World):Calls Tryz.prog 106 #[.int .i64 1] w λe w'=>e = .returned (.pointer (some ⟨w.heap.size,0,none⟩))∧Sh w' w.heap.size h0 none 0 [] 0∧Fr [] w w':=by go_enter Tryz.func106,Tryz.ntmps106;go_wp2;go_ret;exact⟨rfl,⟨⟨_,qay w _,⟨rfl,rfl,rfl,rfl,rfl,rfl,rfl,rfl,rfl⟩⟩,Own.nil _ _,by simp[lib.blk]⟩,(Fr.refl [] w).alloc _⟩
theorem qlr (g:Nat) (h:H5) (ra:Option Addr) (rc:Nat) (rs:List UInt8) (len cap:Nat) (ao:Option Addr) (bs:List UInt8) (w:World) (hs:Sh w g h ra rc rs len) (hr:Rd w ao cap bs) (hng:bs≠[]→∀x∈lib.blk ao,x≠g)
  (hl:len+bs.length≤140737488355328) (hrl:rs.length+bs.length≤140737488355328) :
  Calls Tryz.prog 94 #[.pointer (some ⟨g,0,none⟩),.slice ao bs.length cap] w λe w'=>e = .returned (.tuple #[])∧Fr (g::lib.blk ra) w w'∧
   ∃ra' rc',Sh w' g (blocks (rs++bs).length h (rs++bs)) ra' rc' (leftOf (rs++bs).length (rs++bs)) (len+bs.length)∧∀x∈lib.blk ra',x∈lib.blk ra∨w.heap.size≤x:=by
 obtain⟨L,hL⟩:=zex bs.length;obtain⟨R,hR⟩:=zex rs.length;have hle:=hr.le;have hmax:=hr.max;unfold maxLen at hmax;obtain⟨C,hC,hc⟩:=hs.blk;obtain⟨o1,o2,o3⟩:=hs.own.shape;rw[qap]at o1;rw[<-hR]at o1 hc hrl;rw[<-hL]at hle hl hrl ⊢;have c0:=(cell_of hC 0).trans hc.k;have c6:=(cell_of hC 6).trans hc.r;have c7:=(cell_of hC 7).trans hc.n;have z7:=qau hC 7;have H:=zhd7 hC hc hs hr hng hL hR;clear hC hc hs hr hng hL hR;go_enter Tryz.func94,Tryz.ntmps94;go_upto_region 3 with fail;have f1:Fr [g] w (w.setCell ⟨g,7,none⟩ (.int .u64 ((len+L:Nat):Int))):=(Fr.refl [g] w).setCell (by simp) _;have hC1:=qax (o:=7) H.o0 (.int .u64 ((len+L:Nat):Int));have hc1:=H.o1.set7 (len+L);have ecast:((len+L:Nat):Int)=(len:Int)+(L:Int):=by omega
 rw[ecast]at f1 hC1;generalize w.setCell ⟨g,7,none⟩ (.int .u64 ((len:Int)+(L:Int)))=w1 at *;rw[<-ecast]at hC1;obtain⟨C1,hCC⟩:∃C1,C1=C.setIfInBounds 7 (.int .u64 ((len+L:Nat):Int)):=⟨_,rfl⟩;rw[<-hCC]at hC1 hc1;have c6':=(cell_of hC1 6).trans hc1.r;have z6:=qau hC1 6;have ho1:Own w1 5 ra rc (rs.map bv):=H.o2.own.fr f1 (λx hx hm=>by simp at hm;rw[hm]at hx;exact H.o2.ne hx);have hr1:Rd w1 ao cap bs:=qhj H.o3 f1 (λhb x hx hm=>by simp at hm;exact H.o4 hb x hx hm);have H1:=zhd5 hC1 hc1 f1 ho1 hr1;clear hC1 hc1 f1 ho1 hr1 hCC c0 c6 c7 z7 ecast;go_upto_block 1 with (refine qcn sums.sliceU8 rfl _ _ rfl ra R rc (rs.map bv) rfl H1.o3 (by rw[qap];exact H.l6.symm) ao L cap (bs.map bv) rfl hle H1.l4.nil H1.l4.cs (by rw[qap];exact H.o5.symm) (sums.qc0 _) (by omega) (by unfold maxLen;omega) ?_;intro a2 q2 w2 A2;have c62:=A2.fr.cell c6' H.o2.ne;have z62:w2.frozen? ⟨g,6,none⟩=false:=qau (A2.fr.blk H1.o0 H.o2.ne) 6;have H2:=zhd A2;clear A2);have hlen2:(rs++bs).length=R+L:=by rw[qab,<-H.l6,<-H.o5]
 have hsh:Sh (w2.setCell ⟨g,6,none⟩ (.slice a2 (R+L) q2)) g h a2 q2 (rs++bs) (len+L)∧Fr (g::lib.blk ra) w (w2.setCell ⟨g,6,none⟩ (.slice a2 (R+L) q2))∧∀x∈lib.blk a2,x∈lib.blk ra∨w.heap.size≤x:=by
  have hg2:g∉lib.blk a2:=λhm=>by
   rcases H2.out.at_ g hm with k|k
   ·exact H.o2.ne k
   ·have:=lt_of_block H1.o0;omega
  have f6:Fr [g] w2 (w2.setCell ⟨g,6,none⟩ (.slice a2 (R+L) q2)):=(Fr.refl [g] w2).setCell (by simp) _;have hb2:=H2.out.fr.blk H1.o0 H.o2.ne;refine⟨⟨⟨_,qax hb2 _,by rw[hlen2];exact H1.o1.set6 _⟩,by rw[qbe];exact H2.out.own.fr f6 (λx hx hm=>by simp at hm;rw[hm]at hx;exact hg2 hx),hg2⟩,((H1.o2.mono (by simp)).step H2.out.fr (λy hy=>.inl (by simp[hy]))).step f6 (λy hy=>.inl (by simp at hy;simp[hy])),λx hx=>?_⟩;rcases H2.out.at_ x hx with k|k
  ·exact .inl k
  ·exact .inr (qar H1.o2.size k)
 generalize w2.setCell ⟨g,6,none⟩ (.slice a2 (R+L) q2)=w3 at *;have HS:=zhd2 hsh hlen2;clear hsh hlen2 c62 z62 c6' z6;go_wp2;go_loopg [] (R+L) (λk wr=>∃(h':H5) (ra':Option Addr) (rc':Nat) (ps:List UInt8),Sh wr g h' ra' rc' ps (len+L)∧Fr (g::lib.blk ra) w wr∧(∀x∈lib.blk ra',x∈lib.blk ra∨w.heap.size≤x)∧ps.length≤k∧blocks k h' ps=blocks (rs++bs).length h (rs++bs)∧leftOf k ps=leftOf (rs++bs).length (rs++bs));case atStart=>exact⟨h,a2,q2,rs++bs,HS.o0.1,HS.o0.2.1,HS.o0.2.2,by rw[HS.l1];exact qae _,by rw[HS.l1],by rw[HS.l1]⟩
 case round=>
  obtain⟨h',ra',rc',ps,hs,hf,hn,hk,hbl,hdo⟩:=hrel;obtain⟨P,hP⟩:=zex ps.length;obtain⟨C',hC,hc⟩:=hs.blk;obtain⟨o1',o2',o3'⟩:=hs.own.shape;rw[qap]at o1';rw[<-hP]at hc hk o1';have c6:=(cell_of hC 6).trans hc.r;have HR:=zhd8 hs hf hn hbl hdo hP hC hc;clear hs hf hn hbl hdo hP;by_cases h64:64≤P
  ·obtain⟨k,rfl⟩:∃k,gk=k+1:=⟨gk-1,by omega⟩;have d1:decide ((64:Int)≤P)=true:=by simp;omega
   go_upto_region 5 with fail;have c1:=(cell_of hC 1).trans hc.a;have c2:=(cell_of hC 2).trans hc.b;have c3:=(cell_of hC 3).trans hc.c;have c4:=(cell_of hC 4).trans hc.d;have c5:=(cell_of hC 5).trans hc.e;have hmx:=λw' (f:Fr [] wr w')=>qx8 h' ra' P rc' ps w' (HR.o0.own.rd.fr f) HR.o5.symm h64
   unfold H5.vals at hmx;have HM:=zhd hmx;clear hmx hC hc;refine qb3 12 [(false,0),(false,1),(false,2),(false,3),(false,4),(false,5),(false,6),(false,7),(false,8),(true,9),(false,10),(false,11)] [] (by kernel_rfl) (by kernel_rfl) (λ_ _ d _ _ h=>by cases d<;>exact h) ?_;simp only[qak,qam,qaz,qa0,qad,qaj,qbk];refine qb0 9 rfl ?_;simp only[qah,qan,qad,qaj,qak,qam];repeat (go_big_quiet_step (fail))
   refine wpQuiet_nil ?_;refine qb6 rfl ?_;intro X hX;go_wp2_with (go_at_call 117;refine (HM.out _ (Fr.drew1 [] wr)).mono ?_;rintro e w5 ⟨rfl,f5⟩);refine hX.out _ _ f5 ?_;clear hX X c1 c2 c3 c4 c5 c6;refine qb0 2 rfl ?_;simp only[qah,qan,qad,qaj,qak,qam];repeat (go_big_quiet_step (fail))
   refine wpQuiet_nil ?_;refine qcq ?_;have hb5:=f5.blk (show wr.drew.heap[g]?=_ from HR.o6) (by simp);have hcc:=HR.l7;have c1:=(cell_of hb5 1).trans hcc.a;have c2:=(cell_of hb5 2).trans hcc.b;have c3:=(cell_of hb5 3).trans hcc.c;have c4:=(cell_of hb5 4).trans hcc.d;have c5:=(cell_of hb5 5).trans hcc.e;have z1:=qau hb5 1;have z2:=qau hb5 2;have z3:=qau hb5 3;have z4:=qau hb5 4;have z5:=qau hb5 5;obtain⟨mh,hmh⟩:=zex (mixH h' ps);rw[<-hmh];obtain⟨ma,mb,mc,md,me⟩:=mh;simp only;have H5':=zhd4 hb5 hcc f5 hmh;clear hb5 hcc f5 hmh;go_upto_region 6 with fail;have f6:Fr [g] w5 (((((w5.setCell ⟨g,1,none⟩ (.int .u32 ma)).setCell ⟨g,2,none⟩ (.int .u32 mb)).setCell ⟨g,3,none⟩ (.int .u32 mc)).setCell ⟨g,4,none⟩ (.int .u32 md)).setCell ⟨g,5,none⟩ (.int .u32 me)):=(((((Fr.refl [g] w5).setCell (by simp) _).setCell (by simp) _).setCell (by simp) _).setCell (by simp) _).setCell (by simp) _;have hb6:=qax (o:=5) (qax (o:=4) (qax (o:=3) (qax (o:=2) (qax (o:=1) H5'.out.1 (.int .u32 ma)) (.int .u32 mb)) (.int .u32 mc)) (.int .u32 md)) (.int .u32 me);have hc6:=H5'.out.2.1.setH ma mb mc md me;clear c1 c2 c3 c4 c5 z1 z2 z3 z4 z5;generalize ((((w5.setCell ⟨g,1,none⟩ (.int .u32 ma)).setCell ⟨g,2,none⟩ (.int .u32 mb)).setCell ⟨g,3,none⟩ (.int .u32 mc)).setCell ⟨g,4,none⟩ (.int .u32 md)).setCell ⟨g,5,none⟩ (.int .u32 me)=w6 at *;have c6:=(cell_of hb6 6).trans hc6.r;have z6:=qau hb6 6;have H6:=zhd3 hb6 hc6 f6;clear hb6 hc6 f6;have hca:cutAtN ra' rc' 64 1=if rc'=64 then ra' else Option.map (λx=>x.add (64*1)) ra':=rfl
   have HCA:=zhd hca;clear hca;go_wp2_with (refine qb2 sums.sliceU8 64 rfl _ _ rfl ra' P rc' _ rfl rfl rfl h64 o1' ?_);go_roundg k;case measure=>omega
   case rel=>
    have f7:Fr [g] w6 (w6.setCell ⟨g,6,none⟩ (.slice (cutAtN ra' rc' 64 1) (P-64) (rc'-64))):=(Fr.refl [g] w6).setCell (by simp) _;have hdl:(ps.drop 64).length=P-64:=by rw[qav,<-HR.o5]
    have fAll:Fr (g::lib.blk ra) w (w6.setCell ⟨g,6,none⟩ (.slice (cutAtN ra' rc' 64 1) (P-64) (rc'-64))):=(((HR.o1.trans ((Fr.drew1 [] wr).mono (by simp))).trans (H5'.out.2.2.1.mono (by simp))).step H6.l2 (λy hy=>.inl (by simp at hy;simp[hy]))).step f7 (λy hy=>.inl (by simp at hy;simp[hy]));have hne:g∉lib.blk (cutAtN ra' rc' 64 1):=by rw[qij];exact HR.o0.ne
    have how:Own (w6.setCell ⟨g,6,none⟩ (.slice (cutAtN ra' rc' 64 1) (P-64) (rc'-64))) 5 (cutAtN ra' rc' 64 1) (rc'-64) ((ps.drop 64).map bv):=by have h1:=((HR.o0.own.fr (Fr.drew1 [] wr) (by simp)).fr H5'.out.2.2.1 (by simp)).drop 64 (by rw[qap,<-HR.o5];exact h64);rw[<-qti]at h1;exact (h1.fr H6.l2 (λx hx hm=>by simp at hm;rw[hm]at hx;exact hne hx)).fr f7 (λx hx hm=>by simp at hm;rw[hm]at hx;exact hne hx)
    refine⟨⟨ma,mb,mc,md,me⟩,_,_,ps.drop 64,⟨⟨_,qax H6.o0 _,by rw[hdl];exact H6.o1.set6 _⟩,how,hne⟩,fAll,λx hx=>HR.o2 x (by rw[qij]at hx;exact hx),by rw[hdl];omega,?_,?_⟩
    ·have:=HR.o3;rw[blocks,if_pos (by rw[<-HR.o5];exact h64),<-H5'.out.2.2.2]at this;exact this
    ·have:=HR.o4;rw[leftOf,if_pos (by rw[<-HR.o5];exact h64)]at this;exact this
  ·have d1:decide ((64:Int)≤P)=false:=by simp;omega
   have hb0:blocks gk h' ps=h':=by
    cases gk with
    | zero=>rfl
    | succ k=>rw[blocks,if_neg (by rw[<-HR.o5];exact h64)]
   have hd0:leftOf gk ps=ps:=by
    cases gk with
    | zero=>rfl
    | succ k=>rw[leftOf,if_neg (by rw[<-HR.o5];exact h64)]
   have HZ:=zhd2 hb0 hd0;clear hb0 hd0 hC hc;go_wp2;go_end0;refine⟨rfl,HR.o1,ra',rc',?_,HR.o2⟩;rw[<-HR.o3,<-HR.o4,HZ.o0,HZ.l1];exact HR.o0
end Go.Proofs.YtkmpfgpfbmeihaaGreatDoor.sha
namespace Go.Proofs.YtkmpfgpfbmeihaaGreatDoor.lib
open Go
theorem Fr.from_drew {S:List Nat} {w w':World} (h:Fr S w w'):Fr S w.drew w':=⟨h.os,h.tape,h.output,h.size,h.block⟩
section
variable {P : Program} {ops : Array Oper} {Q : Exit → Act → World → Prop} {md : Region.Mode}
def mixR (P:Program) (ops:Array Oper) (S:List Nat) (Q:Exit→Act→World→Prop) (tail:List Oper):List (Bool×Oper)→World→Act→World→Prop
 | [],_,a,w=>wpList P ops Q tail a w
 | (false,o)::rest,b,a,w=>if Region.wanted o (yielded ops a.tmps) then o.quiet P a (Sup S b) (λa'=>mixR P ops S Q tail rest b a' w) else mixR P ops S Q tail rest b (a.put o.dst undef) w
 | (true,o)::rest,b,a,w=>if Region.wanted o (yielded ops a.tmps) then o.wp P a w (λa' w'=>∃b',Fr S b b'∧Fr S b' w'∧mixR P ops S Q tail rest b' a' w') Q else mixR P ops S Q tail rest b (a.put o.dst undef) w
theorem qjl {n:Nat} {S:List Nat} {l:List Oper} (hl:ops=l.toArray) (hsel:Region.noSelect ops=true) (hQ:∀c a d v w,Q (.panic c) (Act.put a d v) w→Q (.panic c) a w)
  (hT:∀i,i<n→∀listed,HeadInv md ops n listed→listed.getD i true=false→∀t,n≤t→t∉Region.ready md ops listed) :
  ∀(order:List (Bool×Nat)) (listed:Array Bool) (b:World) (a:Act) (w:World),Fr S b w→HeadInv md ops n listed→mixB md ops n order listed=true→
   mixR P ops S Q (l.drop n) (order.map λx=>(x.1,l.getD x.2 default)) b a w→wpMx P md ops Q n (Sup S b) (order.length+(ops.size-n)) listed a w
 | [],listed,b,a,w,_,_,hB,h=>by
  have hlen:(l.drop n).length=ops.size-n:=by rw[hl];simp
  have:=qg1 (P:=P) (Q:=Q) (md:=md) (ops:=ops) (n:=n) (C:=Sup S b) (l.drop n) n listed a w (qae _) (λj=>by rw[hl];simp[qc5]) (by rw[hlen];exact hB) h;simpa[hlen] using this
 | (e,i)::rest,listed,b,a,w,hfr,inv,hB,h=>by
  simp only[mixB,qbj,decide_eq_true_eq]at hB;obtain⟨⟨hin,he⟩,hrest⟩:=hB;have hlen:((e,i)::rest).length+(ops.size-n)=rest.length+(ops.size-n)+1:=by simp;omega
  rw[hlen];have hC:Sup S b w:=Sup.of hfr;cases e with
  | false=>
   simp only[qbj]at he;obtain⟨⟨hr,hf⟩,hk⟩:=he;have hr':i∈Region.ready md ops listed:=by simpa using hr
   obtain⟨_,oi,hoi,_⟩:=mem_ready.1 hr';rw[hoi]at hk;have hd:l.getD i default=oi:=by rw[hl]at hoi;simp at hoi;simp[List.getD,hoi]
   simp only[qak,hd,mixR]at h;by_cases hw:Region.wanted oi (yielded ops a.tmps)=true
   ·rw[if_pos hw]at h;obtain⟨v,h1,h2⟩:=h;have hy:QY P ops (Sup S b) oi v a:=.inl ⟨hw,λu hu=>qey hk (h1 u hu)⟩;exact qh4 hoi (qdi hsel) hQ hin (hT i hin) _ listed a w inv (qeq hoi hf) hr' hy hC (qjl hl hsel hQ hT rest _ b _ w hfr (inv.set hr' hin) hrest h2)
   ·rw[if_neg hw]at h;have hy:QY P ops (Sup S b) oi undef a:=.inr ⟨by simpa using hw,rfl⟩;exact qh4 hoi (qdi hsel) hQ hin (hT i hin) _ listed a w inv (qeq hoi hf) hr' hy hC (qjl hl hsel hQ hT rest _ b _ w hfr (inv.set hr' hin) hrest h)
  | true=>
   simp only[decide_eq_true_eq]at he;have hr':i∈Region.ready md ops listed:=by rw[he];simp
   obtain⟨_,oi,hoi,_⟩:=mem_ready.1 hr';have hd:l.getD i default=oi:=by rw[hl]at hoi;simp at hoi;simp[List.getD,hoi]
   simp only[qak,hd,mixR]at h;refine⟨λh0=>(by rw[h0]at hr';cases hr'),λj hj=>?_⟩;rw[he]at hj;have hji:j=i:=by simpa using hj
   subst hji;unfold wpOp;simp only[hoi];by_cases hw:Region.wanted oi (yielded ops a.tmps)=true
   ·rw[if_pos hw]at h;rw[if_pos hw];left;exact Oper.wp_mono (λa' w' h'=>by
     obtain⟨b',g1,g2,h'⟩:=h'
     exact⟨λ_=>Sup.of (g1.trans g2),qi9 (Sup.sub g1) _ _ _ _ (qjl hl hsel hQ hT rest _ b' a' w' g2 (inv.set hr' hin) hrest h')⟩) h
   ·rw[if_neg hw]at h;rw[if_neg hw];exact⟨λ_=>hC,qjl hl hsel hQ hT rest _ b _ w hfr (inv.set hr' hin) hrest h⟩
theorem qg7 {id:Nat} {a:Act} {w:World} {l:List Oper} (n:Nat) (order:List (Bool×Nat)) (S:List Nat) (hm:P.follows .mixedOrders=true) (hB:mixAll .any l.toArray n order=true)
  (hQ:∀c a d v w,Q (.panic c) (Act.put a d v) w→Q (.panic c) a w)
  (h:mixR P l.toArray S Q (l.drop n) (order.map λx=>(x.1,l.getD x.2 default)) w.drew a w.drew):(Code.region id l.toArray true).wp P Q a w:=by
 simp only[mixAll,qbj,decide_eq_true_eq,Bool.or_eq_true]at hB;obtain⟨⟨⟨hsel,hn⟩,hlen⟩,hmix⟩:=hB;have inv0:HeadInv .any l.toArray n (Array.replicate l.toArray.size false):=
  ⟨by simp,λj oj _ hl=>(by rw[getD_replicate_false]at hl;cases hl),λt _ ht=>getD_in (by simpa using ht) (getD_replicate_false _ _)⟩
 have hT:∀i,i<n→∀listed,HeadInv .any l.toArray n listed→listed.getD i true=false→∀t,n≤t→t∉Region.ready .any l.toArray listed:=by
  intro i hi listed inv hun t ht hr;rcases hn with hn|⟨⟨hn,hs⟩,hc⟩
  ·obtain⟨_,o,ho,_⟩:=mem_ready.1 hr;have:=(qd0.1 ho).1;omega
  ·exact tail_waits hs hc hn inv _ i rfl hi hun t ht hr
 refine wp_region_any hm (qg2 (n:=n) (C:=Sup S w.drew) _ _ _ _ ?_);have:=qjl (P:=P) (Q:=Q) (md:=.any) (n:=n) (S:=S) rfl hsel hQ hT order _ w.drew a w.drew (Fr.refl _ _) inv0 hmix h;rw[hlen]at this;exact this
theorem qgg {S:List Nat} {tail:List Oper} {items:List (Bool×Oper)} {b:World} {a:Act} {w:World} (k:Nat) (h0:((items.take k).all λx=>!x.1)=true)
  (h:wpQuiet P ops (Sup S b) (λa'=>mixR P ops S Q tail (items.drop k) b a' w) ((items.take k).map (·.2)) a):mixR P ops S Q tail items b a w:=by
 induction k generalizing items a with
 | zero=>exact h
 | succ k ih=>
  cases items with
  | nil=>exact h
  | cons x rest=>
   obtain⟨e,o⟩:=x;simp only[qah,List.all_cons,qbj,Bool.not_eq_true']at h0;obtain⟨rfl,h0⟩:=h0;simp only[qah,qak,qad,wpQuiet]at h;unfold mixR;by_cases hw:Region.wanted o (yielded ops a.tmps)=true
   ·rw[if_pos hw]at h ⊢;obtain⟨v,h1,h2⟩:=h;exact⟨v,h1,ih h0 h2⟩
   ·rw[if_neg hw]at h ⊢;exact ih h0 h
theorem qfp {S:List Nat} {tail:List Oper} {rest:List (Bool×Oper)} {o:Oper} {b:World} {a:Act} {w:World} (hw:Region.wanted o (yielded ops a.tmps)=true)
  (h:∀K:Act→World→Prop,Go.RowKit.Hid (∀a' w' b',Fr S b b'→Fr S b' w'→mixR P ops S Q tail rest b' a' w'→K a' w')→o.wp P a w K Q):mixR P ops S Q tail ((true,o)::rest) b a w:=by
 unfold mixR;rw[if_pos hw];exact h _ λ_ _ b' h1 h2 h3=>⟨b',h1,h2,h3⟩
theorem qlj {S:List Nat} {tail:List Oper} {b:World} {a:Act} {w:World} (h:wpList P ops Q tail a w):mixR P ops S Q tail [] b a w:=h
end
end Go.Proofs.YtkmpfgpfbmeihaaGreatDoor.lib
namespace Go.Proofs.YtkmpfgpfbmeihaaGreatDoor.sha
open Go Go.RowKit lib bm
def zer (n:Nat):Nat:=(56+64-n%64)%64
def padTo (rs:List UInt8):List UInt8:=rs++[128]++List.replicate (zer (rs.length+1)) 0
def padded (rs:List UInt8) (len:Nat):List UInt8:=padTo rs++sums.be4 (len/536870912)++sums.be4 (len*8%4294967296)
theorem qqw (rs:List UInt8):(padTo rs).length%64=56:=by unfold padTo zer;simp only[qab,qc9,qct];omega
theorem qjj (rs:List UInt8) (len:Nat):(padded rs len).length%64=0:=by have:=qqw rs;unfold padded;rw[qab,qab,sums.qdg,sums.qdg];omega
def Rng (h:H5):Prop:=(0≤h.a∧h.a<4294967296)∧(0≤h.b∧h.b<4294967296)∧(0≤h.c∧h.c<4294967296)∧(0≤h.d∧h.d<4294967296)∧(0≤h.e∧h.e<4294967296)
theorem qh1 (a b:Int):0≤add32 a b∧add32 a b<4294967296:=by unfold add32;omega
theorem qpj (h:H5) (p:List UInt8):Rng (mixH h p):=⟨qh1 _ _,qh1 _ _,qh1 _ _,qh1 _ _,qh1 _ _⟩
theorem qy5:Rng h0:=by unfold Rng h0;decide
theorem qik:∀(f:Nat) (h:H5) (p:List UInt8),Rng h→Rng (blocks f h p)
 | 0,_,_,h=>h
 | f+1,h,p,hr=>by
  rw[blocks];split
  ·exact qik f _ _ (qpj h p)
  ·exact hr
def dig5 (h:H5):List UInt8:=sums.be4 h.a.toNat++sums.be4 h.b.toNat++sums.be4 h.c.toNat++sums.be4 h.d.toNat++sums.be4 h.e.toNat
theorem qw0 (g:Nat) (h:H5) (ra:Option Addr) (rc:Nat) (rs:List UInt8) (len:Nat) (w:World) (hs:Sh w g h ra rc rs len) (hrl:rs.length<64) (hrng:Rng h) (hlen:len≤140737488355328) :
  Calls Tryz.prog 96 #[.pointer (some ⟨g,0,none⟩)] w λe w'=>(∃ao c,e = .returned (.slice ao 20 c)∧Rd w' ao c (dig5 (blocks (padded rs len).length h (padded rs len))))∧Fr [] w w':=by
 obtain⟨R,hR⟩:=zex rs.length;obtain⟨C,hC,hc⟩:=hs.blk;obtain⟨o1,o2,o3⟩:=hs.own.shape;rw[qap,<-hR]at o1;rw[<-hR]at hc hrl;have c0:=(cell_of hC 0).trans hc.k;have c6:=(cell_of hC 6).trans hc.r;have hrd:=hs.own.rd;have H:=zhd5 hC hc hs hR hrd;clear hC hc hs hR hrd;go_enter Tryz.func96,Tryz.ntmps96;have tok1:True:=trivial;go_upto_block 1 with (first|(have _t:=tok1;refine qcn sums.sliceU8 rfl _ _ rfl none 0 0 [] rfl (Own.nil _ _) rfl ra R rc (rs.map bv) rfl o1 o3 H.l4.cs (by rw[qap];exact H.o3.symm) (sums.qc0 _) (by omega) (by unfold maxLen;omega) ?_;intro a1 q1 w1 A1;rw[qb4]at A1;have H1:=zhd A1;clear A1;clear tok1 _t)|(refine qcn sums.sliceU8 rfl _ _ rfl a1 R q1 (rs.map bv) rfl (H1.out.own.fr ((Fr.refl [] w1).alloc (.cells #[.int .u8 128] 5)) (by simp)) (by rw[qap];exact H.o3.symm) (some ⟨w1.heap.size,0,none⟩) 1 1 [.int .u8 128] rfl (by omega) (by simp) (qhk w1 _ _ _) rfl (by simp[Value.oneCell']) (by omega) (by unfold maxLen;omega) ?_;intro a2 q2 w2 A2;have H2:=zhd A2;clear A2));have fw2:Fr [] w w2:=((H1.out.fr.mono (T:=[]) (by simp[lib.blk])).trans ((Fr.refl [] w1).alloc (.cells #[.int .u8 128] 5))).step H2.out.fr (λy hy=>by
  rcases H1.out.at_ y hy with k|k
  ·simp[lib.blk]at k
  ·exact .inr k)
 have hnew2:∀x∈lib.blk a2,w.heap.size≤x:=λx hx=>by
  have h1:=H1.out.fr.size;rcases H2.out.at_ x hx with k|k
  ·rcases H1.out.at_ x k with k2|k2
   ·simp[lib.blk]at k2
   ·exact k2
  ·rw[qa1]at k;omega
 have hown2:Own w2 5 a2 q2 ((rs++[128]).map bv):=by rw[qbe];exact H2.out.own
 obtain⟨Z,hZ⟩:=zex (zer (R+1));have hZ2:Z<64∧(R+1+Z)%64=56:=by rw[hZ];unfold zer;omega
 have HW:=zhd4 fw2 hnew2 hown2 hZ;clear fw2 hnew2 hown2 hZ c6 H1 H2;go_wp2;go_loopg [3] Z (λk s3 wr=>∃(j N:Nat) (a:Option Addr) (q:Nat),s3 = .slice a N q∧N=R+1+j∧j+k=Z∧Own wr 5 a q ((rs++[128]++List.replicate j 0).map bv)∧Fr [] w wr∧∀x∈lib.blk a,w.heap.size≤x);case atStart=>exact⟨0,R+1,a2,q2,rfl,rfl,by omega,by simpa using HW.o2,HW.o0,HW.o1⟩
 case round=>
  obtain⟨j,N,a,q,rfl,hN,hjk,hown,hf,hnew⟩:=hrel;obtain⟨p1,p2,p3⟩:=hown.shape;have hll:(rs++[128]++List.replicate j (0:UInt8)).length=N:=by simp only[qab,qc9,qct];rw[<-H.o3,hN]
  rw[qap,hll]at p1;have HR:=zhd4 hown hf hnew hll;clear hown hf hnew hll;by_cases hj:j<Z
  ·obtain⟨k,rfl⟩:∃k,gk=k+1:=⟨gk-1,by omega⟩;have hne:¬(N%64=56):=by omega
   have d1:((N:Int)%64 !=56)=true:=by simp;omega
   have HN:=zhd2 hN hjk;have hNb:N≤200:=by omega
   clear hne hN hjk;go_wp2_with (refine qcn sums.sliceU8 rfl _ _ rfl a N q ((rs++[128]++List.replicate j 0).map bv) rfl (HR.o0.fr ((Fr.refl [] wr).alloc (.cells #[.int .u8 0] 5)) (by simp)) (by rw[qap];exact HR.l3) (some ⟨wr.heap.size,0,none⟩) 1 1 [.int .u8 0] rfl (by omega) (by simp) (qhk wr _ _ _) rfl (by simp[Value.oneCell']) (by omega) (by unfold maxLen;omega) ?_;intro a4 q4 w4 A4;have H4:=zhd A4;clear A4);go_roundg k;case measure=>omega
   case rel=>
    obtain⟨hN,hjk⟩:=HN.out;refine⟨j+1,N+1,a4,q4,rfl,by omega,by omega,?_,(HR.o1.trans ((Fr.refl [] wr).alloc (.cells #[.int .u8 0] 5))).step H4.out.fr (λy hy=>.inr (HR.o2 y hy)),λx hx=>?_⟩
    ·rw[qfl,<-qas,qbe];exact H4.out.own
    ·have h1:=HR.o1.size;rcases H4.out.at_ x hx with k|k
     ·exact HR.o2 x k
     ·rw[qa1]at k;omega
  ·obtain rfl:j=Z:=by omega
   obtain rfl:gk=0:=by omega
   have d1:((N:Int)%64 !=56)=false:=by simp;omega
   have hNb:N≤200:=by omega
   have HN:=zhd hN;clear hN hjk;go_upto_region 9 with fail;clear d1;obtain⟨x1,hx1⟩:∃x,x=len/536870912:=⟨_,rfl⟩;obtain⟨x2,hx2⟩:∃x,x=len*8%4294967296:=⟨_,rfl⟩;have e1:(len:Int)/536870912=(x1:Int):=by omega
   have e2:((len:Int)*8)%4294967296=(x2:Int):=by omega
   obtain⟨bs,hbs⟩:∃bs,bs=rs++[128]++List.replicate j (0:UInt8):=⟨_,rfl⟩;have hpt:bs=padTo rs:=by rw[hbs,padTo,<-H.o3,<-HW.l3]
   have hbl:bs.length=N:=by rw[hbs];exact HR.l3
   have hob:=HR.o0;rw[<-hbs]at hob;have hbg:=HR.o1.blk H.o0 (by simp);have hgs:g<w.heap.size:=lt_of_block H.o0;have hga:g∉lib.blk a:=λhm=>by have:=HR.o2 g hm;omega
   obtain⟨S,hS⟩:=zex (lib.blk a);have s7:∀x,(sup S wr.drew x).cell? ⟨g,7,none⟩=some (.int .u64 len):=λx=>(qcm S wr.drew x).cell (show wr.drew.cell? _=_ from (cell_of hbg 7).trans H.o1.n) (by rw[hS];exact hga)
   have hf1:Calls Tryz.prog 119 #[.slice a N q,.int .u32 x1] wr.drew (sums.Foured wr.drew a bs x1):=by have:=sums.qjs a q bs x1 wr.drew (by omega) hob (by omega);rw[hbl]at this;exact this
   have hf2:=λw' a' q' (ho:Own w' 5 a' q' ((bs++sums.be4 x1).map bv))=>sums.qjs a' q' (bs++sums.be4 x1) x2 w' (by omega) ho (by rw[qab,sums.qdg];omega)
   rw[show (bs++sums.be4 x1).length=N+4 from by rw[qab,sums.qdg,hbl]]at hf2;unfold sums.Foured at hf1 hf2;rw[hbl]at hf1;have hx2l:x2<4294967296:=by omega
   have HF:=zhd9 hf1 hf2 hbg hga hS hpt hbl hx1 hx2;clear hf1 hf2 hbg hga hS hpt hbl hbs hob hx1 hx2;refine qg7 16 [(false,0),(false,1),(false,2),(false,3),(false,4),(false,5),(false,6),(false,8),(false,9),(false,10),(false,11),(false,12),(false,13),(true,7),(true,14),(false,15)] S (by kernel_rfl) (by kernel_rfl) (λ_ _ d _ _ h=>by cases d<;>exact h) ?_;simp only[qak,qam,qaz,qa0,qad,qaj,qbk];refine qgg 13 rfl ?_;simp only[qah,qan,qad,qaj,qak,qam];repeat (go_big_quiet_step (fail))
   refine wpQuiet_nil ?_;have HE2:=zhd e2;clear s7 e1 e2;refine qfp rfl ?_;intro X hX;go_wp2_with (go_at_call 119;refine HF.o0.mono ?_;rintro e w5 ⟨a5,q5,rfl,A5⟩);have fb1:Fr S wr.drew w5:=by rw[HF.o4];exact A5.fr
   refine hX.out _ _ wr.drew (Fr.refl _ _) fb1 ?_;clear hX X;have HA5:=zhd A5;clear A5;refine qfp rfl ?_;intro X hX;have hf2:=HF.o1 _ a5 q5 HA5.out.own;rw[<-HE2.out,show (bs++sums.be4 x1).length=N+4 from by rw[qab,sums.qdg,HF.o6]]at hf2;have HF2:=zhd hf2;clear hf2;go_wp2_with (go_at_call 119;go_loud (with_reducible refine HF2.out.mono ?_);rintro e w6 ⟨a6,q6,rfl,A6⟩);have fb2:Fr S wr.drew w6:=fb1.step A6.fr λy hy=>by
    rcases HA5.out.at_ y hy with k|k
    ·exact .inl (by rw[HF.o4];exact k)
    ·exact .inr k
   refine hX.out _ _ wr.drew (Fr.refl _ _) fb2 ?_;clear hX X;have HA6:=zhd A6;clear A6;refine qgg 1 rfl ?_;simp only[qah,qan,qad,qaj,qak,qam];repeat (go_big_quiet_step (fail))
   refine wpQuiet_nil ?_;refine qlj ?_;have fw6:Fr [] w w6:=(HR.o1.trans (Fr.drew1 [] wr)).step fb2 (λy hy=>.inr (by rw[HF.o4]at hy;exact HR.o2 y hy));have hbg:=fw6.blk H.o0 (by simp);have c1:=(cell_of hbg 1).trans H.o1.a;have c2:=(cell_of hbg 2).trans H.o1.b;have c3:=(cell_of hbg 3).trans H.o1.c;have c4:=(cell_of hbg 4).trans H.o1.d;have c5:=(cell_of hbg 5).trans H.o1.e;obtain⟨pd,hpd⟩:=zex (padded rs len);have hpd2:bs++sums.be4 x1++sums.be4 x2=pd:=by rw[hpd,padded,HF.o5,HF.o7,HF.l8]
   have hpl:pd.length=N+4+4:=by rw[<-hpd2,qab,qab,sums.qdg,sums.qdg,HF.o6]
   have hpm:pd.length%64=0:=by rw[hpd];exact qjj rs len
   have hop:Own w6 5 a6 q6 (pd.map bv):=by rw[<-hpd2];exact HA6.out.own
   have hnp:∀x∈lib.blk a6,w.heap.size≤x:=λx hx=>by
    have k0:=HR.o1.size;rcases HA6.out.at_ x hx with k|k
    ·rcases HA5.out.at_ x k with k2|k2
     ·exact HR.o2 x k2
     ·exact qar k0 k2
    ·exact qar (qar k0 fb1.size) k
   rw[<-hpl];have HP:=zhd6 fw6 hop hnp hpd hpl hpm;clear fw6 hop hnp hpd hpl hpm hpd2 hbg fb1 fb2 HA5 HA6;go_upto_block 3 with fail;clear c1 c2 c3 c4 c5;obtain⟨Q,w7,hQ,hw7,f7,b7⟩:∃Q w7,Q=w6.heap.size∧w7=w6.alloc (.cells #[.int .u32 h.a,.int .u32 h.b,.int .u32 h.c,.int .u32 h.d,.int .u32 h.e] 185)∧Fr [] w6 w7∧w7.heap[Q]?=some (.cells h.vals 185 (0,0)):=⟨_,_,rfl,rfl,(Fr.refl [] w6).alloc _,qay w6 _⟩;rw[<-hw7,<-hQ];have H7:=zhd3 f7 b7 hQ;clear hw7 hQ f7 b7;go_wp2;go_loopg [3] pd.length (λk s3 wr=>∃(h':H5) (ps:List UInt8) (P:Nat) (a:Option Addr) (q:Nat),s3 = .slice a P q∧P=ps.length∧P%64=0∧P≤k∧Own w7 5 a q (ps.map bv)∧Q∉lib.blk a∧wr.heap[Q]?=some (.cells h'.vals 185 (0,0))∧Fr [Q] w7 wr∧Rng h'∧blocks k h' ps=blocks pd.length h pd);case atStart=>exact⟨h,pd,pd.length,a6,q6,rfl,rfl,HP.l5,qae _,HP.o1.fr H7.o0 (by simp),λhm=>by have:=HP.o1.lt _ hm;rw[H7.l2]at this;omega,H7.o1,Fr.refl _ _,hrng,rfl⟩
   case round=>
    obtain⟨h',ps,P,a,q,rfl,hP,hP64,hPk,hown,hQa,hbQ,hf,hrg,hbl⟩:=hrel;obtain⟨p1,p2,p3⟩:=hown.shape;rw[qap,<-hP]at p1;have HL:=zhd8 hown hQa hbQ hf hrg hbl hP hP64;have c0:=cell_of hbQ 0;have c1:=cell_of hbQ 1;have c2:=cell_of hbQ 2;have c3:=cell_of hbQ 3;have c4:=cell_of hbQ 4;unfold H5.vals at c0 c1 c2 c3 c4;simp only[qag,qac,qaf]at c0 c1 c2 c3 c4;by_cases h0:0<P
    ·have h64:64≤P:=by omega
     obtain⟨k,rfl⟩:∃k,gk=k+1:=⟨gk-1,by omega⟩;clear hown hQa hbQ hf hrg hbl hP hP64;have hmx:=qx8 h' a P q ps wr (HL.o0.fr HL.o3 (λx hx hm=>by simp at hm;rw[hm]at hx;exact HL.o1 hx)).rd HL.o6.symm h64;unfold H5.vals at hmx;have HM:=zhd hmx;clear hmx;go_wp2_with (first|(go_at_call 117;refine HM.out.mono ?_;rintro e w8 ⟨rfl,f8⟩;have hb8:=f8.blk HL.o2 (by simp);have d0:=cell_of hb8 0;have d1:=cell_of hb8 1;have d2:=cell_of hb8 2;have d3:=cell_of hb8 3;have d4:=cell_of hb8 4;have y0:=qau hb8 0;have y1:=qau hb8 1;have y2:=qau hb8 2;have y3:=qau hb8 3;have y4:=qau hb8 4;unfold H5.vals at d0 d1 d2 d3 d4;simp only[qag,qac,qaf]at d0 d1 d2 d3 d4;have H8:=zhd2 f8 hb8;clear f8 hb8 c0 c1 c2 c3 c4)|(refine qb2 sums.sliceU8 64 rfl _ _ rfl a P q _ rfl rfl rfl h64 p1 ?_));obtain⟨k1,k2⟩:=put5 H8.out.2 (.int .u32 (mixH h' ps).a) (.int .u32 (mixH h' ps).b) (.int .u32 (mixH h' ps).c) (.int .u32 (mixH h' ps).d) (.int .u32 (mixH h' ps).e);have HK:=zhd2 k1 k2;clear k1 k2;go_roundg k;case measure=>omega
     case rel=>have hd:=HL.o0.drop 64 (by rw[qap,<-HL.o6];exact h64);rw[<-qti]at hd;refine⟨mixH h' ps,ps.drop 64,P-64,_,_,rfl,by rw[qav,<-HL.o6],by have:=HL.l7;omega,by omega,hd,by rw[qij];exact HL.o1,HK.out.1,(HL.o3.trans (H8.out.1.mono (by simp))).trans HK.out.2,qpj _ _,?_⟩;have:=HL.o5;rw[blocks,if_pos (by rw[<-HL.o6];exact h64)]at this;exact this
    ·have hbz:blocks gk h' ps=h':=by
      cases gk with
      | zero=>rfl
      | succ k=>rw[blocks,if_neg (by rw[<-hP];omega)]
     rw[hbz]at hbl;obtain⟨ha,hb,hc,hd,he⟩:=h';obtain⟨⟨r1,l1⟩,⟨r2,l2⟩,⟨r3,l3⟩,⟨r4,l4⟩,⟨r5,l5⟩⟩:=hrg;simp only at r1 r2 r3 r4 r5 l1 l2 l3 l4 l5 c0 c1 c2 c3 c4;obtain⟨na,rfl⟩:=qds r1;obtain⟨nb,rfl⟩:=qds r2;obtain⟨nc,rfl⟩:=qds r3;obtain⟨nd,rfl⟩:=qds r4;obtain⟨ne,rfl⟩:=qds r5;have fwr:Fr [] w wr:=(HP.o0.trans H7.o0).step hf (λy hy=>.inr (by simp at hy;rw[hy,H7.l2];exact HP.o0.size));have hdg:dig5 (blocks pd.length h pd)=sums.be4 na++sums.be4 nb++sums.be4 nc++sums.be4 nd++sums.be4 ne:=by rw[<-hbl];rfl
     have HD:=zhd2 fwr hdg;have HL5:Hid ((na<4294967296∧nb<4294967296)∧(nc<4294967296∧nd<4294967296∧ne<4294967296)):=zhd (by omega);clear hown hQa hbQ hf hbl hP hP64 hbz fwr hdg HL r1 r2 r3 r4 r5 l1 l2 l3 l4 l5;have hmk:∀w:World,(Instr.makeSlice 23 (.int .i64 0) (.int .i64 20)).run Tryz.prog w = .ok (.slice (some ⟨w.heap.size,0,none⟩) 0 20) (w.alloc (.cells #[.int .u8 0,.int .u8 0,.int .u8 0,.int .u8 0,.int .u8 0,.int .u8 0,.int .u8 0,.int .u8 0,.int .u8 0,.int .u8 0,.int .u8 0,.int .u8 0,.int .u8 0,.int .u8 0,.int .u8 0,.int .u8 0,.int .u8 0,.int .u8 0,.int .u8 0,.int .u8 0] 5)):=λ_=>by kernel_rfl
     go_upto_region 15 with fail;obtain⟨Bo,w9,hBo,hw9,f9,b9⟩:∃Bo w9,Bo=wr.heap.size∧w9=wr.alloc (.cells #[.int .u8 0,.int .u8 0,.int .u8 0,.int .u8 0,.int .u8 0,.int .u8 0,.int .u8 0,.int .u8 0,.int .u8 0,.int .u8 0,.int .u8 0,.int .u8 0,.int .u8 0,.int .u8 0,.int .u8 0,.int .u8 0,.int .u8 0,.int .u8 0,.int .u8 0,.int .u8 0] 5)∧Fr [] wr w9∧w9.heap[Bo]?=some (.cells #[.int .u8 0,.int .u8 0,.int .u8 0,.int .u8 0,.int .u8 0,.int .u8 0,.int .u8 0,.int .u8 0,.int .u8 0,.int .u8 0,.int .u8 0,.int .u8 0,.int .u8 0,.int .u8 0,.int .u8 0,.int .u8 0,.int .u8 0,.int .u8 0,.int .u8 0,.int .u8 0] 5 (0,0)):=⟨_,_,rfl,rfl,(Fr.refl [] wr).alloc _,qay wr _⟩;rw[<-hw9,<-hBo];have e0:=f9.cell c0 (by simp);have e1:=f9.cell c1 (by simp);have e2:=f9.cell c2 (by simp);have e3:=f9.cell c3 (by simp);have e4:=f9.cell c4 (by simp);have o9:Own w9 5 (some ⟨Bo,0,none⟩) 20 (([]:List UInt8).map bv):=.inr ⟨Bo,0,_,rfl,b9,qa5 _,by decide,qae _,rfl⟩;have n9:w.heap.size≤Bo:=by rw[hBo];exact HD.o0.size
     have H9:=zhd3 (HD.o0.trans f9) o9 n9;clear hw9 hBo f9 b9 o9 n9 c0 c1 c2 c3 c4 hmk;go_upto_block 5 with fail;clear e0 e1 e2 e3 e4;go_wp2;go_loopg [5,7,78] 5 (λk s5 s7 s78 wr=>∃(j n:Nat) (a:Option Addr) (q:Nat) (out:List UInt8),s78 = .int .i64 (j:Nat)∧s5 = .slice a n q∧n=out.length∧j+k=5∧n=4*j∧Own wr 5 a q (out.map bv)∧Fr [] w wr∧(∀x∈lib.blk a,w.heap.size≤x)∧out=([na,nb,nc,nd,ne].take j).flatMap sums.be4);case atStart=>exact⟨0,0,_,20,[],rfl,rfl,rfl,rfl,rfl,H9.o1,H9.o0,λx hx=>by simp[lib.blk]at hx;rw[hx];exact H9.l2,rfl⟩
     case round=>
      obtain⟨j,n,a,q,out,rfl,rfl,hn,hjk,hn4,hown,hf,hnew,hout⟩:=hrel;by_cases hj:j<5
      ·obtain⟨k,rfl⟩:∃k,gk=k+1:=⟨gk-1,by omega⟩;obtain⟨⟨m1,m2⟩,m3,m4,m5⟩:=HL5.out;have hfour:=λx (hx:x<4294967296)=>sums.qjs a q out x wr hx hown (by omega)
       rw[<-hn]at hfour;unfold sums.Foured at hfour;rw[<-hn]at hfour;have HFO:=zhd5 hfour hf hnew hout hn;clear hfour hf hnew hout hown hn;have key:∀(x:Nat) (w':World) (a':Option Addr) (q':Nat),([na,nb,nc,nd,ne].take (j+1)).flatMap sums.be4=out++sums.be4 x→OwnMore wr w' 5 a a' q' ((out++sums.be4 x).map bv)→
         ∃out',n+4=out'.length∧n+4=4*(j+1)∧Own w' 5 a' q' (out'.map bv)∧Fr [] w w'∧(∀x∈lib.blk a',w.heap.size≤x)∧out'=([na,nb,nc,nd,ne].take (j+1)).flatMap sums.be4:=λx w' a' q' hx A=>
        ⟨out++sums.be4 x,by rw[qab,sums.qdg,HFO.out.2.2.2.2],by omega,A.own,HFO.out.2.1.step A.fr (λy hy=>.inr (HFO.out.2.2.1 y hy)),λy hy=>by
         rcases A.at_ y hy with k|k
         ·exact HFO.out.2.2.1 y k
         ·exact qar HFO.out.2.1.size k,hx.symm⟩
       have HK:=zhd key;have HJ:=zhd2 hn4 hjk;clear key hn4 hjk;rcases (show j=0∨j=1∨j=2∨j=3∨j=4 by omega) with rfl|rfl|rfl|rfl|rfl
       ·have ix:∀w:World,(Instr.index 185 (.agg #[.int .u32 na,.int .u32 nb,.int .u32 nc,.int .u32 nd,.int .u32 ne]) (.int .i64 0)).run Tryz.prog w = .ok (.int .u32 na) w:=λ_=>by kernel_rfl
        go_wp2_with (go_at_call 119;(with_reducible refine (HFO.out.1 na m1).mono ?_);rintro e w10 ⟨a10,q10,rfl,A10⟩;have HA10:=zhd A10;clear A10);go_roundg k;case measure=>have:=HJ.l1;omega
        case rel=>have hjk:=HJ.l1;obtain⟨out',t1,t2,t3,t4,t5,t6⟩:=HK.out na _ _ _ (by rw[HFO.out.2.2.2.1];simp) HA10.out;exact⟨1,n+4,a10,q10,out',rfl,rfl,t1,by omega,t2,t3,t4,t5,t6⟩
       ·have ix:∀w:World,(Instr.index 185 (.agg #[.int .u32 na,.int .u32 nb,.int .u32 nc,.int .u32 nd,.int .u32 ne]) (.int .i64 1)).run Tryz.prog w = .ok (.int .u32 nb) w:=λ_=>by kernel_rfl
        go_wp2_with (go_at_call 119;(with_reducible refine (HFO.out.1 nb m2).mono ?_);rintro e w10 ⟨a10,q10,rfl,A10⟩;have HA10:=zhd A10;clear A10);go_roundg k;case measure=>have:=HJ.l1;omega
        case rel=>have hjk:=HJ.l1;obtain⟨out',t1,t2,t3,t4,t5,t6⟩:=HK.out nb _ _ _ (by rw[HFO.out.2.2.2.1];simp) HA10.out;exact⟨2,n+4,a10,q10,out',rfl,rfl,t1,by omega,t2,t3,t4,t5,t6⟩
       ·have ix:∀w:World,(Instr.index 185 (.agg #[.int .u32 na,.int .u32 nb,.int .u32 nc,.int .u32 nd,.int .u32 ne]) (.int .i64 2)).run Tryz.prog w = .ok (.int .u32 nc) w:=λ_=>by kernel_rfl
        go_wp2_with (go_at_call 119;(with_reducible refine (HFO.out.1 nc m3).mono ?_);rintro e w10 ⟨a10,q10,rfl,A10⟩;have HA10:=zhd A10;clear A10);go_roundg k;case measure=>have:=HJ.l1;omega
        case rel=>have hjk:=HJ.l1;obtain⟨out',t1,t2,t3,t4,t5,t6⟩:=HK.out nc _ _ _ (by rw[HFO.out.2.2.2.1];simp) HA10.out;exact⟨3,n+4,a10,q10,out',rfl,rfl,t1,by omega,t2,t3,t4,t5,t6⟩
       ·have ix:∀w:World,(Instr.index 185 (.agg #[.int .u32 na,.int .u32 nb,.int .u32 nc,.int .u32 nd,.int .u32 ne]) (.int .i64 3)).run Tryz.prog w = .ok (.int .u32 nd) w:=λ_=>by kernel_rfl
        go_wp2_with (go_at_call 119;(with_reducible refine (HFO.out.1 nd m4).mono ?_);rintro e w10 ⟨a10,q10,rfl,A10⟩;have HA10:=zhd A10;clear A10);go_roundg k;case measure=>have:=HJ.l1;omega
        case rel=>have hjk:=HJ.l1;obtain⟨out',t1,t2,t3,t4,t5,t6⟩:=HK.out nd _ _ _ (by rw[HFO.out.2.2.2.1];simp) HA10.out;exact⟨4,n+4,a10,q10,out',rfl,rfl,t1,by omega,t2,t3,t4,t5,t6⟩
       ·have ix:∀w:World,(Instr.index 185 (.agg #[.int .u32 na,.int .u32 nb,.int .u32 nc,.int .u32 nd,.int .u32 ne]) (.int .i64 4)).run Tryz.prog w = .ok (.int .u32 ne) w:=λ_=>by kernel_rfl
        go_wp2_with (go_at_call 119;(with_reducible refine (HFO.out.1 ne m5).mono ?_);rintro e w10 ⟨a10,q10,rfl,A10⟩;have HA10:=zhd A10;clear A10);go_roundg k;case measure=>have:=HJ.l1;omega
        case rel=>have hjk:=HJ.l1;obtain⟨out',t1,t2,t3,t4,t5,t6⟩:=HK.out ne _ _ _ (by rw[HFO.out.2.2.2.1];simp) HA10.out;exact⟨5,n+4,a10,q10,out',rfl,rfl,t1,by omega,t2,t3,t4,t5,t6⟩
      ·obtain rfl:j=5:=by omega
       have HZ:=zhd4 hown hf hout hn;have hn20:n=20:=by omega
       subst hn20;clear hown hf hout hn hnew hn4 hjk;go_wp2;go_ret;refine⟨⟨a,q,rfl,?_⟩,HZ.o1⟩;have e:out=dig5 (blocks (padded rs len).length h (padded rs len)):=by rw[<-HP.o3,HD.l1,HZ.o2];simp
       rw[<-e];exact HZ.o0.rd
theorem qjp:∀(f:Nat) (p:List UInt8),p.length≤f→(leftOf f p).length<64
 | 0,p,h=>by rw[leftOf];omega
 | f+1,p,h=>by
  rw[leftOf];split
  ·exact qjp f _ (by rw[qav];omega)
  ·omega
def sha1 (b:List UInt8):List UInt8:=
 dig5 (blocks (padded (leftOf b.length b) b.length).length (blocks b.length h0 b) (padded (leftOf b.length b) b.length))
theorem qck (b:List UInt8):(sha1 b).length=20:=rfl
theorem qwq (a:Option Addr) (cap:Nat) (bs:List UInt8) (w:World) (h:Rd w a cap bs) (hl:bs.length≤140737488355328) :
  Calls Tryz.prog 69 #[.int .i64 1,.slice a bs.length cap] w λe w'=>(∃ao c,e = .returned (.slice ao 20 c)∧Rd w' ao c (sha1 bs))∧Fr [] w w':=by
 have H:=zhd h;clear h;go_enter Tryz.func69,Tryz.ntmps69;go_upto_region 2 with (go_at_call 106;refine (qrv _).mono ?_;rintro e w1 ⟨rfl,A1,f1⟩);have hw:=qlr w.heap.size h0 none 0 [] 0 cap a bs w1 A1 (H.out.fr f1) (λhb x hx=>by have:=qmj H.out hb x hx;omega) (by omega) (by simp;omega);simp only[qb4,qbg]at hw;have H1:=zhd2 hw f1;clear hw f1 A1;go_upto_region 3 with (go_at_call 94;refine H1.o0.mono ?_;rintro e w2 ⟨rfl,f2,ra,rc,A2,n2⟩);have hs:=qw0 _ _ _ _ _ _ w2 A2 (qjp _ _ (qae _)) (qik _ _ _ qy5) hl;have H2:=zhd2 hs f2;clear hs f2 A2 n2;go_wp2_with (go_at_call 96;refine H2.o0.mono ?_;rintro e w3 ⟨⟨a3,c3,rfl,r3⟩,f3⟩);go_ret;exact⟨⟨a3,c3,rfl,r3⟩,(H1.l1.step H2.l1 (λy hy=>.inr (by simp[lib.blk]at hy;rw[hy];exact qae _))).trans f3⟩
theorem qlh (a:Option Addr) (cap:Nat) (bs:List UInt8) (w:World) (h:Rd w a cap bs) (hl:bs.length≤140737488355328) :
  Calls Tryz.prog 35 #[.slice a bs.length cap] w λe w'=>(∃ao c,e = .returned (.slice ao 20 c)∧Rd w' ao c (sha1 bs))∧Fr [] w w':=by
 have hw:=zhd (qwq a cap bs w h hl);clear h;go_enter Tryz.func35,Tryz.ntmps35;go_wp2_with (go_at_call 69;refine hw.out.mono ?_;rintro e w1 ⟨⟨a1,c1,rfl,r1⟩,f1⟩);go_ret;exact⟨⟨a1,c1,rfl,r1⟩,f1⟩
end Go.Proofs.YtkmpfgpfbmeihaaGreatDoor.sha
namespace Go.Proofs.YtkmpfgpfbmeihaaGreatDoor.delta
open Go Go.RowKit lib
def numb (n:Nat):List UInt8:=if n≤127 then [UInt8.ofNat n] else UInt8.ofNat (n%128+128)::numb (n/128)
termination_by n
decreasing_by omega
theorem qh9 {n:Nat} (h:n≤127):numb n=[UInt8.ofNat n]:=by rw[numb,if_pos h]
theorem qpi {n:Nat} (h:127<n):numb n=UInt8.ofNat (n%128+128)::numb (n/128):=by rw[numb,if_neg (by omega)]
def rdn:Nat→Nat→Nat→List UInt8→Nat×List UInt8×Nat
 | 0,_,_,_=>(0,[],3)
 | _+1,_,_,[]=>(0,[],4)
 | f+1,i,n,c::r=>if c.toNat<128 then (if 2147483647<n+c.toNat%128*128^i then (0,[],3) else (n+c.toNat%128*128^i,r,0)) else rdn f (i+1) (n+c.toNat%128*128^i) r
def rd (d:List UInt8):Nat×List UInt8×Nat:=rdn 5 0 0 d
def sizes (d:List UInt8):Nat×Nat×List UInt8×Nat:=
 if (rd d).2.2=0 then (if (rd (rd d).2.1).2.2=0 then ((rd d).1,(rd (rd d).2.1).1,(rd (rd d).2.1).2.1,0) else (0,0,[],(rd (rd d).2.1).2.2)) else (0,0,[],(rd d).2.2)
def pl (op:Nat):Nat→Nat→Nat→Nat→List UInt8→Option (Nat×Nat×List UInt8)
 | 0,_,p,n,d=>some (p,(if n=0 then 65536 else n),d)
 | f+1,i,p,n,d=>if op/2^i%2=0 then pl op f (i+1) p n d else match d with
  | []=>none
  | c::r=>if i<4 then pl op f (i+1) (p+c.toNat*256^i) n r else pl op f (i+1) p (n+c.toNat*256^(i-4)) r
def app (base:List UInt8) (tn:Nat):Nat→List UInt8→List UInt8→List UInt8×Nat
 | _,[],out=>if out.length<tn then ([],3) else (out,0)
 | 0,_::_,_=>([],3)
 | f+1,c::r,out=>if 128≤c.toNat then match pl (c.toNat-128) 7 0 0 0 r with
   | none=>([],4)
   | some (p,n,rest)=>if base.length<p∨base.length-p<n∨tn-out.length<n then ([],3) else app base tn f rest (out++(base.drop p).take n)
  else if c.toNat=0∨tn-out.length<c.toNat then ([],3) else if r.length<c.toNat then ([],4) else app base tn f (r.drop c.toNat) (out++r.take c.toNat)
def apply (base d:List UInt8) (bound:Int):List UInt8×Nat:=
 if (sizes d).2.2.2≠0 then ([],(sizes d).2.2.2) else if (sizes d).1≠base.length then ([],3) else if bound.toNat<(sizes d).2.1 then ([],5) else app base (sizes d).2.1 (sizes d).2.2.1.length (sizes d).2.2.1 []
theorem qpc:∀(f i n:Nat) (d:List UInt8),∃k,(rdn f i n d).2.1.length+k=d.length∧((rdn f i n d).2.2=0→(rdn f i n d).2.1=d.drop k∧(rdn f i n d).1≤2147483647)
 | 0,_,_,d=>⟨d.length,by simp[rdn],by simp[rdn]⟩
 | f+1,i,n,[]=>⟨0,by simp[rdn],by simp[rdn]⟩
 | f+1,i,n,c::r=>by
  rw[rdn];split
  ·split
   ·exact⟨(c::r).length,by simp,by simp⟩
   ·refine⟨1,by simp,λ_=>⟨by simp,by simp only;omega⟩⟩
  ·obtain⟨k,h1,h2⟩:=qpc f (i+1) (n+c.toNat%128*128^i) r;exact⟨k+1,by simp only[qao];omega,λh=>by simpa using h2 h⟩
theorem qtu (d:List UInt8):(sizes d).2.1≤2147483647∧(sizes d).2.2.1.length≤d.length:=by
 obtain⟨k,h1,h2⟩:=qpc 5 0 0 d;unfold sizes;split
 ·rename_i h0;obtain⟨k',h3,h4⟩:=qpc 5 0 0 (rd d).2.1;split
  ·rename_i h5;refine⟨(h4 h5).2,?_⟩;simp only;unfold rd at *;omega
  ·simp
 ·simp
theorem zbs (n:Nat):0<(numb n).length:=by rw[numb];split<;>simp
theorem qhr {n:Nat} (h:n<256):(UInt8.ofNat n).toNat=n:=by rw[qcy];omega
theorem pow128 (i:Nat):128^(i+1)=128*128^i:=by rw[qcs,qcc]
theorem zbi (n:Nat):∀(f i acc:Nat) (r:List UInt8),n<128^(f+1)→acc+n*128^i≤2147483647→rdn (f+1) i acc (numb n++r)=(acc+n*128^i,r,0):=by
 induction n using Nat.strongRecOn with
 | ind n ih=>
  intro f i acc r h1 h2;by_cases hn:n≤127
  ·rw[qh9 hn,List.singleton_append,rdn,qhr (by omega),if_pos (by omega),qei (by omega),if_neg (by omega)]
  ·rw[qpi (by omega),qdk,rdn,qhr (by omega),if_neg (by omega)];have e1:(n%128+128)%128=n%128:=by omega
   have hp:=pow128 i;have e2:n%128*128^i+n/128*128^(i+1)=n*128^i:=by rw[hp,<-qc4,<-qc8];congr 1;omega
   cases f with
   | zero=>simp at h1;omega
   | succ f=>rw[e1,ih (n/128) (by omega) f (i+1) _ r (by rw[pow128 (f+1)]at h1;exact (qc7 (by decide)).2 (by rw[qcc];exact h1)) (by omega)];rw[qcb,e2]
theorem qxj (n:Nat) (h:n≤2147483647) (r:List UInt8):rd (numb n++r)=(n,r,0):=by have:=zbi n 4 0 0 r (qdr h (by decide)) (by simpa using h);simpa[rd] using this
theorem qvf (n m:Nat) (hn:n≤2147483647) (hm:m≤2147483647) (r:List UInt8):sizes (numb n++(numb m++r))=(n,m,r,0):=by unfold sizes;rw[qxj n hn];simp only[if_true];rw[qxj m hm];simp
end Go.Proofs.YtkmpfgpfbmeihaaGreatDoor.delta
