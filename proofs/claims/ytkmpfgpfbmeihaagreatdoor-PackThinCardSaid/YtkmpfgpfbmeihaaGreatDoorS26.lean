/-
  Texts of this proof, one behind the other: RSha, RHex, RObjId, KnArg, Get11, Awake11, PkLaw6.
-/
import Derived.Test.YtkmpfgpfbmeihaaGreatDoorS25
import Derived.Deep.Strs
set_option maxHeartbeats 16000000
set_option maxRecDepth 100000
set_option linter.unusedVariables false
set_option linter.unusedSimpArgs false
namespace Go.Proofs.YtkmpfgpfbmeihaaGreatDoor.sha
open Go Go.RowKit lib bm
theorem sliceU32:SliceTy Tryz.prog 147 32 (.int .u32 0) 1 4:=SliceTy.of Tryz.underlying147 (by kernel_rfl) rfl (by decide)
theorem qvr:∃A:Array Value,A.size=80∧∀w:World,(Instr.makeSlice 147 (.int .i64 80) (.int .i64 80)).run Tryz.prog w = .ok (.slice (some ⟨w.heap.size,0,none⟩) 80 80) (w.alloc (.cells A 32)):=by obtain⟨i,hi,hz,hs,hb⟩:=sliceU32.info;refine⟨madeCells (Value.int .u32 0).cells 80,size_madeCells _ _,λw=>?_⟩;have:=run_make (P:=Tryz.prog) w 147 32 i (.int .u32 0) Tryz.underlying147 hi hz .i64 .i64 80 80 (by omega) (Int.le_refl _) (by rw[hb];omega) (by omega);simpa[hs] using this
structure Wd (w:World) (B:Nat) (p:List UInt8) (t:Nat):Prop where
 wb:∃A,w.heap[B]?=some (.cells A 32 (0,0))∧A.size=80∧∀j,j<t→A[j]?=some (.int .u32 (sv p j))
theorem Wd.fr {S:List Nat} {w w':World} {B t:Nat} {p:List UInt8} (h:Wd w B p t) (f:Fr S w w') (hB:B∉S):Wd w' B p t:=by obtain⟨A,hA,r⟩:=h.wb;exact⟨A,f.blk hA hB,r⟩
theorem Wd.store {w:World} {B t:Nat} {p:List UInt8} (h:Wd w B p t) (ht:t<80) (v:Int) (hv:v=sv p t):Wd (w.setCell ⟨B,t,none⟩ (.int .u32 v)) B p (t+1):=by
 obtain⟨A,hA,hAs,hAt⟩:=h.wb;refine⟨_,qax hA _,by simp[hAs],λj hj=>?_⟩;by_cases e:j=t
 ·subst e;rw[qal (by omega),hv]
 ·rw[qaa (by omega)];exact hAt j (by omega)
theorem zbf (bs:List UInt8) (w:World) (hlen:bs.length≤140737488355000) :
  Calls Tryz.prog 51 #[.string (str bs)] w λe w'=>(∃a c,e = .returned (.slice a 20 c)∧lib.Rd w' a c (sha1 bs)∧∀x∈lib.blk a,w.heap.size≤x∧x<w'.heap.size)∧Fr [] w w':=by
 obtain⟨L,hL⟩:=zex bs.length;have hsz:(str bs).size=L:=by rw[hL];simp[str,ByteArray.size]
 rw[<-hL]at hlen;have H:=zhd hL;clear hL;go_enter Tryz.func51,Tryz.ntmps51;go_upto_block 0 with (first
  | (refine qhh (e:=5) Tryz.underlying9 Tryz.underlying23 Tryz.underlying5 rfl _ rfl bs rfl (by unfold maxLen;have:=H.out;omega) ?_;intro cap1 w1 hc1 ho1 f1 hl1;rw[<-H.out]at hc1 ⊢;have H1:=zhd3 ho1 f1 hl1;clear ho1 f1 hl1)
  | (refine qd9 sums.sliceU8 rfl _ _ rfl (some ⟨w.heap.size,0,none⟩) L cap1 (bs.map bv) rfl (H1.o0.fr ((Fr.refl [] w1).alloc (.cells #[.int .u8 128] 5)) (by simp)) (by rw[qap];exact H.out.symm) (some ⟨w1.heap.size,0,none⟩) 1 1 [.int .u8 128] rfl (by omega) (by simp) (qhk w1 _ _ _) rfl (by simp[Value.oneCell']) (by omega) (by unfold maxLen;omega) ?_;intro a2 q2 w2 A2;have H2:=zhd A2;clear A2))
 have fw2:Fr [] w w2:=(H1.o1.trans ((Fr.refl [] w1).alloc (.cells #[.int .u8 128] 5))).step H2.out.fr (λy hy=>.inr (by simp[lib.blk]at hy;omega));have hnew2:∀x∈lib.blk a2,w.heap.size≤x:=λx hx=>by
  have h1:=H1.o1.size;rcases H2.out.at_ x hx with k|k
  ·simp[lib.blk]at k;omega
  ·rw[qa1]at k;omega
 have hown2:OwnB w2 5 a2 q2 ((bs++[128]).map bv):=by rw[qbe];exact H2.out.own
 obtain⟨Z,hZ⟩:=zex (zer (L+1));have hZ2:Z<64∧(L+1+Z)%64=56:=by rw[hZ];unfold zer;omega
 have HW:=zhd4 fw2 hnew2 hown2 hZ;clear fw2 hnew2 hown2 hZ H1 H2;go_wp2;go_loopg [4] Z (λk s4 wr=>∃(j N:Nat) (a:Option Addr) (q:Nat),s4 = .slice a N q∧N=L+1+j∧j+k=Z∧OwnB wr 5 a q ((bs++[128]++List.replicate j 0).map bv)∧Fr [] w wr∧∀x∈lib.blk a,w.heap.size≤x);case atStart=>exact⟨0,L+1,a2,q2,rfl,rfl,by omega,by simpa using HW.o2,HW.o0,HW.o1⟩
 case round=>
  obtain⟨j,N,a,q,rfl,hN,hjk,hown,hf,hnew⟩:=hrel;obtain⟨p1,p2,p3⟩:=hown.shape;have hll:(bs++[128]++List.replicate j (0:UInt8)).length=N:=by simp only[qab,qc9,qct];rw[<-H.out,hN]
  rw[qap,hll]at p1;have HR:=zhd4 hown hf hnew hll;clear hown hf hnew hll;have hNb:N≤140737488355200:=by omega
  by_cases hj:j<Z
  ·obtain⟨k,rfl⟩:∃k,gk=k+1:=⟨gk-1,by omega⟩;have hne:¬(N%64=56):=by omega
   have d1:((N:Int)%64 !=56)=true:=by simp;omega
   have HN:=zhd2 hN hjk;clear hne hN hjk;go_wp2_with (refine qd9 sums.sliceU8 rfl _ _ rfl a N q ((bs++[128]++List.replicate j 0).map bv) rfl (HR.o0.fr ((Fr.refl [] wr).alloc (.cells #[.int .u8 0] 5)) (by simp)) (by rw[qap];exact HR.l3) (some ⟨wr.heap.size,0,none⟩) 1 1 [.int .u8 0] rfl (by omega) (by simp) (qhk wr _ _ _) rfl (by simp[Value.oneCell']) (by omega) (by unfold maxLen;omega) ?_;intro a4 q4 w4 A4;have H4:=zhd A4;clear A4);go_roundg k;case measure=>omega
   case rel=>
    obtain⟨hN,hjk⟩:=HN.out;refine⟨j+1,N+1,a4,q4,rfl,by omega,by omega,?_,(HR.o1.trans ((Fr.refl [] wr).alloc (.cells #[.int .u8 0] 5))).step H4.out.fr (λy hy=>.inr (HR.o2 y hy)),λx hx=>?_⟩
    ·rw[qfl,<-qas,qbe];exact H4.out.own
    ·have h1:=HR.o1.size;rcases H4.out.at_ x hx with k|k
     ·exact HR.o2 x k
     ·rw[qa1]at k;omega
  ·obtain rfl:j=Z:=by omega
   obtain rfl:gk=0:=by omega
   have d1:((N:Int)%64 !=56)=false:=by simp;omega
   obtain⟨x1,hx1⟩:∃x,x=L/536870912:=⟨_,rfl⟩;obtain⟨x2,hx2⟩:∃x,x=L*8%4294967296:=⟨_,rfl⟩;have e1:(L:Int)*8/4294967296=(x1:Int):=by omega
   have e2:((L:Int)*8)%4294967296=(x2:Int):=by omega
   have hx1l:x1<4294967296:=by omega
   have hx2l:x2<4294967296:=by omega
   have hwd:=λw' h=>qp8 (some ⟨wr.heap.size,0,none⟩) 2 [x1,x2] w' h (by intro v hv;simp only[qbh,qcw,or_false]at hv;rcases hv with rfl|rfl<;>assumption) (by simp) (by simp) (by decide)
   have hpd:bs++[128]++List.replicate j (0:UInt8)++be4s [x1,x2]=padded bs L:=by
    have:be4s [x1,x2]=sums.be4 x1++sums.be4 x2:=by simp[be4s]
    rw[this,padded,padTo,hx1,hx2,<-H.out,<-HW.l3,<-qas]
   have HN:=zhd3 hN hwd hpd;clear hN hjk hwd hpd hx1 hx2 hj;have fAl:Fr [] w (wr.alloc (.cells #[.int .u32 x1,.int .u32 x2] 32)):=HR.o1.alloc _;have hownA:=HR.o0.fr ((Fr.refl [] wr).alloc (.cells #[.int .u32 x1,.int .u32 x2] 32)) (by simp);have HAl:=zhd2 fAl hownA;clear fAl hownA;go_upto_region 6 with (first
    | (go_at_call 82;refine (HN.out.2.1 _ (qhk wr #[.int .u32 x1,.int .u32 x2] 32 (0,0))).mono ?_;rintro e w5 ⟨a5,c5,rfl,r5,n5,f5⟩;have hle5:=r5.le;rw[be4s_len]at hle5;simp only[qao,qbi]at hle5;have H5:=zhd3 r5 n5 f5;clear r5 n5 f5)
    | (refine qd9 sums.sliceU8 rfl _ _ rfl a N q ((bs++[128]++List.replicate j 0).map bv) rfl (HAl.l1.fr H5.l2 (by simp)) (by rw[qap];exact HR.l3) a5 8 c5 ((be4s [x1,x2]).map bv) rfl (by omega) H5.o0.nil H5.o0.cs (by rw[qap,be4s_len];rfl) (sums.qc0 _) (by omega) (by unfold maxLen;omega) ?_;intro a6 q6 w6 A6;rw[<-qbe,HN.out.2.2]at A6;have H6:=zhd A6;clear A6))
   obtain⟨pd,hpd⟩:=zex (padded bs L);rw[<-hpd]at H6;have hf6:Fr [] w w6:=(HAl.o0.trans H5.l2).step H6.out.fr (λy hy=>.inr (HR.o2 y hy));have hn6:∀x∈lib.blk a6,x<w6.heap.size:=H6.out.own.lt;have hrd6:=H6.out.own.rd;have hpl:pd.length=N+8:=by rw[hpd,<-HN.out.2.2,qab,HR.l3,be4s_len];rfl
   have hpm:pd.length%64=0:=by rw[hpd];exact qjj bs L
   obtain⟨PB,hPB⟩:=zex pd.length;obtain⟨RES,hRES⟩:=zex (blocks PB h0 pd);have hres:sha1 bs=dig5 RES:=by rw[qk3,<-H.out,<-hpd,<-hPB,<-hRES]
   rw[<-hPB]at hpm;rw[show N+8=PB by omega];have hcq6:=hrd6.le;have hcm6:=hrd6.max;unfold maxLen at hcm6;rw[<-hPB]at hcq6;have hPBb:PB≤140737488355300:=by omega
   have HP:=zhd6 hf6 hn6 hrd6 hPB hRES hres;clear hf6 hn6 hrd6 hpl hPB hRES hres hpd H5 H6 HAl d1 e1 e2 hx1l hx2l;obtain⟨A80,hA80,hmk⟩:=qvr;go_upto_block 2 with fail;obtain⟨Q,w7,hQ,hw7,f7,b7,d7⟩:∃Q w7,Q=w6.heap.size∧w7=(w6.alloc (.cells #[.int .u32 1732584193,.int .u32 4023233417,.int .u32 2562383102,.int .u32 271733878,.int .u32 3285377520] 32)).alloc (.cells A80 32)∧Fr [] w6 w7∧w7.heap[Q]?=some (.cells h0.vals 32 (0,0))∧w7.heap[Q+1]?=some (.cells A80 32 (0,0)):=
    ⟨_,_,rfl,rfl,((Fr.refl [] w6).alloc _).alloc _,qcx _ (qay w6 _),by have:=qay (w6.alloc (.cells #[.int .u32 1732584193,.int .u32 4023233417,.int .u32 2562383102,.int .u32 271733878,.int .u32 3285377520] 32)) (.cells A80 32);rw[qa1]at this;exact this⟩
   rw[<-hw7,<-hQ];have H7:=zhd5 f7 b7 d7 hQ hA80;clear hw7 hQ f7 b7 d7 hmk hA80;go_wp2;go_loopg [5,7] PB (λk s5 s7 wr=>∃(at_ B:Nat) (h':H5),s7 = .int .i64 (at_:Nat)∧s5 = .slice (some ⟨B,0,none⟩) 5 5∧at_%64=0∧at_≤PB∧PB-at_≤k∧B≠Q+1∧wr.heap[B]?=some (.cells h'.vals 32 (0,0))∧Wd wr (Q+1) [] 0∧Fr [Q+1] w7 wr∧Rng h'∧blocks k h' (pd.drop at_)=RES);case atStart=>exact⟨0,Q,h0,rfl,rfl,rfl,qa5 _,by omega,by omega,H7.o1,⟨A80,H7.o2,H7.l4,λj hj=>by omega⟩,Fr.refl _ _,qy5,HP.o4.symm⟩
   case round=>
    obtain⟨at_,B,h',rfl,rfl,hat,hatl,hatk,hBQ,hbB,hwd,hf,hrg,hbl⟩:=hrel;have HL:=zhd7 hBQ hbB hwd hf hrg hbl hatk;have hatk2:=hatk;clear hBQ hbB hwd hf hrg hbl hatk;by_cases hlt:at_<PB
    ·have h64:at_+64≤PB:=by omega
     obtain⟨k,rfl⟩:∃k,gk=k+1:=⟨gk-1,by omega⟩;obtain⟨p,hp⟩:=zex (pd.drop at_);have hpl:p.length=PB-at_:=by rw[hp,qav,<-HP.o3]
     have HPP:=zhd2 hp hpl;clear hp hpl;obtain⟨wo,hwo⟩:=zex wr;rw[<-hwo]at HL ⊢;clear hwo;go_upto_block 4 with fail;go_wp2;go_loopg [8] 80 (λk s8 wz=>∃t:Nat,s8 = .int .i64 (t:Nat)∧t+k=80∧Wd wz (Q+1) p t∧Fr [Q+1] wo wz);case atStart=>exact⟨0,rfl,rfl,(by obtain⟨A,h1,h2,_⟩:=HL.out.2.2.1.wb;exact⟨A,h1,h2,λj hj=>by omega⟩),Fr.refl _ _⟩
     case round=>
      obtain⟨t,rfl,htk,hwd,hf⟩:=hrel;have HW2:=zhd2 hwd hf;clear hwd hf;by_cases ht:t<80
      ·obtain⟨k2,rfl⟩:∃k,gk=k+1:=⟨gk-1,by omega⟩;obtain⟨A,hA,hAs,hAt⟩:=HW2.out.1.wb;have zA:=qau hA t;obtain⟨xo,hxo⟩:∃x,wr.cell? ⟨Q+1,t,none⟩=some x:=⟨A[t]'(by omega),by rw[cell_of hA];exact qb5 (by omega)⟩;have it:(t:Int)<80:=by omega
       by_cases ht16:t<16
       ·obtain⟨m0,hm0⟩:∃m,m=at_+4*t:=⟨_,rfl⟩;have em0:(at_:Int)+4*(t:Int)=(m0:Int):=by omega
        have Hm0:=zhd hm0;have HAA:=zhd5 hA hAs hAt zA hxo;clear hm0 hA hAs hAt zA hxo;go_upto_region 16 with fail;have hm0:=Hm0.out;have zA:=HAA.out.2.2.2.1;have hxo:=HAA.out.2.2.2.2;have hrr:=(HP.o2.fr H7.o0).frS (HL.out.2.2.2.1.trans HW2.out.2) (λx hx hm=>by have:=HP.o1 x hx;have:=H7.o3;simp at hm;omega);obtain⟨m1,hm1⟩:∃m,m=m0+1:=⟨_,rfl⟩;obtain⟨m2,hm2⟩:∃m,m=m0+2:=⟨_,rfl⟩;obtain⟨m3,hm3⟩:∃m,m=m0+3:=⟨_,rfl⟩;have hPBl:=HP.o3;have b0:m0<pd.length:=by omega
        have b1:m1<pd.length:=by omega
        have b2:m2<pd.length:=by omega
        have b3:m3<pd.length:=by omega
        obtain⟨g,o,ea,X0⟩:=hrr.at b0;obtain⟨_,_,q1,X1⟩:=hrr.at b1;obtain⟨_,_,q2,X2⟩:=hrr.at b2;obtain⟨_,_,q3,X3⟩:=hrr.at b3;subst ea;simp only[qaw,qcz,and_true]at q1 q2 q3;obtain⟨rfl,rfl⟩:=q1;obtain⟨rfl,rfl⟩:=q2;obtain⟨rfl,rfl⟩:=q3;have hw:word p (4*t)=((pd[m0].toNat*16777216+pd[m1].toNat*65536+pd[m2].toNat*256+pd[m3].toNat:Nat):Int):=by unfold word;rw[HPP.o0,qc5,qc5,qc5,qc5,show at_+4*t=m0 by omega,show at_+(4*t+1)=m1 by omega,show at_+(4*t+2)=m2 by omega,show at_+(4*t+3)=m3 by omega,qai b0,qai b1,qai b2,qai b3];rfl
        have l0:=qbc pd[m0];have l1:=qbc pd[m1];have l2:=qbc pd[m2];have l3:=qbc pd[m3];generalize pd[m0].toNat=y0 at *;generalize pd[m1].toNat=y1 at *;generalize pd[m2].toNat=y2 at *;generalize pd[m3].toNat=y3 at *;obtain⟨z1,hz1⟩:∃z,z=y0*16777216+y1*65536:=⟨_,rfl⟩;obtain⟨z2,hz2⟩:∃z,z=z1+y2*256:=⟨_,rfl⟩;obtain⟨z3,hz3⟩:∃z,z=z2+y3:=⟨_,rfl⟩;have r1:bits .or .u32 ((y0:Int)*16777216) ((y1:Int)*65536)=(z1:Int):=by have:=sums.qki (y0*16777216) (y1*65536) 24 (by omega) (by decide) (by omega) (by omega);rw[<-hz1]at this;simpa using this
        have r2:bits .or .u32 (z1:Int) ((y2:Int)*256)=(z2:Int):=by have:=sums.qki z1 (y2*256) 16 (by omega) (by decide) (by omega) (by omega);rw[<-hz2]at this;simpa using this
        have r3:bits .or .u32 (z2:Int) (y3:Int)=(z3:Int):=by have:=sums.qki z2 y3 8 (by omega) (by decide) (by omega) (by omega);rw[<-hz3]at this;exact this
        have HV:Hid ((z3:Int)=sv p t):=zhd (by rw[zf1 p t ht16,hw];congr 1;omega);have HM:=zhd3 hm1 hm2 hm3;have hm0b:m0+3<PB:=by omega
        clear hrr hPBl hw hz1 hz2 hz3 hm0 hm1 hm2 hm3 b0 b1 b2 b3 em0;have e1:(m0:Int)+1=(m1:Int):=by have:=HM.out;omega
        have e2:(m0:Int)+2=(m2:Int):=by have:=HM.out;omega
        have e3:(m0:Int)+3=(m3:Int):=by have:=HM.out;omega
        have w1':IntKind.i64.wrap ((m0:Int)+1)=(m1:Int):=by rw[qbw];omega
        have w2':IntKind.i64.wrap ((m0:Int)+2)=(m2:Int):=by rw[qbw];omega
        have w3':IntKind.i64.wrap ((m0:Int)+3)=(m3:Int):=by rw[qbw];omega
        have i0:(m0:Int)<(PB:Int):=by omega
        have i1:(m1:Int)<(PB:Int):=by omega
        have i2:(m2:Int)<(PB:Int):=by omega
        have i3:(m3:Int)<(PB:Int):=by omega
        refine qcu 32 (by kernel_rfl) (by kernel_rfl) ?_;simp only[qah,qan,qad,qaj];repeat (go_big_quiet_step (fail))
        refine wpQuiet_nil ?_;clear X0 X1 X2 X3 w1' w2' w3' r1 r2 r3 e1 e2 e3;go_wp2;go_roundg k2;case measure=>omega
        case rel=>exact⟨t+1,by go_num,by omega,(HW2.out.1.fr (Fr.drew1 [] wr) (by simp)).store ht _ HV.out,(HW2.out.2.trans (Fr.drew1 [Q+1] wr)).setCell (by simp) _⟩
       ·have HAA:=zhd5 hA hAs hAt zA hxo;clear hA hAs hAt zA hxo;have ht16b:decide (t<16)=false:=by simpa using ht16
        go_upto_region 17 with fail;clear ht16b;obtain⟨hA,hAs,hAt,_,_⟩:=HAA.out;obtain⟨n3,hn3⟩:∃m,m=t-3:=⟨_,rfl⟩;obtain⟨n8,hn8⟩:∃m,m=t-8:=⟨_,rfl⟩;obtain⟨n14,hn14⟩:∃m,m=t-14:=⟨_,rfl⟩;obtain⟨n16,hn16⟩:∃m,m=t-16:=⟨_,rfl⟩;have e3:(t:Int)-3=(n3:Int):=by omega
        have e8:(t:Int)-8=(n8:Int):=by omega
        have e14:(t:Int)-14=(n14:Int):=by omega
        have e16:(t:Int)-16=(n16:Int):=by omega
        have w3:IntKind.i64.wrap ((t:Int)-3)=(n3:Int):=by rw[qbw];omega
        have w8:IntKind.i64.wrap ((t:Int)-8)=(n8:Int):=by rw[qbw];omega
        have w14:IntKind.i64.wrap ((t:Int)-14)=(n14:Int):=by rw[qbw];omega
        have w16:IntKind.i64.wrap ((t:Int)-16)=(n16:Int):=by rw[qbw];omega
        have x3:∀x,(sup [] wr.drew x).cell? ⟨Q+1,n3,none⟩=some (.int .u32 (sv p n3)):=λx=>(qcm [] wr.drew x).cell (show wr.drew.cell? _=_ from (cell_of hA n3).trans (hAt n3 (by omega))) (by simp)
        have x8:∀x,(sup [] wr.drew x).cell? ⟨Q+1,n8,none⟩=some (.int .u32 (sv p n8)):=λx=>(qcm [] wr.drew x).cell (show wr.drew.cell? _=_ from (cell_of hA n8).trans (hAt n8 (by omega))) (by simp)
        have x14:∀x,(sup [] wr.drew x).cell? ⟨Q+1,n14,none⟩=some (.int .u32 (sv p n14)):=λx=>(qcm [] wr.drew x).cell (show wr.drew.cell? _=_ from (cell_of hA n14).trans (hAt n14 (by omega))) (by simp)
        have x16:∀x,(sup [] wr.drew x).cell? ⟨Q+1,n16,none⟩=some (.int .u32 (sv p n16)):=λx=>(qcm [] wr.drew x).cell (show wr.drew.cell? _=_ from (cell_of hA n16).trans (hAt n16 (by omega))) (by simp)
        have i3:(n3:Int)<80:=by omega
        have i8:(n8:Int)<80:=by omega
        have i14:(n14:Int)<80:=by omega
        have i16:(n16:Int)<80:=by omega
        have hv:=zf2 p t (by omega) ht;rw[<-hn3,<-hn8,<-hn14,<-hn16]at hv;have HV:=zhd hv;clear hA hAs hAt hn3 hn8 hn14 hn16 hv;refine qb3 27 [(false,0),(false,1),(false,2),(false,3),(false,4),(false,5),(false,6),(false,7),(false,8),(false,9),(false,10),(false,11),(false,12),(false,13),(false,14),(false,15),(false,16),(false,17),(false,18),(false,19),(false,20),(false,21),(false,22),(false,23),(false,24),(true,25),(false,26)] [] (by kernel_rfl) (by kernel_rfl) (λ_ _ d _ _ h=>by cases d<;>exact h) ?_;simp only[qak,qam,qaz,qa0,qad,qaj,qbk];refine qb0 25 rfl ?_;simp only[qah,qan,qad,qaj,qak,qam];repeat (go_big_quiet_step (fail))
        refine wpQuiet_nil ?_;clear x3 x8 x14 x16 w3 w8 w14 w16 e3 e8 e14 e16;refine qb6 rfl ?_;intro X hX;go_wp2_with (go_at_call 83;refine (qg6 _ 1 _ (.inl rfl)).mono ?_;rintro e w8 ⟨rfl,f8⟩);refine hX.out _ _ f8 ?_;clear hX X;refine qb0 1 rfl ?_;simp only[qah,qan,qad,qaj,qak,qam];repeat (go_big_quiet_step (fail))
        refine wpQuiet_nil ?_;refine qcq ?_;have hA8:=f8.blk (show wr.drew.heap[Q+1]?=_ from HAA.out.1) (by simp);have z8:=qau hA8 t;have c8:w8.cell? ⟨Q+1,t,none⟩=some (A[t]'(by rw[HAA.out.2.1];exact ht)):=by rw[cell_of hA8];exact qb5 (by rw[HAA.out.2.1];exact ht)
        have H8:=zhd f8;clear hA8 f8;go_wp2;go_roundg k2;case measure=>omega
        case rel=>exact⟨t+1,by go_num,by omega,((HW2.out.1.fr (Fr.drew1 [] wr) (by simp)).fr H8.out (by simp)).store ht _ HV.out.symm,((HW2.out.2.trans (Fr.drew1 [Q+1] wr)).trans (H8.out.mono (by simp))).setCell (by simp) _⟩
      ·obtain rfl:t=80:=by omega
       obtain rfl:gk=0:=by omega
       have hbB:=HW2.out.2.blk HL.out.2.1 (by simp;exact HL.out.1);have k0:=cell_of hbB 0;have k1:=cell_of hbB 1;have k2:=cell_of hbB 2;have k3:=cell_of hbB 3;have k4:=cell_of hbB 4;unfold H5.vals at k0 k1 k2 k3 k4;simp only[qag,qac,qaf]at k0 k1 k2 k3 k4;have HBB:=zhd hbB;clear hbB;obtain⟨wi,hwi⟩:=zex wr;rw[<-hwi]at HW2 HBB k0 k1 k2 k3 k4 ⊢;clear hwi;go_upto_block 6 with fail;clear k0 k1 k2 k3 k4;go_wp2;go_loopg [10,11,12,13,14,15] 80 (λk s10 s11 s12 s13 s14 s15 wr=>∃t:Nat,s15 = .int .i64 (t:Nat)∧t+k=80∧s10 = .int .u32 (rounds p t h').a∧s11 = .int .u32 (rounds p t h').b∧s12 = .int .u32 (rounds p t h').c∧s13 = .int .u32 (rounds p t h').d∧s14 = .int .u32 (rounds p t h').e∧Fr [] wi wr);case atStart=>exact⟨0,rfl,rfl,rfl,rfl,rfl,rfl,rfl,Fr.refl _ _⟩
       case round=>
        obtain⟨t,rfl,htk3,rfl,rfl,rfl,rfl,rfl,hf⟩:=hrel;have HF:=zhd hf;clear hf;by_cases ht:t<80
        ·obtain⟨k3,rfl⟩:∃k,gk=k+1:=⟨gk-1,by omega⟩;have hro:rounds p (t+1) h'=round p t (rounds p t h'):=rfl;unfold round at hro;have hsv:(sched p 80)[t]?.getD 0=sv p t:=rfl;rw[hsv]at hro;generalize rounds p t h'=s at *;obtain⟨sa,sb,sc,sd,se⟩:=s;simp only at hro;obtain⟨A,hA,hAs,hAt⟩:=(HW2.out.1.fr HF.out (by simp)).wb;have xw:∀x,(sup [] wr.drew x).cell? ⟨Q+1,t,none⟩=some (.int .u32 (sv p t)):=λx=>(qcm [] wr.drew x).cell (show wr.drew.cell? _=_ from (cell_of hA t).trans (hAt t ht)) (by simp)
         have it:(t:Int)<80:=by omega
         obtain⟨q3,hq⟩:∃q,q=t/20:=⟨_,rfl⟩;rw[<-hq]at hro;have HR3:=zhd hro;clear hro hsv hA hAs hAt;rcases (show q3=0∨q3=1∨q3=2∨q3=3 by omega) with rfl|rfl|rfl|rfl
         ·have g60:decide ((60:Int)≤(t:Int))=false:=by simp;omega
          have gg60:decide (60≤t)=false:=by simp;omega
          have g40:decide ((40:Int)≤(t:Int))=false:=by simp;omega
          have gg40:decide (40≤t)=false:=by simp;omega
          have g20:decide ((20:Int)≤(t:Int))=false:=by simp;omega
          have gg20:decide (20≤t)=false:=by simp;omega
          clear hq;go_upto_region 37 with fail;clear g60 g40 g20 gg60 gg40 gg20;refine qb3 14 [(false,0),(false,2),(false,4),(false,6),(false,8),(false,9),(false,10),(false,11),(true,1),(false,3),(false,5),(false,7),(false,12),(false,13)] [] (by kernel_rfl) (by kernel_rfl) (λ_ _ d _ _ h=>by cases d<;>exact h) ?_;simp only[qak,qam,qaz,qa0,qad,qaj,qbk];refine qb0 8 rfl ?_;simp only[qah,qan,qad,qaj,qak,qam];repeat (go_big_quiet_step (fail))
          refine wpQuiet_nil ?_;clear xw;refine qb6 rfl ?_;intro X hX;go_wp2_with (go_at_call 83;refine (qg6 _ 5 _ (.inr (.inl rfl))).mono ?_;rintro e w8 ⟨rfl,f8⟩);refine hX.out _ _ f8 ?_;clear hX X;refine qb0 5 rfl ?_;simp only[qah,qan,qad,qaj,qak,qam];repeat (go_big_quiet_step (fail))
          refine wpQuiet_nil ?_;refine qcq ?_;have H8:=zhd f8;clear f8;go_wp2_with (go_at_call 83;refine (qg6 _ 30 _ (.inr (.inr rfl))).mono ?_;rintro e w9 ⟨rfl,f9⟩;have H9:=zhd f9;clear f9);go_roundg k3;case measure=>omega
          case rel=>
           refine⟨t+1,by go_num,by omega,?_,?_,?_,?_,?_,((HF.out.trans (Fr.drew1 [] wr)).trans H8.out).trans H9.out⟩;all_goals rw[HR3.out]
           all_goals (first|rfl|(simp only[add32,qfu,qfv,fsel,ksel,ch,par,maj,not32]))
         ·have g60:decide ((60:Int)≤(t:Int))=false:=by simp;omega
          have gg60:decide (60≤t)=false:=by simp;omega
          have g40:decide ((40:Int)≤(t:Int))=false:=by simp;omega
          have gg40:decide (40≤t)=false:=by simp;omega
          have g20:(20:Int)≤(t:Int):=by omega
          have gg20:20≤t:=by omega
          clear hq;go_upto_region 37 with fail;clear g60 g40 g20 gg60 gg40 gg20;refine qb3 14 [(false,0),(false,2),(false,4),(false,6),(false,8),(false,9),(false,10),(false,11),(true,1),(false,3),(false,5),(false,7),(false,12),(false,13)] [] (by kernel_rfl) (by kernel_rfl) (λ_ _ d _ _ h=>by cases d<;>exact h) ?_;simp only[qak,qam,qaz,qa0,qad,qaj,qbk];refine qb0 8 rfl ?_;simp only[qah,qan,qad,qaj,qak,qam];repeat (go_big_quiet_step (fail))
          refine wpQuiet_nil ?_;clear xw;refine qb6 rfl ?_;intro X hX;go_wp2_with (go_at_call 83;refine (qg6 _ 5 _ (.inr (.inl rfl))).mono ?_;rintro e w8 ⟨rfl,f8⟩);refine hX.out _ _ f8 ?_;clear hX X;refine qb0 5 rfl ?_;simp only[qah,qan,qad,qaj,qak,qam];repeat (go_big_quiet_step (fail))
          refine wpQuiet_nil ?_;refine qcq ?_;have H8:=zhd f8;clear f8;go_wp2_with (go_at_call 83;refine (qg6 _ 30 _ (.inr (.inr rfl))).mono ?_;rintro e w9 ⟨rfl,f9⟩;have H9:=zhd f9;clear f9);go_roundg k3;case measure=>omega
          case rel=>
           refine⟨t+1,by go_num,by omega,?_,?_,?_,?_,?_,((HF.out.trans (Fr.drew1 [] wr)).trans H8.out).trans H9.out⟩;all_goals rw[HR3.out]
           all_goals (first|rfl|(simp only[add32,qfu,qfv,fsel,ksel,ch,par,maj,not32]))
         ·have g60:decide ((60:Int)≤(t:Int))=false:=by simp;omega
          have gg60:decide (60≤t)=false:=by simp;omega
          have g40:(40:Int)≤(t:Int):=by omega
          have gg40:40≤t:=by omega
          have g20:(20:Int)≤(t:Int):=by omega
          have gg20:20≤t:=by omega
          clear hq;go_upto_region 37 with fail;clear g60 g40 g20 gg60 gg40 gg20;refine qb3 14 [(false,0),(false,2),(false,4),(false,6),(false,8),(false,9),(false,10),(false,11),(true,1),(false,3),(false,5),(false,7),(false,12),(false,13)] [] (by kernel_rfl) (by kernel_rfl) (λ_ _ d _ _ h=>by cases d<;>exact h) ?_;simp only[qak,qam,qaz,qa0,qad,qaj,qbk];refine qb0 8 rfl ?_;simp only[qah,qan,qad,qaj,qak,qam];repeat (go_big_quiet_step (fail))
          refine wpQuiet_nil ?_;clear xw;refine qb6 rfl ?_;intro X hX;go_wp2_with (go_at_call 83;refine (qg6 _ 5 _ (.inr (.inl rfl))).mono ?_;rintro e w8 ⟨rfl,f8⟩);refine hX.out _ _ f8 ?_;clear hX X;refine qb0 5 rfl ?_;simp only[qah,qan,qad,qaj,qak,qam];repeat (go_big_quiet_step (fail))
          refine wpQuiet_nil ?_;refine qcq ?_;have H8:=zhd f8;clear f8;go_wp2_with (go_at_call 83;refine (qg6 _ 30 _ (.inr (.inr rfl))).mono ?_;rintro e w9 ⟨rfl,f9⟩;have H9:=zhd f9;clear f9);go_roundg k3;case measure=>omega
          case rel=>
           refine⟨t+1,by go_num,by omega,?_,?_,?_,?_,?_,((HF.out.trans (Fr.drew1 [] wr)).trans H8.out).trans H9.out⟩;all_goals rw[HR3.out]
           all_goals (first|rfl|(simp only[add32,qfu,qfv,fsel,ksel,ch,par,maj,not32]))
         ·have g60:(60:Int)≤(t:Int):=by omega
          have gg60:60≤t:=by omega
          have g40:(40:Int)≤(t:Int):=by omega
          have gg40:40≤t:=by omega
          have g20:(20:Int)≤(t:Int):=by omega
          have gg20:20≤t:=by omega
          clear hq;go_upto_region 37 with fail;clear g60 g40 g20 gg60 gg40 gg20;refine qb3 14 [(false,0),(false,2),(false,4),(false,6),(false,8),(false,9),(false,10),(false,11),(true,1),(false,3),(false,5),(false,7),(false,12),(false,13)] [] (by kernel_rfl) (by kernel_rfl) (λ_ _ d _ _ h=>by cases d<;>exact h) ?_;simp only[qak,qam,qaz,qa0,qad,qaj,qbk];refine qb0 8 rfl ?_;simp only[qah,qan,qad,qaj,qak,qam];repeat (go_big_quiet_step (fail))
          refine wpQuiet_nil ?_;clear xw;refine qb6 rfl ?_;intro X hX;go_wp2_with (go_at_call 83;refine (qg6 _ 5 _ (.inr (.inl rfl))).mono ?_;rintro e w8 ⟨rfl,f8⟩);refine hX.out _ _ f8 ?_;clear hX X;refine qb0 5 rfl ?_;simp only[qah,qan,qad,qaj,qak,qam];repeat (go_big_quiet_step (fail))
          refine wpQuiet_nil ?_;refine qcq ?_;have H8:=zhd f8;clear f8;go_wp2_with (go_at_call 83;refine (qg6 _ 30 _ (.inr (.inr rfl))).mono ?_;rintro e w9 ⟨rfl,f9⟩;have H9:=zhd f9;clear f9);go_roundg k3;case measure=>omega
          case rel=>
           refine⟨t+1,by go_num,by omega,?_,?_,?_,?_,?_,((HF.out.trans (Fr.drew1 [] wr)).trans H8.out).trans H9.out⟩;all_goals rw[HR3.out]
           all_goals (first|rfl|(simp only[add32,qfu,qfv,fsel,ksel,ch,par,maj,not32]))
        ·obtain rfl:t=80:=by omega
         obtain rfl:gk=0:=by omega
         have hbB:=HF.out.blk HBB.out (by simp);have hlt9:=lt_of_block HW2.out.1.wb.choose_spec.1;obtain⟨s,hs⟩:=zex (rounds p 80 h');rw[<-hs];obtain⟨ha,hb,hc,hd,he⟩:=h';have c0:∀x,(sup [] wr.drew x).cell? ⟨B,0,none⟩=some (.int .u32 ha):=λx=>(qcm [] wr.drew x).cell (show wr.drew.cell? _=_ from cell_of hbB 0) (by simp)
         have c1:∀x,(sup [] wr.drew x).cell? ⟨B,1,none⟩=some (.int .u32 hb):=λx=>(qcm [] wr.drew x).cell (show wr.drew.cell? _=_ from cell_of hbB 1) (by simp)
         have c2:∀x,(sup [] wr.drew x).cell? ⟨B,2,none⟩=some (.int .u32 hc):=λx=>(qcm [] wr.drew x).cell (show wr.drew.cell? _=_ from cell_of hbB 2) (by simp)
         have c3:∀x,(sup [] wr.drew x).cell? ⟨B,3,none⟩=some (.int .u32 hd):=λx=>(qcm [] wr.drew x).cell (show wr.drew.cell? _=_ from cell_of hbB 3) (by simp)
         have c4:∀x,(sup [] wr.drew x).cell? ⟨B,4,none⟩=some (.int .u32 he):=λx=>(qcm [] wr.drew x).cell (show wr.drew.cell? _=_ from cell_of hbB 4) (by simp)
         obtain⟨sa,sb,sc,sd,se⟩:=s;have HS:=zhd hs;clear hbB hs;go_upto_region 43 with fail;refine qb3 26 [(false,0),(false,1),(false,2),(false,3),(false,4),(false,5),(false,6),(false,7),(false,8),(false,9),(false,10),(false,11),(false,12),(false,13),(false,14),(false,15),(false,16),(false,17),(false,18),(false,19),(false,20),(false,21),(false,22),(false,23),(false,24),(true,25)] [] (by kernel_rfl) (by kernel_rfl) (λ_ _ d _ _ h=>by cases d<;>exact h) ?_;simp only[qak,qam,qaz,qa0,qad,qaj,qbk];refine qb0 25 rfl ?_;simp only[qah,qan,qad,qaj,qak,qam];repeat (go_big_quiet_step (fail))
         refine wpQuiet_nil ?_;clear c0 c1 c2 c3 c4;refine qb6 rfl ?_;intro X hX;go_wp2;refine hX.out _ _ ((Fr.refl _ wr.drew).alloc _) ?_;clear hX X;refine qcq ?_;go_wp2;go_roundg (PB-at_-64);case measure=>omega
         case rel=>
          have f9:Fr [Q+1] w7 wr:=(HL.out.2.2.2.1.trans HW2.out.2).trans (HF.out.mono (by simp));have hp64:64≤p.length:=by rw[HPP.l1];omega
          have hb5:=HL.out.2.2.2.2.2.1;rw[<-HPP.o0,blocks,if_pos hp64]at hb5;have hmx:mixH ⟨ha,hb,hc,hd,he⟩ p=⟨add32 ha sa,add32 hb sb,add32 hc sc,add32 hd sd,add32 he se⟩:=by unfold mixH;rw[<-HS.out]
          refine⟨at_+64,wr.drew.heap.size,mixH ⟨ha,hb,hc,hd,he⟩ p,by go_num,rfl,by omega,h64,by omega,?_,?_,?_,(f9.trans (Fr.drew1 _ wr)).alloc _,qpj _ _,?_⟩
          ·have:=HF.out.size;show wr.heap.size≠Q+1;omega
          ·rw[hmx];exact (qay wr.drew _).trans rfl
          ·obtain⟨A,g1,g2,_⟩:=(HW2.out.1.fr HF.out (by simp)).wb;exact⟨A,((Fr.drew1 [] wr).alloc _).blk g1 (by simp),g2,λj hj=>by omega⟩
          ·rw[<-qep,<-HPP.o0,<-hb5];exact qhf _ _ _ _ (by rw[qav,HPP.l1];omega) (by rw[qav,HPP.l1];have:=HL.out.2.2.2.2.2.2;omega)
    ·obtain rfl:at_=PB:=by omega
     have hnil:pd.drop at_=[]:=qc3 (by rw[<-HP.o3];exact qae _);have hbl:=HL.out.2.2.2.2.2.1;rw[hnil]at hbl;have hh:h'=RES:=by
      rw[<-hbl];cases gk with
      | zero=>rfl
      | succ k=>rw[blocks,if_neg (by decide)]
     obtain⟨r0,r1,r2,r3,r4⟩:=HL.out.2.2.2.2.1;obtain⟨ha,hb,hc,hd,he⟩:=h';simp only at r0 r1 r2 r3 r4;have hcs:Cs wr (some ⟨B,0,none⟩) ([ha.toNat,hb.toNat,hc.toNat,hd.toNat,he.toNat].map wv):=by
      refine .inr ⟨B,0,rfl,λj v hv=>?_⟩;rw[qbg,cell_of HL.out.2.1];have e:([ha.toNat,hb.toNat,hc.toNat,hd.toNat,he.toNat].map wv)=(H5.vals ⟨ha,hb,hc,hd,he⟩).toList:=by simp only[qak,qam,wv,H5.vals];rw[qga r0.1,qga r1.1,qga r2.1,qga r3.1,qga r4.1]
      rw[e,qbz]at hv;exact hv
     have hwd:=qp8 (some ⟨B,0,none⟩) 5 [ha.toNat,hb.toNat,hc.toNat,hd.toNat,he.toNat] wr hcs (by intro v hv;simp only[qbh,qcw,or_false]at hv;rcases hv with rfl|rfl|rfl|rfl|rfl<;>omega) (by simp) (by simp) (by decide);have hfw:Fr [] w wr:=(HP.o0.trans H7.o0).step HL.out.2.2.2.1 (λy hy=>.inr (by simp at hy;have:=HP.o0.size;have:=H7.o3;omega));have hdg:be4s [ha.toNat,hb.toNat,hc.toNat,hd.toNat,he.toNat]=sha1 bs:=by rw[HP.l5,<-hh];simp[be4s,dig5]
     have HX:=zhd3 hwd hfw hdg;clear hwd hfw hdg hcs r0 r1 r2 r3 r4 hh hbl hnil;go_wp2_with (go_at_call 82;refine HX.o0.mono ?_;rintro e w9 ⟨a9,c9,rfl,r9,n9,f9⟩;have H9:=zhd3 r9 n9 f9;clear r9 n9 f9);go_ret;refine⟨⟨a9,c9,rfl,by rw[<-HX.l2];exact H9.out.1,λx hx=>⟨qar HX.o1.size (H9.out.2.1 x hx).1,(H9.out.2.1 x hx).2⟩⟩,HX.o1.trans H9.out.2.2⟩
end Go.Proofs.YtkmpfgpfbmeihaaGreatDoor.sha
namespace Go.Proofs.YtkmpfgpfbmeihaaGreatDoor.pk
open Go Go.RowKit lib bm
theorem zbg (ao:Option Addr) (cap:Nat) (bs:List UInt8) (w:World) (h:lib.Rd w ao cap bs) (hlen:bs.length≤10000000) :
  Calls Tryz.prog 50 #[.slice ao bs.length cap] w λe w'=>e = .returned (.string (str (hexb bs)))∧Fr [] w w':=by
 obtain⟨L,hL⟩:=zex bs.length;have hLb:L≤10000000:=by omega
 have HI:=zhd2 h hL;rw[<-hL];clear h hL hlen;go_enter Tryz.func50,Tryz.ntmps50;go_wp2;go_loopg [3,4] L (λk s3 s4 wr=>∃i a c out,s4 = .int .i64 (i:Nat)∧s3 = .slice a out.length c∧i+k=L∧Wr w wr a c out∧out=hexb (bs.take i));case atStart=>exact⟨0,none,0,[],rfl,rfl,by omega,qoy w w (Fr.refl _ _),rfl⟩
 case round=>
  obtain⟨i,a,c,out,rfl,rfl,hik,h,hout⟩:=hrel;have hol:out.length=2*i:=by rw[hout,hexb_length,qaq,<-HI.l1];omega
  have H:=zhd3 h hout hol;have hob:out.length≤20000000:=by omega
  clear h hout hol;by_cases hi:i<L
  ·obtain⟨k,rfl⟩:∃k,gk=k+1:=⟨gk-1,by omega⟩;have hil:i<bs.length:=by rw[<-HI.l1];exact hi
   have hcs:=HI.o0.cs;have hlow:=λx hx=>hcs.lt (show bs.map bv≠[] by intro e;have:=congrArg List.length e;rw[qap]at this;simp at this;rw[this]at hil;simp at hil) x hx
   obtain⟨g,o,rfl,hc⟩:=(hcs.fr H.out.1.fr (by simp)).at (by rw[qap];omega);have hgw:g<w.heap.size:=hlow ⟨g,o,none⟩ rfl;have hci:=hc i (bv bs[i]) (by rw[qbl,qai hil];rfl);unfold bv at hci;have hx0:=qid (bs[i].toNat/16) (by have:=qbc bs[i];omega);have hx1:=qid (bs[i].toNat%16) (by omega);have e1:=and15u bs[i];have hb256:=qbc bs[i];have hcl:=qog bs[i];have HT:=zhd (show bs.take (i+1)=bs.take i++[bs[i]] from qca hil);obtain⟨b,hb⟩:=zex (bs[i]);rw[<-hb]at hci hx0 hx1 e1 hb256 hcl HT;have HCL:=zhd hcl;clear hc hil hb hcl hcs hlow;obtain⟨S,hS⟩:=zex (blk a);have q0:∀x,(sup S wr.drew x).cell? ⟨g,o+i,none⟩=some (.int .u8 ((b.toNat:Nat):Int)):=λx=>(qcm S wr.drew x).cell ((Fr.drew1 [] wr).cell hci (by simp)) (λhm=>by rw[hS]at hm;have:=H.out.1.new g hm;omega)
   have HS:=zhd hS;clear hS hgw;have e0:((b.toNat:Nat):Int)/16=((b.toNat/16:Nat):Int):=by omega
   go_upto_region 5 with fail;generalize (hexd (b.toNat/16)).toNat=h0 at *;generalize (hexd (b.toNat%16)).toNat=h1 at *;generalize b.toNat%16=b1 at *;generalize b.toNat/16=b0 at *;clear hci;refine qb3 15 [(false,0),(false,1),(false,2),(false,3),(false,4),(false,5),(false,6),(false,7),(false,8),(false,9),(false,10),(false,11),(false,12),(true,13),(true,14)] S (by kernel_rfl) (by kernel_rfl) (λ_ _ d _ _ h=>by cases d<;>exact h) ?_;simp only[qak,qam,qaz,qa0,qad,qaj,qbk];refine qb0 13 rfl ?_;simp only[qah,qan,qad,qaj,qak,qam];repeat (go_big_quiet_step (fail))
   refine wpQuiet_nil ?_;clear e0 e1 hx0 hx1 q0;refine qb6 rfl ?_;intro X hX;go_wp2;refine hX.out _ _ ((Fr.refl _ wr.drew).alloc _) ?_;clear hX X;have fr0:Fr [] wr (wr.drew.alloc (.cells #[.int .u8 h0,.int .u8 h1] 5)):=(Fr.drew1 [] wr).alloc _;have ownA:=qa7 H.out.1.own fr0 (by simp);have cA:Cs (wr.drew.alloc (.cells #[.int .u8 h0,.int .u8 h1] 5)) (some ⟨wr.drew.heap.size,0,none⟩) ((hex2 b).map bv):=by rw[HCL.out];exact .inr ⟨wr.drew.heap.size,0,rfl,λj u hj=>by rw[cell_of (qay wr.drew _)];simpa using hj⟩
   refine qb6 rfl ?_;intro X hX;refine qda sliceU8 _ _ rfl (.slice a out.length c) out.length (out.map bv) S rfl (by rw[qby,HS.out]) ownA (some ⟨wr.drew.heap.size,0,none⟩) 2 2 ((hex2 b).map bv) rfl (by decide) (by simp) cA (by rfl) (qc0 _) (by omega) (by unfold maxLen;omega) ?_;intro a2 c2 w2 A1;refine hX.out _ _ A1.fr ?_;clear hX X;refine qcq ?_;have HA:=zhd2 fr0 A1;clear fr0 A1 ownA cA;go_wp2;go_roundg k;case measure=>omega
   case rel=>have A1:=HA.l1;rw[HS.out]at A1;exact⟨i+1,a2,c2,out++hex2 b,by go_num,by rw[qab];rfl,by omega,H.out.1.step2 HA.o0 A1,by rw[HT.out,qra,<-H.out.2.1]⟩
  ·obtain rfl:i=L:=by omega
   obtain⟨r1,_⟩:=qc1 H.out.1.own;have cv:=qde wr Tryz.underlying23 Tryz.underlying5 Tryz.underlying9 (rfl:out.length=out.length) r1.cs;have HO:=zhd (show out=hexb bs by rw[H.out.2.1,HI.l1,List.take_length]);clear r1;go_wp2;go_ret;exact⟨by rw[<-HO.out];rfl,H.out.1.fr⟩
end Go.Proofs.YtkmpfgpfbmeihaaGreatDoor.pk
namespace Go.Proofs.YtkmpfgpfbmeihaaGreatDoor.obj
open Go Go.RowKit lib
theorem qxg (k:Int) (bs:List UInt8) (w:World) (hl:bs.length≤140737488354900) :
  Calls Tryz.prog 20 #[.int .i64 k,.string (str bs)] w λe w'=>e = .returned (.string (str (pk.oid k bs)))∧Fr [] w w':=by
 obtain⟨L,hL⟩:=zex bs.length;have hsz:(str bs).size=L:=by rw[hL];simp[str,ByteArray.size]
 obtain⟨hd,hhd⟩:=zex (header k L);have hdl:hd.length≤24:=by rw[hhd];exact qkp k L (by omega)
 have hres:pk.oid k bs=pk.hexb (sha.sha1 (hd++bs)):=by rw[hhd,hL];rfl
 rw[hres];have hh:=λw'=>qsa k L w' (by omega)
 rw[<-hhd]at hh;have hcat:str hd++str bs=str (hd++bs):=(qee hd bs);have hsh:=λw'=>sha.zbf (hd++bs) w' (by rw[qab];omega)
 rw[<-hcat]at hsh;have hhs:(str hd).size≤24:=by simpa[str,ByteArray.size] using hdl
 obtain⟨A,hA⟩:=zex (str hd);obtain⟨B,hB⟩:=zex (str bs);rw[<-hA,<-hB]at hsh;rw[<-hA]at hh hhs;rw[<-hB]at hsz ⊢;rw[<-hL]at hl;have H:=zhd2 hh hsh;clear hh hsh hcat hA hB hhd hres hL;go_enter Tryz.func20,Tryz.ntmps20;go_wp2_with (first
  | (go_at_call 52;refine (H.o0 _).mono ?_;rintro e w1 ⟨rfl,f1⟩;have H1:=zhd f1;clear f1)
  | (go_at_call 51;refine (H.l1 _).mono ?_;rintro e w2 ⟨⟨a2,c2,rfl,r2,n2⟩,f2⟩;have H2:=zhd2 r2 (H1.out.trans f2);clear r2 n2 f2)
  | (go_at_call 50;refine (pk.zbg a2 c2 _ w2 H2.o0 (by rw[sha.qck];decide)).mono ?_;rintro e w3 ⟨rfl,f3⟩;have H3:=zhd f3;clear f3))
 go_ret;exact⟨rfl,H2.l1.trans H3.out⟩
end Go.Proofs.YtkmpfgpfbmeihaaGreatDoor.obj
namespace Go.Proofs.YtkmpfgpfbmeihaaGreatDoor.pk
open Go Go.RowKit Go.ChangeShapes Go.WideShapes lib
def knL (k:Kn):List Value:=[.int .i64 k.kind,.string (str k.body),.string (str k.id)]
theorem zfe (kn:List Kn):(kn.flatMap knL).length=kn.length*3:=qln knL 3 (λ_=>rfl) kn
structure Knows (w:World) (a:Option Addr) (cap:Nat) (kn:List Kn):Prop where
 cs:Cs w a (kn.flatMap knL)
 le:kn.length≤cap
 max:cap≤maxLen
 nil:a=none→cap=0
 len:∀k∈kn,k.body.length≤140737488351232
theorem Knows.fr {w w':World} {a:Option Addr} {cap:Nat} {kn:List Kn} (h:Knows w a cap kn) (f:Fr [] w w'):Knows w' a cap kn:=⟨h.cs.fr f (by simp),h.le,h.max,h.nil,h.len⟩
theorem Knows.frS {S:List Nat} {w w':World} {a:Option Addr} {cap:Nat} {kn:List Kn} (h:Knows w a cap kn) (f:Fr S w w') (hS:∀x∈blk a,x∉S):Knows w' a cap kn:=⟨h.cs.fr f hS,h.le,h.max,h.nil,h.len⟩
theorem Knows.cell {w:World} {a:Option Addr} {cap:Nat} {kn:List Kn} (h:Knows w a cap kn) {i:Nat} {k:Kn} (hi:kn[i]?=some k):∃g o,a=some ⟨g,o,none⟩∧w.cell? ⟨g,o+i*3,none⟩=some (.int .i64 k.kind)∧w.cell? ⟨g,o+i*3+1,none⟩=some (.string (str k.body))∧w.cell? ⟨g,o+i*3+2,none⟩=some (.string (str k.id)):=by
 have hl:=(qa9.1 hi).1;obtain⟨g,o,ha,hc⟩:=h.cs.at (by rw[zfe];omega);refine⟨g,o,ha,?_,?_,?_⟩
 ·exact hc (i*3+0) _ ((qih knL 3 (λ_=>rfl) kn i k 0 hi (by decide)).trans rfl)
 ·rw[qcb];exact hc (i*3+1) _ ((qih knL 3 (λ_=>rfl) kn i k 1 hi (by decide)).trans rfl)
 ·rw[qcb];exact hc (i*3+2) _ ((qih knL 3 (λ_=>rfl) kn i k 2 hi (by decide)).trans rfl)
end Go.Proofs.YtkmpfgpfbmeihaaGreatDoor.pk
namespace Go.Proofs.YtkmpfgpfbmeihaaGreatDoor.pk
open Go Go.RowKit lib bm
theorem qv2 {kn:List Kn} {id:List UInt8} (h:∀t,t<kn.length→∀y,kn[t]?=some y→y.id≠id):kn.find? (λk=>k.id==id)=none:=by rw[qle];intro x hx;obtain⟨t,ht,rfl⟩:=List.mem_iff_getElem.1 hx;have:=h t ht _ (qai ht);simpa using this
theorem qna (p:Kn→Bool):∀(kn:List Kn) (j:Nat) (k:Kn),(∀t,t<j→∀y,kn[t]?=some y→p y=false)→kn[j]?=some k→p k=true→kn.find? p=some k
 | [],j,k,_,h,_=>by simp at h
 | x::t,0,k,_,h,hs=>by
  simp only[qac,qaw]at h;rw[qhn,h,hs]
 | x::t,j+1,k,hn,h,hs=>by rw[qhn,hn 0 (by omega) x rfl];exact qna p t j k (λi hi y hy=>hn (i+1) (by omega) y (by simpa using hy)) (by simpa using h) hs
theorem qp7 {P:Program} {w:World} {e:TypeId} {o:Oper} {a:Act} {K:Act→World→Prop} {Q:Exit→Act→World→Prop} {src dst:TypeId} (hs:P.underlying src=some .string) (hd:P.underlying dst=some (.slice e)) (he:P.underlying e=some (.int .u8))
  (x:Operand) (ho:o.op = .convert src dst x) (bs:List UInt8) (hx:a.eval x = .string (str bs)) (hm:bs.length≤maxLen)
  (h:∀cap w',OwnB w' e (some ⟨w.heap.size,0,none⟩) cap (bs.map bv)→Fr [] w w'→w.heap.size<w'.heap.size→K (a.put o.dst (.slice (some ⟨w.heap.size,0,none⟩) bs.length cap)) w'):o.wp P a w K Q:=by
 have hr:=run_bytes_of_string (P:=P) w src dst e (str bs) hs hd he;have hsz:(str bs).size=bs.length:=by simp[str,ByteArray.size]
 rw[hsz]at hr;have h1:=grownCap_ge w bs.length 0 e;have h2:=grownCap_le_maxLen w bs.length 0 e hm;generalize grownCap w bs.length 0 e=cap at *;unfold Oper.wp execOp;simp only[ho,hx,qi2,qgq,Sem.run_pure,hr];have hb:=qay w.drew (.cells (bytesRow (str bs) cap) e ((bytesRow (str bs) cap).size,(bytesRow (str bs) cap).size+1));have hrow:(bytesRow (str bs) cap).toList.take bs.length=bs.map bv∧(bytesRow (str bs) cap).size=cap:=by
  constructor
  ·unfold bytesRow;rw[Array.toList_append,qc2 (by simp[str]),qbd (by simp[str])];simp[str,bv]
  ·unfold bytesRow;simp;omega
 refine h cap _ (.inr ⟨w.heap.size,0,_,_,rfl,hb,.inr (qae _),by simpa using h1,h2,by rw[hrow.2];omega,?_⟩) ((Fr.drew1 [] w).alloc _) (by rw[qa1];exact Nat.lt_succ_self _);rw[qaj,qap];exact hrow.1
theorem zcj (B:Nat) (a:Option Addr) (cap:Nat) (kn:List Kn) (id:List UInt8) (w:World) (hB:w.cell? ⟨B,0,none⟩=some (.slice a kn.length cap)) (h:Knows w a cap kn) (hl:kn.length≤1000000) :
  Calls Tryz.prog 55 #[.string (str id),.pointer (some ⟨B,0,none⟩)] w (Got w kn id):=by
 obtain⟨n,hn⟩:=zex kn.length;rw[<-hn]at hB hl;obtain⟨si,hsi⟩:=zex (str id);rw[<-hsi];have H:=zhd3 h hn hsi;clear h hn hsi;go_enter Tryz.func55,Tryz.ntmps55;go_wp2;go_loopg [6] n (λk s6 wr=>∃i:Nat,s6 = .int .i64 (i:Nat)∧i+k=n∧wr=w∧∀t,t<i→∀y,kn[t]?=some y→(y.id==id)=false);case atStart=>exact⟨0,rfl,by omega,rfl,λt ht=>by omega⟩
 case round=>
  obtain⟨i,rfl,hik,hwr,hno⟩:=hrel;subst hwr;have HN:=zhd hno;clear hno;by_cases hi:i<n
  ·obtain⟨k,rfl⟩:∃k,gk=k+1:=⟨gk-1,by omega⟩;obtain⟨x,hx⟩:∃x,kn[i]?=some x:=⟨kn[i]'(by rw[<-H.out.2.1];omega),qai _⟩;obtain⟨g,o,rfl,c0,c1,c2⟩:=H.out.1.cell hx;have hlen:=H.out.1.len x (qa8 hx);obtain⟨sx,hsx⟩:=zex (str x.id);obtain⟨kd,hkd⟩:=zex x.kind;rw[<-hsx]at c2;rw[<-hkd]at c0;by_cases he:x.id=id
   ·have gs:(sx.toList==si.toList)=true:=by rw[hsx,H.out.2.2,he];exact beq_self_eq_true _
    have hf:=qna (λk=>k.id==id) kn i x (λt ht y hy=>HN.out t ht y hy) hx (by simpa using he);have HX:=zhd3 hf hlen hkd;clear hx hsx he hf hlen hkd;go_upto_region 5 with fail;refine qb3 12 [(false,0),(false,1),(false,2),(false,3),(false,4),(false,5),(false,6),(false,7),(false,8),(false,9),(false,11),(true,10)] [] (by kernel_rfl) (by kernel_rfl) (λ_ _ d _ _ h=>by cases d<;>exact h) ?_;simp only[qak,qam,qaz,qa0,qad,qaj,qbk];have f1:=λx:World=>qcm [] wr.drew x
    have q1:∀x,(sup [] wr.drew x).cell? ⟨B,0,none⟩=some (.slice (some ⟨g,o,none⟩) n cap):=λx=>(f1 x).cell (show wr.drew.cell? _=_ from hB) (by simp)
    have q2:∀x,(sup [] wr.drew x).cell? ⟨g,o+i*3,none⟩=some (.int .i64 kd):=λx=>(f1 x).cell (show wr.drew.cell? _=_ from c0) (by simp)
    have q3:∀z,(sup [] wr.drew z).cell? ⟨g,o+i*3+1,none⟩=some (.string (str x.body)):=λz=>(f1 z).cell (show wr.drew.cell? _=_ from c1) (by simp)
    refine qb0 11 rfl ?_;simp only[qah,qan,qad,qaj,qak,qam];repeat (go_big_quiet_step (fail))
    refine wpQuiet_nil ?_;clear q1 q2 q3 f1;refine qb6 rfl ?_;intro X hX;refine qp7 (e:=5) Tryz.underlying9 Tryz.underlying23 Tryz.underlying5 _ rfl x.body rfl (by have:x.body.length≤140737488351232:=HX.out.2.1;unfold maxLen;omega) ?_;intro c3 w3 ho3 f3 hl3;simp only[Act.put,qbb,qbx,qbq];refine hX.out _ _ f3 ?_;clear hX X;have H3:=zhd3 ho3 f3 hl3;clear ho3 f3 hl3;refine qcq ?_;go_wp2;go_ret3;refine⟨(Fr.drew1 [] wr).trans H3.o1,?_⟩;rw[HX.out.1];refine⟨_,c3,by rw[<-HX.out.2.2];rfl,H3.o0.rd,λy hy=>?_,by have:=HX.out.2.1;omega⟩;simp[blk]at hy;rw[hy];exact qae _
   ·have gs:(sx.toList==si.toList)=false:=by rw[hsx,H.out.2.2,str_toList,str_toList];simpa using he
    have HX:=zhd2 hx he;clear hx hsx he hlen hkd;go_wp2;go_roundg k;case measure=>omega
    case rel=>
     refine⟨i+1,rfl,by omega,rfl,λt ht y hy=>?_⟩;by_cases hti:t=i
     ·subst hti;rw[HX.out.1]at hy;obtain rfl:=qbm hy;simpa using HX.out.2
     ·exact HN.out t (by omega) y hy
  ·obtain rfl:i=n:=by omega
   have hf:=qv2 (kn:=kn) (id:=id) (λt ht y hy=>by have:=HN.out t (by rw[H.out.2.1];exact ht) y hy;simpa using this);have HX:=zhd hf;clear hf;go_wp2;go_ret3;refine⟨Fr.refl _ _,?_⟩;rw[HX.out];rfl
theorem zfp (a:Option Addr) (cap:Nat) (kn:List Kn) (w:World) (h:Knows w a cap kn) (hl:kn.length≤1000000) :
  Calls Tryz.prog 25 #[.slice a kn.length cap] w λe w'=>∃gv,e = .returned gv∧Fr [] w w'∧Getter w' [] gv kn:=by
 obtain⟨n,hn⟩:=zex kn.length;rw[<-hn];have H:=zhd3 h hn hl;clear h hn hl;go_enter Tryz.func25,Tryz.ntmps25;go_wp2;go_ret;have f0:Fr [] w (w.alloc (.cells #[.slice a n cap] 49)):=(Fr.refl [] w).alloc _;refine⟨_,rfl,f0,.inr ⟨_,_,rfl,λ_ _=>by kernel_rfl,λid w' _ f=>?_⟩⟩;have hc:(w.alloc (.cells #[.slice a n cap] 49)).cell? ⟨w.heap.size,0,none⟩=some (.slice a kn.length cap):=by rw[cell_of (qay w _),<-H.o1];rfl
 exact zcj w.heap.size a cap kn id w' (f.cell hc (by simp)) ((H.o0.fr f0).fr f) H.l2
theorem qjz (w:World):Calls Tryz.prog 8 #[] w λe w'=>e = .returned (.bool true)∧Fr [] w w':=by
 have hlen:(begin12++sha.sha1 begin12).length=32:=by rw[qab,sha.qck];rfl
 have hwr:=qwo w;unfold NewBytes at hwr;rw[hlen]at hwr;have hh:=λw'=>qhc 3 20 w' (by decide) (by decide)
 have hb:=λw'=>zda 128 w' (by decide)
 unfold NewBytes at hh hb;have eh:hd 3 20=[180,1]:=by decide
 have eb:(bk 128).reverse=[128,0]:=by decide
 rw[eh]at hh;rw[eb]at hb;have H0:=zhd3 hwr hh hb;clear hwr hh hb eh eb hlen;go_enter Tryz.func8,Tryz.ntmps8;go_upto_region 2 with (go_at_call 15;refine H0.o0.mono ?_;rintro e w1 ⟨a1,rfl,rd1,nb1,f1⟩);have hrd:=zbh a1 w1 rd1 (λx hx=>(nb1 x hx).2);have H1:=zhd2 hrd f1;clear hrd f1 rd1 nb1;go_upto_region 3 with (go_at_call 18;refine H1.o0.mono ?_;rintro e w2 ⟨⟨s,hs,rfl⟩,f2⟩);go_wp2_with (first
  | (go_at_call 10;refine (H0.o1 _).mono ?_;rintro e w3 ⟨a3,rfl,rd3,nb3,f3⟩;have cv3:∀c,(convert 23 9 (.slice a3 2 c)).run Tryz.prog w3 = .ok (.string ⟨#[180,1]⟩) w3:=qde w3 Tryz.underlying23 Tryz.underlying5 Tryz.underlying9 (n:=2) (bs:=[180,1]) rfl rd3.cs)
  | (go_at_call 9;refine (H0.l2 _).mono ?_;rintro e w4 ⟨a4,rfl,rd4,nb4,f4⟩;have cv4:∀c,(convert 23 9 (.slice a4 2 c)).run Tryz.prog w4 = .ok (.string ⟨#[128,0]⟩) w4:=qde w4 Tryz.underlying23 Tryz.underlying5 Tryz.underlying9 (n:=2) (bs:=[128,0]) rfl rd4.cs))
 go_ret;exact⟨by first|rfl|simp,H1.l1.trans (f2.trans (f3.trans f4))⟩
end Go.Proofs.YtkmpfgpfbmeihaaGreatDoor.pk
namespace Go.Proofs.YtkmpfgpfbmeihaaGreatDoor.pk
def Small (l:List Ent):Prop:=∀x∈l,x.data.length≤65536∧x.base.length≤40
theorem qqv {bs:List UInt8} {at_:Nat} {x:Ent} {p:Nat} (h:pentry bs at_ = .ok (x,p)):x.data.length≤65536∧x.base.length≤40:=by
 unfold pentry at h;split at h
 ·cases h
 ·rename_i kind size n hh;obtain⟨h1,h2,h3,h4⟩:=qqu _ _ _ _ _ hh;rw[qav]at h3;split at h
  ·cases h
  ·rename_i base off q hb;obtain⟨k1,k2,k3,k4⟩:=qtz (by omega) hb;split at h
   ·cases h
   ·split at h
    ·rename_i ho;simp only[qa6,qa4]at h;obtain⟨rfl,rfl⟩:=h;exact⟨by simp only;omega,k3⟩
    ·cases h
theorem qmn (bs:List UInt8):∀(n at_:Nat) (l:List Ent) {r:List Ent} {p:Nat},Small l→pents bs n at_ l = .ok (r,p)→Small r
 | 0,at_,l,r,p,ha,h=>by
  simp only[pents,qa6,qa4]at h;rw[<-h.1];exact ha
 | n+1,at_,l,r,p,ha,h=>by
  rw[pents]at h;split at h
  ·cases h
  ·rename_i x q hx;refine qmn bs n q (l++[x]) (λy hy=>?_) h;rcases qbu.1 hy with hy|hy
   ·exact ha y hy
   ·obtain rfl:y=x:=by simpa using hy
    exact qqv hx
theorem qsg {bs:List UInt8} {l:List Ent} {id:List UInt8} (h:pread bs = .ok (l,id)):Small l:=by
 unfold pread at h;split at h
 ·cases h
 ·split at h
  ·cases h
  ·split at h
   ·cases h
   ·split at h
    ·cases h
    ·split at h
     ·cases h
     ·rename_i l2 at_ hp;split at h
      ·cases h
      ·split at h
       ·cases h
       ·split at h
        ·cases h
        ·simp only[qa6,qa4]at h;rw[<-h.1];exact qmn bs _ 12 [] (λy hy=>by simp at hy) hp
end Go.Proofs.YtkmpfgpfbmeihaaGreatDoor.pk
