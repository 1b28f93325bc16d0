/-
  Texts of this proof, one behind the other: RSha, RHex, RObjId, LwIn.
-/
import Derived.Test.YtbabjlohkniciaaGreatDoorW21
set_option maxHeartbeats 16000000
set_option maxRecDepth 100000
set_option linter.unusedVariables false
set_option linter.unusedSimpArgs false
namespace Go.Proofs.YtbabjlohkniciaaGreatDoor.sha
open Go Go.RowKit lib bm
theorem sliceU32:SliceTy Tryz.prog 91 90 (.int .u32 0) 1 4:=SliceTy.of Tryz.underlying91 (by kernel_rfl) rfl (by decide)
theorem qsv:∃A:Array Value,A.size=80∧∀w:World,(Instr.makeSlice 91 (.int .i64 80) (.int .i64 80)).run Tryz.prog w = .ok (.slice (some ⟨w.heap.size,0,none⟩) 80 80) (w.alloc (.cells A 90)):=by obtain⟨i,hi,hz,hs,hb⟩:=sliceU32.info;refine⟨madeCells (Value.int .u32 0).cells 80,size_madeCells _ _,λw=>?_⟩;have:=run_make (P:=Tryz.prog) w 91 90 i (.int .u32 0) Tryz.underlying91 hi hz .i64 .i64 80 80 (by omega) (Int.le_refl _) (by rw[hb];omega) (by omega);simpa[hs] using this
structure Wd (w:World) (B:Nat) (p:List UInt8) (t:Nat):Prop where
 wb:∃A,w.heap[B]?=some (.cells A 90 (0,0))∧A.size=80∧∀j,j<t→A[j]?=some (.int .u32 (sv p j))
theorem Wd.fr {S:List Nat} {w w':World} {B t:Nat} {p:List UInt8} (h:Wd w B p t) (f:Fr S w w') (hB:B∉S):Wd w' B p t:=by obtain⟨A,hA,r⟩:=h.wb;exact⟨A,f.blk hA hB,r⟩
theorem Wd.store {w:World} {B t:Nat} {p:List UInt8} (h:Wd w B p t) (ht:t<80) (v:Int) (hv:v=sv p t):Wd (w.setCell ⟨B,t,none⟩ (.int .u32 v)) B p (t+1):=by
 obtain⟨A,hA,hAs,hAt⟩:=h.wb;refine⟨_,qax hA _,by simp[hAs],λj hj=>?_⟩;by_cases e:j=t
 ·subst e;rw[qap (by omega),hv]
 ·rw[qab (by omega)];exact hAt j (by omega)
theorem qxp (bs:List UInt8) (w:World) (hlen:bs.length≤140737488355000) :
  Calls Tryz.prog 19 #[.string (str bs)] w λe w'=>(∃a c,e = .returned (.slice a 20 c)∧lib.Rd w' a c (sha1 bs)∧∀x∈lib.blk a,w.heap.size≤x∧x<w'.heap.size)∧Fr [] w w':=by
 obtain⟨L,hL⟩:=zex bs.length;have hsz:(str bs).size=L:=by rw[hL];simp[str,ByteArray.size]
 rw[<-hL]at hlen;have H:=zhd hL;clear hL;go_enter Tryz.func19,Tryz.ntmps19;go_upto_block 0 with (first
  | (refine qf8 (e:=5) Tryz.underlying9 Tryz.underlying22 Tryz.underlying5 rfl _ rfl bs rfl (by unfold maxLen;have:=H.out;omega) ?_;intro cap1 w1 hc1 ho1 f1 hl1;rw[<-H.out]at hc1 ⊢;have H1:=zhd3 ho1 f1 hl1;clear ho1 f1 hl1)
  | (refine qdj sums.sliceU8 rfl _ _ rfl (some ⟨w.heap.size,0,none⟩) L cap1 (bs.map bv) rfl (H1.o0.fr ((Fr.refl [] w1).alloc (.cells #[.int .u8 128] 5)) (by simp)) (by rw[qau];exact H.out.symm) (some ⟨w1.heap.size,0,none⟩) 1 1 [.int .u8 128] rfl (by omega) (by simp) (qfj w1 _ _ _) rfl (by simp[Value.oneCell']) (by omega) (by unfold maxLen;omega) ?_;intro a2 q2 w2 A2;have H2:=zhd A2;clear A2))
 have fw2:Fr [] w w2:=(H1.o1.trans ((Fr.refl [] w1).alloc (.cells #[.int .u8 128] 5))).step H2.out.fr (λy hy=>.inr (by simp[lib.blk]at hy;omega));have hnew2:∀x∈lib.blk a2,w.heap.size≤x:=λx hx=>by
  have h1:=H1.o1.size;rcases H2.out.at_ x hx with k|k
  ·simp[lib.blk]at k;omega
  ·rw[qa1]at k;omega
 have hown2:OwnB w2 5 a2 q2 ((bs++[128]).map bv):=by rw[qbp];exact H2.out.own
 obtain⟨Z,hZ⟩:=zex (zer (L+1));have hZ2:Z<64∧(L+1+Z)%64=56:=by rw[hZ];unfold zer;omega
 have HW:=zhd4 fw2 hnew2 hown2 hZ;clear fw2 hnew2 hown2 hZ H1 H2;go_wp2;go_loopg [4] Z (λk s4 wr=>∃(j N:Nat) (a:Option Addr) (q:Nat),s4 = .slice a N q∧N=L+1+j∧j+k=Z∧OwnB wr 5 a q ((bs++[128]++List.replicate j 0).map bv)∧Fr [] w wr∧∀x∈lib.blk a,w.heap.size≤x);case atStart=>exact⟨0,L+1,a2,q2,rfl,rfl,by omega,by simpa using HW.o2,HW.o0,HW.o1⟩
 case round=>
  obtain⟨j,N,a,q,rfl,hN,hjk,hown,hf,hnew⟩:=hrel;obtain⟨p1,p2,p3⟩:=hown.shape;have hll:(bs++[128]++List.replicate j (0:UInt8)).length=N:=by simp only[qaa,qcs,qcd];rw[<-H.out,hN]
  rw[qau,hll]at p1;have HR:=zhd4 hown hf hnew hll;clear hown hf hnew hll;have hNb:N≤140737488355200:=by omega
  by_cases hj:j<Z
  ·obtain⟨k,rfl⟩:∃k,gk=k+1:=⟨gk-1,by omega⟩;have hne:¬(N%64=56):=by omega
   have d1:((N:Int)%64 !=56)=true:=by simp;omega
   have HN:=zhd2 hN hjk;clear hne hN hjk;go_wp2_with (refine qdj sums.sliceU8 rfl _ _ rfl a N q ((bs++[128]++List.replicate j 0).map bv) rfl (HR.o0.fr ((Fr.refl [] wr).alloc (.cells #[.int .u8 0] 5)) (by simp)) (by rw[qau];exact HR.l3) (some ⟨wr.heap.size,0,none⟩) 1 1 [.int .u8 0] rfl (by omega) (by simp) (qfj wr _ _ _) rfl (by simp[Value.oneCell']) (by omega) (by unfold maxLen;omega) ?_;intro a4 q4 w4 A4;have H4:=zhd A4;clear A4);go_roundg k;case measure=>omega
   case rel=>
    obtain⟨hN,hjk⟩:=HN.out;refine⟨j+1,N+1,a4,q4,rfl,by omega,by omega,?_,(HR.o1.trans ((Fr.refl [] wr).alloc (.cells #[.int .u8 0] 5))).step H4.out.fr (λy hy=>.inr (HR.o2 y hy)),λx hx=>?_⟩
    ·rw[qep,<-qat,qbp];exact H4.out.own
    ·have h1:=HR.o1.size;rcases H4.out.at_ x hx with k|k
     ·exact HR.o2 x k
     ·rw[qa1]at k;omega
  ·obtain rfl:j=Z:=by omega
   obtain rfl:gk=0:=by omega
   have d1:((N:Int)%64 !=56)=false:=by simp;omega
   obtain⟨x1,hx1⟩:∃x,x=L/536870912:=⟨_,rfl⟩;obtain⟨x2,hx2⟩:∃x,x=L*8%4294967296:=⟨_,rfl⟩;have e1:(L:Int)*8/4294967296=(x1:Int):=by omega
   have e2:((L:Int)*8)%4294967296=(x2:Int):=by omega
   have hx1l:x1<4294967296:=by omega
   have hx2l:x2<4294967296:=by omega
   have hwd:=λw' h=>qnw (some ⟨wr.heap.size,0,none⟩) 2 [x1,x2] w' h (by intro v hv;simp only[qaz,qbv,or_false]at hv;rcases hv with rfl|rfl<;>assumption) (by simp) (by simp) (by decide)
   have hpd:bs++[128]++List.replicate j (0:UInt8)++be4s [x1,x2]=padded bs L:=by
    have:be4s [x1,x2]=sums.be4 x1++sums.be4 x2:=by simp[be4s]
    rw[this,padded,padTo,hx1,hx2,<-H.out,<-HW.l3,<-qat]
   have HN:=zhd3 hN hwd hpd;clear hN hjk hwd hpd hx1 hx2 hj;have fAl:Fr [] w (wr.alloc (.cells #[.int .u32 x1,.int .u32 x2] 90)):=HR.o1.alloc _;have hownA:=HR.o0.fr ((Fr.refl [] wr).alloc (.cells #[.int .u32 x1,.int .u32 x2] 90)) (by simp);have HAl:=zhd2 fAl hownA;clear fAl hownA;go_upto_region 6 with (first
    | (go_at_call 45;refine (HN.out.2.1 _ (qfj wr #[.int .u32 x1,.int .u32 x2] 90 (0,0))).mono ?_;rintro e w5 ⟨a5,c5,rfl,r5,n5,f5⟩;have hle5:=r5.le;rw[be4s_len]at hle5;simp only[qal,qa7]at hle5;have H5:=zhd3 r5 n5 f5;clear r5 n5 f5)
    | (refine qdj sums.sliceU8 rfl _ _ rfl a N q ((bs++[128]++List.replicate j 0).map bv) rfl (HAl.l1.fr H5.l2 (by simp)) (by rw[qau];exact HR.l3) a5 8 c5 ((be4s [x1,x2]).map bv) rfl (by omega) H5.o0.nil H5.o0.cs (by rw[qau,be4s_len];rfl) (sums.qeb _) (by omega) (by unfold maxLen;omega) ?_;intro a6 q6 w6 A6;rw[<-qbp,HN.out.2.2]at A6;have H6:=zhd A6;clear A6))
   obtain⟨pd,hpd⟩:=zex (padded bs L);rw[<-hpd]at H6;have hf6:Fr [] w w6:=(HAl.o0.trans H5.l2).step H6.out.fr (λy hy=>.inr (HR.o2 y hy));have hn6:∀x∈lib.blk a6,x<w6.heap.size:=H6.out.own.lt;have hrd6:=H6.out.own.rd;have hpl:pd.length=N+8:=by rw[hpd,<-HN.out.2.2,qaa,HR.l3,be4s_len];rfl
   have hpm:pd.length%64=0:=by rw[hpd];exact qhr bs L
   obtain⟨PB,hPB⟩:=zex pd.length;obtain⟨RES,hRES⟩:=zex (blocks PB h0 pd);have hres:sha1 bs=dig5 RES:=by rw[qi8,<-H.out,<-hpd,<-hPB,<-hRES]
   rw[<-hPB]at hpm;rw[show N+8=PB by omega];have hcq6:=hrd6.le;have hcm6:=hrd6.max;unfold maxLen at hcm6;rw[<-hPB]at hcq6;have hPBb:PB≤140737488355300:=by omega
   have HP:=zhd6 hf6 hn6 hrd6 hPB hRES hres;clear hf6 hn6 hrd6 hpl hPB hRES hres hpd H5 H6 HAl d1 e1 e2 hx1l hx2l;obtain⟨A80,hA80,hmk⟩:=qsv;go_upto_block 2 with fail;obtain⟨Q,w7,hQ,hw7,f7,b7,d7⟩:∃Q w7,Q=w6.heap.size∧w7=(w6.alloc (.cells #[.int .u32 1732584193,.int .u32 4023233417,.int .u32 2562383102,.int .u32 271733878,.int .u32 3285377520] 90)).alloc (.cells A80 90)∧Fr [] w6 w7∧w7.heap[Q]?=some (.cells h0.vals 90 (0,0))∧w7.heap[Q+1]?=some (.cells A80 90 (0,0)):=
    ⟨_,_,rfl,rfl,((Fr.refl [] w6).alloc _).alloc _,alloc_old _ (qa3 w6 _),by have:=qa3 (w6.alloc (.cells #[.int .u32 1732584193,.int .u32 4023233417,.int .u32 2562383102,.int .u32 271733878,.int .u32 3285377520] 90)) (.cells A80 90);rw[qa1]at this;exact this⟩
   rw[<-hw7,<-hQ];have H7:=zhd5 f7 b7 d7 hQ hA80;clear hw7 hQ f7 b7 d7 hmk hA80;go_wp2;go_loopg [5,7] PB (λk s5 s7 wr=>∃(at_ B:Nat) (h':H5),s7 = .int .i64 (at_:Nat)∧s5 = .slice (some ⟨B,0,none⟩) 5 5∧at_%64=0∧at_≤PB∧PB-at_≤k∧B≠Q+1∧wr.heap[B]?=some (.cells h'.vals 90 (0,0))∧Wd wr (Q+1) [] 0∧Fr [Q+1] w7 wr∧Rng h'∧blocks k h' (pd.drop at_)=RES);case atStart=>exact⟨0,Q,h0,rfl,rfl,rfl,qbc _,by omega,by omega,H7.o1,⟨A80,H7.o2,H7.l4,λj hj=>by omega⟩,Fr.refl _ _,qzk,HP.o4.symm⟩
   case round=>
    obtain⟨at_,B,h',rfl,rfl,hat,hatl,hatk,hBQ,hbB,hwd,hf,hrg,hbl⟩:=hrel;have HL:=zhd7 hBQ hbB hwd hf hrg hbl hatk;have hatk2:=hatk;clear hBQ hbB hwd hf hrg hbl hatk;by_cases hlt:at_<PB
    ·have h64:at_+64≤PB:=by omega
     obtain⟨k,rfl⟩:∃k,gk=k+1:=⟨gk-1,by omega⟩;obtain⟨p,hp⟩:=zex (pd.drop at_);have hpl:p.length=PB-at_:=by rw[hp,qav,<-HP.o3]
     have HPP:=zhd2 hp hpl;clear hp hpl;obtain⟨wo,hwo⟩:=zex wr;rw[<-hwo]at HL ⊢;clear hwo;go_upto_block 4 with fail;go_wp2;go_loopg [8] 80 (λk s8 wz=>∃t:Nat,s8 = .int .i64 (t:Nat)∧t+k=80∧Wd wz (Q+1) p t∧Fr [Q+1] wo wz);case atStart=>exact⟨0,rfl,rfl,(by obtain⟨A,h1,h2,_⟩:=HL.out.2.2.1.wb;exact⟨A,h1,h2,λj hj=>by omega⟩),Fr.refl _ _⟩
     case round=>
      obtain⟨t,rfl,htk,hwd,hf⟩:=hrel;have HW2:=zhd2 hwd hf;clear hwd hf;by_cases ht:t<80
      ·obtain⟨k2,rfl⟩:∃k,gk=k+1:=⟨gk-1,by omega⟩;obtain⟨A,hA,hAs,hAt⟩:=HW2.out.1.wb;have zA:=qaw hA t;obtain⟨xo,hxo⟩:∃x,wr.cell? ⟨Q+1,t,none⟩=some x:=⟨A[t]'(by omega),by rw[cell_of hA];exact qdg (by omega)⟩;have it:(t:Int)<80:=by omega
       by_cases ht16:t<16
       ·obtain⟨m0,hm0⟩:∃m,m=at_+4*t:=⟨_,rfl⟩;have em0:(at_:Int)+4*(t:Int)=(m0:Int):=by omega
        have Hm0:=zhd hm0;have HAA:=zhd5 hA hAs hAt zA hxo;clear hm0 hA hAs hAt zA hxo;go_upto_region 16 with fail;have hm0:=Hm0.out;have zA:=HAA.out.2.2.2.1;have hxo:=HAA.out.2.2.2.2;have hrr:=(HP.o2.fr H7.o0).frS (HL.out.2.2.2.1.trans HW2.out.2) (λx hx hm=>by have:=HP.o1 x hx;have:=H7.o3;simp at hm;omega);obtain⟨m1,hm1⟩:∃m,m=m0+1:=⟨_,rfl⟩;obtain⟨m2,hm2⟩:∃m,m=m0+2:=⟨_,rfl⟩;obtain⟨m3,hm3⟩:∃m,m=m0+3:=⟨_,rfl⟩;have hPBl:=HP.o3;have b0:m0<pd.length:=by omega
        have b1:m1<pd.length:=by omega
        have b2:m2<pd.length:=by omega
        have b3:m3<pd.length:=by omega
        obtain⟨g,o,ea,X0⟩:=hrr.at b0;obtain⟨_,_,q1,X1⟩:=hrr.at b1;obtain⟨_,_,q2,X2⟩:=hrr.at b2;obtain⟨_,_,q3,X3⟩:=hrr.at b3;subst ea;simp only[qar,qcj,and_true]at q1 q2 q3;obtain⟨rfl,rfl⟩:=q1;obtain⟨rfl,rfl⟩:=q2;obtain⟨rfl,rfl⟩:=q3;have hw:word p (4*t)=((pd[m0].toNat*16777216+pd[m1].toNat*65536+pd[m2].toNat*256+pd[m3].toNat:Nat):Int):=by unfold word;rw[HPP.o0,qck,qck,qck,qck,show at_+4*t=m0 by omega,show at_+(4*t+1)=m1 by omega,show at_+(4*t+2)=m2 by omega,show at_+(4*t+3)=m3 by omega,qad b0,qad b1,qad b2,qad b3];rfl
        have l0:=qbh pd[m0];have l1:=qbh pd[m1];have l2:=qbh pd[m2];have l3:=qbh pd[m3];generalize pd[m0].toNat=y0 at *;generalize pd[m1].toNat=y1 at *;generalize pd[m2].toNat=y2 at *;generalize pd[m3].toNat=y3 at *;obtain⟨z1,hz1⟩:∃z,z=y0*16777216+y1*65536:=⟨_,rfl⟩;obtain⟨z2,hz2⟩:∃z,z=z1+y2*256:=⟨_,rfl⟩;obtain⟨z3,hz3⟩:∃z,z=z2+y3:=⟨_,rfl⟩;have r1:bits .or .u32 ((y0:Int)*16777216) ((y1:Int)*65536)=(z1:Int):=by have:=sums.qin (y0*16777216) (y1*65536) 24 (by omega) (by decide) (by omega) (by omega);rw[<-hz1]at this;simpa using this
        have r2:bits .or .u32 (z1:Int) ((y2:Int)*256)=(z2:Int):=by have:=sums.qin z1 (y2*256) 16 (by omega) (by decide) (by omega) (by omega);rw[<-hz2]at this;simpa using this
        have r3:bits .or .u32 (z2:Int) (y3:Int)=(z3:Int):=by have:=sums.qin z2 y3 8 (by omega) (by decide) (by omega) (by omega);rw[<-hz3]at this;exact this
        have HV:Hid ((z3:Int)=sv p t):=zhd (by rw[zba p t ht16,hw];congr 1;omega);have HM:=zhd3 hm1 hm2 hm3;have hm0b:m0+3<PB:=by omega
        clear hrr hPBl hw hz1 hz2 hz3 hm0 hm1 hm2 hm3 b0 b1 b2 b3 em0;have e1:(m0:Int)+1=(m1:Int):=by have:=HM.out;omega
        have e2:(m0:Int)+2=(m2:Int):=by have:=HM.out;omega
        have e3:(m0:Int)+3=(m3:Int):=by have:=HM.out;omega
        have w1':IntKind.i64.wrap ((m0:Int)+1)=(m1:Int):=by rw[qb3];omega
        have w2':IntKind.i64.wrap ((m0:Int)+2)=(m2:Int):=by rw[qb3];omega
        have w3':IntKind.i64.wrap ((m0:Int)+3)=(m3:Int):=by rw[qb3];omega
        have i0:(m0:Int)<(PB:Int):=by omega
        have i1:(m1:Int)<(PB:Int):=by omega
        have i2:(m2:Int)<(PB:Int):=by omega
        have i3:(m3:Int)<(PB:Int):=by omega
        refine qcn 32 (by kernel_rfl) (by kernel_rfl) ?_;simp only[qag,qan,qac,qai];repeat (go_big_quiet_step (fail))
        refine wpQuiet_nil ?_;clear X0 X1 X2 X3 w1' w2' w3' r1 r2 r3 e1 e2 e3;go_wp2;go_roundg k2;case measure=>omega
        case rel=>exact⟨t+1,by go_num,by omega,(HW2.out.1.fr (Fr.drew1 [] wr) (by simp)).store ht _ HV.out,(HW2.out.2.trans (Fr.drew1 [Q+1] wr)).setCell (by simp) _⟩
       ·have HAA:=zhd5 hA hAs hAt zA hxo;clear hA hAs hAt zA hxo;have ht16b:decide (t<16)=false:=by simpa using ht16
        go_upto_region 17 with fail;clear ht16b;obtain⟨hA,hAs,hAt,_,_⟩:=HAA.out;obtain⟨n3,hn3⟩:∃m,m=t-3:=⟨_,rfl⟩;obtain⟨n8,hn8⟩:∃m,m=t-8:=⟨_,rfl⟩;obtain⟨n14,hn14⟩:∃m,m=t-14:=⟨_,rfl⟩;obtain⟨n16,hn16⟩:∃m,m=t-16:=⟨_,rfl⟩;have e3:(t:Int)-3=(n3:Int):=by omega
        have e8:(t:Int)-8=(n8:Int):=by omega
        have e14:(t:Int)-14=(n14:Int):=by omega
        have e16:(t:Int)-16=(n16:Int):=by omega
        have w3:IntKind.i64.wrap ((t:Int)-3)=(n3:Int):=by rw[qb3];omega
        have w8:IntKind.i64.wrap ((t:Int)-8)=(n8:Int):=by rw[qb3];omega
        have w14:IntKind.i64.wrap ((t:Int)-14)=(n14:Int):=by rw[qb3];omega
        have w16:IntKind.i64.wrap ((t:Int)-16)=(n16:Int):=by rw[qb3];omega
        have x3:∀x,(sup [] wr.drew x).cell? ⟨Q+1,n3,none⟩=some (.int .u32 (sv p n3)):=λx=>(qcx [] wr.drew x).cell (show wr.drew.cell? _=_ from (cell_of hA n3).trans (hAt n3 (by omega))) (by simp)
        have x8:∀x,(sup [] wr.drew x).cell? ⟨Q+1,n8,none⟩=some (.int .u32 (sv p n8)):=λx=>(qcx [] wr.drew x).cell (show wr.drew.cell? _=_ from (cell_of hA n8).trans (hAt n8 (by omega))) (by simp)
        have x14:∀x,(sup [] wr.drew x).cell? ⟨Q+1,n14,none⟩=some (.int .u32 (sv p n14)):=λx=>(qcx [] wr.drew x).cell (show wr.drew.cell? _=_ from (cell_of hA n14).trans (hAt n14 (by omega))) (by simp)
        have x16:∀x,(sup [] wr.drew x).cell? ⟨Q+1,n16,none⟩=some (.int .u32 (sv p n16)):=λx=>(qcx [] wr.drew x).cell (show wr.drew.cell? _=_ from (cell_of hA n16).trans (hAt n16 (by omega))) (by simp)
        have i3:(n3:Int)<80:=by omega
        have i8:(n8:Int)<80:=by omega
        have i14:(n14:Int)<80:=by omega
        have i16:(n16:Int)<80:=by omega
        have hv:=zbb p t (by omega) ht;rw[<-hn3,<-hn8,<-hn14,<-hn16]at hv;have HV:=zhd hv;clear hA hAs hAt hn3 hn8 hn14 hn16 hv;refine qb5 27 [(false,0),(false,1),(false,2),(false,3),(false,4),(false,5),(false,6),(false,7),(false,8),(false,9),(false,10),(false,11),(false,12),(false,13),(false,14),(false,15),(false,16),(false,17),(false,18),(false,19),(false,20),(false,21),(false,22),(false,23),(false,24),(true,25),(false,26)] [] (by kernel_rfl) (by kernel_rfl) (λ_ _ d _ _ h=>by cases d<;>exact h) ?_;simp only[qaj,qam,qa8,qa9,qac,qai,qby];refine qb0 25 rfl ?_;simp only[qag,qan,qac,qai,qaj,qam];repeat (go_big_quiet_step (fail))
        refine wpQuiet_nil ?_;clear x3 x8 x14 x16 w3 w8 w14 w16 e3 e8 e14 e16;refine qcg rfl ?_;intro X hX;go_wp2_with (go_at_call 46;refine (qf3 _ 1 _ (.inl rfl)).mono ?_;rintro e w8 ⟨rfl,f8⟩);refine hX.out _ _ f8 ?_;clear hX X;refine qb0 1 rfl ?_;simp only[qag,qan,qac,qai,qaj,qam];repeat (go_big_quiet_step (fail))
        refine wpQuiet_nil ?_;refine qco ?_;have hA8:=f8.blk (show wr.drew.heap[Q+1]?=_ from HAA.out.1) (by simp);have z8:=qaw hA8 t;have c8:w8.cell? ⟨Q+1,t,none⟩=some (A[t]'(by rw[HAA.out.2.1];exact ht)):=by rw[cell_of hA8];exact qdg (by rw[HAA.out.2.1];exact ht)
        have H8:=zhd f8;clear hA8 f8;go_wp2;go_roundg k2;case measure=>omega
        case rel=>exact⟨t+1,by go_num,by omega,((HW2.out.1.fr (Fr.drew1 [] wr) (by simp)).fr H8.out (by simp)).store ht _ HV.out.symm,((HW2.out.2.trans (Fr.drew1 [Q+1] wr)).trans (H8.out.mono (by simp))).setCell (by simp) _⟩
      ·obtain rfl:t=80:=by omega
       obtain rfl:gk=0:=by omega
       have hbB:=HW2.out.2.blk HL.out.2.1 (by simp;exact HL.out.1);have k0:=cell_of hbB 0;have k1:=cell_of hbB 1;have k2:=cell_of hbB 2;have k3:=cell_of hbB 3;have k4:=cell_of hbB 4;unfold H5.vals at k0 k1 k2 k3 k4;simp only[qak,qaf,qah]at k0 k1 k2 k3 k4;have HBB:=zhd hbB;clear hbB;obtain⟨wi,hwi⟩:=zex wr;rw[<-hwi]at HW2 HBB k0 k1 k2 k3 k4 ⊢;clear hwi;go_upto_block 6 with fail;clear k0 k1 k2 k3 k4;go_wp2;go_loopg [10,11,12,13,14,15] 80 (λk s10 s11 s12 s13 s14 s15 wr=>∃t:Nat,s15 = .int .i64 (t:Nat)∧t+k=80∧s10 = .int .u32 (rounds p t h').a∧s11 = .int .u32 (rounds p t h').b∧s12 = .int .u32 (rounds p t h').c∧s13 = .int .u32 (rounds p t h').d∧s14 = .int .u32 (rounds p t h').e∧Fr [] wi wr);case atStart=>exact⟨0,rfl,rfl,rfl,rfl,rfl,rfl,rfl,Fr.refl _ _⟩
       case round=>
        obtain⟨t,rfl,htk3,rfl,rfl,rfl,rfl,rfl,hf⟩:=hrel;have HF:=zhd hf;clear hf;by_cases ht:t<80
        ·obtain⟨k3,rfl⟩:∃k,gk=k+1:=⟨gk-1,by omega⟩;have hro:rounds p (t+1) h'=round p t (rounds p t h'):=rfl;unfold round at hro;have hsv:(sched p 80)[t]?.getD 0=sv p t:=rfl;rw[hsv]at hro;generalize rounds p t h'=s at *;obtain⟨sa,sb,sc,sd,se⟩:=s;simp only at hro;obtain⟨A,hA,hAs,hAt⟩:=(HW2.out.1.fr HF.out (by simp)).wb;have xw:∀x,(sup [] wr.drew x).cell? ⟨Q+1,t,none⟩=some (.int .u32 (sv p t)):=λx=>(qcx [] wr.drew x).cell (show wr.drew.cell? _=_ from (cell_of hA t).trans (hAt t ht)) (by simp)
         have it:(t:Int)<80:=by omega
         obtain⟨q3,hq⟩:∃q,q=t/20:=⟨_,rfl⟩;rw[<-hq]at hro;have HR3:=zhd hro;clear hro hsv hA hAs hAt;rcases (show q3=0∨q3=1∨q3=2∨q3=3 by omega) with rfl|rfl|rfl|rfl
         ·have g60:decide ((60:Int)≤(t:Int))=false:=by simp;omega
          have gg60:decide (60≤t)=false:=by simp;omega
          have g40:decide ((40:Int)≤(t:Int))=false:=by simp;omega
          have gg40:decide (40≤t)=false:=by simp;omega
          have g20:decide ((20:Int)≤(t:Int))=false:=by simp;omega
          have gg20:decide (20≤t)=false:=by simp;omega
          clear hq;go_upto_region 37 with fail;clear g60 g40 g20 gg60 gg40 gg20;refine qb5 14 [(false,0),(false,2),(false,4),(false,6),(false,8),(false,9),(false,10),(false,11),(true,1),(false,3),(false,5),(false,7),(false,12),(false,13)] [] (by kernel_rfl) (by kernel_rfl) (λ_ _ d _ _ h=>by cases d<;>exact h) ?_;simp only[qaj,qam,qa8,qa9,qac,qai,qby];refine qb0 8 rfl ?_;simp only[qag,qan,qac,qai,qaj,qam];repeat (go_big_quiet_step (fail))
          refine wpQuiet_nil ?_;clear xw;refine qcg rfl ?_;intro X hX;go_wp2_with (go_at_call 46;refine (qf3 _ 5 _ (.inr (.inl rfl))).mono ?_;rintro e w8 ⟨rfl,f8⟩);refine hX.out _ _ f8 ?_;clear hX X;refine qb0 5 rfl ?_;simp only[qag,qan,qac,qai,qaj,qam];repeat (go_big_quiet_step (fail))
          refine wpQuiet_nil ?_;refine qco ?_;have H8:=zhd f8;clear f8;go_wp2_with (go_at_call 46;refine (qf3 _ 30 _ (.inr (.inr rfl))).mono ?_;rintro e w9 ⟨rfl,f9⟩;have H9:=zhd f9;clear f9);go_roundg k3;case measure=>omega
          case rel=>
           refine⟨t+1,by go_num,by omega,?_,?_,?_,?_,?_,((HF.out.trans (Fr.drew1 [] wr)).trans H8.out).trans H9.out⟩;all_goals rw[HR3.out]
           all_goals (first|rfl|(simp only[add32,qe0,qe1,fsel,ksel,ch,par,maj,not32]))
         ·have g60:decide ((60:Int)≤(t:Int))=false:=by simp;omega
          have gg60:decide (60≤t)=false:=by simp;omega
          have g40:decide ((40:Int)≤(t:Int))=false:=by simp;omega
          have gg40:decide (40≤t)=false:=by simp;omega
          have g20:(20:Int)≤(t:Int):=by omega
          have gg20:20≤t:=by omega
          clear hq;go_upto_region 37 with fail;clear g60 g40 g20 gg60 gg40 gg20;refine qb5 14 [(false,0),(false,2),(false,4),(false,6),(false,8),(false,9),(false,10),(false,11),(true,1),(false,3),(false,5),(false,7),(false,12),(false,13)] [] (by kernel_rfl) (by kernel_rfl) (λ_ _ d _ _ h=>by cases d<;>exact h) ?_;simp only[qaj,qam,qa8,qa9,qac,qai,qby];refine qb0 8 rfl ?_;simp only[qag,qan,qac,qai,qaj,qam];repeat (go_big_quiet_step (fail))
          refine wpQuiet_nil ?_;clear xw;refine qcg rfl ?_;intro X hX;go_wp2_with (go_at_call 46;refine (qf3 _ 5 _ (.inr (.inl rfl))).mono ?_;rintro e w8 ⟨rfl,f8⟩);refine hX.out _ _ f8 ?_;clear hX X;refine qb0 5 rfl ?_;simp only[qag,qan,qac,qai,qaj,qam];repeat (go_big_quiet_step (fail))
          refine wpQuiet_nil ?_;refine qco ?_;have H8:=zhd f8;clear f8;go_wp2_with (go_at_call 46;refine (qf3 _ 30 _ (.inr (.inr rfl))).mono ?_;rintro e w9 ⟨rfl,f9⟩;have H9:=zhd f9;clear f9);go_roundg k3;case measure=>omega
          case rel=>
           refine⟨t+1,by go_num,by omega,?_,?_,?_,?_,?_,((HF.out.trans (Fr.drew1 [] wr)).trans H8.out).trans H9.out⟩;all_goals rw[HR3.out]
           all_goals (first|rfl|(simp only[add32,qe0,qe1,fsel,ksel,ch,par,maj,not32]))
         ·have g60:decide ((60:Int)≤(t:Int))=false:=by simp;omega
          have gg60:decide (60≤t)=false:=by simp;omega
          have g40:(40:Int)≤(t:Int):=by omega
          have gg40:40≤t:=by omega
          have g20:(20:Int)≤(t:Int):=by omega
          have gg20:20≤t:=by omega
          clear hq;go_upto_region 37 with fail;clear g60 g40 g20 gg60 gg40 gg20;refine qb5 14 [(false,0),(false,2),(false,4),(false,6),(false,8),(false,9),(false,10),(false,11),(true,1),(false,3),(false,5),(false,7),(false,12),(false,13)] [] (by kernel_rfl) (by kernel_rfl) (λ_ _ d _ _ h=>by cases d<;>exact h) ?_;simp only[qaj,qam,qa8,qa9,qac,qai,qby];refine qb0 8 rfl ?_;simp only[qag,qan,qac,qai,qaj,qam];repeat (go_big_quiet_step (fail))
          refine wpQuiet_nil ?_;clear xw;refine qcg rfl ?_;intro X hX;go_wp2_with (go_at_call 46;refine (qf3 _ 5 _ (.inr (.inl rfl))).mono ?_;rintro e w8 ⟨rfl,f8⟩);refine hX.out _ _ f8 ?_;clear hX X;refine qb0 5 rfl ?_;simp only[qag,qan,qac,qai,qaj,qam];repeat (go_big_quiet_step (fail))
          refine wpQuiet_nil ?_;refine qco ?_;have H8:=zhd f8;clear f8;go_wp2_with (go_at_call 46;refine (qf3 _ 30 _ (.inr (.inr rfl))).mono ?_;rintro e w9 ⟨rfl,f9⟩;have H9:=zhd f9;clear f9);go_roundg k3;case measure=>omega
          case rel=>
           refine⟨t+1,by go_num,by omega,?_,?_,?_,?_,?_,((HF.out.trans (Fr.drew1 [] wr)).trans H8.out).trans H9.out⟩;all_goals rw[HR3.out]
           all_goals (first|rfl|(simp only[add32,qe0,qe1,fsel,ksel,ch,par,maj,not32]))
         ·have g60:(60:Int)≤(t:Int):=by omega
          have gg60:60≤t:=by omega
          have g40:(40:Int)≤(t:Int):=by omega
          have gg40:40≤t:=by omega
          have g20:(20:Int)≤(t:Int):=by omega
          have gg20:20≤t:=by omega
          clear hq;go_upto_region 37 with fail;clear g60 g40 g20 gg60 gg40 gg20;refine qb5 14 [(false,0),(false,2),(false,4),(false,6),(false,8),(false,9),(false,10),(false,11),(true,1),(false,3),(false,5),(false,7),(false,12),(false,13)] [] (by kernel_rfl) (by kernel_rfl) (λ_ _ d _ _ h=>by cases d<;>exact h) ?_;simp only[qaj,qam,qa8,qa9,qac,qai,qby];refine qb0 8 rfl ?_;simp only[qag,qan,qac,qai,qaj,qam];repeat (go_big_quiet_step (fail))
          refine wpQuiet_nil ?_;clear xw;refine qcg rfl ?_;intro X hX;go_wp2_with (go_at_call 46;refine (qf3 _ 5 _ (.inr (.inl rfl))).mono ?_;rintro e w8 ⟨rfl,f8⟩);refine hX.out _ _ f8 ?_;clear hX X;refine qb0 5 rfl ?_;simp only[qag,qan,qac,qai,qaj,qam];repeat (go_big_quiet_step (fail))
          refine wpQuiet_nil ?_;refine qco ?_;have H8:=zhd f8;clear f8;go_wp2_with (go_at_call 46;refine (qf3 _ 30 _ (.inr (.inr rfl))).mono ?_;rintro e w9 ⟨rfl,f9⟩;have H9:=zhd f9;clear f9);go_roundg k3;case measure=>omega
          case rel=>
           refine⟨t+1,by go_num,by omega,?_,?_,?_,?_,?_,((HF.out.trans (Fr.drew1 [] wr)).trans H8.out).trans H9.out⟩;all_goals rw[HR3.out]
           all_goals (first|rfl|(simp only[add32,qe0,qe1,fsel,ksel,ch,par,maj,not32]))
        ·obtain rfl:t=80:=by omega
         obtain rfl:gk=0:=by omega
         have hbB:=HF.out.blk HBB.out (by simp);have hlt9:=lt_of_block HW2.out.1.wb.choose_spec.1;obtain⟨s,hs⟩:=zex (rounds p 80 h');rw[<-hs];obtain⟨ha,hb,hc,hd,he⟩:=h';have c0:∀x,(sup [] wr.drew x).cell? ⟨B,0,none⟩=some (.int .u32 ha):=λx=>(qcx [] wr.drew x).cell (show wr.drew.cell? _=_ from cell_of hbB 0) (by simp)
         have c1:∀x,(sup [] wr.drew x).cell? ⟨B,1,none⟩=some (.int .u32 hb):=λx=>(qcx [] wr.drew x).cell (show wr.drew.cell? _=_ from cell_of hbB 1) (by simp)
         have c2:∀x,(sup [] wr.drew x).cell? ⟨B,2,none⟩=some (.int .u32 hc):=λx=>(qcx [] wr.drew x).cell (show wr.drew.cell? _=_ from cell_of hbB 2) (by simp)
         have c3:∀x,(sup [] wr.drew x).cell? ⟨B,3,none⟩=some (.int .u32 hd):=λx=>(qcx [] wr.drew x).cell (show wr.drew.cell? _=_ from cell_of hbB 3) (by simp)
         have c4:∀x,(sup [] wr.drew x).cell? ⟨B,4,none⟩=some (.int .u32 he):=λx=>(qcx [] wr.drew x).cell (show wr.drew.cell? _=_ from cell_of hbB 4) (by simp)
         obtain⟨sa,sb,sc,sd,se⟩:=s;have HS:=zhd hs;clear hbB hs;go_upto_region 43 with fail;refine qb5 26 [(false,0),(false,1),(false,2),(false,3),(false,4),(false,5),(false,6),(false,7),(false,8),(false,9),(false,10),(false,11),(false,12),(false,13),(false,14),(false,15),(false,16),(false,17),(false,18),(false,19),(false,20),(false,21),(false,22),(false,23),(false,24),(true,25)] [] (by kernel_rfl) (by kernel_rfl) (λ_ _ d _ _ h=>by cases d<;>exact h) ?_;simp only[qaj,qam,qa8,qa9,qac,qai,qby];refine qb0 25 rfl ?_;simp only[qag,qan,qac,qai,qaj,qam];repeat (go_big_quiet_step (fail))
         refine wpQuiet_nil ?_;clear c0 c1 c2 c3 c4;refine qcg rfl ?_;intro X hX;go_wp2;refine hX.out _ _ ((Fr.refl _ wr.drew).alloc _) ?_;clear hX X;refine qco ?_;go_wp2;go_roundg (PB-at_-64);case measure=>omega
         case rel=>
          have f9:Fr [Q+1] w7 wr:=(HL.out.2.2.2.1.trans HW2.out.2).trans (HF.out.mono (by simp));have hp64:64≤p.length:=by rw[HPP.l1];omega
          have hb5:=HL.out.2.2.2.2.2.1;rw[<-HPP.o0,blocks,if_pos hp64]at hb5;have hmx:mixH ⟨ha,hb,hc,hd,he⟩ p=⟨add32 ha sa,add32 hb sb,add32 hc sc,add32 hd sd,add32 he se⟩:=by unfold mixH;rw[<-HS.out]
          refine⟨at_+64,wr.drew.heap.size,mixH ⟨ha,hb,hc,hd,he⟩ p,by go_num,rfl,by omega,h64,by omega,?_,?_,?_,(f9.trans (Fr.drew1 _ wr)).alloc _,qm8 _ _,?_⟩
          ·have:=HF.out.size;show wr.heap.size≠Q+1;omega
          ·rw[hmx];exact (qa3 wr.drew _).trans rfl
          ·obtain⟨A,g1,g2,_⟩:=(HW2.out.1.fr HF.out (by simp)).wb;exact⟨A,((Fr.drew1 [] wr).alloc _).blk g1 (by simp),g2,λj hj=>by omega⟩
          ·rw[<-List.drop_drop,<-HPP.o0,<-hb5];exact qf6 _ _ _ _ (by rw[qav,HPP.l1];omega) (by rw[qav,HPP.l1];have:=HL.out.2.2.2.2.2.2;omega)
    ·obtain rfl:at_=PB:=by omega
     have hnil:pd.drop at_=[]:=qd1 (by rw[<-HP.o3];exact qae _);have hbl:=HL.out.2.2.2.2.2.1;rw[hnil]at hbl;have hh:h'=RES:=by
      rw[<-hbl];cases gk with
      | zero=>rfl
      | succ k=>rw[blocks,if_neg (by decide)]
     obtain⟨r0,r1,r2,r3,r4⟩:=HL.out.2.2.2.2.1;obtain⟨ha,hb,hc,hd,he⟩:=h';simp only at r0 r1 r2 r3 r4;have hcs:Cs wr (some ⟨B,0,none⟩) ([ha.toNat,hb.toNat,hc.toNat,hd.toNat,he.toNat].map wv):=by
      refine .inr ⟨B,0,rfl,λj v hv=>?_⟩;rw[qbf,cell_of HL.out.2.1];have e:([ha.toNat,hb.toNat,hc.toNat,hd.toNat,he.toNat].map wv)=(H5.vals ⟨ha,hb,hc,hd,he⟩).toList:=by simp only[qaj,qam,wv,H5.vals];rw[qtj r0.1,qtj r1.1,qtj r2.1,qtj r3.1,qtj r4.1]
      rw[e,qb2]at hv;exact hv
     have hwd:=qnw (some ⟨B,0,none⟩) 5 [ha.toNat,hb.toNat,hc.toNat,hd.toNat,he.toNat] wr hcs (by intro v hv;simp only[qaz,qbv,or_false]at hv;rcases hv with rfl|rfl|rfl|rfl|rfl<;>omega) (by simp) (by simp) (by decide);have hfw:Fr [] w wr:=(HP.o0.trans H7.o0).step HL.out.2.2.2.1 (λy hy=>.inr (by simp at hy;have:=HP.o0.size;have:=H7.o3;omega));have hdg:be4s [ha.toNat,hb.toNat,hc.toNat,hd.toNat,he.toNat]=sha1 bs:=by rw[HP.l5,<-hh];simp[be4s,dig5]
     have HX:=zhd3 hwd hfw hdg;clear hwd hfw hdg hcs r0 r1 r2 r3 r4 hh hbl hnil;go_wp2_with (go_at_call 45;refine HX.o0.mono ?_;rintro e w9 ⟨a9,c9,rfl,r9,n9,f9⟩;have H9:=zhd3 r9 n9 f9;clear r9 n9 f9);go_ret;refine⟨⟨a9,c9,rfl,by rw[<-HX.l2];exact H9.out.1,λx hx=>⟨qao HX.o1.size (H9.out.2.1 x hx).1,(H9.out.2.1 x hx).2⟩⟩,HX.o1.trans H9.out.2.2⟩
end Go.Proofs.YtbabjlohkniciaaGreatDoor.sha
namespace Go.Proofs.YtbabjlohkniciaaGreatDoor.pk
open Go Go.RowKit lib bm
theorem qxq (ao:Option Addr) (cap:Nat) (bs:List UInt8) (w:World) (h:lib.Rd w ao cap bs) (hlen:bs.length≤10000000) :
  Calls Tryz.prog 18 #[.slice ao bs.length cap] w λe w'=>e = .returned (.string (str (hexb bs)))∧Fr [] w w':=by
 obtain⟨L,hL⟩:=zex bs.length;have hLb:L≤10000000:=by omega
 have HI:=zhd2 h hL;rw[<-hL];clear h hL hlen;go_enter Tryz.func18,Tryz.ntmps18;go_wp2;go_loopg [3,4] L (λk s3 s4 wr=>∃i a c out,s4 = .int .i64 (i:Nat)∧s3 = .slice a out.length c∧i+k=L∧Wr w wr a c out∧out=hexb (bs.take i));case atStart=>exact⟨0,none,0,[],rfl,rfl,by omega,qqz w w (Fr.refl _ _),rfl⟩
 case round=>
  obtain⟨i,a,c,out,rfl,rfl,hik,h,hout⟩:=hrel;have hol:out.length=2*i:=by rw[hout,hexb_length,qas,<-HI.l1];omega
  have H:=zhd3 h hout hol;have hob:out.length≤20000000:=by omega
  clear h hout hol;by_cases hi:i<L
  ·obtain⟨k,rfl⟩:∃k,gk=k+1:=⟨gk-1,by omega⟩;have hil:i<bs.length:=by rw[<-HI.l1];exact hi
   have hcs:=HI.o0.cs;have hlow:=λx hx=>hcs.lt (show bs.map bv≠[] by intro e;have:=congrArg List.length e;rw[qau]at this;simp at this;rw[this]at hil;simp at hil) x hx
   obtain⟨g,o,rfl,hc⟩:=(hcs.fr H.out.1.fr (by simp)).at (by rw[qau];omega);have hgw:g<w.heap.size:=hlow ⟨g,o,none⟩ rfl;have hci:=hc i (bv bs[i]) (by rw[qbl,qad hil];rfl);unfold bv at hci;have hx0:=qgz (bs[i].toNat/16) (by have:=qbh bs[i];omega);have hx1:=qgz (bs[i].toNat%16) (by omega);have e1:=and15u bs[i];have hb256:=qbh bs[i];have hcl:=ql8 bs[i];have HT:=zhd (show bs.take (i+1)=bs.take i++[bs[i]] from qbm hil);obtain⟨b,hb⟩:=zex (bs[i]);rw[<-hb]at hci hx0 hx1 e1 hb256 hcl HT;have HCL:=zhd hcl;clear hc hil hb hcl hcs hlow;obtain⟨S,hS⟩:=zex (blk a);have q0:∀x,(sup S wr.drew x).cell? ⟨g,o+i,none⟩=some (.int .u8 ((b.toNat:Nat):Int)):=λx=>(qcx S wr.drew x).cell ((Fr.drew1 [] wr).cell hci (by simp)) (λhm=>by rw[hS]at hm;have:=H.out.1.new g hm;omega)
   have HS:=zhd hS;clear hS hgw;have e0:((b.toNat:Nat):Int)/16=((b.toNat/16:Nat):Int):=by omega
   go_upto_region 5 with fail;generalize (hexd (b.toNat/16)).toNat=h0 at *;generalize (hexd (b.toNat%16)).toNat=h1 at *;generalize b.toNat%16=b1 at *;generalize b.toNat/16=b0 at *;clear hci;refine qb5 15 [(false,0),(false,1),(false,2),(false,3),(false,4),(false,5),(false,6),(false,7),(false,8),(false,9),(false,10),(false,11),(false,12),(true,13),(true,14)] S (by kernel_rfl) (by kernel_rfl) (λ_ _ d _ _ h=>by cases d<;>exact h) ?_;simp only[qaj,qam,qa8,qa9,qac,qai,qby];refine qb0 13 rfl ?_;simp only[qag,qan,qac,qai,qaj,qam];repeat (go_big_quiet_step (fail))
   refine wpQuiet_nil ?_;clear e0 e1 hx0 hx1 q0;refine qcg rfl ?_;intro X hX;go_wp2;refine hX.out _ _ ((Fr.refl _ wr.drew).alloc _) ?_;clear hX X;have fr0:Fr [] wr (wr.drew.alloc (.cells #[.int .u8 h0,.int .u8 h1] 5)):=(Fr.drew1 [] wr).alloc _;have ownA:=qbb H.out.1.own fr0 (by simp);have cA:Cs (wr.drew.alloc (.cells #[.int .u8 h0,.int .u8 h1] 5)) (some ⟨wr.drew.heap.size,0,none⟩) ((hex2 b).map bv):=by rw[HCL.out];exact .inr ⟨wr.drew.heap.size,0,rfl,λj u hj=>by rw[cell_of (qa3 wr.drew _)];simpa using hj⟩
   refine qcg rfl ?_;intro X hX;refine qfs sliceU8 _ _ rfl (.slice a out.length c) out.length (out.map bv) S rfl (by rw[qbw,HS.out]) ownA (some ⟨wr.drew.heap.size,0,none⟩) 2 2 ((hex2 b).map bv) rfl (by decide) (by simp) cA (by rfl) (qeb _) (by omega) (by unfold maxLen;omega) ?_;intro a2 c2 w2 A1;refine hX.out _ _ A1.fr ?_;clear hX X;refine qco ?_;have HA:=zhd2 fr0 A1;clear fr0 A1 ownA cA;go_wp2;go_roundg k;case measure=>omega
   case rel=>have A1:=HA.l1;rw[HS.out]at A1;exact⟨i+1,a2,c2,out++hex2 b,by go_num,by rw[qaa];rfl,by omega,H.out.1.step2 HA.o0 A1,by rw[HT.out,qot,<-H.out.2.1]⟩
  ·obtain rfl:i=L:=by omega
   obtain⟨r1,_⟩:=qgu H.out.1.own;have cv:=qff wr Tryz.underlying22 Tryz.underlying5 Tryz.underlying9 (rfl:out.length=out.length) r1.cs;have HO:=zhd (show out=hexb bs by rw[H.out.2.1,HI.l1,List.take_length]);clear r1;go_wp2;go_ret;exact⟨by rw[<-HO.out];rfl,H.out.1.fr⟩
end Go.Proofs.YtbabjlohkniciaaGreatDoor.pk
namespace Go.Proofs.YtbabjlohkniciaaGreatDoor.obj
open Go Go.RowKit lib
theorem qpr (k:Int) (bs:List UInt8) (w:World) (hl:bs.length≤140737488354900) :
  Calls Tryz.prog 7 #[.int .i64 k,.string (str bs)] w λe w'=>e = .returned (.string (str (pk.oid k bs)))∧Fr [] w w':=by
 obtain⟨L,hL⟩:=zex bs.length;have hsz:(str bs).size=L:=by rw[hL];simp[str,ByteArray.size]
 obtain⟨hd,hhd⟩:=zex (header k L);have hdl:hd.length≤24:=by rw[hhd];exact qe3 k L (by omega)
 have hres:pk.oid k bs=pk.hexb (sha.sha1 (hd++bs)):=by rw[hhd,hL];rfl
 rw[hres];have hh:=λw'=>qps k L w' (by omega)
 rw[<-hhd]at hh;have hcat:str hd++str bs=str (hd++bs):=(qct hd bs);have hsh:=λw'=>sha.qxp (hd++bs) w' (by rw[qaa];omega)
 rw[<-hcat]at hsh;have hhs:(str hd).size≤24:=by simpa[str,ByteArray.size] using hdl
 obtain⟨A,hA⟩:=zex (str hd);obtain⟨B,hB⟩:=zex (str bs);rw[<-hA,<-hB]at hsh;rw[<-hA]at hh hhs;rw[<-hB]at hsz ⊢;rw[<-hL]at hl;have H:=zhd2 hh hsh;clear hh hsh hcat hA hB hhd hres hL;go_enter Tryz.func7,Tryz.ntmps7;go_wp2_with (first
  | (go_at_call 20;refine (H.o0 _).mono ?_;rintro e w1 ⟨rfl,f1⟩;have H1:=zhd f1;clear f1)
  | (go_at_call 19;refine (H.l1 _).mono ?_;rintro e w2 ⟨⟨a2,c2,rfl,r2,n2⟩,f2⟩;have H2:=zhd2 r2 (H1.out.trans f2);clear r2 n2 f2)
  | (go_at_call 18;refine (pk.qxq a2 c2 _ w2 H2.o0 (by rw[sha.qhd];decide)).mono ?_;rintro e w3 ⟨rfl,f3⟩;have H3:=zhd f3;clear f3))
 go_ret;exact⟨rfl,H2.l1.trans H3.out⟩
end Go.Proofs.YtbabjlohkniciaaGreatDoor.obj
namespace Go.Proofs.YtbabjlohkniciaaGreatDoor.lo
open Go Go.RowKit lib bm crc pk
theorem qzi (a:Nat) (ha:a<256):(BitVec.ofInt 8 (a:Int)).toNat=a:=by rw[BitVec.ofInt_natCast,BitVec.toNat_ofNat];exact qph (by omega)
theorem za8 (a b:Nat) (ha:a<256) (hb:b<256):bits .xor .u8 (a:Int) (b:Int)=((a ^^^ b:Nat):Int):=by have hx:a ^^^ b<256:=Nat.xor_lt_two_pow (n:=8) ha hb;show IntKind.u8.wrap ((BitVec.ofInt 8 (a:Int) ^^^ BitVec.ofInt 8 (b:Int)).toNat:Int)=_;rw[BitVec.toNat_xor,qzi a ha,qzi b hb];unfold IntKind.wrap;simp only[IntKind.signed,IntKind.bits,Bool.false_and,qw0,if_false,show (2:Int)^8=256 from rfl];omega
set_option maxRecDepth 100000
theorem qw6 (ka kb:Int) (aa ba:Option Addr) (ca cb:Nat) (A B:List UInt8) (at_:Int) (y:Nat) (m:Int) (w:World) (hA:lib.Rd w aa ca A) (hB:lib.Rd w ba cb B) (hAl:A.length≤140737488355328) (hBl:B.length≤140737488355328) (hy:y<256) (hpw:obj.Pw w) (hm:w.cell? ⟨0,0,none⟩=some (.int .i64 m)) :
  Calls Tryz.prog 3 #[.agg #[.int .i64 ka,.slice aa A.length ca],.agg #[.int .i64 kb,.slice ba B.length cb],.int .i64 at_,.int .u8 y] w λe w'=>e = .returned (.bool true)∧Fr [] w w':=by
 obtain⟨LA,hLA⟩:=zex A.length;obtain⟨LB,hLB⟩:=zex B.length;rw[<-hLA]at hAl ⊢;rw[<-hLB]at hBl ⊢;obtain⟨X,hX⟩:=zex w.heap.size;obtain⟨wa,hwa⟩:=zex (w.alloc (.cells #[.int .i64 ka,.slice aa LA ca] 24));obtain⟨Y,hY⟩:=zex wa.heap.size;obtain⟨w0,hw0⟩:=zex (wa.alloc (.cells #[.int .i64 kb,.slice ba LB cb] 24));have fa:Fr [] w wa:=by rw[hwa];exact (Fr.refl [] w).alloc _
 have fb:Fr [] wa w0:=by rw[hw0];exact (Fr.refl [] wa).alloc _
 have bA:wa.heap[X]?=some (.cells #[.int .i64 ka,.slice aa LA ca] 24 (0,0)):=by rw[hwa,hX];exact qa3 w _
 have bB:w0.heap[Y]?=some (.cells #[.int .i64 kb,.slice ba LB cb] 24 (0,0)):=by rw[hw0,hY];exact qa3 wa _
 have bA0:=fb.blk bA (by simp);have f0:=fa.trans fb;have H:=zhd7 (hA.fr f0) (hB.fr f0) (hpw.fr f0) (f0.cell hm (by simp)) bA0 bB f0;have HL:=zhd2 hLA hLB;have HW:=zhd4 hX hwa hY hw0;have hYs:wa.heap.size=w.heap.size+1:=by rw[hwa];exact qa1 _ _
 have HYs:=zhd hYs;clear hA hB hpw hm hLA hLB hX hwa hY hw0 fa fb bA bB bA0 f0 hYs;go_enter Tryz.func3,Tryz.ntmps3;go_upto_region 1 with fail;rw[<-HW.o1,<-HW.l3];rw[show w.heap.size+1=Y from (HW.o2.trans HYs.out).symm,<-HW.o0];go_upto_region 2 with (go_at_call 5;refine (fs.qm5 w0).mono ?_;rintro e w1 ⟨F,lab,rfl,h1,hlab,f1⟩;have H1:=zhd3 h1 hlab f1;clear h1 hlab f1);have bA1:=H1.l2.blk H.o4 (by simp);have bB1:=H1.l2.blk H.o5 (by simp);have a0:w1.cell? ⟨X,0,none⟩=some (.int .i64 ka):=by rw[cell_of bA1];rfl
 have a1:w1.cell? ⟨X,1,none⟩=some (.slice aa LA ca):=by rw[cell_of bA1];rfl
 have b0:w1.cell? ⟨Y,0,none⟩=some (.int .i64 kb):=by rw[cell_of bB1];rfl
 have b1:w1.cell? ⟨Y,1,none⟩=some (.slice ba LB cb):=by rw[cell_of bB1];rfl
 have HA:=zhd (λw' (f:Fr [] w1 w')=>qld m w' (H.o2.fr (H1.l2.trans f)) ((H1.l2.trans f).cell H.o3 (by simp)));have HB:=zhd2 bA1 bB1;clear bA1 bB1;by_cases g1:5000<LA+LB
 ·have d1:decide ((5000:Int)<(LA:Int)+(LB:Int))=true:=by simp;omega
  go_wp2_with (go_at_call 6;refine (HA.out _ (Fr.refl _ _)).mono ?_;rintro e w9 ⟨rfl,f9⟩;have H9:=zhd f9;clear f9);go_ret;exact⟨rfl,H.l6.trans (H1.l2.trans H9.out)⟩
 have d1:decide ((5000:Int)<(LA:Int)+(LB:Int))=false:=by simp;omega
 by_cases g2:ka<1
 ·have d2:decide (ka<1)=true:=by simp;omega
  go_wp2_with (go_at_call 6;refine (HA.out _ (Fr.refl _ _)).mono ?_;rintro e w9 ⟨rfl,f9⟩;have H9:=zhd f9;clear f9);go_ret;exact⟨rfl,H.l6.trans (H1.l2.trans H9.out)⟩
 have d2:decide (ka<1)=false:=by simp;omega
 by_cases g3:4<ka
 ·have d3:decide (4<ka)=true:=by simp;omega
  go_wp2_with (go_at_call 6;refine (HA.out _ (Fr.refl _ _)).mono ?_;rintro e w9 ⟨rfl,f9⟩;have H9:=zhd f9;clear f9);go_ret;exact⟨rfl,H.l6.trans (H1.l2.trans H9.out)⟩
 have d3:decide (4<ka)=false:=by simp;omega
 by_cases g4:kb<1
 ·have d4:decide (kb<1)=true:=by simp;omega
  go_wp2_with (go_at_call 6;refine (HA.out _ (Fr.refl _ _)).mono ?_;rintro e w9 ⟨rfl,f9⟩;have H9:=zhd f9;clear f9);go_ret;exact⟨rfl,H.l6.trans (H1.l2.trans H9.out)⟩
 have d4:decide (kb<1)=false:=by simp;omega
 by_cases g5:4<kb
 ·have d5:decide (4<kb)=true:=by simp;omega
  go_wp2_with (go_at_call 6;refine (HA.out _ (Fr.refl _ _)).mono ?_;rintro e w9 ⟨rfl,f9⟩;have H9:=zhd f9;clear f9);go_ret;exact⟨rfl,H.l6.trans (H1.l2.trans H9.out)⟩
 have d5:decide (4<kb)=false:=by simp;omega
 go_upto_region 4 with fail;obtain⟨k,rfl⟩:∃k:Nat,ka=(k:Nat):=⟨ka.toNat,by omega⟩;obtain⟨j,rfl⟩:∃j:Nat,kb=(j:Nat):=⟨kb.toNat,by omega⟩;have hk:1≤k∧k≤4:=by omega
 have hj:1≤j∧j≤4:=by omega
 clear d1 d2 d3 d4 d5 g2 g3 g4 g5 hAl hBl;have hLA:LA≤5000:=by omega
 have hLB:LB≤5000:=by omega
 clear g1;obtain⟨ia,hia⟩:∃ia,ia=oid (k:Nat) A:=⟨_,rfl⟩;obtain⟨ib,hib⟩:∃ib,ib=oid (j:Nat) B:=⟨_,rfl⟩;have hrA:∀w',Calls Tryz.prog 7 #[.int .i64 k,.string (str A)] w' λe w''=>e = .returned (.string (str ia))∧Fr [] w' w'':=λw'=>by rw[hia];exact obj.qpr (k:Nat) A w' (by rw[<-HL.o0];omega)
 have hrB:∀w',Calls Tryz.prog 7 #[.int .i64 j,.string (str B)] w' λe w''=>e = .returned (.string (str ib))∧Fr [] w' w'':=λw'=>by rw[hib];exact obj.qpr (j:Nat) B w' (by rw[<-HL.l1];omega)
 obtain⟨sA,hsA⟩:=zex (str A);obtain⟨sB,hsB⟩:=zex (str B);have cvA:∀x cap,(convert 22 9 (.slice aa LA cap)).run Tryz.prog (sup [] w1.drew x) = .ok (.string sA) (sup [] w1.drew x):=by rw[hsA];exact qfe [] w1.drew Tryz.underlying22 Tryz.underlying5 Tryz.underlying9 HL.o0.symm (H.o0.fr (H1.l2.trans (Fr.drew1 [] w1))).cs (by simp)
 have cvB:∀x cap,(convert 22 9 (.slice ba LB cap)).run Tryz.prog (sup [] w1.drew x) = .ok (.string sB) (sup [] w1.drew x):=by rw[hsB];exact qfe [] w1.drew Tryz.underlying22 Tryz.underlying5 Tryz.underlying9 HL.l1.symm (H.o1.fr (H1.l2.trans (Fr.drew1 [] w1))).cs (by simp)
 rw[<-hsA]at hrA;rw[<-hsB]at hrB;have HC:=zhd4 hrA hrB hia hib;clear hrA hrB hia hib hsA hsB;have a0:=λx=>(qcx [] w1.drew x).cell ((Fr.drew1 [] w1).cell a0 (by simp)) (by simp)
 have a1:=λx=>(qcx [] w1.drew x).cell ((Fr.drew1 [] w1).cell a1 (by simp)) (by simp)
 have b0:=λx=>(qcx [] w1.drew x).cell ((Fr.drew1 [] w1).cell b0 (by simp)) (by simp)
 have b1:=λx=>(qcx [] w1.drew x).cell ((Fr.drew1 [] w1).cell b1 (by simp)) (by simp)
 refine qb5 14 [(false,0),(false,1),(false,2),(false,3),(false,4),(false,6),(false,7),(false,8),(false,9),(false,10),(true,5),(true,11),(false,12),(false,13)] [] (by kernel_rfl) (by kernel_rfl) (λ_ _ d _ _ h=>by cases d<;>exact h) ?_;simp only[qaj,qam,qa8,qa9,qac,qai,qby];refine qb0 10 rfl ?_;simp only[qag,qan,qac,qai,qaj,qam];repeat (go_big_quiet_step (fail))
 refine wpQuiet_nil ?_;clear a0 a1 b0 b1 cvA cvB;refine qcg rfl ?_;intro XX hXX;go_wp2_with (go_at_call 7;refine (HC.o0 _).mono ?_;rintro e w2 ⟨rfl,f2⟩);refine hXX.out _ _ f2 ?_;clear hXX XX;have H2:=zhd ((Fr.drew1 [] w1).trans f2);clear f2;refine qcg rfl ?_;intro XX hXX;go_wp2_with (go_at_call 7;refine (HC.o1 _).mono ?_;rintro e w3 ⟨rfl,f3⟩);refine hXX.out _ _ f3 ?_;clear hXX XX;have H3:=zhd (H2.out.trans f3);clear f3;refine qb0 2 rfl ?_;simp only[qag,qan,qac,qai,qaj,qam];repeat (go_big_quiet_step (fail))
 refine wpQuiet_nil ?_;refine qco ?_;by_cases heq:ia=ib
 ·subst heq;have hzz:((str ia).toList==(str ia).toList)=true:=beq_self_eq_true _;go_wp2_with (go_at_call 6;refine (HA.out _ H3.out).mono ?_;rintro e w9 ⟨rfl,f9⟩;have H9:=zhd f9;clear f9);go_ret;exact⟨rfl,H.l6.trans ((H1.l2.trans H3.out).trans H9.out)⟩
 have hzz:((str ia).toList==(str ib).toList)=false:=by rw[str_toList,str_toList];exact beq_eq_false_iff_ne.2 heq
 have HE:=zhd heq;clear heq;have f03:=H1.l2.trans H3.out;have bA3:=f03.blk H.o4 (by simp);have a0:w3.cell? ⟨X,0,none⟩=some (.int .i64 k):=by rw[cell_of bA3];rfl
 have a1:w3.cell? ⟨X,1,none⟩=some (.slice aa LA ca):=by rw[cell_of bA3];rfl
 have hfi:=qr0 (k:Nat) aa ca A w3 (H.o0.fr f03) (by rw[<-HL.o0];omega) (H.o2.fr f03);rw[<-HL.o0]at hfi;have HF:=zhd hfi;clear hfi bA3 f03;go_upto_region 8 with (go_at_call 8;refine HF.out.mono ?_;rintro e w4 ⟨r,hr,a4,rfl,o4,n4,f4⟩;have H4:=zhd4 hr o4 n4 f4;clear hr o4 n4 f4);obtain⟨fb,hfb⟩:∃fb,fb=defl.zlibOf 2 r (obj.header (k:Nat) A.length++A):=⟨_,rfl⟩;have hlen:=qrz (k:=k) (body:=A) (by rw[<-HL.o0];omega) H4.o0;rw[<-hfb,<-HL.o0]at hlen;have hW4:WS w0 F 0 0 (λ_=>none) a4 fb w4 lab:=by
  have f14:=H3.out.trans H4.l3;refine⟨H1.o0.fr f14 (by simp),H1.l2.trans f14,H1.o1,by rw[hfb];exact H4.o1,λx hx=>?_⟩;cases hlx:lab x with
  | none=>rfl
  | some l=>have h1:=H1.o0.low x (by rw[hlx];exact qbo _);have h2:=(H4.o2 x hx).1;have h3:=H3.out.size;omega
 have hhi:∀x∈blk a4,w0.heap.size≤x:=λx hx=>by have h2:=(H4.o2 x hx).1;have h3:=H3.out.size;have h4:=H1.l2.size;omega
 have hW1:WS w0 F 0 0 (λ_=>none) a4 fb w4 lab∧True:=⟨hW4,trivial⟩;have ha:hashB ia=true:=by rw[HC.o2];exact qjo _ _
 have hb:hashB ib=true:=by rw[HC.l3];exact qjo _ _
 have hpa:=λw'=>qgv ia w' (by rw[qdm ha];decide)
 have hpb:=λw'=>qgv ib w' (by rw[qdm hb];decide)
 have hne:pathL ia≠pathL ib:=λe=>HE.out (qx0 ha hb e)
 have HP:=zhd5 hpa hpb hne (qkn ha) (qkn hb);have HH:=zhd2 ha hb;rw[<-hfb];have HFB:=zhd3 hfb hW4 hhi;clear hpa hpb hne ha hb hW4 hW1 hhi hfb a0 a1;obtain⟨L,hL⟩:=zex fb.length;rw[<-hL]at hlen ⊢;obtain⟨hlen,hL0⟩:=hlen;have HLL:=zhd hL;clear hL;have hcr:=λw' (f:Fr [] w4 w')=>qnt (HFB.out.2.1.step f) (pathL ib) HP.l4 rfl (by decide)
 have hap:=λw' lab' (h:WS w0 F 1 0 (fs.upd (λ_=>none) (pathL ib) (some [])) a4 fb w' lab')=>qnu h (pathL ib) HP.l4 [] (by unfold fs.upd;rw[if_pos rfl]) 40000 (by decide) (by rw[<-HLL.out];show 0+L≤_;omega) (by decide)
 rw[<-HLL.out]at hap;obtain⟨pb,hpb⟩:=zex (str (pathL ib));have hp1:=HP.o1;rw[<-hpb]at hcr hap hp1;have H5:=zhd3 hcr hap hp1;clear hcr hap hp1 hpb;go_upto_region 10 with (first
  | (guard_hyp H6;go_at_call 10;refine (H5.l2 _).mono ?_;rintro e w7 ⟨rfl,f7⟩;have H7:=zhd (H6.out.step f7);clear f7)
  | (go_at_call 10;refine (H5.l2 _).mono ?_;rintro e w5 ⟨rfl,f5⟩;have HQ:=zhd f5;clear f5)
  | (go_at_call 9;refine (H5.o0 _ HQ.out).mono ?_;rintro e w6 ⟨rfl,lab6,h6⟩;have H6:=zhd h6;clear h6)
  | (go_at_call 11;refine (H5.o1 _ _ H7.out).mono ?_;rintro e w8 ⟨rfl,lab8,h8⟩;have H8:=zhd h8;clear h8))
 obtain⟨T1,hT1⟩:=zex (fs.upd (fs.upd (λ_=>none) (pathL ib) (some [])) (pathL ib) (some ([]++fb)));have hW8:=H8.out;rw[<-hT1]at hW8;have hT1b:T1 (pathL ib)=some fb:=by rw[hT1];unfold fs.upd;rw[if_pos rfl];rfl
 have hT1a:T1 (pathL ia)=none:=by rw[hT1];unfold fs.upd;rw[if_neg HP.o2,if_neg HP.o2]
 have hl1:=ql2 (t:=T1) HH.l1 hk (body:=A) (by rw[<-HL.o0];omega) H4.o0 (by rw[hT1b,HFB.out.1]);rw[if_neg (by rw[<-HC.o2];exact HE.out)]at hl1;have hrd:=qet F 1 40000 T1 lab8 ib w8 hW8.fs (by rw[qdm HH.l1];decide) (H.o2.fr hW8.fr);rw[hl1]at hrd;unfold ParseP at hrd;have H9:=zhd3 hrd hW8 hT1a;clear hrd hl1 hT1b hT1a hT1 hW8;have g0:((L:Int)==0)=false:=by simp only[beq_eq_false_iff_ne];omega
 have gp:decide ((0:Int)<(L:Int))=true:=by simp;omega
 go_upto_region 13 with (go_at_call 12;refine H9.out.1.mono ?_;rintro e w9 ⟨a9,rfl,_,_,f9⟩;have H10:=zhd (H9.out.2.1.step f9);clear f9);obtain⟨K,hK⟩:∃K:Nat,K=((at_.tmod (L:Int)+L)%L).toNat:=⟨_,rfl⟩;have hKL:(at_.tmod (L:Int)+L)%L=(K:Int)∧K<L∧-(L:Int)<at_.tmod (L:Int)∧at_.tmod (L:Int)<L:=by have k1:=Int.lt_tmod_of_pos at_ (show (0:Int)<L by omega);have k2:=Int.tmod_lt_of_pos at_ (show (0:Int)<L by omega);have k3:=Int.emod_nonneg (at_.tmod (L:Int)+L) (show (L:Int)≠0 by omega);have k4:=Int.emod_lt_of_pos (at_.tmod (L:Int)+L) (show (0:Int)<L by omega);omega
 obtain⟨e1,hKl,e2,e3⟩:=hKL;clear hK;obtain⟨g,o,b,rfl,hbK,b0,z0,hput⟩:=H10.out.put HFB.out.2.2 K (by rw[<-HLL.out];exact hKl);have hb8:=b.toNat_lt;unfold bv at b0;obtain⟨bn,hbn⟩:∃bn:Nat,bn=b.toNat:=⟨_,rfl⟩;rw[<-hbn]at b0 hb8;have hx:bn ^^^ y<256:=Nat.xor_lt_two_pow (n:=8) hb8 hy;have ex:=za8 bn y hb8 hy;obtain⟨Z,hZ⟩:=zex (bn ^^^ y);rw[<-hZ]at ex hx;have hput:=hput (UInt8.ofNat Z);rw[show bv (UInt8.ofNat Z) = .int .u8 Z by unfold bv;rw[qlm (by omega)]]at hput;have HB2:=zhd4 hbK hbn hZ hput;clear hbK hbn hZ hput;go_upto_region 14 with fail;clear b0 z0 ex e1 e2 e3 g0 gp hput;obtain⟨w10,hw10⟩:∃w10,w10=w9.setCell ⟨g,o+K,none⟩ (.int .u8 (Z:Nat)):=⟨_,rfl⟩;rw[<-hw10];have hW10:=HB2.l3;rw[<-hw10]at hW10;obtain⟨fc,hfc⟩:=zex (fb.set K (UInt8.ofNat Z));rw[<-hfc]at hW10;have hfl:fc.length=L:=by rw[hfc,qje,HLL.out]
 have hcr:=λw' (f:Fr [] w10 w')=>qnt (hW10.step f) (pathL ia) HP.o3 H9.out.2.2 (by decide)
 have hap:=λw' lab' (h:WS w0 F 2 40000 (fs.upd T1 (pathL ia) (some [])) (some ⟨g,o,none⟩) fc w' lab')=>qnu h (pathL ia) HP.o3 [] (by unfold fs.upd;rw[if_pos rfl]) 40000 (by decide) (by rw[hfl];show 0+L≤_;omega) (by decide)
 rw[hfl]at hap;obtain⟨pa,hpa⟩:=zex (str (pathL ia));have hp1:=HP.o0;rw[<-hpa]at hcr hap hp1;have HX:=zhd4 hcr hap hp1 hfc;clear hcr hap hp1 hpa hw10 hW10 hfc hfl;go_upto_region 16 with (first
  | (guard_hyp H12;go_at_call 10;refine (HX.o2 _).mono ?_;rintro e w13 ⟨rfl,f13⟩;have H13:=zhd (H12.out.step f13);clear f13)
  | (go_at_call 10;refine (HX.o2 _).mono ?_;rintro e w11 ⟨rfl,f11⟩;have H11:=zhd f11;clear f11)
  | (go_at_call 9;refine (HX.o0 _ H11.out).mono ?_;rintro e w12 ⟨rfl,lab12,h12⟩;have H12:=zhd h12;clear h12)
  | (go_at_call 11;refine (HX.o1 _ _ H13.out).mono ?_;rintro e w14 ⟨rfl,lab14,h14⟩;have H14:=zhd h14;clear h14))
 obtain⟨T2,hT2⟩:=zex (fs.upd (fs.upd T1 (pathL ia) (some [])) (pathL ia) (some ([]++fc)));have hW14:=H14.out;rw[<-hT2]at hW14;have hT2a:T2 (pathL ia)=some fc:=by rw[hT2];unfold fs.upd;rw[if_pos rfl];rfl
 have hrd:=qet F 2 40000 T2 lab14 ia w14 hW14.fs (by rw[qdm HH.o0];decide) (H.o2.fr hW14.fr);obtain⟨⟨q,body,c⟩,hR⟩:∃R,R=lread T2 ia:=⟨_,rfl⟩;rw[<-hR]at hrd;unfold ParseP at hrd;simp only at hrd;have hok:=qyc (t:=T2) (id:=ia);have hbad:=quz (t:=T2) (id:=ia);rw[<-hR]at hok hbad;simp only at hok hbad;have hy0:c≠0→y≠0:=λhc hy0=>by
  have hfe:fc=fb:=by
   rw[HX.l3,HB2.o2,hy0,Nat.xor_zero,HB2.o1,UInt8.ofNat_toNat];apply qex;intro i;rw[List.getElem?_set];by_cases hi:K=i
   ·subst hi;rw[if_pos rfl,if_pos (by rw[<-HLL.out];exact hKl),HB2.o0]
   ·rw[if_neg hi]
  have hl2:=ql2 (t:=T2) HH.o0 hk (body:=A) (by rw[<-HL.o0];omega) H4.o0 (by rw[hT2a,hfe,HFB.out.1]);rw[if_pos HC.o2.symm,<-hR]at hl2;exact hc (by have:=congrArg (λr=>r.2.2) hl2;exact this)
 have H15:=zhd5 hrd hW14 hok hbad hy0;clear hrd hW14 hok hbad hy0 hR hT2 hT2a;obtain⟨N,hN⟩:=zex body.length;have hrd:=H15.out.1;rw[<-hN]at hrd;have HR:=zhd2 hrd hN;clear hrd hN;by_cases hc:c=0
 ·subst hc;obtain⟨hid,hbl⟩:=H15.out.2.2.1 rfl;have hri:∀w',Calls Tryz.prog 7 #[.int .i64 q,.string (str body)] w' λe w''=>e = .returned (.string (str ia))∧Fr [] w' w'':=λw'=>by rw[<-hid];exact obj.qpr (q:Nat) body w' (by omega)
  have HI:=zhd hri;clear hri hid hbl;go_upto_region 18 with (go_at_call 12;refine HR.o0.mono ?_;rintro e w15 ⟨a15,rfl,r15,_,f15⟩;have H16:=zhd2 (H15.out.2.1.step f15) r15;clear f15 r15);have cv:∀cap,(convert 22 9 (.slice a15 N cap)).run Tryz.prog w15 = .ok (.string (str body)) w15:=qff w15 Tryz.underlying22 Tryz.underlying5 Tryz.underlying9 HR.l1.symm H16.out.2.cs;obtain⟨z,hz⟩:=zex (str body);obtain⟨v,hv⟩:=zex (str ia);rw[<-hz]at cv;have hri:=HI.out;rw[<-hz,<-hv]at hri;rw[<-hv];have HJ:=zhd hri;have hvv:(v.toList==v.toList)=true:=beq_self_eq_true _;clear hri hz hv hzz;go_wp2_with (first
   | (go_at_call 7;refine (HJ.out _).mono ?_;rintro e w16 ⟨rfl,f16⟩;have H17:=zhd (H16.out.1.fr.trans f16);clear f16)
   | (go_at_call 6;refine (qld m _ (H.o2.fr H17.out) (H17.out.cell H.o3 (by simp))).mono ?_;rintro e w17 ⟨rfl,f17⟩;have H18:=zhd f17;clear f17))
  go_ret;exact⟨rfl,H.l6.trans (H17.out.trans H18.out)⟩
 ·have hb0:=H15.out.2.2.2.1 hc;have hN0:N=0:=by rw[HR.l1,hb0];rfl
  have hy0:=H15.out.2.2.2.2 hc;have g1:((c:Int)==0)=false:=by simp only[beq_eq_false_iff_ne];omega
  have g2:((y:Int)==0)=false:=by simp only[beq_eq_false_iff_ne];omega
  have g3:((y:Int)!=0)=true:=by rw[bne,g2];rfl
  have hrd:=HR.o0;rw[hN0]at hrd;have HI:=zhd hrd;clear hrd hb0 hN0;go_wp2_with (first
   | (go_at_call 12;refine HI.out.mono ?_;rintro e w15 ⟨a15,rfl,_,_,f15⟩;have H16:=zhd (H15.out.2.1.step f15);clear f15)
   | (go_at_call 6;refine (qld m _ (H.o2.fr H16.out.fr) (H16.out.fr.cell H.o3 (by simp))).mono ?_;rintro e w17 ⟨rfl,f17⟩;have H18:=zhd f17;clear f17))
  go_ret;exact⟨rfl,H.l6.trans (H16.out.fr.trans H18.out)⟩
end Go.Proofs.YtbabjlohkniciaaGreatDoor.lo
