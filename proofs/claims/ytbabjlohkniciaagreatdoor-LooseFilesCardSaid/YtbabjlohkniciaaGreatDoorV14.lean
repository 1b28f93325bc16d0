/-
  Texts of this proof, one behind the other: InfE, InfF, InfG, InfH, InfI.
-/
import Derived.Test.YtbabjlohkniciaaGreatDoorV13
import Derived.Laws.Rows
set_option maxHeartbeats 16000000
set_option maxRecDepth 100000
set_option linter.unusedVariables false
set_option linter.unusedSimpArgs false
namespace Go.Proofs.YtbabjlohkniciaaGreatDoor.inf
open Go Go.RowKit lib bm bl huf
theorem qsv {w:World} {B:Nat} {e:TypeId} {ao:Option Addr} {vs:List Value} (h:Fresh w B e ao vs) (h0:0<vs.length):∃g,ao=some ⟨g,0,none⟩∧B≤g∧∀j v,vs[j]?=some v→w.cell? ⟨g,j,none⟩=some v:=by
 rcases h with h|⟨g,cur,rfl,hB,hg,ht⟩
 ·rw[h]at h0;simp at h0
 ·refine⟨g,rfl,hB,λj v hv=>?_⟩;rw[cell_of hg];rw[<-ht,qbl]at hv;split at hv
  ·simpa using hv
  ·cases hv
theorem zdi (x y:Nat) (hx:x<256) (hy:y<256):bits .or .i64 (x:Int) ((y:Int)*256)=((x+256*y:Nat):Int):=by have h1:=qmh x y 8 (by simpa using hx);rw[show (y:Int)*256=((y*256:Nat):Int) by omega,qmn x (y*256) (by omega) (by omega),show y*256=y*2^8 from rfl,h1]
theorem qu2 (x:Nat) (h:x<256):bits .xor .u8 (if IntKind.u8.signed=true then -1 else IntKind.u8.max) ((x:Nat):Int)=((255-x:Nat):Int):=by
 have hall:∀y:Fin 256,bits .xor .u8 (if IntKind.u8.signed=true then -1 else IntKind.u8.max) ((y.val:Nat):Int)=((255-y.val:Nat):Int):=by decide +kernel
 exact hall ⟨x,h⟩
theorem qcf (bs:List UInt8) (i:Nat):byteAt bs i<256:=qbo _
theorem qpn {bs:List UInt8} {q n j:Nat} (hj:j<n) (hq:q+j<bs.length):(((bs.drop q).take n).map bv)[j]?=some (.int .u8 (byteAt bs (q+j):Nat)):=by rw[qbx,qbl,if_pos hj,qjp,qaf hq];simp[bv,byteAt,hq]
theorem qte (R p:Nat) (F:List Nat) (bs out:List UInt8) (at_ oc most:Nat) (oa:Option Addr) (w:World) (h:St w R p F bs at_ out oa oc most) :
  Calls Tryz.prog 143 #[.pointer (some ⟨R,0,none⟩)] w (Ret w R p F bs oa most (istored bs most out at_)):=by
 obtain⟨M,hM⟩:=zex (istored bs most out at_);rw[<-hM];have c0:=cell_of h.box 0;simp only[qae,qaa,qad]at c0;obtain⟨q,hq⟩:=zex ((at_+7)/8);by_cases hl:q+4≤bs.length
 ·have hb4:Calls Tryz.prog 177 #[.pointer (some ⟨p,0,none⟩),.int .i64 4] w (bits.BytesGood p F bs at_ 4 w):=bits.qmy p F bs at_ 4 w h.rd (by omega) (by omega);have hM2:M=if byteAt bs q+byteAt bs (q+2)=255∧byteAt bs (q+1)+byteAt bs (q+3)=255 then ibytes bs most (byteAt bs q+256*byteAt bs (q+1)) out (q+4) else .error 3:=by rw[hM];unfold istored;rw[<-hq,if_pos hl]
  have e0:(((bs.drop q).take 4).map bv).length=4:=by simp;omega
  obtain⟨x0,hx0⟩:∃x,x=byteAt bs q:=⟨_,rfl⟩;obtain⟨x1,hx1⟩:∃x,x=byteAt bs (q+1):=⟨_,rfl⟩;obtain⟨x2,hx2⟩:∃x,x=byteAt bs (q+2):=⟨_,rfl⟩;obtain⟨x3,hx3⟩:∃x,x=byteAt bs (q+3):=⟨_,rfl⟩;have g0:=qpn (bs:=bs) (q:=q) (n:=4) (j:=0) (by omega) (by omega);have g1:=qpn (bs:=bs) (q:=q) (n:=4) (j:=1) (by omega) (by omega);have g2:=qpn (bs:=bs) (q:=q) (n:=4) (j:=2) (by omega) (by omega);have g3:=qpn (bs:=bs) (q:=q) (n:=4) (j:=3) (by omega) (by omega);rw[qb5,<-hx0]at g0;rw[<-hx1]at g1;rw[<-hx2]at g2;rw[<-hx3]at g3;rw[<-hx0,<-hx1,<-hx2,<-hx3]at hM2;have b0:x0<256:=by rw[hx0];exact qcf _ _
  have b1:x1<256:=by rw[hx1];exact qcf _ _
  have b2:x2<256:=by rw[hx2];exact qcf _ _
  have b3:x3<256:=by rw[hx3];exact qcf _ _
  have G:=zhd5 g0 g1 g2 g3 e0;have H:=zhd4 h hb4 hM2 hq;clear h hb4 hM2 hM hq hx0 hx1 hx2 hx3 g0 g1 g2 g3 e0;go_enter Tryz.func143,Tryz.ntmps143;go_upto_region 4 with (go_at_call 177;refine H.l1.1.mono ?_;rintro e w1 ⟨ao,rfl,hfr,_,_,hrd,f1⟩;rw[<-H.out.2.2.2]at hfr hrd;obtain⟨g,rfl,_,hc⟩:=qsv hfr (by rw[G.out.2.2.2.2];decide);have d0:=hc 0 _ G.out.1;have d1:=hc 1 _ G.out.2.1;have d2:=hc 2 _ G.out.2.2.1;have d3:=hc 3 _ G.out.2.2.2.1;have K1:=zhd2 (H.o0.take f1 hrd) f1;clear hc hfr hrd f1);obtain⟨n,hn⟩:=zex (x0+256*x1);obtain⟨y2,hy2⟩:∃y,y=255-x2:=⟨_,rfl⟩;obtain⟨y3,hy3⟩:∃y,y=255-x3:=⟨_,rfl⟩;have hor:=zdi x0 x1 b0 b1;have hxo2:=qu2 x2 b2;have hxo3:=qu2 x3 b3;rw[<-hn]at hor;rw[<-hy2]at hxo2;rw[<-hy3]at hxo3;have hnb:n<65536:=by omega
  have hnN:=zhd3 hn hy2 hy3;have c02:x0+x2=255↔x0=y2:=by omega
  have c13:x1+x3=255↔x1=y3:=by omega
  have hC:=zhd2 c02 c13;have by2:y2<256:=by omega
  have by3:y3<256:=by omega
  clear hn hy2 hy3 c02 c13;go_quiet (fail);obtain⟨w2,hw2⟩:=zex (w1.drewN nq);have f2:Fr [] w1 w2:=by rw[hw2];exact .drewN _ _ _
  replace d0:=f2.cell d0 (by simp);replace d1:=f2.cell d1 (by simp);replace d2:=f2.cell d2 (by simp);replace d3:=f2.cell d3 (by simp);rw[<-hw2];have K2:=zhd2 (K1.o0.fr0 f2) f2;clear hw2 f2 hor;go_upto_region 5 with fail;have bad:¬(x0+x2=255∧x1+x3=255)→M = .error 3:=λhne=>by rw[H.out.2.2.1,if_neg hne]
  have hB:=zhd bad;clear bad;by_cases p0:x0=y2
  ·have n0:((x0:Int)!=(y2:Int))=false:=by rw[p0];simp
   by_cases p1:x1=y3
   ·have n1:((x1:Int)!=(y3:Int))=false:=by rw[p1];simp
    have hM3:M=ibytes bs most n out (q+4):=by rw[H.out.2.2.1,if_pos ⟨hC.o0.2 p0,hC.out.2.2 p1⟩,hnN.o0]
    have HM:=zhd3 p0 p1 hM3;clear p0 p1 hM3;go_quiet (fail);obtain⟨w3,hw3⟩:=zex (w2.drewN nq);have f3:Fr [] w2 w3:=by rw[hw3];exact .drewN _ _ _
    have s3:=K2.o0.fr0 f3;rw[show q*8+8*4=8*(q+4) by omega]at s3;rw[<-hw3];have K3:=zhd3 s3 f3 (((Way.of _ _ _ _ _ K1.l1).trans (Way.of0 _ _ R p oa K2.l1)).trans (Way.of0 _ _ _ _ _ f3));clear hw3 s3 f3 d0 d1 d2 d3 c0 n0 n1 hxo2 hxo3;go_wp2;go_loopg [2,6,7,8,48] n (λk s2 s6 s7 s8 s48 wr=>∃(j:Nat) (out1:List UInt8) (oa1:Option Addr) (oc1:Nat),s48 = .int .i64 (j:Nat)∧j+k=n∧St wr R p F bs (8*(q+4+j)) out1 oa1 oc1 most∧Way w R p oa wr oa1∧ibytes bs most k out1 (q+4+j)=ibytes bs most n out (q+4));case atStart=>exact⟨0,out,oa,oc,rfl,by omega,K3.o0,K3.l2,rfl⟩
    case round=>
     obtain⟨j,out1,oa1,oc1,rfl,hjk,hst,hway,hib⟩:=hrel;obtain⟨m,hm⟩:=zex (q+4+j);rw[<-hm]at hst hib;by_cases hj:j<n
     ·obtain⟨k,rfl⟩:∃k,gk=k+1:=⟨gk-1,by omega⟩;have c0:=cell_of hst.box 0;simp only[qae,qaa,qad]at c0;by_cases hl2:m<bs.length
      ·have hb1:Calls Tryz.prog 177 #[.pointer (some ⟨p,0,none⟩),.int .i64 1] wr (bits.BytesGood p F bs (8*m) 1 wr):=bits.qmy p F bs (8*m) 1 wr hst.rd (by omega) (by omega);obtain⟨u,hu⟩:=zex (bs[m]?.getD 0);have g0:=qpn (bs:=bs) (q:=m) (n:=1) (j:=0) (by omega) (by omega);have gl:(((bs.drop m).take 1).map bv).length=1:=by simp;omega
       rw[qb5,show byteAt bs m=u.toNat by rw[hu];rfl]at g0;have HJ:=zhd8 hst hway hib hb1 g0 gl hm hu;clear hst hway hib hb1 g0 gl hm hu;go_wp2_with (first|(go_at_call 177;refine HJ.out.2.2.2.1.mono ?_;rintro e w4 ⟨ao,rfl,hfr,_,_,hrd,f1⟩;rw[show (8*m+7)/8=m by omega]at hfr hrd;obtain⟨g4,rfl,_,hc⟩:=qsv hfr (by rw[HJ.out.2.2.2.2.2.1];decide);have d0:=hc 0 _ HJ.out.2.2.2.2.1;have K4:=zhd2 (HJ.out.1.take f1 hrd) f1;clear hc hfr hrd f1)|(go_at_call 178;refine (qi0 R p F bs out1 _ oc1 most oa1 u w4 K4.o0).mono ?_;rintro e w5 (⟨c,hm,hc0,hc1,rfl,f1⟩|⟨out2,a4,oa2,oc2,hm,rfl,s4,f4⟩);all_goals (have Km:=zhd hm;clear hm);all_goals (try (have K5:=zhd2 s4 f4;clear s4 f4))))
       ·go_ret;have hmm:=Km.out;cases hp:iput most out1 u with
        | ok o2=>rw[hp]at hmm;cases hmm
        | error e=>
         rw[hp]at hmm;have hec:e=c:=by simpa[Except.map] using hmm
         have e1:ibytes bs most (k+1) out1 m = .error c:=by rw[ibytes,if_pos hl2,<-HJ.out.2.2.2.2.2.2.2,hp,hec]
         exact .inl ⟨c,by rw[HM.out.2.2,<-HJ.out.2.2.1,e1],hc0,hc1,rfl,(HJ.out.2.1.trans (Way.of _ _ _ _ _ K4.l1)).frW f1⟩
       ·go_roundg k;case measure=>omega
        case rel=>
         have hmm:=Km.out;cases hp:iput most out1 u with
         | error e=>rw[hp]at hmm;cases hmm
         | ok o2=>
          rw[hp]at hmm;have hm2:o2=out2∧m*8+8*1=a4:=by simpa[Except.map] using hmm
          obtain⟨rfl,rfl⟩:=hm2;have s5:=K5.o0;rw[show m*8+8*1=8*(q+4+(j+1)) by have:=HJ.out.2.2.2.2.2.2.1;omega]at s5;refine⟨j+1,o2,oa2,oc2,by go_num,by omega,s5,(HJ.out.2.1.trans (Way.of _ _ _ _ _ K4.l1)).trans K5.l1,?_⟩;rw[<-HJ.out.2.2.1,ibytes,if_pos hl2,<-HJ.out.2.2.2.2.2.2.2,hp,show q+4+(j+1)=m+1 by have:=HJ.out.2.2.2.2.2.2.1;omega]
      ·have hb1:Calls Tryz.prog 177 #[.pointer (some ⟨p,0,none⟩),.int .i64 1] wr _:=bits.qpw p F bs (8*m) 1 wr hst.rd (.inr (by omega));have e1:ibytes bs most (k+1) out1 m = .error 4:=by rw[ibytes,if_neg hl2]
       have HJ:=zhd5 hst hway hib hb1 e1;clear hst hway hib hb1 e1 hm;go_wp2_with (go_at_call 177;refine HJ.out.2.2.2.1.mono ?_;rintro e w4 ⟨rfl,_,f1⟩);go_ret;exact .inl ⟨4,by rw[HM.out.2.2,<-HJ.out.2.2.1,HJ.out.2.2.2.2],by decide,by decide,rfl,HJ.out.2.1.frW (f1.mono (by simp))⟩
     ·have hk0:gk=0:=by omega
      subst hk0;have e1:ibytes bs most n out (q+4) = .ok (out1,8*m):=by rw[<-hib,ibytes]
      have HE:=zhd3 hst hway e1;clear hst hway hib e1 hm;obtain rfl:j=n:=by omega
      go_wp2;go_ret;exact .inr ⟨out1,_,oa1,oc1,by rw[HM.out.2.2,HE.l2],rfl,HE.o0,HE.o1⟩
   ·have n1:((x1:Int)!=(y3:Int))=true:=by simp;omega
    have hM3:M = .error 3:=hB.out (λh=>p1 (hC.l1.1 h.2));have HM:=zhd3 p0 p1 hM3;clear p0 p1 hM3;go_quiet (fail);go_wp2;go_ret;exact .inl ⟨3,HM.out.2.2,by decide,by decide,rfl,((K1.l1.trans (K2.l1.mono (by simp))).trans (Fr.drewN _ _ _)).mono (by simp)⟩
  ·have n0:((x0:Int)!=(y2:Int))=true:=by simp;omega
   have hM3:M = .error 3:=hB.out (λh=>p0 (hC.o0.1 h.1));have HM:=zhd2 p0 hM3;clear p0 hM3;go_quiet (fail);go_wp2;go_ret;exact .inl ⟨3,HM.l1,by decide,by decide,rfl,((K1.l1.trans (K2.l1.mono (by simp))).trans (Fr.drewN _ _ _)).mono (by simp)⟩
 ·have hb4:Calls Tryz.prog 177 #[.pointer (some ⟨p,0,none⟩),.int .i64 4] w _:=bits.qpw p F bs at_ 4 w h.rd (.inr (by omega));have hM2:M = .error 4:=by rw[hM];unfold istored;rw[<-hq,if_neg hl]
  have H:=zhd2 hb4 hM2;clear h hb4 hM2 hM hq;go_enter Tryz.func143,Tryz.ntmps143;go_wp2_with (go_at_call 177;refine H.o0.mono ?_;rintro e w1 ⟨rfl,_,f1⟩);go_ret;exact .inl ⟨4,H.l1,by decide,by decide,rfl,f1.mono (by simp)⟩
def WholeGood (w:World) (ls:List Nat) (few:Bool) (e:Ending) (w':World):Prop:=
 (iwhole ls few=false∧e = .returned (.tuple #[.pointer none,.int .i64 3])∧Fr [] w w')∨
 (iwhole ls few=true∧NewTab w ls e w')
theorem some_snoc (l:List Nat) (x:Nat):some_ (l++[x])=some_ l+if 0<x then 1 else 0:=by unfold some_;rw[qeq,qab];split<;>simp[*]
theorem qo4 (l:List Nat) (x:Nat):ones (l++[x])=(ones l&&decide (x≤1)):=by unfold ones;rw[List.all_append];simp
theorem qqa (l:List Nat):some_ l≤l.length:=qc7 _ _
theorem qj7 (a:Option Addr) (cap:Nat) (ls:List Nat) (few:Bool) (w:World) (h:Ri w a cap ls) (hle:∀l∈ls,l≤15) (hlen:ls.length≤400) :
  Calls Tryz.prog 182 #[.slice a ls.length cap,.bool few] w (WholeGood w ls few):=by
 obtain⟨N,hN⟩:=zex ls.length;by_cases hw:weight ls≤32768
 ·have hnew:=qqn a cap ls w h hle hlen hw;rw[<-hN]at hnew hlen ⊢;have H:=zhd5 h hle hN hnew hw;clear h hle hN hnew hw;go_enter Tryz.func182,Tryz.ntmps182;go_upto_block 0 with (go_at_call 179;refine H.out.2.2.2.1.mono ?_;rintro e w1 ⟨P,D,first,sa,sc,rfl,htb,f1⟩;have H1:=zhd2 htb f1;clear htb f1);go_wp2;go_loopg [8,9,11,21] N (λk s8 s9 s11 s21 wr=>∃i:Nat,s21 = .int .i64 (i:Nat)∧s8 = .int .i64 (some_ (ls.take i):Nat)∧s9 = .bool (ones (ls.take i))∧i+k=N∧w1=wr);case atStart=>exact⟨0,rfl,rfl,rfl,by omega,rfl⟩
  case round=>
   obtain⟨i,rfl,rfl,rfl,hik,rfl⟩:=hrel;by_cases hi:i<N
   ·obtain⟨k,rfl⟩:∃k,gk=k+1:=⟨gk-1,by omega⟩;have hil:i<ls.length:=by rw[<-H.out.2.2.1];exact hi
    obtain⟨ga,o,ha,hc⟩:=(H.out.1.fr H1.out.2).at hil;subst ha;have hx15:=H.out.2.1 _ (qb7 hil);have ht:ls.take (i+1)=ls.take i++[ls[i]]:=by rw[qbc hil]
    obtain⟨x,hx⟩:=zex (ls[i]);rw[<-hx]at hc hx15 ht;obtain⟨c,hcn⟩:=zex (some_ (ls.take i));have hcl:c≤400:=by rw[hcn];have:=qqa (ls.take i);rw[qar]at this;omega
    obtain⟨b,hb⟩:=zex (ones (ls.take i));have e1:some_ (ls.take (i+1))=c+if 0<x then 1 else 0:=by rw[ht,some_snoc,hcn]
    have e2:ones (ls.take (i+1))=(b&&decide (x≤1)):=by rw[ht,qo4,hb]
    rw[<-hcn,<-hb];have HI:=zhd2 e1 e2;clear e1 e2 hcn hb ht hx;by_cases h0:x=0
    ·subst h0;go_wp2;go_roundg k;case measure=>omega
     case rel=>exact⟨i+1,by go_num,by rw[HI.o0];rfl,by rw[HI.l1];simp,by omega,rfl⟩
    ·have d0:decide ((0:Int)<x)=true:=by simp;omega
     by_cases h1:x=1
     ·subst h1;cases b
      ·go_wp2;go_roundg k;case measure=>omega
       case rel=>exact⟨i+1,by go_num,by rw[HI.o0];rfl,by rw[HI.l1];rfl,by omega,rfl⟩
      ·go_wp2;go_roundg k;case measure=>omega
       case rel=>exact⟨i+1,by go_num,by rw[HI.o0];rfl,by rw[HI.l1];rfl,by omega,rfl⟩
     ·have d1:((x:Int)==1)=false:=by simp;omega
      have d2:decide (x≤1)=false:=by simp;omega
      have HD:=zhd d2;clear d2;cases b
      ·go_wp2;go_roundg k;case measure=>omega
       case rel=>exact⟨i+1,by go_num,by rw[HI.o0,if_pos (by omega)];rfl,by rw[HI.l1];rfl,by omega,rfl⟩
      ·go_wp2;go_roundg k;case measure=>omega
       case rel=>exact⟨i+1,by go_num,by rw[HI.o0,if_pos (by omega)];rfl,by rw[HI.l1,HD.out];rfl,by omega,rfl⟩
   ·obtain rfl:i=N:=by omega
    have et:ls.take i=ls:=qa9 (by rw[<-H.out.2.2.1];exact qag _);rw[et];obtain⟨c,hcn⟩:=zex (some_ ls);obtain⟨b,hb⟩:=zex (ones ls);have hcl:c≤400:=by rw[hcn];have:=qqa ls;rw[<-H.out.2.2.1]at this;omega
    have hiw:iwhole ls few=(decide (weight ls=32768)||(few&&(decide (c<2)&&b))):=by unfold iwhole;rw[<-hcn,<-hb,decide_eq_true H.out.2.2.2.2,Bool.true_and]
    have hcp:=qpp a cap ls w1 (H.out.1.fr H1.out.2) H.out.2.1 (by rw[<-H.out.2.2.1];omega);rw[<-H.out.2.2.1]at hcp;obtain⟨cp,hcp2⟩:=zex (decide (weight ls=32768));rw[<-hcp2]at hiw hcp;rw[<-hcn,<-hb];have HC:=zhd2 hcp hiw;clear hcp hiw hcp2 hcn hb et hi hik;have fin:iwhole ls few=false→WholeGood w ls few (.returned (.tuple #[.pointer none,.int .i64 3])) w1:=λh0=>.inl ⟨h0,rfl,H1.out.2⟩
    have fin2:iwhole ls few=true→WholeGood w ls few (.returned (.tuple #[.pointer (some ⟨P,0,none⟩),.int .i64 0])) w1:=λh0=>.inr ⟨h0,P,D,first,sa,sc,rfl,H1.out.1,H1.out.2⟩
    have HF:=zhd2 fin fin2;clear fin fin2;cases cp
    ·cases few
     ·go_wp2_with (go_at_call 203;refine HC.o0.mono ?_;rintro e w2 ⟨rfl,rfl⟩);go_ret2;exact HF.o0 (by rw[HC.l1];rfl)
     ·by_cases h2:c<2
      ·have d2:decide ((c:Int)<2)=true:=by simp;omega
       cases b
       ·go_wp2_with (go_at_call 203;refine HC.o0.mono ?_;rintro e w2 ⟨rfl,rfl⟩);go_ret2;exact HF.o0 (by rw[HC.l1];simp)
       ·go_wp2_with (go_at_call 203;refine HC.o0.mono ?_;rintro e w2 ⟨rfl,rfl⟩);go_ret2;exact HF.l1 (by rw[HC.l1,decide_eq_true h2];rfl)
      ·have d2:decide ((c:Int)<2)=false:=by simp;omega
       go_wp2_with (go_at_call 203;refine HC.o0.mono ?_;rintro e w2 ⟨rfl,rfl⟩);go_ret2;exact HF.o0 (by rw[HC.l1,decide_eq_false h2];rfl)
    ·go_wp2_with (go_at_call 203;refine HC.o0.mono ?_;rintro e w2 ⟨rfl,rfl⟩);go_ret2;exact HF.l1 (by rw[HC.l1];rfl)
 ·have hnew:=zcj a cap ls w h hle hlen (by omega);rw[<-hN]at hnew ⊢;have hiw:iwhole ls few=false:=by unfold iwhole;rw[decide_eq_false hw,Bool.false_and]
  have H:=zhd2 hnew hiw;clear h hle hN hnew hw hiw;go_enter Tryz.func182,Tryz.ntmps182;go_wp2_with (go_at_call 179;refine H.out.1.mono ?_;rintro e w1 ⟨rfl,f1⟩);go_ret2;exact .inl ⟨H.out.2,rfl,f1⟩
theorem qw2 {bs:List UInt8} {ls L:List Nat} {n k a:Nat} (h:n≤L.length):ilens bs ls n (k+1) L a = .ok (L,a):=by rw[ilens,if_pos h]
theorem qw0 {bs:List UInt8} {ls L:List Nat} {n k a c:Nat} (h:L.length<n) (hs:isym bs ls a = .error c):ilens bs ls n (k+1) L a = .error c:=by rw[ilens,if_neg (by omega),hs]
theorem qw1 {bs:List UInt8} {ls L:List Nat} {n k a s a1:Nat} (h:L.length<n) (hs:isym bs ls a = .ok (s,a1)) (h16:s<16):ilens bs ls n (k+1) L a=ilens bs ls n k (L++[s]) a1:=by rw[ilens,if_neg (by omega),hs];simp only[if_pos h16]
theorem qg7 {bs:List UInt8} {ls L:List Nat} {n k a s a1 c:Nat} (h:L.length<n) (hs:isym bs ls a = .ok (s,a1)) (h16:16≤s) (ht:itake bs a1 (wide s) = .error c):ilens bs ls n (k+1) L a = .error c:=by rw[ilens,if_neg (by omega),hs];simp only[if_neg (show ¬s<16 by omega),ht]
theorem qg8 {bs:List UInt8} {ls L:List Nat} {n k a s a1 v a2:Nat} (h:L.length<n) (hs:isym bs ls a = .ok (s,a1)) (h16:16≤s) (ht:itake bs a1 (wide s) = .ok (v,a2)) (hf:(s=16∧L=[])∨n-L.length<least s+v):ilens bs ls n (k+1) L a = .error 3:=by rw[ilens,if_neg (by omega),hs];simp only[if_neg (show ¬s<16 by omega),ht];rw[if_pos hf]
theorem qlg {bs:List UInt8} {ls L:List Nat} {n k a s a1 v a2:Nat} (h:L.length<n) (hs:isym bs ls a = .ok (s,a1)) (h16:16≤s) (ht:itake bs a1 (wide s) = .ok (v,a2)) (hf:¬((s=16∧L=[])∨n-L.length<least s+v)) :
  ilens bs ls n (k+1) L a=ilens bs ls n k (L++List.replicate (least s+v) (if s=16 then L.getLast?.getD 0 else 0)) a2:=by
 rw[ilens,if_neg (by omega),hs];simp only[if_neg (show ¬s<16 by omega),ht];rw[if_neg hf]
structure Own (w wr:World) (ao:Option Addr) (cap:Nat) (L:List Nat):Prop where
 own:wr.ownsRow 0 3 1 (.slice ao L.length cap) L.length (ints L)
 new:∀x∈blk ao,w.heap.size≤x
 le:L.length≤cap
 max:cap≤maxLen
 nil:ao=none→cap=0
theorem Own.start (w wr:World):Own w wr none 0 []:=⟨⟨by simp[ints],.inl ⟨rfl,rfl⟩⟩,by simp[blk],qag _,qba _,λ_=>rfl⟩
theorem Own.fr {w wr w2:World} {S:List Nat} {ao:Option Addr} {cap:Nat} {L:List Nat} (h:Own w wr ao cap L) (f:Fr S wr w2) (hS:∀x∈S,x<w.heap.size):Own w w2 ao cap L:=
 ⟨qa7 h.own f (λk hk hkS=>by
  have hk2:k∈blk ao:=by rw[<-qbp ao L.length cap,hk];simp
  have:=h.new k hk2
  have:=hS k hkS
  omega),h.new,h.le,h.max,h.nil⟩
theorem Own.app {w wr w2:World} {ao ao2:Option Addr} {cap cap2 n:Nat} {L:List Nat} {x:Nat} {o:Obj} (h:Own w wr ao cap L) (hn:n=L.length) (fw:w.heap.size≤wr.heap.size)
  (A:Appended (wr.alloc o) w2 3 1 (blk ao) ao2 (n+1) cap2 (ints L++[.int .i64 x])):Own w w2 ao2 cap2 (L++[x])∧Fr (blk ao) wr w2:=by
 have el:(L++[x]).length=n+1:=by rw[hn];simp
 have ei:ints (L++[x])=ints L++[.int .i64 x]:=by simp[ints]
 refine⟨⟨by rw[el,ei];exact A.own,λy hy=>?_,by rw[el];exact A.le,A.max,A.nil⟩,((Fr.refl _ wr).alloc _).trans A.fr⟩;rcases A.at_ y hy with k|k
 ·exact h.new y k
 ·rw[k,qav];omega
theorem Own.ri {w wr:World} {ao:Option Addr} {cap:Nat} {L:List Nat} (h:Own w wr ao cap L):Ri wr ao cap L:=⟨qcm h.own,h.le,h.max,h.nil⟩
theorem St.up {w wr w2:World} {R p:Nat} {F S:List Nat} {bs out:List UInt8} {at_ a1 oc most:Nat} {oa:Option Addr} (h0:St w R p F bs at_ out oa oc most) (h:St wr R p F bs a1 out oa oc most) (f:Fr S wr w2) (hS:∀x∈S,w.heap.size≤x):St w2 R p F bs a1 out oa oc most:=
 h.fr f (λhR=>by have:=hS R hR;have:=lt_of_block h0.box;omega) (λx hx hxS=>by have:=hS x hxS;have:=h0.low x hx;omega) (λx hx hxS=>by have:=hS x hxS;have:=qd3 h0.own (qdv hx);omega)
theorem Own.last {w wr:World} {ao:Option Addr} {cap:Nat} {L:List Nat} (h:Own w wr ao cap L) (h0:0<L.length):∃g,ao=some ⟨g,0,none⟩∧wr.cell? ⟨g,L.length-1,none⟩=some (.int .i64 (L.getLast?.getD 0:Nat)):=by
 obtain⟨h1,h2⟩:=h.own;rcases h2 with⟨h2,_⟩|⟨g,cap',cur,h2,hb,hg,hn,hm,hs,ht⟩
 ·simp only[qbn]at h2;omega
 ·simp only[qbn]at h2;refine⟨g,h2.1,?_⟩;rw[cell_of hg,<-qci];have e1:(cur.toList.take (L.length*1))[L.length-1]?=(ints L)[L.length-1]?:=by rw[ht]
  rw[qbl,if_pos (by omega)]at e1;rw[e1,List.getLast?_eq_getElem?,ints,qbx,qaf (show L.length-1<L.length by omega)];rfl
theorem Own.cell {w wr:World} {ao:Option Addr} {cap:Nat} {L:List Nat} (h:Own w wr ao cap L) {i:Nat} (h0:i<L.length):∃g,ao=some ⟨g,0,none⟩∧wr.cell? ⟨g,i,none⟩=some (.int .i64 (lenAt L i:Nat)):=by
 obtain⟨h1,h2⟩:=h.own;rcases h2 with⟨h2,_⟩|⟨g,cap',cur,h2,hb,hg,hn,hm,hs,ht⟩
 ·simp only[qbn]at h2;omega
 ·simp only[qbn]at h2;refine⟨g,h2.1,?_⟩;rw[cell_of hg,<-qci];have e1:(cur.toList.take (L.length*1))[i]?=(ints L)[i]?:=by rw[ht]
  rw[qbl,if_pos (by omega)]at e1;rw[e1,ints,qbx,qaf h0,lenAt,qaf h0];rfl
def LensGood (w:World) (R p:Nat) (F:List Nat) (bs out:List UInt8) (oa:Option Addr) (oc most n:Nat) (m:Except Nat (List Nat×Nat)) (e:Ending) (w':World):Prop:=
 (∃c,m = .error c∧0<c∧c<100∧e = .returned (.tuple #[.slice none 0 0,.int .i64 (c:Nat)])∧Fr (R::p::blk oa) w w')∨
 (∃L a ao cap,m = .ok (L,a)∧e = .returned (.tuple #[.slice ao L.length cap,.int .i64 0])∧St w' R p F bs a out oa oc most∧Fr [p] w w'∧Own w w' ao cap L∧L.length=n∧∀x∈L,x≤15)
theorem qe9 (R p P n:Nat) (F:List Nat) (bs out:List UInt8) (ls:List Nat) (at_ oc most:Nat) (oa:Option Addr) (w:World) (h:St w R p F bs at_ out oa oc most) (hT:Tb w P ls (R::p::blk oa)) (hl:ls.length≤19) (hn:n≤400) :
  Calls Tryz.prog 183 #[.pointer (some ⟨R,0,none⟩),.pointer (some ⟨P,0,none⟩),.int .i64 n] w (LensGood w R p F bs out oa oc most n (ilens bs ls n (n+1) [] at_)):=by
 obtain⟨M,hM⟩:=zex (ilens bs ls n (n+1) [] at_);rw[<-hM];have H:=zhd4 h hT hM hl;clear h hT hM hl;go_enter Tryz.func183,Tryz.ntmps183;go_wp2;go_loopg [6,7,8,9,10,11,12,13,14,79] (n+1) (λk s6 s7 s8 s9 s10 s11 s12 s13 s14 s79 wr=>∃(l a1:Nat) (L:List Nat) (ao:Option Addr) (cap:Nat),s8 = .slice ao l cap∧l=L.length∧l≤n∧n+1≤l+k∧St wr R p F bs a1 out oa oc most∧Fr [p] w wr∧Own w wr ao cap L∧ilens bs ls n k L a1=M∧∀x∈L,x≤15);case atStart=>exact⟨0,at_,[],none,0,rfl,rfl,by omega,by omega,H.o0,.refl _ _,.start _ _,H.o2.symm,by simp⟩
 case round=>
  obtain⟨l,a1,L,ao,cap,rfl,hlL,hln,hlk,hst,hf,hown,hil,h15⟩:=hrel;obtain⟨k,rfl⟩:∃k,gk=k+1:=⟨gk-1,by omega⟩;have c0:=cell_of hst.box 0;simp only[qae,qaa,qad]at c0;by_cases hlt:l<n
  ·have HJ:=zhd6 hst hf hown hil h15 hlL;clear hst hf hown hil h15 hlL;have hp:∀x∈[p],x<w.heap.size:=λx hx=>by simp at hx;rw[hx];exact H.o0.low _ H.o0.pF.1
   have HP:=zhd hp;clear hp;go_upto_block 3 with (first
    | (go_at_call 201;refine (qir R p P F bs out ls a1 oc most oa wr HJ.out.1 (H.o1.fr HJ.out.2.1 (by simp))).mono ?_;rintro e w2 (⟨v2,c,hm,hc0,hc1,rfl,f1⟩|⟨s,a2,hm,rfl,s2,f2⟩);rotate_left;(have hs19:=(qfm hm).1;have hls:=H.l3;rcases (show s<16∨(s=16∧l=0)∨(s=16∧0<l)∨s=17∨s=18 by omega) with hs|⟨rfl,rfl⟩|⟨rfl,hl0⟩|rfl|rfl);all_goals (try (have T2:Calls Tryz.prog 94 #[.pointer (some ⟨R,0,none⟩),.int .i64 2] w2 (RetV w2 R p F bs out oa oc most (itake bs a2 2)):=qfc R p F bs out a2 oc most 2 oa w2 s2 (by decide);have T3:Calls Tryz.prog 94 #[.pointer (some ⟨R,0,none⟩),.int .i64 3] w2 (RetV w2 R p F bs out oa oc most (itake bs a2 3)):=qfc R p F bs out a2 oc most 3 oa w2 s2 (by decide);have T7:Calls Tryz.prog 94 #[.pointer (some ⟨R,0,none⟩),.int .i64 7] w2 (RetV w2 R p F bs out oa oc most (itake bs a2 7)):=qfc R p F bs out a2 oc most 7 oa w2 s2 (by decide);have K2:=zhd7 hm s2 f2 T2 T3 T7 (HJ.out.2.2.1.fr f2 HP.out);clear hm s2 f2 T2 T3 T7 hs19 hls));all_goals (first|(have _t:=hl0;obtain⟨g,rfl,hce⟩:=K2.out.2.2.2.2.2.2.last (by rw[<-HJ.out.2.2.2.2.2];exact hl0);rw[<-HJ.out.2.2.2.2.2]at hce)|skip))
    | (go_at_call 94;(first|with_reducible refine K2.out.2.2.2.1.mono ?_|with_reducible refine K2.out.2.2.2.2.1.mono ?_|with_reducible refine K2.out.2.2.2.2.2.1.mono ?_);rintro e w3 (⟨v3,c,hm,hc0,hc1,rfl,f1⟩|⟨v,a3,hm,rfl,s3,f3⟩);all_goals (try (replace hce:=f3.cell hce (by have:=K2.out.2.2.2.2.2.2.new g (by simp[blk]);have:=HP.out p (by simp);simp;omega);have hlb:((l:Int)==0)=false:=by simp;omega));all_goals (try (have hvb:=qcp hm;have K3:=zhd3 hm s3 f3;clear hm s3 f3)))
    | (at_builtin;go_loud (refine qa5 huf.qcn rfl _ _ rfl (.slice ao l cap) l (ints L) (blk ao) rfl (qbp ao l cap) (by have:=qa7 K2.out.2.2.2.2.2.2.own ((Fr.refl [] w2).alloc (.cells #[.int .i64 s] 3 (0,0))) (by simp);rwa [<-HJ.out.2.2.2.2.2]at this) (some ⟨w2.heap.size,0,none⟩) 1 1 [.int .i64 s] (by first|rfl|simp) (qag _) (λh=>by cases h) (qdu _ _ _ _ (qa4 _ _)) rfl (by intro u hu;simp only[qaz]at hu;rw[hu];rfl) (by omega) (by unfold maxLen;omega) ?_);intro ao2 cap2 w4 A4;have HA:=zhd A4;clear A4))
   ·go_roundg k;case measure=>omega
    case rel=>
     have hp:=HP.out;have hA:=HJ.out.2.2.1.fr K2.out.2.2.1 hp;have hA2:=hA.app (n:=l) HJ.out.2.2.2.2.2 (HJ.out.2.1.trans K2.out.2.2.1).size HA.out;refine⟨l+1,a2,L++[s],ao2,cap2,rfl,by rw[qab,<-HJ.out.2.2.2.2.2];rfl,by omega,by omega,H.o0.up K2.out.2.1 hA2.2 (λx hx=>hA.new x hx),(HJ.out.2.1.trans K2.out.2.2.1).step hA2.2 (λx hx=>.inr (hA.new x hx)),hA2.1,?_,?_⟩
     ·rw[<-HJ.out.2.2.2.1,qw1 (by rw[<-HJ.out.2.2.2.2.2];exact hlt) K2.out.1 hs]
     ·intro x hx;rcases qbd.1 hx with h1|h1
      ·exact HJ.out.2.2.2.2.1 x h1
      ·simp at h1;omega
   ·go_ret2;exact .inl ⟨c,by rw[<-HJ.out.2.2.2.1,qg7 (by rw[<-HJ.out.2.2.2.2.2];exact hlt) K2.out.1 (by decide) hm],hc0,hc1,rfl,((HJ.out.2.1.trans K2.out.2.2.1).mono (by simp)).trans f1⟩
   ·go_ret2;exact .inl ⟨3,by rw[<-HJ.out.2.2.2.1,qg8 (by rw[<-HJ.out.2.2.2.2.2];exact hlt) K2.out.1 (by decide) K3.o0 (.inl ⟨rfl,qbs (HJ.out.2.2.2.2.2).symm⟩)],by decide,by decide,rfl,((HJ.out.2.1.trans K2.out.2.2.1).trans K3.l2).mono (by simp)⟩
   ·go_ret2;exact .inl ⟨c,by rw[<-HJ.out.2.2.2.1,qg7 (by rw[<-HJ.out.2.2.2.2.2];exact hlt) K2.out.1 (by decide) hm],hc0,hc1,rfl,((HJ.out.2.1.trans K2.out.2.2.1).mono (by simp)).trans f1⟩
   ·go_ret2;exact .inl ⟨3,by rw[<-HJ.out.2.2.2.1,qg8 (by rw[<-HJ.out.2.2.2.2.2];exact hlt) K2.out.1 (by decide) K3.o0 (.inr (by rw[<-HJ.out.2.2.2.2.2];show n-l<3+v;omega))],by decide,by decide,rfl,((HJ.out.2.1.trans K2.out.2.2.1).trans K3.l2).mono (by simp)⟩
   ·obtain⟨t,ht⟩:=zex (3+v);have et:(3:Int)+(v:Nat)=(t:Nat):=by rw[ht];omega
    rw[et];have htn:t≤n-l:=by omega
    obtain⟨x,hx⟩:=zex (L.getLast?.getD 0);have hx15:x≤15:=by rw[hx,List.getLast?_eq_getElem?,qaf (show L.length-1<L.length by have:=HJ.out.2.2.2.2.2;omega)];exact HJ.out.2.2.2.2.1 _ (qb7 _)
    have hE:ilens bs ls n k (L++List.replicate t x) a3=M:=by
     rw[<-HJ.out.2.2.2.1,qlg (s:=16) (v:=v) (a2:=a3) (by rw[<-HJ.out.2.2.2.2.2];exact hlt) K2.out.1 (by decide) K3.o0 (by
      rintro (⟨_,h1⟩|h1)
      ·have:=HJ.out.2.2.2.2.2;rw[h1]at this;simp at this;omega
      ·rw[<-HJ.out.2.2.2.2.2]at h1;have h2:n-l<3+v:=h1;omega),ht,hx]
     rfl
    rw[<-hx];have hv0:0<t:=by omega
    have HB:=zhd5 hE hx15 (K2.out.2.2.2.2.2.2.fr K3.l2 HP.out) ((HJ.out.2.1.trans K2.out.2.2.1).trans K3.l2) ht;clear hE hx15 ht et hvb c0 hx hce hlb;go_wp2;go_loopg [8,79] t (λk2 s8 s79 wr=>∃(j:Nat) (ao2:Option Addr) (cap2:Nat),s79 = .int .i64 (j:Nat)∧s8 = .slice ao2 (l+j) cap2∧j+k2=t∧St wr R p F bs a3 out oa oc most∧Fr [p] w wr∧Own w wr ao2 cap2 (L++List.replicate j x));case atStart=>exact⟨0,(some ⟨g,0,none⟩),cap,rfl,rfl,by omega,K3.o1,HB.o3,by simpa using HB.o2⟩
    case round=>
     obtain⟨j,ao2,cap2,rfl,rfl,hjt,hs3,hf3,how⟩:=hrel;have hjl:l+j=(L++List.replicate j x).length:=by rw[qab,qb2,<-HJ.out.2.2.2.2.2]
     by_cases hj:j<t
     ·obtain⟨k2,rfl⟩:∃k2,gk=k2+1:=⟨gk-1,by omega⟩;have HI:=zhd4 hs3 hf3 how hjl;clear hs3 hf3 how hjl;go_wp2_with (at_builtin;go_loud (refine qa5 huf.qcn rfl _ _ rfl (.slice ao2 (l+j) cap2) (l+j) (ints (L++List.replicate j x)) (blk ao2) rfl (qbp ao2 (l+j) cap2) (by have:=qa7 HI.o2.own ((Fr.refl [] wr).alloc (.cells #[.int .i64 x] 3 (0,0))) (by simp);rwa [<-HI.l3]at this) (some ⟨wr.heap.size,0,none⟩) 1 1 [.int .i64 x] (by first|rfl|simp) (qag _) (λh=>by cases h) (qdu _ _ _ _ (qa4 _ _)) rfl (by intro u hu;simp only[qaz]at hu;rw[hu];rfl) (by omega) (by unfold maxLen;omega) ?_);intro ao3 cap3 w5 A5;have HA:=zhd A5;clear A5);go_roundg k2;case measure=>omega
      case rel=>have hA2:=HI.o2.app (n:=l+j) (x:=x) HI.l3 HI.o1.size HA.out;refine⟨j+1,ao3,cap3,by go_num,rfl,by omega,H.o0.up HI.o0 hA2.2 (λy hy=>HI.o2.new y hy),HI.o1.step hA2.2 (λy hy=>.inr (HI.o2.new y hy)),?_⟩;rw[qdw,<-qat];exact hA2.1
     ·obtain rfl:j=t:=by omega
      have HI:=zhd4 hs3 hf3 how hjl;clear hs3 hf3 how hjl;go_wp2;go_roundg k;case measure=>omega
      case rel=>
       refine⟨l+j,a3,L++List.replicate j x,ao2,cap2,rfl,HI.l3,by omega,by omega,HI.o0,HI.o1,HI.o2,HB.o0,?_⟩;intro y hy;rcases qbd.1 hy with h1|h1
       ·exact HJ.out.2.2.2.2.1 y h1
       ·rw[(qf4.1 h1).2];exact HB.o1
   ·go_ret2;exact .inl ⟨c,by rw[<-HJ.out.2.2.2.1,qg7 (by rw[<-HJ.out.2.2.2.2.2];exact hlt) K2.out.1 (by decide) hm],hc0,hc1,rfl,((HJ.out.2.1.trans K2.out.2.2.1).mono (by simp)).trans f1⟩
   ·go_ret2;exact .inl ⟨3,by rw[<-HJ.out.2.2.2.1,qg8 (by rw[<-HJ.out.2.2.2.2.2];exact hlt) K2.out.1 (by decide) K3.o0 (.inr (by rw[<-HJ.out.2.2.2.2.2];show n-l<3+v;omega))],by decide,by decide,rfl,((HJ.out.2.1.trans K2.out.2.2.1).trans K3.l2).mono (by simp)⟩
   ·obtain⟨t,ht⟩:=zex (3+v);have et:(3:Int)+(v:Nat)=(t:Nat):=by rw[ht];omega
    rw[et];have htn:t≤n-l:=by omega
    have hE:ilens bs ls n k (L++List.replicate t 0) a3=M:=by
     rw[<-HJ.out.2.2.2.1,qlg (s:=17) (v:=v) (a2:=a3) (by rw[<-HJ.out.2.2.2.2.2];exact hlt) K2.out.1 (by decide) K3.o0 (by
      rintro (⟨h1,_⟩|h1)
      ·cases h1
      ·rw[<-HJ.out.2.2.2.2.2]at h1;have h2:n-l<3+v:=h1;omega),ht]
     rfl
    have hx15:0≤15:=by decide
    have hv0:0<t:=by omega
    have HB:=zhd5 hE hx15 (K2.out.2.2.2.2.2.2.fr K3.l2 HP.out) ((HJ.out.2.1.trans K2.out.2.2.1).trans K3.l2) ht;clear hE hx15 ht et hvb c0;go_wp2;go_loopg [8,79] t (λk2 s8 s79 wr=>∃(j:Nat) (ao2:Option Addr) (cap2:Nat),s79 = .int .i64 (j:Nat)∧s8 = .slice ao2 (l+j) cap2∧j+k2=t∧St wr R p F bs a3 out oa oc most∧Fr [p] w wr∧Own w wr ao2 cap2 (L++List.replicate j 0));case atStart=>exact⟨0,ao,cap,rfl,rfl,by omega,K3.o1,HB.o3,by simpa using HB.o2⟩
    case round=>
     obtain⟨j,ao2,cap2,rfl,rfl,hjt,hs3,hf3,how⟩:=hrel;have hjl:l+j=(L++List.replicate j 0).length:=by rw[qab,qb2,<-HJ.out.2.2.2.2.2]
     by_cases hj:j<t
     ·obtain⟨k2,rfl⟩:∃k2,gk=k2+1:=⟨gk-1,by omega⟩;have HI:=zhd4 hs3 hf3 how hjl;clear hs3 hf3 how hjl;go_wp2_with (at_builtin;go_loud (refine qa5 huf.qcn rfl _ _ rfl (.slice ao2 (l+j) cap2) (l+j) (ints (L++List.replicate j 0)) (blk ao2) rfl (qbp ao2 (l+j) cap2) (by have:=qa7 HI.o2.own ((Fr.refl [] wr).alloc (.cells #[.int .i64 0] 3 (0,0))) (by simp);rwa [<-HI.l3]at this) (some ⟨wr.heap.size,0,none⟩) 1 1 [.int .i64 0] (by first|rfl|simp) (qag _) (λh=>by cases h) (qdu _ _ _ _ (qa4 _ _)) rfl (by intro u hu;simp only[qaz]at hu;rw[hu];rfl) (by omega) (by unfold maxLen;omega) ?_);intro ao3 cap3 w5 A5;have HA:=zhd A5;clear A5);go_roundg k2;case measure=>omega
      case rel=>have hA2:=HI.o2.app (n:=l+j) (x:=0) HI.l3 HI.o1.size HA.out;refine⟨j+1,ao3,cap3,by go_num,rfl,by omega,H.o0.up HI.o0 hA2.2 (λy hy=>HI.o2.new y hy),HI.o1.step hA2.2 (λy hy=>.inr (HI.o2.new y hy)),?_⟩;rw[qdw,<-qat];exact hA2.1
     ·obtain rfl:j=t:=by omega
      have HI:=zhd4 hs3 hf3 how hjl;clear hs3 hf3 how hjl;go_wp2;go_roundg k;case measure=>omega
      case rel=>
       refine⟨l+j,a3,L++List.replicate j 0,ao2,cap2,rfl,HI.l3,by omega,by omega,HI.o0,HI.o1,HI.o2,HB.o0,?_⟩;intro y hy;rcases qbd.1 hy with h1|h1
       ·exact HJ.out.2.2.2.2.1 y h1
       ·rw[(qf4.1 h1).2];exact HB.o1
   ·go_ret2;exact .inl ⟨c,by rw[<-HJ.out.2.2.2.1,qg7 (by rw[<-HJ.out.2.2.2.2.2];exact hlt) K2.out.1 (by decide) hm],hc0,hc1,rfl,((HJ.out.2.1.trans K2.out.2.2.1).mono (by simp)).trans f1⟩
   ·go_ret2;exact .inl ⟨3,by rw[<-HJ.out.2.2.2.1,qg8 (by rw[<-HJ.out.2.2.2.2.2];exact hlt) K2.out.1 (by decide) K3.o0 (.inr (by rw[<-HJ.out.2.2.2.2.2];show n-l<11+v;omega))],by decide,by decide,rfl,((HJ.out.2.1.trans K2.out.2.2.1).trans K3.l2).mono (by simp)⟩
   ·obtain⟨t,ht⟩:=zex (11+v);have et:(11:Int)+(v:Nat)=(t:Nat):=by rw[ht];omega
    rw[et];have htn:t≤n-l:=by omega
    have hE:ilens bs ls n k (L++List.replicate t 0) a3=M:=by
     rw[<-HJ.out.2.2.2.1,qlg (s:=18) (v:=v) (a2:=a3) (by rw[<-HJ.out.2.2.2.2.2];exact hlt) K2.out.1 (by decide) K3.o0 (by
      rintro (⟨h1,_⟩|h1)
      ·cases h1
      ·rw[<-HJ.out.2.2.2.2.2]at h1;have h2:n-l<11+v:=h1;omega),ht]
     rfl
    have hx15:0≤15:=by decide
    have hv0:0<t:=by omega
    have HB:=zhd5 hE hx15 (K2.out.2.2.2.2.2.2.fr K3.l2 HP.out) ((HJ.out.2.1.trans K2.out.2.2.1).trans K3.l2) ht;clear hE hx15 ht et hvb c0;go_wp2;go_loopg [8,79] t (λk2 s8 s79 wr=>∃(j:Nat) (ao2:Option Addr) (cap2:Nat),s79 = .int .i64 (j:Nat)∧s8 = .slice ao2 (l+j) cap2∧j+k2=t∧St wr R p F bs a3 out oa oc most∧Fr [p] w wr∧Own w wr ao2 cap2 (L++List.replicate j 0));case atStart=>exact⟨0,ao,cap,rfl,rfl,by omega,K3.o1,HB.o3,by simpa using HB.o2⟩
    case round=>
     obtain⟨j,ao2,cap2,rfl,rfl,hjt,hs3,hf3,how⟩:=hrel;have hjl:l+j=(L++List.replicate j 0).length:=by rw[qab,qb2,<-HJ.out.2.2.2.2.2]
     by_cases hj:j<t
     ·obtain⟨k2,rfl⟩:∃k2,gk=k2+1:=⟨gk-1,by omega⟩;have HI:=zhd4 hs3 hf3 how hjl;clear hs3 hf3 how hjl;go_wp2_with (at_builtin;go_loud (refine qa5 huf.qcn rfl _ _ rfl (.slice ao2 (l+j) cap2) (l+j) (ints (L++List.replicate j 0)) (blk ao2) rfl (qbp ao2 (l+j) cap2) (by have:=qa7 HI.o2.own ((Fr.refl [] wr).alloc (.cells #[.int .i64 0] 3 (0,0))) (by simp);rwa [<-HI.l3]at this) (some ⟨wr.heap.size,0,none⟩) 1 1 [.int .i64 0] (by first|rfl|simp) (qag _) (λh=>by cases h) (qdu _ _ _ _ (qa4 _ _)) rfl (by intro u hu;simp only[qaz]at hu;rw[hu];rfl) (by omega) (by unfold maxLen;omega) ?_);intro ao3 cap3 w5 A5;have HA:=zhd A5;clear A5);go_roundg k2;case measure=>omega
      case rel=>have hA2:=HI.o2.app (n:=l+j) (x:=0) HI.l3 HI.o1.size HA.out;refine⟨j+1,ao3,cap3,by go_num,rfl,by omega,H.o0.up HI.o0 hA2.2 (λy hy=>HI.o2.new y hy),HI.o1.step hA2.2 (λy hy=>.inr (HI.o2.new y hy)),?_⟩;rw[qdw,<-qat];exact hA2.1
     ·obtain rfl:j=t:=by omega
      have HI:=zhd4 hs3 hf3 how hjl;clear hs3 hf3 how hjl;go_wp2;go_roundg k;case measure=>omega
      case rel=>
       refine⟨l+j,a3,L++List.replicate j 0,ao2,cap2,rfl,HI.l3,by omega,by omega,HI.o0,HI.o1,HI.o2,HB.o0,?_⟩;intro y hy;rcases qbd.1 hy with h1|h1
       ·exact HJ.out.2.2.2.2.1 y h1
       ·rw[(qf4.1 h1).2];exact HB.o1
   ·go_ret2;exact .inl ⟨c,by rw[<-HJ.out.2.2.2.1,qw0 (by rw[<-HJ.out.2.2.2.2.2];exact hlt) hm],hc0,hc1,rfl,(HJ.out.2.1.mono (by simp)).trans f1⟩
  ·obtain rfl:l=n:=by omega
   have e1:ilens bs ls l (k+1) L a1 = .ok (L,a1):=qw2 (by omega);have HJ:=zhd7 hst hf hown hil h15 hlL e1;clear hst hf hown hil h15 hlL e1 hlt hln;go_wp2;go_ret2;exact .inr ⟨L,a1,ao,cap,by rw[<-HJ.out.2.2.2.1,HJ.out.2.2.2.2.2.2],by rw[<-HJ.out.2.2.2.2.2.1];rfl,HJ.out.1,HJ.out.2.1,HJ.out.2.2.1,HJ.out.2.2.2.2.2.1.symm,HJ.out.2.2.2.2.1⟩
theorem zbh {i:Nat} (h:i<144):ifix i=8:=by unfold ifix;rw[if_pos h]
theorem zbg {i:Nat} (h1:¬i<144) (h:i<256):ifix i=9:=by unfold ifix;rw[if_neg h1,if_pos h]
theorem zbf {i:Nat} (h1:¬i<144) (h2:¬i<256) (h:i<280):ifix i=7:=by unfold ifix;rw[if_neg h1,if_neg h2,if_pos h]
theorem zbe {i:Nat} (h1:¬i<144) (h2:¬i<256) (h:¬i<280):ifix i=8:=by unfold ifix;rw[if_neg h1,if_neg h2,if_neg h]
theorem qw4 (i:Nat):ifix i≤15:=by unfold ifix;split;omega;split;omega;split<;>omega
theorem zai:∀l∈fixed 288,l≤15:=λl hl=>by obtain⟨i,_,rfl⟩:=qb8.1 hl;exact qw4 i
theorem qpi:weight (fixed 288)=32768:=by decide +kernel
theorem qhs:weight (List.replicate 32 5)=32768:=by decide +kernel
theorem zaj:(List.range 32).map (λ_=>5)=List.replicate 32 5:=by decide +kernel
theorem qie {i v s:Nat} (hv:ifix i=v):(if s=i then v else if s<i then ifix s else 0)=if s<i+1 then ifix s else 0:=by
 by_cases e:s=i
 ·rw[if_pos e,if_pos (by omega),e,hv]
 ·rw[if_neg e];by_cases e2:s<i
  ·rw[if_pos e2,if_pos (by omega)]
  ·rw[if_neg e2,if_neg (by omega)]
theorem qka {w:World} {P D B E:Nat} {ls X:List Nat} {first:Nat→Nat} {sa:Nat→Option Addr} {sc:Nat→Nat} (h:TabB w P D ls first sa sc B E) (hE:E≤w.heap.size) (hX:∀x∈X,x<B):Tb w P ls X:=
 ⟨D,first,sa,sc,h.tab,qal h.at_.2 hE,λhP=>by have:=hX P hP;have:=h.at_.1;omega,λl hl x hx=>⟨qal (h.row l hl x hx).2 hE,λhxX=>by have:=hX x hxX;have:=(h.row l hl x hx).1;omega⟩⟩
theorem St.under {w:World} {R p:Nat} {F:List Nat} {bs out:List UInt8} {at_ oc most:Nat} {oa:Option Addr} (h:St w R p F bs at_ out oa oc most):∀x∈R::p::blk oa,x<w.heap.size:=λx hx=>by
 simp only[qaw]at hx;rcases hx with rfl|rfl|hx
 ·exact lt_of_block h.box
 ·exact h.low _ h.pF.1
 ·exact qd3 h.own (qdv hx)
theorem qxi (R p:Nat) (F:List Nat) (bs out:List UInt8) (at_ oc most:Nat) (oa:Option Addr) (w:World) (h:St w R p F bs at_ out oa oc most) :
  Calls Tryz.prog 144 #[.pointer (some ⟨R,0,none⟩)] w (Ret w R p F bs oa most (ifixed bs most out at_)):=by
 obtain⟨hu,⟨ti,hi',hz',hs',hb'⟩,hcz,hp⟩:=huf.qcn;have H:=zhd h;clear h;go_enter Tryz.func144,Tryz.ntmps144;obtain⟨Q,hQ⟩:=zex w.heap.size;have HQ:=zhd hQ;clear hQ;go_upto_block 0 with (refine wpList_make_full _ rfl _ _ 128 rfl 0 3 ti (.int .i64 0) 1 hu hi' hz' hs' .i64 .i64 288 288 288 rfl rfl rfl rfl (by rw[hb'];omega) (by unfold maxLen;omega) (by omega) ?_;intro w1 own1 grow1;have H1:=zhd2 own1 grow1;clear own1 grow1);rw[<-HQ.out]at H1 ⊢;have hq1:Ow w1 Q 288 (λ_=>0):=qk2 H1.o0;have f1:Fr [] w w1:=(Fr.refl [] w).grown H1.l1 (λk hk=>by cases hk);have HS:=zhd2 hq1 f1;clear hq1 f1 H1;go_wp2;go_loopg [4,14,20,26,32] 288 (λk s4 s14 s20 s26 s32 wr=>∃i:Nat,s14 = .int .i64 (i:Nat)∧i+k=288∧Ow wr Q 288 (λj=>if j<i then ifix j else 0)∧Fr [] w wr);case atStart=>exact⟨0,rfl,rfl,HS.o0.congr λs _=>by simp,HS.l1⟩
 case round=>
  obtain⟨i,rfl,hik,how,hf⟩:=hrel;by_cases hi:i<288
  ·obtain⟨k,rfl⟩:∃k,gk=k+1:=⟨gk-1,by omega⟩;have c1:=how.cell hi;have z1:=how.frozen i;have HI:=zhd2 how hf;clear how hf;go_wp2
   ·go_roundg k;case measure=>omega
    case rel=>exact⟨i+1,by go_num,by omega,(HI.out.1.set hi 8).congr (λs _=>qie (zbh (by omega))),HI.out.2.step ((Fr.refl [Q] wr).setCell (by simp) _) (λz hz=>.inr (by simp at hz;rw[hz,HQ.out];exact qag _))⟩
   ·go_roundg k;case measure=>omega
    case rel=>exact⟨i+1,by go_num,by omega,(HI.out.1.set hi 9).congr (λs _=>qie (zbg (by omega) (by omega))),HI.out.2.step ((Fr.refl [Q] wr).setCell (by simp) _) (λz hz=>.inr (by simp at hz;rw[hz,HQ.out];exact qag _))⟩
   ·go_roundg k;case measure=>omega
    case rel=>exact⟨i+1,by go_num,by omega,(HI.out.1.set hi 7).congr (λs _=>qie (zbf (by omega) (by omega) (by omega))),HI.out.2.step ((Fr.refl [Q] wr).setCell (by simp) _) (λz hz=>.inr (by simp at hz;rw[hz,HQ.out];exact qag _))⟩
   ·go_roundg k;case measure=>omega
    case rel=>exact⟨i+1,by go_num,by omega,(HI.out.1.set hi 8).congr (λs _=>qie (zbe (by omega) (by omega) (by omega))),HI.out.2.step ((Fr.refl [Q] wr).setCell (by simp) _) (λz hz=>.inr (by simp at hz;rw[hz,HQ.out];exact qag _))⟩
  ·obtain rfl:i=288:=by omega
   have hfix:Ow wr Q 288 ifix:=how.congr λs hs=>if_pos hs
   obtain⟨w2,rfl⟩:∃w2:World,w2=wr:=⟨_,rfl⟩;obtain⟨Q2,hQ2⟩:=zex w2.heap.size;have HI:=zhd3 hfix hf hQ2;clear how hf hfix hQ2 hik;go_upto_block 3 with (refine wpList_make_full _ rfl _ _ 128 rfl 0 3 ti (.int .i64 0) 1 hu hi' hz' hs' .i64 .i64 32 32 32 rfl rfl rfl rfl (by rw[hb'];omega) (by unfold maxLen;omega) (by omega) ?_;intro w3 own3 grow3;have H3:=zhd2 own3 grow3;clear own3 grow3);rw[<-HI.out.2.2]at H3 ⊢;have hq3:Ow w3 Q2 32 (λ_=>0):=qk2 H3.o0;have f3:Fr [] w2 w3:=(Fr.refl [] w2).grown H3.l1 (λk hk=>by cases hk);have HT:=zhd3 hq3 f3 (HI.out.1.fr f3 (by simp));clear hq3 f3 H3 hu hi' hz' hs' hb' hcz hp;go_wp2;go_loopg [6,42] 32 (λk s6 s42 wr=>∃i:Nat,s42 = .int .i64 (i:Nat)∧i+k=32∧Ow wr Q2 32 (λj=>if j<i then 5 else 0)∧Ow wr Q 288 ifix∧Fr [] w wr);case atStart=>exact⟨0,rfl,rfl,HT.o0.congr λs _=>by simp,HT.l2,HI.out.2.1.trans HT.o1⟩
   case round=>
    obtain⟨j,rfl,hjk,how,how0,hf⟩:=hrel;have hQQ:Q<Q2:=by obtain⟨A,hA,_⟩:=HI.out.1;rw[HI.out.2.2];exact lt_of_block hA
    by_cases hj:j<32
    ·obtain⟨k,rfl⟩:∃k,gk=k+1:=⟨gk-1,by omega⟩;have c1:=how.cell hj;have z1:=how.frozen j;have HJ:=zhd3 how how0 hf;clear how how0 hf;go_wp2;go_roundg k;case measure=>omega
     case rel=>exact⟨j+1,by go_num,by omega,(HJ.o0.set hj 5).congr (λs _=>by
      by_cases e:s=j
      ·rw[if_pos e,if_pos (by omega)]
      ·rw[if_neg e]
       by_cases e2:s<j
       ·rw[if_pos e2,if_pos (by omega)]
       ·rw[if_neg e2,if_neg (by omega)]),HJ.o1.fr ((Fr.refl [Q2] wr).setCell (by simp) _) (by simp;omega),HJ.l2.step ((Fr.refl [Q2] wr).setCell (by simp) _) (λz hz=>.inr (by simp at hz;rw[hz,HI.out.2.2];exact HI.out.2.1.size))⟩
    ·obtain rfl:j=32:=by omega
     have h5:Ow wr Q2 32 (λ_=>5):=how.congr λs hs=>if_pos hs
     have r1:Ri wr (some ⟨Q,0,none⟩) 288 (fixed 288):=⟨how0.cs,by decide +kernel,by decide,λh=>by cases h⟩;have r2:Ri wr (some ⟨Q2,0,none⟩) 32 (List.replicate 32 5):=⟨by have:=h5.cs;rw[zaj]at this;exact this,by decide,by decide,λh=>by cases h⟩;obtain⟨wo,rfl⟩:∃wo:World,wo=wr:=⟨_,rfl⟩;have N1:Calls Tryz.prog 179 #[.slice (some ⟨Q,0,none⟩) 288 288] wo (NewTab wo (fixed 288)):=qqn (some ⟨Q,0,none⟩) 288 (fixed 288) wo r1 zai (by decide +kernel) (by rw[qpi];exact qag _);have N2:∀w5,Fr [] wo w5→Calls Tryz.prog 179 #[.slice (some ⟨Q2,0,none⟩) 32 32] w5 (NewTab w5 (List.replicate 32 5)):=λw5 f5=>qqn (some ⟨Q2,0,none⟩) 32 (List.replicate 32 5) w5 (r2.fr f5) (λl hl=>by rw[(qf4.1 hl).2];decide) (by decide) (by rw[qhs];exact qag _)
     have HN:=zhd3 N1 N2 hf;clear how how0 hf h5 r1 r2 N1 N2 hj hjk;go_wp2_with (first|(go_at_call 179;(with_reducible refine HN.o0.mono ?_);rintro e w4 ⟨P,D,first,sa,sc,rfl,htb,f4⟩;have K4:=zhd2 htb f4;clear htb f4)|(go_at_call 179;(with_reducible refine (HN.o1 _ K4.l1).mono ?_);rintro e w5 ⟨P5,D5,first5,sa5,sc5,rfl,htb,f5⟩;have K5:=zhd2 htb f5;clear htb f5)|(go_at_call 180;have hu:=H.out.under;go_loud (refine (qkj R p P P5 F bs out (fixed 288) (List.replicate 32 5) at_ oc most oa w5 (H.out.fr0 ((HN.l2.trans K4.l1).trans K5.l1)) ((qka K4.o0 (qag _) (λx hx=>qal (hu x hx) HN.l2.size)).fr K5.l1 (by simp)) (qka K5.o0 (qag _) (λx hx=>qal (hu x hx) (HN.l2.trans K4.l1).size))).mono ?_);rintro e w6 (⟨c,hm,hc0,hc1,rfl,f6⟩|⟨o6,a6,oa6,oc6,hm,rfl,s6,f6⟩);all_goals (have Km:=zhd hm;clear hm);all_goals (try (have K6:=zhd2 s6 f6;clear s6 f6))))
     ·go_ret;exact .inl ⟨c,Km.out,hc0,hc1,rfl,(((HN.l2.trans K4.l1).trans K5.l1).mono (by simp)).trans f6⟩
     ·go_ret;exact .inr ⟨o6,a6,oa6,oc6,Km.out,rfl,K6.o0,(Way.of0 _ _ _ _ _ ((HN.l2.trans K4.l1).trans K5.l1)).trans K6.l1⟩
def ordV:Array Value:=#[.int .i64 16,.int .i64 17,.int .i64 18,.int .i64 0,.int .i64 8,.int .i64 7,.int .i64 9,.int .i64 6,.int .i64 10,.int .i64 5,.int .i64 11,.int .i64 4,.int .i64 12,.int .i64 3,.int .i64 13,.int .i64 2,.int .i64 14,.int .i64 1,.int .i64 15]
def zeroV:Array Value:=#[.int .i64 0,.int .i64 0,.int .i64 0,.int .i64 0,.int .i64 0,.int .i64 0,.int .i64 0,.int .i64 0,.int .i64 0,.int .i64 0,.int .i64 0,.int .i64 0,.int .i64 0,.int .i64 0,.int .i64 0,.int .i64 0,.int .i64 0,.int .i64 0,.int .i64 0]
theorem info19:(Tryz.prog.info? 257).map (·.size)=some 19:=by kernel_rfl
theorem qtp {fn:Func} {p:Tmp} (h:fn.results=#[.cell p 257]) (tmps:Array Value) (w:World) (g:Nat) (cs:Array Value) (fr:Nat×Nat)
  (hp:tmps.getD p undef = .pointer (some ⟨g,0,none⟩)) (hg:w.heap[g]?=some (.cells cs 257 fr)) (hs:cs.size=19):(results fn tmps).run Tryz.prog w = .ok (.agg cs) w:=
 results_cell_row h tmps w g 257 cs fr _ hp hg Tryz.underlying257 rfl (by rw[info19,hs])
theorem qv8 (w:World):Calls Tryz.prog 181 #[] w λe w'=>e = .returned (.agg ordV)∧Fr [] w w':=by go_enter Tryz.func181,Tryz.ntmps181;go_wp2_with (refine wpList_store_row rfl 257 (.tmp 0) (.tmp 1) rfl w.heap.size ordV rfl rfl 257 zeroV (heap_alloc_last w _) info19 rfl (by kernel_rfl) ?_;rw[World.setRow_alloc_new]);simp only[Act.put];refine bodyPost_ret (qtp rfl _ _ w.heap.size ordV (0,0) rfl (qa4 w _) rfl) rfl ?_;exact⟨rfl,(Fr.refl [] w).alloc _⟩
theorem qvs {w:World} {a:Option Addr} {cap:Nat} {xs:List Nat} (h:Ri w a cap xs) (k:Nat) (hk:k≤xs.length):Ri w (cutAtN a cap k 1) (cap-k) (xs.drop k):=
 ⟨by rw[List.map_drop];exact qxx h.cs k (by simpa using hk) (by simpa using h.le),by have:=h.le;simp;omega,qan (Nat.sub_le _ _) h.max,λhn=>by have:=h.nil (qll hn);omega⟩
theorem qk9 {fs:List Nat} {i v:Nat} (hi:i<fs.length) (t:Nat):lenAt (fs.set i v) t=if t=i then v else lenAt fs t:=by
 unfold lenAt;rw[List.getElem?_set];by_cases e:i=t
 ·subst e;simp[hi]
 ·rw[if_neg e,if_neg (λh=>e h.symm)]
theorem qv5 {w:World} {Q:Nat} {fs:List Nat} (h:Ow w Q 19 (lenAt fs)) (hl:fs.length=19):Ri w (some ⟨Q,0,none⟩) 19 fs:=by
 have e:(List.range 19).map (lenAt fs)=fs:=by
  refine List.ext_getElem (by simp[hl]) λi h1 h2=>?_
  simp[lenAt,h2]
 have:=h.cs;rw[e]at this;exact⟨this,by omega,by decide,λh=>by cases h⟩
theorem qtx:places=defl.ordL:=rfl
theorem qv9 {i:Nat} (h:i<19):ordV[i]?=some (.int .i64 ((defl.ord i:Nat):Int)):=by
 have e:ordV=(defl.ordL.map λx=>Value.int .i64 (x:Nat)).toArray:=rfl;have hl:i<defl.ordL.length:=by simp[defl.ordL];omega
 rw[e];simp[defl.ord,qaf hl]
theorem qkw {m j:Nat} (h:j<m) (hm:m≤19):(places.take m).drop j=defl.ord j::(places.take m).drop (j+1):=by
 have hl:places.length=19:=rfl;have h1:j<(places.take m).length:=by rw[qar];omega
 rw[qbm h1];congr 1;simp[defl.ord,<-qtx,qaf (show j<places.length by omega)]
theorem qq9 (R p:Nat) (F:List Nat) (bs out:List UInt8) (at_ oc most:Nat) (oa:Option Addr) (w:World) (h:St w R p F bs at_ out oa oc most) :
  Calls Tryz.prog 145 #[.pointer (some ⟨R,0,none⟩)] w (Ret w R p F bs oa most (idyn bs most out at_)):=by
 obtain⟨M,hM⟩:=zex (idyn bs most out at_);rw[<-hM];have TT:∀(n:Nat) (a:Nat) (w':World),St w' R p F bs a out oa oc most→n≤31→Calls Tryz.prog 94 #[.pointer (some ⟨R,0,none⟩),.int .i64 (n:Nat)] w' (RetV w' R p F bs out oa oc most (itake bs a n)):=λn a w' s hn=>qfc R p F bs out a oc most n oa w' s hn
 have T3:∀(a:Nat) (w':World),St w' R p F bs a out oa oc most→Calls Tryz.prog 94 #[.pointer (some ⟨R,0,none⟩),.int .i64 3] w' (RetV w' R p F bs out oa oc most (itake bs a 3)):=λa w' s=>TT 3 a w' s (by decide)
 have T4:∀(a:Nat) (w':World),St w' R p F bs a out oa oc most→Calls Tryz.prog 94 #[.pointer (some ⟨R,0,none⟩),.int .i64 4] w' (RetV w' R p F bs out oa oc most (itake bs a 4)):=λa w' s=>TT 4 a w' s (by decide)
 have T5:∀(a:Nat) (w':World),St w' R p F bs a out oa oc most→Calls Tryz.prog 94 #[.pointer (some ⟨R,0,none⟩),.int .i64 5] w' (RetV w' R p F bs out oa oc most (itake bs a 5)):=λa w' s=>TT 5 a w' s (by decide)
 have HT:=zhd3 T3 T4 T5;have H:=zhd2 h hM;clear h hM TT T3 T4 T5;go_enter Tryz.func145,Tryz.ntmps145;go_upto_region 14 with (first
  | (go_at_call 94;(with_reducible refine (HT.l2 at_ w H.o0).mono ?_);rintro e w1 (⟨v,c,hm,hc0,hc1,rfl,f1⟩|⟨lit,a1,hm,rfl,s1,f1⟩);all_goals (try (have hv1:=qcp hm;have K1:=zhd3 hm s1 f1;clear hm s1 f1)))
  | (go_at_call 94;(with_reducible refine (HT.l2 a1 w1 K1.o1).mono ?_);rintro e w2 (⟨v,c,hm,hc0,hc1,rfl,f1⟩|⟨dist,a2,hm,rfl,s2,f2⟩);all_goals (try (have hv2:=qcp hm;have K2:=zhd3 hm s2 f2;clear hm s2 f2)))
  | (go_at_call 94;(with_reducible refine (HT.o1 a2 w2 K2.o1).mono ?_);rintro e w3 (⟨v,c,hm,hc0,hc1,rfl,f1⟩|⟨n,a3,hm,rfl,s3,f3⟩);all_goals (try (have hv3:=qcp hm;have K3:=zhd3 hm s3 f3;clear hm s3 f3))))
 ·go_ret;exact .inl ⟨c,by rw[H.l1];simp only[idyn,hm],hc0,hc1,rfl,f1⟩
 ·go_ret;exact .inl ⟨3,by rw[H.l1];simp only[idyn,K1.o0,if_pos (show 29<lit by omega)],by decide,by decide,rfl,K1.l2.mono (by simp)⟩
 ·go_ret;exact .inl ⟨c,by rw[H.l1];simp only[idyn,K1.o0,if_neg (show ¬29<lit by omega),hm],hc0,hc1,rfl,(K1.l2.mono (by simp)).trans f1⟩
 ·go_ret;exact .inl ⟨3,by rw[H.l1];simp only[idyn,K1.o0,if_neg (show ¬29<lit by omega),K2.o0,if_pos (show 29<dist by omega)],by decide,by decide,rfl,(K1.l2.trans K2.l2).mono (by simp)⟩
 ·go_ret;exact .inl ⟨c,by rw[H.l1];simp only[idyn,K1.o0,if_neg (show ¬29<lit by omega),K2.o0,if_neg (show ¬29<dist by omega),hm],hc0,hc1,rfl,((K1.l2.trans K2.l2).mono (by simp)).trans f1⟩
 ·have hM3:M=idyn2 bs most out lit dist n a3:=by rw[H.l1];simp only[idyn,K1.o0,if_neg (show ¬29<lit by omega),K2.o0,if_neg (show ¬29<dist by omega),K3.o0]
  have hl1:lit≤29:=by omega
  have hd1:dist≤29:=by omega
  have hn1:n≤15:=by omega
  have hf3:Fr [p] w w3:=((K1.l2.trans K2.l2).trans K3.l2);have HK:=zhd4 hM3 K3.o1 hf3 H.o0;clear hM3 hf3 K1 K2 K3 H hv1 hv2 hv3;obtain⟨m,hm⟩:=zex (n+4);have em:(n:Int)+4=(m:Nat):=by omega
  have hm19:m≤19:=by omega
  have HM:=zhd hm;clear hm;obtain⟨hu,⟨ti,hi',hz',hs',hb'⟩,hcz,hp⟩:=huf.qcn;obtain⟨Q,hQ⟩:=zex w3.heap.size;have HQ:=zhd hQ;clear hQ;go_upto_region 15 with (refine wpList_make_full _ rfl _ _ 128 rfl 0 3 ti (.int .i64 0) 1 hu hi' hz' hs' .i64 .i64 19 19 19 rfl rfl rfl rfl (by rw[hb'];omega) (by unfold maxLen;omega) (by omega) ?_;intro w4 own4 grow4;have H4:=zhd2 own4 grow4;clear own4 grow4);rw[<-HQ.out]at H4 ⊢;have hq4:Ow w4 Q 19 (λ_=>0):=qk2 H4.o0;have f4:Fr [] w3 w4:=(Fr.refl [] w3).grown H4.l1 (λk hk=>by cases hk);have HW:=zhd2 hq4 f4;clear hq4 f4 H4 hu hi' hz' hs' hb' hcz hp;go_cut [8,46] from 46 to 46 (λs8 s46 wz=>∃O:Nat,s8 = .pointer (some ⟨O,0,none⟩)∧wz.heap[O]?=some (.cells ordV 257 (0,0))∧Fr [] w4 wz∧w4.heap.size≤O)
  case first=>go_wp2_with (first|(go_at_call 181;refine (qv8 w4).mono ?_;rintro e w5 ⟨rfl,f5⟩;have K5:=zhd f5;clear f5)|(refine wpList_store_row rfl 257 (.tmp 8) (.tmp 46) rfl w5.heap.size ordV rfl rfl 257 zeroV (heap_alloc_last w5 _) info19 rfl (by kernel_rfl) ?_;rw[World.setRow_alloc_new]));simp only[Act.put];go_meet;exact⟨w5.heap.size,rfl,qa4 w5 _,K5.out.alloc _,K5.out.size⟩
  case rest=>
  obtain⟨O,rfl,hO,f6,hO4⟩:=hcut;obtain⟨w7,rfl⟩:∃w7:World,w7=wc:=⟨_,rfl⟩;have f37:Fr [] w3 w7:=HW.out.2.trans f6;have hQ7:Ow w7 Q 19 (lenAt (List.replicate 19 0)):=(HW.out.1.fr f6 (by simp)).congr λs hs=>by simp only[lenAt,qfb,if_pos hs];rfl
  have hQO:Q<O:=by obtain⟨A,hA,_⟩:=HW.out.1;have:=lt_of_block hA;omega
  have hQ3:w3.heap.size≤Q:=by rw[HQ.out];exact qag _
  have H7:=zhd5 hQ7 hO f37 hQO hQ3;clear hQ7 hO f37 hQO f6 hO4 hQ3;have d1:decide ((286:Int)<(lit:Int)+257)=false:=by simp;omega
  have d2:decide ((30:Int)<(dist:Int)+1)=false:=by simp;omega
  simp only[d1,d2];clear d1 d2;have hsl:=defl.qoo O m hm19;go_wp2;clear hsl;go_loopg [2,4,10,51] m (λk s2 s4 s10 s51 wr=>∃(j a1:Nat) (fs:List Nat),s51 = .int .i64 (j:Nat)∧s4 = .int .i64 0∧j+k=m∧St wr R p F bs a1 out oa oc most∧Ow wr Q 19 (lenAt fs)∧fs.length=19∧(∀x∈fs,x≤15)∧wr.heap[O]?=some (.cells ordV 257 (0,0))∧Fr [p] w wr∧ifirst bs ((places.take m).drop j) fs a1=ifirst bs (places.take m) (List.replicate 19 0) a3);case atStart=>exact⟨0,a3,List.replicate 19 0,rfl,rfl,by omega,HK.o1.fr0 H7.o2,H7.o0,rfl,λx hx=>by rw[(qf4.1 hx).2];decide,H7.o1,HK.o2.trans (H7.o2.mono (by simp)),rfl⟩
  case round=>
   obtain⟨j,a1,fs,rfl,rfl,hjm,hst,how,hfl,hf15,hO,hfw,hfi⟩:=hrel;have hw3:w.heap.size≤w3.heap.size:=HK.o2.size;have hp0:p<w.heap.size:=HK.l3.low _ HK.l3.pF.1;by_cases hj:j<m
   ·obtain⟨k,rfl⟩:∃k,gk=k+1:=⟨gk-1,by omega⟩;have cO:=cell_of hO j;rw[qv9 (by omega)]at cO;obtain⟨i,hi⟩:=zex (defl.ord j);have hi19:i<19:=by rw[hi];exact defl.qo3 j
    have hpd:=qkw hj hm19;rw[<-hi]at cO hpd;rw[hpd]at hfi;have HJ:=zhd7 hst how hfl hf15 hO hfw hfi;clear hst how hfl hf15 hO hfw hfi hi hpd;go_wp2_with (go_at_call 94;refine (HT.o0 a1 wr HJ.o0).mono ?_;rintro e w8 (⟨v,c,hm,hc0,hc1,rfl,f1⟩|⟨v,a2,hm,rfl,s8,f8⟩);rotate_left;all_goals (try (have hv:=qcp hm;have hx8:=HJ.o1.fr f8 (show Q∉[p] by have:=H7.l4;simp;omega);have K8:=zhd4 hm s8 f8 hx8;clear hm s8 f8;have c8:=hx8.cell hi19;have z8:=hx8.frozen i;clear hx8));all_goals (try (have hx9:=HJ.o1.fr f1 (show Q∉R::p::blk oa by have:=H7.l4;have hu:=HK.l3.under;intro hq;have:=hu Q hq;omega);have c8:=hx9.cell hi19;have z8:=hx9.frozen i;have K9:=zhd2 hm f1;clear hm f1 hx9)))
    ·go_roundg k;case measure=>omega
     case rel=>
      have hQw:∀x∈[Q],w.heap.size≤x:=λx hx=>by have:=H7.l4;simp at hx;omega
      have fQ:Fr [Q] w8 (w8.setCell ⟨Q,i,none⟩ (.int .i64 v)):=(Fr.refl [Q] _).setCell (by simp) _;refine⟨j+1,a2,fs.set i v,by go_num,rfl,by omega,HK.l3.up K8.o1 fQ hQw,(K8.l3.set hi19 v).congr (λt _=>(qk9 (by rw[HJ.o2];exact hi19) t).symm),by rw[List.length_set,HJ.o2],λx hx=>?_,fQ.blk (K8.o2.blk HJ.o4 (by have:=H7.out.2.2.2;simp;omega)) (by have:=H7.o3;simp;omega),(HJ.o5.trans K8.o2).step fQ (λx hx=>.inr (hQw x hx)),?_⟩
      ·rcases List.mem_or_eq_of_mem_set hx with h1|h1
       ·exact HJ.o3 x h1
       ·rw[h1];omega
      ·rw[<-HJ.l6,ifirst,K8.o0]
    ·go_ret;have hQw:∀x∈[Q],w.heap.size≤x:=λx hx=>by have:=H7.l4;simp at hx;omega
     refine .inl ⟨c,?_,hc0,hc1,rfl,((HJ.o5.mono (by simp)).trans K9.l1).step ((Fr.refl [Q] _).setCell (by simp) _) (λx hx=>.inr (hQw x hx))⟩;rw[HK.o0,idyn2,<-HM.out,<-HJ.l6,ifirst,K9.o0]
   ·obtain rfl:j=m:=by omega
    have hok:ifirst bs (places.take j) (List.replicate 19 0) a3 = .ok (fs,a1):=by rw[<-hfi,List.drop_of_length_le (by rw[qar];omega),ifirst]
    have hM4:M=if iwhole fs false=false then .error 3 else idyn3 bs most out lit dist fs a1:=by rw[HK.o0,idyn2,<-HM.out,hok]
    have W1:Calls Tryz.prog 182 #[.slice (some ⟨Q,0,none⟩) 19 19,.bool false] wr (WholeGood wr fs false):=by have:=qj7 (some ⟨Q,0,none⟩) 19 fs false wr (qv5 how hfl) hf15 (by omega);rwa [hfl]at this
    obtain⟨wo,rfl⟩:∃wo:World,wo=wr:=⟨_,rfl⟩;obtain⟨l1,hl1e⟩:=zex (lit+257);obtain⟨N,hNe⟩:=zex (lit+257+dist+1);have e1:(lit:Int)+257=(l1:Nat):=by omega
    have eN:(l1:Int)+(dist:Int)+1=(N:Nat):=by omega
    have hN400:N≤316:=by omega
    have hl1N:l1+1≤N:=by omega
    have hl1b:257≤l1:=by omega
    have hLE:=λ(w':World) (P:Nat) (s:St w' R p F bs a1 out oa oc most) (tb:Tb w' P fs (R::p::blk oa))=>qe9 R p P N F bs out fs a1 oc most oa w' s tb (by omega) (by omega)
    have HJ:=zhd7 hst hM4 W1 hfw hl1e hNe hLE;have hun:=zhd HK.l3.under;clear hst how hfl hf15 hO hfw hfi hok hM4 W1 hl1e hNe hLE hj hjm;go_upto_region 29 with (first
     | (go_at_call 182;(with_reducible refine HJ.o2.mono ?_);rintro e w9 (⟨hiw,rfl,f9⟩|⟨hiw,P,D,first,sa,sc,rfl,htb,f9⟩);all_goals (try (have K9:=zhd3 hiw htb f9;clear htb));all_goals (try (have K9b:=zhd2 hiw f9));all_goals clear hiw f9)
     | (go_at_call 183;(with_reducible refine (HJ.l6 w9 P (HJ.o0.fr0 K9.out.2.2) (qka K9.l1.1 (qag _) (λx hx=>qal (hun.out x hx) HJ.o3.size))).mono ?_);rintro e w10 (⟨c,hm,hc0,hc1,rfl,f10⟩|⟨L,a4,ao,cap,hm,he,s10,f10,own,hLN,hL15⟩);rotate_left;(rw[hLN]at he;subst he;have K10:=zhd6 hm s10 f10 own hLN hL15;clear hm s10 f10 own hLN hL15)))
    ·go_ret;exact .inl ⟨3,by rw[HJ.o1,if_pos K9b.o0],by decide,by decide,rfl,(HJ.o3.trans (K9b.l1.mono (by simp))).mono (by simp)⟩
    ·have hM5:M=if lenAt L 256=0 then .error 3 else if iwhole (L.take l1) false=false then .error 3 else if iwhole (L.drop l1) true=false then .error 3 else isyms bs most (L.take l1) (L.drop l1) (fuel bs) out a4:=by have hlens:=K10.out.1;rw[HJ.o1,if_neg (by rw[K9.o0];simp),idyn3];rw[HJ.o5]at hlens;rw[hlens,<-HJ.o4]
     obtain⟨g,rfl,hcell⟩:=K10.out.2.2.2.1.cell (i:=256) (by rw[K10.out.2.2.2.2.1];omega);obtain⟨z,hz⟩:=zex (lenAt L 256);rw[<-hz]at hcell hM5;have hcapN:N≤cap:=by have:=K10.out.2.2.2.1.le;rw[K10.out.2.2.2.2.1]at this;exact this
     have hcapm:cap≤9223372036854775807:=by have:=K10.out.2.2.2.1.max;unfold maxLen at this;exact this
     have ri:Ri w10 (some ⟨g,0,none⟩) cap L:=K10.out.2.2.2.1.ri;have lt:(L.take l1).length=l1:=by rw[qar,K10.out.2.2.2.2.1];omega
     have ld:(L.drop l1).length=N-l1:=by rw[qau,K10.out.2.2.2.2.1]
     have W2:Calls Tryz.prog 182 #[.slice (some ⟨g,0,none⟩) l1 cap,.bool false] w10 (WholeGood w10 (L.take l1) false):=by have:=qj7 (some ⟨g,0,none⟩) cap (L.take l1) false w10 (Ri.take ri l1) (λx hx=>K10.out.2.2.2.2.2 x (qbu hx)) (by omega);rwa [lt]at this
     have W3:∀w',Fr [] w10 w'→Calls Tryz.prog 182 #[.slice (cutAtN (some ⟨g,0,none⟩) cap l1 1) (N-l1) (cap-l1),.bool true] w' (WholeGood w' (L.drop l1) true):=λw' f'=>by have:=qj7 (cutAtN (some ⟨g,0,none⟩) cap l1 1) (cap-l1) (L.drop l1) true w' (qvs (ri.fr f') l1 (by rw[K10.out.2.2.2.2.1];omega)) (λx hx=>K10.out.2.2.2.2.2 x (List.mem_of_mem_drop hx)) (by omega);rwa [ld]at this
     have f910:Fr [p] w w10:=(HJ.o3.trans (K9.out.2.2.mono (by simp))).trans K10.out.2.2.1;have hsl1:=lib.qff huf.qcn l1 (some ⟨g,0,none⟩) N cap l1 rfl (by omega);have hsl2:=lib.qdb huf.qcn l1 (some ⟨g,0,none⟩) N cap l1 rfl (by omega) hcapN;have HL:=zhd5 hM5 W2 W3 f910 hz;clear hM5 ri lt ld W2 W3 f910 hz;go_wp2_with (first
      | (go_at_call 182;(with_reducible refine HL.o1.mono ?_);rintro e w11 (⟨hiw,rfl,f9⟩|⟨hiw,P2,D2,first2,sa2,sc2,rfl,htb,f9⟩);all_goals (try (have K11:=zhd3 hiw htb f9;clear htb));all_goals (try (have K11b:=zhd2 hiw f9));all_goals clear hiw f9)
      | (go_at_call 182;(with_reducible refine (HL.o2 w11 K11.l2).mono ?_);rintro e w12 (⟨hiw,rfl,f9⟩|⟨hiw,P3,D3,first3,sa3,sc3,rfl,htb,f9⟩);all_goals (try (have K12:=zhd3 hiw htb f9;clear htb));all_goals (try (have K12b:=zhd2 hiw f9));all_goals clear hiw f9)
      | (go_at_call 180;refine (qkj R p P2 P3 F bs out (L.take l1) (L.drop l1) a4 oc most oa w12 (K10.out.2.1.fr0 (K11.l2.trans K12.l2)) ((qka K11.o1 (qag _) (λx hx=>qal (hun.out x hx) HL.o3.size)).fr K12.l2 (by simp)) (qka K12.o1 (qag _) (λx hx=>qal (hun.out x hx) (qan HL.o3.size K11.l2.size)))).mono ?_;rintro e w13 (⟨c,hm,hc0,hc1,rfl,f6⟩|⟨o6,a6,oa6,oc6,hm,rfl,s6,f6⟩);all_goals (have Km:=zhd hm;clear hm);all_goals (try (have K6:=zhd2 s6 f6;clear s6 f6))))
     ·have hze:((z:Int)==0)=true:=by assumption
      have hz0:z=0:=by have:=beq_iff_eq.1 hze;omega
      go_ret;exact .inl ⟨3,by rw[HL.o0,if_pos hz0],by decide,by decide,rfl,HL.o3.mono (by simp)⟩
     ·have hze:((z:Int)==0)=false:=by assumption
      have hz0:z≠0:=λhe=>by rw[he]at hze;cases hze
      go_ret;exact .inl ⟨3,by rw[HL.o0,if_neg hz0,if_pos K11b.o0],by decide,by decide,rfl,(HL.o3.trans (K11b.l1.mono (by simp))).mono (by simp)⟩
     ·have hze:((z:Int)==0)=false:=by assumption
      have hz0:z≠0:=λhe=>by rw[he]at hze;cases hze
      go_ret;exact .inl ⟨3,by rw[HL.o0,if_neg hz0,if_neg (by rw[K11.o0];simp),if_pos K12b.o0],by decide,by decide,rfl,((HL.o3.trans (K11.l2.mono (by simp))).trans (K12b.l1.mono (by simp))).mono (by simp)⟩
     ·have hze:((z:Int)==0)=false:=by assumption
      have hz0:z≠0:=λhe=>by rw[he]at hze;cases hze
      go_ret;exact .inl ⟨c,by rw[HL.o0,if_neg hz0,if_neg (by rw[K11.o0];simp),if_neg (by rw[K12.o0];simp),Km.out],hc0,hc1,rfl,(((HL.o3.trans (K11.l2.mono (by simp))).trans (K12.l2.mono (by simp))).mono (by simp)).trans f6⟩
     ·have hze:((z:Int)==0)=false:=by assumption
      have hz0:z≠0:=λhe=>by rw[he]at hze;cases hze
      go_ret;exact .inr ⟨o6,a6,oa6,oc6,by rw[HL.o0,if_neg hz0,if_neg (by rw[K11.o0];simp),if_neg (by rw[K12.o0];simp),Km.out],rfl,K6.o0,(Way.of _ _ _ _ _ ((HL.o3.trans (K11.l2.mono (by simp))).trans (K12.l2.mono (by simp)))).trans K6.l1⟩
    ·go_ret;have hlens:=hm;rw[HJ.o5]at hlens;exact .inl ⟨c,by rw[HJ.o1,if_neg (by rw[K9.o0];simp),idyn3,hlens],hc0,hc1,rfl,((HJ.o3.trans (K9.out.2.2.mono (by simp))).mono (by simp)).trans f10⟩
end Go.Proofs.YtbabjlohkniciaaGreatDoor.inf
