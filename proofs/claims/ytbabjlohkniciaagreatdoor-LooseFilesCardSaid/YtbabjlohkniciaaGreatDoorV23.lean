/-
  Texts of this proof, one behind the other: RfG, RfH, RfI, RfJ.
-/
import Derived.Test.YtbabjlohkniciaaGreatDoorV22
set_option maxHeartbeats 16000000
set_option maxRecDepth 100000
set_option linter.unusedVariables false
set_option linter.unusedSimpArgs false
namespace Go.Proofs.YtbabjlohkniciaaGreatDoor.inf
open Go Go.RowKit lib bm bl huf
theorem qu8 {bs:List UInt8} {q:Nat} (h:q<bs.length):itake bs (8*q) 8 = .ok (byteAt bs q,8*(q+1)):=by
 unfold itake;have e:=qi8 bs q 1;rw[qdi]at e;rw[if_pos (by omega),<-e,qea,qbm h,qai,qao];have:byteAt bs q=bs[q].toNat:=by unfold byteAt;rw[qaf h];rfl
 rw[this];simp only[num];congr 2
theorem qna {bs:List UInt8} {q:Nat} (h:q+2≤bs.length):itake bs (8*q) 16 = .ok (byteAt bs q+256*byteAt bs (q+1),8*(q+2)):=by
 unfold itake;have e:=qi8 bs q 2;rw[if_pos (by omega),show 16=8*2 from rfl,<-e,qea,qbm (show q<bs.length by omega),qai,qbm (show q+1<bs.length by omega),qai,qao];have e0:byteAt bs q=bs[q].toNat:=by unfold byteAt;rw[qaf (by omega)];rfl
 have e1:byteAt bs (q+1)=bs[q+1].toNat:=by unfold byteAt;rw[qaf (by omega)];rfl
 rw[e0,e1];simp only[num];congr 2
theorem qfs {bs:List UInt8} {a n:Nat} (h:8*bs.length<a+n):itake bs a n = .error 4:=by unfold itake;rw[if_neg (by omega)]
theorem qyk {n m:Nat} (h:n+m=65535):n &&& m=0:=by
 obtain rfl:m=2^16-(n+1):=by omega
 refine Nat.eq_of_testBit_eq λi=>?_
 rw[Nat.testBit_and,Nat.testBit_two_pow_sub_succ (by omega),Nat.zero_testBit];cases n.testBit i<;>simp
theorem qlh (a b:Nat) (ha:a<9223372036854775808) (hb:b<9223372036854775808):bits .and .i64 (a:Int) (b:Int)=((a &&& b:Nat):Int):=by have hx:a &&& b<2^63:=Nat.and_lt_two_pow _ (by omega);show IntKind.i64.wrap ((BitVec.ofInt 64 (a:Int) &&& BitVec.ofInt 64 (b:Int)).toNat:Int)=_;rw[BitVec.toNat_and,qh7 a ha,qh7 b hb,qcx];omega
theorem qny {n m:Nat} (h:n+m=65535):bits .and .i64 (n:Int) (m:Int)=0:=by rw[qlh n m (by omega) (by omega),qyk h];rfl
theorem qqd (R p:Nat) (F:List Nat) (bs out:List UInt8) (at_ oc most:Nat) (oa:Option Addr) (w:World) (h:Sw w R p F bs at_ out oa oc most 0) :
  Calls Tryz.prog 99 #[.pointer (some ⟨R,0,none⟩)] w λe w'=>e = .returned (.tuple #[])∧RetW w R p F bs oa most (istored bs most out at_) w':=by
 obtain⟨M,hM⟩:=zex (istored bs most out at_);rw[<-hM];have c0:=cell_of h.box 0;simp only[qae,qaa,qad]at c0;obtain⟨q,hq⟩:=zex ((at_+7)/8);have hal:=bits.qtu p F bs at_ w h.rd;rw[<-hq,qcd]at hal;have hql:q≤bs.length:=by have:=h.pF.2;omega
 have hsb:=h.sb;obtain⟨n0,hn0⟩:=zex (byteAt bs q+256*byteAt bs (q+1));obtain⟨m0,hm0⟩:=zex (byteAt bs (q+2)+256*byteAt bs (q+2+1));have hnb:n0<65536:=by have:=qcf bs q;have:=qcf bs (q+1);omega
 have hmb:m0<65536:=by have:=qcf bs (q+2);have:=qcf bs (q+2+1);omega
 have hM4:bs.length<q+4→M = .error 4:=λhl=>by rw[hM];unfold istored;rw[<-hq,if_neg (by omega)]
 have hMg:q+4≤bs.length→M=if n0+m0=65535 then ibytes bs most n0 out (q+4) else .error 3:=λhl=>by
  rw[hM];unfold istored;rw[<-hq,if_pos hl];have b0:=qcf bs q;have b1:=qcf bs (q+1);have b2:=qcf bs (q+2);have b3:=qcf bs (q+2+1);rw[show q+3=q+2+1 from rfl];by_cases hc:n0+m0=65535
  ·rw[if_pos hc,if_pos (by omega),hn0]
  ·rw[if_neg hc,if_neg (by omega)]
 have H:=zhd6 h hal hn0 hm0 hM4 hMg;clear h hal hn0 hm0 hM4 hMg hM hq;go_enter Tryz.func99,Tryz.ntmps99;go_upto_region 1 with (go_at_call 147;refine H.o1.mono ?_;rintro e w1 ⟨rfl,hr,f1⟩);have s1:Sw w1 R p F bs (8*q) out oa oc most 0:=H.o0.take f1 hr;have K1:=zhd3 s1 (f1.mono (T:=[R,p]) (by simp)) (qdd R p F bs out (8*q) oc most 16 oa w1 s1 (by decide));clear s1 f1 hr c0;go_cut [2] from 11 to 12 (λs2 wc=>∃n a1 E:Nat,s2 = .int .i64 (n:Nat)∧n<65536∧Sw wc R p F bs a1 out oa oc most E∧Fr [R,p] w wc∧((E=0∧q+2≤bs.length∧n=n0∧a1=8*(q+2))∨(E=4∧bs.length<q+2)))
 case first=>
  go_wp2_with (go_at_call 98;refine K1.l2.mono ?_;rintro e w2 (⟨a1,hm,rfl,s2,f2⟩|⟨v,a1,hm,rfl,s2,f2⟩);all_goals (have K2:=zhd3 hm s2 f2;clear hm s2 f2))
  ·go_meet;case rel=>
    refine⟨0,a1,4,rfl,by decide,K2.out.2.1,K1.o1.trans K2.out.2.2,.inr ⟨rfl,?_⟩⟩;rcases qbq bs.length (q+2) with k|k
    ·exact k
    ·have:=K2.out.1;rw[qna k]at this;cases this
  ·go_meet;case rel=>
    rcases qbq bs.length (q+2) with k|k
    ·have:=K2.out.1;rw[qfs (by omega)]at this;cases this
    ·have:=K2.out.1;rw[qna k,<-H.o2]at this;simp only[qa3,qa1]at this;obtain⟨rfl,rfl⟩:=this;exact⟨_,_,0,rfl,hnb,K2.out.2.1,K1.o1.trans K2.out.2.2,.inl ⟨rfl,k,rfl,rfl⟩⟩
 case rest=>
  obtain⟨n,a1,E,rfl,hnb1,s2,f2,hE⟩:=hcut;have K2:=zhd3 s2 f2 hE;obtain⟨w2,hw2⟩:=zex wc;rw[<-hw2]at K2 ⊢;clear s2 f2 hE hw2 K1;go_upto_region 2 with fail;go_cut [3] from 13 to 14 (λs3 wc=>∃m a2 E2:Nat,s3 = .int .i64 (m:Nat)∧m<2147483648∧Sw wc R p F bs a2 out oa oc most E2∧Fr [R,p] w wc∧((E2=0∧q+4≤bs.length∧n=n0∧m=m0∧a2=8*(q+4))∨(E2=4∧bs.length<q+4)))
  case first=>
   by_cases h0:E=0
   ·subst h0;obtain⟨k1,hnn,rfl⟩:q+2≤bs.length∧n=n0∧a1=8*(q+2):=by
     rcases K2.out.2.2 with⟨_,k⟩|⟨k,_⟩
     ·exact k
     ·cases k
    have htk:=zhd (qdd R p F bs out (8*(q+2)) oc most 16 oa w2 K2.out.1 (by decide));have HNN:=zhd hnn;clear hnn;go_wp2_with (go_at_call 98;refine htk.out.mono ?_;rintro e w3 (⟨a2,hm,rfl,s3,f3⟩|⟨v,a2,hm,rfl,s3,f3⟩);all_goals (have K3:=zhd3 hm s3 f3;clear hm s3 f3))
    ·go_meet;case rel=>
      refine⟨0,a2,4,rfl,by decide,K3.out.2.1,K2.out.2.1.trans K3.out.2.2,.inr ⟨rfl,?_⟩⟩;rcases qbq bs.length (q+4) with k|k
      ·exact k
      ·have:=K3.out.1;rw[qna (by omega)]at this;cases this
    ·go_meet;case rel=>
      rcases qbq bs.length (q+4) with k|k
      ·have:=K3.out.1;rw[qfs (by omega)]at this;cases this
      ·have:=K3.out.1;rw[qna (by omega),<-H.o3]at this;simp only[qa3,qa1]at this;obtain⟨rfl,rfl⟩:=this;exact⟨_,_,0,rfl,by omega,K3.out.2.1,K2.out.2.1.trans K3.out.2.2,.inl ⟨rfl,k,HNN.out,rfl,rfl⟩⟩
   ·have hE4:E=4∧bs.length<q+2:=by
     rcases K2.out.2.2 with⟨k,_⟩|k
     ·exact absurd k h0
     ·exact k
    have htk:=zhd2 hE4 (qvn R p F bs out a1 oc most 16 E oa w2 K2.out.1 h0 (by decide));clear hE4 h0;go_wp2_with (go_at_call 98;refine htk.out.2.mono ?_;rintro e w3 ⟨v,a2,rfl,hv,s3,f3⟩;have K3:=zhd2 s3 f3;clear s3 f3);go_meet;case rel=>exact⟨v,a2,E,rfl,hv,K3.out.1,K2.out.2.1.trans K3.out.2,.inr ⟨htk.out.1.1,by have:=htk.out.1.2;omega⟩⟩
  case rest=>
   obtain⟨m,a2,E2,rfl,hmb1,s3,f3,hE2⟩:=hcut;have K3:=zhd4 s3 f3 hE2 (qdt R p F bs out a2 oc most E2 3 oa wc s3);clear s3 f3 hE2 K2;go_upto_region 3 with fail;go_cut [24] from 15 to 24 (λs24 wd=>s24 = .bool (decide (n+m≠65535))∧wc=wd)
   case first=>
    by_cases hs:n+m=65535
    ·have e1:(n:Int)+(m:Int)=65535:=by omega
     have e2:=qny hs;have e3:=zhd hs;clear hs;go_wp2;go_meet;case rel=>exact⟨by have:=e3.out;simp[this],rfl⟩
    ·have e1:(((n:Int)+(m:Int))!=65535)=true:=by simp;omega
     have e3:=zhd hs;clear hs;go_wp2;go_meet;case rel=>exact⟨by have:=e3.out;simp[this],rfl⟩
   case rest=>
    obtain⟨rfl,rfl⟩:=hcut;obtain⟨bt,hbt⟩:∃b:Bool,b=decide (n+m≠65535):=⟨_,rfl⟩;rw[<-hbt];have HT:=zhd hbt;clear hbt;go_upto_if 24 with fail;go_cut [] from 25 to 26 (λwd=>∃E3:Nat,Sw wd R p F bs a2 out oa oc most E3∧Fr [R,p] w wd∧((E3=0∧M=ibytes bs most n out (q+4)∧a2=8*(q+4))∨(E3≠0∧E3<100∧M = .error E3)))
    case first=>
     cases bt
     ·go_wp2;go_meet;case rel=>
       refine⟨E2,K3.out.1,K3.out.2.1,?_⟩;rcases K3.out.2.2.1 with⟨k1,k2,k3,k4,k5⟩|⟨k1,k2⟩
       ·have hs:n+m=65535:=by simpa using HT.out
        refine .inl ⟨k1,?_,k5⟩;rw[H.l5 k2,<-k3,<-k4,if_pos hs]
       ·exact .inr ⟨by omega,by omega,by rw[k1];exact H.o4 k2⟩
     ·go_wp2_with (go_at_call 103;refine K3.out.2.2.2.mono ?_;rintro e w4 ⟨rfl,S4,f4⟩;have K4:=zhd2 S4 f4;clear S4 f4);go_meet;case rel=>
       have hs:n+m≠65535:=by simpa using HT.out
       refine⟨_,K4.o0,K3.out.2.1.trans (K4.l1.mono (by simp)),.inr ?_⟩;rcases K3.out.2.2.1 with⟨k1,k2,k3,k4,k5⟩|⟨k1,k2⟩
       ·rw[if_pos k1];refine⟨by decide,by decide,?_⟩;rw[H.l5 k2,<-k3,<-k4,if_neg hs]
       ·rw[if_neg (by omega),k1];exact⟨by decide,by decide,H.o4 k2⟩
    case rest=>
     obtain⟨E3,s4,f4,hE3⟩:=hcut;have K4:=zhd3 s4 f4 hE3;obtain⟨w4,hw4⟩:=zex wc;rw[<-hw4]at K4 ⊢;clear s4 f4 hE3 hw4 K3;go_wp2;go_loopg [4,5] n (λk s4 s5 wr=>∃(i:Nat) (a4:Nat) (out1:List UInt8) (oa1:Option Addr) (oc1 E4:Nat),s4 = .int .i64 (i:Nat)∧i+k=n∧Sw wr R p F bs a4 out1 oa1 oc1 most E4∧Way w4 R p oa wr oa1∧
      ((E4=0∧M=ibytes bs most k out1 (q+4+i)∧a4=8*(q+4+i))∨(E4≠0∧E4<100∧M = .error E4)))
     case atStart=>exact⟨0,a2,out,oa,oc,E3,rfl,by omega,K4.o0,.refl _ _ _ _,K4.out.2.2⟩
     case round=>
      obtain⟨i,a4,out1,oa1,oc1,E4,rfl,hik,hst,hway,hcs⟩:=hrel;have c3:=cell_of hst.box 3;simp only[qae,qaa,qad]at c3;have hW:=(Way.ofRp _ _ _ _ _ K4.l1.1).trans hway;by_cases hi:i<n
      ·by_cases h0:E4=0
       ·subst h0;obtain⟨k,rfl⟩:∃k,gk=k+1:=⟨gk-1,by omega⟩;obtain⟨hib,rfl⟩:M=ibytes bs most (k+1) out1 (q+4+i)∧a4=8*(q+4+i):=by
         rcases hcs with⟨_,k⟩|⟨k,_⟩
         ·exact k
         ·exact absurd rfl k
        have htk:=qdd R p F bs out1 (8*(q+4+i)) oc1 most 8 oa1 wr hst (by decide);have HJ:=zhd5 hst hway hib htk hik;clear hst hway hcs hib htk hW;go_upto_region 9 with (go_at_call 98;refine HJ.out.2.2.2.1.mono ?_;rintro e w5 (⟨a5,hm,rfl,s5,f5⟩|⟨v,a5,hm,rfl,s5,f5⟩))
        ·have c3:=cell_of s5.box 3;simp only[qae,qaa,qad]at c3;have K5:=zhd3 hm s5 f5;clear hm s5 f5;go_wp2;go_roundg k;case measure=>have:=HJ.out.2.2.2.2;omega
         case rel=>obtain⟨j1,j2,j3,j4,j5⟩:=HJ.out;refine⟨i+1,a5,out1,oa1,oc1,4,by go_num,by omega,K5.o1,j2.trans (Way.ofRp _ _ _ _ _ K5.l2),.inr ⟨by decide,by decide,?_⟩⟩;rw[j3,ibytes,if_neg];intro hq;have:=K5.o0;rw[qu8 hq]at this;cases this
        ·have c3:=cell_of s5.box 3;simp only[qae,qaa,qad]at c3;have hql:q+4+i<bs.length:=by
          rcases qbq (q+4+i) bs.length with k|k
          ·exact k
          ·rw[qfs (by omega)]at hm;cases hm
         have hm2:=hm;rw[qu8 hql]at hm2;simp only[qa3,qa1]at hm2;obtain⟨hv,rfl⟩:=hm2;have hvb:v<256:=by rw[<-hv];exact qcf _ _
         have hvu:UInt8.ofNat v=bs[q+4+i]?.getD 0:=by rw[<-hv];unfold byteAt;exact UInt8.ofNat_toNat
         have hpt:=za5 R p F bs out1 (8*(q+4+i+1)) oc1 most v oa1 w5 s5 hvb;rw[hvu]at hpt;have hpu:=zhd hvu;have K5:=zhd3 hpt f5 hql;clear hm s5 f5 hv hvu hpt hql;go_wp2_with (go_at_call 148;refine K5.o0.mono ?_;rintro e w6 ⟨rfl,h6⟩;have K6:=zhd h6;clear h6);go_roundg k;case measure=>have:=HJ.out.2.2.2.2;omega
         case rel=>
          obtain⟨j1,j2,j3,j4,j5⟩:=HJ.out;obtain⟨a6,o6,oa6,oc6,E6,s6,y6,h6⟩:=K6.out;refine⟨i+1,a6,o6,oa6,oc6,E6,by go_num,by omega,s6,j2.trans ((Way.ofRp _ _ _ _ _ K5.o1).trans y6),?_⟩;have hib:=j3;rw[ibytes,if_pos K5.l2]at hib;rcases h6 with⟨k1,k2,k3⟩|⟨k1,k2⟩
          ·exact .inr ⟨by omega,k3,by rw[hib,qwi k1]⟩
          ·obtain⟨q1,q2⟩:=zbb k1;rw[q1]at hib;exact .inl ⟨k2,hib,q2⟩
       ·have d0:((E4:Int)==0)=false:=by simp;omega
        have hM3:M = .error E4∧E4<100:=by
         rcases hcs with⟨k1,_⟩|⟨k1,k2,k3⟩
         ·exact absurd k1 h0
         ·exact⟨k3,k2⟩
        have HFin:Go.RowKit.Hid (RetW w R p F bs oa most M wr):=zhd ⟨a4,out1,oa1,oc1,E4,hst,hW,.inl ⟨hM3.1,by omega,hM3.2⟩⟩;clear hst hway hcs hM3 h0 hW;go_wp2;refine bodyPost_end (results_none rfl _ _ _) rfl ?_;exact⟨rfl,HFin.out⟩
      ·obtain rfl:i=n:=by omega
       obtain rfl:gk=0:=by omega
       have HFin:Go.RowKit.Hid (RetW w R p F bs oa most M wr):=zhd ⟨a4,out1,oa1,oc1,E4,hst,hW,by
        rcases hcs with⟨k1,k2,k3⟩|⟨k1,k2,k3⟩
        ·exact .inr ⟨by rw[k2,ibytes,k3],k1⟩
        ·exact .inl ⟨k3,by omega,k2⟩⟩
       clear hst hway hcs hW;go_wp2;refine bodyPost_end (results_none rfl _ _ _) rfl ?_;exact⟨rfl,HFin.out⟩
theorem qha (n:Nat):fixed (n+1)=fixed n++[ifix n]:=by unfold fixed;rw[qjo,qbt];rfl
theorem qfy (a b:List Nat):ints (a++b)=ints a++ints b:=by simp[ints]
def RFixedGood (w:World) (e:Ending) (w':World):Prop:=
 ∃a1 c1 a2 c2,e = .returned (.tuple #[.slice a1 288 c1,.slice a2 32 c2])∧Made w w' 3 1 a1 288 c1 (ints (fixed 288))∧Made w w' 3 1 a2 32 c2 (ints (List.replicate 32 5))
theorem qto (w:World):Calls Tryz.prog 100 #[] w (RFixedGood w):=by
 go_enter Tryz.func100,Tryz.ntmps100;go_wp2;go_loopg [2,4,5] 288 (λk s2 s4 s5 wr=>∃(i:Nat) (ao:Option Addr) (cp:Nat),s4 = .int .i64 (i:Nat)∧s2 = .slice ao i cp∧i+k=288∧Made w wr 3 1 ao i cp (ints (fixed i)));case atStart=>exact⟨0,none,0,rfl,rfl,rfl,.none w _ _⟩
 case round=>
  obtain⟨i,ao,cp,rfl,rfl,hik,hm⟩:=hrel;have HI:=zhd2 hm hik;clear hm;by_cases hi:i<288
  ·obtain⟨k,rfl⟩:∃k,gk=k+1:=⟨gk-1,by omega⟩;clear hik;by_cases h1:i<144
   ·go_wp2_with (refine qa5 qcn rfl _ _ rfl (.slice ao i cp) i (ints (fixed i)) (blk ao) rfl (qbp ao i cp) (HI.o0.fr2 ((Fr.refl [] _).alloc _)).own (some ⟨wr.heap.size,0,none⟩) 1 1 [.int .i64 8] (by first|rfl|simp) (qag _) (λh=>by cases h) (qdu _ _ _ _ (qa4 _ _)) rfl (by intro u hu;simp only[qaz]at hu;rw[hu];rfl) (by omega) (by unfold maxLen;omega) ?_;intro ao2 cp2 w2 hap;have HA:=zhd ((HI.o0.fr2 ((Fr.refl [] _).alloc _)).app hap);clear hap);go_roundg k;case measure=>omega
    case rel=>refine⟨i+1,ao2,cp2,by go_num,rfl,by have:=HI.l1;omega,?_⟩;have hA3:=HA.out;rw[qha,qfy,zbh h1];exact hA3
   ·by_cases h2:i<256
    ·have h4:¬280≤i:=by omega
     go_wp2_with (refine qa5 qcn rfl _ _ rfl (.slice ao i cp) i (ints (fixed i)) (blk ao) rfl (qbp ao i cp) (HI.o0.fr2 ((Fr.refl [] _).alloc _)).own (some ⟨wr.heap.size,0,none⟩) 1 1 [.int .i64 9] (by first|rfl|simp) (qag _) (λh=>by cases h) (qdu _ _ _ _ (qa4 _ _)) rfl (by intro u hu;simp only[qaz]at hu;rw[hu];rfl) (by omega) (by unfold maxLen;omega) ?_;intro ao2 cp2 w2 hap;have HA:=zhd ((HI.o0.fr2 ((Fr.refl [] _).alloc _)).app hap);clear hap);go_roundg k;case measure=>omega
     case rel=>refine⟨i+1,ao2,cp2,by go_num,rfl,by have:=HI.l1;omega,?_⟩;have hA3:=HA.out;rw[qha,qfy,zbg h1 h2];exact hA3
    ·by_cases h3:i<280
     ·have h4:¬280≤i:=by omega
      go_wp2_with (refine qa5 qcn rfl _ _ rfl (.slice ao i cp) i (ints (fixed i)) (blk ao) rfl (qbp ao i cp) (HI.o0.fr2 ((Fr.refl [] _).alloc _)).own (some ⟨wr.heap.size,0,none⟩) 1 1 [.int .i64 7] (by first|rfl|simp) (qag _) (λh=>by cases h) (qdu _ _ _ _ (qa4 _ _)) rfl (by intro u hu;simp only[qaz]at hu;rw[hu];rfl) (by omega) (by unfold maxLen;omega) ?_;intro ao2 cp2 w2 hap;have HA:=zhd ((HI.o0.fr2 ((Fr.refl [] _).alloc _)).app hap);clear hap);go_roundg k;case measure=>omega
      case rel=>refine⟨i+1,ao2,cp2,by go_num,rfl,by have:=HI.l1;omega,?_⟩;have hA3:=HA.out;rw[qha,qfy,zbf h1 h2 h3];exact hA3
     ·have h4:280≤i:=by omega
      go_wp2_with (refine qa5 qcn rfl _ _ rfl (.slice ao i cp) i (ints (fixed i)) (blk ao) rfl (qbp ao i cp) (HI.o0.fr2 ((Fr.refl [] _).alloc _)).own (some ⟨wr.heap.size,0,none⟩) 1 1 [.int .i64 8] (by first|rfl|simp) (qag _) (λh=>by cases h) (qdu _ _ _ _ (qa4 _ _)) rfl (by intro u hu;simp only[qaz]at hu;rw[hu];rfl) (by omega) (by unfold maxLen;omega) ?_;intro ao2 cp2 w2 hap;have HA:=zhd ((HI.o0.fr2 ((Fr.refl [] _).alloc _)).app hap);clear hap);go_roundg k;case measure=>omega
      case rel=>refine⟨i+1,ao2,cp2,by go_num,rfl,by have:=HI.l1;omega,?_⟩;have hA3:=HA.out;rw[qha,qfy,zbe h1 h2 h3];exact hA3
  ·obtain rfl:i=288:=by omega
   clear hik;obtain⟨wo,rfl⟩:∃wo:World,wo=wr:=⟨_,rfl⟩;go_wp2;go_loopg [3,6] 32 (λk s3 s6 wr=>∃(j:Nat) (a2:Option Addr) (c2:Nat),s6 = .int .i64 (j:Nat)∧s3 = .slice a2 j c2∧j+k=32∧Made wo wr 3 1 a2 j c2 (ints (List.replicate j 5)));case atStart=>exact⟨0,none,0,rfl,rfl,rfl,.none wo _ _⟩
   case round=>
    obtain⟨j,a2,c2,rfl,rfl,hjk,hm⟩:=hrel;have HJ:=zhd2 hm hjk;clear hm;by_cases hj:j<32
    ·obtain⟨k,rfl⟩:∃k,gk=k+1:=⟨gk-1,by omega⟩;clear hjk;go_wp2_with (refine qa5 qcn rfl _ _ rfl (.slice a2 j c2) j (ints (List.replicate j 5)) (blk a2) rfl (qbp a2 j c2) (HJ.o0.fr2 ((Fr.refl [] _).alloc _)).own (some ⟨wr.heap.size,0,none⟩) 1 1 [.int .i64 5] (by first|rfl|simp) (qag _) (λh=>by cases h) (qdu _ _ _ _ (qa4 _ _)) rfl (by intro u hu;simp only[qaz]at hu;rw[hu];rfl) (by omega) (by unfold maxLen;omega) ?_;intro ao2 cp2 w2 hap;have HA:=zhd ((HJ.o0.fr2 ((Fr.refl [] _).alloc _)).app hap);clear hap);go_roundg k;case measure=>omega
     case rel=>refine⟨j+1,ao2,cp2,by go_num,rfl,by have:=HJ.l1;omega,?_⟩;have hA3:=HA.out;rw[qdw,qfy];exact hA3
    ·obtain rfl:j=32:=by omega
     clear hjk;go_wp2;go_ret2;exact⟨ao,cp,a2,c2,rfl,HI.o0.fr2 HJ.o0.fr,HJ.o0.pre HI.o0.fr⟩
theorem qtk (a:Option Addr) (cap:Nat) (ls:List Nat) (w:World) (h:Ri w a cap ls) (hle:∀l∈ls,l≤15) (hlen:ls.length≤400) :
  Calls Tryz.prog 153 #[.slice a ls.length cap] w λe w'=>e = .returned (.bool (decide (some_ ls<2)&&ones ls))∧w=w':=by
 obtain⟨L,hL⟩:=zex ls.length;obtain⟨rv,hrv⟩:=zex (decide (some_ ls<2)&&ones ls);rw[<-hL]at hlen ⊢;rw[<-hrv];have H:=zhd4 h hle hL hrv;clear h hle hL hrv;go_enter Tryz.func153,Tryz.ntmps153;go_wp2;go_loopg [3,4] L (λk s3 s4 wr=>∃i:Nat,s4 = .int .i64 (i:Nat)∧s3 = .int .i64 (some_ (ls.take i):Nat)∧i+k=L∧ones (ls.take i)=true∧w=wr);case atStart=>exact⟨0,rfl,rfl,by omega,rfl,rfl⟩
 case round=>
  obtain⟨i,rfl,rfl,hik,hon,rfl⟩:=hrel;have hsl:=qqa (ls.take i);rw[qar]at hsl;by_cases hi:i<L
  ·obtain⟨k,rfl⟩:∃k,gk=k+1:=⟨gk-1,by omega⟩;have hil:i<ls.length:=by rw[<-H.out.2.2.1];exact hi
   obtain⟨g,o,rfl,hc⟩:=H.out.1.at hil;have h15:=H.out.2.1 _ (qb7 hil);have hs1:=some_snoc (ls.take i) ls[i];have ho1:=qo4 (ls.take i) ls[i];rw[<-qbc hil]at hs1 ho1;have hall:1<ls[i]→ones ls=false:=λh=>by unfold ones;refine List.all_eq_false.2 ⟨ls[i],qb7 hil,?_⟩;simp;omega
   generalize ls[i]=x at *;generalize hA:some_ (ls.take i)=A at *;have HE:=zhd5 hs1 ho1 hall hon hik;clear hs1 ho1 hall hon hA hik;by_cases h1:1<x
   ·have d1:decide ((1:Int)<x)=true:=by simp;omega
    have hr:rv=false:=by rw[H.out.2.2.2,HE.out.2.2.1 h1,Bool.and_false]
    subst hr;go_wp2;go_ret;exact⟨rfl,rfl⟩
   ·have d1:decide ((1:Int)<x)=false:=by simp;omega
    have hb:A≤400:=by omega
    go_wp2;go_roundg k;case measure=>omega
    case rel=>
     obtain⟨k1,k2,k3,k4,k5⟩:=HE.out;refine⟨i+1,by go_num,?_,by omega,by rw[k2,k4];simp;omega,rfl⟩;rw[k1];by_cases hx:0<x
     ·rw[if_pos hx,show x=1 by omega];go_num
     ·rw[if_neg hx,show x=0 by omega];go_num
  ·obtain rfl:i=L:=by omega
   have ht:ls.take i=ls:=qa9 (by rw[<-H.out.2.2.1];exact qag _);rw[ht]at hon hsl ⊢;have hr:rv=decide (some_ ls<2):=by rw[H.out.2.2.2,hon,Bool.and_true]
   have hR:=zhd hr;generalize some_ ls=A at *;clear hr hon ht;go_wp2;go_ret;refine⟨qmb (qrk ?_),rfl⟩;rw[hR.out];first
    | rfl
    | (rw[quy];simp;omega)
    | simp
def irep (bs:List UInt8) (ls:List Nat) (n:Nat) (out:List Nat) (a:Nat):Except Nat (List Nat×Nat):=
 match isym bs ls a with
 | .error e=>.error e
 | .ok (s,a1)=>if s<16 then .ok (out++[s],a1) else
  match itake bs a1 (wide s) with
  | .error e=>.error e
  | .ok (v,a2)=>if (s=16∧out=[])∨n-out.length<least s+v then .error 3 else
   .ok (out++List.replicate (least s+v) (if s=16 then out.getLast?.getD 0 else 0),a2)
theorem qz9 (bs:List UInt8) (ls:List Nat) (n f:Nat) (out:List Nat) (a:Nat):ilens bs ls n (f+1) out a=if n≤out.length then .ok (out,a) else match irep bs ls n out a with | .error e=>.error e | .ok (o,a1)=>ilens bs ls n f o a1:=by
 rw[ilens];unfold irep;split
 ·rfl
 ·cases isym bs ls a with
  | error e=>rfl
  | ok x=>
   obtain⟨s,a1⟩:=x;dsimp only;split
   ·rfl
   ·cases itake bs a1 (wide s) with
    | error e=>rfl
    | ok y=>
     obtain⟨v,a2⟩:=y;dsimp only;split
     ·rfl
     ·rfl
structure Ll (K:Nat) (w:World) (B:Nat) (la:Option Addr) (lc:Nat) (L:List Nat):Prop where
 box:w.heap[B]?=some (.cells #[.slice la L.length lc] 128 (0,0))
 own:w.ownsRow 0 3 1 (.slice la L.length lc) L.length (ints L)
 bK:K≤B
 new:∀x∈blk la,K≤x∧x≠B
theorem Ll.fr {K:Nat} {S:List Nat} {w w':World} {B:Nat} {la:Option Addr} {lc:Nat} {L:List Nat} (h:Ll K w B la lc L) (f:Fr S w w') (hS:∀x∈S,x<K):Ll K w' B la lc L:=by
 refine⟨f.blk h.box (λhx=>?_),qa7 h.own f (λk hk hx=>?_),h.bK,h.new⟩
 ·have:=hS _ hx;have:=h.bK;omega
 ·have hk2:k∈blk la:=by rw[<-qbp la L.length lc,hk];simp
  have:=hS _ hx;have:=(h.new k hk2).1;omega
theorem Ll.app {K:Nat} {w1 w2:World} {B n:Nat} {la ao2:Option Addr} {lc cp2 v:Nat} {L:List Nat} {o:Obj} (h:Ll K w1 B la lc L) (hn:n=L.length) (hK:K≤w1.heap.size)
  (A:Appended (w1.alloc o) w2 3 1 (blk la) ao2 (n+1) cp2 (ints L++[.int .i64 v])) :
  Ll K (w2.setCell ⟨B,0,none⟩ (.slice ao2 (n+1) cp2)) B ao2 cp2 (L++[v])∧Fr (B::blk la) w1 (w2.setCell ⟨B,0,none⟩ (.slice ao2 (n+1) cp2))∧∀x∈blk ao2,x∈blk la∨w1.heap.size≤x:=by
 have f2:Fr (blk la) w1 w2:=((Fr.refl _ w1).alloc _).trans A.fr;have fB:Fr [B] w2 (w2.setCell ⟨B,0,none⟩ (.slice ao2 (n+1) cp2)):=(Fr.refl [B] w2).setCell (by simp) _;have hB1:B∉blk la:=λhx=>(h.new B hx).2 rfl
 have b2:=f2.blk h.box hB1;have hBw:B<w1.heap.size:=lt_of_block h.box;have hB2:B∉blk ao2:=λhx=>by
  rcases A.at_ B hx with k|k
  ·exact hB1 k
  ·rw[qav]at k;omega
 have e:(L++[v]).length=n+1:=by rw[hn];simp
 refine⟨⟨?_,?_,h.bK,λx hx=>?_⟩,?_,λx hx=>?_⟩
 ·rw[qa0 b2,e];rfl
 ·rw[e,qfy];exact qa7 A.own fB (λk hk=>by
   have hk2:k∈blk ao2:=by rw[<-qbp ao2 (n+1) cp2,hk];simp
   simp
   rintro rfl
   exact hB2 hk2)
 ·refine⟨?_,λhe=>hB2 (by rw[<-he];exact hx)⟩;rcases A.at_ x hx with k|k
  ·exact (h.new x k).1
  ·rw[qav]at k;omega
 ·exact (f2.mono (λx hx=>.inl (by simp[hx]))).trans (fB.mono (by simp))
 ·rcases A.at_ x hx with k|k
  ·exact .inl k
  ·rw[qav]at k;exact .inr (by omega)
def RepR (K:Nat) (w:World) (R p:Nat) (F:List Nat) (bs out:List UInt8) (oa:Option Addr) (oc most B:Nat) (la:Option Addr) (m:Except Nat (List Nat×Nat)) (w':World):Prop:=
 ∃a' la' lc' L' E,Sw w' R p F bs a' out oa oc most E∧Ll K w' B la' lc' L'∧Fr (R::p::B::blk la) w w'∧(∀x∈blk la',x∈blk la∨w.heap.size≤x)∧((m = .error E∧0<E∧E<100)∨(m = .ok (L',a')∧E=0))
theorem zcm {L:List Nat} (h:L≠[]):L[L.length-1]?=some (L.getLast?.getD 0):=by
 rw[List.getLast?_eq_getElem?];have:L.length-1<L.length:=by have:=List.length_pos_iff.2 h;omega
 rw[qaf this];rfl
theorem qgc (l:List Nat):(ints l).length=l.length:=by simp[ints]
theorem isym19 {bs:List UInt8} {cl:List Nat} {a s a1:Nat} (hc:cl.length=19) (h:isym bs cl a = .ok (s,a1)):s<16∨s=16∨s=17∨s=18:=by have:=(qfm h).1;omega
theorem qzd (K R p:Nat) (F:List Nat) (bs out:List UInt8) (ca:Option Addr) (ccap:Nat) (cl:List Nat) (B:Nat) (la:Option Addr) (lc N:Nat) (L:List Nat) (at_ oc most:Nat) (oa:Option Addr) (w:World)
  (h:Sw w R p F bs at_ out oa oc most 0) (hc:Ld w ca ccap cl (R::p::blk oa)) (hcl:cl.length=19) (hl:Ll K w B la lc L) (hR:R<K) (hF:∀x∈F,x<K) (ho:∀x∈blk oa,x<K) (hK:K≤w.heap.size) (hLN:L.length<N) (hN:N≤400) :
  Calls Tryz.prog 152 #[.pointer (some ⟨R,0,none⟩),.slice ca 19 ccap,.pointer (some ⟨B,0,none⟩),.int .i64 N] w λe w'=>e = .returned (.tuple #[])∧RepR K w R p F bs out oa oc most B la (irep bs cl N L at_) w':=by
 obtain⟨M,hM⟩:=zex (irep bs cl N L at_);rw[<-hM];have hpK:p<K:=hF p h.pF.1;have hsy:=qnc R p F bs out at_ oc most oa ca ccap 19 cl w h hc hcl.symm;obtain⟨C,hC⟩:=zex L.length;rw[<-hC]at hLN;have H:=zhd8 h hl hM hsy hcl hC (And.intro hR (And.intro hF (And.intro ho hpK))) hK;clear h hc hcl hl hM hsy hC hR hF ho hK hpK;have hRp:∀(w1 w2:World),Fr [R,p] w1 w2→∀la lc L,Ll K w1 B la lc L→Ll K w2 B la lc L:=λ_ _ f _ _ _ l=>l.fr f (λx hx=>by
  simp only[qaw,qby,or_false]at hx
  rcases hx with rfl|rfl
  ·exact H.out.2.2.2.2.2.2.1.1
  ·exact H.out.2.2.2.2.2.2.1.2.2.2)
 have HRp:=zhd hRp;clear hRp;go_enter Tryz.func152,Tryz.ntmps152;go_upto_region 1 with (go_at_call 149;refine H.out.2.2.2.1.mono ?_;rintro e w1 (⟨a1,c,hm,hc0,hc1,rfl,s1,f1⟩|⟨s,a1,hm,rfl,s1,f1⟩))
 ·have c3:=cell_of s1.box 3;simp only[qae,qaa,qad]at c3;have d3:((c:Int)!=0)=true:=by simp;omega
  have hM1:M = .error c:=by rw[H.out.2.2.1];unfold irep;rw[hm]
  have K1:=zhd3 hM1 s1 f1;clear hm s1 f1 hM1;go_wp2;refine bodyPost_ret (results_none rfl _ _ _) rfl ?_;exact⟨rfl,a1,la,lc,L,c,K1.o1,HRp.out _ _ K1.l2 _ _ _ H.out.2.1,K1.l2.mono (by simp),λx hx=>.inl hx,.inl ⟨K1.o0,hc0,hc1⟩⟩
 ·have c3:=cell_of s1.box 3;simp only[qae,qaa,qad]at c3;have hs4:=isym19 H.out.2.2.2.2.1 hm;have hsb:s<400:=by rcases hs4 with k|k|k|k<;>omega
  have l1:=HRp.out _ _ f1 _ _ _ H.out.2.1;have K1:=zhd4 hm s1 f1 l1;have HS:=zhd hs4;clear hm s1 f1 l1 hs4;go_upto_block 0 with fail;clear c3;go_cut [9,10] from 22 to 66 (λs9 s10 wc=>∃v n a2 E:Nat,s9 = .int .i64 (v:Nat)∧s10 = .int .i64 (n:Nat)∧Sw wc R p F bs a2 out oa oc most E∧Fr [R,p] w wc∧n≤300∧((E=0∧M=if N-C<n then .error 3 else .ok (L++List.replicate n v,a2))∨(E≠0∧E<100∧M = .error E)))
  case first=>
   rcases HS.out with hs|rfl|rfl|rfl
   ·have d16:((s:Int)==16)=false:=by simp;omega
    have d17:((s:Int)==17)=false:=by simp;omega
    have d18:((s:Int)==18)=false:=by simp;omega
    have H16:=zhd hs;clear hs;go_wp2;go_meet;case rel=>refine⟨s,1,a1,0,rfl,rfl,K1.o1,K1.l2.1,by decide,.inl ⟨rfl,?_⟩⟩;rw[if_neg (by omega),H.out.2.2.1];unfold irep;rw[K1.o0];dsimp only;rw[if_pos H16.out];rfl
   ·have htk:=zhd (qdd R p F bs out a1 oc most 2 oa w1 K1.o1 (by decide));go_upto_region 7 with (go_at_call 98;refine htk.out.mono ?_;rintro e w2 (⟨a2,hm,rfl,s2,f2⟩|⟨v,a2,hm,rfl,s2,f2⟩))
    ·have c3:=cell_of s2.box 3;simp only[qae,qaa,qad]at c3;have K2:=zhd3 hm s2 f2;clear hm s2 f2;go_wp2;go_meet;case rel=>refine⟨16,3,a2,4,rfl,rfl,K2.out.2.1,K1.l2.1.trans K2.out.2.2,by decide,.inr ⟨by decide,by decide,?_⟩⟩;rw[H.out.2.2.1];unfold irep;rw[K1.o0];dsimp only;rw[if_neg (by decide),show wide 16=2 from rfl,K2.out.1]
    ·have hv:=qcp hm;have hvb:v<4:=hv;have ew:wrap64 ((v:Int)+3)=((v+3:Nat):Int):=by unfold wrap64;omega
     rw[ew];have l2:=HRp.out _ _ f2 _ _ _ K1.out.2.2.2;have c3:=cell_of s2.box 3;have cB:=cell_of l2.box 0;simp only[qae,qaa,qad]at c3 cB;rw[<-H.out.2.2.2.2.2.1]at cB;have hM2:M=if (L=[])∨N-C<v+3 then .error 3 else .ok (L++List.replicate (v+3) (L.getLast?.getD 0),a2):=by rw[H.out.2.2.1];unfold irep;rw[K1.o0];dsimp only;rw[if_neg (by decide),show wide 16=2 from rfl,hm];dsimp only;rw[if_pos rfl,<-H.out.2.2.2.2.2.1,show least 16=3 from rfl,qil 3 v];simp only[true_and]
     have hfl:=qdt R p F bs out a2 oc most 0 3 oa w2 s2;have K2:=zhd5 hM2 s2 f2 l2 hfl;clear hm s2 f2 hv ew l2 hM2 hfl;by_cases hc0:C=0
     ·have hL0:L=[]:=qbs (by rw[<-H.out.2.2.2.2.2.1];exact hc0);have HL0:=zhd hL0;have d0:((C:Int)==0)=true:=by simp;omega
      have HC0:=zhd hc0;clear hL0 hc0;go_upto_region 9 with (go_at_call 103;refine K2.out.2.2.2.2.mono ?_;rintro e w3 ⟨rfl,S3,f3⟩);have s3:Sw w3 R p F bs a2 out oa oc most 3:=S3;clear S3 c3;have c3:=cell_of s3.box 3;simp only[qae,qaa,qad]at c3;have K3:=zhd2 s3 f3;clear s3 f3 cB d0;go_wp2;go_meet;case rel=>exact⟨16,v+3,a2,3,rfl,by first|rfl|go_num,K3.o0,K1.l2.1.trans (K2.out.2.2.1.trans (K3.l1.mono (by simp))),by omega,.inr ⟨by decide,by decide,by rw[K2.out.1,if_pos (.inl HL0.out)]⟩⟩
     ·have d0:((C:Int)==0)=false:=by simp;omega
      have hLn:L≠[]:=λh=>hc0 (by rw[H.out.2.2.2.2.2.1,h];rfl)
      have hlst:=zcm hLn;rw[<-H.out.2.2.2.2.2.1]at hlst;obtain⟨g,o,rfl,hcs⟩:=(qcm K2.out.2.2.2.1.own).at (by rw[qgc,<-H.out.2.2.2.2.2.1];omega);obtain⟨x,hx⟩:=zex (L.getLast?.getD 0);have hcx:=hcs (C-1) (.int .i64 x) (by unfold ints;rw[qbx,hlst,hx];rfl);obtain⟨C1,hC1⟩:∃C1,C=C1+1:=⟨C-1,by omega⟩;have eC:C-1=C1:=by omega
      rw[eC]at hcx;have eC2:(C:Int)-1=(C1:Int):=by omega
      have eC3:wrap64 ((C:Int)-1)=(C1:Int):=by unfold wrap64;omega
      have hC1b:C1<C:=by omega
      have HX:=zhd2 hx hLn;have HC1:=zhd hC1;clear hx hLn hlst hcs hC1 eC;go_upto_region 10 with fail;go_quiet (fail);go_wp2;go_meet;case rel=>
       refine⟨x,v+3,a2,0,rfl,rfl,K2.out.2.1.fr0 (Fr.drewN _ _ _),K1.l2.1.trans (K2.out.2.2.1.trans (Fr.drewN _ _ _)),by omega,.inl ⟨rfl,?_⟩⟩;rw[K2.out.1,<-HX.o0];by_cases hc:N-C<v+3
       ·rw[if_pos (.inr hc),if_pos hc]
       ·rw[if_neg (λh=>h.elim HX.l1 hc),if_neg hc]
   ·have htk:=zhd (qdd R p F bs out a1 oc most 3 oa w1 K1.o1 (by decide));go_upto_region 13 with (go_at_call 98;refine htk.out.mono ?_;rintro e w2 (⟨a2,hm,rfl,s2,f2⟩|⟨v,a2,hm,rfl,s2,f2⟩))
    ·have K2:=zhd3 hm s2 f2;clear hm s2 f2;go_wp2;go_meet;case rel=>refine⟨0,3,a2,4,rfl,rfl,K2.out.2.1,K1.l2.1.trans K2.out.2.2,by decide,.inr ⟨by decide,by decide,?_⟩⟩;rw[H.out.2.2.1];unfold irep;rw[K1.o0];dsimp only;rw[if_neg (by decide),show wide 17=3 from rfl,K2.out.1]
    ·have hv:=qcp hm;have hvb:v<8:=hv;have ew:wrap64 ((v:Int)+3)=((v+3:Nat):Int):=by unfold wrap64;omega
     rw[ew];have K2:=zhd3 hm s2 f2;clear hm s2 f2 hv ew;go_wp2;go_meet;case rel=>
      refine⟨0,v+3,a2,0,rfl,rfl,K2.out.2.1,K1.l2.1.trans K2.out.2.2,by omega,.inl ⟨rfl,?_⟩⟩;rw[H.out.2.2.1];unfold irep;rw[K1.o0];dsimp only;rw[if_neg (by decide),show wide 17=3 from rfl,K2.out.1];dsimp only;rw[if_neg (show ¬17=16 by decide),<-H.out.2.2.2.2.2.1,show least 17=3 from rfl,qil 3 v];by_cases hc:N-C<v+3
      ·rw[if_pos (.inr hc),if_pos hc]
      ·rw[if_neg (λh=>h.elim (λk=>absurd k.1 (by decide)) hc),if_neg hc]
   ·have htk:=zhd (qdd R p F bs out a1 oc most 7 oa w1 K1.o1 (by decide));go_upto_region 16 with (go_at_call 98;refine htk.out.mono ?_;rintro e w2 (⟨a2,hm,rfl,s2,f2⟩|⟨v,a2,hm,rfl,s2,f2⟩))
    ·have K2:=zhd3 hm s2 f2;clear hm s2 f2;go_wp2;go_meet;case rel=>refine⟨0,11,a2,4,rfl,rfl,K2.out.2.1,K1.l2.1.trans K2.out.2.2,by decide,.inr ⟨by decide,by decide,?_⟩⟩;rw[H.out.2.2.1];unfold irep;rw[K1.o0];dsimp only;rw[if_neg (by decide),show wide 18=7 from rfl,K2.out.1]
    ·have hv:=qcp hm;have hvb:v<128:=hv;have ew:wrap64 ((v:Int)+11)=((v+11:Nat):Int):=by unfold wrap64;omega
     rw[ew];have K2:=zhd3 hm s2 f2;clear hm s2 f2 hv ew;go_wp2;go_meet;case rel=>
      refine⟨0,v+11,a2,0,rfl,rfl,K2.out.2.1,K1.l2.1.trans K2.out.2.2,by omega,.inl ⟨rfl,?_⟩⟩;rw[H.out.2.2.1];unfold irep;rw[K1.o0];dsimp only;rw[if_neg (by decide),show wide 18=7 from rfl,K2.out.1];dsimp only;rw[if_neg (show ¬18=16 by decide),<-H.out.2.2.2.2.2.1,show least 18=11 from rfl,qil 11 v];by_cases hc:N-C<v+11
      ·rw[if_pos (.inr hc),if_pos hc]
      ·rw[if_neg (λh=>h.elim (λk=>absurd k.1 (by decide)) hc),if_neg hc]
  case rest=>
   obtain⟨v,n,a2,E,rfl,rfl,s2,f2,hnb,hE⟩:=hcut;have l2:=HRp.out _ _ f2 _ _ _ H.out.2.1;have c3:=cell_of s2.box 3;have cB:=cell_of l2.box 0;simp only[qae,qaa,qad]at c3 cB;rw[<-H.out.2.2.2.2.2.1]at cB;have hfl:=qdt R p F bs out a2 oc most E 3 oa wc s2;have K2:=zhd5 s2 f2 l2 hE hfl;clear s2 f2 l2 hE hfl K1 HS;obtain⟨d,hd⟩:=zex (N-C);have ed:(N:Int)-(C:Int)=(d:Int):=by omega
   have hD:=zhd hd;clear hd;go_upto_region 17 with fail;go_cut [80] from 66 to 80 (λs80 wd=>s80 = .bool (decide (E=0)&&decide (d<n))∧wc=wd)
   case first=>
    by_cases h0:E=0
    ·subst h0;go_wp2;go_meet;case rel=>exact⟨by simp,rfl⟩
    ·have d0:((E:Int)==0)=false:=by simp;omega
     have H0:=zhd h0;clear h0;go_wp2;go_meet;case rel=>exact⟨by have:=H0.out;simp[this],rfl⟩
   case rest=>
    obtain⟨rfl,rfl⟩:=hcut;obtain⟨bt,hbt⟩:∃b:Bool,b=(decide (E=0)&&decide (d<n)):=⟨_,rfl⟩;rw[<-hbt];have HT:=zhd hbt;clear hbt ed;go_upto_if 80 with fail;go_cut [] from 81 to 82 (λwd=>∃E2:Nat,Sw wd R p F bs a2 out oa oc most E2∧Fr [R,p] w wd∧((E2=0∧M = .ok (L++List.replicate n v,a2))∨(E2≠0∧E2<100∧M = .error E2)))
    case first=>
     cases bt
     ·go_wp2;go_meet;case rel=>
       refine⟨E,K2.out.1,K2.out.2.1,?_⟩;rcases K2.out.2.2.2.1 with⟨k1,k2⟩|k
       ·refine .inl ⟨k1,?_⟩;have h2:¬d<n:=by have:=HT.out;rw[k1]at this;simpa using this
        rw[k2,if_neg (by rw[<-hD.out];exact h2)]
       ·exact .inr k
     ·have hE0:E=0∧d<n:=by simpa using HT.out.symm
      have HL:=zhd hE0;clear hE0 c3 cB;go_wp2_with (go_at_call 103;refine K2.out.2.2.2.2.mono ?_;rintro e w4 ⟨rfl,S4,f4⟩;have K4:=zhd2 S4 f4;clear S4 f4);go_meet;case rel=>
       have s4:=K4.out.1;rw[if_pos HL.out.1]at s4;refine⟨3,s4,K2.out.2.1.trans (K4.out.2.mono (by simp)),.inr ⟨by decide,by decide,?_⟩⟩;rcases K2.out.2.2.2.1 with⟨k1,k2⟩|⟨k,_⟩
       ·rw[k2,if_pos (by rw[<-hD.out];exact HL.out.2)]
       ·exact absurd HL.out.1 k
    case rest=>
     obtain⟨E2,s4,f4,hE2⟩:=hcut;have l4:=HRp.out _ _ f4 _ _ _ H.out.2.1;have hK4:K≤wc.heap.size:=qan H.out.2.2.2.2.2.2.2 f4.size;have K4:=zhd5 s4 f4 hE2 l4 hK4;obtain⟨w4,hw4⟩:=zex wc;rw[<-hw4]at K4 ⊢;clear s4 f4 hE2 hw4 c3 cB l4 hK4 K2 HT;go_wp2;go_loopg [11] n (λk s11 wr=>∃(i:Nat) (la1:Option Addr) (lc1:Nat),s11 = .int .i64 (i:Nat)∧i+k=n∧(E2=0∨i=0)∧Sw wr R p F bs a2 out oa oc most E2∧Ll K wr B la1 lc1 (L++List.replicate i v)∧Fr (B::blk la) w4 wr∧(∀x∈blk la1,x∈blk la∨w4.heap.size≤x));case atStart=>exact⟨0,la,lc,rfl,by omega,.inr rfl,K4.out.1,by rw[List.replicate_zero,qb0];exact K4.out.2.2.2.1,Fr.refl _ _,λx hx=>.inl hx⟩
     case round=>
      obtain⟨i,la1,lc1,rfl,hik,hi0,hst,hll,hfr,hnew⟩:=hrel;have c3:=cell_of hst.box 3;simp only[qae,qaa,qad]at c3;have hfin:∀L',Ll K wr B la1 lc1 L'→((M = .error E2∧0<E2∧E2<100)∨(M = .ok (L',a2)∧E2=0))→RepR K w R p F bs out oa oc most B la M wr:=λL' l h=>by
       refine⟨a2,la1,lc1,L',E2,hst,l,?_,λx hx=>?_,h⟩
       ·exact (K4.out.2.1.mono (by simp)).trans (hfr.mono (λx hx=>.inl (by simp only[qaw]at hx ⊢;rcases hx with h|h<;>simp[h])))
       ·rcases hnew x hx with k|k
        ·exact .inl k
        ·exact .inr (qan K4.out.2.1.size k)
      by_cases hi:i<n
      ·by_cases h0:E2=0
       ·obtain⟨k,rfl⟩:∃k,gk=k+1:=⟨gk-1,by omega⟩;obtain⟨C1,hC1⟩:=zex ((L++List.replicate i v).length);have hC1b:C1≤700:=by rw[hC1,qab,qb2,<-H.out.2.2.2.2.2.1];omega
        have cB:=cell_of hll.box 0;simp only[qae,qaa,qad]at cB;rw[<-hC1]at cB;have hKr:K≤wr.heap.size:=qan K4.out.2.2.2.2 hfr.size;have HJ:=zhd7 hst hll hfr hnew hC1 hik hKr;subst h0;clear hst hll hfr hnew hC1 hfin hik hKr hi0;go_wp2_with (at_builtin;go_loud (refine qa5 qcn rfl _ _ rfl (.slice la1 C1 lc1) C1 (ints (L++List.replicate i v)) (blk la1) rfl (qbp la1 C1 lc1) (by rw[HJ.out.2.2.2.2.1];exact qa7 HJ.out.2.1.own ((Fr.refl [] wr).alloc _) (by simp)) (some ⟨wr.heap.size,0,none⟩) 1 1 [.int .i64 v] (by first|rfl|simp) (qag _) (λh=>by cases h) (qdu _ _ _ _ (qa4 _ _)) rfl (by intro u hu;simp only[qaz]at hu;rw[hu];rfl) (by omega) (by unfold maxLen;omega) ?_);intro ao2 cp2 w5 A5;have HA:=HJ.out.2.1.app HJ.out.2.2.2.2.1 HJ.out.2.2.2.2.2.2 A5;have f5:Fr (blk la1) wr w5:=((Fr.refl _ wr).alloc _).trans A5.fr;have b5:=f5.blk HJ.out.2.1.box (λhx=>(HJ.out.2.1.new B hx).2 rfl);have z5:=qay b5 0;have d5:=cell_of b5 0;rw[<-HJ.out.2.2.2.2.1]at d5;simp only[qae,qaa,qad]at d5;have HB:=zhd HA;clear A5 f5 b5 HA cB);go_roundg k;case measure=>omega
        case rel=>
         obtain⟨j1,j2,j3,j4,j5,j6,j7⟩:=HJ.out;obtain⟨q1,q2,q3⟩:=HB.out;have hLK:∀x∈B::blk la1,K≤x:=λx hx=>by
          rcases qaw.1 hx with h|h
          ·rw[h];exact j2.bK
          ·exact (j2.new x h).1
         refine⟨i+1,ao2,cp2,by go_num,by omega,.inl (by trivial),?_,?_,?_,λx hx=>?_⟩
         ·obtain⟨hR,hF,ho,hp⟩:=H.out.2.2.2.2.2.2.1;exact j1.fr q2 (λhx=>by have:=hLK _ hx;omega) (λx hx hx2=>by have:=hLK _ hx2;have:=hF x hx;omega) (λx hx hx2=>by have:=hLK _ hx2;have:=ho x hx;omega)
         ·rw[qdw,<-qat];exact q1
         ·refine j3.step q2 (λx hx=>?_);rcases qaw.1 hx with h|h
          ·exact .inl (by simp[h])
          ·rcases j4 x h with k|k
           ·exact .inl (by simp[k])
           ·exact .inr k
         ·rcases q3 x hx with k|k
          ·exact j4 x k
          ·exact .inr (qan j3.size k)
       ·have d0:((E2:Int)==0)=false:=by simp;omega
        have hM3:M = .error E2∧E2<100:=by
         rcases K4.out.2.2.1 with⟨k1,_⟩|⟨k1,k2,k3⟩
         ·exact absurd k1 h0
         ·exact⟨k3,k2⟩
        have HFin:=zhd (hfin _ hll (.inl ⟨hM3.1,by omega,hM3.2⟩));clear hst hll hfr hnew hfin hM3 h0 hi0;go_wp2;refine bodyPost_end (results_none rfl _ _ _) rfl ?_;exact⟨rfl,HFin.out⟩
      ·obtain rfl:i=n:=by omega
       have HFin:Go.RowKit.Hid (RepR K w R p F bs out oa oc most B la M wr):=zhd (hfin _ hll (by
        rcases K4.out.2.2.1 with⟨k1,k2⟩|⟨k1,k2,k3⟩
        ·exact .inr ⟨k2,k1⟩
        ·exact .inl ⟨k3,by omega,k2⟩))
       clear hst hll hfr hnew hfin hi0;go_wp2;refine bodyPost_end (results_none rfl _ _ _) rfl ?_;exact⟨rfl,HFin.out⟩
end Go.Proofs.YtbabjlohkniciaaGreatDoor.inf
