/-
  Texts of this proof, one behind the other: InfE, InfF, InfG, InfH, InfI.
-/
import Derived.Test.YticadfhpolhkeaaGreatDoorQ12
import Derived.Laws.Rows
set_option maxHeartbeats 16000000
set_option maxRecDepth 100000
set_option linter.unusedVariables false
set_option linter.unusedSimpArgs false
namespace Go.Proofs.YticadfhpolhkeaaGreatDoor
namespace inf
open Go Go.RowKit lib bm bl huf
variable {w wr:World} {B R a a1 at_ c cap i j k most n oc p s v:Nat} {ao oa:OA} {bs out:LB} {F L S fs ls:LN}
theorem Zp {e:TypeId} {vs:LV} (h:iL w B e ao vs) (h0:0<vs.length):∃g,ao=some ⟨g,0,none⟩/\B<=g/\∀j v,vs[j]?=some v->w.cell? ⟨g,j,none⟩=some v:=by
 rcases h with h|⟨g,cur,rfl,hB,hg,ht⟩
 ·rw[h]at h0;simp at h0
 ·refine⟨g,rfl,hB,λj v hv=>?_⟩;rw[cell_of hg];rw[<-ht,oG]at hv;split at hv
  ·simpa using hv
  ·cases hv
theorem zin (x y:Nat) (hx:x<256) (hy:y<256):bits .or .i64 (x:Int) ((y:Int)*256)=((x+256*y:Nat):Int):=by have h1:=Ik x y 8 (by simpa using hx);rw[show (y:Int)*256=((y*256:Nat):Int) by omega,qof x (y*256) (by omega) (by omega),show y*256=y*2^8 from rfl,h1]
theorem YK (x:Nat) (h:x<256):bits .xor .u8 (if IntKind.u8.signed=true then -1 else IntKind.u8.max) ((x:Nat):Int)=((255-x:Nat):Int):=by
 have ct:∀y:Fin 256,bits .xor .u8 (if IntKind.u8.signed=true then -1 else IntKind.u8.max) ((y.val:Nat):Int)=((255-y.val:Nat):Int):=by decide +kernel
 exact ct ⟨x,h⟩
theorem Ar (bs:LB) (i:Nat):aI bs i<256:=mW _
theorem J0 {q:Nat} (hj:j<n) (hq:q+j<bs.length):(((bs.drop q).take n).map bv)[j]?=some (.int .u8 (aI bs (q+j):Nat)):=by rw[qe,oG,if_pos hj,EZ,dm hq];simp[bv,aI,hq]
theorem qws (R p:Nat) (F:LN) (bs out:LB) (at_ oc most:Nat) (oa:OA) (w:World) (h:St w R p F bs at_ out oa oc most) :
  Calls Tryz.prog 379 #[.pointer (some ⟨R,0,none⟩)] w (Bl w R p F bs oa most (dV bs most out at_)):=by
 obtain⟨M,hM⟩:=ah (dV bs most out at_);rw[<-hM];have c0:=cell_of h.box 0;simp only[dJ,dk,dU]at c0;obtain⟨q,hq⟩:=ah ((at_+7)/8);by_cases hl:q+4<=bs.length
 ·have yh:Calls Tryz.prog 385 #[.pointer (some ⟨p,0,none⟩),.int .i64 4] w (bits.kG p F bs at_ 4 w):=bits.qor p F bs at_ 4 w h.rd (by omega) (by omega);have qy:M=if aI bs q+aI bs (q+2)=255/\aI bs (q+1)+aI bs (q+3)=255 then bY bs most (aI bs q+256*aI bs (q+1)) out (q+4) else .error 3:=by rw[hM];unfold dV;rw[<-hq,if_pos hl]
  have e0:(((bs.drop q).take 4).map bv).length=4:=by simp;omega
  obtain⟨x0,iz⟩:∃x,x=aI bs q:=⟨_,rfl⟩;obtain⟨x1,j6⟩:∃x,x=aI bs (q+1):=⟨_,rfl⟩;obtain⟨x2,mJ⟩:∃x,x=aI bs (q+2):=⟨_,rfl⟩;obtain⟨x3,Fm⟩:∃x,x=aI bs (q+3):=⟨_,rfl⟩;have g0:=J0 (bs:=bs) (q:=q) (n:=4) (j:=0) (by omega) (by omega);have g1:=J0 (bs:=bs) (q:=q) (n:=4) (j:=1) (by omega) (by omega);have g2:=J0 (bs:=bs) (q:=q) (n:=4) (j:=2) (by omega) (by omega);have g3:=J0 (bs:=bs) (q:=q) (n:=4) (j:=3) (by omega) (by omega);rw[pN,<-iz]at g0;rw[<-j6]at g1;rw[<-mJ]at g2;rw[<-Fm]at g3;rw[<-iz,<-j6,<-mJ,<-Fm]at qy;have b0:x0<256:=by rw[iz];exact Ar _ _
  have b1:x1<256:=by rw[j6];exact Ar _ _
  have b2:x2<256:=by rw[mJ];exact Ar _ _
  have b3:x3<256:=by rw[Fm];exact Ar _ _
  have G:=aQ g0 g1 g2 g3 e0;have H:=aA h yh qy hq;clear h yh qy hM hq iz j6 mJ Fm g0 g1 g2 g3 e0;go_enter Tryz.func379,Tryz.ntmps379;go_upto_region 4 with (go_at_call 385;refine H.l1.1.mono ?_;rintro e w1 ⟨ao,rfl,dM,_,_,eY,f1⟩;rw[<-H.l1.2.2]at dM eY;obtain⟨g,rfl,_,hc⟩:=Zp dM (by rw[G.out.2.2.2.2];decide);have d0:=hc 0 _ G.out.1;have d1:=hc 1 _ G.out.2.1;have d2:=hc 2 _ G.out.2.2.1;have d3:=hc 3 _ G.out.2.2.2.1;have K1:=ai (H.o0.take f1 eY) f1;clear hc dM eY f1);obtain⟨n,hn⟩:=ah (x0+256*x1);obtain⟨y2,uO⟩:∃y,y=255-x2:=⟨_,rfl⟩;obtain⟨y3,I4⟩:∃y,y=255-x3:=⟨_,rfl⟩;have Qq:=zin x0 x1 b0 b1;have LJ:=YK x2 b2;have LI:=YK x3 b3;rw[<-hn]at Qq;rw[<-uO]at LJ;rw[<-I4]at LI;have DW:n<65536:=by omega
  have Jg:=aq hn uO I4;have c02:x0+x2=255↔x0=y2:=by omega
  have c13:x1+x3=255↔x1=y3:=by omega
  have hC:=ai c02 c13;have by2:y2<256:=by omega
  have by3:y3<256:=by omega
  clear hn uO I4 c02 c13;go_quiet (fail);obtain⟨w2,cC⟩:=ah (w1.drewN nq);have f2:Fr [] w1 w2:=by rw[cC];exact .drewN _ _ _
  replace d0:=f2.cell d0 (by simp);replace d1:=f2.cell d1 (by simp);replace d2:=f2.cell d2 (by simp);replace d3:=f2.cell d3 (by simp);rw[<-cC];have K2:=ai (K1.o0.cG f2) f2;clear cC f2 Qq;go_upto_region 5 with fail;have bad:¬(x0+x2=255/\x1+x3=255)->M = .error 3:=λbg=>by rw[H.l1.2.1,if_neg bg]
  have hB:=af bad;clear bad;by_cases p0:x0=y2
  ·have n0:((x0:Int)!=(y2:Int))=false:=by rw[p0];simp
   by_cases p1:x1=y3
   ·have n1:((x1:Int)!=(y3:Int))=false:=by rw[p1];simp
    have iV:M=bY bs most n out (q+4):=by rw[H.l1.2.1,if_pos ⟨hC.o0.2 p0,hC.l1.2 p1⟩,Jg.o0]
    have HM:=aq p0 p1 iV;clear p0 p1 iV;go_quiet (fail);obtain⟨w3,tq⟩:=ah (w2.drewN nq);have f3:Fr [] w2 w3:=by rw[tq];exact .drewN _ _ _
    have s3:=K2.o0.cG f3;rw[show q*8+8*4=8*(q+4) by omega]at s3;rw[<-tq];have K3:=aq s3 f3 (((Way.of _ _ _ _ _ K1.l1).trans (Way.Lk _ _ R p oa K2.l1)).trans (Way.Lk _ _ _ _ _ f3));clear tq s3 f3 d0 d1 d2 d3 c0 n0 n1 LJ LI;go_wp2;go_loopg [2,6,7,8,48] n (λk s2 s6 s7 s8 s48 wr=>∃(j:Nat) (bI:LB) (jX:OA) (nI:Nat),s48 = .int .i64 (j:Nat)/\j+k=n/\St wr R p F bs (8*(q+4+j)) bI jX nI most/\Way w R p oa wr jX/\bY bs most k bI (q+4+j)=bY bs most n out (q+4));case atStart=>exact⟨0,out,oa,oc,rfl,by omega,K3.o0,K3.l2,rfl⟩
    case round=>
     obtain⟨j,bI,jX,nI,rfl,fP,aW,gT,tO⟩:=hrel;obtain⟨m,hm⟩:=ah (q+4+j);rw[<-hm]at aW tO;by_cases hj:j<n
     ·obtain⟨k,rfl⟩:∃k,gk=k+1:=⟨gk-1,by omega⟩;have c0:=cell_of aW.box 0;simp only[dJ,dk,dU]at c0;by_cases kj:m<bs.length
      ·have jR:Calls Tryz.prog 385 #[.pointer (some ⟨p,0,none⟩),.int .i64 1] wr (bits.kG p F bs (8*m) 1 wr):=bits.qor p F bs (8*m) 1 wr aW.rd (by omega) (by omega);obtain⟨u,hu⟩:=ah (bs[m]?.getD 0);have g0:=J0 (bs:=bs) (q:=m) (n:=1) (j:=0) (by omega) (by omega);have gl:(((bs.drop m).take 1).map bv).length=1:=by simp;omega
       rw[pN,show aI bs m=u.toNat by rw[hu];rfl]at g0;have HJ:=lf aW gT tO jR g0 gl hm hu;clear aW gT tO jR g0 gl hm hu;go_wp2_with (first|(go_at_call 385;refine HJ.out.2.2.2.1.mono ?_;rintro e w4 ⟨ao,rfl,dM,_,_,eY,f1⟩;rw[show (8*m+7)/8=m by omega]at dM eY;obtain⟨g4,rfl,_,hc⟩:=Zp dM (by rw[HJ.out.2.2.2.2.2.1];decide);have d0:=hc 0 _ HJ.out.2.2.2.2.1;have K4:=ai (HJ.out.1.take f1 eY) f1;clear hc dM eY f1)|(go_at_call 386;refine (Ip R p F bs bI _ nI most jX u w4 K4.o0).mono ?_;rintro e w5 (⟨c,hm,dB,bR,rfl,f1⟩|⟨uI,a4,Az,E9,hm,rfl,s4,f4⟩);all_goals (have Km:=af hm;clear hm);all_goals (try (have K5:=ai s4 f4;clear s4 f4))))
       ·go_ret;have nj:=Km.out;cases hp:iy most bI u with
        | ok o2=>rw[hp]at nj;cases nj
        | error e=>
         rw[hp]at nj;have M9:e=c:=by simpa[Except.map] using nj
         have e1:bY bs most (k+1) bI m = .error c:=by rw[bY,if_pos kj,<-HJ.out.2.2.2.2.2.2.2,hp,M9]
         exact .inl ⟨c,by rw[HM.l1.2,<-HJ.out.2.2.1,e1],dB,bR,rfl,(HJ.out.2.1.trans (Way.of _ _ _ _ _ K4.l1)).GI f1⟩
       ·go_roundg k;case measure=>omega
        case rel=>
         have nj:=Km.out;cases hp:iy most bI u with
         | error e=>rw[hp]at nj;cases nj
         | ok o2=>
          rw[hp]at nj;have jQ:o2=uI/\m*8+8*1=a4:=by simpa[Except.map] using nj
          obtain⟨rfl,rfl⟩:=jQ;have s5:=K5.o0;rw[show m*8+8*1=8*(q+4+(j+1)) by have:=HJ.out.2.2.2.2.2.2.1;omega]at s5;refine⟨j+1,o2,Az,E9,by go_num,by omega,s5,(HJ.out.2.1.trans (Way.of _ _ _ _ _ K4.l1)).trans K5.l1,?_⟩;rw[<-HJ.out.2.2.1,bY,if_pos kj,<-HJ.out.2.2.2.2.2.2.2,hp,show q+4+(j+1)=m+1 by have:=HJ.out.2.2.2.2.2.2.1;omega]
      ·have jR:Calls Tryz.prog 385 #[.pointer (some ⟨p,0,none⟩),.int .i64 1] wr _:=bits.ZK p F bs (8*m) 1 wr aW.rd (.inr (by omega));have e1:bY bs most (k+1) bI m = .error 4:=by rw[bY,if_neg kj]
       have HJ:=aQ aW gT tO jR e1;clear aW gT tO jR e1 hm;go_wp2_with (go_at_call 385;refine HJ.out.2.2.2.1.mono ?_;rintro e w4 ⟨rfl,_,f1⟩);go_ret;exact .inl ⟨4,by rw[HM.l1.2,<-HJ.out.2.2.1,HJ.out.2.2.2.2],by decide,by decide,rfl,HJ.out.2.1.GI (f1.mono (by simp))⟩
     ·have MT:gk=0:=by omega
      subst MT;have e1:bY bs most n out (q+4) = .ok (bI,8*m):=by rw[<-tO,bY]
      have HE:=aq aW gT e1;clear aW gT tO e1 hm;obtain rfl:j=n:=by omega
      go_wp2;go_ret;exact .inr ⟨bI,_,jX,nI,by rw[HM.l1.2,HE.l2],rfl,HE.o0,HE.o1⟩
   ·have n1:((x1:Int)!=(y3:Int))=true:=by simp;omega
    have iV:M = .error 3:=hB.out (λh=>p1 (hC.l1.1 h.2));have HM:=aq p0 p1 iV;clear p0 p1 iV;go_quiet (fail);go_wp2;go_ret;exact .inl ⟨3,HM.l1.2,by decide,by decide,rfl,((K1.l1.trans (K2.l1.mono (by simp))).trans (Fr.drewN _ _ _)).mono (by simp)⟩
  ·have n0:((x0:Int)!=(y2:Int))=true:=by simp;omega
   have iV:M = .error 3:=hB.out (λh=>p0 (hC.o0.1 h.1));have HM:=ai p0 iV;clear p0 iV;go_quiet (fail);go_wp2;go_ret;exact .inl ⟨3,HM.l1,by decide,by decide,rfl,((K1.l1.trans (K2.l1.mono (by simp))).trans (Fr.drewN _ _ _)).mono (by simp)⟩
 ·have yh:Calls Tryz.prog 385 #[.pointer (some ⟨p,0,none⟩),.int .i64 4] w _:=bits.ZK p F bs at_ 4 w h.rd (.inr (by omega));have qy:M = .error 4:=by rw[hM];unfold dV;rw[<-hq,if_neg hl]
  have H:=ai yh qy;clear h yh qy hM hq;go_enter Tryz.func379,Tryz.ntmps379;go_wp2_with (go_at_call 385;refine H.o0.mono ?_;rintro e w1 ⟨rfl,_,f1⟩);go_ret;exact .inl ⟨4,H.l1,by decide,by decide,rfl,f1.mono (by simp)⟩
def gL (w:World) (ls:LN) (few:Bool) (e:Ending) (w':World):Prop:=
 (dv ls few=false/\e = .returned (.tuple #[.pointer none,.int .i64 3])/\Fr [] w w')\/
 (dv ls few=true/\rW w ls e w')
theorem wW (l:LN) (x:Nat):some_ (l++[x])=some_ l+if 0<x then 1 else 0:=by unfold some_;rw[Dt,aG];split<;>simp[*]
theorem qzy (l:LN) (x:Nat):ones (l++[x])=(ones l&&decide (x<=1)):=by unfold ones;rw[List.all_append];simp
theorem YL (l:LN):some_ l<=l.length:=BN _ _
theorem Tx (a:OA) (cap:Nat) (ls:LN) (few:Bool) (w:World) (h:Ri w a cap ls) (hle:∀l∈ls,l<=15) (hlen:ls.length<=400) :
  Calls Tryz.prog 390 #[.slice a ls.length cap,.bool few] w (gL w ls few):=by
 obtain⟨N,hN⟩:=ah ls.length;by_cases hw:weight ls<=32768
 ·have bZ:=Sn a cap ls w h hle hlen hw;rw[<-hN]at bZ hlen ⊢;have H:=aQ h hle hN bZ hw;clear h hle hN bZ hw;go_enter Tryz.func390,Tryz.ntmps390;go_upto_block 0 with (go_at_call 387;refine H.out.2.2.2.1.mono ?_;rintro e w1 ⟨P,D,first,sa,sc,rfl,rD,f1⟩;have H1:=ai rD f1;clear rD f1);go_wp2;go_loopg [8,9,11,21] N (λk s8 s9 s11 s21 wr=>∃i:Nat,s21 = .int .i64 (i:Nat)/\s8 = .int .i64 (some_ (ls.take i):Nat)/\s9 = .bool (ones (ls.take i))/\i+k=N/\w1=wr);case atStart=>exact⟨0,rfl,rfl,rfl,by omega,rfl⟩
  case round=>
   obtain⟨i,rfl,rfl,rfl,cQ,rfl⟩:=hrel;by_cases hi:i<N
   ·obtain⟨k,rfl⟩:∃k,gk=k+1:=⟨gk-1,by omega⟩;have cN:i<ls.length:=by rw[<-H.out.2.2.1];exact hi
    obtain⟨ga,o,ha,hc⟩:=(H.out.1.fr H1.out.2).at cN;subst ha;have iP:=H.out.2.1 _ (sk cN);have ht:ls.take (i+1)=ls.take i++[ls[i]]:=by rw[x7 cN]
    obtain⟨x,hx⟩:=ah (ls[i]);rw[<-hx]at hc iP ht;obtain⟨c,ju⟩:=ah (some_ (ls.take i));have fX:c<=400:=by rw[ju];have:=YL (ls.take i);rw[fH]at this;omega
    obtain⟨b,hb⟩:=ah (ones (ls.take i));have e1:some_ (ls.take (i+1))=c+if 0<x then 1 else 0:=by rw[ht,wW,ju]
    have e2:ones (ls.take (i+1))=(b&&decide (x<=1)):=by rw[ht,qzy,hb]
    rw[<-ju,<-hb];have HI:=ai e1 e2;clear e1 e2 ju hb ht hx;by_cases h0:x=0
    ·subst h0;go_wp2;go_roundg k;case measure=>omega
     case rel=>exact⟨i+1,by go_num,by rw[HI.o0];rfl,by rw[HI.l1];simp,by omega,rfl⟩
    ·have d0:decide ((0:Int)<x)=true:=by simp;omega
     by_cases h1:x=1
     ·subst h1;cases b
      ·go_wp2;go_roundg k;case measure=>omega
       case rel=>exact⟨i+1,by go_num,by rw[HI.o0];rfl,by rw[HI.l1];rfl,by omega,rfl⟩
      ·go_wp2;go_roundg k;case measure=>omega
       case rel=>exact⟨i+1,by go_num,by rw[HI.o0];rfl,by rw[HI.l1];rfl,by omega,rfl⟩
     ·have d1:((x:Int)==1)=false:=by simp;omega
      have d2:decide (x<=1)=false:=by simp;omega
      have HD:=af d2;clear d2;cases b
      ·go_wp2;go_roundg k;case measure=>omega
       case rel=>exact⟨i+1,by go_num,by rw[HI.o0,if_pos (by omega)];rfl,by rw[HI.l1];rfl,by omega,rfl⟩
      ·go_wp2;go_roundg k;case measure=>omega
       case rel=>exact⟨i+1,by go_num,by rw[HI.o0,if_pos (by omega)];rfl,by rw[HI.l1,HD.out];rfl,by omega,rfl⟩
   ·obtain rfl:i=N:=by omega
    have et:ls.take i=ls:=lL (by rw[<-H.out.2.2.1];exact ax _);rw[et];obtain⟨c,ju⟩:=ah (some_ ls);obtain⟨b,hb⟩:=ah (ones ls);have fX:c<=400:=by rw[ju];have:=YL ls;rw[<-H.out.2.2.1]at this;omega
    have qu:dv ls few=(decide (weight ls=32768)||(few&&(decide (c<2)&&b))):=by unfold dv;rw[<-ju,<-hb,decide_eq_true H.out.2.2.2.2,Bool.true_and]
    have vd:=qr2 a cap ls w1 (H.out.1.fr H1.out.2) H.out.2.1 (by rw[<-H.out.2.2.1];omega);rw[<-H.out.2.2.1]at vd;obtain⟨cp,Gl⟩:=ah (decide (weight ls=32768));rw[<-Gl]at qu vd;rw[<-ju,<-hb];have HC:=ai vd qu;clear vd qu Gl ju hb et hi cQ;have fin:dv ls few=false->gL w ls few (.returned (.tuple #[.pointer none,.int .i64 3])) w1:=λh0=>.inl ⟨h0,rfl,H1.out.2⟩
    have NS:dv ls few=true->gL w ls few (.returned (.tuple #[.pointer (some ⟨P,0,none⟩),.int .i64 0])) w1:=λh0=>.inr ⟨h0,P,D,first,sa,sc,rfl,H1.out.1,H1.out.2⟩
    have HF:=ai fin NS;clear fin NS;cases cp
    ·cases few
     ·go_wp2_with (go_at_call 397;refine HC.o0.mono ?_;rintro e w2 ⟨rfl,rfl⟩);go_ret2;exact HF.o0 (by rw[HC.l1];rfl)
     ·by_cases h2:c<2
      ·have d2:decide ((c:Int)<2)=true:=by simp;omega
       cases b
       ·go_wp2_with (go_at_call 397;refine HC.o0.mono ?_;rintro e w2 ⟨rfl,rfl⟩);go_ret2;exact HF.o0 (by rw[HC.l1];simp)
       ·go_wp2_with (go_at_call 397;refine HC.o0.mono ?_;rintro e w2 ⟨rfl,rfl⟩);go_ret2;exact HF.l1 (by rw[HC.l1,decide_eq_true h2];rfl)
      ·have d2:decide ((c:Int)<2)=false:=by simp;omega
       go_wp2_with (go_at_call 397;refine HC.o0.mono ?_;rintro e w2 ⟨rfl,rfl⟩);go_ret2;exact HF.o0 (by rw[HC.l1,decide_eq_false h2];rfl)
    ·go_wp2_with (go_at_call 397;refine HC.o0.mono ?_;rintro e w2 ⟨rfl,rfl⟩);go_ret2;exact HF.l1 (by rw[HC.l1];rfl)
 ·have bZ:=zhh a cap ls w h hle hlen (by omega);rw[<-hN]at bZ ⊢;have qu:dv ls few=false:=by unfold dv;rw[decide_eq_false hw,Bool.false_and]
  have H:=ai bZ qu;clear h hle hN bZ hw qu;go_enter Tryz.func390,Tryz.ntmps390;go_wp2_with (go_at_call 387;refine H.out.1.mono ?_;rintro e w1 ⟨rfl,f1⟩);go_ret2;exact .inl ⟨H.out.2,rfl,f1⟩
theorem zat (h:n<=L.length):cr bs ls n (k+1) L a = .ok (L,a):=by rw[cr,if_pos h]
theorem zar (h:L.length<n) (hs:kL bs ls a = .error c):cr bs ls n (k+1) L a = .error c:=by rw[cr,if_neg (by omega),hs]
theorem zas (h:L.length<n) (hs:kL bs ls a = .ok (s,a1)) (lS:s<16):cr bs ls n (k+1) L a=cr bs ls n k (L++[s]) a1:=by rw[cr,if_neg (by omega),hs];simp only[if_pos lS]
theorem PI (h:L.length<n) (hs:kL bs ls a = .ok (s,a1)) (lS:16<=s) (ht:aX bs a1 (wide s) = .error c):cr bs ls n (k+1) L a = .error c:=by rw[cr,if_neg (by omega),hs];simp only[if_neg (show ¬s<16 by omega),ht]
theorem PH {a2:Nat} (h:L.length<n) (hs:kL bs ls a = .ok (s,a1)) (lS:16<=s) (ht:aX bs a1 (wide s) = .ok (v,a2)) (hf:(s=16/\L=[])\/n-L.length<least s+v):cr bs ls n (k+1) L a = .error 3:=by rw[cr,if_neg (by omega),hs];simp only[if_neg (show ¬s<16 by omega),ht];rw[if_pos hf]
theorem S7 {a2:Nat} (h:L.length<n) (hs:kL bs ls a = .ok (s,a1)) (lS:16<=s) (ht:aX bs a1 (wide s) = .ok (v,a2)) (hf:¬((s=16/\L=[])\/n-L.length<least s+v)) :
  cr bs ls n (k+1) L a=cr bs ls n k (L++List.replicate (least s+v) (if s=16 then L.getLast?.getD 0 else 0)) a2:=by
 rw[cr,if_neg (by omega),hs];simp only[if_neg (show ¬s<16 by omega),ht];rw[if_neg hf]
structure ek (w wr:World) (ao:OA) (cap:Nat) (L:LN):Prop where
 own:wr.ownsRow 0 3 1 (.slice ao L.length cap) L.length (ints L)
 new:∀x∈ag ao,w.heap.size<=x
 le:L.length<=cap
 max:cap<=maxLen
 nil:ao=none->cap=0
theorem ek.start (w wr:World):ek w wr none 0 []:=⟨⟨by simp[ints],.inl ⟨rfl,rfl⟩⟩,by simp[ag],ax _,eE _,λ_=>rfl⟩
theorem ek.fr {w2:World} (h:ek w wr ao cap L) (f:Fr S wr w2) (hS:∀x∈S,x<w.heap.size):ek w w2 ao cap L:=
 ⟨dp h.own f (λk hk hkS=>by
  have j3:k∈ag ao:=by rw[<-cY ao L.length cap,hk];simp
  have:=h.new k j3
  have:=hS k hkS
  omega),h.new,h.le,h.max,h.nil⟩
theorem ek.app {w2:World} {cM:OA} {dr:Nat} {x:Nat} {o:Obj} (h:ek w wr ao cap L) (hn:n=L.length) (fw:w.heap.size<=wr.heap.size)
  (A:aN (wr.alloc o) w2 3 1 (ag ao) cM (n+1) dr (ints L++[.int .i64 x])):ek w w2 cM dr (L++[x])/\Fr (ag ao) wr w2:=by
 have el:(L++[x]).length=n+1:=by rw[hn];simp
 have ei:ints (L++[x])=ints L++[.int .i64 x]:=by simp[ints]
 refine⟨⟨by rw[el,ei];exact A.own,λy hy=>?_,by rw[el];exact A.le,A.max,A.nil⟩,((Fr.refl _ wr).alloc _).trans A.fr⟩;rcases A.at_ y hy with k|k
 ·exact h.new y k
 ·rw[k,ik];omega
theorem ek.ri (h:ek w wr ao cap L):Ri wr ao cap L:=⟨qK h.own,h.le,h.max,h.nil⟩
theorem St.up {w2:World} (h0:St w R p F bs at_ out oa oc most) (h:St wr R p F bs a1 out oa oc most) (f:Fr S wr w2) (hS:∀x∈S,w.heap.size<=x):St w2 R p F bs a1 out oa oc most:=
 h.fr f (λhR=>by have:=hS R hR;have:=lt_of_block h0.box;omega) (λx hx UN=>by have:=hS x UN;have:=h0.low x hx;omega) (λx hx UN=>by have:=hS x UN;have:=si h0.own (rz hx);omega)
theorem ek.last (h:ek w wr ao cap L) (h0:0<L.length):∃g,ao=some ⟨g,0,none⟩/\wr.cell? ⟨g,L.length-1,none⟩=some (.int .i64 (L.getLast?.getD 0:Nat)):=by
 obtain⟨h1,h2⟩:=h.own;rcases h2 with⟨h2,_⟩|⟨g,aM,cur,h2,hb,hg,hn,hm,hs,ht⟩
 ·simp only[kJ]at h2;omega
 ·simp only[kJ]at h2;refine⟨g,h2.1,?_⟩;rw[cell_of hg,<-yO];have e1:(cur.toList.take (L.length*1))[L.length-1]?=(ints L)[L.length-1]?:=by rw[ht]
  rw[oG,if_pos (by omega)]at e1;rw[e1,List.getLast?_eq_getElem?,ints,qe,dm (show L.length-1<L.length by omega)];rfl
theorem ek.cell {w wr:World} {ao:OA} {cap:Nat} {L:LN} (h:ek w wr ao cap L) {i:Nat} (h0:i<L.length):∃g,ao=some ⟨g,0,none⟩/\wr.cell? ⟨g,i,none⟩=some (.int .i64 (ae L i:Nat)):=by
 obtain⟨h1,h2⟩:=h.own;rcases h2 with⟨h2,_⟩|⟨g,aM,cur,h2,hb,hg,hn,hm,hs,ht⟩
 ·simp only[kJ]at h2;omega
 ·simp only[kJ]at h2;refine⟨g,h2.1,?_⟩;rw[cell_of hg,<-yO];have e1:(cur.toList.take (L.length*1))[i]?=(ints L)[i]?:=by rw[ht]
  rw[oG,if_pos (by omega)]at e1;rw[e1,ints,qe,dm h0,ae,dm h0];rfl
def ib (w:World) (R p:Nat) (F:LN) (bs out:LB) (oa:OA) (oc most n:Nat) (m:Except Nat (List Nat×Nat)) (e:Ending) (w':World):Prop:=
 (∃c,m = .error c/\0<c/\c<100/\e = .returned (.tuple #[.slice none 0 0,.int .i64 (c:Nat)])/\Fr (R::p::ag oa) w w')\/
 (∃L a ao cap,m = .ok (L,a)/\e = .returned (.tuple #[.slice ao L.length cap,.int .i64 0])/\St w' R p F bs a out oa oc most/\Fr [p] w w'/\ek w w' ao cap L/\L.length=n/\∀x∈L,x<=15)
theorem KQ (R p P n:Nat) (F:LN) (bs out:LB) (ls:LN) (at_ oc most:Nat) (oa:OA) (w:World) (h:St w R p F bs at_ out oa oc most) (hT:Tb w P ls (R::p::ag oa)) (hl:ls.length<=19) (hn:n<=400) :
  Calls Tryz.prog 391 #[.pointer (some ⟨R,0,none⟩),.pointer (some ⟨P,0,none⟩),.int .i64 n] w (ib w R p F bs out oa oc most n (cr bs ls n (n+1) [] at_)):=by
 obtain⟨M,hM⟩:=ah (cr bs ls n (n+1) [] at_);rw[<-hM];have H:=aA h hT hM hl;clear h hT hM hl;go_enter Tryz.func391,Tryz.ntmps391;go_wp2;go_loopg [6,7,8,9,10,11,12,13,14,79] (n+1) (λk s6 s7 s8 s9 s10 s11 s12 s13 s14 s79 wr=>∃(l a1:Nat) (L:LN) (ao:OA) (cap:Nat),s8 = .slice ao l cap/\l=L.length/\l<=n/\n+1<=l+k/\St wr R p F bs a1 out oa oc most/\Fr [p] w wr/\ek w wr ao cap L/\cr bs ls n k L a1=M/\∀x∈L,x<=15);case atStart=>exact⟨0,at_,[],none,0,rfl,rfl,by omega,by omega,H.o0,.refl _ _,.start _ _,H.o2.symm,by simp⟩
 case round=>
  obtain⟨l,a1,L,ao,cap,rfl,Qv,nL,iF,aW,hf,aK,cN,pX⟩:=hrel;obtain⟨k,rfl⟩:∃k,gk=k+1:=⟨gk-1,by omega⟩;have c0:=cell_of aW.box 0;simp only[dJ,dk,dU]at c0;by_cases bF:l<n
  ·have HJ:=cU aW hf aK cN pX Qv;clear aW hf aK cN pX Qv;have hp:∀x∈[p],x<w.heap.size:=λx hx=>by simp at hx;rw[hx];exact H.o0.low _ H.o0.pF.1
   have HP:=af hp;clear hp;go_upto_block 3 with (first
    | (go_at_call 395;refine (Iv R p P F bs out ls a1 oc most oa wr HJ.out.1 (H.o1.fr HJ.out.2.1 (by simp))).mono ?_;rintro e w2 (⟨v2,c,hm,dB,bR,rfl,f1⟩|⟨s,a2,hm,rfl,s2,f2⟩);rotate_left;(have U1:=(Iy hm).1;have rJ:=H.l3;rcases (show s<16\/(s=16/\l=0)\/(s=16/\0<l)\/s=17\/s=18 by omega) with hs|⟨rfl,rfl⟩|⟨rfl,AY⟩|rfl|rfl);all_goals (try (have T2:Calls Tryz.prog 367 #[.pointer (some ⟨R,0,none⟩),.int .i64 2] w2 (mN w2 R p F bs out oa oc most (aX bs a2 2)):=Dm R p F bs out a2 oc most 2 oa w2 s2 (by decide);have T3:Calls Tryz.prog 367 #[.pointer (some ⟨R,0,none⟩),.int .i64 3] w2 (mN w2 R p F bs out oa oc most (aX bs a2 3)):=Dm R p F bs out a2 oc most 3 oa w2 s2 (by decide);have T7:Calls Tryz.prog 367 #[.pointer (some ⟨R,0,none⟩),.int .i64 7] w2 (mN w2 R p F bs out oa oc most (aX bs a2 7)):=Dm R p F bs out a2 oc most 7 oa w2 s2 (by decide);have K2:=eW hm s2 f2 T2 T3 T7 (HJ.out.2.2.1.fr f2 HP.out);clear hm s2 f2 T2 T3 T7 U1 rJ));all_goals (first|(have _t:=AY;obtain⟨g,rfl,hce⟩:=K2.out.2.2.2.2.2.2.last (by rw[<-HJ.out.2.2.2.2.2];exact AY);rw[<-HJ.out.2.2.2.2.2]at hce)|skip))
    | (go_at_call 367;(first|with_reducible refine K2.out.2.2.2.1.mono ?_|with_reducible refine K2.out.2.2.2.2.1.mono ?_|with_reducible refine K2.out.2.2.2.2.2.1.mono ?_);rintro e w3 (⟨v3,c,hm,dB,bR,rfl,f1⟩|⟨v,a3,hm,rfl,s3,f3⟩);all_goals (try (replace hce:=f3.cell hce (by have:=K2.out.2.2.2.2.2.2.new g (by simp[ag]);have:=HP.out p (by simp);simp;omega);have Jj:((l:Int)==0)=false:=by simp;omega));all_goals (try (have I7:=yG hm;have K3:=aq hm s3 f3;clear hm s3 f3)))
    | (at_builtin;go_loud (refine fq huf.rA rfl _ _ rfl (.slice ao l cap) l (ints L) (ag ao) rfl (cY ao l cap) (by have:=dp K2.out.2.2.2.2.2.2.own ((Fr.refl [] w2).alloc (.cells #[.int .i64 s] 3 (0,0))) (by simp);rwa [<-HJ.out.2.2.2.2.2]at this) (some ⟨w2.heap.size,0,none⟩) 1 1 [.int .i64 s] (by first|rfl|simp) (ax _) (λh=>by cases h) (nD _ _ _ _ (aV _ _)) rfl (by intro u hu;simp only[eF]at hu;rw[hu];rfl) (by omega) (by unfold maxLen;omega) ?_);intro cM dr w4 A4;have HA:=af A4;clear A4))
   ·go_roundg k;case measure=>omega
    case rel=>
     have hp:=HP.out;have hA:=HJ.out.2.2.1.fr K2.out.2.2.1 hp;have lR:=hA.app (n:=l) HJ.out.2.2.2.2.2 (HJ.out.2.1.trans K2.out.2.2.1).size HA.out;refine⟨l+1,a2,L++[s],cM,dr,rfl,by rw[aG,<-HJ.out.2.2.2.2.2];rfl,by omega,by omega,H.o0.up K2.out.2.1 lR.2 (λx hx=>hA.new x hx),(HJ.out.2.1.trans K2.out.2.2.1).step lR.2 (λx hx=>.inr (hA.new x hx)),lR.1,?_,?_⟩
     ·rw[<-HJ.out.2.2.2.1,zas (by rw[<-HJ.out.2.2.2.2.2];exact bF) K2.out.1 hs]
     ·intro x hx;rcases jo.1 hx with h1|h1
      ·exact HJ.out.2.2.2.2.1 x h1
      ·simp at h1;omega
   ·go_ret2;exact .inl ⟨c,by rw[<-HJ.out.2.2.2.1,PI (by rw[<-HJ.out.2.2.2.2.2];exact bF) K2.out.1 (by decide) hm],dB,bR,rfl,((HJ.out.2.1.trans K2.out.2.2.1).mono (by simp)).trans f1⟩
   ·go_ret2;exact .inl ⟨3,by rw[<-HJ.out.2.2.2.1,PH (by rw[<-HJ.out.2.2.2.2.2];exact bF) K2.out.1 (by decide) K3.o0 (.inl ⟨rfl,sr (HJ.out.2.2.2.2.2).symm⟩)],by decide,by decide,rfl,((HJ.out.2.1.trans K2.out.2.2.1).trans K3.l2).mono (by simp)⟩
   ·go_ret2;exact .inl ⟨c,by rw[<-HJ.out.2.2.2.1,PI (by rw[<-HJ.out.2.2.2.2.2];exact bF) K2.out.1 (by decide) hm],dB,bR,rfl,((HJ.out.2.1.trans K2.out.2.2.1).mono (by simp)).trans f1⟩
   ·go_ret2;exact .inl ⟨3,by rw[<-HJ.out.2.2.2.1,PH (by rw[<-HJ.out.2.2.2.2.2];exact bF) K2.out.1 (by decide) K3.o0 (.inr (by rw[<-HJ.out.2.2.2.2.2];show n-l<3+v;omega))],by decide,by decide,rfl,((HJ.out.2.1.trans K2.out.2.2.1).trans K3.l2).mono (by simp)⟩
   ·obtain⟨t,ht⟩:=ah (3+v);have et:(3:Int)+(v:Nat)=(t:Nat):=by rw[ht];omega
    rw[et];have Qm:t<=n-l:=by omega
    obtain⟨x,hx⟩:=ah (L.getLast?.getD 0);have iP:x<=15:=by rw[hx,List.getLast?_eq_getElem?,dm (show L.length-1<L.length by have:=HJ.out.2.2.2.2.2;omega)];exact HJ.out.2.2.2.2.1 _ (sk _)
    have hE:cr bs ls n k (L++List.replicate t x) a3=M:=by
     rw[<-HJ.out.2.2.2.1,S7 (s:=16) (v:=v) (a2:=a3) (by rw[<-HJ.out.2.2.2.2.2];exact bF) K2.out.1 (by decide) K3.o0 (by
      rintro (⟨_,h1⟩|h1)
      ·have:=HJ.out.2.2.2.2.2;rw[h1]at this;simp at this;omega
      ·rw[<-HJ.out.2.2.2.2.2]at h1;have h2:n-l<3+v:=h1;omega),ht,hx]
     rfl
    rw[<-hx];have AF:0<t:=by omega
    have HB:=aQ hE iP (K2.out.2.2.2.2.2.2.fr K3.l2 HP.out) ((HJ.out.2.1.trans K2.out.2.2.1).trans K3.l2) ht;clear hE iP ht et I7 c0 hx hce Jj;go_wp2;go_loopg [8,79] t (λk2 s8 s79 wr=>∃(j:Nat) (cM:OA) (dr:Nat),s79 = .int .i64 (j:Nat)/\s8 = .slice cM (l+j) dr/\j+k2=t/\St wr R p F bs a3 out oa oc most/\Fr [p] w wr/\ek w wr cM dr (L++List.replicate j x));case atStart=>exact⟨0,(some ⟨g,0,none⟩),cap,rfl,rfl,by omega,K3.o1,HB.o3,by simpa using HB.o2⟩
    case round=>
     obtain⟨j,cM,dr,rfl,rfl,MU,sw,rK,how⟩:=hrel;have nO:l+j=(L++List.replicate j x).length:=by rw[aG,yP,<-HJ.out.2.2.2.2.2]
     by_cases hj:j<t
     ·obtain⟨k2,rfl⟩:∃k2,gk=k2+1:=⟨gk-1,by omega⟩;have HI:=aA sw rK how nO;clear sw rK how nO;go_wp2_with (at_builtin;go_loud (refine fq huf.rA rfl _ _ rfl (.slice cM (l+j) dr) (l+j) (ints (L++List.replicate j x)) (ag cM) rfl (cY cM (l+j) dr) (by have:=dp HI.o2.own ((Fr.refl [] wr).alloc (.cells #[.int .i64 x] 3 (0,0))) (by simp);rwa [<-HI.l3]at this) (some ⟨wr.heap.size,0,none⟩) 1 1 [.int .i64 x] (by first|rfl|simp) (ax _) (λh=>by cases h) (nD _ _ _ _ (aV _ _)) rfl (by intro u hu;simp only[eF]at hu;rw[hu];rfl) (by omega) (by unfold maxLen;omega) ?_);intro uh zV w5 A5;have HA:=af A5;clear A5);go_roundg k2;case measure=>omega
      case rel=>have lR:=HI.o2.app (n:=l+j) (x:=x) HI.l3 HI.o1.size HA.out;refine⟨j+1,uh,zV,by go_num,rfl,by omega,H.o0.up HI.o0 lR.2 (λy hy=>HI.o2.new y hy),HI.o1.step lR.2 (λy hy=>.inr (HI.o2.new y hy)),?_⟩;rw[IA,<-fU];exact lR.1
     ·obtain rfl:j=t:=by omega
      have HI:=aA sw rK how nO;clear sw rK how nO;go_wp2;go_roundg k;case measure=>omega
      case rel=>
       refine⟨l+j,a3,L++List.replicate j x,cM,dr,rfl,HI.l3,by omega,by omega,HI.o0,HI.o1,HI.o2,HB.o0,?_⟩;intro y hy;rcases jo.1 hy with h1|h1
       ·exact HJ.out.2.2.2.2.1 y h1
       ·rw[(Im.1 h1).2];exact HB.o1
   ·go_ret2;exact .inl ⟨c,by rw[<-HJ.out.2.2.2.1,PI (by rw[<-HJ.out.2.2.2.2.2];exact bF) K2.out.1 (by decide) hm],dB,bR,rfl,((HJ.out.2.1.trans K2.out.2.2.1).mono (by simp)).trans f1⟩
   ·go_ret2;exact .inl ⟨3,by rw[<-HJ.out.2.2.2.1,PH (by rw[<-HJ.out.2.2.2.2.2];exact bF) K2.out.1 (by decide) K3.o0 (.inr (by rw[<-HJ.out.2.2.2.2.2];show n-l<3+v;omega))],by decide,by decide,rfl,((HJ.out.2.1.trans K2.out.2.2.1).trans K3.l2).mono (by simp)⟩
   ·obtain⟨t,ht⟩:=ah (3+v);have et:(3:Int)+(v:Nat)=(t:Nat):=by rw[ht];omega
    rw[et];have Qm:t<=n-l:=by omega
    have hE:cr bs ls n k (L++List.replicate t 0) a3=M:=by
     rw[<-HJ.out.2.2.2.1,S7 (s:=17) (v:=v) (a2:=a3) (by rw[<-HJ.out.2.2.2.2.2];exact bF) K2.out.1 (by decide) K3.o0 (by
      rintro (⟨h1,_⟩|h1)
      ·cases h1
      ·rw[<-HJ.out.2.2.2.2.2]at h1;have h2:n-l<3+v:=h1;omega),ht]
     rfl
    have iP:0<=15:=by decide
    have AF:0<t:=by omega
    have HB:=aQ hE iP (K2.out.2.2.2.2.2.2.fr K3.l2 HP.out) ((HJ.out.2.1.trans K2.out.2.2.1).trans K3.l2) ht;clear hE iP ht et I7 c0;go_wp2;go_loopg [8,79] t (λk2 s8 s79 wr=>∃(j:Nat) (cM:OA) (dr:Nat),s79 = .int .i64 (j:Nat)/\s8 = .slice cM (l+j) dr/\j+k2=t/\St wr R p F bs a3 out oa oc most/\Fr [p] w wr/\ek w wr cM dr (L++List.replicate j 0));case atStart=>exact⟨0,ao,cap,rfl,rfl,by omega,K3.o1,HB.o3,by simpa using HB.o2⟩
    case round=>
     obtain⟨j,cM,dr,rfl,rfl,MU,sw,rK,how⟩:=hrel;have nO:l+j=(L++List.replicate j 0).length:=by rw[aG,yP,<-HJ.out.2.2.2.2.2]
     by_cases hj:j<t
     ·obtain⟨k2,rfl⟩:∃k2,gk=k2+1:=⟨gk-1,by omega⟩;have HI:=aA sw rK how nO;clear sw rK how nO;go_wp2_with (at_builtin;go_loud (refine fq huf.rA rfl _ _ rfl (.slice cM (l+j) dr) (l+j) (ints (L++List.replicate j 0)) (ag cM) rfl (cY cM (l+j) dr) (by have:=dp HI.o2.own ((Fr.refl [] wr).alloc (.cells #[.int .i64 0] 3 (0,0))) (by simp);rwa [<-HI.l3]at this) (some ⟨wr.heap.size,0,none⟩) 1 1 [.int .i64 0] (by first|rfl|simp) (ax _) (λh=>by cases h) (nD _ _ _ _ (aV _ _)) rfl (by intro u hu;simp only[eF]at hu;rw[hu];rfl) (by omega) (by unfold maxLen;omega) ?_);intro uh zV w5 A5;have HA:=af A5;clear A5);go_roundg k2;case measure=>omega
      case rel=>have lR:=HI.o2.app (n:=l+j) (x:=0) HI.l3 HI.o1.size HA.out;refine⟨j+1,uh,zV,by go_num,rfl,by omega,H.o0.up HI.o0 lR.2 (λy hy=>HI.o2.new y hy),HI.o1.step lR.2 (λy hy=>.inr (HI.o2.new y hy)),?_⟩;rw[IA,<-fU];exact lR.1
     ·obtain rfl:j=t:=by omega
      have HI:=aA sw rK how nO;clear sw rK how nO;go_wp2;go_roundg k;case measure=>omega
      case rel=>
       refine⟨l+j,a3,L++List.replicate j 0,cM,dr,rfl,HI.l3,by omega,by omega,HI.o0,HI.o1,HI.o2,HB.o0,?_⟩;intro y hy;rcases jo.1 hy with h1|h1
       ·exact HJ.out.2.2.2.2.1 y h1
       ·rw[(Im.1 h1).2];exact HB.o1
   ·go_ret2;exact .inl ⟨c,by rw[<-HJ.out.2.2.2.1,PI (by rw[<-HJ.out.2.2.2.2.2];exact bF) K2.out.1 (by decide) hm],dB,bR,rfl,((HJ.out.2.1.trans K2.out.2.2.1).mono (by simp)).trans f1⟩
   ·go_ret2;exact .inl ⟨3,by rw[<-HJ.out.2.2.2.1,PH (by rw[<-HJ.out.2.2.2.2.2];exact bF) K2.out.1 (by decide) K3.o0 (.inr (by rw[<-HJ.out.2.2.2.2.2];show n-l<11+v;omega))],by decide,by decide,rfl,((HJ.out.2.1.trans K2.out.2.2.1).trans K3.l2).mono (by simp)⟩
   ·obtain⟨t,ht⟩:=ah (11+v);have et:(11:Int)+(v:Nat)=(t:Nat):=by rw[ht];omega
    rw[et];have Qm:t<=n-l:=by omega
    have hE:cr bs ls n k (L++List.replicate t 0) a3=M:=by
     rw[<-HJ.out.2.2.2.1,S7 (s:=18) (v:=v) (a2:=a3) (by rw[<-HJ.out.2.2.2.2.2];exact bF) K2.out.1 (by decide) K3.o0 (by
      rintro (⟨h1,_⟩|h1)
      ·cases h1
      ·rw[<-HJ.out.2.2.2.2.2]at h1;have h2:n-l<11+v:=h1;omega),ht]
     rfl
    have iP:0<=15:=by decide
    have AF:0<t:=by omega
    have HB:=aQ hE iP (K2.out.2.2.2.2.2.2.fr K3.l2 HP.out) ((HJ.out.2.1.trans K2.out.2.2.1).trans K3.l2) ht;clear hE iP ht et I7 c0;go_wp2;go_loopg [8,79] t (λk2 s8 s79 wr=>∃(j:Nat) (cM:OA) (dr:Nat),s79 = .int .i64 (j:Nat)/\s8 = .slice cM (l+j) dr/\j+k2=t/\St wr R p F bs a3 out oa oc most/\Fr [p] w wr/\ek w wr cM dr (L++List.replicate j 0));case atStart=>exact⟨0,ao,cap,rfl,rfl,by omega,K3.o1,HB.o3,by simpa using HB.o2⟩
    case round=>
     obtain⟨j,cM,dr,rfl,rfl,MU,sw,rK,how⟩:=hrel;have nO:l+j=(L++List.replicate j 0).length:=by rw[aG,yP,<-HJ.out.2.2.2.2.2]
     by_cases hj:j<t
     ·obtain⟨k2,rfl⟩:∃k2,gk=k2+1:=⟨gk-1,by omega⟩;have HI:=aA sw rK how nO;clear sw rK how nO;go_wp2_with (at_builtin;go_loud (refine fq huf.rA rfl _ _ rfl (.slice cM (l+j) dr) (l+j) (ints (L++List.replicate j 0)) (ag cM) rfl (cY cM (l+j) dr) (by have:=dp HI.o2.own ((Fr.refl [] wr).alloc (.cells #[.int .i64 0] 3 (0,0))) (by simp);rwa [<-HI.l3]at this) (some ⟨wr.heap.size,0,none⟩) 1 1 [.int .i64 0] (by first|rfl|simp) (ax _) (λh=>by cases h) (nD _ _ _ _ (aV _ _)) rfl (by intro u hu;simp only[eF]at hu;rw[hu];rfl) (by omega) (by unfold maxLen;omega) ?_);intro uh zV w5 A5;have HA:=af A5;clear A5);go_roundg k2;case measure=>omega
      case rel=>have lR:=HI.o2.app (n:=l+j) (x:=0) HI.l3 HI.o1.size HA.out;refine⟨j+1,uh,zV,by go_num,rfl,by omega,H.o0.up HI.o0 lR.2 (λy hy=>HI.o2.new y hy),HI.o1.step lR.2 (λy hy=>.inr (HI.o2.new y hy)),?_⟩;rw[IA,<-fU];exact lR.1
     ·obtain rfl:j=t:=by omega
      have HI:=aA sw rK how nO;clear sw rK how nO;go_wp2;go_roundg k;case measure=>omega
      case rel=>
       refine⟨l+j,a3,L++List.replicate j 0,cM,dr,rfl,HI.l3,by omega,by omega,HI.o0,HI.o1,HI.o2,HB.o0,?_⟩;intro y hy;rcases jo.1 hy with h1|h1
       ·exact HJ.out.2.2.2.2.1 y h1
       ·rw[(Im.1 h1).2];exact HB.o1
   ·go_ret2;exact .inl ⟨c,by rw[<-HJ.out.2.2.2.1,zar (by rw[<-HJ.out.2.2.2.2.2];exact bF) hm],dB,bR,rfl,(HJ.out.2.1.mono (by simp)).trans f1⟩
  ·obtain rfl:l=n:=by omega
   have e1:cr bs ls l (k+1) L a1 = .ok (L,a1):=zat (by omega);have HJ:=eW aW hf aK cN pX Qv e1;clear aW hf aK cN pX Qv e1 bF nL;go_wp2;go_ret2;exact .inr ⟨L,a1,ao,cap,by rw[<-HJ.out.2.2.2.1,HJ.out.2.2.2.2.2.2],by rw[<-HJ.out.2.2.2.2.2.1];rfl,HJ.out.1,HJ.out.2.1,HJ.out.2.2.1,HJ.out.2.2.2.2.2.1.symm,HJ.out.2.2.2.2.1⟩
theorem zi0 (h:i<144):kh i=8:=by unfold kh;rw[if_pos h]
theorem ziz (h1:¬i<144) (h:i<256):kh i=9:=by unfold kh;rw[if_neg h1,if_pos h]
theorem ziy (h1:¬i<144) (h2:¬i<256) (h:i<280):kh i=7:=by unfold kh;rw[if_neg h1,if_neg h2,if_pos h]
theorem zix (h1:¬i<144) (h2:¬i<256) (h:¬i<280):kh i=8:=by unfold kh;rw[if_neg h1,if_neg h2,if_neg h]
theorem zhr (i:Nat):kh i<=15:=by unfold kh;split;omega;split;omega;split<;>omega
theorem ze4:∀l∈fixed 288,l<=15:=λl hl=>by obtain⟨i,_,rfl⟩:=mU.1 hl;exact zhr i
theorem qrs:weight (fixed 288)=32768:=by decide +kernel
theorem Ue:weight (List.replicate 32 5)=32768:=by decide +kernel
theorem ze5:(List.range 32).map (λ_=>5)=List.replicate 32 5:=by decide +kernel
theorem PC (hv:kh i=v):(if s=i then v else if s<i then kh s else 0)=if s<i+1 then kh s else 0:=by
 by_cases e:s=i
 ·rw[if_pos e,if_pos (by omega),e,hv]
 ·rw[if_neg e];by_cases e2:s<i
  ·rw[if_pos e2,if_pos (by omega)]
  ·rw[if_neg e2,if_neg (by omega)]
theorem Ki {P D E:Nat} {X:LN} {first:Nat->Nat} {sa:Nat->Option Addr} {sc:Nat->Nat} (h:N8 w P D ls first sa sc B E) (hE:E<=w.heap.size) (hX:∀x∈X,x<B):Tb w P ls X:=
 ⟨D,first,sa,sc,h.tab,fM h.at_.2 hE,λhP=>by have:=hX P hP;have:=h.at_.1;omega,λl hl x hx=>⟨fM (h.row l hl x hx).2 hE,λhxX=>by have:=hX x hxX;have:=(h.row l hl x hx).1;omega⟩⟩
theorem St.under (h:St w R p F bs at_ out oa oc most):∀x∈R::p::ag oa,x<w.heap.size:=λx hx=>by
 simp only[eX]at hx;rcases hx with rfl|rfl|hx
 ·exact lt_of_block h.box
 ·exact h.low _ h.pF.1
 ·exact si h.own (rz hx)
theorem zbd (R p:Nat) (F:LN) (bs out:LB) (at_ oc most:Nat) (oa:OA) (w:World) (h:St w R p F bs at_ out oa oc most) :
  Calls Tryz.prog 380 #[.pointer (some ⟨R,0,none⟩)] w (Bl w R p F bs oa most (uN bs most out at_)):=by
 obtain⟨hu,⟨ti,km,ur,im,q7⟩,sC,hp⟩:=huf.rA;have H:=af h;clear h;go_enter Tryz.func380,Tryz.ntmps380;obtain⟨Q,hQ⟩:=ah w.heap.size;have HQ:=af hQ;clear hQ;go_upto_block 0 with (refine wpList_make_full _ rfl _ _ 348 rfl 0 3 ti (.int .i64 0) 1 hu km ur im .i64 .i64 288 288 288 rfl rfl rfl rfl (by rw[q7];omega) (by unfold maxLen;omega) (by omega) ?_;intro w1 Lh Ek;have H1:=ai Lh Ek;clear Lh Ek);rw[<-HQ.out]at H1 ⊢;have rE:Ow w1 Q 288 (λ_=>0):=O0 H1.o0;have f1:Fr [] w w1:=(Fr.refl [] w).grown H1.l1 (λk hk=>by cases hk);have HS:=ai rE f1;clear rE f1 H1;go_wp2;go_loopg [4,14,20,26,32] 288 (λk s4 s14 s20 s26 s32 wr=>∃i:Nat,s14 = .int .i64 (i:Nat)/\i+k=288/\Ow wr Q 288 (λj=>if j<i then kh j else 0)/\Fr [] w wr);case atStart=>exact⟨0,rfl,rfl,HS.o0.congr λs _=>by simp,HS.l1⟩
 case round=>
  obtain⟨i,rfl,cQ,how,hf⟩:=hrel;by_cases hi:i<288
  ·obtain⟨k,rfl⟩:∃k,gk=k+1:=⟨gk-1,by omega⟩;have c1:=how.cell hi;have z1:=how.frozen i;have HI:=ai how hf;clear how hf;go_wp2
   ·go_roundg k;case measure=>omega
    case rel=>exact⟨i+1,by go_num,by omega,(HI.out.1.set hi 8).congr (λs _=>PC (zi0 (by omega))),HI.out.2.step ((Fr.refl [Q] wr).setCell (by simp) _) (λz hz=>.inr (by simp at hz;rw[hz,HQ.out];exact ax _))⟩
   ·go_roundg k;case measure=>omega
    case rel=>exact⟨i+1,by go_num,by omega,(HI.out.1.set hi 9).congr (λs _=>PC (ziz (by omega) (by omega))),HI.out.2.step ((Fr.refl [Q] wr).setCell (by simp) _) (λz hz=>.inr (by simp at hz;rw[hz,HQ.out];exact ax _))⟩
   ·go_roundg k;case measure=>omega
    case rel=>exact⟨i+1,by go_num,by omega,(HI.out.1.set hi 7).congr (λs _=>PC (ziy (by omega) (by omega) (by omega))),HI.out.2.step ((Fr.refl [Q] wr).setCell (by simp) _) (λz hz=>.inr (by simp at hz;rw[hz,HQ.out];exact ax _))⟩
   ·go_roundg k;case measure=>omega
    case rel=>exact⟨i+1,by go_num,by omega,(HI.out.1.set hi 8).congr (λs _=>PC (zix (by omega) (by omega) (by omega))),HI.out.2.step ((Fr.refl [Q] wr).setCell (by simp) _) (λz hz=>.inr (by simp at hz;rw[hz,HQ.out];exact ax _))⟩
  ·obtain rfl:i=288:=by omega
   have M7:Ow wr Q 288 kh:=how.congr λs hs=>if_pos hs
   obtain⟨w2,rfl⟩:∃w2:World,w2=wr:=⟨_,rfl⟩;obtain⟨Q2,QU⟩:=ah w2.heap.size;have HI:=aq M7 hf QU;clear how hf M7 QU cQ;go_upto_block 3 with (refine wpList_make_full _ rfl _ _ 348 rfl 0 3 ti (.int .i64 0) 1 hu km ur im .i64 .i64 32 32 32 rfl rfl rfl rfl (by rw[q7];omega) (by unfold maxLen;omega) (by omega) ?_;intro w3 iw iG;have H3:=ai iw iG;clear iw iG);rw[<-HI.out.2.2]at H3 ⊢;have hq3:Ow w3 Q2 32 (λ_=>0):=O0 H3.o0;have f3:Fr [] w2 w3:=(Fr.refl [] w2).grown H3.l1 (λk hk=>by cases hk);have HT:=aq hq3 f3 (HI.out.1.fr f3 (by simp));clear hq3 f3 H3 hu km ur im q7 sC hp;go_wp2;go_loopg [6,42] 32 (λk s6 s42 wr=>∃i:Nat,s42 = .int .i64 (i:Nat)/\i+k=32/\Ow wr Q2 32 (λj=>if j<i then 5 else 0)/\Ow wr Q 288 kh/\Fr [] w wr);case atStart=>exact⟨0,rfl,rfl,HT.o0.congr λs _=>by simp,HT.l2,HI.out.2.1.trans HT.o1⟩
   case round=>
    obtain⟨j,rfl,fP,how,Cm,hf⟩:=hrel;have hQQ:Q<Q2:=by obtain⟨A,hA,_⟩:=HI.out.1;rw[HI.out.2.2];exact lt_of_block hA
    by_cases hj:j<32
    ·obtain⟨k,rfl⟩:∃k,gk=k+1:=⟨gk-1,by omega⟩;have c1:=how.cell hj;have z1:=how.frozen j;have HJ:=aq how Cm hf;clear how Cm hf;go_wp2;go_roundg k;case measure=>omega
     case rel=>exact⟨j+1,by go_num,by omega,(HJ.o0.set hj 5).congr (λs _=>by
      by_cases e:s=j
      ·rw[if_pos e,if_pos (by omega)]
      ·rw[if_neg e]
       by_cases e2:s<j
       ·rw[if_pos e2,if_pos (by omega)]
       ·rw[if_neg e2,if_neg (by omega)]),HJ.o1.fr ((Fr.refl [Q2] wr).setCell (by simp) _) (by simp;omega),HJ.l2.step ((Fr.refl [Q2] wr).setCell (by simp) _) (λz hz=>.inr (by simp at hz;rw[hz,HI.out.2.2];exact HI.out.2.1.size))⟩
    ·obtain rfl:j=32:=by omega
     have h5:Ow wr Q2 32 (λ_=>5):=how.congr λs hs=>if_pos hs
     have r1:Ri wr (some ⟨Q,0,none⟩) 288 (fixed 288):=⟨Cm.cs,by decide +kernel,by decide,λh=>by cases h⟩;have r2:Ri wr (some ⟨Q2,0,none⟩) 32 (List.replicate 32 5):=⟨by have:=h5.cs;rw[ze5]at this;exact this,by decide,by decide,λh=>by cases h⟩;obtain⟨wo,rfl⟩:∃wo:World,wo=wr:=⟨_,rfl⟩;have N1:Calls Tryz.prog 387 #[.slice (some ⟨Q,0,none⟩) 288 288] wo (rW wo (fixed 288)):=Sn (some ⟨Q,0,none⟩) 288 (fixed 288) wo r1 ze4 (by decide +kernel) (by rw[qrs];exact ax _);have N2:∀w5,Fr [] wo w5->Calls Tryz.prog 387 #[.slice (some ⟨Q2,0,none⟩) 32 32] w5 (rW w5 (List.replicate 32 5)):=λw5 f5=>Sn (some ⟨Q2,0,none⟩) 32 (List.replicate 32 5) w5 (r2.fr f5) (λl hl=>by rw[(Im.1 hl).2];decide) (by decide) (by rw[Ue];exact ax _)
     have HN:=aq N1 N2 hf;clear how Cm hf h5 r1 r2 N1 N2 hj fP;go_wp2_with (first|(go_at_call 387;(with_reducible refine HN.o0.mono ?_);rintro e w4 ⟨P,D,first,sa,sc,rfl,rD,f4⟩;have K4:=ai rD f4;clear rD f4)|(go_at_call 387;(with_reducible refine (HN.o1 _ K4.l1).mono ?_);rintro e w5 ⟨P5,D5,Wd,sa5,sc5,rfl,rD,f5⟩;have K5:=ai rD f5;clear rD f5)|(go_at_call 388;have hu:=H.out.under;go_loud (refine (ql0 R p P P5 F bs out (fixed 288) (List.replicate 32 5) at_ oc most oa w5 (H.out.cG ((HN.l2.trans K4.l1).trans K5.l1)) ((Ki K4.o0 (ax _) (λx hx=>fM (hu x hx) HN.l2.size)).fr K5.l1 (by simp)) (Ki K5.o0 (ax _) (λx hx=>fM (hu x hx) (HN.l2.trans K4.l1).size))).mono ?_);rintro e w6 (⟨c,hm,dB,bR,rfl,f6⟩|⟨o6,a6,BZ,BX,hm,rfl,s6,f6⟩);all_goals (have Km:=af hm;clear hm);all_goals (try (have K6:=ai s6 f6;clear s6 f6))))
     ·go_ret;exact .inl ⟨c,Km.out,dB,bR,rfl,(((HN.l2.trans K4.l1).trans K5.l1).mono (by simp)).trans f6⟩
     ·go_ret;exact .inr ⟨o6,a6,BZ,BX,Km.out,rfl,K6.o0,(Way.Lk _ _ _ _ _ ((HN.l2.trans K4.l1).trans K5.l1)).trans K6.l1⟩
def sY:Array Value:=#[.int .i64 16,.int .i64 17,.int .i64 18,.int .i64 0,.int .i64 8,.int .i64 7,.int .i64 9,.int .i64 6,.int .i64 10,.int .i64 5,.int .i64 11,.int .i64 4,.int .i64 12,.int .i64 3,.int .i64 13,.int .i64 2,.int .i64 14,.int .i64 1,.int .i64 15]
def zeroV:Array Value:=#[.int .i64 0,.int .i64 0,.int .i64 0,.int .i64 0,.int .i64 0,.int .i64 0,.int .i64 0,.int .i64 0,.int .i64 0,.int .i64 0,.int .i64 0,.int .i64 0,.int .i64 0,.int .i64 0,.int .i64 0,.int .i64 0,.int .i64 0,.int .i64 0,.int .i64 0]
theorem uM:(Tryz.prog.info? 541).map (·.size)=some 19:=by kernel_rfl
theorem qwx {fn:Func} {p:Tmp} (h:fn.results=#[.cell p 541]) (tmps:AV) (w:World) (g:Nat) (cs:AV) (fr:Nat×Nat)
  (hp:tmps.getD p undef = .pointer (some ⟨g,0,none⟩)) (hg:w.heap[g]?=some (.cells cs 541 fr)) (hs:cs.size=19):(results fn tmps).run Tryz.prog w = .ok (.agg cs) w:=
 results_cell_row h tmps w g 541 cs fr _ hp hg Tryz.underlying541 rfl (by rw[uM,hs])
theorem qzx (w:World):Calls Tryz.prog 389 #[] w λe w'=>e = .returned (.agg sY)/\Fr [] w w':=by go_enter Tryz.func389,Tryz.ntmps389;go_wp2_with (refine wpList_store_row rfl 541 (.tmp 0) (.tmp 1) rfl w.heap.size sY rfl rfl 541 zeroV (heap_alloc_last w _) uM rfl (by kernel_rfl) ?_;rw[World.setRow_alloc_new]);simp only[Act.put];refine bodyPost_ret (qwx rfl _ _ w.heap.size sY (0,0) rfl (aV w _) rfl) rfl ?_;exact⟨rfl,(Fr.refl [] w).alloc _⟩
theorem zg2 {a:OA} {xs:LN} (h:Ri w a cap xs) (k:Nat) (hk:k<=xs.length):Ri w (bh a cap k 1) (cap-k) (xs.drop k):=
 ⟨by rw[CZ];exact XG h.cs k (by simpa using hk) (by simpa using h.le),by have:=h.le;simp;omega,bP (Nat.sub_le _ _) h.max,λhn=>by have:=h.nil (qm3 hn);omega⟩
theorem zac (hi:i<fs.length) (t:Nat):ae (fs.set i v) t=if t=i then v else ae fs t:=by
 unfold ae;rw[List.getElem?_set];by_cases e:i=t
 ·subst e;simp[hi]
 ·rw[if_neg e,if_neg (λh=>e h.symm)]
theorem zha {Q:Nat} (h:Ow w Q 19 (ae fs)) (hl:fs.length=19):Ri w (some ⟨Q,0,none⟩) 19 fs:=by
 have e:(List.range 19).map (ae fs)=fs:=by
  refine List.ext_getElem (by simp[hl]) λi h1 h2=>?_
  simp[ae,h2]
 have:=h.cs;rw[e]at this;exact⟨this,by omega,by decide,λh=>by cases h⟩
theorem qxa:places=defl.oK:=rfl
theorem zhc (h:i<19):sY[i]?=some (.int .i64 ((defl.ord i:Nat):Int)):=by
 have e:sY=(defl.oK.map λx=>Value.int .i64 (x:Nat)).toArray:=rfl;have hl:i<defl.oK.length:=by simp[defl.oK];omega
 rw[e];simp[defl.ord,dm hl]
theorem qtg {m:Nat} (h:j<m) (hm:m<=19):(places.take m).drop j=defl.ord j::(places.take m).drop (j+1):=by
 have hl:places.length=19:=rfl;have h1:j<(places.take m).length:=by rw[fH];omega
 rw[xg h1];congr 1;simp[defl.ord,<-qxa,dm (show j<places.length by omega)]
theorem qt9 (R p:Nat) (F:LN) (bs out:LB) (at_ oc most:Nat) (oa:OA) (w:World) (h:St w R p F bs at_ out oa oc most) :
  Calls Tryz.prog 381 #[.pointer (some ⟨R,0,none⟩)] w (Bl w R p F bs oa most (lu bs most out at_)):=by
 obtain⟨M,hM⟩:=ah (lu bs most out at_);rw[<-hM];have TT:∀(n:Nat) (a:Nat) (w':World),St w' R p F bs a out oa oc most->n<=31->Calls Tryz.prog 367 #[.pointer (some ⟨R,0,none⟩),.int .i64 (n:Nat)] w' (mN w' R p F bs out oa oc most (aX bs a n)):=λn a w' s hn=>Dm R p F bs out a oc most n oa w' s hn
 have T3:∀(a:Nat) (w':World),St w' R p F bs a out oa oc most->Calls Tryz.prog 367 #[.pointer (some ⟨R,0,none⟩),.int .i64 3] w' (mN w' R p F bs out oa oc most (aX bs a 3)):=λa w' s=>TT 3 a w' s (by decide)
 have T4:∀(a:Nat) (w':World),St w' R p F bs a out oa oc most->Calls Tryz.prog 367 #[.pointer (some ⟨R,0,none⟩),.int .i64 4] w' (mN w' R p F bs out oa oc most (aX bs a 4)):=λa w' s=>TT 4 a w' s (by decide)
 have T5:∀(a:Nat) (w':World),St w' R p F bs a out oa oc most->Calls Tryz.prog 367 #[.pointer (some ⟨R,0,none⟩),.int .i64 5] w' (mN w' R p F bs out oa oc most (aX bs a 5)):=λa w' s=>TT 5 a w' s (by decide)
 have HT:=aq T3 T4 T5;have H:=ai h hM;clear h hM TT T3 T4 T5;go_enter Tryz.func381,Tryz.ntmps381;go_upto_region 14 with (first
  | (go_at_call 367;(with_reducible refine (HT.l2 at_ w H.o0).mono ?_);rintro e w1 (⟨v,c,hm,dB,bR,rfl,f1⟩|⟨lit,a1,hm,rfl,s1,f1⟩);all_goals (try (have LW:=yG hm;have K1:=aq hm s1 f1;clear hm s1 f1)))
  | (go_at_call 367;(with_reducible refine (HT.l2 a1 w1 K1.o1).mono ?_);rintro e w2 (⟨v,c,hm,dB,bR,rfl,f1⟩|⟨jD,a2,hm,rfl,s2,f2⟩);all_goals (try (have vX:=yG hm;have K2:=aq hm s2 f2;clear hm s2 f2)))
  | (go_at_call 367;(with_reducible refine (HT.o1 a2 w2 K2.o1).mono ?_);rintro e w3 (⟨v,c,hm,dB,bR,rfl,f1⟩|⟨n,a3,hm,rfl,s3,f3⟩);all_goals (try (have hv3:=yG hm;have K3:=aq hm s3 f3;clear hm s3 f3))))
 ·go_ret;exact .inl ⟨c,by rw[H.l1];simp only[lu,hm],dB,bR,rfl,f1⟩
 ·go_ret;exact .inl ⟨3,by rw[H.l1];simp only[lu,K1.o0,if_pos (show 29<lit by omega)],by decide,by decide,rfl,K1.l2.mono (by simp)⟩
 ·go_ret;exact .inl ⟨c,by rw[H.l1];simp only[lu,K1.o0,if_neg (show ¬29<lit by omega),hm],dB,bR,rfl,(K1.l2.mono (by simp)).trans f1⟩
 ·go_ret;exact .inl ⟨3,by rw[H.l1];simp only[lu,K1.o0,if_neg (show ¬29<lit by omega),K2.o0,if_pos (show 29<jD by omega)],by decide,by decide,rfl,(K1.l2.trans K2.l2).mono (by simp)⟩
 ·go_ret;exact .inl ⟨c,by rw[H.l1];simp only[lu,K1.o0,if_neg (show ¬29<lit by omega),K2.o0,if_neg (show ¬29<jD by omega),hm],dB,bR,rfl,((K1.l2.trans K2.l2).mono (by simp)).trans f1⟩
 ·have iV:M=nh bs most out lit jD n a3:=by rw[H.l1];simp only[lu,K1.o0,if_neg (show ¬29<lit by omega),K2.o0,if_neg (show ¬29<jD by omega),K3.o0]
  have kD:lit<=29:=by omega
  have lO:jD<=29:=by omega
  have tI:n<=15:=by omega
  have rK:Fr [p] w w3:=((K1.l2.trans K2.l2).trans K3.l2);have HK:=aA iV K3.o1 rK H.o0;clear iV rK K1 K2 K3 H LW vX hv3;obtain⟨m,hm⟩:=ah (n+4);have em:(n:Int)+4=(m:Nat):=by omega
  have MI:m<=19:=by omega
  have HM:=af hm;clear hm;obtain⟨hu,⟨ti,km,ur,im,q7⟩,sC,hp⟩:=huf.rA;obtain⟨Q,hQ⟩:=ah w3.heap.size;have HQ:=af hQ;clear hQ;go_upto_region 15 with (refine wpList_make_full _ rfl _ _ 348 rfl 0 3 ti (.int .i64 0) 1 hu km ur im .i64 .i64 19 19 19 rfl rfl rfl rfl (by rw[q7];omega) (by unfold maxLen;omega) (by omega) ?_;intro w4 Lg Ej;have H4:=ai Lg Ej;clear Lg Ej);rw[<-HQ.out]at H4 ⊢;have U6:Ow w4 Q 19 (λ_=>0):=O0 H4.o0;have f4:Fr [] w3 w4:=(Fr.refl [] w3).grown H4.l1 (λk hk=>by cases hk);have HW:=ai U6 f4;clear U6 f4 H4 hu km ur im q7 sC hp;go_cut [8,46] from 46 to 46 (λs8 s46 wz=>∃O:Nat,s8 = .pointer (some ⟨O,0,none⟩)/\wz.heap[O]?=some (.cells sY 541 (0,0))/\Fr [] w4 wz/\w4.heap.size<=O)
  case first=>go_wp2_with (first|(go_at_call 389;refine (qzx w4).mono ?_;rintro e w5 ⟨rfl,f5⟩;have K5:=af f5;clear f5)|(refine wpList_store_row rfl 541 (.tmp 8) (.tmp 46) rfl w5.heap.size sY rfl rfl 541 zeroV (heap_alloc_last w5 _) uM rfl (by kernel_rfl) ?_;rw[World.setRow_alloc_new]));simp only[Act.put];go_meet;exact⟨w5.heap.size,rfl,aV w5 _,K5.out.alloc _,K5.out.size⟩
  case rest=>
  obtain⟨O,rfl,hO,f6,hO4⟩:=hcut;obtain⟨w7,rfl⟩:∃w7:World,w7=wc:=⟨_,rfl⟩;have f37:Fr [] w3 w7:=HW.out.2.trans f6;have hQ7:Ow w7 Q 19 (ae (List.replicate 19 0)):=(HW.out.1.fr f6 (by simp)).congr λs hs=>by simp only[ae,Kk,if_pos hs];rfl
  have hQO:Q<O:=by obtain⟨A,hA,_⟩:=HW.out.1;have:=lt_of_block hA;omega
  have hQ3:w3.heap.size<=Q:=by rw[HQ.out];exact ax _
  have H7:=aQ hQ7 hO f37 hQO hQ3;clear hQ7 hO f37 hQO f6 hO4 hQ3;have d1:decide ((286:Int)<(lit:Int)+257)=false:=by simp;omega
  have d2:decide ((30:Int)<(jD:Int)+1)=false:=by simp;omega
  simp only[d1,d2];clear d1 d2;have hsl:=defl.qqp O m MI;go_wp2;clear hsl;go_loopg [2,4,10,51] m (λk s2 s4 s10 s51 wr=>∃(j a1:Nat) (fs:LN),s51 = .int .i64 (j:Nat)/\s4 = .int .i64 0/\j+k=m/\St wr R p F bs a1 out oa oc most/\Ow wr Q 19 (ae fs)/\fs.length=19/\(∀x∈fs,x<=15)/\wr.heap[O]?=some (.cells sY 541 (0,0))/\Fr [p] w wr/\dZ bs ((places.take m).drop j) fs a1=dZ bs (places.take m) (List.replicate 19 0) a3);case atStart=>exact⟨0,a3,List.replicate 19 0,rfl,rfl,by omega,HK.o1.cG H7.o2,H7.o0,rfl,λx hx=>by rw[(Im.1 hx).2];decide,H7.o1,HK.o2.trans (H7.o2.mono (by simp)),rfl⟩
  case round=>
   obtain⟨j,a1,fs,rfl,rfl,hjm,aW,how,xy,Cu,hO,QE,xA⟩:=hrel;have tq:w.heap.size<=w3.heap.size:=HK.o2.size;have hp0:p<w.heap.size:=HK.l3.low _ HK.l3.pF.1;by_cases hj:j<m
   ·obtain⟨k,rfl⟩:∃k,gk=k+1:=⟨gk-1,by omega⟩;have cO:=cell_of hO j;rw[zhc (by omega)]at cO;obtain⟨i,hi⟩:=ah (defl.ord j);have qv:i<19:=by rw[hi];exact defl.OP j
    have rF:=qtg hj MI;rw[<-hi]at cO rF;rw[rF]at xA;have HJ:=eW aW how xy Cu hO QE xA;clear aW how xy Cu hO QE xA hi rF;go_wp2_with (go_at_call 367;refine (HT.o0 a1 wr HJ.o0).mono ?_;rintro e w8 (⟨v,c,hm,dB,bR,rfl,f1⟩|⟨v,a2,hm,rfl,s8,f8⟩);rotate_left;all_goals (try (have hv:=yG hm;have DJ:=HJ.o1.fr f8 (show Q∉[p] by have:=H7.l4;simp;omega);have K8:=aA hm s8 f8 DJ;clear hm s8 f8;have c8:=DJ.cell qv;have z8:=DJ.frozen i;clear DJ));all_goals (try (have UO:=HJ.o1.fr f1 (show Q∉R::p::ag oa by have:=H7.l4;have hu:=HK.l3.under;intro hq;have:=hu Q hq;omega);have c8:=UO.cell qv;have z8:=UO.frozen i;have K9:=ai hm f1;clear hm f1 UO)))
    ·go_roundg k;case measure=>omega
     case rel=>
      have QT:∀x∈[Q],w.heap.size<=x:=λx hx=>by have:=H7.l4;simp at hx;omega
      have fQ:Fr [Q] w8 (w8.setCell ⟨Q,i,none⟩ (.int .i64 v)):=(Fr.refl [Q] _).setCell (by simp) _;refine⟨j+1,a2,fs.set i v,by go_num,rfl,by omega,HK.l3.up K8.o1 fQ QT,(K8.l3.set qv v).congr (λt _=>(zac (by rw[HJ.o2];exact qv) t).symm),by rw[Dc,HJ.o2],λx hx=>?_,fQ.ag (K8.o2.ag HJ.o4 (by have:=H7.l3;simp;omega)) (by have:=H7.o3;simp;omega),(HJ.o5.trans K8.o2).step fQ (λx hx=>.inr (QT x hx)),?_⟩
      ·rcases List.mem_or_eq_of_mem_set hx with h1|h1
       ·exact HJ.o3 x h1
       ·rw[h1];omega
      ·rw[<-HJ.l6,dZ,K8.o0]
    ·go_ret;have QT:∀x∈[Q],w.heap.size<=x:=λx hx=>by have:=H7.l4;simp at hx;omega
     refine .inl ⟨c,?_,dB,bR,rfl,((HJ.o5.mono (by simp)).trans K9.l1).step ((Fr.refl [Q] _).setCell (by simp) _) (λx hx=>.inr (QT x hx))⟩;rw[HK.o0,nh,<-HM.out,<-HJ.l6,dZ,K9.o0]
   ·obtain rfl:j=m:=by omega
    have iq:dZ bs (places.take j) (List.replicate 19 0) a3 = .ok (fs,a1):=by rw[<-xA,List.drop_of_length_le (by rw[fH];omega),dZ]
    have Eg:M=if dv fs false=false then .error 3 else mZ bs most out lit jD fs a1:=by rw[HK.o0,nh,<-HM.out,iq]
    have W1:Calls Tryz.prog 390 #[.slice (some ⟨Q,0,none⟩) 19 19,.bool false] wr (gL wr fs false):=by have:=Tx (some ⟨Q,0,none⟩) 19 fs false wr (zha how xy) Cu (by omega);rwa [xy]at this
    obtain⟨wo,rfl⟩:∃wo:World,wo=wr:=⟨_,rfl⟩;obtain⟨l1,MO⟩:=ah (lit+257);obtain⟨N,Jx⟩:=ah (lit+257+jD+1);have e1:(lit:Int)+257=(l1:Nat):=by omega
    have eN:(l1:Int)+(jD:Int)+1=(N:Nat):=by omega
    have Nx:N<=316:=by omega
    have zaZ:l1+1<=N:=by omega
    have zaY:257<=l1:=by omega
    have hLE:=λ(w':World) (P:Nat) (s:St w' R p F bs a1 out oa oc most) (tb:Tb w' P fs (R::p::ag oa))=>KQ R p P N F bs out fs a1 oc most oa w' s tb (by omega) (by omega)
    have HJ:=eW aW Eg W1 QE MO Jx hLE;have kA:=af HK.l3.under;clear aW how xy Cu hO QE xA iq Eg W1 MO Jx hLE hj hjm;go_upto_region 29 with (first
     | (go_at_call 390;(with_reducible refine HJ.o2.mono ?_);rintro e w9 (⟨qu,rfl,f9⟩|⟨qu,P,D,first,sa,sc,rfl,rD,f9⟩);all_goals (try (have K9:=aq qu rD f9;clear rD));all_goals (try (have K9b:=ai qu f9));all_goals clear qu f9)
     | (go_at_call 391;(with_reducible refine (HJ.l6 w9 P (HJ.o0.cG K9.l1.2) (Ki K9.l1.1 (ax _) (λx hx=>fM (kA.out x hx) HJ.o3.size))).mono ?_);rintro e mS (⟨c,hm,dB,bR,rfl,f10⟩|⟨L,a4,ao,cap,hm,he,s10,f10,own,VZ,vu⟩);rotate_left;(rw[VZ]at he;subst he;have wS:=cU hm s10 f10 own VZ vu;clear hm s10 f10 own VZ vu)))
    ·go_ret;exact .inl ⟨3,by rw[HJ.o1,if_pos K9b.o0],by decide,by decide,rfl,(HJ.o3.trans (K9b.l1.mono (by simp))).mono (by simp)⟩
    ·have VX:M=if ae L 256=0 then .error 3 else if dv (L.take l1) false=false then .error 3 else if dv (L.drop l1) true=false then .error 3 else cq bs most (L.take l1) (L.drop l1) (fuel bs) out a4:=by have tK:=wS.out.1;rw[HJ.o1,if_neg (by rw[K9.o0];simp),mZ];rw[HJ.o5]at tK;rw[tK,<-HJ.o4]
     obtain⟨g,rfl,hcell⟩:=wS.out.2.2.2.1.cell (i:=256) (by rw[wS.out.2.2.2.2.1];omega);obtain⟨z,hz⟩:=ah (ae L 256);rw[<-hz]at hcell VX;have Nj:N<=cap:=by have:=wS.out.2.2.2.1.le;rw[wS.out.2.2.2.2.1]at this;exact this
     have zaD:cap<=9223372036854775807:=by have:=wS.out.2.2.2.1.max;unfold maxLen at this;exact this
     have ri:Ri mS (some ⟨g,0,none⟩) cap L:=wS.out.2.2.2.1.ri;have lt:(L.take l1).length=l1:=by rw[fH,wS.out.2.2.2.2.1];omega
     have ld:(L.drop l1).length=N-l1:=by rw[gN,wS.out.2.2.2.2.1]
     have W2:Calls Tryz.prog 390 #[.slice (some ⟨g,0,none⟩) l1 cap,.bool false] mS (gL mS (L.take l1) false):=by have:=Tx (some ⟨g,0,none⟩) cap (L.take l1) false mS (Ri.take ri l1) (λx hx=>wS.out.2.2.2.2.2 x (sV hx)) (by omega);rwa [lt]at this
     have W3:∀w',Fr [] mS w'->Calls Tryz.prog 390 #[.slice (bh (some ⟨g,0,none⟩) cap l1 1) (N-l1) (cap-l1),.bool true] w' (gL w' (L.drop l1) true):=λw' f'=>by have:=Tx (bh (some ⟨g,0,none⟩) cap l1 1) (cap-l1) (L.drop l1) true w' (zg2 (ri.fr f') l1 (by rw[wS.out.2.2.2.2.1];omega)) (λx hx=>wS.out.2.2.2.2.2 x (List.mem_of_mem_drop hx)) (by omega);rwa [ld]at this
     have NT:Fr [p] w mS:=(HJ.o3.trans (K9.l1.2.mono (by simp))).trans wS.out.2.2.1;have zaL:=lib.Ur huf.rA l1 (some ⟨g,0,none⟩) N cap l1 rfl (by omega);have qo:=lib.La huf.rA l1 (some ⟨g,0,none⟩) N cap l1 rfl (by omega) Nj;have HL:=aQ VX W2 W3 NT hz;clear VX ri lt ld W2 W3 NT hz;go_wp2_with (first
      | (go_at_call 390;(with_reducible refine HL.o1.mono ?_);rintro e vJ (⟨qu,rfl,f9⟩|⟨qu,P2,D2,Wg,sa2,sc2,rfl,rD,f9⟩);all_goals (try (have Bm:=aq qu rD f9;clear rD));all_goals (try (have Og:=ai qu f9));all_goals clear qu f9)
      | (go_at_call 390;(with_reducible refine (HL.o2 vJ Bm.l2).mono ?_);rintro e Bt (⟨qu,rfl,f9⟩|⟨qu,P3,D3,Wf,sa3,sc3,rfl,rD,f9⟩);all_goals (try (have G5:=aq qu rD f9;clear rD));all_goals (try (have Oe:=ai qu f9));all_goals clear qu f9)
      | (go_at_call 388;refine (ql0 R p P2 P3 F bs out (L.take l1) (L.drop l1) a4 oc most oa Bt (wS.out.2.1.cG (Bm.l2.trans G5.l2)) ((Ki Bm.o1 (ax _) (λx hx=>fM (kA.out x hx) HL.o3.size)).fr G5.l2 (by simp)) (Ki G5.o1 (ax _) (λx hx=>fM (kA.out x hx) (bP HL.o3.size Bm.l2.size)))).mono ?_;rintro e vI (⟨c,hm,dB,bR,rfl,f6⟩|⟨o6,a6,BZ,BX,hm,rfl,s6,f6⟩);all_goals (have Km:=af hm;clear hm);all_goals (try (have K6:=ai s6 f6;clear s6 f6))))
     ·have xm:((z:Int)==0)=true:=by assumption
      have qM:z=0:=by have:=beq_iff_eq.1 xm;omega
      go_ret;exact .inl ⟨3,by rw[HL.o0,if_pos qM],by decide,by decide,rfl,HL.o3.mono (by simp)⟩
     ·have xm:((z:Int)==0)=false:=by assumption
      have qM:z≠0:=λhe=>by rw[he]at xm;cases xm
      go_ret;exact .inl ⟨3,by rw[HL.o0,if_neg qM,if_pos Og.o0],by decide,by decide,rfl,(HL.o3.trans (Og.l1.mono (by simp))).mono (by simp)⟩
     ·have xm:((z:Int)==0)=false:=by assumption
      have qM:z≠0:=λhe=>by rw[he]at xm;cases xm
      go_ret;exact .inl ⟨3,by rw[HL.o0,if_neg qM,if_neg (by rw[Bm.o0];simp),if_pos Oe.o0],by decide,by decide,rfl,((HL.o3.trans (Bm.l2.mono (by simp))).trans (Oe.l1.mono (by simp))).mono (by simp)⟩
     ·have xm:((z:Int)==0)=false:=by assumption
      have qM:z≠0:=λhe=>by rw[he]at xm;cases xm
      go_ret;exact .inl ⟨c,by rw[HL.o0,if_neg qM,if_neg (by rw[Bm.o0];simp),if_neg (by rw[G5.o0];simp),Km.out],dB,bR,rfl,(((HL.o3.trans (Bm.l2.mono (by simp))).trans (G5.l2.mono (by simp))).mono (by simp)).trans f6⟩
     ·have xm:((z:Int)==0)=false:=by assumption
      have qM:z≠0:=λhe=>by rw[he]at xm;cases xm
      go_ret;exact .inr ⟨o6,a6,BZ,BX,by rw[HL.o0,if_neg qM,if_neg (by rw[Bm.o0];simp),if_neg (by rw[G5.o0];simp),Km.out],rfl,K6.o0,(Way.of _ _ _ _ _ ((HL.o3.trans (Bm.l2.mono (by simp))).trans (G5.l2.mono (by simp)))).trans K6.l1⟩
    ·go_ret;have tK:=hm;rw[HJ.o5]at tK;exact .inl ⟨c,by rw[HJ.o1,if_neg (by rw[K9.o0];simp),mZ,tK],dB,bR,rfl,((HJ.o3.trans (K9.l1.2.mono (by simp))).mono (by simp)).trans f10⟩
end inf

end Go.Proofs.YticadfhpolhkeaaGreatDoor