/-
  Texts of this proof, one behind the other: InfE, InfF, InfG, InfH, InfI.
-/
import Derived.Test.YtkmpfgpfbmeihaaGreatDoorQ14
set_option maxHeartbeats 16000000
set_option maxRecDepth 100000
set_option linter.unusedVariables false
set_option linter.unusedSimpArgs false
namespace Go.Proofs.YtkmpfgpfbmeihaaGreatDoor
namespace inf
open Go Go.RowKit lib bm bl huf
theorem qvw {w:World} {B:Nat} {e:TypeId} {ao:OA} {vs:LV} (h:jK w B e ao vs) (h0:0<vs.length):∃g,ao=some ⟨g,0,none⟩/\B<=g/\∀j v,vs[j]?=some v->w.cell? ⟨g,j,none⟩=some v:=by
 rcases h with h|⟨g,cur,rfl,hB,hg,ht⟩
 ·rw[h]at h0;simp at h0
 ·refine⟨g,rfl,hB,λj v hv=>?_⟩;rw[cell_of hg];rw[<-ht,oX]at hv;split at hv
  ·simpa using hv
  ·cases hv
theorem zh3 (x y:Nat) (hx:x<256) (hy:y<256):bits .or .i64 (x:Int) ((y:Int)*256)=((x+256*y:Nat):Int):=by have h1:=Fy x y 8 (by simpa using hx);rw[show (y:Int)*256=((y*256:Nat):Int) by omega,NG x (y*256) (by omega) (by omega),show y*256=y*2^8 from rfl,h1]
theorem qxs (x:Nat) (h:x<256):bits .xor .u8 (if IntKind.u8.signed=true then -1 else IntKind.u8.max) ((x:Nat):Int)=((255-x:Nat):Int):=by
 have aD:∀y:Fin 256,bits .xor .u8 (if IntKind.u8.signed=true then -1 else IntKind.u8.max) ((y.val:Nat):Int)=((255-y.val:Nat):Int):=by decide +kernel
 exact aD ⟨x,h⟩
theorem Db (bs:LB) (i:Nat):aO bs i<256:=iL _
theorem M5 {bs:LB} {q n j:Nat} (hj:j<n) (hq:q+j<bs.length):(((bs.drop q).take n).map bv)[j]?=some (.int .u8 (aO bs (q+j):Nat)):=by rw[iM,oX,if_pos hj,Ai,br hq];simp[bv,aO,hq]
theorem qwe (R p:Nat) (F:LN) (bs out:LB) (at_ oc most:Nat) (oa:OA) (w:World) (h:St w R p F bs at_ out oa oc most) :
  Calls Tryz.prog 166 #[.pointer (some ⟨R,0,none⟩)] w (DG w R p F bs oa most (fE bs most out at_)):=by
 obtain⟨M,hM⟩:=ai (fE bs most out at_);rw[<-hM];have c0:=cell_of h.box 0;simp only[bF,aT,bP]at c0;obtain⟨q,hq⟩:=ai ((at_+7)/8);by_cases hl:q+4<=bs.length
 ·have j8:Calls Tryz.prog 185 #[.pointer (some ⟨p,0,none⟩),.int .i64 4] w (bits.lu p F bs at_ 4 w):=bits.qpg p F bs at_ 4 w h.rd (by omega) (by omega);have yL:M=if aO bs q+aO bs (q+2)=255/\aO bs (q+1)+aO bs (q+3)=255 then df bs most (aO bs q+256*aO bs (q+1)) out (q+4) else .error 3:=by rw[hM];unfold fE;rw[<-hq,if_pos hl]
  have e0:(((bs.drop q).take 4).map bv).length=4:=by simp;omega
  obtain⟨x0,iD⟩:∃x,x=aO bs q:=⟨_,rfl⟩;obtain⟨x1,eQ⟩:∃x,x=aO bs (q+1):=⟨_,rfl⟩;obtain⟨x2,kt⟩:∃x,x=aO bs (q+2):=⟨_,rfl⟩;obtain⟨x3,Gj⟩:∃x,x=aO bs (q+3):=⟨_,rfl⟩;have g0:=M5 (bs:=bs) (q:=q) (n:=4) (j:=0) (by omega) (by omega);have g1:=M5 (bs:=bs) (q:=q) (n:=4) (j:=1) (by omega) (by omega);have g2:=M5 (bs:=bs) (q:=q) (n:=4) (j:=2) (by omega) (by omega);have g3:=M5 (bs:=bs) (q:=q) (n:=4) (j:=3) (by omega) (by omega);rw[ie,<-iD]at g0;rw[<-eQ]at g1;rw[<-kt]at g2;rw[<-Gj]at g3;rw[<-iD,<-eQ,<-kt,<-Gj]at yL;have b0:x0<256:=by rw[iD];exact Db _ _
  have b1:x1<256:=by rw[eQ];exact Db _ _
  have b2:x2<256:=by rw[kt];exact Db _ _
  have b3:x3<256:=by rw[Gj];exact Db _ _
  have G:=aQ g0 g1 g2 g3 e0;have H:=aG h j8 yL hq;clear h j8 yL hM hq iD eQ kt Gj g0 g1 g2 g3 e0;go_enter Tryz.func166,Tryz.ntmps166;go_upto_region 4 with (go_at_call 185;refine H.l1.1.mono ?_;rintro e w1 ⟨ao,rfl,dR,_,_,di,f1⟩;rw[<-H.l1.2.2]at dR di;obtain⟨g,rfl,_,hc⟩:=qvw dR (by rw[G.out.2.2.2.2];decide);have d0:=hc 0 _ G.out.1;have d1:=hc 1 _ G.out.2.1;have d2:=hc 2 _ G.out.2.2.1;have d3:=hc 3 _ G.out.2.2.2.1;have K1:=ak (H.o0.take f1 di) f1;clear hc dR di f1);obtain⟨n,hn⟩:=ai (x0+256*x1);obtain⟨y2,lb⟩:∃y,y=255-x2:=⟨_,rfl⟩;obtain⟨y3,LJ⟩:∃y,y=255-x3:=⟨_,rfl⟩;have vq:=zh3 x0 x1 b0 b1;have Oy:=qxs x2 b2;have Ox:=qxs x3 b3;rw[<-hn]at vq;rw[<-lb]at Oy;rw[<-LJ]at Ox;have zD:n<65536:=by omega
  have hnN:=aw hn lb LJ;have c02:x0+x2=255↔x0=y2:=by omega
  have lK:x1+x3=255↔x1=y3:=by omega
  have hC:=ak c02 lK;have by2:y2<256:=by omega
  have by3:y3<256:=by omega
  clear hn lb LJ c02 lK;go_quiet (fail);obtain⟨w2,bL⟩:=ai (w1.drewN nq);have f2:Fr [] w1 w2:=by rw[bL];exact .drewN _ _ _
  replace d0:=f2.cell d0 (by simp);replace d1:=f2.cell d1 (by simp);replace d2:=f2.cell d2 (by simp);replace d3:=f2.cell d3 (by simp);rw[<-bL];have K2:=ak (K1.o0.dQ f2) f2;clear bL f2 vq;go_upto_region 5 with fail;have bad:¬(x0+x2=255/\x1+x3=255)->M = .error 3:=λcQ=>by rw[H.l1.2.1,if_neg cQ]
  have hB:=ah bad;clear bad;by_cases p0:x0=y2
  ·have n0:((x0:Int)!=(y2:Int))=false:=by rw[p0];simp
   by_cases p1:x1=y3
   ·have n1:((x1:Int)!=(y3:Int))=false:=by rw[p1];simp
    have vD:M=df bs most n out (q+4):=by rw[H.l1.2.1,if_pos ⟨hC.o0.2 p0,hC.l1.2 p1⟩,hnN.o0]
    have HM:=aw p0 p1 vD;clear p0 p1 vD;go_quiet (fail);obtain⟨w3,jR⟩:=ai (w2.drewN nq);have f3:Fr [] w2 w3:=by rw[jR];exact .drewN _ _ _
    have s3:=K2.o0.dQ f3;rw[show q*8+8*4=8*(q+4) by omega]at s3;rw[<-jR];have K3:=aw s3 f3 (((Way.of _ _ _ _ _ K1.l1).trans (Way.N4 _ _ R p oa K2.l1)).trans (Way.N4 _ _ _ _ _ f3));clear jR s3 f3 d0 d1 d2 d3 c0 n0 n1 Oy Ox;go_wp2;go_loopg [2,6,7,8,48] n (λk s2 s6 s7 s8 s48 wr=>∃(j:Nat) (bM:LB) (jP:OA) (nV:Nat),s48 = .int .i64 (j:Nat)/\j+k=n/\St wr R p F bs (8*(q+4+j)) bM jP nV most/\Way w R p oa wr jP/\df bs most k bM (q+4+j)=df bs most n out (q+4));case atStart=>exact⟨0,out,oa,oc,rfl,by omega,K3.o0,K3.l2,rfl⟩
    case round=>
     obtain⟨j,bM,jP,nV,rfl,fx,aH,im,rS⟩:=hrel;obtain⟨m,hm⟩:=ai (q+4+j);rw[<-hm]at aH rS;by_cases hj:j<n
     ·obtain⟨k,rfl⟩:∃k,gk=k+1:=⟨gk-1,by omega⟩;have c0:=cell_of aH.box 0;simp only[bF,aT,bP]at c0;by_cases jC:m<bs.length
      ·have fM:Calls Tryz.prog 185 #[.pointer (some ⟨p,0,none⟩),.int .i64 1] wr (bits.lu p F bs (8*m) 1 wr):=bits.qpg p F bs (8*m) 1 wr aH.rd (by omega) (by omega);obtain⟨u,hu⟩:=ai (bs[m]?.getD 0);have g0:=M5 (bs:=bs) (q:=m) (n:=1) (j:=0) (by omega) (by omega);have gl:(((bs.drop m).take 1).map bv).length=1:=by simp;omega
       rw[ie,show aO bs m=u.toNat by rw[hu];rfl]at g0;have HJ:=lv aH im rS fM g0 gl hm hu;clear aH im rS fM g0 gl hm hu;go_wp2_with (first|(go_at_call 185;refine HJ.out.2.2.2.1.mono ?_;rintro e w4 ⟨ao,rfl,dR,_,_,di,f1⟩;rw[show (8*m+7)/8=m by omega]at dR di;obtain⟨g4,rfl,_,hc⟩:=qvw dR (by rw[HJ.out.2.2.2.2.2.1];decide);have d0:=hc 0 _ HJ.out.2.2.2.2.1;have K4:=ak (HJ.out.1.take f1 di) f1;clear hc dR di f1)|(go_at_call 186;refine (Li R p F bs bM _ nV most jP u w4 K4.o0).mono ?_;rintro e w5 (⟨c,hm,bZ,cY,rfl,f1⟩|⟨wR,a4,yg,Bt,hm,rfl,s4,f4⟩);all_goals (have Km:=ah hm;clear hm);all_goals (try (have K5:=ak s4 f4;clear s4 f4))))
       ·go_ret;have lF:=Km.out;cases hp:jA most bM u with
        | ok o2=>rw[hp]at lF;cases lF
        | error e=>
         rw[hp]at lF;have P1:e=c:=by simpa[Except.map] using lF
         have e1:df bs most (k+1) bM m = .error c:=by rw[df,if_pos jC,<-HJ.out.2.2.2.2.2.2.2,hp,P1]
         exact .inl ⟨c,by rw[HM.l1.2,<-HJ.out.2.2.1,e1],bZ,cY,rfl,(HJ.out.2.1.trans (Way.of _ _ _ _ _ K4.l1)).J6 f1⟩
       ·go_roundg k;case measure=>omega
        case rel=>
         have lF:=Km.out;cases hp:jA most bM u with
         | error e=>rw[hp]at lF;cases lF
         | ok o2=>
          rw[hp]at lF;have iy:o2=wR/\m*8+8*1=a4:=by simpa[Except.map] using lF
          obtain⟨rfl,rfl⟩:=iy;have s5:=K5.o0;rw[show m*8+8*1=8*(q+4+(j+1)) by have:=HJ.out.2.2.2.2.2.2.1;omega]at s5;refine⟨j+1,o2,yg,Bt,by go_num,by omega,s5,(HJ.out.2.1.trans (Way.of _ _ _ _ _ K4.l1)).trans K5.l1,?_⟩;rw[<-HJ.out.2.2.1,df,if_pos jC,<-HJ.out.2.2.2.2.2.2.2,hp,show q+4+(j+1)=m+1 by have:=HJ.out.2.2.2.2.2.2.1;omega]
      ·have fM:Calls Tryz.prog 185 #[.pointer (some ⟨p,0,none⟩),.int .i64 1] wr _:=bits.qsl p F bs (8*m) 1 wr aH.rd (.inr (by omega));have e1:df bs most (k+1) bM m = .error 4:=by rw[df,if_neg jC]
       have HJ:=aQ aH im rS fM e1;clear aH im rS fM e1 hm;go_wp2_with (go_at_call 185;refine HJ.out.2.2.2.1.mono ?_;rintro e w4 ⟨rfl,_,f1⟩);go_ret;exact .inl ⟨4,by rw[HM.l1.2,<-HJ.out.2.2.1,HJ.out.2.2.2.2],by decide,by decide,rfl,HJ.out.2.1.J6 (f1.mono (by simp))⟩
     ·have AB:gk=0:=by omega
      subst AB;have e1:df bs most n out (q+4) = .ok (bM,8*m):=by rw[<-rS,df]
      have HE:=aw aH im e1;clear aH im rS e1 hm;obtain rfl:j=n:=by omega
      go_wp2;go_ret;exact .inr ⟨bM,_,jP,nV,by rw[HM.l1.2,HE.l2],rfl,HE.o0,HE.o1⟩
   ·have n1:((x1:Int)!=(y3:Int))=true:=by simp;omega
    have vD:M = .error 3:=hB.out (λh=>p1 (hC.l1.1 h.2));have HM:=aw p0 p1 vD;clear p0 p1 vD;go_quiet (fail);go_wp2;go_ret;exact .inl ⟨3,HM.l1.2,by decide,by decide,rfl,((K1.l1.trans (K2.l1.mono (by simp))).trans (Fr.drewN _ _ _)).mono (by simp)⟩
  ·have n0:((x0:Int)!=(y2:Int))=true:=by simp;omega
   have vD:M = .error 3:=hB.out (λh=>p0 (hC.o0.1 h.1));have HM:=ak p0 vD;clear p0 vD;go_quiet (fail);go_wp2;go_ret;exact .inl ⟨3,HM.l1,by decide,by decide,rfl,((K1.l1.trans (K2.l1.mono (by simp))).trans (Fr.drewN _ _ _)).mono (by simp)⟩
 ·have j8:Calls Tryz.prog 185 #[.pointer (some ⟨p,0,none⟩),.int .i64 4] w _:=bits.qsl p F bs at_ 4 w h.rd (.inr (by omega));have yL:M = .error 4:=by rw[hM];unfold fE;rw[<-hq,if_neg hl]
  have H:=ak j8 yL;clear h j8 yL hM hq;go_enter Tryz.func166,Tryz.ntmps166;go_wp2_with (go_at_call 185;refine H.o0.mono ?_;rintro e w1 ⟨rfl,_,f1⟩);go_ret;exact .inl ⟨4,H.l1,by decide,by decide,rfl,f1.mono (by simp)⟩
def ia (w:World) (ls:LN) (few:Bool) (e:Ending) (w':World):Prop:=
 (dG ls few=false/\e = .returned (.tuple #[.pointer none,.int .i64 3])/\Fr [] w w')\/
 (dG ls few=true/\ud w ls e w')
theorem y6 (l:LN) (x:Nat):some_ (l++[x])=some_ l+if 0<x then 1 else 0:=by unfold some_;rw[D8,aA];split<;>simp[*]
theorem qy8 (l:LN) (x:Nat):ones (l++[x])=(ones l&&decide (x<=1)):=by unfold ones;rw[List.all_append];simp
theorem qyd (l:LN):some_ l<=l.length:=FY _ _
theorem WK (a:OA) (cap:Nat) (ls:LN) (few:Bool) (w:World) (h:Ri w a cap ls) (hle:∀l∈ls,l<=15) (hlen:ls.length<=400) :
  Calls Tryz.prog 190 #[.slice a ls.length cap,.bool few] w (ia w ls few):=by
 obtain⟨N,hN⟩:=ai ls.length;by_cases hw:weight ls<=32768
 ·have fL:=Vv a cap ls w h hle hlen hw;rw[<-hN]at fL hlen ⊢;have H:=aQ h hle hN fL hw;clear h hle hN fL hw;go_enter Tryz.func190,Tryz.ntmps190;go_upto_block 0 with (go_at_call 187;refine H.out.2.2.2.1.mono ?_;rintro e w1 ⟨P,D,first,sa,sc,rfl,nZ,f1⟩;have H1:=ak nZ f1;clear nZ f1);go_wp2;go_loopg [8,9,11,21] N (λk s8 s9 s11 s21 wr=>∃i:Nat,s21 = .int .i64 (i:Nat)/\s8 = .int .i64 (some_ (ls.take i):Nat)/\s9 = .bool (ones (ls.take i))/\i+k=N/\w1=wr);case atStart=>exact⟨0,rfl,rfl,rfl,by omega,rfl⟩
  case round=>
   obtain⟨i,rfl,rfl,rfl,bX,rfl⟩:=hrel;by_cases hi:i<N
   ·obtain⟨k,rfl⟩:∃k,gk=k+1:=⟨gk-1,by omega⟩;have eO:i<ls.length:=by rw[<-H.out.2.2.1];exact hi
    obtain⟨ga,o,ha,hc⟩:=(H.out.1.fr H1.out.2).at eO;subst ha;have iZ:=H.out.2.1 _ (tk eO);have ht:ls.take (i+1)=ls.take i++[ls[i]]:=by rw[Ef eO]
    obtain⟨x,hx⟩:=ai (ls[i]);rw[<-hx]at hc iZ ht;obtain⟨c,kQ⟩:=ai (some_ (ls.take i));have fU:c<=400:=by rw[kQ];have:=qyd (ls.take i);rw[dU]at this;omega
    obtain⟨b,hb⟩:=ai (ones (ls.take i));have e1:some_ (ls.take (i+1))=c+if 0<x then 1 else 0:=by rw[ht,y6,kQ]
    have e2:ones (ls.take (i+1))=(b&&decide (x<=1)):=by rw[ht,qy8,hb]
    rw[<-kQ,<-hb];have HI:=ak e1 e2;clear e1 e2 kQ hb ht hx;by_cases h0:x=0
    ·subst h0;go_wp2;go_roundg k;case measure=>omega
     case rel=>exact⟨i+1,by go_num,by rw[HI.o0];rfl,by rw[HI.l1];simp,by omega,rfl⟩
    ·have d0:decide ((0:Int)<x)=true:=by simp;omega
     by_cases h1:x=1
     ·subst h1;cases b
      ·go_wp2;go_roundg k;case measure=>omega
       case rel=>exact⟨i+1,by go_num,by rw[HI.o0];rfl,by rw[HI.l1];rfl,by omega,rfl⟩
      ·go_wp2;go_roundg k;case measure=>omega
       case rel=>exact⟨i+1,by go_num,by rw[HI.o0];rfl,by rw[HI.l1];rfl,by omega,rfl⟩
     ·have d1:((x:Int)==1)=false:=by simp;omega
      have d2:decide (x<=1)=false:=by simp;omega
      have HD:=ah d2;clear d2;cases b
      ·go_wp2;go_roundg k;case measure=>omega
       case rel=>exact⟨i+1,by go_num,by rw[HI.o0,if_pos (by omega)];rfl,by rw[HI.l1];rfl,by omega,rfl⟩
      ·go_wp2;go_roundg k;case measure=>omega
       case rel=>exact⟨i+1,by go_num,by rw[HI.o0,if_pos (by omega)];rfl,by rw[HI.l1,HD.out];rfl,by omega,rfl⟩
   ·obtain rfl:i=N:=by omega
    have et:ls.take i=ls:=mL (by rw[<-H.out.2.2.1];exact ay _);rw[et];obtain⟨c,kQ⟩:=ai (some_ ls);obtain⟨b,hb⟩:=ai (ones ls);have fU:c<=400:=by rw[kQ];have:=qyd ls;rw[<-H.out.2.2.1]at this;omega
    have rR:dG ls few=(decide (weight ls=32768)||(few&&(decide (c<2)&&b))):=by unfold dG;rw[<-kQ,<-hb,decide_eq_true H.out.2.2.2.2,Bool.true_and]
    have JF:=qsd a cap ls w1 (H.out.1.fr H1.out.2) H.out.2.1 (by rw[<-H.out.2.2.1];omega);rw[<-H.out.2.2.1]at JF;obtain⟨cp,JE⟩:=ai (decide (weight ls=32768));rw[<-JE]at rR JF;rw[<-kQ,<-hb];have HC:=ak JF rR;clear JF rR JE kQ hb et hi bX;have fin:dG ls few=false->ia w ls few (.returned (.tuple #[.pointer none,.int .i64 3])) w1:=λh0=>.inl ⟨h0,rfl,H1.out.2⟩
    have QL:dG ls few=true->ia w ls few (.returned (.tuple #[.pointer (some ⟨P,0,none⟩),.int .i64 0])) w1:=λh0=>.inr ⟨h0,P,D,first,sa,sc,rfl,H1.out.1,H1.out.2⟩
    have HF:=ak fin QL;clear fin QL;cases cp
    ·cases few
     ·go_wp2_with (go_at_call 208;refine HC.o0.mono ?_;rintro e w2 ⟨rfl,rfl⟩);go_ret2;exact HF.o0 (by rw[HC.l1];rfl)
     ·by_cases h2:c<2
      ·have d2:decide ((c:Int)<2)=true:=by simp;omega
       cases b
       ·go_wp2_with (go_at_call 208;refine HC.o0.mono ?_;rintro e w2 ⟨rfl,rfl⟩);go_ret2;exact HF.o0 (by rw[HC.l1];simp)
       ·go_wp2_with (go_at_call 208;refine HC.o0.mono ?_;rintro e w2 ⟨rfl,rfl⟩);go_ret2;exact HF.l1 (by rw[HC.l1,decide_eq_true h2];rfl)
      ·have d2:decide ((c:Int)<2)=false:=by simp;omega
       go_wp2_with (go_at_call 208;refine HC.o0.mono ?_;rintro e w2 ⟨rfl,rfl⟩);go_ret2;exact HF.o0 (by rw[HC.l1,decide_eq_false h2];rfl)
    ·go_wp2_with (go_at_call 208;refine HC.o0.mono ?_;rintro e w2 ⟨rfl,rfl⟩);go_ret2;exact HF.l1 (by rw[HC.l1];rfl)
 ·have fL:=zgr a cap ls w h hle hlen (by omega);rw[<-hN]at fL ⊢;have rR:dG ls few=false:=by unfold dG;rw[decide_eq_false hw,KD]
  have H:=ak fL rR;clear h hle hN fL hw rR;go_enter Tryz.func190,Tryz.ntmps190;go_wp2_with (go_at_call 187;refine H.out.1.mono ?_;rintro e w1 ⟨rfl,f1⟩);go_ret2;exact .inl ⟨H.out.2,rfl,f1⟩
theorem qz0 {bs:LB} {ls L:LN} {n k a:Nat} (h:n<=L.length):cD bs ls n (k+1) L a = .ok (L,a):=by rw[cD,if_pos h]
theorem qzy {bs:LB} {ls L:LN} {n k a c:Nat} (h:L.length<n) (hs:lD bs ls a = .error c):cD bs ls n (k+1) L a = .error c:=by rw[cD,if_neg (by omega),hs]
theorem qzz {bs:LB} {ls L:LN} {n k a s a1:Nat} (h:L.length<n) (hs:lD bs ls a = .ok (s,a1)) (nG:s<16):cD bs ls n (k+1) L a=cD bs ls n k (L++[s]) a1:=by rw[cD,if_neg (by omega),hs];simp only[if_pos nG]
theorem SR {bs:LB} {ls L:LN} {n k a s a1 c:Nat} (h:L.length<n) (hs:lD bs ls a = .ok (s,a1)) (nG:16<=s) (ht:aY bs a1 (wide s) = .error c):cD bs ls n (k+1) L a = .error c:=by rw[cD,if_neg (by omega),hs];simp only[if_neg (show ¬s<16 by omega),ht]
theorem SQ {bs:LB} {ls L:LN} {n k a s a1 v a2:Nat} (h:L.length<n) (hs:lD bs ls a = .ok (s,a1)) (nG:16<=s) (ht:aY bs a1 (wide s) = .ok (v,a2)) (hf:(s=16/\L=[])\/n-L.length<least s+v):cD bs ls n (k+1) L a = .error 3:=by rw[cD,if_neg (by omega),hs];simp only[if_neg (show ¬s<16 by omega),ht];rw[if_pos hf]
theorem Wg {bs:LB} {ls L:LN} {n k a s a1 v a2:Nat} (h:L.length<n) (hs:lD bs ls a = .ok (s,a1)) (nG:16<=s) (ht:aY bs a1 (wide s) = .ok (v,a2)) (hf:¬((s=16/\L=[])\/n-L.length<least s+v)) :
  cD bs ls n (k+1) L a=cD bs ls n k (L++List.replicate (least s+v) (if s=16 then L.getLast?.getD 0 else 0)) a2:=by
 rw[cD,if_neg (by omega),hs];simp only[if_neg (show ¬s<16 by omega),ht];rw[if_neg hf]
structure ej (w wr:World) (ao:OA) (cap:Nat) (L:LN):Prop where
 own:wr.ownsRow 0 3 1 (.slice ao L.length cap) L.length (ints L)
 new:∀x∈af ao,w.heap.size<=x
 le:L.length<=cap
 max:cap<=maxLen
 nil:ao=none->cap=0
theorem ej.start (w wr:World):ej w wr none 0 []:=⟨⟨by simp[ints],.inl ⟨rfl,rfl⟩⟩,by simp[af],ay _,ep _,λ_=>rfl⟩
theorem ej.fr {w wr w2:World} {S:LN} {ao:OA} {cap:Nat} {L:LN} (h:ej w wr ao cap L) (f:Fr S wr w2) (hS:∀x∈S,x<w.heap.size):ej w w2 ao cap L:=
 ⟨dr h.own f (λk hk hkS=>by
  have rH:k∈af ao:=by rw[<-dD ao L.length cap,hk];simp
  have:=h.new k rH
  have:=hS k hkS
  omega),h.new,h.le,h.max,h.nil⟩
theorem ej.app {w wr w2:World} {ao dv:OA} {cap dA n:Nat} {L:LN} {x:Nat} {o:Obj} (h:ej w wr ao cap L) (hn:n=L.length) (fw:w.heap.size<=wr.heap.size)
  (A:aV (wr.alloc o) w2 3 1 (af ao) dv (n+1) dA (ints L++[.int .i64 x])):ej w w2 dv dA (L++[x])/\Fr (af ao) wr w2:=by
 have el:(L++[x]).length=n+1:=by rw[hn];simp
 have ei:ints (L++[x])=ints L++[.int .i64 x]:=by simp[ints]
 refine⟨⟨by rw[el,ei];exact A.own,λy hy=>?_,by rw[el];exact A.le,A.max,A.nil⟩,((Fr.refl _ wr).alloc _).trans A.fr⟩;rcases A.at_ y hy with k|k
 ·exact h.new y k
 ·rw[k,fD];omega
theorem ej.ri {w wr:World} {ao:OA} {cap:Nat} {L:LN} (h:ej w wr ao cap L):Ri wr ao cap L:=⟨C8 h.own,h.le,h.max,h.nil⟩
theorem St.up {w wr w2:World} {R p:Nat} {F S:LN} {bs out:LB} {at_ a1 oc most:Nat} {oa:OA} (h0:St w R p F bs at_ out oa oc most) (h:St wr R p F bs a1 out oa oc most) (f:Fr S wr w2) (hS:∀x∈S,w.heap.size<=x):St w2 R p F bs a1 out oa oc most:=
 h.fr f (λhR=>by have:=hS R hR;have:=lt_of_block h0.box;omega) (λx hx X5=>by have:=hS x X5;have:=h0.low x hx;omega) (λx hx X5=>by have:=hS x X5;have:=rr h0.own (qi hx);omega)
theorem ej.last {w wr:World} {ao:OA} {cap:Nat} {L:LN} (h:ej w wr ao cap L) (h0:0<L.length):∃g,ao=some ⟨g,0,none⟩/\wr.cell? ⟨g,L.length-1,none⟩=some (.int .i64 (L.getLast?.getD 0:Nat)):=by
 obtain⟨h1,h2⟩:=h.own;rcases h2 with⟨h2,_⟩|⟨g,aS,cur,h2,hb,hg,hn,hm,hs,ht⟩
 ·simp only[mV]at h2;omega
 ·simp only[mV]at h2;refine⟨g,h2.1,?_⟩;rw[cell_of hg,<-oY];have e1:(cur.toList.take (L.length*1))[L.length-1]?=(ints L)[L.length-1]?:=by rw[ht]
  rw[oX,if_pos (by omega)]at e1;rw[e1,List.getLast?_eq_getElem?,ints,iM,br (show L.length-1<L.length by omega)];rfl
theorem ej.cell {w wr:World} {ao:OA} {cap:Nat} {L:LN} (h:ej w wr ao cap L) {i:Nat} (h0:i<L.length):∃g,ao=some ⟨g,0,none⟩/\wr.cell? ⟨g,i,none⟩=some (.int .i64 (ae L i:Nat)):=by
 obtain⟨h1,h2⟩:=h.own;rcases h2 with⟨h2,_⟩|⟨g,aS,cur,h2,hb,hg,hn,hm,hs,ht⟩
 ·simp only[mV]at h2;omega
 ·simp only[mV]at h2;refine⟨g,h2.1,?_⟩;rw[cell_of hg,<-oY];have e1:(cur.toList.take (L.length*1))[i]?=(ints L)[i]?:=by rw[ht]
  rw[oX,if_pos (by omega)]at e1;rw[e1,ints,iM,br h0,ae,br h0];rfl
def iB (w:World) (R p:Nat) (F:LN) (bs out:LB) (oa:OA) (oc most n:Nat) (m:Except Nat (List Nat×Nat)) (e:Ending) (w':World):Prop:=
 (∃c,m = .error c/\0<c/\c<100/\e = .returned (.tuple #[.slice none 0 0,.int .i64 (c:Nat)])/\Fr (R::p::af oa) w w')\/
 (∃L a ao cap,m = .ok (L,a)/\e = .returned (.tuple #[.slice ao L.length cap,.int .i64 0])/\St w' R p F bs a out oa oc most/\Fr [p] w w'/\ej w w' ao cap L/\L.length=n/\∀x∈L,x<=15)
theorem NM (R p P n:Nat) (F:LN) (bs out:LB) (ls:LN) (at_ oc most:Nat) (oa:OA) (w:World) (h:St w R p F bs at_ out oa oc most) (hT:Tb w P ls (R::p::af oa)) (hl:ls.length<=19) (hn:n<=400) :
  Calls Tryz.prog 191 #[.pointer (some ⟨R,0,none⟩),.pointer (some ⟨P,0,none⟩),.int .i64 n] w (iB w R p F bs out oa oc most n (cD bs ls n (n+1) [] at_)):=by
 obtain⟨M,hM⟩:=ai (cD bs ls n (n+1) [] at_);rw[<-hM];have H:=aG h hT hM hl;clear h hT hM hl;go_enter Tryz.func191,Tryz.ntmps191;go_wp2;go_loopg [6,7,8,9,10,11,12,13,14,79] (n+1) (λk s6 s7 s8 s9 s10 s11 s12 s13 s14 s79 wr=>∃(l a1:Nat) (L:LN) (ao:OA) (cap:Nat),s8 = .slice ao l cap/\l=L.length/\l<=n/\n+1<=l+k/\St wr R p F bs a1 out oa oc most/\Fr [p] w wr/\ej w wr ao cap L/\cD bs ls n k L a1=M/\∀x∈L,x<=15);case atStart=>exact⟨0,at_,[],none,0,rfl,rfl,by omega,by omega,H.o0,.refl _ _,.start _ _,H.o2.symm,by simp⟩
 case round=>
  obtain⟨l,a1,L,ao,cap,rfl,TN,rG,zG,aH,hf,aI,eO,pz⟩:=hrel;obtain⟨k,rfl⟩:∃k,gk=k+1:=⟨gk-1,by omega⟩;have c0:=cell_of aH.box 0;simp only[bF,aT,bP]at c0;by_cases bg:l<n
  ·have HJ:=cJ aH hf aI eO pz TN;clear aH hf aI eO pz TN;have hp:∀x∈[p],x<w.heap.size:=λx hx=>by simp at hx;rw[hx];exact H.o0.low _ H.o0.pF.1
   have HP:=ah hp;clear hp;go_upto_block 3 with (first
    | (go_at_call 206;refine (La R p P F bs out ls a1 oc most oa wr HJ.out.1 (H.o1.fr HJ.out.2.1 (by simp))).mono ?_;rintro e w2 (⟨v2,c,hm,bZ,cY,rfl,f1⟩|⟨s,a2,hm,rfl,s2,f2⟩);rotate_left;(have Yn:=(Le hm).1;have hls:=H.l3;rcases (show s<16\/(s=16/\l=0)\/(s=16/\0<l)\/s=17\/s=18 by omega) with hs|⟨rfl,rfl⟩|⟨rfl,EK⟩|rfl|rfl);all_goals (try (have T2:Calls Tryz.prog 134 #[.pointer (some ⟨R,0,none⟩),.int .i64 2] w2 (ox w2 R p F bs out oa oc most (aY bs a2 2)):=FM R p F bs out a2 oc most 2 oa w2 s2 (by decide);have T3:Calls Tryz.prog 134 #[.pointer (some ⟨R,0,none⟩),.int .i64 3] w2 (ox w2 R p F bs out oa oc most (aY bs a2 3)):=FM R p F bs out a2 oc most 3 oa w2 s2 (by decide);have T7:Calls Tryz.prog 134 #[.pointer (some ⟨R,0,none⟩),.int .i64 7] w2 (ox w2 R p F bs out oa oc most (aY bs a2 7)):=FM R p F bs out a2 oc most 7 oa w2 s2 (by decide);have K2:=dk hm s2 f2 T2 T3 T7 (HJ.out.2.2.1.fr f2 HP.out);clear hm s2 f2 T2 T3 T7 Yn hls));all_goals (first|(have _t:=EK;obtain⟨g,rfl,hce⟩:=K2.out.2.2.2.2.2.2.last (by rw[<-HJ.out.2.2.2.2.2];exact EK);rw[<-HJ.out.2.2.2.2.2]at hce)|skip))
    | (go_at_call 134;(first|with_reducible refine K2.out.2.2.2.1.mono ?_|with_reducible refine K2.out.2.2.2.2.1.mono ?_|with_reducible refine K2.out.2.2.2.2.2.1.mono ?_);rintro e w3 (⟨v3,c,hm,bZ,cY,rfl,f1⟩|⟨v,a3,hm,rfl,s3,f3⟩);all_goals (try (replace hce:=f3.cell hce (by have:=K2.out.2.2.2.2.2.2.new g (by simp[af]);have:=HP.out p (by simp);simp;omega);have vu:((l:Int)==0)=false:=by simp;omega));all_goals (try (have Dp:=Bd hm;have K3:=aw hm s3 f3;clear hm s3 f3)))
    | (at_builtin;go_loud (refine gM huf.pG rfl _ _ rfl (.slice ao l cap) l (ints L) (af ao) rfl (dD ao l cap) (by have:=dr K2.out.2.2.2.2.2.2.own ((Fr.refl [] w2).alloc (.cells #[.int .i64 s] 3 (0,0))) (by simp);rwa [<-HJ.out.2.2.2.2.2]at this) (some ⟨w2.heap.size,0,none⟩) 1 1 [.int .i64 s] (by first|rfl|simp) (ay _) (λh=>by cases h) (nM _ _ _ _ (bC _ _)) rfl (by intro u hu;simp only[iH]at hu;rw[hu];rfl) (by omega) (by unfold maxLen;omega) ?_);intro dv dA w4 A4;have HA:=ah A4;clear A4))
   ·go_roundg k;case measure=>omega
    case rel=>
     have hp:=HP.out;have hA:=HJ.out.2.2.1.fr K2.out.2.2.1 hp;have jv:=hA.app (n:=l) HJ.out.2.2.2.2.2 (HJ.out.2.1.trans K2.out.2.2.1).size HA.out;refine⟨l+1,a2,L++[s],dv,dA,rfl,by rw[aA,<-HJ.out.2.2.2.2.2];rfl,by omega,by omega,H.o0.up K2.out.2.1 jv.2 (λx hx=>hA.new x hx),(HJ.out.2.1.trans K2.out.2.2.1).step jv.2 (λx hx=>.inr (hA.new x hx)),jv.1,?_,?_⟩
     ·rw[<-HJ.out.2.2.2.1,qzz (by rw[<-HJ.out.2.2.2.2.2];exact bg) K2.out.1 hs]
     ·intro x hx;rcases jw.1 hx with h1|h1
      ·exact HJ.out.2.2.2.2.1 x h1
      ·simp at h1;omega
   ·go_ret2;exact .inl ⟨c,by rw[<-HJ.out.2.2.2.1,SR (by rw[<-HJ.out.2.2.2.2.2];exact bg) K2.out.1 (by decide) hm],bZ,cY,rfl,((HJ.out.2.1.trans K2.out.2.2.1).mono (by simp)).trans f1⟩
   ·go_ret2;exact .inl ⟨3,by rw[<-HJ.out.2.2.2.1,SQ (by rw[<-HJ.out.2.2.2.2.2];exact bg) K2.out.1 (by decide) K3.o0 (.inl ⟨rfl,wN (HJ.out.2.2.2.2.2).symm⟩)],by decide,by decide,rfl,((HJ.out.2.1.trans K2.out.2.2.1).trans K3.l2).mono (by simp)⟩
   ·go_ret2;exact .inl ⟨c,by rw[<-HJ.out.2.2.2.1,SR (by rw[<-HJ.out.2.2.2.2.2];exact bg) K2.out.1 (by decide) hm],bZ,cY,rfl,((HJ.out.2.1.trans K2.out.2.2.1).mono (by simp)).trans f1⟩
   ·go_ret2;exact .inl ⟨3,by rw[<-HJ.out.2.2.2.1,SQ (by rw[<-HJ.out.2.2.2.2.2];exact bg) K2.out.1 (by decide) K3.o0 (.inr (by rw[<-HJ.out.2.2.2.2.2];show n-l<3+v;omega))],by decide,by decide,rfl,((HJ.out.2.1.trans K2.out.2.2.1).trans K3.l2).mono (by simp)⟩
   ·obtain⟨t,ht⟩:=ai (3+v);have et:(3:Int)+(v:Nat)=(t:Nat):=by rw[ht];omega
    rw[et];have Tv:t<=n-l:=by omega
    obtain⟨x,hx⟩:=ai (L.getLast?.getD 0);have iZ:x<=15:=by rw[hx,List.getLast?_eq_getElem?,br (show L.length-1<L.length by have:=HJ.out.2.2.2.2.2;omega)];exact HJ.out.2.2.2.2.1 _ (tk _)
    have hE:cD bs ls n k (L++List.replicate t x) a3=M:=by
     rw[<-HJ.out.2.2.2.1,Wg (s:=16) (v:=v) (a2:=a3) (by rw[<-HJ.out.2.2.2.2.2];exact bg) K2.out.1 (by decide) K3.o0 (by
      rintro (⟨_,h1⟩|h1)
      ·have:=HJ.out.2.2.2.2.2;rw[h1]at this;simp at this;omega
      ·rw[<-HJ.out.2.2.2.2.2]at h1;have h2:n-l<3+v:=h1;omega),ht,hx]
     rfl
    rw[<-hx];have u6:0<t:=by omega
    have HB:=aQ hE iZ (K2.out.2.2.2.2.2.2.fr K3.l2 HP.out) ((HJ.out.2.1.trans K2.out.2.2.1).trans K3.l2) ht;clear hE iZ ht et Dp c0 hx hce vu;go_wp2;go_loopg [8,79] t (λk2 s8 s79 wr=>∃(j:Nat) (dv:OA) (dA:Nat),s79 = .int .i64 (j:Nat)/\s8 = .slice dv (l+j) dA/\j+k2=t/\St wr R p F bs a3 out oa oc most/\Fr [p] w wr/\ej w wr dv dA (L++List.replicate j x));case atStart=>exact⟨0,(some ⟨g,0,none⟩),cap,rfl,rfl,by omega,K3.o1,HB.o3,by simpa using HB.o2⟩
    case round=>
     obtain⟨j,dv,dA,rfl,rfl,Jt,jL,rI,how⟩:=hrel;have kz:l+j=(L++List.replicate j x).length:=by rw[aA,Am,<-HJ.out.2.2.2.2.2]
     by_cases hj:j<t
     ·obtain⟨k2,rfl⟩:∃k2,gk=k2+1:=⟨gk-1,by omega⟩;have HI:=aG jL rI how kz;clear jL rI how kz;go_wp2_with (at_builtin;go_loud (refine gM huf.pG rfl _ _ rfl (.slice dv (l+j) dA) (l+j) (ints (L++List.replicate j x)) (af dv) rfl (dD dv (l+j) dA) (by have:=dr HI.o2.own ((Fr.refl [] wr).alloc (.cells #[.int .i64 x] 3 (0,0))) (by simp);rwa [<-HI.l3]at this) (some ⟨wr.heap.size,0,none⟩) 1 1 [.int .i64 x] (by first|rfl|simp) (ay _) (λh=>by cases h) (nM _ _ _ _ (bC _ _)) rfl (by intro u hu;simp only[iH]at hu;rw[hu];rfl) (by omega) (by unfold maxLen;omega) ?_);intro vO CJ w5 A5;have HA:=ah A5;clear A5);go_roundg k2;case measure=>omega
      case rel=>have jv:=HI.o2.app (n:=l+j) (x:=x) HI.l3 HI.o1.size HA.out;refine⟨j+1,vO,CJ,by go_num,rfl,by omega,H.o0.up HI.o0 jv.2 (λy hy=>HI.o2.new y hy),HI.o1.step jv.2 (λy hy=>.inr (HI.o2.new y hy)),?_⟩;rw[Ix,<-eE];exact jv.1
     ·obtain rfl:j=t:=by omega
      have HI:=aG jL rI how kz;clear jL rI how kz;go_wp2;go_roundg k;case measure=>omega
      case rel=>
       refine⟨l+j,a3,L++List.replicate j x,dv,dA,rfl,HI.l3,by omega,by omega,HI.o0,HI.o1,HI.o2,HB.o0,?_⟩;intro y hy;rcases jw.1 hy with h1|h1
       ·exact HJ.out.2.2.2.2.1 y h1
       ·rw[(KY.1 h1).2];exact HB.o1
   ·go_ret2;exact .inl ⟨c,by rw[<-HJ.out.2.2.2.1,SR (by rw[<-HJ.out.2.2.2.2.2];exact bg) K2.out.1 (by decide) hm],bZ,cY,rfl,((HJ.out.2.1.trans K2.out.2.2.1).mono (by simp)).trans f1⟩
   ·go_ret2;exact .inl ⟨3,by rw[<-HJ.out.2.2.2.1,SQ (by rw[<-HJ.out.2.2.2.2.2];exact bg) K2.out.1 (by decide) K3.o0 (.inr (by rw[<-HJ.out.2.2.2.2.2];show n-l<3+v;omega))],by decide,by decide,rfl,((HJ.out.2.1.trans K2.out.2.2.1).trans K3.l2).mono (by simp)⟩
   ·obtain⟨t,ht⟩:=ai (3+v);have et:(3:Int)+(v:Nat)=(t:Nat):=by rw[ht];omega
    rw[et];have Tv:t<=n-l:=by omega
    have hE:cD bs ls n k (L++List.replicate t 0) a3=M:=by
     rw[<-HJ.out.2.2.2.1,Wg (s:=17) (v:=v) (a2:=a3) (by rw[<-HJ.out.2.2.2.2.2];exact bg) K2.out.1 (by decide) K3.o0 (by
      rintro (⟨h1,_⟩|h1)
      ·cases h1
      ·rw[<-HJ.out.2.2.2.2.2]at h1;have h2:n-l<3+v:=h1;omega),ht]
     rfl
    have iZ:0<=15:=by decide
    have u6:0<t:=by omega
    have HB:=aQ hE iZ (K2.out.2.2.2.2.2.2.fr K3.l2 HP.out) ((HJ.out.2.1.trans K2.out.2.2.1).trans K3.l2) ht;clear hE iZ ht et Dp c0;go_wp2;go_loopg [8,79] t (λk2 s8 s79 wr=>∃(j:Nat) (dv:OA) (dA:Nat),s79 = .int .i64 (j:Nat)/\s8 = .slice dv (l+j) dA/\j+k2=t/\St wr R p F bs a3 out oa oc most/\Fr [p] w wr/\ej w wr dv dA (L++List.replicate j 0));case atStart=>exact⟨0,ao,cap,rfl,rfl,by omega,K3.o1,HB.o3,by simpa using HB.o2⟩
    case round=>
     obtain⟨j,dv,dA,rfl,rfl,Jt,jL,rI,how⟩:=hrel;have kz:l+j=(L++List.replicate j 0).length:=by rw[aA,Am,<-HJ.out.2.2.2.2.2]
     by_cases hj:j<t
     ·obtain⟨k2,rfl⟩:∃k2,gk=k2+1:=⟨gk-1,by omega⟩;have HI:=aG jL rI how kz;clear jL rI how kz;go_wp2_with (at_builtin;go_loud (refine gM huf.pG rfl _ _ rfl (.slice dv (l+j) dA) (l+j) (ints (L++List.replicate j 0)) (af dv) rfl (dD dv (l+j) dA) (by have:=dr HI.o2.own ((Fr.refl [] wr).alloc (.cells #[.int .i64 0] 3 (0,0))) (by simp);rwa [<-HI.l3]at this) (some ⟨wr.heap.size,0,none⟩) 1 1 [.int .i64 0] (by first|rfl|simp) (ay _) (λh=>by cases h) (nM _ _ _ _ (bC _ _)) rfl (by intro u hu;simp only[iH]at hu;rw[hu];rfl) (by omega) (by unfold maxLen;omega) ?_);intro vO CJ w5 A5;have HA:=ah A5;clear A5);go_roundg k2;case measure=>omega
      case rel=>have jv:=HI.o2.app (n:=l+j) (x:=0) HI.l3 HI.o1.size HA.out;refine⟨j+1,vO,CJ,by go_num,rfl,by omega,H.o0.up HI.o0 jv.2 (λy hy=>HI.o2.new y hy),HI.o1.step jv.2 (λy hy=>.inr (HI.o2.new y hy)),?_⟩;rw[Ix,<-eE];exact jv.1
     ·obtain rfl:j=t:=by omega
      have HI:=aG jL rI how kz;clear jL rI how kz;go_wp2;go_roundg k;case measure=>omega
      case rel=>
       refine⟨l+j,a3,L++List.replicate j 0,dv,dA,rfl,HI.l3,by omega,by omega,HI.o0,HI.o1,HI.o2,HB.o0,?_⟩;intro y hy;rcases jw.1 hy with h1|h1
       ·exact HJ.out.2.2.2.2.1 y h1
       ·rw[(KY.1 h1).2];exact HB.o1
   ·go_ret2;exact .inl ⟨c,by rw[<-HJ.out.2.2.2.1,SR (by rw[<-HJ.out.2.2.2.2.2];exact bg) K2.out.1 (by decide) hm],bZ,cY,rfl,((HJ.out.2.1.trans K2.out.2.2.1).mono (by simp)).trans f1⟩
   ·go_ret2;exact .inl ⟨3,by rw[<-HJ.out.2.2.2.1,SQ (by rw[<-HJ.out.2.2.2.2.2];exact bg) K2.out.1 (by decide) K3.o0 (.inr (by rw[<-HJ.out.2.2.2.2.2];show n-l<11+v;omega))],by decide,by decide,rfl,((HJ.out.2.1.trans K2.out.2.2.1).trans K3.l2).mono (by simp)⟩
   ·obtain⟨t,ht⟩:=ai (11+v);have et:(11:Int)+(v:Nat)=(t:Nat):=by rw[ht];omega
    rw[et];have Tv:t<=n-l:=by omega
    have hE:cD bs ls n k (L++List.replicate t 0) a3=M:=by
     rw[<-HJ.out.2.2.2.1,Wg (s:=18) (v:=v) (a2:=a3) (by rw[<-HJ.out.2.2.2.2.2];exact bg) K2.out.1 (by decide) K3.o0 (by
      rintro (⟨h1,_⟩|h1)
      ·cases h1
      ·rw[<-HJ.out.2.2.2.2.2]at h1;have h2:n-l<11+v:=h1;omega),ht]
     rfl
    have iZ:0<=15:=by decide
    have u6:0<t:=by omega
    have HB:=aQ hE iZ (K2.out.2.2.2.2.2.2.fr K3.l2 HP.out) ((HJ.out.2.1.trans K2.out.2.2.1).trans K3.l2) ht;clear hE iZ ht et Dp c0;go_wp2;go_loopg [8,79] t (λk2 s8 s79 wr=>∃(j:Nat) (dv:OA) (dA:Nat),s79 = .int .i64 (j:Nat)/\s8 = .slice dv (l+j) dA/\j+k2=t/\St wr R p F bs a3 out oa oc most/\Fr [p] w wr/\ej w wr dv dA (L++List.replicate j 0));case atStart=>exact⟨0,ao,cap,rfl,rfl,by omega,K3.o1,HB.o3,by simpa using HB.o2⟩
    case round=>
     obtain⟨j,dv,dA,rfl,rfl,Jt,jL,rI,how⟩:=hrel;have kz:l+j=(L++List.replicate j 0).length:=by rw[aA,Am,<-HJ.out.2.2.2.2.2]
     by_cases hj:j<t
     ·obtain⟨k2,rfl⟩:∃k2,gk=k2+1:=⟨gk-1,by omega⟩;have HI:=aG jL rI how kz;clear jL rI how kz;go_wp2_with (at_builtin;go_loud (refine gM huf.pG rfl _ _ rfl (.slice dv (l+j) dA) (l+j) (ints (L++List.replicate j 0)) (af dv) rfl (dD dv (l+j) dA) (by have:=dr HI.o2.own ((Fr.refl [] wr).alloc (.cells #[.int .i64 0] 3 (0,0))) (by simp);rwa [<-HI.l3]at this) (some ⟨wr.heap.size,0,none⟩) 1 1 [.int .i64 0] (by first|rfl|simp) (ay _) (λh=>by cases h) (nM _ _ _ _ (bC _ _)) rfl (by intro u hu;simp only[iH]at hu;rw[hu];rfl) (by omega) (by unfold maxLen;omega) ?_);intro vO CJ w5 A5;have HA:=ah A5;clear A5);go_roundg k2;case measure=>omega
      case rel=>have jv:=HI.o2.app (n:=l+j) (x:=0) HI.l3 HI.o1.size HA.out;refine⟨j+1,vO,CJ,by go_num,rfl,by omega,H.o0.up HI.o0 jv.2 (λy hy=>HI.o2.new y hy),HI.o1.step jv.2 (λy hy=>.inr (HI.o2.new y hy)),?_⟩;rw[Ix,<-eE];exact jv.1
     ·obtain rfl:j=t:=by omega
      have HI:=aG jL rI how kz;clear jL rI how kz;go_wp2;go_roundg k;case measure=>omega
      case rel=>
       refine⟨l+j,a3,L++List.replicate j 0,dv,dA,rfl,HI.l3,by omega,by omega,HI.o0,HI.o1,HI.o2,HB.o0,?_⟩;intro y hy;rcases jw.1 hy with h1|h1
       ·exact HJ.out.2.2.2.2.1 y h1
       ·rw[(KY.1 h1).2];exact HB.o1
   ·go_ret2;exact .inl ⟨c,by rw[<-HJ.out.2.2.2.1,qzy (by rw[<-HJ.out.2.2.2.2.2];exact bg) hm],bZ,cY,rfl,(HJ.out.2.1.mono (by simp)).trans f1⟩
  ·obtain rfl:l=n:=by omega
   have e1:cD bs ls l (k+1) L a1 = .ok (L,a1):=qz0 (by omega);have HJ:=dk aH hf aI eO pz TN e1;clear aH hf aI eO pz TN e1 bg rG;go_wp2;go_ret2;exact .inr ⟨L,a1,ao,cap,by rw[<-HJ.out.2.2.2.1,HJ.out.2.2.2.2.2.2],by rw[<-HJ.out.2.2.2.2.2.1];rfl,HJ.out.1,HJ.out.2.1,HJ.out.2.2.1,HJ.out.2.2.2.2.2.1.symm,HJ.out.2.2.2.2.1⟩
theorem zid {i:Nat} (h:i<144):kM i=8:=by unfold kM;rw[if_pos h]
theorem zic {i:Nat} (h1:¬i<144) (h:i<256):kM i=9:=by unfold kM;rw[if_neg h1,if_pos h]
theorem zib {i:Nat} (h1:¬i<144) (h2:¬i<256) (h:i<280):kM i=7:=by unfold kM;rw[if_neg h1,if_neg h2,if_pos h]
theorem zia {i:Nat} (h1:¬i<144) (h2:¬i<256) (h:¬i<280):kM i=8:=by unfold kM;rw[if_neg h1,if_neg h2,if_neg h]
theorem zgz (i:Nat):kM i<=15:=by unfold kM;split;omega;split;omega;split<;>omega
theorem zdz:∀l∈fixed 288,l<=15:=λl hl=>by obtain⟨i,_,rfl⟩:=jo.1 hl;exact zgz i
theorem qr6:weight (fixed 288)=32768:=by decide +kernel
theorem Xm:weight (List.replicate 32 5)=32768:=by decide +kernel
theorem zd0:(List.range 32).map (λ_=>5)=List.replicate 32 5:=by decide +kernel
theorem Ss {i v s:Nat} (hv:kM i=v):(if s=i then v else if s<i then kM s else 0)=if s<i+1 then kM s else 0:=by
 by_cases e:s=i
 ·rw[if_pos e,if_pos (by omega),e,hv]
 ·rw[if_neg e];by_cases e2:s<i
  ·rw[if_pos e2,if_pos (by omega)]
  ·rw[if_neg e2,if_neg (by omega)]
theorem Nl {w:World} {P D B E:Nat} {ls X:LN} {first:Nat->Nat} {sa:Nat->Option Addr} {sc:Nat->Nat} (h:Rc w P D ls first sa sc B E) (hE:E<=w.heap.size) (hX:∀x∈X,x<B):Tb w P ls X:=
 ⟨D,first,sa,sc,h.tab,eW h.at_.2 hE,λhP=>by have:=hX P hP;have:=h.at_.1;omega,λl hl x hx=>⟨eW (h.row l hl x hx).2 hE,λhxX=>by have:=hX x hxX;have:=(h.row l hl x hx).1;omega⟩⟩
theorem St.under {w:World} {R p:Nat} {F:LN} {bs out:LB} {at_ oc most:Nat} {oa:OA} (h:St w R p F bs at_ out oa oc most):∀x∈R::p::af oa,x<w.heap.size:=λx hx=>by
 simp only[fP]at hx;rcases hx with rfl|rfl|hx
 ·exact lt_of_block h.box
 ·exact h.low _ h.pF.1
 ·exact rr h.own (qi hx)
theorem zag (R p:Nat) (F:LN) (bs out:LB) (at_ oc most:Nat) (oa:OA) (w:World) (h:St w R p F bs at_ out oa oc most) :
  Calls Tryz.prog 167 #[.pointer (some ⟨R,0,none⟩)] w (DG w R p F bs oa most (wV bs most out at_)):=by
 obtain⟨hu,⟨ti,iR,v8,gT,sN⟩,uv,hp⟩:=huf.pG;have H:=ah h;clear h;go_enter Tryz.func167,Tryz.ntmps167;obtain⟨Q,hQ⟩:=ai w.heap.size;have HQ:=ah hQ;clear hQ;go_upto_block 0 with (refine wpList_make_full _ rfl _ _ 28 rfl 0 3 ti (.int .i64 0) 1 hu iR v8 gT .i64 .i64 288 288 288 rfl rfl rfl rfl (by rw[sN];omega) (by unfold maxLen;omega) (by omega) ?_;intro w1 N0 G3;have H1:=ak N0 G3;clear N0 G3);rw[<-HQ.out]at H1 ⊢;have vg:Ow w1 Q 288 (λ_=>0):=R5 H1.o0;have f1:Fr [] w w1:=(Fr.refl [] w).grown H1.l1 (λk hk=>by cases hk);have HS:=ak vg f1;clear vg f1 H1;go_wp2;go_loopg [4,14,20,26,32] 288 (λk s4 s14 s20 s26 s32 wr=>∃i:Nat,s14 = .int .i64 (i:Nat)/\i+k=288/\Ow wr Q 288 (λj=>if j<i then kM j else 0)/\Fr [] w wr);case atStart=>exact⟨0,rfl,rfl,HS.o0.congr λs _=>by simp,HS.l1⟩
 case round=>
  obtain⟨i,rfl,bX,how,hf⟩:=hrel;by_cases hi:i<288
  ·obtain⟨k,rfl⟩:∃k,gk=k+1:=⟨gk-1,by omega⟩;have c1:=how.cell hi;have z1:=how.frozen i;have HI:=ak how hf;clear how hf;go_wp2
   ·go_roundg k;case measure=>omega
    case rel=>exact⟨i+1,by go_num,by omega,(HI.out.1.set hi 8).congr (λs _=>Ss (zid (by omega))),HI.out.2.step ((Fr.refl [Q] wr).setCell (by simp) _) (λz hz=>.inr (by simp at hz;rw[hz,HQ.out];exact ay _))⟩
   ·go_roundg k;case measure=>omega
    case rel=>exact⟨i+1,by go_num,by omega,(HI.out.1.set hi 9).congr (λs _=>Ss (zic (by omega) (by omega))),HI.out.2.step ((Fr.refl [Q] wr).setCell (by simp) _) (λz hz=>.inr (by simp at hz;rw[hz,HQ.out];exact ay _))⟩
   ·go_roundg k;case measure=>omega
    case rel=>exact⟨i+1,by go_num,by omega,(HI.out.1.set hi 7).congr (λs _=>Ss (zib (by omega) (by omega) (by omega))),HI.out.2.step ((Fr.refl [Q] wr).setCell (by simp) _) (λz hz=>.inr (by simp at hz;rw[hz,HQ.out];exact ay _))⟩
   ·go_roundg k;case measure=>omega
    case rel=>exact⟨i+1,by go_num,by omega,(HI.out.1.set hi 8).congr (λs _=>Ss (zia (by omega) (by omega) (by omega))),HI.out.2.step ((Fr.refl [Q] wr).setCell (by simp) _) (λz hz=>.inr (by simp at hz;rw[hz,HQ.out];exact ay _))⟩
  ·obtain rfl:i=288:=by omega
   have PU:Ow wr Q 288 kM:=how.congr λs hs=>if_pos hs
   obtain⟨w2,rfl⟩:∃w2:World,w2=wr:=⟨_,rfl⟩;obtain⟨Q2,Uj⟩:=ai w2.heap.size;have HI:=aw PU hf Uj;clear how hf PU Uj bX;go_upto_block 3 with (refine wpList_make_full _ rfl _ _ 28 rfl 0 3 ti (.int .i64 0) 1 hu iR v8 gT .i64 .i64 32 32 32 rfl rfl rfl rfl (by rw[sN];omega) (by unfold maxLen;omega) (by omega) ?_;intro w3 kJ iT;have H3:=ak kJ iT;clear kJ iT);rw[<-HI.out.2.2]at H3 ⊢;have hq3:Ow w3 Q2 32 (λ_=>0):=R5 H3.o0;have f3:Fr [] w2 w3:=(Fr.refl [] w2).grown H3.l1 (λk hk=>by cases hk);have HT:=aw hq3 f3 (HI.out.1.fr f3 (by simp));clear hq3 f3 H3 hu iR v8 gT sN uv hp;go_wp2;go_loopg [6,42] 32 (λk s6 s42 wr=>∃i:Nat,s42 = .int .i64 (i:Nat)/\i+k=32/\Ow wr Q2 32 (λj=>if j<i then 5 else 0)/\Ow wr Q 288 kM/\Fr [] w wr);case atStart=>exact⟨0,rfl,rfl,HT.o0.congr λs _=>by simp,HT.l2,HI.out.2.1.trans HT.o1⟩
   case round=>
    obtain⟨j,rfl,fx,how,EB,hf⟩:=hrel;have hQQ:Q<Q2:=by obtain⟨A,hA,_⟩:=HI.out.1;rw[HI.out.2.2];exact lt_of_block hA
    by_cases hj:j<32
    ·obtain⟨k,rfl⟩:∃k,gk=k+1:=⟨gk-1,by omega⟩;have c1:=how.cell hj;have z1:=how.frozen j;have HJ:=aw how EB hf;clear how EB hf;go_wp2;go_roundg k;case measure=>omega
     case rel=>exact⟨j+1,by go_num,by omega,(HJ.o0.set hj 5).congr (λs _=>by
      by_cases e:s=j
      ·rw[if_pos e,if_pos (by omega)]
      ·rw[if_neg e]
       by_cases e2:s<j
       ·rw[if_pos e2,if_pos (by omega)]
       ·rw[if_neg e2,if_neg (by omega)]),HJ.o1.fr ((Fr.refl [Q2] wr).setCell (by simp) _) (by simp;omega),HJ.l2.step ((Fr.refl [Q2] wr).setCell (by simp) _) (λz hz=>.inr (by simp at hz;rw[hz,HI.out.2.2];exact HI.out.2.1.size))⟩
    ·obtain rfl:j=32:=by omega
     have h5:Ow wr Q2 32 (λ_=>5):=how.congr λs hs=>if_pos hs
     have r1:Ri wr (some ⟨Q,0,none⟩) 288 (fixed 288):=⟨EB.cs,by decide +kernel,by decide,λh=>by cases h⟩;have r2:Ri wr (some ⟨Q2,0,none⟩) 32 (List.replicate 32 5):=⟨by have:=h5.cs;rw[zd0]at this;exact this,by decide,by decide,λh=>by cases h⟩;obtain⟨wo,rfl⟩:∃wo:World,wo=wr:=⟨_,rfl⟩;have N1:Calls Tryz.prog 187 #[.slice (some ⟨Q,0,none⟩) 288 288] wo (ud wo (fixed 288)):=Vv (some ⟨Q,0,none⟩) 288 (fixed 288) wo r1 zdz (by decide +kernel) (by rw[qr6];exact ay _);have N2:∀w5,Fr [] wo w5->Calls Tryz.prog 187 #[.slice (some ⟨Q2,0,none⟩) 32 32] w5 (ud w5 (List.replicate 32 5)):=λw5 f5=>Vv (some ⟨Q2,0,none⟩) 32 (List.replicate 32 5) w5 (r2.fr f5) (λl hl=>by rw[(KY.1 hl).2];decide) (by decide) (by rw[Xm];exact ay _)
     have HN:=aw N1 N2 hf;clear how EB hf h5 r1 r2 N1 N2 hj fx;go_wp2_with (first|(go_at_call 187;(with_reducible refine HN.o0.mono ?_);rintro e w4 ⟨P,D,first,sa,sc,rfl,nZ,f4⟩;have K4:=ak nZ f4;clear nZ f4)|(go_at_call 187;(with_reducible refine (HN.o1 _ K4.l1).mono ?_);rintro e w5 ⟨P5,D5,Z3,sa5,sc5,rfl,nZ,f5⟩;have K5:=ak nZ f5;clear nZ f5)|(go_at_call 188;have hu:=H.out.under;go_loud (refine (qmw R p P P5 F bs out (fixed 288) (List.replicate 32 5) at_ oc most oa w5 (H.out.dQ ((HN.l2.trans K4.l1).trans K5.l1)) ((Nl K4.o0 (ay _) (λx hx=>eW (hu x hx) HN.l2.size)).fr K5.l1 (by simp)) (Nl K5.o0 (ay _) (λx hx=>eW (hu x hx) (HN.l2.trans K4.l1).size))).mono ?_);rintro e w6 (⟨c,hm,bZ,cY,rfl,f6⟩|⟨o6,a6,Ei,Eh,hm,rfl,s6,f6⟩);all_goals (have Km:=ah hm;clear hm);all_goals (try (have K6:=ak s6 f6;clear s6 f6))))
     ·go_ret;exact .inl ⟨c,Km.out,bZ,cY,rfl,(((HN.l2.trans K4.l1).trans K5.l1).mono (by simp)).trans f6⟩
     ·go_ret;exact .inr ⟨o6,a6,Ei,Eh,Km.out,rfl,K6.o0,(Way.N4 _ _ _ _ _ ((HN.l2.trans K4.l1).trans K5.l1)).trans K6.l1⟩
def uU:Array Value:=#[.int .i64 16,.int .i64 17,.int .i64 18,.int .i64 0,.int .i64 8,.int .i64 7,.int .i64 9,.int .i64 6,.int .i64 10,.int .i64 5,.int .i64 11,.int .i64 4,.int .i64 12,.int .i64 3,.int .i64 13,.int .i64 2,.int .i64 14,.int .i64 1,.int .i64 15]
def zeroV:Array Value:=#[.int .i64 0,.int .i64 0,.int .i64 0,.int .i64 0,.int .i64 0,.int .i64 0,.int .i64 0,.int .i64 0,.int .i64 0,.int .i64 0,.int .i64 0,.int .i64 0,.int .i64 0,.int .i64 0,.int .i64 0,.int .i64 0,.int .i64 0,.int .i64 0,.int .i64 0]
theorem wU:(Tryz.prog.info? 287).map (·.size)=some 19:=by kernel_rfl
theorem qwl {fn:Func} {p:Tmp} (h:fn.results=#[.cell p 287]) (tmps:AV) (w:World) (g:Nat) (cs:AV) (fr:Nat×Nat)
  (hp:tmps.getD p undef = .pointer (some ⟨g,0,none⟩)) (hg:w.heap[g]?=some (.cells cs 287 fr)) (hs:cs.size=19):(results fn tmps).run Tryz.prog w = .ok (.agg cs) w:=
 results_cell_row h tmps w g 287 cs fr _ hp hg Tryz.underlying287 rfl (by rw[wU,hs])
theorem ND (w:World):Calls Tryz.prog 189 #[] w λe w'=>e = .returned (.agg uU)/\Fr [] w w':=by go_enter Tryz.func189,Tryz.ntmps189;go_wp2_with (refine wpList_store_row rfl 287 (.tmp 0) (.tmp 1) rfl w.heap.size uU rfl rfl 287 zeroV (heap_alloc_last w _) wU rfl (by kernel_rfl) ?_;rw[World.setRow_alloc_new]);simp only[Act.put];refine bodyPost_ret (qwl rfl _ _ w.heap.size uU (0,0) rfl (bC w _) rfl) rfl ?_;exact⟨rfl,(Fr.refl [] w).alloc _⟩
theorem zgb {w:World} {a:OA} {cap:Nat} {xs:LN} (h:Ri w a cap xs) (k:Nat) (hk:k<=xs.length):Ri w (aL a cap k 1) (cap-k) (xs.drop k):=
 ⟨by rw[Hu];exact zat h.cs k (by simpa using hk) (by simpa using h.le),by have:=h.le;simp;omega,ck (Nat.sub_le _ _) h.max,λhn=>by have:=h.nil (qn5 hn);omega⟩
theorem qzl {fs:LN} {i v:Nat} (hi:i<fs.length) (t:Nat):ae (fs.set i v) t=if t=i then v else ae fs t:=by
 unfold ae;rw[List.getElem?_set];by_cases e:i=t
 ·subst e;simp[hi]
 ·rw[if_neg e,if_neg (λh=>e h.symm)]
theorem zgm {w:World} {Q:Nat} {fs:LN} (h:Ow w Q 19 (ae fs)) (hl:fs.length=19):Ri w (some ⟨Q,0,none⟩) 19 fs:=by
 have e:(List.range 19).map (ae fs)=fs:=by
  refine List.ext_getElem (by simp[hl]) λi h1 h2=>?_
  simp[ae,h2]
 have:=h.cs;rw[e]at this;exact⟨this,by omega,by decide,λh=>by cases h⟩
theorem qwo:places=defl.qv:=rfl
theorem zgo {i:Nat} (h:i<19):uU[i]?=some (.int .i64 ((defl.ord i:Nat):Int)):=by
 have e:uU=(defl.qv.map λx=>Value.int .i64 (x:Nat)).toArray:=rfl;have hl:i<defl.qv.length:=by simp[defl.qv];omega
 rw[e];simp[defl.ord,br hl]
theorem qtg {m j:Nat} (h:j<m) (hm:m<=19):(places.take m).drop j=defl.ord j::(places.take m).drop (j+1):=by
 have hl:places.length=19:=rfl;have h1:j<(places.take m).length:=by rw[dU];omega
 rw[Al h1];congr 1;simp[defl.ord,<-qwo,br (show j<places.length by omega)]
theorem qt3 (R p:Nat) (F:LN) (bs out:LB) (at_ oc most:Nat) (oa:OA) (w:World) (h:St w R p F bs at_ out oa oc most) :
  Calls Tryz.prog 168 #[.pointer (some ⟨R,0,none⟩)] w (DG w R p F bs oa most (nr bs most out at_)):=by
 obtain⟨M,hM⟩:=ai (nr bs most out at_);rw[<-hM];have TT:∀(n:Nat) (a:Nat) (w':World),St w' R p F bs a out oa oc most->n<=31->Calls Tryz.prog 134 #[.pointer (some ⟨R,0,none⟩),.int .i64 (n:Nat)] w' (ox w' R p F bs out oa oc most (aY bs a n)):=λn a w' s hn=>FM R p F bs out a oc most n oa w' s hn
 have T3:∀(a:Nat) (w':World),St w' R p F bs a out oa oc most->Calls Tryz.prog 134 #[.pointer (some ⟨R,0,none⟩),.int .i64 3] w' (ox w' R p F bs out oa oc most (aY bs a 3)):=λa w' s=>TT 3 a w' s (by decide)
 have T4:∀(a:Nat) (w':World),St w' R p F bs a out oa oc most->Calls Tryz.prog 134 #[.pointer (some ⟨R,0,none⟩),.int .i64 4] w' (ox w' R p F bs out oa oc most (aY bs a 4)):=λa w' s=>TT 4 a w' s (by decide)
 have T5:∀(a:Nat) (w':World),St w' R p F bs a out oa oc most->Calls Tryz.prog 134 #[.pointer (some ⟨R,0,none⟩),.int .i64 5] w' (ox w' R p F bs out oa oc most (aY bs a 5)):=λa w' s=>TT 5 a w' s (by decide)
 have HT:=aw T3 T4 T5;have H:=ak h hM;clear h hM TT T3 T4 T5;go_enter Tryz.func168,Tryz.ntmps168;go_upto_region 14 with (first
  | (go_at_call 134;(with_reducible refine (HT.l2 at_ w H.o0).mono ?_);rintro e w1 (⟨v,c,hm,bZ,cY,rfl,f1⟩|⟨lit,a1,hm,rfl,s1,f1⟩);all_goals (try (have OL:=Bd hm;have K1:=aw hm s1 f1;clear hm s1 f1)))
  | (go_at_call 134;(with_reducible refine (HT.l2 a1 w1 K1.o1).mono ?_);rintro e w2 (⟨v,c,hm,bZ,cY,rfl,f1⟩|⟨jW,a2,hm,rfl,s2,f2⟩);all_goals (try (have wg:=Bd hm;have K2:=aw hm s2 f2;clear hm s2 f2)))
  | (go_at_call 134;(with_reducible refine (HT.o1 a2 w2 K2.o1).mono ?_);rintro e w3 (⟨v,c,hm,bZ,cY,rfl,f1⟩|⟨n,a3,hm,rfl,s3,f3⟩);all_goals (try (have hv3:=Bd hm;have K3:=aw hm s3 f3;clear hm s3 f3))))
 ·go_ret;exact .inl ⟨c,by rw[H.l1];simp only[nr,hm],bZ,cY,rfl,f1⟩
 ·go_ret;exact .inl ⟨3,by rw[H.l1];simp only[nr,K1.o0,if_pos (show 29<lit by omega)],by decide,by decide,rfl,K1.l2.mono (by simp)⟩
 ·go_ret;exact .inl ⟨c,by rw[H.l1];simp only[nr,K1.o0,if_neg (show ¬29<lit by omega),hm],bZ,cY,rfl,(K1.l2.mono (by simp)).trans f1⟩
 ·go_ret;exact .inl ⟨3,by rw[H.l1];simp only[nr,K1.o0,if_neg (show ¬29<lit by omega),K2.o0,if_pos (show 29<jW by omega)],by decide,by decide,rfl,(K1.l2.trans K2.l2).mono (by simp)⟩
 ·go_ret;exact .inl ⟨c,by rw[H.l1];simp only[nr,K1.o0,if_neg (show ¬29<lit by omega),K2.o0,if_neg (show ¬29<jW by omega),hm],bZ,cY,rfl,((K1.l2.trans K2.l2).mono (by simp)).trans f1⟩
 ·have vD:M=qA bs most out lit jW n a3:=by rw[H.l1];simp only[nr,K1.o0,if_neg (show ¬29<lit by omega),K2.o0,if_neg (show ¬29<jW by omega),K3.o0]
  have hH:lit<=29:=by omega
  have og:jW<=29:=by omega
  have wk:n<=15:=by omega
  have rI:Fr [p] w w3:=((K1.l2.trans K2.l2).trans K3.l2);have HK:=aG vD K3.o1 rI H.o0;clear vD rI K1 K2 K3 H OL wg hv3;obtain⟨m,hm⟩:=ai (n+4);have em:(n:Int)+4=(m:Nat):=by omega
  have Py:m<=19:=by omega
  have HM:=ah hm;clear hm;obtain⟨hu,⟨ti,iR,v8,gT,sN⟩,uv,hp⟩:=huf.pG;obtain⟨Q,hQ⟩:=ai w3.heap.size;have HQ:=ah hQ;clear hQ;go_upto_region 15 with (refine wpList_make_full _ rfl _ _ 28 rfl 0 3 ti (.int .i64 0) 1 hu iR v8 gT .i64 .i64 19 19 19 rfl rfl rfl rfl (by rw[sN];omega) (by unfold maxLen;omega) (by omega) ?_;intro w4 Bs G2;have H4:=ak Bs G2;clear Bs G2);rw[<-HQ.out]at H4 ⊢;have Yt:Ow w4 Q 19 (λ_=>0):=R5 H4.o0;have f4:Fr [] w3 w4:=(Fr.refl [] w3).grown H4.l1 (λk hk=>by cases hk);have HW:=ak Yt f4;clear Yt f4 H4 hu iR v8 gT sN uv hp;go_cut [8,46] from 46 to 46 (λs8 s46 wz=>∃O:Nat,s8 = .pointer (some ⟨O,0,none⟩)/\wz.heap[O]?=some (.cells uU 287 (0,0))/\Fr [] w4 wz/\w4.heap.size<=O)
  case first=>go_wp2_with (first|(go_at_call 189;refine (ND w4).mono ?_;rintro e w5 ⟨rfl,f5⟩;have K5:=ah f5;clear f5)|(refine wpList_store_row rfl 287 (.tmp 8) (.tmp 46) rfl w5.heap.size uU rfl rfl 287 zeroV (heap_alloc_last w5 _) wU rfl (by kernel_rfl) ?_;rw[World.setRow_alloc_new]));simp only[Act.put];go_meet;exact⟨w5.heap.size,rfl,bC w5 _,K5.out.alloc _,K5.out.size⟩
  case rest=>
  obtain⟨O,rfl,hO,f6,hO4⟩:=hcut;obtain⟨w7,rfl⟩:∃w7:World,w7=wc:=⟨_,rfl⟩;have f37:Fr [] w3 w7:=HW.out.2.trans f6;have hQ7:Ow w7 Q 19 (ae (List.replicate 19 0)):=(HW.out.1.fr f6 (by simp)).congr λs hs=>by simp only[ae,Nn,if_pos hs];rfl
  have hQO:Q<O:=by obtain⟨A,hA,_⟩:=HW.out.1;have:=lt_of_block hA;omega
  have hQ3:w3.heap.size<=Q:=by rw[HQ.out];exact ay _
  have H7:=aQ hQ7 hO f37 hQO hQ3;clear hQ7 hO f37 hQO f6 hO4 hQ3;have d1:decide ((286:Int)<(lit:Int)+257)=false:=by simp;omega
  have d2:decide ((30:Int)<(jW:Int)+1)=false:=by simp;omega
  simp only[d1,d2];clear d1 d2;have hsl:=defl.qq6 O m Py;go_wp2;clear hsl;go_loopg [2,4,10,51] m (λk s2 s4 s10 s51 wr=>∃(j a1:Nat) (fs:LN),s51 = .int .i64 (j:Nat)/\s4 = .int .i64 0/\j+k=m/\St wr R p F bs a1 out oa oc most/\Ow wr Q 19 (ae fs)/\fs.length=19/\(∀x∈fs,x<=15)/\wr.heap[O]?=some (.cells uU 287 (0,0))/\Fr [p] w wr/\eM bs ((places.take m).drop j) fs a1=eM bs (places.take m) (List.replicate 19 0) a3);case atStart=>exact⟨0,a3,List.replicate 19 0,rfl,rfl,by omega,HK.o1.dQ H7.o2,H7.o0,rfl,λx hx=>by rw[(KY.1 hx).2];decide,H7.o1,HK.o2.trans (H7.o2.mono (by simp)),rfl⟩
  case round=>
   obtain⟨j,a1,fs,rfl,rfl,hjm,aH,how,sH,ET,hO,Jy,PV⟩:=hrel;have jR:w.heap.size<=w3.heap.size:=HK.o2.size;have hp0:p<w.heap.size:=HK.l3.low _ HK.l3.pF.1;by_cases hj:j<m
   ·obtain⟨k,rfl⟩:∃k,gk=k+1:=⟨gk-1,by omega⟩;have cO:=cell_of hO j;rw[zgo (by omega)]at cO;obtain⟨i,hi⟩:=ai (defl.ord j);have rT:i<19:=by rw[hi];exact defl.RU j
    have vo:=qtg hj Py;rw[<-hi]at cO vo;rw[vo]at PV;have HJ:=dk aH how sH ET hO Jy PV;clear aH how sH ET hO Jy PV hi vo;go_wp2_with (go_at_call 134;refine (HT.o0 a1 wr HJ.o0).mono ?_;rintro e w8 (⟨v,c,hm,bZ,cY,rfl,f1⟩|⟨v,a2,hm,rfl,s8,f8⟩);rotate_left;all_goals (try (have hv:=Bd hm;have Gi:=HJ.o1.fr f8 (show Q∉[p] by have:=H7.l4;simp;omega);have K8:=aG hm s8 f8 Gi;clear hm s8 f8;have c8:=Gi.cell rT;have z8:=Gi.frozen i;clear Gi));all_goals (try (have Gh:=HJ.o1.fr f1 (show Q∉R::p::af oa by have:=H7.l4;have hu:=HK.l3.under;intro hq;have:=hu Q hq;omega);have c8:=Gh.cell rT;have z8:=Gh.frozen i;have K9:=ak hm f1;clear hm f1 Gh)))
    ·go_roundg k;case measure=>omega
     case rel=>
      have Ui:∀x∈[Q],w.heap.size<=x:=λx hx=>by have:=H7.l4;simp at hx;omega
      have fQ:Fr [Q] w8 (w8.setCell ⟨Q,i,none⟩ (.int .i64 v)):=(Fr.refl [Q] _).setCell (by simp) _;refine⟨j+1,a2,fs.set i v,by go_num,rfl,by omega,HK.l3.up K8.o1 fQ Ui,(K8.l3.set rT v).congr (λt _=>(qzl (by rw[HJ.o2];exact rT) t).symm),by rw[KN,HJ.o2],λx hx=>?_,fQ.af (K8.o2.af HJ.o4 (by have:=H7.l3;simp;omega)) (by have:=H7.o3;simp;omega),(HJ.o5.trans K8.o2).step fQ (λx hx=>.inr (Ui x hx)),?_⟩
      ·rcases List.mem_or_eq_of_mem_set hx with h1|h1
       ·exact HJ.o3 x h1
       ·rw[h1];omega
      ·rw[<-HJ.l6,eM,K8.o0]
    ·go_ret;have Ui:∀x∈[Q],w.heap.size<=x:=λx hx=>by have:=H7.l4;simp at hx;omega
     refine .inl ⟨c,?_,bZ,cY,rfl,((HJ.o5.mono (by simp)).trans K9.l1).step ((Fr.refl [Q] _).setCell (by simp) _) (λx hx=>.inr (Ui x hx))⟩;rw[HK.o0,qA,<-HM.out,<-HJ.l6,eM,K9.o0]
   ·obtain rfl:j=m:=by omega
    have jb:eM bs (places.take j) (List.replicate 19 0) a3 = .ok (fs,a1):=by rw[<-PV,List.drop_of_length_le (by rw[dU];omega),eM]
    have Co:M=if dG fs false=false then .error 3 else qz bs most out lit jW fs a1:=by rw[HK.o0,qA,<-HM.out,jb]
    have W1:Calls Tryz.prog 190 #[.slice (some ⟨Q,0,none⟩) 19 19,.bool false] wr (ia wr fs false):=by have:=WK (some ⟨Q,0,none⟩) 19 fs false wr (zgm how sH) ET (by omega);rwa [sH]at this
    obtain⟨wo,rfl⟩:∃wo:World,wo=wr:=⟨_,rfl⟩;obtain⟨l1,PH⟩:=ai (lit+257);obtain⟨N,Mn⟩:=ai (lit+257+jW+1);have e1:(lit:Int)+257=(l1:Nat):=by omega
    have eN:(l1:Int)+(jW:Int)+1=(N:Nat):=by omega
    have Qt:N<=316:=by omega
    have zcC:l1+1<=N:=by omega
    have zcB:257<=l1:=by omega
    have hLE:=λ(w':World) (P:Nat) (s:St w' R p F bs a1 out oa oc most) (tb:Tb w' P fs (R::p::af oa))=>NM R p P N F bs out fs a1 oc most oa w' s tb (by omega) (by omega)
    have HJ:=dk aH Co W1 Jy PH Mn hLE;have nY:=ah HK.l3.under;clear aH how sH ET hO Jy PV jb Co W1 PH Mn hLE hj hjm;go_upto_region 29 with (first
     | (go_at_call 190;(with_reducible refine HJ.o2.mono ?_);rintro e w9 (⟨rR,rfl,f9⟩|⟨rR,P,D,first,sa,sc,rfl,nZ,f9⟩);all_goals (try (have K9:=aw rR nZ f9;clear nZ));all_goals (try (have K9b:=ak rR f9));all_goals clear rR f9)
     | (go_at_call 191;(with_reducible refine (HJ.l6 w9 P (HJ.o0.dQ K9.l1.2) (Nl K9.l1.1 (ay _) (λx hx=>eW (nY.out x hx) HJ.o3.size))).mono ?_);rintro e mS (⟨c,hm,bZ,cY,rfl,f10⟩|⟨L,a4,ao,cap,hm,he,s10,f10,own,ZP,xE⟩);rotate_left;(rw[ZP]at he;subst he;have yV:=cJ hm s10 f10 own ZP xE;clear hm s10 f10 own ZP xE)))
    ·go_ret;exact .inl ⟨3,by rw[HJ.o1,if_pos K9b.o0],by decide,by decide,rfl,(HJ.o3.trans (K9b.l1.mono (by simp))).mono (by simp)⟩
    ·have ZM:M=if ae L 256=0 then .error 3 else if dG (L.take l1) false=false then .error 3 else if dG (L.drop l1) true=false then .error 3 else cU bs most (L.take l1) (L.drop l1) (fuel bs) out a4:=by have vt:=yV.out.1;rw[HJ.o1,if_neg (by rw[K9.o0];simp),qz];rw[HJ.o5]at vt;rw[vt,<-HJ.o4]
     obtain⟨g,rfl,hcell⟩:=yV.out.2.2.2.1.cell (i:=256) (by rw[yV.out.2.2.2.2.1];omega);obtain⟨z,hz⟩:=ai (ae L 256);rw[<-hz]at hcell ZM;have Qd:N<=cap:=by have:=yV.out.2.2.2.1.le;rw[yV.out.2.2.2.2.1]at this;exact this
     have zaP:cap<=9223372036854775807:=by have:=yV.out.2.2.2.1.max;unfold maxLen at this;exact this
     have ri:Ri mS (some ⟨g,0,none⟩) cap L:=yV.out.2.2.2.1.ri;have lt:(L.take l1).length=l1:=by rw[dU,yV.out.2.2.2.2.1];omega
     have ld:(L.drop l1).length=N-l1:=by rw[eV,yV.out.2.2.2.2.1]
     have W2:Calls Tryz.prog 190 #[.slice (some ⟨g,0,none⟩) l1 cap,.bool false] mS (ia mS (L.take l1) false):=by have:=WK (some ⟨g,0,none⟩) cap (L.take l1) false mS (Ri.take ri l1) (λx hx=>yV.out.2.2.2.2.2 x (uM hx)) (by omega);rwa [lt]at this
     have W3:∀w',Fr [] mS w'->Calls Tryz.prog 190 #[.slice (aL (some ⟨g,0,none⟩) cap l1 1) (N-l1) (cap-l1),.bool true] w' (ia w' (L.drop l1) true):=λw' f'=>by have:=WK (aL (some ⟨g,0,none⟩) cap l1 1) (cap-l1) (L.drop l1) true w' (zgb (ri.fr f') l1 (by rw[yV.out.2.2.2.2.1];omega)) (λx hx=>yV.out.2.2.2.2.2 x (List.mem_of_mem_drop hx)) (by omega);rwa [ld]at this
     have QN:Fr [p] w mS:=(HJ.o3.trans (K9.l1.2.mono (by simp))).trans yV.out.2.2.1;have zbF:=lib.FZ huf.pG l1 (some ⟨g,0,none⟩) N cap l1 rfl (by omega);have zv:=lib.Lx huf.pG l1 (some ⟨g,0,none⟩) N cap l1 rfl (by omega) Qd;have HL:=aQ ZM W2 W3 QN hz;clear ZM ri lt ld W2 W3 QN hz;go_wp2_with (first
      | (go_at_call 190;(with_reducible refine HL.o1.mono ?_);rintro e uG (⟨rR,rfl,f9⟩|⟨rR,P2,D2,Z5,sa2,sc2,rfl,nZ,f9⟩);all_goals (try (have DH:=aw rR nZ f9;clear nZ));all_goals (try (have Rl:=ak rR f9));all_goals clear rR f9)
      | (go_at_call 190;(with_reducible refine (HL.o2 uG DH.l2).mono ?_);rintro e gh (⟨rR,rfl,f9⟩|⟨rR,P3,D3,Z4,sa3,sc3,rfl,nZ,f9⟩);all_goals (try (have Kq:=aw rR nZ f9;clear nZ));all_goals (try (have Rk:=ak rR f9));all_goals clear rR f9)
      | (go_at_call 188;refine (qmw R p P2 P3 F bs out (L.take l1) (L.drop l1) a4 oc most oa gh (yV.out.2.1.dQ (DH.l2.trans Kq.l2)) ((Nl DH.o1 (ay _) (λx hx=>eW (nY.out x hx) HL.o3.size)).fr Kq.l2 (by simp)) (Nl Kq.o1 (ay _) (λx hx=>eW (nY.out x hx) (ck HL.o3.size DH.l2.size)))).mono ?_;rintro e jn (⟨c,hm,bZ,cY,rfl,f6⟩|⟨o6,a6,Ei,Eh,hm,rfl,s6,f6⟩);all_goals (have Km:=ah hm;clear hm);all_goals (try (have K6:=ak s6 f6;clear s6 f6))))
     ·have zp:((z:Int)==0)=true:=by assumption
      have oG:z=0:=by have:=beq_iff_eq.1 zp;omega
      go_ret;exact .inl ⟨3,by rw[HL.o0,if_pos oG],by decide,by decide,rfl,HL.o3.mono (by simp)⟩
     ·have zp:((z:Int)==0)=false:=by assumption
      have oG:z≠0:=λhe=>by rw[he]at zp;cases zp
      go_ret;exact .inl ⟨3,by rw[HL.o0,if_neg oG,if_pos Rl.o0],by decide,by decide,rfl,(HL.o3.trans (Rl.l1.mono (by simp))).mono (by simp)⟩
     ·have zp:((z:Int)==0)=false:=by assumption
      have oG:z≠0:=λhe=>by rw[he]at zp;cases zp
      go_ret;exact .inl ⟨3,by rw[HL.o0,if_neg oG,if_neg (by rw[DH.o0];simp),if_pos Rk.o0],by decide,by decide,rfl,((HL.o3.trans (DH.l2.mono (by simp))).trans (Rk.l1.mono (by simp))).mono (by simp)⟩
     ·have zp:((z:Int)==0)=false:=by assumption
      have oG:z≠0:=λhe=>by rw[he]at zp;cases zp
      go_ret;exact .inl ⟨c,by rw[HL.o0,if_neg oG,if_neg (by rw[DH.o0];simp),if_neg (by rw[Kq.o0];simp),Km.out],bZ,cY,rfl,(((HL.o3.trans (DH.l2.mono (by simp))).trans (Kq.l2.mono (by simp))).mono (by simp)).trans f6⟩
     ·have zp:((z:Int)==0)=false:=by assumption
      have oG:z≠0:=λhe=>by rw[he]at zp;cases zp
      go_ret;exact .inr ⟨o6,a6,Ei,Eh,by rw[HL.o0,if_neg oG,if_neg (by rw[DH.o0];simp),if_neg (by rw[Kq.o0];simp),Km.out],rfl,K6.o0,(Way.of _ _ _ _ _ ((HL.o3.trans (DH.l2.mono (by simp))).trans (Kq.l2.mono (by simp)))).trans K6.l1⟩
    ·go_ret;have vt:=hm;rw[HJ.o5]at vt;exact .inl ⟨c,by rw[HJ.o1,if_neg (by rw[K9.o0];simp),qz,vt],bZ,cY,rfl,((HJ.o3.trans (K9.l1.2.mono (by simp))).mono (by simp)).trans f10⟩
end inf

end Go.Proofs.YtkmpfgpfbmeihaaGreatDoor