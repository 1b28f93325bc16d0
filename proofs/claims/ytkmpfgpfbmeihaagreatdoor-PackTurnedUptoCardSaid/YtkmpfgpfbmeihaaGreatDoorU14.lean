/-
  Texts of this proof, one behind the other: InfC, InfD, InfJ, InfE, InfF, InfG, InfH.
-/
import Derived.Test.YtkmpfgpfbmeihaaGreatDoorU13
set_option maxHeartbeats 16000000
set_option maxRecDepth 100000
set_option linter.unusedVariables false
set_option linter.unusedSimpArgs false
namespace Go.Proofs.YtkmpfgpfbmeihaaGreatDoor
namespace inf
open Go Go.RowKit lib bm bl huf
theorem qx7 {bs:List UInt8} {s a b a1:Nat} (h:iG bs s a = .ok (b,a1)):0<b/\b<=100000\/30<=s:=by
 by_cases hs:30<=s
 ·exact .inr hs
 ·left;unfold iG at h;split at h
  ·simp only[gA,fj]at h;omega
  ·have BO:(s-2)/2<=13:=by omega
   have hp:(2+s%2)*2^((s-2)/2)<=3*2^13:=J9 (by omega) (kr (by decide) BO);have mD:2^((s-2)/2)<=2^13:=kr (by decide) BO;cases ht:bC bs a ((s-2)/2) with
   | error e=>rw[ht]at h;cases h
   | ok x=>obtain⟨v,a2⟩:=x;have hv:=Al ht;rw[ht]at h;simp only[gA,fj]at h;omega
theorem qu9 {bs:List UInt8} {s a n a1:Nat} (h:dt bs s a = .ok (n,a1)) (hs:s<286):n<=100000:=by
 unfold dt at h;split at h
 ·simp only[gA,fj]at h;omega
 ·split at h
  ·simp only[gA,fj]at h;omega
  ·have BO:(s-261)/4<=6:=by omega
   have hp:(4+(s-265)%4)*2^((s-261)/4)<=7*2^6:=J9 (by omega) (kr (by decide) BO);have mD:2^((s-261)/4)<=2^6:=kr (by decide) BO;cases ht:bC bs a ((s-261)/4) with
   | error e=>rw[ht]at h;cases h
   | ok x=>obtain⟨v,a2⟩:=x;have hv:=Al ht;rw[ht]at h;simp only[gA,fj]at h;omega
theorem zd2 {most:Nat} {out o:List UInt8} {c:UInt8} (h:kC most out c = .ok o):o=out++[c]/\out.length<most:=by
 unfold kC at h;split at h
 ·cases h
 ·simp only[gA]at h;exact⟨h.symm,by omega⟩
theorem St.byte {w:World} {R p:Nat} {F:List Nat} {bs out:List UInt8} {at_ oc most:Nat} {oa:Option Addr} (h:St w R p F bs at_ out oa oc most) {i:Nat} (hi:i<out.length) :
  ∃g o,oa=some ⟨g,o,none⟩/\w.cell? ⟨g,o+i,none⟩=some (.int .u8 ((out[i]?.getD 0).toNat:Nat)):=by
 obtain⟨g,o,e,hc⟩:=(Cx h.own).at (by simp;omega);refine⟨g,o,e,hc i _ ?_⟩;rw[j5,bO hi];rfl
theorem qxk (R p Q:Nat) (F:List Nat) (bs out:List UInt8) (dl:List Nat) (at_ oc most s:Nat) (oa:Option Addr) (w:World) (h:St w R p F bs at_ out oa oc most) (hT:Tb w Q dl (R::p::ae oa)) (h1:256<=s) (h2:s<286) :
  Calls Tryz.prog 207 #[.pointer (some ⟨R,0,none⟩),.int .i64 s,.pointer (some ⟨Q,0,none⟩)] w (C9 w R p F bs oa most (fG bs most dl s out at_)):=by
 obtain⟨M,hM⟩:=ah (fG bs most dl s out at_);rw[<-hM];obtain⟨N,hN⟩:=ah out.length;have H:=aP (RD R p F bs out at_ oc most s oa w h h1 h2) hT hM h hN;have xR:=h.sm;clear h hT hM hN;go_enter Tryz.func207,Tryz.ntmps207;go_upto_block 0 with (first|(go_at_call 219;refine H.o0.mono ?_;rintro e w1 (⟨v,c,hm,bW,cL,rfl,f1⟩|⟨n,a1,hm,rfl,s1,f1⟩);all_goals (try (have c0:=cell_of s1.box 0;simp only[bw,aV,bN]at c0;have K1:=au hm s1 f1;clear hm s1 f1)))|(go_at_call 206;refine (Dv R p Q F bs out dl a1 oc most oa w1 K1.o1 (H.o1.fr K1.l2 (by simp))).mono ?_;rintro e w2 (⟨v2,c,hm,bW,cL,rfl,f1⟩|⟨d,a2,hm,rfl,s2,f2⟩);all_goals (try (have K2:=au hm s2 f2;clear hm s2 f2)))|(go_at_call 220;refine (RU R p F bs out a2 oc most d oa w2 K2.o1 (by omega)).mono ?_;rintro e w3 (⟨v3,c,hm,bW,cL,rfl,f1⟩|⟨b,a3,hm,rfl,s3,f3⟩);all_goals (try (have c1:=cell_of s3.box 1;rw[<-H.l4]at c1;simp only[bw,aV,bN]at c1;have K3:=au hm s3 f3;clear hm s3 f3))))
 ·go_ret;exact .inl ⟨c,by rw[H.o2];simp[fG,hm],bW,cL,rfl,f1⟩
 ·go_ret;exact .inl ⟨c,by rw[H.o2];simp[fG,K1.o0,hm],bW,cL,rfl,(K1.l2.mono (by simp)).trans f1⟩
 ·go_ret;exact .inl ⟨3,by rw[H.o2];simp[fG,K1.o0,K2.o0,show 30<=d by omega],by decide,by decide,rfl,(K1.l2.trans K2.l2).mono (by simp)⟩
 ·go_ret;exact .inl ⟨c,by rw[H.o2];simp[fG,K1.o0,K2.o0,hm,show ¬30<=d by omega],bW,cL,rfl,((K1.l2.trans K2.l2).mono (by simp)).trans f1⟩
 ·go_ret;exact .inl ⟨3,by rw[H.o2];simp only[fG,K1.o0,K2.o0,K3.out.1,if_neg (show ¬30<=d by omega)];rw[if_pos (by rw[<-H.l4];omega)],by decide,by decide,rfl,((K1.l2.trans K2.l2).trans K3.out.2.2).mono (by simp)⟩
 ·have vg:M=match lC most b n out with
    | .error e=>.error e
    | .ok o=>.ok (o,a3):=by
   rw[H.o2]
   simp only[fG,K1.o0,K2.o0,K3.out.1,if_neg (show ¬30<=d by omega)]
   rw[if_neg (by rw[<-H.l4];omega)]
   rfl
  have tZ:0<b/\b<=100000:=by
   rcases qx7 K3.out.1 with k|k
   ·exact k
   ·omega
  have tq:=qu9 K1.o0 h2
  have HM:=ak vg tZ.1
  have zbT:=tZ.2
  clear vg tZ c0 c1
  have dN:decide (N<b)=false:=by simp;omega
  simp only[dN]
  clear dN
  go_wp2
  go_loopg [6,11,52] n (λk s6 s11 s52 wr=>∃(j:Nat) (bE:List UInt8) (j7:Option Addr) (oM:Nat),s52 = .int .i64 (j:Nat)/\j+k=n/\St wr R p F bs a3 bE j7 oM most/\Way w3 R p oa wr j7/\lC most b k bE=lC most b n out/\b<=bE.length)
  case atStart=>exact⟨0,out,oa,oc,rfl,by omega,K3.out.2.1,.refl _ _ _ _,rfl,by rw[<-H.l4];omega⟩
  case round=>
   obtain⟨j,bE,j7,oM,rfl,eG,az,hH,Ox,bK⟩:=hrel
   have hW:Fr (R::p::ae oa) w wr:=(((K1.l2.trans K2.l2).trans K3.out.2.2).mono (by simp)).trans hH.fr
   by_cases hj:j<n
   ·obtain⟨k,rfl⟩:∃k,gk=k+1:=⟨gk-1,by omega⟩
    obtain⟨N1,zn⟩:=ah bE.length
    have yg:=HM.l1
    obtain⟨g,o,rfl,kg⟩:=az.byte (i:=N1-b) (by omega)
    obtain⟨u,hu⟩:=ah (bE[N1-b]?.getD 0)
    have c1:=cell_of az.box 1
    simp only[bw,aV,bN]at c1
    rw[<-zn]at c1
    rw[<-hu]at kg
    have hom:N1<=most:=by rw[zn];exact az.om
    have zbV:b<=N1:=by rw[zn];exact bK
    rw[show o+(N1-b)=(o+(N1-b):Nat) from rfl]at kg
    have HJ:=cz az hH Ox bK zn hu hW
    clear az hH Ox bK zn hu hW
    go_upto_region 16 with fail
    refine uw 14 (by kernel_rfl) (by kernel_rfl) ?_
    simp only[uj]
    repeat (go_big_quiet_step (fail))
    refine wpQuiet_nil ?_
    have sd:=HJ.out.1.dF (Fr.av [] wr)
    have HD:=af sd
    clear sd
    go_wp2_with (go_at_call 186;refine (Ks R p F bs bE a3 oM most _ u wr.drew HD.out).mono ?_;rintro e w4 (⟨c,hm,bW,cL,rfl,f1⟩|⟨wA,a4,zI,DO,hm,rfl,s4,f4⟩);all_goals (have Km:=af hm;clear hm);all_goals (try (have K4:=ak s4 f4;clear s4 f4)))
    ·go_ret
     have hm:=Km.out
     cases hp:kC most bE u with
     | error e=>
      rw[hp]at hm
      have OV:e=c:=by simpa[Except.map] using hm
      have e1:lC most b n out = .error c:=by rw[<-HJ.out.2.2.1,lC,<-HJ.out.2.2.2.2.1,<-HJ.out.2.2.2.2.2.1,hp,OV]
      exact .inl ⟨c,by rw[HM.o0,e1],bW,cL,rfl,(HJ.out.2.2.2.2.2.2.drew).step f1 (λx hx=>by
       rcases gw.1 hx with h3|hx
       ·exact .inl (by simp[h3])
       ·rcases gw.1 hx with h3|hx
        ·exact .inl (by simp[h3])
        ·rcases HJ.out.2.1.new x hx with h3|h3
         ·exact .inl (by simp[h3])
         ·exact .inr (bS (bS (bS K1.l2.size K2.l2.size) K3.out.2.2.size) h3))⟩
     | ok o2=>rw[hp]at hm;cases hm
    ·go_roundg k
     case measure=>omega
     case rel=>
      have hm:=Km.out
      cases hp:kC most bE u with
      | error e=>rw[hp]at hm;cases hm
      | ok o2=>
       rw[hp]at hm
       have hU:o2=wA/\a3=a4:=by simpa[Except.map] using hm
       obtain⟨rfl,rfl⟩:=hU
       have hi:=zd2 hp
       refine⟨j+1,o2,zI,DO,by go_num,by omega,K4.o0,HJ.out.2.1.trans ((Way.M1 _ _ _ _ _ (Fr.av [] wr)).trans K4.l1),?_,by rw[hi.1];simp;have:=HJ.out.2.2.2.1;omega⟩
       rw[<-HJ.out.2.2.1,lC,<-HJ.out.2.2.2.2.1,<-HJ.out.2.2.2.2.2.1,hp]
   ·have zR:gk=0:=by omega
    subst zR
    have e1:lC most b n out = .ok bE:=by rw[<-Ox,lC]
    have HE:=au az hH e1
    clear az hH Ox bK e1
    obtain rfl:j=n:=by omega
    go_wp2
    go_ret
    exact .inr ⟨bE,a3,j7,oM,by rw[HM.o0,HE.l2],rfl,HE.o0,(Way.of _ _ _ _ _ ((K1.l2.trans K2.l2).trans K3.out.2.2)).trans HE.o1⟩
theorem zf3 (R p:Nat) (F:List Nat) (bs out:List UInt8) (at_ oc most s:Nat) (oa:Option Addr) (w:World) (h:St w R p F bs at_ out oa oc most) (hs:s<256) :
  Calls Tryz.prog 186 #[.pointer (some ⟨R,0,none⟩),.int .u8 s] w (C9 w R p F bs oa most ((kC most out (UInt8.ofNat s)).map λo=>(o,at_))):=by
 have:=Ks R p F bs out at_ oc most oa (UInt8.ofNat s) w h;rwa [show ((UInt8.ofNat s).toNat:Int)=(s:Int) from by simp[AA];omega]at this
theorem qqu {bs:List UInt8} {most:Nat} {dl:List Nat} {s a a1:Nat} {out o:List UInt8} (h:fG bs most dl s out a = .ok (o,a1)):a<=a1:=by
 have ht:∀{n a v b:Nat},bC bs a n = .ok (v,b)->a<=b:=λ{n a v b} h=>by
  unfold bC at h;split at h
  ·simp only[gA,fj]at h;omega
  ·cases h
 unfold fG at h;split at h
 ·cases h
 ·rename_i n a2 h1;have e1:a<=a2:=by
   unfold dt at h1;split at h1
   ·simp only[gA,fj]at h1;omega
   ·split at h1
    ·simp only[gA,fj]at h1;omega
    ·split at h1
     ·cases h1
     ·rename_i hh;have:=ht hh;simp only[gA,fj]at h1;omega
  split at h
  ·cases h
  ·rename_i d a3 h2;have e2:=(Kp h2).2;split at h
   ·cases h
   ·split at h
    ·cases h
    ·rename_i b a4 h3;have e3:a3<=a4:=by
      unfold iG at h3;split at h3
      ·simp only[gA,fj]at h3;omega
      ·split at h3
       ·cases h3
       ·rename_i hh;have:=ht hh;simp only[gA,fj]at h3;omega
     split at h
     ·cases h
     ·split at h
      ·cases h
      ·simp only[gA,fj]at h;omega
theorem ql7 (R p PL PD:Nat) (F:List Nat) (bs out:List UInt8) (ll dl:List Nat) (at_ oc most:Nat) (oa:Option Addr) (w:World) (h:St w R p F bs at_ out oa oc most) (hL:Tb w PL ll (R::p::ae oa)) (hD:Tb w PD dl (R::p::ae oa)) :
  Calls Tryz.prog 188 #[.pointer (some ⟨R,0,none⟩),.pointer (some ⟨PL,0,none⟩),.pointer (some ⟨PD,0,none⟩)] w (C9 w R p F bs oa most (dH bs most ll dl (fuel bs) out at_)):=by
 obtain⟨M,hM⟩:=ah (dH bs most ll dl (fuel bs) out at_);rw[<-hM];have H:=aF h hL hD hM;clear h hL hD hM;go_enter Tryz.func188,Tryz.ntmps188;go_wp2;go_step3;go_wp2;go_step3;go_wp2;go_loopg [6,7,8,9,10] (fuel bs) (λk s6 s7 s8 s9 s10 wr=>∃(a1:Nat) (bE:List UInt8) (j7:Option Addr) (oM:Nat),St wr R p F bs a1 bE j7 oM most/\Way w R p oa wr j7/\dH bs most ll dl k bE a1=M/\8*bs.length+1<=a1+k);case atStart=>exact⟨at_,out,oa,oc,H.o0,.refl _ _ _ _,H.l3.symm,by unfold fuel;omega⟩
 case round=>
  obtain⟨a1,bE,j7,oM,az,hH,his,CW⟩:=hrel;have EA:=az.pF.2;obtain⟨k,rfl⟩:∃k,gk=k+1:=⟨gk-1,by omega⟩;have c0:=cell_of az.box 0;simp only[bw,aV,bN]at c0;have HJ:=aP az hH his (H.o1.way hH) (H.o2.way hH);clear az hH his;go_wp2_with (first|(go_at_call 206;refine (Dv R p PL F bs bE ll a1 oM most j7 wr HJ.o0 HJ.o3).mono ?_;rintro e w2 (⟨v2,c,hm,bW,cL,rfl,f1⟩|⟨s,a2,hm,rfl,s2,f2⟩);all_goals (try (have K2:=au hm s2 f2;clear hm s2 f2)))|(go_at_call 186;refine (zf3 R p F bs bE a2 oM most s j7 w2 K2.o1 (by omega)).mono ?_;rintro e w4 (⟨c,hm,bW,cL,rfl,f1⟩|⟨wA,a4,zI,DO,hm,rfl,s4,f4⟩);all_goals (have Km:=af hm;clear hm);all_goals (try (have K4:=ak s4 f4;clear s4 f4)))|(go_at_call 207;refine (qxk R p PD F bs bE dl a2 oM most s j7 w2 K2.o1 (HJ.l4.fr K2.l2 (by simp)) (by omega) (by omega)).mono ?_;rintro e w4 (⟨c,hm,bW,cL,rfl,f1⟩|⟨wA,a4,zI,DO,hm,rfl,s4,f4⟩);all_goals (have Km:=af hm;clear hm);all_goals (try (have K4:=ak s4 f4;clear s4 f4))))
  ·rw[Exit.noGoto_ret];go_ret;exact .inl ⟨c,by rw[<-HJ.o2,dH,hm],bW,cL,rfl,HJ.o1.JD f1⟩
  ·rw[Exit.noGoto_ret];go_ret;have hm:=Km.out;cases hp:kC most bE (UInt8.ofNat s) with
   | ok o2=>rw[hp]at hm;cases hm
   | error e=>
    rw[hp]at hm;have OV:e=c:=by simpa[Except.map] using hm
    have e1:dH bs most ll dl (k+1) bE a1 = .error c:=by rw[dH,K2.o0];simp only[if_pos (show s<256 by omega),hp,OV]
    exact .inl ⟨c,by rw[<-HJ.o2,e1],bW,cL,rfl,(HJ.o1.trans (Way.of _ _ _ _ _ K2.l2)).JD f1⟩
  ·go_roundg k;case measure=>omega
   case rel=>
    have hm:=Km.out;cases hp:kC most bE (UInt8.ofNat s) with
    | error e=>rw[hp]at hm;cases hm
    | ok o2=>
     rw[hp]at hm;have hU:o2=wA/\a2=a4:=by simpa[Except.map] using hm
     obtain⟨rfl,rfl⟩:=hU;have aY:=(Kp K2.o0).2;refine⟨a2,o2,zI,DO,K4.o0,(HJ.o1.trans (Way.of _ _ _ _ _ K2.l2)).trans K4.l1,?_,by omega⟩;rw[<-HJ.o2,dH,K2.o0];simp only[if_pos (show s<256 by omega),hp]
  ·have zO:((s:Int)==256)=true:=by assumption
   have hs:s=256:=by have:=beq_iff_eq.1 zO;omega
   rw[Exit.noGoto_ret];go_ret;have e1:dH bs most ll dl (k+1) bE a1 = .ok (bE,a2):=by rw[dH,K2.o0];simp only[if_neg (show ¬s<256 by omega),if_pos hs]
   exact .inr ⟨bE,a2,j7,oM,by rw[<-HJ.o2,e1],rfl,K2.o1,HJ.o1.trans (Way.of _ _ _ _ _ K2.l2)⟩
  ·have zO:((s:Int)==256)=false:=by assumption
   have hs:s≠256:=λhe=>by rw[he]at zO;cases zO
   rw[Exit.noGoto_ret];go_ret;have e1:dH bs most ll dl (k+1) bE a1 = .error 3:=by rw[dH,K2.o0];simp only[if_neg (show ¬s<256 by omega),if_neg hs,if_pos (show 286<=s by omega)]
   exact .inl ⟨3,by rw[<-HJ.o2,e1],by decide,by decide,rfl,HJ.o1.JD (K2.l2.mono (by simp))⟩
  ·have zO:((s:Int)==256)=false:=by assumption
   rw[Exit.noGoto_ret];go_ret;have hs:s≠256:=λhe=>by rw[he]at zO;cases zO
   have e1:dH bs most ll dl (k+1) bE a1 = .error c:=by rw[dH,K2.o0];simp only[if_neg (show ¬s<256 by omega),if_neg hs,if_neg (show ¬286<=s by omega),Km.out]
   exact .inl ⟨c,by rw[<-HJ.o2,e1],bW,cL,rfl,(HJ.o1.trans (Way.of _ _ _ _ _ K2.l2)).JD f1⟩
  ·have zO:((s:Int)==256)=false:=by assumption
   go_roundg k;case measure=>omega
   case rel=>
    have hs:s≠256:=λhe=>by rw[he]at zO;cases zO
    have aY:=(Kp K2.o0).2;have IX:=qqu Km.out;refine⟨a4,wA,zI,DO,K4.o0,(HJ.o1.trans (Way.of _ _ _ _ _ K2.l2)).trans K4.l1,?_,by omega⟩;rw[<-HJ.o2,dH,K2.o0];simp only[if_neg (show ¬s<256 by omega),if_neg hs,if_neg (show ¬286<=s by omega),Km.out]
end inf
namespace inf
open Go bm bl huf
theorem Ak {bs:List UInt8} {a n v a1:Nat} (h:bC bs a n = .ok (v,a1)):a1=a+n:=by
 unfold bC at h;split at h
 ·simp only[gA,fj]at h;exact h.2.symm
 ·cases h
theorem qqw {bs:List UInt8} {most:Nat}:∀{n:Nat} {out o:List UInt8} {q a:Nat},dD bs most n out q = .ok (o,a)->8*q<=a
 | 0,out,o,q,a,h=>by simp only[dD,gA,fj]at h;omega
 | n+1,out,o,q,a,h=>by
  rw[dD]at h;split at h
  ·split at h
   ·cases h
   ·have:=qqw h;omega
  ·cases h
theorem qu7 {bs:List UInt8} {most a a1:Nat} {out o:List UInt8} (h:gK bs most out a = .ok (o,a1)):a<=a1:=by
 unfold gK at h;split at h
 ·split at h
  ·have:=qqw h;omega
  ·cases h
 ·cases h
theorem Rf {bs:List UInt8} {most:Nat} {ll dl:List Nat}:∀{f:Nat} {out o:List UInt8} {a a1:Nat},dH bs most ll dl f out a = .ok (o,a1)->a<=a1
 | 0,out,o,a,a1,h=>by simp only[dH]at h;cases h
 | f+1,out,o,a,a1,h=>by
  rw[dH]at h;split at h
  ·cases h
  ·rename_i s a2 hs;have h1:=(Kp hs).2;split at h
   ·split at h
    ·cases h
    ·have:=Rf h;omega
   ·split at h
    ·simp only[gA,fj]at h;omega
    ·split at h
     ·cases h
     ·split at h
      ·cases h
      ·rename_i o2 a3 hm;have h2:=qqu hm;have:=Rf h;omega
theorem qqv {bs:List UInt8}:∀{ps fs gs:List Nat} {a a1:Nat},ff bs ps fs a = .ok (gs,a1)->a<=a1
 | [],fs,gs,a,a1,h=>by simp only[ff,gA,fj]at h;omega
 | i::t,fs,gs,a,a1,h=>by
  rw[ff]at h;split at h
  ·cases h
  ·rename_i v a2 hm;have h1:=Ak hm;have:=qqv h;omega
theorem UK {bs:List UInt8} {ls:List Nat} {n:Nat}:∀{f:Nat} {L K:List Nat} {a a1:Nat},cR bs ls n f L a = .ok (K,a1)->a<=a1
 | 0,L,K,a,a1,h=>by simp only[cR]at h;cases h
 | f+1,L,K,a,a1,h=>by
  rw[cR]at h;split at h
  ·simp only[gA,fj]at h;omega
  ·split at h
   ·cases h
   ·rename_i s a2 hs;have h1:=(Kp hs).2;split at h
    ·have:=UK h;omega
    ·split at h
     ·cases h
     ·rename_i v a3 hm;have h2:=Ak hm;split at h
      ·cases h
      ·have:=UK h;omega
theorem zd7 {bs:List UInt8} {most a a1:Nat} {out o:List UInt8} (h:nJ bs most out a = .ok (o,a1)):a<=a1:=by
 unfold nJ at h;split at h
 ·cases h
 ·rename_i v1 b1 h1;have e1:=Ak h1;split at h
  ·cases h
  ·split at h
   ·cases h
   ·rename_i v2 b2 h2;have e2:=Ak h2;split at h
    ·cases h
    ·split at h
     ·cases h
     ·rename_i v3 b3 h3;have e3:=Ak h3;unfold su at h;split at h
      ·cases h
      ·rename_i fs b4 h4;have e4:=qqv h4;split at h
       ·cases h
       ·unfold sr at h;split at h
        ·cases h
        ·rename_i ls b5 h5;have e5:=UK h5;split at h
         ·cases h
         ·split at h
          ·cases h
          ·split at h
           ·cases h
           ·have:=Rf h;omega
theorem Vr {bs:List UInt8} {most k a a1:Nat} {out o:List UInt8} (h:gZ bs most k out a = .ok (o,a1)):a<=a1:=by
 unfold gZ at h;split at h
 ·exact qu7 h
 ·split at h
  ·exact Rf h
  ·exact zd7 h
open Go.RowKit lib
theorem qt8 {w:World} {B:Nat} {e:TypeId} {ao:Option Addr} {vs:List Value} (h:jx w B e ao vs) (h0:0<vs.length):∃g,ao=some ⟨g,0,none⟩/\B<=g/\∀j v,vs[j]?=some v->w.cell? ⟨g,j,none⟩=some v:=by
 rcases h with h|⟨g,cur,rfl,hB,hg,ht⟩
 ·rw[h]at h0;simp at h0
 ·refine⟨g,rfl,hB,λj v hv=>?_⟩;rw[cell_of hg];rw[<-ht,oY]at hv;split at hv
  ·simpa using hv
  ·cases hv
theorem ze4 (x y:Nat) (hx:x<256) (hy:y<256):bits .or .i64 (x:Int) ((y:Int)*256)=((x+256*y:Nat):Int):=by have h1:=E9 x y 8 (by simpa using hx);rw[show (y:Int)*256=((y*256:Nat):Int) by omega,ML x (y*256) (by omega) (by omega),show y*256=y*2^8 from rfl,h1]
theorem qvy (x:Nat) (h:x<256):bits .xor .u8 (if IntKind.u8.signed=true then -1 else IntKind.u8.max) ((x:Nat):Int)=((255-x:Nat):Int):=by
 have aE:∀y:Fin 256,bits .xor .u8 (if IntKind.u8.signed=true then -1 else IntKind.u8.max) ((y.val:Nat):Int)=((255-y.val:Nat):Int):=by decide +kernel
 exact aE ⟨x,h⟩
theorem CC (bs:List UInt8) (i:Nat):aT bs i<256:=iB _
theorem L8 {bs:List UInt8} {q n j:Nat} (hj:j<n) (hq:q+j<bs.length):(((bs.drop q).take n).map bv)[j]?=some (.int .u8 (aT bs (q+j):Nat)):=by rw[j5,oY,if_pos hj,CH,bO hq];simp[bv,aT,hq]
theorem qun (R p:Nat) (F:List Nat) (bs out:List UInt8) (at_ oc most:Nat) (oa:Option Addr) (w:World) (h:St w R p F bs at_ out oa oc most) :
  Calls Tryz.prog 166 #[.pointer (some ⟨R,0,none⟩)] w (C9 w R p F bs oa most (gK bs most out at_)):=by
 obtain⟨M,hM⟩:=ah (gK bs most out at_);rw[<-hM];have c0:=cell_of h.box 0;simp only[bw,aV,bN]at c0;obtain⟨q,hq⟩:=ah ((at_+7)/8);by_cases hl:q+4<=bs.length
 ·have jX:Calls Tryz.prog 185 #[.pointer (some ⟨p,0,none⟩),.int .i64 4] w (bits.kY p F bs at_ 4 w):=bits.qoe p F bs at_ 4 w h.rd (by omega) (by omega);have BK:M=if aT bs q+aT bs (q+2)=255/\aT bs (q+1)+aT bs (q+3)=255 then dD bs most (aT bs q+256*aT bs (q+1)) out (q+4) else .error 3:=by rw[hM];unfold gK;rw[<-hq,if_pos hl]
  have e0:(((bs.drop q).take 4).map bv).length=4:=by simp;omega
  obtain⟨x0,gM⟩:∃x,x=aT bs q:=⟨_,rfl⟩;obtain⟨x1,dT⟩:∃x,x=aT bs (q+1):=⟨_,rfl⟩;obtain⟨x2,jU⟩:∃x,x=aT bs (q+2):=⟨_,rfl⟩;obtain⟨x3,AV⟩:∃x,x=aT bs (q+3):=⟨_,rfl⟩;have g0:=L8 (bs:=bs) (q:=q) (n:=4) (j:=0) (by omega) (by omega);have g1:=L8 (bs:=bs) (q:=q) (n:=4) (j:=1) (by omega) (by omega);have g2:=L8 (bs:=bs) (q:=q) (n:=4) (j:=2) (by omega) (by omega);have g3:=L8 (bs:=bs) (q:=q) (n:=4) (j:=3) (by omega) (by omega);rw[jS,<-gM]at g0;rw[<-dT]at g1;rw[<-jU]at g2;rw[<-AV]at g3;rw[<-gM,<-dT,<-jU,<-AV]at BK;have b0:x0<256:=by rw[gM];exact CC _ _
  have b1:x1<256:=by rw[dT];exact CC _ _
  have b2:x2<256:=by rw[jU];exact CC _ _
  have b3:x3<256:=by rw[AV];exact CC _ _
  have G:=aP g0 g1 g2 g3 e0;have H:=aF h jX BK hq;clear h jX BK hM hq gM dT jU AV g0 g1 g2 g3 e0;go_enter Tryz.func166,Tryz.ntmps166;go_upto_region 4 with (go_at_call 185;refine H.l1.1.mono ?_;rintro e w1 ⟨ao,rfl,dU,_,_,bP,f1⟩;rw[<-H.l1.2.2]at dU bP;obtain⟨g,rfl,_,hc⟩:=qt8 dU (by rw[G.out.2.2.2.2];decide);have d0:=hc 0 _ G.out.1;have d1:=hc 1 _ G.out.2.1;have d2:=hc 2 _ G.out.2.2.1;have d3:=hc 3 _ G.out.2.2.2.1;have K1:=ak (H.o0.take f1 bP) f1;clear hc dU bP f1);obtain⟨n,hn⟩:=ah (x0+256*x1);obtain⟨y2,kt⟩:∃y,y=255-x2:=⟨_,rfl⟩;obtain⟨y3,KU⟩:∃y,y=255-x3:=⟨_,rfl⟩;have uS:=ze4 x0 x1 b0 b1;have Nq:=qvy x2 b2;have Np:=qvy x3 b3;rw[<-hn]at uS;rw[<-kt]at Nq;rw[<-KU]at Np;have Eh:n<65536:=by omega
  have hnN:=au hn kt KU;have c02:x0+x2=255↔x0=y2:=by omega
  have ln:x1+x3=255↔x1=y3:=by omega
  have hC:=ak c02 ln;have by2:y2<256:=by omega
  have by3:y3<256:=by omega
  clear hn kt KU c02 ln;go_quiet (fail);obtain⟨w2,bq⟩:=ah (w1.drewN nq);have f2:Fr [] w1 w2:=by rw[bq];exact .drewN _ _ _
  replace d0:=f2.cell d0 (by simp);replace d1:=f2.cell d1 (by simp);replace d2:=f2.cell d2 (by simp);replace d3:=f2.cell d3 (by simp);rw[<-bq];have K2:=ak (K1.o0.dF f2) f2;clear bq f2 uS;go_upto_region 5 with fail;have bad:¬(x0+x2=255/\x1+x3=255)->M = .error 3:=λbR=>by rw[H.l1.2.1,if_neg bR]
  have hB:=af bad;clear bad;by_cases p0:x0=y2
  ·have n0:((x0:Int)!=(y2:Int))=false:=by rw[p0];simp
   by_cases p1:x1=y3
   ·have n1:((x1:Int)!=(y3:Int))=false:=by rw[p1];simp
    have vg:M=dD bs most n out (q+4):=by rw[H.l1.2.1,if_pos ⟨hC.o0.2 p0,hC.l1.2 p1⟩,hnN.o0]
    have HM:=au p0 p1 vg;clear p0 p1 vg;go_quiet (fail);obtain⟨w3,gN⟩:=ah (w2.drewN nq);have f3:Fr [] w2 w3:=by rw[gN];exact .drewN _ _ _
    have s3:=K2.o0.dF f3;rw[show q*8+8*4=8*(q+4) by omega]at s3;rw[<-gN];have K3:=au s3 f3 (((Way.of _ _ _ _ _ K1.l1).trans (Way.M1 _ _ R p oa K2.l1)).trans (Way.M1 _ _ _ _ _ f3));clear gN s3 f3 d0 d1 d2 d3 c0 n0 n1 Nq Np;go_wp2;go_loopg [2,6,7,8,48] n (λk s2 s6 s7 s8 s48 wr=>∃(j:Nat) (bE:List UInt8) (j7:Option Addr) (oM:Nat),s48 = .int .i64 (j:Nat)/\j+k=n/\St wr R p F bs (8*(q+4+j)) bE j7 oM most/\Way w R p oa wr j7/\dD bs most k bE (q+4+j)=dD bs most n out (q+4));case atStart=>exact⟨0,out,oa,oc,rfl,by omega,K3.o0,K3.l2,rfl⟩
    case round=>
     obtain⟨j,bE,j7,oM,rfl,eG,az,hH,sF⟩:=hrel;obtain⟨m,hm⟩:=ah (q+4+j);rw[<-hm]at az sF;by_cases hj:j<n
     ·obtain⟨k,rfl⟩:∃k,gk=k+1:=⟨gk-1,by omega⟩;have c0:=cell_of az.box 0;simp only[bw,aV,bN]at c0;by_cases ph:m<bs.length
      ·have fx:Calls Tryz.prog 185 #[.pointer (some ⟨p,0,none⟩),.int .i64 1] wr (bits.kY p F bs (8*m) 1 wr):=bits.qoe p F bs (8*m) 1 wr az.rd (by omega) (by omega);obtain⟨u,hu⟩:=ah (bs[m]?.getD 0);have g0:=L8 (bs:=bs) (q:=m) (n:=1) (j:=0) (by omega) (by omega);have gl:(((bs.drop m).take 1).map bv).length=1:=by simp;omega
       rw[jS,show aT bs m=u.toNat by rw[hu];rfl]at g0;have HJ:=lJ az hH sF fx g0 gl hm hu;clear az hH sF fx g0 gl hm hu;go_wp2_with (first|(go_at_call 185;refine HJ.out.2.2.2.1.mono ?_;rintro e w4 ⟨ao,rfl,dU,_,_,bP,f1⟩;rw[show (8*m+7)/8=m by omega]at dU bP;obtain⟨g4,rfl,_,hc⟩:=qt8 dU (by rw[HJ.out.2.2.2.2.2.1];decide);have d0:=hc 0 _ HJ.out.2.2.2.2.1;have K4:=ak (HJ.out.1.take f1 bP) f1;clear hc dU bP f1)|(go_at_call 186;refine (Ks R p F bs bE _ oM most j7 u w4 K4.o0).mono ?_;rintro e w5 (⟨c,hm,bW,cL,rfl,f1⟩|⟨wA,a4,zI,DO,hm,rfl,s4,f4⟩);all_goals (have Km:=af hm;clear hm);all_goals (try (have K5:=ak s4 f4;clear s4 f4))))
       ·go_ret;have lf:=Km.out;cases hp:kC most bE u with
        | ok o2=>rw[hp]at lf;cases lf
        | error e=>
         rw[hp]at lf;have OV:e=c:=by simpa[Except.map] using lf
         have e1:dD bs most (k+1) bE m = .error c:=by rw[dD,if_pos ph,<-HJ.out.2.2.2.2.2.2.2,hp,OV]
         exact .inl ⟨c,by rw[HM.l1.2,<-HJ.out.2.2.1,e1],bW,cL,rfl,(HJ.out.2.1.trans (Way.of _ _ _ _ _ K4.l1)).JD f1⟩
       ·go_roundg k;case measure=>omega
        case rel=>
         have lf:=Km.out;cases hp:kC most bE u with
         | error e=>rw[hp]at lf;cases lf
         | ok o2=>
          rw[hp]at lf;have hU:o2=wA/\m*8+8*1=a4:=by simpa[Except.map] using lf
          obtain⟨rfl,rfl⟩:=hU;have s5:=K5.o0;rw[show m*8+8*1=8*(q+4+(j+1)) by have:=HJ.out.2.2.2.2.2.2.1;omega]at s5;refine⟨j+1,o2,zI,DO,by go_num,by omega,s5,(HJ.out.2.1.trans (Way.of _ _ _ _ _ K4.l1)).trans K5.l1,?_⟩;rw[<-HJ.out.2.2.1,dD,if_pos ph,<-HJ.out.2.2.2.2.2.2.2,hp,show q+4+(j+1)=m+1 by have:=HJ.out.2.2.2.2.2.2.1;omega]
      ·have fx:Calls Tryz.prog 185 #[.pointer (some ⟨p,0,none⟩),.int .i64 1] wr _:=bits.qrc p F bs (8*m) 1 wr az.rd (.inr (by omega));have e1:dD bs most (k+1) bE m = .error 4:=by rw[dD,if_neg ph]
       have HJ:=aP az hH sF fx e1;clear az hH sF fx e1 hm;go_wp2_with (go_at_call 185;refine HJ.out.2.2.2.1.mono ?_;rintro e w4 ⟨rfl,_,f1⟩);go_ret;exact .inl ⟨4,by rw[HM.l1.2,<-HJ.out.2.2.1,HJ.out.2.2.2.2],by decide,by decide,rfl,HJ.out.2.1.JD (f1.mono (by simp))⟩
     ·have zR:gk=0:=by omega
      subst zR;have e1:dD bs most n out (q+4) = .ok (bE,8*m):=by rw[<-sF,dD]
      have HE:=au az hH e1;clear az hH sF e1 hm;obtain rfl:j=n:=by omega
      go_wp2;go_ret;exact .inr ⟨bE,_,j7,oM,by rw[HM.l1.2,HE.l2],rfl,HE.o0,HE.o1⟩
   ·have n1:((x1:Int)!=(y3:Int))=true:=by simp;omega
    have vg:M = .error 3:=hB.out (λh=>p1 (hC.l1.1 h.2));have HM:=au p0 p1 vg;clear p0 p1 vg;go_quiet (fail);go_wp2;go_ret;exact .inl ⟨3,HM.l1.2,by decide,by decide,rfl,((K1.l1.trans (K2.l1.mono (by simp))).trans (Fr.drewN _ _ _)).mono (by simp)⟩
  ·have n0:((x0:Int)!=(y2:Int))=true:=by simp;omega
   have vg:M = .error 3:=hB.out (λh=>p0 (hC.o0.1 h.1));have HM:=ak p0 vg;clear p0 vg;go_quiet (fail);go_wp2;go_ret;exact .inl ⟨3,HM.l1,by decide,by decide,rfl,((K1.l1.trans (K2.l1.mono (by simp))).trans (Fr.drewN _ _ _)).mono (by simp)⟩
 ·have jX:Calls Tryz.prog 185 #[.pointer (some ⟨p,0,none⟩),.int .i64 4] w _:=bits.qrc p F bs at_ 4 w h.rd (.inr (by omega));have BK:M = .error 4:=by rw[hM];unfold gK;rw[<-hq,if_neg hl]
  have H:=ak jX BK;clear h jX BK hM hq;go_enter Tryz.func166,Tryz.ntmps166;go_wp2_with (go_at_call 185;refine H.o0.mono ?_;rintro e w1 ⟨rfl,_,f1⟩);go_ret;exact .inl ⟨4,H.l1,by decide,by decide,rfl,f1.mono (by simp)⟩
def gR (w:World) (ls:List Nat) (few:Bool) (e:Ending) (w':World):Prop:=
 (fe ls few=false/\e = .returned (.tuple #[.pointer none,.int .i64 3])/\Fr [] w w')\/
 (fe ls few=true/\tP w ls e w')
theorem yE (l:List Nat) (x:Nat):some_ (l++[x])=some_ l+if 0<x then 1 else 0:=by unfold some_;rw[CG,aK];split<;>simp[*]
theorem qxe (l:List Nat) (x:Nat):ones (l++[x])=(ones l&&decide (x<=1)):=by unfold ones;rw[List.all_append];simp
theorem qwg (l:List Nat):some_ l<=l.length:=DF _ _
theorem Vx (a:Option Addr) (cap:Nat) (ls:List Nat) (few:Bool) (w:World) (h:Ri w a cap ls) (hle:∀l∈ls,l<=15) (hlen:ls.length<=400) :
  Calls Tryz.prog 190 #[.slice a ls.length cap,.bool few] w (gR w ls few):=by
 obtain⟨N,hN⟩:=ah ls.length;by_cases hw:weight ls<=32768
 ·have fu:=Up a cap ls w h hle hlen hw;rw[<-hN]at fu hlen ⊢;have H:=aP h hle hN fu hw;clear h hle hN fu hw;go_enter Tryz.func190,Tryz.ntmps190;go_upto_block 0 with (go_at_call 187;refine H.out.2.2.2.1.mono ?_;rintro e w1 ⟨P,D,first,sa,sc,rfl,nL,f1⟩;have H1:=ak nL f1;clear nL f1);go_wp2;go_loopg [8,9,11,21] N (λk s8 s9 s11 s21 wr=>∃i:Nat,s21 = .int .i64 (i:Nat)/\s8 = .int .i64 (some_ (ls.take i):Nat)/\s9 = .bool (ones (ls.take i))/\i+k=N/\w1=wr);case atStart=>exact⟨0,rfl,rfl,rfl,by omega,rfl⟩
  case round=>
   obtain⟨i,rfl,rfl,rfl,bU,rfl⟩:=hrel;by_cases hi:i<N
   ·obtain⟨k,rfl⟩:∃k,gk=k+1:=⟨gk-1,by omega⟩;have eC:i<ls.length:=by rw[<-H.out.2.2.1];exact hi
    obtain⟨ga,o,ha,hc⟩:=(H.out.1.fr H1.out.2).at eC;subst ha;have iV:=H.out.2.1 _ (vJ eC);have ht:ls.take (i+1)=ls.take i++[ls[i]]:=by rw[DJ eC]
    obtain⟨x,hx⟩:=ah (ls[i]);rw[<-hx]at hc iV ht;obtain⟨c,kK⟩:=ah (some_ (ls.take i));have fH:c<=400:=by rw[kK];have:=qwg (ls.take i);rw[eJ]at this;omega
    obtain⟨b,hb⟩:=ah (ones (ls.take i));have e1:some_ (ls.take (i+1))=c+if 0<x then 1 else 0:=by rw[ht,yE,kK]
    have e2:ones (ls.take (i+1))=(b&&decide (x<=1)):=by rw[ht,qxe,hb]
    rw[<-kK,<-hb];have HI:=ak e1 e2;clear e1 e2 kK hb ht hx;by_cases h0:x=0
    ·subst h0;go_wp2;go_roundg k;case measure=>omega
     case rel=>exact⟨i+1,by go_num,by rw[HI.o0];rfl,by rw[HI.l1];simp,by omega,rfl⟩
    ·have d0:decide ((0:Int)<x)=true:=by simp;omega
     by_cases h1:x=1
     ·subst h1;cases b
      ·go_wp2;go_roundg k;case measure=>omega
       case rel=>exact⟨i+1,by go_num,by rw[HI.o0];rfl,by rw[HI.l1];rfl,by omega,rfl⟩
      ·go_wp2;go_roundg k;case measure=>omega
       case rel=>exact⟨i+1,by go_num,by rw[HI.o0];rfl,by rw[HI.l1];rfl,by omega,rfl⟩
     ·have d1:((x:Int)==1)=false:=by simp;omega
      have d2:decide (x<=1)=false:=by simp;omega
      have HD:=af d2;clear d2;cases b
      ·go_wp2;go_roundg k;case measure=>omega
       case rel=>exact⟨i+1,by go_num,by rw[HI.o0,if_pos (by omega)];rfl,by rw[HI.l1];rfl,by omega,rfl⟩
      ·go_wp2;go_roundg k;case measure=>omega
       case rel=>exact⟨i+1,by go_num,by rw[HI.o0,if_pos (by omega)];rfl,by rw[HI.l1,HD.out];rfl,by omega,rfl⟩
   ·obtain rfl:i=N:=by omega
    have et:ls.take i=ls:=oI (by rw[<-H.out.2.2.1];exact aw _);rw[et];obtain⟨c,kK⟩:=ah (some_ ls);obtain⟨b,hb⟩:=ah (ones ls);have fH:c<=400:=by rw[kK];have:=qwg ls;rw[<-H.out.2.2.1]at this;omega
    have rK:fe ls few=(decide (weight ls=32768)||(few&&(decide (c<2)&&b))):=by unfold fe;rw[<-kK,<-hb,decide_eq_true H.out.2.2.2.2,Bool.true_and]
    have SL:=qq6 a cap ls w1 (H.out.1.fr H1.out.2) H.out.2.1 (by rw[<-H.out.2.2.1];omega);rw[<-H.out.2.2.1]at SL;obtain⟨cp,Je⟩:=ah (decide (weight ls=32768));rw[<-Je]at rK SL;rw[<-kK,<-hb];have HC:=ak SL rK;clear SL rK Je kK hb et hi bU;have fin:fe ls few=false->gR w ls few (.returned (.tuple #[.pointer none,.int .i64 3])) w1:=λh0=>.inl ⟨h0,rfl,H1.out.2⟩
    have PN:fe ls few=true->gR w ls few (.returned (.tuple #[.pointer (some ⟨P,0,none⟩),.int .i64 0])) w1:=λh0=>.inr ⟨h0,P,D,first,sa,sc,rfl,H1.out.1,H1.out.2⟩
    have HF:=ak fin PN;clear fin PN;cases cp
    ·cases few
     ·go_wp2_with (go_at_call 208;refine HC.o0.mono ?_;rintro e w2 ⟨rfl,rfl⟩);go_ret2;exact HF.o0 (by rw[HC.l1];rfl)
     ·by_cases h2:c<2
      ·have d2:decide ((c:Int)<2)=true:=by simp;omega
       cases b
       ·go_wp2_with (go_at_call 208;refine HC.o0.mono ?_;rintro e w2 ⟨rfl,rfl⟩);go_ret2;exact HF.o0 (by rw[HC.l1];simp)
       ·go_wp2_with (go_at_call 208;refine HC.o0.mono ?_;rintro e w2 ⟨rfl,rfl⟩);go_ret2;exact HF.l1 (by rw[HC.l1,decide_eq_true h2];rfl)
      ·have d2:decide ((c:Int)<2)=false:=by simp;omega
       go_wp2_with (go_at_call 208;refine HC.o0.mono ?_;rintro e w2 ⟨rfl,rfl⟩);go_ret2;exact HF.o0 (by rw[HC.l1,decide_eq_false h2];rfl)
    ·go_wp2_with (go_at_call 208;refine HC.o0.mono ?_;rintro e w2 ⟨rfl,rfl⟩);go_ret2;exact HF.l1 (by rw[HC.l1];rfl)
 ·have fu:=zdx a cap ls w h hle hlen (by omega);rw[<-hN]at fu ⊢;have rK:fe ls few=false:=by unfold fe;rw[decide_eq_false hw,J7]
  have H:=ak fu rK;clear h hle hN fu hw rK;go_enter Tryz.func190,Tryz.ntmps190;go_wp2_with (go_at_call 187;refine H.out.1.mono ?_;rintro e w1 ⟨rfl,f1⟩);go_ret2;exact .inl ⟨H.out.2,rfl,f1⟩
theorem qx5 {bs:List UInt8} {ls L:List Nat} {n k a:Nat} (h:n<=L.length):cR bs ls n (k+1) L a = .ok (L,a):=by rw[cR,if_pos h]
theorem qx3 {bs:List UInt8} {ls L:List Nat} {n k a c:Nat} (h:L.length<n) (hs:mQ bs ls a = .error c):cR bs ls n (k+1) L a = .error c:=by rw[cR,if_neg (by omega),hs]
theorem qx4 {bs:List UInt8} {ls L:List Nat} {n k a s a1:Nat} (h:L.length<n) (hs:mQ bs ls a = .ok (s,a1)) (ni:s<16):cR bs ls n (k+1) L a=cR bs ls n k (L++[s]) a1:=by rw[cR,if_neg (by omega),hs];simp only[if_pos ni]
theorem RA {bs:List UInt8} {ls L:List Nat} {n k a s a1 c:Nat} (h:L.length<n) (hs:mQ bs ls a = .ok (s,a1)) (ni:16<=s) (ht:bC bs a1 (wide s) = .error c):cR bs ls n (k+1) L a = .error c:=by rw[cR,if_neg (by omega),hs];simp only[if_neg (show ¬s<16 by omega),ht]
theorem Rz {bs:List UInt8} {ls L:List Nat} {n k a s a1 v a2:Nat} (h:L.length<n) (hs:mQ bs ls a = .ok (s,a1)) (ni:16<=s) (ht:bC bs a1 (wide s) = .ok (v,a2)) (hf:(s=16/\L=[])\/n-L.length<least s+v):cR bs ls n (k+1) L a = .error 3:=by rw[cR,if_neg (by omega),hs];simp only[if_neg (show ¬s<16 by omega),ht];rw[if_pos hf]
theorem Vs {bs:List UInt8} {ls L:List Nat} {n k a s a1 v a2:Nat} (h:L.length<n) (hs:mQ bs ls a = .ok (s,a1)) (ni:16<=s) (ht:bC bs a1 (wide s) = .ok (v,a2)) (hf:¬((s=16/\L=[])\/n-L.length<least s+v)) :
  cR bs ls n (k+1) L a=cR bs ls n k (L++List.replicate (least s+v) (if s=16 then L.getLast?.getD 0 else 0)) a2:=by
 rw[cR,if_neg (by omega),hs];simp only[if_neg (show ¬s<16 by omega),ht];rw[if_neg hf]
structure dP (w wr:World) (ao:Option Addr) (cap:Nat) (L:List Nat):Prop where
 own:wr.ownsRow 0 3 1 (.slice ao L.length cap) L.length (ints L)
 new:∀x∈ae ao,w.heap.size<=x
 le:L.length<=cap
 max:cap<=maxLen
 nil:ao=none->cap=0
theorem dP.start (w wr:World):dP w wr none 0 []:=⟨⟨by simp[ints],.inl ⟨rfl,rfl⟩⟩,by simp[ae],aw _,dZ _,λ_=>rfl⟩
theorem dP.fr {w wr w2:World} {S:List Nat} {ao:Option Addr} {cap:Nat} {L:List Nat} (h:dP w wr ao cap L) (f:Fr S wr w2) (hS:∀x∈S,x<w.heap.size):dP w w2 ao cap L:=
 ⟨dr h.own f (λk hk hkS=>by
  have rq:k∈ae ao:=by rw[<-dw ao L.length cap,hk];simp
  have:=h.new k rq
  have:=hS k hkS
  omega),h.new,h.le,h.max,h.nil⟩
theorem dP.app {w wr w2:World} {ao cX:Option Addr} {cap dh n:Nat} {L:List Nat} {x:Nat} {o:Obj} (h:dP w wr ao cap L) (hn:n=L.length) (fw:w.heap.size<=wr.heap.size)
  (A:aW (wr.alloc o) w2 3 1 (ae ao) cX (n+1) dh (ints L++[.int .i64 x])):dP w w2 cX dh (L++[x])/\Fr (ae ao) wr w2:=by
 have el:(L++[x]).length=n+1:=by rw[hn];simp
 have ei:ints (L++[x])=ints L++[.int .i64 x]:=by simp[ints]
 refine⟨⟨by rw[el,ei];exact A.own,λy hy=>?_,by rw[el];exact A.le,A.max,A.nil⟩,((Fr.refl _ wr).alloc _).trans A.fr⟩;rcases A.at_ y hy with k|k
 ·exact h.new y k
 ·rw[k,eZ];omega
theorem dP.ri {w wr:World} {ao:Option Addr} {cap:Nat} {L:List Nat} (h:dP w wr ao cap L):Ri wr ao cap L:=⟨Cx h.own,h.le,h.max,h.nil⟩
theorem St.up {w wr w2:World} {R p:Nat} {F S:List Nat} {bs out:List UInt8} {at_ a1 oc most:Nat} {oa:Option Addr} (h0:St w R p F bs at_ out oa oc most) (h:St wr R p F bs a1 out oa oc most) (f:Fr S wr w2) (hS:∀x∈S,w.heap.size<=x):St w2 R p F bs a1 out oa oc most:=
 h.fr f (λhR=>by have:=hS R hR;have:=lt_of_block h0.box;omega) (λx hx WH=>by have:=hS x WH;have:=h0.low x hx;omega) (λx hx WH=>by have:=hS x WH;have:=qR h0.own (pI hx);omega)
theorem dP.last {w wr:World} {ao:Option Addr} {cap:Nat} {L:List Nat} (h:dP w wr ao cap L) (h0:0<L.length):∃g,ao=some ⟨g,0,none⟩/\wr.cell? ⟨g,L.length-1,none⟩=some (.int .i64 (L.getLast?.getD 0:Nat)):=by
 obtain⟨h1,h2⟩:=h.own;rcases h2 with⟨h2,_⟩|⟨g,aQ,cur,h2,hb,hg,hn,hm,hs,ht⟩
 ·simp only[lN]at h2;omega
 ·simp only[lN]at h2;refine⟨g,h2.1,?_⟩;rw[cell_of hg,<-qW];have e1:(cur.toList.take (L.length*1))[L.length-1]?=(ints L)[L.length-1]?:=by rw[ht]
  rw[oY,if_pos (by omega)]at e1;rw[e1,List.getLast?_eq_getElem?,ints,j5,bO (show L.length-1<L.length by omega)];rfl
theorem dP.cell {w wr:World} {ao:Option Addr} {cap:Nat} {L:List Nat} (h:dP w wr ao cap L) {i:Nat} (h0:i<L.length):∃g,ao=some ⟨g,0,none⟩/\wr.cell? ⟨g,i,none⟩=some (.int .i64 (ai L i:Nat)):=by
 obtain⟨h1,h2⟩:=h.own;rcases h2 with⟨h2,_⟩|⟨g,aQ,cur,h2,hb,hg,hn,hm,hs,ht⟩
 ·simp only[lN]at h2;omega
 ·simp only[lN]at h2;refine⟨g,h2.1,?_⟩;rw[cell_of hg,<-qW];have e1:(cur.toList.take (L.length*1))[i]?=(ints L)[i]?:=by rw[ht]
  rw[oY,if_pos (by omega)]at e1;rw[e1,ints,j5,bO h0,ai,bO h0];rfl
def ik (w:World) (R p:Nat) (F:List Nat) (bs out:List UInt8) (oa:Option Addr) (oc most n:Nat) (m:Except Nat (List Nat×Nat)) (e:Ending) (w':World):Prop:=
 (∃c,m = .error c/\0<c/\c<100/\e = .returned (.tuple #[.slice none 0 0,.int .i64 (c:Nat)])/\Fr (R::p::ae oa) w w')\/
 (∃L a ao cap,m = .ok (L,a)/\e = .returned (.tuple #[.slice ao L.length cap,.int .i64 0])/\St w' R p F bs a out oa oc most/\Fr [p] w w'/\dP w w' ao cap L/\L.length=n/\∀x∈L,x<=15)
theorem MJ (R p P n:Nat) (F:List Nat) (bs out:List UInt8) (ls:List Nat) (at_ oc most:Nat) (oa:Option Addr) (w:World) (h:St w R p F bs at_ out oa oc most) (hT:Tb w P ls (R::p::ae oa)) (hl:ls.length<=19) (hn:n<=400) :
  Calls Tryz.prog 191 #[.pointer (some ⟨R,0,none⟩),.pointer (some ⟨P,0,none⟩),.int .i64 n] w (ik w R p F bs out oa oc most n (cR bs ls n (n+1) [] at_)):=by
 obtain⟨M,hM⟩:=ah (cR bs ls n (n+1) [] at_);rw[<-hM];have H:=aF h hT hM hl;clear h hT hM hl;go_enter Tryz.func191,Tryz.ntmps191;go_wp2;go_loopg [6,7,8,9,10,11,12,13,14,79] (n+1) (λk s6 s7 s8 s9 s10 s11 s12 s13 s14 s79 wr=>∃(l a1:Nat) (L:List Nat) (ao:Option Addr) (cap:Nat),s8 = .slice ao l cap/\l=L.length/\l<=n/\n+1<=l+k/\St wr R p F bs a1 out oa oc most/\Fr [p] w wr/\dP w wr ao cap L/\cR bs ls n k L a1=M/\∀x∈L,x<=15);case atStart=>exact⟨0,at_,[],none,0,rfl,rfl,by omega,by omega,H.o0,.refl _ _,.start _ _,H.o2.symm,by simp⟩
 case round=>
  obtain⟨l,a1,L,ao,cap,rfl,SC,rk,zg,az,hf,aA,eC,sN⟩:=hrel;obtain⟨k,rfl⟩:∃k,gk=k+1:=⟨gk-1,by omega⟩;have c0:=cell_of az.box 0;simp only[bw,aV,bN]at c0;by_cases aY:l<n
  ·have HJ:=bJ az hf aA eC sN SC;clear az hf aA eC sN SC;have hp:∀x∈[p],x<w.heap.size:=λx hx=>by simp at hx;rw[hx];exact H.o0.low _ H.o0.pF.1
   have HP:=af hp;clear hp;go_upto_block 3 with (first
    | (go_at_call 206;refine (Dv R p P F bs out ls a1 oc most oa wr HJ.out.1 (H.o1.fr HJ.out.2.1 (by simp))).mono ?_;rintro e w2 (⟨v2,c,hm,bW,cL,rfl,f1⟩|⟨s,a2,hm,rfl,s2,f2⟩);rotate_left;(have W9:=(Kp hm).1;have hls:=H.l3;rcases (show s<16\/(s=16/\l=0)\/(s=16/\0<l)\/s=17\/s=18 by omega) with hs|⟨rfl,rfl⟩|⟨rfl,Ep⟩|rfl|rfl);all_goals (try (have T2:Calls Tryz.prog 134 #[.pointer (some ⟨R,0,none⟩),.int .i64 2] w2 (nU w2 R p F bs out oa oc most (bC bs a2 2)):=Fm R p F bs out a2 oc most 2 oa w2 s2 (by decide);have T3:Calls Tryz.prog 134 #[.pointer (some ⟨R,0,none⟩),.int .i64 3] w2 (nU w2 R p F bs out oa oc most (bC bs a2 3)):=Fm R p F bs out a2 oc most 3 oa w2 s2 (by decide);have T7:Calls Tryz.prog 134 #[.pointer (some ⟨R,0,none⟩),.int .i64 7] w2 (nU w2 R p F bs out oa oc most (bC bs a2 7)):=Fm R p F bs out a2 oc most 7 oa w2 s2 (by decide);have K2:=cz hm s2 f2 T2 T3 T7 (HJ.out.2.2.1.fr f2 HP.out);clear hm s2 f2 T2 T3 T7 W9 hls));all_goals (first|(have _t:=Ep;obtain⟨g,rfl,hce⟩:=K2.out.2.2.2.2.2.2.last (by rw[<-HJ.out.2.2.2.2.2];exact Ep);rw[<-HJ.out.2.2.2.2.2]at hce)|skip))
    | (go_at_call 134;(first|with_reducible refine K2.out.2.2.2.1.mono ?_|with_reducible refine K2.out.2.2.2.2.1.mono ?_|with_reducible refine K2.out.2.2.2.2.2.1.mono ?_);rintro e w3 (⟨v3,c,hm,bW,cL,rfl,f1⟩|⟨v,a3,hm,rfl,s3,f3⟩);all_goals (try (replace hce:=f3.cell hce (by have:=K2.out.2.2.2.2.2.2.new g (by simp[ae]);have:=HP.out p (by simp);simp;omega);have sD:((l:Int)==0)=false:=by simp;omega));all_goals (try (have CP:=Al hm;have K3:=au hm s3 f3;clear hm s3 f3)))
    | (at_builtin;go_loud (refine iq huf.oX rfl _ _ rfl (.slice ao l cap) l (ints L) (ae ao) rfl (dw ao l cap) (by have:=dr K2.out.2.2.2.2.2.2.own ((Fr.refl [] w2).alloc (.cells #[.int .i64 s] 3 (0,0))) (by simp);rwa [<-HJ.out.2.2.2.2.2]at this) (some ⟨w2.heap.size,0,none⟩) 1 1 [.int .i64 s] (by first|rfl|simp) (aw _) (λh=>by cases h) (ny _ _ _ _ (bx _ _)) rfl (by intro u hu;simp only[iQ]at hu;rw[hu];rfl) (by omega) (by unfold maxLen;omega) ?_);intro cX dh w4 A4;have HA:=af A4;clear A4))
   ·go_roundg k;case measure=>omega
    case rel=>
     have hp:=HP.out;have hA:=HJ.out.2.2.1.fr K2.out.2.2.1 hp;have gQ:=hA.app (n:=l) HJ.out.2.2.2.2.2 (HJ.out.2.1.trans K2.out.2.2.1).size HA.out;refine⟨l+1,a2,L++[s],cX,dh,rfl,by rw[aK,<-HJ.out.2.2.2.2.2];rfl,by omega,by omega,H.o0.up K2.out.2.1 gQ.2 (λx hx=>hA.new x hx),(HJ.out.2.1.trans K2.out.2.2.1).step gQ.2 (λx hx=>.inr (hA.new x hx)),gQ.1,?_,?_⟩
     ·rw[<-HJ.out.2.2.2.1,qx4 (by rw[<-HJ.out.2.2.2.2.2];exact aY) K2.out.1 hs]
     ·intro x hx;rcases jy.1 hx with h1|h1
      ·exact HJ.out.2.2.2.2.1 x h1
      ·simp at h1;omega
   ·go_ret2;exact .inl ⟨c,by rw[<-HJ.out.2.2.2.1,RA (by rw[<-HJ.out.2.2.2.2.2];exact aY) K2.out.1 (by decide) hm],bW,cL,rfl,((HJ.out.2.1.trans K2.out.2.2.1).mono (by simp)).trans f1⟩
   ·go_ret2;exact .inl ⟨3,by rw[<-HJ.out.2.2.2.1,Rz (by rw[<-HJ.out.2.2.2.2.2];exact aY) K2.out.1 (by decide) K3.o0 (.inl ⟨rfl,wk (HJ.out.2.2.2.2.2).symm⟩)],by decide,by decide,rfl,((HJ.out.2.1.trans K2.out.2.2.1).trans K3.l2).mono (by simp)⟩
   ·go_ret2;exact .inl ⟨c,by rw[<-HJ.out.2.2.2.1,RA (by rw[<-HJ.out.2.2.2.2.2];exact aY) K2.out.1 (by decide) hm],bW,cL,rfl,((HJ.out.2.1.trans K2.out.2.2.1).mono (by simp)).trans f1⟩
   ·go_ret2;exact .inl ⟨3,by rw[<-HJ.out.2.2.2.1,Rz (by rw[<-HJ.out.2.2.2.2.2];exact aY) K2.out.1 (by decide) K3.o0 (.inr (by rw[<-HJ.out.2.2.2.2.2];show n-l<3+v;omega))],by decide,by decide,rfl,((HJ.out.2.1.trans K2.out.2.2.1).trans K3.l2).mono (by simp)⟩
   ·obtain⟨t,ht⟩:=ah (3+v);have et:(3:Int)+(v:Nat)=(t:Nat):=by rw[ht];omega
    rw[et];have Sl:t<=n-l:=by omega
    obtain⟨x,hx⟩:=ah (L.getLast?.getD 0);have iV:x<=15:=by rw[hx,List.getLast?_eq_getElem?,bO (show L.length-1<L.length by have:=HJ.out.2.2.2.2.2;omega)];exact HJ.out.2.2.2.2.1 _ (vJ _)
    have hE:cR bs ls n k (L++List.replicate t x) a3=M:=by
     rw[<-HJ.out.2.2.2.1,Vs (s:=16) (v:=v) (a2:=a3) (by rw[<-HJ.out.2.2.2.2.2];exact aY) K2.out.1 (by decide) K3.o0 (by
      rintro (⟨_,h1⟩|h1)
      ·have:=HJ.out.2.2.2.2.2;rw[h1]at this;simp at this;omega
      ·rw[<-HJ.out.2.2.2.2.2]at h1;have h2:n-l<3+v:=h1;omega),ht,hx]
     rfl
    rw[<-hx];have uM:0<t:=by omega
    have HB:=aP hE iV (K2.out.2.2.2.2.2.2.fr K3.l2 HP.out) ((HJ.out.2.1.trans K2.out.2.2.1).trans K3.l2) ht;clear hE iV ht et CP c0 hx hce sD;go_wp2;go_loopg [8,79] t (λk2 s8 s79 wr=>∃(j:Nat) (cX:Option Addr) (dh:Nat),s79 = .int .i64 (j:Nat)/\s8 = .slice cX (l+j) dh/\j+k2=t/\St wr R p F bs a3 out oa oc most/\Fr [p] w wr/\dP w wr cX dh (L++List.replicate j x));case atStart=>exact⟨0,(some ⟨g,0,none⟩),cap,rfl,rfl,by omega,K3.o1,HB.o3,by simpa using HB.o2⟩
    case round=>
     obtain⟨j,cX,dh,rfl,rfl,I4,jV,rr,how⟩:=hrel;have kT:l+j=(L++List.replicate j x).length:=by rw[aK,Hy,<-HJ.out.2.2.2.2.2]
     by_cases hj:j<t
     ·obtain⟨k2,rfl⟩:∃k2,gk=k2+1:=⟨gk-1,by omega⟩;have HI:=aF jV rr how kT;clear jV rr how kT;go_wp2_with (at_builtin;go_loud (refine iq huf.oX rfl _ _ rfl (.slice cX (l+j) dh) (l+j) (ints (L++List.replicate j x)) (ae cX) rfl (dw cX (l+j) dh) (by have:=dr HI.o2.own ((Fr.refl [] wr).alloc (.cells #[.int .i64 x] 3 (0,0))) (by simp);rwa [<-HI.l3]at this) (some ⟨wr.heap.size,0,none⟩) 1 1 [.int .i64 x] (by first|rfl|simp) (aw _) (λh=>by cases h) (ny _ _ _ _ (bx _ _)) rfl (by intro u hu;simp only[iQ]at hu;rw[hu];rfl) (by omega) (by unfold maxLen;omega) ?_);intro vB Ca w5 A5;have HA:=af A5;clear A5);go_roundg k2;case measure=>omega
      case rel=>have gQ:=HI.o2.app (n:=l+j) (x:=x) HI.l3 HI.o1.size HA.out;refine⟨j+1,vB,Ca,by go_num,rfl,by omega,H.o0.up HI.o0 gQ.2 (λy hy=>HI.o2.new y hy),HI.o1.step gQ.2 (λy hy=>.inr (HI.o2.new y hy)),?_⟩;rw[Hx,<-gH];exact gQ.1
     ·obtain rfl:j=t:=by omega
      have HI:=aF jV rr how kT;clear jV rr how kT;go_wp2;go_roundg k;case measure=>omega
      case rel=>
       refine⟨l+j,a3,L++List.replicate j x,cX,dh,rfl,HI.l3,by omega,by omega,HI.o0,HI.o1,HI.o2,HB.o0,?_⟩;intro y hy;rcases jy.1 hy with h1|h1
       ·exact HJ.out.2.2.2.2.1 y h1
       ·rw[(Ko.1 h1).2];exact HB.o1
   ·go_ret2;exact .inl ⟨c,by rw[<-HJ.out.2.2.2.1,RA (by rw[<-HJ.out.2.2.2.2.2];exact aY) K2.out.1 (by decide) hm],bW,cL,rfl,((HJ.out.2.1.trans K2.out.2.2.1).mono (by simp)).trans f1⟩
   ·go_ret2;exact .inl ⟨3,by rw[<-HJ.out.2.2.2.1,Rz (by rw[<-HJ.out.2.2.2.2.2];exact aY) K2.out.1 (by decide) K3.o0 (.inr (by rw[<-HJ.out.2.2.2.2.2];show n-l<3+v;omega))],by decide,by decide,rfl,((HJ.out.2.1.trans K2.out.2.2.1).trans K3.l2).mono (by simp)⟩
   ·obtain⟨t,ht⟩:=ah (3+v);have et:(3:Int)+(v:Nat)=(t:Nat):=by rw[ht];omega
    rw[et];have Sl:t<=n-l:=by omega
    have hE:cR bs ls n k (L++List.replicate t 0) a3=M:=by
     rw[<-HJ.out.2.2.2.1,Vs (s:=17) (v:=v) (a2:=a3) (by rw[<-HJ.out.2.2.2.2.2];exact aY) K2.out.1 (by decide) K3.o0 (by
      rintro (⟨h1,_⟩|h1)
      ·cases h1
      ·rw[<-HJ.out.2.2.2.2.2]at h1;have h2:n-l<3+v:=h1;omega),ht]
     rfl
    have iV:0<=15:=by decide
    have uM:0<t:=by omega
    have HB:=aP hE iV (K2.out.2.2.2.2.2.2.fr K3.l2 HP.out) ((HJ.out.2.1.trans K2.out.2.2.1).trans K3.l2) ht;clear hE iV ht et CP c0;go_wp2;go_loopg [8,79] t (λk2 s8 s79 wr=>∃(j:Nat) (cX:Option Addr) (dh:Nat),s79 = .int .i64 (j:Nat)/\s8 = .slice cX (l+j) dh/\j+k2=t/\St wr R p F bs a3 out oa oc most/\Fr [p] w wr/\dP w wr cX dh (L++List.replicate j 0));case atStart=>exact⟨0,ao,cap,rfl,rfl,by omega,K3.o1,HB.o3,by simpa using HB.o2⟩
    case round=>
     obtain⟨j,cX,dh,rfl,rfl,I4,jV,rr,how⟩:=hrel;have kT:l+j=(L++List.replicate j 0).length:=by rw[aK,Hy,<-HJ.out.2.2.2.2.2]
     by_cases hj:j<t
     ·obtain⟨k2,rfl⟩:∃k2,gk=k2+1:=⟨gk-1,by omega⟩;have HI:=aF jV rr how kT;clear jV rr how kT;go_wp2_with (at_builtin;go_loud (refine iq huf.oX rfl _ _ rfl (.slice cX (l+j) dh) (l+j) (ints (L++List.replicate j 0)) (ae cX) rfl (dw cX (l+j) dh) (by have:=dr HI.o2.own ((Fr.refl [] wr).alloc (.cells #[.int .i64 0] 3 (0,0))) (by simp);rwa [<-HI.l3]at this) (some ⟨wr.heap.size,0,none⟩) 1 1 [.int .i64 0] (by first|rfl|simp) (aw _) (λh=>by cases h) (ny _ _ _ _ (bx _ _)) rfl (by intro u hu;simp only[iQ]at hu;rw[hu];rfl) (by omega) (by unfold maxLen;omega) ?_);intro vB Ca w5 A5;have HA:=af A5;clear A5);go_roundg k2;case measure=>omega
      case rel=>have gQ:=HI.o2.app (n:=l+j) (x:=0) HI.l3 HI.o1.size HA.out;refine⟨j+1,vB,Ca,by go_num,rfl,by omega,H.o0.up HI.o0 gQ.2 (λy hy=>HI.o2.new y hy),HI.o1.step gQ.2 (λy hy=>.inr (HI.o2.new y hy)),?_⟩;rw[Hx,<-gH];exact gQ.1
     ·obtain rfl:j=t:=by omega
      have HI:=aF jV rr how kT;clear jV rr how kT;go_wp2;go_roundg k;case measure=>omega
      case rel=>
       refine⟨l+j,a3,L++List.replicate j 0,cX,dh,rfl,HI.l3,by omega,by omega,HI.o0,HI.o1,HI.o2,HB.o0,?_⟩;intro y hy;rcases jy.1 hy with h1|h1
       ·exact HJ.out.2.2.2.2.1 y h1
       ·rw[(Ko.1 h1).2];exact HB.o1
   ·go_ret2;exact .inl ⟨c,by rw[<-HJ.out.2.2.2.1,RA (by rw[<-HJ.out.2.2.2.2.2];exact aY) K2.out.1 (by decide) hm],bW,cL,rfl,((HJ.out.2.1.trans K2.out.2.2.1).mono (by simp)).trans f1⟩
   ·go_ret2;exact .inl ⟨3,by rw[<-HJ.out.2.2.2.1,Rz (by rw[<-HJ.out.2.2.2.2.2];exact aY) K2.out.1 (by decide) K3.o0 (.inr (by rw[<-HJ.out.2.2.2.2.2];show n-l<11+v;omega))],by decide,by decide,rfl,((HJ.out.2.1.trans K2.out.2.2.1).trans K3.l2).mono (by simp)⟩
   ·obtain⟨t,ht⟩:=ah (11+v);have et:(11:Int)+(v:Nat)=(t:Nat):=by rw[ht];omega
    rw[et];have Sl:t<=n-l:=by omega
    have hE:cR bs ls n k (L++List.replicate t 0) a3=M:=by
     rw[<-HJ.out.2.2.2.1,Vs (s:=18) (v:=v) (a2:=a3) (by rw[<-HJ.out.2.2.2.2.2];exact aY) K2.out.1 (by decide) K3.o0 (by
      rintro (⟨h1,_⟩|h1)
      ·cases h1
      ·rw[<-HJ.out.2.2.2.2.2]at h1;have h2:n-l<11+v:=h1;omega),ht]
     rfl
    have iV:0<=15:=by decide
    have uM:0<t:=by omega
    have HB:=aP hE iV (K2.out.2.2.2.2.2.2.fr K3.l2 HP.out) ((HJ.out.2.1.trans K2.out.2.2.1).trans K3.l2) ht;clear hE iV ht et CP c0;go_wp2;go_loopg [8,79] t (λk2 s8 s79 wr=>∃(j:Nat) (cX:Option Addr) (dh:Nat),s79 = .int .i64 (j:Nat)/\s8 = .slice cX (l+j) dh/\j+k2=t/\St wr R p F bs a3 out oa oc most/\Fr [p] w wr/\dP w wr cX dh (L++List.replicate j 0));case atStart=>exact⟨0,ao,cap,rfl,rfl,by omega,K3.o1,HB.o3,by simpa using HB.o2⟩
    case round=>
     obtain⟨j,cX,dh,rfl,rfl,I4,jV,rr,how⟩:=hrel;have kT:l+j=(L++List.replicate j 0).length:=by rw[aK,Hy,<-HJ.out.2.2.2.2.2]
     by_cases hj:j<t
     ·obtain⟨k2,rfl⟩:∃k2,gk=k2+1:=⟨gk-1,by omega⟩;have HI:=aF jV rr how kT;clear jV rr how kT;go_wp2_with (at_builtin;go_loud (refine iq huf.oX rfl _ _ rfl (.slice cX (l+j) dh) (l+j) (ints (L++List.replicate j 0)) (ae cX) rfl (dw cX (l+j) dh) (by have:=dr HI.o2.own ((Fr.refl [] wr).alloc (.cells #[.int .i64 0] 3 (0,0))) (by simp);rwa [<-HI.l3]at this) (some ⟨wr.heap.size,0,none⟩) 1 1 [.int .i64 0] (by first|rfl|simp) (aw _) (λh=>by cases h) (ny _ _ _ _ (bx _ _)) rfl (by intro u hu;simp only[iQ]at hu;rw[hu];rfl) (by omega) (by unfold maxLen;omega) ?_);intro vB Ca w5 A5;have HA:=af A5;clear A5);go_roundg k2;case measure=>omega
      case rel=>have gQ:=HI.o2.app (n:=l+j) (x:=0) HI.l3 HI.o1.size HA.out;refine⟨j+1,vB,Ca,by go_num,rfl,by omega,H.o0.up HI.o0 gQ.2 (λy hy=>HI.o2.new y hy),HI.o1.step gQ.2 (λy hy=>.inr (HI.o2.new y hy)),?_⟩;rw[Hx,<-gH];exact gQ.1
     ·obtain rfl:j=t:=by omega
      have HI:=aF jV rr how kT;clear jV rr how kT;go_wp2;go_roundg k;case measure=>omega
      case rel=>
       refine⟨l+j,a3,L++List.replicate j 0,cX,dh,rfl,HI.l3,by omega,by omega,HI.o0,HI.o1,HI.o2,HB.o0,?_⟩;intro y hy;rcases jy.1 hy with h1|h1
       ·exact HJ.out.2.2.2.2.1 y h1
       ·rw[(Ko.1 h1).2];exact HB.o1
   ·go_ret2;exact .inl ⟨c,by rw[<-HJ.out.2.2.2.1,qx3 (by rw[<-HJ.out.2.2.2.2.2];exact aY) hm],bW,cL,rfl,(HJ.out.2.1.mono (by simp)).trans f1⟩
  ·obtain rfl:l=n:=by omega
   have e1:cR bs ls l (k+1) L a1 = .ok (L,a1):=qx5 (by omega);have HJ:=cz az hf aA eC sN SC e1;clear az hf aA eC sN SC e1 aY rk;go_wp2;go_ret2;exact .inr ⟨L,a1,ao,cap,by rw[<-HJ.out.2.2.2.1,HJ.out.2.2.2.2.2.2],by rw[<-HJ.out.2.2.2.2.2.1];rfl,HJ.out.1,HJ.out.2.1,HJ.out.2.2.1,HJ.out.2.2.2.2.2.1.symm,HJ.out.2.2.2.2.1⟩
theorem zfd {i:Nat} (h:i<144):kD i=8:=by unfold kD;rw[if_pos h]
theorem zfc {i:Nat} (h1:¬i<144) (h:i<256):kD i=9:=by unfold kD;rw[if_neg h1,if_pos h]
theorem zfb {i:Nat} (h1:¬i<144) (h2:¬i<256) (h:i<280):kD i=7:=by unfold kD;rw[if_neg h1,if_neg h2,if_pos h]
theorem zfa {i:Nat} (h1:¬i<144) (h2:¬i<256) (h:¬i<280):kD i=8:=by unfold kD;rw[if_neg h1,if_neg h2,if_neg h]
theorem zd6 (i:Nat):kD i<=15:=by unfold kD;split;omega;split;omega;split<;>omega
theorem zbo:∀l∈fixed 288,l<=15:=λl hl=>by obtain⟨i,_,rfl⟩:=jR.1 hl;exact zd6 i
theorem qq0:weight (fixed 288)=32768:=by decide +kernel
theorem V1:weight (List.replicate 32 5)=32768:=by decide +kernel
theorem zbp:(List.range 32).map (λ_=>5)=List.replicate 32 5:=by decide +kernel
theorem Rs {i v s:Nat} (hv:kD i=v):(if s=i then v else if s<i then kD s else 0)=if s<i+1 then kD s else 0:=by
 by_cases e:s=i
 ·rw[if_pos e,if_pos (by omega),e,hv]
 ·rw[if_neg e];by_cases e2:s<i
  ·rw[if_pos e2,if_pos (by omega)]
  ·rw[if_neg e2,if_neg (by omega)]
theorem Mi {w:World} {P D B E:Nat} {ls X:List Nat} {first:Nat->Nat} {sa:Nat->Option Addr} {sc:Nat->Nat} (h:Qd w P D ls first sa sc B E) (hE:E<=w.heap.size) (hX:∀x∈X,x<B):Tb w P ls X:=
 ⟨D,first,sa,sc,h.tab,eT h.at_.2 hE,λhP=>by have:=hX P hP;have:=h.at_.1;omega,λl hl x hx=>⟨eT (h.row l hl x hx).2 hE,λhxX=>by have:=hX x hxX;have:=(h.row l hl x hx).1;omega⟩⟩
theorem St.under {w:World} {R p:Nat} {F:List Nat} {bs out:List UInt8} {at_ oc most:Nat} {oa:Option Addr} (h:St w R p F bs at_ out oa oc most):∀x∈R::p::ae oa,x<w.heap.size:=λx hx=>by
 simp only[gw]at hx;rcases hx with rfl|rfl|hx
 ·exact lt_of_block h.box
 ·exact h.low _ h.pF.1
 ·exact qR h.own (pI hx)
theorem qyj (R p:Nat) (F:List Nat) (bs out:List UInt8) (at_ oc most:Nat) (oa:Option Addr) (w:World) (h:St w R p F bs at_ out oa oc most) :
  Calls Tryz.prog 167 #[.pointer (some ⟨R,0,none⟩)] w (C9 w R p F bs oa most (AU bs most out at_)):=by
 obtain⟨hu,⟨ti,iK,vL,fZ,sJ⟩,tY,hp⟩:=huf.oX;have H:=af h;clear h;go_enter Tryz.func167,Tryz.ntmps167;obtain⟨Q,hQ⟩:=ah w.heap.size;have HQ:=af hQ;clear hQ;go_upto_block 0 with (refine wpList_make_full _ rfl _ _ 28 rfl 0 3 ti (.int .i64 0) 1 hu iK vL fZ .i64 .i64 288 288 288 rfl rfl rfl rfl (by rw[sJ];omega) (by unfold maxLen;omega) (by omega) ?_;intro w1 MY Gz;have H1:=ak MY Gz;clear MY Gz);rw[<-HQ.out]at H1 ⊢;have uP:Ow w1 Q 288 (λ_=>0):=Q5 H1.o0;have f1:Fr [] w w1:=(Fr.refl [] w).grown H1.l1 (λk hk=>by cases hk);have HS:=ak uP f1;clear uP f1 H1;go_wp2;go_loopg [4,14,20,26,32] 288 (λk s4 s14 s20 s26 s32 wr=>∃i:Nat,s14 = .int .i64 (i:Nat)/\i+k=288/\Ow wr Q 288 (λj=>if j<i then kD j else 0)/\Fr [] w wr);case atStart=>exact⟨0,rfl,rfl,HS.o0.congr λs _=>by simp,HS.l1⟩
 case round=>
  obtain⟨i,rfl,bU,how,hf⟩:=hrel;by_cases hi:i<288
  ·obtain⟨k,rfl⟩:∃k,gk=k+1:=⟨gk-1,by omega⟩;have c1:=how.cell hi;have z1:=how.frozen i;have HI:=ak how hf;clear how hf;go_wp2
   ·go_roundg k;case measure=>omega
    case rel=>exact⟨i+1,by go_num,by omega,(HI.out.1.set hi 8).congr (λs _=>Rs (zfd (by omega))),HI.out.2.step ((Fr.refl [Q] wr).setCell (by simp) _) (λz hz=>.inr (by simp at hz;rw[hz,HQ.out];exact aw _))⟩
   ·go_roundg k;case measure=>omega
    case rel=>exact⟨i+1,by go_num,by omega,(HI.out.1.set hi 9).congr (λs _=>Rs (zfc (by omega) (by omega))),HI.out.2.step ((Fr.refl [Q] wr).setCell (by simp) _) (λz hz=>.inr (by simp at hz;rw[hz,HQ.out];exact aw _))⟩
   ·go_roundg k;case measure=>omega
    case rel=>exact⟨i+1,by go_num,by omega,(HI.out.1.set hi 7).congr (λs _=>Rs (zfb (by omega) (by omega) (by omega))),HI.out.2.step ((Fr.refl [Q] wr).setCell (by simp) _) (λz hz=>.inr (by simp at hz;rw[hz,HQ.out];exact aw _))⟩
   ·go_roundg k;case measure=>omega
    case rel=>exact⟨i+1,by go_num,by omega,(HI.out.1.set hi 8).congr (λs _=>Rs (zfa (by omega) (by omega) (by omega))),HI.out.2.step ((Fr.refl [Q] wr).setCell (by simp) _) (λz hz=>.inr (by simp at hz;rw[hz,HQ.out];exact aw _))⟩
  ·obtain rfl:i=288:=by omega
   have OH:Ow wr Q 288 kD:=how.congr λs hs=>if_pos hs
   obtain⟨w2,rfl⟩:∃w2:World,w2=wr:=⟨_,rfl⟩;obtain⟨Q2,SX⟩:=ah w2.heap.size;have HI:=au OH hf SX;clear how hf OH SX bU;go_upto_block 3 with (refine wpList_make_full _ rfl _ _ 28 rfl 0 3 ti (.int .i64 0) 1 hu iK vL fZ .i64 .i64 32 32 32 rfl rfl rfl rfl (by rw[sJ];omega) (by unfold maxLen;omega) (by omega) ?_;intro w3 kB iM;have H3:=ak kB iM;clear kB iM);rw[<-HI.out.2.2]at H3 ⊢;have hq3:Ow w3 Q2 32 (λ_=>0):=Q5 H3.o0;have f3:Fr [] w2 w3:=(Fr.refl [] w2).grown H3.l1 (λk hk=>by cases hk);have HT:=au hq3 f3 (HI.out.1.fr f3 (by simp));clear hq3 f3 H3 hu iK vL fZ sJ tY hp;go_wp2;go_loopg [6,42] 32 (λk s6 s42 wr=>∃i:Nat,s42 = .int .i64 (i:Nat)/\i+k=32/\Ow wr Q2 32 (λj=>if j<i then 5 else 0)/\Ow wr Q 288 kD/\Fr [] w wr);case atStart=>exact⟨0,rfl,rfl,HT.o0.congr λs _=>by simp,HT.l2,HI.out.2.1.trans HT.o1⟩
   case round=>
    obtain⟨j,rfl,eG,how,Ee,hf⟩:=hrel;have hQQ:Q<Q2:=by obtain⟨A,hA,_⟩:=HI.out.1;rw[HI.out.2.2];exact lt_of_block hA
    by_cases hj:j<32
    ·obtain⟨k,rfl⟩:∃k,gk=k+1:=⟨gk-1,by omega⟩;have c1:=how.cell hj;have z1:=how.frozen j;have HJ:=au how Ee hf;clear how Ee hf;go_wp2;go_roundg k;case measure=>omega
     case rel=>exact⟨j+1,by go_num,by omega,(HJ.o0.set hj 5).congr (λs _=>by
      by_cases e:s=j
      ·rw[if_pos e,if_pos (by omega)]
      ·rw[if_neg e]
       by_cases e2:s<j
       ·rw[if_pos e2,if_pos (by omega)]
       ·rw[if_neg e2,if_neg (by omega)]),HJ.o1.fr ((Fr.refl [Q2] wr).setCell (by simp) _) (by simp;omega),HJ.l2.step ((Fr.refl [Q2] wr).setCell (by simp) _) (λz hz=>.inr (by simp at hz;rw[hz,HI.out.2.2];exact HI.out.2.1.size))⟩
    ·obtain rfl:j=32:=by omega
     have h5:Ow wr Q2 32 (λ_=>5):=how.congr λs hs=>if_pos hs
     have r1:Ri wr (some ⟨Q,0,none⟩) 288 (fixed 288):=⟨Ee.cs,by decide +kernel,by decide,λh=>by cases h⟩;have r2:Ri wr (some ⟨Q2,0,none⟩) 32 (List.replicate 32 5):=⟨by have:=h5.cs;rw[zbp]at this;exact this,by decide,by decide,λh=>by cases h⟩;obtain⟨wo,rfl⟩:∃wo:World,wo=wr:=⟨_,rfl⟩;have N1:Calls Tryz.prog 187 #[.slice (some ⟨Q,0,none⟩) 288 288] wo (tP wo (fixed 288)):=Up (some ⟨Q,0,none⟩) 288 (fixed 288) wo r1 zbo (by decide +kernel) (by rw[qq0];exact aw _);have N2:∀w5,Fr [] wo w5->Calls Tryz.prog 187 #[.slice (some ⟨Q2,0,none⟩) 32 32] w5 (tP w5 (List.replicate 32 5)):=λw5 f5=>Up (some ⟨Q2,0,none⟩) 32 (List.replicate 32 5) w5 (r2.fr f5) (λl hl=>by rw[(Ko.1 hl).2];decide) (by decide) (by rw[V1];exact aw _)
     have HN:=au N1 N2 hf;clear how Ee hf h5 r1 r2 N1 N2 hj eG;go_wp2_with (first|(go_at_call 187;(with_reducible refine HN.o0.mono ?_);rintro e w4 ⟨P,D,first,sa,sc,rfl,nL,f4⟩;have K4:=ak nL f4;clear nL f4)|(go_at_call 187;(with_reducible refine (HN.o1 _ K4.l1).mono ?_);rintro e w5 ⟨P5,D5,YW,sa5,sc5,rfl,nL,f5⟩;have K5:=ak nL f5;clear nL f5)|(go_at_call 188;have hu:=H.out.under;go_loud (refine (ql7 R p P P5 F bs out (fixed 288) (List.replicate 32 5) at_ oc most oa w5 (H.out.dF ((HN.l2.trans K4.l1).trans K5.l1)) ((Mi K4.o0 (aw _) (λx hx=>eT (hu x hx) HN.l2.size)).fr K5.l1 (by simp)) (Mi K5.o0 (aw _) (λx hx=>eT (hu x hx) (HN.l2.trans K4.l1).size))).mono ?_);rintro e w6 (⟨c,hm,bW,cL,rfl,f6⟩|⟨o6,a6,DP,DN,hm,rfl,s6,f6⟩);all_goals (have Km:=af hm;clear hm);all_goals (try (have K6:=ak s6 f6;clear s6 f6))))
     ·go_ret;exact .inl ⟨c,Km.out,bW,cL,rfl,(((HN.l2.trans K4.l1).trans K5.l1).mono (by simp)).trans f6⟩
     ·go_ret;exact .inr ⟨o6,a6,DP,DN,Km.out,rfl,K6.o0,(Way.M1 _ _ _ _ _ ((HN.l2.trans K4.l1).trans K5.l1)).trans K6.l1⟩
end inf

end Go.Proofs.YtkmpfgpfbmeihaaGreatDoor