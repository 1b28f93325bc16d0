/-
  Texts of this proof, one behind the other: SortE, SortF, Concat, Packs, SortG, HuffCnt.
-/
import Derived.Test.YtkmpfgpfbmeihaaGreatDoorS8
set_option maxHeartbeats 16000000
set_option maxRecDepth 100000
set_option linter.unusedVariables false
set_option linter.unusedSimpArgs false
namespace Go.Proofs.YtkmpfgpfbmeihaaGreatDoor.huf
open Go Go.RowKit lib bm bl
theorem za3 (g:Nat) (T:TypeId) (A0:Array Value) (L cap a m b:Nat) (f:Nat→Mc) (w:World)
  (ih:∀(a' m' b':Nat) (f':Nat→Mc) (w':World),b'-a'<b-a→Dw w' g T A0 L f'→a'<m'→m'<b'→b'≤L→Wb f'→Srt (sg f' a' (m'-a'))→Srt (sg f' m' (b'-m'))→SymOk g T A0 L cap a' m' b' f' w')
  (h:Dw w g T A0 L f) (ham:a<m) (hne:m≠a+1) (hmb:m<b) (hne2:b≠m+1) (hbL:b≤L) (hL:L≤100000) (hwb:Wb f) (hA:Srt (sg f a (m-a))) (hB:Srt (sg f m (b-m))):SymOk g T A0 L cap a m b f w:=by
 obtain⟨s,hs⟩:=zex (a+b);obtain⟨mid,hmid⟩:=zex (s/2);obtain⟨n,hn⟩:=zex (mid+m);obtain⟨p,hp⟩:=zex (n-1);have e00:(((m:Int)-(a:Int))==1)=false:=by simp only[beq_eq_false_iff_ne];omega
 have e01:(((b:Int)-(m:Int))==1)=false:=by simp only[beq_eq_false_iff_ne];omega
 have e1:(a:Int)+(b:Int)=(s:Int):=by omega
 have e2:(s:Int)/2=(mid:Int):=by omega
 have e3:(mid:Int)+(m:Int)=(n:Int):=by omega
 have e4:(n:Int)-1=(p:Int):=by omega
 have b1:s≤200000:=by omega
 have b2:n≤200000:=by omega
 have b3:p≤200000:=by omega
 have b4:mid≤100000:=by omega
 have H:=zhd5 h hA hB hwb ih;have H0:=zhd9 ham hmb hbL hs hmid hn hp hne hne2;clear h hA hB hwb ih ham hmb hs hmid hn hp hne hne2;unfold SymOk cmpV;go_enter Tryz.func202,Tryz.ntmps202;go_upto_region 27 with fail;clear e00 e01 e1 e2 e3;obtain⟨wo,hwo0⟩:∃wo:World,wo=w:=⟨_,rfl⟩;rw[<-hwo0];have hwo:=zhd hwo0;clear hwo0;have hin:∀k:Prop,(m≤mid→k)→(¬m≤mid→k)→k:=λk h1 h2=>by by_cases h:m≤mid;exact h1 h;exact h2 h
 go_cut [140] from 138 to 141 (λs140 wz=>s140 = .bool (decide (mid<m))∧wo=wz)
 case first=>
  by_cases hm:mid<m
  ·have q1:decide ((mid:Int)<(m:Int))=true:=by simp;omega
   go_wp2;go_meet;exact⟨by simp[hm],rfl⟩
  ·have q1:decide ((mid:Int)<(m:Int))=false:=by simp;omega
   go_wp2;go_meet;exact⟨by simp[hm],rfl⟩
 case rest=>
 obtain⟨rfl,rfl⟩:=hcut;go_upto_if 140 with fail;go_cut [20,21] from 141 to 147 (λs20 s21 wz=>∃s0 r0:Nat,s20 = .int .i64 (s0:Nat)∧s21 = .int .i64 (r0:Nat)∧((s0=a∨s0+b=n)∧(r0=mid∨r0=m)∧s0≤r0∧a≤s0∧n≤s0+b∧r0≤m∧r0≤mid)∧wo=wz)
 case first=>
  obtain⟨k1,k2,k3,k4,k5,k6,k7,k8,k9⟩:=H0.out;by_cases hm:mid<m
  ·have q1:decide (mid<m)=true:=by simp;omega
   obtain⟨s0,hs0⟩:=zex (n-b);have e5:(n:Int)-(b:Int)=(s0:Int):=by omega
   have HK:=zhd7 k1 k2 k3 k4 k5 k6 hs0;clear k1 k2 k3 k4 k5 k6 k7 k8 k9 hs0;go_wp2;go_meet;obtain⟨k1,k2,k3,k4,k5,k6,hs0⟩:=HK.out;exact⟨s0,mid,rfl,rfl,by omega,rfl⟩
  ·have q1:decide (mid<m)=false:=by simp;omega
   have HK:=zhd6 k1 k2 k3 k4 k5 k6;clear k1 k2 k3 k4 k5 k6 k7 k8 k9;go_wp2;go_meet;obtain⟨k1,k2,k3,k4,k5,k6⟩:=HK.out;exact⟨a,m,rfl,rfl,by omega,rfl⟩
 case rest=>
 obtain⟨s0,r0,rfl,rfl,h0,rfl⟩:=hcut;have H1:=zhd h0;clear h0 hin;go_wp2;go_loopg [20,21,23] (r0-s0) (λk s20 s21 s23 wr=>∃i j:Nat,s20 = .int .i64 (i:Nat)∧s21 = .int .i64 (j:Nat)∧j=i+k∧s0≤i∧j≤r0∧(s0<i→(f (i-1)).worth≤(f (p-(i-1))).worth)∧(j<r0→(f (p-j)).worth<(f j).worth)∧Dw wr g T A0 L f∧Fr [g] w wr);case atStart=>obtain⟨k1,k2,k3,_⟩:=H1.out;exact⟨s0,r0,rfl,rfl,by omega,qae _,qae _,λh=>absurd h (by omega),λh=>absurd h (by omega),by rw[hwo.out];exact H.o0,by rw[hwo.out];exact .refl _ w⟩
 case round=>
  obtain⟨i,j,rfl,rfl,hk,h1,h2,h3,h4,hD,hf⟩:=hrel;by_cases hij:i<j
  ·obtain⟨s2,hs⟩:∃s,s=i+j:=⟨_,rfl⟩;obtain⟨hh,hhh⟩:=zex (s2/2);obtain⟨pc,hpc⟩:=zex (p-hh);have hb:hh<L∧pc<L∧hh≤p∧s2≤200000:=by obtain⟨k1,k2,k3,k4,k5,k6,k7,k8,k9⟩:=H0.out;obtain⟨l1,l2,l3,l4,l5,l6,l7⟩:=H1.out;omega
   obtain⟨hhL,hpL,hhp,hsb⟩:=hb;have e1:(i:Int)+(j:Int)=(s2:Int):=by omega
   have e2:(s2:Int)/2=(hh:Int):=by omega
   have e3:(p:Int)-(hh:Int)=(pc:Int):=by omega
   have hwb:=H.o3;have HI:=zhd7 hk h3 h4 hf hs hhh hpc;clear hk h3 h4 hf hs hhh hpc;have g2:decide ((L:Int)≤(hh:Int))=false:=by simp;omega
   have g4:decide ((L:Int)≤(pc:Int))=false:=by simp;omega
   have dd0:=λx=>hD.drew.cellsN (i:=pc) (by omega) x
   have dd1:=λx=>hD.drew.cellsN (i:=hh) (by omega) x
   have bb0:=hwb (pc);have bb1:=hwb (hh);obtain⟨px,hpx⟩:=zex ((f) (pc));obtain⟨r,hr⟩:=zex ((f) (hh));rw[<-hpx]at bb0 dd0;rw[<-hr]at bb1 dd1;have d00:=λx=>(dd0 x).1
   have d01:=λx=>(dd0 x).2
   have d10:=λx=>(dd1 x).1
   have d11:=λx=>(dd1 x).2
   have HP:=zhd3 hpx hr hD;clear hpx hr hD dd0 dd1;go_upto_region 35 with fail;refine qb3 14 [(false,0),(false,1),(false,2),(false,3),(false,4),(false,5),(false,6),(false,7),(false,8),(false,9),(false,10),(true,11),(false,12),(false,13)] [] (by kernel_rfl) (by kernel_rfl) (λ_ _ d _ _ h=>by cases d<;>exact h) ?_;simp only[qak,qam,qaz,qa0,qad,qaj,qbk];refine qb0 11 rfl ?_;simp only[qah,qan,qad,qaj,qak,qam];repeat (go_big_quiet_step (fail))
   refine wpQuiet_nil ?_;refine qb6 rfl ?_;intro K hK;go_wp2_with (go_at_call 160;refine (qja px r wr.drew bb0 bb1).mono ?_;rintro e w1 ⟨rfl,hf1⟩);refine hK.out _ _ hf1 ?_;clear hK K d00 d01 d10 d11;have HC:Hid (Dw w1 g T A0 L (f)∧Fr [] wr w1):=zhd ⟨HP.out.2.2.drew.fr hf1,(Fr.drew1 [] wr).trans hf1⟩;clear hf1;clear g2 g4;by_cases hpr:px.worth<r.worth
   ·have g5:decide (((px.worth:Int)-(r.worth:Int))<0)=true:=by simp;omega
    refine qb0 2 rfl ?_;simp only[qah,qan,qad,qaj,qak,qam];repeat (go_big_quiet_step (fail))
    refine wpQuiet_nil ?_;refine qcq ?_;go_wp2;go_roundg (hh-i);case measure=>have:=HI.out.1;have:=HI.out.2.2.2.2;omega
    case rel=>obtain⟨hk,h3,h4,hf,hs,hhh,hpc⟩:=HI.out;obtain⟨hp,hr,hD⟩:=HP.out;refine⟨i,hh,rfl,rfl,by omega,h1,by omega,h3,λ_=>by rw[<-hpc,<-hp,<-hr];exact hpr,HC.out.1,hf.trans (HC.out.2.mono (by simp))⟩
   ·have g5:decide (((px.worth:Int)-(r.worth:Int))<0)=false:=by simp;omega
    refine qb0 2 rfl ?_;simp only[qah,qan,qad,qaj,qak,qam];repeat (go_big_quiet_step (fail))
    refine wpQuiet_nil ?_;refine qcq ?_;go_wp2;go_roundg (j-(hh+1));case measure=>have:=HI.out.1;have:=HI.out.2.2.2.2;omega
    case rel=>obtain⟨hk,h3,h4,hf,hs,hhh,hpc⟩:=HI.out;obtain⟨hp,hr,hD⟩:=HP.out;refine⟨hh+1,j,by go_num,rfl,by omega,by omega,h2,λ_=>by rw[qgz,<-hpc,<-hp,<-hr];omega,h4,HC.out.1,hf.trans (HC.out.2.mono (by simp))⟩
  ·obtain rfl:i=j:=by omega
   obtain⟨e,he⟩:=zex (n-i);have hg:a≤i∧i≤m∧m≤e∧e≤b∧i+e=mid+m∧i≤mid∧mid≤e∧p=n-1∧mid=(a+b)/2∧a<mid∧mid<b∧(i<m→m<e→i<r0)∧(a<i→e<b→s0<i):=by obtain⟨k1,k2,k3,k4,k5,k6,k7,k8,k9⟩:=H0.out;obtain⟨l1,l2,l3,l4,l5,l6,l7⟩:=H1.out;omega
   have e1:(n:Int)-(i:Int)=(e:Int):=by omega
   have q1:i<m→m<e→(f (e-1)).worth<(f i).worth:=λx y=>by have:=h4 (hg.2.2.2.2.2.2.2.2.2.2.2.1 x y);rwa [show p-i=e-1 from by omega]at this
   have q2:a<i→e<b→(f (i-1)).worth≤(f e).worth:=λx y=>by have:=h3 (hg.2.2.2.2.2.2.2.2.2.2.2.2 x y);rwa [show p-(i-1)=e from by omega]at this
   have HI:=zhd6 q1 q2 hg hD hf he;have hml:m≤e:=hg.2.2.1;have heb:e≤b:=hg.2.2.2.1;have him:i≤m:=hg.2.1;have hai:a≤i:=hg.1;clear h3 h4 hD hf hk q1 q2 hg he h1 h2 hij;go_upto_region 39 with fail;go_cut [185] from 178 to 186 (λs185 wz=>∃c:Bool,s185 = .bool c∧(c=true↔(i<m∧m<e))∧wr=wz)
   case first=>
    by_cases c1:i<m
    ·by_cases c2:m<e
     ·have q1:decide ((i:Int)<(m:Int))=true:=by simp;omega
      have q2:decide ((m:Int)<(e:Int))=true:=by simp;omega
      go_wp2;go_meet;exact⟨_,rfl,by simp[c1,c2],rfl⟩
     ·have q1:decide ((i:Int)<(m:Int))=true:=by simp;omega
      have q2:decide ((m:Int)<(e:Int))=false:=by simp;omega
      go_wp2;go_meet;exact⟨_,rfl,by simp[c1,c2],rfl⟩
    ·have q1:decide ((i:Int)<(m:Int))=false:=by simp;omega
     go_wp2;go_meet;exact⟨_,rfl,by simp[c1],rfl⟩
   case rest=>
   obtain⟨cb,rfl,hcb,rfl⟩:=hcut;have HCB185:=zhd hcb;clear hcb;go_upto_if 185 with fail;go_cut [] from 185 to 192 (λwz=>Dw wz g T A0 L (rotf f i m e)∧Fr [g] w wz)
   case first=>
    cases cb with
    | true=>
     have c:=HCB185.out.1 rfl;have hr:=qdt g T A0 L cap i m e f (.func (.func 160) #[] #[]) wr HI.out.2.2.2.1 c.1 c.2 (by omega) hL;have HR:=zhd hr;clear hr c;go_wp2_with (go_at_call 216;refine HR.out.mono ?_;rintro e w2 ⟨rfl,hd2,hf2⟩);go_meet;exact⟨hd2,HI.out.2.2.2.2.1.trans hf2⟩
    | false=>
     have c:¬(i<m∧m<e):=λh=>absurd (HCB185.out.2 h) (by simp)
     have HX:=zhd c;clear c;go_wp2;go_meet;refine⟨?_,HI.out.2.2.2.2.1⟩;rw[qgu f i m e him hml (by have:=HX.out;omega)];exact HI.out.2.2.2.1
   case rest=>
   obtain⟨hD1,hF1⟩:=hcut;obtain⟨w3,hw3⟩:∃w3:World,w3=wc:=⟨_,rfl⟩;rw[<-hw3]at hD1 hF1 ⊢;have HD1:=zhd3 hD1 hF1 hw3;clear hD1 hF1 hw3;have hw1:Hid (Wb (rotf f i m e)):=zhd (H.o3.rot i m e);have hL1:Hid (a<i→i<mid→Srt (sg (rotf f i m e) a (i-a))∧Srt (sg (rotf f i m e) i (mid-i))):=zhd λx y=>by
    obtain⟨k1,k2,k3,k4,k5,k6,k7,k8,k9,k10,k11,_⟩:=HI.out.2.2.1;refine⟨?_,?_⟩
    ·rw[qfw _ _ _ _ _ _ k2 k3 (.inl (by omega))];exact qgd H.o1 (qae _) (by omega)
    ·have:=qfh f i m e k2 k3;rw[show mid-i=e-m from by omega,this];exact qgd H.o2 (qae _) (by omega)
   have hL2:Hid (¬(a<i∧i<mid)→Srt (sg (rotf f i m e) a (mid-a))):=zhd λx=>by
    obtain⟨k1,k2,k3,k4,k5,k6,k7,k8,k9,k10,k11,_⟩:=HI.out.2.2.1;by_cases hz:i=a
    ·have:=qfh f i m e k2 k3;rw[<-hz,show mid-i=e-m from by omega,this];exact qgd H.o2 (qae _) (by omega)
    ·rw[qgu f i m e k2 k3 (by omega)];exact qgd H.o1 (qae _) (by omega)
   go_upto_region 41 with fail;go_cut [199] from 192 to 200 (λs199 wz=>∃c:Bool,s199 = .bool c∧(c=true↔(a<i∧i<mid))∧w3=wz)
   case first=>
    by_cases c1:a<i
    ·by_cases c2:i<mid
     ·have q1:decide ((a:Int)<(i:Int))=true:=by simp;omega
      have q2:decide ((i:Int)<(mid:Int))=true:=by simp;omega
      go_wp2;go_meet;exact⟨_,rfl,by simp[c1,c2],rfl⟩
     ·have q1:decide ((a:Int)<(i:Int))=true:=by simp;omega
      have q2:decide ((i:Int)<(mid:Int))=false:=by simp;omega
      go_wp2;go_meet;exact⟨_,rfl,by simp[c1,c2],rfl⟩
    ·have q1:decide ((a:Int)<(i:Int))=false:=by simp;omega
     go_wp2;go_meet;exact⟨_,rfl,by simp[c1],rfl⟩
   case rest=>
   obtain⟨cb,rfl,hcb,rfl⟩:=hcut;have HCB199:=zhd hcb;clear hcb;go_upto_if 199 with fail;go_cut [] from 199 to 206 (λwz=>∃f1,Dw wz g T A0 L f1∧Sd (rotf f i m e) f1 a mid∧Fr [g] w wz)
   case first=>
    cases cb with
    | true=>
     have c:=HCB199.out.1 rfl;have hr:SymOk g T A0 L cap a i mid (rotf f i m e) w3:=by obtain⟨k1,k2,k3,k4,k5,k6,k7,k8,k9,k10,k11,_⟩:=HI.out.2.2.1;exact H.l4 a i mid _ w3 (by omega) HD1.o0 c.1 c.2 (by omega) hw1.out (hL1.out c.1 c.2).1 (hL1.out c.1 c.2).2
     unfold SymOk cmpV at hr;have HR:=zhd hr;clear hr c;go_wp2_with (go_at_call 202;refine HR.out.mono ?_;rintro e w2 ⟨rfl,f1,hd2,hs2,hf2⟩);go_meet;exact⟨f1,hd2,hs2,HD1.o1.trans hf2⟩
    | false=>
     have c:¬(a<i∧i<mid):=λh=>absurd (HCB199.out.2 h) (by simp)
     have HX:=zhd c;clear c;go_wp2;go_meet;exact⟨_,HD1.o0,qo9 _ _ _ (hL2.out HX.out),HD1.o1⟩
   case rest=>
   obtain⟨f1,hD2,hS2,hF2⟩:=hcut;obtain⟨w4,hw4⟩:∃w4:World,w4=wc:=⟨_,rfl⟩;rw[<-hw4]at hD2 hF2 ⊢;have HD2:=zhd4 hD2 hS2 hF2 hw4;clear hD2 hS2 hF2 hw4;have eR1:Hid (∀c k,mid≤c→sg f1 c k=sg (rotf f i m e) c k):=zhd λc k hc=>qex λt ht=>HD2.o1.out _ (.inr (by omega))
   have hR1:Hid (mid<e→e<b→Srt (sg f1 mid (e-mid))∧Srt (sg f1 e (b-e))):=zhd λx y=>by
    obtain⟨k1,k2,k3,k4,k5,k6,k7,k8,k9,k10,k11,_⟩:=HI.out.2.2.1;rw[eR1.out mid _ (qae _),eR1.out e _ (by omega)];refine⟨?_,?_⟩
    ·have:=qf0 f i m e k2 k3;rw[show i+(e-m)=mid from by omega]at this;rw[show e-mid=m-i from by omega,this];exact qgd H.o1 (by omega) (by omega)
    ·rw[qfw _ _ _ _ _ _ k2 k3 (.inr (qae _))];exact qgd H.o2 (by omega) (by omega)
   have hR2:Hid (¬(mid<e∧e<b)→Srt (sg f1 mid (b-mid))):=zhd λx=>by
    obtain⟨k1,k2,k3,k4,k5,k6,k7,k8,k9,k10,k11,_⟩:=HI.out.2.2.1;rw[eR1.out mid _ (qae _)];by_cases hz:e=b
    ·have:=qf0 f i m e k2 k3;rw[show i+(e-m)=mid from by omega]at this;rw[show b-mid=m-i from by omega,this];exact qgd H.o1 (by omega) (by omega)
    ·have he:e=mid:=by omega
     rw[qgu f i m e k2 k3 (by omega)];exact qgd H.o2 (by omega) (by omega)
   go_upto_region 43 with fail;go_cut [213] from 206 to 214 (λs213 wz=>∃c:Bool,s213 = .bool c∧(c=true↔(mid<e∧e<b))∧w4=wz)
   case first=>
    by_cases c1:mid<e
    ·by_cases c2:e<b
     ·have q1:decide ((mid:Int)<(e:Int))=true:=by simp;omega
      have q2:decide ((e:Int)<(b:Int))=true:=by simp;omega
      go_wp2;go_meet;exact⟨_,rfl,by simp[c1,c2],rfl⟩
     ·have q1:decide ((mid:Int)<(e:Int))=true:=by simp;omega
      have q2:decide ((e:Int)<(b:Int))=false:=by simp;omega
      go_wp2;go_meet;exact⟨_,rfl,by simp[c1,c2],rfl⟩
    ·have q1:decide ((mid:Int)<(e:Int))=false:=by simp;omega
     go_wp2;go_meet;exact⟨_,rfl,by simp[c1],rfl⟩
   case rest=>
   obtain⟨cb,rfl,hcb,rfl⟩:=hcut;have HCB213:=zhd hcb;clear hcb;go_upto_if 213 with fail;cases cb with
   | true=>
    have c:=HCB213.out.1 rfl;have hr:SymOk g T A0 L cap mid e b f1 w4:=by obtain⟨k1,k2,k3,k4,k5,k6,k7,k8,k9,k10,k11,_⟩:=HI.out.2.2.1;exact H.l4 mid e b _ w4 (by omega) HD2.o0 c.1 c.2 (by omega) (hw1.out.sd HD2.o1) (hR1.out c.1 c.2).1 (hR1.out c.1 c.2).2
    unfold SymOk cmpV at hr;have HR:=zhd hr;clear hr c;go_wp2_with (go_at_call 202;refine HR.out.mono ?_;rintro e2 w2 ⟨rfl,f2,hd2,hs2,hf2⟩);(try simp only[Exit.inBlock,Exit.then]);refine bodyPost_end (results_none rfl _ _ _) rfl ?_;obtain⟨k1,k2,k3,k4,k5,k6,k7,k8,k9,k10,k11,_⟩:=HI.out.2.2.1;have h0:=H0.out;exact⟨rfl,f2,hd2,zdk f f1 f2 a m b mid i e k9 (by omega) (by omega) (by omega) k1 k2 k3 k4 H.o1 H.o2 HI.out.1 HI.out.2.1 HD2.o1 hs2,HD2.o2.trans hf2⟩
   | false=>
    have c:¬(mid<e∧e<b):=λh=>absurd (HCB213.out.2 h) (by simp)
    have HX:=zhd c;clear c;go_wp2;(try simp only[Exit.inBlock,Exit.then]);refine bodyPost_end (results_none rfl _ _ _) rfl ?_;obtain⟨k1,k2,k3,k4,k5,k6,k7,k8,k9,k10,k11,_⟩:=HI.out.2.2.1;have h0:=H0.out;exact⟨rfl,f1,HD2.o0,zdk f f1 f1 a m b mid i e k9 (by omega) (by omega) (by omega) k1 k2 k3 k4 H.o1 H.o2 HI.out.1 HI.out.2.1 HD2.o1 (qo9 _ _ _ (hR2.out HX.out)),HD2.o2⟩
theorem qj8 (g:Nat) (T:TypeId) (A0:Array Value) (L cap:Nat) (hL:L≤100000):∀(n a m b:Nat) (f:Nat→Mc) (w:World),b-a≤n→
  Dw w g T A0 L f→a<m→m<b→b≤L→Wb f→Srt (sg f a (m-a))→Srt (sg f m (b-m))→SymOk g T A0 L cap a m b f w:=by
 intro n;induction n with
 | zero=>intro a m b f w hn _ h1 h2;omega
 | succ n ih=>
  intro a m b f w hn hD h1 h2 h3 hwb hA hB;by_cases c1:m=a+1
  ·exact zej g T A0 L cap a m b f w hD c1 h2 h3 hL hwb hB
  ·by_cases c2:b=m+1
   ·exact zei g T A0 L cap a m b f w hD h1 c1 c2 h3 hL hwb hA
   ·exact za3 g T A0 L cap a m b f w (λa' m' b' f' w' hlt k1 k2 k3 k4 k5 k6 k7=>ih a' m' b' f' w' (by omega) k1 k2 k3 k4 k5 k6 k7) hD h1 c1 h2 c2 h3 hL hwb hA hB
def PB (f:Nat→Mc) (bs a n:Nat):Prop:=∀c,bs∣c→c<a→Srt (sg f c (min bs (n-c)))
theorem qt8 {bs a c:Nat} (hb:0<bs) (h1:bs∣a) (h2:bs∣c) (h:c<a):c+bs≤a:=by
 obtain⟨x,rfl⟩:=h1;obtain⟨y,rfl⟩:=h2;have:y<x:=Nat.lt_of_mul_lt_mul_left h;calc bs*y+bs=bs*(y+1):=by rw[Nat.mul_succ]
  _≤bs*x:=Nat.mul_le_mul_left _ this
theorem qmo {f f2:Nat→Mc} {bs a n:Nat} (hb:0<bs) (ha:bs∣a) (h:PB f bs a n) (hs:Sd f f2 a (min (a+bs) n)):PB f2 bs (a+bs) n:=by
 intro c hc hlt;rcases Nat.lt_trichotomy c a with k|k|k
 ·have:=qt8 hb ha hc k;rw[qex (f:=f2) (f':=f) (a':=c) λt ht=>hs.out _ (.inl (by omega))];exact h c hc k
 ·subst k;have:=hs.srt;rw[show min bs (n-c)=min (c+bs) n-c from by omega];exact this
 ·have:=qt8 hb hc ha k;omega
theorem ze0 {f f2:Nat→Mc} {bs a b n:Nat} (hs:Sd f f2 a b) (h:∀c,bs∣c→a≤c→Srt (sg f c (min bs (n-c)))) (hab:a≤b):∀c,bs∣c→b≤c→Srt (sg f2 c (min bs (n-c))):=by intro c hc hb;rw[qex (f:=f2) (f':=f) (a':=c) λt ht=>hs.out _ (.inr (by omega))];exact h c hc (by omega)
theorem zgd {f:Nat→Mc} {bs n:Nat} (hb:n≤bs) (h:PB f bs n n):Srt (sg f 0 n):=by
 rcases Nat.eq_zero_or_pos n with k|k
 ·subst k;rw[qo6];exact List.Pairwise.nil
 ·have:=h 0 (Nat.dvd_zero _) k;rwa [show min bs (n-0)=n from by omega]at this
theorem qsk {f:Nat→Mc} {bs a a' n:Nat} (h:PB f bs a n) (haa:a'≤a):PB f bs a' n:=λc hc hlt=>h c hc (by omega)
theorem qve (g:Nat) (T:TypeId) (A0:Array Value) (L cap:Nat) (f:Nat→Mc) (w:World)
  (h:Dw w g T A0 L f) (hL:L≤100000) (hwb:Wb f) :
  Calls Tryz.prog 182 #[.slice (some ⟨g,0,none⟩) L cap,.int .i64 (L:Nat),cmpV] w λe w'=>e = .returned (.tuple #[])∧∃f',Dw w' g T A0 L f'∧Sd f f' 0 L∧Fr [g] w w':=by
 have H:=zhd2 h hwb;clear h hwb;unfold cmpV;go_enter Tryz.func182,Tryz.ntmps182;go_wp2;go_loopg [7,8] L (λk s7 s8 wr=>∃a:Nat,s7 = .int .i64 (a:Nat)∧s8 = .int .i64 ((a+20:Nat):Nat)∧a+k=L∧20∣a∧∃f1,Dw wr g T A0 L f1∧Wb f1∧Stb (sg f1 0 L) (sg f 0 L)∧PB f1 20 a L∧(∀t,L≤t→f1 t=f t)∧Fr [g] w wr);case atStart=>exact⟨0,rfl,rfl,by omega,Nat.dvd_zero _,f,H.o0,H.l1,.refl _,λc _ hc=>absurd hc (by omega),λ_ _=>rfl,.refl _ w⟩
 case round=>
  obtain⟨a,rfl,rfl,hk,h20,f1,hD,hwb,hst,hpb,hout,hf⟩:=hrel;obtain⟨b,hb⟩:=zex (a+20);rw[<-hb];by_cases hab:b≤L
  ·have hi:=qoe g T A0 L cap a b f1 wr hD (by omega) hab hL hwb;unfold cmpV at hi;have HI:=zhd9 hi hwb hst hpb hout hf hk h20 hb;clear hi hwb hst hpb hout hf hk h20 hb hD;go_wp2_with (go_at_call 201;refine HI.out.1.mono ?_;rintro e w2 ⟨rfl,f2,hd2,hs2,hf2⟩;have HW:=zhd3 hd2 hs2 hf2;clear hd2 hs2 hf2);go_roundg (L-b);case measure=>have:=HI.out.2.2.2.2.2.2;omega
   case rel=>
    obtain⟨_,hwb,hst,hpb,hout,hf,hk,h20,hb⟩:=HI.out;obtain⟨hd2,hs2,hf2⟩:=HW.out;refine⟨b,rfl,by go_num,by omega,?_,f2,hd2,hwb.sd hs2,(hs2.widen (by omega) hab).trans hst,?_,λt ht=>(hs2.out t (.inr (by omega))).trans (hout t ht),hf.trans hf2⟩
    ·rw[hb];exact Nat.dvd_add h20 (Nat.dvd_refl _)
    ·rw[hb];exact qmo (by omega) h20 hpb (by rw[qc6 (by omega),<-hb];exact hs2)
  ·have hi:=qoe g T A0 L cap a L f1 wr hD (by omega) (qae _) hL hwb;unfold cmpV at hi;have HI:=zhd9 hi hwb hst hpb hout hf hk h20 hb;clear hi hwb hst hpb hout hf hk h20 hb hD;go_wp2_with (go_at_call 201;refine HI.out.1.mono ?_;rintro e w2 ⟨rfl,f2,hd2,hs2,hf2⟩;have HW:=zhd3 hd2 hs2 hf2;clear hd2 hs2 hf2);have hst2:∃f3,Dw w2 g T A0 L f3∧Wb f3∧Stb (sg f3 0 L) (sg f 0 L)∧PB f3 20 L L∧(∀t,L≤t→f3 t=f t)∧Fr [g] w w2:=by obtain⟨_,hwb,hst,hpb,hout,hf,hk,h20,hb⟩:=HI.out;obtain⟨hd2,hs2,hf2⟩:=HW.out;refine⟨f2,hd2,hwb.sd hs2,(hs2.widen (by omega) (qae _)).trans hst,qsk (qmo (a:=a) (by omega) h20 hpb (by rw[Nat.min_eq_right (by omega)];exact hs2)) (by omega),λt ht=>(hs2.out t (.inr (by omega))).trans (hout t ht),hf.trans hf2⟩
   have HS:=zhd hst2;clear hst2 HI HW hab;go_loopg [6,7,8,9] (L+40) (λk s6 s7 s8 s9 wr=>∃bs:Nat,s6 = .int .i64 (bs:Nat)∧20≤bs∧bs≤200040∧k=L+60-bs∧∃f1,Dw wr g T A0 L f1∧Wb f1∧Stb (sg f1 0 L) (sg f 0 L)∧PB f1 bs L L∧(∀t,L≤t→f1 t=f t)∧Fr [g] w wr);case atStart=>obtain⟨f3,h3⟩:=HS.out;exact⟨20,rfl,qae _,by omega,by omega,f3,h3⟩
   case round=>
    obtain⟨bs,rfl,hb20,hbs,hk,f1,hD,hwb,hst,hpb,hout,hf⟩:=hrel;by_cases hlt:bs<L
    ·have HI:=zhd6 hD hwb hst hpb hout hf;clear hD hwb hst hpb hout hf;have HK:=zhd hk;clear hk;obtain⟨b2,hb2⟩:=zex (2*bs);have e1:2*(bs:Int)=(b2:Int):=by omega
     have e2:(bs:Int)*2=(b2:Int):=by omega
     have hb2b:b2≤200000:=by omega
     have HB:=zhd hb2;clear hb2;obtain⟨wo,hwo⟩:∃wo:World,wo=wr:=⟨_,rfl⟩;have HWO:=zhd hwo;rw[<-hwo];clear hwo;go_wp2;go_loopg [7,8] L (λk s7 s8 wr=>∃a:Nat,s7 = .int .i64 (a:Nat)∧s8 = .int .i64 ((a+b2:Nat):Nat)∧a+k=L∧b2∣a∧∃f1,Dw wr g T A0 L f1∧Wb f1∧Stb (sg f1 0 L) (sg f 0 L)∧PB f1 b2 a L∧(∀c,bs∣c→a≤c→Srt (sg f1 c (min bs (L-c))))∧(∀t,L≤t→f1 t=f t)∧Fr [g] w wr);case atStart=>
      obtain⟨hD,hwb,hst,hpb,hout,hf⟩:=HI.out;rw[HWO.out];refine⟨0,rfl,by go_num,by omega,Nat.dvd_zero _,f1,hD,hwb,hst,λc _ hc=>absurd hc (by omega),λc hc _=>?_,hout,hf⟩;by_cases hcL:c<L
      ·exact hpb c hc hcL
      ·rw[show min bs (L-c)=0 from by omega,qo6];exact List.Pairwise.nil
     case round=>
      obtain⟨a,rfl,rfl,hk,h2a,f3,hD,hwb,hst,hpb,hrest,hout,hf⟩:=hrel;obtain⟨b,hb⟩:=zex (a+b2);obtain⟨m,hm⟩:=zex (a+bs);have e3:(a:Int)+(bs:Int)=(m:Int):=by omega
      have haL:a≤L:=by omega
      have hmb:m≤400000:=by omega
      have hbb:b≤400000:=by omega
      have hda:bs∣a:=Nat.dvd_trans ⟨2,by have:=HB.out;omega⟩ h2a;rw[<-hb];by_cases hab:b≤L
      ·have hi:=qj8 g T A0 L cap hL (b-a) a m b f3 wr (qae _) hD (by omega) (by have:=HB.out;omega) hab hwb
        (by have:=hrest a hda (qae _);rwa [show min bs (L-a)=m-a from by have:=HB.out;omega]at this)
        (by have:=hrest m (by rw[hm];exact Nat.dvd_add hda (Nat.dvd_refl _)) (by omega);rwa [show min bs (L-m)=b-m from by have:=HB.out;omega]at this)
       unfold SymOk cmpV at hi
       have HJ:=zhd11 hi hwb hst hpb hrest hout hf hk h2a hb hm
       clear hi hwb hst hpb hrest hout hf hk h2a hb hm hD hda
       go_wp2_with (go_at_call 202;refine HJ.out.1.mono ?_;rintro e w2 ⟨rfl,f2,hd2,hs2,hf2⟩;have HW:=zhd3 hd2 hs2 hf2;clear hd2 hs2 hf2)
       go_roundg (L-b)
       case measure=>have:=HJ.out.2.2.2.2.2.2.2;omega
       case rel=>
        obtain⟨_,hwb,hst,hpb,hrest,hout,hf,hk,h2a,hb,hm⟩:=HJ.out
        obtain⟨hd2,hs2,hf2⟩:=HW.out
        refine⟨b,rfl,by go_num,by omega,?_,f2,hd2,hwb.sd hs2,(hs2.widen (by omega) hab).trans hst,?_,ze0 hs2 hrest (by omega),λt ht=>(hs2.out t (.inr (by omega))).trans (hout t ht),hf.trans hf2⟩
        ·rw[hb];exact Nat.dvd_add h2a (Nat.dvd_refl _)
        ·rw[hb];exact qmo (by omega) h2a hpb (by rw[qc6 (by omega),<-hb];exact hs2)
      ·by_cases hml:m<L
       ·have hi:=qj8 g T A0 L cap hL (L-a) a m L f3 wr (qae _) hD (by omega) hml (qae _) hwb
         (by have:=hrest a hda (qae _);rwa [show min bs (L-a)=m-a from by omega]at this)
         (by have:=hrest m (by rw[hm];exact Nat.dvd_add hda (Nat.dvd_refl _)) (by omega);rwa [show min bs (L-m)=L-m from by have:=HB.out;omega]at this)
        unfold SymOk cmpV at hi
        have HJ:=zhd11 hi hwb hst hpb hrest hout hf hk h2a hb hm
        clear hi hwb hst hpb hrest hout hf hk h2a hb hm hD hda
        go_wp2_with (go_at_call 202;refine HJ.out.1.mono ?_;rintro e w2 ⟨rfl,f2,hd2,hs2,hf2⟩;have HW:=zhd3 hd2 hs2 hf2;clear hd2 hs2 hf2)
        go_roundg (L+60-b2)
        case measure=>have:=HK.out;have:=HB.out;omega
        case rel=>
         obtain⟨_,hwb,hst,hpb,hrest,hout,hf,hk,h2a,hb,hm⟩:=HJ.out
         obtain⟨hd2,hs2,hf2⟩:=HW.out
         exact⟨b2,rfl,by have:=HB.out;omega,by omega,rfl,f2,hd2,hwb.sd hs2,(hs2.widen (by omega) (qae _)).trans hst,qsk (qmo (a:=a) (by have:=HB.out;omega) h2a hpb (by rw[Nat.min_eq_right (by omega)];exact hs2)) (by omega),λt ht=>(hs2.out t (.inr ht)).trans (hout t ht),hf.trans hf2⟩
       ·have HJ:=zhd12 hwb hst hpb hrest hout hf hk h2a hb hm hD hda;clear hwb hst hpb hrest hout hf hk h2a hb hm hD hda;go_wp2;go_roundg (L+60-b2);case measure=>have:=HK.out;have:=HB.out;omega
        case rel=>obtain⟨hwb,hst,hpb,hrest,hout,hf,hk,h2a,hb,hm,hD,hda⟩:=HJ.out;refine⟨b2,rfl,by have:=HB.out;omega,by omega,rfl,f3,hD,hwb,hst,qsk (qmo (a:=a) (by have:=HB.out;omega) h2a hpb (qo9 _ _ _ ?_)) (by omega),hout,hf⟩;have:=hrest a hda (qae _);rwa [show min bs (L-a)=min (a+b2) L-a from by omega]at this
    ·have HI:=zhd6 hD hwb hst hpb hout hf;clear hD hwb hst hpb hout hf hk;go_wp2;(try simp only[Exit.inBlock,Exit.then]);refine bodyPost_end (results_none rfl _ _ _) rfl ?_;obtain⟨hD,hwb,hst,hpb,hout,hf⟩:=HI.out;exact⟨rfl,f1,hD,⟨λt ht=>hout t (by omega),zgd (by omega) hpb,hst⟩,hf⟩
theorem zba (g:Nat) (T:TypeId) (A0:Array Value) (L cap:Nat) (f:Nat→Mc) (w:World)
  (h:Dw w g T A0 L f) (hL:L≤100000) (hwb:Wb f) :
  Calls Tryz.prog 161 #[.slice (some ⟨g,0,none⟩) L cap,cmpV] w λe w'=>e = .returned (.tuple #[])∧∃f',Dw w' g T A0 L f'∧Sd f f' 0 L∧Fr [g] w w':=by
 have H:=zhd (qve g T A0 L cap f w h hL hwb);unfold cmpV at H ⊢;clear h hwb;go_enter Tryz.func161,Tryz.ntmps161;go_wp2_with (go_at_call 182;refine H.out.mono ?_;rintro e w2 ⟨rfl,hd2⟩);(try simp only[Exit.inBlock,Exit.then]);refine bodyPost_end (results_none rfl _ _ _) rfl ?_;exact⟨rfl,hd2⟩
theorem qrb {w:World} {e:TypeId} {size cap:Nat} {A:Array Value} (hs:A.size=cap*size) (hc:cap≤maxLen):(w.alloc (.cells A e (0,0))).ownsRow 0 e size (.slice (some ⟨w.heap.size,0,none⟩) 0 cap) 0 []:=
 ⟨by simp,.inr ⟨w.heap.size,cap,A,rfl,qa5 _,qay w _,qa5 _,hc,hs,by simp⟩⟩
theorem qje:SliceTy Tryz.prog 256 258 (.agg #[.int .i64 0,.slice none 0 0]) 2 32:=SliceTy.of Tryz.underlying256 (by kernel_rfl) rfl (by decide)
theorem qyp:(Tryz.prog.info? 258).map (λi=>(i.zero,i.size,i.bytes))=some (some (.agg #[.int .i64 0,.slice none 0 0]),2,32):=by kernel_rfl
theorem qy6 (n:Nat) (w:World) (hn:n≤1000000) :
  Calls Tryz.prog 183 #[.slice none 0 0,.int .i64 (n:Nat)] w λe w'=>∃ao cap,e = .returned (.slice ao 0 cap)∧Made w w' 258 2 ao 0 cap []:=by
 by_cases h0:n=0
 ·subst h0;go_enter Tryz.func183,Tryz.ntmps183;go_wp2;go_ret;exact⟨none,0,rfl,.none w _ _⟩
 ·obtain⟨i,hi,hz,hs,hb⟩:=info_parts qyp;have hck:0+n=n:=qbg n;have hrz:∀ty,(Builtin.append_ #[256,3] ty #[.slice none 0 0,.int .i64 n]).run Tryz.prog w =
    .ok (.slice (some ⟨w.heap.size,0,none⟩) n (grownCap w n 0 258)) (w.drew.alloc (.cells (#[]++Builtin.zeroCells (.agg #[.int .i64 0,.slice none 0 0]:Value).cells n++Builtin.zeroCells (.agg #[.int .i64 0,.slice none 0 0]:Value).cells (grownCap w n 0 258-n)) 258)):=λty=>by
   have h:=Lib.run_append_grow_zeros (P:=Tryz.prog) w 256 3 ty 258 i (.agg #[.int .i64 0,.slice none 0 0]) .i64 .i64 Tryz.underlying256 Tryz.underlying3 hi hz none 0 0 [] (by exact run_firstCells_none (w:=w.drew) i.size 0 0 0) n (by omega) (by rw[hs];decide) (by omega) (by omega)
    (by rw[hb];omega) (by rw[hck,hb];exact growslice_fits (by omega) (by omega))
   rw[hck]at h
   exact h
  have hGn:n≤grownCap w n 0 258:=grownCap_ge w _ _ _;have hG63:=grownCap_le_maxLen w n 0 258 (by unfold maxLen;omega);obtain⟨G,hG⟩:=zex (grownCap w n 0 258);rw[<-hG]at hrz hGn hG63;have hGM:G≤9223372036854775807:=by unfold maxLen at hG63;omega
  have HM:=zhd hG63;clear hG hck hi hz hs hb hG63;go_enter Tryz.func183,Tryz.ntmps183;go_wp2_with (at_builtin;refine Lib.wpList_append_run _ rfl _ _ _ _ rfl _ _ rfl rfl _ _ (hrz _) ?_);all_goals (go_ret;refine⟨_,_,rfl,?_⟩)
  all_goals exact⟨qrb (w:=w.drew) (by simp only[Array.size_append,size_zeroCells,show (.agg #[.int .i64 0,.slice none 0 0]:Value).cells.size=2 from rfl];simp;omega) HM.out,((Fr.refl [] w).drew).alloc _,by simp[blk],qa5 _,HM.out,λh=>by cases h⟩
theorem qs9 (q:Nat) (a1 a2:Option Addr) (n1 n2 c1 c2:Nat) (xs ys:List Value) (w:World)
  (hq:w.heap[q]?=some (.cells #[.slice a1 n1 c1,.slice a2 n2 c2] 256 (0,0)))
  (h1:Cs w a1 xs) (h2:Cs w a2 ys) (l1:xs.length=n1*2) (l2:ys.length=n2*2) (k1:n1≤c1) (k2:n2≤c2) (z1:a1=none→c1=0) (z2:a2=none→c2=0)
  (u1:∀u∈xs,u.oneCell'=true) (u2:∀u∈ys,u.oneCell'=true) (b1:n1≤400000) (b2:n2≤400000) :
  Calls Tryz.prog 162 #[.slice (some ⟨q,0,none⟩) 2 2] w λe w'=>∃ao cap,e = .returned (.slice ao (n1+n2) cap)∧Made w w' 258 2 ao (n1+n2) cap (xs++ys):=by
 have d0:=cell_of hq 0;have d1:=cell_of hq 1;simp only[qag,qac,qaf]at d0 d1;have H:=zhd11 hq h1 h2 l1 l2 k1 k2 z1 z2 u1 u2;clear hq h1 h2 l1 l2 k1 k2 z1 z2 u1 u2;obtain⟨s,hs⟩:=zex (n1+n2);rw[<-hs];have e1:(n1:Int)+(n2:Int)=(s:Int):=by omega
 have HS:=zhd hs;have hsb:s≤1000000:=by omega
 clear hs;go_enter Tryz.func162,Tryz.ntmps162;go_wp2;go_loopg [3,5,11] 2 (λk s3 s5 s11 wr=>∃i:Nat,s11 = .int .i64 (i:Nat)∧i+k=2∧(s3 = .int .i64 ((if i=0 then 0 else if i=1 then n1 else s:Nat):Nat))∧w=wr);case atStart=>exact⟨0,rfl,rfl,rfl,rfl⟩
 case round=>
  obtain⟨i,rfl,hik,rfl,rfl⟩:=hrel;match i,hik with
  | 0,hik=>
   simp only[if_true];go_wp2;go_roundg 1;case measure=>omega
   case rel=>exact⟨1,rfl,rfl,by simp,rfl⟩
  | 1,hik=>
   simp only[qwf,if_false,if_true];go_wp2;go_roundg 0;case measure=>omega
   case rel=>exact⟨2,rfl,rfl,by simp,rfl⟩
  | 2,hik=>
   simp only[show ¬(2=0) from by decide,show ¬(2=1) from by decide,if_false];go_wp2_with (go_at_call 183;refine (qy6 s w hsb).mono ?_;rintro e w2 ⟨ao,cap,rfl,hm⟩;have HM:=zhd hm;clear hm);go_loopg [6,8,27] 2 (λk s6 s8 s27 wr=>∃(i:Nat) (ao:Option Addr) (cap n:Nat),s27 = .int .i64 (i:Nat)∧i+k=2∧s6 = .slice ao n cap∧n=(if i=0 then 0 else if i=1 then n1 else n1+n2)∧Made w wr 258 2 ao n cap (if i=0 then [] else if i=1 then xs else xs++ys));case atStart=>exact⟨0,ao,cap,0,rfl,rfl,rfl,rfl,HM.out⟩
   case round=>
    obtain⟨i,ao,cap,n,rfl,hik,rfl,hn,hm⟩:=hrel;obtain⟨hq,h1,h2,l1,l2,k1,k2,z1,z2,u1,u2⟩:=H.out;have d2:=hm.fr.cell d0 (by simp);have d3:=hm.fr.cell d1 (by simp);have h1':=h1.fr hm.fr (by simp);have h2':=h2.fr hm.fr (by simp);match i,hik with
    | 0,hik=>
     simp only[if_true]at hn hm;subst hn;have HK:=zhd6 hm h1' l1 k1 z1 u1;clear hm h1' h2' hq h1 h2 l1 l2 k1 k2 z1 z2 u1 u2 d3;go_wp2_with (refine qba qje rfl _ _ rfl (.slice ao 0 cap) 0 [] (blk ao) rfl (qby ao 0 cap) HK.out.1.own a1 n1 c1 xs rfl HK.out.2.2.2.1 HK.out.2.2.2.2.1 HK.out.2.1 HK.out.2.2.1 HK.out.2.2.2.2.2 (by omega) (by unfold maxLen;omega) ?_;intro ao2 cap2 w3 hap;have HA:=zhd hap;clear hap);go_roundg 1;case measure=>omega
     case rel=>exact⟨1,ao2,cap2,n1,rfl,rfl,by simp,by simp,by simpa using HK.out.1.app HA.out⟩
    | 1,hik=>
     simp only[qwf,if_false,if_true]at hn hm;subst hn;have HK:=zhd6 hm h2' l2 k2 z2 u2;clear hm h1' h2' hq h1 h2 l1 l2 k1 k2 z1 z2 u1 u2 d2;go_wp2_with (refine qba qje rfl _ _ rfl (.slice ao n cap) n xs (blk ao) rfl (qby ao n cap) HK.out.1.own a2 n2 c2 ys rfl HK.out.2.2.2.1 HK.out.2.2.2.2.1 HK.out.2.1 HK.out.2.2.1 HK.out.2.2.2.2.2 (by omega) (by unfold maxLen;omega) ?_;intro ao2 cap2 w3 hap;have HA:=zhd hap;clear hap);go_roundg 0;case measure=>omega
     case rel=>exact⟨2,ao2,cap2,n+n2,rfl,rfl,rfl,by simp,by simpa using HK.out.1.app HA.out⟩
    | 2,hik=>
     simp only[show ¬(2=0) from by decide,show ¬(2=1) from by decide,if_false]at hn hm;rw[<-HS.out]at hn;subst hn;have HK:=zhd hm;clear hm h1' h2' hq h1 h2 l1 l2 k1 k2 z1 z2 u1 u2 d2 d3;go_wp2;go_ret;exact⟨ao,cap,rfl,by rw[HS.out];have:=HK.out;rwa [HS.out]at this⟩
    | k+3,hik=>omega
  | k+3,hik=>omega
theorem zci (n:Nat) (w:World) (hn:n≤1000000) :
  Calls Tryz.prog 203 #[.slice none 0 0,.int .i64 (n:Nat)] w λe w'=>∃ao cap,e = .returned (.slice ao 0 cap)∧Made w w' 3 1 ao 0 cap []:=by
 by_cases h0:n=0
 ·subst h0;go_enter Tryz.func203,Tryz.ntmps203;go_wp2;go_ret;exact⟨none,0,rfl,.none w _ _⟩
 ·obtain⟨i,hi,hz,hs,hb⟩:=info_parts qjr;have hck:0+n=n:=qbg n;have hrz:∀ty,(Builtin.append_ #[28,3] ty #[.slice none 0 0,.int .i64 n]).run Tryz.prog w =
    .ok (.slice (some ⟨w.heap.size,0,none⟩) n (grownCap w n 0 3)) (w.drew.alloc (.cells (#[]++Builtin.zeroCells (.int .i64 0:Value).cells n++Builtin.zeroCells (.int .i64 0:Value).cells (grownCap w n 0 3-n)) 3)):=λty=>by
   have h:=Lib.run_append_grow_zeros (P:=Tryz.prog) w 28 3 ty 3 i (.int .i64 0) .i64 .i64 Tryz.underlying28 Tryz.underlying3 hi hz none 0 0 [] (by exact run_firstCells_none (w:=w.drew) i.size 0 0 0) n (by omega) (by rw[hs];decide) (by omega) (by omega)
    (by rw[hb];omega) (by rw[hck,hb];exact growslice_fits (by omega) (by omega))
   rw[hck]at h
   exact h
  have hGn:n≤grownCap w n 0 3:=grownCap_ge w _ _ _;have hG63:=grownCap_le_maxLen w n 0 3 (by unfold maxLen;omega);obtain⟨G,hG⟩:=zex (grownCap w n 0 3);rw[<-hG]at hrz hGn hG63;have hGM:G≤9223372036854775807:=by unfold maxLen at hG63;omega
  have HM:=zhd hG63;clear hG hck hi hz hs hb hG63;go_enter Tryz.func203,Tryz.ntmps203;go_wp2_with (at_builtin;refine Lib.wpList_append_run _ rfl _ _ _ _ rfl _ _ rfl rfl _ _ (hrz _) ?_);all_goals (go_ret;refine⟨_,_,rfl,?_⟩)
  all_goals exact⟨qrb (w:=w.drew) (by simp only[Array.size_append,size_zeroCells,show (.int .i64 0:Value).cells.size=1 from rfl];simp;omega) HM.out,((Fr.refl [] w).drew).alloc _,by simp[blk],qa5 _,HM.out,λh=>by cases h⟩
theorem qwa (q:Nat) (a1 a2:Option Addr) (n1 n2 c1 c2:Nat) (xs ys:List Value) (w:World)
  (hq:w.heap[q]?=some (.cells #[.slice a1 n1 c1,.slice a2 n2 c2] 28 (0,0)))
  (h1:Cs w a1 xs) (h2:Cs w a2 ys) (l1:xs.length=n1*1) (l2:ys.length=n2*1) (k1:n1≤c1) (k2:n2≤c2) (z1:a1=none→c1=0) (z2:a2=none→c2=0)
  (u1:∀u∈xs,u.oneCell'=true) (u2:∀u∈ys,u.oneCell'=true) (b1:n1≤400000) (b2:n2≤400000) :
  Calls Tryz.prog 184 #[.slice (some ⟨q,0,none⟩) 2 2] w λe w'=>∃ao cap,e = .returned (.slice ao (n1+n2) cap)∧Made w w' 3 1 ao (n1+n2) cap (xs++ys):=by
 have d0:=cell_of hq 0;have d1:=cell_of hq 1;simp only[qag,qac,qaf]at d0 d1;have H:=zhd11 hq h1 h2 l1 l2 k1 k2 z1 z2 u1 u2;clear hq h1 h2 l1 l2 k1 k2 z1 z2 u1 u2;obtain⟨s,hs⟩:=zex (n1+n2);rw[<-hs];have e1:(n1:Int)+(n2:Int)=(s:Int):=by omega
 have HS:=zhd hs;have hsb:s≤1000000:=by omega
 clear hs;go_enter Tryz.func184,Tryz.ntmps184;go_wp2;go_loopg [3,5,11] 2 (λk s3 s5 s11 wr=>∃i:Nat,s11 = .int .i64 (i:Nat)∧i+k=2∧(s3 = .int .i64 ((if i=0 then 0 else if i=1 then n1 else s:Nat):Nat))∧w=wr);case atStart=>exact⟨0,rfl,rfl,rfl,rfl⟩
 case round=>
  obtain⟨i,rfl,hik,rfl,rfl⟩:=hrel;match i,hik with
  | 0,hik=>
   simp only[if_true];go_wp2;go_roundg 1;case measure=>omega
   case rel=>exact⟨1,rfl,rfl,by simp,rfl⟩
  | 1,hik=>
   simp only[qwf,if_false,if_true];go_wp2;go_roundg 0;case measure=>omega
   case rel=>exact⟨2,rfl,rfl,by simp,rfl⟩
  | 2,hik=>
   simp only[show ¬(2=0) from by decide,show ¬(2=1) from by decide,if_false];go_wp2_with (go_at_call 203;refine (zci s w hsb).mono ?_;rintro e w2 ⟨ao,cap,rfl,hm⟩;have HM:=zhd hm;clear hm);go_loopg [6,8,27] 2 (λk s6 s8 s27 wr=>∃(i:Nat) (ao:Option Addr) (cap n:Nat),s27 = .int .i64 (i:Nat)∧i+k=2∧s6 = .slice ao n cap∧n=(if i=0 then 0 else if i=1 then n1 else n1+n2)∧Made w wr 3 1 ao n cap (if i=0 then [] else if i=1 then xs else xs++ys));case atStart=>exact⟨0,ao,cap,0,rfl,rfl,rfl,rfl,HM.out⟩
   case round=>
    obtain⟨i,ao,cap,n,rfl,hik,rfl,hn,hm⟩:=hrel;obtain⟨hq,h1,h2,l1,l2,k1,k2,z1,z2,u1,u2⟩:=H.out;have d2:=hm.fr.cell d0 (by simp);have d3:=hm.fr.cell d1 (by simp);have h1':=h1.fr hm.fr (by simp);have h2':=h2.fr hm.fr (by simp);match i,hik with
    | 0,hik=>
     simp only[if_true]at hn hm;subst hn;have HK:=zhd6 hm h1' l1 k1 z1 u1;clear hm h1' h2' hq h1 h2 l1 l2 k1 k2 z1 z2 u1 u2 d3;go_wp2_with (refine qba qdd rfl _ _ rfl (.slice ao 0 cap) 0 [] (blk ao) rfl (qby ao 0 cap) HK.out.1.own a1 n1 c1 xs rfl HK.out.2.2.2.1 HK.out.2.2.2.2.1 HK.out.2.1 HK.out.2.2.1 HK.out.2.2.2.2.2 (by omega) (by unfold maxLen;omega) ?_;intro ao2 cap2 w3 hap;have HA:=zhd hap;clear hap);go_roundg 1;case measure=>omega
     case rel=>exact⟨1,ao2,cap2,n1,rfl,rfl,by simp,by simp,by simpa using HK.out.1.app HA.out⟩
    | 1,hik=>
     simp only[qwf,if_false,if_true]at hn hm;subst hn;have HK:=zhd6 hm h2' l2 k2 z2 u2;clear hm h1' h2' hq h1 h2 l1 l2 k1 k2 z1 z2 u1 u2 d2;go_wp2_with (refine qba qdd rfl _ _ rfl (.slice ao n cap) n xs (blk ao) rfl (qby ao n cap) HK.out.1.own a2 n2 c2 ys rfl HK.out.2.2.2.1 HK.out.2.2.2.2.1 HK.out.2.1 HK.out.2.2.1 HK.out.2.2.2.2.2 (by omega) (by unfold maxLen;omega) ?_;intro ao2 cap2 w3 hap;have HA:=zhd hap;clear hap);go_roundg 0;case measure=>omega
     case rel=>exact⟨2,ao2,cap2,n+n2,rfl,rfl,rfl,by simp,by simpa using HK.out.1.app HA.out⟩
    | 2,hik=>
     simp only[show ¬(2=0) from by decide,show ¬(2=1) from by decide,if_false]at hn hm;rw[<-HS.out]at hn;subst hn;have HK:=zhd hm;clear hm h1' h2' hq h1 h2 l1 l2 k1 k2 z1 z2 u1 u2 d2 d3;go_wp2;go_ret;exact⟨ao,cap,rfl,by rw[HS.out];have:=HK.out;rwa [HS.out]at this⟩
    | k+3,hik=>omega
  | k+3,hik=>omega
def cellsOf (ms:List Mc):List Value:=ms.flatMap λm=>[.int .i64 (m.worth:Nat),.slice m.ao m.len m.cap]
theorem qd5 (ms:List Mc):(cellsOf ms).length=ms.length*2:=by
 induction ms with
 | nil=>rfl
 | cons m ms ih=>simp only[cellsOf,qcl,qab,qao,qbi]at ih ⊢;omega
theorem qgp (a b:List Mc):cellsOf (a++b)=cellsOf a++cellsOf b:=by simp[cellsOf]
theorem qfx:∀(ms:List Mc) (i:Nat) (m:Mc),ms[i]?=some m→(cellsOf ms)[i*2]?=some (.int .i64 (m.worth:Nat))∧(cellsOf ms)[i*2+1]?=some (.slice m.ao m.len m.cap)
 | [],i,m,h=>by simp at h
 | x::ms,0,m,h=>by
  simp only[qac,qaw]at h;subst h;exact⟨rfl,rfl⟩
 | x::ms,i+1,m,h=>by have:=qfx ms i m (by simpa using h);rw[show (i+1)*2=i*2+2 from by omega];exact this
theorem qnk (ms:List Mc):∀u∈cellsOf ms,u.oneCell'=true:=by intro u hu;simp only[cellsOf,List.mem_flatMap,qbh,qcw,or_false]at hu;obtain⟨m,_,rfl|rfl⟩:=hu<;>rfl
structure In (w:World) (m:Mc) (c:Coin):Prop where
 worth:m.worth=c.1
 len:m.len=c.2.length
 pos:0<m.len
 own:w.ownsRow 0 3 1 (.slice m.ao m.len m.cap) m.len (ints c.2)
theorem In.shape {w:World} {m:Mc} {c:Coin} (h:In w m c):∃b A,m.ao=some ⟨b,0,none⟩∧w.heap[b]?=some (.cells A 3 (0,0))∧m.len≤m.cap∧m.cap≤maxLen:=by
 rcases h.own.2 with⟨h1,h2⟩|⟨g,cap,cur,h1,_,h2,h3,h4,_,_⟩
 ·have:=h.pos;omega
 ·simp only[qbp,true_and]at h1;obtain⟨e1,e2⟩:=h1;exact⟨g,cur,e1,h2,by omega,by omega⟩
theorem In.fr {S:List Nat} {w w':World} {m:Mc} {c:Coin} (h:In w m c) (f:Fr S w w') (hS:∀x∈S,∀A fz,w.heap[x]?≠some (.cells A 3 fz)):In w' m c:=by refine⟨h.worth,h.len,h.pos,qa7 h.own f λk hk=>?_⟩;obtain⟨b,A,e,hb,_,_⟩:=h.shape;rw[e]at hk;simp only[Value.ownBlock,qaw]at hk;subst hk;exact λhx=>hS _ hx A _ hb
theorem In.fr0 {w w':World} {m:Mc} {c:Coin} (h:In w m c) (f:Fr [] w w'):In w' m c:=h.fr f (by simp)
def Ins (w:World) (ms:List Mc) (l:List Coin):Prop:=ms.length=l.length∧∀(i:Nat) (m:Mc) (c:Coin),ms[i]?=some m→l[i]?=some c→In w m c
theorem Ins.fr0 {w w':World} {ms:List Mc} {l:List Coin} (h:Ins w ms l) (f:Fr [] w w'):Ins w' ms l:=⟨h.1,λi m c h1 h2=>(h.2 i m c h1 h2).fr0 f⟩
theorem qmr {w:World} {e:TypeId} {size:Nat} {ao:Option Addr} {n cap:Nat} {xs:List Value} (h:w.ownsRow 0 e size (.slice ao n cap) n xs):∀x∈blk ao,∃A,w.heap[x]?=some (.cells A e (0,0)):=by
 intro x hx;have hx':=qdw (n:=n) (cap:=cap) hx;rcases h.2 with⟨h1,_⟩|⟨g,c,cur,h1,_,h2,_⟩
 ·rw[h1]at hx';cases hx'
 ·rw[h1]at hx';simp only[Value.ownBlock,qaw]at hx';subst hx';exact⟨cur,h2⟩
theorem Ins.typed {S:List Nat} {w w':World} {ms:List Mc} {l:List Coin} (h:Ins w ms l) (f:Fr S w w') (hS:∀x∈S,∃A,w.heap[x]?=some (.cells A 258 (0,0))):Ins w' ms l:=
 ⟨h.1,λi m c h1 h2=>(h.2 i m c h1 h2).fr f λx hx A fz hA=>by
  obtain⟨B,hB⟩:=hS x hx
  rw[hB]at hA
  simp at hA⟩
theorem Ins.append {w:World} {ms ms':List Mc} {l l':List Coin} (h:Ins w ms l) (h':Ins w ms' l'):Ins w (ms++ms') (l++l'):=by
 refine⟨by simp[h.1,h'.1],λi m c h1 h2=>?_⟩;rcases qb8 i ms.length with k|k
 ·rw[qcv k]at h1;rw[qcv (by rw[<-h.1];exact k)]at h2;exact h.2 i m c h1 h2
 ·rw[qdz k]at h1;rw[qdz (by rw[<-h.1];exact k)]at h2;rw[<-h.1]at h2;exact h'.2 _ m c h1 h2
theorem Ins.one {w:World} {m:Mc} {c:Coin} (h:In w m c):Ins w [m] [c]:=by
 refine⟨rfl,λi m' c' h1 h2=>?_⟩;match i with
 | 0=>simp only[qac,qaw]at h1 h2;subst h1;subst h2;exact h
 | i+1=>simp at h1
theorem qn8:∀(l:List Coin) (j:Nat) (x y:Coin),l[2*j]?=some x→l[2*j+1]?=some y→packs (l.take (2*(j+1)))=packs (l.take (2*j))++[(x.1+y.1,x.2++y.2)]
 | l,0,x,y,h1,h2=>by
  match l with
  | []=>simp at h1
  | [a]=>simp at h2
  | a::b::t=>
   simp only[Nat.mul_zero,qac,qaw,qbg,qaf]at h1 h2;subst h1;subst h2;rfl
 | l,j+1,x,y,h1,h2=>by
  match l with
  | []=>simp at h1
  | [a]=>simp[show 2*(j+1)=2*j+1+1 from by omega]at h1
  | a::b::t=>rw[show 2*(j+1)=2*j+1+1 from by omega]at h1;rw[show 2*(j+1)+1=2*j+1+1+1 from by omega]at h2;simp only[qaf]at h1 h2;have:=qn8 t j x y h1 h2;rw[show 2*(j+1+1)=2*(j+1)+1+1 from by omega,show 2*(j+1)=2*j+1+1 from by omega];simp only[qah];simp only[packs,qdk];rw[show 2*j+1+1=2*(j+1) from by omega,this]
theorem qxs (l:List Coin) (j:Nat) (h:l.length≤2*j+1):packs (l.take (2*j))=packs l:=by
 induction j generalizing l with
 | zero=>
  match l with
  | []=>rfl
  | [a]=>rfl
  | a::b::t=>simp at h
 | succ j ih=>
  match l with
  | []=>rfl
  | [a]=>simp[show 2*(j+1)=2*j+1+1 from by omega]
  | a::b::t=>rw[show 2*(j+1)=2*j+1+1 from by omega];simp only[qah,packs];rw[ih t (by simp only[qao]at h;omega)]
theorem zg4 {w:World} {m1 m2:Mc} {x y:Coin} (h1:In w m1 x) (h2:In w m2 y) (b1:m1.len≤400000) (b2:m2.len≤400000) (q:Nat) (hq:w.heap[q]?=some (.cells #[.slice m1.ao m1.len m1.cap,.slice m2.ao m2.len m2.cap] 28 (0,0))) :
  Calls Tryz.prog 184 #[.slice (some ⟨q,0,none⟩) 2 2] w λe w'=>∃ao cap,e = .returned (.slice ao (m1.len+m2.len) cap)∧Fr [] w w'∧(∀x∈blk ao,w.heap.size≤x)∧∀W,W=x.1+y.1→In w' ⟨W,ao,m1.len+m2.len,cap⟩ (x.1+y.1,x.2++y.2):=by
 obtain⟨g1,A1,e1,_,l1,_⟩:=h1.shape;obtain⟨g2,A2,e2,_,l2,_⟩:=h2.shape;have i1:(ints x.2).length=m1.len*1:=by simp[ints,h1.len]
 have i2:(ints y.2).length=m2.len*1:=by simp[ints,h2.len]
 refine (qwa q m1.ao m2.ao m1.len m2.len m1.cap m2.cap (ints x.2) (ints y.2) w hq (qd4 h1.own) (qd4 h2.own) i1 i2 l1 l2 (λh=>by rw[e1]at h;cases h) (λh=>by rw[e2]at h;cases h) (qlm _) (qlm _) b1 b2).mono ?_;rintro e w' ⟨ao,cap,rfl,hm⟩;refine⟨ao,cap,rfl,hm.fr,hm.new,λW hW=>⟨hW,by simp[h1.len,h2.len],by have:=h1.pos;simp only;omega,?_⟩⟩;have:=hm.own;rwa [show ints x.2++ints y.2=ints (x.2++y.2) from by simp[ints]]at this
theorem qqx (g n cap:Nat) (ms:List Mc) (l:List Coin) (w:World) (hrow:w.ownsRow 0 258 2 (.slice (some ⟨g,0,none⟩) n cap) n (cellsOf ms)) (hin:Ins w ms l) (hn:ms.length=n) (hb:n≤100000)
  (hl:∀c∈l,c.1≤2^50∧c.2.length≤100000) :
  Calls Tryz.prog 163 #[.slice (some ⟨g,0,none⟩) n cap] w λe w'=>∃ao k cp ms',e = .returned (.slice ao k cp)∧k=(packs l).length∧Made w w' 258 2 ao k cp (cellsOf ms')∧Ins w' ms' (packs l)∧∀m∈ms',∀x∈blk m.ao,w.heap.size≤x:=by
 have H:=zhd4 hrow hin hn hl;clear hrow hin hn hl;obtain⟨hu,⟨ti,hi',hz',hs',hb'⟩,hcz,hp⟩:=qje;go_enter Tryz.func163,Tryz.ntmps163;go_wp2;go_loopg [3,4] n (λk s3 s4 wr=>∃(j:Nat) (ao:Option Addr) (cp i:Nat) (ms':List Mc),s3 = .slice ao j cp∧s4 = .int .i64 (i:Nat)∧i=2*j∧i+k=n+(if i≤n then 0 else 1)∧i≤n+1∧Made w wr 258 2 ao j cp (cellsOf ms')∧Ins wr ms' (packs (l.take (2*j)))∧∀m∈ms',∀x∈blk m.ao,w.heap.size≤x);case atStart=>exact⟨0,none,0,0,[],rfl,rfl,rfl,by simp,by omega,.none w _ _,⟨rfl,λi m c h=>by simp at h⟩,λm hm=>by simp at hm⟩
 case round=>
  obtain⟨j,ao,cp,i,ms',rfl,rfl,hij,hk,hin1,hm,hIn0⟩:=hrel;obtain⟨y,hy⟩:=zex (i+1);have e0:(i:Int)+1=(y:Int):=by omega
  by_cases hlt:y<n
  ·have HB:=zhd hIn0.2;have hIn:=hIn0.1;clear hIn0;obtain⟨hrow,hin,hnn,hl⟩:=H.out;have hrow1:=qa7 hrow hm.fr (by simp);obtain⟨m1,hm1⟩:∃m1,ms[i]?=some m1:=⟨_,qai (by omega)⟩;obtain⟨m2,hm2⟩:∃m2,ms[y]?=some m2:=⟨_,qai (by omega)⟩;obtain⟨c1,hc1⟩:∃c1,l[i]?=some c1:=⟨_,qai (by rw[<-hin.1];omega)⟩;obtain⟨c2,hc2⟩:∃c2,l[y]?=some c2:=⟨_,qai (by rw[<-hin.1];omega)⟩;have I1:=(hin.2 i m1 c1 hm1 hc1).fr0 hm.fr;have I2:=(hin.2 y m2 c2 hm2 hc2).fr0 hm.fr;have B1:=hl c1 (qa8 hc1);have B2:=hl c2 (qa8 hc2);have cc:∀(z:Nat) (m:Mc),ms[z]?=some m→z<n→∀W,(sup [] wr.drew W).cell? ⟨g,z*2,none⟩=some (.int .i64 (m.worth:Nat))∧(sup [] wr.drew W).cell? ⟨g,z*2+1,none⟩=some (.slice m.ao m.len m.cap):=λz m hz hzn W=>by have h2:=qa7 (qa7 hrow1 (Fr.drew1 [] wr) (by simp)) (qcm [] wr.drew W) (by simp);have:=qfx ms z m hz;rw[<-this.1,<-this.2];exact⟨qco h2 _ (by omega),qco h2 _ (by omega)⟩
   have d1:=λW=>(cc i m1 hm1 (by omega) W).1
   have d2:=λW=>(cc i m1 hm1 (by omega) W).2
   have d3:=λW=>(cc y m2 hm2 hlt W).1
   have d4:=λW=>(cc y m2 hm2 hlt W).2
   have v1:m1.worth≤2^50:=by rw[I1.worth];exact B1.1
   have v2:m2.worth≤2^50:=by rw[I2.worth];exact B2.1
   have v3:m1.len≤100000:=by rw[I1.len];exact B1.2
   have v4:m2.len≤100000:=by rw[I2.len];exact B2.2
   have hjj:j≤100000:=by omega
   have g1:decide ((n:Int)≤(i:Int))=false:=by simp;omega
   have g2:decide ((n:Int)≤(y:Int))=false:=by simp;omega
   obtain⟨W,hW⟩:=zex (m1.worth+m2.worth);have e9:(m1.worth:Int)+(m2.worth:Int)=(W:Int):=by omega
   have HW:=zhd hW;clear hW;have HI:=zhd9 I1 I2 hm hIn hk hij hc1 hc2 hy;clear hrow hin hl hrow1 hm1 hm2 hc1 hc2 I1 I2 B1 B2 cc hm hIn hk hij hy;go_upto_region 5 with fail;refine qb3 28 [(false,0),(false,1),(false,2),(false,3),(false,4),(false,5),(false,6),(false,7),(false,8),(false,9),(false,10),(false,11),(false,12),(false,13),(false,14),(false,15),(false,16),(false,17),(false,18),(false,19),(false,20),(false,21),(false,22),(false,23),(true,24),(true,25),(true,26),(true,27)] [] (by kernel_rfl) (by kernel_rfl) (λ_ _ d _ _ h=>by cases d<;>exact h) ?_;simp only[qak,qam,qaz,qa0,qad,qaj,qbk];refine qb0 24 rfl ?_;simp only[qah,qan,qad,qaj,qak,qam];repeat (go_big_quiet_step (fail))
   refine wpQuiet_nil ?_;clear d1 d2 d3 d4;refine qb6 rfl ?_;intro K hK;go_wp2;refine hK.out _ _ (Fr.from_drew ((Fr.refl [] wr).alloc _).drew) ?_;clear hK K;obtain⟨w2,hw2⟩:=zex ((wr.alloc (.cells #[.slice m1.ao m1.len m1.cap,.slice m2.ao m2.len m2.cap] 28 (0,0))).drew);have hq2:w2.heap[wr.heap.size]?=some (.cells #[.slice m1.ao m1.len m1.cap,.slice m2.ao m2.len m2.cap] 28 (0,0)):=by rw[hw2];exact qay wr _
   have f2:Fr [] wr w2:=by rw[hw2];exact ((Fr.refl [] wr).alloc _).drew
   rw[<-hw2];have hcat:=zg4 (HI.out.1.fr0 f2) (HI.out.2.1.fr0 f2) (by omega) (by omega) _ hq2;have HC:=zhd2 hcat f2;clear hcat f2 hq2 hw2;refine qb6 rfl ?_;intro K hK;go_wp2_with (go_at_call 184;refine HC.o0.mono ?_;rintro e w3 ⟨ao3,cp3,rfl,f3,nb3,in3⟩);refine hK.out _ _ f3 ?_;clear hK K;have H3:=zhd3 f3 nb3 in3;clear f3 in3 nb3;refine qb6 rfl ?_;intro K hK;go_wp2;refine hK.out _ _ (Fr.refl [] w3) ?_;clear hK K;refine qb6 rfl ?_;intro K hK;go_wp2;refine hK.out _ _ ((Fr.refl [] w3).alloc _) ?_;clear hK K;obtain⟨w4,hw4⟩:∃w4,w4=w3.alloc (.cells #[.int .i64 (W:Nat),.slice ao3 (m1.len+m2.len) cp3] 258 (0,0)):=⟨_,rfl⟩;have f4:Fr [] w3 w4:=by rw[hw4];exact (Fr.refl [] w3).alloc _
   have c4:Cs w4 (some ⟨w3.heap.size,0,none⟩) [.int .i64 W,.slice ao3 (m1.len+m2.len) cp3]:=by refine .inr ⟨_,0,rfl,λk v hv=>?_⟩;rw[hw4,cell_of (qay w3 _),qbg];simpa using hv
   rw[<-hw4];have hm4:=HI.out.2.2.1.fr2 ((HC.l1.trans H3.out.1).trans f4);have HD:=zhd3 hm4 c4 f4;clear hm4 c4 f4 hw4;refine qcq ?_;go_wp2_with (refine qba qje rfl _ _ rfl (.slice ao j cp) j (cellsOf ms') (blk ao) rfl (qby ao j cp) HD.out.1.own (some ⟨w3.heap.size,0,none⟩) 1 1 [.int .i64 W,.slice ao3 (m1.len+m2.len) cp3] rfl (qae _) (λh=>by cases h) HD.out.2.1 rfl (by intro u hu;simp only[qbh,qcw,or_false]at hu;rcases hu with rfl|rfl<;>rfl) (by omega) (by unfold maxLen;omega) ?_;intro ao5 cp5 w5 hap;have HA:=zhd hap;clear hap);go_roundg (gk-2);case measure=>obtain⟨_,_,_,_,hk,hij,_,_,hy⟩:=HI.out;simp only[show i≤n from by omega,if_true]at hk;omega
   case rel=>
    obtain⟨I1,I2,hm,hIn,hk,hij,hc1,hc2,hy⟩:=HI.out;simp only[show i≤n from by omega,if_true]at hk;obtain⟨hm4,c4,f4⟩:=HD.out;obtain⟨f3,nb3,in3⟩:=H3.out;have hap:=HA.out;refine⟨j+1,ao5,cp5,i+2,ms'++[⟨W,ao3,m1.len+m2.len,cp3⟩],rfl,by go_num,by omega,?_,by omega,?_,?_,?_⟩
    ·split<;>omega
    ·rw[qgp];exact hm4.app hap
    ·have k1:Ins w4 ms' (packs (l.take (2*j))):=hIn.fr0 ((HC.l1.trans f3).trans f4);have k2:In w4 ⟨W,ao3,m1.len+m2.len,cp3⟩ (c1.1+c2.1,c1.2++c2.2):=(in3 W (by rw[HW.out,I1.worth,I2.worth])).fr0 f4;have k3:=Ins.append k1 (Ins.one k2);rw[qn8 l j c1 c2 (by rw[<-hij];exact hc1) (by rw[<-hij,<-hy];exact hc2)];exact k3.typed hap.fr (qmr hm4.own)
    ·intro m hm' x hx;rcases qbu.1 hm' with q|q
     ·exact HB.out m q x hx
     ·rw[qa2.1 q]at hx;exact qar (hm.fr.trans HC.l1).size (nb3 x hx)
  ·have HI:=zhd5 hm hIn0.1 hij hy hIn0.2;clear hm hIn0;go_wp2;go_ret;obtain⟨hm,hIn,hij,hy,hnb⟩:=HI.out;have hl:packs (l.take (2*j))=packs l:=qxs l j (by rw[<-H.out.2.1.1,H.out.2.2.1];omega);rw[hl]at hIn;refine⟨ao,j,cp,ms',rfl,?_,hm,hIn,hnb⟩;have h1:=hm.own.1;rw[qd5,hIn.1]at h1;omega
theorem qug:∀{a b:List Nat},ints a=ints b→a=b
 | [],[],_=>rfl
 | [],y::b,h=>by simp[ints]at h
 | x::a,[],h=>by simp[ints]at h
 | x::a,y::b,h=>by simp only[ints,qak,qwh,Value.int.injEq,true_and]at h;obtain⟨h1,h2⟩:=h;rw[show x=y from by omega,qug (a:=a) (b:=b) h2]
theorem In.uniq {w:World} {m:Mc} {c c':Coin} (h:In w m c) (h':In w m c'):c=c':=by
 rcases h.own.2 with⟨h1,h2⟩|⟨g,cap,cur,h1,_,h2,_,_,_,h3⟩
 ·have:=h.pos;omega
 ·rcases h'.own.2 with⟨h1',h2'⟩|⟨g',cap',cur',h1',_,h2',_,_,_,h3'⟩
  ·have:=h'.pos;omega
  ·rw[h1]at h1';simp only[qbp,qaw,qcz,and_true,true_and]at h1';obtain⟨rfl,_⟩:=h1';rw[h2]at h2';simp only[qaw,Obj.cells.injEq,and_true,true_and]at h2';obtain rfl:=h2';have e:=qug (h3.symm.trans h3');exact Prod.ext (h.worth.symm.trans h'.worth) e
open Classical in
noncomputable def con (w:World) (m:Mc):Coin:=if h:∃c,In w m c then h.choose else (m.worth,[])
theorem zdz {w:World} {m:Mc} {c:Coin} (h:In w m c):con w m=c:=by unfold con;have hx:∃c,In w m c:=⟨c,h⟩;rw[dif_pos hx];exact hx.choose_spec.uniq h
theorem qnj (w:World) (m:Mc):(con w m).1=m.worth:=by
 unfold con;split
 ·rename_i h;exact h.choose_spec.worth.symm
 ·rfl
theorem Ins.con {w:World} {ms:List Mc} {l:List Coin} (h:Ins w ms l):l=ms.map (con w):=by
 refine qnv λi=>?_
 rw[qbl];rcases qb8 i l.length with k|k
 ·have h1:=qai (l:=ms) (show i<ms.length by rw[h.1];exact k);have h2:=qai k;rw[h1,h2,qfr,zdz (h.2 i _ _ h1 h2)]
 ·rw[qbo k,qbo (by rw[h.1];exact k)];rfl
theorem Stb.map {α β:Type} {a b:List (Nat×α)} (h:Stb a b) (g:Nat×α→Nat×β) (ha:∀x∈a,(g x).1=x.1) (hb:∀x∈b,(g x).1=x.1):Stb (a.map g) (b.map g):=λk=>by
 rw[List.filter_map,List.filter_map];have e1:a.filter ((λx:Nat×β=>x.1==k)∘g)=a.filter λx=>x.1==k:=List.filter_congr λx hx=>by simp[ha x hx]
 have e2:b.filter ((λx:Nat×β=>x.1==k)∘g)=b.filter λx=>x.1==k:=List.filter_congr λx hx=>by simp[hb x hx]
 rw[e1,e2,h k]
def m0:Mc:=⟨0,none,0,0⟩
def fn (ms:List Mc):Nat→Mc:=λi=>ms[i]?.getD m0
theorem zhh {w:World} {g n cap:Nat} {ms:List Mc} (h:w.ownsRow 0 258 2 (.slice (some ⟨g,0,none⟩) n cap) n (cellsOf ms)):∃A0,A0.size=cap*2∧Dw w g 258 A0 n (fn ms):=by
 have hl:=h.1;rw[qd5]at hl;rcases h.2 with⟨h1,_⟩|⟨g',cap',cur,h1,_,h2,h3,h4,h5,h6⟩
 ·cases h1
 ·simp only[qbp,qaw,qcz,and_true,true_and]at h1;obtain⟨rfl,rfl⟩:=h1;refine⟨cur,h5,cur,h2,rfl,by omega,λ_ _=>rfl,λi hi=>?_⟩;obtain⟨m,hm⟩:∃m,ms[i]?=some m:=⟨_,qai (by omega)⟩;have hf:fn ms i=m:=by simp[fn,hm]
  rw[hf];have hc:=qfx ms i m hm;rw[<-h6,qbs,qbs,if_pos (by omega),if_pos (by omega),qbz,qbz]at hc;exact hc
theorem zdq {w:World} {g n cap:Nat} {A0:Array Value} {f:Nat→Mc} (h:Dw w g 258 A0 n f) (h0:A0.size=cap*2) (hc:n≤cap) (hm:cap≤maxLen):w.ownsRow 0 258 2 (.slice (some ⟨g,0,none⟩) n cap) n (cellsOf ((List.range n).map f)):=by
 obtain⟨A,h1,h2,h3,_,h4⟩:=h;refine⟨by rw[qd5];simp,.inr ⟨g,cap,A,rfl,qa5 _,h1,hc,hm,by rw[h2,h0],?_⟩⟩;refine qnv λj=>?_
 rw[qbs];by_cases hj:j<n*2
 ·rw[if_pos hj,qbz];have hi:j/2<n:=by omega
  have hr:((List.range n).map f)[j/2]?=some (f (j/2)):=by simp[hi]
  have e1:=qfx _ _ _ hr;have e2:=h4 (j/2) hi;rcases qe7 j with k|k
  ·rw[show j=j/2*2 from by omega,e1.1];exact e2.1
  ·rw[show j=j/2*2+1 from by omega,e1.2];exact e2.2
 ·rw[if_neg hj,qbo (by rw[qd5];simp;omega)]
theorem qo7 (f:Nat→Mc) (n:Nat):sg f 0 n=((List.range n).map f).map tg:=by simp[sg,Function.comp_def]
theorem zcm {ms:List Mc} {n:Nat} (h:ms.length=n):(List.range n).map (fn ms)=ms:=by
 subst h;refine qnv λi=>?_
 rw[qbl];by_cases hi:i<ms.length
 ·rw[qwg hi];simp[fn,hi]
 ·rw[qbo (by simp;omega),qbo (by omega)];rfl
theorem qn0 (g n cap:Nat) (ms:List Mc) (l:List Coin) (w:World) (hrow:w.ownsRow 0 258 2 (.slice (some ⟨g,0,none⟩) n cap) n (cellsOf ms)) (hin:Ins w ms l) (hn:n≤100000)
  (hl:∀c∈l,c.1≤2^50) :
  Calls Tryz.prog 161 #[.slice (some ⟨g,0,none⟩) n cap,cmpV] w λe w'=>e = .returned (.tuple #[])∧
   ∃ms' l',w'.ownsRow 0 258 2 (.slice (some ⟨g,0,none⟩) n cap) n (cellsOf ms')∧Ins w' ms' l'∧Sorted l'∧Stb l' l∧Fr [g] w w'∧∀m∈ms',m∈ms:=by
 have hlen:ms.length=n:=by have:=hrow.1;rw[qd5]at this;omega
 obtain⟨A0,hA0,hD⟩:=zhh hrow;obtain⟨_,_,e1,e2,_⟩:=qn9 hrow;simp only[qbp,true_and]at e1;have hwb:Wb (fn ms):=λi=>by
  unfold fn;rcases qb8 i ms.length with k|k
  ·have h1:=qai k;have h2:=qai (l:=l) (show i<l.length by rw[<-hin.1];exact k);rw[h1];show ms[i].worth≤_;rw[(hin.2 i _ _ h1 h2).worth];exact hl _ (qdj _)
  ·rw[qbo k];exact qa5 _
 refine (zba g 258 A0 n cap (fn ms) w hD hn hwb).mono ?_;rintro e w' ⟨rfl,f',hD',hs,hf⟩;have h1:n≤cap∧cap≤maxLen:=by
  rcases hrow.2 with⟨h1,_⟩|⟨g',cap',cur,h1,_,h2,h3,h4,h5,h6⟩
  ·cases h1
  ·simp only[qbp,qaw,qcz,and_true,true_and]at h1;omega
 have hst:=hs.stb;have hsr:=hs.srt;rw[qp4,qo7,qo7,zcm hlen]at hst;rw[qp4,qo7]at hsr;obtain⟨ms',hms⟩:∃ms',ms'=(List.range n).map f':=⟨_,rfl⟩;rw[<-hms]at hst hsr;have hlen':ms'.length=n:=by rw[hms];simp
 have hmem:∀m∈ms',m∈ms:=λm hm=>by have h2:tg m∈ms'.map tg:=List.mem_map_of_mem hm;obtain⟨m',h3,h4⟩:=qcj.1 ((hst.mem _).1 h2);have:=congrArg Prod.snd h4;simp only[tg]at this;rw[<-this];exact h3
 have hcon:=hin.con;have hin1:Ins w ms' (ms'.map (con w)):=by
  refine⟨by simp,λi m c h1 h2=>?_⟩;rw[qbl,h1]at h2;simp only[qfr,qaw]at h2;obtain⟨j,hj⟩:=qdl.1 (hmem m (qa8 h1));have hj':j<l.length:=by rw[<-hin.1];exact (qa9.1 hj).1
  have:=hin.2 j m _ hj (qai hj');rw[<-h2,zdz this];exact this
 refine⟨rfl,ms',ms'.map (con w),by rw[hms];exact zdq hD' hA0 h1.1 h1.2,hin1.typed hf ?_,?_,?_,hf,hmem⟩
 ·exact qmr hrow
 ·unfold Srt at hsr;unfold Sorted;rw[List.pairwise_map]at hsr ⊢;refine hsr.imp λ{a b} h=>?_
  rw[qnj,qnj];exact h
 ·have hk:∀(k:List Mc) (x:Nat×Mc),x∈k.map tg→(con w x.2).1=x.1:=λk x hx=>by obtain⟨m,_,rfl⟩:=qcj.1 hx;exact qnj w m
  have:=hst.map (λx=>con w x.2) (β:=List Nat) (hk _) (hk _);rw[qhm,qhm]at this;rw[hcon];exact this
end Go.Proofs.YtkmpfgpfbmeihaaGreatDoor.huf
namespace Go.Proofs.YtkmpfgpfbmeihaaGreatDoor.huf
open Go
def ins (l:List Coin):List Nat:=l.flatMap (·.2)
theorem ins_append (a b:List Coin):ins (a++b)=ins a++ins b:=by simp[ins]
theorem quh {a b:List Coin} (h:a.Perm b):(ins a).Perm (ins b):=h.flatMap_right _
def ones (l:List Coin) (syms:List Nat):Prop:=l.map (·.2)=syms.map λs=>[s]
theorem qui {l:List Coin} {syms:List Nat} (h:ones l syms) (a:Nat):ins (l.take a)=syms.take a:=by unfold ins;rw[List.flatMap_def,qlc,h,<-qlc,<-List.flatMap_def];simp
theorem qfk:∀(syms:List Nat),syms.Nodup→∀(a i:Nat) (s:Nat),syms[i]?=some s→(syms.take a).count s=if i<a then 1 else 0
 | [],_,a,i,s,h=>by cases h
 | x::t,_,0,i,s,h=>by simp
 | x::t,hn,a+1,0,s,h=>by
  simp only[qac,qaw]at h;subst h;rw[qah,List.count_cons_self,List.count_eq_zero_of_not_mem λhm=>(List.nodup_cons.1 hn).1 (qb7 hm)];simp
 | x::t,hn,a+1,i+1,s,h=>by
  rw[qaf]at h;have hne:x≠s:=λe=>(List.nodup_cons.1 hn).1 (e▸qa8 h)
  rw[qah,List.count_cons_of_ne hne,qfk t (List.nodup_cons.1 hn).2 a i s h];simp only[Nat.add_lt_add_iff_right]
theorem qqn (l:List Coin) (syms:List Nat) (h1:ones l syms) (hn:syms.Nodup) (i s:Nat) (hi:syms[i]?=some s):∀k m,m≤(row l k).length→(ins ((row l k).take m)).count s=lenf l k m i
 | 0,m,hm=>by
  have:m=0:=by simpa[row] using hm
  subst this;rfl
 | k+1,m,hm=>by
  have hm':m≤l.length+(packs (row l k)).length:=by rw[row,qdv]at hm;exact hm
  obtain⟨_,_,h3⟩:=qgm l (packs (row l k)) m hm';have hp:=quh (qge l (packs (row l k)) m);rw[show mrg l (packs (row l k))=row l (k+1) from rfl]at hp;rw[hp.count_eq,ins_append,qfs,qui h1,qfk syms hn _ i s hi];change (sl l k m).2≤_ at h3;have hpk:ins ((packs (row l k)).take (sl l k m).2)=ins ((row l k).take (2*(sl l k m).2)):=qmq _ _ h3;rw[qdo]at h3;rw[lenf,<-qqn l syms h1 hn i s hi k (2*(sl l k m).2) (by omega),<-hpk];rfl
theorem qip (l:List Coin) (syms:List Nat) (h1:ones l syms) (s:Nat) (hs:s∉syms):∀k m,m≤(row l k).length→(ins ((row l k).take m)).count s=0
 | 0,m,hm=>by
  have:m=0:=by simpa[row] using hm
  subst this;rfl
 | k+1,m,hm=>by
  have hm':m≤l.length+(packs (row l k)).length:=by rw[row,qdv]at hm;exact hm
  obtain⟨_,_,h3⟩:=qgm l (packs (row l k)) m hm';have hp:=quh (qge l (packs (row l k)) m);rw[show mrg l (packs (row l k))=row l (k+1) from rfl]at hp;rw[hp.count_eq,ins_append,qfs,qui h1,List.count_eq_zero_of_not_mem λhm=>hs (qb7 hm)];change (sl l k m).2≤_ at h3;have hpk:ins ((packs (row l k)).take (sl l k m).2)=ins ((row l k).take (2*(sl l k m).2)):=qmq _ _ h3;rw[qdo]at h3;change 0+(ins ((packs (row l k)).take (sl l k m).2)).count s=0;rw[hpk,qip l syms h1 s hs k _ (by omega)]
end Go.Proofs.YtkmpfgpfbmeihaaGreatDoor.huf
