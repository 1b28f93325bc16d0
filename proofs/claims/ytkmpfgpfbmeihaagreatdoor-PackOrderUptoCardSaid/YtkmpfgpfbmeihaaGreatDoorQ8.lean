/-
  Texts of this proof, one behind the other: SortD, SortE, SortF, Concat.
-/
import Derived.Test.YtkmpfgpfbmeihaaGreatDoorQ7
set_option maxHeartbeats 16000000
set_option maxRecDepth 100000
set_option linter.unusedVariables false
set_option linter.unusedSimpArgs false
namespace Go.Proofs.YtkmpfgpfbmeihaaGreatDoor
namespace huf
open Go Go.RowKit lib bm bl
def iW (g:Nat) (T:TypeId) (A0:AV) (L cap a m b:Nat) (f:Nat->Mc) (w:World):Prop:=
 Calls Tryz.prog 202 #[.slice (some ⟨g,0,none⟩) L cap,.int .i64 (a:Nat),.int .i64 (m:Nat),.int .i64 (b:Nat),jY] w λe w'=>e = .returned (.tuple #[])/\∃f',Dw w' g T A0 L f'/\Sd f f' a b/\Fr [g] w w'
theorem zf0 (g:Nat) (T:TypeId) (A0:AV) (L cap a m b:Nat) (f:Nat->Mc) (w:World)
  (h:Dw w g T A0 L f) (AG:m=a+1) (oM:m<b) (GR:b<=L) (hL:L<=100000) (dH:Wb f) (hB:iE (sg f m (b-m))):iW g T A0 L cap a m b f w:=by
 have H:=aG h AG oM hB;have e0:(m:Int)-(a:Int)=1:=by omega
 have xD:a<b:=by omega
 clear h hB AG;unfold iW jY;go_enter Tryz.func202,Tryz.ntmps202;go_upto_block 0 with fail;go_wp2;go_loopg [10,11,12] (b-m) (λk s10 s11 s12 wr=>∃i j:Nat,s10 = .int .i64 (i:Nat)/\s11 = .int .i64 (j:Nat)/\j=i+k/\m<=i/\j<=b/\(m<i->(f (i-1)).worth<(f a).worth)/\(j<b->(f a).worth<=(f j).worth)/\Dw wr g T A0 L f/\Fr [g] w wr);case atStart=>exact⟨m,b,rfl,rfl,by omega,ay _,ay _,λh=>absurd h (by omega),λh=>absurd h (by omega),H.o0,.refl _ w⟩
 case round=>
  obtain⟨i,j,rfl,rfl,hk,h1,h2,h3,h4,hD,hf⟩:=hrel;by_cases mO:i<j
  ·obtain⟨s,hs⟩:=ai (i+j);have e1:(i:Int)+(j:Int)=(s:Int):=by omega
   obtain⟨hh,yA⟩:=ai (s/2);have e2:(s:Int)/2=(hh:Int):=by omega
   have hhL:hh<L:=by omega
   have lh:s<=200000:=by omega
   have HI:=cJ hk h3 h4 hf hs yA;clear hk h3 h4 hf hs yA;have g2:decide ((L:Int)<=(hh:Int))=false:=by simp;omega
   have g4:decide ((L:Int)<=(a:Int))=false:=by simp;omega
   have yS:=λx=>hD.drew.kW (i:=hh) (by omega) x
   have yR:=λx=>hD.drew.kW (i:=a) (by omega) x
   have bb0:=dH (hh);have bb1:=dH (a);obtain⟨p,hp⟩:=ai ((f) (hh));obtain⟨r,hr⟩:=ai ((f) (a));rw[<-hp]at bb0 yS;rw[<-hr]at bb1 yR;have CA:=λx=>(yS x).1
   have Cz:=λx=>(yS x).2
   have d10:=λx=>(yR x).1
   have d11:=λx=>(yR x).2
   have HP:=aw hp hr hD;clear hp hr hD yS yR;go_upto_region 5 with fail;refine j4 11 [(false,0),(false,1),(false,2),(false,3),(false,4),(false,5),(false,6),(false,7),(false,8),(true,9),(false,10)] [] (by kernel_rfl) (by kernel_rfl) (λ_ _ d _ _ h=>by cases d<;>exact h) ?_;simp only[jm];refine dT 9 rfl ?_;simp only[bD];repeat (go_big_quiet_step (fail))
   refine wpQuiet_nil ?_;refine eT rfl ?_;intro K hK;go_wp2_with (go_at_call 160;refine (Sw p r wr.drew bb0 bb1).mono ?_;rintro e w1 ⟨rfl,jT⟩);refine hK.out _ _ jT ?_;clear hK K CA Cz d10 d11;have HC:Hid (Dw w1 g T A0 L (f)/\Fr [] wr w1):=ah ⟨HP.out.2.2.drew.fr jT,(Fr.av [] wr).trans jT⟩;clear jT;clear g2 g4;by_cases hpr:p.worth<r.worth
   ·have g5:decide (((p.worth:Int)-(r.worth:Int))<0)=true:=by simp;omega
    refine dT 1 rfl ?_;simp only[bD];repeat (go_big_quiet_step (fail))
    refine wpQuiet_nil ?_;refine ic ?_;go_wp2;go_roundg (j-(hh+1));case measure=>have:=HI.out.1;have:=HI.out.2.2.2.2;omega
    case rel=>obtain⟨hk,h3,h4,hf,hs,yA⟩:=HI.out;obtain⟨hp,hr,hD⟩:=HP.out;refine⟨hh+1,j,by go_num,rfl,by omega,by omega,h2,λ_=>by rw[Ir,<-hp,<-hr];exact hpr,h4,HC.o0,hf.trans (HC.l1.mono (by simp))⟩
   ·have g5:decide (((p.worth:Int)-(r.worth:Int))<0)=false:=by simp;omega
    refine dT 1 rfl ?_;simp only[bD];repeat (go_big_quiet_step (fail))
    refine wpQuiet_nil ?_;refine ic ?_;go_wp2;go_roundg (hh-i);case measure=>have:=HI.out.1;have:=HI.out.2.2.2.2;omega
    case rel=>obtain⟨hk,h3,h4,hf,hs,yA⟩:=HI.out;obtain⟨hp,hr,hD⟩:=HP.out;refine⟨i,hh,rfl,rfl,by omega,h1,by omega,h3,λ_=>by rw[<-hp,<-hr];omega,HC.o0,hf.trans (HC.l1.mono (by simp))⟩
  ·obtain rfl:i=j:=by omega
   have HI:=aG h3 h4 hD hf;clear h3 h4 hD hf hk;obtain⟨q,hq⟩:=ai (i-1);have e1:(i:Int)-1=(q:Int):=by omega
   have AG:m=a+1:=H.o1;have Ty:a<=q:=by omega
   have BO:i=q+1:=by omega
   clear AG;have HQ:=ak hq BO;clear hq BO;go_wp2;go_loopg [13] (q-a) (λk s13 wr=>∃t:Nat,s13 = .int .i64 (t:Nat)/\t+k=q/\a<=t/\Dw wr g T A0 L (aP f a (a+1) (t+1))/\Fr [g] w wr);case atStart=>exact⟨a,rfl,by omega,ay _,by rw[FU f a (a+1) (a+1) (by omega) (ay _) (.inr rfl)];exact HI.out.2.2.1,HI.out.2.2.2⟩
   case round=>
    obtain⟨t,rfl,cH,bR,hD,hf⟩:=hrel;by_cases ht:t<q
    ·obtain⟨k2,rfl⟩:∃k2,gk=k2+1:=⟨gk-1,by omega⟩;obtain⟨wo,rfl⟩:∃wo:World,wo=wr:=⟨_,rfl⟩;obtain⟨y,hy⟩:=ai (t+1);have e2:(t:Int)+1=(y:Int):=by omega
     have hqL:q<L:=by have:=HQ.out.2;omega
     have mz:t<L:=by omega
     have qB:y<L:=by omega
     have pJ:t≠y:=by omega
     have g2:decide ((L:Int)<=(t:Int))=false:=by simp;omega
     have g4:decide ((L:Int)<=(y:Int))=false:=by simp;omega
     have HJ:=aw hf cH hy;clear hf cH hy;obtain⟨A,hA,dW,nF,dZ,jG⟩:=hD;have X:=jG t mz;have Y:=jG y qB;obtain⟨cx,lH⟩:=ai ((aP f a (a+1) (t+1)) t);obtain⟨cy,lX⟩:=ai ((aP f a (a+1) (t+1)) y);rw[<-lH]at X;rw[<-lX]at Y;obtain⟨CB,CF,CC,CD⟩:=cx;obtain⟨vJ,vM,vK,vL⟩:=cy;have d0:=(cell_of hA (t*2)).trans X.1;have d1:=(cell_of hA (t*2+1)).trans X.2;have d2:=(cell_of hA (y*2)).trans Y.1;have d3:=(cell_of hA (y*2+1)).trans Y.2;simp only at d0 d1 d2 d3;have iF:=dk hA dW nF dZ jG lH lX;clear hA dW nF dZ jG lH lX X Y;go_upto_region 11 with fail;refine Iy [(0,0),(0,1),(0,2),(0,3),(0,4),(0,5),(0,6),(0,7),(0,8),(1,9),(0,10),(0,11),(0,12),(1,13),(0,14),(2,15),(0,16),(2,17)] [g] [15,17] (by kernel_rfl) (by kernel_rfl) (λ_ _ d _ _ h=>by cases d<;>exact h) ?_;simp only[gX,qq,Bq,Bp];refine nN 9 rfl ?_;simp only[bD];repeat (go_big_quiet_step (fail))
     refine wpQuiet_nil ?_;refine x5 1 rfl ?_;simp only[bD];repeat (go_big_quiet_step (fail))
     refine wpQuiet_nil ?_;refine nN 3 rfl ?_;simp only[bD];repeat (go_big_quiet_step (fail))
     refine wpQuiet_nil ?_;refine x5 1 rfl ?_;simp only[bD];repeat (go_big_quiet_step (fail))
     refine wpQuiet_nil ?_;refine nN 1 rfl ?_;simp only[bD];repeat (go_big_quiet_step (fail))
     refine wpQuiet_nil ?_;refine xZ rfl ?_;intro K hK;have z0:=aW iF.out.1 (t*2);have z1:=aW iF.out.1 (t*2+1);go_wp2;refine hK.out _ _ (Fr.bA ((((Fr.refl [g] wo).setCell (by simp) _).setCell (by simp) _).drew)) ?_;clear hK K z0 z1;obtain⟨gV,dJ⟩:∃gV,gV=((wo.setCell ⟨g,t*2,none⟩ (.int .i64 (vJ:Nat))).setCell ⟨g,t*2+1,none⟩ (.slice vM vK vL)):=⟨_,rfl⟩;rw[<-dJ];have dI:=bI (o:=t*2+1) (bI (o:=t*2) iF.out.1 (.int .i64 vJ)) (.slice vM vK vL);rw[<-dJ]at dI;obtain⟨A1,hB⟩:∃A1,A1=(A.setIfInBounds (t*2) (.int .i64 (vJ:Nat))).setIfInBounds (t*2+1) (.slice vM vK vL):=⟨_,rfl⟩;rw[<-hB]at dI;have z0:=aW dI (y*2);have z1:=aW dI (y*2+1);have c2:gV.cell? ⟨g,y*2,none⟩=some (.int .i64 vJ):=by rw[cell_of dI,hB,aX (by omega),aX (by omega),<-cell_of iF.out.1];exact d2
     have c3:gV.cell? ⟨g,y*2+1,none⟩=some (.slice vM vK vL):=by rw[cell_of dI,hB,aX (by omega),aX (by omega),<-cell_of iF.out.1];exact d3
     have AL:=aw dI hB dJ;clear dI hB dJ d0 d1 d2 d3;refine nN 1 rfl ?_;simp only[bD];repeat (go_big_quiet_step (fail))
     refine wpQuiet_nil ?_;refine xZ rfl ?_;intro K hK;go_wp2;refine hK.out _ _ (Fr.bA ((((Fr.refl [g] gV).setCell (by simp) _).setCell (by simp) _).drew)) ?_;clear hK K z0 z1 c2 c3;refine Il ?_;obtain⟨w2,bL⟩:∃w2,w2=((gV.setCell ⟨g,y*2,none⟩ (.int .i64 (CB:Nat))).setCell ⟨g,y*2+1,none⟩ (.slice CF CC CD)):=⟨_,rfl⟩;rw[<-bL];have HZ:Hid (Dw w2 g T A0 L (swp (aP f a (a+1) (t+1)) y t)/\Fr [g] wo w2):=by obtain⟨hA,dW,nF,dZ,jG,lH,lX⟩:=iF.out;obtain⟨dI,hB,dJ⟩:=AL.out;have jv:=bI (o:=y*2+1) (bI (o:=y*2) dI (.int .i64 CB)) (.slice CF CC CD);rw[hB,<-bL]at jv;exact ah ⟨Dw.swap _ CB CF CC CD vJ vM vK vL dW nF dZ jG mz qB lH lX jv,by rw[bL,dJ];exact ((((Fr.refl [g] wo).setCell (by simp) _).setCell (by simp) _).setCell (by simp) _).setCell (by simp) _⟩
     clear bL;clear g2 g4;go_wp2;go_roundg k2;case measure=>have:=HJ.out.2.1;omega
     case rel=>obtain⟨hf,cH,hy⟩:=HJ.out;refine⟨y,by go_num,by omega,by omega,?_,hf.trans HZ.l1.drew⟩;have:=HZ.o0;rw[hy,kH,zho f a t bR]at this;rw[hy];exact this.drew
    ·obtain rfl:t=q:=by omega
     have HJ:=ak hD hf;clear hD hf cH;go_wp2;(try simp only[Exit.inBlock,Exit.then]);refine bodyPost_ret (results_none rfl _ _ _) rfl ?_;obtain⟨hq,BO⟩:=HQ.out;refine⟨rfl,_,HJ.out.1,?_,HJ.out.2⟩;rw[<-BO];have AG:m=a+1:=H.o1;exact zf9 f a i b (by omega) h2 (by have:=H.l3;rw[AG]at this;exact this) (λh=>HI.out.1 (by omega)) (λh=>HI.out.2.1 h)
theorem zfz (g:Nat) (T:TypeId) (A0:AV) (L cap a m b:Nat) (f:Nat->Mc) (w:World)
  (h:Dw w g T A0 L f) (AG:a<m) (cQ:m≠a+1) (oM:b=m+1) (GR:b<=L) (hL:L<=100000) (dH:Wb f) (hA:iE (sg f a (m-a))):iW g T A0 L cap a m b f w:=by
 have H:=aG h AG oM hA;have e00:(((m:Int)-(a:Int))==1)=false:=by simp only[beq_eq_false_iff_ne];omega
 have e0:(b:Int)-(m:Int)=1:=by omega
 have xD:a<b:=by omega
 have hmL:m<L:=by omega
 clear h hA oM cQ;unfold iW jY;go_enter Tryz.func202,Tryz.ntmps202;go_upto_block 4 with fail;go_wp2;go_loopg [14,15,16] (m-a) (λk s14 s15 s16 wr=>∃i j:Nat,s14 = .int .i64 (i:Nat)/\s15 = .int .i64 (j:Nat)/\j=i+k/\a<=i/\j<=m/\(a<i->(f (i-1)).worth<=(f m).worth)/\(j<m->(f m).worth<(f j).worth)/\Dw wr g T A0 L f/\Fr [g] w wr);case atStart=>exact⟨a,m,rfl,rfl,by omega,ay _,ay _,λh=>absurd h (by omega),λh=>absurd h (by omega),H.o0,.refl _ w⟩
 case round=>
  obtain⟨i,j,rfl,rfl,hk,h1,h2,h3,h4,hD,hf⟩:=hrel;by_cases mO:i<j
  ·obtain⟨s,hs⟩:=ai (i+j);have e1:(i:Int)+(j:Int)=(s:Int):=by omega
   obtain⟨hh,yA⟩:=ai (s/2);have e2:(s:Int)/2=(hh:Int):=by omega
   have hhL:hh<L:=by omega
   have lh:s<=200000:=by omega
   have HI:=cJ hk h3 h4 hf hs yA;clear hk h3 h4 hf hs yA;have g2:decide ((L:Int)<=(hh:Int))=false:=by simp;omega
   have g4:decide ((L:Int)<=(m:Int))=false:=by simp;omega
   have yS:=λx=>hD.drew.kW (i:=m) (by omega) x
   have yR:=λx=>hD.drew.kW (i:=hh) (by omega) x
   have bb0:=dH (m);have bb1:=dH (hh);obtain⟨p,hp⟩:=ai ((f) (m));obtain⟨r,hr⟩:=ai ((f) (hh));rw[<-hp]at bb0 yS;rw[<-hr]at bb1 yR;have CA:=λx=>(yS x).1
   have Cz:=λx=>(yS x).2
   have d10:=λx=>(yR x).1
   have d11:=λx=>(yR x).2
   have HP:=aw hp hr hD;clear hp hr hD yS yR;go_upto_region 17 with fail;refine j4 12 [(false,0),(false,1),(false,2),(false,3),(false,4),(false,5),(false,6),(false,7),(false,8),(true,9),(false,10),(false,11)] [] (by kernel_rfl) (by kernel_rfl) (λ_ _ d _ _ h=>by cases d<;>exact h) ?_;simp only[jm];refine dT 9 rfl ?_;simp only[bD];repeat (go_big_quiet_step (fail))
   refine wpQuiet_nil ?_;refine eT rfl ?_;intro K hK;go_wp2_with (go_at_call 160;refine (Sw p r wr.drew bb0 bb1).mono ?_;rintro e w1 ⟨rfl,jT⟩);refine hK.out _ _ jT ?_;clear hK K CA Cz d10 d11;have HC:Hid (Dw w1 g T A0 L (f)/\Fr [] wr w1):=ah ⟨HP.out.2.2.drew.fr jT,(Fr.av [] wr).trans jT⟩;clear jT;clear g2 g4;by_cases hpr:p.worth<r.worth
   ·have g5:decide (((p.worth:Int)-(r.worth:Int))<0)=true:=by simp;omega
    refine dT 2 rfl ?_;simp only[bD];repeat (go_big_quiet_step (fail))
    refine wpQuiet_nil ?_;refine ic ?_;go_wp2;go_roundg (hh-i);case measure=>have:=HI.out.1;have:=HI.out.2.2.2.2;omega
    case rel=>obtain⟨hk,h3,h4,hf,hs,yA⟩:=HI.out;obtain⟨hp,hr,hD⟩:=HP.out;refine⟨i,hh,rfl,rfl,by omega,h1,by omega,h3,λ_=>by rw[<-hp,<-hr];exact hpr,HC.o0,hf.trans (HC.l1.mono (by simp))⟩
   ·have g5:decide (((p.worth:Int)-(r.worth:Int))<0)=false:=by simp;omega
    refine dT 2 rfl ?_;simp only[bD];repeat (go_big_quiet_step (fail))
    refine wpQuiet_nil ?_;refine ic ?_;go_wp2;go_roundg (j-(hh+1));case measure=>have:=HI.out.1;have:=HI.out.2.2.2.2;omega
    case rel=>obtain⟨hk,h3,h4,hf,hs,yA⟩:=HI.out;obtain⟨hp,hr,hD⟩:=HP.out;refine⟨hh+1,j,by go_num,rfl,by omega,by omega,h2,λ_=>by rw[Ir,<-hp,<-hr];omega,h4,HC.o0,hf.trans (HC.l1.mono (by simp))⟩
  ·obtain rfl:i=j:=by omega
   have HI:=aG h3 h4 hD hf;clear h3 h4 hD hf hk;go_wp2;go_loopg [17] (m-i) (λk s17 wr=>∃t:Nat,s17 = .int .i64 (t:Nat)/\t=i+k/\t<=m/\Dw wr g T A0 L (aP f t m (m+1))/\Fr [g] w wr);case atStart=>exact⟨m,rfl,by omega,ay _,by rw[FU f m m (m+1) (by omega) (by omega) (.inl rfl)];exact HI.out.2.2.1,HI.out.2.2.2⟩
   case round=>
    obtain⟨t,rfl,cH,htm,hD,hf⟩:=hrel;by_cases ht:i<t
    ·obtain⟨k2,rfl⟩:∃k2,gk=k2+1:=⟨gk-1,by omega⟩;obtain⟨wo,rfl⟩:∃wo:World,wo=wr:=⟨_,rfl⟩;obtain⟨y,hy⟩:=ai (t-1);have e2:(t:Int)-1=(y:Int):=by omega
     have mz:t<L:=by omega
     have qB:y<L:=by omega
     have pJ:t≠y:=by omega
     have g2:decide ((L:Int)<=(t:Int))=false:=by simp;omega
     have g4:decide ((L:Int)<=(y:Int))=false:=by simp;omega
     have HJ:=aw hf cH hy;clear hf cH hy;obtain⟨A,hA,dW,nF,dZ,jG⟩:=hD;have X:=jG t mz;have Y:=jG y qB;obtain⟨cx,lH⟩:=ai ((aP f t m (m+1)) t);obtain⟨cy,lX⟩:=ai ((aP f t m (m+1)) y);rw[<-lH]at X;rw[<-lX]at Y;obtain⟨CB,CF,CC,CD⟩:=cx;obtain⟨vJ,vM,vK,vL⟩:=cy;have d0:=(cell_of hA (t*2)).trans X.1;have d1:=(cell_of hA (t*2+1)).trans X.2;have d2:=(cell_of hA (y*2)).trans Y.1;have d3:=(cell_of hA (y*2+1)).trans Y.2;simp only at d0 d1 d2 d3;have iF:=dk hA dW nF dZ jG lH lX;clear hA dW nF dZ jG lH lX X Y;go_upto_region 23 with fail;refine Iy [(0,0),(0,1),(0,2),(0,3),(0,4),(0,5),(0,6),(0,7),(0,8),(1,9),(0,10),(0,11),(0,12),(1,13),(0,14),(2,15),(0,16),(2,17)] [g] [15,17] (by kernel_rfl) (by kernel_rfl) (λ_ _ d _ _ h=>by cases d<;>exact h) ?_;simp only[gX,qq,Bq,Bp];refine nN 9 rfl ?_;simp only[bD];repeat (go_big_quiet_step (fail))
     refine wpQuiet_nil ?_;refine x5 1 rfl ?_;simp only[bD];repeat (go_big_quiet_step (fail))
     refine wpQuiet_nil ?_;refine nN 3 rfl ?_;simp only[bD];repeat (go_big_quiet_step (fail))
     refine wpQuiet_nil ?_;refine x5 1 rfl ?_;simp only[bD];repeat (go_big_quiet_step (fail))
     refine wpQuiet_nil ?_;refine nN 1 rfl ?_;simp only[bD];repeat (go_big_quiet_step (fail))
     refine wpQuiet_nil ?_;refine xZ rfl ?_;intro K hK;have z0:=aW iF.out.1 (t*2);have z1:=aW iF.out.1 (t*2+1);go_wp2;refine hK.out _ _ (Fr.bA ((((Fr.refl [g] wo).setCell (by simp) _).setCell (by simp) _).drew)) ?_;clear hK K z0 z1;obtain⟨gV,dJ⟩:∃gV,gV=((wo.setCell ⟨g,t*2,none⟩ (.int .i64 (vJ:Nat))).setCell ⟨g,t*2+1,none⟩ (.slice vM vK vL)):=⟨_,rfl⟩;rw[<-dJ];have dI:=bI (o:=t*2+1) (bI (o:=t*2) iF.out.1 (.int .i64 vJ)) (.slice vM vK vL);rw[<-dJ]at dI;obtain⟨A1,hB⟩:∃A1,A1=(A.setIfInBounds (t*2) (.int .i64 (vJ:Nat))).setIfInBounds (t*2+1) (.slice vM vK vL):=⟨_,rfl⟩;rw[<-hB]at dI;have z0:=aW dI (y*2);have z1:=aW dI (y*2+1);have c2:gV.cell? ⟨g,y*2,none⟩=some (.int .i64 vJ):=by rw[cell_of dI,hB,aX (by omega),aX (by omega),<-cell_of iF.out.1];exact d2
     have c3:gV.cell? ⟨g,y*2+1,none⟩=some (.slice vM vK vL):=by rw[cell_of dI,hB,aX (by omega),aX (by omega),<-cell_of iF.out.1];exact d3
     have AL:=aw dI hB dJ;clear dI hB dJ d0 d1 d2 d3;refine nN 1 rfl ?_;simp only[bD];repeat (go_big_quiet_step (fail))
     refine wpQuiet_nil ?_;refine xZ rfl ?_;intro K hK;go_wp2;refine hK.out _ _ (Fr.bA ((((Fr.refl [g] gV).setCell (by simp) _).setCell (by simp) _).drew)) ?_;clear hK K z0 z1 c2 c3;refine Il ?_;obtain⟨w2,bL⟩:∃w2,w2=((gV.setCell ⟨g,y*2,none⟩ (.int .i64 (CB:Nat))).setCell ⟨g,y*2+1,none⟩ (.slice CF CC CD)):=⟨_,rfl⟩;rw[<-bL];have HZ:Hid (Dw w2 g T A0 L (swp (aP f t m (m+1)) y t)/\Fr [g] wo w2):=by obtain⟨hA,dW,nF,dZ,jG,lH,lX⟩:=iF.out;obtain⟨dI,hB,dJ⟩:=AL.out;have jv:=bI (o:=y*2+1) (bI (o:=y*2) dI (.int .i64 CB)) (.slice CF CC CD);rw[hB,<-bL]at jv;exact ah ⟨Dw.swap _ CB CF CC CD vJ vM vK vL dW nF dZ jG mz qB lH lX jv,by rw[bL,dJ];exact ((((Fr.refl [g] wo).setCell (by simp) _).setCell (by simp) _).setCell (by simp) _).setCell (by simp) _⟩
     clear bL;clear g2 g4;go_wp2;go_roundg k2;case measure=>have:=HJ.out.2.1;omega
     case rel=>obtain⟨hf,cH,hy⟩:=HJ.out;refine⟨y,by go_num,by omega,by omega,?_,hf.trans HZ.l1.drew⟩;have:=HZ.o0;rw[hy,kH,Sl f m t (by omega) htm]at this;rw[hy];exact this.drew
    ·obtain rfl:t=i:=by omega
     have HJ:=ak hD hf;clear hD hf cH;go_wp2;(try simp only[Exit.inBlock,Exit.then]);refine bodyPost_ret (results_none rfl _ _ _) rfl ?_;refine⟨rfl,_,HJ.out.1,?_,HJ.out.2⟩;have oM:b=m+1:=H.o2;rw[oM];exact Lk f a m t h1 htm H.l3 (λh=>HI.out.1 h) (λh=>HI.out.2.1 h)
theorem zca (g:Nat) (T:TypeId) (A0:AV) (L cap a m b:Nat) (f:Nat->Mc) (w:World)
  (ih:∀(a' m' b':Nat) (f':Nat->Mc) (w':World),b'-a'<b-a->Dw w' g T A0 L f'->a'<m'->m'<b'->b'<=L->Wb f'->iE (sg f' a' (m'-a'))->iE (sg f' m' (b'-m'))->iW g T A0 L cap a' m' b' f' w')
  (h:Dw w g T A0 L f) (AG:a<m) (cQ:m≠a+1) (oM:m<b) (Pf:b≠m+1) (GR:b<=L) (hL:L<=100000) (dH:Wb f) (hA:iE (sg f a (m-a))) (hB:iE (sg f m (b-m))):iW g T A0 L cap a m b f w:=by
 obtain⟨s,hs⟩:=ai (a+b);obtain⟨mid,pn⟩:=ai (s/2);obtain⟨n,hn⟩:=ai (mid+m);obtain⟨p,hp⟩:=ai (n-1);have e00:(((m:Int)-(a:Int))==1)=false:=by simp only[beq_eq_false_iff_ne];omega
 have e01:(((b:Int)-(m:Int))==1)=false:=by simp only[beq_eq_false_iff_ne];omega
 have e1:(a:Int)+(b:Int)=(s:Int):=by omega
 have e2:(s:Int)/2=(mid:Int):=by omega
 have e3:(mid:Int)+(m:Int)=(n:Int):=by omega
 have e4:(n:Int)-1=(p:Int):=by omega
 have b1:s<=200000:=by omega
 have b2:n<=200000:=by omega
 have b3:p<=200000:=by omega
 have b4:mid<=100000:=by omega
 have H:=aQ h hA hB dH ih;have H0:=oU AG oM GR hs pn hn hp cQ Pf;clear h hA hB dH ih AG oM hs pn hn hp cQ Pf;unfold iW jY;go_enter Tryz.func202,Tryz.ntmps202;go_upto_region 27 with fail;clear e00 e01 e1 e2 e3;obtain⟨wo,I4⟩:∃wo:World,wo=w:=⟨_,rfl⟩;rw[<-I4];have tF:=ah I4;clear I4;have dP:∀k:Prop,(m<=mid->k)->(¬m<=mid->k)->k:=λk h1 h2=>by by_cases h:m<=mid;exact h1 h;exact h2 h
 go_cut [140] from 138 to 141 (λs140 wz=>s140 = .bool (decide (mid<m))/\wo=wz)
 case first=>
  by_cases hm:mid<m
  ·have q1:decide ((mid:Int)<(m:Int))=true:=by simp;omega
   go_wp2;go_meet;exact⟨by simp[hm],rfl⟩
  ·have q1:decide ((mid:Int)<(m:Int))=false:=by simp;omega
   go_wp2;go_meet;exact⟨by simp[hm],rfl⟩
 case rest=>
 obtain⟨rfl,rfl⟩:=hcut;go_upto_if 140 with fail;go_cut [20,21] from 141 to 147 (λs20 s21 wz=>∃s0 r0:Nat,s20 = .int .i64 (s0:Nat)/\s21 = .int .i64 (r0:Nat)/\((s0=a\/s0+b=n)/\(r0=mid\/r0=m)/\s0<=r0/\a<=s0/\n<=s0+b/\r0<=m/\r0<=mid)/\wo=wz)
 case first=>
  obtain⟨k1,k2,k3,k4,k5,k6,k7,k8,k9⟩:=H0.out;by_cases hm:mid<m
  ·have q1:decide (mid<m)=true:=by simp;omega
   obtain⟨s0,mB⟩:=ai (n-b);have e5:(n:Int)-(b:Int)=(s0:Int):=by omega
   have HK:=dk k1 k2 k3 k4 k5 k6 mB;clear k1 k2 k3 k4 k5 k6 k7 k8 k9 mB;go_wp2;go_meet;obtain⟨k1,k2,k3,k4,k5,k6,mB⟩:=HK.out;exact⟨s0,mid,rfl,rfl,by omega,rfl⟩
  ·have q1:decide (mid<m)=false:=by simp;omega
   have HK:=cJ k1 k2 k3 k4 k5 k6;clear k1 k2 k3 k4 k5 k6 k7 k8 k9;go_wp2;go_meet;obtain⟨k1,k2,k3,k4,k5,k6⟩:=HK.out;exact⟨a,m,rfl,rfl,by omega,rfl⟩
 case rest=>
 obtain⟨s0,r0,rfl,rfl,h0,rfl⟩:=hcut;have H1:=ah h0;clear h0 dP;go_wp2;go_loopg [20,21,23] (r0-s0) (λk s20 s21 s23 wr=>∃i j:Nat,s20 = .int .i64 (i:Nat)/\s21 = .int .i64 (j:Nat)/\j=i+k/\s0<=i/\j<=r0/\(s0<i->(f (i-1)).worth<=(f (p-(i-1))).worth)/\(j<r0->(f (p-j)).worth<(f j).worth)/\Dw wr g T A0 L f/\Fr [g] w wr);case atStart=>obtain⟨k1,k2,k3,_⟩:=H1.out;exact⟨s0,r0,rfl,rfl,by omega,ay _,ay _,λh=>absurd h (by omega),λh=>absurd h (by omega),by rw[tF.out];exact H.o0,by rw[tF.out];exact .refl _ w⟩
 case round=>
  obtain⟨i,j,rfl,rfl,hk,h1,h2,h3,h4,hD,hf⟩:=hrel;by_cases mO:i<j
  ·obtain⟨s2,hs⟩:∃s,s=i+j:=⟨_,rfl⟩;obtain⟨hh,yA⟩:=ai (s2/2);obtain⟨pc,Gt⟩:=ai (p-hh);have hb:hh<L/\pc<L/\hh<=p/\s2<=200000:=by obtain⟨k1,k2,k3,k4,k5,k6,k7,k8,k9⟩:=H0.out;obtain⟨l1,l2,l3,l4,l5,l6,l7⟩:=H1.out;omega
   obtain⟨hhL,hpL,hhp,lh⟩:=hb;have e1:(i:Int)+(j:Int)=(s2:Int):=by omega
   have e2:(s2:Int)/2=(hh:Int):=by omega
   have e3:(p:Int)-(hh:Int)=(pc:Int):=by omega
   have dH:=H.o3;have HI:=dk hk h3 h4 hf hs yA Gt;clear hk h3 h4 hf hs yA Gt;have g2:decide ((L:Int)<=(hh:Int))=false:=by simp;omega
   have g4:decide ((L:Int)<=(pc:Int))=false:=by simp;omega
   have yS:=λx=>hD.drew.kW (i:=pc) (by omega) x
   have yR:=λx=>hD.drew.kW (i:=hh) (by omega) x
   have bb0:=dH (pc);have bb1:=dH (hh);obtain⟨px,Yx⟩:=ai ((f) (pc));obtain⟨r,hr⟩:=ai ((f) (hh));rw[<-Yx]at bb0 yS;rw[<-hr]at bb1 yR;have CA:=λx=>(yS x).1
   have Cz:=λx=>(yS x).2
   have d10:=λx=>(yR x).1
   have d11:=λx=>(yR x).2
   have HP:=aw Yx hr hD;clear Yx hr hD yS yR;go_upto_region 35 with fail;refine j4 14 [(false,0),(false,1),(false,2),(false,3),(false,4),(false,5),(false,6),(false,7),(false,8),(false,9),(false,10),(true,11),(false,12),(false,13)] [] (by kernel_rfl) (by kernel_rfl) (λ_ _ d _ _ h=>by cases d<;>exact h) ?_;simp only[jm];refine dT 11 rfl ?_;simp only[bD];repeat (go_big_quiet_step (fail))
   refine wpQuiet_nil ?_;refine eT rfl ?_;intro K hK;go_wp2_with (go_at_call 160;refine (Sw px r wr.drew bb0 bb1).mono ?_;rintro e w1 ⟨rfl,jT⟩);refine hK.out _ _ jT ?_;clear hK K CA Cz d10 d11;have HC:Hid (Dw w1 g T A0 L (f)/\Fr [] wr w1):=ah ⟨HP.out.2.2.drew.fr jT,(Fr.av [] wr).trans jT⟩;clear jT;clear g2 g4;by_cases hpr:px.worth<r.worth
   ·have g5:decide (((px.worth:Int)-(r.worth:Int))<0)=true:=by simp;omega
    refine dT 2 rfl ?_;simp only[bD];repeat (go_big_quiet_step (fail))
    refine wpQuiet_nil ?_;refine ic ?_;go_wp2;go_roundg (hh-i);case measure=>have:=HI.out.1;have:=HI.out.2.2.2.2;omega
    case rel=>obtain⟨hk,h3,h4,hf,hs,yA,Gt⟩:=HI.out;obtain⟨hp,hr,hD⟩:=HP.out;refine⟨i,hh,rfl,rfl,by omega,h1,by omega,h3,λ_=>by rw[<-Gt,<-hp,<-hr];exact hpr,HC.o0,hf.trans (HC.l1.mono (by simp))⟩
   ·have g5:decide (((px.worth:Int)-(r.worth:Int))<0)=false:=by simp;omega
    refine dT 2 rfl ?_;simp only[bD];repeat (go_big_quiet_step (fail))
    refine wpQuiet_nil ?_;refine ic ?_;go_wp2;go_roundg (j-(hh+1));case measure=>have:=HI.out.1;have:=HI.out.2.2.2.2;omega
    case rel=>obtain⟨hk,h3,h4,hf,hs,yA,Gt⟩:=HI.out;obtain⟨hp,hr,hD⟩:=HP.out;refine⟨hh+1,j,by go_num,rfl,by omega,by omega,h2,λ_=>by rw[Ir,<-Gt,<-hp,<-hr];omega,h4,HC.o0,hf.trans (HC.l1.mono (by simp))⟩
  ·obtain rfl:i=j:=by omega
   obtain⟨e,he⟩:=ai (n-i);have hg:a<=i/\i<=m/\m<=e/\e<=b/\i+e=mid+m/\i<=mid/\mid<=e/\p=n-1/\mid=(a+b)/2/\a<mid/\mid<b/\(i<m->m<e->i<r0)/\(a<i->e<b->s0<i):=by obtain⟨k1,k2,k3,k4,k5,k6,k7,k8,k9⟩:=H0.out;obtain⟨l1,l2,l3,l4,l5,l6,l7⟩:=H1.out;omega
   have e1:(n:Int)-(i:Int)=(e:Int):=by omega
   have q1:i<m->m<e->(f (e-1)).worth<(f i).worth:=λx y=>by have:=h4 (hg.2.2.2.2.2.2.2.2.2.2.2.1 x y);rwa [show p-i=e-1 from by omega]at this
   have q2:a<i->e<b->(f (i-1)).worth<=(f e).worth:=λx y=>by have:=h3 (hg.2.2.2.2.2.2.2.2.2.2.2.2 x y);rwa [show p-(i-1)=e from by omega]at this
   have HI:=cJ q1 q2 hg hD hf he;have xr:m<=e:=hg.2.2.1;have Zg:e<=b:=hg.2.2.2.1;have him:i<=m:=hg.2.1;have hai:a<=i:=hg.1;clear h3 h4 hD hf hk q1 q2 hg he h1 h2 mO;go_upto_region 39 with fail;go_cut [185] from 178 to 186 (λs185 wz=>∃c:Bool,s185 = .bool c/\(c=true↔(i<m/\m<e))/\wr=wz)
   case first=>
    by_cases c1:i<m
    ·by_cases c2:m<e
     ·have q1:decide ((i:Int)<(m:Int))=true:=by simp;omega
      have q2:decide ((m:Int)<(e:Int))=true:=by simp;omega
      go_wp2;go_meet;exact⟨_,rfl,by simp[c1,c2],rfl⟩
     ·have q1:decide ((i:Int)<(m:Int))=true:=by simp;omega
      have q2:decide ((m:Int)<(e:Int))=false:=by simp;omega
      go_wp2;go_meet;exact⟨_,rfl,by simp[c1,c2],rfl⟩
    ·have q1:decide ((i:Int)<(m:Int))=false:=by simp;omega
     go_wp2;go_meet;exact⟨_,rfl,by simp[c1],rfl⟩
   case rest=>
   obtain⟨cb,rfl,oh,rfl⟩:=hcut;have CU:=ah oh;clear oh;go_upto_if 185 with fail;go_cut [] from 185 to 192 (λwz=>Dw wz g T A0 L (aP f i m e)/\Fr [g] w wz)
   case first=>
    cases cb with
    | true=>
     have c:=CU.out.1 rfl;have hr:=Bk g T A0 L cap i m e f (.func (.func 160) #[] #[]) wr HI.out.2.2.2.1 c.1 c.2 (by omega) hL;have HR:=ah hr;clear hr c;go_wp2_with (go_at_call 216;refine HR.out.mono ?_;rintro e w2 ⟨rfl,fZ,gD⟩);go_meet;exact⟨fZ,HI.out.2.2.2.2.1.trans gD⟩
    | false=>
     have c:¬(i<m/\m<e):=λh=>absurd (CU.out.2 h) (by simp)
     have HX:=ah c;clear c;go_wp2;go_meet;refine⟨?_,HI.out.2.2.2.2.1⟩;rw[FU f i m e him xr (by have:=HX.out;omega)];exact HI.out.2.2.2.1
   case rest=>
   obtain⟨E9,JZ⟩:=hcut;obtain⟨w3,jR⟩:∃w3:World,w3=wc:=⟨_,rfl⟩;rw[<-jR]at E9 JZ ⊢;have UM:=aw E9 JZ jR;clear E9 JZ jR;have cP:Hid (Wb (aP f i m e)):=ah (H.o3.rot i m e);have wB:Hid (a<i->i<mid->iE (sg (aP f i m e) a (i-a))/\iE (sg (aP f i m e) i (mid-i))):=ah λx y=>by
    obtain⟨k1,k2,k3,k4,k5,k6,k7,k8,k9,IW,IV,_⟩:=HI.out.2.2.1;refine⟨?_,?_⟩
    ·rw[FT _ _ _ _ _ _ k2 k3 (.inl (by omega))];exact FL H.o1 (ay _) (by omega)
    ·have:=IB f i m e k2 k3;rw[show mid-i=e-m from by omega,this];exact FL H.o2 (ay _) (by omega)
   have E5:Hid (¬(a<i/\i<mid)->iE (sg (aP f i m e) a (mid-a))):=ah λx=>by
    obtain⟨k1,k2,k3,k4,k5,k6,k7,k8,k9,IW,IV,_⟩:=HI.out.2.2.1;by_cases hz:i=a
    ·have:=IB f i m e k2 k3;rw[<-hz,show mid-i=e-m from by omega,this];exact FL H.o2 (ay _) (by omega)
    ·rw[FU f i m e k2 k3 (by omega)];exact FL H.o1 (ay _) (by omega)
   go_upto_region 41 with fail;go_cut [199] from 192 to 200 (λs199 wz=>∃c:Bool,s199 = .bool c/\(c=true↔(a<i/\i<mid))/\w3=wz)
   case first=>
    by_cases c1:a<i
    ·by_cases c2:i<mid
     ·have q1:decide ((a:Int)<(i:Int))=true:=by simp;omega
      have q2:decide ((i:Int)<(mid:Int))=true:=by simp;omega
      go_wp2;go_meet;exact⟨_,rfl,by simp[c1,c2],rfl⟩
     ·have q1:decide ((a:Int)<(i:Int))=true:=by simp;omega
      have q2:decide ((i:Int)<(mid:Int))=false:=by simp;omega
      go_wp2;go_meet;exact⟨_,rfl,by simp[c1,c2],rfl⟩
    ·have q1:decide ((a:Int)<(i:Int))=false:=by simp;omega
     go_wp2;go_meet;exact⟨_,rfl,by simp[c1],rfl⟩
   case rest=>
   obtain⟨cb,rfl,oh,rfl⟩:=hcut;have CT:=ah oh;clear oh;go_upto_if 199 with fail;go_cut [] from 199 to 206 (λwz=>∃f1,Dw wz g T A0 L f1/\Sd (aP f i m e) f1 a mid/\Fr [g] w wz)
   case first=>
    cases cb with
    | true=>
     have c:=CT.out.1 rfl;have hr:iW g T A0 L cap a i mid (aP f i m e) w3:=by obtain⟨k1,k2,k3,k4,k5,k6,k7,k8,k9,IW,IV,_⟩:=HI.out.2.2.1;exact H.l4 a i mid _ w3 (by omega) UM.o0 c.1 c.2 (by omega) cP.out (wB.out c.1 c.2).1 (wB.out c.1 c.2).2
     unfold iW jY at hr;have HR:=ah hr;clear hr c;go_wp2_with (go_at_call 202;refine HR.out.mono ?_;rintro e w2 ⟨rfl,f1,fZ,dE,gD⟩);go_meet;exact⟨f1,fZ,dE,UM.o1.trans gD⟩
    | false=>
     have c:¬(a<i/\i<mid):=λh=>absurd (CT.out.2 h) (by simp)
     have HX:=ah c;clear c;go_wp2;go_meet;exact⟨_,UM.o0,K7 _ _ _ (E5.out HX.out),UM.o1⟩
   case rest=>
   obtain⟨f1,sR,GY,lj⟩:=hcut;obtain⟨w4,gw⟩:∃w4:World,w4=wc:=⟨_,rfl⟩;rw[<-gw]at sR lj ⊢;have Hc:=aG sR GY lj gw;clear sR GY lj gw;have QT:Hid (∀c k,mid<=c->sg f1 c k=sg (aP f i m e) c k):=ah λc k hc=>vV λt ht=>Hc.o1.out _ (.inr (by omega))
   have rY:Hid (mid<e->e<b->iE (sg f1 mid (e-mid))/\iE (sg f1 e (b-e))):=ah λx y=>by
    obtain⟨k1,k2,k3,k4,k5,k6,k7,k8,k9,IW,IV,_⟩:=HI.out.2.2.1;rw[QT.out mid _ (ay _),QT.out e _ (by omega)];refine⟨?_,?_⟩
    ·have:=IE f i m e k2 k3;rw[show i+(e-m)=mid from by omega]at this;rw[show e-mid=m-i from by omega,this];exact FL H.o1 (by omega) (by omega)
    ·rw[FT _ _ _ _ _ _ k2 k3 (.inr (ay _))];exact FL H.o2 (by omega) (by omega)
   have lJ:Hid (¬(mid<e/\e<b)->iE (sg f1 mid (b-mid))):=ah λx=>by
    obtain⟨k1,k2,k3,k4,k5,k6,k7,k8,k9,IW,IV,_⟩:=HI.out.2.2.1;rw[QT.out mid _ (ay _)];by_cases hz:e=b
    ·have:=IE f i m e k2 k3;rw[show i+(e-m)=mid from by omega]at this;rw[show b-mid=m-i from by omega,this];exact FL H.o1 (by omega) (by omega)
    ·have he:e=mid:=by omega
     rw[FU f i m e k2 k3 (by omega)];exact FL H.o2 (by omega) (by omega)
   go_upto_region 43 with fail;go_cut [213] from 206 to 214 (λs213 wz=>∃c:Bool,s213 = .bool c/\(c=true↔(mid<e/\e<b))/\w4=wz)
   case first=>
    by_cases c1:mid<e
    ·by_cases c2:e<b
     ·have q1:decide ((mid:Int)<(e:Int))=true:=by simp;omega
      have q2:decide ((e:Int)<(b:Int))=true:=by simp;omega
      go_wp2;go_meet;exact⟨_,rfl,by simp[c1,c2],rfl⟩
     ·have q1:decide ((mid:Int)<(e:Int))=true:=by simp;omega
      have q2:decide ((e:Int)<(b:Int))=false:=by simp;omega
      go_wp2;go_meet;exact⟨_,rfl,by simp[c1,c2],rfl⟩
    ·have q1:decide ((mid:Int)<(e:Int))=false:=by simp;omega
     go_wp2;go_meet;exact⟨_,rfl,by simp[c1],rfl⟩
   case rest=>
   obtain⟨cb,rfl,oh,rfl⟩:=hcut;have CS:=ah oh;clear oh;go_upto_if 213 with fail;cases cb with
   | true=>
    have c:=CS.out.1 rfl;have hr:iW g T A0 L cap mid e b f1 w4:=by obtain⟨k1,k2,k3,k4,k5,k6,k7,k8,k9,IW,IV,_⟩:=HI.out.2.2.1;exact H.l4 mid e b _ w4 (by omega) Hc.o0 c.1 c.2 (by omega) (cP.out.sd Hc.o1) (rY.out c.1 c.2).1 (rY.out c.1 c.2).2
    unfold iW jY at hr;have HR:=ah hr;clear hr c;go_wp2_with (go_at_call 202;refine HR.out.mono ?_;rintro e2 w2 ⟨rfl,f2,fZ,dE,gD⟩);(try simp only[Exit.inBlock,Exit.then]);refine bodyPost_end (results_none rfl _ _ _) rfl ?_;obtain⟨k1,k2,k3,k4,k5,k6,k7,k8,k9,IW,IV,_⟩:=HI.out.2.2.1;have h0:=H0.out;exact⟨rfl,f2,fZ,ze0 f f1 f2 a m b mid i e k9 (by omega) (by omega) (by omega) k1 k2 k3 k4 H.o1 H.o2 HI.out.1 HI.out.2.1 Hc.o1 dE,Hc.o2.trans gD⟩
   | false=>
    have c:¬(mid<e/\e<b):=λh=>absurd (CS.out.2 h) (by simp)
    have HX:=ah c;clear c;go_wp2;(try simp only[Exit.inBlock,Exit.then]);refine bodyPost_end (results_none rfl _ _ _) rfl ?_;obtain⟨k1,k2,k3,k4,k5,k6,k7,k8,k9,IW,IV,_⟩:=HI.out.2.2.1;have h0:=H0.out;exact⟨rfl,f1,Hc.o0,ze0 f f1 f1 a m b mid i e k9 (by omega) (by omega) (by omega) k1 k2 k3 k4 H.o1 H.o2 HI.out.1 HI.out.2.1 Hc.o1 (K7 _ _ _ (lJ.out HX.out)),Hc.o2⟩
theorem La (g:Nat) (T:TypeId) (A0:AV) (L cap:Nat) (hL:L<=100000):∀(n a m b:Nat) (f:Nat->Mc) (w:World),b-a<=n->
  Dw w g T A0 L f->a<m->m<b->b<=L->Wb f->iE (sg f a (m-a))->iE (sg f m (b-m))->iW g T A0 L cap a m b f w:=by
 intro n;induction n with
 | zero=>intro a m b f w hn _ h1 h2;omega
 | succ n ih=>
  intro a m b f w hn hD h1 h2 h3 dH hA hB;by_cases c1:m=a+1
  ·exact zf0 g T A0 L cap a m b f w hD c1 h2 h3 hL dH hB
  ·by_cases c2:b=m+1
   ·exact zfz g T A0 L cap a m b f w hD h1 c1 c2 h3 hL dH hA
   ·exact zca g T A0 L cap a m b f w (λa' m' b' f' w' bg k1 k2 k3 k4 k5 k6 k7=>ih a' m' b' f' w' (by omega) k1 k2 k3 k4 k5 k6 k7) hD h1 c1 h2 c2 h3 hL dH hA hB
def PB (f:Nat->Mc) (bs a n:Nat):Prop:=∀c,bs∣c->c<a->iE (sg f c (min bs (n-c)))
theorem qve {bs a c:Nat} (hb:0<bs) (h1:bs∣a) (h2:bs∣c) (h:c<a):c+bs<=a:=by
 obtain⟨x,rfl⟩:=h1;obtain⟨y,rfl⟩:=h2;have:y<x:=Nat.lt_of_mul_lt_mul_left h;calc bs*y+bs=bs*(y+1):=by rw[Nat.mul_succ]
  _<=bs*x:=Nat.mul_le_mul_left _ this
theorem Ni {f f2:Nat->Mc} {bs a n:Nat} (hb:0<bs) (ha:bs∣a) (h:PB f bs a n) (hs:Sd f f2 a (min (a+bs) n)):PB f2 bs (a+bs) n:=by
 intro c hc bg;rcases Nat.lt_trichotomy c a with k|k|k
 ·have:=qve hb ha hc k;rw[vV (f:=f2) (f':=f) (a':=c) λt ht=>hs.out _ (.inl (by omega))];exact h c hc k
 ·subst k;have:=hs.srt;rw[show min bs (n-c)=min (c+bs) n-c from by omega];exact this
 ·have:=qve hb hc ha k;omega
theorem zgj {f f2:Nat->Mc} {bs a b n:Nat} (hs:Sd f f2 a b) (h:∀c,bs∣c->a<=c->iE (sg f c (min bs (n-c)))) (xD:a<=b):∀c,bs∣c->b<=c->iE (sg f2 c (min bs (n-c))):=by intro c hc hb;rw[vV (f:=f2) (f':=f) (a':=c) λt ht=>hs.out _ (.inr (by omega))];exact h c hc (by omega)
theorem zhy {f:Nat->Mc} {bs n:Nat} (hb:n<=bs) (h:PB f bs n n):iE (sg f 0 n):=by
 rcases Nat.eq_zero_or_pos n with k|k
 ·subst k;rw[Ij];exact List.Pairwise.nil
 ·have:=h 0 (Nat.dvd_zero _) k;rwa [show min bs (n-0)=n from by omega]at this
theorem Vx {f:Nat->Mc} {bs a a' n:Nat} (h:PB f bs a n) (haa:a'<=a):PB f bs a' n:=λc hc bg=>h c hc (by omega)
theorem qwi (g:Nat) (T:TypeId) (A0:AV) (L cap:Nat) (f:Nat->Mc) (w:World)
  (h:Dw w g T A0 L f) (hL:L<=100000) (dH:Wb f) :
  Calls Tryz.prog 182 #[.slice (some ⟨g,0,none⟩) L cap,.int .i64 (L:Nat),jY] w λe w'=>e = .returned (.tuple #[])/\∃f',Dw w' g T A0 L f'/\Sd f f' 0 L/\Fr [g] w w':=by
 have H:=ak h dH;clear h dH;unfold jY;go_enter Tryz.func182,Tryz.ntmps182;go_wp2;go_loopg [7,8] L (λk s7 s8 wr=>∃a:Nat,s7 = .int .i64 (a:Nat)/\s8 = .int .i64 ((a+20:Nat):Nat)/\a+k=L/\20∣a/\∃f1,Dw wr g T A0 L f1/\Wb f1/\fK (sg f1 0 L) (sg f 0 L)/\PB f1 20 a L/\(∀t,L<=t->f1 t=f t)/\Fr [g] w wr);case atStart=>exact⟨0,rfl,rfl,by omega,Nat.dvd_zero _,f,H.o0,H.l1,.refl _,λc _ hc=>absurd hc (by omega),λ_ _=>rfl,.refl _ w⟩
 case round=>
  obtain⟨a,rfl,rfl,hk,uC,f1,hD,dH,aH,dV,cC,hf⟩:=hrel;obtain⟨b,hb⟩:=ai (a+20);rw[<-hb];by_cases xD:b<=L
  ·have hi:=NH g T A0 L cap a b f1 wr hD (by omega) xD hL dH;unfold jY at hi;have HI:=oU hi dH aH dV cC hf hk uC hb;clear hi dH aH dV cC hf hk uC hb hD;go_wp2_with (go_at_call 201;refine HI.out.1.mono ?_;rintro e w2 ⟨rfl,f2,fZ,dE,gD⟩;have HW:=aw fZ dE gD;clear fZ dE gD);go_roundg (L-b);case measure=>have:=HI.out.2.2.2.2.2.2;omega
   case rel=>
    obtain⟨_,dH,aH,dV,cC,hf,hk,uC,hb⟩:=HI.out;obtain⟨fZ,dE,gD⟩:=HW.out;refine⟨b,rfl,by go_num,by omega,?_,f2,fZ,dH.sd dE,(dE.xU (by omega) xD).trans aH,?_,λt ht=>(dE.out t (.inr (by omega))).trans (cC t ht),hf.trans gD⟩
    ·rw[hb];exact Nat.dvd_add uC (Nat.dvd_refl _)
    ·rw[hb];exact Ni (by omega) uC dV (by rw[uP (by omega),<-hb];exact dE)
  ·have hi:=NH g T A0 L cap a L f1 wr hD (by omega) (ay _) hL dH;unfold jY at hi;have HI:=oU hi dH aH dV cC hf hk uC hb;clear hi dH aH dV cC hf hk uC hb hD;go_wp2_with (go_at_call 201;refine HI.out.1.mono ?_;rintro e w2 ⟨rfl,f2,fZ,dE,gD⟩;have HW:=aw fZ dE gD;clear fZ dE gD);have qD:∃f3,Dw w2 g T A0 L f3/\Wb f3/\fK (sg f3 0 L) (sg f 0 L)/\PB f3 20 L L/\(∀t,L<=t->f3 t=f t)/\Fr [g] w w2:=by obtain⟨_,dH,aH,dV,cC,hf,hk,uC,hb⟩:=HI.out;obtain⟨fZ,dE,gD⟩:=HW.out;refine⟨f2,fZ,dH.sd dE,(dE.xU (by omega) (ay _)).trans aH,Vx (Ni (a:=a) (by omega) uC dV (by rw[Nat.min_eq_right (by omega)];exact dE)) (by omega),λt ht=>(dE.out t (.inr (by omega))).trans (cC t ht),hf.trans gD⟩
   have HS:=ah qD;clear qD HI HW xD;go_loopg [6,7,8,9] (L+40) (λk s6 s7 s8 s9 wr=>∃bs:Nat,s6 = .int .i64 (bs:Nat)/\20<=bs/\bs<=200040/\k=L+60-bs/\∃f1,Dw wr g T A0 L f1/\Wb f1/\fK (sg f1 0 L) (sg f 0 L)/\PB f1 bs L L/\(∀t,L<=t->f1 t=f t)/\Fr [g] w wr);case atStart=>obtain⟨f3,h3⟩:=HS.out;exact⟨20,rfl,ay _,by omega,by omega,f3,h3⟩
   case round=>
    obtain⟨bs,rfl,zcO,mD,hk,f1,hD,dH,aH,dV,cC,hf⟩:=hrel;by_cases bg:bs<L
    ·have HI:=cJ hD dH aH dV cC hf;clear hD dH aH dV cC hf;have HK:=ah hk;clear hk;obtain⟨b2,kT⟩:=ai (2*bs);have e1:2*(bs:Int)=(b2:Int):=by omega
     have e2:(bs:Int)*2=(b2:Int):=by omega
     have zcN:b2<=200000:=by omega
     have HB:=ah kT;clear kT;obtain⟨wo,tF⟩:∃wo:World,wo=wr:=⟨_,rfl⟩;have MC:=ah tF;rw[<-tF];clear tF;go_wp2;go_loopg [7,8] L (λk s7 s8 wr=>∃a:Nat,s7 = .int .i64 (a:Nat)/\s8 = .int .i64 ((a+b2:Nat):Nat)/\a+k=L/\b2∣a/\∃f1,Dw wr g T A0 L f1/\Wb f1/\fK (sg f1 0 L) (sg f 0 L)/\PB f1 b2 a L/\(∀c,bs∣c->a<=c->iE (sg f1 c (min bs (L-c))))/\(∀t,L<=t->f1 t=f t)/\Fr [g] w wr);case atStart=>
      obtain⟨hD,dH,aH,dV,cC,hf⟩:=HI.out;rw[MC.out];refine⟨0,rfl,by go_num,by omega,Nat.dvd_zero _,f1,hD,dH,aH,λc _ hc=>absurd hc (by omega),λc hc _=>?_,cC,hf⟩;by_cases hcL:c<L
      ·exact dV c hc hcL
      ·rw[show min bs (L-c)=0 from by omega,Ij];exact List.Pairwise.nil
     case round=>
      obtain⟨a,rfl,rfl,hk,yN,f3,hD,dH,aH,dV,bu,cC,hf⟩:=hrel;obtain⟨b,hb⟩:=ai (a+b2);obtain⟨m,hm⟩:=ai (a+bs);have e3:(a:Int)+(bs:Int)=(m:Int):=by omega
      have haL:a<=L:=by omega
      have oM:m<=400000:=by omega
      have lI:b<=400000:=by omega
      have sJ:bs∣a:=Nat.dvd_trans ⟨2,by have:=HB.out;omega⟩ yN;rw[<-hb];by_cases xD:b<=L
      ·have hi:=La g T A0 L cap hL (b-a) a m b f3 wr (ay _) hD (by omega) (by have:=HB.out;omega) xD dH
        (by have:=bu a sJ (ay _);rwa [show min bs (L-a)=m-a from by have:=HB.out;omega]at this)
        (by have:=bu m (by rw[hm];exact Nat.dvd_add sJ (Nat.dvd_refl _)) (by omega);rwa [show min bs (L-m)=b-m from by have:=HB.out;omega]at this)
       unfold iW jY at hi
       have HJ:=pX hi dH aH dV bu cC hf hk yN hb hm
       clear hi dH aH dV bu cC hf hk yN hb hm hD sJ
       go_wp2_with (go_at_call 202;refine HJ.out.1.mono ?_;rintro e w2 ⟨rfl,f2,fZ,dE,gD⟩;have HW:=aw fZ dE gD;clear fZ dE gD)
       go_roundg (L-b)
       case measure=>have:=HJ.out.2.2.2.2.2.2.2;omega
       case rel=>
        obtain⟨_,dH,aH,dV,bu,cC,hf,hk,yN,hb,hm⟩:=HJ.out
        obtain⟨fZ,dE,gD⟩:=HW.out
        refine⟨b,rfl,by go_num,by omega,?_,f2,fZ,dH.sd dE,(dE.xU (by omega) xD).trans aH,?_,zgj dE bu (by omega),λt ht=>(dE.out t (.inr (by omega))).trans (cC t ht),hf.trans gD⟩
        ·rw[hb];exact Nat.dvd_add yN (Nat.dvd_refl _)
        ·rw[hb];exact Ni (by omega) yN dV (by rw[uP (by omega),<-hb];exact dE)
      ·by_cases xr:m<L
       ·have hi:=La g T A0 L cap hL (L-a) a m L f3 wr (ay _) hD (by omega) xr (ay _) dH
         (by have:=bu a sJ (ay _);rwa [show min bs (L-a)=m-a from by omega]at this)
         (by have:=bu m (by rw[hm];exact Nat.dvd_add sJ (Nat.dvd_refl _)) (by omega);rwa [show min bs (L-m)=L-m from by have:=HB.out;omega]at this)
        unfold iW jY at hi
        have HJ:=pX hi dH aH dV bu cC hf hk yN hb hm
        clear hi dH aH dV bu cC hf hk yN hb hm hD sJ
        go_wp2_with (go_at_call 202;refine HJ.out.1.mono ?_;rintro e w2 ⟨rfl,f2,fZ,dE,gD⟩;have HW:=aw fZ dE gD;clear fZ dE gD)
        go_roundg (L+60-b2)
        case measure=>have:=HK.out;have:=HB.out;omega
        case rel=>
         obtain⟨_,dH,aH,dV,bu,cC,hf,hk,yN,hb,hm⟩:=HJ.out
         obtain⟨fZ,dE,gD⟩:=HW.out
         exact⟨b2,rfl,by have:=HB.out;omega,by omega,rfl,f2,fZ,dH.sd dE,(dE.xU (by omega) (ay _)).trans aH,Vx (Ni (a:=a) (by have:=HB.out;omega) yN dV (by rw[Nat.min_eq_right (by omega)];exact dE)) (by omega),λt ht=>(dE.out t (.inr ht)).trans (cC t ht),hf.trans gD⟩
       ·have HJ:=xT dH aH dV bu cC hf hk yN hb hm hD sJ;clear dH aH dV bu cC hf hk yN hb hm hD sJ;go_wp2;go_roundg (L+60-b2);case measure=>have:=HK.out;have:=HB.out;omega
        case rel=>obtain⟨dH,aH,dV,bu,cC,hf,hk,yN,hb,hm,hD,sJ⟩:=HJ.out;refine⟨b2,rfl,by have:=HB.out;omega,by omega,rfl,f3,hD,dH,aH,Vx (Ni (a:=a) (by have:=HB.out;omega) yN dV (K7 _ _ _ ?_)) (by omega),cC,hf⟩;have:=bu a sJ (ay _);rwa [show min bs (L-a)=min (a+b2) L-a from by omega]at this
    ·have HI:=cJ hD dH aH dV cC hf;clear hD dH aH dV cC hf hk;go_wp2;(try simp only[Exit.inBlock,Exit.then]);refine bodyPost_end (results_none rfl _ _ _) rfl ?_;obtain⟨hD,dH,aH,dV,cC,hf⟩:=HI.out;exact⟨rfl,f1,hD,⟨λt ht=>cC t (by omega),zhy (by omega) dV,aH⟩,hf⟩
theorem zch (g:Nat) (T:TypeId) (A0:AV) (L cap:Nat) (f:Nat->Mc) (w:World)
  (h:Dw w g T A0 L f) (hL:L<=100000) (dH:Wb f) :
  Calls Tryz.prog 161 #[.slice (some ⟨g,0,none⟩) L cap,jY] w λe w'=>e = .returned (.tuple #[])/\∃f',Dw w' g T A0 L f'/\Sd f f' 0 L/\Fr [g] w w':=by
 have H:=ah (qwi g T A0 L cap f w h hL dH);unfold jY at H ⊢;clear h dH;go_enter Tryz.func161,Tryz.ntmps161;go_wp2_with (go_at_call 182;refine H.out.mono ?_;rintro e w2 ⟨rfl,fZ⟩);(try simp only[Exit.inBlock,Exit.then]);refine bodyPost_end (results_none rfl _ _ _) rfl ?_;exact⟨rfl,fZ⟩
theorem qr3 {w:World} {e:TypeId} {size cap:Nat} {A:AV} (hs:A.size=cap*size) (hc:cap<=maxLen):(w.alloc (.cells A e (0,0))).ownsRow 0 e size (.slice (some ⟨w.heap.size,0,none⟩) 0 cap) 0 []:=
 ⟨by simp,.inr ⟨w.heap.size,cap,A,rfl,ep _,bC w _,ep _,hc,hs,by simp⟩⟩
theorem Ns:az Tryz.prog 256 258 (.agg #[.int .i64 0,.slice none 0 0]) 2 32:=az.of Tryz.underlying256 (by kernel_rfl) rfl (by decide)
theorem qzu:(Tryz.prog.info? 258).map (λi=>(i.zero,i.size,i.bytes))=some (some (.agg #[.int .i64 0,.slice none 0 0]),2,32):=by kernel_rfl
theorem zab (n:Nat) (w:World) (hn:n<=1000000) :
  Calls Tryz.prog 183 #[.slice none 0 0,.int .i64 (n:Nat)] w λe w'=>∃ao cap,e = .returned (.slice ao 0 cap)/\Made w w' 258 2 ao 0 cap []:=by
 by_cases h0:n=0
 ·subst h0;go_enter Tryz.func183,Tryz.ntmps183;go_wp2;go_ret;exact⟨none,0,rfl,.none w _ _⟩
 ·obtain⟨i,hi,hz,hs,hb⟩:=info_parts qzu;have JG:0+n=n:=ft n;have OX:∀ty,(Builtin.append_ #[256,3] ty #[.slice none 0 0,.int .i64 n]).run Tryz.prog w =
    .ok (.slice (some ⟨w.heap.size,0,none⟩) n (grownCap w n 0 258)) (w.drew.alloc (.cells (#[]++Builtin.zeroCells (.agg #[.int .i64 0,.slice none 0 0]:Value).cells n++Builtin.zeroCells (.agg #[.int .i64 0,.slice none 0 0]:Value).cells (grownCap w n 0 258-n)) 258)):=λty=>by
   have h:=Lib.run_append_grow_zeros (P:=Tryz.prog) w 256 3 ty 258 i (.agg #[.int .i64 0,.slice none 0 0]) .i64 .i64 Tryz.underlying256 Tryz.underlying3 hi hz none 0 0 [] (by exact run_firstCells_none (w:=w.drew) i.size 0 0 0) n (by omega) (by rw[hs];decide) (by omega) (by omega)
    (by rw[hb];omega) (by rw[JG,hb];exact growslice_fits (by omega) (by omega))
   rw[JG]at h
   exact h
  have ZQ:n<=grownCap w n 0 258:=grownCap_ge w _ _ _;have tS:=grownCap_le_maxLen w n 0 258 (by unfold maxLen;omega);obtain⟨G,hG⟩:=ai (grownCap w n 0 258);rw[<-hG]at OX ZQ tS;have hGM:G<=9223372036854775807:=by unfold maxLen at tS;omega
  have HM:=ah tS;clear hG JG hi hz hs hb tS;go_enter Tryz.func183,Tryz.ntmps183;go_wp2_with (at_builtin;refine Lib.wpList_append_run _ rfl _ _ _ _ rfl _ _ rfl rfl _ _ (OX _) ?_);all_goals (go_ret;refine⟨_,_,rfl,?_⟩)
  all_goals exact⟨qr3 (w:=w.drew) (by simp only[Array.size_append,size_zeroCells,show (.agg #[.int .i64 0,.slice none 0 0]:Value).cells.size=2 from rfl];simp;omega) HM.out,((Fr.refl [] w).drew).alloc _,by simp[af],ep _,HM.out,λh=>by cases h⟩
theorem qt8 (q:Nat) (a1 a2:OA) (n1 n2 c1 c2:Nat) (xs ys:LV) (w:World)
  (hq:w.heap[q]?=some (.cells #[.slice a1 n1 c1,.slice a2 n2 c2] 256 (0,0)))
  (h1:Cs w a1 xs) (h2:Cs w a2 ys) (l1:xs.length=n1*2) (l2:ys.length=n2*2) (k1:n1<=c1) (k2:n2<=c2) (z1:a1=none->c1=0) (z2:a2=none->c2=0)
  (u1:∀u∈xs,u.oneCell'=true) (u2:∀u∈ys,u.oneCell'=true) (b1:n1<=400000) (b2:n2<=400000) :
  Calls Tryz.prog 162 #[.slice (some ⟨q,0,none⟩) 2 2] w λe w'=>∃ao cap,e = .returned (.slice ao (n1+n2) cap)/\Made w w' 258 2 ao (n1+n2) cap (xs++ys):=by
 have d0:=cell_of hq 0;have d1:=cell_of hq 1;simp only[bF,aT,bP]at d0 d1;have H:=pX hq h1 h2 l1 l2 k1 k2 z1 z2 u1 u2;clear hq h1 h2 l1 l2 k1 k2 z1 z2 u1 u2;obtain⟨s,hs⟩:=ai (n1+n2);rw[<-hs];have e1:(n1:Int)+(n2:Int)=(s:Int):=by omega
 have HS:=ah hs;have lh:s<=1000000:=by omega
 clear hs;go_enter Tryz.func162,Tryz.ntmps162;go_wp2;go_loopg [3,5,11] 2 (λk s3 s5 s11 wr=>∃i:Nat,s11 = .int .i64 (i:Nat)/\i+k=2/\(s3 = .int .i64 ((if i=0 then 0 else if i=1 then n1 else s:Nat):Nat))/\w=wr);case atStart=>exact⟨0,rfl,rfl,rfl,rfl⟩
 case round=>
  obtain⟨i,rfl,bX,rfl,rfl⟩:=hrel;match i,bX with
  | 0,bX=>
   simp only[if_true];go_wp2;go_roundg 1;case measure=>omega
   case rel=>exact⟨1,rfl,rfl,by simp,rfl⟩
  | 1,bX=>
   simp only[KP,if_false,if_true];go_wp2;go_roundg 0;case measure=>omega
   case rel=>exact⟨2,rfl,rfl,by simp,rfl⟩
  | 2,bX=>
   simp only[show ¬(2=0) from by decide,show ¬(2=1) from by decide,if_false];go_wp2_with (go_at_call 183;refine (zab s w lh).mono ?_;rintro e w2 ⟨ao,cap,rfl,hm⟩;have HM:=ah hm;clear hm);go_loopg [6,8,27] 2 (λk s6 s8 s27 wr=>∃(i:Nat) (ao:OA) (cap n:Nat),s27 = .int .i64 (i:Nat)/\i+k=2/\s6 = .slice ao n cap/\n=(if i=0 then 0 else if i=1 then n1 else n1+n2)/\Made w wr 258 2 ao n cap (if i=0 then [] else if i=1 then xs else xs++ys));case atStart=>exact⟨0,ao,cap,0,rfl,rfl,rfl,rfl,HM.out⟩
   case round=>
    obtain⟨i,ao,cap,n,rfl,bX,rfl,hn,hm⟩:=hrel;obtain⟨hq,h1,h2,l1,l2,k1,k2,z1,z2,u1,u2⟩:=H.out;have d2:=hm.fr.cell d0 (by simp);have d3:=hm.fr.cell d1 (by simp);have yP:=h1.fr hm.fr (by simp);have yO:=h2.fr hm.fr (by simp);match i,bX with
    | 0,bX=>
     simp only[if_true]at hn hm;subst hn;have HK:=cJ hm yP l1 k1 z1 u1;clear hm yP yO hq h1 h2 l1 l2 k1 k2 z1 z2 u1 u2 d3;go_wp2_with (refine gM Ns rfl _ _ rfl (.slice ao 0 cap) 0 [] (af ao) rfl (dD ao 0 cap) HK.out.1.own a1 n1 c1 xs rfl HK.out.2.2.2.1 HK.out.2.2.2.2.1 HK.out.2.1 HK.out.2.2.1 HK.out.2.2.2.2.2 (by omega) (by unfold maxLen;omega) ?_;intro dv dA w3 bN;have HA:=ah bN;clear bN);go_roundg 1;case measure=>omega
     case rel=>exact⟨1,dv,dA,n1,rfl,rfl,by simp,by simp,by simpa using HK.out.1.app HA.out⟩
    | 1,bX=>
     simp only[KP,if_false,if_true]at hn hm;subst hn;have HK:=cJ hm yO l2 k2 z2 u2;clear hm yP yO hq h1 h2 l1 l2 k1 k2 z1 z2 u1 u2 d2;go_wp2_with (refine gM Ns rfl _ _ rfl (.slice ao n cap) n xs (af ao) rfl (dD ao n cap) HK.out.1.own a2 n2 c2 ys rfl HK.out.2.2.2.1 HK.out.2.2.2.2.1 HK.out.2.1 HK.out.2.2.1 HK.out.2.2.2.2.2 (by omega) (by unfold maxLen;omega) ?_;intro dv dA w3 bN;have HA:=ah bN;clear bN);go_roundg 0;case measure=>omega
     case rel=>exact⟨2,dv,dA,n+n2,rfl,rfl,rfl,by simp,by simpa using HK.out.1.app HA.out⟩
    | 2,bX=>
     simp only[show ¬(2=0) from by decide,show ¬(2=1) from by decide,if_false]at hn hm;rw[<-HS.out]at hn;subst hn;have HK:=ah hm;clear hm yP yO hq h1 h2 l1 l2 k1 k2 z1 z2 u1 u2 d2 d3;go_wp2;go_ret;exact⟨ao,cap,rfl,by rw[HS.out];have:=HK.out;rwa [HS.out]at this⟩
    | k+3,bX=>omega
  | k+3,bX=>omega
theorem zdu (n:Nat) (w:World) (hn:n<=1000000) :
  Calls Tryz.prog 203 #[.slice none 0 0,.int .i64 (n:Nat)] w λe w'=>∃ao cap,e = .returned (.slice ao 0 cap)/\Made w w' 3 1 ao 0 cap []:=by
 by_cases h0:n=0
 ·subst h0;go_enter Tryz.func203,Tryz.ntmps203;go_wp2;go_ret;exact⟨none,0,rfl,.none w _ _⟩
 ·obtain⟨i,hi,hz,hs,hb⟩:=info_parts Nv;have JG:0+n=n:=ft n;have OX:∀ty,(Builtin.append_ #[28,3] ty #[.slice none 0 0,.int .i64 n]).run Tryz.prog w =
    .ok (.slice (some ⟨w.heap.size,0,none⟩) n (grownCap w n 0 3)) (w.drew.alloc (.cells (#[]++Builtin.zeroCells (.int .i64 0:Value).cells n++Builtin.zeroCells (.int .i64 0:Value).cells (grownCap w n 0 3-n)) 3)):=λty=>by
   have h:=Lib.run_append_grow_zeros (P:=Tryz.prog) w 28 3 ty 3 i (.int .i64 0) .i64 .i64 Tryz.underlying28 Tryz.underlying3 hi hz none 0 0 [] (by exact run_firstCells_none (w:=w.drew) i.size 0 0 0) n (by omega) (by rw[hs];decide) (by omega) (by omega)
    (by rw[hb];omega) (by rw[JG,hb];exact growslice_fits (by omega) (by omega))
   rw[JG]at h
   exact h
  have ZQ:n<=grownCap w n 0 3:=grownCap_ge w _ _ _;have tS:=grownCap_le_maxLen w n 0 3 (by unfold maxLen;omega);obtain⟨G,hG⟩:=ai (grownCap w n 0 3);rw[<-hG]at OX ZQ tS;have hGM:G<=9223372036854775807:=by unfold maxLen at tS;omega
  have HM:=ah tS;clear hG JG hi hz hs hb tS;go_enter Tryz.func203,Tryz.ntmps203;go_wp2_with (at_builtin;refine Lib.wpList_append_run _ rfl _ _ _ _ rfl _ _ rfl rfl _ _ (OX _) ?_);all_goals (go_ret;refine⟨_,_,rfl,?_⟩)
  all_goals exact⟨qr3 (w:=w.drew) (by simp only[Array.size_append,size_zeroCells,show (.int .i64 0:Value).cells.size=1 from rfl];simp;omega) HM.out,((Fr.refl [] w).drew).alloc _,by simp[af],ep _,HM.out,λh=>by cases h⟩
theorem qxc (q:Nat) (a1 a2:OA) (n1 n2 c1 c2:Nat) (xs ys:LV) (w:World)
  (hq:w.heap[q]?=some (.cells #[.slice a1 n1 c1,.slice a2 n2 c2] 28 (0,0)))
  (h1:Cs w a1 xs) (h2:Cs w a2 ys) (l1:xs.length=n1*1) (l2:ys.length=n2*1) (k1:n1<=c1) (k2:n2<=c2) (z1:a1=none->c1=0) (z2:a2=none->c2=0)
  (u1:∀u∈xs,u.oneCell'=true) (u2:∀u∈ys,u.oneCell'=true) (b1:n1<=400000) (b2:n2<=400000) :
  Calls Tryz.prog 184 #[.slice (some ⟨q,0,none⟩) 2 2] w λe w'=>∃ao cap,e = .returned (.slice ao (n1+n2) cap)/\Made w w' 3 1 ao (n1+n2) cap (xs++ys):=by
 have d0:=cell_of hq 0;have d1:=cell_of hq 1;simp only[bF,aT,bP]at d0 d1;have H:=pX hq h1 h2 l1 l2 k1 k2 z1 z2 u1 u2;clear hq h1 h2 l1 l2 k1 k2 z1 z2 u1 u2;obtain⟨s,hs⟩:=ai (n1+n2);rw[<-hs];have e1:(n1:Int)+(n2:Int)=(s:Int):=by omega
 have HS:=ah hs;have lh:s<=1000000:=by omega
 clear hs;go_enter Tryz.func184,Tryz.ntmps184;go_wp2;go_loopg [3,5,11] 2 (λk s3 s5 s11 wr=>∃i:Nat,s11 = .int .i64 (i:Nat)/\i+k=2/\(s3 = .int .i64 ((if i=0 then 0 else if i=1 then n1 else s:Nat):Nat))/\w=wr);case atStart=>exact⟨0,rfl,rfl,rfl,rfl⟩
 case round=>
  obtain⟨i,rfl,bX,rfl,rfl⟩:=hrel;match i,bX with
  | 0,bX=>
   simp only[if_true];go_wp2;go_roundg 1;case measure=>omega
   case rel=>exact⟨1,rfl,rfl,by simp,rfl⟩
  | 1,bX=>
   simp only[KP,if_false,if_true];go_wp2;go_roundg 0;case measure=>omega
   case rel=>exact⟨2,rfl,rfl,by simp,rfl⟩
  | 2,bX=>
   simp only[show ¬(2=0) from by decide,show ¬(2=1) from by decide,if_false];go_wp2_with (go_at_call 203;refine (zdu s w lh).mono ?_;rintro e w2 ⟨ao,cap,rfl,hm⟩;have HM:=ah hm;clear hm);go_loopg [6,8,27] 2 (λk s6 s8 s27 wr=>∃(i:Nat) (ao:OA) (cap n:Nat),s27 = .int .i64 (i:Nat)/\i+k=2/\s6 = .slice ao n cap/\n=(if i=0 then 0 else if i=1 then n1 else n1+n2)/\Made w wr 3 1 ao n cap (if i=0 then [] else if i=1 then xs else xs++ys));case atStart=>exact⟨0,ao,cap,0,rfl,rfl,rfl,rfl,HM.out⟩
   case round=>
    obtain⟨i,ao,cap,n,rfl,bX,rfl,hn,hm⟩:=hrel;obtain⟨hq,h1,h2,l1,l2,k1,k2,z1,z2,u1,u2⟩:=H.out;have d2:=hm.fr.cell d0 (by simp);have d3:=hm.fr.cell d1 (by simp);have yP:=h1.fr hm.fr (by simp);have yO:=h2.fr hm.fr (by simp);match i,bX with
    | 0,bX=>
     simp only[if_true]at hn hm;subst hn;have HK:=cJ hm yP l1 k1 z1 u1;clear hm yP yO hq h1 h2 l1 l2 k1 k2 z1 z2 u1 u2 d3;go_wp2_with (refine gM pG rfl _ _ rfl (.slice ao 0 cap) 0 [] (af ao) rfl (dD ao 0 cap) HK.out.1.own a1 n1 c1 xs rfl HK.out.2.2.2.1 HK.out.2.2.2.2.1 HK.out.2.1 HK.out.2.2.1 HK.out.2.2.2.2.2 (by omega) (by unfold maxLen;omega) ?_;intro dv dA w3 bN;have HA:=ah bN;clear bN);go_roundg 1;case measure=>omega
     case rel=>exact⟨1,dv,dA,n1,rfl,rfl,by simp,by simp,by simpa using HK.out.1.app HA.out⟩
    | 1,bX=>
     simp only[KP,if_false,if_true]at hn hm;subst hn;have HK:=cJ hm yO l2 k2 z2 u2;clear hm yP yO hq h1 h2 l1 l2 k1 k2 z1 z2 u1 u2 d2;go_wp2_with (refine gM pG rfl _ _ rfl (.slice ao n cap) n xs (af ao) rfl (dD ao n cap) HK.out.1.own a2 n2 c2 ys rfl HK.out.2.2.2.1 HK.out.2.2.2.2.1 HK.out.2.1 HK.out.2.2.1 HK.out.2.2.2.2.2 (by omega) (by unfold maxLen;omega) ?_;intro dv dA w3 bN;have HA:=ah bN;clear bN);go_roundg 0;case measure=>omega
     case rel=>exact⟨2,dv,dA,n+n2,rfl,rfl,rfl,by simp,by simpa using HK.out.1.app HA.out⟩
    | 2,bX=>
     simp only[show ¬(2=0) from by decide,show ¬(2=1) from by decide,if_false]at hn hm;rw[<-HS.out]at hn;subst hn;have HK:=ah hm;clear hm yP yO hq h1 h2 l1 l2 k1 k2 z1 z2 u1 u2 d2 d3;go_wp2;go_ret;exact⟨ao,cap,rfl,by rw[HS.out];have:=HK.out;rwa [HS.out]at this⟩
    | k+3,bX=>omega
  | k+3,bX=>omega
end huf

end Go.Proofs.YtkmpfgpfbmeihaaGreatDoor