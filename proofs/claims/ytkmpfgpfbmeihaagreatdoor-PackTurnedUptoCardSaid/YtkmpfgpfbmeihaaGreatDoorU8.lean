/-
  Texts of this proof, one behind the other: SortD, SortE, SortF, Concat.
-/
import Derived.Test.YtkmpfgpfbmeihaaGreatDoorU7
set_option maxHeartbeats 16000000
set_option maxRecDepth 100000
set_option linter.unusedVariables false
set_option linter.unusedSimpArgs false
namespace Go.Proofs.YtkmpfgpfbmeihaaGreatDoor
namespace huf
open Go Go.RowKit lib bm bl
def dA (g:Nat) (T:TypeId) (A0:Array Value) (L cap a m b:Nat) (f:Nat->Mc) (w:World):Prop:=
 Calls Tryz.prog 202 #[.slice (some ⟨g,0,none⟩) L cap,.int .i64 (a:Nat),.int .i64 (m:Nat),.int .i64 (b:Nat),jL] w λe w'=>e = .returned (.tuple #[])/\∃f',Dw w' g T A0 L f'/\Sd f f' a b/\Fr [g] w w'
theorem Uw (g:Nat) (T:TypeId) (A0:Array Value) (L cap a m b:Nat) (f:Nat->Mc) (w:World)
  (h:Dw w g T A0 L f) (oQ:m=a+1) (jq:m<b) (xe:b<=L) (hL:L<=100000) (bA:Wb f) (hB:dX (sg f m (b-m))):dA g T A0 L cap a m b f w:=by
 have H:=aF h oQ jq hB;have e0:(m:Int)-(a:Int)=1:=by omega
 have oR:a<b:=by omega
 clear h hB oQ;unfold dA jL;go_enter Tryz.func202,Tryz.ntmps202;go_upto_block 0 with fail;go_wp2;go_loopg [10,11,12] (b-m) (λk s10 s11 s12 wr=>∃i j:Nat,s10 = .int .i64 (i:Nat)/\s11 = .int .i64 (j:Nat)/\j=i+k/\m<=i/\j<=b/\(m<i->(f (i-1)).worth<(f a).worth)/\(j<b->(f a).worth<=(f j).worth)/\Dw wr g T A0 L f/\Fr [g] w wr);case atStart=>exact⟨m,b,rfl,rfl,by omega,aw _,aw _,λh=>absurd h (by omega),λh=>absurd h (by omega),H.o0,.refl _ w⟩
 case round=>
  obtain⟨i,j,rfl,rfl,hk,h1,h2,h3,h4,hD,hf⟩:=hrel;by_cases jW:i<j
  ·obtain⟨s,hs⟩:=ah (i+j);have e1:(i:Int)+(j:Int)=(s:Int):=by omega
   obtain⟨hh,mU⟩:=ah (s/2);have e2:(s:Int)/2=(hh:Int):=by omega
   have OB:hh<L:=by omega
   have kR:s<=200000:=by omega
   have HI:=bJ hk h3 h4 hf hs mU;clear hk h3 h4 hf hs mU;have g2:decide ((L:Int)<=(hh:Int))=false:=by simp;omega
   have g4:decide ((L:Int)<=(a:Int))=false:=by simp;omega
   have j3:=λx=>hD.drew.kO (i:=hh) (by omega) x
   have j2:=λx=>hD.drew.kO (i:=a) (by omega) x
   have bb0:=bA (hh);have bb1:=bA (a);obtain⟨p,hp⟩:=ah ((f) (hh));obtain⟨r,hr⟩:=ah ((f) (a));rw[<-hp]at bb0 j3;rw[<-hr]at bb1 j2;have vw:=λx=>(j3 x).1
   have vv:=λx=>(j3 x).2
   have d10:=λx=>(j2 x).1
   have d11:=λx=>(j2 x).2
   have HP:=au hp hr hD;clear hp hr hD j3 j2;go_upto_region 5 with fail;refine jh 11 [(false,0),(false,1),(false,2),(false,3),(false,4),(false,5),(false,6),(false,7),(false,8),(true,9),(false,10)] [] (by kernel_rfl) (by kernel_rfl) (λ_ _ d _ _ h=>by cases d<;>exact h) ?_;simp only[iw];refine cS 9 rfl ?_;simp only[aU];repeat (go_big_quiet_step (fail))
   refine wpQuiet_nil ?_;refine ep rfl ?_;intro K hK;go_wp2_with (go_at_call 160;refine (Ro p r wr.drew bb0 bb1).mono ?_;rintro e w1 ⟨rfl,fO⟩);refine hK.out _ _ fO ?_;clear hK K vw vv d10 d11;have HC:Hid (Dw w1 g T A0 L (f)/\Fr [] wr w1):=af ⟨HP.out.2.2.drew.fr fO,(Fr.av [] wr).trans fO⟩;clear fO;clear g2 g4;by_cases hpr:p.worth<r.worth
   ·have g5:decide (((p.worth:Int)-(r.worth:Int))<0)=true:=by simp;omega
    refine cS 1 rfl ?_;simp only[aU];repeat (go_big_quiet_step (fail))
    refine wpQuiet_nil ?_;refine fE ?_;go_wp2;go_roundg (j-(hh+1));case measure=>have:=HI.out.1;have:=HI.out.2.2.2.2;omega
    case rel=>obtain⟨hk,h3,h4,hf,hs,mU⟩:=HI.out;obtain⟨hp,hr,hD⟩:=HP.out;refine⟨hh+1,j,by go_num,rfl,by omega,by omega,h2,λ_=>by rw[CI,<-hp,<-hr];exact hpr,h4,HC.o0,hf.trans (HC.l1.mono (by simp))⟩
   ·have g5:decide (((p.worth:Int)-(r.worth:Int))<0)=false:=by simp;omega
    refine cS 1 rfl ?_;simp only[aU];repeat (go_big_quiet_step (fail))
    refine wpQuiet_nil ?_;refine fE ?_;go_wp2;go_roundg (hh-i);case measure=>have:=HI.out.1;have:=HI.out.2.2.2.2;omega
    case rel=>obtain⟨hk,h3,h4,hf,hs,mU⟩:=HI.out;obtain⟨hp,hr,hD⟩:=HP.out;refine⟨i,hh,rfl,rfl,by omega,h1,by omega,h3,λ_=>by rw[<-hp,<-hr];omega,HC.o0,hf.trans (HC.l1.mono (by simp))⟩
  ·obtain rfl:i=j:=by omega
   have HI:=aF h3 h4 hD hf;clear h3 h4 hD hf hk;obtain⟨q,hq⟩:=ah (i-1);have e1:(i:Int)-1=(q:Int):=by omega
   have oQ:m=a+1:=H.o1;have NR:a<=q:=by omega
   have vN:i=q+1:=by omega
   clear oQ;have HQ:=ak hq vN;clear hq vN;go_wp2;go_loopg [13] (q-a) (λk s13 wr=>∃t:Nat,s13 = .int .i64 (t:Nat)/\t+k=q/\a<=t/\Dw wr g T A0 L (ay f a (a+1) (t+1))/\Fr [g] w wr);case atStart=>exact⟨a,rfl,by omega,aw _,by rw[yP f a (a+1) (a+1) (by omega) (aw _) (.inr rfl)];exact HI.out.2.2.1,HI.out.2.2.2⟩
   case round=>
    obtain⟨t,rfl,bF,eD,hD,hf⟩:=hrel;by_cases ht:t<q
    ·obtain⟨k2,rfl⟩:∃k2,gk=k2+1:=⟨gk-1,by omega⟩;obtain⟨wo,rfl⟩:∃wo:World,wo=wr:=⟨_,rfl⟩;obtain⟨y,hy⟩:=ah (t+1);have e2:(t:Int)+1=(y:Int):=by omega
     have hqL:q<L:=by have:=HQ.out.2;omega
     have kE:t<L:=by omega
     have qZ:y<L:=by omega
     have rG:t≠y:=by omega
     have g2:decide ((L:Int)<=(t:Int))=false:=by simp;omega
     have g4:decide ((L:Int)<=(y:Int))=false:=by simp;omega
     have HJ:=au hf bF hy;clear hf bF hy;obtain⟨A,hA,cG,gP,cM,eH⟩:=hD;have X:=eH t kE;have Y:=eH y qZ;obtain⟨cx,iy⟩:=ah ((ay f a (a+1) (t+1)) t);obtain⟨cy,iL⟩:=ah ((ay f a (a+1) (t+1)) y);rw[<-iy]at X;rw[<-iL]at Y;obtain⟨B3,B6,B4,B5⟩:=cx;obtain⟨vx,vA,vy,vz⟩:=cy;have d0:=(cell_of hA (t*2)).trans X.1;have d1:=(cell_of hA (t*2+1)).trans X.2;have d2:=(cell_of hA (y*2)).trans Y.1;have d3:=(cell_of hA (y*2+1)).trans Y.2;simp only at d0 d1 d2 d3;have dQ:=cz hA cG gP cM eH iy iL;clear hA cG gP cM eH iy iL X Y;go_upto_region 11 with fail;refine DC [(0,0),(0,1),(0,2),(0,3),(0,4),(0,5),(0,6),(0,7),(0,8),(1,9),(0,10),(0,11),(0,12),(1,13),(0,14),(2,15),(0,16),(2,17)] [g] [15,17] (by kernel_rfl) (by kernel_rfl) (λ_ _ d _ _ h=>by cases d<;>exact h) ?_;simp only[gW,oJ,yT,yS];refine ko 9 rfl ?_;simp only[aU];repeat (go_big_quiet_step (fail))
     refine wpQuiet_nil ?_;refine tT 1 rfl ?_;simp only[aU];repeat (go_big_quiet_step (fail))
     refine wpQuiet_nil ?_;refine ko 3 rfl ?_;simp only[aU];repeat (go_big_quiet_step (fail))
     refine wpQuiet_nil ?_;refine tT 1 rfl ?_;simp only[aU];repeat (go_big_quiet_step (fail))
     refine wpQuiet_nil ?_;refine ko 1 rfl ?_;simp only[aU];repeat (go_big_quiet_step (fail))
     refine wpQuiet_nil ?_;refine tS rfl ?_;intro K hK;have z0:=aO dQ.out.1 (t*2);have z1:=aO dQ.out.1 (t*2+1);go_wp2;refine hK.out _ _ (Fr.aS ((((Fr.refl [g] wo).setCell (by simp) _).setCell (by simp) _).drew)) ?_;clear hK K z0 z1;obtain⟨dW,bQ⟩:∃dW,dW=((wo.setCell ⟨g,t*2,none⟩ (.int .i64 (vx:Nat))).setCell ⟨g,t*2+1,none⟩ (.slice vA vy vz)):=⟨_,rfl⟩;rw[<-bQ];have bH:=aX (o:=t*2+1) (aX (o:=t*2) dQ.out.1 (.int .i64 vx)) (.slice vA vy vz);rw[<-bQ]at bH;obtain⟨A1,hB⟩:∃A1,A1=(A.setIfInBounds (t*2) (.int .i64 (vx:Nat))).setIfInBounds (t*2+1) (.slice vA vy vz):=⟨_,rfl⟩;rw[<-hB]at bH;have z0:=aO bH (y*2);have z1:=aO bH (y*2+1);have c2:dW.cell? ⟨g,y*2,none⟩=some (.int .i64 vx):=by rw[cell_of bH,hB,aZ (by omega),aZ (by omega),<-cell_of dQ.out.1];exact d2
     have c3:dW.cell? ⟨g,y*2+1,none⟩=some (.slice vA vy vz):=by rw[cell_of bH,hB,aZ (by omega),aZ (by omega),<-cell_of dQ.out.1];exact d3
     have vW:=au bH hB bQ;clear bH hB bQ d0 d1 d2 d3;refine ko 1 rfl ?_;simp only[aU];repeat (go_big_quiet_step (fail))
     refine wpQuiet_nil ?_;refine tS rfl ?_;intro K hK;go_wp2;refine hK.out _ _ (Fr.aS ((((Fr.refl [g] dW).setCell (by simp) _).setCell (by simp) _).drew)) ?_;clear hK K z0 z1 c2 c3;refine Dy ?_;obtain⟨w2,bq⟩:∃w2,w2=((dW.setCell ⟨g,y*2,none⟩ (.int .i64 (B3:Nat))).setCell ⟨g,y*2+1,none⟩ (.slice B6 B4 B5)):=⟨_,rfl⟩;rw[<-bq];have HZ:Hid (Dw w2 g T A0 L (swp (ay f a (a+1) (t+1)) y t)/\Fr [g] wo w2):=by obtain⟨hA,cG,gP,cM,eH,iy,iL⟩:=dQ.out;obtain⟨bH,hB,bQ⟩:=vW.out;have gQ:=aX (o:=y*2+1) (aX (o:=y*2) bH (.int .i64 B3)) (.slice B6 B4 B5);rw[hB,<-bq]at gQ;exact af ⟨Dw.swap _ B3 B6 B4 B5 vx vA vy vz cG gP cM eH kE qZ iy iL gQ,by rw[bq,bQ];exact ((((Fr.refl [g] wo).setCell (by simp) _).setCell (by simp) _).setCell (by simp) _).setCell (by simp) _⟩
     clear bq;clear g2 g4;go_wp2;go_roundg k2;case measure=>have:=HJ.out.2.1;omega
     case rel=>obtain⟨hf,bF,hy⟩:=HJ.out;refine⟨y,by go_num,by omega,by omega,?_,hf.trans HZ.l1.drew⟩;have:=HZ.o0;rw[hy,gV,Ua f a t eD]at this;rw[hy];exact this.drew
    ·obtain rfl:t=q:=by omega
     have HJ:=ak hD hf;clear hD hf bF;go_wp2;(try simp only[Exit.inBlock,Exit.then]);refine bodyPost_ret (results_none rfl _ _ _) rfl ?_;obtain⟨hq,vN⟩:=HQ.out;refine⟨rfl,_,HJ.out.1,?_,HJ.out.2⟩;rw[<-vN];have oQ:m=a+1:=H.o1;exact Uu f a i b (by omega) h2 (by have:=H.l3;rw[oQ]at this;exact this) (λh=>HI.out.1 (by omega)) (λh=>HI.out.2.1 h)
theorem Ux (g:Nat) (T:TypeId) (A0:Array Value) (L cap a m b:Nat) (f:Nat->Mc) (w:World)
  (h:Dw w g T A0 L f) (oQ:a<m) (bR:m≠a+1) (jq:b=m+1) (xe:b<=L) (hL:L<=100000) (bA:Wb f) (hA:dX (sg f a (m-a))):dA g T A0 L cap a m b f w:=by
 have H:=aF h oQ jq hA;have PY:(((m:Int)-(a:Int))==1)=false:=by simp only[beq_eq_false_iff_ne];omega
 have e0:(b:Int)-(m:Int)=1:=by omega
 have oR:a<b:=by omega
 have hmL:m<L:=by omega
 clear h hA jq bR;unfold dA jL;go_enter Tryz.func202,Tryz.ntmps202;go_upto_block 4 with fail;go_wp2;go_loopg [14,15,16] (m-a) (λk s14 s15 s16 wr=>∃i j:Nat,s14 = .int .i64 (i:Nat)/\s15 = .int .i64 (j:Nat)/\j=i+k/\a<=i/\j<=m/\(a<i->(f (i-1)).worth<=(f m).worth)/\(j<m->(f m).worth<(f j).worth)/\Dw wr g T A0 L f/\Fr [g] w wr);case atStart=>exact⟨a,m,rfl,rfl,by omega,aw _,aw _,λh=>absurd h (by omega),λh=>absurd h (by omega),H.o0,.refl _ w⟩
 case round=>
  obtain⟨i,j,rfl,rfl,hk,h1,h2,h3,h4,hD,hf⟩:=hrel;by_cases jW:i<j
  ·obtain⟨s,hs⟩:=ah (i+j);have e1:(i:Int)+(j:Int)=(s:Int):=by omega
   obtain⟨hh,mU⟩:=ah (s/2);have e2:(s:Int)/2=(hh:Int):=by omega
   have OB:hh<L:=by omega
   have kR:s<=200000:=by omega
   have HI:=bJ hk h3 h4 hf hs mU;clear hk h3 h4 hf hs mU;have g2:decide ((L:Int)<=(hh:Int))=false:=by simp;omega
   have g4:decide ((L:Int)<=(m:Int))=false:=by simp;omega
   have j3:=λx=>hD.drew.kO (i:=m) (by omega) x
   have j2:=λx=>hD.drew.kO (i:=hh) (by omega) x
   have bb0:=bA (m);have bb1:=bA (hh);obtain⟨p,hp⟩:=ah ((f) (m));obtain⟨r,hr⟩:=ah ((f) (hh));rw[<-hp]at bb0 j3;rw[<-hr]at bb1 j2;have vw:=λx=>(j3 x).1
   have vv:=λx=>(j3 x).2
   have d10:=λx=>(j2 x).1
   have d11:=λx=>(j2 x).2
   have HP:=au hp hr hD;clear hp hr hD j3 j2;go_upto_region 17 with fail;refine jh 12 [(false,0),(false,1),(false,2),(false,3),(false,4),(false,5),(false,6),(false,7),(false,8),(true,9),(false,10),(false,11)] [] (by kernel_rfl) (by kernel_rfl) (λ_ _ d _ _ h=>by cases d<;>exact h) ?_;simp only[iw];refine cS 9 rfl ?_;simp only[aU];repeat (go_big_quiet_step (fail))
   refine wpQuiet_nil ?_;refine ep rfl ?_;intro K hK;go_wp2_with (go_at_call 160;refine (Ro p r wr.drew bb0 bb1).mono ?_;rintro e w1 ⟨rfl,fO⟩);refine hK.out _ _ fO ?_;clear hK K vw vv d10 d11;have HC:Hid (Dw w1 g T A0 L (f)/\Fr [] wr w1):=af ⟨HP.out.2.2.drew.fr fO,(Fr.av [] wr).trans fO⟩;clear fO;clear g2 g4;by_cases hpr:p.worth<r.worth
   ·have g5:decide (((p.worth:Int)-(r.worth:Int))<0)=true:=by simp;omega
    refine cS 2 rfl ?_;simp only[aU];repeat (go_big_quiet_step (fail))
    refine wpQuiet_nil ?_;refine fE ?_;go_wp2;go_roundg (hh-i);case measure=>have:=HI.out.1;have:=HI.out.2.2.2.2;omega
    case rel=>obtain⟨hk,h3,h4,hf,hs,mU⟩:=HI.out;obtain⟨hp,hr,hD⟩:=HP.out;refine⟨i,hh,rfl,rfl,by omega,h1,by omega,h3,λ_=>by rw[<-hp,<-hr];exact hpr,HC.o0,hf.trans (HC.l1.mono (by simp))⟩
   ·have g5:decide (((p.worth:Int)-(r.worth:Int))<0)=false:=by simp;omega
    refine cS 2 rfl ?_;simp only[aU];repeat (go_big_quiet_step (fail))
    refine wpQuiet_nil ?_;refine fE ?_;go_wp2;go_roundg (j-(hh+1));case measure=>have:=HI.out.1;have:=HI.out.2.2.2.2;omega
    case rel=>obtain⟨hk,h3,h4,hf,hs,mU⟩:=HI.out;obtain⟨hp,hr,hD⟩:=HP.out;refine⟨hh+1,j,by go_num,rfl,by omega,by omega,h2,λ_=>by rw[CI,<-hp,<-hr];omega,h4,HC.o0,hf.trans (HC.l1.mono (by simp))⟩
  ·obtain rfl:i=j:=by omega
   have HI:=aF h3 h4 hD hf;clear h3 h4 hD hf hk;go_wp2;go_loopg [17] (m-i) (λk s17 wr=>∃t:Nat,s17 = .int .i64 (t:Nat)/\t=i+k/\t<=m/\Dw wr g T A0 L (ay f t m (m+1))/\Fr [g] w wr);case atStart=>exact⟨m,rfl,by omega,aw _,by rw[yP f m m (m+1) (by omega) (by omega) (.inl rfl)];exact HI.out.2.2.1,HI.out.2.2.2⟩
   case round=>
    obtain⟨t,rfl,bF,NC,hD,hf⟩:=hrel;by_cases ht:i<t
    ·obtain⟨k2,rfl⟩:∃k2,gk=k2+1:=⟨gk-1,by omega⟩;obtain⟨wo,rfl⟩:∃wo:World,wo=wr:=⟨_,rfl⟩;obtain⟨y,hy⟩:=ah (t-1);have e2:(t:Int)-1=(y:Int):=by omega
     have kE:t<L:=by omega
     have qZ:y<L:=by omega
     have rG:t≠y:=by omega
     have g2:decide ((L:Int)<=(t:Int))=false:=by simp;omega
     have g4:decide ((L:Int)<=(y:Int))=false:=by simp;omega
     have HJ:=au hf bF hy;clear hf bF hy;obtain⟨A,hA,cG,gP,cM,eH⟩:=hD;have X:=eH t kE;have Y:=eH y qZ;obtain⟨cx,iy⟩:=ah ((ay f t m (m+1)) t);obtain⟨cy,iL⟩:=ah ((ay f t m (m+1)) y);rw[<-iy]at X;rw[<-iL]at Y;obtain⟨B3,B6,B4,B5⟩:=cx;obtain⟨vx,vA,vy,vz⟩:=cy;have d0:=(cell_of hA (t*2)).trans X.1;have d1:=(cell_of hA (t*2+1)).trans X.2;have d2:=(cell_of hA (y*2)).trans Y.1;have d3:=(cell_of hA (y*2+1)).trans Y.2;simp only at d0 d1 d2 d3;have dQ:=cz hA cG gP cM eH iy iL;clear hA cG gP cM eH iy iL X Y;go_upto_region 23 with fail;refine DC [(0,0),(0,1),(0,2),(0,3),(0,4),(0,5),(0,6),(0,7),(0,8),(1,9),(0,10),(0,11),(0,12),(1,13),(0,14),(2,15),(0,16),(2,17)] [g] [15,17] (by kernel_rfl) (by kernel_rfl) (λ_ _ d _ _ h=>by cases d<;>exact h) ?_;simp only[gW,oJ,yT,yS];refine ko 9 rfl ?_;simp only[aU];repeat (go_big_quiet_step (fail))
     refine wpQuiet_nil ?_;refine tT 1 rfl ?_;simp only[aU];repeat (go_big_quiet_step (fail))
     refine wpQuiet_nil ?_;refine ko 3 rfl ?_;simp only[aU];repeat (go_big_quiet_step (fail))
     refine wpQuiet_nil ?_;refine tT 1 rfl ?_;simp only[aU];repeat (go_big_quiet_step (fail))
     refine wpQuiet_nil ?_;refine ko 1 rfl ?_;simp only[aU];repeat (go_big_quiet_step (fail))
     refine wpQuiet_nil ?_;refine tS rfl ?_;intro K hK;have z0:=aO dQ.out.1 (t*2);have z1:=aO dQ.out.1 (t*2+1);go_wp2;refine hK.out _ _ (Fr.aS ((((Fr.refl [g] wo).setCell (by simp) _).setCell (by simp) _).drew)) ?_;clear hK K z0 z1;obtain⟨dW,bQ⟩:∃dW,dW=((wo.setCell ⟨g,t*2,none⟩ (.int .i64 (vx:Nat))).setCell ⟨g,t*2+1,none⟩ (.slice vA vy vz)):=⟨_,rfl⟩;rw[<-bQ];have bH:=aX (o:=t*2+1) (aX (o:=t*2) dQ.out.1 (.int .i64 vx)) (.slice vA vy vz);rw[<-bQ]at bH;obtain⟨A1,hB⟩:∃A1,A1=(A.setIfInBounds (t*2) (.int .i64 (vx:Nat))).setIfInBounds (t*2+1) (.slice vA vy vz):=⟨_,rfl⟩;rw[<-hB]at bH;have z0:=aO bH (y*2);have z1:=aO bH (y*2+1);have c2:dW.cell? ⟨g,y*2,none⟩=some (.int .i64 vx):=by rw[cell_of bH,hB,aZ (by omega),aZ (by omega),<-cell_of dQ.out.1];exact d2
     have c3:dW.cell? ⟨g,y*2+1,none⟩=some (.slice vA vy vz):=by rw[cell_of bH,hB,aZ (by omega),aZ (by omega),<-cell_of dQ.out.1];exact d3
     have vW:=au bH hB bQ;clear bH hB bQ d0 d1 d2 d3;refine ko 1 rfl ?_;simp only[aU];repeat (go_big_quiet_step (fail))
     refine wpQuiet_nil ?_;refine tS rfl ?_;intro K hK;go_wp2;refine hK.out _ _ (Fr.aS ((((Fr.refl [g] dW).setCell (by simp) _).setCell (by simp) _).drew)) ?_;clear hK K z0 z1 c2 c3;refine Dy ?_;obtain⟨w2,bq⟩:∃w2,w2=((dW.setCell ⟨g,y*2,none⟩ (.int .i64 (B3:Nat))).setCell ⟨g,y*2+1,none⟩ (.slice B6 B4 B5)):=⟨_,rfl⟩;rw[<-bq];have HZ:Hid (Dw w2 g T A0 L (swp (ay f t m (m+1)) y t)/\Fr [g] wo w2):=by obtain⟨hA,cG,gP,cM,eH,iy,iL⟩:=dQ.out;obtain⟨bH,hB,bQ⟩:=vW.out;have gQ:=aX (o:=y*2+1) (aX (o:=y*2) bH (.int .i64 B3)) (.slice B6 B4 B5);rw[hB,<-bq]at gQ;exact af ⟨Dw.swap _ B3 B6 B4 B5 vx vA vy vz cG gP cM eH kE qZ iy iL gQ,by rw[bq,bQ];exact ((((Fr.refl [g] wo).setCell (by simp) _).setCell (by simp) _).setCell (by simp) _).setCell (by simp) _⟩
     clear bq;clear g2 g4;go_wp2;go_roundg k2;case measure=>have:=HJ.out.2.1;omega
     case rel=>obtain⟨hf,bF,hy⟩:=HJ.out;refine⟨y,by go_num,by omega,by omega,?_,hf.trans HZ.l1.drew⟩;have:=HZ.o0;rw[hy,gV,Mn f m t (by omega) NC]at this;rw[hy];exact this.drew
    ·obtain rfl:t=i:=by omega
     have HJ:=ak hD hf;clear hD hf bF;go_wp2;(try simp only[Exit.inBlock,Exit.then]);refine bodyPost_ret (results_none rfl _ _ _) rfl ?_;refine⟨rfl,_,HJ.out.1,?_,HJ.out.2⟩;have jq:b=m+1:=H.o2;rw[jq];exact Hp f a m t h1 NC H.l3 (λh=>HI.out.1 h) (λh=>HI.out.2.1 h)
theorem US (g:Nat) (T:TypeId) (A0:Array Value) (L cap a m b:Nat) (f:Nat->Mc) (w:World)
  (ih:∀(a' m' b':Nat) (f':Nat->Mc) (w':World),b'-a'<b-a->Dw w' g T A0 L f'->a'<m'->m'<b'->b'<=L->Wb f'->dX (sg f' a' (m'-a'))->dX (sg f' m' (b'-m'))->dA g T A0 L cap a' m' b' f' w')
  (h:Dw w g T A0 L f) (oQ:a<m) (bR:m≠a+1) (jq:m<b) (Bg:b≠m+1) (xe:b<=L) (hL:L<=100000) (bA:Wb f) (hA:dX (sg f a (m-a))) (hB:dX (sg f m (b-m))):dA g T A0 L cap a m b f w:=by
 obtain⟨s,hs⟩:=ah (a+b);obtain⟨mid,lh⟩:=ah (s/2);obtain⟨n,hn⟩:=ah (mid+m);obtain⟨p,hp⟩:=ah (n-1);have PY:(((m:Int)-(a:Int))==1)=false:=by simp only[beq_eq_false_iff_ne];omega
 have Y7:(((b:Int)-(m:Int))==1)=false:=by simp only[beq_eq_false_iff_ne];omega
 have e1:(a:Int)+(b:Int)=(s:Int):=by omega
 have e2:(s:Int)/2=(mid:Int):=by omega
 have e3:(mid:Int)+(m:Int)=(n:Int):=by omega
 have e4:(n:Int)-1=(p:Int):=by omega
 have b1:s<=200000:=by omega
 have b2:n<=200000:=by omega
 have b3:p<=200000:=by omega
 have b4:mid<=100000:=by omega
 have H:=aP h hA hB bA ih;have H0:=oG oQ jq xe hs lh hn hp bR Bg;clear h hA hB bA ih oQ jq hs lh hn hp bR Bg;unfold dA jL;go_enter Tryz.func202,Tryz.ntmps202;go_upto_region 27 with fail;clear PY Y7 e1 e2 e3;obtain⟨wo,wG⟩:∃wo:World,wo=w:=⟨_,rfl⟩;rw[<-wG];have ou:=af wG;clear wG;have dz:∀k:Prop,(m<=mid->k)->(¬m<=mid->k)->k:=λk h1 h2=>by by_cases h:m<=mid;exact h1 h;exact h2 h
 go_cut [140] from 138 to 141 (λs140 wz=>s140 = .bool (decide (mid<m))/\wo=wz)
 case first=>
  by_cases hm:mid<m
  ·have q1:decide ((mid:Int)<(m:Int))=true:=by simp;omega
   go_wp2;go_meet;exact⟨by simp[hm],rfl⟩
  ·have q1:decide ((mid:Int)<(m:Int))=false:=by simp;omega
   go_wp2;go_meet;exact⟨by simp[hm],rfl⟩
 case rest=>
 obtain⟨rfl,rfl⟩:=hcut;go_upto_if 140 with fail;go_cut [20,21] from 141 to 147 (λs20 s21 wz=>∃s0 r0:Nat,s20 = .int .i64 (s0:Nat)/\s21 = .int .i64 (r0:Nat)/\((s0=a\/s0+b=n)/\(r0=mid\/r0=m)/\s0<=r0/\a<=s0/\n<=s0+b/\r0<=m/\r0<=mid)/\wo=wz)
 case first=>
  obtain⟨k1,k2,k3,k4,k5,k6,k7,k8,k9⟩:=H0.out;by_cases hm:mid<m
  ·have q1:decide (mid<m)=true:=by simp;omega
   obtain⟨s0,kF⟩:=ah (n-b);have e5:(n:Int)-(b:Int)=(s0:Int):=by omega
   have HK:=cz k1 k2 k3 k4 k5 k6 kF;clear k1 k2 k3 k4 k5 k6 k7 k8 k9 kF;go_wp2;go_meet;obtain⟨k1,k2,k3,k4,k5,k6,kF⟩:=HK.out;exact⟨s0,mid,rfl,rfl,by omega,rfl⟩
  ·have q1:decide (mid<m)=false:=by simp;omega
   have HK:=bJ k1 k2 k3 k4 k5 k6;clear k1 k2 k3 k4 k5 k6 k7 k8 k9;go_wp2;go_meet;obtain⟨k1,k2,k3,k4,k5,k6⟩:=HK.out;exact⟨a,m,rfl,rfl,by omega,rfl⟩
 case rest=>
 obtain⟨s0,r0,rfl,rfl,h0,rfl⟩:=hcut;have H1:=af h0;clear h0 dz;go_wp2;go_loopg [20,21,23] (r0-s0) (λk s20 s21 s23 wr=>∃i j:Nat,s20 = .int .i64 (i:Nat)/\s21 = .int .i64 (j:Nat)/\j=i+k/\s0<=i/\j<=r0/\(s0<i->(f (i-1)).worth<=(f (p-(i-1))).worth)/\(j<r0->(f (p-j)).worth<(f j).worth)/\Dw wr g T A0 L f/\Fr [g] w wr);case atStart=>obtain⟨k1,k2,k3,_⟩:=H1.out;exact⟨s0,r0,rfl,rfl,by omega,aw _,aw _,λh=>absurd h (by omega),λh=>absurd h (by omega),by rw[ou.out];exact H.o0,by rw[ou.out];exact .refl _ w⟩
 case round=>
  obtain⟨i,j,rfl,rfl,hk,h1,h2,h3,h4,hD,hf⟩:=hrel;by_cases jW:i<j
  ·obtain⟨s2,hs⟩:∃s,s=i+j:=⟨_,rfl⟩;obtain⟨hh,mU⟩:=ah (s2/2);obtain⟨pc,wM⟩:=ah (p-hh);have hb:hh<L/\pc<L/\hh<=p/\s2<=200000:=by obtain⟨k1,k2,k3,k4,k5,k6,k7,k8,k9⟩:=H0.out;obtain⟨l1,l2,l3,l4,l5,l6,l7⟩:=H1.out;omega
   obtain⟨OB,hpL,hhp,kR⟩:=hb;have e1:(i:Int)+(j:Int)=(s2:Int):=by omega
   have e2:(s2:Int)/2=(hh:Int):=by omega
   have e3:(p:Int)-(hh:Int)=(pc:Int):=by omega
   have bA:=H.o3;have HI:=cz hk h3 h4 hf hs mU wM;clear hk h3 h4 hf hs mU wM;have g2:decide ((L:Int)<=(hh:Int))=false:=by simp;omega
   have g4:decide ((L:Int)<=(pc:Int))=false:=by simp;omega
   have j3:=λx=>hD.drew.kO (i:=pc) (by omega) x
   have j2:=λx=>hD.drew.kO (i:=hh) (by omega) x
   have bb0:=bA (pc);have bb1:=bA (hh);obtain⟨px,IG⟩:=ah ((f) (pc));obtain⟨r,hr⟩:=ah ((f) (hh));rw[<-IG]at bb0 j3;rw[<-hr]at bb1 j2;have vw:=λx=>(j3 x).1
   have vv:=λx=>(j3 x).2
   have d10:=λx=>(j2 x).1
   have d11:=λx=>(j2 x).2
   have HP:=au IG hr hD;clear IG hr hD j3 j2;go_upto_region 35 with fail;refine jh 14 [(false,0),(false,1),(false,2),(false,3),(false,4),(false,5),(false,6),(false,7),(false,8),(false,9),(false,10),(true,11),(false,12),(false,13)] [] (by kernel_rfl) (by kernel_rfl) (λ_ _ d _ _ h=>by cases d<;>exact h) ?_;simp only[iw];refine cS 11 rfl ?_;simp only[aU];repeat (go_big_quiet_step (fail))
   refine wpQuiet_nil ?_;refine ep rfl ?_;intro K hK;go_wp2_with (go_at_call 160;refine (Ro px r wr.drew bb0 bb1).mono ?_;rintro e w1 ⟨rfl,fO⟩);refine hK.out _ _ fO ?_;clear hK K vw vv d10 d11;have HC:Hid (Dw w1 g T A0 L (f)/\Fr [] wr w1):=af ⟨HP.out.2.2.drew.fr fO,(Fr.av [] wr).trans fO⟩;clear fO;clear g2 g4;by_cases hpr:px.worth<r.worth
   ·have g5:decide (((px.worth:Int)-(r.worth:Int))<0)=true:=by simp;omega
    refine cS 2 rfl ?_;simp only[aU];repeat (go_big_quiet_step (fail))
    refine wpQuiet_nil ?_;refine fE ?_;go_wp2;go_roundg (hh-i);case measure=>have:=HI.out.1;have:=HI.out.2.2.2.2;omega
    case rel=>obtain⟨hk,h3,h4,hf,hs,mU,wM⟩:=HI.out;obtain⟨hp,hr,hD⟩:=HP.out;refine⟨i,hh,rfl,rfl,by omega,h1,by omega,h3,λ_=>by rw[<-wM,<-hp,<-hr];exact hpr,HC.o0,hf.trans (HC.l1.mono (by simp))⟩
   ·have g5:decide (((px.worth:Int)-(r.worth:Int))<0)=false:=by simp;omega
    refine cS 2 rfl ?_;simp only[aU];repeat (go_big_quiet_step (fail))
    refine wpQuiet_nil ?_;refine fE ?_;go_wp2;go_roundg (j-(hh+1));case measure=>have:=HI.out.1;have:=HI.out.2.2.2.2;omega
    case rel=>obtain⟨hk,h3,h4,hf,hs,mU,wM⟩:=HI.out;obtain⟨hp,hr,hD⟩:=HP.out;refine⟨hh+1,j,by go_num,rfl,by omega,by omega,h2,λ_=>by rw[CI,<-wM,<-hp,<-hr];omega,h4,HC.o0,hf.trans (HC.l1.mono (by simp))⟩
  ·obtain rfl:i=j:=by omega
   obtain⟨e,he⟩:=ah (n-i);have hg:a<=i/\i<=m/\m<=e/\e<=b/\i+e=mid+m/\i<=mid/\mid<=e/\p=n-1/\mid=(a+b)/2/\a<mid/\mid<b/\(i<m->m<e->i<r0)/\(a<i->e<b->s0<i):=by obtain⟨k1,k2,k3,k4,k5,k6,k7,k8,k9⟩:=H0.out;obtain⟨l1,l2,l3,l4,l5,l6,l7⟩:=H1.out;omega
   have e1:(n:Int)-(i:Int)=(e:Int):=by omega
   have q1:i<m->m<e->(f (e-1)).worth<(f i).worth:=λx y=>by have:=h4 (hg.2.2.2.2.2.2.2.2.2.2.2.1 x y);rwa [show p-i=e-1 from by omega]at this
   have q2:a<i->e<b->(f (i-1)).worth<=(f e).worth:=λx y=>by have:=h3 (hg.2.2.2.2.2.2.2.2.2.2.2.2 x y);rwa [show p-(i-1)=e from by omega]at this
   have HI:=bJ q1 q2 hg hD hf he;have qi:m<=e:=hg.2.2.1;have Jb:e<=b:=hg.2.2.2.1;have XO:i<=m:=hg.2.1;have Yp:a<=i:=hg.1;clear h3 h4 hD hf hk q1 q2 hg he h1 h2 jW;go_upto_region 39 with fail;go_cut [185] from 178 to 186 (λs185 wz=>∃c:Bool,s185 = .bool c/\(c=true↔(i<m/\m<e))/\wr=wz)
   case first=>
    by_cases c1:i<m
    ·by_cases c2:m<e
     ·have q1:decide ((i:Int)<(m:Int))=true:=by simp;omega
      have q2:decide ((m:Int)<(e:Int))=true:=by simp;omega
      go_wp2;go_meet;exact⟨_,rfl,by simp[c1,c2],rfl⟩
     ·have q1:decide ((i:Int)<(m:Int))=true:=by simp;omega
      have q2:decide ((m:Int)<(e:Int))=false:=by simp;omega
      go_wp2;go_meet;exact⟨_,rfl,by simp[c1,c2],rfl⟩
    ·have q1:decide ((i:Int)<(m:Int))=false:=by simp;omega
     go_wp2;go_meet;exact⟨_,rfl,by simp[c1],rfl⟩
   case rest=>
   obtain⟨cb,rfl,kx,rfl⟩:=hcut;have qM:=af kx;clear kx;go_upto_if 185 with fail;go_cut [] from 185 to 192 (λwz=>Dw wz g T A0 L (ay f i m e)/\Fr [g] w wz)
   case first=>
    cases cb with
    | true=>
     have c:=qM.out.1 rfl;have hr:=yM g T A0 L cap i m e f (.func (.func 160) #[] #[]) wr HI.out.2.2.2.1 c.1 c.2 (by omega) hL;have HR:=af hr;clear hr c;go_wp2_with (go_at_call 216;refine HR.out.mono ?_;rintro e w2 ⟨rfl,dM,dK⟩);go_meet;exact⟨dM,HI.out.2.2.2.2.1.trans dK⟩
    | false=>
     have c:¬(i<m/\m<e):=λh=>absurd (qM.out.2 h) (by simp)
     have HX:=af c;clear c;go_wp2;go_meet;refine⟨?_,HI.out.2.2.2.2.1⟩;rw[yP f i m e XO qi (by have:=HX.out;omega)];exact HI.out.2.2.2.1
   case rest=>
   obtain⟨zp,BN⟩:=hcut;obtain⟨w3,gN⟩:∃w3:World,w3=wc:=⟨_,rfl⟩;rw[<-gN]at zp BN ⊢;have Df:=au zp BN gN;clear zp BN gN;have cD:Hid (Wb (ay f i m e)):=af (H.o3.TJ i m e);have sM:Hid (a<i->i<mid->dX (sg (ay f i m e) a (i-a))/\dX (sg (ay f i m e) i (mid-i))):=af λx y=>by
    obtain⟨k1,k2,k3,k4,k5,k6,k7,k8,k9,wE,wD,_⟩:=HI.out.2.2.1;refine⟨?_,?_⟩
    ·rw[yN _ _ _ _ _ _ k2 k3 (.inl (by omega))];exact uu H.o1 (aw _) (by omega)
    ·have:=AB f i m e k2 k3;rw[show mid-i=e-m from by omega,this];exact uu H.o2 (aw _) (by omega)
   have ym:Hid (¬(a<i/\i<mid)->dX (sg (ay f i m e) a (mid-a))):=af λx=>by
    obtain⟨k1,k2,k3,k4,k5,k6,k7,k8,k9,wE,wD,_⟩:=HI.out.2.2.1;by_cases hz:i=a
    ·have:=AB f i m e k2 k3;rw[<-hz,show mid-i=e-m from by omega,this];exact uu H.o2 (aw _) (by omega)
    ·rw[yP f i m e k2 k3 (by omega)];exact uu H.o1 (aw _) (by omega)
   go_upto_region 41 with fail;go_cut [199] from 192 to 200 (λs199 wz=>∃c:Bool,s199 = .bool c/\(c=true↔(a<i/\i<mid))/\w3=wz)
   case first=>
    by_cases c1:a<i
    ·by_cases c2:i<mid
     ·have q1:decide ((a:Int)<(i:Int))=true:=by simp;omega
      have q2:decide ((i:Int)<(mid:Int))=true:=by simp;omega
      go_wp2;go_meet;exact⟨_,rfl,by simp[c1,c2],rfl⟩
     ·have q1:decide ((a:Int)<(i:Int))=true:=by simp;omega
      have q2:decide ((i:Int)<(mid:Int))=false:=by simp;omega
      go_wp2;go_meet;exact⟨_,rfl,by simp[c1,c2],rfl⟩
    ·have q1:decide ((a:Int)<(i:Int))=false:=by simp;omega
     go_wp2;go_meet;exact⟨_,rfl,by simp[c1],rfl⟩
   case rest=>
   obtain⟨cb,rfl,kx,rfl⟩:=hcut;have qL:=af kx;clear kx;go_upto_if 199 with fail;go_cut [] from 199 to 206 (λwz=>∃f1,Dw wz g T A0 L f1/\Sd (ay f i m e) f1 a mid/\Fr [g] w wz)
   case first=>
    cases cb with
    | true=>
     have c:=qL.out.1 rfl;have hr:dA g T A0 L cap a i mid (ay f i m e) w3:=by obtain⟨k1,k2,k3,k4,k5,k6,k7,k8,k9,wE,wD,_⟩:=HI.out.2.2.1;exact H.l4 a i mid _ w3 (by omega) Df.o0 c.1 c.2 (by omega) cD.out (sM.out c.1 c.2).1 (sM.out c.1 c.2).2
     unfold dA jL at hr;have HR:=af hr;clear hr c;go_wp2_with (go_at_call 202;refine HR.out.mono ?_;rintro e w2 ⟨rfl,f1,dM,cB,dK⟩);go_meet;exact⟨f1,dM,cB,Df.o1.trans dK⟩
    | false=>
     have c:¬(a<i/\i<mid):=λh=>absurd (qL.out.2 h) (by simp)
     have HX:=af c;clear c;go_wp2;go_meet;exact⟨_,Df.o0,Dt _ _ _ (ym.out HX.out),Df.o1⟩
   case rest=>
   obtain⟨f1,pn,BI,jZ⟩:=hcut;obtain⟨w4,ft⟩:∃w4:World,w4=wc:=⟨_,rfl⟩;rw[<-ft]at pn jZ ⊢;have uh:=aF pn BI jZ ft;clear pn BI jZ ft;have BX:Hid (∀c k,mid<=c->sg f1 c k=sg (ay f i m e) c k):=af λc k hc=>pM λt ht=>uh.o1.out _ (.inr (by omega))
   have oT:Hid (mid<e->e<b->dX (sg f1 mid (e-mid))/\dX (sg f1 e (b-e))):=af λx y=>by
    obtain⟨k1,k2,k3,k4,k5,k6,k7,k8,k9,wE,wD,_⟩:=HI.out.2.2.1;rw[BX.out mid _ (aw _),BX.out e _ (by omega)];refine⟨?_,?_⟩
    ·have:=Ay f i m e k2 k3;rw[show i+(e-m)=mid from by omega]at this;rw[show e-mid=m-i from by omega,this];exact uu H.o1 (by omega) (by omega)
    ·rw[yN _ _ _ _ _ _ k2 k3 (.inr (aw _))];exact uu H.o2 (by omega) (by omega)
   have kM:Hid (¬(mid<e/\e<b)->dX (sg f1 mid (b-mid))):=af λx=>by
    obtain⟨k1,k2,k3,k4,k5,k6,k7,k8,k9,wE,wD,_⟩:=HI.out.2.2.1;rw[BX.out mid _ (aw _)];by_cases hz:e=b
    ·have:=Ay f i m e k2 k3;rw[show i+(e-m)=mid from by omega]at this;rw[show b-mid=m-i from by omega,this];exact uu H.o1 (by omega) (by omega)
    ·have he:e=mid:=by omega
     rw[yP f i m e k2 k3 (by omega)];exact uu H.o2 (by omega) (by omega)
   go_upto_region 43 with fail;go_cut [213] from 206 to 214 (λs213 wz=>∃c:Bool,s213 = .bool c/\(c=true↔(mid<e/\e<b))/\w4=wz)
   case first=>
    by_cases c1:mid<e
    ·by_cases c2:e<b
     ·have q1:decide ((mid:Int)<(e:Int))=true:=by simp;omega
      have q2:decide ((e:Int)<(b:Int))=true:=by simp;omega
      go_wp2;go_meet;exact⟨_,rfl,by simp[c1,c2],rfl⟩
     ·have q1:decide ((mid:Int)<(e:Int))=true:=by simp;omega
      have q2:decide ((e:Int)<(b:Int))=false:=by simp;omega
      go_wp2;go_meet;exact⟨_,rfl,by simp[c1,c2],rfl⟩
    ·have q1:decide ((mid:Int)<(e:Int))=false:=by simp;omega
     go_wp2;go_meet;exact⟨_,rfl,by simp[c1],rfl⟩
   case rest=>
   obtain⟨cb,rfl,kx,rfl⟩:=hcut;have qK:=af kx;clear kx;go_upto_if 213 with fail;cases cb with
   | true=>
    have c:=qK.out.1 rfl;have hr:dA g T A0 L cap mid e b f1 w4:=by obtain⟨k1,k2,k3,k4,k5,k6,k7,k8,k9,wE,wD,_⟩:=HI.out.2.2.1;exact H.l4 mid e b _ w4 (by omega) uh.o0 c.1 c.2 (by omega) (cD.out.sd uh.o1) (oT.out c.1 c.2).1 (oT.out c.1 c.2).2
    unfold dA jL at hr;have HR:=af hr;clear hr c;go_wp2_with (go_at_call 202;refine HR.out.mono ?_;rintro e2 w2 ⟨rfl,f2,dM,cB,dK⟩);(try simp only[Exit.inBlock,Exit.then]);refine bodyPost_end (results_none rfl _ _ _) rfl ?_;obtain⟨k1,k2,k3,k4,k5,k6,k7,k8,k9,wE,wD,_⟩:=HI.out.2.2.1;have h0:=H0.out;exact⟨rfl,f2,dM,L9 f f1 f2 a m b mid i e k9 (by omega) (by omega) (by omega) k1 k2 k3 k4 H.o1 H.o2 HI.out.1 HI.out.2.1 uh.o1 cB,uh.o2.trans dK⟩
   | false=>
    have c:¬(mid<e/\e<b):=λh=>absurd (qK.out.2 h) (by simp)
    have HX:=af c;clear c;go_wp2;(try simp only[Exit.inBlock,Exit.then]);refine bodyPost_end (results_none rfl _ _ _) rfl ?_;obtain⟨k1,k2,k3,k4,k5,k6,k7,k8,k9,wE,wD,_⟩:=HI.out.2.2.1;have h0:=H0.out;exact⟨rfl,f1,uh.o0,L9 f f1 f1 a m b mid i e k9 (by omega) (by omega) (by omega) k1 k2 k3 k4 H.o1 H.o2 HI.out.1 HI.out.2.1 uh.o1 (Dt _ _ _ (kM.out HX.out)),uh.o2⟩
theorem Dv (g:Nat) (T:TypeId) (A0:Array Value) (L cap:Nat) (hL:L<=100000):∀(n a m b:Nat) (f:Nat->Mc) (w:World),b-a<=n->
  Dw w g T A0 L f->a<m->m<b->b<=L->Wb f->dX (sg f a (m-a))->dX (sg f m (b-m))->dA g T A0 L cap a m b f w:=by
 intro n;induction n with
 | zero=>intro a m b f w hn _ h1 h2;omega
 | succ n ih=>
  intro a m b f w hn hD h1 h2 h3 bA hA hB;by_cases c1:m=a+1
  ·exact Uw g T A0 L cap a m b f w hD c1 h2 h3 hL bA hB
  ·by_cases c2:b=m+1
   ·exact Ux g T A0 L cap a m b f w hD h1 c1 c2 h3 hL bA hA
   ·exact US g T A0 L cap a m b f w (λa' m' b' f' w' aY k1 k2 k3 k4 k5 k6 k7=>ih a' m' b' f' w' (by omega) k1 k2 k3 k4 k5 k6 k7) hD h1 c1 h2 c2 h3 hL bA hA hB
def PB (f:Nat->Mc) (bs a n:Nat):Prop:=∀c,bs∣c->c<a->dX (sg f c (min bs (n-c)))
theorem Mj {bs a c:Nat} (hb:0<bs) (h1:bs∣a) (h2:bs∣c) (h:c<a):c+bs<=a:=by
 obtain⟨x,rfl⟩:=h1;obtain⟨y,rfl⟩:=h2;have:y<x:=Nat.lt_of_mul_lt_mul_left h;calc bs*y+bs=bs*(y+1):=by rw[Nat.mul_succ]
  _<=bs*x:=LW _ this
theorem Ai {f f2:Nat->Mc} {bs a n:Nat} (hb:0<bs) (ha:bs∣a) (h:PB f bs a n) (hs:Sd f f2 a (min (a+bs) n)):PB f2 bs (a+bs) n:=by
 intro c hc aY;rcases Nat.lt_trichotomy c a with k|k|k
 ·have:=Mj hb ha hc k;rw[pM (f:=f2) (f':=f) (a':=c) λt ht=>hs.out _ (.inl (by omega))];exact h c hc k
 ·subst k;have:=hs.srt;rw[show min bs (n-c)=min (c+bs) n-c from by omega];exact this
 ·have:=Mj hb hc ha k;omega
theorem Uz {f f2:Nat->Mc} {bs a b n:Nat} (hs:Sd f f2 a b) (h:∀c,bs∣c->a<=c->dX (sg f c (min bs (n-c)))) (oR:a<=b):∀c,bs∣c->b<=c->dX (sg f2 c (min bs (n-c))):=by intro c hc hb;rw[pM (f:=f2) (f':=f) (a':=c) λt ht=>hs.out _ (.inr (by omega))];exact h c hc (by omega)
theorem Ub {f:Nat->Mc} {bs n:Nat} (hb:n<=bs) (h:PB f bs n n):dX (sg f 0 n):=by
 rcases Nat.eq_zero_or_pos n with k|k
 ·subst k;rw[Du];exact List.Pairwise.nil
 ·have:=h 0 (Nat.dvd_zero _) k;rwa [show min bs (n-0)=n from by omega]at this
theorem Hh {f:Nat->Mc} {bs a a' n:Nat} (h:PB f bs a n) (haa:a'<=a):PB f bs a' n:=λc hc aY=>h c hc (by omega)
theorem VT (g:Nat) (T:TypeId) (A0:Array Value) (L cap:Nat) (f:Nat->Mc) (w:World)
  (h:Dw w g T A0 L f) (hL:L<=100000) (bA:Wb f) :
  Calls Tryz.prog 182 #[.slice (some ⟨g,0,none⟩) L cap,.int .i64 (L:Nat),jL] w λe w'=>e = .returned (.tuple #[])/\∃f',Dw w' g T A0 L f'/\Sd f f' 0 L/\Fr [g] w w':=by
 have H:=ak h bA;clear h bA;unfold jL;go_enter Tryz.func182,Tryz.ntmps182;go_wp2;go_loopg [7,8] L (λk s7 s8 wr=>∃a:Nat,s7 = .int .i64 (a:Nat)/\s8 = .int .i64 ((a+20:Nat):Nat)/\a+k=L/\20∣a/\∃f1,Dw wr g T A0 L f1/\Wb f1/\eE (sg f1 0 L) (sg f 0 L)/\PB f1 20 a L/\(∀t,L<=t->f1 t=f t)/\Fr [g] w wr);case atStart=>exact⟨0,rfl,rfl,by omega,Nat.dvd_zero _,f,H.o0,H.l1,.refl _,λc _ hc=>absurd hc (by omega),λ_ _=>rfl,.refl _ w⟩
 case round=>
  obtain⟨a,rfl,rfl,hk,nP,f1,hD,bA,az,bT,aR,hf⟩:=hrel;obtain⟨b,hb⟩:=ah (a+20);rw[<-hb];by_cases oR:b<=L
  ·have hi:=MN g T A0 L cap a b f1 wr hD (by omega) oR hL bA;unfold jL at hi;have HI:=oG hi bA az bT aR hf hk nP hb;clear hi bA az bT aR hf hk nP hb hD;go_wp2_with (go_at_call 201;refine HI.out.1.mono ?_;rintro e w2 ⟨rfl,f2,dM,cB,dK⟩;have HW:=au dM cB dK;clear dM cB dK);go_roundg (L-b);case measure=>have:=HI.out.2.2.2.2.2.2;omega
   case rel=>
    obtain⟨_,bA,az,bT,aR,hf,hk,nP,hb⟩:=HI.out;obtain⟨dM,cB,dK⟩:=HW.out;refine⟨b,rfl,by go_num,by omega,?_,f2,dM,bA.sd cB,(cB.mJ (by omega) oR).trans az,?_,λt ht=>(cB.out t (.inr (by omega))).trans (aR t ht),hf.trans dK⟩
    ·rw[hb];exact E5 nP (E6 _)
    ·rw[hb];exact Ai (by omega) nP bT (by rw[tU (by omega),<-hb];exact cB)
  ·have hi:=MN g T A0 L cap a L f1 wr hD (by omega) (aw _) hL bA;unfold jL at hi;have HI:=oG hi bA az bT aR hf hk nP hb;clear hi bA az bT aR hf hk nP hb hD;go_wp2_with (go_at_call 201;refine HI.out.1.mono ?_;rintro e w2 ⟨rfl,f2,dM,cB,dK⟩;have HW:=au dM cB dK;clear dM cB dK);have mS:∃f3,Dw w2 g T A0 L f3/\Wb f3/\eE (sg f3 0 L) (sg f 0 L)/\PB f3 20 L L/\(∀t,L<=t->f3 t=f t)/\Fr [g] w w2:=by obtain⟨_,bA,az,bT,aR,hf,hk,nP,hb⟩:=HI.out;obtain⟨dM,cB,dK⟩:=HW.out;refine⟨f2,dM,bA.sd cB,(cB.mJ (by omega) (aw _)).trans az,Hh (Ai (a:=a) (by omega) nP bT (by rw[Nat.min_eq_right (by omega)];exact cB)) (by omega),λt ht=>(cB.out t (.inr (by omega))).trans (aR t ht),hf.trans dK⟩
   have HS:=af mS;clear mS HI HW oR;go_loopg [6,7,8,9] (L+40) (λk s6 s7 s8 s9 wr=>∃bs:Nat,s6 = .int .i64 (bs:Nat)/\20<=bs/\bs<=200040/\k=L+60-bs/\∃f1,Dw wr g T A0 L f1/\Wb f1/\eE (sg f1 0 L) (sg f 0 L)/\PB f1 bs L L/\(∀t,L<=t->f1 t=f t)/\Fr [g] w wr);case atStart=>obtain⟨f3,h3⟩:=HS.out;exact⟨20,rfl,aw _,by omega,by omega,f3,h3⟩
   case round=>
    obtain⟨bs,rfl,Yk,oD,hk,f1,hD,bA,az,bT,aR,hf⟩:=hrel;by_cases aY:bs<L
    ·have HI:=bJ hD bA az bT aR hf;clear hD bA az bT aR hf;have HK:=af hk;clear hk;obtain⟨b2,jY⟩:=ah (2*bs);have e1:2*(bs:Int)=(b2:Int):=by omega
     have e2:(bs:Int)*2=(b2:Int):=by omega
     have Yj:b2<=200000:=by omega
     have HB:=af jY;clear jY;obtain⟨wo,ou⟩:∃wo:World,wo=wr:=⟨_,rfl⟩;have GK:=af ou;rw[<-ou];clear ou;go_wp2;go_loopg [7,8] L (λk s7 s8 wr=>∃a:Nat,s7 = .int .i64 (a:Nat)/\s8 = .int .i64 ((a+b2:Nat):Nat)/\a+k=L/\b2∣a/\∃f1,Dw wr g T A0 L f1/\Wb f1/\eE (sg f1 0 L) (sg f 0 L)/\PB f1 b2 a L/\(∀c,bs∣c->a<=c->dX (sg f1 c (min bs (L-c))))/\(∀t,L<=t->f1 t=f t)/\Fr [g] w wr);case atStart=>
      obtain⟨hD,bA,az,bT,aR,hf⟩:=HI.out;rw[GK.out];refine⟨0,rfl,by go_num,by omega,Nat.dvd_zero _,f1,hD,bA,az,λc _ hc=>absurd hc (by omega),λc hc _=>?_,aR,hf⟩;by_cases hcL:c<L
      ·exact bT c hc hcL
      ·rw[show min bs (L-c)=0 from by omega,Du];exact List.Pairwise.nil
     case round=>
      obtain⟨a,rfl,rfl,hk,nh,f3,hD,bA,az,bT,aG,aR,hf⟩:=hrel;obtain⟨b,hb⟩:=ah (a+b2);obtain⟨m,hm⟩:=ah (a+bs);have e3:(a:Int)+(bs:Int)=(m:Int):=by omega
      have haL:a<=L:=by omega
      have jq:m<=400000:=by omega
      have kU:b<=400000:=by omega
      have lX:bs∣a:=Nat.dvd_trans ⟨2,by have:=HB.out;omega⟩ nh;rw[<-hb];by_cases oR:b<=L
      ·have hi:=Dv g T A0 L cap hL (b-a) a m b f3 wr (aw _) hD (by omega) (by have:=HB.out;omega) oR bA
        (by have:=aG a lX (aw _);rwa [show min bs (L-a)=m-a from by have:=HB.out;omega]at this)
        (by have:=aG m (by rw[hm];exact E5 lX (E6 _)) (by omega);rwa [show min bs (L-m)=b-m from by have:=HB.out;omega]at this)
       unfold dA jL at hi
       have HJ:=mH hi bA az bT aG aR hf hk nh hb hm
       clear hi bA az bT aG aR hf hk nh hb hm hD lX
       go_wp2_with (go_at_call 202;refine HJ.out.1.mono ?_;rintro e w2 ⟨rfl,f2,dM,cB,dK⟩;have HW:=au dM cB dK;clear dM cB dK)
       go_roundg (L-b)
       case measure=>have:=HJ.out.2.2.2.2.2.2.2;omega
       case rel=>
        obtain⟨_,bA,az,bT,aG,aR,hf,hk,nh,hb,hm⟩:=HJ.out
        obtain⟨dM,cB,dK⟩:=HW.out
        refine⟨b,rfl,by go_num,by omega,?_,f2,dM,bA.sd cB,(cB.mJ (by omega) oR).trans az,?_,Uz cB aG (by omega),λt ht=>(cB.out t (.inr (by omega))).trans (aR t ht),hf.trans dK⟩
        ·rw[hb];exact E5 nh (E6 _)
        ·rw[hb];exact Ai (by omega) nh bT (by rw[tU (by omega),<-hb];exact cB)
      ·by_cases qi:m<L
       ·have hi:=Dv g T A0 L cap hL (L-a) a m L f3 wr (aw _) hD (by omega) qi (aw _) bA
         (by have:=aG a lX (aw _);rwa [show min bs (L-a)=m-a from by omega]at this)
         (by have:=aG m (by rw[hm];exact E5 lX (E6 _)) (by omega);rwa [show min bs (L-m)=L-m from by have:=HB.out;omega]at this)
        unfold dA jL at hi
        have HJ:=mH hi bA az bT aG aR hf hk nh hb hm
        clear hi bA az bT aG aR hf hk nh hb hm hD lX
        go_wp2_with (go_at_call 202;refine HJ.out.1.mono ?_;rintro e w2 ⟨rfl,f2,dM,cB,dK⟩;have HW:=au dM cB dK;clear dM cB dK)
        go_roundg (L+60-b2)
        case measure=>have:=HK.out;have:=HB.out;omega
        case rel=>
         obtain⟨_,bA,az,bT,aG,aR,hf,hk,nh,hb,hm⟩:=HJ.out
         obtain⟨dM,cB,dK⟩:=HW.out
         exact⟨b2,rfl,by have:=HB.out;omega,by omega,rfl,f2,dM,bA.sd cB,(cB.mJ (by omega) (aw _)).trans az,Hh (Ai (a:=a) (by have:=HB.out;omega) nh bT (by rw[Nat.min_eq_right (by omega)];exact cB)) (by omega),λt ht=>(cB.out t (.inr ht)).trans (aR t ht),hf.trans dK⟩
       ·have HJ:=rV bA az bT aG aR hf hk nh hb hm hD lX;clear bA az bT aG aR hf hk nh hb hm hD lX;go_wp2;go_roundg (L+60-b2);case measure=>have:=HK.out;have:=HB.out;omega
        case rel=>obtain⟨bA,az,bT,aG,aR,hf,hk,nh,hb,hm,hD,lX⟩:=HJ.out;refine⟨b2,rfl,by have:=HB.out;omega,by omega,rfl,f3,hD,bA,az,Hh (Ai (a:=a) (by have:=HB.out;omega) nh bT (Dt _ _ _ ?_)) (by omega),aR,hf⟩;have:=aG a lX (aw _);rwa [show min bs (L-a)=min (a+b2) L-a from by omega]at this
    ·have HI:=bJ hD bA az bT aR hf;clear hD bA az bT aR hf hk;go_wp2;(try simp only[Exit.inBlock,Exit.then]);refine bodyPost_end (results_none rfl _ _ _) rfl ?_;obtain⟨hD,bA,az,bT,aR,hf⟩:=HI.out;exact⟨rfl,f1,hD,⟨λt ht=>aR t (by omega),Ub (by omega) bT,az⟩,hf⟩
theorem zab (g:Nat) (T:TypeId) (A0:Array Value) (L cap:Nat) (f:Nat->Mc) (w:World)
  (h:Dw w g T A0 L f) (hL:L<=100000) (bA:Wb f) :
  Calls Tryz.prog 161 #[.slice (some ⟨g,0,none⟩) L cap,jL] w λe w'=>e = .returned (.tuple #[])/\∃f',Dw w' g T A0 L f'/\Sd f f' 0 L/\Fr [g] w w':=by
 have H:=af (VT g T A0 L cap f w h hL bA);unfold jL at H ⊢;clear h bA;go_enter Tryz.func161,Tryz.ntmps161;go_wp2_with (go_at_call 182;refine H.out.mono ?_;rintro e w2 ⟨rfl,dM⟩);(try simp only[Exit.inBlock,Exit.then]);refine bodyPost_end (results_none rfl _ _ _) rfl ?_;exact⟨rfl,dM⟩
theorem qqy {w:World} {e:TypeId} {size cap:Nat} {A:Array Value} (hs:A.size=cap*size) (hc:cap<=maxLen):(w.alloc (.cells A e (0,0))).ownsRow 0 e size (.slice (some ⟨w.heap.size,0,none⟩) 0 cap) 0 []:=
 ⟨by simp,.inr ⟨w.heap.size,cap,A,rfl,dZ _,bx w _,dZ _,hc,hs,by simp⟩⟩
theorem Mq:ax Tryz.prog 256 258 (.agg #[.int .i64 0,.slice none 0 0]) 2 32:=ax.of Tryz.underlying256 (by kernel_rfl) rfl (by decide)
theorem qxz:(Tryz.prog.info? 258).map (λi=>(i.zero,i.size,i.bytes))=some (some (.agg #[.int .i64 0,.slice none 0 0]),2,32):=by kernel_rfl
theorem qye (n:Nat) (w:World) (hn:n<=1000000) :
  Calls Tryz.prog 183 #[.slice none 0 0,.int .i64 (n:Nat)] w λe w'=>∃ao cap,e = .returned (.slice ao 0 cap)/\Made w w' 258 2 ao 0 cap []:=by
 by_cases h0:n=0
 ·subst h0;go_enter Tryz.func183,Tryz.ntmps183;go_wp2;go_ret;exact⟨none,0,rfl,.none w _ _⟩
 ·obtain⟨i,hi,hz,hs,hb⟩:=info_parts qxz;have Jf:0+n=n:=fM n;have NK:∀ty,(Builtin.append_ #[256,3] ty #[.slice none 0 0,.int .i64 n]).run Tryz.prog w =
    .ok (.slice (some ⟨w.heap.size,0,none⟩) n (grownCap w n 0 258)) (w.drew.alloc (.cells (#[]++Builtin.zeroCells (.agg #[.int .i64 0,.slice none 0 0]:Value).cells n++Builtin.zeroCells (.agg #[.int .i64 0,.slice none 0 0]:Value).cells (grownCap w n 0 258-n)) 258)):=λty=>by
   have h:=Lib.run_append_grow_zeros (P:=Tryz.prog) w 256 3 ty 258 i (.agg #[.int .i64 0,.slice none 0 0]) .i64 .i64 Tryz.underlying256 Tryz.underlying3 hi hz none 0 0 [] (by exact run_firstCells_none (w:=w.drew) i.size 0 0 0) n (by omega) (by rw[hs];decide) (by omega) (by omega)
    (by rw[hb];omega) (by rw[Jf,hb];exact growslice_fits (by omega) (by omega))
   rw[Jf]at h
   exact h
  have YI:n<=grownCap w n 0 258:=grownCap_ge w _ _ _;have tH:=grownCap_le_maxLen w n 0 258 (by unfold maxLen;omega);obtain⟨G,hG⟩:=ah (grownCap w n 0 258);rw[<-hG]at NK YI tH;have hGM:G<=9223372036854775807:=by unfold maxLen at tH;omega
  have HM:=af tH;clear hG Jf hi hz hs hb tH;go_enter Tryz.func183,Tryz.ntmps183;go_wp2_with (at_builtin;refine Lib.wpList_append_run _ rfl _ _ _ _ rfl _ _ rfl rfl _ _ (NK _) ?_);all_goals (go_ret;refine⟨_,_,rfl,?_⟩)
  all_goals exact⟨qqy (w:=w.drew) (by simp only[Array.size_append,size_zeroCells,show (.agg #[.int .i64 0,.slice none 0 0]:Value).cells.size=2 from rfl];simp;omega) HM.out,((Fr.refl [] w).drew).alloc _,by simp[ae],dZ _,HM.out,λh=>by cases h⟩
theorem qsw (q:Nat) (a1 a2:Option Addr) (n1 n2 c1 c2:Nat) (xs ys:List Value) (w:World)
  (hq:w.heap[q]?=some (.cells #[.slice a1 n1 c1,.slice a2 n2 c2] 256 (0,0)))
  (h1:Cs w a1 xs) (h2:Cs w a2 ys) (l1:xs.length=n1*2) (l2:ys.length=n2*2) (k1:n1<=c1) (k2:n2<=c2) (z1:a1=none->c1=0) (z2:a2=none->c2=0)
  (u1:∀u∈xs,u.oneCell'=true) (u2:∀u∈ys,u.oneCell'=true) (b1:n1<=400000) (b2:n2<=400000) :
  Calls Tryz.prog 162 #[.slice (some ⟨q,0,none⟩) 2 2] w λe w'=>∃ao cap,e = .returned (.slice ao (n1+n2) cap)/\Made w w' 258 2 ao (n1+n2) cap (xs++ys):=by
 have d0:=cell_of hq 0;have d1:=cell_of hq 1;simp only[bw,aV,bN]at d0 d1;have H:=mH hq h1 h2 l1 l2 k1 k2 z1 z2 u1 u2;clear hq h1 h2 l1 l2 k1 k2 z1 z2 u1 u2;obtain⟨s,hs⟩:=ah (n1+n2);rw[<-hs];have e1:(n1:Int)+(n2:Int)=(s:Int):=by omega
 have HS:=af hs;have kR:s<=1000000:=by omega
 clear hs;go_enter Tryz.func162,Tryz.ntmps162;go_wp2;go_loopg [3,5,11] 2 (λk s3 s5 s11 wr=>∃i:Nat,s11 = .int .i64 (i:Nat)/\i+k=2/\(s3 = .int .i64 ((if i=0 then 0 else if i=1 then n1 else s:Nat):Nat))/\w=wr);case atStart=>exact⟨0,rfl,rfl,rfl,rfl⟩
 case round=>
  obtain⟨i,rfl,bU,rfl,rfl⟩:=hrel;match i,bU with
  | 0,bU=>
   simp only[if_true];go_wp2;go_roundg 1;case measure=>omega
   case rel=>exact⟨1,rfl,rfl,by simp,rfl⟩
  | 1,bU=>
   simp only[Nat.one_ne_zero,if_false,if_true];go_wp2;go_roundg 0;case measure=>omega
   case rel=>exact⟨2,rfl,rfl,by simp,rfl⟩
  | 2,bU=>
   simp only[show ¬(2=0) from by decide,show ¬(2=1) from by decide,if_false];go_wp2_with (go_at_call 183;refine (qye s w kR).mono ?_;rintro e w2 ⟨ao,cap,rfl,hm⟩;have HM:=af hm;clear hm);go_loopg [6,8,27] 2 (λk s6 s8 s27 wr=>∃(i:Nat) (ao:Option Addr) (cap n:Nat),s27 = .int .i64 (i:Nat)/\i+k=2/\s6 = .slice ao n cap/\n=(if i=0 then 0 else if i=1 then n1 else n1+n2)/\Made w wr 258 2 ao n cap (if i=0 then [] else if i=1 then xs else xs++ys));case atStart=>exact⟨0,ao,cap,0,rfl,rfl,rfl,rfl,HM.out⟩
   case round=>
    obtain⟨i,ao,cap,n,rfl,bU,rfl,hn,hm⟩:=hrel;obtain⟨hq,h1,h2,l1,l2,k1,k2,z1,z2,u1,u2⟩:=H.out;have d2:=hm.fr.cell d0 (by simp);have d3:=hm.fr.cell d1 (by simp);have yp:=h1.fr hm.fr (by simp);have yo:=h2.fr hm.fr (by simp);match i,bU with
    | 0,bU=>
     simp only[if_true]at hn hm;subst hn;have HK:=bJ hm yp l1 k1 z1 u1;clear hm yp yo hq h1 h2 l1 l2 k1 k2 z1 z2 u1 u2 d3;go_wp2_with (refine iq Mq rfl _ _ rfl (.slice ao 0 cap) 0 [] (ae ao) rfl (dw ao 0 cap) HK.out.1.own a1 n1 c1 xs rfl HK.out.2.2.2.1 HK.out.2.2.2.2.1 HK.out.2.1 HK.out.2.2.1 HK.out.2.2.2.2.2 (by omega) (by unfold maxLen;omega) ?_;intro cX dh w3 bI;have HA:=af bI;clear bI);go_roundg 1;case measure=>omega
     case rel=>exact⟨1,cX,dh,n1,rfl,rfl,by simp,by simp,by simpa using HK.out.1.app HA.out⟩
    | 1,bU=>
     simp only[Nat.one_ne_zero,if_false,if_true]at hn hm;subst hn;have HK:=bJ hm yo l2 k2 z2 u2;clear hm yp yo hq h1 h2 l1 l2 k1 k2 z1 z2 u1 u2 d2;go_wp2_with (refine iq Mq rfl _ _ rfl (.slice ao n cap) n xs (ae ao) rfl (dw ao n cap) HK.out.1.own a2 n2 c2 ys rfl HK.out.2.2.2.1 HK.out.2.2.2.2.1 HK.out.2.1 HK.out.2.2.1 HK.out.2.2.2.2.2 (by omega) (by unfold maxLen;omega) ?_;intro cX dh w3 bI;have HA:=af bI;clear bI);go_roundg 0;case measure=>omega
     case rel=>exact⟨2,cX,dh,n+n2,rfl,rfl,rfl,by simp,by simpa using HK.out.1.app HA.out⟩
    | 2,bU=>
     simp only[show ¬(2=0) from by decide,show ¬(2=1) from by decide,if_false]at hn hm;rw[<-HS.out]at hn;subst hn;have HK:=af hm;clear hm yp yo hq h1 h2 l1 l2 k1 k2 z1 z2 u1 u2 d2 d3;go_wp2;go_ret;exact⟨ao,cap,rfl,by rw[HS.out];have:=HK.out;rwa [HS.out]at this⟩
    | k+3,bU=>omega
  | k+3,bU=>omega
theorem zbk (n:Nat) (w:World) (hn:n<=1000000) :
  Calls Tryz.prog 203 #[.slice none 0 0,.int .i64 (n:Nat)] w λe w'=>∃ao cap,e = .returned (.slice ao 0 cap)/\Made w w' 3 1 ao 0 cap []:=by
 by_cases h0:n=0
 ·subst h0;go_enter Tryz.func203,Tryz.ntmps203;go_wp2;go_ret;exact⟨none,0,rfl,.none w _ _⟩
 ·obtain⟨i,hi,hz,hs,hb⟩:=info_parts Mw;have Jf:0+n=n:=fM n;have NK:∀ty,(Builtin.append_ #[28,3] ty #[.slice none 0 0,.int .i64 n]).run Tryz.prog w =
    .ok (.slice (some ⟨w.heap.size,0,none⟩) n (grownCap w n 0 3)) (w.drew.alloc (.cells (#[]++Builtin.zeroCells (.int .i64 0:Value).cells n++Builtin.zeroCells (.int .i64 0:Value).cells (grownCap w n 0 3-n)) 3)):=λty=>by
   have h:=Lib.run_append_grow_zeros (P:=Tryz.prog) w 28 3 ty 3 i (.int .i64 0) .i64 .i64 Tryz.underlying28 Tryz.underlying3 hi hz none 0 0 [] (by exact run_firstCells_none (w:=w.drew) i.size 0 0 0) n (by omega) (by rw[hs];decide) (by omega) (by omega)
    (by rw[hb];omega) (by rw[Jf,hb];exact growslice_fits (by omega) (by omega))
   rw[Jf]at h
   exact h
  have YI:n<=grownCap w n 0 3:=grownCap_ge w _ _ _;have tH:=grownCap_le_maxLen w n 0 3 (by unfold maxLen;omega);obtain⟨G,hG⟩:=ah (grownCap w n 0 3);rw[<-hG]at NK YI tH;have hGM:G<=9223372036854775807:=by unfold maxLen at tH;omega
  have HM:=af tH;clear hG Jf hi hz hs hb tH;go_enter Tryz.func203,Tryz.ntmps203;go_wp2_with (at_builtin;refine Lib.wpList_append_run _ rfl _ _ _ _ rfl _ _ rfl rfl _ _ (NK _) ?_);all_goals (go_ret;refine⟨_,_,rfl,?_⟩)
  all_goals exact⟨qqy (w:=w.drew) (by simp only[Array.size_append,size_zeroCells,show (.int .i64 0:Value).cells.size=1 from rfl];simp;omega) HM.out,((Fr.refl [] w).drew).alloc _,by simp[ae],dZ _,HM.out,λh=>by cases h⟩
theorem qvi (q:Nat) (a1 a2:Option Addr) (n1 n2 c1 c2:Nat) (xs ys:List Value) (w:World)
  (hq:w.heap[q]?=some (.cells #[.slice a1 n1 c1,.slice a2 n2 c2] 28 (0,0)))
  (h1:Cs w a1 xs) (h2:Cs w a2 ys) (l1:xs.length=n1*1) (l2:ys.length=n2*1) (k1:n1<=c1) (k2:n2<=c2) (z1:a1=none->c1=0) (z2:a2=none->c2=0)
  (u1:∀u∈xs,u.oneCell'=true) (u2:∀u∈ys,u.oneCell'=true) (b1:n1<=400000) (b2:n2<=400000) :
  Calls Tryz.prog 184 #[.slice (some ⟨q,0,none⟩) 2 2] w λe w'=>∃ao cap,e = .returned (.slice ao (n1+n2) cap)/\Made w w' 3 1 ao (n1+n2) cap (xs++ys):=by
 have d0:=cell_of hq 0;have d1:=cell_of hq 1;simp only[bw,aV,bN]at d0 d1;have H:=mH hq h1 h2 l1 l2 k1 k2 z1 z2 u1 u2;clear hq h1 h2 l1 l2 k1 k2 z1 z2 u1 u2;obtain⟨s,hs⟩:=ah (n1+n2);rw[<-hs];have e1:(n1:Int)+(n2:Int)=(s:Int):=by omega
 have HS:=af hs;have kR:s<=1000000:=by omega
 clear hs;go_enter Tryz.func184,Tryz.ntmps184;go_wp2;go_loopg [3,5,11] 2 (λk s3 s5 s11 wr=>∃i:Nat,s11 = .int .i64 (i:Nat)/\i+k=2/\(s3 = .int .i64 ((if i=0 then 0 else if i=1 then n1 else s:Nat):Nat))/\w=wr);case atStart=>exact⟨0,rfl,rfl,rfl,rfl⟩
 case round=>
  obtain⟨i,rfl,bU,rfl,rfl⟩:=hrel;match i,bU with
  | 0,bU=>
   simp only[if_true];go_wp2;go_roundg 1;case measure=>omega
   case rel=>exact⟨1,rfl,rfl,by simp,rfl⟩
  | 1,bU=>
   simp only[Nat.one_ne_zero,if_false,if_true];go_wp2;go_roundg 0;case measure=>omega
   case rel=>exact⟨2,rfl,rfl,by simp,rfl⟩
  | 2,bU=>
   simp only[show ¬(2=0) from by decide,show ¬(2=1) from by decide,if_false];go_wp2_with (go_at_call 203;refine (zbk s w kR).mono ?_;rintro e w2 ⟨ao,cap,rfl,hm⟩;have HM:=af hm;clear hm);go_loopg [6,8,27] 2 (λk s6 s8 s27 wr=>∃(i:Nat) (ao:Option Addr) (cap n:Nat),s27 = .int .i64 (i:Nat)/\i+k=2/\s6 = .slice ao n cap/\n=(if i=0 then 0 else if i=1 then n1 else n1+n2)/\Made w wr 3 1 ao n cap (if i=0 then [] else if i=1 then xs else xs++ys));case atStart=>exact⟨0,ao,cap,0,rfl,rfl,rfl,rfl,HM.out⟩
   case round=>
    obtain⟨i,ao,cap,n,rfl,bU,rfl,hn,hm⟩:=hrel;obtain⟨hq,h1,h2,l1,l2,k1,k2,z1,z2,u1,u2⟩:=H.out;have d2:=hm.fr.cell d0 (by simp);have d3:=hm.fr.cell d1 (by simp);have yp:=h1.fr hm.fr (by simp);have yo:=h2.fr hm.fr (by simp);match i,bU with
    | 0,bU=>
     simp only[if_true]at hn hm;subst hn;have HK:=bJ hm yp l1 k1 z1 u1;clear hm yp yo hq h1 h2 l1 l2 k1 k2 z1 z2 u1 u2 d3;go_wp2_with (refine iq oX rfl _ _ rfl (.slice ao 0 cap) 0 [] (ae ao) rfl (dw ao 0 cap) HK.out.1.own a1 n1 c1 xs rfl HK.out.2.2.2.1 HK.out.2.2.2.2.1 HK.out.2.1 HK.out.2.2.1 HK.out.2.2.2.2.2 (by omega) (by unfold maxLen;omega) ?_;intro cX dh w3 bI;have HA:=af bI;clear bI);go_roundg 1;case measure=>omega
     case rel=>exact⟨1,cX,dh,n1,rfl,rfl,by simp,by simp,by simpa using HK.out.1.app HA.out⟩
    | 1,bU=>
     simp only[Nat.one_ne_zero,if_false,if_true]at hn hm;subst hn;have HK:=bJ hm yo l2 k2 z2 u2;clear hm yp yo hq h1 h2 l1 l2 k1 k2 z1 z2 u1 u2 d2;go_wp2_with (refine iq oX rfl _ _ rfl (.slice ao n cap) n xs (ae ao) rfl (dw ao n cap) HK.out.1.own a2 n2 c2 ys rfl HK.out.2.2.2.1 HK.out.2.2.2.2.1 HK.out.2.1 HK.out.2.2.1 HK.out.2.2.2.2.2 (by omega) (by unfold maxLen;omega) ?_;intro cX dh w3 bI;have HA:=af bI;clear bI);go_roundg 0;case measure=>omega
     case rel=>exact⟨2,cX,dh,n+n2,rfl,rfl,rfl,by simp,by simpa using HK.out.1.app HA.out⟩
    | 2,bU=>
     simp only[show ¬(2=0) from by decide,show ¬(2=1) from by decide,if_false]at hn hm;rw[<-HS.out]at hn;subst hn;have HK:=af hm;clear hm yp yo hq h1 h2 l1 l2 k1 k2 z1 z2 u1 u2 d2 d3;go_wp2;go_ret;exact⟨ao,cap,rfl,by rw[HS.out];have:=HK.out;rwa [HS.out]at this⟩
    | k+3,bU=>omega
  | k+3,bU=>omega
end huf

end Go.Proofs.YtkmpfgpfbmeihaaGreatDoor