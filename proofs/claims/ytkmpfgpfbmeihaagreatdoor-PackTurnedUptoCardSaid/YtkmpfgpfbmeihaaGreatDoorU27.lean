/-
  Texts of this proof, one behind the other: OSymA, OSymB, OSortN, TurnLaw, Awake11, Prd.
-/
import Derived.Test.YtkmpfgpfbmeihaaGreatDoorU26
set_option maxHeartbeats 16000000
set_option maxRecDepth 100000
set_option linter.unusedVariables false
set_option linter.unusedSimpArgs false
namespace Go.Proofs.YtkmpfgpfbmeihaaGreatDoor
namespace os
open Go Go.RowKit lib bm pk
def dA (g:Nat) (T:TypeId) (A0:Array Value) (L cap a m b:Nat) (f:Nat->Mo) (w:World) (R:Nat):Prop:=
 eP w R->g≠R->Calls Tryz.prog 108 #[.slice (some ⟨g,0,none⟩) L cap,.int .i64 (a:Nat),.int .i64 (m:Nat),.int .i64 (b:Nat),kN R] w λe w'=>e = .returned (.tuple #[])/\∃f',Ow w' g T A0 L f'/\Sd f f' a b/\Fr [g] w w'
theorem Uw (g:Nat) (T:TypeId) (A0:Array Value) (L cap a m b:Nat) (f:Nat->Mo) (w:World) (R:Nat)
  (h:Ow w g T A0 L f) (oQ:m=a+1) (jq:m<b) (xe:b<=L) (hL:L<=100000) (bA:Wk f) (hB:huf.dX (sg f m (b-m))):dA g T A0 L cap a m b f w R:=by
 intro hR rM;have qJ:=ak hR rM;clear hR rM;have H:=aF h oQ jq hB;have e0:(m:Int)-(a:Int)=1:=by omega
 have oR:a<b:=by omega
 clear h hB oQ;unfold kN;go_enter Tryz.func108,Tryz.ntmps108;go_upto_block 0 with fail;go_wp2;go_loopg [10,11,12] (b-m) (λk s10 s11 s12 wr=>∃i j:Nat,s10 = .int .i64 (i:Nat)/\s11 = .int .i64 (j:Nat)/\j=i+k/\m<=i/\j<=b/\(m<i->(f (i-1)).worth<(f a).worth)/\(j<b->(f a).worth<=(f j).worth)/\Ow wr g T A0 L f/\Fr [g] w wr);case atStart=>exact⟨m,b,rfl,rfl,by omega,aw _,aw _,λh=>absurd h (by omega),λh=>absurd h (by omega),H.o0,.refl _ w⟩
 case round=>
  obtain⟨i,j,rfl,rfl,hk,h1,h2,h3,h4,hD,hf⟩:=hrel;by_cases jW:i<j
  ·obtain⟨s,hs⟩:=ah (i+j);have e1:(i:Int)+(j:Int)=(s:Int):=by omega
   obtain⟨hh,mU⟩:=ah (s/2);have e2:(s:Int)/2=(hh:Int):=by omega
   have OB:hh<L:=by omega
   have kR:s<=200000:=by omega
   have NM:Hid (eP wr.drew R):=af ((hf.drew).ae qJ.o0 (by simp;exact jg qJ.l1));have HI:=bJ hk h3 h4 hf hs mU;clear hk h3 h4 hf hs mU;have g2:decide ((L:Int)<=(hh:Int))=false:=by simp;omega
   have g4:decide ((L:Int)<=(a:Int))=false:=by simp;omega
   have j3:=λx=>(hD.drew.fr (dk [] wr.drew x)).cells (i:=hh) (by omega)
   have j2:=λx=>(hD.drew.fr (dk [] wr.drew x)).cells (i:=a) (by omega)
   have bb0:=bA (hh);have bb1:=bA (a);obtain⟨p,hp⟩:=ah ((f) (hh));obtain⟨r,hr⟩:=ah ((f) (a));rw[<-hp]at bb0 j3;rw[<-hr]at bb1 j2;have vw:=λx=>(j3 x).1
   have vv:=λx=>(j3 x).2.1
   have GF:=λx=>(j3 x).2.2.1
   have GD:=λx=>(j3 x).2.2.2.1
   have GC:=λx=>(j3 x).2.2.2.2
   have d10:=λx=>(j2 x).1
   have d11:=λx=>(j2 x).2.1
   have d12:=λx=>(j2 x).2.2.1
   have d13:=λx=>(j2 x).2.2.2.1
   have d14:=λx=>(j2 x).2.2.2.2
   have HP:=au hp hr hD;clear hp hr hD j3 j2;have jF:=Rc R p.m r.m wr.drew NM.out bb0.2 bb1.2;simp only[dG]at jF;rw[<-bb0.1,<-bb1.1]at jF;have Cj:=af jF;clear jF bb0 bb1;go_upto_region 5 with fail;refine jh 11 [(false,0),(false,1),(false,2),(false,3),(false,4),(false,5),(false,6),(false,7),(false,8),(true,9),(false,10)] [] (by kernel_rfl) (by kernel_rfl) (λ_ _ d _ _ h=>by cases d<;>exact h) ?_;simp only[iw];refine cS 9 rfl ?_;simp only[aU];repeat (go_big_quiet_step (fail))
   refine wpQuiet_nil ?_;refine ep rfl ?_;intro K hK;go_wp2_with (go_at_call 39;refine Cj.out.mono ?_;rintro e w1 ⟨rv,rfl,wJ,vM,tk,fO⟩);refine hK.out _ _ fO ?_;clear hK K vw vv GF GD GC d10 d11 d12 d13 d14 Cj;have HC:Hid (Ow w1 g T A0 L (f)/\Fr [] wr w1):=af ⟨HP.out.2.2.drew.fr fO,(Fr.av [] wr).trans fO⟩;clear fO;clear g2 g4;by_cases hpr:p.worth<r.worth
   ·have g5:decide (rv<0)=true:=by simp;exact wJ.2 hpr
    refine cS 1 rfl ?_;simp only[aU];repeat (go_big_quiet_step (fail))
    refine wpQuiet_nil ?_;refine fE ?_;go_wp2;go_roundg (j-(hh+1));case measure=>have:=HI.out.1;have:=HI.out.2.2.2.2;omega
    case rel=>obtain⟨hk,h3,h4,hf,hs,mU⟩:=HI.out;obtain⟨hp,hr,hD⟩:=HP.out;refine⟨hh+1,j,by go_num,rfl,by omega,by omega,h2,λ_=>by rw[CI,<-hp,<-hr];exact hpr,h4,HC.o0,hf.trans (HC.l1.mono (by simp))⟩
   ·have g5:decide (rv<0)=false:=by simp;have:=mt wJ.1 hpr;omega
    refine cS 1 rfl ?_;simp only[aU];repeat (go_big_quiet_step (fail))
    refine wpQuiet_nil ?_;refine fE ?_;go_wp2;go_roundg (hh-i);case measure=>have:=HI.out.1;have:=HI.out.2.2.2.2;omega
    case rel=>obtain⟨hk,h3,h4,hf,hs,mU⟩:=HI.out;obtain⟨hp,hr,hD⟩:=HP.out;refine⟨i,hh,rfl,rfl,by omega,h1,by omega,h3,λ_=>by rw[<-hp,<-hr];omega,HC.o0,hf.trans (HC.l1.mono (by simp))⟩
  ·obtain rfl:i=j:=by omega
   have HI:=aF h3 h4 hD hf;clear h3 h4 hD hf hk;obtain⟨q,hq⟩:=ah (i-1);have e1:(i:Int)-1=(q:Int):=by omega
   have oQ:m=a+1:=H.o1;have NR:a<=q:=by omega
   have vN:i=q+1:=by omega
   clear oQ;have HQ:=ak hq vN;clear hq vN;go_wp2;go_loopg [13] (q-a) (λk s13 wr=>∃t:Nat,s13 = .int .i64 (t:Nat)/\t+k=q/\a<=t/\Ow wr g T A0 L (ay f a (a+1) (t+1))/\Fr [g] w wr);case atStart=>exact⟨a,rfl,by omega,aw _,by rw[yP f a (a+1) (a+1) (by omega) (aw _) (.inr rfl)];exact HI.out.2.2.1,HI.out.2.2.2⟩
   case round=>
    obtain⟨t,rfl,bF,eD,hD,hf⟩:=hrel;by_cases ht:t<q
    ·obtain⟨k2,rfl⟩:∃k2,gk=k2+1:=⟨gk-1,by omega⟩;obtain⟨wo,rfl⟩:∃wo:World,wo=wr:=⟨_,rfl⟩;obtain⟨y,hy⟩:=ah (t+1);have e2:(t:Int)+1=(y:Int):=by omega
     have hqL:q<L:=by have:=HQ.out.2;omega
     have kE:t<L:=by omega
     have qZ:y<L:=by omega
     have rG:t≠y:=by omega
     have g2:decide ((L:Int)<=(t:Int))=false:=by simp;omega
     have g4:decide ((L:Int)<=(y:Int))=false:=by simp;omega
     have HJ:=au hf bF hy;clear hf bF hy;obtain⟨A,hA,cG,gP,cM,eH⟩:=hD;obtain⟨cx,iy⟩:=ah ((ay f a (a+1) (t+1)) t);obtain⟨cy,iL⟩:=ah ((ay f a (a+1) (t+1)) y);have X:=eH t kE;have Y:=eH y qZ;rw[<-iy]at X;rw[<-iL]at Y;have d0:wo.cell? ⟨g,t*5,none⟩=some (.int .i64 cx.m.1.kind):=(cell_of hA (t*5)).trans (X 0 (by decide));have d1:wo.cell? ⟨g,t*5+1,none⟩=some (.slice cx.m.2.1 cx.m.1.body.length cx.m.2.2):=(cell_of hA (t*5+1)).trans (X 1 (by decide));have d2:wo.cell? ⟨g,t*5+2,none⟩=some (.string (str cx.m.1.id)):=(cell_of hA (t*5+2)).trans (X 2 (by decide));have d3:wo.cell? ⟨g,t*5+3,none⟩=some (.int .i64 cx.m.1.at_):=(cell_of hA (t*5+3)).trans (X 3 (by decide));have d4:wo.cell? ⟨g,t*5+4,none⟩=some (.int .u32 (cx.m.1.crc:Nat)):=(cell_of hA (t*5+4)).trans (X 4 (by decide));have d5:wo.cell? ⟨g,y*5,none⟩=some (.int .i64 cy.m.1.kind):=(cell_of hA (y*5)).trans (Y 0 (by decide));have d6:wo.cell? ⟨g,y*5+1,none⟩=some (.slice cy.m.2.1 cy.m.1.body.length cy.m.2.2):=(cell_of hA (y*5+1)).trans (Y 1 (by decide));have d7:wo.cell? ⟨g,y*5+2,none⟩=some (.string (str cy.m.1.id)):=(cell_of hA (y*5+2)).trans (Y 2 (by decide));have d8:wo.cell? ⟨g,y*5+3,none⟩=some (.int .i64 cy.m.1.at_):=(cell_of hA (y*5+3)).trans (Y 3 (by decide));have d9:wo.cell? ⟨g,y*5+4,none⟩=some (.int .u32 (cy.m.1.crc:Nat)):=(cell_of hA (y*5+4)).trans (Y 4 (by decide));have dQ:=cz hA cG gP cM eH iy iL;clear hA cG gP cM eH iy iL X Y;go_upto_region 11 with fail;refine DC [(0,0),(0,1),(0,2),(0,3),(0,4),(0,5),(0,6),(0,7),(0,8),(1,9),(0,10),(0,11),(0,12),(1,13),(0,14),(2,15),(0,16),(2,17)] [g] [15,17] (by kernel_rfl) (by kernel_rfl) (λ_ _ d _ _ h=>by cases d<;>exact h) ?_;simp only[gW,oJ,yT,yS];refine ko 9 rfl ?_;simp only[aU];repeat (go_big_quiet_step (fail))
     refine wpQuiet_nil ?_;refine tT 1 rfl ?_;simp only[aU];repeat (go_big_quiet_step (fail))
     refine wpQuiet_nil ?_;refine ko 3 rfl ?_;simp only[aU];repeat (go_big_quiet_step (fail))
     refine wpQuiet_nil ?_;refine tT 1 rfl ?_;simp only[aU];repeat (go_big_quiet_step (fail))
     refine wpQuiet_nil ?_;refine ko 1 rfl ?_;simp only[aU];repeat (go_big_quiet_step (fail))
     refine wpQuiet_nil ?_;refine tS rfl ?_;intro K hK;have z0:=aO dQ.out.1 (t*5);have z1:=aO dQ.out.1 (t*5+1);have z2:=aO dQ.out.1 (t*5+2);have z3:=aO dQ.out.1 (t*5+3);have z4:=aO dQ.out.1 (t*5+4);go_wp2;refine hK.out _ _ (Fr.aS (((((((Fr.refl [g] wo).setCell (by simp) _).setCell (by simp) _).setCell (by simp) _).setCell (by simp) _).setCell (by simp) _).drew)) ?_;clear hK K z0 z1 z2 z3 z4;obtain⟨dW,bQ⟩:∃dW,dW=(((((wo.setCell ⟨g,t*5,none⟩ (.int .i64 cy.m.1.kind)).setCell ⟨g,t*5+1,none⟩ (.slice cy.m.2.1 cy.m.1.body.length cy.m.2.2)).setCell ⟨g,t*5+2,none⟩ (.string (str cy.m.1.id))).setCell ⟨g,t*5+3,none⟩ (.int .i64 cy.m.1.at_)).setCell ⟨g,t*5+4,none⟩ (.int .u32 (cy.m.1.crc:Nat))):=⟨_,rfl⟩;rw[<-bQ];have bH:dW.heap[g]?=some (.cells (gj A t cy.m) T (0,0)):=by rw[bQ];exact aX (aX (aX (aX (aX dQ.out.1 _) _) _) _) _
     obtain⟨A1,hB⟩:=ah (gj A t cy.m);rw[<-hB]at bH;have z0:=aO bH (y*5);have z1:=aO bH (y*5+1);have z2:=aO bH (y*5+2);have z3:=aO bH (y*5+3);have z4:=aO bH (y*5+4);have c0:dW.cell? ⟨g,y*5,none⟩=some (.int .i64 cy.m.1.kind):=by rw[cell_of bH,hB,oe _ _ _ _ (by omega),<-cell_of dQ.out.1];exact d5
     have c1:dW.cell? ⟨g,y*5+1,none⟩=some (.slice cy.m.2.1 cy.m.1.body.length cy.m.2.2):=by rw[cell_of bH,hB,oe _ _ _ _ (by omega),<-cell_of dQ.out.1];exact d6
     have c2:dW.cell? ⟨g,y*5+2,none⟩=some (.string (str cy.m.1.id)):=by rw[cell_of bH,hB,oe _ _ _ _ (by omega),<-cell_of dQ.out.1];exact d7
     have c3:dW.cell? ⟨g,y*5+3,none⟩=some (.int .i64 cy.m.1.at_):=by rw[cell_of bH,hB,oe _ _ _ _ (by omega),<-cell_of dQ.out.1];exact d8
     have c4:dW.cell? ⟨g,y*5+4,none⟩=some (.int .u32 (cy.m.1.crc:Nat)):=by rw[cell_of bH,hB,oe _ _ _ _ (by omega),<-cell_of dQ.out.1];exact d9
     have vW:=au bH hB bQ;clear bH hB bQ d0 d1 d2 d3 d4 d5 d6 d7 d8 d9;refine ko 1 rfl ?_;simp only[aU];repeat (go_big_quiet_step (fail))
     refine wpQuiet_nil ?_;refine tS rfl ?_;intro K hK;go_wp2;refine hK.out _ _ (Fr.aS (((((((Fr.refl [g] dW).setCell (by simp) _).setCell (by simp) _).setCell (by simp) _).setCell (by simp) _).setCell (by simp) _).drew)) ?_;clear hK K z0 z1 z2 z3 z4 c0 c1 c2 c3 c4;refine Dy ?_;obtain⟨w2,bq⟩:∃w2,w2=(((((dW.setCell ⟨g,y*5,none⟩ (.int .i64 cx.m.1.kind)).setCell ⟨g,y*5+1,none⟩ (.slice cx.m.2.1 cx.m.1.body.length cx.m.2.2)).setCell ⟨g,y*5+2,none⟩ (.string (str cx.m.1.id))).setCell ⟨g,y*5+3,none⟩ (.int .i64 cx.m.1.at_)).setCell ⟨g,y*5+4,none⟩ (.int .u32 (cx.m.1.crc:Nat))):=⟨_,rfl⟩;rw[<-bq];have HZ:Hid (Ow w2 g T A0 L (swp (ay f a (a+1) (t+1)) y t)/\Fr [g] wo w2):=by
      obtain⟨hA,cG,gP,cM,eH,iy,iL⟩:=dQ.out;obtain⟨bH,hB,bQ⟩:=vW.out;have gQ:w2.heap[g]?=some (.cells (gj A1 y cx.m) T (0,0)):=by rw[bq];exact aX (aX (aX (aX (aX bH _) _) _) _) _
      rw[hB]at gQ;exact af ⟨Ow.swap _ cx cy cG gP cM eH kE qZ rG iy iL gQ,by rw[bq,bQ];exact (((((((((((Fr.refl [g] wo).setCell (by simp) _).setCell (by simp) _).setCell (by simp) _).setCell (by simp) _).setCell (by simp) _).setCell (by simp) _).setCell (by simp) _).setCell (by simp) _).setCell (by simp) _).setCell (by simp) _)⟩
     clear bq;clear g2 g4;go_wp2;go_roundg k2;case measure=>have:=HJ.out.2.1;omega
     case rel=>obtain⟨hf,bF,hy⟩:=HJ.out;refine⟨y,by go_num,by omega,by omega,?_,hf.trans HZ.l1.drew⟩;have:=HZ.o0;rw[hy,gV,Ua f a t eD]at this;rw[hy];exact this.drew
    ·obtain rfl:t=q:=by omega
     have HJ:=ak hD hf;clear hD hf bF;go_wp2;(try simp only[Exit.inBlock,Exit.then]);refine bodyPost_ret (results_none rfl _ _ _) rfl ?_;obtain⟨hq,vN⟩:=HQ.out;refine⟨rfl,_,HJ.out.1,?_,HJ.out.2⟩;rw[<-vN];have oQ:m=a+1:=H.o1;exact Uu f a i b (by omega) h2 (by have:=H.l3;rw[oQ]at this;exact this) (λh=>HI.out.1 (by omega)) (λh=>HI.out.2.1 h)
theorem Ux (g:Nat) (T:TypeId) (A0:Array Value) (L cap a m b:Nat) (f:Nat->Mo) (w:World) (R:Nat)
  (h:Ow w g T A0 L f) (oQ:a<m) (bR:m≠a+1) (jq:b=m+1) (xe:b<=L) (hL:L<=100000) (bA:Wk f) (hA:huf.dX (sg f a (m-a))):dA g T A0 L cap a m b f w R:=by
 intro hR rM;have qJ:=ak hR rM;clear hR rM;have H:=aF h oQ jq hA;have PY:(((m:Int)-(a:Int))==1)=false:=by simp only[beq_eq_false_iff_ne];omega
 have e0:(b:Int)-(m:Int)=1:=by omega
 have oR:a<b:=by omega
 have hmL:m<L:=by omega
 clear h hA jq bR;unfold kN;go_enter Tryz.func108,Tryz.ntmps108;go_upto_block 4 with fail;go_wp2;go_loopg [14,15,16] (m-a) (λk s14 s15 s16 wr=>∃i j:Nat,s14 = .int .i64 (i:Nat)/\s15 = .int .i64 (j:Nat)/\j=i+k/\a<=i/\j<=m/\(a<i->(f (i-1)).worth<=(f m).worth)/\(j<m->(f m).worth<(f j).worth)/\Ow wr g T A0 L f/\Fr [g] w wr);case atStart=>exact⟨a,m,rfl,rfl,by omega,aw _,aw _,λh=>absurd h (by omega),λh=>absurd h (by omega),H.o0,.refl _ w⟩
 case round=>
  obtain⟨i,j,rfl,rfl,hk,h1,h2,h3,h4,hD,hf⟩:=hrel;by_cases jW:i<j
  ·obtain⟨s,hs⟩:=ah (i+j);have e1:(i:Int)+(j:Int)=(s:Int):=by omega
   obtain⟨hh,mU⟩:=ah (s/2);have e2:(s:Int)/2=(hh:Int):=by omega
   have OB:hh<L:=by omega
   have kR:s<=200000:=by omega
   have NM:Hid (eP wr.drew R):=af ((hf.drew).ae qJ.o0 (by simp;exact jg qJ.l1));have HI:=bJ hk h3 h4 hf hs mU;clear hk h3 h4 hf hs mU;have g2:decide ((L:Int)<=(hh:Int))=false:=by simp;omega
   have g4:decide ((L:Int)<=(m:Int))=false:=by simp;omega
   have j3:=λx=>(hD.drew.fr (dk [] wr.drew x)).cells (i:=m) (by omega)
   have j2:=λx=>(hD.drew.fr (dk [] wr.drew x)).cells (i:=hh) (by omega)
   have bb0:=bA (m);have bb1:=bA (hh);obtain⟨p,hp⟩:=ah ((f) (m));obtain⟨r,hr⟩:=ah ((f) (hh));rw[<-hp]at bb0 j3;rw[<-hr]at bb1 j2;have vw:=λx=>(j3 x).1
   have vv:=λx=>(j3 x).2.1
   have GF:=λx=>(j3 x).2.2.1
   have GD:=λx=>(j3 x).2.2.2.1
   have GC:=λx=>(j3 x).2.2.2.2
   have d10:=λx=>(j2 x).1
   have d11:=λx=>(j2 x).2.1
   have d12:=λx=>(j2 x).2.2.1
   have d13:=λx=>(j2 x).2.2.2.1
   have d14:=λx=>(j2 x).2.2.2.2
   have HP:=au hp hr hD;clear hp hr hD j3 j2;have jF:=Rc R p.m r.m wr.drew NM.out bb0.2 bb1.2;simp only[dG]at jF;rw[<-bb0.1,<-bb1.1]at jF;have Cj:=af jF;clear jF bb0 bb1;go_upto_region 17 with fail;refine jh 12 [(false,0),(false,1),(false,2),(false,3),(false,4),(false,5),(false,6),(false,7),(false,8),(true,9),(false,10),(false,11)] [] (by kernel_rfl) (by kernel_rfl) (λ_ _ d _ _ h=>by cases d<;>exact h) ?_;simp only[iw];refine cS 9 rfl ?_;simp only[aU];repeat (go_big_quiet_step (fail))
   refine wpQuiet_nil ?_;refine ep rfl ?_;intro K hK;go_wp2_with (go_at_call 39;refine Cj.out.mono ?_;rintro e w1 ⟨rv,rfl,wJ,vM,tk,fO⟩);refine hK.out _ _ fO ?_;clear hK K vw vv GF GD GC d10 d11 d12 d13 d14 Cj;have HC:Hid (Ow w1 g T A0 L (f)/\Fr [] wr w1):=af ⟨HP.out.2.2.drew.fr fO,(Fr.av [] wr).trans fO⟩;clear fO;clear g2 g4;by_cases hpr:p.worth<r.worth
   ·have g5:decide (rv<0)=true:=by simp;exact wJ.2 hpr
    refine cS 2 rfl ?_;simp only[aU];repeat (go_big_quiet_step (fail))
    refine wpQuiet_nil ?_;refine fE ?_;go_wp2;go_roundg (hh-i);case measure=>have:=HI.out.1;have:=HI.out.2.2.2.2;omega
    case rel=>obtain⟨hk,h3,h4,hf,hs,mU⟩:=HI.out;obtain⟨hp,hr,hD⟩:=HP.out;refine⟨i,hh,rfl,rfl,by omega,h1,by omega,h3,λ_=>by rw[<-hp,<-hr];exact hpr,HC.o0,hf.trans (HC.l1.mono (by simp))⟩
   ·have g5:decide (rv<0)=false:=by simp;have:=mt wJ.1 hpr;omega
    refine cS 2 rfl ?_;simp only[aU];repeat (go_big_quiet_step (fail))
    refine wpQuiet_nil ?_;refine fE ?_;go_wp2;go_roundg (j-(hh+1));case measure=>have:=HI.out.1;have:=HI.out.2.2.2.2;omega
    case rel=>obtain⟨hk,h3,h4,hf,hs,mU⟩:=HI.out;obtain⟨hp,hr,hD⟩:=HP.out;refine⟨hh+1,j,by go_num,rfl,by omega,by omega,h2,λ_=>by rw[CI,<-hp,<-hr];omega,h4,HC.o0,hf.trans (HC.l1.mono (by simp))⟩
  ·obtain rfl:i=j:=by omega
   have HI:=aF h3 h4 hD hf;clear h3 h4 hD hf hk;go_wp2;go_loopg [17] (m-i) (λk s17 wr=>∃t:Nat,s17 = .int .i64 (t:Nat)/\t=i+k/\t<=m/\Ow wr g T A0 L (ay f t m (m+1))/\Fr [g] w wr);case atStart=>exact⟨m,rfl,by omega,aw _,by rw[yP f m m (m+1) (by omega) (by omega) (.inl rfl)];exact HI.out.2.2.1,HI.out.2.2.2⟩
   case round=>
    obtain⟨t,rfl,bF,NC,hD,hf⟩:=hrel;by_cases ht:i<t
    ·obtain⟨k2,rfl⟩:∃k2,gk=k2+1:=⟨gk-1,by omega⟩;obtain⟨wo,rfl⟩:∃wo:World,wo=wr:=⟨_,rfl⟩;obtain⟨y,hy⟩:=ah (t-1);have e2:(t:Int)-1=(y:Int):=by omega
     have kE:t<L:=by omega
     have qZ:y<L:=by omega
     have rG:t≠y:=by omega
     have g2:decide ((L:Int)<=(t:Int))=false:=by simp;omega
     have g4:decide ((L:Int)<=(y:Int))=false:=by simp;omega
     have HJ:=au hf bF hy;clear hf bF hy;obtain⟨A,hA,cG,gP,cM,eH⟩:=hD;obtain⟨cx,iy⟩:=ah ((ay f t m (m+1)) t);obtain⟨cy,iL⟩:=ah ((ay f t m (m+1)) y);have X:=eH t kE;have Y:=eH y qZ;rw[<-iy]at X;rw[<-iL]at Y;have d0:wo.cell? ⟨g,t*5,none⟩=some (.int .i64 cx.m.1.kind):=(cell_of hA (t*5)).trans (X 0 (by decide));have d1:wo.cell? ⟨g,t*5+1,none⟩=some (.slice cx.m.2.1 cx.m.1.body.length cx.m.2.2):=(cell_of hA (t*5+1)).trans (X 1 (by decide));have d2:wo.cell? ⟨g,t*5+2,none⟩=some (.string (str cx.m.1.id)):=(cell_of hA (t*5+2)).trans (X 2 (by decide));have d3:wo.cell? ⟨g,t*5+3,none⟩=some (.int .i64 cx.m.1.at_):=(cell_of hA (t*5+3)).trans (X 3 (by decide));have d4:wo.cell? ⟨g,t*5+4,none⟩=some (.int .u32 (cx.m.1.crc:Nat)):=(cell_of hA (t*5+4)).trans (X 4 (by decide));have d5:wo.cell? ⟨g,y*5,none⟩=some (.int .i64 cy.m.1.kind):=(cell_of hA (y*5)).trans (Y 0 (by decide));have d6:wo.cell? ⟨g,y*5+1,none⟩=some (.slice cy.m.2.1 cy.m.1.body.length cy.m.2.2):=(cell_of hA (y*5+1)).trans (Y 1 (by decide));have d7:wo.cell? ⟨g,y*5+2,none⟩=some (.string (str cy.m.1.id)):=(cell_of hA (y*5+2)).trans (Y 2 (by decide));have d8:wo.cell? ⟨g,y*5+3,none⟩=some (.int .i64 cy.m.1.at_):=(cell_of hA (y*5+3)).trans (Y 3 (by decide));have d9:wo.cell? ⟨g,y*5+4,none⟩=some (.int .u32 (cy.m.1.crc:Nat)):=(cell_of hA (y*5+4)).trans (Y 4 (by decide));have dQ:=cz hA cG gP cM eH iy iL;clear hA cG gP cM eH iy iL X Y;go_upto_region 23 with fail;refine DC [(0,0),(0,1),(0,2),(0,3),(0,4),(0,5),(0,6),(0,7),(0,8),(1,9),(0,10),(0,11),(0,12),(1,13),(0,14),(2,15),(0,16),(2,17)] [g] [15,17] (by kernel_rfl) (by kernel_rfl) (λ_ _ d _ _ h=>by cases d<;>exact h) ?_;simp only[gW,oJ,yT,yS];refine ko 9 rfl ?_;simp only[aU];repeat (go_big_quiet_step (fail))
     refine wpQuiet_nil ?_;refine tT 1 rfl ?_;simp only[aU];repeat (go_big_quiet_step (fail))
     refine wpQuiet_nil ?_;refine ko 3 rfl ?_;simp only[aU];repeat (go_big_quiet_step (fail))
     refine wpQuiet_nil ?_;refine tT 1 rfl ?_;simp only[aU];repeat (go_big_quiet_step (fail))
     refine wpQuiet_nil ?_;refine ko 1 rfl ?_;simp only[aU];repeat (go_big_quiet_step (fail))
     refine wpQuiet_nil ?_;refine tS rfl ?_;intro K hK;have z0:=aO dQ.out.1 (t*5);have z1:=aO dQ.out.1 (t*5+1);have z2:=aO dQ.out.1 (t*5+2);have z3:=aO dQ.out.1 (t*5+3);have z4:=aO dQ.out.1 (t*5+4);go_wp2;refine hK.out _ _ (Fr.aS (((((((Fr.refl [g] wo).setCell (by simp) _).setCell (by simp) _).setCell (by simp) _).setCell (by simp) _).setCell (by simp) _).drew)) ?_;clear hK K z0 z1 z2 z3 z4;obtain⟨dW,bQ⟩:∃dW,dW=(((((wo.setCell ⟨g,t*5,none⟩ (.int .i64 cy.m.1.kind)).setCell ⟨g,t*5+1,none⟩ (.slice cy.m.2.1 cy.m.1.body.length cy.m.2.2)).setCell ⟨g,t*5+2,none⟩ (.string (str cy.m.1.id))).setCell ⟨g,t*5+3,none⟩ (.int .i64 cy.m.1.at_)).setCell ⟨g,t*5+4,none⟩ (.int .u32 (cy.m.1.crc:Nat))):=⟨_,rfl⟩;rw[<-bQ];have bH:dW.heap[g]?=some (.cells (gj A t cy.m) T (0,0)):=by rw[bQ];exact aX (aX (aX (aX (aX dQ.out.1 _) _) _) _) _
     obtain⟨A1,hB⟩:=ah (gj A t cy.m);rw[<-hB]at bH;have z0:=aO bH (y*5);have z1:=aO bH (y*5+1);have z2:=aO bH (y*5+2);have z3:=aO bH (y*5+3);have z4:=aO bH (y*5+4);have c0:dW.cell? ⟨g,y*5,none⟩=some (.int .i64 cy.m.1.kind):=by rw[cell_of bH,hB,oe _ _ _ _ (by omega),<-cell_of dQ.out.1];exact d5
     have c1:dW.cell? ⟨g,y*5+1,none⟩=some (.slice cy.m.2.1 cy.m.1.body.length cy.m.2.2):=by rw[cell_of bH,hB,oe _ _ _ _ (by omega),<-cell_of dQ.out.1];exact d6
     have c2:dW.cell? ⟨g,y*5+2,none⟩=some (.string (str cy.m.1.id)):=by rw[cell_of bH,hB,oe _ _ _ _ (by omega),<-cell_of dQ.out.1];exact d7
     have c3:dW.cell? ⟨g,y*5+3,none⟩=some (.int .i64 cy.m.1.at_):=by rw[cell_of bH,hB,oe _ _ _ _ (by omega),<-cell_of dQ.out.1];exact d8
     have c4:dW.cell? ⟨g,y*5+4,none⟩=some (.int .u32 (cy.m.1.crc:Nat)):=by rw[cell_of bH,hB,oe _ _ _ _ (by omega),<-cell_of dQ.out.1];exact d9
     have vW:=au bH hB bQ;clear bH hB bQ d0 d1 d2 d3 d4 d5 d6 d7 d8 d9;refine ko 1 rfl ?_;simp only[aU];repeat (go_big_quiet_step (fail))
     refine wpQuiet_nil ?_;refine tS rfl ?_;intro K hK;go_wp2;refine hK.out _ _ (Fr.aS (((((((Fr.refl [g] dW).setCell (by simp) _).setCell (by simp) _).setCell (by simp) _).setCell (by simp) _).setCell (by simp) _).drew)) ?_;clear hK K z0 z1 z2 z3 z4 c0 c1 c2 c3 c4;refine Dy ?_;obtain⟨w2,bq⟩:∃w2,w2=(((((dW.setCell ⟨g,y*5,none⟩ (.int .i64 cx.m.1.kind)).setCell ⟨g,y*5+1,none⟩ (.slice cx.m.2.1 cx.m.1.body.length cx.m.2.2)).setCell ⟨g,y*5+2,none⟩ (.string (str cx.m.1.id))).setCell ⟨g,y*5+3,none⟩ (.int .i64 cx.m.1.at_)).setCell ⟨g,y*5+4,none⟩ (.int .u32 (cx.m.1.crc:Nat))):=⟨_,rfl⟩;rw[<-bq];have HZ:Hid (Ow w2 g T A0 L (swp (ay f t m (m+1)) y t)/\Fr [g] wo w2):=by
      obtain⟨hA,cG,gP,cM,eH,iy,iL⟩:=dQ.out;obtain⟨bH,hB,bQ⟩:=vW.out;have gQ:w2.heap[g]?=some (.cells (gj A1 y cx.m) T (0,0)):=by rw[bq];exact aX (aX (aX (aX (aX bH _) _) _) _) _
      rw[hB]at gQ;exact af ⟨Ow.swap _ cx cy cG gP cM eH kE qZ rG iy iL gQ,by rw[bq,bQ];exact (((((((((((Fr.refl [g] wo).setCell (by simp) _).setCell (by simp) _).setCell (by simp) _).setCell (by simp) _).setCell (by simp) _).setCell (by simp) _).setCell (by simp) _).setCell (by simp) _).setCell (by simp) _).setCell (by simp) _)⟩
     clear bq;clear g2 g4;go_wp2;go_roundg k2;case measure=>have:=HJ.out.2.1;omega
     case rel=>obtain⟨hf,bF,hy⟩:=HJ.out;refine⟨y,by go_num,by omega,by omega,?_,hf.trans HZ.l1.drew⟩;have:=HZ.o0;rw[hy,gV,Mn f m t (by omega) NC]at this;rw[hy];exact this.drew
    ·obtain rfl:t=i:=by omega
     have HJ:=ak hD hf;clear hD hf bF;go_wp2;(try simp only[Exit.inBlock,Exit.then]);refine bodyPost_ret (results_none rfl _ _ _) rfl ?_;refine⟨rfl,_,HJ.out.1,?_,HJ.out.2⟩;have jq:b=m+1:=H.o2;rw[jq];exact Hp f a m t h1 NC H.l3 (λh=>HI.out.1 h) (λh=>HI.out.2.1 h)
theorem US (g:Nat) (T:TypeId) (A0:Array Value) (L cap a m b:Nat) (f:Nat->Mo) (w:World) (R:Nat)
  (ih:∀(a' m' b':Nat) (f':Nat->Mo) (w':World),b'-a'<b-a->Ow w' g T A0 L f'->a'<m'->m'<b'->b'<=L->Wk f'->huf.dX (sg f' a' (m'-a'))->huf.dX (sg f' m' (b'-m'))->dA g T A0 L cap a' m' b' f' w' R)
  (h:Ow w g T A0 L f) (oQ:a<m) (bR:m≠a+1) (jq:m<b) (Bg:b≠m+1) (xe:b<=L) (hL:L<=100000) (bA:Wk f) (hA:huf.dX (sg f a (m-a))) (hB:huf.dX (sg f m (b-m))):dA g T A0 L cap a m b f w R:=by
 intro hR rM;have qJ:=ak hR rM;clear hR rM;obtain⟨s,hs⟩:=ah (a+b);obtain⟨mid,lh⟩:=ah (s/2);obtain⟨n,hn⟩:=ah (mid+m);obtain⟨p,hp⟩:=ah (n-1);have PY:(((m:Int)-(a:Int))==1)=false:=by simp only[beq_eq_false_iff_ne];omega
 have Y7:(((b:Int)-(m:Int))==1)=false:=by simp only[beq_eq_false_iff_ne];omega
 have e1:(a:Int)+(b:Int)=(s:Int):=by omega
 have e2:(s:Int)/2=(mid:Int):=by omega
 have e3:(mid:Int)+(m:Int)=(n:Int):=by omega
 have e4:(n:Int)-1=(p:Int):=by omega
 have b1:s<=200000:=by omega
 have b2:n<=200000:=by omega
 have b3:p<=200000:=by omega
 have b4:mid<=100000:=by omega
 have H:=aP h hA hB bA ih;have H0:=oG oQ jq xe hs lh hn hp bR Bg;clear h hA hB bA ih oQ jq hs lh hn hp bR Bg;unfold kN;go_enter Tryz.func108,Tryz.ntmps108;go_upto_region 27 with fail;clear PY Y7 e1 e2 e3;obtain⟨wo,wG⟩:∃wo:World,wo=w:=⟨_,rfl⟩;rw[<-wG];have ou:=af wG;clear wG;have dz:∀k:Prop,(m<=mid->k)->(¬m<=mid->k)->k:=λk h1 h2=>by by_cases h:m<=mid;exact h1 h;exact h2 h
 go_cut [140] from 138 to 141 (λs140 wz=>s140 = .bool (decide (mid<m))/\wo=wz)
 case first=>
  by_cases hm:mid<m
  ·have q1:decide ((mid:Int)<(m:Int))=true:=by simp;omega
   go_wp2;go_meet;exact⟨by simp[hm],rfl⟩
  ·have q1:decide ((mid:Int)<(m:Int))=false:=by simp;omega
   go_wp2;go_meet;exact⟨by simp[hm],rfl⟩
 case rest=>
 obtain⟨rfl,rfl⟩:=hcut;go_upto_if 140 with fail;go_cut [20,21] from 141 to 147 (λs20 s21 wz=>∃s0 r0:Nat,s20 = .int .i64 (s0:Nat)/\s21 = .int .i64 (r0:Nat)/\((s0=a\/s0+b=n)/\(r0=mid\/r0=m)/\s0<=r0/\a<=s0/\n<=s0+b/\r0<=m/\r0<=mid)/\wo=wz)
 case first=>
  obtain⟨k1,k2,k3,k4,k5,k6,k7,k8,k9⟩:=H0.out;by_cases hm:mid<m
  ·have q1:decide (mid<m)=true:=by simp;omega
   obtain⟨s0,kF⟩:=ah (n-b);have e5:(n:Int)-(b:Int)=(s0:Int):=by omega
   have HK:=cz k1 k2 k3 k4 k5 k6 kF;clear k1 k2 k3 k4 k5 k6 k7 k8 k9 kF;go_wp2;go_meet;obtain⟨k1,k2,k3,k4,k5,k6,kF⟩:=HK.out;exact⟨s0,mid,rfl,rfl,by omega,rfl⟩
  ·have q1:decide (mid<m)=false:=by simp;omega
   have HK:=bJ k1 k2 k3 k4 k5 k6;clear k1 k2 k3 k4 k5 k6 k7 k8 k9;go_wp2;go_meet;obtain⟨k1,k2,k3,k4,k5,k6⟩:=HK.out;exact⟨a,m,rfl,rfl,by omega,rfl⟩
 case rest=>
 obtain⟨s0,r0,rfl,rfl,h0,rfl⟩:=hcut;have H1:=af h0;clear h0 dz;go_wp2;go_loopg [20,21,23] (r0-s0) (λk s20 s21 s23 wr=>∃i j:Nat,s20 = .int .i64 (i:Nat)/\s21 = .int .i64 (j:Nat)/\j=i+k/\s0<=i/\j<=r0/\(s0<i->(f (i-1)).worth<=(f (p-(i-1))).worth)/\(j<r0->(f (p-j)).worth<(f j).worth)/\Ow wr g T A0 L f/\Fr [g] w wr);case atStart=>obtain⟨k1,k2,k3,_⟩:=H1.out;exact⟨s0,r0,rfl,rfl,by omega,aw _,aw _,λh=>absurd h (by omega),λh=>absurd h (by omega),by rw[ou.out];exact H.o0,by rw[ou.out];exact .refl _ w⟩
 case round=>
  obtain⟨i,j,rfl,rfl,hk,h1,h2,h3,h4,hD,hf⟩:=hrel;by_cases jW:i<j
  ·obtain⟨s2,hs⟩:∃s,s=i+j:=⟨_,rfl⟩;obtain⟨hh,mU⟩:=ah (s2/2);obtain⟨pc,wM⟩:=ah (p-hh);have hb:hh<L/\pc<L/\hh<=p/\s2<=200000:=by obtain⟨k1,k2,k3,k4,k5,k6,k7,k8,k9⟩:=H0.out;obtain⟨l1,l2,l3,l4,l5,l6,l7⟩:=H1.out;omega
   obtain⟨OB,hpL,hhp,kR⟩:=hb;have e1:(i:Int)+(j:Int)=(s2:Int):=by omega
   have e2:(s2:Int)/2=(hh:Int):=by omega
   have e3:(p:Int)-(hh:Int)=(pc:Int):=by omega
   have bA:=H.o3;have NM:Hid (eP wr.drew R):=af ((hf.drew).ae qJ.o0 (by simp;exact jg qJ.l1));have HI:=cz hk h3 h4 hf hs mU wM;clear hk h3 h4 hf hs mU wM;have g2:decide ((L:Int)<=(hh:Int))=false:=by simp;omega
   have g4:decide ((L:Int)<=(pc:Int))=false:=by simp;omega
   have j3:=λx=>(hD.drew.fr (dk [] wr.drew x)).cells (i:=pc) (by omega)
   have j2:=λx=>(hD.drew.fr (dk [] wr.drew x)).cells (i:=hh) (by omega)
   have bb0:=bA (pc);have bb1:=bA (hh);obtain⟨px,IG⟩:=ah ((f) (pc));obtain⟨r,hr⟩:=ah ((f) (hh));rw[<-IG]at bb0 j3;rw[<-hr]at bb1 j2;have vw:=λx=>(j3 x).1
   have vv:=λx=>(j3 x).2.1
   have GF:=λx=>(j3 x).2.2.1
   have GD:=λx=>(j3 x).2.2.2.1
   have GC:=λx=>(j3 x).2.2.2.2
   have d10:=λx=>(j2 x).1
   have d11:=λx=>(j2 x).2.1
   have d12:=λx=>(j2 x).2.2.1
   have d13:=λx=>(j2 x).2.2.2.1
   have d14:=λx=>(j2 x).2.2.2.2
   have HP:=au IG hr hD;clear IG hr hD j3 j2;have jF:=Rc R px.m r.m wr.drew NM.out bb0.2 bb1.2;simp only[dG]at jF;rw[<-bb0.1,<-bb1.1]at jF;have Cj:=af jF;clear jF bb0 bb1;go_upto_region 35 with fail;refine jh 14 [(false,0),(false,1),(false,2),(false,3),(false,4),(false,5),(false,6),(false,7),(false,8),(false,9),(false,10),(true,11),(false,12),(false,13)] [] (by kernel_rfl) (by kernel_rfl) (λ_ _ d _ _ h=>by cases d<;>exact h) ?_;simp only[iw];refine cS 11 rfl ?_;simp only[aU];repeat (go_big_quiet_step (fail))
   refine wpQuiet_nil ?_;refine ep rfl ?_;intro K hK;go_wp2_with (go_at_call 39;refine Cj.out.mono ?_;rintro e w1 ⟨rv,rfl,wJ,vM,tk,fO⟩);refine hK.out _ _ fO ?_;clear hK K vw vv GF GD GC d10 d11 d12 d13 d14 Cj;have HC:Hid (Ow w1 g T A0 L (f)/\Fr [] wr w1):=af ⟨HP.out.2.2.drew.fr fO,(Fr.av [] wr).trans fO⟩;clear fO;clear g2 g4;by_cases hpr:px.worth<r.worth
   ·have g5:decide (rv<0)=true:=by simp;exact wJ.2 hpr
    refine cS 2 rfl ?_;simp only[aU];repeat (go_big_quiet_step (fail))
    refine wpQuiet_nil ?_;refine fE ?_;go_wp2;go_roundg (hh-i);case measure=>have:=HI.out.1;have:=HI.out.2.2.2.2;omega
    case rel=>obtain⟨hk,h3,h4,hf,hs,mU,wM⟩:=HI.out;obtain⟨hp,hr,hD⟩:=HP.out;refine⟨i,hh,rfl,rfl,by omega,h1,by omega,h3,λ_=>by rw[<-wM,<-hp,<-hr];exact hpr,HC.o0,hf.trans (HC.l1.mono (by simp))⟩
   ·have g5:decide (rv<0)=false:=by simp;have:=mt wJ.1 hpr;omega
    refine cS 2 rfl ?_;simp only[aU];repeat (go_big_quiet_step (fail))
    refine wpQuiet_nil ?_;refine fE ?_;go_wp2;go_roundg (j-(hh+1));case measure=>have:=HI.out.1;have:=HI.out.2.2.2.2;omega
    case rel=>obtain⟨hk,h3,h4,hf,hs,mU,wM⟩:=HI.out;obtain⟨hp,hr,hD⟩:=HP.out;refine⟨hh+1,j,by go_num,rfl,by omega,by omega,h2,λ_=>by rw[CI,<-wM,<-hp,<-hr];omega,h4,HC.o0,hf.trans (HC.l1.mono (by simp))⟩
  ·obtain rfl:i=j:=by omega
   obtain⟨e,he⟩:=ah (n-i);have hg:a<=i/\i<=m/\m<=e/\e<=b/\i+e=mid+m/\i<=mid/\mid<=e/\p=n-1/\mid=(a+b)/2/\a<mid/\mid<b/\(i<m->m<e->i<r0)/\(a<i->e<b->s0<i):=by obtain⟨k1,k2,k3,k4,k5,k6,k7,k8,k9⟩:=H0.out;obtain⟨l1,l2,l3,l4,l5,l6,l7⟩:=H1.out;omega
   have e1:(n:Int)-(i:Int)=(e:Int):=by omega
   have q1:i<m->m<e->(f (e-1)).worth<(f i).worth:=λx y=>by have:=h4 (hg.2.2.2.2.2.2.2.2.2.2.2.1 x y);rwa [show p-i=e-1 from by omega]at this
   have q2:a<i->e<b->(f (i-1)).worth<=(f e).worth:=λx y=>by have:=h3 (hg.2.2.2.2.2.2.2.2.2.2.2.2 x y);rwa [show p-(i-1)=e from by omega]at this
   have HI:=bJ q1 q2 hg hD hf he;have qi:m<=e:=hg.2.2.1;have Jb:e<=b:=hg.2.2.2.1;have XO:i<=m:=hg.2.1;have Yp:a<=i:=hg.1;clear h3 h4 hD hf hk q1 q2 hg he h1 h2 jW;go_upto_region 39 with fail;go_cut [185] from 178 to 186 (λs185 wz=>∃c:Bool,s185 = .bool c/\(c=true↔(i<m/\m<e))/\wr=wz)
   case first=>
    by_cases c1:i<m
    ·by_cases c2:m<e
     ·have q1:decide ((i:Int)<(m:Int))=true:=by simp;omega
      have q2:decide ((m:Int)<(e:Int))=true:=by simp;omega
      go_wp2;go_meet;exact⟨_,rfl,by simp[c1,c2],rfl⟩
     ·have q1:decide ((i:Int)<(m:Int))=true:=by simp;omega
      have q2:decide ((m:Int)<(e:Int))=false:=by simp;omega
      go_wp2;go_meet;exact⟨_,rfl,by simp[c1,c2],rfl⟩
    ·have q1:decide ((i:Int)<(m:Int))=false:=by simp;omega
     go_wp2;go_meet;exact⟨_,rfl,by simp[c1],rfl⟩
   case rest=>
   obtain⟨cb,rfl,kx,rfl⟩:=hcut;have qM:=af kx;clear kx;go_upto_if 185 with fail;go_cut [] from 185 to 192 (λwz=>Ow wz g T A0 L (ay f i m e)/\Fr [g] w wz)
   case first=>
    cases cb with
    | true=>
     have c:=qM.out.1 rfl;have hr:=yM g T A0 L cap i m e f (.func (.func 39) #[] #[.pointer (some ⟨R,0,none⟩)]) wr HI.out.2.2.2.1 c.1 c.2 (by omega) hL;have HR:=af hr;clear hr c;go_wp2_with (go_at_call 132;refine HR.out.mono ?_;rintro e w2 ⟨rfl,dM,dK⟩);go_meet;exact⟨dM,HI.out.2.2.2.2.1.trans dK⟩
    | false=>
     have c:¬(i<m/\m<e):=λh=>absurd (qM.out.2 h) (by simp)
     have HX:=af c;clear c;go_wp2;go_meet;refine⟨?_,HI.out.2.2.2.2.1⟩;rw[yP f i m e XO qi (by have:=HX.out;omega)];exact HI.out.2.2.2.1
   case rest=>
   obtain⟨zp,BN⟩:=hcut;obtain⟨w3,gN⟩:∃w3:World,w3=wc:=⟨_,rfl⟩;rw[<-gN]at zp BN ⊢;have Df:=au zp BN gN;clear zp BN gN;have cD:Hid (Wk (ay f i m e)):=af (H.o3.TJ i m e);have sM:Hid (a<i->i<mid->huf.dX (sg (ay f i m e) a (i-a))/\huf.dX (sg (ay f i m e) i (mid-i))):=af λx y=>by
    obtain⟨k1,k2,k3,k4,k5,k6,k7,k8,k9,wE,wD,_⟩:=HI.out.2.2.1;refine⟨?_,?_⟩
    ·rw[yN _ _ _ _ _ _ k2 k3 (.inl (by omega))];exact uu H.o1 (aw _) (by omega)
    ·have:=AB f i m e k2 k3;rw[show mid-i=e-m from by omega,this];exact uu H.o2 (aw _) (by omega)
   have ym:Hid (¬(a<i/\i<mid)->huf.dX (sg (ay f i m e) a (mid-a))):=af λx=>by
    obtain⟨k1,k2,k3,k4,k5,k6,k7,k8,k9,wE,wD,_⟩:=HI.out.2.2.1;by_cases hz:i=a
    ·have:=AB f i m e k2 k3;rw[<-hz,show mid-i=e-m from by omega,this];exact uu H.o2 (aw _) (by omega)
    ·rw[yP f i m e k2 k3 (by omega)];exact uu H.o1 (aw _) (by omega)
   go_upto_region 41 with fail;go_cut [199] from 192 to 200 (λs199 wz=>∃c:Bool,s199 = .bool c/\(c=true↔(a<i/\i<mid))/\w3=wz)
   case first=>
    by_cases c1:a<i
    ·by_cases c2:i<mid
     ·have q1:decide ((a:Int)<(i:Int))=true:=by simp;omega
      have q2:decide ((i:Int)<(mid:Int))=true:=by simp;omega
      go_wp2;go_meet;exact⟨_,rfl,by simp[c1,c2],rfl⟩
     ·have q1:decide ((a:Int)<(i:Int))=true:=by simp;omega
      have q2:decide ((i:Int)<(mid:Int))=false:=by simp;omega
      go_wp2;go_meet;exact⟨_,rfl,by simp[c1,c2],rfl⟩
    ·have q1:decide ((a:Int)<(i:Int))=false:=by simp;omega
     go_wp2;go_meet;exact⟨_,rfl,by simp[c1],rfl⟩
   case rest=>
   obtain⟨cb,rfl,kx,rfl⟩:=hcut;have qL:=af kx;clear kx;go_upto_if 199 with fail;go_cut [] from 199 to 206 (λwz=>∃f1,Ow wz g T A0 L f1/\Sd (ay f i m e) f1 a mid/\Fr [g] w wz)
   case first=>
    cases cb with
    | true=>
     have c:=qL.out.1 rfl;have hr:dA g T A0 L cap a i mid (ay f i m e) w3 R:=by obtain⟨k1,k2,k3,k4,k5,k6,k7,k8,k9,wE,wD,_⟩:=HI.out.2.2.1;exact H.l4 a i mid _ w3 (by omega) Df.o0 c.1 c.2 (by omega) cD.out (sM.out c.1 c.2).1 (sM.out c.1 c.2).2
     unfold dA kN at hr;replace hr:=hr (Df.o1.ae qJ.o0 (by simp;exact jg qJ.l1)) qJ.l1;have HR:=af hr;clear hr c;go_wp2_with (go_at_call 108;refine HR.out.mono ?_;rintro e w2 ⟨rfl,f1,dM,cB,dK⟩);go_meet;exact⟨f1,dM,cB,Df.o1.trans dK⟩
    | false=>
     have c:¬(a<i/\i<mid):=λh=>absurd (qL.out.2 h) (by simp)
     have HX:=af c;clear c;go_wp2;go_meet;exact⟨_,Df.o0,Dt _ _ _ (ym.out HX.out),Df.o1⟩
   case rest=>
   obtain⟨f1,pn,BI,jZ⟩:=hcut;obtain⟨w4,ft⟩:∃w4:World,w4=wc:=⟨_,rfl⟩;rw[<-ft]at pn jZ ⊢;have uh:=aF pn BI jZ ft;clear pn BI jZ ft;have BX:Hid (∀c k,mid<=c->sg f1 c k=sg (ay f i m e) c k):=af λc k hc=>pM λt ht=>uh.o1.out _ (.inr (by omega))
   have oT:Hid (mid<e->e<b->huf.dX (sg f1 mid (e-mid))/\huf.dX (sg f1 e (b-e))):=af λx y=>by
    obtain⟨k1,k2,k3,k4,k5,k6,k7,k8,k9,wE,wD,_⟩:=HI.out.2.2.1;rw[BX.out mid _ (aw _),BX.out e _ (by omega)];refine⟨?_,?_⟩
    ·have:=Ay f i m e k2 k3;rw[show i+(e-m)=mid from by omega]at this;rw[show e-mid=m-i from by omega,this];exact uu H.o1 (by omega) (by omega)
    ·rw[yN _ _ _ _ _ _ k2 k3 (.inr (aw _))];exact uu H.o2 (by omega) (by omega)
   have kM:Hid (¬(mid<e/\e<b)->huf.dX (sg f1 mid (b-mid))):=af λx=>by
    obtain⟨k1,k2,k3,k4,k5,k6,k7,k8,k9,wE,wD,_⟩:=HI.out.2.2.1;rw[BX.out mid _ (aw _)];by_cases hz:e=b
    ·have:=Ay f i m e k2 k3;rw[show i+(e-m)=mid from by omega]at this;rw[show b-mid=m-i from by omega,this];exact uu H.o1 (by omega) (by omega)
    ·have he:e=mid:=by omega
     rw[yP f i m e k2 k3 (by omega)];exact uu H.o2 (by omega) (by omega)
   go_upto_region 43 with fail;go_cut [213] from 206 to 214 (λs213 wz=>∃c:Bool,s213 = .bool c/\(c=true↔(mid<e/\e<b))/\w4=wz)
   case first=>
    by_cases c1:mid<e
    ·by_cases c2:e<b
     ·have q1:decide ((mid:Int)<(e:Int))=true:=by simp;omega
      have q2:decide ((e:Int)<(b:Int))=true:=by simp;omega
      go_wp2;go_meet;exact⟨_,rfl,by simp[c1,c2],rfl⟩
     ·have q1:decide ((mid:Int)<(e:Int))=true:=by simp;omega
      have q2:decide ((e:Int)<(b:Int))=false:=by simp;omega
      go_wp2;go_meet;exact⟨_,rfl,by simp[c1,c2],rfl⟩
    ·have q1:decide ((mid:Int)<(e:Int))=false:=by simp;omega
     go_wp2;go_meet;exact⟨_,rfl,by simp[c1],rfl⟩
   case rest=>
   obtain⟨cb,rfl,kx,rfl⟩:=hcut;have qK:=af kx;clear kx;go_upto_if 213 with fail;cases cb with
   | true=>
    have c:=qK.out.1 rfl;have hr:dA g T A0 L cap mid e b f1 w4 R:=by obtain⟨k1,k2,k3,k4,k5,k6,k7,k8,k9,wE,wD,_⟩:=HI.out.2.2.1;exact H.l4 mid e b _ w4 (by omega) uh.o0 c.1 c.2 (by omega) (cD.out.sd uh.o1) (oT.out c.1 c.2).1 (oT.out c.1 c.2).2
    unfold dA kN at hr;replace hr:=hr (uh.o2.ae qJ.o0 (by simp;exact jg qJ.l1)) qJ.l1;have HR:=af hr;clear hr c;go_wp2_with (go_at_call 108;refine HR.out.mono ?_;rintro e2 w2 ⟨rfl,f2,dM,cB,dK⟩);(try simp only[Exit.inBlock,Exit.then]);refine bodyPost_end (results_none rfl _ _ _) rfl ?_;obtain⟨k1,k2,k3,k4,k5,k6,k7,k8,k9,wE,wD,_⟩:=HI.out.2.2.1;have h0:=H0.out;exact⟨rfl,f2,dM,L9 f f1 f2 a m b mid i e k9 (by omega) (by omega) (by omega) k1 k2 k3 k4 H.o1 H.o2 HI.out.1 HI.out.2.1 uh.o1 cB,uh.o2.trans dK⟩
   | false=>
    have c:¬(mid<e/\e<b):=λh=>absurd (qK.out.2 h) (by simp)
    have HX:=af c;clear c;go_wp2;(try simp only[Exit.inBlock,Exit.then]);refine bodyPost_end (results_none rfl _ _ _) rfl ?_;obtain⟨k1,k2,k3,k4,k5,k6,k7,k8,k9,wE,wD,_⟩:=HI.out.2.2.1;have h0:=H0.out;exact⟨rfl,f1,uh.o0,L9 f f1 f1 a m b mid i e k9 (by omega) (by omega) (by omega) k1 k2 k3 k4 H.o1 H.o2 HI.out.1 HI.out.2.1 uh.o1 (Dt _ _ _ (kM.out HX.out)),uh.o2⟩
theorem Dv (g:Nat) (T:TypeId) (A0:Array Value) (L cap:Nat) (hL:L<=100000) (R:Nat):∀(n a m b:Nat) (f:Nat->Mo) (w:World),b-a<=n->
  Ow w g T A0 L f->a<m->m<b->b<=L->Wk f->huf.dX (sg f a (m-a))->huf.dX (sg f m (b-m))->dA g T A0 L cap a m b f w R:=by
 intro n;induction n with
 | zero=>intro a m b f w hn _ h1 h2;omega
 | succ n ih=>
  intro a m b f w hn hD h1 h2 h3 bA hA hB;by_cases c1:m=a+1
  ·exact Uw g T A0 L cap a m b f w R hD c1 h2 h3 hL bA hB
  ·by_cases c2:b=m+1
   ·exact Ux g T A0 L cap a m b f w R hD h1 c1 c2 h3 hL bA hA
   ·exact US g T A0 L cap a m b f w R (λa' m' b' f' w' aY k1 k2 k3 k4 k5 k6 k7=>ih a' m' b' f' w' (by omega) k1 k2 k3 k4 k5 k6 k7) hD h1 c1 h2 c2 h3 hL bA hA hB
def PB (f:Nat->Mo) (bs a n:Nat):Prop:=∀c,bs∣c->c<a->huf.dX (sg f c (min bs (n-c)))
theorem Mj {bs a c:Nat} (hb:0<bs) (h1:bs∣a) (h2:bs∣c) (h:c<a):c+bs<=a:=by
 obtain⟨x,rfl⟩:=h1;obtain⟨y,rfl⟩:=h2;have:y<x:=Nat.lt_of_mul_lt_mul_left h;calc bs*y+bs=bs*(y+1):=by rw[Nat.mul_succ]
  _<=bs*x:=LW _ this
theorem Ai {f f2:Nat->Mo} {bs a n:Nat} (hb:0<bs) (ha:bs∣a) (h:PB f bs a n) (hs:Sd f f2 a (min (a+bs) n)):PB f2 bs (a+bs) n:=by
 intro c hc aY;rcases Nat.lt_trichotomy c a with k|k|k
 ·have:=Mj hb ha hc k;rw[pM (f:=f2) (f':=f) (a':=c) λt ht=>hs.out _ (.inl (by omega))];exact h c hc k
 ·subst k;have:=hs.srt;rw[show min bs (n-c)=min (c+bs) n-c from by omega];exact this
 ·have:=Mj hb hc ha k;omega
theorem Uz {f f2:Nat->Mo} {bs a b n:Nat} (hs:Sd f f2 a b) (h:∀c,bs∣c->a<=c->huf.dX (sg f c (min bs (n-c)))) (oR:a<=b):∀c,bs∣c->b<=c->huf.dX (sg f2 c (min bs (n-c))):=by intro c hc hb;rw[pM (f:=f2) (f':=f) (a':=c) λt ht=>hs.out _ (.inr (by omega))];exact h c hc (by omega)
theorem Ub {f:Nat->Mo} {bs n:Nat} (hb:n<=bs) (h:PB f bs n n):huf.dX (sg f 0 n):=by
 rcases Nat.eq_zero_or_pos n with k|k
 ·subst k;rw[Du];exact List.Pairwise.nil
 ·have:=h 0 (Nat.dvd_zero _) k;rwa [show min bs (n-0)=n from by omega]at this
theorem Hh {f:Nat->Mo} {bs a a' n:Nat} (h:PB f bs a n) (haa:a'<=a):PB f bs a' n:=λc hc aY=>h c hc (by omega)
theorem VT (g:Nat) (T:TypeId) (A0:Array Value) (L cap:Nat) (f:Nat->Mo) (w:World)
  (h:Ow w g T A0 L f) (hL:L<=100000) (bA:Wk f) (R:Nat) (hR:eP w R) (rM:g≠R) :
  Calls Tryz.prog 70 #[.slice (some ⟨g,0,none⟩) L cap,.int .i64 (L:Nat),kN R] w λe w'=>e = .returned (.tuple #[])/\∃f',Ow w' g T A0 L f'/\Sd f f' 0 L/\Fr [g] w w':=by
 have qJ:=ak hR rM;clear hR rM;have H:=ak h bA;clear h bA;unfold kN;go_enter Tryz.func70,Tryz.ntmps70;go_wp2;go_loopg [7,8] L (λk s7 s8 wr=>∃a:Nat,s7 = .int .i64 (a:Nat)/\s8 = .int .i64 ((a+20:Nat):Nat)/\a+k=L/\20∣a/\∃f1,Ow wr g T A0 L f1/\Wk f1/\huf.eE (sg f1 0 L) (sg f 0 L)/\PB f1 20 a L/\(∀t,L<=t->f1 t=f t)/\Fr [g] w wr);case atStart=>exact⟨0,rfl,rfl,by omega,Nat.dvd_zero _,f,H.o0,H.l1,.refl _,λc _ hc=>absurd hc (by omega),λ_ _=>rfl,.refl _ w⟩
 case round=>
  obtain⟨a,rfl,rfl,hk,nP,f1,hD,bA,az,bT,aR,hf⟩:=hrel;have oT:Hid (eP wr R):=af (hf.ae qJ.o0 (by simp;exact jg qJ.l1));obtain⟨b,hb⟩:=ah (a+20);rw[<-hb];by_cases oR:b<=L
  ·have hi:=MN g T A0 L cap a b f1 wr hD (by omega) oR hL bA R oT.out qJ.l1;unfold kN at hi;have HI:=oG hi bA az bT aR hf hk nP hb;clear hi bA az bT aR hf hk nP hb hD;go_wp2_with (go_at_call 107;refine HI.out.1.mono ?_;rintro e w2 ⟨rfl,f2,dM,cB,dK⟩;have HW:=au dM cB dK;clear dM cB dK);go_roundg (L-b);case measure=>have:=HI.out.2.2.2.2.2.2;omega
   case rel=>
    obtain⟨_,bA,az,bT,aR,hf,hk,nP,hb⟩:=HI.out;obtain⟨dM,cB,dK⟩:=HW.out;refine⟨b,rfl,by go_num,by omega,?_,f2,dM,bA.sd cB,(cB.mJ (by omega) oR).trans az,?_,λt ht=>(cB.out t (.inr (by omega))).trans (aR t ht),hf.trans dK⟩
    ·rw[hb];exact E5 nP (E6 _)
    ·rw[hb];exact Ai (by omega) nP bT (by rw[tU (by omega),<-hb];exact cB)
  ·have hi:=MN g T A0 L cap a L f1 wr hD (by omega) (aw _) hL bA R oT.out qJ.l1;unfold kN at hi;have HI:=oG hi bA az bT aR hf hk nP hb;clear hi bA az bT aR hf hk nP hb hD;go_wp2_with (go_at_call 107;refine HI.out.1.mono ?_;rintro e w2 ⟨rfl,f2,dM,cB,dK⟩;have HW:=au dM cB dK;clear dM cB dK);have mS:∃f3,Ow w2 g T A0 L f3/\Wk f3/\huf.eE (sg f3 0 L) (sg f 0 L)/\PB f3 20 L L/\(∀t,L<=t->f3 t=f t)/\Fr [g] w w2:=by obtain⟨_,bA,az,bT,aR,hf,hk,nP,hb⟩:=HI.out;obtain⟨dM,cB,dK⟩:=HW.out;refine⟨f2,dM,bA.sd cB,(cB.mJ (by omega) (aw _)).trans az,Hh (Ai (a:=a) (by omega) nP bT (by rw[Nat.min_eq_right (by omega)];exact cB)) (by omega),λt ht=>(cB.out t (.inr (by omega))).trans (aR t ht),hf.trans dK⟩
   have HS:=af mS;clear mS HI HW oR;go_loopg [6,7,8,9] (L+40) (λk s6 s7 s8 s9 wr=>∃bs:Nat,s6 = .int .i64 (bs:Nat)/\20<=bs/\bs<=200040/\k=L+60-bs/\∃f1,Ow wr g T A0 L f1/\Wk f1/\huf.eE (sg f1 0 L) (sg f 0 L)/\PB f1 bs L L/\(∀t,L<=t->f1 t=f t)/\Fr [g] w wr);case atStart=>obtain⟨f3,h3⟩:=HS.out;exact⟨20,rfl,aw _,by omega,by omega,f3,h3⟩
   case round=>
    obtain⟨bs,rfl,Yk,oD,hk,f1,hD,bA,az,bT,aR,hf⟩:=hrel;by_cases aY:bs<L
    ·have HI:=bJ hD bA az bT aR hf;clear hD bA az bT aR hf;have HK:=af hk;clear hk;obtain⟨b2,jY⟩:=ah (2*bs);have e1:2*(bs:Int)=(b2:Int):=by omega
     have e2:(bs:Int)*2=(b2:Int):=by omega
     have Yj:b2<=200000:=by omega
     have HB:=af jY;clear jY;obtain⟨wo,ou⟩:∃wo:World,wo=wr:=⟨_,rfl⟩;have GK:=af ou;rw[<-ou];clear ou;go_wp2;go_loopg [7,8] L (λk s7 s8 wr=>∃a:Nat,s7 = .int .i64 (a:Nat)/\s8 = .int .i64 ((a+b2:Nat):Nat)/\a+k=L/\b2∣a/\∃f1,Ow wr g T A0 L f1/\Wk f1/\huf.eE (sg f1 0 L) (sg f 0 L)/\PB f1 b2 a L/\(∀c,bs∣c->a<=c->huf.dX (sg f1 c (min bs (L-c))))/\(∀t,L<=t->f1 t=f t)/\Fr [g] w wr);case atStart=>
      obtain⟨hD,bA,az,bT,aR,hf⟩:=HI.out;rw[GK.out];refine⟨0,rfl,by go_num,by omega,Nat.dvd_zero _,f1,hD,bA,az,λc _ hc=>absurd hc (by omega),λc hc _=>?_,aR,hf⟩;by_cases hcL:c<L
      ·exact bT c hc hcL
      ·rw[show min bs (L-c)=0 from by omega,Du];exact List.Pairwise.nil
     case round=>
      obtain⟨a,rfl,rfl,hk,nh,f3,hD,bA,az,bT,aG,aR,hf⟩:=hrel;have oT:Hid (eP wr R):=af (hf.ae qJ.o0 (by simp;exact jg qJ.l1));obtain⟨b,hb⟩:=ah (a+b2);obtain⟨m,hm⟩:=ah (a+bs);have e3:(a:Int)+(bs:Int)=(m:Int):=by omega
      have haL:a<=L:=by omega
      have jq:m<=400000:=by omega
      have kU:b<=400000:=by omega
      have lX:bs∣a:=Nat.dvd_trans ⟨2,by have:=HB.out;omega⟩ nh;rw[<-hb];by_cases oR:b<=L
      ·have hi:=Dv g T A0 L cap hL R (b-a) a m b f3 wr (aw _) hD (by omega) (by have:=HB.out;omega) oR bA
        (by have:=aG a lX (aw _);rwa [show min bs (L-a)=m-a from by have:=HB.out;omega]at this)
        (by have:=aG m (by rw[hm];exact E5 lX (E6 _)) (by omega);rwa [show min bs (L-m)=b-m from by have:=HB.out;omega]at this)
       unfold dA kN at hi
       replace hi:=hi oT.out qJ.l1
       have HJ:=mH hi bA az bT aG aR hf hk nh hb hm
       clear hi bA az bT aG aR hf hk nh hb hm hD lX
       go_wp2_with (go_at_call 108;refine HJ.out.1.mono ?_;rintro e w2 ⟨rfl,f2,dM,cB,dK⟩;have HW:=au dM cB dK;clear dM cB dK)
       go_roundg (L-b)
       case measure=>have:=HJ.out.2.2.2.2.2.2.2;omega
       case rel=>
        obtain⟨_,bA,az,bT,aG,aR,hf,hk,nh,hb,hm⟩:=HJ.out
        obtain⟨dM,cB,dK⟩:=HW.out
        refine⟨b,rfl,by go_num,by omega,?_,f2,dM,bA.sd cB,(cB.mJ (by omega) oR).trans az,?_,Uz cB aG (by omega),λt ht=>(cB.out t (.inr (by omega))).trans (aR t ht),hf.trans dK⟩
        ·rw[hb];exact E5 nh (E6 _)
        ·rw[hb];exact Ai (by omega) nh bT (by rw[tU (by omega),<-hb];exact cB)
      ·by_cases qi:m<L
       ·have hi:=Dv g T A0 L cap hL R (L-a) a m L f3 wr (aw _) hD (by omega) qi (aw _) bA
         (by have:=aG a lX (aw _);rwa [show min bs (L-a)=m-a from by omega]at this)
         (by have:=aG m (by rw[hm];exact E5 lX (E6 _)) (by omega);rwa [show min bs (L-m)=L-m from by have:=HB.out;omega]at this)
        unfold dA kN at hi
        replace hi:=hi oT.out qJ.l1
        have HJ:=mH hi bA az bT aG aR hf hk nh hb hm
        clear hi bA az bT aG aR hf hk nh hb hm hD lX
        go_wp2_with (go_at_call 108;refine HJ.out.1.mono ?_;rintro e w2 ⟨rfl,f2,dM,cB,dK⟩;have HW:=au dM cB dK;clear dM cB dK)
        go_roundg (L+60-b2)
        case measure=>have:=HK.out;have:=HB.out;omega
        case rel=>
         obtain⟨_,bA,az,bT,aG,aR,hf,hk,nh,hb,hm⟩:=HJ.out
         obtain⟨dM,cB,dK⟩:=HW.out
         exact⟨b2,rfl,by have:=HB.out;omega,by omega,rfl,f2,dM,bA.sd cB,(cB.mJ (by omega) (aw _)).trans az,Hh (Ai (a:=a) (by have:=HB.out;omega) nh bT (by rw[Nat.min_eq_right (by omega)];exact cB)) (by omega),λt ht=>(cB.out t (.inr ht)).trans (aR t ht),hf.trans dK⟩
       ·have HJ:=rV bA az bT aG aR hf hk nh hb hm hD lX;clear bA az bT aG aR hf hk nh hb hm hD lX;go_wp2;go_roundg (L+60-b2);case measure=>have:=HK.out;have:=HB.out;omega
        case rel=>obtain⟨bA,az,bT,aG,aR,hf,hk,nh,hb,hm,hD,lX⟩:=HJ.out;refine⟨b2,rfl,by have:=HB.out;omega,by omega,rfl,f3,hD,bA,az,Hh (Ai (a:=a) (by have:=HB.out;omega) nh bT (Dt _ _ _ ?_)) (by omega),aR,hf⟩;have:=aG a lX (aw _);rwa [show min bs (L-a)=min (a+b2) L-a from by omega]at this
    ·have HI:=bJ hD bA az bT aR hf;clear hD bA az bT aR hf hk;go_wp2;(try simp only[Exit.inBlock,Exit.then]);refine bodyPost_end (results_none rfl _ _ _) rfl ?_;obtain⟨hD,bA,az,bT,aR,hf⟩:=HI.out;exact⟨rfl,f1,hD,⟨λt ht=>aR t (by omega),Ub (by omega) bT,az⟩,hf⟩
theorem zes:xr 100000:=λg A0 L cap f w R h hL bA hR rM=>by have H:=af (VT g 34 A0 L cap f w h hL bA R hR rM);unfold kN at H ⊢;clear h bA hR rM;go_enter Tryz.func38,Tryz.ntmps38;go_wp2_with (go_at_call 70;refine H.out.mono ?_;rintro e w2 ⟨rfl,dM⟩);(try simp only[Exit.inBlock,Exit.then]);refine bodyPost_end (results_none rfl _ _ _) rfl ?_;exact⟨rfl,dM⟩
def vD (o:pk.Obj):Prop:=o.id=pQ o.kind o.body/\o.body.length<=2147483647
def tO (W:List St):Prop:=∀o d,some (.ok (o,d))∈W->vD o
theorem zaq {r:eo} {k:Int} {b:List UInt8} {d d2:Nat} {o:pk.Obj} (h:over r k b d = .ok (o,d2)):vD o:=by
 unfold over at h;split at h
 ·cases h
 ·split at h
  ·simp only[gA,fj]at h;rw[<-h.1];exact⟨rfl,qrf b r.data 65536⟩
  ·cases h
theorem qtn {x:eo} {s:St} {o:pk.Obj} {d:Nat} (h:yV x s=some (.ok (o,d))):vD o:=by
 match s,h with
 | none,h=>cases h
 | some (.error e),h=>cases h
 | some (.ok (o1,d1)),h=>exact zaq (lL h)
theorem zdr {l:List eo} {W:List St} {i:Nat} {x:eo} {o:pk.Obj} {d:Nat} (h:sR l W i x=some (.ok (o,d))):vD o:=by
 unfold sR at h;split at h
 ·split at h
  ·cases h
  ·exact qtn h
 ·exact qtn h
theorem zds {W:List St} {i:Nat} {s:St} (h:tO W) (hs:∀o d,s=some (.ok (o,d))->vD o):tO (W.set i s):=by
 intro o d hm;rcases List.mem_or_eq_of_mem_set hm with h1|h1
 ·exact h o d h1
 ·exact hs o d h1.symm
theorem Rj (l:List eo):∀(n i:Nat) (W:List St) (more:Bool),tO W->tO (pass l n i W more).1
 | 0,i,W,more,h=>h
 | n+1,i,W,more,h=>by
  rw[pass];split
  ·split
   ·exact Rj l n _ _ _ h
   ·rename_i s hs;exact Rj l n _ _ _ (zds h λo d e=>zdr (e▸hs))
  ·exact Rj l n _ _ _ h
theorem Q6 (l:List eo):∀(n i:Nat) (W W2:List St),pk.ask l [] n i W=some W2->tO W->tO W2
 | 0,i,W,W2,h,_=>by cases h
 | n+1,i,W,W2,h,ho=>by
  rw[pk.ask]at h;split at h
  ·split at h
   ·split at h
    ·rename_i hk;simp[jn]at hk
    ·exact Q6 l n _ _ _ h ho
   ·exact Q6 l n _ _ _ h ho
  ·exact Q6 l n _ _ _ h ho
theorem Uq (l:List eo):∀(f:Nat) (W:List St),tO W->tO (uq l [] f W)
 | 0,W,h=>h
 | f+1,W,h=>by
  rw[uq];have hp:=Rj l l.length 0 W false h;split
  ·exact Uq l f _ hp
  ·split
   ·rename_i W2 h2;exact Uq l f _ (Q6 l _ _ _ _ h2 hp)
   ·exact hp
theorem qn2:∀(W:List St) {os:List pk.Obj},fJ W = .ok os->tO W->∀o∈os,vD o
 | [],os,h,_=>by
  simp only[fJ,gA]at h;rw[<-h];simp
 | none::t,os,h,_=>by cases h
 | some (.error e)::t,os,h,_=>by cases h
 | some (.ok (o1,d1))::t,os,h,ho=>by
  rw[fJ]at h;split at h
  ·cases h
  ·rename_i r hr;simp only[gA]at h;rw[<-h];intro o hm;rcases gw.1 hm with rfl|hm
   ·exact ho _ d1 (by simp)
   ·exact qn2 t hr (λo d hh=>ho o d (DH _ hh)) o hm
theorem zar {l:List eo} {os:List pk.Obj} (hs:Small l) (h:pk.resolve l [] = .ok os):∀o∈os,vD o:=by
 unfold pk.resolve at h;refine qn2 _ h (Uq l _ _ ?_);intro o d hm;unfold ig at hm;obtain⟨i,_,hi⟩:=jR.1 hm;split at hi
 ·rename_i x hx;unfold fK at hi;split at hi
  ·split at hi<;>cases hi
  ·split at hi
   ·cases hi
   ·simp only[eS,gA,fj]at hi;rw[<-hi.1];exact⟨rfl,bS (hs x (iC hx)).1 (by decide)⟩
 ·cases hi
theorem zet {w:World} {g o cap K:Nat} {bs:List UInt8} (b:UInt8) {T:TypeId} {A:Array Value} (h:lib.Rd w (some ⟨g,o,none⟩) cap bs) (hA:w.heap[g]?=some (.cells A T (0,0))) (hK:K<bs.length) :
  lib.Rd (w.setCell ⟨g,o+K,none⟩ (bv b)) (some ⟨g,o,none⟩) cap (bs.set K b):=by
 refine⟨?_,by rw[Kf];exact h.le,h.max,h.nil⟩;rcases h.cs with h1|⟨g',o',he,hc⟩
 ·rw[List.map_eq_nil_iff]at h1;rw[h1]at hK;simp at hK
 ·simp only[eS,qU,and_true]at he;obtain⟨rfl,rfl⟩:=he;refine .inr ⟨g,o,rfl,λj v hj=>?_⟩;rw[cell_of (aX hA _)];rw[j5,List.getElem?_set]at hj;have aY:o+K<A.size:=by have h2:=hc K (bv (bs[K])) (by rw[j5,bO hK];rfl);rw[cell_of hA]at h2;exact (FE.1 h2).1
  by_cases eG:K=j
  ·subst eG;rw[if_pos rfl,if_pos hK]at hj;rw[iu aY,<-hj];rfl
  ·rw[if_neg eG]at hj;rw[aZ (by omega),<-cell_of hA];exact hc j v (by rw[j5];exact hj)
end os
namespace pk
open Go Go.RowKit lib bm
theorem KD (w:World):Calls Tryz.prog 8 #[] w λe w'=>e = .returned (.bool true)/\Fr [] w w':=by
 have hlen:(bh++sha.dY bh).length=32:=by rw[aK,sha.sf];rfl
 have pb:=qvz w;unfold aD at pb;rw[hlen]at pb;have hh:=λw'=>Hk 3 20 w' (by decide) (by decide)
 have hb:=λw'=>quf 128 w' (by decide)
 unfold aD at hh hb;have eh:hd 3 20=[180,1]:=by decide
 have eb:(bk 128).reverse=[128,0]:=by decide
 rw[eh]at hh;rw[eb]at hb;have H0:=au pb hh hb;clear pb hh hb eh eb hlen;go_enter Tryz.func8,Tryz.ntmps8;go_upto_region 2 with (go_at_call 15;refine H0.o0.mono ?_;rintro e w1 ⟨a1,rfl,LU,nb1,f1⟩);have bP:=zai a1 w1 LU (λx hx=>(nb1 x hx).2);have H1:=ak bP f1;clear bP f1 LU nb1;go_upto_region 3 with (go_at_call 18;refine H1.o0.mono ?_;rintro e w2 ⟨⟨s,hs,rfl⟩,f2⟩);go_wp2_with (first
  | (go_at_call 10;refine (H0.o1 _).mono ?_;rintro e w3 ⟨a3,rfl,rX,M5,f3⟩;have cv3:∀c,(convert 23 9 (.slice a3 2 c)).run Tryz.prog w3 = .ok (.string ⟨#[180,1]⟩) w3:=yK w3 Tryz.underlying23 Tryz.underlying5 Tryz.underlying9 (n:=2) (bs:=[180,1]) rfl rX.cs)
  | (go_at_call 9;refine (H0.l2 _).mono ?_;rintro e w4 ⟨a4,rfl,mA,nb4,f4⟩;have cv4:∀c,(convert 23 9 (.slice a4 2 c)).run Tryz.prog w4 = .ok (.string ⟨#[128,0]⟩) w4:=yK w4 Tryz.underlying23 Tryz.underlying5 Tryz.underlying9 (n:=2) (bs:=[128,0]) rfl mA.cs))
 go_ret;exact⟨by first|rfl|simp,H1.l1.trans (f2.trans (f3.trans f4))⟩
theorem vC.err {w w':World} {x:Nat} {e:Ending} (h:vC w (.error x) e w'):Fr [] w w'/\0<x/\e = .returned (.tuple #[.slice none 0 0,.string ⟨#[]⟩,.int .i64 x]):=by
 obtain⟨f,⟨y,hy,h0,_,he⟩|⟨l,id,a,ms,hp,_⟩⟩:=h
 ·cases hy;exact⟨f,h0,he⟩
 ·cases hp
theorem vC.good {w w':World} {l:List eo} {id:List UInt8} {e:Ending} (h:vC w (.ok (l,id)) e w'):Fr [] w w'/\∃a ms,e = .returned (.tuple #[.slice a l.length l.length,.string (str id),.int .i64 0])/\ms.map (·.1)=l/\lv w' a ms/\(∀y∈ae a,y<w'.heap.size)/\(∀m∈ms,∀y∈ae m.2,y<w'.heap.size):=by
 obtain⟨f,⟨y,hy,_⟩|⟨l',id',a,ms,hp,he,hm,hE,hb,_,hd⟩⟩:=h
 ·cases hy
 ·cases hp;exact⟨f,a,ms,he,hm,hE,λy hy=>(hb y hy).2,λm jA y hy=>(hd m jA y hy).2⟩
theorem qqh (bs:List UInt8):∀(n at_:Nat) (l:List eo) {r:List eo} {p:Nat},jT bs n at_ l = .ok (r,p)->r.length=l.length+n
 | 0,at_,l,r,p,h=>by
  simp only[jT,gA,fj]at h;rw[<-h.1];rfl
 | n+1,at_,l,r,p,h=>by
  rw[jT]at h;split at h
  ·cases h
  ·have:=qqh bs n _ _ h;rw[aK,yR]at this;omega
theorem qwz {bs:List UInt8} {l:List eo} {id:List UInt8} (h:pread bs = .ok (l,id)):l.length<=4096:=by
 unfold pread at h;split at h
 ·cases h
 ·split at h
  ·cases h
  ·split at h
   ·cases h
   ·split at h
    ·cases h
    ·rename_i hn;split at h
     ·cases h
     ·rename_i l2 at_ hp;split at h
      ·cases h
      ·split at h
       ·cases h
       ·split at h
        ·cases h
        ·simp only[gA,fj]at h;rw[<-h.1,qqh bs _ 12 [] hp];simp only[lK];omega
end pk

end Go.Proofs.YtkmpfgpfbmeihaaGreatDoor