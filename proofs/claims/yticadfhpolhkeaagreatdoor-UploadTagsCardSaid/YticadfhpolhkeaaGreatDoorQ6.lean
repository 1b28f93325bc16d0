/-
  Texts of this proof, one behind the other: SortD, SortE, SortF, Concat.
-/
import Derived.Test.YticadfhpolhkeaaGreatDoorQ5
set_option maxHeartbeats 16000000
set_option maxRecDepth 100000
set_option linter.unusedVariables false
set_option linter.unusedSimpArgs false
namespace Go.Proofs.YticadfhpolhkeaaGreatDoor
namespace huf
open Go Go.RowKit lib bm bl
variable {a bs n:Nat} {f f2:Nat->Mc}
def iK (g:Nat) (T:TypeId) (A0:AV) (L cap a m b:Nat) (f:Nat->Mc) (w:World):Prop:=
 Calls Tryz.prog 352 #[.slice (some ⟨g,0,none⟩) L cap,.int .i64 (a:Nat),.int .i64 (m:Nat),.int .i64 (b:Nat),jF] w λe w'=>e = .returned (.tuple #[])/\∃f',Dw w' g T A0 L f'/\Sd f f' a b/\Fr [g] w w'
theorem zgx (g:Nat) (T:TypeId) (A0:AV) (L cap a m b:Nat) (f:Nat->Mc) (w:World)
  (h:Dw w g T A0 L f) (yi:m=a+1) (nk:m<b) (Gt:b<=L) (hL:L<=100000) (ey:Wb f) (hB:jH (sg f m (b-m))):iK g T A0 L cap a m b f w:=by
 have H:=aA h yi nk hB;have e0:(m:Int)-(a:Int)=1:=by omega
 have zE:a<b:=by omega
 clear h hB yi;unfold iK jF;go_enter Tryz.func352,Tryz.ntmps352;go_upto_block 0 with fail;go_wp2;go_loopg [10,11,12] (b-m) (λk s10 s11 s12 wr=>∃i j:Nat,s10 = .int .i64 (i:Nat)/\s11 = .int .i64 (j:Nat)/\j=i+k/\m<=i/\j<=b/\(m<i->(f (i-1)).worth<(f a).worth)/\(j<b->(f a).worth<=(f j).worth)/\Dw wr g T A0 L f/\Fr [g] w wr);case atStart=>exact⟨m,b,rfl,rfl,by omega,ax _,ax _,λh=>absurd h (by omega),λh=>absurd h (by omega),H.o0,.refl _ w⟩
 case round=>
  obtain⟨i,j,rfl,rfl,hk,h1,h2,h3,h4,hD,hf⟩:=hrel;by_cases oe:i<j
  ·obtain⟨s,hs⟩:=ah (i+j);have e1:(i:Int)+(j:Int)=(s:Int):=by omega
   obtain⟨hh,wk⟩:=ah (s/2);have e2:(s:Int)/2=(hh:Int):=by omega
   have M4:hh<L:=by omega
   have I9:s<=200000:=by omega
   have HI:=cU hk h3 h4 hf hs wk;clear hk h3 h4 hf hs wk;have g2:decide ((L:Int)<=(hh:Int))=false:=by simp;omega
   have g4:decide ((L:Int)<=(a:Int))=false:=by simp;omega
   have wN:=λx=>hD.drew.ku (i:=hh) (by omega) x
   have wM:=λx=>hD.drew.ku (i:=a) (by omega) x
   have bb0:=ey (hh);have bb1:=ey (a);obtain⟨p,hp⟩:=ah ((f) (hh));obtain⟨r,hr⟩:=ah ((f) (a));rw[<-hp]at bb0 wN;rw[<-hr]at bb1 wM;have Ep:=λx=>(wN x).1
   have Eo:=λx=>(wN x).2
   have d10:=λx=>(wM x).1
   have d11:=λx=>(wM x).2
   have HP:=aq hp hr hD;clear hp hr hD wN wM;go_upto_region 5 with fail;refine lK 11 [(false,0),(false,1),(false,2),(false,3),(false,4),(false,5),(false,6),(false,7),(false,8),(true,9),(false,10)] [] (by kernel_rfl) (by kernel_rfl) (λ_ _ d _ _ h=>by cases d<;>exact h) ?_;simp only[kQ];refine eD 9 rfl ?_;simp only[cT];repeat (go_big_quiet_step (fail))
   refine wpQuiet_nil ?_;refine jb rfl ?_;intro K hK;go_wp2_with (go_at_call 295;refine (Pz p r wr.drew bb0 bb1).mono ?_;rintro e w1 ⟨rfl,ko⟩);refine hK.out _ _ ko ?_;clear hK K Ep Eo d10 d11;have HC:Hid (Dw w1 g T A0 L (f)/\Fr [] wr w1):=af ⟨HP.out.2.2.drew.fr ko,(Fr.aB [] wr).trans ko⟩;clear ko;clear g2 g4;by_cases tF:p.worth<r.worth
   ·have g5:decide (((p.worth:Int)-(r.worth:Int))<0)=true:=by simp;omega
    refine eD 1 rfl ?_;simp only[cT];repeat (go_big_quiet_step (fail))
    refine wpQuiet_nil ?_;refine j4 ?_;go_wp2;go_roundg (j-(hh+1));case measure=>have:=HI.out.1;have:=HI.out.2.2.2.2;omega
    case rel=>obtain⟨hk,h3,h4,hf,hs,wk⟩:=HI.out;obtain⟨hp,hr,hD⟩:=HP.out;refine⟨hh+1,j,by go_num,rfl,by omega,by omega,h2,λ_=>by rw[Du,<-hp,<-hr];exact tF,h4,HC.o0,hf.trans (HC.l1.mono (by simp))⟩
   ·have g5:decide (((p.worth:Int)-(r.worth:Int))<0)=false:=by simp;omega
    refine eD 1 rfl ?_;simp only[cT];repeat (go_big_quiet_step (fail))
    refine wpQuiet_nil ?_;refine j4 ?_;go_wp2;go_roundg (hh-i);case measure=>have:=HI.out.1;have:=HI.out.2.2.2.2;omega
    case rel=>obtain⟨hk,h3,h4,hf,hs,wk⟩:=HI.out;obtain⟨hp,hr,hD⟩:=HP.out;refine⟨i,hh,rfl,rfl,by omega,h1,by omega,h3,λ_=>by rw[<-hp,<-hr];omega,HC.o0,hf.trans (HC.l1.mono (by simp))⟩
  ·obtain rfl:i=j:=by omega
   have HI:=aA h3 h4 hD hf;clear h3 h4 hD hf hk;obtain⟨q,hq⟩:=ah (i-1);have e1:(i:Int)-1=(q:Int):=by omega
   have yi:m=a+1:=H.o1;have Qo:a<=q:=by omega
   have AL:i=q+1:=by omega
   clear yi;have HQ:=ai hq AL;clear hq AL;go_wp2;go_loopg [13] (q-a) (λk s13 wr=>∃t:Nat,s13 = .int .i64 (t:Nat)/\t+k=q/\a<=t/\Dw wr g T A0 L (bA f a (a+1) (t+1))/\Fr [g] w wr);case atStart=>exact⟨a,rfl,by omega,ax _,by rw[IJ f a (a+1) (a+1) (by omega) (ax _) (.inr rfl)];exact HI.out.2.2.1,HI.out.2.2.2⟩
   case round=>
    obtain⟨t,rfl,cI,dc,hD,hf⟩:=hrel;by_cases ht:t<q
    ·obtain⟨k2,rfl⟩:∃k2,gk=k2+1:=⟨gk-1,by omega⟩;obtain⟨wo,rfl⟩:∃wo:World,wo=wr:=⟨_,rfl⟩;obtain⟨y,hy⟩:=ah (t+1);have e2:(t:Int)+1=(y:Int):=by omega
     have hqL:q<L:=by have:=HQ.out.2;omega
     have tj:t<L:=by omega
     have AE:y<L:=by omega
     have B7:t≠y:=by omega
     have g2:decide ((L:Int)<=(t:Int))=false:=by simp;omega
     have g4:decide ((L:Int)<=(y:Int))=false:=by simp;omega
     have HJ:=aq hf cI hy;clear hf cI hy;obtain⟨A,hA,gg,rQ,gF,mL⟩:=hD;have X:=mL t tj;have Y:=mL y AE;obtain⟨cx,qx⟩:=ah ((bA f a (a+1) (t+1)) t);obtain⟨cy,tT⟩:=ah ((bA f a (a+1) (t+1)) y);rw[<-qx]at X;rw[<-tT]at Y;obtain⟨zQ,zT,zR,zS⟩:=cx;obtain⟨tZ,ud,ua,ub⟩:=cy;have d0:=(cell_of hA (t*2)).trans X.1;have d1:=(cell_of hA (t*2+1)).trans X.2;have d2:=(cell_of hA (y*2)).trans Y.1;have d3:=(cell_of hA (y*2+1)).trans Y.2;simp only at d0 d1 d2 d3;have rk:=eW hA gg rQ gF mL qx tT;clear hA gg rQ gF mL qx tT X Y;go_upto_region 11 with fail;refine PV [(0,0),(0,1),(0,2),(0,3),(0,4),(0,5),(0,6),(0,7),(0,8),(1,9),(0,10),(0,11),(0,12),(1,13),(0,14),(2,15),(0,16),(2,17)] [g] [15,17] (by kernel_rfl) (by kernel_rfl) (λ_ _ d _ _ h=>by cases d<;>exact h) ?_;simp only[jL,qg,BS,BR];refine uj 9 rfl ?_;simp only[cT];repeat (go_big_quiet_step (fail))
     refine wpQuiet_nil ?_;refine Dp 1 rfl ?_;simp only[cT];repeat (go_big_quiet_step (fail))
     refine wpQuiet_nil ?_;refine uj 3 rfl ?_;simp only[cT];repeat (go_big_quiet_step (fail))
     refine wpQuiet_nil ?_;refine Dp 1 rfl ?_;simp only[cT];repeat (go_big_quiet_step (fail))
     refine wpQuiet_nil ?_;refine uj 1 rfl ?_;simp only[cT];repeat (go_big_quiet_step (fail))
     refine wpQuiet_nil ?_;refine Dj rfl ?_;intro K hK;have z0:=aT rk.out.1 (t*2);have z1:=aT rk.out.1 (t*2+1);go_wp2;refine hK.out _ _ (Fr.dF ((((Fr.refl [g] wo).setCell (by simp) _).setCell (by simp) _).drew)) ?_;clear hK K z0 z1;obtain⟨qE,ji⟩:∃qE,qE=((wo.setCell ⟨g,t*2,none⟩ (.int .i64 (tZ:Nat))).setCell ⟨g,t*2+1,none⟩ (.slice ud ua ub)):=⟨_,rfl⟩;rw[<-ji];have iW:=df (o:=t*2+1) (df (o:=t*2) rk.out.1 (.int .i64 tZ)) (.slice ud ua ub);rw[<-ji]at iW;obtain⟨A1,hB⟩:∃A1,A1=(A.setIfInBounds (t*2) (.int .i64 (tZ:Nat))).setIfInBounds (t*2+1) (.slice ud ua ub):=⟨_,rfl⟩;rw[<-hB]at iW;have z0:=aT iW (y*2);have z1:=aT iW (y*2+1);have c2:qE.cell? ⟨g,y*2,none⟩=some (.int .i64 tZ):=by rw[cell_of iW,hB,cV (by omega),cV (by omega),<-cell_of rk.out.1];exact d2
     have c3:qE.cell? ⟨g,y*2+1,none⟩=some (.slice ud ua ub):=by rw[cell_of iW,hB,cV (by omega),cV (by omega),<-cell_of rk.out.1];exact d3
     have Ol:=aq iW hB ji;clear iW hB ji d0 d1 d2 d3;refine uj 1 rfl ?_;simp only[cT];repeat (go_big_quiet_step (fail))
     refine wpQuiet_nil ?_;refine Dj rfl ?_;intro K hK;go_wp2;refine hK.out _ _ (Fr.dF ((((Fr.refl [g] qE).setCell (by simp) _).setCell (by simp) _).drew)) ?_;clear hK K z0 z1 c2 c3;refine Pm ?_;obtain⟨w2,cC⟩:∃w2,w2=((qE.setCell ⟨g,y*2,none⟩ (.int .i64 (zQ:Nat))).setCell ⟨g,y*2+1,none⟩ (.slice zT zR zS)):=⟨_,rfl⟩;rw[<-cC];have HZ:Hid (Dw w2 g T A0 L (swp (bA f a (a+1) (t+1)) y t)/\Fr [g] wo w2):=by obtain⟨hA,gg,rQ,gF,mL,qx,tT⟩:=rk.out;obtain⟨iW,hB,ji⟩:=Ol.out;have lR:=df (o:=y*2+1) (df (o:=y*2) iW (.int .i64 zQ)) (.slice zT zR zS);rw[hB,<-cC]at lR;exact af ⟨Dw.swap _ zQ zT zR zS tZ ud ua ub gg rQ gF mL tj AE qx tT lR,by rw[cC,ji];exact ((((Fr.refl [g] wo).setCell (by simp) _).setCell (by simp) _).setCell (by simp) _).setCell (by simp) _⟩
     clear cC;clear g2 g4;go_wp2;go_roundg k2;case measure=>have:=HJ.out.2.1;omega
     case rel=>obtain⟨hf,cI,hy⟩:=HJ.out;refine⟨y,by go_num,by omega,by omega,?_,hf.trans HZ.l1.drew⟩;have:=HZ.o0;rw[hy,ov,zia f a t dc]at this;rw[hy];exact this.drew
    ·obtain rfl:t=q:=by omega
     have HJ:=ai hD hf;clear hD hf cI;go_wp2;(try simp only[Exit.inBlock,Exit.then]);refine bodyPost_ret (results_none rfl _ _ _) rfl ?_;obtain⟨hq,AL⟩:=HQ.out;refine⟨rfl,_,HJ.out.1,?_,HJ.out.2⟩;rw[<-AL];have yi:m=a+1:=H.o1;exact zg1 f a i b (by omega) h2 (by have:=H.l3;rw[yi]at this;exact this) (λh=>HI.out.1 (by omega)) (λh=>HI.out.2.1 h)
theorem zgw (g:Nat) (T:TypeId) (A0:AV) (L cap a m b:Nat) (f:Nat->Mc) (w:World)
  (h:Dw w g T A0 L f) (yi:a<m) (bg:m≠a+1) (nk:b=m+1) (Gt:b<=L) (hL:L<=100000) (ey:Wb f) (hA:jH (sg f a (m-a))):iK g T A0 L cap a m b f w:=by
 have H:=aA h yi nk hA;have e00:(((m:Int)-(a:Int))==1)=false:=by simp only[beq_eq_false_iff_ne];omega
 have e0:(b:Int)-(m:Int)=1:=by omega
 have zE:a<b:=by omega
 have hmL:m<L:=by omega
 clear h hA nk bg;unfold iK jF;go_enter Tryz.func352,Tryz.ntmps352;go_upto_block 4 with fail;go_wp2;go_loopg [14,15,16] (m-a) (λk s14 s15 s16 wr=>∃i j:Nat,s14 = .int .i64 (i:Nat)/\s15 = .int .i64 (j:Nat)/\j=i+k/\a<=i/\j<=m/\(a<i->(f (i-1)).worth<=(f m).worth)/\(j<m->(f m).worth<(f j).worth)/\Dw wr g T A0 L f/\Fr [g] w wr);case atStart=>exact⟨a,m,rfl,rfl,by omega,ax _,ax _,λh=>absurd h (by omega),λh=>absurd h (by omega),H.o0,.refl _ w⟩
 case round=>
  obtain⟨i,j,rfl,rfl,hk,h1,h2,h3,h4,hD,hf⟩:=hrel;by_cases oe:i<j
  ·obtain⟨s,hs⟩:=ah (i+j);have e1:(i:Int)+(j:Int)=(s:Int):=by omega
   obtain⟨hh,wk⟩:=ah (s/2);have e2:(s:Int)/2=(hh:Int):=by omega
   have M4:hh<L:=by omega
   have I9:s<=200000:=by omega
   have HI:=cU hk h3 h4 hf hs wk;clear hk h3 h4 hf hs wk;have g2:decide ((L:Int)<=(hh:Int))=false:=by simp;omega
   have g4:decide ((L:Int)<=(m:Int))=false:=by simp;omega
   have wN:=λx=>hD.drew.ku (i:=m) (by omega) x
   have wM:=λx=>hD.drew.ku (i:=hh) (by omega) x
   have bb0:=ey (m);have bb1:=ey (hh);obtain⟨p,hp⟩:=ah ((f) (m));obtain⟨r,hr⟩:=ah ((f) (hh));rw[<-hp]at bb0 wN;rw[<-hr]at bb1 wM;have Ep:=λx=>(wN x).1
   have Eo:=λx=>(wN x).2
   have d10:=λx=>(wM x).1
   have d11:=λx=>(wM x).2
   have HP:=aq hp hr hD;clear hp hr hD wN wM;go_upto_region 17 with fail;refine lK 12 [(false,0),(false,1),(false,2),(false,3),(false,4),(false,5),(false,6),(false,7),(false,8),(true,9),(false,10),(false,11)] [] (by kernel_rfl) (by kernel_rfl) (λ_ _ d _ _ h=>by cases d<;>exact h) ?_;simp only[kQ];refine eD 9 rfl ?_;simp only[cT];repeat (go_big_quiet_step (fail))
   refine wpQuiet_nil ?_;refine jb rfl ?_;intro K hK;go_wp2_with (go_at_call 295;refine (Pz p r wr.drew bb0 bb1).mono ?_;rintro e w1 ⟨rfl,ko⟩);refine hK.out _ _ ko ?_;clear hK K Ep Eo d10 d11;have HC:Hid (Dw w1 g T A0 L (f)/\Fr [] wr w1):=af ⟨HP.out.2.2.drew.fr ko,(Fr.aB [] wr).trans ko⟩;clear ko;clear g2 g4;by_cases tF:p.worth<r.worth
   ·have g5:decide (((p.worth:Int)-(r.worth:Int))<0)=true:=by simp;omega
    refine eD 2 rfl ?_;simp only[cT];repeat (go_big_quiet_step (fail))
    refine wpQuiet_nil ?_;refine j4 ?_;go_wp2;go_roundg (hh-i);case measure=>have:=HI.out.1;have:=HI.out.2.2.2.2;omega
    case rel=>obtain⟨hk,h3,h4,hf,hs,wk⟩:=HI.out;obtain⟨hp,hr,hD⟩:=HP.out;refine⟨i,hh,rfl,rfl,by omega,h1,by omega,h3,λ_=>by rw[<-hp,<-hr];exact tF,HC.o0,hf.trans (HC.l1.mono (by simp))⟩
   ·have g5:decide (((p.worth:Int)-(r.worth:Int))<0)=false:=by simp;omega
    refine eD 2 rfl ?_;simp only[cT];repeat (go_big_quiet_step (fail))
    refine wpQuiet_nil ?_;refine j4 ?_;go_wp2;go_roundg (j-(hh+1));case measure=>have:=HI.out.1;have:=HI.out.2.2.2.2;omega
    case rel=>obtain⟨hk,h3,h4,hf,hs,wk⟩:=HI.out;obtain⟨hp,hr,hD⟩:=HP.out;refine⟨hh+1,j,by go_num,rfl,by omega,by omega,h2,λ_=>by rw[Du,<-hp,<-hr];omega,h4,HC.o0,hf.trans (HC.l1.mono (by simp))⟩
  ·obtain rfl:i=j:=by omega
   have HI:=aA h3 h4 hD hf;clear h3 h4 hD hf hk;go_wp2;go_loopg [17] (m-i) (λk s17 wr=>∃t:Nat,s17 = .int .i64 (t:Nat)/\t=i+k/\t<=m/\Dw wr g T A0 L (bA f t m (m+1))/\Fr [g] w wr);case atStart=>exact⟨m,rfl,by omega,ax _,by rw[IJ f m m (m+1) (by omega) (by omega) (.inl rfl)];exact HI.out.2.2.1,HI.out.2.2.2⟩
   case round=>
    obtain⟨t,rfl,cI,DL,hD,hf⟩:=hrel;by_cases ht:i<t
    ·obtain⟨k2,rfl⟩:∃k2,gk=k2+1:=⟨gk-1,by omega⟩;obtain⟨wo,rfl⟩:∃wo:World,wo=wr:=⟨_,rfl⟩;obtain⟨y,hy⟩:=ah (t-1);have e2:(t:Int)-1=(y:Int):=by omega
     have tj:t<L:=by omega
     have AE:y<L:=by omega
     have B7:t≠y:=by omega
     have g2:decide ((L:Int)<=(t:Int))=false:=by simp;omega
     have g4:decide ((L:Int)<=(y:Int))=false:=by simp;omega
     have HJ:=aq hf cI hy;clear hf cI hy;obtain⟨A,hA,gg,rQ,gF,mL⟩:=hD;have X:=mL t tj;have Y:=mL y AE;obtain⟨cx,qx⟩:=ah ((bA f t m (m+1)) t);obtain⟨cy,tT⟩:=ah ((bA f t m (m+1)) y);rw[<-qx]at X;rw[<-tT]at Y;obtain⟨zQ,zT,zR,zS⟩:=cx;obtain⟨tZ,ud,ua,ub⟩:=cy;have d0:=(cell_of hA (t*2)).trans X.1;have d1:=(cell_of hA (t*2+1)).trans X.2;have d2:=(cell_of hA (y*2)).trans Y.1;have d3:=(cell_of hA (y*2+1)).trans Y.2;simp only at d0 d1 d2 d3;have rk:=eW hA gg rQ gF mL qx tT;clear hA gg rQ gF mL qx tT X Y;go_upto_region 23 with fail;refine PV [(0,0),(0,1),(0,2),(0,3),(0,4),(0,5),(0,6),(0,7),(0,8),(1,9),(0,10),(0,11),(0,12),(1,13),(0,14),(2,15),(0,16),(2,17)] [g] [15,17] (by kernel_rfl) (by kernel_rfl) (λ_ _ d _ _ h=>by cases d<;>exact h) ?_;simp only[jL,qg,BS,BR];refine uj 9 rfl ?_;simp only[cT];repeat (go_big_quiet_step (fail))
     refine wpQuiet_nil ?_;refine Dp 1 rfl ?_;simp only[cT];repeat (go_big_quiet_step (fail))
     refine wpQuiet_nil ?_;refine uj 3 rfl ?_;simp only[cT];repeat (go_big_quiet_step (fail))
     refine wpQuiet_nil ?_;refine Dp 1 rfl ?_;simp only[cT];repeat (go_big_quiet_step (fail))
     refine wpQuiet_nil ?_;refine uj 1 rfl ?_;simp only[cT];repeat (go_big_quiet_step (fail))
     refine wpQuiet_nil ?_;refine Dj rfl ?_;intro K hK;have z0:=aT rk.out.1 (t*2);have z1:=aT rk.out.1 (t*2+1);go_wp2;refine hK.out _ _ (Fr.dF ((((Fr.refl [g] wo).setCell (by simp) _).setCell (by simp) _).drew)) ?_;clear hK K z0 z1;obtain⟨qE,ji⟩:∃qE,qE=((wo.setCell ⟨g,t*2,none⟩ (.int .i64 (tZ:Nat))).setCell ⟨g,t*2+1,none⟩ (.slice ud ua ub)):=⟨_,rfl⟩;rw[<-ji];have iW:=df (o:=t*2+1) (df (o:=t*2) rk.out.1 (.int .i64 tZ)) (.slice ud ua ub);rw[<-ji]at iW;obtain⟨A1,hB⟩:∃A1,A1=(A.setIfInBounds (t*2) (.int .i64 (tZ:Nat))).setIfInBounds (t*2+1) (.slice ud ua ub):=⟨_,rfl⟩;rw[<-hB]at iW;have z0:=aT iW (y*2);have z1:=aT iW (y*2+1);have c2:qE.cell? ⟨g,y*2,none⟩=some (.int .i64 tZ):=by rw[cell_of iW,hB,cV (by omega),cV (by omega),<-cell_of rk.out.1];exact d2
     have c3:qE.cell? ⟨g,y*2+1,none⟩=some (.slice ud ua ub):=by rw[cell_of iW,hB,cV (by omega),cV (by omega),<-cell_of rk.out.1];exact d3
     have Ol:=aq iW hB ji;clear iW hB ji d0 d1 d2 d3;refine uj 1 rfl ?_;simp only[cT];repeat (go_big_quiet_step (fail))
     refine wpQuiet_nil ?_;refine Dj rfl ?_;intro K hK;go_wp2;refine hK.out _ _ (Fr.dF ((((Fr.refl [g] qE).setCell (by simp) _).setCell (by simp) _).drew)) ?_;clear hK K z0 z1 c2 c3;refine Pm ?_;obtain⟨w2,cC⟩:∃w2,w2=((qE.setCell ⟨g,y*2,none⟩ (.int .i64 (zQ:Nat))).setCell ⟨g,y*2+1,none⟩ (.slice zT zR zS)):=⟨_,rfl⟩;rw[<-cC];have HZ:Hid (Dw w2 g T A0 L (swp (bA f t m (m+1)) y t)/\Fr [g] wo w2):=by obtain⟨hA,gg,rQ,gF,mL,qx,tT⟩:=rk.out;obtain⟨iW,hB,ji⟩:=Ol.out;have lR:=df (o:=y*2+1) (df (o:=y*2) iW (.int .i64 zQ)) (.slice zT zR zS);rw[hB,<-cC]at lR;exact af ⟨Dw.swap _ zQ zT zR zS tZ ud ua ub gg rQ gF mL tj AE qx tT lR,by rw[cC,ji];exact ((((Fr.refl [g] wo).setCell (by simp) _).setCell (by simp) _).setCell (by simp) _).setCell (by simp) _⟩
     clear cC;clear g2 g4;go_wp2;go_roundg k2;case measure=>have:=HJ.out.2.1;omega
     case rel=>obtain⟨hf,cI,hy⟩:=HJ.out;refine⟨y,by go_num,by omega,by omega,?_,hf.trans HZ.l1.drew⟩;have:=HZ.o0;rw[hy,ov,Zz f m t (by omega) DL]at this;rw[hy];exact this.drew
    ·obtain rfl:t=i:=by omega
     have HJ:=ai hD hf;clear hD hf cI;go_wp2;(try simp only[Exit.inBlock,Exit.then]);refine bodyPost_ret (results_none rfl _ _ _) rfl ?_;refine⟨rfl,_,HJ.out.1,?_,HJ.out.2⟩;have nk:b=m+1:=H.o2;rw[nk];exact SP f a m t h1 DL H.l3 (λh=>HI.out.1 h) (λh=>HI.out.2.1 h)
theorem zc7 (g:Nat) (T:TypeId) (A0:AV) (L cap a m b:Nat) (f:Nat->Mc) (w:World)
  (ih:∀(a' m' b':Nat) (f':Nat->Mc) (w':World),b'-a'<b-a->Dw w' g T A0 L f'->a'<m'->m'<b'->b'<=L->Wb f'->jH (sg f' a' (m'-a'))->jH (sg f' m' (b'-m'))->iK g T A0 L cap a' m' b' f' w')
  (h:Dw w g T A0 L f) (yi:a<m) (bg:m≠a+1) (nk:m<b) (Mu:b≠m+1) (Gt:b<=L) (hL:L<=100000) (ey:Wb f) (hA:jH (sg f a (m-a))) (hB:jH (sg f m (b-m))):iK g T A0 L cap a m b f w:=by
 obtain⟨s,hs⟩:=ah (a+b);obtain⟨mid,FU⟩:=ah (s/2);obtain⟨n,hn⟩:=ah (mid+m);obtain⟨p,hp⟩:=ah (n-1);have e00:(((m:Int)-(a:Int))==1)=false:=by simp only[beq_eq_false_iff_ne];omega
 have e01:(((b:Int)-(m:Int))==1)=false:=by simp only[beq_eq_false_iff_ne];omega
 have e1:(a:Int)+(b:Int)=(s:Int):=by omega
 have e2:(s:Int)/2=(mid:Int):=by omega
 have e3:(mid:Int)+(m:Int)=(n:Int):=by omega
 have e4:(n:Int)-1=(p:Int):=by omega
 have b1:s<=200000:=by omega
 have b2:n<=200000:=by omega
 have b3:p<=200000:=by omega
 have b4:mid<=100000:=by omega
 have H:=aQ h hA hB ey ih;have H0:=pY yi nk Gt hs FU hn hp bg Mu;clear h hA hB ey ih yi nk hs FU hn hp bg Mu;unfold iK jF;go_enter Tryz.func352,Tryz.ntmps352;go_upto_region 27 with fail;clear e00 e01 e1 e2 e3;obtain⟨wo,Fp⟩:∃wo:World,wo=w:=⟨_,rfl⟩;rw[<-Fp];have xp:=af Fp;clear Fp;have fD:∀k:Prop,(m<=mid->k)->(¬m<=mid->k)->k:=λk h1 h2=>by by_cases h:m<=mid;exact h1 h;exact h2 h
 go_cut [140] from 138 to 141 (λs140 wz=>s140 = .bool (decide (mid<m))/\wo=wz)
 case first=>
  by_cases hm:mid<m
  ·have q1:decide ((mid:Int)<(m:Int))=true:=by simp;omega
   go_wp2;go_meet;exact⟨by simp[hm],rfl⟩
  ·have q1:decide ((mid:Int)<(m:Int))=false:=by simp;omega
   go_wp2;go_meet;exact⟨by simp[hm],rfl⟩
 case rest=>
 obtain⟨rfl,rfl⟩:=hcut;go_upto_if 140 with fail;go_cut [20,21] from 141 to 147 (λs20 s21 wz=>∃s0 r0:Nat,s20 = .int .i64 (s0:Nat)/\s21 = .int .i64 (r0:Nat)/\((s0=a\/s0+b=n)/\(r0=mid\/r0=m)/\s0<=r0/\a<=s0/\n<=s0+b/\r0<=m/\r0<=mid)/\wo=wz)
 case first=>
  obtain⟨k1,k2,k3,k4,k5,k6,k7,k8,k9⟩:=H0.out;by_cases hm:mid<m
  ·have q1:decide (mid<m)=true:=by simp;omega
   obtain⟨s0,mf⟩:=ah (n-b);have e5:(n:Int)-(b:Int)=(s0:Int):=by omega
   have HK:=eW k1 k2 k3 k4 k5 k6 mf;clear k1 k2 k3 k4 k5 k6 k7 k8 k9 mf;go_wp2;go_meet;obtain⟨k1,k2,k3,k4,k5,k6,mf⟩:=HK.out;exact⟨s0,mid,rfl,rfl,by omega,rfl⟩
  ·have q1:decide (mid<m)=false:=by simp;omega
   have HK:=cU k1 k2 k3 k4 k5 k6;clear k1 k2 k3 k4 k5 k6 k7 k8 k9;go_wp2;go_meet;obtain⟨k1,k2,k3,k4,k5,k6⟩:=HK.out;exact⟨a,m,rfl,rfl,by omega,rfl⟩
 case rest=>
 obtain⟨s0,r0,rfl,rfl,h0,rfl⟩:=hcut;have H1:=af h0;clear h0 fD;go_wp2;go_loopg [20,21,23] (r0-s0) (λk s20 s21 s23 wr=>∃i j:Nat,s20 = .int .i64 (i:Nat)/\s21 = .int .i64 (j:Nat)/\j=i+k/\s0<=i/\j<=r0/\(s0<i->(f (i-1)).worth<=(f (p-(i-1))).worth)/\(j<r0->(f (p-j)).worth<(f j).worth)/\Dw wr g T A0 L f/\Fr [g] w wr);case atStart=>obtain⟨k1,k2,k3,_⟩:=H1.out;exact⟨s0,r0,rfl,rfl,by omega,ax _,ax _,λh=>absurd h (by omega),λh=>absurd h (by omega),by rw[xp.out];exact H.o0,by rw[xp.out];exact .refl _ w⟩
 case round=>
  obtain⟨i,j,rfl,rfl,hk,h1,h2,h3,h4,hD,hf⟩:=hrel;by_cases oe:i<j
  ·obtain⟨s2,hs⟩:∃s,s=i+j:=⟨_,rfl⟩;obtain⟨hh,wk⟩:=ah (s2/2);obtain⟨pc,Jc⟩:=ah (p-hh);have hb:hh<L/\pc<L/\hh<=p/\s2<=200000:=by obtain⟨k1,k2,k3,k4,k5,k6,k7,k8,k9⟩:=H0.out;obtain⟨l1,l2,l3,l4,l5,l6,l7⟩:=H1.out;omega
   obtain⟨M4,hpL,hhp,I9⟩:=hb;have e1:(i:Int)+(j:Int)=(s2:Int):=by omega
   have e2:(s2:Int)/2=(hh:Int):=by omega
   have e3:(p:Int)-(hh:Int)=(pc:Int):=by omega
   have ey:=H.o3;have HI:=eW hk h3 h4 hf hs wk Jc;clear hk h3 h4 hf hs wk Jc;have g2:decide ((L:Int)<=(hh:Int))=false:=by simp;omega
   have g4:decide ((L:Int)<=(pc:Int))=false:=by simp;omega
   have wN:=λx=>hD.drew.ku (i:=pc) (by omega) x
   have wM:=λx=>hD.drew.ku (i:=hh) (by omega) x
   have bb0:=ey (pc);have bb1:=ey (hh);obtain⟨px,tD⟩:=ah ((f) (pc));obtain⟨r,hr⟩:=ah ((f) (hh));rw[<-tD]at bb0 wN;rw[<-hr]at bb1 wM;have Ep:=λx=>(wN x).1
   have Eo:=λx=>(wN x).2
   have d10:=λx=>(wM x).1
   have d11:=λx=>(wM x).2
   have HP:=aq tD hr hD;clear tD hr hD wN wM;go_upto_region 35 with fail;refine lK 14 [(false,0),(false,1),(false,2),(false,3),(false,4),(false,5),(false,6),(false,7),(false,8),(false,9),(false,10),(true,11),(false,12),(false,13)] [] (by kernel_rfl) (by kernel_rfl) (λ_ _ d _ _ h=>by cases d<;>exact h) ?_;simp only[kQ];refine eD 11 rfl ?_;simp only[cT];repeat (go_big_quiet_step (fail))
   refine wpQuiet_nil ?_;refine jb rfl ?_;intro K hK;go_wp2_with (go_at_call 295;refine (Pz px r wr.drew bb0 bb1).mono ?_;rintro e w1 ⟨rfl,ko⟩);refine hK.out _ _ ko ?_;clear hK K Ep Eo d10 d11;have HC:Hid (Dw w1 g T A0 L (f)/\Fr [] wr w1):=af ⟨HP.out.2.2.drew.fr ko,(Fr.aB [] wr).trans ko⟩;clear ko;clear g2 g4;by_cases tF:px.worth<r.worth
   ·have g5:decide (((px.worth:Int)-(r.worth:Int))<0)=true:=by simp;omega
    refine eD 2 rfl ?_;simp only[cT];repeat (go_big_quiet_step (fail))
    refine wpQuiet_nil ?_;refine j4 ?_;go_wp2;go_roundg (hh-i);case measure=>have:=HI.out.1;have:=HI.out.2.2.2.2;omega
    case rel=>obtain⟨hk,h3,h4,hf,hs,wk,Jc⟩:=HI.out;obtain⟨hp,hr,hD⟩:=HP.out;refine⟨i,hh,rfl,rfl,by omega,h1,by omega,h3,λ_=>by rw[<-Jc,<-hp,<-hr];exact tF,HC.o0,hf.trans (HC.l1.mono (by simp))⟩
   ·have g5:decide (((px.worth:Int)-(r.worth:Int))<0)=false:=by simp;omega
    refine eD 2 rfl ?_;simp only[cT];repeat (go_big_quiet_step (fail))
    refine wpQuiet_nil ?_;refine j4 ?_;go_wp2;go_roundg (j-(hh+1));case measure=>have:=HI.out.1;have:=HI.out.2.2.2.2;omega
    case rel=>obtain⟨hk,h3,h4,hf,hs,wk,Jc⟩:=HI.out;obtain⟨hp,hr,hD⟩:=HP.out;refine⟨hh+1,j,by go_num,rfl,by omega,by omega,h2,λ_=>by rw[Du,<-Jc,<-hp,<-hr];omega,h4,HC.o0,hf.trans (HC.l1.mono (by simp))⟩
  ·obtain rfl:i=j:=by omega
   obtain⟨e,he⟩:=ah (n-i);have hg:a<=i/\i<=m/\m<=e/\e<=b/\i+e=mid+m/\i<=mid/\mid<=e/\p=n-1/\mid=(a+b)/2/\a<mid/\mid<b/\(i<m->m<e->i<r0)/\(a<i->e<b->s0<i):=by obtain⟨k1,k2,k3,k4,k5,k6,k7,k8,k9⟩:=H0.out;obtain⟨l1,l2,l3,l4,l5,l6,l7⟩:=H1.out;omega
   have e1:(n:Int)-(i:Int)=(e:Int):=by omega
   have q1:i<m->m<e->(f (e-1)).worth<(f i).worth:=λx y=>by have:=h4 (hg.2.2.2.2.2.2.2.2.2.2.2.1 x y);rwa [show p-i=e-1 from by omega]at this
   have q2:a<i->e<b->(f (i-1)).worth<=(f e).worth:=λx y=>by have:=h3 (hg.2.2.2.2.2.2.2.2.2.2.2.2 x y);rwa [show p-(i-1)=e from by omega]at this
   have HI:=cU q1 q2 hg hD hf he;have zo:m<=e:=hg.2.2.1;have VF:e<=b:=hg.2.2.2.1;have him:i<=m:=hg.2.1;have hai:a<=i:=hg.1;clear h3 h4 hD hf hk q1 q2 hg he h1 h2 oe;go_upto_region 39 with fail;go_cut [185] from 178 to 186 (λs185 wz=>∃c:Bool,s185 = .bool c/\(c=true↔(i<m/\m<e))/\wr=wz)
   case first=>
    by_cases c1:i<m
    ·by_cases c2:m<e
     ·have q1:decide ((i:Int)<(m:Int))=true:=by simp;omega
      have q2:decide ((m:Int)<(e:Int))=true:=by simp;omega
      go_wp2;go_meet;exact⟨_,rfl,by simp[c1,c2],rfl⟩
     ·have q1:decide ((i:Int)<(m:Int))=true:=by simp;omega
      have q2:decide ((m:Int)<(e:Int))=false:=by simp;omega
      go_wp2;go_meet;exact⟨_,rfl,by simp[c1,c2],rfl⟩
    ·have q1:decide ((i:Int)<(m:Int))=false:=by simp;omega
     go_wp2;go_meet;exact⟨_,rfl,by simp[c1],rfl⟩
   case rest=>
   obtain⟨cb,rfl,ve,rfl⟩:=hcut;have Ae:=af ve;clear ve;go_upto_if 185 with fail;go_cut [] from 185 to 192 (λwz=>Dw wz g T A0 L (bA f i m e)/\Fr [g] w wz)
   case first=>
    cases cb with
    | true=>
     have c:=Ae.out.1 rfl;have hr:=yL g T A0 L cap i m e f (.func (.func 295) #[] #[]) wr HI.out.2.2.2.1 c.1 c.2 (by omega) hL;have HR:=af hr;clear hr c;go_wp2_with (go_at_call 365;refine HR.out.mono ?_;rintro e w2 ⟨rfl,jt,gK⟩);go_meet;exact⟨jt,HI.out.2.2.2.2.1.trans gK⟩
    | false=>
     have c:¬(i<m/\m<e):=λh=>absurd (Ae.out.2 h) (by simp)
     have HX:=af c;clear c;go_wp2;go_meet;refine⟨?_,HI.out.2.2.2.2.1⟩;rw[IJ f i m e him zo (by have:=HX.out;omega)];exact HI.out.2.2.2.1
   case rest=>
   obtain⟨Jy,zH⟩:=hcut;obtain⟨w3,tq⟩:∃w3:World,w3=wc:=⟨_,rfl⟩;rw[<-tq]at Jy zH ⊢;have Ry:=aq Jy zH tq;clear Jy zH tq;have aJ:Hid (Wb (bA f i m e)):=af (H.o3.rot i m e);have sI:Hid (a<i->i<mid->jH (sg (bA f i m e) a (i-a))/\jH (sg (bA f i m e) i (mid-i))):=af λx y=>by
    obtain⟨k1,k2,k3,k4,k5,k6,k7,k8,k9,Fi,Fh,_⟩:=HI.out.2.2.1;refine⟨?_,?_⟩
    ·rw[IQ _ _ _ _ _ _ k2 k3 (.inl (by omega))];exact Dl H.o1 (ax _) (by omega)
    ·have:=K0 f i m e k2 k3;rw[show mid-i=e-m from by omega,this];exact Dl H.o2 (ax _) (by omega)
   have NC:Hid (¬(a<i/\i<mid)->jH (sg (bA f i m e) a (mid-a))):=af λx=>by
    obtain⟨k1,k2,k3,k4,k5,k6,k7,k8,k9,Fi,Fh,_⟩:=HI.out.2.2.1;by_cases hz:i=a
    ·have:=K0 f i m e k2 k3;rw[<-hz,show mid-i=e-m from by omega,this];exact Dl H.o2 (ax _) (by omega)
    ·rw[IJ f i m e k2 k3 (by omega)];exact Dl H.o1 (ax _) (by omega)
   go_upto_region 41 with fail;go_cut [199] from 192 to 200 (λs199 wz=>∃c:Bool,s199 = .bool c/\(c=true↔(a<i/\i<mid))/\w3=wz)
   case first=>
    by_cases c1:a<i
    ·by_cases c2:i<mid
     ·have q1:decide ((a:Int)<(i:Int))=true:=by simp;omega
      have q2:decide ((i:Int)<(mid:Int))=true:=by simp;omega
      go_wp2;go_meet;exact⟨_,rfl,by simp[c1,c2],rfl⟩
     ·have q1:decide ((a:Int)<(i:Int))=true:=by simp;omega
      have q2:decide ((i:Int)<(mid:Int))=false:=by simp;omega
      go_wp2;go_meet;exact⟨_,rfl,by simp[c1,c2],rfl⟩
    ·have q1:decide ((a:Int)<(i:Int))=false:=by simp;omega
     go_wp2;go_meet;exact⟨_,rfl,by simp[c1],rfl⟩
   case rest=>
   obtain⟨cb,rfl,ve,rfl⟩:=hcut;have Ac:=af ve;clear ve;go_upto_if 199 with fail;go_cut [] from 199 to 206 (λwz=>∃f1,Dw wz g T A0 L f1/\Sd (bA f i m e) f1 a mid/\Fr [g] w wz)
   case first=>
    cases cb with
    | true=>
     have c:=Ac.out.1 rfl;have hr:iK g T A0 L cap a i mid (bA f i m e) w3:=by obtain⟨k1,k2,k3,k4,k5,k6,k7,k8,k9,Fi,Fh,_⟩:=HI.out.2.2.1;exact H.l4 a i mid _ w3 (by omega) Ry.o0 c.1 c.2 (by omega) aJ.out (sI.out c.1 c.2).1 (sI.out c.1 c.2).2
     unfold iK jF at hr;have HR:=af hr;clear hr c;go_wp2_with (go_at_call 352;refine HR.out.mono ?_;rintro e w2 ⟨rfl,f1,jt,ep,gK⟩);go_meet;exact⟨f1,jt,ep,Ry.o1.trans gK⟩
    | false=>
     have c:¬(a<i/\i<mid):=λh=>absurd (Ac.out.2 h) (by simp)
     have HX:=af c;clear c;go_wp2;go_meet;exact⟨_,Ry.o0,O3 _ _ _ (NC.out HX.out),Ry.o1⟩
   case rest=>
   obtain⟨f1,V4,vt,rP⟩:=hcut;obtain⟨w4,jO⟩:∃w4:World,w4=wc:=⟨_,rfl⟩;rw[<-jO]at V4 rP ⊢;have Eu:=aA V4 vt rP jO;clear V4 vt rP jO;have NY:Hid (∀c k,mid<=c->sg f1 c k=sg (bA f i m e) c k):=af λc k hc=>yI λt ht=>Eu.o1.out _ (.inr (by omega))
   have zG:Hid (mid<e->e<b->jH (sg f1 mid (e-mid))/\jH (sg f1 e (b-e))):=af λx y=>by
    obtain⟨k1,k2,k3,k4,k5,k6,k7,k8,k9,Fi,Fh,_⟩:=HI.out.2.2.1;rw[NY.out mid _ (ax _),NY.out e _ (by omega)];refine⟨?_,?_⟩
    ·have:=KT f i m e k2 k3;rw[show i+(e-m)=mid from by omega]at this;rw[show e-mid=m-i from by omega,this];exact Dl H.o1 (by omega) (by omega)
    ·rw[IQ _ _ _ _ _ _ k2 k3 (.inr (ax _))];exact Dl H.o2 (by omega) (by omega)
   have Jv:Hid (¬(mid<e/\e<b)->jH (sg f1 mid (b-mid))):=af λx=>by
    obtain⟨k1,k2,k3,k4,k5,k6,k7,k8,k9,Fi,Fh,_⟩:=HI.out.2.2.1;rw[NY.out mid _ (ax _)];by_cases hz:e=b
    ·have:=KT f i m e k2 k3;rw[show i+(e-m)=mid from by omega]at this;rw[show b-mid=m-i from by omega,this];exact Dl H.o1 (by omega) (by omega)
    ·have he:e=mid:=by omega
     rw[IJ f i m e k2 k3 (by omega)];exact Dl H.o2 (by omega) (by omega)
   go_upto_region 43 with fail;go_cut [213] from 206 to 214 (λs213 wz=>∃c:Bool,s213 = .bool c/\(c=true↔(mid<e/\e<b))/\w4=wz)
   case first=>
    by_cases c1:mid<e
    ·by_cases c2:e<b
     ·have q1:decide ((mid:Int)<(e:Int))=true:=by simp;omega
      have q2:decide ((e:Int)<(b:Int))=true:=by simp;omega
      go_wp2;go_meet;exact⟨_,rfl,by simp[c1,c2],rfl⟩
     ·have q1:decide ((mid:Int)<(e:Int))=true:=by simp;omega
      have q2:decide ((e:Int)<(b:Int))=false:=by simp;omega
      go_wp2;go_meet;exact⟨_,rfl,by simp[c1,c2],rfl⟩
    ·have q1:decide ((mid:Int)<(e:Int))=false:=by simp;omega
     go_wp2;go_meet;exact⟨_,rfl,by simp[c1],rfl⟩
   case rest=>
   obtain⟨cb,rfl,ve,rfl⟩:=hcut;have Ab:=af ve;clear ve;go_upto_if 213 with fail;cases cb with
   | true=>
    have c:=Ab.out.1 rfl;have hr:iK g T A0 L cap mid e b f1 w4:=by obtain⟨k1,k2,k3,k4,k5,k6,k7,k8,k9,Fi,Fh,_⟩:=HI.out.2.2.1;exact H.l4 mid e b _ w4 (by omega) Eu.o0 c.1 c.2 (by omega) (aJ.out.sd Eu.o1) (zG.out c.1 c.2).1 (zG.out c.1 c.2).2
    unfold iK jF at hr;have HR:=af hr;clear hr c;go_wp2_with (go_at_call 352;refine HR.out.mono ?_;rintro e2 w2 ⟨rfl,f2,jt,ep,gK⟩);(try simp only[Exit.inBlock,Exit.then]);refine bodyPost_end (results_none rfl _ _ _) rfl ?_;obtain⟨k1,k2,k3,k4,k5,k6,k7,k8,k9,Fi,Fh,_⟩:=HI.out.2.2.1;have h0:=H0.out;exact⟨rfl,f2,jt,Xu f f1 f2 a m b mid i e k9 (by omega) (by omega) (by omega) k1 k2 k3 k4 H.o1 H.o2 HI.out.1 HI.out.2.1 Eu.o1 ep,Eu.o2.trans gK⟩
   | false=>
    have c:¬(mid<e/\e<b):=λh=>absurd (Ab.out.2 h) (by simp)
    have HX:=af c;clear c;go_wp2;(try simp only[Exit.inBlock,Exit.then]);refine bodyPost_end (results_none rfl _ _ _) rfl ?_;obtain⟨k1,k2,k3,k4,k5,k6,k7,k8,k9,Fi,Fh,_⟩:=HI.out.2.2.1;have h0:=H0.out;exact⟨rfl,f1,Eu.o0,Xu f f1 f1 a m b mid i e k9 (by omega) (by omega) (by omega) k1 k2 k3 k4 H.o1 H.o2 HI.out.1 HI.out.2.1 Eu.o1 (O3 _ _ _ (Jv.out HX.out)),Eu.o2⟩
theorem Iv (g:Nat) (T:TypeId) (A0:AV) (L cap:Nat) (hL:L<=100000):∀(n a m b:Nat) (f:Nat->Mc) (w:World),b-a<=n->
  Dw w g T A0 L f->a<m->m<b->b<=L->Wb f->jH (sg f a (m-a))->jH (sg f m (b-m))->iK g T A0 L cap a m b f w:=by
 intro n;induction n with
 | zero=>intro a m b f w hn _ h1 h2;omega
 | succ n ih=>
  intro a m b f w hn hD h1 h2 h3 ey hA hB;by_cases c1:m=a+1
  ·exact zgx g T A0 L cap a m b f w hD c1 h2 h3 hL ey hB
  ·by_cases c2:b=m+1
   ·exact zgw g T A0 L cap a m b f w hD h1 c1 c2 h3 hL ey hA
   ·exact zc7 g T A0 L cap a m b f w (λa' m' b' f' w' bF k1 k2 k3 k4 k5 k6 k7=>ih a' m' b' f' w' (by omega) k1 k2 k3 k4 k5 k6 k7) hD h1 c1 h2 c2 h3 hL ey hA hB
def PB (f:Nat->Mc) (bs a n:Nat):Prop:=∀c,bs∣c->c<a->jH (sg f c (min bs (n-c)))
theorem Ze {c:Nat} (hb:0<bs) (h1:bs∣a) (h2:bs∣c) (h:c<a):c+bs<=a:=by
 obtain⟨x,rfl⟩:=h1;obtain⟨y,rfl⟩:=h2;have:y<x:=Nat.lt_of_mul_lt_mul_left h;calc bs*y+bs=bs*(y+1):=by rw[Nat.mul_succ]
  _<=bs*x:=Nat.mul_le_mul_left _ this
theorem Ke (hb:0<bs) (ha:bs∣a) (h:PB f bs a n) (hs:Sd f f2 a (min (a+bs) n)):PB f2 bs (a+bs) n:=by
 intro c hc bF;rcases Nat.lt_trichotomy c a with k|k|k
 ·have:=Ze hb ha hc k;rw[yI (f:=f2) (f':=f) (a':=c) λt ht=>hs.out _ (.inl (by omega))];exact h c hc k
 ·subst k;have:=hs.srt;rw[show min bs (n-c)=min (c+bs) n-c from by omega];exact this
 ·have:=Ze hb hc ha k;omega
theorem zg8 {b:Nat} (hs:Sd f f2 a b) (h:∀c,bs∣c->a<=c->jH (sg f c (min bs (n-c)))) (zE:a<=b):∀c,bs∣c->b<=c->jH (sg f2 c (min bs (n-c))):=by intro c hc hb;rw[yI (f:=f2) (f':=f) (a':=c) λt ht=>hs.out _ (.inr (by omega))];exact h c hc (by omega)
theorem zik (hb:n<=bs) (h:PB f bs n n):jH (sg f 0 n):=by
 rcases Nat.eq_zero_or_pos n with k|k
 ·subst k;rw[O8];exact List.Pairwise.nil
 ·have:=h 0 (Nat.dvd_zero _) k;rwa [show min bs (n-0)=n from by omega]at this
theorem Sq {a':Nat} (h:PB f bs a n) (haa:a'<=a):PB f bs a' n:=λc hc bF=>h c hc (by omega)
theorem qwu (g:Nat) (T:TypeId) (A0:AV) (L cap:Nat) (f:Nat->Mc) (w:World)
  (h:Dw w g T A0 L f) (hL:L<=100000) (ey:Wb f) :
  Calls Tryz.prog 324 #[.slice (some ⟨g,0,none⟩) L cap,.int .i64 (L:Nat),jF] w λe w'=>e = .returned (.tuple #[])/\∃f',Dw w' g T A0 L f'/\Sd f f' 0 L/\Fr [g] w w':=by
 have H:=ai h ey;clear h ey;unfold jF;go_enter Tryz.func324,Tryz.ntmps324;go_wp2;go_loopg [7,8] L (λk s7 s8 wr=>∃a:Nat,s7 = .int .i64 (a:Nat)/\s8 = .int .i64 ((a+20:Nat):Nat)/\a+k=L/\20∣a/\∃f1,Dw wr g T A0 L f1/\Wb f1/\fF (sg f1 0 L) (sg f 0 L)/\PB f1 20 a L/\(∀t,L<=t->f1 t=f t)/\Fr [g] w wr);case atStart=>exact⟨0,rfl,rfl,by omega,Nat.dvd_zero _,f,H.o0,H.l1,.refl _,λc _ hc=>absurd hc (by omega),λ_ _=>rfl,.refl _ w⟩
 case round=>
  obtain⟨a,rfl,rfl,hk,xG,f1,hD,ey,aW,eI,dt,hf⟩:=hrel;obtain⟨b,hb⟩:=ah (a+20);rw[<-hb];by_cases zE:b<=L
  ·have hi:=qod g T A0 L cap a b f1 wr hD (by omega) zE hL ey;unfold jF at hi;have HI:=pY hi ey aW eI dt hf hk xG hb;clear hi ey aW eI dt hf hk xG hb hD;go_wp2_with (go_at_call 351;refine HI.out.1.mono ?_;rintro e w2 ⟨rfl,f2,jt,ep,gK⟩;have HW:=aq jt ep gK;clear jt ep gK);go_roundg (L-b);case measure=>have:=HI.out.2.2.2.2.2.2;omega
   case rel=>
    obtain⟨_,ey,aW,eI,dt,hf,hk,xG,hb⟩:=HI.out;obtain⟨jt,ep,gK⟩:=HW.out;refine⟨b,rfl,by go_num,by omega,?_,f2,jt,ey.sd ep,(ep.vH (by omega) zE).trans aW,?_,λt ht=>(ep.out t (.inr (by omega))).trans (dt t ht),hf.trans gK⟩
    ·rw[hb];exact Nat.dvd_add xG (Nat.dvd_refl _)
    ·rw[hb];exact Ke (by omega) xG eI (by rw[vP (by omega),<-hb];exact ep)
  ·have hi:=qod g T A0 L cap a L f1 wr hD (by omega) (ax _) hL ey;unfold jF at hi;have HI:=pY hi ey aW eI dt hf hk xG hb;clear hi ey aW eI dt hf hk xG hb hD;go_wp2_with (go_at_call 351;refine HI.out.1.mono ?_;rintro e w2 ⟨rfl,f2,jt,ep,gK⟩;have HW:=aq jt ep gK;clear jt ep gK);have L5:∃f3,Dw w2 g T A0 L f3/\Wb f3/\fF (sg f3 0 L) (sg f 0 L)/\PB f3 20 L L/\(∀t,L<=t->f3 t=f t)/\Fr [g] w w2:=by obtain⟨_,ey,aW,eI,dt,hf,hk,xG,hb⟩:=HI.out;obtain⟨jt,ep,gK⟩:=HW.out;refine⟨f2,jt,ey.sd ep,(ep.vH (by omega) (ax _)).trans aW,Sq (Ke (a:=a) (by omega) xG eI (by rw[Nat.min_eq_right (by omega)];exact ep)) (by omega),λt ht=>(ep.out t (.inr (by omega))).trans (dt t ht),hf.trans gK⟩
   have HS:=af L5;clear L5 HI HW zE;go_loopg [6,7,8,9] (L+40) (λk s6 s7 s8 s9 wr=>∃bs:Nat,s6 = .int .i64 (bs:Nat)/\20<=bs/\bs<=200040/\k=L+60-bs/\∃f1,Dw wr g T A0 L f1/\Wb f1/\fF (sg f1 0 L) (sg f 0 L)/\PB f1 bs L L/\(∀t,L<=t->f1 t=f t)/\Fr [g] w wr);case atStart=>obtain⟨f3,h3⟩:=HS.out;exact⟨20,rfl,ax _,by omega,by omega,f3,h3⟩
   case round=>
    obtain⟨bs,rfl,zbI,tU,hk,f1,hD,ey,aW,eI,dt,hf⟩:=hrel;by_cases bF:bs<L
    ·have HI:=cU hD ey aW eI dt hf;clear hD ey aW eI dt hf;have HK:=af hk;clear hk;obtain⟨b2,mF⟩:=ah (2*bs);have e1:2*(bs:Int)=(b2:Int):=by omega
     have e2:(bs:Int)*2=(b2:Int):=by omega
     have zbH:b2<=200000:=by omega
     have HB:=af mF;clear mF;obtain⟨wo,xp⟩:∃wo:World,wo=wr:=⟨_,rfl⟩;have JG:=af xp;rw[<-xp];clear xp;go_wp2;go_loopg [7,8] L (λk s7 s8 wr=>∃a:Nat,s7 = .int .i64 (a:Nat)/\s8 = .int .i64 ((a+b2:Nat):Nat)/\a+k=L/\b2∣a/\∃f1,Dw wr g T A0 L f1/\Wb f1/\fF (sg f1 0 L) (sg f 0 L)/\PB f1 b2 a L/\(∀c,bs∣c->a<=c->jH (sg f1 c (min bs (L-c))))/\(∀t,L<=t->f1 t=f t)/\Fr [g] w wr);case atStart=>
      obtain⟨hD,ey,aW,eI,dt,hf⟩:=HI.out;rw[JG.out];refine⟨0,rfl,by go_num,by omega,Nat.dvd_zero _,f1,hD,ey,aW,λc _ hc=>absurd hc (by omega),λc hc _=>?_,dt,hf⟩;by_cases hcL:c<L
      ·exact eI c hc hcL
      ·rw[show min bs (L-c)=0 from by omega,O8];exact List.Pairwise.nil
     case round=>
      obtain⟨a,rfl,rfl,hk,wJ,f3,hD,ey,aW,eI,bE,dt,hf⟩:=hrel;obtain⟨b,hb⟩:=ah (a+b2);obtain⟨m,hm⟩:=ah (a+bs);have e3:(a:Int)+(bs:Int)=(m:Int):=by omega
      have haL:a<=L:=by omega
      have nk:m<=400000:=by omega
      have wu:b<=400000:=by omega
      have Bb:bs∣a:=Nat.dvd_trans ⟨2,by have:=HB.out;omega⟩ wJ;rw[<-hb];by_cases zE:b<=L
      ·have hi:=Iv g T A0 L cap hL (b-a) a m b f3 wr (ax _) hD (by omega) (by have:=HB.out;omega) zE ey
        (by have:=bE a Bb (ax _);rwa [show min bs (L-a)=m-a from by have:=HB.out;omega]at this)
        (by have:=bE m (by rw[hm];exact Nat.dvd_add Bb (Nat.dvd_refl _)) (by omega);rwa [show min bs (L-m)=b-m from by have:=HB.out;omega]at this)
       unfold iK jF at hi
       have HJ:=sL hi ey aW eI bE dt hf hk wJ hb hm
       clear hi ey aW eI bE dt hf hk wJ hb hm hD Bb
       go_wp2_with (go_at_call 352;refine HJ.out.1.mono ?_;rintro e w2 ⟨rfl,f2,jt,ep,gK⟩;have HW:=aq jt ep gK;clear jt ep gK)
       go_roundg (L-b)
       case measure=>have:=HJ.out.2.2.2.2.2.2.2;omega
       case rel=>
        obtain⟨_,ey,aW,eI,bE,dt,hf,hk,wJ,hb,hm⟩:=HJ.out
        obtain⟨jt,ep,gK⟩:=HW.out
        refine⟨b,rfl,by go_num,by omega,?_,f2,jt,ey.sd ep,(ep.vH (by omega) zE).trans aW,?_,zg8 ep bE (by omega),λt ht=>(ep.out t (.inr (by omega))).trans (dt t ht),hf.trans gK⟩
        ·rw[hb];exact Nat.dvd_add wJ (Nat.dvd_refl _)
        ·rw[hb];exact Ke (by omega) wJ eI (by rw[vP (by omega),<-hb];exact ep)
      ·by_cases zo:m<L
       ·have hi:=Iv g T A0 L cap hL (L-a) a m L f3 wr (ax _) hD (by omega) zo (ax _) ey
         (by have:=bE a Bb (ax _);rwa [show min bs (L-a)=m-a from by omega]at this)
         (by have:=bE m (by rw[hm];exact Nat.dvd_add Bb (Nat.dvd_refl _)) (by omega);rwa [show min bs (L-m)=L-m from by have:=HB.out;omega]at this)
        unfold iK jF at hi
        have HJ:=sL hi ey aW eI bE dt hf hk wJ hb hm
        clear hi ey aW eI bE dt hf hk wJ hb hm hD Bb
        go_wp2_with (go_at_call 352;refine HJ.out.1.mono ?_;rintro e w2 ⟨rfl,f2,jt,ep,gK⟩;have HW:=aq jt ep gK;clear jt ep gK)
        go_roundg (L+60-b2)
        case measure=>have:=HK.out;have:=HB.out;omega
        case rel=>
         obtain⟨_,ey,aW,eI,bE,dt,hf,hk,wJ,hb,hm⟩:=HJ.out
         obtain⟨jt,ep,gK⟩:=HW.out
         exact⟨b2,rfl,by have:=HB.out;omega,by omega,rfl,f2,jt,ey.sd ep,(ep.vH (by omega) (ax _)).trans aW,Sq (Ke (a:=a) (by have:=HB.out;omega) wJ eI (by rw[Nat.min_eq_right (by omega)];exact ep)) (by omega),λt ht=>(ep.out t (.inr ht)).trans (dt t ht),hf.trans gK⟩
       ·have HJ:=JM ey aW eI bE dt hf hk wJ hb hm hD Bb;clear ey aW eI bE dt hf hk wJ hb hm hD Bb;go_wp2;go_roundg (L+60-b2);case measure=>have:=HK.out;have:=HB.out;omega
        case rel=>obtain⟨ey,aW,eI,bE,dt,hf,hk,wJ,hb,hm,hD,Bb⟩:=HJ.out;refine⟨b2,rfl,by have:=HB.out;omega,by omega,rfl,f3,hD,ey,aW,Sq (Ke (a:=a) (by have:=HB.out;omega) wJ eI (O3 _ _ _ ?_)) (by omega),dt,hf⟩;have:=bE a Bb (ax _);rwa [show min bs (L-a)=min (a+b2) L-a from by omega]at this
    ·have HI:=cU hD ey aW eI dt hf;clear hD ey aW eI dt hf hk;go_wp2;(try simp only[Exit.inBlock,Exit.then]);refine bodyPost_end (results_none rfl _ _ _) rfl ?_;obtain⟨hD,ey,aW,eI,dt,hf⟩:=HI.out;exact⟨rfl,f1,hD,⟨λt ht=>dt t (by omega),zik (by omega) eI,aW⟩,hf⟩
theorem zde (g:Nat) (T:TypeId) (A0:AV) (L cap:Nat) (f:Nat->Mc) (w:World)
  (h:Dw w g T A0 L f) (hL:L<=100000) (ey:Wb f) :
  Calls Tryz.prog 296 #[.slice (some ⟨g,0,none⟩) L cap,jF] w λe w'=>e = .returned (.tuple #[])/\∃f',Dw w' g T A0 L f'/\Sd f f' 0 L/\Fr [g] w w':=by
 have H:=af (qwu g T A0 L cap f w h hL ey);unfold jF at H ⊢;clear h ey;go_enter Tryz.func296,Tryz.ntmps296;go_wp2_with (go_at_call 324;refine H.out.mono ?_;rintro e w2 ⟨rfl,jt⟩);(try simp only[Exit.inBlock,Exit.then]);refine bodyPost_end (results_none rfl _ _ _) rfl ?_;exact⟨rfl,jt⟩
theorem ZU {w:World} {e:TypeId} {size cap:Nat} {A:AV} (hs:A.size=cap*size) (hc:cap<=maxLen):(w.alloc (.cells A e (0,0))).ownsRow 0 e size (.slice (some ⟨w.heap.size,0,none⟩) 0 cap) 0 []:=
 ⟨by simp,.inr ⟨w.heap.size,cap,A,rfl,eE _,aV w _,eE _,hc,hs,by simp⟩⟩
theorem Kq:aw Tryz.prog 423 425 (.agg #[.int .i64 0,.slice none 0 0]) 2 32:=aw.of Tryz.underlying423 (by kernel_rfl) rfl (by decide)
theorem zap:(Tryz.prog.info? 425).map (λi=>(i.zero,i.size,i.bytes))=some (some (.agg #[.int .i64 0,.slice none 0 0]),2,32):=by kernel_rfl
theorem za7 (n:Nat) (w:World) (hn:n<=1000000) :
  Calls Tryz.prog 325 #[.slice none 0 0,.int .i64 (n:Nat)] w λe w'=>∃ao cap,e = .returned (.slice ao 0 cap)/\Made w w' 425 2 ao 0 cap []:=by
 by_cases h0:n=0
 ·subst h0;go_enter Tryz.func325,Tryz.ntmps325;go_wp2;go_ret;exact⟨none,0,rfl,.none w _ _⟩
 ·obtain⟨i,hi,hz,hs,hb⟩:=info_parts zap;have zy:0+n=n:=iN n;have L9:∀ty,(Builtin.append_ #[423,3] ty #[.slice none 0 0,.int .i64 n]).run Tryz.prog w =
    .ok (.slice (some ⟨w.heap.size,0,none⟩) n (grownCap w n 0 425)) (w.drew.alloc (.cells (#[]++Builtin.zeroCells (.agg #[.int .i64 0,.slice none 0 0]:Value).cells n++Builtin.zeroCells (.agg #[.int .i64 0,.slice none 0 0]:Value).cells (grownCap w n 0 425-n)) 425)):=λty=>by
   have h:=Lib.run_append_grow_zeros (P:=Tryz.prog) w 423 3 ty 425 i (.agg #[.int .i64 0,.slice none 0 0]) .i64 .i64 Tryz.underlying423 Tryz.underlying3 hi hz none 0 0 [] (by exact run_firstCells_none (w:=w.drew) i.size 0 0 0) n (by omega) (by rw[hs];decide) (by omega) (by omega)
    (by rw[hb];omega) (by rw[zy,hb];exact growslice_fits (by omega) (by omega))
   rw[zy]at h
   exact h
  have V1:n<=grownCap w n 0 425:=grownCap_ge w _ _ _;have rN:=grownCap_le_maxLen w n 0 425 (by unfold maxLen;omega);obtain⟨G,hG⟩:=ah (grownCap w n 0 425);rw[<-hG]at L9 V1 rN;have hGM:G<=9223372036854775807:=by unfold maxLen at rN;omega
  have HM:=af rN;clear hG zy hi hz hs hb rN;go_enter Tryz.func325,Tryz.ntmps325;go_wp2_with (at_builtin;refine Lib.wpList_append_run _ rfl _ _ _ _ rfl _ _ rfl rfl _ _ (L9 _) ?_);all_goals (go_ret;refine⟨_,_,rfl,?_⟩)
  all_goals exact⟨ZU (w:=w.drew) (by simp only[Array.size_append,size_zeroCells,show (.agg #[.int .i64 0,.slice none 0 0]:Value).cells.size=2 from rfl];simp;omega) HM.out,((Fr.refl [] w).drew).alloc _,by simp[ag],eE _,HM.out,λh=>by cases h⟩
theorem quf (q:Nat) (a1 a2:OA) (n1 n2 c1 c2:Nat) (xs ys:LV) (w:World)
  (hq:w.heap[q]?=some (.cells #[.slice a1 n1 c1,.slice a2 n2 c2] 423 (0,0)))
  (h1:Cs w a1 xs) (h2:Cs w a2 ys) (l1:xs.length=n1*2) (l2:ys.length=n2*2) (k1:n1<=c1) (k2:n2<=c2) (z1:a1=none->c1=0) (z2:a2=none->c2=0)
  (u1:∀u∈xs,u.oneCell'=true) (u2:∀u∈ys,u.oneCell'=true) (b1:n1<=400000) (b2:n2<=400000) :
  Calls Tryz.prog 297 #[.slice (some ⟨q,0,none⟩) 2 2] w λe w'=>∃ao cap,e = .returned (.slice ao (n1+n2) cap)/\Made w w' 425 2 ao (n1+n2) cap (xs++ys):=by
 have d0:=cell_of hq 0;have d1:=cell_of hq 1;simp only[dJ,dk,dU]at d0 d1;have H:=sL hq h1 h2 l1 l2 k1 k2 z1 z2 u1 u2;clear hq h1 h2 l1 l2 k1 k2 z1 z2 u1 u2;obtain⟨s,hs⟩:=ah (n1+n2);rw[<-hs];have e1:(n1:Int)+(n2:Int)=(s:Int):=by omega
 have HS:=af hs;have I9:s<=1000000:=by omega
 clear hs;go_enter Tryz.func297,Tryz.ntmps297;go_wp2;go_loopg [3,5,11] 2 (λk s3 s5 s11 wr=>∃i:Nat,s11 = .int .i64 (i:Nat)/\i+k=2/\(s3 = .int .i64 ((if i=0 then 0 else if i=1 then n1 else s:Nat):Nat))/\w=wr);case atStart=>exact⟨0,rfl,rfl,rfl,rfl⟩
 case round=>
  obtain⟨i,rfl,cQ,rfl,rfl⟩:=hrel;match i,cQ with
  | 0,cQ=>
   simp only[if_true];go_wp2;go_roundg 1;case measure=>omega
   case rel=>exact⟨1,rfl,rfl,by simp,rfl⟩
  | 1,cQ=>
   simp only[Nat.one_ne_zero,if_false,if_true];go_wp2;go_roundg 0;case measure=>omega
   case rel=>exact⟨2,rfl,rfl,by simp,rfl⟩
  | 2,cQ=>
   simp only[show ¬(2=0) from by decide,show ¬(2=1) from by decide,if_false];go_wp2_with (go_at_call 325;refine (za7 s w I9).mono ?_;rintro e w2 ⟨ao,cap,rfl,hm⟩;have HM:=af hm;clear hm);go_loopg [6,8,27] 2 (λk s6 s8 s27 wr=>∃(i:Nat) (ao:OA) (cap n:Nat),s27 = .int .i64 (i:Nat)/\i+k=2/\s6 = .slice ao n cap/\n=(if i=0 then 0 else if i=1 then n1 else n1+n2)/\Made w wr 425 2 ao n cap (if i=0 then [] else if i=1 then xs else xs++ys));case atStart=>exact⟨0,ao,cap,0,rfl,rfl,rfl,rfl,HM.out⟩
   case round=>
    obtain⟨i,ao,cap,n,rfl,cQ,rfl,hn,hm⟩:=hrel;obtain⟨hq,h1,h2,l1,l2,k1,k2,z1,z2,u1,u2⟩:=H.out;have d2:=hm.fr.cell d0 (by simp);have d3:=hm.fr.cell d1 (by simp);have wK:=h1.fr hm.fr (by simp);have uC:=h2.fr hm.fr (by simp);match i,cQ with
    | 0,cQ=>
     simp only[if_true]at hn hm;subst hn;have HK:=cU hm wK l1 k1 z1 u1;clear hm wK uC hq h1 h2 l1 l2 k1 k2 z1 z2 u1 u2 d3;go_wp2_with (refine fq Kq rfl _ _ rfl (.slice ao 0 cap) 0 [] (ag ao) rfl (cY ao 0 cap) HK.out.1.own a1 n1 c1 xs rfl HK.out.2.2.2.1 HK.out.2.2.2.2.1 HK.out.2.1 HK.out.2.2.1 HK.out.2.2.2.2.2 (by omega) (by unfold maxLen;omega) ?_;intro cM dr w3 cS;have HA:=af cS;clear cS);go_roundg 1;case measure=>omega
     case rel=>exact⟨1,cM,dr,n1,rfl,rfl,by simp,by simp,by simpa using HK.out.1.app HA.out⟩
    | 1,cQ=>
     simp only[Nat.one_ne_zero,if_false,if_true]at hn hm;subst hn;have HK:=cU hm uC l2 k2 z2 u2;clear hm wK uC hq h1 h2 l1 l2 k1 k2 z1 z2 u1 u2 d2;go_wp2_with (refine fq Kq rfl _ _ rfl (.slice ao n cap) n xs (ag ao) rfl (cY ao n cap) HK.out.1.own a2 n2 c2 ys rfl HK.out.2.2.2.1 HK.out.2.2.2.2.1 HK.out.2.1 HK.out.2.2.1 HK.out.2.2.2.2.2 (by omega) (by unfold maxLen;omega) ?_;intro cM dr w3 cS;have HA:=af cS;clear cS);go_roundg 0;case measure=>omega
     case rel=>exact⟨2,cM,dr,n+n2,rfl,rfl,rfl,by simp,by simpa using HK.out.1.app HA.out⟩
    | 2,cQ=>
     simp only[show ¬(2=0) from by decide,show ¬(2=1) from by decide,if_false]at hn hm;rw[<-HS.out]at hn;subst hn;have HK:=af hm;clear hm wK uC hq h1 h2 l1 l2 k1 k2 z1 z2 u1 u2 d2 d3;go_wp2;go_ret;exact⟨ao,cap,rfl,by rw[HS.out];have:=HK.out;rwa [HS.out]at this⟩
    | k+3,cQ=>omega
  | k+3,cQ=>omega
theorem ze0 (n:Nat) (w:World) (hn:n<=1000000) :
  Calls Tryz.prog 353 #[.slice none 0 0,.int .i64 (n:Nat)] w λe w'=>∃ao cap,e = .returned (.slice ao 0 cap)/\Made w w' 3 1 ao 0 cap []:=by
 by_cases h0:n=0
 ·subst h0;go_enter Tryz.func353,Tryz.ntmps353;go_wp2;go_ret;exact⟨none,0,rfl,.none w _ _⟩
 ·obtain⟨i,hi,hz,hs,hb⟩:=info_parts SH;have zy:0+n=n:=iN n;have L9:∀ty,(Builtin.append_ #[348,3] ty #[.slice none 0 0,.int .i64 n]).run Tryz.prog w =
    .ok (.slice (some ⟨w.heap.size,0,none⟩) n (grownCap w n 0 3)) (w.drew.alloc (.cells (#[]++Builtin.zeroCells (.int .i64 0:Value).cells n++Builtin.zeroCells (.int .i64 0:Value).cells (grownCap w n 0 3-n)) 3)):=λty=>by
   have h:=Lib.run_append_grow_zeros (P:=Tryz.prog) w 348 3 ty 3 i (.int .i64 0) .i64 .i64 Tryz.underlying348 Tryz.underlying3 hi hz none 0 0 [] (by exact run_firstCells_none (w:=w.drew) i.size 0 0 0) n (by omega) (by rw[hs];decide) (by omega) (by omega)
    (by rw[hb];omega) (by rw[zy,hb];exact growslice_fits (by omega) (by omega))
   rw[zy]at h
   exact h
  have V1:n<=grownCap w n 0 3:=grownCap_ge w _ _ _;have rN:=grownCap_le_maxLen w n 0 3 (by unfold maxLen;omega);obtain⟨G,hG⟩:=ah (grownCap w n 0 3);rw[<-hG]at L9 V1 rN;have hGM:G<=9223372036854775807:=by unfold maxLen at rN;omega
  have HM:=af rN;clear hG zy hi hz hs hb rN;go_enter Tryz.func353,Tryz.ntmps353;go_wp2_with (at_builtin;refine Lib.wpList_append_run _ rfl _ _ _ _ rfl _ _ rfl rfl _ _ (L9 _) ?_);all_goals (go_ret;refine⟨_,_,rfl,?_⟩)
  all_goals exact⟨ZU (w:=w.drew) (by simp only[Array.size_append,size_zeroCells,show (.int .i64 0:Value).cells.size=1 from rfl];simp;omega) HM.out,((Fr.refl [] w).drew).alloc _,by simp[ag],eE _,HM.out,λh=>by cases h⟩
theorem qx5 (q:Nat) (a1 a2:OA) (n1 n2 c1 c2:Nat) (xs ys:LV) (w:World)
  (hq:w.heap[q]?=some (.cells #[.slice a1 n1 c1,.slice a2 n2 c2] 348 (0,0)))
  (h1:Cs w a1 xs) (h2:Cs w a2 ys) (l1:xs.length=n1*1) (l2:ys.length=n2*1) (k1:n1<=c1) (k2:n2<=c2) (z1:a1=none->c1=0) (z2:a2=none->c2=0)
  (u1:∀u∈xs,u.oneCell'=true) (u2:∀u∈ys,u.oneCell'=true) (b1:n1<=400000) (b2:n2<=400000) :
  Calls Tryz.prog 326 #[.slice (some ⟨q,0,none⟩) 2 2] w λe w'=>∃ao cap,e = .returned (.slice ao (n1+n2) cap)/\Made w w' 3 1 ao (n1+n2) cap (xs++ys):=by
 have d0:=cell_of hq 0;have d1:=cell_of hq 1;simp only[dJ,dk,dU]at d0 d1;have H:=sL hq h1 h2 l1 l2 k1 k2 z1 z2 u1 u2;clear hq h1 h2 l1 l2 k1 k2 z1 z2 u1 u2;obtain⟨s,hs⟩:=ah (n1+n2);rw[<-hs];have e1:(n1:Int)+(n2:Int)=(s:Int):=by omega
 have HS:=af hs;have I9:s<=1000000:=by omega
 clear hs;go_enter Tryz.func326,Tryz.ntmps326;go_wp2;go_loopg [3,5,11] 2 (λk s3 s5 s11 wr=>∃i:Nat,s11 = .int .i64 (i:Nat)/\i+k=2/\(s3 = .int .i64 ((if i=0 then 0 else if i=1 then n1 else s:Nat):Nat))/\w=wr);case atStart=>exact⟨0,rfl,rfl,rfl,rfl⟩
 case round=>
  obtain⟨i,rfl,cQ,rfl,rfl⟩:=hrel;match i,cQ with
  | 0,cQ=>
   simp only[if_true];go_wp2;go_roundg 1;case measure=>omega
   case rel=>exact⟨1,rfl,rfl,by simp,rfl⟩
  | 1,cQ=>
   simp only[Nat.one_ne_zero,if_false,if_true];go_wp2;go_roundg 0;case measure=>omega
   case rel=>exact⟨2,rfl,rfl,by simp,rfl⟩
  | 2,cQ=>
   simp only[show ¬(2=0) from by decide,show ¬(2=1) from by decide,if_false];go_wp2_with (go_at_call 353;refine (ze0 s w I9).mono ?_;rintro e w2 ⟨ao,cap,rfl,hm⟩;have HM:=af hm;clear hm);go_loopg [6,8,27] 2 (λk s6 s8 s27 wr=>∃(i:Nat) (ao:OA) (cap n:Nat),s27 = .int .i64 (i:Nat)/\i+k=2/\s6 = .slice ao n cap/\n=(if i=0 then 0 else if i=1 then n1 else n1+n2)/\Made w wr 3 1 ao n cap (if i=0 then [] else if i=1 then xs else xs++ys));case atStart=>exact⟨0,ao,cap,0,rfl,rfl,rfl,rfl,HM.out⟩
   case round=>
    obtain⟨i,ao,cap,n,rfl,cQ,rfl,hn,hm⟩:=hrel;obtain⟨hq,h1,h2,l1,l2,k1,k2,z1,z2,u1,u2⟩:=H.out;have d2:=hm.fr.cell d0 (by simp);have d3:=hm.fr.cell d1 (by simp);have wK:=h1.fr hm.fr (by simp);have uC:=h2.fr hm.fr (by simp);match i,cQ with
    | 0,cQ=>
     simp only[if_true]at hn hm;subst hn;have HK:=cU hm wK l1 k1 z1 u1;clear hm wK uC hq h1 h2 l1 l2 k1 k2 z1 z2 u1 u2 d3;go_wp2_with (refine fq rA rfl _ _ rfl (.slice ao 0 cap) 0 [] (ag ao) rfl (cY ao 0 cap) HK.out.1.own a1 n1 c1 xs rfl HK.out.2.2.2.1 HK.out.2.2.2.2.1 HK.out.2.1 HK.out.2.2.1 HK.out.2.2.2.2.2 (by omega) (by unfold maxLen;omega) ?_;intro cM dr w3 cS;have HA:=af cS;clear cS);go_roundg 1;case measure=>omega
     case rel=>exact⟨1,cM,dr,n1,rfl,rfl,by simp,by simp,by simpa using HK.out.1.app HA.out⟩
    | 1,cQ=>
     simp only[Nat.one_ne_zero,if_false,if_true]at hn hm;subst hn;have HK:=cU hm uC l2 k2 z2 u2;clear hm wK uC hq h1 h2 l1 l2 k1 k2 z1 z2 u1 u2 d2;go_wp2_with (refine fq rA rfl _ _ rfl (.slice ao n cap) n xs (ag ao) rfl (cY ao n cap) HK.out.1.own a2 n2 c2 ys rfl HK.out.2.2.2.1 HK.out.2.2.2.2.1 HK.out.2.1 HK.out.2.2.1 HK.out.2.2.2.2.2 (by omega) (by unfold maxLen;omega) ?_;intro cM dr w3 cS;have HA:=af cS;clear cS);go_roundg 0;case measure=>omega
     case rel=>exact⟨2,cM,dr,n+n2,rfl,rfl,rfl,by simp,by simpa using HK.out.1.app HA.out⟩
    | 2,cQ=>
     simp only[show ¬(2=0) from by decide,show ¬(2=1) from by decide,if_false]at hn hm;rw[<-HS.out]at hn;subst hn;have HK:=af hm;clear hm wK uC hq h1 h2 l1 l2 k1 k2 z1 z2 u1 u2 d2 d3;go_wp2;go_ret;exact⟨ao,cap,rfl,by rw[HS.out];have:=HK.out;rwa [HS.out]at this⟩
    | k+3,cQ=>omega
  | k+3,cQ=>omega
end huf

end Go.Proofs.YticadfhpolhkeaaGreatDoor