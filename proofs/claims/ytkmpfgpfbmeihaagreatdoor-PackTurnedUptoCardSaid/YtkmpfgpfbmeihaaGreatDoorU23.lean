/-
  Texts of this proof, one behind the other: DeltaMake, OTry, MixT.
-/
import Derived.Test.YtkmpfgpfbmeihaaGreatDoorU22
set_option maxHeartbeats 16000000
set_option maxRecDepth 100000
set_option linter.unusedVariables false
set_option linter.unusedSimpArgs false
namespace Go.Proofs.YtkmpfgpfbmeihaaGreatDoor
namespace delta
open Go Go.RowKit lib bm
def ER (base text:List UInt8) (w:World) (e:Ending) (w':World):Prop:=∃d,Made base text d/\aD w d e w'
theorem za5 (a b:Option Addr) (cap iY:Nat) (base text:List UInt8) (m:Int) (w:World) (hb:Rd w a cap base) (ht:Rd w b iY text) (sD:base.length<=1000000) (aY:text.length<=1000000) (hm:w.cell? ⟨0,0,none⟩=some (.int .i64 m)) :
  Calls Tryz.prog 66 #[.slice a base.length cap,.slice b text.length iY] w (ER base text w):=by
 have lf:=@run_makeMap Tryz.prog;obtain⟨BL,j1⟩:=ah base.length;obtain⟨TL,BH⟩:=ah text.length;obtain⟨b1,fx⟩:∃b,b=gJ BL:=⟨_,rfl⟩;obtain⟨b2,jY⟩:∃b,b=gJ TL:=⟨_,rfl⟩;have hN:∀n:Nat,n<=1000000->∀w,Calls Tryz.prog 97 #[.int .i64 (n:Nat)] w (aD w (gJ n)):=λn hn w=>by have:=quy (n:Int) w (by omega);rwa [Cy]at this
 have zn:=hN BL (by omega);have Lu:=hN TL (by omega);rw[<-fx]at zn;rw[<-jY]at Lu;unfold aD at zn Lu;obtain⟨L1,sM⟩:∃L,L=b1.length:=⟨_,rfl⟩;obtain⟨L2,ym⟩:∃L,L=b2.length:=⟨_,rfl⟩;have ku:=Q0 8 BL (by rw[j1];exact Az sD (by decide));have ph:=Q0 8 TL (by rw[BH];exact Az aY (by decide));have Lh:=zaw TL;rw[<-fx,<-sM]at ku;rw[<-jY,<-ym]at ph Lh;rw[<-j1,<-BH];rw[<-j1]at sD;rw[<-BH]at aY;have HB:=aP hb ht hm j1 BH;have HC:=aP zn Lu (And.intro fx jY) sM ym;have cP:BL<=cap/\cap<=maxLen/\TL<=iY/\iY<=maxLen:=by rw[j1,BH];exact⟨hb.le,hb.max,ht.le,ht.max⟩
 unfold maxLen at cP;clear hN zn Lu fx jY sM ym hb ht hm j1 BH;have pE:True:=trivial;go_enter Tryz.func66,Tryz.ntmps66;go_upto_region 2 with (first|(go_at_call 97;have _t:=pE;refine (HC.o0 _).mono ?_;rintro e w1 ⟨a1,rfl,r1,_,f1⟩;rw[<-HC.l1.2.2.1]at r1 ⊢;have H1:=ak r1 f1;clear r1 f1;clear pE _t)|(go_at_call 97;refine (HC.l1.1 _).mono ?_;rintro e w2 ⟨a2,rfl,r2,_,f2⟩;rw[<-HC.l1.2.2.2]at r2 ⊢;have H2:=ak r2 f2;clear r2 f2)|(refine Wo aq rfl _ _ rfl a1 L1 L1 (b1.map bv) rfl (H1.o0.fr H2.l1).cs (by rw[cN,<-HC.l1.2.2.1,qV]) (aw _) H1.o0.nil a2 L2 L2 (b2.map bv) rfl H2.o0.cs (by rw[cN,<-HC.l1.2.2.2,qV]) (by omega) (by omega) (by unfold maxLen;omega) ?_;intro c3 w3 A3;have H3:=af A3;clear A3));obtain⟨q,hq⟩:=ah w3.heap.size;obtain⟨g2,x9⟩:∃g,g=w2.heap.size:=⟨_,rfl⟩;obtain⟨W,hW⟩:∃W,W=w3.alloc (Obj.cells #[Value.slice (some { block:=w2.heap.size,off:=0 }) (L1+L2) c3,Value.slice none 0 0] 168):=⟨_,rfl⟩;have hM:Mk [] w W q (some ⟨g2,0,none⟩) c3 (b1++b2) none 0 []/\Fr [] w W/\(b1++b2).length=L1+L2:=by
  have hle:(b1++b2).length=L1+L2:=by rw[aK,<-HC.l1.2.2.1,<-HC.l1.2.2.2]
  have fw:Fr [] w w3:=(H1.l1.trans H2.l1).trans H3.out.fr;have fW:Fr [] w W:=by rw[hW];exact fw.alloc _
  have o3:=(RF H3.out.own).1;rw[<-gB,<-x9]at o3;have zbL:=o3.lt g2 (by simp[ae]);have cB:=(H1.l1.trans H2.l1).size;have jV:=fw.size;refine⟨⟨?_,?_,dP.nil _ _,?_,by simp[ae],by simp[ae],fW,.inr (by omega),?_,by simp[ae]⟩,fW,hle⟩
  ·rw[hW,hq,hle,x9];exact bx w3 _
  ·rw[hW];exact o3.fr ((Fr.refl [] w3).alloc _) (by simp)
  ·simp[ae];omega
  ·simp[ae];omega
 rw[<-hW,<-hq,<-x9];have HI:=af (show Calls Tryz.prog 98 #[.slice a BL cap,.slice b TL iY] W λe w'=>pA base text e/\Fr [] W w' from by
  have h:=HB.out
  have:=qx2 a b cap iY base text m W (h.1.fr hM.2.1) (h.2.1.fr hM.2.1) (by rw[<-h.2.2.2.1];omega) (hM.2.1.cell h.2.2.1 (by simp))
  rwa [<-h.2.2.2.1,<-h.2.2.2.2]at this)
 have HM:=af hM;clear hM hW hq x9 H1 H2 H3;go_upto_region 3 with (go_at_call 98;refine HI.out.mono ?_;rintro e W1 ⟨hp,fI⟩;have HF:=af fI;unfold pA at hp;clear fI;rcases hp with⟨p,rfl,ho⟩|⟨rfl,mT⟩)
 ·obtain⟨hd,qu⟩:=ah (b1++b2);have hp:=ho.1;have hC:Calls Tryz.prog 99 #[.pointer (some ⟨q,0,none⟩),.int .i64 (p:Nat),.int .i64 (TL:Nat)] W1 λe W'=>e = .returned (.tuple #[])/\∃iT lO GQ GO,Mk [] w W' q iT lO (hd++lits ([]:List UInt8).length []++jK TL p TL) GQ GO []:=by have h:=HB.out;rw[qu];exact quc [] w W1 q p TL _ _ _ _ _ _ (HM.out.1.dF HF.out) (by rw[HM.out.2.2];simp;omega) (by rw[<-h.2.2.2.1,<-h.2.2.2.2]at hp;omega)
  have Zu:=au hC ho qu;clear hC ho hp qu;go_upto_region 5 with (go_at_call 99;refine Zu.o0.mono ?_;rintro e W2 ⟨rfl,oa,oc,wa,wq,mk⟩);obtain⟨out,aR⟩:∃out,out=hd++lits ([]:List UInt8).length []++jK TL p TL:=⟨_,rfl⟩;rw[<-aR]at mk;obtain⟨n,hn⟩:=ah out.length;have c0:=cell_of mk.ae 0;simp only[bw,aV]at c0;obtain⟨o1,o2,o3⟩:=mk.o.shape;rw[cN,<-hn]at o1;rw[<-hn]at c0;have hsl:=λw=>qjr aq n oa oc o1 w
  have HK:=au mk aR hn;clear mk aR hn;go_quiet (fail);go_wp2;go_ret;have h:=HB.out;refine⟨out,?_,(HK.o0.dF (Fr.drewN [] W2 nq)).made (Fr.refl [] w) (by simp) n HK.l1.2⟩;rw[HK.l1.1,Zu.l2,HC.l1.2.1.1,HC.l1.2.1.2,h.2.2.2.1,h.2.2.2.2];exact qu5 (by rw[<-h.2.2.2.1];omega) Zu.o1
 ·obtain⟨bm,SM⟩:=ah W1.heap.size;obtain⟨i0,hi,oq,iZ,lS⟩:=info_parts Mw;have zW:=bJ hi oq iZ lS mT SM;clear hi oq iZ lS mT SM HI;go_upto_block 0 with fail;rw[<-zW.l5];go_cut [8,9] from 49 to 73 (λs8 s9 wz=>∃n D,Gm BL wz bm n D/\n<=BL+16/\Fr [] W1 wz)
  case first=>
   go_wp2;go_loopg [8,9] (BL+16) (λk s8 s9 wr=>∃i n D,s8 = .int .i64 (i:Nat)/\i+k=BL+16/\n<=i/\Gm BL wr bm n D/\Fr [] W1 wr/\bm<wr.heap.size);case atStart=>
    refine⟨0,0,.map [],rfl,by omega,aw _,?_,(Fr.refl [] W1).alloc _,?_⟩
    ·have:=zea BL W1;rwa [<-zW.l5]at this
    ·rw[zW.l5];simp
   case round=>
    obtain⟨i,n,D,rfl,bU,hni,Es,dU,cF⟩:=hrel;obtain⟨wo,rfl⟩:∃wo:World,wo=wr:=⟨_,rfl⟩;have HG:=ak Es dU;clear Es dU;by_cases hi16:i+16<=BL
    ·have hW:Calls Tryz.prog 100 #[.slice (aL a cap i 1) (BL-i) (cap-i)] wo λe w'=>wo=w'/\∃v,e = .returned v/\Qc v:=by have h:=HB.out;have hr:=(h.1.fr ((HM.out.2.1.trans HF.out).trans HG.l1)).drop i (by rw[<-h.2.2.2.1];omega);have:=qs6 _ _ _ wo hr (by rw[eQ,<-h.2.2.2.1];omega);rwa [eQ,<-h.2.2.2.1]at this
     have HW:=af hW;clear hW;go_upto_region 11 with (first|(refine vK aq i rfl _ _ rfl a BL cap _ rfl rfl rfl (by omega) (by omega) ?_)|(go_at_call 100;refine HW.out.mono ?_;rintro e w4 ⟨rfl,v,rfl,x,rfl,hx⟩));have HX:=ak hx (qxu hx);clear hx;have Gd:=zW.o0;have oq:=zW.o1;have iZ:=zW.o2;have lS:=zW.o3;go_wp2_with (first
      | (at_lookup;refine wpList_lookup_groups (H:=Unit) _ rfl _ _ 171 rfl 104 28 3 .i64 qqs Fb (qpt _) (bm+1) bm n D rfl HG.o0.own (by unfold maxLen;omega) (.int .u64 x) (.int .u64 x) rfl HX.out.2 ?_;intro v zs eD dE uJ u6;obtain⟨va,vc,rfl,v1,v2,v3⟩:=Hv dE.1;have HV:=au eD dE u6;clear eD dE u6)
      | (at_builtin;refine wpList_append_own_at _ rfl _ _ 28 rfl (bm+1) 3 i0 (.int .i64 0) 1 8 qzz Gd oq iZ lS rfl (by decide) _ _ _ rfl (HV.o1.1.alloc _) ⟨wo.heap.size,0,none⟩ 1 1 [.int .i64 i] rfl rfl (cell_one_new _ _ _) (ints_oneCell .i64 [(i:Int)]) (by unfold maxLen;omega) (by omega) (by simp;omega) ?_;intro v' w5 pZ Ge tr Ok;have HA:=au pZ Ge Ok;clear pZ Ge tr Ok)
      | (at_mapUpdate;refine wpList_mapUpdate_back _ rfl _ _ _ 171 rfl HV.l2 rfl rfl rfl ((World.grownBy_alloc _ _ _).trans HA.out.2.1) (HV.o1.appended HA.out.1 (WalkArith.wf_i64 (by omega))) (by simp;omega) (HA.out.2.2.imp id (λh=>⟨_,h,by simp⟩)) ?_;intro w6 oy Bm;have HU:=ak oy Bm;clear oy Bm)
      | go_in)
     ·go_roundg (gk-16);case measure=>omega
      case rel=>
       have aE:=(World.grownBy_alloc wo _ _).trans HA.out.2.1;have f5:Fr [] W1 w5:=HG.l1.grown aE λj hj=>by have:=(HV.o1.1.lt j hj).1;have:=zW.l5;right;omega
       have f6:Fr [] W1 w6:=f5.grown HU.l1 λj hj=>by cases hj;right;exact Nat.le_of_eq zW.l5.symm
       have Lb:=aE.size;have hs6:=HU.l1.size;exact⟨i+16,n+1,_,by go_num,by omega,by omega,⟨HU.o0,HG.o0.good.put HV.o0 HV.o1.datum (by omega)⟩,f6,by omega⟩
     ·go_roundg (gk-16);case measure=>omega
      case rel=>exact⟨i+16,n,D,by go_num,by omega,by omega,HG.o0,HG.l1,cF⟩
    ·go_wp2;go_meet;exact⟨n,D,HG.o0,by omega,HG.l1⟩
  case rest=>
  obtain⟨n0,D,Es,qg,dU⟩:=hcut;obtain⟨W2,rfl⟩:∃W2:World,W2=wc:=⟨_,rfl⟩;obtain⟨hd,qu⟩:=ah (b1++b2);obtain⟨S0,C4⟩:=ah ([q,g2]);have lF:Mk S0 W2 W2 q (some ⟨g2,0,none⟩) c3 hd none 0 []:=by rw[C4,qu];exact ((HM.out.1.dF HF.out).dF dU).GY
  have hSb:∀y∈S0,w.heap.size<=y/\y<bm:=by intro y hy;have h:=HM.out.1.dF HF.out;have h1:=lt_of_block h.ae;have h2:=h.o.lt g2 (by simp[ae]);have h3:=h.new;have h4:=h.newO g2 (by simp[ae]);simp at h3 h4;rw[zW.l5];rw[C4]at hy;simp at hy;rcases hy with rfl|rfl<;>omega
  have oD:bm<W2.heap.size:=by obtain⟨es,clock,hb,_⟩:=Es.own;exact lt_of_block hb
  have hlen:hd.length=L1+L2:=by rw[qu];exact HM.out.2.2
  have qm:hd=gJ base.length++gJ text.length:=by rw[qu,HC.l1.2.1.1,HC.l1.2.1.2,HB.out.2.2.2.1,HB.out.2.2.2.2]
  have HG:=aP Es lF hSb (((HM.out.2.1.trans HF.out).trans dU)) qm;have HNO:=af zW.o4;clear Es lF hSb dU qu C4 qm HC HM HF zW lf;go_upto_block 2 with fail;go_cut [10,11,12,13] from 73 to 144 (λs10 s11 s12 s13 wz=>∃oa oc out wa wq wait,Mk S0 W2 wz q oa oc out wa wq wait/\St base text hd out wait text.length)
  case first=>
   go_wp2;go_loopg [10,11,12,13] TL (λk s10 s11 s12 s13 wr=>∃i oa oc out wa wq wait,s10 = .int .i64 (i:Nat)/\Mk S0 W2 wr q oa oc out wa wq wait/\St base text hd out wait i/\i+k=TL);case atStart=>exact⟨0,_,_,hd,_,_,[],rfl,HG.l1.1,qz9 base text hd,by omega⟩
   case round=>
    obtain⟨i,oa,oc,out,wa,wq,wait,rfl,mk,st,bU⟩:=hrel;obtain⟨wo,rfl⟩:∃wo:World,wo=wr:=⟨_,rfl⟩;obtain⟨t1,t2,t3⟩:=st.len;rw[<-HB.out.2.2.2.2]at t1 t3;obtain⟨WL,Ys⟩:=ah wait.length;have HK:=au mk st Ys;rw[<-Ys]at t2;clear mk st Ys;by_cases hiT:i<TL
    ·go_upto_if 81 with fail;have F0:Fr [] w wo:=HG.l1.2.2.1.step HK.o0.fr λy hy=>.inr (HG.l1.2.1 y hy).1
     have Es:Gm BL wo bm n0 D:=HG.o0.kept ((Kept.refl bm W2).fr HK.o0.fr λy hy=>.inl (HG.l1.2.1 y hy).2) (aw _);have HO:=ak F0 Es;clear F0 Es;go_cut [11,12,13] from 81 to 101 (λs11 s12 s13 wz=>∃p k n:Nat,s11 = .int .i64 (p:Nat)/\s12 = .int .i64 (k:Nat)/\s13 = .int .i64 (n:Nat)/\Found base text i WL p k n/\Fr [] wo wz)
     case first=>
      by_cases ni:i+16<=TL
      ·have c1:=cell_of HK.o0.ae 1;simp only[bw,aV,bN]at c1;rw[<-HK.l1.2]at c1;have q1:∀y,(sup [] wo.drew y).cell? ⟨q,1,none⟩=some (.slice wa WL wq):=λy=>(dk [] wo.drew y).cell ((Fr.av [] wo).cell c1 (by simp)) (by simp)
       have hsl:=λw=>lib.KL aq i b TL iY (i:Int) rfl (by omega) (by omega) w
       have hW:∀w,Fr [] wo w->Calls Tryz.prog 100 #[.slice (aL b iY i 1) (TL-i) (iY-i)] w λe w'=>w=w'/\∃v,e = .returned v/\Qc v:=λw5 f=>by have h:=HB.out;have hr:=(h.2.1.fr (HO.o0.trans f)).drop i (by rw[<-h.2.2.2.2];omega);have:=qs6 _ _ _ w5 hr (by rw[eQ,<-h.2.2.2.2];omega);rwa [eQ,<-h.2.2.2.2]at this
       have hF:∀w (pa:Option Addr) (pc:Nat) (ps:List Nat),Fr [] wo w->Cs w pa (ps.map λp=>.int .i64 (p:Nat))->ps.length<=pc->(∀p∈ps,p<=BL)->ps.length<=n0->
         Calls Tryz.prog 101 #[.slice a BL cap,.slice b TL iY,.slice pa ps.length pc,.int .i64 (i:Nat),.int .i64 (WL:Nat)] w λe w'=>∃p k n:Nat,e = .returned (.tuple #[.int .i64 (p:Nat),.int .i64 (k:Nat),.int .i64 (n:Nat)])/\Found base text i WL p k n/\Fr [] w w':=λw5 pa pc ps f hcs hle hp hn=>by
        have h:=HB.out
        have:=zbq a b pa cap iY pc base text ps i WL w5 (h.1.fr (HO.o0.trans f)) (h.2.1.fr (HO.o0.trans f)) hcs hle (by rw[<-h.2.2.2.1];exact hp) (by rw[<-h.2.2.2.2];exact t3) t2 (by rw[<-h.2.2.2.1];omega) (by rw[<-h.2.2.2.2];omega) (by omega)
        rwa [<-h.2.2.2.1,<-h.2.2.2.2]at this
       have Qm:=ak hW hF;clear hW hF c1;go_upto_region 17 with fail;refine jh 22 [(false,0),(false,1),(false,2),(false,3),(false,4),(false,5),(false,8),(false,9),(false,10),(false,11),(false,12),(false,13),(true,6),(true,7),(true,14),(false,15),(false,16),(false,17),(false,18),(false,19),(false,20),(false,21)] [] (by kernel_rfl) (by kernel_rfl) (λ_ _ d _ _ h=>by cases d<;>exact h) ?_;simp only[iw];refine cS 12 rfl ?_;simp only[aU];repeat (go_big_quiet_step (fail))
       refine wpQuiet_nil ?_;clear q1 hsl;refine ep rfl ?_;intro X hX;go_wp2_with (go_at_call 100;refine (Qm.o0 _ (Fr.av [] _)).mono ?_;rintro e w4 ⟨rfl,v,rfl,x,rfl,hx⟩);refine hX.out _ _ (Fr.refl _ _) ?_;clear hX X;have HX:=af hx;clear hx;refine ep rfl ?_;intro X hX;refine quh (HO.l1.kept ((Kept.refl bm wo).fr (Fr.av [] wo) (by simp)) (aw _)) (by unfold maxLen;omega) _ _ rfl rfl x rfl HX.out ?_;intro pa ps pc hcs hle hp hn;have hFD:=Qm.l1 _ pa pc ps (Fr.av [] wo) hcs hle hp hn;have HFD:=af hFD;refine hX.out _ _ (Fr.refl _ _) ?_;clear hX X hcs hp hFD;simp only[Act.put,mC,nC,mB];refine ep rfl ?_;intro X hX;go_wp2_with (go_at_call 101;refine HFD.out.mono ?_;rintro e w5 ⟨p,k,n,rfl,Eu,f5⟩);refine hX.out _ _ f5 ?_;clear hX X;have HR:=ak Eu f5;clear Eu f5;refine cS 7 rfl ?_;simp only[aU];repeat (go_big_quiet_step (fail))
       refine wpQuiet_nil ?_;refine fE ?_;go_wp2;go_meet;exact⟨p,k,n,rfl,rfl,rfl,HR.o0,(Fr.av [] wo).trans HR.l1⟩
      ·go_wp2;go_meet;exact⟨0,0,0,rfl,rfl,rfl,.inl ⟨rfl,rfl,rfl⟩,Fr.refl _ _⟩
     case rest=>
     obtain⟨p,k,n,rfl,rfl,rfl,Eu,fz⟩:=hcut;obtain⟨wp,rfl⟩:∃wp:World,wp=wc:=⟨_,rfl⟩;rcases Eu with⟨rfl,rfl,rfl⟩|⟨wQ,Ei,hkw,ye⟩
     ·obtain⟨g,o,Gp,cb⟩:=HB.out.2.1.at (i:=i) (by rw[<-HB.out.2.2.2.2];exact hiT);have Er:g<w.heap.size:=KC w _ cb;obtain⟨u,hu⟩:∃u,u=text[i]'(by rw[<-HB.out.2.2.2.2];exact hiT):=⟨_,rfl⟩;rw[<-hu]at cb;have az:=HK.l1.1.wait (by rw[<-HB.out.2.2.2.2];exact hiT);rw[<-hu]at az;subst Gp;have zJ:=HK.o0.dF fz;have Y1:Fr [] w wp:=HO.o0.trans fz;obtain⟨S,hS⟩:=ah (ae wa);have Ld:q∉S:=by rw[hS];exact zJ.qx
      have wZ:g∉S:=by
       rw[hS];intro hg;have h2:=HG.l1.2.2.1.size;rcases zJ.newX g hg with k|k
       ·have:=(HG.l1.2.1 g k).1;omega
       ·omega
      have c1:=cell_of zJ.ae 1;simp only[bw,aV,bN]at c1;rw[<-HK.l1.2]at c1;have q1:∀y,(sup S wp.drew y).cell? ⟨q,1,none⟩=some (.slice wa WL wq):=λy=>(dk S wp.drew y).cell ((Fr.av [] wp).cell c1 (by simp)) Ld
      have qb:∀y,(sup S wp.drew y).cell? ⟨g,o+i,none⟩=some (.int .u8 (u.toNat:Nat)):=λy=>(dk S wp.drew y).cell ((Fr.av [] wp).cell (Y1.cell cb (by simp)) (by simp)) wZ
      have HP:=aF zJ Y1 az hS;clear zJ Y1 az hS c1 cb hu;go_upto_region 19 with fail;refine RP 13 [(false,0),(false,1),(false,2),(false,3),(false,4),(false,5),(false,6),(false,7),(false,8),(true,9),(true,10),(false,11),(false,12)] S (by kernel_rfl) (by kernel_rfl) (λ_ _ d _ _ h=>by cases d<;>exact h) ?_;simp only[iw];refine Fj 9 rfl ?_;simp only[aU];repeat (go_big_quiet_step (fail))
      refine wpQuiet_nil ?_;clear q1 qb;refine Dz rfl ?_;intro X hX;go_wp2;refine hX.out _ _ wp.drew (Fr.refl _ _) ((Fr.refl S wp.drew).alloc _) ?_;clear hX X;obtain⟨w4,ft⟩:∃w4,w4=(wp.alloc (.cells #[.int .u8 (u.toNat:Nat)] 5)).drew:=⟨_,rfl⟩;have f4:Fr [] wp w4:=by rw[ft];exact ((Fr.refl [] wp).alloc _).drew
      have jX:w4.heap[wp.heap.size]?=some (.cells #[.int .u8 (u.toNat:Nat)] 5 (0,0)):=by rw[ft];exact (Fr.av [] _).ae (bx wp _) (by simp)
      have kx:Cs w4 (some ⟨wp.heap.size,0,none⟩) (([u]:List UInt8).map bv):=ny _ _ _ _ (by rw[jX];rfl);have PO:Fr S wp.drew w4:=by rw[ft];exact (((Fr.refl S wp).alloc _).drew).aS
      have F4:=ak f4 kx;obtain⟨x1,x2,x3⟩:=HP.out.1.x.shape;rw[cN,<-HK.l1.2]at x1;rw[<-ft];clear ft f4 jX kx;refine Dz rfl ?_;intro X hX;refine RZ aq _ _ rfl wa WL wq (wait.map bv) rfl (HP.out.1.x.fr F4.o0 (by simp)) (by rw[cN];exact HK.l1.2.symm) (some ⟨wp.heap.size,0,none⟩) 1 1 (([u]:List UInt8).map bv) rfl (by decide) (by simp) F4.l1 (by rfl) (jQ _) (by omega) (by unfold maxLen;omega) ?_;intro a5 c5 w5 A5;have Lz:Fr S wp.drew w5:=PO.step A5.fr λy hy=>.inl (by rw[HP.out.2.2.2];exact hy)
      refine hX.out _ _ wp.drew (Fr.refl _ _) Lz ?_;clear hX X;simp only[Act.put,mC,nC,mB];have HA:=af A5;have tE:=Lz.ae ((Fr.av [] wp).ae HP.out.1.ae (by simp)) Ld;have c1:=cell_of tE 1;have z1:=aO tE 1;simp only[bw,aV,bN]at c1;clear tE A5 PO;refine Fj 2 rfl ?_;simp only[aU];repeat (go_big_quiet_step (fail))
      refine wpQuiet_nil ?_;refine Rh ?_;go_wp2;go_roundg (gk-1);case measure=>omega
      case rel=>have A:=HA.out;rw[<-gB]at A;exact⟨i+1,oa,oc,out,a5,c5,wait++[u],by go_num,HP.out.1.Ab F4.o0 (by simpa using A) (by rw[HK.l1.2];rfl),HP.out.2.2.1,by omega⟩
     ·have az:=HK.l1.1.copy (by rw[<-HB.out.2.2.2.1];omega) wQ Ei (by rw[<-HK.l1.2];exact hkw) ye;rw[<-HK.l1.2]at az;have Xv:=Ei.1;have Xu:=Ei.2.1;have zbW:=ye.1;rw[<-HB.out.2.2.2.1]at Xv;rw[<-HB.out.2.2.2.2]at Xu;have zJ:=HK.o0.dF fz;have c1:=cell_of zJ.ae 1;have z1:=aO ((Fr.av [] wp).ae zJ.ae (by simp)) 1;have d1:=(Fr.av [] wp).cell c1 (by simp);simp only[bw,aV,bN]at c1 d1;rw[<-HK.l1.2]at c1 d1;have q1:∀y,(sup [] wp.drew y).cell? ⟨q,1,none⟩=some (.slice wa WL wq):=λy=>(dk [] wp.drew y).cell ((Fr.av [] wp).cell c1 (by simp)) (by simp)
      obtain⟨x1,x2,x3⟩:=zJ.x.shape;rw[cN,<-HK.l1.2]at x1;have hsl:=λw=>lib.FA aq (WL-k) wa WL wq ((WL:Int)-(k:Int)) (by omega) (by omega) w
      have hC:Calls Tryz.prog 99 #[.pointer (some ⟨q,0,none⟩),.int .i64 ((p:Int)-(k:Int)),.int .i64 ((k:Int)+(n:Int))] (wp.drew.setCell ⟨q,1,none⟩ (.slice wa (WL-k) wq)) λe W'=>e = .returned (.tuple #[])/\∃iT lO GQ GO,Mk S0 W2 W' q iT lO (out++lits (wait.take (WL-k)).length (wait.take (WL-k))++jK (k+n) (p-k) (k+n)) GQ GO []:=by
       have y7:(wait.take (WL-k)).length=WL-k:=by rw[eJ,<-HK.l1.2];omega
       have m2:=(zJ.dF (Fr.av [] wp)).EX (wait2:=wait.take (WL-k)) (n:=WL-k) (by rw[E7];exact (zJ.dF (Fr.av [] wp)).x.take (WL-k)) y7 (λy hy=>hy);have:=quc S0 W2 _ q (p-k) (k+n) _ _ _ _ _ _ m2 (by rw[y7];omega) (by omega);rwa [show (((p-k:Nat):Int))=(p:Int)-(k:Int) from by omega,show (((k+n:Nat):Int))=(k:Int)+(n:Int) from by omega]at this
      have HC:=ak hC az;have b1:decide ((n:Int)<16)=false:=by simp;omega
      clear hC az zJ Ei ye c1;go_upto_region 21 with fail;refine jh 15 [(false,0),(false,1),(false,2),(false,3),(false,4),(false,5),(false,6),(false,7),(false,8),(false,9),(false,10),(false,11),(false,12),(false,13),(false,14)] [] (by kernel_rfl) (by kernel_rfl) (λ_ _ d _ _ h=>by cases d<;>exact h) ?_;simp only[iw];refine cS 15 rfl ?_;simp only[aU];repeat (go_big_quiet_step (fail))
      refine wpQuiet_nil ?_;clear q1 hsl;refine fE ?_;go_wp2_with (go_at_call 99;refine HC.o0.mono ?_;rintro e w6 ⟨rfl,zI,DO,wa2,wq2,m6⟩);go_roundg (gk-n);case measure=>omega
      case rel=>exact⟨i+n,zI,DO,_,wa2,wq2,[],by go_num,m6,HC.l1,by omega⟩
    ·go_wp2;go_meet;obtain rfl:i=TL:=by omega
     have h:=HK.l1.1;rw[HB.out.2.2.2.2]at h;exact⟨oa,oc,out,wa,wq,wait,HK.o0,h⟩
  case rest=>
  obtain⟨oa,oc,out,wa,wq,wait,mk,st⟩:=hcut;obtain⟨W3,rfl⟩:∃W3:World,W3=wc:=⟨_,rfl⟩;have t:=st.len;rw[<-HB.out.2.2.2.2]at t;have nN:=qqz S0 W2 W3 q oa wa oc wq out wait mk (by omega);have El:Made base text (out++lits wait.length wait):=by have h:=HG.l1.2.2.2;rw[h]at st;exact qxm HNO.out st
  obtain⟨R,hR⟩:=ah (out++lits wait.length wait);rw[<-hR]at nN El;have HFL:=ak nN El;clear nN El hR mk st t;go_upto_region 25 with (go_at_call 102;refine HFL.o0.mono ?_;rintro e W4 ⟨rfl,oa,oc,wa,wq,mk⟩);obtain⟨n,hn⟩:=ah R.length;have c0:=cell_of mk.ae 0;simp only[bw,aV]at c0;obtain⟨o1,o2,o3⟩:=mk.o.shape;rw[cN,<-hn]at o1;rw[<-hn]at c0;have hsl:=λw=>qjr aq n oa oc o1 w
  have HK:=ak mk hn;clear mk hn;go_quiet (fail);go_wp2;go_ret;exact⟨R,HFL.l1,(HK.o0.dF (Fr.drewN [] W4 nq)).made HG.l1.2.2.1 (λy hy=>(HG.l1.2.1 y hy).1) n HK.l1⟩
end delta
namespace os
open Go Go.RowKit lib bm pk
def oW (w0 w:World) (F G:Nat) (st:Option (Nat×List UInt8)):Prop:=match st with
 | none=>w.heap[F]?=some (.cells #[.nilIface] 98 (0,0))/\w.heap[G]?=some (.cells #[.slice none 0 0] 23 (0,0))
 | some (j,d)=>w.heap[F]?=some (.cells #[.iface 123 (.int .i64 (j:Nat))] 98 (0,0))/\∃da,w.heap[G]?=some (.cells #[.slice da d.length d.length] 23 (0,0))/\lib.Rd w da d.length d/\∀y∈ae da,w0.heap.size<=y/\y<w.heap.size/\y≠F/\y≠G
theorem oW.fr {w0 w w':World} {F G:Nat} {st:Option (Nat×List UInt8)} (h:oW w0 w F G st) (f:Fr [] w w'):oW w0 w' F G st:=by
 match st,h with
 | none,h=>exact⟨f.ae h.1 (by simp),f.ae h.2 (by simp)⟩
 | some (j,d),⟨h1,da,h2,h3,h4⟩=>exact⟨f.ae h1 (by simp),da,f.ae h2 (by simp),h3.fr f,λy hy=>⟨(h4 y hy).1,eT (h4 y hy).2.1 f.size,(h4 y hy).2.2⟩⟩
theorem oW.lt {w0 w:World} {F G:Nat} {st:Option (Nat×List UInt8)} (h:oW w0 w F G st):F<w.heap.size/\G<w.heap.size:=by
 match st,h with
 | none,h=>exact⟨lt_of_block h.1,lt_of_block h.2⟩
 | some (j,d),⟨h1,da,h2,_⟩=>exact⟨lt_of_block h1,lt_of_block h2⟩
def JT (w0 w:World) (F G:Nat) (st:Option (Nat×List UInt8)) (j:Nat) (base text:List UInt8) (e:Ending) (w':World):Prop:=
 e = .returned (.tuple #[])/\Fr [F,G] w w'/\∃LO,oW w0 w' F G LO/\(LO=st\/∃d,LO=some (j,d)/\delta.Made base text d/\d.length<text.length)
set_option maxRecDepth 100000
theorem zfz (X F G j:Nat) (xa:Option Addr) (xc:Nat) (base:List UInt8) (o:pk.Obj) (oa:Option Addr) (oc:Nat) (m:Int) (w0 w:World) (st:Option (Nat×List UInt8)) (hx:w.heap[X]?=some (.cells (dG o oa oc) 34 (0,0))) (hB:oW w0 w F G st)
  (Jv:F≠G) (hb:lib.Rd w xa xc base) (ho:lib.Rd w oa oc o.body) (sD:base.length<=65536) (rJ:o.body.length<=65536) (hm:w.cell? ⟨0,0,none⟩=some (.int .i64 m)) (h0:w0.heap.size<=w.heap.size) :
  Calls Tryz.prog 65 #[.iface 123 (.int .i64 j),.slice xa base.length xc,.pointer (some ⟨X,0,none⟩),.pointer (some ⟨F,0,none⟩),.pointer (some ⟨G,0,none⟩)] w (JT w0 w F G st j base o.body):=by
 have lF:=delta.za5 xa oa xc oc base o.body m w hb ho (by omega) (by omega) hm;have x1:=cell_of hx 1;have e1:(dG o oa oc)[1]?=some (.slice oa o.body.length oc):=rfl;rw[e1]at x1;clear e1;have aY:=hB.lt;obtain⟨bl,bK⟩:=ah o.body.length;obtain⟨xl,kE⟩:=ah base.length;rw[<-bK,<-kE]at lF;rw[<-bK]at x1 rJ;rw[<-kE];have H:=cz hx hB lF bK Jv h0 aY;clear hx lF hb ho sD hm bK kE Jv h0 aY hB;go_enter Tryz.func65,Tryz.ntmps65;go_upto_region 1 with (go_at_call 66;refine H.out.2.2.1.mono ?_;rintro e w2 ⟨d,El,da,rfl,rd,hn,f2⟩;have H2:=aF El rd hn f2;clear El rd hn f2);have x1:=H2.l3.cell x1 (by simp);obtain⟨dl,ic⟩:=ah d.length;rw[<-ic];have tI:=H.out.2.1.fr H2.l3;have HD:=ak ic tI;clear ic;have qt:∀(v0 v1:Value),w2.heap[F]?=some (.cells #[v0] 98 (0,0))->w2.heap[G]?=some (.cells #[v1] 23 (0,0))->dl<bl->JT w0 w F G st j base o.body (.returned (.tuple #[])) ((w2.setCell ⟨F,0,none⟩ (.iface 123 (.int .i64 j))).setCell ⟨G,0,none⟩ (.slice da dl dl)):=λv0 v1 hF hG aY=>by
  have f3:Fr [F] w2 (w2.setCell ⟨F,0,none⟩ (.iface 123 (.int .i64 j))):=(Fr.refl [F] w2).setCell (by simp) _;have ED:(w2.setCell ⟨F,0,none⟩ (.iface 123 (.int .i64 j))).heap[F]?=some (.cells #[.iface 123 (.int .i64 j)] 98 (0,0)):=aX hF _;have EC:=f3.ae hG (by simp;exact jg H.out.2.2.2.2.1);have f4:Fr [G] (w2.setCell ⟨F,0,none⟩ (.iface 123 (.int .i64 j))) ((w2.setCell ⟨F,0,none⟩ (.iface 123 (.int .i64 j))).setCell ⟨G,0,none⟩ (.slice da dl dl)):=(Fr.refl [G] _).setCell (by simp) _;have hG4:((w2.setCell ⟨F,0,none⟩ (.iface 123 (.int .i64 j))).setCell ⟨G,0,none⟩ (.slice da dl dl)).heap[G]?=some (.cells #[.slice da dl dl] 23 (0,0)):=aX EC _;have hF4:=f4.ae ED (by simp;exact H.out.2.2.2.2.1);have fT:=((H2.l3.mono (T:=[F,G]) (by simp)).trans (f3.mono (T:=[F,G]) (λy hy=>.inl (by simp at hy;simp[hy])))).trans (f4.mono (T:=[F,G]) (λy hy=>.inl (by simp at hy;simp[hy])));obtain⟨hFl,hGl⟩:=H.out.2.2.2.2.2.2;have s3:=f3.size;have s4:=f4.size;have h0:=H.out.2.2.2.2.2.1;refine⟨rfl,fT,some (j,d),⟨hF4,da,by rw[<-HD.o0];exact hG4,?_,λy hy=>?_⟩,.inr ⟨d,rfl,H2.o0,by rw[<-HD.o0,<-H.out.2.2.2.1];exact aY⟩⟩
  ·exact (H2.o1.gg f3 (λy hy=>by have:=(H2.o2 y hy).1;simp;omega)).gg f4 (λy hy=>by have:=(H2.o2 y hy).1;simp;omega)
  ·have h1:=H2.o2 y hy;exact⟨by omega,by omega,by omega,by omega⟩
 have HK:=af qt;clear qt;have FQ:JT w0 w F G st j base o.body (.returned (.tuple #[])) w2:=⟨rfl,H2.l3.mono (by simp),st,tI,.inl rfl⟩;have HS:=af FQ;clear FQ;by_cases aY:dl<bl
 ·have g1:decide ((dl:Int)<(bl:Int))=true:=by simp;omega
  have g2:decide ((dl:Int)<=(65536:Int))=true:=by simp;omega
  cases st with
  | none=>
   obtain⟨hF,hG⟩:=tI;have f0:=cell_of hF 0;have q0:=cell_of hG 0;simp only[bw,aV]at q0 f0;have zf:=aO hF 0;have cC:=HK.out _ _ hF hG aY;have EC:=(show Fr [F] w2 (w2.setCell ⟨F,0,none⟩ (.iface 123 (.int .i64 j))) from (Fr.refl [F] w2).setCell (by simp) _).ae hG (by simp;exact jg H.out.2.2.2.2.1);have q3:(w2.setCell ⟨F,0,none⟩ (.iface 123 (.int .i64 j))).cell? ⟨G,0,none⟩=some (.slice none 0 0):=by rw[cell_of EC];rfl
   have zq:=aO EC 0;have HF:=af cC;clear cC hF hG EC;go_wp2;exact bodyPost_end (results_none rfl _ _ _) rfl HF.out
  | some p=>
   obtain⟨i,e⟩:=p;obtain⟨hF,ea,hG,_⟩:=tI;have f0:=cell_of hF 0;have q0:=cell_of hG 0;simp only[bw,aV]at q0 f0;obtain⟨el,Lm⟩:=ah e.length;rw[<-Lm]at q0;by_cases hde:dl<el
   ·have g3:decide ((dl:Int)<(el:Int))=true:=by simp;omega
    have zf:=aO hF 0;have cC:=HK.out _ _ hF hG aY;have EC:=(show Fr [F] w2 (w2.setCell ⟨F,0,none⟩ (.iface 123 (.int .i64 j))) from (Fr.refl [F] w2).setCell (by simp) _).ae hG (by simp;exact jg H.out.2.2.2.2.1);have q3:(w2.setCell ⟨F,0,none⟩ (.iface 123 (.int .i64 j))).cell? ⟨G,0,none⟩=some (.slice ea el el):=by rw[cell_of EC,Lm];rfl
    have zq:=aO EC 0;have HF:=af cC;clear cC hF hG EC Lm;go_wp2;exact bodyPost_end (results_none rfl _ _ _) rfl HF.out
   ·have g3:decide ((dl:Int)<(el:Int))=false:=by simp;omega
    clear hF hG Lm;go_wp2;exact bodyPost_end (results_none rfl _ _ _) rfl HS.out
 ·have g1:decide ((dl:Int)<(bl:Int))=false:=by simp;omega
  have g2:decide (dl<bl)=false:=by simpa using aY
  clear tI aY;go_wp2;exact bodyPost_end (results_none rfl _ _ _) rfl HS.out
end os
namespace lib
open Go
inductive OT (α:Type) where
 | done:OT α
 | one (e:Bool) (x:α) (t:OT α):OT α
 | two (x:α) (t:OT α) (y:α) (u:OT α):OT α
def OT.map {α β:Type} (f:α->β):OT α->OT β
 | .done=>.done
 | .one e x t=>.one e (f x) (t.map f)
 | .two x t y u=>.two (f x) (t.map f) (f y) (u.map f)
def OT.len {α:Type}:OT α->Nat
 | .done=>0
 | .one _ _ t=>t.len+1
 | .two _ t _ _=>t.len+1
section
variable {P : Program} {ops : Array Oper} {Q : Exit -> Act -> World -> Prop} {md : Region.Mode}
def xm (P:Program) (ops:Array Oper) (S:List Nat) (Q:Exit->Act->World->Prop) (o:Oper) (K:Act->World->Prop) (a:Act) (w:World):Prop:=
 if Region.wanted o (yielded ops a.tmps) then o.wp P a w (λa' w'=>Fr S w w'/\K a' w') Q else K (a.put o.dst undef) w
def jC (P:Program) (ops:Array Oper) (S:List Nat) (Q:Exit->Act->World->Prop) (tail:List Oper):OT Oper->Act->World->Prop
 | .done,a,w=>wpList P ops Q tail a w
 | .one false o t,a,w=>if Region.wanted o (yielded ops a.tmps) then o.quiet P a (fC S w) (λa'=>jC P ops S Q tail t a' w) else jC P ops S Q tail t (a.put o.dst undef) w
 | .one true o t,a,w=>xm P ops S Q o (jC P ops S Q tail t) a w
 | .two o t p u,a,w=>xm P ops S Q o (jC P ops S Q tail t) a w/\xm P ops S Q p (jC P ops S Q tail u) a w
def pT (md:Region.Mode) (ops:Array Oper) (n:Nat):OT Nat->Array Bool->Bool
 | .done,listed=>Region.seqB md ops (ops.size-n) n listed
 | .one e i t,listed=>decide (i<n)&&(match e with
   | true=>decide (Region.ready md ops listed=[i])
   | false=>(Region.ready md ops listed).contains i&&Region.free md ops listed i&&(match ops[i]? with|some o=>jB o.op|none=>false))&&pT md ops n t (listed.setIfInBounds i true)
 | .two i t j u,listed=>decide (i<n)&&decide (j<n)&&decide (Region.ready md ops listed=[i,j])&&decide (t.len=u.len)&&pT md ops n t (listed.setIfInBounds i true)&&pT md ops n u (listed.setIfInBounds j true)
theorem Ui {S:List Nat} {n i f:Nat} {oi:Oper} (dz:i<n) (dE:ops[i]?=some oi) {listed:Array Bool} {K:Act->World->Prop} {a:Act} {w:World}
  (hK:∀a' w',K a' w'->mI P md ops Q n (fC S w') f listed a' w') (h:xm P ops S Q oi K a w) :
  wpOp P ops Q i (λa' w'=>(i<n->fC S w w')/\mI P md ops Q n (fC S w) f listed a' w') a w:=by
 unfold wpOp;simp only[dE];unfold xm at h;by_cases hw:Region.wanted oi (yielded ops a.tmps)=true
 ·rw[if_pos hw]at h;rw[if_pos hw];left;exact Oper.wp_mono (λa' w' h'=>⟨λ_=>fC.of h'.1,Rp (fC.sub h'.1) _ _ _ _ (hK a' w' h'.2)⟩) h
 ·rw[if_neg hw]at h;rw[if_neg hw];exact⟨λ_=>fC.of (Fr.refl _ _),hK _ _ h⟩
theorem qlr {n i:Nat} {oi:Oper} {v:Value} {C:World->Prop} {I:Array Bool->Prop} (hI:∀listed j,I listed->j∈Region.ready md ops listed->j<n->I (listed.setIfInBounds j true)) (hi:ops[i]?=some oi) (ck:∀(j:Nat) (o:Oper) cs b,ops[j]?=some o->o.op≠.select cs b)
  (hQ:∀c a d v w,Q (.panic c) (Act.put a d v) w->Q (.panic c) a w) (dz:i<n)
  (hT:∀listed,I listed->listed.getD i true=false->∀t,n<=t->t∉Region.ready md ops listed) :
  ∀(f:Nat) (listed:Array Bool) (a:Act) (w:World),I listed->
   (∀j oj,ops[j]?=some oj->j≠i->listed.getD j true=false->(∀e∈oj.after,Region.binds md e=true->e.on≠i)->oi.apart ops oj=true)->
   i∈Region.ready md ops listed->QY P ops C oi v a->C w->
   mI P md ops Q n C f (listed.setIfInBounds i true) (a.put oi.dst v) w->mI P md ops Q n C (f+1) listed a w:=by
 intro f;induction f with
 | zero=>
  intro listed a w inv _ hr hy hC H;refine⟨λh=>(by rw[h]at hr;cases hr),λj hj=>?_⟩;by_cases ia:j=i
  ·subst ia;exact hy.op hi hC ⟨λ_=>hC,H⟩
  ·have:=ready_mono hj ia;rw[H.1]at this;cases this
 | succ f ih=>
  intro listed a w inv oA hr hy hC H;have nK:=(mem_ready.1 hr).1;refine⟨λh=>(by rw[h]at hr;cases hr),λj hj=>?_⟩;by_cases ia:j=i
  ·subst ia;exact hy.op hi hC ⟨λ_=>hC,H⟩
  ·have CU:j<n:=by
    rcases og j n with h|h
    ·exact h
    ·exact absurd hj (hT listed inv nK j h)
   have h1:=H.2 j (ready_mono hj ia);obtain⟨uW,oj,qd,aE⟩:=mem_ready.1 hj;have Bf:∀e∈oj.after,Region.binds md e=true->e.on≠i:=λe he hb heq=>by have h1:=aE e he hb;rw[heq,getD_both nK]at h1;cases h1
   have h2:=Vh qd (oA j oj qd ia uW Bf) (λcs b=>ck i oi cs b hi) (λcs b=>ck j oj cs b qd) hQ hy h1;have qz:∀k ok,ops[k]?=some ok->k≠i->(listed.setIfInBounds j true).getD k true=false->
     (∀e∈ok.after,Region.binds md e=true->e.on≠i)->oi.apart ops ok=true:=λk ok hk Bk uV mT=>by
    refine oA k ok hk Bk ?_ mT
    by_cases eG:j=k
    ·subst eG;exact uW
    ·rw[getD_set_ne true eG]at uV;exact uV
   refine wpOp_mono (λa' w' h3=>⟨h3.2.1,?_⟩) h2;refine ih (listed.setIfInBounds j true) a' w' (hI _ _ inv hj CU) qz (ready_mono hr (jg ia)) h3.1 (h3.2.1 CU) ?_;rw[Array.setIfInBounds_comm _ _ ia];exact h3.2.2
theorem Kr {n:Nat} {S:List Nat} {I:Array Bool->Prop} (hI:∀listed j,I listed->j∈Region.ready md ops listed->j<n->I (listed.setIfInBounds j true)) {l:List Oper} (hl:ops=l.toArray) (ck:Region.noSelect ops=true) (hQ:∀c a d v w,Q (.panic c) (Act.put a d v) w->Q (.panic c) a w)
  (hT:∀i,i<n->∀listed,I listed->listed.getD i true=false->∀t,n<=t->t∉Region.ready md ops listed) :
  ∀(order:OT Nat) (listed:Array Bool) (a:Act) (w:World),I listed->pT md ops n order listed=true->
   jC P ops S Q (l.drop n) (order.map λx=>l.getD x default) a w->mI P md ops Q n (fC S w) (order.len+(ops.size-n)) listed a w
 | .done,listed,a,w,_,hB,h=>by
  have hlen:(l.drop n).length=ops.size-n:=by rw[hl];simp
  have:=RW (P:=P) (Q:=Q) (md:=md) (ops:=ops) (n:=n) (C:=fC S w) (l.drop n) n listed a w (aw _) (λj=>by rw[hl];simp[CH]) (by rw[hlen];exact hB) h;simpa[hlen,OT.len] using this
 | .one e i t,listed,a,w,inv,hB,h=>by
  simp only[pT,lM,decide_eq_true_eq]at hB;obtain⟨⟨dz,he⟩,aG⟩:=hB;have hlen:(OT.one e i t).len+(ops.size-n)=t.len+(ops.size-n)+1:=by simp[OT.len];omega
  rw[hlen];cases e with
  | false=>
   simp only[lM]at he;obtain⟨⟨hr,hf⟩,hk⟩:=he;have eX:i∈Region.ready md ops listed:=by simpa using hr
   obtain⟨_,oi,dE,_⟩:=mem_ready.1 eX;rw[dE]at hk;have hd:l.getD i default=oi:=by rw[hl]at dE;simp at dE;simp[List.getD,dE]
   simp only[OT.map,hd,jC]at h;have hC:fC S w w:=fC.of (Fr.refl _ _);by_cases hw:Region.wanted oi (yielded ops a.tmps)=true
   ·rw[if_pos hw]at h;obtain⟨v,h1,h2⟩:=h;have hy:QY P ops (fC S w) oi v a:=.inl ⟨hw,λu hu=>MV hk (h1 u hu)⟩;exact qlr hI dE (CF ck) hQ dz (hT i dz) _ listed a w inv (CB dE hf) eX hy hC (Kr hI hl ck hQ hT t _ _ w (hI _ _ inv eX dz) aG h2)
   ·rw[if_neg hw]at h;have hy:QY P ops (fC S w) oi undef a:=.inr ⟨by simpa using hw,rfl⟩;exact qlr hI dE (CF ck) hQ dz (hT i dz) _ listed a w inv (CB dE hf) eX hy hC (Kr hI hl ck hQ hT t _ _ w (hI _ _ inv eX dz) aG h)
  | true=>
   simp only[decide_eq_true_eq]at he;have eX:i∈Region.ready md ops listed:=by rw[he];simp
   obtain⟨_,oi,dE,_⟩:=mem_ready.1 eX;have hd:l.getD i default=oi:=by rw[hl]at dE;simp at dE;simp[List.getD,dE]
   simp only[OT.map,hd,jC]at h;refine⟨λh0=>(by rw[h0]at eX;cases eX),λj hj=>?_⟩;rw[he]at hj;have ia:j=i:=by simpa using hj
   subst ia;exact Ui dz dE (λa' w' h'=>Kr hI hl ck hQ hT t _ a' w' (hI _ _ inv eX dz) aG h') h
 | .two i t j u,listed,a,w,inv,hB,h=>by
  simp only[pT,lM,decide_eq_true_eq]at hB;obtain⟨⟨⟨⟨⟨dz,CU⟩,he⟩,htu⟩,ht⟩,hu⟩:=hB;have hlen:(OT.two i t j u).len+(ops.size-n)=t.len+(ops.size-n)+1:=by simp[OT.len];omega
  rw[hlen];have eY:i∈Region.ready md ops listed:=by rw[he];simp
  have CQ:j∈Region.ready md ops listed:=by rw[he];simp
  obtain⟨_,oi,dE,_⟩:=mem_ready.1 eY;obtain⟨_,oj,qd,_⟩:=mem_ready.1 CQ;have Bu:l.getD i default=oi:=by rw[hl]at dE;simp at dE;simp[List.getD,dE]
  have hdj:l.getD j default=oj:=by rw[hl]at qd;simp at qd;simp[List.getD,qd]
  simp only[OT.map,Bu,hdj,jC]at h;refine⟨λh0=>(by rw[h0]at eY;cases eY),λk hk=>?_⟩;rw[he]at hk;rcases gw.1 hk with hk|hk
  ·subst hk;exact Ui dz dE (λa' w' h'=>Kr hI hl ck hQ hT t _ a' w' (hI _ _ inv eY dz) ht h') h.1
  ·have hk:k=j:=by simpa using hk
   subst hk;rw[htu];exact Ui CU qd (λa' w' h'=>Kr hI hl ck hQ hT u _ a' w' (hI _ _ inv CQ CU) hu h') h.2
def EZ (md:Region.Mode) (ops:Array Oper) (n p:Nat):Bool:=
 (List.range n).all λi=>i==p||(List.range (n+1)).any λj=>decide (i<j)&&Region.waitsFor md ops j i
theorem qrq {n p:Nat} {listed:Array Bool} (hs:EZ md ops n p=true) (hc:Region.chainB md ops n=true) (inv:HeadInv md ops n listed) (hp:listed.getD p true=true) :
  ∀(d i:Nat),n-i=d->i<n->listed.getD i true=false->∀t,n<=t->t∉Region.ready md ops listed:=by
 intro d;induction d using Nat.strongRecOn with
 | _ d ih=>
  intro i hd hi nK t ht hr;obtain⟨_,ot,Xl,aE⟩:=mem_ready.1 hr;have WO:t<ops.size:=(FE.1 Xl).1;rcases og n t with Sl|Sl
  ·have h1:=Kk.1 hc t (xD.2 WO);simp only[Bool.or_eq_true,decide_eq_true_eq]at h1;rcases h1 with h1|h1
   ·omega
   ·obtain⟨oj,qd,e,he,hb,Sw⟩:=Region.waitsFor_spec h1;rw[Xl]at qd;cases qd;have h2:=aE e he hb;rw[Sw]at h2;have h3:=inv.tail (t-1) (by omega) (by omega);rw[getD_both h3]at h2;cases h2
  ·obtain rfl:t=n:=by omega
   have h1:=Kk.1 hs i (xD.2 hi);simp only[Bool.or_eq_true,beq_iff_eq]at h1;rcases h1 with rfl|h1
   ·rw[hp]at nK;cases nK
   ·obtain⟨j,hj,CV⟩:=List.any_eq_true.1 h1;simp only[lM,decide_eq_true_eq]at CV;obtain⟨oj,qd,e,he,hb,Sw⟩:=Region.waitsFor_spec CV.2;have zbO:j<=t:=by have:=xD.1 hj;omega
    rcases og j t with I4|I4
    ·have hju:listed.getD j true=false:=by
      cases kT:listed.getD j true with
      | false=>rfl
      | true=>
       have hjs:j<listed.size:=by rw[inv.size];omega
       have hjf:listed.getD j false=true:=by simp[hjs]at kT ⊢;exact kT
       have h2:=inv.closed j oj qd hjf e he hb;rw[Sw,getD_both nK]at h2;cases h2
     exact ih (t-j) (by omega) j rfl I4 hju t (aw _) hr
    ·obtain rfl:j=t:=by omega
     rw[Xl]at qd;cases qd;have h2:=aE e he hb;rw[Sw,getD_both nK]at h2;cases h2
def xI (md:Region.Mode) (ops:Array Oper) (n p:Nat) (order:OT Nat):Bool:=
 Region.noSelect ops&&decide (n<ops.size)&&decide (p<n)&&EZ md ops n p&&Region.chainB md ops n&&Region.free md ops (Array.replicate ops.size false) p&&(Region.ready md ops (Array.replicate ops.size false)).contains p&&decide (order.len+(ops.size-n)+1=ops.size)&&pT md ops n order ((Array.replicate ops.size false).setIfInBounds p true)
theorem qmh {id:Nat} {a:Act} {w:World} {l:List Oper} (n p:Nat) (v:Value) (order:OT Nat) (S:List Nat) (hm:P.follows .mixedOrders=true) (hB:xI .any l.toArray n p order=true)
  (hQ:∀c a d v w,Q (.panic c) (Act.put a d v) w->Q (.panic c) a w) (hy:Yields P l.toArray (l.getD p default) v a)
  (h:jC P l.toArray S Q (l.drop n) (order.map λx=>l.getD x default) (a.put (l.getD p default).dst v) w.drew):(Code.region id l.toArray true).wp P Q a w:=by
 simp only[xI,lM,decide_eq_true_eq]at hB;obtain⟨⟨⟨⟨⟨⟨⟨⟨ck,hn⟩,Sr⟩,hs⟩,hc⟩,hf⟩,hr⟩,hlen⟩,wS⟩:=hB;have fN:p<l.length:=by simp at hn;omega
 have tW:l.toArray[p]?=some (l.getD p default):=by simp[List.getD,fN]
 have AR:HeadInv .any l.toArray n (Array.replicate l.toArray.size false):=
  ⟨by simp,λj oj _ hl=>(by rw[getD_replicate_false]at hl;cases hl),λt _ ht=>getD_in (by simpa using ht) (getD_replicate_false _ _)⟩
 have inv1:=AR.set (by simpa using hr) Sr;refine wp_region_any hm ?_;have cF:l.toArray.size=order.len+(l.toArray.size-n)+1:=hlen.symm;rw[cF];refine wpAny_take (v:=v) tW ck (by rw[<-cF];exact hf) (by rw[<-cF];exact hr) (λc a' w' h'=>hQ _ _ _ _ _ h') hy ?_;rw[<-cF];refine RV (n:=n) (C:=fC S w.drew) _ _ _ _ ?_;exact Kr (P:=P) (Q:=Q) (md:=.any) (n:=n) (S:=S) (I:=λx=>HeadInv .any l.toArray n x/\x.getD p true=true) (λx j h1 h2 h3=>⟨h1.1.set h2 h3,by
   by_cases hjp:j=p
   ·subst hjp
    have:=inv1.size
    have hj:j<x.size:=by rw[h1.1.size];simpa using fN
    simp[hj]
   ·rw[getD_set_ne true hjp];exact h1.2⟩) rfl ck hQ (λi hi x hx nK t ht=>qrq hs hc hx.1 hx.2 _ i rfl hi nK t ht) order _ _ w.drew ⟨inv1,by simp[fN]⟩ wS h
def OT.pH {α:Type}:Nat->OT α->List α
 | 0,_=>[]
 | k+1,.one false x t=>x::t.pH k
 | _+1,_=>[]
def OT.behind {α:Type}:Nat->OT α->OT α
 | 0,t=>t
 | k+1,.one false _ t=>t.behind k
 | _+1,t=>t
theorem qtv {S:List Nat} {tail:List Oper} (k:Nat) {t:OT Oper} {a:Act} {w:World}
  (h:wpQuiet P ops (fC S w) (λa'=>jC P ops S Q tail (t.behind k) a' w) (t.pH k) a):jC P ops S Q tail t a w:=by
 induction k generalizing t a with
 | zero=>exact h
 | succ k ih=>
  cases t with
  | done=>exact h
  | two _ _ _ _=>exact h
  | one e o t=>
   cases e with
   | true=>exact h
   | false=>
    simp only[OT.pH,OT.behind,wpQuiet]at h;unfold jC;by_cases hw:Region.wanted o (yielded ops a.tmps)=true
    ·rw[if_pos hw]at h ⊢;obtain⟨v,h1,h2⟩:=h;exact⟨v,h1,ih h2⟩
    ·rw[if_neg hw]at h ⊢;exact ih h
theorem UH {S:List Nat} {o:Oper} {a:Act} {w:World} {K:Act->World->Prop} (hw:Region.wanted o (yielded ops a.tmps)=true)
  (h:∀K':Act->World->Prop,Go.RowKit.Hid (∀a' w',Fr S w w'->K a' w'->K' a' w')->o.wp P a w K' Q):xm P ops S Q o K a w:=by
 unfold xm;rw[if_pos hw];exact h _ λ_ _ h1 h2=>⟨h1,h2⟩
theorem Fk {S:List Nat} {tail:List Oper} {t:OT Oper} {o:Oper} {a:Act} {w:World} (hw:Region.wanted o (yielded ops a.tmps)=true)
  (h:∀K:Act->World->Prop,Go.RowKit.Hid (∀a' w',Fr S w w'->jC P ops S Q tail t a' w'->K a' w')->o.wp P a w K Q):jC P ops S Q tail (.one true o t) a w:=
 UH hw h
theorem qtu {S:List Nat} {tail:List Oper} {t u:OT Oper} {o p:Oper} {a:Act} {w:World} (ho:Region.wanted o (yielded ops a.tmps)=true) (hp:Region.wanted p (yielded ops a.tmps)=true)
  (h1:∀K:Act->World->Prop,Go.RowKit.Hid (∀a' w',Fr S w w'->jC P ops S Q tail t a' w'->K a' w')->o.wp P a w K Q)
  (h2:∀K:Act->World->Prop,Go.RowKit.Hid (∀a' w',Fr S w w'->jC P ops S Q tail u a' w'->K a' w')->p.wp P a w K Q):jC P ops S Q tail (.two o t p u) a w:=
 ⟨UH ho h1,UH hp h2⟩
theorem Rm {S:List Nat} {tail:List Oper} {a:Act} {w:World} (h:wpList P ops Q tail a w):jC P ops S Q tail .done a w:=h
end
end lib

end Go.Proofs.YtkmpfgpfbmeihaaGreatDoor