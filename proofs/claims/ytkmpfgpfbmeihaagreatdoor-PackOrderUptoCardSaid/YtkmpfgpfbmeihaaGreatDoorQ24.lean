/-
  Texts of this proof, one behind the other: DeltaMake, OTry, MixT.
-/
import Derived.Test.YtkmpfgpfbmeihaaGreatDoorQ23
set_option maxHeartbeats 16000000
set_option maxRecDepth 100000
set_option linter.unusedVariables false
set_option linter.unusedSimpArgs false
namespace Go.Proofs.YtkmpfgpfbmeihaaGreatDoor
namespace delta
open Go Go.RowKit lib bm
def Fj (base text:LB) (w:World) (e:Ending) (w':World):Prop:=∃d,Made base text d/\aB w d e w'
theorem zdd (a b:OA) (cap ji:Nat) (base text:LB) (m:Int) (w:World) (hb:Rd w a cap base) (ht:Rd w b ji text) (vu:base.length<=1000000) (bg:text.length<=1000000) (hm:w.cell? ⟨0,0,none⟩=some (.int .i64 m)) :
  Calls Tryz.prog 66 #[.slice a base.length cap,.slice b text.length ji] w (Fj base text w):=by
 have lF:=@run_makeMap Tryz.prog;obtain⟨BL,j9⟩:=ai base.length;obtain⟨TL,Cl⟩:=ai text.length;obtain⟨b1,fM⟩:∃b,b=fk BL:=⟨_,rfl⟩;obtain⟨b2,kT⟩:∃b,b=fk TL:=⟨_,rfl⟩;have hN:∀n:Nat,n<=1000000->∀w,Calls Tryz.prog 97 #[.int .i64 (n:Nat)] w (aB w (fk n)):=λn hn w=>by have:=qwq (n:Int) w (by omega);rwa [C9]at this
 have zQ:=hN BL (by omega);have Mp:=hN TL (by omega);rw[<-fM]at zQ;rw[<-kT]at Mp;unfold aB at zQ Mp;obtain⟨L1,wB⟩:∃L,L=b1.length:=⟨_,rfl⟩;obtain⟨L2,E5⟩:∃L,L=b2.length:=⟨_,rfl⟩;have hH:=R4 8 BL (by rw[j9];exact Dj vu (by decide));have jC:=R4 8 TL (by rw[Cl];exact Dj bg (by decide));have EJ:=zc4 TL;rw[<-fM,<-wB]at hH;rw[<-kT,<-E5]at jC EJ;rw[<-j9,<-Cl];rw[<-j9]at vu;rw[<-Cl]at bg;have HB:=aQ hb ht hm j9 Cl;have HC:=aQ zQ Mp (And.intro fM kT) wB E5;have cZ:BL<=cap/\cap<=maxLen/\TL<=ji/\ji<=maxLen:=by rw[j9,Cl];exact⟨hb.le,hb.max,ht.le,ht.max⟩
 unfold maxLen at cZ;clear hN zQ Mp fM kT wB E5 hb ht hm j9 Cl;have mT:True:=trivial;go_enter Tryz.func66,Tryz.ntmps66;go_upto_region 2 with (first|(go_at_call 97;have _t:=mT;refine (HC.o0 _).mono ?_;rintro e w1 ⟨a1,rfl,r1,_,f1⟩;rw[<-HC.l1.2.2.1]at r1 ⊢;have H1:=ak r1 f1;clear r1 f1;clear mT _t)|(go_at_call 97;refine (HC.l1.1 _).mono ?_;rintro e w2 ⟨a2,rfl,r2,_,f2⟩;rw[<-HC.l1.2.2.2]at r2 ⊢;have H2:=ak r2 f2;clear r2 f2)|(refine XE aq rfl _ _ rfl a1 L1 L1 (b1.map bv) rfl (H1.o0.fr H2.l1).cs (by rw[bW,<-HC.l1.2.2.1,pI]) (ay _) H1.o0.nil a2 L2 L2 (b2.map bv) rfl H2.o0.cs (by rw[bW,<-HC.l1.2.2.2,pI]) (by omega) (by omega) (by unfold maxLen;omega) ?_;intro c3 w3 A3;have H3:=ah A3;clear A3));obtain⟨q,hq⟩:=ai w3.heap.size;obtain⟨g2,yC⟩:∃g,g=w2.heap.size:=⟨_,rfl⟩;obtain⟨W,hW⟩:∃W,W=w3.alloc (Obj.cells #[Value.slice (some { block:=w2.heap.size,off:=0 }) (L1+L2) c3,Value.slice none 0 0] 168):=⟨_,rfl⟩;have hM:Mk [] w W q (some ⟨g2,0,none⟩) c3 (b1++b2) none 0 []/\Fr [] w W/\(b1++b2).length=L1+L2:=by
  have hle:(b1++b2).length=L1+L2:=by rw[aA,<-HC.l1.2.2.1,<-HC.l1.2.2.2]
  have fw:Fr [] w w3:=(H1.l1.trans H2.l1).trans H3.out.fr;have fW:Fr [] w W:=by rw[hW];exact fw.alloc _
  have o3:=(SG H3.out.own).1;rw[<-gF,<-yC]at o3;have zcA:=o3.lt g2 (by simp[af]);have dE:=(H1.l1.trans H2.l1).size;have jL:=fw.size;refine⟨⟨?_,?_,ej.nil _ _,?_,by simp[af],by simp[af],fW,.inr (by omega),?_,by simp[af]⟩,fW,hle⟩
  ·rw[hW,hq,hle,yC];exact bC w3 _
  ·rw[hW];exact o3.fr ((Fr.refl [] w3).alloc _) (by simp)
  ·simp[af];omega
  ·simp[af];omega
 rw[<-hW,<-hq,<-yC];have HI:=ah (show Calls Tryz.prog 98 #[.slice a BL cap,.slice b TL ji] W λe w'=>pW base text e/\Fr [] W w' from by
  have h:=HB.out
  have:=qzx a b cap ji base text m W (h.1.fr hM.2.1) (h.2.1.fr hM.2.1) (by rw[<-h.2.2.2.1];omega) (hM.2.1.cell h.2.2.1 (by simp))
  rwa [<-h.2.2.2.1,<-h.2.2.2.2]at this)
 have HM:=ah hM;clear hM hW hq yC H1 H2 H3;go_upto_region 3 with (go_at_call 98;refine HI.out.mono ?_;rintro e W1 ⟨hp,fI⟩;have HF:=ah fI;unfold pW at hp;clear fI;rcases hp with⟨p,rfl,ho⟩|⟨rfl,oK⟩)
 ·obtain⟨hd,qO⟩:=ai (b1++b2);have hp:=ho.1;have hC:Calls Tryz.prog 99 #[.pointer (some ⟨q,0,none⟩),.int .i64 (p:Nat),.int .i64 (TL:Nat)] W1 λe W'=>e = .returned (.tuple #[])/\∃iX mn Hi Hh,Mk [] w W' q iX mn (hd++lits ([]:LB).length []++jX TL p TL) Hi Hh []:=by have h:=HB.out;rw[qO];exact qv0 [] w W1 q p TL _ _ _ _ _ _ (HM.out.1.dQ HF.out) (by rw[HM.out.2.2];simp;omega) (by rw[<-h.2.2.2.1,<-h.2.2.2.2]at hp;omega)
  have HCP:=aw hC ho qO;clear hC ho hp qO;go_upto_region 5 with (go_at_call 99;refine HCP.o0.mono ?_;rintro e W2 ⟨rfl,oa,oc,wa,wq,mk⟩);obtain⟨out,cC⟩:∃out,out=hd++lits ([]:LB).length []++jX TL p TL:=⟨_,rfl⟩;rw[<-cC]at mk;obtain⟨n,hn⟩:=ai out.length;have c0:=cell_of mk.af 0;simp only[bF,aT]at c0;obtain⟨o1,o2,o3⟩:=mk.o.shape;rw[bW,<-hn]at o1;rw[<-hn]at c0;have hsl:=λw=>qj0 aq n oa oc o1 w
  have HK:=aw mk cC hn;clear mk cC hn;go_quiet (fail);go_wp2;go_ret;have h:=HB.out;refine⟨out,?_,(HK.o0.dQ (Fr.drewN [] W2 nq)).made (Fr.refl [] w) (by simp) n HK.l1.2⟩;rw[HK.l1.1,HCP.l2,HC.l1.2.1.1,HC.l1.2.1.2,h.2.2.2.1,h.2.2.2.2];exact qwx (by rw[<-h.2.2.2.1];omega) HCP.o1
 ·obtain⟨bm,Ub⟩:=ai W1.heap.size;obtain⟨i0,hi,oG,jr,mv⟩:=info_parts Nv;have AO:=cJ hi oG jr mv oK Ub;clear hi oG jr mv oK Ub HI;go_upto_block 0 with fail;rw[<-AO.l5];go_cut [8,9] from 49 to 73 (λs8 s9 wz=>∃n D,Gm BL wz bm n D/\n<=BL+16/\Fr [] W1 wz)
  case first=>
   go_wp2;go_loopg [8,9] (BL+16) (λk s8 s9 wr=>∃i n D,s8 = .int .i64 (i:Nat)/\i+k=BL+16/\n<=i/\Gm BL wr bm n D/\Fr [] W1 wr/\bm<wr.heap.size);case atStart=>
    refine⟨0,0,.map [],rfl,by omega,ay _,?_,(Fr.refl [] W1).alloc _,?_⟩
    ·have:=zg3 BL W1;rwa [<-AO.l5]at this
    ·rw[AO.l5];simp
   case round=>
    obtain⟨i,n,D,rfl,bX,hni,EP,dR,cV⟩:=hrel;obtain⟨wo,rfl⟩:∃wo:World,wo=wr:=⟨_,rfl⟩;have HG:=ak EP dR;clear EP dR;by_cases hi16:i+16<=BL
    ·have hW:Calls Tryz.prog 100 #[.slice (aL a cap i 1) (BL-i) (cap-i)] wo λe w'=>wo=w'/\∃v,e = .returned v/\Ra v:=by have h:=HB.out;have hr:=(h.1.fr ((HM.out.2.1.trans HF.out).trans HG.l1)).drop i (by rw[<-h.2.2.2.1];omega);have:=qul _ _ _ wo hr (by rw[eV,<-h.2.2.2.1];omega);rwa [eV,<-h.2.2.2.1]at this
     have HW:=ah hW;clear hW;go_upto_region 11 with (first|(refine vY aq i rfl _ _ rfl a BL cap _ rfl rfl rfl (by omega) (by omega) ?_)|(go_at_call 100;refine HW.out.mono ?_;rintro e w4 ⟨rfl,v,rfl,x,rfl,hx⟩));have HX:=ak hx (qzo hx);clear hx;have TS:=AO.o0;have oG:=AO.o1;have jr:=AO.o2;have mv:=AO.o3;go_wp2_with (first
      | (at_lookup;refine wpList_lookup_groups (H:=Unit) _ rfl _ _ 171 rfl 104 28 3 .i64 qrx FB (qqu _) (bm+1) bm n D rfl HG.o0.own (by unfold maxLen;omega) (.int .u64 x) (.int .u64 x) rfl HX.out.2 ?_;intro v zs bR dO v7 vA;obtain⟨va,vc,rfl,v1,v2,v3⟩:=Iw dO.1;have HV:=aw bR dO vA;clear bR dO vA)
      | (at_builtin;refine wpList_append_own_at _ rfl _ _ 28 rfl (bm+1) 3 i0 (.int .i64 0) 1 8 zb2 TS oG jr mv rfl (by decide) _ _ _ rfl (HV.o1.1.alloc _) ⟨wo.heap.size,0,none⟩ 1 1 [.int .i64 i] rfl rfl (cell_one_new _ _ _) (ints_oneCell .i64 [(i:Int)]) (by unfold maxLen;omega) (by omega) (by simp;omega) ?_;intro v' w5 qG GH tI PA;have HA:=aw qG GH PA;clear qG GH tI PA)
      | (at_mapUpdate;refine wpList_mapUpdate_back _ rfl _ _ _ 171 rfl HV.l2 rfl rfl rfl ((World.grownBy_alloc _ _ _).trans HA.out.2.1) (HV.o1.appended HA.out.1 (WalkArith.wf_i64 (by omega))) (by simp;omega) (HA.out.2.2.imp id (λh=>⟨_,h,by simp⟩)) ?_;intro w6 oJ B6;have HU:=ak oJ B6;clear oJ B6)
      | go_in)
     ·go_roundg (gk-16);case measure=>omega
      case rel=>
       have aD:=(World.grownBy_alloc wo _ _).trans HA.out.2.1;have f5:Fr [] W1 w5:=HG.l1.grown aD λj hj=>by have:=(HV.o1.1.lt j hj).1;have:=AO.l5;right;omega
       have f6:Fr [] W1 w6:=f5.grown HU.l1 λj hj=>by cases hj;right;exact Nat.le_of_eq AO.l5.symm
       have LY:=aD.size;have hs6:=HU.l1.size;exact⟨i+16,n+1,_,by go_num,by omega,by omega,⟨HU.o0,HG.o0.good.put HV.o0 HV.o1.datum (by omega)⟩,f6,by omega⟩
     ·go_roundg (gk-16);case measure=>omega
      case rel=>exact⟨i+16,n,D,by go_num,by omega,by omega,HG.o0,HG.l1,cV⟩
    ·go_wp2;go_meet;exact⟨n,D,HG.o0,by omega,HG.l1⟩
  case rest=>
  obtain⟨n0,D,EP,pL,dR⟩:=hcut;obtain⟨W2,rfl⟩:∃W2:World,W2=wc:=⟨_,rfl⟩;obtain⟨hd,qO⟩:=ai (b1++b2);obtain⟨S0,Dz⟩:=ai ([q,g2]);have lT:Mk S0 W2 W2 q (some ⟨g2,0,none⟩) c3 hd none 0 []:=by rw[Dz,qO];exact ((HM.out.1.dQ HF.out).dQ dR).Hs
  have hSb:∀y∈S0,w.heap.size<=y/\y<bm:=by intro y hy;have h:=HM.out.1.dQ HF.out;have h1:=lt_of_block h.af;have h2:=h.o.lt g2 (by simp[af]);have h3:=h.new;have h4:=h.newO g2 (by simp[af]);simp at h3 h4;rw[AO.l5];rw[Dz]at hy;simp at hy;rcases hy with rfl|rfl<;>omega
  have mD:bm<W2.heap.size:=by obtain⟨es,clock,hb,_⟩:=EP.own;exact lt_of_block hb
  have hlen:hd.length=L1+L2:=by rw[qO];exact HM.out.2.2
  have qK:hd=fk base.length++fk text.length:=by rw[qO,HC.l1.2.1.1,HC.l1.2.1.2,HB.out.2.2.2.1,HB.out.2.2.2.2]
  have HG:=aQ EP lT hSb (((HM.out.2.1.trans HF.out).trans dR)) qK;have HNO:=ah AO.o4;clear EP lT hSb dR qO Dz qK HC HM HF AO lF;go_upto_block 2 with fail;go_cut [10,11,12,13] from 73 to 144 (λs10 s11 s12 s13 wz=>∃oa oc out wa wq wait,Mk S0 W2 wz q oa oc out wa wq wait/\St base text hd out wait text.length)
  case first=>
   go_wp2;go_loopg [10,11,12,13] TL (λk s10 s11 s12 s13 wr=>∃i oa oc out wa wq wait,s10 = .int .i64 (i:Nat)/\Mk S0 W2 wr q oa oc out wa wq wait/\St base text hd out wait i/\i+k=TL);case atStart=>exact⟨0,_,_,hd,_,_,[],rfl,HG.l1.1,zcf base text hd,by omega⟩
   case round=>
    obtain⟨i,oa,oc,out,wa,wq,wait,rfl,mk,st,bX⟩:=hrel;obtain⟨wo,rfl⟩:∃wo:World,wo=wr:=⟨_,rfl⟩;obtain⟨t1,t2,t3⟩:=st.len;rw[<-HB.out.2.2.2.2]at t1 t3;obtain⟨WL,ZA⟩:=ai wait.length;have HK:=aw mk st ZA;rw[<-ZA]at t2;clear mk st ZA;by_cases hiT:i<TL
    ·go_upto_if 81 with fail;have F0:Fr [] w wo:=HG.l1.2.2.1.step HK.o0.fr λy hy=>.inr (HG.l1.2.1 y hy).1
     have EP:Gm BL wo bm n0 D:=HG.o0.kept ((Kept.refl bm W2).fr HK.o0.fr λy hy=>.inl (HG.l1.2.1 y hy).2) (ay _);have HO:=ak F0 EP;clear F0 EP;go_cut [11,12,13] from 81 to 101 (λs11 s12 s13 wz=>∃p k n:Nat,s11 = .int .i64 (p:Nat)/\s12 = .int .i64 (k:Nat)/\s13 = .int .i64 (n:Nat)/\Found base text i WL p k n/\Fr [] wo wz)
     case first=>
      by_cases nG:i+16<=TL
      ·have c1:=cell_of HK.o0.af 1;simp only[bF,aT,bP]at c1;rw[<-HK.l1.2]at c1;have q1:∀y,(sup [] wo.drew y).cell? ⟨q,1,none⟩=some (.slice wa WL wq):=λy=>(dY [] wo.drew y).cell ((Fr.av [] wo).cell c1 (by simp)) (by simp)
       have hsl:=λw=>lib.Lx aq i b TL ji (i:Int) rfl (by omega) (by omega) w
       have hW:∀w,Fr [] wo w->Calls Tryz.prog 100 #[.slice (aL b ji i 1) (TL-i) (ji-i)] w λe w'=>w=w'/\∃v,e = .returned v/\Ra v:=λw5 f=>by have h:=HB.out;have hr:=(h.2.1.fr (HO.o0.trans f)).drop i (by rw[<-h.2.2.2.2];omega);have:=qul _ _ _ w5 hr (by rw[eV,<-h.2.2.2.2];omega);rwa [eV,<-h.2.2.2.2]at this
       have hF:∀w (pa:OA) (pc:Nat) (ps:LN),Fr [] wo w->Cs w pa (ps.map λp=>.int .i64 (p:Nat))->ps.length<=pc->(∀p∈ps,p<=BL)->ps.length<=n0->
         Calls Tryz.prog 101 #[.slice a BL cap,.slice b TL ji,.slice pa ps.length pc,.int .i64 (i:Nat),.int .i64 (WL:Nat)] w λe w'=>∃p k n:Nat,e = .returned (.tuple #[.int .i64 (p:Nat),.int .i64 (k:Nat),.int .i64 (n:Nat)])/\Found base text i WL p k n/\Fr [] w w':=λw5 pa pc ps f hcs hle hp hn=>by
        have h:=HB.out
        have:=zd2 a b pa cap ji pc base text ps i WL w5 (h.1.fr (HO.o0.trans f)) (h.2.1.fr (HO.o0.trans f)) hcs hle (by rw[<-h.2.2.2.1];exact hp) (by rw[<-h.2.2.2.2];exact t3) t2 (by rw[<-h.2.2.2.1];omega) (by rw[<-h.2.2.2.2];omega) (by omega)
        rwa [<-h.2.2.2.1,<-h.2.2.2.2]at this
       have Ro:=ak hW hF;clear hW hF c1;go_upto_region 17 with fail;refine j4 22 [(false,0),(false,1),(false,2),(false,3),(false,4),(false,5),(false,8),(false,9),(false,10),(false,11),(false,12),(false,13),(true,6),(true,7),(true,14),(false,15),(false,16),(false,17),(false,18),(false,19),(false,20),(false,21)] [] (by kernel_rfl) (by kernel_rfl) (λ_ _ d _ _ h=>by cases d<;>exact h) ?_;simp only[jm];refine dT 12 rfl ?_;simp only[bD];repeat (go_big_quiet_step (fail))
       refine wpQuiet_nil ?_;clear q1 hsl;refine eT rfl ?_;intro X hX;go_wp2_with (go_at_call 100;refine (Ro.o0 _ (Fr.av [] _)).mono ?_;rintro e w4 ⟨rfl,v,rfl,x,rfl,hx⟩);refine hX.out _ _ (Fr.refl _ _) ?_;clear hX X;have HX:=ah hx;clear hx;refine eT rfl ?_;intro X hX;refine qv8 (HO.l1.kept ((Kept.refl bm wo).fr (Fr.av [] wo) (by simp)) (ay _)) (by unfold maxLen;omega) _ _ rfl rfl x rfl HX.out ?_;intro pa ps pc hcs hle hp hn;have hFD:=Ro.l1 _ pa pc ps (Fr.av [] wo) hcs hle hp hn;have HFD:=ah hFD;refine hX.out _ _ (Fr.refl _ _) ?_;clear hX X hcs hp hFD;simp only[Act.put,nR,oD,nP];refine eT rfl ?_;intro X hX;go_wp2_with (go_at_call 101;refine HFD.out.mono ?_;rintro e w5 ⟨p,k,n,rfl,ES,f5⟩);refine hX.out _ _ f5 ?_;clear hX X;have HR:=ak ES f5;clear ES f5;refine dT 7 rfl ?_;simp only[bD];repeat (go_big_quiet_step (fail))
       refine wpQuiet_nil ?_;refine ic ?_;go_wp2;go_meet;exact⟨p,k,n,rfl,rfl,rfl,HR.o0,(Fr.av [] wo).trans HR.l1⟩
      ·go_wp2;go_meet;exact⟨0,0,0,rfl,rfl,rfl,.inl ⟨rfl,rfl,rfl⟩,Fr.refl _ _⟩
     case rest=>
     obtain⟨p,k,n,rfl,rfl,rfl,ES,fz⟩:=hcut;obtain⟨wp,rfl⟩:∃wp:World,wp=wc:=⟨_,rfl⟩;rcases ES with⟨rfl,rfl,rfl⟩|⟨xp,BX,hkw,ux⟩
     ·obtain⟨g,o,Dx,cb⟩:=HB.out.2.1.at (i:=i) (by rw[<-HB.out.2.2.2.2];exact hiT);have EO:g<w.heap.size:=Lp w _ cb;obtain⟨u,hu⟩:∃u,u=text[i]'(by rw[<-HB.out.2.2.2.2];exact hiT):=⟨_,rfl⟩;rw[<-hu]at cb;have aH:=HK.l1.1.wait (by rw[<-HB.out.2.2.2.2];exact hiT);rw[<-hu]at aH;subst Dx;have Aq:=HK.o0.dQ fz;have Z8:Fr [] w wp:=HO.o0.trans fz;obtain⟨S,hS⟩:=ai (af wa);have L6:q∉S:=by rw[hS];exact Aq.qx
      have uu:g∉S:=by
       rw[hS];intro hg;have h2:=HG.l1.2.2.1.size;rcases Aq.newX g hg with k|k
       ·have:=(HG.l1.2.1 g k).1;omega
       ·omega
      have c1:=cell_of Aq.af 1;simp only[bF,aT,bP]at c1;rw[<-HK.l1.2]at c1;have q1:∀y,(sup S wp.drew y).cell? ⟨q,1,none⟩=some (.slice wa WL wq):=λy=>(dY S wp.drew y).cell ((Fr.av [] wp).cell c1 (by simp)) L6
      have qb:∀y,(sup S wp.drew y).cell? ⟨g,o+i,none⟩=some (.int .u8 (u.toNat:Nat)):=λy=>(dY S wp.drew y).cell ((Fr.av [] wp).cell (Z8.cell cb (by simp)) (by simp)) uu
      have HP:=aG Aq Z8 aH hS;clear Aq Z8 aH hS c1 cb hu;go_upto_region 19 with fail;refine SV 13 [(false,0),(false,1),(false,2),(false,3),(false,4),(false,5),(false,6),(false,7),(false,8),(true,9),(true,10),(false,11),(false,12)] S (by kernel_rfl) (by kernel_rfl) (λ_ _ d _ _ h=>by cases d<;>exact h) ?_;simp only[jm];refine FI 9 rfl ?_;simp only[bD];repeat (go_big_quiet_step (fail))
      refine wpQuiet_nil ?_;clear q1 qb;refine DX rfl ?_;intro X hX;go_wp2;refine hX.out _ _ wp.drew (Fr.refl _ _) ((Fr.refl S wp.drew).alloc _) ?_;clear hX X;obtain⟨w4,gw⟩:∃w4,w4=(wp.alloc (.cells #[.int .u8 (u.toNat:Nat)] 5)).drew:=⟨_,rfl⟩;have f4:Fr [] wp w4:=by rw[gw];exact ((Fr.refl [] wp).alloc _).drew
      have j8:w4.heap[wp.heap.size]?=some (.cells #[.int .u8 (u.toNat:Nat)] 5 (0,0)):=by rw[gw];exact (Fr.av [] _).af (bC wp _) (by simp)
      have oh:Cs w4 (some ⟨wp.heap.size,0,none⟩) (([u]:LB).map bv):=nM _ _ _ _ (by rw[j8];rfl);have QM:Fr S wp.drew w4:=by rw[gw];exact (((Fr.refl S wp).alloc _).drew).bA
      have F4:=ak f4 oh;obtain⟨x1,x2,x3⟩:=HP.out.1.x.shape;rw[bW,<-HK.l1.2]at x1;rw[<-gw];clear gw f4 j8 oh;refine DX rfl ?_;intro X hX;refine S6 aq _ _ rfl wa WL wq (wait.map bv) rfl (HP.out.1.x.fr F4.o0 (by simp)) (by rw[bW];exact HK.l1.2.symm) (some ⟨wp.heap.size,0,none⟩) 1 1 (([u]:LB).map bv) rfl (by decide) (by simp) F4.l1 (by rfl) (j3 _) (by omega) (by unfold maxLen;omega) ?_;intro a5 c5 w5 A5;have Mv:Fr S wp.drew w5:=QM.step A5.fr λy hy=>.inl (by rw[HP.out.2.2.2];exact hy)
      refine hX.out _ _ wp.drew (Fr.refl _ _) Mv ?_;clear hX X;simp only[Act.put,nR,oD,nP];have HA:=ah A5;have tQ:=Mv.af ((Fr.av [] wp).af HP.out.1.af (by simp)) L6;have c1:=cell_of tQ 1;have z1:=aW tQ 1;simp only[bF,aT,bP]at c1;clear tQ A5 QM;refine FI 2 rfl ?_;simp only[bD];repeat (go_big_quiet_step (fail))
      refine wpQuiet_nil ?_;refine Sj ?_;go_wp2;go_roundg (gk-1);case measure=>omega
      case rel=>have A:=HA.out;rw[<-gF]at A;exact⟨i+1,oa,oc,out,a5,c5,wait++[u],by go_num,HP.out.1.AU F4.o0 (by simpa using A) (by rw[HK.l1.2];rfl),HP.out.2.2.1,by omega⟩
     ·have aH:=HK.l1.1.copy (by rw[<-HB.out.2.2.2.1];omega) xp BX (by rw[<-HK.l1.2];exact hkw) ux;rw[<-HK.l1.2]at aH;have YM:=BX.1;have YL:=BX.2.1;have zcM:=ux.1;rw[<-HB.out.2.2.2.1]at YM;rw[<-HB.out.2.2.2.2]at YL;have Aq:=HK.o0.dQ fz;have c1:=cell_of Aq.af 1;have z1:=aW ((Fr.av [] wp).af Aq.af (by simp)) 1;have d1:=(Fr.av [] wp).cell c1 (by simp);simp only[bF,aT,bP]at c1 d1;rw[<-HK.l1.2]at c1 d1;have q1:∀y,(sup [] wp.drew y).cell? ⟨q,1,none⟩=some (.slice wa WL wq):=λy=>(dY [] wp.drew y).cell ((Fr.av [] wp).cell c1 (by simp)) (by simp)
      obtain⟨x1,x2,x3⟩:=Aq.x.shape;rw[bW,<-HK.l1.2]at x1;have hsl:=λw=>lib.FZ aq (WL-k) wa WL wq ((WL:Int)-(k:Int)) (by omega) (by omega) w
      have hC:Calls Tryz.prog 99 #[.pointer (some ⟨q,0,none⟩),.int .i64 ((p:Int)-(k:Int)),.int .i64 ((k:Int)+(n:Int))] (wp.drew.setCell ⟨q,1,none⟩ (.slice wa (WL-k) wq)) λe W'=>e = .returned (.tuple #[])/\∃iX mn Hi Hh,Mk S0 W2 W' q iX mn (out++lits (wait.take (WL-k)).length (wait.take (WL-k))++jX (k+n) (p-k) (k+n)) Hi Hh []:=by
       have zt:(wait.take (WL-k)).length=WL-k:=by rw[dU,<-HK.l1.2];omega
       have m2:=(Aq.dQ (Fr.av [] wp)).Fq (wait2:=wait.take (WL-k)) (n:=WL-k) (by rw[Fw];exact (Aq.dQ (Fr.av [] wp)).x.take (WL-k)) zt (λy hy=>hy);have:=qv0 S0 W2 _ q (p-k) (k+n) _ _ _ _ _ _ m2 (by rw[zt];omega) (by omega);rwa [show (((p-k:Nat):Int))=(p:Int)-(k:Int) from by omega,show (((k+n:Nat):Int))=(k:Int)+(n:Int) from by omega]at this
      have HC:=ak hC aH;have b1:decide ((n:Int)<16)=false:=by simp;omega
      clear hC aH Aq BX ux c1;go_upto_region 21 with fail;refine j4 15 [(false,0),(false,1),(false,2),(false,3),(false,4),(false,5),(false,6),(false,7),(false,8),(false,9),(false,10),(false,11),(false,12),(false,13),(false,14)] [] (by kernel_rfl) (by kernel_rfl) (λ_ _ d _ _ h=>by cases d<;>exact h) ?_;simp only[jm];refine dT 15 rfl ?_;simp only[bD];repeat (go_big_quiet_step (fail))
      refine wpQuiet_nil ?_;clear q1 hsl;refine ic ?_;go_wp2_with (go_at_call 99;refine HC.o0.mono ?_;rintro e w6 ⟨rfl,yg,Bt,wa2,wq2,m6⟩);go_roundg (gk-n);case measure=>omega
      case rel=>exact⟨i+n,yg,Bt,_,wa2,wq2,[],by go_num,m6,HC.l1,by omega⟩
    ·go_wp2;go_meet;obtain rfl:i=TL:=by omega
     have h:=HK.l1.1;rw[HB.out.2.2.2.2]at h;exact⟨oa,oc,out,wa,wq,wait,HK.o0,h⟩
  case rest=>
  obtain⟨oa,oc,out,wa,wq,wait,mk,st⟩:=hcut;obtain⟨W3,rfl⟩:∃W3:World,W3=wc:=⟨_,rfl⟩;have t:=st.len;rw[<-HB.out.2.2.2.2]at t;have sH:=qr5 S0 W2 W3 q oa wa oc wq out wait mk (by omega);have EG:Made base text (out++lits wait.length wait):=by have h:=HG.l1.2.2.2;rw[h]at st;exact qzh HNO.out st
  obtain⟨R,hR⟩:=ai (out++lits wait.length wait);rw[<-hR]at sH EG;have HFL:=ak sH EG;clear sH EG hR mk st t;go_upto_region 25 with (go_at_call 102;refine HFL.o0.mono ?_;rintro e W4 ⟨rfl,oa,oc,wa,wq,mk⟩);obtain⟨n,hn⟩:=ai R.length;have c0:=cell_of mk.af 0;simp only[bF,aT]at c0;obtain⟨o1,o2,o3⟩:=mk.o.shape;rw[bW,<-hn]at o1;rw[<-hn]at c0;have hsl:=λw=>qj0 aq n oa oc o1 w
  have HK:=ak mk hn;clear mk hn;go_quiet (fail);go_wp2;go_ret;exact⟨R,HFL.l1,(HK.o0.dQ (Fr.drewN [] W4 nq)).made HG.l1.2.2.1 (λy hy=>(HG.l1.2.1 y hy).1) n HK.l1⟩
end delta
namespace os
open Go Go.RowKit lib bm pk
def pE (w0 w:World) (F G:Nat) (st:Option (Nat×List UInt8)):Prop:=match st with
 | none=>w.heap[F]?=some (.cells #[.nilIface] 98 (0,0))/\w.heap[G]?=some (.cells #[.slice none 0 0] 23 (0,0))
 | some (j,d)=>w.heap[F]?=some (.cells #[.iface 123 (.int .i64 (j:Nat))] 98 (0,0))/\∃da,w.heap[G]?=some (.cells #[.slice da d.length d.length] 23 (0,0))/\lib.Rd w da d.length d/\∀y∈af da,w0.heap.size<=y/\y<w.heap.size/\y≠F/\y≠G
theorem pE.fr {w0 w w':World} {F G:Nat} {st:Option (Nat×List UInt8)} (h:pE w0 w F G st) (f:Fr [] w w'):pE w0 w' F G st:=by
 match st,h with
 | none,h=>exact⟨f.af h.1 (by simp),f.af h.2 (by simp)⟩
 | some (j,d),⟨h1,da,h2,h3,h4⟩=>exact⟨f.af h1 (by simp),da,f.af h2 (by simp),h3.fr f,λy hy=>⟨(h4 y hy).1,eW (h4 y hy).2.1 f.size,(h4 y hy).2.2⟩⟩
theorem pE.lt {w0 w:World} {F G:Nat} {st:Option (Nat×List UInt8)} (h:pE w0 w F G st):F<w.heap.size/\G<w.heap.size:=by
 match st,h with
 | none,h=>exact⟨lt_of_block h.1,lt_of_block h.2⟩
 | some (j,d),⟨h1,da,h2,_⟩=>exact⟨lt_of_block h1,lt_of_block h2⟩
def Ko (w0 w:World) (F G:Nat) (st:Option (Nat×List UInt8)) (j:Nat) (base text:LB) (e:Ending) (w':World):Prop:=
 e = .returned (.tuple #[])/\Fr [F,G] w w'/\∃MP,pE w0 w' F G MP/\(MP=st\/∃d,MP=some (j,d)/\delta.Made base text d/\d.length<text.length)
set_option maxRecDepth 100000
theorem zi2 (X F G j:Nat) (xa:OA) (xc:Nat) (base:LB) (o:pk.Obj) (oa:OA) (oc:Nat) (m:Int) (w0 w:World) (st:Option (Nat×List UInt8)) (hx:w.heap[X]?=some (.cells (eK o oa oc) 34 (0,0))) (hB:pE w0 w F G st)
  (JY:F≠G) (hb:lib.Rd w xa xc base) (ho:lib.Rd w oa oc o.body) (vu:base.length<=65536) (rQ:o.body.length<=65536) (hm:w.cell? ⟨0,0,none⟩=some (.int .i64 m)) (h0:w0.heap.size<=w.heap.size) :
  Calls Tryz.prog 65 #[.iface 123 (.int .i64 j),.slice xa base.length xc,.pointer (some ⟨X,0,none⟩),.pointer (some ⟨F,0,none⟩),.pointer (some ⟨G,0,none⟩)] w (Ko w0 w F G st j base o.body):=by
 have lT:=delta.zdd xa oa xc oc base o.body m w hb ho (by omega) (by omega) hm;have x1:=cell_of hx 1;have e1:(eK o oa oc)[1]?=some (.slice oa o.body.length oc):=rfl;rw[e1]at x1;clear e1;have bg:=hB.lt;obtain⟨bl,bQ⟩:=ai o.body.length;obtain⟨xl,mz⟩:=ai base.length;rw[<-bQ,<-mz]at lT;rw[<-bQ]at x1 rQ;rw[<-mz];have H:=dk hx hB lT bQ JY h0 bg;clear hx lT hb ho vu hm bQ mz JY h0 bg hB;go_enter Tryz.func65,Tryz.ntmps65;go_upto_region 1 with (go_at_call 66;refine H.out.2.2.1.mono ?_;rintro e w2 ⟨d,EG,da,rfl,rd,hn,f2⟩;have H2:=aG EG rd hn f2;clear EG rd hn f2);have x1:=H2.l3.cell x1 (by simp);obtain⟨dl,hU⟩:=ai d.length;rw[<-hU];have tT:=H.out.2.1.fr H2.l3;have HD:=ak hU tT;clear hU;have qM:∀(v0 v1:Value),w2.heap[F]?=some (.cells #[v0] 98 (0,0))->w2.heap[G]?=some (.cells #[v1] 23 (0,0))->dl<bl->Ko w0 w F G st j base o.body (.returned (.tuple #[])) ((w2.setCell ⟨F,0,none⟩ (.iface 123 (.int .i64 j))).setCell ⟨G,0,none⟩ (.slice da dl dl)):=λv0 v1 hF hG bg=>by
  have f3:Fr [F] w2 (w2.setCell ⟨F,0,none⟩ (.iface 123 (.int .i64 j))):=(Fr.refl [F] w2).setCell (by simp) _;have E7:(w2.setCell ⟨F,0,none⟩ (.iface 123 (.int .i64 j))).heap[F]?=some (.cells #[.iface 123 (.int .i64 j)] 98 (0,0)):=bI hF _;have E6:=f3.af hG (by simp;exact kC H.out.2.2.2.2.1);have f4:Fr [G] (w2.setCell ⟨F,0,none⟩ (.iface 123 (.int .i64 j))) ((w2.setCell ⟨F,0,none⟩ (.iface 123 (.int .i64 j))).setCell ⟨G,0,none⟩ (.slice da dl dl)):=(Fr.refl [G] _).setCell (by simp) _;have hG4:((w2.setCell ⟨F,0,none⟩ (.iface 123 (.int .i64 j))).setCell ⟨G,0,none⟩ (.slice da dl dl)).heap[G]?=some (.cells #[.slice da dl dl] 23 (0,0)):=bI E6 _;have hF4:=f4.af E7 (by simp;exact H.out.2.2.2.2.1);have fT:=((H2.l3.mono (T:=[F,G]) (by simp)).trans (f3.mono (T:=[F,G]) (λy hy=>.inl (by simp at hy;simp[hy])))).trans (f4.mono (T:=[F,G]) (λy hy=>.inl (by simp at hy;simp[hy])));obtain⟨hFl,hGl⟩:=H.out.2.2.2.2.2.2;have s3:=f3.size;have s4:=f4.size;have h0:=H.out.2.2.2.2.2.1;refine⟨rfl,fT,some (j,d),⟨hF4,da,by rw[<-HD.o0];exact hG4,?_,λy hy=>?_⟩,.inr ⟨d,rfl,H2.o0,by rw[<-HD.o0,<-H.out.2.2.2.1];exact bg⟩⟩
  ·exact (H2.o1.gJ f3 (λy hy=>by have:=(H2.o2 y hy).1;simp;omega)).gJ f4 (λy hy=>by have:=(H2.o2 y hy).1;simp;omega)
  ·have h1:=H2.o2 y hy;exact⟨by omega,by omega,by omega,by omega⟩
 have HK:=ah qM;clear qM;have Gn:Ko w0 w F G st j base o.body (.returned (.tuple #[])) w2:=⟨rfl,H2.l3.mono (by simp),st,tT,.inl rfl⟩;have HS:=ah Gn;clear Gn;by_cases bg:dl<bl
 ·have g1:decide ((dl:Int)<(bl:Int))=true:=by simp;omega
  have g2:decide ((dl:Int)<=(65536:Int))=true:=by simp;omega
  cases st with
  | none=>
   obtain⟨hF,hG⟩:=tT;have f0:=cell_of hF 0;have q0:=cell_of hG 0;simp only[bF,aT]at q0 f0;have zf:=aW hF 0;have cR:=HK.out _ _ hF hG bg;have E6:=(show Fr [F] w2 (w2.setCell ⟨F,0,none⟩ (.iface 123 (.int .i64 j))) from (Fr.refl [F] w2).setCell (by simp) _).af hG (by simp;exact kC H.out.2.2.2.2.1);have q3:(w2.setCell ⟨F,0,none⟩ (.iface 123 (.int .i64 j))).cell? ⟨G,0,none⟩=some (.slice none 0 0):=by rw[cell_of E6];rfl
   have zq:=aW E6 0;have HF:=ah cR;clear cR hF hG E6;go_wp2;exact bodyPost_end (results_none rfl _ _ _) rfl HF.out
  | some p=>
   obtain⟨i,e⟩:=p;obtain⟨hF,ea,hG,_⟩:=tT;have f0:=cell_of hF 0;have q0:=cell_of hG 0;simp only[bF,aT]at q0 f0;obtain⟨el,Mh⟩:=ai e.length;rw[<-Mh]at q0;by_cases hde:dl<el
   ·have g3:decide ((dl:Int)<(el:Int))=true:=by simp;omega
    have zf:=aW hF 0;have cR:=HK.out _ _ hF hG bg;have E6:=(show Fr [F] w2 (w2.setCell ⟨F,0,none⟩ (.iface 123 (.int .i64 j))) from (Fr.refl [F] w2).setCell (by simp) _).af hG (by simp;exact kC H.out.2.2.2.2.1);have q3:(w2.setCell ⟨F,0,none⟩ (.iface 123 (.int .i64 j))).cell? ⟨G,0,none⟩=some (.slice ea el el):=by rw[cell_of E6,Mh];rfl
    have zq:=aW E6 0;have HF:=ah cR;clear cR hF hG E6 Mh;go_wp2;exact bodyPost_end (results_none rfl _ _ _) rfl HF.out
   ·have g3:decide ((dl:Int)<(el:Int))=false:=by simp;omega
    clear hF hG Mh;go_wp2;exact bodyPost_end (results_none rfl _ _ _) rfl HS.out
 ·have g1:decide ((dl:Int)<(bl:Int))=false:=by simp;omega
  have g2:decide (dl<bl)=false:=by simpa using bg
  clear tT bg;go_wp2;exact bodyPost_end (results_none rfl _ _ _) rfl HS.out
end os
namespace lib
open Go
inductive OT (α:Type) where
 | done:OT α
 | one (e:Bool) (x:α) (t:OT α):OT α
 | two (x:α) (t:OT α) (y:α) (u:OT α):OT α
def OT.map {α β:Type} (f:α->β):OT α->OT β
 | .done=>.done
 | .one e x t=>.one e (f x) (t.map f)
 | .two x t y u=>.two (f x) (t.map f) (f y) (u.map f)
def OT.len {α:Type}:OT α->Nat
 | .done=>0
 | .one _ _ t=>t.len+1
 | .two _ t _ _=>t.len+1
section
variable {P : Program} {ops : Array Oper} {Q : Exit -> Act -> World -> Prop} {md : Region.Mode}
def xK (P:Program) (ops:Array Oper) (S:LN) (Q:Exit->Act->World->Prop) (o:Oper) (K:Act->World->Prop) (a:Act) (w:World):Prop:=
 if Region.wanted o (yielded ops a.tmps) then o.wp P a w (λa' w'=>Fr S w w'/\K a' w') Q else K (a.put o.dst undef) w
def jQ (P:Program) (ops:Array Oper) (S:LN) (Q:Exit->Act->World->Prop) (tail:List Oper):OT Oper->Act->World->Prop
 | .done,a,w=>wpList P ops Q tail a w
 | .one false o t,a,w=>if Region.wanted o (yielded ops a.tmps) then o.quiet P a (fO S w) (λa'=>jQ P ops S Q tail t a' w) else jQ P ops S Q tail t (a.put o.dst undef) w
 | .one true o t,a,w=>xK P ops S Q o (jQ P ops S Q tail t) a w
 | .two o t p u,a,w=>xK P ops S Q o (jQ P ops S Q tail t) a w/\xK P ops S Q p (jQ P ops S Q tail u) a w
def qy (md:Region.Mode) (ops:Array Oper) (n:Nat):OT Nat->Array Bool->Bool
 | .done,listed=>Region.seqB md ops (ops.size-n) n listed
 | .one e i t,listed=>decide (i<n)&&(match e with
   | true=>decide (Region.ready md ops listed=[i])
   | false=>(Region.ready md ops listed).contains i&&Region.free md ops listed i&&(match ops[i]? with|some o=>jO o.op|none=>false))&&qy md ops n t (listed.setIfInBounds i true)
 | .two i t j u,listed=>decide (i<n)&&decide (j<n)&&decide (Region.ready md ops listed=[i,j])&&decide (t.len=u.len)&&qy md ops n t (listed.setIfInBounds i true)&&qy md ops n u (listed.setIfInBounds j true)
theorem VE {S:LN} {n i f:Nat} {oi:Oper} (dP:i<n) (dO:ops[i]?=some oi) {listed:Array Bool} {K:Act->World->Prop} {a:Act} {w:World}
  (hK:∀a' w',K a' w'->mR P md ops Q n (fO S w') f listed a' w') (h:xK P ops S Q oi K a w) :
  wpOp P ops Q i (λa' w'=>(i<n->fO S w w')/\mR P md ops Q n (fO S w) f listed a' w') a w:=by
 unfold wpOp;simp only[dO];unfold xK at h;by_cases hw:Region.wanted oi (yielded ops a.tmps)=true
 ·rw[if_pos hw]at h;rw[if_pos hw];left;exact Oper.wp_mono (λa' w' h'=>⟨λ_=>fO.of h'.1,Sx (fO.sub h'.1) _ _ _ _ (hK a' w' h'.2)⟩) h
 ·rw[if_neg hw]at h;rw[if_neg hw];exact⟨λ_=>fO.of (Fr.refl _ _),hK _ _ h⟩
theorem qmg {n i:Nat} {oi:Oper} {v:Value} {C:World->Prop} {I:Array Bool->Prop} (hI:∀listed j,I listed->j∈Region.ready md ops listed->j<n->I (listed.setIfInBounds j true)) (hi:ops[i]?=some oi) (cE:∀(j:Nat) (o:Oper) cs b,ops[j]?=some o->o.op≠.select cs b)
  (hQ:∀c a d v w,Q (.panic c) (Act.put a d v) w->Q (.panic c) a w) (dP:i<n)
  (hT:∀listed,I listed->listed.getD i true=false->∀t,n<=t->t∉Region.ready md ops listed) :
  ∀(f:Nat) (listed:Array Bool) (a:Act) (w:World),I listed->
   (∀j oj,ops[j]?=some oj->j≠i->listed.getD j true=false->(∀e∈oj.after,Region.binds md e=true->e.on≠i)->oi.apart ops oj=true)->
   i∈Region.ready md ops listed->QY P ops C oi v a->C w->
   mR P md ops Q n C f (listed.setIfInBounds i true) (a.put oi.dst v) w->mR P md ops Q n C (f+1) listed a w:=by
 intro f;induction f with
 | zero=>
  intro listed a w inv _ hr hy hC H;refine⟨λh=>(by rw[h]at hr;cases hr),λj hj=>?_⟩;by_cases iz:j=i
  ·subst iz;exact hy.op hi hC ⟨λ_=>hC,H⟩
  ·have:=ready_mono hj iz;rw[H.1]at this;cases this
 | succ f ih=>
  intro listed a w inv oP hr hy hC H;have nY:=(mem_ready.1 hr).1;refine⟨λh=>(by rw[h]at hr;cases hr),λj hj=>?_⟩;by_cases iz:j=i
  ·subst iz;exact hy.op hi hC ⟨λ_=>hC,H⟩
  ·have EL:j<n:=by
    rcases kI j n with h|h
    ·exact h
    ·exact absurd hj (hT listed inv nY j h)
   have h1:=H.2 j (ready_mono hj iz);obtain⟨vw,oj,qH,aD⟩:=mem_ready.1 hj;have BV:∀e∈oj.after,Region.binds md e=true->e.on≠i:=λe he hb heq=>by have h1:=aD e he hb;rw[heq,getD_both nY]at h1;cases h1
   have h2:=Wt qH (oP j oj qH iz vw BV) (λcs b=>cE i oi cs b hi) (λcs b=>cE j oj cs b qH) hQ hy h1;have qQ:∀k ok,ops[k]?=some ok->k≠i->(listed.setIfInBounds j true).getD k true=false->
     (∀e∈ok.after,Region.binds md e=true->e.on≠i)->oi.apart ops ok=true:=λk ok hk B5 vv oK=>by
    refine oP k ok hk B5 ?_ oK
    by_cases fx:j=k
    ·subst fx;exact vw
    ·rw[getD_set_ne true fx]at vv;exact vv
   refine wpOp_mono (λa' w' h3=>⟨h3.2.1,?_⟩) h2;refine ih (listed.setIfInBounds j true) a' w' (hI _ _ inv hj EL) qQ (ready_mono hr (kC iz)) h3.1 (h3.2.1 EL) ?_;rw[Array.setIfInBounds_comm _ _ iz];exact h3.2.2
theorem Lh {n:Nat} {S:LN} {I:Array Bool->Prop} (hI:∀listed j,I listed->j∈Region.ready md ops listed->j<n->I (listed.setIfInBounds j true)) {l:List Oper} (hl:ops=l.toArray) (cE:Region.noSelect ops=true) (hQ:∀c a d v w,Q (.panic c) (Act.put a d v) w->Q (.panic c) a w)
  (hT:∀i,i<n->∀listed,I listed->listed.getD i true=false->∀t,n<=t->t∉Region.ready md ops listed) :
  ∀(order:OT Nat) (listed:Array Bool) (a:Act) (w:World),I listed->qy md ops n order listed=true->
   jQ P ops S Q (l.drop n) (order.map λx=>l.getD x default) a w->mR P md ops Q n (fO S w) (order.len+(ops.size-n)) listed a w
 | .done,listed,a,w,_,hB,h=>by
  have hlen:(l.drop n).length=ops.size-n:=by rw[hl];simp
  have:=SY (P:=P) (Q:=Q) (md:=md) (ops:=ops) (n:=n) (C:=fO S w) (l.drop n) n listed a w (ay _) (λj=>by rw[hl];simp[Ai]) (by rw[hlen];exact hB) h;simpa[hlen,OT.len] using this
 | .one e i t,listed,a,w,inv,hB,h=>by
  simp only[qy,lQ,decide_eq_true_eq]at hB;obtain⟨⟨dP,he⟩,bu⟩:=hB;have hlen:(OT.one e i t).len+(ops.size-n)=t.len+(ops.size-n)+1:=by simp[OT.len];omega
  rw[hlen];cases e with
  | false=>
   simp only[lQ]at he;obtain⟨⟨hr,hf⟩,hk⟩:=he;have eS:i∈Region.ready md ops listed:=by simpa using hr
   obtain⟨_,oi,dO,_⟩:=mem_ready.1 eS;rw[dO]at hk;have hd:l.getD i default=oi:=by rw[hl]at dO;simp at dO;simp[List.getD,dO]
   simp only[OT.map,hd,jQ]at h;have hC:fO S w w:=fO.of (Fr.refl _ _);by_cases hw:Region.wanted oi (yielded ops a.tmps)=true
   ·rw[if_pos hw]at h;obtain⟨v,h1,h2⟩:=h;have hy:QY P ops (fO S w) oi v a:=.inl ⟨hw,λu hu=>NR hk (h1 u hu)⟩;exact qmg hI dO (De cE) hQ dP (hT i dP) _ listed a w inv (C7 dO hf) eS hy hC (Lh hI hl cE hQ hT t _ _ w (hI _ _ inv eS dP) bu h2)
   ·rw[if_neg hw]at h;have hy:QY P ops (fO S w) oi undef a:=.inr ⟨by simpa using hw,rfl⟩;exact qmg hI dO (De cE) hQ dP (hT i dP) _ listed a w inv (C7 dO hf) eS hy hC (Lh hI hl cE hQ hT t _ _ w (hI _ _ inv eS dP) bu h)
  | true=>
   simp only[decide_eq_true_eq]at he;have eS:i∈Region.ready md ops listed:=by rw[he];simp
   obtain⟨_,oi,dO,_⟩:=mem_ready.1 eS;have hd:l.getD i default=oi:=by rw[hl]at dO;simp at dO;simp[List.getD,dO]
   simp only[OT.map,hd,jQ]at h;refine⟨λh0=>(by rw[h0]at eS;cases eS),λj hj=>?_⟩;rw[he]at hj;have iz:j=i:=by simpa using hj
   subst iz;exact VE dP dO (λa' w' h'=>Lh hI hl cE hQ hT t _ a' w' (hI _ _ inv eS dP) bu h') h
 | .two i t j u,listed,a,w,inv,hB,h=>by
  simp only[qy,lQ,decide_eq_true_eq]at hB;obtain⟨⟨⟨⟨⟨dP,EL⟩,he⟩,htu⟩,ht⟩,hu⟩:=hB;have hlen:(OT.two i t j u).len+(ops.size-n)=t.len+(ops.size-n)+1:=by simp[OT.len];omega
  rw[hlen];have fu:i∈Region.ready md ops listed:=by rw[he];simp
  have Dq:j∈Region.ready md ops listed:=by rw[he];simp
  obtain⟨_,oi,dO,_⟩:=mem_ready.1 fu;obtain⟨_,oj,qH,_⟩:=mem_ready.1 Dq;have zJ:l.getD i default=oi:=by rw[hl]at dO;simp at dO;simp[List.getD,dO]
  have hdj:l.getD j default=oj:=by rw[hl]at qH;simp at qH;simp[List.getD,qH]
  simp only[OT.map,zJ,hdj,jQ]at h;refine⟨λh0=>(by rw[h0]at fu;cases fu),λk hk=>?_⟩;rw[he]at hk;rcases fP.1 hk with hk|hk
  ·subst hk;exact VE dP dO (λa' w' h'=>Lh hI hl cE hQ hT t _ a' w' (hI _ _ inv fu dP) ht h') h.1
  ·have hk:k=j:=by simpa using hk
   subst hk;rw[htu];exact VE EL qH (λa' w' h'=>Lh hI hl cE hQ hT u _ a' w' (hI _ _ inv Dq EL) hu h') h.2
def Fu (md:Region.Mode) (ops:Array Oper) (n p:Nat):Bool:=
 (List.range n).all λi=>i==p||(List.range (n+1)).any λj=>decide (i<j)&&Region.waitsFor md ops j i
theorem qs0 {n p:Nat} {listed:Array Bool} (hs:Fu md ops n p=true) (hc:Region.chainB md ops n=true) (inv:HeadInv md ops n listed) (hp:listed.getD p true=true) :
  ∀(d i:Nat),n-i=d->i<n->listed.getD i true=false->∀t,n<=t->t∉Region.ready md ops listed:=by
 intro d;induction d using Nat.strongRecOn with
 | _ d ih=>
  intro i hd hi nY t ht hr;obtain⟨_,ot,YB,aD⟩:=mem_ready.1 hr;have Yb:t<ops.size:=(IC.1 YB).1;rcases kI n t with Tv|Tv
  ·have h1:=Ic.1 hc t (td.2 Yb);simp only[Bool.or_eq_true,decide_eq_true_eq]at h1;rcases h1 with h1|h1
   ·omega
   ·obtain⟨oj,qH,e,he,hb,TF⟩:=Region.waitsFor_spec h1;rw[YB]at qH;cases qH;have h2:=aD e he hb;rw[TF]at h2;have h3:=inv.tail (t-1) (by omega) (by omega);rw[getD_both h3]at h2;cases h2
  ·obtain rfl:t=n:=by omega
   have h1:=Ic.1 hs i (td.2 hi);simp only[Bool.or_eq_true,beq_iff_eq]at h1;rcases h1 with rfl|h1
   ·rw[hp]at nY;cases nY
   ·obtain⟨j,hj,EN⟩:=List.any_eq_true.1 h1;simp only[lQ,decide_eq_true_eq]at EN;obtain⟨oj,qH,e,he,hb,TF⟩:=Region.waitsFor_spec EN.2;have zcD:j<=t:=by have:=td.1 hj;omega
    rcases kI j t with Jt|Jt
    ·have hju:listed.getD j true=false:=by
      cases kz:listed.getD j true with
      | false=>rfl
      | true=>
       have hjs:j<listed.size:=by rw[inv.size];omega
       have hjf:listed.getD j false=true:=by simp[hjs]at kz ⊢;exact kz
       have h2:=inv.closed j oj qH hjf e he hb;rw[TF,getD_both nY]at h2;cases h2
     exact ih (t-j) (by omega) j rfl Jt hju t (ay _) hr
    ·obtain rfl:j=t:=by omega
     rw[YB]at qH;cases qH;have h2:=aD e he hb;rw[TF,getD_both nY]at h2;cases h2
def yh (md:Region.Mode) (ops:Array Oper) (n p:Nat) (order:OT Nat):Bool:=
 Region.noSelect ops&&decide (n<ops.size)&&decide (p<n)&&Fu md ops n p&&Region.chainB md ops n&&Region.free md ops (Array.replicate ops.size false) p&&(Region.ready md ops (Array.replicate ops.size false)).contains p&&decide (order.len+(ops.size-n)+1=ops.size)&&qy md ops n order ((Array.replicate ops.size false).setIfInBounds p true)
theorem qm8 {id:Nat} {a:Act} {w:World} {l:List Oper} (n p:Nat) (v:Value) (order:OT Nat) (S:LN) (hm:P.follows .mixedOrders=true) (hB:yh .any l.toArray n p order=true)
  (hQ:∀c a d v w,Q (.panic c) (Act.put a d v) w->Q (.panic c) a w) (hy:Yields P l.toArray (l.getD p default) v a)
  (h:jQ P l.toArray S Q (l.drop n) (order.map λx=>l.getD x default) (a.put (l.getD p default).dst v) w.drew):(Code.region id l.toArray true).wp P Q a w:=by
 simp only[yh,lQ,decide_eq_true_eq]at hB;obtain⟨⟨⟨⟨⟨⟨⟨⟨cE,hn⟩,TB⟩,hs⟩,hc⟩,hf⟩,hr⟩,hlen⟩,xt⟩:=hB;have fY:p<l.length:=by simp at hn;omega
 have ur:l.toArray[p]?=some (l.getD p default):=by simp[List.getD,fY]
 have Bz:HeadInv .any l.toArray n (Array.replicate l.toArray.size false):=
  ⟨by simp,λj oj _ hl=>(by rw[getD_replicate_false]at hl;cases hl),λt _ ht=>getD_in (by simpa using ht) (getD_replicate_false _ _)⟩
 have inv1:=Bz.set (by simpa using hr) TB;refine wp_region_any hm ?_;have cV:l.toArray.size=order.len+(l.toArray.size-n)+1:=hlen.symm;rw[cV];refine wpAny_take (v:=v) ur cE (by rw[<-cV];exact hf) (by rw[<-cV];exact hr) (λc a' w' h'=>hQ _ _ _ _ _ h') hy ?_;rw[<-cV];refine SX (n:=n) (C:=fO S w.drew) _ _ _ _ ?_;exact Lh (P:=P) (Q:=Q) (md:=.any) (n:=n) (S:=S) (I:=λx=>HeadInv .any l.toArray n x/\x.getD p true=true) (λx j h1 h2 h3=>⟨h1.1.set h2 h3,by
   by_cases hjp:j=p
   ·subst hjp
    have:=inv1.size
    have hj:j<x.size:=by rw[h1.1.size];simpa using fY
    simp[hj]
   ·rw[getD_set_ne true hjp];exact h1.2⟩) rfl cE hQ (λi hi x hx nY t ht=>qs0 hs hc hx.1 hx.2 _ i rfl hi nY t ht) order _ _ w.drew ⟨inv1,by simp[fY]⟩ xt h
def OT.qg {α:Type}:Nat->OT α->List α
 | 0,_=>[]
 | k+1,.one false x t=>x::t.qg k
 | _+1,_=>[]
def OT.behind {α:Type}:Nat->OT α->OT α
 | 0,t=>t
 | k+1,.one false _ t=>t.behind k
 | _+1,t=>t
theorem qvi {S:LN} {tail:List Oper} (k:Nat) {t:OT Oper} {a:Act} {w:World}
  (h:wpQuiet P ops (fO S w) (λa'=>jQ P ops S Q tail (t.behind k) a' w) (t.qg k) a):jQ P ops S Q tail t a w:=by
 induction k generalizing t a with
 | zero=>exact h
 | succ k ih=>
  cases t with
  | done=>exact h
  | two _ _ _ _=>exact h
  | one e o t=>
   cases e with
   | true=>exact h
   | false=>
    simp only[OT.qg,OT.behind,wpQuiet]at h;unfold jQ;by_cases hw:Region.wanted o (yielded ops a.tmps)=true
    ·rw[if_pos hw]at h ⊢;obtain⟨v,h1,h2⟩:=h;exact⟨v,h1,ih h2⟩
    ·rw[if_neg hw]at h ⊢;exact ih h
theorem VO {S:LN} {o:Oper} {a:Act} {w:World} {K:Act->World->Prop} (hw:Region.wanted o (yielded ops a.tmps)=true)
  (h:∀K':Act->World->Prop,Go.RowKit.Hid (∀a' w',Fr S w w'->K a' w'->K' a' w')->o.wp P a w K' Q):xK P ops S Q o K a w:=by
 unfold xK;rw[if_pos hw];exact h _ λ_ _ h1 h2=>⟨h1,h2⟩
theorem FJ {S:LN} {tail:List Oper} {t:OT Oper} {o:Oper} {a:Act} {w:World} (hw:Region.wanted o (yielded ops a.tmps)=true)
  (h:∀K:Act->World->Prop,Go.RowKit.Hid (∀a' w',Fr S w w'->jQ P ops S Q tail t a' w'->K a' w')->o.wp P a w K Q):jQ P ops S Q tail (.one true o t) a w:=
 VO hw h
theorem qvh {S:LN} {tail:List Oper} {t u:OT Oper} {o p:Oper} {a:Act} {w:World} (ho:Region.wanted o (yielded ops a.tmps)=true) (hp:Region.wanted p (yielded ops a.tmps)=true)
  (h1:∀K:Act->World->Prop,Go.RowKit.Hid (∀a' w',Fr S w w'->jQ P ops S Q tail t a' w'->K a' w')->o.wp P a w K Q)
  (h2:∀K:Act->World->Prop,Go.RowKit.Hid (∀a' w',Fr S w w'->jQ P ops S Q tail u a' w'->K a' w')->p.wp P a w K Q):jQ P ops S Q tail (.two o t p u) a w:=
 ⟨VO ho h1,VO hp h2⟩
theorem SA {S:LN} {tail:List Oper} {a:Act} {w:World} (h:wpList P ops Q tail a w):jQ P ops S Q tail .done a w:=h
end
end lib

end Go.Proofs.YtkmpfgpfbmeihaaGreatDoor