/-
  Texts of this proof, one behind the other: DeltaMake, WrTry, Unhex, MixT.
-/
import Derived.Test.YtkmpfgpfbmeihaaGreatDoorS23
set_option maxHeartbeats 16000000
set_option maxRecDepth 100000
set_option linter.unusedVariables false
set_option linter.unusedSimpArgs false
namespace Go.Proofs.YtkmpfgpfbmeihaaGreatDoor.delta
open Go Go.RowKit lib bm
def MadeNew (base text:List UInt8) (w:World) (e:Ending) (w':World):Prop:=∃d,Made base text d∧NewBytes w d e w'
theorem zb0 (a b:Option Addr) (cap capb:Nat) (base text:List UInt8) (m:Int) (w:World) (hb:Rd w a cap base) (ht:Rd w b capb text) (hlb:base.length≤1000000) (hlt:text.length≤1000000) (hm:w.cell? ⟨0,0,none⟩=some (.int .i64 m)) :
  Calls Tryz.prog 66 #[.slice a base.length cap,.slice b text.length capb] w (MadeNew base text w):=by
 have hmm:=@run_makeMap Tryz.prog;obtain⟨BL,hBL⟩:=zex base.length;obtain⟨TL,hTL⟩:=zex text.length;obtain⟨b1,hb1⟩:∃b,b=numb BL:=⟨_,rfl⟩;obtain⟨b2,hb2⟩:∃b,b=numb TL:=⟨_,rfl⟩;have hN:∀n:Nat,n≤1000000→∀w,Calls Tryz.prog 97 #[.int .i64 (n:Nat)] w (NewBytes w (numb n)):=λn hn w=>by have:=qvl (n:Int) w (by omega);rwa [qdm]at this
 have hN1:=hN BL (by omega);have hN2:=hN TL (by omega);rw[<-hb1]at hN1;rw[<-hb2]at hN2;unfold NewBytes at hN1 hN2;obtain⟨L1,hL1⟩:∃L,L=b1.length:=⟨_,rfl⟩;obtain⟨L2,hL2⟩:∃L,L=b2.length:=⟨_,rfl⟩;have hl1:=qph 8 BL (by rw[hBL];exact qdr hlb (by decide));have hl2:=qph 8 TL (by rw[hTL];exact qdr hlt (by decide));have hl3:=zbs TL;rw[<-hb1,<-hL1]at hl1;rw[<-hb2,<-hL2]at hl2 hl3;rw[<-hBL,<-hTL];rw[<-hBL]at hlb;rw[<-hTL]at hlt;have HB:=zhd5 hb ht hm hBL hTL;have HC:=zhd5 hN1 hN2 (And.intro hb1 hb2) hL1 hL2;have hcap:BL≤cap∧cap≤maxLen∧TL≤capb∧capb≤maxLen:=by rw[hBL,hTL];exact⟨hb.le,hb.max,ht.le,ht.max⟩
 unfold maxLen at hcap;clear hN hN1 hN2 hb1 hb2 hL1 hL2 hb ht hm hBL hTL;have tok1:True:=trivial;go_enter Tryz.func66,Tryz.ntmps66;go_upto_region 2 with (first|(go_at_call 97;have _t:=tok1;refine (HC.o0 _).mono ?_;rintro e w1 ⟨a1,rfl,r1,_,f1⟩;rw[<-HC.out.2.2.2.1]at r1 ⊢;have H1:=zhd2 r1 f1;clear r1 f1;clear tok1 _t)|(go_at_call 97;refine (HC.l1.1 _).mono ?_;rintro e w2 ⟨a2,rfl,r2,_,f2⟩;rw[<-HC.out.2.2.2.2]at r2 ⊢;have H2:=zhd2 r2 f2;clear r2 f2)|(refine qd6 sliceU8 rfl _ _ rfl a1 L1 L1 (b1.map bv) rfl (H1.o0.fr H2.l1).cs (by rw[qap,<-HC.out.2.2.2.1,qce]) (qae _) H1.o0.nil a2 L2 L2 (b2.map bv) rfl H2.o0.cs (by rw[qap,<-HC.out.2.2.2.2,qce]) (by omega) (by omega) (by unfold maxLen;omega) ?_;intro c3 w3 A3;have H3:=zhd A3;clear A3));obtain⟨q,hq⟩:=zex w3.heap.size;obtain⟨g2,hg2⟩:∃g,g=w2.heap.size:=⟨_,rfl⟩;obtain⟨W,hW⟩:∃W,W=w3.alloc (Obj.cells #[Value.slice (some { block:=w2.heap.size,off:=0 }) (L1+L2) c3,Value.slice none 0 0] 168):=⟨_,rfl⟩;have hM:Mk [] w W q (some ⟨g2,0,none⟩) c3 (b1++b2) none 0 []∧Fr [] w W∧(b1++b2).length=L1+L2:=by
  have hle:(b1++b2).length=L1+L2:=by rw[qab,<-HC.out.2.2.2.1,<-HC.out.2.2.2.2]
  have fw:Fr [] w w3:=(H1.l1.trans H2.l1).trans H3.out.fr;have fW:Fr [] w W:=by rw[hW];exact fw.alloc _
  have o3:=(qh8 H3.out.own).1;rw[<-qbe,<-hg2]at o3;have hlt3:=o3.lt g2 (by simp[blk]);have hs2:=(H1.l1.trans H2.l1).size;have hs3:=fw.size;refine⟨⟨?_,?_,Own.nil _ _,?_,by simp[blk],by simp[blk],fW,.inr (by omega),?_,by simp[blk]⟩,fW,hle⟩
  ·rw[hW,hq,hle,hg2];exact qay w3 _
  ·rw[hW];exact o3.fr ((Fr.refl [] w3).alloc _) (by simp)
  ·simp[blk];omega
  ·simp[blk];omega
 rw[<-hW,<-hq,<-hg2];have HI:=zhd (show Calls Tryz.prog 98 #[.slice a BL cap,.slice b TL capb] W λe w'=>IdxPost base text e∧Fr [] W w' from by
  have h:=HB.out
  have:=qys a b cap capb base text m W (h.1.fr hM.2.1) (h.2.1.fr hM.2.1) (by rw[<-h.2.2.2.1];omega) (hM.2.1.cell h.2.2.1 (by simp))
  rwa [<-h.2.2.2.1,<-h.2.2.2.2]at this)
 have HM:=zhd hM;clear hM hW hq hg2 H1 H2 H3;go_upto_region 3 with (go_at_call 98;refine HI.out.mono ?_;rintro e W1 ⟨hp,fI⟩;have HF:=zhd fI;unfold IdxPost at hp;clear fI;rcases hp with⟨p,rfl,ho⟩|⟨rfl,hno⟩)
 ·obtain⟨hd,hhd⟩:=zex (b1++b2);have hp:=ho.1;have hC:Calls Tryz.prog 99 #[.pointer (some ⟨q,0,none⟩),.int .i64 (p:Nat),.int .i64 (TL:Nat)] W1 λe W'=>e = .returned (.tuple #[])∧∃oa' oc' wa' wc',Mk [] w W' q oa' oc' (hd++lits ([]:List UInt8).length []++cops TL p TL) wa' wc' []:=by have h:=HB.out;rw[hhd];exact qut [] w W1 q p TL _ _ _ _ _ _ (HM.out.1.fr0 HF.out) (by rw[HM.out.2.2];simp;omega) (by rw[<-h.2.2.2.1,<-h.2.2.2.2]at hp;omega)
  have HCP:=zhd3 hC ho hhd;clear hC ho hp hhd;go_upto_region 5 with (go_at_call 99;refine HCP.o0.mono ?_;rintro e W2 ⟨rfl,oa,oc,wa,wq,mk⟩);obtain⟨out,hout⟩:∃out,out=hd++lits ([]:List UInt8).length []++cops TL p TL:=⟨_,rfl⟩;rw[<-hout]at mk;obtain⟨n,hn⟩:=zex out.length;have c0:=cell_of mk.blk 0;simp only[qag,qac]at c0;obtain⟨o1,o2,o3⟩:=mk.o.shape;rw[qap,<-hn]at o1;rw[<-hn]at c0;have hsl:=λw=>qjh sliceU8 n oa oc o1 w
  have HK:=zhd3 mk hout hn;clear mk hout hn;go_quiet (fail);go_wp2;go_ret;have h:=HB.out;refine⟨out,?_,(HK.o0.fr0 (Fr.drewN [] W2 nq)).made (Fr.refl [] w) (by simp) n HK.out.2.2⟩;rw[HK.l1.1,HCP.l2,HC.out.2.2.1.1,HC.out.2.2.1.2,h.2.2.2.1,h.2.2.2.2];exact qvs (by rw[<-h.2.2.2.1];omega) HCP.o1
 ·obtain⟨bm,hbm⟩:=zex W1.heap.size;obtain⟨i0,hi,hz0,hz1,hz2⟩:=info_parts qjr;have HI0:=zhd6 hi hz0 hz1 hz2 hno hbm;clear hi hz0 hz1 hz2 hno hbm HI;go_upto_block 0 with fail;rw[<-HI0.l5];go_cut [8,9] from 49 to 73 (λs8 s9 wz=>∃n D,Gm BL wz bm n D∧n≤BL+16∧Fr [] W1 wz)
  case first=>
   go_wp2;go_loopg [8,9] (BL+16) (λk s8 s9 wr=>∃i n D,s8 = .int .i64 (i:Nat)∧i+k=BL+16∧n≤i∧Gm BL wr bm n D∧Fr [] W1 wr∧bm<wr.heap.size);case atStart=>
    refine⟨0,0,.map [],rfl,by omega,qae _,?_,(Fr.refl [] W1).alloc _,?_⟩
    ·have:=zfo BL W1;rwa [<-HI0.l5]at this
    ·rw[HI0.l5];simp
   case round=>
    obtain⟨i,n,D,rfl,hik,hni,hgm,hfr,hsz⟩:=hrel;obtain⟨wo,rfl⟩:∃wo:World,wo=wr:=⟨_,rfl⟩;have HG:=zhd2 hgm hfr;clear hgm hfr;by_cases hi16:i+16≤BL
    ·have hW:Calls Tryz.prog 100 #[.slice (cutAtN a cap i 1) (BL-i) (cap-i)] wo λe w'=>wo=w'∧∃v,e = .returned v∧U64 v:=by have h:=HB.out;have hr:=(h.1.fr ((HM.out.2.1.trans HF.out).trans HG.l1)).drop i (by rw[<-h.2.2.2.1];omega);have:=qtj _ _ _ wo hr (by rw[qav,<-h.2.2.2.1];omega);rwa [qav,<-h.2.2.2.1]at this
     have HW:=zhd hW;clear hW;go_upto_region 11 with (first|(refine qb2 sliceU8 i rfl _ _ rfl a BL cap _ rfl rfl rfl (by omega) (by omega) ?_)|(go_at_call 100;refine HW.out.mono ?_;rintro e w4 ⟨rfl,v,rfl,x,rfl,hx⟩));have HX:=zhd2 hx (qyj hx);clear hx;have hi0:=HI0.o0;have hz0:=HI0.o1;have hz1:=HI0.o2;have hz2:=HI0.o3;go_wp2_with (first
      | (at_lookup;refine wpList_lookup_groups (H:=Unit) _ rfl _ _ 171 rfl 104 28 3 .i64 qq5 qhq (qp6 _) (bm+1) bm n D rfl HG.o0.own (by unfold maxLen;omega) (.int .u64 x) (.int .u64 x) rfl HX.out.2 ?_;intro v zs hat hoi hzl hback;obtain⟨va,vc,rfl,v1,v2,v3⟩:=qf4 hoi.1;have HV:=zhd3 hat hoi hback;clear hat hoi hback)
      | (at_builtin;refine wpList_append_own_at _ rfl _ _ 28 rfl (bm+1) 3 i0 (.int .i64 0) 1 8 zau hi0 hz0 hz1 hz2 rfl (by decide) _ _ _ rfl (HV.o1.1.alloc _) ⟨wo.heap.size,0,none⟩ 1 1 [.int .i64 i] rfl rfl (cell_one_new _ _ _) (ints_oneCell .i64 [(i:Int)]) (by unfold maxLen;omega) (by omega) (by simp;omega) ?_;intro v' w5 hown' hgrow hnil hloc;have HA:=zhd3 hown' hgrow hloc;clear hown' hgrow hnil hloc)
      | (at_mapUpdate;refine wpList_mapUpdate_back _ rfl _ _ _ 171 rfl HV.l2 rfl rfl rfl ((World.grownBy_alloc _ _ _).trans HA.out.2.1) (HV.o1.appended HA.out.1 (WalkArith.wf_i64 (by omega))) (by simp;omega) (HA.out.2.2.imp id (λh=>⟨_,h,by simp⟩)) ?_;intro w6 hown2 hgrow2;have HU:=zhd2 hown2 hgrow2;clear hown2 hgrow2)
      | go_in)
     ·go_roundg (gk-16);case measure=>omega
      case rel=>
       have hall:=(World.grownBy_alloc wo _ _).trans HA.out.2.1;have f5:Fr [] W1 w5:=HG.l1.grown hall λj hj=>by have:=(HV.o1.1.lt j hj).1;have:=HI0.l5;right;omega
       have f6:Fr [] W1 w6:=f5.grown HU.l1 λj hj=>by cases hj;right;exact Nat.le_of_eq HI0.l5.symm
       have hs5:=hall.size;have hs6:=HU.l1.size;exact⟨i+16,n+1,_,by go_num,by omega,by omega,⟨HU.o0,HG.o0.good.put HV.o0 HV.o1.datum (by omega)⟩,f6,by omega⟩
     ·go_roundg (gk-16);case measure=>omega
      case rel=>exact⟨i+16,n,D,by go_num,by omega,by omega,HG.o0,HG.l1,hsz⟩
    ·go_wp2;go_meet;exact⟨n,D,HG.o0,by omega,HG.l1⟩
  case rest=>
  obtain⟨n0,D,hgm,hn0,hfr⟩:=hcut;obtain⟨W2,rfl⟩:∃W2:World,W2=wc:=⟨_,rfl⟩;obtain⟨hd,hhd⟩:=zex (b1++b2);obtain⟨S0,hS0⟩:=zex ([q,g2]);have hmk:Mk S0 W2 W2 q (some ⟨g2,0,none⟩) c3 hd none 0 []:=by rw[hS0,hhd];exact ((HM.out.1.fr0 HF.out).fr0 hfr).rebase
  have hSb:∀y∈S0,w.heap.size≤y∧y<bm:=by intro y hy;have h:=HM.out.1.fr0 HF.out;have h1:=lt_of_block h.blk;have h2:=h.o.lt g2 (by simp[blk]);have h3:=h.new;have h4:=h.newO g2 (by simp[blk]);simp at h3 h4;rw[HI0.l5];rw[hS0]at hy;simp at hy;rcases hy with rfl|rfl<;>omega
  have hbs:bm<W2.heap.size:=by obtain⟨es,clock,hb,_⟩:=hgm.own;exact lt_of_block hb
  have hlen:hd.length=L1+L2:=by rw[hhd];exact HM.out.2.2
  have hmade:hd=numb base.length++numb text.length:=by rw[hhd,HC.out.2.2.1.1,HC.out.2.2.1.2,HB.out.2.2.2.1,HB.out.2.2.2.2]
  have HG:=zhd5 hgm hmk hSb (((HM.out.2.1.trans HF.out).trans hfr)) hmade;have HNO:=zhd HI0.o4;clear hgm hmk hSb hfr hhd hS0 hmade HC HM HF HI0 hmm;go_upto_block 2 with fail;go_cut [10,11,12,13] from 73 to 144 (λs10 s11 s12 s13 wz=>∃oa oc out wa wq wait,Mk S0 W2 wz q oa oc out wa wq wait∧St base text hd out wait text.length)
  case first=>
   go_wp2;go_loopg [10,11,12,13] TL (λk s10 s11 s12 s13 wr=>∃i oa oc out wa wq wait,s10 = .int .i64 (i:Nat)∧Mk S0 W2 wr q oa oc out wa wq wait∧St base text hd out wait i∧i+k=TL);case atStart=>exact⟨0,_,_,hd,_,_,[],rfl,HG.l1.1,za7 base text hd,by omega⟩
   case round=>
    obtain⟨i,oa,oc,out,wa,wq,wait,rfl,mk,st,hik⟩:=hrel;obtain⟨wo,rfl⟩:∃wo:World,wo=wr:=⟨_,rfl⟩;obtain⟨t1,t2,t3⟩:=st.len;rw[<-HB.out.2.2.2.2]at t1 t3;obtain⟨WL,hWL⟩:=zex wait.length;have HK:=zhd3 mk st hWL;rw[<-hWL]at t2;clear mk st hWL;by_cases hiT:i<TL
    ·go_upto_if 81 with fail;have F0:Fr [] w wo:=HG.out.2.2.2.1.step HK.o0.fr λy hy=>.inr (HG.out.2.2.1 y hy).1
     have hgm:Gm BL wo bm n0 D:=HG.o0.kept ((Kept.refl bm W2).fr HK.o0.fr λy hy=>.inl (HG.out.2.2.1 y hy).2) (qae _);have HO:=zhd2 F0 hgm;clear F0 hgm;go_cut [11,12,13] from 81 to 101 (λs11 s12 s13 wz=>∃p k n:Nat,s11 = .int .i64 (p:Nat)∧s12 = .int .i64 (k:Nat)∧s13 = .int .i64 (n:Nat)∧Found base text i WL p k n∧Fr [] wo wz)
     case first=>
      by_cases h16:i+16≤TL
      ·have c1:=cell_of HK.o0.blk 1;simp only[qag,qac,qaf]at c1;rw[<-HK.out.2.2]at c1;have q1:∀y,(sup [] wo.drew y).cell? ⟨q,1,none⟩=some (.slice wa WL wq):=λy=>(qcm [] wo.drew y).cell ((Fr.drew1 [] wo).cell c1 (by simp)) (by simp)
       have hsl:=λw=>lib.qd2 sliceU8 i b TL capb (i:Int) rfl (by omega) (by omega) w
       have hW:∀w,Fr [] wo w→Calls Tryz.prog 100 #[.slice (cutAtN b capb i 1) (TL-i) (capb-i)] w λe w'=>w=w'∧∃v,e = .returned v∧U64 v:=λw5 f=>by have h:=HB.out;have hr:=(h.2.1.fr (HO.o0.trans f)).drop i (by rw[<-h.2.2.2.2];omega);have:=qtj _ _ _ w5 hr (by rw[qav,<-h.2.2.2.2];omega);rwa [qav,<-h.2.2.2.2]at this
       have hF:∀w (pa:Option Addr) (pc:Nat) (ps:List Nat),Fr [] wo w→Cs w pa (ps.map λp=>.int .i64 (p:Nat))→ps.length≤pc→(∀p∈ps,p≤BL)→ps.length≤n0→
         Calls Tryz.prog 101 #[.slice a BL cap,.slice b TL capb,.slice pa ps.length pc,.int .i64 (i:Nat),.int .i64 (WL:Nat)] w λe w'=>∃p k n:Nat,e = .returned (.tuple #[.int .i64 (p:Nat),.int .i64 (k:Nat),.int .i64 (n:Nat)])∧Found base text i WL p k n∧Fr [] w w':=λw5 pa pc ps f hcs hle hp hn=>by
        have h:=HB.out
        have:=zcq a b pa cap capb pc base text ps i WL w5 (h.1.fr (HO.o0.trans f)) (h.2.1.fr (HO.o0.trans f)) hcs hle (by rw[<-h.2.2.2.1];exact hp) (by rw[<-h.2.2.2.2];exact t3) t2 (by rw[<-h.2.2.2.1];omega) (by rw[<-h.2.2.2.2];omega) (by omega)
        rwa [<-h.2.2.2.1,<-h.2.2.2.2]at this
       have HWF:=zhd2 hW hF;clear hW hF c1;go_upto_region 17 with fail;refine qb3 22 [(false,0),(false,1),(false,2),(false,3),(false,4),(false,5),(false,8),(false,9),(false,10),(false,11),(false,12),(false,13),(true,6),(true,7),(true,14),(false,15),(false,16),(false,17),(false,18),(false,19),(false,20),(false,21)] [] (by kernel_rfl) (by kernel_rfl) (λ_ _ d _ _ h=>by cases d<;>exact h) ?_;simp only[qak,qam,qaz,qa0,qad,qaj,qbk];refine qb0 12 rfl ?_;simp only[qah,qan,qad,qaj,qak,qam];repeat (go_big_quiet_step (fail))
       refine wpQuiet_nil ?_;clear q1 hsl;refine qb6 rfl ?_;intro X hX;go_wp2_with (go_at_call 100;refine (HWF.o0 _ (Fr.drew1 [] _)).mono ?_;rintro e w4 ⟨rfl,v,rfl,x,rfl,hx⟩);refine hX.out _ _ (Fr.refl _ _) ?_;clear hX X;have HX:=zhd hx;clear hx;refine qb6 rfl ?_;intro X hX;refine qu2 (HO.l1.kept ((Kept.refl bm wo).fr (Fr.drew1 [] wo) (by simp)) (qae _)) (by unfold maxLen;omega) _ _ rfl rfl x rfl HX.out ?_;intro pa ps pc hcs hle hp hn;have hFD:=HWF.l1 _ pa pc ps (Fr.drew1 [] wo) hcs hle hp hn;have HFD:=zhd hFD;refine hX.out _ _ (Fr.refl _ _) ?_;clear hX X hcs hp hFD;simp only[Act.put,qbb,qbx,qbq];refine qb6 rfl ?_;intro X hX;go_wp2_with (go_at_call 101;refine HFD.out.mono ?_;rintro e w5 ⟨p,k,n,rfl,hfd,f5⟩);refine hX.out _ _ f5 ?_;clear hX X;have HR:=zhd2 hfd f5;clear hfd f5;refine qb0 7 rfl ?_;simp only[qah,qan,qad,qaj,qak,qam];repeat (go_big_quiet_step (fail))
       refine wpQuiet_nil ?_;refine qcq ?_;go_wp2;go_meet;exact⟨p,k,n,rfl,rfl,rfl,HR.o0,(Fr.drew1 [] wo).trans HR.l1⟩
      ·go_wp2;go_meet;exact⟨0,0,0,rfl,rfl,rfl,.inl ⟨rfl,rfl,rfl⟩,Fr.refl _ _⟩
     case rest=>
     obtain⟨p,k,n,rfl,rfl,rfl,hfd,fz⟩:=hcut;obtain⟨wp,rfl⟩:∃wp:World,wp=wc:=⟨_,rfl⟩;rcases hfd with⟨rfl,rfl,rfl⟩|⟨hn16,hmt,hkw,hbk⟩
     ·obtain⟨g,o,hbe,cb⟩:=HB.out.2.1.at (i:=i) (by rw[<-HB.out.2.2.2.2];exact hiT);have hgw:g<w.heap.size:=qhg w _ cb;obtain⟨u,hu⟩:∃u,u=text[i]'(by rw[<-HB.out.2.2.2.2];exact hiT):=⟨_,rfl⟩;rw[<-hu]at cb;have hst:=HK.l1.1.wait (by rw[<-HB.out.2.2.2.2];exact hiT);rw[<-hu]at hst;subst hbe;have mkp:=HK.o0.fr0 fz;have f0p:Fr [] w wp:=HO.o0.trans fz;obtain⟨S,hS⟩:=zex (blk wa);have hqS:q∉S:=by rw[hS];exact mkp.qx
      have hgS:g∉S:=by
       rw[hS];intro hg;have h2:=HG.out.2.2.2.1.size;rcases mkp.newX g hg with k|k
       ·have:=(HG.out.2.2.1 g k).1;omega
       ·omega
      have c1:=cell_of mkp.blk 1;simp only[qag,qac,qaf]at c1;rw[<-HK.out.2.2]at c1;have q1:∀y,(sup S wp.drew y).cell? ⟨q,1,none⟩=some (.slice wa WL wq):=λy=>(qcm S wp.drew y).cell ((Fr.drew1 [] wp).cell c1 (by simp)) hqS
      have qb:∀y,(sup S wp.drew y).cell? ⟨g,o+i,none⟩=some (.int .u8 (u.toNat:Nat)):=λy=>(qcm S wp.drew y).cell ((Fr.drew1 [] wp).cell (f0p.cell cb (by simp)) (by simp)) hgS
      have HP:=zhd4 mkp f0p hst hS;clear mkp f0p hst hS c1 cb hu;go_upto_region 19 with fail;refine qg7 13 [(false,0),(false,1),(false,2),(false,3),(false,4),(false,5),(false,6),(false,7),(false,8),(true,9),(true,10),(false,11),(false,12)] S (by kernel_rfl) (by kernel_rfl) (λ_ _ d _ _ h=>by cases d<;>exact h) ?_;simp only[qak,qam,qaz,qa0,qad,qaj,qbk];refine qgg 9 rfl ?_;simp only[qah,qan,qad,qaj,qak,qam];repeat (go_big_quiet_step (fail))
      refine wpQuiet_nil ?_;clear q1 qb;refine qfp rfl ?_;intro X hX;go_wp2;refine hX.out _ _ wp.drew (Fr.refl _ _) ((Fr.refl S wp.drew).alloc _) ?_;clear hX X;obtain⟨w4,hw4⟩:∃w4,w4=(wp.alloc (.cells #[.int .u8 (u.toNat:Nat)] 5)).drew:=⟨_,rfl⟩;have f4:Fr [] wp w4:=by rw[hw4];exact ((Fr.refl [] wp).alloc _).drew
      have hb4:w4.heap[wp.heap.size]?=some (.cells #[.int .u8 (u.toNat:Nat)] 5 (0,0)):=by rw[hw4];exact (Fr.drew1 [] _).blk (qay wp _) (by simp)
      have hcb:Cs w4 (some ⟨wp.heap.size,0,none⟩) (([u]:List UInt8).map bv):=qdp _ _ _ _ (by rw[hb4];rfl);have fb4:Fr S wp.drew w4:=by rw[hw4];exact (((Fr.refl S wp).alloc _).drew).from_drew
      have F4:=zhd2 f4 hcb;obtain⟨x1,x2,x3⟩:=HP.out.1.x.shape;rw[qap,<-HK.out.2.2]at x1;rw[<-hw4];clear hw4 f4 hb4 hcb;refine qfp rfl ?_;intro X hX;refine qfn sliceU8 _ _ rfl wa WL wq (wait.map bv) rfl (HP.out.1.x.fr F4.o0 (by simp)) (by rw[qap];exact HK.out.2.2.symm) (some ⟨wp.heap.size,0,none⟩) 1 1 (([u]:List UInt8).map bv) rfl (by decide) (by simp) F4.l1 (by rfl) (qc0 _) (by omega) (by unfold maxLen;omega) ?_;intro a5 c5 w5 A5;have fb5:Fr S wp.drew w5:=fb4.step A5.fr λy hy=>.inl (by rw[HP.out.2.2.2];exact hy)
      refine hX.out _ _ wp.drew (Fr.refl _ _) fb5 ?_;clear hX X;simp only[Act.put,qbb,qbx,qbq];have HA:=zhd A5;have hbq:=fb5.blk ((Fr.drew1 [] wp).blk HP.out.1.blk (by simp)) hqS;have c1:=cell_of hbq 1;have z1:=qau hbq 1;simp only[qag,qac,qaf]at c1;clear hbq A5 fb4;refine qgg 2 rfl ?_;simp only[qah,qan,qad,qaj,qak,qam];repeat (go_big_quiet_step (fail))
      refine wpQuiet_nil ?_;refine qlj ?_;go_wp2;go_roundg (gk-1);case measure=>omega
      case rel=>have A:=HA.out;rw[<-qbe]at A;exact⟨i+1,oa,oc,out,a5,c5,wait++[u],by go_num,HP.out.1.waitMore F4.o0 (by simpa using A) (by rw[HK.out.2.2];rfl),HP.out.2.2.1,by omega⟩
     ·have hst:=HK.l1.1.copy (by rw[<-HB.out.2.2.2.1];omega) hn16 hmt (by rw[<-HK.out.2.2];exact hkw) hbk;rw[<-HK.out.2.2]at hst;have hmt1:=hmt.1;have hmt2:=hmt.2.1;have hbk1:=hbk.1;rw[<-HB.out.2.2.2.1]at hmt1;rw[<-HB.out.2.2.2.2]at hmt2;have mkp:=HK.o0.fr0 fz;have c1:=cell_of mkp.blk 1;have z1:=qau ((Fr.drew1 [] wp).blk mkp.blk (by simp)) 1;have d1:=(Fr.drew1 [] wp).cell c1 (by simp);simp only[qag,qac,qaf]at c1 d1;rw[<-HK.out.2.2]at c1 d1;have q1:∀y,(sup [] wp.drew y).cell? ⟨q,1,none⟩=some (.slice wa WL wq):=λy=>(qcm [] wp.drew y).cell ((Fr.drew1 [] wp).cell c1 (by simp)) (by simp)
      obtain⟨x1,x2,x3⟩:=mkp.x.shape;rw[qap,<-HK.out.2.2]at x1;have hsl:=λw=>lib.qdy sliceU8 (WL-k) wa WL wq ((WL:Int)-(k:Int)) (by omega) (by omega) w
      have hC:Calls Tryz.prog 99 #[.pointer (some ⟨q,0,none⟩),.int .i64 ((p:Int)-(k:Int)),.int .i64 ((k:Int)+(n:Int))] (wp.drew.setCell ⟨q,1,none⟩ (.slice wa (WL-k) wq)) λe W'=>e = .returned (.tuple #[])∧∃oa' oc' wa' wc',Mk S0 W2 W' q oa' oc' (out++lits (wait.take (WL-k)).length (wait.take (WL-k))++cops (k+n) (p-k) (k+n)) wa' wc' []:=by
       have hwl:(wait.take (WL-k)).length=WL-k:=by rw[qaq,<-HK.out.2.2];omega
       have m2:=(mkp.fr0 (Fr.drew1 [] wp)).wait1 (wait2:=wait.take (WL-k)) (n:=WL-k) (by rw[qlc];exact (mkp.fr0 (Fr.drew1 [] wp)).x.take (WL-k)) hwl (λy hy=>hy);have:=qut S0 W2 _ q (p-k) (k+n) _ _ _ _ _ _ m2 (by rw[hwl];omega) (by omega);rwa [show (((p-k:Nat):Int))=(p:Int)-(k:Int) from by omega,show (((k+n:Nat):Int))=(k:Int)+(n:Int) from by omega]at this
      have HC:=zhd2 hC hst;have b1:decide ((n:Int)<16)=false:=by simp;omega
      clear hC hst mkp hmt hbk c1;go_upto_region 21 with fail;refine qb3 15 [(false,0),(false,1),(false,2),(false,3),(false,4),(false,5),(false,6),(false,7),(false,8),(false,9),(false,10),(false,11),(false,12),(false,13),(false,14)] [] (by kernel_rfl) (by kernel_rfl) (λ_ _ d _ _ h=>by cases d<;>exact h) ?_;simp only[qak,qam,qaz,qa0,qad,qaj,qbk];refine qb0 15 rfl ?_;simp only[qah,qan,qad,qaj,qak,qam];repeat (go_big_quiet_step (fail))
      refine wpQuiet_nil ?_;clear q1 hsl;refine qcq ?_;go_wp2_with (go_at_call 99;refine HC.o0.mono ?_;rintro e w6 ⟨rfl,oa2,oc2,wa2,wq2,m6⟩);go_roundg (gk-n);case measure=>omega
      case rel=>exact⟨i+n,oa2,oc2,_,wa2,wq2,[],by go_num,m6,HC.l1,by omega⟩
    ·go_wp2;go_meet;obtain rfl:i=TL:=by omega
     have h:=HK.l1.1;rw[HB.out.2.2.2.2]at h;exact⟨oa,oc,out,wa,wq,wait,HK.o0,h⟩
  case rest=>
  obtain⟨oa,oc,out,wa,wq,wait,mk,st⟩:=hcut;obtain⟨W3,rfl⟩:∃W3:World,W3=wc:=⟨_,rfl⟩;have t:=st.len;rw[<-HB.out.2.2.2.2]at t;have hfl:=qrd S0 W2 W3 q oa wa oc wq out wait mk (by omega);have hmd:Made base text (out++lits wait.length wait):=by have h:=HG.out.2.2.2.2;rw[h]at st;exact qyb HNO.out st
  obtain⟨R,hR⟩:=zex (out++lits wait.length wait);rw[<-hR]at hfl hmd;have HFL:=zhd2 hfl hmd;clear hfl hmd hR mk st t;go_upto_region 25 with (go_at_call 102;refine HFL.o0.mono ?_;rintro e W4 ⟨rfl,oa,oc,wa,wq,mk⟩);obtain⟨n,hn⟩:=zex R.length;have c0:=cell_of mk.blk 0;simp only[qag,qac]at c0;obtain⟨o1,o2,o3⟩:=mk.o.shape;rw[qap,<-hn]at o1;rw[<-hn]at c0;have hsl:=λw=>qjh sliceU8 n oa oc o1 w
  have HK:=zhd2 mk hn;clear mk hn;go_quiet (fail);go_wp2;go_ret;exact⟨R,HFL.l1,(HK.o0.fr0 (Fr.drewN [] W4 nq)).made HG.out.2.2.2.1 (λy hy=>(HG.out.2.2.1 y hy).1) n HK.l1⟩
end Go.Proofs.YtkmpfgpfbmeihaaGreatDoor.delta
namespace Go.Proofs.YtkmpfgpfbmeihaaGreatDoor.pk
open Go Go.RowKit lib bm
def TryW (w:World) (F Q:Nat) (bV:Value) (base:List UInt8) (text:List UInt8) (e:Ending) (w':World):Prop:=e = .returned (.tuple #[])∧Fr [F,Q] w w'∧∃d,delta.Made base text d∧
 ((d.length<text.length∧w'.heap[F]?=some (.cells #[bV] 98 (0,0))∧∃da,w'.heap[Q]?=some (.cells #[.slice da d.length d.length] 23 (0,0))∧lib.Rd w' da d.length d∧(∀y∈blk da,w.heap.size≤y∧y<w'.heap.size))∨
  (text.length≤d.length∧w'.heap[F]?=some (.cells #[.nilIface] 98 (0,0))∧w'.heap[Q]?=some (.cells #[.slice none 0 0] 23 (0,0))))
set_option maxRecDepth 100000
theorem zha (X F Q:Nat) (s:ByteArray) (xa:Option Addr) (xc:Nat) (base:List UInt8) (o:Obj) (oa:Option Addr) (oc:Nat) (m:Int) (w:World) (hx:w.heap[X]?=some (.cells (objV o oa oc) 34 (0,0))) (hF:w.heap[F]?=some (.cells #[.nilIface] 98 (0,0))) (hQ:w.heap[Q]?=some (.cells #[.slice none 0 0] 23 (0,0)))
  (hFQ:F≠Q) (hb:lib.Rd w xa xc base) (ho:lib.Rd w oa oc o.body) (hlb:base.length≤65536) (hlo:o.body.length≤65536) (hm:w.cell? ⟨0,0,none⟩=some (.int .i64 m)) :
  Calls Tryz.prog 65 #[.iface 124 (.string s),.slice xa base.length xc,.pointer (some ⟨X,0,none⟩),.pointer (some ⟨F,0,none⟩),.pointer (some ⟨Q,0,none⟩)] w (TryW w F Q (.iface 124 (.string s)) base o.body):=by
 have hmk:=delta.zb0 xa oa xc oc base o.body m w hb ho (by omega) (by omega) hm;have x1:=cell_of hx 1;have e1:(objV o oa oc)[1]?=some (.slice oa o.body.length oc):=rfl;rw[e1]at x1;clear e1;have q0:=cell_of hQ 0;have f0:=cell_of hF 0;simp only[qag,qac]at q0 f0;obtain⟨bl,hbl⟩:=zex o.body.length;obtain⟨xl,hxl⟩:=zex base.length;rw[<-hbl,<-hxl]at hmk;rw[<-hbl]at x1 hlo;rw[<-hxl];have H:=zhd6 hx hF hQ hmk hbl hFQ;clear hx hF hQ hmk hb ho hlb hm hbl hxl hFQ;go_enter Tryz.func65,Tryz.ntmps65;go_upto_region 1 with (go_at_call 66;refine H.o3.mono ?_;rintro e w2 ⟨d,hmd,da,rfl,rd,hn,f2⟩;have H2:=zhd4 hmd rd hn f2;clear hmd rd hn f2);have x1:=H2.l3.cell x1 (by simp);have q0:=H2.l3.cell q0 (by simp);have f0:=H2.l3.cell f0 (by simp);obtain⟨dl,hdl⟩:=zex d.length;rw[<-hdl];have HD:=zhd hdl;clear hdl;by_cases hlt:dl<bl
 ·have g1:decide ((dl:Int)<(bl:Int))=true:=by simp;omega
  have g2:decide ((dl:Int)≤(65536:Int))=true:=by simp;omega
  have hF2:=H2.l3.blk H.o1 (by simp);have hQ2:=H2.l3.blk H.o2 (by simp);have zf:=qau hF2 0;have hF3:(w2.setCell ⟨F,0,none⟩ (.iface 124 (.string s))).heap[F]?=some (.cells #[.iface 124 (.string s)] 98 (0,0)):=qax hF2 _;have f3:Fr [F] w2 (w2.setCell ⟨F,0,none⟩ (.iface 124 (.string s))):=(Fr.refl [F] w2).setCell (by simp) _;have hQ3:=f3.blk hQ2 (by simp;exact qdx H.l5);have q3:(w2.setCell ⟨F,0,none⟩ (.iface 124 (.string s))).cell? ⟨Q,0,none⟩=some (.slice none 0 0):=by rw[cell_of hQ3];rfl
  have zq:=qau hQ3 0;have f4:Fr [Q] (w2.setCell ⟨F,0,none⟩ (.iface 124 (.string s))) ((w2.setCell ⟨F,0,none⟩ (.iface 124 (.string s))).setCell ⟨Q,0,none⟩ (.slice da dl dl)):=(Fr.refl [Q] _).setCell (by simp) _;have hQ4:((w2.setCell ⟨F,0,none⟩ (.iface 124 (.string s))).setCell ⟨Q,0,none⟩ (.slice da dl dl)).heap[Q]?=some (.cells #[.slice da dl dl] 23 (0,0)):=qax hQ3 _;have hF4:=f4.blk hF3 (by simp;exact H.l5);have hlt':d.length<o.body.length:=by have h1:=HD.out;have h2:=H.o4;omega
  have H3:=zhd5 f3 f4 hQ4 hF4 hlt';clear hF2 hQ2 hF3 f3 hQ3 f4 hQ4 hF4 hlt';go_wp2;obtain⟨f3,f4,hQ4,hF4,hlt'⟩:=H3.out;have fT:=((H2.l3.mono (T:=[F,Q]) (by simp)).trans (f3.mono (T:=[F,Q]) (λy hy=>.inl (by simp at hy;simp[hy])))).trans (f4.mono (T:=[F,Q]) (λy hy=>.inl (by simp at hy;simp[hy])));have hFl:=lt_of_block H.o1;have hQl:=lt_of_block H.o2;refine bodyPost_end (results_none rfl _ _ _) rfl ⟨rfl,fT,d,H2.o0,.inl ⟨hlt',hF4,da,by rw[<-HD.out];exact hQ4,?_,λy hy=>⟨(H2.o2 y hy).1,?_⟩⟩⟩
  ·exact (H2.o1.frS f3 (λy hy=>by have:=(H2.o2 y hy).1;simp;omega)).frS f4 (λy hy=>by have:=(H2.o2 y hy).1;simp;omega)
  ·have h1:=(H2.o2 y hy).2;have h2:=f3.size;have h3:=f4.size;omega
 ·have g1:decide ((dl:Int)<(bl:Int))=false:=by simp;omega
  have g2:decide (dl<bl)=false:=by simpa using hlt
  have hle:o.body.length≤d.length:=by have h1:=HD.out;have h2:=H.o4;omega
  have HL:=zhd hle;clear hle hlt;go_wp2;exact bodyPost_end (results_none rfl _ _ _) rfl ⟨rfl,H2.l3.mono (by simp),d,H2.o0,.inr ⟨HL.out,H2.l3.blk H.o1 (by simp),H2.l3.blk H.o2 (by simp)⟩⟩
open crc
set_option maxRecDepth 100000
theorem qzj (k:Nat) (hk:k<10) (w:World):Calls Tryz.prog 105 #[.int .u8 ((48+k:Nat):Int)] w λe w'=>e = .returned (.tuple #[.int .u8 k,.bool true])∧w'=w:=by
 obtain⟨c,hc⟩:=zex (48+k);rw[<-hc];have g1:decide ((48:Int)≤(c:Int))=true:=by simp;omega
 have g2:decide ((c:Int)≤(57:Int))=true:=by simp;omega
 have e1:(c:Int)-48=(k:Int):=by omega
 have HC:=zhd hc;have hcb:c≤57:=by omega
 have hca:48≤c:=by omega
 clear hc;go_enter Tryz.func105,Tryz.ntmps105;go_wp2;go_ret2;exact⟨rfl,rfl⟩
theorem qv5 (k:Nat) (hk:10≤k) (hk2:k<16) (w:World):Calls Tryz.prog 105 #[.int .u8 ((87+k:Nat):Int)] w λe w'=>e = .returned (.tuple #[.int .u8 k,.bool true])∧w'=w:=by
 obtain⟨c,hc⟩:=zex (87+k);rw[<-hc];have g1:decide ((48:Int)≤(c:Int))=true:=by simp;omega
 have g2:decide ((c:Int)≤(57:Int))=false:=by simp;omega
 have g3:decide ((97:Int)≤(c:Int))=true:=by simp;omega
 have g4:decide ((c:Int)≤(102:Int))=true:=by simp;omega
 have e1:(c:Int)-97+10=(k:Int):=by omega
 have HC:=zhd hc;have hcb:c≤102:=by omega
 have hca:97≤c:=by omega
 clear hc;go_enter Tryz.func105,Tryz.ntmps105;go_wp2;go_ret2;exact⟨rfl,rfl⟩
theorem qrh (k:Nat) (hk:k<16) (w:World):Calls Tryz.prog 105 #[.int .u8 (((hexd k).toNat:Nat):Int)] w λe w'=>e = .returned (.tuple #[.int .u8 k,.bool true])∧w'=w:=by
 unfold hexd;split
 ·rename_i h;rw[qd1 (by omega)];exact qzj k h w
 ·rename_i h;rw[qd1 (by omega)];exact qv5 k (by omega) hk w
theorem nib (b:UInt8):bits .or .u8 (((b.toNat/16:Nat):Int)*16) ((b.toNat%16:Nat):Int)=((b.toNat:Nat):Int):=by
 have h:∀x:_root_.Fin 16,∀y:_root_.Fin 16,bits .or .u8 ((x.1:Int)*16) (y.1:Int)=((16*x.1+y.1:Nat):Int):=by decide +kernel
 have h2:=qbc b;have e:=h ⟨b.toNat/16,by omega⟩ ⟨b.toNat%16,by omega⟩;simp only at e;rw[e,qla]
theorem zfm (bs:List UInt8) (i:Nat) (hi:i<bs.length):(hexb bs)[2*i]?=some (hexd (bs[i].toNat/16))∧(hexb bs)[2*i+1]?=some (hexd (bs[i].toNat%16)):=by
 induction bs generalizing i with
 | nil=>exact absurd hi (by simp)
 | cons b t ih=>
  have e:hexb (b::t)=hexd (b.toNat/16)::hexd (b.toNat%16)::hexb t:=by unfold hexb;rw[qcl];rfl
  cases i with
  | zero=>rw[e];exact⟨rfl,rfl⟩
  | succ i=>rw[e,show 2*(i+1)=2*i+1+1 by omega];simp only[qaf];exact ih i (by simpa using hi)
theorem hexi (bs:List UInt8) (i:Nat) (hi:i<bs.length) (w:World):(Instr.index 9 (.string (str (hexb bs))) (.int .i64 (2*i:Int))).run Tryz.prog w = .ok (.int .u8 ((hexd (bs[i].toNat/16)).toNat:Nat)) w∧(Instr.index 9 (.string (str (hexb bs))) (.int .i64 (2*i+1:Int))).run Tryz.prog w = .ok (.int .u8 ((hexd (bs[i].toNat%16)).toNat:Nat)) w:=by obtain⟨h1,h2⟩:=zfm bs i hi;have hl:=hexb_length bs;rw[qai (by omega)]at h1 h2;injection h1 with h1;injection h2 with h2;have e1:=qq7 (hexb bs) (i:=2*i) (by omega) w;have e2:=qq7 (hexb bs) (i:=2*i+1) (by omega) w;rw[h1]at e1;rw[h2]at e2;exact⟨e1,e2⟩
def GotHex (w:World) (bs:List UInt8) (e:Ending) (w':World):Prop:=
 ∃a c,e = .returned (.tuple #[.slice a bs.length c,.bool true])∧Wr w w' a c bs
theorem qwt (bs:List UInt8) (w:World) (hlen:bs.length≤10000000):Calls Tryz.prog 68 #[.string (str (hexb bs))] w (GotHex w bs):=by
 have hsz:(str (hexb bs)).size=2*bs.length:=by rw[<-hexb_length];simp[str,ByteArray.size]
 obtain⟨L,hL⟩:=zex bs.length;obtain⟨A,hAs,hmk⟩:=qud L (by omega);obtain⟨s,hs⟩:=zex (str (hexb bs));have hidx:∀i (hi:i<bs.length),∀w:World,(Instr.index 9 (.string s) (.int .i64 (2*i:Int))).run Tryz.prog w = .ok (.int .u8 ((hexd (bs[i].toNat/16)).toNat:Nat)) w∧(Instr.index 9 (.string s) (.int .i64 (2*i+1:Int))).run Tryz.prog w = .ok (.int .u8 ((hexd (bs[i].toNat%16)).toNat:Nat)) w:=λi hi w=>by rw[hs];exact hexi bs i hi w
 rw[<-hs,<-hL]at hsz;rw[<-hs];rw[<-hL]at hlen;have HI:=zhd3 hL hidx hAs;clear hL hs hidx hAs;go_enter Tryz.func68,Tryz.ntmps68;go_upto_region 3 with fail;have o0:Wr w (w.alloc (.cells A 5)) (some ⟨w.heap.size,0,none⟩) L []:=⟨⟨rfl,.inr ⟨w.heap.size,L,A,rfl,qa5 _,qay _ _,qa5 _,by unfold maxLen;omega,by rw[HI.l2,qce],by simp⟩⟩,(Fr.refl _ _).alloc _,by simp[blk]⟩;obtain⟨w0,hw0⟩:=zex (w.alloc (.cells A 5));have hmw:=hmk w;rw[<-hw0]at o0 hmw;have H0:=zhd o0;clear o0 hw0 hmk;go_wp2;go_loopg [4,5] L (λk s4 s5 wr=>∃(i:Nat) (a:Option Addr) (c:Nat) (out:List UInt8),s5 = .int .i64 (2*(i:Int))∧s4 = .slice a out.length c∧i+k=L∧Wr w wr a c out∧out=bs.take i);case atStart=>exact⟨0,_,L,[],rfl,rfl,by omega,H0.out,rfl⟩
 case round=>
  obtain⟨i,a,c,out,rfl,rfl,hik,h,hout⟩:=hrel;have hol:out.length=i:=by rw[hout,qaq,<-HI.o0];omega
  have H:=zhd3 h hout hol;have hob:out.length≤20000000:=by omega
  clear h hout hol;by_cases hi:i<L
  ·obtain⟨k,rfl⟩:∃k,gk=k+1:=⟨gk-1,by omega⟩;have hil:i<bs.length:=by rw[<-HI.o0];exact hi
   have hx0:=λw=>(HI.o1 i hil w).1
   have hx1:=λw=>(HI.o1 i hil w).2
   have d0:=qrh (bs[i].toNat/16) (by have:=qbc bs[i];omega);have d1:=qrh (bs[i].toNat%16) (by omega);have en:=nib bs[i];have HT:=zhd (show bs.take (i+1)=bs.take i++[bs[i]] from qca hil);obtain⟨b,hb⟩:=zex (bs[i]);rw[<-hb]at hx0 hx1 d0 d1 en HT;clear hb hil;have HN:=zhd en;have hb16:b.toNat/16<16:=by have:=qbc b;omega
   have hb16':b.toNat%16<16:=by omega
   generalize (hexd (b.toNat/16)).toNat=h0 at *;generalize (hexd (b.toNat%16)).toNat=h1 at *;generalize b.toNat%16=b1 at *;generalize b.toNat/16=b0 at *;obtain⟨S,hS⟩:=zex (blk a);have f0:Fr [] wr (wr.alloc (.cells #[.int .u8 (b.toNat:Nat)] 5)):=(Fr.refl [] wr).alloc _;have ownA:=qa7 H.o0.own f0 (by simp);have cA:Cs (wr.alloc (.cells #[.int .u8 (b.toNat:Nat)] 5)) (some ⟨wr.heap.size,0,none⟩) [bv b]:=qdp _ _ _ 5 (qay wr _);have HA:=zhd3 ownA cA f0;have HS:=zhd hS;clear ownA cA f0 hS hmw;go_upto_region 8 with (go_at_call 105;refine (d0 _).mono ?_;rintro e w1 ⟨rfl,rfl⟩);go_upto_region 9 with (go_at_call 105;refine (d1 _).mono ?_;rintro e w1 ⟨rfl,rfl⟩);clear d0 d1 hx0 hx1;go_upto_region 11 with fail;go_wp2_with (refine qba sliceU8 rfl _ _ rfl (.slice a out.length c) out.length (out.map bv) S rfl (by rw[qby,HS.out]) HA.o0 (some ⟨_,0,none⟩) 1 1 [bv b] rfl (by decide) (by simp) HA.o1 (by rfl) (qc0 [b]) (by omega) (by unfold maxLen;omega) ?_;intro a2 c2 w2 A1;have HA1:=zhd A1;clear A1);go_roundg k;case measure=>omega
   case rel=>have A1:=HA1.out;rw[HS.out]at A1;refine⟨i+1,a2,c2,out++[b],by go_num,by rw[qab];rfl,by omega,H.o0.step HA.l2 A1,by rw[HT.out,<-H.o1]⟩
  ·obtain rfl:i=L:=by omega
   go_wp2;go_ret2;refine⟨a,c,?_,?_⟩
   ·rw[<-HI.o0,<-H.l2];rfl
   ·have h:=H.o0;rwa [show out=bs by rw[H.o1,HI.o0,List.take_length]]at h
end Go.Proofs.YtkmpfgpfbmeihaaGreatDoor.pk
namespace Go.Proofs.YtkmpfgpfbmeihaaGreatDoor.lib
open Go
inductive OT (α:Type) where
 | done:OT α
 | one (e:Bool) (x:α) (t:OT α):OT α
 | two (x:α) (t:OT α) (y:α) (u:OT α):OT α
def OT.map {α β:Type} (f:α→β):OT α→OT β
 | .done=>.done
 | .one e x t=>.one e (f x) (t.map f)
 | .two x t y u=>.two (f x) (t.map f) (f y) (u.map f)
def OT.len {α:Type}:OT α→Nat
 | .done=>0
 | .one _ _ t=>t.len+1
 | .two _ t _ _=>t.len+1
section
variable {P : Program} {ops : Array Oper} {Q : Exit → Act → World → Prop} {md : Region.Mode}
def effT (P:Program) (ops:Array Oper) (S:List Nat) (Q:Exit→Act→World→Prop) (o:Oper) (K:Act→World→Prop) (a:Act) (w:World):Prop:=
 if Region.wanted o (yielded ops a.tmps) then o.wp P a w (λa' w'=>Fr S w w'∧K a' w') Q else K (a.put o.dst undef) w
def mixT (P:Program) (ops:Array Oper) (S:List Nat) (Q:Exit→Act→World→Prop) (tail:List Oper):OT Oper→Act→World→Prop
 | .done,a,w=>wpList P ops Q tail a w
 | .one false o t,a,w=>if Region.wanted o (yielded ops a.tmps) then o.quiet P a (Sup S w) (λa'=>mixT P ops S Q tail t a' w) else mixT P ops S Q tail t (a.put o.dst undef) w
 | .one true o t,a,w=>effT P ops S Q o (mixT P ops S Q tail t) a w
 | .two o t p u,a,w=>effT P ops S Q o (mixT P ops S Q tail t) a w∧effT P ops S Q p (mixT P ops S Q tail u) a w
def mixTB (md:Region.Mode) (ops:Array Oper) (n:Nat):OT Nat→Array Bool→Bool
 | .done,listed=>Region.seqB md ops (ops.size-n) n listed
 | .one e i t,listed=>decide (i<n)&&(match e with
   | true=>decide (Region.ready md ops listed=[i])
   | false=>(Region.ready md ops listed).contains i&&Region.free md ops listed i&&(match ops[i]? with|some o=>okKind o.op|none=>false))&&mixTB md ops n t (listed.setIfInBounds i true)
 | .two i t j u,listed=>decide (i<n)&&decide (j<n)&&decide (Region.ready md ops listed=[i,j])&&decide (t.len=u.len)&&mixTB md ops n t (listed.setIfInBounds i true)&&mixTB md ops n u (listed.setIfInBounds j true)
theorem qs3 {S:List Nat} {n i f:Nat} {oi:Oper} (hin:i<n) (hoi:ops[i]?=some oi) {listed:Array Bool} {K:Act→World→Prop} {a:Act} {w:World}
  (hK:∀a' w',K a' w'→wpMx P md ops Q n (Sup S w') f listed a' w') (h:effT P ops S Q oi K a w) :
  wpOp P ops Q i (λa' w'=>(i<n→Sup S w w')∧wpMx P md ops Q n (Sup S w) f listed a' w') a w:=by
 unfold wpOp;simp only[hoi];unfold effT at h;by_cases hw:Region.wanted oi (yielded ops a.tmps)=true
 ·rw[if_pos hw]at h;rw[if_pos hw];left;exact Oper.wp_mono (λa' w' h'=>⟨λ_=>Sup.of h'.1,qi9 (Sup.sub h'.1) _ _ _ _ (hK a' w' h'.2)⟩) h
 ·rw[if_neg hw]at h;rw[if_neg hw];exact⟨λ_=>Sup.of (Fr.refl _ _),hK _ _ h⟩
theorem qls {n i:Nat} {oi:Oper} {v:Value} {C:World→Prop} {I:Array Bool→Prop} (hI:∀listed j,I listed→j∈Region.ready md ops listed→j<n→I (listed.setIfInBounds j true)) (hi:ops[i]?=some oi) (hsel:∀(j:Nat) (o:Oper) cs b,ops[j]?=some o→o.op≠.select cs b)
  (hQ:∀c a d v w,Q (.panic c) (Act.put a d v) w→Q (.panic c) a w) (hin:i<n)
  (hT:∀listed,I listed→listed.getD i true=false→∀t,n≤t→t∉Region.ready md ops listed) :
  ∀(f:Nat) (listed:Array Bool) (a:Act) (w:World),I listed→
   (∀j oj,ops[j]?=some oj→j≠i→listed.getD j true=false→(∀e∈oj.after,Region.binds md e=true→e.on≠i)→oi.apart ops oj=true)→
   i∈Region.ready md ops listed→QY P ops C oi v a→C w→
   wpMx P md ops Q n C f (listed.setIfInBounds i true) (a.put oi.dst v) w→wpMx P md ops Q n C (f+1) listed a w:=by
 intro f;induction f with
 | zero=>
  intro listed a w inv _ hr hy hC H;refine⟨λh=>(by rw[h]at hr;cases hr),λj hj=>?_⟩;by_cases hji:j=i
  ·subst hji;exact hy.op hi hC ⟨λ_=>hC,H⟩
  ·have:=ready_mono hj hji;rw[H.1]at this;cases this
 | succ f ih=>
  intro listed a w inv hfree hr hy hC H;have hun:=(mem_ready.1 hr).1;refine⟨λh=>(by rw[h]at hr;cases hr),λj hj=>?_⟩;by_cases hji:j=i
  ·subst hji;exact hy.op hi hC ⟨λ_=>hC,H⟩
  ·have hjn:j<n:=by
    rcases qb8 j n with h|h
    ·exact h
    ·exact absurd hj (hT listed inv hun j h)
   have h1:=H.2 j (ready_mono hj hji);obtain⟨hjun,oj,hoj,hall⟩:=mem_ready.1 hj;have hnot:∀e∈oj.after,Region.binds md e=true→e.on≠i:=λe he hb heq=>by have h1:=hall e he hb;rw[heq,getD_both hun]at h1;cases h1
   have h2:=qml hoj (hfree j oj hoj hji hjun hnot) (λcs b=>hsel i oi cs b hi) (λcs b=>hsel j oj cs b hoj) hQ hy h1;have hfree':∀k ok,ops[k]?=some ok→k≠i→(listed.setIfInBounds j true).getD k true=false→
     (∀e∈ok.after,Region.binds md e=true→e.on≠i)→oi.apart ops ok=true:=λk ok hk hki hkun hno=>by
    refine hfree k ok hk hki ?_ hno
    by_cases hjk:j=k
    ·subst hjk;exact hjun
    ·rw[getD_set_ne true hjk]at hkun;exact hkun
   refine wpOp_mono (λa' w' h3=>⟨h3.2.1,?_⟩) h2;refine ih (listed.setIfInBounds j true) a' w' (hI _ _ inv hj hjn) hfree' (ready_mono hr (qdx hji)) h3.1 (h3.2.1 hjn) ?_;rw[Array.setIfInBounds_comm _ _ hji];exact h3.2.2
theorem qkj {n:Nat} {S:List Nat} {I:Array Bool→Prop} (hI:∀listed j,I listed→j∈Region.ready md ops listed→j<n→I (listed.setIfInBounds j true)) {l:List Oper} (hl:ops=l.toArray) (hsel:Region.noSelect ops=true) (hQ:∀c a d v w,Q (.panic c) (Act.put a d v) w→Q (.panic c) a w)
  (hT:∀i,i<n→∀listed,I listed→listed.getD i true=false→∀t,n≤t→t∉Region.ready md ops listed) :
  ∀(order:OT Nat) (listed:Array Bool) (a:Act) (w:World),I listed→mixTB md ops n order listed=true→
   mixT P ops S Q (l.drop n) (order.map λx=>l.getD x default) a w→wpMx P md ops Q n (Sup S w) (order.len+(ops.size-n)) listed a w
 | .done,listed,a,w,_,hB,h=>by
  have hlen:(l.drop n).length=ops.size-n:=by rw[hl];simp
  have:=qg1 (P:=P) (Q:=Q) (md:=md) (ops:=ops) (n:=n) (C:=Sup S w) (l.drop n) n listed a w (qae _) (λj=>by rw[hl];simp[qc5]) (by rw[hlen];exact hB) h;simpa[hlen,OT.len] using this
 | .one e i t,listed,a,w,inv,hB,h=>by
  simp only[mixTB,qbj,decide_eq_true_eq]at hB;obtain⟨⟨hin,he⟩,hrest⟩:=hB;have hlen:(OT.one e i t).len+(ops.size-n)=t.len+(ops.size-n)+1:=by simp[OT.len];omega
  rw[hlen];cases e with
  | false=>
   simp only[qbj]at he;obtain⟨⟨hr,hf⟩,hk⟩:=he;have hr':i∈Region.ready md ops listed:=by simpa using hr
   obtain⟨_,oi,hoi,_⟩:=mem_ready.1 hr';rw[hoi]at hk;have hd:l.getD i default=oi:=by rw[hl]at hoi;simp at hoi;simp[List.getD,hoi]
   simp only[OT.map,hd,mixT]at h;have hC:Sup S w w:=Sup.of (Fr.refl _ _);by_cases hw:Region.wanted oi (yielded ops a.tmps)=true
   ·rw[if_pos hw]at h;obtain⟨v,h1,h2⟩:=h;have hy:QY P ops (Sup S w) oi v a:=.inl ⟨hw,λu hu=>qey hk (h1 u hu)⟩;exact qls hI hoi (qdi hsel) hQ hin (hT i hin) _ listed a w inv (qeq hoi hf) hr' hy hC (qkj hI hl hsel hQ hT t _ _ w (hI _ _ inv hr' hin) hrest h2)
   ·rw[if_neg hw]at h;have hy:QY P ops (Sup S w) oi undef a:=.inr ⟨by simpa using hw,rfl⟩;exact qls hI hoi (qdi hsel) hQ hin (hT i hin) _ listed a w inv (qeq hoi hf) hr' hy hC (qkj hI hl hsel hQ hT t _ _ w (hI _ _ inv hr' hin) hrest h)
  | true=>
   simp only[decide_eq_true_eq]at he;have hr':i∈Region.ready md ops listed:=by rw[he];simp
   obtain⟨_,oi,hoi,_⟩:=mem_ready.1 hr';have hd:l.getD i default=oi:=by rw[hl]at hoi;simp at hoi;simp[List.getD,hoi]
   simp only[OT.map,hd,mixT]at h;refine⟨λh0=>(by rw[h0]at hr';cases hr'),λj hj=>?_⟩;rw[he]at hj;have hji:j=i:=by simpa using hj
   subst hji;exact qs3 hin hoi (λa' w' h'=>qkj hI hl hsel hQ hT t _ a' w' (hI _ _ inv hr' hin) hrest h') h
 | .two i t j u,listed,a,w,inv,hB,h=>by
  simp only[mixTB,qbj,decide_eq_true_eq]at hB;obtain⟨⟨⟨⟨⟨hin,hjn⟩,he⟩,htu⟩,ht⟩,hu⟩:=hB;have hlen:(OT.two i t j u).len+(ops.size-n)=t.len+(ops.size-n)+1:=by simp[OT.len];omega
  rw[hlen];have hri:i∈Region.ready md ops listed:=by rw[he];simp
  have hrj:j∈Region.ready md ops listed:=by rw[he];simp
  obtain⟨_,oi,hoi,_⟩:=mem_ready.1 hri;obtain⟨_,oj,hoj,_⟩:=mem_ready.1 hrj;have hdi:l.getD i default=oi:=by rw[hl]at hoi;simp at hoi;simp[List.getD,hoi]
  have hdj:l.getD j default=oj:=by rw[hl]at hoj;simp at hoj;simp[List.getD,hoj]
  simp only[OT.map,hdi,hdj,mixT]at h;refine⟨λh0=>(by rw[h0]at hri;cases hri),λk hk=>?_⟩;rw[he]at hk;rcases qbh.1 hk with hk|hk
  ·subst hk;exact qs3 hin hoi (λa' w' h'=>qkj hI hl hsel hQ hT t _ a' w' (hI _ _ inv hri hin) ht h') h.1
  ·have hk:k=j:=by simpa using hk
   subst hk;rw[htu];exact qs3 hjn hoj (λa' w' h'=>qkj hI hl hsel hQ hT u _ a' w' (hI _ _ inv hrj hjn) hu h') h.2
def sinkP (md:Region.Mode) (ops:Array Oper) (n p:Nat):Bool:=
 (List.range n).all λi=>i==p||(List.range (n+1)).any λj=>decide (i<j)&&Region.waitsFor md ops j i
theorem qr5 {n p:Nat} {listed:Array Bool} (hs:sinkP md ops n p=true) (hc:Region.chainB md ops n=true) (inv:HeadInv md ops n listed) (hp:listed.getD p true=true) :
  ∀(d i:Nat),n-i=d→i<n→listed.getD i true=false→∀t,n≤t→t∉Region.ready md ops listed:=by
 intro d;induction d using Nat.strongRecOn with
 | _ d ih=>
  intro i hd hi hun t ht hr;obtain⟨_,ot,hot,hall⟩:=mem_ready.1 hr;have htlt:t<ops.size:=(qd0.1 hot).1;rcases qb8 n t with htn|htn
  ·have h1:=qi5.1 hc t (qdq.2 htlt);simp only[Bool.or_eq_true,decide_eq_true_eq]at h1;rcases h1 with h1|h1
   ·omega
   ·obtain⟨oj,hoj,e,he,hb,hon⟩:=Region.waitsFor_spec h1;rw[hot]at hoj;cases hoj;have h2:=hall e he hb;rw[hon]at h2;have h3:=inv.tail (t-1) (by omega) (by omega);rw[getD_both h3]at h2;cases h2
  ·obtain rfl:t=n:=by omega
   have h1:=qi5.1 hs i (qdq.2 hi);simp only[Bool.or_eq_true,beq_iff_eq]at h1;rcases h1 with rfl|h1
   ·rw[hp]at hun;cases hun
   ·obtain⟨j,hj,hj2⟩:=List.any_eq_true.1 h1;simp only[qbj,decide_eq_true_eq]at hj2;obtain⟨oj,hoj,e,he,hb,hon⟩:=Region.waitsFor_spec hj2.2;have hjle:j≤t:=by have:=qdq.1 hj;omega
    rcases qb8 j t with hjt|hjt
    ·have hju:listed.getD j true=false:=by
      cases hjl:listed.getD j true with
      | false=>rfl
      | true=>
       have hjs:j<listed.size:=by rw[inv.size];omega
       have hjf:listed.getD j false=true:=by simp[hjs]at hjl ⊢;exact hjl
       have h2:=inv.closed j oj hoj hjf e he hb;rw[hon,getD_both hun]at h2;cases h2
     exact ih (t-j) (by omega) j rfl hjt hju t (qae _) hr
    ·obtain rfl:j=t:=by omega
     rw[hot]at hoj;cases hoj;have h2:=hall e he hb;rw[hon,getD_both hun]at h2;cases h2
def mixPAll (md:Region.Mode) (ops:Array Oper) (n p:Nat) (order:OT Nat):Bool:=
 Region.noSelect ops&&decide (n<ops.size)&&decide (p<n)&&sinkP md ops n p&&Region.chainB md ops n&&Region.free md ops (Array.replicate ops.size false) p&&(Region.ready md ops (Array.replicate ops.size false)).contains p&&decide (order.len+(ops.size-n)+1=ops.size)&&mixTB md ops n order ((Array.replicate ops.size false).setIfInBounds p true)
theorem qmi {id:Nat} {a:Act} {w:World} {l:List Oper} (n p:Nat) (v:Value) (order:OT Nat) (S:List Nat) (hm:P.follows .mixedOrders=true) (hB:mixPAll .any l.toArray n p order=true)
  (hQ:∀c a d v w,Q (.panic c) (Act.put a d v) w→Q (.panic c) a w) (hy:Yields P l.toArray (l.getD p default) v a)
  (h:mixT P l.toArray S Q (l.drop n) (order.map λx=>l.getD x default) (a.put (l.getD p default).dst v) w.drew):(Code.region id l.toArray true).wp P Q a w:=by
 simp only[mixPAll,qbj,decide_eq_true_eq]at hB;obtain⟨⟨⟨⟨⟨⟨⟨⟨hsel,hn⟩,hpn⟩,hs⟩,hc⟩,hf⟩,hr⟩,hlen⟩,hmix⟩:=hB;have hpl:p<l.length:=by simp at hn;omega
 have hop:l.toArray[p]?=some (l.getD p default):=by simp[List.getD,hpl]
 have inv0:HeadInv .any l.toArray n (Array.replicate l.toArray.size false):=
  ⟨by simp,λj oj _ hl=>(by rw[getD_replicate_false]at hl;cases hl),λt _ ht=>getD_in (by simpa using ht) (getD_replicate_false _ _)⟩
 have inv1:=inv0.set (by simpa using hr) hpn;refine wp_region_any hm ?_;have hsz:l.toArray.size=order.len+(l.toArray.size-n)+1:=hlen.symm;rw[hsz];refine wpAny_take (v:=v) hop hsel (by rw[<-hsz];exact hf) (by rw[<-hsz];exact hr) (λc a' w' h'=>hQ _ _ _ _ _ h') hy ?_;rw[<-hsz];refine qg2 (n:=n) (C:=Sup S w.drew) _ _ _ _ ?_;exact qkj (P:=P) (Q:=Q) (md:=.any) (n:=n) (S:=S) (I:=λx=>HeadInv .any l.toArray n x∧x.getD p true=true) (λx j h1 h2 h3=>⟨h1.1.set h2 h3,by
   by_cases hjp:j=p
   ·subst hjp
    have:=inv1.size
    have hj:j<x.size:=by rw[h1.1.size];simpa using hpl
    simp[hj]
   ·rw[getD_set_ne true hjp];exact h1.2⟩) rfl hsel hQ (λi hi x hx hun t ht=>qr5 hs hc hx.1 hx.2 _ i rfl hi hun t ht) order _ _ w.drew ⟨inv1,by simp[hpl]⟩ hmix h
def OT.quiets {α:Type}:Nat→OT α→List α
 | 0,_=>[]
 | k+1,.one false x t=>x::t.quiets k
 | _+1,_=>[]
def OT.behind {α:Type}:Nat→OT α→OT α
 | 0,t=>t
 | k+1,.one false _ t=>t.behind k
 | _+1,t=>t
theorem quc {S:List Nat} {tail:List Oper} (k:Nat) {t:OT Oper} {a:Act} {w:World}
  (h:wpQuiet P ops (Sup S w) (λa'=>mixT P ops S Q tail (t.behind k) a' w) (t.quiets k) a):mixT P ops S Q tail t a w:=by
 induction k generalizing t a with
 | zero=>exact h
 | succ k ih=>
  cases t with
  | done=>exact h
  | two _ _ _ _=>exact h
  | one e o t=>
   cases e with
   | true=>exact h
   | false=>
    simp only[OT.quiets,OT.behind,wpQuiet]at h;unfold mixT;by_cases hw:Region.wanted o (yielded ops a.tmps)=true
    ·rw[if_pos hw]at h ⊢;obtain⟨v,h1,h2⟩:=h;exact⟨v,h1,ih h2⟩
    ·rw[if_neg hw]at h ⊢;exact ih h
theorem qpv {S:List Nat} {o:Oper} {a:Act} {w:World} {K:Act→World→Prop} (hw:Region.wanted o (yielded ops a.tmps)=true)
  (h:∀K':Act→World→Prop,Go.RowKit.Hid (∀a' w',Fr S w w'→K a' w'→K' a' w')→o.wp P a w K' Q):effT P ops S Q o K a w:=by
 unfold effT;rw[if_pos hw];exact h _ λ_ _ h1 h2=>⟨h1,h2⟩
theorem qgf {S:List Nat} {tail:List Oper} {t:OT Oper} {o:Oper} {a:Act} {w:World} (hw:Region.wanted o (yielded ops a.tmps)=true)
  (h:∀K:Act→World→Prop,Go.RowKit.Hid (∀a' w',Fr S w w'→mixT P ops S Q tail t a' w'→K a' w')→o.wp P a w K Q):mixT P ops S Q tail (.one true o t) a w:=
 qpv hw h
theorem qub {S:List Nat} {tail:List Oper} {t u:OT Oper} {o p:Oper} {a:Act} {w:World} (ho:Region.wanted o (yielded ops a.tmps)=true) (hp:Region.wanted p (yielded ops a.tmps)=true)
  (h1:∀K:Act→World→Prop,Go.RowKit.Hid (∀a' w',Fr S w w'→mixT P ops S Q tail t a' w'→K a' w')→o.wp P a w K Q)
  (h2:∀K:Act→World→Prop,Go.RowKit.Hid (∀a' w',Fr S w w'→mixT P ops S Q tail u a' w'→K a' w')→p.wp P a w K Q):mixT P ops S Q tail (.two o t p u) a w:=
 ⟨qpv ho h1,qpv hp h2⟩
theorem qjm {S:List Nat} {tail:List Oper} {a:Act} {w:World} (h:wpList P ops Q tail a w):mixT P ops S Q tail .done a w:=h
end
end Go.Proofs.YtkmpfgpfbmeihaaGreatDoor.lib
