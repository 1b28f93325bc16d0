/-
  Texts of this proof, one behind the other: Cwrite, Always, Wcoded, Raw, TripA.
-/
import Derived.Test.YtkmpfgpfbmeihaaGreatDoorS12
set_option maxHeartbeats 16000000
set_option maxRecDepth 100000
set_option linter.unusedVariables false
set_option linter.unusedSimpArgs false
namespace Go.Proofs.YtkmpfgpfbmeihaaGreatDoor.defl
open Go Go.RowKit lib bm bl mat huf wb
theorem qn6 {w:World} {a:Option Addr} {cap:Nat} {xs:List Nat} (h:Ri w a cap xs) (hn:0<xs.length):∀x∈blk a,x<w.heap.size:=by intro x hx;obtain⟨g,o,rfl,_⟩:=h.at hn;have:=h.cs.lt (by intro e;have:=congrArg List.length e;rw[qap]at this;simp at this;rw[this]at hn;simp at hn) ⟨g,o,none⟩ rfl;simp[blk]at hx;rw[hx];exact this
def CodedBits (ll dl:List Nat) (T:List Tok) (last told:Bool) (b:List Bool):Prop:=
 ∃hd,b=[last]++lsb 2 (if told then 2 else 1)++hd++tsbits ll dl T++sbits ll 256∧(told=false→hd=[])∧(told=true→∃nl nd nc cl rs,Told ll dl nl nd nc cl rs hd)
theorem qtl {ll dl:List Nat} {nl nd nc:Nat} {cl:List Nat} {rs:List Rn} {b:List Bool} (h:Told ll dl nl nd nc cl rs b) (h1:ll.length=286) (h2:dl.length=30):b.length≤20000:=by
 have hr:=h.runs.len;rw[qab,qaq,qaq]at hr;have hle:∀x∈cl,x≤15:=λx hx=>by have:=h.cle x hx;omega
 have h3:=qpu (rbits cl) 30 rs λr hr=>by have k1:=qeb cl hle r.1;have k2:=(qh7 h.runs r hr).2.2;unfold rbits;rw[qab,lsb_length];omega
 have hrs:rs.length≤316:=by simp at hr;omega
 have h4:rs.length*30≤316*30:=qcr _ hrs;have h5:=h.nc19;rw[h.bits];simp only[qab,lsb_length,flat3 _ (λi=>lsb_length _ _)];omega
theorem qv6 (p:Nat) (F:List Nat) (l0:List Bool) (b:List UInt8) (a al:Option Addr) (cap cl r:Nat) (l:List Mt) (a1 a2:Option Addr) (c1 c2:Nat) (ll dl:List Nat) (told last:Bool) (w:World)
  (hb:Rd w a cap b) (hl:Cs w al (mcells l)) (hlc:l.length≤cl) (hln:al=none→cl=0) (hcm:cl≤maxLen) (hch:Chain b r 0 l) (hr:r≤32768) (hblen:b.length≤1000000)
  (h1:Ri w a1 c1 ll) (h2:Ri w a2 c2 dl) (hW:Wb w p F l0) (n1:286≤ll.length) (n1':ll.length≤400) (n2:30≤dl.length) (n2':dl.length≤400) (nt:told=true→ll.length=286∧dl.length=30)
  (hle1:∀x∈ll,x≤15) (hle2:∀x∈dl,x≤15) (hw1:weight ll≤32768) (hw2:weight dl≤32768) (hL:l0.length≤1000000000)
  (hF:∀x∈F,x<w.heap.size∧x∉blk a1∧x∉blk a2∧x∉blk a∧x∉blk al) (hla:∀x∈blk a,x<w.heap.size) (hll:∀x∈blk al,x<w.heap.size) :
  Calls Tryz.prog 242 #[.agg #[.slice a b.length cap,.slice al l.length cl,.slice a1 ll.length c1,.slice a2 dl.length c2,.bool told],.pointer (some ⟨p,0,none⟩),.bool last] w λe w'=>
   e = .returned (.tuple #[])∧Fr F w w'∧∃bb,CodedBits ll dl (toks b 0 l) last told bb∧∃F',Wb w' p F' (l0++bb)∧∀y∈F',y∈F∨w.heap.size≤y:=by
 obtain⟨B,hB⟩:=zex w.heap.size;obtain⟨BL,hBL⟩:=zex b.length;obtain⟨LL,hLL⟩:=zex l.length;obtain⟨m1,hm1⟩:=zex ll.length;obtain⟨m2,hm2⟩:=zex dl.length;rw[<-hBL,<-hLL,<-hm1,<-hm2];obtain⟨w1,hw1'⟩:∃w1,w1=(w.alloc (.cells #[.slice a BL cap,.slice al LL cl,.slice a1 m1 c1,.slice a2 m2 c2,.bool told] 197 (0,0))).alloc (.cells #[.pointer (some ⟨p,0,none⟩)] 250 (0,0)):=⟨_,rfl⟩;have f1:Fr [] w w1:=by rw[hw1'];exact ((Fr.refl [] w).alloc _).alloc _
 have hbox:w1.heap[B]?=some (.cells #[.slice a BL cap,.slice al LL cl,.slice a1 m1 c1,.slice a2 m2 c2,.bool told] 197 (0,0)):=by rw[hw1',hB];exact qcx _ (qay w _)
 have hbx2:w1.heap[B+1]?=some (.cells #[.pointer (some ⟨p,0,none⟩)] 250 (0,0)):=by rw[hw1',hB];have:=qay (w.alloc (.cells #[.slice a BL cap,.slice al LL cl,.slice a1 m1 c1,.slice a2 m2 c2,.bool told] 197 (0,0))) (.cells #[.pointer (some ⟨p,0,none⟩)] 250 (0,0));rwa [qa1]at this
 have hs1:w1.heap.size=B+2:=by rw[hw1',qa1,qa1,<-hB]
 have hW1:Wb w1 p F l0:=qj5 hW f1 (by simp);have hBF:B∉F∧B+1∉F:=⟨λh=>by have:=(hF B h).1;omega,λh=>by have:=(hF (B+1) h).1;omega⟩;have H:=zhd11 hb hl hlc hln hcm hch hr hblen h1 h2 nt;have HR:=zhd10 n1 n1' n2 n2' hle1 hle2 hw1 hw2 hL hF;have HE:=zhd5 hBL hLL hm1 hm2 hB;have HW:=zhd6 f1 hbox hbx2 hs1 hW1 hBF;have HWW:=zhd hw1'.symm;have HLA:=zhd2 hla hll;clear hla hll;have e4:=cell_of hbox 4;have d0:=cell_of hbx2 0;simp only[qag,qac,qaf]at e4 d0;clear hb hl hlc hln hcm hch hr hblen h1 h2 nt n1 n1' n2 n2' hle1 hle2 hw1 hw2 hL hF hBL hLL hm1 hm2 f1 hbox hbx2 hs1 hW1 hBF hw1' hW;go_enter Tryz.func242,Tryz.ntmps242;go_upto_region 1 with fail;rw[HWW.out,<-HE.l4];clear hB;go_upto_if 11 with fail;obtain⟨pp,hpp⟩:=zex (B+1);rw[<-hpp]at d0 ⊢;have HPP:=zhd hpp;clear hpp;go_cut [] from 11 to 21 (λwz=>∃hd F',((told=false→hd=[])∧(told=true→∃nl nd nc cl rs,Told ll dl nl nd nc cl rs hd))∧Pg p F w1 (l0++([last]++lsb 2 (if told then 2 else 1))++hd) F' wz)
 case first=>
  cases told with
  | false=>
   have hh:Calls Tryz.prog 243 #[.pointer (some ⟨p,0,none⟩),.bool last,.int .u32 1] w1 (WbPost p F w1 (l0++last::lsb 2 1)):=qhc p F l0 last 1 w1 HW.o4 (by decide) (by have:=HR.o8;omega);have HH:=zhd hh;clear hh;go_wp2_with (go_at_call 243;refine HH.out.mono ?_;rintro e w2 ⟨rfl,f2,g2⟩;have H2:=zhd (Pg.step (Pg.start HW.o4) f2 g2);clear f2 g2);go_meet;obtain⟨F2,h2⟩:=H2.out;exact⟨[],F2,⟨λ_=>rfl,(λh=>by cases h)⟩,by simpa using h2⟩
  | true=>
   have hh:Calls Tryz.prog 243 #[.pointer (some ⟨p,0,none⟩),.bool last,.int .u32 2] w1 (WbPost p F w1 (l0++last::lsb 2 2)):=qhc p F l0 last 2 w1 HW.o4 (by decide) (by have:=HR.o8;omega);have HH:=zhd hh;have hnt:=H.l10 rfl;have hm286:m1=286:=by rw[HE.o2];exact hnt.1
   have hm30:m2=30:=by rw[HE.o3];exact hnt.2
   subst hm286;subst hm30;clear hh hnt;go_upto_region 3 with (go_at_call 243;refine HH.out.mono ?_;rintro e w2 ⟨rfl,f2,g2⟩;have H2:=zhd (Pg.step (Pg.start HW.o4) f2 g2);clear f2 g2);obtain⟨F2,hp2⟩:=H2.out;have hbx:=hp2.fr.blk HW.o1 HW.l5.1;have hbp:=hp2.fr.blk HW.o2 HW.out.2.2.2.2.2.2;rw[<-HPP.out]at hbp;have y0:=cell_of hbx 0;have y1:=cell_of hbx 1;have y2:=cell_of hbx 2;have y3:=cell_of hbx 3;have y4:=cell_of hbx 4;have y5:=cell_of hbp 0;simp only[qag,qac,qaf]at y0 y1 y2 y3 y4 y5;have fr2:Fr F w w2:=(HW.o0.mono (by simp)).trans hp2.fr;have htell:=za0 p F2 _ (.slice a BL cap) (.slice al LL cl) a1 a2 c1 c2 ll dl true w2 rfl rfl
    (qiq H.o8 fr2 (λx hx hxF=>(HR.l9 x hxF).2.1 hx)) (qiq H.o9 fr2 (λx hx hxF=>(HR.l9 x hxF).2.2.1 hx)) hp2.wb HE.o2.symm HE.o3.symm HR.o4 HR.o5
    (by rw[qab,qao,lsb_length];have:=HR.o8;omega)
    (λx hx=>by
     refine⟨qu4 hp2.wb x hx,λh=>?_,λh=>?_⟩
     ·rcases hp2.new x hx with k|k
      ·exact (HR.l9 x k).2.1 h
      ·have h3:=qn6 H.o8 (by have:=HR.o0;omega) x h
       have:=HW.o0.size
       omega
     ·rcases hp2.new x hx with k|k
      ·exact (HR.l9 x k).2.2.1 h
      ·have h3:=qn6 H.o9 (by have:=HR.o2;omega) x h
       have:=HW.o0.size
       omega)
   have HT:=zhd htell;have HP2:=zhd hp2;clear htell hp2 hbx hbp fr2;go_wp2_with (go_at_call 244;refine HT.out.mono ?_;rintro e w3 ⟨rfl,f3,nl,nd,nc,cl2,rs,bt,ht,g3⟩;have H3:=zhd2 (show ∃nl nd nc cl rs,Told ll dl nl nd nc cl rs bt from ⟨nl,nd,nc,cl2,rs,ht⟩) (Pg.step HP2.out f3 g3);clear f3 g3 ht);go_meet;obtain⟨F3,h3⟩:=H3.out.2;exact⟨bt,F3,⟨(λh=>by cases h),λ_=>H3.out.1⟩,by simpa using h3⟩
 case rest=>
 obtain⟨hd,F2,hhd,hpg⟩:=hcut;obtain⟨w2,hw2⟩:∃w2:World,w2=wc:=⟨_,rfl⟩;rw[<-hw2]at hpg ⊢;clear hw2 e4 d0;have hdl:hd.length≤20000:=by
  cases told with
  | false=>rw[hhd.1 rfl];exact qa5 _
  | true=>obtain⟨nl,nd,nc,cl2,rs,ht⟩:=hhd.2 rfl;have hnt:=H.l10 rfl;exact qtl ht hnt.1 hnt.2
 have fr2:Fr F w w2:=(HW.o0.mono (by simp)).trans hpg.fr;have hbx:=hpg.fr.blk HW.o1 HW.l5.1;have hbp:=hpg.fr.blk HW.o2 HW.out.2.2.2.2.2.2;rw[<-HPP.out]at hbp;have ri1:=qiq H.o8 fr2 (λx hx hxF=>(HR.l9 x hxF).2.1 hx);have ri2:=qiq H.o9 fr2 (λx hx hxF=>(HR.l9 x hxF).2.2.1 hx);have hc1:=qjw a1 c1 ll w2 ri1 HR.o4 HR.o1 HR.o6;unfold CodesGood at hc1;rw[<-HE.o2]at hc1;have y2:=cell_of hbx 2;simp only[qag,qac,qaf]at y2;have H2:=zhd8 hhd hpg hdl fr2 hbx hbp ri1 ri2;have HC1:=zhd hc1;clear hhd hpg hdl fr2 hbx hbp ri1 ri2 hc1;go_upto_region 6 with (go_at_call 205;refine HC1.out.mono ?_;rintro e w3 ⟨g1,rfl,u3,lo3,hi3,f3⟩;have H3:=zhd4 u3 lo3 hi3 f3;clear u3 lo3 hi3 f3);clear y2;obtain⟨q6,hq6⟩:=zex w3.heap.size;obtain⟨w4,hw4⟩:=zex (w3.alloc (.cells #[.slice (some ⟨g1,0,none⟩) m1 m1] 147 (0,0)));have hb4:w4.heap[q6]?=some (.cells #[.slice (some ⟨g1,0,none⟩) m1 m1] 147 (0,0)):=by rw[hw4,hq6];exact qay w3 _
 have f4:Fr [] w3 w4:=by rw[hw4];exact (Fr.refl [] w3).alloc _
 rw[<-hw4,<-hq6];have H4:=zhd4 hb4 f4 hq6 hw4;clear hb4 f4 hq6 hw4;have f24:Fr [] w2 w4:=H3.out.2.2.2.trans H4.o1;have hc2:=qjw a2 c2 dl w4 (H2.out.2.2.2.2.2.2.2.fr f24) HR.o5 HR.o3 HR.o7;unfold CodesGood at hc2;rw[<-HE.o3]at hc2;have y3:=cell_of (f24.blk H2.out.2.2.2.2.1 (by simp)) 3;simp only[qag,qac,qaf]at y3;have HC2:=zhd2 hc2 f24;clear hc2 f24;go_upto_region 7 with (go_at_call 205;refine HC2.o0.mono ?_;rintro e w5 ⟨g2,rfl,u5,lo5,hi5,f5⟩;have H5:=zhd4 u5 lo5 hi5 f5;clear u5 lo5 hi5 f5);clear y3;obtain⟨q8,hq8⟩:=zex w5.heap.size;obtain⟨w6,hw6⟩:=zex (w5.alloc (.cells #[.slice (some ⟨g2,0,none⟩) m2 m2] 147 (0,0)));have hb6:w6.heap[q8]?=some (.cells #[.slice (some ⟨g2,0,none⟩) m2 m2] 147 (0,0)):=by rw[hw6,hq8];exact qay w5 _
 have f6:Fr [] w5 w6:=by rw[hw6];exact (Fr.refl [] w5).alloc _
 rw[<-hw6,<-hq8];have H6:=zhd4 hb6 f6 hq8 hw6;clear hb6 f6 hq8 hw6;have f46:Fr [] w4 w6:=H5.l3.trans H6.o1;have f26:Fr [] w2 w6:=HC2.l1.trans f46;have hbx6:=f26.blk H2.out.2.2.2.2.1 (by simp);have hbp6:=f26.blk H2.out.2.2.2.2.2.1 (by simp);have env:Env p pp q6 B q8 g1 g2 a1 a2 c1 c2 m1 m2 ll dl w6:=by have k0:=cell_of hbp6 0;have k2:=cell_of hbx6 2;have k3:=cell_of hbx6 3;have k6:=cell_of (f46.blk H4.o0 (by simp)) 0;have k8:=cell_of H6.o0 0;simp only[qag,qac,qaf]at k0 k2 k3 k6 k8;exact⟨k0,k6,k2,k3,k8,Cs.fr H3.out.1 (H4.o1.trans f46) (by simp),Cs.fr H5.o0 H6.o1 (by simp),H2.out.2.2.2.2.2.2.1.fr f26,H2.out.2.2.2.2.2.2.2.fr f26,HE.o2,HE.o3⟩
 have hs12:=H2.out.2.1.fr.size;have hs23:=H3.out.2.2.2.size;have hs34:=H4.o1.size;have hs45:=H5.l3.size;have hs56:=H6.o1.size;have hsw:=HW.o0.size;have hzB:=HW.o3;have hEB:∀x∈envB pp q6 B q8 g1 g2 a1 a2,x∉F2∧x<w6.heap.size:=by
  intro x hx;have hn:=H2.out.2.1.new x;have ha1:=qn6 H.o8 (by have:=HR.o0;omega) x;have ha2:=qn6 H.o9 (by have:=HR.o2;omega) x;have hlw:x∈F2→x<w2.heap.size:=qu4 H2.out.2.1.wb x;have k3:=H3.out.2.1;have k3':=H3.out.2.2.1;have k5:=H5.o1;have k5':=H5.o2;have kq6:=H4.o2;have kq8:=H6.o2;have kpp:=HPP.out;have l6:=lt_of_block H4.o0;have l8:=lt_of_block H6.o0;have lB:=lt_of_block hbx6;have lp:=lt_of_block hbp6;simp only[envB,qbu,qbh,qcw,or_false]at hx;rcases hx with ((rfl|rfl|rfl|rfl|rfl|rfl)|hx)|hx
  ·refine⟨λh=>?_,by omega⟩;rcases hn h with k|k
   ·rw[kpp]at k;exact HW.out.2.2.2.2.2.2 k
   ·omega
  ·exact⟨λh=>by have:=hlw h;omega,by omega⟩
  ·refine⟨λh=>?_,by omega⟩;rcases hn h with k|k
   ·exact HW.l5.1 k
   ·omega
  ·exact⟨λh=>by have:=hlw h;omega,by omega⟩
  ·exact⟨λh=>by have:=hlw h;omega,by omega⟩
  ·exact⟨λh=>by have:=hlw h;omega,by omega⟩
  ·have:=ha1 hx;refine⟨λh=>?_,by omega⟩;rcases hn h with k|k
   ·exact (HR.l9 x k).2.1 hx
   ·omega
  ·have:=ha2 hx;refine⟨λh=>?_,by omega⟩;rcases hn h with k|k
   ·exact (HR.l9 x k).2.2.1 hx
   ·omega
 obtain⟨L0,hL0⟩:=zex (l0++([last]++lsb 2 (if told then 2 else 1))++hd);have hL0b:L0.length≤1000100000:=by rw[hL0];simp only[qab,lsb_length,qao,qbi];have:=HR.o8;have:=H2.out.2.2.1;omega
 have hwb6:Wb w6 p F2 L0:=by rw[hL0];exact qj5 H2.out.2.1.wb f26 (by simp)
 have fw6:Fr F w w6:=H2.out.2.2.2.1.trans (f26.mono (by simp));have hbr:Rd w6 a cap b:=H.o0.frS fw6 λx hx hxF=>(HR.l9 x hxF).2.2.2.1 hx
 have hlr:Cs w6 al (mcells l):=H.o1.fr fw6 λx hx hxF=>(HR.l9 x hxF).2.2.2.2 hx
 have hm1g:286≤m1:=by rw[HE.o2];exact HR.o0
 have hm2g:30≤m2:=by rw[HE.o3];exact HR.o2
 have hea:=quq 245 #[.pointer (some ⟨pp,0,none⟩),.pointer (some ⟨q6,0,none⟩),.pointer (some ⟨B,0,none⟩),.pointer (some ⟨q8,0,none⟩)] (λ_ _=>by kernel_rfl)
  (λT F' w'=>Env p pp q6 B q8 g1 g2 a1 a2 c1 c2 m1 m2 ll dl w'∧Wb w' p F' (L0++tsbits ll dl T)∧(∀x∈envB pp q6 B q8 g1 g2 a1 a2,x∉F'∧x<w'.heap.size)∧(tsbits ll dl T).length≤48*T.length) F2
  b a al cap cl r l (.slice a1 m1 c1) (.slice a2 m2 c2) told w6 rfl rfl hbr hlr H.o2 H.o3 H.o4 H.o5 H.o6 H.o7
  (λx hx=>by
   have hlw:=qu4 hwb6 x hx
   refine⟨hlw,λh=>?_,λh=>?_⟩
   ·rcases H2.out.2.1.new x hx with k|k
    ·exact (HR.l9 x k).2.2.2.1 h
    ·have:=HLA.o0 x h;omega
   ·rcases H2.out.2.1.new x hx with k|k
    ·exact (HR.l9 x k).2.2.2.2 h
    ·have:=HLA.l1 x h;omega)
  (λw' f=>⟨env.fr f (by simp),by simpa[tsbits] using qj5 hwb6 f (by simp),λx hx=>⟨(hEB x hx).1,qat (hEB x hx).2 f.size⟩,by simp[tsbits]⟩)
  (λT F' c w' hT ⟨ev,hwb,hE,hTl⟩=>by
   refine (zar p pp q6 B q8 g1 g2 a1 a2 c1 c2 m1 m2 ll dl F' _ c w' ev hwb HR.o4 HR.o6 (by omega) (by rw[qab];have:=H.o7;omega)).mono ?_
   rintro e w2' ⟨rfl,f',F'',hb',hn'⟩
   have hk:=qly ll dl HR.o4 HR.o5 (.lit c) (λn d h=>by cases h)
   refine⟨rfl,f',F'',⟨ev.fr f' (λx hx=>(hE x hx).1),by rw[qh6,<-qas];exact hb',λx hx=>⟨λh=>?_,qat (hE x hx).2 f'.size⟩,by rw[qh6,qab,qab];simp only[qao,qbi];omega⟩,hn'⟩
   rcases hn' x h with k|k
   ·exact (hE x hx).1 k
   ·have:=(hE x hx).2;omega)
  (λT F' n d g o w' hT ⟨ev,hwb,hE,hTl⟩ h3 h258 h1 hd' hg e1 e2=>by
   refine (zaq p pp q6 B q8 g1 g2 g o a1 a2 c1 c2 m1 m2 ll dl F' _ n d w' ev hwb HR.o4 HR.o6 HR.o5 HR.o7 hm1g hm2g (by rw[qab];have:=H.o7;omega) hE h3 h258 h1 hd' hg e1 e2).mono ?_
   rintro e w2' ⟨rfl,f',F'',hb',hn'⟩
   have hk:=qly ll dl HR.o4 HR.o5 (.mat n d) (λn' d' h=>by cases h;exact⟨h3,h258,h1,hd'⟩)
   refine⟨rfl,f',F'',⟨ev.fr f' (λx hx=>(hE x hx).1),by rw[qh6,<-qas];exact hb',λx hx=>⟨λh=>?_,qat (hE x hx).2 f'.size⟩,by rw[qh6,qab,qab];simp only[qao,qbi];omega⟩,hn'⟩
   rcases hn' x h with k|k
   ·exact (hE x hx).1 k
   ·have:=(hE x hx).2;omega)
 unfold boxT at hea;rw[<-HE.o0,<-HE.o1]at hea;have y0:=cell_of hbx6 0;have y1:=cell_of hbx6 1;have y2:=cell_of hbx6 2;have y3:=cell_of hbx6 3;have y4:=cell_of hbx6 4;simp only[qag,qac,qaf]at y0 y1 y2 y3 y4;have HEA:=zhd hea;have HX:=zhd3 fw6 hL0 hL0b;clear hea hL0 hL0b hwb6 fw6 hbr hlr env hEB f46 f26 hbx6 hbp6 hs12 hs23 hs34 hs45 hs56 hsw hzB;go_upto_region 8 with (go_at_call 156;refine HEA.out.mono ?_;rintro e w7 ⟨rfl,f7,F7,⟨ev7,hwb7,hE7,hTl7⟩,hn7⟩;have H7:=zhd6 f7 ev7 hwb7 hE7 hTl7 hn7;clear f7 ev7 hwb7 hE7 hTl7 hn7);clear y0 y1 y2 y3 y4;obtain⟨f7,ev7,hwb7,hE7,hTl7,hn7⟩:=H7.out;obtain⟨ga,oa,ea,d1,d2⟩:=ev7.sym1 (show 256<m1 by omega);subst ea;have d3:=ev7.c4;have d4:=ev7.c6;have d5:=ev7.c32;have hcall:=qrm p F7 _ ll 256 w7.drew (qj5 hwb7 (Fr.drew1 [] w7) (by simp)) HR.o4 HR.o6 (by rw[qab];have:=qjc b 0 l;have:=H.o7;have:=HX.l2;omega);obtain⟨x,hx⟩:=zex (codeAt ll 256);obtain⟨y,hy⟩:=zex (lenAt ll 256);rw[<-hx]at d2 hcall;rw[<-hy]at d1 hcall;have hg:decide ((m1:Int)≤256)=false:=by simp;omega
 have HC:=zhd hcall;have HF7:=zhd2 f7 hn7;clear hcall f7 ev7 hwb7 hE7 hTl7 hn7 hx hy;refine qcu 8 (by kernel_rfl) (by kernel_rfl) ?_;simp only[qah,qan,qad,qaj];repeat (go_big_quiet_step (fail))
 refine wpQuiet_nil ?_;go_wp2_with (go_at_call 246;refine HC.out.mono ?_;rintro e w8 ⟨rfl,f8,F8,hb8,hn8⟩);(try simp only[Exit.inBlock,Exit.then]);refine bodyPost_end (results_none rfl _ _ _) rfl ?_;have hfall:Fr F w w7:=HX.o0.step HF7.out.1 λy hy=>by
  rcases H2.out.2.1.new y hy with k|k
  ·exact .inl k
  ·exact .inr (qar HW.o0.size k)
 have hF7n:∀y∈F7,y∈F∨w.heap.size≤y:=λy hy=>by
  rcases HF7.out.2 y hy with k|k
  ·rcases H2.out.2.1.new y k with k2|k2
   ·exact .inl k2
   ·exact .inr (qar HW.o0.size k2)
  ·exact .inr (qar HX.o0.size k)
 refine⟨rfl,(hfall.trans ((Fr.drew1 [] w7).mono (by simp))).step f8 λy hy=>hF7n y hy,[last]++lsb 2 (if told then 2 else 1)++hd++tsbits ll dl (toks b 0 l)++sbits ll 256,⟨hd,rfl,H2.out.1.1,H2.out.1.2⟩,F8,?_,λy hy=>?_⟩
 ·rw[HX.o1]at hb8;simpa only[qas] using hb8
 ·rcases hn8 y hy with k|k
  ·exact hF7n y k
  ·exact .inr (qar hfall.size k)
def fixL (i:Nat):Nat:=if i<144 then 8 else if i<256 then 9 else if i<280 then 7 else 8
def alw (n:Nat):List Nat:=(List.range n).map fixL
theorem qlq (n:Nat):alw (n+1)=alw n++[fixL n]:=by unfold alw;rw[List.range_succ,qbe];rfl
theorem qf6 (a b:List Nat):ints (a++b)=ints a++ints b:=by simp[ints]
theorem zgv {i:Nat} (h:i<144):fixL i=8:=by unfold fixL;rw[if_pos h]
theorem zgu {i:Nat} (h1:¬i<144) (h:i<256):fixL i=9:=by unfold fixL;rw[if_neg h1,if_pos h]
theorem zgt {i:Nat} (h1:¬i<144) (h2:¬i<256) (h:i<280):fixL i=7:=by unfold fixL;rw[if_neg h1,if_neg h2,if_pos h]
theorem zgs {i:Nat} (h1:¬i<144) (h2:¬i<256) (h:¬i<280):fixL i=8:=by unfold fixL;rw[if_neg h1,if_neg h2,if_neg h]
def AlwaysGood (w:World) (e:Ending) (w':World):Prop:=
 ∃a1 c1 a2 c2,e = .returned (.tuple #[.slice a1 288 c1,.slice a2 30 c2])∧Made w w' 3 1 a1 288 c1 (ints (alw 288))∧Made w w' 3 1 a2 30 c2 (ints (List.replicate 30 5))
theorem qwe (w:World):Calls Tryz.prog 127 #[] w (AlwaysGood w):=by
 go_enter Tryz.func127,Tryz.ntmps127;go_wp2;go_loopg [0,2,3,9,17] 288 (λk s0 s2 s3 s9 s17 wr=>∃(i:Nat) (ao:Option Addr) (cp:Nat),s3 = .int .i64 (i:Nat)∧s0 = .slice ao i cp∧i+k=288∧Made w wr 3 1 ao i cp (ints (alw i)));case atStart=>exact⟨0,none,0,rfl,rfl,rfl,.none w _ _⟩
 case round=>
  obtain⟨i,ao,cp,rfl,rfl,hik,hm⟩:=hrel;have HI:=zhd2 hm hik;clear hm;by_cases hi:i<288
  ·obtain⟨k,rfl⟩:∃k,gk=k+1:=⟨gk-1,by omega⟩;clear hik;by_cases h1:i<144
   ·go_wp2_with (refine qba qdd rfl _ _ rfl (.slice ao i cp) i (ints (alw i)) (blk ao) rfl (qby ao i cp) (HI.o0.fr2 ((Fr.refl [] _).alloc _)).own (some ⟨wr.heap.size,0,none⟩) 1 1 [.int .i64 8] (by first|rfl|simp) (qae _) (λh=>by cases h) (qdp _ _ _ _ (qay _ _)) rfl (by intro u hu;simp only[qa2]at hu;rw[hu];rfl) (by omega) (by unfold maxLen;omega) ?_;intro ao2 cp2 w2 hap;have HA:=zhd ((HI.o0.fr2 ((Fr.refl [] _).alloc _)).app hap);clear hap);go_roundg k;case measure=>omega
    case rel=>refine⟨i+1,ao2,cp2,by go_num,rfl,by have:=HI.l1;omega,?_⟩;have hA3:=HA.out;rw[qlq,qf6,zgv h1];exact hA3
   ·by_cases h2:i<256
    ·have h4:¬280≤i:=by omega
     go_wp2_with (refine qba qdd rfl _ _ rfl (.slice ao i cp) i (ints (alw i)) (blk ao) rfl (qby ao i cp) (HI.o0.fr2 ((Fr.refl [] _).alloc _)).own (some ⟨wr.heap.size,0,none⟩) 1 1 [.int .i64 9] (by first|rfl|simp) (qae _) (λh=>by cases h) (qdp _ _ _ _ (qay _ _)) rfl (by intro u hu;simp only[qa2]at hu;rw[hu];rfl) (by omega) (by unfold maxLen;omega) ?_;intro ao2 cp2 w2 hap;have HA:=zhd ((HI.o0.fr2 ((Fr.refl [] _).alloc _)).app hap);clear hap);go_roundg k;case measure=>omega
     case rel=>refine⟨i+1,ao2,cp2,by go_num,rfl,by have:=HI.l1;omega,?_⟩;have hA3:=HA.out;rw[qlq,qf6,zgu h1 h2];exact hA3
    ·by_cases h3:i<280
     ·have h4:¬280≤i:=by omega
      go_wp2_with (refine qba qdd rfl _ _ rfl (.slice ao i cp) i (ints (alw i)) (blk ao) rfl (qby ao i cp) (HI.o0.fr2 ((Fr.refl [] _).alloc _)).own (some ⟨wr.heap.size,0,none⟩) 1 1 [.int .i64 7] (by first|rfl|simp) (qae _) (λh=>by cases h) (qdp _ _ _ _ (qay _ _)) rfl (by intro u hu;simp only[qa2]at hu;rw[hu];rfl) (by omega) (by unfold maxLen;omega) ?_;intro ao2 cp2 w2 hap;have HA:=zhd ((HI.o0.fr2 ((Fr.refl [] _).alloc _)).app hap);clear hap);go_roundg k;case measure=>omega
      case rel=>refine⟨i+1,ao2,cp2,by go_num,rfl,by have:=HI.l1;omega,?_⟩;have hA3:=HA.out;rw[qlq,qf6,zgt h1 h2 h3];exact hA3
     ·have h4:280≤i:=by omega
      go_wp2_with (refine qba qdd rfl _ _ rfl (.slice ao i cp) i (ints (alw i)) (blk ao) rfl (qby ao i cp) (HI.o0.fr2 ((Fr.refl [] _).alloc _)).own (some ⟨wr.heap.size,0,none⟩) 1 1 [.int .i64 8] (by first|rfl|simp) (qae _) (λh=>by cases h) (qdp _ _ _ _ (qay _ _)) rfl (by intro u hu;simp only[qa2]at hu;rw[hu];rfl) (by omega) (by unfold maxLen;omega) ?_;intro ao2 cp2 w2 hap;have HA:=zhd ((HI.o0.fr2 ((Fr.refl [] _).alloc _)).app hap);clear hap);go_roundg k;case measure=>omega
      case rel=>refine⟨i+1,ao2,cp2,by go_num,rfl,by have:=HI.l1;omega,?_⟩;have hA3:=HA.out;rw[qlq,qf6,zgs h1 h2 h3];exact hA3
  ·obtain rfl:i=288:=by omega
   clear hik;obtain⟨wo,rfl⟩:∃wo:World,wo=wr:=⟨_,rfl⟩;go_wp2;go_loopg [1,24] 30 (λk s1 s24 wr=>∃(j:Nat) (a2:Option Addr) (c2:Nat),s24 = .int .i64 (j:Nat)∧s1 = .slice a2 j c2∧j+k=30∧Made wo wr 3 1 a2 j c2 (ints (List.replicate j 5)));case atStart=>exact⟨0,none,0,rfl,rfl,rfl,.none wo _ _⟩
   case round=>
    obtain⟨j,a2,c2,rfl,rfl,hjk,hm⟩:=hrel;have HJ:=zhd2 hm hjk;clear hm;by_cases hj:j<30
    ·obtain⟨k,rfl⟩:∃k,gk=k+1:=⟨gk-1,by omega⟩;clear hjk;go_wp2_with (refine qba qdd rfl _ _ rfl (.slice a2 j c2) j (ints (List.replicate j 5)) (blk a2) rfl (qby a2 j c2) (HJ.o0.fr2 ((Fr.refl [] _).alloc _)).own (some ⟨wr.heap.size,0,none⟩) 1 1 [.int .i64 5] (by first|rfl|simp) (qae _) (λh=>by cases h) (qdp _ _ _ _ (qay _ _)) rfl (by intro u hu;simp only[qa2]at hu;rw[hu];rfl) (by omega) (by unfold maxLen;omega) ?_;intro ao2 cp2 w2 hap;have HA:=zhd ((HJ.o0.fr2 ((Fr.refl [] _).alloc _)).app hap);clear hap);go_roundg k;case measure=>omega
     case rel=>refine⟨j+1,ao2,cp2,by go_num,rfl,by have:=HJ.l1;omega,?_⟩;have hA3:=HA.out;rw[qfl,qf6];exact hA3
    ·obtain rfl:j=30:=by omega
     clear hjk;go_wp2;go_ret2;exact⟨ao,cp,a2,c2,rfl,HI.o0.fr2 HJ.o0.fr,HJ.o0.pre HI.o0.fr⟩
theorem qzt {ll dl:List Nat} {T:List Tok} {told:Bool} {b:List Bool} (h:CodedBits ll dl T true told b):0<b.length:=by obtain⟨hd,rfl,_⟩:=h;simp only[qab,qao,qbi];omega
theorem qr4 {b:List UInt8} {r:Nat} (hr:r≤32768):∀(k i:Nat) (l:List Mt),k=b.length-i→Chain b r i l→∀x∈toks b i l,∀n d,x = .mat n d→3≤n∧n≤258∧1≤d∧d≤32768:=by
 intro k;induction k using Nat.strongRecOn with
 | ind k ih=>
  intro i l hk hch x hx n d he;by_cases h:i<b.length
  ·match l,hch with
   | [],hch=>
    rw[qg5 h (λa n d t he=>by cases he)]at hx;rcases qbh.1 hx with e|e
    ·rw[e]at he;cases he
    ·exact ih (b.length-(i+1)) (by omega) (i+1) [] rfl trivial x e n d he
   | (a,n',d')::t,hch=>
    by_cases hc:a=i
    ·subst hc;have hc2:=hch;obtain⟨k1,k2,k3,k4,k5,k6,k7,_,k9⟩:=hc2;rw[qlf h (by omega)]at hx;rcases qbh.1 hx with e|e
     ·rw[e]at he;simp only[Tok.mat.injEq]at he;obtain⟨rfl,rfl⟩:=he;exact⟨k2,k3,k4,by omega⟩
     ·exact ih (b.length-(a+n')) (by omega) (a+n') t rfl k9 x e n d he
    ·have h3:=qku (l:=(a,n',d')::t) hch _ _ _ _ rfl hc;rw[qg5 h (λa2 n2 d2 t2 he2=>by simp only[qwh,qa4]at he2;rw[<-he2.1.1];exact hc)]at hx;rcases qbh.1 hx with e|e
     ·rw[e]at he;cases he
     ·exact ih (b.length-(i+1)) (by omega) (i+1) _ rfl h3 x e n d he
  ·rw[qlg (by omega)]at hx;cases hx
theorem qnw (ll dl:List Nat) (h1:∀l∈ll,l≤15) (h2:∀l∈dl,l≤15) (T:List Tok) (hT:∀x∈T,∀n d,x = .mat n d→3≤n∧n≤258∧1≤d∧d≤32768):(tsbits ll dl T).length≤T.length*48:=
 qpu (tbits ll dl) 48 T λx hx=>qly ll dl h1 h2 x (hT x hx)
theorem qox (q:Nat) (b:List UInt8) (a al:Option Addr) (cap cl r:Nat) (l:List Mt) (a1 a2:Option Addr) (c1 c2:Nat) (ll dl:List Nat) (told:Bool) (w:World)
  (hq:w.heap[q]?=some (.cells #[.iface 197 (.agg #[.slice a b.length cap,.slice al l.length cl,.slice a1 ll.length c1,.slice a2 dl.length c2,.bool told])] 247 (0,0)))
  (hb:Rd w a cap b) (hl:Cs w al (mcells l)) (hlc:l.length≤cl) (hln:al=none→cl=0) (hcm:cl≤maxLen) (hch:Chain b r 0 l) (hr:r≤32768) (hblen:b.length≤1000000)
  (h1:Ri w a1 c1 ll) (h2:Ri w a2 c2 dl) (n1:286≤ll.length) (n1':ll.length≤400) (n2:30≤dl.length) (n2':dl.length≤400) (nt:told=true→ll.length=286∧dl.length=30)
  (hle1:∀x∈ll,x≤15) (hle2:∀x∈dl,x≤15) (hw1:weight ll≤32768) (hw2:weight dl≤32768)
  (hla:∀x∈blk a,x<w.heap.size) (hll:∀x∈blk al,x<w.heap.size) :
  Calls Tryz.prog 128 #[.slice (some ⟨q,0,none⟩) 1 1] w λe w'=>∃bb,CodedBits ll dl (toks b 0 l) true told bb∧bb.length≤100000000∧NewBytes w (bytesOf bb) e w':=by
 obtain⟨p,hp⟩:=zex w.heap.size;obtain⟨w1,hw1'⟩:∃w1,w1=w.alloc (.cells #[.slice none 0 0,.int .u64 0,.int .i64 0] 245):=⟨_,rfl⟩;have hnew:=zdg w;rw[<-hw1',<-hp]at hnew;have f1:Fr [] w w1:=by rw[hw1'];exact (Fr.refl [] w).alloc _
 obtain⟨w2,hw2'⟩:∃w2,w2=w1.alloc (.cells #[.slice none 0 0] 238):=⟨_,rfl⟩;have f2:Fr [] w1 w2:=by rw[hw2'];exact (Fr.refl [] w1).alloc _
 have f12:=f1.trans f2;have d0:=cell_of (f1.blk hq (by simp)) 0;simp only[qag,qac]at d0;have hcw:=qv6 p [p] [] b a al cap cl r l a1 a2 c1 c2 ll dl told true w2 (hb.fr f12) (hl.fr f12 (by simp)) hlc hln hcm hch hr hblen (h1.fr f12) (h2.fr f12) (qj5 hnew f2 (by simp)) n1 n1' n2 n2' nt hle1 hle2 hw1 hw2 (by decide)
  (λx hx=>by
   have e:x=p:=by simpa using hx
   have k1:=qn6 h1 (by omega) x
   have k2:=qn6 h2 (by omega) x
   have k3:=hla x
   have k4:=hll x
   have k5:=lt_of_block (qay w (.cells #[.slice none 0 0,.int .u64 0,.int .i64 0] 245))
   rw[<-hw1',<-hp]at k5
   have:=f2.size
   exact⟨by omega,λh=>by have:=k1 h;omega,λh=>by have:=k2 h;omega,λh=>by have:=k3 h;omega,λh=>by have:=k4 h;omega⟩)
  (λx hx=>qat (hla x hx) f12.size) (λx hx=>qat (hll x hx) f12.size)
 have hbits:∀bb,CodedBits ll dl (toks b 0 l) true told bb→bb.length≤100000000:=by
  rintro bb ⟨hd,rfl,hd0,hd1⟩;have k1:=qnw ll dl hle1 hle2 (toks b 0 l) (qr4 hr _ 0 l rfl hch);have k2:=qjc b 0 l;have k3:=qeb ll hle1 256;have k4:hd.length≤20000:=by
   cases told with
   | false=>rw[hd0 rfl];exact qa5 _
   | true=>obtain⟨nl,nd,nc,cl2,rs,ht⟩:=hd1 rfl;exact qtl ht (nt rfl).1 (nt rfl).2
  simp only[qab,qao,qbi,lsb_length];omega
 obtain⟨BL,hBL⟩:=zex b.length;obtain⟨LL,hLL⟩:=zex l.length;obtain⟨m1,hm1⟩:=zex ll.length;obtain⟨m2,hm2⟩:=zex dl.length;rw[<-hBL,<-hLL,<-hm1,<-hm2]at d0 hcw;have hta:∀w:World,(Instr.typeAssert (.iface 197 (.agg #[.slice a BL cap,.slice al LL cl,.slice a1 m1 c1,.slice a2 m2 c2,.bool told])) 247 238 true).run Tryz.prog w = .ok (.tuple #[.agg #[.slice none 0 0],.bool false]) w:=λ_=>by kernel_rfl
 have hme:∀(f:Nat) (w:World),(method (f+1) 197 (.agg #[.slice a BL cap,.slice al LL cl,.slice a1 m1 c1,.slice a2 m2 c2,.bool told]) "stemma/deflate.write").run Tryz.prog w = .ok (242,.agg #[.slice a BL cap,.slice al LL cl,.slice a1 m1 c1,.slice a2 m2 c2,.bool told]) w:=λ_ _=>by kernel_rfl
 have H:=zhd5 hcw hbits f1 f2 hnew;have HW:=zhd3 hw1'.symm hw2'.symm hp;clear hq hb hl hlc hln hcm hch hr hblen h1 h2 n1 n1' n2 n2' nt hle1 hle2 hw1 hw2 hla hll hcw hbits f1 f2 hnew hw1' hw2' hp f12 hBL hLL hm1 hm2;go_enter Tryz.func128,Tryz.ntmps128;go_upto_block 0 with fail;rw[HW.o0,<-HW.l2];go_wp2;go_loopg [4,5,6,7,10] 1 (λk s4 s5 s6 s7 s10 wr=>∃(t:Nat) (F:List Nat) (bb:List Bool),s10 = .int .i64 (t:Nat)∧t+k=1∧(t=0→wr=w1)∧(t=1→CodedBits ll dl (toks b 0 l) true told bb∧Wb wr p F bb∧Fr [] w wr));case atStart=>exact⟨0,[],[],rfl,rfl,λ_=>rfl,λh=>absurd h (by omega)⟩
 case round=>
  obtain⟨t,F,bb,rfl,htk,h0,h1⟩:=hrel;by_cases ht:t=0
  ·subst ht;obtain rfl:=h0 rfl;obtain rfl:gk=1:=by omega
   clear h0 h1 htk;go_upto_region 8 with fail;rw[HW.o1];go_wp2_with (go_at_call 242;refine H.o0.mono ?_;rintro e w3 ⟨rfl,f3,bb,hbb,F3,hb3,hn3⟩;have H3:=zhd4 f3 hbb hb3 hn3;clear f3 hbb hb3 hn3);go_roundg 0;case measure=>omega
   case rel=>
    refine⟨1,F3,bb,rfl,rfl,λh=>absurd h (by omega),λ_=>⟨H3.o1,by simpa using H3.o2,(H.o2.trans H.o3).step H3.o0 λy hy=>.inr ?_⟩⟩;have e:y=p:=by simpa using hy
    rw[e,HW.l2];exact qae _
  ·obtain rfl:t=1:=by omega
   obtain rfl:gk=0:=by omega
   obtain⟨hbb,hW,hf⟩:=h1 rfl;have hby:=qz2 p F bb wr hW (qzt hbb) (by have:=H.o1 bb hbb;omega);unfold NewBytes at hby;have HB:=zhd3 hby hf hbb;clear hby hW hf hbb h0 h1;go_wp2_with (go_at_call 155;refine HB.o0.mono ?_;rintro e w2' ⟨a2',rfl,r2,n2',f2'⟩);go_ret;refine⟨bb,HB.l2,H.o1 bb HB.l2,?_⟩;unfold NewBytes;exact⟨a2',rfl,r2,λx hx=>⟨qar HB.o1.size (n2' x hx).1,(n2' x hx).2⟩,HB.o1.trans f2'⟩
def toksOf (b:List UInt8):List Tok:=toks b 0 (qen b 32768)
def litCs (b:List UInt8):List Nat:=(List.range 286).map (litc b (toksOf b))
def distCs (b:List UInt8):List Nat:=(List.range 30).map (dcnt (toksOf b))
def FixedB (b:List UInt8) (bb:List Bool):Prop:=CodedBits (alw 288) (List.replicate 30 5) (toksOf b) true false bb
def DynB (b:List UInt8) (bb:List Bool):Prop:=∃ll dl,LensOk 15 (litCs b) ll∧LensOk 15 (distCs b) dl∧CodedBits ll dl (toksOf b) true true bb
def RawRes (b:List UInt8) (level:Int) (r:List UInt8):Prop:=
 ∃bf,FixedB b bf∧(level=1→r=bytesOf bf)∧(2≤level→(r=bytesOf bf∨r=plainBytes b∨∃bd,DynB b bd∧r=bytesOf bd)∧r.length≤(bytesOf bf).length∧r.length≤(plainBytes b).length)
theorem qiy {L:Nat} {cs ls:List Nat} (h:LensOk L cs ls):weight ls≤32768:=by
 by_cases h2:2≤(symsTo cs cs.length).length
 ·rw[h.full h2];exact qae _
 ·have hm:ls=(List.range cs.length).map (lenAt ls):=by
   rw[<-h.len];refine qnv λi=>?_
   rw[qbl];by_cases hi:i<ls.length
   ·rw[qwg hi,qai hi];simp[lenAt,hi]
   ·rw[qbo (by omega),qbo (by simp;omega)];rfl
  have hs:weight ls=((symsTo cs cs.length).map λs=>wt (lenAt ls s)).sum:=by rw[hm,qj4,<-hm];rw[qka (λs=>decide (0<lenAt cs s)) _ _ λs _ hp=>by rw[h.zero s (by simpa using hp)];rfl];rfl
  have hw:∀s,wt (lenAt ls s)≤16384:=λs=>by
   unfold wt;split
   ·omega
   ·exact qar (qa3 (by decide) (show 15-lenAt ls s≤14 by omega)) (by decide)
  rw[hs];match hsy:symsTo cs cs.length with
  | []=>simp
  | [x]=>simp;have:=hw x;omega
  | x::y::t=>rw[hsy]at h2;simp at h2
theorem qth:(alw 288).length=288:=by simp[alw]
theorem quz:∀x∈alw 288,x≤15:=λx hx=>by
 simp only[alw,qcj]at hx;obtain⟨i,_,rfl⟩:=hx;unfold fixL;split
 ·omega
 ·split
  ·omega
  ·split<;>omega
theorem qou:weight (alw 288)=32768:=by decide +kernel
theorem qiz:weight (List.replicate 30 5)=30720:=by decide +kernel
def Box (w:World) (C:Nat) (a al:Option Addr) (bl cap ll:Nat) (v2 v3:Value) (told:Bool):Prop:=w.heap[C]?=some (.cells #[.slice a bl cap,.slice al ll ll,v2,v3,.bool told] 197 (0,0))
theorem Box.set {w:World} {C:Nat} {a al:Option Addr} {bl cap ll:Nat} {v2 v3:Value} {told:Bool} (h:Box w C a al bl cap ll v2 v3 told) (x y:Value) :
  Box ((w.setCell ⟨C,2,none⟩ x).setCell ⟨C,3,none⟩ y) C a al bl cap ll x y told:=(qax (o:=3) (qax (o:=2) h x) y)
theorem Box.fr {w w':World} {C:Nat} {S:List Nat} {a al:Option Addr} {bl cap ll:Nat} {v2 v3:Value} {told:Bool} (h:Box w C a al bl cap ll v2 v3 told) (f:Fr S w w') (hC:C∉S):Box w' C a al bl cap ll v2 v3 told:=f.blk h hC
theorem qz1 {b:List UInt8} {r:Nat}:∀{l:List Mt} {e:Nat},Chain b r e l→l.length≤b.length+1
 | [],_,_=>qa5 _
 | l,e,h=>by
  have key:∀(l:List Mt) (e:Nat),Chain b r e l→e≤b.length→e+l.length≤b.length:=by
   intro l;induction l with
   | nil=>intro e _ he;simpa using he
   | cons x t ih=>intro e h he;obtain⟨a,n,d⟩:=x;obtain⟨k1,k2,k3,k4,k5,k6,k7,_,k9⟩:=h;have:=ih (a+n) k9 k7;simp only[qao];omega
  have key2:∀(l:List Mt) (e:Nat),Chain b r e l→l≠[]→e+l.length≤b.length:=by
   intro l e h hne;cases l with
   | nil=>exact absurd rfl hne
   | cons x t=>obtain⟨a,n,d⟩:=x;obtain⟨k1,k2,k3,k4,k5,k6,k7,_,k9⟩:=h;have:=key t (a+n) k9 k7;simp only[qao];omega
  by_cases hne:l=[]
  ·rw[hne];exact qa5 _
  ·have:=key2 l e h hne;omega
theorem Box.tell {w:World} {C:Nat} {a al:Option Addr} {bl cap ll:Nat} {v2 v3:Value} {told:Bool} (h:Box w C a al bl cap ll v2 v3 told) :
  Box (w.setCell ⟨C,4,none⟩ (.bool true)) C a al bl cap ll v2 v3 true:=qax (o:=4) h (.bool true)
theorem Box.cells {w:World} {C:Nat} {a al:Option Addr} {bl cap ll:Nat} {v2 v3:Value} {told:Bool} (h:Box w C a al bl cap ll v2 v3 told) :
  w.cell? ⟨C,0,none⟩=some (.slice a bl cap)∧w.cell? ⟨C,1,none⟩=some (.slice al ll ll)∧w.cell? ⟨C,2,none⟩=some v2∧w.cell? ⟨C,3,none⟩=some v3∧w.cell? ⟨C,4,none⟩=some (.bool told):=
 ⟨cell_of h 0,cell_of h 1,cell_of h 2,cell_of h 3,cell_of h 4⟩
theorem zge {w:World} {Q N:Nat} {F:Nat→Nat} (h:Ow w Q N F) (hN:N≤400):Ri w (some ⟨Q,0,none⟩) N ((List.range N).map F):=
 ⟨h.cs,by simp,by unfold maxLen;omega,λh=>by cases h⟩
theorem Box.lit {w:World} {C:Nat} {a al:Option Addr} {bl cap ll:Nat} {v2 v3:Value} {told:Bool} (h:Box w C a al bl cap ll v2 v3 told) (x:Value) :
  Box (w.setCell ⟨C,2,none⟩ x) C a al bl cap ll x v3 told:=qax (o:=2) h x
theorem Box.dist {w:World} {C:Nat} {a al:Option Addr} {bl cap ll:Nat} {v2 v3:Value} {told:Bool} (h:Box w C a al bl cap ll v2 v3 told) (x:Value) :
  Box (w.setCell ⟨C,3,none⟩ x) C a al bl cap ll v2 x told:=qax (o:=3) h x
theorem qm9 {S:List Nat} {w w':World} (h:Fr S w w') (hS:∀x∈S,w.heap.size≤x):Fr [] w w':=h.mono λx hx=>.inr (hS x hx)
theorem qkw (b:List UInt8) (a al:Option Addr) (cap BL LL m1 m2:Nat) (l:List Mt) (a1 a2:Option Addr) (c1 c2:Nat) (ll dl:List Nat) (told:Bool) (w:World) (e1:BL=b.length) (e2:LL=l.length) (e3:m1=ll.length) (e4:m2=dl.length)
  (hb:lib.Rd w a cap b) (hl:Cs w al (mcells l)) (hln:al=none→LL=0) (hcm:LL≤maxLen) (hch:Chain b 32768 0 l) (hblen:b.length≤1000000)
  (h1:Ri w a1 c1 ll) (h2:Ri w a2 c2 dl) (n1:286≤ll.length) (n1':ll.length≤400) (n2:30≤dl.length) (n2':dl.length≤400) (nt:told=true→ll.length=286∧dl.length=30)
  (hle1:∀x∈ll,x≤15) (hle2:∀x∈dl,x≤15) (hw1:weight ll≤32768) (hw2:weight dl≤32768)
  (hla:∀x∈blk a,x<w.heap.size) (hll:∀x∈blk al,x<w.heap.size) :
  Calls Tryz.prog 128 #[.slice (some ⟨w.heap.size,0,none⟩) 1 1] (w.alloc (.cells #[.iface 197 (.agg #[.slice a BL cap,.slice al LL LL,.slice a1 m1 c1,.slice a2 m2 c2,.bool told])] 247 (0,0)))
   λe w'=>∃bb,CodedBits ll dl (toks b 0 l) true told bb∧bb.length≤100000000∧NewBytes w (bytesOf bb) e w':=by
 subst e1;subst e2;subst e3;subst e4;have f:Fr [] w (w.alloc (.cells #[.iface 197 (.agg #[.slice a b.length cap,.slice al l.length l.length,.slice a1 ll.length c1,.slice a2 dl.length c2,.bool told])] 247 (0,0))):=(Fr.refl [] w).alloc _;refine (qox w.heap.size b a al cap l.length 32768 l a1 a2 c1 c2 ll dl told _ (qay w _) (hb.fr f) (hl.fr f (by simp)) (qae _) hln hcm hch (qae _) hblen (h1.fr f) (h2.fr f) n1 n1' n2 n2' nt hle1 hle2 hw1 hw2
  (λx hx=>qat (hla x hx) f.size) (λx hx=>qat (hll x hx) f.size)).mono ?_
 rintro e w' ⟨bb,h3,h4,a',h5,h6,h7,h8⟩;exact⟨bb,h3,h4,a',h5,h6,λx hx=>⟨qar f.size (h7 x hx).1,(h7 x hx).2⟩,f.trans h8⟩
theorem zbm (a:Option Addr) (cap:Nat) (b:List UInt8) (level:Int) (w:World) (h:lib.Rd w a cap b) (hlen:b.length≤100000) (hl:1≤level) (hla:∀x∈blk a,x<w.heap.size) :
  Calls Tryz.prog 103 #[.slice a b.length cap,.int .i64 level] w λe w'=>∃r,RawRes b level r∧NewBytes w r e w':=by
 have hmt:=qsr b a cap 32768 w h hlen;obtain⟨l,hl'⟩:∃l,l=qen b 32768:=⟨_,rfl⟩;have hch:Chain b 32768 0 l:=by rw[hl'];have:=qfq b 32768;simpa using this
 obtain⟨LL,hLL⟩:=zex l.length;obtain⟨BL,hBL⟩:=zex b.length;unfold MatchesNew at hmt;rw[<-hl',<-hLL,<-hBL]at hmt;have hLB:LL≤9223372036854775807→True:=λ_=>trivial
 have d0:decide (level≤0)=false:=by simp;omega
 have H:=zhd7 h hlen hla hch hl' hLL hBL;have HM:=zhd hmt;rw[<-hBL]at hlen ⊢;clear h hla hch hl' hLL hBL hmt hLB;go_enter Tryz.func103,Tryz.ntmps103;go_upto_region 4 with (go_at_call 126;refine HM.out.mono ?_;rintro e w1 ⟨al,rfl,cs1,no1,lw1,f1⟩;have H1:=zhd4 cs1 no1 lw1 f1;clear cs1 no1 lw1 f1);obtain⟨C,hC⟩:=zex w1.heap.size;obtain⟨w2,hw2⟩:=zex (w1.alloc (.cells #[.slice a BL cap,.slice al LL LL,.slice none 0 0,.slice none 0 0,.bool false] 197 (0,0)));have bx2:Box w2 C a al BL cap LL (.slice none 0 0) (.slice none 0 0) false:=by unfold Box;rw[hw2,hC];exact qay w1 _
 have f12:Fr [] w1 w2:=by rw[hw2];exact (Fr.refl [] w1).alloc _
 rw[<-hw2,<-hC];have H2:=zhd4 bx2 f12 hC hw2;clear bx2 f12 hC hw2;have hal:=qwe w2;unfold AlwaysGood at hal;have HAL:=zhd hal;clear hal;go_upto_region 4 with fail;have mkf:∀w3,Fr [] w2 w3→w3.cell? ⟨C,2,none⟩=some (.slice none 0 0)∧w3.cell? ⟨C,3,none⟩=some (.slice none 0 0)∧w3.frozen? ⟨C,2,none⟩=false∧w3.frozen? ⟨C,3,none⟩=false:=λw3 f=>by have b3:=H2.o0.fr f (by simp);unfold Box at b3;exact⟨cell_of b3 2,cell_of b3 3,qau b3 2,qau b3 3⟩
 have HMK:=zhd mkf;clear mkf;go_upto_region 5 with (go_at_call 127;refine HAL.out.mono ?_;rintro e w3 ⟨a1,c1,a2,c2,rfl,md1,md2⟩;obtain⟨x2,x3,z2,z3⟩:=HMK.out w3 md1.fr;have H3:=zhd2 md1 md2;clear md1 md2);clear x2 x3 z2 z3;obtain⟨w4,hw4⟩:=zex ((w3.setCell ⟨C,2,none⟩ (.slice a1 288 c1)).setCell ⟨C,3,none⟩ (.slice a2 30 c2));have bx4:Box w4 C a al BL cap LL (.slice a1 288 c1) (.slice a2 30 c2) false:=by rw[hw4];exact (H2.o0.fr H3.o0.fr (by simp)).set _ _
 have f34:Fr [C] w3 w4:=by rw[hw4];exact ((Fr.refl [C] w3).setCell (by simp) _).setCell (by simp) _
 rw[<-hw4];have hCw:w.heap.size≤C:=by rw[H2.o2];exact H1.l3.size
 have hC2:C<w2.heap.size:=by have:=H2.o0;unfold Box at this;exact lt_of_block this
 have f13:Fr [] w1 w3:=H2.o1.trans H3.o0.fr;have f14:Fr [C] w1 w4:=(f13.mono (by simp)).trans f34;have fw4:Fr [C] w w4:=(H1.l3.mono (by simp)).trans f14;have rd4:lib.Rd w4 a cap b:=H.o0.frS fw4 λx hx hm=>by have:=H.o2 x hx;simp at hm;omega
 have cs4:Cs w4 al (mcells l):=H1.o0.fr f14 λx hx hm=>by have:=H1.o2 x hx;have:=H2.o2;simp at hm;omega
 have ri1:Ri w4 a1 c1 (alw 288):=by
  refine qiq (qpb H3.o0 (by rw[qth])) f34 λx hx hm=>?_
  have:=H3.o0.new x hx;simp at hm;omega
 have ri2:Ri w4 a2 c2 (List.replicate 30 5):=by
  refine qiq (qpb H3.l1 (by simp)) f34 λx hx hm=>?_
  have:=H3.l1.new x hx;simp at hm;omega
 have H3b:w3.heap.size≤w4.heap.size:=f34.size;have hmx:LL≤maxLen:=by rw[H.o5];have:=qz1 H.o3;have:=H.o1;unfold maxLen;omega
 have hwr:=qkw b a al cap BL LL 288 30 l a1 a2 c1 c2 (alw 288) (List.replicate 30 5) false w4 H.l6 H.o5 qth.symm (by simp) rd4 cs4 H1.o1 hmx H.o3 (by have:=H.o1;omega) ri1 ri2 (by rw[qth];decide) (by rw[qth];decide) (by simp) (by simp) (λh=>by cases h) quz (by intro x hx;rw[(qlb.1 hx).2];decide) (by rw[qou];exact qae _) (by rw[qiz];decide)
  (λx hx=>qat (H.o2 x hx) fw4.size) (λx hx=>qat (H1.o2 x hx) f14.size)
 have ht4:toks b 0 l=toksOf b:=by rw[H.o4];rfl
 rw[ht4]at hwr;have e0:=cell_of bx4 0;have e1:=cell_of bx4 1;have e2:=cell_of bx4 2;have e3:=cell_of bx4 3;have e4:=cell_of bx4 4;simp only[qag,qac,qaf]at e0 e1 e2 e3 e4;have H4:=zhd8 hwr bx4 f14 fw4 rd4 cs4 hmx ht4;have HC:=zhd2 hCw hC2;clear hwr bx4 f14 fw4 rd4 cs4 hmx ht4 ri1 ri2 H3b f13 f34 hw4 hCw hC2;unfold NewBytes at H4;go_upto_region 6 with (go_at_call 128;refine H4.o0.mono ?_;rintro e w6 ⟨bf,hbf,hbl,o6,rfl,r6,n6,f6⟩;have H6:=zhd5 hbf hbl r6 n6 f6;clear hbf hbl r6 n6 f6);clear e0 e1 e2 e3 e4;obtain⟨x6,hx6⟩:=zex ((bytesOf bf).length);rw[<-hx6];have HX6:=zhd hx6;have hxb:x6≤20000000:=by rw[hx6,bytesOf_length];have:=H6.o1;omega
 clear hx6;by_cases hl1:level=1
 ·subst hl1;go_wp2;go_ret;refine⟨bytesOf bf,⟨bf,H6.o0,λ_=>rfl,λh=>absurd h (by decide)⟩,o6,by rw[HX6.out];rfl,H6.o2,λx hx=>⟨qar H4.o3.size (H6.o3 x hx).1,(H6.o3 x hx).2⟩,?_⟩;exact qm9 (H4.o3.step H6.l4 (by simp)) (λx hx=>by simp at hx;rw[hx];exact HC.o0)
 ·have q1:(level==1)=false:=by simp only[beq_eq_false_iff_ne];exact hl1
  have f6:Fr [C] w w6:=H4.o3.step H6.l4 (by simp);have rd6:lib.Rd w6 a cap b:=H.o0.frS f6 λx hx hm=>by have:=H.o2 x hx;have:=HC.o0;simp at hm;omega
  have hpl:=qqs a cap b w6 rd6 (by have:=H.o1;omega);rw[<-H.l6]at hpl;have HP:=zhd3 hpl f6 rd6;clear hpl f6 rd6;unfold NewBytes at HP;go_upto_region 9 with (go_at_call 125;refine HP.o0.mono ?_;rintro e w8 ⟨o8,rfl,r8,n8,f8⟩;have H8:=zhd3 r8 n8 f8;clear r8 n8 f8);obtain⟨x8,hx8⟩:=zex ((plainBytes b).length);rw[<-hx8];have HX8:=zhd hx8;clear hx8;go_upto_if 38 with fail;go_cut [6] from 38 to 40 (λs6 wc=>wc=w8∧∃(o:Option Addr) (n:Nat) (r:List UInt8),s6 = .slice o n n∧n=r.length∧lib.Rd w8 o n r∧(∀x∈blk o,w4.heap.size≤x∧x<w8.heap.size)∧(r=bytesOf bf∨r=plainBytes b)∧n≤x6∧n≤x8)
  case first=>
   by_cases hlt:x8<x6
   ·have q2:decide ((x8:Int)<(x6:Int))=true:=by simpa using hlt
    go_wp2;go_meet;case rel=>exact⟨rfl,o8,x8,plainBytes b,rfl,HX8.out,by rw[HX8.out];exact H8.o0,λx hx=>⟨qar H6.l4.size (H8.o1 x hx).1,(H8.o1 x hx).2⟩,.inr rfl,by omega,qae _⟩
   ·have q2:decide ((x8:Int)<(x6:Int))=false:=by simpa using hlt
    go_wp2;go_meet;case rel=>exact⟨rfl,o6,x6,bytesOf bf,rfl,HX6.out,by rw[HX6.out];exact H6.o2.fr H8.l2,λx hx=>⟨(H6.o3 x hx).1,qat (H6.o3 x hx).2 H8.l2.size⟩,.inl rfl,qae _,by omega⟩
  case rest=>
   obtain⟨rfl,o,n,r,rfl,hn,rdo,new0,hr,hn6,hn8⟩:=hcut;have HO:=zhd6 hn rdo new0 hr hn6 hn8;clear hn rdo new0 hr hn6 hn8;have f8:Fr [C] w wc:=HP.o1.step H8.l2 (by simp);have bx8:Box wc C a al BL cap LL (.slice a1 288 c1) (.slice a2 30 c2) false:=(H4.o1.fr (H6.l4.trans H8.l2) (by simp));have z4:wc.frozen? ⟨C,4,none⟩=false:=qau bx8 4;have x4:wc.cell? ⟨C,4,none⟩=some (.bool false):=cell_of bx8 4;have H9:=zhd2 f8 bx8;clear f8 bx8;go_upto_region 12 with fail;obtain⟨w11,hw11⟩:=zex (wc.setCell ⟨C,4,none⟩ (.bool true));have f11:Fr [C] wc w11:=by rw[hw11];exact (Fr.refl [C] wc).setCell (by simp) _
   have bx11:Box w11 C a al BL cap LL (.slice a1 288 c1) (.slice a2 30 c2) true:=by rw[hw11];exact H9.l1.tell
   rw[<-hw11];clear z4 x4 hw11;obtain⟨e0,e1,e2,e3,e4⟩:=bx11.cells;have f4_11:Fr [C] w4 w11:=((H6.l4.trans H8.l2).mono (by simp)).trans f11;have fw11:Fr [C] w w11:=H4.o3.trans f4_11;have rd11:lib.Rd w11 a cap b:=H.o0.frS fw11 λx hx hm=>by have:=H.o2 x hx;have:=HC.o0;simp at hm;omega
   have cs11:Cs w11 al (mcells l):=H1.o0.fr (H4.o2.trans f4_11) λx hx hm=>by have:=H1.o2 x hx;have:=H2.o2;simp at hm;omega
   have hcn:=qv8 b a al cap LL 32768 l (.slice a1 288 c1) (.slice a2 30 c2) true w11 rfl rfl rd11 cs11 (by rw[H.o5];exact qae _) H1.o1 H4.o6 H.o3 (qae _) (by have:=H.o1;omega)
    (λx hx=>qat (H.o2 x hx) fw11.size) (λx hx=>qat (H1.o2 x hx) (H4.o2.trans f4_11).size)
   rw[H4.l7,<-H.o5,<-H.l6]at hcn;have H11:=zhd7 hcn bx11 f4_11 fw11 rd11 cs11 f11;clear hcn bx11 f4_11 fw11 rd11 cs11 f11;unfold CountsGood boxT at H11;go_upto_region 13 with (go_at_call 129;refine H11.o0.mono ?_;rintro e w12 ⟨Q1,Q2,rfl,o1,o2,f12,n1,n2⟩;have H12:=zhd5 o1 o2 f12 n1 n2;clear o1 o2 f12 n1 n2);clear e0 e1 e2 e3 e4;have hmT:(toksOf b).length≤b.length:=by have:=qjc b 0 l;rw[H4.l7]at this;omega
   have hsy:∀(cs:List Nat) (n:Nat),n≤400→(symsTo cs n).length≤2^15:=λcs n hn=>by
    have h2:(symsTo cs n).length≤n:=by have:=qfd (λs=>decide (0<lenAt cs s)) (List.range n);rw[qh3]at this;exact this
    omega
   have hb30:∀x:Nat,x≤100002→x≤2^30:=λx hx=>qar hx (by decide)
   have hA:∀x∈litCs b,x≤2^30:=λx hx=>by simp only[litCs,qcj]at hx;obtain⟨s,_,rfl⟩:=hx;refine hb30 _ ?_;have:=qm1 (toksOf b) s;have:=H.o1;have:=H.l6;unfold litc;split<;>split<;>omega
   have hB:∀x∈distCs b,x≤2^30:=λx hx=>by simp only[distCs,qcj]at hx;obtain⟨s,_,rfl⟩:=hx;refine hb30 _ ?_;have:=qzk (toksOf b) s;have:=H.o1;have:=H.l6;omega
   have l1:(litCs b).length=286:=by simp[litCs]
   have l2:(distCs b).length=30:=by simp[distCs]
   have hC4:C<w4.heap.size:=by have:=H4.o1;unfold Box at this;exact lt_of_block this
   have hg1:=qf5 (some ⟨Q1,0,none⟩) 286 (litCs b) 15 w12 (zge H12.o0 (by decide)) (by decide) (by decide) (by rw[l1];decide) hA (by rw[l1];exact hsy _ _ (by decide));have hg2:=λw13 (f:Fr [C] w12 w13)=>qf5 (some ⟨Q2,0,none⟩) 30 (distCs b) 15 w13 (qiq (zge H12.o1 (by decide)) f (λx hx hm=>by have:=H12.l4;have:=HC.l1;have:=H9.o0.size;have:=H11.o2.size;have:=H2.o2;have:=hC4;simp[blk]at hx hm;omega)) (by decide) (by decide) (by rw[l2];decide) hB (by rw[l2];exact hsy _ _ (by decide))
   rw[l1]at hg1;rw[l2]at hg2;have mk2:∀w13,Fr [] w12 w13→w13.cell? ⟨C,2,none⟩=some (.slice a1 288 c1)∧w13.frozen? ⟨C,2,none⟩=false:=λw13 f=>by have b3:=H11.o1.fr (H12.o2.trans f) (by simp);exact⟨b3.cells.2.2.1,qau b3 2⟩
   have HG:=zhd6 hg1 mk2 l1 l2 hg2 hC4;clear hg1 hg2 hC4 hA hB hsy hmT hb30 mk2 l1 l2;unfold LensGood at HG;go_upto_region 14 with (go_at_call 130;refine HG.out.1.mono ?_;rintro e w13 ⟨g1,ll,rfl,ok1,cl1,n1,lt1,f13⟩;obtain⟨x2,z2⟩:=HG.out.2.1 w13 f13;have H13:=zhd5 ok1 cl1 n1 lt1 f13;clear ok1 cl1 n1 lt1 f13);clear x2 z2;obtain⟨w14,hw14⟩:=zex (w13.setCell ⟨C,2,none⟩ (.slice (some ⟨g1,0,none⟩) 286 286));have f14:Fr [C] w13 w14:=by rw[hw14];exact (Fr.refl [C] w13).setCell (by simp) _
   have bx14:Box w14 C a al BL cap LL (.slice (some ⟨g1,0,none⟩) 286 286) (.slice a2 30 c2) true:=by rw[hw14];exact (H11.o1.fr (H12.o2.trans H13.l4) (by simp)).lit _
   rw[<-hw14];clear hw14;have hg2:=HG.out.2.2.2.2.1 w14 ((H13.l4.mono (by simp)).trans f14);have mk3:∀w15,Fr [] w14 w15→w15.cell? ⟨C,3,none⟩=some (.slice a2 30 c2)∧w15.frozen? ⟨C,3,none⟩=false:=λw15 f=>by have b3:=bx14.fr f (by simp);exact⟨b3.cells.2.2.2.1,qau b3 3⟩
   have H14:=zhd4 hg2 mk3 bx14 f14;clear hg2 mk3 bx14 f14;unfold LensGood at H14;go_upto_region 15 with (go_at_call 130;refine H14.out.1.mono ?_;rintro e w15 ⟨g2,dl,rfl,ok2,cl2,n2,lt2,f15⟩;obtain⟨x3,z3⟩:=H14.out.2.1 w15 f15;have H15:=zhd5 ok2 cl2 n2 lt2 f15;clear ok2 cl2 n2 lt2 f15);clear x3 z3;obtain⟨w16,hw16⟩:=zex (w15.setCell ⟨C,3,none⟩ (.slice (some ⟨g2,0,none⟩) 30 30));have f16:Fr [C] w15 w16:=by rw[hw16];exact (Fr.refl [C] w15).setCell (by simp) _
   have bx16:Box w16 C a al BL cap LL (.slice (some ⟨g1,0,none⟩) 286 286) (.slice (some ⟨g2,0,none⟩) 30 30) true:=by rw[hw16];exact (H14.out.2.2.1.fr H15.l4 (by simp)).dist _
   rw[<-hw16];clear hw16;have f11_16:Fr [C] w11 w16:=((((H12.o2.trans H13.l4).mono (by simp)).trans H14.out.2.2.2).trans (H15.l4.mono (by simp))).trans f16;have fw16:Fr [C] w w16:=H11.o3.trans f11_16;have rd16:lib.Rd w16 a cap b:=H.o0.frS fw16 λx hx hm=>by have:=H.o2 x hx;have:=HC.o0;simp at hm;omega
   have f1_16:Fr [C] w1 w16:=(H4.o2.trans H11.o2).trans f11_16;have cs16:Cs w16 al (mcells l):=H1.o0.fr f1_16 λx hx hm=>by have:=H1.o2 x hx;have:=H2.o2;simp at hm;omega
   have ll1:ll.length=286:=by rw[H13.o0.len];exact HG.out.2.2.1
   have ll2:dl.length=30:=by rw[H15.o0.len];exact HG.out.2.2.2.1
   have hCg1:C≠g1:=by have:=H13.o2;have:=H12.o2.size;have:=H11.o2.size;have:=HG.out.2.2.2.2.2;omega
   have hCg2:C≠g2:=by have:=H15.o2;have:=H14.out.2.2.2.size;have:=H13.l4.size;have:=H12.o2.size;have:=H11.o2.size;have:=HG.out.2.2.2.2.2;omega
   have ri1:Ri w16 (some ⟨g1,0,none⟩) 286 ll:=⟨H13.o1.fr (H14.out.2.2.2.trans ((H15.l4.mono (by simp)).trans f16)) (by simp[blk];exact λh=>hCg1 h.symm),by omega,by unfold maxLen;omega,λh=>by cases h⟩;have ri2:Ri w16 (some ⟨g2,0,none⟩) 30 dl:=⟨H15.o1.fr f16 (by simp[blk];exact λh=>hCg2 h.symm),by omega,by unfold maxLen;omega,λh=>by cases h⟩;have hwr:=qkw b a al cap BL LL 286 30 l (some ⟨g1,0,none⟩) (some ⟨g2,0,none⟩) 286 30 ll dl true w16 H.l6 H.o5 ll1.symm ll2.symm rd16 cs16 H1.o1 H4.o6 H.o3 (by have:=H.o1;omega) ri1 ri2 (by rw[ll1];decide) (by rw[ll1];decide) (by rw[ll2];decide) (by rw[ll2];decide) (λ_=>⟨ll1,ll2⟩) H13.o0.le H15.o0.le (qiy H13.o0) (qiy H15.o0)
    (λx hx=>qat (H.o2 x hx) fw16.size) (λx hx=>qat (H1.o2 x hx) f1_16.size)
   rw[H4.l7]at hwr;have H16:=zhd3 hwr fw16 f11_16;obtain⟨e0,e1,e2,e3,e4⟩:=bx16.cells;clear hwr bx16 f16 f11_16 fw16 rd16 cs16 f1_16 ll1 ll2 hCg1 hCg2 ri1 ri2;unfold NewBytes at H16;go_upto_region 16 with (go_at_call 128;refine H16.o0.mono ?_;rintro e w17 ⟨bd,hbd,hbl,o17,rfl,r17,n17,f17⟩;have H17:=zhd5 hbd hbl r17 n17 f17;clear hbd hbl r17 n17 f17);clear e0 e1 e2 e3 e4;obtain⟨x17,hx17⟩:=zex ((bytesOf bd).length);rw[<-hx17];have HX17:=zhd hx17;clear hx17;have fin:Fr [] w w17:=qm9 (H16.o1.step H17.l4 (by simp)) (λx hx=>by simp at hx;rw[hx];exact HC.o0);have hdy:DynB b bd:=⟨ll,dl,H13.o0,H15.o0,H17.o0⟩;have HF:=zhd2 fin hdy;clear fin hdy;have res:∀(r':List UInt8),(r'=bytesOf bf∨r'=plainBytes b∨∃bd,DynB b bd∧r'=bytesOf bd)→r'.length≤x6→r'.length≤x8→RawRes b level r':=λr' h1 h2 h3=>⟨bf,H6.o0,λh=>absurd h hl1,λ_=>⟨h1,by rw[<-HX6.out];exact h2,by rw[<-HX8.out];exact h3⟩⟩
   have HR:=zhd res;clear res;by_cases hlt:x17<n
   ·have q3:decide ((x17:Int)<(n:Int))=true:=by simpa using hlt
    go_wp2;go_ret;refine⟨bytesOf bd,HR.out _ (.inr (.inr ⟨bd,HF.l1,rfl⟩)) ?_ ?_,o17,by rw[HX17.out];rfl,H17.o2,λx hx=>⟨qar H16.o1.size (H17.o3 x hx).1,(H17.o3 x hx).2⟩,HF.o0⟩
    ·rw[<-HX17.out];have:=HO.out.2.2.2.2.1;omega
    ·rw[<-HX17.out];have:=HO.out.2.2.2.2.2;omega
   ·have q3:decide ((x17:Int)<(n:Int))=false:=by simpa using hlt
    go_wp2;go_ret;have fo:Fr [C] wc w17:=(H11.l6.trans H16.l2).step H17.l4 (by simp);obtain⟨hn,rdo,new0,hr,hn6,hn8⟩:=HO.out;subst hn;exact⟨r,HR.out r (hr.elim .inl λh=>.inr (.inl h)) hn6 hn8,o,rfl,rdo.frS fo (λx hx hm=>by have:=(new0 x hx).1;have:=HG.out.2.2.2.2.2;simp at hm;omega),λx hx=>⟨qar H4.o3.size (new0 x hx).1,qat (new0 x hx).2 fo.size⟩,HF.o0⟩
end Go.Proofs.YtkmpfgpfbmeihaaGreatDoor.defl
namespace Go.Proofs.YtkmpfgpfbmeihaaGreatDoor.trip
open Go lib bm bl huf inf defl mat
def At (bs:List UInt8) (a:Nat) (l:List Bool):Prop:=∃p r,bytesBits bs=p++(l++r)∧p.length=a
theorem At.left {bs:List UInt8} {a:Nat} {x y:List Bool} (h:At bs a (x++y)):At bs a x:=by obtain⟨p,r,h1,h2⟩:=h;exact⟨p,y++r,by rw[h1,qas],h2⟩
theorem At.right {bs:List UInt8} {a:Nat} {x y:List Bool} (h:At bs a (x++y)):At bs (a+x.length) y:=by obtain⟨p,r,h1,h2⟩:=h;exact⟨p++x,r,by rw[h1];simp,by rw[qab,h2]⟩
theorem At.drop {bs:List UInt8} {a:Nat} {l:List Bool} (h:At bs a l):∃r,(bytesBits bs).drop a=l++r:=by obtain⟨p,r,h1,h2⟩:=h;exact⟨r,by rw[h1,<-h2,zde]⟩
theorem At.le {bs:List UInt8} {a:Nat} {l:List Bool} (h:At bs a l):a+l.length≤8*bs.length:=by obtain⟨p,r,h1,h2⟩:=h;have:=congrArg List.length h1;rw[qb1,qab,qab]at this;omega
theorem At.of {bs:List UInt8} {l r:List Bool} (h:bytesBits bs=l++r):At bs 0 l:=⟨[],r,by rw[h];rfl,rfl⟩
theorem qe8 {bs:List UInt8} {a n v:Nat} (h:At bs a (lsb n v)) (hv:v<2^n):itake bs a n = .ok (v,a+n):=by
 have hl:=h.le;rw[lsb_length]at hl;obtain⟨r,hr⟩:=h.drop;unfold itake;have e:(lsb n v++r).take n=lsb n v:=by rw[qc2 (by rw[lsb_length];exact qae _),qbd (by rw[lsb_length];exact qae _)]
 rw[if_pos hl,hr,e,qlo,qei hv]
theorem sbits_length (ls:List Nat) (s:Nat):(sbits ls s).length=lenAt ls s:=by unfold sbits;rw[qet]
theorem qqd {bs:List UInt8} {a s:Nat} {ls:List Nat} (h:At bs a (sbits ls s)) (hle:∀l∈ls,l≤15) (hw:weight ls≤32768) (h0:0<lenAt ls s):isym bs ls a = .ok (s,a+lenAt ls s):=by
 obtain⟨r,hr⟩:=h.drop;have e:sbits ls s=msb (lenAt ls s) (code ls s):=by unfold sbits codeAt;rw[if_neg (by omega)]
 rw[e]at hr;have:=qxi ls s hle hw h0 r;unfold huf.read at this;unfold isym;rw[hr,this];rfl
theorem zgi {bs:List UInt8} {a n:Nat} (h3:3≤n) (h258:n≤258) (h:At bs a (lsb (lcode n).2.2 (lcode n).2.1)):ilength bs (lcode n).1 a = .ok (n,a+(lcode n).2.2):=by
 by_cases h11:n<11
 ·have e:lcode n=(n+254,0,0):=by unfold lcode;rw[if_pos h11]
  rw[e];unfold ilength;dsimp only;rw[if_pos (by omega),qgz];rfl
 ·by_cases h8:n=258
  ·subst h8;have e:lcode 258=(285,0,0):=rfl;rw[e];rfl
  ·obtain⟨w,w1,w5,k1,k2⟩:=qq3 (n:=n) (by omega) (by omega);have e:=qpn (by omega) h8 k1 k2;rw[e]at h ⊢;have hp:=qbt w;obtain⟨q,hq⟩:=zex ((n-3)/2^w);have q4:4≤q:=by rw[hq,Nat.le_div_iff_mul_le hp];exact k1
   have q8:q<8:=by rw[hq,qc7 hp];exact k2
   have hd:=qla (n-3) (2^w);rw[<-hq]at hd ⊢;unfold ilength;dsimp only at h ⊢;rw[if_neg (by omega),if_neg (by omega),show (257+4*w+q-261)/4=w from by omega,qe8 h (qgs _ hp)];dsimp only;rw[show (257+4*w+q-265)%4=q-4 from by omega,show 4+(q-4)=q from by omega,qcc q];rw[qcb,hd,show 3+(n-3)=n from by omega]
theorem zfr {bs:List UInt8} {a n:Nat} (h1:1≤n) (hn:n≤32768) (h:At bs a (lsb (dcode n).2.2 (dcode n).2.1)):idist bs (dcode n).1 a = .ok (n,a+(dcode n).2.2):=by
 by_cases h5:n<5
 ·have e:dcode n=(n-1,0,0):=by unfold dcode;rw[if_pos h5]
  rw[e];unfold idist;dsimp only;rw[if_pos (by omega),show n-1+1=n from by omega];rfl
 ·obtain⟨w,w1,w5,k1,k2⟩:=qri (n:=n) (by omega) (by omega);have e:=qpy (by omega) k1 k2;rw[e]at h ⊢;have hp:=qbt w;obtain⟨q,hq⟩:=zex ((n-1)/2^w);have q4:2≤q:=by rw[hq,Nat.le_div_iff_mul_le hp];exact k1
  have q8:q<4:=by rw[hq,qc7 hp];exact k2
  have hd:=qla (n-1) (2^w);rw[<-hq]at hd ⊢;unfold idist;dsimp only at h ⊢;rw[if_neg (by omega),show (2*w+q-2)/2=w from by omega,qe8 h (qgs _ hp)];dsimp only;rw[show 2+(2*w+q)%2=q from by omega,qcc q];rw[qcb,hd,show 1+(n-1)=n from by omega]
theorem qww {b:List UInt8} {i:Nat} (h:i<b.length):b.take i++[b[i]]=b.take (i+1):=by rw[qh2,qai h];rfl
theorem zdn {b:List UInt8} {i m:Nat} (h:i<b.length) (hm:b.length≤m):iput m (b.take i) b[i] = .ok (b.take (i+1)):=by unfold iput;rw[if_neg (by rw[qaq];omega),qww h]
theorem qzr {b:List UInt8} {i d m:Nat} (hd:1≤d) (hdi:d≤i) (hm:b.length≤m):∀(n k:Nat),i+k+n≤b.length→(∀j,j<k+n→b[i+j]?=b[i+j-d]?)→
  icopy m d n (b.take (i+k)) = .ok (b.take (i+k+n))
 | 0,k,_,_=>rfl
 | n+1,k,hl,h=>by
  have hlen:(b.take (i+k)).length=i+k:=by rw[qaq];omega
  have hb:(b.take (i+k))[i+k-d]?=b[i+k-d]?:=by rw[List.getElem?_take_of_lt (by omega)]
  have hk:i+k<b.length:=by omega
  have h1:=h k (by omega);rw[icopy,hlen,hb,<-h1,qai hk,qi3,zdn hk hm];dsimp only;have:=qzr hd hdi hm n (k+1) (by omega) (λj hj=>h j (by omega));rw[show i+k+(n+1)=i+(k+1)+n from by omega];exact this
theorem zb5 {n:Nat} (h3:3≤n) (h258:n≤258):¬(lcode n).1<256∧¬(lcode n).1=256∧¬286≤(lcode n).1:=by have:=qjq h3 h258;omega
theorem zed {bs:List UInt8} {ll dl:List Nat} {m r:Nat} {b:List UInt8} (hr:r≤32768) (hm:b.length≤m) (hle1:∀l∈ll,l≤15) (hle2:∀l∈dl,l≤15) (hw1:weight ll≤32768) (hw2:weight dl≤32768) (h256:0<lenAt ll 256) :
  ∀(k i:Nat) (l:List Mt) (f a:Nat),k=b.length-i→i≤b.length→Chain b r i l→(∀x∈toks b i l,0<lenAt ll (tsym x))→(∀x∈toks b i l,∀s,dsym x=some s→0<lenAt dl s)→(toks b i l).length<f→
   At bs a (tsbits ll dl (toks b i l)++sbits ll 256)→isyms bs m ll dl f (b.take i) a = .ok (b,a+(tsbits ll dl (toks b i l)).length+lenAt ll 256):=by
 intro k;induction k using Nat.strongRecOn with
 | ind k ih=>
  intro i l f a hk hib hch hl1 hl2 hf hat;obtain⟨f,rfl⟩:∃g,f=g+1:=⟨f-1,by omega⟩;by_cases h:i<b.length
  ·have lit:∀l,Chain b r (i+1) l→toks b i l = .lit b[i]::toks b (i+1) l→(∀x∈toks b i l,0<lenAt ll (tsym x))→(∀x∈toks b i l,∀s,dsym x=some s→0<lenAt dl s)→(toks b i l).length<f+1→
     At bs a (tsbits ll dl (toks b i l)++sbits ll 256)→isyms bs m ll dl (f+1) (b.take i) a = .ok (b,a+(tsbits ll dl (toks b i l)).length+lenAt ll 256):=by
    intro l hch he hl1 hl2 hf hat
    rw[he]at hl1 hl2 hf hat ⊢
    have e:tsbits ll dl (.lit b[i]::toks b (i+1) l)=sbits ll b[i].toNat++tsbits ll dl (toks b (i+1) l):=rfl
    rw[e]at hat ⊢
    rw[qas]at hat
    have hs:=qqd hat.left hle1 hw1 (hl1 _ qcd)
    have hlt:b[i].toNat<256:=b[i].toNat_lt
    rw[isyms,hs]
    dsimp only
    rw[if_pos hlt,UInt8.ofNat_toNat,zdn h hm]
    dsimp only
    have:=ih (b.length-(i+1)) (by omega) (i+1) l f (a+lenAt ll b[i].toNat) rfl (by omega) hch (λx hx=>hl1 x (qcf _ hx)) (λx hx=>hl2 x (qcf _ hx)) (by simp only[qao]at hf;omega)
     (by have:=hat.right;rwa [sbits_length]at this)
    rw[this,qab,sbits_length]
    congr 2
    omega
   match l,hch with
   | [],hch=>exact lit [] trivial (qg5 h (λa n d t he=>by cases he)) hl1 hl2 hf hat
   | (q,n,d)::t,hch=>
    by_cases hc:q=i
    ·subst hc
     have hc2:=hch
     obtain⟨k1,k2,k3,k4,k5,k6,k7,k8,k9⟩:=hc2
     have he:toks b q ((q,n,d)::t) = .mat n d::toks b (q+n) t:=qlf h (by omega)
     rw[he]at hl1 hl2 hf hat ⊢
     have e:tsbits ll dl (.mat n d::toks b (q+n) t)=sbits ll (lcode n).1++(lsb (lcode n).2.2 (lcode n).2.1++(sbits dl (dcode d).1++(lsb (dcode d).2.2 (dcode d).2.1++tsbits ll dl (toks b (q+n) t)))):=by simp only[tsbits,qcl,tbits,qas]
     rw[e]at hat ⊢
     simp only[qas]at hat
     have hs:=qqd hat.left hle1 hw1 (hl1 _ qcd)
     have t1:=hat.right
     rw[sbits_length]at t1
     have hs2:=zgi k2 k3 t1.left
     have t2:=t1.right
     rw[lsb_length]at t2
     have hs3:=qqd t2.left hle2 hw2 (hl2 _ qcd _ rfl)
     have t3:=t2.right
     rw[sbits_length]at t3
     have hs4:=zfr k4 (by omega) t3.left
     have t4:=t3.right
     rw[lsb_length]at t4
     have hd30:=(qjv k4 (show d≤32768 by omega)).1
     have hcp:=qzr (b:=b) (i:=q) (d:=d) (m:=m) k4 k6 hm n 0 (by omega) (λj hj=>k8 j (by omega))
     rw[qbn]at hcp
     have hmt:imatch bs m dl (lcode n).1 (b.take q) (a+lenAt ll (lcode n).1) = .ok (b.take (q+n),a+lenAt ll (lcode n).1+(lcode n).2.2+lenAt dl (dcode d).1+(dcode d).2.2):=by
      unfold imatch
      rw[hs2]
      dsimp only
      rw[hs3]
      dsimp only
      rw[if_neg (by omega),hs4]
      dsimp only
      rw[if_neg (by rw[qaq];omega),hcp]
     obtain⟨c1,c2,c3⟩:=zb5 k2 k3
     rw[isyms,hs]
     dsimp only
     rw[if_neg c1,if_neg c2,if_neg c3,hmt]
     dsimp only
     have:=ih (b.length-(q+n)) (by omega) (q+n) t f _ rfl k7 k9 (λx hx=>hl1 x (qcf _ hx)) (λx hx=>hl2 x (qcf _ hx)) (by simp only[qao]at hf;omega) t4
     rw[this]
     simp only[qab,sbits_length,lsb_length]
     congr 2
     omega
    ·exact lit _ (qku hch _ _ _ _ rfl hc) (qg5 h (λa2 n2 d2 t2 he2=>by simp only[qwh,qa4]at he2;rw[<-he2.1.1];exact hc)) hl1 hl2 hf hat
  ·have he:toks b i l=[]:=qlg (by omega);rw[he]at hat ⊢;have e:tsbits ll dl []=[]:=rfl;rw[e,qb4]at hat;rw[isyms,qqd hat hle1 hw1 h256];dsimp only;rw[if_neg (by omega),if_pos rfl,e,qbi,qbn,qbd (by omega)]
end Go.Proofs.YtkmpfgpfbmeihaaGreatDoor.trip
