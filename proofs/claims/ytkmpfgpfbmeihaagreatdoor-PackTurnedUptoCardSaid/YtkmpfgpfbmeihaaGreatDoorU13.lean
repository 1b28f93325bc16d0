/-
  Texts of this proof, one behind the other: Raw, TripB, PlainLen, TripD, InfA, HuffW, HuffX, InfB.
-/
import Derived.Test.YtkmpfgpfbmeihaaGreatDoorU12
set_option maxHeartbeats 16000000
set_option maxRecDepth 100000
set_option linter.unusedVariables false
set_option linter.unusedSimpArgs false
namespace Go.Proofs.YtkmpfgpfbmeihaaGreatDoor
namespace defl
open Go Go.RowKit lib bm bl mat huf wb
def gU (b:List UInt8):List Tok:=dR b 0 (Dx b 32768)
def sq (b:List UInt8):List Nat:=(List.range 286).map (yY b (gU b))
def nR (b:List UInt8):List Nat:=(List.range 30).map (nT (gU b))
def Ck (b:List UInt8) (bb:List Bool):Prop:=eW (sP 288) (List.replicate 30 5) (gU b) true false bb
def J4 (b:List UInt8) (bb:List Bool):Prop:=∃ll dl,mr 15 (sq b) ll/\mr 15 (nR b) dl/\eW ll dl (gU b) true true bb
def xt (b:List UInt8) (level:Int) (r:List UInt8):Prop:=
 ∃bf,Ck b bf/\(level=1->r=bytesOf bf)/\(2<=level->(r=bytesOf bf\/r=bD b\/∃bd,J4 b bd/\r=bytesOf bd)/\r.length<=(bytesOf bf).length/\r.length<=(bD b).length)
theorem qmy {L:Nat} {cs ls:List Nat} (h:mr L cs ls):weight ls<=32768:=by
 by_cases h2:2<=(aN cs cs.length).length
 ·rw[h.full h2];exact aw _
 ·have hm:ls=(List.range cs.length).map (ai ls):=by
   rw[<-h.len];refine List.ext_getElem? λi=>?_
   rw[j5];by_cases hi:i<ls.length
   ·rw[List.getElem?_range hi,bO hi];simp[ai,hi]
   ·rw[wg (by omega),wg (by simp;omega)];rfl
  have hs:weight ls=((aN cs cs.length).map λs=>wt (ai ls s)).sum:=by rw[hm,VZ,<-hm];rw[VU (λs=>decide (0<ai cs s)) _ _ λs _ hp=>by rw[h.zero s (by simpa using hp)];rfl];rfl
  have hw:∀s,wt (ai ls s)<=16384:=λs=>by
   unfold wt;split
   ·omega
   ·exact bS (kr (by decide) (show 15-ai ls s<=14 by omega)) (by decide)
  rw[hs];match rf:aN cs cs.length with
  | []=>simp
  | [x]=>simp;have:=hw x;omega
  | x::y::t=>rw[rf]at h2;simp at h2
theorem QP:(sP 288).length=288:=by simp[sP]
theorem TR:∀x∈sP 288,x<=15:=λx hx=>by
 simp only[sP,jR]at hx;obtain⟨i,_,rfl⟩:=hx;unfold qE;split
 ·omega
 ·split
  ·omega
  ·split<;>omega
theorem qvm:weight (sP 288)=32768:=by decide +kernel
theorem V1:weight (List.replicate 30 5)=30720:=by decide +kernel
def nY (w:World) (C:Nat) (a al:Option Addr) (bl cap ll:Nat) (v2 v3:Value) (told:Bool):Prop:=w.heap[C]?=some (.cells #[.slice a bl cap,.slice al ll ll,v2,v3,.bool told] 197 (0,0))
theorem nY.set {w:World} {C:Nat} {a al:Option Addr} {bl cap ll:Nat} {v2 v3:Value} {told:Bool} (h:nY w C a al bl cap ll v2 v3 told) (x y:Value) :
  nY ((w.setCell ⟨C,2,none⟩ x).setCell ⟨C,3,none⟩ y) C a al bl cap ll x y told:=(aX (o:=3) (aX (o:=2) h x) y)
theorem nY.fr {w w':World} {C:Nat} {S:List Nat} {a al:Option Addr} {bl cap ll:Nat} {v2 v3:Value} {told:Bool} (h:nY w C a al bl cap ll v2 v3 told) (f:Fr S w w') (hC:C∉S):nY w' C a al bl cap ll v2 v3 told:=f.ae h hC
theorem qy6 {b:List UInt8} {r:Nat}:∀{l:List Mt} {e:Nat},dB b r e l->l.length<=b.length+1
 | [],_,_=>dZ _
 | l,e,h=>by
  have key:∀(l:List Mt) (e:Nat),dB b r e l->e<=b.length->e+l.length<=b.length:=by
   intro l;induction l with
   | nil=>intro e _ he;simpa using he
   | cons x t ih=>intro e h he;obtain⟨a,n,d⟩:=x;obtain⟨k1,k2,k3,k4,k5,k6,k7,_,k9⟩:=h;have:=ih (a+n) k9 k7;simp only[cQ];omega
  have key2:∀(l:List Mt) (e:Nat),dB b r e l->l≠[]->e+l.length<=b.length:=by
   intro l e h bR;cases l with
   | nil=>exact absurd rfl bR
   | cons x t=>obtain⟨a,n,d⟩:=x;obtain⟨k1,k2,k3,k4,k5,k6,k7,_,k9⟩:=h;have:=key t (a+n) k9 k7;simp only[cQ];omega
  by_cases bR:l=[]
  ·rw[bR];exact dZ _
  ·have:=key2 l e h bR;omega
theorem nY.tell {w:World} {C:Nat} {a al:Option Addr} {bl cap ll:Nat} {v2 v3:Value} {told:Bool} (h:nY w C a al bl cap ll v2 v3 told) :
  nY (w.setCell ⟨C,4,none⟩ (.bool true)) C a al bl cap ll v2 v3 true:=aX (o:=4) h (.bool true)
theorem nY.cells {w:World} {C:Nat} {a al:Option Addr} {bl cap ll:Nat} {v2 v3:Value} {told:Bool} (h:nY w C a al bl cap ll v2 v3 told) :
  w.cell? ⟨C,0,none⟩=some (.slice a bl cap)/\w.cell? ⟨C,1,none⟩=some (.slice al ll ll)/\w.cell? ⟨C,2,none⟩=some v2/\w.cell? ⟨C,3,none⟩=some v3/\w.cell? ⟨C,4,none⟩=some (.bool told):=
 ⟨cell_of h 0,cell_of h 1,cell_of h 2,cell_of h 3,cell_of h 4⟩
theorem ZL {w:World} {Q N:Nat} {F:Nat->Nat} (h:Ow w Q N F) (hN:N<=400):Ri w (some ⟨Q,0,none⟩) N ((List.range N).map F):=
 ⟨h.cs,by simp,by unfold maxLen;omega,λh=>by cases h⟩
theorem nY.lit {w:World} {C:Nat} {a al:Option Addr} {bl cap ll:Nat} {v2 v3:Value} {told:Bool} (h:nY w C a al bl cap ll v2 v3 told) (x:Value) :
  nY (w.setCell ⟨C,2,none⟩ x) C a al bl cap ll x v3 told:=aX (o:=2) h x
theorem nY.jJ {w:World} {C:Nat} {a al:Option Addr} {bl cap ll:Nat} {v2 v3:Value} {told:Bool} (h:nY w C a al bl cap ll v2 v3 told) (x:Value) :
  nY (w.setCell ⟨C,3,none⟩ x) C a al bl cap ll v2 x told:=aX (o:=3) h x
theorem qm6 {S:List Nat} {w w':World} (h:Fr S w w') (hS:∀x∈S,w.heap.size<=x):Fr [] w w':=h.mono λx hx=>.inr (hS x hx)
theorem qk2 (b:List UInt8) (a al:Option Addr) (cap BL LL m1 m2:Nat) (l:List Mt) (a1 a2:Option Addr) (c1 c2:Nat) (ll dl:List Nat) (told:Bool) (w:World) (e1:BL=b.length) (e2:LL=l.length) (e3:m1=ll.length) (e4:m2=dl.length)
  (hb:lib.Rd w a cap b) (hl:Cs w al (bM l)) (rk:al=none->LL=0) (oP:LL<=maxLen) (dV:dB b 32768 0 l) (ie:b.length<=1000000)
  (h1:Ri w a1 c1 ll) (h2:Ri w a2 c2 dl) (n1:286<=ll.length) (Ik:ll.length<=400) (n2:30<=dl.length) (CM:dl.length<=400) (nt:told=true->ll.length=286/\dl.length=30)
  (nM:∀x∈ll,x<=15) (lU:∀x∈dl,x<=15) (cD:weight ll<=32768) (bq:weight dl<=32768)
  (fh:∀x∈ae a,x<w.heap.size) (oz:∀x∈ae al,x<w.heap.size) :
  Calls Tryz.prog 128 #[.slice (some ⟨w.heap.size,0,none⟩) 1 1] (w.alloc (.cells #[.iface 197 (.agg #[.slice a BL cap,.slice al LL LL,.slice a1 m1 c1,.slice a2 m2 c2,.bool told])] 247 (0,0)))
   λe w'=>∃bb,eW ll dl (dR b 0 l) true told bb/\bb.length<=100000000/\aD w (bytesOf bb) e w':=by
 subst e1;subst e2;subst e3;subst e4;have f:Fr [] w (w.alloc (.cells #[.iface 197 (.agg #[.slice a b.length cap,.slice al l.length l.length,.slice a1 ll.length c1,.slice a2 dl.length c2,.bool told])] 247 (0,0))):=(Fr.refl [] w).alloc _;refine (qoj w.heap.size b a al cap l.length 32768 l a1 a2 c1 c2 ll dl told _ (bx w _) (hb.fr f) (hl.fr f (by simp)) (aw _) rk oP dV (aw _) ie (h1.fr f) (h2.fr f) n1 Ik n2 CM nt nM lU cD bq
  (λx hx=>eT (fh x hx) f.size) (λx hx=>eT (oz x hx) f.size)).mono ?_
 rintro e w' ⟨bb,h3,h4,a',h5,h6,h7,h8⟩;exact⟨bb,h3,h4,a',h5,h6,λx hx=>⟨bS f.size (h7 x hx).1,(h7 x hx).2⟩,f.trans h8⟩
theorem zal (a:Option Addr) (cap:Nat) (b:List UInt8) (level:Int) (w:World) (h:lib.Rd w a cap b) (hlen:b.length<=100000) (hl:1<=level) (fh:∀x∈ae a,x<w.heap.size) :
  Calls Tryz.prog 103 #[.slice a b.length cap,.int .i64 level] w λe w'=>∃r,xt b level r/\aD w r e w':=by
 have Ei:=qsh b a cap 32768 w h hlen;obtain⟨l,Ga⟩:∃l,l=Dx b 32768:=⟨_,rfl⟩;have dV:dB b 32768 0 l:=by rw[Ga];have:=qjz b 32768;simpa using this
 obtain⟨LL,oE⟩:=ah l.length;obtain⟨BL,j1⟩:=ah b.length;unfold qI at Ei;rw[<-Ga,<-oE,<-j1]at Ei;have hLB:LL<=9223372036854775807->True:=λ_=>trivial
 have d0:decide (level<=0)=false:=by simp;omega
 have H:=cz h hlen fh dV Ga oE j1;have HM:=af Ei;rw[<-j1]at hlen ⊢;clear h fh dV Ga oE j1 Ei hLB;go_enter Tryz.func103,Tryz.ntmps103;go_upto_region 4 with (go_at_call 126;refine HM.out.mono ?_;rintro e w1 ⟨al,rfl,Ze,no1,lw1,f1⟩;have H1:=aF Ze no1 lw1 f1;clear Ze no1 lw1 f1);obtain⟨C,hC⟩:=ah w1.heap.size;obtain⟨w2,bq⟩:=ah (w1.alloc (.cells #[.slice a BL cap,.slice al LL LL,.slice none 0 0,.slice none 0 0,.bool false] 197 (0,0)));have bx2:nY w2 C a al BL cap LL (.slice none 0 0) (.slice none 0 0) false:=by unfold nY;rw[bq,hC];exact bx w1 _
 have f12:Fr [] w1 w2:=by rw[bq];exact (Fr.refl [] w1).alloc _
 rw[<-bq,<-hC];have H2:=aF bx2 f12 hC bq;clear bx2 f12 hC bq;have mW:=qvl w2;unfold qQ at mW;have HAL:=af mW;clear mW;go_upto_region 4 with fail;have mkf:∀w3,Fr [] w2 w3->w3.cell? ⟨C,2,none⟩=some (.slice none 0 0)/\w3.cell? ⟨C,3,none⟩=some (.slice none 0 0)/\w3.frozen? ⟨C,2,none⟩=false/\w3.frozen? ⟨C,3,none⟩=false:=λw3 f=>by have b3:=H2.o0.fr f (by simp);unfold nY at b3;exact⟨cell_of b3 2,cell_of b3 3,aO b3 2,aO b3 3⟩
 have HMK:=af mkf;clear mkf;go_upto_region 5 with (go_at_call 127;refine HAL.out.mono ?_;rintro e w3 ⟨a1,c1,a2,c2,rfl,Wy,md2⟩;obtain⟨x2,x3,z2,z3⟩:=HMK.out w3 Wy.fr;have H3:=ak Wy md2;clear Wy md2);clear x2 x3 z2 z3;obtain⟨w4,ft⟩:=ah ((w3.setCell ⟨C,2,none⟩ (.slice a1 288 c1)).setCell ⟨C,3,none⟩ (.slice a2 30 c2));have JK:nY w4 C a al BL cap LL (.slice a1 288 c1) (.slice a2 30 c2) false:=by rw[ft];exact (H2.o0.fr H3.o0.fr (by simp)).set _ _
 have f34:Fr [C] w3 w4:=by rw[ft];exact ((Fr.refl [C] w3).setCell (by simp) _).setCell (by simp) _
 rw[<-ft];have hCw:w.heap.size<=C:=by rw[H2.o2];exact H1.l3.size
 have ud:C<w2.heap.size:=by have:=H2.o0;unfold nY at this;exact lt_of_block this
 have f13:Fr [] w1 w3:=H2.o1.trans H3.o0.fr;have f14:Fr [C] w1 w4:=(f13.mono (by simp)).trans f34;have JB:Fr [C] w w4:=(H1.l3.mono (by simp)).trans f14;have mA:lib.Rd w4 a cap b:=H.o0.gg JB λx hx hm=>by have:=H.o2 x hx;simp at hm;omega
 have Zd:Cs w4 al (bM l):=H1.o0.fr f14 λx hx hm=>by have:=H1.o2 x hx;have:=H2.o2;simp at hm;omega
 have Dj:Ri w4 a1 c1 (sP 288):=by
  refine Cp (QX H3.o0 (by rw[QP])) f34 λx hx hm=>?_
  have:=H3.o0.new x hx;simp at hm;omega
 have E0:Ri w4 a2 c2 (List.replicate 30 5):=by
  refine Cp (QX H3.l1 (by simp)) f34 λx hx hm=>?_
  have:=H3.l1.new x hx;simp at hm;omega
 have H3b:w3.heap.size<=w4.heap.size:=f34.size;have hmx:LL<=maxLen:=by rw[H.o5];have:=qy6 H.o3;have:=H.o1;unfold maxLen;omega
 have pb:=qk2 b a al cap BL LL 288 30 l a1 a2 c1 c2 (sP 288) (List.replicate 30 5) false w4 H.l6 H.o5 QP.symm (by simp) mA Zd H1.o1 hmx H.o3 (by have:=H.o1;omega) Dj E0 (by rw[QP];decide) (by rw[QP];decide) (by simp) (by simp) (λh=>by cases h) TR (by intro x hx;rw[(Ko.1 hx).2];decide) (by rw[qvm];exact aw _) (by rw[V1];decide)
  (λx hx=>eT (H.o2 x hx) JB.size) (λx hx=>eT (H1.o2 x hx) f14.size)
 have WR:dR b 0 l=gU b:=by rw[H.o4];rfl
 rw[WR]at pb;have e0:=cell_of JK 0;have e1:=cell_of JK 1;have e2:=cell_of JK 2;have e3:=cell_of JK 3;have e4:=cell_of JK 4;simp only[bw,aV,bN]at e0 e1 e2 e3 e4;have H4:=lJ pb JK f14 JB mA Zd hmx WR;have HC:=ak hCw ud;clear pb JK f14 JB mA Zd hmx WR Dj E0 H3b f13 f34 ft hCw ud;unfold aD at H4;go_upto_region 6 with (go_at_call 128;refine H4.o0.mono ?_;rintro e w6 ⟨bf,hbf,bK,o6,rfl,r6,n6,f6⟩;have H6:=aP hbf bK r6 n6 f6;clear hbf bK r6 n6 f6);clear e0 e1 e2 e3 e4;obtain⟨x6,Sc⟩:=ah ((bytesOf bf).length);rw[<-Sc];have Tj:=af Sc;have hxb:x6<=20000000:=by rw[Sc,bytesOf_length];have:=H6.o1;omega
 clear Sc;by_cases ku:level=1
 ·subst ku;go_wp2;go_ret;refine⟨bytesOf bf,⟨bf,H6.o0,λ_=>rfl,λh=>absurd h (by decide)⟩,o6,by rw[Tj.out];rfl,H6.o2,λx hx=>⟨bS H4.o3.size (H6.o3 x hx).1,(H6.o3 x hx).2⟩,?_⟩;exact qm6 (H4.o3.step H6.l4 (by simp)) (λx hx=>by simp at hx;rw[hx];exact HC.o0)
 ·have q1:(level==1)=false:=by simp only[beq_eq_false_iff_ne];exact ku
  have f6:Fr [C] w w6:=H4.o3.step H6.l4 (by simp);have ur:lib.Rd w6 a cap b:=H.o0.gg f6 λx hx hm=>by have:=H.o2 x hx;have:=HC.o0;simp at hm;omega
  have fN:=qqe a cap b w6 ur (by have:=H.o1;omega);rw[<-H.l6]at fN;have HP:=au fN f6 ur;clear fN f6 ur;unfold aD at HP;go_upto_region 9 with (go_at_call 125;refine HP.o0.mono ?_;rintro e w8 ⟨o8,rfl,r8,n8,f8⟩;have H8:=au r8 n8 f8;clear r8 n8 f8);obtain⟨x8,FM⟩:=ah ((bD b).length);rw[<-FM];have Zo:=af FM;clear FM;go_upto_if 38 with fail;go_cut [6] from 38 to 40 (λs6 wc=>wc=w8/\∃(o:Option Addr) (n:Nat) (r:List UInt8),s6 = .slice o n n/\n=r.length/\lib.Rd w8 o n r/\(∀x∈ae o,w4.heap.size<=x/\x<w8.heap.size)/\(r=bytesOf bf\/r=bD b)/\n<=x6/\n<=x8)
  case first=>
   by_cases aY:x8<x6
   ·have q2:decide ((x8:Int)<(x6:Int))=true:=by simpa using aY
    go_wp2;go_meet;case rel=>exact⟨rfl,o8,x8,bD b,rfl,Zo.out,by rw[Zo.out];exact H8.o0,λx hx=>⟨bS H6.l4.size (H8.o1 x hx).1,(H8.o1 x hx).2⟩,.inr rfl,by omega,aw _⟩
   ·have q2:decide ((x8:Int)<(x6:Int))=false:=by simpa using aY
    go_wp2;go_meet;case rel=>exact⟨rfl,o6,x6,bytesOf bf,rfl,Tj.out,by rw[Tj.out];exact H6.o2.fr H8.l2,λx hx=>⟨(H6.o3 x hx).1,eT (H6.o3 x hx).2 H8.l2.size⟩,.inl rfl,aw _,by omega⟩
  case rest=>
   obtain⟨rfl,o,n,r,rfl,hn,Dl,yW,hr,IU,xX⟩:=hcut;have HO:=bJ hn Dl yW hr IU xX;clear hn Dl yW hr IU xX;have f8:Fr [C] w wc:=HP.o1.step H8.l2 (by simp);have Tf:nY wc C a al BL cap LL (.slice a1 288 c1) (.slice a2 30 c2) false:=(H4.o1.fr (H6.l4.trans H8.l2) (by simp));have z4:wc.frozen? ⟨C,4,none⟩=false:=aO Tf 4;have x4:wc.cell? ⟨C,4,none⟩=some (.bool false):=cell_of Tf 4;have H9:=ak f8 Tf;clear f8 Tf;go_upto_region 12 with fail;obtain⟨vG,DX⟩:=ah (wc.setCell ⟨C,4,none⟩ (.bool true));have f11:Fr [C] wc vG:=by rw[DX];exact (Fr.refl [C] wc).setCell (by simp) _
   have JM:nY vG C a al BL cap LL (.slice a1 288 c1) (.slice a2 30 c2) true:=by rw[DX];exact H9.l1.tell
   rw[<-DX];clear z4 x4 DX;obtain⟨e0,e1,e2,e3,e4⟩:=JM.cells;have vr:Fr [C] w4 vG:=((H6.l4.trans H8.l2).mono (by simp)).trans f11;have EJ:Fr [C] w vG:=H4.o3.trans vr;have GZ:lib.Rd vG a cap b:=H.o0.gg EJ λx hx hm=>by have:=H.o2 x hx;have:=HC.o0;simp at hm;omega
   have JH:Cs vG al (bM l):=H1.o0.fr (H4.o2.trans vr) λx hx hm=>by have:=H1.o2 x hx;have:=H2.o2;simp at hm;omega
   have kK:=qvh b a al cap LL 32768 l (.slice a1 288 c1) (.slice a2 30 c2) true vG rfl rfl GZ JH (by rw[H.o5];exact aw _) H1.o1 H4.o6 H.o3 (aw _) (by have:=H.o1;omega)
    (λx hx=>eT (H.o2 x hx) EJ.size) (λx hx=>eT (H1.o2 x hx) (H4.o2.trans vr).size)
   rw[H4.l7,<-H.o5,<-H.l6]at kK;have zY:=cz kK JM vr EJ GZ JH f11;clear kK JM vr EJ GZ JH f11;unfold qO xq at zY;go_upto_region 13 with (go_at_call 129;refine zY.o0.mono ?_;rintro e gi ⟨Q1,Q2,rfl,o1,o2,f12,n1,n2⟩;have lu:=aP o1 o2 f12 n1 n2;clear o1 o2 f12 n1 n2);clear e0 e1 e2 e3 e4;have hmT:(gU b).length<=b.length:=by have:=Mr b 0 l;rw[H4.l7]at this;omega
   have rf:∀(cs:List Nat) (n:Nat),n<=400->(aN cs n).length<=2^15:=λcs n hn=>by
    have h2:(aN cs n).length<=n:=by have:=DF (λs=>decide (0<ai cs s)) (List.range n);rw[Aw]at this;exact this
    omega
   have Jn:∀x:Nat,x<=100002->x<=2^30:=λx hx=>bS hx (by decide)
   have hA:∀x∈sq b,x<=2^30:=λx hx=>by simp only[sq,jR]at hx;obtain⟨s,_,rfl⟩:=hx;refine Jn _ ?_;have:=Md (gU b) s;have:=H.o1;have:=H.l6;unfold yY;split<;>split<;>omega
   have hB:∀x∈nR b,x<=2^30:=λx hx=>by simp only[nR,jR]at hx;obtain⟨s,_,rfl⟩:=hx;refine Jn _ ?_;have:=qys (gU b) s;have:=H.o1;have:=H.l6;omega
   have l1:(sq b).length=286:=by simp[sq]
   have l2:(nR b).length=30:=by simp[nR]
   have PA:C<w4.heap.size:=by have:=H4.o1;unfold nY at this;exact lt_of_block this
   have XW:=MJ (some ⟨Q1,0,none⟩) 286 (sq b) 15 gi (ZL lu.o0 (by decide)) (by decide) (by decide) (by rw[l1];decide) hA (by rw[l1];exact rf _ _ (by decide));have x9:=λje (f:Fr [C] gi je)=>MJ (some ⟨Q2,0,none⟩) 30 (nR b) 15 je (Cp (ZL lu.o1 (by decide)) f (λx hx hm=>by have:=lu.l4;have:=HC.l1;have:=H9.o0.size;have:=zY.o2.size;have:=H2.o2;have:=PA;simp[ae]at hx hm;omega)) (by decide) (by decide) (by rw[l2];decide) hB (by rw[l2];exact rf _ _ (by decide))
   rw[l1]at XW;rw[l2]at x9;have M7:∀je,Fr [] gi je->je.cell? ⟨C,2,none⟩=some (.slice a1 288 c1)/\je.frozen? ⟨C,2,none⟩=false:=λje f=>by have b3:=zY.o1.fr (lu.o2.trans f) (by simp);exact⟨b3.cells.2.2.1,aO b3 2⟩
   have HG:=bJ XW M7 l1 l2 x9 PA;clear XW x9 PA hA hB rf hmT Jn M7 l1 l2;unfold ik at HG;go_upto_region 14 with (go_at_call 130;refine HG.out.1.mono ?_;rintro e je ⟨g1,ll,rfl,ok1,cl1,n1,lt1,f13⟩;obtain⟨x2,z2⟩:=HG.out.2.1 je f13;have qN:=aP ok1 cl1 n1 lt1 f13;clear ok1 cl1 n1 lt1 f13);clear x2 z2;obtain⟨yC,DW⟩:=ah (je.setCell ⟨C,2,none⟩ (.slice (some ⟨g1,0,none⟩) 286 286));have f14:Fr [C] je yC:=by rw[DW];exact (Fr.refl [C] je).setCell (by simp) _
   have JL:nY yC C a al BL cap LL (.slice (some ⟨g1,0,none⟩) 286 286) (.slice a2 30 c2) true:=by rw[DW];exact (zY.o1.fr (lu.o2.trans qN.l4) (by simp)).lit _
   rw[<-DW];clear DW;have x9:=HG.out.2.2.2.2.1 yC ((qN.l4.mono (by simp)).trans f14);have mk3:∀nD,Fr [] yC nD->nD.cell? ⟨C,3,none⟩=some (.slice a2 30 c2)/\nD.frozen? ⟨C,3,none⟩=false:=λnD f=>by have b3:=JL.fr f (by simp);exact⟨b3.cells.2.2.2.1,aO b3 3⟩
   have EW:=aF x9 mk3 JL f14;clear x9 mk3 JL f14;unfold ik at EW;go_upto_region 15 with (go_at_call 130;refine EW.out.1.mono ?_;rintro e nD ⟨g2,dl,rfl,ok2,LA,n2,lt2,f15⟩;obtain⟨x3,z3⟩:=EW.out.2.1 nD f15;have vX:=aP ok2 LA n2 lt2 f15;clear ok2 LA n2 lt2 f15);clear x3 z3;obtain⟨um,DV⟩:=ah (nD.setCell ⟨C,3,none⟩ (.slice (some ⟨g2,0,none⟩) 30 30));have f16:Fr [C] nD um:=by rw[DV];exact (Fr.refl [C] nD).setCell (by simp) _
   have P9:nY um C a al BL cap LL (.slice (some ⟨g1,0,none⟩) 286 286) (.slice (some ⟨g2,0,none⟩) 30 30) true:=by rw[DV];exact (EW.out.2.2.1.fr vX.l4 (by simp)).jJ _
   rw[<-DV];clear DV;have tK:Fr [C] vG um:=((((lu.o2.trans qN.l4).mono (by simp)).trans EW.out.2.2.2).trans (vX.l4.mono (by simp))).trans f16;have EI:Fr [C] w um:=zY.o3.trans tK;have LS:lib.Rd um a cap b:=H.o0.gg EI λx hx hm=>by have:=H.o2 x hx;have:=HC.o0;simp at hm;omega
   have BV:Fr [C] w1 um:=(H4.o2.trans zY.o2).trans tK;have P4:Cs um al (bM l):=H1.o0.fr BV λx hx hm=>by have:=H1.o2 x hx;have:=H2.o2;simp at hm;omega
   have Na:ll.length=286:=by rw[qN.o0.len];exact HG.out.2.2.1
   have M9:dl.length=30:=by rw[vX.o0.len];exact HG.out.2.2.2.1
   have Pz:C≠g1:=by have:=qN.o2;have:=lu.o2.size;have:=zY.o2.size;have:=HG.out.2.2.2.2.2;omega
   have Py:C≠g2:=by have:=vX.o2;have:=EW.out.2.2.2.size;have:=qN.l4.size;have:=lu.o2.size;have:=zY.o2.size;have:=HG.out.2.2.2.2.2;omega
   have Dj:Ri um (some ⟨g1,0,none⟩) 286 ll:=⟨qN.o1.fr (EW.out.2.2.2.trans ((vX.l4.mono (by simp)).trans f16)) (by simp[ae];exact λh=>Pz h.symm),by omega,by unfold maxLen;omega,λh=>by cases h⟩;have E0:Ri um (some ⟨g2,0,none⟩) 30 dl:=⟨vX.o1.fr f16 (by simp[ae];exact λh=>Py h.symm),by omega,by unfold maxLen;omega,λh=>by cases h⟩;have pb:=qk2 b a al cap BL LL 286 30 l (some ⟨g1,0,none⟩) (some ⟨g2,0,none⟩) 286 30 ll dl true um H.l6 H.o5 Na.symm M9.symm LS P4 H1.o1 H4.o6 H.o3 (by have:=H.o1;omega) Dj E0 (by rw[Na];decide) (by rw[Na];decide) (by rw[M9];decide) (by rw[M9];decide) (λ_=>⟨Na,M9⟩) qN.o0.le vX.o0.le (qmy qN.o0) (qmy vX.o0)
    (λx hx=>eT (H.o2 x hx) EI.size) (λx hx=>eT (H1.o2 x hx) BV.size)
   rw[H4.l7]at pb;have yA:=au pb EI tK;obtain⟨e0,e1,e2,e3,e4⟩:=P9.cells;clear pb P9 f16 tK EI LS P4 BV Na M9 Pz Py Dj E0;unfold aD at yA;go_upto_region 16 with (go_at_call 128;refine yA.o0.mono ?_;rintro e Qx ⟨bd,SP,bK,KO,rfl,Z9,n17,f17⟩;have zX:=aP SP bK Z9 n17 f17;clear SP bK Z9 n17 f17);clear e0 e1 e2 e3 e4;obtain⟨Tt,Iq⟩:=ah ((bytesOf bd).length);rw[<-Iq];have JW:=af Iq;clear Iq;have fin:Fr [] w Qx:=qm6 (yA.o1.step zX.l4 (by simp)) (λx hx=>by simp at hx;rw[hx];exact HC.o0);have hdy:J4 b bd:=⟨ll,dl,qN.o0,vX.o0,zX.o0⟩;have HF:=ak fin hdy;clear fin hdy;have res:∀(r':List UInt8),(r'=bytesOf bf\/r'=bD b\/∃bd,J4 b bd/\r'=bytesOf bd)->r'.length<=x6->r'.length<=x8->xt b level r':=λr' h1 h2 h3=>⟨bf,H6.o0,λh=>absurd h ku,λ_=>⟨h1,by rw[<-Tj.out];exact h2,by rw[<-Zo.out];exact h3⟩⟩
   have HR:=af res;clear res;by_cases aY:Tt<n
   ·have q3:decide ((Tt:Int)<(n:Int))=true:=by simpa using aY
    go_wp2;go_ret;refine⟨bytesOf bd,HR.out _ (.inr (.inr ⟨bd,HF.l1,rfl⟩)) ?_ ?_,KO,by rw[JW.out];rfl,zX.o2,λx hx=>⟨bS yA.o1.size (zX.o3 x hx).1,(zX.o3 x hx).2⟩,HF.o0⟩
    ·rw[<-JW.out];have:=HO.out.2.2.2.2.1;omega
    ·rw[<-JW.out];have:=HO.out.2.2.2.2.2;omega
   ·have q3:decide ((Tt:Int)<(n:Int))=false:=by simpa using aY
    go_wp2;go_ret;have fo:Fr [C] wc Qx:=(zY.l6.trans yA.l2).step zX.l4 (by simp);obtain⟨hn,Dl,yW,hr,IU,xX⟩:=HO.out;subst hn;exact⟨r,HR.out r (hr.elim .inl λh=>.inr (.inl h)) IU xX,o,rfl,Dl.gg fo (λx hx hm=>by have:=(yW x hx).1;have:=HG.out.2.2.2.2.2;simp at hm;omega),λx hx=>⟨bS H4.o3.size (yW x hx).1,eT (yW x hx).2 fo.size⟩,HF.o0⟩
end defl
namespace trip
open Go lib bm bl huf inf defl mat
theorem chunks_flatten:∀(f:Nat) (b:List UInt8),(chunks f b).flatten=b
 | 0,b=>by simp[chunks]
 | f+1,b=>by
  rw[chunks];split
  ·rw[List.flatten_cons,chunks_flatten f,Fz]
  ·simp
theorem qhr:∀(cs:List (List UInt8)) (l:List Bool),l.length%8=0->(bL l cs).length=l.length+40*cs.length+8*cs.flatten.length
 | [],l,_=>by simp[bL]
 | b::t,l,h=>by have e:=R1 l t.isEmpty b;rw[bL,qhr t _ (by rw[e];omega),e,List.flatten_cons,aK,cQ];omega
theorem qj5:∀(f:Nat) (b:List UInt8),(chunks f b).length<=b.length/65535+1
 | 0,b=>by simp[chunks]
 | f+1,b=>by
  rw[chunks];split
  ·have:=qj5 f (b.drop 65535);rw[eQ]at this;rw[cQ];omega
  ·simp
theorem qqd (b:List UInt8):(bD b).length=b.length+5*(chunks b.length b).length:=by unfold bD sk;rw[bytesOf_length,qhr _ _ rfl,chunks_flatten,lK];omega
theorem zao (b:List UInt8):(bD b).length<=b.length+5*(b.length/65535+1):=by rw[qqd];have:=qj5 b.length b;omega
open Go.RowKit wb
def RQ (b r:List UInt8):Prop:=r.length<=6*b.length+100/\(r=bD b\/∃level:Int,1<=level/\xt b level r)
theorem qyi {b:List UInt8} {bf:List Bool} (h:Ck b bf):(bytesOf bf).length<=6*b.length+10:=by
 obtain⟨hd,e,h0,_⟩:=h;rw[h0 rfl]at e;have dV:dB b 32768 0 (Dx b 32768):=by simpa using qjz b 32768
 have h1:=qnr (sP 288) (List.replicate 30 5) TR (λx hx=>by rw[List.eq_of_mem_replicate hx];decide) (gU b) (qv8 (aw _) (b.length-0) 0 _ rfl dV);have h2:=Mr b 0 (Dx b 32768);have h3:(kA (sP 288) 256).length<=15:=Am (sP 288) TR 256;have h4:(gU b).length*48<=b.length*48:=uz _ (by unfold gU;omega);rw[bytesOf_length,e];simp only[aK,aH,cQ,lK];omega
theorem zeu (a:Option Addr) (cap:Nat) (b:List UInt8) (level:Int) (w:World) (h:lib.Rd w a cap b) (hlen:b.length<=100000) (fh:∀x∈ae a,x<w.heap.size) :
  Calls Tryz.prog 103 #[.slice a b.length cap,.int .i64 level] w λe w'=>∃r,RQ b r/\aD w r e w':=by
 by_cases hl:level<=0
 ·refine (zak a cap b level w h (by omega) hl).mono λe w' hn=>⟨bD b,⟨?_,.inl rfl⟩,hn⟩
  have:=zao b;omega
 ·refine (zal a cap b level w h hlen (by omega) fh).mono ?_;rintro e w' ⟨r,hr,hn⟩;refine⟨r,⟨?_,.inr ⟨level,by omega,hr⟩⟩,hn⟩;obtain⟨bf,h1,h2,h3⟩:=hr;have h4:=qyi h1;by_cases h5:level=1
  ·rw[h2 h5];omega
  ·have:=(h3 (by omega)).2.1;omega
theorem qvv (a:Option Addr) (cap:Nat) (b:List UInt8) (level:Int) (w:World) (h:lib.Rd w a cap b) (hlen:b.length<=100000) (fh:∀x∈ae a,x<w.heap.size) :
  Calls Tryz.prog 67 #[.slice a b.length cap,.int .i64 level] w λe w'=>∃r,RQ b r/\aD w (bZ level r b) e w':=
 zcw a cap b (RQ b) level w h (λr hr=>by have:=hr.1;omega) (λw' f=>zeu a cap b level w' (h.fr f) hlen (λx hx=>eT (fh x hx) f.size))
end trip
namespace inf
open Go Go.RowKit lib bm bl huf
structure St (w:World) (R p:Nat) (F:List Nat) (bs:List UInt8) (at_:Nat) (out:List UInt8) (oa:Option Addr) (oc most:Nat):Prop where
 box:w.heap[R]?=some (.cells #[.pointer (some ⟨p,0,none⟩),.slice oa out.length oc,.int .i64 most] 209 (0,0))
 rd:bits.Rd w p F bs at_
 own:w.ownsRow 0 5 1 (.slice oa out.length oc) out.length (out.map bv)
 r1:R∉F
 r2:R∉ae oa
 r3:∀x∈ae oa,x∉F
 low:∀x∈F,x<w.heap.size
 sm:most<=100000000
 sb:bs.length<=100000000
 om:out.length<=most
structure Way (w:World) (R p:Nat) (oa:Option Addr) (w':World) (iT:Option Addr):Prop where
 fr:Fr (R::p::ae oa) w w'
 new:∀x∈ae iT,x∈ae oa\/w.heap.size<=x
theorem Way.refl (w:World) (R p:Nat) (oa:Option Addr):Way w R p oa w oa:=⟨.refl _ w,λ_ h=>.inl h⟩
theorem Way.trans {w w1 w2:World} {R p:Nat} {oa j7 zI:Option Addr} (h:Way w R p oa w1 j7) (k:Way w1 R p j7 w2 zI):Way w R p oa w2 zI:=
 ⟨h.fr.step k.fr λx hx=>by
  simp only[gw]at hx ⊢
  rcases hx with rfl|rfl|hx
  ·exact .inl (.inl rfl)
  ·exact .inl (.inr (.inl rfl))
  ·rcases h.new x hx with h1|h1
   ·exact .inl (.inr (.inr h1))
   ·exact .inr h1,λx hx=>by
  rcases k.new x hx with h1|h1
  ·exact h.new x h1
  ·exact .inr (bS h.fr.size h1)⟩
theorem Way.JD {w w1 w2:World} {R p:Nat} {oa j7:Option Addr} (h:Way w R p oa w1 j7) (f:Fr (R::p::ae j7) w1 w2):Fr (R::p::ae oa) w w2:=
 h.fr.step f λx hx=>by
  simp only[gw]at hx ⊢;rcases hx with rfl|rfl|hx
  ·exact .inl (.inl rfl)
  ·exact .inl (.inr (.inl rfl))
  ·rcases h.new x hx with h1|h1
   ·exact .inl (.inr (.inr h1))
   ·exact .inr h1
theorem Way.of (w w':World) (R p:Nat) (oa:Option Addr) (f:Fr [p] w w'):Way w R p oa w' oa:=⟨f.mono (by simp),λ_ h=>.inl h⟩
theorem Way.M1 (w w':World) (R p:Nat) (oa:Option Addr) (f:Fr [] w w'):Way w R p oa w' oa:=⟨f.mono (by simp),λ_ h=>.inl h⟩
theorem Way.old {w w':World} {R p:Nat} {oa iT:Option Addr} (h:Way w R p oa w' iT) {x:Nat} (hx:x<w.heap.size) (hn:x∉R::p::ae oa):x∉R::p::ae iT:=by
 simp only[gw,not_or]at hn ⊢;refine⟨hn.1,hn.2.1,λh1=>?_⟩;rcases h.new x h1 with h2|h2
 ·exact hn.2.2 h2
 ·omega
theorem St.fr {w w':World} {R p:Nat} {F S:List Nat} {bs out:List UInt8} {at_ oc most:Nat} {oa:Option Addr} (h:St w R p F bs at_ out oa oc most) (f:Fr S w w') (hR:R∉S) (hF:∀x∈F,x∉S) (ho:∀x∈ae oa,x∉S):St w' R p F bs at_ out oa oc most:=
 ⟨f.ae h.box hR,bits.G3 h.rd f hF,dr h.own f (λk hk=>ho k (by rw[<-dw oa out.length oc,hk];simp)),h.r1,h.r2,h.r3,λx hx=>eT (h.low x hx) f.size,h.sm,h.sb,h.om⟩
theorem St.dF {w w':World} {R p:Nat} {F:List Nat} {bs out:List UInt8} {at_ oc most:Nat} {oa:Option Addr} (h:St w R p F bs at_ out oa oc most) (f:Fr [] w w'):St w' R p F bs at_ out oa oc most:=h.fr f (by simp) (by simp) (by simp)
theorem St.pF {w:World} {R p:Nat} {F:List Nat} {bs out:List UInt8} {at_ oc most:Nat} {oa:Option Addr} (h:St w R p F bs at_ out oa oc most):p∈F/\at_<=8*bs.length:=by obtain⟨ao,cap,hr,hcs,rfl,bT,hlen,eD,cP,dv⟩:=h.rd;exact⟨by simp,eD⟩
theorem St.take {w w':World} {R p:Nat} {F:List Nat} {bs out:List UInt8} {at_ a' oc most:Nat} {oa:Option Addr} (h:St w R p F bs at_ out oa oc most) (f:Fr [p] w w') (hr:bits.Rd w' p F bs a'):St w' R p F bs a' out oa oc most:=by
 have hp:=h.pF.1;refine⟨f.ae h.box (by simp;rintro rfl;exact h.r1 hp),hr,dr h.own f (λk hk=>?_),h.r1,h.r2,h.r3,λx hx=>eT (h.low x hx) f.size,h.sm,h.sb,h.om⟩;have rq:k∈ae oa:=by rw[<-dw oa out.length oc,hk];simp
 simp;rintro rfl;exact h.r3 _ rq hp
theorem St.put {w1 w2:World} {R p n:Nat} {F:List Nat} {bs out:List UInt8} {at_ oc most fP:Nat} {oa cX:Option Addr} {c:UInt8} {o:Obj} (h:St w1 R p F bs at_ out oa oc most) (hn:n=out.length) (hl:n<most)
  (A:aW (w1.alloc o) w2 5 1 (ae oa) cX (n+1) fP (out.map bv++[bv c])) :
  St (w2.setCell ⟨R,1,none⟩ (.slice cX (n+1) fP)) R p F bs at_ (out++[c]) cX fP most/\Way w1 R p oa (w2.setCell ⟨R,1,none⟩ (.slice cX (n+1) fP)) cX:=by
 have f2:Fr (ae oa) w1 w2:=((Fr.refl _ w1).alloc _).trans A.fr;have fR:Fr [R] w2 (w2.setCell ⟨R,1,none⟩ (.slice cX (n+1) fP)):=(Fr.refl [R] w2).setCell (by simp) _;have b2:=f2.ae h.box h.r2;have Gu:R<w1.heap.size:=lt_of_block h.box;have kM:R∉ae cX:=λhx=>by
  rcases A.at_ R hx with k|k
  ·exact h.r2 k
  ·rw[eZ]at k;omega
 have e:(out++[c]).length=n+1:=by rw[hn];simp
 have hpF:=h.pF.1;refine⟨⟨?_,?_,?_,h.r1,kM,λx hx hF=>?_,λx hx=>eT (h.low x hx) (bS f2.size fR.size),h.sm,h.sb,by rw[e];omega⟩,⟨?_,λx hx=>?_⟩⟩
 ·rw[aX b2,e];rfl
 ·exact bits.G3 (bits.G3 h.rd f2 (λx hx hb=>h.r3 x hb hx)) fR (λx hx hb=>by simp at hb;rw[hb]at hx;exact h.r1 hx)
 ·rw[e,gB];exact dr A.own fR (λk hk=>by
   have rq:k∈ae cX:=by rw[<-dw cX (n+1) fP,hk];simp
   simp
   rintro rfl
   exact kM rq)
 ·rcases A.at_ x hx with k|k
  ·exact h.r3 x k hF
  ·rw[eZ]at k;have:=h.low x hF;omega
 ·exact (f2.mono (λx hx=>.inl (by simp[hx]))).trans (fR.mono (by simp))
 ·rcases A.at_ x hx with k|k
  ·exact .inl k
  ·rw[eZ]at k;exact .inr (by omega)
def C9 (w:World) (R p:Nat) (F:List Nat) (bs:List UInt8) (oa:Option Addr) (most:Nat) (m:Except Nat (List UInt8×Nat)) (e:Ending) (w':World):Prop:=
 (∃c,m = .error c/\0<c/\c<100/\e = .returned (.int .i64 (c:Nat))/\Fr (R::p::ae oa) w w')\/
 (∃out a iT lO,m = .ok (out,a)/\e = .returned (.int .i64 0)/\St w' R p F bs a out iT lO most/\Way w R p oa w' iT)
def nU (w:World) (R p:Nat) (F:List Nat) (bs out:List UInt8) (oa:Option Addr) (oc most:Nat) (m:Except Nat (Nat×Nat)) (e:Ending) (w':World):Prop:=
 (∃(v:Int) (c:Nat),m = .error c/\0<c/\c<100/\e = .returned (.tuple #[.int .i64 v,.int .i64 (c:Nat)])/\Fr (R::p::ae oa) w w')\/
 (∃v a,m = .ok (v,a)/\e = .returned (.tuple #[.int .i64 (v:Nat),.int .i64 0])/\St w' R p F bs a out oa oc most/\Fr [p] w w')
theorem Fm (R p:Nat) (F:List Nat) (bs out:List UInt8) (at_ oc most n:Nat) (oa:Option Addr) (w:World) (h:St w R p F bs at_ out oa oc most) (hn:n<=31) :
  Calls Tryz.prog 134 #[.pointer (some ⟨R,0,none⟩),.int .i64 n] w (nU w R p F bs out oa oc most (bC bs at_ n)):=by
 have c0:=cell_of h.box 0;simp only[bw,aV,bN]at c0;have H:=af h;clear h;by_cases hl:at_+n<=8*bs.length
 ·have hv:cW (((aC bs).drop at_).take n)<4294967296:=eT (RT _ _) (bS (kr (by decide) (show n<=32 by omega)) (by decide));obtain⟨v,xO⟩:=ah (cW (((aC bs).drop at_).take n));have ht:=Z3 p F bs at_ n w H.out.rd (by omega) hl;have e:bC bs at_ n = .ok (v,at_+n):=by unfold bC;rw[if_pos hl,xO]
  rw[e];rw[<-xO]at ht hv;have HT:=af ht;clear ht xO e;go_enter Tryz.func134,Tryz.ntmps134;go_wp2_with (go_at_call 165;refine HT.out.mono ?_;rintro e w1 ⟨rfl,hr,f1⟩);go_ret2;exact .inr ⟨v,at_+n,rfl,rfl,H.out.take f1 hr,f1⟩
 ·have ht:=bits.Fo p F bs at_ n w H.out.rd (.inr (.inr (by omega)));have e:bC bs at_ n = .error 4:=by unfold bC;rw[if_neg hl]
  rw[e];have HT:=af ht;clear ht e;go_enter Tryz.func134,Tryz.ntmps134;go_wp2_with (go_at_call 165;refine HT.out.mono ?_;rintro e w1 ⟨rfl,hr,f1⟩);go_ret2;exact .inl ⟨_,4,rfl,by decide,by decide,rfl,f1.mono (by simp)⟩
theorem Ks (R p:Nat) (F:List Nat) (bs out:List UInt8) (at_ oc most:Nat) (oa:Option Addr) (c:UInt8) (w:World) (h:St w R p F bs at_ out oa oc most) :
  Calls Tryz.prog 186 #[.pointer (some ⟨R,0,none⟩),.int .u8 (c.toNat:Nat)] w (C9 w R p F bs oa most ((kC most out c).map λo=>(o,at_))):=by
 have c1:=cell_of h.box 1;have c2:=cell_of h.box 2;simp only[bw,aV,bN]at c1 c2;obtain⟨n,hn⟩:=ah out.length;have hs:=h.sm;rw[<-hn]at c1;have H:=ak h hn;clear h;by_cases hl:most<=n
 ·have e:kC most out c = .error 5:=by unfold kC;rw[if_pos (by omega)]
  rw[e];clear e hn;go_enter Tryz.func186,Tryz.ntmps186;go_upto_region 1 with fail;go_quiet (fail);go_wp2;go_ret;exact .inl ⟨5,rfl,by decide,by decide,rfl,.drewN _ _ _⟩
 ·have e:kC most out c = .ok (out++[c]):=by unfold kC;rw[if_neg (by omega)]
  rw[e];clear e hn;go_enter Tryz.func186,Tryz.ntmps186;go_upto_region 1 with fail;go_quiet (fail);obtain⟨w1,cD⟩:=ah (w.drewN nq);have f1:Fr [] w w1:=by rw[cD];exact .drewN _ _ _
  have S1:=H.o0.dF f1;have c1':=f1.cell c1 (by simp);rw[<-cD];clear cD c1 c2;have HS:=ak f1 S1;clear f1 S1;go_wp2_with (at_builtin;go_loud (refine iq bits.aq rfl _ _ rfl (.slice oa n oc) n (out.map bv) (ae oa) rfl (dw oa n oc) (by rw[H.l1];exact dr HS.l1.own ((Fr.refl [] w1).alloc _) (by simp)) (some ⟨w1.heap.size,0,none⟩) 1 1 [bv c] (by first|rfl|simp) (aw _) (λh=>by cases h) (ny _ _ _ _ (bx _ _)) rfl (by intro u hu;simp only[iQ]at hu;rw[hu];rfl) (by omega) (by unfold maxLen;omega) ?_);intro cX fP w2 A2;have f2:Fr (ae oa) w1 w2:=(Fr.refl _ w1).trans (((Fr.refl _ w1).alloc _).trans A2.fr);have b2:=f2.ae HS.l1.box H.o0.r2;have z1:=aO b2 1;have d1:=cell_of b2 1;rw[<-H.l1]at d1;simp only[bw,aV,bN]at d1;have HA:=au A2 f2 b2;clear A2 f2 b2 c1');go_ret;have hP:=HS.l1.put H.l1 (by omega) HA.o0;exact .inr ⟨_,_,cX,fP,rfl,rfl,hP.1,(Way.M1 _ _ _ _ _ HS.o0).trans hP.2⟩
end inf
namespace huf
open Go Go.RowKit lib bm bl
def eF (ls:List Nat) (l i:Nat):List Nat:=if l=0 then [] else syms ls l i
theorem Vz (ls:List Nat) (l i:Nat):eF ls l (i+1)=eF ls l i++if ai ls i=l/\l≠0 then [i] else []:=by
 unfold eF;by_cases h:l=0
 ·simp[h]
 ·simp[h,VC]
theorem ql6 (ls:List Nat) (l:Nat):(eF ls l ls.length).length=j4 ls l:=by unfold eF j4;split<;>simp
theorem zc9 (ls:List Nat) (l i:Nat):(eF ls l i).length<=i:=by
 unfold eF;split
 ·simp
 ·have:=DF (λs=>ai ls s==l) (List.range i);rw[Aw]at this;exact this
theorem qvc {ls:List Nat} {i l:Nat} (hi:i<ls.length) (hl:ai ls i=l) (h0:l≠0) (he:(eF ls l i).length=0):code ls i=iF ls l:=by unfold eF at he;rw[if_neg h0,V4 ls l i (by omega)]at he;unfold code;rw[hl,he,jS]
structure fY (w0 w:World) (P D:Nat) (ls:List Nat) (i:Nat) (first:Nat->Nat) (sa:Nat->Option Addr) (sc:Nat->Nat):Prop where
 box:∃A,w.heap[P]?=some (.cells A 309 (0,0))/\A.size=33/\(∀l,l<16->A[l]?=some (.int .u32 (first l:Nat)))/\(∀l,l<16->A[16+l]?=some (.slice (sa l) (eF ls l i).length (sc l)))/\A[32]?=some (.int .i64 (D:Nat))
 fst:∀l,0<(eF ls l i).length->first l=iF ls l
 top:∀s,s<i->ai ls s<=D
 low:D<=15
 low':∀l,first l<=32768
 rows:∀l,l<16->Made w0 w 3 1 (sa l) (eF ls l i).length (sc l) (ints (eF ls l i))
 sep:∀l m,l<16->m<16->l≠m->∀x∈ae (sa l),x∉ae (sa m)
 off:∀l,l<16->P∉ae (sa l)
 new:w0.heap.size<=P
theorem fY.tab {w0 w:World} {P D:Nat} {ls:List Nat} {first:Nat->Nat} {sa:Nat->Option Addr} {sc:Nat->Nat} (h:fY w0 w P D ls ls.length first sa sc) (hlen:ls.length<=400):zB w P D ls first sa sc:=by
 obtain⟨A,hA,h1,h2,h3,h4⟩:=h.box;refine⟨⟨A,hA,h1,h2,λl hl=>by rw[h3 l hl,ql6],h4⟩,λl hl=>h.fst l (by rw[ql6];exact hl),h.top,h.low,h.low',λl hl h0=>?_,hlen⟩;have hr:=h.rows l hl;have e:eF ls l ls.length=syms ls l ls.length:=by unfold eF;rw[if_neg (by omega)]
 rw[e]at hr;exact QX hr rfl
def pC:Array Value:=#[.int .u32 0,.int .u32 0,.int .u32 0,.int .u32 0,.int .u32 0,.int .u32 0,.int .u32 0,.int .u32 0,.int .u32 0,.int .u32 0,.int .u32 0,.int .u32 0,.int .u32 0,.int .u32 0,.int .u32 0,.int .u32 0,.slice none 0 0,.slice none 0 0,.slice none 0 0,.slice none 0 0,.slice none 0 0,.slice none 0 0,.slice none 0 0,.slice none 0 0,.slice none 0 0,.slice none 0 0,.slice none 0 0,.slice none 0 0,.slice none 0 0,.slice none 0 0,.slice none 0 0,.slice none 0 0,.int .i64 0]
theorem zcx:∀l,l<16->pC[l]?=some (.int .u32 0)
 | 0,_=>rfl
 | 1,_=>rfl
 | 2,_=>rfl
 | 3,_=>rfl
 | 4,_=>rfl
 | 5,_=>rfl
 | 6,_=>rfl
 | 7,_=>rfl
 | 8,_=>rfl
 | 9,_=>rfl
 | 10,_=>rfl
 | 11,_=>rfl
 | 12,_=>rfl
 | 13,_=>rfl
 | 14,_=>rfl
 | 15,_=>rfl
 | _+16,h=>absurd h (by omega)
theorem zcy:∀l,l<16->pC[16+l]?=some (.slice none 0 0)
 | 0,_=>rfl
 | 1,_=>rfl
 | 2,_=>rfl
 | 3,_=>rfl
 | 4,_=>rfl
 | 5,_=>rfl
 | 6,_=>rfl
 | 7,_=>rfl
 | 8,_=>rfl
 | 9,_=>rfl
 | 10,_=>rfl
 | 11,_=>rfl
 | 12,_=>rfl
 | 13,_=>rfl
 | 14,_=>rfl
 | 15,_=>rfl
 | _+16,h=>absurd h (by omega)
theorem VA (ls:List Nat) (l:Nat):eF ls l 0=[]:=by unfold eF;split<;>simp[Vt]
theorem fY.start (ls:List Nat) {w0 w1:World} (f:Fr [] w0 w1):fY w0 (w1.alloc (.cells pC 309 (0,0))) w1.heap.size 0 ls 0 (λ_=>0) (λ_=>none) (λ_=>0):=by have f2:Fr [] w0 (w1.alloc (.cells pC 309 (0,0))):=f.trans ((Fr.refl [] w1).alloc _);refine⟨⟨pC,bx w1 _,rfl,zcx,λl hl=>by rw[VA];exact zcy l hl,rfl⟩,λl h=>by rw[VA]at h;simp at h,λs hs=>by omega,by omega,λ_=>by omega,λl hl=>?_,λl m _ _ _ x hx=>by simp[ae]at hx,λl _=>by simp[ae],f.size⟩;rw[VA];exact (Made.none w0 _ _).fk f2
theorem fY.skip {w0 w:World} {P D i:Nat} {ls:List Nat} {first:Nat->Nat} {sa:Nat->Option Addr} {sc:Nat->Nat} (h:fY w0 w P D ls i first sa sc) (h0:ai ls i=0):fY w0 w P D ls (i+1) first sa sc:=by
 have e:∀l,eF ls l (i+1)=eF ls l i:=λl=>by rw[Vz,if_neg (by omega),nF]
 obtain⟨A,hA,h1,h2,h3,h4⟩:=h.box;refine⟨⟨A,hA,h1,h2,λl hl=>by rw[e];exact h3 l hl,h4⟩,λl hl=>h.fst l (by rw[e]at hl;exact hl),λs hs=>?_,h.low,h.low',λl hl=>by rw[e];exact h.rows l hl,h.sep,h.off,h.new⟩;rcases Nat.lt_succ_iff_lt_or_eq.1 hs with h5|h5
 ·exact h.top s h5
 ·rw[h5,h0];exact dZ _
theorem fY.fr {w0 w w':World} {P D i:Nat} {ls:List Nat} {first:Nat->Nat} {sa:Nat->Option Addr} {sc:Nat->Nat} (h:fY w0 w P D ls i first sa sc) (f:Fr [] w w'):fY w0 w' P D ls i first sa sc:=by obtain⟨A,hA,h1⟩:=h.box;exact⟨⟨A,f.ae hA (by simp),h1⟩,h.fst,h.top,h.low,h.low',λl hl=>(h.rows l hl).fk f,h.sep,h.off,h.new⟩
theorem fY.Ae {w0 w:World} {P D i x:Nat} {ls:List Nat} {first:Nat->Nat} {sa:Nat->Option Addr} {sc:Nat->Nat} (h:fY w0 w P D ls i first sa sc) (hx:x<16) (hn:iF ls x<=32768) :
  fY w0 (w.setCell ⟨P,x,none⟩ (.int .u32 (iF ls x:Nat))) P D ls i (λl=>if l=x then iF ls x else first l) sa sc:=by
 obtain⟨A,hA,h1,h2,h3,h4⟩:=h.box;have f:Fr [P] w (w.setCell ⟨P,x,none⟩ (.int .u32 (iF ls x:Nat))):=(Fr.refl [P] w).setCell (by simp) _;refine⟨⟨_,aX hA _,by simp[h1],λl hl=>?_,λl hl=>?_,?_⟩,λl hl=>?_,h.top,h.low,λl=>?_,λl hl=>?_,h.sep,h.off,h.new⟩
 ·by_cases e:l=x
  ·subst e;rw[if_pos rfl,iu (by omega)]
  ·rw[if_neg e,aZ (by omega)];exact h2 l hl
 ·rw[aZ (by omega)];exact h3 l hl
 ·rw[aZ (by omega)];exact h4
 ·show (if l=x then iF ls x else first l)=iF ls l;split
  ·rename_i e;rw[e]
  ·exact h.fst l hl
 ·show (if l=x then iF ls x else first l)<=32768;split
  ·exact hn
  ·exact h.low' l
 ·have m:=h.rows l hl;exact⟨dr m.own f (λy hy hm=>h.off l hl (by simp at hm;rw[<-hm];have e:=dw (sa l) (eF ls l i).length (sc l);rw[<-e,hy];simp)),m.fr.step f (λz hz=>.inr (by simp at hz;rw[hz];exact h.new)),m.new,m.le,m.max,m.nil⟩
theorem Made.gg {w0 w w':World} {S:List Nat} {e:TypeId} {size:Nat} {ao:Option Addr} {n cap:Nat} {xs:List Value} (h:Made w0 w e size ao n cap xs) (f:Fr S w w') (hn:∀y∈ae ao,y∉S) (hS:∀z∈S,w0.heap.size<=z):Made w0 w' e size ao n cap xs:=
 ⟨dr h.own f (λy hy=>hn y (by rw[<-dw ao n cap,hy];simp)),h.fr.step f (λz hz=>.inr (hS z hz)),h.new,h.le,h.max,h.nil⟩
theorem fY.push {w0 w w2 w3 w4 w6:World} {P D i x q cp:Nat} {ls:List Nat} {first:Nat->Nat} {sa:Nat->Option Addr} {sc:Nat->Nat} {ao:Option Addr} (h0:fY w0 w P D ls i first sa sc) (SI:first x=iF ls x) (hx:x<16) (gM:x≠0) (hl:ai ls i=x) (hq:q=(eF ls x i).length)
  (f1:Fr [] w w2) (h2:aW w2 w3 3 1 (ae (sa x)) ao (q+1) cp (ints (eF ls x i)++[.int .i64 i])) (f3:Fr [] w3 w4) (f5:Fr [] (w4.setCell ⟨P,16+x,none⟩ (.slice ao (q+1) cp)) w6) :
  fY w0 (w6.setCell ⟨P,32,none⟩ (.int .i64 (max D x:Nat))) P (max D x) ls (i+1) first (λl=>if l=x then ao else sa l) (λl=>if l=x then cp else sc l):=by
 have h:=h0.fr f1;obtain⟨A,hA,h1,rJ,Lk,zaO⟩:=h.box;have Gv:P∉ae (sa x):=h.off x hx;have Yz:P<w2.heap.size:=lt_of_block hA;have Pf:P∉ae ao:=λhP=>by
  rcases h2.at_ P hP with k|k
  ·exact Gv k
  ·omega
 have vq:=f3.ae (h2.fr.ae hA Gv) (by simp);have PG:=f5.ae (aX vq (o:=16+x) (.slice ao (q+1) cp)) (by simp);have g1:Fr [P] w4 (w4.setCell ⟨P,16+x,none⟩ (.slice ao (q+1) cp)):=(Fr.refl [P] _).setCell (by simp) _;have g2:Fr [P] w6 (w6.setCell ⟨P,32,none⟩ (.int .i64 (max D x:Nat))):=(Fr.refl [P] _).setCell (by simp) _;have fu:∀z∈[P],w0.heap.size<=z:=λz hz=>by simp at hz;rw[hz];exact h.new
 have up:∀{lr:Option Addr} {n' c':Nat} {xs':List Value},Made w0 w3 3 1 lr n' c' xs'->P∉ae lr->Made w0 (w6.setCell ⟨P,32,none⟩ (.int .i64 (max D x:Nat))) 3 1 lr n' c' xs':=λm hP=>(((m.fk f3).gg g1 (λy hy=>by simp;rintro rfl;exact hP hy) fu).fk f5).gg g2 (λy hy=>by simp;rintro rfl;exact hP hy) fu
 have es:∀l,l≠x->eF ls l (i+1)=eF ls l i:=λl Lf=>by rw[Vz,if_neg (by omega),nF]
 have ex:eF ls x (i+1)=eF ls x i++[i]:=by rw[Vz,if_pos ⟨hl,gM⟩]
 have exl:(eF ls x (i+1)).length=q+1:=by rw[ex,hq];simp
 have vP:∀m,m<16->m≠x->∀y∈ae ao,y∉ae (sa m):=λm hm bR y hy Nl=>by
  rcases h2.at_ y hy with k|k
  ·exact h.sep x m hx hm (λe=>bR e.symm) y k Nl
  ·have:=(h.rows m hm).lt y Nl;omega
 refine⟨⟨_,aX PG _,by simp[h1],λl oO=>?_,λl oO=>?_,?_⟩,λl Ep=>?_,λs hs=>?_,?_,h.low',λl oO=>?_,λl m oO Oj bR y hy=>?_,λl oO=>?_,h.new⟩
 ·rw[aZ (by omega),aZ (by omega)];exact rJ l oO
 ·rw[aZ (by omega)];by_cases e:l=x
  ·subst e;rw[iu (by omega),exl];simp
  ·rw[aZ (by omega),es l e];simp only[if_neg e];exact Lk l oO
 ·rw[iu (by simp[h1])]
 ·by_cases e:l=x
  ·rw[e];exact SI
  ·rw[es l e]at Ep;exact h.fst l Ep
 ·rcases Nat.lt_succ_iff_lt_or_eq.1 hs with h5|h5
  ·have:=h.top s h5;omega
  ·rw[h5,hl];omega
 ·have:=h.low;omega
 ·by_cases e:l=x
  ·subst e;simp only[if_pos];rw[exl,ex];have m:=(h.rows l hx).app h2;have e2:ints (eF ls l i++[i])=ints (eF ls l i)++[.int .i64 i]:=by simp[ints]
   rw[e2];exact up m Pf
  ·simp only[if_neg e];rw[es l e];exact up ((h.rows l oO).gg h2.fr (λy hy CN=>h.sep l x oO hx e y hy CN) (λz hz=>(h.rows x hx).new z hz)) (h.off l oO)
 ·by_cases e:l=x
  ·have e2:m≠x:=λhm=>bR (e.trans hm.symm)
   simp only[if_pos e]at hy;simp only[if_neg e2];exact vP m Oj e2 y hy
  ·simp only[if_neg e]at hy;by_cases e2:m=x
   ·simp only[if_pos e2];intro Nl;exact vP l oO e y Nl hy
   ·simp only[if_neg e2];exact h.sep l m oO Oj bR y hy
 ·by_cases e:l=x
  ·simp only[if_pos e];exact Pf
  ·simp only[if_neg e];exact h.off l oO
theorem fY.pre {w0 w1 w:World} {P D i:Nat} {ls:List Nat} {first:Nat->Nat} {sa:Nat->Option Addr} {sc:Nat->Nat} (h:fY w1 w P D ls i first sa sc) (f:Fr [] w0 w1):fY w0 w P D ls i first sa sc:=
 ⟨h.box,h.fst,h.top,h.low,h.low',λl hl=>(h.rows l hl).pre f,h.sep,h.off,bS f.size h.new⟩
def EP (w:World) (ls:List Nat) (e:Ending) (w':World):Prop:=
 ∃P D first sa sc,e = .returned (.tuple #[.pointer (some ⟨P,0,none⟩),.int .i64 0])/\fY w w' P D ls ls.length first sa sc/\Fr [] w w'
theorem zdy (a:Option Addr) (cap:Nat) (ls:List Nat) (w:World) (h:Ri w a cap ls) (hle:∀l∈ls,l<=15) (hlen:ls.length<=400) (hw:weight ls<=32768) :
  Calls Tryz.prog 187 #[.slice a ls.length cap] w (EP w ls):=by
 obtain⟨N,hN⟩:=ah ls.length;have hc:=Rr a cap ls w h hle hlen hw;unfold gT at hc;rw[<-hN]at hlen hc ⊢;have H:=aP h hle hN hc hw;clear h hle hN hc hw;go_enter Tryz.func187,Tryz.ntmps187;go_upto_block 0 with (go_at_call 205;refine H.out.2.2.2.1.mono ?_;rintro e w1 ⟨g,rfl,cg,ng,lg,f1⟩;have H1:=aF cg ng lg f1;clear cg ng lg f1);obtain⟨P,hP⟩:=ah w1.heap.size;obtain⟨w2,bq⟩:=ah (w1.alloc (.cells pC 309 (0,0)));have T0:fY w1 w2 P 0 ls 0 (λ_=>0) (λ_=>none) (λ_=>0):=by rw[bq,hP];exact fY.start ls (Fr.refl [] w1)
 unfold pC at bq;rw[<-bq,<-hP];have f2:Fr [] w w2:=by rw[bq];exact H1.l3.trans ((Fr.refl [] w1).alloc _)
 have cg2:Cs w2 (some ⟨g,0,none⟩) ((cV ls).map λx=>.int .u32 (x:Nat)):=by rw[bq];exact H1.o0.fr ((Fr.refl [] w1).alloc _) (by simp)
 have H2:=aP T0 f2 cg2 hP bq;clear T0 f2 cg2 hP bq;go_wp2;go_loopg [7,8,21] N (λk s7 s8 s21 wr=>∃(i D:Nat) (first:Nat->Nat) (sa:Nat->Option Addr) (sc:Nat->Nat),s21 = .int .i64 (i:Nat)/\i+k=N/\fY w1 wr P D ls i first sa sc/\Fr [] w wr/\Cs wr (some ⟨g,0,none⟩) ((cV ls).map λx=>.int .u32 (x:Nat)));case atStart=>exact⟨0,0,_,_,_,rfl,by omega,H2.o0,H2.o1,H2.o2⟩
 case round=>
  obtain⟨i,D,first,sa,sc,rfl,bU,hT,hf,Lo⟩:=hrel;by_cases hi:i<N
  ·obtain⟨k,rfl⟩:∃k,gk=k+1:=⟨gk-1,by omega⟩;have eC:i<ls.length:=by rw[<-H.out.2.2.1];exact hi
   obtain⟨ga,o,ha,hc⟩:=(H.out.1.fr hf).at eC;subst ha;have iV:=H.out.2.1 _ (vJ eC);have fh:ai ls i=ls[i]:=by unfold ai;rw[bO eC];rfl
   obtain⟨x,hx⟩:=ah (ls[i]);rw[<-hx]at hc iV fh;have HI:=bJ hT hf Lo fh eC hx;clear hT hf Lo fh hx;by_cases gM:x=0
   ·subst gM;go_wp2;go_roundg k;case measure=>omega
    case rel=>exact⟨i+1,D,first,sa,sc,by go_num,by omega,HI.out.1.skip HI.out.2.2.2.1,HI.out.2.1,HI.out.2.2.1⟩
   ·have b0:((x:Int)==0)=false:=by simp;omega
    have cells:=λ(wc:World) (first:Nat->Nat) (T:fY w1 wc P D ls i first sa sc)=>show wc.cell? ⟨P,x,none⟩=some (.int .u32 (first x:Nat))/\wc.cell? ⟨P,16+x,none⟩=some (.slice (sa x) (eF ls x i).length (sc x))/\wc.cell? ⟨P,32,none⟩=some (.int .i64 D)/\wc.frozen? ⟨P,x,none⟩=false/\wc.frozen? ⟨P,16+x,none⟩=false/\wc.frozen? ⟨P,32,none⟩=false by obtain⟨A,hA,h1,h2,h3,h4⟩:=T.box;exact⟨by rw[cell_of hA];exact h2 x (by omega),by rw[cell_of hA];exact h3 x (by omega),by rw[cell_of hA];exact h4,aO hA _,aO hA _,aO hA _⟩
    obtain⟨c1,c2,c3,z1,z2,z3⟩:=cells wr first HI.out.1
    obtain⟨q,hq⟩:=ah ((eF ls x i).length);have vN:q<=400:=by rw[hq];have:=zc9 ls x i;omega
    have sH:wr.cell? ⟨g,i,none⟩=some (.int .u32 (code ls i:Nat)):=by obtain⟨g',o',e,hcs⟩:=HI.out.2.2.1.at (by simp[cV];omega);cases e;rw[show (⟨g,i,none⟩:Addr)=⟨g,0+i,none⟩ by rw[fM]];refine hcs i _ ?_;simp[cV,eC,df];rw[if_neg (by rw[HI.out.2.2.2.1];exact gM)]
    rw[<-hq]at c2 cells;have HQ:=ak hq cells;have Pn:i<400:=by omega
    clear hq cells;go_upto_if 35 with fail;go_cut [] from 28 to 44 (λwc=>∃first',fY w1 wc P D ls i first' sa sc/\first' x=iF ls x/\Fr [] w wc/\Cs wc (some ⟨g,0,none⟩) ((cV ls).map λx=>.int .u32 (x:Nat)))
    case first=>
     by_cases NU:q=0
     ·have b1:((q:Int)==0)=true:=by simp;omega
      have iy:=qvc eC HI.out.2.2.2.1 gM (by rw[<-HQ.out.1];exact NU);have CT:iF ls x<=32768:=qp5 ls (by exact H.out.2.1) H.out.2.2.2.2 x iV;rw[iy]at sH;have HX:=ak iy CT;clear iy CT;go_upto_region 10 with fail;refine uw 9 (by kernel_rfl) (by kernel_rfl) ?_;simp only[uj];repeat (go_big_quiet_step (fail))
      refine wpQuiet_nil ?_;go_wp2;go_meet;have fd:Fr [] wr wr.drew:=Fr.drewN [] _ _;case rel=>exact⟨_,(HI.out.1.fr fd).Ae (by omega) HX.l1,if_pos rfl,(HI.out.2.1.trans fd).step ((Fr.refl [P] _).setCell (by simp) _) (λz hz=>.inr (by simp at hz;rw[hz];exact bS H1.l3.size HI.out.1.new)),(HI.out.2.2.1.fr fd (by simp)).fr ((Fr.refl [P] _).setCell (by simp) _) (by intro z hz hm;have:=H1.o2;have:=H2.o3;simp[ae]at hz hm;omega)⟩
     ·have b1:((q:Int)==0)=false:=by simp;omega
      go_wp2;go_meet;case rel=>exact⟨first,HI.out.1,HI.out.1.fst x (by rw[<-HQ.out.1];omega),HI.out.2.1,HI.out.2.2.1⟩
    case rest=>
     obtain⟨first',hT,SI,hf,Lo⟩:=hcut;obtain⟨c1,c2,c3,z1,z2,z3⟩:=HQ.out.2 wc first' hT
     have Gv:P∉ae (sa x):=hT.off x (by omega);have q1:∀y,(sup (ae (sa x)) wc.drew y).cell? ⟨P,16+x,none⟩=some (.slice (sa x) q (sc x)):=λy=>(dk (ae (sa x)) wc.drew y).cell ((Fr.av [] wc).cell c2 (by simp)) Gv
     go_upto_region 11 with fail;refine RP 14 [(false,0),(false,1),(false,2),(false,3),(false,4),(false,5),(false,6),(false,7),(false,8),(false,11),(false,12),(true,9),(true,10),(false,13)] (ae (sa x)) (by kernel_rfl) (by kernel_rfl) (λ_ _ d _ _ h=>by cases d<;>exact h) ?_;simp only[iw];refine Fj 11 rfl ?_;simp only[aU];repeat (go_big_quiet_step (fail))
     refine wpQuiet_nil ?_;clear q1;refine Dz rfl ?_;intro X hX;go_wp2;refine hX.out _ _ wc.drew (Fr.refl _ _) ((Fr.refl (ae (sa x)) wc.drew).alloc _) ?_;clear hX X;refine Dz rfl ?_;intro X hX;obtain⟨w4,ft⟩:∃w4,w4=(wc.alloc (.cells #[.int .i64 (i:Nat)] 3)).drew:=⟨_,rfl⟩;have f4:Fr [] wc w4:=by rw[ft];exact ((Fr.refl [] wc).alloc _).drew
     have kx:Cs w4 (some ⟨wc.heap.size,0,none⟩) [.int .i64 i]:=by rw[ft];exact ny _ _ _ _ ((Fr.av [] _).ae (bx wc _) (by simp))
     have PO:Fr (ae (sa x)) wc.drew w4:=by rw[ft];exact (((Fr.refl (ae (sa x)) wc).alloc _).drew).aS
     have HF:=cz hT SI hf Lo f4 kx PO;rw[<-ft];clear hT SI hf Lo ft f4 kx PO;refine uv oX _ _ rfl (.slice (sa x) q (sc x)) q (ints (eF ls x i)) (ae (sa x)) rfl (dw _ _ _) (by have:=((HF.o0.rows x (by omega)).fk HF.o4).own;rwa [<-HQ.out.1]at this) (some ⟨wc.heap.size,0,none⟩) 1 1 [.int .i64 i] rfl (aw _) (λh=>by cases h) HF.o5 rfl (by intro u hu;simp only[iQ]at hu;rw[hu];rfl) (by omega) (by unfold maxLen;omega) ?_;intro a5 c5 w5 A5;have Lz:Fr (ae (sa x)) wc.drew w5:=HF.l6.step A5.fr λy hy=>.inl hy
     refine hX.out _ _ wc.drew (Fr.refl _ _) Lz ?_;clear hX X;simp only[Act.put,mC,nC,mB];clear c2 c3 z2 z3;have T4:=HF.o0.fr HF.o4;obtain⟨A4,vq,zc,XD,OA,NB⟩:=T4.box;have Lx:=A5.fr.ae vq Gv;have z2:=aO Lx (16+x);have c2:=cell_of Lx (16+x);rw[OA x (by omega)]at c2;have PG:=aX Lx (o:=16+x) (.slice a5 (q+1) c5);have c3:=cell_of PG 32;rw[aZ (by omega),NB]at c3;have z3:=aO PG 32;have HA:=ak A5 Lz;clear vq zc XD OA NB Lx PG A5 Lz T4 c1 z1;refine Fj 1 rfl ?_;simp only[aU];repeat (go_big_quiet_step (fail))
     refine wpQuiet_nil ?_;refine Rh ?_;have Gt:=fY.push (w6:=w5.setCell ⟨P,16+x,none⟩ (.slice a5 (q+1) c5)) HF.o0 HF.o1 (by omega) gM HI.out.2.2.2.1 HQ.out.1 HF.o4 HA.o0 (Fr.refl [] _) (Fr.refl [] _);have OO:∀u:Value,Fr [] w ((w5.setCell ⟨P,16+x,none⟩ (.slice a5 (q+1) c5)).setCell ⟨P,32,none⟩ u):=λu=>by
      have f1:Fr [] w wc:=HF.o2;have f2:Fr (P::ae (sa x)) wc ((w5.setCell ⟨P,16+x,none⟩ (.slice a5 (q+1) c5)).setCell ⟨P,32,none⟩ u):=((((Fr.refl _ wc).drew).trans (HA.l1.mono (λy hy=>.inl (DH _ hy)))).setCell (by simp) _).setCell (by simp) _;exact f1.step f2 λz hz=>by
       rcases gw.1 hz with rfl|hz
       ·exact .inr (bS H1.l3.size HF.o0.new)
       ·exact .inr (bS H1.l3.size ((HF.o0.rows x (by omega)).new z hz))
     have O4:∀u:Value,Cs ((w5.setCell ⟨P,16+x,none⟩ (.slice a5 (q+1) c5)).setCell ⟨P,32,none⟩ u) (some ⟨g,0,none⟩) ((cV ls).map λx=>.int .u32 (x:Nat)):=λu=>by
      have f2:Fr (P::ae (sa x)) wc ((w5.setCell ⟨P,16+x,none⟩ (.slice a5 (q+1) c5)).setCell ⟨P,32,none⟩ u):=((((Fr.refl _ wc).drew).trans (HA.l1.mono (λy hy=>.inl (DH _ hy)))).setCell (by simp) _).setCell (by simp) _;refine HF.o3.fr f2 λy hy hm=>?_
      simp[ae]at hy;have hg:g<w1.heap.size:=H1.o2;rcases gw.1 hm with h1|h1
      ·have:=HF.o0.new;omega
      ·have:=(HF.o0.rows x (by omega)).new y h1;omega
     have HZ:=au Gt OO O4;clear Gt OO O4;go_wp2
     ·go_roundg k;case measure=>omega
      case rel=>
       have hD:max D x=x:=by omega
       have Gt:=HZ.o0;rw[hD]at Gt;exact⟨i+1,x,first',_,_,by go_num,by omega,Gt,HZ.o1 _,HZ.l2 _⟩
     ·go_roundg k;case measure=>omega
      case rel=>
       have hD:max D x=D:=by omega
       have Gt:=HZ.o0;rw[hD]at Gt;exact⟨i+1,D,first',_,_,by go_num,by omega,Gt,HZ.o1 _,HZ.l2 _⟩
  ·obtain rfl:i=N:=by omega
   have HI:=ak hT hf;clear hT hf Lo hi bU;go_wp2;go_ret2;have hT:=HI.out.1;rw[H.out.2.2.1]at hT;exact⟨P,D,first,sa,sc,rfl,hT.pre H1.l3,HI.out.2⟩
structure Qd (w:World) (P D:Nat) (ls:List Nat) (first:Nat->Nat) (sa:Nat->Option Addr) (sc:Nat->Nat) (B E:Nat):Prop where
 tab:zB w P D ls first sa sc
 at_:B<=P/\P<E
 row:∀l,l<16->∀x∈ae (sa l),B<=x/\x<E
def tP (w:World) (ls:List Nat) (e:Ending) (w':World):Prop:=
 ∃P D first sa sc,e = .returned (.tuple #[.pointer (some ⟨P,0,none⟩),.int .i64 0])/\Qd w' P D ls first sa sc w.heap.size w'.heap.size/\Fr [] w w'
theorem Up (a:Option Addr) (cap:Nat) (ls:List Nat) (w:World) (h:Ri w a cap ls) (hle:∀l∈ls,l<=15) (hlen:ls.length<=400) (hw:weight ls<=32768) :
  Calls Tryz.prog 187 #[.slice a ls.length cap] w (tP w ls):=
 (zdy a cap ls w h hle hlen hw).mono λe w' ⟨P,D,first,sa,sc,h1,h2,h3⟩=>⟨P,D,first,sa,sc,h1,⟨h2.tab hlen,⟨h2.new,by obtain⟨A,hA,_⟩:=h2.box;exact lt_of_block hA⟩,λl hl x hx=>⟨(h2.rows l hl).new x hx,(h2.rows l hl).lt x hx⟩⟩,h3⟩
theorem qyz (a:Option Addr) (cap:Nat) (ls:List Nat) (w:World) (h:Ri w a cap ls) (hle:∀l∈ls,l<=15) (hlen:ls.length<=400) (hw:32768<weight ls) :
  Calls Tryz.prog 205 #[.slice a ls.length cap] w λe w'=>e = .returned (.tuple #[.slice none 0 0,.int .i64 3])/\Fr [] w w':=by
 have hc:=U8 a cap ls w h hle (by omega);have y7:=Vw ls;obtain⟨W,hW⟩:=ah (weight ls);obtain⟨N,hN⟩:=ah ls.length;rw[<-hW]at hc hw y7;rw[<-hN]at hc hlen y7 ⊢;have H:=af hc;clear hc hW hN h hle;go_enter Tryz.func205,Tryz.ntmps205;go_wp2_with (go_at_call 217;refine H.out.mono ?_;rintro e w1 ⟨rfl,rfl⟩);go_ret2;exact⟨rfl,.refl _ _⟩
theorem zdx (a:Option Addr) (cap:Nat) (ls:List Nat) (w:World) (h:Ri w a cap ls) (hle:∀l∈ls,l<=15) (hlen:ls.length<=400) (hw:32768<weight ls) :
  Calls Tryz.prog 187 #[.slice a ls.length cap] w λe w'=>e = .returned (.tuple #[.pointer none,.int .i64 3])/\Fr [] w w':=by
 have H:=af (qyz a cap ls w h hle hlen hw);obtain⟨N,hN⟩:=ah ls.length;rw[<-hN]at H ⊢;clear h hle hw hN;go_enter Tryz.func187,Tryz.ntmps187;go_wp2_with (go_at_call 205;refine H.out.mono ?_;rintro e w1 ⟨rfl,f1⟩);go_ret2;exact⟨rfl,f1⟩
end huf
namespace inf
open Go Go.RowKit lib bm bl huf
theorem qya {ls:List Nat} {n v s:Nat} (h:iW ls n v=some s):s<ls.length/\0<n:=by unfold iW at h;have h1:=List.mem_of_find?_eq_some h;have h2:=List.find?_some h;simp at h1 h2;exact⟨h1,h2.1⟩
theorem VK (ls:List Nat):∀(f n v:Nat) (bits:List Bool),((cu ls f n v bits).2.2=0\/(cu ls f n v bits).2.2=3\/(cu ls f n v bits).2.2=4)/\
  ((cu ls f n v bits).2.2=0->(cu ls f n v bits).1<ls.length/\0<(cu ls f n v bits).2.1)
 | 0,n,v,bits=>by
  cases h:iW ls n v with
  | some s=>rw[MA h];exact⟨.inl rfl,λ_=>qya h⟩
  | none=>rw[Vq h];exact⟨.inr (.inl rfl),λh=>by cases h⟩
 | f+1,n,v,bits=>by
  cases h:iW ls n v with
  | some s=>rw[MA h];exact⟨.inl rfl,λ_=>qya h⟩
  | none=>
   by_cases hm:ej ls n v=true
   ·cases bits with
    | nil=>rw[VM h hm];exact⟨.inr (.inr rfl),λh=>by cases h⟩
    | cons b t=>rw[VL h hm];exact VK ls f (n+1) _ t
   ·rw[VJ h (by simpa using hm)];exact⟨.inr (.inl rfl),λh=>by cases h⟩
theorem Kp {bs:List UInt8} {ls:List Nat} {a s a1:Nat} (h:mQ bs ls a = .ok (s,a1)):s<ls.length/\a<a1:=by
 unfold mQ at h;split at h
 ·rename_i hc;have:=(VK ls 15 0 0 ((aC bs).drop a)).2 hc;simp only[gA,fj]at h;omega
 ·cases h
theorem Al {bs:List UInt8} {a n v a1:Nat} (h:bC bs a n = .ok (v,a1)):v<2^n:=by
 unfold bC at h;split at h
 ·simp only[gA,fj]at h;rw[<-h.1];exact RT _ _
 ·cases h
structure Tb (w:World) (P:Nat) (ls:List Nat) (X:List Nat):Prop where
 ex:∃D first sa sc,zB w P D ls first sa sc/\P<w.heap.size/\P∉X/\∀l,l<16->∀x∈ae (sa l),x<w.heap.size/\x∉X
theorem Tb.fr {S:List Nat} {w w':World} {P:Nat} {ls X:List Nat} (h:Tb w P ls X) (f:Fr S w w') (hS:∀x∈S,x∈X\/w.heap.size<=x):Tb w' P ls X:=by
 obtain⟨D,first,sa,sc,ht,h1,h2,h3⟩:=h.ex;refine⟨D,first,sa,sc,ht.gg f (λhP=>?_) (λl hl _ x hx jU=>?_),eT h1 f.size,h2,λl hl x hx=>⟨eT (h3 l hl x hx).1 f.size,(h3 l hl x hx).2⟩⟩
 ·rcases hS P hP with k|k
  ·exact h2 k
  ·omega
 ·rcases hS x jU with k|k
  ·exact (h3 l hl x hx).2 k
  ·have:=(h3 l hl x hx).1;omega
theorem Tb.way {w w':World} {R p P:Nat} {oa iT:Option Addr} {ls:List Nat} (h:Tb w P ls (R::p::ae oa)) (f:Way w R p oa w' iT):Tb w' P ls (R::p::ae iT):=by obtain⟨D,first,sa,sc,ht,h1,h2,h3⟩:=h.ex;exact⟨D,first,sa,sc,ht.gg f.fr h2 (λl hl _ x hx=>(h3 l hl x hx).2),eT h1 f.fr.size,f.old h1 h2,λl hl x hx=>⟨eT (h3 l hl x hx).1 f.fr.size,f.old (h3 l hl x hx).1 (h3 l hl x hx).2⟩⟩
theorem Dv (R p P:Nat) (F:List Nat) (bs out:List UInt8) (ls:List Nat) (at_ oc most:Nat) (oa:Option Addr) (w:World) (h:St w R p F bs at_ out oa oc most) (hT:Tb w P ls (R::p::ae oa)) :
  Calls Tryz.prog 206 #[.pointer (some ⟨P,0,none⟩),.pointer (some ⟨p,0,none⟩)] w (nU w R p F bs out oa oc most (mQ bs ls at_)):=by
 obtain⟨D,first,sa,sc,ht,h1,h2,h3⟩:=hT.ex;have hp:P≠p:=λe=>h2 (by simp[e])
 have Sn:=VK ls 15 0 0 ((aC bs).drop at_);obtain⟨r,NQ⟩:=ah (cu ls 15 0 0 ((aC bs).drop at_));unfold mQ;rw[<-NQ]at Sn ⊢;obtain⟨s,m,c⟩:=r;refine (Rk P D ls first sa sc p F bs at_ w ht h.rd hp (λl hl _ x hx e=>(h3 l hl x hx).2 (by simp[e])) s m c NQ.symm).mono ?_;rintro e w' ⟨rfl,hr,f⟩;simp only at Sn ⊢;by_cases hc:c=0
 ·subst hc;exact .inr ⟨s,at_+m,by rw[if_pos rfl],rfl,h.take f hr,f⟩
 ·exact .inl ⟨_,c,by rw[if_neg hc],by omega,by omega,rfl,f.mono (by simp)⟩
theorem RD (R p:Nat) (F:List Nat) (bs out:List UInt8) (at_ oc most s:Nat) (oa:Option Addr) (w:World) (h:St w R p F bs at_ out oa oc most) (h1:256<=s) (h2:s<286) :
  Calls Tryz.prog 219 #[.pointer (some ⟨R,0,none⟩),.int .i64 s] w (nU w R p F bs out oa oc most (dt bs s at_)):=by
 by_cases h3:s<265
 ·have e:dt bs s at_ = .ok (s-254,at_):=by unfold dt;rw[if_pos h3]
  rw[e];have H:=af h;clear h e;go_enter Tryz.func219,Tryz.ntmps219;go_wp2;go_ret2;exact .inr ⟨_,_,rfl,by rw[show ((s-254:Nat):Int)=(s:Int)-254 by omega];rfl,H.out,.refl _ _⟩
 ·by_cases h4:s=285
  ·have e:dt bs s at_ = .ok (258,at_):=by unfold dt;rw[if_neg h3,if_pos h4]
   rw[e];subst h4;have H:=af h;clear h e;go_enter Tryz.func219,Tryz.ntmps219;go_wp2;go_ret2;exact .inr ⟨_,_,rfl,rfl,H.out,.refl _ _⟩
  ·have b4:((s:Int)==285)=false:=by simp;omega
   obtain⟨n,hn⟩:=ah ((s-261)/4);have N5:n<=5:=by omega
   have ht:=Fm R p F bs out at_ oc most n oa w h (by omega);have iX:∀c,bC bs at_ n = .error c->dt bs s at_ = .error c:=λc hc=>by unfold dt;rw[if_neg h3,if_neg h4,<-hn,hc]
   have mV:∀v a1,bC bs at_ n = .ok (v,a1)->dt bs s at_ = .ok (3+(4+(s-265)%4)*2^n+v,a1):=λv a1 hc=>by unfold dt;rw[if_neg h3,if_neg h4,<-hn,hc]
   obtain⟨M,hM⟩:=ah (dt bs s at_);rw[<-hM]at iX mV ⊢;obtain⟨k,hk⟩:=ah ((4+(s-265)%4)*2^n);rw[<-hk]at mV;have rq:k<=7*2^5:=by rw[hk];exact J9 (by omega) (kr (by decide) N5)
   have wV:(4+((s:Int)-265)%4)*2^n=(k:Nat):=by
    have e0:((s:Int)-265)%4=((s-265)%4:Nat):=by omega
    rw[e0,hk];push_cast;rfl
   have H:=aP ht hn iX mV wV;have BK:=af hM;clear hM iX mV hk wV;have e1:((s:Int)-261)/4=(n:Nat):=by omega
   clear h ht hn;go_enter Tryz.func219,Tryz.ntmps219;go_wp2_with (go_at_call 134;refine H.out.1.mono ?_;rintro e w1 (⟨v,c,hm,bW,cL,rfl,f1⟩|⟨v,a1,hm,rfl,s1,f1⟩))
   ·go_ret2;exact .inl ⟨_,c,H.out.2.2.1 c hm,bW,cL,rfl,f1⟩
   ·go_ret2;refine .inr ⟨_,_,H.out.2.2.2.1 v a1 hm,?_,s1,f1⟩;have hv:=Al hm;have xO:2^n<=2^5:=kr (by decide) N5;have e2:wrap64 (wrap64 (3+wrap64 ((4+((s:Int)-265)%4)*2^n))+(v:Nat))=((3+k+v:Nat):Int):=by rw[H.out.2.2.2.2];unfold wrap64;omega
    show Ending.returned (.tuple #[.int .i64 (wrap64 (wrap64 (3+wrap64 ((4+((s:Int)-265)%4)*2^n))+(v:Nat))),.int .i64 0])=_;rw[e2]
theorem RU (R p:Nat) (F:List Nat) (bs out:List UInt8) (at_ oc most s:Nat) (oa:Option Addr) (w:World) (h:St w R p F bs at_ out oa oc most) (h2:s<30) :
  Calls Tryz.prog 220 #[.pointer (some ⟨R,0,none⟩),.int .i64 s] w (nU w R p F bs out oa oc most (iG bs s at_)):=by
 by_cases h3:s<4
 ·have e:iG bs s at_ = .ok (s+1,at_):=by unfold iG;rw[if_pos h3]
  rw[e];have H:=af h;clear h e;go_enter Tryz.func220,Tryz.ntmps220;go_wp2;go_ret2;exact .inr ⟨_,_,rfl,rfl,H.out,.refl _ _⟩
 ·obtain⟨n,hn⟩:=ah ((s-2)/2);have N5:n<=13:=by omega
  have ht:=Fm R p F bs out at_ oc most n oa w h (by omega);have iX:∀c,bC bs at_ n = .error c->iG bs s at_ = .error c:=λc hc=>by unfold iG;rw[if_neg h3,<-hn,hc]
  have mV:∀v a1,bC bs at_ n = .ok (v,a1)->iG bs s at_ = .ok (1+(2+s%2)*2^n+v,a1):=λv a1 hc=>by unfold iG;rw[if_neg h3,<-hn,hc]
  obtain⟨M,hM⟩:=ah (iG bs s at_);rw[<-hM]at iX mV ⊢;obtain⟨k,hk⟩:=ah ((2+s%2)*2^n);rw[<-hk]at mV;have rq:k<=3*2^13:=by rw[hk];exact J9 (by omega) (kr (by decide) N5)
  have wV:(2+(s:Int)%2)*2^n=(k:Nat):=by rw[hk];push_cast;rfl
  have H:=aP ht hn iX mV wV;have BK:=af hM;clear hM iX mV hk wV;have e1:((s:Int)-2)/2=(n:Nat):=by omega
  clear h ht hn;go_enter Tryz.func220,Tryz.ntmps220;go_wp2_with (go_at_call 134;refine H.out.1.mono ?_;rintro e w1 (⟨v,c,hm,bW,cL,rfl,f1⟩|⟨v,a1,hm,rfl,s1,f1⟩))
  ·go_ret2;exact .inl ⟨_,c,H.out.2.2.1 c hm,bW,cL,rfl,f1⟩
  ·go_ret2;refine .inr ⟨_,_,H.out.2.2.2.1 v a1 hm,?_,s1,f1⟩;have hv:=Al hm;have xO:2^n<=2^13:=kr (by decide) N5;have e2:wrap64 (wrap64 (1+wrap64 ((2+(s:Int)%2)*2^n))+(v:Nat))=((1+k+v:Nat):Int):=by rw[H.out.2.2.2.2];unfold wrap64;omega
   show Ending.returned (.tuple #[.int .i64 (wrap64 (wrap64 (1+wrap64 ((2+(s:Int)%2)*2^n))+(v:Nat))),.int .i64 0])=_;rw[e2]
end inf

end Go.Proofs.YtkmpfgpfbmeihaaGreatDoor