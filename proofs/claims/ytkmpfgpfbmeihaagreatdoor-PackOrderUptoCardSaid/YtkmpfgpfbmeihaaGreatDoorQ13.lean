/-
  Texts of this proof, one behind the other: Raw, TripA, TripB, TripC, PlainLen, TripD.
-/
import Derived.Test.YtkmpfgpfbmeihaaGreatDoorQ12
set_option maxHeartbeats 16000000
set_option maxRecDepth 100000
set_option linter.unusedVariables false
set_option linter.unusedSimpArgs false
namespace Go.Proofs.YtkmpfgpfbmeihaaGreatDoor
namespace defl
open Go Go.RowKit lib bm bl mat huf wb
def cB (b:LB):List Tok:=bE b 0 (Ah b 32768)
def j5 (b:LB):List Nat:=(List.range 286).map (nX b (cB b))
def jh (b:LB):List Nat:=(List.range 30).map (ou (cB b))
def xR (b:LB) (bb:List Bool):Prop:=fh (pQ 288) (List.replicate 30 5) (cB b) true false bb
def Fp (b:LB) (bb:List Bool):Prop:=∃ll dl,kX 15 (j5 b) ll/\kX 15 (jh b) dl/\fh ll dl (cB b) true true bb
def ua (b:LB) (level:Int) (r:LB):Prop:=
 ∃bf,xR b bf/\(level=1->r=bytesOf bf)/\(2<=level->(r=bytesOf bf\/r=aR b\/∃bd,Fp b bd/\r=bytesOf bd)/\r.length<=(bytesOf bf).length/\r.length<=(aR b).length)
theorem Xn {L:Nat} {cs ls:LN} (h:kX L cs ls):weight ls<=32768:=by
 by_cases h2:2<=(aJ cs cs.length).length
 ·rw[h.full h2];exact ay _
 ·have hm:ls=(List.range cs.length).map (ae ls):=by
   rw[<-h.len];refine D4 λi=>?_
   rw[iM];by_cases hi:i<ls.length
   ·rw[Iv hi,br hi];simp[ae,hi]
   ·rw[nU (by omega),nU (by simp;omega)];rfl
  have hs:weight ls=((aJ cs cs.length).map λs=>wt (ae ls s)).sum:=by rw[hm,Xg,<-hm];rw[Xd (λs=>decide (0<ae cs s)) _ _ λs _ hp=>by rw[h.zero s (by simpa using hp)];rfl];rfl
  have hw:∀s,wt (ae ls s)<=16384:=λs=>by
   unfold wt;split
   ·omega
   ·exact ck (kh (by decide) (show 15-ae ls s<=14 by omega)) (by decide)
  rw[hs];match lf:aJ cs cs.length with
  | []=>simp
  | [x]=>simp;have:=hw x;omega
  | x::y::t=>rw[lf]at h2;simp at h2
theorem RT:(pQ 288).length=288:=by simp[pQ]
theorem RO:∀x∈pQ 288,x<=15:=λx hx=>by
 simp only[pQ,jo]at hx;obtain⟨i,_,rfl⟩:=hx;unfold qX;split
 ·omega
 ·split
  ·omega
  ·split<;>omega
theorem qpk:weight (pQ 288)=32768:=by decide +kernel
theorem Xm:weight (List.replicate 30 5)=30720:=by decide +kernel
def oB (w:World) (C:Nat) (a al:OA) (bl cap ll:Nat) (v2 v3:Value) (told:Bool):Prop:=w.heap[C]?=some (.cells #[.slice a bl cap,.slice al ll ll,v2,v3,.bool told] 197 (0,0))
theorem oB.set {w:World} {C:Nat} {a al:OA} {bl cap ll:Nat} {v2 v3:Value} {told:Bool} (h:oB w C a al bl cap ll v2 v3 told) (x y:Value) :
  oB ((w.setCell ⟨C,2,none⟩ x).setCell ⟨C,3,none⟩ y) C a al bl cap ll x y told:=(bI (o:=3) (bI (o:=2) h x) y)
theorem oB.fr {w w':World} {C:Nat} {S:LN} {a al:OA} {bl cap ll:Nat} {v2 v3:Value} {told:Bool} (h:oB w C a al bl cap ll v2 v3 told) (f:Fr S w w') (hC:C∉S):oB w' C a al bl cap ll v2 v3 told:=f.af h hC
theorem za8 {b:LB} {r:Nat}:∀{l:List Mt} {e:Nat},dC b r e l->l.length<=b.length+1
 | [],_,_=>ep _
 | l,e,h=>by
  have key:∀(l:List Mt) (e:Nat),dC b r e l->e<=b.length->e+l.length<=b.length:=by
   intro l;induction l with
   | nil=>intro e _ he;simpa using he
   | cons x t ih=>intro e h he;obtain⟨a,n,d⟩:=x;obtain⟨k1,k2,k3,k4,k5,k6,k7,_,k9⟩:=h;have:=ih (a+n) k9 k7;simp only[bU];omega
  have key2:∀(l:List Mt) (e:Nat),dC b r e l->l≠[]->e+l.length<=b.length:=by
   intro l e h cQ;cases l with
   | nil=>exact absurd rfl cQ
   | cons x t=>obtain⟨a,n,d⟩:=x;obtain⟨k1,k2,k3,k4,k5,k6,k7,_,k9⟩:=h;have:=key t (a+n) k9 k7;simp only[bU];omega
  by_cases cQ:l=[]
  ·rw[cQ];exact ep _
  ·have:=key2 l e h cQ;omega
theorem oB.tell {w:World} {C:Nat} {a al:OA} {bl cap ll:Nat} {v2 v3:Value} {told:Bool} (h:oB w C a al bl cap ll v2 v3 told) :
  oB (w.setCell ⟨C,4,none⟩ (.bool true)) C a al bl cap ll v2 v3 true:=bI (o:=4) h (.bool true)
theorem oB.cells {w:World} {C:Nat} {a al:OA} {bl cap ll:Nat} {v2 v3:Value} {told:Bool} (h:oB w C a al bl cap ll v2 v3 told) :
  w.cell? ⟨C,0,none⟩=some (.slice a bl cap)/\w.cell? ⟨C,1,none⟩=some (.slice al ll ll)/\w.cell? ⟨C,2,none⟩=some v2/\w.cell? ⟨C,3,none⟩=some v3/\w.cell? ⟨C,4,none⟩=some (.bool told):=
 ⟨cell_of h 0,cell_of h 1,cell_of h 2,cell_of h 3,cell_of h 4⟩
theorem zh1 {w:World} {Q N:Nat} {F:Nat->Nat} (h:Ow w Q N F) (hN:N<=400):Ri w (some ⟨Q,0,none⟩) N ((List.range N).map F):=
 ⟨h.cs,by simp,by unfold maxLen;omega,λh=>by cases h⟩
theorem oB.lit {w:World} {C:Nat} {a al:OA} {bl cap ll:Nat} {v2 v3:Value} {told:Bool} (h:oB w C a al bl cap ll v2 v3 told) (x:Value) :
  oB (w.setCell ⟨C,2,none⟩ x) C a al bl cap ll x v3 told:=bI (o:=2) h x
theorem oB.jW {w:World} {C:Nat} {a al:OA} {bl cap ll:Nat} {v2 v3:Value} {told:Bool} (h:oB w C a al bl cap ll v2 v3 told) (x:Value) :
  oB (w.setCell ⟨C,3,none⟩ x) C a al bl cap ll v2 x told:=bI (o:=3) h x
theorem qn0 {S:LN} {w w':World} (h:Fr S w w') (hS:∀x∈S,w.heap.size<=x):Fr [] w w':=h.mono λx hx=>.inr (hS x hx)
theorem qli (b:LB) (a al:OA) (cap BL LL m1 m2:Nat) (l:List Mt) (a1 a2:OA) (c1 c2:Nat) (ll dl:LN) (told:Bool) (w:World) (e1:BL=b.length) (e2:LL=l.length) (e3:m1=ll.length) (e4:m2=dl.length)
  (hb:lib.Rd w a cap b) (hl:Cs w al (bS l)) (rG:al=none->LL=0) (nT:LL<=maxLen) (dt:dC b 32768 0 l) (iA:b.length<=1000000)
  (h1:Ri w a1 c1 ll) (h2:Ri w a2 c2 dl) (n1:286<=ll.length) (IP:ll.length<=400) (n2:30<=dl.length) (Dl:dl.length<=400) (nt:told=true->ll.length=286/\dl.length=30)
  (je:∀x∈ll,x<=15) (jd:∀x∈dl,x<=15) (cP:weight ll<=32768) (bL:weight dl<=32768)
  (fH:∀x∈af a,x<w.heap.size) (oN:∀x∈af al,x<w.heap.size) :
  Calls Tryz.prog 128 #[.slice (some ⟨w.heap.size,0,none⟩) 1 1] (w.alloc (.cells #[.iface 197 (.agg #[.slice a BL cap,.slice al LL LL,.slice a1 m1 c1,.slice a2 m2 c2,.bool told])] 247 (0,0)))
   λe w'=>∃bb,fh ll dl (bE b 0 l) true told bb/\bb.length<=100000000/\aB w (bytesOf bb) e w':=by
 subst e1;subst e2;subst e3;subst e4;have f:Fr [] w (w.alloc (.cells #[.iface 197 (.agg #[.slice a b.length cap,.slice al l.length l.length,.slice a1 ll.length c1,.slice a2 dl.length c2,.bool told])] 247 (0,0))):=(Fr.refl [] w).alloc _;refine (qpn w.heap.size b a al cap l.length 32768 l a1 a2 c1 c2 ll dl told _ (bC w _) (hb.fr f) (hl.fr f (by simp)) (ay _) rG nT dt (ay _) iA (h1.fr f) (h2.fr f) n1 IP n2 Dl nt je jd cP bL
  (λx hx=>eW (fH x hx) f.size) (λx hx=>eW (oN x hx) f.size)).mono ?_
 rintro e w' ⟨bb,h3,h4,a',h5,h6,h7,h8⟩;exact⟨bb,h3,h4,a',h5,h6,λx hx=>⟨ck f.size (h7 x hx).1,(h7 x hx).2⟩,f.trans h8⟩
theorem zct (a:OA) (cap:Nat) (b:LB) (level:Int) (w:World) (h:lib.Rd w a cap b) (hlen:b.length<=100000) (hl:1<=level) (fH:∀x∈af a,x<w.heap.size) :
  Calls Tryz.prog 103 #[.slice a b.length cap,.int .i64 level] w λe w'=>∃r,ua b level r/\aB w r e w':=by
 have BX:=qtr b a cap 32768 w h hlen;obtain⟨l,GD⟩:∃l,l=Ah b 32768:=⟨_,rfl⟩;have dt:dC b 32768 0 l:=by rw[GD];have:=S4 b 32768;simpa using this
 obtain⟨LL,oQ⟩:=ai l.length;obtain⟨BL,j9⟩:=ai b.length;unfold rf at BX;rw[<-GD,<-oQ,<-j9]at BX;have hLB:LL<=9223372036854775807->True:=λ_=>trivial
 have d0:decide (level<=0)=false:=by simp;omega
 have H:=dk h hlen fH dt GD oQ j9;have HM:=ah BX;rw[<-j9]at hlen ⊢;clear h fH dt GD oQ j9 BX hLB;go_enter Tryz.func103,Tryz.ntmps103;go_upto_region 4 with (go_at_call 126;refine HM.out.mono ?_;rintro e w1 ⟨al,rfl,cs1,no1,lw1,f1⟩;have H1:=aG cs1 no1 lw1 f1;clear cs1 no1 lw1 f1);obtain⟨C,hC⟩:=ai w1.heap.size;obtain⟨w2,bL⟩:=ai (w1.alloc (.cells #[.slice a BL cap,.slice al LL LL,.slice none 0 0,.slice none 0 0,.bool false] 197 (0,0)));have bx2:oB w2 C a al BL cap LL (.slice none 0 0) (.slice none 0 0) false:=by unfold oB;rw[bL,hC];exact bC w1 _
 have f12:Fr [] w1 w2:=by rw[bL];exact (Fr.refl [] w1).alloc _
 rw[<-bL,<-hC];have H2:=aG bx2 f12 hC bL;clear bx2 f12 hC bL;have nA:=qxh w2;unfold rq at nA;have HAL:=ah nA;clear nA;go_upto_region 4 with fail;have mkf:∀w3,Fr [] w2 w3->w3.cell? ⟨C,2,none⟩=some (.slice none 0 0)/\w3.cell? ⟨C,3,none⟩=some (.slice none 0 0)/\w3.frozen? ⟨C,2,none⟩=false/\w3.frozen? ⟨C,3,none⟩=false:=λw3 f=>by have b3:=H2.o0.fr f (by simp);unfold oB at b3;exact⟨cell_of b3 2,cell_of b3 3,aW b3 2,aW b3 3⟩
 have HMK:=ah mkf;clear mkf;go_upto_region 5 with (go_at_call 127;refine HAL.out.mono ?_;rintro e w3 ⟨a1,c1,a2,c2,rfl,XO,md2⟩;obtain⟨x2,x3,z2,z3⟩:=HMK.out w3 XO.fr;have H3:=ak XO md2;clear XO md2);clear x2 x3 z2 z3;obtain⟨w4,gw⟩:=ai ((w3.setCell ⟨C,2,none⟩ (.slice a1 288 c1)).setCell ⟨C,3,none⟩ (.slice a2 30 c2));have Kg:oB w4 C a al BL cap LL (.slice a1 288 c1) (.slice a2 30 c2) false:=by rw[gw];exact (H2.o0.fr H3.o0.fr (by simp)).set _ _
 have f34:Fr [C] w3 w4:=by rw[gw];exact ((Fr.refl [C] w3).setCell (by simp) _).setCell (by simp) _
 rw[<-gw];have hCw:w.heap.size<=C:=by rw[H2.o2];exact H1.l3.size
 have uB:C<w2.heap.size:=by have:=H2.o0;unfold oB at this;exact lt_of_block this
 have f13:Fr [] w1 w3:=H2.o1.trans H3.o0.fr;have f14:Fr [C] w1 w4:=(f13.mono (by simp)).trans f34;have J4:Fr [C] w w4:=(H1.l3.mono (by simp)).trans f14;have mK:lib.Rd w4 a cap b:=H.o0.gJ J4 λx hx hm=>by have:=H.o2 x hx;simp at hm;omega
 have cs4:Cs w4 al (bS l):=H1.o0.fr f14 λx hx hm=>by have:=H1.o2 x hx;have:=H2.o2;simp at hm;omega
 have DN:Ri w4 a1 c1 (pQ 288):=by
  refine CZ (R3 H3.o0 (by rw[RT])) f34 λx hx hm=>?_
  have:=H3.o0.new x hx;simp at hm;omega
 have Fv:Ri w4 a2 c2 (List.replicate 30 5):=by
  refine CZ (R3 H3.l1 (by simp)) f34 λx hx hm=>?_
  have:=H3.l1.new x hx;simp at hm;omega
 have H3b:w3.heap.size<=w4.heap.size:=f34.size;have hmx:LL<=maxLen:=by rw[H.o5];have:=za8 H.o3;have:=H.o1;unfold maxLen;omega
 have pb:=qli b a al cap BL LL 288 30 l a1 a2 c1 c2 (pQ 288) (List.replicate 30 5) false w4 H.l6 H.o5 RT.symm (by simp) mK cs4 H1.o1 hmx H.o3 (by have:=H.o1;omega) DN Fv (by rw[RT];decide) (by rw[RT];decide) (by simp) (by simp) (λh=>by cases h) RO (by intro x hx;rw[(KY.1 hx).2];decide) (by rw[qpk];exact ay _) (by rw[Xm];decide)
  (λx hx=>eW (H.o2 x hx) J4.size) (λx hx=>eW (H1.o2 x hx) f14.size)
 have Yd:bE b 0 l=cB b:=by rw[H.o4];rfl
 rw[Yd]at pb;have e0:=cell_of Kg 0;have e1:=cell_of Kg 1;have e2:=cell_of Kg 2;have e3:=cell_of Kg 3;have e4:=cell_of Kg 4;simp only[bF,aT,bP]at e0 e1 e2 e3 e4;have H4:=lv pb Kg f14 J4 mK cs4 hmx Yd;have HC:=ak hCw uB;clear pb Kg f14 J4 mK cs4 hmx Yd DN Fv H3b f13 f34 gw hCw uB;unfold aB at H4;go_upto_region 6 with (go_at_call 128;refine H4.o0.mono ?_;rintro e w6 ⟨bf,hbf,bQ,o6,rfl,r6,n6,f6⟩;have H6:=aQ hbf bQ r6 n6 f6;clear hbf bQ r6 n6 f6);clear e0 e1 e2 e3 e4;obtain⟨x6,Tm⟩:=ai ((bytesOf bf).length);rw[<-Tm];have UH:=ah Tm;have hxb:x6<=20000000:=by rw[Tm,bytesOf_length];have:=H6.o1;omega
 clear Tm;by_cases hH:level=1
 ·subst hH;go_wp2;go_ret;refine⟨bytesOf bf,⟨bf,H6.o0,λ_=>rfl,λh=>absurd h (by decide)⟩,o6,by rw[UH.out];rfl,H6.o2,λx hx=>⟨ck H4.o3.size (H6.o3 x hx).1,(H6.o3 x hx).2⟩,?_⟩;exact qn0 (H4.o3.step H6.l4 (by simp)) (λx hx=>by simp at hx;rw[hx];exact HC.o0)
 ·have q1:(level==1)=false:=by simp only[beq_eq_false_iff_ne];exact hH
  have f6:Fr [C] w w6:=H4.o3.step H6.l4 (by simp);have uI:lib.Rd w6 a cap b:=H.o0.gJ f6 λx hx hm=>by have:=H.o2 x hx;have:=HC.o0;simp at hm;omega
  have fY:=qrh a cap b w6 uI (by have:=H.o1;omega);rw[<-H.l6]at fY;have HP:=aw fY f6 uI;clear fY f6 uI;unfold aB at HP;go_upto_region 9 with (go_at_call 125;refine HP.o0.mono ?_;rintro e w8 ⟨o8,rfl,r8,n8,f8⟩;have H8:=aw r8 n8 f8;clear r8 n8 f8);obtain⟨x8,Gi⟩:=ai ((aR b).length);rw[<-Gi];have HX8:=ah Gi;clear Gi;go_upto_if 38 with fail;go_cut [6] from 38 to 40 (λs6 wc=>wc=w8/\∃(o:OA) (n:Nat) (r:LB),s6 = .slice o n n/\n=r.length/\lib.Rd w8 o n r/\(∀x∈af o,w4.heap.size<=x/\x<w8.heap.size)/\(r=bytesOf bf\/r=aR b)/\n<=x6/\n<=x8)
  case first=>
   by_cases bg:x8<x6
   ·have q2:decide ((x8:Int)<(x6:Int))=true:=by simpa using bg
    go_wp2;go_meet;case rel=>exact⟨rfl,o8,x8,aR b,rfl,HX8.out,by rw[HX8.out];exact H8.o0,λx hx=>⟨ck H6.l4.size (H8.o1 x hx).1,(H8.o1 x hx).2⟩,.inr rfl,by omega,ay _⟩
   ·have q2:decide ((x8:Int)<(x6:Int))=false:=by simpa using bg
    go_wp2;go_meet;case rel=>exact⟨rfl,o6,x6,bytesOf bf,rfl,UH.out,by rw[UH.out];exact H6.o2.fr H8.l2,λx hx=>⟨(H6.o3 x hx).1,eW (H6.o3 x hx).2 H8.l2.size⟩,.inl rfl,ay _,by omega⟩
  case rest=>
   obtain⟨rfl,o,n,r,rfl,hn,DP,zn,hr,Jl,yx⟩:=hcut;have HO:=cJ hn DP zn hr Jl yx;clear hn DP zn hr Jl yx;have f8:Fr [C] w wc:=HP.o1.step H8.l2 (by simp);have UD:oB wc C a al BL cap LL (.slice a1 288 c1) (.slice a2 30 c2) false:=(H4.o1.fr (H6.l4.trans H8.l2) (by simp));have z4:wc.frozen? ⟨C,4,none⟩=false:=aW UD 4;have x4:wc.cell? ⟨C,4,none⟩=some (.bool false):=cell_of UD 4;have H9:=ak f8 UD;clear f8 UD;go_upto_region 12 with fail;obtain⟨uG,Er⟩:=ai (wc.setCell ⟨C,4,none⟩ (.bool true));have f11:Fr [C] wc uG:=by rw[Er];exact (Fr.refl [C] wc).setCell (by simp) _
   have Ki:oB uG C a al BL cap LL (.slice a1 288 c1) (.slice a2 30 c2) true:=by rw[Er];exact H9.l1.tell
   rw[<-Er];clear z4 x4 Er;obtain⟨e0,e1,e2,e3,e4⟩:=Ki.cells;have vG:Fr [C] w4 uG:=((H6.l4.trans H8.l2).mono (by simp)).trans f11;have Ff:Fr [C] w uG:=H4.o3.trans vG;have Ht:lib.Rd uG a cap b:=H.o0.gJ Ff λx hx hm=>by have:=H.o2 x hx;have:=HC.o0;simp at hm;omega
   have Kc:Cs uG al (bS l):=H1.o0.fr (H4.o2.trans vG) λx hx hm=>by have:=H1.o2 x hx;have:=H2.o2;simp at hm;omega
   have kQ:=qxa b a al cap LL 32768 l (.slice a1 288 c1) (.slice a2 30 c2) true uG rfl rfl Ht Kc (by rw[H.o5];exact ay _) H1.o1 H4.o6 H.o3 (ay _) (by have:=H.o1;omega)
    (λx hx=>eW (H.o2 x hx) Ff.size) (λx hx=>eW (H1.o2 x hx) (H4.o2.trans vG).size)
   rw[H4.l7,<-H.o5,<-H.l6]at kQ;have wF:=dk kQ Ki vG Ff Ht Kc f11;clear kQ Ki vG Ff Ht Kc f11;unfold rj xM at wF;go_upto_region 13 with (go_at_call 129;refine wF.o0.mono ?_;rintro e gh ⟨Q1,Q2,rfl,o1,o2,f12,n1,n2⟩;have kY:=aQ o1 o2 f12 n1 n2;clear o1 o2 f12 n1 n2);clear e0 e1 e2 e3 e4;have hmT:(cB b).length<=b.length:=by have:=Nt b 0 l;rw[H4.l7]at this;omega
   have lf:∀(cs:LN) (n:Nat),n<=400->(aJ cs n).length<=2^15:=λcs n hn=>by
    have h2:(aJ cs n).length<=n:=by have:=FY (λs=>decide (0<ae cs s)) (List.range n);rw[Da]at this;exact this
    omega
   have JM:∀x:Nat,x<=100002->x<=2^30:=λx hx=>ck hx (by decide)
   have hA:∀x∈j5 b,x<=2^30:=λx hx=>by simp only[j5,jo]at hx;obtain⟨s,_,rfl⟩:=hx;refine JM _ ?_;have:=Nd (cB b) s;have:=H.o1;have:=H.l6;unfold nX;split<;>split<;>omega
   have hB:∀x∈jh b,x<=2^30:=λx hx=>by simp only[jh,jo]at hx;obtain⟨s,_,rfl⟩:=hx;refine JM _ ?_;have:=zaq (cB b) s;have:=H.o1;have:=H.l6;omega
   have l1:(j5 b).length=286:=by simp[j5]
   have l2:(jh b).length=30:=by simp[jh]
   have QE:C<w4.heap.size:=by have:=H4.o1;unfold oB at this;exact lt_of_block this
   have Y8:=NM (some ⟨Q1,0,none⟩) 286 (j5 b) 15 gh (zh1 kY.o0 (by decide)) (by decide) (by decide) (by rw[l1];decide) hA (by rw[l1];exact lf _ _ (by decide));have yC:=λjn (f:Fr [C] gh jn)=>NM (some ⟨Q2,0,none⟩) 30 (jh b) 15 jn (CZ (zh1 kY.o1 (by decide)) f (λx hx hm=>by have:=kY.l4;have:=HC.l1;have:=H9.o0.size;have:=wF.o2.size;have:=H2.o2;have:=QE;simp[af]at hx hm;omega)) (by decide) (by decide) (by rw[l2];decide) hB (by rw[l2];exact lf _ _ (by decide))
   rw[l1]at Y8;rw[l2]at yC;have Ob:∀jn,Fr [] gh jn->jn.cell? ⟨C,2,none⟩=some (.slice a1 288 c1)/\jn.frozen? ⟨C,2,none⟩=false:=λjn f=>by have b3:=wF.o1.fr (kY.o2.trans f) (by simp);exact⟨b3.cells.2.2.1,aW b3 2⟩
   have HG:=cJ Y8 Ob l1 l2 yC QE;clear Y8 yC QE hA hB lf hmT JM Ob l1 l2;unfold iB at HG;go_upto_region 14 with (go_at_call 130;refine HG.out.1.mono ?_;rintro e jn ⟨g1,ll,rfl,ok1,cl1,n1,lt1,f13⟩;obtain⟨x2,z2⟩:=HG.out.2.1 jn f13;have pC:=aQ ok1 cl1 n1 lt1 f13;clear ok1 cl1 n1 lt1 f13);clear x2 z2;obtain⟨xV,Ep⟩:=ai (jn.setCell ⟨C,2,none⟩ (.slice (some ⟨g1,0,none⟩) 286 286));have f14:Fr [C] jn xV:=by rw[Ep];exact (Fr.refl [C] jn).setCell (by simp) _
   have Kh:oB xV C a al BL cap LL (.slice (some ⟨g1,0,none⟩) 286 286) (.slice a2 30 c2) true:=by rw[Ep];exact (wF.o1.fr (kY.o2.trans pC.l4) (by simp)).lit _
   rw[<-Ep];clear Ep;have yC:=HG.out.2.2.2.2.1 xV ((pC.l4.mono (by simp)).trans f14);have mk3:∀nL,Fr [] xV nL->nL.cell? ⟨C,3,none⟩=some (.slice a2 30 c2)/\nL.frozen? ⟨C,3,none⟩=false:=λnL f=>by have b3:=Kh.fr f (by simp);exact⟨b3.cells.2.2.2.1,aW b3 3⟩
   have CV:=aG yC mk3 Kh f14;clear yC mk3 Kh f14;unfold iB at CV;go_upto_region 15 with (go_at_call 130;refine CV.out.1.mono ?_;rintro e nL ⟨g2,dl,rfl,ok2,Mw,n2,Oc,f15⟩;obtain⟨x3,z3⟩:=CV.out.2.1 nL f15;have wE:=aQ ok2 Mw n2 Oc f15;clear ok2 Mw n2 Oc f15);clear x3 z3;obtain⟨ug,Eo⟩:=ai (nL.setCell ⟨C,3,none⟩ (.slice (some ⟨g2,0,none⟩) 30 30));have f16:Fr [C] nL ug:=by rw[Eo];exact (Fr.refl [C] nL).setCell (by simp) _
   have Q7:oB ug C a al BL cap LL (.slice (some ⟨g1,0,none⟩) 286 286) (.slice (some ⟨g2,0,none⟩) 30 30) true:=by rw[Eo];exact (CV.out.2.2.1.fr wE.l4 (by simp)).jW _
   rw[<-Eo];clear Eo;have tW:Fr [C] uG ug:=((((kY.o2.trans pC.l4).mono (by simp)).trans CV.out.2.2.2).trans (wE.l4.mono (by simp))).trans f16;have Fe:Fr [C] w ug:=wF.o3.trans tW;have MV:lib.Rd ug a cap b:=H.o0.gJ Fe λx hx hm=>by have:=H.o2 x hx;have:=HC.o0;simp at hm;omega
   have Cx:Fr [C] w1 ug:=(H4.o2.trans wF.o2).trans tW;have QZ:Cs ug al (bS l):=H1.o0.fr Cx λx hx hm=>by have:=H1.o2 x hx;have:=H2.o2;simp at hm;omega
   have Oh:ll.length=286:=by rw[pC.o0.len];exact HG.out.2.2.1
   have Og:dl.length=30:=by rw[wE.o0.len];exact HG.out.2.2.2.1
   have QD:C≠g1:=by have:=pC.o2;have:=kY.o2.size;have:=wF.o2.size;have:=HG.out.2.2.2.2.2;omega
   have QC:C≠g2:=by have:=wE.o2;have:=CV.out.2.2.2.size;have:=pC.l4.size;have:=kY.o2.size;have:=wF.o2.size;have:=HG.out.2.2.2.2.2;omega
   have DN:Ri ug (some ⟨g1,0,none⟩) 286 ll:=⟨pC.o1.fr (CV.out.2.2.2.trans ((wE.l4.mono (by simp)).trans f16)) (by simp[af];exact λh=>QD h.symm),by omega,by unfold maxLen;omega,λh=>by cases h⟩;have Fv:Ri ug (some ⟨g2,0,none⟩) 30 dl:=⟨wE.o1.fr f16 (by simp[af];exact λh=>QC h.symm),by omega,by unfold maxLen;omega,λh=>by cases h⟩;have pb:=qli b a al cap BL LL 286 30 l (some ⟨g1,0,none⟩) (some ⟨g2,0,none⟩) 286 30 ll dl true ug H.l6 H.o5 Oh.symm Og.symm MV QZ H1.o1 H4.o6 H.o3 (by have:=H.o1;omega) DN Fv (by rw[Oh];decide) (by rw[Oh];decide) (by rw[Og];decide) (by rw[Og];decide) (λ_=>⟨Oh,Og⟩) pC.o0.le wE.o0.le (Xn pC.o0) (Xn wE.o0)
    (λx hx=>eW (H.o2 x hx) Fe.size) (λx hx=>eW (H1.o2 x hx) Cx.size)
   rw[H4.l7]at pb;have yX:=aw pb Fe tW;obtain⟨e0,e1,e2,e3,e4⟩:=Q7.cells;clear pb Q7 f16 tW Fe MV QZ Cx Oh Og QD QC DN Fv;unfold aB at yX;go_upto_region 16 with (go_at_call 128;refine yX.o0.mono ?_;rintro e KH ⟨bd,Qg,bQ,LC,rfl,r17,n17,f17⟩;have AP:=aQ Qg bQ r17 n17 f17;clear Qg bQ r17 n17 f17);clear e0 e1 e2 e3 e4;obtain⟨UX,I3⟩:=ai ((bytesOf bd).length);rw[<-I3];have Kr:=ah I3;clear I3;have fin:Fr [] w KH:=qn0 (yX.o1.step AP.l4 (by simp)) (λx hx=>by simp at hx;rw[hx];exact HC.o0);have hdy:Fp b bd:=⟨ll,dl,pC.o0,wE.o0,AP.o0⟩;have HF:=ak fin hdy;clear fin hdy;have res:∀(r':LB),(r'=bytesOf bf\/r'=aR b\/∃bd,Fp b bd/\r'=bytesOf bd)->r'.length<=x6->r'.length<=x8->ua b level r':=λr' h1 h2 h3=>⟨bf,H6.o0,λh=>absurd h hH,λ_=>⟨h1,by rw[<-UH.out];exact h2,by rw[<-HX8.out];exact h3⟩⟩
   have HR:=ah res;clear res;by_cases bg:UX<n
   ·have q3:decide ((UX:Int)<(n:Int))=true:=by simpa using bg
    go_wp2;go_ret;refine⟨bytesOf bd,HR.out _ (.inr (.inr ⟨bd,HF.l1,rfl⟩)) ?_ ?_,LC,by rw[Kr.out];rfl,AP.o2,λx hx=>⟨ck yX.o1.size (AP.o3 x hx).1,(AP.o3 x hx).2⟩,HF.o0⟩
    ·rw[<-Kr.out];have:=HO.out.2.2.2.2.1;omega
    ·rw[<-Kr.out];have:=HO.out.2.2.2.2.2;omega
   ·have q3:decide ((UX:Int)<(n:Int))=false:=by simpa using bg
    go_wp2;go_ret;have fo:Fr [C] wc KH:=(wF.l6.trans yX.l2).step AP.l4 (by simp);obtain⟨hn,DP,zn,hr,Jl,yx⟩:=HO.out;subst hn;exact⟨r,HR.out r (hr.elim .inl λh=>.inr (.inl h)) Jl yx,o,rfl,DP.gJ fo (λx hx hm=>by have:=(zn x hx).1;have:=HG.out.2.2.2.2.2;simp at hm;omega),λx hx=>⟨ck H4.o3.size (zn x hx).1,eW (zn x hx).2 fo.size⟩,HF.o0⟩
end defl
namespace trip
open Go lib bm bl huf inf defl mat
def At (bs:LB) (a:Nat) (l:List Bool):Prop:=∃p r,au bs=p++(l++r)/\p.length=a
theorem At.left {bs:LB} {a:Nat} {x y:List Bool} (h:At bs a (x++y)):At bs a x:=by obtain⟨p,r,h1,h2⟩:=h;exact⟨p,y++r,by rw[h1,eE],h2⟩
theorem At.right {bs:LB} {a:Nat} {x y:List Bool} (h:At bs a (x++y)):At bs (a+x.length) y:=by obtain⟨p,r,h1,h2⟩:=h;exact⟨p++x,r,by rw[h1];simp,by rw[aA,h2]⟩
theorem At.drop {bs:LB} {a:Nat} {l:List Bool} (h:At bs a l):∃r,(au bs).drop a=l++r:=by obtain⟨p,r,h1,h2⟩:=h;exact⟨r,by rw[h1,<-h2,KE]⟩
theorem At.le {bs:LB} {a:Nat} {l:List Bool} (h:At bs a l):a+l.length<=8*bs.length:=by obtain⟨p,r,h1,h2⟩:=h;have:=congrArg List.length h1;rw[uo,aA,aA]at this;omega
theorem At.of {bs:LB} {l r:List Bool} (h:au bs=l++r):At bs 0 l:=⟨[],r,by rw[h];rfl,rfl⟩
theorem zg {bs:LB} {a n v:Nat} (h:At bs a (dM n v)) (hv:v<2^n):aY bs a n = .ok (v,a+n):=by
 have hl:=h.le;rw[ax]at hl;obtain⟨r,hr⟩:=h.drop;unfold aY;have e:(dM n v++r).take n=dM n v:=by rw[IG (by rw[ax];exact ay _),mL (by rw[ax];exact ay _)]
 rw[if_pos hl,hr,e,Sb,x9 hv]
theorem bK (ls:LN) (s:Nat):(cq ls s).length=ae ls s:=by unfold cq;rw[FQ]
theorem M8 {bs:LB} {a s:Nat} {ls:LN} (h:At bs a (cq ls s)) (hle:∀l∈ls,l<=15) (hw:weight ls<=32768) (h0:0<ae ls s):lD bs ls a = .ok (s,a+ae ls s):=by
 obtain⟨r,hr⟩:=h.drop;have e:cq ls s=msb (ae ls s) (code ls s):=by unfold cq cN;rw[if_neg (by omega)]
 rw[e]at hr;have:=qyn ls s hle hw h0 r;unfold huf.read at this;unfold lD;rw[hr,this];rfl
theorem zh6 {bs:LB} {a n:Nat} (h3:3<=n) (iJ:n<=258) (h:At bs a (dM (bJ n).2.2 (bJ n).2.1)):cL bs (bJ n).1 a = .ok (n,a+(bJ n).2.2):=by
 by_cases uD:n<11
 ·have e:bJ n=(n+254,0,0):=by unfold bJ;rw[if_pos uD]
  rw[e];unfold cL;dsimp only;rw[if_pos (by omega),Ir];rfl
 ·by_cases h8:n=258
  ·subst h8;have e:bJ 258=(285,0,0):=rfl;rw[e];rfl
  ·obtain⟨w,w1,w5,k1,k2⟩:=qrv (n:=n) (by omega) (by omega);have e:=VT (by omega) h8 k1 k2;rw[e]at h ⊢;have hp:=nQ w;obtain⟨q,hq⟩:=ai ((n-3)/2^w);have q4:4<=q:=by rw[hq,Nat.le_div_iff_mul_le hp];exact k1
   have q8:q<8:=by rw[hq,Dg hp];exact k2
   have hd:=KO (n-3) (2^w);rw[<-hq]at hd ⊢;unfold cL;dsimp only at h ⊢;rw[if_neg (by omega),if_neg (by omega),show (257+4*w+q-261)/4=w from by omega,zg h (wH _ hp)];dsimp only;rw[show (257+4*w+q-265)%4=q-4 from by omega,show 4+(q-4)=q from by omega,mf q];rw[oW,hd,show 3+(n-3)=n from by omega]
theorem zg8 {bs:LB} {a n:Nat} (h1:1<=n) (hn:n<=32768) (h:At bs a (dM (cF n).2.2 (cF n).2.1)):gu bs (cF n).1 a = .ok (n,a+(cF n).2.2):=by
 by_cases h5:n<5
 ·have e:cF n=(n-1,0,0):=by unfold cF;rw[if_pos h5]
  rw[e];unfold gu;dsimp only;rw[if_pos (by omega),show n-1+1=n from by omega];rfl
 ·obtain⟨w,w1,w5,k1,k2⟩:=qsb (n:=n) (by omega) (by omega);have e:=VN (by omega) k1 k2;rw[e]at h ⊢;have hp:=nQ w;obtain⟨q,hq⟩:=ai ((n-1)/2^w);have q4:2<=q:=by rw[hq,Nat.le_div_iff_mul_le hp];exact k1
  have q8:q<4:=by rw[hq,Dg hp];exact k2
  have hd:=KO (n-1) (2^w);rw[<-hq]at hd ⊢;unfold gu;dsimp only at h ⊢;rw[if_neg (by omega),show (2*w+q-2)/2=w from by omega,zg h (wH _ hp)];dsimp only;rw[show 2+(2*w+q)%2=q from by omega,mf q];rw[oW,hd,show 1+(n-1)=n from by omega]
theorem qx2 {b:LB} {i:Nat} (h:i<b.length):b.take i++[b[i]]=b.take (i+1):=by rw[zj,br h];rfl
theorem ze3 {b:LB} {i m:Nat} (h:i<b.length) (hm:b.length<=m):jA m (b.take i) b[i] = .ok (b.take (i+1)):=by unfold jA;rw[if_neg (by rw[dU];omega),qx2 h]
theorem zax {b:LB} {i d m:Nat} (hd:1<=d) (zJ:d<=i) (hm:b.length<=m):∀(n k:Nat),i+k+n<=b.length->(∀j,j<k+n->b[i+j]?=b[i+j-d]?)->
  j7 m d n (b.take (i+k)) = .ok (b.take (i+k+n))
 | 0,k,_,_=>rfl
 | n+1,k,hl,h=>by
  have hlen:(b.take (i+k)).length=i+k:=by rw[dU];omega
  have hb:(b.take (i+k))[i+k-d]?=b[i+k-d]?:=by rw[List.getElem?_take_of_lt (by omega)]
  have hk:i+k<b.length:=by omega
  have h1:=h k (by omega);rw[j7,hlen,hb,<-h1,br hk,Bi,ze3 hk hm];dsimp only;have:=zax hd zJ hm n (k+1) (by omega) (λj hj=>h j (by omega));rw[show i+k+(n+1)=i+(k+1)+n from by omega];exact this
theorem zdi {n:Nat} (h3:3<=n) (iJ:n<=258):¬(bJ n).1<256/\¬(bJ n).1=256/\¬286<=(bJ n).1:=by have:=Nw h3 iJ;omega
theorem zfv {bs:LB} {ll dl:LN} {m r:Nat} {b:LB} (hr:r<=32768) (hm:b.length<=m) (je:∀l∈ll,l<=15) (jd:∀l∈dl,l<=15) (cP:weight ll<=32768) (bL:weight dl<=32768) (tU:0<ae ll 256) :
  ∀(k i:Nat) (l:List Mt) (f a:Nat),k=b.length-i->i<=b.length->dC b r i l->(∀x∈bE b i l,0<ae ll (kG x))->(∀x∈bE b i l,∀s,pA x=some s->0<ae dl s)->(bE b i l).length<f->
   At bs a (bG ll dl (bE b i l)++cq ll 256)->cU bs m ll dl f (b.take i) a = .ok (b,a+(bG ll dl (bE b i l)).length+ae ll 256):=by
 intro k;induction k using Nat.strongRecOn with
 | ind k ih=>
  intro i l f a hk rS dt hH jC hf bR;obtain⟨f,rfl⟩:∃g,f=g+1:=⟨f-1,by omega⟩;by_cases h:i<b.length
  ·have lit:∀l,dC b r (i+1) l->bE b i l = .lit b[i]::bE b (i+1) l->(∀x∈bE b i l,0<ae ll (kG x))->(∀x∈bE b i l,∀s,pA x=some s->0<ae dl s)->(bE b i l).length<f+1->
     At bs a (bG ll dl (bE b i l)++cq ll 256)->cU bs m ll dl (f+1) (b.take i) a = .ok (b,a+(bG ll dl (bE b i l)).length+ae ll 256):=by
    intro l dt he hH jC hf bR
    rw[he]at hH jC hf bR ⊢
    have e:bG ll dl (.lit b[i]::bE b (i+1) l)=cq ll b[i].toNat++bG ll dl (bE b (i+1) l):=rfl
    rw[e]at bR ⊢
    rw[eE]at bR
    have hs:=M8 bR.left je cP (hH _ uJ)
    have bg:b[i].toNat<256:=b[i].toNat_lt
    rw[cU,hs]
    dsimp only
    rw[if_pos bg,UInt8.ofNat_toNat,ze3 h hm]
    dsimp only
    have:=ih (b.length-(i+1)) (by omega) (i+1) l f (a+ae ll b[i].toNat) rfl (by omega) dt (λx hx=>hH x (tu _ hx)) (λx hx=>jC x (tu _ hx)) (by simp only[bU]at hf;omega)
     (by have:=bR.right;rwa [bK]at this)
    rw[this,aA,bK]
    congr 2
    omega
   match l,dt with
   | [],dt=>exact lit [] trivial (Ip h (λa n d t he=>by cases he)) hH jC hf bR
   | (q,n,d)::t,dt=>
    by_cases hc:q=i
    ·subst hc
     have jD:=dt
     obtain⟨k1,k2,k3,k4,k5,k6,k7,k8,k9⟩:=jD
     have he:bE b q ((q,n,d)::t) = .mat n d::bE b (q+n) t:=So h (by omega)
     rw[he]at hH jC hf bR ⊢
     have e:bG ll dl (.mat n d::bE b (q+n) t)=cq ll (bJ n).1++(dM (bJ n).2.2 (bJ n).2.1++(cq dl (cF d).1++(dM (cF d).2.2 (cF d).2.1++bG ll dl (bE b (q+n) t)))):=by simp only[bG,vX,gL,eE]
     rw[e]at bR ⊢
     simp only[eE]at bR
     have hs:=M8 bR.left je cP (hH _ uJ)
     have t1:=bR.right
     rw[bK]at t1
     have dE:=zh6 k2 k3 t1.left
     have t2:=t1.right
     rw[ax]at t2
     have jL:=M8 t2.left jd bL (jC _ uJ _ rfl)
     have t3:=t2.right
     rw[bK]at t3
     have wY:=zg8 k4 (by omega) t3.left
     have t4:=t3.right
     rw[ax]at t4
     have zcG:=(Nq k4 (show d<=32768 by omega)).1
     have JF:=zax (b:=b) (i:=q) (d:=d) (m:=m) k4 k6 hm n 0 (by omega) (λj hj=>k8 j (by omega))
     rw[ie]at JF
     have BX:eY bs m dl (bJ n).1 (b.take q) (a+ae ll (bJ n).1) = .ok (b.take (q+n),a+ae ll (bJ n).1+(bJ n).2.2+ae dl (cF d).1+(cF d).2.2):=by
      unfold eY
      rw[dE]
      dsimp only
      rw[jL]
      dsimp only
      rw[if_neg (by omega),wY]
      dsimp only
      rw[if_neg (by rw[dU];omega),JF]
     obtain⟨c1,c2,c3⟩:=zdi k2 k3
     rw[cU,hs]
     dsimp only
     rw[if_neg c1,if_neg c2,if_neg c3,BX]
     dsimp only
     have:=ih (b.length-(q+n)) (by omega) (q+n) t f _ rfl k7 k9 (λx hx=>hH x (tu _ hx)) (λx hx=>jC x (tu _ hx)) (by simp only[bU]at hf;omega) t4
     rw[this]
     simp only[aA,bK,ax]
     congr 2
     omega
    ·exact lit _ (WW dt _ _ _ _ rfl hc) (Ip h (λa2 n2 d2 t2 Ca=>by simp only[KL,fj]at Ca;rw[<-Ca.1.1];exact hc)) hH jC hf bR
  ·have he:bE b i l=[]:=Sn (by omega);rw[he]at bR ⊢;have e:bG ll dl []=[]:=rfl;rw[e,qj]at bR;rw[cU,M8 bR je cP tU];dsimp only;rw[if_neg (by omega),if_pos rfl,e,kg,ie,mL (by omega)]
theorem At.bytes {bs xs:LB} {q:Nat} (h:At bs (8*q) (au xs)):(bs.drop q).take xs.length=xs:=by obtain⟨r,hr⟩:=h.drop;refine qqq ?_;rw[qxd,hr,IG (by rw[uo];exact ay _),mL (by rw[uo];exact ay _)]
theorem qsk {bs xs:LB} {q:Nat} (h:(bs.drop q).take xs.length=xs) (i:Nat) (hi:i<xs.length):bs[q+i]?=xs[i]?:=by rw[<-h,List.getElem?_take_of_lt hi,Ai]
theorem NB {bs:LB} {m:Nat}:∀(xs out:LB) (q:Nat),(∀i,i<xs.length->bs[q+i]?=xs[i]?)->out.length+xs.length<=m->df bs m xs.length out q = .ok (out++xs,8*(q+xs.length))
 | [],out,q,_,_=>by simp[df]
 | x::xs,out,q,h,hm=>by
  have h0:=h 0 (by simp);rw[ie,aT]at h0;have hq:q<bs.length:=by
   rcases kI q bs.length with k|k
   ·exact k
   ·rw[nU k]at h0;cases h0
  simp only[bU]at hm;rw[bU,df,if_pos hq,h0,Bi];unfold jA;rw[if_neg (by omega)];dsimp only;have:=NB (bs:=bs) (m:=m) xs (out++[x]) (q+1) (λi hi=>by
   have:=h (i+1) (by simp only[bU];omega)
   rwa [bP,show q+(i+1)=q+1+i from by omega]at this) (by rw[aA,bU,kg];omega)
  rw[this];simp only[eE,List.singleton_append];congr 2;omega
theorem Sq {bs:LB} {i:Nat} {x:UInt8} (h:bs[i]?=some x):aO bs i=x.toNat:=by unfold aO;rw[h];rfl
theorem qx8 {bs:LB} {m:Nat} {l:List Bool} {last:Bool} {b out:LB} (h:At bs 0 (aU l last b)) (hb:b.length<=65535) (hm:out.length+b.length<=m) :
  fE bs m out (l.length+3) = .ok (out++b,(aU l last b).length)/\aY bs l.length 1 = .ok (if last then 1 else 0,l.length+1)/\aY bs (l.length+1) 2 = .ok (0,l.length+1+2):=by
 have hL:(aU l last b).length=8*((l.length+10)/8+4+b.length):=by rw[Lz];omega
 have hle:=h.le;rw[hL,ft]at hle;have hp:(eX (l++last::dM 2 0)).length=8*((l.length+10)/8):=by rw[Ly];simp only[aA,bU,ax];rw[mf]
 unfold aU at h;have h1:=h.right;rw[aA,hp,uo,ft]at h1;have hs:(qe b.length).length=4:=rfl;rw[hs,show 8*((l.length+10)/8)+8*4=8*((l.length+10)/8+4) from by omega]at h1;have h2:=h.left.right;rw[hp,ft]at h2;have h3:=h.left.left;unfold eX at h3;have h4:=h3.left.right;rw[ft]at h4;have g:=qsk h2.bytes;rw[hs]at g;have g0:=Sq (g 0 (by decide));have g1:=Sq (g 1 (by decide));have g2:=Sq (g 2 (by decide));have g3:=Sq (g 3 (by decide));rw[ie]at g0;rw[zk]at g0 g1 g2 g3;have e:(l.length+3+7)/8=(l.length+10)/8:=rfl;refine⟨?_,?_,?_⟩
 ·unfold fE;rw[e,if_pos (by omega),g0,g1,g2,g3,if_pos (by omega)];have hn:b.length%2^8+256*(b.length/256%2^8)=b.length:=by omega
  rw[hn,NB b out _ (qsk h1.bytes) hm,hL]
 ·have:At bs l.length (dM 1 (if last then 1 else 0)):=by have h5:At bs l.length ([last]++dM 2 0):=h4;have:=h5.left;cases last<;>exact this
  exact zg this (by cases last<;>decide)
 ·have h5:At bs l.length ([last]++dM 2 0):=h4;exact zg h5.right (by decide)
theorem qoi (l:List Bool) (last:Bool) (b:LB):∃r,aU l last b=l++r:=
 ⟨_,by unfold aU eX;rw[eE,eE,eE]⟩
theorem qjw:∀(cs:List (List UInt8)) (l:List Bool),∃r,aN l cs=l++r
 | [],l=>⟨[],by rw[aN,mW]⟩
 | b::t,l=>by obtain⟨r,hr⟩:=qjw t (aU l t.isEmpty b);obtain⟨q,hq⟩:=qoi l t.isEmpty b;exact⟨q++r,by rw[aN,hr,hq,eE]⟩
theorem zfh {bs:LB} {m:Nat}:∀(cs:List (List UInt8)) (l:List Bool) (out:LB) (f:Nat),cs≠[]->At bs 0 (aN l cs)->(∀c∈cs,c.length<=65535)->out.length+cs.flatten.length<=m->cs.length<=f->
  dB bs m f out l.length = .ok (out++cs.flatten,(aN l cs).length)
 | [],_,_,_,h,_,_,_,_=>absurd rfl h
 | b::t,l,out,f,_,bR,hc,hm,hf=>by
  obtain⟨f,rfl⟩:∃g,f=g+1:=⟨f-1,by simp only[bU]at hf;omega⟩;obtain⟨r,hr⟩:=qjw t (aU l t.isEmpty b);rw[aN]at bR ⊢;have h0:=bR;rw[hr]at h0;rw[List.flatten_cons,aA]at hm;obtain⟨k1,k2,k3⟩:=qx8 (m:=m) (out:=out) h0.left (hc b uJ) (by omega);rw[dB,k2];dsimp only;rw[k3];dsimp only;rw[if_neg (by decide)];unfold eZ;rw[if_pos rfl,k1];dsimp only;match t,hc,hm,hf,bR with
  | [],hc,hm,hf,bR=>simp[aN]
  | c::t,hc,hm,hf,bR=>rw[if_pos (show (if (c::t).isEmpty=true then 1 else 0:Nat)=0 by simp)];have:=zfh (bs:=bs) (m:=m) (c::t) (aU l (c::t).isEmpty b) (out++b) f (by simp) bR (λx hx=>hc x (tu _ hx)) (by rw[aA];omega) (by simp only[bU]at hf ⊢;omega);rw[this,List.flatten_cons (l:=b),eE]
theorem chunks_flatten:∀(f:Nat) (b:LB),(chunks f b).flatten=b
 | 0,b=>by simp[chunks]
 | f+1,b=>by
  rw[chunks];split
  ·rw[List.flatten_cons,chunks_flatten f,Df]
  ·simp
theorem qsi:∀(f:Nat) (b:LB),b.length<=f->∀c∈chunks f b,c.length<=65535
 | 0,b,h,c,hc=>by simp[chunks]at hc;subst hc;omega
 | f+1,b,h,c,hc=>by
  rw[chunks]at hc;split at hc
  ·rcases fP.1 hc with e|e
   ·rw[e,dU];omega
   ·exact qsi f _ (by rw[eV];omega) c e
  ·simp at hc;subst hc;omega
theorem za7 (f:Nat) (b:LB):chunks f b≠[]:=by
 cases f with
 | zero=>simp[chunks]
 | succ f=>rw[chunks];split<;>simp
theorem zbr:∀(cs:List (List UInt8)) (l:List Bool),l.length+cs.length<=(aN l cs).length
 | [],l=>by simp[aN]
 | b::t,l=>by rw[aN];have:=zbr t (aU l t.isEmpty b);rw[Lz]at this;simp only[bU];omega
theorem VK (l:List Bool) (ext:LB):At (bytesOf l++ext) 0 l:=by refine At.of (r:=List.replicate (pad l.length) false++au ext) ?_;rw[qlv,qsm];unfold eX;rw[eE]
theorem qow (b ext:LB) (m:Nat) (hm:b.length<=m):kL (aR b++ext) m = .ok (b,(aR b).length):=by
 have bR:=VK (gY b) ext;have hf:(chunks b.length b).length<=fuel (aR b++ext):=by have h1:=zbr (chunks b.length b) [];have h2:=bR.le;unfold gY at h2;unfold aR fuel;unfold gY;simp only[kg]at h1;omega
 have:=zfh (bs:=aR b++ext) (m:=m) (chunks b.length b) [] [] _ (za7 _ _) bR (qsi _ b (ay _)) (by rw[chunks_flatten];simpa using hm) hf;rw[chunks_flatten,qj]at this;unfold kL;rw[kg]at this;rw[this];dsimp only;rw[show (aR b).length=((gY b).length+7)/8 from bytesOf_length _];rfl
theorem qpb {ls:LN} {n:Nat} (h:∀i,n<=i->i<ls.length->ae ls i=0):∀x∈ls.drop n,x=0:=by
 intro x hx;obtain⟨i,hi⟩:=List.getElem?_of_mem hx;rw[Ai]at hi;have hl:n+i<ls.length:=by
  rcases kI (n+i) ls.length with k|k
  ·exact k
  ·rw[nU k]at hi;cases hi
 have:=h (n+i) (by omega) hl;unfold ae at this;rw[hi]at this;exact this
theorem Iz {ls:LN} {n:Nat} (h:∀i,n<=i->i<ls.length->ae ls i=0) (i:Nat):ae (ls.take n) i=ae ls i:=by
 by_cases hi:i<n
 ·unfold ae;rw[List.getElem?_take_of_lt hi]
 ·have e:ae (ls.take n) i=0:=by unfold ae;rw[nU (by rw[dU];omega)];rfl
  rw[e];by_cases hl:i<ls.length
  ·exact (h i (by omega) hl).symm
  ·unfold ae;rw[nU (by omega)];rfl
theorem qt7 {l:LN} (h:∀x∈l,x=0) {c:Nat} (hc:c≠0):l.count c=0:=
 List.count_eq_zero.2 λhm=>hc (h c hm)
theorem qxb {ls:LN} {n:Nat} (h:∀i,n<=i->i<ls.length->ae ls i=0) {c:Nat} (hc:c≠0):(ls.take n).count c=ls.count c:=by
 conv=>rhs;rw[<-Df n ls,FF,qt7 (qpb h) hc]
 rfl
theorem qvb {ls:LN} {n:Nat} (h:∀i,n<=i->i<ls.length->ae ls i=0):∀l,gZ (ls.take n) l=gZ ls l
 | 0=>rfl
 | l+1=>by
  rw[gZ,gZ,qvb h l];by_cases h0:l=0
  ·rw[if_pos h0,if_pos h0]
  ·rw[if_neg h0,if_neg h0,qxb h h0]
theorem Xb {ls:LN} {n:Nat} (h:∀i,n<=i->i<ls.length->ae ls i=0):cq (ls.take n)=cq ls:=by
 funext s;unfold cq;rw[Iz h];by_cases h0:ae ls s=0
 ·rw[h0];unfold cN;rw[Iz h,if_pos h0,if_pos h0]
 ·have hs:s<n:=by
   rcases kI s n with k|k
   ·exact k
   ·exact absurd (h s k (Ag (by omega))) h0
  unfold cN;rw[Iz h,if_neg h0,if_neg h0];unfold code;rw[Iz h,qvb h,Hx,uP (by omega)]
theorem NS:∀a b:List Nat,weight (a++b)=weight a+weight b
 | [],b=>by simp[weight]
 | x::a,b=>by rw[zi,weight,weight,NS a b];omega
theorem qlj:∀{l:LN},(∀x∈l,x=0)->weight l=0
 | [],_=>rfl
 | x::l,h=>by rw[weight,qlj λy hy=>h y (tu _ hy),if_pos (h x uJ)]
theorem SW {ls:LN} {n:Nat} (h:∀i,n<=i->i<ls.length->ae ls i=0):weight (ls.take n)=weight ls:=by
 conv=>rhs;rw[<-Df n ls,NS,qlj (qpb h)]
 rfl
theorem zah:fixed 288=pQ 288:=by decide +kernel
theorem zai:∀s,s<30->cq (List.replicate 32 5) s=cq (List.replicate 30 5) s:=by decide +kernel
theorem zd1:∀s,s<30->0<ae (List.replicate 32 5) s:=by decide +kernel
theorem zbq:∀s,s<286->0<ae (pQ 288) s:=by decide +kernel
theorem J7:weight (List.replicate 32 5)=32768:=by decide +kernel
theorem qup {b:LB} {r:Nat} (hr:r<=32768) {l:List Mt} (dt:dC b r 0 l):∀x∈bE b 0 l,kG x<286/\kG x≠256/\∀s,pA x=some s->s<30:=by
 intro x hx;cases x with
 | lit c=>
  have:c.toNat<256:=c.toNat_lt;exact⟨by show c.toNat<286;omega,by show c.toNat≠256;omega,λs h=>by cases h⟩
 | mat n d=>
  obtain⟨k1,k2,k3,k4⟩:=VF hr (b.length-0) 0 l rfl dt _ hx n d rfl;have h1:=Nw k1 k2;have h2:=Nq k3 k4;refine⟨h1.2.1,by show (bJ n).1≠256;omega,λs h=>?_⟩;have:(cF d).1=s:=by simpa[pA] using h
  omega
theorem qo9 {α β:Type} {f g:α->List β}:∀{l:List α},(∀x∈l,f x=g x)->l.flatMap f=l.flatMap g
 | [],_=>rfl
 | x::l,h=>by rw[vX,vX,h x uJ,qo9 λy hy=>h y (tu _ hy)]
theorem qlk {ll dl ll' dl':LN} {T:List Tok} (h1:∀x∈T,cq ll (kG x)=cq ll' (kG x)) (h2:∀x∈T,∀s,pA x=some s->cq dl s=cq dl' s):bG ll dl T=bG ll' dl' T:=by
 unfold bG;refine qo9 λx hx=>?_
 cases x with
 | lit c=>exact h1 _ hx
 | mat n d=>have k1:=h1 _ hx;have k2:=h2 _ hx _ rfl;simp only[gL];rw[show kG (.mat n d)=(bJ n).1 from rfl]at k1;rw[k1,k2]
theorem qll {ll dl:LN}:∀{T:List Tok},(∀x∈T,0<ae ll (kG x))->T.length<=(bG ll dl T).length
 | [],_=>ep _
 | x::T,h=>by
  have ih:=qll (dl:=dl) (T:=T) λy hy=>h y (tu _ hy)
  have h0:=h x uJ;have e:bG ll dl (x::T)=gL ll dl x++bG ll dl T:=rfl;have h1:1<=(gL ll dl x).length:=by
   cases x with
   | lit c=>rw[gL,bK];exact h0
   | mat n d=>have:0<ae ll (bJ n).1:=h0;simp only[gL,aA,bK];omega
  rw[e,aA,bU];omega
theorem qx4 {bs:LB} {ll dl:LN} {m r a:Nat} {b:LB} {l:List Mt} (hr:r<=32768) (dt:dC b r 0 l) (hm:b.length<=m) (je:∀l∈ll,l<=15) (jd:∀l∈dl,l<=15) (cP:weight ll<=32768) (bL:weight dl<=32768)
  (tU:0<ae ll 256) (h1:∀x∈bE b 0 l,0<ae ll (kG x)) (h2:∀x∈bE b 0 l,∀s,pA x=some s->0<ae dl s) (bR:At bs a (bG ll dl (bE b 0 l)++cq ll 256)) :
  cU bs m ll dl (fuel bs) [] a = .ok (b,a+(bG ll dl (bE b 0 l)++cq ll 256).length):=by
 have hf:(bE b 0 l).length<fuel bs:=by have k1:=bR.le;have k2:=qll (dl:=dl) h1;rw[aA,bK]at k1;unfold fuel;omega
 have:=zfv (b:=b) hr hm je jd cP bL tU (b.length-0) 0 l (fuel bs) a rfl (ep _) dt h1 h2 hf bR;rw[Dk]at this;rw[this,aA,bK,oW]
theorem qpf {bs:LB} {m:Nat} {b:LB} {h:Nat} {body:List Bool} (hh:h<3) (bR:At bs 0 ([true]++dM 2 h++body)) (hf:0<fuel bs)
  (hb:eZ bs m h [] 3 = .ok (b,3+body.length)):dB bs m (fuel bs) [] 0 = .ok (b,([true]++dM 2 h++body).length):=by
 obtain⟨f,hf'⟩:∃f,fuel bs=f+1:=⟨fuel bs-1,by omega⟩;have k1:aY bs 0 1 = .ok (1,1):=zg (n:=1) (v:=1) bR.left.left (by decide);have k2:aY bs 1 2 = .ok (h,3):=zg (n:=2) (v:=h) bR.left.right (by omega);rw[hf',dB,k1];dsimp only;rw[k2];dsimp only;rw[if_neg (by omega),hb];dsimp only;rw[if_neg (by decide)];simp only[aA,bU,kg,ax]
theorem qvv (bs:LB):0<fuel bs:=by unfold fuel;omega
theorem qzs {bs:LB} {m:Nat} {b:LB} {bb:List Bool} (h:dB bs m (fuel bs) [] 0 = .ok (b,bb.length)):kL bs m = .ok (b,(bytesOf bb).length):=by unfold kL;rw[h,bytesOf_length]
theorem qpa {b:LB} {bf:List Bool} (h:xR b bf) (ext:LB) (m:Nat) (hm:b.length<=m):kL (bytesOf bf++ext) m = .ok (b,(bytesOf bf).length):=by
 obtain⟨hd,e,h0,_⟩:=h;rw[h0 rfl]at e;have dt:dC b 32768 0 (Ah b 32768):=by simpa using S4 b 32768
 have BG:=qup (ay _) dt;have e2:bf=[true]++dM 2 1++(bG (pQ 288) (List.replicate 32 5) (cB b)++cq (pQ 288) 256):=by rw[e];simp only[Di,if_false,mW,eE];rw[qlk (T:=cB b) (λ_ _=>rfl) λx hx s hs=>(zai s ((BG x hx).2.2 s hs)).symm]
 obtain⟨bs,mD⟩:=ai (bytesOf bf++ext);have bR:At bs 0 bf:=by rw[mD];exact VK bf ext
 rw[<-mD];refine qzs ?_;rw[e2]at bR ⊢;refine qpf (by decide) bR (qvv bs) ?_;unfold eZ;rw[if_neg (by decide),if_pos rfl];unfold wV;rw[zah];have a3:=bR.right;exact qx4 (ay _) dt hm RO (λx hx=>by rw[List.eq_of_mem_replicate hx];decide) (by rw[qpk];exact ay _) (by rw[J7];exact ay _) (zbq 256 (by decide)) (λx hx=>zbq _ (BG x hx).1) (λx hx s hs=>zd1 s ((BG x hx).2.2 s hs)) a3
theorem zdh {ls:LN} {c:Nat} (h:∀l∈ls,l<=c) (i:Nat):ae ls i<=c:=by
 unfold ae;cases e:ls[i]? with
 | none=>simp
 | some x=>simpa using h x (gB e)
theorem qvx {bs:LB} {cl:LN} (hle:∀l∈cl,l<=7):∀(ps fs:LN) (a:Nat),At bs a (ps.flatMap λi=>dM 3 (ae cl i))->
  eM bs ps fs a = .ok (ps.foldl (λfs i=>fs.set i (ae cl i)) fs,a+(ps.flatMap λi=>dM 3 (ae cl i)).length)
 | [],fs,a,_=>rfl
 | i::t,fs,a,h=>by rw[vX]at h ⊢;have k:=zg h.left (show ae cl i<2^3 by have:=zdh hle i;omega);have h2:=h.right;rw[ax]at h2;rw[eM,k];dsimp only;rw[qvx hle t _ _ h2,DW,aA,ax,oW]
theorem qr4 {cl:LN}:∀(ps fs:LN) (j:Nat),(ps.foldl (λfs i=>fs.set i (ae cl i)) fs)[j]?=if j∈ps/\j<fs.length then some (ae cl j) else fs[j]?
 | [],fs,j=>by simp
 | p::ps,fs,j=>by
  rw[DW,qr4 ps,KN];by_cases h1:j∈ps/\j<fs.length
  ·rw[if_pos h1,if_pos ⟨tu _ h1.1,h1.2⟩]
  ·rw[if_neg h1,List.getElem?_set];by_cases h2:p=j
   ·subst h2;by_cases h3:p<fs.length
    ·rw[if_pos rfl,if_pos h3,if_pos ⟨uJ,h3⟩]
    ·rw[if_pos rfl,if_neg h3,if_neg (λh=>h3 h.2),nU (by omega)]
   ·rw[if_neg h2,if_neg];rintro⟨h3,h4⟩;rcases fP.1 h3 with e|e
    ·exact h2 e.symm
    ·exact h1 ⟨e,h4⟩
theorem qnc:∀n,n<=19->places.take n=(List.range n).map ord:=by decide +kernel
theorem zgn:∀j,j<19->∃i,i<19/\ord i=j:=by decide +kernel
theorem zaj {cl:LN} {nc:Nat} (hl:cl.length=19) (hn:nc<=19) (hz:∀i,nc<=i->i<19->ae cl (ord i)=0) :
  (places.take nc).foldl (λfs i=>fs.set i (ae cl i)) (List.replicate 19 0)=cl:=by
 refine D4 λj=>?_
 rw[qr4,Am];by_cases hj:j<19
 ·have hc:cl[j]?=some (ae cl j):=by unfold ae;rw[br (by omega)];rfl
  rw[hc];by_cases hm:j∈places.take nc
  ·rw[if_pos ⟨hm,hj⟩]
  ·rw[if_neg λh=>hm h.1];obtain⟨i,hi,he⟩:=zgn j hj;have Md:nc<=i:=by
    rcases kI i nc with k|k
    ·refine absurd ?_ hm;rw[qnc nc hn,<-he];exact uL (td.2 k)
    ·exact k
   have:=hz i Md hi;rw[he]at this;rw[this,Nn,if_pos hj]
 ·rw[if_neg λh=>hj h.2,nU (by rw[Am];omega),nU (by omega)]
theorem qzk {bs:LB} {cl:LN} {n:Nat} (hle:∀l∈cl,l<=15) (hw:weight cl<=32768):∀(rs:List Rn) (out fin:LN) (f a:Nat),bT out rs fin->fin.length=n->(∀r∈rs,0<ae cl r.1)->rs.length<f->
  At bs a (rs.flatMap (fC cl))->cD bs cl n f out a = .ok (fin,a+(rs.flatMap (fC cl)).length)
 | [],out,fin,f,a,h,hn,_,hf,_=>by
  obtain⟨f,rfl⟩:∃g,f=g+1:=⟨f-1,by omega⟩;obtain rfl:out=fin:=h;rw[cD,if_pos (by omega)];rfl
 | r::rs,out,fin,f,a,h,hn,hu,hf,bR=>by
  obtain⟨f,rfl⟩:∃g,f=g+1:=⟨f-1,by omega⟩;have hlen:=bT.len h;have eH:=bT.len h.2;simp only[bU]at hlen hf;rw[vX]at bR ⊢;have h1:=bR.left;unfold fC at h1;have hs:=M8 h1.left hle hw (hu r uJ);have h2:=h1.right;rw[bK]at h2;have h3:=bR.right;have ih:=qzk (n:=n) hle hw rs (kU out r) fin f _ h.2 hn (λx hx=>hu x (tu _ hx)) (by omega) h3;have e:(fC cl r).length=ae cl r.1+r.2.2:=by unfold fC;rw[aA,bK,ax]
  rw[e]at ih;rw[cD,if_neg (by omega),hs];dsimp only;rw[aA,e];rcases h.1 with⟨c1,c2,c3⟩|⟨c1,c2,c3,c4⟩|⟨c1,c2,c3⟩|⟨c1,c2,c3⟩
  ·rw[if_pos (by omega)];unfold kU at ih;rw[if_pos (by omega),c3,ie]at ih;rw[ih,c3];congr 2;omega
  ·rw[c3]at h2 ih;have hv:=zg h2 (show r.2.1<2^2 by omega);unfold kU at ih eH;rw[if_neg (by omega),if_pos c1]at ih eH;rw[aA,Am]at eH;have w1:wide 16=2:=rfl;have l1:least 16=3:=rfl;rw[c1]at hs hv ih ⊢;rw[if_neg (by decide),w1,hv];dsimp only;rw[l1,if_neg (λh=>h.elim (λk=>c4 k.2) (λk=>by omega)),if_pos rfl];rw[show a+ae cl 16+2=a+(ae cl 16+2) from by omega,ih,c3];congr 2;omega
  ·rw[c3]at h2 ih;have hv:=zg h2 (show r.2.1<2^3 by omega);unfold kU at ih eH;rw[if_neg (by omega),if_neg (by omega),if_pos c1]at ih eH;rw[aA,Am]at eH;have w1:wide 17=3:=rfl;have l1:least 17=3:=rfl;rw[c1]at hs hv ih ⊢;rw[if_neg (by decide),w1,hv];dsimp only;rw[l1,if_neg (by rintro (⟨k,_⟩|k)<;>omega),if_neg (by decide)];rw[show a+ae cl 17+3=a+(ae cl 17+3) from by omega,ih,c3];congr 2;omega
  ·rw[c3]at h2 ih;have hv:=zg h2 (show r.2.1<2^7 by omega);unfold kU at ih eH;rw[if_neg (by omega),if_neg (by omega),if_neg (by omega)]at ih eH;rw[aA,Am]at eH;have w1:wide 18=7:=rfl;have l1:least 18=11:=rfl;rw[c1]at hs hv ih ⊢;rw[if_neg (by decide),w1,hv];dsimp only;rw[l1,if_neg (by rintro (⟨k,_⟩|k)<;>omega),if_neg (by decide)];rw[show a+ae cl 18+7=a+(ae cl 18+7) from by omega,ih,c3];congr 2;omega
theorem Wh {n:Nat} (g:Nat->Nat) {s:Nat} (h:s<n):ae ((List.range n).map g) s=g s:=by unfold ae;rw[iM,Iv h];rfl
theorem zfu {b:LB} {l:List Mt} (h:0<b.length):bE b 0 l≠[]:=by
 unfold bE;rw[dif_pos h];match l with
 | []=>simp
 | (a,n,d)::t=>dsimp only;split<;>simp
theorem zew {l:LN} {x y:Nat} (hx:x∈l) (hy:y∈l) (h:x≠y):2<=l.length:=by
 match l with
 | []=>cases hx
 | [z]=>simp at hx hy;omega
 | _::_::_=>simp
theorem qyc {cs ls:LN} {L:Nat} (h:kX L cs ls):some_ ls=(aJ cs cs.length).length:=by
 have hm:ls=(List.range cs.length).map (ae ls):=by
  rw[<-h.len];refine D4 λi=>?_
  rw[iM];by_cases hi:i<ls.length
  ·rw[Iv hi,br hi];simp[ae,hi]
  ·rw[nU (by omega),nU (by simp;omega)];rfl
 unfold some_ aJ;conv=>lhs;rw[hm]
 rw[List.filter_map,bW];congr 1;refine List.filter_congr λs _=>?_
 show decide (0<ae ls s)=decide (0<ae cs s);by_cases hp:0<ae cs s
 ·rw[decide_eq_true hp,decide_eq_true (h.pos s hp)]
 ·rw[decide_eq_false hp,decide_eq_false (by rw[h.zero s (by omega)];omega)]
theorem zd5 {b:LB} {bd:List Bool} (h:Fp b bd) (ext:LB) (m:Nat) (hm:b.length<=m):kL (bytesOf bd++ext) m = .ok (b,(bytesOf bd).length):=by
 obtain⟨ll,dl,o1,o2,hd,e,_,ht⟩:=h;obtain⟨nl,nd,nc,cl,rs,T⟩:=ht rfl;have dt:dC b 32768 0 (Ah b 32768):=by simpa using S4 b 32768
 have BG:=qup (ay _) dt;have Oe:ll.length=286:=by rw[o1.len];simp[j5]
 have zaC:dl.length=30:=by rw[o2.len];simp[jh]
 have zl:∀i,nl<=i->i<ll.length->ae ll i=0:=λi h1 h2=>Wz ll 257 ll.length i (by rw[<-T.enl];exact h1) h2
 have zd:∀i,nd<=i->i<dl.length->ae dl i=0:=λi h1 h2=>Wz dl 1 dl.length i (by rw[<-T.ennd];exact h1) h2
 have nl1:257<=nl:=by rw[T.enl];exact Nj _ _ _ (by omega)
 have nl2:nl<=286:=by rw[T.enl,<-Oe];exact Ig _ _ _
 have nd1:1<=nd:=by rw[T.ennd];exact Nj _ _ _ (by omega)
 have nd2:nd<=30:=by rw[T.ennd,<-zaC];exact Ig _ _ _
 have lit:∀s,s<286->0<nX b (cB b) s->0<ae ll s:=λs hs h=>o1.pos s (by unfold j5;rw[Wh _ hs];exact h)
 have iu:∀x∈cB b,0<nX b (cB b) (kG x):=λx hx=>by have:0<nj (cB b) (kG x):=List.count_pos_iff.2 (uL hx);unfold nX;omega
 have Cq:0<nX b (cB b) 256:=by unfold nX;rw[if_pos rfl];omega
 have tU:0<ae ll 256:=lit 256 (by decide) Cq;have hH:∀x∈cB b,0<ae ll (kG x):=λx hx=>lit _ (BG x hx).1 (iu x hx)
 have jC:∀x∈cB b,∀s,pA x=some s->0<ae dl s:=λx hx s hs=>o2.pos s (by
  unfold jh
  rw[Wh _ ((BG x hx).2.2 s hs)]
  exact List.count_pos_iff.2 (List.mem_filterMap.2 ⟨x,hx,hs⟩))
 have lf:∀s,s<286->0<nX b (cB b) s->s∈aJ (j5 b) (j5 b).length:=λs hs h=>FP.2 ⟨by simpa[j5] using hs,by unfold j5;rw[Wh _ hs];exact h⟩
 have cP:weight ll=32768:=by
  refine o1.full ?_;by_cases h0:b.length=0
  ·exact zew (lf 256 (by decide) Cq) (lf 0 (by decide) (by unfold nX;rw[if_pos (show b.length=0/\0=0 from ⟨h0,rfl⟩)];omega)) (by decide)
  ·obtain⟨x,t,hx⟩:=List.exists_cons_of_ne_nil (zfu (l:=Ah b 32768) (show 0<b.length by omega));have X4:x∈cB b:=by unfold cB;rw[hx];exact uJ
   exact zew (lf 256 (by decide) Cq) (lf (kG x) (BG x X4).1 (iu x X4)) (kC (BG x X4).2.1)
 have bL:=Xn o2;have wh1:dG (ll.take nl) false=true:=by unfold dG;rw[SW zl,cP];rfl
 have wh2:dG (dl.take nd) true=true:=by
  unfold dG;rw[SW zd,decide_eq_true bL];by_cases h2:2<=(aJ (jh b) (jh b).length).length
  ·rw[o2.full h2];rfl
  ·have h3:some_ (dl.take nd)<2:=by have h4:some_ (dl.take nd)<=some_ dl:=((List.take_sublist nd dl).filter _).length_le;rw[qyc o2]at h4;omega
   have h5:ones (dl.take nd)=true:=Ic.2 λx hx=>by simpa using o2.few (by omega) x (uM hx)
   rw[decide_eq_true h3,h5];simp
 have wh3:dG cl false=true:=by unfold dG;rw[T.full];rfl
 obtain⟨bs,mD⟩:=ai (bytesOf bd++ext);have bR:At bs 0 bd:=by rw[mD];exact VK bd ext
 rw[<-mD];refine qzs ?_;have e2:bd=[true]++dM 2 2++(dM 5 (nl-257)++(dM 5 (nd-1)++(dM 4 (nc-4)++(((places.take nc).flatMap λi=>dM 3 (ae cl i))++(rs.flatMap (fC cl)++(bG (ll.take nl) (dl.take nd) (cB b)++cq (ll.take nl) 256)))))):=by rw[e,T.bits,qlk (ll:=ll.take nl) (dl:=dl.take nd) (ll':=ll) (dl':=dl) (λx _=>by rw[Xb zl]) (λx _ s _=>by rw[Xb zd]),Xb zl,qnc nc T.nc19,List.flatMap_map];simp only[if_true,eE]
 have je:∀l∈ll.take nl,l<=15:=λx hx=>o1.le x (uM hx)
 have jd:∀l∈dl.take nd,l<=15:=λx hx=>o2.le x (uM hx)
 rw[e2]at bR ⊢;refine qpf (by decide) bR (qvv bs) ?_;unfold eZ;rw[if_neg (by decide),if_neg (by decide)];have a1:At bs 3 _:=bR.right;have a2:=a1.right;have a3:=a2.right;have a4:=a3.right;have a5:=a4.right;have a6:=a5.right;have k1:=zg a1.left (show nl-257<2^5 by omega);have k2:=zg a2.left (show nd-1<2^5 by omega);have n1:=T.nc4;have n2:=T.nc19;have k3:=zg a3.left (show nc-4<2^4 by omega);have k4:=qvx T.cle _ (List.replicate 19 0) _ a4.left;rw[zaj T.clen T.nc19 T.rest]at k4;have rl:=bT.len T.runs;have k5:=qzk (n:=nl-257+257+(nd-1)+1) (λx hx=>ck (T.cle x hx) (by decide)) (by rw[T.full];exact ay _) rs [] _ (nl-257+257+(nd-1)+1+1) _ T.runs
  (by rw[aA,dU,dU];omega) T.used (by rw[aA,dU,dU]at rl;simp only[kg]at rl;omega) a5.left
 have k6:=qx4 (ay _) dt hm je jd (by rw[SW zl,cP];exact ay _) (by rw[SW zd];exact bL) (by rw[Iz zl];exact tU) (λx hx=>by rw[Iz zl];exact hH x hx) (λx hx s hs=>by rw[Iz zd];exact jC x hx s hs) a6;simp only[ax]at k2 k3 k4 k5 k6;unfold nr;rw[k1];dsimp only;rw[if_neg (by omega),k2];dsimp only;rw[if_neg (by omega),k3];dsimp only;unfold qA;have L8:nc-4+4=nc:=by omega
 have hn:nl-257+257=nl:=by omega
 rw[L8,k4];dsimp only;rw[wh3,if_neg (by decide)];unfold qz;rw[k5];dsimp only;rw[hn];have t1:(ll.take nl++dl.take nd).take nl=ll.take nl:=by rw[IG (by rw[dU];omega),Hx,Nat.min_self]
 have t2:(ll.take nl++dl.take nd).drop nl=dl.take nd:=by
  have:(ll.take nl).length=nl:=by rw[dU];omega
  exact List.drop_left' this
 have t3:ae (ll.take nl++dl.take nd) 256=ae ll 256:=by unfold ae;rw[rO (by rw[dU];omega),List.getElem?_take_of_lt (by omega)]
 rw[t1,t2,t3,if_neg (by omega),wh1,if_neg (by decide),wh2,if_neg (by decide),k6];simp only[aA,ax,oW,cB]
theorem zcs {b r:LB} {level:Int} (h:ua b level r) (hl:1<=level) (ext:LB) (m:Nat) (hm:b.length<=m):kL (r++ext) m = .ok (b,r.length):=by
 obtain⟨bf,h1,h2,h3⟩:=h;by_cases h0:level=1
 ·rw[h2 h0];exact qpa h1 ext m hm
 ·rcases (h3 (by omega)).1 with e|e|⟨bd,hd,e⟩
  ·rw[e];exact qpa h1 ext m hm
  ·rw[e];exact qow b ext m hm
  ·rw[e];exact zd5 hd ext m hm
theorem qh4:∀(cs:List (List UInt8)) (l:List Bool),l.length%8=0->(aN l cs).length=l.length+40*cs.length+8*cs.flatten.length
 | [],l,_=>by simp[aN]
 | b::t,l,h=>by have e:=Lz l t.isEmpty b;rw[aN,qh4 t _ (by rw[e];omega),e,List.flatten_cons,aA,bU];omega
theorem qkd:∀(f:Nat) (b:LB),(chunks f b).length<=b.length/65535+1
 | 0,b=>by simp[chunks]
 | f+1,b=>by
  rw[chunks];split
  ·have:=qkd f (b.drop 65535);rw[eV]at this;rw[bU];omega
  ·simp
theorem qrg (b:LB):(aR b).length=b.length+5*(chunks b.length b).length:=by unfold aR gY;rw[bytesOf_length,qh4 _ _ rfl,chunks_flatten,kg];omega
theorem zcy (b:LB):(aR b).length<=b.length+5*(b.length/65535+1):=by rw[qrg];have:=qkd b.length b;omega
open Go.RowKit wb
def RQ (b r:LB):Prop:=r.length<=6*b.length+100/\(r=aR b\/∃level:Int,1<=level/\ua b level r)
theorem zaf {b:LB} {bf:List Bool} (h:xR b bf):(bytesOf bf).length<=6*b.length+10:=by
 obtain⟨hd,e,h0,_⟩:=h;rw[h0 rfl]at e;have dt:dC b 32768 0 (Ah b 32768):=by simpa using S4 b 32768
 have h1:=qon (pQ 288) (List.replicate 30 5) RO (λx hx=>by rw[List.eq_of_mem_replicate hx];decide) (cB b) (VF (ay _) (b.length-0) 0 _ rfl dt);have h2:=Nt b 0 (Ah b 32768);have h3:(cq (pQ 288) 256).length<=15:=Bg (pQ 288) RO 256;have h4:(cB b).length*48<=b.length*48:=uN _ (by unfold cB;omega);rw[bytesOf_length,e];simp only[aA,ax,bU,kg];omega
theorem zhs (a:OA) (cap:Nat) (b:LB) (level:Int) (w:World) (h:lib.Rd w a cap b) (hlen:b.length<=100000) (fH:∀x∈af a,x<w.heap.size) :
  Calls Tryz.prog 103 #[.slice a b.length cap,.int .i64 level] w λe w'=>∃r,RQ b r/\aB w r e w':=by
 by_cases hl:level<=0
 ·refine (zcr a cap b level w h (by omega) hl).mono λe w' hn=>⟨aR b,⟨?_,.inl rfl⟩,hn⟩
  have:=zcy b;omega
 ·refine (zct a cap b level w h hlen (by omega) fH).mono ?_;rintro e w' ⟨r,hr,hn⟩;refine⟨r,⟨?_,.inr ⟨level,by omega,hr⟩⟩,hn⟩;obtain⟨bf,h1,h2,h3⟩:=hr;have h4:=zaf h1;by_cases h5:level=1
  ·rw[h2 h5];omega
  ·have:=(h3 (by omega)).2.1;omega
theorem qxp (a:OA) (cap:Nat) (b:LB) (level:Int) (w:World) (h:lib.Rd w a cap b) (hlen:b.length<=100000) (fH:∀x∈af a,x<w.heap.size) :
  Calls Tryz.prog 67 #[.slice a b.length cap,.int .i64 level] w λe w'=>∃r,RQ b r/\aB w (aE level r b) e w':=
 zfi a cap b (RQ b) level w h (λr hr=>by have:=hr.1;omega) (λw' f=>zhs a cap b level w' (h.fr f) hlen (λx hx=>eW (fH x hx) f.size))
end trip

end Go.Proofs.YtkmpfgpfbmeihaaGreatDoor