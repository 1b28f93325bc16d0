/-
  Texts of this proof, one behind the other: Raw, TripA, TripB, TripC, PlainLen, TripD.
-/
import Derived.Test.YticadfhpolhkeaaGreatDoorQ10
set_option maxHeartbeats 16000000
set_option maxRecDepth 100000
set_option linter.unusedVariables false
set_option linter.unusedSimpArgs false
namespace Go.Proofs.YticadfhpolhkeaaGreatDoor
namespace defl
open Go Go.RowKit lib bm bl mat huf wb
variable {C bl cap ll:Nat} {w w':World} {a al:OA} {v2 v3:Value} {told:Bool}
def bW (b:LB):List Tok:=br b 0 (xV b 32768)
def jN (b:LB):List Nat:=(List.range 286).map (mH b (bW b))
def iX (b:LB):List Nat:=(List.range 30).map (mM (bW b))
def vD (b:LB) (bb:List Bool):Prop:=eV (oh 288) (List.replicate 30 5) (bW b) true false bb
def CT (b:LB) (bb:List Bool):Prop:=∃ll dl,kx 15 (jN b) ll/\kx 15 (iX b) dl/\eV ll dl (bW b) true true bb
def rU (b:LB) (level:Int) (r:LB):Prop:=
 ∃bf,vD b bf/\(level=1->r=bytesOf bf)/\(2<=level->(r=bytesOf bf\/r=aL b\/∃bd,CT b bd/\r=bytesOf bd)/\r.length<=(bytesOf bf).length/\r.length<=(aL b).length)
theorem Uf {L:Nat} {cs ls:LN} (h:kx L cs ls):weight ls<=32768:=by
 by_cases h2:2<=(aF cs cs.length).length
 ·rw[h.full h2];exact ax _
 ·have hm:ls=(List.range cs.length).map (ae ls):=by
   rw[<-h.len];refine Ih λi=>?_
   rw[qe];by_cases hi:i<ls.length
   ·rw[List.getElem?_range hi,dm hi];simp[ae,hi]
   ·rw[sq (by omega),sq (by simp;omega)];rfl
  have hs:weight ls=((aF cs cs.length).map λs=>wt (ae ls s)).sum:=by rw[hm,TU,<-hm];rw[TQ (λs=>decide (0<ae cs s)) _ _ λs _ hp=>by rw[h.zero s (by simpa using hp)];rfl];rfl
  have hw:∀s,wt (ae ls s)<=16384:=λs=>by
   unfold wt;split
   ·omega
   ·exact bP (lJ (by decide) (show 15-ae ls s<=14 by omega)) (by decide)
  rw[hs];match oQ:aF cs cs.length with
  | []=>simp
  | [x]=>simp;have:=hw x;omega
  | x::y::t=>rw[oQ]at h2;simp at h2
theorem OQ:(oh 288).length=288:=by simp[oh]
theorem OH:∀x∈oh 288,x<=15:=λx hx=>by
 simp only[oh,mU]at hx;obtain⟨i,_,rfl⟩:=hx;unfold po;split
 ·omega
 ·split
  ·omega
  ·split<;>omega
theorem qov:weight (oh 288)=32768:=by decide +kernel
theorem Ue:weight (List.replicate 30 5)=30720:=by decide +kernel
def mR (w:World) (C:Nat) (a al:OA) (bl cap ll:Nat) (v2 v3:Value) (told:Bool):Prop:=w.heap[C]?=some (.cells #[.slice a bl cap,.slice al ll ll,v2,v3,.bool told] 350 (0,0))
theorem mR.set (h:mR w C a al bl cap ll v2 v3 told) (x y:Value) :
  mR ((w.setCell ⟨C,2,none⟩ x).setCell ⟨C,3,none⟩ y) C a al bl cap ll x y told:=(df (o:=3) (df (o:=2) h x) y)
theorem mR.fr {S:LN} (h:mR w C a al bl cap ll v2 v3 told) (f:Fr S w w') (hC:C∉S):mR w' C a al bl cap ll v2 v3 told:=f.ag h hC
theorem zb6 {b:LB} {r:Nat}:∀{l:List Mt} {e:Nat},cH b r e l->l.length<=b.length+1
 | [],_,_=>eE _
 | l,e,h=>by
  have key:∀(l:List Mt) (e:Nat),cH b r e l->e<=b.length->e+l.length<=b.length:=by
   intro l;induction l with
   | nil=>intro e _ he;simpa using he
   | cons x t ih=>intro e h he;obtain⟨a,n,d⟩:=x;obtain⟨k1,k2,k3,k4,k5,k6,k7,_,k9⟩:=h;have:=ih (a+n) k9 k7;simp only[dw];omega
  have key2:∀(l:List Mt) (e:Nat),cH b r e l->l≠[]->e+l.length<=b.length:=by
   intro l e h bg;cases l with
   | nil=>exact absurd rfl bg
   | cons x t=>obtain⟨a,n,d⟩:=x;obtain⟨k1,k2,k3,k4,k5,k6,k7,_,k9⟩:=h;have:=key t (a+n) k9 k7;simp only[dw];omega
  by_cases bg:l=[]
  ·rw[bg];exact eE _
  ·have:=key2 l e h bg;omega
theorem mR.tell (h:mR w C a al bl cap ll v2 v3 told) :
  mR (w.setCell ⟨C,4,none⟩ (.bool true)) C a al bl cap ll v2 v3 true:=df (o:=4) h (.bool true)
theorem mR.cells (h:mR w C a al bl cap ll v2 v3 told) :
  w.cell? ⟨C,0,none⟩=some (.slice a bl cap)/\w.cell? ⟨C,1,none⟩=some (.slice al ll ll)/\w.cell? ⟨C,2,none⟩=some v2/\w.cell? ⟨C,3,none⟩=some v3/\w.cell? ⟨C,4,none⟩=some (.bool told):=
 ⟨cell_of h 0,cell_of h 1,cell_of h 2,cell_of h 3,cell_of h 4⟩
theorem W5 {Q N:Nat} {F:Nat->Nat} (h:Ow w Q N F) (hN:N<=400):Ri w (some ⟨Q,0,none⟩) N ((List.range N).map F):=
 ⟨h.cs,by simp,by unfold maxLen;omega,λh=>by cases h⟩
theorem mR.lit (h:mR w C a al bl cap ll v2 v3 told) (x:Value) :
  mR (w.setCell ⟨C,2,none⟩ x) C a al bl cap ll x v3 told:=df (o:=2) h x
theorem mR.jD (h:mR w C a al bl cap ll v2 v3 told) (x:Value) :
  mR (w.setCell ⟨C,3,none⟩ x) C a al bl cap ll v2 x told:=df (o:=3) h x
theorem qmy {S:LN} (h:Fr S w w') (hS:∀x∈S,w.heap.size<=x):Fr [] w w':=h.mono λx hx=>.inr (hS x hx)
theorem qkg (b:LB) (a al:OA) (cap BL LL m1 m2:Nat) (l:List Mt) (a1 a2:OA) (c1 c2:Nat) (ll dl:LN) (told:Bool) (w:World) (e1:BL=b.length) (e2:LL=l.length) (e3:m1=ll.length) (e4:m2=dl.length)
  (hb:lib.Rd w a cap b) (hl:Cs w al (bJ l)) (nL:al=none->LL=0) (kE:LL<=maxLen) (cj:cH b 32768 0 l) (gX:b.length<=1000000)
  (h1:Ri w a1 c1 ll) (h2:Ri w a2 c2 dl) (n1:286<=ll.length) (Fb:ll.length<=400) (n2:30<=dl.length) (AA:dl.length<=400) (nt:told=true->ll.length=286/\dl.length=30)
  (iR:∀x∈ll,x<=15) (fO:∀x∈dl,x<=15) (aJ:weight ll<=32768) (cC:weight dl<=32768)
  (eh:∀x∈ag a,x<w.heap.size) (sA:∀x∈ag al,x<w.heap.size) :
  Calls Tryz.prog 242 #[.slice (some ⟨w.heap.size,0,none⟩) 1 1] (w.alloc (.cells #[.iface 350 (.agg #[.slice a BL cap,.slice al LL LL,.slice a1 m1 c1,.slice a2 m2 c2,.bool told])] 414 (0,0)))
   λe w'=>∃bb,eV ll dl (br b 0 l) true told bb/\bb.length<=100000000/\aZ w (bytesOf bb) e w':=by
 subst e1;subst e2;subst e3;subst e4;have f:Fr [] w (w.alloc (.cells #[.iface 350 (.agg #[.slice a b.length cap,.slice al l.length l.length,.slice a1 ll.length c1,.slice a2 dl.length c2,.bool told])] 414 (0,0))):=(Fr.refl [] w).alloc _;refine (qoy w.heap.size b a al cap l.length 32768 l a1 a2 c1 c2 ll dl told _ (aV w _) (hb.fr f) (hl.fr f (by simp)) (ax _) nL kE cj (ax _) gX (h1.fr f) (h2.fr f) n1 Fb n2 AA nt iR fO aJ cC
  (λx hx=>fM (eh x hx) f.size) (λx hx=>fM (sA x hx) f.size)).mono ?_
 rintro e w' ⟨bb,h3,h4,a',h5,h6,h7,h8⟩;exact⟨bb,h3,h4,a',h5,h6,λx hx=>⟨bP f.size (h7 x hx).1,(h7 x hx).2⟩,f.trans h8⟩
theorem zdp (a:OA) (cap:Nat) (b:LB) (level:Int) (w:World) (h:lib.Rd w a cap b) (hlen:b.length<=100000) (hl:1<=level) (eh:∀x∈ag a,x<w.heap.size) :
  Calls Tryz.prog 185 #[.slice a b.length cap,.int .i64 level] w λe w'=>∃r,rU b level r/\aZ w r e w':=by
 have Jh:=qtt b a cap 32768 w h hlen;obtain⟨l,tL⟩:∃l,l=xV b 32768:=⟨_,rfl⟩;have cj:cH b 32768 0 l:=by rw[tL];have:=PZ b 32768;simpa using this
 obtain⟨LL,nA⟩:=ah l.length;obtain⟨BL,lQ⟩:=ah b.length;unfold pG at Jh;rw[<-tL,<-nA,<-lQ]at Jh;have hLB:LL<=9223372036854775807->True:=λ_=>trivial
 have d0:decide (level<=0)=false:=by simp;omega
 have H:=eW h hlen eh cj tL nA lQ;have HM:=af Jh;rw[<-lQ]at hlen ⊢;clear h eh cj tL nA lQ Jh hLB;go_enter Tryz.func185,Tryz.ntmps185;go_upto_region 4 with (go_at_call 240;refine HM.out.mono ?_;rintro e w1 ⟨al,rfl,Ww,no1,lw1,f1⟩;have H1:=aA Ww no1 lw1 f1;clear Ww no1 lw1 f1);obtain⟨C,hC⟩:=ah w1.heap.size;obtain⟨w2,cC⟩:=ah (w1.alloc (.cells #[.slice a BL cap,.slice al LL LL,.slice none 0 0,.slice none 0 0,.bool false] 350 (0,0)));have bx2:mR w2 C a al BL cap LL (.slice none 0 0) (.slice none 0 0) false:=by unfold mR;rw[cC,hC];exact aV w1 _
 have f12:Fr [] w1 w2:=by rw[cC];exact (Fr.refl [] w1).alloc _
 rw[<-cC,<-hC];have H2:=aA bx2 f12 hC cC;clear bx2 f12 hC cC;have sH:=qyd w2;unfold pL at sH;have HAL:=af sH;clear sH;go_upto_region 4 with fail;have mkf:∀w3,Fr [] w2 w3->w3.cell? ⟨C,2,none⟩=some (.slice none 0 0)/\w3.cell? ⟨C,3,none⟩=some (.slice none 0 0)/\w3.frozen? ⟨C,2,none⟩=false/\w3.frozen? ⟨C,3,none⟩=false:=λw3 f=>by have b3:=H2.o0.fr f (by simp);unfold mR at b3;exact⟨cell_of b3 2,cell_of b3 3,aT b3 2,aT b3 3⟩
 have HMK:=af mkf;clear mkf;go_upto_region 5 with (go_at_call 241;refine HAL.out.mono ?_;rintro e w3 ⟨a1,c1,a2,c2,rfl,UC,md2⟩;obtain⟨x2,x3,z2,z3⟩:=HMK.out w3 UC.fr;have H3:=ai UC md2;clear UC md2);clear x2 x3 z2 z3;obtain⟨w4,jO⟩:=ah ((w3.setCell ⟨C,2,none⟩ (.slice a1 288 c1)).setCell ⟨C,3,none⟩ (.slice a2 30 c2));have GO:mR w4 C a al BL cap LL (.slice a1 288 c1) (.slice a2 30 c2) false:=by rw[jO];exact (H2.o0.fr H3.o0.fr (by simp)).set _ _
 have f34:Fr [C] w3 w4:=by rw[jO];exact ((Fr.refl [C] w3).setCell (by simp) _).setCell (by simp) _
 rw[<-jO];have hCw:w.heap.size<=C:=by rw[H2.o2];exact H1.l3.size
 have Ei:C<w2.heap.size:=by have:=H2.o0;unfold mR at this;exact lt_of_block this
 have f13:Fr [] w1 w3:=H2.o1.trans H3.o0.fr;have f14:Fr [C] w1 w4:=(f13.mono (by simp)).trans f34;have GG:Fr [C] w w4:=(H1.l3.mono (by simp)).trans f14;have R1:lib.Rd w4 a cap b:=H.o0.uD GG λx hx hm=>by have:=H.o2 x hx;simp at hm;omega
 have Wu:Cs w4 al (bJ l):=H1.o0.fr f14 λx hx hm=>by have:=H1.o2 x hx;have:=H2.o2;simp at hm;omega
 have Bv:Ri w4 a1 c1 (oh 288):=by
  refine Am (O2 H3.o0 (by rw[OQ])) f34 λx hx hm=>?_
  have:=H3.o0.new x hx;simp at hm;omega
 have CW:Ri w4 a2 c2 (List.replicate 30 5):=by
  refine Am (O2 H3.l1 (by simp)) f34 λx hx hm=>?_
  have:=H3.l1.new x hx;simp at hm;omega
 have H3b:w3.heap.size<=w4.heap.size:=f34.size;have hmx:LL<=maxLen:=by rw[H.o5];have:=zb6 H.o3;have:=H.o1;unfold maxLen;omega
 have tk:=qkg b a al cap BL LL 288 30 l a1 a2 c1 c2 (oh 288) (List.replicate 30 5) false w4 H.l6 H.o5 OQ.symm (by simp) R1 Wu H1.o1 hmx H.o3 (by have:=H.o1;omega) Bv CW (by rw[OQ];decide) (by rw[OQ];decide) (by simp) (by simp) (λh=>by cases h) OH (by intro x hx;rw[(Im.1 hx).2];decide) (by rw[qov];exact ax _) (by rw[Ue];decide)
  (λx hx=>fM (H.o2 x hx) GG.size) (λx hx=>fM (H1.o2 x hx) f14.size)
 have DN:br b 0 l=bW b:=by rw[H.o4];rfl
 rw[DN]at tk;have e0:=cell_of GO 0;have e1:=cell_of GO 1;have e2:=cell_of GO 2;have e3:=cell_of GO 3;have e4:=cell_of GO 4;simp only[dJ,dk,dU]at e0 e1 e2 e3 e4;have H4:=lf tk GO f14 GG R1 Wu hmx DN;have HC:=ai hCw Ei;clear tk GO f14 GG R1 Wu hmx DN Bv CW H3b f13 f34 jO hCw Ei;unfold aZ at H4;go_upto_region 6 with (go_at_call 242;refine H4.o0.mono ?_;rintro e w6 ⟨bf,hbf,dW,o6,rfl,r6,n6,f6⟩;have H6:=aQ hbf dW r6 n6 f6;clear hbf dW r6 n6 f6);clear e0 e1 e2 e3 e4;obtain⟨x6,Qi⟩:=ah ((bytesOf bf).length);rw[<-Qi];have Rs:=af Qi;have hxb:x6<=20000000:=by rw[Qi,BQ];have:=H6.o1;omega
 clear Qi;by_cases kD:level=1
 ·subst kD;go_wp2;go_ret;refine⟨bytesOf bf,⟨bf,H6.o0,λ_=>rfl,λh=>absurd h (by decide)⟩,o6,by rw[Rs.out];rfl,H6.o2,λx hx=>⟨bP H4.o3.size (H6.o3 x hx).1,(H6.o3 x hx).2⟩,?_⟩;exact qmy (H4.o3.step H6.l4 (by simp)) (λx hx=>by simp at hx;rw[hx];exact HC.o0)
 ·have q1:(level==1)=false:=by simp only[beq_eq_false_iff_ne];exact kD
  have f6:Fr [C] w w6:=H4.o3.step H6.l4 (by simp);have R0:lib.Rd w6 a cap b:=H.o0.uD f6 λx hx hm=>by have:=H.o2 x hx;have:=HC.o0;simp at hm;omega
  have jq:=qq2 a cap b w6 R0 (by have:=H.o1;omega);rw[<-H.l6]at jq;have HP:=aq jq f6 R0;clear jq f6 R0;unfold aZ at HP;go_upto_region 9 with (go_at_call 239;refine HP.o0.mono ?_;rintro e w8 ⟨o8,rfl,r8,n8,f8⟩;have H8:=aq r8 n8 f8;clear r8 n8 f8);obtain⟨x8,DJ⟩:=ah ((aL b).length);rw[<-DJ];have WG:=af DJ;clear DJ;go_upto_if 38 with fail;go_cut [6] from 38 to 40 (λs6 wc=>wc=w8/\∃(o:OA) (n:Nat) (r:LB),s6 = .slice o n n/\n=r.length/\lib.Rd w8 o n r/\(∀x∈ag o,w4.heap.size<=x/\x<w8.heap.size)/\(r=bytesOf bf\/r=aL b)/\n<=x6/\n<=x8)
  case first=>
   by_cases bF:x8<x6
   ·have q2:decide ((x8:Int)<(x6:Int))=true:=by simpa using bF
    go_wp2;go_meet;case rel=>exact⟨rfl,o8,x8,aL b,rfl,WG.out,by rw[WG.out];exact H8.o0,λx hx=>⟨bP H6.l4.size (H8.o1 x hx).1,(H8.o1 x hx).2⟩,.inr rfl,by omega,ax _⟩
   ·have q2:decide ((x8:Int)<(x6:Int))=false:=by simpa using bF
    go_wp2;go_meet;case rel=>exact⟨rfl,o6,x6,bytesOf bf,rfl,Rs.out,by rw[Rs.out];exact H6.o2.fr H8.l2,λx hx=>⟨(H6.o3 x hx).1,fM (H6.o3 x hx).2 H8.l2.size⟩,.inl rfl,ax _,by omega⟩
  case rest=>
   obtain⟨rfl,o,n,r,rfl,hn,Bw,xh,hr,Qu,kM⟩:=hcut;have HO:=cU hn Bw xh hr Qu kM;clear hn Bw xh hr Qu kM;have f8:Fr [C] w wc:=HP.o1.step H8.l2 (by simp);have Rl:mR wc C a al BL cap LL (.slice a1 288 c1) (.slice a2 30 c2) false:=(H4.o1.fr (H6.l4.trans H8.l2) (by simp));have z4:wc.frozen? ⟨C,4,none⟩=false:=aT Rl 4;have x4:wc.cell? ⟨C,4,none⟩=some (.bool false):=cell_of Rl 4;have H9:=ai f8 Rl;clear f8 Rl;go_upto_region 12 with fail;obtain⟨vJ,Ca⟩:=ah (wc.setCell ⟨C,4,none⟩ (.bool true));have f11:Fr [C] wc vJ:=by rw[Ca];exact (Fr.refl [C] wc).setCell (by simp) _
   have GR:mR vJ C a al BL cap LL (.slice a1 288 c1) (.slice a2 30 c2) true:=by rw[Ca];exact H9.l1.tell
   rw[<-Ca];clear z4 x4 Ca;obtain⟨e0,e1,e2,e3,e4⟩:=GR.cells;have tW:Fr [C] w4 vJ:=((H6.l4.trans H8.l2).mono (by simp)).trans f11;have CK:Fr [C] w vJ:=H4.o3.trans tW;have EH:lib.Rd vJ a cap b:=H.o0.uD CK λx hx hm=>by have:=H.o2 x hx;have:=HC.o0;simp at hm;omega
   have GM:Cs vJ al (bJ l):=H1.o0.fr (H4.o2.trans tW) λx hx hm=>by have:=H1.o2 x hx;have:=H2.o2;simp at hm;omega
   have ju:=qx3 b a al cap LL 32768 l (.slice a1 288 c1) (.slice a2 30 c2) true vJ rfl rfl EH GM (by rw[H.o5];exact ax _) H1.o1 H4.o6 H.o3 (ax _) (by have:=H.o1;omega)
    (λx hx=>fM (H.o2 x hx) CK.size) (λx hx=>fM (H1.o2 x hx) (H4.o2.trans tW).size)
   rw[H4.l7,<-H.o5,<-H.l6]at ju;have yv:=eW ju GR tW CK EH GM f11;clear ju GR tW CK EH GM f11;unfold pI vw at yv;go_upto_region 13 with (go_at_call 243;refine yv.o0.mono ?_;rintro e Bt ⟨Q1,Q2,rfl,o1,o2,f12,n1,n2⟩;have Br:=aQ o1 o2 f12 n1 n2;clear o1 o2 f12 n1 n2);clear e0 e1 e2 e3 e4;have hmT:(bW b).length<=b.length:=by have:=Kt b 0 l;rw[H4.l7]at this;omega
   have oQ:∀(cs:LN) (n:Nat),n<=400->(aF cs n).length<=2^15:=λcs n hn=>by
    have h2:(aF cs n).length<=n:=by have:=BN (λs=>decide (0<ae cs s)) (List.range n);rw[EW]at this;exact this
    omega
   have Gv:∀x:Nat,x<=100002->x<=2^30:=λx hx=>bP hx (by decide)
   have hA:∀x∈jN b,x<=2^30:=λx hx=>by simp only[jN,mU]at hx;obtain⟨s,_,rfl⟩:=hx;refine Gv _ ?_;have:=Ka (bW b) s;have:=H.o1;have:=H.l6;unfold mH;split<;>split<;>omega
   have hB:∀x∈iX b,x<=2^30:=λx hx=>by simp only[iX,mU]at hx;obtain⟨s,_,rfl⟩:=hx;refine Gv _ ?_;have:=XJ (bW b) s;have:=H.o1;have:=H.l6;omega
   have l1:(jN b).length=286:=by simp[jN]
   have l2:(iX b).length=30:=by simp[iX]
   have NJ:C<w4.heap.size:=by have:=H4.o1;unfold mR at this;exact lt_of_block this
   have Gh:=KQ (some ⟨Q1,0,none⟩) 286 (jN b) 15 Bt (W5 Br.o0 (by decide)) (by decide) (by decide) (by rw[l1];decide) hA (by rw[l1];exact oQ _ _ (by decide));have tQ:=λvI (f:Fr [C] Bt vI)=>KQ (some ⟨Q2,0,none⟩) 30 (iX b) 15 vI (Am (W5 Br.o1 (by decide)) f (λx hx hm=>by have:=Br.l4;have:=HC.l1;have:=H9.o0.size;have:=yv.o2.size;have:=H2.o2;have:=NJ;simp[ag]at hx hm;omega)) (by decide) (by decide) (by rw[l2];decide) hB (by rw[l2];exact oQ _ _ (by decide))
   rw[l1]at Gh;rw[l2]at tQ;have Lq:∀vI,Fr [] Bt vI->vI.cell? ⟨C,2,none⟩=some (.slice a1 288 c1)/\vI.frozen? ⟨C,2,none⟩=false:=λvI f=>by have b3:=yv.o1.fr (Br.o2.trans f) (by simp);exact⟨b3.cells.2.2.1,aT b3 2⟩
   have HG:=cU Gh Lq l1 l2 tQ NJ;clear Gh tQ NJ hA hB oQ hmT Gv Lq l1 l2;unfold ib at HG;go_upto_region 14 with (go_at_call 244;refine HG.out.1.mono ?_;rintro e vI ⟨g1,ll,rfl,ok1,cl1,n1,lt1,f13⟩;obtain⟨x2,z2⟩:=HG.out.2.1 vI f13;have yu:=aQ ok1 cl1 n1 lt1 f13;clear ok1 cl1 n1 lt1 f13);clear x2 z2;obtain⟨Ez,B9⟩:=ah (vI.setCell ⟨C,2,none⟩ (.slice (some ⟨g1,0,none⟩) 286 286));have f14:Fr [C] vI Ez:=by rw[B9];exact (Fr.refl [C] vI).setCell (by simp) _
   have GQ:mR Ez C a al BL cap LL (.slice (some ⟨g1,0,none⟩) 286 286) (.slice a2 30 c2) true:=by rw[B9];exact (yv.o1.fr (Br.o2.trans yu.l4) (by simp)).lit _
   rw[<-B9];clear B9;have tQ:=HG.out.2.2.2.2.1 Ez ((yu.l4.mono (by simp)).trans f14);have mk3:∀yz,Fr [] Ez yz->yz.cell? ⟨C,3,none⟩=some (.slice a2 30 c2)/\yz.frozen? ⟨C,3,none⟩=false:=λyz f=>by have b3:=GQ.fr f (by simp);exact⟨b3.cells.2.2.2.1,aT b3 3⟩
   have CS:=aA tQ mk3 GQ f14;clear tQ mk3 GQ f14;unfold ib at CS;go_upto_region 15 with (go_at_call 244;refine CS.out.1.mono ?_;rintro e yz ⟨g2,dl,rfl,ok2,JC,n2,lt2,f15⟩;obtain⟨x3,z3⟩:=CS.out.2.1 yz f15;have yt:=aQ ok2 JC n2 lt2 f15;clear ok2 JC n2 lt2 f15);clear x3 z3;obtain⟨wU,B8⟩:=ah (yz.setCell ⟨C,3,none⟩ (.slice (some ⟨g2,0,none⟩) 30 30));have f16:Fr [C] yz wU:=by rw[B8];exact (Fr.refl [C] yz).setCell (by simp) _
   have N4:mR wU C a al BL cap LL (.slice (some ⟨g1,0,none⟩) 286 286) (.slice (some ⟨g2,0,none⟩) 30 30) true:=by rw[B8];exact (CS.out.2.2.1.fr yt.l4 (by simp)).jD _
   rw[<-B8];clear B8;have rR:Fr [C] vJ wU:=((((Br.o2.trans yu.l4).mono (by simp)).trans CS.out.2.2.2).trans (yt.l4.mono (by simp))).trans f16;have CJ:Fr [C] w wU:=yv.o3.trans rR;have JV:lib.Rd wU a cap b:=H.o0.uD CJ λx hx hm=>by have:=H.o2 x hx;have:=HC.o0;simp at hm;omega
   have zO:Fr [C] w1 wU:=(H4.o2.trans yv.o2).trans rR;have N0:Cs wU al (bJ l):=H1.o0.fr zO λx hx hm=>by have:=H1.o2 x hx;have:=H2.o2;simp at hm;omega
   have Lu:ll.length=286:=by rw[yu.o0.len];exact HG.out.2.2.1
   have Lt:dl.length=30:=by rw[yt.o0.len];exact HG.out.2.2.2.1
   have NI:C≠g1:=by have:=yu.o2;have:=Br.o2.size;have:=yv.o2.size;have:=HG.out.2.2.2.2.2;omega
   have NH:C≠g2:=by have:=yt.o2;have:=CS.out.2.2.2.size;have:=yu.l4.size;have:=Br.o2.size;have:=yv.o2.size;have:=HG.out.2.2.2.2.2;omega
   have Bv:Ri wU (some ⟨g1,0,none⟩) 286 ll:=⟨yu.o1.fr (CS.out.2.2.2.trans ((yt.l4.mono (by simp)).trans f16)) (by simp[ag];exact λh=>NI h.symm),by omega,by unfold maxLen;omega,λh=>by cases h⟩;have CW:Ri wU (some ⟨g2,0,none⟩) 30 dl:=⟨yt.o1.fr f16 (by simp[ag];exact λh=>NH h.symm),by omega,by unfold maxLen;omega,λh=>by cases h⟩;have tk:=qkg b a al cap BL LL 286 30 l (some ⟨g1,0,none⟩) (some ⟨g2,0,none⟩) 286 30 ll dl true wU H.l6 H.o5 Lu.symm Lt.symm JV N0 H1.o1 H4.o6 H.o3 (by have:=H.o1;omega) Bv CW (by rw[Lu];decide) (by rw[Lu];decide) (by rw[Lt];decide) (by rw[Lt];decide) (λ_=>⟨Lu,Lt⟩) yu.o0.le yt.o0.le (Uf yu.o0) (Uf yt.o0)
    (λx hx=>fM (H.o2 x hx) CJ.size) (λx hx=>fM (H1.o2 x hx) zO.size)
   rw[H4.l7]at tk;have Hf:=aq tk CJ rR;obtain⟨e0,e1,e2,e3,e4⟩:=N4.cells;clear tk N4 f16 rR CJ JV N0 zO Lu Lt NI NH Bv CW;unfold aZ at Hf;go_upto_region 16 with (go_at_call 242;refine Hf.o0.mono ?_;rintro e X9 ⟨bd,QM,dW,o17,rfl,Yl,n17,f17⟩;have JK:=aQ QM dW Yl n17 f17;clear QM dW Yl n17 f17);clear e0 e1 e2 e3 e4;obtain⟨RM,Fo⟩:=ah ((bytesOf bd).length);rw[<-Fo];have G7:=af Fo;clear Fo;have fin:Fr [] w X9:=qmy (Hf.o1.step JK.l4 (by simp)) (λx hx=>by simp at hx;rw[hx];exact HC.o0);have A7:CT b bd:=⟨ll,dl,yu.o0,yt.o0,JK.o0⟩;have HF:=ai fin A7;clear fin A7;have res:∀(r':LB),(r'=bytesOf bf\/r'=aL b\/∃bd,CT b bd/\r'=bytesOf bd)->r'.length<=x6->r'.length<=x8->rU b level r':=λr' h1 h2 h3=>⟨bf,H6.o0,λh=>absurd h kD,λ_=>⟨h1,by rw[<-Rs.out];exact h2,by rw[<-WG.out];exact h3⟩⟩
   have HR:=af res;clear res;by_cases bF:RM<n
   ·have q3:decide ((RM:Int)<(n:Int))=true:=by simpa using bF
    go_wp2;go_ret;refine⟨bytesOf bd,HR.out _ (.inr (.inr ⟨bd,HF.l1,rfl⟩)) ?_ ?_,o17,by rw[G7.out];rfl,JK.o2,λx hx=>⟨bP Hf.o1.size (JK.o3 x hx).1,(JK.o3 x hx).2⟩,HF.o0⟩
    ·rw[<-G7.out];have:=HO.out.2.2.2.2.1;omega
    ·rw[<-G7.out];have:=HO.out.2.2.2.2.2;omega
   ·have q3:decide ((RM:Int)<(n:Int))=false:=by simpa using bF
    go_wp2;go_ret;have fo:Fr [C] wc X9:=(yv.l6.trans Hf.l2).step JK.l4 (by simp);obtain⟨hn,Bw,xh,hr,Qu,kM⟩:=HO.out;subst hn;exact⟨r,HR.out r (hr.elim .inl λh=>.inr (.inl h)) Qu kM,o,rfl,Bw.uD fo (λx hx hm=>by have:=(xh x hx).1;have:=HG.out.2.2.2.2.2;simp at hm;omega),λx hx=>⟨bP H4.o3.size (xh x hx).1,fM (xh x hx).2 fo.size⟩,HF.o0⟩
end defl
namespace trip
open Go lib bm bl huf inf defl mat
variable {b bs xs:LB} {a c i m n q r s:Nat} {l x y:List Bool} {dl ll ls:LN}
def At (bs:LB) (a:Nat) (l:List Bool):Prop:=∃p r,ak bs=p++(l++r)/\p.length=a
theorem At.left (h:At bs a (x++y)):At bs a x:=by obtain⟨p,r,h1,h2⟩:=h;exact⟨p,y++r,by rw[h1,fU],h2⟩
theorem At.right (h:At bs a (x++y)):At bs (a+x.length) y:=by obtain⟨p,r,h1,h2⟩:=h;exact⟨p++x,r,by rw[h1];simp,by rw[aG,h2]⟩
theorem At.drop {bs:LB} {a:Nat} {l:List Bool} (h:At bs a l):∃r,(ak bs).drop a=l++r:=by obtain⟨p,r,h1,h2⟩:=h;exact⟨r,by rw[h1,<-h2,List.drop_left]⟩
theorem At.le (h:At bs a l):a+l.length<=8*bs.length:=by obtain⟨p,r,h1,h2⟩:=h;have:=congrArg List.length h1;rw[su,aG,aG]at this;omega
theorem At.of {r:List Bool} (h:ak bs=l++r):At bs 0 l:=⟨[],r,by rw[h];rfl,rfl⟩
theorem wZ {v:Nat} (h:At bs a (dA n v)) (hv:v<2^n):aX bs a n = .ok (v,a+n):=by
 have hl:=h.le;rw[ar]at hl;obtain⟨r,hr⟩:=h.drop;unfold aX;have e:(dA n v++r).take n=dA n v:=by rw[DF (by rw[ar];exact ax _),lL (by rw[ar];exact ax _)]
 rw[if_pos hl,hr,e,Pc,Ic hv]
theorem bC (ls:LN) (s:Nat):(bS ls s).length=ae ls s:=by unfold bS;rw[Dq]
theorem J5 (h:At bs a (bS ls s)) (hle:∀l∈ls,l<=15) (hw:weight ls<=32768) (h0:0<ae ls s):kL bs ls a = .ok (s,a+ae ls s):=by
 obtain⟨r,hr⟩:=h.drop;have e:bS ls s=msb (ae ls s) (code ls s):=by unfold bS cE;rw[if_neg (by omega)]
 rw[e]at hr;have:=qzk ls s hle hw h0 r;unfold huf.read at this;unfold kL;rw[hr,this];rfl
theorem ziu (h3:3<=n) (iB:n<=258) (h:At bs a (dA (bx n).2.2 (bx n).2.1)):cB bs (bx n).1 a = .ok (n,a+(bx n).2.2):=by
 by_cases sJ:n<11
 ·have e:bx n=(n+254,0,0):=by unfold bx;rw[if_pos sJ]
  rw[e];unfold cB;dsimp only;rw[if_pos (by omega),Du];rfl
 ·by_cases h8:n=258
  ·subst h8;have e:bx 258=(285,0,0):=rfl;rw[e];rfl
  ·obtain⟨w,w1,w5,k1,k2⟩:=ZY (n:=n) (by omega) (by omega);have e:=SI (by omega) h8 k1 k2;rw[e]at h ⊢;have hp:=mC w;obtain⟨q,hq⟩:=ah ((n-3)/2^w);have q4:4<=q:=by rw[hq,Nat.le_div_iff_mul_le hp];exact k1
   have q8:q<8:=by rw[hq,Dy hp];exact k2
   have hd:=Hu (n-3) (2^w);rw[<-hq]at hd ⊢;unfold cB;dsimp only at h ⊢;rw[if_neg (by omega),if_neg (by omega),show (257+4*w+q-261)/4=w from by omega,wZ h (xS _ hp)];dsimp only;rw[show (257+4*w+q-265)%4=q-4 from by omega,show 4+(q-4)=q from by omega,pO q];rw[pP,hd,show 3+(n-3)=n from by omega]
theorem zhy (h1:1<=n) (hn:n<=32768) (h:At bs a (dA (cu n).2.2 (cu n).2.1)):fZ bs (cu n).1 a = .ok (n,a+(cu n).2.2):=by
 by_cases h5:n<5
 ·have e:cu n=(n-1,0,0):=by unfold cu;rw[if_pos h5]
  rw[e];unfold fZ;dsimp only;rw[if_pos (by omega),show n-1+1=n from by omega];rfl
 ·obtain⟨w,w1,w5,k1,k2⟩:=ZN (n:=n) (by omega) (by omega);have e:=SR (by omega) k1 k2;rw[e]at h ⊢;have hp:=mC w;obtain⟨q,hq⟩:=ah ((n-1)/2^w);have q4:2<=q:=by rw[hq,Nat.le_div_iff_mul_le hp];exact k1
  have q8:q<4:=by rw[hq,Dy hp];exact k2
  have hd:=Hu (n-1) (2^w);rw[<-hq]at hd ⊢;unfold fZ;dsimp only at h ⊢;rw[if_neg (by omega),show (2*w+q-2)/2=w from by omega,wZ h (xS _ hp)];dsimp only;rw[show 2+(2*w+q)%2=q from by omega,pO q];rw[pP,hd,show 1+(n-1)=n from by omega]
theorem qyw (h:i<b.length):b.take i++[b[i]]=b.take (i+1):=by rw[BJ,dm h];rfl
theorem Xr (h:i<b.length) (hm:b.length<=m):iy m (b.take i) b[i] = .ok (b.take (i+1)):=by unfold iy;rw[if_neg (by rw[fH];omega),qyw h]
theorem XF {b:LB} {i d m:Nat} (hd:1<=d) (xC:d<=i) (hm:b.length<=m):∀(n k:Nat),i+k+n<=b.length->(∀j,j<k+n->b[i+j]?=b[i+j-d]?)->
  gR m d n (b.take (i+k)) = .ok (b.take (i+k+n))
 | 0,k,_,_=>rfl
 | n+1,k,hl,h=>by
  have hlen:(b.take (i+k)).length=i+k:=by rw[fH];omega
  have hb:(b.take (i+k))[i+k-d]?=b[i+k-d]?:=by rw[List.getElem?_take_of_lt (by omega)]
  have hk:i+k<b.length:=by omega
  have h1:=h k (by omega);rw[gR,hlen,hb,<-h1,dm hk,ES,Xr hk hm];dsimp only;have:=XF hd xC hm n (k+1) (by omega) (λj hj=>h j (by omega));rw[show i+k+(n+1)=i+(k+1)+n from by omega];exact this
theorem zem (h3:3<=n) (iB:n<=258):¬(bx n).1<256/\¬(bx n).1=256/\¬286<=(bx n).1:=by have:=Kw h3 iB;omega
theorem zgr (hr:r<=32768) (hm:b.length<=m) (iR:∀l∈ll,l<=15) (fO:∀l∈dl,l<=15) (aJ:weight ll<=32768) (cC:weight dl<=32768) (zJ:0<ae ll 256) :
  ∀(k i:Nat) (l:List Mt) (f a:Nat),k=b.length-i->i<=b.length->cH b r i l->(∀x∈br b i l,0<ae ll (ka x))->(∀x∈br b i l,∀s,nS x=some s->0<ae dl s)->(br b i l).length<f->
   At bs a (bw ll dl (br b i l)++bS ll 256)->cq bs m ll dl f (b.take i) a = .ok (b,a+(bw ll dl (br b i l)).length+ae ll 256):=by
 intro k;induction k using Nat.strongRecOn with
 | ind k ih=>
  intro i l f a hk tO cj kD kj hf dc;obtain⟨f,rfl⟩:∃g,f=g+1:=⟨f-1,by omega⟩;by_cases h:i<b.length
  ·have lit:∀l,cH b r (i+1) l->br b i l = .lit b[i]::br b (i+1) l->(∀x∈br b i l,0<ae ll (ka x))->(∀x∈br b i l,∀s,nS x=some s->0<ae dl s)->(br b i l).length<f+1->
     At bs a (bw ll dl (br b i l)++bS ll 256)->cq bs m ll dl (f+1) (b.take i) a = .ok (b,a+(bw ll dl (br b i l)).length+ae ll 256):=by
    intro l cj he kD kj hf dc
    rw[he]at kD kj hf dc ⊢
    have e:bw ll dl (.lit b[i]::br b (i+1) l)=bS ll b[i].toNat++bw ll dl (br b (i+1) l):=rfl
    rw[e]at dc ⊢
    rw[fU]at dc
    have hs:=J5 dc.left iR aJ (kD _ sT)
    have bF:b[i].toNat<256:=b[i].toNat_lt
    rw[cq,hs]
    dsimp only
    rw[if_pos bF,UInt8.ofNat_toNat,Xr h hm]
    dsimp only
    have:=ih (b.length-(i+1)) (by omega) (i+1) l f (a+ae ll b[i].toNat) rfl (by omega) cj (λx hx=>kD x (oH _ hx)) (λx hx=>kj x (oH _ hx)) (by simp only[dw]at hf;omega)
     (by have:=dc.right;rwa [bC]at this)
    rw[this,aG,bC]
    congr 2
    omega
   match l,cj with
   | [],cj=>exact lit [] trivial (EY h (λa n d t he=>by cases he)) kD kj hf dc
   | (q,n,d)::t,cj=>
    by_cases hc:q=i
    ·subst hc
     have gp:=cj
     obtain⟨k1,k2,k3,k4,k5,k6,k7,k8,k9⟩:=gp
     have he:br b q ((q,n,d)::t) = .mat n d::br b (q+n) t:=Pr h (by omega)
     rw[he]at kD kj hf dc ⊢
     have e:bw ll dl (.mat n d::br b (q+n) t)=bS ll (bx n).1++(dA (bx n).2.2 (bx n).2.1++(bS dl (cu d).1++(dA (cu d).2.2 (cu d).2.1++bw ll dl (br b (q+n) t)))):=by simp only[bw,qd,gw,fU]
     rw[e]at dc ⊢
     simp only[fU]at dc
     have hs:=J5 dc.left iR aJ (kD _ sT)
     have t1:=dc.right
     rw[bC]at t1
     have ep:=ziu k2 k3 t1.left
     have t2:=t1.right
     rw[ar]at t2
     have sw:=J5 t2.left fO cC (kj _ sT _ rfl)
     have t3:=t2.right
     rw[bC]at t3
     have Cg:=zhy k4 (by omega) t3.left
     have t4:=t3.right
     rw[ar]at t4
     have zbD:=(Kv k4 (show d<=32768 by omega)).1
     have vd:=XF (b:=b) (i:=q) (d:=d) (m:=m) k4 k6 hm n 0 (by omega) (λj hj=>k8 j (by omega))
     rw[pN]at vd
     have Jh:dO bs m dl (bx n).1 (b.take q) (a+ae ll (bx n).1) = .ok (b.take (q+n),a+ae ll (bx n).1+(bx n).2.2+ae dl (cu d).1+(cu d).2.2):=by
      unfold dO
      rw[ep]
      dsimp only
      rw[sw]
      dsimp only
      rw[if_neg (by omega),Cg]
      dsimp only
      rw[if_neg (by rw[fH];omega),vd]
     obtain⟨c1,c2,c3⟩:=zem k2 k3
     rw[cq,hs]
     dsimp only
     rw[if_neg c1,if_neg c2,if_neg c3,Jh]
     dsimp only
     have:=ih (b.length-(q+n)) (by omega) (q+n) t f _ rfl k7 k9 (λx hx=>kD x (oH _ hx)) (λx hx=>kj x (oH _ hx)) (by simp only[dw]at hf;omega) t4
     rw[this]
     simp only[aG,bC,ar]
     congr 2
     omega
    ·exact lit _ (TF cj _ _ _ _ rfl hc) (EY h (λa2 n2 d2 t2 xB=>by simp only[Ht,gq]at xB;rw[<-xB.1.1];exact hc)) kD kj hf dc
  ·have he:br b i l=[]:=Pq (by omega);rw[he]at dc ⊢;have e:bw ll dl []=[]:=rfl;rw[e,sS]at dc;rw[cq,J5 dc iR aJ zJ];dsimp only;rw[if_neg (by omega),if_pos rfl,e,jK,pN,lL (by omega)]
theorem At.bytes (h:At bs (8*q) (ak xs)):(bs.drop q).take xs.length=xs:=by obtain⟨r,hr⟩:=h.drop;refine qp8 ?_;rw[qx9,hr,DF (by rw[su];exact ax _),lL (by rw[su];exact ax _)]
theorem ZL (h:(bs.drop q).take xs.length=xs) (i:Nat) (hi:i<xs.length):bs[q+i]?=xs[i]?:=by rw[<-h,List.getElem?_take_of_lt hi,EZ]
theorem KF {bs:LB} {m:Nat}:∀(xs out:LB) (q:Nat),(∀i,i<xs.length->bs[q+i]?=xs[i]?)->out.length+xs.length<=m->bY bs m xs.length out q = .ok (out++xs,8*(q+xs.length))
 | [],out,q,_,_=>by simp[bY]
 | x::xs,out,q,h,hm=>by
  have h0:=h 0 (by simp);rw[pN,dk]at h0;have hq:q<bs.length:=by
   rcases kT q bs.length with k|k
   ·exact k
   ·rw[sq k]at h0;cases h0
  simp only[dw]at hm;rw[dw,bY,if_pos hq,h0,ES];unfold iy;rw[if_neg (by omega)];dsimp only;have:=KF (bs:=bs) (m:=m) xs (out++[x]) (q+1) (λi hi=>by
   have:=h (i+1) (by simp only[dw];omega)
   rwa [dU,show q+(i+1)=q+1+i from by omega]at this) (by rw[aG,dw,jK];omega)
  rw[this];simp only[fU,List.singleton_append];congr 2;omega
theorem Pt {x:UInt8} (h:bs[i]?=some x):aI bs i=x.toNat:=by unfold aI;rw[h];rfl
theorem qy5 {last:Bool} {out:LB} (h:At bs 0 (aR l last b)) (hb:b.length<=65535) (hm:out.length+b.length<=m) :
  dV bs m out (l.length+3) = .ok (out++b,(aR l last b).length)/\aX bs l.length 1 = .ok (if last then 1 else 0,l.length+1)/\aX bs (l.length+1) 2 = .ok (0,l.length+1+2):=by
 have hL:(aR l last b).length=8*((l.length+10)/8+4+b.length):=by rw[IZ];omega
 have hle:=h.le;rw[hL,iN]at hle;have hp:(eG (l++last::dA 2 0)).length=8*((l.length+10)/8):=by rw[I0];simp only[aG,dw,ar];rw[pO]
 unfold aR at h;have h1:=h.right;rw[aG,hp,su,iN]at h1;have hs:(ox b.length).length=4:=rfl;rw[hs,show 8*((l.length+10)/8)+8*4=8*((l.length+10)/8+4) from by omega]at h1;have h2:=h.left.right;rw[hp,iN]at h2;have h3:=h.left.left;unfold eG at h3;have h4:=h3.left.right;rw[iN]at h4;have g:=ZL h2.bytes;rw[hs]at g;have g0:=Pt (g 0 (by decide));have g1:=Pt (g 1 (by decide));have g2:=Pt (g 2 (by decide));have g3:=Pt (g 3 (by decide));rw[pN]at g0;rw[xd]at g0 g1 g2 g3;have e:(l.length+3+7)/8=(l.length+10)/8:=rfl;refine⟨?_,?_,?_⟩
 ·unfold dV;rw[e,if_pos (by omega),g0,g1,g2,g3,if_pos (by omega)];have hn:b.length%2^8+256*(b.length/256%2^8)=b.length:=by omega
  rw[hn,KF b out _ (ZL h1.bytes) hm,hL]
 ·have:At bs l.length (dA 1 (if last then 1 else 0)):=by have h5:At bs l.length ([last]++dA 2 0):=h4;have:=h5.left;cases last<;>exact this
  exact wZ this (by cases last<;>decide)
 ·have h5:At bs l.length ([last]++dA 2 0):=h4;exact wZ h5.right (by decide)
theorem qng (l:List Bool) (last:Bool) (b:LB):∃r,aR l last b=l++r:=
 ⟨_,by unfold aR eG;rw[fU,fU,fU]⟩
theorem qiw:∀(cs:List (List UInt8)) (l:List Bool),∃r,aH l cs=l++r
 | [],l=>⟨[],by rw[aH,nX]⟩
 | b::t,l=>by obtain⟨r,hr⟩:=qiw t (aR l t.isEmpty b);obtain⟨q,hq⟩:=qng l t.isEmpty b;exact⟨q++r,by rw[aH,hr,hq,fU]⟩
theorem Xf {bs:LB} {m:Nat}:∀(cs:List (List UInt8)) (l:List Bool) (out:LB) (f:Nat),cs≠[]->At bs 0 (aH l cs)->(∀c∈cs,c.length<=65535)->out.length+cs.flatten.length<=m->cs.length<=f->
  cP bs m f out l.length = .ok (out++cs.flatten,(aH l cs).length)
 | [],_,_,_,h,_,_,_,_=>absurd rfl h
 | b::t,l,out,f,_,dc,hc,hm,hf=>by
  obtain⟨f,rfl⟩:∃g,f=g+1:=⟨f-1,by simp only[dw]at hf;omega⟩;obtain⟨r,hr⟩:=qiw t (aR l t.isEmpty b);rw[aH]at dc ⊢;have h0:=dc;rw[hr]at h0;rw[List.flatten_cons,aG]at hm;obtain⟨k1,k2,k3⟩:=qy5 (m:=m) (out:=out) h0.left (hc b sT) (by omega);rw[cP,k2];dsimp only;rw[k3];dsimp only;rw[if_neg (by decide)];unfold dP;rw[if_pos rfl,k1];dsimp only;match t,hc,hm,hf,dc with
  | [],hc,hm,hf,dc=>simp[aH]
  | c::t,hc,hm,hf,dc=>rw[if_pos (show (if (c::t).isEmpty=true then 1 else 0:Nat)=0 by simp)];have:=Xf (bs:=bs) (m:=m) (c::t) (aR l (c::t).isEmpty b) (out++b) f (by simp) dc (λx hx=>hc x (oH _ hx)) (by rw[aG];omega) (by simp only[dw]at hf ⊢;omega);rw[this,List.flatten_cons (l:=b),fU]
theorem chunks_flatten:∀(f:Nat) (b:LB),(chunks f b).flatten=b
 | 0,b=>by simp[chunks]
 | f+1,b=>by
  rw[chunks];split
  ·rw[List.flatten_cons,chunks_flatten f,BP]
  ·simp
theorem Z8:∀(f:Nat) (b:LB),b.length<=f->∀c∈chunks f b,c.length<=65535
 | 0,b,h,c,hc=>by simp[chunks]at hc;subst hc;omega
 | f+1,b,h,c,hc=>by
  rw[chunks]at hc;split at hc
  ·rcases eX.1 hc with e|e
   ·rw[e,fH];omega
   ·exact Z8 f _ (by rw[gN];omega) c e
  ·simp at hc;subst hc;omega
theorem zb3 (f:Nat) (b:LB):chunks f b≠[]:=by
 cases f with
 | zero=>simp[chunks]
 | succ f=>rw[chunks];split<;>simp
theorem Xz:∀(cs:List (List UInt8)) (l:List Bool),l.length+cs.length<=(aH l cs).length
 | [],l=>by simp[aH]
 | b::t,l=>by rw[aH];have:=Xz t (aR l t.isEmpty b);rw[IZ]at this;simp only[dw];omega
theorem SD (l:List Bool) (ext:LB):At (bytesOf l++ext) 0 l:=by refine At.of (r:=List.replicate (pad l.length) false++ak ext) ?_;rw[qkv,qsc];unfold eG;rw[fU]
theorem qn3 (b ext:LB) (m:Nat) (hm:b.length<=m):jw (aL b++ext) m = .ok (b,(aL b).length):=by
 have dc:=SD (gI b) ext;have hf:(chunks b.length b).length<=fuel (aL b++ext):=by have h1:=Xz (chunks b.length b) [];have h2:=dc.le;unfold gI at h2;unfold aL fuel;unfold gI;simp only[jK]at h1;omega
 have:=Xf (bs:=aL b++ext) (m:=m) (chunks b.length b) [] [] _ (zb3 _ _) dc (Z8 _ b (ax _)) (by rw[chunks_flatten];simpa using hm) hf;rw[chunks_flatten,sS]at this;unfold jw;rw[jK]at this;rw[this];dsimp only;rw[show (aL b).length=((gI b).length+7)/8 from BQ _];rfl
theorem qol (h:∀i,n<=i->i<ls.length->ae ls i=0):∀x∈ls.drop n,x=0:=by
 intro x hx;obtain⟨i,hi⟩:=List.getElem?_of_mem hx;rw[EZ]at hi;have hl:n+i<ls.length:=by
  rcases kT (n+i) ls.length with k|k
  ·exact k
  ·rw[sq k]at hi;cases hi
 have:=h (n+i) (by omega) hl;unfold ae at this;rw[hi]at this;exact this
theorem E6 (h:∀i,n<=i->i<ls.length->ae ls i=0) (i:Nat):ae (ls.take n) i=ae ls i:=by
 by_cases hi:i<n
 ·unfold ae;rw[List.getElem?_take_of_lt hi]
 ·have e:ae (ls.take n) i=0:=by unfold ae;rw[sq (by rw[fH];omega)];rfl
  rw[e];by_cases hl:i<ls.length
  ·exact (h i (by omega) hl).symm
  ·unfold ae;rw[sq (by omega)];rfl
theorem qud {l:LN} (h:∀x∈l,x=0) (hc:c≠0):l.count c=0:=
 List.count_eq_zero.2 λhm=>hc (h c hm)
theorem qx4 (h:∀i,n<=i->i<ls.length->ae ls i=0) (hc:c≠0):(ls.take n).count c=ls.count c:=by
 conv=>rhs;rw[<-BP n ls,Df,qud (qol h) hc]
 rfl
theorem Zg {ls:LN} {n:Nat} (h:∀i,n<=i->i<ls.length->ae ls i=0):∀l,gJ (ls.take n) l=gJ ls l
 | 0=>rfl
 | l+1=>by
  rw[gJ,gJ,Zg h l];by_cases h0:l=0
  ·rw[if_pos h0,if_pos h0]
  ·rw[if_neg h0,if_neg h0,qx4 h h0]
theorem TN (h:∀i,n<=i->i<ls.length->ae ls i=0):bS (ls.take n)=bS ls:=by
 funext s;unfold bS;rw[E6 h];by_cases h0:ae ls s=0
 ·rw[h0];unfold cE;rw[E6 h,if_pos h0,if_pos h0]
 ·have hs:s<n:=by
   rcases kT s n with k|k
   ·exact k
   ·exact absurd (h s k (xU (by omega))) h0
  unfold cE;rw[E6 h,if_neg h0,if_neg h0];unfold code;rw[E6 h,Zg h,EM,vP (by omega)]
theorem KZ:∀a b:List Nat,weight (a++b)=weight a+weight b
 | [],b=>by simp[weight]
 | x::a,b=>by rw[uo,weight,weight,KZ a b];omega
theorem qki:∀{l:LN},(∀x∈l,x=0)->weight l=0
 | [],_=>rfl
 | x::l,h=>by rw[weight,qki λy hy=>h y (oH _ hy),if_pos (h x sT)]
theorem PX (h:∀i,n<=i->i<ls.length->ae ls i=0):weight (ls.take n)=weight ls:=by
 conv=>rhs;rw[<-BP n ls,KZ,qki (qol h)]
 rfl
theorem zbe:fixed 288=oh 288:=by decide +kernel
theorem zbf:∀s,s<30->bS (List.replicate 32 5) s=bS (List.replicate 30 5) s:=by decide +kernel
theorem ze6:∀s,s<30->0<ae (List.replicate 32 5) s:=by decide +kernel
theorem XA:∀s,s<286->0<ae (oh 288) s:=by decide +kernel
theorem GJ:weight (List.replicate 32 5)=32768:=by decide +kernel
theorem Zv (hr:r<=32768) {l:List Mt} (cj:cH b r 0 l):∀x∈br b 0 l,ka x<286/\ka x≠256/\∀s,nS x=some s->s<30:=by
 intro x hx;cases x with
 | lit c=>
  have:c.toNat<256:=c.toNat_lt;exact⟨by show c.toNat<286;omega,by show c.toNat≠256;omega,λs h=>by cases h⟩
 | mat n d=>
  obtain⟨k1,k2,k3,k4⟩:=Sz hr (b.length-0) 0 l rfl cj _ hx n d rfl;have h1:=Kw k1 k2;have h2:=Kv k3 k4;refine⟨h1.2.1,by show (bx n).1≠256;omega,λs h=>?_⟩;have:(cu d).1=s:=by simpa[nS] using h
  omega
theorem qoj {α β:Type} {f g:α->List β}:∀{l:List α},(∀x∈l,f x=g x)->l.flatMap f=l.flatMap g
 | [],_=>rfl
 | x::l,h=>by rw[qd,qd,h x sT,qoj λy hy=>h y (oH _ hy)]
theorem qkj {ll' dl':LN} {T:List Tok} (h1:∀x∈T,bS ll (ka x)=bS ll' (ka x)) (h2:∀x∈T,∀s,nS x=some s->bS dl s=bS dl' s):bw ll dl T=bw ll' dl' T:=by
 unfold bw;refine qoj λx hx=>?_
 cases x with
 | lit c=>exact h1 _ hx
 | mat n d=>have k1:=h1 _ hx;have k2:=h2 _ hx _ rfl;simp only[gw];rw[show ka (.mat n d)=(bx n).1 from rfl]at k1;rw[k1,k2]
theorem qkk {ll dl:LN}:∀{T:List Tok},(∀x∈T,0<ae ll (ka x))->T.length<=(bw ll dl T).length
 | [],_=>eE _
 | x::T,h=>by
  have ih:=qkk (dl:=dl) (T:=T) λy hy=>h y (oH _ hy)
  have h0:=h x sT;have e:bw ll dl (x::T)=gw ll dl x++bw ll dl T:=rfl;have h1:1<=(gw ll dl x).length:=by
   cases x with
   | lit c=>rw[gw,bC];exact h0
   | mat n d=>have:0<ae ll (bx n).1:=h0;simp only[gw,aG,bC];omega
  rw[e,aG,dw];omega
theorem YO {l:List Mt} (hr:r<=32768) (cj:cH b r 0 l) (hm:b.length<=m) (iR:∀l∈ll,l<=15) (fO:∀l∈dl,l<=15) (aJ:weight ll<=32768) (cC:weight dl<=32768)
  (zJ:0<ae ll 256) (h1:∀x∈br b 0 l,0<ae ll (ka x)) (h2:∀x∈br b 0 l,∀s,nS x=some s->0<ae dl s) (dc:At bs a (bw ll dl (br b 0 l)++bS ll 256)) :
  cq bs m ll dl (fuel bs) [] a = .ok (b,a+(bw ll dl (br b 0 l)++bS ll 256).length):=by
 have hf:(br b 0 l).length<fuel bs:=by have k1:=dc.le;have k2:=qkk (dl:=dl) h1;rw[aG,bC]at k1;unfold fuel;omega
 have:=zgr (b:=b) hr hm iR fO aJ cC zJ (b.length-0) 0 l (fuel bs) a rfl (eE _) cj h1 h2 hf dc;rw[sW]at this;rw[this,aG,bC,pP]
theorem qop {h:Nat} {body:List Bool} (hh:h<3) (dc:At bs 0 ([true]++dA 2 h++body)) (hf:0<fuel bs)
  (hb:dP bs m h [] 3 = .ok (b,3+body.length)):cP bs m (fuel bs) [] 0 = .ok (b,([true]++dA 2 h++body).length):=by
 obtain⟨f,hf'⟩:∃f,fuel bs=f+1:=⟨fuel bs-1,by omega⟩;have k1:aX bs 0 1 = .ok (1,1):=wZ (n:=1) (v:=1) dc.left.left (by decide);have k2:aX bs 1 2 = .ok (h,3):=wZ (n:=2) (v:=h) dc.left.right (by omega);rw[hf',cP,k1];dsimp only;rw[k2];dsimp only;rw[if_neg (by omega),hb];dsimp only;rw[if_neg (by decide)];simp only[aG,dw,jK,ar]
theorem Zq (bs:LB):0<fuel bs:=by unfold fuel;omega
theorem XT {bb:List Bool} (h:cP bs m (fuel bs) [] 0 = .ok (b,bb.length)):jw bs m = .ok (b,(bytesOf bb).length):=by unfold jw;rw[h,BQ]
theorem qok {bf:List Bool} (h:vD b bf) (ext:LB) (m:Nat) (hm:b.length<=m):jw (bytesOf bf++ext) m = .ok (b,(bytesOf bf).length):=by
 obtain⟨hd,e,h0,_⟩:=h;rw[h0 rfl]at e;have cj:cH b 32768 0 (xV b 32768):=by simpa using PZ b 32768
 have DK:=Zv (ax _) cj;have e2:bf=[true]++dA 2 1++(bw (oh 288) (List.replicate 32 5) (bW b)++bS (oh 288) 256):=by rw[e];simp only[Bool.false_eq_true,if_false,nX,fU];rw[qkj (T:=bW b) (λ_ _=>rfl) λx hx s hs=>(zbf s ((DK x hx).2.2 s hs)).symm]
 obtain⟨bs,tU⟩:=ah (bytesOf bf++ext);have dc:At bs 0 bf:=by rw[tU];exact SD bf ext
 rw[<-tU];refine XT ?_;rw[e2]at dc ⊢;refine qop (by decide) dc (Zq bs) ?_;unfold dP;rw[if_neg (by decide),if_pos rfl];unfold uN;rw[zbe];have a3:=dc.right;exact YO (ax _) cj hm OH (λx hx=>by rw[List.eq_of_mem_replicate hx];decide) (by rw[qov];exact ax _) (by rw[GJ];exact ax _) (XA 256 (by decide)) (λx hx=>XA _ (DK x hx).1) (λx hx s hs=>ze6 s ((DK x hx).2.2 s hs)) a3
theorem zel (h:∀l∈ls,l<=c) (i:Nat):ae ls i<=c:=by
 unfold ae;cases e:ls[i]? with
 | none=>simp
 | some x=>simpa using h x (j5 e)
theorem Zn {bs:LB} {cl:LN} (hle:∀l∈cl,l<=7):∀(ps fs:LN) (a:Nat),At bs a (ps.flatMap λi=>dA 3 (ae cl i))->
  dZ bs ps fs a = .ok (ps.foldl (λfs i=>fs.set i (ae cl i)) fs,a+(ps.flatMap λi=>dA 3 (ae cl i)).length)
 | [],fs,a,_=>rfl
 | i::t,fs,a,h=>by rw[qd]at h ⊢;have k:=wZ h.left (show ae cl i<2^3 by have:=zel hle i;omega);have h2:=h.right;rw[ar]at h2;rw[dZ,k];dsimp only;rw[Zn hle t _ _ h2,List.foldl_cons,aG,ar,pP]
theorem ZT {cl:LN}:∀(ps fs:LN) (j:Nat),(ps.foldl (λfs i=>fs.set i (ae cl i)) fs)[j]?=if j∈ps/\j<fs.length then some (ae cl j) else fs[j]?
 | [],fs,j=>by simp
 | p::ps,fs,j=>by
  rw[List.foldl_cons,ZT ps,Dc];by_cases h1:j∈ps/\j<fs.length
  ·rw[if_pos h1,if_pos ⟨oH _ h1.1,h1.2⟩]
  ·rw[if_neg h1,List.getElem?_set];by_cases h2:p=j
   ·subst h2;by_cases h3:p<fs.length
    ·rw[if_pos rfl,if_pos h3,if_pos ⟨sT,h3⟩]
    ·rw[if_pos rfl,if_neg h3,if_neg (λh=>h3 h.2),sq (by omega)]
   ·rw[if_neg h2,if_neg];rintro⟨h3,h4⟩;rcases eX.1 h3 with e|e
    ·exact h2 e.symm
    ·exact h1 ⟨e,h4⟩
theorem qmc:∀n,n<=19->places.take n=(List.range n).map ord:=by decide +kernel
theorem zhb:∀j,j<19->∃i,i<19/\ord i=j:=by decide +kernel
theorem zbg {cl:LN} {nc:Nat} (hl:cl.length=19) (hn:nc<=19) (hz:∀i,nc<=i->i<19->ae cl (ord i)=0) :
  (places.take nc).foldl (λfs i=>fs.set i (ae cl i)) (List.replicate 19 0)=cl:=by
 refine Ih λj=>?_
 rw[ZT,yP];by_cases hj:j<19
 ·have hc:cl[j]?=some (ae cl j):=by unfold ae;rw[dm (by omega)];rfl
  rw[hc];by_cases hm:j∈places.take nc
  ·rw[if_pos ⟨hm,hj⟩]
  ·rw[if_neg λh=>hm h.1];obtain⟨i,hi,he⟩:=zhb j hj;have xv:nc<=i:=by
    rcases kT i nc with k|k
    ·refine absurd ?_ hm;rw[qmc nc hn,<-he];exact Ix (uH.2 k)
    ·exact k
   have:=hz i xv hi;rw[he]at this;rw[this,Kk,if_pos hj]
 ·rw[if_neg λh=>hj h.2,sq (by rw[yP];omega),sq (by omega)]
theorem XW {bs:LB} {cl:LN} {n:Nat} (hle:∀l∈cl,l<=15) (hw:weight cl<=32768):∀(rs:List Rn) (out fin:LN) (f a:Nat),bN out rs fin->fin.length=n->(∀r∈rs,0<ae cl r.1)->rs.length<f->
  At bs a (rs.flatMap (fg cl))->cr bs cl n f out a = .ok (fin,a+(rs.flatMap (fg cl)).length)
 | [],out,fin,f,a,h,hn,_,hf,_=>by
  obtain⟨f,rfl⟩:∃g,f=g+1:=⟨f-1,by omega⟩;obtain rfl:out=fin:=h;rw[cr,if_pos (by omega)];rfl
 | r::rs,out,fin,f,a,h,hn,hu,hf,dc=>by
  obtain⟨f,rfl⟩:∃g,f=g+1:=⟨f-1,by omega⟩;have hlen:=bN.len h;have jl:=bN.len h.2;simp only[dw]at hlen hf;rw[qd]at dc ⊢;have h1:=dc.left;unfold fg at h1;have hs:=J5 h1.left hle hw (hu r sT);have h2:=h1.right;rw[bC]at h2;have h3:=dc.right;have ih:=XW (n:=n) hle hw rs (kq out r) fin f _ h.2 hn (λx hx=>hu x (oH _ hx)) (by omega) h3;have e:(fg cl r).length=ae cl r.1+r.2.2:=by unfold fg;rw[aG,bC,ar]
  rw[e]at ih;rw[cr,if_neg (by omega),hs];dsimp only;rw[aG,e];rcases h.1 with⟨c1,c2,c3⟩|⟨c1,c2,c3,c4⟩|⟨c1,c2,c3⟩|⟨c1,c2,c3⟩
  ·rw[if_pos (by omega)];unfold kq at ih;rw[if_pos (by omega),c3,pN]at ih;rw[ih,c3];congr 2;omega
  ·rw[c3]at h2 ih;have hv:=wZ h2 (show r.2.1<2^2 by omega);unfold kq at ih jl;rw[if_neg (by omega),if_pos c1]at ih jl;rw[aG,yP]at jl;have w1:wide 16=2:=rfl;have l1:least 16=3:=rfl;rw[c1]at hs hv ih ⊢;rw[if_neg (by decide),w1,hv];dsimp only;rw[l1,if_neg (λh=>h.elim (λk=>c4 k.2) (λk=>by omega)),if_pos rfl];rw[show a+ae cl 16+2=a+(ae cl 16+2) from by omega,ih,c3];congr 2;omega
  ·rw[c3]at h2 ih;have hv:=wZ h2 (show r.2.1<2^3 by omega);unfold kq at ih jl;rw[if_neg (by omega),if_neg (by omega),if_pos c1]at ih jl;rw[aG,yP]at jl;have w1:wide 17=3:=rfl;have l1:least 17=3:=rfl;rw[c1]at hs hv ih ⊢;rw[if_neg (by decide),w1,hv];dsimp only;rw[l1,if_neg (by rintro (⟨k,_⟩|k)<;>omega),if_neg (by decide)];rw[show a+ae cl 17+3=a+(ae cl 17+3) from by omega,ih,c3];congr 2;omega
  ·rw[c3]at h2 ih;have hv:=wZ h2 (show r.2.1<2^7 by omega);unfold kq at ih jl;rw[if_neg (by omega),if_neg (by omega),if_neg (by omega)]at ih jl;rw[aG,yP]at jl;have w1:wide 18=7:=rfl;have l1:least 18=11:=rfl;rw[c1]at hs hv ih ⊢;rw[if_neg (by decide),w1,hv];dsimp only;rw[l1,if_neg (by rintro (⟨k,_⟩|k)<;>omega),if_neg (by decide)];rw[show a+ae cl 18+7=a+(ae cl 18+7) from by omega,ih,c3];congr 2;omega
theorem Ta (g:Nat->Nat) (h:s<n):ae ((List.range n).map g) s=g s:=by unfold ae;rw[qe,List.getElem?_range h];rfl
theorem zgq {l:List Mt} (h:0<b.length):br b 0 l≠[]:=by
 unfold br;rw[dif_pos h];match l with
 | []=>simp
 | (a,n,d)::t=>dsimp only;split<;>simp
theorem Xx {l:LN} {x y:Nat} (hx:x∈l) (hy:y∈l) (h:x≠y):2<=l.length:=by
 match l with
 | []=>cases hx
 | [z]=>simp at hx hy;omega
 | _::_::_=>simp
theorem qy8 {cs:LN} {L:Nat} (h:kx L cs ls):some_ ls=(aF cs cs.length).length:=by
 have hm:ls=(List.range cs.length).map (ae ls):=by
  rw[<-h.len];refine Ih λi=>?_
  rw[qe];by_cases hi:i<ls.length
  ·rw[List.getElem?_range hi,dm hi];simp[ae,hi]
  ·rw[sq (by omega),sq (by simp;omega)];rfl
 unfold some_ aF;conv=>lhs;rw[hm]
 rw[List.filter_map,gx];congr 1;refine List.filter_congr λs _=>?_
 show decide (0<ae ls s)=decide (0<ae cs s);by_cases hp:0<ae cs s
 ·rw[decide_eq_true hp,decide_eq_true (h.pos s hp)]
 ·rw[decide_eq_false hp,decide_eq_false (by rw[h.zero s (by omega)];omega)]
theorem zfc {bd:List Bool} (h:CT b bd) (ext:LB) (m:Nat) (hm:b.length<=m):jw (bytesOf bd++ext) m = .ok (b,(bytesOf bd).length):=by
 obtain⟨ll,dl,o1,o2,hd,e,_,ht⟩:=h;obtain⟨nl,nd,nc,cl,rs,T⟩:=ht rfl;have cj:cH b 32768 0 (xV b 32768):=by simpa using PZ b 32768
 have DK:=Zv (ax _) cj;have Lr:ll.length=286:=by rw[o1.len];simp[jN]
 have Wt:dl.length=30:=by rw[o2.len];simp[iX]
 have zl:∀i,nl<=i->i<ll.length->ae ll i=0:=λi h1 h2=>Tm ll 257 ll.length i (by rw[<-T.enl];exact h1) h2
 have zd:∀i,nd<=i->i<dl.length->ae dl i=0:=λi h1 h2=>Tm dl 1 dl.length i (by rw[<-T.ennd];exact h1) h2
 have nl1:257<=nl:=by rw[T.enl];exact Kf _ _ _ (by omega)
 have nl2:nl<=286:=by rw[T.enl,<-Lr];exact ET _ _ _
 have nd1:1<=nd:=by rw[T.ennd];exact Kf _ _ _ (by omega)
 have nd2:nd<=30:=by rw[T.ennd,<-Wt];exact ET _ _ _
 have lit:∀s,s<286->0<mH b (bW b) s->0<ae ll s:=λs hs h=>o1.pos s (by unfold jN;rw[Ta _ hs];exact h)
 have iQ:∀x∈bW b,0<mH b (bW b) (ka x):=λx hx=>by have:0<lZ (bW b) (ka x):=List.count_pos_iff.2 (Ix hx);unfold mH;omega
 have zI:0<mH b (bW b) 256:=by unfold mH;rw[if_pos rfl];omega
 have zJ:0<ae ll 256:=lit 256 (by decide) zI;have kD:∀x∈bW b,0<ae ll (ka x):=λx hx=>lit _ (DK x hx).1 (iQ x hx)
 have kj:∀x∈bW b,∀s,nS x=some s->0<ae dl s:=λx hx s hs=>o2.pos s (by
  unfold iX
  rw[Ta _ ((DK x hx).2.2 s hs)]
  exact List.count_pos_iff.2 (List.mem_filterMap.2 ⟨x,hx,hs⟩))
 have oQ:∀s,s<286->0<mH b (bW b) s->s∈aF (jN b) (jN b).length:=λs hs h=>Dn.2 ⟨by simpa[jN] using hs,by unfold jN;rw[Ta _ hs];exact h⟩
 have aJ:weight ll=32768:=by
  refine o1.full ?_;by_cases h0:b.length=0
  ·exact Xx (oQ 256 (by decide) zI) (oQ 0 (by decide) (by unfold mH;rw[if_pos (show b.length=0/\0=0 from ⟨h0,rfl⟩)];omega)) (by decide)
  ·obtain⟨x,t,hx⟩:=List.exists_cons_of_ne_nil (zgq (l:=xV b 32768) (show 0<b.length by omega));have yV:x∈bW b:=by unfold bW;rw[hx];exact sT
   exact Xx (oQ 256 (by decide) zI) (oQ (ka x) (DK x yV).1 (iQ x yV)) (pM (DK x yV).2.1)
 have cC:=Uf o2;have wh1:dv (ll.take nl) false=true:=by unfold dv;rw[PX zl,aJ];rfl
 have wh2:dv (dl.take nd) true=true:=by
  unfold dv;rw[PX zd,decide_eq_true cC];by_cases h2:2<=(aF (iX b) (iX b).length).length
  ·rw[o2.full h2];rfl
  ·have h3:some_ (dl.take nd)<2:=by have h4:some_ (dl.take nd)<=some_ dl:=((List.take_sublist nd dl).filter _).length_le;rw[qy8 o2]at h4;omega
   have h5:ones (dl.take nd)=true:=ER.2 λx hx=>by simpa using o2.few (by omega) x (sV hx)
   rw[decide_eq_true h3,h5];simp
 have wh3:dv cl false=true:=by unfold dv;rw[T.full];rfl
 obtain⟨bs,tU⟩:=ah (bytesOf bd++ext);have dc:At bs 0 bd:=by rw[tU];exact SD bd ext
 rw[<-tU];refine XT ?_;have e2:bd=[true]++dA 2 2++(dA 5 (nl-257)++(dA 5 (nd-1)++(dA 4 (nc-4)++(((places.take nc).flatMap λi=>dA 3 (ae cl i))++(rs.flatMap (fg cl)++(bw (ll.take nl) (dl.take nd) (bW b)++bS (ll.take nl) 256)))))):=by rw[e,T.bits,qkj (ll:=ll.take nl) (dl:=dl.take nd) (ll':=ll) (dl':=dl) (λx _=>by rw[TN zl]) (λx _ s _=>by rw[TN zd]),TN zl,qmc nc T.nc19,List.flatMap_map];simp only[if_true,fU]
 have iR:∀l∈ll.take nl,l<=15:=λx hx=>o1.le x (sV hx)
 have fO:∀l∈dl.take nd,l<=15:=λx hx=>o2.le x (sV hx)
 rw[e2]at dc ⊢;refine qop (by decide) dc (Zq bs) ?_;unfold dP;rw[if_neg (by decide),if_neg (by decide)];have a1:At bs 3 _:=dc.right;have a2:=a1.right;have a3:=a2.right;have a4:=a3.right;have a5:=a4.right;have a6:=a5.right;have k1:=wZ a1.left (show nl-257<2^5 by omega);have k2:=wZ a2.left (show nd-1<2^5 by omega);have n1:=T.nc4;have n2:=T.nc19;have k3:=wZ a3.left (show nc-4<2^4 by omega);have k4:=Zn T.cle _ (List.replicate 19 0) _ a4.left;rw[zbg T.clen T.nc19 T.rest]at k4;have rl:=bN.len T.runs;have k5:=XW (n:=nl-257+257+(nd-1)+1) (λx hx=>bP (T.cle x hx) (by decide)) (by rw[T.full];exact ax _) rs [] _ (nl-257+257+(nd-1)+1+1) _ T.runs
  (by rw[aG,fH,fH];omega) T.used (by rw[aG,fH,fH]at rl;simp only[jK]at rl;omega) a5.left
 have k6:=YO (ax _) cj hm iR fO (by rw[PX zl,aJ];exact ax _) (by rw[PX zd];exact cC) (by rw[E6 zl];exact zJ) (λx hx=>by rw[E6 zl];exact kD x hx) (λx hx s hs=>by rw[E6 zd];exact kj x hx s hs) a6;simp only[ar]at k2 k3 k4 k5 k6;unfold lu;rw[k1];dsimp only;rw[if_neg (by omega),k2];dsimp only;rw[if_neg (by omega),k3];dsimp only;unfold nh;have AQ:nc-4+4=nc:=by omega
 have hn:nl-257+257=nl:=by omega
 rw[AQ,k4];dsimp only;rw[wh3,if_neg (by decide)];unfold mZ;rw[k5];dsimp only;rw[hn];have t1:(ll.take nl++dl.take nd).take nl=ll.take nl:=by rw[DF (by rw[fH];omega),EM,Nat.min_self]
 have t2:(ll.take nl++dl.take nd).drop nl=dl.take nd:=by
  have:(ll.take nl).length=nl:=by rw[fH];omega
  exact List.drop_left' this
 have t3:ae (ll.take nl++dl.take nd) 256=ae ll 256:=by unfold ae;rw[Ay (by rw[fH];omega),List.getElem?_take_of_lt (by omega)]
 rw[t1,t2,t3,if_neg (by omega),wh1,if_neg (by decide),wh2,if_neg (by decide),k6];simp only[aG,ar,pP,bW]
theorem zdo {r:LB} {level:Int} (h:rU b level r) (hl:1<=level) (ext:LB) (m:Nat) (hm:b.length<=m):jw (r++ext) m = .ok (b,r.length):=by
 obtain⟨bf,h1,h2,h3⟩:=h;by_cases h0:level=1
 ·rw[h2 h0];exact qok h1 ext m hm
 ·rcases (h3 (by omega)).1 with e|e|⟨bd,hd,e⟩
  ·rw[e];exact qok h1 ext m hm
  ·rw[e];exact qn3 b ext m hm
  ·rw[e];exact zfc hd ext m hm
theorem qgw:∀(cs:List (List UInt8)) (l:List Bool),l.length%8=0->(aH l cs).length=l.length+40*cs.length+8*cs.flatten.length
 | [],l,_=>by simp[aH]
 | b::t,l,h=>by have e:=IZ l t.isEmpty b;rw[aH,qgw t _ (by rw[e];omega),e,List.flatten_cons,aG,dw];omega
theorem qjc:∀(f:Nat) (b:LB),(chunks f b).length<=b.length/65535+1
 | 0,b=>by simp[chunks]
 | f+1,b=>by
  rw[chunks];split
  ·have:=qjc f (b.drop 65535);rw[gN]at this;rw[dw];omega
  ·simp
theorem qq1 (b:LB):(aL b).length=b.length+5*(chunks b.length b).length:=by unfold aL gI;rw[BQ,qgw _ _ rfl,chunks_flatten,jK];omega
theorem zdu (b:LB):(aL b).length<=b.length+5*(b.length/65535+1):=by rw[qq1];have:=qjc b.length b;omega
open Go.RowKit wb
def RQ (b r:LB):Prop:=r.length<=6*b.length+100/\(r=aL b\/∃level:Int,1<=level/\rU b level r)
theorem zbc {b:LB} {bf:List Bool} (h:vD b bf):(bytesOf bf).length<=6*b.length+10:=by
 obtain⟨hd,e,h0,_⟩:=h;rw[h0 rfl]at e;have cj:cH b 32768 0 (xV b 32768):=by simpa using PZ b 32768
 have h1:=qnq (oh 288) (List.replicate 30 5) OH (λx hx=>by rw[List.eq_of_mem_replicate hx];decide) (bW b) (Sz (ax _) (b.length-0) 0 _ rfl cj);have h2:=Kt b 0 (xV b 32768);have h3:(bS (oh 288) 256).length<=15:=yN (oh 288) OH 256;have h4:(bW b).length*48<=b.length*48:=Aw _ (by unfold bW;omega);rw[BQ,e];simp only[aG,ar,dw,jK];omega
theorem zie (a:OA) (cap:Nat) (b:LB) (level:Int) (w:World) (h:lib.Rd w a cap b) (hlen:b.length<=100000) (eh:∀x∈ag a,x<w.heap.size) :
  Calls Tryz.prog 185 #[.slice a b.length cap,.int .i64 level] w λe w'=>∃r,RQ b r/\aZ w r e w':=by
 by_cases hl:level<=0
 ·refine (zdn a cap b level w h (by omega) hl).mono λe w' hn=>⟨aL b,⟨?_,.inl rfl⟩,hn⟩
  have:=zdu b;omega
 ·refine (zdp a cap b level w h hlen (by omega) eh).mono ?_;rintro e w' ⟨r,hr,hn⟩;refine⟨r,⟨?_,.inr ⟨level,by omega,hr⟩⟩,hn⟩;obtain⟨bf,h1,h2,h3⟩:=hr;have h4:=zbc h1;by_cases h5:level=1
  ·rw[h2 h5];omega
  ·have:=(h3 (by omega)).2.1;omega
theorem zcq (a:OA) (cap:Nat) (b:LB) (level:Int) (w:World) (h:lib.Rd w a cap b) (hlen:b.length<=100000) (eh:∀x∈ag a,x<w.heap.size) :
  Calls Tryz.prog 124 #[.slice a b.length cap,.int .i64 level] w λe w'=>∃r,RQ b r/\pE w (aY level r b) e w':=
 zcr a cap b (RQ b) level w h (λr hr=>by have:=hr.1;omega) (λw' f=>zie a cap b level w' (h.fr f) hlen (λx hx=>fM (eh x hx) f.size))
end trip

end Go.Proofs.YticadfhpolhkeaaGreatDoor