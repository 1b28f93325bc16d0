/-
  Texts of this proof, one behind the other: Raw, TripA, TripB, TripC, PlainLen, TripD.
-/
import Derived.Test.YtbabjlohkniciaaGreatDoorV11
set_option maxHeartbeats 16000000
set_option maxRecDepth 100000
set_option linter.unusedVariables false
set_option linter.unusedSimpArgs false
namespace Go.Proofs.YtbabjlohkniciaaGreatDoor.defl
open Go Go.RowKit lib bm bl mat huf wb
def toksOf (b:List UInt8):List Tok:=toks b 0 (qdz b 32768)
def litCs (b:List UInt8):List Nat:=(List.range 286).map (litc b (toksOf b))
def distCs (b:List UInt8):List Nat:=(List.range 30).map (dcnt (toksOf b))
def FixedB (b:List UInt8) (bb:List Bool):Prop:=CodedBits (alw 288) (List.replicate 30 5) (toksOf b) true false bb
def DynB (b:List UInt8) (bb:List Bool):Prop:=∃ll dl,LensOk 15 (litCs b) ll∧LensOk 15 (distCs b) dl∧CodedBits ll dl (toksOf b) true true bb
def RawRes (b:List UInt8) (level:Int) (r:List UInt8):Prop:=
 ∃bf,FixedB b bf∧(level=1→r=bytesOf bf)∧(2≤level→(r=bytesOf bf∨r=plainBytes b∨∃bd,DynB b bd∧r=bytesOf bd)∧r.length≤(bytesOf bf).length∧r.length≤(plainBytes b).length)
theorem qhr {L:Nat} {cs ls:List Nat} (h:LensOk L cs ls):weight ls≤32768:=by
 by_cases h2:2≤(symsTo cs cs.length).length
 ·rw[h.full h2];exact qag _
 ·have hm:ls=(List.range cs.length).map (lenAt ls):=by
   rw[<-h.len];refine qlv λi=>?_
   rw[qbx];by_cases hi:i<ls.length
   ·rw[quw hi,qaf hi];simp[lenAt,hi]
   ·rw[qbr (by omega),qbr (by simp;omega)];rfl
  have hs:weight ls=((symsTo cs cs.length).map λs=>wt (lenAt ls s)).sum:=by rw[hm,qim,<-hm];rw[qit (λs=>decide (0<lenAt cs s)) _ _ λs _ hp=>by rw[h.zero s (by simpa using hp)];rfl];rfl
  have hw:∀s,wt (lenAt ls s)≤16384:=λs=>by
   unfold wt;split
   ·omega
   ·exact qan (qax (by decide) (show 15-lenAt ls s≤14 by omega)) (by decide)
  rw[hs];match hsy:symsTo cs cs.length with
  | []=>simp
  | [x]=>simp;have:=hw x;omega
  | x::y::t=>rw[hsy]at h2;simp at h2
theorem qrn:(alw 288).length=288:=by simp[alw]
theorem qs8:∀x∈alw 288,x≤15:=λx hx=>by
 simp only[alw,qb8]at hx;obtain⟨i,_,rfl⟩:=hx;unfold fixL;split
 ·omega
 ·split
  ·omega
  ·split<;>omega
theorem qm2:weight (alw 288)=32768:=by decide +kernel
theorem qhs:weight (List.replicate 30 5)=30720:=by decide +kernel
def Box (w:World) (C:Nat) (a al:Option Addr) (bl cap ll:Nat) (v2 v3:Value) (told:Bool):Prop:=w.heap[C]?=some (.cells #[.slice a bl cap,.slice al ll ll,v2,v3,.bool told] 130 (0,0))
theorem Box.set {w:World} {C:Nat} {a al:Option Addr} {bl cap ll:Nat} {v2 v3:Value} {told:Bool} (h:Box w C a al bl cap ll v2 v3 told) (x y:Value) :
  Box ((w.setCell ⟨C,2,none⟩ x).setCell ⟨C,3,none⟩ y) C a al bl cap ll x y told:=(qa0 (o:=3) (qa0 (o:=2) h x) y)
theorem Box.fr {w w':World} {C:Nat} {S:List Nat} {a al:Option Addr} {bl cap ll:Nat} {v2 v3:Value} {told:Bool} (h:Box w C a al bl cap ll v2 v3 told) (f:Fr S w w') (hC:C∉S):Box w' C a al bl cap ll v2 v3 told:=f.blk h hC
theorem qx8 {b:List UInt8} {r:Nat}:∀{l:List Mt} {e:Nat},Chain b r e l→l.length≤b.length+1
 | [],_,_=>qba _
 | l,e,h=>by
  have key:∀(l:List Mt) (e:Nat),Chain b r e l→e≤b.length→e+l.length≤b.length:=by
   intro l;induction l with
   | nil=>intro e _ he;simpa using he
   | cons x t ih=>intro e h he;obtain⟨a,n,d⟩:=x;obtain⟨k1,k2,k3,k4,k5,k6,k7,_,k9⟩:=h;have:=ih (a+n) k9 k7;simp only[qam];omega
  have key2:∀(l:List Mt) (e:Nat),Chain b r e l→l≠[]→e+l.length≤b.length:=by
   intro l e h hne;cases l with
   | nil=>exact absurd rfl hne
   | cons x t=>obtain⟨a,n,d⟩:=x;obtain⟨k1,k2,k3,k4,k5,k6,k7,_,k9⟩:=h;have:=key t (a+n) k9 k7;simp only[qam];omega
  by_cases hne:l=[]
  ·rw[hne];exact qba _
  ·have:=key2 l e h hne;omega
theorem Box.tell {w:World} {C:Nat} {a al:Option Addr} {bl cap ll:Nat} {v2 v3:Value} {told:Bool} (h:Box w C a al bl cap ll v2 v3 told) :
  Box (w.setCell ⟨C,4,none⟩ (.bool true)) C a al bl cap ll v2 v3 true:=qa0 (o:=4) h (.bool true)
theorem Box.cells {w:World} {C:Nat} {a al:Option Addr} {bl cap ll:Nat} {v2 v3:Value} {told:Bool} (h:Box w C a al bl cap ll v2 v3 told) :
  w.cell? ⟨C,0,none⟩=some (.slice a bl cap)∧w.cell? ⟨C,1,none⟩=some (.slice al ll ll)∧w.cell? ⟨C,2,none⟩=some v2∧w.cell? ⟨C,3,none⟩=some v3∧w.cell? ⟨C,4,none⟩=some (.bool told):=
 ⟨cell_of h 0,cell_of h 1,cell_of h 2,cell_of h 3,cell_of h 4⟩
theorem zdh {w:World} {Q N:Nat} {F:Nat→Nat} (h:Ow w Q N F) (hN:N≤400):Ri w (some ⟨Q,0,none⟩) N ((List.range N).map F):=
 ⟨h.cs,by simp,by unfold maxLen;omega,λh=>by cases h⟩
theorem Box.lit {w:World} {C:Nat} {a al:Option Addr} {bl cap ll:Nat} {v2 v3:Value} {told:Bool} (h:Box w C a al bl cap ll v2 v3 told) (x:Value) :
  Box (w.setCell ⟨C,2,none⟩ x) C a al bl cap ll x v3 told:=qa0 (o:=2) h x
theorem Box.dist {w:World} {C:Nat} {a al:Option Addr} {bl cap ll:Nat} {v2 v3:Value} {told:Bool} (h:Box w C a al bl cap ll v2 v3 told) (x:Value) :
  Box (w.setCell ⟨C,3,none⟩ x) C a al bl cap ll v2 x told:=qa0 (o:=3) h x
theorem qli {S:List Nat} {w w':World} (h:Fr S w w') (hS:∀x∈S,w.heap.size≤x):Fr [] w w':=h.mono λx hx=>.inr (hS x hx)
theorem qjb (b:List UInt8) (a al:Option Addr) (cap BL LL m1 m2:Nat) (l:List Mt) (a1 a2:Option Addr) (c1 c2:Nat) (ll dl:List Nat) (told:Bool) (w:World) (e1:BL=b.length) (e2:LL=l.length) (e3:m1=ll.length) (e4:m2=dl.length)
  (hb:lib.Rd w a cap b) (hl:Cs w al (mcells l)) (hln:al=none→LL=0) (hcm:LL≤maxLen) (hch:Chain b 32768 0 l) (hblen:b.length≤1000000)
  (h1:Ri w a1 c1 ll) (h2:Ri w a2 c2 dl) (n1:286≤ll.length) (n1':ll.length≤400) (n2:30≤dl.length) (n2':dl.length≤400) (nt:told=true→ll.length=286∧dl.length=30)
  (hle1:∀x∈ll,x≤15) (hle2:∀x∈dl,x≤15) (hw1:weight ll≤32768) (hw2:weight dl≤32768)
  (hla:∀x∈blk a,x<w.heap.size) (hll:∀x∈blk al,x<w.heap.size) :
  Calls Tryz.prog 82 #[.slice (some ⟨w.heap.size,0,none⟩) 1 1] (w.alloc (.cells #[.iface 130 (.agg #[.slice a BL cap,.slice al LL LL,.slice a1 m1 c1,.slice a2 m2 c2,.bool told])] 195 (0,0)))
   λe w'=>∃bb,CodedBits ll dl (toks b 0 l) true told bb∧bb.length≤100000000∧NewBytes w (bytesOf bb) e w':=by
 subst e1;subst e2;subst e3;subst e4;have f:Fr [] w (w.alloc (.cells #[.iface 130 (.agg #[.slice a b.length cap,.slice al l.length l.length,.slice a1 ll.length c1,.slice a2 dl.length c2,.bool told])] 195 (0,0))):=(Fr.refl [] w).alloc _;refine (qm5 w.heap.size b a al cap l.length 32768 l a1 a2 c1 c2 ll dl told _ (qa4 w _) (hb.fr f) (hl.fr f (by simp)) (qag _) hln hcm hch (qag _) hblen (h1.fr f) (h2.fr f) n1 n1' n2 n2' nt hle1 hle2 hw1 hw2
  (λx hx=>qal (hla x hx) f.size) (λx hx=>qal (hll x hx) f.size)).mono ?_
 rintro e w' ⟨bb,h3,h4,a',h5,h6,h7,h8⟩;exact⟨bb,h3,h4,a',h5,h6,λx hx=>⟨qan f.size (h7 x hx).1,(h7 x hx).2⟩,f.trans h8⟩
theorem qzk (a:Option Addr) (cap:Nat) (b:List UInt8) (level:Int) (w:World) (h:lib.Rd w a cap b) (hlen:b.length≤100000) (hl:1≤level) (hla:∀x∈blk a,x<w.heap.size) :
  Calls Tryz.prog 49 #[.slice a b.length cap,.int .i64 level] w λe w'=>∃r,RawRes b level r∧NewBytes w r e w':=by
 have hmt:=qqv b a cap 32768 w h hlen;obtain⟨l,hl'⟩:∃l,l=qdz b 32768:=⟨_,rfl⟩;have hch:Chain b 32768 0 l:=by rw[hl'];have:=qe0 b 32768;simpa using this
 obtain⟨LL,hLL⟩:=zex l.length;obtain⟨BL,hBL⟩:=zex b.length;unfold MatchesNew at hmt;rw[<-hl',<-hLL,<-hBL]at hmt;have hLB:LL≤9223372036854775807→True:=λ_=>trivial
 have d0:decide (level≤0)=false:=by simp;omega
 have H:=zhd7 h hlen hla hch hl' hLL hBL;have HM:=zhd hmt;rw[<-hBL]at hlen ⊢;clear h hla hch hl' hLL hBL hmt hLB;go_enter Tryz.func49,Tryz.ntmps49;go_upto_region 4 with (go_at_call 80;refine HM.out.mono ?_;rintro e w1 ⟨al,rfl,cs1,no1,lw1,f1⟩;have H1:=zhd4 cs1 no1 lw1 f1;clear cs1 no1 lw1 f1);obtain⟨C,hC⟩:=zex w1.heap.size;obtain⟨w2,hw2⟩:=zex (w1.alloc (.cells #[.slice a BL cap,.slice al LL LL,.slice none 0 0,.slice none 0 0,.bool false] 130 (0,0)));have bx2:Box w2 C a al BL cap LL (.slice none 0 0) (.slice none 0 0) false:=by unfold Box;rw[hw2,hC];exact qa4 w1 _
 have f12:Fr [] w1 w2:=by rw[hw2];exact (Fr.refl [] w1).alloc _
 rw[<-hw2,<-hC];have H2:=zhd4 bx2 f12 hC hw2;clear bx2 f12 hC hw2;have hal:=qur w2;unfold AlwaysGood at hal;have HAL:=zhd hal;clear hal;go_upto_region 4 with fail;have mkf:∀w3,Fr [] w2 w3→w3.cell? ⟨C,2,none⟩=some (.slice none 0 0)∧w3.cell? ⟨C,3,none⟩=some (.slice none 0 0)∧w3.frozen? ⟨C,2,none⟩=false∧w3.frozen? ⟨C,3,none⟩=false:=λw3 f=>by have b3:=H2.o0.fr f (by simp);unfold Box at b3;exact⟨cell_of b3 2,cell_of b3 3,qay b3 2,qay b3 3⟩
 have HMK:=zhd mkf;clear mkf;go_upto_region 5 with (go_at_call 81;refine HAL.out.mono ?_;rintro e w3 ⟨a1,c1,a2,c2,rfl,md1,md2⟩;obtain⟨x2,x3,z2,z3⟩:=HMK.out w3 md1.fr;have H3:=zhd2 md1 md2;clear md1 md2);clear x2 x3 z2 z3;obtain⟨w4,hw4⟩:=zex ((w3.setCell ⟨C,2,none⟩ (.slice a1 288 c1)).setCell ⟨C,3,none⟩ (.slice a2 30 c2));have bx4:Box w4 C a al BL cap LL (.slice a1 288 c1) (.slice a2 30 c2) false:=by rw[hw4];exact (H2.o0.fr H3.o0.fr (by simp)).set _ _
 have f34:Fr [C] w3 w4:=by rw[hw4];exact ((Fr.refl [C] w3).setCell (by simp) _).setCell (by simp) _
 rw[<-hw4];have hCw:w.heap.size≤C:=by rw[H2.o2];exact H1.l3.size
 have hC2:C<w2.heap.size:=by have:=H2.o0;unfold Box at this;exact lt_of_block this
 have f13:Fr [] w1 w3:=H2.o1.trans H3.o0.fr;have f14:Fr [C] w1 w4:=(f13.mono (by simp)).trans f34;have fw4:Fr [C] w w4:=(H1.l3.mono (by simp)).trans f14;have rd4:lib.Rd w4 a cap b:=H.o0.frS fw4 λx hx hm=>by have:=H.o2 x hx;simp at hm;omega
 have cs4:Cs w4 al (mcells l):=H1.o0.fr f14 λx hx hm=>by have:=H1.o2 x hx;have:=H2.o2;simp at hm;omega
 have ri1:Ri w4 a1 c1 (alw 288):=by
  refine qhi (qnl H3.o0 (by rw[qrn])) f34 λx hx hm=>?_
  have:=H3.o0.new x hx;simp at hm;omega
 have ri2:Ri w4 a2 c2 (List.replicate 30 5):=by
  refine qhi (qnl H3.l1 (by simp)) f34 λx hx hm=>?_
  have:=H3.l1.new x hx;simp at hm;omega
 have H3b:w3.heap.size≤w4.heap.size:=f34.size;have hmx:LL≤maxLen:=by rw[H.o5];have:=qx8 H.o3;have:=H.o1;unfold maxLen;omega
 have hwr:=qjb b a al cap BL LL 288 30 l a1 a2 c1 c2 (alw 288) (List.replicate 30 5) false w4 H.l6 H.o5 qrn.symm (by simp) rd4 cs4 H1.o1 hmx H.o3 (by have:=H.o1;omega) ri1 ri2 (by rw[qrn];decide) (by rw[qrn];decide) (by simp) (by simp) (λh=>by cases h) qs8 (by intro x hx;rw[(qf4.1 hx).2];decide) (by rw[qm2];exact qag _) (by rw[qhs];decide)
  (λx hx=>qal (H.o2 x hx) fw4.size) (λx hx=>qal (H1.o2 x hx) f14.size)
 have ht4:toks b 0 l=toksOf b:=by rw[H.o4];rfl
 rw[ht4]at hwr;have e0:=cell_of bx4 0;have e1:=cell_of bx4 1;have e2:=cell_of bx4 2;have e3:=cell_of bx4 3;have e4:=cell_of bx4 4;simp only[qae,qaa,qad]at e0 e1 e2 e3 e4;have H4:=zhd8 hwr bx4 f14 fw4 rd4 cs4 hmx ht4;have HC:=zhd2 hCw hC2;clear hwr bx4 f14 fw4 rd4 cs4 hmx ht4 ri1 ri2 H3b f13 f34 hw4 hCw hC2;unfold NewBytes at H4;go_upto_region 6 with (go_at_call 82;refine H4.o0.mono ?_;rintro e w6 ⟨bf,hbf,hbl,o6,rfl,r6,n6,f6⟩;have H6:=zhd5 hbf hbl r6 n6 f6;clear hbf hbl r6 n6 f6);clear e0 e1 e2 e3 e4;obtain⟨x6,hx6⟩:=zex ((bytesOf bf).length);rw[<-hx6];have HX6:=zhd hx6;have hxb:x6≤20000000:=by rw[hx6,qcq];have:=H6.o1;omega
 clear hx6;by_cases hl1:level=1
 ·subst hl1;go_wp2;go_ret;refine⟨bytesOf bf,⟨bf,H6.o0,λ_=>rfl,λh=>absurd h (by decide)⟩,o6,by rw[HX6.out];rfl,H6.o2,λx hx=>⟨qan H4.o3.size (H6.o3 x hx).1,(H6.o3 x hx).2⟩,?_⟩;exact qli (H4.o3.step H6.l4 (by simp)) (λx hx=>by simp at hx;rw[hx];exact HC.o0)
 ·have q1:(level==1)=false:=by simp only[beq_eq_false_iff_ne];exact hl1
  have f6:Fr [C] w w6:=H4.o3.step H6.l4 (by simp);have rd6:lib.Rd w6 a cap b:=H.o0.frS f6 λx hx hm=>by have:=H.o2 x hx;have:=HC.o0;simp at hm;omega
  have hpl:=qo0 a cap b w6 rd6 (by have:=H.o1;omega);rw[<-H.l6]at hpl;have HP:=zhd3 hpl f6 rd6;clear hpl f6 rd6;unfold NewBytes at HP;go_upto_region 9 with (go_at_call 79;refine HP.o0.mono ?_;rintro e w8 ⟨o8,rfl,r8,n8,f8⟩;have H8:=zhd3 r8 n8 f8;clear r8 n8 f8);obtain⟨x8,hx8⟩:=zex ((plainBytes b).length);rw[<-hx8];have HX8:=zhd hx8;clear hx8;go_upto_if 38 with fail;go_cut [6] from 38 to 40 (λs6 wc=>wc=w8∧∃(o:Option Addr) (n:Nat) (r:List UInt8),s6 = .slice o n n∧n=r.length∧lib.Rd w8 o n r∧(∀x∈blk o,w4.heap.size≤x∧x<w8.heap.size)∧(r=bytesOf bf∨r=plainBytes b)∧n≤x6∧n≤x8)
  case first=>
   by_cases hlt:x8<x6
   ·have q2:decide ((x8:Int)<(x6:Int))=true:=by simpa using hlt
    go_wp2;go_meet;case rel=>exact⟨rfl,o8,x8,plainBytes b,rfl,HX8.out,by rw[HX8.out];exact H8.o0,λx hx=>⟨qan H6.l4.size (H8.o1 x hx).1,(H8.o1 x hx).2⟩,.inr rfl,by omega,qag _⟩
   ·have q2:decide ((x8:Int)<(x6:Int))=false:=by simpa using hlt
    go_wp2;go_meet;case rel=>exact⟨rfl,o6,x6,bytesOf bf,rfl,HX6.out,by rw[HX6.out];exact H6.o2.fr H8.l2,λx hx=>⟨(H6.o3 x hx).1,qal (H6.o3 x hx).2 H8.l2.size⟩,.inl rfl,qag _,by omega⟩
  case rest=>
   obtain⟨rfl,o,n,r,rfl,hn,rdo,new0,hr,hn6,hn8⟩:=hcut;have HO:=zhd6 hn rdo new0 hr hn6 hn8;clear hn rdo new0 hr hn6 hn8;have f8:Fr [C] w wc:=HP.o1.step H8.l2 (by simp);have bx8:Box wc C a al BL cap LL (.slice a1 288 c1) (.slice a2 30 c2) false:=(H4.o1.fr (H6.l4.trans H8.l2) (by simp));have z4:wc.frozen? ⟨C,4,none⟩=false:=qay bx8 4;have x4:wc.cell? ⟨C,4,none⟩=some (.bool false):=cell_of bx8 4;have H9:=zhd2 f8 bx8;clear f8 bx8;go_upto_region 12 with fail;obtain⟨w11,hw11⟩:=zex (wc.setCell ⟨C,4,none⟩ (.bool true));have f11:Fr [C] wc w11:=by rw[hw11];exact (Fr.refl [C] wc).setCell (by simp) _
   have bx11:Box w11 C a al BL cap LL (.slice a1 288 c1) (.slice a2 30 c2) true:=by rw[hw11];exact H9.l1.tell
   rw[<-hw11];clear z4 x4 hw11;obtain⟨e0,e1,e2,e3,e4⟩:=bx11.cells;have f4_11:Fr [C] w4 w11:=((H6.l4.trans H8.l2).mono (by simp)).trans f11;have fw11:Fr [C] w w11:=H4.o3.trans f4_11;have rd11:lib.Rd w11 a cap b:=H.o0.frS fw11 λx hx hm=>by have:=H.o2 x hx;have:=HC.o0;simp at hm;omega
   have cs11:Cs w11 al (mcells l):=H1.o0.fr (H4.o2.trans f4_11) λx hx hm=>by have:=H1.o2 x hx;have:=H2.o2;simp at hm;omega
   have hcn:=quk b a al cap LL 32768 l (.slice a1 288 c1) (.slice a2 30 c2) true w11 rfl rfl rd11 cs11 (by rw[H.o5];exact qag _) H1.o1 H4.o6 H.o3 (qag _) (by have:=H.o1;omega)
    (λx hx=>qal (H.o2 x hx) fw11.size) (λx hx=>qal (H1.o2 x hx) (H4.o2.trans f4_11).size)
   rw[H4.l7,<-H.o5,<-H.l6]at hcn;have H11:=zhd7 hcn bx11 f4_11 fw11 rd11 cs11 f11;clear hcn bx11 f4_11 fw11 rd11 cs11 f11;unfold CountsGood boxT at H11;go_upto_region 13 with (go_at_call 83;refine H11.o0.mono ?_;rintro e w12 ⟨Q1,Q2,rfl,o1,o2,f12,n1,n2⟩;have H12:=zhd5 o1 o2 f12 n1 n2;clear o1 o2 f12 n1 n2);clear e0 e1 e2 e3 e4;have hmT:(toksOf b).length≤b.length:=by have:=qh1 b 0 l;rw[H4.l7]at this;omega
   have hsy:∀(cs:List Nat) (n:Nat),n≤400→(symsTo cs n).length≤2^15:=λcs n hn=>by
    have h2:(symsTo cs n).length≤n:=by have:=qc7 (λs=>decide (0<lenAt cs s)) (List.range n);rw[qgz]at this;exact this
    omega
   have hb30:∀x:Nat,x≤100002→x≤2^30:=λx hx=>qan hx (by decide)
   have hA:∀x∈litCs b,x≤2^30:=λx hx=>by simp only[litCs,qb8]at hx;obtain⟨s,_,rfl⟩:=hx;refine hb30 _ ?_;have:=qlc (toksOf b) s;have:=H.o1;have:=H.l6;unfold litc;split<;>split<;>omega
   have hB:∀x∈distCs b,x≤2^30:=λx hx=>by simp only[distCs,qb8]at hx;obtain⟨s,_,rfl⟩:=hx;refine hb30 _ ?_;have:=qxs (toksOf b) s;have:=H.o1;have:=H.l6;omega
   have l1:(litCs b).length=286:=by simp[litCs]
   have l2:(distCs b).length=30:=by simp[distCs]
   have hC4:C<w4.heap.size:=by have:=H4.o1;unfold Box at this;exact lt_of_block this
   have hg1:=qe9 (some ⟨Q1,0,none⟩) 286 (litCs b) 15 w12 (zdh H12.o0 (by decide)) (by decide) (by decide) (by rw[l1];decide) hA (by rw[l1];exact hsy _ _ (by decide));have hg2:=λw13 (f:Fr [C] w12 w13)=>qe9 (some ⟨Q2,0,none⟩) 30 (distCs b) 15 w13 (qhi (zdh H12.o1 (by decide)) f (λx hx hm=>by have:=H12.l4;have:=HC.l1;have:=H9.o0.size;have:=H11.o2.size;have:=H2.o2;have:=hC4;simp[blk]at hx hm;omega)) (by decide) (by decide) (by rw[l2];decide) hB (by rw[l2];exact hsy _ _ (by decide))
   rw[l1]at hg1;rw[l2]at hg2;have mk2:∀w13,Fr [] w12 w13→w13.cell? ⟨C,2,none⟩=some (.slice a1 288 c1)∧w13.frozen? ⟨C,2,none⟩=false:=λw13 f=>by have b3:=H11.o1.fr (H12.o2.trans f) (by simp);exact⟨b3.cells.2.2.1,qay b3 2⟩
   have HG:=zhd6 hg1 mk2 l1 l2 hg2 hC4;clear hg1 hg2 hC4 hA hB hsy hmT hb30 mk2 l1 l2;unfold LensGood at HG;go_upto_region 14 with (go_at_call 84;refine HG.out.1.mono ?_;rintro e w13 ⟨g1,ll,rfl,ok1,cl1,n1,lt1,f13⟩;obtain⟨x2,z2⟩:=HG.out.2.1 w13 f13;have H13:=zhd5 ok1 cl1 n1 lt1 f13;clear ok1 cl1 n1 lt1 f13);clear x2 z2;obtain⟨w14,hw14⟩:=zex (w13.setCell ⟨C,2,none⟩ (.slice (some ⟨g1,0,none⟩) 286 286));have f14:Fr [C] w13 w14:=by rw[hw14];exact (Fr.refl [C] w13).setCell (by simp) _
   have bx14:Box w14 C a al BL cap LL (.slice (some ⟨g1,0,none⟩) 286 286) (.slice a2 30 c2) true:=by rw[hw14];exact (H11.o1.fr (H12.o2.trans H13.l4) (by simp)).lit _
   rw[<-hw14];clear hw14;have hg2:=HG.out.2.2.2.2.1 w14 ((H13.l4.mono (by simp)).trans f14);have mk3:∀w15,Fr [] w14 w15→w15.cell? ⟨C,3,none⟩=some (.slice a2 30 c2)∧w15.frozen? ⟨C,3,none⟩=false:=λw15 f=>by have b3:=bx14.fr f (by simp);exact⟨b3.cells.2.2.2.1,qay b3 3⟩
   have H14:=zhd4 hg2 mk3 bx14 f14;clear hg2 mk3 bx14 f14;unfold LensGood at H14;go_upto_region 15 with (go_at_call 84;refine H14.out.1.mono ?_;rintro e w15 ⟨g2,dl,rfl,ok2,cl2,n2,lt2,f15⟩;obtain⟨x3,z3⟩:=H14.out.2.1 w15 f15;have H15:=zhd5 ok2 cl2 n2 lt2 f15;clear ok2 cl2 n2 lt2 f15);clear x3 z3;obtain⟨w16,hw16⟩:=zex (w15.setCell ⟨C,3,none⟩ (.slice (some ⟨g2,0,none⟩) 30 30));have f16:Fr [C] w15 w16:=by rw[hw16];exact (Fr.refl [C] w15).setCell (by simp) _
   have bx16:Box w16 C a al BL cap LL (.slice (some ⟨g1,0,none⟩) 286 286) (.slice (some ⟨g2,0,none⟩) 30 30) true:=by rw[hw16];exact (H14.out.2.2.1.fr H15.l4 (by simp)).dist _
   rw[<-hw16];clear hw16;have f11_16:Fr [C] w11 w16:=((((H12.o2.trans H13.l4).mono (by simp)).trans H14.out.2.2.2).trans (H15.l4.mono (by simp))).trans f16;have fw16:Fr [C] w w16:=H11.o3.trans f11_16;have rd16:lib.Rd w16 a cap b:=H.o0.frS fw16 λx hx hm=>by have:=H.o2 x hx;have:=HC.o0;simp at hm;omega
   have f1_16:Fr [C] w1 w16:=(H4.o2.trans H11.o2).trans f11_16;have cs16:Cs w16 al (mcells l):=H1.o0.fr f1_16 λx hx hm=>by have:=H1.o2 x hx;have:=H2.o2;simp at hm;omega
   have ll1:ll.length=286:=by rw[H13.o0.len];exact HG.out.2.2.1
   have ll2:dl.length=30:=by rw[H15.o0.len];exact HG.out.2.2.2.1
   have hCg1:C≠g1:=by have:=H13.o2;have:=H12.o2.size;have:=H11.o2.size;have:=HG.out.2.2.2.2.2;omega
   have hCg2:C≠g2:=by have:=H15.o2;have:=H14.out.2.2.2.size;have:=H13.l4.size;have:=H12.o2.size;have:=H11.o2.size;have:=HG.out.2.2.2.2.2;omega
   have ri1:Ri w16 (some ⟨g1,0,none⟩) 286 ll:=⟨H13.o1.fr (H14.out.2.2.2.trans ((H15.l4.mono (by simp)).trans f16)) (by simp[blk];exact λh=>hCg1 h.symm),by omega,by unfold maxLen;omega,λh=>by cases h⟩;have ri2:Ri w16 (some ⟨g2,0,none⟩) 30 dl:=⟨H15.o1.fr f16 (by simp[blk];exact λh=>hCg2 h.symm),by omega,by unfold maxLen;omega,λh=>by cases h⟩;have hwr:=qjb b a al cap BL LL 286 30 l (some ⟨g1,0,none⟩) (some ⟨g2,0,none⟩) 286 30 ll dl true w16 H.l6 H.o5 ll1.symm ll2.symm rd16 cs16 H1.o1 H4.o6 H.o3 (by have:=H.o1;omega) ri1 ri2 (by rw[ll1];decide) (by rw[ll1];decide) (by rw[ll2];decide) (by rw[ll2];decide) (λ_=>⟨ll1,ll2⟩) H13.o0.le H15.o0.le (qhr H13.o0) (qhr H15.o0)
    (λx hx=>qal (H.o2 x hx) fw16.size) (λx hx=>qal (H1.o2 x hx) f1_16.size)
   rw[H4.l7]at hwr;have H16:=zhd3 hwr fw16 f11_16;obtain⟨e0,e1,e2,e3,e4⟩:=bx16.cells;clear hwr bx16 f16 f11_16 fw16 rd16 cs16 f1_16 ll1 ll2 hCg1 hCg2 ri1 ri2;unfold NewBytes at H16;go_upto_region 16 with (go_at_call 82;refine H16.o0.mono ?_;rintro e w17 ⟨bd,hbd,hbl,o17,rfl,r17,n17,f17⟩;have H17:=zhd5 hbd hbl r17 n17 f17;clear hbd hbl r17 n17 f17);clear e0 e1 e2 e3 e4;obtain⟨x17,hx17⟩:=zex ((bytesOf bd).length);rw[<-hx17];have HX17:=zhd hx17;clear hx17;have fin:Fr [] w w17:=qli (H16.o1.step H17.l4 (by simp)) (λx hx=>by simp at hx;rw[hx];exact HC.o0);have hdy:DynB b bd:=⟨ll,dl,H13.o0,H15.o0,H17.o0⟩;have HF:=zhd2 fin hdy;clear fin hdy;have res:∀(r':List UInt8),(r'=bytesOf bf∨r'=plainBytes b∨∃bd,DynB b bd∧r'=bytesOf bd)→r'.length≤x6→r'.length≤x8→RawRes b level r':=λr' h1 h2 h3=>⟨bf,H6.o0,λh=>absurd h hl1,λ_=>⟨h1,by rw[<-HX6.out];exact h2,by rw[<-HX8.out];exact h3⟩⟩
   have HR:=zhd res;clear res;by_cases hlt:x17<n
   ·have q3:decide ((x17:Int)<(n:Int))=true:=by simpa using hlt
    go_wp2;go_ret;refine⟨bytesOf bd,HR.out _ (.inr (.inr ⟨bd,HF.l1,rfl⟩)) ?_ ?_,o17,by rw[HX17.out];rfl,H17.o2,λx hx=>⟨qan H16.o1.size (H17.o3 x hx).1,(H17.o3 x hx).2⟩,HF.o0⟩
    ·rw[<-HX17.out];have:=HO.out.2.2.2.2.1;omega
    ·rw[<-HX17.out];have:=HO.out.2.2.2.2.2;omega
   ·have q3:decide ((x17:Int)<(n:Int))=false:=by simpa using hlt
    go_wp2;go_ret;have fo:Fr [C] wc w17:=(H11.l6.trans H16.l2).step H17.l4 (by simp);obtain⟨hn,rdo,new0,hr,hn6,hn8⟩:=HO.out;subst hn;exact⟨r,HR.out r (hr.elim .inl λh=>.inr (.inl h)) hn6 hn8,o,rfl,rdo.frS fo (λx hx hm=>by have:=(new0 x hx).1;have:=HG.out.2.2.2.2.2;simp at hm;omega),λx hx=>⟨qan H4.o3.size (new0 x hx).1,qal (new0 x hx).2 fo.size⟩,HF.o0⟩
end Go.Proofs.YtbabjlohkniciaaGreatDoor.defl
namespace Go.Proofs.YtbabjlohkniciaaGreatDoor.trip
open Go lib bm bl huf inf defl mat
def At (bs:List UInt8) (a:Nat) (l:List Bool):Prop:=∃p r,bytesBits bs=p++(l++r)∧p.length=a
theorem At.left {bs:List UInt8} {a:Nat} {x y:List Bool} (h:At bs a (x++y)):At bs a x:=by obtain⟨p,r,h1,h2⟩:=h;exact⟨p,y++r,by rw[h1,qat],h2⟩
theorem At.right {bs:List UInt8} {a:Nat} {x y:List Bool} (h:At bs a (x++y)):At bs (a+x.length) y:=by obtain⟨p,r,h1,h2⟩:=h;exact⟨p++x,r,by rw[h1];simp,by rw[qab,h2]⟩
theorem At.drop {bs:List UInt8} {a:Nat} {l:List Bool} (h:At bs a l):∃r,(bytesBits bs).drop a=l++r:=by obtain⟨p,r,h1,h2⟩:=h;exact⟨r,by rw[h1,<-h2,List.drop_left]⟩
theorem At.le {bs:List UInt8} {a:Nat} {l:List Bool} (h:At bs a l):a+l.length≤8*bs.length:=by obtain⟨p,r,h1,h2⟩:=h;have:=congrArg List.length h1;rw[qbk,qab,qab]at this;omega
theorem At.of {bs:List UInt8} {l r:List Bool} (h:bytesBits bs=l++r):At bs 0 l:=⟨[],r,by rw[h];rfl,rfl⟩
theorem qel {bs:List UInt8} {a n v:Nat} (h:At bs a (lsb n v)) (hv:v<2^n):itake bs a n = .ok (v,a+n):=by
 have hl:=h.le;rw[lsb_length]at hl;obtain⟨r,hr⟩:=h.drop;unfold itake;have e:(lsb n v++r).take n=lsb n v:=by rw[qc2 (by rw[lsb_length];exact qag _),qa9 (by rw[lsb_length];exact qag _)]
 rw[if_pos hl,hr,e,qj2,Nat.mod_eq_of_lt hv]
theorem sbits_length (ls:List Nat) (s:Nat):(sbits ls s).length=lenAt ls s:=by unfold sbits;rw[qd6]
theorem qol {bs:List UInt8} {a s:Nat} {ls:List Nat} (h:At bs a (sbits ls s)) (hle:∀l∈ls,l≤15) (hw:weight ls≤32768) (h0:0<lenAt ls s):isym bs ls a = .ok (s,a+lenAt ls s):=by
 obtain⟨r,hr⟩:=h.drop;have e:sbits ls s=msb (lenAt ls s) (code ls s):=by unfold sbits codeAt;rw[if_neg (by omega)]
 rw[e]at hr;have:=qvw ls s hle hw h0 r;unfold huf.read at this;unfold isym;rw[hr,this];rfl
theorem zdl {bs:List UInt8} {a n:Nat} (h3:3≤n) (h258:n≤258) (h:At bs a (lsb (lcode n).2.2 (lcode n).2.1)):ilength bs (lcode n).1 a = .ok (n,a+(lcode n).2.2):=by
 by_cases h11:n<11
 ·have e:lcode n=(n+254,0,0):=by unfold lcode;rw[if_pos h11]
  rw[e];unfold ilength;dsimp only;rw[if_pos (by omega),qeo];rfl
 ·by_cases h8:n=258
  ·subst h8;have e:lcode 258=(285,0,0):=rfl;rw[e];rfl
  ·obtain⟨w,w1,w5,k1,k2⟩:=qpa (n:=n) (by omega) (by omega);have e:=qnt (by omega) h8 k1 k2;rw[e]at h ⊢;have hp:=qbj w;obtain⟨q,hq⟩:=zex ((n-3)/2^w);have q4:4≤q:=by rw[hq,Nat.le_div_iff_mul_le hp];exact k1
   have q8:q<8:=by rw[hq,qdl hp];exact k2
   have hd:=quu (n-3) (2^w);rw[<-hq]at hd ⊢;unfold ilength;dsimp only at h ⊢;rw[if_neg (by omega),if_neg (by omega),show (257+4*w+q-261)/4=w from by omega,qel h (qd4 _ hp)];dsimp only;rw[show (257+4*w+q-265)%4=q-4 from by omega,show 4+(q-4)=q from by omega,qcd q];rw[qcu,hd,show 3+(n-3)=n from by omega]
theorem zc1 {bs:List UInt8} {a n:Nat} (h1:1≤n) (hn:n≤32768) (h:At bs a (lsb (dcode n).2.2 (dcode n).2.1)):idist bs (dcode n).1 a = .ok (n,a+(dcode n).2.2):=by
 by_cases h5:n<5
 ·have e:dcode n=(n-1,0,0):=by unfold dcode;rw[if_pos h5]
  rw[e];unfold idist;dsimp only;rw[if_pos (by omega),show n-1+1=n from by omega];rfl
 ·obtain⟨w,w1,w5,k1,k2⟩:=qpm (n:=n) (by omega) (by omega);have e:=qn5 (by omega) k1 k2;rw[e]at h ⊢;have hp:=qbj w;obtain⟨q,hq⟩:=zex ((n-1)/2^w);have q4:2≤q:=by rw[hq,Nat.le_div_iff_mul_le hp];exact k1
  have q8:q<4:=by rw[hq,qdl hp];exact k2
  have hd:=quu (n-1) (2^w);rw[<-hq]at hd ⊢;unfold idist;dsimp only at h ⊢;rw[if_neg (by omega),show (2*w+q-2)/2=w from by omega,qel h (qd4 _ hp)];dsimp only;rw[show 2+(2*w+q)%2=q from by omega,qcd q];rw[qcu,hd,show 1+(n-1)=n from by omega]
theorem qu6 {b:List UInt8} {i:Nat} (h:i<b.length):b.take i++[b[i]]=b.take (i+1):=by rw[List.take_add_one,qaf h];rfl
theorem za8 {b:List UInt8} {i m:Nat} (h:i<b.length) (hm:b.length≤m):iput m (b.take i) b[i] = .ok (b.take (i+1)):=by unfold iput;rw[if_neg (by rw[qar];omega),qu6 h]
theorem qx1 {b:List UInt8} {i d m:Nat} (hd:1≤d) (hdi:d≤i) (hm:b.length≤m):∀(n k:Nat),i+k+n≤b.length→(∀j,j<k+n→b[i+j]?=b[i+j-d]?)→
  icopy m d n (b.take (i+k)) = .ok (b.take (i+k+n))
 | 0,k,_,_=>rfl
 | n+1,k,hl,h=>by
  have hlen:(b.take (i+k)).length=i+k:=by rw[qar];omega
  have hb:(b.take (i+k))[i+k-d]?=b[i+k-d]?:=by rw[List.getElem?_take_of_lt (by omega)]
  have hk:i+k<b.length:=by omega
  have h1:=h k (by omega);rw[icopy,hlen,hb,<-h1,qaf hk,qfp,za8 hk hm];dsimp only;have:=qx1 hd hdi hm n (k+1) (by omega) (λj hj=>h j (by omega));rw[show i+k+(n+1)=i+(k+1)+n from by omega];exact this
theorem qz3 {n:Nat} (h3:3≤n) (h258:n≤258):¬(lcode n).1<256∧¬(lcode n).1=256∧¬286≤(lcode n).1:=by have:=qia h3 h258;omega
theorem zbz {bs:List UInt8} {ll dl:List Nat} {m r:Nat} {b:List UInt8} (hr:r≤32768) (hm:b.length≤m) (hle1:∀l∈ll,l≤15) (hle2:∀l∈dl,l≤15) (hw1:weight ll≤32768) (hw2:weight dl≤32768) (h256:0<lenAt ll 256) :
  ∀(k i:Nat) (l:List Mt) (f a:Nat),k=b.length-i→i≤b.length→Chain b r i l→(∀x∈toks b i l,0<lenAt ll (tsym x))→(∀x∈toks b i l,∀s,dsym x=some s→0<lenAt dl s)→(toks b i l).length<f→
   At bs a (tsbits ll dl (toks b i l)++sbits ll 256)→isyms bs m ll dl f (b.take i) a = .ok (b,a+(tsbits ll dl (toks b i l)).length+lenAt ll 256):=by
 intro k;induction k using Nat.strongRecOn with
 | ind k ih=>
  intro i l f a hk hib hch hl1 hl2 hf hat;obtain⟨f,rfl⟩:∃g,f=g+1:=⟨f-1,by omega⟩;by_cases h:i<b.length
  ·have lit:∀l,Chain b r (i+1) l→toks b i l = .lit b[i]::toks b (i+1) l→(∀x∈toks b i l,0<lenAt ll (tsym x))→(∀x∈toks b i l,∀s,dsym x=some s→0<lenAt dl s)→(toks b i l).length<f+1→
     At bs a (tsbits ll dl (toks b i l)++sbits ll 256)→isyms bs m ll dl (f+1) (b.take i) a = .ok (b,a+(tsbits ll dl (toks b i l)).length+lenAt ll 256):=by
    intro l hch he hl1 hl2 hf hat
    rw[he]at hl1 hl2 hf hat ⊢
    have e:tsbits ll dl (.lit b[i]::toks b (i+1) l)=sbits ll b[i].toNat++tsbits ll dl (toks b (i+1) l):=rfl
    rw[e]at hat ⊢
    rw[qat]at hat
    have hs:=qol hat.left hle1 hw1 (hl1 _ qb1)
    have hlt:b[i].toNat<256:=b[i].toNat_lt
    rw[isyms,hs]
    dsimp only
    rw[if_pos hlt,UInt8.ofNat_toNat,za8 h hm]
    dsimp only
    have:=ih (b.length-(i+1)) (by omega) (i+1) l f (a+lenAt ll b[i].toNat) rfl (by omega) hch (λx hx=>hl1 x (qbw _ hx)) (λx hx=>hl2 x (qbw _ hx)) (by simp only[qam]at hf;omega)
     (by have:=hat.right;rwa [sbits_length]at this)
    rw[this,qab,sbits_length]
    congr 2
    omega
   match l,hch with
   | [],hch=>exact lit [] trivial (qf6 h (λa n d t he=>by cases he)) hl1 hl2 hf hat
   | (q,n,d)::t,hch=>
    by_cases hc:q=i
    ·subst hc
     have hc2:=hch
     obtain⟨k1,k2,k3,k4,k5,k6,k7,k8,k9⟩:=hc2
     have he:toks b q ((q,n,d)::t) = .mat n d::toks b (q+n) t:=qjr h (by omega)
     rw[he]at hl1 hl2 hf hat ⊢
     have e:tsbits ll dl (.mat n d::toks b (q+n) t)=sbits ll (lcode n).1++(lsb (lcode n).2.2 (lcode n).2.1++(sbits dl (dcode d).1++(lsb (dcode d).2.2 (dcode d).2.1++tsbits ll dl (toks b (q+n) t)))):=by simp only[tsbits,qca,tbits,qat]
     rw[e]at hat ⊢
     simp only[qat]at hat
     have hs:=qol hat.left hle1 hw1 (hl1 _ qb1)
     have t1:=hat.right
     rw[sbits_length]at t1
     have hs2:=zdl k2 k3 t1.left
     have t2:=t1.right
     rw[lsb_length]at t2
     have hs3:=qol t2.left hle2 hw2 (hl2 _ qb1 _ rfl)
     have t3:=t2.right
     rw[sbits_length]at t3
     have hs4:=zc1 k4 (by omega) t3.left
     have t4:=t3.right
     rw[lsb_length]at t4
     have hd30:=(qig k4 (show d≤32768 by omega)).1
     have hcp:=qx1 (b:=b) (i:=q) (d:=d) (m:=m) k4 k6 hm n 0 (by omega) (λj hj=>k8 j (by omega))
     rw[qb5]at hcp
     have hmt:imatch bs m dl (lcode n).1 (b.take q) (a+lenAt ll (lcode n).1) = .ok (b.take (q+n),a+lenAt ll (lcode n).1+(lcode n).2.2+lenAt dl (dcode d).1+(dcode d).2.2):=by
      unfold imatch
      rw[hs2]
      dsimp only
      rw[hs3]
      dsimp only
      rw[if_neg (by omega),hs4]
      dsimp only
      rw[if_neg (by rw[qar];omega),hcp]
     obtain⟨c1,c2,c3⟩:=qz3 k2 k3
     rw[isyms,hs]
     dsimp only
     rw[if_neg c1,if_neg c2,if_neg c3,hmt]
     dsimp only
     have:=ih (b.length-(q+n)) (by omega) (q+n) t f _ rfl k7 k9 (λx hx=>hl1 x (qbw _ hx)) (λx hx=>hl2 x (qbw _ hx)) (by simp only[qam]at hf;omega) t4
     rw[this]
     simp only[qab,sbits_length,lsb_length]
     congr 2
     omega
    ·exact lit _ (qi7 hch _ _ _ _ rfl hc) (qf6 h (λa2 n2 d2 t2 he2=>by simp only[qux,qa1]at he2;rw[<-he2.1.1];exact hc)) hl1 hl2 hf hat
  ·have he:toks b i l=[]:=qjs (by omega);rw[he]at hat ⊢;have e:tsbits ll dl []=[]:=rfl;rw[e,qck]at hat;rw[isyms,qol hat hle1 hw1 h256];dsimp only;rw[if_neg (by omega),if_pos rfl,e,qbb,qb5,qa9 (by omega)]
theorem At.bytes {bs xs:List UInt8} {q:Nat} (h:At bs (8*q) (bytesBits xs)):(bs.drop q).take xs.length=xs:=by obtain⟨r,hr⟩:=h.drop;refine qn9 ?_;rw[qi8,hr,qc2 (by rw[qbk];exact qag _),qa9 (by rw[qbk];exact qag _)]
theorem qpv {bs xs:List UInt8} {q:Nat} (h:(bs.drop q).take xs.length=xs) (i:Nat) (hi:i<xs.length):bs[q+i]?=xs[i]?:=by rw[<-h,List.getElem?_take_of_lt hi,qjp]
theorem qgu {bs:List UInt8} {m:Nat}:∀(xs out:List UInt8) (q:Nat),(∀i,i<xs.length→bs[q+i]?=xs[i]?)→out.length+xs.length≤m→ibytes bs m xs.length out q = .ok (out++xs,8*(q+xs.length))
 | [],out,q,_,_=>by simp[ibytes]
 | x::xs,out,q,h,hm=>by
  have h0:=h 0 (by simp);rw[qb5,qaa]at h0;have hq:q<bs.length:=by
   rcases qbq q bs.length with k|k
   ·exact k
   ·rw[qbr k]at h0;cases h0
  simp only[qam]at hm;rw[qam,ibytes,if_pos hq,h0,qfp];unfold iput;rw[if_neg (by omega)];dsimp only;have:=qgu (bs:=bs) (m:=m) xs (out++[x]) (q+1) (λi hi=>by
   have:=h (i+1) (by simp only[qam];omega)
   rwa [qad,show q+(i+1)=q+1+i from by omega]at this) (by rw[qab,qam,qbb];omega)
  rw[this];simp only[qat,List.singleton_append];congr 2;omega
theorem qij {bs:List UInt8} {i:Nat} {x:UInt8} (h:bs[i]?=some x):byteAt bs i=x.toNat:=by unfold byteAt;rw[h];rfl
theorem qve {bs:List UInt8} {m:Nat} {l:List Bool} {last:Bool} {b out:List UInt8} (h:At bs 0 (storedBits l last b)) (hb:b.length≤65535) (hm:out.length+b.length≤m) :
  istored bs m out (l.length+3) = .ok (out++b,(storedBits l last b).length)∧itake bs l.length 1 = .ok (if last then 1 else 0,l.length+1)∧itake bs (l.length+1) 2 = .ok (0,l.length+1+2):=by
 have hL:(storedBits l last b).length=8*((l.length+10)/8+4+b.length):=by rw[qc0];omega
 have hle:=h.le;rw[hL,qbe]at hle;have hp:(padTo8 (l++last::lsb 2 0)).length=8*((l.length+10)/8):=by rw[qds];simp only[qab,qam,lsb_length];rw[qcd]
 unfold storedBits at h;have h1:=h.right;rw[qab,hp,qbk,qbe]at h1;have hs:(shead b.length).length=4:=rfl;rw[hs,show 8*((l.length+10)/8)+8*4=8*((l.length+10)/8+4) from by omega]at h1;have h2:=h.left.right;rw[hp,qbe]at h2;have h3:=h.left.left;unfold padTo8 at h3;have h4:=h3.left.right;rw[qbe]at h4;have g:=qpv h2.bytes;rw[hs]at g;have g0:=qij (g 0 (by decide));have g1:=qij (g 1 (by decide));have g2:=qij (g 2 (by decide));have g3:=qij (g 3 (by decide));rw[qb5]at g0;rw[qb6]at g0 g1 g2 g3;have e:(l.length+3+7)/8=(l.length+10)/8:=rfl;refine⟨?_,?_,?_⟩
 ·unfold istored;rw[e,if_pos (by omega),g0,g1,g2,g3,if_pos (by omega)];have hn:b.length%2^8+256*(b.length/256%2^8)=b.length:=by omega
  rw[hn,qgu b out _ (qpv h1.bytes) hm,hL]
 ·have:At bs l.length (lsb 1 (if last then 1 else 0)):=by have h5:At bs l.length ([last]++lsb 2 0):=h4;have:=h5.left;cases last<;>exact this
  exact qel this (by cases last<;>decide)
 ·have h5:At bs l.length ([last]++lsb 2 0):=h4;exact qel h5.right (by decide)
theorem qlt (l:List Bool) (last:Bool) (b:List UInt8):∃r,storedBits l last b=l++r:=
 ⟨_,by unfold storedBits padTo8;rw[qat,qat,qat]⟩
theorem qh4:∀(cs:List (List UInt8)) (l:List Bool),∃r,storedAll l cs=l++r
 | [],l=>⟨[],by rw[storedAll,qb0]⟩
 | b::t,l=>by obtain⟨r,hr⟩:=qh4 t (storedBits l t.isEmpty b);obtain⟨q,hq⟩:=qlt l t.isEmpty b;exact⟨q++r,by rw[storedAll,hr,hq,qat]⟩
theorem zbs {bs:List UInt8} {m:Nat}:∀(cs:List (List UInt8)) (l:List Bool) (out:List UInt8) (f:Nat),cs≠[]→At bs 0 (storedAll l cs)→(∀c∈cs,c.length≤65535)→out.length+cs.flatten.length≤m→cs.length≤f→
  irawF bs m f out l.length = .ok (out++cs.flatten,(storedAll l cs).length)
 | [],_,_,_,h,_,_,_,_=>absurd rfl h
 | b::t,l,out,f,_,hat,hc,hm,hf=>by
  obtain⟨f,rfl⟩:∃g,f=g+1:=⟨f-1,by simp only[qam]at hf;omega⟩;obtain⟨r,hr⟩:=qh4 t (storedBits l t.isEmpty b);rw[storedAll]at hat ⊢;have h0:=hat;rw[hr]at h0;rw[List.flatten_cons,qab]at hm;obtain⟨k1,k2,k3⟩:=qve (m:=m) (out:=out) h0.left (hc b qb1) (by omega);rw[irawF,k2];dsimp only;rw[k3];dsimp only;rw[if_neg (by decide)];unfold iblock;rw[if_pos rfl,k1];dsimp only;match t,hc,hm,hf,hat with
  | [],hc,hm,hf,hat=>simp[storedAll]
  | c::t,hc,hm,hf,hat=>rw[if_pos (show (if (c::t).isEmpty=true then 1 else 0:Nat)=0 by simp)];have:=zbs (bs:=bs) (m:=m) (c::t) (storedBits l (c::t).isEmpty b) (out++b) f (by simp) hat (λx hx=>hc x (qbw _ hx)) (by rw[qab];omega) (by simp only[qam]at hf ⊢;omega);rw[this,List.flatten_cons (l:=b),qat]
theorem chunks_flatten:∀(f:Nat) (b:List UInt8),(chunks f b).flatten=b
 | 0,b=>by simp[chunks]
 | f+1,b=>by
  rw[chunks];split
  ·rw[List.flatten_cons,chunks_flatten f,qep]
  ·simp
theorem qpt:∀(f:Nat) (b:List UInt8),b.length≤f→∀c∈chunks f b,c.length≤65535
 | 0,b,h,c,hc=>by simp[chunks]at hc;subst hc;omega
 | f+1,b,h,c,hc=>by
  rw[chunks]at hc;split at hc
  ·rcases qaw.1 hc with e|e
   ·rw[e,qar];omega
   ·exact qpt f _ (by rw[qau];omega) c e
  ·simp at hc;subst hc;omega
theorem qx7 (f:Nat) (b:List UInt8):chunks f b≠[]:=by
 cases f with
 | zero=>simp[chunks]
 | succ f=>rw[chunks];split<;>simp
theorem qym:∀(cs:List (List UInt8)) (l:List Bool),l.length+cs.length≤(storedAll l cs).length
 | [],l=>by simp[storedAll]
 | b::t,l=>by rw[storedAll];have:=qym t (storedBits l t.isEmpty b);rw[qc0]at this;simp only[qam];omega
theorem qob (l:List Bool) (ext:List UInt8):At (bytesOf l++ext) 0 l:=by refine At.of (r:=List.replicate (pad l.length) false++bytesBits ext) ?_;rw[qjm,qpy];unfold padTo8;rw[qat]
theorem qme (b ext:List UInt8) (m:Nat) (hm:b.length≤m):iraw (plainBytes b++ext) m = .ok (b,(plainBytes b).length):=by
 have hat:=qob (plainBits b) ext;have hf:(chunks b.length b).length≤fuel (plainBytes b++ext):=by have h1:=qym (chunks b.length b) [];have h2:=hat.le;unfold plainBits at h2;unfold plainBytes fuel;unfold plainBits;simp only[qbb]at h1;omega
 have:=zbs (bs:=plainBytes b++ext) (m:=m) (chunks b.length b) [] [] _ (qx7 _ _) hat (qpt _ b (qag _)) (by rw[chunks_flatten];simpa using hm) hf;rw[chunks_flatten,qck]at this;unfold iraw;rw[qbb]at this;rw[this];dsimp only;rw[show (plainBytes b).length=((plainBits b).length+7)/8 from qcq _];rfl
theorem qmt {ls:List Nat} {n:Nat} (h:∀i,n≤i→i<ls.length→lenAt ls i=0):∀x∈ls.drop n,x=0:=by
 intro x hx;obtain⟨i,hi⟩:=List.getElem?_of_mem hx;rw[qjp]at hi;have hl:n+i<ls.length:=by
  rcases qbq (n+i) ls.length with k|k
  ·exact k
  ·rw[qbr k]at hi;cases hi
 have:=h (n+i) (by omega) hl;unfold lenAt at this;rw[hi]at this;exact this
theorem qen {ls:List Nat} {n:Nat} (h:∀i,n≤i→i<ls.length→lenAt ls i=0) (i:Nat):lenAt (ls.take n) i=lenAt ls i:=by
 by_cases hi:i<n
 ·unfold lenAt;rw[List.getElem?_take_of_lt hi]
 ·have e:lenAt (ls.take n) i=0:=by unfold lenAt;rw[qbr (by rw[qar];omega)];rfl
  rw[e];by_cases hl:i<ls.length
  ·exact (h i (by omega) hl).symm
  ·unfold lenAt;rw[qbr (by omega)];rfl
theorem qrd {l:List Nat} (h:∀x∈l,x=0) {c:Nat} (hc:c≠0):l.count c=0:=
 List.count_eq_zero.2 λhm=>hc (h c hm)
theorem qul {ls:List Nat} {n:Nat} (h:∀i,n≤i→i<ls.length→lenAt ls i=0) {c:Nat} (hc:c≠0):(ls.take n).count c=ls.count c:=by
 conv=>rhs;rw[<-qep n ls,qe1,qrd (qmt h) hc]
 rfl
theorem qr7 {ls:List Nat} {n:Nat} (h:∀i,n≤i→i<ls.length→lenAt ls i=0):∀l,nxt (ls.take n) l=nxt ls l
 | 0=>rfl
 | l+1=>by
  rw[nxt,nxt,qr7 h l];by_cases h0:l=0
  ·rw[if_pos h0,if_pos h0]
  ·rw[if_neg h0,if_neg h0,qul h h0]
theorem qiv {ls:List Nat} {n:Nat} (h:∀i,n≤i→i<ls.length→lenAt ls i=0):sbits (ls.take n)=sbits ls:=by
 funext s;unfold sbits;rw[qen h];by_cases h0:lenAt ls s=0
 ·rw[h0];unfold codeAt;rw[qen h,if_pos h0,if_pos h0]
 ·have hs:s<n:=by
   rcases qbq s n with k|k
   ·exact k
   ·exact absurd (h s k (qd0 (by omega))) h0
  unfold codeAt;rw[qen h,if_neg h0,if_neg h0];unfold code;rw[qen h,qr7 h,zay,qcs (by omega)]
theorem qdr:∀a b:List Nat,weight (a++b)=weight a+weight b
 | [],b=>by simp[weight]
 | x::a,b=>by rw[qc3,weight,weight,qdr a b];omega
theorem qjc:∀{l:List Nat},(∀x∈l,x=0)→weight l=0
 | [],_=>rfl
 | x::l,h=>by rw[weight,qjc λy hy=>h y (qbw _ hy),if_pos (h x qb1)]
theorem qf5 {ls:List Nat} {n:Nat} (h:∀i,n≤i→i<ls.length→lenAt ls i=0):weight (ls.take n)=weight ls:=by
 conv=>rhs;rw[<-qep n ls,qdr,qjc (qmt h)]
 rfl
theorem qxj:fixed 288=alw 288:=by decide +kernel
theorem qxk:∀s,s<30→sbits (List.replicate 32 5) s=sbits (List.replicate 30 5) s:=by decide +kernel
theorem zak:∀s,s<30→0<lenAt (List.replicate 32 5) s:=by decide +kernel
theorem qyl:∀s,s<286→0<lenAt (alw 288) s:=by decide +kernel
theorem five32:weight (List.replicate 32 5)=32768:=by decide +kernel
theorem qrt {b:List UInt8} {r:Nat} (hr:r≤32768) {l:List Mt} (hch:Chain b r 0 l):∀x∈toks b 0 l,tsym x<286∧tsym x≠256∧∀s,dsym x=some s→s<30:=by
 intro x hx;cases x with
 | lit c=>
  have:c.toNat<256:=c.toNat_lt;exact⟨by show c.toNat<286;omega,by show c.toNat≠256;omega,λs h=>by cases h⟩
 | mat n d=>
  obtain⟨k1,k2,k3,k4⟩:=qp9 hr (b.length-0) 0 l rfl hch _ hx n d rfl;have h1:=qia k1 k2;have h2:=qig k3 k4;refine⟨h1.2.1,by show (lcode n).1≠256;omega,λs h=>?_⟩;have:(dcode d).1=s:=by simpa[dsym] using h
  omega
theorem qmr {α β:Type} {f g:α→List β}:∀{l:List α},(∀x∈l,f x=g x)→l.flatMap f=l.flatMap g
 | [],_=>rfl
 | x::l,h=>by rw[qca,qca,h x qb1,qmr λy hy=>h y (qbw _ hy)]
theorem qjd {ll dl ll' dl':List Nat} {T:List Tok} (h1:∀x∈T,sbits ll (tsym x)=sbits ll' (tsym x)) (h2:∀x∈T,∀s,dsym x=some s→sbits dl s=sbits dl' s):tsbits ll dl T=tsbits ll' dl' T:=by
 unfold tsbits;refine qmr λx hx=>?_
 cases x with
 | lit c=>exact h1 _ hx
 | mat n d=>have k1:=h1 _ hx;have k2:=h2 _ hx _ rfl;simp only[tbits];rw[show tsym (.mat n d)=(lcode n).1 from rfl]at k1;rw[k1,k2]
theorem qje {ll dl:List Nat}:∀{T:List Tok},(∀x∈T,0<lenAt ll (tsym x))→T.length≤(tsbits ll dl T).length
 | [],_=>qba _
 | x::T,h=>by
  have ih:=qje (dl:=dl) (T:=T) λy hy=>h y (qbw _ hy)
  have h0:=h x qb1;have e:tsbits ll dl (x::T)=tbits ll dl x++tsbits ll dl T:=rfl;have h1:1≤(tbits ll dl x).length:=by
   cases x with
   | lit c=>rw[tbits,sbits_length];exact h0
   | mat n d=>have:0<lenAt ll (lcode n).1:=h0;simp only[tbits,qab,sbits_length];omega
  rw[e,qab,qam];omega
theorem qu9 {bs:List UInt8} {ll dl:List Nat} {m r a:Nat} {b:List UInt8} {l:List Mt} (hr:r≤32768) (hch:Chain b r 0 l) (hm:b.length≤m) (hle1:∀l∈ll,l≤15) (hle2:∀l∈dl,l≤15) (hw1:weight ll≤32768) (hw2:weight dl≤32768)
  (h256:0<lenAt ll 256) (h1:∀x∈toks b 0 l,0<lenAt ll (tsym x)) (h2:∀x∈toks b 0 l,∀s,dsym x=some s→0<lenAt dl s) (hat:At bs a (tsbits ll dl (toks b 0 l)++sbits ll 256)) :
  isyms bs m ll dl (fuel bs) [] a = .ok (b,a+(tsbits ll dl (toks b 0 l)++sbits ll 256).length):=by
 have hf:(toks b 0 l).length<fuel bs:=by have k1:=hat.le;have k2:=qje (dl:=dl) h1;rw[qab,sbits_length]at k1;unfold fuel;omega
 have:=zbz (b:=b) hr hm hle1 hle2 hw1 hw2 h256 (b.length-0) 0 l (fuel bs) a rfl (qba _) hch h1 h2 hf hat;rw[qao]at this;rw[this,qab,sbits_length,qcu]
theorem qmw {bs:List UInt8} {m:Nat} {b:List UInt8} {h:Nat} {body:List Bool} (hh:h<3) (hat:At bs 0 ([true]++lsb 2 h++body)) (hf:0<fuel bs)
  (hb:iblock bs m h [] 3 = .ok (b,3+body.length)):irawF bs m (fuel bs) [] 0 = .ok (b,([true]++lsb 2 h++body).length):=by
 obtain⟨f,hf'⟩:∃f,fuel bs=f+1:=⟨fuel bs-1,by omega⟩;have k1:itake bs 0 1 = .ok (1,1):=qel (n:=1) (v:=1) hat.left.left (by decide);have k2:itake bs 1 2 = .ok (h,3):=qel (n:=2) (v:=h) hat.left.right (by omega);rw[hf',irawF,k1];dsimp only;rw[k2];dsimp only;rw[if_neg (by omega),hb];dsimp only;rw[if_neg (by decide)];simp only[qab,qam,qbb,lsb_length]
theorem qsu (bs:List UInt8):0<fuel bs:=by unfold fuel;omega
theorem qwu {bs:List UInt8} {m:Nat} {b:List UInt8} {bb:List Bool} (h:irawF bs m (fuel bs) [] 0 = .ok (b,bb.length)):iraw bs m = .ok (b,(bytesOf bb).length):=by unfold iraw;rw[h,qcq]
theorem qms {b:List UInt8} {bf:List Bool} (h:FixedB b bf) (ext:List UInt8) (m:Nat) (hm:b.length≤m):iraw (bytesOf bf++ext) m = .ok (b,(bytesOf bf).length):=by
 obtain⟨hd,e,h0,_⟩:=h;rw[h0 rfl]at e;have hch:Chain b 32768 0 (qdz b 32768):=by simpa using qe0 b 32768
 have hts:=qrt (qag _) hch;have e2:bf=[true]++lsb 2 1++(tsbits (alw 288) (List.replicate 32 5) (toksOf b)++sbits (alw 288) 256):=by rw[e];simp only[Bool.false_eq_true,if_false,qb0,qat];rw[qjd (T:=toksOf b) (λ_ _=>rfl) λx hx s hs=>(qxk s ((hts x hx).2.2 s hs)).symm]
 obtain⟨bs,hbs⟩:=zex (bytesOf bf++ext);have hat:At bs 0 bf:=by rw[hbs];exact qob bf ext
 rw[<-hbs];refine qwu ?_;rw[e2]at hat ⊢;refine qmw (by decide) hat (qsu bs) ?_;unfold iblock;rw[if_neg (by decide),if_pos rfl];unfold ifixed;rw[qxj];have a3:=hat.right;exact qu9 (qag _) hch hm qs8 (λx hx=>by rw[List.eq_of_mem_replicate hx];decide) (by rw[qm2];exact qag _) (by rw[five32];exact qag _) (qyl 256 (by decide)) (λx hx=>qyl _ (hts x hx).1) (λx hx s hs=>zak s ((hts x hx).2.2 s hs)) a3
theorem qz2 {ls:List Nat} {c:Nat} (h:∀l∈ls,l≤c) (i:Nat):lenAt ls i≤c:=by
 unfold lenAt;cases e:ls[i]? with
 | none=>simp
 | some x=>simpa using h x (qa6 e)
theorem qsw {bs:List UInt8} {cl:List Nat} (hle:∀l∈cl,l≤7):∀(ps fs:List Nat) (a:Nat),At bs a (ps.flatMap λi=>lsb 3 (lenAt cl i))→
  ifirst bs ps fs a = .ok (ps.foldl (λfs i=>fs.set i (lenAt cl i)) fs,a+(ps.flatMap λi=>lsb 3 (lenAt cl i)).length)
 | [],fs,a,_=>rfl
 | i::t,fs,a,h=>by rw[qca]at h ⊢;have k:=qel h.left (show lenAt cl i<2^3 by have:=qz2 hle i;omega);have h2:=h.right;rw[lsb_length]at h2;rw[ifirst,k];dsimp only;rw[qsw hle t _ _ h2,List.foldl_cons,qab,lsb_length,qcu]
theorem qph {cl:List Nat}:∀(ps fs:List Nat) (j:Nat),(ps.foldl (λfs i=>fs.set i (lenAt cl i)) fs)[j]?=if j∈ps∧j<fs.length then some (lenAt cl j) else fs[j]?
 | [],fs,j=>by simp
 | p::ps,fs,j=>by
  rw[List.foldl_cons,qph ps,List.length_set];by_cases h1:j∈ps∧j<fs.length
  ·rw[if_pos h1,if_pos ⟨qbw _ h1.1,h1.2⟩]
  ·rw[if_neg h1,List.getElem?_set];by_cases h2:p=j
   ·subst h2;by_cases h3:p<fs.length
    ·rw[if_pos rfl,if_pos h3,if_pos ⟨qb1,h3⟩]
    ·rw[if_pos rfl,if_neg h3,if_neg (λh=>h3 h.2),qbr (by omega)]
   ·rw[if_neg h2,if_neg];rintro⟨h3,h4⟩;rcases qaw.1 h3 with e|e
    ·exact h2 e.symm
    ·exact h1 ⟨e,h4⟩
theorem qkv:∀n,n≤19→places.take n=(List.range n).map ord:=by decide +kernel
theorem zce:∀j,j<19→∃i,i<19∧ord i=j:=by decide +kernel
theorem qxm {cl:List Nat} {nc:Nat} (hl:cl.length=19) (hn:nc≤19) (hz:∀i,nc≤i→i<19→lenAt cl (ord i)=0) :
  (places.take nc).foldl (λfs i=>fs.set i (lenAt cl i)) (List.replicate 19 0)=cl:=by
 refine qlv λj=>?_
 rw[qph,qb2];by_cases hj:j<19
 ·have hc:cl[j]?=some (lenAt cl j):=by unfold lenAt;rw[qaf (by omega)];rfl
  rw[hc];by_cases hm:j∈places.take nc
  ·rw[if_pos ⟨hm,hj⟩]
  ·rw[if_neg λh=>hm h.1];obtain⟨i,hi,he⟩:=zce j hj;have hi2:nc≤i:=by
    rcases qbq i nc with k|k
    ·refine absurd ?_ hm;rw[qkv nc hn,<-he];exact List.mem_map_of_mem (qdk.2 k)
    ·exact k
   have:=hz i hi2 hi;rw[he]at this;rw[this,qfb,if_pos hj]
 ·rw[if_neg λh=>hj h.2,qbr (by rw[qb2];omega),qbr (by omega)]
theorem qwm {bs:List UInt8} {cl:List Nat} {n:Nat} (hle:∀l∈cl,l≤15) (hw:weight cl≤32768):∀(rs:List Rn) (out fin:List Nat) (f a:Nat),RunsOk out rs fin→fin.length=n→(∀r∈rs,0<lenAt cl r.1)→rs.length<f→
  At bs a (rs.flatMap (rbits cl))→ilens bs cl n f out a = .ok (fin,a+(rs.flatMap (rbits cl)).length)
 | [],out,fin,f,a,h,hn,_,hf,_=>by
  obtain⟨f,rfl⟩:∃g,f=g+1:=⟨f-1,by omega⟩;obtain rfl:out=fin:=h;rw[ilens,if_pos (by omega)];rfl
 | r::rs,out,fin,f,a,h,hn,hu,hf,hat=>by
  obtain⟨f,rfl⟩:∃g,f=g+1:=⟨f-1,by omega⟩;have hlen:=RunsOk.len h;have hlen2:=RunsOk.len h.2;simp only[qam]at hlen hf;rw[qca]at hat ⊢;have h1:=hat.left;unfold rbits at h1;have hs:=qol h1.left hle hw (hu r qb1);have h2:=h1.right;rw[sbits_length]at h2;have h3:=hat.right;have ih:=qwm (n:=n) hle hw rs (exp1 out r) fin f _ h.2 hn (λx hx=>hu x (qbw _ hx)) (by omega) h3;have e:(rbits cl r).length=lenAt cl r.1+r.2.2:=by unfold rbits;rw[qab,sbits_length,lsb_length]
  rw[e]at ih;rw[ilens,if_neg (by omega),hs];dsimp only;rw[qab,e];rcases h.1 with⟨c1,c2,c3⟩|⟨c1,c2,c3,c4⟩|⟨c1,c2,c3⟩|⟨c1,c2,c3⟩
  ·rw[if_pos (by omega)];unfold exp1 at ih;rw[if_pos (by omega),c3,qb5]at ih;rw[ih,c3];congr 2;omega
  ·rw[c3]at h2 ih;have hv:=qel h2 (show r.2.1<2^2 by omega);unfold exp1 at ih hlen2;rw[if_neg (by omega),if_pos c1]at ih hlen2;rw[qab,qb2]at hlen2;have w1:wide 16=2:=rfl;have l1:least 16=3:=rfl;rw[c1]at hs hv ih ⊢;rw[if_neg (by decide),w1,hv];dsimp only;rw[l1,if_neg (λh=>h.elim (λk=>c4 k.2) (λk=>by omega)),if_pos rfl];rw[show a+lenAt cl 16+2=a+(lenAt cl 16+2) from by omega,ih,c3];congr 2;omega
  ·rw[c3]at h2 ih;have hv:=qel h2 (show r.2.1<2^3 by omega);unfold exp1 at ih hlen2;rw[if_neg (by omega),if_neg (by omega),if_pos c1]at ih hlen2;rw[qab,qb2]at hlen2;have w1:wide 17=3:=rfl;have l1:least 17=3:=rfl;rw[c1]at hs hv ih ⊢;rw[if_neg (by decide),w1,hv];dsimp only;rw[l1,if_neg (by rintro (⟨k,_⟩|k)<;>omega),if_neg (by decide)];rw[show a+lenAt cl 17+3=a+(lenAt cl 17+3) from by omega,ih,c3];congr 2;omega
  ·rw[c3]at h2 ih;have hv:=qel h2 (show r.2.1<2^7 by omega);unfold exp1 at ih hlen2;rw[if_neg (by omega),if_neg (by omega),if_neg (by omega)]at ih hlen2;rw[qab,qb2]at hlen2;have w1:wide 18=7:=rfl;have l1:least 18=11:=rfl;rw[c1]at hs hv ih ⊢;rw[if_neg (by decide),w1,hv];dsimp only;rw[l1,if_neg (by rintro (⟨k,_⟩|k)<;>omega),if_neg (by decide)];rw[show a+lenAt cl 18+7=a+(lenAt cl 18+7) from by omega,ih,c3];congr 2;omega
theorem qla {n:Nat} (g:Nat→Nat) {s:Nat} (h:s<n):lenAt ((List.range n).map g) s=g s:=by unfold lenAt;rw[qbx,quw h];rfl
theorem zby {b:List UInt8} {l:List Mt} (h:0<b.length):toks b 0 l≠[]:=by
 unfold toks;rw[dif_pos h];match l with
 | []=>simp
 | (a,n,d)::t=>dsimp only;split<;>simp
theorem za2 {l:List Nat} {x y:Nat} (hx:x∈l) (hy:y∈l) (h:x≠y):2≤l.length:=by
 match l with
 | []=>cases hx
 | [z]=>simp at hx hy;omega
 | _::_::_=>simp
theorem qvg {cs ls:List Nat} {L:Nat} (h:LensOk L cs ls):some_ ls=(symsTo cs cs.length).length:=by
 have hm:ls=(List.range cs.length).map (lenAt ls):=by
  rw[<-h.len];refine qlv λi=>?_
  rw[qbx];by_cases hi:i<ls.length
  ·rw[quw hi,qaf hi];simp[lenAt,hi]
  ·rw[qbr (by omega),qbr (by simp;omega)];rfl
 unfold some_ symsTo;conv=>lhs;rw[hm]
 rw[List.filter_map,qa8];congr 1;refine List.filter_congr λs _=>?_
 show decide (0<lenAt ls s)=decide (0<lenAt cs s);by_cases hp:0<lenAt cs s
 ·rw[decide_eq_true hp,decide_eq_true (h.pos s hp)]
 ·rw[decide_eq_false hp,decide_eq_false (by rw[h.zero s (by omega)];omega)]
theorem zan {b:List UInt8} {bd:List Bool} (h:DynB b bd) (ext:List UInt8) (m:Nat) (hm:b.length≤m):iraw (bytesOf bd++ext) m = .ok (b,(bytesOf bd).length):=by
 obtain⟨ll,dl,o1,o2,hd,e,_,ht⟩:=h;obtain⟨nl,nd,nc,cl,rs,T⟩:=ht rfl;have hch:Chain b 32768 0 (qdz b 32768):=by simpa using qe0 b 32768
 have hts:=qrt (qag _) hch;have ll286:ll.length=286:=by rw[o1.len];simp[litCs]
 have dl30:dl.length=30:=by rw[o2.len];simp[distCs]
 have zl:∀i,nl≤i→i<ll.length→lenAt ll i=0:=λi h1 h2=>qlj ll 257 ll.length i (by rw[<-T.enl];exact h1) h2
 have zd:∀i,nd≤i→i<dl.length→lenAt dl i=0:=λi h1 h2=>qlj dl 1 dl.length i (by rw[<-T.ennd];exact h1) h2
 have nl1:257≤nl:=by rw[T.enl];exact qlk _ _ _ (by omega)
 have nl2:nl≤286:=by rw[T.enl,<-ll286];exact qht _ _ _
 have nd1:1≤nd:=by rw[T.ennd];exact qlk _ _ _ (by omega)
 have nd2:nd≤30:=by rw[T.ennd,<-dl30];exact qht _ _ _
 have lit:∀s,s<286→0<litc b (toksOf b) s→0<lenAt ll s:=λs hs h=>o1.pos s (by unfold litCs;rw[qla _ hs];exact h)
 have hpos:∀x∈toksOf b,0<litc b (toksOf b) (tsym x):=λx hx=>by have:0<lcnt (toksOf b) (tsym x):=List.count_pos_iff.2 (List.mem_map_of_mem hx);unfold litc;omega
 have h256c:0<litc b (toksOf b) 256:=by unfold litc;rw[if_pos rfl];omega
 have h256:0<lenAt ll 256:=lit 256 (by decide) h256c;have hl1:∀x∈toksOf b,0<lenAt ll (tsym x):=λx hx=>lit _ (hts x hx).1 (hpos x hx)
 have hl2:∀x∈toksOf b,∀s,dsym x=some s→0<lenAt dl s:=λx hx s hs=>o2.pos s (by
  unfold distCs
  rw[qla _ ((hts x hx).2.2 s hs)]
  exact List.count_pos_iff.2 (List.mem_filterMap.2 ⟨x,hx,hs⟩))
 have hsy:∀s,s<286→0<litc b (toksOf b) s→s∈symsTo (litCs b) (litCs b).length:=λs hs h=>qd8.2 ⟨by simpa[litCs] using hs,by unfold litCs;rw[qla _ hs];exact h⟩
 have hw1:weight ll=32768:=by
  refine o1.full ?_;by_cases h0:b.length=0
  ·exact za2 (hsy 256 (by decide) h256c) (hsy 0 (by decide) (by unfold litc;rw[if_pos (show b.length=0∧0=0 from ⟨h0,rfl⟩)];omega)) (by decide)
  ·obtain⟨x,t,hx⟩:=List.exists_cons_of_ne_nil (zby (l:=qdz b 32768) (show 0<b.length by omega));have hxm:x∈toksOf b:=by unfold toksOf;rw[hx];exact qb1
   exact za2 (hsy 256 (by decide) h256c) (hsy (tsym x) (hts x hxm).1 (hpos x hxm)) (qgh (hts x hxm).2.1)
 have hw2:=qhr o2;have wh1:iwhole (ll.take nl) false=true:=by unfold iwhole;rw[qf5 zl,hw1];rfl
 have wh2:iwhole (dl.take nd) true=true:=by
  unfold iwhole;rw[qf5 zd,decide_eq_true hw2];by_cases h2:2≤(symsTo (distCs b) (distCs b).length).length
  ·rw[o2.full h2];rfl
  ·have h3:some_ (dl.take nd)<2:=by have h4:some_ (dl.take nd)≤some_ dl:=((List.take_sublist nd dl).filter _).length_le;rw[qvg o2]at h4;omega
   have h5:ones (dl.take nd)=true:=List.all_eq_true.2 λx hx=>by simpa using o2.few (by omega) x (qbu hx)
   rw[decide_eq_true h3,h5];simp
 have wh3:iwhole cl false=true:=by unfold iwhole;rw[T.full];rfl
 obtain⟨bs,hbs⟩:=zex (bytesOf bd++ext);have hat:At bs 0 bd:=by rw[hbs];exact qob bd ext
 rw[<-hbs];refine qwu ?_;have e2:bd=[true]++lsb 2 2++(lsb 5 (nl-257)++(lsb 5 (nd-1)++(lsb 4 (nc-4)++(((places.take nc).flatMap λi=>lsb 3 (lenAt cl i))++(rs.flatMap (rbits cl)++(tsbits (ll.take nl) (dl.take nd) (toksOf b)++sbits (ll.take nl) 256)))))):=by rw[e,T.bits,qjd (ll:=ll.take nl) (dl:=dl.take nd) (ll':=ll) (dl':=dl) (λx _=>by rw[qiv zl]) (λx _ s _=>by rw[qiv zd]),qiv zl,qkv nc T.nc19,List.flatMap_map];simp only[if_true,qat]
 have hle1:∀l∈ll.take nl,l≤15:=λx hx=>o1.le x (qbu hx)
 have hle2:∀l∈dl.take nd,l≤15:=λx hx=>o2.le x (qbu hx)
 rw[e2]at hat ⊢;refine qmw (by decide) hat (qsu bs) ?_;unfold iblock;rw[if_neg (by decide),if_neg (by decide)];have a1:At bs 3 _:=hat.right;have a2:=a1.right;have a3:=a2.right;have a4:=a3.right;have a5:=a4.right;have a6:=a5.right;have k1:=qel a1.left (show nl-257<2^5 by omega);have k2:=qel a2.left (show nd-1<2^5 by omega);have n1:=T.nc4;have n2:=T.nc19;have k3:=qel a3.left (show nc-4<2^4 by omega);have k4:=qsw T.cle _ (List.replicate 19 0) _ a4.left;rw[qxm T.clen T.nc19 T.rest]at k4;have rl:=RunsOk.len T.runs;have k5:=qwm (n:=nl-257+257+(nd-1)+1) (λx hx=>qan (T.cle x hx) (by decide)) (by rw[T.full];exact qag _) rs [] _ (nl-257+257+(nd-1)+1+1) _ T.runs
  (by rw[qab,qar,qar];omega) T.used (by rw[qab,qar,qar]at rl;simp only[qbb]at rl;omega) a5.left
 have k6:=qu9 (qag _) hch hm hle1 hle2 (by rw[qf5 zl,hw1];exact qag _) (by rw[qf5 zd];exact hw2) (by rw[qen zl];exact h256) (λx hx=>by rw[qen zl];exact hl1 x hx) (λx hx s hs=>by rw[qen zd];exact hl2 x hx s hs) a6;simp only[lsb_length]at k2 k3 k4 k5 k6;unfold idyn;rw[k1];dsimp only;rw[if_neg (by omega),k2];dsimp only;rw[if_neg (by omega),k3];dsimp only;unfold idyn2;have hn4:nc-4+4=nc:=by omega
 have hn:nl-257+257=nl:=by omega
 rw[hn4,k4];dsimp only;rw[wh3,if_neg (by decide)];unfold idyn3;rw[k5];dsimp only;rw[hn];have t1:(ll.take nl++dl.take nd).take nl=ll.take nl:=by rw[qc2 (by rw[qar];omega),zay,Nat.min_self]
 have t2:(ll.take nl++dl.take nd).drop nl=dl.take nd:=by
  have:(ll.take nl).length=nl:=by rw[qar];omega
  exact List.drop_left' this
 have t3:lenAt (ll.take nl++dl.take nd) 256=lenAt ll 256:=by unfold lenAt;rw[qcc (by rw[qar];omega),List.getElem?_take_of_lt (by omega)]
 rw[t1,t2,t3,if_neg (by omega),wh1,if_neg (by decide),wh2,if_neg (by decide),k6];simp only[qab,lsb_length,qcu,toksOf]
theorem qzj {b r:List UInt8} {level:Int} (h:RawRes b level r) (hl:1≤level) (ext:List UInt8) (m:Nat) (hm:b.length≤m):iraw (r++ext) m = .ok (b,r.length):=by
 obtain⟨bf,h1,h2,h3⟩:=h;by_cases h0:level=1
 ·rw[h2 h0];exact qms h1 ext m hm
 ·rcases (h3 (by omega)).1 with e|e|⟨bd,hd,e⟩
  ·rw[e];exact qms h1 ext m hm
  ·rw[e];exact qme b ext m hm
  ·rw[e];exact zan hd ext m hm
theorem qge:∀(cs:List (List UInt8)) (l:List Bool),l.length%8=0→(storedAll l cs).length=l.length+40*cs.length+8*cs.flatten.length
 | [],l,_=>by simp[storedAll]
 | b::t,l,h=>by have e:=qc0 l t.isEmpty b;rw[storedAll,qge t _ (by rw[e];omega),e,List.flatten_cons,qab,qam];omega
theorem qii:∀(f:Nat) (b:List UInt8),(chunks f b).length≤b.length/65535+1
 | 0,b=>by simp[chunks]
 | f+1,b=>by
  rw[chunks];split
  ·have:=qii f (b.drop 65535);rw[qau]at this;rw[qam];omega
  ·simp
theorem qoz (b:List UInt8):(plainBytes b).length=b.length+5*(chunks b.length b).length:=by unfold plainBytes plainBits;rw[qcq,qge _ _ rfl,chunks_flatten,qbb];omega
theorem qzo (b:List UInt8):(plainBytes b).length≤b.length+5*(b.length/65535+1):=by rw[qoz];have:=qii b.length b;omega
open Go.RowKit wb
theorem qtz {P:Program} {w:World} {r:Reach} {base:Nat} {t e:TypeId} {a:Option Addr} {len cap:Nat} (ht:P.underlying t=some (.slice e)) (h:Value.okWide P w r base t (.slice a len cap)):∀x∈blk a,x<w.heap.size:=by
 intro x hx;cases a with
 | none=>simp[blk]at hx
 | some ad=>
  simp only[blk,qaz]at hx;simp only[Value.okWide,ht,Cell.okWide,Cell.ok,World.has]at h;obtain⟨_,_,_,_,row,cells,hs,_⟩:=h;rw[hx];unfold World.shape? at hs;cases hb:w.heap[ad.block]? with
  | none=>rw[hb]at hs;cases hs
  | some o=>exact (Array.getElem?_eq_some_iff.1 hb).1
def RQ (b r:List UInt8):Prop:=r.length≤6*b.length+100∧(r=plainBytes b∨∃level:Int,1≤level∧RawRes b level r)
theorem qxh {b:List UInt8} {bf:List Bool} (h:FixedB b bf):(bytesOf bf).length≤6*b.length+10:=by
 obtain⟨hd,e,h0,_⟩:=h;rw[h0 rfl]at e;have hch:Chain b 32768 0 (qdz b 32768):=by simpa using qe0 b 32768
 have h1:=qlz (alw 288) (List.replicate 30 5) qs8 (λx hx=>by rw[List.eq_of_mem_replicate hx];decide) (toksOf b) (qp9 (qag _) (b.length-0) 0 _ rfl hch);have h2:=qh1 b 0 (qdz b 32768);have h3:(sbits (alw 288) 256).length≤15:=qdo (alw 288) qs8 256;have h4:(toksOf b).length*48≤b.length*48:=qcy _ (by unfold toksOf;omega);rw[qcq,e];simp only[qab,lsb_length,qam,qbb];omega
theorem zdb (a:Option Addr) (cap:Nat) (b:List UInt8) (level:Int) (w:World) (h:lib.Rd w a cap b) (hlen:b.length≤100000) (hla:∀x∈blk a,x<w.heap.size) :
  Calls Tryz.prog 49 #[.slice a b.length cap,.int .i64 level] w λe w'=>∃r,RQ b r∧NewBytes w r e w':=by
 by_cases hl:level≤0
 ·refine (qzi a cap b level w h (by omega) hl).mono λe w' hn=>⟨plainBytes b,⟨?_,.inl rfl⟩,hn⟩
  have:=qzo b;omega
 ·refine (qzk a cap b level w h hlen (by omega) hla).mono ?_;rintro e w' ⟨r,hr,hn⟩;refine⟨r,⟨?_,.inr ⟨level,by omega,hr⟩⟩,hn⟩;obtain⟨bf,h1,h2,h3⟩:=hr;have h4:=qxh h1;by_cases h5:level=1
  ·rw[h2 h5];omega
  ·have:=(h3 (by omega)).2.1;omega
theorem qyr (a:Option Addr) (cap:Nat) (b:List UInt8) (level:Int) (w:World) (h:lib.Rd w a cap b) (hlen:b.length≤100000) (hla:∀x∈blk a,x<w.heap.size) :
  Calls Tryz.prog 21 #[.slice a b.length cap,.int .i64 level] w λe w'=>∃r,RQ b r∧OwnNew w (zlibOf level r b) e w':=
 qys a cap b (RQ b) level w h (λr hr=>by have:=hr.1;omega) (λw' f=>zdb a cap b level w' (h.fr f) hlen (λx hx=>qal (hla x hx) f.size))
end Go.Proofs.YtbabjlohkniciaaGreatDoor.trip
