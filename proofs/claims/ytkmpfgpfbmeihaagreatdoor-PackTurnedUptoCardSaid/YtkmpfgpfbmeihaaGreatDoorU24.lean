/-
  Texts of this proof, one behind the other: OWrite, OPlain, OPlain2.
-/
import Derived.Test.YtkmpfgpfbmeihaaGreatDoorU23
set_option maxHeartbeats 16000000
set_option maxRecDepth 100000
set_option linter.unusedVariables false
set_option linter.unusedSimpArgs false
namespace Go.Proofs.YtkmpfgpfbmeihaaGreatDoor
namespace os
open Go Go.RowKit lib bm pk huf
set_option maxRecDepth 100000
def EF (os:List pk.Obj) (di dO:List Nat) (n:Nat) (E:List UInt8) (dp:Nat):Prop:=
 ∃o,os[di.length]?=some o/\((∃r,trip.RQ o.body r/\E=hd o.kind.toNat o.body.length++defl.bZ 2 r o.body/\dp=0)\/
  ∃j b a p d r,j<di.length/\os[j]?=some b/\b.kind=o.kind/\di[j]?=some a/\dO[j]?=some p/\p<20/\dp=p+1/\delta.Made b.body o.body d/\d.length<o.body.length/\trip.RQ d r/\E=hd 6 d.length++(bk (n-a)).reverse++defl.bZ 2 r d)
structure WS (w0 w:World) (W:Nat) (la:Option Addr) (lc:Nat) (aJ:List OM) (out:List UInt8) (di dO:List Nat) (ba:Option Addr) (bc:Nat) (aa:Option Addr) (ac:Nat) (da:Option Addr) (dc:Nat):Prop where
 hW:w.heap[W]?=some (.cells #[.slice ba out.length bc,.slice la aJ.length lc,.slice aa di.length ac,.slice da dO.length dc] 74 (0,0))
 ob:w.ownsRow 0 5 1 (.slice ba out.length bc) out.length (out.map bv)
 oa:w.ownsRow 0 3 1 (.slice aa di.length ac) di.length (ints di)
 od:w.ownsRow 0 3 1 (.slice da dO.length dc) dO.length (ints dO)
 nb:∀y∈ae ba,W<y/\y∉ae aa/\y∉ae da
 na:∀y∈ae aa,W<y/\y∉ae ba/\y∉ae da
 nd:∀y∈ae da,W<y/\y∉ae ba/\y∉ae aa
 hl:jM w la lc aJ
 ol:∀y∈ae la,y<W
 om:∀m∈aJ,∀y∈ae m.2.1,y<W
 fr:Fr [] w0 w
 w0:w0.heap.size<=W
theorem WS.dF {w0 w w':World} {W:Nat} {la:Option Addr} {lc:Nat} {aJ:List OM} {out:List UInt8} {di dO:List Nat} {ba:Option Addr} {bc:Nat} {aa:Option Addr} {ac:Nat} {da:Option Addr} {dc:Nat} (h:WS w0 w W la lc aJ out di dO ba bc aa ac da dc) (f:Fr [] w w'):WS w0 w' W la lc aJ out di dO ba bc aa ac da dc:=
 ⟨f.ae h.hW (by simp),dr h.ob f (by simp),dr h.oa f (by simp),dr h.od f (by simp),h.nb,h.na,h.nd,h.hl.fr f,h.ol,h.om,h.fr.trans f,h.w0⟩
def Written (w0:World) (W:Nat) (la:Option Addr) (lc:Nat) (aJ:List OM) (out:List UInt8) (di dO:List Nat) (e:Ending) (w':World):Prop:=
 e = .returned (.tuple #[])/\∃E dp ba bc aa ac da dc,EF (aJ.map (·.1)) di dO out.length E dp/\E.length<=500000/\WS w0 w' W la lc aJ (out++E) (di++[out.length]) (dO++[dp]) ba bc aa ac da dc
def J5 (os:List pk.Obj) (dO:List Nat) (i:Nat) (o:pk.Obj) (st:Option (Nat×List UInt8)):Prop:=∀j d,st=some (j,d)->j<i/\∃b p,os[j]?=some b/\b.kind=o.kind/\dO[j]?=some p/\p<20/\delta.Made b.body o.body d/\d.length<o.body.length
theorem _root_.Go.Proofs.YtkmpfgpfbmeihaaGreatDoor.os.oW.gg {w0 w w':World} {F G:Nat} {st:Option (Nat×List UInt8)} {T:List Nat} (h:oW w0 w F G st) (f:Fr T w w') (hT:∀y∈T,y<w0.heap.size) (hF:w0.heap.size<=F) (hG:w0.heap.size<=G):oW w0 w' F G st:=by
 have hn:∀y,w0.heap.size<=y->y∉T:=λy hy h1=>by have:=hT y h1;omega
 match st,h with
 | none,h=>exact⟨f.ae h.1 (hn F hF),f.ae h.2 (hn G hG)⟩
 | some (j,d),⟨h1,da,h2,h3,h4⟩=>exact⟨f.ae h1 (hn F hF),da,f.ae h2 (hn G hG),h3.gg f (λy hy=>hn y (h4 y hy).1),λy hy=>⟨(h4 y hy).1,eT (h4 y hy).2.1 f.size,(h4 y hy).2.2⟩⟩
theorem WS.lt {w0 w:World} {W:Nat} {la:Option Addr} {lc:Nat} {aJ:List OM} {out:List UInt8} {di dO:List Nat} {ba:Option Addr} {bc:Nat} {aa:Option Addr} {ac:Nat} {da:Option Addr} {dc:Nat} (h:WS w0 w W la lc aJ out di dO ba bc aa ac da dc) :
  (∀y∈ae ba,y<w.heap.size)/\(∀y∈ae aa,y<w.heap.size)/\(∀y∈ae da,y<w.heap.size)/\W<w.heap.size:=
 ⟨λ_ hy=>qR h.ob (pI hy),λ_ hy=>qR h.oa (pI hy),λ_ hy=>qR h.od (pI hy),lt_of_block h.hW⟩
theorem WS.place {w0 w w8:World} {W:Nat} {la:Option Addr} {lc:Nat} {aJ:List OM} {out:List UInt8} {di dO:List Nat} {ba:Option Addr} {bc:Nat} {aa:Option Addr} {ac:Nat} {da:Option Addr} {dc:Nat} (h:WS w0 w W la lc aJ out di dO ba bc aa ac da dc)
  (f:Fr (ae aa) w w8) (a8:Option Addr) (c8 n:Nat) (own:w8.ownsRow 0 3 1 (.slice a8 (di.length+1) c8) (di.length+1) (ints di++[.int .i64 n])) (eD:∀y∈ae a8,y∈ae aa\/w.heap.size<=y) :
  WS w0 (w8.setCell ⟨W,2,none⟩ (.slice a8 (di.length+1) c8)) W la lc aJ out (di++[n]) dO ba bc a8 c8 da dc/\Fr (W::ae aa) w (w8.setCell ⟨W,2,none⟩ (.slice a8 (di.length+1) c8)):=by
 obtain⟨l1,l2,l3,l4⟩:=h.lt;have hWa:W∉ae aa:=λhy=>by have:=(h.na W hy).1;omega
 have f2:Fr [W] w8 (w8.setCell ⟨W,2,none⟩ (.slice a8 (di.length+1) c8)):=(Fr.refl [W] w8).setCell (by simp) _;have f3:Fr (W::ae aa) w (w8.setCell ⟨W,2,none⟩ (.slice a8 (di.length+1) c8)):=(f.mono (λy hy=>.inl (by simp[hy]))).trans (f2.mono (λy hy=>.inl (by simp at hy;simp[hy])));have SS:∀y∈ae a8,W<y/\y∉ae ba/\y∉ae da:=λy hy=>by
  rcases eD y hy with h1|h1
  ·exact h.na y h1
  ·exact⟨by omega,λh2=>by have:=l1 y h2;omega,λh2=>by have:=l3 y h2;omega⟩
 have keep:∀(b:Option Addr) (k c:Nat) (e:TypeId) (xs:List Value),(∀y∈ae b,W<y/\y∉ae aa)->w.ownsRow 0 e 1 (.slice b k c) k xs->(w8.setCell ⟨W,2,none⟩ (.slice a8 (di.length+1) c8)).ownsRow 0 e 1 (.slice b k c) k xs:=λb k c e xs hb ho=>dr ho f3 (λy hy=>by
  have h3:y∈ae b:=by rw[<-dw b k c,hy];simp
  have h4:=hb y h3
  simp only[gw,not_or]
  exact⟨by omega,h4.2⟩)
 refine⟨⟨?_,keep ba _ _ _ _ (λy hy=>⟨(h.nb y hy).1,(h.nb y hy).2.1⟩) h.ob,?_,keep da _ _ _ _ (λy hy=>⟨(h.nd y hy).1,(h.nd y hy).2.2⟩) h.od,λy hy=>⟨(h.nb y hy).1,λh1=>(SS y h1).2.1 hy,(h.nb y hy).2.2⟩,SS,λy hy=>⟨(h.nd y hy).1,(h.nd y hy).2.1,λh1=>(SS y h1).2.2 hy⟩,?_,h.ol,h.om,h.fr.step f3 (λy hy=>.inr ?_),h.w0⟩,f3⟩
 ·have h1:=aX (o:=2) (f.ae h.hW hWa) (.slice a8 (di.length+1) c8);rw[aK];exact h1
 ·rw[aK,show ints (di++[n])=ints di++[.int .i64 n] by simp[ints]];exact dr own f2 (λy hy=>by
   have h3:y∈ae a8:=by rw[<-dw a8 (di.length+[n].length) c8,hy];simp
   have:=(SS y h3).1
   simp
   omega)
 ·refine⟨h.hl.cs.fr f3 (λy hy h1=>?_),h.hl.le,h.hl.max,h.hl.nil,λm hm=>(h.hl.rd m hm).gg f3 (λy hy h1=>?_)⟩
  ·have h2:=h.ol y hy;rcases gw.1 h1 with rfl|h1
   ·omega
   ·have:=(h.na y h1).1;omega
  ·have h2:=h.om m hm y hy;rcases gw.1 h1 with rfl|h1
   ·omega
   ·have:=(h.na y h1).1;omega
 ·rcases gw.1 hy with rfl|h1
  ·exact h.w0
  ·have:=(h.na y h1).1;have:=h.w0;omega
theorem ze0 {w:World} {e e':TypeId} {a b:Option Addr} {n m c c':Nat} {xs ys:List Value} (he:e≠e') (h:w.ownsRow 0 e 1 (.slice a n c) n xs) (h':w.ownsRow 0 e' 1 (.slice b m c') m ys):∀y∈ae a,y∉ae b:=by
 rcases h.2 with⟨h1,_⟩|⟨g,_,cur,h1,_,h2,_⟩
 ·simp only[lN]at h1;rw[h1.1];simp[ae]
 ·rcases h'.2 with⟨k1,_⟩|⟨g',_,Zc,k1,_,k2,_⟩
  ·simp only[lN]at k1;rw[k1.1];simp[ae]
  ·simp only[lN]at h1 k1;rw[h1.1,k1.1];simp only[ae,iQ];rintro y rfl hy;subst hy;rw[h2]at k2;simp only[eS,Obj.cells.injEq]at k2;exact he k2.2.1
theorem WS.fin {w0 w wX:World} {W:Nat} {la:Option Addr} {lc:Nat} {aJ:List OM} {out:List UInt8} {di dO:List Nat} {ba:Option Addr} {bc:Nat} {aa:Option Addr} {ac:Nat} {da:Option Addr} {dc:Nat} (h:WS w0 w W la lc aJ out di dO ba bc aa ac da dc)
  (f:Fr (ae ba++ae da) w wX) (E:List UInt8) (dp:Nat) (iA:Option Addr) (ln:Nat) (iE:wX.ownsRow 0 5 1 (.slice iA (out.length+E.length) ln) (out.length+E.length) ((out++E).map bv)) (jt:∀y∈ae iA,y∈ae ba\/w.heap.size<=y)
  (nj:Option Addr) (py:Nat) (iD:wX.ownsRow 0 3 1 (.slice nj (dO.length+1) py) (dO.length+1) (ints (dO++[dp]))) (jr:∀y∈ae nj,y∈ae da\/w.heap.size<=y) :
  WS w0 ((wX.setCell ⟨W,0,none⟩ (.slice iA (out.length+E.length) ln)).setCell ⟨W,3,none⟩ (.slice nj (dO.length+1) py)) W la lc aJ (out++E) di (dO++[dp]) iA ln aa ac nj py:=by
 obtain⟨l1,l2,l3,l4⟩:=h.lt;have hWb:W∉ae ba++ae da:=λhy=>by
  rcases jy.1 hy with h1|h1
  ·have:=(h.nb W h1).1;omega
  ·have:=(h.nd W h1).1;omega
 have f2:Fr [W] wX ((wX.setCell ⟨W,0,none⟩ (.slice iA (out.length+E.length) ln)).setCell ⟨W,3,none⟩ (.slice nj (dO.length+1) py)):=((Fr.refl [W] wX).setCell (by simp) _).setCell (by simp) _;have FI:∀y∈ae iA,W<y/\y∉ae aa:=λy hy=>by
  rcases jt y hy with h1|h1
  ·exact⟨(h.nb y h1).1,(h.nb y h1).2.1⟩
  ·exact⟨by omega,λh2=>by have:=l2 y h2;omega⟩
 have R3:∀y∈ae nj,W<y/\y∉ae aa:=λy hy=>by
  rcases jr y hy with h1|h1
  ·exact⟨(h.nd y h1).1,(h.nd y h1).2.2⟩
  ·exact⟨by omega,λh2=>by have:=l2 y h2;omega⟩
 have n35:=ze0 (by decide) iE iD;have keep:∀(b:Option Addr) (k c:Nat) (e:TypeId) (xs:List Value),(∀y∈ae b,W<y)->wX.ownsRow 0 e 1 (.slice b k c) k xs->((wX.setCell ⟨W,0,none⟩ (.slice iA (out.length+E.length) ln)).setCell ⟨W,3,none⟩ (.slice nj (dO.length+1) py)).ownsRow 0 e 1 (.slice b k c) k xs:=λb k c e xs hb ho=>dr ho f2 (λy hy=>by
  have h3:y∈ae b:=by rw[<-dw b k c,hy];simp
  have h4:=hb y h3
  simp
  omega)
 have f3:Fr (W::(ae ba++ae da)) w ((wX.setCell ⟨W,0,none⟩ (.slice iA (out.length+E.length) ln)).setCell ⟨W,3,none⟩ (.slice nj (dO.length+1) py)):=(f.mono (λy hy=>.inl (DH _ hy))).trans (f2.mono (λy hy=>.inl (by simp at hy;simp[hy])));have lY:∀y∈W::(ae ba++ae da),W<=y:=λy hy=>by
  rcases gw.1 hy with rfl|hy
  ·exact aw _
  ·rcases jy.1 hy with h1|h1
   ·have:=(h.nb y h1).1;omega
   ·have:=(h.nd y h1).1;omega
 have oaX:wX.ownsRow 0 3 1 (.slice aa di.length ac) di.length (ints di):=dr h.oa f (λy hy hm=>by
  have h3:y∈ae aa:=by rw[<-dw aa di.length ac,hy];simp
  have h4:=h.na y h3
  rcases jy.1 hm with h1|h1
  ·exact h4.2.1 h1
  ·exact h4.2.2 h1)
 refine⟨?_,?_,keep aa _ _ _ _ (λy hy=>(h.na y hy).1) oaX,?_,λy hy=>⟨(FI y hy).1,(FI y hy).2,n35 y hy⟩,λy hy=>⟨(h.na y hy).1,λh1=>(FI y h1).2 hy,λh1=>(R3 y h1).2 hy⟩,λy hy=>⟨(R3 y hy).1,λh1=>n35 y h1 hy,(R3 y hy).2⟩,?_,h.ol,h.om,h.fr.step f3 (λy hy=>.inr (bS h.w0 (lY y hy))),h.w0⟩
 ·have h1:=aX (o:=0) (f.ae h.hW hWb) (.slice iA (out.length+E.length) ln);have h2:=aX (o:=3) h1 (.slice nj (dO.length+1) py);rw[aK,aK];exact h2
 ·rw[aK];exact keep _ _ _ _ _ (λy hy=>(FI y hy).1) iE
 ·rw[aK];exact keep _ _ _ _ _ (λy hy=>(R3 y hy).1) iD
 ·refine⟨h.hl.cs.fr f3 (λy hy h1=>?_),h.hl.le,h.hl.max,h.hl.nil,λm hm=>(h.hl.rd m hm).gg f3 (λy hy h1=>?_)⟩
  ·have h2:=h.ol y hy;have:=lY y h1;omega
  ·have h2:=h.om m hm y hy;have:=lY y h1;omega
theorem zc0 (w0 w:World) (W:Nat) (la:Option Addr) (lc:Nat) (aJ:List OM) (out:List UInt8) (di dO:List Nat) (ba:Option Addr) (bc:Nat) (aa:Option Addr) (ac:Nat) (da:Option Addr) (dc:Nat) (mm:Int)
  (h:WS w0 w W la lc aJ out di dO ba bc aa ac da dc) (hi:di.length<aJ.length) (Ey:dO.length=di.length) (hn:aJ.length<=1000) (aR:out.length<=1000000000) (eD:∀a∈di,a<out.length)
  (jz:∀m∈aJ,Da m.1) (hm:w.cell? ⟨0,0,none⟩=some (.int .i64 mm)) :
  Calls Tryz.prog 34 #[.pointer (some ⟨W,0,none⟩),.int .i64 (di.length:Nat),.slice none 0 0] w (Written w0 W la lc aJ out di dO):=by
 obtain⟨i,XL⟩:=ah di.length;obtain⟨n,Sz⟩:=ah aJ.length;obtain⟨ol,gD⟩:=ah out.length;obtain⟨m,Ek⟩:∃m,aJ[i]?=some m:=⟨aJ[i]'(by omega),bO _⟩;have kI:=iC Ek;have wN:=jz m kI;have Xc:=h.hl.rd m kI;obtain⟨lg,lo,fh,hc⟩:=h.hl.cell Ek;have BD:m.1.body.length<=65536:=wN.2.1;have w1:=cell_of h.hW 1;simp only[bw,aV,bN]at w1;rw[<-Sz]at w1;rw[<-XL]at hi ⊢;rw[<-Sz]at hi hn;rw[<-gD]at aR;obtain⟨o,oa,oc⟩:=m;obtain⟨kd,bs,id,at_,crc⟩:=o;simp only at Xc wN BD;have c0:=hc 0 (.int .i64 kd) rfl;have c1:=hc 1 (.slice oa bs.length oc) rfl;have c2:=hc 2 (.string (str id)) rfl;have c3:=hc 3 (.int .i64 at_) rfl;have c4:=hc 4 (.int .u32 crc) rfl;simp only[jS]at c0;obtain⟨bl,bK⟩:=ah bs.length;rw[<-bK]at c1 BD;have H:=rV h XL Sz gD Ek wN Xc bK Ey eD jz hm;clear h XL Sz gD Ek wN Xc bK Ey eD jz hm hc kI;subst fh;go_enter Tryz.func34,Tryz.ntmps34;go_upto_region 1 with (guard_target =~ wpList _ _ _ (⟨_,Op.store _ _ _,_,_,_,_⟩::_) _ _;refine wpList_store_row rfl 34 (.tmp 6) (.tmp 27) rfl w.heap.size #[.int .i64 kd,.slice oa bl oc,.string (str id),.int .i64 at_,.int .u32 crc] rfl rfl 34 _ (bx _ _) gL rfl (by kernel_rfl) ?_);clear c0 c1 c2 c3 c4 w1;simp only[Act.put];generalize bq:World.setRow _ _ _=w2;obtain⟨X,hX⟩:=ah w.heap.size;rw[<-hX]at bq ⊢;have jU:w2.heap[X]?=some (.cells #[.int .i64 kd,.slice oa bl oc,.string (str id),.int .i64 at_,.int .u32 crc] 34 (0,0)):=by rw[<-bq,hX];exact setRow_heap _ _ _ _ _ _ (bx _ _)
 have f2:Fr [] w w2:=by rw[<-bq,hX];exact ((Fr.refl [] w).alloc _).setRow (.inr (aw _)) _
 have H2:=au jU f2 hX;clear jU f2 hX bq;go_upto_region 3 with fail;obtain⟨F,hF⟩:=ah w2.heap.size;obtain⟨G,hG⟩:=ah (F+1);rw[<-hF,<-hG];generalize gN:World.alloc _ _=w3;have rr:w3.heap[F]?=some (.cells #[.nilIface] 98 (0,0)):=by rw[<-gN,hF];exact pJ _ (bx w2 _)
 have OE:w3.heap[G]?=some (.cells #[.slice none 0 0] 23 (0,0)):=by have h:=bx (w2.alloc (.cells #[.nilIface] 98)) (.cells #[.slice none 0 0] 23);rw[eZ,<-hF,<-hG,gN]at h;exact h
 have f3:Fr [] w2 w3:=by rw[<-gN];exact ((Fr.refl [] w2).alloc _).alloc _
 have Jv:F≠G:=by omega
 have hXw:=lt_of_block H2.o0;have hXF:X<F:=by omega
 have hWX:W<X:=by have:=lt_of_block H.out.1.hW;rw[H2.l2];exact this
 have H3:=cz (f3.ae H2.o0 (by simp)) (H2.o1.trans f3) (show oW w w3 F G none from ⟨rr,OE⟩) Jv hXF hWX hG;clear rr OE f3 hF hG gN Jv hXw hXF hWX;obtain⟨J,hJ,hJi⟩:∃J:Nat,(J:Int)=(if (i:Int)-10>0 then (i:Int)-10 else 0)/\J<=i:=by
  by_cases h:10<i
  ·exact⟨i-10,by rw[if_pos (by omega)];omega,by omega⟩
  ·exact⟨0,by rw[if_neg (by omega)];rfl,by omega⟩
 have HJ:=af hJ;clear hJ;go_upto_block 0 with (refine Fy (J:Int) rfl _ _ _ rfl (0:Int) ((i:Int)-10) rfl rfl HJ.out ?_);clear HJ;go_upto_region 8 with fail;go_loopg [10] (i-J) (λk s10 wr=>∃(j:Nat) (st:Option (Nat×List UInt8)),s10 = .int .i64 (j:Nat)/\j+k=i/\Fr [F,G] w3 wr/\oW w wr F G st/\J5 (aJ.map (·.1)) dO i ⟨kd,bs,id,at_,crc⟩ st);case atStart=>exact⟨J,none,rfl,by omega,Fr.refl _ _,H3.o2,λj d h=>by cases h⟩
 case round=>
  obtain⟨j,st,rfl,eG,hF,hB,yn⟩:=hrel;have Lv:=lt_of_block H.out.1.hW;have hX2:=H2.l2;have vU:Fr [] w wr:=H3.o1.step hF (λy hy=>by have h1:=H3.o4;have h2:=H3.l6;simp at hy;right;rcases hy with rfl|rfl<;>omega);have zL:=hF.ae H3.o0 (by have h1:=H3.o4;have h2:=H3.l6;simp;omega);have HW:=H.out.1.dF vU;have e1:=cell_of HW.hW 1;have e3:=cell_of HW.hW 3;have x0:=cell_of zL 0;simp only[bw,aV,bN]at e1 e3 x0;rw[<-H.out.2.2.1]at e1;rw[H.out.2.2.2.2.2.2.2.2.1,<-H.out.2.1]at e3;have HL:=cz eG hF hB yn vU zL HW;clear hF hB yn Lv hX2;by_cases ia:j<i
  ·obtain⟨k,rfl⟩:∃k,gk=k+1:=⟨gk-1,by omega⟩;obtain⟨mj,Ej⟩:∃mj,aJ[j]?=some mj:=⟨aJ[j]'(by have:=H.out.2.2.1;omega),bO _⟩;have wO:=H.out.2.2.2.2.2.2.2.2.2.2.1 mj (iC Ej);have CQ:=HW.hl.rd mj (iC Ej);obtain⟨lg',lo',fh,Yc⟩:=HW.hl.cell Ej;simp only[eS,qU,and_true]at fh;obtain⟨rfl,rfl⟩:=fh;obtain⟨pj,wL⟩:∃pj,dO[j]?=some pj:=⟨dO[j]'(by have:=H.out.2.2.2.2.2.2.2.2.1;have:=H.out.2.1;omega),bO _⟩;obtain⟨dg,do_,rfl,hdc⟩:=(Fe HW.od).at (by rw[MI];have:=(lA.1 wL).1;omega);have k3:=hdc j (.int .i64 pj) (by unfold ints;rw[j5,wL];rfl);obtain⟨⟨kj,bj,ij,aj,cj⟩,ja,jc⟩:=mj;simp only at wO CQ;have y0:=Yc 0 (.int .i64 kj) rfl;have y1:=Yc 1 (.slice ja bj.length jc) rfl;simp only[jS]at y0;obtain⟨jl,kT⟩:=ah bj.length;rw[<-kT]at y1;have HM:=aP Ej wL wO CQ kT;clear Ej wL wO CQ kT Yc hdc vU zL HW;by_cases hk:kj=kd
   ·subst hk;by_cases hp:pj<20
    ·have g0:decide ((pj:Int)<20)=true:=by simp;omega
     go_upto_region 6 with fail;go_quiet (fail);clear g0;go_upto_region 7 with fail;generalize KX:World.drewN wr nq=wq;have fq:Fr [] wr wq:=by rw[<-KX];exact Fr.drewN [] wr nq
     obtain⟨eG,hF,hB,yn,vU,zL,HW⟩:=HL.out;obtain⟨Ej,wL,wO,CQ,kT⟩:=HM.out;have td:=zfz X F G j ja jc bj ⟨kj,bs,id,at_,crc⟩ oa oc mm w wq st (by unfold dG;rw[<-H.out.2.2.2.2.2.2.2.1];exact fq.ae zL (by simp)) (hB.fr fq) H3.o3 (CQ.fr fq) (H.out.2.2.2.2.2.2.1.fr (vU.trans fq)) wO.2.1 (by show bs.length<=_;rw[<-H.out.2.2.2.2.2.2.2.1];exact BD) ((vU.trans fq).cell H.out.2.2.2.2.2.2.2.2.2.2.2 (by simp)) (vU.trans fq).size;rw[<-kT]at td;have e1:=fq.cell e1 (by simp);have y1:=fq.cell y1 (by simp);have HT:=ak td fq;clear td fq KX hF hB yn vU zL HW Ej wL wO CQ kT;go_wp2_with (go_at_call 65;refine HT.o0.mono ?_;intro e w6 hT;have he:=hT.1;subst he;have H6:=af hT.2;clear hT);go_roundg k;case measure=>omega
     case rel=>
      obtain⟨eG,hF,hB,yn,vU,zL,HW⟩:=HL.out;obtain⟨Ej,wL,wO,CQ,kT⟩:=HM.out;obtain⟨f6,LO,Jy,az⟩:=H6.out;refine⟨j+1,LO,by go_num,by omega,(hF.trans (HT.l1.mono (by simp))).trans f6,Jy,λj' d' h'=>?_⟩;rcases az with rfl|⟨d,rfl,h1,h2⟩
      ·exact yn j' d' h'
      ·simp only[eS,fj]at h';obtain⟨rfl,rfl⟩:=h';exact⟨ia,⟨kj,bj,ij,aj,cj⟩,pj,by rw[j5,Ej];rfl,rfl,wL,hp,h1,h2⟩
    ·have g0:decide ((pj:Int)<20)=false:=by simp;omega
     go_upto_region 6 with fail;go_quiet (fail);go_wp2;go_roundg k;case measure=>omega
     case rel=>obtain⟨eG,hF,hB,yn,vU,zL,HW⟩:=HL.out;exact⟨j+1,st,by go_num,by omega,hF.trans (Fr.drewN _ wr _),hB.fr (Fr.drewN _ wr _),yn⟩
   ·have g0:((kj:Int)==kd)=false:=by simpa using hk
    go_upto_region 6 with fail;go_quiet (fail);go_wp2;go_roundg k;case measure=>omega
    case rel=>obtain⟨eG,hF,hB,yn,vU,zL,HW⟩:=HL.out;exact⟨j+1,st,by go_num,by omega,hF.trans (Fr.drewN _ wr _),hB.fr (Fr.drewN _ wr _),yn⟩
  ·clear e1 e3 x0;obtain⟨wv,Nv⟩:∃wv:World,wv=wr:=⟨_,rfl⟩;rw[<-Nv]at zL HW vU HL ⊢;clear Nv;go_upto_region 9 with fail;go_wp2;go_loopg [72] 0 (λk s72 wq=>s72 = .int .i64 0/\wq=wv);case atStart=>exact⟨rfl,rfl⟩
   case round=>
   obtain⟨rfl,KX⟩:=hrel;have KX:=KX.symm;subst KX;obtain⟨S,hS⟩:=ah (ae aa);have oS:W∉S:=by rw[hS];exact λhy=>by have:=(HW.na W hy).1;omega
   have e0:=cell_of HW.hW 0;have e2:=cell_of HW.hW 2;simp only[bw,aV,bN]at e0 e2;rw[<-H.out.2.2.2.1]at e0;rw[<-H.out.2.1]at e2;have q0:∀x,(sup S wv.drew x).cell? ⟨W,0,none⟩=some (.slice ba ol bc):=λx=>(dk S wv.drew x).cell ((Fr.av [] wv).cell e0 (by simp)) oS
   have q2:∀x,(sup S wv.drew x).cell? ⟨W,2,none⟩=some (.slice aa i ac):=λx=>(dk S wv.drew x).cell ((Fr.av [] wv).cell e2 (by simp)) oS
   have HV:=aF zL HW hS oS;clear zL HW vU hS oS e0 e2 eG;go_upto_region 16 with fail;refine jh 14 [(false,0),(false,1),(false,2),(false,3),(false,4),(false,5),(false,6),(false,7),(false,8),(false,9),(true,10),(true,11),(false,12),(false,13)] S (by kernel_rfl) (by kernel_rfl) (λ_ _ d _ _ h=>by cases d<;>exact h) ?_;simp only[iw];refine cS 10 rfl ?_;simp only[aU];repeat (go_big_quiet_step (fail))
   refine wpQuiet_nil ?_;clear q0 q2;refine ep rfl ?_;intro X' ek;go_wp2;refine ek.out _ _ ((Fr.refl _ wv.drew).alloc _) ?_;clear ek X';have fA:Fr [] wv (wv.drew.alloc (.cells #[.int .i64 ol] 3)):=(Fr.av [] wv).alloc _;have cI:Cs (wv.drew.alloc (.cells #[.int .i64 ol] 3)) (some ⟨wv.drew.heap.size,0,none⟩) [.int .i64 ol]:=ny _ _ _ 3 (bx wv.drew _);have cT:=dr HV.o1.oa fA (by simp);rw[<-H.out.2.1]at cT;refine ep rfl ?_;intro X' ek;refine uv oX _ _ rfl (.slice aa i ac) i (ints di) S rfl (by rw[dw,HV.o2]) cT (some ⟨wv.drew.heap.size,0,none⟩) 1 1 [.int .i64 ol] rfl (by decide) (by simp) cI rfl (by simp[Value.oneCell']) (by omega) (by unfold maxLen;omega) ?_;intro a8 c8 w8 A8;refine ek.out _ _ A8.fr ?_;clear ek X' cI cT;simp only[Act.put,mC,nC,mB];have f8:Fr S wv w8:=(fA.mono (by simp)).trans A8.fr;have Yt:=f8.ae HV.o1.hW HV.l3;have z2:=aO Yt 2;have e2:=cell_of Yt 2;simp only[bw,aV,bN]at e2;rw[<-H.out.2.1]at e2;refine cS 2 rfl ?_;simp only[aU];repeat (go_big_quiet_step (fail))
   refine wpQuiet_nil ?_;refine fE ?_;have H8:=au f8 A8.own A8.at_;clear A8 f8 fA Yt;go_upto_region 17 with fail;obtain⟨kn,hkn,x5,XG⟩:∃k:Nat,kd=(k:Nat)/\1<=k/\k<=4:=by
    have h1:=H.out.2.2.2.2.2.1.1;unfold obj.ef at h1;simp only at h1;by_cases a1:kd=1
    ·exact⟨1,a1,by decide,by decide⟩
    ·by_cases a2:kd=2
     ·exact⟨2,a2,by decide,by decide⟩
     ·by_cases a3:kd=3
      ·exact⟨3,a3,by decide,by decide⟩
      ·by_cases a4:kd=4
       ·exact⟨4,a4,by decide,by decide⟩
       ·rw[if_neg a1,if_neg a2,if_neg a3,if_neg a4]at h1;exact absurd rfl h1
   subst hkn;obtain⟨w9,KY⟩:=ah (w8.setCell ⟨W,2,none⟩ (.slice a8 (i+1) c8));rw[<-KY];have xU:=HV.o1.place (show Fr (ae aa) wv w8 by rw[<-HV.o2];exact H8.out.1) a8 c8 ol (by have:=H8.out.2.1;rwa [H.out.2.1]at this) (λy hy=>by
    rcases H8.out.2.2 y hy with h1|h1
    ·exact .inl (by rw[<-HV.o2];exact h1)
    ·exact .inr (by rw[h1];show wv.heap.size<=(wv.alloc _).heap.size;rw[eZ];omega))
   rw[<-H.out.2.1,<-KY]at xU;have hX9:X∉W::ae aa:=λhy=>by
    have h1:=H.out.1.lt;have h2:=H2.l2;rcases gw.1 hy with h3|h3
    ·have:=H3.o5;omega
    ·have:=h1.2.1 X h3;omega
   have FL:=xU.2.ae HV.o0 hX9;have hT:∀y∈W::ae aa,y<w.heap.size:=λy hy=>by
    have h1:=H.out.1.lt;rcases gw.1 hy with rfl|h3
    ·exact h1.2.2.2
    ·exact h1.2.1 y h3
   have Lv:w.heap.size<=F/\w.heap.size<=G:=by have h1:=H3.o4;have h2:=H3.l6;have h3:=H2.l2;omega
   have hB9:=HL.out.2.2.1.gg xU.2 hT Lv.1 Lv.2;have Z7:lib.Rd w9 oa oc bs:=xU.1.hl.rd _ (iC H.out.2.2.2.2.1);have M8:∀y∈ae oa,y<w9.heap.size:=λy hy=>by have h1:=xU.1.om _ (iC H.out.2.2.2.2.1) y hy;have h2:=xU.1.lt.2.2.2;omega
   have hs9:wv.heap.size<=w9.heap.size:=xU.2.size;have x0:=(Fr.av [] w9).cell (show w9.cell? ⟨X,0,none⟩=some (.int .i64 kn) by rw[cell_of FL];rfl) (by simp);have x1:=(Fr.av [] w9).cell (show w9.cell? ⟨X,1,none⟩=some (.slice oa bl oc) by rw[cell_of FL];rfl) (by simp);have H9:=lJ xU.1 xU.2 FL hB9 Z7 M8 Lv hs9;clear xU FL hB9 Z7 M8 Lv hs9 hX9 hT KY z2 e2;refine jh 11 [(false,0),(false,1),(false,2),(false,3),(false,4),(false,6),(false,7),(true,5),(true,8),(true,9),(false,10)] [] (by kernel_rfl) (by kernel_rfl) (λ_ _ d _ _ h=>by cases d<;>exact h) ?_;simp only[iw];refine cS 7 rfl ?_;simp only[aU];repeat (go_big_quiet_step (fail))
   refine wpQuiet_nil ?_;refine ep rfl ?_;intro X' ek;go_wp2_with (go_at_call 10;refine (Hk kn bl _ (by omega) (by omega)).mono ?_;rintro e nu ⟨Cf,rfl,QG,Ww,f10⟩);refine ek.out _ _ f10 ?_;clear ek X' x0 x1;have fA:=(Fr.av [] w9).trans f10;have hz:=trip.qvv oa oc bs 2 nu (H9.o4.fr fA) (by rw[<-H.out.2.2.2.2.2.2.2.1];omega) (λy hy=>eT (H9.o5 y hy) fA.size);rw[<-H.out.2.2.2.2.2.2.2.1]at hz;have HZ:=af hz;clear hz;refine ep rfl ?_;intro X' ek;go_wp2_with (go_at_call 67;refine HZ.out.mono ?_;rintro e vG ⟨r,hr,a11,rfl,QF,n11,f11⟩);refine ek.out _ _ f11 ?_;clear ek X' HZ;have uJ:(defl.bZ 2 r bs).length=r.length+6:=by unfold defl.bZ;simp[sums.yL]
   have rh:=hr.1;rw[<-H.out.2.2.2.2.2.2.2.1]at rh;have ic:(hd kn bl).length<=5:=QN (by omega);obtain⟨zs,Nj⟩:=ah (defl.bZ 2 r bs);obtain⟨hs,Oz⟩:=ah (hd kn bl);rw[<-Nj]at QF uJ ⊢;rw[<-Oz]at QG ic ⊢;have Te:=(QG.fr f11).cs;have Ww:=QG.nil;have c11:=QF.cs;have n11:=QF.nil;refine ep rfl ?_;intro X' ek;refine Wi aq _ _ rfl Cf hs.length hs.length (hs.map bv) rfl Te (by simp) (aw _) Ww a11 zs.length zs.length (zs.map bv) rfl c11 (by simp) (by omega) (by omega) (by unfold maxLen;omega) ?_;intro LC gi J6;refine ek.out _ _ J6.fr ?_;clear ek X' Te Ww c11 n11;simp only[Act.put,mC,nC,mB];refine cS 1 rfl ?_;simp only[aU];repeat (go_big_quiet_step (fail))
   refine wpQuiet_nil ?_;refine fE ?_;obtain⟨B,hB⟩:=ah vG.heap.size;obtain⟨fl,nN⟩:=ah (hs.length+zs.length);rw[<-hB,<-nN]at J6 ⊢;have f12:Fr [] w9 gi:=((fA.trans f11).trans J6.fr);have M4:=J6.own;rw[<-gB]at M4;obtain⟨fs,Gh⟩:=ah (hs++zs);rw[<-Gh]at M4;have hfe:EF (aJ.map (·.1)) di dO ol fs 0:=⟨⟨(kn:Nat),bs,id,at_,crc⟩,by rw[<-H.out.2.1,j5,H.out.2.2.2.2.1];rfl,.inl ⟨r,hr,by rw[Gh,Oz,Nj,H.out.2.2.2.2.2.2.2.1];rfl,rfl⟩⟩;have hBs:w9.heap.size<=B:=by rw[hB];exact (fA.trans f11).size
   have I9:fl<=500000:=by omega
   have zbS:=J6.max;have sC:=J6.le;have lu:=cz f12 M4 hfe (show fl=fs.length by rw[nN,Gh,aK]) (H9.o0.dF f12) (H9.o3.fr f12) hBs;clear J6 f12 M4 hB nN hr Nj Oz fA f11 QF QG ic rh uJ f10 Gh hfe hBs;have nV:=lu.out.2.2.2.2.1;have Jx:=lu.out.2.2.2.2.2.1;have e0:=cell_of nV.hW 0;have e3:=cell_of nV.hW 3;simp only[bw,aV,bN]at e0 e3;rw[<-H.out.2.2.2.1]at e0;rw[H.out.2.2.2.2.2.2.2.2.1,<-H.out.2.1]at e3;have eC:i<=1000:=by omega
   cases st with
   | none=>
    have f0:=cell_of Jx.1 0;simp only[bw,aV]at f0;clear nV Jx;go_upto_region 19 with fail;obtain⟨S,hS⟩:=ah (ae ba++ae da);have nV:=lu.out.2.2.2.2.1;have oS:W∉S:=by
     rw[hS];intro hy;rcases jy.1 hy with h1|h1
     ·have:=(nV.nb W h1).1;omega
     ·have:=(nV.nd W h1).1;omega
    have fd:=Fr.av [] gi;have wm:=dr nV.ob fd (by simp);have pN:=dr nV.od fd (by simp);rw[<-H.out.2.2.2.1]at wm;rw[H.out.2.2.2.2.2.2.2.2.1,<-H.out.2.1]at pN;obtain⟨rF,_⟩:=wh (dr lu.out.2.1 fd (by simp));have q0:∀x,(sup S gi.drew x).cell? ⟨W,0,none⟩=some (.slice ba ol bc):=λx=>(dk S gi.drew x).cell (fd.cell e0 (by simp)) oS
    have q3:∀x,(sup S gi.drew x).cell? ⟨W,3,none⟩=some (.slice da i dc):=λx=>(dk S gi.drew x).cell (fd.cell e3 (by simp)) oS
    have HS:=aP hS oS wm pN rF;clear hS oS wm pN rF e0 e3 fd nV;refine qmh 14 1 (.pointer (some ⟨W,0,none⟩)) (.one false 0 (.one false 2 (.one false 3 (.one false 4 (.one false 5 (.one false 6 (.one false 8 (.one false 9 (.one false 10 (.one false 11 (.two 7 (.one true 12 (.one true 13 .done)) 12 (.one true 7 (.one true 13 .done))))))))))))) S (by kernel_rfl) (by kernel_rfl) (λ_ _ d _ _ h=>by cases d<;>exact h) (.inl ⟨by rfl,λ_=>by rfl⟩) ?_;simp only[OT.map,yT,yS,xH,yU,R2,Act.put,mC,nC,mB];refine qtv 10 ?_;simp only[OT.pH,OT.behind];repeat (go_big_quiet_step (fail))
    refine wpQuiet_nil ?_;clear q0 q3;refine qtu rfl rfl ?_ ?_
    ·intro X' ek;refine uv aq _ _ rfl (.slice ba ol bc) ol (out.map bv) (ae ba) rfl (dw ba ol bc) HS.o2 (some ⟨B,0,none⟩) fl LC (fs.map bv) rfl (by omega) (by simp) HS.l4.cs (by rw[cN,<-lu.out.2.2.2.1,qV]) (jQ _) (by omega) (by unfold maxLen;omega) ?_;intro iA ln je mv;have mg:Fr S gi.drew je:=mv.fr.mono (λy hy=>.inl (by rw[HS.o0];exact Fu _ hy));refine ek.out _ _ mg ?_;clear ek X';simp only[Act.put,mC,nC,mB];refine Fk rfl ?_;intro X' ek;go_wp2;refine ek.out _ _ ((Fr.refl _ je).alloc _) ?_;clear ek X';have cI:Cs (je.alloc (.cells #[.int .i64 0] 3)) (some ⟨je.heap.size,0,none⟩) [.int .i64 0]:=ny _ _ _ 3 (bx je _);have f13:=(Fr.refl [] je).alloc (.cells #[.int .i64 0] 3);have mY:=lu.out.2.2.2.2.1;have cT:=dr (dr HS.o3 mv.fr (λy hy=>by
      have h3:y∈ae da:=by rw[<-dw da i dc,hy];simp
      exact (mY.nd y h3).2.1)) f13 (by simp)
     refine Fk rfl ?_;intro X' ek;refine uv oX _ _ rfl (.slice da i dc) i (ints dO) (ae da) rfl (dw da i dc) cT (some ⟨_,0,none⟩) 1 1 [.int .i64 0] rfl (by decide) (by simp) cI rfl (by simp[Value.oneCell']) (by omega) (by unfold maxLen;omega) ?_;intro nj py nD kz;have mf:Fr S (je.alloc (.cells #[.int .i64 0] 3)) nD:=kz.fr.mono (λy hy=>.inl (by rw[HS.o0];exact KA _ hy));refine ek.out _ _ mf ?_;clear ek X';simp only[Act.put,mC,nC,mB];refine Rm ?_;have f15:Fr S gi nD:=((((Fr.av [] gi).mono (by simp)).trans mg).trans (f13.mono (by simp))).trans mf;have jt:∀y∈ae iA,y∈ae ba\/gi.heap.size<=y:=λy hy=>by
      rcases mv.at_ y hy with h|h
      ·exact .inl h
      ·exact .inr (by rw[h];exact aw _)
     have wI:gi.heap.size<=je.heap.size:=mv.fr.size;have jr:∀y∈ae nj,y∈ae da\/gi.heap.size<=y:=λy hy=>by
      rcases kz.at_ y hy with h|h
      ·exact .inl h
      ·exact .inr (by rw[h,eZ];omega)
     have bR:∀y∈ae iA,y∉ae da:=λy hy hd=>by
      rcases mv.at_ y hy with h|h
      ·exact (mY.nb y h).2.2 hd
      ·have h1:=mY.lt.2.2.1 y hd;have h2:gi.drew.heap.size=gi.heap.size:=rfl;omega
     have iE:=dr (dr mv.own f13 (by simp)) kz.fr (λy hy=>by
      have h3:y∈ae iA:=by rw[<-dw iA (ol+fl) ln,hy];simp
      exact bR y h3)
     have iD:=kz.own;clear cI cT mv kz bR mg mf f13 wI;rw[HS.o0]at f15;have cC:=mY.fin f15 fs 0 iA ln (by rw[gB,<-lu.out.2.2.2.1,<-H.out.2.2.2.1];exact iE) jt nj py (by rw[H.out.2.2.2.2.2.2.2.2.1,<-H.out.2.1,show ints (dO++[0])=ints dO++[.int .i64 0] by simp[ints]];exact iD) jr;rw[<-H.out.2.2.2.1,<-lu.out.2.2.2.1,H.out.2.2.2.2.2.2.2.2.1,<-H.out.2.1]at cC;have jG:=f15.ae mY.hW (by rw[<-HS.o0];exact HS.o1);have e0:=cell_of jG 0;have z0:=aO jG 0;have ni:=aX (o:=0) jG (.slice iA (ol+fl) ln);have e3:=cell_of ni 3;have e4:=cell_of ni 0;have z3:=aO ni 3;simp only[bw,aV,bN,mC,mB]at e0 e3 e4;rw[<-H.out.2.2.2.1]at e0;rw[H.out.2.2.2.2.2.2.2.2.1,<-H.out.2.1]at e3;have HE:=af cC;clear f15 iE iD jt jr ni jG cC mY;go_wp2;refine bodyPost_end (results_none rfl _ _ _) rfl ⟨rfl,fs,0,iA,ln,a8,c8,nj,py,(by rw[<-H.out.2.2.2.1];exact lu.out.2.2.1),(by rw[<-lu.out.2.2.2.1];exact I9),?_⟩;rw[<-H.out.2.2.2.1];exact HE.out
    ·intro X' ek;go_wp2;refine ek.out _ _ ((Fr.refl _ gi.drew).alloc _) ?_;clear ek X';have fA:=(Fr.refl [] gi.drew).alloc (.cells #[.int .i64 0] 3);have P8:Cs (gi.drew.alloc (.cells #[.int .i64 0] 3)) (some ⟨gi.drew.heap.size,0,none⟩) [.int .i64 0]:=ny _ _ _ 3 (bx gi.drew _);have cT:=dr HS.o2 fA (by simp);have P1:=HS.l4.cs.fr fA (by simp);have mY:=lu.out.2.2.2.2.1;have nS:∀y∈ae (some ⟨gi.drew.heap.size,0,none⟩),y∉ae ba:=λy hy hS=>by have h1:=mY.lt.1 y hS;simp[ae]at hy;have h2:gi.drew.heap.size=gi.heap.size:=rfl;omega
     refine Fk rfl ?_;intro X' ek;refine uv aq _ _ rfl (.slice ba ol bc) ol (out.map bv) (ae ba) rfl (dw ba ol bc) cT (some ⟨B,0,none⟩) fl LC (fs.map bv) rfl (by omega) (by simp) P1 (by rw[cN,<-lu.out.2.2.2.1,qV]) (jQ _) (by omega) (by unfold maxLen;omega) ?_;intro iA ln je mv;have mg:Fr S (gi.drew.alloc (.cells #[.int .i64 0] 3)) je:=mv.fr.mono (λy hy=>.inl (by rw[HS.o0];exact Fu _ hy));refine ek.out _ _ mg ?_;clear ek X';simp only[Act.put,mC,nC,mB];have cI:=P8.fr mv.fr nS;have uD:=dr (dr HS.o3 fA (by simp)) mv.fr (λy hy=>by
      have h3:y∈ae da:=by rw[<-dw da i dc,hy];simp
      exact (mY.nd y h3).2.1)
     clear P8 cT P1 nS;refine Fk rfl ?_;intro X' ek;refine uv oX _ _ rfl (.slice da i dc) i (ints dO) (ae da) rfl (dw da i dc) uD (some ⟨_,0,none⟩) 1 1 [.int .i64 0] rfl (by decide) (by simp) cI rfl (by simp[Value.oneCell']) (by omega) (by unfold maxLen;omega) ?_;intro nj py nD kz;have mf:Fr S je nD:=kz.fr.mono (λy hy=>.inl (by rw[HS.o0];exact KA _ hy));refine ek.out _ _ mf ?_;clear ek X';simp only[Act.put,mC,nC,mB];refine Rm ?_;have f15:Fr S gi nD:=((((Fr.av [] gi).trans fA).mono (by simp)).trans mg).trans mf;have Iy:(gi.drew.alloc (.cells #[.int .i64 0] 3)).heap.size=gi.heap.size+1:=eZ _ _;have lZ:∀y∈ae iA,y∈ae ba\/y=gi.heap.size+1:=λy hy=>by rw[<-Iy];exact mv.at_ y hy
     have jt:∀y∈ae iA,y∈ae ba\/gi.heap.size<=y:=λy hy=>by
      rcases lZ y hy with h|h
      ·exact .inl h
      ·exact .inr (by omega)
     have wI:gi.heap.size<=je.heap.size:=bS (show gi.heap.size<=(gi.drew.alloc (.cells #[.int .i64 0] 3)).heap.size by rw[Iy];omega) mv.fr.size;have jr:∀y∈ae nj,y∈ae da\/gi.heap.size<=y:=λy hy=>by
      rcases kz.at_ y hy with h|h
      ·exact .inl h
      ·exact .inr (by omega)
     have bR:∀y∈ae iA,y∉ae da:=λy hy hd=>by
      rcases lZ y hy with h|h
      ·exact (mY.nb y h).2.2 hd
      ·have h1:=mY.lt.2.2.1 y hd;omega
     have iE:=dr mv.own kz.fr (λy hy=>by
      have h3:y∈ae iA:=by rw[<-dw iA (ol+fl) ln,hy];simp
      exact bR y h3)
     have iD:=kz.own;clear cI uD mv kz bR mg mf fA wI lZ Iy;rw[HS.o0]at f15;have cC:=mY.fin f15 fs 0 iA ln (by rw[gB,<-lu.out.2.2.2.1,<-H.out.2.2.2.1];exact iE) jt nj py (by rw[H.out.2.2.2.2.2.2.2.2.1,<-H.out.2.1,show ints (dO++[0])=ints dO++[.int .i64 0] by simp[ints]];exact iD) jr;rw[<-H.out.2.2.2.1,<-lu.out.2.2.2.1,H.out.2.2.2.2.2.2.2.2.1,<-H.out.2.1]at cC;have jG:=f15.ae mY.hW (by rw[<-HS.o0];exact HS.o1);have e0:=cell_of jG 0;have z0:=aO jG 0;have ni:=aX (o:=0) jG (.slice iA (ol+fl) ln);have e3:=cell_of ni 3;have e4:=cell_of ni 0;have z3:=aO ni 3;simp only[bw,aV,bN,mC,mB]at e0 e3 e4;rw[<-H.out.2.2.2.1]at e0;rw[H.out.2.2.2.2.2.2.2.2.1,<-H.out.2.1]at e3;have HE:=af cC;clear f15 iE iD jt jr ni jG cC mY;go_wp2;refine bodyPost_end (results_none rfl _ _ _) rfl ⟨rfl,fs,0,iA,ln,a8,c8,nj,py,(by rw[<-H.out.2.2.2.1];exact lu.out.2.2.1),(by rw[<-lu.out.2.2.2.1];exact I9),?_⟩;rw[<-H.out.2.2.2.1];exact HE.out
   | some p=>
    obtain⟨jj,d⟩:=p;obtain⟨XI,b,pj,SN,ye,wL,IK,qm,Bs⟩:=HL.out.2.2.2.1 jj d rfl;obtain⟨Pv,dga,Pt,TK,lX⟩:=Jx;obtain⟨aj,Lr⟩:∃aj,di[jj]?=some aj:=⟨di[jj]'(by have:=H.out.2.1;omega),bO _⟩;have Yo:aj<ol:=by have:=H.out.2.2.2.2.2.2.2.2.2.1 aj (iC Lr);rw[H.out.2.2.2.1];exact this
    obtain⟨nb,Eh⟩:=ah (ol-aj);obtain⟨N1,zn⟩:=ah (i+1);obtain⟨dl,ic⟩:=ah d.length;have e2:=cell_of nV.hW 2;simp only[bw,aV,bN]at e2;rw[aK,<-H.out.2.1,yR,<-zn]at e2;obtain⟨ag,ao,rfl,Bx⟩:=(Fe nV.oa).at (by rw[MI];simp);have ki:=Bx i (.int .i64 ol) (by unfold ints;rw[j5,Ie (by rw[H.out.2.1];exact aw _),H.out.2.1,Nat.sub_self];rfl);have kj:=Bx jj (.int .i64 aj) (by unfold ints;rw[j5,CJ (by have:=H.out.2.1;omega),Lr];rfl);obtain⟨dg,do_,rfl,zS⟩:=(Fe nV.od).at (by rw[MI];have:=(lA.1 wL).1;omega);have kp:=zS jj (.int .i64 pj) (by unfold ints;rw[j5,wL];rfl);have f0:=cell_of Pv 0;have g0:=cell_of Pt 0;simp only[bw,aV]at f0 g0;rw[<-ic]at g0;have hdb:dl<=65536:=by have:=H.out.2.2.2.2.2.2.2.1;rw[ic];simp only at Bs;omega
    have hjN:jj<N1:=by omega
    have hiN:i<N1:=by omega
    have zbB:(ol:Int)-(aj:Int)=(nb:Int):=by omega
    have zbA:nb<=1000000000:=by omega
    have HD:=mH SN ye wL IK qm Bs TK lX Lr Eh ic;clear nV SN ye wL qm Bs Pv Pt TK lX Lr Yo Eh zn ic Bx zS;have xP:∀w:World,(Instr.typeAssert (.iface 123 (.int .i64 jj)) 98 123 true).run Tryz.prog w = .ok (.tuple #[.int .i64 jj,.bool true]) w:=λ_=>by kernel_rfl
    go_upto_region 25 with fail;clear xP f0;have fd:=Fr.av [] gi;have HX:=au g0 e3 kp;clear e0 e3 kp;have g0:=fd.cell g0 (by simp);have e2:=fd.cell e2 (by simp);have ki:=fd.cell ki (by simp);have kj:=fd.cell kj (by simp);clear fd;refine jh 21 [(false,0),(false,1),(false,3),(false,4),(false,5),(false,6),(false,7),(false,8),(false,9),(false,10),(false,11),(false,12),(false,13),(false,14),(false,15),(false,16),(false,17),(true,2),(true,18),(true,19),(false,20)] [] (by kernel_rfl) (by kernel_rfl) (λ_ _ d _ _ h=>by cases d<;>exact h) ?_;simp only[iw];refine cS 17 rfl ?_;simp only[aU];repeat (go_big_quiet_step (fail))
    refine wpQuiet_nil ?_;clear g0 e2 ki kj;refine ep rfl ?_;intro X' ek;go_wp2_with (go_at_call 10;refine (Hk 6 dl _ (by decide) (by omega)).mono ?_;rintro e je ⟨iA,rfl,QE,FI,f13⟩);refine ek.out _ _ f13 ?_;clear ek X';refine ep rfl ?_;intro X' ek;go_wp2_with (go_at_call 9;refine (quf nb _ (by omega)).mono ?_;rintro e yC ⟨Zk,rfl,Kc,wC,f14⟩);refine ek.out _ _ f14 ?_;clear ek X';obtain⟨h6,SE⟩:=ah (hd 6 dl);obtain⟨bb,kU⟩:=ah ((bk nb).reverse);have h6l:h6.length<=5:=by rw[SE];exact QN (by omega)
    have bbl:bb.length<=10:=by rw[kU,Kw];have:=Ud (k:=9) (f:=nb) (m:=nb/128) (by omega);unfold bk;rw[cQ];omega
    rw[<-SE]at QE ⊢;rw[<-kU]at Kc;rw[show (bk nb).length=bb.length by rw[kU,Kw]];have ln:=(QE.fr f14).cs;have FI:=QE.nil;refine ep rfl ?_;intro X' ek;refine Wi aq _ _ rfl iA h6.length h6.length (h6.map bv) rfl ln (by simp) (aw _) FI Zk bb.length bb.length (bb.map bv) rfl Kc.cs (by simp) (by have:0<bb.length:=(by rw[kU,Kw];unfold bk;simp);omega) (by omega) (by unfold maxLen;omega) ?_;intro py nD kz;refine ek.out _ _ kz.fr ?_;clear ek X' ln FI;simp only[Act.put,mC,nC,mB];refine cS 1 rfl ?_;simp only[aU];repeat (go_big_quiet_step (fail))
    refine wpQuiet_nil ?_;refine fE ?_;have f15:Fr [] gi nD:=(((Fr.av [] gi).trans f13).trans f14).trans kz.fr;have Xy:=kz.max;have g15:=f15.cell HX.o0 (by simp);have e3:=f15.cell HX.o1 (by simp);have kp:=f15.cell HX.l2 (by simp);obtain⟨D,YM⟩:=ah yC.heap.size;rw[<-YM]at kz ⊢;have hDw:gi.heap.size<=D:=by rw[YM];exact (((Fr.av [] gi).trans f13).trans f14).size
    have hz:=trip.qvv dga dl d 2 nD (by rw[HD.out.2.2.2.2.2.2.2.2.2.2];exact HD.out.2.2.2.2.2.2.1.fr f15) (by rw[<-HD.out.2.2.2.2.2.2.2.2.2.2];omega) (λy hy=>eT (HD.out.2.2.2.2.2.2.2.1 y hy).2.1 f15.size);rw[<-HD.out.2.2.2.2.2.2.2.2.2.2]at hz;have yA:=bJ kz.own f15 hDw hz SE kU;clear kz f15 hDw hz YM SE kU QE Kc wC f13 f14;go_upto_region 32 with (first
     | (go_at_call 67;refine yA.o3.mono ?_;rintro e um ⟨r2,tk,a16,rfl,r16,wB,f16⟩;have zX:=au r16 f16 tk;have lS:(defl.bZ 2 r2 d).length<=400000:=(by have h1:=tk.1;rw[<-HD.out.2.2.2.2.2.2.2.2.2.2]at h1;have h2:(defl.bZ 2 r2 d).length=r2.length+6:=(by unfold defl.bZ;simp[sums.yL]);omega);clear r16 wB f16 tk)
     | (at_builtin;refine iq aq rfl _ _ rfl (.slice (some ⟨D,0,none⟩) (h6.length+bb.length) py) (h6.length+bb.length) (h6.map bv++bb.map bv) [D] rfl rfl (dr yA.o0 zX.o1 (by simp)) a16 (defl.bZ 2 r2 d).length (defl.bZ 2 r2 d).length ((defl.bZ 2 r2 d).map bv) rfl (aw _) zX.o0.nil zX.o0.cs (by simp) (jQ _) (by omega) (by unfold maxLen;omega) ?_;intro a17 c17 Qx LJ;have H18:=af LJ;clear LJ))
    clear e3 kp g15;have LJ:=H18.out;have f17:Fr [] gi Qx:=(yA.o1.trans zX.o1).step LJ.fr (λy hy=>by simp at hy;right;rw[hy];exact yA.o2);have KO:=LJ.own;rw[<-gB,<-gB]at KO;have M2:=dr lu.out.2.1 f17 (by simp);obtain⟨nn,qe⟩:=ah (h6.length+bb.length+(defl.bZ 2 r2 d).length);rw[<-qe]at KO ⊢;have rk:nn=(h6++bb++defl.bZ 2 r2 d).length:=by rw[qe];simp;omega
    have Xq:nn<=500000:=by omega
    have qA:EF (aJ.map (·.1)) di dO ol (h6++bb++defl.bZ 2 r2 d) (pj+1):=by obtain⟨SN,ye,wL,IK,qm,Bs,TK,lX,Lr,Eh,ic⟩:=HD.out;exact⟨⟨(kn:Nat),bs,id,at_,crc⟩,by rw[<-H.out.2.1,j5,H.out.2.2.2.2.1];rfl,.inr ⟨jj,b,aj,pj,d,r2,by rw[<-H.out.2.1];exact XI,SN,ye,Lr,wL,IK,rfl,qm,Bs,zX.l2,by rw[yA.o4,yA.l5,ic,Eh]⟩⟩
    have LI:=aP f17 KO M2 rk qA;clear LJ f17 KO M2 rk qe qA;go_upto_if 192 with fail;go_cut [15,16] from 193 to 193 (λs15 s16 wz=>∃(ea:Option Addr) (el ec dn:Nat) (E:List UInt8),s15 = .slice ea el ec/\s16 = .int .i64 (dn:Nat)/\el<=500000/\el=E.length/\EF (aJ.map (·.1)) di dO ol E dn/\Fr [] gi wz/\lib.Rd wz ea ec E)
    case first=>
     by_cases Bn:fl<=nn
     ·have g1:decide ((fl:Int)<=(nn:Int))=true:=by simp;omega
      have g2:decide (fl<=nn)=true:=by simpa using Bn
      go_wp2;go_meet;exact⟨some ⟨B,0,none⟩,fl,LC,0,fs,rfl,rfl,I9,lu.out.2.2.2.1,lu.out.2.2.1,LI.o0,(wh LI.o2).1⟩
     ·have g1:decide ((fl:Int)<=(nn:Int))=false:=by simp;omega
      have g2:decide (fl<=nn)=false:=by simpa using Bn
      go_wp2;go_meet;exact⟨a17,nn,c17,pj+1,h6++bb++defl.bZ 2 r2 d,rfl,by go_num,Xq,LI.o3,LI.l4,LI.o0,(wh LI.o1).1⟩
    case rest=>
     obtain⟨ea,el,ec,dn,E,rfl,rfl,OU,Ja,qA,f17,rE⟩:=hcut;have NL:el<=ec:=by rw[Ja];exact rE.le
     have jE:=rE.nil;have Dc:=lu.out.2.2.2.2.1.dF f17;have e0:=cell_of Dc.hW 0;have e3:=cell_of Dc.hW 3;simp only[bw,aV,bN]at e0 e3;rw[<-H.out.2.2.2.1]at e0;rw[H.out.2.2.2.2.2.2.2.2.1,<-H.out.2.1]at e3;have HC:=aF Ja qA Dc rE;clear Ja qA f17 rE;go_upto_region 34 with fail;obtain⟨da,lX⟩:∃da:Option Addr,da=some ⟨dg,do_,none⟩:=⟨_,rfl⟩;rw[<-lX]at e3 Dc HC H ⊢;obtain⟨a8,Jq⟩:∃a8:Option Addr,a8=some ⟨ag,ao,none⟩:=⟨_,rfl⟩;rw[<-Jq]at Dc HC ⊢;obtain⟨S,hS⟩:=ah (ae ba++ae da);have oS:W∉S:=by
      rw[hS];intro hy;rcases jy.1 hy with h1|h1
      ·have:=(Dc.nb W h1).1;omega
      ·have:=(Dc.nd W h1).1;omega
     have fd:=Fr.av [] wc;have wm:=dr Dc.ob fd (by simp);have pN:=dr Dc.od fd (by simp);rw[<-H.out.2.2.2.1]at wm;rw[H.out.2.2.2.2.2.2.2.2.1,<-H.out.2.1]at pN;have rF:=HC.l3.fr fd;have q0:∀x,(sup S wc.drew x).cell? ⟨W,0,none⟩=some (.slice ba ol bc):=λx=>(dk S wc.drew x).cell (fd.cell e0 (by simp)) oS
     have q3:∀x,(sup S wc.drew x).cell? ⟨W,3,none⟩=some (.slice da i dc):=λx=>(dk S wc.drew x).cell (fd.cell e3 (by simp)) oS
     have HS:=aP hS oS wm pN rF;clear hS oS wm pN rF e0 e3 fd Dc lX Jq;refine qmh 15 1 (.pointer (some ⟨W,0,none⟩)) (.one false 0 (.one false 2 (.one false 3 (.one false 4 (.one false 5 (.one false 6 (.one false 8 (.one false 9 (.one false 10 (.one false 11 (.one false 12 (.two 7 (.one true 13 (.one true 14 .done)) 13 (.one true 7 (.one true 14 .done)))))))))))))) S (by kernel_rfl) (by kernel_rfl) (λ_ _ d _ _ h=>by cases d<;>exact h) (.inl ⟨by rfl,λ_=>by rfl⟩) ?_;simp only[OT.map,yT,yS,xH,yU,R2,Act.put,mC,nC,mB];refine qtv 11 ?_;simp only[OT.pH,OT.behind];repeat (go_big_quiet_step (fail))
     refine wpQuiet_nil ?_;clear q0 q3;refine qtu rfl rfl ?_ ?_
     ·intro X' ek;refine uv aq _ _ rfl (.slice ba ol bc) ol (out.map bv) (ae ba) rfl (dw ba ol bc) HS.o2 ea el ec (E.map bv) rfl NL jE HS.l4.cs (by rw[cN,<-HC.o0,qV]) (jQ _) (by omega) (by unfold maxLen;omega) ?_;intro iA ln je mv;have mg:Fr S wc.drew je:=mv.fr.mono (λy hy=>.inl (by rw[HS.o0];exact Fu _ hy));refine ek.out _ _ mg ?_;clear ek X';simp only[Act.put,mC,nC,mB];refine Fk rfl ?_;intro X' ek;go_wp2;refine ek.out _ _ ((Fr.refl _ je).alloc _) ?_;clear ek X';have cI:Cs (je.alloc (.cells #[.int .i64 dn] 3)) (some ⟨je.heap.size,0,none⟩) [.int .i64 dn]:=ny _ _ _ 3 (bx je _);have f13:=(Fr.refl [] je).alloc (.cells #[.int .i64 dn] 3);have mY:=HC.o2;have cT:=dr (dr HS.o3 mv.fr (λy hy=>by
       have h3:y∈ae da:=by rw[<-dw da i dc,hy];simp
       exact (mY.nd y h3).2.1)) f13 (by simp)
      refine Fk rfl ?_;intro X' ek;refine uv oX _ _ rfl (.slice da i dc) i (ints dO) (ae da) rfl (dw da i dc) cT (some ⟨_,0,none⟩) 1 1 [.int .i64 dn] rfl (by decide) (by simp) cI rfl (by simp[Value.oneCell']) (by omega) (by unfold maxLen;omega) ?_;intro nj py nD kz;have mf:Fr S (je.alloc (.cells #[.int .i64 dn] 3)) nD:=kz.fr.mono (λy hy=>.inl (by rw[HS.o0];exact KA _ hy));refine ek.out _ _ mf ?_;clear ek X';simp only[Act.put,mC,nC,mB];refine Rm ?_;have f15:Fr S wc nD:=((((Fr.av [] wc).mono (by simp)).trans mg).trans (f13.mono (by simp))).trans mf;have jt:∀y∈ae iA,y∈ae ba\/wc.heap.size<=y:=λy hy=>by
       rcases mv.at_ y hy with h|h
       ·exact .inl h
       ·exact .inr (by rw[h];exact aw _)
      have wI:wc.heap.size<=je.heap.size:=mv.fr.size;have jr:∀y∈ae nj,y∈ae da\/wc.heap.size<=y:=λy hy=>by
       rcases kz.at_ y hy with h|h
       ·exact .inl h
       ·exact .inr (by rw[h,eZ];omega)
      have bR:∀y∈ae iA,y∉ae da:=λy hy hd=>by
       rcases mv.at_ y hy with h|h
       ·exact (mY.nb y h).2.2 hd
       ·have h1:=mY.lt.2.2.1 y hd;have h2:wc.drew.heap.size=wc.heap.size:=rfl;omega
      have iE:=dr (dr mv.own f13 (by simp)) kz.fr (λy hy=>by
       have h3:y∈ae iA:=by rw[<-dw iA (ol+el) ln,hy];simp
       exact bR y h3)
      have iD:=kz.own;clear cI cT mv kz bR mg mf f13 wI;rw[HS.o0]at f15;have cC:=mY.fin f15 E dn iA ln (by rw[gB,<-HC.o0,<-H.out.2.2.2.1];exact iE) jt nj py (by rw[H.out.2.2.2.2.2.2.2.2.1,<-H.out.2.1,show ints (dO++[dn])=ints dO++[.int .i64 dn] by simp[ints]];exact iD) jr;rw[<-H.out.2.2.2.1,<-HC.o0,H.out.2.2.2.2.2.2.2.2.1,<-H.out.2.1]at cC;have jG:=f15.ae mY.hW (by rw[<-HS.o0];exact HS.o1);have e0:=cell_of jG 0;have z0:=aO jG 0;have ni:=aX (o:=0) jG (.slice iA (ol+el) ln);have e3:=cell_of ni 3;have e4:=cell_of ni 0;have z3:=aO ni 3;simp only[bw,aV,bN,mC,mB]at e0 e3 e4;rw[<-H.out.2.2.2.1]at e0;rw[H.out.2.2.2.2.2.2.2.2.1,<-H.out.2.1]at e3;have HE:=af cC;clear f15 iE iD jt jr ni jG cC mY;go_wp2;refine bodyPost_end (results_none rfl _ _ _) rfl ⟨rfl,E,dn,iA,ln,a8,c8,nj,py,(by rw[<-H.out.2.2.2.1];exact HC.o1),(by rw[<-HC.o0];exact OU),?_⟩;rw[<-H.out.2.2.2.1];exact HE.out
     ·intro X' ek;go_wp2;refine ek.out _ _ ((Fr.refl _ wc.drew).alloc _) ?_;clear ek X';have fA:=(Fr.refl [] wc.drew).alloc (.cells #[.int .i64 dn] 3);have P8:Cs (wc.drew.alloc (.cells #[.int .i64 dn] 3)) (some ⟨wc.drew.heap.size,0,none⟩) [.int .i64 dn]:=ny _ _ _ 3 (bx wc.drew _);have cT:=dr HS.o2 fA (by simp);have P1:=HS.l4.cs.fr fA (by simp);have mY:=HC.o2;have nS:∀y∈ae (some ⟨wc.drew.heap.size,0,none⟩),y∉ae ba:=λy hy hS=>by have h1:=mY.lt.1 y hS;simp[ae]at hy;have h2:wc.drew.heap.size=wc.heap.size:=rfl;omega
      refine Fk rfl ?_;intro X' ek;refine uv aq _ _ rfl (.slice ba ol bc) ol (out.map bv) (ae ba) rfl (dw ba ol bc) cT ea el ec (E.map bv) rfl NL jE P1 (by rw[cN,<-HC.o0,qV]) (jQ _) (by omega) (by unfold maxLen;omega) ?_;intro iA ln je mv;have mg:Fr S (wc.drew.alloc (.cells #[.int .i64 dn] 3)) je:=mv.fr.mono (λy hy=>.inl (by rw[HS.o0];exact Fu _ hy));refine ek.out _ _ mg ?_;clear ek X';simp only[Act.put,mC,nC,mB];have cI:=P8.fr mv.fr nS;have uD:=dr (dr HS.o3 fA (by simp)) mv.fr (λy hy=>by
       have h3:y∈ae da:=by rw[<-dw da i dc,hy];simp
       exact (mY.nd y h3).2.1)
      clear P8 cT P1 nS;refine Fk rfl ?_;intro X' ek;refine uv oX _ _ rfl (.slice da i dc) i (ints dO) (ae da) rfl (dw da i dc) uD (some ⟨_,0,none⟩) 1 1 [.int .i64 dn] rfl (by decide) (by simp) cI rfl (by simp[Value.oneCell']) (by omega) (by unfold maxLen;omega) ?_;intro nj py nD kz;have mf:Fr S je nD:=kz.fr.mono (λy hy=>.inl (by rw[HS.o0];exact KA _ hy));refine ek.out _ _ mf ?_;clear ek X';simp only[Act.put,mC,nC,mB];refine Rm ?_;have f15:Fr S wc nD:=((((Fr.av [] wc).trans fA).mono (by simp)).trans mg).trans mf;have Iy:(wc.drew.alloc (.cells #[.int .i64 dn] 3)).heap.size=wc.heap.size+1:=eZ _ _;have lZ:∀y∈ae iA,y∈ae ba\/y=wc.heap.size+1:=λy hy=>by rw[<-Iy];exact mv.at_ y hy
      have jt:∀y∈ae iA,y∈ae ba\/wc.heap.size<=y:=λy hy=>by
       rcases lZ y hy with h|h
       ·exact .inl h
       ·exact .inr (by omega)
      have wI:wc.heap.size<=je.heap.size:=bS (show wc.heap.size<=(wc.drew.alloc (.cells #[.int .i64 dn] 3)).heap.size by rw[Iy];omega) mv.fr.size;have jr:∀y∈ae nj,y∈ae da\/wc.heap.size<=y:=λy hy=>by
       rcases kz.at_ y hy with h|h
       ·exact .inl h
       ·exact .inr (by omega)
      have bR:∀y∈ae iA,y∉ae da:=λy hy hd=>by
       rcases lZ y hy with h|h
       ·exact (mY.nb y h).2.2 hd
       ·have h1:=mY.lt.2.2.1 y hd;omega
      have iE:=dr mv.own kz.fr (λy hy=>by
       have h3:y∈ae iA:=by rw[<-dw iA (ol+el) ln,hy];simp
       exact bR y h3)
      have iD:=kz.own;clear cI uD mv kz bR mg mf fA wI lZ Iy;rw[HS.o0]at f15;have cC:=mY.fin f15 E dn iA ln (by rw[gB,<-HC.o0,<-H.out.2.2.2.1];exact iE) jt nj py (by rw[H.out.2.2.2.2.2.2.2.2.1,<-H.out.2.1,show ints (dO++[dn])=ints dO++[.int .i64 dn] by simp[ints]];exact iD) jr;rw[<-H.out.2.2.2.1,<-HC.o0,H.out.2.2.2.2.2.2.2.2.1,<-H.out.2.1]at cC;have jG:=f15.ae mY.hW (by rw[<-HS.o0];exact HS.o1);have e0:=cell_of jG 0;have z0:=aO jG 0;have ni:=aX (o:=0) jG (.slice iA (ol+el) ln);have e3:=cell_of ni 3;have e4:=cell_of ni 0;have z3:=aO ni 3;simp only[bw,aV,bN,mC,mB]at e0 e3 e4;rw[<-H.out.2.2.2.1]at e0;rw[H.out.2.2.2.2.2.2.2.2.1,<-H.out.2.1]at e3;have HE:=af cC;clear f15 iE iD jt jr ni jG cC mY;go_wp2;refine bodyPost_end (results_none rfl _ _ _) rfl ⟨rfl,E,dn,iA,ln,a8,c8,nj,py,(by rw[<-H.out.2.2.2.1];exact HC.o1),(by rw[<-HC.o0];exact OU),?_⟩;rw[<-H.out.2.2.2.1];exact HE.out
end os
namespace os
open Go lib pk
inductive Pk (os:List pk.Obj) (o0:List UInt8):List UInt8->List Nat->List Nat->Prop
 | nil:Pk os o0 o0 [] []
 | step {out:List UInt8} {di dO:List Nat} {E:List UInt8} {dp:Nat}:Pk os o0 out di dO->EF os di dO out.length E dp->Pk os o0 (out++E) (di++[out.length]) (dO++[dp])
def EN (os:List pk.Obj):Prop:=∀o∈os,1<=o.kind.toNat/\o.kind.toNat<=4/\o.body.length<=65536
theorem zdp {os:List pk.Obj} {o0 out:List UInt8} {di dO:List Nat} (h:Pk os o0 out di dO) (BP:o0.length=12) :
  di.length=dO.length/\12<=out.length/\(∀a∈di,a<out.length):=by
 induction h with
 | nil=>exact⟨rfl,by omega,by simp⟩
 | @step out di dO E dp hp hE ih=>
  obtain⟨i1,i2,i3⟩:=ih;obtain⟨o,ho,hE⟩:=hE;have YJ:0<E.length:=by
   rcases hE with⟨r,_,rfl,_⟩|⟨j,b,a,p,d,r,_,_,_,_,_,_,_,_,_,_,rfl⟩
   ·unfold defl.bZ;simp only[aK,cQ];omega
   ·unfold defl.bZ;simp only[aK,cQ];omega
  refine⟨by simp[i1],by rw[aK];omega,λa ha=>?_⟩;rw[aK];rcases jy.1 ha with h1|h1
  ·have:=i3 a h1;omega
  ·simp only[iQ]at h1;omega
theorem zfj {os:List pk.Obj} {di dO:List Nat} {n:Nat} {E:List UInt8} {dp:Nat} (h:EF os di dO n E dp) (jz:EN os) (hn:n<=1073741824):∃o,os[di.length]?=some o/\E.length<=6*o.body.length+130:=by
 obtain⟨o,ho,hE⟩:=h;have hoo:=jz o (iC ho);refine⟨o,ho,?_⟩;rcases hE with⟨r,hr,rfl,_⟩|⟨j,b,a,p,d,r,_,_,_,_,_,_,_,_,ic,hr,rfl⟩
 ·have h1:(hd o.kind.toNat o.body.length).length<=5:=QN (by omega);have h2:=hr.1;unfold defl.bZ;simp only[aK,cQ,lK,sums.yL];omega
 ·have h1:(hd 6 d.length).length<=5:=QN (by omega);have h2:=hr.1;have h3:(bk (n-a)).length<=5:=zft (by omega);unfold defl.bZ;simp only[aK,cQ,lK,sums.yL,Kw];omega
theorem zez {os:List pk.Obj} {o0 out:List UInt8} {di dO:List Nat} (jz:EN os) (h:Pk os o0 out di dO) (D6:o0.length+(os.map λo=>6*o.body.length+130).sum<=1000000) :
  di.length<=os.length/\out.length<=o0.length+((os.take di.length).map λo=>6*o.body.length+130).sum:=by
 induction h with
 | nil=>exact⟨dZ _,by simp⟩
 | @step out di dO E dp hp hE ih=>
  obtain⟨i1,i2⟩:=ih;have h3:((os.take di.length).map λo=>6*o.body.length+130).sum<=(os.map λo=>6*o.body.length+130).sum:=by rw[<-Fz di.length os,gB,List.sum_append_nat];rw[Fz];omega
  obtain⟨o,ho,hl⟩:=zfj hE jz (by omega);have aY:=(lA.1 ho).1;refine⟨by rw[aK,yR];omega,?_⟩;rw[aK,aK,yR,zG,ho];simp only[Option.toList_some,gB,gW,oJ,List.sum_append_nat,Dr,List.sum_nil];omega
def oB (n:Nat):List UInt8:=[80,65,67,75,0,0,0,2,0,0,0,UInt8.ofNat n]
end os

end Go.Proofs.YtkmpfgpfbmeihaaGreatDoor