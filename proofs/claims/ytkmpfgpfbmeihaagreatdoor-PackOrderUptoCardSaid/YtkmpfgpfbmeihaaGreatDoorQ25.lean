/-
  Texts of this proof, one behind the other: OWrite, OPlain.
-/
import Derived.Test.YtkmpfgpfbmeihaaGreatDoorQ24
set_option maxHeartbeats 16000000
set_option maxRecDepth 100000
set_option linter.unusedVariables false
set_option linter.unusedSimpArgs false
namespace Go.Proofs.YtkmpfgpfbmeihaaGreatDoor
namespace os
open Go Go.RowKit lib bm pk huf
set_option maxRecDepth 100000
def EF (os:List pk.Obj) (bq bY:LN) (n:Nat) (E:LB) (dp:Nat):Prop:=
 ∃o,os[bq.length]?=some o/\((∃r,trip.RQ o.body r/\E=hd o.kind.toNat o.body.length++defl.aE 2 r o.body/\dp=0)\/
  ∃j b a p d r,j<bq.length/\os[j]?=some b/\b.kind=o.kind/\bq[j]?=some a/\bY[j]?=some p/\p<20/\dp=p+1/\delta.Made b.body o.body d/\d.length<o.body.length/\trip.RQ d r/\E=hd 6 d.length++(bk (n-a)).reverse++defl.aE 2 r d)
structure WS (w0 w:World) (W:Nat) (la:OA) (lc:Nat) (aK:List OM) (out:LB) (bq bY:LN) (ba:OA) (bc:Nat) (aa:OA) (ac:Nat) (da:OA) (dc:Nat):Prop where
 hW:w.heap[W]?=some (.cells #[.slice ba out.length bc,.slice la aK.length lc,.slice aa bq.length ac,.slice da bY.length dc] 74 (0,0))
 ob:w.ownsRow 0 5 1 (.slice ba out.length bc) out.length (out.map bv)
 oa:w.ownsRow 0 3 1 (.slice aa bq.length ac) bq.length (ints bq)
 od:w.ownsRow 0 3 1 (.slice da bY.length dc) bY.length (ints bY)
 nb:∀y∈af ba,W<y/\y∉af aa/\y∉af da
 na:∀y∈af aa,W<y/\y∉af ba/\y∉af da
 nd:∀y∈af da,W<y/\y∉af ba/\y∉af aa
 hl:gU w la lc aK
 ol:∀y∈af la,y<W
 om:∀m∈aK,∀y∈af m.2.1,y<W
 fr:Fr [] w0 w
 w0:w0.heap.size<=W
theorem WS.dQ {w0 w w':World} {W:Nat} {la:OA} {lc:Nat} {aK:List OM} {out:LB} {bq bY:LN} {ba:OA} {bc:Nat} {aa:OA} {ac:Nat} {da:OA} {dc:Nat} (h:WS w0 w W la lc aK out bq bY ba bc aa ac da dc) (f:Fr [] w w'):WS w0 w' W la lc aK out bq bY ba bc aa ac da dc:=
 ⟨f.af h.hW (by simp),dr h.ob f (by simp),dr h.oa f (by simp),dr h.od f (by simp),h.nb,h.na,h.nd,h.hl.fr f,h.ol,h.om,h.fr.trans f,h.w0⟩
def Written (w0:World) (W:Nat) (la:OA) (lc:Nat) (aK:List OM) (out:LB) (bq bY:LN) (e:Ending) (w':World):Prop:=
 e = .returned (.tuple #[])/\∃E dp ba bc aa ac da dc,EF (aK.map (·.1)) bq bY out.length E dp/\E.length<=500000/\WS w0 w' W la lc aK (out++E) (bq++[out.length]) (bY++[dp]) ba bc aa ac da dc
def KA (os:List pk.Obj) (bY:LN) (i:Nat) (o:pk.Obj) (st:Option (Nat×List UInt8)):Prop:=∀j d,st=some (j,d)->j<i/\∃b p,os[j]?=some b/\b.kind=o.kind/\bY[j]?=some p/\p<20/\delta.Made b.body o.body d/\d.length<o.body.length
theorem _root_.Go.Proofs.YtkmpfgpfbmeihaaGreatDoor.os.pE.gJ {w0 w w':World} {F G:Nat} {st:Option (Nat×List UInt8)} {T:LN} (h:pE w0 w F G st) (f:Fr T w w') (hT:∀y∈T,y<w0.heap.size) (hF:w0.heap.size<=F) (hG:w0.heap.size<=G):pE w0 w' F G st:=by
 have hn:∀y,w0.heap.size<=y->y∉T:=λy hy h1=>by have:=hT y h1;omega
 match st,h with
 | none,h=>exact⟨f.af h.1 (hn F hF),f.af h.2 (hn G hG)⟩
 | some (j,d),⟨h1,da,h2,h3,h4⟩=>exact⟨f.af h1 (hn F hF),da,f.af h2 (hn G hG),h3.gJ f (λy hy=>hn y (h4 y hy).1),λy hy=>⟨(h4 y hy).1,eW (h4 y hy).2.1 f.size,(h4 y hy).2.2⟩⟩
theorem WS.lt {w0 w:World} {W:Nat} {la:OA} {lc:Nat} {aK:List OM} {out:LB} {bq bY:LN} {ba:OA} {bc:Nat} {aa:OA} {ac:Nat} {da:OA} {dc:Nat} (h:WS w0 w W la lc aK out bq bY ba bc aa ac da dc) :
  (∀y∈af ba,y<w.heap.size)/\(∀y∈af aa,y<w.heap.size)/\(∀y∈af da,y<w.heap.size)/\W<w.heap.size:=
 ⟨λ_ hy=>rr h.ob (qi hy),λ_ hy=>rr h.oa (qi hy),λ_ hy=>rr h.od (qi hy),lt_of_block h.hW⟩
theorem WS.place {w0 w w8:World} {W:Nat} {la:OA} {lc:Nat} {aK:List OM} {out:LB} {bq bY:LN} {ba:OA} {bc:Nat} {aa:OA} {ac:Nat} {da:OA} {dc:Nat} (h:WS w0 w W la lc aK out bq bY ba bc aa ac da dc)
  (f:Fr (af aa) w w8) (a8:OA) (c8 n:Nat) (own:w8.ownsRow 0 3 1 (.slice a8 (bq.length+1) c8) (bq.length+1) (ints bq++[.int .i64 n])) (bR:∀y∈af a8,y∈af aa\/w.heap.size<=y) :
  WS w0 (w8.setCell ⟨W,2,none⟩ (.slice a8 (bq.length+1) c8)) W la lc aK out (bq++[n]) bY ba bc a8 c8 da dc/\Fr (W::af aa) w (w8.setCell ⟨W,2,none⟩ (.slice a8 (bq.length+1) c8)):=by
 obtain⟨l1,l2,l3,l4⟩:=h.lt;have hWa:W∉af aa:=λhy=>by have:=(h.na W hy).1;omega
 have f2:Fr [W] w8 (w8.setCell ⟨W,2,none⟩ (.slice a8 (bq.length+1) c8)):=(Fr.refl [W] w8).setCell (by simp) _;have f3:Fr (W::af aa) w (w8.setCell ⟨W,2,none⟩ (.slice a8 (bq.length+1) c8)):=(f.mono (λy hy=>.inl (by simp[hy]))).trans (f2.mono (λy hy=>.inl (by simp at hy;simp[hy])));have Ue:∀y∈af a8,W<y/\y∉af ba/\y∉af da:=λy hy=>by
  rcases bR y hy with h1|h1
  ·exact h.na y h1
  ·exact⟨by omega,λh2=>by have:=l1 y h2;omega,λh2=>by have:=l3 y h2;omega⟩
 have keep:∀(b:OA) (k c:Nat) (e:TypeId) (xs:LV),(∀y∈af b,W<y/\y∉af aa)->w.ownsRow 0 e 1 (.slice b k c) k xs->(w8.setCell ⟨W,2,none⟩ (.slice a8 (bq.length+1) c8)).ownsRow 0 e 1 (.slice b k c) k xs:=λb k c e xs hb ho=>dr ho f3 (λy hy=>by
  have h3:y∈af b:=by rw[<-dD b k c,hy];simp
  have h4:=hb y h3
  simp only[fP,not_or]
  exact⟨by omega,h4.2⟩)
 refine⟨⟨?_,keep ba _ _ _ _ (λy hy=>⟨(h.nb y hy).1,(h.nb y hy).2.1⟩) h.ob,?_,keep da _ _ _ _ (λy hy=>⟨(h.nd y hy).1,(h.nd y hy).2.2⟩) h.od,λy hy=>⟨(h.nb y hy).1,λh1=>(Ue y h1).2.1 hy,(h.nb y hy).2.2⟩,Ue,λy hy=>⟨(h.nd y hy).1,(h.nd y hy).2.1,λh1=>(Ue y h1).2.2 hy⟩,?_,h.ol,h.om,h.fr.step f3 (λy hy=>.inr ?_),h.w0⟩,f3⟩
 ·have h1:=bI (o:=2) (f.af h.hW hWa) (.slice a8 (bq.length+1) c8);rw[aA];exact h1
 ·rw[aA,show ints (bq++[n])=ints bq++[.int .i64 n] by simp[ints]];exact dr own f2 (λy hy=>by
   have h3:y∈af a8:=by rw[<-dD a8 (bq.length+[n].length) c8,hy];simp
   have:=(Ue y h3).1
   simp
   omega)
 ·refine⟨h.hl.cs.fr f3 (λy hy h1=>?_),h.hl.le,h.hl.max,h.hl.nil,λm hm=>(h.hl.rd m hm).gJ f3 (λy hy h1=>?_)⟩
  ·have h2:=h.ol y hy;rcases fP.1 h1 with rfl|h1
   ·omega
   ·have:=(h.na y h1).1;omega
  ·have h2:=h.om m hm y hy;rcases fP.1 h1 with rfl|h1
   ·omega
   ·have:=(h.na y h1).1;omega
 ·rcases fP.1 hy with rfl|h1
  ·exact h.w0
  ·have:=(h.na y h1).1;have:=h.w0;omega
theorem zh0 {w:World} {e e':TypeId} {a b:OA} {n m c c':Nat} {xs ys:LV} (he:e≠e') (h:w.ownsRow 0 e 1 (.slice a n c) n xs) (h':w.ownsRow 0 e' 1 (.slice b m c') m ys):∀y∈af a,y∉af b:=by
 rcases h.2 with⟨h1,_⟩|⟨g,_,cur,h1,_,h2,_⟩
 ·simp only[mV]at h1;rw[h1.1];simp[af]
 ·rcases h'.2 with⟨k1,_⟩|⟨g',_,zaD,k1,_,k2,_⟩
  ·simp only[mV]at k1;rw[k1.1];simp[af]
  ·simp only[mV]at h1 k1;rw[h1.1,k1.1];simp only[af,iH];rintro y rfl hy;subst hy;rw[h2]at k2;simp only[eJ,Obj.cells.injEq]at k2;exact he k2.2.1
theorem WS.fin {w0 w wX:World} {W:Nat} {la:OA} {lc:Nat} {aK:List OM} {out:LB} {bq bY:LN} {ba:OA} {bc:Nat} {aa:OA} {ac:Nat} {da:OA} {dc:Nat} (h:WS w0 w W la lc aK out bq bY ba bc aa ac da dc)
  (f:Fr (af ba++af da) w wX) (E:LB) (dp:Nat) (iK:OA) (lK:Nat) (iO:wX.ownsRow 0 5 1 (.slice iK (out.length+E.length) lK) (out.length+E.length) ((out++E).map bv)) (jF:∀y∈af iK,y∈af ba\/w.heap.size<=y)
  (nH:OA) (pP:Nat) (iN:wX.ownsRow 0 3 1 (.slice nH (bY.length+1) pP) (bY.length+1) (ints (bY++[dp]))) (jE:∀y∈af nH,y∈af da\/w.heap.size<=y) :
  WS w0 ((wX.setCell ⟨W,0,none⟩ (.slice iK (out.length+E.length) lK)).setCell ⟨W,3,none⟩ (.slice nH (bY.length+1) pP)) W la lc aK (out++E) bq (bY++[dp]) iK lK aa ac nH pP:=by
 obtain⟨l1,l2,l3,l4⟩:=h.lt;have hWb:W∉af ba++af da:=λhy=>by
  rcases jw.1 hy with h1|h1
  ·have:=(h.nb W h1).1;omega
  ·have:=(h.nd W h1).1;omega
 have f2:Fr [W] wX ((wX.setCell ⟨W,0,none⟩ (.slice iK (out.length+E.length) lK)).setCell ⟨W,3,none⟩ (.slice nH (bY.length+1) pP)):=((Fr.refl [W] wX).setCell (by simp) _).setCell (by simp) _;have Gd:∀y∈af iK,W<y/\y∉af aa:=λy hy=>by
  rcases jF y hy with h1|h1
  ·exact⟨(h.nb y h1).1,(h.nb y h1).2.1⟩
  ·exact⟨by omega,λh2=>by have:=l2 y h2;omega⟩
 have Td:∀y∈af nH,W<y/\y∉af aa:=λy hy=>by
  rcases jE y hy with h1|h1
  ·exact⟨(h.nd y h1).1,(h.nd y h1).2.2⟩
  ·exact⟨by omega,λh2=>by have:=l2 y h2;omega⟩
 have n35:=zh0 (by decide) iO iN;have keep:∀(b:OA) (k c:Nat) (e:TypeId) (xs:LV),(∀y∈af b,W<y)->wX.ownsRow 0 e 1 (.slice b k c) k xs->((wX.setCell ⟨W,0,none⟩ (.slice iK (out.length+E.length) lK)).setCell ⟨W,3,none⟩ (.slice nH (bY.length+1) pP)).ownsRow 0 e 1 (.slice b k c) k xs:=λb k c e xs hb ho=>dr ho f2 (λy hy=>by
  have h3:y∈af b:=by rw[<-dD b k c,hy];simp
  have h4:=hb y h3
  simp
  omega)
 have f3:Fr (W::(af ba++af da)) w ((wX.setCell ⟨W,0,none⟩ (.slice iK (out.length+E.length) lK)).setCell ⟨W,3,none⟩ (.slice nH (bY.length+1) pP)):=(f.mono (λy hy=>.inl (tu _ hy))).trans (f2.mono (λy hy=>.inl (by simp at hy;simp[hy])));have mE:∀y∈W::(af ba++af da),W<=y:=λy hy=>by
  rcases fP.1 hy with rfl|hy
  ·exact ay _
  ·rcases jw.1 hy with h1|h1
   ·have:=(h.nb y h1).1;omega
   ·have:=(h.nd y h1).1;omega
 have oaX:wX.ownsRow 0 3 1 (.slice aa bq.length ac) bq.length (ints bq):=dr h.oa f (λy hy hm=>by
  have h3:y∈af aa:=by rw[<-dD aa bq.length ac,hy];simp
  have h4:=h.na y h3
  rcases jw.1 hm with h1|h1
  ·exact h4.2.1 h1
  ·exact h4.2.2 h1)
 refine⟨?_,?_,keep aa _ _ _ _ (λy hy=>(h.na y hy).1) oaX,?_,λy hy=>⟨(Gd y hy).1,(Gd y hy).2,n35 y hy⟩,λy hy=>⟨(h.na y hy).1,λh1=>(Gd y h1).2 hy,λh1=>(Td y h1).2 hy⟩,λy hy=>⟨(Td y hy).1,λh1=>n35 y h1 hy,(Td y hy).2⟩,?_,h.ol,h.om,h.fr.step f3 (λy hy=>.inr (ck h.w0 (mE y hy))),h.w0⟩
 ·have h1:=bI (o:=0) (f.af h.hW hWb) (.slice iK (out.length+E.length) lK);have h2:=bI (o:=3) h1 (.slice nH (bY.length+1) pP);rw[aA,aA];exact h2
 ·rw[aA];exact keep _ _ _ _ _ (λy hy=>(Gd y hy).1) iO
 ·rw[aA];exact keep _ _ _ _ _ (λy hy=>(Td y hy).1) iN
 ·refine⟨h.hl.cs.fr f3 (λy hy h1=>?_),h.hl.le,h.hl.max,h.hl.nil,λm hm=>(h.hl.rd m hm).gJ f3 (λy hy h1=>?_)⟩
  ·have h2:=h.ol y hy;have:=mE y h1;omega
  ·have h2:=h.om m hm y hy;have:=mE y h1;omega
theorem zfm (w0 w:World) (W:Nat) (la:OA) (lc:Nat) (aK:List OM) (out:LB) (bq bY:LN) (ba:OA) (bc:Nat) (aa:OA) (ac:Nat) (da:OA) (dc:Nat) (mm:Int)
  (h:WS w0 w W la lc aK out bq bY ba bc aa ac da dc) (hi:bq.length<aK.length) (yF:bY.length=bq.length) (hn:aK.length<=1000) (cC:out.length<=1000000000) (bR:∀a∈bq,a<out.length)
  (jb:∀m∈aK,xO m.1) (hm:w.cell? ⟨0,0,none⟩=some (.int .i64 mm)) :
  Calls Tryz.prog 34 #[.pointer (some ⟨W,0,none⟩),.int .i64 (bq.length:Nat),.slice none 0 0] w (Written w0 W la lc aK out bq bY):=by
 obtain⟨i,YZ⟩:=ai bq.length;obtain⟨n,TJ⟩:=ai aK.length;obtain⟨ol,iw⟩:=ai out.length;obtain⟨m,zE⟩:∃m,aK[i]?=some m:=⟨aK[i]'(by omega),br _⟩;have gy:=gB zE;have xh:=jb m gy;have Yq:=h.hl.rd m gy;obtain⟨lg,lo,fH,hc⟩:=h.hl.cell zE;have Ch:m.1.body.length<=65536:=xh.2.1;have w1:=cell_of h.hW 1;simp only[bF,aT,bP]at w1;rw[<-TJ]at w1;rw[<-YZ]at hi ⊢;rw[<-TJ]at hi hn;rw[<-iw]at cC;obtain⟨o,oa,oc⟩:=m;obtain⟨kd,bs,id,at_,crc⟩:=o;simp only at Yq xh Ch;have c0:=hc 0 (.int .i64 kd) rfl;have c1:=hc 1 (.slice oa bs.length oc) rfl;have c2:=hc 2 (.string (str id)) rfl;have c3:=hc 3 (.int .i64 at_) rfl;have c4:=hc 4 (.int .u32 crc) rfl;simp only[ie]at c0;obtain⟨bl,bQ⟩:=ai bs.length;rw[<-bQ]at c1 Ch;have H:=xT h YZ TJ iw zE xh Yq bQ yF bR jb hm;clear h YZ TJ iw zE xh Yq bQ yF bR jb hm hc gy;subst fH;go_enter Tryz.func34,Tryz.ntmps34;go_upto_region 1 with (guard_target =~ wpList _ _ _ (⟨_,Op.store _ _ _,_,_,_,_⟩::_) _ _;refine wpList_store_row rfl 34 (.tmp 6) (.tmp 27) rfl w.heap.size #[.int .i64 kd,.slice oa bl oc,.string (str id),.int .i64 at_,.int .u32 crc] rfl rfl 34 _ (bC _ _) nk rfl (by kernel_rfl) ?_);clear c0 c1 c2 c3 c4 w1;simp only[Act.put];generalize bL:World.setRow _ _ _=w2;obtain⟨X,hX⟩:=ai w.heap.size;rw[<-hX]at bL ⊢;have kt:w2.heap[X]?=some (.cells #[.int .i64 kd,.slice oa bl oc,.string (str id),.int .i64 at_,.int .u32 crc] 34 (0,0)):=by rw[<-bL,hX];exact setRow_heap _ _ _ _ _ _ (bC _ _)
 have f2:Fr [] w w2:=by rw[<-bL,hX];exact ((Fr.refl [] w).alloc _).setRow (.inr (ay _)) _
 have H2:=aw kt f2 hX;clear kt f2 hX bL;go_upto_region 3 with fail;obtain⟨F,hF⟩:=ai w2.heap.size;obtain⟨G,hG⟩:=ai (F+1);rw[<-hF,<-hG];generalize jR:World.alloc _ _=w3;have rI:w3.heap[F]?=some (.cells #[.nilIface] 98 (0,0)):=by rw[<-jR,hF];exact qm _ (bC w2 _)
 have PS:w3.heap[G]?=some (.cells #[.slice none 0 0] 23 (0,0)):=by have h:=bC (w2.alloc (.cells #[.nilIface] 98)) (.cells #[.slice none 0 0] 23);rw[fD,<-hF,<-hG,jR]at h;exact h
 have f3:Fr [] w2 w3:=by rw[<-jR];exact ((Fr.refl [] w2).alloc _).alloc _
 have JY:F≠G:=by omega
 have hXw:=lt_of_block H2.o0;have hXF:X<F:=by omega
 have hWX:W<X:=by have:=lt_of_block H.out.1.hW;rw[H2.l2];exact this
 have H3:=dk (f3.af H2.o0 (by simp)) (H2.o1.trans f3) (show pE w w3 F G none from ⟨rI,PS⟩) JY hXF hWX hG;clear rI PS f3 hF hG jR JY hXw hXF hWX;obtain⟨J,hJ,hJi⟩:∃J:Nat,(J:Int)=(if (i:Int)-10>0 then (i:Int)-10 else 0)/\J<=i:=by
  by_cases h:10<i
  ·exact⟨i-10,by rw[if_pos (by omega)];omega,by omega⟩
  ·exact⟨0,by rw[if_neg (by omega)];rfl,by omega⟩
 have HJ:=ah hJ;clear hJ;go_upto_block 0 with (refine FX (J:Int) rfl _ _ _ rfl (0:Int) ((i:Int)-10) rfl rfl HJ.out ?_);clear HJ;go_upto_region 8 with fail;go_loopg [10] (i-J) (λk s10 wr=>∃(j:Nat) (st:Option (Nat×List UInt8)),s10 = .int .i64 (j:Nat)/\j+k=i/\Fr [F,G] w3 wr/\pE w wr F G st/\KA (aK.map (·.1)) bY i ⟨kd,bs,id,at_,crc⟩ st);case atStart=>exact⟨J,none,rfl,by omega,Fr.refl _ _,H3.o2,λj d h=>by cases h⟩
 case round=>
  obtain⟨j,st,rfl,fx,hF,hB,yM⟩:=hrel;have Mq:=lt_of_block H.out.1.hW;have hX2:=H2.l2;have wC:Fr [] w wr:=H3.o1.step hF (λy hy=>by have h1:=H3.o4;have h2:=H3.l6;simp at hy;right;rcases hy with rfl|rfl<;>omega);have Av:=hF.af H3.o0 (by have h1:=H3.o4;have h2:=H3.l6;simp;omega);have HW:=H.out.1.dQ wC;have e1:=cell_of HW.hW 1;have e3:=cell_of HW.hW 3;have x0:=cell_of Av 0;simp only[bF,aT,bP]at e1 e3 x0;rw[<-H.out.2.2.1]at e1;rw[H.out.2.2.2.2.2.2.2.2.1,<-H.out.2.1]at e3;have HL:=dk fx hF hB yM wC Av HW;clear hF hB yM Mq hX2;by_cases iz:j<i
  ·obtain⟨k,rfl⟩:∃k,gk=k+1:=⟨gk-1,by omega⟩;obtain⟨mj,EE⟩:∃mj,aK[j]?=some mj:=⟨aK[j]'(by have:=H.out.2.2.1;omega),br _⟩;have xi:=H.out.2.2.2.2.2.2.2.2.2.2.1 mj (gB EE);have Dq:=HW.hl.rd mj (gB EE);obtain⟨lg',lo',fH,Zn⟩:=HW.hl.cell EE;simp only[eJ,ru,and_true]at fH;obtain⟨rfl,rfl⟩:=fH;obtain⟨pj,sC⟩:∃pj,bY[j]?=some pj:=⟨bY[j]'(by have:=H.out.2.2.2.2.2.2.2.2.1;have:=H.out.2.1;omega),br _⟩;obtain⟨dg,do_,rfl,hdc⟩:=(y9 HW.od).at (by rw[NL];have:=(jq.1 sC).1;omega);have k3:=hdc j (.int .i64 pj) (by unfold ints;rw[iM,sC];rfl);obtain⟨⟨kj,bj,ij,aj,cj⟩,ja,jc⟩:=mj;simp only at xi Dq;have y0:=Zn 0 (.int .i64 kj) rfl;have y1:=Zn 1 (.slice ja bj.length jc) rfl;simp only[ie]at y0;obtain⟨jl,kz⟩:=ai bj.length;rw[<-kz]at y1;have HM:=aQ EE sC xi Dq kz;clear EE sC xi Dq kz Zn hdc wC Av HW;by_cases hk:kj=kd
   ·subst hk;by_cases hp:pj<20
    ·have g0:decide ((pj:Int)<20)=true:=by simp;omega
     go_upto_region 6 with fail;go_quiet (fail);clear g0;go_upto_region 7 with fail;generalize LP:World.drewN wr nq=wq;have fq:Fr [] wr wq:=by rw[<-LP];exact Fr.drewN [] wr nq
     obtain⟨fx,hF,hB,yM,wC,Av,HW⟩:=HL.out;obtain⟨EE,sC,xi,Dq,kz⟩:=HM.out;have tG:=zi2 X F G j ja jc bj ⟨kj,bs,id,at_,crc⟩ oa oc mm w wq st (by unfold eK;rw[<-H.out.2.2.2.2.2.2.2.1];exact fq.af Av (by simp)) (hB.fr fq) H3.o3 (Dq.fr fq) (H.out.2.2.2.2.2.2.1.fr (wC.trans fq)) xi.2.1 (by show bs.length<=_;rw[<-H.out.2.2.2.2.2.2.2.1];exact Ch) ((wC.trans fq).cell H.out.2.2.2.2.2.2.2.2.2.2.2 (by simp)) (wC.trans fq).size;rw[<-kz]at tG;have e1:=fq.cell e1 (by simp);have y1:=fq.cell y1 (by simp);have HT:=ak tG fq;clear tG fq LP hF hB yM wC Av HW EE sC xi Dq kz;go_wp2_with (go_at_call 65;refine HT.o0.mono ?_;intro e w6 hT;have he:=hT.1;subst he;have H6:=ah hT.2;clear hT);go_roundg k;case measure=>omega
     case rel=>
      obtain⟨fx,hF,hB,yM,wC,Av,HW⟩:=HL.out;obtain⟨EE,sC,xi,Dq,kz⟩:=HM.out;obtain⟨f6,MP,Uu,aH⟩:=H6.out;refine⟨j+1,MP,by go_num,by omega,(hF.trans (HT.l1.mono (by simp))).trans f6,Uu,λj' d' h'=>?_⟩;rcases aH with rfl|⟨d,rfl,h1,h2⟩
      ·exact yM j' d' h'
      ·simp only[eJ,fj]at h';obtain⟨rfl,rfl⟩:=h';exact⟨iz,⟨kj,bj,ij,aj,cj⟩,pj,by rw[iM,EE];rfl,rfl,sC,hp,h1,h2⟩
    ·have g0:decide ((pj:Int)<20)=false:=by simp;omega
     go_upto_region 6 with fail;go_quiet (fail);go_wp2;go_roundg k;case measure=>omega
     case rel=>obtain⟨fx,hF,hB,yM,wC,Av,HW⟩:=HL.out;exact⟨j+1,st,by go_num,by omega,hF.trans (Fr.drewN _ wr _),hB.fr (Fr.drewN _ wr _),yM⟩
   ·have g0:((kj:Int)==kd)=false:=by simpa using hk
    go_upto_region 6 with fail;go_quiet (fail);go_wp2;go_roundg k;case measure=>omega
    case rel=>obtain⟨fx,hF,hB,yM,wC,Av,HW⟩:=HL.out;exact⟨j+1,st,by go_num,by omega,hF.trans (Fr.drewN _ wr _),hB.fr (Fr.drewN _ wr _),yM⟩
  ·clear e1 e3 x0;obtain⟨wv,OG⟩:∃wv:World,wv=wr:=⟨_,rfl⟩;rw[<-OG]at Av HW wC HL ⊢;clear OG;go_upto_region 9 with fail;go_wp2;go_loopg [72] 0 (λk s72 wq=>s72 = .int .i64 0/\wq=wv);case atStart=>exact⟨rfl,rfl⟩
   case round=>
   obtain⟨rfl,LP⟩:=hrel;have LP:=LP.symm;subst LP;obtain⟨S,hS⟩:=ai (af aa);have py:W∉S:=by rw[hS];exact λhy=>by have:=(HW.na W hy).1;omega
   have e0:=cell_of HW.hW 0;have e2:=cell_of HW.hW 2;simp only[bF,aT,bP]at e0 e2;rw[<-H.out.2.2.2.1]at e0;rw[<-H.out.2.1]at e2;have q0:∀x,(sup S wv.drew x).cell? ⟨W,0,none⟩=some (.slice ba ol bc):=λx=>(dY S wv.drew x).cell ((Fr.av [] wv).cell e0 (by simp)) py
   have q2:∀x,(sup S wv.drew x).cell? ⟨W,2,none⟩=some (.slice aa i ac):=λx=>(dY S wv.drew x).cell ((Fr.av [] wv).cell e2 (by simp)) py
   have HV:=aG Av HW hS py;clear Av HW wC hS py e0 e2 fx;go_upto_region 16 with fail;refine j4 14 [(false,0),(false,1),(false,2),(false,3),(false,4),(false,5),(false,6),(false,7),(false,8),(false,9),(true,10),(true,11),(false,12),(false,13)] S (by kernel_rfl) (by kernel_rfl) (λ_ _ d _ _ h=>by cases d<;>exact h) ?_;simp only[jm];refine dT 10 rfl ?_;simp only[bD];repeat (go_big_quiet_step (fail))
   refine wpQuiet_nil ?_;clear q0 q2;refine eT rfl ?_;intro X' eI;go_wp2;refine eI.out _ _ ((Fr.refl _ wv.drew).alloc _) ?_;clear eI X';have fA:Fr [] wv (wv.drew.alloc (.cells #[.int .i64 ol] 3)):=(Fr.av [] wv).alloc _;have cI:Cs (wv.drew.alloc (.cells #[.int .i64 ol] 3)) (some ⟨wv.drew.heap.size,0,none⟩) [.int .i64 ol]:=nM _ _ _ 3 (bC wv.drew _);have cT:=dr HV.o1.oa fA (by simp);rw[<-H.out.2.1]at cT;refine eT rfl ?_;intro X' eI;refine uj pG _ _ rfl (.slice aa i ac) i (ints bq) S rfl (by rw[dD,HV.o2]) cT (some ⟨wv.drew.heap.size,0,none⟩) 1 1 [.int .i64 ol] rfl (by decide) (by simp) cI rfl (by simp[Value.oneCell']) (by omega) (by unfold maxLen;omega) ?_;intro a8 c8 w8 A8;refine eI.out _ _ A8.fr ?_;clear eI X' cI cT;simp only[Act.put,nR,oD,nP];have f8:Fr S wv w8:=(fA.mono (by simp)).trans A8.fr;have ZB:=f8.af HV.o1.hW HV.l3;have z2:=aW ZB 2;have e2:=cell_of ZB 2;simp only[bF,aT,bP]at e2;rw[<-H.out.2.1]at e2;refine dT 2 rfl ?_;simp only[bD];repeat (go_big_quiet_step (fail))
   refine wpQuiet_nil ?_;refine ic ?_;have H8:=aw f8 A8.own A8.at_;clear A8 f8 fA ZB;go_upto_region 17 with fail;obtain⟨kn,hkn,yz,TP⟩:∃k:Nat,kd=(k:Nat)/\1<=k/\k<=4:=by
    have h1:=H.out.2.2.2.2.2.1.1;unfold obj.fg at h1;simp only at h1;by_cases a1:kd=1
    ·exact⟨1,a1,by decide,by decide⟩
    ·by_cases a2:kd=2
     ·exact⟨2,a2,by decide,by decide⟩
     ·by_cases a3:kd=3
      ·exact⟨3,a3,by decide,by decide⟩
      ·by_cases a4:kd=4
       ·exact⟨4,a4,by decide,by decide⟩
       ·rw[if_neg a1,if_neg a2,if_neg a3,if_neg a4]at h1;exact absurd rfl h1
   subst hkn;obtain⟨w9,LQ⟩:=ai (w8.setCell ⟨W,2,none⟩ (.slice a8 (i+1) c8));rw[<-LQ];have yt:=HV.o1.place (show Fr (af aa) wv w8 by rw[<-HV.o2];exact H8.out.1) a8 c8 ol (by have:=H8.out.2.1;rwa [H.out.2.1]at this) (λy hy=>by
    rcases H8.out.2.2 y hy with h1|h1
    ·exact .inl (by rw[<-HV.o2];exact h1)
    ·exact .inr (by rw[h1];show wv.heap.size<=(wv.alloc _).heap.size;rw[fD];omega))
   rw[<-H.out.2.1,<-LQ]at yt;have hX9:X∉W::af aa:=λhy=>by
    have h1:=H.out.1.lt;have h2:=H2.l2;rcases fP.1 hy with h3|h3
    ·have:=H3.o5;omega
    ·have:=h1.2.1 X h3;omega
   have Gh:=yt.2.af HV.o0 hX9;have hT:∀y∈W::af aa,y<w.heap.size:=λy hy=>by
    have h1:=H.out.1.lt;rcases fP.1 hy with rfl|h3
    ·exact h1.2.2.2
    ·exact h1.2.1 y h3
   have Mq:w.heap.size<=F/\w.heap.size<=G:=by have h1:=H3.o4;have h2:=H3.l6;have h3:=H2.l2;omega
   have hB9:=HL.out.2.2.1.gJ yt.2 hT Mq.1 Mq.2;have ro9:lib.Rd w9 oa oc bs:=yt.1.hl.rd _ (gB H.out.2.2.2.2.1);have Od:∀y∈af oa,y<w9.heap.size:=λy hy=>by have h1:=yt.1.om _ (gB H.out.2.2.2.2.1) y hy;have h2:=yt.1.lt.2.2.2;omega
   have hs9:wv.heap.size<=w9.heap.size:=yt.2.size;have x0:=(Fr.av [] w9).cell (show w9.cell? ⟨X,0,none⟩=some (.int .i64 kn) by rw[cell_of Gh];rfl) (by simp);have x1:=(Fr.av [] w9).cell (show w9.cell? ⟨X,1,none⟩=some (.slice oa bl oc) by rw[cell_of Gh];rfl) (by simp);have H9:=lv yt.1 yt.2 Gh hB9 ro9 Od Mq hs9;clear yt Gh hB9 ro9 Od Mq hs9 hX9 hT LQ z2 e2;refine j4 11 [(false,0),(false,1),(false,2),(false,3),(false,4),(false,6),(false,7),(true,5),(true,8),(true,9),(false,10)] [] (by kernel_rfl) (by kernel_rfl) (λ_ _ d _ _ h=>by cases d<;>exact h) ?_;simp only[jm];refine dT 7 rfl ?_;simp only[bD];repeat (go_big_quiet_step (fail))
   refine wpQuiet_nil ?_;refine eT rfl ?_;intro X' eI;go_wp2_with (go_at_call 10;refine (Ik kn bl _ (by omega) (by omega)).mono ?_;rintro e mS ⟨CO,rfl,RG,XL,f10⟩);refine eI.out _ _ f10 ?_;clear eI X' x0 x1;have fA:=(Fr.av [] w9).trans f10;have hz:=trip.qxp oa oc bs 2 mS (H9.o4.fr fA) (by rw[<-H.out.2.2.2.2.2.2.2.1];omega) (λy hy=>eW (H9.o5 y hy) fA.size);rw[<-H.out.2.2.2.2.2.2.2.1]at hz;have HZ:=ah hz;clear hz;refine eT rfl ?_;intro X' eI;go_wp2_with (go_at_call 67;refine HZ.out.mono ?_;rintro e uG ⟨r,hr,a11,rfl,RF,n11,f11⟩);refine eI.out _ _ f11 ?_;clear eI X' HZ;have v7:(defl.aE 2 r bs).length=r.length+6:=by unfold defl.aE;simp[sums.wJ]
   have rB:=hr.1;rw[<-H.out.2.2.2.2.2.2.2.1]at rB;have hU:(hd kn bl).length<=5:=RH (by omega);obtain⟨zs,Oq⟩:=ai (defl.aE 2 r bs);obtain⟨hs,PN⟩:=ai (hd kn bl);rw[<-Oq]at RF v7 ⊢;rw[<-PN]at RG hU ⊢;have UB:=(RG.fr f11).cs;have XL:=RG.nil;have c11:=RF.cs;have n11:=RF.nil;refine eT rfl ?_;intro X' eI;refine XA aq _ _ rfl CO hs.length hs.length (hs.map bv) rfl UB (by simp) (ay _) XL a11 zs.length zs.length (zs.map bv) rfl c11 (by simp) (by omega) (by omega) (by unfold maxLen;omega) ?_;intro Mz gh KC;refine eI.out _ _ KC.fr ?_;clear eI X' UB XL c11 n11;simp only[Act.put,nR,oD,nP];refine dT 1 rfl ?_;simp only[bD];repeat (go_big_quiet_step (fail))
   refine wpQuiet_nil ?_;refine ic ?_;obtain⟨B,hB⟩:=ai uG.heap.size;obtain⟨fl,sH⟩:=ai (hs.length+zs.length);rw[<-hB,<-sH]at KC ⊢;have f12:Fr [] w9 gh:=((fA.trans f11).trans KC.fr);have N8:=KC.own;rw[<-gF]at N8;obtain⟨fs,GK⟩:=ai (hs++zs);rw[<-GK]at N8;have hfe:EF (aK.map (·.1)) bq bY ol fs 0:=⟨⟨(kn:Nat),bs,id,at_,crc⟩,by rw[<-H.out.2.1,iM,H.out.2.2.2.2.1];rfl,.inl ⟨r,hr,by rw[GK,PN,Oq,H.out.2.2.2.2.2.2.2.1];rfl,rfl⟩⟩;have hBs:w9.heap.size<=B:=by rw[hB];exact (fA.trans f11).size
   have Jz:fl<=500000:=by omega
   have zcI:=KC.max;have pM:=KC.le;have kY:=dk f12 N8 hfe (show fl=fs.length by rw[sH,GK,aA]) (H9.o0.dQ f12) (H9.o3.fr f12) hBs;clear KC f12 N8 hB sH hr Oq PN fA f11 RF RG hU rB v7 f10 GK hfe hBs;have oy:=kY.out.2.2.2.2.1;have J1:=kY.out.2.2.2.2.2.1;have e0:=cell_of oy.hW 0;have e3:=cell_of oy.hW 3;simp only[bF,aT,bP]at e0 e3;rw[<-H.out.2.2.2.1]at e0;rw[H.out.2.2.2.2.2.2.2.2.1,<-H.out.2.1]at e3;have eO:i<=1000:=by omega
   cases st with
   | none=>
    have f0:=cell_of J1.1 0;simp only[bF,aT]at f0;clear oy J1;go_upto_region 19 with fail;obtain⟨S,hS⟩:=ai (af ba++af da);have oy:=kY.out.2.2.2.2.1;have py:W∉S:=by
     rw[hS];intro hy;rcases jw.1 hy with h1|h1
     ·have:=(oy.nb W h1).1;omega
     ·have:=(oy.nd W h1).1;omega
    have fd:=Fr.av [] gh;have wP:=dr oy.ob fd (by simp);have qu:=dr oy.od fd (by simp);rw[<-H.out.2.2.2.1]at wP;rw[H.out.2.2.2.2.2.2.2.2.1,<-H.out.2.1]at qu;obtain⟨rF,_⟩:=wK (dr kY.out.2.1 fd (by simp));have q0:∀x,(sup S gh.drew x).cell? ⟨W,0,none⟩=some (.slice ba ol bc):=λx=>(dY S gh.drew x).cell (fd.cell e0 (by simp)) py
    have q3:∀x,(sup S gh.drew x).cell? ⟨W,3,none⟩=some (.slice da i dc):=λx=>(dY S gh.drew x).cell (fd.cell e3 (by simp)) py
    have HS:=aQ hS py wP qu rF;clear hS py wP qu rF e0 e3 fd oy;refine qm8 14 1 (.pointer (some ⟨W,0,none⟩)) (.one false 0 (.one false 2 (.one false 3 (.one false 4 (.one false 5 (.one false 6 (.one false 8 (.one false 9 (.one false 10 (.one false 11 (.two 7 (.one true 12 (.one true 13 .done)) 12 (.one true 7 (.one true 13 .done))))))))))))) S (by kernel_rfl) (by kernel_rfl) (λ_ _ d _ _ h=>by cases d<;>exact h) (.inl ⟨by rfl,λ_=>by rfl⟩) ?_;simp only[OT.map,Bq,Bp,wO,yf,Tc,Act.put,nR,oD,nP];refine qvi 10 ?_;simp only[OT.qg,OT.behind];repeat (go_big_quiet_step (fail))
    refine wpQuiet_nil ?_;clear q0 q3;refine qvh rfl rfl ?_ ?_
    ·intro X' eI;refine uj aq _ _ rfl (.slice ba ol bc) ol (out.map bv) (af ba) rfl (dD ba ol bc) HS.o2 (some ⟨B,0,none⟩) fl Mz (fs.map bv) rfl (by omega) (by simp) HS.l4.cs (by rw[bW,<-kY.out.2.2.2.1,pI]) (j3 _) (by omega) (by unfold maxLen;omega) ?_;intro iK lK jn mJ;have mH:Fr S gh.drew jn:=mJ.fr.mono (λy hy=>.inl (by rw[HS.o0];exact F9 _ hy));refine eI.out _ _ mH ?_;clear eI X';simp only[Act.put,nR,oD,nP];refine FJ rfl ?_;intro X' eI;go_wp2;refine eI.out _ _ ((Fr.refl _ jn).alloc _) ?_;clear eI X';have cI:Cs (jn.alloc (.cells #[.int .i64 0] 3)) (some ⟨jn.heap.size,0,none⟩) [.int .i64 0]:=nM _ _ _ 3 (bC jn _);have f13:=(Fr.refl [] jn).alloc (.cells #[.int .i64 0] 3);have nD:=kY.out.2.2.2.2.1;have cT:=dr (dr HS.o3 mJ.fr (λy hy=>by
      have h3:y∈af da:=by rw[<-dD da i dc,hy];simp
      exact (nD.nd y h3).2.1)) f13 (by simp)
     refine FJ rfl ?_;intro X' eI;refine uj pG _ _ rfl (.slice da i dc) i (ints bY) (af da) rfl (dD da i dc) cT (some ⟨_,0,none⟩) 1 1 [.int .i64 0] rfl (by decide) (by simp) cI rfl (by simp[Value.oneCell']) (by omega) (by unfold maxLen;omega) ?_;intro nH pP nL kF;have mG:Fr S (jn.alloc (.cells #[.int .i64 0] 3)) nL:=kF.fr.mono (λy hy=>.inl (by rw[HS.o0];exact Lo _ hy));refine eI.out _ _ mG ?_;clear eI X';simp only[Act.put,nR,oD,nP];refine SA ?_;have f15:Fr S gh nL:=((((Fr.av [] gh).mono (by simp)).trans mH).trans (f13.mono (by simp))).trans mG;have jF:∀y∈af iK,y∈af ba\/gh.heap.size<=y:=λy hy=>by
      rcases mJ.at_ y hy with h|h
      ·exact .inl h
      ·exact .inr (by rw[h];exact ay _)
     have wZ:gh.heap.size<=jn.heap.size:=mJ.fr.size;have jE:∀y∈af nH,y∈af da\/gh.heap.size<=y:=λy hy=>by
      rcases kF.at_ y hy with h|h
      ·exact .inl h
      ·exact .inr (by rw[h,fD];omega)
     have cQ:∀y∈af iK,y∉af da:=λy hy hd=>by
      rcases mJ.at_ y hy with h|h
      ·exact (nD.nb y h).2.2 hd
      ·have h1:=nD.lt.2.2.1 y hd;have h2:gh.drew.heap.size=gh.heap.size:=rfl;omega
     have iO:=dr (dr mJ.own f13 (by simp)) kF.fr (λy hy=>by
      have h3:y∈af iK:=by rw[<-dD iK (ol+fl) lK,hy];simp
      exact cQ y h3)
     have iN:=kF.own;clear cI cT mJ kF cQ mH mG f13 wZ;rw[HS.o0]at f15;have cR:=nD.fin f15 fs 0 iK lK (by rw[gF,<-kY.out.2.2.2.1,<-H.out.2.2.2.1];exact iO) jF nH pP (by rw[H.out.2.2.2.2.2.2.2.2.1,<-H.out.2.1,show ints (bY++[0])=ints bY++[.int .i64 0] by simp[ints]];exact iN) jE;rw[<-H.out.2.2.2.1,<-kY.out.2.2.2.1,H.out.2.2.2.2.2.2.2.2.1,<-H.out.2.1]at cR;have jU:=f15.af nD.hW (by rw[<-HS.o0];exact HS.o1);have e0:=cell_of jU 0;have z0:=aW jU 0;have nG:=bI (o:=0) jU (.slice iK (ol+fl) lK);have e3:=cell_of nG 3;have e4:=cell_of nG 0;have z3:=aW nG 3;simp only[bF,aT,bP,nR,nP]at e0 e3 e4;rw[<-H.out.2.2.2.1]at e0;rw[H.out.2.2.2.2.2.2.2.2.1,<-H.out.2.1]at e3;have HE:=ah cR;clear f15 iO iN jF jE nG jU cR nD;go_wp2;refine bodyPost_end (results_none rfl _ _ _) rfl ⟨rfl,fs,0,iK,lK,a8,c8,nH,pP,(by rw[<-H.out.2.2.2.1];exact kY.out.2.2.1),(by rw[<-kY.out.2.2.2.1];exact Jz),?_⟩;rw[<-H.out.2.2.2.1];exact HE.out
    ·intro X' eI;go_wp2;refine eI.out _ _ ((Fr.refl _ gh.drew).alloc _) ?_;clear eI X';have fA:=(Fr.refl [] gh.drew).alloc (.cells #[.int .i64 0] 3);have Q6:Cs (gh.drew.alloc (.cells #[.int .i64 0] 3)) (some ⟨gh.drew.heap.size,0,none⟩) [.int .i64 0]:=nM _ _ _ 3 (bC gh.drew _);have cT:=dr HS.o2 fA (by simp);have QX:=HS.l4.cs.fr fA (by simp);have nD:=kY.out.2.2.2.2.1;have nS:∀y∈af (some ⟨gh.drew.heap.size,0,none⟩),y∉af ba:=λy hy hS=>by have h1:=nD.lt.1 y hS;simp[af]at hy;have h2:gh.drew.heap.size=gh.heap.size:=rfl;omega
     refine FJ rfl ?_;intro X' eI;refine uj aq _ _ rfl (.slice ba ol bc) ol (out.map bv) (af ba) rfl (dD ba ol bc) cT (some ⟨B,0,none⟩) fl Mz (fs.map bv) rfl (by omega) (by simp) QX (by rw[bW,<-kY.out.2.2.2.1,pI]) (j3 _) (by omega) (by unfold maxLen;omega) ?_;intro iK lK jn mJ;have mH:Fr S (gh.drew.alloc (.cells #[.int .i64 0] 3)) jn:=mJ.fr.mono (λy hy=>.inl (by rw[HS.o0];exact F9 _ hy));refine eI.out _ _ mH ?_;clear eI X';simp only[Act.put,nR,oD,nP];have cI:=Q6.fr mJ.fr nS;have uS:=dr (dr HS.o3 fA (by simp)) mJ.fr (λy hy=>by
      have h3:y∈af da:=by rw[<-dD da i dc,hy];simp
      exact (nD.nd y h3).2.1)
     clear Q6 cT QX nS;refine FJ rfl ?_;intro X' eI;refine uj pG _ _ rfl (.slice da i dc) i (ints bY) (af da) rfl (dD da i dc) uS (some ⟨_,0,none⟩) 1 1 [.int .i64 0] rfl (by decide) (by simp) cI rfl (by simp[Value.oneCell']) (by omega) (by unfold maxLen;omega) ?_;intro nH pP nL kF;have mG:Fr S jn nL:=kF.fr.mono (λy hy=>.inl (by rw[HS.o0];exact Lo _ hy));refine eI.out _ _ mG ?_;clear eI X';simp only[Act.put,nR,oD,nP];refine SA ?_;have f15:Fr S gh nL:=((((Fr.av [] gh).trans fA).mono (by simp)).trans mH).trans mG;have Ja:(gh.drew.alloc (.cells #[.int .i64 0] 3)).heap.size=gh.heap.size+1:=fD _ _;have mF:∀y∈af iK,y∈af ba\/y=gh.heap.size+1:=λy hy=>by rw[<-Ja];exact mJ.at_ y hy
     have jF:∀y∈af iK,y∈af ba\/gh.heap.size<=y:=λy hy=>by
      rcases mF y hy with h|h
      ·exact .inl h
      ·exact .inr (by omega)
     have wZ:gh.heap.size<=jn.heap.size:=ck (show gh.heap.size<=(gh.drew.alloc (.cells #[.int .i64 0] 3)).heap.size by rw[Ja];omega) mJ.fr.size;have jE:∀y∈af nH,y∈af da\/gh.heap.size<=y:=λy hy=>by
      rcases kF.at_ y hy with h|h
      ·exact .inl h
      ·exact .inr (by omega)
     have cQ:∀y∈af iK,y∉af da:=λy hy hd=>by
      rcases mF y hy with h|h
      ·exact (nD.nb y h).2.2 hd
      ·have h1:=nD.lt.2.2.1 y hd;omega
     have iO:=dr mJ.own kF.fr (λy hy=>by
      have h3:y∈af iK:=by rw[<-dD iK (ol+fl) lK,hy];simp
      exact cQ y h3)
     have iN:=kF.own;clear cI uS mJ kF cQ mH mG fA wZ mF Ja;rw[HS.o0]at f15;have cR:=nD.fin f15 fs 0 iK lK (by rw[gF,<-kY.out.2.2.2.1,<-H.out.2.2.2.1];exact iO) jF nH pP (by rw[H.out.2.2.2.2.2.2.2.2.1,<-H.out.2.1,show ints (bY++[0])=ints bY++[.int .i64 0] by simp[ints]];exact iN) jE;rw[<-H.out.2.2.2.1,<-kY.out.2.2.2.1,H.out.2.2.2.2.2.2.2.2.1,<-H.out.2.1]at cR;have jU:=f15.af nD.hW (by rw[<-HS.o0];exact HS.o1);have e0:=cell_of jU 0;have z0:=aW jU 0;have nG:=bI (o:=0) jU (.slice iK (ol+fl) lK);have e3:=cell_of nG 3;have e4:=cell_of nG 0;have z3:=aW nG 3;simp only[bF,aT,bP,nR,nP]at e0 e3 e4;rw[<-H.out.2.2.2.1]at e0;rw[H.out.2.2.2.2.2.2.2.2.1,<-H.out.2.1]at e3;have HE:=ah cR;clear f15 iO iN jF jE nG jU cR nD;go_wp2;refine bodyPost_end (results_none rfl _ _ _) rfl ⟨rfl,fs,0,iK,lK,a8,c8,nH,pP,(by rw[<-H.out.2.2.2.1];exact kY.out.2.2.1),(by rw[<-kY.out.2.2.2.1];exact Jz),?_⟩;rw[<-H.out.2.2.2.1];exact HE.out
   | some p=>
    obtain⟨jj,d⟩:=p;obtain⟨YY,b,pj,JL,ux,sC,zy,qK,Cb⟩:=HL.out.2.2.2.1 jj d rfl;obtain⟨QA,dga,Qy,Va,sJ⟩:=J1;obtain⟨aj,AH⟩:∃aj,bq[jj]?=some aj:=⟨bq[jj]'(by have:=H.out.2.1;omega),br _⟩;have Zx:aj<ol:=by have:=H.out.2.2.2.2.2.2.2.2.2.1 aj (gB AH);rw[H.out.2.2.2.1];exact this
    obtain⟨nb,zD⟩:=ai (ol-aj);obtain⟨N1,zQ⟩:=ai (i+1);obtain⟨dl,hU⟩:=ai d.length;have e2:=cell_of oy.hW 2;simp only[bF,aT,bP]at e2;rw[aA,<-H.out.2.1,yd,<-zQ]at e2;obtain⟨ag,ao,rfl,Ce⟩:=(y9 oy.oa).at (by rw[NL];simp);have ki:=Ce i (.int .i64 ol) (by unfold ints;rw[iM,ye (by rw[H.out.2.1];exact ay _),H.out.2.1,DS];rfl);have kj:=Ce jj (.int .i64 aj) (by unfold ints;rw[iM,rO (by have:=H.out.2.1;omega),AH];rfl);obtain⟨dg,do_,rfl,AF⟩:=(y9 oy.od).at (by rw[NL];have:=(jq.1 sC).1;omega);have kp:=AF jj (.int .i64 pj) (by unfold ints;rw[iM,sC];rfl);have f0:=cell_of QA 0;have g0:=cell_of Qy 0;simp only[bF,aT]at f0 g0;rw[<-hU]at g0;have hdb:dl<=65536:=by have:=H.out.2.2.2.2.2.2.2.1;rw[hU];simp only at Cb;omega
    have hjN:jj<N1:=by omega
    have hiN:i<N1:=by omega
    have zbP:(ol:Int)-(aj:Int)=(nb:Int):=by omega
    have zbO:nb<=1000000000:=by omega
    have HD:=pX JL ux sC zy qK Cb Va sJ AH zD hU;clear oy JL ux sC qK Cb QA Qy Va sJ AH Zx zD zQ hU Ce AF;have yp:∀w:World,(Instr.typeAssert (.iface 123 (.int .i64 jj)) 98 123 true).run Tryz.prog w = .ok (.tuple #[.int .i64 jj,.bool true]) w:=λ_=>by kernel_rfl
    go_upto_region 25 with fail;clear yp f0;have fd:=Fr.av [] gh;have HX:=aw g0 e3 kp;clear e0 e3 kp;have g0:=fd.cell g0 (by simp);have e2:=fd.cell e2 (by simp);have ki:=fd.cell ki (by simp);have kj:=fd.cell kj (by simp);clear fd;refine j4 21 [(false,0),(false,1),(false,3),(false,4),(false,5),(false,6),(false,7),(false,8),(false,9),(false,10),(false,11),(false,12),(false,13),(false,14),(false,15),(false,16),(false,17),(true,2),(true,18),(true,19),(false,20)] [] (by kernel_rfl) (by kernel_rfl) (λ_ _ d _ _ h=>by cases d<;>exact h) ?_;simp only[jm];refine dT 17 rfl ?_;simp only[bD];repeat (go_big_quiet_step (fail))
    refine wpQuiet_nil ?_;clear g0 e2 ki kj;refine eT rfl ?_;intro X' eI;go_wp2_with (go_at_call 10;refine (Ik 6 dl _ (by decide) (by omega)).mono ?_;rintro e jn ⟨iK,rfl,RE,Gd,f13⟩);refine eI.out _ _ f13 ?_;clear eI X';refine eT rfl ?_;intro X' eI;go_wp2_with (go_at_call 9;refine (qv5 nb _ (by omega)).mono ?_;rintro e xV ⟨a14,rfl,KJ,wT,f14⟩);refine eI.out _ _ f14 ?_;clear eI X';obtain⟨h6,TU⟩:=ai (hd 6 dl);obtain⟨bb,lI⟩:=ai ((bk nb).reverse);have h6l:h6.length<=5:=by rw[TU];exact RH (by omega)
    have bbl:bb.length<=10:=by rw[lI,um];have:=Vn (k:=9) (f:=nb) (m:=nb/128) (by omega);unfold bk;rw[bU];omega
    rw[<-TU]at RE ⊢;rw[<-lI]at KJ;rw[show (bk nb).length=bb.length by rw[lI,um]];have lK:=(RE.fr f14).cs;have Gd:=RE.nil;refine eT rfl ?_;intro X' eI;refine XA aq _ _ rfl iK h6.length h6.length (h6.map bv) rfl lK (by simp) (ay _) Gd a14 bb.length bb.length (bb.map bv) rfl KJ.cs (by simp) (by have:0<bb.length:=(by rw[lI,um];unfold bk;simp);omega) (by omega) (by unfold maxLen;omega) ?_;intro pP nL kF;refine eI.out _ _ kF.fr ?_;clear eI X' lK Gd;simp only[Act.put,nR,oD,nP];refine dT 1 rfl ?_;simp only[bD];repeat (go_big_quiet_step (fail))
    refine wpQuiet_nil ?_;refine ic ?_;have f15:Fr [] gh nL:=(((Fr.av [] gh).trans f13).trans f14).trans kF.fr;have YP:=kF.max;have g15:=f15.cell HX.o0 (by simp);have e3:=f15.cell HX.o1 (by simp);have kp:=f15.cell HX.l2 (by simp);obtain⟨D,ZT⟩:=ai xV.heap.size;rw[<-ZT]at kF ⊢;have hDw:gh.heap.size<=D:=by rw[ZT];exact (((Fr.av [] gh).trans f13).trans f14).size
    have hz:=trip.qxp dga dl d 2 nL (by rw[HD.out.2.2.2.2.2.2.2.2.2.2];exact HD.out.2.2.2.2.2.2.1.fr f15) (by rw[<-HD.out.2.2.2.2.2.2.2.2.2.2];omega) (λy hy=>eW (HD.out.2.2.2.2.2.2.2.1 y hy).2.1 f15.size);rw[<-HD.out.2.2.2.2.2.2.2.2.2.2]at hz;have yX:=cJ kF.own f15 hDw hz TU lI;clear kF f15 hDw hz ZT TU lI RE KJ wT f13 f14;go_upto_region 32 with (first
     | (go_at_call 67;refine yX.o3.mono ?_;rintro e ug ⟨r2,wh,a16,rfl,r16,wS,f16⟩;have AP:=aw r16 f16 wh;have mv:(defl.aE 2 r2 d).length<=400000:=(by have h1:=wh.1;rw[<-HD.out.2.2.2.2.2.2.2.2.2.2]at h1;have h2:(defl.aE 2 r2 d).length=r2.length+6:=(by unfold defl.aE;simp[sums.wJ]);omega);clear r16 wS f16 wh)
     | (at_builtin;refine gM aq rfl _ _ rfl (.slice (some ⟨D,0,none⟩) (h6.length+bb.length) pP) (h6.length+bb.length) (h6.map bv++bb.map bv) [D] rfl rfl (dr yX.o0 AP.o1 (by simp)) a16 (defl.aE 2 r2 d).length (defl.aE 2 r2 d).length ((defl.aE 2 r2 d).map bv) rfl (ay _) AP.o0.nil AP.o0.cs (by simp) (j3 _) (by omega) (by unfold maxLen;omega) ?_;intro a17 c17 KH MG;have H18:=ah MG;clear MG))
    clear e3 kp g15;have MG:=H18.out;have f17:Fr [] gh KH:=(yX.o1.trans AP.o1).step MG.fr (λy hy=>by simp at hy;right;rw[hy];exact yX.o2);have LC:=MG.own;rw[<-gF,<-gF]at LC;have N6:=dr kY.out.2.1 f17 (by simp);obtain⟨nn,qI⟩:=ai (h6.length+bb.length+(defl.aE 2 r2 d).length);rw[<-qI]at LC ⊢;have rG:nn=(h6++bb++defl.aE 2 r2 d).length:=by rw[qI];simp;omega
    have YF:nn<=500000:=by omega
    have qR:EF (aK.map (·.1)) bq bY ol (h6++bb++defl.aE 2 r2 d) (pj+1):=by obtain⟨JL,ux,sC,zy,qK,Cb,Va,sJ,AH,zD,hU⟩:=HD.out;exact⟨⟨(kn:Nat),bs,id,at_,crc⟩,by rw[<-H.out.2.1,iM,H.out.2.2.2.2.1];rfl,.inr ⟨jj,b,aj,pj,d,r2,by rw[<-H.out.2.1];exact YY,JL,ux,AH,sC,zy,rfl,qK,Cb,AP.l2,by rw[yX.o4,yX.l5,hU,zD]⟩⟩
    have MF:=aQ f17 LC N6 rG qR;clear MG f17 LC N6 rG qI qR;go_upto_if 192 with fail;go_cut [15,16] from 193 to 193 (λs15 s16 wz=>∃(ea:OA) (el ec dn:Nat) (E:LB),s15 = .slice ea el ec/\s16 = .int .i64 (dn:Nat)/\el<=500000/\el=E.length/\EF (aK.map (·.1)) bq bY ol E dn/\Fr [] gh wz/\lib.Rd wz ea ec E)
    case first=>
     by_cases B7:fl<=nn
     ·have g1:decide ((fl:Int)<=(nn:Int))=true:=by simp;omega
      have g2:decide (fl<=nn)=true:=by simpa using B7
      go_wp2;go_meet;exact⟨some ⟨B,0,none⟩,fl,Mz,0,fs,rfl,rfl,Jz,kY.out.2.2.2.1,kY.out.2.2.1,MF.o0,(wK MF.o2).1⟩
     ·have g1:decide ((fl:Int)<=(nn:Int))=false:=by simp;omega
      have g2:decide (fl<=nn)=false:=by simpa using B7
      go_wp2;go_meet;exact⟨a17,nn,c17,pj+1,h6++bb++defl.aE 2 r2 d,rfl,by go_num,YF,MF.o3,MF.l4,MF.o0,(wK MF.o1).1⟩
    case rest=>
     obtain⟨ea,el,ec,dn,E,rfl,rfl,P0,JA,qR,f17,rE⟩:=hcut;have OY:el<=ec:=by rw[JA];exact rE.le
     have jS:=rE.nil;have DI:=kY.out.2.2.2.2.1.dQ f17;have e0:=cell_of DI.hW 0;have e3:=cell_of DI.hW 3;simp only[bF,aT,bP]at e0 e3;rw[<-H.out.2.2.2.1]at e0;rw[H.out.2.2.2.2.2.2.2.2.1,<-H.out.2.1]at e3;have HC:=aG JA qR DI rE;clear JA qR f17 rE;go_upto_region 34 with fail;obtain⟨da,sJ⟩:∃da:Option Addr,da=some ⟨dg,do_,none⟩:=⟨_,rfl⟩;rw[<-sJ]at e3 DI HC H ⊢;obtain⟨a8,JT⟩:∃a8:Option Addr,a8=some ⟨ag,ao,none⟩:=⟨_,rfl⟩;rw[<-JT]at DI HC ⊢;obtain⟨S,hS⟩:=ai (af ba++af da);have py:W∉S:=by
      rw[hS];intro hy;rcases jw.1 hy with h1|h1
      ·have:=(DI.nb W h1).1;omega
      ·have:=(DI.nd W h1).1;omega
     have fd:=Fr.av [] wc;have wP:=dr DI.ob fd (by simp);have qu:=dr DI.od fd (by simp);rw[<-H.out.2.2.2.1]at wP;rw[H.out.2.2.2.2.2.2.2.2.1,<-H.out.2.1]at qu;have rF:=HC.l3.fr fd;have q0:∀x,(sup S wc.drew x).cell? ⟨W,0,none⟩=some (.slice ba ol bc):=λx=>(dY S wc.drew x).cell (fd.cell e0 (by simp)) py
     have q3:∀x,(sup S wc.drew x).cell? ⟨W,3,none⟩=some (.slice da i dc):=λx=>(dY S wc.drew x).cell (fd.cell e3 (by simp)) py
     have HS:=aQ hS py wP qu rF;clear hS py wP qu rF e0 e3 fd DI sJ JT;refine qm8 15 1 (.pointer (some ⟨W,0,none⟩)) (.one false 0 (.one false 2 (.one false 3 (.one false 4 (.one false 5 (.one false 6 (.one false 8 (.one false 9 (.one false 10 (.one false 11 (.one false 12 (.two 7 (.one true 13 (.one true 14 .done)) 13 (.one true 7 (.one true 14 .done)))))))))))))) S (by kernel_rfl) (by kernel_rfl) (λ_ _ d _ _ h=>by cases d<;>exact h) (.inl ⟨by rfl,λ_=>by rfl⟩) ?_;simp only[OT.map,Bq,Bp,wO,yf,Tc,Act.put,nR,oD,nP];refine qvi 11 ?_;simp only[OT.qg,OT.behind];repeat (go_big_quiet_step (fail))
     refine wpQuiet_nil ?_;clear q0 q3;refine qvh rfl rfl ?_ ?_
     ·intro X' eI;refine uj aq _ _ rfl (.slice ba ol bc) ol (out.map bv) (af ba) rfl (dD ba ol bc) HS.o2 ea el ec (E.map bv) rfl OY jS HS.l4.cs (by rw[bW,<-HC.o0,pI]) (j3 _) (by omega) (by unfold maxLen;omega) ?_;intro iK lK jn mJ;have mH:Fr S wc.drew jn:=mJ.fr.mono (λy hy=>.inl (by rw[HS.o0];exact F9 _ hy));refine eI.out _ _ mH ?_;clear eI X';simp only[Act.put,nR,oD,nP];refine FJ rfl ?_;intro X' eI;go_wp2;refine eI.out _ _ ((Fr.refl _ jn).alloc _) ?_;clear eI X';have cI:Cs (jn.alloc (.cells #[.int .i64 dn] 3)) (some ⟨jn.heap.size,0,none⟩) [.int .i64 dn]:=nM _ _ _ 3 (bC jn _);have f13:=(Fr.refl [] jn).alloc (.cells #[.int .i64 dn] 3);have nD:=HC.o2;have cT:=dr (dr HS.o3 mJ.fr (λy hy=>by
       have h3:y∈af da:=by rw[<-dD da i dc,hy];simp
       exact (nD.nd y h3).2.1)) f13 (by simp)
      refine FJ rfl ?_;intro X' eI;refine uj pG _ _ rfl (.slice da i dc) i (ints bY) (af da) rfl (dD da i dc) cT (some ⟨_,0,none⟩) 1 1 [.int .i64 dn] rfl (by decide) (by simp) cI rfl (by simp[Value.oneCell']) (by omega) (by unfold maxLen;omega) ?_;intro nH pP nL kF;have mG:Fr S (jn.alloc (.cells #[.int .i64 dn] 3)) nL:=kF.fr.mono (λy hy=>.inl (by rw[HS.o0];exact Lo _ hy));refine eI.out _ _ mG ?_;clear eI X';simp only[Act.put,nR,oD,nP];refine SA ?_;have f15:Fr S wc nL:=((((Fr.av [] wc).mono (by simp)).trans mH).trans (f13.mono (by simp))).trans mG;have jF:∀y∈af iK,y∈af ba\/wc.heap.size<=y:=λy hy=>by
       rcases mJ.at_ y hy with h|h
       ·exact .inl h
       ·exact .inr (by rw[h];exact ay _)
      have wZ:wc.heap.size<=jn.heap.size:=mJ.fr.size;have jE:∀y∈af nH,y∈af da\/wc.heap.size<=y:=λy hy=>by
       rcases kF.at_ y hy with h|h
       ·exact .inl h
       ·exact .inr (by rw[h,fD];omega)
      have cQ:∀y∈af iK,y∉af da:=λy hy hd=>by
       rcases mJ.at_ y hy with h|h
       ·exact (nD.nb y h).2.2 hd
       ·have h1:=nD.lt.2.2.1 y hd;have h2:wc.drew.heap.size=wc.heap.size:=rfl;omega
      have iO:=dr (dr mJ.own f13 (by simp)) kF.fr (λy hy=>by
       have h3:y∈af iK:=by rw[<-dD iK (ol+el) lK,hy];simp
       exact cQ y h3)
      have iN:=kF.own;clear cI cT mJ kF cQ mH mG f13 wZ;rw[HS.o0]at f15;have cR:=nD.fin f15 E dn iK lK (by rw[gF,<-HC.o0,<-H.out.2.2.2.1];exact iO) jF nH pP (by rw[H.out.2.2.2.2.2.2.2.2.1,<-H.out.2.1,show ints (bY++[dn])=ints bY++[.int .i64 dn] by simp[ints]];exact iN) jE;rw[<-H.out.2.2.2.1,<-HC.o0,H.out.2.2.2.2.2.2.2.2.1,<-H.out.2.1]at cR;have jU:=f15.af nD.hW (by rw[<-HS.o0];exact HS.o1);have e0:=cell_of jU 0;have z0:=aW jU 0;have nG:=bI (o:=0) jU (.slice iK (ol+el) lK);have e3:=cell_of nG 3;have e4:=cell_of nG 0;have z3:=aW nG 3;simp only[bF,aT,bP,nR,nP]at e0 e3 e4;rw[<-H.out.2.2.2.1]at e0;rw[H.out.2.2.2.2.2.2.2.2.1,<-H.out.2.1]at e3;have HE:=ah cR;clear f15 iO iN jF jE nG jU cR nD;go_wp2;refine bodyPost_end (results_none rfl _ _ _) rfl ⟨rfl,E,dn,iK,lK,a8,c8,nH,pP,(by rw[<-H.out.2.2.2.1];exact HC.o1),(by rw[<-HC.o0];exact P0),?_⟩;rw[<-H.out.2.2.2.1];exact HE.out
     ·intro X' eI;go_wp2;refine eI.out _ _ ((Fr.refl _ wc.drew).alloc _) ?_;clear eI X';have fA:=(Fr.refl [] wc.drew).alloc (.cells #[.int .i64 dn] 3);have Q6:Cs (wc.drew.alloc (.cells #[.int .i64 dn] 3)) (some ⟨wc.drew.heap.size,0,none⟩) [.int .i64 dn]:=nM _ _ _ 3 (bC wc.drew _);have cT:=dr HS.o2 fA (by simp);have QX:=HS.l4.cs.fr fA (by simp);have nD:=HC.o2;have nS:∀y∈af (some ⟨wc.drew.heap.size,0,none⟩),y∉af ba:=λy hy hS=>by have h1:=nD.lt.1 y hS;simp[af]at hy;have h2:wc.drew.heap.size=wc.heap.size:=rfl;omega
      refine FJ rfl ?_;intro X' eI;refine uj aq _ _ rfl (.slice ba ol bc) ol (out.map bv) (af ba) rfl (dD ba ol bc) cT ea el ec (E.map bv) rfl OY jS QX (by rw[bW,<-HC.o0,pI]) (j3 _) (by omega) (by unfold maxLen;omega) ?_;intro iK lK jn mJ;have mH:Fr S (wc.drew.alloc (.cells #[.int .i64 dn] 3)) jn:=mJ.fr.mono (λy hy=>.inl (by rw[HS.o0];exact F9 _ hy));refine eI.out _ _ mH ?_;clear eI X';simp only[Act.put,nR,oD,nP];have cI:=Q6.fr mJ.fr nS;have uS:=dr (dr HS.o3 fA (by simp)) mJ.fr (λy hy=>by
       have h3:y∈af da:=by rw[<-dD da i dc,hy];simp
       exact (nD.nd y h3).2.1)
      clear Q6 cT QX nS;refine FJ rfl ?_;intro X' eI;refine uj pG _ _ rfl (.slice da i dc) i (ints bY) (af da) rfl (dD da i dc) uS (some ⟨_,0,none⟩) 1 1 [.int .i64 dn] rfl (by decide) (by simp) cI rfl (by simp[Value.oneCell']) (by omega) (by unfold maxLen;omega) ?_;intro nH pP nL kF;have mG:Fr S jn nL:=kF.fr.mono (λy hy=>.inl (by rw[HS.o0];exact Lo _ hy));refine eI.out _ _ mG ?_;clear eI X';simp only[Act.put,nR,oD,nP];refine SA ?_;have f15:Fr S wc nL:=((((Fr.av [] wc).trans fA).mono (by simp)).trans mH).trans mG;have Ja:(wc.drew.alloc (.cells #[.int .i64 dn] 3)).heap.size=wc.heap.size+1:=fD _ _;have mF:∀y∈af iK,y∈af ba\/y=wc.heap.size+1:=λy hy=>by rw[<-Ja];exact mJ.at_ y hy
      have jF:∀y∈af iK,y∈af ba\/wc.heap.size<=y:=λy hy=>by
       rcases mF y hy with h|h
       ·exact .inl h
       ·exact .inr (by omega)
      have wZ:wc.heap.size<=jn.heap.size:=ck (show wc.heap.size<=(wc.drew.alloc (.cells #[.int .i64 dn] 3)).heap.size by rw[Ja];omega) mJ.fr.size;have jE:∀y∈af nH,y∈af da\/wc.heap.size<=y:=λy hy=>by
       rcases kF.at_ y hy with h|h
       ·exact .inl h
       ·exact .inr (by omega)
      have cQ:∀y∈af iK,y∉af da:=λy hy hd=>by
       rcases mF y hy with h|h
       ·exact (nD.nb y h).2.2 hd
       ·have h1:=nD.lt.2.2.1 y hd;omega
      have iO:=dr mJ.own kF.fr (λy hy=>by
       have h3:y∈af iK:=by rw[<-dD iK (ol+el) lK,hy];simp
       exact cQ y h3)
      have iN:=kF.own;clear cI uS mJ kF cQ mH mG fA wZ mF Ja;rw[HS.o0]at f15;have cR:=nD.fin f15 E dn iK lK (by rw[gF,<-HC.o0,<-H.out.2.2.2.1];exact iO) jF nH pP (by rw[H.out.2.2.2.2.2.2.2.2.1,<-H.out.2.1,show ints (bY++[dn])=ints bY++[.int .i64 dn] by simp[ints]];exact iN) jE;rw[<-H.out.2.2.2.1,<-HC.o0,H.out.2.2.2.2.2.2.2.2.1,<-H.out.2.1]at cR;have jU:=f15.af nD.hW (by rw[<-HS.o0];exact HS.o1);have e0:=cell_of jU 0;have z0:=aW jU 0;have nG:=bI (o:=0) jU (.slice iK (ol+el) lK);have e3:=cell_of nG 3;have e4:=cell_of nG 0;have z3:=aW nG 3;simp only[bF,aT,bP,nR,nP]at e0 e3 e4;rw[<-H.out.2.2.2.1]at e0;rw[H.out.2.2.2.2.2.2.2.2.1,<-H.out.2.1]at e3;have HE:=ah cR;clear f15 iO iN jF jE nG jU cR nD;go_wp2;refine bodyPost_end (results_none rfl _ _ _) rfl ⟨rfl,E,dn,iK,lK,a8,c8,nH,pP,(by rw[<-H.out.2.2.2.1];exact HC.o1),(by rw[<-HC.o0];exact P0),?_⟩;rw[<-H.out.2.2.2.1];exact HE.out
end os
namespace os
open Go lib pk
theorem qu3 (B ext:LB) (h0:0<B.length) (hm:∀i,i<B.length->(128<=(B[i]?.getD 0).toNat↔i+1<B.length)):∀(f i v:Nat),i<B.length->B.length<=i+f->v=Ac B i->Br (B++ext) f i v = .ok (Ac B B.length,B.length)
 | 0,i,v,hi,hf,_=>by omega
 | f+1,i,v,hi,hf,hv=>by
  have hb:(B++ext)[i]?=some (B[i]):=by rw[rO hi,br hi]
  have hg:B[i]?.getD 0=B[i]:=by rw[br hi];rfl
  have hs:Ac B (i+1)=(if 0<i then (v+1)*128 else 0)+B[i].toNat%128:=by
   rw[Ac,hg,hv];by_cases h:i=0
   ·rw[if_pos h,if_neg (by omega)]
   ·rw[if_neg h,if_pos (by omega)]
  have zE:=hm i hi;rw[hg]at zE;rw[Br,hb];simp only;by_cases hc:B[i].toNat<128
  ·have he:i+1=B.length:=by have:=mt zE.2 (by omega);omega
   rw[if_pos hc,<-hs,he]
  ·rw[if_neg hc,<-hs];exact qu3 B ext h0 hm f (i+1) _ (zE.1 (by omega)) (by omega) rfl
theorem zcz (n:Nat) (hn:n<=1073741824) (ext:LB):sA ((bk n).reverse++ext) = .ok (n,(bk n).length):=by
 have hp:0<(bk n).length:=by unfold bk;simp
 have h:=qu3 (bk n).reverse ext (by simpa using hp) (λi hi=>by rw[um]at hi ⊢;exact zhg n hi) 5 0 0 (by simpa using hp) (by rw[um];have:=zff hn;omega) rfl;rw[um,ziw]at h;exact h
theorem qwp {pre ext d r:LB} {v:Nat} (hv:1<=v) (hvp:v<=pre.length) (wg:v<=1073741824) (hn:d.length<=65536) (hr:trip.RQ d r) :
  ig (pre++(hd 6 d.length++(bk v).reverse++defl.aE 2 r d)++ext) pre.length = .ok (⟨6,pre.length,d.length,crc.crc (hd 6 d.length++(bk v).reverse++defl.aE 2 r d),d,[],pre.length-v⟩,pre.length+(hd 6 d.length++(bk v).reverse++defl.aE 2 r d).length):=by
 have hp:(hd 6 d.length++(bk v).reverse++defl.aE 2 r d++ext)=hd 6 d.length++((bk v).reverse++(defl.aE 2 r d++ext)):=by simp only[eE]
 have hb:(pre++(hd 6 d.length++(bk v).reverse++defl.aE 2 r d)++ext).drop (pre.length+(hd 6 d.length).length)=(bk v).reverse++(defl.aE 2 r d++ext):=by rw[<-C5,Sc,hp,KE]
 have hq:(pre++(hd 6 d.length++(bk v).reverse++defl.aE 2 r d)++ext).drop (pre.length+(hd 6 d.length).length+(bk v).length)=defl.aE 2 r d++ext:=by rw[<-C5,hb,List.drop_left' (by rw[um])]
 unfold ig;rw[Sc,hp,qu1 (by omega) (by omega) (by omega) hn];simp only;unfold gj;rw[if_pos rfl,hb,zcz v wg];simp only;rw[if_neg (by omega)];simp only;rw[hq,trip.qqt hr ext 65536 hn];simp only[if_true];rw[<-hp,List.take_left' (by simp only[aA,um];omega)];simp only[aA,um,gW,fj,true_and];omega
inductive Pk (os:List pk.Obj) (o0:LB):List UInt8->List Nat->List Nat->Prop
 | nil:Pk os o0 o0 [] []
 | step {out:LB} {bq bY:LN} {E:LB} {dp:Nat}:Pk os o0 out bq bY->EF os bq bY out.length E dp->Pk os o0 (out++E) (bq++[out.length]) (bY++[dp])
def nK (os:List pk.Obj) (bq bY:LN) (i:Nat) (x:ek):Prop:=
 ∃o dp,os[i]?=some o/\bY[i]?=some dp/\bq[i]?=some x.at_/\((x.kind=o.kind.toNat/\x.data=o.body/\dp=0)\/
  (x.kind=6/\∃j b p,j<i/\os[j]?=some b/\b.kind=o.kind/\bq[j]?=some x.off/\bY[j]?=some p/\p<20/\dp=p+1/\delta.Made b.body o.body x.data))
theorem nK.more {os:List pk.Obj} {bq bY:LN} {i:Nat} {x:ek} (h:nK os bq bY i x) (a p:Nat):nK os (bq++[a]) (bY++[p]) i x:=by
 obtain⟨o,dp,h1,h2,h3,h4⟩:=h;refine⟨o,dp,h1,?_,?_,?_⟩
 ·rw[rO (jq.1 h2).1];exact h2
 ·rw[rO (jq.1 h3).1];exact h3
 ·rcases h4 with h4|⟨k,j,b,q,h5,h6,h7,h8,h9,zU⟩
  ·exact .inl h4
  ·refine .inr ⟨k,j,b,q,h5,h6,h7,?_,?_,zU⟩
   ·rw[rO (jq.1 h8).1];exact h8
   ·rw[rO (jq.1 h9).1];exact h9
def ub (os:List pk.Obj):Prop:=∀o∈os,1<=o.kind.toNat/\o.kind.toNat<=4/\o.body.length<=65536
theorem zgi {os:List pk.Obj} {o0 out:LB} {bq bY:LN} (h:Pk os o0 out bq bY) (zT:o0.length=12) :
  bq.length=bY.length/\12<=out.length/\(∀a∈bq,a<out.length):=by
 induction h with
 | nil=>exact⟨rfl,by omega,by simp⟩
 | @step out bq bY E dp hp hE ih=>
  obtain⟨i1,i2,i3⟩:=ih;obtain⟨o,ho,hE⟩:=hE;have Ur:0<E.length:=by
   rcases hE with⟨r,_,rfl,_⟩|⟨j,b,a,p,d,r,_,_,_,_,_,_,_,_,_,_,rfl⟩
   ·unfold defl.aE;simp only[aA,bU];omega
   ·unfold defl.aE;simp only[aA,bU];omega
  refine⟨by simp[i1],by rw[aA];omega,λa ha=>?_⟩;rw[aA];rcases jw.1 ha with h1|h1
  ·have:=i3 a h1;omega
  ·simp only[iH]at h1;omega
theorem qyu {os:List pk.Obj} {o0 out:LB} {bq bY:LN} (jb:ub os) (h:Pk os o0 out bq bY) (zT:o0.length=12) (cC:out.length<=1073741824) :
  bq.length=bY.length/\12<=out.length/\(∀a∈bq,a<out.length)/\(bq.Pairwise (· < ·))/\
  ∀ext:List UInt8,∃l:List ek,l.length=bq.length/\(∀i x,l[i]?=some x->nK os bq bY i x)/\∀m,jx (out++ext) (bq.length+m) 12 []=jx (out++ext) m out.length l:=by
 induction h with
 | nil=>exact⟨rfl,by omega,by simp,.nil,λext=>⟨[],rfl,by simp,λm=>by simp[zT]⟩⟩
 | @step out bq bY E dp hp hE ih=>
  rw[aA]at cC;obtain⟨i1,i2,i3,i4,i5⟩:=ih (by omega);obtain⟨o,ho,hE⟩:=hE;have Pc:=jb o (gB ho);have Ur:0<E.length:=by
   rcases hE with⟨r,_,rfl,_⟩|⟨j,b,a,p,d,r,_,_,_,_,_,_,_,_,_,_,rfl⟩
   ·unfold defl.aE;simp only[aA,bU];omega
   ·unfold defl.aE;simp only[aA,bU];omega
  refine⟨by simp[i1],by rw[aA];omega,λa ha=>?_,?_,λext=>?_⟩
  ·rw[aA];rcases jw.1 ha with h1|h1
   ·have:=i3 a h1;omega
   ·simp only[iH]at h1;omega
  ·rw[Ea];refine⟨i4,by simp,λa ha b hb=>?_⟩;simp only[iH]at hb;rw[hb];exact i3 a ha
  ·obtain⟨l,l1,l2,l3⟩:=i5 (E++ext);have key:∃x:ek,ig (out++E++ext) out.length = .ok (x,(out++E).length)/\nK os (bq++[out.length]) (bY++[dp]) bq.length x:=by
    have ha:(bq++[out.length])[bq.length]?=some out.length:=by rw[ye (ay _),DS];rfl
    have tK:(bY++[dp])[bq.length]?=some dp:=by rw[i1,ye (ay _),DS];rfl
    rcases hE with⟨r,hr,rfl,rfl⟩|⟨j,b,a,p,d,r,hj,hb,ux,AH,sC,zy,rfl,hm,hU,hr,rfl⟩
    ·exact⟨_,by rw[aA];exact qti Pc.1 Pc.2.1 Pc.2.2 hr,o,0,ho,tK,ha,.inl ⟨rfl,rfl,rfl⟩⟩
    ·have h1:=i3 a (gB AH);refine⟨_,by rw[aA];exact qwp (by omega) (by omega) (by omega) (by omega) hr,o,p+1,ho,tK,ha,.inr ⟨rfl,j,b,p,hj,hb,ux,?_,?_,zy,rfl,hm⟩⟩
     ·rw[rO (jq.1 AH).1,AH,show out.length-(out.length-a)=a by omega]
     ·rw[rO (jq.1 sC).1,sC]
   obtain⟨x,hx,hxe⟩:=key;refine⟨l++[x],by simp[l1],λi y hy=>?_,λm=>?_⟩
   ·by_cases hi:i<l.length
    ·rw[rO hi]at hy;exact (l2 i y hy).more _ _
    ·have Md:i=l.length:=by have:=(jq.1 hy).1;simp at this;omega
     rw[Md,ye (ay _),DS]at hy;simp only[aT,eJ]at hy;rw[<-hy,Md,l1];exact hxe
   ·have h1:=l3 (m+1);rw[<-eE]at h1;rw[aA,yd,show bq.length+1+m=bq.length+(m+1) by omega,h1,jx,hx]
end os

end Go.Proofs.YtkmpfgpfbmeihaaGreatDoor