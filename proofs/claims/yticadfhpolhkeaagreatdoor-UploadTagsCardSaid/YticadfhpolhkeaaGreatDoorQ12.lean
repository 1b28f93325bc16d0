/-
  Texts of this proof, one behind the other: InfA, HuffW, HuffX, InfB, InfC, InfD, InfJ.
-/
import Derived.Test.YticadfhpolhkeaaGreatDoorQ5
set_option maxHeartbeats 16000000
set_option maxRecDepth 100000
set_option linter.unusedVariables false
set_option linter.unusedSimpArgs false
namespace Go.Proofs.YticadfhpolhkeaaGreatDoor
namespace inf
open Go Go.RowKit lib bm bl huf
variable {w w' w1:World} {R at_ most oc p:Nat} {jX oa:OA} {F:LN} {bs out:LB}
structure St (w:World) (R p:Nat) (F:LN) (bs:LB) (at_:Nat) (out:LB) (oa:OA) (oc most:Nat):Prop where
 box:w.heap[R]?=some (.cells #[.pointer (some ⟨p,0,none⟩),.slice oa out.length oc,.int .i64 most] 516 (0,0))
 rd:bits.Rd w p F bs at_
 own:w.ownsRow 0 5 1 (.slice oa out.length oc) out.length (out.map bv)
 r1:R∉F
 r2:R∉ag oa
 r3:∀x∈ag oa,x∉F
 low:∀x∈F,x<w.heap.size
 sm:most<=100000000
 sb:bs.length<=100000000
 om:out.length<=most
structure Way (w:World) (R p:Nat) (oa:OA) (w':World) (kc:OA):Prop where
 fr:Fr (R::p::ag oa) w w'
 new:∀x∈ag kc,x∈ag oa\/w.heap.size<=x
theorem Way.refl (w:World) (R p:Nat) (oa:OA):Way w R p oa w oa:=⟨.refl _ w,λ_ h=>.inl h⟩
theorem Way.trans {w2:World} {Az:OA} (h:Way w R p oa w1 jX) (k:Way w1 R p jX w2 Az):Way w R p oa w2 Az:=
 ⟨h.fr.step k.fr λx hx=>by
  simp only[eX]at hx ⊢
  rcases hx with rfl|rfl|hx
  ·exact .inl (.inl rfl)
  ·exact .inl (.inr (.inl rfl))
  ·rcases h.new x hx with h1|h1
   ·exact .inl (.inr (.inr h1))
   ·exact .inr h1,λx hx=>by
  rcases k.new x hx with h1|h1
  ·exact h.new x h1
  ·exact .inr (bP h.fr.size h1)⟩
theorem Way.GI {w2:World} (h:Way w R p oa w1 jX) (f:Fr (R::p::ag jX) w1 w2):Fr (R::p::ag oa) w w2:=
 h.fr.step f λx hx=>by
  simp only[eX]at hx ⊢;rcases hx with rfl|rfl|hx
  ·exact .inl (.inl rfl)
  ·exact .inl (.inr (.inl rfl))
  ·rcases h.new x hx with h1|h1
   ·exact .inl (.inr (.inr h1))
   ·exact .inr h1
theorem Way.of (w w':World) (R p:Nat) (oa:OA) (f:Fr [p] w w'):Way w R p oa w' oa:=⟨f.mono (by simp),λ_ h=>.inl h⟩
theorem Way.Lk (w w':World) (R p:Nat) (oa:OA) (f:Fr [] w w'):Way w R p oa w' oa:=⟨f.mono (by simp),λ_ h=>.inl h⟩
theorem Way.old {kc:OA} (h:Way w R p oa w' kc) {x:Nat} (hx:x<w.heap.size) (hn:x∉R::p::ag oa):x∉R::p::ag kc:=by
 simp only[eX,not_or]at hn ⊢;refine⟨hn.1,hn.2.1,λh1=>?_⟩;rcases h.new x h1 with h2|h2
 ·exact hn.2.2 h2
 ·omega
theorem St.fr {S:LN} (h:St w R p F bs at_ out oa oc most) (f:Fr S w w') (hR:R∉S) (hF:∀x∈F,x∉S) (ho:∀x∈ag oa,x∉S):St w' R p F bs at_ out oa oc most:=
 ⟨f.ag h.box hR,bits.EL h.rd f hF,dp h.own f (λk hk=>ho k (by rw[<-cY oa out.length oc,hk];simp)),h.r1,h.r2,h.r3,λx hx=>fM (h.low x hx) f.size,h.sm,h.sb,h.om⟩
theorem St.cG (h:St w R p F bs at_ out oa oc most) (f:Fr [] w w'):St w' R p F bs at_ out oa oc most:=h.fr f (by simp) (by simp) (by simp)
theorem St.pF (h:St w R p F bs at_ out oa oc most):p∈F/\at_<=8*bs.length:=by obtain⟨ao,cap,hr,hcs,rfl,eI,hlen,dc,dI,dE⟩:=h.rd;exact⟨by simp,dc⟩
theorem St.take {a':Nat} (h:St w R p F bs at_ out oa oc most) (f:Fr [p] w w') (hr:bits.Rd w' p F bs a'):St w' R p F bs a' out oa oc most:=by
 have hp:=h.pF.1;refine⟨f.ag h.box (by simp;rintro rfl;exact h.r1 hp),hr,dp h.own f (λk hk=>?_),h.r1,h.r2,h.r3,λx hx=>fM (h.low x hx) f.size,h.sm,h.sb,h.om⟩;have j3:k∈ag oa:=by rw[<-cY oa out.length oc,hk];simp
 simp;rintro rfl;exact h.r3 _ j3 hp
theorem St.put {w2:World} {n:Nat} {fx:Nat} {cM:OA} {c:UInt8} {o:Obj} (h:St w1 R p F bs at_ out oa oc most) (hn:n=out.length) (hl:n<most)
  (A:aN (w1.alloc o) w2 5 1 (ag oa) cM (n+1) fx (out.map bv++[bv c])) :
  St (w2.setCell ⟨R,1,none⟩ (.slice cM (n+1) fx)) R p F bs at_ (out++[c]) cM fx most/\Way w1 R p oa (w2.setCell ⟨R,1,none⟩ (.slice cM (n+1) fx)) cM:=by
 have f2:Fr (ag oa) w1 w2:=((Fr.refl _ w1).alloc _).trans A.fr;have fR:Fr [R] w2 (w2.setCell ⟨R,1,none⟩ (.slice cM (n+1) fx)):=(Fr.refl [R] w2).setCell (by simp) _;have b2:=f2.ag h.box h.r2;have QS:R<w1.heap.size:=lt_of_block h.box;have Jv:R∉ag cM:=λhx=>by
  rcases A.at_ R hx with k|k
  ·exact h.r2 k
  ·rw[ik]at k;omega
 have e:(out++[c]).length=n+1:=by rw[hn];simp
 have Jd:=h.pF.1;refine⟨⟨?_,?_,?_,h.r1,Jv,λx hx hF=>?_,λx hx=>fM (h.low x hx) (bP f2.size fR.size),h.sm,h.sb,by rw[e];omega⟩,⟨?_,λx hx=>?_⟩⟩
 ·rw[df b2,e];rfl
 ·exact bits.EL (bits.EL h.rd f2 (λx hx hb=>h.r3 x hb hx)) fR (λx hx hb=>by simp at hb;rw[hb]at hx;exact h.r1 hx)
 ·rw[e,jd];exact dp A.own fR (λk hk=>by
   have j3:k∈ag cM:=by rw[<-cY cM (n+1) fx,hk];simp
   simp
   rintro rfl
   exact Jv j3)
 ·rcases A.at_ x hx with k|k
  ·exact h.r3 x k hF
  ·rw[ik]at k;have:=h.low x hF;omega
 ·exact (f2.mono (λx hx=>.inl (by simp[hx]))).trans (fR.mono (by simp))
 ·rcases A.at_ x hx with k|k
  ·exact .inl k
  ·rw[ik]at k;exact .inr (by omega)
def Bl (w:World) (R p:Nat) (F:LN) (bs:LB) (oa:OA) (most:Nat) (m:Except Nat (List UInt8×Nat)) (e:Ending) (w':World):Prop:=
 (∃c,m = .error c/\0<c/\c<100/\e = .returned (.int .i64 (c:Nat))/\Fr (R::p::ag oa) w w')\/
 (∃out a kc oM,m = .ok (out,a)/\e = .returned (.int .i64 0)/\St w' R p F bs a out kc oM most/\Way w R p oa w' kc)
def mN (w:World) (R p:Nat) (F:LN) (bs out:LB) (oa:OA) (oc most:Nat) (m:Except Nat (Nat×Nat)) (e:Ending) (w':World):Prop:=
 (∃(v:Int) (c:Nat),m = .error c/\0<c/\c<100/\e = .returned (.tuple #[.int .i64 v,.int .i64 (c:Nat)])/\Fr (R::p::ag oa) w w')\/
 (∃v a,m = .ok (v,a)/\e = .returned (.tuple #[.int .i64 (v:Nat),.int .i64 0])/\St w' R p F bs a out oa oc most/\Fr [p] w w')
theorem Dm (R p:Nat) (F:LN) (bs out:LB) (at_ oc most n:Nat) (oa:OA) (w:World) (h:St w R p F bs at_ out oa oc most) (hn:n<=31) :
  Calls Tryz.prog 367 #[.pointer (some ⟨R,0,none⟩),.int .i64 n] w (mN w R p F bs out oa oc most (aX bs at_ n)):=by
 have c0:=cell_of h.box 0;simp only[dJ,dk,dU]at c0;have H:=af h;clear h;by_cases hl:at_+n<=8*bs.length
 ·have hv:cz (((ak bs).drop at_).take n)<4294967296:=fM (P4 _ _) (bP (lJ (by decide) (show n<=32 by omega)) (by decide));obtain⟨v,vX⟩:=ah (cz (((ak bs).drop at_).take n));have ht:=Xw p F bs at_ n w H.out.rd (by omega) hl;have e:aX bs at_ n = .ok (v,at_+n):=by unfold aX;rw[if_pos hl,vX]
  rw[e];rw[<-vX]at ht hv;have HT:=af ht;clear ht vX e;go_enter Tryz.func367,Tryz.ntmps367;go_wp2_with (go_at_call 378;refine HT.out.mono ?_;rintro e w1 ⟨rfl,hr,f1⟩);go_ret2;exact .inr ⟨v,at_+n,rfl,rfl,H.out.take f1 hr,f1⟩
 ·have ht:=bits.ZF p F bs at_ n w H.out.rd (.inr (.inr (by omega)));have e:aX bs at_ n = .error 4:=by unfold aX;rw[if_neg hl]
  rw[e];have HT:=af ht;clear ht e;go_enter Tryz.func367,Tryz.ntmps367;go_wp2_with (go_at_call 378;refine HT.out.mono ?_;rintro e w1 ⟨rfl,hr,f1⟩);go_ret2;exact .inl ⟨_,4,rfl,by decide,by decide,rfl,f1.mono (by simp)⟩
theorem Ip (R p:Nat) (F:LN) (bs out:LB) (at_ oc most:Nat) (oa:OA) (c:UInt8) (w:World) (h:St w R p F bs at_ out oa oc most) :
  Calls Tryz.prog 386 #[.pointer (some ⟨R,0,none⟩),.int .u8 (c.toNat:Nat)] w (Bl w R p F bs oa most ((iy most out c).map λo=>(o,at_))):=by
 have c1:=cell_of h.box 1;have c2:=cell_of h.box 2;simp only[dJ,dk,dU]at c1 c2;obtain⟨n,hn⟩:=ah out.length;have hs:=h.sm;rw[<-hn]at c1;have H:=ai h hn;clear h;by_cases hl:most<=n
 ·have e:iy most out c = .error 5:=by unfold iy;rw[if_pos (by omega)]
  rw[e];clear e hn;go_enter Tryz.func386,Tryz.ntmps386;go_upto_region 1 with fail;go_quiet (fail);go_wp2;go_ret;exact .inl ⟨5,rfl,by decide,by decide,rfl,.drewN _ _ _⟩
 ·have e:iy most out c = .ok (out++[c]):=by unfold iy;rw[if_neg (by omega)]
  rw[e];clear e hn;go_enter Tryz.func386,Tryz.ntmps386;go_upto_region 1 with fail;go_quiet (fail);obtain⟨w1,aJ⟩:=ah (w.drewN nq);have f1:Fr [] w w1:=by rw[aJ];exact .drewN _ _ _
  have S1:=H.o0.cG f1;have c1':=f1.cell c1 (by simp);rw[<-aJ];clear aJ c1 c2;have HS:=ai f1 S1;clear f1 S1;go_wp2_with (at_builtin;go_loud (refine fq bits.aE rfl _ _ rfl (.slice oa n oc) n (out.map bv) (ag oa) rfl (cY oa n oc) (by rw[H.l1];exact dp HS.l1.own ((Fr.refl [] w1).alloc _) (by simp)) (some ⟨w1.heap.size,0,none⟩) 1 1 [bv c] (by first|rfl|simp) (ax _) (λh=>by cases h) (nD _ _ _ _ (aV _ _)) rfl (by intro u hu;simp only[eF]at hu;rw[hu];rfl) (by omega) (by unfold maxLen;omega) ?_);intro cM fx w2 A2;have f2:Fr (ag oa) w1 w2:=(Fr.refl _ w1).trans (((Fr.refl _ w1).alloc _).trans A2.fr);have b2:=f2.ag HS.l1.box H.o0.r2;have z1:=aT b2 1;have d1:=cell_of b2 1;rw[<-H.l1]at d1;simp only[dJ,dk,dU]at d1;have HA:=aq A2 f2 b2;clear A2 f2 b2 c1');go_ret;have hP:=HS.l1.put H.l1 (by omega) HA.o0;exact .inr ⟨_,_,cM,fx,rfl,rfl,hP.1,(Way.Lk _ _ _ _ _ HS.o0).trans hP.2⟩
end inf
namespace huf
open Go Go.RowKit lib bm bl
variable {ls:LN} {D P i x:Nat} {w w' w0:World} {first sc:Nat->Nat} {sa:Nat->Option Addr}
def eo (ls:LN) (l i:Nat):List Nat:=if l=0 then [] else syms ls l i
theorem Tn (ls:LN) (l i:Nat):eo ls l (i+1)=eo ls l i++if ae ls i=l/\l≠0 then [i] else []:=by
 unfold eo;by_cases h:l=0
 ·simp[h]
 ·simp[h,Tr]
theorem qlz (ls:LN) (l:Nat):(eo ls l ls.length).length=jW ls l:=by unfold eo jW;split<;>simp
theorem zgv (ls:LN) (l i:Nat):(eo ls l i).length<=i:=by
 unfold eo;split
 ·simp
 ·have:=BN (λs=>ae ls s==l) (List.range i);rw[EW]at this;exact this
theorem qxv {l:Nat} (hi:i<ls.length) (hl:ae ls i=l) (h0:l≠0) (he:(eo ls l i).length=0):code ls i=gJ ls l:=by unfold eo at he;rw[if_neg h0,Uk ls l i (by omega)]at he;unfold code;rw[hl,he,pN]
structure gj (w0 w:World) (P D:Nat) (ls:LN) (i:Nat) (first:Nat->Nat) (sa:Nat->Option Addr) (sc:Nat->Nat):Prop where
 box:∃A,w.heap[P]?=some (.cells A 551 (0,0))/\A.size=33/\(∀l,l<16->A[l]?=some (.int .u32 (first l:Nat)))/\(∀l,l<16->A[16+l]?=some (.slice (sa l) (eo ls l i).length (sc l)))/\A[32]?=some (.int .i64 (D:Nat))
 fst:∀l,0<(eo ls l i).length->first l=gJ ls l
 top:∀s,s<i->ae ls s<=D
 low:D<=15
 low':∀l,first l<=32768
 rows:∀l,l<16->Made w0 w 3 1 (sa l) (eo ls l i).length (sc l) (ints (eo ls l i))
 sep:∀l m,l<16->m<16->l≠m->∀x∈ag (sa l),x∉ag (sa m)
 off:∀l,l<16->P∉ag (sa l)
 new:w0.heap.size<=P
theorem gj.tab (h:gj w0 w P D ls ls.length first sa sc) (hlen:ls.length<=400):xQ w P D ls first sa sc:=by
 obtain⟨A,hA,h1,h2,h3,h4⟩:=h.box;refine⟨⟨A,hA,h1,h2,λl hl=>by rw[h3 l hl,qlz],h4⟩,λl hl=>h.fst l (by rw[qlz];exact hl),h.top,h.low,h.low',λl hl h0=>?_,hlen⟩;have hr:=h.rows l hl;have e:eo ls l ls.length=syms ls l ls.length:=by unfold eo;rw[if_neg (by omega)]
 rw[e]at hr;exact O2 hr rfl
def oo:Array Value:=#[.int .u32 0,.int .u32 0,.int .u32 0,.int .u32 0,.int .u32 0,.int .u32 0,.int .u32 0,.int .u32 0,.int .u32 0,.int .u32 0,.int .u32 0,.int .u32 0,.int .u32 0,.int .u32 0,.int .u32 0,.int .u32 0,.slice none 0 0,.slice none 0 0,.slice none 0 0,.slice none 0 0,.slice none 0 0,.slice none 0 0,.slice none 0 0,.slice none 0 0,.slice none 0 0,.slice none 0 0,.slice none 0 0,.slice none 0 0,.slice none 0 0,.slice none 0 0,.slice none 0 0,.slice none 0 0,.int .i64 0]
theorem zgh:∀l,l<16->oo[l]?=some (.int .u32 0)
 | 0,_=>rfl
 | 1,_=>rfl
 | 2,_=>rfl
 | 3,_=>rfl
 | 4,_=>rfl
 | 5,_=>rfl
 | 6,_=>rfl
 | 7,_=>rfl
 | 8,_=>rfl
 | 9,_=>rfl
 | 10,_=>rfl
 | 11,_=>rfl
 | 12,_=>rfl
 | 13,_=>rfl
 | 14,_=>rfl
 | 15,_=>rfl
 | _+16,h=>absurd h (by omega)
theorem zgi:∀l,l<16->oo[16+l]?=some (.slice none 0 0)
 | 0,_=>rfl
 | 1,_=>rfl
 | 2,_=>rfl
 | 3,_=>rfl
 | 4,_=>rfl
 | 5,_=>rfl
 | 6,_=>rfl
 | 7,_=>rfl
 | 8,_=>rfl
 | 9,_=>rfl
 | 10,_=>rfl
 | 11,_=>rfl
 | 12,_=>rfl
 | 13,_=>rfl
 | 14,_=>rfl
 | 15,_=>rfl
 | _+16,h=>absurd h (by omega)
theorem Tp (ls:LN) (l:Nat):eo ls l 0=[]:=by unfold eo;split<;>simp[Ts]
theorem gj.start (ls:LN) {w1:World} (f:Fr [] w0 w1):gj w0 (w1.alloc (.cells oo 551 (0,0))) w1.heap.size 0 ls 0 (λ_=>0) (λ_=>none) (λ_=>0):=by have f2:Fr [] w0 (w1.alloc (.cells oo 551 (0,0))):=f.trans ((Fr.refl [] w1).alloc _);refine⟨⟨oo,aV w1 _,rfl,zgh,λl hl=>by rw[Tp];exact zgi l hl,rfl⟩,λl h=>by rw[Tp]at h;simp at h,λs hs=>by omega,by omega,λ_=>by omega,λl hl=>?_,λl m _ _ _ x hx=>by simp[ag]at hx,λl _=>by simp[ag],f.size⟩;rw[Tp];exact (Made.none w0 _ _).ft f2
theorem gj.skip (h:gj w0 w P D ls i first sa sc) (h0:ae ls i=0):gj w0 w P D ls (i+1) first sa sc:=by
 have e:∀l,eo ls l (i+1)=eo ls l i:=λl=>by rw[Tn,if_neg (by omega),nX]
 obtain⟨A,hA,h1,h2,h3,h4⟩:=h.box;refine⟨⟨A,hA,h1,h2,λl hl=>by rw[e];exact h3 l hl,h4⟩,λl hl=>h.fst l (by rw[e]at hl;exact hl),λs hs=>?_,h.low,h.low',λl hl=>by rw[e];exact h.rows l hl,h.sep,h.off,h.new⟩;rcases Nat.lt_succ_iff_lt_or_eq.1 hs with h5|h5
 ·exact h.top s h5
 ·rw[h5,h0];exact eE _
theorem gj.fr (h:gj w0 w P D ls i first sa sc) (f:Fr [] w w'):gj w0 w' P D ls i first sa sc:=by obtain⟨A,hA,h1⟩:=h.box;exact⟨⟨A,f.ag hA (by simp),h1⟩,h.fst,h.top,h.low,h.low',λl hl=>(h.rows l hl).ft f,h.sep,h.off,h.new⟩
theorem gj.yC (h:gj w0 w P D ls i first sa sc) (hx:x<16) (hn:gJ ls x<=32768) :
  gj w0 (w.setCell ⟨P,x,none⟩ (.int .u32 (gJ ls x:Nat))) P D ls i (λl=>if l=x then gJ ls x else first l) sa sc:=by
 obtain⟨A,hA,h1,h2,h3,h4⟩:=h.box;have f:Fr [P] w (w.setCell ⟨P,x,none⟩ (.int .u32 (gJ ls x:Nat))):=(Fr.refl [P] w).setCell (by simp) _;refine⟨⟨_,df hA _,by simp[h1],λl hl=>?_,λl hl=>?_,?_⟩,λl hl=>?_,h.top,h.low,λl=>?_,λl hl=>?_,h.sep,h.off,h.new⟩
 ·by_cases e:l=x
  ·subst e;rw[if_pos rfl,oI (by omega)]
  ·rw[if_neg e,cV (by omega)];exact h2 l hl
 ·rw[cV (by omega)];exact h3 l hl
 ·rw[cV (by omega)];exact h4
 ·show (if l=x then gJ ls x else first l)=gJ ls l;split
  ·rename_i e;rw[e]
  ·exact h.fst l hl
 ·show (if l=x then gJ ls x else first l)<=32768;split
  ·exact hn
  ·exact h.low' l
 ·have m:=h.rows l hl;exact⟨dp m.own f (λy hy hm=>h.off l hl (by simp at hm;rw[<-hm];have e:=cY (sa l) (eo ls l i).length (sc l);rw[<-e,hy];simp)),m.fr.step f (λz hz=>.inr (by simp at hz;rw[hz];exact h.new)),m.new,m.le,m.max,m.nil⟩
theorem Made.uD {S:LN} {e:TypeId} {size:Nat} {ao:OA} {n cap:Nat} {xs:LV} (h:Made w0 w e size ao n cap xs) (f:Fr S w w') (hn:∀y∈ag ao,y∉S) (hS:∀z∈S,w0.heap.size<=z):Made w0 w' e size ao n cap xs:=
 ⟨dp h.own f (λy hy=>hn y (by rw[<-cY ao n cap,hy];simp)),h.fr.step f (λz hz=>.inr (hS z hz)),h.new,h.le,h.max,h.nil⟩
theorem gj.push {w2 w3 w4 w6:World} {q cp:Nat} {ao:OA} (h0:gj w0 w P D ls i first sa sc) (QD:first x=gJ ls x) (hx:x<16) (iz:x≠0) (hl:ae ls i=x) (hq:q=(eo ls x i).length)
  (f1:Fr [] w w2) (h2:aN w2 w3 3 1 (ag (sa x)) ao (q+1) cp (ints (eo ls x i)++[.int .i64 i])) (f3:Fr [] w3 w4) (f5:Fr [] (w4.setCell ⟨P,16+x,none⟩ (.slice ao (q+1) cp)) w6) :
  gj w0 (w6.setCell ⟨P,32,none⟩ (.int .i64 (max D x:Nat))) P (max D x) ls (i+1) first (λl=>if l=x then ao else sa l) (λl=>if l=x then cp else sc l):=by
 have h:=h0.fr f1;obtain⟨A,hA,h1,oX,Qz,zaK⟩:=h.box;have CH:P∉ag (sa x):=h.off x hx;have hPw:P<w2.heap.size:=lt_of_block hA;have Nv:P∉ag ao:=λhP=>by
  rcases h2.at_ P hP with k|k
  ·exact CH k
  ·omega
 have Rc:=f3.ag (h2.fr.ag hA CH) (by simp);have NM:=f5.ag (df Rc (o:=16+x) (.slice ao (q+1) cp)) (by simp);have g1:Fr [P] w4 (w4.setCell ⟨P,16+x,none⟩ (.slice ao (q+1) cp)):=(Fr.refl [P] _).setCell (by simp) _;have g2:Fr [P] w6 (w6.setCell ⟨P,32,none⟩ (.int .i64 (max D x:Nat))):=(Fr.refl [P] _).setCell (by simp) _;have bZ:∀z∈[P],w0.heap.size<=z:=λz hz=>by simp at hz;rw[hz];exact h.new
 have up:∀{kO:OA} {n' c':Nat} {xs':LV},Made w0 w3 3 1 kO n' c' xs'->P∉ag kO->Made w0 (w6.setCell ⟨P,32,none⟩ (.int .i64 (max D x:Nat))) 3 1 kO n' c' xs':=λm hP=>(((m.ft f3).uD g1 (λy hy=>by simp;rintro rfl;exact hP hy) bZ).ft f5).uD g2 (λy hy=>by simp;rintro rfl;exact hP hy) bZ
 have es:∀l,l≠x->eo ls l (i+1)=eo ls l i:=λl AW=>by rw[Tn,if_neg (by omega),nX]
 have ex:eo ls x (i+1)=eo ls x i++[i]:=by rw[Tn,if_pos ⟨hl,iz⟩]
 have exl:(eo ls x (i+1)).length=q+1:=by rw[ex,hq];simp
 have uy:∀m,m<16->m≠x->∀y∈ag ao,y∉ag (sa m):=λm hm bg y hy LF=>by
  rcases h2.at_ y hy with k|k
  ·exact h.sep x m hx hm (λe=>bg e.symm) y k LF
  ·have:=(h.rows m hm).lt y LF;omega
 refine⟨⟨_,df NM _,by simp[h1],λl nM=>?_,λl nM=>?_,?_⟩,λl AY=>?_,λs hs=>?_,?_,h.low',λl nM=>?_,λl m nM MJ bg y hy=>?_,λl nM=>?_,h.new⟩
 ·rw[cV (by omega),cV (by omega)];exact oX l nM
 ·rw[cV (by omega)];by_cases e:l=x
  ·subst e;rw[oI (by omega),exl];simp
  ·rw[cV (by omega),es l e];simp only[if_neg e];exact Qz l nM
 ·rw[oI (by simp[h1])]
 ·by_cases e:l=x
  ·rw[e];exact QD
  ·rw[es l e]at AY;exact h.fst l AY
 ·rcases Nat.lt_succ_iff_lt_or_eq.1 hs with h5|h5
  ·have:=h.top s h5;omega
  ·rw[h5,hl];omega
 ·have:=h.low;omega
 ·by_cases e:l=x
  ·subst e;simp only[if_pos];rw[exl,ex];have m:=(h.rows l hx).app h2;have e2:ints (eo ls l i++[i])=ints (eo ls l i)++[.int .i64 i]:=by simp[ints]
   rw[e2];exact up m Nv
  ·simp only[if_neg e];rw[es l e];exact up ((h.rows l nM).uD h2.fr (λy hy AB=>h.sep l x nM hx e y hy AB) (λz hz=>(h.rows x hx).new z hz)) (h.off l nM)
 ·by_cases e:l=x
  ·have e2:m≠x:=λhm=>bg (e.trans hm.symm)
   simp only[if_pos e]at hy;simp only[if_neg e2];exact uy m MJ e2 y hy
  ·simp only[if_neg e]at hy;by_cases e2:m=x
   ·simp only[if_pos e2];intro LF;exact uy l nM e y LF hy
   ·simp only[if_neg e2];exact h.sep l m nM MJ bg y hy
 ·by_cases e:l=x
  ·simp only[if_pos e];exact Nv
  ·simp only[if_neg e];exact h.off l nM
theorem gj.pre {w0 w1 w:World} {P D i:Nat} {ls:LN} {first:Nat->Nat} {sa:Nat->Option Addr} {sc:Nat->Nat} (h:gj w1 w P D ls i first sa sc) (f:Fr [] w0 w1):gj w0 w P D ls i first sa sc:=
 ⟨h.box,h.fst,h.top,h.low,h.low',λl hl=>(h.rows l hl).pre f,h.sep,h.off,bP f.size h.new⟩
def CP (w:World) (ls:LN) (e:Ending) (w':World):Prop:=
 ∃P D first sa sc,e = .returned (.tuple #[.pointer (some ⟨P,0,none⟩),.int .i64 0])/\gj w w' P D ls ls.length first sa sc/\Fr [] w w'
theorem YD (a:OA) (cap:Nat) (ls:LN) (w:World) (h:Ri w a cap ls) (hle:∀l∈ls,l<=15) (hlen:ls.length<=400) (hw:weight ls<=32768) :
  Calls Tryz.prog 387 #[.slice a ls.length cap] w (CP w ls):=by
 obtain⟨N,hN⟩:=ah ls.length;have hc:=Pu a cap ls w h hle hlen hw;unfold gM at hc;rw[<-hN]at hlen hc ⊢;have H:=aQ h hle hN hc hw;clear h hle hN hc hw;go_enter Tryz.func387,Tryz.ntmps387;go_upto_block 0 with (go_at_call 394;refine H.out.2.2.2.1.mono ?_;rintro e w1 ⟨g,rfl,cg,ng,lg,f1⟩;have H1:=aA cg ng lg f1;clear cg ng lg f1);obtain⟨P,hP⟩:=ah w1.heap.size;obtain⟨w2,cC⟩:=ah (w1.alloc (.cells oo 551 (0,0)));have T0:gj w1 w2 P 0 ls 0 (λ_=>0) (λ_=>none) (λ_=>0):=by rw[cC,hP];exact gj.start ls (Fr.refl [] w1)
 unfold oo at cC;rw[<-cC,<-hP];have f2:Fr [] w w2:=by rw[cC];exact H1.l3.trans ((Fr.refl [] w1).alloc _)
 have cg2:Cs w2 (some ⟨g,0,none⟩) ((di ls).map λx=>.int .u32 (x:Nat)):=by rw[cC];exact H1.o0.fr ((Fr.refl [] w1).alloc _) (by simp)
 have H2:=aQ T0 f2 cg2 hP cC;clear T0 f2 cg2 hP cC;go_wp2;go_loopg [7,8,21] N (λk s7 s8 s21 wr=>∃(i D:Nat) (first:Nat->Nat) (sa:Nat->Option Addr) (sc:Nat->Nat),s21 = .int .i64 (i:Nat)/\i+k=N/\gj w1 wr P D ls i first sa sc/\Fr [] w wr/\Cs wr (some ⟨g,0,none⟩) ((di ls).map λx=>.int .u32 (x:Nat)));case atStart=>exact⟨0,0,_,_,_,rfl,by omega,H2.o0,H2.o1,H2.o2⟩
 case round=>
  obtain⟨i,D,first,sa,sc,rfl,cQ,hT,hf,Js⟩:=hrel;by_cases hi:i<N
  ·obtain⟨k,rfl⟩:∃k,gk=k+1:=⟨gk-1,by omega⟩;have cN:i<ls.length:=by rw[<-H.out.2.2.1];exact hi
   obtain⟨ga,o,ha,hc⟩:=(H.out.1.fr hf).at cN;subst ha;have iP:=H.out.2.1 _ (sk cN);have eh:ae ls i=ls[i]:=by unfold ae;rw[dm cN];rfl
   obtain⟨x,hx⟩:=ah (ls[i]);rw[<-hx]at hc iP eh;have HI:=cU hT hf Js eh cN hx;clear hT hf Js eh hx;by_cases iz:x=0
   ·subst iz;go_wp2;go_roundg k;case measure=>omega
    case rel=>exact⟨i+1,D,first,sa,sc,by go_num,by omega,HI.out.1.skip HI.out.2.2.2.1,HI.out.2.1,HI.out.2.2.1⟩
   ·have b0:((x:Int)==0)=false:=by simp;omega
    have cells:=λ(wc:World) (first:Nat->Nat) (T:gj w1 wc P D ls i first sa sc)=>show wc.cell? ⟨P,x,none⟩=some (.int .u32 (first x:Nat))/\wc.cell? ⟨P,16+x,none⟩=some (.slice (sa x) (eo ls x i).length (sc x))/\wc.cell? ⟨P,32,none⟩=some (.int .i64 D)/\wc.frozen? ⟨P,x,none⟩=false/\wc.frozen? ⟨P,16+x,none⟩=false/\wc.frozen? ⟨P,32,none⟩=false by obtain⟨A,hA,h1,h2,h3,h4⟩:=T.box;exact⟨by rw[cell_of hA];exact h2 x (by omega),by rw[cell_of hA];exact h3 x (by omega),by rw[cell_of hA];exact h4,aT hA _,aT hA _,aT hA _⟩
    obtain⟨c1,c2,c3,z1,z2,z3⟩:=cells wr first HI.out.1
    obtain⟨q,hq⟩:=ah ((eo ls x i).length);have AL:q<=400:=by rw[hq];have:=zgv ls x i;omega
    have qX:wr.cell? ⟨g,i,none⟩=some (.int .u32 (code ls i:Nat)):=by obtain⟨g',o',e,hcs⟩:=HI.out.2.2.1.at (by simp[di];omega);cases e;rw[show (⟨g,i,none⟩:Addr)=⟨g,0+i,none⟩ by rw[iN]];refine hcs i _ ?_;simp[di,cN,cE];rw[if_neg (by rw[HI.out.2.2.2.1];exact iz)]
    rw[<-hq]at c2 cells;have HQ:=ai hq cells;have Nx:i<400:=by omega
    clear hq cells;go_upto_if 35 with fail;go_cut [] from 28 to 44 (λwc=>∃first',gj w1 wc P D ls i first' sa sc/\first' x=gJ ls x/\Fr [] w wc/\Cs wc (some ⟨g,0,none⟩) ((di ls).map λx=>.int .u32 (x:Nat)))
    case first=>
     by_cases AO:q=0
     ·have b1:((q:Int)==0)=true:=by simp;omega
      have qx:=qxv cN HI.out.2.2.2.1 iz (by rw[<-HQ.out.1];exact AO);have jZ:gJ ls x<=32768:=qqq ls (by exact H.out.2.1) H.out.2.2.2.2 x iP;rw[qx]at qX;have HX:=ai qx jZ;clear qx jZ;go_upto_region 10 with fail;refine xY 9 (by kernel_rfl) (by kernel_rfl) ?_;simp only[lh,sW,nY,nE];repeat (go_big_quiet_step (fail))
      refine wpQuiet_nil ?_;go_wp2;go_meet;have fd:Fr [] wr wr.drew:=Fr.drewN [] _ _;case rel=>exact⟨_,(HI.out.1.fr fd).yC (by omega) HX.l1,if_pos rfl,(HI.out.2.1.trans fd).step ((Fr.refl [P] _).setCell (by simp) _) (λz hz=>.inr (by simp at hz;rw[hz];exact bP H1.l3.size HI.out.1.new)),(HI.out.2.2.1.fr fd (by simp)).fr ((Fr.refl [P] _).setCell (by simp) _) (by intro z hz hm;have:=H1.o2;have:=H2.o3;simp[ag]at hz hm;omega)⟩
     ·have b1:((q:Int)==0)=false:=by simp;omega
      go_wp2;go_meet;case rel=>exact⟨first,HI.out.1,HI.out.1.fst x (by rw[<-HQ.out.1];omega),HI.out.2.1,HI.out.2.2.1⟩
    case rest=>
     obtain⟨first',hT,QD,hf,Js⟩:=hcut;obtain⟨c1,c2,c3,z1,z2,z3⟩:=HQ.out.2 wc first' hT
     have CH:P∉ag (sa x):=hT.off x (by omega);have q1:∀y,(sup (ag (sa x)) wc.drew y).cell? ⟨P,16+x,none⟩=some (.slice (sa x) q (sc x)):=λy=>(gB (ag (sa x)) wc.drew y).cell ((Fr.aB [] wc).cell c2 (by simp)) CH
     go_upto_region 11 with fail;refine ql8 14 [(false,0),(false,1),(false,2),(false,3),(false,4),(false,5),(false,6),(false,7),(false,8),(false,11),(false,12),(true,9),(true,10),(false,13)] (ag (sa x)) (by kernel_rfl) (by kernel_rfl) (λ_ _ d _ _ h=>by cases d<;>exact h) ?_;simp only[kQ];refine Po 11 rfl ?_;simp only[cT];repeat (go_big_quiet_step (fail))
     refine wpQuiet_nil ?_;clear q1;refine Pn rfl ?_;intro X hX;go_wp2;refine hX.out _ _ wc.drew (Fr.refl _ _) ((Fr.refl (ag (sa x)) wc.drew).alloc _) ?_;clear hX X;refine Pn rfl ?_;intro X hX;obtain⟨w4,jO⟩:∃w4,w4=(wc.alloc (.cells #[.int .i64 (i:Nat)] 3)).drew:=⟨_,rfl⟩;have f4:Fr [] wc w4:=by rw[jO];exact ((Fr.refl [] wc).alloc _).drew
     have ve:Cs w4 (some ⟨wc.heap.size,0,none⟩) [.int .i64 i]:=by rw[jO];exact nD _ _ _ _ ((Fr.aB [] _).ag (aV wc _) (by simp))
     have fb4:Fr (ag (sa x)) wc.drew w4:=by rw[jO];exact (((Fr.refl (ag (sa x)) wc).alloc _).drew).dF
     have HF:=eW hT QD hf Js f4 ve fb4;rw[<-jO];clear hT QD hf Js jO f4 ve fb4;refine sj rA _ _ rfl (.slice (sa x) q (sc x)) q (ints (eo ls x i)) (ag (sa x)) rfl (cY _ _ _) (by have:=((HF.o0.rows x (by omega)).ft HF.o4).own;rwa [<-HQ.out.1]at this) (some ⟨wc.heap.size,0,none⟩) 1 1 [.int .i64 i] rfl (ax _) (λh=>by cases h) HF.o5 rfl (by intro u hu;simp only[eF]at hu;rw[hu];rfl) (by omega) (by unfold maxLen;omega) ?_;intro a5 c5 w5 A5;have Wh:Fr (ag (sa x)) wc.drew w5:=HF.l6.step A5.fr λy hy=>.inl hy
     refine hX.out _ _ wc.drew (Fr.refl _ _) Wh ?_;clear hX X;simp only[Act.put,pS,nV,pQ];clear c2 c3 z2 z3;have T4:=HF.o0.fr HF.o4;obtain⟨A4,Rc,Cg,Vo,M3,LZ⟩:=T4.box;have Rb:=A5.fr.ag Rc CH;have z2:=aT Rb (16+x);have c2:=cell_of Rb (16+x);rw[M3 x (by omega)]at c2;have NM:=df Rb (o:=16+x) (.slice a5 (q+1) c5);have c3:=cell_of NM 32;rw[cV (by omega),LZ]at c3;have z3:=aT NM 32;have HA:=ai A5 Wh;clear Rc Cg Vo M3 LZ Rb NM A5 Wh T4 c1 z1;refine Po 1 rfl ?_;simp only[cT];repeat (go_big_quiet_step (fail))
     refine wpQuiet_nil ?_;refine Zd ?_;have Bf:=gj.push (w6:=w5.setCell ⟨P,16+x,none⟩ (.slice a5 (q+1) c5)) HF.o0 HF.o1 (by omega) iz HI.out.2.2.2.1 HQ.out.1 HF.o4 HA.o0 (Fr.refl [] _) (Fr.refl [] _);have hf6:∀u:Value,Fr [] w ((w5.setCell ⟨P,16+x,none⟩ (.slice a5 (q+1) c5)).setCell ⟨P,32,none⟩ u):=λu=>by
      have f1:Fr [] w wc:=HF.o2;have f2:Fr (P::ag (sa x)) wc ((w5.setCell ⟨P,16+x,none⟩ (.slice a5 (q+1) c5)).setCell ⟨P,32,none⟩ u):=((((Fr.refl _ wc).drew).trans (HA.l1.mono (λy hy=>.inl (oH _ hy)))).setCell (by simp) _).setCell (by simp) _;exact f1.step f2 λz hz=>by
       rcases eX.1 hz with rfl|hz
       ·exact .inr (bP H1.l3.size HF.o0.new)
       ·exact .inr (bP H1.l3.size ((HF.o0.rows x (by omega)).new z hz))
     have Ni:∀u:Value,Cs ((w5.setCell ⟨P,16+x,none⟩ (.slice a5 (q+1) c5)).setCell ⟨P,32,none⟩ u) (some ⟨g,0,none⟩) ((di ls).map λx=>.int .u32 (x:Nat)):=λu=>by
      have f2:Fr (P::ag (sa x)) wc ((w5.setCell ⟨P,16+x,none⟩ (.slice a5 (q+1) c5)).setCell ⟨P,32,none⟩ u):=((((Fr.refl _ wc).drew).trans (HA.l1.mono (λy hy=>.inl (oH _ hy)))).setCell (by simp) _).setCell (by simp) _;refine HF.o3.fr f2 λy hy hm=>?_
      simp[ag]at hy;have hg:g<w1.heap.size:=H1.o2;rcases eX.1 hm with h1|h1
      ·have:=HF.o0.new;omega
      ·have:=(HF.o0.rows x (by omega)).new y h1;omega
     have HZ:=aq Bf hf6 Ni;clear Bf hf6 Ni;rcases kT D x with hDx|hDx
     ·have hD:max D x=x:=by omega
      have Bh:max (D:Int) (x:Int)=(x:Int):=by omega
      have Bf:=HZ.o0;rw[hD]at Bf;have HT:=af Bf;clear Bf hD;go_wp2;all_goals go_roundg k
      all_goals first
       | omega
       | exact⟨i+1,x,first',_,_,by go_num,by omega,HT.out,HZ.o1 _,HZ.l2 _⟩
     ·have hD:max D x=D:=by omega
      have Bh:max (D:Int) (x:Int)=(D:Int):=by omega
      have Bf:=HZ.o0;rw[hD]at Bf;have HT:=af Bf;clear Bf hD;go_wp2;all_goals go_roundg k
      all_goals first
       | omega
       | exact⟨i+1,D,first',_,_,by go_num,by omega,HT.out,HZ.o1 _,HZ.l2 _⟩
  ·obtain rfl:i=N:=by omega
   have HI:=ai hT hf;clear hT hf Js hi cQ;go_wp2;go_ret2;have hT:=HI.out.1;rw[H.out.2.2.1]at hT;exact⟨P,D,first,sa,sc,rfl,hT.pre H1.l3,HI.out.2⟩
structure N8 (w:World) (P D:Nat) (ls:LN) (first:Nat->Nat) (sa:Nat->Option Addr) (sc:Nat->Nat) (B E:Nat):Prop where
 tab:xQ w P D ls first sa sc
 at_:B<=P/\P<E
 row:∀l,l<16->∀x∈ag (sa l),B<=x/\x<E
def rW (w:World) (ls:LN) (e:Ending) (w':World):Prop:=
 ∃P D first sa sc,e = .returned (.tuple #[.pointer (some ⟨P,0,none⟩),.int .i64 0])/\N8 w' P D ls first sa sc w.heap.size w'.heap.size/\Fr [] w w'
theorem Sn (a:OA) (cap:Nat) (ls:LN) (w:World) (h:Ri w a cap ls) (hle:∀l∈ls,l<=15) (hlen:ls.length<=400) (hw:weight ls<=32768) :
  Calls Tryz.prog 387 #[.slice a ls.length cap] w (rW w ls):=
 (YD a cap ls w h hle hlen hw).mono λe w' ⟨P,D,first,sa,sc,h1,h2,h3⟩=>⟨P,D,first,sa,sc,h1,⟨h2.tab hlen,⟨h2.new,by obtain⟨A,hA,_⟩:=h2.box;exact lt_of_block hA⟩,λl hl x hx=>⟨(h2.rows l hl).new x hx,(h2.rows l hl).lt x hx⟩⟩,h3⟩
theorem zbw (a:OA) (cap:Nat) (ls:LN) (w:World) (h:Ri w a cap ls) (hle:∀l∈ls,l<=15) (hlen:ls.length<=400) (hw:32768<weight ls) :
  Calls Tryz.prog 394 #[.slice a ls.length cap] w λe w'=>e = .returned (.tuple #[.slice none 0 0,.int .i64 3])/\Fr [] w w':=by
 have hc:=Tl a cap ls w h hle (by omega);have I6:=Tw ls;obtain⟨W,hW⟩:=ah (weight ls);obtain⟨N,hN⟩:=ah ls.length;rw[<-hW]at hc hw I6;rw[<-hN]at hc hlen I6 ⊢;have H:=af hc;clear hc hW hN h hle;go_enter Tryz.func394,Tryz.ntmps394;go_wp2_with (go_at_call 398;refine H.out.mono ?_;rintro e w1 ⟨rfl,rfl⟩);go_ret2;exact⟨rfl,.refl _ _⟩
theorem zhh (a:OA) (cap:Nat) (ls:LN) (w:World) (h:Ri w a cap ls) (hle:∀l∈ls,l<=15) (hlen:ls.length<=400) (hw:32768<weight ls) :
  Calls Tryz.prog 387 #[.slice a ls.length cap] w λe w'=>e = .returned (.tuple #[.pointer none,.int .i64 3])/\Fr [] w w':=by
 have H:=af (zbw a cap ls w h hle hlen hw);obtain⟨N,hN⟩:=ah ls.length;rw[<-hN]at H ⊢;clear h hle hw hN;go_enter Tryz.func387,Tryz.ntmps387;go_wp2_with (go_at_call 394;refine H.out.mono ?_;rintro e w1 ⟨rfl,f1⟩);go_ret2;exact⟨rfl,f1⟩
end huf
namespace inf
open Go Go.RowKit lib bm bl huf
variable {ls:LN} {P R a a1 most n p s v:Nat} {bs o out:LB} {w w':World}
theorem X7 (h:gU ls n v=some s):s<ls.length/\0<n:=by unfold gU at h;have h1:=List.mem_of_find?_eq_some h;have h2:=List.find?_some h;simp at h1 h2;exact⟨h1,h2.1⟩
theorem T9 (ls:LN):∀(f n v:Nat) (bits:List Bool),((bT ls f n v bits).2.2=0\/(bT ls f n v bits).2.2=3\/(bT ls f n v bits).2.2=4)/\
  ((bT ls f n v bits).2.2=0->(bT ls f n v bits).1<ls.length/\0<(bT ls f n v bits).2.1)
 | 0,n,v,bits=>by
  cases h:gU ls n v with
  | some s=>rw[IG h];exact⟨.inl rfl,λ_=>X7 h⟩
  | none=>rw[S5 h];exact⟨.inr (.inl rfl),λh=>by cases h⟩
 | f+1,n,v,bits=>by
  cases h:gU ls n v with
  | some s=>rw[IG h];exact⟨.inl rfl,λ_=>X7 h⟩
  | none=>
   by_cases hm:eU ls n v=true
   ·cases bits with
    | nil=>rw[Ua h hm];exact⟨.inr (.inr rfl),λh=>by cases h⟩
    | cons b t=>rw[PG h hm];exact T9 ls f (n+1) _ t
   ·rw[T8 h (by simpa using hm)];exact⟨.inr (.inl rfl),λh=>by cases h⟩
theorem Iy (h:kL bs ls a = .ok (s,a1)):s<ls.length/\a<a1:=by
 unfold kL at h;split at h
 ·rename_i hc;have:=(T9 ls 15 0 0 ((ak bs).drop a)).2 hc;simp only[jc,gq]at h;omega
 ·cases h
theorem yG (h:aX bs a n = .ok (v,a1)):v<2^n:=by
 unfold aX at h;split at h
 ·simp only[jc,gq]at h;rw[<-h.1];exact P4 _ _
 ·cases h
structure Tb (w:World) (P:Nat) (ls:LN) (X:LN):Prop where
 ex:∃D first sa sc,xQ w P D ls first sa sc/\P<w.heap.size/\P∉X/\∀l,l<16->∀x∈ag (sa l),x<w.heap.size/\x∉X
theorem Tb.fr {S:LN} {X:LN} (h:Tb w P ls X) (f:Fr S w w') (hS:∀x∈S,x∈X\/w.heap.size<=x):Tb w' P ls X:=by
 obtain⟨D,first,sa,sc,ht,h1,h2,h3⟩:=h.ex;refine⟨D,first,sa,sc,ht.uD f (λhP=>?_) (λl hl _ x hx mJ=>?_),fM h1 f.size,h2,λl hl x hx=>⟨fM (h3 l hl x hx).1 f.size,(h3 l hl x hx).2⟩⟩
 ·rcases hS P hP with k|k
  ·exact h2 k
  ·omega
 ·rcases hS x mJ with k|k
  ·exact (h3 l hl x hx).2 k
  ·have:=(h3 l hl x hx).1;omega
theorem Tb.way {oa kc:OA} (h:Tb w P ls (R::p::ag oa)) (f:Way w R p oa w' kc):Tb w' P ls (R::p::ag kc):=by obtain⟨D,first,sa,sc,ht,h1,h2,h3⟩:=h.ex;exact⟨D,first,sa,sc,ht.uD f.fr h2 (λl hl _ x hx=>(h3 l hl x hx).2),fM h1 f.fr.size,f.old h1 h2,λl hl x hx=>⟨fM (h3 l hl x hx).1 f.fr.size,f.old (h3 l hl x hx).1 (h3 l hl x hx).2⟩⟩
theorem Iv (R p P:Nat) (F:LN) (bs out:LB) (ls:LN) (at_ oc most:Nat) (oa:OA) (w:World) (h:St w R p F bs at_ out oa oc most) (hT:Tb w P ls (R::p::ag oa)) :
  Calls Tryz.prog 395 #[.pointer (some ⟨P,0,none⟩),.pointer (some ⟨p,0,none⟩)] w (mN w R p F bs out oa oc most (kL bs ls at_)):=by
 obtain⟨D,first,sa,sc,ht,h1,h2,h3⟩:=hT.ex;have hp:P≠p:=λe=>h2 (by simp[e])
 have yf:=T9 ls 15 0 0 ((ak bs).drop at_);obtain⟨r,hr0⟩:=ah (bT ls 15 0 0 ((ak bs).drop at_));unfold kL;rw[<-hr0]at yf ⊢;obtain⟨s,m,c⟩:=r;refine (xW P D ls first sa sc p F bs at_ w ht h.rd hp (λl hl _ x hx e=>(h3 l hl x hx).2 (by simp[e])) s m c hr0.symm).mono ?_;rintro e w' ⟨rfl,hr,f⟩;simp only at yf ⊢;by_cases hc:c=0
 ·subst hc;exact .inr ⟨s,at_+m,by rw[if_pos rfl],rfl,h.take f hr,f⟩
 ·exact .inl ⟨_,c,by rw[if_neg hc],by omega,by omega,rfl,f.mono (by simp)⟩
theorem PK (R p:Nat) (F:LN) (bs out:LB) (at_ oc most s:Nat) (oa:OA) (w:World) (h:St w R p F bs at_ out oa oc most) (h1:256<=s) (h2:s<286) :
  Calls Tryz.prog 400 #[.pointer (some ⟨R,0,none⟩),.int .i64 s] w (mN w R p F bs out oa oc most (cB bs s at_)):=by
 by_cases h3:s<265
 ·have e:cB bs s at_ = .ok (s-254,at_):=by unfold cB;rw[if_pos h3]
  rw[e];have H:=af h;clear h e;go_enter Tryz.func400,Tryz.ntmps400;go_wp2;go_ret2;exact .inr ⟨_,_,rfl,by rw[show ((s-254:Nat):Int)=(s:Int)-254 by omega];rfl,H.out,.refl _ _⟩
 ·by_cases h4:s=285
  ·have e:cB bs s at_ = .ok (258,at_):=by unfold cB;rw[if_neg h3,if_pos h4]
   rw[e];subst h4;have H:=af h;clear h e;go_enter Tryz.func400,Tryz.ntmps400;go_wp2;go_ret2;exact .inr ⟨_,_,rfl,rfl,H.out,.refl _ _⟩
  ·have b4:((s:Int)==285)=false:=by simp;omega
   obtain⟨n,hn⟩:=ah ((s-261)/4);have zm:n<=5:=by omega
   have ht:=Dm R p F bs out at_ oc most n oa w h (by omega);have kp:∀c,aX bs at_ n = .error c->cB bs s at_ = .error c:=λc hc=>by unfold cB;rw[if_neg h3,if_neg h4,<-hn,hc]
   have gV:∀v a1,aX bs at_ n = .ok (v,a1)->cB bs s at_ = .ok (3+(4+(s-265)%4)*2^n+v,a1):=λv a1 hc=>by unfold cB;rw[if_neg h3,if_neg h4,<-hn,hc]
   obtain⟨M,hM⟩:=ah (cB bs s at_);rw[<-hM]at kp gV ⊢;obtain⟨k,hk⟩:=ah ((4+(s-265)%4)*2^n);rw[<-hk]at gV;have j3:k<=7*2^5:=by rw[hk];exact Hk (by omega) (lJ (by decide) zm)
   have uY:(4+((s:Int)-265)%4)*2^n=(k:Nat):=by
    have e0:((s:Int)-265)%4=((s-265)%4:Nat):=by omega
    rw[e0,hk];push_cast;rfl
   have H:=aQ ht hn kp gV uY;have qy:=af hM;clear hM kp gV hk uY;have e1:((s:Int)-261)/4=(n:Nat):=by omega
   clear h ht hn;go_enter Tryz.func400,Tryz.ntmps400;go_wp2_with (go_at_call 367;refine H.out.1.mono ?_;rintro e w1 (⟨v,c,hm,dB,bR,rfl,f1⟩|⟨v,a1,hm,rfl,s1,f1⟩))
   ·go_ret2;exact .inl ⟨_,c,H.out.2.2.1 c hm,dB,bR,rfl,f1⟩
   ·go_ret2;refine .inr ⟨_,_,H.out.2.2.2.1 v a1 hm,?_,s1,f1⟩;have hv:=yG hm;have vX:2^n<=2^5:=lJ (by decide) zm;have e2:wrap64 (wrap64 (3+wrap64 ((4+((s:Int)-265)%4)*2^n))+(v:Nat))=((3+k+v:Nat):Int):=by rw[H.out.2.2.2.2];unfold wrap64;omega
    show Ending.returned (.tuple #[.int .i64 (wrap64 (wrap64 (3+wrap64 ((4+((s:Int)-265)%4)*2^n))+(v:Nat))),.int .i64 0])=_;rw[e2]
theorem P6 (R p:Nat) (F:LN) (bs out:LB) (at_ oc most s:Nat) (oa:OA) (w:World) (h:St w R p F bs at_ out oa oc most) (h2:s<30) :
  Calls Tryz.prog 401 #[.pointer (some ⟨R,0,none⟩),.int .i64 s] w (mN w R p F bs out oa oc most (fZ bs s at_)):=by
 by_cases h3:s<4
 ·have e:fZ bs s at_ = .ok (s+1,at_):=by unfold fZ;rw[if_pos h3]
  rw[e];have H:=af h;clear h e;go_enter Tryz.func401,Tryz.ntmps401;go_wp2;go_ret2;exact .inr ⟨_,_,rfl,rfl,H.out,.refl _ _⟩
 ·obtain⟨n,hn⟩:=ah ((s-2)/2);have zm:n<=13:=by omega
  have ht:=Dm R p F bs out at_ oc most n oa w h (by omega);have kp:∀c,aX bs at_ n = .error c->fZ bs s at_ = .error c:=λc hc=>by unfold fZ;rw[if_neg h3,<-hn,hc]
  have gV:∀v a1,aX bs at_ n = .ok (v,a1)->fZ bs s at_ = .ok (1+(2+s%2)*2^n+v,a1):=λv a1 hc=>by unfold fZ;rw[if_neg h3,<-hn,hc]
  obtain⟨M,hM⟩:=ah (fZ bs s at_);rw[<-hM]at kp gV ⊢;obtain⟨k,hk⟩:=ah ((2+s%2)*2^n);rw[<-hk]at gV;have j3:k<=3*2^13:=by rw[hk];exact Hk (by omega) (lJ (by decide) zm)
  have uY:(2+(s:Int)%2)*2^n=(k:Nat):=by rw[hk];push_cast;rfl
  have H:=aQ ht hn kp gV uY;have qy:=af hM;clear hM kp gV hk uY;have e1:((s:Int)-2)/2=(n:Nat):=by omega
  clear h ht hn;go_enter Tryz.func401,Tryz.ntmps401;go_wp2_with (go_at_call 367;refine H.out.1.mono ?_;rintro e w1 (⟨v,c,hm,dB,bR,rfl,f1⟩|⟨v,a1,hm,rfl,s1,f1⟩))
  ·go_ret2;exact .inl ⟨_,c,H.out.2.2.1 c hm,dB,bR,rfl,f1⟩
  ·go_ret2;refine .inr ⟨_,_,H.out.2.2.2.1 v a1 hm,?_,s1,f1⟩;have hv:=yG hm;have vX:2^n<=2^13:=lJ (by decide) zm;have e2:wrap64 (wrap64 (1+wrap64 ((2+(s:Int)%2)*2^n))+(v:Nat))=((1+k+v:Nat):Int):=by rw[H.out.2.2.2.2];unfold wrap64;omega
   show Ending.returned (.tuple #[.int .i64 (wrap64 (wrap64 (1+wrap64 ((2+(s:Int)%2)*2^n))+(v:Nat))),.int .i64 0])=_;rw[e2]
theorem zav {b:Nat} (h:fZ bs s a = .ok (b,a1)):0<b/\b<=100000\/30<=s:=by
 by_cases hs:30<=s
 ·exact .inr hs
 ·left;unfold fZ at h;split at h
  ·simp only[jc,gq]at h;omega
  ·have zK:(s-2)/2<=13:=by omega
   have hp:(2+s%2)*2^((s-2)/2)<=3*2^13:=Hk (by omega) (lJ (by decide) zK);have jk:2^((s-2)/2)<=2^13:=lJ (by decide) zK;cases ht:aX bs a ((s-2)/2) with
   | error e=>rw[ht]at h;cases h
   | ok x=>obtain⟨v,a2⟩:=x;have hv:=yG ht;rw[ht]at h;simp only[jc,gq]at h;omega
theorem qxs (h:cB bs s a = .ok (n,a1)) (hs:s<286):n<=100000:=by
 unfold cB at h;split at h
 ·simp only[jc,gq]at h;omega
 ·split at h
  ·simp only[jc,gq]at h;omega
  ·have zK:(s-261)/4<=6:=by omega
   have hp:(4+(s-265)%4)*2^((s-261)/4)<=7*2^6:=Hk (by omega) (lJ (by decide) zK);have jk:2^((s-261)/4)<=2^6:=lJ (by decide) zK;cases ht:aX bs a ((s-261)/4) with
   | error e=>rw[ht]at h;cases h
   | ok x=>obtain⟨v,a2⟩:=x;have hv:=yG ht;rw[ht]at h;simp only[jc,gq]at h;omega
theorem zhp {c:UInt8} (h:iy most out c = .ok o):o=out++[c]/\out.length<most:=by
 unfold iy at h;split at h
 ·cases h
 ·simp only[jc]at h;exact⟨h.symm,by omega⟩
theorem St.byte {F:LN} {at_ oc:Nat} {oa:OA} (h:St w R p F bs at_ out oa oc most) {i:Nat} (hi:i<out.length) :
  ∃g o,oa=some ⟨g,o,none⟩/\w.cell? ⟨g,o+i,none⟩=some (.int .u8 ((out[i]?.getD 0).toNat:Nat)):=by
 obtain⟨g,o,e,hc⟩:=(qK h.own).at (by simp;omega);refine⟨g,o,e,hc i _ ?_⟩;rw[qe,dm hi];rfl
theorem qz6 (R p Q:Nat) (F:LN) (bs out:LB) (dl:LN) (at_ oc most s:Nat) (oa:OA) (w:World) (h:St w R p F bs at_ out oa oc most) (hT:Tb w Q dl (R::p::ag oa)) (h1:256<=s) (h2:s<286) :
  Calls Tryz.prog 396 #[.pointer (some ⟨R,0,none⟩),.int .i64 s,.pointer (some ⟨Q,0,none⟩)] w (Bl w R p F bs oa most (dO bs most dl s out at_)):=by
 obtain⟨M,hM⟩:=ah (dO bs most dl s out at_);rw[<-hM];obtain⟨N,hN⟩:=ah out.length;have H:=aQ (PK R p F bs out at_ oc most s oa w h h1 h2) hT hM h hN;have AJ:=h.sm;clear h hT hM hN;go_enter Tryz.func396,Tryz.ntmps396;go_upto_block 0 with (first|(go_at_call 400;refine H.o0.mono ?_;rintro e w1 (⟨v,c,hm,dB,bR,rfl,f1⟩|⟨n,a1,hm,rfl,s1,f1⟩);all_goals (try (have c0:=cell_of s1.box 0;simp only[dJ,dk,dU]at c0;have K1:=aq hm s1 f1;clear hm s1 f1)))|(go_at_call 395;refine (Iv R p Q F bs out dl a1 oc most oa w1 K1.o1 (H.o1.fr K1.l2 (by simp))).mono ?_;rintro e w2 (⟨v2,c,hm,dB,bR,rfl,f1⟩|⟨d,a2,hm,rfl,s2,f2⟩);all_goals (try (have K2:=aq hm s2 f2;clear hm s2 f2)))|(go_at_call 401;refine (P6 R p F bs out a2 oc most d oa w2 K2.o1 (by omega)).mono ?_;rintro e w3 (⟨v3,c,hm,dB,bR,rfl,f1⟩|⟨b,a3,hm,rfl,s3,f3⟩);all_goals (try (have c1:=cell_of s3.box 1;rw[<-H.l4]at c1;simp only[dJ,dk,dU]at c1;have K3:=aq hm s3 f3;clear hm s3 f3))))
 ·go_ret;exact .inl ⟨c,by rw[H.o2];simp[dO,hm],dB,bR,rfl,f1⟩
 ·go_ret;exact .inl ⟨c,by rw[H.o2];simp[dO,K1.o0,hm],dB,bR,rfl,(K1.l2.mono (by simp)).trans f1⟩
 ·go_ret;exact .inl ⟨3,by rw[H.o2];simp[dO,K1.o0,K2.o0,show 30<=d by omega],by decide,by decide,rfl,(K1.l2.trans K2.l2).mono (by simp)⟩
 ·go_ret;exact .inl ⟨c,by rw[H.o2];simp[dO,K1.o0,K2.o0,hm,show ¬30<=d by omega],dB,bR,rfl,((K1.l2.trans K2.l2).mono (by simp)).trans f1⟩
 ·go_ret;exact .inl ⟨3,by rw[H.o2];simp only[dO,K1.o0,K2.o0,K3.out.1,if_neg (show ¬30<=d by omega)];rw[if_pos (by rw[<-H.l4];omega)],by decide,by decide,rfl,((K1.l2.trans K2.l2).trans K3.out.2.2).mono (by simp)⟩
 ·have iV:M=match gR most b n out with
    | .error e=>.error e
    | .ok o=>.ok (o,a3):=by
   rw[H.o2]
   simp only[dO,K1.o0,K2.o0,K3.out.1,if_neg (show ¬30<=d by omega)]
   rw[if_neg (by rw[<-H.l4];omega)]
   rfl
  have zD:0<b/\b<=100000:=by
   rcases zav K3.out.1 with k|k
   ·exact k
   ·omega
  have oW:=qxs K1.o0 h2
  have HM:=ai iV zD.1
  have zbF:=zD.2
  clear iV zD c0 c1
  have dN:decide (N<b)=false:=by simp;omega
  simp only[dN]
  clear dN
  go_wp2
  go_loopg [6,11,52] n (λk s6 s11 s52 wr=>∃(j:Nat) (bI:LB) (jX:OA) (nI:Nat),s52 = .int .i64 (j:Nat)/\j+k=n/\St wr R p F bs a3 bI jX nI most/\Way w3 R p oa wr jX/\gR most b k bI=gR most b n out/\b<=bI.length)
  case atStart=>exact⟨0,out,oa,oc,rfl,by omega,K3.out.2.1,.refl _ _ _ _,rfl,by rw[<-H.l4];omega⟩
  case round=>
   obtain⟨j,bI,jX,nI,rfl,fP,aW,gT,Qy,dW⟩:=hrel
   have hW:Fr (R::p::ag oa) w wr:=(((K1.l2.trans K2.l2).trans K3.out.2.2).mono (by simp)).trans gT.fr
   by_cases hj:j<n
   ·obtain⟨k,rfl⟩:∃k,gk=k+1:=⟨gk-1,by omega⟩
    obtain⟨N1,xE⟩:=ah bI.length
    have vq:=HM.l1
    obtain⟨g,o,rfl,mr⟩:=aW.byte (i:=N1-b) (by omega)
    obtain⟨u,hu⟩:=ah (bI[N1-b]?.getD 0)
    have c1:=cell_of aW.box 1
    simp only[dJ,dk,dU]at c1
    rw[<-xE]at c1
    rw[<-hu]at mr
    have hom:N1<=most:=by rw[xE];exact aW.om
    have zbG:b<=N1:=by rw[xE];exact dW
    rw[show o+(N1-b)=(o+(N1-b):Nat) from rfl]at mr
    have HJ:=eW aW gT Qy dW xE hu hW
    clear aW gT Qy dW xE hu hW
    go_upto_region 16 with fail
    refine xY 14 (by kernel_rfl) (by kernel_rfl) ?_
    simp only[lh,sW,nY,nE]
    repeat (go_big_quiet_step (fail))
    refine wpQuiet_nil ?_
    have sd:=HJ.out.1.cG (Fr.aB [] wr)
    have HD:=af sd
    clear sd
    go_wp2_with (go_at_call 386;refine (Ip R p F bs bI a3 nI most _ u wr.drew HD.out).mono ?_;rintro e w4 (⟨c,hm,dB,bR,rfl,f1⟩|⟨uI,a4,Az,E9,hm,rfl,s4,f4⟩);all_goals (have Km:=af hm;clear hm);all_goals (try (have K4:=ai s4 f4;clear s4 f4)))
    ·go_ret
     have hm:=Km.out
     cases hp:iy most bI u with
     | error e=>
      rw[hp]at hm
      have M9:e=c:=by simpa[Except.map] using hm
      have e1:gR most b n out = .error c:=by rw[<-HJ.out.2.2.1,gR,<-HJ.out.2.2.2.2.1,<-HJ.out.2.2.2.2.2.1,hp,M9]
      exact .inl ⟨c,by rw[HM.o0,e1],dB,bR,rfl,(HJ.out.2.2.2.2.2.2.drew).step f1 (λx hx=>by
       rcases eX.1 hx with h3|hx
       ·exact .inl (by simp[h3])
       ·rcases eX.1 hx with h3|hx
        ·exact .inl (by simp[h3])
        ·rcases HJ.out.2.1.new x hx with h3|h3
         ·exact .inl (by simp[h3])
         ·exact .inr (bP (bP (bP K1.l2.size K2.l2.size) K3.out.2.2.size) h3))⟩
     | ok o2=>rw[hp]at hm;cases hm
    ·go_roundg k
     case measure=>omega
     case rel=>
      have hm:=Km.out
      cases hp:iy most bI u with
      | error e=>rw[hp]at hm;cases hm
      | ok o2=>
       rw[hp]at hm
       have jQ:o2=uI/\a3=a4:=by simpa[Except.map] using hm
       obtain⟨rfl,rfl⟩:=jQ
       have hi:=zhp hp
       refine⟨j+1,o2,Az,E9,by go_num,by omega,K4.o0,HJ.out.2.1.trans ((Way.Lk _ _ _ _ _ (Fr.aB [] wr)).trans K4.l1),?_,by rw[hi.1];simp;have:=HJ.out.2.2.2.1;omega⟩
       rw[<-HJ.out.2.2.1,gR,<-HJ.out.2.2.2.2.1,<-HJ.out.2.2.2.2.2.1,hp]
   ·have MT:gk=0:=by omega
    subst MT
    have e1:gR most b n out = .ok bI:=by rw[<-Qy,gR]
    have HE:=aq aW gT e1
    clear aW gT Qy dW e1
    obtain rfl:j=n:=by omega
    go_wp2
    go_ret
    exact .inr ⟨bI,a3,jX,nI,by rw[HM.o0,HE.l2],rfl,HE.o0,(Way.of _ _ _ _ _ ((K1.l2.trans K2.l2).trans K3.out.2.2)).trans HE.o1⟩
theorem zjo (R p:Nat) (F:LN) (bs out:LB) (at_ oc most s:Nat) (oa:OA) (w:World) (h:St w R p F bs at_ out oa oc most) (hs:s<256) :
  Calls Tryz.prog 386 #[.pointer (some ⟨R,0,none⟩),.int .u8 s] w (Bl w R p F bs oa most ((iy most out (UInt8.ofNat s)).map λo=>(o,at_))):=by
 have:=Ip R p F bs out at_ oc most oa (UInt8.ofNat s) w h;rwa [show ((UInt8.ofNat s).toNat:Int)=(s:Int) from by simp[xd];omega]at this
theorem ZX {dl:LN} (h:dO bs most dl s out a = .ok (o,a1)):a<=a1:=by
 have ht:∀{n a v b:Nat},aX bs a n = .ok (v,b)->a<=b:=λ{n a v b} h=>by
  unfold aX at h;split at h
  ·simp only[jc,gq]at h;omega
  ·cases h
 unfold dO at h;split at h
 ·cases h
 ·rename_i n a2 h1;have e1:a<=a2:=by
   unfold cB at h1;split at h1
   ·simp only[jc,gq]at h1;omega
   ·split at h1
    ·simp only[jc,gq]at h1;omega
    ·split at h1
     ·cases h1
     ·rename_i hh;have:=ht hh;simp only[jc,gq]at h1;omega
  split at h
  ·cases h
  ·rename_i d a3 h2;have e2:=(Iy h2).2;split at h
   ·cases h
   ·split at h
    ·cases h
    ·rename_i b a4 h3;have e3:a3<=a4:=by
      unfold fZ at h3;split at h3
      ·simp only[jc,gq]at h3;omega
      ·split at h3
       ·cases h3
       ·rename_i hh;have:=ht hh;simp only[jc,gq]at h3;omega
     split at h
     ·cases h
     ·split at h
      ·cases h
      ·simp only[jc,gq]at h;omega
theorem ql0 (R p PL PD:Nat) (F:LN) (bs out:LB) (ll dl:LN) (at_ oc most:Nat) (oa:OA) (w:World) (h:St w R p F bs at_ out oa oc most) (hL:Tb w PL ll (R::p::ag oa)) (hD:Tb w PD dl (R::p::ag oa)) :
  Calls Tryz.prog 388 #[.pointer (some ⟨R,0,none⟩),.pointer (some ⟨PL,0,none⟩),.pointer (some ⟨PD,0,none⟩)] w (Bl w R p F bs oa most (cq bs most ll dl (fuel bs) out at_)):=by
 obtain⟨M,hM⟩:=ah (cq bs most ll dl (fuel bs) out at_);rw[<-hM];have H:=aA h hL hD hM;clear h hL hD hM;go_enter Tryz.func388,Tryz.ntmps388;go_wp2;go_step3;go_wp2;go_step3;go_wp2;go_loopg [6,7,8,9,10] (fuel bs) (λk s6 s7 s8 s9 s10 wr=>∃(a1:Nat) (bI:LB) (jX:OA) (nI:Nat),St wr R p F bs a1 bI jX nI most/\Way w R p oa wr jX/\cq bs most ll dl k bI a1=M/\8*bs.length+1<=a1+k);case atStart=>exact⟨at_,out,oa,oc,H.o0,.refl _ _ _ _,H.l3.symm,by unfold fuel;omega⟩
 case round=>
  obtain⟨a1,bI,jX,nI,aW,gT,Qx,Jq⟩:=hrel;have Gy:=aW.pF.2;obtain⟨k,rfl⟩:∃k,gk=k+1:=⟨gk-1,by omega⟩;have c0:=cell_of aW.box 0;simp only[dJ,dk,dU]at c0;have HJ:=aQ aW gT Qx (H.o1.way gT) (H.o2.way gT);clear aW gT Qx;go_wp2_with (first|(go_at_call 395;refine (Iv R p PL F bs bI ll a1 nI most jX wr HJ.o0 HJ.o3).mono ?_;rintro e w2 (⟨v2,c,hm,dB,bR,rfl,f1⟩|⟨s,a2,hm,rfl,s2,f2⟩);all_goals (try (have K2:=aq hm s2 f2;clear hm s2 f2)))|(go_at_call 386;refine (zjo R p F bs bI a2 nI most s jX w2 K2.o1 (by omega)).mono ?_;rintro e w4 (⟨c,hm,dB,bR,rfl,f1⟩|⟨uI,a4,Az,E9,hm,rfl,s4,f4⟩);all_goals (have Km:=af hm;clear hm);all_goals (try (have K4:=ai s4 f4;clear s4 f4)))|(go_at_call 396;refine (qz6 R p PD F bs bI dl a2 nI most s jX w2 K2.o1 (HJ.l4.fr K2.l2 (by simp)) (by omega) (by omega)).mono ?_;rintro e w4 (⟨c,hm,dB,bR,rfl,f1⟩|⟨uI,a4,Az,E9,hm,rfl,s4,f4⟩);all_goals (have Km:=af hm;clear hm);all_goals (try (have K4:=ai s4 f4;clear s4 f4))))
  ·rw[Exit.noGoto_ret];go_ret;exact .inl ⟨c,by rw[<-HJ.o2,cq,hm],dB,bR,rfl,HJ.o1.GI f1⟩
  ·rw[Exit.noGoto_ret];go_ret;have hm:=Km.out;cases hp:iy most bI (UInt8.ofNat s) with
   | ok o2=>rw[hp]at hm;cases hm
   | error e=>
    rw[hp]at hm;have M9:e=c:=by simpa[Except.map] using hm
    have e1:cq bs most ll dl (k+1) bI a1 = .error c:=by rw[cq,K2.o0];simp only[if_pos (show s<256 by omega),hp,M9]
    exact .inl ⟨c,by rw[<-HJ.o2,e1],dB,bR,rfl,(HJ.o1.trans (Way.of _ _ _ _ _ K2.l2)).GI f1⟩
  ·go_roundg k;case measure=>omega
   case rel=>
    have hm:=Km.out;cases hp:iy most bI (UInt8.ofNat s) with
    | error e=>rw[hp]at hm;cases hm
    | ok o2=>
     rw[hp]at hm;have jQ:o2=uI/\a2=a4:=by simpa[Except.map] using hm
     obtain⟨rfl,rfl⟩:=jQ;have bF:=(Iy K2.o0).2;refine⟨a2,o2,Az,E9,K4.o0,(HJ.o1.trans (Way.of _ _ _ _ _ K2.l2)).trans K4.l1,?_,by omega⟩;rw[<-HJ.o2,cq,K2.o0];simp only[if_pos (show s<256 by omega),hp]
  ·have zc:((s:Int)==256)=true:=by assumption
   have hs:s=256:=by have:=beq_iff_eq.1 zc;omega
   rw[Exit.noGoto_ret];go_ret;have e1:cq bs most ll dl (k+1) bI a1 = .ok (bI,a2):=by rw[cq,K2.o0];simp only[if_neg (show ¬s<256 by omega),if_pos hs]
   exact .inr ⟨bI,a2,jX,nI,by rw[<-HJ.o2,e1],rfl,K2.o1,HJ.o1.trans (Way.of _ _ _ _ _ K2.l2)⟩
  ·have zc:((s:Int)==256)=false:=by assumption
   have hs:s≠256:=λhe=>by rw[he]at zc;cases zc
   rw[Exit.noGoto_ret];go_ret;have e1:cq bs most ll dl (k+1) bI a1 = .error 3:=by rw[cq,K2.o0];simp only[if_neg (show ¬s<256 by omega),if_neg hs,if_pos (show 286<=s by omega)]
   exact .inl ⟨3,by rw[<-HJ.o2,e1],by decide,by decide,rfl,HJ.o1.GI (K2.l2.mono (by simp))⟩
  ·have zc:((s:Int)==256)=false:=by assumption
   rw[Exit.noGoto_ret];go_ret;have hs:s≠256:=λhe=>by rw[he]at zc;cases zc
   have e1:cq bs most ll dl (k+1) bI a1 = .error c:=by rw[cq,K2.o0];simp only[if_neg (show ¬s<256 by omega),if_neg hs,if_neg (show ¬286<=s by omega),Km.out]
   exact .inl ⟨c,by rw[<-HJ.o2,e1],dB,bR,rfl,(HJ.o1.trans (Way.of _ _ _ _ _ K2.l2)).GI f1⟩
  ·have zc:((s:Int)==256)=false:=by assumption
   go_roundg k;case measure=>omega
   case rel=>
    have hs:s≠256:=λhe=>by rw[he]at zc;cases zc
    have bF:=(Iy K2.o0).2;have zaX:=ZX Km.out;refine⟨a4,uI,Az,E9,K4.o0,(HJ.o1.trans (Way.of _ _ _ _ _ K2.l2)).trans K4.l1,?_,by omega⟩;rw[<-HJ.o2,cq,K2.o0];simp only[if_neg (show ¬s<256 by omega),if_neg hs,if_neg (show ¬286<=s by omega),Km.out]
end inf
namespace inf
open Go bm bl huf
variable {bs o out:LB} {a a1 most:Nat}
theorem yF {n v:Nat} (h:aX bs a n = .ok (v,a1)):a1=a+n:=by
 unfold aX at h;split at h
 ·simp only[jc,gq]at h;exact h.2.symm
 ·cases h
theorem KF {bs:LB} {most:Nat}:∀{n:Nat} {out o:LB} {q a:Nat},bY bs most n out q = .ok (o,a)->8*q<=a
 | 0,out,o,q,a,h=>by simp only[bY,jc,gq]at h;omega
 | n+1,out,o,q,a,h=>by
  rw[bY]at h;split at h
  ·split at h
   ·cases h
   ·have:=KF h;omega
  ·cases h
theorem qxr (h:dV bs most out a = .ok (o,a1)):a<=a1:=by
 unfold dV at h;split at h
 ·split at h
  ·have:=KF h;omega
  ·cases h
 ·cases h
theorem Pj {bs:LB} {most:Nat} {ll dl:LN}:∀{f:Nat} {out o:LB} {a a1:Nat},cq bs most ll dl f out a = .ok (o,a1)->a<=a1
 | 0,out,o,a,a1,h=>by simp only[cq]at h;cases h
 | f+1,out,o,a,a1,h=>by
  rw[cq]at h;split at h
  ·cases h
  ·rename_i s a2 hs;have h1:=(Iy hs).2;split at h
   ·split at h
    ·cases h
    ·have:=Pj h;omega
   ·split at h
    ·simp only[jc,gq]at h;omega
    ·split at h
     ·cases h
     ·split at h
      ·cases h
      ·rename_i o2 a3 hm;have h2:=ZX hm;have:=Pj h;omega
theorem ZW {bs:LB}:∀{ps fs gs:LN} {a a1:Nat},dZ bs ps fs a = .ok (gs,a1)->a<=a1
 | [],fs,gs,a,a1,h=>by simp only[dZ,jc,gq]at h;omega
 | i::t,fs,gs,a,a1,h=>by
  rw[dZ]at h;split at h
  ·cases h
  ·rename_i v a2 hm;have h1:=yF hm;have:=ZW h;omega
theorem SG {bs:LB} {ls:LN} {n:Nat}:∀{f:Nat} {L K:LN} {a a1:Nat},cr bs ls n f L a = .ok (K,a1)->a<=a1
 | 0,L,K,a,a1,h=>by simp only[cr]at h;cases h
 | f+1,L,K,a,a1,h=>by
  rw[cr]at h;split at h
  ·simp only[jc,gq]at h;omega
  ·split at h
   ·cases h
   ·rename_i s a2 hs;have h1:=(Iy hs).2;split at h
    ·have:=SG h;omega
    ·split at h
     ·cases h
     ·rename_i v a3 hm;have h2:=yF hm;split at h
      ·cases h
      ·have:=SG h;omega
theorem zhs (h:lu bs most out a = .ok (o,a1)):a<=a1:=by
 unfold lu at h;split at h
 ·cases h
 ·rename_i v1 b1 h1;have e1:=yF h1;split at h
  ·cases h
  ·split at h
   ·cases h
   ·rename_i v2 b2 h2;have e2:=yF h2;split at h
    ·cases h
    ·split at h
     ·cases h
     ·rename_i v3 b3 h3;have e3:=yF h3;unfold nh at h;split at h
      ·cases h
      ·rename_i fs b4 h4;have e4:=ZW h4;split at h
       ·cases h
       ·unfold mZ at h;split at h
        ·cases h
        ·rename_i ls b5 h5;have e5:=SG h5;split at h
         ·cases h
         ·split at h
          ·cases h
          ·split at h
           ·cases h
           ·have:=Pj h;omega
theorem S6 {k:Nat} (h:dP bs most k out a = .ok (o,a1)):a<=a1:=by
 unfold dP at h;split at h
 ·exact qxr h
 ·split at h
  ·exact Pj h
  ·exact zhs h
end inf

end Go.Proofs.YticadfhpolhkeaaGreatDoor