/-
  Texts of this proof, one behind the other: InfA, HuffW, HuffX, InfB, InfC, InfD, InfJ.
-/
import Derived.Test.YtkmpfgpfbmeihaaGreatDoorQ5
set_option maxHeartbeats 16000000
set_option maxRecDepth 100000
set_option linter.unusedVariables false
set_option linter.unusedSimpArgs false
namespace Go.Proofs.YtkmpfgpfbmeihaaGreatDoor
namespace inf
open Go Go.RowKit lib bm bl huf
structure St (w:World) (R p:Nat) (F:LN) (bs:LB) (at_:Nat) (out:LB) (oa:OA) (oc most:Nat):Prop where
 box:w.heap[R]?=some (.cells #[.pointer (some ⟨p,0,none⟩),.slice oa out.length oc,.int .i64 most] 209 (0,0))
 rd:bits.Rd w p F bs at_
 own:w.ownsRow 0 5 1 (.slice oa out.length oc) out.length (out.map bv)
 r1:R∉F
 r2:R∉af oa
 r3:∀x∈af oa,x∉F
 low:∀x∈F,x<w.heap.size
 sm:most<=100000000
 sb:bs.length<=100000000
 om:out.length<=most
structure Way (w:World) (R p:Nat) (oa:OA) (w':World) (iX:OA):Prop where
 fr:Fr (R::p::af oa) w w'
 new:∀x∈af iX,x∈af oa\/w.heap.size<=x
theorem Way.refl (w:World) (R p:Nat) (oa:OA):Way w R p oa w oa:=⟨.refl _ w,λ_ h=>.inl h⟩
theorem Way.trans {w w1 w2:World} {R p:Nat} {oa jP yg:OA} (h:Way w R p oa w1 jP) (k:Way w1 R p jP w2 yg):Way w R p oa w2 yg:=
 ⟨h.fr.step k.fr λx hx=>by
  simp only[fP]at hx ⊢
  rcases hx with rfl|rfl|hx
  ·exact .inl (.inl rfl)
  ·exact .inl (.inr (.inl rfl))
  ·rcases h.new x hx with h1|h1
   ·exact .inl (.inr (.inr h1))
   ·exact .inr h1,λx hx=>by
  rcases k.new x hx with h1|h1
  ·exact h.new x h1
  ·exact .inr (ck h.fr.size h1)⟩
theorem Way.J6 {w w1 w2:World} {R p:Nat} {oa jP:OA} (h:Way w R p oa w1 jP) (f:Fr (R::p::af jP) w1 w2):Fr (R::p::af oa) w w2:=
 h.fr.step f λx hx=>by
  simp only[fP]at hx ⊢;rcases hx with rfl|rfl|hx
  ·exact .inl (.inl rfl)
  ·exact .inl (.inr (.inl rfl))
  ·rcases h.new x hx with h1|h1
   ·exact .inl (.inr (.inr h1))
   ·exact .inr h1
theorem Way.of (w w':World) (R p:Nat) (oa:OA) (f:Fr [p] w w'):Way w R p oa w' oa:=⟨f.mono (by simp),λ_ h=>.inl h⟩
theorem Way.N4 (w w':World) (R p:Nat) (oa:OA) (f:Fr [] w w'):Way w R p oa w' oa:=⟨f.mono (by simp),λ_ h=>.inl h⟩
theorem Way.old {w w':World} {R p:Nat} {oa iX:OA} (h:Way w R p oa w' iX) {x:Nat} (hx:x<w.heap.size) (hn:x∉R::p::af oa):x∉R::p::af iX:=by
 simp only[fP,not_or]at hn ⊢;refine⟨hn.1,hn.2.1,λh1=>?_⟩;rcases h.new x h1 with h2|h2
 ·exact hn.2.2 h2
 ·omega
theorem St.fr {w w':World} {R p:Nat} {F S:LN} {bs out:LB} {at_ oc most:Nat} {oa:OA} (h:St w R p F bs at_ out oa oc most) (f:Fr S w w') (hR:R∉S) (hF:∀x∈F,x∉S) (ho:∀x∈af oa,x∉S):St w' R p F bs at_ out oa oc most:=
 ⟨f.af h.box hR,bits.Hw h.rd f hF,dr h.own f (λk hk=>ho k (by rw[<-dD oa out.length oc,hk];simp)),h.r1,h.r2,h.r3,λx hx=>eW (h.low x hx) f.size,h.sm,h.sb,h.om⟩
theorem St.dQ {w w':World} {R p:Nat} {F:LN} {bs out:LB} {at_ oc most:Nat} {oa:OA} (h:St w R p F bs at_ out oa oc most) (f:Fr [] w w'):St w' R p F bs at_ out oa oc most:=h.fr f (by simp) (by simp) (by simp)
theorem St.pF {w:World} {R p:Nat} {F:LN} {bs out:LB} {at_ oc most:Nat} {oa:OA} (h:St w R p F bs at_ out oa oc most):p∈F/\at_<=8*bs.length:=by obtain⟨ao,cap,hr,hcs,rfl,dV,hlen,bR,cZ,dK⟩:=h.rd;exact⟨by simp,bR⟩
theorem St.take {w w':World} {R p:Nat} {F:LN} {bs out:LB} {at_ a' oc most:Nat} {oa:OA} (h:St w R p F bs at_ out oa oc most) (f:Fr [p] w w') (hr:bits.Rd w' p F bs a'):St w' R p F bs a' out oa oc most:=by
 have hp:=h.pF.1;refine⟨f.af h.box (by simp;rintro rfl;exact h.r1 hp),hr,dr h.own f (λk hk=>?_),h.r1,h.r2,h.r3,λx hx=>eW (h.low x hx) f.size,h.sm,h.sb,h.om⟩;have rH:k∈af oa:=by rw[<-dD oa out.length oc,hk];simp
 simp;rintro rfl;exact h.r3 _ rH hp
theorem St.put {w1 w2:World} {R p n:Nat} {F:LN} {bs out:LB} {at_ oc most gg:Nat} {oa dv:OA} {c:UInt8} {o:Obj} (h:St w1 R p F bs at_ out oa oc most) (hn:n=out.length) (hl:n<most)
  (A:aV (w1.alloc o) w2 5 1 (af oa) dv (n+1) gg (out.map bv++[bv c])) :
  St (w2.setCell ⟨R,1,none⟩ (.slice dv (n+1) gg)) R p F bs at_ (out++[c]) dv gg most/\Way w1 R p oa (w2.setCell ⟨R,1,none⟩ (.slice dv (n+1) gg)) dv:=by
 have f2:Fr (af oa) w1 w2:=((Fr.refl _ w1).alloc _).trans A.fr;have fR:Fr [R] w2 (w2.setCell ⟨R,1,none⟩ (.slice dv (n+1) gg)):=(Fr.refl [R] w2).setCell (by simp) _;have b2:=f2.af h.box h.r2;have GZ:R<w1.heap.size:=lt_of_block h.box;have lJ:R∉af dv:=λhx=>by
  rcases A.at_ R hx with k|k
  ·exact h.r2 k
  ·rw[fD]at k;omega
 have e:(out++[c]).length=n+1:=by rw[hn];simp
 have hpF:=h.pF.1;refine⟨⟨?_,?_,?_,h.r1,lJ,λx hx hF=>?_,λx hx=>eW (h.low x hx) (ck f2.size fR.size),h.sm,h.sb,by rw[e];omega⟩,⟨?_,λx hx=>?_⟩⟩
 ·rw[bI b2,e];rfl
 ·exact bits.Hw (bits.Hw h.rd f2 (λx hx hb=>h.r3 x hb hx)) fR (λx hx hb=>by simp at hb;rw[hb]at hx;exact h.r1 hx)
 ·rw[e,gF];exact dr A.own fR (λk hk=>by
   have rH:k∈af dv:=by rw[<-dD dv (n+1) gg,hk];simp
   simp
   rintro rfl
   exact lJ rH)
 ·rcases A.at_ x hx with k|k
  ·exact h.r3 x k hF
  ·rw[fD]at k;have:=h.low x hF;omega
 ·exact (f2.mono (λx hx=>.inl (by simp[hx]))).trans (fR.mono (by simp))
 ·rcases A.at_ x hx with k|k
  ·exact .inl k
  ·rw[fD]at k;exact .inr (by omega)
def DG (w:World) (R p:Nat) (F:LN) (bs:LB) (oa:OA) (most:Nat) (m:Except Nat (List UInt8×Nat)) (e:Ending) (w':World):Prop:=
 (∃c,m = .error c/\0<c/\c<100/\e = .returned (.int .i64 (c:Nat))/\Fr (R::p::af oa) w w')\/
 (∃out a iX mn,m = .ok (out,a)/\e = .returned (.int .i64 0)/\St w' R p F bs a out iX mn most/\Way w R p oa w' iX)
def ox (w:World) (R p:Nat) (F:LN) (bs out:LB) (oa:OA) (oc most:Nat) (m:Except Nat (Nat×Nat)) (e:Ending) (w':World):Prop:=
 (∃(v:Int) (c:Nat),m = .error c/\0<c/\c<100/\e = .returned (.tuple #[.int .i64 v,.int .i64 (c:Nat)])/\Fr (R::p::af oa) w w')\/
 (∃v a,m = .ok (v,a)/\e = .returned (.tuple #[.int .i64 (v:Nat),.int .i64 0])/\St w' R p F bs a out oa oc most/\Fr [p] w w')
theorem FM (R p:Nat) (F:LN) (bs out:LB) (at_ oc most n:Nat) (oa:OA) (w:World) (h:St w R p F bs at_ out oa oc most) (hn:n<=31) :
  Calls Tryz.prog 134 #[.pointer (some ⟨R,0,none⟩),.int .i64 n] w (ox w R p F bs out oa oc most (aY bs at_ n)):=by
 have c0:=cell_of h.box 0;simp only[bF,aT,bP]at c0;have H:=ah h;clear h;by_cases hl:at_+n<=8*bs.length
 ·have hv:cG (((au bs).drop at_).take n)<4294967296:=eW (S8 _ _) (ck (kh (by decide) (show n<=32 by omega)) (by decide));obtain⟨v,wg⟩:=ai (cG (((au bs).drop at_).take n));have ht:=zey p F bs at_ n w H.out.rd (by omega) hl;have e:aY bs at_ n = .ok (v,at_+n):=by unfold aY;rw[if_pos hl,wg]
  rw[e];rw[<-wg]at ht hv;have HT:=ah ht;clear ht wg e;go_enter Tryz.func134,Tryz.ntmps134;go_wp2_with (go_at_call 165;refine HT.out.mono ?_;rintro e w1 ⟨rfl,hr,f1⟩);go_ret2;exact .inr ⟨v,at_+n,rfl,rfl,H.out.take f1 hr,f1⟩
 ·have ht:=bits.FN p F bs at_ n w H.out.rd (.inr (.inr (by omega)));have e:aY bs at_ n = .error 4:=by unfold aY;rw[if_neg hl]
  rw[e];have HT:=ah ht;clear ht e;go_enter Tryz.func134,Tryz.ntmps134;go_wp2_with (go_at_call 165;refine HT.out.mono ?_;rintro e w1 ⟨rfl,hr,f1⟩);go_ret2;exact .inl ⟨_,4,rfl,by decide,by decide,rfl,f1.mono (by simp)⟩
theorem Li (R p:Nat) (F:LN) (bs out:LB) (at_ oc most:Nat) (oa:OA) (c:UInt8) (w:World) (h:St w R p F bs at_ out oa oc most) :
  Calls Tryz.prog 186 #[.pointer (some ⟨R,0,none⟩),.int .u8 (c.toNat:Nat)] w (DG w R p F bs oa most ((jA most out c).map λo=>(o,at_))):=by
 have c1:=cell_of h.box 1;have c2:=cell_of h.box 2;simp only[bF,aT,bP]at c1 c2;obtain⟨n,hn⟩:=ai out.length;have hs:=h.sm;rw[<-hn]at c1;have H:=ak h hn;clear h;by_cases hl:most<=n
 ·have e:jA most out c = .error 5:=by unfold jA;rw[if_pos (by omega)]
  rw[e];clear e hn;go_enter Tryz.func186,Tryz.ntmps186;go_upto_region 1 with fail;go_quiet (fail);go_wp2;go_ret;exact .inl ⟨5,rfl,by decide,by decide,rfl,.drewN _ _ _⟩
 ·have e:jA most out c = .ok (out++[c]):=by unfold jA;rw[if_neg (by omega)]
  rw[e];clear e hn;go_enter Tryz.func186,Tryz.ntmps186;go_upto_region 1 with fail;go_quiet (fail);obtain⟨w1,cP⟩:=ai (w.drewN nq);have f1:Fr [] w w1:=by rw[cP];exact .drewN _ _ _
  have S1:=H.o0.dQ f1;have c1':=f1.cell c1 (by simp);rw[<-cP];clear cP c1 c2;have HS:=ak f1 S1;clear f1 S1;go_wp2_with (at_builtin;go_loud (refine gM bits.aq rfl _ _ rfl (.slice oa n oc) n (out.map bv) (af oa) rfl (dD oa n oc) (by rw[H.l1];exact dr HS.l1.own ((Fr.refl [] w1).alloc _) (by simp)) (some ⟨w1.heap.size,0,none⟩) 1 1 [bv c] (by first|rfl|simp) (ay _) (λh=>by cases h) (nM _ _ _ _ (bC _ _)) rfl (by intro u hu;simp only[iH]at hu;rw[hu];rfl) (by omega) (by unfold maxLen;omega) ?_);intro dv gg w2 A2;have f2:Fr (af oa) w1 w2:=(Fr.refl _ w1).trans (((Fr.refl _ w1).alloc _).trans A2.fr);have b2:=f2.af HS.l1.box H.o0.r2;have z1:=aW b2 1;have d1:=cell_of b2 1;rw[<-H.l1]at d1;simp only[bF,aT,bP]at d1;have HA:=aw A2 f2 b2;clear A2 f2 b2 c1');go_ret;have hP:=HS.l1.put H.l1 (by omega) HA.o0;exact .inr ⟨_,_,dv,gg,rfl,rfl,hP.1,(Way.N4 _ _ _ _ _ HS.o0).trans hP.2⟩
end inf
namespace huf
open Go Go.RowKit lib bm bl
def eP (ls:LN) (l i:Nat):List Nat:=if l=0 then [] else syms ls l i
theorem WB (ls:LN) (l i:Nat):eP ls l (i+1)=eP ls l i++if ae ls i=l/\l≠0 then [i] else []:=by
 unfold eP;by_cases h:l=0
 ·simp[h]
 ·simp[h,WE]
theorem qmv (ls:LN) (l:Nat):(eP ls l ls.length).length=ke ls l:=by unfold eP ke;split<;>simp
theorem zfy (ls:LN) (l i:Nat):(eP ls l i).length<=i:=by
 unfold eP;split
 ·simp
 ·have:=FY (λs=>ae ls s==l) (List.range i);rw[Da]at this;exact this
theorem qw5 {ls:LN} {i l:Nat} (hi:i<ls.length) (hl:ae ls i=l) (h0:l≠0) (he:(eP ls l i).length=0):code ls i=gZ ls l:=by unfold eP at he;rw[if_neg h0,Xq ls l i (by omega)]at he;unfold code;rw[hl,he,ie]
structure gA (w0 w:World) (P D:Nat) (ls:LN) (i:Nat) (first:Nat->Nat) (sa:Nat->Option Addr) (sc:Nat->Nat):Prop where
 box:∃A,w.heap[P]?=some (.cells A 309 (0,0))/\A.size=33/\(∀l,l<16->A[l]?=some (.int .u32 (first l:Nat)))/\(∀l,l<16->A[16+l]?=some (.slice (sa l) (eP ls l i).length (sc l)))/\A[32]?=some (.int .i64 (D:Nat))
 fst:∀l,0<(eP ls l i).length->first l=gZ ls l
 top:∀s,s<i->ae ls s<=D
 low:D<=15
 low':∀l,first l<=32768
 rows:∀l,l<16->Made w0 w 3 1 (sa l) (eP ls l i).length (sc l) (ints (eP ls l i))
 sep:∀l m,l<16->m<16->l≠m->∀x∈af (sa l),x∉af (sa m)
 off:∀l,l<16->P∉af (sa l)
 new:w0.heap.size<=P
theorem gA.tab {w0 w:World} {P D:Nat} {ls:LN} {first:Nat->Nat} {sa:Nat->Option Addr} {sc:Nat->Nat} (h:gA w0 w P D ls ls.length first sa sc) (hlen:ls.length<=400):Aa w P D ls first sa sc:=by
 obtain⟨A,hA,h1,h2,h3,h4⟩:=h.box;refine⟨⟨A,hA,h1,h2,λl hl=>by rw[h3 l hl,qmv],h4⟩,λl hl=>h.fst l (by rw[qmv];exact hl),h.top,h.low,h.low',λl hl h0=>?_,hlen⟩;have hr:=h.rows l hl;have e:eP ls l ls.length=syms ls l ls.length:=by unfold eP;rw[if_neg (by omega)]
 rw[e]at hr;exact R3 hr rfl
def pZ:Array Value:=#[.int .u32 0,.int .u32 0,.int .u32 0,.int .u32 0,.int .u32 0,.int .u32 0,.int .u32 0,.int .u32 0,.int .u32 0,.int .u32 0,.int .u32 0,.int .u32 0,.int .u32 0,.int .u32 0,.int .u32 0,.int .u32 0,.slice none 0 0,.slice none 0 0,.slice none 0 0,.slice none 0 0,.slice none 0 0,.slice none 0 0,.slice none 0 0,.slice none 0 0,.slice none 0 0,.slice none 0 0,.slice none 0 0,.slice none 0 0,.slice none 0 0,.slice none 0 0,.slice none 0 0,.slice none 0 0,.int .i64 0]
theorem zfj:∀l,l<16->pZ[l]?=some (.int .u32 0)
 | 0,_=>rfl
 | 1,_=>rfl
 | 2,_=>rfl
 | 3,_=>rfl
 | 4,_=>rfl
 | 5,_=>rfl
 | 6,_=>rfl
 | 7,_=>rfl
 | 8,_=>rfl
 | 9,_=>rfl
 | 10,_=>rfl
 | 11,_=>rfl
 | 12,_=>rfl
 | 13,_=>rfl
 | 14,_=>rfl
 | 15,_=>rfl
 | _+16,h=>absurd h (by omega)
theorem zfk:∀l,l<16->pZ[16+l]?=some (.slice none 0 0)
 | 0,_=>rfl
 | 1,_=>rfl
 | 2,_=>rfl
 | 3,_=>rfl
 | 4,_=>rfl
 | 5,_=>rfl
 | 6,_=>rfl
 | 7,_=>rfl
 | 8,_=>rfl
 | 9,_=>rfl
 | 10,_=>rfl
 | 11,_=>rfl
 | 12,_=>rfl
 | 13,_=>rfl
 | 14,_=>rfl
 | 15,_=>rfl
 | _+16,h=>absurd h (by omega)
theorem WC (ls:LN) (l:Nat):eP ls l 0=[]:=by unfold eP;split<;>simp[WG]
theorem gA.start (ls:LN) {w0 w1:World} (f:Fr [] w0 w1):gA w0 (w1.alloc (.cells pZ 309 (0,0))) w1.heap.size 0 ls 0 (λ_=>0) (λ_=>none) (λ_=>0):=by have f2:Fr [] w0 (w1.alloc (.cells pZ 309 (0,0))):=f.trans ((Fr.refl [] w1).alloc _);refine⟨⟨pZ,bC w1 _,rfl,zfj,λl hl=>by rw[WC];exact zfk l hl,rfl⟩,λl h=>by rw[WC]at h;simp at h,λs hs=>by omega,by omega,λ_=>by omega,λl hl=>?_,λl m _ _ _ x hx=>by simp[af]at hx,λl _=>by simp[af],f.size⟩;rw[WC];exact (Made.none w0 _ _).eG f2
theorem gA.skip {w0 w:World} {P D i:Nat} {ls:LN} {first:Nat->Nat} {sa:Nat->Option Addr} {sc:Nat->Nat} (h:gA w0 w P D ls i first sa sc) (h0:ae ls i=0):gA w0 w P D ls (i+1) first sa sc:=by
 have e:∀l,eP ls l (i+1)=eP ls l i:=λl=>by rw[WB,if_neg (by omega),mW]
 obtain⟨A,hA,h1,h2,h3,h4⟩:=h.box;refine⟨⟨A,hA,h1,h2,λl hl=>by rw[e];exact h3 l hl,h4⟩,λl hl=>h.fst l (by rw[e]at hl;exact hl),λs hs=>?_,h.low,h.low',λl hl=>by rw[e];exact h.rows l hl,h.sep,h.off,h.new⟩;rcases Nat.lt_succ_iff_lt_or_eq.1 hs with h5|h5
 ·exact h.top s h5
 ·rw[h5,h0];exact ep _
theorem gA.fr {w0 w w':World} {P D i:Nat} {ls:LN} {first:Nat->Nat} {sa:Nat->Option Addr} {sc:Nat->Nat} (h:gA w0 w P D ls i first sa sc) (f:Fr [] w w'):gA w0 w' P D ls i first sa sc:=by obtain⟨A,hA,h1⟩:=h.box;exact⟨⟨A,f.af hA (by simp),h1⟩,h.fst,h.top,h.low,h.low',λl hl=>(h.rows l hl).eG f,h.sep,h.off,h.new⟩
theorem gA.AX {w0 w:World} {P D i x:Nat} {ls:LN} {first:Nat->Nat} {sa:Nat->Option Addr} {sc:Nat->Nat} (h:gA w0 w P D ls i first sa sc) (hx:x<16) (hn:gZ ls x<=32768) :
  gA w0 (w.setCell ⟨P,x,none⟩ (.int .u32 (gZ ls x:Nat))) P D ls i (λl=>if l=x then gZ ls x else first l) sa sc:=by
 obtain⟨A,hA,h1,h2,h3,h4⟩:=h.box;have f:Fr [P] w (w.setCell ⟨P,x,none⟩ (.int .u32 (gZ ls x:Nat))):=(Fr.refl [P] w).setCell (by simp) _;refine⟨⟨_,bI hA _,by simp[h1],λl hl=>?_,λl hl=>?_,?_⟩,λl hl=>?_,h.top,h.low,λl=>?_,λl hl=>?_,h.sep,h.off,h.new⟩
 ·by_cases e:l=x
  ·subst e;rw[if_pos rfl,iG (by omega)]
  ·rw[if_neg e,aX (by omega)];exact h2 l hl
 ·rw[aX (by omega)];exact h3 l hl
 ·rw[aX (by omega)];exact h4
 ·show (if l=x then gZ ls x else first l)=gZ ls l;split
  ·rename_i e;rw[e]
  ·exact h.fst l hl
 ·show (if l=x then gZ ls x else first l)<=32768;split
  ·exact hn
  ·exact h.low' l
 ·have m:=h.rows l hl;exact⟨dr m.own f (λy hy hm=>h.off l hl (by simp at hm;rw[<-hm];have e:=dD (sa l) (eP ls l i).length (sc l);rw[<-e,hy];simp)),m.fr.step f (λz hz=>.inr (by simp at hz;rw[hz];exact h.new)),m.new,m.le,m.max,m.nil⟩
theorem Made.gJ {w0 w w':World} {S:LN} {e:TypeId} {size:Nat} {ao:OA} {n cap:Nat} {xs:LV} (h:Made w0 w e size ao n cap xs) (f:Fr S w w') (hn:∀y∈af ao,y∉S) (hS:∀z∈S,w0.heap.size<=z):Made w0 w' e size ao n cap xs:=
 ⟨dr h.own f (λy hy=>hn y (by rw[<-dD ao n cap,hy];simp)),h.fr.step f (λz hz=>.inr (hS z hz)),h.new,h.le,h.max,h.nil⟩
theorem gA.push {w0 w w2 w3 w4 w6:World} {P D i x q cp:Nat} {ls:LN} {first:Nat->Nat} {sa:Nat->Option Addr} {sc:Nat->Nat} {ao:OA} (h0:gA w0 w P D ls i first sa sc) (T6:first x=gZ ls x) (hx:x<16) (iD:x≠0) (hl:ae ls i=x) (hq:q=(eP ls x i).length)
  (f1:Fr [] w w2) (h2:aV w2 w3 3 1 (af (sa x)) ao (q+1) cp (ints (eP ls x i)++[.int .i64 i])) (f3:Fr [] w3 w4) (f5:Fr [] (w4.setCell ⟨P,16+x,none⟩ (.slice ao (q+1) cp)) w6) :
  gA w0 (w6.setCell ⟨P,32,none⟩ (.int .i64 (max D x:Nat))) P (max D x) ls (i+1) first (λl=>if l=x then ao else sa l) (λl=>if l=x then cp else sc l):=by
 have h:=h0.fr f1;obtain⟨A,hA,h1,rQ,Me,zbB⟩:=h.box;have G0:P∉af (sa x):=h.off x hx;have ZI:P<w2.heap.size:=lt_of_block hA;have Qo:P∉af ao:=λhP=>by
  rcases h2.at_ P hP with k|k
  ·exact G0 k
  ·omega
 have Uw:=f3.af (h2.fr.af hA G0) (by simp);have QH:=f5.af (bI Uw (o:=16+x) (.slice ao (q+1) cp)) (by simp);have g1:Fr [P] w4 (w4.setCell ⟨P,16+x,none⟩ (.slice ao (q+1) cp)):=(Fr.refl [P] _).setCell (by simp) _;have g2:Fr [P] w6 (w6.setCell ⟨P,32,none⟩ (.int .i64 (max D x:Nat))):=(Fr.refl [P] _).setCell (by simp) _;have fL:∀z∈[P],w0.heap.size<=z:=λz hz=>by simp at hz;rw[hz];exact h.new
 have up:∀{lN:OA} {n' c':Nat} {xs':LV},Made w0 w3 3 1 lN n' c' xs'->P∉af lN->Made w0 (w6.setCell ⟨P,32,none⟩ (.int .i64 (max D x:Nat))) 3 1 lN n' c' xs':=λm hP=>(((m.eG f3).gJ g1 (λy hy=>by simp;rintro rfl;exact hP hy) fL).eG f5).gJ g2 (λy hy=>by simp;rintro rfl;exact hP hy) fL
 have es:∀l,l≠x->eP ls l (i+1)=eP ls l i:=λl zF=>by rw[WB,if_neg (by omega),mW]
 have ex:eP ls x (i+1)=eP ls x i++[i]:=by rw[WB,if_pos ⟨hl,iD⟩]
 have exl:(eP ls x (i+1)).length=q+1:=by rw[ex,hq];simp
 have wj:∀m,m<16->m≠x->∀y∈af ao,y∉af (sa m):=λm hm cQ y hy Ou=>by
  rcases h2.at_ y hy with k|k
  ·exact h.sep x m hx hm (λe=>cQ e.symm) y k Ou
  ·have:=(h.rows m hm).lt y Ou;omega
 refine⟨⟨_,bI QH _,by simp[h1],λl po=>?_,λl po=>?_,?_⟩,λl EK=>?_,λs hs=>?_,?_,h.low',λl po=>?_,λl m po Pz cQ y hy=>?_,λl po=>?_,h.new⟩
 ·rw[aX (by omega),aX (by omega)];exact rQ l po
 ·rw[aX (by omega)];by_cases e:l=x
  ·subst e;rw[iG (by omega),exl];simp
  ·rw[aX (by omega),es l e];simp only[if_neg e];exact Me l po
 ·rw[iG (by simp[h1])]
 ·by_cases e:l=x
  ·rw[e];exact T6
  ·rw[es l e]at EK;exact h.fst l EK
 ·rcases Nat.lt_succ_iff_lt_or_eq.1 hs with h5|h5
  ·have:=h.top s h5;omega
  ·rw[h5,hl];omega
 ·have:=h.low;omega
 ·by_cases e:l=x
  ·subst e;simp only[if_pos];rw[exl,ex];have m:=(h.rows l hx).app h2;have e2:ints (eP ls l i++[i])=ints (eP ls l i)++[.int .i64 i]:=by simp[ints]
   rw[e2];exact up m Qo
  ·simp only[if_neg e];rw[es l e];exact up ((h.rows l po).gJ h2.fr (λy hy Dm=>h.sep l x po hx e y hy Dm) (λz hz=>(h.rows x hx).new z hz)) (h.off l po)
 ·by_cases e:l=x
  ·have e2:m≠x:=λhm=>cQ (e.trans hm.symm)
   simp only[if_pos e]at hy;simp only[if_neg e2];exact wj m Pz e2 y hy
  ·simp only[if_neg e]at hy;by_cases e2:m=x
   ·simp only[if_pos e2];intro Ou;exact wj l po e y Ou hy
   ·simp only[if_neg e2];exact h.sep l m po Pz cQ y hy
 ·by_cases e:l=x
  ·simp only[if_pos e];exact Qo
  ·simp only[if_neg e];exact h.off l po
theorem gA.pre {w0 w1 w:World} {P D i:Nat} {ls:LN} {first:Nat->Nat} {sa:Nat->Option Addr} {sc:Nat->Nat} (h:gA w1 w P D ls i first sa sc) (f:Fr [] w0 w1):gA w0 w P D ls i first sa sc:=
 ⟨h.box,h.fst,h.top,h.low,h.low',λl hl=>(h.rows l hl).pre f,h.sep,h.off,ck f.size h.new⟩
def Fi (w:World) (ls:LN) (e:Ending) (w':World):Prop:=
 ∃P D first sa sc,e = .returned (.tuple #[.pointer (some ⟨P,0,none⟩),.int .i64 0])/\gA w w' P D ls ls.length first sa sc/\Fr [] w w'
theorem zgs (a:OA) (cap:Nat) (ls:LN) (w:World) (h:Ri w a cap ls) (hle:∀l∈ls,l<=15) (hlen:ls.length<=400) (hw:weight ls<=32768) :
  Calls Tryz.prog 187 #[.slice a ls.length cap] w (Fi w ls):=by
 obtain⟨N,hN⟩:=ai ls.length;have hc:=Sr a cap ls w h hle hlen hw;unfold ib at hc;rw[<-hN]at hlen hc ⊢;have H:=aQ h hle hN hc hw;clear h hle hN hc hw;go_enter Tryz.func187,Tryz.ntmps187;go_upto_block 0 with (go_at_call 205;refine H.out.2.2.2.1.mono ?_;rintro e w1 ⟨g,rfl,cg,ng,lg,f1⟩;have H1:=aG cg ng lg f1;clear cg ng lg f1);obtain⟨P,hP⟩:=ai w1.heap.size;obtain⟨w2,bL⟩:=ai (w1.alloc (.cells pZ 309 (0,0)));have T0:gA w1 w2 P 0 ls 0 (λ_=>0) (λ_=>none) (λ_=>0):=by rw[bL,hP];exact gA.start ls (Fr.refl [] w1)
 unfold pZ at bL;rw[<-bL,<-hP];have f2:Fr [] w w2:=by rw[bL];exact H1.l3.trans ((Fr.refl [] w1).alloc _)
 have cg2:Cs w2 (some ⟨g,0,none⟩) ((du ls).map λx=>.int .u32 (x:Nat)):=by rw[bL];exact H1.o0.fr ((Fr.refl [] w1).alloc _) (by simp)
 have H2:=aQ T0 f2 cg2 hP bL;clear T0 f2 cg2 hP bL;go_wp2;go_loopg [7,8,21] N (λk s7 s8 s21 wr=>∃(i D:Nat) (first:Nat->Nat) (sa:Nat->Option Addr) (sc:Nat->Nat),s21 = .int .i64 (i:Nat)/\i+k=N/\gA w1 wr P D ls i first sa sc/\Fr [] w wr/\Cs wr (some ⟨g,0,none⟩) ((du ls).map λx=>.int .u32 (x:Nat)));case atStart=>exact⟨0,0,_,_,_,rfl,by omega,H2.o0,H2.o1,H2.o2⟩
 case round=>
  obtain⟨i,D,first,sa,sc,rfl,bX,hT,hf,Mj⟩:=hrel;by_cases hi:i<N
  ·obtain⟨k,rfl⟩:∃k,gk=k+1:=⟨gk-1,by omega⟩;have eO:i<ls.length:=by rw[<-H.out.2.2.1];exact hi
   obtain⟨ga,o,ha,hc⟩:=(H.out.1.fr hf).at eO;subst ha;have iZ:=H.out.2.1 _ (tk eO);have fH:ae ls i=ls[i]:=by unfold ae;rw[br eO];rfl
   obtain⟨x,hx⟩:=ai (ls[i]);rw[<-hx]at hc iZ fH;have HI:=cJ hT hf Mj fH eO hx;clear hT hf Mj fH hx;by_cases iD:x=0
   ·subst iD;go_wp2;go_roundg k;case measure=>omega
    case rel=>exact⟨i+1,D,first,sa,sc,by go_num,by omega,HI.out.1.skip HI.out.2.2.2.1,HI.out.2.1,HI.out.2.2.1⟩
   ·have b0:((x:Int)==0)=false:=by simp;omega
    have cells:=λ(wc:World) (first:Nat->Nat) (T:gA w1 wc P D ls i first sa sc)=>show wc.cell? ⟨P,x,none⟩=some (.int .u32 (first x:Nat))/\wc.cell? ⟨P,16+x,none⟩=some (.slice (sa x) (eP ls x i).length (sc x))/\wc.cell? ⟨P,32,none⟩=some (.int .i64 D)/\wc.frozen? ⟨P,x,none⟩=false/\wc.frozen? ⟨P,16+x,none⟩=false/\wc.frozen? ⟨P,32,none⟩=false by obtain⟨A,hA,h1,h2,h3,h4⟩:=T.box;exact⟨by rw[cell_of hA];exact h2 x (by omega),by rw[cell_of hA];exact h3 x (by omega),by rw[cell_of hA];exact h4,aW hA _,aW hA _,aW hA _⟩
    obtain⟨c1,c2,c3,z1,z2,z3⟩:=cells wr first HI.out.1
    obtain⟨q,hq⟩:=ai ((eP ls x i).length);have BO:q<=400:=by rw[hq];have:=zfy ls x i;omega
    have sK:wr.cell? ⟨g,i,none⟩=some (.int .u32 (code ls i:Nat)):=by obtain⟨g',o',e,hcs⟩:=HI.out.2.2.1.at (by simp[du];omega);cases e;rw[show (⟨g,i,none⟩:Addr)=⟨g,0+i,none⟩ by rw[ft]];refine hcs i _ ?_;simp[du,eO,cN];rw[if_neg (by rw[HI.out.2.2.2.1];exact iD)]
    rw[<-hq]at c2 cells;have HQ:=ak hq cells;have Qt:i<400:=by omega
    clear hq cells;go_upto_if 35 with fail;go_cut [] from 28 to 44 (λwc=>∃first',gA w1 wc P D ls i first' sa sc/\first' x=gZ ls x/\Fr [] w wc/\Cs wc (some ⟨g,0,none⟩) ((du ls).map λx=>.int .u32 (x:Nat)))
    case first=>
     by_cases O7:q=0
     ·have b1:((q:Int)==0)=true:=by simp;omega
      have lH:=qw5 eO HI.out.2.2.2.1 iD (by rw[<-HQ.out.1];exact O7);have xj:gZ ls x<=32768:=qq8 ls (by exact H.out.2.1) H.out.2.2.2.2 x iZ;rw[lH]at sK;have HX:=ak lH xj;clear lH xj;go_upto_region 10 with fail;refine uO 9 (by kernel_rfl) (by kernel_rfl) ?_;simp only[uF];repeat (go_big_quiet_step (fail))
      refine wpQuiet_nil ?_;go_wp2;go_meet;have fd:Fr [] wr wr.drew:=Fr.drewN [] _ _;case rel=>exact⟨_,(HI.out.1.fr fd).AX (by omega) HX.l1,if_pos rfl,(HI.out.2.1.trans fd).step ((Fr.refl [P] _).setCell (by simp) _) (λz hz=>.inr (by simp at hz;rw[hz];exact ck H1.l3.size HI.out.1.new)),(HI.out.2.2.1.fr fd (by simp)).fr ((Fr.refl [P] _).setCell (by simp) _) (by intro z hz hm;have:=H1.o2;have:=H2.o3;simp[af]at hz hm;omega)⟩
     ·have b1:((q:Int)==0)=false:=by simp;omega
      go_wp2;go_meet;case rel=>exact⟨first,HI.out.1,HI.out.1.fst x (by rw[<-HQ.out.1];omega),HI.out.2.1,HI.out.2.2.1⟩
    case rest=>
     obtain⟨first',hT,T6,hf,Mj⟩:=hcut;obtain⟨c1,c2,c3,z1,z2,z3⟩:=HQ.out.2 wc first' hT
     have G0:P∉af (sa x):=hT.off x (by omega);have q1:∀y,(sup (af (sa x)) wc.drew y).cell? ⟨P,16+x,none⟩=some (.slice (sa x) q (sc x)):=λy=>(dY (af (sa x)) wc.drew y).cell ((Fr.av [] wc).cell c2 (by simp)) G0
     go_upto_region 11 with fail;refine SV 14 [(false,0),(false,1),(false,2),(false,3),(false,4),(false,5),(false,6),(false,7),(false,8),(false,11),(false,12),(true,9),(true,10),(false,13)] (af (sa x)) (by kernel_rfl) (by kernel_rfl) (λ_ _ d _ _ h=>by cases d<;>exact h) ?_;simp only[jm];refine FI 11 rfl ?_;simp only[bD];repeat (go_big_quiet_step (fail))
     refine wpQuiet_nil ?_;clear q1;refine DX rfl ?_;intro X hX;go_wp2;refine hX.out _ _ wc.drew (Fr.refl _ _) ((Fr.refl (af (sa x)) wc.drew).alloc _) ?_;clear hX X;refine DX rfl ?_;intro X hX;obtain⟨w4,gw⟩:∃w4,w4=(wc.alloc (.cells #[.int .i64 (i:Nat)] 3)).drew:=⟨_,rfl⟩;have f4:Fr [] wc w4:=by rw[gw];exact ((Fr.refl [] wc).alloc _).drew
     have oh:Cs w4 (some ⟨wc.heap.size,0,none⟩) [.int .i64 i]:=by rw[gw];exact nM _ _ _ _ ((Fr.av [] _).af (bC wc _) (by simp))
     have QM:Fr (af (sa x)) wc.drew w4:=by rw[gw];exact (((Fr.refl (af (sa x)) wc).alloc _).drew).bA
     have HF:=dk hT T6 hf Mj f4 oh QM;rw[<-gw];clear hT T6 hf Mj gw f4 oh QM;refine uj pG _ _ rfl (.slice (sa x) q (sc x)) q (ints (eP ls x i)) (af (sa x)) rfl (dD _ _ _) (by have:=((HF.o0.rows x (by omega)).eG HF.o4).own;rwa [<-HQ.out.1]at this) (some ⟨wc.heap.size,0,none⟩) 1 1 [.int .i64 i] rfl (ay _) (λh=>by cases h) HF.o5 rfl (by intro u hu;simp only[iH]at hu;rw[hu];rfl) (by omega) (by unfold maxLen;omega) ?_;intro a5 c5 w5 A5;have Mv:Fr (af (sa x)) wc.drew w5:=HF.l6.step A5.fr λy hy=>.inl hy
     refine hX.out _ _ wc.drew (Fr.refl _ _) Mv ?_;clear hX X;simp only[Act.put,nR,oD,nP];clear c2 c3 z2 z3;have T4:=HF.o0.fr HF.o4;obtain⟨A4,Uw,wY,YU,PO,OQ⟩:=T4.box;have Uv:=A5.fr.af Uw G0;have z2:=aW Uv (16+x);have c2:=cell_of Uv (16+x);rw[PO x (by omega)]at c2;have QH:=bI Uv (o:=16+x) (.slice a5 (q+1) c5);have c3:=cell_of QH 32;rw[aX (by omega),OQ]at c3;have z3:=aW QH 32;have HA:=ak A5 Mv;clear Uw wY YU PO OQ Uv QH A5 Mv T4 c1 z1;refine FI 1 rfl ?_;simp only[bD];repeat (go_big_quiet_step (fail))
     refine wpQuiet_nil ?_;refine Sj ?_;have GX:=gA.push (w6:=w5.setCell ⟨P,16+x,none⟩ (.slice a5 (q+1) c5)) HF.o0 HF.o1 (by omega) iD HI.out.2.2.2.1 HQ.out.1 HF.o4 HA.o0 (Fr.refl [] _) (Fr.refl [] _);have PX:∀u:Value,Fr [] w ((w5.setCell ⟨P,16+x,none⟩ (.slice a5 (q+1) c5)).setCell ⟨P,32,none⟩ u):=λu=>by
      have f1:Fr [] w wc:=HF.o2;have f2:Fr (P::af (sa x)) wc ((w5.setCell ⟨P,16+x,none⟩ (.slice a5 (q+1) c5)).setCell ⟨P,32,none⟩ u):=((((Fr.refl _ wc).drew).trans (HA.l1.mono (λy hy=>.inl (tu _ hy)))).setCell (by simp) _).setCell (by simp) _;exact f1.step f2 λz hz=>by
       rcases fP.1 hz with rfl|hz
       ·exact .inr (ck H1.l3.size HF.o0.new)
       ·exact .inr (ck H1.l3.size ((HF.o0.rows x (by omega)).new z hz))
     have Qc:∀u:Value,Cs ((w5.setCell ⟨P,16+x,none⟩ (.slice a5 (q+1) c5)).setCell ⟨P,32,none⟩ u) (some ⟨g,0,none⟩) ((du ls).map λx=>.int .u32 (x:Nat)):=λu=>by
      have f2:Fr (P::af (sa x)) wc ((w5.setCell ⟨P,16+x,none⟩ (.slice a5 (q+1) c5)).setCell ⟨P,32,none⟩ u):=((((Fr.refl _ wc).drew).trans (HA.l1.mono (λy hy=>.inl (tu _ hy)))).setCell (by simp) _).setCell (by simp) _;refine HF.o3.fr f2 λy hy hm=>?_
      simp[af]at hy;have hg:g<w1.heap.size:=H1.o2;rcases fP.1 hm with h1|h1
      ·have:=HF.o0.new;omega
      ·have:=(HF.o0.rows x (by omega)).new y h1;omega
     have HZ:=aw GX PX Qc;clear GX PX Qc;go_wp2
     ·go_roundg k;case measure=>omega
      case rel=>
       have hD:max D x=x:=by omega
       have GX:=HZ.o0;rw[hD]at GX;exact⟨i+1,x,first',_,_,by go_num,by omega,GX,HZ.o1 _,HZ.l2 _⟩
     ·go_roundg k;case measure=>omega
      case rel=>
       have hD:max D x=D:=by omega
       have GX:=HZ.o0;rw[hD]at GX;exact⟨i+1,D,first',_,_,by go_num,by omega,GX,HZ.o1 _,HZ.l2 _⟩
  ·obtain rfl:i=N:=by omega
   have HI:=ak hT hf;clear hT hf Mj hi bX;go_wp2;go_ret2;have hT:=HI.out.1;rw[H.out.2.2.1]at hT;exact⟨P,D,first,sa,sc,rfl,hT.pre H1.l3,HI.out.2⟩
structure Rc (w:World) (P D:Nat) (ls:LN) (first:Nat->Nat) (sa:Nat->Option Addr) (sc:Nat->Nat) (B E:Nat):Prop where
 tab:Aa w P D ls first sa sc
 at_:B<=P/\P<E
 row:∀l,l<16->∀x∈af (sa l),B<=x/\x<E
def ud (w:World) (ls:LN) (e:Ending) (w':World):Prop:=
 ∃P D first sa sc,e = .returned (.tuple #[.pointer (some ⟨P,0,none⟩),.int .i64 0])/\Rc w' P D ls first sa sc w.heap.size w'.heap.size/\Fr [] w w'
theorem Vv (a:OA) (cap:Nat) (ls:LN) (w:World) (h:Ri w a cap ls) (hle:∀l∈ls,l<=15) (hlen:ls.length<=400) (hw:weight ls<=32768) :
  Calls Tryz.prog 187 #[.slice a ls.length cap] w (ud w ls):=
 (zgs a cap ls w h hle hlen hw).mono λe w' ⟨P,D,first,sa,sc,h1,h2,h3⟩=>⟨P,D,first,sa,sc,h1,⟨h2.tab hlen,⟨h2.new,by obtain⟨A,hA,_⟩:=h2.box;exact lt_of_block hA⟩,λl hl x hx=>⟨(h2.rows l hl).new x hx,(h2.rows l hl).lt x hx⟩⟩,h3⟩
theorem zay (a:OA) (cap:Nat) (ls:LN) (w:World) (h:Ri w a cap ls) (hle:∀l∈ls,l<=15) (hlen:ls.length<=400) (hw:32768<weight ls) :
  Calls Tryz.prog 205 #[.slice a ls.length cap] w λe w'=>e = .returned (.tuple #[.slice none 0 0,.int .i64 3])/\Fr [] w w':=by
 have hc:=Wy a cap ls w h hle (by omega);have zt:=WJ ls;obtain⟨W,hW⟩:=ai (weight ls);obtain⟨N,hN⟩:=ai ls.length;rw[<-hW]at hc hw zt;rw[<-hN]at hc hlen zt ⊢;have H:=ah hc;clear hc hW hN h hle;go_enter Tryz.func205,Tryz.ntmps205;go_wp2_with (go_at_call 217;refine H.out.mono ?_;rintro e w1 ⟨rfl,rfl⟩);go_ret2;exact⟨rfl,.refl _ _⟩
theorem zgr (a:OA) (cap:Nat) (ls:LN) (w:World) (h:Ri w a cap ls) (hle:∀l∈ls,l<=15) (hlen:ls.length<=400) (hw:32768<weight ls) :
  Calls Tryz.prog 187 #[.slice a ls.length cap] w λe w'=>e = .returned (.tuple #[.pointer none,.int .i64 3])/\Fr [] w w':=by
 have H:=ah (zay a cap ls w h hle hlen hw);obtain⟨N,hN⟩:=ai ls.length;rw[<-hN]at H ⊢;clear h hle hw hN;go_enter Tryz.func187,Tryz.ntmps187;go_wp2_with (go_at_call 205;refine H.out.mono ?_;rintro e w1 ⟨rfl,f1⟩);go_ret2;exact⟨rfl,f1⟩
end huf
namespace inf
open Go Go.RowKit lib bm bl huf
theorem qz6 {ls:LN} {n v s:Nat} (h:iq ls n v=some s):s<ls.length/\0<n:=by unfold iq at h;have h1:=List.mem_of_find?_eq_some h;have h2:=List.find?_some h;simp at h1 h2;exact⟨h1,h2.1⟩
theorem Xj (ls:LN):∀(f n v:Nat) (bits:List Bool),((cu ls f n v bits).2.2=0\/(cu ls f n v bits).2.2=3\/(cu ls f n v bits).2.2=4)/\
  ((cu ls f n v bits).2.2=0->(cu ls f n v bits).1<ls.length/\0<(cu ls f n v bits).2.1)
 | 0,n,v,bits=>by
  cases h:iq ls n v with
  | some s=>rw[Ln h];exact⟨.inl rfl,λ_=>qz6 h⟩
  | none=>rw[Wc h];exact⟨.inr (.inl rfl),λh=>by cases h⟩
 | f+1,n,v,bits=>by
  cases h:iq ls n v with
  | some s=>rw[Ln h];exact⟨.inl rfl,λ_=>qz6 h⟩
  | none=>
   by_cases hm:ef ls n v=true
   ·cases bits with
    | nil=>rw[Xk h hm];exact⟨.inr (.inr rfl),λh=>by cases h⟩
    | cons b t=>rw[SP h hm];exact Xj ls f (n+1) _ t
   ·rw[Xi h (by simpa using hm)];exact⟨.inr (.inl rfl),λh=>by cases h⟩
theorem Le {bs:LB} {ls:LN} {a s a1:Nat} (h:lD bs ls a = .ok (s,a1)):s<ls.length/\a<a1:=by
 unfold lD at h;split at h
 ·rename_i hc;have:=(Xj ls 15 0 0 ((au bs).drop a)).2 hc;simp only[gW,fj]at h;omega
 ·cases h
theorem Bd {bs:LB} {a n v a1:Nat} (h:aY bs a n = .ok (v,a1)):v<2^n:=by
 unfold aY at h;split at h
 ·simp only[gW,fj]at h;rw[<-h.1];exact S8 _ _
 ·cases h
structure Tb (w:World) (P:Nat) (ls:LN) (X:LN):Prop where
 ex:∃D first sa sc,Aa w P D ls first sa sc/\P<w.heap.size/\P∉X/\∀l,l<16->∀x∈af (sa l),x<w.heap.size/\x∉X
theorem Tb.fr {S:LN} {w w':World} {P:Nat} {ls X:LN} (h:Tb w P ls X) (f:Fr S w w') (hS:∀x∈S,x∈X\/w.heap.size<=x):Tb w' P ls X:=by
 obtain⟨D,first,sa,sc,ht,h1,h2,h3⟩:=h.ex;refine⟨D,first,sa,sc,ht.gJ f (λhP=>?_) (λl hl _ x hx kt=>?_),eW h1 f.size,h2,λl hl x hx=>⟨eW (h3 l hl x hx).1 f.size,(h3 l hl x hx).2⟩⟩
 ·rcases hS P hP with k|k
  ·exact h2 k
  ·omega
 ·rcases hS x kt with k|k
  ·exact (h3 l hl x hx).2 k
  ·have:=(h3 l hl x hx).1;omega
theorem Tb.way {w w':World} {R p P:Nat} {oa iX:OA} {ls:LN} (h:Tb w P ls (R::p::af oa)) (f:Way w R p oa w' iX):Tb w' P ls (R::p::af iX):=by obtain⟨D,first,sa,sc,ht,h1,h2,h3⟩:=h.ex;exact⟨D,first,sa,sc,ht.gJ f.fr h2 (λl hl _ x hx=>(h3 l hl x hx).2),eW h1 f.fr.size,f.old h1 h2,λl hl x hx=>⟨eW (h3 l hl x hx).1 f.fr.size,f.old (h3 l hl x hx).1 (h3 l hl x hx).2⟩⟩
theorem La (R p P:Nat) (F:LN) (bs out:LB) (ls:LN) (at_ oc most:Nat) (oa:OA) (w:World) (h:St w R p F bs at_ out oa oc most) (hT:Tb w P ls (R::p::af oa)) :
  Calls Tryz.prog 206 #[.pointer (some ⟨P,0,none⟩),.pointer (some ⟨p,0,none⟩)] w (ox w R p F bs out oa oc most (lD bs ls at_)):=by
 obtain⟨D,first,sa,sc,ht,h1,h2,h3⟩:=hT.ex;have hp:P≠p:=λe=>h2 (by simp[e])
 have Tw:=Xj ls 15 0 0 ((au bs).drop at_);obtain⟨r,hr0⟩:=ai (cu ls 15 0 0 ((au bs).drop at_));unfold lD;rw[<-hr0]at Tw ⊢;obtain⟨s,m,c⟩:=r;refine (Sk P D ls first sa sc p F bs at_ w ht h.rd hp (λl hl _ x hx e=>(h3 l hl x hx).2 (by simp[e])) s m c hr0.symm).mono ?_;rintro e w' ⟨rfl,hr,f⟩;simp only at Tw ⊢;by_cases hc:c=0
 ·subst hc;exact .inr ⟨s,at_+m,by rw[if_pos rfl],rfl,h.take f hr,f⟩
 ·exact .inl ⟨_,c,by rw[if_neg hc],by omega,by omega,rfl,f.mono (by simp)⟩
theorem SD (R p:Nat) (F:LN) (bs out:LB) (at_ oc most s:Nat) (oa:OA) (w:World) (h:St w R p F bs at_ out oa oc most) (h1:256<=s) (h2:s<286) :
  Calls Tryz.prog 219 #[.pointer (some ⟨R,0,none⟩),.int .i64 s] w (ox w R p F bs out oa oc most (cL bs s at_)):=by
 by_cases h3:s<265
 ·have e:cL bs s at_ = .ok (s-254,at_):=by unfold cL;rw[if_pos h3]
  rw[e];have H:=ah h;clear h e;go_enter Tryz.func219,Tryz.ntmps219;go_wp2;go_ret2;exact .inr ⟨_,_,rfl,by rw[show ((s-254:Nat):Int)=(s:Int)-254 by omega];rfl,H.out,.refl _ _⟩
 ·by_cases h4:s=285
  ·have e:cL bs s at_ = .ok (258,at_):=by unfold cL;rw[if_neg h3,if_pos h4]
   rw[e];subst h4;have H:=ah h;clear h e;go_enter Tryz.func219,Tryz.ntmps219;go_wp2;go_ret2;exact .inr ⟨_,_,rfl,rfl,H.out,.refl _ _⟩
  ·have b4:((s:Int)==285)=false:=by simp;omega
   obtain⟨n,hn⟩:=ai ((s-261)/4);have Pj:n<=5:=by omega
   have ht:=FM R p F bs out at_ oc most n oa w h (by omega);have jf:∀c,aY bs at_ n = .error c->cL bs s at_ = .error c:=λc hc=>by unfold cL;rw[if_neg h3,if_neg h4,<-hn,hc]
   have ny:∀v a1,aY bs at_ n = .ok (v,a1)->cL bs s at_ = .ok (3+(4+(s-265)%4)*2^n+v,a1):=λv a1 hc=>by unfold cL;rw[if_neg h3,if_neg h4,<-hn,hc]
   obtain⟨M,hM⟩:=ai (cL bs s at_);rw[<-hM]at jf ny ⊢;obtain⟨k,hk⟩:=ai ((4+(s-265)%4)*2^n);rw[<-hk]at ny;have rH:k<=7*2^5:=by rw[hk];exact KF (by omega) (kh (by decide) Pj)
   have xx:(4+((s:Int)-265)%4)*2^n=(k:Nat):=by
    have e0:((s:Int)-265)%4=((s-265)%4:Nat):=by omega
    rw[e0,hk];push_cast;rfl
   have H:=aQ ht hn jf ny xx;have yL:=ah hM;clear hM jf ny hk xx;have e1:((s:Int)-261)/4=(n:Nat):=by omega
   clear h ht hn;go_enter Tryz.func219,Tryz.ntmps219;go_wp2_with (go_at_call 134;refine H.out.1.mono ?_;rintro e w1 (⟨v,c,hm,bZ,cY,rfl,f1⟩|⟨v,a1,hm,rfl,s1,f1⟩))
   ·go_ret2;exact .inl ⟨_,c,H.out.2.2.1 c hm,bZ,cY,rfl,f1⟩
   ·go_ret2;refine .inr ⟨_,_,H.out.2.2.2.1 v a1 hm,?_,s1,f1⟩;have hv:=Bd hm;have wg:2^n<=2^5:=kh (by decide) Pj;have e2:wrap64 (wrap64 (3+wrap64 ((4+((s:Int)-265)%4)*2^n))+(v:Nat))=((3+k+v:Nat):Int):=by rw[H.out.2.2.2.2];unfold wrap64;omega
    show Ending.returned (.tuple #[.int .i64 (wrap64 (wrap64 (3+wrap64 ((4+((s:Int)-265)%4)*2^n))+(v:Nat))),.int .i64 0])=_;rw[e2]
theorem S9 (R p:Nat) (F:LN) (bs out:LB) (at_ oc most s:Nat) (oa:OA) (w:World) (h:St w R p F bs at_ out oa oc most) (h2:s<30) :
  Calls Tryz.prog 220 #[.pointer (some ⟨R,0,none⟩),.int .i64 s] w (ox w R p F bs out oa oc most (gu bs s at_)):=by
 by_cases h3:s<4
 ·have e:gu bs s at_ = .ok (s+1,at_):=by unfold gu;rw[if_pos h3]
  rw[e];have H:=ah h;clear h e;go_enter Tryz.func220,Tryz.ntmps220;go_wp2;go_ret2;exact .inr ⟨_,_,rfl,rfl,H.out,.refl _ _⟩
 ·obtain⟨n,hn⟩:=ai ((s-2)/2);have Pj:n<=13:=by omega
  have ht:=FM R p F bs out at_ oc most n oa w h (by omega);have jf:∀c,aY bs at_ n = .error c->gu bs s at_ = .error c:=λc hc=>by unfold gu;rw[if_neg h3,<-hn,hc]
  have ny:∀v a1,aY bs at_ n = .ok (v,a1)->gu bs s at_ = .ok (1+(2+s%2)*2^n+v,a1):=λv a1 hc=>by unfold gu;rw[if_neg h3,<-hn,hc]
  obtain⟨M,hM⟩:=ai (gu bs s at_);rw[<-hM]at jf ny ⊢;obtain⟨k,hk⟩:=ai ((2+s%2)*2^n);rw[<-hk]at ny;have rH:k<=3*2^13:=by rw[hk];exact KF (by omega) (kh (by decide) Pj)
  have xx:(2+(s:Int)%2)*2^n=(k:Nat):=by rw[hk];push_cast;rfl
  have H:=aQ ht hn jf ny xx;have yL:=ah hM;clear hM jf ny hk xx;have e1:((s:Int)-2)/2=(n:Nat):=by omega
  clear h ht hn;go_enter Tryz.func220,Tryz.ntmps220;go_wp2_with (go_at_call 134;refine H.out.1.mono ?_;rintro e w1 (⟨v,c,hm,bZ,cY,rfl,f1⟩|⟨v,a1,hm,rfl,s1,f1⟩))
  ·go_ret2;exact .inl ⟨_,c,H.out.2.2.1 c hm,bZ,cY,rfl,f1⟩
  ·go_ret2;refine .inr ⟨_,_,H.out.2.2.2.1 v a1 hm,?_,s1,f1⟩;have hv:=Bd hm;have wg:2^n<=2^13:=kh (by decide) Pj;have e2:wrap64 (wrap64 (1+wrap64 ((2+(s:Int)%2)*2^n))+(v:Nat))=((1+k+v:Nat):Int):=by rw[H.out.2.2.2.2];unfold wrap64;omega
   show Ending.returned (.tuple #[.int .i64 (wrap64 (wrap64 (1+wrap64 ((2+(s:Int)%2)*2^n))+(v:Nat))),.int .i64 0])=_;rw[e2]
theorem qz2 {bs:LB} {s a b a1:Nat} (h:gu bs s a = .ok (b,a1)):0<b/\b<=100000\/30<=s:=by
 by_cases hs:30<=s
 ·exact .inr hs
 ·left;unfold gu at h;split at h
  ·simp only[gW,fj]at h;omega
  ·have Ct:(s-2)/2<=13:=by omega
   have hp:(2+s%2)*2^((s-2)/2)<=3*2^13:=KF (by omega) (kh (by decide) Ct);have mN:2^((s-2)/2)<=2^13:=kh (by decide) Ct;cases ht:aY bs a ((s-2)/2) with
   | error e=>rw[ht]at h;cases h
   | ok x=>obtain⟨v,a2⟩:=x;have hv:=Bd ht;rw[ht]at h;simp only[gW,fj]at h;omega
theorem qw1 {bs:LB} {s a n a1:Nat} (h:cL bs s a = .ok (n,a1)) (hs:s<286):n<=100000:=by
 unfold cL at h;split at h
 ·simp only[gW,fj]at h;omega
 ·split at h
  ·simp only[gW,fj]at h;omega
  ·have Ct:(s-261)/4<=6:=by omega
   have hp:(4+(s-265)%4)*2^((s-261)/4)<=7*2^6:=KF (by omega) (kh (by decide) Ct);have mN:2^((s-261)/4)<=2^6:=kh (by decide) Ct;cases ht:aY bs a ((s-261)/4) with
   | error e=>rw[ht]at h;cases h
   | ok x=>obtain⟨v,a2⟩:=x;have hv:=Bd ht;rw[ht]at h;simp only[gW,fj]at h;omega
theorem zgv {most:Nat} {out o:LB} {c:UInt8} (h:jA most out c = .ok o):o=out++[c]/\out.length<most:=by
 unfold jA at h;split at h
 ·cases h
 ·simp only[gW]at h;exact⟨h.symm,by omega⟩
theorem St.byte {w:World} {R p:Nat} {F:LN} {bs out:LB} {at_ oc most:Nat} {oa:OA} (h:St w R p F bs at_ out oa oc most) {i:Nat} (hi:i<out.length) :
  ∃g o,oa=some ⟨g,o,none⟩/\w.cell? ⟨g,o+i,none⟩=some (.int .u8 ((out[i]?.getD 0).toNat:Nat)):=by
 obtain⟨g,o,e,hc⟩:=(C8 h.own).at (by simp;omega);refine⟨g,o,e,hc i _ ?_⟩;rw[iM,br hi];rfl
theorem qzf (R p Q:Nat) (F:LN) (bs out:LB) (dl:LN) (at_ oc most s:Nat) (oa:OA) (w:World) (h:St w R p F bs at_ out oa oc most) (hT:Tb w Q dl (R::p::af oa)) (h1:256<=s) (h2:s<286) :
  Calls Tryz.prog 207 #[.pointer (some ⟨R,0,none⟩),.int .i64 s,.pointer (some ⟨Q,0,none⟩)] w (DG w R p F bs oa most (eY bs most dl s out at_)):=by
 obtain⟨M,hM⟩:=ai (eY bs most dl s out at_);rw[<-hM];obtain⟨N,hN⟩:=ai out.length;have H:=aQ (SD R p F bs out at_ oc most s oa w h h1 h2) hT hM h hN;have vd:=h.sm;clear h hT hM hN;go_enter Tryz.func207,Tryz.ntmps207;go_upto_block 0 with (first|(go_at_call 219;refine H.o0.mono ?_;rintro e w1 (⟨v,c,hm,bZ,cY,rfl,f1⟩|⟨n,a1,hm,rfl,s1,f1⟩);all_goals (try (have c0:=cell_of s1.box 0;simp only[bF,aT,bP]at c0;have K1:=aw hm s1 f1;clear hm s1 f1)))|(go_at_call 206;refine (La R p Q F bs out dl a1 oc most oa w1 K1.o1 (H.o1.fr K1.l2 (by simp))).mono ?_;rintro e w2 (⟨v2,c,hm,bZ,cY,rfl,f1⟩|⟨d,a2,hm,rfl,s2,f2⟩);all_goals (try (have K2:=aw hm s2 f2;clear hm s2 f2)))|(go_at_call 220;refine (S9 R p F bs out a2 oc most d oa w2 K2.o1 (by omega)).mono ?_;rintro e w3 (⟨v3,c,hm,bZ,cY,rfl,f1⟩|⟨b,a3,hm,rfl,s3,f3⟩);all_goals (try (have c1:=cell_of s3.box 1;rw[<-H.l4]at c1;simp only[bF,aT,bP]at c1;have K3:=aw hm s3 f3;clear hm s3 f3))))
 ·go_ret;exact .inl ⟨c,by rw[H.o2];simp[eY,hm],bZ,cY,rfl,f1⟩
 ·go_ret;exact .inl ⟨c,by rw[H.o2];simp[eY,K1.o0,hm],bZ,cY,rfl,(K1.l2.mono (by simp)).trans f1⟩
 ·go_ret;exact .inl ⟨3,by rw[H.o2];simp[eY,K1.o0,K2.o0,show 30<=d by omega],by decide,by decide,rfl,(K1.l2.trans K2.l2).mono (by simp)⟩
 ·go_ret;exact .inl ⟨c,by rw[H.o2];simp[eY,K1.o0,K2.o0,hm,show ¬30<=d by omega],bZ,cY,rfl,((K1.l2.trans K2.l2).mono (by simp)).trans f1⟩
 ·go_ret;exact .inl ⟨3,by rw[H.o2];simp only[eY,K1.o0,K2.o0,K3.out.1,if_neg (show ¬30<=d by omega)];rw[if_pos (by rw[<-H.l4];omega)],by decide,by decide,rfl,((K1.l2.trans K2.l2).trans K3.out.2.2).mono (by simp)⟩
 ·have vD:M=match j7 most b n out with
    | .error e=>.error e
    | .ok o=>.ok (o,a3):=by
   rw[H.o2]
   simp only[eY,K1.o0,K2.o0,K3.out.1,if_neg (show ¬30<=d by omega)]
   rw[if_neg (by rw[<-H.l4];omega)]
   rfl
  have uw:0<b/\b<=100000:=by
   rcases qz2 K3.out.1 with k|k
   ·exact k
   ·omega
  have tH:=qw1 K1.o0 h2
  have HM:=ak vD uw.1
  have zcJ:=uw.2
  clear vD uw c0 c1
  have dN:decide (N<b)=false:=by simp;omega
  simp only[dN]
  clear dN
  go_wp2
  go_loopg [6,11,52] n (λk s6 s11 s52 wr=>∃(j:Nat) (bM:LB) (jP:OA) (nV:Nat),s52 = .int .i64 (j:Nat)/\j+k=n/\St wr R p F bs a3 bM jP nV most/\Way w3 R p oa wr jP/\j7 most b k bM=j7 most b n out/\b<=bM.length)
  case atStart=>exact⟨0,out,oa,oc,rfl,by omega,K3.out.2.1,.refl _ _ _ _,rfl,by rw[<-H.l4];omega⟩
  case round=>
   obtain⟨j,bM,jP,nV,rfl,fx,aH,im,TQ,bQ⟩:=hrel
   have hW:Fr (R::p::af oa) w wr:=(((K1.l2.trans K2.l2).trans K3.out.2.2).mono (by simp)).trans im.fr
   by_cases hj:j<n
   ·obtain⟨k,rfl⟩:∃k,gk=k+1:=⟨gk-1,by omega⟩
    obtain⟨N1,zQ⟩:=ai bM.length
    have wu:=HM.l1
    obtain⟨g,o,rfl,kA⟩:=aH.byte (i:=N1-b) (by omega)
    obtain⟨u,hu⟩:=ai (bM[N1-b]?.getD 0)
    have c1:=cell_of aH.box 1
    simp only[bF,aT,bP]at c1
    rw[<-zQ]at c1
    rw[<-hu]at kA
    have hom:N1<=most:=by rw[zQ];exact aH.om
    have zcL:b<=N1:=by rw[zQ];exact bQ
    rw[show o+(N1-b)=(o+(N1-b):Nat) from rfl]at kA
    have HJ:=dk aH im TQ bQ zQ hu hW
    clear aH im TQ bQ zQ hu hW
    go_upto_region 16 with fail
    refine uO 14 (by kernel_rfl) (by kernel_rfl) ?_
    simp only[uF]
    repeat (go_big_quiet_step (fail))
    refine wpQuiet_nil ?_
    have sd:=HJ.out.1.dQ (Fr.av [] wr)
    have HD:=ah sd
    clear sd
    go_wp2_with (go_at_call 186;refine (Li R p F bs bM a3 nV most _ u wr.drew HD.out).mono ?_;rintro e w4 (⟨c,hm,bZ,cY,rfl,f1⟩|⟨wR,a4,yg,Bt,hm,rfl,s4,f4⟩);all_goals (have Km:=ah hm;clear hm);all_goals (try (have K4:=ak s4 f4;clear s4 f4)))
    ·go_ret
     have hm:=Km.out
     cases hp:jA most bM u with
     | error e=>
      rw[hp]at hm
      have P1:e=c:=by simpa[Except.map] using hm
      have e1:j7 most b n out = .error c:=by rw[<-HJ.out.2.2.1,j7,<-HJ.out.2.2.2.2.1,<-HJ.out.2.2.2.2.2.1,hp,P1]
      exact .inl ⟨c,by rw[HM.o0,e1],bZ,cY,rfl,(HJ.out.2.2.2.2.2.2.drew).step f1 (λx hx=>by
       rcases fP.1 hx with h3|hx
       ·exact .inl (by simp[h3])
       ·rcases fP.1 hx with h3|hx
        ·exact .inl (by simp[h3])
        ·rcases HJ.out.2.1.new x hx with h3|h3
         ·exact .inl (by simp[h3])
         ·exact .inr (ck (ck (ck K1.l2.size K2.l2.size) K3.out.2.2.size) h3))⟩
     | ok o2=>rw[hp]at hm;cases hm
    ·go_roundg k
     case measure=>omega
     case rel=>
      have hm:=Km.out
      cases hp:jA most bM u with
      | error e=>rw[hp]at hm;cases hm
      | ok o2=>
       rw[hp]at hm
       have iy:o2=wR/\a3=a4:=by simpa[Except.map] using hm
       obtain⟨rfl,rfl⟩:=iy
       have hi:=zgv hp
       refine⟨j+1,o2,yg,Bt,by go_num,by omega,K4.o0,HJ.out.2.1.trans ((Way.N4 _ _ _ _ _ (Fr.av [] wr)).trans K4.l1),?_,by rw[hi.1];simp;have:=HJ.out.2.2.2.1;omega⟩
       rw[<-HJ.out.2.2.1,j7,<-HJ.out.2.2.2.2.1,<-HJ.out.2.2.2.2.2.1,hp]
   ·have AB:gk=0:=by omega
    subst AB
    have e1:j7 most b n out = .ok bM:=by rw[<-TQ,j7]
    have HE:=aw aH im e1
    clear aH im TQ bQ e1
    obtain rfl:j=n:=by omega
    go_wp2
    go_ret
    exact .inr ⟨bM,a3,jP,nV,by rw[HM.o0,HE.l2],rfl,HE.o0,(Way.of _ _ _ _ _ ((K1.l2.trans K2.l2).trans K3.out.2.2)).trans HE.o1⟩
theorem zi6 (R p:Nat) (F:LN) (bs out:LB) (at_ oc most s:Nat) (oa:OA) (w:World) (h:St w R p F bs at_ out oa oc most) (hs:s<256) :
  Calls Tryz.prog 186 #[.pointer (some ⟨R,0,none⟩),.int .u8 s] w (DG w R p F bs oa most ((jA most out (UInt8.ofNat s)).map λo=>(o,at_))):=by
 have:=Li R p F bs out at_ oc most oa (UInt8.ofNat s) w h;rwa [show ((UInt8.ofNat s).toNat:Int)=(s:Int) from by simp[zk];omega]at this
theorem qrz {bs:LB} {most:Nat} {dl:LN} {s a a1:Nat} {out o:LB} (h:eY bs most dl s out a = .ok (o,a1)):a<=a1:=by
 have ht:∀{n a v b:Nat},aY bs a n = .ok (v,b)->a<=b:=λ{n a v b} h=>by
  unfold aY at h;split at h
  ·simp only[gW,fj]at h;omega
  ·cases h
 unfold eY at h;split at h
 ·cases h
 ·rename_i n a2 h1;have e1:a<=a2:=by
   unfold cL at h1;split at h1
   ·simp only[gW,fj]at h1;omega
   ·split at h1
    ·simp only[gW,fj]at h1;omega
    ·split at h1
     ·cases h1
     ·rename_i hh;have:=ht hh;simp only[gW,fj]at h1;omega
  split at h
  ·cases h
  ·rename_i d a3 h2;have e2:=(Le h2).2;split at h
   ·cases h
   ·split at h
    ·cases h
    ·rename_i b a4 h3;have e3:a3<=a4:=by
      unfold gu at h3;split at h3
      ·simp only[gW,fj]at h3;omega
      ·split at h3
       ·cases h3
       ·rename_i hh;have:=ht hh;simp only[gW,fj]at h3;omega
     split at h
     ·cases h
     ·split at h
      ·cases h
      ·simp only[gW,fj]at h;omega
theorem qmw (R p PL PD:Nat) (F:LN) (bs out:LB) (ll dl:LN) (at_ oc most:Nat) (oa:OA) (w:World) (h:St w R p F bs at_ out oa oc most) (hL:Tb w PL ll (R::p::af oa)) (hD:Tb w PD dl (R::p::af oa)) :
  Calls Tryz.prog 188 #[.pointer (some ⟨R,0,none⟩),.pointer (some ⟨PL,0,none⟩),.pointer (some ⟨PD,0,none⟩)] w (DG w R p F bs oa most (cU bs most ll dl (fuel bs) out at_)):=by
 obtain⟨M,hM⟩:=ai (cU bs most ll dl (fuel bs) out at_);rw[<-hM];have H:=aG h hL hD hM;clear h hL hD hM;go_enter Tryz.func188,Tryz.ntmps188;go_wp2;go_step3;go_wp2;go_step3;go_wp2;go_loopg [6,7,8,9,10] (fuel bs) (λk s6 s7 s8 s9 s10 wr=>∃(a1:Nat) (bM:LB) (jP:OA) (nV:Nat),St wr R p F bs a1 bM jP nV most/\Way w R p oa wr jP/\cU bs most ll dl k bM a1=M/\8*bs.length+1<=a1+k);case atStart=>exact⟨at_,out,oa,oc,H.o0,.refl _ _ _ _,H.l3.symm,by unfold fuel;omega⟩
 case round=>
  obtain⟨a1,bM,jP,nV,aH,im,his,Dt⟩:=hrel;have EZ:=aH.pF.2;obtain⟨k,rfl⟩:∃k,gk=k+1:=⟨gk-1,by omega⟩;have c0:=cell_of aH.box 0;simp only[bF,aT,bP]at c0;have HJ:=aQ aH im his (H.o1.way im) (H.o2.way im);clear aH im his;go_wp2_with (first|(go_at_call 206;refine (La R p PL F bs bM ll a1 nV most jP wr HJ.o0 HJ.o3).mono ?_;rintro e w2 (⟨v2,c,hm,bZ,cY,rfl,f1⟩|⟨s,a2,hm,rfl,s2,f2⟩);all_goals (try (have K2:=aw hm s2 f2;clear hm s2 f2)))|(go_at_call 186;refine (zi6 R p F bs bM a2 nV most s jP w2 K2.o1 (by omega)).mono ?_;rintro e w4 (⟨c,hm,bZ,cY,rfl,f1⟩|⟨wR,a4,yg,Bt,hm,rfl,s4,f4⟩);all_goals (have Km:=ah hm;clear hm);all_goals (try (have K4:=ak s4 f4;clear s4 f4)))|(go_at_call 207;refine (qzf R p PD F bs bM dl a2 nV most s jP w2 K2.o1 (HJ.l4.fr K2.l2 (by simp)) (by omega) (by omega)).mono ?_;rintro e w4 (⟨c,hm,bZ,cY,rfl,f1⟩|⟨wR,a4,yg,Bt,hm,rfl,s4,f4⟩);all_goals (have Km:=ah hm;clear hm);all_goals (try (have K4:=ak s4 f4;clear s4 f4))))
  ·rw[Exit.noGoto_ret];go_ret;exact .inl ⟨c,by rw[<-HJ.o2,cU,hm],bZ,cY,rfl,HJ.o1.J6 f1⟩
  ·rw[Exit.noGoto_ret];go_ret;have hm:=Km.out;cases hp:jA most bM (UInt8.ofNat s) with
   | ok o2=>rw[hp]at hm;cases hm
   | error e=>
    rw[hp]at hm;have P1:e=c:=by simpa[Except.map] using hm
    have e1:cU bs most ll dl (k+1) bM a1 = .error c:=by rw[cU,K2.o0];simp only[if_pos (show s<256 by omega),hp,P1]
    exact .inl ⟨c,by rw[<-HJ.o2,e1],bZ,cY,rfl,(HJ.o1.trans (Way.of _ _ _ _ _ K2.l2)).J6 f1⟩
  ·go_roundg k;case measure=>omega
   case rel=>
    have hm:=Km.out;cases hp:jA most bM (UInt8.ofNat s) with
    | error e=>rw[hp]at hm;cases hm
    | ok o2=>
     rw[hp]at hm;have iy:o2=wR/\a2=a4:=by simpa[Except.map] using hm
     obtain⟨rfl,rfl⟩:=iy;have bg:=(Le K2.o0).2;refine⟨a2,o2,yg,Bt,K4.o0,(HJ.o1.trans (Way.of _ _ _ _ _ K2.l2)).trans K4.l1,?_,by omega⟩;rw[<-HJ.o2,cU,K2.o0];simp only[if_pos (show s<256 by omega),hp]
  ·have BM:((s:Int)==256)=true:=by assumption
   have hs:s=256:=by have:=beq_iff_eq.1 BM;omega
   rw[Exit.noGoto_ret];go_ret;have e1:cU bs most ll dl (k+1) bM a1 = .ok (bM,a2):=by rw[cU,K2.o0];simp only[if_neg (show ¬s<256 by omega),if_pos hs]
   exact .inr ⟨bM,a2,jP,nV,by rw[<-HJ.o2,e1],rfl,K2.o1,HJ.o1.trans (Way.of _ _ _ _ _ K2.l2)⟩
  ·have BM:((s:Int)==256)=false:=by assumption
   have hs:s≠256:=λhe=>by rw[he]at BM;cases BM
   rw[Exit.noGoto_ret];go_ret;have e1:cU bs most ll dl (k+1) bM a1 = .error 3:=by rw[cU,K2.o0];simp only[if_neg (show ¬s<256 by omega),if_neg hs,if_pos (show 286<=s by omega)]
   exact .inl ⟨3,by rw[<-HJ.o2,e1],by decide,by decide,rfl,HJ.o1.J6 (K2.l2.mono (by simp))⟩
  ·have BM:((s:Int)==256)=false:=by assumption
   rw[Exit.noGoto_ret];go_ret;have hs:s≠256:=λhe=>by rw[he]at BM;cases BM
   have e1:cU bs most ll dl (k+1) bM a1 = .error c:=by rw[cU,K2.o0];simp only[if_neg (show ¬s<256 by omega),if_neg hs,if_neg (show ¬286<=s by omega),Km.out]
   exact .inl ⟨c,by rw[<-HJ.o2,e1],bZ,cY,rfl,(HJ.o1.trans (Way.of _ _ _ _ _ K2.l2)).J6 f1⟩
  ·have BM:((s:Int)==256)=false:=by assumption
   go_roundg k;case measure=>omega
   case rel=>
    have hs:s≠256:=λhe=>by rw[he]at BM;cases BM
    have bg:=(Le K2.o0).2;have Jo:=qrz Km.out;refine⟨a4,wR,yg,Bt,K4.o0,(HJ.o1.trans (Way.of _ _ _ _ _ K2.l2)).trans K4.l1,?_,by omega⟩;rw[<-HJ.o2,cU,K2.o0];simp only[if_neg (show ¬s<256 by omega),if_neg hs,if_neg (show ¬286<=s by omega),Km.out]
end inf
namespace inf
open Go bm bl huf
theorem Bc {bs:LB} {a n v a1:Nat} (h:aY bs a n = .ok (v,a1)):a1=a+n:=by
 unfold aY at h;split at h
 ·simp only[gW,fj]at h;exact h.2.symm
 ·cases h
theorem NB {bs:LB} {most:Nat}:∀{n:Nat} {out o:LB} {q a:Nat},df bs most n out q = .ok (o,a)->8*q<=a
 | 0,out,o,q,a,h=>by simp only[df,gW,fj]at h;omega
 | n+1,out,o,q,a,h=>by
  rw[df]at h;split at h
  ·split at h
   ·cases h
   ·have:=NB h;omega
  ·cases h
theorem qwz {bs:LB} {most a a1:Nat} {out o:LB} (h:fE bs most out a = .ok (o,a1)):a<=a1:=by
 unfold fE at h;split at h
 ·split at h
  ·have:=NB h;omega
  ·cases h
 ·cases h
theorem Sg {bs:LB} {most:Nat} {ll dl:LN}:∀{f:Nat} {out o:LB} {a a1:Nat},cU bs most ll dl f out a = .ok (o,a1)->a<=a1
 | 0,out,o,a,a1,h=>by simp only[cU]at h;cases h
 | f+1,out,o,a,a1,h=>by
  rw[cU]at h;split at h
  ·cases h
  ·rename_i s a2 hs;have h1:=(Le hs).2;split at h
   ·split at h
    ·cases h
    ·have:=Sg h;omega
   ·split at h
    ·simp only[gW,fj]at h;omega
    ·split at h
     ·cases h
     ·split at h
      ·cases h
      ·rename_i o2 a3 hm;have h2:=qrz hm;have:=Sg h;omega
theorem qr0 {bs:LB}:∀{ps fs gs:LN} {a a1:Nat},eM bs ps fs a = .ok (gs,a1)->a<=a1
 | [],fs,gs,a,a1,h=>by simp only[eM,gW,fj]at h;omega
 | i::t,fs,gs,a,a1,h=>by
  rw[eM]at h;split at h
  ·cases h
  ·rename_i v a2 hm;have h1:=Bc hm;have:=qr0 h;omega
theorem VQ {bs:LB} {ls:LN} {n:Nat}:∀{f:Nat} {L K:LN} {a a1:Nat},cD bs ls n f L a = .ok (K,a1)->a<=a1
 | 0,L,K,a,a1,h=>by simp only[cD]at h;cases h
 | f+1,L,K,a,a1,h=>by
  rw[cD]at h;split at h
  ·simp only[gW,fj]at h;omega
  ·split at h
   ·cases h
   ·rename_i s a2 hs;have h1:=(Le hs).2;split at h
    ·have:=VQ h;omega
    ·split at h
     ·cases h
     ·rename_i v a3 hm;have h2:=Bc hm;split at h
      ·cases h
      ·have:=VQ h;omega
theorem zg0 {bs:LB} {most a a1:Nat} {out o:LB} (h:nr bs most out a = .ok (o,a1)):a<=a1:=by
 unfold nr at h;split at h
 ·cases h
 ·rename_i v1 b1 h1;have e1:=Bc h1;split at h
  ·cases h
  ·split at h
   ·cases h
   ·rename_i v2 b2 h2;have e2:=Bc h2;split at h
    ·cases h
    ·split at h
     ·cases h
     ·rename_i v3 b3 h3;have e3:=Bc h3;unfold qA at h;split at h
      ·cases h
      ·rename_i fs b4 h4;have e4:=qr0 h4;split at h
       ·cases h
       ·unfold qz at h;split at h
        ·cases h
        ·rename_i ls b5 h5;have e5:=VQ h5;split at h
         ·cases h
         ·split at h
          ·cases h
          ·split at h
           ·cases h
           ·have:=Sg h;omega
theorem Wf {bs:LB} {most k a a1:Nat} {out o:LB} (h:eZ bs most k out a = .ok (o,a1)):a<=a1:=by
 unfold eZ at h;split at h
 ·exact qwz h
 ·split at h
  ·exact Sg h
  ·exact zg0 h
end inf

end Go.Proofs.YtkmpfgpfbmeihaaGreatDoor