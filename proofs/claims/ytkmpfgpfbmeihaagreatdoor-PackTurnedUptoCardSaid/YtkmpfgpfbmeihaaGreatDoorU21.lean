/-
  Texts of this proof, one behind the other: OSortP, OIns, OSort, WrOrd1, OOrd, OOrdA, DeltaShelf.
-/
import Derived.Test.YtkmpfgpfbmeihaaGreatDoorU20
import Derived.Shelf.Bytes.SlIndexWhole
set_option maxHeartbeats 16000000
set_option maxRecDepth 100000
set_option linter.unusedVariables false
set_option linter.unusedSimpArgs false
namespace Go.Proofs.YtkmpfgpfbmeihaaGreatDoor
namespace os
open Go Go.RowKit lib bm
structure Mo where
 worth:Nat
 m:pk.OM
def swp (f:Nat->Mo) (x y:Nat):Nat->Mo:=λi=>if i=x then f y else if i=y then f x else f i
def mz (f:Nat->Mo) (a b:Nat):Nat->Nat->Mo
 | 0=>f
 | k+1=>swp (mz f a b k) (b+k) (a+k)
theorem Dp (f:Nat->Mo) (a b:Nat):∀n,a+n<=b->∀t,mz f a b n t=if a<=t/\t<a+n then f (t-a+b) else if b<=t/\t<b+n then f (t-b+a) else f t
 | 0,_,t=>by rw[if_neg (by omega),if_neg (by omega)];rfl
 | n+1,h,t=>by
  have ih:=Dp f a b n (by omega);show (if t=b+n then mz f a b n (a+n) else if t=a+n then mz f a b n (b+n) else mz f a b n t)=_;rw[ih,ih,ih];by_cases h1:t=b+n
  ·subst h1;rw[if_pos rfl,if_neg (by omega),if_neg (by omega),if_neg (by omega),if_pos (by omega)];congr 1;omega
  ·rw[if_neg h1];by_cases h2:t=a+n
   ·subst h2;rw[if_pos rfl,if_neg (by omega),if_neg (by omega),if_pos (by omega)];congr 1;omega
   ·rw[if_neg h2];by_cases h3:a<=t/\t<a+n
    ·rw[if_pos h3,if_pos (by omega)]
    ·rw[if_neg h3,if_neg (c:=a<=t/\t<a+(n+1)) (by omega)];by_cases h4:b<=t/\t<b+n
     ·rw[if_pos h4,if_pos (by omega)]
     ·rw[if_neg h4,if_neg (by omega)]
def ay (f:Nat->Mo) (a m b:Nat):Nat->Mo:=λt=>if a<=t/\t<a+(b-m) then f (t-a+m) else if a+(b-m)<=t/\t<b then f (t-(b-m)) else f t
theorem wj {f:Nat->Mo} {a m b t:Nat} (h1:a<=t) (h2:t<a+(b-m)):ay f a m b t=f (t-a+m):=if_pos ⟨h1,h2⟩
theorem yO {f:Nat->Mo} {a m b t:Nat} (h1:a+(b-m)<=t) (h2:t<b):ay f a m b t=f (t-(b-m)):=by unfold ay;rw[if_neg (by omega),if_pos ⟨h1,h2⟩]
theorem pL {f:Nat->Mo} {a m b t:Nat} (ha:a<=m) (hb:m<=b) (h:t<a\/b<=t):ay f a m b t=f t:=by unfold ay;rw[if_neg (by omega),if_neg (by omega)]
theorem T6 (f:Nat->Mo) (m i:Nat) (hi:i<=m):mz f (m-i) m i=ay f (m-i) m (m+i):=by
 funext t;rw[Dp f (m-i) m i (by omega) t];unfold ay;by_cases h1:m-i<=t/\t<m-i+i
 ·rw[if_pos h1,if_pos (by omega)]
 ·rw[if_neg h1,if_neg (c:=m-i<=t/\t<m-i+(m+i-m)) (by omega)];by_cases h2:m<=t/\t<m+i
  ·rw[if_pos h2,if_pos (by omega)];congr 1;omega
  ·rw[if_neg h2,if_neg (by omega)]
theorem T8 (f:Nat->Mo) (m i j:Nat) (hi:i<=m) (hj:j<i):ay (mz f (m-i) m j) (m-(i-j)) m (m+j)=ay f (m-i) m (m+j):=by
 funext t;have e:=Dp f (m-i) m j (by omega);unfold ay;rw[e,e,e];by_cases h1:m-(i-j)<=t/\t<m-(i-j)+(m+j-m)
 ·rw[if_pos h1];rw[if_neg (c:=m-i<=t-(m-(i-j))+m/\_) (by omega),if_pos (c:=m<=t-(m-(i-j))+m/\_) (by omega),if_neg (c:=m-i<=t/\_) (by omega),if_pos (by omega)];congr 1;omega
 ·rw[if_neg h1];by_cases h2:m-(i-j)+(m+j-m)<=t/\t<m+j
  ·rw[if_pos h2,if_neg (c:=m-i<=t-(m+j-m)/\_) (by omega),if_neg (c:=m<=t-(m+j-m)/\_) (by omega),if_neg (c:=m-i<=t/\_) (by omega),if_pos (by omega)]
  ·rw[if_neg h2];by_cases h3:m-i<=t/\t<m-i+j
   ·rw[if_pos h3,if_pos (by omega)]
   ·rw[if_neg h3,if_neg (c:=m<=t/\_) (by omega),if_neg (by omega),if_neg (by omega)]
theorem T9 (f:Nat->Mo) (m i j:Nat) (hi:i<=m) (hj:i<j):ay (mz f (m-i) (m+j-i) i) (m-i) m (m+(j-i))=ay f (m-i) m (m+j):=by
 funext t;have e:=Dp f (m-i) (m+j-i) i (by omega);unfold ay;rw[e,e,e];by_cases h1:m-i<=t/\t<m-i+(m+(j-i)-m)
 ·rw[if_pos h1];rw[if_neg (c:=m-i<=t-(m-i)+m/\_) (by omega),if_neg (c:=m+j-i<=t-(m-i)+m/\_) (by omega),if_pos (by omega)]
 ·rw[if_neg h1];by_cases h2:m-i+(m+(j-i)-m)<=t/\t<m+(j-i)
  ·rw[if_pos h2,if_pos (c:=m-i<=t-(m+(j-i)-m)/\_) (by omega),if_pos (c:=m-i<=t/\_) (by omega)];congr 1;omega
  ·rw[if_neg h2,if_neg (c:=m-i<=t/\t<m-i+i) (by omega),if_neg (c:=m-i<=t/\_) (by omega)];by_cases h3:m+j-i<=t/\t<m+j-i+i
   ·rw[if_pos h3,if_pos (by omega)];congr 1;omega
   ·rw[if_neg h3,if_neg (by omega)]
theorem yP (f:Nat->Mo) (a m b:Nat) (ha:a<=m) (hb:m<=b) (h:a=m\/m=b):ay f a m b=f:=by
 funext t;unfold ay;by_cases h1:a<=t/\t<a+(b-m)
 ·rw[if_pos h1];congr 1;omega
 ·rw[if_neg h1];by_cases h2:a+(b-m)<=t/\t<b
  ·rw[if_pos h2];congr 1;omega
  ·rw[if_neg h2]
theorem Mn (f:Nat->Mo) (i j:Nat) (hj:0<j) (ia:j<=i):swp (ay f j i (i+1)) j (j-1)=ay f (j-1) i (i+1):=by
 funext t;unfold swp;by_cases h1:t=j
 ·subst h1;rw[if_pos rfl,pL (by omega) (by omega) (.inl (by omega)),yO (by omega) (by omega)];congr 1;omega
 ·rw[if_neg h1];by_cases h2:t=j-1
  ·subst h2;rw[if_pos rfl,wj (by omega) (by omega),wj (by omega) (by omega)];congr 1;omega
  ·rw[if_neg h2];by_cases h3:t<j-1\/i+1<=t
   ·rw[pL (by omega) (by omega) (by omega),pL (by omega) (by omega) h3]
   ·rw[yO (by omega) (by omega),yO (by omega) (by omega)]
theorem Ua (f:Nat->Mo) (a k:Nat) (hk:a<=k):swp (ay f a (a+1) (k+1)) k (k+1)=ay f a (a+1) (k+2):=by
 funext t;unfold swp;by_cases h1:t=k
 ·subst h1;rw[if_pos rfl,pL (by omega) (by omega) (.inr (by omega)),wj (by omega) (by omega)];congr 1;omega
 ·rw[if_neg h1];by_cases h2:t=k+1
  ·subst h2;rw[if_pos rfl,yO (by omega) (by omega),yO (by omega) (by omega)];congr 1;omega
  ·rw[if_neg h2];by_cases h3:t<a\/k+2<=t
   ·rw[pL (by omega) (by omega) (by omega),pL (by omega) (by omega) h3]
   ·rw[wj (by omega) (by omega),wj (by omega) (by omega)]
def tg (x:Mo):Nat×Mo:=(x.worth,x)
def sg (f:Nat->Mo) (a n:Nat):List (Nat×Mo):=(List.range n).map λi=>tg (f (a+i))
theorem pM {f f':Nat->Mo} {a a' n:Nat} (h:∀t,t<n->f (a+t)=f' (a'+t)):sg f a n=sg f' a' n:=by unfold sg;exact CD λt ht=>by rw[h t (xD.1 ht)]
theorem ME (f:Nat->Mo) (a n m:Nat):sg f a (n+m)=sg f a n++sg f (a+n) m:=by unfold sg;rw[List.range_add,gB,xC];congr 1;exact CD λt _=>by simp[uy]
theorem ji (f:Nat->Mo) (a m b:Nat) (h1:a<=m) (h2:m<=b):sg f a (b-a)=sg f a (m-a)++sg f m (b-m):=by rw[show b-a=(m-a)+(b-m) from by omega,ME,show a+(m-a)=m from by omega]
theorem Dn (f:Nat->Mo) (a:Nat):sg f a 1=[tg (f a)]:=rfl
theorem Du (f:Nat->Mo) (a:Nat):sg f a 0=[]:=rfl
theorem oH {f:Nat->Mo} {a n:Nat} {x:Nat×Mo}:x∈sg f a n↔∃t,t<n/\x=tg (f (a+t)):=by
 unfold sg;rw[jR];constructor
 ·rintro⟨t,ht,rfl⟩;exact⟨t,xD.1 ht,rfl⟩
 ·rintro⟨t,ht,rfl⟩;exact⟨t,xD.2 ht,rfl⟩
theorem yI {f:Nat->Mo} {a n:Nat}:huf.dX (sg f a n)↔∀i j,i<=j->j<n->(f (a+i)).worth<=(f (a+j)).worth:=by
 unfold huf.dX sg;rw[He];constructor
 ·intro h i j jW hj;rcases og i j with k|k
  ·have:=FD.1 h i j (by simp;omega) (by simp;omega) k;simpa[tg] using this
  ·obtain rfl:i=j:=by omega
   exact aw _
 ·intro h;refine FD.2 λi j hi hj jW=>?_
  simp only[Aw]at hi hj;simpa[tg] using h i j (by omega) hj
theorem uu {f:Nat->Mo} {a n c k:Nat} (h:huf.dX (sg f a n)) (h1:a<=c) (h2:c+k<=a+n):huf.dX (sg f c k):=by rw[yI]at h ⊢;intro i j jW hj;have:=h (c-a+i) (c-a+j) (by omega) (by omega);rwa [show a+(c-a+i)=c+i from by omega,show a+(c-a+j)=c+j from by omega]at this
theorem AB (f:Nat->Mo) (s m e:Nat) (h1:s<=m) (h2:m<=e):sg (ay f s m e) s (e-m)=sg f m (e-m):=
 pM λt ht=>by rw[wj (by omega) (by omega)];congr 1;omega
theorem Ay (f:Nat->Mo) (s m e:Nat) (h1:s<=m) (h2:m<=e):sg (ay f s m e) (s+(e-m)) (m-s)=sg f s (m-s):=
 pM λt ht=>by rw[yO (by omega) (by omega)];congr 1;omega
theorem yN (f:Nat->Mo) (s m e a n:Nat) (h1:s<=m) (h2:m<=e) (h:a+n<=s\/e<=a):sg (ay f s m e) a n=sg f a n:=
 pM λt ht=>by rw[pL h1 h2 (by omega)]
structure Sd (f f':Nat->Mo) (a b:Nat):Prop where
 out:∀t,t<a\/b<=t->f' t=f t
 srt:huf.dX (sg f' a (b-a))
 stb:huf.eE (sg f' a (b-a)) (sg f a (b-a))
theorem Hp (f:Nat->Mo) (a i j:Nat) (ha:a<=j) (hj:j<=i) (hs:huf.dX (sg f a (i-a))) (h1:a<j->(f (j-1)).worth<=(f i).worth) (h2:j<i->(f i).worth<(f j).worth) :
  Sd f (ay f j i (i+1)) a (i+1):=by
 have fZ:=yI.1 hs;have e0:sg (ay f j i (i+1)) a (i+1-a)=sg f a (j-a)++tg (f i)::sg f j (i-j):=by
  rw[ji _ a j (i+1) ha (by omega),yN _ _ _ _ _ _ hj (by omega) (.inl (by omega)),ji _ j (j+1) (i+1) (by omega) (by omega),show j+1-j=i+1-i from by omega,AB _ _ _ _ hj (by omega),show j+1=j+(i+1-i) from by omega,show i+1-(j+(i+1-i))=i-j from by omega,
   Ay _ _ _ _ hj (by omega),show i+1-i=1 from by omega,Dn]
  rfl
 have e1:sg f a (i+1-a)=sg f a (j-a)++sg f j (i-j)++[tg (f i)]:=by rw[ji f a i (i+1) (by omega) (by omega),ji f a j i ha hj,show i+1-i=1 from by omega,Dn]
 have hp:=huf.qqc (x:=tg (f i)) (A1:=sg f a (j-a)) (A2:=sg f j (i-j)) (by rw[<-ji f a j i ha hj];exact hs)
  (λy hy=>by
   obtain⟨t,ht,rfl⟩:=oH.1 hy
   refine bS (fZ t (j-1-a) (by omega) (by omega)) ?_
   rw[show a+(j-1-a)=j-1 from by omega]
   exact h1 (by omega))
  (λy hy=>by
   obtain⟨t,ht,rfl⟩:=oH.1 hy
   refine eT (h2 (by omega)) ?_
   have:=fZ (j-a) (j-a+t) (by omega) (by omega)
   rwa [show a+(j-a)=j from by omega,show a+(j-a+t)=j+t from by omega]at this)
 exact⟨λt ht=>pL hj (by omega) (by omega),by rw[e0];exact hp.1,by rw[e0,e1];exact hp.2⟩
theorem Uu (f:Nat->Mo) (a i b:Nat) (hi:a<i) (hb:i<=b) (hs:huf.dX (sg f (a+1) (b-(a+1)))) (h1:a+1<i->(f (i-1)).worth<(f a).worth) (h2:i<b->(f a).worth<=(f i).worth) :
  Sd f (ay f a (a+1) i) a b:=by
 have fZ:=yI.1 hs;have e0:sg (ay f a (a+1) i) a (b-a)=sg f (a+1) (i-(a+1))++tg (f a)::sg f i (b-i):=by
  have q1:=yN f a (a+1) i i (b-i) (by omega) (by omega) (.inr (aw _));have q2:=AB f a (a+1) i (by omega) (by omega);have q3:=Ay f a (a+1) i (by omega) (by omega);have q4:sg (ay f a (a+1) i) a (i-a)=sg f (a+1) (i-(a+1))++sg f a (a+1-a):=by rw[show i-a=(i-(a+1))+(a+1-a) from by omega,ME,q2,q3]
  rw[ji _ a i b (by omega) hb,q1,q4,show a+1-a=1 from by omega,Dn];simp
 have e1:sg f a (b-a)=tg (f a)::(sg f (a+1) (i-(a+1))++sg f i (b-i)):=by rw[ji f a (a+1) b (by omega) (by omega),ji f (a+1) i b (by omega) hb,show a+1-a=1 from by omega,Dn];rfl
 have hp:=huf.qtj (x:=tg (f a)) (B1:=sg f (a+1) (i-(a+1))) (B2:=sg f i (b-i)) (by rw[<-ji f (a+1) i b (by omega) hb];exact hs)
  (λy hy=>by
   obtain⟨t,ht,rfl⟩:=oH.1 hy
   refine Az (fZ t (i-1-(a+1)) (by omega) (by omega)) ?_
   rw[show a+1+(i-1-(a+1))=i-1 from by omega]
   exact h1 (by omega))
  (λy hy=>by
   obtain⟨t,ht,rfl⟩:=oH.1 hy
   refine bS (h2 (by omega)) ?_
   have:=fZ (i-(a+1)) (i-(a+1)+t) (by omega) (by omega)
   rwa [show a+1+(i-(a+1))=i from by omega,show a+1+(i-(a+1)+t)=i+t from by omega]at this)
 exact⟨λt ht=>pL (by omega) (by omega) (by omega),by rw[e0];exact hp.1,by rw[e0,e1];exact hp.2⟩
theorem L9 (f f1 f2:Nat->Mo) (a m b mid s e:Nat) (lh:mid=(a+b)/2) (oQ:a<m) (jq:m<b) (zO:s+e=mid+m) (has:a<=s) (xR:s<=m) (wT:m<=e) (Jb:e<=b)
  (hA:huf.dX (sg f a (m-a))) (hB:huf.dX (sg f m (b-m)))
  (h1:s<m->m<e->(f (e-1)).worth<(f s).worth) (h2:a<s->e<b->(f (s-1)).worth<=(f e).worth)
  (d1:Sd (ay f s m e) f1 a mid) (d2:Sd f1 f2 mid b):Sd f f2 a b:=by
 have PH:=yI.1 hA;have Jy:=yI.1 hB;have em:s+(e-m)=mid:=by omega
 have eA:sg f a (m-a)=sg f a (s-a)++sg f s (m-s):=ji f a s m has xR;have eB:sg f m (b-m)=sg f m (e-m)++sg f e (b-e):=ji f m e b wT Jb;have eL:sg (ay f s m e) a (mid-a)=sg f a (s-a)++sg f m (e-m):=by have q1:=yN f s m e a (s-a) xR wT (.inl (by omega));have q2:=AB f s m e xR wT;rw[ji _ a s mid has (by omega),q1,show mid-s=e-m from by omega,q2]
 have eR:sg (ay f s m e) mid (b-mid)=sg f s (m-s)++sg f e (b-e):=by have q1:=yN f s m e e (b-e) xR wT (.inr (aw _));have q2:=Ay f s m e xR wT;rw[em]at q2;rw[ji _ mid e b (by omega) Jb,q1,show e-mid=m-s from by omega,q2]
 have BX:sg f1 mid (b-mid)=sg (ay f s m e) mid (b-mid):=pM λt ht=>d1.out _ (.inr (by omega))
 have PW:sg f2 a (mid-a)=sg f1 a (mid-a):=pM λt ht=>d2.out _ (.inl (by omega))
 have hp:=huf.qtc (A1:=sg f a (s-a)) (A2:=sg f s (m-s)) (B1:=sg f m (e-m)) (B2:=sg f e (b-e)) (L:=sg f1 a (mid-a)) (R:=sg f2 mid (b-mid))
  (by rw[<-eA];exact hA) (by rw[<-eB];exact hB)
  (λx hx y hy=>by
   obtain⟨t,ht,rfl⟩:=oH.1 hx
   obtain⟨u,hu,rfl⟩:=oH.1 hy
   have k1:=PH (s-a) (s-a+t) (by omega) (by omega)
   have k2:=Jy u (e-1-m) (by omega) (by omega)
   rw[show a+(s-a)=s from by omega,show a+(s-a+t)=s+t from by omega]at k1
   rw[show m+(e-1-m)=e-1 from by omega]at k2
   exact Az k2 (eT (h1 (by omega) (by omega)) k1))
  (λx hx y hy=>by
   obtain⟨t,ht,rfl⟩:=oH.1 hx
   obtain⟨u,hu,rfl⟩:=oH.1 hy
   have k1:=PH t (s-1-a) (by omega) (by omega)
   have k2:=Jy (e-m) (e-m+u) (by omega) (by omega)
   rw[show a+(s-1-a)=s-1 from by omega]at k1
   rw[show m+(e-m)=e from by omega,show m+(e-m+u)=e+u from by omega]at k2
   exact bS k1 (bS (h2 (by omega) (by omega)) k2))
  d1.srt (by rw[<-eL];exact d1.stb) d2.srt (by rw[<-eR,<-BX];exact d2.stb)
 refine⟨λt ht=>?_,?_,?_⟩
 ·rw[d2.out t (by omega),d1.out t (by omega),pL xR wT (by omega)]
 ·rw[ji f2 a mid b (by omega) (by omega),PW];exact hp.1
 ·rw[ji f2 a mid b (by omega) (by omega),PW,ji f a m b (by omega) (by omega),eA,eB];exact hp.2
theorem Dt (f:Nat->Mo) (a b:Nat) (h:huf.dX (sg f a (b-a))):Sd f f a b:=⟨λ_ _=>rfl,h,.refl _⟩
theorem Sd.trans {f f' f2:Nat->Mo} {a b:Nat} (h:Sd f f' a b) (h':Sd f' f2 a b):Sd f f2 a b:=⟨λt ht=>(h'.out t ht).trans (h.out t ht),h'.srt,h'.stb.trans h.stb⟩
theorem Sd.mJ {f f':Nat->Mo} {a b:Nat} (h:Sd f f' a b) (oR:a<=b) {n:Nat} (hn:b<=n):huf.eE (sg f' 0 n) (sg f 0 n):=by
 have e:∀k:Nat->Mo,sg k 0 n=sg k 0 a++sg k a (b-a)++sg k b (n-b):=λk=>by have h1:=ji k 0 a n (by omega) (by omega);rw[Cq,Cq]at h1;rw[h1,ji k a b n oR hn,gH]
 rw[e f',e f];refine huf.eE.append (huf.eE.append ?_ h.stb) ?_
 ·rw[pM (f:=f') (f':=f) λt ht=>h.out _ (.inl (by omega))];exact .refl _
 ·rw[pM (f:=f') (f':=f) λt ht=>h.out _ (.inr (by omega))];exact .refl _
open pk
def Ow (w:World) (g:Nat) (T:TypeId) (A0:Array Value) (n:Nat) (f:Nat->Mo):Prop:=
 ∃A:Array Value,w.heap[g]?=some (.cells A T (0,0))/\A.size=A0.size/\5*n<=A.size/\(∀j,5*n<=j->A[j]?=A0[j]?)/\
  ∀i,i<n->∀j,j<5->A[i*5+j]?=(dG (f i).m.1 (f i).m.2.1 (f i).m.2.2)[j]?
def gj (A:Array Value) (x:Nat) (o:OM):Array Value:=((((A.setIfInBounds (x*5) (.int .i64 o.1.kind)).setIfInBounds (x*5+1) (.slice o.2.1 o.1.body.length o.2.2)).setIfInBounds (x*5+2) (.string (str o.1.id))).setIfInBounds (x*5+3) (.int .i64 o.1.at_)).setIfInBounds (x*5+4) (.int .u32 (o.1.crc:Nat))
theorem Ic (A:Array Value) (x:Nat) (o:OM):(gj A x o).size=A.size:=by simp[gj]
theorem oe (A:Array Value) (x:Nat) (o:OM) (k:Nat) (h:k<x*5\/x*5+5<=k):(gj A x o)[k]?=A[k]?:=by unfold gj;rw[aZ (by omega),aZ (by omega),aZ (by omega),aZ (by omega),aZ (by omega)]
theorem UB (A:Array Value) (x:Nat) (o:OM) (hx:x*5+5<=A.size) (j:Nat) (hj:j<5):(gj A x o)[x*5+j]?=(dG o.1 o.2.1 o.2.2)[j]?:=by
 unfold gj;rcases (show j=0\/j=1\/j=2\/j=3\/j=4 by omega) with rfl|rfl|rfl|rfl|rfl
 ·rw[aZ (by omega),aZ (by omega),aZ (by omega),aZ (by omega),jS,iu (by omega)];rfl
 ·rw[aZ (by omega),aZ (by omega),aZ (by omega),iu (by simp;omega)];rfl
 ·rw[aZ (by omega),aZ (by omega),iu (by simp;omega)];rfl
 ·rw[aZ (by omega),iu (by simp;omega)];rfl
 ·rw[iu (by simp;omega)];rfl
theorem Ow.swap {g:Nat} {T:TypeId} {A0 A:Array Value} {n x y:Nat} {f:Nat->Mo} (w2:World) (p q:Mo)
  (hs:A.size=A0.size) (hn:5*n<=A.size) (ht:∀j,5*n<=j->A[j]?=A0[j]?)
  (hf:∀i,i<n->∀j,j<5->A[i*5+j]?=(dG (f i).m.1 (f i).m.2.1 (f i).m.2.2)[j]?)
  (hx:x<n) (hy:y<n) (rG:x≠y) (hp:p=f x) (hq:q=f y)
  (h:w2.heap[g]?=some (.cells (gj (gj A x q.m) y p.m) T (0,0))):Ow w2 g T A0 n (swp f y x):=by
 refine⟨_,h,by rw[Ic,Ic];exact hs,by rw[Ic,Ic];exact hn,λj hj=>?_,λi hi j hj=>?_⟩
 ·rw[oe _ _ _ _ (.inr (by omega)),oe _ _ _ _ (.inr (by omega))];exact ht j hj
 ·unfold swp;by_cases h1:i=y
  ·subst h1;rw[if_pos rfl,<-hp,UB _ _ _ (by rw[Ic];omega) j hj]
  ·rw[if_neg h1,oe _ _ _ _ (by omega)];by_cases h2:i=x
   ·subst h2;rw[if_pos rfl,<-hq,UB _ _ _ (by omega) j hj]
   ·rw[if_neg h2,oe _ _ _ _ (by omega)];exact hf i hi j hj
def Wk (f:Nat->Mo):Prop:=∀i,(f i).worth=key (f i).m.1/\(f i).m.1.id.length=40
theorem Wk.TJ {f:Nat->Mo} (h:Wk f) (a m b:Nat):Wk (ay f a m b):=λi=>by
 unfold ay;split
 ·exact h _
 ·split<;>exact h _
theorem Wk.sd {f f':Nat->Mo} {a b:Nat} (h:Wk f) (s:Sd f f' a b):Wk f':=λi=>by
 by_cases hi:i<a\/b<=i
 ·rw[s.out i hi];exact h i
 ·have h1:tg (f' i)∈sg f' a (b-a):=oH.2 ⟨i-a,by omega,by rw[show a+(i-a)=i from by omega]⟩;obtain⟨t,_,ht⟩:=oH.1 ((s.stb.mem _).1 h1);have:=congrArg Prod.snd ht;simp only[tg]at this;rw[this];exact h _
theorem gV (f:Nat->Mo) (x y:Nat):swp f x y=swp f y x:=by funext i;unfold swp;split<;>split<;>simp_all
theorem Ow.fr {w w':World} {g:Nat} {T:TypeId} {A0:Array Value} {n:Nat} {f:Nat->Mo} (h:Ow w g T A0 n f) (k:Fr [] w w'):Ow w' g T A0 n f:=by obtain⟨A,h1,h2⟩:=h;exact⟨A,k.ae h1 (by simp),h2⟩
theorem Ow.drew {w:World} {g:Nat} {T:TypeId} {A0:Array Value} {n:Nat} {f:Nat->Mo} (h:Ow w g T A0 n f):Ow w.drew g T A0 n f:=h.fr (Fr.av [] w)
theorem Ow.cells {w:World} {g:Nat} {T:TypeId} {A0:Array Value} {n:Nat} {f:Nat->Mo} (h:Ow w g T A0 n f) {i:Nat} (hi:i<n) :
  w.cell? ⟨g,i*5,none⟩=some (.int .i64 (f i).m.1.kind)/\w.cell? ⟨g,i*5+1,none⟩=some (.slice (f i).m.2.1 (f i).m.1.body.length (f i).m.2.2)/\w.cell? ⟨g,i*5+2,none⟩=some (.string (str (f i).m.1.id))/\w.cell? ⟨g,i*5+3,none⟩=some (.int .i64 (f i).m.1.at_)/\w.cell? ⟨g,i*5+4,none⟩=some (.int .u32 ((f i).m.1.crc:Nat)):=by
 obtain⟨A,h1,_,_,_,h2⟩:=h;exact⟨(cell_of h1 _).trans (h2 i hi 0 (by decide)),(cell_of h1 _).trans (h2 i hi 1 (by decide)),(cell_of h1 _).trans (h2 i hi 2 (by decide)),(cell_of h1 _).trans (h2 i hi 3 (by decide)),(cell_of h1 _).trans (h2 i hi 4 (by decide))⟩
theorem Sd.trans' {f f1 f2:Nat->Mo} {a i:Nat} (h:Sd f f1 a i) (h':Sd f1 f2 a (i+1)):Sd f f2 a (i+1):=by
 refine⟨λt ht=>(h'.out t ht).trans (h.out t (by omega)),h'.srt,h'.stb.trans ?_⟩;by_cases ha:a<=i
 ·rw[ji f1 a i (i+1) ha (by omega),ji f a i (i+1) ha (by omega)];refine huf.eE.append h.stb ?_;rw[pM (f:=f1) (f':=f) λt _=>h.out _ (by omega)];exact .refl _
 ·rw[show i+1-a=0 from by omega,Du,Du];exact .refl _
theorem MN (g:Nat) (T:TypeId) (A0:Array Value) (L cap a b:Nat) (f:Nat->Mo) (w:World)
  (h:Ow w g T A0 L f) (ha:a<=b) (xe:b<=L) (hL:L<=100000) (bA:Wk f) (R:Nat) (hR:eP w R) (rM:g≠R) :
  Calls Tryz.prog 107 #[.slice (some ⟨g,0,none⟩) L cap,.int .i64 (a:Nat),.int .i64 (b:Nat),kN R] w λe w'=>e = .returned (.tuple #[])/\∃f',Ow w' g T A0 L f'/\Sd f f' a b/\Fr [g] w w':=by
 have H:=aP h bA ha hR rM;clear h bA hR rM;unfold kN;go_enter Tryz.func107,Tryz.ntmps107;go_wp2;go_loopg [8,9] (b-a) (λk s8 s9 wr=>∃i:Nat,s8 = .int .i64 (i:Nat)/\i+k=b+1/\a+1<=i/\∃f1,Ow wr g T A0 L f1/\Sd f f1 a (min i b)/\Fr [g] w wr);case atStart=>
  refine⟨a+1,by go_num,by have:=H.o2;omega,aw _,f,H.o0,Dt f a _ ?_,.refl _ w⟩;refine yI.2 λx y rG hy=>?_
  obtain rfl:x=y:=by omega
  exact aw _
 case round=>
  obtain⟨i,rfl,bU,Yp,f1,hD,hS,hf⟩:=hrel;by_cases hi:i<b
  ·obtain⟨k,rfl⟩:∃k,gk=k+1:=⟨gk-1,by omega⟩;rw[tU (by omega)]at hS;have AX:=H.o1.sd hS;obtain⟨wo,rfl⟩:∃wo:World,wo=wr:=⟨_,rfl⟩;have HX:=aP hD hS hf AX bU;have XQ:i<L:=by omega
   have Lj:i<=100000:=by omega
   clear hD hS hf AX bU;go_wp2;go_loopg [9] (i-a) (λk s9 wr=>∃j:Nat,s9 = .int .i64 (j:Nat)/\j=k+a/\j<=i/\(j<i->(f1 i).worth<(f1 j).worth)/\Ow wr g T A0 L (ay f1 j i (i+1))/\Fr [g] w wr);case atStart=>exact⟨i,rfl,by omega,aw _,λh=>absurd h (by omega),by rw[yP f1 i i (i+1) (aw _) (by omega) (.inl rfl)];exact HX.o0,HX.o2⟩
   case round=>
    obtain⟨j,rfl,eG,ia,aY,hD,hf⟩:=hrel;by_cases hja:a<j
    ·obtain⟨k2,rfl⟩:∃k2,gk=k2+1:=⟨gk-1,by omega⟩;obtain⟨q,rfl⟩:∃q,j=q+1:=⟨j-1,by omega⟩;have x0:=wj (f:=f1) (a:=q+1) (m:=i) (b:=i+1) (t:=q+1) (aw _) (by omega);rw[show q+1-(q+1)+i=i from by omega]at x0;have x1:=pL (f:=f1) (a:=q+1) (m:=i) (b:=i+1) (t:=q) (by omega) (by omega) (.inl (by omega));have d0:=λx=>(hD.drew.fr (dk [] wr.drew x)).cells (i:=q+1) (by omega)
     have d1:=λx=>(hD.drew.fr (dk [] wr.drew x)).cells (i:=q) (by omega)
     rw[x0]at d0;rw[x1]at d1;have b0:=HX.o3 i;have b1:=HX.o3 q;obtain⟨p,hp⟩:=ah (f1 i);obtain⟨r,hr⟩:=ah (f1 q);rw[<-hp]at b0 d0;rw[<-hr]at b1 d1;have HI:=bJ hp hr hD hf eG aY;clear hp hr eG aY x0 x1;have vw:=λx=>(d0 x).1
     have vv:=λx=>(d0 x).2.1
     have GF:=λx=>(d0 x).2.2.1
     have GD:=λx=>(d0 x).2.2.2.1
     have GC:=λx=>(d0 x).2.2.2.2
     have d10:=λx=>(d1 x).1
     have d11:=λx=>(d1 x).2.1
     have d12:=λx=>(d1 x).2.2.1
     have d13:=λx=>(d1 x).2.2.2.1
     have d14:=λx=>(d1 x).2.2.2.2
     clear d0 d1;have jF:=Rc R p.m r.m wr.drew (((hf.drew).ae H.o3 (by simp;exact jg H.l4))) b0.2 b1.2;simp only[dG]at jF;rw[<-b0.1,<-b1.1]at jF;have Cj:=af jF;clear jF b0 b1 hD hf;have e0:((q+1:Nat):Int)-1=(q:Int):=by omega
     have g2:decide ((L:Int)<=((q+1:Nat):Int))=false:=by simp;omega
     have g4:decide ((L:Int)<=(q:Int))=false:=by simp;omega
     obtain⟨j,hj⟩:=ah (q+1);rw[<-hj]at vw vv GF GD GC e0 g2 ia hja ⊢;have HJ:=af hj;clear hj;go_upto_region 4 with fail;refine jh 17 [(false,0),(false,1),(false,2),(false,3),(false,4),(false,5),(false,6),(false,7),(false,8),(false,9),(false,10),(false,11),(false,12),(false,13),(true,14),(false,15),(false,16)] [] (by kernel_rfl) (by kernel_rfl) (λ_ _ d _ _ h=>by cases d<;>exact h) ?_;simp only[iw];refine cS 14 rfl ?_;simp only[aU];repeat (go_big_quiet_step (fail))
     refine wpQuiet_nil ?_;refine ep rfl ?_;intro K hK;go_wp2_with (go_at_call 39;refine Cj.out.mono ?_;rintro e w1 ⟨rv,rfl,wJ,vM,tk,fO⟩);refine hK.out _ _ fO ?_;clear hK K vw vv GF GD GC d10 d11 d12 d13 d14 Cj;have H1:=af fO;clear fO;by_cases hpr:p.worth<r.worth
     ·have g5:decide (rv<0)=true:=by simp;exact wJ.2 hpr
      refine cS 2 rfl ?_;simp only[aU];repeat (go_big_quiet_step (fail))
      refine wpQuiet_nil ?_;refine fE ?_;go_wp2;have hD:Ow w1 g T A0 L (ay f1 j i (i+1)):=by rw[HJ.out];exact (HI.out.2.2.1.drew).fr H1.out
      have kE:j<L:=by omega
      have qZ:q<L:=by omega
      have rG:j≠q:=by have:=HJ.out;omega
      obtain⟨A,hA,cG,gP,cM,eH⟩:=hD;obtain⟨cx,iy⟩:=ah ((ay f1 j i (i+1)) j);obtain⟨cy,iL⟩:=ah ((ay f1 j i (i+1)) q);have X:=eH j kE;have Y:=eH q qZ;rw[<-iy]at X;rw[<-iL]at Y;have d0:w1.cell? ⟨g,j*5,none⟩=some (.int .i64 cx.m.1.kind):=(cell_of hA (j*5)).trans (X 0 (by decide));have d1:w1.cell? ⟨g,j*5+1,none⟩=some (.slice cx.m.2.1 cx.m.1.body.length cx.m.2.2):=(cell_of hA (j*5+1)).trans (X 1 (by decide));have d2:w1.cell? ⟨g,j*5+2,none⟩=some (.string (str cx.m.1.id)):=(cell_of hA (j*5+2)).trans (X 2 (by decide));have d3:w1.cell? ⟨g,j*5+3,none⟩=some (.int .i64 cx.m.1.at_):=(cell_of hA (j*5+3)).trans (X 3 (by decide));have d4:w1.cell? ⟨g,j*5+4,none⟩=some (.int .u32 (cx.m.1.crc:Nat)):=(cell_of hA (j*5+4)).trans (X 4 (by decide));have d5:w1.cell? ⟨g,q*5,none⟩=some (.int .i64 cy.m.1.kind):=(cell_of hA (q*5)).trans (Y 0 (by decide));have d6:w1.cell? ⟨g,q*5+1,none⟩=some (.slice cy.m.2.1 cy.m.1.body.length cy.m.2.2):=(cell_of hA (q*5+1)).trans (Y 1 (by decide));have d7:w1.cell? ⟨g,q*5+2,none⟩=some (.string (str cy.m.1.id)):=(cell_of hA (q*5+2)).trans (Y 2 (by decide));have d8:w1.cell? ⟨g,q*5+3,none⟩=some (.int .i64 cy.m.1.at_):=(cell_of hA (q*5+3)).trans (Y 3 (by decide));have d9:w1.cell? ⟨g,q*5+4,none⟩=some (.int .u32 (cy.m.1.crc:Nat)):=(cell_of hA (q*5+4)).trans (Y 4 (by decide));have dQ:=cz hA cG gP cM eH iy iL;clear hA cG gP cM eH iy iL X Y;go_upto_region 6 with fail;refine DC [(0,0),(0,1),(0,2),(0,3),(0,4),(0,5),(0,6),(0,7),(0,8),(1,9),(0,10),(0,11),(0,12),(1,13),(0,14),(2,15),(0,16),(2,17)] [g] [15,17] (by kernel_rfl) (by kernel_rfl) (λ_ _ d _ _ h=>by cases d<;>exact h) ?_;simp only[gW,oJ,yT,yS];refine ko 9 rfl ?_;simp only[aU];repeat (go_big_quiet_step (fail))
      refine wpQuiet_nil ?_;refine tT 1 rfl ?_;simp only[aU];repeat (go_big_quiet_step (fail))
      refine wpQuiet_nil ?_;refine ko 3 rfl ?_;simp only[aU];repeat (go_big_quiet_step (fail))
      refine wpQuiet_nil ?_;refine tT 1 rfl ?_;simp only[aU];repeat (go_big_quiet_step (fail))
      refine wpQuiet_nil ?_;refine ko 1 rfl ?_;simp only[aU];repeat (go_big_quiet_step (fail))
      refine wpQuiet_nil ?_;refine tS rfl ?_;intro K hK;have z0:=aO dQ.out.1 (j*5);have z1:=aO dQ.out.1 (j*5+1);have z2:=aO dQ.out.1 (j*5+2);have z3:=aO dQ.out.1 (j*5+3);have z4:=aO dQ.out.1 (j*5+4);go_wp2;refine hK.out _ _ (Fr.aS (((((((Fr.refl [g] w1).setCell (by simp) _).setCell (by simp) _).setCell (by simp) _).setCell (by simp) _).setCell (by simp) _).drew)) ?_;clear hK K z0 z1 z2 z3 z4;obtain⟨dW,bQ⟩:∃dW,dW=(((((w1.setCell ⟨g,j*5,none⟩ (.int .i64 cy.m.1.kind)).setCell ⟨g,j*5+1,none⟩ (.slice cy.m.2.1 cy.m.1.body.length cy.m.2.2)).setCell ⟨g,j*5+2,none⟩ (.string (str cy.m.1.id))).setCell ⟨g,j*5+3,none⟩ (.int .i64 cy.m.1.at_)).setCell ⟨g,j*5+4,none⟩ (.int .u32 (cy.m.1.crc:Nat))):=⟨_,rfl⟩;rw[<-bQ];have bH:dW.heap[g]?=some (.cells (gj A j cy.m) T (0,0)):=by rw[bQ];exact aX (aX (aX (aX (aX dQ.out.1 _) _) _) _) _
      obtain⟨A1,hB⟩:=ah (gj A j cy.m);rw[<-hB]at bH;have z0:=aO bH (q*5);have z1:=aO bH (q*5+1);have z2:=aO bH (q*5+2);have z3:=aO bH (q*5+3);have z4:=aO bH (q*5+4);have c0:dW.cell? ⟨g,q*5,none⟩=some (.int .i64 cy.m.1.kind):=by rw[cell_of bH,hB,oe _ _ _ _ (by omega),<-cell_of dQ.out.1];exact d5
      have c1:dW.cell? ⟨g,q*5+1,none⟩=some (.slice cy.m.2.1 cy.m.1.body.length cy.m.2.2):=by rw[cell_of bH,hB,oe _ _ _ _ (by omega),<-cell_of dQ.out.1];exact d6
      have c2:dW.cell? ⟨g,q*5+2,none⟩=some (.string (str cy.m.1.id)):=by rw[cell_of bH,hB,oe _ _ _ _ (by omega),<-cell_of dQ.out.1];exact d7
      have c3:dW.cell? ⟨g,q*5+3,none⟩=some (.int .i64 cy.m.1.at_):=by rw[cell_of bH,hB,oe _ _ _ _ (by omega),<-cell_of dQ.out.1];exact d8
      have c4:dW.cell? ⟨g,q*5+4,none⟩=some (.int .u32 (cy.m.1.crc:Nat)):=by rw[cell_of bH,hB,oe _ _ _ _ (by omega),<-cell_of dQ.out.1];exact d9
      have vW:=au bH hB bQ;clear bH hB bQ d0 d1 d2 d3 d4 d5 d6 d7 d8 d9;refine ko 1 rfl ?_;simp only[aU];repeat (go_big_quiet_step (fail))
      refine wpQuiet_nil ?_;refine tS rfl ?_;intro K hK;go_wp2;refine hK.out _ _ (Fr.aS (((((((Fr.refl [g] dW).setCell (by simp) _).setCell (by simp) _).setCell (by simp) _).setCell (by simp) _).setCell (by simp) _).drew)) ?_;clear hK K z0 z1 z2 z3 z4 c0 c1 c2 c3 c4;refine Dy ?_;obtain⟨w2,bq⟩:∃w2,w2=(((((dW.setCell ⟨g,q*5,none⟩ (.int .i64 cx.m.1.kind)).setCell ⟨g,q*5+1,none⟩ (.slice cx.m.2.1 cx.m.1.body.length cx.m.2.2)).setCell ⟨g,q*5+2,none⟩ (.string (str cx.m.1.id))).setCell ⟨g,q*5+3,none⟩ (.int .i64 cx.m.1.at_)).setCell ⟨g,q*5+4,none⟩ (.int .u32 (cx.m.1.crc:Nat))):=⟨_,rfl⟩;rw[<-bq];have HZ:Hid (Ow w2 g T A0 L (swp (ay f1 j i (i+1)) q j)/\Fr [g] w1 w2):=by
       obtain⟨hA,cG,gP,cM,eH,iy,iL⟩:=dQ.out;obtain⟨bH,hB,bQ⟩:=vW.out;have gQ:w2.heap[g]?=some (.cells (gj A1 q cx.m) T (0,0)):=by rw[bq];exact aX (aX (aX (aX (aX bH _) _) _) _) _
       rw[hB]at gQ;exact af ⟨Ow.swap _ cx cy cG gP cM eH kE qZ rG iy iL gQ,by rw[bq,bQ];exact (((((((((((Fr.refl [g] w1).setCell (by simp) _).setCell (by simp) _).setCell (by simp) _).setCell (by simp) _).setCell (by simp) _).setCell (by simp) _).setCell (by simp) _).setCell (by simp) _).setCell (by simp) _).setCell (by simp) _)⟩
      clear bq;go_wp2;go_roundg k2;case measure=>have:=HI.out.2.2.2.2.1;omega
      case rel=>
       obtain⟨hp,hr,hD,hf,eG,aY⟩:=HI.out;have hj:=HJ.out;refine⟨q,by go_num,by omega,by omega,λ_=>by rw[<-hp,<-hr];exact hpr,?_,?_⟩
       ·have:=HZ.o0;have e:=Mn f1 i (q+1) (by omega) (by omega);rw[CI]at e;rw[hj,gV,e]at this;exact this.drew
       ·exact ((hf.drew).trans (H1.out.mono (by simp))).trans HZ.l1.drew
     ·have g5:decide (rv<0)=false:=by simp;have:=mt wJ.1 hpr;omega
      refine cS 2 rfl ?_;simp only[aU];repeat (go_big_quiet_step (fail))
      refine wpQuiet_nil ?_;refine fE ?_;go_wp2;go_roundg k;case measure=>have:=HX.l4;omega
      case rel=>obtain⟨hp,hr,hD,hf,eG,aY⟩:=HI.out;have hj:=HJ.out;have bU:=HX.l4;refine⟨i+1,by go_num,by omega,by omega,ay f1 j i (i+1),by rw[hj];exact hD.drew.fr H1.out,?_,(hf.drew).trans (H1.out.mono (by simp))⟩;rw[tU (by omega)];exact HX.o1.trans' (Hp f1 a i j (by omega) ia HX.o1.srt (λ_=>by rw[show j-1=q from by omega,<-hr,<-hp];omega) (λh=>by rw[hj]at h ⊢;exact aY h))
    ·have I5:j=a:=by omega
     have HI:=au hD hf aY;have g5:decide ((a:Int)<(j:Int))=false:=by simp;omega
     have HJ:=af I5;clear hD hf aY eG I5;go_upto_region 4 with fail;refine jh 17 [(false,0),(false,1),(false,2),(false,3),(false,4),(false,5),(false,6),(false,7),(false,8),(false,9),(false,10),(false,11),(false,12),(false,13),(true,14),(false,15),(false,16)] [] (by kernel_rfl) (by kernel_rfl) (λ_ _ d _ _ h=>by cases d<;>exact h) ?_;simp only[iw];refine cS 14 rfl ?_;simp only[aU];repeat (go_big_quiet_step (fail))
     repeat (go_big_quiet_step (fail))
     refine wpQuiet_nil ?_;refine Hg rfl ?_;simp only[Act.put,mC,nC,mB];refine cS 2 rfl ?_;simp only[aU];repeat (go_big_quiet_step (fail))
     refine wpQuiet_nil ?_;refine fE ?_;go_wp2;go_roundg k;case measure=>have:=HX.l4;omega
     case rel=>obtain⟨hD,hf,aY⟩:=HI.out;have bU:=HX.l4;have I5:=HJ.out;refine⟨i+1,by go_num,by omega,by omega,ay f1 j i (i+1),hD.drew,?_,hf.drew⟩;rw[tU (by omega)];exact HX.o1.trans' (Hp f1 a i j (by omega) ia HX.o1.srt (λh=>absurd h (by omega)) aY)
  ·have HI:=au hD hS hf;have e:min i b=b:=by omega
   rw[e]at hS;clear hD hf e bU;have HS:=af hS;clear hS;go_wp2;(try simp only[Exit.inBlock,Exit.then]);refine bodyPost_end (results_none rfl _ _ _) rfl ?_;exact⟨rfl,f1,HI.out.1,HS.out,HI.out.2.2⟩
def xr (N:Nat):Prop:=∀(g:Nat) (A0:Array Value) (L cap:Nat) (f:Nat->Mo) (w:World) (R:Nat),Ow w g 34 A0 L f->L<=N->Wk f->eP w R->g≠R->
 Calls Tryz.prog 38 #[.slice (some ⟨g,0,none⟩) L cap,kN R] w λe w'=>e = .returned (.tuple #[])/\∃f',Ow w' g 34 A0 L f'/\Sd f f' 0 L/\Fr [g] w w'
set_option maxRecDepth 100000
end os
namespace pk
open Go Go.RowKit lib bm huf
set_option maxRecDepth 100000
theorem zfq (a:Option Addr) (n c:Nat) (w:World) (hle:n<=c) (dv:c<=maxLen):Calls Tryz.prog 42 #[.slice a n c] w λe w'=>e = .returned (.slice a n n)/\w'=w:=by
 go_enter Tryz.func42,Tryz.ntmps42;go_wp2;all_goals go_ret
 all_goals exact⟨by first|rfl|simp,rfl⟩
theorem UY:Tryz.prog.underlying 75=some (.map 9 4):=by kernel_rfl
theorem qvw (w:World):(zeroValue 4).run Tryz.prog w = .ok (.bool false) w:=by kernel_rfl
abbrev Seen (w:World) (b n:Nat) (D:DataW Unit):Prop:=w.ownsMap Tryz.prog 9 (plainElem Tryz.prog 4) b n D
theorem qnq {v:Value} {z:DataW Unit×List MemPlace} (h:plainElem Tryz.prog 4 v=some z):∃b,v = .bool b/\z=(.lit (.bool b),[]):=by unfold plainElem at h;rw[show Tryz.prog.underlying 4=some .bool from Tryz.underlying4]at h;cases v<;>simp at h;exact⟨_,rfl,h.symm⟩
theorem Uk (id:List UInt8) (h:id.length<=1000000):keyOf Tryz.prog 9 (.string (str id))=some (.string id):=by have:=WideMaps.keyOf_string_mk (P:=Tryz.prog) Tryz.underlying9 (s:=str id) (by rw[qtd];unfold maxLen;omega);exact this
theorem qp7 (w:World):Seen (w.alloc (.map #[] 0)) w.heap.size 0 (.map []):=World.ownsMap_made w _ _ _
end pk
namespace os
open Go Go.RowKit lib bm pk
def eO (w:World) (B:Nat) (ids:List (List UInt8)):Prop:=∃n D,n<=ids.length/\Seen w B n D/\∀id:List UInt8,D.atKey (.string id) (.lit (.bool false)) = .lit (.bool (decide (id∈ids)))
theorem eO.fr {w w':World} {B:Nat} {ids:List (List UInt8)} (h:eO w B ids) (f:Fr [] w w'):eO w' B ids:=by obtain⟨n,D,h1,h2,h3⟩:=h;exact⟨n,D,h1,FC h2 f (by simp),h3⟩
theorem eO.gg {S:List Nat} {w w':World} {B:Nat} {ids:List (List UInt8)} (h:eO w B ids) (f:Fr S w w') (hB:B∉S):eO w' B ids:=by obtain⟨n,D,h1,h2,h3⟩:=h;exact⟨n,D,h1,FC h2 f hB,h3⟩
theorem eO.at_ {w:World} {B:Nat} {ids:List (List UInt8)} (h:eO w B ids):jw w B:=by obtain⟨n,D,_,⟨es,clock,h1,_⟩,_⟩:=h;exact⟨es,clock,h1⟩
theorem eO.look {w:World} {B:Nat} {ids:List (List UInt8)} (h:eO w B ids) (id:List UInt8) (hid:id.length<=1000000):(Instr.lookup 75 (.map (some B)) (.string (str id)) false).run Tryz.prog w = .ok (.bool (decide (id∈ids))) w:=by obtain⟨n,D,_,h2,h3⟩:=h;obtain⟨v,ps,wK,hv⟩:=h2.lookup Cu UY (qvw w) (plainElem_bool Tryz.underlying4 false) (Uk id hid);obtain⟨c,rfl,hc⟩:=qnq hv;rw[h3]at hc;simp only[fj,DataW.lit.injEq,Lit.bool.injEq]at hc;rw[wK,hc.1]
theorem eO.put {w w':World} {B n:Nat} {D:DataW Unit} {ids:List (List UInt8)} {id:List UInt8} (h1:n<=ids.length) (h2:Seen w B n D) (h3:∀id:List UInt8,D.atKey (.string id) (.lit (.bool false)) = .lit (.bool (decide (id∈ids)))) (h:Seen w' B (n+1) (D.put (.string id) (.lit (.bool true)))):eO w' B (ids++[id]):=by
 refine⟨n+1,_,by simp;exact h1,h,λx=>?_⟩;by_cases hx:x=id
 ·subst hx;rw[Maps.atKey_put_same h2.isMap (by first|trivial|simp[WideAt.IsKeyLit])];simp
 ·rw[Maps.atKey_put_other (by simp;exact hx),h3];simp[hx]
theorem qrv (w:World):eO (w.alloc (.map #[] 0)) w.heap.size []:=⟨0,.map [],aw _,qp7 w,λid=>by rw[Maps.atKey_of_not_has rfl];simp⟩
structure DD (l r:List pk.Obj):Prop where
 ne:r.Pairwise λa b=>a.id≠b.id
 sub:∀o∈r,o∈l
 all:∀o∈l,∃o'∈r,o'.id=o.id
theorem DD.nil:DD [] []:=⟨.nil,by simp,by simp⟩
theorem DD.more {l r:List pk.Obj} {o:pk.Obj} (h:DD l r) (hn:o.id∉r.map (·.id)):DD (l++[o]) (r++[o]):=by
 refine⟨?_,λx hx=>?_,λx hx=>?_⟩
 ·rw[Fv];refine⟨h.ne,by simp,λa ha b hb=>?_⟩;simp only[iQ]at hb;subst hb;intro e;exact hn (by rw[<-e];exact yQ ha)
 ·rcases jy.1 hx with hx|hx
  ·exact Fu _ (h.sub x hx)
  ·exact KA _ hx
 ·rcases jy.1 hx with hx|hx
  ·obtain⟨y,hy,e⟩:=h.all x hx;exact⟨y,Fu _ hy,e⟩
  ·simp only[iQ]at hx;exact⟨o,by simp,by rw[hx]⟩
theorem DD.same {l r:List pk.Obj} {o:pk.Obj} (h:DD l r) (hn:o.id∈r.map (·.id)):DD (l++[o]) r:=by
 refine⟨h.ne,λx hx=>Fu _ (h.sub x hx),λx hx=>?_⟩;rcases jy.1 hx with hx|hx
 ·exact h.all x hx
 ·simp only[iQ]at hx;subst hx;obtain⟨y,hy,e⟩:=jR.1 hn;exact⟨y,hy,e⟩
theorem key_inj {x y:pk.Obj} (hx:x.id.length=40) (hy:y.id.length=40) (h:key x=key y):x.id=y.id:=by
 have h1:=crc.Ff x.id;have h2:=crc.Ff y.id;rw[hx]at h1;rw[hy]at h2;unfold key at h;have hp:0<256^40:=by decide
 have h3:=congrArg (·%256^40) h;simp only[nE _ (256^40),Nat.mul_add_mod,Aq h1,Aq h2]at h3;exact qt7 _ _ (hx.trans hy.symm) h3
theorem qq2 {α:Type} (k:Nat):∀l:List (Nat×α),(l.Pairwise λa b=>a.1≠b.1)->(l.filter λx=>x.1==k).length<=1
 | [],_=>by simp
 | x::t,h=>by
  rw[tV]at h;rw[G8];by_cases hx:x.1=k
  ·have h2:t.filter (λx=>x.1==k)=[]:=by rw[List.filter_eq_nil_iff];intro y hy;have:=h.1 y hy;simp;omega
   rw[if_pos (by simp[hx]),h2];simp
  ·rw[if_neg (by simp[hx])];exact qq2 k t h.2
theorem qp1 {α:Type}:∀l:List (Nat×α),huf.dX l->(∀k,(l.filter λx=>x.1==k).length<=1)->l.Pairwise λa b=>a.1<b.1
 | [],_,_=>.nil
 | x::t,h,hf=>by
  unfold huf.dX at h;rw[tV]at h ⊢;refine⟨λy hy=>?_,qp1 t h.2 λk=>?_⟩
  ·have h1:=h.1 y hy;rcases og x.1 y.1 with h2|h2
   ·exact h2
   ·have e:x.1=y.1:=by omega
    have h3:=hf x.1;rw[G8,if_pos (by simp),cQ]at h3;have h4:y∈t.filter (λz=>z.1==x.1):=G5.2 ⟨hy,by simp[e]⟩;have h5:=List.length_pos_of_mem h4;omega
  ·have h1:=hf k;rw[G8]at h1;split at h1
   ·rw[cQ]at h1;omega
   ·exact h1
structure Ordered (l r:List pk.Obj):Prop where
 lt:r.Pairwise λa b=>key a<key b
 sub:∀o∈r,o∈l
 all:∀o∈l,∃o'∈r,o'.id=o.id
def dum:pk.Obj:=⟨0,[],List.replicate 40 0,0,0⟩
def mo (m:OM):Mo:=⟨key m.1,m⟩
def zU (ms:List OM):Nat->Mo:=λi=>mo (ms[i]?.getD (dum,none,0))
theorem G4 {ms:List OM} {i:Nat} {m:OM} (h:ms[i]?=some m):zU ms i=mo m:=by simp[zU,h]
theorem ZJ {ms:List OM} (h:∀m∈ms,m.1.id.length=40):Wk (zU ms):=λi=>by
 unfold zU mo;refine⟨rfl,?_⟩;rcases og i ms.length with k|k
 ·rw[bO k];exact h _ (vJ _)
 ·rw[wg k];rfl
theorem ZK {w:World} {a:Option Addr} {c:Nat} {ms:List OM} (h:w.ownsRow 0 34 5 (.slice a ms.length c) ms.length (ms.flatMap oL)) (h0:0<ms.length) :
  ∃g A0,a=some ⟨g,0,none⟩/\A0.size=c*5/\c<=maxLen/\ms.length<=c/\Ow w g 34 A0 ms.length (zU ms):=by
 rcases h.2 with⟨_,h1⟩|⟨g,c',cur,h1,_,h2,h3,h4,h5,h6⟩
 ·omega
 ·simp only[lN]at h1;obtain⟨rfl,_,rfl⟩:=h1;refine⟨g,cur,rfl,h5,h4,h3,cur,h2,rfl,by omega,λ_ _=>rfl,λi hi j hj=>?_⟩;obtain⟨m,hm⟩:∃m,ms[i]?=some m:=⟨_,bO hi⟩;rw[G4 hm];have h7:=congrArg (λl=>l[i*5+j]?) h6;simp only[oY]at h7;rw[if_pos (by omega),qW,Hj oL 5 (λ_=>rfl) ms i m j hm hj]at h7;rw[h7];unfold oL mo;rw[qW]
theorem ze1 {w:World} {g n c:Nat} {A0:Array Value} {f:Nat->Mo} (h:Ow w g 34 A0 n f):Cs w (some ⟨g,0,none⟩) (((List.range n).map λi=>(f i).m).flatMap oL):=by
 obtain⟨A,h1,_,h3,_,h4⟩:=h;refine .inr ⟨g,0,rfl,λk v hk=>?_⟩;have hl:=(lA.1 hk).1;rw[MO,cN,Aw]at hl;have hi:k/5<n:=by omega
 have hr:((List.range n).map λi=>(f i).m)[k/5]?=some (f (k/5)).m:=by simp[hi]
 have e:=Hj oL 5 (λ_=>rfl) _ (k/5) _ (k%5) hr (vZ _ (by decide));rw[show k/5*5+k%5=k by omega,hk]at e;have e2:=h4 (k/5) hi (k%5) (vZ _ (by decide));rw[show k/5*5+k%5=k by omega]at e2;rw[fM,cell_of h1,e2,e];unfold oL;rw[qW]
open huf
structure OI (w wr:World) (B R i:Nat) (aJ:List OM) (a2:Option Addr) (c2:Nat) (br:List OM):Prop where
 own:wr.ownsRow 0 34 5 (.slice a2 br.length c2) br.length (br.flatMap oL)
 seen:eO wr B (br.map (·.1.id))
 fr:Fr [] w wr
 fU:eP wr R
 nB:w.heap.size<=B/\w.heap.size<=R/\B<wr.heap.size/\R<wr.heap.size
 new:∀y∈ae a2,w.heap.size<=y/\y≠B/\y≠R
 bod:∀m∈br,m.2.2=m.1.body.length/\lib.Rd wr m.2.1 m.2.2 m.1.body/\∀y∈ae m.2.1,w.heap.size<=y/\y<wr.heap.size/\y≠B/\y∉ae a2
 dd:DD ((aJ.take i).map (·.1)) (br.map (·.1))
 nil:br.length=0->a2=none/\c2=0
 few:br.length<=i
theorem OI.dF {w wr w2:World} {B R i:Nat} {aJ br:List OM} {a2:Option Addr} {c2:Nat} (h:OI w wr B R i aJ a2 c2 br) (f:Fr [] wr w2):OI w w2 B R i aJ a2 c2 br:=
 ⟨dr h.own f (by simp),h.seen.fr f,h.fr.trans f,f.ae h.fU (by simp),⟨h.nB.1,h.nB.2.1,eT h.nB.2.2.1 f.size,eT h.nB.2.2.2 f.size⟩,h.new,λm hm=>⟨(h.bod m hm).1,(h.bod m hm).2.1.fr f,λy hy=>⟨((h.bod m hm).2.2 y hy).1,eT ((h.bod m hm).2.2 y hy).2.1 f.size,((h.bod m hm).2.2 y hy).2.2⟩⟩,h.dd,h.nil,h.few⟩
theorem OI.name {w wr w2:World} {B R i:Nat} {aJ br:List OM} {a2:Option Addr} {c2:Nat} (h:OI w wr B R i aJ a2 c2 br) (f:Fr [B] wr w2) :
  w2.ownsRow 0 34 5 (.slice a2 br.length c2) br.length (br.flatMap oL)/\Fr [] w w2/\eP w2 R/\(∀m∈br,lib.Rd w2 m.2.1 m.2.2 m.1.body):=by
 have hRB:R≠B:=by obtain⟨es,clock,h1⟩:=h.seen.at_;have h2:=h.fU;unfold eP at h2;rintro rfl;rw[h1]at h2;cases h2
 exact⟨dr h.own f (λk hk=>by have h1:k∈ae a2:=(by rw[<-dw a2 br.length c2,hk];simp);simp;exact (h.new k h1).2.1),h.fr.step f (λy hy=>.inr (by simp at hy;rw[hy];exact h.nB.1)),f.ae h.fU (by simp;exact hRB),λm hm=>(h.bod m hm).2.1.gg f (λy hy=>by simp;exact ((h.bod m hm).2.2 y hy).2.2.1)⟩
set_option maxRecDepth 100000
theorem Ve (N:Nat) (hN:N<=1000) (ow:xr N) (a:Option Addr) (c:Nat) (aJ:List OM) (w:World) (h:jM w a c aJ) (hl:aJ.length<=1000) (hdd:∀r,DD (aJ.map (·.1)) r->r.length<=N) (hb:∀m∈aJ,m.1.body.length<=65536) (hid:∀m∈aJ,m.1.id.length=40) :
  Calls Tryz.prog 17 #[.slice a aJ.length c] w λe w'=>∃a2 br,e = .returned (.slice a2 br.length br.length)/\jM w' a2 br.length br/\(∀y∈ae a2,w.heap.size<=y/\y<w'.heap.size)/\(∀m∈br,m.2.2=m.1.body.length/\∀y∈ae m.2.1,w.heap.size<=y/\y<w'.heap.size)/\Fr [] w w'/\Ordered (aJ.map (·.1)) (br.map (·.1))/\br.length<=aJ.length:=by
 have lf:=λw'=>run_makeMap (P:=Tryz.prog) 75 w'
 obtain⟨n,hn⟩:=ah aJ.length;rw[<-hn]at hl ⊢;have H:=bJ h hn hb hid ow hdd;clear h hn hb hid ow hdd;go_enter Tryz.func17,Tryz.ntmps17;go_upto_block 0 with fail;generalize cD:World.alloc _ _=w1;obtain⟨R,hR⟩:=ah w.heap.size;obtain⟨B,hB⟩:=ah (R+1);rw[<-hR,<-hB];have h1:OI w w1 B R 0 aJ none 0 []:=by
  have e:w1=(w.alloc (.cells #[.func (.func 36) #[] #[]] 78)).alloc (.map #[] 0):=cD.symm;have hs:=qrv (w.alloc (.cells #[.func (.func 36) #[] #[]] 78));rw[eZ,<-hR,<-hB,<-e]at hs;have f1:Fr [] w w1:=by rw[e];exact ((Fr.refl [] w).alloc _).alloc _
  have hr:eP w1 R:=by rw[e,hR];exact pJ _ (bx w _)
  have cF:w1.heap.size=w.heap.size+1+1:=by rw[e,eZ,eZ]
  exact⟨v8 _ _ _ _,hs,f1,hr,⟨by omega,by omega,by omega,by omega⟩,by simp[ae],by simp,DD.nil,λ_=>⟨rfl,rfl⟩,aw _⟩
 have H1:=au h1 hR hB;clear h1 cD hR hB lf;go_wp2;go_loopg [5,11] n (λk s5 s11 wr=>∃(i:Nat) (a2:Option Addr) (c2:Nat) (br:List OM),s11 = .int .i64 (i:Nat)/\s5 = .slice a2 br.length c2/\i+k=n/\OI w wr B R i aJ a2 c2 br);case atStart=>exact⟨0,none,0,[],rfl,rfl,by omega,H1.o0⟩
 case round=>
  obtain⟨i,a2,c2,br,rfl,rfl,bU,hI⟩:=hrel;obtain⟨n2,iJ⟩:=ah br.length;rw[<-iJ];by_cases hi:i<n
  ·obtain⟨k,rfl⟩:∃k,gk=k+1:=⟨gk-1,by omega⟩;obtain⟨m,hm⟩:∃m,aJ[i]?=some m:=⟨aJ[i]'(by rw[<-H.out.2.1];exact hi),bO _⟩;have lf:=iC hm;obtain⟨g,o,rfl,hc⟩:=(H.out.1.fr hI.fr).cell hm;have bP:=H.out.1.rd m lf;have sD:=H.out.2.2.1 m lf;have F9:=H.out.2.2.2.1 m lf;have bF:aJ.take (i+1)=aJ.take i++[m]:=by rw[zG,hm];rfl
   obtain⟨⟨kd,bs,id,at_,crc⟩,ba,bc⟩:=m;simp only at bP sD F9;have c0:=hc 0 (.int .i64 kd) rfl;have c1:=hc 1 (.slice ba bs.length bc) rfl;have c2':=hc 2 (.string (str id)) rfl;have c3:=hc 3 (.int .i64 at_) rfl;have c4:=hc 4 (.int .u32 crc) rfl;simp only[jS]at c0;obtain⟨bl,bK⟩:=ah bs.length;rw[<-bK]at c1;have HI:=lJ hI iJ bU bP sD F9 bK bF;have zbD:n2<=1000:=by have:=hI.few;omega
   clear hI iJ bP sD F9 bK hc hm lf bF;go_upto_region 7 with (guard_target =~ wpList _ _ _ (⟨_,Op.store _ _ _,_,_,_,_⟩::_) _ _;refine wpList_store_row rfl 34 (.tmp 7) (.tmp 14) rfl wr.heap.size #[.int .i64 kd,.slice ba bl bc,.string (str id),.int .i64 at_,.int .u32 crc] rfl rfl 34 _ (bx _ _) gL rfl (by kernel_rfl) ?_);clear c0 c1 c2' c3 c4;simp only[Act.put];generalize bq:World.setRow _ _ _=w2;obtain⟨X,hX⟩:=ah wr.heap.size;rw[<-hX]at bq ⊢;have jU:w2.heap[X]?=some (.cells #[.int .i64 kd,.slice ba bl bc,.string (str id),.int .i64 at_,.int .u32 crc] 34 (0,0)):=by rw[<-bq,hX];exact setRow_heap _ _ _ _ _ _ (bx _ _)
   have f2:Fr [] wr w2:=by rw[<-bq,hX];exact ((Fr.refl [] wr).alloc _).setRow (.inr (aw _)) _
   have mF:=HI.out.1.dF f2;have zg:=mF.seen.look id (by have:=HI.out.2.2.2.2.2.1;omega);have hXn:w.heap.size<=X/\X≠B/\(∀y∈ae a2,y≠X)/\X=wr.heap.size/\X<w2.heap.size:=⟨by rw[hX];exact HI.out.1.fr.size,by have:=HI.out.1.nB.2.2.1;omega,λy hy=>by have:=qR HI.out.1.own (pI hy);omega,hX,lt_of_block jU⟩;have x1:=cell_of jU 1;have x2:=cell_of jU 2;simp only[bw,aV,bN]at x1 x2;have H2:=au jU mF hXn;clear jU f2 mF hXn bq hX;by_cases dz:id∈br.map (·.1.id)
   ·rw[decide_eq_true dz]at zg;go_wp2;go_roundg k;case measure=>have:=HI.out.2.2.1;omega
    case rel=>obtain⟨jU,mF,_⟩:=H2.out;refine⟨i+1,a2,c2,br,by go_num,by rw[HI.out.2.1],by have:=HI.out.2.2.1;omega,mF.own,mF.seen,mF.fr,mF.fU,mF.nB,mF.new,mF.bod,?_,mF.nil,by have:=mF.few;omega⟩;rw[HI.out.2.2.2.2.2.2.2,gB];exact mF.dd.same (by rw[xC];exact dz)
   ·rw[decide_eq_false dz]at zg;obtain⟨n0,D,qg,hS,eD⟩:=H2.out.2.1.seen;have zbG:n0<=1000:=by have h1:=HI.out.2.1;rw[cN]at qg;omega
    have HS:=aF hS qg eD dz;clear hS qg eD dz;go_upto_region 9 with (at_mapUpdate;refine wpList_mapUpdate_own _ rfl _ _ _ 75 rfl 9 4 Cu UY (plainElem Tryz.prog 4) B n0 D rfl HS.out.1 (by unfold maxLen;omega) _ _ (.string id) rfl rfl (Uk id (by have:=HI.out.2.2.2.2.2.1;omega)) (.lit (.bool true)) [] (plainElem_bool Tryz.underlying4 true) ?_;intro w3 sx OE;have H3:=ak sx ((Fr.refl [B] w2).grown OE (λk e=>.inl (by simp only[eS]at e;simp[e])));clear sx OE);clear zg x2;have AV:=H3.out.2.ae H2.out.1 (by simp;exact H2.out.2.2.2.1);have x1:=H3.out.2.cell x1 (by simp;exact H2.out.2.2.2.1);have jV:=eO.put HS.out.2.1 HS.out.1 HS.out.2.2.1 H3.out.1;obtain⟨kB,f13,QD,Tg⟩:=H2.out.2.1.name H3.out.2;have fH:=qy4 ba bc bs w3 (HI.out.2.2.2.1.fr f13) (by have:=HI.out.2.2.2.2.1;omega);unfold Cl at fH;rw[<-HI.out.2.2.2.2.2.2.1]at fH;have HC:=cz fH AV f13 kB QD Tg jV;clear fH AV f13 kB QD Tg jV;go_upto_region 10 with (first
     | (go_at_call 37;refine HC.out.1.mono ?_;rintro e w4 ⟨b3,c3,rfl,r3,l3,m3,n3,f4⟩;have x1:=f4.cell x1 (by simp);have z4:=aO (f4.ae HC.out.2.1 (by simp)) 1;have H4:=aP r3 n3 f4 l3 m3;clear r3 n3 f4 l3 m3)
     | (go_at_call 29;refine (L6 b3 bl c3 _ H4.o3 H4.l4).mono ?_;rintro e w5 ⟨rfl,hw⟩;obtain rfl:=hw.symm))
    clear z4 x1;generalize mR:World.setCell _ _ _=w5;have DU:=H4.o2.ae HC.out.2.1 (by simp);have WI:w5.heap[X]?=some (.cells #[.int .i64 kd,.slice b3 bl bl,.string (str id),.int .i64 at_,.int .u32 crc] 34 (0,0)):=by rw[<-mR];exact aX DU _
    have f5:Fr [X] w4 w5:=by rw[<-mR];exact (Fr.refl [X] w4).setCell (by simp) _
    have f35:Fr [X] w3 w5:=(H4.o2.mono (by simp)).trans f5;have PJ:Fr [] w w5:=HC.out.2.2.1.step f35 (λy hy=>by have:=H2.out.2.2.1;simp at hy;right;omega);have jd:∀y∈ae b3,w3.heap.size<=y/\y<w5.heap.size/\y≠X:=λy hy=>by have h1:=(H4.o1 y hy).1;have h2:=(H4.o1 y hy).2;have h4:=lt_of_block HC.out.2.1;have h5:=f5.size;exact⟨by omega,by omega,by omega⟩
    have So:lib.Rd w5 b3 bl bs:=by have h1:=H4.o0;have h2:=h1.gg f5 (λy hy=>by simp;exact (jd y hy).2.2);exact⟨h2.cs,by rw[HI.out.2.2.2.2.2.2.1];exact aw _,bS H4.o3 H4.l4,λh=>by have:=h2.nil h;have:=H4.o3;omega⟩
    have uE:=dr HC.out.2.2.2.1 f35 (λk hk=>by have h1:k∈ae a2:=(by rw[<-dw a2 br.length c2,hk];simp);simp;exact H2.out.2.2.2.2.1 k h1);have Ye:Cs (w5.alloc (.cells #[.int .i64 kd,.slice b3 bl bl,.string (str id),.int .i64 at_,.int .u32 crc] 34)) (some ⟨w5.heap.size,0,none⟩) (oL (⟨kd,bs,id,at_,crc⟩,b3,bl)):=
     .inr ⟨w5.heap.size,0,rfl,λj u hj=>by
      rw[cell_of (bx w5 _),fM,<-qW]
      unfold oL dG at hj
      rw[<-HI.out.2.2.2.2.2.2.1]at hj
      exact hj⟩
    have cT:=dr uE ((Fr.refl [] w5).alloc (.cells #[.int .i64 kd,.slice b3 bl bl,.string (str id),.int .i64 at_,.int .u32 crc] 34)) (by simp);rw[<-HI.out.2.1]at cT;have H5:=cz WI PJ jd So Ye cT f35;clear DU WI f5 PJ jd So Ye mR uE cT f35;go_wp2_with (first
     | (guard_target =~ wpList _ _ _ (⟨_,Op.load _ _,_,_,_,_⟩::_) _ _;refine wpList_load_row rfl 34 (.tmp 7) rfl X rfl 34 #[.int .i64 kd,.slice b3 bl bl,.string (str id),.int .i64 at_,.int .u32 crc] (0,0) _ H5.out.1 Tryz.underlying34 rfl gL ?_)
     | (guard_target =~ wpList _ _ _ (⟨_,Op.call _,_,_,_,_⟩::_) _ _;refine iq qwd rfl _ _ rfl (.slice a2 n2 c2) n2 (br.flatMap oL) (ae a2) rfl (dw a2 n2 c2) H5.out.2.2.2.2.2.1 (some ⟨w5.heap.size,0,none⟩) 1 1 (oL (⟨kd,bs,id,at_,crc⟩,b3,bl)) rfl (by decide) (by simp) H5.out.2.2.2.2.1 rfl (ZT _) (by omega) (by unfold maxLen;omega) ?_;intro a6 c6 w6 A1;have HA:=af A1;clear A1))
    go_roundg k;case measure=>have:=HI.out.2.2.1;omega
    case rel=>
     obtain⟨hI,iJ,bU,_,_,F9,bK,bF⟩:=HI.out;obtain⟨jU,mF,mX,hXB,hXa,hXw,hX2⟩:=H2.out;obtain⟨_,AV,f13,kB,QD,Tg,jV⟩:=HC.out;obtain⟨WI,PJ,jd,So,Ye,cT,f35⟩:=H5.out;have A1:=HA.out;have s23:=H3.out.2.size;have s35:=f35.size;have f5a:Fr [] w5 (w5.alloc (.cells #[.int .i64 kd,.slice b3 bl bl,.string (str id),.int .i64 at_,.int .u32 crc] 34)):=(Fr.refl [] w5).alloc _;have NJ:(w5.alloc (.cells #[.int .i64 kd,.slice b3 bl bl,.string (str id),.int .i64 at_,.int .u32 crc] 34)).heap.size=w5.heap.size+1:=eZ _ _;have f6:Fr (ae a2) w5 w6:=(f5a.mono (by simp)).trans A1.fr;have s56:=f6.size;have IX:∀y∈ae a2,y<wr.heap.size:=λy hy=>qR hI.own (pI hy)
     have eD:∀y∈ae a6,y∈ae a2\/y=w5.heap.size+1:=λy hy=>by rw[<-NJ];exact A1.at_ y hy
     obtain⟨nB1,nB2,nB3,nB4⟩:=hI.nB;refine⟨i+1,a6,c6,br++[(⟨kd,bs,id,at_,crc⟩,b3,bl)],by go_num,by rw[aK,<-iJ];rfl,by omega,⟨?_,?_,?_,?_,?_,?_,?_,?_,?_,?_⟩⟩
     ·have h1:=A1.own;rw[aK,<-iJ,Hu];simpa using h1
     ·rw[gB];exact (jV.gg f35 (by simp;exact jg hXB)).gg f6 (λhy=>(hI.new B hy).2.1 rfl)
     ·exact PJ.step f6 (λy hy=>.inr (hI.new y hy).1)
     ·exact f6.ae (f35.ae QD (by simp;omega)) (λhy=>(hI.new R hy).2.2 rfl)
     ·exact⟨nB1,nB2,by omega,by omega⟩
     ·intro y hy;rcases eD y hy with h1|h1
      ·exact hI.new y h1
      ·have:=PJ.size;exact⟨by omega,by omega,by omega⟩
     ·intro m hm;rcases jy.1 hm with hm|hm
      ·obtain⟨e1,_,e3⟩:=hI.bod m hm;refine⟨e1,((Tg m hm).gg f35 (λy hy=>by simp;have:=(e3 y hy).2.1;omega)).gg f6 (λy hy=>(e3 y hy).2.2.2),λy hy=>⟨(e3 y hy).1,by have:=(e3 y hy).2.1;omega,(e3 y hy).2.2.1,λh1=>?_⟩⟩;rcases eD y h1 with h1|h1
       ·exact (e3 y hy).2.2.2 h1
       ·have:=(e3 y hy).2.1;omega
      ·simp only[iQ]at hm;subst hm;refine⟨bK,So.gg f6 (λy hy h1=>?_),λy hy=>⟨?_,?_,?_,λh1=>?_⟩⟩
       ·have h2:=IX y h1;have h3:=(jd y hy).1;omega
       ·have h3:=(jd y hy).1;have:=f13.size;omega
       ·have h3:=(jd y hy).2.1;omega
       ·have h3:=(jd y hy).1;omega
       ·rcases eD y h1 with h1|h1
        ·have h2:=IX y h1;have h3:=(jd y hy).1;omega
        ·have h3:=(jd y hy).2.1;omega
     ·rw[bF,gB,gB];exact hI.dd.more (by rw[xC];exact HS.out.2.2.2)
     ·intro h1;simp at h1
     ·have:=hI.few;simp;omega
  ·obtain rfl:i=n:=by omega
   have BM:=hI;have HI:=ak hI iJ;have hwt:aJ.take i=aJ:=by rw[H.out.2.1,G9]
   have HW:=af hwt;clear hI hwt;by_cases h0:n2=0
   ·obtain⟨rfl,rfl⟩:=BM.nil (by omega);clear BM;subst h0;clear iJ;go_wp2_with (first
     | (go_at_call 38;refine (UR _ _).mono ?_;rintro e w5 ⟨rfl,hw⟩;obtain rfl:=hw.symm)
     | (go_at_call 42;refine (UE _).mono ?_;rintro e w6 ⟨rfl,hw⟩;obtain rfl:=hw.symm))
    go_ret;obtain⟨hI,iJ⟩:=HI.out;have e:br=[]:=wk iJ.symm;subst e;have hd:=hI.dd;rw[HW.out]at hd;exact⟨none,[],rfl,⟨.inl rfl,aw _,dZ _,λ_=>rfl,by simp⟩,by simp[ae],by simp,hI.fr,⟨by simp,by simp,hd.all⟩,dZ _⟩
   ·obtain⟨g,A0,rfl,C6,hmx,hle,hO⟩:=ZK BM.own (by omega);have wY:∀m∈br,m.1.id.length=40:=λm hm=>by obtain⟨m',jA,e⟩:=jR.1 (BM.dd.sub m.1 (yQ hm));rw[<-e];exact H.out.2.2.2.1 m' (xF jA)
    have hNl:br.length<=N:=by have h1:=H.out.2.2.2.2.2 _ (HW.out▸BM.dd);rwa [cN]at h1
    have hs:=H.out.2.2.2.2.1 g A0 br.length c2 (zU br) wr R hO hNl (ZJ wY) BM.fU (BM.new g (by simp[ae])).2.2;rw[<-iJ]at hs hle;unfold kN at hs;have HS:=au hs wY C6;clear hs wY hO C6 BM iJ hNl;go_wp2_with (first
     | (go_at_call 38;refine HS.out.1.mono ?_;rintro e w5 ⟨rfl,f',hO,hs,hf⟩;have H5:=au hO hs hf;clear hO hs hf)
     | (go_at_call 42;refine (zfq _ _ _ _ hle hmx).mono ?_;rintro e w6 ⟨rfl,hw⟩;obtain rfl:=hw.symm))
    go_ret;obtain⟨hI,iJ⟩:=HI.out;obtain⟨_,wY,C6⟩:=HS.out;obtain⟨hO,hs,hf⟩:=H5.out;have hwk:=(ZJ wY).sd hs;have hd:=hI.dd;rw[HW.out]at hd;obtain⟨Ii,h3⟩:=ah ((List.range n2).map λi=>(f' i).m);have Lh:Ii.length=n2:=by rw[h3];simp
    have hcs:=ze1 (c:=n2) hO;rw[<-h3]at hcs;have az:=hs.stb;have FR:=hs.srt;rw[Cq]at az FR;have kI:∀m,m∈Ii↔m∈br:=λm=>by
     rw[h3];constructor
     ·intro hm;obtain⟨t,ht,e⟩:=jR.1 hm;have h1:tg (f' t)∈sg f' 0 n2:=oH.2 ⟨t,by simpa using ht,by rw[fM]⟩;obtain⟨t',Sm,e'⟩:=oH.1 ((az.mem _).1 h1);have e2:=congrArg Prod.snd e';simp only[tg,fM]at e2;rw[<-e,e2,G4 (bO (show t'<br.length by omega))];exact vJ _
     ·intro hm;obtain⟨t,ht,e⟩:=List.mem_iff_getElem.1 hm;have h1:tg (zU br t)∈sg (zU br) 0 n2:=oH.2 ⟨t,by omega,by rw[fM]⟩;obtain⟨t',Sm,e'⟩:=oH.1 ((az.mem _).2 h1);have e2:=congrArg Prod.snd e';simp only[tg,fM]at e2;rw[G4 (bO ht),e]at e2;exact jR.2 ⟨t',by simpa using Sm,by rw[<-e2];rfl⟩
    have bR:(sg (zU br) 0 n2).Pairwise λa b=>a.1≠b.1:=by unfold sg;rw[He,FD];intro x y hx hy rG e;rw[Aw]at hx hy;simp only[List.getElem_range,fM]at e;rw[G4 (bO (show x<br.length by omega)),G4 (bO (show y<br.length by omega))]at e;have h4:=key_inj (wY _ (vJ _)) (wY _ (vJ _)) e;have h5:=hd.ne;rw[He]at h5;exact FD.1 h5 x y (by omega) (by omega) rG h4
    have aY:=qp1 _ FR λk=>by rw[az k];exact qq2 k _ bR
    have hgn:=hI.new g (by simp[ae]);have s5:=hf.size;have hg5:g<w5.heap.size:=by obtain⟨A,h1,_⟩:=hO;exact lt_of_block h1
    refine⟨some ⟨g,0,none⟩,Ii,by rw[Lh];rfl,⟨hcs,aw _,by rw[Lh];omega,by simp,λm hm=>?_⟩,λy hy=>?_,λm hm=>⟨?_,λy hy=>?_⟩,hI.fr.step hf (λy hy=>.inr (by simp at hy;rw[hy];exact hgn.1)),⟨?_,λo ho=>?_,λo ho=>?_⟩,by rw[Lh];have:=hI.few;omega⟩
    ·obtain⟨e1,e2,e3⟩:=hI.bod m ((kI m).1 hm);exact e2.gg hf (λy hy=>by have:=(e3 y hy).2.2.2;simpa[ae] using this)
    ·simp[ae]at hy;rw[hy];exact⟨hgn.1,hg5⟩
    ·exact (hI.bod m ((kI m).1 hm)).1
    ·have h1:=(hI.bod m ((kI m).1 hm)).2.2 y hy;exact⟨h1.1,by have:=h1.2.1;omega⟩
    ·rw[h3,xC,He];unfold sg at aY;rw[He]at aY;refine aY.imp λ{x y} h1=>?_
     simp only[tg,fM]at h1;rw[(hwk x).1,(hwk y).1]at h1;exact h1
    ·obtain⟨m,hm,e⟩:=jR.1 ho;exact hd.sub o (by rw[<-e];exact yQ ((kI m).1 hm))
    ·obtain⟨o',ho',e⟩:=hd.all o ho;obtain⟨m,hm,e2⟩:=jR.1 ho';exact⟨o',by rw[<-e2];exact yQ ((kI m).2 hm),e⟩
end os
end Go.Proofs.YtkmpfgpfbmeihaaGreatDoor
namespace Go.Proofs
open Go.Shelf
def Tryz.lays185_ren:Go.Shelf.Ren:=⟨fun|185=>98|187=>120|115=>121|253=>122|224=>123|254=>124|255=>150|291=>151|n=>n,fun|37=>23|3=>3|4=>4|0=>0|5=>5|46=>67|9=>9|146=>235|51=>32|n=>n,fun|1=>0|n=>n⟩
theorem Tryz.lays185:Go.Proofs.Lays.n185 Tryz.prog Tryz.lays185_ren:={
 mixed:=by kernel_rfl
 f115:=Tryz.func121.trans (congrArg some (by kernel_rfl))
 f185:=Tryz.func98.trans (congrArg some (by kernel_rfl))
 f187:=Tryz.func120.trans (congrArg some (by kernel_rfl))
 f224:=Tryz.func123.trans (congrArg some (by kernel_rfl))
 f253:=Tryz.func122.trans (congrArg some (by kernel_rfl))
 f254:=Tryz.func124.trans (congrArg some (by kernel_rfl))
 f255:=Tryz.func150.trans (congrArg some (by kernel_rfl))
 f291:=Tryz.func151.trans (congrArg some (by kernel_rfl))
 t0:=Tryz.underlying0
 a0:=Tryz.isAgg0
 z0:=Tryz.sizeOf0
 v0:=Tryz.zeroValue0
 t3:=Tryz.underlying3
 a3:=Tryz.isAgg3
 z3:=Tryz.sizeOf3
 v3:=Tryz.zeroValue3
 t4:=Tryz.underlying4
 a4:=Tryz.isAgg4
 z4:=Tryz.sizeOf4
 v4:=Tryz.zeroValue4
 t5:=Tryz.underlying5
 a5:=Tryz.isAgg5
 z5:=Tryz.sizeOf5
 v5:=Tryz.zeroValue5
 t9:=Tryz.underlying9
 a9:=Tryz.isAgg9
 z9:=Tryz.sizeOf9
 v9:=Tryz.zeroValue9
 t37:=Tryz.underlying23
 a37:=Tryz.isAgg23
 z37:=Tryz.sizeOf23
 v37:=Tryz.zeroValue23
 t46:=Tryz.underlying67
 a46:=Tryz.isAgg67
 z46:=Tryz.sizeOf67
 v46:=Tryz.zeroValue67
 t51:=Tryz.underlying32
 a51:=Tryz.isAgg32
 z51:=Tryz.sizeOf32
 v51:=Tryz.zeroValue32
 t146:=Tryz.underlying235
 a146:=Tryz.isAgg235
 z146:=Tryz.sizeOf235
 v146:=Tryz.zeroValue235
 g1:=by kernel_rfl }
open Go.RowKit Go.Lib in
theorem Tryz.bytes_Index_none (p q:Option Addr) (n c d:Nat) (w:World) :
  Calls Tryz.prog 98 #[.slice p n c,.slice q 0 d] w λe w'=>e = .returned (.int .i64 0)/\w'=w:=Any.bytes_Index_none Tryz.lays185 p q n c d w
open Go.Proofs Go.RowKit Go.Lib in
theorem Tryz.bytes_Index_at (a1 a2:Addr) (n c1 k c2:Nat) (xs ys:List Int) (m:Int) (w:World) (hx:xs.length=n) (hy:ys.length=k) (vM:∀x∈xs,0<=x/\x<256) (tk:∀y∈ys,0<=y/\y<256) (cL:∀i,i<n->w.cell? (a1.add i)=some (.int .u8 (xs.getD i 0))) (ky:∀i,i<k->w.cell? (a2.add i)=some (.int .u8 (ys.getD i 0))) (cP:n<=c1) (hs:n<4294967281) (hk:k<=9223372036854775807) (hm:w.cell? ⟨0,0,none⟩=some (.int .i64 m)) :
  Calls Tryz.prog 98 #[.slice (some a1) n c1,.slice (some a2) k c2] w λe w'=>e = .returned (.int .i64 (Lib.index (Lib.bytesOf xs) (Lib.bytesOf ys)))/\∃q,w'=w.drewN q:=Any.bytes_Index_at Tryz.lays185 a1 a2 n c1 k c2 xs ys m w hx hy vM tk cL ky cP hs hk hm
open Go.Proofs Go.RowKit Go.Lib in
theorem Tryz.bytes_Index_nil (p2:Option Addr) (k c2:Nat) (w:World) (hk:k<=9223372036854775807) (h1:k=1->∃b2 o2 cv,p2=some ⟨b2,o2,none⟩/\w.cell? ⟨b2,o2,none⟩=some (.int .u8 cv)) :
  Calls Tryz.prog 98 #[.slice none 0 0,.slice p2 k c2] w λe w'=>e = .returned (.int .i64 (if k=0 then 0 else -1))/\w'=w:=Any.bytes_Index_nil Tryz.lays185 p2 k c2 w hk h1
def Tryz.laysM185_ren:Go.Shelf.Ren:=⟨fun|185=>98|187=>120|115=>121|253=>122|224=>123|254=>124|255=>150|291=>151|n=>n,fun|37=>23|3=>3|4=>4|0=>0|5=>5|46=>67|9=>9|146=>235|51=>32|n=>n,fun|1=>0|n=>n⟩
theorem Tryz.laysM185:Go.Proofs.LaysM.n185 Tryz.prog Tryz.laysM185_ren:={
 mixed:=by kernel_rfl
 f115:=Tryz.func121.trans (congrArg some (by kernel_rfl))
 f185:=Tryz.func98.trans (congrArg some (by kernel_rfl))
 f187:=Tryz.func120.trans (congrArg some (by kernel_rfl))
 f224:=Tryz.func123.trans (congrArg some (by kernel_rfl))
 f253:=Tryz.func122.trans (congrArg some (by kernel_rfl))
 f254:=Tryz.func124.trans (congrArg some (by kernel_rfl))
 f255:=Tryz.func150.trans (congrArg some (by kernel_rfl))
 f291:=Tryz.func151.trans (congrArg some (by kernel_rfl))
 t0:=Tryz.underlying0
 a0:=Tryz.isAgg0
 z0:=Tryz.sizeOf0
 v0:=Tryz.zeroValue0
 t3:=Tryz.underlying3
 a3:=Tryz.isAgg3
 z3:=Tryz.sizeOf3
 v3:=Tryz.zeroValue3
 t4:=Tryz.underlying4
 a4:=Tryz.isAgg4
 z4:=Tryz.sizeOf4
 v4:=Tryz.zeroValue4
 t5:=Tryz.underlying5
 a5:=Tryz.isAgg5
 z5:=Tryz.sizeOf5
 v5:=Tryz.zeroValue5
 t9:=Tryz.underlying9
 a9:=Tryz.isAgg9
 z9:=Tryz.sizeOf9
 v9:=Tryz.zeroValue9
 t37:=Tryz.underlying23
 a37:=Tryz.isAgg23
 z37:=Tryz.sizeOf23
 v37:=Tryz.zeroValue23
 t46:=Tryz.underlying67
 a46:=Tryz.isAgg67
 z46:=Tryz.sizeOf67
 v46:=Tryz.zeroValue67
 t51:=Tryz.underlying32
 a51:=Tryz.isAgg32
 z51:=Tryz.sizeOf32
 v51:=Tryz.zeroValue32
 t146:=Tryz.underlying235
 a146:=Tryz.isAgg235
 z146:=Tryz.sizeOf235
 v146:=Tryz.zeroValue235
 g1:=by kernel_rfl
 i0:=by kernel_rfl
 i3:=by kernel_rfl
 i4:=by kernel_rfl
 i5:=by kernel_rfl
 i9:=by kernel_rfl
 i37:=by kernel_rfl
 i46:=by kernel_rfl
 i51:=by kernel_rfl
 i146:=by kernel_rfl
 m1:=by kernel_rfl
 s1_3:=λw h=>Go.Proofs.cell_of_shapedOpen_int (zero:=#[.int .i64 0]) (t:=3) h (of_decide_eq_true (by kernel_rfl)) (by kernel_rfl) rfl (by kernel_rfl) (by kernel_rfl) Tryz.underlying3 }
end Go.Proofs
