/-
  Texts of this proof, one behind the other: SortP, SortB, SortC, SortD.
-/
import Derived.Test.YtkmpfgpfbmeihaaGreatDoorS7
set_option maxHeartbeats 16000000
set_option maxRecDepth 100000
set_option linter.unusedVariables false
set_option linter.unusedSimpArgs false
namespace Go.Proofs.YtkmpfgpfbmeihaaGreatDoor.huf
open Go Go.RowKit lib
theorem qtq (f:Nat→Mc) (a b:Nat):∀n,a+n≤b→∀t,swr f a b n t=if a≤t∧t<a+n then f (t-a+b) else if b≤t∧t<b+n then f (t-b+a) else f t
 | 0,_,t=>by rw[if_neg (by omega),if_neg (by omega)];rfl
 | n+1,h,t=>by
  have ih:=qtq f a b n (by omega);show (if t=b+n then swr f a b n (a+n) else if t=a+n then swr f a b n (b+n) else swr f a b n t)=_;rw[ih,ih,ih];by_cases h1:t=b+n
  ·subst h1;rw[if_pos rfl,if_neg (by omega),if_neg (by omega),if_neg (by omega),if_pos (by omega)];congr 1;omega
  ·rw[if_neg h1];by_cases h2:t=a+n
   ·subst h2;rw[if_pos rfl,if_neg (by omega),if_neg (by omega),if_pos (by omega)];congr 1;omega
   ·rw[if_neg h2];by_cases h3:a≤t∧t<a+n
    ·rw[if_pos h3,if_pos (by omega)]
    ·rw[if_neg h3,if_neg (c:=a≤t∧t<a+(n+1)) (by omega)];by_cases h4:b≤t∧t<b+n
     ·rw[if_pos h4,if_pos (by omega)]
     ·rw[if_neg h4,if_neg (by omega)]
def rotf (f:Nat→Mc) (a m b:Nat):Nat→Mc:=λt=>if a≤t∧t<a+(b-m) then f (t-a+m) else if a+(b-m)≤t∧t<b then f (t-(b-m)) else f t
theorem qe9 {f:Nat→Mc} {a m b t:Nat} (h1:a≤t) (h2:t<a+(b-m)):rotf f a m b t=f (t-a+m):=if_pos ⟨h1,h2⟩
theorem qgv {f:Nat→Mc} {a m b t:Nat} (h1:a+(b-m)≤t) (h2:t<b):rotf f a m b t=f (t-(b-m)):=by unfold rotf;rw[if_neg (by omega),if_pos ⟨h1,h2⟩]
theorem qez {f:Nat→Mc} {a m b t:Nat} (ha:a≤m) (hb:m≤b) (h:t<a∨b≤t):rotf f a m b t=f t:=by unfold rotf;rw[if_neg (by omega),if_neg (by omega)]
theorem zf8 (f:Nat→Mc) (m i:Nat) (hi:i≤m):swr f (m-i) m i=rotf f (m-i) m (m+i):=by
 funext t;rw[qtq f (m-i) m i (by omega) t];unfold rotf;by_cases h1:m-i≤t∧t<m-i+i
 ·rw[if_pos h1,if_pos (by omega)]
 ·rw[if_neg h1,if_neg (c:=m-i≤t∧t<m-i+(m+i-m)) (by omega)];by_cases h2:m≤t∧t<m+i
  ·rw[if_pos h2,if_pos (by omega)];congr 1;omega
  ·rw[if_neg h2,if_neg (by omega)]
theorem zf7 (f:Nat→Mc) (m i j:Nat) (hi:i≤m) (hj:j<i):rotf (swr f (m-i) m j) (m-(i-j)) m (m+j)=rotf f (m-i) m (m+j):=by
 funext t;have e:=qtq f (m-i) m j (by omega);unfold rotf;rw[e,e,e];by_cases h1:m-(i-j)≤t∧t<m-(i-j)+(m+j-m)
 ·rw[if_pos h1];rw[if_neg (c:=m-i≤t-(m-(i-j))+m∧_) (by omega),if_pos (c:=m≤t-(m-(i-j))+m∧_) (by omega),if_neg (c:=m-i≤t∧_) (by omega),if_pos (by omega)];congr 1;omega
 ·rw[if_neg h1];by_cases h2:m-(i-j)+(m+j-m)≤t∧t<m+j
  ·rw[if_pos h2,if_neg (c:=m-i≤t-(m+j-m)∧_) (by omega),if_neg (c:=m≤t-(m+j-m)∧_) (by omega),if_neg (c:=m-i≤t∧_) (by omega),if_pos (by omega)]
  ·rw[if_neg h2];by_cases h3:m-i≤t∧t<m-i+j
   ·rw[if_pos h3,if_pos (by omega)]
   ·rw[if_neg h3,if_neg (c:=m≤t∧_) (by omega),if_neg (by omega),if_neg (by omega)]
theorem zf6 (f:Nat→Mc) (m i j:Nat) (hi:i≤m) (hj:i<j):rotf (swr f (m-i) (m+j-i) i) (m-i) m (m+(j-i))=rotf f (m-i) m (m+j):=by
 funext t;have e:=qtq f (m-i) (m+j-i) i (by omega);unfold rotf;rw[e,e,e];by_cases h1:m-i≤t∧t<m-i+(m+(j-i)-m)
 ·rw[if_pos h1];rw[if_neg (c:=m-i≤t-(m-i)+m∧_) (by omega),if_neg (c:=m+j-i≤t-(m-i)+m∧_) (by omega),if_pos (by omega)]
 ·rw[if_neg h1];by_cases h2:m-i+(m+(j-i)-m)≤t∧t<m+(j-i)
  ·rw[if_pos h2,if_pos (c:=m-i≤t-(m+(j-i)-m)∧_) (by omega),if_pos (c:=m-i≤t∧_) (by omega)];congr 1;omega
  ·rw[if_neg h2,if_neg (c:=m-i≤t∧t<m-i+i) (by omega),if_neg (c:=m-i≤t∧_) (by omega)];by_cases h3:m+j-i≤t∧t<m+j-i+i
   ·rw[if_pos h3,if_pos (by omega)];congr 1;omega
   ·rw[if_neg h3,if_neg (by omega)]
theorem qgu (f:Nat→Mc) (a m b:Nat) (ha:a≤m) (hb:m≤b) (h:a=m∨m=b):rotf f a m b=f:=by
 funext t;unfold rotf;by_cases h1:a≤t∧t<a+(b-m)
 ·rw[if_pos h1];congr 1;omega
 ·rw[if_neg h1];by_cases h2:a+(b-m)≤t∧t<b
  ·rw[if_pos h2];congr 1;omega
  ·rw[if_neg h2]
theorem qtw (f:Nat→Mc) (i j:Nat) (hj:0<j) (hji:j≤i):swp (rotf f j i (i+1)) j (j-1)=rotf f (j-1) i (i+1):=by
 funext t;unfold swp;by_cases h1:t=j
 ·subst h1;rw[if_pos rfl,qez (by omega) (by omega) (.inl (by omega)),qgv (by omega) (by omega)];congr 1;omega
 ·rw[if_neg h1];by_cases h2:t=j-1
  ·subst h2;rw[if_pos rfl,qe9 (by omega) (by omega),qe9 (by omega) (by omega)];congr 1;omega
  ·rw[if_neg h2];by_cases h3:t<j-1∨i+1≤t
   ·rw[qez (by omega) (by omega) (by omega),qez (by omega) (by omega) h3]
   ·rw[qgv (by omega) (by omega),qgv (by omega) (by omega)]
theorem zf5 (f:Nat→Mc) (a k:Nat) (hk:a≤k):swp (rotf f a (a+1) (k+1)) k (k+1)=rotf f a (a+1) (k+2):=by
 funext t;unfold swp;by_cases h1:t=k
 ·subst h1;rw[if_pos rfl,qez (by omega) (by omega) (.inr (by omega)),qe9 (by omega) (by omega)];congr 1;omega
 ·rw[if_neg h1];by_cases h2:t=k+1
  ·subst h2;rw[if_pos rfl,qgv (by omega) (by omega),qgv (by omega) (by omega)];congr 1;omega
  ·rw[if_neg h2];by_cases h3:t<a∨k+2≤t
   ·rw[qez (by omega) (by omega) (by omega),qez (by omega) (by omega) h3]
   ·rw[qe9 (by omega) (by omega),qe9 (by omega) (by omega)]
def tg (x:Mc):Nat×Mc:=(x.worth,x)
def sg (f:Nat→Mc) (a n:Nat):List (Nat×Mc):=(List.range n).map λi=>tg (f (a+i))
theorem qex {f f':Nat→Mc} {a a' n:Nat} (h:∀t,t<n→f (a+t)=f' (a'+t)):sg f a n=sg f' a' n:=by unfold sg;exact qf8 λt ht=>by rw[h t (qdq.1 ht)]
theorem qqj (f:Nat→Mc) (a n m:Nat):sg f a (n+m)=sg f a n++sg f (a+n) m:=by unfold sg;rw[List.range_add,qbe,qhm];congr 1;exact qf8 λt _=>by simp[qcb]
theorem qdb (f:Nat→Mc) (a m b:Nat) (h1:a≤m) (h2:m≤b):sg f a (b-a)=sg f a (m-a)++sg f m (b-m):=by rw[show b-a=(m-a)+(b-m) from by omega,qqj,show a+(m-a)=m from by omega]
theorem qtv (f:Nat→Mc) (a:Nat):sg f a 1=[tg (f a)]:=rfl
theorem qo6 (f:Nat→Mc) (a:Nat):sg f a 0=[]:=rfl
theorem qis {f:Nat→Mc} {a n:Nat} {x:Nat×Mc}:x∈sg f a n↔∃t,t<n∧x=tg (f (a+t)):=by
 unfold sg;rw[qcj];constructor
 ·rintro⟨t,ht,rfl⟩;exact⟨t,qdq.1 ht,rfl⟩
 ·rintro⟨t,ht,rfl⟩;exact⟨t,qdq.2 ht,rfl⟩
theorem qnz {f:Nat→Mc} {a n:Nat}:Srt (sg f a n)↔∀i j,i≤j→j<n→(f (a+i)).worth≤(f (a+j)).worth:=by
 unfold Srt sg;rw[List.pairwise_map];constructor
 ·intro h i j hij hj;rcases qb8 i j with k|k
  ·have:=zdd.1 h i j (by simp;omega) (by simp;omega) k;simpa[tg] using this
  ·obtain rfl:i=j:=by omega
   exact qae _
 ·intro h;refine zdd.2 λi j hi hj hij=>?_
  simp only[qh3]at hi hj;simpa[tg] using h i j (by omega) hj
theorem qgd {f:Nat→Mc} {a n c k:Nat} (h:Srt (sg f a n)) (h1:a≤c) (h2:c+k≤a+n):Srt (sg f c k):=by rw[qnz]at h ⊢;intro i j hij hj;have:=h (c-a+i) (c-a+j) (by omega) (by omega);rwa [show a+(c-a+i)=c+i from by omega,show a+(c-a+j)=c+j from by omega]at this
theorem qfh (f:Nat→Mc) (s m e:Nat) (h1:s≤m) (h2:m≤e):sg (rotf f s m e) s (e-m)=sg f m (e-m):=
 qex λt ht=>by rw[qe9 (by omega) (by omega)];congr 1;omega
theorem qf0 (f:Nat→Mc) (s m e:Nat) (h1:s≤m) (h2:m≤e):sg (rotf f s m e) (s+(e-m)) (m-s)=sg f s (m-s):=
 qex λt ht=>by rw[qgv (by omega) (by omega)];congr 1;omega
theorem qfw (f:Nat→Mc) (s m e a n:Nat) (h1:s≤m) (h2:m≤e) (h:a+n≤s∨e≤a):sg (rotf f s m e) a n=sg f a n:=
 qex λt ht=>by rw[qez h1 h2 (by omega)]
structure Sd (f f':Nat→Mc) (a b:Nat):Prop where
 out:∀t,t<a∨b≤t→f' t=f t
 srt:Srt (sg f' a (b-a))
 stb:Stb (sg f' a (b-a)) (sg f a (b-a))
theorem qo8 (f:Nat→Mc) (a i j:Nat) (ha:a≤j) (hj:j≤i) (hs:Srt (sg f a (i-a))) (h1:a<j→(f (j-1)).worth≤(f i).worth) (h2:j<i→(f i).worth<(f j).worth) :
  Sd f (rotf f j i (i+1)) a (i+1):=by
 have hs':=qnz.1 hs;have e0:sg (rotf f j i (i+1)) a (i+1-a)=sg f a (j-a)++tg (f i)::sg f j (i-j):=by
  rw[qdb _ a j (i+1) ha (by omega),qfw _ _ _ _ _ _ hj (by omega) (.inl (by omega)),qdb _ j (j+1) (i+1) (by omega) (by omega),show j+1-j=i+1-i from by omega,qfh _ _ _ _ hj (by omega),show j+1=j+(i+1-i) from by omega,show i+1-(j+(i+1-i))=i-j from by omega,
   qf0 _ _ _ _ hj (by omega),show i+1-i=1 from by omega,qtv]
  rfl
 have e1:sg f a (i+1-a)=sg f a (j-a)++sg f j (i-j)++[tg (f i)]:=by rw[qdb f a i (i+1) (by omega) (by omega),qdb f a j i ha hj,show i+1-i=1 from by omega,qtv]
 have hp:=qxm (x:=tg (f i)) (A1:=sg f a (j-a)) (A2:=sg f j (i-j)) (by rw[<-qdb f a j i ha hj];exact hs)
  (λy hy=>by
   obtain⟨t,ht,rfl⟩:=qis.1 hy
   refine qar (hs' t (j-1-a) (by omega) (by omega)) ?_
   rw[show a+(j-1-a)=j-1 from by omega]
   exact h1 (by omega))
  (λy hy=>by
   obtain⟨t,ht,rfl⟩:=qis.1 hy
   refine qat (h2 (by omega)) ?_
   have:=hs' (j-a) (j-a+t) (by omega) (by omega)
   rwa [show a+(j-a)=j from by omega,show a+(j-a+t)=j+t from by omega]at this)
 exact⟨λt ht=>qez hj (by omega) (by omega),by rw[e0];exact hp.1,by rw[e0,e1];exact hp.2⟩
theorem zeo (f:Nat→Mc) (a i b:Nat) (hi:a<i) (hb:i≤b) (hs:Srt (sg f (a+1) (b-(a+1)))) (h1:a+1<i→(f (i-1)).worth<(f a).worth) (h2:i<b→(f a).worth≤(f i).worth) :
  Sd f (rotf f a (a+1) i) a b:=by
 have hs':=qnz.1 hs;have e0:sg (rotf f a (a+1) i) a (b-a)=sg f (a+1) (i-(a+1))++tg (f a)::sg f i (b-i):=by
  have q1:=qfw f a (a+1) i i (b-i) (by omega) (by omega) (.inr (qae _));have q2:=qfh f a (a+1) i (by omega) (by omega);have q3:=qf0 f a (a+1) i (by omega) (by omega);have q4:sg (rotf f a (a+1) i) a (i-a)=sg f (a+1) (i-(a+1))++sg f a (a+1-a):=by rw[show i-a=(i-(a+1))+(a+1-a) from by omega,qqj,q2,q3]
  rw[qdb _ a i b (by omega) hb,q1,q4,show a+1-a=1 from by omega,qtv];simp
 have e1:sg f a (b-a)=tg (f a)::(sg f (a+1) (i-(a+1))++sg f i (b-i)):=by rw[qdb f a (a+1) b (by omega) (by omega),qdb f (a+1) i b (by omega) hb,show a+1-a=1 from by omega,qtv];rfl
 have hp:=zbo (x:=tg (f a)) (B1:=sg f (a+1) (i-(a+1))) (B2:=sg f i (b-i)) (by rw[<-qdb f (a+1) i b (by omega) hb];exact hs)
  (λy hy=>by
   obtain⟨t,ht,rfl⟩:=qis.1 hy
   refine qdr (hs' t (i-1-(a+1)) (by omega) (by omega)) ?_
   rw[show a+1+(i-1-(a+1))=i-1 from by omega]
   exact h1 (by omega))
  (λy hy=>by
   obtain⟨t,ht,rfl⟩:=qis.1 hy
   refine qar (h2 (by omega)) ?_
   have:=hs' (i-(a+1)) (i-(a+1)+t) (by omega) (by omega)
   rwa [show a+1+(i-(a+1))=i from by omega,show a+1+(i-(a+1)+t)=i+t from by omega]at this)
 exact⟨λt ht=>qez (by omega) (by omega) (by omega),by rw[e0];exact hp.1,by rw[e0,e1];exact hp.2⟩
theorem zdk (f f1 f2:Nat→Mc) (a m b mid s e:Nat) (hmid:mid=(a+b)/2) (ham:a<m) (hmb:m<b) (hse:s+e=mid+m) (has:a≤s) (hsm:s≤m) (hme:m≤e) (heb:e≤b)
  (hA:Srt (sg f a (m-a))) (hB:Srt (sg f m (b-m)))
  (h1:s<m→m<e→(f (e-1)).worth<(f s).worth) (h2:a<s→e<b→(f (s-1)).worth≤(f e).worth)
  (d1:Sd (rotf f s m e) f1 a mid) (d2:Sd f1 f2 mid b):Sd f f2 a b:=by
 have hA':=qnz.1 hA;have hB':=qnz.1 hB;have em:s+(e-m)=mid:=by omega
 have eA:sg f a (m-a)=sg f a (s-a)++sg f s (m-s):=qdb f a s m has hsm;have eB:sg f m (b-m)=sg f m (e-m)++sg f e (b-e):=qdb f m e b hme heb;have eL:sg (rotf f s m e) a (mid-a)=sg f a (s-a)++sg f m (e-m):=by have q1:=qfw f s m e a (s-a) hsm hme (.inl (by omega));have q2:=qfh f s m e hsm hme;rw[qdb _ a s mid has (by omega),q1,show mid-s=e-m from by omega,q2]
 have eR:sg (rotf f s m e) mid (b-mid)=sg f s (m-s)++sg f e (b-e):=by have q1:=qfw f s m e e (b-e) hsm hme (.inr (qae _));have q2:=qf0 f s m e hsm hme;rw[em]at q2;rw[qdb _ mid e b (by omega) heb,q1,show e-mid=m-s from by omega,q2]
 have eR1:sg f1 mid (b-mid)=sg (rotf f s m e) mid (b-mid):=qex λt ht=>d1.out _ (.inr (by omega))
 have eL2:sg f2 a (mid-a)=sg f1 a (mid-a):=qex λt ht=>d2.out _ (.inl (by omega))
 have hp:=za1 (A1:=sg f a (s-a)) (A2:=sg f s (m-s)) (B1:=sg f m (e-m)) (B2:=sg f e (b-e)) (L:=sg f1 a (mid-a)) (R:=sg f2 mid (b-mid))
  (by rw[<-eA];exact hA) (by rw[<-eB];exact hB)
  (λx hx y hy=>by
   obtain⟨t,ht,rfl⟩:=qis.1 hx
   obtain⟨u,hu,rfl⟩:=qis.1 hy
   have k1:=hA' (s-a) (s-a+t) (by omega) (by omega)
   have k2:=hB' u (e-1-m) (by omega) (by omega)
   rw[show a+(s-a)=s from by omega,show a+(s-a+t)=s+t from by omega]at k1
   rw[show m+(e-1-m)=e-1 from by omega]at k2
   exact qdr k2 (qat (h1 (by omega) (by omega)) k1))
  (λx hx y hy=>by
   obtain⟨t,ht,rfl⟩:=qis.1 hx
   obtain⟨u,hu,rfl⟩:=qis.1 hy
   have k1:=hA' t (s-1-a) (by omega) (by omega)
   have k2:=hB' (e-m) (e-m+u) (by omega) (by omega)
   rw[show a+(s-1-a)=s-1 from by omega]at k1
   rw[show m+(e-m)=e from by omega,show m+(e-m+u)=e+u from by omega]at k2
   exact qar k1 (qar (h2 (by omega) (by omega)) k2))
  d1.srt (by rw[<-eL];exact d1.stb) d2.srt (by rw[<-eR,<-eR1];exact d2.stb)
 refine⟨λt ht=>?_,?_,?_⟩
 ·rw[d2.out t (by omega),d1.out t (by omega),qez hsm hme (by omega)]
 ·rw[qdb f2 a mid b (by omega) (by omega),eL2];exact hp.1
 ·rw[qdb f2 a mid b (by omega) (by omega),eL2,qdb f a m b (by omega) (by omega),eA,eB];exact hp.2
theorem qo9 (f:Nat→Mc) (a b:Nat) (h:Srt (sg f a (b-a))):Sd f f a b:=⟨λ_ _=>rfl,h,.refl _⟩
theorem Sd.trans {f f' f2:Nat→Mc} {a b:Nat} (h:Sd f f' a b) (h':Sd f' f2 a b):Sd f f2 a b:=⟨λt ht=>(h'.out t ht).trans (h.out t ht),h'.srt,h'.stb.trans h.stb⟩
theorem Sd.widen {f f':Nat→Mc} {a b:Nat} (h:Sd f f' a b) (hab:a≤b) {n:Nat} (hn:b≤n):Stb (sg f' 0 n) (sg f 0 n):=by
 have e:∀k:Nat→Mc,sg k 0 n=sg k 0 a++sg k a (b-a)++sg k b (n-b):=λk=>by have h1:=qdb k 0 a n (by omega) (by omega);rw[qp4,qp4]at h1;rw[h1,qdb k a b n hab hn,qas]
 rw[e f',e f];refine Stb.append (Stb.append ?_ h.stb) ?_
 ·rw[qex (f:=f') (f':=f) λt ht=>h.out _ (.inl (by omega))];exact .refl _
 ·rw[qex (f:=f') (f':=f) λt ht=>h.out _ (.inr (by omega))];exact .refl _
open bm bl
theorem qdt (g:Nat) (T:TypeId) (A0:Array Value) (L cap a m b:Nat) (f:Nat→Mc) (cmp:Value) (w:World)
  (h:Dw w g T A0 L f) (ha:a<m) (hb:m<b) (hbL:b≤L) (hL:L≤100000) :
  Calls Tryz.prog 216 #[.slice (some ⟨g,0,none⟩) L cap,.int .i64 a,.int .i64 m,.int .i64 b,cmp] w λe w'=>e = .returned (.tuple #[])∧Dw w' g T A0 L (rotf f a m b)∧Fr [g] w w':=by
 have H:=zhd h;clear h;obtain⟨i0,hi0⟩:=zex (m-a);obtain⟨j0,hj0⟩:=zex (b-m);have e0:(m:Int)-(a:Int)=(i0:Int):=by omega
 have e1:(b:Int)-(m:Int)=(j0:Int):=by omega
 have H0:=zhd5 hi0 hj0 ha hb hbL;have hm:m≤100000:=by omega
 have hi1:1≤i0:=by omega
 have hj1:1≤j0:=by omega
 have hi2:i0≤100000:=by omega
 have hj2:j0≤100000:=by omega
 clear hi0 hj0 ha hb hbL;go_enter Tryz.func216,Tryz.ntmps216;go_wp2;go_loopg [10,11] (i0+j0) (λk s10 s11 wr=>∃i j:Nat,s10 = .int .i64 (i:Nat)∧s11 = .int .i64 (j:Nat)∧k=i+j∧1≤i∧1≤j∧i≤m∧m+j≤L∧∃f1,Dw wr g T A0 L f1∧rotf f1 (m-i) m (m+j)=rotf f a m b∧Fr [g] w wr);case atStart=>obtain⟨k0,k1,k2,k3,k4⟩:=H0.out;exact⟨i0,j0,rfl,rfl,rfl,hi1,hj1,by omega,by omega,f,H.out,by rw[show m-i0=a from by omega,show m+j0=b from by omega],.refl _ w⟩
 case round=>
  obtain⟨i,j,rfl,rfl,hk,k1,k2,k3,k4,f1,hD,hr,hf⟩:=hrel;obtain⟨p,hp⟩:=zex (m-i);have e2:(m:Int)-(i:Int)=(p:Int):=by omega
  have b1:i≤100000:=by omega
  have b2:j≤100000:=by omega
  rw[<-hp]at hr;by_cases hij:i=j
  ·subst hij;have hs:=qj9 g T A0 L cap i p m f1 cmp wr hD (by omega) (by omega) hL;have er:swr f1 p m i=rotf f a m b:=by rw[<-hr,hp];exact zf8 f1 m i k3
   rw[er]at hs;have HI:=zhd2 hs hf;clear hs hr er hf hD hp k3 k4;go_wp2_with (go_at_call 223;refine HI.o0.mono ?_;rintro e w2 ⟨rfl,hd2,hf2⟩);(try simp only[Exit.inBlock,Exit.then]);refine bodyPost_end (results_none rfl _ _ _) rfl ?_;exact⟨rfl,hd2,HI.l1.trans hf2⟩
  ·have hne:((i:Int)==(j:Int))=false:=by simp only[beq_eq_false_iff_ne];omega
   by_cases hgt:j<i
   ·have hs:=qj9 g T A0 L cap j p m f1 cmp wr hD (by omega) (by omega) hL;have er:=zf7 f1 m i j k3 hgt;rw[<-hp]at er;have HI:=zhd6 hs hf er hr hp hk;clear hs hr er hf hD hp hk;obtain⟨q,hq⟩:=zex (i-j);have e3:(i:Int)-(j:Int)=(q:Int):=by omega
    have HQ:=zhd hq;clear hq;go_wp2_with (go_at_call 223;refine HI.o0.mono ?_;rintro e w2 ⟨rfl,hd2,hf2⟩;have HW:=zhd2 hd2 hf2;clear hd2 hf2);have hq:=HQ.out;have hk:=HI.out.2.2.2.2.2;go_roundg (q+j);case measure=>omega
    case rel=>exact⟨q,j,by go_num,rfl,rfl,by omega,k2,by omega,k4,_,HW.o0,by rw[hq,HI.out.2.2.1,HI.out.2.2.2.1],HI.l1.1.trans HW.l1⟩
   ·have hlt:i<j:=by omega
    obtain⟨q,hq⟩:=zex (m+j-i);have e3:(m:Int)+(j:Int)-(i:Int)=(q:Int):=by omega
    have hs:=qj9 g T A0 L cap i p q f1 cmp wr hD (by omega) (by omega) hL;have er:=zf6 f1 m i j k3 hlt;rw[<-hp,<-hq]at er;have HI:=zhd7 hs hf er hr hp hk hq;clear hs hr er hf hD hp hk hq;obtain⟨d,hd⟩:=zex (j-i);have e4:(j:Int)-(i:Int)=(d:Int):=by omega
    have HQ:=zhd hd;clear hd;go_wp2_with (go_at_call 223;refine HI.o0.mono ?_;rintro e w2 ⟨rfl,hd2,hf2⟩;have HW:=zhd2 hd2 hf2;clear hd2 hf2);have hd:=HQ.out;have hk:=HI.out.2.2.2.2.2.1;have hp:=HI.out.2.2.2.2.1;go_roundg (i+d);case measure=>omega
    case rel=>exact⟨i,d,rfl,by go_num,rfl,k1,by omega,k3,by omega,_,HW.o0,by rw[<-hp,hd,HI.out.2.2.1,HI.out.2.2.2.1],HI.l1.1.trans HW.l1⟩
def Wb (f:Nat→Mc):Prop:=∀i,(f i).worth≤2^50
theorem Wb.rot {f:Nat→Mc} (h:Wb f) (a m b:Nat):Wb (rotf f a m b):=λi=>by
 unfold rotf;split
 ·exact h _
 ·split<;>exact h _
theorem Wb.sd {f f':Nat→Mc} {a b:Nat} (h:Wb f) (s:Sd f f' a b):Wb f':=λi=>by
 by_cases hi:i<a∨b≤i
 ·rw[s.out i hi];exact h i
 ·have h1:tg (f' i)∈sg f' a (b-a):=qis.2 ⟨i-a,by omega,by rw[show a+(i-a)=i from by omega]⟩;obtain⟨t,_,ht⟩:=qis.1 ((s.stb.mem _).1 h1);have:=congrArg Prod.fst ht;simp only[tg]at this;rw[this];exact h _
def vc (x:Mc):Value:=.agg #[.int .i64 (x.worth:Nat),.slice x.ao x.len x.cap]
def cmpV:Value:=.func (.func 160) #[] #[]
theorem qja (x y:Mc) (w:World) (hx:x.worth≤2^50) (hy:y.worth≤2^50) :
  Calls Tryz.prog 160 #[vc x,vc y] w λe w'=>e = .returned (.int .i64 ((x.worth:Int)-(y.worth:Int)))∧Fr [] w w':=by
 obtain⟨xw,xa,xl,xc⟩:=x;obtain⟨yw,ya,yl,yc⟩:=y;simp only[vc];simp only at hx hy;go_enter Tryz.func160,Tryz.ntmps160;go_wp2;go_ret;exact⟨rfl,((Fr.refl [] w).alloc _).alloc _⟩
theorem swp_comm (f:Nat→Mc) (x y:Nat):swp f x y=swp f y x:=by funext i;unfold swp;split<;>split<;>simp_all
theorem Dw.fr {w w':World} {g:Nat} {T:TypeId} {A0:Array Value} {n:Nat} {f:Nat→Mc} (h:Dw w g T A0 n f) (k:Fr [] w w'):Dw w' g T A0 n f:=by obtain⟨A,h1,h2⟩:=h;exact⟨A,k.blk h1 (by simp),h2⟩
theorem Dw.drew {w:World} {g:Nat} {T:TypeId} {A0:Array Value} {n:Nat} {f:Nat→Mc} (h:Dw w g T A0 n f):Dw w.drew g T A0 n f:=h.fr (Fr.drew1 [] w)
theorem Dw.cells {w:World} {g:Nat} {T:TypeId} {A0:Array Value} {n:Nat} {f:Nat→Mc} (h:Dw w g T A0 n f) {i:Nat} (hi:i<n) :
  w.cell? ⟨g,i*2,none⟩=some (.int .i64 ((f i).worth:Nat))∧w.cell? ⟨g,i*2+1,none⟩=some (.slice (f i).ao (f i).len (f i).cap):=by
 obtain⟨A,h1,_,_,_,h2⟩:=h;exact⟨(cell_of h1 _).trans (h2 i hi).1,(cell_of h1 _).trans (h2 i hi).2⟩
theorem Dw.cellsN {w:World} {g:Nat} {T:TypeId} {A0:Array Value} {n:Nat} {f:Nat→Mc} (h:Dw w g T A0 n f) {i:Nat} (hi:i<n) (x:World) :
  (sup [] w x).cell? ⟨g,i*2,none⟩=some (.int .i64 ((f i).worth:Nat))∧(sup [] w x).cell? ⟨g,i*2+1,none⟩=some (.slice (f i).ao (f i).len (f i).cap):=
 (h.fr (qcm [] w x)).cells hi
theorem Sd.trans' {f f1 f2:Nat→Mc} {a i:Nat} (h:Sd f f1 a i) (h':Sd f1 f2 a (i+1)):Sd f f2 a (i+1):=by
 refine⟨λt ht=>(h'.out t ht).trans (h.out t (by omega)),h'.srt,h'.stb.trans ?_⟩;by_cases ha:a≤i
 ·rw[qdb f1 a i (i+1) ha (by omega),qdb f a i (i+1) ha (by omega)];refine Stb.append h.stb ?_;rw[qex (f:=f1) (f':=f) λt _=>h.out _ (by omega)];exact .refl _
 ·rw[show i+1-a=0 from by omega,qo6,qo6];exact .refl _
theorem qoe (g:Nat) (T:TypeId) (A0:Array Value) (L cap a b:Nat) (f:Nat→Mc) (w:World)
  (h:Dw w g T A0 L f) (ha:a≤b) (hbL:b≤L) (hL:L≤100000) (hwb:Wb f) :
  Calls Tryz.prog 201 #[.slice (some ⟨g,0,none⟩) L cap,.int .i64 (a:Nat),.int .i64 (b:Nat),cmpV] w λe w'=>e = .returned (.tuple #[])∧∃f',Dw w' g T A0 L f'∧Sd f f' a b∧Fr [g] w w':=by
 have H:=zhd3 h hwb ha;clear h hwb;unfold cmpV;go_enter Tryz.func201,Tryz.ntmps201;go_wp2;go_loopg [8,9] (b-a) (λk s8 s9 wr=>∃i:Nat,s8 = .int .i64 (i:Nat)∧i+k=b+1∧a+1≤i∧∃f1,Dw wr g T A0 L f1∧Sd f f1 a (min i b)∧Fr [g] w wr);case atStart=>
  refine⟨a+1,by go_num,by have:=H.l2;omega,qae _,f,H.o0,qo9 f a _ ?_,.refl _ w⟩;refine qnz.2 λx y hxy hy=>?_
  obtain rfl:x=y:=by omega
  exact qae _
 case round=>
  obtain⟨i,rfl,hik,hai,f1,hD,hS,hf⟩:=hrel;by_cases hi:i<b
  ·obtain⟨k,rfl⟩:∃k,gk=k+1:=⟨gk-1,by omega⟩;rw[qc6 (by omega)]at hS;have hwb1:=H.o1.sd hS;obtain⟨wo,rfl⟩:∃wo:World,wo=wr:=⟨_,rfl⟩;have HX:=zhd5 hD hS hf hwb1 hik;have hiL:i<L:=by omega
   have hi5:i≤100000:=by omega
   clear hD hS hf hwb1 hik;go_wp2;go_loopg [9] (i-a) (λk s9 wr=>∃j:Nat,s9 = .int .i64 (j:Nat)∧j=k+a∧j≤i∧(j<i→(f1 i).worth<(f1 j).worth)∧Dw wr g T A0 L (rotf f1 j i (i+1))∧Fr [g] w wr);case atStart=>exact⟨i,rfl,by omega,qae _,λh=>absurd h (by omega),by rw[qgu f1 i i (i+1) (qae _) (by omega) (.inl rfl)];exact HX.o0,HX.o2⟩
   case round=>
    obtain⟨j,rfl,hjk,hji,hlt,hD,hf⟩:=hrel;by_cases hja:a<j
    ·obtain⟨k2,rfl⟩:∃k2,gk=k2+1:=⟨gk-1,by omega⟩;obtain⟨q,rfl⟩:∃q,j=q+1:=⟨j-1,by omega⟩;have x0:=qe9 (f:=f1) (a:=q+1) (m:=i) (b:=i+1) (t:=q+1) (qae _) (by omega);rw[show q+1-(q+1)+i=i from by omega]at x0;have x1:=qez (f:=f1) (a:=q+1) (m:=i) (b:=i+1) (t:=q) (by omega) (by omega) (.inl (by omega));have d0:=λx=>hD.drew.cellsN (i:=q+1) (by omega) x
     have d1:=λx=>hD.drew.cellsN (i:=q) (by omega) x
     rw[x0]at d0;rw[x1]at d1;have b0:=HX.o3 i;have b1:=HX.o3 q;obtain⟨p,hp⟩:=zex (f1 i);obtain⟨r,hr⟩:=zex (f1 q);rw[<-hp]at b0 d0;rw[<-hr]at b1 d1;have HI:=zhd6 hp hr hD hf hjk hlt;clear hp hr hD hf hjk hlt x0 x1;have d00:=λx=>(d0 x).1
     have d01:=λx=>(d0 x).2
     have d10:=λx=>(d1 x).1
     have d11:=λx=>(d1 x).2
     clear d0 d1;have e0:((q+1:Nat):Int)-1=(q:Int):=by omega
     have g2:decide ((L:Int)≤((q+1:Nat):Int))=false:=by simp;omega
     have g4:decide ((L:Int)≤(q:Int))=false:=by simp;omega
     obtain⟨j,hj⟩:=zex (q+1);rw[<-hj]at d00 d01 e0 g2 hji hja ⊢;have HJ:=zhd hj;clear hj;go_upto_region 4 with fail;refine qb3 17 [(false,0),(false,1),(false,2),(false,3),(false,4),(false,5),(false,6),(false,7),(false,8),(false,9),(false,10),(false,11),(false,12),(false,13),(true,14),(false,15),(false,16)] [] (by kernel_rfl) (by kernel_rfl) (λ_ _ d _ _ h=>by cases d<;>exact h) ?_;simp only[qak,qam,qaz,qa0,qad,qaj,qbk];refine qb0 14 rfl ?_;simp only[qah,qan,qad,qaj,qak,qam];repeat (go_big_quiet_step (fail))
     refine wpQuiet_nil ?_;refine qb6 rfl ?_;intro K hK;go_wp2_with (go_at_call 160;refine (qja p r wr.drew b0 b1).mono ?_;rintro e w1 ⟨rfl,hf1⟩);refine hK.out _ _ hf1 ?_;clear hK K d00 d01 d10 d11;have H1:=zhd hf1;clear hf1;by_cases hpr:p.worth<r.worth
     ·have g5:decide (((p.worth:Int)-(r.worth:Int))<0)=true:=by simp;omega
      refine qb0 2 rfl ?_;simp only[qah,qan,qad,qaj,qak,qam];repeat (go_big_quiet_step (fail))
      refine wpQuiet_nil ?_;refine qcq ?_;go_wp2;have hD:Dw w1 g T A0 L (rotf f1 j i (i+1)):=by rw[HJ.out];exact (HI.out.2.2.1.drew).fr H1.out
      have hxl:j<L:=by omega
      have hyl:q<L:=by omega
      have hxy:j≠q:=by have:=HJ.out;omega
      obtain⟨A,hA,hAs,hAn,hAt,hAf⟩:=hD;have X:=hAf j hxl;have Y:=hAf q hyl;obtain⟨cx,hcx⟩:=zex ((rotf f1 j i (i+1)) j);obtain⟨cy,hcy⟩:=zex ((rotf f1 j i (i+1)) q);rw[<-hcx]at X;rw[<-hcy]at Y;obtain⟨cxw,cxa,cxl,cxc⟩:=cx;obtain⟨cyw,cya,cyl,cyc⟩:=cy;have d0:=(cell_of hA (j*2)).trans X.1;have d1:=(cell_of hA (j*2+1)).trans X.2;have d2:=(cell_of hA (q*2)).trans Y.1;have d3:=(cell_of hA (q*2+1)).trans Y.2;simp only at d0 d1 d2 d3;have HSw:=zhd7 hA hAs hAn hAt hAf hcx hcy;clear hA hAs hAn hAt hAf hcx hcy X Y;go_upto_region 6 with fail;refine qf3 [(0,0),(0,1),(0,2),(0,3),(0,4),(0,5),(0,6),(0,7),(0,8),(1,9),(0,10),(0,11),(0,12),(1,13),(0,14),(2,15),(0,16),(2,17)] [g] [15,17] (by kernel_rfl) (by kernel_rfl) (λ_ _ d _ _ h=>by cases d<;>exact h) ?_;simp only[qak,qam,qaz,qa0];refine qdc 9 rfl ?_;simp only[qah,qan,qad,qaj,qak,qam];repeat (go_big_quiet_step (fail))
      refine wpQuiet_nil ?_;refine qd3 1 rfl ?_;simp only[qah,qan,qad,qaj,qak,qam];repeat (go_big_quiet_step (fail))
      refine wpQuiet_nil ?_;refine qdc 3 rfl ?_;simp only[qah,qan,qad,qaj,qak,qam];repeat (go_big_quiet_step (fail))
      refine wpQuiet_nil ?_;refine qd3 1 rfl ?_;simp only[qah,qan,qad,qaj,qak,qam];repeat (go_big_quiet_step (fail))
      refine wpQuiet_nil ?_;refine qdc 1 rfl ?_;simp only[qah,qan,qad,qaj,qak,qam];repeat (go_big_quiet_step (fail))
      refine wpQuiet_nil ?_;refine qff rfl ?_;intro K hK;have z0:=qau HSw.out.1 (j*2);have z1:=qau HSw.out.1 (j*2+1);go_wp2;refine hK.out _ _ (Fr.from_drew ((((Fr.refl [g] w1).setCell (by simp) _).setCell (by simp) _).drew)) ?_;clear hK K z0 z1;obtain⟨ws1,hws1⟩:∃ws1,ws1=((w1.setCell ⟨g,j*2,none⟩ (.int .i64 (cyw:Nat))).setCell ⟨g,j*2+1,none⟩ (.slice cya cyl cyc)):=⟨_,rfl⟩;rw[<-hws1];have hA1:=qax (o:=j*2+1) (qax (o:=j*2) HSw.out.1 (.int .i64 cyw)) (.slice cya cyl cyc);rw[<-hws1]at hA1;obtain⟨A1,hB⟩:∃A1,A1=(A.setIfInBounds (j*2) (.int .i64 (cyw:Nat))).setIfInBounds (j*2+1) (.slice cya cyl cyc):=⟨_,rfl⟩;rw[<-hB]at hA1;have z0:=qau hA1 (q*2);have z1:=qau hA1 (q*2+1);have c2:ws1.cell? ⟨g,q*2,none⟩=some (.int .i64 cyw):=by rw[cell_of hA1,hB,qaa (by omega),qaa (by omega),<-cell_of HSw.out.1];exact d2
      have c3:ws1.cell? ⟨g,q*2+1,none⟩=some (.slice cya cyl cyc):=by rw[cell_of hA1,hB,qaa (by omega),qaa (by omega),<-cell_of HSw.out.1];exact d3
      have HSy:=zhd3 hA1 hB hws1;clear hA1 hB hws1 d0 d1 d2 d3;refine qdc 1 rfl ?_;simp only[qah,qan,qad,qaj,qak,qam];repeat (go_big_quiet_step (fail))
      refine wpQuiet_nil ?_;refine qff rfl ?_;intro K hK;go_wp2;refine hK.out _ _ (Fr.from_drew ((((Fr.refl [g] ws1).setCell (by simp) _).setCell (by simp) _).drew)) ?_;clear hK K z0 z1 c2 c3;refine qjn ?_;obtain⟨w2,hw2⟩:∃w2,w2=((ws1.setCell ⟨g,q*2,none⟩ (.int .i64 (cxw:Nat))).setCell ⟨g,q*2+1,none⟩ (.slice cxa cxl cxc)):=⟨_,rfl⟩;rw[<-hw2];have HZ:Hid (Dw w2 g T A0 L (swp (rotf f1 j i (i+1)) q j)∧Fr [g] w1 w2):=by obtain⟨hA,hAs,hAn,hAt,hAf,hcx,hcy⟩:=HSw.out;obtain⟨hA1,hB,hws1⟩:=HSy.out;have hA2:=qax (o:=q*2+1) (qax (o:=q*2) hA1 (.int .i64 cxw)) (.slice cxa cxl cxc);rw[hB,<-hw2]at hA2;exact zhd ⟨Dw.swap _ cxw cxa cxl cxc cyw cya cyl cyc hAs hAn hAt hAf hxl hyl hcx hcy hA2,by rw[hw2,hws1];exact ((((Fr.refl [g] w1).setCell (by simp) _).setCell (by simp) _).setCell (by simp) _).setCell (by simp) _⟩
      clear hw2;go_wp2;go_roundg k2;case measure=>have:=HI.out.2.2.2.2.1;omega
      case rel=>
       obtain⟨hp,hr,hD,hf,hjk,hlt⟩:=HI.out;have hj:=HJ.out;refine⟨q,by go_num,by omega,by omega,λ_=>by rw[<-hp,<-hr];exact hpr,?_,?_⟩
       ·have:=HZ.out.1;have e:=qtw f1 i (q+1) (by omega) (by omega);rw[qgz]at e;rw[hj,swp_comm,e]at this;exact this.drew
       ·exact ((hf.drew).trans (H1.out.mono (by simp))).trans HZ.out.2.drew
     ·have g5:decide (((p.worth:Int)-(r.worth:Int))<0)=false:=by simp;omega
      refine qb0 2 rfl ?_;simp only[qah,qan,qad,qaj,qak,qam];repeat (go_big_quiet_step (fail))
      refine wpQuiet_nil ?_;refine qcq ?_;go_wp2;go_roundg k;case measure=>have:=HX.l4;omega
      case rel=>obtain⟨hp,hr,hD,hf,hjk,hlt⟩:=HI.out;have hj:=HJ.out;have hik:=HX.l4;refine⟨i+1,by go_num,by omega,by omega,rotf f1 j i (i+1),by rw[hj];exact hD.drew.fr H1.out,?_,(hf.drew).trans (H1.out.mono (by simp))⟩;rw[qc6 (by omega)];exact HX.o1.trans' (qo8 f1 a i j (by omega) hji HX.o1.srt (λ_=>by rw[show j-1=q from by omega,<-hr,<-hp];omega) (λh=>by rw[hj]at h ⊢;exact hlt h))
    ·have hje:j=a:=by omega
     have HI:=zhd3 hD hf hlt;have g5:decide ((a:Int)<(j:Int))=false:=by simp;omega
     have HJ:=zhd hje;clear hD hf hlt hjk hje;go_upto_region 4 with fail;refine qb3 17 [(false,0),(false,1),(false,2),(false,3),(false,4),(false,5),(false,6),(false,7),(false,8),(false,9),(false,10),(false,11),(false,12),(false,13),(true,14),(false,15),(false,16)] [] (by kernel_rfl) (by kernel_rfl) (λ_ _ d _ _ h=>by cases d<;>exact h) ?_;simp only[qak,qam,qaz,qa0,qad,qaj,qbk];refine qb0 14 rfl ?_;simp only[qah,qan,qad,qaj,qak,qam];repeat (go_big_quiet_step (fail))
     repeat (go_big_quiet_step (fail))
     refine wpQuiet_nil ?_;refine zfa rfl ?_;simp only[Act.put,qbb,qbx,qbq];refine qb0 2 rfl ?_;simp only[qah,qan,qad,qaj,qak,qam];repeat (go_big_quiet_step (fail))
     refine wpQuiet_nil ?_;refine qcq ?_;go_wp2;go_roundg k;case measure=>have:=HX.l4;omega
     case rel=>obtain⟨hD,hf,hlt⟩:=HI.out;have hik:=HX.l4;have hje:=HJ.out;refine⟨i+1,by go_num,by omega,by omega,rotf f1 j i (i+1),hD.drew,?_,hf.drew⟩;rw[qc6 (by omega)];exact HX.o1.trans' (qo8 f1 a i j (by omega) hji HX.o1.srt (λh=>absurd h (by omega)) hlt)
  ·have HI:=zhd3 hD hS hf;have e:min i b=b:=by omega
   rw[e]at hS;clear hD hf e hik;have HS:=zhd hS;clear hS;go_wp2;(try simp only[Exit.inBlock,Exit.then]);refine bodyPost_end (results_none rfl _ _ _) rfl ?_;exact⟨rfl,f1,HI.out.1,HS.out,HI.out.2.2⟩
def SymOk (g:Nat) (T:TypeId) (A0:Array Value) (L cap a m b:Nat) (f:Nat→Mc) (w:World):Prop:=
 Calls Tryz.prog 202 #[.slice (some ⟨g,0,none⟩) L cap,.int .i64 (a:Nat),.int .i64 (m:Nat),.int .i64 (b:Nat),cmpV] w λe w'=>e = .returned (.tuple #[])∧∃f',Dw w' g T A0 L f'∧Sd f f' a b∧Fr [g] w w'
theorem zej (g:Nat) (T:TypeId) (A0:Array Value) (L cap a m b:Nat) (f:Nat→Mc) (w:World)
  (h:Dw w g T A0 L f) (ham:m=a+1) (hmb:m<b) (hbL:b≤L) (hL:L≤100000) (hwb:Wb f) (hB:Srt (sg f m (b-m))):SymOk g T A0 L cap a m b f w:=by
 have H:=zhd4 h ham hmb hB;have e0:(m:Int)-(a:Int)=1:=by omega
 have hab:a<b:=by omega
 clear h hB ham;unfold SymOk cmpV;go_enter Tryz.func202,Tryz.ntmps202;go_upto_block 0 with fail;go_wp2;go_loopg [10,11,12] (b-m) (λk s10 s11 s12 wr=>∃i j:Nat,s10 = .int .i64 (i:Nat)∧s11 = .int .i64 (j:Nat)∧j=i+k∧m≤i∧j≤b∧(m<i→(f (i-1)).worth<(f a).worth)∧(j<b→(f a).worth≤(f j).worth)∧Dw wr g T A0 L f∧Fr [g] w wr);case atStart=>exact⟨m,b,rfl,rfl,by omega,qae _,qae _,λh=>absurd h (by omega),λh=>absurd h (by omega),H.o0,.refl _ w⟩
 case round=>
  obtain⟨i,j,rfl,rfl,hk,h1,h2,h3,h4,hD,hf⟩:=hrel;by_cases hij:i<j
  ·obtain⟨s,hs⟩:=zex (i+j);have e1:(i:Int)+(j:Int)=(s:Int):=by omega
   obtain⟨hh,hhh⟩:=zex (s/2);have e2:(s:Int)/2=(hh:Int):=by omega
   have hhL:hh<L:=by omega
   have hsb:s≤200000:=by omega
   have HI:=zhd6 hk h3 h4 hf hs hhh;clear hk h3 h4 hf hs hhh;have g2:decide ((L:Int)≤(hh:Int))=false:=by simp;omega
   have g4:decide ((L:Int)≤(a:Int))=false:=by simp;omega
   have dd0:=λx=>hD.drew.cellsN (i:=hh) (by omega) x
   have dd1:=λx=>hD.drew.cellsN (i:=a) (by omega) x
   have bb0:=hwb (hh);have bb1:=hwb (a);obtain⟨p,hp⟩:=zex ((f) (hh));obtain⟨r,hr⟩:=zex ((f) (a));rw[<-hp]at bb0 dd0;rw[<-hr]at bb1 dd1;have d00:=λx=>(dd0 x).1
   have d01:=λx=>(dd0 x).2
   have d10:=λx=>(dd1 x).1
   have d11:=λx=>(dd1 x).2
   have HP:=zhd3 hp hr hD;clear hp hr hD dd0 dd1;go_upto_region 5 with fail;refine qb3 11 [(false,0),(false,1),(false,2),(false,3),(false,4),(false,5),(false,6),(false,7),(false,8),(true,9),(false,10)] [] (by kernel_rfl) (by kernel_rfl) (λ_ _ d _ _ h=>by cases d<;>exact h) ?_;simp only[qak,qam,qaz,qa0,qad,qaj,qbk];refine qb0 9 rfl ?_;simp only[qah,qan,qad,qaj,qak,qam];repeat (go_big_quiet_step (fail))
   refine wpQuiet_nil ?_;refine qb6 rfl ?_;intro K hK;go_wp2_with (go_at_call 160;refine (qja p r wr.drew bb0 bb1).mono ?_;rintro e w1 ⟨rfl,hf1⟩);refine hK.out _ _ hf1 ?_;clear hK K d00 d01 d10 d11;have HC:Hid (Dw w1 g T A0 L (f)∧Fr [] wr w1):=zhd ⟨HP.out.2.2.drew.fr hf1,(Fr.drew1 [] wr).trans hf1⟩;clear hf1;clear g2 g4;by_cases hpr:p.worth<r.worth
   ·have g5:decide (((p.worth:Int)-(r.worth:Int))<0)=true:=by simp;omega
    refine qb0 1 rfl ?_;simp only[qah,qan,qad,qaj,qak,qam];repeat (go_big_quiet_step (fail))
    refine wpQuiet_nil ?_;refine qcq ?_;go_wp2;go_roundg (j-(hh+1));case measure=>have:=HI.out.1;have:=HI.out.2.2.2.2;omega
    case rel=>obtain⟨hk,h3,h4,hf,hs,hhh⟩:=HI.out;obtain⟨hp,hr,hD⟩:=HP.out;refine⟨hh+1,j,by go_num,rfl,by omega,by omega,h2,λ_=>by rw[qgz,<-hp,<-hr];exact hpr,h4,HC.out.1,hf.trans (HC.out.2.mono (by simp))⟩
   ·have g5:decide (((p.worth:Int)-(r.worth:Int))<0)=false:=by simp;omega
    refine qb0 1 rfl ?_;simp only[qah,qan,qad,qaj,qak,qam];repeat (go_big_quiet_step (fail))
    refine wpQuiet_nil ?_;refine qcq ?_;go_wp2;go_roundg (hh-i);case measure=>have:=HI.out.1;have:=HI.out.2.2.2.2;omega
    case rel=>obtain⟨hk,h3,h4,hf,hs,hhh⟩:=HI.out;obtain⟨hp,hr,hD⟩:=HP.out;refine⟨i,hh,rfl,rfl,by omega,h1,by omega,h3,λ_=>by rw[<-hp,<-hr];omega,HC.out.1,hf.trans (HC.out.2.mono (by simp))⟩
  ·obtain rfl:i=j:=by omega
   have HI:=zhd4 h3 h4 hD hf;clear h3 h4 hD hf hk;obtain⟨q,hq⟩:=zex (i-1);have e1:(i:Int)-1=(q:Int):=by omega
   have ham:m=a+1:=H.o1;have hqa:a≤q:=by omega
   have hqi:i=q+1:=by omega
   clear ham;have HQ:=zhd2 hq hqi;clear hq hqi;go_wp2;go_loopg [13] (q-a) (λk s13 wr=>∃t:Nat,s13 = .int .i64 (t:Nat)∧t+k=q∧a≤t∧Dw wr g T A0 L (rotf f a (a+1) (t+1))∧Fr [g] w wr);case atStart=>exact⟨a,rfl,by omega,qae _,by rw[qgu f a (a+1) (a+1) (by omega) (qae _) (.inr rfl)];exact HI.out.2.2.1,HI.out.2.2.2⟩
   case round=>
    obtain⟨t,rfl,htk,hat,hD,hf⟩:=hrel;by_cases ht:t<q
    ·obtain⟨k2,rfl⟩:∃k2,gk=k2+1:=⟨gk-1,by omega⟩;obtain⟨wo,rfl⟩:∃wo:World,wo=wr:=⟨_,rfl⟩;obtain⟨y,hy⟩:=zex (t+1);have e2:(t:Int)+1=(y:Int):=by omega
     have hqL:q<L:=by have:=HQ.out.2;omega
     have hxl:t<L:=by omega
     have hyl:y<L:=by omega
     have hxy:t≠y:=by omega
     have g2:decide ((L:Int)≤(t:Int))=false:=by simp;omega
     have g4:decide ((L:Int)≤(y:Int))=false:=by simp;omega
     have HJ:=zhd3 hf htk hy;clear hf htk hy;obtain⟨A,hA,hAs,hAn,hAt,hAf⟩:=hD;have X:=hAf t hxl;have Y:=hAf y hyl;obtain⟨cx,hcx⟩:=zex ((rotf f a (a+1) (t+1)) t);obtain⟨cy,hcy⟩:=zex ((rotf f a (a+1) (t+1)) y);rw[<-hcx]at X;rw[<-hcy]at Y;obtain⟨cxw,cxa,cxl,cxc⟩:=cx;obtain⟨cyw,cya,cyl,cyc⟩:=cy;have d0:=(cell_of hA (t*2)).trans X.1;have d1:=(cell_of hA (t*2+1)).trans X.2;have d2:=(cell_of hA (y*2)).trans Y.1;have d3:=(cell_of hA (y*2+1)).trans Y.2;simp only at d0 d1 d2 d3;have HSw:=zhd7 hA hAs hAn hAt hAf hcx hcy;clear hA hAs hAn hAt hAf hcx hcy X Y;go_upto_region 11 with fail;refine qf3 [(0,0),(0,1),(0,2),(0,3),(0,4),(0,5),(0,6),(0,7),(0,8),(1,9),(0,10),(0,11),(0,12),(1,13),(0,14),(2,15),(0,16),(2,17)] [g] [15,17] (by kernel_rfl) (by kernel_rfl) (λ_ _ d _ _ h=>by cases d<;>exact h) ?_;simp only[qak,qam,qaz,qa0];refine qdc 9 rfl ?_;simp only[qah,qan,qad,qaj,qak,qam];repeat (go_big_quiet_step (fail))
     refine wpQuiet_nil ?_;refine qd3 1 rfl ?_;simp only[qah,qan,qad,qaj,qak,qam];repeat (go_big_quiet_step (fail))
     refine wpQuiet_nil ?_;refine qdc 3 rfl ?_;simp only[qah,qan,qad,qaj,qak,qam];repeat (go_big_quiet_step (fail))
     refine wpQuiet_nil ?_;refine qd3 1 rfl ?_;simp only[qah,qan,qad,qaj,qak,qam];repeat (go_big_quiet_step (fail))
     refine wpQuiet_nil ?_;refine qdc 1 rfl ?_;simp only[qah,qan,qad,qaj,qak,qam];repeat (go_big_quiet_step (fail))
     refine wpQuiet_nil ?_;refine qff rfl ?_;intro K hK;have z0:=qau HSw.out.1 (t*2);have z1:=qau HSw.out.1 (t*2+1);go_wp2;refine hK.out _ _ (Fr.from_drew ((((Fr.refl [g] wo).setCell (by simp) _).setCell (by simp) _).drew)) ?_;clear hK K z0 z1;obtain⟨ws1,hws1⟩:∃ws1,ws1=((wo.setCell ⟨g,t*2,none⟩ (.int .i64 (cyw:Nat))).setCell ⟨g,t*2+1,none⟩ (.slice cya cyl cyc)):=⟨_,rfl⟩;rw[<-hws1];have hA1:=qax (o:=t*2+1) (qax (o:=t*2) HSw.out.1 (.int .i64 cyw)) (.slice cya cyl cyc);rw[<-hws1]at hA1;obtain⟨A1,hB⟩:∃A1,A1=(A.setIfInBounds (t*2) (.int .i64 (cyw:Nat))).setIfInBounds (t*2+1) (.slice cya cyl cyc):=⟨_,rfl⟩;rw[<-hB]at hA1;have z0:=qau hA1 (y*2);have z1:=qau hA1 (y*2+1);have c2:ws1.cell? ⟨g,y*2,none⟩=some (.int .i64 cyw):=by rw[cell_of hA1,hB,qaa (by omega),qaa (by omega),<-cell_of HSw.out.1];exact d2
     have c3:ws1.cell? ⟨g,y*2+1,none⟩=some (.slice cya cyl cyc):=by rw[cell_of hA1,hB,qaa (by omega),qaa (by omega),<-cell_of HSw.out.1];exact d3
     have HSy:=zhd3 hA1 hB hws1;clear hA1 hB hws1 d0 d1 d2 d3;refine qdc 1 rfl ?_;simp only[qah,qan,qad,qaj,qak,qam];repeat (go_big_quiet_step (fail))
     refine wpQuiet_nil ?_;refine qff rfl ?_;intro K hK;go_wp2;refine hK.out _ _ (Fr.from_drew ((((Fr.refl [g] ws1).setCell (by simp) _).setCell (by simp) _).drew)) ?_;clear hK K z0 z1 c2 c3;refine qjn ?_;obtain⟨w2,hw2⟩:∃w2,w2=((ws1.setCell ⟨g,y*2,none⟩ (.int .i64 (cxw:Nat))).setCell ⟨g,y*2+1,none⟩ (.slice cxa cxl cxc)):=⟨_,rfl⟩;rw[<-hw2];have HZ:Hid (Dw w2 g T A0 L (swp (rotf f a (a+1) (t+1)) y t)∧Fr [g] wo w2):=by obtain⟨hA,hAs,hAn,hAt,hAf,hcx,hcy⟩:=HSw.out;obtain⟨hA1,hB,hws1⟩:=HSy.out;have hA2:=qax (o:=y*2+1) (qax (o:=y*2) hA1 (.int .i64 cxw)) (.slice cxa cxl cxc);rw[hB,<-hw2]at hA2;exact zhd ⟨Dw.swap _ cxw cxa cxl cxc cyw cya cyl cyc hAs hAn hAt hAf hxl hyl hcx hcy hA2,by rw[hw2,hws1];exact ((((Fr.refl [g] wo).setCell (by simp) _).setCell (by simp) _).setCell (by simp) _).setCell (by simp) _⟩
     clear hw2;clear g2 g4;go_wp2;go_roundg k2;case measure=>have:=HJ.out.2.1;omega
     case rel=>obtain⟨hf,htk,hy⟩:=HJ.out;refine⟨y,by go_num,by omega,by omega,?_,hf.trans HZ.out.2.drew⟩;have:=HZ.out.1;rw[hy,swp_comm,zf5 f a t hat]at this;rw[hy];exact this.drew
    ·obtain rfl:t=q:=by omega
     have HJ:=zhd2 hD hf;clear hD hf htk;go_wp2;(try simp only[Exit.inBlock,Exit.then]);refine bodyPost_ret (results_none rfl _ _ _) rfl ?_;obtain⟨hq,hqi⟩:=HQ.out;refine⟨rfl,_,HJ.out.1,?_,HJ.out.2⟩;rw[<-hqi];have ham:m=a+1:=H.o1;exact zeo f a i b (by omega) h2 (by have:=H.l3;rw[ham]at this;exact this) (λh=>HI.out.1 (by omega)) (λh=>HI.out.2.1 h)
theorem zei (g:Nat) (T:TypeId) (A0:Array Value) (L cap a m b:Nat) (f:Nat→Mc) (w:World)
  (h:Dw w g T A0 L f) (ham:a<m) (hne:m≠a+1) (hmb:b=m+1) (hbL:b≤L) (hL:L≤100000) (hwb:Wb f) (hA:Srt (sg f a (m-a))):SymOk g T A0 L cap a m b f w:=by
 have H:=zhd4 h ham hmb hA;have e00:(((m:Int)-(a:Int))==1)=false:=by simp only[beq_eq_false_iff_ne];omega
 have e0:(b:Int)-(m:Int)=1:=by omega
 have hab:a<b:=by omega
 have hmL:m<L:=by omega
 clear h hA hmb hne;unfold SymOk cmpV;go_enter Tryz.func202,Tryz.ntmps202;go_upto_block 4 with fail;go_wp2;go_loopg [14,15,16] (m-a) (λk s14 s15 s16 wr=>∃i j:Nat,s14 = .int .i64 (i:Nat)∧s15 = .int .i64 (j:Nat)∧j=i+k∧a≤i∧j≤m∧(a<i→(f (i-1)).worth≤(f m).worth)∧(j<m→(f m).worth<(f j).worth)∧Dw wr g T A0 L f∧Fr [g] w wr);case atStart=>exact⟨a,m,rfl,rfl,by omega,qae _,qae _,λh=>absurd h (by omega),λh=>absurd h (by omega),H.o0,.refl _ w⟩
 case round=>
  obtain⟨i,j,rfl,rfl,hk,h1,h2,h3,h4,hD,hf⟩:=hrel;by_cases hij:i<j
  ·obtain⟨s,hs⟩:=zex (i+j);have e1:(i:Int)+(j:Int)=(s:Int):=by omega
   obtain⟨hh,hhh⟩:=zex (s/2);have e2:(s:Int)/2=(hh:Int):=by omega
   have hhL:hh<L:=by omega
   have hsb:s≤200000:=by omega
   have HI:=zhd6 hk h3 h4 hf hs hhh;clear hk h3 h4 hf hs hhh;have g2:decide ((L:Int)≤(hh:Int))=false:=by simp;omega
   have g4:decide ((L:Int)≤(m:Int))=false:=by simp;omega
   have dd0:=λx=>hD.drew.cellsN (i:=m) (by omega) x
   have dd1:=λx=>hD.drew.cellsN (i:=hh) (by omega) x
   have bb0:=hwb (m);have bb1:=hwb (hh);obtain⟨p,hp⟩:=zex ((f) (m));obtain⟨r,hr⟩:=zex ((f) (hh));rw[<-hp]at bb0 dd0;rw[<-hr]at bb1 dd1;have d00:=λx=>(dd0 x).1
   have d01:=λx=>(dd0 x).2
   have d10:=λx=>(dd1 x).1
   have d11:=λx=>(dd1 x).2
   have HP:=zhd3 hp hr hD;clear hp hr hD dd0 dd1;go_upto_region 17 with fail;refine qb3 12 [(false,0),(false,1),(false,2),(false,3),(false,4),(false,5),(false,6),(false,7),(false,8),(true,9),(false,10),(false,11)] [] (by kernel_rfl) (by kernel_rfl) (λ_ _ d _ _ h=>by cases d<;>exact h) ?_;simp only[qak,qam,qaz,qa0,qad,qaj,qbk];refine qb0 9 rfl ?_;simp only[qah,qan,qad,qaj,qak,qam];repeat (go_big_quiet_step (fail))
   refine wpQuiet_nil ?_;refine qb6 rfl ?_;intro K hK;go_wp2_with (go_at_call 160;refine (qja p r wr.drew bb0 bb1).mono ?_;rintro e w1 ⟨rfl,hf1⟩);refine hK.out _ _ hf1 ?_;clear hK K d00 d01 d10 d11;have HC:Hid (Dw w1 g T A0 L (f)∧Fr [] wr w1):=zhd ⟨HP.out.2.2.drew.fr hf1,(Fr.drew1 [] wr).trans hf1⟩;clear hf1;clear g2 g4;by_cases hpr:p.worth<r.worth
   ·have g5:decide (((p.worth:Int)-(r.worth:Int))<0)=true:=by simp;omega
    refine qb0 2 rfl ?_;simp only[qah,qan,qad,qaj,qak,qam];repeat (go_big_quiet_step (fail))
    refine wpQuiet_nil ?_;refine qcq ?_;go_wp2;go_roundg (hh-i);case measure=>have:=HI.out.1;have:=HI.out.2.2.2.2;omega
    case rel=>obtain⟨hk,h3,h4,hf,hs,hhh⟩:=HI.out;obtain⟨hp,hr,hD⟩:=HP.out;refine⟨i,hh,rfl,rfl,by omega,h1,by omega,h3,λ_=>by rw[<-hp,<-hr];exact hpr,HC.out.1,hf.trans (HC.out.2.mono (by simp))⟩
   ·have g5:decide (((p.worth:Int)-(r.worth:Int))<0)=false:=by simp;omega
    refine qb0 2 rfl ?_;simp only[qah,qan,qad,qaj,qak,qam];repeat (go_big_quiet_step (fail))
    refine wpQuiet_nil ?_;refine qcq ?_;go_wp2;go_roundg (j-(hh+1));case measure=>have:=HI.out.1;have:=HI.out.2.2.2.2;omega
    case rel=>obtain⟨hk,h3,h4,hf,hs,hhh⟩:=HI.out;obtain⟨hp,hr,hD⟩:=HP.out;refine⟨hh+1,j,by go_num,rfl,by omega,by omega,h2,λ_=>by rw[qgz,<-hp,<-hr];omega,h4,HC.out.1,hf.trans (HC.out.2.mono (by simp))⟩
  ·obtain rfl:i=j:=by omega
   have HI:=zhd4 h3 h4 hD hf;clear h3 h4 hD hf hk;go_wp2;go_loopg [17] (m-i) (λk s17 wr=>∃t:Nat,s17 = .int .i64 (t:Nat)∧t=i+k∧t≤m∧Dw wr g T A0 L (rotf f t m (m+1))∧Fr [g] w wr);case atStart=>exact⟨m,rfl,by omega,qae _,by rw[qgu f m m (m+1) (by omega) (by omega) (.inl rfl)];exact HI.out.2.2.1,HI.out.2.2.2⟩
   case round=>
    obtain⟨t,rfl,htk,htm,hD,hf⟩:=hrel;by_cases ht:i<t
    ·obtain⟨k2,rfl⟩:∃k2,gk=k2+1:=⟨gk-1,by omega⟩;obtain⟨wo,rfl⟩:∃wo:World,wo=wr:=⟨_,rfl⟩;obtain⟨y,hy⟩:=zex (t-1);have e2:(t:Int)-1=(y:Int):=by omega
     have hxl:t<L:=by omega
     have hyl:y<L:=by omega
     have hxy:t≠y:=by omega
     have g2:decide ((L:Int)≤(t:Int))=false:=by simp;omega
     have g4:decide ((L:Int)≤(y:Int))=false:=by simp;omega
     have HJ:=zhd3 hf htk hy;clear hf htk hy;obtain⟨A,hA,hAs,hAn,hAt,hAf⟩:=hD;have X:=hAf t hxl;have Y:=hAf y hyl;obtain⟨cx,hcx⟩:=zex ((rotf f t m (m+1)) t);obtain⟨cy,hcy⟩:=zex ((rotf f t m (m+1)) y);rw[<-hcx]at X;rw[<-hcy]at Y;obtain⟨cxw,cxa,cxl,cxc⟩:=cx;obtain⟨cyw,cya,cyl,cyc⟩:=cy;have d0:=(cell_of hA (t*2)).trans X.1;have d1:=(cell_of hA (t*2+1)).trans X.2;have d2:=(cell_of hA (y*2)).trans Y.1;have d3:=(cell_of hA (y*2+1)).trans Y.2;simp only at d0 d1 d2 d3;have HSw:=zhd7 hA hAs hAn hAt hAf hcx hcy;clear hA hAs hAn hAt hAf hcx hcy X Y;go_upto_region 23 with fail;refine qf3 [(0,0),(0,1),(0,2),(0,3),(0,4),(0,5),(0,6),(0,7),(0,8),(1,9),(0,10),(0,11),(0,12),(1,13),(0,14),(2,15),(0,16),(2,17)] [g] [15,17] (by kernel_rfl) (by kernel_rfl) (λ_ _ d _ _ h=>by cases d<;>exact h) ?_;simp only[qak,qam,qaz,qa0];refine qdc 9 rfl ?_;simp only[qah,qan,qad,qaj,qak,qam];repeat (go_big_quiet_step (fail))
     refine wpQuiet_nil ?_;refine qd3 1 rfl ?_;simp only[qah,qan,qad,qaj,qak,qam];repeat (go_big_quiet_step (fail))
     refine wpQuiet_nil ?_;refine qdc 3 rfl ?_;simp only[qah,qan,qad,qaj,qak,qam];repeat (go_big_quiet_step (fail))
     refine wpQuiet_nil ?_;refine qd3 1 rfl ?_;simp only[qah,qan,qad,qaj,qak,qam];repeat (go_big_quiet_step (fail))
     refine wpQuiet_nil ?_;refine qdc 1 rfl ?_;simp only[qah,qan,qad,qaj,qak,qam];repeat (go_big_quiet_step (fail))
     refine wpQuiet_nil ?_;refine qff rfl ?_;intro K hK;have z0:=qau HSw.out.1 (t*2);have z1:=qau HSw.out.1 (t*2+1);go_wp2;refine hK.out _ _ (Fr.from_drew ((((Fr.refl [g] wo).setCell (by simp) _).setCell (by simp) _).drew)) ?_;clear hK K z0 z1;obtain⟨ws1,hws1⟩:∃ws1,ws1=((wo.setCell ⟨g,t*2,none⟩ (.int .i64 (cyw:Nat))).setCell ⟨g,t*2+1,none⟩ (.slice cya cyl cyc)):=⟨_,rfl⟩;rw[<-hws1];have hA1:=qax (o:=t*2+1) (qax (o:=t*2) HSw.out.1 (.int .i64 cyw)) (.slice cya cyl cyc);rw[<-hws1]at hA1;obtain⟨A1,hB⟩:∃A1,A1=(A.setIfInBounds (t*2) (.int .i64 (cyw:Nat))).setIfInBounds (t*2+1) (.slice cya cyl cyc):=⟨_,rfl⟩;rw[<-hB]at hA1;have z0:=qau hA1 (y*2);have z1:=qau hA1 (y*2+1);have c2:ws1.cell? ⟨g,y*2,none⟩=some (.int .i64 cyw):=by rw[cell_of hA1,hB,qaa (by omega),qaa (by omega),<-cell_of HSw.out.1];exact d2
     have c3:ws1.cell? ⟨g,y*2+1,none⟩=some (.slice cya cyl cyc):=by rw[cell_of hA1,hB,qaa (by omega),qaa (by omega),<-cell_of HSw.out.1];exact d3
     have HSy:=zhd3 hA1 hB hws1;clear hA1 hB hws1 d0 d1 d2 d3;refine qdc 1 rfl ?_;simp only[qah,qan,qad,qaj,qak,qam];repeat (go_big_quiet_step (fail))
     refine wpQuiet_nil ?_;refine qff rfl ?_;intro K hK;go_wp2;refine hK.out _ _ (Fr.from_drew ((((Fr.refl [g] ws1).setCell (by simp) _).setCell (by simp) _).drew)) ?_;clear hK K z0 z1 c2 c3;refine qjn ?_;obtain⟨w2,hw2⟩:∃w2,w2=((ws1.setCell ⟨g,y*2,none⟩ (.int .i64 (cxw:Nat))).setCell ⟨g,y*2+1,none⟩ (.slice cxa cxl cxc)):=⟨_,rfl⟩;rw[<-hw2];have HZ:Hid (Dw w2 g T A0 L (swp (rotf f t m (m+1)) y t)∧Fr [g] wo w2):=by obtain⟨hA,hAs,hAn,hAt,hAf,hcx,hcy⟩:=HSw.out;obtain⟨hA1,hB,hws1⟩:=HSy.out;have hA2:=qax (o:=y*2+1) (qax (o:=y*2) hA1 (.int .i64 cxw)) (.slice cxa cxl cxc);rw[hB,<-hw2]at hA2;exact zhd ⟨Dw.swap _ cxw cxa cxl cxc cyw cya cyl cyc hAs hAn hAt hAf hxl hyl hcx hcy hA2,by rw[hw2,hws1];exact ((((Fr.refl [g] wo).setCell (by simp) _).setCell (by simp) _).setCell (by simp) _).setCell (by simp) _⟩
     clear hw2;clear g2 g4;go_wp2;go_roundg k2;case measure=>have:=HJ.out.2.1;omega
     case rel=>obtain⟨hf,htk,hy⟩:=HJ.out;refine⟨y,by go_num,by omega,by omega,?_,hf.trans HZ.out.2.drew⟩;have:=HZ.out.1;rw[hy,swp_comm,qtw f m t (by omega) htm]at this;rw[hy];exact this.drew
    ·obtain rfl:t=i:=by omega
     have HJ:=zhd2 hD hf;clear hD hf htk;go_wp2;(try simp only[Exit.inBlock,Exit.then]);refine bodyPost_ret (results_none rfl _ _ _) rfl ?_;refine⟨rfl,_,HJ.out.1,?_,HJ.out.2⟩;have hmb:b=m+1:=H.o2;rw[hmb];exact qo8 f a m t h1 htm H.l3 (λh=>HI.out.1 h) (λh=>HI.out.2.1 h)
end Go.Proofs.YtkmpfgpfbmeihaaGreatDoor.huf
