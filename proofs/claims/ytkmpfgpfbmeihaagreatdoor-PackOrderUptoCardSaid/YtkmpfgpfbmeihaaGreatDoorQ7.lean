/-
  Texts of this proof, one behind the other: HuffKr, HuffStab, MixE, SortA, SortP, SortB, SortC.
-/
import Derived.Test.YtkmpfgpfbmeihaaGreatDoorQ6
set_option maxHeartbeats 16000000
set_option maxRecDepth 100000
set_option linter.unusedVariables false
set_option linter.unusedSimpArgs false
namespace Go.Proofs.YtkmpfgpfbmeihaaGreatDoor
namespace huf
open Go
theorem Ed:∀l:List aF,(aC l).length=l.length/2
 | []=>rfl
 | [x]=>by simp[aC]
 | x::y::t=>by rw[aC,bU,Ed t];simp only[bU];omega
theorem DZ:∀(l:List aF) (j:Nat) (y:aF),(aC l)[j]?=some y->∃u v,l[2*j]?=some u/\l[2*j+1]?=some v/\y=(u.1+v.1,u.2++v.2)
 | [],j,y,h=>by simp[aC]at h
 | [x],j,y,h=>by simp[aC]at h
 | x::z::t,0,y,h=>by
  simp only[aC,aT,eJ]at h;exact⟨x,z,rfl,rfl,h.symm⟩
 | x::z::t,j+1,y,h=>by rw[aC,bP]at h;obtain⟨u,v,h1,h2,h3⟩:=DZ t j y h;exact⟨u,v,by rw[show 2*(j+1)=2*j+1+1 from by omega];exact h1,by rw[show 2*(j+1)+1=2*j+1+1+1 from by omega];exact h2,h3⟩
theorem Xc {l:List aF} (h:Sorted l) {i j:Nat} {x y:aF} (hi:l[i]?=some x) (hj:l[j]?=some y) (mO:i<=j):x.1<=y.1:=by
 obtain⟨h1,rfl⟩:=jq.1 hi;obtain⟨h2,rfl⟩:=jq.1 hj;by_cases e:i=j
 ·subst e;exact ay _
 ·exact Ec.1 h i j h1 h2 (by omega)
theorem qlr (l:List aF) (h:Sorted l):Sorted (aC l):=by
 refine Ec.2 λi j hi hj mO=>?_
 obtain⟨u,v,h1,h2,h3⟩:=DZ l i _ (br hi);obtain⟨u',v',k1,k2,k3⟩:=DZ l j _ (br hj);rw[h3,k3];have a1:=Xc h h1 k1 (by omega);have a2:=Xc h h2 k2 (by omega);simp only;omega
theorem Wq:∀(l:List aF) (p:Nat),p<=(aC l).length->((aC l).take p).flatMap (·.2)=(l.take (2*p)).flatMap (·.2)
 | l,0,_=>by simp
 | [],p+1,h=>by simp[aC]at h
 | [x],p+1,h=>by simp[aC]at h
 | x::y::t,p+1,h=>by rw[aC,show 2*(p+1)=2*p+1+1 from by omega];simp only[qs,vX,eE];rw[Wq t p (by rw[aC,bU]at h;omega)]
def Pos (l:List aF):Prop:=∀x∈l,0<x.1
theorem qyw (l:List aF) (h:Pos l):Pos (aC l):=by intro y hy;obtain⟨j,hj⟩:=List.getElem?_of_mem hy;obtain⟨u,v,h1,h2,rfl⟩:=DZ l j y hj;have:=h u (gB h1);simp only;omega
theorem Vs (a b:List aF) (z:aF) (hz:z∈mY a b):z∈a\/z∈b:=by
 have h1:=FK a b (mY a b).length;rw[mL (ay _)]at h1;rcases jw.1 (h1.mem_iff.1 hz) with k|k
 ·exact .inl (uM k)
 ·exact .inr (uM k)
def row (l:List aF):Nat->List aF
 | 0=>[]
 | k+1=>mY l (aC (row l k))
theorem Xa (l:List aF) (h:Sorted l):∀k,Sorted (row l k)
 | 0=>List.Pairwise.nil
 | k+1=>SE l _ h (qlr _ (Xa l h k))
theorem VH (l:List aF) (h:Pos l):∀k,Pos (row l k)
 | 0=>by intro x hx;cases hx
 | k+1=>by
  intro x hx;rcases Vs _ _ x hx with hx|hx
  ·exact h x hx
  ·exact qyw _ (VH l h k) x hx
theorem W9 (l:List aF) (k:Nat):(row l (k+1)).length=l.length+(row l k).length/2:=by rw[row,Bj,Ed]
theorem qyi (l:List aF) (L:Nat) (hn:l.length<=2^L):∀k,k<=L->2*l.length<=(row l (k+1)).length+2^(L-k)
 | 0,_=>by
  rw[W9,DT];show 2*l.length<=l.length+0/2+2^L;omega
 | k+1,h=>by
  have ih:=qyi l L hn k (by omega);rw[W9];have e:2^(L-k)=2*2^(L-(k+1)):=by rw[show L-k=L-(k+1)+1 from by omega,pH,mf]
  omega
def sl (l:List aF) (k m:Nat):Nat×Nat:=kZ l (aC (row l k)) m
def ik (l:List aF):Nat->Nat->Nat->Nat
 | 0,_,_=>0
 | k+1,m,i=>(if i<(sl l k m).1 then 1 else 0)+ik l k (2*(sl l k m).2) i
theorem Vq (l:List aF):∀k m i,ik l k m i<=k
 | 0,_,_=>ay _
 | k+1,m,i=>by have:=Vq l k (2*(sl l k m).2) i;rw[ik];split<;>omega
theorem qlm {l:List aF} {m:Nat} {x:aF} (h:x∈l.take m):∃t,t<m/\l[t]?=some x:=by
 obtain⟨t,ht⟩:=List.getElem?_of_mem h;rw[oX]at ht;split at ht
 ·exact⟨t,by assumption,ht⟩
 ·cases ht
theorem Xr {l:List aF} {m t:Nat} {x:aF} (h:l[t]?=some x) (ht:t<m):x∈l.take m:=by refine gB (i:=t) ?_;rw[oX,if_pos ht,h]
theorem zf8 (l:List aF) (hs:Sorted l) (hp:Pos l) (k m i:Nat) (hm:m<=(row l (k+2)).length) (h:i<(sl l k (2*(sl l (k+1) m).2)).1):i<(sl l (k+1) m).1:=by
 have jB:m<=l.length+(aC (row l (k+1))).length:=by rw[row,Bj]at hm;exact hm
 obtain⟨_,_,AA⟩:=C4 l (aC (row l (k+1))) m jB;change (sl l (k+1) m).2<=_ at AA;rw[Ed]at AA;generalize hP:(sl l (k+1) m).2=P at *;have hr:2*P<=l.length+(aC (row l k)).length:=by
  have:(row l (k+1)).length=l.length+(aC (row l k)).length:=by rw[row,Bj]
  omega
 obtain⟨_,ha,_⟩:=C4 l (aC (row l k)) (2*P) hr;change (sl l k (2*P)).1<=_ at ha;have eO:i<l.length:=by omega
 have hx:l[i]?=some l[i]:=br eO;have gy:l[i]∈(row l (k+1)).take (2*P):=by have h1:=FK l (aC (row l k)) (2*P);rw[show mY l (aC (row l k))=row l (k+1) from rfl]at h1;exact h1.mem_iff.2 (jw.2 (.inl (Xr hx h)))
 obtain⟨t,ht,Tt⟩:=qlm gy;have hj:t/2<(aC (row l (k+1))).length:=by rw[Ed];omega
 obtain⟨u,v,h1,h2,h3⟩:=DZ _ _ _ (br hj);have iu:=VH l hp (k+1);have hu:=iu u (gB h1);have hv:=iu v (gB h2);have bg:l[i].1<((aC (row l (k+1)))[t/2]).1:=by
  rw[h3];simp only;rcases (show t=2*(t/2)\/t=2*(t/2)+1 from by omega) with e|e
  ·rw[e,h1]at Tt;rw[<-lA Tt];omega
  ·rw[e,h2]at Tt;rw[<-lA Tt];omega
 exact WU l (aC (row l (k+1))) m i (t/2) l[i] _ hs hx (br hj) bg (by
  change t/2<(sl l (k+1) m).2
  rw[hP]
  omega)
theorem qru (l:List aF) (hs:Sorted l) (hp:Pos l):∀k m i,m<=(row l (k+1)).length->(sl l k m).1<=i->ik l (k+1) m i=0
 | 0,m,i,_,h=>by rw[ik,if_neg (by omega),ik]
 | k+1,m,i,hm,h=>by
  have jB:m<=l.length+(aC (row l (k+1))).length:=by rw[row,Bj]at hm;exact hm
  obtain⟨_,_,AA⟩:=C4 l (aC (row l (k+1))) m jB;change (sl l (k+1) m).2<=_ at AA;rw[Ed]at AA;rw[ik,if_neg (by omega),ft];refine qru l hs hp k _ i (by omega) ?_;rcases kI i (sl l k (2*(sl l (k+1) m).2)).1 with hc|hc
  ·have:=zf8 l hs hp k m i hm hc;omega
  ·exact hc
def cS:Nat->(Nat->Nat)->Nat
 | 0,_=>0
 | n+1,f=>cS n f+f n
theorem Xo {f g:Nat->Nat}:∀n,(∀i,i<n->f i=g i)->cS n f=cS n g
 | 0,_=>rfl
 | n+1,h=>by rw[cS,cS,Xo n λi hi=>h i (by omega),h n (by omega)]
theorem qmx (f:Nat->Nat) (c a:Nat):∀n,cS n (λi=>if i<a then f i else f i+c)=cS n f+(n-a)*c
 | 0=>by simp[cS]
 | n+1=>by
  rw[cS,cS,qmx f c a n];by_cases h:n<a
  ·rw[if_pos h,show n+1-a=0 from by omega,show n-a=0 from by omega];omega
  ·rw[if_neg h,show n+1-a=n-a+1 from by omega,oV,DQ];omega
theorem qvj (l:List aF) (hs:Sorted l) (hp:Pos l):∀k m,m<=(row l k).length->2*cS l.length (λi=>2^(k-ik l k m i))+m*2^k=2*(l.length*2^k)
 | 0,m,hm=>by
  have:m=0:=by simpa[row] using hm
  subst this;have e:∀n,cS n (λi=>2^(0-ik l 0 0 i))=n:=λn=>by
   induction n with
   | zero=>rfl
   | succ n ih=>rw[cS,ih];simp
  rw[e];omega
 | k+1,m,hm=>by
  have jB:m<=l.length+(aC (row l k)).length:=by rw[row,Bj]at hm;exact hm
  obtain⟨h1,h2,h3⟩:=C4 l (aC (row l k)) m jB;change (sl l k m).1+(sl l k m).2=m at h1;change (sl l k m).1<=_ at h2;change (sl l k m).2<=_ at h3;rw[Ed]at h3;have ih:=qvj l hs hp k (2*(sl l k m).2) (by omega);have nu:cS l.length (λi=>2^(k+1-ik l (k+1) m i))=cS l.length (λi=>if i<(sl l k m).1 then 2^(k-ik l k (2*(sl l k m).2) i) else 2^(k-ik l k (2*(sl l k m).2) i)+2^k):=by
   refine Xo _ λi _=>?_
   by_cases hi:i<(sl l k m).1
   ·rw[if_pos hi,ik,if_pos hi];congr 1;omega
   ·have hz:=qru l hs hp k m i hm (by omega);have mv:=hz;rw[ik,if_neg hi,ft]at mv;rw[if_neg hi,hz,mv,DT,DT,pH];omega
  rw[nu,qmx];generalize cS l.length (λi=>2^(k-ik l k (2*(sl l k m).2) i))=S at *;generalize (sl l k m).1=a at *;generalize (sl l k m).2=p at *;obtain⟨q,hq⟩:∃q,l.length=a+q:=⟨l.length-a,by omega⟩;rw[hq]at ih ⊢;rw[show a+q-a=q from by omega,<-h1,pH];generalize 2^k=P at *;simp only[oV,Ba]at ih ⊢;have e1:2*p*P=2*(p*P):=uk _ _ _;have e2:a*(P*2)=2*(a*P):=by rw[<-uk,mf]
  have e3:p*(P*2)=2*(p*P):=by rw[<-uk,mf]
  have e4:q*(P*2)=2*(q*P):=by rw[<-uk,mf]
  omega
theorem qvc (l:List aF) (hs:Sorted l) (hp:Pos l) (X:aF) (hn:2<=l.length) (hX:l[l.length-1]?=some X):∀k y,(aC (row l k))[l.length-2]?=some y->X.1<=y.1
 | 0,y,h=>by simp[row,aC]at h
 | k+1,y,h=>by
  rcases kI y.1 X.1 with hc|hc
  ·exfalso;obtain⟨u,v,h1,h2,rfl⟩:=DZ _ _ _ h;have hu:=VH l hp (k+1) u (gB h1);simp only at hc;have hvX:v.1<X.1:=by omega
   have hlen:2*(l.length-2)+1<(row l (k+1)).length:=(jq.1 h2).1;have BH:∀z∈(row l (k+1)).take (2*l.length-2),z.1<=v.1:=λz hz=>by obtain⟨t,ht,Ts⟩:=qlm hz;exact Xc (Xa l hs (k+1)) Ts h2 (by omega)
   have BQ:=FK l (aC (row l k)) (2*l.length-2);rw[show mY l (aC (row l k))=row l (k+1) from rfl]at BQ;have rB:(row l (k+1)).length=l.length+(aC (row l k)).length:=by rw[row,Bj]
   obtain⟨s1,s2,s3⟩:=C4 l (aC (row l k)) (2*l.length-2) (by omega);have ha:(kZ l (aC (row l k)) (2*l.length-2)).1<=l.length-1:=by
    rcases kI (l.length-1) (kZ l (aC (row l k)) (2*l.length-2)).1 with jD|jD
    ·have:=BH X (BQ.mem_iff.2 (jw.2 (.inl (Xr hX jD))));omega
    ·exact jD
   have hj:l.length-2<(aC (row l k)).length:=by omega
   have hy':=br hj;have h3:=qvc l hs hp X hn hX k _ hy';have h4:=BH _ (BQ.mem_iff.2 (jw.2 (.inr (Xr hy' (show l.length-2<_ by omega)))));omega
  ·exact hc
theorem zbs (l:List aF) (hs:Sorted l) (hp:Pos l) (k:Nat) (hn:2<=l.length) (hm:2*l.length-2<=(row l (k+1)).length):(sl l k (2*l.length-2)).1=l.length:=by
 have hX:l[l.length-1]?=some l[l.length-1]:=br (by omega);have rB:(row l (k+1)).length=l.length+(aC (row l k)).length:=by rw[row,Bj]
 obtain⟨s1,s2,s3⟩:=C4 l (aC (row l k)) (2*l.length-2) (by omega);unfold sl;rcases kI (kZ l (aC (row l k)) (2*l.length-2)).1 l.length with hc|hc
 ·exfalso;have hj:l.length-2<(aC (row l k)).length:=by omega
  have hy:=br hj;have h1:=WT l (aC (row l k)) (2*l.length-2) (l.length-1) (l.length-2) _ _ hs hX hy (by omega) (by omega);have h2:=qvc l hs hp _ hn hX k _ hy;omega
 ·omega
theorem zcx (l:List aF) (hs:Sorted l) (hp:Pos l) (L:Nat) (hL:1<=L) (hn:2<=l.length) (TK:l.length<=2^L) :
  2*l.length-2<=(row l L).length/\(∀i,i<l.length->1<=ik l L (2*l.length-2) i)/\cS l.length (λi=>2^(L-ik l L (2*l.length-2) i))=2^L:=by
 obtain⟨k,rfl⟩:∃k,L=k+1:=⟨L-1,by omega⟩;have hb:=qyi l (k+1) TK k (by omega);rw[show k+1-k=1 from by omega,Nat.pow_one]at hb;refine⟨by omega,λi hi=>?_,?_⟩
 ·have:=zbs l hs hp k hn (by omega);rw[ik,if_pos (by omega)];omega
 ·have h1:=qvj l hs hp (k+1) (2*l.length-2) (by omega);obtain⟨q,hq⟩:∃q,l.length=q+1:=⟨l.length-1,by omega⟩;generalize cS l.length (λi=>2^(k+1-ik l (k+1) (2*l.length-2) i))=S at *;rw[hq]at h1;generalize 2^(k+1)=P at *;rw[show 2*(q+1)-2=2*q from by omega,uk,oV,DQ]at h1;omega
def fK {α:Type} (a b:List (Nat×α)):Prop:=∀k:Nat,a.filter (λx=>x.1==k)=b.filter λx=>x.1==k
theorem fK.refl {α:Type} (a:List (Nat×α)):fK a a:=λ_=>rfl
theorem fK.symm {α:Type} {a b:List (Nat×α)} (h:fK a b):fK b a:=λk=>(h k).symm
theorem fK.trans {α:Type} {a b c:List (Nat×α)} (h:fK a b) (h':fK b c):fK a c:=λk=>(h k).trans (h' k)
theorem fK.append {α:Type} {a b c d:List (Nat×α)} (h:fK a b) (h':fK c d):fK (a++c) (b++d):=λk=>by rw[D8,D8,h k,h' k]
theorem fK.swap {α:Type} {a b:List (Nat×α)} (h:∀x∈a,∀y∈b,y.1<x.1):fK (a++b) (b++a):=λk=>by
 rw[D8,D8];by_cases ha:a.filter (λx=>x.1==k)=[]
 ·rw[ha];simp
 ·obtain⟨x,hx⟩:=List.exists_mem_of_ne_nil _ ha;have Aw:=Hz.1 hx;have e:x.1=k:=by simpa using Aw.2
  have hb:b.filter (λy=>y.1==k)=[]:=by
   refine List.filter_eq_nil_iff.2 λy hy=>?_
   have:=h x Aw.1 y hy;simp only[beq_iff_eq];omega
  rw[hb];simp
theorem fK.mem {α:Type} {a b:List (Nat×α)} (h:fK a b) (x:Nat×α):x∈a↔x∈b:=by
 have h1:x∈a↔x∈a.filter (λy=>y.1==x.1):=by simp[Hz]
 have h2:x∈b↔x∈b.filter (λy=>y.1==x.1):=by simp[Hz]
 rw[h1,h2,h x.1]
def iE {α:Type} (l:List (Nat×α)):Prop:=l.Pairwise λa b=>a.1<=b.1
theorem zb8 {α:Type} {A1 A2 B1 B2 L R:List (Nat×α)} (hA:iE (A1++A2)) (hB:iE (B1++B2))
  (h1:∀x∈A2,∀y∈B1,y.1<x.1) (h2:∀x∈A1,∀y∈B2,x.1<=y.1)
  (hL:iE L) (hLs:fK L (A1++B1)) (hR:iE R) (hRs:fK R (A2++B2)) :
  iE (L++R)/\fK (L++R) (A1++A2++(B1++B2)):=by
 refine⟨Ea.2 ⟨hL,hR,λx hx y hy=>?_⟩,?_⟩
 ·rcases jw.1 ((hLs.mem x).1 hx) with a|a<;>rcases jw.1 ((hRs.mem y).1 hy) with b|b
  ·exact (Ea.1 hA).2.2 x a y b
  ·exact h2 x a y b
  ·exact Nat.le_of_lt (h1 y b x a)
  ·exact (Ea.1 hB).2.2 x a y b
 ·refine (hLs.append hRs).trans ?_;have:=fK.append (fK.append (.refl A1) (fK.symm (fK.swap h1))) (.refl B2);simpa[eE] using this
theorem zcv {α:Type} {x:Nat×α} {B1 B2:List (Nat×α)} (hB:iE (B1++B2)) (h1:∀y∈B1,y.1<x.1) (h2:∀y∈B2,x.1<=y.1) :
  iE (B1++x::B2)/\fK (B1++x::B2) (x::(B1++B2)):=by
 obtain⟨fM,kT,ju⟩:=Ea.1 hB;refine⟨Ea.2 ⟨fM,tq.2 ⟨h2,kT⟩,λa ha y hy=>?_⟩,?_⟩
 ·rcases fP.1 hy with e|e
  ·rw[e];exact Nat.le_of_lt (h1 a ha)
  ·exact ju a ha y e
 ·have:=fK.append (fK.symm (fK.swap (a:=[x]) (b:=B1) λa ha y hy=>by rw[iH.1 ha];exact h1 y hy)) (.refl B2);simpa[eE] using this
theorem qrf {α:Type} {x:Nat×α} {A1 A2:List (Nat×α)} (hA:iE (A1++A2)) (h1:∀y∈A1,y.1<=x.1) (h2:∀y∈A2,x.1<y.1) :
  iE (A1++x::A2)/\fK (A1++x::A2) (A1++A2++[x]):=by
 obtain⟨EZ,uz,ha3⟩:=Ea.1 hA;refine⟨Ea.2 ⟨EZ,tq.2 ⟨λy hy=>Nat.le_of_lt (h2 y hy),uz⟩,λa ha y hy=>?_⟩,?_⟩
 ·rcases fP.1 hy with e|e
  ·rw[e];exact h1 a ha
  ·exact ha3 a ha y e
 ·have:=fK.append (.refl A1) (fK.symm (fK.swap (a:=A2) (b:=[x]) λa ha y hy=>by rw[iH.1 hy];exact h2 a ha));simpa[eE] using this
theorem qop:∀(a b:List aF),Sorted a->Sorted b->fK a b->a=b
 | [],[],_,_,_=>rfl
 | [],y::b,_,_,h=>absurd ((h.mem y).2 uJ) (by simp)
 | x::a,[],_,_,h=>absurd ((h.mem x).1 uJ) (by simp)
 | x::a,y::b,ha,hb,h=>by
  have hx:y.1<=x.1:=by
   rcases fP.1 ((h.mem x).1 uJ) with e|e
   ·rw[e];exact ay _
   ·exact (tq.1 hb).1 x e
  have hy:x.1<=y.1:=by
   rcases fP.1 ((h.mem y).2 uJ) with e|e
   ·rw[e];exact ay _
   ·exact (tq.1 ha).1 y e
  have he:x.1=y.1:=by omega
  have h1:=h x.1;rw[List.filter_cons_of_pos (by simp),List.filter_cons_of_pos (by simp[he])]at h1;have pJ:x=y:=(List.cons.inj h1).1;subst pJ;rw[qop a b (tq.1 ha).2 (tq.1 hb).2 λk=>?_];have h2:=h k;rw[KV,KV]at h2;split at h2
  ·exact (List.cons.inj h2).2
  ·exact h2
theorem Vu:∀(l p:List aF),Sorted l->fK (mY l p) (l++p)
 | [],p,_=>by rw[Vt,qj];exact .refl _
 | x::l,[],_=>by rw[NP,mW];exact .refl _
 | x::l,y::p,hs=>by
  by_cases h:x.1<=y.1
  ·rw[RM h];exact fK.append (.refl [x]) (Vu l (y::p) (tq.1 hs).2)
  ·rw[RL h];have h1:fK (y::mY (x::l) p) ([y]++((x::l)++p)):=fK.append (.refl [y]) (Vu (x::l) p hs);refine h1.trans ?_;rw[<-eE,show (x::l)++y::p=((x::l)++[y])++p from by simp];refine fK.append (fK.symm (fK.swap λa ha b hb=>?_)) (.refl p);rw[iH.1 hb];rcases fP.1 ha with e|e
   ·rw[e];omega
   ·have:=(tq.1 hs).1 a e;omega
termination_by l p=>l.length+p.length
theorem qwh {l p r:List aF} (hl:Sorted l) (hp:Sorted p) (hr:Sorted r) (h:fK r (l++p)):r=mY l p:=
 qop _ _ hr (SE l p hl hp) (h.trans (Vu l p hl).symm)
end huf
namespace lib
open Go
section
variable {P : Program} {ops : Array Oper} {Q : Exit -> Act -> World -> Prop} {md : Region.Mode}
def AR (P:Program) (md:Region.Mode) (ops:Array Oper) (Q:Exit->Act->World->Prop) (D:Nat->World->World->Prop):Nat->Array Bool->Act->World->Prop
 | 0,listed,a,w=>Region.ready md ops listed=[]/\Q .normal a w
 | f+1,listed,a,w=>(Region.ready md ops listed=[]->Q .normal a w)/\
  ∀i∈Region.ready md ops listed,wpOp P ops Q i (λa' w'=>D i w w'/\AR P md ops Q D f (listed.setIfInBounds i true) a' w') a w
theorem qmi {D:Nat->World->World->Prop}:∀(f:Nat) (listed:Array Bool) (a:Act) (w:World),AR P md ops Q D f listed a w->wpAny P md ops Q f listed a w
 | 0,_,_,_,h=>h
 | f+1,_,_,_,h=>⟨h.1,λi hi=>wpOp_mono (λa' w' h'=>qmi f _ a' w' h'.2) (h.2 i hi)⟩
theorem SI {i:Nat} {oi:Oper} {v:Value} {C:World->Prop} {D:Nat->World->World->Prop} (hi:ops[i]?=some oi) (cE:∀(j:Nat) (o:Oper) cs b,ops[j]?=some o->o.op≠.select cs b)
  (hQ:∀c a d v w,Q (.panic c) (Act.put a d v) w->Q (.panic c) a w) (G1:∀w,D i w w)
  (hT:∀listed,listed.getD i true=false->∀t∈Region.ready md ops listed,t≠i->∀w w',C w->D t w w'->C w') :
  ∀(f:Nat) (listed:Array Bool) (a:Act) (w:World),
   (∀j oj,ops[j]?=some oj->j≠i->listed.getD j true=false->(∀e∈oj.after,Region.binds md e=true->e.on≠i)->oi.apart ops oj=true)->
   i∈Region.ready md ops listed->QY P ops C oi v a->C w->
   AR P md ops Q D f (listed.setIfInBounds i true) (a.put oi.dst v) w->AR P md ops Q D (f+1) listed a w:=by
 intro f;induction f with
 | zero=>
  intro listed a w _ hr hy hC H;refine⟨λh=>(by rw[h]at hr;cases hr),λj hj=>?_⟩;by_cases iz:j=i
  ·subst iz;exact hy.op hi hC ⟨G1 w,H⟩
  ·have:=ready_mono hj iz;rw[H.1]at this;cases this
 | succ f ih=>
  intro listed a w oP hr hy hC H;have nY:=(mem_ready.1 hr).1;refine⟨λh=>(by rw[h]at hr;cases hr),λj hj=>?_⟩;by_cases iz:j=i
  ·subst iz;exact hy.op hi hC ⟨G1 w,H⟩
  ·have h1:=H.2 j (ready_mono hj iz);obtain⟨vw,oj,qH,aD⟩:=mem_ready.1 hj;have BV:∀e∈oj.after,Region.binds md e=true->e.on≠i:=λe he hb heq=>by have h1:=aD e he hb;rw[heq,getD_both nY]at h1;cases h1
   have h2:=Wt qH (oP j oj qH iz vw BV) (λcs b=>cE i oi cs b hi) (λcs b=>cE j oj cs b qH) hQ hy h1;have qQ:∀k ok,ops[k]?=some ok->k≠i->(listed.setIfInBounds j true).getD k true=false->
     (∀e∈ok.after,Region.binds md e=true->e.on≠i)->oi.apart ops ok=true:=λk ok hk B5 vv oK=>by
    refine oP k ok hk B5 ?_ oK
    by_cases fx:j=k
    ·subst fx;exact vw
    ·rw[getD_set_ne true fx]at vv;exact vv
   refine wpOp_mono (λa' w' h3=>⟨h3.2.1,?_⟩) h2;refine ih (listed.setIfInBounds j true) a' w' qQ (ready_mono hr (kC iz)) h3.1 (hT listed nY j hj iz w w' hC h3.2.1) ?_;rw[Array.setIfInBounds_comm _ _ iz];exact h3.2.2
def DE (S:LN) (lates:LN) (j:Nat) (w w':World):Prop:=if lates.contains j=true then Fr S w w' else w'=w
def iY (P:Program) (ops:Array Oper) (S:LN) (Q:Exit->Act->World->Prop):List (Nat×Oper)->Act->World->Prop
 | [],a,w=>Q .normal a w
 | (0,o)::rest,a,w=>if Region.wanted o (yielded ops a.tmps) then o.quiet P a (fO S w) (λa'=>iY P ops S Q rest a' w) else iY P ops S Q rest (a.put o.dst undef) w
 | (1,o)::rest,a,w=>if Region.wanted o (yielded ops a.tmps) then o.quiet P a (λu=>u=w) (λa'=>iY P ops S Q rest a' w) else iY P ops S Q rest (a.put o.dst undef) w
 | (_+2,o)::rest,a,w=>if Region.wanted o (yielded ops a.tmps) then o.wp P a w (λa' w'=>Fr S w w'/\iY P ops S Q rest a' w') Q else iY P ops S Q rest (a.put o.dst undef) w
def waitsFor (md:Region.Mode) (ops:Array Oper) (t i:Nat):Bool:=match ops[t]? with
 | some o=>o.after.toList.any λe=>Region.binds md e&&decide (e.on=i)
 | none=>true
def sY (md:Region.Mode) (ops:Array Oper) (lates:LN) (i:Nat) (listed:Array Bool):Bool:=
 (Region.ready md ops listed).contains i&&Region.free md ops listed i&&(match ops[i]? with|some o=>jO o.op|none=>false)&&!lates.contains i
def mZ (md:Region.Mode) (ops:Array Oper) (lates:LN):List (Nat×Nat)->Array Bool->Bool
 | [],listed=>decide (Region.ready md ops listed=[])
 | (0,i)::rest,listed=>sY md ops lates i listed&&mZ md ops lates rest (listed.setIfInBounds i true)
 | (1,i)::rest,listed=>sY md ops lates i listed&&lates.all (λt=>waitsFor md ops t i)&&mZ md ops lates rest (listed.setIfInBounds i true)
 | (_+2,i)::rest,listed=>decide (Region.ready md ops listed=[i])&&lates.contains i&&mZ md ops lates rest (listed.setIfInBounds i true)
theorem qwy {i t:Nat} {listed:Array Bool} (h:waitsFor md ops t i=true) (nY:listed.getD i true=false) (ht:t∈Region.ready md ops listed):False:=by obtain⟨_,o,ho,aD⟩:=mem_ready.1 ht;simp only[waitsFor,ho,List.any_eq_true,lQ,decide_eq_true_eq]at h;obtain⟨e,he,hb,heq⟩:=h;have h1:=aD e (by simpa using he) hb;rw[heq,getD_both nY]at h1;cases h1
theorem ziz {S lates:LN} {b:World} {t:Nat} {w w':World} (hC:fO S b w) (h:DE S lates t w w'):fO S b w':=by
 unfold DE at h;split at h
 ·exact fO.of (hC.fr.trans h)
 ·rw[h];exact hC
theorem Ih {S lates:LN} {l:List Oper} (hl:ops=l.toArray) (cE:Region.noSelect ops=true) (hQ:∀c a d v w,Q (.panic c) (Act.put a d v) w->Q (.panic c) a w) :
  ∀(order:List (Nat×Nat)) (listed:Array Bool) (a:Act) (w:World),mZ md ops lates order listed=true->
   iY P ops S Q (order.map λx=>(x.1,l.getD x.2 default)) a w->AR P md ops Q (DE S lates) order.length listed a w
 | [],listed,a,w,hB,h=>by
  simp only[mZ,decide_eq_true_eq]at hB;exact⟨hB,h⟩
 | (0,i)::rest,listed,a,w,hB,h=>by
  simp only[mZ,sY,lQ,Bool.not_eq_true']at hB;obtain⟨⟨⟨⟨hr,hf⟩,hk⟩,bg⟩,bu⟩:=hB;have eS:i∈Region.ready md ops listed:=by simpa using hr
  obtain⟨_,oi,dO,_⟩:=mem_ready.1 eS;rw[dO]at hk;have hd:l.getD i default=oi:=by rw[hl]at dO;simp at dO;simp[List.getD,dO]
  simp only[gX,hd,iY]at h;have hC:fO S w w:=fO.of (Fr.refl _ _);have G1:∀w,DE S lates i w w:=λw=>by unfold DE;split;exact Fr.refl _ _;rfl
  have hT:∀listed:Array Bool,listed.getD i true=false->∀t∈Region.ready md ops listed,t≠i->∀w1 w',fO S w w1->DE S lates t w1 w'->fO S w w':=λ_ _ t _ _ w1 w' h1 h2=>ziz h1 h2
  by_cases hw:Region.wanted oi (yielded ops a.tmps)=true
  ·rw[if_pos hw]at h;obtain⟨v,h1,h2⟩:=h;have hy:QY P ops (fO S w) oi v a:=.inl ⟨hw,λu hu=>NR hk (h1 u hu)⟩;exact SI dO (De cE) hQ G1 hT _ listed a w (C7 dO hf) eS hy hC (Ih hl cE hQ rest _ _ w bu h2)
  ·rw[if_neg hw]at h;have hy:QY P ops (fO S w) oi undef a:=.inr ⟨by simpa using hw,rfl⟩;exact SI dO (De cE) hQ G1 hT _ listed a w (C7 dO hf) eS hy hC (Ih hl cE hQ rest _ _ w bu h)
 | (1,i)::rest,listed,a,w,hB,h=>by
  simp only[mZ,sY,lQ,Bool.not_eq_true']at hB;obtain⟨⟨⟨⟨⟨hr,hf⟩,hk⟩,bg⟩,OH⟩,bu⟩:=hB;have eS:i∈Region.ready md ops listed:=by simpa using hr
  obtain⟨_,oi,dO,_⟩:=mem_ready.1 eS;rw[dO]at hk;have hd:l.getD i default=oi:=by rw[hl]at dO;simp at dO;simp[List.getD,dO]
  simp only[gX,hd,iY]at h;have G1:∀w,DE S lates i w w:=λw=>by unfold DE;split;exact Fr.refl _ _;rfl
  have hT:∀listed:Array Bool,listed.getD i true=false->∀t∈Region.ready md ops listed,t≠i->∀w1 w',w1=w->DE S lates t w1 w'->w'=w:=λls nY t ht _ w1 w' h1 h2=>by
   unfold DE at h2;split at h2
   ·rename_i hc;exact (qwy (Ic.1 OH t (by simpa using hc)) nY ht).elim
   ·rw[h2,h1]
  by_cases hw:Region.wanted oi (yielded ops a.tmps)=true
  ·rw[if_pos hw]at h;obtain⟨v,h1,h2⟩:=h;have hy:QY P ops (λu=>u=w) oi v a:=.inl ⟨hw,λu hu=>NR hk (h1 u hu)⟩;exact SI dO (De cE) hQ G1 hT _ listed a w (C7 dO hf) eS hy rfl (Ih hl cE hQ rest _ _ w bu h2)
  ·rw[if_neg hw]at h;have hy:QY P ops (λu=>u=w) oi undef a:=.inr ⟨by simpa using hw,rfl⟩;exact SI dO (De cE) hQ G1 hT _ listed a w (C7 dO hf) eS hy rfl (Ih hl cE hQ rest _ _ w bu h)
 | (_+2,i)::rest,listed,a,w,hB,h=>by
  simp only[mZ,lQ,decide_eq_true_eq]at hB;obtain⟨⟨he,bg⟩,bu⟩:=hB;have eS:i∈Region.ready md ops listed:=by rw[he];simp
  obtain⟨_,oi,dO,_⟩:=mem_ready.1 eS;have hd:l.getD i default=oi:=by rw[hl]at dO;simp at dO;simp[List.getD,dO]
  simp only[gX,hd,iY]at h;refine⟨λh0=>(by rw[h0]at eS;cases eS),λj hj=>?_⟩;rw[he]at hj;have iz:j=i:=by simpa using hj
  subst iz;unfold wpOp;simp only[dO];by_cases hw:Region.wanted oi (yielded ops a.tmps)=true
  ·rw[if_pos hw]at h;rw[if_pos hw];left;exact Oper.wp_mono (λa' w' h'=>⟨by unfold DE;rw[if_pos bg];exact h'.1,Ih hl cE hQ rest _ a' w' bu h'.2⟩) h
  ·rw[if_neg hw]at h;rw[if_neg hw];exact⟨by unfold DE;rw[if_pos bg];exact Fr.refl _ _,Ih hl cE hQ rest _ _ w bu h⟩
theorem Iy {id:Nat} {a:Act} {w:World} {l:List Oper} (order:List (Nat×Nat)) (S lates:LN) (hm:P.follows .mixedOrders=true)
  (hB:(Region.noSelect l.toArray&&decide (order.length=l.toArray.size)&&mZ .any l.toArray lates order (Array.replicate l.toArray.size false))=true)
  (hQ:∀c a d v w,Q (.panic c) (Act.put a d v) w->Q (.panic c) a w)
  (h:iY P l.toArray S Q (order.map λx=>(x.1,l.getD x.2 default)) a w.drew):(Code.region id l.toArray true).wp P Q a w:=by
 simp only[lQ,decide_eq_true_eq]at hB;obtain⟨⟨cE,hlen⟩,xt⟩:=hB;refine wp_region_any hm (qmi (D:=DE S lates) _ _ _ _ ?_);have:=Ih (P:=P) (Q:=Q) (md:=.any) (S:=S) (lates:=lates) rfl cE hQ order _ a w.drew xt h;rw[hlen]at this;exact this
theorem x5 {S:LN} {items:List (Nat×Oper)} {a:Act} {w:World} (k:Nat) (h0:((items.take k).all λx=>decide (x.1=1))=true)
  (h:wpQuiet P ops (λu=>u=w) (λa'=>iY P ops S Q (items.drop k) a' w) ((items.take k).map (·.2)) a):iY P ops S Q items a w:=by
 induction k generalizing items a with
 | zero=>exact h
 | succ k ih=>
  cases items with
  | nil=>exact h
  | cons x rest=>
   obtain⟨e,o⟩:=x;simp only[qs,List.all_cons,lQ,decide_eq_true_eq]at h0;obtain⟨rfl,h0⟩:=h0;simp only[qs,gX,wO,wpQuiet]at h;unfold iY;by_cases hw:Region.wanted o (yielded ops a.tmps)=true
   ·rw[if_pos hw]at h ⊢;obtain⟨v,h1,h2⟩:=h;exact⟨v,h1,ih h0 h2⟩
   ·rw[if_neg hw]at h ⊢;exact ih h0 h
theorem nN {S:LN} {items:List (Nat×Oper)} {a:Act} {w:World} (k:Nat) (h0:((items.take k).all λx=>decide (x.1=0))=true)
  (h:wpQuiet P ops (fO S w) (λa'=>iY P ops S Q (items.drop k) a' w) ((items.take k).map (·.2)) a):iY P ops S Q items a w:=by
 induction k generalizing items a with
 | zero=>exact h
 | succ k ih=>
  cases items with
  | nil=>exact h
  | cons x rest=>
   obtain⟨e,o⟩:=x;simp only[qs,List.all_cons,lQ,decide_eq_true_eq]at h0;obtain⟨rfl,h0⟩:=h0;simp only[qs,gX,wO,wpQuiet]at h;unfold iY;by_cases hw:Region.wanted o (yielded ops a.tmps)=true
   ·rw[if_pos hw]at h ⊢;obtain⟨v,h1,h2⟩:=h;exact⟨v,h1,ih h0 h2⟩
   ·rw[if_neg hw]at h ⊢;exact ih h0 h
theorem xZ {S:LN} {rest:List (Nat×Oper)} {o:Oper} {a:Act} {w:World} (hw:Region.wanted o (yielded ops a.tmps)=true)
  (h:∀K:Act->World->Prop,Go.RowKit.Hid (∀a' w',Fr S w w'->iY P ops S Q rest a' w'->K a' w')->o.wp P a w K Q):iY P ops S Q ((2,o)::rest) a w:=by
 unfold iY;rw[if_pos hw];exact h _ λ_ _ h1 h2=>⟨h1,h2⟩
theorem Il {S:LN} {a:Act} {w:World} (h:Q .normal a w):iY P ops S Q [] a w:=h
end
end lib
namespace huf
open Go Go.RowKit lib bm bl
structure Mc where
 worth:Nat
 ao:Option Addr
 len:Nat
 cap:Nat
def Dw (w:World) (g:Nat) (T:TypeId) (A0:AV) (n:Nat) (f:Nat->Mc):Prop:=
 ∃A:Array Value,w.heap[g]?=some (.cells A T (0,0))/\A.size=A0.size/\2*n<=A.size/\(∀j,2*n<=j->A[j]?=A0[j]?)/\
  ∀i,i<n->A[i*2]?=some (.int .i64 ((f i).worth:Nat))/\A[i*2+1]?=some (.slice (f i).ao (f i).len (f i).cap)
def swp (f:Nat->Mc) (x y:Nat):Nat->Mc:=λi=>if i=x then f y else if i=y then f x else f i
def xW (f:Nat->Mc) (a b:Nat):Nat->Nat->Mc
 | 0=>f
 | k+1=>swp (xW f a b k) (b+k) (a+k)
theorem Dw.swap {g:Nat} {T:TypeId} {A0 A:AV} {n x y:Nat} {f:Nat->Mc} (w2:World) (pw:Nat) (pa:OA) (pl pc qw:Nat) (qa:OA) (ql qc:Nat)
  (hs:A.size=A0.size) (hn:2*n<=A.size) (ht:∀j,2*n<=j->A[j]?=A0[j]?)
  (hf:∀i,i<n->A[i*2]?=some (.int .i64 ((f i).worth:Nat))/\A[i*2+1]?=some (.slice (f i).ao (f i).len (f i).cap))
  (hx:x<n) (hy:y<n) (hp:(⟨pw,pa,pl,pc⟩:Mc)=f x) (hq:(⟨qw,qa,ql,qc⟩:Mc)=f y)
  (h:w2.heap[g]?=some (.cells ((((A.setIfInBounds (x*2) (.int .i64 qw)).setIfInBounds (x*2+1) (.slice qa ql qc)).setIfInBounds (y*2) (.int .i64 pw)).setIfInBounds (y*2+1) (.slice pa pl pc)) T (0,0))) :
  Dw w2 g T A0 n (swp f y x):=by
 refine⟨_,h,by simp[hs],by simp;exact hn,λj hj=>?_,λi hi=>?_⟩
 ·rw[aX (by omega),aX (by omega),aX (by omega),aX (by omega)];exact ht j hj
 ·unfold swp;by_cases h1:i=y
  ·subst h1;rw[if_pos rfl,<-hp];refine⟨?_,?_⟩
   ·rw[aX (by omega),iG (by simp;omega)]
   ·rw[iG (by simp;omega)]
  ·rw[if_neg h1];by_cases h2:i=x
   ·subst h2;rw[if_pos rfl,<-hq];refine⟨?_,?_⟩
    ·rw[aX (by omega),aX (by omega),aX (by omega),iG (by omega)]
    ·rw[aX (by omega),aX (by omega),iG (by simp;omega)]
   ·rw[if_neg h2];refine⟨?_,?_⟩
    ·rw[aX (by omega),aX (by omega),aX (by omega),aX (by omega)];exact (hf i hi).1
    ·rw[aX (by omega),aX (by omega),aX (by omega),aX (by omega)];exact (hf i hi).2
theorem Xe (g:Nat) (T:TypeId) (A0:AV) (L cap n a b:Nat) (f:Nat->Mc) (cmp:Value) (w:World)
  (h:Dw w g T A0 L f) (ha:a+n<=b) (hb:b+n<=L) (hL:L<=100000) :
  Calls Tryz.prog 223 #[.slice (some ⟨g,0,none⟩) L cap,.int .i64 a,.int .i64 b,.int .i64 n,cmp] w λe w'=>e = .returned (.tuple #[])/\Dw w' g T A0 L (xW f a b n)/\Fr [g] w w':=by
 have H:=ah h;clear h;go_enter Tryz.func223,Tryz.ntmps223;go_wp2;go_loopg [10] n (λk s10 wr=>∃i:Nat,s10 = .int .i64 (i:Nat)/\i+k=n/\Dw wr g T A0 L (xW f a b i)/\Fr [g] w wr);case atStart=>exact⟨0,rfl,by omega,H.out,.refl _ w⟩
 case round=>
  obtain⟨i,rfl,bX,hD,hf⟩:=hrel;by_cases hi:i<n
  ·obtain⟨k,rfl⟩:∃k,gk=k+1:=⟨gk-1,by omega⟩;obtain⟨A,hA,dW,nF,dZ,jG⟩:=hD;obtain⟨x,hx⟩:=ai (a+i);obtain⟨y,hy⟩:=ai (b+i);have X:=jG x (by omega);have Y:=jG y (by omega);obtain⟨p,hp⟩:=ai (xW f a b i x);obtain⟨q,hq⟩:=ai (xW f a b i y);rw[<-hp]at X;rw[<-hq]at Y;obtain⟨pw,pa,pl,pc⟩:=p;obtain⟨qw,qa,ql,qc⟩:=q;have d0:=(cell_of hA (x*2)).trans X.1;have d1:=(cell_of hA (x*2+1)).trans X.2;have d2:=(cell_of hA (y*2)).trans Y.1;have d3:=(cell_of hA (y*2+1)).trans Y.2;simp only at d0 d1 d2 d3;have e0:((a:Int)+(i:Int))=(x:Int):=by omega
   have e1:((b:Int)+(i:Int))=(y:Int):=by omega
   have g1:decide ((x:Int)<0)=false:=by simp
   have g2:decide ((L:Int)<=(x:Int))=false:=by simp;omega
   have g3:decide ((y:Int)<0)=false:=by simp
   have g4:decide ((L:Int)<=(y:Int))=false:=by simp;omega
   have mz:x<L:=by omega
   have qB:y<L:=by omega
   have HX:=pY hA dW nF dZ jG hf hp hq hx hy;clear hA dW nF dZ jG hf hp hq X Y hx hy;go_upto_region 3 with fail;refine Iy [(0,0),(0,1),(0,2),(0,3),(0,4),(0,5),(0,6),(0,7),(0,8),(0,9),(0,10),(0,11),(0,12),(1,13),(0,14),(0,15),(0,16),(0,17),(0,18),(1,19),(0,20),(2,21),(0,22),(2,23)] [g] [21,23] (by kernel_rfl) (by kernel_rfl) (λ_ _ d _ _ h=>by cases d<;>exact h) ?_;simp only[gX,qq,Bq,Bp];refine nN 13 rfl ?_;simp only[bD];repeat (go_big_quiet_step (fail))
   refine wpQuiet_nil ?_;refine x5 1 rfl ?_;simp only[bD];repeat (go_big_quiet_step (fail))
   refine wpQuiet_nil ?_;refine nN 5 rfl ?_;simp only[bD];repeat (go_big_quiet_step (fail))
   refine wpQuiet_nil ?_;refine x5 1 rfl ?_;simp only[bD];repeat (go_big_quiet_step (fail))
   refine wpQuiet_nil ?_;refine nN 1 rfl ?_;simp only[bD];repeat (go_big_quiet_step (fail))
   refine wpQuiet_nil ?_;refine xZ rfl ?_;intro K hK;have z0:=aW HX.out.1 (x*2);have z1:=aW HX.out.1 (x*2+1);go_wp2;refine hK.out _ _ (Fr.bA ((((Fr.refl [g] wr).setCell (by simp) _).setCell (by simp) _).drew)) ?_;clear hK K z0 z1;obtain⟨w1,cP⟩:∃w1,w1=((wr.setCell ⟨g,x*2,none⟩ (.int .i64 (qw:Nat))).setCell ⟨g,x*2+1,none⟩ (.slice qa ql qc)):=⟨_,rfl⟩;rw[<-cP];have dI:=bI (o:=x*2+1) (bI (o:=x*2) HX.out.1 (.int .i64 qw)) (.slice qa ql qc);rw[<-cP]at dI;obtain⟨A1,hB⟩:∃A1,A1=(A.setIfInBounds (x*2) (.int .i64 (qw:Nat))).setIfInBounds (x*2+1) (.slice qa ql qc):=⟨_,rfl⟩;rw[<-hB]at dI;have z0:=aW dI (y*2);have z1:=aW dI (y*2+1);have pJ:x<y:=by have:=HX.out.2.2.2.2.2.2.2.2;omega
   have c2:w1.cell? ⟨g,y*2,none⟩=some (.int .i64 qw):=by rw[cell_of dI,hB,aX (by omega),aX (by omega),<-cell_of HX.out.1];exact d2
   have c3:w1.cell? ⟨g,y*2+1,none⟩=some (.slice qa ql qc):=by rw[cell_of dI,hB,aX (by omega),aX (by omega),<-cell_of HX.out.1];exact d3
   have HY:=aw dI hB cP;clear dI hB cP d0 d1 d2 d3;refine nN 1 rfl ?_;simp only[bD];repeat (go_big_quiet_step (fail))
   refine wpQuiet_nil ?_;refine xZ rfl ?_;intro K hK;go_wp2;refine hK.out _ _ (Fr.bA ((((Fr.refl [g] w1).setCell (by simp) _).setCell (by simp) _).drew)) ?_;clear hK K z0 z1 c2 c3;refine Il ?_;go_wp2;go_roundg k;case measure=>omega
   case rel=>
    obtain⟨hA,dW,nF,dZ,jG,hf,hp,hq,hx,hy⟩:=HX.out;obtain⟨dI,hB,cP⟩:=HY.out;have jv:=bI (o:=y*2+1) (bI (o:=y*2) dI (.int .i64 pw)) (.slice pa pl pc);rw[hB]at jv;obtain⟨w2,bL⟩:∃w2,w2=((w1.setCell ⟨g,y*2,none⟩ (.int .i64 (pw:Nat))).setCell ⟨g,y*2+1,none⟩ (.slice pa pl pc)):=⟨_,rfl⟩;rw[<-bL]at jv ⊢;refine⟨i+1,by go_num,by omega,?_,?_⟩
    ·rw[xW,<-hx,<-hy];exact Dw.swap _ pw pa pl pc qw qa ql qc dW nF dZ jG mz qB hp hq jv
    ·rw[bL,cP];exact ((((hf.setCell (by simp) _).setCell (by simp) _).setCell (by simp) _).setCell (by simp) _).drew
  ·obtain rfl:i=n:=by omega
   have HI:=ak hD hf;clear hD hf;go_wp2;(try simp only[Exit.inBlock,Exit.then]);refine bodyPost_end (results_none rfl _ _ _) rfl ?_;exact⟨rfl,HI.o0,HI.l1⟩
end huf
namespace huf
open Go Go.RowKit lib
theorem RS (f:Nat->Mc) (a b:Nat):∀n,a+n<=b->∀t,xW f a b n t=if a<=t/\t<a+n then f (t-a+b) else if b<=t/\t<b+n then f (t-b+a) else f t
 | 0,_,t=>by rw[if_neg (by omega),if_neg (by omega)];rfl
 | n+1,h,t=>by
  have ih:=RS f a b n (by omega);show (if t=b+n then xW f a b n (a+n) else if t=a+n then xW f a b n (b+n) else xW f a b n t)=_;rw[ih,ih,ih];by_cases h1:t=b+n
  ·subst h1;rw[if_pos rfl,if_neg (by omega),if_neg (by omega),if_neg (by omega),if_pos (by omega)];congr 1;omega
  ·rw[if_neg h1];by_cases h2:t=a+n
   ·subst h2;rw[if_pos rfl,if_neg (by omega),if_neg (by omega),if_pos (by omega)];congr 1;omega
   ·rw[if_neg h2];by_cases h3:a<=t/\t<a+n
    ·rw[if_pos h3,if_pos (by omega)]
    ·rw[if_neg h3,if_neg (c:=a<=t/\t<a+(n+1)) (by omega)];by_cases h4:b<=t/\t<b+n
     ·rw[if_pos h4,if_pos (by omega)]
     ·rw[if_neg h4,if_neg (by omega)]
def aP (f:Nat->Mc) (a m b:Nat):Nat->Mc:=λt=>if a<=t/\t<a+(b-m) then f (t-a+m) else if a+(b-m)<=t/\t<b then f (t-(b-m)) else f t
theorem Ak {f:Nat->Mc} {a m b t:Nat} (h1:a<=t) (h2:t<a+(b-m)):aP f a m b t=f (t-a+m):=if_pos ⟨h1,h2⟩
theorem Bf {f:Nat->Mc} {a m b t:Nat} (h1:a+(b-m)<=t) (h2:t<b):aP f a m b t=f (t-(b-m)):=by unfold aP;rw[if_neg (by omega),if_pos ⟨h1,h2⟩]
theorem ui {f:Nat->Mc} {a m b t:Nat} (ha:a<=m) (hb:m<=b) (h:t<a\/b<=t):aP f a m b t=f t:=by unfold aP;rw[if_neg (by omega),if_neg (by omega)]
theorem zhr (f:Nat->Mc) (m i:Nat) (hi:i<=m):xW f (m-i) m i=aP f (m-i) m (m+i):=by
 funext t;rw[RS f (m-i) m i (by omega) t];unfold aP;by_cases h1:m-i<=t/\t<m-i+i
 ·rw[if_pos h1,if_pos (by omega)]
 ·rw[if_neg h1,if_neg (c:=m-i<=t/\t<m-i+(m+i-m)) (by omega)];by_cases h2:m<=t/\t<m+i
  ·rw[if_pos h2,if_pos (by omega)];congr 1;omega
  ·rw[if_neg h2,if_neg (by omega)]
theorem zhq (f:Nat->Mc) (m i j:Nat) (hi:i<=m) (hj:j<i):aP (xW f (m-i) m j) (m-(i-j)) m (m+j)=aP f (m-i) m (m+j):=by
 funext t;have e:=RS f (m-i) m j (by omega);unfold aP;rw[e,e,e];by_cases h1:m-(i-j)<=t/\t<m-(i-j)+(m+j-m)
 ·rw[if_pos h1];rw[if_neg (c:=m-i<=t-(m-(i-j))+m/\_) (by omega),if_pos (c:=m<=t-(m-(i-j))+m/\_) (by omega),if_neg (c:=m-i<=t/\_) (by omega),if_pos (by omega)];congr 1;omega
 ·rw[if_neg h1];by_cases h2:m-(i-j)+(m+j-m)<=t/\t<m+j
  ·rw[if_pos h2,if_neg (c:=m-i<=t-(m+j-m)/\_) (by omega),if_neg (c:=m<=t-(m+j-m)/\_) (by omega),if_neg (c:=m-i<=t/\_) (by omega),if_pos (by omega)]
  ·rw[if_neg h2];by_cases h3:m-i<=t/\t<m-i+j
   ·rw[if_pos h3,if_pos (by omega)]
   ·rw[if_neg h3,if_neg (c:=m<=t/\_) (by omega),if_neg (by omega),if_neg (by omega)]
theorem zhp (f:Nat->Mc) (m i j:Nat) (hi:i<=m) (hj:i<j):aP (xW f (m-i) (m+j-i) i) (m-i) m (m+(j-i))=aP f (m-i) m (m+j):=by
 funext t;have e:=RS f (m-i) (m+j-i) i (by omega);unfold aP;rw[e,e,e];by_cases h1:m-i<=t/\t<m-i+(m+(j-i)-m)
 ·rw[if_pos h1];rw[if_neg (c:=m-i<=t-(m-i)+m/\_) (by omega),if_neg (c:=m+j-i<=t-(m-i)+m/\_) (by omega),if_pos (by omega)]
 ·rw[if_neg h1];by_cases h2:m-i+(m+(j-i)-m)<=t/\t<m+(j-i)
  ·rw[if_pos h2,if_pos (c:=m-i<=t-(m+(j-i)-m)/\_) (by omega),if_pos (c:=m-i<=t/\_) (by omega)];congr 1;omega
  ·rw[if_neg h2,if_neg (c:=m-i<=t/\t<m-i+i) (by omega),if_neg (c:=m-i<=t/\_) (by omega)];by_cases h3:m+j-i<=t/\t<m+j-i+i
   ·rw[if_pos h3,if_pos (by omega)];congr 1;omega
   ·rw[if_neg h3,if_neg (by omega)]
theorem FU (f:Nat->Mc) (a m b:Nat) (ha:a<=m) (hb:m<=b) (h:a=m\/m=b):aP f a m b=f:=by
 funext t;unfold aP;by_cases h1:a<=t/\t<a+(b-m)
 ·rw[if_pos h1];congr 1;omega
 ·rw[if_neg h1];by_cases h2:a+(b-m)<=t/\t<b
  ·rw[if_pos h2];congr 1;omega
  ·rw[if_neg h2]
theorem Sl (f:Nat->Mc) (i j:Nat) (hj:0<j) (iz:j<=i):swp (aP f j i (i+1)) j (j-1)=aP f (j-1) i (i+1):=by
 funext t;unfold swp;by_cases h1:t=j
 ·subst h1;rw[if_pos rfl,ui (by omega) (by omega) (.inl (by omega)),Bf (by omega) (by omega)];congr 1;omega
 ·rw[if_neg h1];by_cases h2:t=j-1
  ·subst h2;rw[if_pos rfl,Ak (by omega) (by omega),Ak (by omega) (by omega)];congr 1;omega
  ·rw[if_neg h2];by_cases h3:t<j-1\/i+1<=t
   ·rw[ui (by omega) (by omega) (by omega),ui (by omega) (by omega) h3]
   ·rw[Bf (by omega) (by omega),Bf (by omega) (by omega)]
theorem zho (f:Nat->Mc) (a k:Nat) (hk:a<=k):swp (aP f a (a+1) (k+1)) k (k+1)=aP f a (a+1) (k+2):=by
 funext t;unfold swp;by_cases h1:t=k
 ·subst h1;rw[if_pos rfl,ui (by omega) (by omega) (.inr (by omega)),Ak (by omega) (by omega)];congr 1;omega
 ·rw[if_neg h1];by_cases h2:t=k+1
  ·subst h2;rw[if_pos rfl,Bf (by omega) (by omega),Bf (by omega) (by omega)];congr 1;omega
  ·rw[if_neg h2];by_cases h3:t<a\/k+2<=t
   ·rw[ui (by omega) (by omega) (by omega),ui (by omega) (by omega) h3]
   ·rw[Ak (by omega) (by omega),Ak (by omega) (by omega)]
def tg (x:Mc):Nat×Mc:=(x.worth,x)
def sg (f:Nat->Mc) (a n:Nat):List (Nat×Mc):=(List.range n).map λi=>tg (f (a+i))
theorem vV {f f':Nat->Mc} {a a' n:Nat} (h:∀t,t<n->f (a+t)=f' (a'+t)):sg f a n=sg f' a' n:=by unfold sg;exact D9 λt ht=>by rw[h t (td.1 ht)]
theorem Sv (f:Nat->Mc) (a n m:Nat):sg f a (n+m)=sg f a n++sg f (a+n) m:=by unfold sg;rw[List.range_add,gF,vW];congr 1;exact D9 λt _=>by simp[oW]
theorem nO (f:Nat->Mc) (a m b:Nat) (h1:a<=m) (h2:m<=b):sg f a (b-a)=sg f a (m-a)++sg f m (b-m):=by rw[show b-a=(m-a)+(b-m) from by omega,Sv,show a+(m-a)=m from by omega]
theorem Hy (f:Nat->Mc) (a:Nat):sg f a 1=[tg (f a)]:=rfl
theorem Ij (f:Nat->Mc) (a:Nat):sg f a 0=[]:=rfl
theorem sZ {f:Nat->Mc} {a n:Nat} {x:Nat×Mc}:x∈sg f a n↔∃t,t<n/\x=tg (f (a+t)):=by
 unfold sg;rw[jo];constructor
 ·rintro⟨t,ht,rfl⟩;exact⟨t,td.1 ht,rfl⟩
 ·rintro⟨t,ht,rfl⟩;exact⟨t,td.2 ht,rfl⟩
theorem DU {f:Nat->Mc} {a n:Nat}:iE (sg f a n)↔∀i j,i<=j->j<n->(f (a+i)).worth<=(f (a+j)).worth:=by
 unfold iE sg;rw[D6];constructor
 ·intro h i j mO hj;rcases kI i j with k|k
  ·have:=Ec.1 h i j (by simp;omega) (by simp;omega) k;simpa[tg] using this
  ·obtain rfl:i=j:=by omega
   exact ay _
 ·intro h;refine Ec.2 λi j hi hj mO=>?_
  simp only[Da]at hi hj;simpa[tg] using h i j (by omega) hj
theorem FL {f:Nat->Mc} {a n c k:Nat} (h:iE (sg f a n)) (h1:a<=c) (h2:c+k<=a+n):iE (sg f c k):=by rw[DU]at h ⊢;intro i j mO hj;have:=h (c-a+i) (c-a+j) (by omega) (by omega);rwa [show a+(c-a+i)=c+i from by omega,show a+(c-a+j)=c+j from by omega]at this
theorem IB (f:Nat->Mc) (s m e:Nat) (h1:s<=m) (h2:m<=e):sg (aP f s m e) s (e-m)=sg f m (e-m):=
 vV λt ht=>by rw[Ak (by omega) (by omega)];congr 1;omega
theorem IE (f:Nat->Mc) (s m e:Nat) (h1:s<=m) (h2:m<=e):sg (aP f s m e) (s+(e-m)) (m-s)=sg f s (m-s):=
 vV λt ht=>by rw[Bf (by omega) (by omega)];congr 1;omega
theorem FT (f:Nat->Mc) (s m e a n:Nat) (h1:s<=m) (h2:m<=e) (h:a+n<=s\/e<=a):sg (aP f s m e) a n=sg f a n:=
 vV λt ht=>by rw[ui h1 h2 (by omega)]
structure Sd (f f':Nat->Mc) (a b:Nat):Prop where
 out:∀t,t<a\/b<=t->f' t=f t
 srt:iE (sg f' a (b-a))
 stb:fK (sg f' a (b-a)) (sg f a (b-a))
theorem Lk (f:Nat->Mc) (a i j:Nat) (ha:a<=j) (hj:j<=i) (hs:iE (sg f a (i-a))) (h1:a<j->(f (j-1)).worth<=(f i).worth) (h2:j<i->(f i).worth<(f j).worth) :
  Sd f (aP f j i (i+1)) a (i+1):=by
 have gT:=DU.1 hs;have e0:sg (aP f j i (i+1)) a (i+1-a)=sg f a (j-a)++tg (f i)::sg f j (i-j):=by
  rw[nO _ a j (i+1) ha (by omega),FT _ _ _ _ _ _ hj (by omega) (.inl (by omega)),nO _ j (j+1) (i+1) (by omega) (by omega),show j+1-j=i+1-i from by omega,IB _ _ _ _ hj (by omega),show j+1=j+(i+1-i) from by omega,show i+1-(j+(i+1-i))=i-j from by omega,
   IE _ _ _ _ hj (by omega),show i+1-i=1 from by omega,Hy]
  rfl
 have e1:sg f a (i+1-a)=sg f a (j-a)++sg f j (i-j)++[tg (f i)]:=by rw[nO f a i (i+1) (by omega) (by omega),nO f a j i ha hj,show i+1-i=1 from by omega,Hy]
 have hp:=qrf (x:=tg (f i)) (A1:=sg f a (j-a)) (A2:=sg f j (i-j)) (by rw[<-nO f a j i ha hj];exact hs)
  (λy hy=>by
   obtain⟨t,ht,rfl⟩:=sZ.1 hy
   refine ck (gT t (j-1-a) (by omega) (by omega)) ?_
   rw[show a+(j-1-a)=j-1 from by omega]
   exact h1 (by omega))
  (λy hy=>by
   obtain⟨t,ht,rfl⟩:=sZ.1 hy
   refine eW (h2 (by omega)) ?_
   have:=gT (j-a) (j-a+t) (by omega) (by omega)
   rwa [show a+(j-a)=j from by omega,show a+(j-a+t)=j+t from by omega]at this)
 exact⟨λt ht=>ui hj (by omega) (by omega),by rw[e0];exact hp.1,by rw[e0,e1];exact hp.2⟩
theorem zf9 (f:Nat->Mc) (a i b:Nat) (hi:a<i) (hb:i<=b) (hs:iE (sg f (a+1) (b-(a+1)))) (h1:a+1<i->(f (i-1)).worth<(f a).worth) (h2:i<b->(f a).worth<=(f i).worth) :
  Sd f (aP f a (a+1) i) a b:=by
 have gT:=DU.1 hs;have e0:sg (aP f a (a+1) i) a (b-a)=sg f (a+1) (i-(a+1))++tg (f a)::sg f i (b-i):=by
  have q1:=FT f a (a+1) i i (b-i) (by omega) (by omega) (.inr (ay _));have q2:=IB f a (a+1) i (by omega) (by omega);have q3:=IE f a (a+1) i (by omega) (by omega);have q4:sg (aP f a (a+1) i) a (i-a)=sg f (a+1) (i-(a+1))++sg f a (a+1-a):=by rw[show i-a=(i-(a+1))+(a+1-a) from by omega,Sv,q2,q3]
  rw[nO _ a i b (by omega) hb,q1,q4,show a+1-a=1 from by omega,Hy];simp
 have e1:sg f a (b-a)=tg (f a)::(sg f (a+1) (i-(a+1))++sg f i (b-i)):=by rw[nO f a (a+1) b (by omega) (by omega),nO f (a+1) i b (by omega) hb,show a+1-a=1 from by omega,Hy];rfl
 have hp:=zcv (x:=tg (f a)) (B1:=sg f (a+1) (i-(a+1))) (B2:=sg f i (b-i)) (by rw[<-nO f (a+1) i b (by omega) hb];exact hs)
  (λy hy=>by
   obtain⟨t,ht,rfl⟩:=sZ.1 hy
   refine Dj (gT t (i-1-(a+1)) (by omega) (by omega)) ?_
   rw[show a+1+(i-1-(a+1))=i-1 from by omega]
   exact h1 (by omega))
  (λy hy=>by
   obtain⟨t,ht,rfl⟩:=sZ.1 hy
   refine ck (h2 (by omega)) ?_
   have:=gT (i-(a+1)) (i-(a+1)+t) (by omega) (by omega)
   rwa [show a+1+(i-(a+1))=i from by omega,show a+1+(i-(a+1)+t)=i+t from by omega]at this)
 exact⟨λt ht=>ui (by omega) (by omega) (by omega),by rw[e0];exact hp.1,by rw[e0,e1];exact hp.2⟩
theorem ze0 (f f1 f2:Nat->Mc) (a m b mid s e:Nat) (pn:mid=(a+b)/2) (AG:a<m) (oM:m<b) (BM:s+e=mid+m) (has:a<=s) (vd:s<=m) (Gy:m<=e) (Zg:e<=b)
  (hA:iE (sg f a (m-a))) (hB:iE (sg f m (b-m)))
  (h1:s<m->m<e->(f (e-1)).worth<(f s).worth) (h2:a<s->e<b->(f (s-1)).worth<=(f e).worth)
  (d1:Sd (aP f s m e) f1 a mid) (d2:Sd f1 f2 mid b):Sd f f2 a b:=by
 have hA':=DU.1 hA;have Uu:=DU.1 hB;have em:s+(e-m)=mid:=by omega
 have eA:sg f a (m-a)=sg f a (s-a)++sg f s (m-s):=nO f a s m has vd;have eB:sg f m (b-m)=sg f m (e-m)++sg f e (b-e):=nO f m e b Gy Zg;have eL:sg (aP f s m e) a (mid-a)=sg f a (s-a)++sg f m (e-m):=by have q1:=FT f s m e a (s-a) vd Gy (.inl (by omega));have q2:=IB f s m e vd Gy;rw[nO _ a s mid has (by omega),q1,show mid-s=e-m from by omega,q2]
 have eR:sg (aP f s m e) mid (b-mid)=sg f s (m-s)++sg f e (b-e):=by have q1:=FT f s m e e (b-e) vd Gy (.inr (ay _));have q2:=IE f s m e vd Gy;rw[em]at q2;rw[nO _ mid e b (by omega) Zg,q1,show e-mid=m-s from by omega,q2]
 have QT:sg f1 mid (b-mid)=sg (aP f s m e) mid (b-mid):=vV λt ht=>d1.out _ (.inr (by omega))
 have eL2:sg f2 a (mid-a)=sg f1 a (mid-a):=vV λt ht=>d2.out _ (.inl (by omega))
 have hp:=zb8 (A1:=sg f a (s-a)) (A2:=sg f s (m-s)) (B1:=sg f m (e-m)) (B2:=sg f e (b-e)) (L:=sg f1 a (mid-a)) (R:=sg f2 mid (b-mid))
  (by rw[<-eA];exact hA) (by rw[<-eB];exact hB)
  (λx hx y hy=>by
   obtain⟨t,ht,rfl⟩:=sZ.1 hx
   obtain⟨u,hu,rfl⟩:=sZ.1 hy
   have k1:=hA' (s-a) (s-a+t) (by omega) (by omega)
   have k2:=Uu u (e-1-m) (by omega) (by omega)
   rw[show a+(s-a)=s from by omega,show a+(s-a+t)=s+t from by omega]at k1
   rw[show m+(e-1-m)=e-1 from by omega]at k2
   exact Dj k2 (eW (h1 (by omega) (by omega)) k1))
  (λx hx y hy=>by
   obtain⟨t,ht,rfl⟩:=sZ.1 hx
   obtain⟨u,hu,rfl⟩:=sZ.1 hy
   have k1:=hA' t (s-1-a) (by omega) (by omega)
   have k2:=Uu (e-m) (e-m+u) (by omega) (by omega)
   rw[show a+(s-1-a)=s-1 from by omega]at k1
   rw[show m+(e-m)=e from by omega,show m+(e-m+u)=e+u from by omega]at k2
   exact ck k1 (ck (h2 (by omega) (by omega)) k2))
  d1.srt (by rw[<-eL];exact d1.stb) d2.srt (by rw[<-eR,<-QT];exact d2.stb)
 refine⟨λt ht=>?_,?_,?_⟩
 ·rw[d2.out t (by omega),d1.out t (by omega),ui vd Gy (by omega)]
 ·rw[nO f2 a mid b (by omega) (by omega),eL2];exact hp.1
 ·rw[nO f2 a mid b (by omega) (by omega),eL2,nO f a m b (by omega) (by omega),eA,eB];exact hp.2
theorem K7 (f:Nat->Mc) (a b:Nat) (h:iE (sg f a (b-a))):Sd f f a b:=⟨λ_ _=>rfl,h,.refl _⟩
theorem Sd.trans {f f' f2:Nat->Mc} {a b:Nat} (h:Sd f f' a b) (h':Sd f' f2 a b):Sd f f2 a b:=⟨λt ht=>(h'.out t ht).trans (h.out t ht),h'.srt,h'.stb.trans h.stb⟩
theorem Sd.xU {f f':Nat->Mc} {a b:Nat} (h:Sd f f' a b) (xD:a<=b) {n:Nat} (hn:b<=n):fK (sg f' 0 n) (sg f 0 n):=by
 have e:∀k:Nat->Mc,sg k 0 n=sg k 0 a++sg k a (b-a)++sg k b (n-b):=λk=>by have h1:=nO k 0 a n (by omega) (by omega);rw[DT,DT]at h1;rw[h1,nO k a b n xD hn,eE]
 rw[e f',e f];refine fK.append (fK.append ?_ h.stb) ?_
 ·rw[vV (f:=f') (f':=f) λt ht=>h.out _ (.inl (by omega))];exact .refl _
 ·rw[vV (f:=f') (f':=f) λt ht=>h.out _ (.inr (by omega))];exact .refl _
open bm bl
theorem Bk (g:Nat) (T:TypeId) (A0:AV) (L cap a m b:Nat) (f:Nat->Mc) (cmp:Value) (w:World)
  (h:Dw w g T A0 L f) (ha:a<m) (hb:m<b) (GR:b<=L) (hL:L<=100000) :
  Calls Tryz.prog 216 #[.slice (some ⟨g,0,none⟩) L cap,.int .i64 a,.int .i64 m,.int .i64 b,cmp] w λe w'=>e = .returned (.tuple #[])/\Dw w' g T A0 L (aP f a m b)/\Fr [g] w w':=by
 have H:=ah h;clear h;obtain⟨i0,TS⟩:=ai (m-a);obtain⟨j0,hj0⟩:=ai (b-m);have e0:(m:Int)-(a:Int)=(i0:Int):=by omega
 have e1:(b:Int)-(m:Int)=(j0:Int):=by omega
 have H0:=aQ TS hj0 ha hb GR;have hm:m<=100000:=by omega
 have Y4:1<=i0:=by omega
 have hj1:1<=j0:=by omega
 have Md:i0<=100000:=by omega
 have EN:j0<=100000:=by omega
 clear TS hj0 ha hb GR;go_enter Tryz.func216,Tryz.ntmps216;go_wp2;go_loopg [10,11] (i0+j0) (λk s10 s11 wr=>∃i j:Nat,s10 = .int .i64 (i:Nat)/\s11 = .int .i64 (j:Nat)/\k=i+j/\1<=i/\1<=j/\i<=m/\m+j<=L/\∃f1,Dw wr g T A0 L f1/\aP f1 (m-i) m (m+j)=aP f a m b/\Fr [g] w wr);case atStart=>obtain⟨k0,k1,k2,k3,k4⟩:=H0.out;exact⟨i0,j0,rfl,rfl,rfl,Y4,hj1,by omega,by omega,f,H.out,by rw[show m-i0=a from by omega,show m+j0=b from by omega],.refl _ w⟩
 case round=>
  obtain⟨i,j,rfl,rfl,hk,k1,k2,k3,k4,f1,hD,hr,hf⟩:=hrel;obtain⟨p,hp⟩:=ai (m-i);have e2:(m:Int)-(i:Int)=(p:Int):=by omega
  have b1:i<=100000:=by omega
  have b2:j<=100000:=by omega
  rw[<-hp]at hr;by_cases mO:i=j
  ·subst mO;have hs:=Xe g T A0 L cap i p m f1 cmp wr hD (by omega) (by omega) hL;have er:xW f1 p m i=aP f a m b:=by rw[<-hr,hp];exact zhr f1 m i k3
   rw[er]at hs;have HI:=ak hs hf;clear hs hr er hf hD hp k3 k4;go_wp2_with (go_at_call 223;refine HI.o0.mono ?_;rintro e w2 ⟨rfl,fZ,gD⟩);(try simp only[Exit.inBlock,Exit.then]);refine bodyPost_end (results_none rfl _ _ _) rfl ?_;exact⟨rfl,fZ,HI.l1.trans gD⟩
  ·have cQ:((i:Int)==(j:Int))=false:=by simp only[beq_eq_false_iff_ne];omega
   by_cases hgt:j<i
   ·have hs:=Xe g T A0 L cap j p m f1 cmp wr hD (by omega) (by omega) hL;have er:=zhq f1 m i j k3 hgt;rw[<-hp]at er;have HI:=cJ hs hf er hr hp hk;clear hs hr er hf hD hp hk;obtain⟨q,hq⟩:=ai (i-j);have e3:(i:Int)-(j:Int)=(q:Int):=by omega
    have HQ:=ah hq;clear hq;go_wp2_with (go_at_call 223;refine HI.o0.mono ?_;rintro e w2 ⟨rfl,fZ,gD⟩;have HW:=ak fZ gD;clear fZ gD);have hq:=HQ.out;have hk:=HI.l1.2.2.2.2;go_roundg (q+j);case measure=>omega
    case rel=>exact⟨q,j,by go_num,rfl,rfl,by omega,k2,by omega,k4,_,HW.o0,by rw[hq,HI.l1.2.1,HI.l1.2.2.1],HI.l1.1.trans HW.l1⟩
   ·have bg:i<j:=by omega
    obtain⟨q,hq⟩:=ai (m+j-i);have e3:(m:Int)+(j:Int)-(i:Int)=(q:Int):=by omega
    have hs:=Xe g T A0 L cap i p q f1 cmp wr hD (by omega) (by omega) hL;have er:=zhp f1 m i j k3 bg;rw[<-hp,<-hq]at er;have HI:=dk hs hf er hr hp hk hq;clear hs hr er hf hD hp hk hq;obtain⟨d,hd⟩:=ai (j-i);have e4:(j:Int)-(i:Int)=(d:Int):=by omega
    have HQ:=ah hd;clear hd;go_wp2_with (go_at_call 223;refine HI.o0.mono ?_;rintro e w2 ⟨rfl,fZ,gD⟩;have HW:=ak fZ gD;clear fZ gD);have hd:=HQ.out;have hk:=HI.l1.2.2.2.2.1;have hp:=HI.l1.2.2.2.1;go_roundg (i+d);case measure=>omega
    case rel=>exact⟨i,d,rfl,by go_num,rfl,k1,by omega,k3,by omega,_,HW.o0,by rw[<-hp,hd,HI.l1.2.1,HI.l1.2.2.1],HI.l1.1.trans HW.l1⟩
def Wb (f:Nat->Mc):Prop:=∀i,(f i).worth<=2^50
theorem Wb.rot {f:Nat->Mc} (h:Wb f) (a m b:Nat):Wb (aP f a m b):=λi=>by
 unfold aP;split
 ·exact h _
 ·split<;>exact h _
theorem Wb.sd {f f':Nat->Mc} {a b:Nat} (h:Wb f) (s:Sd f f' a b):Wb f':=λi=>by
 by_cases hi:i<a\/b<=i
 ·rw[s.out i hi];exact h i
 ·have h1:tg (f' i)∈sg f' a (b-a):=sZ.2 ⟨i-a,by omega,by rw[show a+(i-a)=i from by omega]⟩;obtain⟨t,_,ht⟩:=sZ.1 ((s.stb.mem _).1 h1);have:=congrArg Prod.fst ht;simp only[tg]at this;rw[this];exact h _
def vc (x:Mc):Value:=.agg #[.int .i64 (x.worth:Nat),.slice x.ao x.len x.cap]
def jY:Value:=.func (.func 160) #[] #[]
theorem Sw (x y:Mc) (w:World) (hx:x.worth<=2^50) (hy:y.worth<=2^50) :
  Calls Tryz.prog 160 #[vc x,vc y] w λe w'=>e = .returned (.int .i64 ((x.worth:Int)-(y.worth:Int)))/\Fr [] w w':=by
 obtain⟨xw,xa,xl,xc⟩:=x;obtain⟨yw,ya,yl,yc⟩:=y;simp only[vc];simp only at hx hy;go_enter Tryz.func160,Tryz.ntmps160;go_wp2;go_ret;exact⟨rfl,((Fr.refl [] w).alloc _).alloc _⟩
theorem kH (f:Nat->Mc) (x y:Nat):swp f x y=swp f y x:=by funext i;unfold swp;split<;>split<;>simp_all
theorem Dw.fr {w w':World} {g:Nat} {T:TypeId} {A0:AV} {n:Nat} {f:Nat->Mc} (h:Dw w g T A0 n f) (k:Fr [] w w'):Dw w' g T A0 n f:=by obtain⟨A,h1,h2⟩:=h;exact⟨A,k.af h1 (by simp),h2⟩
theorem Dw.drew {w:World} {g:Nat} {T:TypeId} {A0:AV} {n:Nat} {f:Nat->Mc} (h:Dw w g T A0 n f):Dw w.drew g T A0 n f:=h.fr (Fr.av [] w)
theorem Dw.cells {w:World} {g:Nat} {T:TypeId} {A0:AV} {n:Nat} {f:Nat->Mc} (h:Dw w g T A0 n f) {i:Nat} (hi:i<n) :
  w.cell? ⟨g,i*2,none⟩=some (.int .i64 ((f i).worth:Nat))/\w.cell? ⟨g,i*2+1,none⟩=some (.slice (f i).ao (f i).len (f i).cap):=by
 obtain⟨A,h1,_,_,_,h2⟩:=h;exact⟨(cell_of h1 _).trans (h2 i hi).1,(cell_of h1 _).trans (h2 i hi).2⟩
theorem Dw.kW {w:World} {g:Nat} {T:TypeId} {A0:AV} {n:Nat} {f:Nat->Mc} (h:Dw w g T A0 n f) {i:Nat} (hi:i<n) (x:World) :
  (sup [] w x).cell? ⟨g,i*2,none⟩=some (.int .i64 ((f i).worth:Nat))/\(sup [] w x).cell? ⟨g,i*2+1,none⟩=some (.slice (f i).ao (f i).len (f i).cap):=
 (h.fr (dY [] w x)).cells hi
theorem Sd.trans' {f f1 f2:Nat->Mc} {a i:Nat} (h:Sd f f1 a i) (h':Sd f1 f2 a (i+1)):Sd f f2 a (i+1):=by
 refine⟨λt ht=>(h'.out t ht).trans (h.out t (by omega)),h'.srt,h'.stb.trans ?_⟩;by_cases ha:a<=i
 ·rw[nO f1 a i (i+1) ha (by omega),nO f a i (i+1) ha (by omega)];refine fK.append h.stb ?_;rw[vV (f:=f1) (f':=f) λt _=>h.out _ (by omega)];exact .refl _
 ·rw[show i+1-a=0 from by omega,Ij,Ij];exact .refl _
theorem NH (g:Nat) (T:TypeId) (A0:AV) (L cap a b:Nat) (f:Nat->Mc) (w:World)
  (h:Dw w g T A0 L f) (ha:a<=b) (GR:b<=L) (hL:L<=100000) (dH:Wb f) :
  Calls Tryz.prog 201 #[.slice (some ⟨g,0,none⟩) L cap,.int .i64 (a:Nat),.int .i64 (b:Nat),jY] w λe w'=>e = .returned (.tuple #[])/\∃f',Dw w' g T A0 L f'/\Sd f f' a b/\Fr [g] w w':=by
 have H:=aw h dH ha;clear h dH;unfold jY;go_enter Tryz.func201,Tryz.ntmps201;go_wp2;go_loopg [8,9] (b-a) (λk s8 s9 wr=>∃i:Nat,s8 = .int .i64 (i:Nat)/\i+k=b+1/\a+1<=i/\∃f1,Dw wr g T A0 L f1/\Sd f f1 a (min i b)/\Fr [g] w wr);case atStart=>
  refine⟨a+1,by go_num,by have:=H.l2;omega,ay _,f,H.o0,K7 f a _ ?_,.refl _ w⟩;refine DU.2 λx y pJ hy=>?_
  obtain rfl:x=y:=by omega
  exact ay _
 case round=>
  obtain⟨i,rfl,bX,hai,f1,hD,hS,hf⟩:=hrel;by_cases hi:i<b
  ·obtain⟨k,rfl⟩:∃k,gk=k+1:=⟨gk-1,by omega⟩;rw[uP (by omega)]at hS;have BF:=H.o1.sd hS;obtain⟨wo,rfl⟩:∃wo:World,wo=wr:=⟨_,rfl⟩;have HX:=aQ hD hS hf BF bX;have Y2:i<L:=by omega
   have Mb:i<=100000:=by omega
   clear hD hS hf BF bX;go_wp2;go_loopg [9] (i-a) (λk s9 wr=>∃j:Nat,s9 = .int .i64 (j:Nat)/\j=k+a/\j<=i/\(j<i->(f1 i).worth<(f1 j).worth)/\Dw wr g T A0 L (aP f1 j i (i+1))/\Fr [g] w wr);case atStart=>exact⟨i,rfl,by omega,ay _,λh=>absurd h (by omega),by rw[FU f1 i i (i+1) (ay _) (by omega) (.inl rfl)];exact HX.o0,HX.o2⟩
   case round=>
    obtain⟨j,rfl,fx,iz,bg,hD,hf⟩:=hrel;by_cases hja:a<j
    ·obtain⟨k2,rfl⟩:∃k2,gk=k2+1:=⟨gk-1,by omega⟩;obtain⟨q,rfl⟩:∃q,j=q+1:=⟨j-1,by omega⟩;have x0:=Ak (f:=f1) (a:=q+1) (m:=i) (b:=i+1) (t:=q+1) (ay _) (by omega);rw[show q+1-(q+1)+i=i from by omega]at x0;have x1:=ui (f:=f1) (a:=q+1) (m:=i) (b:=i+1) (t:=q) (by omega) (by omega) (.inl (by omega));have d0:=λx=>hD.drew.kW (i:=q+1) (by omega) x
     have d1:=λx=>hD.drew.kW (i:=q) (by omega) x
     rw[x0]at d0;rw[x1]at d1;have b0:=HX.o3 i;have b1:=HX.o3 q;obtain⟨p,hp⟩:=ai (f1 i);obtain⟨r,hr⟩:=ai (f1 q);rw[<-hp]at b0 d0;rw[<-hr]at b1 d1;have HI:=cJ hp hr hD hf fx bg;clear hp hr hD hf fx bg x0 x1;have CA:=λx=>(d0 x).1
     have Cz:=λx=>(d0 x).2
     have d10:=λx=>(d1 x).1
     have d11:=λx=>(d1 x).2
     clear d0 d1;have e0:((q+1:Nat):Int)-1=(q:Int):=by omega
     have g2:decide ((L:Int)<=((q+1:Nat):Int))=false:=by simp;omega
     have g4:decide ((L:Int)<=(q:Int))=false:=by simp;omega
     obtain⟨j,hj⟩:=ai (q+1);rw[<-hj]at CA Cz e0 g2 iz hja ⊢;have HJ:=ah hj;clear hj;go_upto_region 4 with fail;refine j4 17 [(false,0),(false,1),(false,2),(false,3),(false,4),(false,5),(false,6),(false,7),(false,8),(false,9),(false,10),(false,11),(false,12),(false,13),(true,14),(false,15),(false,16)] [] (by kernel_rfl) (by kernel_rfl) (λ_ _ d _ _ h=>by cases d<;>exact h) ?_;simp only[jm];refine dT 14 rfl ?_;simp only[bD];repeat (go_big_quiet_step (fail))
     refine wpQuiet_nil ?_;refine eT rfl ?_;intro K hK;go_wp2_with (go_at_call 160;refine (Sw p r wr.drew b0 b1).mono ?_;rintro e w1 ⟨rfl,jT⟩);refine hK.out _ _ jT ?_;clear hK K CA Cz d10 d11;have H1:=ah jT;clear jT;by_cases hpr:p.worth<r.worth
     ·have g5:decide (((p.worth:Int)-(r.worth:Int))<0)=true:=by simp;omega
      refine dT 2 rfl ?_;simp only[bD];repeat (go_big_quiet_step (fail))
      refine wpQuiet_nil ?_;refine ic ?_;go_wp2;have hD:Dw w1 g T A0 L (aP f1 j i (i+1)):=by rw[HJ.out];exact (HI.out.2.2.1.drew).fr H1.out
      have mz:j<L:=by omega
      have qB:q<L:=by omega
      have pJ:j≠q:=by have:=HJ.out;omega
      obtain⟨A,hA,dW,nF,dZ,jG⟩:=hD;have X:=jG j mz;have Y:=jG q qB;obtain⟨cx,lH⟩:=ai ((aP f1 j i (i+1)) j);obtain⟨cy,lX⟩:=ai ((aP f1 j i (i+1)) q);rw[<-lH]at X;rw[<-lX]at Y;obtain⟨CB,CF,CC,CD⟩:=cx;obtain⟨vJ,vM,vK,vL⟩:=cy;have d0:=(cell_of hA (j*2)).trans X.1;have d1:=(cell_of hA (j*2+1)).trans X.2;have d2:=(cell_of hA (q*2)).trans Y.1;have d3:=(cell_of hA (q*2+1)).trans Y.2;simp only at d0 d1 d2 d3;have iF:=dk hA dW nF dZ jG lH lX;clear hA dW nF dZ jG lH lX X Y;go_upto_region 6 with fail;refine Iy [(0,0),(0,1),(0,2),(0,3),(0,4),(0,5),(0,6),(0,7),(0,8),(1,9),(0,10),(0,11),(0,12),(1,13),(0,14),(2,15),(0,16),(2,17)] [g] [15,17] (by kernel_rfl) (by kernel_rfl) (λ_ _ d _ _ h=>by cases d<;>exact h) ?_;simp only[gX,qq,Bq,Bp];refine nN 9 rfl ?_;simp only[bD];repeat (go_big_quiet_step (fail))
      refine wpQuiet_nil ?_;refine x5 1 rfl ?_;simp only[bD];repeat (go_big_quiet_step (fail))
      refine wpQuiet_nil ?_;refine nN 3 rfl ?_;simp only[bD];repeat (go_big_quiet_step (fail))
      refine wpQuiet_nil ?_;refine x5 1 rfl ?_;simp only[bD];repeat (go_big_quiet_step (fail))
      refine wpQuiet_nil ?_;refine nN 1 rfl ?_;simp only[bD];repeat (go_big_quiet_step (fail))
      refine wpQuiet_nil ?_;refine xZ rfl ?_;intro K hK;have z0:=aW iF.out.1 (j*2);have z1:=aW iF.out.1 (j*2+1);go_wp2;refine hK.out _ _ (Fr.bA ((((Fr.refl [g] w1).setCell (by simp) _).setCell (by simp) _).drew)) ?_;clear hK K z0 z1;obtain⟨gV,dJ⟩:∃gV,gV=((w1.setCell ⟨g,j*2,none⟩ (.int .i64 (vJ:Nat))).setCell ⟨g,j*2+1,none⟩ (.slice vM vK vL)):=⟨_,rfl⟩;rw[<-dJ];have dI:=bI (o:=j*2+1) (bI (o:=j*2) iF.out.1 (.int .i64 vJ)) (.slice vM vK vL);rw[<-dJ]at dI;obtain⟨A1,hB⟩:∃A1,A1=(A.setIfInBounds (j*2) (.int .i64 (vJ:Nat))).setIfInBounds (j*2+1) (.slice vM vK vL):=⟨_,rfl⟩;rw[<-hB]at dI;have z0:=aW dI (q*2);have z1:=aW dI (q*2+1);have c2:gV.cell? ⟨g,q*2,none⟩=some (.int .i64 vJ):=by rw[cell_of dI,hB,aX (by omega),aX (by omega),<-cell_of iF.out.1];exact d2
      have c3:gV.cell? ⟨g,q*2+1,none⟩=some (.slice vM vK vL):=by rw[cell_of dI,hB,aX (by omega),aX (by omega),<-cell_of iF.out.1];exact d3
      have AL:=aw dI hB dJ;clear dI hB dJ d0 d1 d2 d3;refine nN 1 rfl ?_;simp only[bD];repeat (go_big_quiet_step (fail))
      refine wpQuiet_nil ?_;refine xZ rfl ?_;intro K hK;go_wp2;refine hK.out _ _ (Fr.bA ((((Fr.refl [g] gV).setCell (by simp) _).setCell (by simp) _).drew)) ?_;clear hK K z0 z1 c2 c3;refine Il ?_;obtain⟨w2,bL⟩:∃w2,w2=((gV.setCell ⟨g,q*2,none⟩ (.int .i64 (CB:Nat))).setCell ⟨g,q*2+1,none⟩ (.slice CF CC CD)):=⟨_,rfl⟩;rw[<-bL];have HZ:Hid (Dw w2 g T A0 L (swp (aP f1 j i (i+1)) q j)/\Fr [g] w1 w2):=by obtain⟨hA,dW,nF,dZ,jG,lH,lX⟩:=iF.out;obtain⟨dI,hB,dJ⟩:=AL.out;have jv:=bI (o:=q*2+1) (bI (o:=q*2) dI (.int .i64 CB)) (.slice CF CC CD);rw[hB,<-bL]at jv;exact ah ⟨Dw.swap _ CB CF CC CD vJ vM vK vL dW nF dZ jG mz qB lH lX jv,by rw[bL,dJ];exact ((((Fr.refl [g] w1).setCell (by simp) _).setCell (by simp) _).setCell (by simp) _).setCell (by simp) _⟩
      clear bL;go_wp2;go_roundg k2;case measure=>have:=HI.out.2.2.2.2.1;omega
      case rel=>
       obtain⟨hp,hr,hD,hf,fx,bg⟩:=HI.out;have hj:=HJ.out;refine⟨q,by go_num,by omega,by omega,λ_=>by rw[<-hp,<-hr];exact hpr,?_,?_⟩
       ·have:=HZ.o0;have e:=Sl f1 i (q+1) (by omega) (by omega);rw[Ir]at e;rw[hj,kH,e]at this;exact this.drew
       ·exact ((hf.drew).trans (H1.out.mono (by simp))).trans HZ.l1.drew
     ·have g5:decide (((p.worth:Int)-(r.worth:Int))<0)=false:=by simp;omega
      refine dT 2 rfl ?_;simp only[bD];repeat (go_big_quiet_step (fail))
      refine wpQuiet_nil ?_;refine ic ?_;go_wp2;go_roundg k;case measure=>have:=HX.l4;omega
      case rel=>obtain⟨hp,hr,hD,hf,fx,bg⟩:=HI.out;have hj:=HJ.out;have bX:=HX.l4;refine⟨i+1,by go_num,by omega,by omega,aP f1 j i (i+1),by rw[hj];exact hD.drew.fr H1.out,?_,(hf.drew).trans (H1.out.mono (by simp))⟩;rw[uP (by omega)];exact HX.o1.trans' (Lk f1 a i j (by omega) iz HX.o1.srt (λ_=>by rw[show j-1=q from by omega,<-hr,<-hp];omega) (λh=>by rw[hj]at h ⊢;exact bg h))
    ·have Ju:j=a:=by omega
     have HI:=aw hD hf bg;have g5:decide ((a:Int)<(j:Int))=false:=by simp;omega
     have HJ:=ah Ju;clear hD hf bg fx Ju;go_upto_region 4 with fail;refine j4 17 [(false,0),(false,1),(false,2),(false,3),(false,4),(false,5),(false,6),(false,7),(false,8),(false,9),(false,10),(false,11),(false,12),(false,13),(true,14),(false,15),(false,16)] [] (by kernel_rfl) (by kernel_rfl) (λ_ _ d _ _ h=>by cases d<;>exact h) ?_;simp only[jm];refine dT 14 rfl ?_;simp only[bD];repeat (go_big_quiet_step (fail))
     repeat (go_big_quiet_step (fail))
     refine wpQuiet_nil ?_;refine Nf rfl ?_;simp only[Act.put,nR,oD,nP];refine dT 2 rfl ?_;simp only[bD];repeat (go_big_quiet_step (fail))
     refine wpQuiet_nil ?_;refine ic ?_;go_wp2;go_roundg k;case measure=>have:=HX.l4;omega
     case rel=>obtain⟨hD,hf,bg⟩:=HI.out;have bX:=HX.l4;have Ju:=HJ.out;refine⟨i+1,by go_num,by omega,by omega,aP f1 j i (i+1),hD.drew,?_,hf.drew⟩;rw[uP (by omega)];exact HX.o1.trans' (Lk f1 a i j (by omega) iz HX.o1.srt (λh=>absurd h (by omega)) bg)
  ·have HI:=aw hD hS hf;have e:min i b=b:=by omega
   rw[e]at hS;clear hD hf e bX;have HS:=ah hS;clear hS;go_wp2;(try simp only[Exit.inBlock,Exit.then]);refine bodyPost_end (results_none rfl _ _ _) rfl ?_;exact⟨rfl,f1,HI.out.1,HS.out,HI.out.2.2⟩
end huf

end Go.Proofs.YtkmpfgpfbmeihaaGreatDoor