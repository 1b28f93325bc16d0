/-
  Texts of this proof, one behind the other: HuffKr, HuffStab, MixE, SortA, SortP, SortB, SortC.
-/
import Derived.Test.YtkmpfgpfbmeihaaGreatDoorU6
set_option maxHeartbeats 16000000
set_option maxRecDepth 100000
set_option linter.unusedVariables false
set_option linter.unusedSimpArgs false
namespace Go.Proofs.YtkmpfgpfbmeihaaGreatDoor
namespace huf
open Go
theorem DI:∀l:List aI,(aB l).length=l.length/2
 | []=>rfl
 | [x]=>by simp[aB]
 | x::y::t=>by rw[aB,cQ,DI t];simp only[cQ];omega
theorem DA:∀(l:List aI) (j:Nat) (y:aI),(aB l)[j]?=some y->∃u v,l[2*j]?=some u/\l[2*j+1]?=some v/\y=(u.1+v.1,u.2++v.2)
 | [],j,y,h=>by simp[aB]at h
 | [x],j,y,h=>by simp[aB]at h
 | x::z::t,0,y,h=>by
  simp only[aB,aV,eS]at h;exact⟨x,z,rfl,rfl,h.symm⟩
 | x::z::t,j+1,y,h=>by rw[aB,bN]at h;obtain⟨u,v,h1,h2,h3⟩:=DA t j y h;exact⟨u,v,by rw[show 2*(j+1)=2*j+1+1 from by omega];exact h1,by rw[show 2*(j+1)+1=2*j+1+1+1 from by omega];exact h2,h3⟩
theorem VR {l:List aI} (h:Sorted l) {i j:Nat} {x y:aI} (hi:l[i]?=some x) (hj:l[j]?=some y) (jW:i<=j):x.1<=y.1:=by
 obtain⟨h1,rfl⟩:=lA.1 hi;obtain⟨h2,rfl⟩:=lA.1 hj;by_cases e:i=j
 ·subst e;exact aw _
 ·exact FD.1 h i j h1 h2 (by omega)
theorem qk8 (l:List aI) (h:Sorted l):Sorted (aB l):=by
 refine FD.2 λi j hi hj jW=>?_
 obtain⟨u,v,h1,h2,h3⟩:=DA l i _ (bO hi);obtain⟨u',v',k1,k2,k3⟩:=DA l j _ (bO hj);rw[h3,k3];have a1:=VR h h1 k1 (by omega);have a2:=VR h h2 k2 (by omega);simp only;omega
theorem Vg:∀(l:List aI) (p:Nat),p<=(aB l).length->((aB l).take p).flatMap (·.2)=(l.take (2*p)).flatMap (·.2)
 | l,0,_=>by simp
 | [],p+1,h=>by simp[aB]at h
 | [x],p+1,h=>by simp[aB]at h
 | x::y::t,p+1,h=>by rw[aB,show 2*(p+1)=2*p+1+1 from by omega];simp only[qY,Av,gH];rw[Vg t p (by rw[aB,cQ]at h;omega)]
def Pos (l:List aI):Prop:=∀x∈l,0<x.1
theorem qw4 (l:List aI) (h:Pos l):Pos (aB l):=by intro y hy;obtain⟨j,hj⟩:=List.getElem?_of_mem hy;obtain⟨u,v,h1,h2,rfl⟩:=DA l j y hj;have:=h u (iC h1);simp only;omega
theorem Um (a b:List aI) (z:aI) (hz:z∈mL a b):z∈a\/z∈b:=by
 have h1:=Fl a b (mL a b).length;rw[oI (aw _)]at h1;rcases jy.1 (h1.mem_iff.1 hz) with k|k
 ·exact .inl (xF k)
 ·exact .inr (xF k)
def row (l:List aI):Nat->List aI
 | 0=>[]
 | k+1=>mL l (aB (row l k))
theorem VQ (l:List aI) (h:Sorted l):∀k,Sorted (row l k)
 | 0=>List.Pairwise.nil
 | k+1=>RE l _ h (qk8 _ (VQ l h k))
theorem Ut (l:List aI) (h:Pos l):∀k,Pos (row l k)
 | 0=>by intro x hx;cases hx
 | k+1=>by
  intro x hx;rcases Um _ _ x hx with hx|hx
  ·exact h x hx
  ·exact qw4 _ (Ut l h k) x hx
theorem VP (l:List aI) (k:Nat):(row l (k+1)).length=l.length+(row l k).length/2:=by rw[row,Au,DI]
theorem qwl (l:List aI) (L:Nat) (hn:l.length<=2^L):∀k,k<=L->2*l.length<=(row l (k+1)).length+2^(L-k)
 | 0,_=>by
  rw[VP,Cq];show 2*l.length<=l.length+0/2+2^L;omega
 | k+1,h=>by
  have ih:=qwl l L hn k (by omega);rw[VP];have e:2^(L-k)=2*2^(L-(k+1)):=by rw[show L-k=L-(k+1)+1 from by omega,pK,nE]
  omega
def sl (l:List aI) (k m:Nat):Nat×Nat:=kP l (aB (row l k)) m
def gY (l:List aI):Nat->Nat->Nat->Nat
 | 0,_,_=>0
 | k+1,m,i=>(if i<(sl l k m).1 then 1 else 0)+gY l k (2*(sl l k m).2) i
theorem Ul (l:List aI):∀k m i,gY l k m i<=k
 | 0,_,_=>aw _
 | k+1,m,i=>by have:=Ul l k (2*(sl l k m).2) i;rw[gY];split<;>omega
theorem qk3 {l:List aI} {m:Nat} {x:aI} (h:x∈l.take m):∃t,t<m/\l[t]?=some x:=by
 obtain⟨t,ht⟩:=List.getElem?_of_mem h;rw[oY]at ht;split at ht
 ·exact⟨t,by assumption,ht⟩
 ·cases ht
theorem V7 {l:List aI} {m t:Nat} {x:aI} (h:l[t]?=some x) (ht:t<m):x∈l.take m:=by refine iC (i:=t) ?_;rw[oY,if_pos ht,h]
theorem zdf (l:List aI) (hs:Sorted l) (hp:Pos l) (k m i:Nat) (hm:m<=(row l (k+2)).length) (h:i<(sl l k (2*(sl l (k+1) m).2)).1):i<(sl l (k+1) m).1:=by
 have jA:m<=l.length+(aB (row l (k+1))).length:=by rw[row,Au]at hm;exact hm
 obtain⟨_,_,zQ⟩:=Ct l (aB (row l (k+1))) m jA;change (sl l (k+1) m).2<=_ at zQ;rw[DI]at zQ;generalize hP:(sl l (k+1) m).2=P at *;have hr:2*P<=l.length+(aB (row l k)).length:=by
  have:(row l (k+1)).length=l.length+(aB (row l k)).length:=by rw[row,Au]
  omega
 obtain⟨_,ha,_⟩:=Ct l (aB (row l k)) (2*P) hr;change (sl l k (2*P)).1<=_ at ha;have eC:i<l.length:=by omega
 have hx:l[i]?=some l[i]:=bO eC;have kI:l[i]∈(row l (k+1)).take (2*P):=by have h1:=Fl l (aB (row l k)) (2*P);rw[show mL l (aB (row l k))=row l (k+1) from rfl]at h1;exact h1.mem_iff.2 (jy.2 (.inl (V7 hx h)))
 obtain⟨t,ht,Sk⟩:=qk3 kI;have hj:t/2<(aB (row l (k+1))).length:=by rw[DI];omega
 obtain⟨u,v,h1,h2,h3⟩:=DA _ _ _ (bO hj);have jo:=Ut l hp (k+1);have hu:=jo u (iC h1);have hv:=jo v (iC h2);have aY:l[i].1<((aB (row l (k+1)))[t/2]).1:=by
  rw[h3];simp only;rcases (show t=2*(t/2)\/t=2*(t/2)+1 from by omega) with e|e
  ·rw[e,h1]at Sk;rw[<-lL Sk];omega
  ·rw[e,h2]at Sk;rw[<-lL Sk];omega
 exact Vo l (aB (row l (k+1))) m i (t/2) l[i] _ hs hx (bO hj) aY (by
  change t/2<(sl l (k+1) m).2
  rw[hP]
  omega)
theorem qqq (l:List aI) (hs:Sorted l) (hp:Pos l):∀k m i,m<=(row l (k+1)).length->(sl l k m).1<=i->gY l (k+1) m i=0
 | 0,m,i,_,h=>by rw[gY,if_neg (by omega),gY]
 | k+1,m,i,hm,h=>by
  have jA:m<=l.length+(aB (row l (k+1))).length:=by rw[row,Au]at hm;exact hm
  obtain⟨_,_,zQ⟩:=Ct l (aB (row l (k+1))) m jA;change (sl l (k+1) m).2<=_ at zQ;rw[DI]at zQ;rw[gY,if_neg (by omega),fM];refine qqq l hs hp k _ i (by omega) ?_;rcases og i (sl l k (2*(sl l (k+1) m).2)).1 with hc|hc
  ·have:=zdf l hs hp k m i hm hc;omega
  ·exact hc
def cE:Nat->(Nat->Nat)->Nat
 | 0,_=>0
 | n+1,f=>cE n f+f n
theorem V2 {f g:Nat->Nat}:∀n,(∀i,i<n->f i=g i)->cE n f=cE n g
 | 0,_=>rfl
 | n+1,h=>by rw[cE,cE,V2 n λi hi=>h i (by omega),h n (by omega)]
theorem ql8 (f:Nat->Nat) (c a:Nat):∀n,cE n (λi=>if i<a then f i else f i+c)=cE n f+(n-a)*c
 | 0=>by simp[cE]
 | n+1=>by
  rw[cE,cE,ql8 f c a n];by_cases h:n<a
  ·rw[if_pos h,show n+1-a=0 from by omega,show n-a=0 from by omega];omega
  ·rw[if_neg h,show n+1-a=n-a+1 from by omega,rC,Nat.one_mul];omega
theorem qtw (l:List aI) (hs:Sorted l) (hp:Pos l):∀k m,m<=(row l k).length->2*cE l.length (λi=>2^(k-gY l k m i))+m*2^k=2*(l.length*2^k)
 | 0,m,hm=>by
  have:m=0:=by simpa[row] using hm
  subst this;have e:∀n,cE n (λi=>2^(0-gY l 0 0 i))=n:=λn=>by
   induction n with
   | zero=>rfl
   | succ n ih=>rw[cE,ih];simp
  rw[e];omega
 | k+1,m,hm=>by
  have jA:m<=l.length+(aB (row l k)).length:=by rw[row,Au]at hm;exact hm
  obtain⟨h1,h2,h3⟩:=Ct l (aB (row l k)) m jA;change (sl l k m).1+(sl l k m).2=m at h1;change (sl l k m).1<=_ at h2;change (sl l k m).2<=_ at h3;rw[DI]at h3;have ih:=qtw l hs hp k (2*(sl l k m).2) (by omega);have NG:cE l.length (λi=>2^(k+1-gY l (k+1) m i))=cE l.length (λi=>if i<(sl l k m).1 then 2^(k-gY l k (2*(sl l k m).2) i) else 2^(k-gY l k (2*(sl l k m).2) i)+2^k):=by
   refine V2 _ λi _=>?_
   by_cases hi:i<(sl l k m).1
   ·rw[if_pos hi,gY,if_pos hi];congr 1;omega
   ·have hz:=qqq l hs hp k m i hm (by omega);have lS:=hz;rw[gY,if_neg hi,fM]at lS;rw[if_neg hi,hz,lS,Cq,Cq,pK];omega
  rw[NG,ql8];generalize cE l.length (λi=>2^(k-gY l k (2*(sl l k m).2) i))=S at *;generalize (sl l k m).1=a at *;generalize (sl l k m).2=p at *;obtain⟨q,hq⟩:∃q,l.length=a+q:=⟨l.length-a,by omega⟩;rw[hq]at ih ⊢;rw[show a+q-a=q from by omega,<-h1,pK];generalize 2^k=P at *;simp only[rC,Ah]at ih ⊢;have e1:2*p*P=2*(p*P):=vH _ _ _;have e2:a*(P*2)=2*(a*P):=by rw[<-vH,nE]
  have e3:p*(P*2)=2*(p*P):=by rw[<-vH,nE]
  have e4:q*(P*2)=2*(q*P):=by rw[<-vH,nE]
  omega
theorem qtr (l:List aI) (hs:Sorted l) (hp:Pos l) (X:aI) (hn:2<=l.length) (hX:l[l.length-1]?=some X):∀k y,(aB (row l k))[l.length-2]?=some y->X.1<=y.1
 | 0,y,h=>by simp[row,aB]at h
 | k+1,y,h=>by
  rcases og y.1 X.1 with hc|hc
  ·exfalso;obtain⟨u,v,h1,h2,rfl⟩:=DA _ _ _ h;have hu:=Ut l hp (k+1) u (iC h1);simp only at hc;have hvX:v.1<X.1:=by omega
   have hlen:2*(l.length-2)+1<(row l (k+1)).length:=(lA.1 h2).1;have AY:∀z∈(row l (k+1)).take (2*l.length-2),z.1<=v.1:=λz hz=>by obtain⟨t,ht,Sj⟩:=qk3 hz;exact VR (VQ l hs (k+1)) Sj h2 (by omega)
   have Bb:=Fl l (aB (row l k)) (2*l.length-2);rw[show mL l (aB (row l k))=row l (k+1) from rfl]at Bb;have rh:(row l (k+1)).length=l.length+(aB (row l k)).length:=by rw[row,Au]
   obtain⟨s1,s2,s3⟩:=Ct l (aB (row l k)) (2*l.length-2) (by omega);have ha:(kP l (aB (row l k)) (2*l.length-2)).1<=l.length-1:=by
    rcases og (l.length-1) (kP l (aB (row l k)) (2*l.length-2)).1 with ky|ky
    ·have:=AY X (Bb.mem_iff.2 (jy.2 (.inl (V7 hX ky))));omega
    ·exact ky
   have hj:l.length-2<(aB (row l k)).length:=by omega
   have hy':=bO hj;have h3:=qtr l hs hp X hn hX k _ hy';have h4:=AY _ (Bb.mem_iff.2 (jy.2 (.inr (V7 hy' (show l.length-2<_ by omega)))));omega
  ·exact hc
theorem qzp (l:List aI) (hs:Sorted l) (hp:Pos l) (k:Nat) (hn:2<=l.length) (hm:2*l.length-2<=(row l (k+1)).length):(sl l k (2*l.length-2)).1=l.length:=by
 have hX:l[l.length-1]?=some l[l.length-1]:=bO (by omega);have rh:(row l (k+1)).length=l.length+(aB (row l k)).length:=by rw[row,Au]
 obtain⟨s1,s2,s3⟩:=Ct l (aB (row l k)) (2*l.length-2) (by omega);unfold sl;rcases og (kP l (aB (row l k)) (2*l.length-2)).1 l.length with hc|hc
 ·exfalso;have hj:l.length-2<(aB (row l k)).length:=by omega
  have hy:=bO hj;have h1:=Vn l (aB (row l k)) (2*l.length-2) (l.length-1) (l.length-2) _ _ hs hX hy (by omega) (by omega);have h2:=qtr l hs hp _ hn hX k _ hy;omega
 ·omega
theorem zan (l:List aI) (hs:Sorted l) (hp:Pos l) (L:Nat) (hL:1<=L) (hn:2<=l.length) (SA:l.length<=2^L) :
  2*l.length-2<=(row l L).length/\(∀i,i<l.length->1<=gY l L (2*l.length-2) i)/\cE l.length (λi=>2^(L-gY l L (2*l.length-2) i))=2^L:=by
 obtain⟨k,rfl⟩:∃k,L=k+1:=⟨L-1,by omega⟩;have hb:=qwl l (k+1) SA k (by omega);rw[show k+1-k=1 from by omega,Nat.pow_one]at hb;refine⟨by omega,λi hi=>?_,?_⟩
 ·have:=qzp l hs hp k hn (by omega);rw[gY,if_pos (by omega)];omega
 ·have h1:=qtw l hs hp (k+1) (2*l.length-2) (by omega);obtain⟨q,hq⟩:∃q,l.length=q+1:=⟨l.length-1,by omega⟩;generalize cE l.length (λi=>2^(k+1-gY l (k+1) (2*l.length-2) i))=S at *;rw[hq]at h1;generalize 2^(k+1)=P at *;rw[show 2*(q+1)-2=2*q from by omega,vH,rC,Nat.one_mul]at h1;omega
def eE {α:Type} (a b:List (Nat×α)):Prop:=∀k:Nat,a.filter (λx=>x.1==k)=b.filter λx=>x.1==k
theorem eE.refl {α:Type} (a:List (Nat×α)):eE a a:=λ_=>rfl
theorem eE.symm {α:Type} {a b:List (Nat×α)} (h:eE a b):eE b a:=λk=>(h k).symm
theorem eE.trans {α:Type} {a b c:List (Nat×α)} (h:eE a b) (h':eE b c):eE a c:=λk=>(h k).trans (h' k)
theorem eE.append {α:Type} {a b c d:List (Nat×α)} (h:eE a b) (h':eE c d):eE (a++c) (b++d):=λk=>by rw[CG,CG,h k,h' k]
theorem eE.swap {α:Type} {a b:List (Nat×α)} (h:∀x∈a,∀y∈b,y.1<x.1):eE (a++b) (b++a):=λk=>by
 rw[CG,CG];by_cases ha:a.filter (λx=>x.1==k)=[]
 ·rw[ha];simp
 ·obtain⟨x,hx⟩:=List.exists_mem_of_ne_nil _ ha;have zM:=G5.1 hx;have e:x.1=k:=by simpa using zM.2
  have hb:b.filter (λy=>y.1==k)=[]:=by
   refine List.filter_eq_nil_iff.2 λy hy=>?_
   have:=h x zM.1 y hy;simp only[beq_iff_eq];omega
  rw[hb];simp
theorem eE.mem {α:Type} {a b:List (Nat×α)} (h:eE a b) (x:Nat×α):x∈a↔x∈b:=by
 have h1:x∈a↔x∈a.filter (λy=>y.1==x.1):=by simp[G5]
 have h2:x∈b↔x∈b.filter (λy=>y.1==x.1):=by simp[G5]
 rw[h1,h2,h x.1]
def dX {α:Type} (l:List (Nat×α)):Prop:=l.Pairwise λa b=>a.1<=b.1
theorem qtc {α:Type} {A1 A2 B1 B2 L R:List (Nat×α)} (hA:dX (A1++A2)) (hB:dX (B1++B2))
  (h1:∀x∈A2,∀y∈B1,y.1<x.1) (h2:∀x∈A1,∀y∈B2,x.1<=y.1)
  (hL:dX L) (hLs:eE L (A1++B1)) (hR:dX R) (hRs:eE R (A2++B2)) :
  dX (L++R)/\eE (L++R) (A1++A2++(B1++B2)):=by
 refine⟨Fv.2 ⟨hL,hR,λx hx y hy=>?_⟩,?_⟩
 ·rcases jy.1 ((hLs.mem x).1 hx) with a|a<;>rcases jy.1 ((hRs.mem y).1 hy) with b|b
  ·exact (Fv.1 hA).2.2 x a y b
  ·exact h2 x a y b
  ·exact Nat.le_of_lt (h1 y b x a)
  ·exact (Fv.1 hB).2.2 x a y b
 ·refine (hLs.append hRs).trans ?_;have:=eE.append (eE.append (.refl A1) (eE.symm (eE.swap h1))) (.refl B2);simpa[gH] using this
theorem qtj {α:Type} {x:Nat×α} {B1 B2:List (Nat×α)} (hB:dX (B1++B2)) (h1:∀y∈B1,y.1<x.1) (h2:∀y∈B2,x.1<=y.1) :
  dX (B1++x::B2)/\eE (B1++x::B2) (x::(B1++B2)):=by
 obtain⟨fx,jY,jd⟩:=Fv.1 hB;refine⟨Fv.2 ⟨fx,tV.2 ⟨h2,jY⟩,λa ha y hy=>?_⟩,?_⟩
 ·rcases gw.1 hy with e|e
  ·rw[e];exact Nat.le_of_lt (h1 a ha)
  ·exact jd a ha y e
 ·have:=eE.append (eE.symm (eE.swap (a:=[x]) (b:=B1) λa ha y hy=>by rw[iQ.1 ha];exact h1 y hy)) (.refl B2);simpa[gH] using this
theorem qqc {α:Type} {x:Nat×α} {A1 A2:List (Nat×α)} (hA:dX (A1++A2)) (h1:∀y∈A1,y.1<=x.1) (h2:∀y∈A2,x.1<y.1) :
  dX (A1++x::A2)/\eE (A1++x::A2) (A1++A2++[x]):=by
 obtain⟨EA,ua,ha3⟩:=Fv.1 hA;refine⟨Fv.2 ⟨EA,tV.2 ⟨λy hy=>Nat.le_of_lt (h2 y hy),ua⟩,λa ha y hy=>?_⟩,?_⟩
 ·rcases gw.1 hy with e|e
  ·rw[e];exact h1 a ha
  ·exact ha3 a ha y e
 ·have:=eE.append (.refl A1) (eE.symm (eE.swap (a:=A2) (b:=[x]) λa ha y hy=>by rw[iQ.1 hy];exact h2 a ha));simpa[gH] using this
theorem qnt:∀(a b:List aI),Sorted a->Sorted b->eE a b->a=b
 | [],[],_,_,_=>rfl
 | [],y::b,_,_,h=>absurd ((h.mem y).2 Hw) (by simp)
 | x::a,[],_,_,h=>absurd ((h.mem x).1 Hw) (by simp)
 | x::a,y::b,ha,hb,h=>by
  have hx:y.1<=x.1:=by
   rcases gw.1 ((h.mem x).1 Hw) with e|e
   ·rw[e];exact aw _
   ·exact (tV.1 hb).1 x e
  have hy:x.1<=y.1:=by
   rcases gw.1 ((h.mem y).2 Hw) with e|e
   ·rw[e];exact aw _
   ·exact (tV.1 ha).1 y e
  have he:x.1=y.1:=by omega
  have h1:=h x.1;rw[List.filter_cons_of_pos (by simp),List.filter_cons_of_pos (by simp[he])]at h1;have rG:x=y:=(List.cons.inj h1).1;subst rG;rw[qnt a b (tV.1 ha).2 (tV.1 hb).2 λk=>?_];have h2:=h k;rw[G8,G8]at h2;split at h2
  ·exact (List.cons.inj h2).2
  ·exact h2
theorem Uo:∀(l p:List aI),Sorted l->eE (mL l p) (l++p)
 | [],p,_=>by rw[Un,vI];exact .refl _
 | x::l,[],_=>by rw[MR,nF];exact .refl _
 | x::l,y::p,hs=>by
  by_cases h:x.1<=y.1
  ·rw[QJ h];exact eE.append (.refl [x]) (Uo l (y::p) (tV.1 hs).2)
  ·rw[QI h];have h1:eE (y::mL (x::l) p) ([y]++((x::l)++p)):=eE.append (.refl [y]) (Uo (x::l) p hs);refine h1.trans ?_;rw[<-gH,show (x::l)++y::p=((x::l)++[y])++p from by simp];refine eE.append (eE.symm (eE.swap λa ha b hb=>?_)) (.refl p);rw[iQ.1 hb];rcases gw.1 ha with e|e
   ·rw[e];omega
   ·have:=(tV.1 hs).1 a e;omega
termination_by l p=>l.length+p.length
theorem qur {l p r:List aI} (hl:Sorted l) (hp:Sorted p) (hr:Sorted r) (h:eE r (l++p)):r=mL l p:=
 qnt _ _ hr (RE l p hl hp) (h.trans (Uo l p hl).symm)
end huf
namespace lib
open Go
section
variable {P : Program} {ops : Array Oper} {Q : Exit -> Act -> World -> Prop} {md : Region.Mode}
def Aa (P:Program) (md:Region.Mode) (ops:Array Oper) (Q:Exit->Act->World->Prop) (D:Nat->World->World->Prop):Nat->Array Bool->Act->World->Prop
 | 0,listed,a,w=>Region.ready md ops listed=[]/\Q .normal a w
 | f+1,listed,a,w=>(Region.ready md ops listed=[]->Q .normal a w)/\
  ∀i∈Region.ready md ops listed,wpOp P ops Q i (λa' w'=>D i w w'/\Aa P md ops Q D f (listed.setIfInBounds i true) a' w') a w
theorem qlt {D:Nat->World->World->Prop}:∀(f:Nat) (listed:Array Bool) (a:Act) (w:World),Aa P md ops Q D f listed a w->wpAny P md ops Q f listed a w
 | 0,_,_,_,h=>h
 | f+1,_,_,_,h=>⟨h.1,λi hi=>wpOp_mono (λa' w' h'=>qlt f _ a' w' h'.2) (h.2 i hi)⟩
theorem RH {i:Nat} {oi:Oper} {v:Value} {C:World->Prop} {D:Nat->World->World->Prop} (hi:ops[i]?=some oi) (ck:∀(j:Nat) (o:Oper) cs b,ops[j]?=some o->o.op≠.select cs b)
  (hQ:∀c a d v w,Q (.panic c) (Act.put a d v) w->Q (.panic c) a w) (Gx:∀w,D i w w)
  (hT:∀listed,listed.getD i true=false->∀t∈Region.ready md ops listed,t≠i->∀w w',C w->D t w w'->C w') :
  ∀(f:Nat) (listed:Array Bool) (a:Act) (w:World),
   (∀j oj,ops[j]?=some oj->j≠i->listed.getD j true=false->(∀e∈oj.after,Region.binds md e=true->e.on≠i)->oi.apart ops oj=true)->
   i∈Region.ready md ops listed->QY P ops C oi v a->C w->
   Aa P md ops Q D f (listed.setIfInBounds i true) (a.put oi.dst v) w->Aa P md ops Q D (f+1) listed a w:=by
 intro f;induction f with
 | zero=>
  intro listed a w _ hr hy hC H;refine⟨λh=>(by rw[h]at hr;cases hr),λj hj=>?_⟩;by_cases ia:j=i
  ·subst ia;exact hy.op hi hC ⟨Gx w,H⟩
  ·have:=ready_mono hj ia;rw[H.1]at this;cases this
 | succ f ih=>
  intro listed a w oA hr hy hC H;have nK:=(mem_ready.1 hr).1;refine⟨λh=>(by rw[h]at hr;cases hr),λj hj=>?_⟩;by_cases ia:j=i
  ·subst ia;exact hy.op hi hC ⟨Gx w,H⟩
  ·have h1:=H.2 j (ready_mono hj ia);obtain⟨uW,oj,qd,aE⟩:=mem_ready.1 hj;have Bf:∀e∈oj.after,Region.binds md e=true->e.on≠i:=λe he hb heq=>by have h1:=aE e he hb;rw[heq,getD_both nK]at h1;cases h1
   have h2:=Vh qd (oA j oj qd ia uW Bf) (λcs b=>ck i oi cs b hi) (λcs b=>ck j oj cs b qd) hQ hy h1;have qz:∀k ok,ops[k]?=some ok->k≠i->(listed.setIfInBounds j true).getD k true=false->
     (∀e∈ok.after,Region.binds md e=true->e.on≠i)->oi.apart ops ok=true:=λk ok hk Bk uV mT=>by
    refine oA k ok hk Bk ?_ mT
    by_cases eG:j=k
    ·subst eG;exact uW
    ·rw[getD_set_ne true eG]at uV;exact uV
   refine wpOp_mono (λa' w' h3=>⟨h3.2.1,?_⟩) h2;refine ih (listed.setIfInBounds j true) a' w' qz (ready_mono hr (jg ia)) h3.1 (hT listed nK j hj ia w w' hC h3.2.1) ?_;rw[Array.setIfInBounds_comm _ _ ia];exact h3.2.2
def DE (S:List Nat) (lates:List Nat) (j:Nat) (w w':World):Prop:=if lates.contains j=true then Fr S w w' else w'=w
def iU (P:Program) (ops:Array Oper) (S:List Nat) (Q:Exit->Act->World->Prop):List (Nat×Oper)->Act->World->Prop
 | [],a,w=>Q .normal a w
 | (0,o)::rest,a,w=>if Region.wanted o (yielded ops a.tmps) then o.quiet P a (fC S w) (λa'=>iU P ops S Q rest a' w) else iU P ops S Q rest (a.put o.dst undef) w
 | (1,o)::rest,a,w=>if Region.wanted o (yielded ops a.tmps) then o.quiet P a (λu=>u=w) (λa'=>iU P ops S Q rest a' w) else iU P ops S Q rest (a.put o.dst undef) w
 | (_+2,o)::rest,a,w=>if Region.wanted o (yielded ops a.tmps) then o.wp P a w (λa' w'=>Fr S w w'/\iU P ops S Q rest a' w') Q else iU P ops S Q rest (a.put o.dst undef) w
def waitsFor (md:Region.Mode) (ops:Array Oper) (t i:Nat):Bool:=match ops[t]? with
 | some o=>o.after.toList.any λe=>Region.binds md e&&decide (e.on=i)
 | none=>true
def sU (md:Region.Mode) (ops:Array Oper) (lates:List Nat) (i:Nat) (listed:Array Bool):Bool:=
 (Region.ready md ops listed).contains i&&Region.free md ops listed i&&(match ops[i]? with|some o=>jB o.op|none=>false)&&!lates.contains i
def mM (md:Region.Mode) (ops:Array Oper) (lates:List Nat):List (Nat×Nat)->Array Bool->Bool
 | [],listed=>decide (Region.ready md ops listed=[])
 | (0,i)::rest,listed=>sU md ops lates i listed&&mM md ops lates rest (listed.setIfInBounds i true)
 | (1,i)::rest,listed=>sU md ops lates i listed&&lates.all (λt=>waitsFor md ops t i)&&mM md ops lates rest (listed.setIfInBounds i true)
 | (_+2,i)::rest,listed=>decide (Region.ready md ops listed=[i])&&lates.contains i&&mM md ops lates rest (listed.setIfInBounds i true)
theorem qu6 {i t:Nat} {listed:Array Bool} (h:waitsFor md ops t i=true) (nK:listed.getD i true=false) (ht:t∈Region.ready md ops listed):False:=by obtain⟨_,o,ho,aE⟩:=mem_ready.1 ht;simp only[waitsFor,ho,List.any_eq_true,lM,decide_eq_true_eq]at h;obtain⟨e,he,hb,heq⟩:=h;have h1:=aE e (by simpa using he) hb;rw[heq,getD_both nK]at h1;cases h1
theorem zfw {S lates:List Nat} {b:World} {t:Nat} {w w':World} (hC:fC S b w) (h:DE S lates t w w'):fC S b w':=by
 unfold DE at h;split at h
 ·exact fC.of (hC.fr.trans h)
 ·rw[h];exact hC
theorem Hf {S lates:List Nat} {l:List Oper} (hl:ops=l.toArray) (ck:Region.noSelect ops=true) (hQ:∀c a d v w,Q (.panic c) (Act.put a d v) w->Q (.panic c) a w) :
  ∀(order:List (Nat×Nat)) (listed:Array Bool) (a:Act) (w:World),mM md ops lates order listed=true->
   iU P ops S Q (order.map λx=>(x.1,l.getD x.2 default)) a w->Aa P md ops Q (DE S lates) order.length listed a w
 | [],listed,a,w,hB,h=>by
  simp only[mM,decide_eq_true_eq]at hB;exact⟨hB,h⟩
 | (0,i)::rest,listed,a,w,hB,h=>by
  simp only[mM,sU,lM,Bool.not_eq_true']at hB;obtain⟨⟨⟨⟨hr,hf⟩,hk⟩,aY⟩,aG⟩:=hB;have eX:i∈Region.ready md ops listed:=by simpa using hr
  obtain⟨_,oi,dE,_⟩:=mem_ready.1 eX;rw[dE]at hk;have hd:l.getD i default=oi:=by rw[hl]at dE;simp at dE;simp[List.getD,dE]
  simp only[gW,hd,iU]at h;have hC:fC S w w:=fC.of (Fr.refl _ _);have Gx:∀w,DE S lates i w w:=λw=>by unfold DE;split;exact Fr.refl _ _;rfl
  have hT:∀listed:Array Bool,listed.getD i true=false->∀t∈Region.ready md ops listed,t≠i->∀w1 w',fC S w w1->DE S lates t w1 w'->fC S w w':=λ_ _ t _ _ w1 w' h1 h2=>zfw h1 h2
  by_cases hw:Region.wanted oi (yielded ops a.tmps)=true
  ·rw[if_pos hw]at h;obtain⟨v,h1,h2⟩:=h;have hy:QY P ops (fC S w) oi v a:=.inl ⟨hw,λu hu=>MV hk (h1 u hu)⟩;exact RH dE (CF ck) hQ Gx hT _ listed a w (CB dE hf) eX hy hC (Hf hl ck hQ rest _ _ w aG h2)
  ·rw[if_neg hw]at h;have hy:QY P ops (fC S w) oi undef a:=.inr ⟨by simpa using hw,rfl⟩;exact RH dE (CF ck) hQ Gx hT _ listed a w (CB dE hf) eX hy hC (Hf hl ck hQ rest _ _ w aG h)
 | (1,i)::rest,listed,a,w,hB,h=>by
  simp only[mM,sU,lM,Bool.not_eq_true']at hB;obtain⟨⟨⟨⟨⟨hr,hf⟩,hk⟩,aY⟩,Nw⟩,aG⟩:=hB;have eX:i∈Region.ready md ops listed:=by simpa using hr
  obtain⟨_,oi,dE,_⟩:=mem_ready.1 eX;rw[dE]at hk;have hd:l.getD i default=oi:=by rw[hl]at dE;simp at dE;simp[List.getD,dE]
  simp only[gW,hd,iU]at h;have Gx:∀w,DE S lates i w w:=λw=>by unfold DE;split;exact Fr.refl _ _;rfl
  have hT:∀listed:Array Bool,listed.getD i true=false->∀t∈Region.ready md ops listed,t≠i->∀w1 w',w1=w->DE S lates t w1 w'->w'=w:=λls nK t ht _ w1 w' h1 h2=>by
   unfold DE at h2;split at h2
   ·rename_i hc;exact (qu6 (Kk.1 Nw t (by simpa using hc)) nK ht).elim
   ·rw[h2,h1]
  by_cases hw:Region.wanted oi (yielded ops a.tmps)=true
  ·rw[if_pos hw]at h;obtain⟨v,h1,h2⟩:=h;have hy:QY P ops (λu=>u=w) oi v a:=.inl ⟨hw,λu hu=>MV hk (h1 u hu)⟩;exact RH dE (CF ck) hQ Gx hT _ listed a w (CB dE hf) eX hy rfl (Hf hl ck hQ rest _ _ w aG h2)
  ·rw[if_neg hw]at h;have hy:QY P ops (λu=>u=w) oi undef a:=.inr ⟨by simpa using hw,rfl⟩;exact RH dE (CF ck) hQ Gx hT _ listed a w (CB dE hf) eX hy rfl (Hf hl ck hQ rest _ _ w aG h)
 | (_+2,i)::rest,listed,a,w,hB,h=>by
  simp only[mM,lM,decide_eq_true_eq]at hB;obtain⟨⟨he,aY⟩,aG⟩:=hB;have eX:i∈Region.ready md ops listed:=by rw[he];simp
  obtain⟨_,oi,dE,_⟩:=mem_ready.1 eX;have hd:l.getD i default=oi:=by rw[hl]at dE;simp at dE;simp[List.getD,dE]
  simp only[gW,hd,iU]at h;refine⟨λh0=>(by rw[h0]at eX;cases eX),λj hj=>?_⟩;rw[he]at hj;have ia:j=i:=by simpa using hj
  subst ia;unfold wpOp;simp only[dE];by_cases hw:Region.wanted oi (yielded ops a.tmps)=true
  ·rw[if_pos hw]at h;rw[if_pos hw];left;exact Oper.wp_mono (λa' w' h'=>⟨by unfold DE;rw[if_pos aY];exact h'.1,Hf hl ck hQ rest _ a' w' aG h'.2⟩) h
  ·rw[if_neg hw]at h;rw[if_neg hw];exact⟨by unfold DE;rw[if_pos aY];exact Fr.refl _ _,Hf hl ck hQ rest _ _ w aG h⟩
theorem DC {id:Nat} {a:Act} {w:World} {l:List Oper} (order:List (Nat×Nat)) (S lates:List Nat) (hm:P.follows .mixedOrders=true)
  (hB:(Region.noSelect l.toArray&&decide (order.length=l.toArray.size)&&mM .any l.toArray lates order (Array.replicate l.toArray.size false))=true)
  (hQ:∀c a d v w,Q (.panic c) (Act.put a d v) w->Q (.panic c) a w)
  (h:iU P l.toArray S Q (order.map λx=>(x.1,l.getD x.2 default)) a w.drew):(Code.region id l.toArray true).wp P Q a w:=by
 simp only[lM,decide_eq_true_eq]at hB;obtain⟨⟨ck,hlen⟩,wS⟩:=hB;refine wp_region_any hm (qlt (D:=DE S lates) _ _ _ _ ?_);have:=Hf (P:=P) (Q:=Q) (md:=.any) (S:=S) (lates:=lates) rfl ck hQ order _ a w.drew wS h;rw[hlen]at this;exact this
theorem tT {S:List Nat} {items:List (Nat×Oper)} {a:Act} {w:World} (k:Nat) (h0:((items.take k).all λx=>decide (x.1=1))=true)
  (h:wpQuiet P ops (λu=>u=w) (λa'=>iU P ops S Q (items.drop k) a' w) ((items.take k).map (·.2)) a):iU P ops S Q items a w:=by
 induction k generalizing items a with
 | zero=>exact h
 | succ k ih=>
  cases items with
  | nil=>exact h
  | cons x rest=>
   obtain⟨e,o⟩:=x;simp only[qY,List.all_cons,lM,decide_eq_true_eq]at h0;obtain⟨rfl,h0⟩:=h0;simp only[qY,gW,xH,wpQuiet]at h;unfold iU;by_cases hw:Region.wanted o (yielded ops a.tmps)=true
   ·rw[if_pos hw]at h ⊢;obtain⟨v,h1,h2⟩:=h;exact⟨v,h1,ih h0 h2⟩
   ·rw[if_neg hw]at h ⊢;exact ih h0 h
theorem ko {S:List Nat} {items:List (Nat×Oper)} {a:Act} {w:World} (k:Nat) (h0:((items.take k).all λx=>decide (x.1=0))=true)
  (h:wpQuiet P ops (fC S w) (λa'=>iU P ops S Q (items.drop k) a' w) ((items.take k).map (·.2)) a):iU P ops S Q items a w:=by
 induction k generalizing items a with
 | zero=>exact h
 | succ k ih=>
  cases items with
  | nil=>exact h
  | cons x rest=>
   obtain⟨e,o⟩:=x;simp only[qY,List.all_cons,lM,decide_eq_true_eq]at h0;obtain⟨rfl,h0⟩:=h0;simp only[qY,gW,xH,wpQuiet]at h;unfold iU;by_cases hw:Region.wanted o (yielded ops a.tmps)=true
   ·rw[if_pos hw]at h ⊢;obtain⟨v,h1,h2⟩:=h;exact⟨v,h1,ih h0 h2⟩
   ·rw[if_neg hw]at h ⊢;exact ih h0 h
theorem tS {S:List Nat} {rest:List (Nat×Oper)} {o:Oper} {a:Act} {w:World} (hw:Region.wanted o (yielded ops a.tmps)=true)
  (h:∀K:Act->World->Prop,Go.RowKit.Hid (∀a' w',Fr S w w'->iU P ops S Q rest a' w'->K a' w')->o.wp P a w K Q):iU P ops S Q ((2,o)::rest) a w:=by
 unfold iU;rw[if_pos hw];exact h _ λ_ _ h1 h2=>⟨h1,h2⟩
theorem Dy {S:List Nat} {a:Act} {w:World} (h:Q .normal a w):iU P ops S Q [] a w:=h
end
end lib
namespace huf
open Go Go.RowKit lib bm bl
structure Mc where
 worth:Nat
 ao:Option Addr
 len:Nat
 cap:Nat
def Dw (w:World) (g:Nat) (T:TypeId) (A0:Array Value) (n:Nat) (f:Nat->Mc):Prop:=
 ∃A:Array Value,w.heap[g]?=some (.cells A T (0,0))/\A.size=A0.size/\2*n<=A.size/\(∀j,2*n<=j->A[j]?=A0[j]?)/\
  ∀i,i<n->A[i*2]?=some (.int .i64 ((f i).worth:Nat))/\A[i*2+1]?=some (.slice (f i).ao (f i).len (f i).cap)
def swp (f:Nat->Mc) (x y:Nat):Nat->Mc:=λi=>if i=x then f y else if i=y then f x else f i
def mz (f:Nat->Mc) (a b:Nat):Nat->Nat->Mc
 | 0=>f
 | k+1=>swp (mz f a b k) (b+k) (a+k)
theorem Dw.swap {g:Nat} {T:TypeId} {A0 A:Array Value} {n x y:Nat} {f:Nat->Mc} (w2:World) (pw:Nat) (pa:Option Addr) (pl pc qw:Nat) (qa:Option Addr) (ql qc:Nat)
  (hs:A.size=A0.size) (hn:2*n<=A.size) (ht:∀j,2*n<=j->A[j]?=A0[j]?)
  (hf:∀i,i<n->A[i*2]?=some (.int .i64 ((f i).worth:Nat))/\A[i*2+1]?=some (.slice (f i).ao (f i).len (f i).cap))
  (hx:x<n) (hy:y<n) (hp:(⟨pw,pa,pl,pc⟩:Mc)=f x) (hq:(⟨qw,qa,ql,qc⟩:Mc)=f y)
  (h:w2.heap[g]?=some (.cells ((((A.setIfInBounds (x*2) (.int .i64 qw)).setIfInBounds (x*2+1) (.slice qa ql qc)).setIfInBounds (y*2) (.int .i64 pw)).setIfInBounds (y*2+1) (.slice pa pl pc)) T (0,0))) :
  Dw w2 g T A0 n (swp f y x):=by
 refine⟨_,h,by simp[hs],by simp;exact hn,λj hj=>?_,λi hi=>?_⟩
 ·rw[aZ (by omega),aZ (by omega),aZ (by omega),aZ (by omega)];exact ht j hj
 ·unfold swp;by_cases h1:i=y
  ·subst h1;rw[if_pos rfl,<-hp];refine⟨?_,?_⟩
   ·rw[aZ (by omega),iu (by simp;omega)]
   ·rw[iu (by simp;omega)]
  ·rw[if_neg h1];by_cases h2:i=x
   ·subst h2;rw[if_pos rfl,<-hq];refine⟨?_,?_⟩
    ·rw[aZ (by omega),aZ (by omega),aZ (by omega),iu (by omega)]
    ·rw[aZ (by omega),aZ (by omega),iu (by simp;omega)]
   ·rw[if_neg h2];refine⟨?_,?_⟩
    ·rw[aZ (by omega),aZ (by omega),aZ (by omega),aZ (by omega)];exact (hf i hi).1
    ·rw[aZ (by omega),aZ (by omega),aZ (by omega),aZ (by omega)];exact (hf i hi).2
theorem Ib (g:Nat) (T:TypeId) (A0:Array Value) (L cap n a b:Nat) (f:Nat->Mc) (cmp:Value) (w:World)
  (h:Dw w g T A0 L f) (ha:a+n<=b) (hb:b+n<=L) (hL:L<=100000) :
  Calls Tryz.prog 223 #[.slice (some ⟨g,0,none⟩) L cap,.int .i64 a,.int .i64 b,.int .i64 n,cmp] w λe w'=>e = .returned (.tuple #[])/\Dw w' g T A0 L (mz f a b n)/\Fr [g] w w':=by
 have H:=af h;clear h;go_enter Tryz.func223,Tryz.ntmps223;go_wp2;go_loopg [10] n (λk s10 wr=>∃i:Nat,s10 = .int .i64 (i:Nat)/\i+k=n/\Dw wr g T A0 L (mz f a b i)/\Fr [g] w wr);case atStart=>exact⟨0,rfl,by omega,H.out,.refl _ w⟩
 case round=>
  obtain⟨i,rfl,bU,hD,hf⟩:=hrel;by_cases hi:i<n
  ·obtain⟨k,rfl⟩:∃k,gk=k+1:=⟨gk-1,by omega⟩;obtain⟨A,hA,cG,gP,cM,eH⟩:=hD;obtain⟨x,hx⟩:=ah (a+i);obtain⟨y,hy⟩:=ah (b+i);have X:=eH x (by omega);have Y:=eH y (by omega);obtain⟨p,hp⟩:=ah (mz f a b i x);obtain⟨q,hq⟩:=ah (mz f a b i y);rw[<-hp]at X;rw[<-hq]at Y;obtain⟨pw,pa,pl,pc⟩:=p;obtain⟨qw,qa,ql,qc⟩:=q;have d0:=(cell_of hA (x*2)).trans X.1;have d1:=(cell_of hA (x*2+1)).trans X.2;have d2:=(cell_of hA (y*2)).trans Y.1;have d3:=(cell_of hA (y*2+1)).trans Y.2;simp only at d0 d1 d2 d3;have e0:((a:Int)+(i:Int))=(x:Int):=by omega
   have e1:((b:Int)+(i:Int))=(y:Int):=by omega
   have g1:decide ((x:Int)<0)=false:=by simp
   have g2:decide ((L:Int)<=(x:Int))=false:=by simp;omega
   have g3:decide ((y:Int)<0)=false:=by simp
   have g4:decide ((L:Int)<=(y:Int))=false:=by simp;omega
   have kE:x<L:=by omega
   have qZ:y<L:=by omega
   have HX:=pB hA cG gP cM eH hf hp hq hx hy;clear hA cG gP cM eH hf hp hq X Y hx hy;go_upto_region 3 with fail;refine DC [(0,0),(0,1),(0,2),(0,3),(0,4),(0,5),(0,6),(0,7),(0,8),(0,9),(0,10),(0,11),(0,12),(1,13),(0,14),(0,15),(0,16),(0,17),(0,18),(1,19),(0,20),(2,21),(0,22),(2,23)] [g] [21,23] (by kernel_rfl) (by kernel_rfl) (λ_ _ d _ _ h=>by cases d<;>exact h) ?_;simp only[gW,oJ,yT,yS];refine ko 13 rfl ?_;simp only[aU];repeat (go_big_quiet_step (fail))
   refine wpQuiet_nil ?_;refine tT 1 rfl ?_;simp only[aU];repeat (go_big_quiet_step (fail))
   refine wpQuiet_nil ?_;refine ko 5 rfl ?_;simp only[aU];repeat (go_big_quiet_step (fail))
   refine wpQuiet_nil ?_;refine tT 1 rfl ?_;simp only[aU];repeat (go_big_quiet_step (fail))
   refine wpQuiet_nil ?_;refine ko 1 rfl ?_;simp only[aU];repeat (go_big_quiet_step (fail))
   refine wpQuiet_nil ?_;refine tS rfl ?_;intro K hK;have z0:=aO HX.out.1 (x*2);have z1:=aO HX.out.1 (x*2+1);go_wp2;refine hK.out _ _ (Fr.aS ((((Fr.refl [g] wr).setCell (by simp) _).setCell (by simp) _).drew)) ?_;clear hK K z0 z1;obtain⟨w1,cD⟩:∃w1,w1=((wr.setCell ⟨g,x*2,none⟩ (.int .i64 (qw:Nat))).setCell ⟨g,x*2+1,none⟩ (.slice qa ql qc)):=⟨_,rfl⟩;rw[<-cD];have bH:=aX (o:=x*2+1) (aX (o:=x*2) HX.out.1 (.int .i64 qw)) (.slice qa ql qc);rw[<-cD]at bH;obtain⟨A1,hB⟩:∃A1,A1=(A.setIfInBounds (x*2) (.int .i64 (qw:Nat))).setIfInBounds (x*2+1) (.slice qa ql qc):=⟨_,rfl⟩;rw[<-hB]at bH;have z0:=aO bH (y*2);have z1:=aO bH (y*2+1);have rG:x<y:=by have:=HX.out.2.2.2.2.2.2.2.2;omega
   have c2:w1.cell? ⟨g,y*2,none⟩=some (.int .i64 qw):=by rw[cell_of bH,hB,aZ (by omega),aZ (by omega),<-cell_of HX.out.1];exact d2
   have c3:w1.cell? ⟨g,y*2+1,none⟩=some (.slice qa ql qc):=by rw[cell_of bH,hB,aZ (by omega),aZ (by omega),<-cell_of HX.out.1];exact d3
   have HY:=au bH hB cD;clear bH hB cD d0 d1 d2 d3;refine ko 1 rfl ?_;simp only[aU];repeat (go_big_quiet_step (fail))
   refine wpQuiet_nil ?_;refine tS rfl ?_;intro K hK;go_wp2;refine hK.out _ _ (Fr.aS ((((Fr.refl [g] w1).setCell (by simp) _).setCell (by simp) _).drew)) ?_;clear hK K z0 z1 c2 c3;refine Dy ?_;go_wp2;go_roundg k;case measure=>omega
   case rel=>
    obtain⟨hA,cG,gP,cM,eH,hf,hp,hq,hx,hy⟩:=HX.out;obtain⟨bH,hB,cD⟩:=HY.out;have gQ:=aX (o:=y*2+1) (aX (o:=y*2) bH (.int .i64 pw)) (.slice pa pl pc);rw[hB]at gQ;obtain⟨w2,bq⟩:∃w2,w2=((w1.setCell ⟨g,y*2,none⟩ (.int .i64 (pw:Nat))).setCell ⟨g,y*2+1,none⟩ (.slice pa pl pc)):=⟨_,rfl⟩;rw[<-bq]at gQ ⊢;refine⟨i+1,by go_num,by omega,?_,?_⟩
    ·rw[mz,<-hx,<-hy];exact Dw.swap _ pw pa pl pc qw qa ql qc cG gP cM eH kE qZ hp hq gQ
    ·rw[bq,cD];exact ((((hf.setCell (by simp) _).setCell (by simp) _).setCell (by simp) _).setCell (by simp) _).drew
  ·obtain rfl:i=n:=by omega
   have HI:=ak hD hf;clear hD hf;go_wp2;(try simp only[Exit.inBlock,Exit.then]);refine bodyPost_end (results_none rfl _ _ _) rfl ?_;exact⟨rfl,HI.o0,HI.l1⟩
end huf
namespace huf
open Go Go.RowKit lib
theorem Dp (f:Nat->Mc) (a b:Nat):∀n,a+n<=b->∀t,mz f a b n t=if a<=t/\t<a+n then f (t-a+b) else if b<=t/\t<b+n then f (t-b+a) else f t
 | 0,_,t=>by rw[if_neg (by omega),if_neg (by omega)];rfl
 | n+1,h,t=>by
  have ih:=Dp f a b n (by omega);show (if t=b+n then mz f a b n (a+n) else if t=a+n then mz f a b n (b+n) else mz f a b n t)=_;rw[ih,ih,ih];by_cases h1:t=b+n
  ·subst h1;rw[if_pos rfl,if_neg (by omega),if_neg (by omega),if_neg (by omega),if_pos (by omega)];congr 1;omega
  ·rw[if_neg h1];by_cases h2:t=a+n
   ·subst h2;rw[if_pos rfl,if_neg (by omega),if_neg (by omega),if_pos (by omega)];congr 1;omega
   ·rw[if_neg h2];by_cases h3:a<=t/\t<a+n
    ·rw[if_pos h3,if_pos (by omega)]
    ·rw[if_neg h3,if_neg (c:=a<=t/\t<a+(n+1)) (by omega)];by_cases h4:b<=t/\t<b+n
     ·rw[if_pos h4,if_pos (by omega)]
     ·rw[if_neg h4,if_neg (by omega)]
def ay (f:Nat->Mc) (a m b:Nat):Nat->Mc:=λt=>if a<=t/\t<a+(b-m) then f (t-a+m) else if a+(b-m)<=t/\t<b then f (t-(b-m)) else f t
theorem wj {f:Nat->Mc} {a m b t:Nat} (h1:a<=t) (h2:t<a+(b-m)):ay f a m b t=f (t-a+m):=if_pos ⟨h1,h2⟩
theorem yO {f:Nat->Mc} {a m b t:Nat} (h1:a+(b-m)<=t) (h2:t<b):ay f a m b t=f (t-(b-m)):=by unfold ay;rw[if_neg (by omega),if_pos ⟨h1,h2⟩]
theorem pL {f:Nat->Mc} {a m b t:Nat} (ha:a<=m) (hb:m<=b) (h:t<a\/b<=t):ay f a m b t=f t:=by unfold ay;rw[if_neg (by omega),if_neg (by omega)]
theorem T6 (f:Nat->Mc) (m i:Nat) (hi:i<=m):mz f (m-i) m i=ay f (m-i) m (m+i):=by
 funext t;rw[Dp f (m-i) m i (by omega) t];unfold ay;by_cases h1:m-i<=t/\t<m-i+i
 ·rw[if_pos h1,if_pos (by omega)]
 ·rw[if_neg h1,if_neg (c:=m-i<=t/\t<m-i+(m+i-m)) (by omega)];by_cases h2:m<=t/\t<m+i
  ·rw[if_pos h2,if_pos (by omega)];congr 1;omega
  ·rw[if_neg h2,if_neg (by omega)]
theorem T8 (f:Nat->Mc) (m i j:Nat) (hi:i<=m) (hj:j<i):ay (mz f (m-i) m j) (m-(i-j)) m (m+j)=ay f (m-i) m (m+j):=by
 funext t;have e:=Dp f (m-i) m j (by omega);unfold ay;rw[e,e,e];by_cases h1:m-(i-j)<=t/\t<m-(i-j)+(m+j-m)
 ·rw[if_pos h1];rw[if_neg (c:=m-i<=t-(m-(i-j))+m/\_) (by omega),if_pos (c:=m<=t-(m-(i-j))+m/\_) (by omega),if_neg (c:=m-i<=t/\_) (by omega),if_pos (by omega)];congr 1;omega
 ·rw[if_neg h1];by_cases h2:m-(i-j)+(m+j-m)<=t/\t<m+j
  ·rw[if_pos h2,if_neg (c:=m-i<=t-(m+j-m)/\_) (by omega),if_neg (c:=m<=t-(m+j-m)/\_) (by omega),if_neg (c:=m-i<=t/\_) (by omega),if_pos (by omega)]
  ·rw[if_neg h2];by_cases h3:m-i<=t/\t<m-i+j
   ·rw[if_pos h3,if_pos (by omega)]
   ·rw[if_neg h3,if_neg (c:=m<=t/\_) (by omega),if_neg (by omega),if_neg (by omega)]
theorem T9 (f:Nat->Mc) (m i j:Nat) (hi:i<=m) (hj:i<j):ay (mz f (m-i) (m+j-i) i) (m-i) m (m+(j-i))=ay f (m-i) m (m+j):=by
 funext t;have e:=Dp f (m-i) (m+j-i) i (by omega);unfold ay;rw[e,e,e];by_cases h1:m-i<=t/\t<m-i+(m+(j-i)-m)
 ·rw[if_pos h1];rw[if_neg (c:=m-i<=t-(m-i)+m/\_) (by omega),if_neg (c:=m+j-i<=t-(m-i)+m/\_) (by omega),if_pos (by omega)]
 ·rw[if_neg h1];by_cases h2:m-i+(m+(j-i)-m)<=t/\t<m+(j-i)
  ·rw[if_pos h2,if_pos (c:=m-i<=t-(m+(j-i)-m)/\_) (by omega),if_pos (c:=m-i<=t/\_) (by omega)];congr 1;omega
  ·rw[if_neg h2,if_neg (c:=m-i<=t/\t<m-i+i) (by omega),if_neg (c:=m-i<=t/\_) (by omega)];by_cases h3:m+j-i<=t/\t<m+j-i+i
   ·rw[if_pos h3,if_pos (by omega)];congr 1;omega
   ·rw[if_neg h3,if_neg (by omega)]
theorem yP (f:Nat->Mc) (a m b:Nat) (ha:a<=m) (hb:m<=b) (h:a=m\/m=b):ay f a m b=f:=by
 funext t;unfold ay;by_cases h1:a<=t/\t<a+(b-m)
 ·rw[if_pos h1];congr 1;omega
 ·rw[if_neg h1];by_cases h2:a+(b-m)<=t/\t<b
  ·rw[if_pos h2];congr 1;omega
  ·rw[if_neg h2]
theorem Mn (f:Nat->Mc) (i j:Nat) (hj:0<j) (ia:j<=i):swp (ay f j i (i+1)) j (j-1)=ay f (j-1) i (i+1):=by
 funext t;unfold swp;by_cases h1:t=j
 ·subst h1;rw[if_pos rfl,pL (by omega) (by omega) (.inl (by omega)),yO (by omega) (by omega)];congr 1;omega
 ·rw[if_neg h1];by_cases h2:t=j-1
  ·subst h2;rw[if_pos rfl,wj (by omega) (by omega),wj (by omega) (by omega)];congr 1;omega
  ·rw[if_neg h2];by_cases h3:t<j-1\/i+1<=t
   ·rw[pL (by omega) (by omega) (by omega),pL (by omega) (by omega) h3]
   ·rw[yO (by omega) (by omega),yO (by omega) (by omega)]
theorem Ua (f:Nat->Mc) (a k:Nat) (hk:a<=k):swp (ay f a (a+1) (k+1)) k (k+1)=ay f a (a+1) (k+2):=by
 funext t;unfold swp;by_cases h1:t=k
 ·subst h1;rw[if_pos rfl,pL (by omega) (by omega) (.inr (by omega)),wj (by omega) (by omega)];congr 1;omega
 ·rw[if_neg h1];by_cases h2:t=k+1
  ·subst h2;rw[if_pos rfl,yO (by omega) (by omega),yO (by omega) (by omega)];congr 1;omega
  ·rw[if_neg h2];by_cases h3:t<a\/k+2<=t
   ·rw[pL (by omega) (by omega) (by omega),pL (by omega) (by omega) h3]
   ·rw[wj (by omega) (by omega),wj (by omega) (by omega)]
def tg (x:Mc):Nat×Mc:=(x.worth,x)
def sg (f:Nat->Mc) (a n:Nat):List (Nat×Mc):=(List.range n).map λi=>tg (f (a+i))
theorem pM {f f':Nat->Mc} {a a' n:Nat} (h:∀t,t<n->f (a+t)=f' (a'+t)):sg f a n=sg f' a' n:=by unfold sg;exact CD λt ht=>by rw[h t (xD.1 ht)]
theorem ME (f:Nat->Mc) (a n m:Nat):sg f a (n+m)=sg f a n++sg f (a+n) m:=by unfold sg;rw[List.range_add,gB,xC];congr 1;exact CD λt _=>by simp[uy]
theorem ji (f:Nat->Mc) (a m b:Nat) (h1:a<=m) (h2:m<=b):sg f a (b-a)=sg f a (m-a)++sg f m (b-m):=by rw[show b-a=(m-a)+(b-m) from by omega,ME,show a+(m-a)=m from by omega]
theorem Dn (f:Nat->Mc) (a:Nat):sg f a 1=[tg (f a)]:=rfl
theorem Du (f:Nat->Mc) (a:Nat):sg f a 0=[]:=rfl
theorem oH {f:Nat->Mc} {a n:Nat} {x:Nat×Mc}:x∈sg f a n↔∃t,t<n/\x=tg (f (a+t)):=by
 unfold sg;rw[jR];constructor
 ·rintro⟨t,ht,rfl⟩;exact⟨t,xD.1 ht,rfl⟩
 ·rintro⟨t,ht,rfl⟩;exact⟨t,xD.2 ht,rfl⟩
theorem yI {f:Nat->Mc} {a n:Nat}:dX (sg f a n)↔∀i j,i<=j->j<n->(f (a+i)).worth<=(f (a+j)).worth:=by
 unfold dX sg;rw[He];constructor
 ·intro h i j jW hj;rcases og i j with k|k
  ·have:=FD.1 h i j (by simp;omega) (by simp;omega) k;simpa[tg] using this
  ·obtain rfl:i=j:=by omega
   exact aw _
 ·intro h;refine FD.2 λi j hi hj jW=>?_
  simp only[Aw]at hi hj;simpa[tg] using h i j (by omega) hj
theorem uu {f:Nat->Mc} {a n c k:Nat} (h:dX (sg f a n)) (h1:a<=c) (h2:c+k<=a+n):dX (sg f c k):=by rw[yI]at h ⊢;intro i j jW hj;have:=h (c-a+i) (c-a+j) (by omega) (by omega);rwa [show a+(c-a+i)=c+i from by omega,show a+(c-a+j)=c+j from by omega]at this
theorem AB (f:Nat->Mc) (s m e:Nat) (h1:s<=m) (h2:m<=e):sg (ay f s m e) s (e-m)=sg f m (e-m):=
 pM λt ht=>by rw[wj (by omega) (by omega)];congr 1;omega
theorem Ay (f:Nat->Mc) (s m e:Nat) (h1:s<=m) (h2:m<=e):sg (ay f s m e) (s+(e-m)) (m-s)=sg f s (m-s):=
 pM λt ht=>by rw[yO (by omega) (by omega)];congr 1;omega
theorem yN (f:Nat->Mc) (s m e a n:Nat) (h1:s<=m) (h2:m<=e) (h:a+n<=s\/e<=a):sg (ay f s m e) a n=sg f a n:=
 pM λt ht=>by rw[pL h1 h2 (by omega)]
structure Sd (f f':Nat->Mc) (a b:Nat):Prop where
 out:∀t,t<a\/b<=t->f' t=f t
 srt:dX (sg f' a (b-a))
 stb:eE (sg f' a (b-a)) (sg f a (b-a))
theorem Hp (f:Nat->Mc) (a i j:Nat) (ha:a<=j) (hj:j<=i) (hs:dX (sg f a (i-a))) (h1:a<j->(f (j-1)).worth<=(f i).worth) (h2:j<i->(f i).worth<(f j).worth) :
  Sd f (ay f j i (i+1)) a (i+1):=by
 have fZ:=yI.1 hs;have e0:sg (ay f j i (i+1)) a (i+1-a)=sg f a (j-a)++tg (f i)::sg f j (i-j):=by
  rw[ji _ a j (i+1) ha (by omega),yN _ _ _ _ _ _ hj (by omega) (.inl (by omega)),ji _ j (j+1) (i+1) (by omega) (by omega),show j+1-j=i+1-i from by omega,AB _ _ _ _ hj (by omega),show j+1=j+(i+1-i) from by omega,show i+1-(j+(i+1-i))=i-j from by omega,
   Ay _ _ _ _ hj (by omega),show i+1-i=1 from by omega,Dn]
  rfl
 have e1:sg f a (i+1-a)=sg f a (j-a)++sg f j (i-j)++[tg (f i)]:=by rw[ji f a i (i+1) (by omega) (by omega),ji f a j i ha hj,show i+1-i=1 from by omega,Dn]
 have hp:=qqc (x:=tg (f i)) (A1:=sg f a (j-a)) (A2:=sg f j (i-j)) (by rw[<-ji f a j i ha hj];exact hs)
  (λy hy=>by
   obtain⟨t,ht,rfl⟩:=oH.1 hy
   refine bS (fZ t (j-1-a) (by omega) (by omega)) ?_
   rw[show a+(j-1-a)=j-1 from by omega]
   exact h1 (by omega))
  (λy hy=>by
   obtain⟨t,ht,rfl⟩:=oH.1 hy
   refine eT (h2 (by omega)) ?_
   have:=fZ (j-a) (j-a+t) (by omega) (by omega)
   rwa [show a+(j-a)=j from by omega,show a+(j-a+t)=j+t from by omega]at this)
 exact⟨λt ht=>pL hj (by omega) (by omega),by rw[e0];exact hp.1,by rw[e0,e1];exact hp.2⟩
theorem Uu (f:Nat->Mc) (a i b:Nat) (hi:a<i) (hb:i<=b) (hs:dX (sg f (a+1) (b-(a+1)))) (h1:a+1<i->(f (i-1)).worth<(f a).worth) (h2:i<b->(f a).worth<=(f i).worth) :
  Sd f (ay f a (a+1) i) a b:=by
 have fZ:=yI.1 hs;have e0:sg (ay f a (a+1) i) a (b-a)=sg f (a+1) (i-(a+1))++tg (f a)::sg f i (b-i):=by
  have q1:=yN f a (a+1) i i (b-i) (by omega) (by omega) (.inr (aw _));have q2:=AB f a (a+1) i (by omega) (by omega);have q3:=Ay f a (a+1) i (by omega) (by omega);have q4:sg (ay f a (a+1) i) a (i-a)=sg f (a+1) (i-(a+1))++sg f a (a+1-a):=by rw[show i-a=(i-(a+1))+(a+1-a) from by omega,ME,q2,q3]
  rw[ji _ a i b (by omega) hb,q1,q4,show a+1-a=1 from by omega,Dn];simp
 have e1:sg f a (b-a)=tg (f a)::(sg f (a+1) (i-(a+1))++sg f i (b-i)):=by rw[ji f a (a+1) b (by omega) (by omega),ji f (a+1) i b (by omega) hb,show a+1-a=1 from by omega,Dn];rfl
 have hp:=qtj (x:=tg (f a)) (B1:=sg f (a+1) (i-(a+1))) (B2:=sg f i (b-i)) (by rw[<-ji f (a+1) i b (by omega) hb];exact hs)
  (λy hy=>by
   obtain⟨t,ht,rfl⟩:=oH.1 hy
   refine Az (fZ t (i-1-(a+1)) (by omega) (by omega)) ?_
   rw[show a+1+(i-1-(a+1))=i-1 from by omega]
   exact h1 (by omega))
  (λy hy=>by
   obtain⟨t,ht,rfl⟩:=oH.1 hy
   refine bS (h2 (by omega)) ?_
   have:=fZ (i-(a+1)) (i-(a+1)+t) (by omega) (by omega)
   rwa [show a+1+(i-(a+1))=i from by omega,show a+1+(i-(a+1)+t)=i+t from by omega]at this)
 exact⟨λt ht=>pL (by omega) (by omega) (by omega),by rw[e0];exact hp.1,by rw[e0,e1];exact hp.2⟩
theorem L9 (f f1 f2:Nat->Mc) (a m b mid s e:Nat) (lh:mid=(a+b)/2) (oQ:a<m) (jq:m<b) (zO:s+e=mid+m) (has:a<=s) (xR:s<=m) (wT:m<=e) (Jb:e<=b)
  (hA:dX (sg f a (m-a))) (hB:dX (sg f m (b-m)))
  (h1:s<m->m<e->(f (e-1)).worth<(f s).worth) (h2:a<s->e<b->(f (s-1)).worth<=(f e).worth)
  (d1:Sd (ay f s m e) f1 a mid) (d2:Sd f1 f2 mid b):Sd f f2 a b:=by
 have PH:=yI.1 hA;have Jy:=yI.1 hB;have em:s+(e-m)=mid:=by omega
 have eA:sg f a (m-a)=sg f a (s-a)++sg f s (m-s):=ji f a s m has xR;have eB:sg f m (b-m)=sg f m (e-m)++sg f e (b-e):=ji f m e b wT Jb;have eL:sg (ay f s m e) a (mid-a)=sg f a (s-a)++sg f m (e-m):=by have q1:=yN f s m e a (s-a) xR wT (.inl (by omega));have q2:=AB f s m e xR wT;rw[ji _ a s mid has (by omega),q1,show mid-s=e-m from by omega,q2]
 have eR:sg (ay f s m e) mid (b-mid)=sg f s (m-s)++sg f e (b-e):=by have q1:=yN f s m e e (b-e) xR wT (.inr (aw _));have q2:=Ay f s m e xR wT;rw[em]at q2;rw[ji _ mid e b (by omega) Jb,q1,show e-mid=m-s from by omega,q2]
 have BX:sg f1 mid (b-mid)=sg (ay f s m e) mid (b-mid):=pM λt ht=>d1.out _ (.inr (by omega))
 have PW:sg f2 a (mid-a)=sg f1 a (mid-a):=pM λt ht=>d2.out _ (.inl (by omega))
 have hp:=qtc (A1:=sg f a (s-a)) (A2:=sg f s (m-s)) (B1:=sg f m (e-m)) (B2:=sg f e (b-e)) (L:=sg f1 a (mid-a)) (R:=sg f2 mid (b-mid))
  (by rw[<-eA];exact hA) (by rw[<-eB];exact hB)
  (λx hx y hy=>by
   obtain⟨t,ht,rfl⟩:=oH.1 hx
   obtain⟨u,hu,rfl⟩:=oH.1 hy
   have k1:=PH (s-a) (s-a+t) (by omega) (by omega)
   have k2:=Jy u (e-1-m) (by omega) (by omega)
   rw[show a+(s-a)=s from by omega,show a+(s-a+t)=s+t from by omega]at k1
   rw[show m+(e-1-m)=e-1 from by omega]at k2
   exact Az k2 (eT (h1 (by omega) (by omega)) k1))
  (λx hx y hy=>by
   obtain⟨t,ht,rfl⟩:=oH.1 hx
   obtain⟨u,hu,rfl⟩:=oH.1 hy
   have k1:=PH t (s-1-a) (by omega) (by omega)
   have k2:=Jy (e-m) (e-m+u) (by omega) (by omega)
   rw[show a+(s-1-a)=s-1 from by omega]at k1
   rw[show m+(e-m)=e from by omega,show m+(e-m+u)=e+u from by omega]at k2
   exact bS k1 (bS (h2 (by omega) (by omega)) k2))
  d1.srt (by rw[<-eL];exact d1.stb) d2.srt (by rw[<-eR,<-BX];exact d2.stb)
 refine⟨λt ht=>?_,?_,?_⟩
 ·rw[d2.out t (by omega),d1.out t (by omega),pL xR wT (by omega)]
 ·rw[ji f2 a mid b (by omega) (by omega),PW];exact hp.1
 ·rw[ji f2 a mid b (by omega) (by omega),PW,ji f a m b (by omega) (by omega),eA,eB];exact hp.2
theorem Dt (f:Nat->Mc) (a b:Nat) (h:dX (sg f a (b-a))):Sd f f a b:=⟨λ_ _=>rfl,h,.refl _⟩
theorem Sd.trans {f f' f2:Nat->Mc} {a b:Nat} (h:Sd f f' a b) (h':Sd f' f2 a b):Sd f f2 a b:=⟨λt ht=>(h'.out t ht).trans (h.out t ht),h'.srt,h'.stb.trans h.stb⟩
theorem Sd.mJ {f f':Nat->Mc} {a b:Nat} (h:Sd f f' a b) (oR:a<=b) {n:Nat} (hn:b<=n):eE (sg f' 0 n) (sg f 0 n):=by
 have e:∀k:Nat->Mc,sg k 0 n=sg k 0 a++sg k a (b-a)++sg k b (n-b):=λk=>by have h1:=ji k 0 a n (by omega) (by omega);rw[Cq,Cq]at h1;rw[h1,ji k a b n oR hn,gH]
 rw[e f',e f];refine eE.append (eE.append ?_ h.stb) ?_
 ·rw[pM (f:=f') (f':=f) λt ht=>h.out _ (.inl (by omega))];exact .refl _
 ·rw[pM (f:=f') (f':=f) λt ht=>h.out _ (.inr (by omega))];exact .refl _
open bm bl
theorem yM (g:Nat) (T:TypeId) (A0:Array Value) (L cap a m b:Nat) (f:Nat->Mc) (cmp:Value) (w:World)
  (h:Dw w g T A0 L f) (ha:a<m) (hb:m<b) (xe:b<=L) (hL:L<=100000) :
  Calls Tryz.prog 216 #[.slice (some ⟨g,0,none⟩) L cap,.int .i64 a,.int .i64 m,.int .i64 b,cmp] w λe w'=>e = .returned (.tuple #[])/\Dw w' g T A0 L (ay f a m b)/\Fr [g] w w':=by
 have H:=af h;clear h;obtain⟨i0,Gd⟩:=ah (m-a);obtain⟨j0,Ot⟩:=ah (b-m);have e0:(m:Int)-(a:Int)=(i0:Int):=by omega
 have e1:(b:Int)-(m:Int)=(j0:Int):=by omega
 have H0:=aP Gd Ot ha hb xe;have hm:m<=100000:=by omega
 have Oy:1<=i0:=by omega
 have XJ:1<=j0:=by omega
 have hi2:i0<=100000:=by omega
 have CV:j0<=100000:=by omega
 clear Gd Ot ha hb xe;go_enter Tryz.func216,Tryz.ntmps216;go_wp2;go_loopg [10,11] (i0+j0) (λk s10 s11 wr=>∃i j:Nat,s10 = .int .i64 (i:Nat)/\s11 = .int .i64 (j:Nat)/\k=i+j/\1<=i/\1<=j/\i<=m/\m+j<=L/\∃f1,Dw wr g T A0 L f1/\ay f1 (m-i) m (m+j)=ay f a m b/\Fr [g] w wr);case atStart=>obtain⟨k0,k1,k2,k3,k4⟩:=H0.out;exact⟨i0,j0,rfl,rfl,rfl,Oy,XJ,by omega,by omega,f,H.out,by rw[show m-i0=a from by omega,show m+j0=b from by omega],.refl _ w⟩
 case round=>
  obtain⟨i,j,rfl,rfl,hk,k1,k2,k3,k4,f1,hD,hr,hf⟩:=hrel;obtain⟨p,hp⟩:=ah (m-i);have e2:(m:Int)-(i:Int)=(p:Int):=by omega
  have b1:i<=100000:=by omega
  have b2:j<=100000:=by omega
  rw[<-hp]at hr;by_cases jW:i=j
  ·subst jW;have hs:=Ib g T A0 L cap i p m f1 cmp wr hD (by omega) (by omega) hL;have er:mz f1 p m i=ay f a m b:=by rw[<-hr,hp];exact T6 f1 m i k3
   rw[er]at hs;have HI:=ak hs hf;clear hs hr er hf hD hp k3 k4;go_wp2_with (go_at_call 223;refine HI.o0.mono ?_;rintro e w2 ⟨rfl,dM,dK⟩);(try simp only[Exit.inBlock,Exit.then]);refine bodyPost_end (results_none rfl _ _ _) rfl ?_;exact⟨rfl,dM,HI.l1.trans dK⟩
  ·have bR:((i:Int)==(j:Int))=false:=by simp only[beq_eq_false_iff_ne];omega
   by_cases hgt:j<i
   ·have hs:=Ib g T A0 L cap j p m f1 cmp wr hD (by omega) (by omega) hL;have er:=T8 f1 m i j k3 hgt;rw[<-hp]at er;have HI:=bJ hs hf er hr hp hk;clear hs hr er hf hD hp hk;obtain⟨q,hq⟩:=ah (i-j);have e3:(i:Int)-(j:Int)=(q:Int):=by omega
    have HQ:=af hq;clear hq;go_wp2_with (go_at_call 223;refine HI.o0.mono ?_;rintro e w2 ⟨rfl,dM,dK⟩;have HW:=ak dM dK;clear dM dK);have hq:=HQ.out;have hk:=HI.l1.2.2.2.2;go_roundg (q+j);case measure=>omega
    case rel=>exact⟨q,j,by go_num,rfl,rfl,by omega,k2,by omega,k4,_,HW.o0,by rw[hq,HI.l1.2.1,HI.l1.2.2.1],HI.l1.1.trans HW.l1⟩
   ·have aY:i<j:=by omega
    obtain⟨q,hq⟩:=ah (m+j-i);have e3:(m:Int)+(j:Int)-(i:Int)=(q:Int):=by omega
    have hs:=Ib g T A0 L cap i p q f1 cmp wr hD (by omega) (by omega) hL;have er:=T9 f1 m i j k3 aY;rw[<-hp,<-hq]at er;have HI:=cz hs hf er hr hp hk hq;clear hs hr er hf hD hp hk hq;obtain⟨d,hd⟩:=ah (j-i);have e4:(j:Int)-(i:Int)=(d:Int):=by omega
    have HQ:=af hd;clear hd;go_wp2_with (go_at_call 223;refine HI.o0.mono ?_;rintro e w2 ⟨rfl,dM,dK⟩;have HW:=ak dM dK;clear dM dK);have hd:=HQ.out;have hk:=HI.l1.2.2.2.2.1;have hp:=HI.l1.2.2.2.1;go_roundg (i+d);case measure=>omega
    case rel=>exact⟨i,d,rfl,by go_num,rfl,k1,by omega,k3,by omega,_,HW.o0,by rw[<-hp,hd,HI.l1.2.1,HI.l1.2.2.1],HI.l1.1.trans HW.l1⟩
def Wb (f:Nat->Mc):Prop:=∀i,(f i).worth<=2^50
theorem Wb.TJ {f:Nat->Mc} (h:Wb f) (a m b:Nat):Wb (ay f a m b):=λi=>by
 unfold ay;split
 ·exact h _
 ·split<;>exact h _
theorem Wb.sd {f f':Nat->Mc} {a b:Nat} (h:Wb f) (s:Sd f f' a b):Wb f':=λi=>by
 by_cases hi:i<a\/b<=i
 ·rw[s.out i hi];exact h i
 ·have h1:tg (f' i)∈sg f' a (b-a):=oH.2 ⟨i-a,by omega,by rw[show a+(i-a)=i from by omega]⟩;obtain⟨t,_,ht⟩:=oH.1 ((s.stb.mem _).1 h1);have:=congrArg Prod.fst ht;simp only[tg]at this;rw[this];exact h _
def vc (x:Mc):Value:=.agg #[.int .i64 (x.worth:Nat),.slice x.ao x.len x.cap]
def jL:Value:=.func (.func 160) #[] #[]
theorem Ro (x y:Mc) (w:World) (hx:x.worth<=2^50) (hy:y.worth<=2^50) :
  Calls Tryz.prog 160 #[vc x,vc y] w λe w'=>e = .returned (.int .i64 ((x.worth:Int)-(y.worth:Int)))/\Fr [] w w':=by
 obtain⟨xw,xa,xl,xc⟩:=x;obtain⟨yw,ya,yl,yc⟩:=y;simp only[vc];simp only at hx hy;go_enter Tryz.func160,Tryz.ntmps160;go_wp2;go_ret;exact⟨rfl,((Fr.refl [] w).alloc _).alloc _⟩
theorem gV (f:Nat->Mc) (x y:Nat):swp f x y=swp f y x:=by funext i;unfold swp;split<;>split<;>simp_all
theorem Dw.fr {w w':World} {g:Nat} {T:TypeId} {A0:Array Value} {n:Nat} {f:Nat->Mc} (h:Dw w g T A0 n f) (k:Fr [] w w'):Dw w' g T A0 n f:=by obtain⟨A,h1,h2⟩:=h;exact⟨A,k.ae h1 (by simp),h2⟩
theorem Dw.drew {w:World} {g:Nat} {T:TypeId} {A0:Array Value} {n:Nat} {f:Nat->Mc} (h:Dw w g T A0 n f):Dw w.drew g T A0 n f:=h.fr (Fr.av [] w)
theorem Dw.cells {w:World} {g:Nat} {T:TypeId} {A0:Array Value} {n:Nat} {f:Nat->Mc} (h:Dw w g T A0 n f) {i:Nat} (hi:i<n) :
  w.cell? ⟨g,i*2,none⟩=some (.int .i64 ((f i).worth:Nat))/\w.cell? ⟨g,i*2+1,none⟩=some (.slice (f i).ao (f i).len (f i).cap):=by
 obtain⟨A,h1,_,_,_,h2⟩:=h;exact⟨(cell_of h1 _).trans (h2 i hi).1,(cell_of h1 _).trans (h2 i hi).2⟩
theorem Dw.kO {w:World} {g:Nat} {T:TypeId} {A0:Array Value} {n:Nat} {f:Nat->Mc} (h:Dw w g T A0 n f) {i:Nat} (hi:i<n) (x:World) :
  (sup [] w x).cell? ⟨g,i*2,none⟩=some (.int .i64 ((f i).worth:Nat))/\(sup [] w x).cell? ⟨g,i*2+1,none⟩=some (.slice (f i).ao (f i).len (f i).cap):=
 (h.fr (dk [] w x)).cells hi
theorem Sd.trans' {f f1 f2:Nat->Mc} {a i:Nat} (h:Sd f f1 a i) (h':Sd f1 f2 a (i+1)):Sd f f2 a (i+1):=by
 refine⟨λt ht=>(h'.out t ht).trans (h.out t (by omega)),h'.srt,h'.stb.trans ?_⟩;by_cases ha:a<=i
 ·rw[ji f1 a i (i+1) ha (by omega),ji f a i (i+1) ha (by omega)];refine eE.append h.stb ?_;rw[pM (f:=f1) (f':=f) λt _=>h.out _ (by omega)];exact .refl _
 ·rw[show i+1-a=0 from by omega,Du,Du];exact .refl _
theorem MN (g:Nat) (T:TypeId) (A0:Array Value) (L cap a b:Nat) (f:Nat->Mc) (w:World)
  (h:Dw w g T A0 L f) (ha:a<=b) (xe:b<=L) (hL:L<=100000) (bA:Wb f) :
  Calls Tryz.prog 201 #[.slice (some ⟨g,0,none⟩) L cap,.int .i64 (a:Nat),.int .i64 (b:Nat),jL] w λe w'=>e = .returned (.tuple #[])/\∃f',Dw w' g T A0 L f'/\Sd f f' a b/\Fr [g] w w':=by
 have H:=au h bA ha;clear h bA;unfold jL;go_enter Tryz.func201,Tryz.ntmps201;go_wp2;go_loopg [8,9] (b-a) (λk s8 s9 wr=>∃i:Nat,s8 = .int .i64 (i:Nat)/\i+k=b+1/\a+1<=i/\∃f1,Dw wr g T A0 L f1/\Sd f f1 a (min i b)/\Fr [g] w wr);case atStart=>
  refine⟨a+1,by go_num,by have:=H.l2;omega,aw _,f,H.o0,Dt f a _ ?_,.refl _ w⟩;refine yI.2 λx y rG hy=>?_
  obtain rfl:x=y:=by omega
  exact aw _
 case round=>
  obtain⟨i,rfl,bU,Yp,f1,hD,hS,hf⟩:=hrel;by_cases hi:i<b
  ·obtain⟨k,rfl⟩:∃k,gk=k+1:=⟨gk-1,by omega⟩;rw[tU (by omega)]at hS;have AX:=H.o1.sd hS;obtain⟨wo,rfl⟩:∃wo:World,wo=wr:=⟨_,rfl⟩;have HX:=aP hD hS hf AX bU;have XQ:i<L:=by omega
   have Lj:i<=100000:=by omega
   clear hD hS hf AX bU;go_wp2;go_loopg [9] (i-a) (λk s9 wr=>∃j:Nat,s9 = .int .i64 (j:Nat)/\j=k+a/\j<=i/\(j<i->(f1 i).worth<(f1 j).worth)/\Dw wr g T A0 L (ay f1 j i (i+1))/\Fr [g] w wr);case atStart=>exact⟨i,rfl,by omega,aw _,λh=>absurd h (by omega),by rw[yP f1 i i (i+1) (aw _) (by omega) (.inl rfl)];exact HX.o0,HX.o2⟩
   case round=>
    obtain⟨j,rfl,eG,ia,aY,hD,hf⟩:=hrel;by_cases hja:a<j
    ·obtain⟨k2,rfl⟩:∃k2,gk=k2+1:=⟨gk-1,by omega⟩;obtain⟨q,rfl⟩:∃q,j=q+1:=⟨j-1,by omega⟩;have x0:=wj (f:=f1) (a:=q+1) (m:=i) (b:=i+1) (t:=q+1) (aw _) (by omega);rw[show q+1-(q+1)+i=i from by omega]at x0;have x1:=pL (f:=f1) (a:=q+1) (m:=i) (b:=i+1) (t:=q) (by omega) (by omega) (.inl (by omega));have d0:=λx=>hD.drew.kO (i:=q+1) (by omega) x
     have d1:=λx=>hD.drew.kO (i:=q) (by omega) x
     rw[x0]at d0;rw[x1]at d1;have b0:=HX.o3 i;have b1:=HX.o3 q;obtain⟨p,hp⟩:=ah (f1 i);obtain⟨r,hr⟩:=ah (f1 q);rw[<-hp]at b0 d0;rw[<-hr]at b1 d1;have HI:=bJ hp hr hD hf eG aY;clear hp hr hD hf eG aY x0 x1;have vw:=λx=>(d0 x).1
     have vv:=λx=>(d0 x).2
     have d10:=λx=>(d1 x).1
     have d11:=λx=>(d1 x).2
     clear d0 d1;have e0:((q+1:Nat):Int)-1=(q:Int):=by omega
     have g2:decide ((L:Int)<=((q+1:Nat):Int))=false:=by simp;omega
     have g4:decide ((L:Int)<=(q:Int))=false:=by simp;omega
     obtain⟨j,hj⟩:=ah (q+1);rw[<-hj]at vw vv e0 g2 ia hja ⊢;have HJ:=af hj;clear hj;go_upto_region 4 with fail;refine jh 17 [(false,0),(false,1),(false,2),(false,3),(false,4),(false,5),(false,6),(false,7),(false,8),(false,9),(false,10),(false,11),(false,12),(false,13),(true,14),(false,15),(false,16)] [] (by kernel_rfl) (by kernel_rfl) (λ_ _ d _ _ h=>by cases d<;>exact h) ?_;simp only[iw];refine cS 14 rfl ?_;simp only[aU];repeat (go_big_quiet_step (fail))
     refine wpQuiet_nil ?_;refine ep rfl ?_;intro K hK;go_wp2_with (go_at_call 160;refine (Ro p r wr.drew b0 b1).mono ?_;rintro e w1 ⟨rfl,fO⟩);refine hK.out _ _ fO ?_;clear hK K vw vv d10 d11;have H1:=af fO;clear fO;by_cases hpr:p.worth<r.worth
     ·have g5:decide (((p.worth:Int)-(r.worth:Int))<0)=true:=by simp;omega
      refine cS 2 rfl ?_;simp only[aU];repeat (go_big_quiet_step (fail))
      refine wpQuiet_nil ?_;refine fE ?_;go_wp2;have hD:Dw w1 g T A0 L (ay f1 j i (i+1)):=by rw[HJ.out];exact (HI.out.2.2.1.drew).fr H1.out
      have kE:j<L:=by omega
      have qZ:q<L:=by omega
      have rG:j≠q:=by have:=HJ.out;omega
      obtain⟨A,hA,cG,gP,cM,eH⟩:=hD;have X:=eH j kE;have Y:=eH q qZ;obtain⟨cx,iy⟩:=ah ((ay f1 j i (i+1)) j);obtain⟨cy,iL⟩:=ah ((ay f1 j i (i+1)) q);rw[<-iy]at X;rw[<-iL]at Y;obtain⟨B3,B6,B4,B5⟩:=cx;obtain⟨vx,vA,vy,vz⟩:=cy;have d0:=(cell_of hA (j*2)).trans X.1;have d1:=(cell_of hA (j*2+1)).trans X.2;have d2:=(cell_of hA (q*2)).trans Y.1;have d3:=(cell_of hA (q*2+1)).trans Y.2;simp only at d0 d1 d2 d3;have dQ:=cz hA cG gP cM eH iy iL;clear hA cG gP cM eH iy iL X Y;go_upto_region 6 with fail;refine DC [(0,0),(0,1),(0,2),(0,3),(0,4),(0,5),(0,6),(0,7),(0,8),(1,9),(0,10),(0,11),(0,12),(1,13),(0,14),(2,15),(0,16),(2,17)] [g] [15,17] (by kernel_rfl) (by kernel_rfl) (λ_ _ d _ _ h=>by cases d<;>exact h) ?_;simp only[gW,oJ,yT,yS];refine ko 9 rfl ?_;simp only[aU];repeat (go_big_quiet_step (fail))
      refine wpQuiet_nil ?_;refine tT 1 rfl ?_;simp only[aU];repeat (go_big_quiet_step (fail))
      refine wpQuiet_nil ?_;refine ko 3 rfl ?_;simp only[aU];repeat (go_big_quiet_step (fail))
      refine wpQuiet_nil ?_;refine tT 1 rfl ?_;simp only[aU];repeat (go_big_quiet_step (fail))
      refine wpQuiet_nil ?_;refine ko 1 rfl ?_;simp only[aU];repeat (go_big_quiet_step (fail))
      refine wpQuiet_nil ?_;refine tS rfl ?_;intro K hK;have z0:=aO dQ.out.1 (j*2);have z1:=aO dQ.out.1 (j*2+1);go_wp2;refine hK.out _ _ (Fr.aS ((((Fr.refl [g] w1).setCell (by simp) _).setCell (by simp) _).drew)) ?_;clear hK K z0 z1;obtain⟨dW,bQ⟩:∃dW,dW=((w1.setCell ⟨g,j*2,none⟩ (.int .i64 (vx:Nat))).setCell ⟨g,j*2+1,none⟩ (.slice vA vy vz)):=⟨_,rfl⟩;rw[<-bQ];have bH:=aX (o:=j*2+1) (aX (o:=j*2) dQ.out.1 (.int .i64 vx)) (.slice vA vy vz);rw[<-bQ]at bH;obtain⟨A1,hB⟩:∃A1,A1=(A.setIfInBounds (j*2) (.int .i64 (vx:Nat))).setIfInBounds (j*2+1) (.slice vA vy vz):=⟨_,rfl⟩;rw[<-hB]at bH;have z0:=aO bH (q*2);have z1:=aO bH (q*2+1);have c2:dW.cell? ⟨g,q*2,none⟩=some (.int .i64 vx):=by rw[cell_of bH,hB,aZ (by omega),aZ (by omega),<-cell_of dQ.out.1];exact d2
      have c3:dW.cell? ⟨g,q*2+1,none⟩=some (.slice vA vy vz):=by rw[cell_of bH,hB,aZ (by omega),aZ (by omega),<-cell_of dQ.out.1];exact d3
      have vW:=au bH hB bQ;clear bH hB bQ d0 d1 d2 d3;refine ko 1 rfl ?_;simp only[aU];repeat (go_big_quiet_step (fail))
      refine wpQuiet_nil ?_;refine tS rfl ?_;intro K hK;go_wp2;refine hK.out _ _ (Fr.aS ((((Fr.refl [g] dW).setCell (by simp) _).setCell (by simp) _).drew)) ?_;clear hK K z0 z1 c2 c3;refine Dy ?_;obtain⟨w2,bq⟩:∃w2,w2=((dW.setCell ⟨g,q*2,none⟩ (.int .i64 (B3:Nat))).setCell ⟨g,q*2+1,none⟩ (.slice B6 B4 B5)):=⟨_,rfl⟩;rw[<-bq];have HZ:Hid (Dw w2 g T A0 L (swp (ay f1 j i (i+1)) q j)/\Fr [g] w1 w2):=by obtain⟨hA,cG,gP,cM,eH,iy,iL⟩:=dQ.out;obtain⟨bH,hB,bQ⟩:=vW.out;have gQ:=aX (o:=q*2+1) (aX (o:=q*2) bH (.int .i64 B3)) (.slice B6 B4 B5);rw[hB,<-bq]at gQ;exact af ⟨Dw.swap _ B3 B6 B4 B5 vx vA vy vz cG gP cM eH kE qZ iy iL gQ,by rw[bq,bQ];exact ((((Fr.refl [g] w1).setCell (by simp) _).setCell (by simp) _).setCell (by simp) _).setCell (by simp) _⟩
      clear bq;go_wp2;go_roundg k2;case measure=>have:=HI.out.2.2.2.2.1;omega
      case rel=>
       obtain⟨hp,hr,hD,hf,eG,aY⟩:=HI.out;have hj:=HJ.out;refine⟨q,by go_num,by omega,by omega,λ_=>by rw[<-hp,<-hr];exact hpr,?_,?_⟩
       ·have:=HZ.o0;have e:=Mn f1 i (q+1) (by omega) (by omega);rw[CI]at e;rw[hj,gV,e]at this;exact this.drew
       ·exact ((hf.drew).trans (H1.out.mono (by simp))).trans HZ.l1.drew
     ·have g5:decide (((p.worth:Int)-(r.worth:Int))<0)=false:=by simp;omega
      refine cS 2 rfl ?_;simp only[aU];repeat (go_big_quiet_step (fail))
      refine wpQuiet_nil ?_;refine fE ?_;go_wp2;go_roundg k;case measure=>have:=HX.l4;omega
      case rel=>obtain⟨hp,hr,hD,hf,eG,aY⟩:=HI.out;have hj:=HJ.out;have bU:=HX.l4;refine⟨i+1,by go_num,by omega,by omega,ay f1 j i (i+1),by rw[hj];exact hD.drew.fr H1.out,?_,(hf.drew).trans (H1.out.mono (by simp))⟩;rw[tU (by omega)];exact HX.o1.trans' (Hp f1 a i j (by omega) ia HX.o1.srt (λ_=>by rw[show j-1=q from by omega,<-hr,<-hp];omega) (λh=>by rw[hj]at h ⊢;exact aY h))
    ·have I5:j=a:=by omega
     have HI:=au hD hf aY;have g5:decide ((a:Int)<(j:Int))=false:=by simp;omega
     have HJ:=af I5;clear hD hf aY eG I5;go_upto_region 4 with fail;refine jh 17 [(false,0),(false,1),(false,2),(false,3),(false,4),(false,5),(false,6),(false,7),(false,8),(false,9),(false,10),(false,11),(false,12),(false,13),(true,14),(false,15),(false,16)] [] (by kernel_rfl) (by kernel_rfl) (λ_ _ d _ _ h=>by cases d<;>exact h) ?_;simp only[iw];refine cS 14 rfl ?_;simp only[aU];repeat (go_big_quiet_step (fail))
     repeat (go_big_quiet_step (fail))
     refine wpQuiet_nil ?_;refine Hg rfl ?_;simp only[Act.put,mC,nC,mB];refine cS 2 rfl ?_;simp only[aU];repeat (go_big_quiet_step (fail))
     refine wpQuiet_nil ?_;refine fE ?_;go_wp2;go_roundg k;case measure=>have:=HX.l4;omega
     case rel=>obtain⟨hD,hf,aY⟩:=HI.out;have bU:=HX.l4;have I5:=HJ.out;refine⟨i+1,by go_num,by omega,by omega,ay f1 j i (i+1),hD.drew,?_,hf.drew⟩;rw[tU (by omega)];exact HX.o1.trans' (Hp f1 a i j (by omega) ia HX.o1.srt (λh=>absurd h (by omega)) aY)
  ·have HI:=au hD hS hf;have e:min i b=b:=by omega
   rw[e]at hS;clear hD hf e bU;have HS:=af hS;clear hS;go_wp2;(try simp only[Exit.inBlock,Exit.then]);refine bodyPost_end (results_none rfl _ _ _) rfl ?_;exact⟨rfl,f1,HI.out.1,HS.out,HI.out.2.2⟩
end huf

end Go.Proofs.YtkmpfgpfbmeihaaGreatDoor