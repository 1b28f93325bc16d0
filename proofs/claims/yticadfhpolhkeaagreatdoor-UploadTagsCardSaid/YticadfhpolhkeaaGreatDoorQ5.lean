/-
  Texts of this proof, one behind the other: HuffPm, HuffKr, HuffStab, MixR, SortA, SortP, SortB, SortC.
-/
import Derived.Test.YticadfhpolhkeaaGreatDoorQ3
set_option maxHeartbeats 16000000
set_option maxRecDepth 100000
set_option linter.unusedVariables false
set_option linter.unusedSimpArgs false
namespace Go.Proofs.YticadfhpolhkeaaGreatDoor
namespace huf
open Go
abbrev aD:=Nat×List Nat
def aC:List aD->List aD
 | x::y::t=>(x.1+y.1,x.2++y.2)::aC t
 | _=>[]
def lW:List aD->List aD->List aD
 | [],p=>p
 | x::l,p=>go x l (lW l) p
where go (x:aD) (l:List aD) (f:List aD->List aD):List aD->List aD
 | []=>x::l
 | y::p=>if x.1<=y.1 then x::f (y::p) else y::go x l f p
theorem Sl (p:List aD):lW [] p=p:=rfl
theorem KW (l:List aD):lW l []=l:=by cases l<;>rfl
theorem OO {x y:aD} {l p:List aD} (h:x.1<=y.1):lW (x::l) (y::p)=x::lW l (y::p):=by show lW.go x l (lW l) (y::p)=_;rw[lW.go,if_pos h]
theorem OM {x y:aD} {l p:List aD} (h:¬x.1<=y.1):lW (x::l) (y::p)=y::lW (x::l) p:=by show lW.go x l (lW l) (y::p)=_;rw[lW.go,if_neg h];rfl
def Sorted (l:List aD):Prop:=l.Pairwise λa b=>a.1<=b.1
def ky:List aD->List aD->Nat->Nat×Nat
 | _,_,0=>(0,0)
 | [],p,m+1=>(0,min (m+1) p.length)
 | x::l,[],m+1=>(min (m+1) (l.length+1),0)
 | x::l,y::p,m+1=>if x.1<=y.1 then ((ky l (y::p) m).1+1,(ky l (y::p) m).2) else ((ky (x::l) p m).1,(ky (x::l) p m).2+1)
theorem yK:∀(l p:List aD),(lW l p).length=l.length+p.length
 | [],p=>by simp[Sl]
 | x::l,[]=>by simp[KW]
 | x::l,y::p=>by
  by_cases h:x.1<=y.1
  ·rw[OO h,dw,yK l (y::p)];simp only[dw];omega
  ·rw[OM h,dw,yK (x::l) p];simp only[dw];omega
termination_by l p=>l.length+p.length
theorem Ao:∀(l p:List aD) (m:Nat),m<=l.length+p.length->(ky l p m).1+(ky l p m).2=m/\(ky l p m).1<=l.length/\(ky l p m).2<=p.length
 | l,p,0,_=>by cases l<;>cases p<;>simp[ky]
 | [],p,m+1,h=>by simp[ky]at h ⊢;omega
 | x::l,[],m+1,h=>by simp[ky]at h ⊢;omega
 | x::l,y::p,m+1,h=>by
  simp only[dw]at h;by_cases hx:x.1<=y.1
  ·obtain⟨h1,h2,h3⟩:=Ao l (y::p) m (by simp only[dw];omega);rw[ky,if_pos hx];simp only[dw]at h3 ⊢;omega
  ·obtain⟨h1,h2,h3⟩:=Ao (x::l) p m (by simp only[dw];omega);rw[ky,if_neg hx];simp only[dw]at h2 ⊢;omega
termination_by l p m=>m
theorem Dk:∀(l p:List aD) (m:Nat),((lW l p).take m).Perm (l.take (ky l p m).1++p.take (ky l p m).2)
 | l,p,0=>by cases l<;>cases p<;>simp[ky]
 | [],p,m+1=>by
  rw[Sl,ky];simp only[sW,sS];rw[<-EM,lL (ax p.length)]
 | x::l,[],m+1=>by
  rw[KW,ky];simp only[List.take_nil,nX];rw[<-EM,lL (show (x::l).length<=l.length+1 from ax _)]
 | x::l,y::p,m+1=>by
  by_cases hx:x.1<=y.1
  ·rw[OO hx,ky,if_pos hx];simp only[lh,uo];exact (Dk l (y::p) m).cons x
  ·rw[OM hx,ky,if_neg hx];simp only[lh];exact ((Dk (x::l) p m).cons y).trans List.perm_middle.symm
termination_by l p m=>m
theorem TA:∀(l p:List aD) (m:Nat) (i j:Nat) (x y:aD),Sorted l->l[i]?=some x->p[j]?=some y->x.1<y.1->j<(ky l p m).2->i<(ky l p m).1
 | l,p,0,i,j,x,y,_,_,_,_,h=>by cases l<;>cases p<;>simp[ky]at h
 | [],p,m+1,i,j,x,y,_,hx,_,_,_=>by simp at hx
 | x0::l,[],m+1,i,j,x,y,_,_,hy,_,_=>by simp at hy
 | x0::l,y0::p,m+1,i,j,x,y,hs,hx,hy,B7,h=>by
  have im:=vN.1 hs;by_cases h0:x0.1<=y0.1
  ·rw[ky,if_pos h0]at h ⊢;cases i with
   | zero=>simp
   | succ i=>rw[dU]at hx;have:=TA l (y0::p) m i j x y im.2 hx hy B7 h;simp only;omega
  ·rw[ky,if_neg h0]at h ⊢;cases j with
   | zero=>
    simp only[dk,fI]at hy;subst hy;exfalso;cases i with
    | zero=>
     simp only[dk,fI]at hx;subst hx;omega
    | succ i=>
     rw[dU]at hx;have:=im.1 x (j5 hx);omega
   | succ j=>rw[dU]at hy;exact TA (x0::l) p m i j x y hs hx hy B7 (by simpa using h)
termination_by l p m=>m
theorem Tz:∀(l p:List aD) (m:Nat) (i j:Nat) (x y:aD),Sorted l->l[i]?=some x->p[j]?=some y->(ky l p m).1<=i->j<(ky l p m).2->y.1<x.1
 | l,p,0,i,j,x,y,_,_,_,_,h=>by cases l<;>cases p<;>simp[ky]at h
 | [],p,m+1,i,j,x,y,_,hx,_,_,_=>by simp at hx
 | x0::l,[],m+1,i,j,x,y,_,_,hy,_,_=>by simp at hy
 | x0::l,y0::p,m+1,i,j,x,y,hs,hx,hy,hi,h=>by
  have im:=vN.1 hs;by_cases h0:x0.1<=y0.1
  ·rw[ky,if_pos h0]at h hi;cases i with
   | zero=>simp at hi
   | succ i=>rw[dU]at hx;exact Tz l (y0::p) m i j x y im.2 hx hy (by simpa using hi) h
  ·rw[ky,if_neg h0]at h hi;have LH:x0.1<=x.1:=by
    cases i with
    | zero=>
     simp only[dk,fI]at hx;rw[hx];exact ax _
    | succ i=>rw[dU]at hx;exact im.1 x (j5 hx)
   cases j with
   | zero=>
    simp only[dk,fI]at hy;subst hy;omega
   | succ j=>rw[dU]at hy;exact Tz (x0::l) p m i j x y hs hx hy hi (by simpa using h)
termination_by l p m=>m
theorem PN:∀(l p:List aD),Sorted l->Sorted p->Sorted (lW l p)
 | [],p,_,hp=>hp
 | x::l,[],hl,_=>by rw[KW];exact hl
 | x::l,y::p,hl,hp=>by
  have tL:=vN.1 hl;have uS:=vN.1 hp;have mem:∀(a b:List aD) z,z∈lW a b->z∈a\/z∈b:=λa b z hz=>by
   have h1:=Dk a b (lW a b).length;rw[lL (ax _)]at h1;rcases jo.1 (h1.mem_iff.1 hz) with k|k
   ·exact .inl (sV k)
   ·exact .inr (sV k)
  by_cases h:x.1<=y.1
  ·rw[OO h];refine vN.2 ⟨λz hz=>?_,PN l (y::p) tL.2 hp⟩;rcases mem _ _ z hz with k|k
   ·exact tL.1 z k
   ·rcases eX.1 k with k|k
    ·rw[k];exact h
    ·exact bP h (uS.1 z k)
  ·rw[OM h];refine vN.2 ⟨λz hz=>?_,PN (x::l) p hl uS.2⟩;rcases mem _ _ z hz with k|k
   ·rcases eX.1 k with k|k
    ·rw[k];omega
    ·have:=tL.1 z k;omega
   ·exact uS.1 z k
termination_by l p=>l.length+p.length
theorem BM:∀l:List aD,(aC l).length=l.length/2
 | []=>rfl
 | [x]=>by simp[aC]
 | x::y::t=>by rw[aC,dw,BM t];simp only[dw];omega
theorem BI:∀(l:List aD) (j:Nat) (y:aD),(aC l)[j]?=some y->∃u v,l[2*j]?=some u/\l[2*j+1]?=some v/\y=(u.1+v.1,u.2++v.2)
 | [],j,y,h=>by simp[aC]at h
 | [x],j,y,h=>by simp[aC]at h
 | x::z::t,0,y,h=>by
  simp only[aC,dk,fI]at h;exact⟨x,z,rfl,rfl,h.symm⟩
 | x::z::t,j+1,y,h=>by rw[aC,dU]at h;obtain⟨u,v,h1,h2,h3⟩:=BI t j y h;exact⟨u,v,by rw[show 2*(j+1)=2*j+1+1 from by omega];exact h1,by rw[show 2*(j+1)+1=2*j+1+1+1 from by omega];exact h2,h3⟩
theorem TP {l:List aD} (h:Sorted l) {i j:Nat} {x y:aD} (hi:l[i]?=some x) (hj:l[j]?=some y) (oe:i<=j):x.1<=y.1:=by
 obtain⟨h1,rfl⟩:=nF.1 hi;obtain⟨h2,rfl⟩:=nF.1 hj;by_cases e:i=j
 ·subst e;exact ax _
 ·exact Ou.1 h i j h1 h2 (by omega)
theorem qkt (l:List aD) (h:Sorted l):Sorted (aC l):=by
 refine Ou.2 λi j hi hj oe=>?_
 obtain⟨u,v,h1,h2,h3⟩:=BI l i _ (dm hi);obtain⟨u',v',k1,k2,k3⟩:=BI l j _ (dm hj);rw[h3,k3];have a1:=TP h h1 k1 (by omega);have a2:=TP h h2 k2 (by omega);simp only;omega
theorem Tf:∀(l:List aD) (p:Nat),p<=(aC l).length->((aC l).take p).flatMap (·.2)=(l.take (2*p)).flatMap (·.2)
 | l,0,_=>by simp
 | [],p+1,h=>by simp[aC]at h
 | [x],p+1,h=>by simp[aC]at h
 | x::y::t,p+1,h=>by rw[aC,show 2*(p+1)=2*p+1+1 from by omega];simp only[lh,qd,fU];rw[Tf t p (by rw[aC,dw]at h;omega)]
def Pos (l:List aD):Prop:=∀x∈l,0<x.1
theorem qzs (l:List aD) (h:Pos l):Pos (aC l):=by intro y hy;obtain⟨j,hj⟩:=List.getElem?_of_mem hy;obtain⟨u,v,h1,h2,rfl⟩:=BI l j y hj;have:=h u (j5 h1);simp only;omega
theorem Sk (a b:List aD) (z:aD) (hz:z∈lW a b):z∈a\/z∈b:=by
 have h1:=Dk a b (lW a b).length;rw[lL (ax _)]at h1;rcases jo.1 (h1.mem_iff.1 hz) with k|k
 ·exact .inl (sV k)
 ·exact .inr (sV k)
def row (l:List aD):Nat->List aD
 | 0=>[]
 | k+1=>lW l (aC (row l k))
theorem TM (l:List aD) (h:Sorted l):∀k,Sorted (row l k)
 | 0=>List.Pairwise.nil
 | k+1=>PN l _ h (qkt _ (TM l h k))
theorem SB (l:List aD) (h:Pos l):∀k,Pos (row l k)
 | 0=>by intro x hx;cases hx
 | k+1=>by
  intro x hx;rcases Sk _ _ x hx with hx|hx
  ·exact h x hx
  ·exact qzs _ (SB l h k) x hx
theorem TL (l:List aD) (k:Nat):(row l (k+1)).length=l.length+(row l k).length/2:=by rw[row,yK,BM]
theorem Yz (l:List aD) (L:Nat) (hn:l.length<=2^L):∀k,k<=L->2*l.length<=(row l (k+1)).length+2^(L-k)
 | 0,_=>by
  rw[TL,CY];show 2*l.length<=l.length+0/2+2^L;omega
 | k+1,h=>by
  have ih:=Yz l L hn k (by omega);rw[TL];have e:2^(L-k)=2*2^(L-(k+1)):=by rw[show L-k=L-(k+1)+1 from by omega,qJ,pO]
  omega
def sl (l:List aD) (k m:Nat):Nat×Nat:=ky l (aC (row l k)) m
def gQ (l:List aD):Nat->Nat->Nat->Nat
 | 0,_,_=>0
 | k+1,m,i=>(if i<(sl l k m).1 then 1 else 0)+gQ l k (2*(sl l k m).2) i
theorem Si (l:List aD):∀k m i,gQ l k m i<=k
 | 0,_,_=>ax _
 | k+1,m,i=>by have:=Si l k (2*(sl l k m).2) i;rw[gQ];split<;>omega
theorem qkl {l:List aD} {m:Nat} {x:aD} (h:x∈l.take m):∃t,t<m/\l[t]?=some x:=by
 obtain⟨t,ht⟩:=List.getElem?_of_mem h;rw[oG]at ht;split at ht
 ·exact⟨t,by assumption,ht⟩
 ·cases ht
theorem Uh {l:List aD} {m t:Nat} {x:aD} (h:l[t]?=some x) (ht:t<m):x∈l.take m:=by refine j5 (i:=t) ?_;rw[oG,if_pos ht,h]
theorem zg0 (l:List aD) (hs:Sorted l) (hp:Pos l) (k m i:Nat) (hm:m<=(row l (k+2)).length) (h:i<(sl l k (2*(sl l (k+1) m).2)).1):i<(sl l (k+1) m).1:=by
 have uV:m<=l.length+(aC (row l (k+1))).length:=by rw[row,yK]at hm;exact hm
 obtain⟨_,_,ux⟩:=Ao l (aC (row l (k+1))) m uV;change (sl l (k+1) m).2<=_ at ux;rw[BM]at ux;generalize hP:(sl l (k+1) m).2=P at *;have hr:2*P<=l.length+(aC (row l k)).length:=by
  have:(row l (k+1)).length=l.length+(aC (row l k)).length:=by rw[row,yK]
  omega
 obtain⟨_,ha,_⟩:=Ao l (aC (row l k)) (2*P) hr;change (sl l k (2*P)).1<=_ at ha;have cN:i<l.length:=by omega
 have hx:l[i]?=some l[i]:=dm cN;have uU:l[i]∈(row l (k+1)).take (2*P):=by have h1:=Dk l (aC (row l k)) (2*P);rw[show lW l (aC (row l k))=row l (k+1) from rfl]at h1;exact h1.mem_iff.2 (jo.2 (.inl (Uh hx h)))
 obtain⟨t,ht,uu⟩:=qkl uU;have hj:t/2<(aC (row l (k+1))).length:=by rw[BM];omega
 obtain⟨u,v,h1,h2,h3⟩:=BI _ _ _ (dm hj);have iQ:=SB l hp (k+1);have hu:=iQ u (j5 h1);have hv:=iQ v (j5 h2);have bF:l[i].1<((aC (row l (k+1)))[t/2]).1:=by
  rw[h3];simp only;rcases (show t=2*(t/2)\/t=2*(t/2)+1 from by omega) with e|e
  ·rw[e,h1]at uu;rw[<-ig uu];omega
  ·rw[e,h2]at uu;rw[<-ig uu];omega
 exact TA l (aC (row l (k+1))) m i (t/2) l[i] _ hs hx (dm hj) bF (by
  change t/2<(sl l (k+1) m).2
  rw[hP]
  omega)
theorem ZZ (l:List aD) (hs:Sorted l) (hp:Pos l):∀k m i,m<=(row l (k+1)).length->(sl l k m).1<=i->gQ l (k+1) m i=0
 | 0,m,i,_,h=>by rw[gQ,if_neg (by omega),gQ]
 | k+1,m,i,hm,h=>by
  have uV:m<=l.length+(aC (row l (k+1))).length:=by rw[row,yK]at hm;exact hm
  obtain⟨_,_,ux⟩:=Ao l (aC (row l (k+1))) m uV;change (sl l (k+1) m).2<=_ at ux;rw[BM]at ux;rw[gQ,if_neg (by omega),iN];refine ZZ l hs hp k _ i (by omega) ?_;rcases kT i (sl l k (2*(sl l (k+1) m).2)).1 with hc|hc
  ·have:=zg0 l hs hp k m i hm hc;omega
  ·exact hc
def cJ:Nat->(Nat->Nat)->Nat
 | 0,_=>0
 | n+1,f=>cJ n f+f n
theorem Ui {f g:Nat->Nat}:∀n,(∀i,i<n->f i=g i)->cJ n f=cJ n g
 | 0,_=>rfl
 | n+1,h=>by rw[cJ,cJ,Ui n λi hi=>h i (by omega),h n (by omega)]
theorem ql1 (f:Nat->Nat) (c a:Nat):∀n,cJ n (λi=>if i<a then f i else f i+c)=cJ n f+(n-a)*c
 | 0=>by simp[cJ]
 | n+1=>by
  rw[cJ,cJ,ql1 f c a n];by_cases h:n<a
  ·rw[if_pos h,show n+1-a=0 from by omega,show n-a=0 from by omega];omega
  ·rw[if_neg h,show n+1-a=n-a+1 from by omega,oD,CX];omega
theorem Y5 (l:List aD) (hs:Sorted l) (hp:Pos l):∀k m,m<=(row l k).length->2*cJ l.length (λi=>2^(k-gQ l k m i))+m*2^k=2*(l.length*2^k)
 | 0,m,hm=>by
  have:m=0:=by simpa[row] using hm
  subst this;have e:∀n,cJ n (λi=>2^(0-gQ l 0 0 i))=n:=λn=>by
   induction n with
   | zero=>rfl
   | succ n ih=>rw[cJ,ih];simp
  rw[e];omega
 | k+1,m,hm=>by
  have uV:m<=l.length+(aC (row l k)).length:=by rw[row,yK]at hm;exact hm
  obtain⟨h1,h2,h3⟩:=Ao l (aC (row l k)) m uV;change (sl l k m).1+(sl l k m).2=m at h1;change (sl l k m).1<=_ at h2;change (sl l k m).2<=_ at h3;rw[BM]at h3;have ih:=Y5 l hs hp k (2*(sl l k m).2) (by omega);have L2:cJ l.length (λi=>2^(k+1-gQ l (k+1) m i))=cJ l.length (λi=>if i<(sl l k m).1 then 2^(k-gQ l k (2*(sl l k m).2) i) else 2^(k-gQ l k (2*(sl l k m).2) i)+2^k):=by
   refine Ui _ λi _=>?_
   by_cases hi:i<(sl l k m).1
   ·rw[if_pos hi,gQ,if_pos hi];congr 1;omega
   ·have hz:=ZZ l hs hp k m i hm (by omega);have lN:=hz;rw[gQ,if_neg hi,iN]at lN;rw[if_neg hi,hz,lN,CY,CY,qJ];omega
  rw[L2,ql1];generalize cJ l.length (λi=>2^(k-gQ l k (2*(sl l k m).2) i))=S at *;generalize (sl l k m).1=a at *;generalize (sl l k m).2=p at *;obtain⟨q,hq⟩:∃q,l.length=a+q:=⟨l.length-a,by omega⟩;rw[hq]at ih ⊢;rw[show a+q-a=q from by omega,<-h1,qJ];generalize 2^k=P at *;simp only[oD,yD]at ih ⊢;have e1:2*p*P=2*(p*P):=uq _ _ _;have e2:a*(P*2)=2*(a*P):=by rw[<-uq,pO]
  have e3:p*(P*2)=2*(p*P):=by rw[<-uq,pO]
  have e4:q*(P*2)=2*(q*P):=by rw[<-uq,pO]
  omega
theorem Zf (l:List aD) (hs:Sorted l) (hp:Pos l) (X:aD) (hn:2<=l.length) (hX:l[l.length-1]?=some X):∀k y,(aC (row l k))[l.length-2]?=some y->X.1<=y.1
 | 0,y,h=>by simp[row,aC]at h
 | k+1,y,h=>by
  rcases kT y.1 X.1 with hc|hc
  ·exfalso;obtain⟨u,v,h1,h2,rfl⟩:=BI _ _ _ h;have hu:=SB l hp (k+1) u (j5 h1);simp only at hc;have hvX:v.1<X.1:=by omega
   have hlen:2*(l.length-2)+1<(row l (k+1)).length:=(nF.1 h2).1;have yY:∀z∈(row l (k+1)).take (2*l.length-2),z.1<=v.1:=λz hz=>by obtain⟨t,ht,Ql⟩:=qkl hz;exact TP (TM l hs (k+1)) Ql h2 (by omega)
   have zh:=Dk l (aC (row l k)) (2*l.length-2);rw[show lW l (aC (row l k))=row l (k+1) from rfl]at zh;have kB:(row l (k+1)).length=l.length+(aC (row l k)).length:=by rw[row,yK]
   obtain⟨s1,s2,s3⟩:=Ao l (aC (row l k)) (2*l.length-2) (by omega);have ha:(ky l (aC (row l k)) (2*l.length-2)).1<=l.length-1:=by
    rcases kT (l.length-1) (ky l (aC (row l k)) (2*l.length-2)).1 with gp|gp
    ·have:=yY X (zh.mem_iff.2 (jo.2 (.inl (Uh hX gp))));omega
    ·exact gp
   have hj:l.length-2<(aC (row l k)).length:=by omega
   have LG:=dm hj;have h3:=Zf l hs hp X hn hX k _ LG;have h4:=yY _ (zh.mem_iff.2 (jo.2 (.inr (Uh LG (show l.length-2<_ by omega)))));omega
  ·exact hc
theorem zck (l:List aD) (hs:Sorted l) (hp:Pos l) (k:Nat) (hn:2<=l.length) (hm:2*l.length-2<=(row l (k+1)).length):(sl l k (2*l.length-2)).1=l.length:=by
 have hX:l[l.length-1]?=some l[l.length-1]:=dm (by omega);have kB:(row l (k+1)).length=l.length+(aC (row l k)).length:=by rw[row,yK]
 obtain⟨s1,s2,s3⟩:=Ao l (aC (row l k)) (2*l.length-2) (by omega);unfold sl;rcases kT (ky l (aC (row l k)) (2*l.length-2)).1 l.length with hc|hc
 ·exfalso;have hj:l.length-2<(aC (row l k)).length:=by omega
  have hy:=dm hj;have h1:=Tz l (aC (row l k)) (2*l.length-2) (l.length-1) (l.length-2) _ _ hs hX hy (by omega) (by omega);have h2:=Zf l hs hp _ hn hX k _ hy;omega
 ·omega
theorem zdt (l:List aD) (hs:Sorted l) (hp:Pos l) (L:Nat) (hL:1<=L) (hn:2<=l.length) (hnL:l.length<=2^L) :
  2*l.length-2<=(row l L).length/\(∀i,i<l.length->1<=gQ l L (2*l.length-2) i)/\cJ l.length (λi=>2^(L-gQ l L (2*l.length-2) i))=2^L:=by
 obtain⟨k,rfl⟩:∃k,L=k+1:=⟨L-1,by omega⟩;have hb:=Yz l (k+1) hnL k (by omega);rw[show k+1-k=1 from by omega,Nat.pow_one]at hb;refine⟨by omega,λi hi=>?_,?_⟩
 ·have:=zck l hs hp k hn (by omega);rw[gQ,if_pos (by omega)];omega
 ·have h1:=Y5 l hs hp (k+1) (2*l.length-2) (by omega);obtain⟨q,hq⟩:∃q,l.length=q+1:=⟨l.length-1,by omega⟩;generalize cJ l.length (λi=>2^(k+1-gQ l (k+1) (2*l.length-2) i))=S at *;rw[hq]at h1;generalize 2^(k+1)=P at *;rw[show 2*(q+1)-2=2*q from by omega,uq,oD,CX]at h1;omega
def fF {α:Type} (a b:List (Nat×α)):Prop:=∀k:Nat,a.filter (λx=>x.1==k)=b.filter λx=>x.1==k
theorem fF.refl {α:Type} (a:List (Nat×α)):fF a a:=λ_=>rfl
theorem fF.symm {α:Type} {a b:List (Nat×α)} (h:fF a b):fF b a:=λk=>(h k).symm
theorem fF.trans {α:Type} {a b c:List (Nat×α)} (h:fF a b) (h':fF b c):fF a c:=λk=>(h k).trans (h' k)
theorem fF.append {α:Type} {a b c d:List (Nat×α)} (h:fF a b) (h':fF c d):fF (a++c) (b++d):=λk=>by rw[Dt,Dt,h k,h' k]
theorem fF.swap {α:Type} {a b:List (Nat×α)} (h:∀x∈a,∀y∈b,y.1<x.1):fF (a++b) (b++a):=λk=>by
 rw[Dt,Dt];by_cases ha:a.filter (λx=>x.1==k)=[]
 ·rw[ha];simp
 ·obtain⟨x,hx⟩:=List.exists_mem_of_ne_nil _ ha;have vW:=C8.1 hx;have e:x.1=k:=by simpa using vW.2
  have hb:b.filter (λy=>y.1==k)=[]:=by
   refine List.filter_eq_nil_iff.2 λy hy=>?_
   have:=h x vW.1 y hy;simp only[beq_iff_eq];omega
  rw[hb];simp
theorem fF.mem {α:Type} {a b:List (Nat×α)} (h:fF a b) (x:Nat×α):x∈a↔x∈b:=by
 have h1:x∈a↔x∈a.filter (λy=>y.1==x.1):=by simp[C8]
 have h2:x∈b↔x∈b.filter (λy=>y.1==x.1):=by simp[C8]
 rw[h1,h2,h x.1]
def jH {α:Type} (l:List (Nat×α)):Prop:=l.Pairwise λa b=>a.1<=b.1
theorem zc5 {α:Type} {A1 A2 B1 B2 L R:List (Nat×α)} (hA:jH (A1++A2)) (hB:jH (B1++B2))
  (h1:∀x∈A2,∀y∈B1,y.1<x.1) (h2:∀x∈A1,∀y∈B2,x.1<=y.1)
  (hL:jH L) (hLs:fF L (A1++B1)) (hR:jH R) (hRs:fF R (A2++B2)) :
  jH (L++R)/\fF (L++R) (A1++A2++(B1++B2)):=by
 refine⟨E5.2 ⟨hL,hR,λx hx y hy=>?_⟩,?_⟩
 ·rcases jo.1 ((hLs.mem x).1 hx) with a|a<;>rcases jo.1 ((hRs.mem y).1 hy) with b|b
  ·exact (E5.1 hA).2.2 x a y b
  ·exact h2 x a y b
  ·exact Nat.le_of_lt (h1 y b x a)
  ·exact (E5.1 hB).2.2 x a y b
 ·refine (hLs.append hRs).trans ?_;have:=fF.append (fF.append (.refl A1) (fF.symm (fF.swap h1))) (.refl B2);simpa[fU] using this
theorem zds {α:Type} {x:Nat×α} {B1 B2:List (Nat×α)} (hB:jH (B1++B2)) (h1:∀y∈B1,y.1<x.1) (h2:∀y∈B2,x.1<=y.1) :
  jH (B1++x::B2)/\fF (B1++x::B2) (x::(B1++B2)):=by
 obtain⟨jR,mF,uA⟩:=E5.1 hB;refine⟨E5.2 ⟨jR,vN.2 ⟨h2,mF⟩,λa ha y hy=>?_⟩,?_⟩
 ·rcases eX.1 hy with e|e
  ·rw[e];exact Nat.le_of_lt (h1 a ha)
  ·exact uA a ha y e
 ·have:=fF.append (fF.symm (fF.swap (a:=[x]) (b:=B1) λa ha y hy=>by rw[eF.1 ha];exact h1 y hy)) (.refl B2);simpa[fU] using this
theorem qzn {α:Type} {x:Nat×α} {A1 A2:List (Nat×α)} (hA:jH (A1++A2)) (h1:∀y∈A1,y.1<=x.1) (h2:∀y∈A2,x.1<y.1) :
  jH (A1++x::A2)/\fF (A1++x::A2) (A1++A2++[x]):=by
 obtain⟨Gy,Ju,ha3⟩:=E5.1 hA;refine⟨E5.2 ⟨Gy,vN.2 ⟨λy hy=>Nat.le_of_lt (h2 y hy),Ju⟩,λa ha y hy=>?_⟩,?_⟩
 ·rcases eX.1 hy with e|e
  ·rw[e];exact h1 a ha
  ·exact ha3 a ha y e
 ·have:=fF.append (.refl A1) (fF.symm (fF.swap (a:=A2) (b:=[x]) λa ha y hy=>by rw[eF.1 hy];exact h2 a ha));simpa[fU] using this
theorem qnt:∀(a b:List aD),Sorted a->Sorted b->fF a b->a=b
 | [],[],_,_,_=>rfl
 | [],y::b,_,_,h=>absurd ((h.mem y).2 sT) (by simp)
 | x::a,[],_,_,h=>absurd ((h.mem x).1 sT) (by simp)
 | x::a,y::b,ha,hb,h=>by
  have hx:y.1<=x.1:=by
   rcases eX.1 ((h.mem x).1 sT) with e|e
   ·rw[e];exact ax _
   ·exact (vN.1 hb).1 x e
  have hy:x.1<=y.1:=by
   rcases eX.1 ((h.mem y).2 sT) with e|e
   ·rw[e];exact ax _
   ·exact (vN.1 ha).1 y e
  have he:x.1=y.1:=by omega
  have h1:=h x.1;rw[List.filter_cons_of_pos (by simp),List.filter_cons_of_pos (by simp[he])]at h1;have B7:x=y:=(EI h1).1;subst B7;rw[qnt a b (vN.1 ha).2 (vN.1 hb).2 λk=>?_];have h2:=h k;rw[List.filter_cons,List.filter_cons]at h2;split at h2
  ·exact (EI h2).2
  ·exact h2
theorem Sm:∀(l p:List aD),Sorted l->fF (lW l p) (l++p)
 | [],p,_=>by rw[Sl,sS];exact .refl _
 | x::l,[],_=>by rw[KW,nX];exact .refl _
 | x::l,y::p,hs=>by
  by_cases h:x.1<=y.1
  ·rw[OO h];exact fF.append (.refl [x]) (Sm l (y::p) (vN.1 hs).2)
  ·rw[OM h];have h1:fF (y::lW (x::l) p) ([y]++((x::l)++p)):=fF.append (.refl [y]) (Sm (x::l) p hs);refine h1.trans ?_;rw[<-fU,show (x::l)++y::p=((x::l)++[y])++p from by simp];refine fF.append (fF.symm (fF.swap λa ha b hb=>?_)) (.refl p);rw[eF.1 hb];rcases eX.1 ha with e|e
   ·rw[e];omega
   ·have:=(vN.1 hs).1 a e;omega
termination_by l p=>l.length+p.length
theorem qwt {l p r:List aD} (hl:Sorted l) (hp:Sorted p) (hr:Sorted r) (h:fF r (l++p)):r=lW l p:=
 qnt _ _ hr (PN l p hl hp) (h.trans (Sm l p hl).symm)
end huf
namespace lib
open Go
theorem Fr.dF {S:LN} {w w':World} (h:Fr S w w'):Fr S w.drew w':=⟨h.os,h.tape,h.output,h.size,h.block⟩
section
variable {P : Program} {ops : Array Oper} {Q : Exit -> Act -> World -> Prop} {md : Region.Mode}
def lj (P:Program) (ops:Array Oper) (S:LN) (Q:Exit->Act->World->Prop) (tail:List Oper):List (Bool×Oper)->World->Act->World->Prop
 | [],_,a,w=>wpList P ops Q tail a w
 | (false,o)::rest,b,a,w=>if Region.wanted o (yielded ops a.tmps) then o.quiet P a (fC S b) (λa'=>lj P ops S Q tail rest b a' w) else lj P ops S Q tail rest b (a.put o.dst undef) w
 | (true,o)::rest,b,a,w=>if Region.wanted o (yielded ops a.tmps) then o.wp P a w (λa' w'=>∃b',Fr S b b'/\Fr S b' w'/\lj P ops S Q tail rest b' a' w') Q else lj P ops S Q tail rest b (a.put o.dst undef) w
theorem KA {n:Nat} {S:LN} {l:List Oper} (hl:ops=l.toArray) (bQ:Region.noSelect ops=true) (hQ:∀c a d v w,Q (.panic c) (Act.put a d v) w->Q (.panic c) a w)
  (hT:∀i,i<n->∀listed,HeadInv md ops n listed->listed.getD i true=false->∀t,n<=t->t∉Region.ready md ops listed) :
  ∀(order:List (Bool×Nat)) (listed:Array Bool) (b:World) (a:Act) (w:World),Fr S b w->HeadInv md ops n listed->xi md ops n order listed=true->
   lj P ops S Q (l.drop n) (order.map λx=>(x.1,l.getD x.2 default)) b a w->lT P md ops Q n (fC S b) (order.length+(ops.size-n)) listed a w
 | [],listed,b,a,w,_,_,hB,h=>by
  have hlen:(l.drop n).length=ops.size-n:=by rw[hl];simp
  have:=PY (P:=P) (Q:=Q) (md:=md) (ops:=ops) (n:=n) (C:=fC S b) (l.drop n) n listed a w (ax _) (λj=>by rw[hl];simp[EZ]) (by rw[hlen];exact hB) h;simpa[hlen] using this
 | (e,i)::rest,listed,b,a,w,dM,inv,hB,h=>by
  simp only[xi,kI,decide_eq_true_eq]at hB;obtain⟨⟨fD,he⟩,bE⟩:=hB;have hlen:((e,i)::rest).length+(ops.size-n)=rest.length+(ops.size-n)+1:=by simp;omega
  rw[hlen];have hC:fC S b w:=fC.of dM;cases e with
  | false=>
   simp only[kI]at he;obtain⟨⟨hr,hf⟩,hk⟩:=he;have eZ:i∈Region.ready md ops listed:=by simpa using hr
   obtain⟨_,oi,dQ,_⟩:=mem_ready.1 eZ;rw[dQ]at hk;have hd:l.getD i default=oi:=by rw[hl]at dQ;simp at dQ;simp[List.getD,dQ]
   simp only[jL,hd,lj]at h;by_cases hw:Region.wanted oi (yielded ops a.tmps)=true
   ·rw[if_pos hw]at h;obtain⟨v,h1,h2⟩:=h;have hy:QY P ops (fC S b) oi v a:=.inl ⟨hw,λu hu=>KY hk (h1 u hu)⟩;exact PU dQ (Av bQ) hQ fD (hT i fD) _ listed a w inv (Aq dQ hf) eZ hy hC (KA hl bQ hQ hT rest _ b _ w dM (inv.set eZ fD) bE h2)
   ·rw[if_neg hw]at h;have hy:QY P ops (fC S b) oi undef a:=.inr ⟨by simpa using hw,rfl⟩;exact PU dQ (Av bQ) hQ fD (hT i fD) _ listed a w inv (Aq dQ hf) eZ hy hC (KA hl bQ hQ hT rest _ b _ w dM (inv.set eZ fD) bE h)
  | true=>
   simp only[decide_eq_true_eq]at he;have eZ:i∈Region.ready md ops listed:=by rw[he];simp
   obtain⟨_,oi,dQ,_⟩:=mem_ready.1 eZ;have hd:l.getD i default=oi:=by rw[hl]at dQ;simp at dQ;simp[List.getD,dQ]
   simp only[jL,hd,lj]at h;refine⟨λh0=>(by rw[h0]at eZ;cases eZ),λj hj=>?_⟩;rw[he]at hj;have jr:j=i:=by simpa using hj
   subst jr;unfold wpOp;simp only[dQ];by_cases hw:Region.wanted oi (yielded ops a.tmps)=true
   ·rw[if_pos hw]at h;rw[if_pos hw];left;exact Oper.wp_mono (λa' w' h'=>by
     obtain⟨b',g1,g2,h'⟩:=h'
     exact⟨λ_=>fC.of (g1.trans g2),PA (fC.sub g1) _ _ _ _ (KA hl bQ hQ hT rest _ b' a' w' g2 (inv.set eZ fD) bE h')⟩) h
   ·rw[if_neg hw]at h;rw[if_neg hw];exact⟨λ_=>hC,KA hl bQ hQ hT rest _ b _ w dM (inv.set eZ fD) bE h⟩
theorem ql8 {id:Nat} {a:Act} {w:World} {l:List Oper} (n:Nat) (order:List (Bool×Nat)) (S:LN) (hm:P.follows .mixedOrders=true) (hB:rC .any l.toArray n order=true)
  (hQ:∀c a d v w,Q (.panic c) (Act.put a d v) w->Q (.panic c) a w)
  (h:lj P l.toArray S Q (l.drop n) (order.map λx=>(x.1,l.getD x.2 default)) w.drew a w.drew):(Code.region id l.toArray true).wp P Q a w:=by
 simp only[rC,kI,decide_eq_true_eq,Hs]at hB;obtain⟨⟨⟨bQ,hn⟩,hlen⟩,rH⟩:=hB;have uL:HeadInv .any l.toArray n (Array.replicate l.toArray.size false):=
  ⟨by simp,λj oj _ hl=>(by rw[getD_replicate_false]at hl;cases hl),λt _ ht=>getD_in (by simpa using ht) (getD_replicate_false _ _)⟩
 have hT:∀i,i<n->∀listed,HeadInv .any l.toArray n listed->listed.getD i true=false->∀t,n<=t->t∉Region.ready .any l.toArray listed:=by
  intro i hi listed inv kA t ht hr;rcases hn with hn|⟨⟨hn,hs⟩,hc⟩
  ·obtain⟨_,o,ho,_⟩:=mem_ready.1 hr;have:=(Oy.1 ho).1;omega
  ·exact tail_waits hs hc hn inv _ i rfl hi kA t ht hr
 refine wp_region_any hm (KU (n:=n) (C:=fC S w.drew) _ _ _ _ ?_);have:=KA (P:=P) (Q:=Q) (md:=.any) (n:=n) (S:=S) rfl bQ hQ hT order _ w.drew a w.drew (Fr.refl _ _) uL rH h;rw[hlen]at this;exact this
theorem Po {S:LN} {tail:List Oper} {items:List (Bool×Oper)} {b:World} {a:Act} {w:World} (k:Nat) (h0:((items.take k).all λx=>!x.1)=true)
  (h:wpQuiet P ops (fC S b) (λa'=>lj P ops S Q tail (items.drop k) b a' w) ((items.take k).map (·.2)) a):lj P ops S Q tail items b a w:=by
 induction k generalizing items a with
 | zero=>exact h
 | succ k ih=>
  cases items with
  | nil=>exact h
  | cons x rest=>
   obtain⟨e,o⟩:=x;simp only[lh,List.all_cons,kI,Bool.not_eq_true']at h0;obtain⟨rfl,h0⟩:=h0;simp only[lh,jL,nY,wpQuiet]at h;unfold lj;by_cases hw:Region.wanted o (yielded ops a.tmps)=true
   ·rw[if_pos hw]at h ⊢;obtain⟨v,h1,h2⟩:=h;exact⟨v,h1,ih h0 h2⟩
   ·rw[if_neg hw]at h ⊢;exact ih h0 h
theorem Pn {S:LN} {tail:List Oper} {rest:List (Bool×Oper)} {o:Oper} {b:World} {a:Act} {w:World} (hw:Region.wanted o (yielded ops a.tmps)=true)
  (h:∀K:Act->World->Prop,Go.RowKit.Hid (∀a' w' b',Fr S b b'->Fr S b' w'->lj P ops S Q tail rest b' a' w'->K a' w')->o.wp P a w K Q):lj P ops S Q tail ((true,o)::rest) b a w:=by
 unfold lj;rw[if_pos hw];exact h _ λ_ _ b' h1 h2 h3=>⟨b',h1,h2,h3⟩
theorem Zd {S:LN} {tail:List Oper} {b:World} {a:Act} {w:World} (h:wpList P ops Q tail a w):lj P ops S Q tail [] b a w:=h
end
end lib
namespace huf
open Go Go.RowKit lib bm bl
structure Mc where
 worth:Nat
 ao:Option Addr
 len:Nat
 cap:Nat
def Dw (w:World) (g:Nat) (T:TypeId) (A0:AV) (n:Nat) (f:Nat->Mc):Prop:=
 ∃A:Array Value,w.heap[g]?=some (.cells A T (0,0))/\A.size=A0.size/\2*n<=A.size/\(∀j,2*n<=j->A[j]?=A0[j]?)/\
  ∀i,i<n->A[i*2]?=some (.int .i64 ((f i).worth:Nat))/\A[i*2+1]?=some (.slice (f i).ao (f i).len (f i).cap)
def swp (f:Nat->Mc) (x y:Nat):Nat->Mc:=λi=>if i=x then f y else if i=y then f x else f i
def vL (f:Nat->Mc) (a b:Nat):Nat->Nat->Mc
 | 0=>f
 | k+1=>swp (vL f a b k) (b+k) (a+k)
theorem Dw.swap {g:Nat} {T:TypeId} {A0 A:AV} {n x y:Nat} {f:Nat->Mc} (w2:World) (pw:Nat) (pa:OA) (pl pc qw:Nat) (qa:OA) (ql qc:Nat)
  (hs:A.size=A0.size) (hn:2*n<=A.size) (ht:∀j,2*n<=j->A[j]?=A0[j]?)
  (hf:∀i,i<n->A[i*2]?=some (.int .i64 ((f i).worth:Nat))/\A[i*2+1]?=some (.slice (f i).ao (f i).len (f i).cap))
  (hx:x<n) (hy:y<n) (hp:(⟨pw,pa,pl,pc⟩:Mc)=f x) (hq:(⟨qw,qa,ql,qc⟩:Mc)=f y)
  (h:w2.heap[g]?=some (.cells ((((A.setIfInBounds (x*2) (.int .i64 qw)).setIfInBounds (x*2+1) (.slice qa ql qc)).setIfInBounds (y*2) (.int .i64 pw)).setIfInBounds (y*2+1) (.slice pa pl pc)) T (0,0))) :
  Dw w2 g T A0 n (swp f y x):=by
 refine⟨_,h,by simp[hs],by simp;exact hn,λj hj=>?_,λi hi=>?_⟩
 ·rw[cV (by omega),cV (by omega),cV (by omega),cV (by omega)];exact ht j hj
 ·unfold swp;by_cases h1:i=y
  ·subst h1;rw[if_pos rfl,<-hp];refine⟨?_,?_⟩
   ·rw[cV (by omega),oI (by simp;omega)]
   ·rw[oI (by simp;omega)]
  ·rw[if_neg h1];by_cases h2:i=x
   ·subst h2;rw[if_pos rfl,<-hq];refine⟨?_,?_⟩
    ·rw[cV (by omega),cV (by omega),cV (by omega),oI (by omega)]
    ·rw[cV (by omega),cV (by omega),oI (by simp;omega)]
   ·rw[if_neg h2];refine⟨?_,?_⟩
    ·rw[cV (by omega),cV (by omega),cV (by omega),cV (by omega)];exact (hf i hi).1
    ·rw[cV (by omega),cV (by omega),cV (by omega),cV (by omega)];exact (hf i hi).2
theorem TR (g:Nat) (T:TypeId) (A0:AV) (L cap n a b:Nat) (f:Nat->Mc) (cmp:Value) (w:World)
  (h:Dw w g T A0 L f) (ha:a+n<=b) (hb:b+n<=L) (hL:L<=100000) :
  Calls Tryz.prog 377 #[.slice (some ⟨g,0,none⟩) L cap,.int .i64 a,.int .i64 b,.int .i64 n,cmp] w λe w'=>e = .returned (.tuple #[])/\Dw w' g T A0 L (vL f a b n)/\Fr [g] w w':=by
 have H:=af h;clear h;go_enter Tryz.func377,Tryz.ntmps377;go_wp2;go_loopg [10] n (λk s10 wr=>∃i:Nat,s10 = .int .i64 (i:Nat)/\i+k=n/\Dw wr g T A0 L (vL f a b i)/\Fr [g] w wr);case atStart=>exact⟨0,rfl,by omega,H.out,.refl _ w⟩
 case round=>
  obtain⟨i,rfl,cQ,hD,hf⟩:=hrel;by_cases hi:i<n
  ·obtain⟨k,rfl⟩:∃k,gk=k+1:=⟨gk-1,by omega⟩;obtain⟨A,hA,gg,rQ,gF,mL⟩:=hD;obtain⟨x,hx⟩:=ah (a+i);obtain⟨y,hy⟩:=ah (b+i);have X:=mL x (by omega);have Y:=mL y (by omega);obtain⟨p,hp⟩:=ah (vL f a b i x);obtain⟨q,hq⟩:=ah (vL f a b i y);rw[<-hp]at X;rw[<-hq]at Y;obtain⟨pw,pa,pl,pc⟩:=p;obtain⟨qw,qa,ql,qc⟩:=q;have d0:=(cell_of hA (x*2)).trans X.1;have d1:=(cell_of hA (x*2+1)).trans X.2;have d2:=(cell_of hA (y*2)).trans Y.1;have d3:=(cell_of hA (y*2+1)).trans Y.2;simp only at d0 d1 d2 d3;have e0:((a:Int)+(i:Int))=(x:Int):=by omega
   have e1:((b:Int)+(i:Int))=(y:Int):=by omega
   have g1:decide ((x:Int)<0)=false:=by simp
   have g2:decide ((L:Int)<=(x:Int))=false:=by simp;omega
   have g3:decide ((y:Int)<0)=false:=by simp
   have g4:decide ((L:Int)<=(y:Int))=false:=by simp;omega
   have tj:x<L:=by omega
   have AE:y<L:=by omega
   have HX:=sM hA gg rQ gF mL hf hp hq hx hy;clear hA gg rQ gF mL hf hp hq X Y hx hy;go_upto_region 3 with fail;refine PV [(0,0),(0,1),(0,2),(0,3),(0,4),(0,5),(0,6),(0,7),(0,8),(0,9),(0,10),(0,11),(0,12),(1,13),(0,14),(0,15),(0,16),(0,17),(0,18),(1,19),(0,20),(2,21),(0,22),(2,23)] [g] [21,23] (by kernel_rfl) (by kernel_rfl) (λ_ _ d _ _ h=>by cases d<;>exact h) ?_;simp only[jL,qg,BS,BR];refine uj 13 rfl ?_;simp only[cT];repeat (go_big_quiet_step (fail))
   refine wpQuiet_nil ?_;refine Dp 1 rfl ?_;simp only[cT];repeat (go_big_quiet_step (fail))
   refine wpQuiet_nil ?_;refine uj 5 rfl ?_;simp only[cT];repeat (go_big_quiet_step (fail))
   refine wpQuiet_nil ?_;refine Dp 1 rfl ?_;simp only[cT];repeat (go_big_quiet_step (fail))
   refine wpQuiet_nil ?_;refine uj 1 rfl ?_;simp only[cT];repeat (go_big_quiet_step (fail))
   refine wpQuiet_nil ?_;refine Dj rfl ?_;intro K hK;have z0:=aT HX.out.1 (x*2);have z1:=aT HX.out.1 (x*2+1);go_wp2;refine hK.out _ _ (Fr.dF ((((Fr.refl [g] wr).setCell (by simp) _).setCell (by simp) _).drew)) ?_;clear hK K z0 z1;obtain⟨w1,aJ⟩:∃w1,w1=((wr.setCell ⟨g,x*2,none⟩ (.int .i64 (qw:Nat))).setCell ⟨g,x*2+1,none⟩ (.slice qa ql qc)):=⟨_,rfl⟩;rw[<-aJ];have iW:=df (o:=x*2+1) (df (o:=x*2) HX.out.1 (.int .i64 qw)) (.slice qa ql qc);rw[<-aJ]at iW;obtain⟨A1,hB⟩:∃A1,A1=(A.setIfInBounds (x*2) (.int .i64 (qw:Nat))).setIfInBounds (x*2+1) (.slice qa ql qc):=⟨_,rfl⟩;rw[<-hB]at iW;have z0:=aT iW (y*2);have z1:=aT iW (y*2+1);have B7:x<y:=by have:=HX.out.2.2.2.2.2.2.2.2;omega
   have c2:w1.cell? ⟨g,y*2,none⟩=some (.int .i64 qw):=by rw[cell_of iW,hB,cV (by omega),cV (by omega),<-cell_of HX.out.1];exact d2
   have c3:w1.cell? ⟨g,y*2+1,none⟩=some (.slice qa ql qc):=by rw[cell_of iW,hB,cV (by omega),cV (by omega),<-cell_of HX.out.1];exact d3
   have HY:=aq iW hB aJ;clear iW hB aJ d0 d1 d2 d3;refine uj 1 rfl ?_;simp only[cT];repeat (go_big_quiet_step (fail))
   refine wpQuiet_nil ?_;refine Dj rfl ?_;intro K hK;go_wp2;refine hK.out _ _ (Fr.dF ((((Fr.refl [g] w1).setCell (by simp) _).setCell (by simp) _).drew)) ?_;clear hK K z0 z1 c2 c3;refine Pm ?_;go_wp2;go_roundg k;case measure=>omega
   case rel=>
    obtain⟨hA,gg,rQ,gF,mL,hf,hp,hq,hx,hy⟩:=HX.out;obtain⟨iW,hB,aJ⟩:=HY.out;have lR:=df (o:=y*2+1) (df (o:=y*2) iW (.int .i64 pw)) (.slice pa pl pc);rw[hB]at lR;obtain⟨w2,cC⟩:∃w2,w2=((w1.setCell ⟨g,y*2,none⟩ (.int .i64 (pw:Nat))).setCell ⟨g,y*2+1,none⟩ (.slice pa pl pc)):=⟨_,rfl⟩;rw[<-cC]at lR ⊢;refine⟨i+1,by go_num,by omega,?_,?_⟩
    ·rw[vL,<-hx,<-hy];exact Dw.swap _ pw pa pl pc qw qa ql qc gg rQ gF mL tj AE hp hq lR
    ·rw[cC,aJ];exact ((((hf.setCell (by simp) _).setCell (by simp) _).setCell (by simp) _).setCell (by simp) _).drew
  ·obtain rfl:i=n:=by omega
   have HI:=ai hD hf;clear hD hf;go_wp2;(try simp only[Exit.inBlock,Exit.then]);refine bodyPost_end (results_none rfl _ _ _) rfl ?_;exact⟨rfl,HI.o0,HI.l1⟩
end huf
namespace huf
open Go Go.RowKit lib
variable {f f':Nat->Mc} {a b m n t:Nat}
theorem OU (f:Nat->Mc) (a b:Nat):∀n,a+n<=b->∀t,vL f a b n t=if a<=t/\t<a+n then f (t-a+b) else if b<=t/\t<b+n then f (t-b+a) else f t
 | 0,_,t=>by rw[if_neg (by omega),if_neg (by omega)];rfl
 | n+1,h,t=>by
  have ih:=OU f a b n (by omega);show (if t=b+n then vL f a b n (a+n) else if t=a+n then vL f a b n (b+n) else vL f a b n t)=_;rw[ih,ih,ih];by_cases h1:t=b+n
  ·subst h1;rw[if_pos rfl,if_neg (by omega),if_neg (by omega),if_neg (by omega),if_pos (by omega)];congr 1;omega
  ·rw[if_neg h1];by_cases h2:t=a+n
   ·subst h2;rw[if_pos rfl,if_neg (by omega),if_neg (by omega),if_pos (by omega)];congr 1;omega
   ·rw[if_neg h2];by_cases h3:a<=t/\t<a+n
    ·rw[if_pos h3,if_pos (by omega)]
    ·rw[if_neg h3,if_neg (c:=a<=t/\t<a+(n+1)) (by omega)];by_cases h4:b<=t/\t<b+n
     ·rw[if_pos h4,if_pos (by omega)]
     ·rw[if_neg h4,if_neg (by omega)]
def bA (f:Nat->Mc) (a m b:Nat):Nat->Mc:=λt=>if a<=t/\t<a+(b-m) then f (t-a+m) else if a+(b-m)<=t/\t<b then f (t-(b-m)) else f t
theorem E7 (h1:a<=t) (h2:t<a+(b-m)):bA f a m b t=f (t-a+m):=if_pos ⟨h1,h2⟩
theorem II (h1:a+(b-m)<=t) (h2:t<b):bA f a m b t=f (t-(b-m)):=by unfold bA;rw[if_neg (by omega),if_pos ⟨h1,h2⟩]
theorem yH (ha:a<=m) (hb:m<=b) (h:t<a\/b<=t):bA f a m b t=f t:=by unfold bA;rw[if_neg (by omega),if_neg (by omega)]
theorem zid (f:Nat->Mc) (m i:Nat) (hi:i<=m):vL f (m-i) m i=bA f (m-i) m (m+i):=by
 funext t;rw[OU f (m-i) m i (by omega) t];unfold bA;by_cases h1:m-i<=t/\t<m-i+i
 ·rw[if_pos h1,if_pos (by omega)]
 ·rw[if_neg h1,if_neg (c:=m-i<=t/\t<m-i+(m+i-m)) (by omega)];by_cases h2:m<=t/\t<m+i
  ·rw[if_pos h2,if_pos (by omega)];congr 1;omega
  ·rw[if_neg h2,if_neg (by omega)]
theorem zic (f:Nat->Mc) (m i j:Nat) (hi:i<=m) (hj:j<i):bA (vL f (m-i) m j) (m-(i-j)) m (m+j)=bA f (m-i) m (m+j):=by
 funext t;have e:=OU f (m-i) m j (by omega);unfold bA;rw[e,e,e];by_cases h1:m-(i-j)<=t/\t<m-(i-j)+(m+j-m)
 ·rw[if_pos h1];rw[if_neg (c:=m-i<=t-(m-(i-j))+m/\_) (by omega),if_pos (c:=m<=t-(m-(i-j))+m/\_) (by omega),if_neg (c:=m-i<=t/\_) (by omega),if_pos (by omega)];congr 1;omega
 ·rw[if_neg h1];by_cases h2:m-(i-j)+(m+j-m)<=t/\t<m+j
  ·rw[if_pos h2,if_neg (c:=m-i<=t-(m+j-m)/\_) (by omega),if_neg (c:=m<=t-(m+j-m)/\_) (by omega),if_neg (c:=m-i<=t/\_) (by omega),if_pos (by omega)]
  ·rw[if_neg h2];by_cases h3:m-i<=t/\t<m-i+j
   ·rw[if_pos h3,if_pos (by omega)]
   ·rw[if_neg h3,if_neg (c:=m<=t/\_) (by omega),if_neg (by omega),if_neg (by omega)]
theorem zib (f:Nat->Mc) (m i j:Nat) (hi:i<=m) (hj:i<j):bA (vL f (m-i) (m+j-i) i) (m-i) m (m+(j-i))=bA f (m-i) m (m+j):=by
 funext t;have e:=OU f (m-i) (m+j-i) i (by omega);unfold bA;rw[e,e,e];by_cases h1:m-i<=t/\t<m-i+(m+(j-i)-m)
 ·rw[if_pos h1];rw[if_neg (c:=m-i<=t-(m-i)+m/\_) (by omega),if_neg (c:=m+j-i<=t-(m-i)+m/\_) (by omega),if_pos (by omega)]
 ·rw[if_neg h1];by_cases h2:m-i+(m+(j-i)-m)<=t/\t<m+(j-i)
  ·rw[if_pos h2,if_pos (c:=m-i<=t-(m+(j-i)-m)/\_) (by omega),if_pos (c:=m-i<=t/\_) (by omega)];congr 1;omega
  ·rw[if_neg h2,if_neg (c:=m-i<=t/\t<m-i+i) (by omega),if_neg (c:=m-i<=t/\_) (by omega)];by_cases h3:m+j-i<=t/\t<m+j-i+i
   ·rw[if_pos h3,if_pos (by omega)];congr 1;omega
   ·rw[if_neg h3,if_neg (by omega)]
theorem IJ (f:Nat->Mc) (a m b:Nat) (ha:a<=m) (hb:m<=b) (h:a=m\/m=b):bA f a m b=f:=by
 funext t;unfold bA;by_cases h1:a<=t/\t<a+(b-m)
 ·rw[if_pos h1];congr 1;omega
 ·rw[if_neg h1];by_cases h2:a+(b-m)<=t/\t<b
  ·rw[if_pos h2];congr 1;omega
  ·rw[if_neg h2]
theorem Zz (f:Nat->Mc) (i j:Nat) (hj:0<j) (jr:j<=i):swp (bA f j i (i+1)) j (j-1)=bA f (j-1) i (i+1):=by
 funext t;unfold swp;by_cases h1:t=j
 ·subst h1;rw[if_pos rfl,yH (by omega) (by omega) (.inl (by omega)),II (by omega) (by omega)];congr 1;omega
 ·rw[if_neg h1];by_cases h2:t=j-1
  ·subst h2;rw[if_pos rfl,E7 (by omega) (by omega),E7 (by omega) (by omega)];congr 1;omega
  ·rw[if_neg h2];by_cases h3:t<j-1\/i+1<=t
   ·rw[yH (by omega) (by omega) (by omega),yH (by omega) (by omega) h3]
   ·rw[II (by omega) (by omega),II (by omega) (by omega)]
theorem zia (f:Nat->Mc) (a k:Nat) (hk:a<=k):swp (bA f a (a+1) (k+1)) k (k+1)=bA f a (a+1) (k+2):=by
 funext t;unfold swp;by_cases h1:t=k
 ·subst h1;rw[if_pos rfl,yH (by omega) (by omega) (.inr (by omega)),E7 (by omega) (by omega)];congr 1;omega
 ·rw[if_neg h1];by_cases h2:t=k+1
  ·subst h2;rw[if_pos rfl,II (by omega) (by omega),II (by omega) (by omega)];congr 1;omega
  ·rw[if_neg h2];by_cases h3:t<a\/k+2<=t
   ·rw[yH (by omega) (by omega) (by omega),yH (by omega) (by omega) h3]
   ·rw[E7 (by omega) (by omega),E7 (by omega) (by omega)]
def tg (x:Mc):Nat×Mc:=(x.worth,x)
def sg (f:Nat->Mc) (a n:Nat):List (Nat×Mc):=(List.range n).map λi=>tg (f (a+i))
theorem yI {a':Nat} (h:∀t,t<n->f (a+t)=f' (a'+t)):sg f a n=sg f' a' n:=by unfold sg;exact List.map_congr_left λt ht=>by rw[h t (uH.1 ht)]
theorem qqt (f:Nat->Mc) (a n m:Nat):sg f a (n+m)=sg f a n++sg f (a+n) m:=by unfold sg;rw[List.range_add,jd,Ew];congr 1;exact List.map_congr_left λt _=>by simp[pP]
theorem qL (f:Nat->Mc) (a m b:Nat) (h1:a<=m) (h2:m<=b):sg f a (b-a)=sg f a (m-a)++sg f m (b-m):=by rw[show b-a=(m-a)+(b-m) from by omega,qqt,show a+(m-a)=m from by omega]
theorem OS (f:Nat->Mc) (a:Nat):sg f a 1=[tg (f a)]:=rfl
theorem O8 (f:Nat->Mc) (a:Nat):sg f a 0=[]:=rfl
theorem Ak {x:Nat×Mc}:x∈sg f a n↔∃t,t<n/\x=tg (f (a+t)):=by
 unfold sg;rw[mU];constructor
 ·rintro⟨t,ht,rfl⟩;exact⟨t,uH.1 ht,rfl⟩
 ·rintro⟨t,ht,rfl⟩;exact⟨t,uH.2 ht,rfl⟩
theorem Ie:jH (sg f a n)↔∀i j,i<=j->j<n->(f (a+i)).worth<=(f (a+j)).worth:=by
 unfold jH sg;rw[List.pairwise_map];constructor
 ·intro h i j oe hj;rcases kT i j with k|k
  ·have:=Ou.1 h i j (by simp;omega) (by simp;omega) k;simpa[tg] using this
  ·obtain rfl:i=j:=by omega
   exact ax _
 ·intro h;refine Ou.2 λi j hi hj oe=>?_
  simp only[EW]at hi hj;simpa[tg] using h i j (by omega) hj
theorem Dl {c k:Nat} (h:jH (sg f a n)) (h1:a<=c) (h2:c+k<=a+n):jH (sg f c k):=by rw[Ie]at h ⊢;intro i j oe hj;have:=h (c-a+i) (c-a+j) (by omega) (by omega);rwa [show a+(c-a+i)=c+i from by omega,show a+(c-a+j)=c+j from by omega]at this
theorem K0 (f:Nat->Mc) (s m e:Nat) (h1:s<=m) (h2:m<=e):sg (bA f s m e) s (e-m)=sg f m (e-m):=
 yI λt ht=>by rw[E7 (by omega) (by omega)];congr 1;omega
theorem KT (f:Nat->Mc) (s m e:Nat) (h1:s<=m) (h2:m<=e):sg (bA f s m e) (s+(e-m)) (m-s)=sg f s (m-s):=
 yI λt ht=>by rw[II (by omega) (by omega)];congr 1;omega
theorem IQ (f:Nat->Mc) (s m e a n:Nat) (h1:s<=m) (h2:m<=e) (h:a+n<=s\/e<=a):sg (bA f s m e) a n=sg f a n:=
 yI λt ht=>by rw[yH h1 h2 (by omega)]
structure Sd (f f':Nat->Mc) (a b:Nat):Prop where
 out:∀t,t<a\/b<=t->f' t=f t
 srt:jH (sg f' a (b-a))
 stb:fF (sg f' a (b-a)) (sg f a (b-a))
theorem SP (f:Nat->Mc) (a i j:Nat) (ha:a<=j) (hj:j<=i) (hs:jH (sg f a (i-a))) (h1:a<j->(f (j-1)).worth<=(f i).worth) (h2:j<i->(f i).worth<(f j).worth) :
  Sd f (bA f j i (i+1)) a (i+1):=by
 have im:=Ie.1 hs;have e0:sg (bA f j i (i+1)) a (i+1-a)=sg f a (j-a)++tg (f i)::sg f j (i-j):=by
  rw[qL _ a j (i+1) ha (by omega),IQ _ _ _ _ _ _ hj (by omega) (.inl (by omega)),qL _ j (j+1) (i+1) (by omega) (by omega),show j+1-j=i+1-i from by omega,K0 _ _ _ _ hj (by omega),show j+1=j+(i+1-i) from by omega,show i+1-(j+(i+1-i))=i-j from by omega,
   KT _ _ _ _ hj (by omega),show i+1-i=1 from by omega,OS]
  rfl
 have e1:sg f a (i+1-a)=sg f a (j-a)++sg f j (i-j)++[tg (f i)]:=by rw[qL f a i (i+1) (by omega) (by omega),qL f a j i ha hj,show i+1-i=1 from by omega,OS]
 have hp:=qzn (x:=tg (f i)) (A1:=sg f a (j-a)) (A2:=sg f j (i-j)) (by rw[<-qL f a j i ha hj];exact hs)
  (λy hy=>by
   obtain⟨t,ht,rfl⟩:=Ak.1 hy
   refine bP (im t (j-1-a) (by omega) (by omega)) ?_
   rw[show a+(j-1-a)=j-1 from by omega]
   exact h1 (by omega))
  (λy hy=>by
   obtain⟨t,ht,rfl⟩:=Ak.1 hy
   refine fM (h2 (by omega)) ?_
   have:=im (j-a) (j-a+t) (by omega) (by omega)
   rwa [show a+(j-a)=j from by omega,show a+(j-a+t)=j+t from by omega]at this)
 exact⟨λt ht=>yH hj (by omega) (by omega),by rw[e0];exact hp.1,by rw[e0,e1];exact hp.2⟩
theorem zg1 (f:Nat->Mc) (a i b:Nat) (hi:a<i) (hb:i<=b) (hs:jH (sg f (a+1) (b-(a+1)))) (h1:a+1<i->(f (i-1)).worth<(f a).worth) (h2:i<b->(f a).worth<=(f i).worth) :
  Sd f (bA f a (a+1) i) a b:=by
 have im:=Ie.1 hs;have e0:sg (bA f a (a+1) i) a (b-a)=sg f (a+1) (i-(a+1))++tg (f a)::sg f i (b-i):=by
  have q1:=IQ f a (a+1) i i (b-i) (by omega) (by omega) (.inr (ax _));have q2:=K0 f a (a+1) i (by omega) (by omega);have q3:=KT f a (a+1) i (by omega) (by omega);have q4:sg (bA f a (a+1) i) a (i-a)=sg f (a+1) (i-(a+1))++sg f a (a+1-a):=by rw[show i-a=(i-(a+1))+(a+1-a) from by omega,qqt,q2,q3]
  rw[qL _ a i b (by omega) hb,q1,q4,show a+1-a=1 from by omega,OS];simp
 have e1:sg f a (b-a)=tg (f a)::(sg f (a+1) (i-(a+1))++sg f i (b-i)):=by rw[qL f a (a+1) b (by omega) (by omega),qL f (a+1) i b (by omega) hb,show a+1-a=1 from by omega,OS];rfl
 have hp:=zds (x:=tg (f a)) (B1:=sg f (a+1) (i-(a+1))) (B2:=sg f i (b-i)) (by rw[<-qL f (a+1) i b (by omega) hb];exact hs)
  (λy hy=>by
   obtain⟨t,ht,rfl⟩:=Ak.1 hy
   refine Io (im t (i-1-(a+1)) (by omega) (by omega)) ?_
   rw[show a+1+(i-1-(a+1))=i-1 from by omega]
   exact h1 (by omega))
  (λy hy=>by
   obtain⟨t,ht,rfl⟩:=Ak.1 hy
   refine bP (h2 (by omega)) ?_
   have:=im (i-(a+1)) (i-(a+1)+t) (by omega) (by omega)
   rwa [show a+1+(i-(a+1))=i from by omega,show a+1+(i-(a+1)+t)=i+t from by omega]at this)
 exact⟨λt ht=>yH (by omega) (by omega) (by omega),by rw[e0];exact hp.1,by rw[e0,e1];exact hp.2⟩
theorem Xu (f f1 f2:Nat->Mc) (a m b mid s e:Nat) (FU:mid=(a+b)/2) (yi:a<m) (nk:m<b) (zc:s+e=mid+m) (has:a<=s) (AJ:s<=m) (zp:m<=e) (VF:e<=b)
  (hA:jH (sg f a (m-a))) (hB:jH (sg f m (b-m)))
  (h1:s<m->m<e->(f (e-1)).worth<(f s).worth) (h2:a<s->e<b->(f (s-1)).worth<=(f e).worth)
  (d1:Sd (bA f s m e) f1 a mid) (d2:Sd f1 f2 mid b):Sd f f2 a b:=by
 have wI:=Ie.1 hA;have hB':=Ie.1 hB;have em:s+(e-m)=mid:=by omega
 have eA:sg f a (m-a)=sg f a (s-a)++sg f s (m-s):=qL f a s m has AJ;have eB:sg f m (b-m)=sg f m (e-m)++sg f e (b-e):=qL f m e b zp VF;have eL:sg (bA f s m e) a (mid-a)=sg f a (s-a)++sg f m (e-m):=by have q1:=IQ f s m e a (s-a) AJ zp (.inl (by omega));have q2:=K0 f s m e AJ zp;rw[qL _ a s mid has (by omega),q1,show mid-s=e-m from by omega,q2]
 have eR:sg (bA f s m e) mid (b-mid)=sg f s (m-s)++sg f e (b-e):=by have q1:=IQ f s m e e (b-e) AJ zp (.inr (ax _));have q2:=KT f s m e AJ zp;rw[em]at q2;rw[qL _ mid e b (by omega) VF,q1,show e-mid=m-s from by omega,q2]
 have NY:sg f1 mid (b-mid)=sg (bA f s m e) mid (b-mid):=yI λt ht=>d1.out _ (.inr (by omega))
 have eL2:sg f2 a (mid-a)=sg f1 a (mid-a):=yI λt ht=>d2.out _ (.inl (by omega))
 have hp:=zc5 (A1:=sg f a (s-a)) (A2:=sg f s (m-s)) (B1:=sg f m (e-m)) (B2:=sg f e (b-e)) (L:=sg f1 a (mid-a)) (R:=sg f2 mid (b-mid))
  (by rw[<-eA];exact hA) (by rw[<-eB];exact hB)
  (λx hx y hy=>by
   obtain⟨t,ht,rfl⟩:=Ak.1 hx
   obtain⟨u,hu,rfl⟩:=Ak.1 hy
   have k1:=wI (s-a) (s-a+t) (by omega) (by omega)
   have k2:=hB' u (e-1-m) (by omega) (by omega)
   rw[show a+(s-a)=s from by omega,show a+(s-a+t)=s+t from by omega]at k1
   rw[show m+(e-1-m)=e-1 from by omega]at k2
   exact Io k2 (fM (h1 (by omega) (by omega)) k1))
  (λx hx y hy=>by
   obtain⟨t,ht,rfl⟩:=Ak.1 hx
   obtain⟨u,hu,rfl⟩:=Ak.1 hy
   have k1:=wI t (s-1-a) (by omega) (by omega)
   have k2:=hB' (e-m) (e-m+u) (by omega) (by omega)
   rw[show a+(s-1-a)=s-1 from by omega]at k1
   rw[show m+(e-m)=e from by omega,show m+(e-m+u)=e+u from by omega]at k2
   exact bP k1 (bP (h2 (by omega) (by omega)) k2))
  d1.srt (by rw[<-eL];exact d1.stb) d2.srt (by rw[<-eR,<-NY];exact d2.stb)
 refine⟨λt ht=>?_,?_,?_⟩
 ·rw[d2.out t (by omega),d1.out t (by omega),yH AJ zp (by omega)]
 ·rw[qL f2 a mid b (by omega) (by omega),eL2];exact hp.1
 ·rw[qL f2 a mid b (by omega) (by omega),eL2,qL f a m b (by omega) (by omega),eA,eB];exact hp.2
theorem O3 (f:Nat->Mc) (a b:Nat) (h:jH (sg f a (b-a))):Sd f f a b:=⟨λ_ _=>rfl,h,.refl _⟩
theorem Sd.trans {f f' f2:Nat->Mc} {a b:Nat} (h:Sd f f' a b) (h':Sd f' f2 a b):Sd f f2 a b:=⟨λt ht=>(h'.out t ht).trans (h.out t ht),h'.srt,h'.stb.trans h.stb⟩
theorem Sd.vH (h:Sd f f' a b) (zE:a<=b) (hn:b<=n):fF (sg f' 0 n) (sg f 0 n):=by
 have e:∀k:Nat->Mc,sg k 0 n=sg k 0 a++sg k a (b-a)++sg k b (n-b):=λk=>by have h1:=qL k 0 a n (by omega) (by omega);rw[CY,CY]at h1;rw[h1,qL k a b n zE hn,fU]
 rw[e f',e f];refine fF.append (fF.append ?_ h.stb) ?_
 ·rw[yI (f:=f') (f':=f) λt ht=>h.out _ (.inl (by omega))];exact .refl _
 ·rw[yI (f:=f') (f':=f) λt ht=>h.out _ (.inr (by omega))];exact .refl _
open bm bl
variable {f:Nat->Mc} {a g i n:Nat} {w:World} {A0:AV}
theorem yL (g:Nat) (T:TypeId) (A0:AV) (L cap a m b:Nat) (f:Nat->Mc) (cmp:Value) (w:World)
  (h:Dw w g T A0 L f) (ha:a<m) (hb:m<b) (Gt:b<=L) (hL:L<=100000) :
  Calls Tryz.prog 365 #[.slice (some ⟨g,0,none⟩) L cap,.int .i64 a,.int .i64 m,.int .i64 b,cmp] w λe w'=>e = .returned (.tuple #[])/\Dw w' g T A0 L (bA f a m b)/\Fr [g] w w':=by
 have H:=af h;clear h;obtain⟨i0,Vz⟩:=ah (m-a);obtain⟨j0,MV⟩:=ah (b-m);have e0:(m:Int)-(a:Int)=(i0:Int):=by omega
 have e1:(b:Int)-(m:Int)=(j0:Int):=by omega
 have H0:=aQ Vz MV ha hb Gt;have hm:m<=100000:=by omega
 have hi1:1<=i0:=by omega
 have Jm:1<=j0:=by omega
 have xv:i0<=100000:=by omega
 have uZ:j0<=100000:=by omega
 clear Vz MV ha hb Gt;go_enter Tryz.func365,Tryz.ntmps365;go_wp2;go_loopg [10,11] (i0+j0) (λk s10 s11 wr=>∃i j:Nat,s10 = .int .i64 (i:Nat)/\s11 = .int .i64 (j:Nat)/\k=i+j/\1<=i/\1<=j/\i<=m/\m+j<=L/\∃f1,Dw wr g T A0 L f1/\bA f1 (m-i) m (m+j)=bA f a m b/\Fr [g] w wr);case atStart=>obtain⟨k0,k1,k2,k3,k4⟩:=H0.out;exact⟨i0,j0,rfl,rfl,rfl,hi1,Jm,by omega,by omega,f,H.out,by rw[show m-i0=a from by omega,show m+j0=b from by omega],.refl _ w⟩
 case round=>
  obtain⟨i,j,rfl,rfl,hk,k1,k2,k3,k4,f1,hD,hr,hf⟩:=hrel;obtain⟨p,hp⟩:=ah (m-i);have e2:(m:Int)-(i:Int)=(p:Int):=by omega
  have b1:i<=100000:=by omega
  have b2:j<=100000:=by omega
  rw[<-hp]at hr;by_cases oe:i=j
  ·subst oe;have hs:=TR g T A0 L cap i p m f1 cmp wr hD (by omega) (by omega) hL;have er:vL f1 p m i=bA f a m b:=by rw[<-hr,hp];exact zid f1 m i k3
   rw[er]at hs;have HI:=ai hs hf;clear hs hr er hf hD hp k3 k4;go_wp2_with (go_at_call 377;refine HI.o0.mono ?_;rintro e w2 ⟨rfl,jt,gK⟩);(try simp only[Exit.inBlock,Exit.then]);refine bodyPost_end (results_none rfl _ _ _) rfl ?_;exact⟨rfl,jt,HI.l1.trans gK⟩
  ·have bg:((i:Int)==(j:Int))=false:=by simp only[beq_eq_false_iff_ne];omega
   by_cases D6:j<i
   ·have hs:=TR g T A0 L cap j p m f1 cmp wr hD (by omega) (by omega) hL;have er:=zic f1 m i j k3 D6;rw[<-hp]at er;have HI:=cU hs hf er hr hp hk;clear hs hr er hf hD hp hk;obtain⟨q,hq⟩:=ah (i-j);have e3:(i:Int)-(j:Int)=(q:Int):=by omega
    have HQ:=af hq;clear hq;go_wp2_with (go_at_call 377;refine HI.o0.mono ?_;rintro e w2 ⟨rfl,jt,gK⟩;have HW:=ai jt gK;clear jt gK);have hq:=HQ.out;have hk:=HI.l1.2.2.2.2;go_roundg (q+j);case measure=>omega
    case rel=>exact⟨q,j,by go_num,rfl,rfl,by omega,k2,by omega,k4,_,HW.o0,by rw[hq,HI.l1.2.1,HI.l1.2.2.1],HI.l1.1.trans HW.l1⟩
   ·have bF:i<j:=by omega
    obtain⟨q,hq⟩:=ah (m+j-i);have e3:(m:Int)+(j:Int)-(i:Int)=(q:Int):=by omega
    have hs:=TR g T A0 L cap i p q f1 cmp wr hD (by omega) (by omega) hL;have er:=zib f1 m i j k3 bF;rw[<-hp,<-hq]at er;have HI:=eW hs hf er hr hp hk hq;clear hs hr er hf hD hp hk hq;obtain⟨d,hd⟩:=ah (j-i);have e4:(j:Int)-(i:Int)=(d:Int):=by omega
    have HQ:=af hd;clear hd;go_wp2_with (go_at_call 377;refine HI.o0.mono ?_;rintro e w2 ⟨rfl,jt,gK⟩;have HW:=ai jt gK;clear jt gK);have hd:=HQ.out;have hk:=HI.l1.2.2.2.2.1;have hp:=HI.l1.2.2.2.1;go_roundg (i+d);case measure=>omega
    case rel=>exact⟨i,d,rfl,by go_num,rfl,k1,by omega,k3,by omega,_,HW.o0,by rw[<-hp,hd,HI.l1.2.1,HI.l1.2.2.1],HI.l1.1.trans HW.l1⟩
def Wb (f:Nat->Mc):Prop:=∀i,(f i).worth<=2^50
theorem Wb.rot (h:Wb f) (a m b:Nat):Wb (bA f a m b):=λi=>by
 unfold bA;split
 ·exact h _
 ·split<;>exact h _
theorem Wb.sd {f':Nat->Mc} {b:Nat} (h:Wb f) (s:Sd f f' a b):Wb f':=λi=>by
 by_cases hi:i<a\/b<=i
 ·rw[s.out i hi];exact h i
 ·have h1:tg (f' i)∈sg f' a (b-a):=Ak.2 ⟨i-a,by omega,by rw[show a+(i-a)=i from by omega]⟩;obtain⟨t,_,ht⟩:=Ak.1 ((s.stb.mem _).1 h1);have:=congrArg Prod.fst ht;simp only[tg]at this;rw[this];exact h _
def vc (x:Mc):Value:=.agg #[.int .i64 (x.worth:Nat),.slice x.ao x.len x.cap]
def jF:Value:=.func (.func 295) #[] #[]
theorem Pz (x y:Mc) (w:World) (hx:x.worth<=2^50) (hy:y.worth<=2^50) :
  Calls Tryz.prog 295 #[vc x,vc y] w λe w'=>e = .returned (.int .i64 ((x.worth:Int)-(y.worth:Int)))/\Fr [] w w':=by
 obtain⟨xw,xa,xl,xc⟩:=x;obtain⟨yw,ya,yl,yc⟩:=y;simp only[vc];simp only at hx hy;go_enter Tryz.func295,Tryz.ntmps295;go_wp2;go_ret;exact⟨rfl,((Fr.refl [] w).alloc _).alloc _⟩
theorem ov (f:Nat->Mc) (x y:Nat):swp f x y=swp f y x:=by funext i;unfold swp;split<;>split<;>simp_all
theorem Dw.fr {w':World} {T:TypeId} (h:Dw w g T A0 n f) (k:Fr [] w w'):Dw w' g T A0 n f:=by obtain⟨A,h1,h2⟩:=h;exact⟨A,k.ag h1 (by simp),h2⟩
theorem Dw.drew {w:World} {g:Nat} {T:TypeId} {A0:AV} {n:Nat} {f:Nat->Mc} (h:Dw w g T A0 n f):Dw w.drew g T A0 n f:=h.fr (Fr.aB [] w)
theorem Dw.cells {T:TypeId} (h:Dw w g T A0 n f) (hi:i<n) :
  w.cell? ⟨g,i*2,none⟩=some (.int .i64 ((f i).worth:Nat))/\w.cell? ⟨g,i*2+1,none⟩=some (.slice (f i).ao (f i).len (f i).cap):=by
 obtain⟨A,h1,_,_,_,h2⟩:=h;exact⟨(cell_of h1 _).trans (h2 i hi).1,(cell_of h1 _).trans (h2 i hi).2⟩
theorem Dw.ku {T:TypeId} (h:Dw w g T A0 n f) (hi:i<n) (x:World) :
  (sup [] w x).cell? ⟨g,i*2,none⟩=some (.int .i64 ((f i).worth:Nat))/\(sup [] w x).cell? ⟨g,i*2+1,none⟩=some (.slice (f i).ao (f i).len (f i).cap):=
 (h.fr (gB [] w x)).cells hi
theorem Sd.trans' {f1 f2:Nat->Mc} (h:Sd f f1 a i) (h':Sd f1 f2 a (i+1)):Sd f f2 a (i+1):=by
 refine⟨λt ht=>(h'.out t ht).trans (h.out t (by omega)),h'.srt,h'.stb.trans ?_⟩;by_cases ha:a<=i
 ·rw[qL f1 a i (i+1) ha (by omega),qL f a i (i+1) ha (by omega)];refine fF.append h.stb ?_;rw[yI (f:=f1) (f':=f) λt _=>h.out _ (by omega)];exact .refl _
 ·rw[show i+1-a=0 from by omega,O8,O8];exact .refl _
theorem qod (g:Nat) (T:TypeId) (A0:AV) (L cap a b:Nat) (f:Nat->Mc) (w:World)
  (h:Dw w g T A0 L f) (ha:a<=b) (Gt:b<=L) (hL:L<=100000) (ey:Wb f) :
  Calls Tryz.prog 351 #[.slice (some ⟨g,0,none⟩) L cap,.int .i64 (a:Nat),.int .i64 (b:Nat),jF] w λe w'=>e = .returned (.tuple #[])/\∃f',Dw w' g T A0 L f'/\Sd f f' a b/\Fr [g] w w':=by
 have H:=aq h ey ha;clear h ey;unfold jF;go_enter Tryz.func351,Tryz.ntmps351;go_wp2;go_loopg [8,9] (b-a) (λk s8 s9 wr=>∃i:Nat,s8 = .int .i64 (i:Nat)/\i+k=b+1/\a+1<=i/\∃f1,Dw wr g T A0 L f1/\Sd f f1 a (min i b)/\Fr [g] w wr);case atStart=>
  refine⟨a+1,by go_num,by have:=H.l2;omega,ax _,f,H.o0,O3 f a _ ?_,.refl _ w⟩;refine Ie.2 λx y B7 hy=>?_
  obtain rfl:x=y:=by omega
  exact ax _
 case round=>
  obtain⟨i,rfl,cQ,hai,f1,hD,hS,hf⟩:=hrel;by_cases hi:i<b
  ·obtain⟨k,rfl⟩:∃k,gk=k+1:=⟨gk-1,by omega⟩;rw[vP (by omega)]at hS;have LO:=H.o1.sd hS;obtain⟨wo,rfl⟩:∃wo:World,wo=wr:=⟨_,rfl⟩;have HX:=aQ hD hS hf LO cQ;have hiL:i<L:=by omega
   have Vy:i<=100000:=by omega
   clear hD hS hf LO cQ;go_wp2;go_loopg [9] (i-a) (λk s9 wr=>∃j:Nat,s9 = .int .i64 (j:Nat)/\j=k+a/\j<=i/\(j<i->(f1 i).worth<(f1 j).worth)/\Dw wr g T A0 L (bA f1 j i (i+1))/\Fr [g] w wr);case atStart=>exact⟨i,rfl,by omega,ax _,λh=>absurd h (by omega),by rw[IJ f1 i i (i+1) (ax _) (by omega) (.inl rfl)];exact HX.o0,HX.o2⟩
   case round=>
    obtain⟨j,rfl,fP,jr,bF,hD,hf⟩:=hrel;by_cases hja:a<j
    ·obtain⟨k2,rfl⟩:∃k2,gk=k2+1:=⟨gk-1,by omega⟩;obtain⟨q,rfl⟩:∃q,j=q+1:=⟨j-1,by omega⟩;have x0:=E7 (f:=f1) (a:=q+1) (m:=i) (b:=i+1) (t:=q+1) (ax _) (by omega);rw[show q+1-(q+1)+i=i from by omega]at x0;have x1:=yH (f:=f1) (a:=q+1) (m:=i) (b:=i+1) (t:=q) (by omega) (by omega) (.inl (by omega));have d0:=λx=>hD.drew.ku (i:=q+1) (by omega) x
     have d1:=λx=>hD.drew.ku (i:=q) (by omega) x
     rw[x0]at d0;rw[x1]at d1;have b0:=HX.o3 i;have b1:=HX.o3 q;obtain⟨p,hp⟩:=ah (f1 i);obtain⟨r,hr⟩:=ah (f1 q);rw[<-hp]at b0 d0;rw[<-hr]at b1 d1;have HI:=cU hp hr hD hf fP bF;clear hp hr hD hf fP bF x0 x1;have Ep:=λx=>(d0 x).1
     have Eo:=λx=>(d0 x).2
     have d10:=λx=>(d1 x).1
     have d11:=λx=>(d1 x).2
     clear d0 d1;have e0:((q+1:Nat):Int)-1=(q:Int):=by omega
     have g2:decide ((L:Int)<=((q+1:Nat):Int))=false:=by simp;omega
     have g4:decide ((L:Int)<=(q:Int))=false:=by simp;omega
     obtain⟨j,hj⟩:=ah (q+1);rw[<-hj]at Ep Eo e0 g2 jr hja ⊢;have HJ:=af hj;clear hj;go_upto_region 4 with fail;refine lK 17 [(false,0),(false,1),(false,2),(false,3),(false,4),(false,5),(false,6),(false,7),(false,8),(false,9),(false,10),(false,11),(false,12),(false,13),(true,14),(false,15),(false,16)] [] (by kernel_rfl) (by kernel_rfl) (λ_ _ d _ _ h=>by cases d<;>exact h) ?_;simp only[kQ];refine eD 14 rfl ?_;simp only[cT];repeat (go_big_quiet_step (fail))
     refine wpQuiet_nil ?_;refine jb rfl ?_;intro K hK;go_wp2_with (go_at_call 295;refine (Pz p r wr.drew b0 b1).mono ?_;rintro e w1 ⟨rfl,ko⟩);refine hK.out _ _ ko ?_;clear hK K Ep Eo d10 d11;have H1:=af ko;clear ko;by_cases tF:p.worth<r.worth
     ·have g5:decide (((p.worth:Int)-(r.worth:Int))<0)=true:=by simp;omega
      refine eD 2 rfl ?_;simp only[cT];repeat (go_big_quiet_step (fail))
      refine wpQuiet_nil ?_;refine j4 ?_;go_wp2;have hD:Dw w1 g T A0 L (bA f1 j i (i+1)):=by rw[HJ.out];exact (HI.out.2.2.1.drew).fr H1.out
      have tj:j<L:=by omega
      have AE:q<L:=by omega
      have B7:j≠q:=by have:=HJ.out;omega
      obtain⟨A,hA,gg,rQ,gF,mL⟩:=hD;have X:=mL j tj;have Y:=mL q AE;obtain⟨cx,qx⟩:=ah ((bA f1 j i (i+1)) j);obtain⟨cy,tT⟩:=ah ((bA f1 j i (i+1)) q);rw[<-qx]at X;rw[<-tT]at Y;obtain⟨zQ,zT,zR,zS⟩:=cx;obtain⟨tZ,ud,ua,ub⟩:=cy;have d0:=(cell_of hA (j*2)).trans X.1;have d1:=(cell_of hA (j*2+1)).trans X.2;have d2:=(cell_of hA (q*2)).trans Y.1;have d3:=(cell_of hA (q*2+1)).trans Y.2;simp only at d0 d1 d2 d3;have rk:=eW hA gg rQ gF mL qx tT;clear hA gg rQ gF mL qx tT X Y;go_upto_region 6 with fail;refine PV [(0,0),(0,1),(0,2),(0,3),(0,4),(0,5),(0,6),(0,7),(0,8),(1,9),(0,10),(0,11),(0,12),(1,13),(0,14),(2,15),(0,16),(2,17)] [g] [15,17] (by kernel_rfl) (by kernel_rfl) (λ_ _ d _ _ h=>by cases d<;>exact h) ?_;simp only[jL,qg,BS,BR];refine uj 9 rfl ?_;simp only[cT];repeat (go_big_quiet_step (fail))
      refine wpQuiet_nil ?_;refine Dp 1 rfl ?_;simp only[cT];repeat (go_big_quiet_step (fail))
      refine wpQuiet_nil ?_;refine uj 3 rfl ?_;simp only[cT];repeat (go_big_quiet_step (fail))
      refine wpQuiet_nil ?_;refine Dp 1 rfl ?_;simp only[cT];repeat (go_big_quiet_step (fail))
      refine wpQuiet_nil ?_;refine uj 1 rfl ?_;simp only[cT];repeat (go_big_quiet_step (fail))
      refine wpQuiet_nil ?_;refine Dj rfl ?_;intro K hK;have z0:=aT rk.out.1 (j*2);have z1:=aT rk.out.1 (j*2+1);go_wp2;refine hK.out _ _ (Fr.dF ((((Fr.refl [g] w1).setCell (by simp) _).setCell (by simp) _).drew)) ?_;clear hK K z0 z1;obtain⟨qE,ji⟩:∃qE,qE=((w1.setCell ⟨g,j*2,none⟩ (.int .i64 (tZ:Nat))).setCell ⟨g,j*2+1,none⟩ (.slice ud ua ub)):=⟨_,rfl⟩;rw[<-ji];have iW:=df (o:=j*2+1) (df (o:=j*2) rk.out.1 (.int .i64 tZ)) (.slice ud ua ub);rw[<-ji]at iW;obtain⟨A1,hB⟩:∃A1,A1=(A.setIfInBounds (j*2) (.int .i64 (tZ:Nat))).setIfInBounds (j*2+1) (.slice ud ua ub):=⟨_,rfl⟩;rw[<-hB]at iW;have z0:=aT iW (q*2);have z1:=aT iW (q*2+1);have c2:qE.cell? ⟨g,q*2,none⟩=some (.int .i64 tZ):=by rw[cell_of iW,hB,cV (by omega),cV (by omega),<-cell_of rk.out.1];exact d2
      have c3:qE.cell? ⟨g,q*2+1,none⟩=some (.slice ud ua ub):=by rw[cell_of iW,hB,cV (by omega),cV (by omega),<-cell_of rk.out.1];exact d3
      have Ol:=aq iW hB ji;clear iW hB ji d0 d1 d2 d3;refine uj 1 rfl ?_;simp only[cT];repeat (go_big_quiet_step (fail))
      refine wpQuiet_nil ?_;refine Dj rfl ?_;intro K hK;go_wp2;refine hK.out _ _ (Fr.dF ((((Fr.refl [g] qE).setCell (by simp) _).setCell (by simp) _).drew)) ?_;clear hK K z0 z1 c2 c3;refine Pm ?_;obtain⟨w2,cC⟩:∃w2,w2=((qE.setCell ⟨g,q*2,none⟩ (.int .i64 (zQ:Nat))).setCell ⟨g,q*2+1,none⟩ (.slice zT zR zS)):=⟨_,rfl⟩;rw[<-cC];have HZ:Hid (Dw w2 g T A0 L (swp (bA f1 j i (i+1)) q j)/\Fr [g] w1 w2):=by obtain⟨hA,gg,rQ,gF,mL,qx,tT⟩:=rk.out;obtain⟨iW,hB,ji⟩:=Ol.out;have lR:=df (o:=q*2+1) (df (o:=q*2) iW (.int .i64 zQ)) (.slice zT zR zS);rw[hB,<-cC]at lR;exact af ⟨Dw.swap _ zQ zT zR zS tZ ud ua ub gg rQ gF mL tj AE qx tT lR,by rw[cC,ji];exact ((((Fr.refl [g] w1).setCell (by simp) _).setCell (by simp) _).setCell (by simp) _).setCell (by simp) _⟩
      clear cC;go_wp2;go_roundg k2;case measure=>have:=HI.out.2.2.2.2.1;omega
      case rel=>
       obtain⟨hp,hr,hD,hf,fP,bF⟩:=HI.out;have hj:=HJ.out;refine⟨q,by go_num,by omega,by omega,λ_=>by rw[<-hp,<-hr];exact tF,?_,?_⟩
       ·have:=HZ.o0;have e:=Zz f1 i (q+1) (by omega) (by omega);rw[Du]at e;rw[hj,ov,e]at this;exact this.drew
       ·exact ((hf.drew).trans (H1.out.mono (by simp))).trans HZ.l1.drew
     ·have g5:decide (((p.worth:Int)-(r.worth:Int))<0)=false:=by simp;omega
      refine eD 2 rfl ?_;simp only[cT];repeat (go_big_quiet_step (fail))
      refine wpQuiet_nil ?_;refine j4 ?_;go_wp2;go_roundg k;case measure=>have:=HX.l4;omega
      case rel=>obtain⟨hp,hr,hD,hf,fP,bF⟩:=HI.out;have hj:=HJ.out;have cQ:=HX.l4;refine⟨i+1,by go_num,by omega,by omega,bA f1 j i (i+1),by rw[hj];exact hD.drew.fr H1.out,?_,(hf.drew).trans (H1.out.mono (by simp))⟩;rw[vP (by omega)];exact HX.o1.trans' (SP f1 a i j (by omega) jr HX.o1.srt (λ_=>by rw[show j-1=q from by omega,<-hr,<-hp];omega) (λh=>by rw[hj]at h ⊢;exact bF h))
    ·have Vt:j=a:=by omega
     have HI:=aq hD hf bF;have g5:decide ((a:Int)<(j:Int))=false:=by simp;omega
     have HJ:=af Vt;clear hD hf bF fP Vt;go_upto_region 4 with fail;refine lK 17 [(false,0),(false,1),(false,2),(false,3),(false,4),(false,5),(false,6),(false,7),(false,8),(false,9),(false,10),(false,11),(false,12),(false,13),(true,14),(false,15),(false,16)] [] (by kernel_rfl) (by kernel_rfl) (λ_ _ d _ _ h=>by cases d<;>exact h) ?_;simp only[kQ];refine eD 14 rfl ?_;simp only[cT];repeat (go_big_quiet_step (fail))
     repeat (go_big_quiet_step (fail))
     refine wpQuiet_nil ?_;refine Kc rfl ?_;simp only[Act.put,pS,nV,pQ];refine eD 2 rfl ?_;simp only[cT];repeat (go_big_quiet_step (fail))
     refine wpQuiet_nil ?_;refine j4 ?_;go_wp2;go_roundg k;case measure=>have:=HX.l4;omega
     case rel=>obtain⟨hD,hf,bF⟩:=HI.out;have cQ:=HX.l4;have Vt:=HJ.out;refine⟨i+1,by go_num,by omega,by omega,bA f1 j i (i+1),hD.drew,?_,hf.drew⟩;rw[vP (by omega)];exact HX.o1.trans' (SP f1 a i j (by omega) jr HX.o1.srt (λh=>absurd h (by omega)) bF)
  ·have HI:=aq hD hS hf;have e:min i b=b:=by omega
   rw[e]at hS;clear hD hf e cQ;have HS:=af hS;clear hS;go_wp2;(try simp only[Exit.inBlock,Exit.then]);refine bodyPost_end (results_none rfl _ _ _) rfl ?_;exact⟨rfl,f1,HI.out.1,HS.out,HI.out.2.2⟩
end huf

end Go.Proofs.YticadfhpolhkeaaGreatDoor