/-
  Texts of this proof, one behind the other: LenDist, MatLaw, Mat, MatE, MatM, Each.
-/
import Derived.Test.YticadfhpolhkeaaGreatDoorQ2
import Derived.Deep.LoopGhost
import Derived.Maps.OwnOps
import Derived.OwnWalk
import Derived.Laws.OwnMore
set_option maxHeartbeats 16000000
set_option maxRecDepth 100000
set_option linter.unusedVariables false
set_option linter.unusedSimpArgs false
namespace Go.Proofs.YticadfhpolhkeaaGreatDoor
namespace defl
open Go Go.RowKit lib bm
variable {n w:Nat}
def bx (n:Nat):Nat×Nat×Nat:=if n<11 then (n+254,0,0) else if n=258 then (285,0,0) else (257+4*(Nat.log2 (n-3)-2)+(n-3)/2^(Nat.log2 (n-3)-2),(n-3)%2^(Nat.log2 (n-3)-2),Nat.log2 (n-3)-2)
def cu (n:Nat):Nat×Nat×Nat:=if n<5 then (n-1,0,0) else (2*(Nat.log2 (n-1)-1)+(n-1)/2^(Nat.log2 (n-1)-1),(n-1)%2^(Nat.log2 (n-1)-1),Nat.log2 (n-1)-1)
theorem YB {m c:Nat} (h1:2^(w+c)<=m) (h2:m<2^(w+c+1)):Nat.log2 m-c=w:=by
 have h0:m≠0:=by have:=mC (w+c);omega
 have k1:=(Nat.le_log2 h0).2 h1;have k2:=(Nat.log2_lt h0).2 h2;omega
theorem SI (sJ:11<=n) (iB:n≠258) (h1:4*2^w<=n-3) (h2:n-3<8*2^w):bx n=(257+4*w+(n-3)/2^w,(n-3)%2^w,w):=by have e:Nat.log2 (n-3)-2=w:=YB (by rw[mB];omega) (by rw[mB,mB];omega);unfold bx;rw[if_neg (by omega),if_neg iB,e]
theorem SR (h5:5<=n) (h1:2*2^w<=n-1) (h2:n-1<4*2^w):cu n=(2*w+(n-1)/2^w,(n-1)%2^w,w):=by have e:Nat.log2 (n-1)-1=w:=YB (by rw[mB];omega) (by rw[mB,mB];omega);unfold cu;rw[if_neg (by omega),e]
def Triple (c:Nat×Nat×Nat):Ending:=.returned (.tuple #[.int .i64 (c.1:Nat),.int .u32 (c.2.1:Nat),.int .i64 (c.2.2:Nat)])
theorem PK (n:Nat) (w:World) (h3:3<=n) (iB:n<=258) :
  Calls Tryz.prog 293 #[.int .i64 n] w λe w'=>e=Triple (bx n)/\Fr [] w w':=by
 by_cases sJ:n<11
 ·go_enter Tryz.func293,Tryz.ntmps293;go_wp2;go_ret3;refine⟨?_,.refl _ w⟩;unfold Triple bx;rw[if_pos sJ];rfl
 ·by_cases h8:n=258
  ·subst h8;go_enter Tryz.func293,Tryz.ntmps293;go_wp2;go_ret3;exact⟨rfl,.refl _ w⟩
  ·have q1:((n:Int)==258)=false:=by simp only[beq_eq_false_iff_ne];omega
   obtain⟨m,hm⟩:=ah (n-3);have e0:(n:Int)-3=(m:Int):=by omega
   have ME:8<=m:=by omega
   have jQ:m<=254:=by omega
   have HM:=af hm;clear hm;go_enter Tryz.func293,Tryz.ntmps293;go_upto_block 1 with fail;go_wp2;go_loopg [4] 6 (λk s4 wr=>∃v:Nat,s4 = .int .i64 (v:Nat)/\1<=v/\v+k=7/\4*2^v<=m/\w=wr);case atStart=>exact⟨1,rfl,ax _,rfl,by omega,rfl⟩
   case round=>
    obtain⟨v,rfl,LW,hvk,Cc,rfl⟩:=hrel;obtain⟨z,hz⟩:=ah (2^v);have e2:(2:Int)^v=(z:Int):=by rw[hz];exact xb v
    rw[<-hz]at Cc;have UI:z<=64:=by omega
    have HZ:=af hz;clear hz;by_cases bF:m<8*z
    ·have q2:decide (8*(z:Int)<=(m:Int))=false:=by simp;omega
     obtain⟨q,hq⟩:=ah (m/z);obtain⟨r,hr⟩:=ah (m%z);have UH:0<z:=by omega
     have e3:(m:Int)/(z:Int)=(q:Int):=by rw[hq];exact (Int.natCast_ediv m z).symm
     have e4:bits .and .u32 (m:Int) ((z:Int)-1)=(r:Int):=by rw[show (z:Int)-1=((z-1:Nat):Int) from by omega,u32_and_nat m (z-1) (by omega) (by omega),HZ.out,KN,<-HZ.out,hr]
     have hq7:q<8:=by rw[hq];exact (Dy UH).2 bF
     have hv7:v<=7:=by omega
     have HR:=aA hq hr bF Cc;clear hq hr bF Cc;go_upto_region 8 with fail;go_quiet (fail);clear e3 e4;go_wp2;go_ret3;obtain⟨hq,hr,bF,Cc⟩:=HR.out;have hm:=HM.out;have hz:=HZ.out;refine⟨?_,Fr.drewN [] w _⟩;unfold Triple;rw[SI (w:=v) (by omega) h8 (by omega) (by omega),<-hm,<-hz,<-hq,<-hr];rw[show (261+4*(v:Int)+(q:Int)-4)=((257+4*v+q:Nat):Int) from by omega];rfl
    ·have hv5:v<=5:=by
      rcases kT v 6 with h|h
      ·omega
      ·have:2^6<=2^v:=lJ (by decide) h;have:=HZ.out;omega
     go_wp2;go_roundg (gk-1);case measure=>omega
     case rel=>exact⟨v+1,by go_num,by omega,by omega,by have:=HZ.out;rw[qJ];omega,rfl⟩
theorem P6 (n:Nat) (w:World) (h1:1<=n) (h2:n<=32768) :
  Calls Tryz.prog 294 #[.int .i64 n] w λe w'=>e=Triple (cu n)/\Fr [] w w':=by
 by_cases h5:n<5
 ·obtain⟨m,hm⟩:=ah (n-1);have e0:(n:Int)-1=(m:Int):=by omega
  have HM:=af hm;clear hm;go_enter Tryz.func294,Tryz.ntmps294;go_wp2;go_ret3;refine⟨?_,.refl _ w⟩;unfold Triple cu;rw[if_pos h5,<-HM.out];rfl
 ·obtain⟨m,hm⟩:=ah (n-1);have e0:(n:Int)-1=(m:Int):=by omega
  have ME:4<=m:=by omega
  have jQ:m<=32767:=by omega
  have HM:=af hm;clear hm;go_enter Tryz.func294,Tryz.ntmps294;go_upto_block 0 with fail;go_wp2;go_loopg [4] 14 (λk s4 wr=>∃v:Nat,s4 = .int .i64 (v:Nat)/\1<=v/\v+k=15/\2*2^v<=m/\w=wr);case atStart=>exact⟨1,rfl,ax _,rfl,by omega,rfl⟩
  case round=>
   obtain⟨v,rfl,LW,hvk,Cc,rfl⟩:=hrel;obtain⟨z,hz⟩:=ah (2^v);have e2:(2:Int)^v=(z:Int):=by rw[hz];exact xb v
   rw[<-hz]at Cc;have UI:z<=16384:=by omega
   have HZ:=af hz;clear hz;by_cases bF:m<4*z
   ·have q2:decide (4*(z:Int)<=(m:Int))=false:=by simp;omega
    obtain⟨q,hq⟩:=ah (m/z);obtain⟨r,hr⟩:=ah (m%z);have UH:0<z:=by omega
    have e3:(m:Int)/(z:Int)=(q:Int):=by rw[hq];exact (Int.natCast_ediv m z).symm
    have e4:bits .and .u32 (m:Int) ((z:Int)-1)=(r:Int):=by rw[show (z:Int)-1=((z-1:Nat):Int) from by omega,u32_and_nat m (z-1) (by omega) (by omega),HZ.out,KN,<-HZ.out,hr]
    have hq7:q<4:=by rw[hq];exact (Dy UH).2 bF
    have hv7:v<=15:=by omega
    have HR:=aA hq hr bF Cc;clear hq hr bF Cc;go_upto_region 6 with fail;go_quiet (fail);clear e3 e4;go_wp2;go_ret3;obtain⟨hq,hr,bF,Cc⟩:=HR.out;have hm:=HM.out;have hz:=HZ.out;refine⟨?_,Fr.drewN [] w _⟩;unfold Triple;rw[SR (w:=v) (by omega) (by omega) (by omega),<-hm,<-hz,<-hq,<-hr];rw[show (2+2*(v:Int)+(q:Int)-2)=((2*v+q:Nat):Int) from by omega];rfl
   ·have hv5:v<=13:=by
     rcases kT v 14 with h|h
     ·omega
     ·have:2^14<=2^v:=lJ (by decide) h;have:=HZ.out;omega
    go_wp2;go_roundg (gk-1);case measure=>omega
    case rel=>exact⟨v+1,by go_num,by omega,by omega,by have:=HZ.out;rw[qJ];omega,rfl⟩
end defl
namespace mat
open Go Go.RowKit lib
def three (b:LB) (i:Nat):Nat:=(b[i]?.getD 0).toNat+256*(b[i+1]?.getD 0).toNat+65536*(b[i+2]?.getD 0).toNat
theorem SY (b:LB) (i:Nat):three b i<4294967296:=by unfold three;have h0:=mW (b[i]?.getD 0);have h1:=mW (b[i+1]?.getD 0);have h2:=mW (b[i+2]?.getD 0);omega
def last (b:LB):Nat->Nat->Option Nat
 | 0,_=>none
 | i+1,k=>if i+3<=b.length/\three b i=k then some i else last b i k
theorem J9 (b:LB):∀(i k p:Nat),last b i k=some p->p<i/\p+3<=b.length/\three b p=k
 | 0,_,_,h=>by cases h
 | i+1,k,p,h=>by
  unfold last at h;split at h
  ·rename_i hc;obtain rfl:=ig h;exact⟨by omega,hc.1,hc.2⟩
  ·have:=J9 b i k p h;exact⟨by omega,this.2⟩
def eK (b:LB) (i j:Nat):Nat->Nat->Nat
 | 0,n=>n
 | f+1,n=>if j+n<b.length/\b[i+n]?=b[j+n]? then eK b i j f (n+1) else n
def alike (b:LB) (i j:Nat):Nat:=eK b i j 258 0
theorem qnb (b:LB) (i j:Nat):∀(f n:Nat),j+n<=b.length->(∀k,k<n->b[i+k]?=b[j+k]?)->
  n<=eK b i j f n/\eK b i j f n<=n+f/\j+eK b i j f n<=b.length/\∀k,k<eK b i j f n->b[i+k]?=b[j+k]?
 | 0,n,h1,h2=>⟨ax _,ax _,h1,h2⟩
 | f+1,n,h1,h2=>by
  unfold eK;split
  ·rename_i hc;obtain⟨a,b',c,d⟩:=qnb b i j f (n+1) (by omega) (λk hk=>by
    by_cases e:k=n
    ·rw[e];exact hc.2
    ·exact h2 k (by omega))
   exact⟨by omega,by omega,c,d⟩
  ·exact⟨ax _,by omega,h1,h2⟩
theorem TB (b:LB) (i j:Nat) (h:j<=b.length):alike b i j<=258/\j+alike b i j<=b.length/\∀k,k<alike b i j->b[i+k]?=b[j+k]?:=by obtain⟨_,h1,h2,h3⟩:=qnb b i j 258 0 (by omega) (λk hk=>by omega);exact⟨by unfold alike;omega,h2,h3⟩
def gA (b:LB) (r i:Nat):Nat->Option Nat->Nat->Nat->Nat×Nat
 | 0,_,best,at_=>(best,at_)
 | _+1,none,best,at_=>(best,at_)
 | n+1,some p,best,at_=>if i-p<=r then (if best<alike b p i then gA b r i n (last b p (three b p)) (alike b p i) p else gA b r i n (last b p (three b p)) best at_) else (best,at_)
theorem TH (b:LB) (r i:Nat):∀(n:Nat) (p:Option Nat) (best at_:Nat),(∀q,p=some q->q<i)->(best=0\/(best=alike b at_ i/\at_<i/\i-at_<=r))->
  best<=(gA b r i n p best at_).1/\((gA b r i n p best at_).1=0\/((gA b r i n p best at_).1=alike b (gA b r i n p best at_).2 i/\(gA b r i n p best at_).2<i/\i-(gA b r i n p best at_).2<=r))
 | 0,_,_,_,_,h=>⟨ax _,h⟩
 | _+1,none,_,_,_,h=>⟨ax _,h⟩
 | n+1,some p,best,at_,hp,h=>by
  have hpi:=hp p rfl;have hl:∀q,last b p (three b p)=some q->q<i:=λq hq=>by have:=(J9 b _ _ _ hq).1;omega
  unfold gA;split
  ·split
   ·obtain⟨h1,h2⟩:=TH b r i n (last b p (three b p)) (alike b p i) p hl (.inr ⟨rfl,hpi,by assumption⟩);exact⟨by omega,h2⟩
   ·exact TH b r i n _ best at_ hl h
  ·exact⟨ax _,h⟩
def best (b:LB) (r i:Nat):Nat×Nat:=gA b r i 48 (last b i (three b i)) 0 0
theorem ZJ (b:LB) (r i:Nat) (h:0<(best b r i).1):(best b r i).1=alike b (best b r i).2 i/\(best b r i).2<i/\i-(best b r i).2<=r:=by
 have h1:=(TH b r i 48 (last b i (three b i)) 0 0 (λq hq=>(J9 b _ _ _ hq).1) (.inl rfl)).2;unfold best at *;rcases h1 with h1|h1
 ·omega
 ·exact h1
abbrev Mt:=Nat×Nat×Nat
def step (b:LB) (r i:Nat):Nat:=if 3<=(best b r i).1 then (best b r i).1 else 1
def jg (b:LB) (r:Nat):Nat->Nat->List Mt
 | 0,_=>[]
 | f+1,i=>if i+3<=b.length then (if 3<=(best b r i).1 then (i,(best b r i).1,i-(best b r i).2)::jg b r f (i+step b r i) else jg b r f (i+step b r i)) else []
def xV (b:LB) (reach:Int):List Mt:=if 0<reach then jg b (min reach 32768).toNat b.length 0 else []
def cH (b:LB) (r:Nat):Nat->List Mt->Prop
 | _,[]=>True
 | e,(a,n,d)::t=>e<=a/\3<=n/\n<=258/\1<=d/\d<=r/\d<=a/\a+n<=b.length/\(∀k,k<n->b[a+k]?=b[a+k-d]?)/\cH b r (a+n) t
theorem cH.mono {b:LB} {r e e':Nat} {l:List Mt} (h:cH b r e l) (he:e'<=e):cH b r e' l:=by
 cases l with
 | nil=>trivial
 | cons x t=>obtain⟨a,n,d⟩:=x;exact⟨bP he h.1,h.2⟩
theorem qml (b:LB) (r:Nat):∀(f i:Nat),cH b r i (jg b r f i)
 | 0,_=>trivial
 | f+1,i=>by
  unfold jg;split
  ·rename_i hi;have ih:=qml b r f (i+step b r i);split
   ·rename_i h3;obtain⟨h1,h2,h4⟩:=ZJ b r i (by omega);obtain⟨k1,k2,k3⟩:=TB b (best b r i).2 i (by omega);rw[<-h1]at k1 k2 k3;have hs:step b r i=(best b r i).1:=if_pos h3;rw[hs]at ih;refine⟨ax _,h3,k1,by omega,h4,by omega,k2,λk hk=>?_,by rw[hs];exact ih⟩;have:=k3 k hk;rw[show i+k-(i-(best b r i).2)=(best b r i).2+k from by omega,this]
   ·exact ih.mono (by omega)
  ·trivial
theorem PZ (b:LB) (reach:Int):cH b (min reach 32768).toNat 0 (xV b reach):=by
 unfold xV;split
 ·exact qml _ _ _ _
 ·trivial
theorem cH.len {b:LB} {r:Nat}:∀{l:List Mt} {e:Nat},cH b r e l->e<=b.length->l.length<=b.length-e
 | [],_,_,_=>eE _
 | (a,n,d)::t,e,h,_=>by obtain⟨h1,h2,h3,h4,h5,h6,h7,h8,h9⟩:=h;have:=h9.len h7;rw[dw];omega
theorem cH.at {b:LB} {r:Nat}:∀{l:List Mt} {e:Nat},cH b r e l->∀{i:Nat} {x:Mt},l[i]?=some x->
  3<=x.2.1/\x.2.1<=258/\1<=x.2.2/\x.2.2<=r/\x.2.2<=x.1/\x.1+x.2.1<=b.length/\(∀k,k<x.2.1->b[x.1+k]?=b[x.1+k-x.2.2]?)/\(if i=0 then e<=x.1 else ∃y,l[i-1]?=some y/\y.1+y.2.1<=x.1)
 | [],_,_,i,x,h=>by simp at h
 | (a,n,d)::t,e,hc,0,x,h=>by
  simp only[dk,fI]at h;subst h;obtain⟨h1,h2,h3,h4,h5,h6,h7,h8,_⟩:=hc;exact⟨h2,h3,h4,h5,h6,h7,h8,h1⟩
 | (a,n,d)::t,e,hc,i+1,x,h=>by
  rw[dU]at h;obtain⟨h1,h2,h3,h4,h5,h6,h7,h8⟩:=hc.2.2.2.2.2.2.2.2.at h;refine⟨h1,h2,h3,h4,h5,h6,h7,?_⟩;rw[if_neg (by omega),Du];split at h8
  ·rename_i h0;subst h0;exact⟨(a,n,d),rfl,h8⟩
  ·rename_i h0;obtain⟨y,hy,uO⟩:=h8;refine⟨y,?_,uO⟩;obtain⟨j,rfl⟩:∃j,i=j+1:=⟨i-1,by omega⟩;simpa using hy
open bm
variable {b:LB} {B0 bm bp c cap cnt i j k n qb qh qp:Nat} {a ao:OA} {D:DataW Unit} {w w' wr:World} {l:List Mt}
theorem or8 (x y:Nat) (hx:x<256) (hy:y<256):bits .or .u32 (x:Int) ((y:Int)*256)=((x+256*y:Nat):Int):=by have h:=SA x y 8 8 hx hy (by decide);rw[Int.emod_eq_of_lt (by omega) (by have e:(2:Int)^8=256:=rfl;rw[e];omega)]at h;exact h
theorem BW (x y:Nat) (hx:x<65536) (hy:y<256):bits .or .u32 (x:Int) ((y:Int)*65536)=((x+65536*y:Nat):Int):=by have h:=SA x y 16 8 hx hy (by decide);rw[Int.emod_eq_of_lt (by omega) (by have e:(2:Int)^16=65536:=rfl;rw[e];omega)]at h;exact h
theorem oq (b:LB) (i:Nat):three (b.drop i) 0=three b i:=by unfold three;simp only[EZ,pN,iN]
theorem qqh (a:OA) (cap:Nat) (d:LB) (w:World) (h:Rd w a cap d) (h3:3<=d.length) :
  Calls Tryz.prog 288 #[.slice a d.length cap] w λe w'=>e = .returned (.int .u32 (three d 0))/\∃n,w'=w.drewN n:=by
 obtain⟨g,o,rfl,c0⟩:=h.at (i:=0) (by omega);obtain⟨g1,o1,e1,c1⟩:=h.at (i:=1) (by omega);obtain⟨g2,o2,e2,c2⟩:=h.at (i:=2) (by omega);simp only[fI,rB,and_true]at e1 e2;obtain⟨rfl,rfl⟩:=e1;obtain⟨rfl,rfl⟩:=e2;have hle:=h.le;have b0:(d[0]?.getD 0)=d[0]:=by rw[dm (by omega)];rfl
 have b1:(d[1]?.getD 0)=d[1]:=by rw[dm (by omega)];rfl
 have b2:(d[2]?.getD 0)=d[2]:=by rw[dm (by omega)];rfl
 have ht:three d 0=d[0].toNat+256*d[1].toNat+65536*d[2].toNat:=by unfold three;rw[iN,iN,b0,b1,b2]
 have l0:=mW d[0];have l1:=mW d[1];have l2:=mW d[2];rw[ht];generalize d[0].toNat=x0 at *;generalize d[1].toNat=x1 at *;generalize d[2].toNat=x2 at *;have o1:=or8 x0 x1 (by omega) (by omega);obtain⟨y,hy⟩:=ah (x0+256*x1);rw[<-hy]at o1;have o2:=BW y x2 (by omega) (by omega);rw[<-hy];obtain⟨z,hz⟩:=ah (y+65536*x2);rw[<-hz]at o2 ⊢;clear hy hz;have g0:(0:Int)<(d.length:Int):=by omega
 have g1:(1:Int)<(d.length:Int):=by omega
 have g2:(2:Int)<(d.length:Int):=by omega
 simp only[pN]at c0;clear h b0 b1 b2 ht;go_enter Tryz.func288,Tryz.ntmps288;go_wp2_with fail;go_quiet (fail);go_wp2;go_ret;exact⟨rfl,_,rfl⟩
theorem qna {f:Nat} (h:¬(j+n<b.length/\b[i+n]?=b[j+n]?)):eK b i j f n=n:=by
 cases f with
 | zero=>rfl
 | succ f=>rw[eK,if_neg h]
theorem zcl (a:OA) (cap i j:Nat) (b:LB) (w:World) (h:Rd w a cap b) (oe:i<=j) (hj:j<=b.length) :
  Calls Tryz.prog 289 #[.slice a b.length cap,.int .i64 i,.int .i64 j] w λe w'=>e = .returned (.int .i64 (alike b i j))/\Fr [] w w':=by
 have hle:=h.le;have dE:=h.max;unfold maxLen at dE;obtain⟨L,hL⟩:=ah b.length;rw[<-hL]at hle hj ⊢;have H:=ai h hL;clear h hL;go_enter Tryz.func289,Tryz.ntmps289;go_upto_block 0 with fail;go_wp2;go_loopg [7] 258 (λk s7 wr=>∃n:Nat,s7 = .int .i64 (n:Nat)/\n+k=258/\j+n<=L/\eK b i j k n=alike b i j/\Fr [] w wr);case atStart=>exact⟨0,rfl,rfl,by omega,rfl,Fr.refl _ _⟩
 case round=>
  obtain⟨n,rfl,hn,Cq,sH,hf⟩:=hrel;have HF:=ai sH hf;clear sH hf;obtain⟨m1,j7⟩:=ah (i+n);obtain⟨m2,jQ⟩:=ah (j+n);have e1:(i:Int)+(n:Int)=(m1:Int):=by omega
  have e2:(j:Int)+(n:Int)=(m2:Int):=by omega
  have w1:IntKind.i64.wrap ((i:Int)+(n:Int))=(m1:Int):=by rw[xe];omega
  have w2:IntKind.i64.wrap ((j:Int)+(n:Int))=(m2:Int):=by rw[xe];omega
  have HE:=ai j7 jQ;have l1:m1<=L:=by omega
  have l2:m2<=L:=by omega
  have l3:m1<=m2:=by omega
  by_cases hn258:n<258
  ·obtain⟨k,rfl⟩:∃k,gk=k+1:=⟨gk-1,by omega⟩;have d0:decide ((n:Int)<258)=true:=by simp;omega
   by_cases c2:m2<L
   ·have d2:decide (m2<L)=true:=by simpa using c2
    have d2':decide ((m2:Int)<L)=true:=by simp;omega
    have kD:m1<b.length:=by rw[<-H.out.2];omega
    have kj:m2<b.length:=by rw[<-H.out.2];omega
    obtain⟨g1,o1,ra,X1⟩:=H.out.1.at kD;obtain⟨g2,o2,rb,X2⟩:=H.out.1.at kj;have R3:=rb;rw[ra]at R3;simp only[fI,rB,and_true]at R3;obtain⟨rfl,rfl⟩:=R3;have x1:=HF.l1.cell X1 (by simp);have x2:=HF.l1.cell X2 (by simp);clear X1 X2;obtain⟨y1,I5⟩:∃y,y=b[m1]:=⟨_,rfl⟩;obtain⟨y2,uO⟩:∃y,y=b[m2]:=⟨_,rfl⟩;rw[<-I5]at x1;rw[<-uO]at x2;have q1:b[m1]?=some y1:=by rw[I5];exact dm kD
    have q2:b[m2]?=some y2:=by rw[uO];exact dm kj
    have i1:(m1:Int)<(L:Int):=by omega
    have i2:(m2:Int)<(L:Int):=by omega
    subst ra;clear rb I5 uO;by_cases ce:y1=y2
    ·have aW:eK b i j (k+1) n=eK b i j k (n+1):=by rw[eK,if_pos];exact⟨by rw[<-H.out.2,<-jQ];exact c2,by rw[<-j7,<-jQ,q1,q2,ce]⟩
     have HS:=af (aW.symm.trans HF.o0);rw[<-ce]at x2;generalize y1.toNat=n1 at *;clear ce kD kj j7 jQ q1 q2 aW;go_upto_region 2 with fail;go_quiet (fail);clear x1 x2 w1 w2;go_wp2;go_roundg k;case measure=>omega
     case rel=>exact⟨n+1,by go_num,by omega,by have:=HE.l1;omega,HS.out,HF.l1.trans (Fr.drewN [] _ _)⟩
    ·have bg:y1.toNat≠y2.toNat:=λh=>ce (C9.1 h)
     have aW:eK b i j (k+1) n=n:=qna λhc=>by rw[<-j7,<-jQ,q1,q2]at hc;exact ce (ig hc.2)
     have HS:=af (aW.symm.trans HF.o0);have d3:(((y1.toNat:Nat):Int)==((y2.toNat:Nat):Int))=false:=by simp;omega
     generalize y1.toNat=n1 at *;generalize y2.toNat=n2 at *;clear ce kD kj bg j7 jQ q1 q2 aW;go_upto_region 2 with fail;go_quiet (fail);clear x1 x2 w1 w2;go_wp2;go_ret;exact⟨by rw[<-HS.out];rfl,HF.l1.trans (Fr.drewN [] _ _)⟩
   ·have d2:decide (m2<L)=false:=by simpa using c2
    have d2':decide ((m2:Int)<L)=false:=by simp;omega
    have aW:eK b i j (k+1) n=n:=qna λhc=>by have:=hc.1;rw[<-H.out.2]at this;omega
    have HS:=af (aW.symm.trans HF.o0);clear aW j7 jQ;go_upto_region 2 with fail;go_quiet (fail);clear w1 w2;go_wp2;go_ret;exact⟨by rw[<-HS.out];rfl,HF.l1.trans (Fr.drewN [] _ _)⟩
  ·obtain rfl:n=258:=by omega
   obtain rfl:gk=0:=by omega
   have HS:=af HF.o0;clear j7 jQ;go_upto_region 2 with fail;go_quiet (fail);clear w1 w2;go_wp2;go_ret;exact⟨by rw[<-HS.out];rfl,HF.l1.trans (Fr.drewN [] _ _)⟩
theorem YH:Tryz.prog.underlying 202=some (.int .u32):=by kernel_rfl
theorem Iw:Tryz.prog.underlying 3=some (.int .i64):=by kernel_rfl
theorem Kj:Tryz.prog.underlying 406=some (.map 202 3):=by kernel_rfl
theorem KG:Maps.Keyed Tryz.prog 202:=Maps.int_keyed YH
theorem SV (w:World):(zeroValue 3).run Tryz.prog w = .ok (.int .i64 0) w:=by kernel_rfl
theorem YI (h:k<4294967296):(Lit.int .u32 (k:Int)).wf=true:=WalkArith.wf_u32 (by omega)
theorem zgl {k:Int} (h : -9223372036854775808<=k) (h2:k<=9223372036854775807):(Lit.int .i64 k).wf=true:=WalkArith.wf_i64 (by omega)
theorem XV (h:k<4294967296):keyOf Tryz.prog 202 (.int .u32 (k:Int))=some (.int .u32 (k:Int)):=Maps.keyOf_int_mk YH (YI h)
theorem qon {lo:Nat} (h:lo<cap):bh a cap lo 1=Option.map (λx=>x.add lo) a:=by unfold bh;rw[if_neg (by omega),uG]
def pq:Option Nat->Int×Bool
 | none=>(0,false)
 | some p=>((p:Int),true)
def pv (b:LB) (j:Nat):Int:=match last b j (three b j) with
 | none=>-1
 | some p=>(p:Int)
def mA (b:LB) (i:Nat) (D:DataW Unit):Prop:=
 Maps.IsMap D/\∀k:Nat,k<4294967296->D.atKey (.int .u32 (k:Int)) (.lit (.int .i64 0)) = .lit (.int .i64 (pq (last b i k)).1)/\Maps.has D (.int .u32 (k:Int))=(pq (last b i k)).2
theorem qtu (b:LB):mA b 0 (.map []):=⟨Maps.isMap_empty,λk _=>⟨rfl,rfl⟩⟩
theorem mA.put {b:LB} {i:Nat} {D:DataW Unit} (h:mA b i D) (hi:i+3<=b.length):mA b (i+1) (D.put (.int .u32 (three b i:Nat)) (.lit (.int .i64 (i:Int)))):=by
 refine⟨h.1.put _ _,λk hk=>?_⟩;by_cases he:three b i=k
 ·have hl:last b (i+1) k=some i:=by rw[last,if_pos ⟨hi,he⟩]
  rw[hl,he];have uz:WideAt.IsKeyLit (.int .u32 (k:Int)):=by first|trivial|exact YI hk|simp[WideAt.IsKeyLit]
  exact⟨Maps.atKey_put_same h.1 uz _ _,Maps.has_put_same h.1 uz _⟩
 ·have hl:last b (i+1) k=last b i k:=by rw[last,if_neg (λhc=>he hc.2)]
  have bg:(Lit.int .u32 (k:Int))≠.int .u32 (three b i:Nat):=by intro e;simp only[Lit.int.injEq,true_and]at e;omega
  rw[hl,Maps.atKey_put_other bg,Maps.has_put_other bg];exact h.2 k hk
theorem mA.skip (h:mA b i D) (hi:¬i+3<=b.length):mA b (i+1) D:=by refine⟨h.1,λk hk=>?_⟩;rw[last,if_neg (λhc=>hi hc.1)];exact h.2 k hk
theorem KX {H:Type} {P:Program} {k:TypeId} {R:Value->Option (DataW H×List MemPlace)} {m:Nat} {D:DataW H} (h:w.ownsMap P k R m n D) (hb:w'.heap[m]?=w.heap[m]?):w'.ownsMap P k R m n D:=by obtain⟨es,c,h1,r⟩:=h;exact⟨es,c,hb.trans h1,r⟩
theorem zea (h:w.ownsMap Tryz.prog 202 (plainElem Tryz.prog 3) bm cnt D) (hm:mA b i D) (hk:k<4294967296) :
  (Instr.lookup 406 (.map (some bm)) (.int .u32 (k:Int)) true).run Tryz.prog w = .ok (.tuple #[.int .i64 (pq (last b i k)).1,.bool (pq (last b i k)).2]) w:=by
 obtain⟨v,ps,tv,hv⟩:=h.look_ok KG Kj (SV w) (plainElem_int Iw (by decide)) (XV hk);obtain⟨ha,hh⟩:=hm.2 k hk;obtain⟨c,rfl,hc,_⟩:=plainElem_int_inv Iw hv;simp only[gq]at hc;rw[ha]at hc;have e:c=(pq (last b i k)).1:=by simpa using hc.1.symm
 rw[tv,hh,e]
def pd:Option Nat->Int
 | none=>-1
 | some p=>(p:Int)
theorem zjn (b:LB) (j:Nat):pv b j=pd (last b j (three b j)):=by unfold pv pd;rfl
structure Eb (w:World) (b:LB) (a:OA) (cap qb qp qh bp bm cnt:Nat) (D:DataW Unit) (P:AV):Prop where
 vb:w.heap[qb]?=some (.cells #[.slice a b.length cap] 35 (0,0))
 vp:w.heap[qp]?=some (.cells #[.slice (some ⟨bp,0,none⟩) b.length b.length] 348 (0,0))
 vh:w.heap[qh]?=some (.cells #[.map (some bm)] 406 (0,0))
 rd:Rd w a cap b
 map:w.ownsMap Tryz.prog 202 (plainElem Tryz.prog 3) bm cnt D
 row:w.heap[bp]?=some (.cells P 3 (0,0))
 size:P.size=b.length
 np:qb≠bp/\qp≠bp/\qh≠bp/\bm≠bp
 nm:qb≠bm/\qp≠bm/\qh≠bm
 na:b≠[]->∀x∈ag a,x≠bp/\x≠bm
theorem Eb.fr {w w':World} {b:LB} {a:OA} {cap qb qp qh bp bm cnt:Nat} {D:DataW Unit} {P:AV} (h:Eb w b a cap qb qp qh bp bm cnt D P) (f:Fr [] w w'):Eb w' b a cap qb qp qh bp bm cnt D P:=
 ⟨f.ag h.vb (by simp),f.ag h.vp (by simp),f.ag h.vh (by simp),h.rd.fr f,KX h.map (f.block _ h.map.lt (by simp)),f.ag h.row (by simp),h.size,h.np,h.nm,h.na⟩
theorem Eb.store {P:AV} (h:Eb w b a cap qb qp qh bp bm cnt D P) (i:Nat) (v:Value) :
  Eb (w.setCell ⟨bp,i,none⟩ v) b a cap qb qp qh bp bm cnt D (P.setIfInBounds i v)/\Fr [bp] w (w.setCell ⟨bp,i,none⟩ v):=by
 have f:Fr [bp] w (w.setCell ⟨bp,i,none⟩ v):=(Fr.refl [bp] w).setCell (by simp) v;obtain⟨n1,n2,n3,n4⟩:=h.np;exact⟨⟨f.ag h.vb (by simpa using n1),f.ag h.vp (by simpa using n2),f.ag h.vh (by simpa using n3),C4 h.rd f (λhb x hx=>by simpa using (h.na hb x hx).1),KX h.map (f.block _ h.map.lt (by simpa using n4)),df h.row v,by simp[h.size],h.np,h.nm,h.na⟩,f⟩
theorem Eb.put {xL:Nat} {D':DataW Unit} {P:AV} (h:Eb w b a cap qb qp qh bp bm cnt D P) (hm:w'.ownsMap Tryz.prog 202 (plainElem Tryz.prog 3) bm xL D') (hg:w.grownBy w' (some bm)) :
  Eb w' b a cap qb qp qh bp bm xL D' P/\Fr [bm] w w':=by
 have f:Fr [bm] w w':=(Fr.refl [bm] w).grown hg (λk hk=>by simp only[fI]at hk;simp[hk]);obtain⟨n1,n2,n3,n4⟩:=h.np;obtain⟨m1,m2,m3⟩:=h.nm;exact⟨⟨f.ag h.vb (by simpa using m1),f.ag h.vp (by simpa using m2),f.ag h.vh (by simpa using m3),C4 h.rd f (λhb x hx=>by simpa using (h.na hb x hx).2),hm,f.ag h.row (by simpa using (pM n4)),h.size,h.np,h.nm,h.na⟩,f⟩
def En (w:World) (b:LB) (a:OA) (cap qb qp qh bp bm i:Nat):Prop:=
 ∃D P cnt,Eb w b a cap qb qp qh bp bm cnt D P/\cnt<=i/\mA b i D/\∀j,j<i->j+3<=b.length->P[j]?=some (.int .i64 (pv b j))
theorem En.fr {w w':World} {b:LB} {a:OA} {cap qb qp qh bp bm i:Nat} (h:En w b a cap qb qp qh bp bm i) (f:Fr [] w w'):En w' b a cap qb qp qh bp bm i:=by obtain⟨D,P,cnt,h1,r⟩:=h;exact⟨D,P,cnt,h1.fr f,r⟩
theorem En.skip {w:World} {b:LB} {a:OA} {cap qb qp qh bp bm i:Nat} (h:En w b a cap qb qp qh bp bm i) (hi:¬i+3<=b.length):En w b a cap qb qp qh bp bm (i+1):=by obtain⟨D,P,cnt,h1,h2,h3,h4⟩:=h;exact⟨D,P,cnt,h1,by omega,h3.skip hi,λj hj uZ=>h4 j (by omega) uZ⟩
theorem zbi (b:LB) (a:OA) (cap qb qp qh bp bm i:Nat) (w:World) (h:En w b a cap qb qp qh bp bm i) (hi:i<b.length) (hlen:b.length<=100000) :
  Calls Tryz.prog 287 #[.int .i64 i,.pointer (some ⟨qb,0,none⟩),.pointer (some ⟨qp,0,none⟩),.pointer (some ⟨qh,0,none⟩)] w λe w'=>
   e = .returned (.tuple #[])/\Fr [bp,bm] w w'/\En w' b a cap qb qp qh bp bm (i+1):=by
 by_cases h3:i+3<=b.length
 ·obtain⟨D,P,cnt,E,Ng,rI,ec⟩:=h;obtain⟨L,hL⟩:=ah b.length;have cb:=cell_of E.vb 0;simp only[dJ,dk]at cb;have hle:=E.rd.le;have Cd:=qqh (bh a cap i 1) (cap-i) (b.drop i) w (E.rd.drop i (by omega)) (by rw[gN];omega);rw[gN,oq,qon (by omega)]at Cd;have uz:=SY b i;obtain⟨ha,hh⟩:=rI.2 _ uz;have hpv:∀p,last b i (three b i)=some p->pv b i=p:=λp hp=>by unfold pv;rw[hp]
  have FK:last b i (three b i)=none->pv b i = -1:=λhp=>by unfold pv;rw[hp]
  rw[<-hL]at cb hi h3 hle hlen Cd;have HM:=aA E rI ec hL;have HP:=ai hpv FK;obtain⟨k,hk⟩:=ah (three b i);rw[<-hk]at uz ha hh Cd;have HT:=af Cd;have nN:=XV uz;have HK:=af hk;have HL:Hid (L=b.length):=HM.l3 |> Lib.hid
  clear Cd hpv FK hL E rI ec hk;have d0:decide ((L:Int)<(i:Int)+3)=false:=by simp;omega
  go_enter Tryz.func287,Tryz.ntmps287;go_upto_region 2 with (go_at_call 288;(with_reducible refine HT.out.mono ?_);rintro e w1 ⟨rfl,n1,aJ⟩;have Oj:=af aJ;clear aJ);have E1:Eb w1 b a cap qb qp qh bp bm cnt D P:=HM.o0.fr (by rw[Oj.out];exact Fr.drewN [] w n1);have cp:=cell_of E1.vp 0;simp only[dJ,dk]at cp;rw[<-HL.out]at cp;have gS:=aT E1.row i;have jq:i<P.size:=by rw[E1.size,<-HL.out];exact hi
  obtain⟨x0,iz⟩:∃x,w1.cell? ⟨bp,i,none⟩=some x:=⟨P[i],by rw[cell_of E1.row];exact Ku jq⟩;have He:=ai E1 jq;clear E1 jq cb;go_upto_region 3 with fail;obtain⟨E2,f2⟩:=He.out.1.store i (.int .i64 (-1));generalize cC:w1.setCell ⟨bp,i,none⟩ (.int .i64 (-1))=w2 at *;have ch:=cell_of E2.vh 0;simp only[dJ,dk]at ch;have aK:=E2.map;have CR:=ai E2 f2;clear cC E2 f2 cp gS iz;have kE:cnt<maxLen:=by unfold maxLen;omega
  have HWF:Hid ((Lit.int .i64 (i:Int)).wf=true):=af (zgl (by omega) (by omega));cases hq:last b i k with
  | none=>
   rw[hq]at hh;have FJ:last b i (three b i)=none:=by rw[<-HK.out];exact hq
   have HQ:=af FJ;simp only[pq]at hh;clear hq FJ ha;go_upto_region 6 with (at_lookup;refine wpList_lookup_own_ok_int _ rfl _ _ 406 rfl 202 3 .i64 KG Kj Iw (SV _) bm cnt D rfl aK _ (.int .u32 (k:Int)) rfl nN ?_;intro c dc _;rw[hh];clear dc);go_wp2_with (at_mapUpdate;refine wpList_mapUpdate_own _ rfl _ _ _ 406 rfl 202 3 KG Kj _ bm cnt D rfl aK kE _ _ (.int .u32 (k:Int)) rfl rfl nN _ [] (plainElem_int Iw (a:=(i:Int)) HWF.out) ?_;intro w3 qO Gd);go_end0;obtain⟨E3,f3⟩:=CR.out.1.put qO Gd;refine⟨rfl,?_,_,_,_,E3,by omega,?_,λj hj uZ=>?_⟩
   ·have f1:Fr [bp,bm] w w1:=by rw[Oj.out];exact Fr.drewN [bp,bm] w n1
    exact (f1.step CR.out.2 (λy hy=>.inl (by simp at hy;simp[hy]))).step f3 (λy hy=>.inl (by simp at hy;simp[hy]))
   ·rw[HK.out];exact HM.o1.put (by rw[<-HL.out];exact h3)
   ·by_cases e:j=i
    ·subst e;rw[oI He.out.2,HP.l1 HQ.out]
    ·rw[cV (by omega)];exact HM.o2 j (by omega) uZ
  | some p=>
   rw[hq]at hh ha;have FJ:last b i (three b i)=some p:=by rw[<-HK.out];exact hq
   have HQ:=af FJ;simp only[pq]at hh ha;have HA:=af ha;clear hq FJ ha;have cp:=cell_of CR.out.1.vp 0;simp only[dJ,dk]at cp;rw[<-HL.out]at cp;have gS:=aT CR.out.1.row i;obtain⟨x1,j6⟩:∃x,w2.cell? ⟨bp,i,none⟩=some x:=⟨_,by rw[cell_of CR.out.1.row];exact oI He.out.2⟩;go_upto_region 6 with (at_lookup;refine wpList_lookup_own_ok_int _ rfl _ _ 406 rfl 202 3 .i64 KG Kj Iw (SV _) bm cnt D rfl aK _ (.int .u32 (k:Int)) rfl nN ?_;intro c dc _;rw[hh];have HC:Hid (c=(p:Int)):=af (by rw[HA.out]at dc;simpa using dc.symm);clear dc);obtain⟨E3,f3⟩:=CR.out.1.store i (.int .i64 c);generalize tq:w2.setCell ⟨bp,i,none⟩ (.int .i64 c)=w3 at *;have ch3:=cell_of E3.vh 0;simp only[dJ,dk]at ch3;have qO:=E3.map;have HE3:=ai E3 f3;clear tq E3 f3 cp gS j6 aK ch;go_wp2_with (at_mapUpdate;refine wpList_mapUpdate_own _ rfl _ _ _ 406 rfl 202 3 KG Kj _ bm cnt D rfl qO kE _ _ (.int .u32 (k:Int)) rfl rfl nN _ [] (plainElem_int Iw (a:=(i:Int)) HWF.out) ?_;intro w4 Ml Gc);go_end0;obtain⟨E4,f4⟩:=HE3.out.1.put Ml Gc;refine⟨rfl,?_,_,_,_,E4,by omega,?_,λj hj uZ=>?_⟩
   ·have f1:Fr [bp,bm] w w1:=by rw[Oj.out];exact Fr.drewN [bp,bm] w n1
    exact ((f1.step CR.out.2 (λy hy=>.inl (by simp at hy;simp[hy]))).step HE3.out.2 (λy hy=>.inl (by simp at hy;simp[hy]))).step f4 (λy hy=>.inl (by simp at hy;simp[hy]))
   ·rw[HK.out];exact HM.o1.put (by rw[<-HL.out];exact h3)
   ·by_cases e:j=i
    ·subst e;rw[oI (by rw[Array.size_setIfInBounds];exact He.out.2),HP.o0 p HQ.out,HC.out]
    ·rw[cV (by omega),cV (by omega)];exact HM.o2 j (by omega) uZ
 ·have hsk:=h.skip h3;obtain⟨D,P,cnt,E,_⟩:=h;have cb:=cell_of E.vb 0;simp only[dJ,dk]at cb;have HS:=af hsk;clear hsk E;have d0:decide ((b.length:Int)<(i:Int)+3)=true:=by simp;omega
  go_enter Tryz.func287,Tryz.ntmps287;go_wp2;(try simp only[Exit.inBlock,Exit.then]);refine bodyPost_ret (results_none rfl _ _ _) rfl ?_;exact⟨rfl,Fr.refl _ _,HS.out⟩
def bJ (l:List Mt):List Value:=l.flatMap λx=>[.int .i64 (x.1:Nat),.int .i64 (x.2.1:Nat),.int .i64 (x.2.2:Nat)]
theorem qi5 (l:List Mt):(bJ l).length=l.length*3:=by
 unfold bJ;induction l with
 | nil=>rfl
 | cons x l ih=>simp only[qd,aG,dw,jK,ih];omega
theorem qpn (l m:List Mt):bJ (l++m)=bJ l++bJ m:=by unfold bJ;rw[yQ]
theorem Z4:∀(l:List Mt) (i:Nat) (h:i<l.length),(bJ l)[i*3]?=some (.int .i64 (l[i].1:Nat))/\(bJ l)[i*3+1]?=some (.int .i64 (l[i].2.1:Nat))/\(bJ l)[i*3+2]?=some (.int .i64 (l[i].2.2:Nat))
 | x::l,0,_=>⟨rfl,rfl,rfl⟩
 | x::l,i+1,h=>by
  have hc:bJ (x::l)=[.int .i64 (x.1:Nat),.int .i64 (x.2.1:Nat),.int .i64 (x.2.2:Nat)]++bJ l:=rfl;have e:∀j,(bJ (x::l))[(i+1)*3+j]?=(bJ l)[i*3+j]?:=λj=>by rw[hc,IU (by simp;omega)];congr 1;simp;omega
  have h0:=Z4 l i (by simpa using h);have e0:=e 0;simp only[pN]at e0;rw[e0,e 1,e 2];exact h0
structure Low (w:World) (b:LB) (a:OA) (qb qp qh bp bm B0:Nat):Prop where
 q:qb<B0/\qp<B0/\qh<B0/\bp<B0/\bm<B0
 new:w.heap.size<=bp/\w.heap.size<=bm
 a:b≠[]->∀x∈ag a,x<B0
theorem En.up {S:LN} {w0:World} (h:En w b a cap qb qp qh bp bm i) (l:Low w0 b a qb qp qh bp bm B0) (f:Fr S w w') (hS:∀x∈S,B0<=x):En w' b a cap qb qp qh bp bm i:=by
 obtain⟨D,P,cnt,h1,r⟩:=h;obtain⟨l1,l2,l3,l4,l5⟩:=l.q;have no:∀x,x<B0->x∉S:=λx hx hm=>by have:=hS x hm;omega
 exact⟨D,P,cnt,⟨f.ag h1.vb (no _ l1),f.ag h1.vp (no _ l2),f.ag h1.vh (no _ l3),C4 h1.rd f (λhb x hx=>no x (l.a hb x hx)),KX h1.map (f.block _ h1.map.lt (no _ l5)),f.ag h1.row (no _ l4),h1.size,h1.np,h1.nm,h1.na⟩,r⟩
structure Ms (w wr:World) (b:LB) (a:OA) (cap qb qp qh bp bm B0 i:Nat) (l:List Mt) (ao:OA) (c:Nat):Prop where
 own:wr.ownsRow 0 410 3 (.slice ao l.length c) l.length (bJ l)
 en:En wr b a cap qb qp qh bp bm i
 fr:Fr [] w wr
 new:∀x∈ag ao,B0<=x
 low:Low w b a qb qp qh bp bm B0
 big:B0<=wr.heap.size
theorem Ms.cG {w2:World} (h:Ms w wr b a cap qb qp qh bp bm B0 i l ao c) (f:Fr [] wr w2):Ms w w2 b a cap qb qp qh bp bm B0 i l ao c:=
 ⟨dp h.own f (by simp),h.en.fr f,h.fr.trans f,h.new,h.low,bP h.big f.size⟩
theorem Ms.enter {w2:World} (h:Ms w wr b a cap qb qp qh bp bm B0 i l ao c) (f:Fr [bp,bm] wr w2) (e:En w2 b a cap qb qp qh bp bm j):Ms w w2 b a cap qb qp qh bp bm B0 j l ao c:=by
 obtain⟨l1,l2,l3,l4,l5⟩:=h.low.q;refine⟨dp h.own f λk hk hm=>?_,e,h.fr.step f λy hy=>?_,h.new,h.low,bP h.big f.size⟩
 ·have:=h.new k (by rw[<-cY ao l.length c,hk];simp);simp only[eX,mV,or_false]at hm;omega
 ·have:=h.low.new;simp only[eX,mV,or_false]at hy;right;omega
theorem qxh {r:Nat} (h3:i+3<=b.length):jg b r (k+1) i=(if 3<=(best b r i).1 then [(i,(best b r i).1,i-(best b r i).2)] else [])++jg b r k (i+step b r i):=by rw[jg,if_pos h3];split<;>rfl
def pG (w:World) (l:List Mt) (e:Ending) (w':World):Prop:=∃ao,e = .returned (.slice ao l.length l.length)/\Cs w' ao (bJ l)/\(ao=none->l.length=0)/\(∀x∈ag ao,x<w'.heap.size)/\Fr [] w w'
theorem vT:aw Tryz.prog 346 410 (.agg #[.int .i64 0,.int .i64 0,.int .i64 0]) 3 24:=aw.of Tryz.underlying346 (by kernel_rfl) rfl (by decide)
theorem Fj:aw Tryz.prog 348 3 (.int .i64 0) 1 8:=aw.of Tryz.underlying348 (by kernel_rfl) rfl (by decide)
theorem zd6 {w3:World} (h:Rd w a cap b)
  (iw:w3.ownsRow 0 3 1 (.slice (some ⟨w.heap.size+1+1+1,0,none⟩) b.length b.length) b.length (madeCells (Value.int .i64 0).cells (b.length*1)).toList)
  (iG:(((w.alloc (.cells #[.slice a b.length cap] 35)).alloc (.map #[] 0)).alloc (.cells #[.map (some (w.heap.size+1))] 406)).grownBy w3 none) :
  Ms w (w3.alloc (.cells #[.slice (some ⟨w.heap.size+1+1+1,0,none⟩) b.length b.length] 348)) b a cap w.heap.size w3.heap.size (w.heap.size+1+1) (w.heap.size+1+1+1) (w.heap.size+1) (w3.heap.size+1) 0 [] none 0:=by
 obtain⟨W0,Gz⟩:=ah (((w.alloc (.cells #[.slice a b.length cap] 35)).alloc (.map #[] 0)).alloc (.cells #[.map (some (w.heap.size+1))] 406));rw[<-Gz]at iG;have qM:W0.heap.size=w.heap.size+1+1+1:=by rw[Gz];simp only[ik]
 have f3:Fr [] W0 w3:=(Fr.refl [] W0).grown iG (λk hk=>by cases hk);have f0:Fr [] w W0:=by rw[Gz];exact (((Fr.refl [] w).alloc _).alloc _).alloc _
 have b0:W0.heap[w.heap.size]?=some (.cells #[.slice a b.length cap] 35 (0,0)):=by rw[Gz];exact alloc_old _ (alloc_old _ (aV w _))
 have b1:W0.heap[w.heap.size+1]?=some (.map #[] 0):=by rw[Gz];have:=aV (w.alloc (.cells #[.slice a b.length cap] 35)) (.map #[] 0);rw[ik]at this;exact alloc_old _ this
 have b2:W0.heap[w.heap.size+1+1]?=some (.cells #[.map (some (w.heap.size+1))] 406 (0,0)):=by rw[Gz];have:=aV ((w.alloc (.cells #[.slice a b.length cap] 35)).alloc (.map #[] 0)) (.cells #[.map (some (w.heap.size+1))] 406);rw[ik,ik]at this;exact this
 have rI:W0.ownsMap Tryz.prog 202 (plainElem (H:=Unit) Tryz.prog 3) (w.heap.size+1) 0 (.map []):=by have:=World.ownsMap_made (w.alloc (.cells #[.slice a b.length cap] 35)) Tryz.prog 202 (plainElem (H:=Unit) Tryz.prog 3);rw[ik]at this;rw[Gz];exact this.alloc _
 obtain⟨o1,o2⟩:=iw;rcases o2 with⟨o2,_⟩|⟨g,c',cur,o2,_,hg,_,_,cZ,_⟩
 ·cases o2
 ·simp only[kJ,fI,rB,and_true,true_and]at o2;obtain⟨rfl,rfl⟩:=o2;have bF:=lt_of_block hg;have f4:Fr [] w3 (w3.alloc (.cells #[.slice (some ⟨w.heap.size+1+1+1,0,none⟩) b.length b.length] 348)):=(Fr.refl [] w3).alloc _;have fall:=(f0.trans f3).trans f4;have f34:=f3.trans f4;refine⟨oE _ _ _ _,⟨.map [],cur,0,⟨f34.ag b0 (by simp),aV w3 _,f34.ag b2 (by simp),h.fr fall,KX rI (f34.block _ rI.lt (by simp)),f4.ag hg (by simp),by omega,⟨by omega,by omega,by omega,by omega⟩,⟨by omega,by omega,by omega⟩,λhb x hx=>?_⟩,ax _,qtu b,λj hj=>by omega⟩,fall,by simp[ag],⟨⟨by omega,by omega,by omega,by omega,by omega⟩,⟨by omega,by omega⟩,λhb x hx=>?_⟩,by rw[ik];exact ax _⟩
  ·have:=Hy h hb x hx;omega
  ·have:=Hy h hb x hx;omega
theorem Ms.push {w2:World} {a2:OA} {c2:Nat} (h:Ms w wr b a cap qb qp qh bp bm B0 i l ao c) (x:Mt) (o:Obj) (n:Nat) (hn:l.length=n)
  (A:aN (wr.alloc o) w2 410 3 (ag ao) a2 (n+1) c2 (bJ l++bJ [x])):Ms w w2 b a cap qb qp qh bp bm B0 i (l++[x]) a2 c2:=by
 have f1:Fr [] wr (wr.alloc o):=(Fr.refl [] wr).alloc o;have hz:(wr.alloc o).heap.size=wr.heap.size+1:=ik _ _;have nQ:=h.big;have ef:=h.low.new;have hlq:=h.low.q;have hs:=A.fr.size;refine⟨by rw[aG,BO,qpn,hn];exact A.own,(h.en.up h.low f1 (by simp)).up h.low A.fr h.new,(h.fr.trans f1).step A.fr λy hy=>.inr (by have:=h.new y hy;omega),λy hy=>?_,h.low,by omega⟩;rcases A.at_ y hy with k|k
 ·exact h.new y k
 ·omega
theorem qtt (b:LB) (a:OA) (cap:Nat) (reach:Int) (w:World) (h:Rd w a cap b) (hlen:b.length<=100000) :
  Calls Tryz.prog 240 #[.slice a b.length cap,.int .i64 reach] w (pG w (xV b reach)):=by
 have nj:=@run_makeMap Tryz.prog;obtain⟨L,hL⟩:=ah b.length;have hle:=h.le;obtain⟨r,hr⟩:∃r:Int,r=if 32768<reach then 32768 else reach:=⟨_,rfl⟩
 have AK:r<=32768:=by rw[hr];split<;>omega
 rw[<-hL]at hle hlen ⊢;have H:=aq h hL hr;obtain⟨hu,⟨ti,km,ur,im,q7⟩,sC,hp⟩:=Fj;clear h hL hr;go_enter Tryz.func240,Tryz.ntmps240;go_upto_block 0 with (first|(refine qsr r rfl _ _ _ rfl reach 32768 rfl rfl H.l2 ?_)|(refine wpList_make_full _ rfl _ _ 348 rfl 0 3 ti (.int .i64 0) 1 hu km ur im .i64 .i64 (L:Nat) (L:Nat) L rfl rfl rfl rfl (by rw[q7];omega) (by unfold maxLen;omega) (by omega) ?_;intro w3 iw iG;have H3:=ai iw iG;clear iw iG));obtain⟨qb,qp,qh,bp,bm,B0,w4,e1,e2,e3,e4,e5,e6,zn⟩:∃qb qp qh bp bm B0 w4,w4=w3.alloc (.cells #[.slice (some ⟨w.heap.size+1+1+1,0,none⟩) L L] 348)/\qp=w3.heap.size/\bp=w.heap.size+1+1+1/\qh=w.heap.size+1+1/\bm=w.heap.size+1/\qb=w.heap.size/\Ms w w4 b a cap qb qp qh bp bm B0 0 [] none 0:=by have:=zd6 H.o0 (by have h:=H3.o0;simp only[ik]at h;rw[<-H.o1];exact h) (by rw[<-H.o1];exact H3.l1);rw[<-H.o1]at this;exact⟨_,_,_,_,_,_,_,rfl,rfl,rfl,rfl,rfl,rfl,this⟩
 rw[<-e1,<-e3,<-e4,<-e5,<-e6,<-e2];obtain⟨M,hM⟩:=ah (xV b reach);obtain⟨R,hR⟩:=ah ((min reach 32768).toNat);have yZ:(0<r->([]:List Mt)++jg b R L 0=M)/\(r<=0->([]:List Mt)=M):=by
  have od:=H.l2;rw[hM,hR,H.o1];unfold xV;constructor
  ·intro h0;rw[if_pos (by rw[od]at h0;split at h0<;>omega)];rfl
  ·intro h0;rw[if_neg (by rw[od]at h0;split at h0<;>omega)]
 have VU:0<r->(R:Int)=r:=by have od:=H.l2;intro h0;rw[hR,od];rw[od]at h0;split at h0<;>split<;>omega
 have HS:=aq yZ zn hM;have HR:=af VU;clear e1 e2 e3 e4 e5 e6 zn yZ VU hM hR H3 hu km ur im q7 sC hp;go_wp2;go_loopg [5,9] L (λk s5 s9 wr=>∃(i c:Nat) (ao:OA) (l:List Mt),s5 = .slice ao l.length c/\s9 = .int .i64 (i:Nat)/\Ms w wr b a cap qb qp qh bp bm B0 i l ao c/\L<=i+k/\i<=L/\l.length<=i/\(0<r->l++jg b R k i=M)/\(r<=0->l=M));case atStart=>exact⟨0,0,none,[],rfl,rfl,HS.o1,by omega,eE _,ax _,HS.o0⟩
 case round=>
  obtain⟨i,c,ao,l,rfl,rfl,zn,cQ,hiL,uX,iQ,Mr⟩:=hrel;obtain⟨D,P,cnt,E,_⟩:=zn.en;have cb:=cell_of E.vb 0;simp only[dJ,dk]at cb;rw[<-H.o1]at cb;obtain⟨_,_,uQ,o1,o2,o3⟩:=Pv zn.own;simp only[kJ]at uQ;obtain⟨rfl,_,rfl⟩:=uQ;have hsl:=λw=>Up vT l.length ao c o1 w
  have Et:=af zn;have HO:=ai iQ Mr;clear zn iQ Mr E;have hmi:IntKind.i64.wrap ((i:Int)+3)=(i:Int)+3:=IntWalk.i64_in _ (by omega);by_cases h3:i+3<=L
  ·by_cases h0:0<r
   ·have d1:decide ((i:Int)+3<=L)=true:=by simp;omega
    obtain⟨k,rfl⟩:∃k,gk=k+1:=⟨gk-1,by omega⟩;have VU:=HR.out h0;obtain⟨wo,rfl⟩:∃wo:World,wo=wr:=⟨_,rfl⟩;obtain⟨⟨x1,x2⟩,hx⟩:∃x,x=best b R i:=⟨_,rfl⟩;have dW:b.length=L:=H.o1.symm;obtain⟨D,P,cnt,E,Ng,rI,ec⟩:=Et.out.en;have ch:=cell_of E.vh 0;simp only[dJ,dk]at ch;obtain⟨q0,AO⟩:=ah (last b i (three b i));have Cd:∀x,Calls Tryz.prog 288 #[.slice (Option.map (λx=>x.add i) a) (L-i) (cap-i)] (wo.drewN x) λe w'=>e = .returned (.int .u32 (three b i:Nat))/\∃n,w'=(wo.drewN x).drewN n:=λx=>by have:=qqh (bh a cap i 1) (cap-i) (b.drop i) (wo.drewN x) ((E.rd.drop i (by omega)).fr (Fr.drewN [] wo x)) (by rw[gN];omega);rw[gN,oq,qon (by omega),dW]at this;exact this
    have iF:∀x,(Instr.lookup 406 (.map (some bm)) (.int .u32 (three b i:Nat)) true).run Tryz.prog (wo.drewN x) = .ok (.tuple #[.int .i64 (pq q0).1,.bool (pq q0).2]) (wo.drewN x):=λx=>by have:=zea (KX E.map ((Fr.drewN [] wo x).block _ E.map.lt (by simp))) rI (SY b i);rw[<-AO]at this;exact this
    have uY:=SY b i;generalize three b i=kk at Cd iF uY;have HX:=aq hx dW AO;have HE:=ai E ec;have HTH:=af Cd;clear hx dW AO Cd E ec rI Ng;go_upto_region 9 with fail;go_quiet ((go_at_call 288;exact Calls.quiet_of (HTH.out _)));go_upto_block 2 with fail;clear iF uY ch;go_cut [10,11,12,14,15] from 42 to 73 (λs10 s11 s12 s14 s15 wz=>s10 = .int .i64 x1/\s11 = .int .i64 x2/\Fr [] wo wz)
    case first=>
     cases q0 with
     | none=>
      have iz:x1=0/\x2=0:=by have h1:=HX.out.1;unfold best at h1;rw[<-HX.out.2.2]at h1;simp only[gA,gq]at h1;exact h1
      obtain⟨rfl,rfl⟩:=iz;simp only[pq];go_wp2;refine wp_loop_rounds 1 ?_;rw[rounds_succ];go_wp2;go_meet;exact⟨rfl,rfl,Fr.drewN [] wo _⟩
     | some p0=>
      simp only[pq];go_wp2;go_loopg [10,11,12,14,15] 48 (λk s10 s11 s12 s14 s15 wz=>∃(n bb aa:Nat) (q:Option Nat),s10 = .int .i64 (bb:Nat)/\s11 = .int .i64 (aa:Nat)/\s12 = .int .i64 (pd q)/\s14 = .int .i64 (n:Nat)/\n+k=48/\(∀p,q=some p->p<i/\p+3<=L)/\gA b R i k q bb aa=(x1,x2)/\bb<=258/\Fr [] wo wz);case atStart=>exact⟨0,0,0,some p0,rfl,rfl,rfl,rfl,rfl,λp hp=>by have:=J9 b _ _ _ (HX.out.2.2.symm.trans hp);rw[HX.out.2.1]at this;exact⟨this.1,this.2.1⟩,by have h1:=HX.out.1;unfold best at h1;rw[<-HX.out.2.2]at h1;exact h1.symm,by omega,Fr.drewN [] wo _⟩
      case round=>
       obtain⟨n,bb,aa,q,rfl,rfl,rfl,rfl,hn,hq,cj,wu,hf⟩:=hrel;by_cases hn48:n<48
       ·obtain⟨k2,rfl⟩:∃k2,gk=k2+1:=⟨gk-1,by omega⟩;have d0:decide ((n:Int)<48)=true:=by simp;omega
        cases q with
        | none=>
         simp only[gA,gq]at cj;obtain⟨rfl,rfl⟩:=cj;simp only[pd];have HF:=af hf;clear hf hq;go_wp2;go_meet;exact⟨rfl,rfl,HF.out⟩
        | some p=>
         obtain⟨qt,jk⟩:=hq p rfl;simp only[pd];by_cases hrange:i-p<=R
         ·have d2:decide ((i:Int)-p<=r)=true:=by simp;omega
          have sH:=λw' h=>zcl a cap p i b w' h (by omega) (by rw[HX.out.2.1];omega)
          rw[HX.out.2.1]at sH;have yf:=(TB b p i (by rw[HX.out.2.1];omega)).1;have ki:=HE.l1 p qt (by rw[HX.out.2.1];exact jk);rw[zjn]at ki;have FF:∀p',last b p (three b p)=some p'->p'<i/\p'+3<=L:=λp' uS=>by have:=J9 b _ _ _ uS;rw[HX.out.2.1]at this;omega
          rw[gA,if_pos hrange]at cj;generalize last b p (three b p)=q' at ki FF cj;generalize alike b p i=al at sH yf cj;have E2:=HE.o0.fr hf;have JD:=cell_of E2.vb 0;have fx:=cell_of E2.vp 0;have Rk:=cell_of E2.row p;simp only[dJ,dk]at JD fx;rw[ki]at Rk;rw[HX.out.2.1]at JD fx;have HF:=aQ hf (sH _ E2.rd) FF E2 (Rk.trans rfl);have c9:wr.cell? ⟨bp,p,none⟩=some (.int .i64 (pd q')):=Rk;clear hf sH FF Rk E2 ki hq;by_cases hbest:bb<al
          ·have d3:decide (bb<al)=true:=by simpa using hbest
           rw[if_pos hbest]at cj;have WS:=af cj;clear cj;go_upto_region 14 with (go_at_call 289;refine HF.out.2.1.mono ?_;rintro e wy ⟨rfl,fy⟩;have xK:=fy.cell fx (by simp);have c10:=fy.cell c9 (by simp);have HY:=af fy;clear fy fx c9 JD);go_wp2;go_roundg k2;case measure=>omega
           case rel=>exact⟨n+1,al,p,q',rfl,rfl,rfl,by go_num,by omega,HF.out.2.2.1,WS.out,by omega,HF.out.1.trans HY.out⟩
          ·have d3:decide (bb<al)=false:=by simpa using hbest
           rw[if_neg hbest]at cj;have WS:=af cj;clear cj;go_upto_region 14 with (go_at_call 289;refine HF.out.2.1.mono ?_;rintro e wy ⟨rfl,fy⟩;have xK:=fy.cell fx (by simp);have c10:=fy.cell c9 (by simp);have HY:=af fy;clear fy fx c9 JD);go_wp2;go_roundg k2;case measure=>omega
           case rel=>exact⟨n+1,bb,aa,q',rfl,rfl,rfl,by go_num,by omega,HF.out.2.2.1,WS.out,by omega,HF.out.1.trans HY.out⟩
         ·have d2:decide ((i:Int)-p<=r)=false:=by simp;omega
          rw[gA,if_neg hrange]at cj;simp only[gq]at cj;obtain⟨rfl,rfl⟩:=cj;have HF:=af hf;clear hf hq;go_wp2;go_meet;exact⟨rfl,rfl,HF.out⟩
       ·obtain rfl:n=48:=by omega
        obtain rfl:gk=0:=by omega
        simp only[gA,gq]at cj;obtain⟨rfl,rfl⟩:=cj;have HF:=af hf;clear hf hq;go_wp2;go_meet;exact⟨rfl,rfl,HF.out⟩
    case rest=>
    obtain⟨rfl,rfl,hf⟩:=hcut;obtain⟨w5,rfl⟩:∃w5:World,w5=wc:=⟨_,rfl⟩;obtain⟨s,hs⟩:=ah (step b R i);obtain⟨nw,uy⟩:∃nw:List Mt,nw=if 3<=x1 then [(i,x1,i-x2)] else []:=⟨_,rfl⟩
    have DO:s=if 3<=x1 then x1 else 1:=by rw[hs];unfold step;rw[<-HX.out.1]
    have Nz:l++(nw++jg b R k (i+s))=M:=by have:=HO.o0 h0;rw[qxh (by rw[HX.out.2.1];exact h3),<-hs,<-HX.out.1,<-uy]at this;exact this
    have uA:3<=x1->x2<i/\i+x1<=L/\x1<=258:=λh=>by obtain⟨k1,k2,k3⟩:=ZJ b R i (by rw[<-HX.out.1];exact fM (by decide) h);rw[<-HX.out.1]at k1 k2 k3;obtain⟨m1,m2,_⟩:=TB b x2 i (by rw[HX.out.2.1];exact hiL);rw[<-k1]at m1 m2;rw[HX.out.2.1]at m2;exact⟨k2,m2,m1⟩
    have h5:=Et.out.cG hf;have Ha:=aA Nz DO h5 uy;have hsL:1<=s/\i+s<=L:=by
     rw[DO];split
     ·rename_i h;have:=uA h;omega
     ·omega
    have oW:nw.length<=1:=by rw[uy];split<;>simp
    clear Nz hs DO h5 hf uy;go_upto_if 74 with fail;go_cut [5,16] from 73 to 85 (λs5 s16 wz=>∃(a2:OA) (c2 n2:Nat),s5 = .slice a2 n2 c2/\s16 = .int .i64 (s:Nat)/\n2=(l++nw).length/\Ms w wz b a cap qb qp qh bp bm B0 i (l++nw) a2 c2)
    case first=>
     have DO:=Ha.o1;by_cases hb:3<=x1
     ·obtain⟨jR,mF,yh⟩:=uA hb;rw[if_pos hb]at DO;subst DO;have uy:=Ha.l3;rw[if_pos hb]at uy;have d3:decide ((3:Int)<=(s:Int))=true:=by simp;omega
      obtain⟨dd,hdd⟩:=ah (i-x2);rw[<-hdd]at uy;have hd:(i:Int)-(x2:Int)=(dd:Int):=by omega
      have HN:=af uy;obtain⟨N,hN⟩:=ah l.length;rw[<-hN]at uX ⊢;have WO:=af hN;clear uy uA hN hdd hsl o1;go_wp2_with (refine fq vT rfl _ _ rfl (.slice ao N c) N (bJ l) (ag ao) rfl (cY _ _ _) (by rw[WO.out];exact Ha.o2.own.alloc _) (some ⟨w5.heap.size,0,none⟩) 1 1 [.int .i64 i,.int .i64 s,.int .i64 dd] rfl (by omega) (by simp) (oC w5 _ _ _) rfl (by simp[Value.oneCell']) (by omega) (by unfold maxLen;omega) ?_;intro a2 c2 w6 A2;have HA:=af A2;clear A2);go_meet;refine⟨a2,c2,_,rfl,rfl,by rw[aG,HN.out,WO.out];rfl,?_⟩;rw[HN.out];exact Ha.o2.push _ _ N WO.out.symm HA.out
     ·rw[if_neg hb]at DO;subst DO;have uy:=Ha.l3;rw[if_neg hb]at uy;have HN:=af uy;have d3:decide ((3:Int)<=(x1:Int))=false:=by simp;omega
      clear uy uA;go_wp2;go_meet;exact⟨ao,c,_,rfl,rfl,by rw[HN.out,nX],by rw[HN.out,nX];exact Ha.o2⟩
    case rest=>
    obtain⟨a2,c2,n2,rfl,rfl,lv,h6⟩:=hcut;obtain⟨w6,rfl⟩:∃w6:World,w6=wc:=⟨_,rfl⟩;have H6:=ai h6 lv;clear h6 lv uA hsl cb;go_upto_block 4 with fail;go_wp2;go_loopg [9,86] s (λk s9 s86 wr=>∃j:Nat,s9 = .int .i64 ((i+j:Nat):Int)/\s86 = .int .i64 (j:Nat)/\j+k=s/\Ms w wr b a cap qb qp qh bp bm B0 (i+j) (l++nw) a2 c2);case atStart=>exact⟨0,rfl,rfl,by omega,H6.o0⟩
    case round=>
     obtain⟨j,rfl,rfl,hjs,h7⟩:=hrel;by_cases hj:j<s
     ·obtain⟨k2,rfl⟩:∃k2,gk=k2+1:=⟨gk-1,by omega⟩;have Cv:=zbi b a cap qb qp qh bp bm (i+j) wr h7.en (by rw[HX.out.2.1];omega) (by rw[HX.out.2.1];exact hlen);have H7:=ai h7 Cv;clear h7 Cv;go_wp2_with (go_at_call 287;refine H7.out.2.mono ?_;rintro e w8 ⟨rfl,f8,en8⟩;have H8:=ai f8 en8;clear f8 en8);go_roundg k2;case measure=>omega
      case rel=>exact⟨j+1,by go_num,by go_num,by omega,H7.out.1.enter H8.o0 H8.l1⟩
     ·obtain rfl:j=s:=by omega
      have H7:=af h7;clear h7;go_wp2;go_roundg k;case measure=>omega
      case rel=>exact⟨i+j,c2,a2,l++nw,by rw[H6.l1],rfl,H7.out,by omega,hsL.2,by rw[aG];omega,λ_=>by rw[fU];exact Ha.o0,λh=>by omega⟩
   ·have d1:decide ((i:Int)+3<=L)=true:=by simp;omega
    have d2:decide ((0:Int)<r)=false:=by simp;omega
    go_wp2;go_ret;exact⟨ao,by rw[<-HS.l2,<-HO.l1 (by omega)];rfl,by rw[<-HS.l2,<-HO.l1 (by omega)];exact Sf Et.out.own,λhn=>by rw[<-HS.l2,<-HO.l1 (by omega)];have:=o3 hn;omega,λx hx=>si Et.out.own (rz hx),Et.out.fr⟩
  ·have d1:decide ((i:Int)+3<=L)=false:=by simp;omega
   have hlM:l=M:=by
    by_cases h0:0<r
    ·have:=HO.o0 h0;cases gk with
     | zero=>rw[<-this,jg,nX]
     | succ k=>rw[<-this,jg,if_neg (by rw[<-H.o1];exact h3),nX]
    ·exact HO.l1 (by omega)
   have WQ:=af hlM;clear hlM;go_wp2;go_ret;exact⟨ao,by rw[<-HS.l2,<-WQ.out];rfl,by rw[<-HS.l2,<-WQ.out];exact Sf Et.out.own,λhn=>by rw[<-HS.l2,<-WQ.out];have:=o3 hn;omega,λx hx=>si Et.out.own (rz hx),Et.out.fr⟩
end mat
namespace defl
open Go Go.RowKit lib bm mat
variable {b:LB} {l:List Mt}
inductive Tok where
 | lit (c:UInt8)
 | mat (n d:Nat)
def br (b:LB) (i:Nat) (l:List Mt):List Tok:=
 if h:i<b.length then
  match l with
  | (a,n,d)::t=>if hc:a=i/\0<n then .mat n d::br b (i+n) t else .lit b[i]::br b (i+1) ((a,n,d)::t)
  | []=>.lit b[i]::br b (i+1) []
 else []
termination_by b.length-i
decreasing_by all_goals omega
theorem Pq {i:Nat} (h:b.length<=i):br b i l=[]:=by unfold br;rw[dif_neg (by omega)]
theorem Pr {i n d:Nat} {t:List Mt} (h:i<b.length) (hn:0<n):br b i ((i,n,d)::t) = .mat n d::br b (i+n) t:=by rw[br,dif_pos h];dsimp only;rw[dif_pos ⟨rfl,hn⟩]
theorem EY {i:Nat} (h:i<b.length) (hl:∀a n d t,l=(a,n,d)::t->a≠i):br b i l = .lit b[i]::br b (i+1) l:=by
 match l with
 | []=>rw[br,dif_pos h]
 | (a,n,d)::t=>rw[br,dif_pos h];dsimp only;rw[dif_neg (λhc=>hl a n d t rfl hc.1)]
theorem TF {r e:Nat}:∀{l:List Mt},cH b r e l->∀a n d t,l=(a,n,d)::t->a≠e->cH b r (e+1) l
 | (a',n',d')::t',h,a,n,d,t,he,bg=>by simp only[Ht,gq]at he;obtain⟨⟨rfl,rfl,rfl⟩,rfl⟩:=he;exact⟨by have:=h.1;omega,h.2⟩
theorem Kt (b:LB) (i:Nat) (l:List Mt):(br b i l).length<=b.length-i:=by
 obtain⟨k,hk⟩:=ah (b.length-i);induction k using Nat.strongRecOn generalizing i l with
 | ind k ih=>
  by_cases h:i<b.length
  ·match l with
   | []=>
    rw[EY h (λa n d t he=>by cases he)];have:=ih (b.length-(i+1)) (by omega) (i+1) [] rfl;simp only[dw];omega
   | (a,n,d)::t=>
    by_cases hc:a=i/\0<n
    ·obtain⟨rfl,hn⟩:=hc;rw[Pr h hn];have:=ih (b.length-(a+n)) (by omega) (a+n) t rfl;simp only[dw];omega
    ·rw[br,dif_pos h];dsimp only;rw[dif_neg hc];have:=ih (b.length-(i+1)) (by omega) (i+1) ((a,n,d)::t) rfl;simp only[dw];omega
  ·rw[Pq (by omega)];exact eE _
def vw (a al:OA) (bl cap ll cl:Nat) (lY iH:Value) (told:Bool):Value:=.agg #[.slice a bl cap,.slice al ll cl,lY,iH,.bool told]
theorem Zl (Bi:FuncId) (cv:AV) (eg:∀args w,(callFunc Bi args).run Tryz.prog w = .ok (.enter Bi args) w) (I:List Tok->List Nat->World->Prop) (F0:LN)
  (b:LB) (a al:OA) (cap cl r:Nat) (l:List Mt) (lY iH:Value) (told:Bool) (w:World) (DY:lY.oneCell'=true) (zu:iH.oneCell'=true)
  (hb:Rd w a cap b) (hl:Cs w al (bJ l)) (nn:l.length<=cl) (nL:al=none->cl=0) (kE:cl<=maxLen) (cj:cH b r 0 l) (hr:r<=32768) (gX:b.length<=1000000)
  (hF:∀x∈F0,x<w.heap.size/\x∉ag a/\x∉ag al)
  (hI0:∀w',Fr [] w w'->I [] F0 w')
  (FY:∀t F c w',t.length<b.length->I t F w'->Calls Tryz.prog Bi (#[.int .u8 (c:UInt8).toNat,.pointer none]++cv) w' λe w2=>e = .returned (.tuple #[])/\Fr F w' w2/\∃F',I (t++[.lit c]) F' w2/\∀y∈F',y∈F\/w'.heap.size<=y)
  (FV:∀t F n d g o w',t.length<b.length->I t F w'->3<=n->n<=258->1<=d->d<=32768->g∉F->w'.cell? ⟨g,o+1,none⟩=some (.int .i64 (n:Nat))->w'.cell? ⟨g,o+2,none⟩=some (.int .i64 (d:Nat))->
   Calls Tryz.prog Bi (#[.int .u8 0,.pointer (some ⟨g,o,none⟩)]++cv) w' λe w2=>e = .returned (.tuple #[])/\Fr F w' w2/\∃F',I (t++[.mat n d]) F' w2/\∀y∈F',y∈F\/w'.heap.size<=y) :
  Calls Tryz.prog 291 #[vw a al b.length cap l.length cl lY iH told,.func (.func Bi) #[] cv] w λe w'=>e = .returned (.tuple #[])/\Fr F0 w w'/\∃F,I (br b 0 l) F w'/\∀y∈F,y∈F0\/w.heap.size<=y:=by
 obtain⟨BL,lQ⟩:=ah b.length;obtain⟨LL,nA⟩:=ah l.length;rw[<-lQ]at gX FY FV ⊢;rw[<-nA]at nn ⊢;obtain⟨w1,aJ⟩:=ah (w.alloc (.cells #[.slice a BL cap,.slice al LL cl,lY,iH,.bool told] 350 (0,0)));have f1:Fr [] w w1:=by rw[aJ];exact (Fr.refl [] w).alloc _
 have gS:w1.heap.size=w.heap.size+1:=by rw[aJ,ik]
 have iU:w1.heap[w.heap.size]?=some (.cells #[.slice a BL cap,.slice al LL cl,lY,iH,.bool told] 350 (0,0)):=by rw[aJ];exact aV w _
 have HB:=pY (hb.fr f1) (hl.fr f1 (by simp)) cj iU gS f1 hF lQ nA;have HI:=aq (hI0 w1 f1) FY FV;have HW:=af aJ.symm;obtain⟨B,hB⟩:=ah w.heap.size;have Rz:=af hB;clear hb hl cj hF hI0 FY FV lQ nA aJ f1 gS iU hB;unfold vw;go_enter Tryz.func291,Tryz.ntmps291;go_upto_block 0 with fail;have VJ:cl<=9223372036854775807:=kE;rw[HW.out,<-Rz.out];go_wp2;go_loopg [4,5] BL (λgk s4 s5 wr=>∃(i k:Nat) (done:List Tok) (F:LN),s5 = .int .i64 (i:Nat)/\s4 = .int .i64 (k:Nat)/\gk=BL-i/\i<=BL/\k<=LL/\done++br b i (l.drop k)=br b 0 l/\done.length<=i/\cH b r i (l.drop k)/\I done F wr/\Fr F0 w1 wr/\∀y∈F,y∈F0\/w1.heap.size<=y);case atStart=>exact⟨0,0,[],F0,rfl,rfl,rfl,eE _,eE _,rfl,ax _,HB.out.2.2.1,HI.o0,.refl _ _,λy hy=>.inl hy⟩
 case round=>
  obtain⟨i,k,done,F,rfl,rfl,hk,tO,uz,cI,og,cj,hI,dM,pn⟩:=hrel;obtain⟨hb,hl,CC,iU,gS,f1,hF,lQ,nA⟩:=HB.out;have mv:=dM.ag iU (λhx=>by have:=(hF _ hx).1;omega);have c0:=cell_of mv 0;have c1:=cell_of mv 1;simp only[dJ,dk,dU]at c0 c1;rw[<-Rz.out]at c0 c1;have NL:B∉F:=λhx=>by
   have:=Rz.out;rcases pn B hx with q|q
   ·have:=(hF _ q).1;omega
   ·omega
  by_cases hi:i<BL
  ·have cN:i<b.length:=by rw[<-lQ];exact hi
   have Gq:=hb.uD dM λx hx mJ=>(hF x mJ).2.1 hx
   obtain⟨ga,oa,rfl,CD⟩:=Gq.cs.at (by rw[gx];omega);have d0:wr.cell? ⟨ga,oa+i,none⟩=some (.int .u8 (b[i]'cN).toNat):=CD i _ (by simp[cN,bv]);have AX:=hl.fr dM λx hx mJ=>(hF x mJ).2.2 hx
   by_cases hkk:k<LL
   ·have MR:k<l.length:=by rw[<-nA];exact hkk
    obtain⟨gl,ol,rfl,fX⟩:=AX.at (by rw[qi5];omega);obtain⟨m1,m2,m3⟩:=Z4 l k MR;have qW:=xg MR;obtain⟨m,hm⟩:=ah (l[k]);rw[<-hm]at m1 m2 m3 qW;obtain⟨x,n,d⟩:=m;simp only at m1 m2 m3;have p1:wr.cell? ⟨gl,ol+k*3,none⟩=some (.int .i64 x):=fX _ _ m1;have p2:wr.cell? ⟨gl,ol+k*3+1,none⟩=some (.int .i64 n):=fX _ _ m2;have p3:wr.cell? ⟨gl,ol+k*3+2,none⟩=some (.int .i64 d):=fX _ _ m3;rw[qW]at cI cj;have tP:gl∉F:=λhx=>by
     have h1:=hl.lt (by intro h;have:=congrArg List.length h;rw[qi5]at this;simp at this;omega) ⟨gl,ol,none⟩ rfl;rcases pn gl hx with q|q
     ·exact (hF gl q).2.2 (by simp[ag])
     ·have:=f1.size;simp only at h1;omega
    by_cases hxi:x=i
    ·subst hxi;obtain⟨h3,iB,h1,hdr,Ba,LK,_,rL⟩:3<=n/\n<=258/\1<=d/\d<=r/\d<=x/\x+n<=b.length/\True/\cH b r (x+n) (l.drop (k+1)):=⟨cj.2.1,cj.2.2.1,cj.2.2.2.1,cj.2.2.2.2.1,cj.2.2.2.2.2.1,cj.2.2.2.2.2.2.1,trivial,cj.2.2.2.2.2.2.2.2⟩;have cF:=HI.l2 done F n d gl (ol+k*3) wr (by omega) hI h3 iB h1 (by omega) tP p2 p3;have HJ:=eW cF dM pn cI rL og hk;have hxb:x+n<=1000000:=by omega
     have hxB:x+n<=BL:=by omega
     have xt:0<n:=by omega
     clear cF dM pn cI cj rL og hI hk hF CC hb hl AX fX CD Gq mv m1 m2 m3 qW hm LK h3 iB h1 hdr Ba gS f1 iU p3 lQ nA;go_wp2;refine HJ.out.1.mono ?_;rintro e w2 ⟨rfl,f2,F2,wH,rP⟩;have c1b:=f2.cell c1 NL;have p2b:=f2.cell p2 tP;have H2:=aq f2 wH rP;clear f2 wH rP NL tP c1 p2 c0 p1 eg;go_wp2;go_roundg (BL-(x+n));case measure=>have:=HJ.out.2.2.2.2.2.2;omega
     case rel=>
      obtain⟨_,dM,pn,cI,cj,og,hk⟩:=HJ.out;obtain⟨f2,wH,rP⟩:=H2.out;refine⟨x+n,k+1,done++[.mat n d],F2,by go_num,by go_num,rfl,hxB,by omega,?_,?_,cj,wH,dM.step f2 λy hy=>pn y hy,λy hy=>?_⟩
      ·rw[fU,<-cI,Pr cN xt];rfl
      ·rw[aG];simp only[dw,jK];omega
      ·rcases rP y hy with q|q
       ·exact pn y q
       ·exact .inr (bP dM.size q)
    ·have bg:((x:Int)==(i:Int))=false:=by simp only[beq_eq_false_iff_ne];omega
     have jZ:∀a n' d' t,(x,n,d)::l.drop (k+1)=(a,n',d')::t->a≠i:=λa n' d' t he=>by simp only[Ht,gq]at he;rw[<-he.1.1];exact hxi
     have rL:=TF (l:=(x,n,d)::l.drop (k+1)) cj _ _ _ _ rfl hxi;rw[EY cN jZ,<-qW]at cI;rw[<-qW]at rL;clear p2 p3 qW hm m1 m2 m3 tP hxi jZ cj fX;have cF:=HI.o1 done F (b[i]'cN) wr (by omega) hI;obtain⟨cc,pU⟩:=ah (b[i]'cN);rw[<-pU]at cF d0 cI;obtain⟨cn,ju⟩:=ah cc.toNat;rw[<-ju]at cF d0;have Vw:i+1<=BL:=hi;have hi6:i<=1000000:=by omega
     have HJ:=lf cF dM pn cI rL og hk uz;clear cF dM pn cI rL og hI hk hF CC hb hl AX CD Gq mv gS f1 iU lQ nA NL pU tO ju;go_wp2;refine HJ.out.1.mono ?_;rintro e w2 ⟨rfl,f2,F2,wH,rP⟩;have H2:=aq f2 wH rP;clear f2 wH rP c0 c1 d0 eg;go_wp2;go_roundg (BL-(i+1));case measure=>have:=HJ.out.2.2.2.2.2.2.1;omega
     case rel=>
      obtain⟨_,dM,pn,cI,cj,og,hk,uz⟩:=HJ.out;obtain⟨f2,wH,rP⟩:=H2.out;refine⟨i+1,k,done++[.lit cc],F2,by go_num,rfl,rfl,Vw,uz,?_,?_,cj,wH,dM.step f2 λy hy=>pn y hy,λy hy=>?_⟩
      ·rw[fU];exact cI
      ·rw[aG];simp only[dw,jK];omega
      ·rcases rP y hy with q|q
       ·exact pn y q
       ·exact .inr (bP dM.size q)
   ·have oW:l.drop k=[]:=Ax (by rw[<-nA];omega);have rL:cH b r (i+1) (l.drop k):=by rw[oW];trivial
    rw[EY cN (λa n' d' t he=>by rw[oW]at he;cases he)]at cI;clear cj oW;have cF:=HI.o1 done F (b[i]'cN) wr (by omega) hI;obtain⟨cc,pU⟩:=ah (b[i]'cN);rw[<-pU]at cF d0 cI;obtain⟨cn,ju⟩:=ah cc.toNat;rw[<-ju]at cF d0;have Vw:i+1<=BL:=hi;have hi6:i<=1000000:=by omega
    have HJ:=lf cF dM pn cI rL og hk uz;clear cF dM pn cI rL og hI hk hF CC hb hl AX CD Gq mv gS f1 iU lQ nA NL pU tO ju;go_wp2;refine HJ.out.1.mono ?_;rintro e w2 ⟨rfl,f2,F2,wH,rP⟩;have H2:=aq f2 wH rP;clear f2 wH rP c0 c1 d0 eg;go_wp2;go_roundg (BL-(i+1));case measure=>have:=HJ.out.2.2.2.2.2.2.1;omega
    case rel=>
     obtain⟨_,dM,pn,cI,cj,og,hk,uz⟩:=HJ.out;obtain⟨f2,wH,rP⟩:=H2.out;refine⟨i+1,k,done++[.lit cc],F2,by go_num,rfl,rfl,Vw,uz,?_,?_,cj,wH,dM.step f2 λy hy=>pn y hy,λy hy=>?_⟩
     ·rw[fU];exact cI
     ·rw[aG];simp only[dw,jK];omega
     ·rcases rP y hy with q|q
      ·exact pn y q
      ·exact .inr (bP dM.size q)
  ·have HJ:=aA hI dM pn cI;clear hI dM pn cI cj hF CC hb hl mv gS f1 iU lQ nA NL;go_wp2;(try simp only[Exit.inBlock,Exit.then]);refine bodyPost_end (results_none rfl _ _ _) rfl ?_;obtain⟨hI,dM,pn,cI⟩:=HJ.out;rw[Pq (by have:=HB.out.2.2.2.2.2.2.2.1;omega),nX]at cI;rw[cI]at hI;have hB:=Rz.out;exact⟨rfl,(HB.out.2.2.2.2.2.1.mono (by simp)).trans dM,F,hI,λy hy=>(pn y hy).imp id λq=>bP HB.out.2.2.2.2.2.1.size q⟩
end defl

end Go.Proofs.YticadfhpolhkeaaGreatDoor