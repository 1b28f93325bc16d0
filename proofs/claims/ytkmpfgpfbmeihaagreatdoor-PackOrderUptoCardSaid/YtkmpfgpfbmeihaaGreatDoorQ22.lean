/-
  Texts of this proof, one behind the other: OSortP, OIns, OSort, WrDel, WrOrd1, OOrd, OOrdA, DeltaShelf.
-/
import Derived.Test.YtkmpfgpfbmeihaaGreatDoorQ21
import Derived.Shelf.Bytes.SlIndexWhole
set_option maxHeartbeats 16000000
set_option maxRecDepth 100000
set_option linter.unusedVariables false
set_option linter.unusedSimpArgs false
namespace Go.Proofs.YtkmpfgpfbmeihaaGreatDoor
namespace os
open Go Go.RowKit lib bm
structure Mo where
 worth:Nat
 m:pk.OM
def swp (f:Nat->Mo) (x y:Nat):Nat->Mo:=λi=>if i=x then f y else if i=y then f x else f i
def aP (f:Nat->Mo) (a m b:Nat):Nat->Mo:=λt=>if a<=t/\t<a+(b-m) then f (t-a+m) else if a+(b-m)<=t/\t<b then f (t-(b-m)) else f t
theorem Ak {f:Nat->Mo} {a m b t:Nat} (h1:a<=t) (h2:t<a+(b-m)):aP f a m b t=f (t-a+m):=if_pos ⟨h1,h2⟩
theorem Bf {f:Nat->Mo} {a m b t:Nat} (h1:a+(b-m)<=t) (h2:t<b):aP f a m b t=f (t-(b-m)):=by unfold aP;rw[if_neg (by omega),if_pos ⟨h1,h2⟩]
theorem ui {f:Nat->Mo} {a m b t:Nat} (ha:a<=m) (hb:m<=b) (h:t<a\/b<=t):aP f a m b t=f t:=by unfold aP;rw[if_neg (by omega),if_neg (by omega)]
theorem FU (f:Nat->Mo) (a m b:Nat) (ha:a<=m) (hb:m<=b) (h:a=m\/m=b):aP f a m b=f:=by
 funext t;unfold aP;by_cases h1:a<=t/\t<a+(b-m)
 ·rw[if_pos h1];congr 1;omega
 ·rw[if_neg h1];by_cases h2:a+(b-m)<=t/\t<b
  ·rw[if_pos h2];congr 1;omega
  ·rw[if_neg h2]
theorem Sl (f:Nat->Mo) (i j:Nat) (hj:0<j) (iz:j<=i):swp (aP f j i (i+1)) j (j-1)=aP f (j-1) i (i+1):=by
 funext t;unfold swp;by_cases h1:t=j
 ·subst h1;rw[if_pos rfl,ui (by omega) (by omega) (.inl (by omega)),Bf (by omega) (by omega)];congr 1;omega
 ·rw[if_neg h1];by_cases h2:t=j-1
  ·subst h2;rw[if_pos rfl,Ak (by omega) (by omega),Ak (by omega) (by omega)];congr 1;omega
  ·rw[if_neg h2];by_cases h3:t<j-1\/i+1<=t
   ·rw[ui (by omega) (by omega) (by omega),ui (by omega) (by omega) h3]
   ·rw[Bf (by omega) (by omega),Bf (by omega) (by omega)]
def tg (x:Mo):Nat×Mo:=(x.worth,x)
def sg (f:Nat->Mo) (a n:Nat):List (Nat×Mo):=(List.range n).map λi=>tg (f (a+i))
theorem vV {f f':Nat->Mo} {a a' n:Nat} (h:∀t,t<n->f (a+t)=f' (a'+t)):sg f a n=sg f' a' n:=by unfold sg;exact D9 λt ht=>by rw[h t (td.1 ht)]
theorem Sv (f:Nat->Mo) (a n m:Nat):sg f a (n+m)=sg f a n++sg f (a+n) m:=by unfold sg;rw[List.range_add,gF,vW];congr 1;exact D9 λt _=>by simp[oW]
theorem nO (f:Nat->Mo) (a m b:Nat) (h1:a<=m) (h2:m<=b):sg f a (b-a)=sg f a (m-a)++sg f m (b-m):=by rw[show b-a=(m-a)+(b-m) from by omega,Sv,show a+(m-a)=m from by omega]
theorem Hy (f:Nat->Mo) (a:Nat):sg f a 1=[tg (f a)]:=rfl
theorem Ij (f:Nat->Mo) (a:Nat):sg f a 0=[]:=rfl
theorem sZ {f:Nat->Mo} {a n:Nat} {x:Nat×Mo}:x∈sg f a n↔∃t,t<n/\x=tg (f (a+t)):=by
 unfold sg;rw[jo];constructor
 ·rintro⟨t,ht,rfl⟩;exact⟨t,td.1 ht,rfl⟩
 ·rintro⟨t,ht,rfl⟩;exact⟨t,td.2 ht,rfl⟩
theorem DU {f:Nat->Mo} {a n:Nat}:huf.iE (sg f a n)↔∀i j,i<=j->j<n->(f (a+i)).worth<=(f (a+j)).worth:=by
 unfold huf.iE sg;rw[D6];constructor
 ·intro h i j mO hj;rcases kI i j with k|k
  ·have:=Ec.1 h i j (by simp;omega) (by simp;omega) k;simpa[tg] using this
  ·obtain rfl:i=j:=by omega
   exact ay _
 ·intro h;refine Ec.2 λi j hi hj mO=>?_
  simp only[Da]at hi hj;simpa[tg] using h i j (by omega) hj
theorem IB (f:Nat->Mo) (s m e:Nat) (h1:s<=m) (h2:m<=e):sg (aP f s m e) s (e-m)=sg f m (e-m):=
 vV λt ht=>by rw[Ak (by omega) (by omega)];congr 1;omega
theorem IE (f:Nat->Mo) (s m e:Nat) (h1:s<=m) (h2:m<=e):sg (aP f s m e) (s+(e-m)) (m-s)=sg f s (m-s):=
 vV λt ht=>by rw[Bf (by omega) (by omega)];congr 1;omega
theorem FT (f:Nat->Mo) (s m e a n:Nat) (h1:s<=m) (h2:m<=e) (h:a+n<=s\/e<=a):sg (aP f s m e) a n=sg f a n:=
 vV λt ht=>by rw[ui h1 h2 (by omega)]
structure Sd (f f':Nat->Mo) (a b:Nat):Prop where
 out:∀t,t<a\/b<=t->f' t=f t
 srt:huf.iE (sg f' a (b-a))
 stb:huf.fK (sg f' a (b-a)) (sg f a (b-a))
theorem Lk (f:Nat->Mo) (a i j:Nat) (ha:a<=j) (hj:j<=i) (hs:huf.iE (sg f a (i-a))) (h1:a<j->(f (j-1)).worth<=(f i).worth) (h2:j<i->(f i).worth<(f j).worth) :
  Sd f (aP f j i (i+1)) a (i+1):=by
 have gT:=DU.1 hs;have e0:sg (aP f j i (i+1)) a (i+1-a)=sg f a (j-a)++tg (f i)::sg f j (i-j):=by
  rw[nO _ a j (i+1) ha (by omega),FT _ _ _ _ _ _ hj (by omega) (.inl (by omega)),nO _ j (j+1) (i+1) (by omega) (by omega),show j+1-j=i+1-i from by omega,IB _ _ _ _ hj (by omega),show j+1=j+(i+1-i) from by omega,show i+1-(j+(i+1-i))=i-j from by omega,
   IE _ _ _ _ hj (by omega),show i+1-i=1 from by omega,Hy]
  rfl
 have e1:sg f a (i+1-a)=sg f a (j-a)++sg f j (i-j)++[tg (f i)]:=by rw[nO f a i (i+1) (by omega) (by omega),nO f a j i ha hj,show i+1-i=1 from by omega,Hy]
 have hp:=huf.qrf (x:=tg (f i)) (A1:=sg f a (j-a)) (A2:=sg f j (i-j)) (by rw[<-nO f a j i ha hj];exact hs)
  (λy hy=>by
   obtain⟨t,ht,rfl⟩:=sZ.1 hy
   refine ck (gT t (j-1-a) (by omega) (by omega)) ?_
   rw[show a+(j-1-a)=j-1 from by omega]
   exact h1 (by omega))
  (λy hy=>by
   obtain⟨t,ht,rfl⟩:=sZ.1 hy
   refine eW (h2 (by omega)) ?_
   have:=gT (j-a) (j-a+t) (by omega) (by omega)
   rwa [show a+(j-a)=j from by omega,show a+(j-a+t)=j+t from by omega]at this)
 exact⟨λt ht=>ui hj (by omega) (by omega),by rw[e0];exact hp.1,by rw[e0,e1];exact hp.2⟩
theorem K7 (f:Nat->Mo) (a b:Nat) (h:huf.iE (sg f a (b-a))):Sd f f a b:=⟨λ_ _=>rfl,h,.refl _⟩
theorem Sd.trans {f f' f2:Nat->Mo} {a b:Nat} (h:Sd f f' a b) (h':Sd f' f2 a b):Sd f f2 a b:=⟨λt ht=>(h'.out t ht).trans (h.out t ht),h'.srt,h'.stb.trans h.stb⟩
open pk
def Ow (w:World) (g:Nat) (T:TypeId) (A0:AV) (n:Nat) (f:Nat->Mo):Prop:=
 ∃A:Array Value,w.heap[g]?=some (.cells A T (0,0))/\A.size=A0.size/\5*n<=A.size/\(∀j,5*n<=j->A[j]?=A0[j]?)/\
  ∀i,i<n->∀j,j<5->A[i*5+j]?=(eK (f i).m.1 (f i).m.2.1 (f i).m.2.2)[j]?
def jN (A:AV) (x:Nat) (o:OM):Array Value:=((((A.setIfInBounds (x*5) (.int .i64 o.1.kind)).setIfInBounds (x*5+1) (.slice o.2.1 o.1.body.length o.2.2)).setIfInBounds (x*5+2) (.string (str o.1.id))).setIfInBounds (x*5+3) (.int .i64 o.1.at_)).setIfInBounds (x*5+4) (.int .u32 (o.1.crc:Nat))
theorem wI (A:AV) (x:Nat) (o:OM):(jN A x o).size=A.size:=by simp[jN]
theorem ze (A:AV) (x:Nat) (o:OM) (k:Nat) (h:k<x*5\/x*5+5<=k):(jN A x o)[k]?=A[k]?:=by unfold jN;rw[aX (by omega),aX (by omega),aX (by omega),aX (by omega),aX (by omega)]
theorem Vz (A:AV) (x:Nat) (o:OM) (hx:x*5+5<=A.size) (j:Nat) (hj:j<5):(jN A x o)[x*5+j]?=(eK o.1 o.2.1 o.2.2)[j]?:=by
 unfold jN;rcases (show j=0\/j=1\/j=2\/j=3\/j=4 by omega) with rfl|rfl|rfl|rfl|rfl
 ·rw[aX (by omega),aX (by omega),aX (by omega),aX (by omega),ie,iG (by omega)];rfl
 ·rw[aX (by omega),aX (by omega),aX (by omega),iG (by simp;omega)];rfl
 ·rw[aX (by omega),aX (by omega),iG (by simp;omega)];rfl
 ·rw[aX (by omega),iG (by simp;omega)];rfl
 ·rw[iG (by simp;omega)];rfl
theorem Ow.swap {g:Nat} {T:TypeId} {A0 A:AV} {n x y:Nat} {f:Nat->Mo} (w2:World) (p q:Mo)
  (hs:A.size=A0.size) (hn:5*n<=A.size) (ht:∀j,5*n<=j->A[j]?=A0[j]?)
  (hf:∀i,i<n->∀j,j<5->A[i*5+j]?=(eK (f i).m.1 (f i).m.2.1 (f i).m.2.2)[j]?)
  (hx:x<n) (hy:y<n) (pJ:x≠y) (hp:p=f x) (hq:q=f y)
  (h:w2.heap[g]?=some (.cells (jN (jN A x q.m) y p.m) T (0,0))):Ow w2 g T A0 n (swp f y x):=by
 refine⟨_,h,by rw[wI,wI];exact hs,by rw[wI,wI];exact hn,λj hj=>?_,λi hi j hj=>?_⟩
 ·rw[ze _ _ _ _ (.inr (by omega)),ze _ _ _ _ (.inr (by omega))];exact ht j hj
 ·unfold swp;by_cases h1:i=y
  ·subst h1;rw[if_pos rfl,<-hp,Vz _ _ _ (by rw[wI];omega) j hj]
  ·rw[if_neg h1,ze _ _ _ _ (by omega)];by_cases h2:i=x
   ·subst h2;rw[if_pos rfl,<-hq,Vz _ _ _ (by omega) j hj]
   ·rw[if_neg h2,ze _ _ _ _ (by omega)];exact hf i hi j hj
def Wk (f:Nat->Mo):Prop:=∀i,(f i).worth=key (f i).m.1/\(f i).m.1.id.length=40
theorem Wk.rot {f:Nat->Mo} (h:Wk f) (a m b:Nat):Wk (aP f a m b):=λi=>by
 unfold aP;split
 ·exact h _
 ·split<;>exact h _
theorem Wk.sd {f f':Nat->Mo} {a b:Nat} (h:Wk f) (s:Sd f f' a b):Wk f':=λi=>by
 by_cases hi:i<a\/b<=i
 ·rw[s.out i hi];exact h i
 ·have h1:tg (f' i)∈sg f' a (b-a):=sZ.2 ⟨i-a,by omega,by rw[show a+(i-a)=i from by omega]⟩;obtain⟨t,_,ht⟩:=sZ.1 ((s.stb.mem _).1 h1);have:=congrArg Prod.snd ht;simp only[tg]at this;rw[this];exact h _
theorem kH (f:Nat->Mo) (x y:Nat):swp f x y=swp f y x:=by funext i;unfold swp;split<;>split<;>simp_all
theorem Ow.fr {w w':World} {g:Nat} {T:TypeId} {A0:AV} {n:Nat} {f:Nat->Mo} (h:Ow w g T A0 n f) (k:Fr [] w w'):Ow w' g T A0 n f:=by obtain⟨A,h1,h2⟩:=h;exact⟨A,k.af h1 (by simp),h2⟩
theorem Ow.drew {w:World} {g:Nat} {T:TypeId} {A0:AV} {n:Nat} {f:Nat->Mo} (h:Ow w g T A0 n f):Ow w.drew g T A0 n f:=h.fr (Fr.av [] w)
theorem Ow.cells {w:World} {g:Nat} {T:TypeId} {A0:AV} {n:Nat} {f:Nat->Mo} (h:Ow w g T A0 n f) {i:Nat} (hi:i<n) :
  w.cell? ⟨g,i*5,none⟩=some (.int .i64 (f i).m.1.kind)/\w.cell? ⟨g,i*5+1,none⟩=some (.slice (f i).m.2.1 (f i).m.1.body.length (f i).m.2.2)/\w.cell? ⟨g,i*5+2,none⟩=some (.string (str (f i).m.1.id))/\w.cell? ⟨g,i*5+3,none⟩=some (.int .i64 (f i).m.1.at_)/\w.cell? ⟨g,i*5+4,none⟩=some (.int .u32 ((f i).m.1.crc:Nat)):=by
 obtain⟨A,h1,_,_,_,h2⟩:=h;exact⟨(cell_of h1 _).trans (h2 i hi 0 (by decide)),(cell_of h1 _).trans (h2 i hi 1 (by decide)),(cell_of h1 _).trans (h2 i hi 2 (by decide)),(cell_of h1 _).trans (h2 i hi 3 (by decide)),(cell_of h1 _).trans (h2 i hi 4 (by decide))⟩
theorem Sd.trans' {f f1 f2:Nat->Mo} {a i:Nat} (h:Sd f f1 a i) (h':Sd f1 f2 a (i+1)):Sd f f2 a (i+1):=by
 refine⟨λt ht=>(h'.out t ht).trans (h.out t (by omega)),h'.srt,h'.stb.trans ?_⟩;by_cases ha:a<=i
 ·rw[nO f1 a i (i+1) ha (by omega),nO f a i (i+1) ha (by omega)];refine huf.fK.append h.stb ?_;rw[vV (f:=f1) (f':=f) λt _=>h.out _ (by omega)];exact .refl _
 ·rw[show i+1-a=0 from by omega,Ij,Ij];exact .refl _
theorem NH (g:Nat) (T:TypeId) (A0:AV) (L cap a b:Nat) (f:Nat->Mo) (w:World)
  (h:Ow w g T A0 L f) (ha:a<=b) (GR:b<=L) (hL:L<=100000) (dH:Wk f) (R:Nat) (hR:jk w R) (AE:g≠R) :
  Calls Tryz.prog 107 #[.slice (some ⟨g,0,none⟩) L cap,.int .i64 (a:Nat),.int .i64 (b:Nat),tX R] w λe w'=>e = .returned (.tuple #[])/\∃f',Ow w' g T A0 L f'/\Sd f f' a b/\Fr [g] w w':=by
 have H:=aQ h dH ha hR AE;clear h dH hR AE;unfold tX;go_enter Tryz.func107,Tryz.ntmps107;go_wp2;go_loopg [8,9] (b-a) (λk s8 s9 wr=>∃i:Nat,s8 = .int .i64 (i:Nat)/\i+k=b+1/\a+1<=i/\∃f1,Ow wr g T A0 L f1/\Sd f f1 a (min i b)/\Fr [g] w wr);case atStart=>
  refine⟨a+1,by go_num,by have:=H.o2;omega,ay _,f,H.o0,K7 f a _ ?_,.refl _ w⟩;refine DU.2 λx y pJ hy=>?_
  obtain rfl:x=y:=by omega
  exact ay _
 case round=>
  obtain⟨i,rfl,bX,hai,f1,hD,hS,hf⟩:=hrel;by_cases hi:i<b
  ·obtain⟨k,rfl⟩:∃k,gk=k+1:=⟨gk-1,by omega⟩;rw[uP (by omega)]at hS;have BF:=H.o1.sd hS;obtain⟨wo,rfl⟩:∃wo:World,wo=wr:=⟨_,rfl⟩;have HX:=aQ hD hS hf BF bX;have Y2:i<L:=by omega
   have Mb:i<=100000:=by omega
   clear hD hS hf BF bX;go_wp2;go_loopg [9] (i-a) (λk s9 wr=>∃j:Nat,s9 = .int .i64 (j:Nat)/\j=k+a/\j<=i/\(j<i->(f1 i).worth<(f1 j).worth)/\Ow wr g T A0 L (aP f1 j i (i+1))/\Fr [g] w wr);case atStart=>exact⟨i,rfl,by omega,ay _,λh=>absurd h (by omega),by rw[FU f1 i i (i+1) (ay _) (by omega) (.inl rfl)];exact HX.o0,HX.o2⟩
   case round=>
    obtain⟨j,rfl,fx,iz,bg,hD,hf⟩:=hrel;by_cases hja:a<j
    ·obtain⟨k2,rfl⟩:∃k2,gk=k2+1:=⟨gk-1,by omega⟩;obtain⟨q,rfl⟩:∃q,j=q+1:=⟨j-1,by omega⟩;have x0:=Ak (f:=f1) (a:=q+1) (m:=i) (b:=i+1) (t:=q+1) (ay _) (by omega);rw[show q+1-(q+1)+i=i from by omega]at x0;have x1:=ui (f:=f1) (a:=q+1) (m:=i) (b:=i+1) (t:=q) (by omega) (by omega) (.inl (by omega));have d0:=λx=>(hD.drew.fr (dY [] wr.drew x)).cells (i:=q+1) (by omega)
     have d1:=λx=>(hD.drew.fr (dY [] wr.drew x)).cells (i:=q) (by omega)
     rw[x0]at d0;rw[x1]at d1;have b0:=HX.o3 i;have b1:=HX.o3 q;obtain⟨p,hp⟩:=ai (f1 i);obtain⟨r,hr⟩:=ai (f1 q);rw[<-hp]at b0 d0;rw[<-hr]at b1 d1;have HI:=cJ hp hr hD hf fx bg;clear hp hr fx bg x0 x1;have CA:=λx=>(d0 x).1
     have Cz:=λx=>(d0 x).2.1
     have d02:=λx=>(d0 x).2.2.1
     have d03:=λx=>(d0 x).2.2.2.1
     have d04:=λx=>(d0 x).2.2.2.2
     have d10:=λx=>(d1 x).1
     have d11:=λx=>(d1 x).2.1
     have d12:=λx=>(d1 x).2.2.1
     have d13:=λx=>(d1 x).2.2.2.1
     have d14:=λx=>(d1 x).2.2.2.2
     clear d0 d1;have EX:=zeg R p.m r.m wr.drew (((hf.drew).af H.o3 (by simp;exact kC H.l4))) b0.2 b1.2;simp only[eK]at EX;rw[<-b0.1,<-b1.1]at EX;have HCM:=ah EX;clear EX b0 b1 hD hf;have e0:((q+1:Nat):Int)-1=(q:Int):=by omega
     have g2:decide ((L:Int)<=((q+1:Nat):Int))=false:=by simp;omega
     have g4:decide ((L:Int)<=(q:Int))=false:=by simp;omega
     obtain⟨j,hj⟩:=ai (q+1);rw[<-hj]at CA Cz d02 d03 d04 e0 g2 iz hja ⊢;have HJ:=ah hj;clear hj;go_upto_region 4 with fail;refine j4 17 [(false,0),(false,1),(false,2),(false,3),(false,4),(false,5),(false,6),(false,7),(false,8),(false,9),(false,10),(false,11),(false,12),(false,13),(true,14),(false,15),(false,16)] [] (by kernel_rfl) (by kernel_rfl) (λ_ _ d _ _ h=>by cases d<;>exact h) ?_;simp only[jm];refine dT 14 rfl ?_;simp only[bD];repeat (go_big_quiet_step (fail))
     refine wpQuiet_nil ?_;refine eT rfl ?_;intro K hK;go_wp2_with (go_at_call 39;refine HCM.out.mono ?_;rintro e w1 ⟨rv,rfl,LZ,zx,wh,jT⟩);refine hK.out _ _ jT ?_;clear hK K CA Cz d02 d03 d04 d10 d11 d12 d13 d14 HCM;have H1:=ah jT;clear jT;by_cases hpr:p.worth<r.worth
     ·have g5:decide (rv<0)=true:=by simp;exact LZ.2 hpr
      refine dT 2 rfl ?_;simp only[bD];repeat (go_big_quiet_step (fail))
      refine wpQuiet_nil ?_;refine ic ?_;go_wp2;have hD:Ow w1 g T A0 L (aP f1 j i (i+1)):=by rw[HJ.out];exact (HI.out.2.2.1.drew).fr H1.out
      have mz:j<L:=by omega
      have qB:q<L:=by omega
      have pJ:j≠q:=by have:=HJ.out;omega
      obtain⟨A,hA,dW,nF,dZ,jG⟩:=hD;obtain⟨cx,lH⟩:=ai ((aP f1 j i (i+1)) j);obtain⟨cy,lX⟩:=ai ((aP f1 j i (i+1)) q);have X:=jG j mz;have Y:=jG q qB;rw[<-lH]at X;rw[<-lX]at Y;have d0:w1.cell? ⟨g,j*5,none⟩=some (.int .i64 cx.m.1.kind):=(cell_of hA (j*5)).trans (X 0 (by decide));have d1:w1.cell? ⟨g,j*5+1,none⟩=some (.slice cx.m.2.1 cx.m.1.body.length cx.m.2.2):=(cell_of hA (j*5+1)).trans (X 1 (by decide));have d2:w1.cell? ⟨g,j*5+2,none⟩=some (.string (str cx.m.1.id)):=(cell_of hA (j*5+2)).trans (X 2 (by decide));have d3:w1.cell? ⟨g,j*5+3,none⟩=some (.int .i64 cx.m.1.at_):=(cell_of hA (j*5+3)).trans (X 3 (by decide));have d4:w1.cell? ⟨g,j*5+4,none⟩=some (.int .u32 (cx.m.1.crc:Nat)):=(cell_of hA (j*5+4)).trans (X 4 (by decide));have d5:w1.cell? ⟨g,q*5,none⟩=some (.int .i64 cy.m.1.kind):=(cell_of hA (q*5)).trans (Y 0 (by decide));have d6:w1.cell? ⟨g,q*5+1,none⟩=some (.slice cy.m.2.1 cy.m.1.body.length cy.m.2.2):=(cell_of hA (q*5+1)).trans (Y 1 (by decide));have d7:w1.cell? ⟨g,q*5+2,none⟩=some (.string (str cy.m.1.id)):=(cell_of hA (q*5+2)).trans (Y 2 (by decide));have d8:w1.cell? ⟨g,q*5+3,none⟩=some (.int .i64 cy.m.1.at_):=(cell_of hA (q*5+3)).trans (Y 3 (by decide));have d9:w1.cell? ⟨g,q*5+4,none⟩=some (.int .u32 (cy.m.1.crc:Nat)):=(cell_of hA (q*5+4)).trans (Y 4 (by decide));have iF:=dk hA dW nF dZ jG lH lX;clear hA dW nF dZ jG lH lX X Y;go_upto_region 6 with fail;refine Iy [(0,0),(0,1),(0,2),(0,3),(0,4),(0,5),(0,6),(0,7),(0,8),(1,9),(0,10),(0,11),(0,12),(1,13),(0,14),(2,15),(0,16),(2,17)] [g] [15,17] (by kernel_rfl) (by kernel_rfl) (λ_ _ d _ _ h=>by cases d<;>exact h) ?_;simp only[gX,qq,Bq,Bp];refine nN 9 rfl ?_;simp only[bD];repeat (go_big_quiet_step (fail))
      refine wpQuiet_nil ?_;refine x5 1 rfl ?_;simp only[bD];repeat (go_big_quiet_step (fail))
      refine wpQuiet_nil ?_;refine nN 3 rfl ?_;simp only[bD];repeat (go_big_quiet_step (fail))
      refine wpQuiet_nil ?_;refine x5 1 rfl ?_;simp only[bD];repeat (go_big_quiet_step (fail))
      refine wpQuiet_nil ?_;refine nN 1 rfl ?_;simp only[bD];repeat (go_big_quiet_step (fail))
      refine wpQuiet_nil ?_;refine xZ rfl ?_;intro K hK;have z0:=aW iF.out.1 (j*5);have z1:=aW iF.out.1 (j*5+1);have z2:=aW iF.out.1 (j*5+2);have z3:=aW iF.out.1 (j*5+3);have z4:=aW iF.out.1 (j*5+4);go_wp2;refine hK.out _ _ (Fr.bA (((((((Fr.refl [g] w1).setCell (by simp) _).setCell (by simp) _).setCell (by simp) _).setCell (by simp) _).setCell (by simp) _).drew)) ?_;clear hK K z0 z1 z2 z3 z4;obtain⟨gV,dJ⟩:∃gV,gV=(((((w1.setCell ⟨g,j*5,none⟩ (.int .i64 cy.m.1.kind)).setCell ⟨g,j*5+1,none⟩ (.slice cy.m.2.1 cy.m.1.body.length cy.m.2.2)).setCell ⟨g,j*5+2,none⟩ (.string (str cy.m.1.id))).setCell ⟨g,j*5+3,none⟩ (.int .i64 cy.m.1.at_)).setCell ⟨g,j*5+4,none⟩ (.int .u32 (cy.m.1.crc:Nat))):=⟨_,rfl⟩;rw[<-dJ];have dI:gV.heap[g]?=some (.cells (jN A j cy.m) T (0,0)):=by rw[dJ];exact bI (bI (bI (bI (bI iF.out.1 _) _) _) _) _
      obtain⟨A1,hB⟩:=ai (jN A j cy.m);rw[<-hB]at dI;have z0:=aW dI (q*5);have z1:=aW dI (q*5+1);have z2:=aW dI (q*5+2);have z3:=aW dI (q*5+3);have z4:=aW dI (q*5+4);have c0:gV.cell? ⟨g,q*5,none⟩=some (.int .i64 cy.m.1.kind):=by rw[cell_of dI,hB,ze _ _ _ _ (by omega),<-cell_of iF.out.1];exact d5
      have c1:gV.cell? ⟨g,q*5+1,none⟩=some (.slice cy.m.2.1 cy.m.1.body.length cy.m.2.2):=by rw[cell_of dI,hB,ze _ _ _ _ (by omega),<-cell_of iF.out.1];exact d6
      have c2:gV.cell? ⟨g,q*5+2,none⟩=some (.string (str cy.m.1.id)):=by rw[cell_of dI,hB,ze _ _ _ _ (by omega),<-cell_of iF.out.1];exact d7
      have c3:gV.cell? ⟨g,q*5+3,none⟩=some (.int .i64 cy.m.1.at_):=by rw[cell_of dI,hB,ze _ _ _ _ (by omega),<-cell_of iF.out.1];exact d8
      have c4:gV.cell? ⟨g,q*5+4,none⟩=some (.int .u32 (cy.m.1.crc:Nat)):=by rw[cell_of dI,hB,ze _ _ _ _ (by omega),<-cell_of iF.out.1];exact d9
      have AL:=aw dI hB dJ;clear dI hB dJ d0 d1 d2 d3 d4 d5 d6 d7 d8 d9;refine nN 1 rfl ?_;simp only[bD];repeat (go_big_quiet_step (fail))
      refine wpQuiet_nil ?_;refine xZ rfl ?_;intro K hK;go_wp2;refine hK.out _ _ (Fr.bA (((((((Fr.refl [g] gV).setCell (by simp) _).setCell (by simp) _).setCell (by simp) _).setCell (by simp) _).setCell (by simp) _).drew)) ?_;clear hK K z0 z1 z2 z3 z4 c0 c1 c2 c3 c4;refine Il ?_;obtain⟨w2,bL⟩:∃w2,w2=(((((gV.setCell ⟨g,q*5,none⟩ (.int .i64 cx.m.1.kind)).setCell ⟨g,q*5+1,none⟩ (.slice cx.m.2.1 cx.m.1.body.length cx.m.2.2)).setCell ⟨g,q*5+2,none⟩ (.string (str cx.m.1.id))).setCell ⟨g,q*5+3,none⟩ (.int .i64 cx.m.1.at_)).setCell ⟨g,q*5+4,none⟩ (.int .u32 (cx.m.1.crc:Nat))):=⟨_,rfl⟩;rw[<-bL];have HZ:Hid (Ow w2 g T A0 L (swp (aP f1 j i (i+1)) q j)/\Fr [g] w1 w2):=by
       obtain⟨hA,dW,nF,dZ,jG,lH,lX⟩:=iF.out;obtain⟨dI,hB,dJ⟩:=AL.out;have jv:w2.heap[g]?=some (.cells (jN A1 q cx.m) T (0,0)):=by rw[bL];exact bI (bI (bI (bI (bI dI _) _) _) _) _
       rw[hB]at jv;exact ah ⟨Ow.swap _ cx cy dW nF dZ jG mz qB pJ lH lX jv,by rw[bL,dJ];exact (((((((((((Fr.refl [g] w1).setCell (by simp) _).setCell (by simp) _).setCell (by simp) _).setCell (by simp) _).setCell (by simp) _).setCell (by simp) _).setCell (by simp) _).setCell (by simp) _).setCell (by simp) _).setCell (by simp) _)⟩
      clear bL;go_wp2;go_roundg k2;case measure=>have:=HI.out.2.2.2.2.1;omega
      case rel=>
       obtain⟨hp,hr,hD,hf,fx,bg⟩:=HI.out;have hj:=HJ.out;refine⟨q,by go_num,by omega,by omega,λ_=>by rw[<-hp,<-hr];exact hpr,?_,?_⟩
       ·have:=HZ.o0;have e:=Sl f1 i (q+1) (by omega) (by omega);rw[Ir]at e;rw[hj,kH,e]at this;exact this.drew
       ·exact ((hf.drew).trans (H1.out.mono (by simp))).trans HZ.l1.drew
     ·have g5:decide (rv<0)=false:=by simp;have:=mt LZ.1 hpr;omega
      refine dT 2 rfl ?_;simp only[bD];repeat (go_big_quiet_step (fail))
      refine wpQuiet_nil ?_;refine ic ?_;go_wp2;go_roundg k;case measure=>have:=HX.l4;omega
      case rel=>obtain⟨hp,hr,hD,hf,fx,bg⟩:=HI.out;have hj:=HJ.out;have bX:=HX.l4;refine⟨i+1,by go_num,by omega,by omega,aP f1 j i (i+1),by rw[hj];exact hD.drew.fr H1.out,?_,(hf.drew).trans (H1.out.mono (by simp))⟩;rw[uP (by omega)];exact HX.o1.trans' (Lk f1 a i j (by omega) iz HX.o1.srt (λ_=>by rw[show j-1=q from by omega,<-hr,<-hp];omega) (λh=>by rw[hj]at h ⊢;exact bg h))
    ·have Ju:j=a:=by omega
     have HI:=aw hD hf bg;have g5:decide ((a:Int)<(j:Int))=false:=by simp;omega
     have HJ:=ah Ju;clear hD hf bg fx Ju;go_upto_region 4 with fail;refine j4 17 [(false,0),(false,1),(false,2),(false,3),(false,4),(false,5),(false,6),(false,7),(false,8),(false,9),(false,10),(false,11),(false,12),(false,13),(true,14),(false,15),(false,16)] [] (by kernel_rfl) (by kernel_rfl) (λ_ _ d _ _ h=>by cases d<;>exact h) ?_;simp only[jm];refine dT 14 rfl ?_;simp only[bD];repeat (go_big_quiet_step (fail))
     repeat (go_big_quiet_step (fail))
     refine wpQuiet_nil ?_;refine Nf rfl ?_;simp only[Act.put,nR,oD,nP];refine dT 2 rfl ?_;simp only[bD];repeat (go_big_quiet_step (fail))
     refine wpQuiet_nil ?_;refine ic ?_;go_wp2;go_roundg k;case measure=>have:=HX.l4;omega
     case rel=>obtain⟨hD,hf,bg⟩:=HI.out;have bX:=HX.l4;have Ju:=HJ.out;refine⟨i+1,by go_num,by omega,by omega,aP f1 j i (i+1),hD.drew,?_,hf.drew⟩;rw[uP (by omega)];exact HX.o1.trans' (Lk f1 a i j (by omega) iz HX.o1.srt (λh=>absurd h (by omega)) bg)
  ·have HI:=aw hD hS hf;have e:min i b=b:=by omega
   rw[e]at hS;clear hD hf e bX;have HS:=ah hS;clear hS;go_wp2;(try simp only[Exit.inBlock,Exit.then]);refine bodyPost_end (results_none rfl _ _ _) rfl ?_;exact⟨rfl,f1,HI.out.1,HS.out,HI.out.2.2⟩
def xN (N:Nat):Prop:=∀(g:Nat) (A0:AV) (L cap:Nat) (f:Nat->Mo) (w:World) (R:Nat),Ow w g 34 A0 L f->L<=N->Wk f->jk w R->g≠R->
 Calls Tryz.prog 38 #[.slice (some ⟨g,0,none⟩) L cap,tX R] w λe w'=>e = .returned (.tuple #[])/\∃f',Ow w' g 34 A0 L f'/\Sd f f' 0 L/\Fr [g] w w'
set_option maxRecDepth 100000
theorem qyb (g:Nat) (T:TypeId) (A0:AV) (L cap:Nat) (f:Nat->Mo) (w:World) (R:Nat)
  (h:Ow w g T A0 L f) (hL:L<=20) (dH:Wk f) (hR:jk w R) (AE:g≠R) :
  Calls Tryz.prog 70 #[.slice (some ⟨g,0,none⟩) L cap,.int .i64 (L:Nat),tX R] w λe w'=>e = .returned (.tuple #[])/\∃f',Ow w' g T A0 L f'/\Sd f f' 0 L/\Fr [g] w w':=by
 have H:=aG h dH hR AE;clear h dH hR AE;unfold tX;go_enter Tryz.func70,Tryz.ntmps70;go_wp2;go_loopg [7,8] 1 (λk s7 s8 wr=>∃a:Nat,s7 = .int .i64 (a:Nat)/\s8 = .int .i64 ((a+20:Nat):Nat)/\a+20*k=20/\(a=0\/(a=20/\L=20))/\∃f1,Ow wr g T A0 L f1/\Wk f1/\Fr [g] w wr/\((a=0/\f1=f)\/(a=20/\Sd f f1 0 L)));case atStart=>exact⟨0,rfl,rfl,by omega,.inl rfl,f,H.o0,H.o1,.refl _ w,.inl ⟨rfl,rfl⟩⟩
 case round=>
  obtain⟨a,rfl,rfl,hk,ha,f1,hD,dH,hf,hs⟩:=hrel;have rY:=show jk wr R from hf.af H.o2 (by simp;exact kC H.l3)
  obtain⟨b,hb⟩:=ai (a+20);rw[<-hb];by_cases xD:b<=L
  ·have hi:=NH g T A0 L cap a b f1 wr hD (by omega) xD (by omega) dH R rY H.l3;unfold tX at hi;have HI:=dk hi dH hf hk ha hb hs;clear hi dH hf hk ha hb hs hD rY;go_wp2_with (go_at_call 107;refine HI.out.1.mono ?_;rintro e w2 ⟨rfl,f2,fZ,dE,gD⟩;have HW:=aw fZ dE gD;clear fZ dE gD);obtain⟨_,dH,hf,hk,ha,hb,hs⟩:=HI.out;obtain⟨fZ,dE,gD⟩:=HW.out;have ha0:a=0:=by omega
   go_roundg 0;case measure=>omega
   case rel=>
    refine⟨b,rfl,by go_num,by omega,.inr (by omega),f2,fZ,dH.sd dE,hf.trans gD,.inr ⟨by omega,?_⟩⟩;rcases hs with⟨_,h1⟩|⟨h1,_⟩
    ·rw[<-h1];have e1:b=L:=by omega
     rw[ha0,e1]at dE;exact dE
    ·omega
  ·have hi:=NH g T A0 L cap a L f1 wr hD (by omega) (ay _) (by omega) dH R rY H.l3;unfold tX at hi;have HI:=dk hi dH hf hk ha hb hs;clear hi dH hf hk ha hb hs hD rY;go_wp2_with (go_at_call 107;refine HI.out.1.mono ?_;rintro e w2 ⟨rfl,f2,fZ,dE,gD⟩;have HW:=aw fZ dE gD;clear fZ dE gD);go_loopg [6,7,8,9] 0 (λk s6 s7 s8 s9 wr=>s6 = .int .i64 20/\wr=w2);case atStart=>exact⟨rfl,rfl⟩
   case round=>
   obtain⟨rfl,pb⟩:=hrel;have pb:=pb.symm;subst pb;have g0:decide ((20:Int)<(L:Int))=false:=by simp;omega
   go_wp2;(try simp only[Exit.inBlock,Exit.then]);refine bodyPost_end (results_none rfl _ _ _) rfl ?_;obtain⟨_,dH,hf,hk,ha,hb,hs⟩:=HI.out;obtain⟨fZ,dE,gD⟩:=HW.out;refine⟨rfl,f2,fZ,?_,hf.trans gD⟩;rcases hs with⟨h1,h2⟩|⟨h1,h2⟩
   ·rw[<-h2];rw[h1]at dE;exact dE
   ·refine h2.trans ⟨λt ht=>dE.out t (by omega),?_,?_⟩
    ·have e:f2=f1:=by
      funext t;rcases kI t L with h3|h3
      ·exact dE.out t (.inl (by omega))
      ·exact dE.out t (.inr h3)
     rw[e];exact h2.srt
    ·have e:f2=f1:=by
      funext t;rcases kI t L with h3|h3
      ·exact dE.out t (.inl (by omega))
      ·exact dE.out t (.inr h3)
     rw[e];exact .refl _
theorem VI:xN 20:=λg A0 L cap f w R h hL dH hR AE=>by have H:=ah (qyb g 34 A0 L cap f w R h hL dH hR AE);unfold tX at H ⊢;clear h dH hR AE;go_enter Tryz.func38,Tryz.ntmps38;go_wp2_with (go_at_call 70;refine H.out.mono ?_;rintro e w2 ⟨rfl,fZ⟩);(try simp only[Exit.inBlock,Exit.then]);refine bodyPost_end (results_none rfl _ _ _) rfl ?_;exact⟨rfl,fZ⟩
end os
namespace pk
open Go Go.RowKit lib bm huf
theorem zgx (lq:FuncId) (cv:AV) (eg:∀args w,(callFunc lq args).run Tryz.prog w = .ok (.enter lq args) w) (a:OA) (c:Nat) (aK:List OM) (w:World) (h:gU w a c aK) (hl:aK.length<=1000000)
  (fU:∀m∈aK,∀w',Fr [] w w'->Calls Tryz.prog lq (#[.agg (eK m.1 m.2.1 m.2.2)]++cv) w' λe w2=>e = .returned (.bool false)/\Fr [] w' w2) :
  Calls Tryz.prog 64 #[.slice a aK.length c,.func (.func lq) #[] cv] w λe w'=>e = .returned (.int .i64 (-1))/\Fr [] w w':=by
 obtain⟨n,hn⟩:=ai aK.length;rw[<-hn]at hl ⊢;have H:=aw h hn fU;clear h hn fU;go_enter Tryz.func64,Tryz.ntmps64;go_wp2;go_loopg [8] n (λk s8 wr=>∃i:Nat,s8 = .int .i64 (i:Nat)/\i+k=n/\Fr [] w wr);case atStart=>exact⟨0,rfl,by omega,Fr.refl _ _⟩
 case round=>
  obtain⟨i,rfl,bX,hf⟩:=hrel;by_cases hi:i<n
  ·obtain⟨k,rfl⟩:∃k,gk=k+1:=⟨gk-1,by omega⟩;obtain⟨m,hm⟩:∃m,aK[i]?=some m:=⟨aK[i]'(by rw[<-H.out.2.1];omega),br _⟩;obtain⟨g,o,rfl,hc⟩:=(H.out.1.fr hf).cell hm;have bw:=H.out.2.2 m (gB hm) wr hf;obtain⟨⟨kd,bs,id,at_,crc⟩,ba,bc⟩:=m;simp only[eK]at bw;have c0:=hc 0 (.int .i64 kd) rfl;have c1:=hc 1 (.slice ba bs.length bc) rfl;have c2:=hc 2 (.string (str id)) rfl;have c3:=hc 3 (.int .i64 at_) rfl;have c4:=hc 4 (.int .u32 crc) rfl;rw[ie]at c0;have HC:=ak bw hf;clear bw hf hc hm;go_wp2;refine HC.o0.mono ?_;rintro e w2 ⟨rfl,f2⟩;have H2:=ah f2;clear f2 c0 c1 c2 c3 c4 eg;go_wp2;go_roundg k;case measure=>omega
   case rel=>exact⟨i+1,rfl,by omega,HC.l1.trans H2.out⟩
  ·obtain rfl:i=n:=by omega
   have HF:=ah hf;clear hf;go_wp2;go_ret;exact⟨rfl,HF.out⟩
theorem zd8 (lq:FuncId) (cv:AV) (eg:∀args w,(callFunc lq args).run Tryz.prog w = .ok (.enter lq args) w) (a:OA) (c:Nat) (aK:List OM) (w:World) (h:gU w a c aK) (hl:aK.length<=1000000)
  (fU:∀m∈aK,∀w',Fr [] w w'->Calls Tryz.prog lq (#[.agg (eK m.1 m.2.1 m.2.2)]++cv) w' λe w2=>e = .returned (.bool false)/\Fr [] w' w2) :
  Calls Tryz.prog 32 #[.slice a aK.length c,.func (.func lq) #[] cv] w λe w'=>e = .returned (.slice a aK.length c)/\Fr [] w w':=by
 have hi:=zgx lq cv eg a c aK w h hl fU;clear h hl fU eg;go_enter Tryz.func32,Tryz.ntmps32;go_wp2_with (go_at_call 64;refine hi.mono ?_;rintro e w2 ⟨rfl,f2⟩;have H2:=ah f2;clear f2);go_ret;exact⟨rfl,H2.out⟩
theorem qwk (a:OA) (c:Nat) (aK:List OM) (w:World) (h:gU w a c aK) (hl:aK.length<=1000000) (hg:∀m∈aK,xO m.1) (hp:obj.Pw w) :
  Calls Tryz.prog 31 #[.slice a aK.length c] w λe w'=>∃a2 c2,e = .returned (.slice a2 aK.length c2)/\Made w w' 34 5 a2 aK.length c2 (aK.flatMap oL):=by
 have hc:=zhe a c aK w h hl;have JB:∀a2 c2 w2,Made w w2 34 5 a2 aK.length c2 (aK.flatMap oL)->Calls Tryz.prog 32 #[.slice a2 aK.length c2,.func (.func 61) #[] #[]] w2 λe w'=>e = .returned (.slice a2 aK.length c2)/\Fr [] w2 w':=λa2 c2 w2 M=>
  zd8 61 #[] (λ_ _=>by kernel_rfl) a2 c2 aK w2 ⟨y9 M.own,M.le,M.max,M.nil,λm hm=>(h.rd m hm).fr M.fr⟩ hl
   (λm hm w' f=>qs6 m w' (hg m hm) ((h.rd m hm).fr (M.fr.trans f)) (hp.fr (M.fr.trans f)))
 obtain⟨n,hn⟩:=ai aK.length;rw[<-hn]at hc JB ⊢;have H:=ak hc JB;clear hc JB h hl hg hp hn;go_enter Tryz.func31,Tryz.ntmps31;go_wp2_with (first
  | (go_at_call 60;refine H.o0.mono ?_;rintro e w2 ⟨a2,c2,rfl,M⟩;have H2:=ah M;clear M)
  | (go_at_call 32;refine (H.l1 _ _ _ H2.out).mono ?_;rintro e w3 ⟨rfl,f3⟩;have H3:=ah f3;clear f3))
 go_ret;exact⟨a2,c2,rfl,H2.out.eG H3.out⟩
set_option maxRecDepth 100000
theorem zit (a:OA) (n c:Nat) (w:World) (hle:n<=c) (dK:c<=maxLen):Calls Tryz.prog 42 #[.slice a n c] w λe w'=>e = .returned (.slice a n n)/\w'=w:=by
 go_enter Tryz.func42,Tryz.ntmps42;go_wp2;all_goals go_ret
 all_goals exact⟨by first|rfl|simp,rfl⟩
theorem V2:Tryz.prog.underlying 75=some (.map 9 4):=by kernel_rfl
theorem qxq (w:World):(zeroValue 4).run Tryz.prog w = .ok (.bool false) w:=by kernel_rfl
abbrev Seen (w:World) (b n:Nat) (D:DataW Unit):Prop:=w.ownsMap Tryz.prog 9 (plainElem Tryz.prog 4) b n D
theorem qol {v:Value} {z:DataW Unit×List MemPlace} (h:plainElem Tryz.prog 4 v=some z):∃b,v = .bool b/\z=(.lit (.bool b),[]):=by unfold plainElem at h;rw[show Tryz.prog.underlying 4=some .bool from Tryz.underlying4]at h;cases v<;>simp at h;exact⟨_,rfl,h.symm⟩
theorem Vp (id:LB) (h:id.length<=1000000):keyOf Tryz.prog 9 (.string (str id))=some (.string id):=by have:=WideMaps.keyOf_string_mk (P:=Tryz.prog) Tryz.underlying9 (s:=str id) (by rw[quv];unfold maxLen;omega);exact this
theorem qra (w:World):Seen (w.alloc (.map #[] 0)) w.heap.size 0 (.map []):=World.ownsMap_made w _ _ _
end pk
namespace os
open Go Go.RowKit lib bm pk
def ff (w:World) (B:Nat) (ids:List (List UInt8)):Prop:=∃n D,n<=ids.length/\Seen w B n D/\∀id:List UInt8,D.atKey (.string id) (.lit (.bool false)) = .lit (.bool (decide (id∈ids)))
theorem ff.fr {w w':World} {B:Nat} {ids:List (List UInt8)} (h:ff w B ids) (f:Fr [] w w'):ff w' B ids:=by obtain⟨n,D,h1,h2,h3⟩:=h;exact⟨n,D,h1,FR h2 f (by simp),h3⟩
theorem ff.gJ {S:LN} {w w':World} {B:Nat} {ids:List (List UInt8)} (h:ff w B ids) (f:Fr S w w') (hB:B∉S):ff w' B ids:=by obtain⟨n,D,h1,h2,h3⟩:=h;exact⟨n,D,h1,FR h2 f hB,h3⟩
theorem ff.at_ {w:World} {B:Nat} {ids:List (List UInt8)} (h:ff w B ids):jJ w B:=by obtain⟨n,D,_,⟨es,clock,h1,_⟩,_⟩:=h;exact⟨es,clock,h1⟩
theorem ff.look {w:World} {B:Nat} {ids:List (List UInt8)} (h:ff w B ids) (id:LB) (hid:id.length<=1000000):(Instr.lookup 75 (.map (some B)) (.string (str id)) false).run Tryz.prog w = .ok (.bool (decide (id∈ids))) w:=by obtain⟨n,D,_,h2,h3⟩:=h;obtain⟨v,ps,xe,hv⟩:=h2.lookup Dc V2 (qxq w) (plainElem_bool Tryz.underlying4 false) (Vp id hid);obtain⟨c,rfl,hc⟩:=qol hv;rw[h3]at hc;simp only[fj,DataW.lit.injEq,Lit.bool.injEq]at hc;rw[xe,hc.1]
theorem ff.put {w w':World} {B n:Nat} {D:DataW Unit} {ids:List (List UInt8)} {id:LB} (h1:n<=ids.length) (h2:Seen w B n D) (h3:∀id:List UInt8,D.atKey (.string id) (.lit (.bool false)) = .lit (.bool (decide (id∈ids)))) (h:Seen w' B (n+1) (D.put (.string id) (.lit (.bool true)))):ff w' B (ids++[id]):=by
 refine⟨n+1,_,by simp;exact h1,h,λx=>?_⟩;by_cases hx:x=id
 ·subst hx;rw[Maps.atKey_put_same h2.isMap (by first|trivial|simp[WideAt.IsKeyLit])];simp
 ·rw[Maps.atKey_put_other (by simp;exact hx),h3];simp[hx]
theorem qs4 (w:World):ff (w.alloc (.map #[] 0)) w.heap.size []:=⟨0,.map [],ay _,qra w,λid=>by rw[Maps.atKey_of_not_has rfl];simp⟩
structure DD (l r:List pk.Obj):Prop where
 ne:r.Pairwise λa b=>a.id≠b.id
 sub:∀o∈r,o∈l
 all:∀o∈l,∃o'∈r,o'.id=o.id
theorem DD.nil:DD [] []:=⟨.nil,by simp,by simp⟩
theorem DD.more {l r:List pk.Obj} {o:pk.Obj} (h:DD l r) (hn:o.id∉r.map (·.id)):DD (l++[o]) (r++[o]):=by
 refine⟨?_,λx hx=>?_,λx hx=>?_⟩
 ·rw[Ea];refine⟨h.ne,by simp,λa ha b hb=>?_⟩;simp only[iH]at hb;subst hb;intro e;exact hn (by rw[<-e];exact uL ha)
 ·rcases jw.1 hx with hx|hx
  ·exact F9 _ (h.sub x hx)
  ·exact Lo _ hx
 ·rcases jw.1 hx with hx|hx
  ·obtain⟨y,hy,e⟩:=h.all x hx;exact⟨y,F9 _ hy,e⟩
  ·simp only[iH]at hx;exact⟨o,by simp,by rw[hx]⟩
theorem DD.same {l r:List pk.Obj} {o:pk.Obj} (h:DD l r) (hn:o.id∈r.map (·.id)):DD (l++[o]) r:=by
 refine⟨h.ne,λx hx=>F9 _ (h.sub x hx),λx hx=>?_⟩;rcases jw.1 hx with hx|hx
 ·exact h.all x hx
 ·simp only[iH]at hx;subst hx;obtain⟨y,hy,e⟩:=jo.1 hn;exact⟨y,hy,e⟩
theorem key_inj {x y:pk.Obj} (hx:x.id.length=40) (hy:y.id.length=40) (h:key x=key y):x.id=y.id:=by
 have h1:=crc.FA x.id;have h2:=crc.FA y.id;rw[hx]at h1;rw[hy]at h2;unfold key at h;have hp:0<256^40:=by decide
 have h3:=congrArg (·%256^40) h;simp only[mf _ (256^40),Nat.mul_add_mod,x9 h1,x9 h2]at h3;exact qvu _ _ (hx.trans hy.symm) h3
theorem qr8 {α:Type} (k:Nat):∀l:List (Nat×α),(l.Pairwise λa b=>a.1≠b.1)->(l.filter λx=>x.1==k).length<=1
 | [],_=>by simp
 | x::t,h=>by
  rw[tq]at h;rw[KV];by_cases hx:x.1=k
  ·have h2:t.filter (λx=>x.1==k)=[]:=by rw[List.filter_eq_nil_iff];intro y hy;have:=h.1 y hy;simp;omega
   rw[if_pos (by simp[hx]),h2];simp
  ·rw[if_neg (by simp[hx])];exact qr8 k t h.2
theorem qq3 {α:Type}:∀l:List (Nat×α),huf.iE l->(∀k,(l.filter λx=>x.1==k).length<=1)->l.Pairwise λa b=>a.1<b.1
 | [],_,_=>.nil
 | x::t,h,hf=>by
  unfold huf.iE at h;rw[tq]at h ⊢;refine⟨λy hy=>?_,qq3 t h.2 λk=>?_⟩
  ·have h1:=h.1 y hy;rcases kI x.1 y.1 with h2|h2
   ·exact h2
   ·have e:x.1=y.1:=by omega
    have h3:=hf x.1;rw[KV,if_pos (by simp),bU]at h3;have h4:y∈t.filter (λz=>z.1==x.1):=Hz.2 ⟨hy,by simp[e]⟩;have h5:=List.length_pos_of_mem h4;omega
  ·have h1:=hf k;rw[KV]at h1;split at h1
   ·rw[bU]at h1;omega
   ·exact h1
structure Ordered (l r:List pk.Obj):Prop where
 lt:r.Pairwise λa b=>key a<key b
 sub:∀o∈r,o∈l
 all:∀o∈l,∃o'∈r,o'.id=o.id
def dum:pk.Obj:=⟨0,[],List.replicate 40 0,0,0⟩
def mo (m:OM):Mo:=⟨key m.1,m⟩
def xI (ms:List OM):Nat->Mo:=λi=>mo (ms[i]?.getD (dum,none,0))
theorem KX {ms:List OM} {i:Nat} {m:OM} (h:ms[i]?=some m):xI ms i=mo m:=by simp[xI,h]
theorem zhj {ms:List OM} (h:∀m∈ms,m.1.id.length=40):Wk (xI ms):=λi=>by
 unfold xI mo;refine⟨rfl,?_⟩;rcases kI i ms.length with k|k
 ·rw[br k];exact h _ (tk _)
 ·rw[nU k];rfl
theorem zh2 {w:World} {a:OA} {c:Nat} {ms:List OM} (h:w.ownsRow 0 34 5 (.slice a ms.length c) ms.length (ms.flatMap oL)) (h0:0<ms.length) :
  ∃g A0,a=some ⟨g,0,none⟩/\A0.size=c*5/\c<=maxLen/\ms.length<=c/\Ow w g 34 A0 ms.length (xI ms):=by
 rcases h.2 with⟨_,h1⟩|⟨g,c',cur,h1,_,h2,h3,h4,h5,h6⟩
 ·omega
 ·simp only[mV]at h1;obtain⟨rfl,_,rfl⟩:=h1;refine⟨g,cur,rfl,h5,h4,h3,cur,h2,rfl,by omega,λ_ _=>rfl,λi hi j hj=>?_⟩;obtain⟨m,hm⟩:∃m,ms[i]?=some m:=⟨_,br hi⟩;rw[KX hm];have h7:=congrArg (λl=>l[i*5+j]?) h6;simp only[oX]at h7;rw[if_pos (by omega),oY,Iu oL 5 (λ_=>rfl) ms i m j hm hj]at h7;rw[h7];unfold oL mo;rw[oY]
theorem ze7 {w:World} {g n c:Nat} {A0:AV} {f:Nat->Mo} (h:Ow w g 34 A0 n f):Cs w (some ⟨g,0,none⟩) (((List.range n).map λi=>(f i).m).flatMap oL):=by
 obtain⟨A,h1,_,h3,_,h4⟩:=h;refine .inr ⟨g,0,rfl,λk v hk=>?_⟩;have hl:=(jq.1 hk).1;rw[IA,bW,Da]at hl;have hi:k/5<n:=by omega
 have hr:((List.range n).map λi=>(f i).m)[k/5]?=some (f (k/5)).m:=by simp[hi]
 have e:=Iu oL 5 (λ_=>rfl) _ (k/5) _ (k%5) hr (wH _ (by decide));rw[show k/5*5+k%5=k by omega,hk]at e;have e2:=h4 (k/5) hi (k%5) (wH _ (by decide));rw[show k/5*5+k%5=k by omega]at e2;rw[ft,cell_of h1,e2,e];unfold oL;rw[oY]
open huf
structure OI (w wr:World) (B R i:Nat) (aK:List OM) (a2:OA) (c2:Nat) (bB:List OM):Prop where
 own:wr.ownsRow 0 34 5 (.slice a2 bB.length c2) bB.length (bB.flatMap oL)
 seen:ff wr B (bB.map (·.1.id))
 fr:Fr [] w wr
 gi:jk wr R
 nB:w.heap.size<=B/\w.heap.size<=R/\B<wr.heap.size/\R<wr.heap.size
 new:∀y∈af a2,w.heap.size<=y/\y≠B/\y≠R
 bod:∀m∈bB,m.2.2=m.1.body.length/\lib.Rd wr m.2.1 m.2.2 m.1.body/\∀y∈af m.2.1,w.heap.size<=y/\y<wr.heap.size/\y≠B/\y∉af a2
 dd:DD ((aK.take i).map (·.1)) (bB.map (·.1))
 nil:bB.length=0->a2=none/\c2=0
 few:bB.length<=i
theorem OI.dQ {w wr w2:World} {B R i:Nat} {aK bB:List OM} {a2:OA} {c2:Nat} (h:OI w wr B R i aK a2 c2 bB) (f:Fr [] wr w2):OI w w2 B R i aK a2 c2 bB:=
 ⟨dr h.own f (by simp),h.seen.fr f,h.fr.trans f,f.af h.gi (by simp),⟨h.nB.1,h.nB.2.1,eW h.nB.2.2.1 f.size,eW h.nB.2.2.2 f.size⟩,h.new,λm hm=>⟨(h.bod m hm).1,(h.bod m hm).2.1.fr f,λy hy=>⟨((h.bod m hm).2.2 y hy).1,eW ((h.bod m hm).2.2 y hy).2.1 f.size,((h.bod m hm).2.2 y hy).2.2⟩⟩,h.dd,h.nil,h.few⟩
theorem OI.name {w wr w2:World} {B R i:Nat} {aK bB:List OM} {a2:OA} {c2:Nat} (h:OI w wr B R i aK a2 c2 bB) (f:Fr [B] wr w2) :
  w2.ownsRow 0 34 5 (.slice a2 bB.length c2) bB.length (bB.flatMap oL)/\Fr [] w w2/\jk w2 R/\(∀m∈bB,lib.Rd w2 m.2.1 m.2.2 m.1.body):=by
 have hRB:R≠B:=by obtain⟨es,clock,h1⟩:=h.seen.at_;have h2:=h.gi;unfold jk at h2;rintro rfl;rw[h1]at h2;cases h2
 exact⟨dr h.own f (λk hk=>by have h1:k∈af a2:=(by rw[<-dD a2 bB.length c2,hk];simp);simp;exact (h.new k h1).2.1),h.fr.step f (λy hy=>.inr (by simp at hy;rw[hy];exact h.nB.1)),f.af h.gi (by simp;exact hRB),λm hm=>(h.bod m hm).2.1.gJ f (λy hy=>by simp;exact ((h.bod m hm).2.2 y hy).2.2.1)⟩
set_option maxRecDepth 100000
theorem ND (N:Nat) (hN:N<=1000) (oH:xN N) (a:OA) (c:Nat) (aK:List OM) (w:World) (h:gU w a c aK) (hl:aK.length<=1000) (hdd:∀r,DD (aK.map (·.1)) r->r.length<=N) (hb:∀m∈aK,m.1.body.length<=65536) (hid:∀m∈aK,m.1.id.length=40) :
  Calls Tryz.prog 17 #[.slice a aK.length c] w λe w'=>∃a2 bB,e = .returned (.slice a2 bB.length bB.length)/\gU w' a2 bB.length bB/\(∀y∈af a2,w.heap.size<=y/\y<w'.heap.size)/\(∀m∈bB,m.2.2=m.1.body.length/\∀y∈af m.2.1,w.heap.size<=y/\y<w'.heap.size)/\Fr [] w w'/\Ordered (aK.map (·.1)) (bB.map (·.1))/\bB.length<=aK.length:=by
 have lF:=λw'=>run_makeMap (P:=Tryz.prog) 75 w'
 obtain⟨n,hn⟩:=ai aK.length;rw[<-hn]at hl ⊢;have H:=cJ h hn hb hid oH hdd;clear h hn hb hid oH hdd;go_enter Tryz.func17,Tryz.ntmps17;go_upto_block 0 with fail;generalize cP:World.alloc _ _=w1;obtain⟨R,hR⟩:=ai w.heap.size;obtain⟨B,hB⟩:=ai (R+1);rw[<-hR,<-hB];have h1:OI w w1 B R 0 aK none 0 []:=by
  have e:w1=(w.alloc (.cells #[.func (.func 36) #[] #[]] 78)).alloc (.map #[] 0):=cP.symm;have hs:=qs4 (w.alloc (.cells #[.func (.func 36) #[] #[]] 78));rw[fD,<-hR,<-hB,<-e]at hs;have f1:Fr [] w w1:=by rw[e];exact ((Fr.refl [] w).alloc _).alloc _
  have hr:jk w1 R:=by rw[e,hR];exact qm _ (bC w _)
  have cV:w1.heap.size=w.heap.size+1+1:=by rw[e,fD,fD]
  exact⟨wM _ _ _ _,hs,f1,hr,⟨by omega,by omega,by omega,by omega⟩,by simp[af],by simp,DD.nil,λ_=>⟨rfl,rfl⟩,ay _⟩
 have H1:=aw h1 hR hB;clear h1 cP hR hB lF;go_wp2;go_loopg [5,11] n (λk s5 s11 wr=>∃(i:Nat) (a2:OA) (c2:Nat) (bB:List OM),s11 = .int .i64 (i:Nat)/\s5 = .slice a2 bB.length c2/\i+k=n/\OI w wr B R i aK a2 c2 bB);case atStart=>exact⟨0,none,0,[],rfl,rfl,by omega,H1.o0⟩
 case round=>
  obtain⟨i,a2,c2,bB,rfl,rfl,bX,hI⟩:=hrel;obtain⟨n2,jM⟩:=ai bB.length;rw[<-jM];by_cases hi:i<n
  ·obtain⟨k,rfl⟩:∃k,gk=k+1:=⟨gk-1,by omega⟩;obtain⟨m,hm⟩:∃m,aK[i]?=some m:=⟨aK[i]'(by rw[<-H.out.2.1];exact hi),br _⟩;have lF:=gB hm;obtain⟨g,o,rfl,hc⟩:=(H.out.1.fr hI.fr).cell hm;have di:=H.out.1.rd m lF;have vu:=H.out.2.2.1 m lF;have GA:=H.out.2.2.2.1 m lF;have cH:aK.take (i+1)=aK.take i++[m]:=by rw[zj,hm];rfl
   obtain⟨⟨kd,bs,id,at_,crc⟩,ba,bc⟩:=m;simp only at di vu GA;have c0:=hc 0 (.int .i64 kd) rfl;have c1:=hc 1 (.slice ba bs.length bc) rfl;have Ke:=hc 2 (.string (str id)) rfl;have c3:=hc 3 (.int .i64 at_) rfl;have c4:=hc 4 (.int .u32 crc) rfl;simp only[ie]at c0;obtain⟨bl,bQ⟩:=ai bs.length;rw[<-bQ]at c1;have HI:=lv hI jM bX di vu GA bQ cH;have zbR:n2<=1000:=by have:=hI.few;omega
   clear hI jM di vu GA bQ hc hm lF cH;go_upto_region 7 with (guard_target =~ wpList _ _ _ (⟨_,Op.store _ _ _,_,_,_,_⟩::_) _ _;refine wpList_store_row rfl 34 (.tmp 7) (.tmp 14) rfl wr.heap.size #[.int .i64 kd,.slice ba bl bc,.string (str id),.int .i64 at_,.int .u32 crc] rfl rfl 34 _ (bC _ _) nk rfl (by kernel_rfl) ?_);clear c0 c1 Ke c3 c4;simp only[Act.put];generalize bL:World.setRow _ _ _=w2;obtain⟨X,hX⟩:=ai wr.heap.size;rw[<-hX]at bL ⊢;have kt:w2.heap[X]?=some (.cells #[.int .i64 kd,.slice ba bl bc,.string (str id),.int .i64 at_,.int .u32 crc] 34 (0,0)):=by rw[<-bL,hX];exact setRow_heap _ _ _ _ _ _ (bC _ _)
   have f2:Fr [] wr w2:=by rw[<-bL,hX];exact ((Fr.refl [] wr).alloc _).setRow (.inr (ay _)) _
   have mP:=HI.out.1.dQ f2;have zG:=mP.seen.look id (by have:=HI.out.2.2.2.2.2.1;omega);have hXn:w.heap.size<=X/\X≠B/\(∀y∈af a2,y≠X)/\X=wr.heap.size/\X<w2.heap.size:=⟨by rw[hX];exact HI.out.1.fr.size,by have:=HI.out.1.nB.2.2.1;omega,λy hy=>by have:=rr HI.out.1.own (qi hy);omega,hX,lt_of_block kt⟩;have x1:=cell_of kt 1;have x2:=cell_of kt 2;simp only[bF,aT,bP]at x1 x2;have H2:=aw kt mP hXn;clear kt f2 mP hXn bL hX;by_cases dP:id∈bB.map (·.1.id)
   ·rw[decide_eq_true dP]at zG;go_wp2;go_roundg k;case measure=>have:=HI.out.2.2.1;omega
    case rel=>obtain⟨kt,mP,_⟩:=H2.out;refine⟨i+1,a2,c2,bB,by go_num,by rw[HI.out.2.1],by have:=HI.out.2.2.1;omega,mP.own,mP.seen,mP.fr,mP.gi,mP.nB,mP.new,mP.bod,?_,mP.nil,by have:=mP.few;omega⟩;rw[HI.out.2.2.2.2.2.2.2,gF];exact mP.dd.same (by rw[vW];exact dP)
   ·rw[decide_eq_false dP]at zG;obtain⟨n0,D,pL,hS,bR⟩:=H2.out.2.1.seen;have zbV:n0<=1000:=by have h1:=HI.out.2.1;rw[bW]at pL;omega
    have HS:=aG hS pL bR dP;clear hS pL bR dP;go_upto_region 9 with (at_mapUpdate;refine wpList_mapUpdate_own _ rfl _ _ _ 75 rfl 9 4 Dc V2 (plainElem Tryz.prog 4) B n0 D rfl HS.out.1 (by unfold maxLen;omega) _ _ (.string id) rfl rfl (Vp id (by have:=HI.out.2.2.2.2.2.1;omega)) (.lit (.bool true)) [] (plainElem_bool Tryz.underlying4 true) ?_;intro w3 sD PS;have H3:=ak sD ((Fr.refl [B] w2).grown PS (λk e=>.inl (by simp only[eJ]at e;simp[e])));clear sD PS);clear zG x2;have Gj:=H3.out.2.af H2.out.1 (by simp;exact H2.out.2.2.2.1);have x1:=H3.out.2.cell x1 (by simp;exact H2.out.2.2.2.1);have jL:=ff.put HS.out.2.1 HS.out.1 HS.out.2.2.1 H3.out.1;obtain⟨kJ,f13,RD,UE⟩:=H2.out.2.1.name H3.out.2;have fU:=za4 ba bc bs w3 (HI.out.2.2.2.1.fr f13) (by have:=HI.out.2.2.2.2.1;omega);unfold CW at fU;rw[<-HI.out.2.2.2.2.2.2.1]at fU;have HC:=dk fU Gj f13 kJ RD UE jL;clear fU Gj f13 kJ RD UE jL;go_upto_region 10 with (first
     | (go_at_call 37;refine HC.out.1.mono ?_;rintro e w4 ⟨b3,c3,rfl,r3,l3,m3,n3,f4⟩;have x1:=f4.cell x1 (by simp);have z4:=aW (f4.af HC.out.2.1 (by simp)) 1;have H4:=aQ r3 n3 f4 l3 m3;clear r3 n3 f4 l3 m3)
     | (go_at_call 29;refine (M3 b3 bl c3 _ H4.o3 H4.l4).mono ?_;rintro e w5 ⟨rfl,hw⟩;obtain rfl:=hw.symm))
    clear z4 x1;generalize pg:World.setCell _ _ _=w5;have LO:=H4.o2.af HC.out.2.1 (by simp);have X6:w5.heap[X]?=some (.cells #[.int .i64 kd,.slice b3 bl bl,.string (str id),.int .i64 at_,.int .u32 crc] 34 (0,0)):=by rw[<-pg];exact bI LO _
    have f5:Fr [X] w4 w5:=by rw[<-pg];exact (Fr.refl [X] w4).setCell (by simp) _
    have f35:Fr [X] w3 w5:=(H4.o2.mono (by simp)).trans f5;have QJ:Fr [] w w5:=HC.out.2.2.1.step f35 (λy hy=>by have:=H2.out.2.2.1;simp at hy;right;omega);have ju:∀y∈af b3,w3.heap.size<=y/\y<w5.heap.size/\y≠X:=λy hy=>by have h1:=(H4.o1 y hy).1;have h2:=(H4.o1 y hy).2;have h4:=lt_of_block HC.out.2.1;have h5:=f5.size;exact⟨by omega,by omega,by omega⟩
    have Tx:lib.Rd w5 b3 bl bs:=by have h1:=H4.o0;have h2:=h1.gJ f5 (λy hy=>by simp;exact (ju y hy).2.2);exact⟨h2.cs,by rw[HI.out.2.2.2.2.2.2.1];exact ay _,ck H4.o3 H4.l4,λh=>by have:=h2.nil h;have:=H4.o3;omega⟩
    have uT:=dr HC.out.2.2.2.1 f35 (λk hk=>by have h1:k∈af a2:=(by rw[<-dD a2 bB.length c2,hk];simp);simp;exact H2.out.2.2.2.2.1 k h1);have Zp:Cs (w5.alloc (.cells #[.int .i64 kd,.slice b3 bl bl,.string (str id),.int .i64 at_,.int .u32 crc] 34)) (some ⟨w5.heap.size,0,none⟩) (oL (⟨kd,bs,id,at_,crc⟩,b3,bl)):=
     .inr ⟨w5.heap.size,0,rfl,λj u hj=>by
      rw[cell_of (bC w5 _),ft,<-oY]
      unfold oL eK at hj
      rw[<-HI.out.2.2.2.2.2.2.1]at hj
      exact hj⟩
    have cT:=dr uT ((Fr.refl [] w5).alloc (.cells #[.int .i64 kd,.slice b3 bl bl,.string (str id),.int .i64 at_,.int .u32 crc] 34)) (by simp);rw[<-HI.out.2.1]at cT;have H5:=dk X6 QJ ju Tx Zp cT f35;clear LO X6 f5 QJ ju Tx Zp pg uT cT f35;go_wp2_with (first
     | (guard_target =~ wpList _ _ _ (⟨_,Op.load _ _,_,_,_,_⟩::_) _ _;refine wpList_load_row rfl 34 (.tmp 7) rfl X rfl 34 #[.int .i64 kd,.slice b3 bl bl,.string (str id),.int .i64 at_,.int .u32 crc] (0,0) _ H5.out.1 Tryz.underlying34 rfl nk ?_)
     | (guard_target =~ wpList _ _ _ (⟨_,Op.call _,_,_,_,_⟩::_) _ _;refine gM Nk rfl _ _ rfl (.slice a2 n2 c2) n2 (bB.flatMap oL) (af a2) rfl (dD a2 n2 c2) H5.out.2.2.2.2.2.1 (some ⟨w5.heap.size,0,none⟩) 1 1 (oL (⟨kd,bs,id,at_,crc⟩,b3,bl)) rfl (by decide) (by simp) H5.out.2.2.2.2.1 rfl (RN _) (by omega) (by unfold maxLen;omega) ?_;intro a6 c6 w6 A1;have HA:=ah A1;clear A1))
    go_roundg k;case measure=>have:=HI.out.2.2.1;omega
    case rel=>
     obtain⟨hI,jM,bX,_,_,GA,bQ,cH⟩:=HI.out;obtain⟨kt,mP,nC,hXB,hXa,hXw,hX2⟩:=H2.out;obtain⟨_,Gj,f13,kJ,RD,UE,jL⟩:=HC.out;obtain⟨X6,QJ,ju,Tx,Zp,cT,f35⟩:=H5.out;have A1:=HA.out;have s23:=H3.out.2.size;have s35:=f35.size;have f5a:Fr [] w5 (w5.alloc (.cells #[.int .i64 kd,.slice b3 bl bl,.string (str id),.int .i64 at_,.int .u32 crc] 34)):=(Fr.refl [] w5).alloc _;have OW:(w5.alloc (.cells #[.int .i64 kd,.slice b3 bl bl,.string (str id),.int .i64 at_,.int .u32 crc] 34)).heap.size=w5.heap.size+1:=fD _ _;have f6:Fr (af a2) w5 w6:=(f5a.mono (by simp)).trans A1.fr;have s56:=f6.size;have Jo:∀y∈af a2,y<wr.heap.size:=λy hy=>rr hI.own (qi hy)
     have bR:∀y∈af a6,y∈af a2\/y=w5.heap.size+1:=λy hy=>by rw[<-OW];exact A1.at_ y hy
     obtain⟨nB1,nB2,nB3,nB4⟩:=hI.nB;refine⟨i+1,a6,c6,bB++[(⟨kd,bs,id,at_,crc⟩,b3,bl)],by go_num,by rw[aA,<-jM];rfl,by omega,⟨?_,?_,?_,?_,?_,?_,?_,?_,?_,?_⟩⟩
     ·have h1:=A1.own;rw[aA,<-jM,Bm];simpa using h1
     ·rw[gF];exact (jL.gJ f35 (by simp;exact kC hXB)).gJ f6 (λhy=>(hI.new B hy).2.1 rfl)
     ·exact QJ.step f6 (λy hy=>.inr (hI.new y hy).1)
     ·exact f6.af (f35.af RD (by simp;omega)) (λhy=>(hI.new R hy).2.2 rfl)
     ·exact⟨nB1,nB2,by omega,by omega⟩
     ·intro y hy;rcases bR y hy with h1|h1
      ·exact hI.new y h1
      ·have:=QJ.size;exact⟨by omega,by omega,by omega⟩
     ·intro m hm;rcases jw.1 hm with hm|hm
      ·obtain⟨e1,_,e3⟩:=hI.bod m hm;refine⟨e1,((UE m hm).gJ f35 (λy hy=>by simp;have:=(e3 y hy).2.1;omega)).gJ f6 (λy hy=>(e3 y hy).2.2.2),λy hy=>⟨(e3 y hy).1,by have:=(e3 y hy).2.1;omega,(e3 y hy).2.2.1,λh1=>?_⟩⟩;rcases bR y h1 with h1|h1
       ·exact (e3 y hy).2.2.2 h1
       ·have:=(e3 y hy).2.1;omega
      ·simp only[iH]at hm;subst hm;refine⟨bQ,Tx.gJ f6 (λy hy h1=>?_),λy hy=>⟨?_,?_,?_,λh1=>?_⟩⟩
       ·have h2:=Jo y h1;have h3:=(ju y hy).1;omega
       ·have h3:=(ju y hy).1;have:=f13.size;omega
       ·have h3:=(ju y hy).2.1;omega
       ·have h3:=(ju y hy).1;omega
       ·rcases bR y h1 with h1|h1
        ·have h2:=Jo y h1;have h3:=(ju y hy).1;omega
        ·have h3:=(ju y hy).2.1;omega
     ·rw[cH,gF,gF];exact hI.dd.more (by rw[vW];exact HS.out.2.2.2)
     ·intro h1;simp at h1
     ·have:=hI.few;simp;omega
  ·obtain rfl:i=n:=by omega
   have Cp:=hI;have HI:=ak hI jM;have hwt:aK.take i=aK:=by rw[H.out.2.1,Ie]
   have HW:=ah hwt;clear hI hwt;by_cases h0:n2=0
   ·obtain⟨rfl,rfl⟩:=Cp.nil (by omega);clear Cp;subst h0;clear jM;go_wp2_with (first
     | (go_at_call 38;refine (VZ _ _).mono ?_;rintro e w5 ⟨rfl,hw⟩;obtain rfl:=hw.symm)
     | (go_at_call 42;refine (VL _).mono ?_;rintro e w6 ⟨rfl,hw⟩;obtain rfl:=hw.symm))
    go_ret;obtain⟨hI,jM⟩:=HI.out;have e:bB=[]:=wN jM.symm;subst e;have hd:=hI.dd;rw[HW.out]at hd;exact⟨none,[],rfl,⟨.inl rfl,ay _,ep _,λ_=>rfl,by simp⟩,by simp[af],by simp,hI.fr,⟨by simp,by simp,hd.all⟩,ep _⟩
   ·obtain⟨g,A0,rfl,DB,hmx,hle,hO⟩:=zh2 Cp.own (by omega);have xA:∀m∈bB,m.1.id.length=40:=λm hm=>by obtain⟨m',jB,e⟩:=jo.1 (Cp.dd.sub m.1 (uL hm));rw[<-e];exact H.out.2.2.2.1 m' (uM jB)
    have hNl:bB.length<=N:=by have h1:=H.out.2.2.2.2.2 _ (HW.out▸Cp.dd);rwa [bW]at h1
    have hs:=H.out.2.2.2.2.1 g A0 bB.length c2 (xI bB) wr R hO hNl (zhj xA) Cp.gi (Cp.new g (by simp[af])).2.2;rw[<-jM]at hs hle;unfold tX at hs;have HS:=aw hs xA DB;clear hs xA hO DB Cp jM hNl;go_wp2_with (first
     | (go_at_call 38;refine HS.out.1.mono ?_;rintro e w5 ⟨rfl,f',hO,hs,hf⟩;have H5:=aw hO hs hf;clear hO hs hf)
     | (go_at_call 42;refine (zit _ _ _ _ hle hmx).mono ?_;rintro e w6 ⟨rfl,hw⟩;obtain rfl:=hw.symm))
    go_ret;obtain⟨hI,jM⟩:=HI.out;obtain⟨_,xA,DB⟩:=HS.out;obtain⟨hO,hs,hf⟩:=H5.out;have hwk:=(zhj xA).sd hs;have hd:=hI.dd;rw[HW.out]at hd;obtain⟨IK,h3⟩:=ai ((List.range n2).map λi=>(f' i).m);have EJ:IK.length=n2:=by rw[h3];simp
    have hcs:=ze7 (c:=n2) hO;rw[<-h3]at hcs;have aH:=hs.stb;have Gp:=hs.srt;rw[DT]at aH Gp;have gy:∀m,m∈IK↔m∈bB:=λm=>by
     rw[h3];constructor
     ·intro hm;obtain⟨t,ht,e⟩:=jo.1 hm;have h1:tg (f' t)∈sg f' 0 n2:=sZ.2 ⟨t,by simpa using ht,by rw[ft]⟩;obtain⟨t',LW,e'⟩:=sZ.1 ((aH.mem _).1 h1);have e2:=congrArg Prod.snd e';simp only[tg,ft]at e2;rw[<-e,e2,KX (br (show t'<bB.length by omega))];exact tk _
     ·intro hm;obtain⟨t,ht,e⟩:=List.mem_iff_getElem.1 hm;have h1:tg (xI bB t)∈sg (xI bB) 0 n2:=sZ.2 ⟨t,by omega,by rw[ft]⟩;obtain⟨t',LW,e'⟩:=sZ.1 ((aH.mem _).2 h1);have e2:=congrArg Prod.snd e';simp only[tg,ft]at e2;rw[KX (br ht),e]at e2;exact jo.2 ⟨t',by simpa using LW,by rw[<-e2];rfl⟩
    have cQ:(sg (xI bB) 0 n2).Pairwise λa b=>a.1≠b.1:=by unfold sg;rw[D6,Ec];intro x y hx hy pJ e;rw[Da]at hx hy;simp only[List.getElem_range,ft]at e;rw[KX (br (show x<bB.length by omega)),KX (br (show y<bB.length by omega))]at e;have h4:=key_inj (xA _ (tk _)) (xA _ (tk _)) e;have h5:=hd.ne;rw[D6]at h5;exact Ec.1 h5 x y (by omega) (by omega) pJ h4
    have bg:=qq3 _ Gp λk=>by rw[aH k];exact qr8 k _ cQ
    have hgn:=hI.new g (by simp[af]);have s5:=hf.size;have hg5:g<w5.heap.size:=by obtain⟨A,h1,_⟩:=hO;exact lt_of_block h1
    refine⟨some ⟨g,0,none⟩,IK,by rw[EJ];rfl,⟨hcs,ay _,by rw[EJ];omega,by simp,λm hm=>?_⟩,λy hy=>?_,λm hm=>⟨?_,λy hy=>?_⟩,hI.fr.step hf (λy hy=>.inr (by simp at hy;rw[hy];exact hgn.1)),⟨?_,λo ho=>?_,λo ho=>?_⟩,by rw[EJ];have:=hI.few;omega⟩
    ·obtain⟨e1,e2,e3⟩:=hI.bod m ((gy m).1 hm);exact e2.gJ hf (λy hy=>by have:=(e3 y hy).2.2.2;simpa[af] using this)
    ·simp[af]at hy;rw[hy];exact⟨hgn.1,hg5⟩
    ·exact (hI.bod m ((gy m).1 hm)).1
    ·have h1:=(hI.bod m ((gy m).1 hm)).2.2 y hy;exact⟨h1.1,by have:=h1.2.1;omega⟩
    ·rw[h3,vW,D6];unfold sg at bg;rw[D6]at bg;refine bg.imp λ{x y} h1=>?_
     simp only[tg,ft]at h1;rw[(hwk x).1,(hwk y).1]at h1;exact h1
    ·obtain⟨m,hm,e⟩:=jo.1 ho;exact hd.sub o (by rw[<-e];exact uL ((gy m).1 hm))
    ·obtain⟨o',Jj,e⟩:=hd.all o ho;obtain⟨m,hm,e2⟩:=jo.1 Jj;exact⟨o',by rw[<-e2];exact uL ((gy m).2 hm),e⟩
end os
end Go.Proofs.YtkmpfgpfbmeihaaGreatDoor
namespace Go.Proofs
open Go.Shelf
def Tryz.lays185_ren:Go.Shelf.Ren:=⟨fun|185=>98|187=>120|115=>121|253=>122|224=>123|254=>124|255=>150|291=>151|n=>n,fun|37=>23|3=>3|4=>4|0=>0|5=>5|46=>67|9=>9|146=>235|51=>32|n=>n,fun|1=>0|n=>n⟩
theorem Tryz.lays185:Go.Proofs.Lays.n185 Tryz.prog Tryz.lays185_ren:={
 mixed:=by kernel_rfl
 f115:=Tryz.func121.trans (congrArg some (by kernel_rfl))
 f185:=Tryz.func98.trans (congrArg some (by kernel_rfl))
 f187:=Tryz.func120.trans (congrArg some (by kernel_rfl))
 f224:=Tryz.func123.trans (congrArg some (by kernel_rfl))
 f253:=Tryz.func122.trans (congrArg some (by kernel_rfl))
 f254:=Tryz.func124.trans (congrArg some (by kernel_rfl))
 f255:=Tryz.func150.trans (congrArg some (by kernel_rfl))
 f291:=Tryz.func151.trans (congrArg some (by kernel_rfl))
 t0:=Tryz.underlying0
 a0:=Tryz.isAgg0
 z0:=Tryz.sizeOf0
 v0:=Tryz.zeroValue0
 t3:=Tryz.underlying3
 a3:=Tryz.isAgg3
 z3:=Tryz.sizeOf3
 v3:=Tryz.zeroValue3
 t4:=Tryz.underlying4
 a4:=Tryz.isAgg4
 z4:=Tryz.sizeOf4
 v4:=Tryz.zeroValue4
 t5:=Tryz.underlying5
 a5:=Tryz.isAgg5
 z5:=Tryz.sizeOf5
 v5:=Tryz.zeroValue5
 t9:=Tryz.underlying9
 a9:=Tryz.isAgg9
 z9:=Tryz.sizeOf9
 v9:=Tryz.zeroValue9
 t37:=Tryz.underlying23
 a37:=Tryz.isAgg23
 z37:=Tryz.sizeOf23
 v37:=Tryz.zeroValue23
 t46:=Tryz.underlying67
 a46:=Tryz.isAgg67
 z46:=Tryz.sizeOf67
 v46:=Tryz.zeroValue67
 t51:=Tryz.underlying32
 a51:=Tryz.isAgg32
 z51:=Tryz.sizeOf32
 v51:=Tryz.zeroValue32
 t146:=Tryz.underlying235
 a146:=Tryz.isAgg235
 z146:=Tryz.sizeOf235
 v146:=Tryz.zeroValue235
 g1:=by kernel_rfl }
open Go.RowKit Go.Lib in
theorem Tryz.bytes_Index_none (p q:Option Addr) (n c d:Nat) (w:World) :
  Calls Tryz.prog 98 #[.slice p n c,.slice q 0 d] w λe w'=>e = .returned (.int .i64 0)/\w'=w:=Any.bytes_Index_none Tryz.lays185 p q n c d w
open Go.Proofs Go.RowKit Go.Lib in
theorem Tryz.bytes_Index_at (a1 a2:Addr) (n c1 k c2:Nat) (xs ys:List Int) (m:Int) (w:World) (hx:xs.length=n) (hy:ys.length=k) (zx:∀x∈xs,0<=x/\x<256) (wh:∀y∈ys,0<=y/\y<256) (cY:∀i,i<n->w.cell? (a1.add i)=some (.int .u8 (xs.getD i 0))) (jD:∀i,i<k->w.cell? (a2.add i)=some (.int .u8 (ys.getD i 0))) (cZ:n<=c1) (hs:n<4294967281) (hk:k<=9223372036854775807) (hm:w.cell? ⟨0,0,none⟩=some (.int .i64 m)) :
  Calls Tryz.prog 98 #[.slice (some a1) n c1,.slice (some a2) k c2] w λe w'=>e = .returned (.int .i64 (Lib.index (Lib.bytesOf xs) (Lib.bytesOf ys)))/\∃q,w'=w.drewN q:=Any.bytes_Index_at Tryz.lays185 a1 a2 n c1 k c2 xs ys m w hx hy zx wh cY jD cZ hs hk hm
open Go.Proofs Go.RowKit Go.Lib in
theorem Tryz.bytes_Index_nil (p2:Option Addr) (k c2:Nat) (w:World) (hk:k<=9223372036854775807) (h1:k=1->∃b2 o2 cv,p2=some ⟨b2,o2,none⟩/\w.cell? ⟨b2,o2,none⟩=some (.int .u8 cv)) :
  Calls Tryz.prog 98 #[.slice none 0 0,.slice p2 k c2] w λe w'=>e = .returned (.int .i64 (if k=0 then 0 else -1))/\w'=w:=Any.bytes_Index_nil Tryz.lays185 p2 k c2 w hk h1
def Tryz.laysM185_ren:Go.Shelf.Ren:=⟨fun|185=>98|187=>120|115=>121|253=>122|224=>123|254=>124|255=>150|291=>151|n=>n,fun|37=>23|3=>3|4=>4|0=>0|5=>5|46=>67|9=>9|146=>235|51=>32|n=>n,fun|1=>0|n=>n⟩
theorem Tryz.laysM185:Go.Proofs.LaysM.n185 Tryz.prog Tryz.laysM185_ren:={
 mixed:=by kernel_rfl
 f115:=Tryz.func121.trans (congrArg some (by kernel_rfl))
 f185:=Tryz.func98.trans (congrArg some (by kernel_rfl))
 f187:=Tryz.func120.trans (congrArg some (by kernel_rfl))
 f224:=Tryz.func123.trans (congrArg some (by kernel_rfl))
 f253:=Tryz.func122.trans (congrArg some (by kernel_rfl))
 f254:=Tryz.func124.trans (congrArg some (by kernel_rfl))
 f255:=Tryz.func150.trans (congrArg some (by kernel_rfl))
 f291:=Tryz.func151.trans (congrArg some (by kernel_rfl))
 t0:=Tryz.underlying0
 a0:=Tryz.isAgg0
 z0:=Tryz.sizeOf0
 v0:=Tryz.zeroValue0
 t3:=Tryz.underlying3
 a3:=Tryz.isAgg3
 z3:=Tryz.sizeOf3
 v3:=Tryz.zeroValue3
 t4:=Tryz.underlying4
 a4:=Tryz.isAgg4
 z4:=Tryz.sizeOf4
 v4:=Tryz.zeroValue4
 t5:=Tryz.underlying5
 a5:=Tryz.isAgg5
 z5:=Tryz.sizeOf5
 v5:=Tryz.zeroValue5
 t9:=Tryz.underlying9
 a9:=Tryz.isAgg9
 z9:=Tryz.sizeOf9
 v9:=Tryz.zeroValue9
 t37:=Tryz.underlying23
 a37:=Tryz.isAgg23
 z37:=Tryz.sizeOf23
 v37:=Tryz.zeroValue23
 t46:=Tryz.underlying67
 a46:=Tryz.isAgg67
 z46:=Tryz.sizeOf67
 v46:=Tryz.zeroValue67
 t51:=Tryz.underlying32
 a51:=Tryz.isAgg32
 z51:=Tryz.sizeOf32
 v51:=Tryz.zeroValue32
 t146:=Tryz.underlying235
 a146:=Tryz.isAgg235
 z146:=Tryz.sizeOf235
 v146:=Tryz.zeroValue235
 g1:=by kernel_rfl
 i0:=by kernel_rfl
 i3:=by kernel_rfl
 i4:=by kernel_rfl
 i5:=by kernel_rfl
 i9:=by kernel_rfl
 i37:=by kernel_rfl
 i46:=by kernel_rfl
 i51:=by kernel_rfl
 i146:=by kernel_rfl
 m1:=by kernel_rfl
 s1_3:=λw h=>Go.Proofs.cell_of_shapedOpen_int (zero:=#[.int .i64 0]) (t:=3) h (of_decide_eq_true (by kernel_rfl)) (by kernel_rfl) rfl (by kernel_rfl) (by kernel_rfl) Tryz.underlying3 }
end Go.Proofs
