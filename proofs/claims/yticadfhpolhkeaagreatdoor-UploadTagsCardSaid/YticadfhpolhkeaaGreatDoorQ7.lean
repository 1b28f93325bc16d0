/-
  Texts of this proof, one behind the other: Packs, SortG, HuffCnt, LensLaw, Lens.
-/
import Derived.Test.YticadfhpolhkeaaGreatDoorQ6
set_option maxHeartbeats 16000000
set_option maxRecDepth 100000
set_option linter.unusedVariables false
set_option linter.unusedSimpArgs false
namespace Go.Proofs.YticadfhpolhkeaaGreatDoor
namespace huf
open Go Go.RowKit lib bm bl
variable {w w':World} {m:Mc} {c:aD}
def cellsOf (ms:List Mc):List Value:=ms.flatMap λm=>[.int .i64 (m.worth:Nat),.slice m.ao m.len m.cap]
theorem IX (ms:List Mc):(cellsOf ms).length=ms.length*2:=by
 induction ms with
 | nil=>rfl
 | cons m ms ih=>simp only[cellsOf,qd,aG,dw,jK]at ih ⊢;omega
theorem Uo (a b:List Mc):cellsOf (a++b)=cellsOf a++cellsOf b:=by simp[cellsOf]
theorem IL:∀(ms:List Mc) (i:Nat) (m:Mc),ms[i]?=some m->(cellsOf ms)[i*2]?=some (.int .i64 (m.worth:Nat))/\(cellsOf ms)[i*2+1]?=some (.slice m.ao m.len m.cap)
 | [],i,m,h=>by simp at h
 | x::ms,0,m,h=>by
  simp only[dk,fI]at h;subst h;exact⟨rfl,rfl⟩
 | x::ms,i+1,m,h=>by have:=IL ms i m (by simpa using h);rw[show (i+1)*2=i*2+2 from by omega];exact this
theorem qm9 (ms:List Mc):∀u∈cellsOf ms,u.oneCell'=true:=by intro u hu;simp only[cellsOf,List.mem_flatMap,eX,mV,or_false]at hu;obtain⟨m,_,rfl|rfl⟩:=hu<;>rfl
structure In (w:World) (m:Mc) (c:aD):Prop where
 worth:m.worth=c.1
 len:m.len=c.2.length
 pos:0<m.len
 own:w.ownsRow 0 3 1 (.slice m.ao m.len m.cap) m.len (ints c.2)
theorem In.shape (h:In w m c):∃b A,m.ao=some ⟨b,0,none⟩/\w.heap[b]?=some (.cells A 3 (0,0))/\m.len<=m.cap/\m.cap<=maxLen:=by
 rcases h.own.2 with⟨h1,h2⟩|⟨g,cap,cur,h1,_,h2,h3,h4,_,_⟩
 ·have:=h.pos;omega
 ·simp only[kJ,true_and]at h1;obtain⟨e1,e2⟩:=h1;exact⟨g,cur,e1,h2,by omega,by omega⟩
theorem In.fr {S:LN} (h:In w m c) (f:Fr S w w') (hS:∀x∈S,∀A fz,w.heap[x]?≠some (.cells A 3 fz)):In w' m c:=by refine⟨h.worth,h.len,h.pos,dp h.own f λk hk=>?_⟩;obtain⟨b,A,e,hb,_,_⟩:=h.shape;rw[e]at hk;simp only[Value.ownBlock,fI]at hk;subst hk;exact λhx=>hS _ hx A _ hb
theorem In.cG (h:In w m c) (f:Fr [] w w'):In w' m c:=h.fr f (by simp)
def Ins (w:World) (ms:List Mc) (l:List aD):Prop:=ms.length=l.length/\∀(i:Nat) (m:Mc) (c:aD),ms[i]?=some m->l[i]?=some c->In w m c
theorem Ins.cG {w w':World} {ms:List Mc} {l:List aD} (h:Ins w ms l) (f:Fr [] w w'):Ins w' ms l:=⟨h.1,λi m c h1 h2=>(h.2 i m c h1 h2).cG f⟩
theorem Te {e:TypeId} {size:Nat} {ao:OA} {n cap:Nat} {xs:LV} (h:w.ownsRow 0 e size (.slice ao n cap) n xs):∀x∈ag ao,∃A,w.heap[x]?=some (.cells A e (0,0)):=by
 intro x hx;have vW:=rz (n:=n) (cap:=cap) hx;rcases h.2 with⟨h1,_⟩|⟨g,c,cur,h1,_,h2,_⟩
 ·rw[h1]at vW;cases vW
 ·rw[h1]at vW;simp only[Value.ownBlock,fI]at vW;subst vW;exact⟨cur,h2⟩
theorem Ins.typed {S:LN} {ms:List Mc} {l:List aD} (h:Ins w ms l) (f:Fr S w w') (hS:∀x∈S,∃A,w.heap[x]?=some (.cells A 425 (0,0))):Ins w' ms l:=
 ⟨h.1,λi m c h1 h2=>(h.2 i m c h1 h2).fr f λx hx A fz hA=>by
  obtain⟨B,hB⟩:=hS x hx
  rw[hB]at hA
  simp at hA⟩
theorem Ins.append {ms lU:List Mc} {l l':List aD} (h:Ins w ms l) (h':Ins w lU l'):Ins w (ms++lU) (l++l'):=by
 refine⟨by simp[h.1,h'.1],λi m c h1 h2=>?_⟩;rcases kT i ms.length with k|k
 ·rw[Ay k]at h1;rw[Ay (by rw[<-h.1];exact k)]at h2;exact h.2 i m c h1 h2
 ·rw[IU k]at h1;rw[IU (by rw[<-h.1];exact k)]at h2;rw[<-h.1]at h2;exact h'.2 _ m c h1 h2
theorem Ins.one (h:In w m c):Ins w [m] [c]:=by
 refine⟨rfl,λi m' c' h1 h2=>?_⟩;match i with
 | 0=>simp only[dk,fI]at h1 h2;subst h1;subst h2;exact h
 | i+1=>simp at h1
theorem qn5:∀(l:List aD) (j:Nat) (x y:aD),l[2*j]?=some x->l[2*j+1]?=some y->aC (l.take (2*(j+1)))=aC (l.take (2*j))++[(x.1+y.1,x.2++y.2)]
 | l,0,x,y,h1,h2=>by
  match l with
  | []=>simp at h1
  | [a]=>simp at h2
  | a::b::t=>
   simp only[Nat.mul_zero,dk,fI,iN,dU]at h1 h2;subst h1;subst h2;rfl
 | l,j+1,x,y,h1,h2=>by
  match l with
  | []=>simp at h1
  | [a]=>simp[show 2*(j+1)=2*j+1+1 from by omega]at h1
  | a::b::t=>rw[show 2*(j+1)=2*j+1+1 from by omega]at h1;rw[show 2*(j+1)+1=2*j+1+1+1 from by omega]at h2;simp only[dU]at h1 h2;have:=qn5 t j x y h1 h2;rw[show 2*(j+1+1)=2*(j+1)+1+1 from by omega,show 2*(j+1)=2*j+1+1 from by omega];simp only[lh];simp only[aC,uo];rw[show 2*j+1+1=2*(j+1) from by omega,this]
theorem qzt (l:List aD) (j:Nat) (h:l.length<=2*j+1):aC (l.take (2*j))=aC l:=by
 induction j generalizing l with
 | zero=>
  match l with
  | []=>rfl
  | [a]=>rfl
  | a::b::t=>simp at h
 | succ j ih=>
  match l with
  | []=>rfl
  | [a]=>simp[show 2*(j+1)=2*j+1+1 from by omega]
  | a::b::t=>rw[show 2*(j+1)=2*j+1+1 from by omega];simp only[lh,aC];rw[ih t (by simp only[dw]at h;omega)]
theorem zjf {m1 m2:Mc} {x y:aD} (h1:In w m1 x) (h2:In w m2 y) (b1:m1.len<=400000) (b2:m2.len<=400000) (q:Nat) (hq:w.heap[q]?=some (.cells #[.slice m1.ao m1.len m1.cap,.slice m2.ao m2.len m2.cap] 348 (0,0))) :
  Calls Tryz.prog 326 #[.slice (some ⟨q,0,none⟩) 2 2] w λe w'=>∃ao cap,e = .returned (.slice ao (m1.len+m2.len) cap)/\Fr [] w w'/\(∀x∈ag ao,w.heap.size<=x)/\∀W,W=x.1+y.1->In w' ⟨W,ao,m1.len+m2.len,cap⟩ (x.1+y.1,x.2++y.2):=by
 obtain⟨g1,A1,e1,_,l1,_⟩:=h1.shape;obtain⟨g2,A2,e2,_,l2,_⟩:=h2.shape;have i1:(ints x.2).length=m1.len*1:=by simp[ints,h1.len]
 have i2:(ints y.2).length=m2.len*1:=by simp[ints,h2.len]
 refine (qx5 q m1.ao m2.ao m1.len m2.len m1.cap m2.cap (ints x.2) (ints y.2) w hq (qK h1.own) (qK h2.own) i1 i2 l1 l2 (λh=>by rw[e1]at h;cases h) (λh=>by rw[e2]at h;cases h) (Ph _) (Ph _) b1 b2).mono ?_;rintro e w' ⟨ao,cap,rfl,hm⟩;refine⟨ao,cap,rfl,hm.fr,hm.new,λW hW=>⟨hW,by simp[h1.len,h2.len],by have:=h1.pos;simp only;omega,?_⟩⟩;have:=hm.own;rwa [show ints x.2++ints y.2=ints (x.2++y.2) from by simp[ints]]at this
theorem qq7 (g n cap:Nat) (ms:List Mc) (l:List aD) (w:World) (ec:w.ownsRow 0 425 2 (.slice (some ⟨g,0,none⟩) n cap) n (cellsOf ms)) (fD:Ins w ms l) (hn:ms.length=n) (hb:n<=100000)
  (hl:∀c∈l,c.1<=2^50/\c.2.length<=100000) :
  Calls Tryz.prog 298 #[.slice (some ⟨g,0,none⟩) n cap] w λe w'=>∃ao k cp lU,e = .returned (.slice ao k cp)/\k=(aC l).length/\Made w w' 425 2 ao k cp (cellsOf lU)/\Ins w' lU (aC l)/\∀m∈lU,∀x∈ag m.ao,w.heap.size<=x:=by
 have H:=aA ec fD hn hl;clear ec fD hn hl;obtain⟨hu,⟨ti,km,ur,im,q7⟩,sC,hp⟩:=Kq;go_enter Tryz.func298,Tryz.ntmps298;go_wp2;go_loopg [3,4] n (λk s3 s4 wr=>∃(j:Nat) (ao:OA) (cp i:Nat) (lU:List Mc),s3 = .slice ao j cp/\s4 = .int .i64 (i:Nat)/\i=2*j/\i+k=n+(if i<=n then 0 else 1)/\i<=n+1/\Made w wr 425 2 ao j cp (cellsOf lU)/\Ins wr lU (aC (l.take (2*j)))/\∀m∈lU,∀x∈ag m.ao,w.heap.size<=x);case atStart=>exact⟨0,none,0,0,[],rfl,rfl,rfl,by simp,by omega,.none w _ _,⟨rfl,λi m c h=>by simp at h⟩,λm hm=>by simp at hm⟩
 case round=>
  obtain⟨j,ao,cp,i,lU,rfl,rfl,oe,hk,MY,hm,xF⟩:=hrel;obtain⟨y,hy⟩:=ah (i+1);have e0:(i:Int)+1=(y:Int):=by omega
  by_cases bF:y<n
  ·have HB:=af xF.2;have hIn:=xF.1;clear xF;obtain⟨ec,fD,rG,hl⟩:=H.out;have DP:=dp ec hm.fr (by simp);obtain⟨m1,j7⟩:∃m1,ms[i]?=some m1:=⟨_,dm (by omega)⟩;obtain⟨m2,jQ⟩:∃m2,ms[y]?=some m2:=⟨_,dm (by omega)⟩;obtain⟨c1,bR⟩:∃c1,l[i]?=some c1:=⟨_,dm (by rw[<-fD.1];omega)⟩;obtain⟨c2,gp⟩:∃c2,l[y]?=some c2:=⟨_,dm (by rw[<-fD.1];omega)⟩;have I1:=(fD.2 i m1 c1 j7 bR).cG hm.fr;have I2:=(fD.2 y m2 c2 jQ gp).cG hm.fr;have B1:=hl c1 (j5 bR);have B2:=hl c2 (j5 gp);have cc:∀(z:Nat) (m:Mc),ms[z]?=some m->z<n->∀W,(sup [] wr.drew W).cell? ⟨g,z*2,none⟩=some (.int .i64 (m.worth:Nat))/\(sup [] wr.drew W).cell? ⟨g,z*2+1,none⟩=some (.slice m.ao m.len m.cap):=λz m hz I3 W=>by have h2:=dp (dp DP (Fr.aB [] wr) (by simp)) (gB [] wr.drew W) (by simp);have:=IL ms z m hz;rw[<-this.1,<-this.2];exact⟨vO h2 _ (by omega),vO h2 _ (by omega)⟩
   have d1:=λW=>(cc i m1 j7 (by omega) W).1
   have d2:=λW=>(cc i m1 j7 (by omega) W).2
   have d3:=λW=>(cc y m2 jQ bF W).1
   have d4:=λW=>(cc y m2 jQ bF W).2
   have v1:m1.worth<=2^50:=by rw[I1.worth];exact B1.1
   have v2:m2.worth<=2^50:=by rw[I2.worth];exact B2.1
   have v3:m1.len<=100000:=by rw[I1.len];exact B1.2
   have v4:m2.len<=100000:=by rw[I2.len];exact B2.2
   have hjj:j<=100000:=by omega
   have g1:decide ((n:Int)<=(i:Int))=false:=by simp;omega
   have g2:decide ((n:Int)<=(y:Int))=false:=by simp;omega
   obtain⟨W,hW⟩:=ah (m1.worth+m2.worth);have e9:(m1.worth:Int)+(m2.worth:Int)=(W:Int):=by omega
   have HW:=af hW;clear hW;have HI:=pY I1 I2 hm hIn hk oe bR gp hy;clear ec fD hl DP j7 jQ bR gp I1 I2 B1 B2 cc hm hIn hk oe hy;go_upto_region 5 with fail;refine lK 28 [(false,0),(false,1),(false,2),(false,3),(false,4),(false,5),(false,6),(false,7),(false,8),(false,9),(false,10),(false,11),(false,12),(false,13),(false,14),(false,15),(false,16),(false,17),(false,18),(false,19),(false,20),(false,21),(false,22),(false,23),(true,24),(true,25),(true,26),(true,27)] [] (by kernel_rfl) (by kernel_rfl) (λ_ _ d _ _ h=>by cases d<;>exact h) ?_;simp only[kQ];refine eD 24 rfl ?_;simp only[cT];repeat (go_big_quiet_step (fail))
   refine wpQuiet_nil ?_;clear d1 d2 d3 d4;refine jb rfl ?_;intro K hK;go_wp2;refine hK.out _ _ (Fr.dF ((Fr.refl [] wr).alloc _).drew) ?_;clear hK K;obtain⟨w2,cC⟩:=ah ((wr.alloc (.cells #[.slice m1.ao m1.len m1.cap,.slice m2.ao m2.len m2.cap] 348 (0,0))).drew);have U7:w2.heap[wr.heap.size]?=some (.cells #[.slice m1.ao m1.len m1.cap,.slice m2.ao m2.len m2.cap] 348 (0,0)):=by rw[cC];exact aV wr _
   have f2:Fr [] wr w2:=by rw[cC];exact ((Fr.refl [] wr).alloc _).drew
   rw[<-cC];have fE:=zjf (HI.out.1.cG f2) (HI.out.2.1.cG f2) (by omega) (by omega) _ U7;have HC:=ai fE f2;clear fE f2 U7 cC;refine jb rfl ?_;intro K hK;go_wp2_with (go_at_call 326;refine HC.o0.mono ?_;rintro e w3 ⟨uh,xK,rfl,f3,Qa,Qf⟩);refine hK.out _ _ f3 ?_;clear hK K;have H3:=aq f3 Qa Qf;clear f3 Qf Qa;refine jb rfl ?_;intro K hK;go_wp2;refine hK.out _ _ (Fr.refl [] w3) ?_;clear hK K;refine jb rfl ?_;intro K hK;go_wp2;refine hK.out _ _ ((Fr.refl [] w3).alloc _) ?_;clear hK K;obtain⟨w4,jO⟩:∃w4,w4=w3.alloc (.cells #[.int .i64 (W:Nat),.slice uh (m1.len+m2.len) xK] 425 (0,0)):=⟨_,rfl⟩;have f4:Fr [] w3 w4:=by rw[jO];exact (Fr.refl [] w3).alloc _
   have c4:Cs w4 (some ⟨w3.heap.size,0,none⟩) [.int .i64 W,.slice uh (m1.len+m2.len) xK]:=by refine .inr ⟨_,0,rfl,λk v hv=>?_⟩;rw[jO,cell_of (aV w3 _),iN];simpa using hv
   rw[<-jO];have MF:=HI.out.2.2.1.ft ((HC.l1.trans H3.out.1).trans f4);have HD:=aq MF c4 f4;clear MF c4 f4 jO;refine j4 ?_;go_wp2_with (refine fq Kq rfl _ _ rfl (.slice ao j cp) j (cellsOf lU) (ag ao) rfl (cY ao j cp) HD.out.1.own (some ⟨w3.heap.size,0,none⟩) 1 1 [.int .i64 W,.slice uh (m1.len+m2.len) xK] rfl (ax _) (λh=>by cases h) HD.out.2.1 rfl (by intro u hu;simp only[eX,mV,or_false]at hu;rcases hu with rfl|rfl<;>rfl) (by omega) (by unfold maxLen;omega) ?_;intro WA Wy w5 cS;have HA:=af cS;clear cS);go_roundg (gk-2);case measure=>obtain⟨_,_,_,_,hk,oe,_,_,hy⟩:=HI.out;simp only[show i<=n from by omega,if_true]at hk;omega
   case rel=>
    obtain⟨I1,I2,hm,hIn,hk,oe,bR,gp,hy⟩:=HI.out;simp only[show i<=n from by omega,if_true]at hk;obtain⟨MF,c4,f4⟩:=HD.out;obtain⟨f3,Qa,Qf⟩:=H3.out;have cS:=HA.out;refine⟨j+1,WA,Wy,i+2,lU++[⟨W,uh,m1.len+m2.len,xK⟩],rfl,by go_num,by omega,?_,by omega,?_,?_,?_⟩
    ·split<;>omega
    ·rw[Uo];exact MF.app cS
    ·have k1:Ins w4 lU (aC (l.take (2*j))):=hIn.cG ((HC.l1.trans f3).trans f4);have k2:In w4 ⟨W,uh,m1.len+m2.len,xK⟩ (c1.1+c2.1,c1.2++c2.2):=(Qf W (by rw[HW.out,I1.worth,I2.worth])).cG f4;have k3:=Ins.append k1 (Ins.one k2);rw[qn5 l j c1 c2 (by rw[<-oe];exact bR) (by rw[<-oe,<-hy];exact gp)];exact k3.typed cS.fr (Te MF.own)
    ·intro m uV x hx;rcases jo.1 uV with q|q
     ·exact HB.out m q x hx
     ·rw[eF.1 q]at hx;exact bP (hm.fr.trans HC.l1).size (Qa x hx)
  ·have HI:=aQ hm xF.1 oe hy xF.2;clear hm xF;go_wp2;go_ret;obtain⟨hm,hIn,oe,hy,DW⟩:=HI.out;have hl:aC (l.take (2*j))=aC l:=qzt l j (by rw[<-H.out.2.1.1,H.out.2.2.1];omega);rw[hl]at hIn;refine⟨ao,j,cp,lU,rfl,?_,hm,hIn,DW⟩;have h1:=hm.own.1;rw[IX,hIn.1]at h1;omega
theorem Y1:∀{a b:LN},ints a=ints b->a=b
 | [],[],_=>rfl
 | [],y::b,h=>by simp[ints]at h
 | x::a,[],h=>by simp[ints]at h
 | x::a,y::b,h=>by simp only[ints,jL,Ht,Value.int.injEq,true_and]at h;obtain⟨h1,h2⟩:=h;rw[show x=y from by omega,Y1 (a:=a) (b:=b) h2]
theorem In.uniq {c':aD} (h:In w m c) (h':In w m c'):c=c':=by
 rcases h.own.2 with⟨h1,h2⟩|⟨g,cap,cur,h1,_,h2,_,_,_,h3⟩
 ·have:=h.pos;omega
 ·rcases h'.own.2 with⟨wK,uC⟩|⟨g',aM,zbN,wK,_,uC,_,_,_,h3'⟩
  ·have:=h'.pos;omega
  ·rw[h1]at wK;simp only[kJ,fI,rB,and_true,true_and]at wK;obtain⟨rfl,_⟩:=wK;rw[h2]at uC;simp only[fI,Obj.cells.injEq,and_true,true_and]at uC;obtain rfl:=uC;have e:=Y1 (h3.symm.trans h3');exact Prod.ext (h.worth.symm.trans h'.worth) e
open Classical in
noncomputable def zU (w:World) (m:Mc):aD:=if h:∃c,In w m c then h.choose else (m.worth,[])
theorem Xh {w:World} {m:Mc} {c:aD} (h:In w m c):zU w m=c:=by unfold zU;have hx:∃c,In w m c:=⟨c,h⟩;rw[dif_pos hx];exact hx.choose_spec.uniq h
theorem Tk (w:World) (m:Mc):(zU w m).1=m.worth:=by
 unfold zU;split
 ·rename_i h;exact h.choose_spec.worth.symm
 ·rfl
theorem Ins.zU {w:World} {ms:List Mc} {l:List aD} (h:Ins w ms l):l=ms.map (zU w):=by
 refine Ih λi=>?_
 rw[qe];rcases kT i l.length with k|k
 ·have h1:=dm (l:=ms) (show i<ms.length by rw[h.1];exact k);have h2:=dm k;rw[h1,h2,EO,Xh (h.2 i _ _ h1 h2)]
 ·rw[sq k,sq (by rw[h.1];exact k)];rfl
theorem fF.map {α β:Type} {a b:List (Nat×α)} (h:fF a b) (g:Nat×α->Nat×β) (ha:∀x∈a,(g x).1=x.1) (hb:∀x∈b,(g x).1=x.1):fF (a.map g) (b.map g):=λk=>by
 rw[List.filter_map,List.filter_map];have e1:a.filter ((λx:Nat×β=>x.1==k)∘g)=a.filter λx=>x.1==k:=List.filter_congr λx hx=>by simp[ha x hx]
 have e2:b.filter ((λx:Nat×β=>x.1==k)∘g)=b.filter λx=>x.1==k:=List.filter_congr λx hx=>by simp[hb x hx]
 rw[e1,e2,h k]
def m0:Mc:=⟨0,none,0,0⟩
def fn (ms:List Mc):Nat->Mc:=λi=>ms[i]?.getD m0
theorem zjp {w:World} {g n cap:Nat} {ms:List Mc} (h:w.ownsRow 0 425 2 (.slice (some ⟨g,0,none⟩) n cap) n (cellsOf ms)):∃A0,A0.size=cap*2/\Dw w g 425 A0 n (fn ms):=by
 have hl:=h.1;rw[IX]at hl;rcases h.2 with⟨h1,_⟩|⟨g',aM,cur,h1,_,h2,h3,h4,h5,h6⟩
 ·cases h1
 ·simp only[kJ,fI,rB,and_true,true_and]at h1;obtain⟨rfl,rfl⟩:=h1;refine⟨cur,h5,cur,h2,rfl,by omega,λ_ _=>rfl,λi hi=>?_⟩;obtain⟨m,hm⟩:∃m,ms[i]?=some m:=⟨_,dm (by omega)⟩;have hf:fn ms i=m:=by simp[fn,hm]
  rw[hf];have hc:=IL ms i m hm;rw[<-h6,oG,oG,if_pos (by omega),if_pos (by omega),yO,yO]at hc;exact hc
theorem zil {w:World} {g n cap:Nat} {A0:AV} {f:Nat->Mc} (h:Dw w g 425 A0 n f) (h0:A0.size=cap*2) (hc:n<=cap) (hm:cap<=maxLen):w.ownsRow 0 425 2 (.slice (some ⟨g,0,none⟩) n cap) n (cellsOf ((List.range n).map f)):=by
 obtain⟨A,h1,h2,h3,_,h4⟩:=h;refine⟨by rw[IX];simp,.inr ⟨g,cap,A,rfl,eE _,h1,hc,hm,by rw[h2,h0],?_⟩⟩;refine Ih λj=>?_
 rw[oG];by_cases hj:j<n*2
 ·rw[if_pos hj,yO];have hi:j/2<n:=by omega
  have hr:((List.range n).map f)[j/2]?=some (f (j/2)):=by simp[hi]
  have e1:=IL _ _ _ hr;have e2:=h4 (j/2) hi;rcases Nat.mod_two_eq_zero_or_one j with k|k
  ·rw[show j=j/2*2 from by omega,e1.1];exact e2.1
  ·rw[show j=j/2*2+1 from by omega,e1.2];exact e2.2
 ·rw[if_neg hj,sq (by rw[IX];simp;omega)]
theorem SQ (f:Nat->Mc) (n:Nat):sg f 0 n=((List.range n).map f).map tg:=by simp[sg,Function.comp_def]
theorem ze3 {ms:List Mc} {n:Nat} (h:ms.length=n):(List.range n).map (fn ms)=ms:=by
 subst h;refine Ih λi=>?_
 rw[qe];by_cases hi:i<ms.length
 ·rw[List.getElem?_range hi];simp[fn,hi]
 ·rw[sq (by simp;omega),sq (by omega)];rfl
theorem qnw (g n cap:Nat) (ms:List Mc) (l:List aD) (w:World) (ec:w.ownsRow 0 425 2 (.slice (some ⟨g,0,none⟩) n cap) n (cellsOf ms)) (fD:Ins w ms l) (hn:n<=100000)
  (hl:∀c∈l,c.1<=2^50) :
  Calls Tryz.prog 296 #[.slice (some ⟨g,0,none⟩) n cap,jF] w λe w'=>e = .returned (.tuple #[])/\
   ∃lU l',w'.ownsRow 0 425 2 (.slice (some ⟨g,0,none⟩) n cap) n (cellsOf lU)/\Ins w' lU l'/\Sorted l'/\fF l' l/\Fr [g] w w'/\∀m∈lU,m∈ms:=by
 have hlen:ms.length=n:=by have:=ec.1;rw[IX]at this;omega
 obtain⟨A0,V8,hD⟩:=zjp ec;obtain⟨_,_,e1,e2,_⟩:=um ec;simp only[kJ,true_and]at e1;have ey:Wb (fn ms):=λi=>by
  unfold fn;rcases kT i ms.length with k|k
  ·have h1:=dm k;have h2:=dm (l:=l) (show i<l.length by rw[<-fD.1];exact k);rw[h1];show ms[i].worth<=_;rw[(fD.2 i _ _ h1 h2).worth];exact hl _ (sk _)
  ·rw[sq k];exact eE _
 refine (zde g 425 A0 n cap (fn ms) w hD hn ey).mono ?_;rintro e w' ⟨rfl,f',Q7,hs,hf⟩;have h1:n<=cap/\cap<=maxLen:=by
  rcases ec.2 with⟨h1,_⟩|⟨g',aM,cur,h1,_,h2,h3,h4,h5,h6⟩
  ·cases h1
  ·simp only[kJ,fI,rB,and_true,true_and]at h1;omega
 have aW:=hs.stb;have L6:=hs.srt;rw[CY,SQ,SQ,ze3 hlen]at aW;rw[CY,SQ]at L6;obtain⟨lU,zn⟩:∃lU,lU=(List.range n).map f':=⟨_,rfl⟩;rw[<-zn]at aW L6;have zq:lU.length=n:=by rw[zn];simp
 have uU:∀m∈lU,m∈ms:=λm hm=>by have h2:tg m∈lU.map tg:=Ix hm;obtain⟨m',h3,h4⟩:=mU.1 ((aW.mem _).1 h2);have:=congrArg Prod.snd h4;simp only[tg]at this;rw[<-this];exact h3
 have VI:=fD.zU;have MY:Ins w lU (lU.map (zU w)):=by
  refine⟨by simp,λi m c h1 h2=>?_⟩;rw[qe,h1]at h2;simp only[EO,fI]at h2;obtain⟨j,hj⟩:=Dx.1 (uU m (j5 h1));have hj':j<l.length:=by rw[<-fD.1];exact (nF.1 hj).1
  have:=fD.2 j m _ hj (dm hj');rw[<-h2,Xh this];exact this
 refine⟨rfl,lU,lU.map (zU w),by rw[zn];exact zil Q7 V8 h1.1 h1.2,MY.typed hf ?_,?_,?_,hf,uU⟩
 ·exact Te ec
 ·unfold jH at L6;unfold Sorted;rw[List.pairwise_map]at L6 ⊢;refine L6.imp λ{a b} h=>?_
  rw[Tk,Tk];exact h
 ·have hk:∀(k:List Mc) (x:Nat×Mc),x∈k.map tg->(zU w x.2).1=x.1:=λk x hx=>by obtain⟨m,_,rfl⟩:=mU.1 hx;exact Tk w m
  have:=aW.map (λx=>zU w x.2) (β:=List Nat) (hk _) (hk _);rw[Ew,Ew]at this;rw[VI];exact this
end huf
namespace huf
open Go
variable {cs:LN}
def ins (l:List aD):List Nat:=l.flatMap (·.2)
theorem lr (a b:List aD):ins (a++b)=ins a++ins b:=by simp[ins]
theorem Y0 {a b:List aD} (h:a.Perm b):(ins a).Perm (ins b):=h.flatMap_right _
def ones (l:List aD) (syms:LN):Prop:=l.map (·.2)=syms.map λs=>[s]
theorem YZ {l:List aD} {syms:LN} (h:ones l syms) (a:Nat):ins (l.take a)=syms.take a:=by unfold ins;rw[List.flatMap_def,EJ,h,<-EJ,<-List.flatMap_def];simp
theorem Ut:∀(syms:LN),syms.Nodup->∀(a i:Nat) (s:Nat),syms[i]?=some s->(syms.take a).count s=if i<a then 1 else 0
 | [],_,a,i,s,h=>by cases h
 | x::t,_,0,i,s,h=>by simp
 | x::t,hn,a+1,0,s,h=>by
  simp only[dk,fI]at h;subst h;rw[lh,List.count_cons_self,List.count_eq_zero_of_not_mem λhm=>(List.nodup_cons.1 hn).1 (sV hm)];simp
 | x::t,hn,a+1,i+1,s,h=>by
  rw[dU]at h;have bg:x≠s:=λe=>(List.nodup_cons.1 hn).1 (e▸j5 h)
  rw[lh,List.count_cons_of_ne bg,Ut t (List.nodup_cons.1 hn).2 a i s h];simp only[Nat.add_lt_add_iff_right]
theorem Z9 (l:List aD) (syms:LN) (h1:ones l syms) (hn:syms.Nodup) (i s:Nat) (hi:syms[i]?=some s):∀k m,m<=(row l k).length->(ins ((row l k).take m)).count s=gQ l k m i
 | 0,m,hm=>by
  have:m=0:=by simpa[row] using hm
  subst this;rfl
 | k+1,m,hm=>by
  have uV:m<=l.length+(aC (row l k)).length:=by rw[row,yK]at hm;exact hm
  obtain⟨_,_,h3⟩:=Ao l (aC (row l k)) m uV;have hp:=Y0 (Dk l (aC (row l k)) m);rw[show lW l (aC (row l k))=row l (k+1) from rfl]at hp;rw[hp.count_eq,lr,Df,YZ h1,Ut syms hn _ i s hi];change (sl l k m).2<=_ at h3;have oT:ins ((aC (row l k)).take (sl l k m).2)=ins ((row l k).take (2*(sl l k m).2)):=Tf _ _ h3;rw[BM]at h3;rw[gQ,<-Z9 l syms h1 hn i s hi k (2*(sl l k m).2) (by omega),<-oT];rfl
theorem qh0 (l:List aD) (syms:LN) (h1:ones l syms) (s:Nat) (hs:s∉syms):∀k m,m<=(row l k).length->(ins ((row l k).take m)).count s=0
 | 0,m,hm=>by
  have:m=0:=by simpa[row] using hm
  subst this;rfl
 | k+1,m,hm=>by
  have uV:m<=l.length+(aC (row l k)).length:=by rw[row,yK]at hm;exact hm
  obtain⟨_,_,h3⟩:=Ao l (aC (row l k)) m uV;have hp:=Y0 (Dk l (aC (row l k)) m);rw[show lW l (aC (row l k))=row l (k+1) from rfl]at hp;rw[hp.count_eq,lr,Df,YZ h1,List.count_eq_zero_of_not_mem λhm=>hs (sV hm)];change (sl l k m).2<=_ at h3;have oT:ins ((aC (row l k)).take (sl l k m).2)=ins ((row l k).take (2*(sl l k m).2)):=Tf _ _ h3;rw[BM]at h3;change 0+(ins ((aC (row l k)).take (sl l k m).2)).count s=0;rw[oT,qh0 l syms h1 s hs k _ (by omega)]
def aF (cs:LN) (i:Nat):List Nat:=(List.range i).filter λs=>decide (0<ae cs s)
def cD (cs:LN) (i:Nat):List aD:=(aF cs i).map λs=>(ae cs s,[s])
theorem Uj (cs:LN) (i:Nat):aF cs (i+1)=if 0<ae cs i then aF cs i++[i] else aF cs i:=by unfold aF;rw[List.range_succ,Dt];by_cases h:0<ae cs i<;>simp[h]
theorem qr3 (cs:LN) (i:Nat):cD cs (i+1)=if 0<ae cs i then cD cs i++[(ae cs i,[i])] else cD cs i:=by unfold cD;rw[Uj];split<;>simp
theorem qkm (cs:LN) (i:Nat):(aF cs i).Nodup:=List.Pairwise.filter _ List.nodup_range
theorem Dn {i s:Nat}:s∈aF cs i↔s<i/\0<ae cs s:=by simp[aF]
theorem fF.perm {α:Type} [DecidableEq α] {a b:List (Nat×α)} (h:fF a b):a.Perm b:=by
 rw[List.perm_iff_count];intro x;have h1:=h x.1;have h2:∀l:List (Nat×α),l.count x=(l.filter λy=>y.1==x.1).count x:=λl=>by rw[List.count_filter (by simp)]
 rw[h2 a,h2 b,h1]
structure kx (L:Nat) (cs ls:LN):Prop where
 len:ls.length=cs.length
 le:∀l∈ls,l<=L
 pos:∀i,0<ae cs i->0<ae ls i
 zero:∀i,ae cs i=0->ae ls i=0
 full:2<=(aF cs cs.length).length->weight ls=32768
 few:(aF cs cs.length).length<2->∀l∈ls,l<=1
def wt (x:Nat):Nat:=if x=0 then 0 else 2^(15-x)
theorem TU {α:Type} (g:α->Nat):∀l:List α,weight (l.map g)=(l.map λs=>wt (g s)).sum
 | []=>rfl
 | x::l=>by rw[jL,weight,TU g l,jL,List.sum_cons];rfl
theorem TQ {α:Type} (p:α->Bool) (g:α->Nat):∀l:List α,(∀x∈l,p x=false->g x=0)->(l.map g).sum=((l.filter p).map g).sum
 | [],_=>rfl
 | x::l,h=>by
  have ih:=TQ p g l λy hy=>h y (oH _ hy)
  rw[List.filter_cons];cases hp:p x with
  | true=>simp[ih]
  | false=>simp[ih,h x sT hp]
theorem ql2 (g:Nat->Nat):∀n,cJ (n+1) g=g 0+cJ n λi=>g (i+1)
 | 0=>by simp[cJ]
 | n+1=>by rw[cJ,ql2 g n,cJ];omega
theorem qiu (g:Nat->Nat):∀syms:List Nat,(syms.map g).sum=cJ syms.length (λi=>g (syms[i]?.getD 0))
 | []=>rfl
 | x::l=>by rw[jL,List.sum_cons,qiu g l,dw,ql2];simp
theorem qql (c:Nat) (g:Nat->Nat):∀n,cJ n (λi=>g i*c)=cJ n g*c
 | 0=>by simp[cJ]
 | n+1=>by rw[cJ,cJ,qql c g n,oD]
theorem zhl {L:Nat} {sl:List aD} (sI:1<=L) (vu:L<=15) (hs:Sorted sl) (aW:fF sl (cD cs cs.length)) (h2:2<=(aF cs cs.length).length) (hle:(aF cs cs.length).length<=2^L) :
  2*sl.length-2<=(row sl L).length/\sl.length=(aF cs cs.length).length/\
  kx L cs ((List.range cs.length).map λs=>(ins ((row sl L).take (2*sl.length-2))).count s):=by
 have hp:=aW.perm;have hlen:sl.length=(aF cs cs.length).length:=by rw[hp.length_eq];simp[cD]
 have iQ:Pos sl:=λx hx=>by have:=hp.mem_iff.1 hx;simp only[cD,mU]at this;obtain⟨s,im,rfl⟩:=this;exact (Dn.1 im).2
 obtain⟨syms,oQ⟩:=ah (sl.map λc=>c.2.headD 0);have h1:ones sl syms:=by
  unfold ones;rw[oQ,Ew];refine List.map_congr_left λc hc=>?_
  have:=hp.mem_iff.1 hc;simp only[cD,mU]at this;obtain⟨s,_,rfl⟩:=this;rfl
 have Ck:syms.Perm (aF cs cs.length):=by
  rw[oQ];have:=hp.map λc=>c.2.headD 0
  refine this.trans (List.Perm.of_eq ?_);simp[cD,Function.comp_def]
 have wg:syms.Nodup:=Ck.nodup_iff.2 (qkm _ _);have hsl:syms.length=sl.length:=by rw[oQ];simp
 obtain⟨k1,k2,k3⟩:=zdt sl hs iQ L sI (by omega) (by omega);obtain⟨m,hm⟩:=ah (2*sl.length-2);rw[<-hm]at k1 k2 k3 ⊢;obtain⟨cf,QI⟩:∃cf:Nat->Nat,cf=λs=>(ins ((row sl L).take m)).count s:=⟨_,rfl⟩
 have c1:∀i s,syms[i]?=some s->cf s=gQ sl L m i:=λi s hi=>by rw[QI];exact Z9 sl syms h1 wg i s hi L m k1
 have c0:∀s,s∉syms->cf s=0:=λs im=>by rw[QI];exact qh0 sl syms h1 s im L m k1
 have oY:∀s,s<cs.length->ae ((List.range cs.length).map cf) s=cf s:=λs im=>by simp[ae,im]
 have Co:∀s,cs.length<=s->ae ((List.range cs.length).map cf) s=0:=λs im=>by simp[ae,im]
 have fD:∀s,s∈syms↔s<cs.length/\0<ae cs s:=λs=>Ck.mem_iff.trans Dn
 refine⟨k1,hlen,?_⟩;rw[<-QI];refine⟨by simp,λl hl=>?_,λi hi=>?_,λi hi=>?_,λ_=>?_,λh=>absurd h (by omega)⟩
 ·obtain⟨s,_,rfl⟩:=mU.1 hl;by_cases hx:s∈syms
  ·obtain⟨i,hi⟩:=Dx.1 hx;rw[c1 i s hi];exact Si _ _ _ _
  ·rw[c0 s hx];exact eE _
 ·have km:=xU hi;rw[oY i km];obtain⟨j,hj⟩:=Dx.1 ((fD i).2 ⟨km,hi⟩);rw[c1 j i hj];exact k2 j (by rw[<-hsl];exact (nF.1 hj).1)
 ·by_cases km:i<cs.length
  ·rw[oY i km,c0 i λh=>by have:=((fD i).1 h).2;omega]
  ·exact Co i (by omega)
 ·rw[TU,TQ (λs=>decide (0<ae cs s)) _ _ λs im uS=>by
   rw[c0 s λh=>by have:=((fD s).1 h).2;simp at uS;omega];rfl]
  have e1:((aF cs cs.length).map λs=>wt (cf s)).sum=(syms.map λs=>wt (cf s)).sum:=(Ck.symm.map _).sum_nat;rw[show (List.range cs.length).filter (λs=>decide (0<ae cs s))=aF cs cs.length from rfl,e1,qiu,hsl];have e2:cJ sl.length (λi=>wt (cf (syms[i]?.getD 0)))=cJ sl.length (λi=>2^(L-gQ sl L m i)*2^(15-L)):=by
   refine Ui _ λi hi=>?_
   have im:=dm (l:=syms) (show i<syms.length by rw[hsl];exact hi);rw[im,ES,c1 i _ im];have h3:=k2 i hi;have h4:=Si sl L m i;unfold wt;rw[if_neg (by omega),<-mB];congr 1;omega
  rw[e2,qql,k3,<-mB,show L+(15-L)=15 from by omega]
theorem zek {L:Nat} (sI:1<=L) (h2:(aF cs cs.length).length<2):kx L cs ((List.range cs.length).map λs=>if 0<ae cs s then 1 else 0):=by
 have oY:∀s,s<cs.length->ae ((List.range cs.length).map λs=>if 0<ae cs s then 1 else 0) s=if 0<ae cs s then 1 else 0:=λs im=>by simp[ae,im]
 refine⟨by simp,λl hl=>?_,λi hi=>?_,λi hi=>?_,λh=>absurd h (by omega),λ_ l hl=>?_⟩
 ·obtain⟨s,_,rfl⟩:=mU.1 hl;split<;>omega
 ·rw[oY i (xU hi),if_pos hi];exact Nat.one_pos
 ·by_cases km:i<cs.length
  ·rw[oY i km,if_neg (by omega)]
  ·simp[ae,show cs.length<=i by omega]
 ·obtain⟨s,_,rfl⟩:=mU.1 hl;split<;>omega
open Go.RowKit lib bm bl
variable {Q cap cp g n size:Nat} {w w':World} {ms:List Mc} {l:List aD}
theorem KL (l:List aD) (B C:Nat) (h:∀c∈l,c.1<=B/\c.2.length<=C):∀k,∀c∈row l k,c.1<=B*2^k/\c.2.length<=C*2^k
 | 0,c,hc=>by simp[row]at hc
 | k+1,c,hc=>by
  have ih:=KL l B C h k;have h2:2^(k+1)=2*2^k:=by rw[qJ];omega
  rcases Sk _ _ _ hc with a|a
  ·have:=h c a;have h1:=mC (k+1);exact⟨bP this.1 (Nat.le_mul_of_pos_right _ h1),bP this.2 (Nat.le_mul_of_pos_right _ h1)⟩
  ·obtain⟨j,hj⟩:=Dx.1 a;obtain⟨u,v,hu,hv,rfl⟩:=BI _ _ _ hj;have a1:=ih u (j5 hu);have a2:=ih v (j5 hv);rw[h2,aG];refine⟨?_,?_⟩
   ·rw[show B*(2*2^k)=B*2^k+B*2^k from by rw[Nat.mul_left_comm];omega];exact Nat.add_le_add a1.1 a2.1
   ·rw[show C*(2*2^k)=C*2^k+C*2^k from by rw[Nat.mul_left_comm];omega];exact Nat.add_le_add a1.2 a2.2
theorem SN (l:List aD) (P:Nat->Prop) (h:∀c∈l,∀x∈c.2,P x):∀k,∀c∈row l k,∀x∈c.2,P x
 | 0,c,hc=>by simp[row]at hc
 | k+1,c,hc=>by
  rcases Sk _ _ _ hc with a|a
  ·exact h c a
  ·obtain⟨j,hj⟩:=Dx.1 a;obtain⟨u,v,hu,hv,rfl⟩:=BI _ _ _ hj;intro x hx;rcases jo.1 hx with b|b
   ·exact SN l P h k u (j5 hu) x b
   ·exact SN l P h k v (j5 hv) x b
def WE (Q:Nat) (ms:List Mc):Prop:=∀m∈ms,∀x∈ag m.ao,x≠Q
theorem Ins.off (h:Ins w ms l) (f:Fr [Q] w w') (ho:WE Q ms):Ins w' ms l:=
 ⟨h.1,λi m c h1 h2=>by
  have k:=h.2 i m c h1 h2
  refine⟨k.worth,k.len,k.pos,dp k.own f λx hx=>?_⟩
  have:x∈ag m.ao:=by
   cases hm:m.ao with
   | none=>rw[hm]at hx;cases hx
   | some a=>rw[hm]at hx;simp only[Value.ownBlock,fI]at hx;subst hx;simp[ag]
  have:=ho m (j5 h1) x this
  simpa using this⟩
theorem Ins.low (h:Ins w ms l):∀m∈ms,∀x∈ag m.ao,x<w.heap.size:=λm hm x hx=>by
 obtain⟨i,hi⟩:=Dx.1 hm;have cN:i<l.length:=by rw[<-h.1];exact (nF.1 hi).1
 exact si (h.2 i m _ hi (dm cN)).own (rz hx)
theorem EX {e:TypeId} {ao:OA} {xs:LV} (h:w.ownsRow 0 e size (.slice ao n cap) n xs) (hn:0<n):∃g,ao=some ⟨g,0,none⟩/\n<=cap/\cap<=maxLen:=by
 rcases h.2 with⟨_,h2⟩|⟨g,c,cur,h1,_,_,h3,h4,_⟩
 ·omega
 ·simp only[kJ,true_and]at h1;exact⟨g,h1.1,by omega,by omega⟩
theorem zhq (l:List aD) (C:Nat) (h:∀c∈l,c.2.length<=C):(ins l).length<=l.length*C:=by
 induction l with
 | nil=>simp[ins]
 | cons c l ih=>
  have h1:=ih λx hx=>h x (oH _ hx)
  have h2:=h c sT;simp only[ins,qd,aG,dw,oD]at h1 ⊢;omega
theorem row_one (l:List aD):row l 1=l:=by show lW l (aC [])=l;exact KW l
theorem TK (l:List aD):∀k,(row l k).length<=2*l.length
 | 0=>by simp[row]
 | k+1=>by rw[TL];have:=TK l k;omega
theorem Xi {e:TypeId} {ao:OA} {xs:LV} (h:w.ownsRow 0 e size (.slice ao n cap) n xs):Cs w ao xs:=by
 rcases h.2 with⟨h1,h2⟩|⟨g,aM,cur,h1,hb,hg,hn,hm,hs,ht⟩
 ·left;have:=h.1;rw[h2]at this;exact sr (by simpa using this)
 ·simp only[kJ,true_and]at h1;obtain⟨rfl,rfl⟩:=h1;refine .inr ⟨g,0,rfl,λj v hv=>?_⟩;rw[cell_of hg,iN];rw[<-ht,oG]at hv;split at hv
  ·simpa using hv
  ·cases hv
structure kZ (w:World) (Q g n cp:Nat) (ms:List Mc) (l:List aD):Prop where
 own:w.ownsRow 0 425 2 (.slice (some ⟨g,0,none⟩) n cp) n (cellsOf ms)
 ins:Ins w ms l
 off:WE Q ms
 ne:g≠Q
theorem kZ.fr (h:kZ w Q g n cp ms l) (f:Fr [] w w'):kZ w' Q g n cp ms l:=
 ⟨dp h.own f (by simp),h.ins.cG f,h.off,h.ne⟩
theorem kZ.frQ (h:kZ w Q g n cp ms l) (f:Fr [Q] w w'):kZ w' Q g n cp ms l:=
 ⟨dp h.own f (by intro k hk;simp only[Value.ownBlock,fI]at hk;subst hk;simpa using h.ne),h.ins.off f h.off,h.off,h.ne⟩
theorem kZ.len (h:kZ w Q g n cp ms l):ms.length=n/\l.length=n:=by have:=h.own.1;rw[IX]at this;have:=h.ins.1;omega
def ib (L:Nat) (cs:LN) (N:Nat) (w:World) (e:Ending) (w':World):Prop:=
 ∃g ls,e = .returned (.tuple #[.slice (some ⟨g,0,none⟩) N N,.int .i64 0])/\kx L cs ls/\Cs w' (some ⟨g,0,none⟩) (ints ls)/\w.heap.size<=g/\g<w'.heap.size/\Fr [] w w'
theorem Ow.good {L N:Nat} {cs:LN} {F:Nat->Nat} (h:Ow w' Q N F) (hN:N=cs.length) (hl:kx L cs ((List.range cs.length).map F)) (hQ:w.heap.size<=Q) (hf:Fr [] w w') :
  ib L cs N w (.returned (.tuple #[.slice (some ⟨Q,0,none⟩) N N,.int .i64 0])) w':=by
 refine⟨Q,_,rfl,hl,by rw[<-hN];exact h.cs,hQ,?_,hf⟩;obtain⟨A,hA,_⟩:=h;exact lt_of_block hA
theorem KQ (a:OA) (cap:Nat) (cs:LN) (L:Nat) (w:World) (h:Ri w a cap cs) (sI:1<=L) (vu:L<=15) (hlen:cs.length<=400) (hle:∀c∈cs,c<=2^30)
  (hn:(aF cs cs.length).length<=2^L) :
  Calls Tryz.prog 244 #[.slice a cs.length cap,.int .i64 L] w (ib L cs cs.length w):=by
 obtain⟨N,hN⟩:=ah cs.length;rw[<-hN]at hlen hn ⊢;have H:=aA h hle hN hn;clear h hle hN hn;obtain⟨hu,⟨ti,km,ur,im,q7⟩,sC,hp⟩:=rA;go_enter Tryz.func244,Tryz.ntmps244;go_upto_block 0 with fail;go_wp2;go_loopg [6,7,8,31] N (λk s6 s7 s8 s31 wr=>∃(i:Nat) (ao:OA) (n cp:Nat) (ms:List Mc),s31 = .int .i64 (i:Nat)/\s6 = .slice ao n cp/\i+k=N/\n=(aF cs i).length/\Made w wr 425 2 ao n cp (cellsOf ms)/\Ins wr ms (cD cs i));case atStart=>exact⟨0,none,0,0,[],rfl,rfl,by omega,rfl,.none w _ _,⟨rfl,λi m c h=>by simp at h⟩⟩
 case round=>
  obtain⟨i,ao,n,cp,ms,rfl,rfl,cQ,rG,hm,hIn⟩:=hrel;by_cases hi:i<N
  ·obtain⟨k,rfl⟩:∃k,gk=k+1:=⟨gk-1,by omega⟩;have cN:i<cs.length:=by rw[<-H.out.2.2.1];exact hi
   obtain⟨g,o,rfl,hc⟩:=(H.out.1.fr hm.fr).at cN;have fX:=H.out.2.1 _ (sk cN);have eh:ae cs i=cs[i]:=by unfold ae;rw[dm cN];rfl
   obtain⟨c,pU⟩:=ah (cs[i]);rw[<-pU]at hc fX eh;have dB:=qr3 cs i;have mf:=Uj cs i;rw[eh]at dB mf;have DW:n<=400:=by
    have h2:(aF cs i).length<=i:=by have:=BN (λs=>decide (0<ae cs s)) (List.range i);rw[EW]at this;exact this
    omega
   by_cases bR:c=0
   ·subst bR;rw[if_neg (by omega)]at dB mf;have HI:=cU dB mf hm hIn rG cQ;clear dB mf hm hIn rG cQ eh pU;go_wp2;go_roundg k;case measure=>omega
    case rel=>obtain⟨dB,mf,hm,hIn,rG,cQ⟩:=HI.out;exact⟨i+1,ao,n,cp,ms,by go_num,rfl,by omega,by rw[mf];exact rG,hm,by rw[dB];exact hIn⟩
   ·rw[if_pos (by omega)]at dB mf;have HI:=cU dB mf hm hIn rG cQ;clear dB mf hm hIn rG cQ eh pU;obtain⟨W1,q9⟩:∃W1,W1=wr.alloc (.cells #[.int .i64 (i:Nat)] 3 (0,0)):=⟨_,rfl⟩;obtain⟨W2,Be⟩:∃W2,W2=W1.alloc (.cells #[.int .i64 (c:Nat),.slice (some ⟨wr.heap.size,0,none⟩) 1 1] 425 (0,0)):=⟨_,rfl⟩;have gS:W1.heap.size=wr.heap.size+1:=by rw[q9,ik]
    have fW:Fr [] wr W1:=by rw[q9];exact (Fr.refl [] wr).alloc _
    have Rh:Fr [] W1 W2:=by rw[Be];exact (Fr.refl [] W1).alloc _
    have MW:In W2 ⟨c,some ⟨wr.heap.size,0,none⟩,1,1⟩ (c,[i]):=by refine⟨rfl,rfl,Nat.one_pos,rfl,.inr ⟨wr.heap.size,1,#[.int .i64 i],rfl,eE _,Rh.ag (by rw[q9];exact aV wr _) (by simp),ax _,by unfold maxLen;omega,rfl,rfl⟩⟩
    have Nf:Cs W2 (some ⟨wr.heap.size+1,0,none⟩) [.int .i64 c,.slice (some ⟨wr.heap.size,0,none⟩) 1 1]:=by refine .inr ⟨_,0,rfl,λj v hv=>?_⟩;rw[Be,<-gS,cell_of (aV W1 _),iN];simpa using hv
    have MD:=HI.out.2.2.1.ft (fW.trans Rh);have HJ:=aA MW Nf MD (fW.trans Rh);rw[q9]at Be;have Nt:=Be.symm;clear MW Nf MD fW Rh gS q9 Be;have Oh:=af Nt;clear Nt;go_upto_region 10 with fail;go_wp2_with (refine fq Kq rfl _ _ rfl (.slice ao n cp) n (cellsOf ms) (ag ao) rfl (cY ao n cp) (by rw[Oh.out];exact HJ.out.2.2.1.own) (some ⟨wr.heap.size+1,0,none⟩) 1 1 [.int .i64 c,.slice (some ⟨wr.heap.size,0,none⟩) 1 1] (by first|rfl|simp) (ax _) (λh=>by cases h) (by rw[Oh.out];exact HJ.out.2.1) rfl (by intro u hu;simp only[eX,mV,or_false]at hu;rcases hu with rfl|rfl<;>rfl) (by omega) (by unfold maxLen;omega) ?_;intro WA Wy w5 cS;rw[Oh.out]at cS;have HA:=af cS;clear cS);go_roundg k;case measure=>omega
    case rel=>
     obtain⟨dB,mf,hm,hIn,rG,cQ⟩:=HI.out;obtain⟨in2,_,MD,fW⟩:=HJ.out;refine⟨i+1,WA,n+1,Wy,ms++[⟨c,some ⟨wr.heap.size,0,none⟩,1,1⟩],by go_num,rfl,by omega,by rw[mf,aG,rG];rfl,?_,?_⟩
     ·rw[Uo];exact MD.app HA.out
     ·rw[dB];exact (Ins.append (hIn.cG fW) (Ins.one in2)).typed HA.out.fr (Te MD.own)
  ·obtain rfl:i=N:=by omega
   have lv:n<=2^L:=by rw[rG];exact H.out.2.2.2
   have zaC:n<=400:=by
    have h2:(aF cs i).length<=i:=by have:=BN (λs=>decide (0<ae cs s)) (List.range i);rw[EW]at this;exact this
    omega
   obtain⟨z,hz⟩:=ah (2^L);have e2:(2:Int)^L=(z:Int):=by rw[hz];exact xb L
   have hzb:z<=32768:=by rw[hz];exact bP (lJ (by decide) vu) (by decide)
   have I3:n<=z:=by omega
   have HI:=aQ rG hm hIn lv hz;clear rG hm hIn lv hz cQ hi;obtain⟨Q,hQ⟩:=ah wr.heap.size;have HQ:=af hQ;clear hQ;go_upto_region 15 with (refine wpList_make_full _ rfl _ _ 348 rfl 0 3 ti (.int .i64 0) 1 hu km ur im .i64 .i64 (i:Nat) (i:Nat) i rfl rfl rfl rfl (by rw[q7];omega) (by unfold maxLen;omega) (by omega) ?_;intro w3 iw iG;have H3:=ai iw iG;clear iw iG);rw[<-HQ.out]at H3 ⊢;have HS:Hid (Ow w3 Q i (λ_=>0)/\Fr [] wr w3/\Ins w3 ms (cD cs i)/\w3.ownsRow 0 425 2 (.slice ao n cp) n (cellsOf ms)/\WE Q ms/\(∀x∈ag ao,x<Q)):=af (by
    have f3:Fr [] wr w3:=(Fr.refl [] wr).grown H3.l1 (λk hk=>by cases hk)
    refine⟨O0 H3.o0,f3,HI.out.2.2.1.cG f3,dp HI.out.2.1.own f3 (by simp),λm hm x hx=>?_,λx hx=>by rw[HQ.out];exact HI.out.2.1.lt x hx⟩
    have:=HI.out.2.2.1.low m hm x hx
    rw[HQ.out];omega)
   clear H3 hu km ur im q7 sC hp e2 I3;by_cases tI:n<2
   ·go_wp2;go_loopg [11,65] n (λk s11 s65 wr=>∃t:Nat,s65 = .int .i64 (t:Nat)/\t+k=n/\Ow wr Q i (λs=>((aF cs i).take t).count s)/\Fr [Q] w3 wr);case atStart=>exact⟨0,rfl,by omega,HS.out.1.congr λs _=>by simp,.refl _ _⟩
    case round=>
     obtain⟨t,rfl,cI,how,hf⟩:=hrel;by_cases ht:t<n
     ·obtain rfl:t=0:=by omega
      obtain rfl:n=1:=by omega
      obtain⟨k2,rfl⟩:∃k2,gk=k2+1:=⟨gk-1,by omega⟩;obtain⟨h1,h2,h3,h4,h5,h6⟩:=HS.out;obtain⟨g,rfl,_,_⟩:=EX h4 (by omega);have Jp:g≠Q:=by have:=h6 g (by simp[ag]);omega
      obtain⟨m,hm⟩:∃m,ms[0]?=some m:=⟨_,dm (by rw[h3.1];have:=HI.out.1;simp[cD];omega)⟩;obtain⟨c,hc⟩:∃c,(cD cs i)[0]?=some c:=⟨_,dm (by have:=HI.out.1;simp[cD];omega)⟩;obtain⟨s0,mf⟩:∃s0,(aF cs i)[0]?=some s0:=⟨_,dm (by have:=HI.out.1;omega)⟩;have hcs:c=(ae cs s0,[s0]):=by unfold cD at hc;rw[qe,mf]at hc;simpa using hc.symm
      have hIn:=(h3.off hf h5).2 0 m c hm hc;have V9:=dp h4 hf (by simpa[Value.ownBlock] using Jp);have hd:=IL ms 0 m hm;have d0:wr.cell? ⟨g,0,none⟩=some (.int .i64 (m.worth:Nat)):=by rw[<-hd.1];exact vO V9 0 (by omega)
      have d1:wr.cell? ⟨g,1,none⟩=some (.slice m.ao m.len m.cap):=by rw[<-hd.2];exact vO V9 1 (by omega)
      obtain⟨b,A,eb,hb,dW,CF⟩:=hIn.shape;have zo:m.len=1:=by rw[hIn.len,hcs];rfl
      have aK:=hIn.own;obtain⟨mw,mao,ml,mc⟩:=m;simp only at eb zo aK dW CF d0 d1;subst eb;subst zo;have d2:wr.cell? ⟨b,0,none⟩=some (.int .i64 s0):=by have:=vO aK 0 (by omega);rw[this,hcs];rfl
      have FB:=(Dn.1 (j5 mf)).1;have fA:Fr [] wr (wr.alloc (.cells #[.int .i64 mw,.slice (some ⟨b,0,none⟩) 1 mc] 425 (0,0))):=(Fr.refl [] wr).alloc _;have d2':=fA.cell d2 (by simp);have d3:=(how.fr fA (by simp)).cell FB;have z3:=(how.fr fA (by simp)).frozen s0;have cW:=(how.fr fA (by simp)).set FB 1;have fS:Fr [Q] w3 ((wr.alloc (.cells #[.int .i64 mw,.slice (some ⟨b,0,none⟩) 1 mc] 425 (0,0))).setCell ⟨Q,s0,none⟩ (.int .i64 1)):=((hf.alloc _).setCell (by simp) _);have HJ:=aA cW fS mf cI;clear how hf mf hIn V9 hd hb aK hcs hm hc h1 h2 h3 h4 h5 h6 cI fA cW fS d2;go_wp2;go_roundg k2;case measure=>omega
      case rel=>
       obtain⟨cW,fS,mf,cI⟩:=HJ.out;refine⟨1,by go_num,by omega,cW.congr λs hs=>?_,fS⟩;have:(aF cs i).take 1=[s0]:=by
        match hx:aF cs i with
        | []=>rw[hx]at mf;simp at mf
        | y::ys=>rw[hx]at mf;simp at mf;simp[mf]
       rw[this,sW];by_cases e:s=s0
       ·subst e;simp
       ·simp[e,pM e]
     ·obtain rfl:t=n:=by omega
      have HJ:=ai how hf;clear how hf cI;go_wp2;go_ret2;have hN:=H.out.2.2.1;have rG:=HI.out.1;refine (HJ.out.1.congr (G:=λs=>if 0<ae cs s then 1 else 0) λs hs=>?_).good hN (zek sI (by rw[<-hN,<-rG];exact tI)) (by rw[HQ.out];exact HI.out.2.1.fr.size) ((HI.out.2.1.fr.trans HS.out.2.1).step HJ.out.2 λx hx=>.inr (by simp at hx;rw[hx,HQ.out];exact HI.out.2.1.fr.size));by_cases h0:0<ae cs s
      ·rw[if_pos h0];obtain⟨j,hj⟩:=Dx.1 (Dn.2 ⟨hs,h0⟩);have:=Ut _ (qkm cs i) t j s hj;rw[this,if_pos (by rw[rG];exact (nF.1 hj).1)]
      ·rw[if_neg h0];exact List.count_eq_zero_of_not_mem λh=>h0 (Dn.1 (sV h)).2
   ·have hB:∀c∈cD cs i,c.1<=2^30/\c.2.length<=1:=λc hc=>by simp only[cD,mU]at hc;obtain⟨s,hs,rfl⟩:=hc;refine⟨?_,ax _⟩;have im:=xU (Dn.1 hs).2;exact H.out.2.1 _ (Dh im)
    obtain⟨h1,h2,h3,h4,h5,h6⟩:=HS.out;obtain⟨g,rfl,_,_⟩:=EX h4 (by omega);have Jp:g≠Q:=by have:=h6 g (by simp[ag]);omega
    have y6:=qnw g n cp ms (cD cs i) w3 h4 h3 (by omega) (λc hc=>by have:=(hB c hc).1;omega);unfold jF at y6;have HR:=aq y6 hB Jp;clear y6 hB Jp h1 h2 h3 h4 h5 h6;obtain⟨L1,ND⟩:∃L1,L1=L-1:=⟨_,rfl⟩;have e3:(L:Int)-1=(L1:Int):=by omega
    have HL1:=af ND;clear ND;go_upto_block 4 with (go_at_call 296;refine HR.o0.mono ?_;rintro e w4 ⟨rfl,Qb,sl,o4,Qe,RV,OB,f4,B4⟩;have H4:=cU o4 Qe RV OB f4 B4;clear o4 Qe RV OB f4 B4);have HA:Hid (kZ w4 Q g n cp Qb sl/\Ow w4 Q i (λ_=>0)/\(∀c∈sl,c.1<=2^30/\c.2.length<=1)/\Fr [] w w4):=af (by
     obtain⟨o4,Qe,RV,OB,f4,B4⟩:=H4.out
     obtain⟨h1,h2,h3,h4,h5,h6⟩:=HS.out
     have tP:=h6 g (by simp[ag])
     refine⟨⟨o4,Qe,λm hm=>h5 m (B4 m hm),HR.l2⟩,h1.fr f4 (by simpa using (pM HR.l2)),λc hc=>HR.o1 c ((OB.mem c).1 hc),(HI.out.2.1.fr.trans h2).step f4 λx hx=>.inr ?_⟩
     simp only[eF]at hx
     rw[hx]
     exact HI.out.2.1.new g (by simp[ag]))
    go_wp2;go_loopg [13,83] L1 (λk s13 s83 wr=>∃(t g2 n2 fx:Nat) (Lp:List Mc),s13 = .slice (some ⟨g2,0,none⟩) n2 fx/\s83 = .int .i64 (t:Nat)/\t+k=L1/\kZ wr Q g2 n2 fx Lp (row sl (t+1))/\Fr [] w4 wr);case atStart=>exact⟨0,g,n,cp,Qb,rfl,rfl,by omega,by rw[row_one];exact HA.out.1,.refl _ _⟩
    case round=>
     obtain⟨t,g2,n2,fx,Lp,rfl,rfl,cI,mE,hf⟩:=hrel;by_cases ht:t<L1
     ·obtain⟨k,rfl⟩:∃k,gk=k+1:=⟨gk-1,by omega⟩;have eh:=HA.out.1.fr hf;have lv:n2<=800:=by have:=TK sl (t+1);rw[mE.len.2,eh.len.2]at this;omega
      have htL:t+1<=15:=by have:=HL1.out;omega
      have zj:2^(t+1)<=2^15:=lJ (by decide) htL;have Mh:∀c∈row sl (t+1),c.1<=2^50/\c.2.length<=100000:=λc hc=>by have:=KL sl (2^30) 1 HA.out.2.2.1 (t+1) c hc;omega
      have oT:=qq7 g2 n2 fx Lp (row sl (t+1)) wr mE.own mE.ins mE.len.1 (by omega) Mh;have Mg:∀c∈sl++aC (row sl (t+1)),c.1<=2^50:=λc hc=>by
       rcases jo.1 hc with q|q
       ·have:=HA.out.2.2.1 c q;omega
       ·obtain⟨j,hj⟩:=Dx.1 q;obtain⟨u,v,hu,hv,rfl⟩:=BI _ _ _ hj;have b1:=KL sl (2^30) 1 HA.out.2.2.1 (t+1) u (j5 hu);have b2:=KL sl (2^30) 1 HA.out.2.2.1 (t+1) v (j5 hv);show u.1+v.1<=_;omega
      have jq:(aC (row sl (t+1))).length<=800:=by rw[BM,mE.len.2];omega
      have HJ:=eW oT Mg eh mE hf cI jq;clear oT Mh Mg eh mE hf cI zj jq;go_upto_region 28 with (first
       | (go_at_call 298;refine HJ.out.1.mono ?_;rintro e w5 ⟨uh,k3,xK,ms3,rfl,uY,Fe,in5,nb5⟩;have Vs:k3<=800:=(by rw[uY];exact HJ.out.2.2.2.2.2.2);have h6:=quf w5.heap.size (some ⟨g,0,none⟩) uh n k3 cp xK (cellsOf Qb) (cellsOf ms3) (w5.alloc (.cells #[.slice (some ⟨g,0,none⟩) n cp,.slice uh k3 xK] 423 (0,0))) (aV w5 _) (Xi (dp HJ.out.2.2.1.own (Fe.fr.alloc _) (by simp))) (Xi (dp Fe.own ((Fr.refl [] w5).alloc _) (by simp))) HJ.out.2.2.1.own.1 Fe.own.1 (EX HJ.out.2.2.1.own (by omega)).choose_spec.2.1 Fe.le (λh=>by cases h) Fe.nil (qm9 _) (qm9 _) (by omega) (by omega);have H5:=aQ uY Fe in5 nb5 h6;clear uY Fe in5 nb5 h6)
       | (go_at_call 297;refine H5.l4.mono ?_;rintro e w7 ⟨ao7,cp7,rfl,B5⟩;have H7:=af B5;clear B5))
      obtain⟨g7,e7,zbC,zbB⟩:=EX H7.out.own (by omega);subst e7;obtain⟨w6,yd⟩:=ah (w5.alloc (.cells #[.slice (some ⟨g,0,none⟩) n cp,.slice uh k3 xK] 423 (0,0)));have f56:Fr [] w5 w6:=by rw[yd];exact (Fr.refl [] w5).alloc _
      have B5:=H7.out;rw[<-yd]at B5;have fall:Fr [] wr w7:=(H5.o1.fr.trans f56).trans B5.fr;have Jw:Q<wr.heap.size:=by obtain⟨A,hA,_⟩:=HA.out.2.1;exact fM (lt_of_block hA) HJ.out.2.2.2.2.1.size
      have QB:wr.heap.size<=g7:=bP (H5.o1.fr.trans f56).size (B5.new g7 (by simp[ag]));have Vs:k3<=800:=by rw[H5.o0];exact HJ.out.2.2.2.2.2.2
      have Ja:=qnw g7 (n+k3) cp7 (Qb++ms3) (sl++aC (row sl (t+1))) w7 (by rw[Uo];exact B5.own) (Ins.append (HJ.out.2.2.1.ins.cG fall) (H5.o2.cG (f56.trans B5.fr))) (by omega) HJ.out.2.1;unfold jF at Ja;have H8:=aA Ja fall Jw QB;clear Ja fall Jw QB B5 f56 yd;go_wp2_with (go_at_call 296;refine H8.out.1.mono ?_;rintro e w8 ⟨rfl,ms8,l8,o8,LC,OD,EF,f8,B3⟩;have H9:=cU o8 LC OD EF f8 B3;clear o8 LC OD EF f8 B3);go_roundg k;case measure=>omega
      case rel=>
       obtain⟨_,fall,Jw,QB⟩:=H8.out;obtain⟨o8,LC,OD,EF,f8,B3⟩:=H9.out;obtain⟨_,_,eh,mE,hf,cI,_⟩:=HJ.out;have el:l8=row sl (t+1+1):=qwt H4.out.2.2.1 (qkt _ (TM sl H4.out.2.2.1 _)) OD EF;rw[el]at LC;refine⟨t+1,g7,n+k3,cp7,ms8,rfl,by go_num,by omega,⟨o8,LC,λm hm x hx=>?_,by omega⟩,(hf.trans fall).step f8 λx hx=>.inr ?_⟩
       ·rcases jo.1 (B3 m hm) with q|q
        ·exact eh.off m q x hx
        ·have:=H5.o3 m q x hx;omega
       ·simp only[eF]at hx;rw[hx];exact bP hf.size QB
     ·obtain rfl:t=L1:=by omega
      have ok:=zhl (cs:=cs) sI vu H4.out.2.2.1 (by rw[<-H.out.2.2.1];exact H4.out.2.2.2.1) (by rw[<-H.out.2.2.1,<-HI.out.1];omega) (by rw[<-H.out.2.2.1];exact H.out.2.2.2);obtain⟨R,hR⟩:=ah (row sl L);rw[show t+1=L from by have:=HL1.out;omega,<-hR]at mE;rw[<-hR,HA.out.1.len.2]at ok;obtain⟨m,hm⟩:=ah (2*n-2);rw[<-hm]at ok;have zaV:n2<=800:=by have:=TK sl L;rw[<-hR,mE.len.2,HA.out.1.len.2]at this;omega
      have hmn:m<=n2:=by have:=ok.1;rw[mE.len.2]at this;exact this
      have e4:2*(n:Int)-2=(m:Int):=by omega
      have Mh:∀c∈R,c.2.length<=32768:=λc hc=>by rw[hR]at hc;have:=(KL sl (2^30) 1 HA.out.2.2.1 L c hc).2;have pX:2^L<=2^15:=lJ (by decide) vu;omega
      have dI:n2<=fx/\fx<=maxLen:=(EX mE.own (by omega)).choose_spec.2;have zaE:n2<=fx:=dI.1;have pT:m<=fx:=by omega
      have Gl:fx<=9223372036854775807:=dI.2;have oQ:∀c∈R,∀x∈c.2,x<i:=λc hc=>by rw[hR]at hc;refine SN sl (·<i) (λc hc x hx=>?_) L c hc;have h2:=(H4.out.2.2.2.1.mem c).1 hc;simp only[cD,mU]at h2;obtain⟨s,hs,rfl⟩:=h2;simp only[eF]at hx;rw[hx];exact (Dn.1 hs).1
      have HK:=eW ok.2.2 mE (HA.out.2.1.fr hf (by simp)) (HA.out.2.2.2.trans hf) Mh oQ cI;clear ok mE hf cI Mh hR hm dI oQ;obtain⟨wo,rfl⟩:∃wo:World,wo=wr:=⟨_,rfl⟩;go_wp2;go_loopg [15,17,101,108] m (λk s15 s17 s101 s108 wr=>∃t:Nat,s101 = .int .i64 (t:Nat)/\t+k=m/\Ow wr Q i (λs=>(ins (R.take t)).count s)/\Fr [Q] wo wr);case atStart=>exact⟨0,rfl,by omega,HK.out.2.2.1.congr λs _=>by simp[ins],.refl _ _⟩
      case round=>
       obtain⟨t,rfl,cI,how,hf⟩:=hrel;by_cases ht:t<m
       ·obtain⟨k,rfl⟩:∃k,gk=k+1:=⟨gk-1,by omega⟩;have mE:=HK.out.2.1.frQ hf;obtain⟨mc,pT⟩:∃mc,Lp[t]?=some mc:=⟨_,dm (by rw[mE.len.1];omega)⟩;obtain⟨c,hc⟩:∃c,R[t]?=some c:=⟨_,dm (by rw[mE.len.2];omega)⟩;have hIn:=mE.ins.2 t mc c pT hc;have hd:=IL Lp t mc pT;have d0:wr.cell? ⟨g2,t*2,none⟩=some (.int .i64 (mc.worth:Nat)):=by rw[<-hd.1];exact vO mE.own _ (by omega)
        have d1:wr.cell? ⟨g2,t*2+1,none⟩=some (.slice mc.ao mc.len mc.cap):=by rw[<-hd.2];exact vO mE.own _ (by omega)
        obtain⟨b,A,eb,hb,dW,CF⟩:=hIn.shape;have tG:b≠Q:=mE.off mc (j5 pT) b (by rw[eb];simp[ag]);have zo:=hIn.len;have fX:c.2.length<=32768:=HK.out.2.2.2.2.1 c (j5 hc);have hcs:=HK.out.2.2.2.2.2.1 c (j5 hc);have aK:=hIn.own;have iE:ins (R.take (t+1))=ins (R.take t)++c.2:=by rw[BJ,hc,lr];simp[ins]
        have cN:(ins (R.take t)).length<=800*32768:=by
         have h1:=zhq (R.take t) 32768 (λc hc=>HK.out.2.2.2.2.1 c (sV hc));have h2:(R.take t).length<=800:=by rw[fH];omega
         exact bP h1 (Aw _ h2)
        obtain⟨mw,mao,ml,mcp⟩:=mc;simp only at eb zo aK dW CF d0 d1;subst eb;obtain⟨W1,q9⟩:∃W1,W1=wr.alloc (.cells #[.int .i64 (mw:Nat),.slice (some ⟨b,0,none⟩) ml mcp] 425 (0,0)):=⟨_,rfl⟩;have fA:Fr [] wr W1:=by rw[q9];exact (Fr.refl [] wr).alloc _
        have QH:Fr [Q] wo W1:=by rw[q9];exact hf.alloc _
        have HJ:=lf (how.fr fA (by simp)) (dp aK fA (by simp)) hcs iE cN zo cI QH;have zaW:ml<=32768:=by omega
        clear how hf hIn hd hb aK pT hc hcs iE cN cI mE fA QH zo;have Oj:=af q9.symm;clear q9;go_upto_block 8 with fail;rw[Oj.out];go_wp2;go_loopg [17,108] ml (λk s17 s108 wr=>∃u:Nat,s108 = .int .i64 (u:Nat)/\u+k=ml/\Ow wr Q i (λs=>(ins (R.take t)++c.2.take u).count s)/\Fr [Q] W1 wr);case atStart=>exact⟨0,rfl,by omega,HJ.out.1.congr λs _=>by simp,.refl _ _⟩
        case round=>
         obtain⟨u,rfl,Qk,how,hf⟩:=hrel;by_cases hu:u<ml
         ·obtain⟨k2,rfl⟩:∃k2,gk=k2+1:=⟨gk-1,by omega⟩;have aK:=dp HJ.out.2.1 hf (by intro k hk;simp only[Value.ownBlock,fI]at hk;subst hk;simpa using tG);obtain⟨s,hs⟩:∃s,c.2[u]?=some s:=⟨_,dm (by have:=HJ.out.2.2.2.2.2.1;omega)⟩;have d2:wr.cell? ⟨b,u,none⟩=some (.int .i64 s):=by have:=vO aK u (by omega);rw[this];simp[ints,hs]
          have FB:=HJ.out.2.2.1 s (j5 hs);have d3:=how.cell FB;have z3:=how.frozen s;obtain⟨F,hF⟩:=ah ((ins (R.take t)++c.2.take u).count s);have tV:F<=30000000:=by rw[hF];have h1:=JX (a:=s) (l:=ins (R.take t)++c.2.take u);rw[aG,fH]at h1;have:=HJ.out.2.2.2.2.1;omega
          rw[<-hF]at d3;have cW:=how.set FB (F+1);have fS:=hf.setCell (p:=⟨Q,s,none⟩) (by simp) (.int .i64 ((F+1:Nat):Nat));have HL:=aQ cW fS hF hs Qk;clear how hf aK hs cW fS hF Qk;go_wp2;go_roundg k2;case measure=>omega
          case rel=>
           obtain⟨cW,fS,hF,hs,Qk⟩:=HL.out;refine⟨u+1,by go_num,by omega,?_,?_⟩
           ·refine Ow.congr ?_ (F:=λt'=>if t'=s then F+1 else (ins (R.take t)++c.2.take u).count t') λs' _=>?_
            ·first|exact cW|simpa using cW
            ·rw[BJ,hs,Option.toList_some,<-fU,Df];by_cases e:s'=s
             ·subst e;rw[if_pos rfl,hF];simp[pP]
             ·rw[if_neg e];simp[pM e]
           ·first|exact fS|simpa using fS
         ·obtain rfl:u=ml:=by omega
          have HL:=ai how hf;clear how hf Qk;go_wp2;go_roundg k;case measure=>omega
          case rel=>obtain⟨_,_,_,iE,_,zo,cI,QH⟩:=HJ.out;refine⟨t+1,by go_num,by omega,HL.out.1.congr λs _=>?_,QH.trans HL.out.2⟩;rw[lL (l:=c.2) (by omega),iE]
       ·obtain rfl:t=m:=by omega
        have HJ:=ai how hf;clear how hf cI;go_wp2;go_ret2;obtain⟨ok,mE,_,fw,_⟩:=HK.out;exact HJ.out.1.good H.out.2.2.1 ok (by rw[HQ.out];exact HI.out.2.1.fr.size) (fw.step HJ.out.2 λx hx=>.inr (by simp at hx;rw[hx,HQ.out];exact HI.out.2.1.fr.size))
end huf

end Go.Proofs.YticadfhpolhkeaaGreatDoor