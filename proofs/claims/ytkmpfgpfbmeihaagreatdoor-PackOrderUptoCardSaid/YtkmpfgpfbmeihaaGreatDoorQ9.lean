/-
  Texts of this proof, one behind the other: Packs, SortG, HuffCnt, LensLaw, Lens.
-/
import Derived.Test.YtkmpfgpfbmeihaaGreatDoorQ8
set_option maxHeartbeats 16000000
set_option maxRecDepth 100000
set_option linter.unusedVariables false
set_option linter.unusedSimpArgs false
namespace Go.Proofs.YtkmpfgpfbmeihaaGreatDoor
namespace huf
open Go Go.RowKit lib bm bl
def cellsOf (ms:List Mc):List Value:=ms.flatMap λm=>[.int .i64 (m.worth:Nat),.slice m.ao m.len m.cap]
theorem Lw (ms:List Mc):(cellsOf ms).length=ms.length*2:=by
 induction ms with
 | nil=>rfl
 | cons m ms ih=>simp only[cellsOf,vX,aA,bU,kg]at ih ⊢;omega
theorem Xw (a b:List Mc):cellsOf (a++b)=cellsOf a++cellsOf b:=by simp[cellsOf]
theorem Lr:∀(ms:List Mc) (i:Nat) (m:Mc),ms[i]?=some m->(cellsOf ms)[i*2]?=some (.int .i64 (m.worth:Nat))/\(cellsOf ms)[i*2+1]?=some (.slice m.ao m.len m.cap)
 | [],i,m,h=>by simp at h
 | x::ms,0,m,h=>by
  simp only[aT,eJ]at h;subst h;exact⟨rfl,rfl⟩
 | x::ms,i+1,m,h=>by have:=Lr ms i m (by simpa using h);rw[show (i+1)*2=i*2+2 from by omega];exact this
theorem qob (ms:List Mc):∀u∈cellsOf ms,u.oneCell'=true:=by intro u hu;simp only[cellsOf,List.mem_flatMap,fP,wL,or_false]at hu;obtain⟨m,_,rfl|rfl⟩:=hu<;>rfl
structure In (w:World) (m:Mc) (c:aF):Prop where
 worth:m.worth=c.1
 len:m.len=c.2.length
 pos:0<m.len
 own:w.ownsRow 0 3 1 (.slice m.ao m.len m.cap) m.len (ints c.2)
theorem In.shape {w:World} {m:Mc} {c:aF} (h:In w m c):∃b A,m.ao=some ⟨b,0,none⟩/\w.heap[b]?=some (.cells A 3 (0,0))/\m.len<=m.cap/\m.cap<=maxLen:=by
 rcases h.own.2 with⟨h1,h2⟩|⟨g,cap,cur,h1,_,h2,h3,h4,_,_⟩
 ·have:=h.pos;omega
 ·simp only[mV,true_and]at h1;obtain⟨e1,e2⟩:=h1;exact⟨g,cur,e1,h2,by omega,by omega⟩
theorem In.fr {S:LN} {w w':World} {m:Mc} {c:aF} (h:In w m c) (f:Fr S w w') (hS:∀x∈S,∀A fz,w.heap[x]?≠some (.cells A 3 fz)):In w' m c:=by refine⟨h.worth,h.len,h.pos,dr h.own f λk hk=>?_⟩;obtain⟨b,A,e,hb,_,_⟩:=h.shape;rw[e]at hk;simp only[Value.ownBlock,eJ]at hk;subst hk;exact λhx=>hS _ hx A _ hb
theorem In.dQ {w w':World} {m:Mc} {c:aF} (h:In w m c) (f:Fr [] w w'):In w' m c:=h.fr f (by simp)
def lr (w:World) (ms:List Mc) (l:List aF):Prop:=ms.length=l.length/\∀(i:Nat) (m:Mc) (c:aF),ms[i]?=some m->l[i]?=some c->In w m c
theorem lr.dQ {w w':World} {ms:List Mc} {l:List aF} (h:lr w ms l) (f:Fr [] w w'):lr w' ms l:=⟨h.1,λi m c h1 h2=>(h.2 i m c h1 h2).dQ f⟩
theorem Wp {w:World} {e:TypeId} {size:Nat} {ao:OA} {n cap:Nat} {xs:LV} (h:w.ownsRow 0 e size (.slice ao n cap) n xs):∀x∈af ao,∃A,w.heap[x]?=some (.cells A e (0,0)):=by
 intro x hx;have Aw:=qi (n:=n) (cap:=cap) hx;rcases h.2 with⟨h1,_⟩|⟨g,c,cur,h1,_,h2,_⟩
 ·rw[h1]at Aw;cases Aw
 ·rw[h1]at Aw;simp only[Value.ownBlock,eJ]at Aw;subst Aw;exact⟨cur,h2⟩
theorem lr.typed {S:LN} {w w':World} {ms:List Mc} {l:List aF} (h:lr w ms l) (f:Fr S w w') (hS:∀x∈S,∃A,w.heap[x]?=some (.cells A 258 (0,0))):lr w' ms l:=
 ⟨h.1,λi m c h1 h2=>(h.2 i m c h1 h2).fr f λx hx A fz hA=>by
  obtain⟨B,hB⟩:=hS x hx
  rw[hB]at hA
  simp at hA⟩
theorem lr.append {w:World} {ms mX:List Mc} {l l':List aF} (h:lr w ms l) (h':lr w mX l'):lr w (ms++mX) (l++l'):=by
 refine⟨by simp[h.1,h'.1],λi m c h1 h2=>?_⟩;rcases kI i ms.length with k|k
 ·rw[rO k]at h1;rw[rO (by rw[<-h.1];exact k)]at h2;exact h.2 i m c h1 h2
 ·rw[ye k]at h1;rw[ye (by rw[<-h.1];exact k)]at h2;rw[<-h.1]at h2;exact h'.2 _ m c h1 h2
theorem lr.one {w:World} {m:Mc} {c:aF} (h:In w m c):lr w [m] [c]:=by
 refine⟨rfl,λi m' c' h1 h2=>?_⟩;match i with
 | 0=>simp only[aT,eJ]at h1 h2;subst h1;subst h2;exact h
 | i+1=>simp at h1
theorem qox:∀(l:List aF) (j:Nat) (x y:aF),l[2*j]?=some x->l[2*j+1]?=some y->aC (l.take (2*(j+1)))=aC (l.take (2*j))++[(x.1+y.1,x.2++y.2)]
 | l,0,x,y,h1,h2=>by
  match l with
  | []=>simp at h1
  | [a]=>simp at h2
  | a::b::t=>
   simp only[Nat.mul_zero,aT,eJ,ft,bP]at h1 h2;subst h1;subst h2;rfl
 | l,j+1,x,y,h1,h2=>by
  match l with
  | []=>simp at h1
  | [a]=>simp[show 2*(j+1)=2*j+1+1 from by omega]at h1
  | a::b::t=>rw[show 2*(j+1)=2*j+1+1 from by omega]at h1;rw[show 2*(j+1)+1=2*j+1+1+1 from by omega]at h2;simp only[bP]at h1 h2;have:=qox t j x y h1 h2;rw[show 2*(j+1+1)=2*(j+1)+1+1 from by omega,show 2*(j+1)=2*j+1+1 from by omega];simp only[qs];simp only[aC,zi];rw[show 2*j+1+1=2*(j+1) from by omega,this]
theorem qyx (l:List aF) (j:Nat) (h:l.length<=2*j+1):aC (l.take (2*j))=aC l:=by
 induction j generalizing l with
 | zero=>
  match l with
  | []=>rfl
  | [a]=>rfl
  | a::b::t=>simp at h
 | succ j ih=>
  match l with
  | []=>rfl
  | [a]=>simp[show 2*(j+1)=2*j+1+1 from by omega]
  | a::b::t=>rw[show 2*(j+1)=2*j+1+1 from by omega];simp only[qs,aC];rw[ih t (by simp only[bU]at h;omega)]
theorem ziv {w:World} {m1 m2:Mc} {x y:aF} (h1:In w m1 x) (h2:In w m2 y) (b1:m1.len<=400000) (b2:m2.len<=400000) (q:Nat) (hq:w.heap[q]?=some (.cells #[.slice m1.ao m1.len m1.cap,.slice m2.ao m2.len m2.cap] 28 (0,0))) :
  Calls Tryz.prog 184 #[.slice (some ⟨q,0,none⟩) 2 2] w λe w'=>∃ao cap,e = .returned (.slice ao (m1.len+m2.len) cap)/\Fr [] w w'/\(∀x∈af ao,w.heap.size<=x)/\∀W,W=x.1+y.1->In w' ⟨W,ao,m1.len+m2.len,cap⟩ (x.1+y.1,x.2++y.2):=by
 obtain⟨g1,A1,e1,_,l1,_⟩:=h1.shape;obtain⟨g2,A2,e2,_,l2,_⟩:=h2.shape;have i1:(ints x.2).length=m1.len*1:=by simp[ints,h1.len]
 have i2:(ints y.2).length=m2.len*1:=by simp[ints,h2.len]
 refine (qxc q m1.ao m2.ao m1.len m2.len m1.cap m2.cap (ints x.2) (ints y.2) w hq (C8 h1.own) (C8 h2.own) i1 i2 l1 l2 (λh=>by rw[e1]at h;cases h) (λh=>by rw[e2]at h;cases h) (Sf _) (Sf _) b1 b2).mono ?_;rintro e w' ⟨ao,cap,rfl,hm⟩;refine⟨ao,cap,rfl,hm.fr,hm.new,λW hW=>⟨hW,by simp[h1.len,h2.len],by have:=h1.pos;simp only;omega,?_⟩⟩;have:=hm.own;rwa [show ints x.2++ints y.2=ints (x.2++y.2) from by simp[ints]]at this
theorem qrm (g n cap:Nat) (ms:List Mc) (l:List aF) (w:World) (eF:w.ownsRow 0 258 2 (.slice (some ⟨g,0,none⟩) n cap) n (cellsOf ms)) (dP:lr w ms l) (hn:ms.length=n) (hb:n<=100000)
  (hl:∀c∈l,c.1<=2^50/\c.2.length<=100000) :
  Calls Tryz.prog 163 #[.slice (some ⟨g,0,none⟩) n cap] w λe w'=>∃ao k cp mX,e = .returned (.slice ao k cp)/\k=(aC l).length/\Made w w' 258 2 ao k cp (cellsOf mX)/\lr w' mX (aC l)/\∀m∈mX,∀x∈af m.ao,w.heap.size<=x:=by
 have H:=aG eF dP hn hl;clear eF dP hn hl;obtain⟨hu,⟨ti,iR,v8,gT,sN⟩,uv,hp⟩:=Ns;go_enter Tryz.func163,Tryz.ntmps163;go_wp2;go_loopg [3,4] n (λk s3 s4 wr=>∃(j:Nat) (ao:OA) (cp i:Nat) (mX:List Mc),s3 = .slice ao j cp/\s4 = .int .i64 (i:Nat)/\i=2*j/\i+k=n+(if i<=n then 0 else 1)/\i<=n+1/\Made w wr 258 2 ao j cp (cellsOf mX)/\lr wr mX (aC (l.take (2*j)))/\∀m∈mX,∀x∈af m.ao,w.heap.size<=x);case atStart=>exact⟨0,none,0,0,[],rfl,rfl,rfl,by simp,by omega,.none w _ _,⟨rfl,λi m c h=>by simp at h⟩,λm hm=>by simp at hm⟩
 case round=>
  obtain⟨j,ao,cp,i,mX,rfl,rfl,mO,hk,PK,hm,zR⟩:=hrel;obtain⟨y,hy⟩:=ai (i+1);have e0:(i:Int)+1=(y:Int):=by omega
  by_cases bg:y<n
  ·have HB:=ah zR.2;have hIn:=zR.1;clear zR;obtain⟨eF,dP,qI,hl⟩:=H.out;have Gr:=dr eF hm.fr (by simp);obtain⟨m1,jt⟩:∃m1,ms[i]?=some m1:=⟨_,br (by omega)⟩;obtain⟨m2,iy⟩:∃m2,ms[y]?=some m2:=⟨_,br (by omega)⟩;obtain⟨c1,cY⟩:∃c1,l[i]?=some c1:=⟨_,br (by rw[<-dP.1];omega)⟩;obtain⟨c2,jD⟩:∃c2,l[y]?=some c2:=⟨_,br (by rw[<-dP.1];omega)⟩;have I1:=(dP.2 i m1 c1 jt cY).dQ hm.fr;have I2:=(dP.2 y m2 c2 iy jD).dQ hm.fr;have B1:=hl c1 (gB cY);have B2:=hl c2 (gB jD);have cc:∀(z:Nat) (m:Mc),ms[z]?=some m->z<n->∀W,(sup [] wr.drew W).cell? ⟨g,z*2,none⟩=some (.int .i64 (m.worth:Nat))/\(sup [] wr.drew W).cell? ⟨g,z*2+1,none⟩=some (.slice m.ao m.len m.cap):=λz m hz LH W=>by have h2:=dr (dr Gr (Fr.av [] wr) (by simp)) (dY [] wr.drew W) (by simp);have:=Lr ms z m hz;rw[<-this.1,<-this.2];exact⟨yb h2 _ (by omega),yb h2 _ (by omega)⟩
   have d1:=λW=>(cc i m1 jt (by omega) W).1
   have d2:=λW=>(cc i m1 jt (by omega) W).2
   have d3:=λW=>(cc y m2 iy bg W).1
   have d4:=λW=>(cc y m2 iy bg W).2
   have v1:m1.worth<=2^50:=by rw[I1.worth];exact B1.1
   have v2:m2.worth<=2^50:=by rw[I2.worth];exact B2.1
   have v3:m1.len<=100000:=by rw[I1.len];exact B1.2
   have v4:m2.len<=100000:=by rw[I2.len];exact B2.2
   have hjj:j<=100000:=by omega
   have g1:decide ((n:Int)<=(i:Int))=false:=by simp;omega
   have g2:decide ((n:Int)<=(y:Int))=false:=by simp;omega
   obtain⟨W,hW⟩:=ai (m1.worth+m2.worth);have e9:(m1.worth:Int)+(m2.worth:Int)=(W:Int):=by omega
   have HW:=ah hW;clear hW;have HI:=oU I1 I2 hm hIn hk mO cY jD hy;clear eF dP hl Gr jt iy cY jD I1 I2 B1 B2 cc hm hIn hk mO hy;go_upto_region 5 with fail;refine j4 28 [(false,0),(false,1),(false,2),(false,3),(false,4),(false,5),(false,6),(false,7),(false,8),(false,9),(false,10),(false,11),(false,12),(false,13),(false,14),(false,15),(false,16),(false,17),(false,18),(false,19),(false,20),(false,21),(false,22),(false,23),(true,24),(true,25),(true,26),(true,27)] [] (by kernel_rfl) (by kernel_rfl) (λ_ _ d _ _ h=>by cases d<;>exact h) ?_;simp only[jm];refine dT 24 rfl ?_;simp only[bD];repeat (go_big_quiet_step (fail))
   refine wpQuiet_nil ?_;clear d1 d2 d3 d4;refine eT rfl ?_;intro K hK;go_wp2;refine hK.out _ _ (Fr.bA ((Fr.refl [] wr).alloc _).drew) ?_;clear hK K;obtain⟨w2,bL⟩:=ai ((wr.alloc (.cells #[.slice m1.ao m1.len m1.cap,.slice m2.ao m2.len m2.cap] 28 (0,0))).drew);have O4:w2.heap[wr.heap.size]?=some (.cells #[.slice m1.ao m1.len m1.cap,.slice m2.ao m2.len m2.cap] 28 (0,0)):=by rw[bL];exact bC wr _
   have f2:Fr [] wr w2:=by rw[bL];exact ((Fr.refl [] wr).alloc _).drew
   rw[<-bL];have vy:=ziv (HI.out.1.dQ f2) (HI.out.2.1.dQ f2) (by omega) (by omega) _ O4;have HC:=ak vy f2;clear vy f2 O4 bL;refine eT rfl ?_;intro K hK;go_wp2_with (go_at_call 184;refine HC.o0.mono ?_;rintro e w3 ⟨vO,zV,rfl,f3,N9,Tk⟩);refine hK.out _ _ f3 ?_;clear hK K;have H3:=aw f3 N9 Tk;clear f3 Tk N9;refine eT rfl ?_;intro K hK;go_wp2;refine hK.out _ _ (Fr.refl [] w3) ?_;clear hK K;refine eT rfl ?_;intro K hK;go_wp2;refine hK.out _ _ ((Fr.refl [] w3).alloc _) ?_;clear hK K;obtain⟨w4,gw⟩:∃w4,w4=w3.alloc (.cells #[.int .i64 (W:Nat),.slice vO (m1.len+m2.len) zV] 258 (0,0)):=⟨_,rfl⟩;have f4:Fr [] w3 w4:=by rw[gw];exact (Fr.refl [] w3).alloc _
   have c4:Cs w4 (some ⟨w3.heap.size,0,none⟩) [.int .i64 W,.slice vO (m1.len+m2.len) zV]:=by refine .inr ⟨_,0,rfl,λk v hv=>?_⟩;rw[gw,cell_of (bC w3 _),ft];simpa using hv
   rw[<-gw];have Pt:=HI.out.2.2.1.eG ((HC.l1.trans H3.out.1).trans f4);have HD:=aw Pt c4 f4;clear Pt c4 f4 gw;refine ic ?_;go_wp2_with (refine gM Ns rfl _ _ rfl (.slice ao j cp) j (cellsOf mX) (af ao) rfl (dD ao j cp) HD.out.1.own (some ⟨w3.heap.size,0,none⟩) 1 1 [.int .i64 W,.slice vO (m1.len+m2.len) zV] rfl (ay _) (λh=>by cases h) HD.out.2.1 rfl (by intro u hu;simp only[fP,wL,or_false]at hu;rcases hu with rfl|rfl<;>rfl) (by omega) (by unfold maxLen;omega) ?_;intro ao5 cp5 w5 bN;have HA:=ah bN;clear bN);go_roundg (gk-2);case measure=>obtain⟨_,_,_,_,hk,mO,_,_,hy⟩:=HI.out;simp only[show i<=n from by omega,if_true]at hk;omega
   case rel=>
    obtain⟨I1,I2,hm,hIn,hk,mO,cY,jD,hy⟩:=HI.out;simp only[show i<=n from by omega,if_true]at hk;obtain⟨Pt,c4,f4⟩:=HD.out;obtain⟨f3,N9,Tk⟩:=H3.out;have bN:=HA.out;refine⟨j+1,ao5,cp5,i+2,mX++[⟨W,vO,m1.len+m2.len,zV⟩],rfl,by go_num,by omega,?_,by omega,?_,?_,?_⟩
    ·split<;>omega
    ·rw[Xw];exact Pt.app bN
    ·have k1:lr w4 mX (aC (l.take (2*j))):=hIn.dQ ((HC.l1.trans f3).trans f4);have k2:In w4 ⟨W,vO,m1.len+m2.len,zV⟩ (c1.1+c2.1,c1.2++c2.2):=(Tk W (by rw[HW.out,I1.worth,I2.worth])).dQ f4;have k3:=lr.append k1 (lr.one k2);rw[qox l j c1 c2 (by rw[<-mO];exact cY) (by rw[<-mO,<-hy];exact jD)];exact k3.typed bN.fr (Wp Pt.own)
    ·intro m jB x hx;rcases jw.1 jB with q|q
     ·exact HB.out m q x hx
     ·rw[iH.1 q]at hx;exact ck (hm.fr.trans HC.l1).size (N9 x hx)
  ·have HI:=aQ hm zR.1 mO hy zR.2;clear hm zR;go_wp2;go_ret;obtain⟨hm,hIn,mO,hy,zD⟩:=HI.out;have hl:aC (l.take (2*j))=aC l:=qyx l j (by rw[<-H.out.2.1.1,H.out.2.2.1];omega);rw[hl]at hIn;refine⟨ao,j,cp,mX,rfl,?_,hm,hIn,zD⟩;have h1:=hm.own.1;rw[Lw,hIn.1]at h1;omega
theorem qvl:∀{a b:LN},ints a=ints b->a=b
 | [],[],_=>rfl
 | [],y::b,h=>by simp[ints]at h
 | x::a,[],h=>by simp[ints]at h
 | x::a,y::b,h=>by simp only[ints,gX,KL,Value.int.injEq,true_and]at h;obtain⟨h1,h2⟩:=h;rw[show x=y from by omega,qvl (a:=a) (b:=b) h2]
theorem In.uniq {w:World} {m:Mc} {c c':aF} (h:In w m c) (h':In w m c'):c=c':=by
 rcases h.own.2 with⟨h1,h2⟩|⟨g,cap,cur,h1,_,h2,_,_,_,h3⟩
 ·have:=h.pos;omega
 ·rcases h'.own.2 with⟨yP,yO⟩|⟨g',aS,zaD,yP,_,yO,_,_,_,h3'⟩
  ·have:=h'.pos;omega
  ·rw[h1]at yP;simp only[mV,eJ,ru,and_true,true_and]at yP;obtain⟨rfl,_⟩:=yP;rw[h2]at yO;simp only[eJ,Obj.cells.injEq,and_true,true_and]at yO;obtain rfl:=yO;have e:=qvl (h3.symm.trans h3');exact Prod.ext (h.worth.symm.trans h'.worth) e
open Classical in
noncomputable def CG (w:World) (m:Mc):aF:=if h:∃c,In w m c then h.choose else (m.worth,[])
theorem zfe {w:World} {m:Mc} {c:aF} (h:In w m c):CG w m=c:=by unfold CG;have hx:∃c,In w m c:=⟨c,h⟩;rw[dif_pos hx];exact hx.choose_spec.uniq h
theorem Wa (w:World) (m:Mc):(CG w m).1=m.worth:=by
 unfold CG;split
 ·rename_i h;exact h.choose_spec.worth.symm
 ·rfl
theorem lr.CG {w:World} {ms:List Mc} {l:List aF} (h:lr w ms l):l=ms.map (CG w):=by
 refine D4 λi=>?_
 rw[iM];rcases kI i l.length with k|k
 ·have h1:=br (l:=ms) (show i<ms.length by rw[h.1];exact k);have h2:=br k;rw[h1,h2,Aj,zfe (h.2 i _ _ h1 h2)]
 ·rw[nU k,nU (by rw[h.1];exact k)];rfl
theorem fK.map {α β:Type} {a b:List (Nat×α)} (h:fK a b) (g:Nat×α->Nat×β) (ha:∀x∈a,(g x).1=x.1) (hb:∀x∈b,(g x).1=x.1):fK (a.map g) (b.map g):=λk=>by
 rw[List.filter_map,List.filter_map];have e1:a.filter ((λx:Nat×β=>x.1==k)∘g)=a.filter λx=>x.1==k:=List.filter_congr λx hx=>by simp[ha x hx]
 have e2:b.filter ((λx:Nat×β=>x.1==k)∘g)=b.filter λx=>x.1==k:=List.filter_congr λx hx=>by simp[hb x hx]
 rw[e1,e2,h k]
def m0:Mc:=⟨0,none,0,0⟩
def fn (ms:List Mc):Nat->Mc:=λi=>ms[i]?.getD m0
theorem zi8 {w:World} {g n cap:Nat} {ms:List Mc} (h:w.ownsRow 0 258 2 (.slice (some ⟨g,0,none⟩) n cap) n (cellsOf ms)):∃A0,A0.size=cap*2/\Dw w g 258 A0 n (fn ms):=by
 have hl:=h.1;rw[Lw]at hl;rcases h.2 with⟨h1,_⟩|⟨g',aS,cur,h1,_,h2,h3,h4,h5,h6⟩
 ·cases h1
 ·simp only[mV,eJ,ru,and_true,true_and]at h1;obtain⟨rfl,rfl⟩:=h1;refine⟨cur,h5,cur,h2,rfl,by omega,λ_ _=>rfl,λi hi=>?_⟩;obtain⟨m,hm⟩:∃m,ms[i]?=some m:=⟨_,br (by omega)⟩;have hf:fn ms i=m:=by simp[fn,hm]
  rw[hf];have hc:=Lr ms i m hm;rw[<-h6,oX,oX,if_pos (by omega),if_pos (by omega),oY,oY]at hc;exact hc
theorem ze6 {w:World} {g n cap:Nat} {A0:AV} {f:Nat->Mc} (h:Dw w g 258 A0 n f) (h0:A0.size=cap*2) (hc:n<=cap) (hm:cap<=maxLen):w.ownsRow 0 258 2 (.slice (some ⟨g,0,none⟩) n cap) n (cellsOf ((List.range n).map f)):=by
 obtain⟨A,h1,h2,h3,_,h4⟩:=h;refine⟨by rw[Lw];simp,.inr ⟨g,cap,A,rfl,ep _,h1,hc,hm,by rw[h2,h0],?_⟩⟩;refine D4 λj=>?_
 rw[oX];by_cases hj:j<n*2
 ·rw[if_pos hj,oY];have hi:j/2<n:=by omega
  have hr:((List.range n).map f)[j/2]?=some (f (j/2)):=by simp[hi]
  have e1:=Lr _ _ _ hr;have e2:=h4 (j/2) hi;rcases Ls j with k|k
  ·rw[show j=j/2*2 from by omega,e1.1];exact e2.1
  ·rw[show j=j/2*2+1 from by omega,e1.2];exact e2.2
 ·rw[if_neg hj,nU (by rw[Lw];simp;omega)]
theorem VW (f:Nat->Mc) (n:Nat):sg f 0 n=((List.range n).map f).map tg:=by simp[sg,Function.comp_def]
theorem zdy {ms:List Mc} {n:Nat} (h:ms.length=n):(List.range n).map (fn ms)=ms:=by
 subst h;refine D4 λi=>?_
 rw[iM];by_cases hi:i<ms.length
 ·rw[Iv hi];simp[fn,hi]
 ·rw[nU (by simp;omega),nU (by omega)];rfl
theorem qoq (g n cap:Nat) (ms:List Mc) (l:List aF) (w:World) (eF:w.ownsRow 0 258 2 (.slice (some ⟨g,0,none⟩) n cap) n (cellsOf ms)) (dP:lr w ms l) (hn:n<=100000)
  (hl:∀c∈l,c.1<=2^50) :
  Calls Tryz.prog 161 #[.slice (some ⟨g,0,none⟩) n cap,jY] w λe w'=>e = .returned (.tuple #[])/\
   ∃mX l',w'.ownsRow 0 258 2 (.slice (some ⟨g,0,none⟩) n cap) n (cellsOf mX)/\lr w' mX l'/\Sorted l'/\fK l' l/\Fr [g] w w'/\∀m∈mX,m∈ms:=by
 have hlen:ms.length=n:=by have:=eF.1;rw[Lw]at this;omega
 obtain⟨A0,DB,hD⟩:=zi8 eF;obtain⟨_,_,e1,e2,_⟩:=qoy eF;simp only[mV,true_and]at e1;have dH:Wb (fn ms):=λi=>by
  unfold fn;rcases kI i ms.length with k|k
  ·have h1:=br k;have h2:=br (l:=l) (show i<l.length by rw[<-dP.1];exact k);rw[h1];show ms[i].worth<=_;rw[(dP.2 i _ _ h1 h2).worth];exact hl _ (tk _)
  ·rw[nU k];exact ep _
 refine (zch g 258 A0 n cap (fn ms) w hD hn dH).mono ?_;rintro e w' ⟨rfl,f',hD',hs,hf⟩;have h1:n<=cap/\cap<=maxLen:=by
  rcases eF.2 with⟨h1,_⟩|⟨g',aS,cur,h1,_,h2,h3,h4,h5,h6⟩
  ·cases h1
  ·simp only[mV,eJ,ru,and_true,true_and]at h1;omega
 have aH:=hs.stb;have Gp:=hs.srt;rw[DT,VW,VW,zdy hlen]at aH;rw[DT,VW]at Gp;obtain⟨mX,BZ⟩:∃mX,mX=(List.range n).map f':=⟨_,rfl⟩;rw[<-BZ]at aH Gp;have B4:mX.length=n:=by rw[BZ];simp
 have gy:∀m∈mX,m∈ms:=λm hm=>by have h2:tg m∈mX.map tg:=uL hm;obtain⟨m',h3,h4⟩:=jo.1 ((aH.mem _).1 h2);have:=congrArg Prod.snd h4;simp only[tg]at this;rw[<-this];exact h3
 have Zl:=dP.CG;have PK:lr w mX (mX.map (CG w)):=by
  refine⟨by simp,λi m c h1 h2=>?_⟩;rw[iM,h1]at h2;simp only[Aj,eJ]at h2;obtain⟨j,hj⟩:=Ee.1 (gy m (gB h1));have hj':j<l.length:=by rw[<-dP.1];exact (jq.1 hj).1
  have:=dP.2 j m _ hj (br hj');rw[<-h2,zfe this];exact this
 refine⟨rfl,mX,mX.map (CG w),by rw[BZ];exact ze6 hD' DB h1.1 h1.2,PK.typed hf ?_,?_,?_,hf,gy⟩
 ·exact Wp eF
 ·unfold iE at Gp;unfold Sorted;rw[D6]at Gp ⊢;refine Gp.imp λ{a b} h=>?_
  rw[Wa,Wa];exact h
 ·have hk:∀(k:List Mc) (x:Nat×Mc),x∈k.map tg->(CG w x.2).1=x.1:=λk x hx=>by obtain⟨m,_,rfl⟩:=jo.1 hx;exact Wa w m
  have:=aH.map (λx=>CG w x.2) (β:=List Nat) (hk _) (hk _);rw[vW,vW]at this;rw[Zl];exact this
end huf
namespace huf
open Go
def ins (l:List aF):List Nat:=l.flatMap (·.2)
theorem mr (a b:List aF):ins (a++b)=ins a++ins b:=by simp[ins]
theorem qvn {a b:List aF} (h:a.Perm b):(ins a).Perm (ins b):=h.flatMap_right _
def ones (l:List aF) (syms:LN):Prop:=l.map (·.2)=syms.map λs=>[s]
theorem qvo {l:List aF} {syms:LN} (h:ones l syms) (a:Nat):ins (l.take a)=syms.take a:=by unfold ins;rw[List.flatMap_def,Fw,h,<-Fw,<-List.flatMap_def];simp
theorem XD:∀(syms:LN),syms.Nodup->∀(a i:Nat) (s:Nat),syms[i]?=some s->(syms.take a).count s=if i<a then 1 else 0
 | [],_,a,i,s,h=>by cases h
 | x::t,_,0,i,s,h=>by simp
 | x::t,hn,a+1,0,s,h=>by
  simp only[aT,eJ]at h;subst h;rw[qs,List.count_cons_self,List.count_eq_zero_of_not_mem λhm=>(List.nodup_cons.1 hn).1 (uM hm)];simp
 | x::t,hn,a+1,i+1,s,h=>by
  rw[bP]at h;have cQ:x≠s:=λe=>(List.nodup_cons.1 hn).1 (e▸gB h)
  rw[qs,List.count_cons_of_ne cQ,XD t (List.nodup_cons.1 hn).2 a i s h];simp only[Nat.add_lt_add_iff_right]
theorem qrd (l:List aF) (syms:LN) (h1:ones l syms) (hn:syms.Nodup) (i s:Nat) (hi:syms[i]?=some s):∀k m,m<=(row l k).length->(ins ((row l k).take m)).count s=ik l k m i
 | 0,m,hm=>by
  have:m=0:=by simpa[row] using hm
  subst this;rfl
 | k+1,m,hm=>by
  have jB:m<=l.length+(aC (row l k)).length:=by rw[row,Bj]at hm;exact hm
  obtain⟨_,_,h3⟩:=C4 l (aC (row l k)) m jB;have hp:=qvn (FK l (aC (row l k)) m);rw[show mY l (aC (row l k))=row l (k+1) from rfl]at hp;rw[hp.count_eq,mr,FF,qvo h1,XD syms hn _ i s hi];change (sl l k m).2<=_ at h3;have uq:ins ((aC (row l k)).take (sl l k m).2)=ins ((row l k).take (2*(sl l k m).2)):=Wq _ _ h3;rw[Ed]at h3;rw[ik,<-qrd l syms h1 hn i s hi k (2*(sl l k m).2) (by omega),<-uq];rfl
theorem qi9 (l:List aF) (syms:LN) (h1:ones l syms) (s:Nat) (hs:s∉syms):∀k m,m<=(row l k).length->(ins ((row l k).take m)).count s=0
 | 0,m,hm=>by
  have:m=0:=by simpa[row] using hm
  subst this;rfl
 | k+1,m,hm=>by
  have jB:m<=l.length+(aC (row l k)).length:=by rw[row,Bj]at hm;exact hm
  obtain⟨_,_,h3⟩:=C4 l (aC (row l k)) m jB;have hp:=qvn (FK l (aC (row l k)) m);rw[show mY l (aC (row l k))=row l (k+1) from rfl]at hp;rw[hp.count_eq,mr,FF,qvo h1,List.count_eq_zero_of_not_mem λhm=>hs (uM hm)];change (sl l k m).2<=_ at h3;have uq:ins ((aC (row l k)).take (sl l k m).2)=ins ((row l k).take (2*(sl l k m).2)):=Wq _ _ h3;rw[Ed]at h3;change 0+(ins ((aC (row l k)).take (sl l k m).2)).count s=0;rw[uq,qi9 l syms h1 s hs k _ (by omega)]
def aJ (cs:LN) (i:Nat):List Nat:=(List.range i).filter λs=>decide (0<ae cs s)
def cM (cs:LN) (i:Nat):List aF:=(aJ cs i).map λs=>(ae cs s,[s])
theorem Xp (cs:LN) (i:Nat):aJ cs (i+1)=if 0<ae cs i then aJ cs i++[i] else aJ cs i:=by unfold aJ;rw[List.range_succ,D8];by_cases h:0<ae cs i<;>simp[h]
theorem qse (cs:LN) (i:Nat):cM cs (i+1)=if 0<ae cs i then cM cs i++[(ae cs i,[i])] else cM cs i:=by unfold cM;rw[Xp];split<;>simp
theorem qln (cs:LN) (i:Nat):(aJ cs i).Nodup:=List.Pairwise.filter _ List.nodup_range
theorem FP {cs:LN} {i s:Nat}:s∈aJ cs i↔s<i/\0<ae cs s:=by simp[aJ]
theorem fK.perm {α:Type} [DecidableEq α] {a b:List (Nat×α)} (h:fK a b):a.Perm b:=by
 rw[List.perm_iff_count];intro x;have h1:=h x.1;have h2:∀l:List (Nat×α),l.count x=(l.filter λy=>y.1==x.1).count x:=λl=>by rw[List.count_filter (by simp)]
 rw[h2 a,h2 b,h1]
structure kX (L:Nat) (cs ls:LN):Prop where
 len:ls.length=cs.length
 le:∀l∈ls,l<=L
 pos:∀i,0<ae cs i->0<ae ls i
 zero:∀i,ae cs i=0->ae ls i=0
 full:2<=(aJ cs cs.length).length->weight ls=32768
 few:(aJ cs cs.length).length<2->∀l∈ls,l<=1
def wt (x:Nat):Nat:=if x=0 then 0 else 2^(15-x)
theorem Xg {α:Type} (g:α->Nat):∀l:List α,weight (l.map g)=(l.map λs=>wt (g s)).sum
 | []=>rfl
 | x::l=>by rw[gX,weight,Xg g l,gX,Be];rfl
theorem Xd {α:Type} (p:α->Bool) (g:α->Nat):∀l:List α,(∀x∈l,p x=false->g x=0)->(l.map g).sum=((l.filter p).map g).sum
 | [],_=>rfl
 | x::l,h=>by
  have ih:=Xd p g l λy hy=>h y (tu _ hy)
  rw[KV];cases hp:p x with
  | true=>simp[ih]
  | false=>simp[ih,h x uJ hp]
theorem qmy (g:Nat->Nat):∀n,cS (n+1) g=g 0+cS n λi=>g (i+1)
 | 0=>by simp[cS]
 | n+1=>by rw[cS,qmy g n,cS];omega
theorem qju (g:Nat->Nat):∀syms:List Nat,(syms.map g).sum=cS syms.length (λi=>g (syms[i]?.getD 0))
 | []=>rfl
 | x::l=>by rw[gX,Be,qju g l,bU,qmy];simp
theorem qq2 (c:Nat) (g:Nat->Nat):∀n,cS n (λi=>g i*c)=cS n g*c
 | 0=>by simp[cS]
 | n+1=>by rw[cS,cS,qq2 c g n,oV]
theorem zgu {L:Nat} {cs:LN} {sl:List aF} (wB:1<=L) (xE:L<=15) (hs:Sorted sl) (aH:fK sl (cM cs cs.length)) (h2:2<=(aJ cs cs.length).length) (hle:(aJ cs cs.length).length<=2^L) :
  2*sl.length-2<=(row sl L).length/\sl.length=(aJ cs cs.length).length/\
  kX L cs ((List.range cs.length).map λs=>(ins ((row sl L).take (2*sl.length-2))).count s):=by
 have hp:=aH.perm;have hlen:sl.length=(aJ cs cs.length).length:=by rw[hp.length_eq];simp[cM]
 have iu:Pos sl:=λx hx=>by have:=hp.mem_iff.1 hx;simp only[cM,jo]at this;obtain⟨s,gT,rfl⟩:=this;exact (FP.1 gT).2
 obtain⟨syms,lf⟩:=ai (sl.map λc=>c.2.headD 0);have h1:ones sl syms:=by
  unfold ones;rw[lf,vW];refine D9 λc hc=>?_
  have:=hp.mem_iff.1 hc;simp only[cM,jo]at this;obtain⟨s,_,rfl⟩:=this;rfl
 have EA:syms.Perm (aJ cs cs.length):=by
  rw[lf];have:=hp.map λc=>c.2.headD 0
  refine this.trans (List.Perm.of_eq ?_);simp[cM,Function.comp_def]
 have ED:syms.Nodup:=EA.nodup_iff.2 (qln _ _);have hsl:syms.length=sl.length:=by rw[lf];simp
 obtain⟨k1,k2,k3⟩:=zcx sl hs iu L wB (by omega) (by omega);obtain⟨m,hm⟩:=ai (2*sl.length-2);rw[<-hm]at k1 k2 k3 ⊢;obtain⟨cf,Zo⟩:∃cf:Nat->Nat,cf=λs=>(ins ((row sl L).take m)).count s:=⟨_,rfl⟩
 have c1:∀i s,syms[i]?=some s->cf s=ik sl L m i:=λi s hi=>by rw[Zo];exact qrd sl syms h1 ED i s hi L m k1
 have c0:∀s,s∉syms->cf s=0:=λs gT=>by rw[Zo];exact qi9 sl syms h1 s gT L m k1
 have qL:∀s,s<cs.length->ae ((List.range cs.length).map cf) s=cf s:=λs gT=>by simp[ae,gT]
 have EI:∀s,cs.length<=s->ae ((List.range cs.length).map cf) s=0:=λs gT=>by simp[ae,gT]
 have dP:∀s,s∈syms↔s<cs.length/\0<ae cs s:=λs=>EA.mem_iff.trans FP
 refine⟨k1,hlen,?_⟩;rw[<-Zo];refine⟨by simp,λl hl=>?_,λi hi=>?_,λi hi=>?_,λ_=>?_,λh=>absurd h (by omega)⟩
 ·obtain⟨s,_,rfl⟩:=jo.1 hl;by_cases hx:s∈syms
  ·obtain⟨i,hi⟩:=Ee.1 hx;rw[c1 i s hi];exact Vq _ _ _ _
  ·rw[c0 s hx];exact ep _
 ·have iR:=Ag hi;rw[qL i iR];obtain⟨j,hj⟩:=Ee.1 ((dP i).2 ⟨iR,hi⟩);rw[c1 j i hj];exact k2 j (by rw[<-hsl];exact (jq.1 hj).1)
 ·by_cases iR:i<cs.length
  ·rw[qL i iR,c0 i λh=>by have:=((dP i).1 h).2;omega]
  ·exact EI i (by omega)
 ·rw[Xg,Xd (λs=>decide (0<ae cs s)) _ _ λs gT Ji=>by
   rw[c0 s λh=>by have:=((dP s).1 h).2;simp at Ji;omega];rfl]
  have e1:((aJ cs cs.length).map λs=>wt (cf s)).sum=(syms.map λs=>wt (cf s)).sum:=(EA.symm.map _).sum_nat;rw[show (List.range cs.length).filter (λs=>decide (0<ae cs s))=aJ cs cs.length from rfl,e1,qju,hsl];have e2:cS sl.length (λi=>wt (cf (syms[i]?.getD 0)))=cS sl.length (λi=>2^(L-ik sl L m i)*2^(15-L)):=by
   refine Xo _ λi hi=>?_
   have gT:=br (l:=syms) (show i<syms.length by rw[hsl];exact hi);rw[gT,Bi,c1 i _ gT];have h3:=k2 i hi;have h4:=Vq sl L m i;unfold wt;rw[if_neg (by omega),<-mU];congr 1;omega
  rw[e2,qq2,k3,<-mU,show L+(15-L)=15 from by omega]
theorem zdg {L:Nat} {cs:LN} (wB:1<=L) (h2:(aJ cs cs.length).length<2):kX L cs ((List.range cs.length).map λs=>if 0<ae cs s then 1 else 0):=by
 have qL:∀s,s<cs.length->ae ((List.range cs.length).map λs=>if 0<ae cs s then 1 else 0) s=if 0<ae cs s then 1 else 0:=λs gT=>by simp[ae,gT]
 refine⟨by simp,λl hl=>?_,λi hi=>?_,λi hi=>?_,λh=>absurd h (by omega),λ_ l hl=>?_⟩
 ·obtain⟨s,_,rfl⟩:=jo.1 hl;split<;>omega
 ·rw[qL i (Ag hi),if_pos hi];exact Nat.one_pos
 ·by_cases iR:i<cs.length
  ·rw[qL i iR,if_neg (by omega)]
  ·simp[ae,show cs.length<=i by omega]
 ·obtain⟨s,_,rfl⟩:=jo.1 hl;split<;>omega
open Go.RowKit lib bm bl
theorem NF (l:List aF) (B C:Nat) (h:∀c∈l,c.1<=B/\c.2.length<=C):∀k,∀c∈row l k,c.1<=B*2^k/\c.2.length<=C*2^k
 | 0,c,hc=>by simp[row]at hc
 | k+1,c,hc=>by
  have ih:=NF l B C h k;have h2:2^(k+1)=2*2^k:=by rw[pH];omega
  rcases Vs _ _ _ hc with a|a
  ·have:=h c a;have h1:=nQ (k+1);exact⟨ck this.1 (Nat.le_mul_of_pos_right _ h1),ck this.2 (Nat.le_mul_of_pos_right _ h1)⟩
  ·obtain⟨j,hj⟩:=Ee.1 a;obtain⟨u,v,hu,hv,rfl⟩:=DZ _ _ _ hj;have a1:=ih u (gB hu);have a2:=ih v (gB hv);rw[h2,aA];refine⟨?_,?_⟩
   ·rw[show B*(2*2^k)=B*2^k+B*2^k from by rw[Nat.mul_left_comm];omega];exact Nat.add_le_add a1.1 a2.1
   ·rw[show C*(2*2^k)=C*2^k+C*2^k from by rw[Nat.mul_left_comm];omega];exact Nat.add_le_add a1.2 a2.2
theorem VU (l:List aF) (P:Nat->Prop) (h:∀c∈l,∀x∈c.2,P x):∀k,∀c∈row l k,∀x∈c.2,P x
 | 0,c,hc=>by simp[row]at hc
 | k+1,c,hc=>by
  rcases Vs _ _ _ hc with a|a
  ·exact h c a
  ·obtain⟨j,hj⟩:=Ee.1 a;obtain⟨u,v,hu,hv,rfl⟩:=DZ _ _ _ hj;intro x hx;rcases jw.1 hx with b|b
   ·exact VU l P h k u (gB hu) x b
   ·exact VU l P h k v (gB hv) x b
def Off (Q:Nat) (ms:List Mc):Prop:=∀m∈ms,∀x∈af m.ao,x≠Q
theorem lr.off {Q:Nat} {w w':World} {ms:List Mc} {l:List aF} (h:lr w ms l) (f:Fr [Q] w w') (ho:Off Q ms):lr w' ms l:=
 ⟨h.1,λi m c h1 h2=>by
  have k:=h.2 i m c h1 h2
  refine⟨k.worth,k.len,k.pos,dr k.own f λx hx=>?_⟩
  have:x∈af m.ao:=by
   cases hm:m.ao with
   | none=>rw[hm]at hx;cases hx
   | some a=>rw[hm]at hx;simp only[Value.ownBlock,eJ]at hx;subst hx;simp[af]
  have:=ho m (gB h1) x this
  simpa using this⟩
theorem lr.low {w:World} {ms:List Mc} {l:List aF} (h:lr w ms l):∀m∈ms,∀x∈af m.ao,x<w.heap.size:=λm hm x hx=>by
 obtain⟨i,hi⟩:=Ee.1 hm;have eO:i<l.length:=by rw[<-h.1];exact (jq.1 hi).1
 exact rr (h.2 i m _ hi (br eO)).own (qi hx)
theorem Io {w:World} {e:TypeId} {size:Nat} {ao:OA} {n cap:Nat} {xs:LV} (h:w.ownsRow 0 e size (.slice ao n cap) n xs) (hn:0<n):∃g,ao=some ⟨g,0,none⟩/\n<=cap/\cap<=maxLen:=by
 rcases h.2 with⟨_,h2⟩|⟨g,c,cur,h1,_,_,h3,h4,_⟩
 ·omega
 ·simp only[mV,true_and]at h1;exact⟨g,h1.1,by omega,by omega⟩
theorem zgw (l:List aF) (C:Nat) (h:∀c∈l,c.2.length<=C):(ins l).length<=l.length*C:=by
 induction l with
 | nil=>simp[ins]
 | cons c l ih=>
  have h1:=ih λx hx=>h x (tu _ hx)
  have h2:=h c uJ;simp only[ins,vX,aA,bU,oV]at h1 ⊢;omega
theorem row_one (l:List aF):row l 1=l:=by show mY l (aC [])=l;exact NP l
theorem W8 (l:List aF):∀k,(row l k).length<=2*l.length
 | 0=>by simp[row]
 | k+1=>by rw[W9];have:=W8 l k;omega
theorem zfd {w:World} {e:TypeId} {size:Nat} {ao:OA} {n cap:Nat} {xs:LV} (h:w.ownsRow 0 e size (.slice ao n cap) n xs):Cs w ao xs:=by
 rcases h.2 with⟨h1,h2⟩|⟨g,aS,cur,h1,hb,hg,hn,hm,hs,ht⟩
 ·left;have:=h.1;rw[h2]at this;exact wN (by simpa using this)
 ·simp only[mV,true_and]at h1;obtain⟨rfl,rfl⟩:=h1;refine .inr ⟨g,0,rfl,λj v hv=>?_⟩;rw[cell_of hg,ft];rw[<-ht,oX]at hv;split at hv
  ·simpa using hv
  ·cases hv
structure lZ (w:World) (Q g n cp:Nat) (ms:List Mc) (l:List aF):Prop where
 own:w.ownsRow 0 258 2 (.slice (some ⟨g,0,none⟩) n cp) n (cellsOf ms)
 ins:lr w ms l
 off:Off Q ms
 ne:g≠Q
theorem lZ.fr {w w':World} {Q g n cp:Nat} {ms:List Mc} {l:List aF} (h:lZ w Q g n cp ms l) (f:Fr [] w w'):lZ w' Q g n cp ms l:=
 ⟨dr h.own f (by simp),h.ins.dQ f,h.off,h.ne⟩
theorem lZ.frQ {w w':World} {Q g n cp:Nat} {ms:List Mc} {l:List aF} (h:lZ w Q g n cp ms l) (f:Fr [Q] w w'):lZ w' Q g n cp ms l:=
 ⟨dr h.own f (by intro k hk;simp only[Value.ownBlock,eJ]at hk;subst hk;simpa using h.ne),h.ins.off f h.off,h.off,h.ne⟩
theorem lZ.len {w:World} {Q g n cp:Nat} {ms:List Mc} {l:List aF} (h:lZ w Q g n cp ms l):ms.length=n/\l.length=n:=by have:=h.own.1;rw[Lw]at this;have:=h.ins.1;omega
def iB (L:Nat) (cs:LN) (N:Nat) (w:World) (e:Ending) (w':World):Prop:=
 ∃g ls,e = .returned (.tuple #[.slice (some ⟨g,0,none⟩) N N,.int .i64 0])/\kX L cs ls/\Cs w' (some ⟨g,0,none⟩) (ints ls)/\w.heap.size<=g/\g<w'.heap.size/\Fr [] w w'
theorem Ow.good {L N:Nat} {cs:LN} {w w':World} {Q:Nat} {F:Nat->Nat} (h:Ow w' Q N F) (hN:N=cs.length) (hl:kX L cs ((List.range cs.length).map F)) (hQ:w.heap.size<=Q) (hf:Fr [] w w') :
  iB L cs N w (.returned (.tuple #[.slice (some ⟨Q,0,none⟩) N N,.int .i64 0])) w':=by
 refine⟨Q,_,rfl,hl,by rw[<-hN];exact h.cs,hQ,?_,hf⟩;obtain⟨A,hA,_⟩:=h;exact lt_of_block hA
theorem NM (a:OA) (cap:Nat) (cs:LN) (L:Nat) (w:World) (h:Ri w a cap cs) (wB:1<=L) (xE:L<=15) (hlen:cs.length<=400) (hle:∀c∈cs,c<=2^30)
  (hn:(aJ cs cs.length).length<=2^L) :
  Calls Tryz.prog 130 #[.slice a cs.length cap,.int .i64 L] w (iB L cs cs.length w):=by
 obtain⟨N,hN⟩:=ai cs.length;rw[<-hN]at hlen hn ⊢;have H:=aG h hle hN hn;clear h hle hN hn;obtain⟨hu,⟨ti,iR,v8,gT,sN⟩,uv,hp⟩:=pG;go_enter Tryz.func130,Tryz.ntmps130;go_upto_block 0 with fail;go_wp2;go_loopg [6,7,8,31] N (λk s6 s7 s8 s31 wr=>∃(i:Nat) (ao:OA) (n cp:Nat) (ms:List Mc),s31 = .int .i64 (i:Nat)/\s6 = .slice ao n cp/\i+k=N/\n=(aJ cs i).length/\Made w wr 258 2 ao n cp (cellsOf ms)/\lr wr ms (cM cs i));case atStart=>exact⟨0,none,0,0,[],rfl,rfl,by omega,rfl,.none w _ _,⟨rfl,λi m c h=>by simp at h⟩⟩
 case round=>
  obtain⟨i,ao,n,cp,ms,rfl,rfl,bX,qI,hm,hIn⟩:=hrel;by_cases hi:i<N
  ·obtain⟨k,rfl⟩:∃k,gk=k+1:=⟨gk-1,by omega⟩;have eO:i<cs.length:=by rw[<-H.out.2.2.1];exact hi
   obtain⟨g,o,rfl,hc⟩:=(H.out.1.fr hm.fr).at eO;have fU:=H.out.2.1 _ (tk eO);have fH:ae cs i=cs[i]:=by unfold ae;rw[br eO];rfl
   obtain⟨c,kD⟩:=ai (cs[i]);rw[<-kD]at hc fU fH;have bZ:=qse cs i;have mB:=Xp cs i;rw[fH]at bZ mB;have zD:n<=400:=by
    have h2:(aJ cs i).length<=i:=by have:=FY (λs=>decide (0<ae cs s)) (List.range i);rw[Da]at this;exact this
    omega
   by_cases cY:c=0
   ·subst cY;rw[if_neg (by omega)]at bZ mB;have HI:=cJ bZ mB hm hIn qI bX;clear bZ mB hm hIn qI bX fH kD;go_wp2;go_roundg k;case measure=>omega
    case rel=>obtain⟨bZ,mB,hm,hIn,qI,bX⟩:=HI.out;exact⟨i+1,ao,n,cp,ms,by go_num,rfl,by omega,by rw[mB];exact qI,hm,by rw[bZ];exact hIn⟩
   ·rw[if_pos (by omega)]at bZ mB;have HI:=cJ bZ mB hm hIn qI bX;clear bZ mB hm hIn qI bX fH kD;obtain⟨W1,sP⟩:∃W1,W1=wr.alloc (.cells #[.int .i64 (i:Nat)] 3 (0,0)):=⟨_,rfl⟩;obtain⟨W2,Dy⟩:∃W2,W2=W1.alloc (.cells #[.int .i64 (c:Nat),.slice (some ⟨wr.heap.size,0,none⟩) 1 1] 258 (0,0)):=⟨_,rfl⟩;have jr:W1.heap.size=wr.heap.size+1:=by rw[sP,fD]
    have fW:Fr [] wr W1:=by rw[sP];exact (Fr.refl [] wr).alloc _
    have Ux:Fr [] W1 W2:=by rw[Dy];exact (Fr.refl [] W1).alloc _
    have PJ:In W2 ⟨c,some ⟨wr.heap.size,0,none⟩,1,1⟩ (c,[i]):=by refine⟨rfl,rfl,Nat.one_pos,rfl,.inr ⟨wr.heap.size,1,#[.int .i64 i],rfl,ep _,Ux.af (by rw[sP];exact bC wr _) (by simp),ay _,by unfold maxLen;omega,rfl,rfl⟩⟩
    have P8:Cs W2 (some ⟨wr.heap.size+1,0,none⟩) [.int .i64 c,.slice (some ⟨wr.heap.size,0,none⟩) 1 1]:=by refine .inr ⟨_,0,rfl,λj v hv=>?_⟩;rw[Dy,<-jr,cell_of (bC W1 _),ft];simpa using hv
    have Pr:=HI.out.2.2.1.eG (fW.trans Ux);have HJ:=aG PJ P8 Pr (fW.trans Ux);rw[sP]at Dy;have Ql:=Dy.symm;clear PJ P8 Pr fW Ux jr sP Dy;have Rm:=ah Ql;clear Ql;go_upto_region 10 with fail;go_wp2_with (refine gM Ns rfl _ _ rfl (.slice ao n cp) n (cellsOf ms) (af ao) rfl (dD ao n cp) (by rw[Rm.out];exact HJ.out.2.2.1.own) (some ⟨wr.heap.size+1,0,none⟩) 1 1 [.int .i64 c,.slice (some ⟨wr.heap.size,0,none⟩) 1 1] (by first|rfl|simp) (ay _) (λh=>by cases h) (by rw[Rm.out];exact HJ.out.2.1) rfl (by intro u hu;simp only[fP,wL,or_false]at hu;rcases hu with rfl|rfl<;>rfl) (by omega) (by unfold maxLen;omega) ?_;intro ao5 cp5 w5 bN;rw[Rm.out]at bN;have HA:=ah bN;clear bN);go_roundg k;case measure=>omega
    case rel=>
     obtain⟨bZ,mB,hm,hIn,qI,bX⟩:=HI.out;obtain⟨in2,_,Pr,fW⟩:=HJ.out;refine⟨i+1,ao5,n+1,cp5,ms++[⟨c,some ⟨wr.heap.size,0,none⟩,1,1⟩],by go_num,rfl,by omega,by rw[mB,aA,qI];rfl,?_,?_⟩
     ·rw[Xw];exact Pr.app HA.out
     ·rw[bZ];exact (lr.append (hIn.dQ fW) (lr.one in2)).typed HA.out.fr (Wp Pr.own)
  ·obtain rfl:i=N:=by omega
   have jM:n<=2^L:=by rw[qI];exact H.out.2.2.2
   have zaO:n<=400:=by
    have h2:(aJ cs i).length<=i:=by have:=FY (λs=>decide (0<ae cs s)) (List.range i);rw[Da]at this;exact this
    omega
   obtain⟨z,hz⟩:=ai (2^L);have e2:(2:Int)^L=(z:Int):=by rw[hz];exact zh L
   have Em:z<=32768:=by rw[hz];exact ck (kh (by decide) xE) (by decide)
   have LH:n<=z:=by omega
   have HI:=aQ qI hm hIn jM hz;clear qI hm hIn jM hz bX hi;obtain⟨Q,hQ⟩:=ai wr.heap.size;have HQ:=ah hQ;clear hQ;go_upto_region 15 with (refine wpList_make_full _ rfl _ _ 28 rfl 0 3 ti (.int .i64 0) 1 hu iR v8 gT .i64 .i64 (i:Nat) (i:Nat) i rfl rfl rfl rfl (by rw[sN];omega) (by unfold maxLen;omega) (by omega) ?_;intro w3 kJ iT;have H3:=ak kJ iT;clear kJ iT);rw[<-HQ.out]at H3 ⊢;have HS:Hid (Ow w3 Q i (λ_=>0)/\Fr [] wr w3/\lr w3 ms (cM cs i)/\w3.ownsRow 0 258 2 (.slice ao n cp) n (cellsOf ms)/\Off Q ms/\(∀x∈af ao,x<Q)):=ah (by
    have f3:Fr [] wr w3:=(Fr.refl [] wr).grown H3.l1 (λk hk=>by cases hk)
    refine⟨R5 H3.o0,f3,HI.out.2.2.1.dQ f3,dr HI.out.2.1.own f3 (by simp),λm hm x hx=>?_,λx hx=>by rw[HQ.out];exact HI.out.2.1.lt x hx⟩
    have:=HI.out.2.2.1.low m hm x hx
    rw[HQ.out];omega)
   clear H3 hu iR v8 gT sN uv hp e2 LH;by_cases wk:n<2
   ·go_wp2;go_loopg [11,65] n (λk s11 s65 wr=>∃t:Nat,s65 = .int .i64 (t:Nat)/\t+k=n/\Ow wr Q i (λs=>((aJ cs i).take t).count s)/\Fr [Q] w3 wr);case atStart=>exact⟨0,rfl,by omega,HS.out.1.congr λs _=>by simp,.refl _ _⟩
    case round=>
     obtain⟨t,rfl,cH,how,hf⟩:=hrel;by_cases ht:t<n
     ·obtain rfl:t=0:=by omega
      obtain rfl:n=1:=by omega
      obtain⟨k2,rfl⟩:∃k2,gk=k2+1:=⟨gk-1,by omega⟩;obtain⟨h1,h2,h3,h4,h5,h6⟩:=HS.out;obtain⟨g,rfl,_,_⟩:=Io h4 (by omega);have Mg:g≠Q:=by have:=h6 g (by simp[af]);omega
      obtain⟨m,hm⟩:∃m,ms[0]?=some m:=⟨_,br (by rw[h3.1];have:=HI.out.1;simp[cM];omega)⟩;obtain⟨c,hc⟩:∃c,(cM cs i)[0]?=some c:=⟨_,br (by have:=HI.out.1;simp[cM];omega)⟩;obtain⟨s0,mB⟩:∃s0,(aJ cs i)[0]?=some s0:=⟨_,br (by have:=HI.out.1;omega)⟩;have hcs:c=(ae cs s0,[s0]):=by unfold cM at hc;rw[iM,mB]at hc;simpa using hc.symm
      have hIn:=(h3.off hf h5).2 0 m c hm hc;have ZY:=dr h4 hf (by simpa[Value.ownBlock] using Mg);have hd:=Lr ms 0 m hm;have d0:wr.cell? ⟨g,0,none⟩=some (.int .i64 (m.worth:Nat)):=by rw[<-hd.1];exact yb ZY 0 (by omega)
      have d1:wr.cell? ⟨g,1,none⟩=some (.slice m.ao m.len m.cap):=by rw[<-hd.2];exact yb ZY 1 (by omega)
      obtain⟨b,A,eb,hb,bQ,zL⟩:=hIn.shape;have xr:m.len=1:=by rw[hIn.len,hcs];rfl
      have aI:=hIn.own;obtain⟨mw,mao,ml,mc⟩:=m;simp only at eb xr aI bQ zL d0 d1;subst eb;subst xr;have d2:wr.cell? ⟨b,0,none⟩=some (.int .i64 s0):=by have:=yb aI 0 (by omega);rw[this,hcs];rfl
      have mM:=(FP.1 (gB mB)).1;have fA:Fr [] wr (wr.alloc (.cells #[.int .i64 mw,.slice (some ⟨b,0,none⟩) 1 mc] 258 (0,0))):=(Fr.refl [] wr).alloc _;have d2':=fA.cell d2 (by simp);have d3:=(how.fr fA (by simp)).cell mM;have z3:=(how.fr fA (by simp)).frozen s0;have cm:=(how.fr fA (by simp)).set mM 1;have fS:Fr [Q] w3 ((wr.alloc (.cells #[.int .i64 mw,.slice (some ⟨b,0,none⟩) 1 mc] 258 (0,0))).setCell ⟨Q,s0,none⟩ (.int .i64 1)):=((hf.alloc _).setCell (by simp) _);have HJ:=aG cm fS mB cH;clear how hf mB hIn ZY hd hb aI hcs hm hc h1 h2 h3 h4 h5 h6 cH fA cm fS d2;go_wp2;go_roundg k2;case measure=>omega
      case rel=>
       obtain⟨cm,fS,mB,cH⟩:=HJ.out;refine⟨1,by go_num,by omega,cm.congr λs hs=>?_,fS⟩;have:(aJ cs i).take 1=[s0]:=by
        match hx:aJ cs i with
        | []=>rw[hx]at mB;simp at mB
        | y::ys=>rw[hx]at mB;simp at mB;simp[mB]
       rw[this,Dk];by_cases e:s=s0
       ·subst e;simp
       ·simp[e,kC e]
     ·obtain rfl:t=n:=by omega
      have HJ:=ak how hf;clear how hf cH;go_wp2;go_ret2;have hN:=H.out.2.2.1;have qI:=HI.out.1;refine (HJ.out.1.congr (G:=λs=>if 0<ae cs s then 1 else 0) λs hs=>?_).good hN (zdg wB (by rw[<-hN,<-qI];exact wk)) (by rw[HQ.out];exact HI.out.2.1.fr.size) ((HI.out.2.1.fr.trans HS.out.2.1).step HJ.out.2 λx hx=>.inr (by simp at hx;rw[hx,HQ.out];exact HI.out.2.1.fr.size));by_cases h0:0<ae cs s
      ·rw[if_pos h0];obtain⟨j,hj⟩:=Ee.1 (FP.2 ⟨hs,h0⟩);have:=XD _ (qln cs i) t j s hj;rw[this,if_pos (by rw[qI];exact (jq.1 hj).1)]
      ·rw[if_neg h0];exact List.count_eq_zero_of_not_mem λh=>h0 (FP.1 (uM h)).2
   ·have hB:∀c∈cM cs i,c.1<=2^30/\c.2.length<=1:=λc hc=>by simp only[cM,jo]at hc;obtain⟨s,hs,rfl⟩:=hc;refine⟨?_,ay _⟩;have gT:=Ag (FP.1 hs).2;exact H.out.2.1 _ (FG gT)
    obtain⟨h1,h2,h3,h4,h5,h6⟩:=HS.out;obtain⟨g,rfl,_,_⟩:=Io h4 (by omega);have Mg:g≠Q:=by have:=h6 g (by simp[af]);omega
    have oH:=qoq g n cp ms (cM cs i) w3 h4 h3 (by omega) (λc hc=>by have:=(hB c hc).1;omega);unfold jY at oH;have HR:=aw oH hB Mg;clear oH hB Mg h1 h2 h3 h4 h5 h6;obtain⟨L1,Qw⟩:∃L1,L1=L-1:=⟨_,rfl⟩;have e3:(L:Int)-1=(L1:Int):=by omega
    have HL1:=ah Qw;clear Qw;go_upto_block 4 with (go_at_call 161;refine HR.o0.mono ?_;rintro e w4 ⟨rfl,Oa,sl,o4,Tj,U4,RA,f4,Ek⟩;have H4:=cJ o4 Tj U4 RA f4 Ek;clear o4 Tj U4 RA f4 Ek);have HA:Hid (lZ w4 Q g n cp Oa sl/\Ow w4 Q i (λ_=>0)/\(∀c∈sl,c.1<=2^30/\c.2.length<=1)/\Fr [] w w4):=ah (by
     obtain⟨o4,Tj,U4,RA,f4,Ek⟩:=H4.out
     obtain⟨h1,h2,h3,h4,h5,h6⟩:=HS.out
     have yB:=h6 g (by simp[af])
     refine⟨⟨o4,Tj,λm hm=>h5 m (Ek m hm),HR.l2⟩,h1.fr f4 (by simpa using (kC HR.l2)),λc hc=>HR.o1 c ((RA.mem c).1 hc),(HI.out.2.1.fr.trans h2).step f4 λx hx=>.inr ?_⟩
     simp only[iH]at hx
     rw[hx]
     exact HI.out.2.1.new g (by simp[af]))
    go_wp2;go_loopg [13,83] L1 (λk s13 s83 wr=>∃(t g2 n2 gg:Nat) (LD:List Mc),s13 = .slice (some ⟨g2,0,none⟩) n2 gg/\s83 = .int .i64 (t:Nat)/\t+k=L1/\lZ wr Q g2 n2 gg LD (row sl (t+1))/\Fr [] w4 wr);case atStart=>exact⟨0,g,n,cp,Oa,rfl,rfl,by omega,by rw[row_one];exact HA.out.1,.refl _ _⟩
    case round=>
     obtain⟨t,g2,n2,gg,LD,rfl,rfl,cH,oI,hf⟩:=hrel;by_cases ht:t<L1
     ·obtain⟨k,rfl⟩:∃k,gk=k+1:=⟨gk-1,by omega⟩;have fH:=HA.out.1.fr hf;have jM:n2<=800:=by have:=W8 sl (t+1);rw[oI.len.2,fH.len.2]at this;omega
      have htL:t+1<=15:=by have:=HL1.out;omega
      have BR:2^(t+1)<=2^15:=kh (by decide) htL;have Dr:∀c∈row sl (t+1),c.1<=2^50/\c.2.length<=100000:=λc hc=>by have:=NF sl (2^30) 1 HA.out.2.2.1 (t+1) c hc;omega
      have uq:=qrm g2 n2 gg LD (row sl (t+1)) wr oI.own oI.ins oI.len.1 (by omega) Dr;have O1:∀c∈sl++aC (row sl (t+1)),c.1<=2^50:=λc hc=>by
       rcases jw.1 hc with q|q
       ·have:=HA.out.2.2.1 c q;omega
       ·obtain⟨j,hj⟩:=Ee.1 q;obtain⟨u,v,hu,hv,rfl⟩:=DZ _ _ _ hj;have b1:=NF sl (2^30) 1 HA.out.2.2.1 (t+1) u (gB hu);have b2:=NF sl (2^30) 1 HA.out.2.2.1 (t+1) v (gB hv);show u.1+v.1<=_;omega
      have fY:(aC (row sl (t+1))).length<=800:=by rw[Ed,oI.len.2];omega
      have HJ:=dk uq O1 fH oI hf cH fY;clear uq Dr O1 fH oI hf cH BR fY;go_upto_region 28 with (first
       | (go_at_call 163;refine HJ.out.1.mono ?_;rintro e w5 ⟨vO,k3,zV,ms3,rfl,xx,IQ,in5,nb5⟩;have YX:k3<=800:=(by rw[xx];exact HJ.out.2.2.2.2.2.2);have h6:=qt8 w5.heap.size (some ⟨g,0,none⟩) vO n k3 cp zV (cellsOf Oa) (cellsOf ms3) (w5.alloc (.cells #[.slice (some ⟨g,0,none⟩) n cp,.slice vO k3 zV] 256 (0,0))) (bC w5 _) (zfd (dr HJ.out.2.2.1.own (IQ.fr.alloc _) (by simp))) (zfd (dr IQ.own ((Fr.refl [] w5).alloc _) (by simp))) HJ.out.2.2.1.own.1 IQ.own.1 (Io HJ.out.2.2.1.own (by omega)).choose_spec.2.1 IQ.le (λh=>by cases h) IQ.nil (qob _) (qob _) (by omega) (by omega);have H5:=aQ xx IQ in5 nb5 h6;clear xx IQ in5 nb5 h6)
       | (go_at_call 162;refine H5.l4.mono ?_;rintro e w7 ⟨ao7,cp7,rfl,El⟩;have H7:=ah El;clear El))
      obtain⟨g7,e7,zcF,zcE⟩:=Io H7.out.own (by omega);subst e7;obtain⟨w6,pK⟩:=ai (w5.alloc (.cells #[.slice (some ⟨g,0,none⟩) n cp,.slice vO k3 zV] 256 (0,0)));have f56:Fr [] w5 w6:=by rw[pK];exact (Fr.refl [] w5).alloc _
      have El:=H7.out;rw[<-pK]at El;have fall:Fr [] wr w7:=(H5.o1.fr.trans f56).trans El.fr;have ZG:Q<wr.heap.size:=by obtain⟨A,hA,_⟩:=HA.out.2.1;exact eW (lt_of_block hA) HJ.out.2.2.2.2.1.size
      have TY:wr.heap.size<=g7:=ck (H5.o1.fr.trans f56).size (El.new g7 (by simp[af]));have YX:k3<=800:=by rw[H5.o0];exact HJ.out.2.2.2.2.2.2
      have Yi:=qoq g7 (n+k3) cp7 (Oa++ms3) (sl++aC (row sl (t+1))) w7 (by rw[Xw];exact El.own) (lr.append (HJ.out.2.2.1.ins.dQ fall) (H5.o2.dQ (f56.trans El.fr))) (by omega) HJ.out.2.1;unfold jY at Yi;have H8:=aG Yi fall ZG TY;clear Yi fall ZG TY El f56 pK;go_wp2_with (go_at_call 161;refine H8.out.1.mono ?_;rintro e w8 ⟨rfl,ms8,l8,o8,On,RB,Rz,f8,Ej⟩;have H9:=cJ o8 On RB Rz f8 Ej;clear o8 On RB Rz f8 Ej);go_roundg k;case measure=>omega
      case rel=>
       obtain⟨_,fall,ZG,TY⟩:=H8.out;obtain⟨o8,On,RB,Rz,f8,Ej⟩:=H9.out;obtain⟨_,_,fH,oI,hf,cH,_⟩:=HJ.out;have el:l8=row sl (t+1+1):=qwh H4.out.2.2.1 (qlr _ (Xa sl H4.out.2.2.1 _)) RB Rz;rw[el]at On;refine⟨t+1,g7,n+k3,cp7,ms8,rfl,by go_num,by omega,⟨o8,On,λm hm x hx=>?_,by omega⟩,(hf.trans fall).step f8 λx hx=>.inr ?_⟩
       ·rcases jw.1 (Ej m hm) with q|q
        ·exact fH.off m q x hx
        ·have:=H5.o3 m q x hx;omega
       ·simp only[iH]at hx;rw[hx];exact ck hf.size TY
     ·obtain rfl:t=L1:=by omega
      have ok:=zgu (cs:=cs) wB xE H4.out.2.2.1 (by rw[<-H.out.2.2.1];exact H4.out.2.2.2.1) (by rw[<-H.out.2.2.1,<-HI.out.1];omega) (by rw[<-H.out.2.2.1];exact H.out.2.2.2);obtain⟨R,hR⟩:=ai (row sl L);rw[show t+1=L from by have:=HL1.out;omega,<-hR]at oI;rw[<-hR,HA.out.1.len.2]at ok;obtain⟨m,hm⟩:=ai (2*n-2);rw[<-hm]at ok;have zbQ:n2<=800:=by have:=W8 sl L;rw[<-hR,oI.len.2,HA.out.1.len.2]at this;omega
      have hmn:m<=n2:=by have:=ok.1;rw[oI.len.2]at this;exact this
      have e4:2*(n:Int)-2=(m:Int):=by omega
      have Dr:∀c∈R,c.2.length<=32768:=λc hc=>by rw[hR]at hc;have:=(NF sl (2^30) 1 HA.out.2.2.1 L c hc).2;have pz:2^L<=2^15:=kh (by decide) xE;omega
      have cZ:n2<=gg/\gg<=maxLen:=(Io oI.own (by omega)).choose_spec.2;have zaQ:n2<=gg:=cZ.1;have rC:m<=gg:=by omega
      have JE:gg<=9223372036854775807:=cZ.2;have lf:∀c∈R,∀x∈c.2,x<i:=λc hc=>by rw[hR]at hc;refine VU sl (·<i) (λc hc x hx=>?_) L c hc;have h2:=(H4.out.2.2.2.1.mem c).1 hc;simp only[cM,jo]at h2;obtain⟨s,hs,rfl⟩:=h2;simp only[iH]at hx;rw[hx];exact (FP.1 hs).1
      have HK:=dk ok.2.2 oI (HA.out.2.1.fr hf (by simp)) (HA.out.2.2.2.trans hf) Dr lf cH;clear ok oI hf cH Dr hR hm cZ lf;obtain⟨wo,rfl⟩:∃wo:World,wo=wr:=⟨_,rfl⟩;go_wp2;go_loopg [15,17,101,108] m (λk s15 s17 s101 s108 wr=>∃t:Nat,s101 = .int .i64 (t:Nat)/\t+k=m/\Ow wr Q i (λs=>(ins (R.take t)).count s)/\Fr [Q] wo wr);case atStart=>exact⟨0,rfl,by omega,HK.out.2.2.1.congr λs _=>by simp[ins],.refl _ _⟩
      case round=>
       obtain⟨t,rfl,cH,how,hf⟩:=hrel;by_cases ht:t<m
       ·obtain⟨k,rfl⟩:∃k,gk=k+1:=⟨gk-1,by omega⟩;have oI:=HK.out.2.1.frQ hf;obtain⟨mc,rC⟩:∃mc,LD[t]?=some mc:=⟨_,br (by rw[oI.len.1];omega)⟩;obtain⟨c,hc⟩:∃c,R[t]?=some c:=⟨_,br (by rw[oI.len.2];omega)⟩;have hIn:=oI.ins.2 t mc c rC hc;have hd:=Lr LD t mc rC;have d0:wr.cell? ⟨g2,t*2,none⟩=some (.int .i64 (mc.worth:Nat)):=by rw[<-hd.1];exact yb oI.own _ (by omega)
        have d1:wr.cell? ⟨g2,t*2+1,none⟩=some (.slice mc.ao mc.len mc.cap):=by rw[<-hd.2];exact yb oI.own _ (by omega)
        obtain⟨b,A,eb,hb,bQ,zL⟩:=hIn.shape;have kN:b≠Q:=oI.off mc (gB rC) b (by rw[eb];simp[af]);have xr:=hIn.len;have fU:c.2.length<=32768:=HK.out.2.2.2.2.1 c (gB hc);have hcs:=HK.out.2.2.2.2.2.1 c (gB hc);have aI:=hIn.own;have iQ:ins (R.take (t+1))=ins (R.take t)++c.2:=by rw[zj,hc,mr];simp[ins]
        have eO:(ins (R.take t)).length<=800*32768:=by
         have h1:=zgw (R.take t) 32768 (λc hc=>HK.out.2.2.2.2.1 c (uM hc));have h2:(R.take t).length<=800:=by rw[dU];omega
         exact ck h1 (uN _ h2)
        obtain⟨mw,mao,ml,mcp⟩:=mc;simp only at eb xr aI bQ zL d0 d1;subst eb;obtain⟨W1,sP⟩:∃W1,W1=wr.alloc (.cells #[.int .i64 (mw:Nat),.slice (some ⟨b,0,none⟩) ml mcp] 258 (0,0)):=⟨_,rfl⟩;have fA:Fr [] wr W1:=by rw[sP];exact (Fr.refl [] wr).alloc _
        have T8:Fr [Q] wo W1:=by rw[sP];exact hf.alloc _
        have HJ:=lv (how.fr fA (by simp)) (dr aI fA (by simp)) hcs iQ eO xr cH T8;have zbW:ml<=32768:=by omega
        clear how hf hIn hd hb aI rC hc hcs iQ eO cH oI fA T8 xr;have Rq:=ah sP.symm;clear sP;go_upto_block 8 with fail;rw[Rq.out];go_wp2;go_loopg [17,108] ml (λk s17 s108 wr=>∃u:Nat,s108 = .int .i64 (u:Nat)/\u+k=ml/\Ow wr Q i (λs=>(ins (R.take t)++c.2.take u).count s)/\Fr [Q] W1 wr);case atStart=>exact⟨0,rfl,by omega,HJ.out.1.congr λs _=>by simp,.refl _ _⟩
        case round=>
         obtain⟨u,rfl,Tq,how,hf⟩:=hrel;by_cases hu:u<ml
         ·obtain⟨k2,rfl⟩:∃k2,gk=k2+1:=⟨gk-1,by omega⟩;have aI:=dr HJ.out.2.1 hf (by intro k hk;simp only[Value.ownBlock,eJ]at hk;subst hk;simpa using kN);obtain⟨s,hs⟩:∃s,c.2[u]?=some s:=⟨_,br (by have:=HJ.out.2.2.2.2.2.1;omega)⟩;have d2:wr.cell? ⟨b,u,none⟩=some (.int .i64 s):=by have:=yb aI u (by omega);rw[this];simp[ints,hs]
          have mM:=HJ.out.2.2.1 s (gB hs);have d3:=how.cell mM;have z3:=how.frozen s;obtain⟨F,hF⟩:=ai ((ins (R.take t)++c.2.take u).count s);have vE:F<=30000000:=by rw[hF];have h1:=MY (a:=s) (l:=ins (R.take t)++c.2.take u);rw[aA,dU]at h1;have:=HJ.out.2.2.2.2.1;omega
          rw[<-hF]at d3;have cm:=how.set mM (F+1);have fS:=hf.setCell (p:=⟨Q,s,none⟩) (by simp) (.int .i64 ((F+1:Nat):Nat));have HL:=aQ cm fS hF hs Tq;clear how hf aI hs cm fS hF Tq;go_wp2;go_roundg k2;case measure=>omega
          case rel=>
           obtain⟨cm,fS,hF,hs,Tq⟩:=HL.out;refine⟨u+1,by go_num,by omega,?_,?_⟩
           ·refine Ow.congr ?_ (F:=λt'=>if t'=s then F+1 else (ins (R.take t)++c.2.take u).count t') λs' _=>?_
            ·first|exact cm|simpa using cm
            ·rw[zj,hs,Option.toList_some,<-eE,FF];by_cases e:s'=s
             ·subst e;rw[if_pos rfl,hF];simp[oW]
             ·rw[if_neg e];simp[kC e]
           ·first|exact fS|simpa using fS
         ·obtain rfl:u=ml:=by omega
          have HL:=ak how hf;clear how hf Tq;go_wp2;go_roundg k;case measure=>omega
          case rel=>obtain⟨_,_,_,iQ,_,xr,cH,T8⟩:=HJ.out;refine⟨t+1,by go_num,by omega,HL.out.1.congr λs _=>?_,T8.trans HL.out.2⟩;rw[mL (l:=c.2) (by omega),iQ]
       ·obtain rfl:t=m:=by omega
        have HJ:=ak how hf;clear how hf cH;go_wp2;go_ret2;obtain⟨ok,oI,_,fw,_⟩:=HK.out;exact HJ.out.1.good H.out.2.2.1 ok (by rw[HQ.out];exact HI.out.2.1.fr.size) (fw.step HJ.out.2 λx hx=>.inr (by simp at hx;rw[hx,HQ.out];exact HI.out.2.1.fr.size))
end huf

end Go.Proofs.YtkmpfgpfbmeihaaGreatDoor