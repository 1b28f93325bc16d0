/-
  Texts of this proof, one behind the other: Packs, SortG, HuffCnt, LensLaw, Lens.
-/
import Derived.Test.YtkmpfgpfbmeihaaGreatDoorU8
set_option maxHeartbeats 16000000
set_option maxRecDepth 100000
set_option linter.unusedVariables false
set_option linter.unusedSimpArgs false
namespace Go.Proofs.YtkmpfgpfbmeihaaGreatDoor
namespace huf
open Go Go.RowKit lib bm bl
def cellsOf (ms:List Mc):List Value:=ms.flatMap λm=>[.int .i64 (m.worth:Nat),.slice m.ao m.len m.cap]
theorem KK (ms:List Mc):(cellsOf ms).length=ms.length*2:=by
 induction ms with
 | nil=>rfl
 | cons m ms ih=>simp only[cellsOf,Av,aK,cQ,lK]at ih ⊢;omega
theorem Wc (a b:List Mc):cellsOf (a++b)=cellsOf a++cellsOf b:=by simp[cellsOf]
theorem KH:∀(ms:List Mc) (i:Nat) (m:Mc),ms[i]?=some m->(cellsOf ms)[i*2]?=some (.int .i64 (m.worth:Nat))/\(cellsOf ms)[i*2+1]?=some (.slice m.ao m.len m.cap)
 | [],i,m,h=>by simp at h
 | x::ms,0,m,h=>by
  simp only[aV,eS]at h;subst h;exact⟨rfl,rfl⟩
 | x::ms,i+1,m,h=>by have:=KH ms i m (by simpa using h);rw[show (i+1)*2=i*2+2 from by omega];exact this
theorem qnh (ms:List Mc):∀u∈cellsOf ms,u.oneCell'=true:=by intro u hu;simp only[cellsOf,List.mem_flatMap,gw,v7,or_false]at hu;obtain⟨m,_,rfl|rfl⟩:=hu<;>rfl
structure In (w:World) (m:Mc) (c:aI):Prop where
 worth:m.worth=c.1
 len:m.len=c.2.length
 pos:0<m.len
 own:w.ownsRow 0 3 1 (.slice m.ao m.len m.cap) m.len (ints c.2)
theorem In.shape {w:World} {m:Mc} {c:aI} (h:In w m c):∃b A,m.ao=some ⟨b,0,none⟩/\w.heap[b]?=some (.cells A 3 (0,0))/\m.len<=m.cap/\m.cap<=maxLen:=by
 rcases h.own.2 with⟨h1,h2⟩|⟨g,cap,cur,h1,_,h2,h3,h4,_,_⟩
 ·have:=h.pos;omega
 ·simp only[lN,true_and]at h1;obtain⟨e1,e2⟩:=h1;exact⟨g,cur,e1,h2,by omega,by omega⟩
theorem In.fr {S:List Nat} {w w':World} {m:Mc} {c:aI} (h:In w m c) (f:Fr S w w') (hS:∀x∈S,∀A fz,w.heap[x]?≠some (.cells A 3 fz)):In w' m c:=by refine⟨h.worth,h.len,h.pos,dr h.own f λk hk=>?_⟩;obtain⟨b,A,e,hb,_,_⟩:=h.shape;rw[e]at hk;simp only[Value.ownBlock,eS]at hk;subst hk;exact λhx=>hS _ hx A _ hb
theorem In.dF {w w':World} {m:Mc} {c:aI} (h:In w m c) (f:Fr [] w w'):In w' m c:=h.fr f (by simp)
def kX (w:World) (ms:List Mc) (l:List aI):Prop:=ms.length=l.length/\∀(i:Nat) (m:Mc) (c:aI),ms[i]?=some m->l[i]?=some c->In w m c
theorem kX.dF {w w':World} {ms:List Mc} {l:List aI} (h:kX w ms l) (f:Fr [] w w'):kX w' ms l:=⟨h.1,λi m c h1 h2=>(h.2 i m c h1 h2).dF f⟩
theorem Vf {w:World} {e:TypeId} {size:Nat} {ao:Option Addr} {n cap:Nat} {xs:List Value} (h:w.ownsRow 0 e size (.slice ao n cap) n xs):∀x∈ae ao,∃A,w.heap[x]?=some (.cells A e (0,0)):=by
 intro x hx;have zM:=pI (n:=n) (cap:=cap) hx;rcases h.2 with⟨h1,_⟩|⟨g,c,cur,h1,_,h2,_⟩
 ·rw[h1]at zM;cases zM
 ·rw[h1]at zM;simp only[Value.ownBlock,eS]at zM;subst zM;exact⟨cur,h2⟩
theorem kX.typed {S:List Nat} {w w':World} {ms:List Mc} {l:List aI} (h:kX w ms l) (f:Fr S w w') (hS:∀x∈S,∃A,w.heap[x]?=some (.cells A 258 (0,0))):kX w' ms l:=
 ⟨h.1,λi m c h1 h2=>(h.2 i m c h1 h2).fr f λx hx A fz hA=>by
  obtain⟨B,hB⟩:=hS x hx
  rw[hB]at hA
  simp at hA⟩
theorem kX.append {w:World} {ms mK:List Mc} {l l':List aI} (h:kX w ms l) (h':kX w mK l'):kX w (ms++mK) (l++l'):=by
 refine⟨by simp[h.1,h'.1],λi m c h1 h2=>?_⟩;rcases og i ms.length with k|k
 ·rw[CJ k]at h1;rw[CJ (by rw[<-h.1];exact k)]at h2;exact h.2 i m c h1 h2
 ·rw[Ie k]at h1;rw[Ie (by rw[<-h.1];exact k)]at h2;rw[<-h.1]at h2;exact h'.2 _ m c h1 h2
theorem kX.one {w:World} {m:Mc} {c:aI} (h:In w m c):kX w [m] [c]:=by
 refine⟨rfl,λi m' c' h1 h2=>?_⟩;match i with
 | 0=>simp only[aV,eS]at h1 h2;subst h1;subst h2;exact h
 | i+1=>simp at h1
theorem qn0:∀(l:List aI) (j:Nat) (x y:aI),l[2*j]?=some x->l[2*j+1]?=some y->aB (l.take (2*(j+1)))=aB (l.take (2*j))++[(x.1+y.1,x.2++y.2)]
 | l,0,x,y,h1,h2=>by
  match l with
  | []=>simp at h1
  | [a]=>simp at h2
  | a::b::t=>
   simp only[Nat.mul_zero,aV,eS,fM,bN]at h1 h2;subst h1;subst h2;rfl
 | l,j+1,x,y,h1,h2=>by
  match l with
  | []=>simp at h1
  | [a]=>simp[show 2*(j+1)=2*j+1+1 from by omega]at h1
  | a::b::t=>rw[show 2*(j+1)=2*j+1+1 from by omega]at h1;rw[show 2*(j+1)+1=2*j+1+1+1 from by omega]at h2;simp only[bN]at h1 h2;have:=qn0 t j x y h1 h2;rw[show 2*(j+1+1)=2*(j+1)+1+1 from by omega,show 2*(j+1)=2*j+1+1 from by omega];simp only[qY];simp only[aB,G7];rw[show 2*j+1+1=2*(j+1) from by omega,this]
theorem qw5 (l:List aI) (j:Nat) (h:l.length<=2*j+1):aB (l.take (2*j))=aB l:=by
 induction j generalizing l with
 | zero=>
  match l with
  | []=>rfl
  | [a]=>rfl
  | a::b::t=>simp at h
 | succ j ih=>
  match l with
  | []=>rfl
  | [a]=>simp[show 2*(j+1)=2*j+1+1 from by omega]
  | a::b::t=>rw[show 2*(j+1)=2*j+1+1 from by omega];simp only[qY,aB];rw[ih t (by simp only[cQ]at h;omega)]
theorem zfs {w:World} {m1 m2:Mc} {x y:aI} (h1:In w m1 x) (h2:In w m2 y) (b1:m1.len<=400000) (b2:m2.len<=400000) (q:Nat) (hq:w.heap[q]?=some (.cells #[.slice m1.ao m1.len m1.cap,.slice m2.ao m2.len m2.cap] 28 (0,0))) :
  Calls Tryz.prog 184 #[.slice (some ⟨q,0,none⟩) 2 2] w λe w'=>∃ao cap,e = .returned (.slice ao (m1.len+m2.len) cap)/\Fr [] w w'/\(∀x∈ae ao,w.heap.size<=x)/\∀W,W=x.1+y.1->In w' ⟨W,ao,m1.len+m2.len,cap⟩ (x.1+y.1,x.2++y.2):=by
 obtain⟨g1,A1,e1,_,l1,_⟩:=h1.shape;obtain⟨g2,A2,e2,_,l2,_⟩:=h2.shape;have i1:(ints x.2).length=m1.len*1:=by simp[ints,h1.len]
 have i2:(ints y.2).length=m2.len*1:=by simp[ints,h2.len]
 refine (qvi q m1.ao m2.ao m1.len m2.len m1.cap m2.cap (ints x.2) (ints y.2) w hq (Cx h1.own) (Cx h2.own) i1 i2 l1 l2 (λh=>by rw[e1]at h;cases h) (λh=>by rw[e2]at h;cases h) (Re _) (Re _) b1 b2).mono ?_;rintro e w' ⟨ao,cap,rfl,hm⟩;refine⟨ao,cap,rfl,hm.fr,hm.new,λW hW=>⟨hW,by simp[h1.len,h2.len],by have:=h1.pos;simp only;omega,?_⟩⟩;have:=hm.own;rwa [show ints x.2++ints y.2=ints (x.2++y.2) from by simp[ints]]at this
theorem qqk (g n cap:Nat) (ms:List Mc) (l:List aI) (w:World) (dI:w.ownsRow 0 258 2 (.slice (some ⟨g,0,none⟩) n cap) n (cellsOf ms)) (dz:kX w ms l) (hn:ms.length=n) (hb:n<=100000)
  (hl:∀c∈l,c.1<=2^50/\c.2.length<=100000) :
  Calls Tryz.prog 163 #[.slice (some ⟨g,0,none⟩) n cap] w λe w'=>∃ao k cp mK,e = .returned (.slice ao k cp)/\k=(aB l).length/\Made w w' 258 2 ao k cp (cellsOf mK)/\kX w' mK (aB l)/\∀m∈mK,∀x∈ae m.ao,w.heap.size<=x:=by
 have H:=aF dI dz hn hl;clear dI dz hn hl;obtain⟨hu,⟨ti,iK,vL,fZ,sJ⟩,tY,hp⟩:=Mq;go_enter Tryz.func163,Tryz.ntmps163;go_wp2;go_loopg [3,4] n (λk s3 s4 wr=>∃(j:Nat) (ao:Option Addr) (cp i:Nat) (mK:List Mc),s3 = .slice ao j cp/\s4 = .int .i64 (i:Nat)/\i=2*j/\i+k=n+(if i<=n then 0 else 1)/\i<=n+1/\Made w wr 258 2 ao j cp (cellsOf mK)/\kX wr mK (aB (l.take (2*j)))/\∀m∈mK,∀x∈ae m.ao,w.heap.size<=x);case atStart=>exact⟨0,none,0,0,[],rfl,rfl,rfl,by simp,by omega,.none w _ _,⟨rfl,λi m c h=>by simp at h⟩,λm hm=>by simp at hm⟩
 case round=>
  obtain⟨j,ao,cp,i,mK,rfl,rfl,jW,hk,Ov,hm,zo⟩:=hrel;obtain⟨y,hy⟩:=ah (i+1);have e0:(i:Int)+1=(y:Int):=by omega
  by_cases aY:y<n
  ·have HB:=af zo.2;have hIn:=zo.1;clear zo;obtain⟨dI,dz,qe,hl⟩:=H.out;have FT:=dr dI hm.fr (by simp);obtain⟨m1,jb⟩:∃m1,ms[i]?=some m1:=⟨_,bO (by omega)⟩;obtain⟨m2,hU⟩:∃m2,ms[y]?=some m2:=⟨_,bO (by omega)⟩;obtain⟨c1,cL⟩:∃c1,l[i]?=some c1:=⟨_,bO (by rw[<-dz.1];omega)⟩;obtain⟨c2,ky⟩:∃c2,l[y]?=some c2:=⟨_,bO (by rw[<-dz.1];omega)⟩;have I1:=(dz.2 i m1 c1 jb cL).dF hm.fr;have I2:=(dz.2 y m2 c2 hU ky).dF hm.fr;have B1:=hl c1 (iC cL);have B2:=hl c2 (iC ky);have cc:∀(z:Nat) (m:Mc),ms[z]?=some m->z<n->∀W,(sup [] wr.drew W).cell? ⟨g,z*2,none⟩=some (.int .i64 (m.worth:Nat))/\(sup [] wr.drew W).cell? ⟨g,z*2+1,none⟩=some (.slice m.ao m.len m.cap):=λz m hz KS W=>by have h2:=dr (dr FT (Fr.av [] wr) (by simp)) (dk [] wr.drew W) (by simp);have:=KH ms z m hz;rw[<-this.1,<-this.2];exact⟨xE h2 _ (by omega),xE h2 _ (by omega)⟩
   have d1:=λW=>(cc i m1 jb (by omega) W).1
   have d2:=λW=>(cc i m1 jb (by omega) W).2
   have d3:=λW=>(cc y m2 hU aY W).1
   have d4:=λW=>(cc y m2 hU aY W).2
   have v1:m1.worth<=2^50:=by rw[I1.worth];exact B1.1
   have v2:m2.worth<=2^50:=by rw[I2.worth];exact B2.1
   have v3:m1.len<=100000:=by rw[I1.len];exact B1.2
   have v4:m2.len<=100000:=by rw[I2.len];exact B2.2
   have hjj:j<=100000:=by omega
   have g1:decide ((n:Int)<=(i:Int))=false:=by simp;omega
   have g2:decide ((n:Int)<=(y:Int))=false:=by simp;omega
   obtain⟨W,hW⟩:=ah (m1.worth+m2.worth);have e9:(m1.worth:Int)+(m2.worth:Int)=(W:Int):=by omega
   have HW:=af hW;clear hW;have HI:=oG I1 I2 hm hIn hk jW cL ky hy;clear dI dz hl FT jb hU cL ky I1 I2 B1 B2 cc hm hIn hk jW hy;go_upto_region 5 with fail;refine jh 28 [(false,0),(false,1),(false,2),(false,3),(false,4),(false,5),(false,6),(false,7),(false,8),(false,9),(false,10),(false,11),(false,12),(false,13),(false,14),(false,15),(false,16),(false,17),(false,18),(false,19),(false,20),(false,21),(false,22),(false,23),(true,24),(true,25),(true,26),(true,27)] [] (by kernel_rfl) (by kernel_rfl) (λ_ _ d _ _ h=>by cases d<;>exact h) ?_;simp only[iw];refine cS 24 rfl ?_;simp only[aU];repeat (go_big_quiet_step (fail))
   refine wpQuiet_nil ?_;clear d1 d2 d3 d4;refine ep rfl ?_;intro K hK;go_wp2;refine hK.out _ _ (Fr.aS ((Fr.refl [] wr).alloc _).drew) ?_;clear hK K;obtain⟨w2,bq⟩:=ah ((wr.alloc (.cells #[.slice m1.ao m1.len m1.cap,.slice m2.ao m2.len m2.cap] 28 (0,0))).drew);have NT:w2.heap[wr.heap.size]?=some (.cells #[.slice m1.ao m1.len m1.cap,.slice m2.ao m2.len m2.cap] 28 (0,0)):=by rw[bq];exact bx wr _
   have f2:Fr [] wr w2:=by rw[bq];exact ((Fr.refl [] wr).alloc _).drew
   rw[<-bq];have uY:=zfs (HI.out.1.dF f2) (HI.out.2.1.dF f2) (by omega) (by omega) _ NT;have HC:=ak uY f2;clear uY f2 NT bq;refine ep rfl ?_;intro K hK;go_wp2_with (go_at_call 184;refine HC.o0.mono ?_;rintro e w3 ⟨vB,zt,rfl,f3,M5,Sb⟩);refine hK.out _ _ f3 ?_;clear hK K;have H3:=au f3 M5 Sb;clear f3 Sb M5;refine ep rfl ?_;intro K hK;go_wp2;refine hK.out _ _ (Fr.refl [] w3) ?_;clear hK K;refine ep rfl ?_;intro K hK;go_wp2;refine hK.out _ _ ((Fr.refl [] w3).alloc _) ?_;clear hK K;obtain⟨w4,ft⟩:∃w4,w4=w3.alloc (.cells #[.int .i64 (W:Nat),.slice vB (m1.len+m2.len) zt] 258 (0,0)):=⟨_,rfl⟩;have f4:Fr [] w3 w4:=by rw[ft];exact (Fr.refl [] w3).alloc _
   have c4:Cs w4 (some ⟨w3.heap.size,0,none⟩) [.int .i64 W,.slice vB (m1.len+m2.len) zt]:=by refine .inr ⟨_,0,rfl,λk v hv=>?_⟩;rw[ft,cell_of (bx w3 _),fM];simpa using hv
   rw[<-ft];have Od:=HI.out.2.2.1.fk ((HC.l1.trans H3.out.1).trans f4);have HD:=au Od c4 f4;clear Od c4 f4 ft;refine fE ?_;go_wp2_with (refine iq Mq rfl _ _ rfl (.slice ao j cp) j (cellsOf mK) (ae ao) rfl (dw ao j cp) HD.out.1.own (some ⟨w3.heap.size,0,none⟩) 1 1 [.int .i64 W,.slice vB (m1.len+m2.len) zt] rfl (aw _) (λh=>by cases h) HD.out.2.1 rfl (by intro u hu;simp only[gw,v7,or_false]at hu;rcases hu with rfl|rfl<;>rfl) (by omega) (by unfold maxLen;omega) ?_;intro Zj Zg w5 bI;have HA:=af bI;clear bI);go_roundg (gk-2);case measure=>obtain⟨_,_,_,_,hk,jW,_,_,hy⟩:=HI.out;simp only[show i<=n from by omega,if_true]at hk;omega
   case rel=>
    obtain⟨I1,I2,hm,hIn,hk,jW,cL,ky,hy⟩:=HI.out;simp only[show i<=n from by omega,if_true]at hk;obtain⟨Od,c4,f4⟩:=HD.out;obtain⟨f3,M5,Sb⟩:=H3.out;have bI:=HA.out;refine⟨j+1,Zj,Zg,i+2,mK++[⟨W,vB,m1.len+m2.len,zt⟩],rfl,by go_num,by omega,?_,by omega,?_,?_,?_⟩
    ·split<;>omega
    ·rw[Wc];exact Od.app bI
    ·have k1:kX w4 mK (aB (l.take (2*j))):=hIn.dF ((HC.l1.trans f3).trans f4);have k2:In w4 ⟨W,vB,m1.len+m2.len,zt⟩ (c1.1+c2.1,c1.2++c2.2):=(Sb W (by rw[HW.out,I1.worth,I2.worth])).dF f4;have k3:=kX.append k1 (kX.one k2);rw[qn0 l j c1 c2 (by rw[<-jW];exact cL) (by rw[<-jW,<-hy];exact ky)];exact k3.typed bI.fr (Vf Od.own)
    ·intro m jA x hx;rcases jy.1 jA with q|q
     ·exact HB.out m q x hx
     ·rw[iQ.1 q]at hx;exact bS (hm.fr.trans HC.l1).size (M5 x hx)
  ·have HI:=aP hm zo.1 jW hy zo.2;clear hm zo;go_wp2;go_ret;obtain⟨hm,hIn,jW,hy,Eh⟩:=HI.out;have hl:aB (l.take (2*j))=aB l:=qw5 l j (by rw[<-H.out.2.1.1,H.out.2.2.1];omega);rw[hl]at hIn;refine⟨ao,j,cp,mK,rfl,?_,hm,hIn,Eh⟩;have h1:=hm.own.1;rw[KK,hIn.1]at h1;omega
theorem qtz:∀{a b:List Nat},ints a=ints b->a=b
 | [],[],_=>rfl
 | [],y::b,h=>by simp[ints]at h
 | x::a,[],h=>by simp[ints]at h
 | x::a,y::b,h=>by simp only[ints,gW,List.cons.injEq,Value.int.injEq,true_and]at h;obtain⟨h1,h2⟩:=h;rw[show x=y from by omega,qtz (a:=a) (b:=b) h2]
theorem In.uniq {w:World} {m:Mc} {c c':aI} (h:In w m c) (h':In w m c'):c=c':=by
 rcases h.own.2 with⟨h1,h2⟩|⟨g,cap,cur,h1,_,h2,_,_,_,h3⟩
 ·have:=h.pos;omega
 ·rcases h'.own.2 with⟨yp,yo⟩|⟨g',aQ,Zc,yp,_,yo,_,_,_,h3'⟩
  ·have:=h'.pos;omega
  ·rw[h1]at yp;simp only[lN,eS,qU,and_true,true_and]at yp;obtain⟨rfl,_⟩:=yp;rw[h2]at yo;simp only[eS,Obj.cells.injEq,and_true,true_and]at yo;obtain rfl:=yo;have e:=qtz (h3.symm.trans h3');exact Prod.ext (h.worth.symm.trans h'.worth) e
open Classical in
noncomputable def B7 (w:World) (m:Mc):aI:=if h:∃c,In w m c then h.choose else (m.worth,[])
theorem ZN {w:World} {m:Mc} {c:aI} (h:In w m c):B7 w m=c:=by unfold B7;have hx:∃c,In w m c:=⟨c,h⟩;rw[dif_pos hx];exact hx.choose_spec.uniq h
theorem U5 (w:World) (m:Mc):(B7 w m).1=m.worth:=by
 unfold B7;split
 ·rename_i h;exact h.choose_spec.worth.symm
 ·rfl
theorem kX.B7 {w:World} {ms:List Mc} {l:List aI} (h:kX w ms l):l=ms.map (B7 w):=by
 refine List.ext_getElem? λi=>?_
 rw[j5];rcases og i l.length with k|k
 ·have h1:=bO (l:=ms) (show i<ms.length by rw[h.1];exact k);have h2:=bO k;rw[h1,h2,CA,ZN (h.2 i _ _ h1 h2)]
 ·rw[wg k,wg (by rw[h.1];exact k)];rfl
theorem eE.map {α β:Type} {a b:List (Nat×α)} (h:eE a b) (g:Nat×α->Nat×β) (ha:∀x∈a,(g x).1=x.1) (hb:∀x∈b,(g x).1=x.1):eE (a.map g) (b.map g):=λk=>by
 rw[List.filter_map,List.filter_map];have e1:a.filter ((λx:Nat×β=>x.1==k)∘g)=a.filter λx=>x.1==k:=List.filter_congr λx hx=>by simp[ha x hx]
 have e2:b.filter ((λx:Nat×β=>x.1==k)∘g)=b.filter λx=>x.1==k:=List.filter_congr λx hx=>by simp[hb x hx]
 rw[e1,e2,h k]
def m0:Mc:=⟨0,none,0,0⟩
def fn (ms:List Mc):Nat->Mc:=λi=>ms[i]?.getD m0
theorem zf7 {w:World} {g n cap:Nat} {ms:List Mc} (h:w.ownsRow 0 258 2 (.slice (some ⟨g,0,none⟩) n cap) n (cellsOf ms)):∃A0,A0.size=cap*2/\Dw w g 258 A0 n (fn ms):=by
 have hl:=h.1;rw[KK]at hl;rcases h.2 with⟨h1,_⟩|⟨g',aQ,cur,h1,_,h2,h3,h4,h5,h6⟩
 ·cases h1
 ·simp only[lN,eS,qU,and_true,true_and]at h1;obtain⟨rfl,rfl⟩:=h1;refine⟨cur,h5,cur,h2,rfl,by omega,λ_ _=>rfl,λi hi=>?_⟩;obtain⟨m,hm⟩:∃m,ms[i]?=some m:=⟨_,bO (by omega)⟩;have hf:fn ms i=m:=by simp[fn,hm]
  rw[hf];have hc:=KH ms i m hm;rw[<-h6,oY,oY,if_pos (by omega),if_pos (by omega),qW,qW]at hc;exact hc
theorem ZV {w:World} {g n cap:Nat} {A0:Array Value} {f:Nat->Mc} (h:Dw w g 258 A0 n f) (h0:A0.size=cap*2) (hc:n<=cap) (hm:cap<=maxLen):w.ownsRow 0 258 2 (.slice (some ⟨g,0,none⟩) n cap) n (cellsOf ((List.range n).map f)):=by
 obtain⟨A,h1,h2,h3,_,h4⟩:=h;refine⟨by rw[KK];simp,.inr ⟨g,cap,A,rfl,dZ _,h1,hc,hm,by rw[h2,h0],?_⟩⟩;refine List.ext_getElem? λj=>?_
 rw[oY];by_cases hj:j<n*2
 ·rw[if_pos hj,qW];have hi:j/2<n:=by omega
  have hr:((List.range n).map f)[j/2]?=some (f (j/2)):=by simp[hi]
  have e1:=KH _ _ _ hr;have e2:=h4 (j/2) hi;rcases KG j with k|k
  ·rw[show j=j/2*2 from by omega,e1.1];exact e2.1
  ·rw[show j=j/2*2+1 from by omega,e1.2];exact e2.2
 ·rw[if_neg hj,wg (by rw[KK];simp;omega)]
theorem UP (f:Nat->Mc) (n:Nat):sg f 0 n=((List.range n).map f).map tg:=by simp[sg,Function.comp_def]
theorem zbn {ms:List Mc} {n:Nat} (h:ms.length=n):(List.range n).map (fn ms)=ms:=by
 subst h;refine List.ext_getElem? λi=>?_
 rw[j5];by_cases hi:i<ms.length
 ·rw[List.getElem?_range hi];simp[fn,hi]
 ·rw[wg (by simp;omega),wg (by omega)];rfl
theorem qnu (g n cap:Nat) (ms:List Mc) (l:List aI) (w:World) (dI:w.ownsRow 0 258 2 (.slice (some ⟨g,0,none⟩) n cap) n (cellsOf ms)) (dz:kX w ms l) (hn:n<=100000)
  (hl:∀c∈l,c.1<=2^50) :
  Calls Tryz.prog 161 #[.slice (some ⟨g,0,none⟩) n cap,jL] w λe w'=>e = .returned (.tuple #[])/\
   ∃mK l',w'.ownsRow 0 258 2 (.slice (some ⟨g,0,none⟩) n cap) n (cellsOf mK)/\kX w' mK l'/\Sorted l'/\eE l' l/\Fr [g] w w'/\∀m∈mK,m∈ms:=by
 have hlen:ms.length=n:=by have:=dI.1;rw[KK]at this;omega
 obtain⟨A0,C6,hD⟩:=zf7 dI;obtain⟨_,_,e1,e2,_⟩:=qn1 dI;simp only[lN,true_and]at e1;have bA:Wb (fn ms):=λi=>by
  unfold fn;rcases og i ms.length with k|k
  ·have h1:=bO k;have h2:=bO (l:=l) (show i<l.length by rw[<-dz.1];exact k);rw[h1];show ms[i].worth<=_;rw[(dz.2 i _ _ h1 h2).worth];exact hl _ (vJ _)
  ·rw[wg k];exact dZ _
 refine (zab g 258 A0 n cap (fn ms) w hD hn bA).mono ?_;rintro e w' ⟨rfl,f',hD',hs,hf⟩;have h1:n<=cap/\cap<=maxLen:=by
  rcases dI.2 with⟨h1,_⟩|⟨g',aQ,cur,h1,_,h2,h3,h4,h5,h6⟩
  ·cases h1
  ·simp only[lN,eS,qU,and_true,true_and]at h1;omega
 have az:=hs.stb;have FR:=hs.srt;rw[Cq,UP,UP,zbn hlen]at az;rw[Cq,UP]at FR;obtain⟨mK,xY⟩:∃mK,mK=(List.range n).map f':=⟨_,rfl⟩;rw[<-xY]at az FR;have Bj:mK.length=n:=by rw[xY];simp
 have kI:∀m∈mK,m∈ms:=λm hm=>by have h2:tg m∈mK.map tg:=yQ hm;obtain⟨m',h3,h4⟩:=jR.1 ((az.mem _).1 h2);have:=congrArg Prod.snd h4;simp only[tg]at this;rw[<-this];exact h3
 have Ya:=dz.B7;have Ov:kX w mK (mK.map (B7 w)):=by
  refine⟨by simp,λi m c h1 h2=>?_⟩;rw[j5,h1]at h2;simp only[CA,eS]at h2;obtain⟨j,hj⟩:=DG.1 (kI m (iC h1));have hj':j<l.length:=by rw[<-dz.1];exact (lA.1 hj).1
  have:=dz.2 j m _ hj (bO hj');rw[<-h2,ZN this];exact this
 refine⟨rfl,mK,mK.map (B7 w),by rw[xY];exact ZV hD' C6 h1.1 h1.2,Ov.typed hf ?_,?_,?_,hf,kI⟩
 ·exact Vf dI
 ·unfold dX at FR;unfold Sorted;rw[He]at FR ⊢;refine FR.imp λ{a b} h=>?_
  rw[U5,U5];exact h
 ·have hk:∀(k:List Mc) (x:Nat×Mc),x∈k.map tg->(B7 w x.2).1=x.1:=λk x hx=>by obtain⟨m,_,rfl⟩:=jR.1 hx;exact U5 w m
  have:=az.map (λx=>B7 w x.2) (β:=List Nat) (hk _) (hk _);rw[xC,xC]at this;rw[Ya];exact this
end huf
namespace huf
open Go
def ins (l:List aI):List Nat:=l.flatMap (·.2)
theorem lR (a b:List aI):ins (a++b)=ins a++ins b:=by simp[ins]
theorem qt0 {a b:List aI} (h:a.Perm b):(ins a).Perm (ins b):=h.flatMap_right _
def ones (l:List aI) (syms:List Nat):Prop:=l.map (·.2)=syms.map λs=>[s]
theorem qt1 {l:List aI} {syms:List Nat} (h:ones l syms) (a:Nat):ins (l.take a)=syms.take a:=by unfold ins;rw[List.flatMap_def,E7,h,<-E7,<-List.flatMap_def];simp
theorem Wj:∀(syms:List Nat),syms.Nodup->∀(a i:Nat) (s:Nat),syms[i]?=some s->(syms.take a).count s=if i<a then 1 else 0
 | [],_,a,i,s,h=>by cases h
 | x::t,_,0,i,s,h=>by simp
 | x::t,hn,a+1,0,s,h=>by
  simp only[aV,eS]at h;subst h;rw[qY,List.count_cons_self,List.count_eq_zero_of_not_mem λhm=>(List.nodup_cons.1 hn).1 (xF hm)];simp
 | x::t,hn,a+1,i+1,s,h=>by
  rw[bN]at h;have bR:x≠s:=λe=>(List.nodup_cons.1 hn).1 (e▸iC h)
  rw[qY,List.count_cons_of_ne bR,Wj t (List.nodup_cons.1 hn).2 a i s h];simp only[Nat.add_lt_add_iff_right]
theorem qqb (l:List aI) (syms:List Nat) (h1:ones l syms) (hn:syms.Nodup) (i s:Nat) (hi:syms[i]?=some s):∀k m,m<=(row l k).length->(ins ((row l k).take m)).count s=gY l k m i
 | 0,m,hm=>by
  have:m=0:=by simpa[row] using hm
  subst this;rfl
 | k+1,m,hm=>by
  have jA:m<=l.length+(aB (row l k)).length:=by rw[row,Au]at hm;exact hm
  obtain⟨_,_,h3⟩:=Ct l (aB (row l k)) m jA;have hp:=qt0 (Fl l (aB (row l k)) m);rw[show mL l (aB (row l k))=row l (k+1) from rfl]at hp;rw[hp.count_eq,lR,Hc,qt1 h1,Wj syms hn _ i s hi];change (sl l k m).2<=_ at h3;have rI:ins ((aB (row l k)).take (sl l k m).2)=ins ((row l k).take (2*(sl l k m).2)):=Vg _ _ h3;rw[DI]at h3;rw[gY,<-qqb l syms h1 hn i s hi k (2*(sl l k m).2) (by omega),<-rI];rfl
theorem qix (l:List aI) (syms:List Nat) (h1:ones l syms) (s:Nat) (hs:s∉syms):∀k m,m<=(row l k).length->(ins ((row l k).take m)).count s=0
 | 0,m,hm=>by
  have:m=0:=by simpa[row] using hm
  subst this;rfl
 | k+1,m,hm=>by
  have jA:m<=l.length+(aB (row l k)).length:=by rw[row,Au]at hm;exact hm
  obtain⟨_,_,h3⟩:=Ct l (aB (row l k)) m jA;have hp:=qt0 (Fl l (aB (row l k)) m);rw[show mL l (aB (row l k))=row l (k+1) from rfl]at hp;rw[hp.count_eq,lR,Hc,qt1 h1,List.count_eq_zero_of_not_mem λhm=>hs (xF hm)];change (sl l k m).2<=_ at h3;have rI:ins ((aB (row l k)).take (sl l k m).2)=ins ((row l k).take (2*(sl l k m).2)):=Vg _ _ h3;rw[DI]at h3;change 0+(ins ((aB (row l k)).take (sl l k m).2)).count s=0;rw[rI,qix l syms h1 s hs k _ (by omega)]
def aN (cs:List Nat) (i:Nat):List Nat:=(List.range i).filter λs=>decide (0<ai cs s)
def cq (cs:List Nat) (i:Nat):List aI:=(aN cs i).map λs=>(ai cs s,[s])
theorem V3 (cs:List Nat) (i:Nat):aN cs (i+1)=if 0<ai cs i then aN cs i++[i] else aN cs i:=by unfold aN;rw[Kg,CG];by_cases h:0<ai cs i<;>simp[h]
theorem qq7 (cs:List Nat) (i:Nat):cq cs (i+1)=if 0<ai cs i then cq cs i++[(ai cs i,[i])] else cq cs i:=by unfold cq;rw[V3];split<;>simp
theorem qk4 (cs:List Nat) (i:Nat):(aN cs i).Nodup:=List.Pairwise.filter _ List.nodup_range
theorem Ia {cs:List Nat} {i s:Nat}:s∈aN cs i↔s<i/\0<ai cs s:=by simp[aN]
theorem eE.perm {α:Type} [DecidableEq α] {a b:List (Nat×α)} (h:eE a b):a.Perm b:=by
 rw[List.perm_iff_count];intro x;have h1:=h x.1;have h2:∀l:List (Nat×α),l.count x=(l.filter λy=>y.1==x.1).count x:=λl=>by rw[List.count_filter (by simp)]
 rw[h2 a,h2 b,h1]
structure mr (L:Nat) (cs ls:List Nat):Prop where
 len:ls.length=cs.length
 le:∀l∈ls,l<=L
 pos:∀i,0<ai cs i->0<ai ls i
 zero:∀i,ai cs i=0->ai ls i=0
 full:2<=(aN cs cs.length).length->weight ls=32768
 few:(aN cs cs.length).length<2->∀l∈ls,l<=1
def wt (x:Nat):Nat:=if x=0 then 0 else 2^(15-x)
theorem VZ {α:Type} (g:α->Nat):∀l:List α,weight (l.map g)=(l.map λs=>wt (g s)).sum
 | []=>rfl
 | x::l=>by rw[gW,weight,VZ g l,gW,Dr];rfl
theorem VU {α:Type} (p:α->Bool) (g:α->Nat):∀l:List α,(∀x∈l,p x=false->g x=0)->(l.map g).sum=((l.filter p).map g).sum
 | [],_=>rfl
 | x::l,h=>by
  have ih:=VU p g l λy hy=>h y (DH _ hy)
  rw[G8];cases hp:p x with
  | true=>simp[ih]
  | false=>simp[ih,h x Hw hp]
theorem ql9 (g:Nat->Nat):∀n,cE (n+1) g=g 0+cE n λi=>g (i+1)
 | 0=>by simp[cE]
 | n+1=>by rw[cE,ql9 g n,cE];omega
theorem qjn (g:Nat->Nat):∀syms:List Nat,(syms.map g).sum=cE syms.length (λi=>g (syms[i]?.getD 0))
 | []=>rfl
 | x::l=>by rw[gW,Dr,qjn g l,cQ,ql9];simp
theorem qp0 (c:Nat) (g:Nat->Nat):∀n,cE n (λi=>g i*c)=cE n g*c
 | 0=>by simp[cE]
 | n+1=>by rw[cE,cE,qp0 c g n,rC]
theorem zd1 {L:Nat} {cs:List Nat} {sl:List aI} (sM:1<=L) (xg:L<=15) (hs:Sorted sl) (az:eE sl (cq cs cs.length)) (h2:2<=(aN cs cs.length).length) (hle:(aN cs cs.length).length<=2^L) :
  2*sl.length-2<=(row sl L).length/\sl.length=(aN cs cs.length).length/\
  mr L cs ((List.range cs.length).map λs=>(ins ((row sl L).take (2*sl.length-2))).count s):=by
 have hp:=az.perm;have hlen:sl.length=(aN cs cs.length).length:=by rw[hp.length_eq];simp[cq]
 have jo:Pos sl:=λx hx=>by have:=hp.mem_iff.1 hx;simp only[cq,jR]at this;obtain⟨s,fZ,rfl⟩:=this;exact (Ia.1 fZ).2
 obtain⟨syms,rf⟩:=ah (sl.map λc=>c.2.headD 0);have h1:ones sl syms:=by
  unfold ones;rw[rf,xC];refine CD λc hc=>?_
  have:=hp.mem_iff.1 hc;simp only[cq,jR]at this;obtain⟨s,_,rfl⟩:=this;rfl
 have Ed:syms.Perm (aN cs cs.length):=by
  rw[rf];have:=hp.map λc=>c.2.headD 0
  refine this.trans (List.Perm.of_eq ?_);simp[cq,Function.comp_def]
 have Eg:syms.Nodup:=Ed.nodup_iff.2 (qk4 _ _);have hsl:syms.length=sl.length:=by rw[rf];simp
 obtain⟨k1,k2,k3⟩:=zan sl hs jo L sM (by omega) (by omega);obtain⟨m,hm⟩:=ah (2*sl.length-2);rw[<-hm]at k1 k2 k3 ⊢;obtain⟨cf,Yd⟩:∃cf:Nat->Nat,cf=λs=>(ins ((row sl L).take m)).count s:=⟨_,rfl⟩
 have c1:∀i s,syms[i]?=some s->cf s=gY sl L m i:=λi s hi=>by rw[Yd];exact qqb sl syms h1 Eg i s hi L m k1
 have c0:∀s,s∉syms->cf s=0:=λs fZ=>by rw[Yd];exact qix sl syms h1 s fZ L m k1
 have qq:∀s,s<cs.length->ai ((List.range cs.length).map cf) s=cf s:=λs fZ=>by simp[ai,fZ]
 have Eo:∀s,cs.length<=s->ai ((List.range cs.length).map cf) s=0:=λs fZ=>by simp[ai,fZ]
 have dz:∀s,s∈syms↔s<cs.length/\0<ai cs s:=λs=>Ed.mem_iff.trans Ia
 refine⟨k1,hlen,?_⟩;rw[<-Yd];refine⟨by simp,λl hl=>?_,λi hi=>?_,λi hi=>?_,λ_=>?_,λh=>absurd h (by omega)⟩
 ·obtain⟨s,_,rfl⟩:=jR.1 hl;by_cases hx:s∈syms
  ·obtain⟨i,hi⟩:=DG.1 hx;rw[c1 i s hi];exact Ul _ _ _ _
  ·rw[c0 s hx];exact dZ _
 ·have iK:=Fi hi;rw[qq i iK];obtain⟨j,hj⟩:=DG.1 ((dz i).2 ⟨iK,hi⟩);rw[c1 j i hj];exact k2 j (by rw[<-hsl];exact (lA.1 hj).1)
 ·by_cases iK:i<cs.length
  ·rw[qq i iK,c0 i λh=>by have:=((dz i).1 h).2;omega]
  ·exact Eo i (by omega)
 ·rw[VZ,VU (λs=>decide (0<ai cs s)) _ _ λs fZ IL=>by
   rw[c0 s λh=>by have:=((dz s).1 h).2;simp at IL;omega];rfl]
  have e1:((aN cs cs.length).map λs=>wt (cf s)).sum=(syms.map λs=>wt (cf s)).sum:=(Ed.symm.map _).sum_nat;rw[show (List.range cs.length).filter (λs=>decide (0<ai cs s))=aN cs cs.length from rfl,e1,qjn,hsl];have e2:cE sl.length (λi=>wt (cf (syms[i]?.getD 0)))=cE sl.length (λi=>2^(L-gY sl L m i)*2^(15-L)):=by
   refine V2 _ λi hi=>?_
   have fZ:=bO (l:=syms) (show i<syms.length by rw[hsl];exact hi);rw[fZ,Option.getD_some,c1 i _ fZ];have h3:=k2 i hi;have h4:=Ul sl L m i;unfold wt;rw[if_neg (by omega),<-nA];congr 1;omega
  rw[e2,qp0,k3,<-nA,show L+(15-L)=15 from by omega]
theorem za7 {L:Nat} {cs:List Nat} (sM:1<=L) (h2:(aN cs cs.length).length<2):mr L cs ((List.range cs.length).map λs=>if 0<ai cs s then 1 else 0):=by
 have qq:∀s,s<cs.length->ai ((List.range cs.length).map λs=>if 0<ai cs s then 1 else 0) s=if 0<ai cs s then 1 else 0:=λs fZ=>by simp[ai,fZ]
 refine⟨by simp,λl hl=>?_,λi hi=>?_,λi hi=>?_,λh=>absurd h (by omega),λ_ l hl=>?_⟩
 ·obtain⟨s,_,rfl⟩:=jR.1 hl;split<;>omega
 ·rw[qq i (Fi hi),if_pos hi];exact Nat.one_pos
 ·by_cases iK:i<cs.length
  ·rw[qq i iK,if_neg (by omega)]
  ·simp[ai,show cs.length<=i by omega]
 ·obtain⟨s,_,rfl⟩:=jR.1 hl;split<;>omega
open Go.RowKit lib bm bl
theorem MD (l:List aI) (B C:Nat) (h:∀c∈l,c.1<=B/\c.2.length<=C):∀k,∀c∈row l k,c.1<=B*2^k/\c.2.length<=C*2^k
 | 0,c,hc=>by simp[row]at hc
 | k+1,c,hc=>by
  have ih:=MD l B C h k;have h2:2^(k+1)=2*2^k:=by rw[pK];omega
  rcases Um _ _ _ hc with a|a
  ·have:=h c a;have h1:=oZ (k+1);exact⟨bS this.1 (Nat.le_mul_of_pos_right _ h1),bS this.2 (Nat.le_mul_of_pos_right _ h1)⟩
  ·obtain⟨j,hj⟩:=DG.1 a;obtain⟨u,v,hu,hv,rfl⟩:=DA _ _ _ hj;have a1:=ih u (iC hu);have a2:=ih v (iC hv);rw[h2,aK];refine⟨?_,?_⟩
   ·rw[show B*(2*2^k)=B*2^k+B*2^k from by rw[Nat.mul_left_comm];omega];exact Nat.add_le_add a1.1 a2.1
   ·rw[show C*(2*2^k)=C*2^k+C*2^k from by rw[Nat.mul_left_comm];omega];exact Nat.add_le_add a1.2 a2.2
theorem UO (l:List aI) (P:Nat->Prop) (h:∀c∈l,∀x∈c.2,P x):∀k,∀c∈row l k,∀x∈c.2,P x
 | 0,c,hc=>by simp[row]at hc
 | k+1,c,hc=>by
  rcases Um _ _ _ hc with a|a
  ·exact h c a
  ·obtain⟨j,hj⟩:=DG.1 a;obtain⟨u,v,hu,hv,rfl⟩:=DA _ _ _ hj;intro x hx;rcases jy.1 hx with b|b
   ·exact UO l P h k u (iC hu) x b
   ·exact UO l P h k v (iC hv) x b
def Zn (Q:Nat) (ms:List Mc):Prop:=∀m∈ms,∀x∈ae m.ao,x≠Q
theorem kX.off {Q:Nat} {w w':World} {ms:List Mc} {l:List aI} (h:kX w ms l) (f:Fr [Q] w w') (ho:Zn Q ms):kX w' ms l:=
 ⟨h.1,λi m c h1 h2=>by
  have k:=h.2 i m c h1 h2
  refine⟨k.worth,k.len,k.pos,dr k.own f λx hx=>?_⟩
  have:x∈ae m.ao:=by
   cases hm:m.ao with
   | none=>rw[hm]at hx;cases hx
   | some a=>rw[hm]at hx;simp only[Value.ownBlock,eS]at hx;subst hx;simp[ae]
  have:=ho m (iC h1) x this
  simpa using this⟩
theorem kX.low {w:World} {ms:List Mc} {l:List aI} (h:kX w ms l):∀m∈ms,∀x∈ae m.ao,x<w.heap.size:=λm hm x hx=>by
 obtain⟨i,hi⟩:=DG.1 hm;have eC:i<l.length:=by rw[<-h.1];exact (lA.1 hi).1
 exact qR (h.2 i m _ hi (bO eC)).own (pI hx)
theorem Hn {w:World} {e:TypeId} {size:Nat} {ao:Option Addr} {n cap:Nat} {xs:List Value} (h:w.ownsRow 0 e size (.slice ao n cap) n xs) (hn:0<n):∃g,ao=some ⟨g,0,none⟩/\n<=cap/\cap<=maxLen:=by
 rcases h.2 with⟨_,h2⟩|⟨g,c,cur,h1,_,_,h3,h4,_⟩
 ·omega
 ·simp only[lN,true_and]at h1;exact⟨g,h1.1,by omega,by omega⟩
theorem zd3 (l:List aI) (C:Nat) (h:∀c∈l,c.2.length<=C):(ins l).length<=l.length*C:=by
 induction l with
 | nil=>simp[ins]
 | cons c l ih=>
  have h1:=ih λx hx=>h x (DH _ hx)
  have h2:=h c Hw;simp only[ins,Av,aK,cQ,rC]at h1 ⊢;omega
theorem row_one (l:List aI):row l 1=l:=by show mL l (aB [])=l;exact MR l
theorem VO (l:List aI):∀k,(row l k).length<=2*l.length
 | 0=>by simp[row]
 | k+1=>by rw[VP];have:=VO l k;omega
theorem ZO {w:World} {e:TypeId} {size:Nat} {ao:Option Addr} {n cap:Nat} {xs:List Value} (h:w.ownsRow 0 e size (.slice ao n cap) n xs):Cs w ao xs:=by
 rcases h.2 with⟨h1,h2⟩|⟨g,aQ,cur,h1,hb,hg,hn,hm,hs,ht⟩
 ·left;have:=h.1;rw[h2]at this;exact wk (by simpa using this)
 ·simp only[lN,true_and]at h1;obtain⟨rfl,rfl⟩:=h1;refine .inr ⟨g,0,rfl,λj v hv=>?_⟩;rw[cell_of hg,fM];rw[<-ht,oY]at hv;split at hv
  ·simpa using hv
  ·cases hv
structure lI (w:World) (Q g n cp:Nat) (ms:List Mc) (l:List aI):Prop where
 own:w.ownsRow 0 258 2 (.slice (some ⟨g,0,none⟩) n cp) n (cellsOf ms)
 ins:kX w ms l
 off:Zn Q ms
 ne:g≠Q
theorem lI.fr {w w':World} {Q g n cp:Nat} {ms:List Mc} {l:List aI} (h:lI w Q g n cp ms l) (f:Fr [] w w'):lI w' Q g n cp ms l:=
 ⟨dr h.own f (by simp),h.ins.dF f,h.off,h.ne⟩
theorem lI.frQ {w w':World} {Q g n cp:Nat} {ms:List Mc} {l:List aI} (h:lI w Q g n cp ms l) (f:Fr [Q] w w'):lI w' Q g n cp ms l:=
 ⟨dr h.own f (by intro k hk;simp only[Value.ownBlock,eS]at hk;subst hk;simpa using h.ne),h.ins.off f h.off,h.off,h.ne⟩
theorem lI.len {w:World} {Q g n cp:Nat} {ms:List Mc} {l:List aI} (h:lI w Q g n cp ms l):ms.length=n/\l.length=n:=by have:=h.own.1;rw[KK]at this;have:=h.ins.1;omega
def ik (L:Nat) (cs:List Nat) (N:Nat) (w:World) (e:Ending) (w':World):Prop:=
 ∃g ls,e = .returned (.tuple #[.slice (some ⟨g,0,none⟩) N N,.int .i64 0])/\mr L cs ls/\Cs w' (some ⟨g,0,none⟩) (ints ls)/\w.heap.size<=g/\g<w'.heap.size/\Fr [] w w'
theorem Ow.good {L N:Nat} {cs:List Nat} {w w':World} {Q:Nat} {F:Nat->Nat} (h:Ow w' Q N F) (hN:N=cs.length) (hl:mr L cs ((List.range cs.length).map F)) (hQ:w.heap.size<=Q) (hf:Fr [] w w') :
  ik L cs N w (.returned (.tuple #[.slice (some ⟨Q,0,none⟩) N N,.int .i64 0])) w':=by
 refine⟨Q,_,rfl,hl,by rw[<-hN];exact h.cs,hQ,?_,hf⟩;obtain⟨A,hA,_⟩:=h;exact lt_of_block hA
theorem MJ (a:Option Addr) (cap:Nat) (cs:List Nat) (L:Nat) (w:World) (h:Ri w a cap cs) (sM:1<=L) (xg:L<=15) (hlen:cs.length<=400) (hle:∀c∈cs,c<=2^30)
  (hn:(aN cs cs.length).length<=2^L) :
  Calls Tryz.prog 130 #[.slice a cs.length cap,.int .i64 L] w (ik L cs cs.length w):=by
 obtain⟨N,hN⟩:=ah cs.length;rw[<-hN]at hlen hn ⊢;have H:=aF h hle hN hn;clear h hle hN hn;obtain⟨hu,⟨ti,iK,vL,fZ,sJ⟩,tY,hp⟩:=oX;go_enter Tryz.func130,Tryz.ntmps130;go_upto_block 0 with fail;go_wp2;go_loopg [6,7,8,31] N (λk s6 s7 s8 s31 wr=>∃(i:Nat) (ao:Option Addr) (n cp:Nat) (ms:List Mc),s31 = .int .i64 (i:Nat)/\s6 = .slice ao n cp/\i+k=N/\n=(aN cs i).length/\Made w wr 258 2 ao n cp (cellsOf ms)/\kX wr ms (cq cs i));case atStart=>exact⟨0,none,0,0,[],rfl,rfl,by omega,rfl,.none w _ _,⟨rfl,λi m c h=>by simp at h⟩⟩
 case round=>
  obtain⟨i,ao,n,cp,ms,rfl,rfl,bU,qe,hm,hIn⟩:=hrel;by_cases hi:i<N
  ·obtain⟨k,rfl⟩:∃k,gk=k+1:=⟨gk-1,by omega⟩;have eC:i<cs.length:=by rw[<-H.out.2.2.1];exact hi
   obtain⟨g,o,rfl,hc⟩:=(H.out.1.fr hm.fr).at eC;have fH:=H.out.2.1 _ (vJ eC);have fh:ai cs i=cs[i]:=by unfold ai;rw[bO eC];rfl
   obtain⟨c,kv⟩:=ah (cs[i]);rw[<-kv]at hc fH fh;have bW:=qq7 cs i;have kF:=V3 cs i;rw[fh]at bW kF;have Eh:n<=400:=by
    have h2:(aN cs i).length<=i:=by have:=DF (λs=>decide (0<ai cs s)) (List.range i);rw[Aw]at this;exact this
    omega
   by_cases cL:c=0
   ·subst cL;rw[if_neg (by omega)]at bW kF;have HI:=bJ bW kF hm hIn qe bU;clear bW kF hm hIn qe bU fh kv;go_wp2;go_roundg k;case measure=>omega
    case rel=>obtain⟨bW,kF,hm,hIn,qe,bU⟩:=HI.out;exact⟨i+1,ao,n,cp,ms,by go_num,rfl,by omega,by rw[kF];exact qe,hm,by rw[bW];exact hIn⟩
   ·rw[if_pos (by omega)]at bW kF;have HI:=bJ bW kF hm hIn qe bU;clear bW kF hm hIn qe bU fh kv;obtain⟨W1,sK⟩:∃W1,W1=wr.alloc (.cells #[.int .i64 (i:Nat)] 3 (0,0)):=⟨_,rfl⟩;obtain⟨W2,CZ⟩:∃W2,W2=W1.alloc (.cells #[.int .i64 (c:Nat),.slice (some ⟨wr.heap.size,0,none⟩) 1 1] 258 (0,0)):=⟨_,rfl⟩;have iZ:W1.heap.size=wr.heap.size+1:=by rw[sK,eZ]
    have fW:Fr [] wr W1:=by rw[sK];exact (Fr.refl [] wr).alloc _
    have S9:Fr [] W1 W2:=by rw[CZ];exact (Fr.refl [] W1).alloc _
    have Ou:In W2 ⟨c,some ⟨wr.heap.size,0,none⟩,1,1⟩ (c,[i]):=by refine⟨rfl,rfl,Nat.one_pos,rfl,.inr ⟨wr.heap.size,1,#[.int .i64 i],rfl,dZ _,S9.ae (by rw[sK];exact bx wr _) (by simp),aw _,by unfold maxLen;omega,rfl,rfl⟩⟩
    have OZ:Cs W2 (some ⟨wr.heap.size+1,0,none⟩) [.int .i64 c,.slice (some ⟨wr.heap.size,0,none⟩) 1 1]:=by refine .inr ⟨_,0,rfl,λj v hv=>?_⟩;rw[CZ,<-iZ,cell_of (bx W1 _),fM];simpa using hv
    have Ob:=HI.out.2.2.1.fk (fW.trans S9);have HJ:=aF Ou OZ Ob (fW.trans S9);rw[sK]at CZ;have Pc:=CZ.symm;clear Ou OZ Ob fW S9 iZ sK CZ;have Ql:=af Pc;clear Pc;go_upto_region 10 with fail;go_wp2_with (refine iq Mq rfl _ _ rfl (.slice ao n cp) n (cellsOf ms) (ae ao) rfl (dw ao n cp) (by rw[Ql.out];exact HJ.out.2.2.1.own) (some ⟨wr.heap.size+1,0,none⟩) 1 1 [.int .i64 c,.slice (some ⟨wr.heap.size,0,none⟩) 1 1] (by first|rfl|simp) (aw _) (λh=>by cases h) (by rw[Ql.out];exact HJ.out.2.1) rfl (by intro u hu;simp only[gw,v7,or_false]at hu;rcases hu with rfl|rfl<;>rfl) (by omega) (by unfold maxLen;omega) ?_;intro Zj Zg w5 bI;rw[Ql.out]at bI;have HA:=af bI;clear bI);go_roundg k;case measure=>omega
    case rel=>
     obtain⟨bW,kF,hm,hIn,qe,bU⟩:=HI.out;obtain⟨in2,_,Ob,fW⟩:=HJ.out;refine⟨i+1,Zj,n+1,Zg,ms++[⟨c,some ⟨wr.heap.size,0,none⟩,1,1⟩],by go_num,rfl,by omega,by rw[kF,aK,qe];rfl,?_,?_⟩
     ·rw[Wc];exact Ob.app HA.out
     ·rw[bW];exact (kX.append (hIn.dF fW) (kX.one in2)).typed HA.out.fr (Vf Ob.own)
  ·obtain rfl:i=N:=by omega
   have iJ:n<=2^L:=by rw[qe];exact H.out.2.2.2
   have zaC:n<=400:=by
    have h2:(aN cs i).length<=i:=by have:=DF (λs=>decide (0<ai cs s)) (List.range i);rw[Aw]at this;exact this
    omega
   obtain⟨z,hz⟩:=ah (2^L);have e2:(2:Int)^L=(z:Int):=by rw[hz];exact yJ L
   have DT:z<=32768:=by rw[hz];exact bS (kr (by decide) xg) (by decide)
   have KS:n<=z:=by omega
   have HI:=aP qe hm hIn iJ hz;clear qe hm hIn iJ hz bU hi;obtain⟨Q,hQ⟩:=ah wr.heap.size;have HQ:=af hQ;clear hQ;go_upto_region 15 with (refine wpList_make_full _ rfl _ _ 28 rfl 0 3 ti (.int .i64 0) 1 hu iK vL fZ .i64 .i64 (i:Nat) (i:Nat) i rfl rfl rfl rfl (by rw[sJ];omega) (by unfold maxLen;omega) (by omega) ?_;intro w3 kB iM;have H3:=ak kB iM;clear kB iM);rw[<-HQ.out]at H3 ⊢;have HS:Hid (Ow w3 Q i (λ_=>0)/\Fr [] wr w3/\kX w3 ms (cq cs i)/\w3.ownsRow 0 258 2 (.slice ao n cp) n (cellsOf ms)/\Zn Q ms/\(∀x∈ae ao,x<Q)):=af (by
    have f3:Fr [] wr w3:=(Fr.refl [] wr).grown H3.l1 (λk hk=>by cases hk)
    refine⟨Q5 H3.o0,f3,HI.out.2.2.1.dF f3,dr HI.out.2.1.own f3 (by simp),λm hm x hx=>?_,λx hx=>by rw[HQ.out];exact HI.out.2.1.lt x hx⟩
    have:=HI.out.2.2.1.low m hm x hx
    rw[HQ.out];omega)
   clear H3 hu iK vL fZ sJ tY hp e2 KS;by_cases vQ:n<2
   ·go_wp2;go_loopg [11,65] n (λk s11 s65 wr=>∃t:Nat,s65 = .int .i64 (t:Nat)/\t+k=n/\Ow wr Q i (λs=>((aN cs i).take t).count s)/\Fr [Q] w3 wr);case atStart=>exact⟨0,rfl,by omega,HS.out.1.congr λs _=>by simp,.refl _ _⟩
    case round=>
     obtain⟨t,rfl,bF,how,hf⟩:=hrel;by_cases ht:t<n
     ·obtain rfl:t=0:=by omega
      obtain rfl:n=1:=by omega
      obtain⟨k2,rfl⟩:∃k2,gk=k2+1:=⟨gk-1,by omega⟩;obtain⟨h1,h2,h3,h4,h5,h6⟩:=HS.out;obtain⟨g,rfl,_,_⟩:=Hn h4 (by omega);have Ll:g≠Q:=by have:=h6 g (by simp[ae]);omega
      obtain⟨m,hm⟩:∃m,ms[0]?=some m:=⟨_,bO (by rw[h3.1];have:=HI.out.1;simp[cq];omega)⟩;obtain⟨c,hc⟩:∃c,(cq cs i)[0]?=some c:=⟨_,bO (by have:=HI.out.1;simp[cq];omega)⟩;obtain⟨s0,kF⟩:∃s0,(aN cs i)[0]?=some s0:=⟨_,bO (by have:=HI.out.1;omega)⟩;have hcs:c=(ai cs s0,[s0]):=by unfold cq at hc;rw[j5,kF]at hc;simpa using hc.symm
      have hIn:=(h3.off hf h5).2 0 m c hm hc;have YR:=dr h4 hf (by simpa[Value.ownBlock] using Ll);have hd:=KH ms 0 m hm;have d0:wr.cell? ⟨g,0,none⟩=some (.int .i64 (m.worth:Nat)):=by rw[<-hd.1];exact xE YR 0 (by omega)
      have d1:wr.cell? ⟨g,1,none⟩=some (.slice m.ao m.len m.cap):=by rw[<-hd.2];exact xE YR 1 (by omega)
      obtain⟨b,A,eb,hb,bK,Jm⟩:=hIn.shape;have qi:m.len=1:=by rw[hIn.len,hcs];rfl
      have aA:=hIn.own;obtain⟨mw,mao,ml,mc⟩:=m;simp only at eb qi aA bK Jm d0 d1;subst eb;subst qi;have d2:wr.cell? ⟨b,0,none⟩=some (.int .i64 s0):=by have:=xE aA 0 (by omega);rw[this,hcs];rfl
      have kQ:=(Ia.1 (iC kF)).1;have fA:Fr [] wr (wr.alloc (.cells #[.int .i64 mw,.slice (some ⟨b,0,none⟩) 1 mc] 258 (0,0))):=(Fr.refl [] wr).alloc _;have d2':=fA.cell d2 (by simp);have d3:=(how.fr fA (by simp)).cell kQ;have z3:=(how.fr fA (by simp)).frozen s0;have bX:=(how.fr fA (by simp)).set kQ 1;have fS:Fr [Q] w3 ((wr.alloc (.cells #[.int .i64 mw,.slice (some ⟨b,0,none⟩) 1 mc] 258 (0,0))).setCell ⟨Q,s0,none⟩ (.int .i64 1)):=((hf.alloc _).setCell (by simp) _);have HJ:=aF bX fS kF bF;clear how hf kF hIn YR hd hb aA hcs hm hc h1 h2 h3 h4 h5 h6 bF fA bX fS d2;go_wp2;go_roundg k2;case measure=>omega
      case rel=>
       obtain⟨bX,fS,kF,bF⟩:=HJ.out;refine⟨1,by go_num,by omega,bX.congr λs hs=>?_,fS⟩;have:(aN cs i).take 1=[s0]:=by
        match hx:aN cs i with
        | []=>rw[hx]at kF;simp at kF
        | y::ys=>rw[hx]at kF;simp at kF;simp[kF]
       rw[this,DK];by_cases e:s=s0
       ·subst e;simp
       ·simp[e,jg e]
     ·obtain rfl:t=n:=by omega
      have HJ:=ak how hf;clear how hf bF;go_wp2;go_ret2;have hN:=H.out.2.2.1;have qe:=HI.out.1;refine (HJ.out.1.congr (G:=λs=>if 0<ai cs s then 1 else 0) λs hs=>?_).good hN (za7 sM (by rw[<-hN,<-qe];exact vQ)) (by rw[HQ.out];exact HI.out.2.1.fr.size) ((HI.out.2.1.fr.trans HS.out.2.1).step HJ.out.2 λx hx=>.inr (by simp at hx;rw[hx,HQ.out];exact HI.out.2.1.fr.size));by_cases h0:0<ai cs s
      ·rw[if_pos h0];obtain⟨j,hj⟩:=DG.1 (Ia.2 ⟨hs,h0⟩);have:=Wj _ (qk4 cs i) t j s hj;rw[this,if_pos (by rw[qe];exact (lA.1 hj).1)]
      ·rw[if_neg h0];exact List.count_eq_zero_of_not_mem λh=>h0 (Ia.1 (xF h)).2
   ·have hB:∀c∈cq cs i,c.1<=2^30/\c.2.length<=1:=λc hc=>by simp only[cq,jR]at hc;obtain⟨s,hs,rfl⟩:=hc;refine⟨?_,aw _⟩;have fZ:=Fi (Ia.1 hs).2;exact H.out.2.1 _ (KE fZ)
    obtain⟨h1,h2,h3,h4,h5,h6⟩:=HS.out;obtain⟨g,rfl,_,_⟩:=Hn h4 (by omega);have Ll:g≠Q:=by have:=h6 g (by simp[ae]);omega
    have ow:=qnu g n cp ms (cq cs i) w3 h4 h3 (by omega) (λc hc=>by have:=(hB c hc).1;omega);unfold jL at ow;have HR:=au ow hB Ll;clear ow hB Ll h1 h2 h3 h4 h5 h6;obtain⟨L1,Pq⟩:∃L1,L1=L-1:=⟨_,rfl⟩;have e3:(L:Int)-1=(L1:Int):=by omega
    have HL1:=af Pq;clear Pq;go_upto_block 4 with (go_at_call 161;refine HR.o0.mono ?_;rintro e w4 ⟨rfl,R4,sl,o4,R9,TC,Qz,f4,DR⟩;have H4:=bJ o4 R9 TC Qz f4 DR;clear o4 R9 TC Qz f4 DR);have HA:Hid (lI w4 Q g n cp R4 sl/\Ow w4 Q i (λ_=>0)/\(∀c∈sl,c.1<=2^30/\c.2.length<=1)/\Fr [] w w4):=af (by
     obtain⟨o4,R9,TC,Qz,f4,DR⟩:=H4.out
     obtain⟨h1,h2,h3,h4,h5,h6⟩:=HS.out
     have x7:=h6 g (by simp[ae])
     refine⟨⟨o4,R9,λm hm=>h5 m (DR m hm),HR.l2⟩,h1.fr f4 (by simpa using (jg HR.l2)),λc hc=>HR.o1 c ((Qz.mem c).1 hc),(HI.out.2.1.fr.trans h2).step f4 λx hx=>.inr ?_⟩
     simp only[iQ]at hx
     rw[hx]
     exact HI.out.2.1.new g (by simp[ae]))
    go_wp2;go_loopg [13,83] L1 (λk s13 s83 wr=>∃(t g2 n2 fP:Nat) (M6:List Mc),s13 = .slice (some ⟨g2,0,none⟩) n2 fP/\s83 = .int .i64 (t:Nat)/\t+k=L1/\lI wr Q g2 n2 fP M6 (row sl (t+1))/\Fr [] w4 wr);case atStart=>exact⟨0,g,n,cp,R4,rfl,rfl,by omega,by rw[row_one];exact HA.out.1,.refl _ _⟩
    case round=>
     obtain⟨t,g2,n2,fP,M6,rfl,rfl,bF,ox,hf⟩:=hrel;by_cases ht:t<L1
     ·obtain⟨k,rfl⟩:∃k,gk=k+1:=⟨gk-1,by omega⟩;have fh:=HA.out.1.fr hf;have iJ:n2<=800:=by have:=VO sl (t+1);rw[ox.len.2,fh.len.2]at this;omega
      have htL:t+1<=15:=by have:=HL1.out;omega
      have Bc:2^(t+1)<=2^15:=kr (by decide) htL;have CR:∀c∈row sl (t+1),c.1<=2^50/\c.2.length<=100000:=λc hc=>by have:=MD sl (2^30) 1 HA.out.2.2.1 (t+1) c hc;omega
      have rI:=qqk g2 n2 fP M6 (row sl (t+1)) wr ox.own ox.ins ox.len.1 (by omega) CR;have NP:∀c∈sl++aB (row sl (t+1)),c.1<=2^50:=λc hc=>by
       rcases jy.1 hc with q|q
       ·have:=HA.out.2.2.1 c q;omega
       ·obtain⟨j,hj⟩:=DG.1 q;obtain⟨u,v,hu,hv,rfl⟩:=DA _ _ _ hj;have b1:=MD sl (2^30) 1 HA.out.2.2.1 (t+1) u (iC hu);have b2:=MD sl (2^30) 1 HA.out.2.2.1 (t+1) v (iC hv);show u.1+v.1<=_;omega
      have fN:(aB (row sl (t+1))).length<=800:=by rw[DI,ox.len.2];omega
      have HJ:=cz rI NP fh ox hf bF fN;clear rI CR NP fh ox hf bF Bc fN;go_upto_region 28 with (first
       | (go_at_call 163;refine HJ.out.1.mono ?_;rintro e w5 ⟨vB,k3,zt,ms3,rfl,wV,Il,in5,nb5⟩;have XH:k3<=800:=(by rw[wV];exact HJ.out.2.2.2.2.2.2);have h6:=qsw w5.heap.size (some ⟨g,0,none⟩) vB n k3 cp zt (cellsOf R4) (cellsOf ms3) (w5.alloc (.cells #[.slice (some ⟨g,0,none⟩) n cp,.slice vB k3 zt] 256 (0,0))) (bx w5 _) (ZO (dr HJ.out.2.2.1.own (Il.fr.alloc _) (by simp))) (ZO (dr Il.own ((Fr.refl [] w5).alloc _) (by simp))) HJ.out.2.2.1.own.1 Il.own.1 (Hn HJ.out.2.2.1.own (by omega)).choose_spec.2.1 Il.le (λh=>by cases h) Il.nil (qnh _) (qnh _) (by omega) (by omega);have H5:=aP wV Il in5 nb5 h6;clear wV Il in5 nb5 h6)
       | (go_at_call 162;refine H5.l4.mono ?_;rintro e w7 ⟨ao7,cp7,rfl,DS⟩;have H7:=af DS;clear DS))
      obtain⟨g7,e7,zbQ,zbP⟩:=Hn H7.out.own (by omega);subst e7;obtain⟨w6,pg⟩:=ah (w5.alloc (.cells #[.slice (some ⟨g,0,none⟩) n cp,.slice vB k3 zt] 256 (0,0)));have f56:Fr [] w5 w6:=by rw[pg];exact (Fr.refl [] w5).alloc _
      have DS:=H7.out;rw[<-pg]at DS;have fall:Fr [] wr w7:=(H5.o1.fr.trans f56).trans DS.fr;have Yx:Q<wr.heap.size:=by obtain⟨A,hA,_⟩:=HA.out.2.1;exact eT (lt_of_block hA) HJ.out.2.2.2.2.1.size
      have SH:wr.heap.size<=g7:=bS (H5.o1.fr.trans f56).size (DS.new g7 (by simp[ae]));have XH:k3<=800:=by rw[H5.o0];exact HJ.out.2.2.2.2.2.2
      have WZ:=qnu g7 (n+k3) cp7 (R4++ms3) (sl++aB (row sl (t+1))) w7 (by rw[Wc];exact DS.own) (kX.append (HJ.out.2.2.1.ins.dF fall) (H5.o2.dF (f56.trans DS.fr))) (by omega) HJ.out.2.1;unfold jL at WZ;have H8:=aF WZ fall Yx SH;clear WZ fall Yx SH DS f56 pg;go_wp2_with (go_at_call 161;refine H8.out.1.mono ?_;rintro e w8 ⟨rfl,ms8,l8,o8,Nh,QA,Qy,f8,DQ⟩;have H9:=bJ o8 Nh QA Qy f8 DQ;clear o8 Nh QA Qy f8 DQ);go_roundg k;case measure=>omega
      case rel=>
       obtain⟨_,fall,Yx,SH⟩:=H8.out;obtain⟨o8,Nh,QA,Qy,f8,DQ⟩:=H9.out;obtain⟨_,_,fh,ox,hf,bF,_⟩:=HJ.out;have el:l8=row sl (t+1+1):=qur H4.out.2.2.1 (qk8 _ (VQ sl H4.out.2.2.1 _)) QA Qy;rw[el]at Nh;refine⟨t+1,g7,n+k3,cp7,ms8,rfl,by go_num,by omega,⟨o8,Nh,λm hm x hx=>?_,by omega⟩,(hf.trans fall).step f8 λx hx=>.inr ?_⟩
       ·rcases jy.1 (DQ m hm) with q|q
        ·exact fh.off m q x hx
        ·have:=H5.o3 m q x hx;omega
       ·simp only[iQ]at hx;rw[hx];exact bS hf.size SH
     ·obtain rfl:t=L1:=by omega
      have ok:=zd1 (cs:=cs) sM xg H4.out.2.2.1 (by rw[<-H.out.2.2.1];exact H4.out.2.2.2.1) (by rw[<-H.out.2.2.1,<-HI.out.1];omega) (by rw[<-H.out.2.2.1];exact H.out.2.2.2);obtain⟨R,hR⟩:=ah (row sl L);rw[show t+1=L from by have:=HL1.out;omega,<-hR]at ox;rw[<-hR,HA.out.1.len.2]at ok;obtain⟨m,hm⟩:=ah (2*n-2);rw[<-hm]at ok;have zbC:n2<=800:=by have:=VO sl L;rw[<-hR,ox.len.2,HA.out.1.len.2]at this;omega
      have hmn:m<=n2:=by have:=ok.1;rw[ox.len.2]at this;exact this
      have e4:2*(n:Int)-2=(m:Int):=by omega
      have CR:∀c∈R,c.2.length<=32768:=λc hc=>by rw[hR]at hc;have:=(MD sl (2^30) 1 HA.out.2.2.1 L c hc).2;have sN:2^L<=2^15:=kr (by decide) xg;omega
      have cP:n2<=fP/\fP<=maxLen:=(Hn ox.own (by omega)).choose_spec.2;have zaE:n2<=fP:=cP.1;have rj:m<=fP:=by omega
      have Je:fP<=9223372036854775807:=cP.2;have rf:∀c∈R,∀x∈c.2,x<i:=λc hc=>by rw[hR]at hc;refine UO sl (·<i) (λc hc x hx=>?_) L c hc;have h2:=(H4.out.2.2.2.1.mem c).1 hc;simp only[cq,jR]at h2;obtain⟨s,hs,rfl⟩:=h2;simp only[iQ]at hx;rw[hx];exact (Ia.1 hs).1
      have HK:=cz ok.2.2 ox (HA.out.2.1.fr hf (by simp)) (HA.out.2.2.2.trans hf) CR rf bF;clear ok ox hf bF CR hR hm cP rf;obtain⟨wo,rfl⟩:∃wo:World,wo=wr:=⟨_,rfl⟩;go_wp2;go_loopg [15,17,101,108] m (λk s15 s17 s101 s108 wr=>∃t:Nat,s101 = .int .i64 (t:Nat)/\t+k=m/\Ow wr Q i (λs=>(ins (R.take t)).count s)/\Fr [Q] wo wr);case atStart=>exact⟨0,rfl,by omega,HK.out.2.2.1.congr λs _=>by simp[ins],.refl _ _⟩
      case round=>
       obtain⟨t,rfl,bF,how,hf⟩:=hrel;by_cases ht:t<m
       ·obtain⟨k,rfl⟩:∃k,gk=k+1:=⟨gk-1,by omega⟩;have ox:=HK.out.2.1.frQ hf;obtain⟨mc,rj⟩:∃mc,M6[t]?=some mc:=⟨_,bO (by rw[ox.len.1];omega)⟩;obtain⟨c,hc⟩:∃c,R[t]?=some c:=⟨_,bO (by rw[ox.len.2];omega)⟩;have hIn:=ox.ins.2 t mc c rj hc;have hd:=KH M6 t mc rj;have d0:wr.cell? ⟨g2,t*2,none⟩=some (.int .i64 (mc.worth:Nat)):=by rw[<-hd.1];exact xE ox.own _ (by omega)
        have d1:wr.cell? ⟨g2,t*2+1,none⟩=some (.slice mc.ao mc.len mc.cap):=by rw[<-hd.2];exact xE ox.own _ (by omega)
        obtain⟨b,A,eb,hb,bK,Jm⟩:=hIn.shape;have kG:b≠Q:=ox.off mc (iC rj) b (by rw[eb];simp[ae]);have qi:=hIn.len;have fH:c.2.length<=32768:=HK.out.2.2.2.2.1 c (iC hc);have hcs:=HK.out.2.2.2.2.2.1 c (iC hc);have aA:=hIn.own;have iI:ins (R.take (t+1))=ins (R.take t)++c.2:=by rw[zG,hc,lR];simp[ins]
        have eC:(ins (R.take t)).length<=800*32768:=by
         have h1:=zd3 (R.take t) 32768 (λc hc=>HK.out.2.2.2.2.1 c (xF hc));have h2:(R.take t).length<=800:=by rw[eJ];omega
         exact bS h1 (uz _ h2)
        obtain⟨mw,mao,ml,mcp⟩:=mc;simp only at eb qi aA bK Jm d0 d1;subst eb;obtain⟨W1,sK⟩:∃W1,W1=wr.alloc (.cells #[.int .i64 (mw:Nat),.slice (some ⟨b,0,none⟩) ml mcp] 258 (0,0)):=⟨_,rfl⟩;have fA:Fr [] wr W1:=by rw[sK];exact (Fr.refl [] wr).alloc _
        have SJ:Fr [Q] wo W1:=by rw[sK];exact hf.alloc _
        have HJ:=lJ (how.fr fA (by simp)) (dr aA fA (by simp)) hcs iI eC qi bF SJ;have zbH:ml<=32768:=by omega
        clear how hf hIn hd hb aA rj hc hcs iI eC bF ox fA SJ qi;have Qo:=af sK.symm;clear sK;go_upto_block 8 with fail;rw[Qo.out];go_wp2;go_loopg [17,108] ml (λk s17 s108 wr=>∃u:Nat,s108 = .int .i64 (u:Nat)/\u+k=ml/\Ow wr Q i (λs=>(ins (R.take t)++c.2.take u).count s)/\Fr [Q] W1 wr);case atStart=>exact⟨0,rfl,by omega,HJ.out.1.congr λs _=>by simp,.refl _ _⟩
        case round=>
         obtain⟨u,rfl,Sg,how,hf⟩:=hrel;by_cases hu:u<ml
         ·obtain⟨k2,rfl⟩:∃k2,gk=k2+1:=⟨gk-1,by omega⟩;have aA:=dr HJ.out.2.1 hf (by intro k hk;simp only[Value.ownBlock,eS]at hk;subst hk;simpa using kG);obtain⟨s,hs⟩:∃s,c.2[u]?=some s:=⟨_,bO (by have:=HJ.out.2.2.2.2.2.1;omega)⟩;have d2:wr.cell? ⟨b,u,none⟩=some (.int .i64 s):=by have:=xE aA u (by omega);rw[this];simp[ints,hs]
          have kQ:=HJ.out.2.2.1 s (iC hs);have d3:=how.cell kQ;have z3:=how.frozen s;obtain⟨F,hF⟩:=ah ((ins (R.take t)++c.2.take u).count s);have vk:F<=30000000:=by rw[hF];have h1:=LX (a:=s) (l:=ins (R.take t)++c.2.take u);rw[aK,eJ]at h1;have:=HJ.out.2.2.2.2.1;omega
          rw[<-hF]at d3;have bX:=how.set kQ (F+1);have fS:=hf.setCell (p:=⟨Q,s,none⟩) (by simp) (.int .i64 ((F+1:Nat):Nat));have HL:=aP bX fS hF hs Sg;clear how hf aA hs bX fS hF Sg;go_wp2;go_roundg k2;case measure=>omega
          case rel=>
           obtain⟨bX,fS,hF,hs,Sg⟩:=HL.out;refine⟨u+1,by go_num,by omega,?_,?_⟩
           ·refine Ow.congr ?_ (F:=λt'=>if t'=s then F+1 else (ins (R.take t)++c.2.take u).count t') λs' _=>?_
            ·first|exact bX|simpa using bX
            ·rw[zG,hs,Option.toList_some,<-gH,Hc];by_cases e:s'=s
             ·subst e;rw[if_pos rfl,hF];simp[uy]
             ·rw[if_neg e];simp[jg e]
           ·first|exact fS|simpa using fS
         ·obtain rfl:u=ml:=by omega
          have HL:=ak how hf;clear how hf Sg;go_wp2;go_roundg k;case measure=>omega
          case rel=>obtain⟨_,_,_,iI,_,qi,bF,SJ⟩:=HJ.out;refine⟨t+1,by go_num,by omega,HL.out.1.congr λs _=>?_,SJ.trans HL.out.2⟩;rw[oI (l:=c.2) (by omega),iI]
       ·obtain rfl:t=m:=by omega
        have HJ:=ak how hf;clear how hf bF;go_wp2;go_ret2;obtain⟨ok,ox,_,fw,_⟩:=HK.out;exact HJ.out.1.good H.out.2.2.1 ok (by rw[HQ.out];exact HI.out.2.1.fr.size) (fw.step HJ.out.2 λx hx=>.inr (by simp at hx;rw[hx,HQ.out];exact HI.out.2.1.fr.size))
end huf

end Go.Proofs.YtkmpfgpfbmeihaaGreatDoor