/-
  Texts of this proof, one behind the other: DeltaMakeLaw, DeltaMk, DeltaCp, DeltaFind, DeltaIdx, DeltaMap, DeltaState.
-/
import Derived.Test.YtkmpfgpfbmeihaaGreatDoorQ22
import Derived.Lib.IndexMore
import Derived.Maps.OwnRows
import Derived.Maps.GroupsBeside
set_option maxHeartbeats 16000000
set_option maxRecDepth 100000
set_option linter.unusedVariables false
set_option linter.unusedSimpArgs false
namespace Go.Proofs.YtkmpfgpfbmeihaaGreatDoor
namespace delta
open Go Go.RowKit lib
def nz (c:Nat):List UInt8:=if c=0 then [] else [UInt8.ofNat c]
def bit (c:Nat):Nat:=if c=0 then 0 else 1
theorem Fx (c:Nat):bit c<=1:=by unfold bit;split<;>omega
theorem Ii {op f i p n c:Nat} {r:LB} (hc:c<256) (h:op/2^i%2=bit c):pl op (f+1) i p n (nz c++r)=if i<4 then pl op f (i+1) (p+c*256^i) n r else pl op f (i+1) p (n+c*256^(i-4)) r:=by
 unfold nz;unfold bit at h;by_cases h0:c=0
 ·subst h0;rw[if_pos rfl]at h ⊢;rw[qj,Vy h];simp
 ·rw[if_neg h0]at h ⊢;rw[List.singleton_append,R7 h,A9 hc]
def aM (p k i:Nat):Nat:=if i<4 then p/256^i%256 else if k=65536 then 0 else k/256^(i-4)%256
theorem FH (p k i:Nat):aM p k i<256:=by
 unfold aM;split
 ·omega
 ·split<;>omega
def gG (p k:Nat):Nat->Nat
 | 0=>0
 | i+1=>gG p k i+bit (aM p k i)*2^i
def bH (p k:Nat):Nat->List UInt8
 | 0=>[]
 | i+1=>bH p k i++nz (aM p k i)
theorem zi7 (c:Nat):(nz c).length<=1:=by unfold nz;split<;>simp
theorem NA (p k:Nat):∀i,(bH p k i).length<=i
 | 0=>ay _
 | i+1=>by have:=NA p k i;have:=zi7 (aM p k i);simp only[bH,aA];omega
theorem Nh (p k:Nat):∀i,gG p k i<2^i
 | 0=>by simp[gG]
 | i+1=>by have h1:=Nh p k i;have h2:=Fx (aM p k i);have h3:bit (aM p k i)*2^i<=1*2^i:=uN _ h2;simp only[gG,pH];omega
theorem Im (p k:Nat) (i:Nat) (hi:i<7):gG p k 7/2^i%2=bit (aM p k i):=by
 have b0:=Fx (aM p k 0);have b1:=Fx (aM p k 1);have b2:=Fx (aM p k 2);have b3:=Fx (aM p k 3);have b4:=Fx (aM p k 4);have b5:=Fx (aM p k 5);have b6:=Fx (aM p k 6);have e:gG p k 7=bit (aM p k 0)+bit (aM p k 1)*2+bit (aM p k 2)*4+bit (aM p k 3)*8+bit (aM p k 4)*16+bit (aM p k 5)*32+bit (aM p k 6)*64:=by simp[gG]
 rw[e];rcases (show i=0\/i=1\/i=2\/i=3\/i=4\/i=5\/i=6 from by omega) with rfl|rfl|rfl|rfl|rfl|rfl|rfl
 all_goals simp only[show (2:Nat)^0=1 from rfl,show (2:Nat)^1=2 from rfl,show (2:Nat)^2=4 from rfl,show (2:Nat)^3=8 from rfl,show (2:Nat)^4=16 from rfl,show (2:Nat)^5=32 from rfl,show (2:Nat)^6=64 from rfl];omega
theorem zgh (p k:Nat) (hp:p<4294967296) (yz:1<=k) (rH:k<=65536) (r:LB):pl (gG p k 7) 7 0 0 0 (bH p k 7++r)=some (p,k,r):=by
 have e:bH p k 7++r=nz (aM p k 0)++(nz (aM p k 1)++(nz (aM p k 2)++(nz (aM p k 3)++(nz (aM p k 4)++(nz (aM p k 5)++(nz (aM p k 6)++r)))))):=by simp[bH]
 rw[e,Ii (FH p k 0) (Im p k 0 (by decide)),if_pos (by decide),Ii (FH p k 1) (Im p k 1 (by decide)),if_pos (by decide),Ii (FH p k 2) (Im p k 2 (by decide)),if_pos (by decide),Ii (FH p k 3) (Im p k 3 (by decide)),if_pos (by decide),
  Ii (FH p k 4) (Im p k 4 (by decide)),if_neg (by decide),Ii (FH p k 5) (Im p k 5 (by decide)),if_neg (by decide),Ii (FH p k 6) (Im p k 6 (by decide)),if_neg (by decide),pl]
 have c0:aM p k 0=p%256:=by unfold aM;simp
 have c1:aM p k 1=p/256%256:=by unfold aM;simp
 have c2:aM p k 2=p/65536%256:=by unfold aM;simp
 have c3:aM p k 3=p/16777216%256:=by unfold aM;simp
 have c4:aM p k 4=if k=65536 then 0 else k%256:=by unfold aM;simp
 have c5:aM p k 5=if k=65536 then 0 else k/256%256:=by unfold aM;simp
 have c6:aM p k 6=if k=65536 then 0 else k/65536%256:=by unfold aM;simp
 rw[c0,c1,c2,c3,c4,c5,c6];have e1:0+p%256*256^0+p/256%256*256^(0+1)+p/65536%256*256^(0+1+1)+p/16777216%256*256^(0+1+1+1)=p:=by simp only[show 256^0=1 from rfl,show 256^(0+1)=256 from rfl,show 256^(0+1+1)=65536 from rfl,show 256^(0+1+1+1)=16777216 from rfl];omega
 rw[e1];by_cases hk:k=65536
 ·subst hk;simp
 ·simp only[if_neg hk];have e2:0+k%256*256^(0+1+1+1+1-4)+k/256%256*256^(0+1+1+1+1+1-4)+k/65536%256*256^(0+1+1+1+1+1+1-4)=k:=by simp only[show 256^(0+1+1+1+1-4)=1 from rfl,show 256^(0+1+1+1+1+1-4)=256 from rfl,show 256^(0+1+1+1+1+1+1-4)=65536 from rfl];omega
  rw[e2,if_neg (by omega)]
def DC (p k:Nat):List UInt8:=UInt8.ofNat (128+gG p k 7)::bH p k 7
theorem zir (p k:Nat):(DC p k).length<=8:=by have:=NA p k 7;simp only[DC,bU];omega
theorem R9 (base:LB) (tn:Nat):∀(f g:Nat) (r out:LB),r.length<=f->r.length<=g->app base tn f r out=app base tn g r out
 | f,g,[],out,_,_=>by rw[M9,M9]
 | f+1,g+1,c::r,out,hf,hg=>by
  simp only[bU]at hf hg;rw[Ll,Ll];split
  ·cases fY:pl (c.toNat-128) 7 0 0 0 r with
   | none=>rfl
   | some x=>
    obtain⟨p,n,rest⟩:=x;have:=M7 _ _ _ _ _ _ _ fY;simp only at this ⊢;split
    ·rfl
    ·exact R9 base tn f g rest _ (by omega) (by omega)
  ·split
   ·rfl
   ·split
    ·rfl
    ·exact R9 base tn f g _ _ (by rw[eV];omega) (by rw[eV];omega)
def ow (base ins acc:LB):Prop:=∀(tn:Nat) (rest out:LB),out.length+acc.length<=tn->app base tn (ins++rest).length (ins++rest) out=app base tn rest.length rest (out++acc)
theorem Nr (base:LB):ow base [] []:=λtn rest out _=>by simp
theorem ow.append {base i1 a1 i2 a2:LB} (h1:ow base i1 a1) (h2:ow base i2 a2):ow base (i1++i2) (a1++a2):=λtn rest out h=>by rw[aA]at h;have e1:=h1 tn (i2++rest) out (by omega);have e2:=h2 tn rest (out++a1) (by rw[aA];omega);rw[eE,e1,e2,eE]
theorem qyh (base:LB) (p k:Nat) (hb:base.length<4294967296) (yz:1<=k) (rH:k<=65536) (h:p+k<=base.length):ow base (DC p k) ((base.drop p).take k):=λtn rest out ho=>by
 have hl:((base.drop p).take k).length=k:=by rw[dU,eV];omega
 rw[hl]at ho;have ho7:=Nh p k 7;have e2:(2:Nat)^7=128:=by decide
 have eb:(UInt8.ofNat (128+gG p k 7)).toNat=128+gG p k 7:=A9 (by omega);show app base tn ((bH p k 7++rest).length+1) (UInt8.ofNat (128+gG p k 7)::(bH p k 7++rest)) out=_;rw[Ll,eb,if_pos (by omega),Nat.add_sub_cancel_left,zgh p k (by omega) yz rH];simp only;rw[if_neg (by omega)];exact R9 base tn _ _ _ _ (by rw[aA];omega) (ay _)
theorem zck (base w:LB) (h0:0<w.length) (h1:w.length<=127):ow base (UInt8.ofNat w.length::w) w:=λtn rest out ho=>by have eb:(UInt8.ofNat w.length).toNat=w.length:=A9 (by omega);show app base tn ((w++rest).length+1) (UInt8.ofNat w.length::(w++rest)) out=_;rw[Ll,eb,if_neg (by omega),if_neg (by omega),if_neg (by rw[aA];omega),KE,List.take_left];exact R9 base tn _ _ _ _ (by rw[aA];omega) (ay _)
def lits:Nat->List UInt8->List UInt8
 | 0,_=>[]
 | f+1,w=>if w=[] then [] else (UInt8.ofNat (min 127 w.length)::w.take 127)++lits f (w.drop 127)
theorem nh (f:Nat):lits f []=[]:=by cases f<;>simp[lits]
theorem Wj {f:Nat} {w:LB} (h:w≠[]):lits (f+1) w=(UInt8.ofNat (min 127 w.length)::w.take 127)++lits f (w.drop 127):=by rw[lits,if_neg h]
theorem WQ (base:LB):∀(f:Nat) (w:LB),w.length<=f->ow base (lits f w) w
 | 0,w,h=>by
  obtain rfl:w=[]:=wN (by omega);exact Nr base
 | f+1,w,h=>by
  by_cases hw:w=[]
  ·subst hw;rw[nh];exact Nr base
  ·have hl:0<w.length:=Ld.2 hw;rw[Wj hw];have h1:=zck base (w.take 127) (by rw[dU];omega) (by rw[dU];omega);rw[dU]at h1;have h2:=h1.append (WQ base f (w.drop 127) (by rw[eV];omega));rw[Df]at h2;exact h2
theorem Si:∀(f:Nat) (w:LB),(lits f w).length<=w.length+(w.length+126)/127
 | 0,w=>by simp[lits]
 | f+1,w=>by
  by_cases hw:w=[]
  ·subst hw;rw[nh];simp
  ·have hl:0<w.length:=Ld.2 hw;have:=Si f (w.drop 127);rw[Wj hw];simp only[aA,bU,dU,eV]at *;omega
def jX:Nat->Nat->Nat->List UInt8
 | 0,_,_=>[]
 | f+1,p,n=>if n=0 then [] else DC p (min n 65536)++jX f (p+min n 65536) (n-min n 65536)
theorem Wx (f p:Nat):jX f p 0=[]:=by cases f<;>simp[jX]
theorem Ww {f p n:Nat} (h:n≠0):jX (f+1) p n=DC p (min n 65536)++jX f (p+min n 65536) (n-min n 65536):=by rw[jX,if_neg h]
theorem WO (base:LB) (hb:base.length<4294967296):∀(f p n:Nat),n<=f->p+n<=base.length->ow base (jX f p n) ((base.drop p).take n)
 | 0,p,n,hf,_=>by
  obtain rfl:n=0:=by omega
  rw[Dk];exact Nr base
 | f+1,p,n,hf,h=>by
  by_cases hn:n=0
  ·subst hn;rw[Wx,Dk];exact Nr base
  ·rw[Ww hn];have h1:=qyh base p (min n 65536) hb (by omega) (by omega) (by omega);have h2:=h1.append (WO base hb f (p+min n 65536) (n-min n 65536) (by omega) (by omega));have e:(base.drop p).take n=(base.drop p).take (min n 65536)++(base.drop (p+min n 65536)).take (n-min n 65536):=by rw[<-C5,<-List.take_add];congr 1;omega
   rw[e];exact h2
theorem VM:∀(f p n:Nat),(jX f p n).length<=8*((n+65535)/65536)
 | 0,p,n=>by simp[jX]
 | f+1,p,n=>by
  by_cases hn:n=0
  ·subst hn;rw[Wx];simp
  ·have h1:=zir p (min n 65536);have h2:=VM f (p+min n 65536) (n-min n 65536);rw[Ww hn,aA];omega
theorem qxg (base ins text:LB) (hb:base.length<=2147483647) (ht:text.length<=2147483647) (h:ow base ins text) (bound:Int) (Qg:(text.length:Int)<=bound) :
  delta.apply base (fk base.length++(fk text.length++ins)) bound=(text,0):=by
 unfold delta.apply;rw[qwj base.length text.length hb ht ins];simp only[ne_eq,not_true_eq_false,if_false];rw[if_neg (by omega)];have:=h text.length [] [] (by simp);simp only[mW,qj]at this;rw[this,M9,if_neg (by omega)]
open bm
structure Mk (S0:LN) (w wr:World) (q:Nat) (oa:OA) (oc:Nat) (out:LB) (wa:OA) (wc:Nat) (wait:LB):Prop where
 af:wr.heap[q]?=some (.cells #[.slice oa out.length oc,.slice wa wait.length wc] 168 (0,0))
 o:ej wr 5 oa oc (out.map bv)
 x:ej wr 5 wa wc (wait.map bv)
 qo:q∉lib.af oa
 qx:q∉lib.af wa
 apart:∀y∈lib.af oa,y∉lib.af wa
 fr:Fr S0 w wr
 new:q∈S0\/w.heap.size<=q
 newO:∀y∈lib.af oa,y∈S0\/w.heap.size<=y
 newX:∀y∈lib.af wa,y∈S0\/w.heap.size<=y
theorem Mk.dQ {S0:LN} {w wr wz:World} {q:Nat} {oa wa:OA} {oc wc:Nat} {out wait:LB} (h:Mk S0 w wr q oa oc out wa wc wait) (f:Fr [] wr wz):Mk S0 w wz q oa oc out wa wc wait:=
 ⟨f.af h.af (by simp),h.o.fr f (by simp),h.x.fr f (by simp),h.qo,h.qx,h.apart,h.fr.step f (by simp),h.new,h.newO,h.newX⟩
theorem Mk.bM {S0:LN} {w wr w1 w2:World} {q:Nat} {oa wa a2:OA} {oc wc c2 n:Nat} {out wait news:LB} (h:Mk S0 w wr q oa oc out wa wc wait) (f:Fr [] wr w1)
  (A:eU w1 w2 5 oa a2 c2 (out.map bv++news.map bv)) (hn:out.length+news.length=n):Mk S0 w (w2.setCell ⟨q,0,none⟩ (.slice a2 n c2)) q a2 c2 (out++news) wa wc wait:=by
 have h1:=h.dQ f;have hq:q<w1.heap.size:=lt_of_block h1.af;have hx:=h1.x.lt;have uz:∀y∈lib.af a2,y≠q/\y∉lib.af wa/\(y∈S0\/w.heap.size<=y):=λy hy=>by
  rcases A.at_ y hy with k|k
  ·exact⟨λe=>h.qo (by rw[<-e];exact k),h.apart y k,h.newO y k⟩
  ·have:=h1.fr.size;exact⟨by omega,λe=>by have:=hx y e;omega,by omega⟩
 have fs:Fr [q] w2 (w2.setCell ⟨q,0,none⟩ (.slice a2 n c2)):=(Fr.refl [q] w2).setCell (by simp) _;have hb:=A.fr.af h1.af h.qo;refine⟨?_,?_,?_,λe=>(uz q e).1 rfl,h.qx,λy hy=>(uz y hy).2.1,((h1.fr.step A.fr λy hy=>h.newO y hy).step fs λy hy=>by simp at hy;rw[hy];exact h.new),h.new,λy hy=>(uz y hy).2.2,h.newX⟩
 ·rw[bI hb,aA,hn];rfl
 ·rw[gF];exact A.own.fr fs λy hy=>by simpa using (uz y hy).1
 ·exact (h1.x.fr A.fr λy hy e=>h.apart y e hy).fr fs λy hy=>by simp;intro e;exact h.qx (by rw[<-e];exact hy)
theorem Mk.Fq {S0:LN} {w wr:World} {q:Nat} {oa wa a2:OA} {oc wc c2 n:Nat} {out wait wait2:LB} (h:Mk S0 w wr q oa oc out wa wc wait) (ho:ej wr 5 a2 c2 (wait2.map bv)) (hn:wait2.length=n)
  (hb:∀y∈lib.af a2,y∈lib.af wa):Mk S0 w (wr.setCell ⟨q,1,none⟩ (.slice a2 n c2)) q oa oc out a2 c2 wait2:=by
 have fs:Fr [q] wr (wr.setCell ⟨q,1,none⟩ (.slice a2 n c2)):=(Fr.refl [q] wr).setCell (by simp) _;refine⟨?_,h.o.fr fs λy hy=>by simp;intro e;exact h.qo (by rw[<-e];exact hy),ho.fr fs λy hy=>by simp;intro e;exact h.qx (by rw[<-e];exact hb y hy),h.qo,λe=>h.qx (hb q e),λy hy e=>h.apart y hy (hb y e),h.fr.step fs λy hy=>by simp at hy;rw[hy];exact h.new,h.new,h.newO,λy hy=>h.newX y (hb y hy)⟩;rw[bI h.af,hn];rfl
theorem qzj {k:Nat} {out w R:LB} (h:out++lits k w=R) (hw:w=[]):out=R:=by subst hw;rw[nh,mW]at h;exact h
theorem qr5 (S0:LN) (w W:World) (q:Nat) (oa wa:OA) (oc wc:Nat) (out wait:LB) (h:Mk S0 w W q oa oc out wa wc wait) (xv:out.length+2*wait.length<=1099511627776) :
  Calls Tryz.prog 102 #[.pointer (some ⟨q,0,none⟩)] W λe W'=>e = .returned (.tuple #[])/\∃iX mn Hi Hh,Mk S0 w W' q iX mn (out++lits wait.length wait) Hi Hh []:=by
 obtain⟨R,hR⟩:∃R,out++lits wait.length wait=R:=⟨_,rfl⟩;rw[hR];have H0:=ak h hR;clear h hR;go_enter Tryz.func102,Tryz.ntmps102;go_wp2;go_loopg [2] wait.length (λk s2 wr=>∃oa oc out wa wc wait,Mk S0 w wr q oa oc out wa wc wait/\out++lits k wait=R/\wait.length<=k/\out.length+2*wait.length<=1099511627776);case atStart=>exact⟨oa,oc,out,wa,wc,wait,H0.o0,H0.l1,ay _,xv⟩
 case round=>
  obtain⟨oa,oc,out,wa,wc,x,h,hr,hk,hb⟩:=hrel;have c0:=cell_of h.af 0;have c1:=cell_of h.af 1;have z0:=aW h.af 0;have z1:=aW h.af 1;simp only[bF,aT,bP]at c0 c1;obtain⟨o1,o2,o3⟩:=h.o.shape;obtain⟨x1,x2,x3⟩:=h.x.shape;rw[bW]at o1 x1;have H:=ah h;clear h H0;by_cases hx:x=[]
  ·subst hx;have hd:=qzj hr rfl;have HD:=ah hd;clear hr hd;go_wp2;go_end0;rw[<-HD.out];exact⟨rfl,oa,oc,wa,wc,H.out⟩
  ·have hl:0<x.length:=Ld.2 hx;obtain⟨k,rfl⟩:∃k,gk=k+1:=⟨gk-1,by omega⟩;rw[Wj hx]at hr;obtain⟨n,hn⟩:=ai (min 127 x.length);have wk:(n:Int)=if ((x.length:Nat):Int)<127 then ((x.length:Nat):Int) else 127:=by rw[hn];split<;>omega
   have jM:n<=127/\n<=x.length/\1<=n:=by omega
   have HN:=aw wk hn hr;clear hn wk hr hx;go_upto_region 2 with (refine NN (n:Int) rfl _ _ _ rfl 127 ((x.length:Nat):Int) rfl rfl HN.o0 ?_);obtain⟨S,hS⟩:=ai (af oa);have L6:q∉S:=by rw[hS];exact H.out.qo
   have HS:=ah hS;have q0:∀y,(sup S wr.drew y).cell? ⟨q,0,none⟩=some (.slice oa out.length oc):=λy=>(dY S wr.drew y).cell ((Fr.av [] wr).cell c0 (by simp)) L6
   have q1:∀y,(sup S wr.drew y).cell? ⟨q,1,none⟩=some (.slice wa x.length wc):=λy=>(dY S wr.drew y).cell ((Fr.av [] wr).cell c1 (by simp)) L6
   have Hq0:=ah q0;have HC:=ak c0 c1;have hsl:=λw=>lib.FZ aq n wa x.length wc (n:Int) rfl (by omega) w
   have HSL:=ah hsl;clear hS c0 c1 z0 z1;refine SV 18 [(false,0),(false,1),(false,2),(false,3),(false,4),(false,5),(false,6),(false,9),(false,10),(false,11),(false,12),(false,13),(false,14),(true,7),(true,8),(true,15),(false,16),(false,17)] S (by kernel_rfl) (by kernel_rfl) (λ_ _ d _ _ h=>by cases d<;>exact h) ?_;simp only[jm];refine FI 13 rfl ?_;simp only[bD];repeat (go_big_quiet_step (fail))
   refine wpQuiet_nil ?_;clear q0 q1 hsl;refine DX rfl ?_;intro X hX;go_wp2;refine hX.out _ _ wr.drew (Fr.refl _ _) ((Fr.refl S wr.drew).alloc _) ?_;clear hX X;obtain⟨w1,cP⟩:∃w1,w1=(wr.alloc (.cells #[.int .u8 (n:Int)] 5)).drew:=⟨_,rfl⟩;rw[<-cP];have f1:Fr [] wr w1:=by rw[cP];exact ((Fr.refl [] wr).alloc _).drew
   have fM:w1.heap[wr.heap.size]?=some (.cells #[.int .u8 (n:Int)] 5 (0,0)):=by rw[cP];exact (Fr.av [] _).af (bC wr _) (by simp)
   have oh:Cs w1 (some ⟨wr.heap.size,0,none⟩) (([UInt8.ofNat n]:LB).map bv):=nM _ _ _ _ (by rw[fM];unfold bv;rw[A9 (by omega)]);have F1:=aw f1 fM oh;have J9:Fr S wr.drew w1:=by rw[cP];exact (((Fr.refl S wr).alloc _).drew).bA
   clear cP f1 fM oh;refine DX rfl ?_;intro X hX;refine S6 aq _ _ rfl oa out.length oc (out.map bv) rfl (H.out.o.fr F1.o0 (by simp)) (by rw[bW]) (some ⟨wr.heap.size,0,none⟩) 1 1 (([UInt8.ofNat n]:LB).map bv) rfl (by decide) (by simp) F1.l2 (by rfl) (j3 _) (by omega) (by unfold maxLen;omega) ?_;intro a2 c2 w2 A2;have J8:Fr S wr.drew w2:=J9.step A2.fr λy hy=>.inl (by rw[HS.out];exact hy)
   refine hX.out _ _ wr.drew (Fr.refl _ _) J8 ?_;clear hX X J9;simp only[Act.put,nR,oD,nP];have wQ:ej w2 5 a2 c2 ((out++[UInt8.ofNat n]).map bv):=by rw[gF];exact A2.own
   have Uz:Rd w2 wa wc (x.take n):=(((H.out.x.fr F1.o0 (by simp)).fr A2.fr λy hy e=>H.out.apart y e hy).rd).take n;have rG:(x.take n).length=n:=by rw[dU];omega
   refine DX rfl ?_;intro X hX;refine S6 aq _ _ rfl a2 (out.length+1) c2 ((out++[UInt8.ofNat n]).map bv) rfl wQ (by simp) wa n wc ((x.take n).map bv) rfl (by omega) Uz.nil Uz.cs (by rw[bW,rG]) (j3 _) (by omega) (by unfold maxLen;omega) ?_;intro a3 c3 w3 A3;have fb3:Fr S wr.drew w3:=J8.step A3.fr λy hy=>(A2.at_ y hy).imp (λh=>by rw[HS.out];exact h) (λh=>ck (by rw[<-(rfl:wr.drew.heap.size=wr.heap.size)];exact F1.o0.size) h)
   refine hX.out _ _ wr.drew (Fr.refl _ _) fb3 ?_;clear hX X;simp only[Act.put,nR,oD,nP];have HA:=ah (A2.two A3);have tQ:=fb3.af ((Fr.av [] wr).af H.out.af (by simp)) L6;have c0:=cell_of tQ 0;have c1:=cell_of tQ 1;have z0:=aW tQ 0;have z1:=aW tQ 1;simp only[bF,aT,bP]at c0 c1;clear tQ;clear A2 A3 wQ Uz J8;have q0:=Hq0.out;refine FI 2 rfl ?_;simp only[bD];repeat (go_big_quiet_step (fail))
   refine wpQuiet_nil ?_;clear q0;refine Sj ?_;go_wp2_with (refine vY aq n rfl _ _ rfl wa x.length wc _ rfl rfl rfl (by omega) (by omega) ?_);go_roundg k;case measure=>omega
   case rel=>
    have A:=HA.out;have hN:=HN.out;have e1:x.take 127=x.take n:=by rw[hN.2.1,<-List.take_eq_take_min]
    have e2:x.drop 127=x.drop n:=by
     by_cases h:127<=x.length
     ·rw[hN.2.1,uP h]
     ·rw[Dh (by omega),Dh (by omega)]
    have hR:=hN.2.2;rw[e1,e2,<-hN.2.1]at hR;have m1:=H.out.bM (news:=UInt8.ofNat n::x.take n) (n:=out.length+1+n) F1.o0 (by simpa using A) (by simp;omega);have m2:=m1.Fq (wait2:=x.drop n) (n:=x.length-n) (by rw[Hu];exact m1.x.drop n (by rw[bW];omega)) (by rw[eV]) (by rw[SM];exact λ_ h=>h);refine⟨_,_,out++(UInt8.ofNat n::x.take n),_,_,x.drop n,m2,by rw[eE];exact hR,by rw[eV];omega,?_⟩;simp only[aA,bU,dU,eV];omega
structure Ar (w wr:World) (a:OA) (c:Nat) (bs:LB):Prop where
 own:ej wr 5 a c (bs.map bv)
 fr:Fr [] w wr
 new:∀y∈af a,w.heap.size<=y
theorem zix (w:World):Ar w w none 0 []:=⟨ej.nil _ _,Fr.refl _ _,by simp[af]⟩
theorem Ar.more {w wr w1 w2:World} {a a2:OA} {c c2:Nat} {bs news:LB} (h:Ar w wr a c bs) (f:Fr [] wr w1) (A:eU w1 w2 5 a a2 c2 (bs.map bv++news.map bv)):Ar w w2 a2 c2 (bs++news):=by
 refine⟨by rw[gF];exact A.own,(h.fr.trans f).step A.fr λy hy=>.inr (h.new y hy),λy hy=>?_⟩;rcases A.at_ y hy with k|k
 ·exact h.new y k
 ·have:=(h.fr.trans f).size;omega
theorem Vh (x i:Nat) (hx:x<2^i) (hi:i<7):bits .or .u8 ((128+x:Nat):Int) ((2^i:Nat):Int)=((128+(x+2^i):Nat):Int):=by
 have h:∀i:Fin 7,∀x:Fin 128,x.1<2^i.1->bits .or .u8 ((128+x.1:Nat):Int) ((2^i.1:Nat):Int)=((128+(x.1+2^i.1):Nat):Int):=by decide +kernel
 have pN:2^i<=2^6:=kh (by decide) (by omega);have e:2^6=64:=by decide
 exact h ⟨i,hi⟩ ⟨x,by omega⟩ hx
theorem zej (p K i:Nat) (hi:i<4):(p:Int)/2^(8*i)%256=(aM p K i:Int):=by
 unfold aM;have e:((2:Int)^(8*i))=((256^i:Nat):Int):=by rw[show (256:Nat)^i=2^(8*i) from by rw[Nat.pow_mul],Bh];rfl
 rw[if_pos hi,e,Int.natCast_emod,Ib];rfl
theorem zdj (K i:Nat):(K:Int)/2^(8*i)%256=((K/256^i%256:Nat):Int):=by
 have e:((2:Int)^(8*i))=((256^i:Nat):Int):=by rw[show (256:Nat)^i=2^(8*i) from by rw[Nat.pow_mul],Bh];rfl
 rw[e,Int.natCast_emod,Ib];rfl
theorem qy6 (x i:Nat) (hx:x<2^i) (hi:i<7):bits .or .u8 (128+(x:Int)) (2^i%256)=((128+(x+2^i):Nat):Int):=by
 rw[<-Vh x i hx hi];have pN:2^i<=2^6:=kh (by decide) (by omega);have e:(2:Nat)^6=64:=by decide
 have e2:(2:Int)^i%256=((2^i:Nat):Int):=by
  have:(2:Int)^i=((2^i:Nat):Int):=by rw[Bh];rfl
  rw[this];omega
 rw[e2,show (128:Int)+(x:Int)=((128+x:Nat):Int) from by omega]
theorem Wo (p k i:Nat):gG p k (i+1)=gG p k i+bit (aM p k i)*2^i:=rfl
theorem Lv (p k i:Nat):bH p k (i+1)=bH p k i++nz (aM p k i):=rfl
theorem zc1 (x i:Nat) (hx:x<2^(4+i)) (hi:i<3):bits .or .u8 (128+(x:Int)) (16*2^i%256)=((128+(x+2^(4+i)):Nat):Int):=by rw[<-qy6 x (4+i) hx (by omega),Int.pow_add];rfl
theorem qv0 (S0:LN) (w W:World) (q p n:Nat) (oa wa:OA) (oc wq:Nat) (out wait:LB) (h:Mk S0 w W q oa oc out wa wq wait) (xv:out.length+2*wait.length+8*n<=1099511627776) (hp:p+n<=4294967295) :
  Calls Tryz.prog 99 #[.pointer (some ⟨q,0,none⟩),.int .i64 (p:Nat),.int .i64 (n:Nat)] W λe W'=>e = .returned (.tuple #[])/\∃iX mn Hi Hh,Mk S0 w W' q iX mn (out++lits wait.length wait++jX n p n) Hi Hh []:=by
 have sH:=qr5 S0 w W q oa wa oc wq out wait h (by omega);have oN:=Si wait.length wait;obtain⟨o1,Ds⟩:=ai (out++lits wait.length wait);have iw:o1.length+8*n<=1099511627776+127:=by rw[Ds,aA];omega
 rw[<-Ds]at sH ⊢;obtain⟨R,hR⟩:∃R,o1++jX n p n=R:=⟨_,rfl⟩;rw[hR];have H0:=ak sH hR;clear sH oN Ds hR h xv;go_enter Tryz.func99,Tryz.ntmps99;go_upto_block 0 with (go_at_call 102;refine H0.o0.mono ?_;rintro e w1 ⟨rfl,a1,c1,a2,c2,m1⟩;have H1:=ah m1;clear m1);go_wp2;go_loopg [1,2,6,7,8,9,10,11,12] n (λk s1 s2 s6 s7 s8 s9 s10 s11 s12 wr=>∃p m oa oc out wa wq,s1 = .int .i64 (p:Nat)/\s2 = .int .i64 (m:Nat)/\Mk S0 w wr q oa oc out wa wq []/\out++jX k p m=R/\m<=k/\p+m<=4294967295/\out.length+8*m<=1099511627776+127);case atStart=>exact⟨p,n,a1,c1,o1,a2,c2,rfl,rfl,H1.out,H0.l1,ay _,hp,iw⟩
 case round=>
  obtain⟨p,m,oa,oc,out,wa,wq,rfl,rfl,h,hr,hk,EA,hb⟩:=hrel;obtain⟨wo,rfl⟩:∃wo:World,wo=wr:=⟨_,rfl⟩;have H:=ah h;clear h H0 H1;by_cases hm:0<m
  ·obtain⟨k,rfl⟩:∃k,gk=k+1:=⟨gk-1,by omega⟩;rw[Ww (by omega)]at hr;obtain⟨K,hK⟩:=ai (min m 65536);have hK1:(K:Int)=if (65536:Int)<(m:Int) then 65536 else (m:Int):=by rw[hK];split<;>omega
   have hK2:1<=K/\K<=65536/\K<=m:=by omega
   rw[<-hK]at hr;have HK:=ak hK1 hr;clear hK hK1 hr;go_upto_block 2 with (refine NN (K:Int) rfl _ _ _ rfl (m:Int) 65536 rfl rfl HK.o0 ?_);go_cut [7,8,9,10] from 19 to 38 (λs7 s8 s9 s10 wz=>∃a c,s7 = .int .u8 ((128+gG p K 4:Nat):Int)/\s8 = .slice a (bH p K 4).length c/\Ar wo wz a c (bH p K 4))
   case first=>
    go_wp2;go_loopg [7,8,9,10,19] 4 (λkk s7 s8 s9 s10 s19 w2=>∃i a c,i+kk=4/\s19 = .int .i64 (i:Nat)/\s7 = .int .u8 ((128+gG p K i:Nat):Int)/\s8 = .slice a (bH p K i).length c/\Ar wo w2 a c (bH p K i));case atStart=>exact⟨0,none,0,rfl,rfl,rfl,rfl,zix wo⟩
    case round=>
     obtain⟨i,a,c,hi,rfl,rfl,rfl,ha⟩:=hrel;have HA:=ah ha;obtain⟨k1,k2,k3⟩:=ha.own.shape;rw[bW]at k1;clear ha;by_cases hi4:i<4
     ·obtain⟨cb,oh⟩:=ai (aM p K i);have hcv:(p:Int)/2^(8*i)%256=(cb:Int):=by rw[oh];exact zej p K i hi4
      have fU:cb<256:=by rw[oh];exact FH p K i
      have ur:=Nh p K i;have He:=ak oh ur;clear oh ur;have tN:=He.l1;obtain⟨ov,xg⟩:=ai (gG p K i);rw[<-xg]at tN ⊢;have DK:=ak xg tN;clear xg tN;obtain⟨wi,rfl⟩:∃wi:World,wi=wr:=⟨_,rfl⟩;go_upto_region 7 with fail;go_cut [10] from 20 to 27 (λs10 wz=>s10 = .int .u8 (cb:Int)/\wi=wz)
      case first=>go_wp2;go_meet;exact⟨by first|rfl|exact int_eq hcv,rfl⟩
      case rest=>
      obtain⟨rfl,rfl⟩:=hcut;clear hcv;by_cases bZ:cb=0
      ·have e0:bit (aM p K i)=0:=by rw[<-He.o0,bZ];rfl
       have e1:nz (aM p K i)=[]:=by rw[<-He.o0,bZ];rfl
       have HE:=ak e0 e1;subst bZ;clear e0 e1;go_wp2;go_roundg (4-(i+1));case measure=>omega
       case rel=>
        refine⟨i+1,a,c,by omega,by go_num,?_,?_,?_⟩
        ·rw[DK.o0];simp only[gG,HE.o0,Nat.zero_mul,ie]
        ·simp only[bH,HE.l1,mW]
        ·simp only[bH,HE.l1,mW];exact HA.out
      ·have b1:((cb:Int)==0)=false:=by simp;omega
       have b2:((cb:Int)!=0)=true:=by simp;omega
       have e0:bit (aM p K i)=1:=by rw[<-He.o0];unfold bit;rw[if_neg bZ]
       have e1:nz (aM p K i)=[UInt8.ofNat cb]:=by rw[<-He.o0];unfold nz;rw[if_neg bZ]
       have f1:Fr [] wi (wi.alloc (.cells #[.int .u8 (cb:Int)] 5)):=(Fr.refl [] wi).alloc _;have hcs:Cs (wi.alloc (.cells #[.int .u8 (cb:Int)] 5)) (some ⟨wi.heap.size,0,none⟩) (([UInt8.ofNat cb]:LB).map bv):=nM _ _ _ 5 (by rw[bC];unfold bv;rw[A9 fU]);have HE:=aG e0 e1 f1 hcs;have ha4:=NA p K i;clear e0 e1 f1 hcs;go_wp2_with (refine Bn aq rfl _ _ rfl a (bH p K i).length c ((bH p K i).map bv) rfl (HA.out.own.fr HE.l1.2.1 (by simp)) (by rw[bW]) (some ⟨wi.heap.size,0,none⟩) 1 1 (([UInt8.ofNat cb]:LB).map bv) rfl (by decide) (by simp) HE.l1.2.2 (by rfl) (j3 _) (by omega) (by unfold maxLen;omega) ?_;intro a2 c2 w3 A3;have H3:=ah A3;clear A3);go_roundg (4-(i+1));case measure=>omega
       case rel=>
        refine⟨i+1,a2,c2,by omega,by go_num,?_,?_,?_⟩
        ·rw[DK.o0];simp only[gG,HE.o0,DQ];have:=qy6 (gG p K i) i (by rw[<-DK.o0];exact DK.l1) (by omega);exact int_eq (by first|exact this|(simp only[Nat.cast_add]at *;exact this))
        ·simp only[bH,HE.l1.1,aA];rfl
        ·simp only[bH,HE.l1.1];exact HA.out.more HE.l1.2.1 H3.out
     ·obtain rfl:i=4:=by omega
      go_wp2;go_meet;exact⟨a,c,rfl,rfl,HA.out⟩
   case rest=>
   obtain⟨a,c,rfl,rfl,ha⟩:=hcut;obtain⟨wx,rfl⟩:∃wx:World,wx=wc:=⟨_,rfl⟩;have HA4:=ah ha;clear ha;go_upto_block 4 with fail;go_cut [7,8,11,12] from 38 to 61 (λs7 s8 s11 s12 wz=>∃a c,s7 = .int .u8 ((128+gG p K 7:Nat):Int)/\s8 = .slice a (bH p K 7).length c/\Ar wo wz a c (bH p K 7))
   case first=>
    go_wp2;go_loopg [7,8,11,12,38] 3 (λkk s7 s8 s11 s12 s38 w2=>∃i a c,i+kk=3/\s38 = .int .i64 (i:Nat)/\s7 = .int .u8 ((128+gG p K (4+i):Nat):Int)/\s8 = .slice a (bH p K (4+i)).length c/\Ar wo w2 a c (bH p K (4+i)));case atStart=>exact⟨0,a,c,rfl,rfl,rfl,rfl,HA4.out⟩
    case round=>
     obtain⟨i,a,c,hi,rfl,rfl,rfl,ha⟩:=hrel;have HA:=ah ha;obtain⟨k1,k2,k3⟩:=ha.own.shape;rw[bW]at k1;clear ha;by_cases TR:i<3
     ·obtain⟨cb,oh⟩:=ai (K/256^i%256);have hcv:(K:Int)/2^(8*i)%256=(cb:Int):=by rw[oh];exact zdj K i
      have fU:cb<256:=by rw[oh];omega
      have ur:=Nh p K (4+i);have lX:aM p K (4+i)=if K=65536 then 0 else cb:=by unfold aM;rw[if_neg (by omega),oh,Nat.add_sub_cancel_left]
      have He:=ak lX ur;have tN:=ur;clear oh ur lX;obtain⟨ov,xg⟩:=ai (gG p K (4+i));rw[<-xg]at tN ⊢;have DK:=ak xg tN;clear xg tN;obtain⟨wi,rfl⟩:∃wi:World,wi=wr:=⟨_,rfl⟩;go_upto_region 15 with fail;go_cut [12] from 39 to 46 (λs12 wz=>s12 = .int .u8 (cb:Int)/\wi=wz)
      case first=>go_wp2;go_meet;exact⟨by first|rfl|exact int_eq hcv,rfl⟩
      case rest=>
      obtain⟨rfl,rfl⟩:=hcut;clear hcv;by_cases bZ:aM p K (4+i)=0
      ·have e0:bit (aM p K (4+i))=0:=by rw[bZ];rfl
       have e1:nz (aM p K (4+i))=[]:=by rw[bZ];rfl
       have HE:=ak e0 e1;have sL:cb=0\/K=65536:=by
        have h:=He.o0;rw[bZ]at h;by_cases hK:K=65536
        ·exact .inr hK
        ·rw[if_neg hK]at h;exact .inl h.symm
       clear e0 e1 bZ;by_cases hcb0:cb=0
       ·subst hcb0;clear sL;go_wp2;go_roundg (3-(i+1));case measure=>omega
        case rel=>
         refine⟨i+1,a,c,by omega,by go_num,?_,?_,?_⟩
         ·rw[DK.o0,show 4+(i+1)=(4+i)+1 from rfl,Wo,HE.o0,Nat.zero_mul,ie]
         ·rw[show 4+(i+1)=(4+i)+1 from rfl,Lv,HE.l1,mW]
         ·rw[show 4+(i+1)=(4+i)+1 from rfl,Lv,HE.l1,mW];exact HA.out
       ·have b1:((cb:Int)==0)=false:=by simp;omega
        have b2:((cb:Int)!=0)=true:=by simp;omega
        have b3:decide ((K:Int)<65536)=false:=by simp;omega
        clear sL;go_wp2;go_roundg (3-(i+1));case measure=>omega
        case rel=>
         refine⟨i+1,a,c,by omega,by go_num,?_,?_,?_⟩
         ·rw[DK.o0,show 4+(i+1)=(4+i)+1 from rfl,Wo,HE.o0,Nat.zero_mul,ie]
         ·rw[show 4+(i+1)=(4+i)+1 from rfl,Lv,HE.l1,mW]
         ·rw[show 4+(i+1)=(4+i)+1 from rfl,Lv,HE.l1,mW];exact HA.out
      ·have sL:aM p K (4+i)=cb/\K≠65536:=by
        have h:=He.o0;by_cases hK:K=65536
        ·rw[if_pos hK]at h;exact absurd h bZ
        ·rw[if_neg hK]at h;exact⟨h,hK⟩
       obtain⟨kD,hKK⟩:=sL;rw[kD]at bZ;have b1:((cb:Int)==0)=false:=by simp;omega
       have b2:((cb:Int)!=0)=true:=by simp;omega
       have b3:decide ((K:Int)<65536)=true:=by simp;omega
       have e0:bit (aM p K (4+i))=1:=by rw[kD];unfold bit;rw[if_neg bZ]
       have e1:nz (aM p K (4+i))=[UInt8.ofNat cb]:=by rw[kD];unfold nz;rw[if_neg bZ]
       have f1:Fr [] wi (wi.alloc (.cells #[.int .u8 (cb:Int)] 5)):=(Fr.refl [] wi).alloc _;have hcs:Cs (wi.alloc (.cells #[.int .u8 (cb:Int)] 5)) (some ⟨wi.heap.size,0,none⟩) (([UInt8.ofNat cb]:LB).map bv):=nM _ _ _ 5 (by rw[bC];unfold bv;rw[A9 fU]);have HE:=aG e0 e1 f1 hcs;have ha4:=NA p K (4+i);clear e0 e1 f1 hcs kD hKK;go_wp2_with (refine Bn aq rfl _ _ rfl a (bH p K (4+i)).length c ((bH p K (4+i)).map bv) rfl (HA.out.own.fr HE.l1.2.1 (by simp)) (by rw[bW]) (some ⟨wi.heap.size,0,none⟩) 1 1 (([UInt8.ofNat cb]:LB).map bv) rfl (by decide) (by simp) HE.l1.2.2 (by rfl) (j3 _) (by omega) (by unfold maxLen;omega) ?_;intro a2 c2 w3 A3;have H3:=ah A3;clear A3);go_roundg (3-(i+1));case measure=>omega
       case rel=>
        refine⟨i+1,a2,c2,by omega,by go_num,?_,?_,?_⟩
        ·rw[DK.o0,show 4+(i+1)=(4+i)+1 from rfl,Wo,HE.o0,DQ];have:=zc1 (gG p K (4+i)) i (by rw[<-DK.o0];exact DK.l1) TR;exact int_eq this
        ·rw[show 4+(i+1)=(4+i)+1 from rfl,Lv,HE.l1.1,aA];rfl
        ·rw[show 4+(i+1)=(4+i)+1 from rfl,Lv,HE.l1.1];exact HA.out.more HE.l1.2.1 H3.out
     ·obtain rfl:i=3:=by omega
      go_wp2;go_meet;exact⟨a,c,rfl,rfl,HA.out⟩
   case rest=>
   obtain⟨a,c,rfl,rfl,ha⟩:=hcut;have nA:=NA p K 7;have hoq:=Nh p K 7;have zcT:2^7=128:=by decide
   have lT:=H.out.dQ ha.fr;have bZ:=cell_of lT.af 0;have cY:=cell_of lT.af 1;have oG:=aW lT.af 0;simp only[bF,aT,bP]at bZ cY;have HM:=ah lT;have HAr:=ah ha;clear lT ha HA4;obtain⟨ob,zB⟩:=ai (128+gG p K 7);rw[<-zB];have YD:ob<256:=by omega
   have HO:=ah zB;clear zB hoq;have f1:Fr [] wc (wc.alloc (.cells #[.int .u8 (ob:Int)] 5)):=(Fr.refl [] wc).alloc _;have hcs:Cs (wc.alloc (.cells #[.int .u8 (ob:Int)] 5)) (some ⟨wc.heap.size,0,none⟩) (([UInt8.ofNat ob]:LB).map bv):=nM _ _ _ 5 (by rw[bC];unfold bv;rw[A9 YD]);have P4:∀y∈af a,y∉af oa:=λy hy e=>by have h1:=HAr.out.new y hy;have h2:=H.out.o.lt y e;omega
   have F1:=aw f1 hcs P4;obtain⟨L,hL⟩:=ai ((bH p K 7).length);rw[<-hL]at nA ⊢;have Fm:=ah hL;obtain⟨k1,_,k3⟩:=HAr.out.own.shape;rw[bW,<-hL]at k1;clear f1 hcs P4 hL;go_wp2_with (first|(refine Bn aq rfl _ _ rfl oa out.length oc (out.map bv) rfl (HM.out.o.fr F1.o0 (by simp)) (by rw[bW]) (some ⟨wc.heap.size,0,none⟩) 1 1 (([UInt8.ofNat ob]:LB).map bv) rfl (by decide) (by simp) F1.o1 (by rfl) (j3 _) (by omega) (by unfold maxLen;omega) ?_;intro a2 c2 w2 A2;have H2:=ah A2;clear A2)|(refine Bn aq rfl _ _ rfl a2 (out.length+1) c2 (out.map bv++([UInt8.ofNat ob]:LB).map bv) rfl H2.out.own (by simp) a L c ((bH p K 7).map bv) rfl k1 k3 (((HAr.out.own.fr F1.o0 (by simp)).fr H2.out.fr F1.l2).cs) (by rw[bW,Fm.out]) (j3 _) (by omega) (by unfold maxLen;omega) ?_;intro a3 c3 w3 A3;have H3:=ah (H2.out.two A3);clear A3;have tQ:=H3.out.fr.af (F1.o0.af HM.out.af (by simp)) HM.out.qo;have d0:=cell_of tQ 0;have z9:=aW tQ 0;simp only[bF,aT]at d0;clear tQ));go_roundg k;case measure=>omega
   case rel=>
    have P9:DC p K=UInt8.ofNat ob::bH p K 7:=by rw[HO.out];rfl
    have hlen:out.length+(DC p K).length=out.length+1+L:=by rw[P9,bU,Fm.out];omega
    have m1:=HM.out.bM (news:=DC p K) (n:=out.length+1+L) F1.o0 (by rw[P9];simpa using H3.out) hlen;refine⟨p+K,m-K,a3,c3,out++DC p K,wa,wq,by go_num,int_eq (by omega),m1,by rw[eE];exact HK.l1,by omega,by omega,?_⟩;rw[aA,show (DC p K).length=1+L from by omega];omega
  ·obtain rfl:m=0:=by omega
   rw[Wx,mW]at hr;have HR:=ah hr;clear hr;go_wp2;go_end0;rw[<-HR.out];exact⟨rfl,oa,oc,wa,wq,H.out⟩
def Ra (v:Value):Prop:=∃h:Int,v = .int .u64 h/\(Lit.int .u64 h).wf=true
theorem zb4 (x:Int):Ra (.int .u64 (IntKind.u64.wrap x)):=by
 refine⟨_,rfl,?_⟩;simp only[Lit.wf,lQ,decide_eq_true_eq];have e:IntKind.u64.wrap x=x%18446744073709551616:=by simp[IntKind.wrap,IntKind.signed,IntKind.bits]
 rw[e];have h1:IntKind.u64.min=0:=rfl;have h2:IntKind.u64.max=18446744073709551615:=rfl;rw[h1,h2];omega
theorem qul (a:OA) (cap:Nat) (bs:LB) (w:World) (h:Rd w a cap bs) (nG:16<=bs.length) :
  Calls Tryz.prog 100 #[.slice a bs.length cap] w λe w'=>w=w'/\∃v,e = .returned v/\Ra v:=by
 have hle:=h.le;have dK:=h.max;unfold maxLen at dK;have H:=ah (h.take 16);have hl:(bs.take 16).length=16:=by rw[dU];omega
 have HL:=ah hl;clear h hl;go_enter Tryz.func100,Tryz.ntmps100;go_upto_block 0 with (refine qh9 aq 16 rfl _ _ rfl a bs.length cap _ rfl rfl rfl (by omega) ?_);go_wp2;go_loopg [3,5,9] 16 (λk s3 s5 s9 wr=>∃(i:Nat) (x:Int),i+k=16/\s9 = .int .i64 (i:Nat)/\s3 = .int .u64 x/\Ra (.int .u64 x)/\w=wr);case atStart=>exact⟨0,_,rfl,rfl,rfl,⟨_,rfl,by decide⟩,rfl⟩
 case round=>
  obtain⟨i,x,hi,rfl,rfl,hu,rfl⟩:=hrel;have HU:=ah hu;clear hu;by_cases hi16:i<16
  ·obtain⟨g,o,rfl,c0⟩:=H.out.at (i:=i) (by rw[HL.out];exact hi16);go_wp2;go_roundg (16-(i+1));case measure=>omega
   case rel=>exact⟨i+1,_,by omega,by go_num,rfl,zb4 _,rfl⟩
  ·go_wp2;go_ret;exact⟨rfl,_,rfl,HU.out⟩
def Match (base text:LB) (p i k:Nat):Prop:=p+k<=base.length/\i+k<=text.length/\(base.drop p).take k=(text.drop i).take k
theorem qwu {base text:LB} {p i:Nat} (hp:p<=base.length) (hi:i<=text.length):Match base text p i 0:=⟨hp,hi,by simp⟩
theorem qwv {base text:LB} {p i k:Nat} (h:Match base text p i k) (hp:p+k<base.length) (hi:i+k<text.length) (e:base[p+k]=text[i+k]):Match base text p i (k+1):=by refine⟨by omega,by omega,?_⟩;rw[zj,zj,h.2.2];congr 1;simp[hp,hi,e]
def xS (base text:LB) (p i b:Nat):Prop:=b<=p/\b<=i/\p<=base.length/\i<=text.length/\(base.drop (p-b)).take b=(text.drop (i-b)).take b
theorem zbj {base text:LB} {p i:Nat} (hp:p<=base.length) (hi:i<=text.length):xS base text p i 0:=⟨ep _,ep _,hp,hi,by simp⟩
theorem zbk {base text:LB} {p i b:Nat} (h:xS base text p i b) (hp:b<p) (hi:b<i) (h1:p-b-1<base.length) (h2:i-b-1<text.length) (e:base[p-b-1]=text[i-b-1]):xS base text p i (b+1):=by obtain⟨_,_,h3,h4,h5⟩:=h;refine⟨hp,hi,h3,h4,?_⟩;rw[show p-(b+1)=p-b-1 from by omega,show i-(b+1)=i-b-1 from by omega,Al h1,Al h2,qs,qs,e,show p-b-1+1=p-b from by omega,show i-b-1+1=i-b from by omega,h5]
def Found (base text:LB) (i wait p b n:Nat):Prop:=(n=0/\b=0/\p=0)\/(16<=n/\Match base text p i n/\b<=wait/\xS base text p i b)
theorem zd2 (a b pa:OA) (cap ji pc:Nat) (base text:LB) (ps:LN) (i wait:Nat) (w:World) (hb:Rd w a cap base) (ht:Rd w b ji text) (O8:Cs w pa (ps.map λp=>.int .i64 (p:Nat))) (hle:ps.length<=pc)
  (hp:∀p∈ps,p<=base.length) (hi:i<=text.length) (hw:wait<=i) (vu:base.length<=2199023255552) (bg:text.length<=2199023255552) (fY:ps.length<=2199023255552) :
  Calls Tryz.prog 101 #[.slice a base.length cap,.slice b text.length ji,.slice pa ps.length pc,.int .i64 (i:Nat),.int .i64 (wait:Nat)] w λe w'=>∃p k n:Nat,e = .returned (.tuple #[.int .i64 (p:Nat),.int .i64 (k:Nat),.int .i64 (n:Nat)])/\Found base text i wait p k n/\Fr [] w w':=by
 obtain⟨BL,j9⟩:=ai base.length;obtain⟨TL,Cl⟩:=ai text.length;obtain⟨PL,Uk⟩:=ai ps.length;have H:=aG hb ht O8 hp;have yW:=aw j9 Cl Uk;rw[<-j9,<-Cl,<-Uk];rw[<-j9]at vu;rw[<-Cl]at bg hi;rw[<-Uk]at fY hle;clear hb ht O8 hp j9 Cl Uk;go_enter Tryz.func101,Tryz.ntmps101;go_wp2;go_loopg [10,11,12,14,15,16,19] PL (λk s10 s11 s12 s14 s15 s16 s19 wr=>∃j p b n:Nat,j+k=PL/\s19 = .int .i64 (j:Nat)/\s10 = .int .i64 (p:Nat)/\s11 = .int .i64 (b:Nat)/\s12 = .int .i64 (n:Nat)/\Found base text i wait p b n/\n<=TL/\b<=wait/\Fr [] w wr);case atStart=>exact⟨0,0,0,0,by omega,rfl,rfl,rfl,rfl,.inl ⟨rfl,rfl,rfl⟩,ep _,ep _,Fr.refl _ _⟩
 case round=>
  obtain⟨j,p,bk,n,hj,rfl,rfl,rfl,rfl,hf,hn,ux,dR⟩:=hrel;have F:=ak hf dR;clear hf dR;obtain⟨wo,rfl⟩:∃wo:World,wo=wr:=⟨_,rfl⟩;by_cases hjp:j<PL
  ·have kz:j<ps.length:=by rw[<-yW.l2];exact hjp
   obtain⟨g,o,rfl,hc⟩:=H.out.2.2.1.at (by rw[bW];omega);have c0:=F.l1.cell (hc j (.int .i64 (ps[j]:Nat)) (by simp[kz])) (by simp);have dV:=H.out.2.2.2 ps[j] (tk kz);rw[<-yW.o0]at dV;obtain⟨v,hv⟩:=ai (ps[j]);rw[<-hv]at c0 dV;clear hc hv kz;go_upto_block 2 with fail;clear c0;go_cut [15] from 23 to 54 (λs15 wz=>∃k:Nat,s15 = .int .i64 (k:Nat)/\Match base text v i k/\Fr [] wo wz)
   case first=>
    go_wp2;go_loopg [15] (BL+1) (λkk s15 w2=>∃k:Nat,k+kk=BL+1/\s15 = .int .i64 (k:Nat)/\Match base text v i k/\Fr [] wo w2);case atStart=>exact⟨0,by omega,rfl,qwu (by rw[<-yW.o0];exact dV) (by rw[<-yW.o1];exact hi),Fr.refl _ _⟩
    case round=>
     obtain⟨k,hk,rfl,hm,dR⟩:=hrel;have jt:=hm.1;have iy:=hm.2.1;rw[<-yW.o0]at jt;rw[<-yW.o1]at iy;have M:=ak hm dR;have Ru:=ah hk;clear hm dR hk;obtain⟨m1,e1⟩:=ai (v+k);obtain⟨m2,e2⟩:=ai (i+k);have w1:IntKind.i64.wrap ((v:Int)+(k:Int))=(m1:Int):=by rw[oE];omega
     have w2:IntKind.i64.wrap ((i:Int)+(k:Int))=(m2:Int):=by rw[oE];omega
     have HE:=ak e1 e2;have l1:m1<=BL:=by omega
     have l2:m2<=TL:=by omega
     have YW:k<=BL:=by omega
     clear e1 e2 jt iy;by_cases c1:m1<BL
     ·have d1:decide (m1<BL)=true:=by simpa using c1
      by_cases c2:m2<TL
      ·have d2:decide (m2<TL)=true:=by simpa using c2
       have hH:m1<base.length:=by rw[<-yW.o0];exact c1
       have jC:m2<text.length:=by rw[<-yW.o1];exact c2
       obtain⟨g1,o1,ra,X1⟩:=H.out.1.at hH;obtain⟨g2,o2,rb,X2⟩:=H.out.2.1.at jC;have x1:=(F.l1.trans M.l1).cell X1 (by simp);have x2:=(F.l1.trans M.l1).cell X2 (by simp);clear X1 X2;obtain⟨y1,sB⟩:∃y,y=base[m1]:=⟨_,rfl⟩;obtain⟨y2,lb⟩:∃y,y=text[m2]:=⟨_,rfl⟩;rw[<-sB]at x1;rw[<-lb]at x2;subst ra rb;by_cases ce:y1=y2
       ·have HY:=ah (show ∃(h1:m1<base.length) (h2:m2<text.length),base[m1]=text[m2] from ⟨hH,jC,by rw[<-sB,<-lb];exact ce⟩);rw[<-ce]at x2;generalize y1.toNat=n1 at *;clear sB lb ce hH jC;go_upto_region 5 with fail;go_quiet (fail);clear x1 x2 w1 w2;go_wp2;go_roundg (BL+1-(k+1));case measure=>have:=Ru.out;omega
        case rel=>have e:=HE.out;obtain⟨y1,y2,hy⟩:=HY.out;refine⟨k+1,by have:=Ru.out;omega,by go_num,qwv M.o0 (by rw[<-e.1];exact y1) (by rw[<-e.2];exact y2) ?_,M.l1.trans (Fr.drewN [] _ _)⟩;simp only[e.1,e.2]at hy;exact hy
       ·have cQ:y1.toNat≠y2.toNat:=λh=>ce (KS.1 h)
        have d3:(((y1.toNat:Nat):Int)==((y2.toNat:Nat):Int))=false:=by simp;omega
        generalize y1.toNat=n1 at *;generalize y2.toNat=n2 at *;clear sB lb ce hH jC cQ;go_upto_region 5 with fail;go_quiet (fail);clear x1 x2 w1 w2;go_wp2;go_meet;exact⟨k,rfl,M.o0,M.l1.trans (Fr.drewN [] _ _)⟩
      ·have d2:decide (m2<TL)=false:=by simpa using c2
       go_upto_region 5 with fail;go_quiet (fail);clear w1 w2;go_wp2;go_meet;exact⟨k,rfl,M.o0,M.l1.trans (Fr.drewN [] _ _)⟩
     ·have d1:decide (m1<BL)=false:=by simpa using c1
      go_upto_region 5 with fail;go_quiet (fail);clear w1 w2;go_wp2;go_meet;exact⟨k,rfl,M.o0,M.l1.trans (Fr.drewN [] _ _)⟩
   case rest=>
   obtain⟨k,rfl,lT,dR⟩:=hcut;have yz:=lT.1;have rH:=lT.2.1;rw[<-yW.o0]at yz;rw[<-yW.o1]at rH;have MK:=ak lT (F.l1.trans dR);clear lT dR;obtain⟨w4,rfl⟩:∃w4:World,w4=wc:=⟨_,rfl⟩;go_upto_block 4 with fail;go_cut [16] from 54 to 81 (λs16 wz=>∃b2:Nat,s16 = .int .i64 (b2:Nat)/\b2<=wait/\xS base text v i b2/\Fr [] w4 wz)
   case first=>
    go_wp2;go_loopg [16] (wait+1) (λkk s16 w2=>∃b2:Nat,b2+kk=wait+1/\s16 = .int .i64 (b2:Nat)/\b2<=wait/\xS base text v i b2/\Fr [] w4 w2);case atStart=>exact⟨0,by omega,rfl,ep _,zbj (by rw[<-yW.o0];exact dV) (by rw[<-yW.o1];exact hi),Fr.refl _ _⟩
    case round=>
     obtain⟨b2,hk,rfl,JJ,hm,dR⟩:=hrel;have M:=ak hm dR;have Ru:=ah hk;clear hm dR hk;by_cases c1:b2<wait
     ·have d1:decide (b2<wait)=true:=by simpa using c1
      by_cases c2:b2<v
      ·have d2:decide (b2<v)=true:=by simpa using c2
       obtain⟨m0,e0⟩:=ai (v-b2);obtain⟨m1,e1⟩:=ai (v-b2-1);obtain⟨m3,e3⟩:=ai (i-b2);obtain⟨m2,e2⟩:=ai (i-b2-1);have u0:IntKind.i64.wrap ((v:Int)-(b2:Int))=(m0:Int):=by rw[oE];omega
       have u1:IntKind.i64.wrap ((m0:Int)-1)=(m1:Int):=by rw[oE];omega
       have u3:IntKind.i64.wrap ((i:Int)-(b2:Int))=(m3:Int):=by rw[oE];omega
       have u2:IntKind.i64.wrap ((m3:Int)-1)=(m2:Int):=by rw[oE];omega
       have l1:m1<BL:=by omega
       have l2:m2<TL:=by omega
       have HE:=ak e1 e2;have hH:m1<base.length:=by rw[<-yW.o0];exact l1
       have jC:m2<text.length:=by rw[<-yW.o1];exact l2
       obtain⟨g1,o1,ra,X1⟩:=H.out.1.at hH;obtain⟨g2,o2,rb,X2⟩:=H.out.2.1.at jC;have x1:=(MK.l1.trans M.l1).cell X1 (by simp);have x2:=(MK.l1.trans M.l1).cell X2 (by simp);clear X1 X2 e0 e1 e2 e3;obtain⟨y1,sB⟩:∃y,y=base[m1]:=⟨_,rfl⟩;obtain⟨y2,lb⟩:∃y,y=text[m2]:=⟨_,rfl⟩;rw[<-sB]at x1;rw[<-lb]at x2;subst ra rb;by_cases ce:y1=y2
       ·have HY:=ah (show ∃(h1:m1<base.length) (h2:m2<text.length),base[m1]=text[m2] from ⟨hH,jC,by rw[<-sB,<-lb];exact ce⟩);rw[<-ce]at x2;generalize y1.toNat=n1 at *;clear sB lb ce hH jC;go_upto_region 8 with fail;go_quiet (fail);clear x1 x2 u0 u1 u2 u3;go_wp2;go_roundg (wait+1-(b2+1));case measure=>have:=Ru.out;omega
        case rel=>have e:=HE.out;obtain⟨y1,y2,hy⟩:=HY.out;refine⟨b2+1,by have:=Ru.out;omega,by go_num,by omega,zbk M.o0 c2 (by omega) (by rw[<-e.1];exact y1) (by rw[<-e.2];exact y2) ?_,M.l1.trans (Fr.drewN [] _ _)⟩;simp only[e.1,e.2]at hy;exact hy
       ·have cQ:y1.toNat≠y2.toNat:=λh=>ce (KS.1 h)
        have d3:(((y1.toNat:Nat):Int)==((y2.toNat:Nat):Int))=false:=by simp;omega
        generalize y1.toNat=n1 at *;generalize y2.toNat=n2 at *;clear sB lb ce hH jC cQ;go_upto_region 8 with fail;go_quiet (fail);clear x1 x2 u0 u1 u2 u3;go_wp2;go_meet;exact⟨b2,rfl,JJ,M.o0,M.l1.trans (Fr.drewN [] _ _)⟩
      ·have d2:decide (b2<v)=false:=by simpa using c2
       go_upto_region 8 with fail;go_quiet (fail);go_wp2;go_meet;exact⟨b2,rfl,JJ,M.o0,M.l1.trans (Fr.drewN [] _ _)⟩
     ·have d1:decide (b2<wait)=false:=by simpa using c1
      go_upto_region 8 with fail;go_quiet (fail);go_wp2;go_meet;exact⟨b2,rfl,JJ,M.o0,M.l1.trans (Fr.drewN [] _ _)⟩
   case rest=>
   obtain⟨b2,rfl,JJ,vA,dR⟩:=hcut;have MB:=ak vA (MK.l1.trans dR);clear vA dR;by_cases c1:16<=k
   ·have d1:decide ((16:Int)<=k)=true:=by simp;omega
    by_cases c2:bk+n<k+b2
    ·have d2:decide ((bk:Int)+n<(k:Int)+b2)=true:=by simp;omega
     go_wp2;go_roundg (PL-(j+1));case measure=>omega
     case rel=>exact⟨j+1,v,b2,k,by omega,by go_num,rfl,rfl,rfl,.inr ⟨c1,MK.o0,JJ,MB.o0⟩,by omega,JJ,MB.l1⟩
    ·have d2:decide ((bk:Int)+n<(k:Int)+b2)=false:=by simp;omega
     go_wp2;go_roundg (PL-(j+1));case measure=>omega
     case rel=>exact⟨j+1,p,bk,n,by omega,by go_num,rfl,rfl,rfl,F.o0,hn,ux,MB.l1⟩
   ·have d1:decide ((16:Int)<=k)=false:=by simp;omega
    go_wp2;go_roundg (PL-(j+1));case measure=>omega
    case rel=>exact⟨j+1,p,bk,n,by omega,by go_num,rfl,rfl,rfl,F.o0,hn,ux,MB.l1⟩
  ·obtain rfl:j=PL:=by omega
   go_wp2;go_ret3;exact⟨p,bk,n,rfl,F.out⟩
def G8 (base text:LB) (p:Nat):Prop:=p+text.length<=base.length/\(base.drop p).take text.length=text
theorem qy9 {s t:LB} {i:Nat} (hi:i<=s.length):Lib.occAt s t i=true↔G8 s t i:=by
 unfold Lib.occAt G8;rw[List.isPrefixOf_iff_prefix,List.prefix_iff_eq_take];constructor
 ·intro h;have:=congrArg List.length h;rw[dU,eV]at this;exact⟨by omega,h.symm⟩
 ·exact λh=>h.2.symm
def pW (base text:LB) (e:Ending):Prop:=(∃p:Nat,e = .returned (.int .i64 (p:Nat))/\G8 base text p)\/(e = .returned (.int .i64 (-1))/\∀p,¬G8 base text p)
theorem qvq (base text:LB):pW base text (.returned (.int .i64 (Lib.index base text))):=by
 rcases Lib.index_spec base text with⟨h,h2⟩|⟨i,h,hi,ho,_⟩
 ·refine .inr ⟨by rw[h],λp hp=>?_⟩;have hl:p<=base.length:=by have:=hp.1;omega
  have:=(qy9 hl).2 hp;rw[h2 p hl]at this;cases this
 ·exact .inl ⟨i,by rw[h],(qy9 hi).1 ho⟩
theorem Xl (bs:LB):Lib.bytesOf (bs.map λb=>(b.toNat:Int))=bs:=by
 unfold Lib.bytesOf;rw[vW];conv=>rhs;rw[<-List.map_id bs]
 exact D9 λb _=>by simp
theorem qzx (a b:OA) (cap ji:Nat) (base text:LB) (m:Int) (w:World) (hb:Rd w a cap base) (ht:Rd w b ji text) (hlen:base.length<4294967281) (hm:w.cell? ⟨0,0,none⟩=some (.int .i64 m)) :
  Calls Tryz.prog 98 #[.slice a base.length cap,.slice b text.length ji] w λe w'=>pW base text e/\Fr [] w w':=by
 have hmx:=ht.max;have hle:=ht.le;unfold maxLen at hmx;by_cases h0:text=[]
 ·subst h0;refine (Tryz.bytes_Index_none a b base.length cap ji w).mono ?_;rintro e w' ⟨rfl,rfl⟩;exact⟨.inl ⟨0,rfl,by simp[G8]⟩,Fr.refl _ _⟩
 ·have hl:0<text.length:=Ld.2 h0;obtain⟨g,o,rfl,c0⟩:=ht.at (i:=0) hl;by_cases h1:base=[]
  ·subst h1;have hz:(Value.slice a 0 cap) = .slice a 0 cap:=rfl;rcases a with _|⟨ag,ao,fz⟩
   ·have hc:=hb.nil rfl;subst hc;refine (Tryz.bytes_Index_nil (some ⟨g,o,none⟩) text.length ji w (by omega) (λ_=>⟨g,o,_,rfl,c0⟩)).mono ?_;rintro e w' ⟨rfl,rfl⟩;refine⟨.inr ⟨by rw[if_neg (by omega)],λp hp=>?_⟩,Fr.refl _ _⟩;have:p+text.length<=0:=hp.1;omega
   ·refine (Tryz.bytes_Index_at ⟨ag,ao,fz⟩ ⟨g,o,none⟩ 0 cap text.length ji [] (text.map λb=>(b.toNat:Int)) m w rfl (by simp) (by simp) ?_ (by simp) ?_ (ep _) (by decide) (by omega) hm).mono ?_
    ·intro y hy;obtain⟨u,_,rfl⟩:=jo.1 hy;have:=u.toNat_lt;omega
    ·intro i hi;obtain⟨g',o',e,c⟩:=ht.at hi;cases e;simpa[Addr.add_lit,List.getD,hi] using c
    ·rintro e w' ⟨rfl,q,rfl⟩;rw[Xl];exact⟨qvq [] text,Fr.drewN _ _ _⟩
  ·have hH:0<base.length:=Ld.2 h1;obtain⟨g1,o1,rfl,_⟩:=hb.at (i:=0) hH;refine (Tryz.bytes_Index_at ⟨g1,o1,none⟩ ⟨g,o,none⟩ base.length cap text.length ji (base.map λb=>(b.toNat:Int)) (text.map λb=>(b.toNat:Int)) m w (by simp) (by simp) ?_ ?_ ?_ ?_ hb.le hlen (by omega) hm).mono ?_
   ·intro y hy;obtain⟨u,_,rfl⟩:=jo.1 hy;have:=u.toNat_lt;omega
   ·intro y hy;obtain⟨u,_,rfl⟩:=jo.1 hy;have:=u.toNat_lt;omega
   ·intro i hi;obtain⟨g',o',e,c⟩:=hb.at hi;cases e;simpa[Addr.add_lit,List.getD,hi] using c
   ·intro i hi;obtain⟨g',o',e,c⟩:=ht.at hi;cases e;simpa[Addr.add_lit,List.getD,hi] using c
   ·rintro e w' ⟨rfl,q,rfl⟩;rw[Xl,Xl];exact⟨qvq base text,Fr.drewN _ _ _⟩
structure Kept (lo:Nat) (w w':World):Prop where
 size:w.heap.size<=w'.heap.size
 block:∀i,lo<=i->i<w.heap.size->w'.heap[i]?=w.heap[i]?
theorem Kept.refl (lo:Nat) (w:World):Kept lo w w:=⟨ay _,λ_ _ _=>rfl⟩
theorem Kept.fr {S:LN} {lo:Nat} {w w1 w2:World} (h:Kept lo w w1) (f:Fr S w1 w2) (hS:∀x∈S,x<lo\/w.heap.size<=x):Kept lo w w2:=by refine⟨ck h.size f.size,λi hi hl=>?_⟩;rw[<-h.block i hi hl];have h1:=h.size;exact f.block i (by omega) λhm=>by rcases hS i hm with k|k<;>omega
section
variable {H : Type} {P : Program} {k e : TypeId} {q : IntKind} {w w' : World} {lo base b n : Nat} {D : DataW H}
theorem qry {v:Value} {zs:List Int} (h:w.ownsInts base e q v zs) (hk:Kept lo w w') (rQ:lo<=base):w'.ownsInts base e q v zs:=by
 refine⟨⟨h.1.1,?_⟩,h.2⟩;rcases h.1.2 with h1|⟨g,cap,cur,hv,hg,hb,r⟩
 ·exact .inl h1
 ·exact .inr ⟨g,cap,cur,hv,hg,(hk.block g (by omega) (lt_of_block hb)).trans hb,r⟩
theorem qt0 (h:w.ownsGroups P k base e q b n D) (hk:Kept lo w w') (rQ:lo<=b):w'.ownsGroups P k base e q b n D:=by
 obtain⟨es,clock,hb,F,hs,rfl,lI,hlen,bN⟩:=h;have aH:∀x∈es.toList,∀z,rowElem (H:=H) w base e q x.val=some z->rowElem w' base e q x.val=some z:=λx hx z hz=>by obtain⟨zs,ho,rfl⟩:=rowElem_inv hz;exact rowElem_mk (qry ho hk (by omega))
 obtain⟨F1,qJ,_⟩:=F.stay aH;refine⟨es,clock,(hk.block b rQ (lt_of_block hb)).trans hb,F1,hs,by rw[qJ],lI,λx hx zs ho=>?_,bN⟩;obtain⟨y,hy⟩:=F.reads x hx;obtain⟨z,hz,_⟩:=WideElems.rd_val hy;obtain⟨zs0,ho0,_⟩:=rowElem_inv hz;rw[ho.unique (qry ho0 hk (by omega))];exact hlen x hx zs0 ho0
end
def vQ (L:Nat) (D:DataW Unit):Prop:=Maps.IsMap D/\∀kl zs,WideAt.IsKeyLit kl->D.atKey kl .nil = .slice (_root_.Go.ChangeShapes.lits .i64 zs) []->∀z∈zs,0<=z/\z<=(L:Int)
theorem zdf {q:IntKind} {xs ys:List Int} (h:(.slice (_root_.Go.ChangeShapes.lits q xs:List (DataW Unit)) []:DataW Unit) = .slice (_root_.Go.ChangeShapes.lits q ys) []):xs=ys:=by simp only[DataW.slice.injEq,and_true]at h;unfold _root_.Go.ChangeShapes.lits at h;exact (List.map_inj_right (λa b xD=>by cases xD;rfl)).1 h
theorem zac (L:Nat):vQ L (.map []):=⟨Maps.isMap_empty,λkl zs _ h=>by cases h⟩
structure Gm (L:Nat) (w:World) (bm n:Nat) (D:DataW Unit):Prop where
 own:w.ownsGroups Tryz.prog 104 (bm+1) 3 .i64 bm n D
 good:vQ L D
theorem zg3 (L:Nat) (w:World):Gm L (w.alloc (.map #[] 0)) w.heap.size 0 (.map []):=⟨World.ownsGroups_made w _ _ _ _,zac L⟩
theorem Gm.kept {L lo bm n:Nat} {w w':World} {D:DataW Unit} (h:Gm L w bm n D) (k:Kept lo w w') (rQ:lo<=bm):Gm L w' bm n D:=⟨qt0 h.own k rQ,h.good⟩
theorem Nv:(Tryz.prog.info? 3).map (λi=>(i.zero,i.size,i.bytes))=some (some (.int .i64 0),1,8):=by kernel_rfl
theorem qqu (w:World):(zeroValue 28).run Tryz.prog w = .ok (.slice none 0 0) w:=by kernel_rfl
theorem qx0:Tryz.prog.underlying 104=some (.int .u64):=by kernel_rfl
theorem zb2:Tryz.prog.underlying 28=some (.slice 3):=by kernel_rfl
theorem FB:Tryz.prog.underlying 171=some (.map 104 28):=by kernel_rfl
theorem qzo {x:Int} (h:(Lit.int .u64 x).wf=true):keyOf Tryz.prog 104 (.int .u64 x)=some (.int .u64 x):=Maps.keyOf_int_mk qx0 h
theorem qrx:Maps.Keyed Tryz.prog 104:=Maps.int_keyed qx0
theorem vQ.put {L:Nat} {D:DataW Unit} (h:vQ L D) {x:Int} {v v':Value} {zs:List Int} {i:Nat} (bR:D.atKey (.int .u64 x) .nil=rowDatum .i64 v zs) (hd:(rowDatum (H:=Unit) .i64 v zs = .nil/\zs=[])\/rowDatum (H:=Unit) .i64 v zs = .slice (_root_.Go.ChangeShapes.lits .i64 zs) [])
  (hi:i<=L):vQ L (D.put (.int .u64 x) (rowDatum .i64 v' (zs++[(i:Int)]))):=by
 refine⟨h.1.put _ _,λkl ys hk e z hz=>?_⟩;by_cases oO:kl = .int .u64 x
 ·subst oO;rw[Maps.atKey_put_same h.1 hk]at e;have ey:ys=zs++[(i:Int)]:=by
   unfold rowDatum at e;split at e
   ·cases e
   ·exact (zdf e).symm
  rw[ey]at hz;rcases jw.1 hz with hz|hz
  ·rcases hd with⟨_,h0⟩|h1
   ·rw[h0]at hz;cases hz
   ·exact h.2 _ zs hk (bR.trans h1) z hz
  ·simp only[iH]at hz;rw[hz];omega
 ·rw[Maps.atKey_put_other oO]at e;exact h.2 kl ys hk e z hz
theorem qv8 {L bm n:Nat} {w:World} {D:DataW Unit} (h:Gm L w bm n D) (hn:n<maxLen) {o:Oper} {a:Act} {K:Act->World->Prop} {Q:Exit->Act->World->Prop} (m x:Operand) (ur:o.op=Op.lookup 171 m x false)
  (hm:a.eval m = .map (some bm)) (k:Int) (hx:a.eval x = .int .u64 k) (hk:(Lit.int .u64 k).wf=true)
  (hK:∀(pa:OA) (ps:LN) (pc:Nat),Cs w pa (ps.map λp=>.int .i64 (p:Nat))->ps.length<=pc->(∀p∈ps,p<=L)->ps.length<=n->K (a.put o.dst (.slice pa ps.length pc)) w):o.wp Tryz.prog a w K Q:=by
 obtain⟨v,zs,xe,bR,dO,v7,_⟩:=h.own.at qrx FB (qqu w) hn (qzo hk);obtain⟨va,vc,rfl,v1,v2,v3⟩:=Iw dO.1;have hcs:=C8 dO.1;have hg:∀z∈zs,0<=z/\z<=(L:Int):=by
  rcases dO.datum (H:=Unit) with⟨_,h0⟩|h1
  ·intro z hz;rw[h0]at hz;cases hz
  ·exact h.good.2 _ zs (by first|trivial|exact hk|simp[WideAt.IsKeyLit]) (bR.trans h1)
 have hz:zs.map (Value.int .i64)=(zs.map Int.toNat).map λp=>Value.int .i64 (p:Nat):=by
  rw[vW];refine D9 λz hz=>?_
  have:=(hg z hz).1;show Value.int .i64 z=Value.int .i64 ((z.toNat:Nat):Int);rw[FO this]
 rw[hz]at hcs;unfold Oper.wp;simp[execOp,ur,hm,hx,xe,Result.andThen];have:=hK va (zs.map Int.toNat) vc hcs (by simpa using v1) (λp hp=>by
  obtain⟨z,hz,rfl⟩:=jo.1 hp
  have:=hg z hz
  omega) (by simpa using v7)
 rw[bW]at this;exact this
end delta
namespace delta
open Go Go.RowKit lib bm
def Made (base text d:LB):Prop:=
 ∃ins,d=fk base.length++(fk text.length++ins)/\ow base ins text/\ins.length<=text.length+text.length/127+8/\((∃p,G8 base text p)->ins.length<=8*((text.length+65535)/65536))
def St (base text hd out wait:LB) (i:Nat):Prop:=
 ∃ins acc,out=hd++ins/\ow base ins acc/\acc++wait=text.take i/\127*ins.length<=128*acc.length/\i<=text.length
theorem zcf (base text hd:LB):St base text hd hd [] 0:=⟨[],[],by simp,Nr base,by simp,by simp,ep _⟩
theorem St.len {base text hd out wait:LB} {i:Nat} (h:St base text hd out wait i):out.length<=hd.length+2*text.length/\wait.length<=i/\i<=text.length:=by obtain⟨ins,acc,rfl,_,he,hl,hi⟩:=h;have:=congrArg List.length he;rw[aA,dU]at this;rw[aA];omega
theorem St.wait {base text hd out wait:LB} {i:Nat} (h:St base text hd out wait i) (hi:i<text.length):St base text hd out (wait++[text[i]]) (i+1):=by obtain⟨ins,acc,rfl,hr,he,hl,_⟩:=h;refine⟨ins,acc,rfl,hr,?_,hl,hi⟩;rw[<-eE,he,Ef hi]
theorem St.copy {base text hd out wait:LB} {i p b n:Nat} (h:St base text hd out wait i) (hb:base.length<4294967296) (nG:16<=n) (hm:Match base text p i n) (JJ:b<=wait.length) (hk:xS base text p i b) :
  St base text hd (out++lits (wait.take (wait.length-b)).length (wait.take (wait.length-b))++jX (b+n) (p-b) (b+n)) [] (i+n):=by
 obtain⟨ins,acc,rfl,hr,he,hl,hi⟩:=h;obtain⟨m1,m2,m3⟩:=hm;obtain⟨k1,k2,k3,k4,k5⟩:=hk;obtain⟨W,hW⟩:=ai (wait.take (wait.length-b));have hWl:W.length=wait.length-b:=by rw[hW,dU];omega
 rw[<-hW];have Gt:p-b+(b+n)<=base.length:=by omega
 have hc:=WO base hb (b+n) (p-b) (b+n) (ay _) Gt;have fU:=VM (b+n) (p-b) (b+n);have GA:=WQ base W.length W (ay _);have oN:=Si W.length W;have hlen:=congrArg List.length he;rw[aA,dU]at hlen;have hU:((base.drop (p-b)).take (b+n)).length=b+n:=by rw[dU,eV];omega
 refine⟨ins++(lits W.length W++jX (b+n) (p-b) (b+n)),acc++(W++(base.drop (p-b)).take (b+n)),by simp only[eE],hr.append (GA.append hc),?_,?_,m2⟩
 ·rw[mW,<-eE];have e1:acc++W=text.take (i-b):=by
   have:(acc++wait).take (i-b)=acc++W:=by rw[List.take_append,hW,mL (by omega)];congr 2;omega
   rw[<-this,he,Hx];congr 1;omega
  have e2:(base.drop (p-b)).take (b+n)=(text.drop (i-b)).take (b+n):=by rw[List.take_add,List.take_add,k5,C5,C5,Nat.sub_add_cancel k1,Nat.sub_add_cancel k2,m3]
  rw[e1,e2,<-List.take_add];congr 1;omega
 ·simp only[aA,hU];omega
theorem St.done {base text hd out wait:LB} (h:St base text hd out wait text.length):∃ins,out++lits wait.length wait=hd++ins/\ow base ins text/\ins.length<=text.length+text.length/127+8:=by obtain⟨ins,acc,rfl,hr,he,hl,_⟩:=h;rw[Ie]at he;have oN:=Si wait.length wait;have hlen:=congrArg List.length he;rw[aA]at hlen;refine⟨ins++lits wait.length wait,by rw[eE],by rw[<-he];exact hr.append (WQ base wait.length wait (ay _)),?_⟩;rw[aA];omega
theorem qwx {base text:LB} {p:Nat} (hb:base.length<4294967296) (h:G8 base text p):Made base text (fk base.length++fk text.length++lits ([]:LB).length []++jX text.length p text.length):=by obtain⟨h1,h2⟩:=h;have hc:=WO base hb text.length p text.length (ay _) h1;have fU:=VM text.length p text.length;rw[h2]at hc;refine⟨jX text.length p text.length,?_,hc,by omega,λ_=>fU⟩;simp only[kg,nh,mW,eE]
theorem qzh {base text out wait:LB} (oK:∀p,¬G8 base text p) (h:St base text (fk base.length++fk text.length) out wait text.length):Made base text (out++lits wait.length wait):=by obtain⟨ins,he,hr,hl⟩:=h.done;exact⟨ins,by rw[he,eE],hr,hl,λ⟨p,hp⟩=>absurd hp (oK p)⟩
theorem qj0 {P:Program} {t e:TypeId} {z:Value} {size bytes:Nat} (T:az P t e z size bytes) (n:Nat) (a:OA) (cap:Nat) (hc:n<=cap) (w:World) :
  (Instr.slice t (.slice a n cap) Option.none (some (.int .i64 n)) (some (.int .i64 n))).run P w = .ok (.slice a n n) w:=by
 obtain⟨hu,⟨i,iR,_,hs,_⟩,_,_⟩:=T;have c1:(0:Int)<=(n:Int)/\(n:Int)<=(cap:Int):=by omega
 have Kl:∀x:Addr,x.add 0=x:=λx=>rfl
 cases a<;>simp[run_underlying hu,Instr.slice,Instr.sliceBounds,Instr.sliceBound,asIntOf,c1,hc,sizeOf,typeInfo,iR,hs,Result.andThen,Kl]
theorem Mk.made {S0:LN} {w w0 wr:World} {q:Nat} {oa wa:OA} {oc wc:Nat} {out wait:LB} (h:Mk S0 w0 wr q oa oc out wa wc wait) (f:Fr [] w w0) (hS:∀y∈S0,w.heap.size<=y) (n:Nat) (hl:n=out.length):aB w out (.returned (.slice oa n n)) wr:=by
 obtain⟨o1,o2,o3⟩:=h.o.shape;subst hl;rw[bW]at o1;refine⟨oa,rfl,⟨h.o.cs,ay _,ck o1 o2,λe=>by have:=o3 e;omega⟩,λx hx=>⟨?_,h.o.lt x hx⟩,f.step h.fr λy hy=>.inr (hS y hy)⟩;rcases h.newO x hx with k|k
 ·exact hS x k
 ·exact ck f.size k
theorem Mk.AU {S0:LN} {w wr w1 w2:World} {q:Nat} {oa wa a2:OA} {oc wc c2 n:Nat} {out wait news:LB} (h:Mk S0 w wr q oa oc out wa wc wait) (f:Fr [] wr w1)
  (A:eU w1 w2 5 wa a2 c2 (wait.map bv++news.map bv)) (hn:wait.length+news.length=n):Mk S0 w (w2.setCell ⟨q,1,none⟩ (.slice a2 n c2)) q oa oc out a2 c2 (wait++news):=by
 have h1:=h.dQ f;have hq:q<w1.heap.size:=lt_of_block h1.af;have ho:=h1.o.lt;have uz:∀y∈lib.af a2,y≠q/\y∉lib.af oa/\(y∈S0\/w.heap.size<=y):=λy hy=>by
  rcases A.at_ y hy with k|k
  ·exact⟨λe=>h.qx (by rw[<-e];exact k),λe=>h.apart y e k,h.newX y k⟩
  ·have:=h1.fr.size;exact⟨by omega,λe=>by have:=ho y e;omega,by omega⟩
 have fs:Fr [q] w2 (w2.setCell ⟨q,1,none⟩ (.slice a2 n c2)):=(Fr.refl [q] w2).setCell (by simp) _;have hb:=A.fr.af h1.af h.qx;refine⟨?_,?_,?_,h.qo,λe=>(uz q e).1 rfl,λy hy e=>(uz y e).2.1 hy,((h1.fr.step A.fr λy hy=>h.newX y hy).step fs λy hy=>by simp at hy;rw[hy];exact h.new),h.new,h.newO,λy hy=>(uz y hy).2.2⟩
 ·rw[bI hb,aA,hn];rfl
 ·exact (h1.o.fr A.fr λy hy e=>h.apart y hy e).fr fs λy hy=>by simp;intro e;exact h.qo (by rw[<-e];exact hy)
 ·rw[gF];exact A.own.fr fs λy hy=>by simpa using (uz y hy).1
theorem Mk.Hs {S0:LN} {w0 wr:World} {q:Nat} {oa wa:OA} {oc wc:Nat} {out wait:LB} (h:Mk S0 w0 wr q oa oc out wa wc wait):Mk (q::(lib.af oa++lib.af wa)) wr wr q oa oc out wa wc wait:=
 ⟨h.af,h.o,h.x,h.qo,h.qx,h.apart,Fr.refl _ _,.inl (by simp),λy hy=>.inl (by simp[hy]),λy hy=>.inl (by simp[hy])⟩
end delta

end Go.Proofs.YtkmpfgpfbmeihaaGreatDoor