/-
  Texts of this proof, one behind the other: DeltaMakeLaw, DeltaMk, DeltaCp, DeltaFind, DeltaIdx, DeltaMap, DeltaState.
-/
import Derived.Test.YtkmpfgpfbmeihaaGreatDoorU21
import Derived.Lib.IndexMore
import Derived.Maps.OwnRows
import Derived.Maps.GroupsBeside
set_option maxHeartbeats 16000000
set_option maxRecDepth 100000
set_option linter.unusedVariables false
set_option linter.unusedSimpArgs false
namespace Go.Proofs.YtkmpfgpfbmeihaaGreatDoor
namespace delta
open Go Go.RowKit lib
def nz (c:Nat):List UInt8:=if c=0 then [] else [UInt8.ofNat c]
def bit (c:Nat):Nat:=if c=0 then 0 else 1
theorem E8 (c:Nat):bit c<=1:=by unfold bit;split<;>omega
theorem Hi {op f i p n c:Nat} {r:List UInt8} (hc:c<256) (h:op/2^i%2=bit c):pl op (f+1) i p n (nz c++r)=if i<4 then pl op f (i+1) (p+c*256^i) n r else pl op f (i+1) p (n+c*256^(i-4)) r:=by
 unfold nz;unfold bit at h;by_cases h0:c=0
 ·subst h0;rw[if_pos rfl]at h ⊢;rw[vI,UA h];simp
 ·rw[if_neg h0]at h ⊢;rw[List.singleton_append,QW h,Dq hc]
def aM (p k i:Nat):Nat:=if i<4 then p/256^i%256 else if k=65536 then 0 else k/256^(i-4)%256
theorem Fh (p k i:Nat):aM p k i<256:=by
 unfold aM;split
 ·omega
 ·split<;>omega
def gu (p k:Nat):Nat->Nat
 | 0=>0
 | i+1=>gu p k i+bit (aM p k i)*2^i
def bB (p k:Nat):Nat->List UInt8
 | 0=>[]
 | i+1=>bB p k i++nz (aM p k i)
theorem zf4 (c:Nat):(nz c).length<=1:=by unfold nz;split<;>simp
theorem Mz (p k:Nat):∀i,(bB p k i).length<=i
 | 0=>aw _
 | i+1=>by have:=Mz p k i;have:=zf4 (aM p k i);simp only[bB,aK];omega
theorem Mf (p k:Nat):∀i,gu p k i<2^i
 | 0=>by simp[gu]
 | i+1=>by have h1:=Mf p k i;have h2:=E8 (aM p k i);have h3:bit (aM p k i)*2^i<=1*2^i:=uz _ h2;simp only[gu,pK];omega
theorem Hl (p k:Nat) (i:Nat) (hi:i<7):gu p k 7/2^i%2=bit (aM p k i):=by
 have b0:=E8 (aM p k 0);have b1:=E8 (aM p k 1);have b2:=E8 (aM p k 2);have b3:=E8 (aM p k 3);have b4:=E8 (aM p k 4);have b5:=E8 (aM p k 5);have b6:=E8 (aM p k 6);have e:gu p k 7=bit (aM p k 0)+bit (aM p k 1)*2+bit (aM p k 2)*4+bit (aM p k 3)*8+bit (aM p k 4)*16+bit (aM p k 5)*32+bit (aM p k 6)*64:=by simp[gu]
 rw[e];rcases (show i=0\/i=1\/i=2\/i=3\/i=4\/i=5\/i=6 from by omega) with rfl|rfl|rfl|rfl|rfl|rfl|rfl
 all_goals simp only[show (2:Nat)^0=1 from rfl,show (2:Nat)^1=2 from rfl,show (2:Nat)^2=4 from rfl,show (2:Nat)^3=8 from rfl,show (2:Nat)^4=16 from rfl,show (2:Nat)^5=32 from rfl,show (2:Nat)^6=64 from rfl];omega
theorem zdo (p k:Nat) (hp:p<4294967296) (x5:1<=k) (rq:k<=65536) (r:List UInt8):pl (gu p k 7) 7 0 0 0 (bB p k 7++r)=some (p,k,r):=by
 have e:bB p k 7++r=nz (aM p k 0)++(nz (aM p k 1)++(nz (aM p k 2)++(nz (aM p k 3)++(nz (aM p k 4)++(nz (aM p k 5)++(nz (aM p k 6)++r)))))):=by simp[bB]
 rw[e,Hi (Fh p k 0) (Hl p k 0 (by decide)),if_pos (by decide),Hi (Fh p k 1) (Hl p k 1 (by decide)),if_pos (by decide),Hi (Fh p k 2) (Hl p k 2 (by decide)),if_pos (by decide),Hi (Fh p k 3) (Hl p k 3 (by decide)),if_pos (by decide),
  Hi (Fh p k 4) (Hl p k 4 (by decide)),if_neg (by decide),Hi (Fh p k 5) (Hl p k 5 (by decide)),if_neg (by decide),Hi (Fh p k 6) (Hl p k 6 (by decide)),if_neg (by decide),pl]
 have c0:aM p k 0=p%256:=by unfold aM;simp
 have c1:aM p k 1=p/256%256:=by unfold aM;simp
 have c2:aM p k 2=p/65536%256:=by unfold aM;simp
 have c3:aM p k 3=p/16777216%256:=by unfold aM;simp
 have c4:aM p k 4=if k=65536 then 0 else k%256:=by unfold aM;simp
 have c5:aM p k 5=if k=65536 then 0 else k/256%256:=by unfold aM;simp
 have c6:aM p k 6=if k=65536 then 0 else k/65536%256:=by unfold aM;simp
 rw[c0,c1,c2,c3,c4,c5,c6];have e1:0+p%256*256^0+p/256%256*256^(0+1)+p/65536%256*256^(0+1+1)+p/16777216%256*256^(0+1+1+1)=p:=by simp only[show 256^0=1 from rfl,show 256^(0+1)=256 from rfl,show 256^(0+1+1)=65536 from rfl,show 256^(0+1+1+1)=16777216 from rfl];omega
 rw[e1];by_cases hk:k=65536
 ·subst hk;simp
 ·simp only[if_neg hk];have e2:0+k%256*256^(0+1+1+1+1-4)+k/256%256*256^(0+1+1+1+1+1-4)+k/65536%256*256^(0+1+1+1+1+1+1-4)=k:=by simp only[show 256^(0+1+1+1+1-4)=1 from rfl,show 256^(0+1+1+1+1+1-4)=256 from rfl,show 256^(0+1+1+1+1+1+1-4)=65536 from rfl];omega
  rw[e2,if_neg (by omega)]
def C7 (p k:Nat):List UInt8:=UInt8.ofNat (128+gu p k 7)::bB p k 7
theorem zfo (p k:Nat):(C7 p k).length<=8:=by have:=Mz p k 7;simp only[C7,cQ];omega
theorem Ra (base:List UInt8) (tn:Nat):∀(f g:Nat) (r out:List UInt8),r.length<=f->r.length<=g->app base tn f r out=app base tn g r out
 | f,g,[],out,_,_=>by rw[QR,QR]
 | f+1,g+1,c::r,out,hf,hg=>by
  simp only[cQ]at hf hg;rw[Ky,Ky];split
  ·cases fN:pl (c.toNat-128) 7 0 0 0 r with
   | none=>rfl
   | some x=>
    obtain⟨p,n,rest⟩:=x;have:=L5 _ _ _ _ _ _ _ fN;simp only at this ⊢;split
    ·rfl
    ·exact Ra base tn f g rest _ (by omega) (by omega)
  ·split
   ·rfl
   ·split
    ·rfl
    ·exact Ra base tn f g _ _ (by rw[eQ];omega) (by rw[eQ];omega)
def oV (base ins acc:List UInt8):Prop:=∀(tn:Nat) (rest out:List UInt8),out.length+acc.length<=tn->app base tn (ins++rest).length (ins++rest) out=app base tn rest.length rest (out++acc)
theorem Mp (base:List UInt8):oV base [] []:=λtn rest out _=>by simp
theorem oV.append {base i1 a1 i2 a2:List UInt8} (h1:oV base i1 a1) (h2:oV base i2 a2):oV base (i1++i2) (a1++a2):=λtn rest out h=>by rw[aK]at h;have e1:=h1 tn (i2++rest) out (by omega);have e2:=h2 tn rest (out++a1) (by rw[aK];omega);rw[gH,e1,e2,gH]
theorem qwk (base:List UInt8) (p k:Nat) (hb:base.length<4294967296) (x5:1<=k) (rq:k<=65536) (h:p+k<=base.length):oV base (C7 p k) ((base.drop p).take k):=λtn rest out ho=>by
 have hl:((base.drop p).take k).length=k:=by rw[eJ,eQ];omega
 rw[hl]at ho;have ho7:=Mf p k 7;have e2:(2:Nat)^7=128:=by decide
 have eb:(UInt8.ofNat (128+gu p k 7)).toNat=128+gu p k 7:=Dq (by omega);show app base tn ((bB p k 7++rest).length+1) (UInt8.ofNat (128+gu p k 7)::(bB p k 7++rest)) out=_;rw[Ky,eb,if_pos (by omega),Nat.add_sub_cancel_left,zdo p k (by omega) x5 rq];simp only;rw[if_neg (by omega)];exact Ra base tn _ _ _ _ (by rw[aK];omega) (aw _)
theorem zae (base w:List UInt8) (h0:0<w.length) (h1:w.length<=127):oV base (UInt8.ofNat w.length::w) w:=λtn rest out ho=>by have eb:(UInt8.ofNat w.length).toNat=w.length:=Dq (by omega);show app base tn ((w++rest).length+1) (UInt8.ofNat w.length::(w++rest)) out=_;rw[Ky,eb,if_neg (by omega),if_neg (by omega),if_neg (by rw[aK];omega),List.drop_left,List.take_left];exact Ra base tn _ _ _ _ (by rw[aK];omega) (aw _)
def lits:Nat->List UInt8->List UInt8
 | 0,_=>[]
 | f+1,w=>if w=[] then [] else (UInt8.ofNat (min 127 w.length)::w.take 127)++lits f (w.drop 127)
theorem mN (f:Nat):lits f []=[]:=by cases f<;>simp[lits]
theorem Va {f:Nat} {w:List UInt8} (h:w≠[]):lits (f+1) w=(UInt8.ofNat (min 127 w.length)::w.take 127)++lits f (w.drop 127):=by rw[lits,if_neg h]
theorem Vl (base:List UInt8):∀(f:Nat) (w:List UInt8),w.length<=f->oV base (lits f w) w
 | 0,w,h=>by
  obtain rfl:w=[]:=wk (by omega);exact Mp base
 | f+1,w,h=>by
  by_cases hw:w=[]
  ·subst hw;rw[mN];exact Mp base
  ·have hl:0<w.length:=Kv.2 hw;rw[Va hw];have h1:=zae base (w.take 127) (by rw[eJ];omega) (by rw[eJ];omega);rw[eJ]at h1;have h2:=h1.append (Vl base f (w.drop 127) (by rw[eQ];omega));rw[Fz]at h2;exact h2
theorem Rg:∀(f:Nat) (w:List UInt8),(lits f w).length<=w.length+(w.length+126)/127
 | 0,w=>by simp[lits]
 | f+1,w=>by
  by_cases hw:w=[]
  ·subst hw;rw[mN];simp
  ·have hl:0<w.length:=Kv.2 hw;have:=Rg f (w.drop 127);rw[Va hw];simp only[aK,cQ,eJ,eQ]at *;omega
def jK:Nat->Nat->Nat->List UInt8
 | 0,_,_=>[]
 | f+1,p,n=>if n=0 then [] else C7 p (min n 65536)++jK f (p+min n 65536) (n-min n 65536)
theorem U7 (f p:Nat):jK f p 0=[]:=by cases f<;>simp[jK]
theorem U6 {f p n:Nat} (h:n≠0):jK (f+1) p n=C7 p (min n 65536)++jK f (p+min n 65536) (n-min n 65536):=by rw[jK,if_neg h]
theorem Vk (base:List UInt8) (hb:base.length<4294967296):∀(f p n:Nat),n<=f->p+n<=base.length->oV base (jK f p n) ((base.drop p).take n)
 | 0,p,n,hf,_=>by
  obtain rfl:n=0:=by omega
  rw[DK];exact Mp base
 | f+1,p,n,hf,h=>by
  by_cases hn:n=0
  ·subst hn;rw[U7,DK];exact Mp base
  ·rw[U6 hn];have h1:=qwk base p (min n 65536) hb (by omega) (by omega) (by omega);have h2:=h1.append (Vk base hb f (p+min n 65536) (n-min n 65536) (by omega) (by omega));have e:(base.drop p).take n=(base.drop p).take (min n 65536)++(base.drop (p+min n 65536)).take (n-min n 65536):=by rw[<-J8,<-List.take_add];congr 1;omega
   rw[e];exact h2
theorem UF:∀(f p n:Nat),(jK f p n).length<=8*((n+65535)/65536)
 | 0,p,n=>by simp[jK]
 | f+1,p,n=>by
  by_cases hn:n=0
  ·subst hn;rw[U7];simp
  ·have h1:=zfo p (min n 65536);have h2:=UF f (p+min n 65536) (n-min n 65536);rw[U6 hn,aK];omega
open bm
structure Mk (S0:List Nat) (w wr:World) (q:Nat) (oa:Option Addr) (oc:Nat) (out:List UInt8) (wa:Option Addr) (wc:Nat) (wait:List UInt8):Prop where
 ae:wr.heap[q]?=some (.cells #[.slice oa out.length oc,.slice wa wait.length wc] 168 (0,0))
 o:dP wr 5 oa oc (out.map bv)
 x:dP wr 5 wa wc (wait.map bv)
 qo:q∉lib.ae oa
 qx:q∉lib.ae wa
 apart:∀y∈lib.ae oa,y∉lib.ae wa
 fr:Fr S0 w wr
 new:q∈S0\/w.heap.size<=q
 newO:∀y∈lib.ae oa,y∈S0\/w.heap.size<=y
 newX:∀y∈lib.ae wa,y∈S0\/w.heap.size<=y
theorem Mk.dF {S0:List Nat} {w wr wz:World} {q:Nat} {oa wa:Option Addr} {oc wc:Nat} {out wait:List UInt8} (h:Mk S0 w wr q oa oc out wa wc wait) (f:Fr [] wr wz):Mk S0 w wz q oa oc out wa wc wait:=
 ⟨f.ae h.ae (by simp),h.o.fr f (by simp),h.x.fr f (by simp),h.qo,h.qx,h.apart,h.fr.step f (by simp),h.new,h.newO,h.newX⟩
theorem Mk.bE {S0:List Nat} {w wr w1 w2:World} {q:Nat} {oa wa a2:Option Addr} {oc wc c2 n:Nat} {out wait news:List UInt8} (h:Mk S0 w wr q oa oc out wa wc wait) (f:Fr [] wr w1)
  (A:eK w1 w2 5 oa a2 c2 (out.map bv++news.map bv)) (hn:out.length+news.length=n):Mk S0 w (w2.setCell ⟨q,0,none⟩ (.slice a2 n c2)) q a2 c2 (out++news) wa wc wait:=by
 have h1:=h.dF f;have hq:q<w1.heap.size:=lt_of_block h1.ae;have hx:=h1.x.lt;have ua:∀y∈lib.ae a2,y≠q/\y∉lib.ae wa/\(y∈S0\/w.heap.size<=y):=λy hy=>by
  rcases A.at_ y hy with k|k
  ·exact⟨λe=>h.qo (by rw[<-e];exact k),h.apart y k,h.newO y k⟩
  ·have:=h1.fr.size;exact⟨by omega,λe=>by have:=hx y e;omega,by omega⟩
 have fs:Fr [q] w2 (w2.setCell ⟨q,0,none⟩ (.slice a2 n c2)):=(Fr.refl [q] w2).setCell (by simp) _;have hb:=A.fr.ae h1.ae h.qo;refine⟨?_,?_,?_,λe=>(ua q e).1 rfl,h.qx,λy hy=>(ua y hy).2.1,((h1.fr.step A.fr λy hy=>h.newO y hy).step fs λy hy=>by simp at hy;rw[hy];exact h.new),h.new,λy hy=>(ua y hy).2.2,h.newX⟩
 ·rw[aX hb,aK,hn];rfl
 ·rw[gB];exact A.own.fr fs λy hy=>by simpa using (ua y hy).1
 ·exact (h1.x.fr A.fr λy hy e=>h.apart y e hy).fr fs λy hy=>by simp;intro e;exact h.qx (by rw[<-e];exact hy)
theorem Mk.EX {S0:List Nat} {w wr:World} {q:Nat} {oa wa a2:Option Addr} {oc wc c2 n:Nat} {out wait wait2:List UInt8} (h:Mk S0 w wr q oa oc out wa wc wait) (ho:dP wr 5 a2 c2 (wait2.map bv)) (hn:wait2.length=n)
  (hb:∀y∈lib.ae a2,y∈lib.ae wa):Mk S0 w (wr.setCell ⟨q,1,none⟩ (.slice a2 n c2)) q oa oc out a2 c2 wait2:=by
 have fs:Fr [q] wr (wr.setCell ⟨q,1,none⟩ (.slice a2 n c2)):=(Fr.refl [q] wr).setCell (by simp) _;refine⟨?_,h.o.fr fs λy hy=>by simp;intro e;exact h.qo (by rw[<-e];exact hy),ho.fr fs λy hy=>by simp;intro e;exact h.qx (by rw[<-e];exact hb y hy),h.qo,λe=>h.qx (hb q e),λy hy e=>h.apart y hy (hb y e),h.fr.step fs λy hy=>by simp at hy;rw[hy];exact h.new,h.new,h.newO,λy hy=>h.newX y (hb y hy)⟩;rw[aX h.ae,hn];rfl
theorem qxp {k:Nat} {out w R:List UInt8} (h:out++lits k w=R) (hw:w=[]):out=R:=by subst hw;rw[mN,nF]at h;exact h
theorem qqz (S0:List Nat) (w W:World) (q:Nat) (oa wa:Option Addr) (oc wc:Nat) (out wait:List UInt8) (h:Mk S0 w W q oa oc out wa wc wait) (wU:out.length+2*wait.length<=1099511627776) :
  Calls Tryz.prog 102 #[.pointer (some ⟨q,0,none⟩)] W λe W'=>e = .returned (.tuple #[])/\∃iT lO GQ GO,Mk S0 w W' q iT lO (out++lits wait.length wait) GQ GO []:=by
 obtain⟨R,hR⟩:∃R,out++lits wait.length wait=R:=⟨_,rfl⟩;rw[hR];have H0:=ak h hR;clear h hR;go_enter Tryz.func102,Tryz.ntmps102;go_wp2;go_loopg [2] wait.length (λk s2 wr=>∃oa oc out wa wc wait,Mk S0 w wr q oa oc out wa wc wait/\out++lits k wait=R/\wait.length<=k/\out.length+2*wait.length<=1099511627776);case atStart=>exact⟨oa,oc,out,wa,wc,wait,H0.o0,H0.l1,aw _,wU⟩
 case round=>
  obtain⟨oa,oc,out,wa,wc,x,h,hr,hk,hb⟩:=hrel;have c0:=cell_of h.ae 0;have c1:=cell_of h.ae 1;have z0:=aO h.ae 0;have z1:=aO h.ae 1;simp only[bw,aV,bN]at c0 c1;obtain⟨o1,o2,o3⟩:=h.o.shape;obtain⟨x1,x2,x3⟩:=h.x.shape;rw[cN]at o1 x1;have H:=af h;clear h H0;by_cases hx:x=[]
  ·subst hx;have hd:=qxp hr rfl;have HD:=af hd;clear hr hd;go_wp2;go_end0;rw[<-HD.out];exact⟨rfl,oa,oc,wa,wc,H.out⟩
  ·have hl:0<x.length:=Kv.2 hx;obtain⟨k,rfl⟩:∃k,gk=k+1:=⟨gk-1,by omega⟩;rw[Va hx]at hr;obtain⟨n,hn⟩:=ah (min 127 x.length);have vQ:(n:Int)=if ((x.length:Nat):Int)<127 then ((x.length:Nat):Int) else 127:=by rw[hn];split<;>omega
   have iJ:n<=127/\n<=x.length/\1<=n:=by omega
   have HN:=au vQ hn hr;clear hn vQ hr hx;go_upto_region 2 with (refine MT (n:Int) rfl _ _ _ rfl 127 ((x.length:Nat):Int) rfl rfl HN.o0 ?_);obtain⟨S,hS⟩:=ah (ae oa);have Ld:q∉S:=by rw[hS];exact H.out.qo
   have HS:=af hS;have q0:∀y,(sup S wr.drew y).cell? ⟨q,0,none⟩=some (.slice oa out.length oc):=λy=>(dk S wr.drew y).cell ((Fr.av [] wr).cell c0 (by simp)) Ld
   have q1:∀y,(sup S wr.drew y).cell? ⟨q,1,none⟩=some (.slice wa x.length wc):=λy=>(dk S wr.drew y).cell ((Fr.av [] wr).cell c1 (by simp)) Ld
   have Hq0:=af q0;have HC:=ak c0 c1;have hsl:=λw=>lib.FA aq n wa x.length wc (n:Int) rfl (by omega) w
   have HSL:=af hsl;clear hS c0 c1 z0 z1;refine RP 18 [(false,0),(false,1),(false,2),(false,3),(false,4),(false,5),(false,6),(false,9),(false,10),(false,11),(false,12),(false,13),(false,14),(true,7),(true,8),(true,15),(false,16),(false,17)] S (by kernel_rfl) (by kernel_rfl) (λ_ _ d _ _ h=>by cases d<;>exact h) ?_;simp only[iw];refine Fj 13 rfl ?_;simp only[aU];repeat (go_big_quiet_step (fail))
   refine wpQuiet_nil ?_;clear q0 q1 hsl;refine Dz rfl ?_;intro X hX;go_wp2;refine hX.out _ _ wr.drew (Fr.refl _ _) ((Fr.refl S wr.drew).alloc _) ?_;clear hX X;obtain⟨w1,cD⟩:∃w1,w1=(wr.alloc (.cells #[.int .u8 (n:Int)] 5)).drew:=⟨_,rfl⟩;rw[<-cD];have f1:Fr [] wr w1:=by rw[cD];exact ((Fr.refl [] wr).alloc _).drew
   have fx:w1.heap[wr.heap.size]?=some (.cells #[.int .u8 (n:Int)] 5 (0,0)):=by rw[cD];exact (Fr.av [] _).ae (bx wr _) (by simp)
   have kx:Cs w1 (some ⟨wr.heap.size,0,none⟩) (([UInt8.ofNat n]:List UInt8).map bv):=ny _ _ _ _ (by rw[fx];unfold bv;rw[Dq (by omega)]);have F1:=au f1 fx kx;have JF:Fr S wr.drew w1:=by rw[cD];exact (((Fr.refl S wr).alloc _).drew).aS
   clear cD f1 fx kx;refine Dz rfl ?_;intro X hX;refine RZ aq _ _ rfl oa out.length oc (out.map bv) rfl (H.out.o.fr F1.o0 (by simp)) (by rw[cN]) (some ⟨wr.heap.size,0,none⟩) 1 1 (([UInt8.ofNat n]:List UInt8).map bv) rfl (by decide) (by simp) F1.l2 (by rfl) (jQ _) (by omega) (by unfold maxLen;omega) ?_;intro a2 c2 w2 A2;have JE:Fr S wr.drew w2:=JF.step A2.fr λy hy=>.inl (by rw[HS.out];exact hy)
   refine hX.out _ _ wr.drew (Fr.refl _ _) JE ?_;clear hX X JF;simp only[Act.put,mC,nC,mB];have wu:dP w2 5 a2 c2 ((out++[UInt8.ofNat n]).map bv):=by rw[gB];exact A2.own
   have Tc:Rd w2 wa wc (x.take n):=(((H.out.x.fr F1.o0 (by simp)).fr A2.fr λy hy e=>H.out.apart y e hy).rd).take n;have rk:(x.take n).length=n:=by rw[eJ];omega
   refine Dz rfl ?_;intro X hX;refine RZ aq _ _ rfl a2 (out.length+1) c2 ((out++[UInt8.ofNat n]).map bv) rfl wu (by simp) wa n wc ((x.take n).map bv) rfl (by omega) Tc.nil Tc.cs (by rw[cN,rk]) (jQ _) (by omega) (by unfold maxLen;omega) ?_;intro a3 c3 w3 A3;have fb3:Fr S wr.drew w3:=JE.step A3.fr λy hy=>(A2.at_ y hy).imp (λh=>by rw[HS.out];exact h) (λh=>bS (by rw[<-(rfl:wr.drew.heap.size=wr.heap.size)];exact F1.o0.size) h)
   refine hX.out _ _ wr.drew (Fr.refl _ _) fb3 ?_;clear hX X;simp only[Act.put,mC,nC,mB];have HA:=af (A2.two A3);have tE:=fb3.ae ((Fr.av [] wr).ae H.out.ae (by simp)) Ld;have c0:=cell_of tE 0;have c1:=cell_of tE 1;have z0:=aO tE 0;have z1:=aO tE 1;simp only[bw,aV,bN]at c0 c1;clear tE;clear A2 A3 wu Tc JE;have q0:=Hq0.out;refine Fj 2 rfl ?_;simp only[aU];repeat (go_big_quiet_step (fail))
   refine wpQuiet_nil ?_;clear q0;refine Rh ?_;go_wp2_with (refine vK aq n rfl _ _ rfl wa x.length wc _ rfl rfl rfl (by omega) (by omega) ?_);go_roundg k;case measure=>omega
   case rel=>
    have A:=HA.out;have hN:=HN.out;have e1:x.take 127=x.take n:=by rw[hN.2.1,<-List.take_eq_take_min]
    have e2:x.drop 127=x.drop n:=by
     by_cases h:127<=x.length
     ·rw[hN.2.1,tU h]
     ·rw[CK (by omega),CK (by omega)]
    have hR:=hN.2.2;rw[e1,e2,<-hN.2.1]at hR;have m1:=H.out.bE (news:=UInt8.ofNat n::x.take n) (n:=out.length+1+n) F1.o0 (by simpa using A) (by simp;omega);have m2:=m1.EX (wait2:=x.drop n) (n:=x.length-n) (by rw[G1];exact m1.x.drop n (by rw[cN];omega)) (by rw[eQ]) (by rw[Rx];exact λ_ h=>h);refine⟨_,_,out++(UInt8.ofNat n::x.take n),_,_,x.drop n,m2,by rw[gH];exact hR,by rw[eQ];omega,?_⟩;simp only[aK,cQ,eJ,eQ];omega
structure Ar (w wr:World) (a:Option Addr) (c:Nat) (bs:List UInt8):Prop where
 own:dP wr 5 a c (bs.map bv)
 fr:Fr [] w wr
 new:∀y∈ae a,w.heap.size<=y
theorem zfu (w:World):Ar w w none 0 []:=⟨dP.nil _ _,Fr.refl _ _,by simp[ae]⟩
theorem Ar.more {w wr w1 w2:World} {a a2:Option Addr} {c c2:Nat} {bs news:List UInt8} (h:Ar w wr a c bs) (f:Fr [] wr w1) (A:eK w1 w2 5 a a2 c2 (bs.map bv++news.map bv)):Ar w w2 a2 c2 (bs++news):=by
 refine⟨by rw[gB];exact A.own,(h.fr.trans f).step A.fr λy hy=>.inr (h.new y hy),λy hy=>?_⟩;rcases A.at_ y hy with k|k
 ·exact h.new y k
 ·have:=(h.fr.trans f).size;omega
theorem TY (x i:Nat) (hx:x<2^i) (hi:i<7):bits .or .u8 ((128+x:Nat):Int) ((2^i:Nat):Int)=((128+(x+2^i):Nat):Int):=by
 have h:∀i:Fin 7,∀x:Fin 128,x.1<2^i.1->bits .or .u8 ((128+x.1:Nat):Int) ((2^i.1:Nat):Int)=((128+(x.1+2^i.1):Nat):Int):=by decide +kernel
 have po:2^i<=2^6:=kr (by decide) (by omega);have e:2^6=64:=by decide
 exact h ⟨i,hi⟩ ⟨x,by omega⟩ hx
theorem zb4 (p K i:Nat) (hi:i<4):(p:Int)/2^(8*i)%256=(aM p K i:Int):=by
 unfold aM;have e:((2:Int)^(8*i))=((256^i:Nat):Int):=by rw[show (256:Nat)^i=2^(8*i) from by rw[Nat.pow_mul],Ao];rfl
 rw[if_pos hi,e,Int.natCast_emod,G6];rfl
theorem za8 (K i:Nat):(K:Int)/2^(8*i)%256=((K/256^i%256:Nat):Int):=by
 have e:((2:Int)^(8*i))=((256^i:Nat):Int):=by rw[show (256:Nat)^i=2^(8*i) from by rw[Nat.pow_mul],Ao];rfl
 rw[e,Int.natCast_emod,G6];rfl
theorem qxc (x i:Nat) (hx:x<2^i) (hi:i<7):bits .or .u8 (128+(x:Int)) (2^i%256)=((128+(x+2^i):Nat):Int):=by
 rw[<-TY x i hx hi];have po:2^i<=2^6:=kr (by decide) (by omega);have e:(2:Nat)^6=64:=by decide
 have e2:(2:Int)^i%256=((2^i:Nat):Int):=by
  have:(2:Int)^i=((2^i:Nat):Int):=by rw[Ao];rfl
  rw[this];omega
 rw[e2,show (128:Int)+(x:Int)=((128+x:Nat):Int) from by omega]
theorem Vd (p k i:Nat):gu p k (i+1)=gu p k i+bit (aM p k i)*2^i:=rfl
theorem KF (p k i:Nat):bB p k (i+1)=bB p k i++nz (aM p k i):=rfl
theorem zat (x i:Nat) (hx:x<2^(4+i)) (hi:i<3):bits .or .u8 (128+(x:Int)) (16*2^i%256)=((128+(x+2^(4+i)):Nat):Int):=by rw[<-qxc x (4+i) hx (by omega),Int.pow_add];rfl
theorem quc (S0:List Nat) (w W:World) (q p n:Nat) (oa wa:Option Addr) (oc wq:Nat) (out wait:List UInt8) (h:Mk S0 w W q oa oc out wa wq wait) (wU:out.length+2*wait.length+8*n<=1099511627776) (hp:p+n<=4294967295) :
  Calls Tryz.prog 99 #[.pointer (some ⟨q,0,none⟩),.int .i64 (p:Nat),.int .i64 (n:Nat)] W λe W'=>e = .returned (.tuple #[])/\∃iT lO GQ GO,Mk S0 w W' q iT lO (out++lits wait.length wait++jK n p n) GQ GO []:=by
 have nN:=qqz S0 w W q oa wa oc wq out wait h (by omega);have oz:=Rg wait.length wait;obtain⟨o1,CS⟩:=ah (out++lits wait.length wait);have gD:o1.length+8*n<=1099511627776+127:=by rw[CS,aK];omega
 rw[<-CS]at nN ⊢;obtain⟨R,hR⟩:∃R,o1++jK n p n=R:=⟨_,rfl⟩;rw[hR];have H0:=ak nN hR;clear nN oz CS hR h wU;go_enter Tryz.func99,Tryz.ntmps99;go_upto_block 0 with (go_at_call 102;refine H0.o0.mono ?_;rintro e w1 ⟨rfl,a1,c1,a2,c2,m1⟩;have H1:=af m1;clear m1);go_wp2;go_loopg [1,2,6,7,8,9,10,11,12] n (λk s1 s2 s6 s7 s8 s9 s10 s11 s12 wr=>∃p m oa oc out wa wq,s1 = .int .i64 (p:Nat)/\s2 = .int .i64 (m:Nat)/\Mk S0 w wr q oa oc out wa wq []/\out++jK k p m=R/\m<=k/\p+m<=4294967295/\out.length+8*m<=1099511627776+127);case atStart=>exact⟨p,n,a1,c1,o1,a2,c2,rfl,rfl,H1.out,H0.l1,aw _,hp,gD⟩
 case round=>
  obtain⟨p,m,oa,oc,out,wa,wq,rfl,rfl,h,hr,hk,Ed,hb⟩:=hrel;obtain⟨wo,rfl⟩:∃wo:World,wo=wr:=⟨_,rfl⟩;have H:=af h;clear h H0 H1;by_cases hm:0<m
  ·obtain⟨k,rfl⟩:∃k,gk=k+1:=⟨gk-1,by omega⟩;rw[U6 (by omega)]at hr;obtain⟨K,hK⟩:=ah (min m 65536);have hK1:(K:Int)=if (65536:Int)<(m:Int) then 65536 else (m:Int):=by rw[hK];split<;>omega
   have hK2:1<=K/\K<=65536/\K<=m:=by omega
   rw[<-hK]at hr;have HK:=ak hK1 hr;clear hK hK1 hr;go_upto_block 2 with (refine MT (K:Int) rfl _ _ _ rfl (m:Int) 65536 rfl rfl HK.o0 ?_);go_cut [7,8,9,10] from 19 to 38 (λs7 s8 s9 s10 wz=>∃a c,s7 = .int .u8 ((128+gu p K 4:Nat):Int)/\s8 = .slice a (bB p K 4).length c/\Ar wo wz a c (bB p K 4))
   case first=>
    go_wp2;go_loopg [7,8,9,10,19] 4 (λkk s7 s8 s9 s10 s19 w2=>∃i a c,i+kk=4/\s19 = .int .i64 (i:Nat)/\s7 = .int .u8 ((128+gu p K i:Nat):Int)/\s8 = .slice a (bB p K i).length c/\Ar wo w2 a c (bB p K i));case atStart=>exact⟨0,none,0,rfl,rfl,rfl,rfl,zfu wo⟩
    case round=>
     obtain⟨i,a,c,hi,rfl,rfl,rfl,ha⟩:=hrel;have HA:=af ha;obtain⟨k1,k2,k3⟩:=ha.own.shape;rw[cN]at k1;clear ha;by_cases hi4:i<4
     ·obtain⟨cb,kx⟩:=ah (aM p K i);have hcv:(p:Int)/2^(8*i)%256=(cb:Int):=by rw[kx];exact zb4 p K i hi4
      have fH:cb<256:=by rw[kx];exact Fh p K i
      have tW:=Mf p K i;have GM:=ak kx tW;clear kx tW;have tN:=GM.l1;obtain⟨ov,ze⟩:=ah (gu p K i);rw[<-ze]at tN ⊢;have De:=ak ze tN;clear ze tN;obtain⟨wi,rfl⟩:∃wi:World,wi=wr:=⟨_,rfl⟩;go_upto_region 7 with fail;go_cut [10] from 20 to 27 (λs10 wz=>s10 = .int .u8 (cb:Int)/\wi=wz)
      case first=>go_wp2;go_meet;exact⟨by first|rfl|exact int_eq hcv,rfl⟩
      case rest=>
      obtain⟨rfl,rfl⟩:=hcut;clear hcv;by_cases bW:cb=0
      ·have e0:bit (aM p K i)=0:=by rw[<-GM.o0,bW];rfl
       have e1:nz (aM p K i)=[]:=by rw[<-GM.o0,bW];rfl
       have HE:=ak e0 e1;subst bW;clear e0 e1;go_wp2;go_roundg (4-(i+1));case measure=>omega
       case rel=>
        refine⟨i+1,a,c,by omega,by go_num,?_,?_,?_⟩
        ·rw[De.o0];simp only[gu,HE.o0,Nat.zero_mul,jS]
        ·simp only[bB,HE.l1,nF]
        ·simp only[bB,HE.l1,nF];exact HA.out
      ·have b1:((cb:Int)==0)=false:=by simp;omega
       have b2:((cb:Int)!=0)=true:=by simp;omega
       have e0:bit (aM p K i)=1:=by rw[<-GM.o0];unfold bit;rw[if_neg bW]
       have e1:nz (aM p K i)=[UInt8.ofNat cb]:=by rw[<-GM.o0];unfold nz;rw[if_neg bW]
       have f1:Fr [] wi (wi.alloc (.cells #[.int .u8 (cb:Int)] 5)):=(Fr.refl [] wi).alloc _;have hcs:Cs (wi.alloc (.cells #[.int .u8 (cb:Int)] 5)) (some ⟨wi.heap.size,0,none⟩) (([UInt8.ofNat cb]:List UInt8).map bv):=ny _ _ _ 5 (by rw[bx];unfold bv;rw[Dq fH]);have HE:=aF e0 e1 f1 hcs;have ha4:=Mz p K i;clear e0 e1 f1 hcs;go_wp2_with (refine AG aq rfl _ _ rfl a (bB p K i).length c ((bB p K i).map bv) rfl (HA.out.own.fr HE.l1.2.1 (by simp)) (by rw[cN]) (some ⟨wi.heap.size,0,none⟩) 1 1 (([UInt8.ofNat cb]:List UInt8).map bv) rfl (by decide) (by simp) HE.l1.2.2 (by rfl) (jQ _) (by omega) (by unfold maxLen;omega) ?_;intro a2 c2 w3 A3;have H3:=af A3;clear A3);go_roundg (4-(i+1));case measure=>omega
       case rel=>
        refine⟨i+1,a2,c2,by omega,by go_num,?_,?_,?_⟩
        ·rw[De.o0];simp only[gu,HE.o0,Nat.one_mul];have:=qxc (gu p K i) i (by rw[<-De.o0];exact De.l1) (by omega);exact int_eq (by first|exact this|(simp only[Nat.cast_add]at *;exact this))
        ·simp only[bB,HE.l1.1,aK];rfl
        ·simp only[bB,HE.l1.1];exact HA.out.more HE.l1.2.1 H3.out
     ·obtain rfl:i=4:=by omega
      go_wp2;go_meet;exact⟨a,c,rfl,rfl,HA.out⟩
   case rest=>
   obtain⟨a,c,rfl,rfl,ha⟩:=hcut;obtain⟨wx,rfl⟩:∃wx:World,wx=wc:=⟨_,rfl⟩;have HA4:=af ha;clear ha;go_upto_block 4 with fail;go_cut [7,8,11,12] from 38 to 61 (λs7 s8 s11 s12 wz=>∃a c,s7 = .int .u8 ((128+gu p K 7:Nat):Int)/\s8 = .slice a (bB p K 7).length c/\Ar wo wz a c (bB p K 7))
   case first=>
    go_wp2;go_loopg [7,8,11,12,38] 3 (λkk s7 s8 s11 s12 s38 w2=>∃i a c,i+kk=3/\s38 = .int .i64 (i:Nat)/\s7 = .int .u8 ((128+gu p K (4+i):Nat):Int)/\s8 = .slice a (bB p K (4+i)).length c/\Ar wo w2 a c (bB p K (4+i)));case atStart=>exact⟨0,a,c,rfl,rfl,rfl,rfl,HA4.out⟩
    case round=>
     obtain⟨i,a,c,hi,rfl,rfl,rfl,ha⟩:=hrel;have HA:=af ha;obtain⟨k1,k2,k3⟩:=ha.own.shape;rw[cN]at k1;clear ha;by_cases SD:i<3
     ·obtain⟨cb,kx⟩:=ah (K/256^i%256);have hcv:(K:Int)/2^(8*i)%256=(cb:Int):=by rw[kx];exact za8 K i
      have fH:cb<256:=by rw[kx];omega
      have tW:=Mf p K (4+i);have iL:aM p K (4+i)=if K=65536 then 0 else cb:=by unfold aM;rw[if_neg (by omega),kx,Nat.add_sub_cancel_left]
      have GM:=ak iL tW;have tN:=tW;clear kx tW iL;obtain⟨ov,ze⟩:=ah (gu p K (4+i));rw[<-ze]at tN ⊢;have De:=ak ze tN;clear ze tN;obtain⟨wi,rfl⟩:∃wi:World,wi=wr:=⟨_,rfl⟩;go_upto_region 15 with fail;go_cut [12] from 39 to 46 (λs12 wz=>s12 = .int .u8 (cb:Int)/\wi=wz)
      case first=>go_wp2;go_meet;exact⟨by first|rfl|exact int_eq hcv,rfl⟩
      case rest=>
      obtain⟨rfl,rfl⟩:=hcut;clear hcv;by_cases bW:aM p K (4+i)=0
      ·have e0:bit (aM p K (4+i))=0:=by rw[bW];rfl
       have e1:nz (aM p K (4+i))=[]:=by rw[bW];rfl
       have HE:=ak e0 e1;have yd:cb=0\/K=65536:=by
        have h:=GM.o0;rw[bW]at h;by_cases hK:K=65536
        ·exact .inr hK
        ·rw[if_neg hK]at h;exact .inl h.symm
       clear e0 e1 bW;by_cases hcb0:cb=0
       ·subst hcb0;clear yd;go_wp2;go_roundg (3-(i+1));case measure=>omega
        case rel=>
         refine⟨i+1,a,c,by omega,by go_num,?_,?_,?_⟩
         ·rw[De.o0,show 4+(i+1)=(4+i)+1 from rfl,Vd,HE.o0,Nat.zero_mul,jS]
         ·rw[show 4+(i+1)=(4+i)+1 from rfl,KF,HE.l1,nF]
         ·rw[show 4+(i+1)=(4+i)+1 from rfl,KF,HE.l1,nF];exact HA.out
       ·have b1:((cb:Int)==0)=false:=by simp;omega
        have b2:((cb:Int)!=0)=true:=by simp;omega
        have b3:decide ((K:Int)<65536)=false:=by simp;omega
        clear yd;go_wp2;go_roundg (3-(i+1));case measure=>omega
        case rel=>
         refine⟨i+1,a,c,by omega,by go_num,?_,?_,?_⟩
         ·rw[De.o0,show 4+(i+1)=(4+i)+1 from rfl,Vd,HE.o0,Nat.zero_mul,jS]
         ·rw[show 4+(i+1)=(4+i)+1 from rfl,KF,HE.l1,nF]
         ·rw[show 4+(i+1)=(4+i)+1 from rfl,KF,HE.l1,nF];exact HA.out
      ·have yd:aM p K (4+i)=cb/\K≠65536:=by
        have h:=GM.o0;by_cases hK:K=65536
        ·rw[if_pos hK]at h;exact absurd h bW
        ·rw[if_neg hK]at h;exact⟨h,hK⟩
       obtain⟨kv,hKK⟩:=yd;rw[kv]at bW;have b1:((cb:Int)==0)=false:=by simp;omega
       have b2:((cb:Int)!=0)=true:=by simp;omega
       have b3:decide ((K:Int)<65536)=true:=by simp;omega
       have e0:bit (aM p K (4+i))=1:=by rw[kv];unfold bit;rw[if_neg bW]
       have e1:nz (aM p K (4+i))=[UInt8.ofNat cb]:=by rw[kv];unfold nz;rw[if_neg bW]
       have f1:Fr [] wi (wi.alloc (.cells #[.int .u8 (cb:Int)] 5)):=(Fr.refl [] wi).alloc _;have hcs:Cs (wi.alloc (.cells #[.int .u8 (cb:Int)] 5)) (some ⟨wi.heap.size,0,none⟩) (([UInt8.ofNat cb]:List UInt8).map bv):=ny _ _ _ 5 (by rw[bx];unfold bv;rw[Dq fH]);have HE:=aF e0 e1 f1 hcs;have ha4:=Mz p K (4+i);clear e0 e1 f1 hcs kv hKK;go_wp2_with (refine AG aq rfl _ _ rfl a (bB p K (4+i)).length c ((bB p K (4+i)).map bv) rfl (HA.out.own.fr HE.l1.2.1 (by simp)) (by rw[cN]) (some ⟨wi.heap.size,0,none⟩) 1 1 (([UInt8.ofNat cb]:List UInt8).map bv) rfl (by decide) (by simp) HE.l1.2.2 (by rfl) (jQ _) (by omega) (by unfold maxLen;omega) ?_;intro a2 c2 w3 A3;have H3:=af A3;clear A3);go_roundg (3-(i+1));case measure=>omega
       case rel=>
        refine⟨i+1,a2,c2,by omega,by go_num,?_,?_,?_⟩
        ·rw[De.o0,show 4+(i+1)=(4+i)+1 from rfl,Vd,HE.o0,Nat.one_mul];have:=zat (gu p K (4+i)) i (by rw[<-De.o0];exact De.l1) SD;exact int_eq this
        ·rw[show 4+(i+1)=(4+i)+1 from rfl,KF,HE.l1.1,aK];rfl
        ·rw[show 4+(i+1)=(4+i)+1 from rfl,KF,HE.l1.1];exact HA.out.more HE.l1.2.1 H3.out
     ·obtain rfl:i=3:=by omega
      go_wp2;go_meet;exact⟨a,c,rfl,rfl,HA.out⟩
   case rest=>
   obtain⟨a,c,rfl,rfl,ha⟩:=hcut;have mW:=Mz p K 7;have hoq:=Mf p K 7;have zcC:2^7=128:=by decide
   have lF:=H.out.dF ha.fr;have bW:=cell_of lF.ae 0;have cL:=cell_of lF.ae 1;have oq:=aO lF.ae 0;simp only[bw,aV,bN]at bW cL;have HM:=af lF;have Zw:=af ha;clear lF ha HA4;obtain⟨ob,vO⟩:=ah (128+gu p K 7);rw[<-vO];have Xo:ob<256:=by omega
   have HO:=af vO;clear vO hoq;have f1:Fr [] wc (wc.alloc (.cells #[.int .u8 (ob:Int)] 5)):=(Fr.refl [] wc).alloc _;have hcs:Cs (wc.alloc (.cells #[.int .u8 (ob:Int)] 5)) (some ⟨wc.heap.size,0,none⟩) (([UInt8.ofNat ob]:List UInt8).map bv):=ny _ _ _ 5 (by rw[bx];unfold bv;rw[Dq Xo]);have OW:∀y∈ae a,y∉ae oa:=λy hy e=>by have h1:=Zw.out.new y hy;have h2:=H.out.o.lt y e;omega
   have F1:=au f1 hcs OW;obtain⟨L,hL⟩:=ah ((bB p K 7).length);rw[<-hL]at mW ⊢;have EU:=af hL;obtain⟨k1,_,k3⟩:=Zw.out.own.shape;rw[cN,<-hL]at k1;clear f1 hcs OW hL;go_wp2_with (first|(refine AG aq rfl _ _ rfl oa out.length oc (out.map bv) rfl (HM.out.o.fr F1.o0 (by simp)) (by rw[cN]) (some ⟨wc.heap.size,0,none⟩) 1 1 (([UInt8.ofNat ob]:List UInt8).map bv) rfl (by decide) (by simp) F1.o1 (by rfl) (jQ _) (by omega) (by unfold maxLen;omega) ?_;intro a2 c2 w2 A2;have H2:=af A2;clear A2)|(refine AG aq rfl _ _ rfl a2 (out.length+1) c2 (out.map bv++([UInt8.ofNat ob]:List UInt8).map bv) rfl H2.out.own (by simp) a L c ((bB p K 7).map bv) rfl k1 k3 (((Zw.out.own.fr F1.o0 (by simp)).fr H2.out.fr F1.l2).cs) (by rw[cN,EU.out]) (jQ _) (by omega) (by unfold maxLen;omega) ?_;intro a3 c3 w3 A3;have H3:=af (H2.out.two A3);clear A3;have tE:=H3.out.fr.ae (F1.o0.ae HM.out.ae (by simp)) HM.out.qo;have d0:=cell_of tE 0;have z9:=aO tE 0;simp only[bw,aV]at d0;clear tE));go_roundg k;case measure=>omega
   case rel=>
    have O0:C7 p K=UInt8.ofNat ob::bB p K 7:=by rw[HO.out];rfl
    have hlen:out.length+(C7 p K).length=out.length+1+L:=by rw[O0,cQ,EU.out];omega
    have m1:=HM.out.bE (news:=C7 p K) (n:=out.length+1+L) F1.o0 (by rw[O0];simpa using H3.out) hlen;refine⟨p+K,m-K,a3,c3,out++C7 p K,wa,wq,by go_num,int_eq (by omega),m1,by rw[gH];exact HK.l1,by omega,by omega,?_⟩;rw[aK,show (C7 p K).length=1+L from by omega];omega
  ·obtain rfl:m=0:=by omega
   rw[U7,nF]at hr;have HR:=af hr;clear hr;go_wp2;go_end0;rw[<-HR.out];exact⟨rfl,oa,oc,wa,wq,H.out⟩
def Qc (v:Value):Prop:=∃h:Int,v = .int .u64 h/\(Lit.int .u64 h).wf=true
theorem qz1 (x:Int):Qc (.int .u64 (IntKind.u64.wrap x)):=by
 refine⟨_,rfl,?_⟩;simp only[Lit.wf,lM,decide_eq_true_eq];have e:IntKind.u64.wrap x=x%18446744073709551616:=by simp[IntKind.wrap,IntKind.signed,IntKind.bits]
 rw[e];have h1:IntKind.u64.min=0:=rfl;have h2:IntKind.u64.max=18446744073709551615:=rfl;rw[h1,h2];omega
theorem qs6 (a:Option Addr) (cap:Nat) (bs:List UInt8) (w:World) (h:Rd w a cap bs) (ni:16<=bs.length) :
  Calls Tryz.prog 100 #[.slice a bs.length cap] w λe w'=>w=w'/\∃v,e = .returned v/\Qc v:=by
 have hle:=h.le;have dv:=h.max;unfold maxLen at dv;have H:=af (h.take 16);have hl:(bs.take 16).length=16:=by rw[eJ];omega
 have HL:=af hl;clear h hl;go_enter Tryz.func100,Tryz.ntmps100;go_upto_block 0 with (refine qhx aq 16 rfl _ _ rfl a bs.length cap _ rfl rfl rfl (by omega) ?_);go_wp2;go_loopg [3,5,9] 16 (λk s3 s5 s9 wr=>∃(i:Nat) (x:Int),i+k=16/\s9 = .int .i64 (i:Nat)/\s3 = .int .u64 x/\Qc (.int .u64 x)/\w=wr);case atStart=>exact⟨0,_,rfl,rfl,rfl,⟨_,rfl,by decide⟩,rfl⟩
 case round=>
  obtain⟨i,x,hi,rfl,rfl,hu,rfl⟩:=hrel;have HU:=af hu;clear hu;by_cases hi16:i<16
  ·obtain⟨g,o,rfl,c0⟩:=H.out.at (i:=i) (by rw[HL.out];exact hi16);go_wp2;go_roundg (16-(i+1));case measure=>omega
   case rel=>exact⟨i+1,_,by omega,by go_num,rfl,qz1 _,rfl⟩
  ·go_wp2;go_ret;exact⟨rfl,_,rfl,HU.out⟩
def Match (base text:List UInt8) (p i k:Nat):Prop:=p+k<=base.length/\i+k<=text.length/\(base.drop p).take k=(text.drop i).take k
theorem qu2 {base text:List UInt8} {p i:Nat} (hp:p<=base.length) (hi:i<=text.length):Match base text p i 0:=⟨hp,hi,by simp⟩
theorem qu3 {base text:List UInt8} {p i k:Nat} (h:Match base text p i k) (hp:p+k<base.length) (hi:i+k<text.length) (e:base[p+k]=text[i+k]):Match base text p i (k+1):=by refine⟨by omega,by omega,?_⟩;rw[zG,zG,h.2.2];congr 1;simp[hp,hi,e]
def xx (base text:List UInt8) (p i b:Nat):Prop:=b<=p/\b<=i/\p<=base.length/\i<=text.length/\(base.drop (p-b)).take b=(text.drop (i-b)).take b
theorem qzg {base text:List UInt8} {p i:Nat} (hp:p<=base.length) (hi:i<=text.length):xx base text p i 0:=⟨dZ _,dZ _,hp,hi,by simp⟩
theorem qzh {base text:List UInt8} {p i b:Nat} (h:xx base text p i b) (hp:b<p) (hi:b<i) (h1:p-b-1<base.length) (h2:i-b-1<text.length) (e:base[p-b-1]=text[i-b-1]):xx base text p i (b+1):=by obtain⟨_,_,h3,h4,h5⟩:=h;refine⟨hp,hi,h3,h4,?_⟩;rw[show p-(b+1)=p-b-1 from by omega,show i-(b+1)=i-b-1 from by omega,AF h1,AF h2,qY,qY,e,show p-b-1+1=p-b from by omega,show i-b-1+1=i-b from by omega,h5]
def Found (base text:List UInt8) (i wait p b n:Nat):Prop:=(n=0/\b=0/\p=0)\/(16<=n/\Match base text p i n/\b<=wait/\xx base text p i b)
theorem zbq (a b pa:Option Addr) (cap iY pc:Nat) (base text:List UInt8) (ps:List Nat) (i wait:Nat) (w:World) (hb:Rd w a cap base) (ht:Rd w b iY text) (NV:Cs w pa (ps.map λp=>.int .i64 (p:Nat))) (hle:ps.length<=pc)
  (hp:∀p∈ps,p<=base.length) (hi:i<=text.length) (hw:wait<=i) (sD:base.length<=2199023255552) (aY:text.length<=2199023255552) (fN:ps.length<=2199023255552) :
  Calls Tryz.prog 101 #[.slice a base.length cap,.slice b text.length iY,.slice pa ps.length pc,.int .i64 (i:Nat),.int .i64 (wait:Nat)] w λe w'=>∃p k n:Nat,e = .returned (.tuple #[.int .i64 (p:Nat),.int .i64 (k:Nat),.int .i64 (n:Nat)])/\Found base text i wait p k n/\Fr [] w w':=by
 obtain⟨BL,j1⟩:=ah base.length;obtain⟨TL,BH⟩:=ah text.length;obtain⟨PL,SY⟩:=ah ps.length;have H:=aF hb ht NV hp;have yz:=au j1 BH SY;rw[<-j1,<-BH,<-SY];rw[<-j1]at sD;rw[<-BH]at aY hi;rw[<-SY]at fN hle;clear hb ht NV hp j1 BH SY;go_enter Tryz.func101,Tryz.ntmps101;go_wp2;go_loopg [10,11,12,14,15,16,19] PL (λk s10 s11 s12 s14 s15 s16 s19 wr=>∃j p b n:Nat,j+k=PL/\s19 = .int .i64 (j:Nat)/\s10 = .int .i64 (p:Nat)/\s11 = .int .i64 (b:Nat)/\s12 = .int .i64 (n:Nat)/\Found base text i wait p b n/\n<=TL/\b<=wait/\Fr [] w wr);case atStart=>exact⟨0,0,0,0,by omega,rfl,rfl,rfl,rfl,.inl ⟨rfl,rfl,rfl⟩,dZ _,dZ _,Fr.refl _ _⟩
 case round=>
  obtain⟨j,p,bk,n,hj,rfl,rfl,rfl,rfl,hf,hn,ye,dU⟩:=hrel;have F:=ak hf dU;clear hf dU;obtain⟨wo,rfl⟩:∃wo:World,wo=wr:=⟨_,rfl⟩;by_cases hjp:j<PL
  ·have kT:j<ps.length:=by rw[<-yz.l2];exact hjp
   obtain⟨g,o,rfl,hc⟩:=H.out.2.2.1.at (by rw[cN];omega);have c0:=F.l1.cell (hc j (.int .i64 (ps[j]:Nat)) (by simp[kT])) (by simp);have bT:=H.out.2.2.2 ps[j] (vJ kT);rw[<-yz.o0]at bT;obtain⟨v,hv⟩:=ah (ps[j]);rw[<-hv]at c0 bT;clear hc hv kT;go_upto_block 2 with fail;clear c0;go_cut [15] from 23 to 54 (λs15 wz=>∃k:Nat,s15 = .int .i64 (k:Nat)/\Match base text v i k/\Fr [] wo wz)
   case first=>
    go_wp2;go_loopg [15] (BL+1) (λkk s15 w2=>∃k:Nat,k+kk=BL+1/\s15 = .int .i64 (k:Nat)/\Match base text v i k/\Fr [] wo w2);case atStart=>exact⟨0,by omega,rfl,qu2 (by rw[<-yz.o0];exact bT) (by rw[<-yz.o1];exact hi),Fr.refl _ _⟩
    case round=>
     obtain⟨k,hk,rfl,hm,dU⟩:=hrel;have jb:=hm.1;have hU:=hm.2.1;rw[<-yz.o0]at jb;rw[<-yz.o1]at hU;have M:=ak hm dU;have Qt:=af hk;clear hm dU hk;obtain⟨m1,e1⟩:=ah (v+k);obtain⟨m2,e2⟩:=ah (i+k);have w1:IntKind.i64.wrap ((v:Int)+(k:Int))=(m1:Int):=by rw[oh];omega
     have w2:IntKind.i64.wrap ((i:Int)+(k:Int))=(m2:Int):=by rw[oh];omega
     have HE:=ak e1 e2;have l1:m1<=BL:=by omega
     have l2:m2<=TL:=by omega
     have XF:k<=BL:=by omega
     clear e1 e2 jb hU;by_cases c1:m1<BL
     ·have d1:decide (m1<BL)=true:=by simpa using c1
      by_cases c2:m2<TL
      ·have d2:decide (m2<TL)=true:=by simpa using c2
       have ku:m1<base.length:=by rw[<-yz.o0];exact c1
       have ph:m2<text.length:=by rw[<-yz.o1];exact c2
       obtain⟨g1,o1,ra,X1⟩:=H.out.1.at ku;obtain⟨g2,o2,rb,X2⟩:=H.out.2.1.at ph;have x1:=(F.l1.trans M.l1).cell X1 (by simp);have x2:=(F.l1.trans M.l1).cell X2 (by simp);clear X1 X2;obtain⟨y1,sw⟩:∃y,y=base[m1]:=⟨_,rfl⟩;obtain⟨y2,kt⟩:∃y,y=text[m2]:=⟨_,rfl⟩;rw[<-sw]at x1;rw[<-kt]at x2;subst ra rb;by_cases ce:y1=y2
       ·have HY:=af (show ∃(h1:m1<base.length) (h2:m2<text.length),base[m1]=text[m2] from ⟨ku,ph,by rw[<-sw,<-kt];exact ce⟩);rw[<-ce]at x2;generalize y1.toNat=n1 at *;clear sw kt ce ku ph;go_upto_region 5 with fail;go_quiet (fail);clear x1 x2 w1 w2;go_wp2;go_roundg (BL+1-(k+1));case measure=>have:=Qt.out;omega
        case rel=>have e:=HE.out;obtain⟨y1,y2,hy⟩:=HY.out;refine⟨k+1,by have:=Qt.out;omega,by go_num,qu3 M.o0 (by rw[<-e.1];exact y1) (by rw[<-e.2];exact y2) ?_,M.l1.trans (Fr.drewN [] _ _)⟩;simp only[e.1,e.2]at hy;exact hy
       ·have bR:y1.toNat≠y2.toNat:=λh=>ce (Kh.1 h)
        have d3:(((y1.toNat:Nat):Int)==((y2.toNat:Nat):Int))=false:=by simp;omega
        generalize y1.toNat=n1 at *;generalize y2.toNat=n2 at *;clear sw kt ce ku ph bR;go_upto_region 5 with fail;go_quiet (fail);clear x1 x2 w1 w2;go_wp2;go_meet;exact⟨k,rfl,M.o0,M.l1.trans (Fr.drewN [] _ _)⟩
      ·have d2:decide (m2<TL)=false:=by simpa using c2
       go_upto_region 5 with fail;go_quiet (fail);clear w1 w2;go_wp2;go_meet;exact⟨k,rfl,M.o0,M.l1.trans (Fr.drewN [] _ _)⟩
     ·have d1:decide (m1<BL)=false:=by simpa using c1
      go_upto_region 5 with fail;go_quiet (fail);clear w1 w2;go_wp2;go_meet;exact⟨k,rfl,M.o0,M.l1.trans (Fr.drewN [] _ _)⟩
   case rest=>
   obtain⟨k,rfl,lF,dU⟩:=hcut;have x5:=lF.1;have rq:=lF.2.1;rw[<-yz.o0]at x5;rw[<-yz.o1]at rq;have MK:=ak lF (F.l1.trans dU);clear lF dU;obtain⟨w4,rfl⟩:∃w4:World,w4=wc:=⟨_,rfl⟩;go_upto_block 4 with fail;go_cut [16] from 54 to 81 (λs16 wz=>∃b2:Nat,s16 = .int .i64 (b2:Nat)/\b2<=wait/\xx base text v i b2/\Fr [] w4 wz)
   case first=>
    go_wp2;go_loopg [16] (wait+1) (λkk s16 w2=>∃b2:Nat,b2+kk=wait+1/\s16 = .int .i64 (b2:Nat)/\b2<=wait/\xx base text v i b2/\Fr [] w4 w2);case atStart=>exact⟨0,by omega,rfl,dZ _,qzg (by rw[<-yz.o0];exact bT) (by rw[<-yz.o1];exact hi),Fr.refl _ _⟩
    case round=>
     obtain⟨b2,hk,rfl,Jj,hm,dU⟩:=hrel;have M:=ak hm dU;have Qt:=af hk;clear hm dU hk;by_cases c1:b2<wait
     ·have d1:decide (b2<wait)=true:=by simpa using c1
      by_cases c2:b2<v
      ·have d2:decide (b2<v)=true:=by simpa using c2
       obtain⟨m0,e0⟩:=ah (v-b2);obtain⟨m1,e1⟩:=ah (v-b2-1);obtain⟨m3,e3⟩:=ah (i-b2);obtain⟨m2,e2⟩:=ah (i-b2-1);have u0:IntKind.i64.wrap ((v:Int)-(b2:Int))=(m0:Int):=by rw[oh];omega
       have u1:IntKind.i64.wrap ((m0:Int)-1)=(m1:Int):=by rw[oh];omega
       have u3:IntKind.i64.wrap ((i:Int)-(b2:Int))=(m3:Int):=by rw[oh];omega
       have u2:IntKind.i64.wrap ((m3:Int)-1)=(m2:Int):=by rw[oh];omega
       have l1:m1<BL:=by omega
       have l2:m2<TL:=by omega
       have HE:=ak e1 e2;have ku:m1<base.length:=by rw[<-yz.o0];exact l1
       have ph:m2<text.length:=by rw[<-yz.o1];exact l2
       obtain⟨g1,o1,ra,X1⟩:=H.out.1.at ku;obtain⟨g2,o2,rb,X2⟩:=H.out.2.1.at ph;have x1:=(MK.l1.trans M.l1).cell X1 (by simp);have x2:=(MK.l1.trans M.l1).cell X2 (by simp);clear X1 X2 e0 e1 e2 e3;obtain⟨y1,sw⟩:∃y,y=base[m1]:=⟨_,rfl⟩;obtain⟨y2,kt⟩:∃y,y=text[m2]:=⟨_,rfl⟩;rw[<-sw]at x1;rw[<-kt]at x2;subst ra rb;by_cases ce:y1=y2
       ·have HY:=af (show ∃(h1:m1<base.length) (h2:m2<text.length),base[m1]=text[m2] from ⟨ku,ph,by rw[<-sw,<-kt];exact ce⟩);rw[<-ce]at x2;generalize y1.toNat=n1 at *;clear sw kt ce ku ph;go_upto_region 8 with fail;go_quiet (fail);clear x1 x2 u0 u1 u2 u3;go_wp2;go_roundg (wait+1-(b2+1));case measure=>have:=Qt.out;omega
        case rel=>have e:=HE.out;obtain⟨y1,y2,hy⟩:=HY.out;refine⟨b2+1,by have:=Qt.out;omega,by go_num,by omega,qzh M.o0 c2 (by omega) (by rw[<-e.1];exact y1) (by rw[<-e.2];exact y2) ?_,M.l1.trans (Fr.drewN [] _ _)⟩;simp only[e.1,e.2]at hy;exact hy
       ·have bR:y1.toNat≠y2.toNat:=λh=>ce (Kh.1 h)
        have d3:(((y1.toNat:Nat):Int)==((y2.toNat:Nat):Int))=false:=by simp;omega
        generalize y1.toNat=n1 at *;generalize y2.toNat=n2 at *;clear sw kt ce ku ph bR;go_upto_region 8 with fail;go_quiet (fail);clear x1 x2 u0 u1 u2 u3;go_wp2;go_meet;exact⟨b2,rfl,Jj,M.o0,M.l1.trans (Fr.drewN [] _ _)⟩
      ·have d2:decide (b2<v)=false:=by simpa using c2
       go_upto_region 8 with fail;go_quiet (fail);go_wp2;go_meet;exact⟨b2,rfl,Jj,M.o0,M.l1.trans (Fr.drewN [] _ _)⟩
     ·have d1:decide (b2<wait)=false:=by simpa using c1
      go_upto_region 8 with fail;go_quiet (fail);go_wp2;go_meet;exact⟨b2,rfl,Jj,M.o0,M.l1.trans (Fr.drewN [] _ _)⟩
   case rest=>
   obtain⟨b2,rfl,Jj,u6,dU⟩:=hcut;have MB:=ak u6 (MK.l1.trans dU);clear u6 dU;by_cases c1:16<=k
   ·have d1:decide ((16:Int)<=k)=true:=by simp;omega
    by_cases c2:bk+n<k+b2
    ·have d2:decide ((bk:Int)+n<(k:Int)+b2)=true:=by simp;omega
     go_wp2;go_roundg (PL-(j+1));case measure=>omega
     case rel=>exact⟨j+1,v,b2,k,by omega,by go_num,rfl,rfl,rfl,.inr ⟨c1,MK.o0,Jj,MB.o0⟩,by omega,Jj,MB.l1⟩
    ·have d2:decide ((bk:Int)+n<(k:Int)+b2)=false:=by simp;omega
     go_wp2;go_roundg (PL-(j+1));case measure=>omega
     case rel=>exact⟨j+1,p,bk,n,by omega,by go_num,rfl,rfl,rfl,F.o0,hn,ye,MB.l1⟩
   ·have d1:decide ((16:Int)<=k)=false:=by simp;omega
    go_wp2;go_roundg (PL-(j+1));case measure=>omega
    case rel=>exact⟨j+1,p,bk,n,by omega,by go_num,rfl,rfl,rfl,F.o0,hn,ye,MB.l1⟩
  ·obtain rfl:j=PL:=by omega
   go_wp2;go_ret3;exact⟨p,bk,n,rfl,F.out⟩
def GI (base text:List UInt8) (p:Nat):Prop:=p+text.length<=base.length/\(base.drop p).take text.length=text
theorem qxf {s t:List UInt8} {i:Nat} (hi:i<=s.length):Lib.occAt s t i=true↔GI s t i:=by
 unfold Lib.occAt GI;rw[List.isPrefixOf_iff_prefix,List.prefix_iff_eq_take];constructor
 ·intro h;have:=congrArg List.length h;rw[eJ,eQ]at this;exact⟨by omega,h.symm⟩
 ·exact λh=>h.2.symm
def pA (base text:List UInt8) (e:Ending):Prop:=(∃p:Nat,e = .returned (.int .i64 (p:Nat))/\GI base text p)\/(e = .returned (.int .i64 (-1))/\∀p,¬GI base text p)
theorem qt3 (base text:List UInt8):pA base text (.returned (.int .i64 (Lib.index base text))):=by
 rcases Lib.index_spec base text with⟨h,h2⟩|⟨i,h,hi,ho,_⟩
 ·refine .inr ⟨by rw[h],λp hp=>?_⟩;have hl:p<=base.length:=by have:=hp.1;omega
  have:=(qxf hl).2 hp;rw[h2 p hl]at this;cases this
 ·exact .inl ⟨i,by rw[h],(qxf hi).1 ho⟩
theorem V0 (bs:List UInt8):Lib.bytesOf (bs.map λb=>(b.toNat:Int))=bs:=by
 unfold Lib.bytesOf;rw[xC];conv=>rhs;rw[<-List.map_id bs]
 exact CD λb _=>by simp
theorem qx2 (a b:Option Addr) (cap iY:Nat) (base text:List UInt8) (m:Int) (w:World) (hb:Rd w a cap base) (ht:Rd w b iY text) (hlen:base.length<4294967281) (hm:w.cell? ⟨0,0,none⟩=some (.int .i64 m)) :
  Calls Tryz.prog 98 #[.slice a base.length cap,.slice b text.length iY] w λe w'=>pA base text e/\Fr [] w w':=by
 have hmx:=ht.max;have hle:=ht.le;unfold maxLen at hmx;by_cases h0:text=[]
 ·subst h0;refine (Tryz.bytes_Index_none a b base.length cap iY w).mono ?_;rintro e w' ⟨rfl,rfl⟩;exact⟨.inl ⟨0,rfl,by simp[GI]⟩,Fr.refl _ _⟩
 ·have hl:0<text.length:=Kv.2 h0;obtain⟨g,o,rfl,c0⟩:=ht.at (i:=0) hl;by_cases h1:base=[]
  ·subst h1;have hz:(Value.slice a 0 cap) = .slice a 0 cap:=rfl;rcases a with _|⟨ag,ao,fz⟩
   ·have hc:=hb.nil rfl;subst hc;refine (Tryz.bytes_Index_nil (some ⟨g,o,none⟩) text.length iY w (by omega) (λ_=>⟨g,o,_,rfl,c0⟩)).mono ?_;rintro e w' ⟨rfl,rfl⟩;refine⟨.inr ⟨by rw[if_neg (by omega)],λp hp=>?_⟩,Fr.refl _ _⟩;have:p+text.length<=0:=hp.1;omega
   ·refine (Tryz.bytes_Index_at ⟨ag,ao,fz⟩ ⟨g,o,none⟩ 0 cap text.length iY [] (text.map λb=>(b.toNat:Int)) m w rfl (by simp) (by simp) ?_ (by simp) ?_ (dZ _) (by decide) (by omega) hm).mono ?_
    ·intro y hy;obtain⟨u,_,rfl⟩:=jR.1 hy;have:=u.toNat_lt;omega
    ·intro i hi;obtain⟨g',o',e,c⟩:=ht.at hi;cases e;simpa[Addr.add_lit,List.getD,hi] using c
    ·rintro e w' ⟨rfl,q,rfl⟩;rw[V0];exact⟨qt3 [] text,Fr.drewN _ _ _⟩
  ·have ku:0<base.length:=Kv.2 h1;obtain⟨g1,o1,rfl,_⟩:=hb.at (i:=0) ku;refine (Tryz.bytes_Index_at ⟨g1,o1,none⟩ ⟨g,o,none⟩ base.length cap text.length iY (base.map λb=>(b.toNat:Int)) (text.map λb=>(b.toNat:Int)) m w (by simp) (by simp) ?_ ?_ ?_ ?_ hb.le hlen (by omega) hm).mono ?_
   ·intro y hy;obtain⟨u,_,rfl⟩:=jR.1 hy;have:=u.toNat_lt;omega
   ·intro y hy;obtain⟨u,_,rfl⟩:=jR.1 hy;have:=u.toNat_lt;omega
   ·intro i hi;obtain⟨g',o',e,c⟩:=hb.at hi;cases e;simpa[Addr.add_lit,List.getD,hi] using c
   ·intro i hi;obtain⟨g',o',e,c⟩:=ht.at hi;cases e;simpa[Addr.add_lit,List.getD,hi] using c
   ·rintro e w' ⟨rfl,q,rfl⟩;rw[V0,V0];exact⟨qt3 base text,Fr.drewN _ _ _⟩
structure Kept (lo:Nat) (w w':World):Prop where
 size:w.heap.size<=w'.heap.size
 block:∀i,lo<=i->i<w.heap.size->w'.heap[i]?=w.heap[i]?
theorem Kept.refl (lo:Nat) (w:World):Kept lo w w:=⟨aw _,λ_ _ _=>rfl⟩
theorem Kept.fr {S:List Nat} {lo:Nat} {w w1 w2:World} (h:Kept lo w w1) (f:Fr S w1 w2) (hS:∀x∈S,x<lo\/w.heap.size<=x):Kept lo w w2:=by refine⟨bS h.size f.size,λi hi hl=>?_⟩;rw[<-h.block i hi hl];have h1:=h.size;exact f.block i (by omega) λhm=>by rcases hS i hm with k|k<;>omega
section
variable {H : Type} {P : Program} {k e : TypeId} {q : IntKind} {w w' : World} {lo base b n : Nat} {D : DataW H}
theorem qqt {v:Value} {zs:List Int} (h:w.ownsInts base e q v zs) (hk:Kept lo w w') (rJ:lo<=base):w'.ownsInts base e q v zs:=by
 refine⟨⟨h.1.1,?_⟩,h.2⟩;rcases h.1.2 with h1|⟨g,cap,cur,hv,hg,hb,r⟩
 ·exact .inl h1
 ·exact .inr ⟨g,cap,cur,hv,hg,(hk.block g (by omega) (lt_of_block hb)).trans hb,r⟩
theorem qso (h:w.ownsGroups P k base e q b n D) (hk:Kept lo w w') (rJ:lo<=b):w'.ownsGroups P k base e q b n D:=by
 obtain⟨es,clock,hb,F,hs,rfl,kU,hlen,bI⟩:=h;have az:∀x∈es.toList,∀z,rowElem (H:=H) w base e q x.val=some z->rowElem w' base e q x.val=some z:=λx hx z hz=>by obtain⟨zs,ho,rfl⟩:=rowElem_inv hz;exact rowElem_mk (qqt ho hk (by omega))
 obtain⟨F1,qj,_⟩:=F.stay az;refine⟨es,clock,(hk.block b rJ (lt_of_block hb)).trans hb,F1,hs,by rw[qj],kU,λx hx zs ho=>?_,bI⟩;obtain⟨y,hy⟩:=F.reads x hx;obtain⟨z,hz,_⟩:=WideElems.rd_val hy;obtain⟨zs0,ho0,_⟩:=rowElem_inv hz;rw[ho.unique (qqt ho0 hk (by omega))];exact hlen x hx zs0 ho0
end
def vE (L:Nat) (D:DataW Unit):Prop:=Maps.IsMap D/\∀kl zs,WideAt.IsKeyLit kl->D.atKey kl .nil = .slice (_root_.Go.ChangeShapes.lits .i64 zs) []->∀z∈zs,0<=z/\z<=(L:Int)
theorem za6 {q:IntKind} {xs ys:List Int} (h:(.slice (_root_.Go.ChangeShapes.lits q xs:List (DataW Unit)) []:DataW Unit) = .slice (_root_.Go.ChangeShapes.lits q ys) []):xs=ys:=by simp only[DataW.slice.injEq,and_true]at h;unfold _root_.Go.ChangeShapes.lits at h;exact (List.map_inj_right (λa b oR=>by cases oR;rfl)).1 h
theorem qyf (L:Nat):vE L (.map []):=⟨Maps.isMap_empty,λkl zs _ h=>by cases h⟩
structure Gm (L:Nat) (w:World) (bm n:Nat) (D:DataW Unit):Prop where
 own:w.ownsGroups Tryz.prog 104 (bm+1) 3 .i64 bm n D
 good:vE L D
theorem zea (L:Nat) (w:World):Gm L (w.alloc (.map #[] 0)) w.heap.size 0 (.map []):=⟨World.ownsGroups_made w _ _ _ _,qyf L⟩
theorem Gm.kept {L lo bm n:Nat} {w w':World} {D:DataW Unit} (h:Gm L w bm n D) (k:Kept lo w w') (rJ:lo<=bm):Gm L w' bm n D:=⟨qso h.own k rJ,h.good⟩
theorem Mw:(Tryz.prog.info? 3).map (λi=>(i.zero,i.size,i.bytes))=some (some (.int .i64 0),1,8):=by kernel_rfl
theorem qpt (w:World):(zeroValue 28).run Tryz.prog w = .ok (.slice none 0 0) w:=by kernel_rfl
theorem qv5:Tryz.prog.underlying 104=some (.int .u64):=by kernel_rfl
theorem qzz:Tryz.prog.underlying 28=some (.slice 3):=by kernel_rfl
theorem Fb:Tryz.prog.underlying 171=some (.map 104 28):=by kernel_rfl
theorem qxu {x:Int} (h:(Lit.int .u64 x).wf=true):keyOf Tryz.prog 104 (.int .u64 x)=some (.int .u64 x):=Maps.keyOf_int_mk qv5 h
theorem qqs:Maps.Keyed Tryz.prog 104:=Maps.int_keyed qv5
theorem vE.put {L:Nat} {D:DataW Unit} (h:vE L D) {x:Int} {v v':Value} {zs:List Int} {i:Nat} (eD:D.atKey (.int .u64 x) .nil=rowDatum .i64 v zs) (hd:(rowDatum (H:=Unit) .i64 v zs = .nil/\zs=[])\/rowDatum (H:=Unit) .i64 v zs = .slice (_root_.Go.ChangeShapes.lits .i64 zs) [])
  (hi:i<=L):vE L (D.put (.int .u64 x) (rowDatum .i64 v' (zs++[(i:Int)]))):=by
 refine⟨h.1.put _ _,λkl ys hk e z hz=>?_⟩;by_cases qs:kl = .int .u64 x
 ·subst qs;rw[Maps.atKey_put_same h.1 hk]at e;have ey:ys=zs++[(i:Int)]:=by
   unfold rowDatum at e;split at e
   ·cases e
   ·exact (za6 e).symm
  rw[ey]at hz;rcases jy.1 hz with hz|hz
  ·rcases hd with⟨_,h0⟩|h1
   ·rw[h0]at hz;cases hz
   ·exact h.2 _ zs hk (eD.trans h1) z hz
  ·simp only[iQ]at hz;rw[hz];omega
 ·rw[Maps.atKey_put_other qs]at e;exact h.2 kl ys hk e z hz
theorem quh {L bm n:Nat} {w:World} {D:DataW Unit} (h:Gm L w bm n D) (hn:n<maxLen) {o:Oper} {a:Act} {K:Act->World->Prop} {Q:Exit->Act->World->Prop} (m x:Operand) (tW:o.op=Op.lookup 171 m x false)
  (hm:a.eval m = .map (some bm)) (k:Int) (hx:a.eval x = .int .u64 k) (hk:(Lit.int .u64 k).wf=true)
  (hK:∀(pa:Option Addr) (ps:List Nat) (pc:Nat),Cs w pa (ps.map λp=>.int .i64 (p:Nat))->ps.length<=pc->(∀p∈ps,p<=L)->ps.length<=n->K (a.put o.dst (.slice pa ps.length pc)) w):o.wp Tryz.prog a w K Q:=by
 obtain⟨v,zs,wK,eD,dE,uJ,_⟩:=h.own.at qqs Fb (qpt w) hn (qxu hk);obtain⟨va,vc,rfl,v1,v2,v3⟩:=Hv dE.1;have hcs:=Cx dE.1;have hg:∀z∈zs,0<=z/\z<=(L:Int):=by
  rcases dE.datum (H:=Unit) with⟨_,h0⟩|h1
  ·intro z hz;rw[h0]at hz;cases hz
  ·exact h.good.2 _ zs (by first|trivial|exact hk|simp[WideAt.IsKeyLit]) (eD.trans h1)
 have hz:zs.map (Value.int .i64)=(zs.map Int.toNat).map λp=>Value.int .i64 (p:Nat):=by
  rw[xC];refine CD λz hz=>?_
  have:=(hg z hz).1;show Value.int .i64 z=Value.int .i64 ((z.toNat:Nat):Int);rw[Ht this]
 rw[hz]at hcs;unfold Oper.wp;simp[execOp,tW,hm,hx,wK,Result.andThen];have:=hK va (zs.map Int.toNat) vc hcs (by simpa using v1) (λp hp=>by
  obtain⟨z,hz,rfl⟩:=jR.1 hp
  have:=hg z hz
  omega) (by simpa using uJ)
 rw[cN]at this;exact this
end delta
namespace delta
open Go Go.RowKit lib bm
def Made (base text d:List UInt8):Prop:=
 ∃ins,d=gJ base.length++(gJ text.length++ins)/\oV base ins text/\ins.length<=text.length+text.length/127+8/\((∃p,GI base text p)->ins.length<=8*((text.length+65535)/65536))
def St (base text hd out wait:List UInt8) (i:Nat):Prop:=
 ∃ins acc,out=hd++ins/\oV base ins acc/\acc++wait=text.take i/\127*ins.length<=128*acc.length/\i<=text.length
theorem qz9 (base text hd:List UInt8):St base text hd hd [] 0:=⟨[],[],by simp,Mp base,by simp,by simp,dZ _⟩
theorem St.len {base text hd out wait:List UInt8} {i:Nat} (h:St base text hd out wait i):out.length<=hd.length+2*text.length/\wait.length<=i/\i<=text.length:=by obtain⟨ins,acc,rfl,_,he,hl,hi⟩:=h;have:=congrArg List.length he;rw[aK,eJ]at this;rw[aK];omega
theorem St.wait {base text hd out wait:List UInt8} {i:Nat} (h:St base text hd out wait i) (hi:i<text.length):St base text hd out (wait++[text[i]]) (i+1):=by obtain⟨ins,acc,rfl,hr,he,hl,_⟩:=h;refine⟨ins,acc,rfl,hr,?_,hl,hi⟩;rw[<-gH,he,DJ hi]
theorem St.copy {base text hd out wait:List UInt8} {i p b n:Nat} (h:St base text hd out wait i) (hb:base.length<4294967296) (ni:16<=n) (hm:Match base text p i n) (Jj:b<=wait.length) (hk:xx base text p i b) :
  St base text hd (out++lits (wait.take (wait.length-b)).length (wait.take (wait.length-b))++jK (b+n) (p-b) (b+n)) [] (i+n):=by
 obtain⟨ins,acc,rfl,hr,he,hl,hi⟩:=h;obtain⟨m1,m2,m3⟩:=hm;obtain⟨k1,k2,k3,k4,k5⟩:=hk;obtain⟨W,hW⟩:=ah (wait.take (wait.length-b));have hWl:W.length=wait.length-b:=by rw[hW,eJ];omega
 rw[<-hW];have wM:p-b+(b+n)<=base.length:=by omega
 have hc:=Vk base hb (b+n) (p-b) (b+n) (aw _) wM;have fH:=UF (b+n) (p-b) (b+n);have F9:=Vl base W.length W (aw _);have oz:=Rg W.length W;have hlen:=congrArg List.length he;rw[aK,eJ]at hlen;have ic:((base.drop (p-b)).take (b+n)).length=b+n:=by rw[eJ,eQ];omega
 refine⟨ins++(lits W.length W++jK (b+n) (p-b) (b+n)),acc++(W++(base.drop (p-b)).take (b+n)),by simp only[gH],hr.append (F9.append hc),?_,?_,m2⟩
 ·rw[nF,<-gH];have e1:acc++W=text.take (i-b):=by
   have:(acc++wait).take (i-b)=acc++W:=by rw[List.take_append,hW,oI (by omega)];congr 2;omega
   rw[<-this,he,List.take_take];congr 1;omega
  have e2:(base.drop (p-b)).take (b+n)=(text.drop (i-b)).take (b+n):=by rw[List.take_add,List.take_add,k5,J8,J8,Nat.sub_add_cancel k1,Nat.sub_add_cancel k2,m3]
  rw[e1,e2,<-List.take_add];congr 1;omega
 ·simp only[aK,ic];omega
theorem St.done {base text hd out wait:List UInt8} (h:St base text hd out wait text.length):∃ins,out++lits wait.length wait=hd++ins/\oV base ins text/\ins.length<=text.length+text.length/127+8:=by obtain⟨ins,acc,rfl,hr,he,hl,_⟩:=h;rw[G9]at he;have oz:=Rg wait.length wait;have hlen:=congrArg List.length he;rw[aK]at hlen;refine⟨ins++lits wait.length wait,by rw[gH],by rw[<-he];exact hr.append (Vl base wait.length wait (aw _)),?_⟩;rw[aK];omega
theorem qu5 {base text:List UInt8} {p:Nat} (hb:base.length<4294967296) (h:GI base text p):Made base text (gJ base.length++gJ text.length++lits ([]:List UInt8).length []++jK text.length p text.length):=by obtain⟨h1,h2⟩:=h;have hc:=Vk base hb text.length p text.length (aw _) h1;have fH:=UF text.length p text.length;rw[h2]at hc;refine⟨jK text.length p text.length,?_,hc,by omega,λ_=>fH⟩;simp only[lK,mN,nF,gH]
theorem qxm {base text out wait:List UInt8} (mT:∀p,¬GI base text p) (h:St base text (gJ base.length++gJ text.length) out wait text.length):Made base text (out++lits wait.length wait):=by obtain⟨ins,he,hr,hl⟩:=h.done;exact⟨ins,by rw[he,gH],hr,hl,λ⟨p,hp⟩=>absurd hp (mT p)⟩
theorem qjr {P:Program} {t e:TypeId} {z:Value} {size bytes:Nat} (T:ax P t e z size bytes) (n:Nat) (a:Option Addr) (cap:Nat) (hc:n<=cap) (w:World) :
  (Instr.slice t (.slice a n cap) Option.none (some (.int .i64 n)) (some (.int .i64 n))).run P w = .ok (.slice a n n) w:=by
 obtain⟨hu,⟨i,iK,_,hs,_⟩,_,_⟩:=T;have c1:(0:Int)<=(n:Int)/\(n:Int)<=(cap:Int):=by omega
 have JQ:∀x:Addr,x.add 0=x:=λx=>rfl
 cases a<;>simp[run_underlying hu,Instr.slice,Instr.sliceBounds,Instr.sliceBound,asIntOf,c1,hc,sizeOf,typeInfo,iK,hs,Result.andThen,JQ]
theorem Mk.made {S0:List Nat} {w w0 wr:World} {q:Nat} {oa wa:Option Addr} {oc wc:Nat} {out wait:List UInt8} (h:Mk S0 w0 wr q oa oc out wa wc wait) (f:Fr [] w w0) (hS:∀y∈S0,w.heap.size<=y) (n:Nat) (hl:n=out.length):aD w out (.returned (.slice oa n n)) wr:=by
 obtain⟨o1,o2,o3⟩:=h.o.shape;subst hl;rw[cN]at o1;refine⟨oa,rfl,⟨h.o.cs,aw _,bS o1 o2,λe=>by have:=o3 e;omega⟩,λx hx=>⟨?_,h.o.lt x hx⟩,f.step h.fr λy hy=>.inr (hS y hy)⟩;rcases h.newO x hx with k|k
 ·exact hS x k
 ·exact bS f.size k
theorem Mk.Ab {S0:List Nat} {w wr w1 w2:World} {q:Nat} {oa wa a2:Option Addr} {oc wc c2 n:Nat} {out wait news:List UInt8} (h:Mk S0 w wr q oa oc out wa wc wait) (f:Fr [] wr w1)
  (A:eK w1 w2 5 wa a2 c2 (wait.map bv++news.map bv)) (hn:wait.length+news.length=n):Mk S0 w (w2.setCell ⟨q,1,none⟩ (.slice a2 n c2)) q oa oc out a2 c2 (wait++news):=by
 have h1:=h.dF f;have hq:q<w1.heap.size:=lt_of_block h1.ae;have ho:=h1.o.lt;have ua:∀y∈lib.ae a2,y≠q/\y∉lib.ae oa/\(y∈S0\/w.heap.size<=y):=λy hy=>by
  rcases A.at_ y hy with k|k
  ·exact⟨λe=>h.qx (by rw[<-e];exact k),λe=>h.apart y e k,h.newX y k⟩
  ·have:=h1.fr.size;exact⟨by omega,λe=>by have:=ho y e;omega,by omega⟩
 have fs:Fr [q] w2 (w2.setCell ⟨q,1,none⟩ (.slice a2 n c2)):=(Fr.refl [q] w2).setCell (by simp) _;have hb:=A.fr.ae h1.ae h.qx;refine⟨?_,?_,?_,h.qo,λe=>(ua q e).1 rfl,λy hy e=>(ua y e).2.1 hy,((h1.fr.step A.fr λy hy=>h.newX y hy).step fs λy hy=>by simp at hy;rw[hy];exact h.new),h.new,h.newO,λy hy=>(ua y hy).2.2⟩
 ·rw[aX hb,aK,hn];rfl
 ·exact (h1.o.fr A.fr λy hy e=>h.apart y hy e).fr fs λy hy=>by simp;intro e;exact h.qo (by rw[<-e];exact hy)
 ·rw[gB];exact A.own.fr fs λy hy=>by simpa using (ua y hy).1
theorem Mk.GY {S0:List Nat} {w0 wr:World} {q:Nat} {oa wa:Option Addr} {oc wc:Nat} {out wait:List UInt8} (h:Mk S0 w0 wr q oa oc out wa wc wait):Mk (q::(lib.ae oa++lib.ae wa)) wr wr q oa oc out wa wc wait:=
 ⟨h.ae,h.o,h.x,h.qo,h.qx,h.apart,Fr.refl _ _,.inl (by simp),λy hy=>.inl (by simp[hy]),λy hy=>.inl (by simp[hy])⟩
end delta

end Go.Proofs.YtkmpfgpfbmeihaaGreatDoor