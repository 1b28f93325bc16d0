/-
  Texts of this proof, one behind the other: InflLaw, Take, Put, Read, HuffC, HuffD, HuffM, HuffR, IntsRow.
-/
import Derived.Test.YticadfhpolhkeaaGreatDoorQ2
import Derived.Deep.LoopGhost
import Derived.OwnWalk
import Derived.Laws.OwnMore
import Derived.Lib.AppendZerosOnto
import Derived.Lib.AppendZeros
import Derived.Deep.WholeRow
set_option maxHeartbeats 16000000
set_option maxRecDepth 100000
set_option linter.unusedVariables false
set_option linter.unusedSimpArgs false
namespace Go.Proofs.YticadfhpolhkeaaGreatDoor
namespace inf
open Go bm bl huf
def aX (bs:LB) (a n:Nat):Except Nat (Nat×Nat):=
 if a+n<=8*bs.length then .ok (cz (((ak bs).drop a).take n),a+n) else .error 4
def iy (most:Nat) (out:LB) (c:UInt8):Except Nat (List UInt8):=
 if most<=out.length then .error 5 else .ok (out++[c])
def kL (bs:LB) (ls:LN) (a:Nat):Except Nat (Nat×Nat):=
 if (bT ls 15 0 0 ((ak bs).drop a)).2.2=0 then .ok ((bT ls 15 0 0 ((ak bs).drop a)).1,a+(bT ls 15 0 0 ((ak bs).drop a)).2.1)
 else .error (bT ls 15 0 0 ((ak bs).drop a)).2.2
def aI (bs:LB) (i:Nat):Nat:=(bs[i]?.getD 0).toNat
def bY (bs:LB) (most:Nat):Nat->List UInt8->Nat->Except Nat (List UInt8×Nat)
 | 0,out,q=>.ok (out,8*q)
 | n+1,out,q=>if q<bs.length then
   match iy most out (bs[q]?.getD 0) with
   | .error e=>.error e
   | .ok o=>bY bs most n o (q+1)
  else .error 4
def dV (bs:LB) (most:Nat) (out:LB) (a:Nat):Except Nat (List UInt8×Nat):=
 if (a+7)/8+4<=bs.length then
  if aI bs ((a+7)/8)+aI bs ((a+7)/8+2)=255/\aI bs ((a+7)/8+1)+aI bs ((a+7)/8+3)=255 then
   bY bs most (aI bs ((a+7)/8)+256*aI bs ((a+7)/8+1)) out ((a+7)/8+4)
  else .error 3
 else .error 4
def cB (bs:LB) (s a:Nat):Except Nat (Nat×Nat):=
 if s<265 then .ok (s-254,a) else if s=285 then .ok (258,a) else
  match aX bs a ((s-261)/4) with
  | .error e=>.error e
  | .ok (v,a1)=>.ok (3+(4+(s-265)%4)*2^((s-261)/4)+v,a1)
def fZ (bs:LB) (s a:Nat):Except Nat (Nat×Nat):=
 if s<4 then .ok (s+1,a) else
  match aX bs a ((s-2)/2) with
  | .error e=>.error e
  | .ok (v,a1)=>.ok (1+(2+s%2)*2^((s-2)/2)+v,a1)
def gR (most back:Nat):Nat->List UInt8->Except Nat (List UInt8)
 | 0,out=>.ok out
 | n+1,out=>match iy most out (out[out.length-back]?.getD 0) with
  | .error e=>.error e
  | .ok o=>gR most back n o
def dO (bs:LB) (most:Nat) (dl:LN) (s:Nat) (out:LB) (a:Nat):Except Nat (List UInt8×Nat):=
 match cB bs s a with
 | .error e=>.error e
 | .ok (n,a1)=>match kL bs dl a1 with
  | .error e=>.error e
  | .ok (d,a2)=>if 30<=d then .error 3 else match fZ bs d a2 with
   | .error e=>.error e
   | .ok (back,a3)=>if out.length<back then .error 3 else match gR most back n out with
    | .error e=>.error e
    | .ok o=>.ok (o,a3)
def cq (bs:LB) (most:Nat) (ll dl:LN):Nat->List UInt8->Nat->Except Nat (List UInt8×Nat)
 | 0,_,_=>.error 0
 | f+1,out,a=>match kL bs ll a with
  | .error e=>.error e
  | .ok (s,a1)=>if s<256 then
    match iy most out (UInt8.ofNat s) with
    | .error e=>.error e
    | .ok o=>cq bs most ll dl f o a1
   else if s=256 then .ok (out,a1) else if 286<=s then .error 3 else
    match dO bs most dl s out a1 with
    | .error e=>.error e
    | .ok (o,a2)=>cq bs most ll dl f o a2
def fuel (bs:LB):Nat:=8*bs.length+1
def kh (i:Nat):Nat:=if i<144 then 8 else if i<256 then 9 else if i<280 then 7 else 8
def fixed (n:Nat):List Nat:=(List.range n).map kh
def uN (bs:LB) (most:Nat) (out:LB) (a:Nat):Except Nat (List UInt8×Nat):=cq bs most (fixed 288) (List.replicate 32 5) (fuel bs) out a
def some_ (ls:LN):Nat:=(ls.filter λl=>decide (0<l)).length
def ones (ls:LN):Bool:=ls.all λl=>decide (l<=1)
def dv (ls:LN) (few:Bool):Bool:=decide (weight ls<=32768)&&(decide (weight ls=32768)||(few&&(decide (some_ ls<2)&&ones ls)))
def places:List Nat:=[16,17,18,0,8,7,9,6,10,5,11,4,12,3,13,2,14,1,15]
def dZ (bs:LB):List Nat->List Nat->Nat->Except Nat (List Nat×Nat)
 | [],fs,a=>.ok (fs,a)
 | i::t,fs,a=>match aX bs a 3 with
  | .error e=>.error e
  | .ok (v,a1)=>dZ bs t (fs.set i v) a1
def least (s:Nat):Nat:=if s=18 then 11 else 3
def wide (s:Nat):Nat:=if s=17 then 3 else if s=18 then 7 else 2
def cr (bs:LB) (ls:LN) (n:Nat):Nat->List Nat->Nat->Except Nat (List Nat×Nat)
 | 0,_,_=>.error 0
 | f+1,out,a=>if n<=out.length then .ok (out,a) else match kL bs ls a with
  | .error e=>.error e
  | .ok (s,a1)=>if s<16 then cr bs ls n f (out++[s]) a1 else
   match aX bs a1 (wide s) with
   | .error e=>.error e
   | .ok (v,a2)=>if (s=16/\out=[])\/n-out.length<least s+v then .error 3 else
    cr bs ls n f (out++List.replicate (least s+v) (if s=16 then out.getLast?.getD 0 else 0)) a2
def mZ (bs:LB) (most:Nat) (out:LB) (lit jD:Nat) (fs:LN) (a:Nat):Except Nat (List UInt8×Nat):=
 match cr bs fs (lit+257+jD+1) (lit+257+jD+1+1) [] a with
 | .error e=>.error e
 | .ok (ls,a5)=>if ae ls 256=0 then .error 3 else if dv (ls.take (lit+257)) false=false then .error 3 else if dv (ls.drop (lit+257)) true=false then .error 3 else
  cq bs most (ls.take (lit+257)) (ls.drop (lit+257)) (fuel bs) out a5
def nh (bs:LB) (most:Nat) (out:LB) (lit jD n a:Nat):Except Nat (List UInt8×Nat):=
 match dZ bs (places.take (n+4)) (List.replicate 19 0) a with
 | .error e=>.error e
 | .ok (fs,a4)=>if dv fs false=false then .error 3 else mZ bs most out lit jD fs a4
def lu (bs:LB) (most:Nat) (out:LB) (a:Nat):Except Nat (List UInt8×Nat):=
 match aX bs a 5 with
 | .error e=>.error e
 | .ok (lit,a1)=>if 29<lit then .error 3 else match aX bs a1 5 with
  | .error e=>.error e
  | .ok (jD,a2)=>if 29<jD then .error 3 else match aX bs a2 4 with
   | .error e=>.error e
   | .ok (n,a3)=>nh bs most out lit jD n a3
def dP (bs:LB) (most h:Nat) (out:LB) (a:Nat):Except Nat (List UInt8×Nat):=
 if h=0 then dV bs most out a else if h=1 then uN bs most out a else lu bs most out a
def cP (bs:LB) (most:Nat):Nat->List UInt8->Nat->Except Nat (List UInt8×Nat)
 | 0,_,_=>.error 0
 | f+1,out,a=>match aX bs a 1 with
  | .error e=>.error e
  | .ok (last,a1)=>match aX bs a1 2 with
   | .error e=>.error e
   | .ok (h,a2)=>if h=3 then .error 3 else match dP bs most h out a2 with
    | .error e=>.error e
    | .ok (o,a3)=>if last=0 then cP bs most f o a3 else .ok (o,a3)
def jw (bs:LB) (most:Nat):Except Nat (List UInt8×Nat):=
 match cP bs most (fuel bs) [] 0 with
 | .error e=>.error e
 | .ok (o,a)=>.ok (o,(a+7)/8)
end inf
namespace bits
open Go Go.RowKit lib bm
variable {w w':World} {a p:Nat}
def Ob (T:TypeId) (w:World) (p:Nat) (F:LN) (bs:LB) (at_:Nat):Prop:=
 ∃ao cap,w.heap[p]?=some (.cells #[.slice ao bs.length cap,.int .i64 at_] T (0,0))/\Cs w ao (bs.map bv)/\F=p::ag ao/\
  p∉ag ao/\bs.length<=140737488351232/\at_<=8*bs.length/\bs.length<=cap/\cap<=maxLen/\(ao=none->cap=0)
abbrev Rd (w:World) (p:Nat) (F:LN) (bs:LB) (at_:Nat):Prop:=Ob 530 w p F bs at_
theorem qyx (p:Nat) (F:LN) (bs:LB) (at_:Nat) (n:Int) (w:World) (hR:Rd w p F bs at_) (FT:0<=n) (lv:n<=32) (xt:at_+n<=8*bs.length) :
  Calls Tryz.prog 378 #[.pointer (some ⟨p,0,none⟩),.int .i64 n] w λe w'=>
   e = .returned (.tuple #[.int .u32 (num bs/2^at_%2^n.toNat:Nat),.bool true])/\Rd w' p F bs (at_+n.toNat)/\Fr [p] w w':=by
 obtain⟨ao,cap,hr,hcs,rfl,eI,hlen,dc,dI,dE⟩:=hR;obtain⟨n,rfl⟩:=Dz FT;have h1:decide ((n:Int)<0)=false:=by simp
 have h2:decide (32<(n:Int))=false:=by simp;omega
 have h3:decide (8*(bs.length:Int)-at_<(n:Int))=false:=by simp;omega
 have c0:=cell_of hr 0;have c1:=cell_of hr 1;simp only[dJ,dk,dU]at c0 c1;have Hr:=af hr;clear hr;go_enter Tryz.func378,Tryz.ntmps378;go_wp2;go_quiet (fail);clear c0 c1;go_wp2;go_loopw [6,7] (λv i wr=>∃k:Nat,k<=n/\i = .int .i64 k/\v = .int .u32 (num bs/2^at_%2^k:Nat)/\
   wr.heap[p]?=some (.cells #[.slice ao bs.length cap,.int .i64 (at_+k:Nat)] 530 (0,0))/\Fr [p] w wr)
  (λ_ i _=>n-(intOf i).toNat)
 case atStart=>exact⟨0,by omega,rfl,by simp[Nat.mod_one],by simpa using Hr.out,Fr.drewN _ _ _⟩
 case round=>
  obtain⟨k,hk,rfl,rfl,eZ,hb⟩:=hrel;by_cases MQ:k<n
  ·obtain⟨g,o,rfl,hc⟩:=hcs.at (by simp;omega);have hq:(at_+k)/8<bs.length:=by omega
   have cd:wr.cell? ⟨g,o+(at_+k)/8,none⟩=some (bv (bs.getD ((at_+k)/8) 0)):=by refine hb.cell (hc _ _ ?_) (by simpa[ag,eq_comm] using eI);simp[List.getD,hq]
   unfold bv at cd;have c0:=cell_of eZ 0;have c1:=cell_of eZ 1;have f1:=aT eZ 1;simp only[dJ,dk,dU]at c0 c1;have JF:=af eZ;clear eZ hc;have mr:(bs.getD ((at_+k)/8) 0).toNat<256:=mW _;generalize qZ:(bs.getD ((at_+k)/8) 0).toNat=bn at cd mr;have Hbn:=af qZ;clear qZ;have hv:num bs/2^at_%2^k<4294967296:=by refine fM (xS _ (mC _)) ?_;exact lJ (by omega) (show k<=32 by omega)
   generalize hvn:num bs/2^at_%2^k=vn at hv ⊢;have Hvn:=af hvn;clear hvn;go_wp2;all_goals
    go_quiet (fail)
    go_wp2
    go_roundw
    case rel=>
     first
     | exact⟨k+(n-k),by omega,int_eq (by omega),int_eq (qqi bs at_ k (n-k) vn bn hq (by omega) (by omega) Hvn.out Hbn.out),
       (df (w:=wr.drewN nq) JF.out _).trans (by simp;omega),(hb.py nq).setCell (by simp) _⟩
     | exact⟨k+(8-(at_+k)%8),by omega,int_eq (by omega),int_eq (qqi bs at_ k (8-(at_+k)%8) vn bn hq (by omega) (by omega) Hvn.out Hbn.out),
       (df (w:=wr.drewN nq) JF.out _).trans (by simp;omega),(hb.py nq).setCell (by simp) _⟩
    case measure=>simp[intOf];omega
  ·obtain rfl:k=n:=by omega
   have VH:Cs wr ao (bs.map bv):=hcs.fr hb (by intro x hx;simp;rintro rfl;exact eI hx);have JF:=af eZ;clear eZ hcs;go_wp2;go_ret2;exact⟨by simp,⟨ao,cap,by simpa using JF.out,VH,rfl,eI,hlen,by simp;omega,dI,dE⟩,hb⟩
theorem ZF (p:Nat) (F:LN) (bs:LB) (at_:Nat) (n:Int) (w:World) (hR:Rd w p F bs at_) (hn:n<0\/32<n\/8*bs.length<at_+n) :
  Calls Tryz.prog 378 #[.pointer (some ⟨p,0,none⟩),.int .i64 n] w λe w'=>
   e = .returned (.tuple #[.int .u32 0,.bool false])/\Rd w' p F bs at_/\Fr [] w w':=by
 obtain⟨ao,cap,hr,hcs,rfl,eI,hlen,dc,dI,dE⟩:=hR;have c0:=cell_of hr 0;have c1:=cell_of hr 1;simp only[dJ,dk,dU]at c0 c1;have Hr:=af hr;clear hr;have done:∀m,Rd (w.drewN m) p (p::ag ao) bs at_:=λm=>⟨ao,cap,Hr.out,hcs,rfl,eI,hlen,dc,dI,dE⟩
 have Hd:=af done;clear done;by_cases a1:n<0
 ·have h1:decide (n<0)=true:=by simp;omega
  go_enter Tryz.func378,Tryz.ntmps378;go_wp2;go_quiet (fail);go_wp2;go_ret2;exact⟨rfl,Hd.out _,Fr.drewN _ _ _⟩
 ·have h1:decide (n<0)=false:=by simp;omega
  by_cases a2:32<n
  ·have h2:decide (32<n)=true:=by simp;omega
   go_enter Tryz.func378,Tryz.ntmps378;go_wp2;go_quiet (fail);go_wp2;go_ret2;exact⟨rfl,Hd.out _,Fr.drewN _ _ _⟩
  ·have h2:decide (32<n)=false:=by simp;omega
   have h3:decide (8*(bs.length:Int)-at_<n)=true:=by simp;omega
   go_enter Tryz.func378,Tryz.ntmps378;go_wp2;go_quiet (fail);go_wp2;go_ret2;exact⟨rfl,Hd.out _,Fr.drewN _ _ _⟩
theorem aE:aw Tryz.prog 35 5 (.int .u8 0) 1 1:=aw.of Tryz.underlying35 (by kernel_rfl) rfl (by decide)
def Wv (w:World) (p:Nat) (v:Value) (M L:Nat):Prop:=
 w.heap[p]?=some (.cells #[v,.int .u64 (M/2^(8*(L/8)):Nat),.int .i64 (L%8:Nat)] 412 (0,0))/\
  w.ownsRow 0 5 1 v (L/8) ((j8 (L/8) M).map bv)/\v.ownBlock≠some p/\M<2^L
def Wr (w:World) (p:Nat) (F:LN) (M L:Nat):Prop:=∃v,Wv w p v M L/\F=p::v.ownBlock.toList
theorem YQ (W:Nat):Value.int .u8 (IntKind.u8.wrap (W:Int))=bv (UInt8.ofNat W):=by unfold bv;rw[IntKind.wrap_u8',xd];exact int_eq (by omega)
theorem zh0 (q N:Nat):(j8 (q+1) N).map bv=(j8 q N).map bv++[Value.int .u8 (IntKind.u8.wrap ((N/2^(8*q):Nat):Int))]:=by rw[YX,jd,YQ];rfl
theorem zda (K q:Nat):K-8*q-8=K-8*(q+1):=by omega
theorem zfd (N q:Nat):N/2^(8*q)/2^8=N/2^(8*(q+1)):=by rw[IE,<-mB,yD]
theorem zih (p:Nat) (F:LN) (M L:Nat) (x:Nat) (n:Int) (w:World) (hW:Wr w p F M L) (hx:x<4294967296) (hL:L<=562949953421312) :
  Calls Tryz.prog 449 #[.pointer (some ⟨p,0,none⟩),.int .u32 x,.int .i64 n] w λe w'=>
   e = .returned (.tuple #[])/\Fr F w w'/\∃F',Wr w' p F' (M+2^L*(x%2^(min n.toNat 32))) (L+min n.toNat 32)/\∀y∈F',y∈F\/w.heap.size<=y:=by
 obtain⟨v,⟨hr,aK,eI,hM⟩,rfl⟩:=hW;have c0:=cell_of hr 0;have c1:=cell_of hr 1;have c2:=cell_of hr 2;simp only[dJ,dk,dU]at c0 c1 c2;have f1:=aT hr 1;have f2:=aT hr 2;have Hr:=af hr;clear hr;obtain⟨W,hW⟩:∃W:Nat,W=M/2^(8*(L/8)):=⟨_,rfl⟩;rw[<-hW]at c1;have HW:=af hW;clear hW;go_enter Tryz.func449,Tryz.ntmps449;go_upto_region 0 with fail;obtain⟨m,hm,MG⟩:∃m:Nat,m=min n.toNat 32/\m<=32:=⟨_,rfl,by omega⟩;have Hm:=af hm;clear hm;go_cut [2] (λn2 wc=>n2 = .int .i64 m/\w=wc);case first=>go_wp2;all_goals (go_meet;exact⟨int_eq (by have:=Hm.out;omega),rfl⟩)
 case rest=>
 obtain⟨rfl,rfl⟩:=hcut;go_upto_region 1 with fail;have hl8:L%8<8:=by omega
 go_cut [] (λwc=>wc.heap[p]?=some (.cells #[v,.int .u64 ((M+2^L*(x%2^m))/2^(8*(L/8)):Nat),.int .i64 (L%8:Nat)] 412 (0,0))/\Fr [p] w wc);case first=>
  go_region;all_goals go_wp2
  go_meet;refine⟨(df Hr.out _).trans ?_,((Fr.refl _ w).setCell (by simp) _).drew⟩;have e:=zdq M L x m hM hx MG;rw[<-HW.out]at e;rw[e];rfl
 case rest=>
 obtain⟨AK,qA⟩:=hcut;clear c2 f2;have c2:=cell_of AK 2;have f2:=aT AK 2;simp only[dJ,dk,dU]at c2;go_upto_region 2 with fail;go_cut [] (λwz=>wz.heap[p]?=some (.cells #[v,.int .u64 ((M+2^L*(x%2^m))/2^(8*(L/8)):Nat),.int .i64 (L%8+m:Nat)] 412 (0,0))/\Fr [p] w wz);case first=>have Hr1:=af AK;clear AK;go_wp2;go_meet;exact⟨(df Hr1.out _).trans rfl,qA.setCell (by simp) _⟩
 case rest=>
 obtain⟨Jb,ft⟩:=hcut;have hN:=zii M L x m hM;have Nb:j8 (L/8) (M+2^L*(x%2^m))=j8 (L/8) M:=by rw[show 2^L=2^(8*(L/8))*2^(L%8) from by rw[<-mB,Hu],uq,qua]
 rw[<-Nb]at aK;clear Nb;have Hm':=af Hm;clear AK c2 f2 Hm Hr c0 c1 f1;obtain⟨N,Jx⟩:=ah (M+2^L*(x%2^m));rw[<-Jx]at Jb hN aK;have HN:=af Jx;clear Jx;have hK:L/8*8<=L+m:=by omega
 have nH:=dp (aK) ft (by intro k hk;simp;rintro rfl;exact eI hk);have HM:=af hM;have HR2:=af Jb;clear hM Jb aK;go_wp2;go_loopg [] 5 (λk wr=>∃(u:Value) (q:Nat),k+q=L/8+5/\L/8<=q/\8*q<=L+m/\
  wr.heap[p]?=some (.cells #[u,.int .u64 (N/2^(8*q):Nat),.int .i64 (L+m-8*q:Nat)] 412 (0,0))/\
  wr.ownsRow 0 5 1 u q ((j8 q N).map bv)/\u.ownBlock≠some p/\Fr (p::v.ownBlock.toList) w wr/\(∀y,u.ownBlock=some y->v.ownBlock=some y\/w.heap.size<=y))
 case atStart=>exact⟨v,L/8,by omega,by omega,by omega,by rw[HR2.out,show L+m-8*(L/8)=L%8+m from by omega],nH,eI,ft.mono (by simp),λy hy=>.inl hy⟩
 case round=>
  obtain⟨u,q,hgk,rE,U7,hr,aK,LY,dM,v7⟩:=hrel;have c0:=cell_of hr 0;have c1:=cell_of hr 1;have c2:=cell_of hr 2;simp only[dJ,dk,dU]at c0 c1 c2;have f0:=aT hr 0;have f1:=aT hr 1;have f2:=aT hr 2;have Hr:=af hr;clear hr;by_cases bF:8<=L+m-8*q
  ·obtain⟨W,hW⟩:∃W:Nat,W=N/2^(8*q):=⟨_,rfl⟩;rw[<-hW]at c1;have HW:=af hW;clear hW;have uw:p<wr.heap.size:=lt_of_block Hr.out;have ea:p≠wr.heap.size:=Nat.ne_of_lt uw;go_upto_region 5 with fail;go_cut [] (λwz=>∃u',wz.heap[p]?=some (.cells #[u',.int .u64 (N/2^(8*q):Nat),.int .i64 (L+m-8*q:Nat)] 412 (0,0))/\
      wz.ownsRow 0 5 1 u' (q+1) ((j8 (q+1) N).map bv)/\u'.ownBlock≠some p/\Fr (p::v.ownBlock.toList) w wz/\(∀y,u'.ownBlock=some y->v.ownBlock=some y\/w.heap.size<=y))
   case first=>
    go_region_law (refine step_append aE rfl (.tmp 51) (.tmp 57) rfl u q ((j8 q N).map bv) _ (by rfl) (by rfl) (by first|exact aK.alloc _|exact aK.drew.alloc _) _ 1 1 _ (by rfl) (by decide) (by simp) (by exact nD _ _ _ _ (aV _ _)) (by rfl) (by simp[Value.oneCell']) (by omega) (by unfold maxLen;omega) ?_;intro j9 gh w1 A1;have jR:=A1.fr.ag (alloc_old _ Hr.out) (by simpa using LY);have g0:=cell_of jR 0;have g1:=aT jR 0;simp only[dJ,dk]at g0);all_goals go_wp2
    all_goals go_meet
    all_goals
     have cZ:=dM.size
     have dc:=A1.at_
     simp only[World.size_drew,ik]at dc
     have bg:(Value.slice j9 (q+1) gh).ownBlock≠some p:=by
      intro h
      rcases dc p (by rw[<-cY j9 (q+1) gh,h];simp) with h|h
      ·exact LY (by simpa using h)
      ·omega
     refine⟨_,(df jR _).trans rfl,?_,bg,?_,?_⟩
     ·rw[zh0,<-HW.out]
      exact ownsRow_setCell_other A1.own bg _
     ·refine Fr.setCell (((dM.alloc _).drew).step A1.fr ?_) (by simp) _
      intro k hk
      rcases v7 k (by simpa using hk) with h|h
      ·left;simp[h]
      ·right;exact h
     ·intro y hy
      rcases dc y (by rw[<-cY j9 (q+1) gh,hy];simp) with h|h
      ·exact v7 y (by simpa using h)
      ·right;omega
   case rest=>
   obtain⟨u',eZ,Uy,Fw,fr',ob'⟩:=hcut;clear c0 c1 c2 f0 f1 f2 aK LY dM v7 ea uw;have c1:=cell_of eZ 1;have c2:=cell_of eZ 2;simp only[dJ,dk,dU]at c1 c2;have f1:=aT eZ 1;have f2:=aT eZ 2;have JF:=af eZ;clear eZ;rw[<-HW.out]at c1;go_wp2;go_roundg (gk-1);case measure=>omega
   case rel=>
    refine⟨u',q+1,by omega,by omega,by omega,(df (df JF.out _) _).trans ?_,ownsRow_setCell_other (ownsRow_setCell_other Uy Fw _) Fw _,Fw,Fr.setCell (fr'.setCell (by simp) _) (by simp) _,ob'⟩;rw[<-zfd,<-HW.out,<-zda];have e1:((W:Int)/256)=((W/2^8:Nat):Int):=by omega
    have e2:((L+m-8*q:Nat):Int)-8=((L+m-8*q-8:Nat):Int):=by omega
    rw[e1,e2];rfl
  ·obtain rfl:q=(L+m)/8:=by omega
   have Ho:=af aK;clear aK;go_wp2;go_end0;refine⟨rfl,dM,p::u.ownBlock.toList,?_,?_⟩
   ·rw[<-Hm'.out.out,<-HN.out];refine⟨u,⟨?_,Ho.out,LY,hN⟩,rfl⟩;rw[Hr.out,show L+m-8*((L+m)/8)=(L+m)%8 from by omega]
   ·intro y hy;rcases eX.1 hy with rfl|hy
    ·simp
    ·rcases v7 y (by simpa using hy) with h|h
     ·left;simp[h]
     ·right;exact h
theorem qI (bs:LB):∀u∈bs.map bv,u.oneCell'=true:=by intro u hu;obtain⟨b,_,rfl⟩:=mU.1 hu;rfl
theorem SZ (p:Nat) (F:LN) (bs:LB) (at_:Nat) (w:World) (hR:Rd w p F bs at_) :
  Calls Tryz.prog 369 #[.pointer (some ⟨p,0,none⟩)] w λe w'=>e = .returned (.int .i64 ((at_+7)/8:Nat))/\w=w':=by
 obtain⟨ao,cap,hr,hcs,rfl,eI,hlen,dc,dI,dE⟩:=hR;have c1:=cell_of hr 1;simp only[dJ,dk,dU]at c1;clear hr;go_enter Tryz.func369,Tryz.ntmps369;go_wp2;go_ret;exact⟨Xt (int_eq (by omega)),rfl⟩
theorem zjm {T:TypeId} {F:LN} {bs:LB} {a':Nat} (h:Ob T w p F bs a) (hf:Fr [p] w w')
  (hh:∀ao cap,w.heap[p]?=some (.cells #[.slice ao bs.length cap,.int .i64 a] T (0,0))->w'.heap[p]?=some (.cells #[.slice ao bs.length cap,.int .i64 a'] T (0,0))) (ha:a'<=8*bs.length):Ob T w' p F bs a':=by
 obtain⟨ao,cap,hr,hcs,rfl,eI,hlen,dc,dI,dE⟩:=h;exact⟨ao,cap,hh ao cap hr,hcs.fr hf (by intro x hx;simp;rintro rfl;exact eI hx),rfl,eI,hlen,ha,dI,dE⟩
theorem EL {T:TypeId} {F S:LN} {bs:LB} (h:Ob T w p F bs a) (hf:Fr S w w') (hn:∀x∈F,x∉S):Ob T w' p F bs a:=by obtain⟨ao,cap,hr,hcs,rfl,eI,hlen,dc,dI,dE⟩:=h;exact⟨ao,cap,hf.ag hr (hn p (by simp)),hcs.fr hf (by intro x hx;exact hn x (by simp[hx])),rfl,eI,hlen,dc,dI,dE⟩
theorem ZI (p:Nat) (F:LN) (bs:LB) (at_:Nat) (w:World) (hR:Rd w p F bs at_) :
  Calls Tryz.prog 393 #[.pointer (some ⟨p,0,none⟩)] w λe w'=>e = .returned (.tuple #[])/\Rd w' p F bs ((at_+7)/8*8)/\Fr [p] w w':=by
 have hR':=af hR;obtain⟨ao,cap,hr,hcs,rfl,eI,hlen,dc,dI,dE⟩:=hR;have c1:=cell_of hr 1;have f1:=aT hr 1;simp only[dJ,dk,dU]at c1;clear hr;go_enter Tryz.func393,Tryz.ntmps393;go_wp2;go_end0;refine⟨rfl,zjm hR'.out ((Fr.refl _ w).setCell (by simp) _) (λao cap h=>(df h _).trans ?_) (by omega),(Fr.refl _ w).setCell (by simp) _⟩;have e:((at_:Int)+7)/8*8=((at_+7)/8*8:Nat):=by omega
 rw[e];rfl
theorem Zj (ao:OA) (cap:Nat) (bs:LB) (w:World) (hcs:Cs w ao (bs.map bv)) (dI:bs.length<=cap) (bU:ao=none->cap=0) (hlen:bs.length<=140737488351232) :
  Calls Tryz.prog 366 #[.slice ao bs.length cap] w λe w'=>∃p F,e = .returned (.pointer (some ⟨p,0,none⟩))/\Rd w' p F bs 0/\Fr [] w w'/\∀x∈F,w.heap.size<=x/\x<w'.heap.size:=by
 go_enter Tryz.func366,Tryz.ntmps366;go_wp2_with (refine fq aE rfl _ _ rfl (.slice none 0 0) 0 [] [] rfl rfl (oE _ _ _ _) _ _ _ (bs.map bv) rfl dI bU hcs (by simp) (qI bs) (by omega) (by unfold maxLen;omega) ?_;intro j9 gh w1 A1;simp only[iN,sS]at A1);go_ret;have hb:∀x∈ag j9,x=w.heap.size/\x<w1.heap.size:=λx hx=>⟨by simpa using A1.at_ x hx,A1.lt x hx⟩
 have zw:Cs (w1.alloc (.cells #[.slice j9 bs.length gh,.int .i64 0] 530)) j9 (bs.map bv):=(qK A1.own).uf (Ub ((Fr.refl _ _).alloc _));refine⟨w1.heap.size,_,rfl,⟨j9,gh,aV _ _,zw,rfl,λh=>?_,hlen,by omega,A1.le,A1.max,A1.nil⟩,A1.fr.alloc _,λx hx=>?_⟩
 ·have:=(hb _ h).2;omega
 ·rw[ik];rcases eX.1 hx with rfl|hx
  ·exact⟨A1.fr.size,by omega⟩
  ·have:=hb _ hx;omega
theorem xW (ao:OA) (cap:Nat) (bs:LB) (w:World) (hcs:Cs w ao (bs.map bv)) (dI:bs.length<=cap) (bU:ao=none->cap=0) (hlen:bs.length<=140737488351232) :
  Calls Tryz.prog 366 #[.slice ao bs.length cap] w λe w'=>∃p F,e = .returned (.pointer (some ⟨p,0,none⟩))/\Rd w' p F bs 0/\Fr [] w w'/\∀x∈F,w.heap.size<=x:=
 (Zj ao cap bs w hcs dI bU hlen).mono λ_ _ ⟨p,F,h1,h2,h3,h4⟩=>⟨p,F,h1,h2,h3,λx hx=>(h4 x hx).1⟩
def kG (p:Nat) (F:LN) (bs:LB) (at_ n:Nat) (w:World) (e:Ending) (w':World):Prop:=
 ∃kO,e = .returned (.tuple #[.slice kO n n,.bool true])/\iL w' w.heap.size 5 kO (((bs.drop ((at_+7)/8)).take n).map bv)/\(kO=none->n=0)/\
    (∀x∈ag kO,w.heap.size<=x)/\Rd w' p F bs ((at_+7)/8*8+8*n)/\Fr [p] w w'
theorem qor (p:Nat) (F:LN) (bs:LB) (at_:Nat) (n:Int) (w:World) (hR:Rd w p F bs at_) (FT:0<=n) (hn:n<=bs.length-((at_+7)/8:Nat)) :
  Calls Tryz.prog 385 #[.pointer (some ⟨p,0,none⟩),.int .i64 n] w (kG p F bs at_ n.toNat w):=by
 obtain⟨n,rfl⟩:=Dz FT;have h1:decide ((n:Int)<0)=false:=by simp
 go_enter Tryz.func385,Tryz.ntmps385;go_upto_region 1 with fail;go_cut [] (λw1=>Rd w1 p F bs ((at_+7)/8*8)/\Fr [p] w w1);case first=>go_wp2_with (go_at_call 393;refine (ZI p F bs at_ _ hR).mono ?_;rintro e w' ⟨rfl,zG,qA⟩);go_meet;exact⟨zG,qA⟩
 case rest=>
 obtain⟨zG,qA⟩:=hcut;clear hR;have HR1:=af zG;obtain⟨ao,cap,hr,hcs,rfl,eI,hlen,dc,dI,dE⟩:=zG;have c0:=cell_of hr 0;have c1:=cell_of hr 1;have f1:=aT hr 1;simp only[dJ,dk,dU]at c0 c1;have Hr:=af hr;clear hr;have h2:decide ((bs.length:Int)-(at_+7)/8<(n:Int))=false:=by simp;omega
 generalize hA:(at_+7)/8=A at *;go_upto_region 2 with fail;go_cut [25] (λs25 w2=>s25 = .bool false/\Rd w2 p (p::ag ao) bs (A*8)/\Fr [p] w w2);case first=>go_quiet (fail);go_wp2;go_meet;exact⟨by simpa using hn,⟨ao,cap,Hr.out,hcs,rfl,eI,hlen,dc,dI,dE⟩,qA.py _⟩
 case rest=>
 obtain⟨rfl,Jv,ft⟩:=hcut;clear c0 c1 f1 Hr hcs qA HR1 dc;obtain⟨ao,cap,hr,hcs,hF,eI,hlen,dc,dI,dE⟩:=Jv;have c0:=cell_of hr 0;have c1:=cell_of hr 1;have f1:=aT hr 1;simp only[dJ,dk,dU]at c0 c1;have Hr:=af hr;clear hr;go_wp2;refine xY 17 (by kernel_rfl) (by kernel_rfl) ?_;simp only[lh,sW,nY,nE];repeat (go_big_quiet_step (fail))
 refine wpQuiet_nil ?_;have hcut:=hcs.cut cap A (A+n) (by omega) (by simp;omega) (by simpa using dI);go_wp2_with (refine fq aE rfl _ _ rfl (.slice none 0 0) 0 [] [] rfl rfl (oE _ _ _ _) (cutAt ao cap A) (A+n-A) (cap-A) _ rfl (by omega) (λh=>by have:=dE.2 (qom h);omega) hcut (by simp;omega) (by rw[<-CZ,<-EJ];exact qI _) (by omega) (by unfold maxLen;omega) ?_;intro j9 gh w1 A1;simp only[iN,sS]at A1;have iR:n<=gh:=(by have:=A1.le;omega);have jR:=A1.fr.ag (w:=wc.drew) Hr.out (by simp);have d1:=cell_of jR 1;have g1:=aT jR 1;simp only[dJ,dk,dU]at d1);all_goals
  go_ret2
  have e0:A+n-A=n:=by omega
  rw[e0,<-CZ,<-EJ]at A1
  have bg:p∉ag j9:=λh=>by
   have h1:=A1.at_ p h
   have h2:=lt_of_block Hr.out
   simp at h1
   omega
  have cZ:=ft.size
  have fr3:Fr [] wc w1:=(Fr.aB [] wc).trans A1.fr
  have fr4:Fr [p] w (w1.setCell ⟨p,1,none⟩ (.int .i64 (A*8+8*n))):=(ft.trans (fr3.mono (by simp))).setCell (by simp) _
  have aK:=ownsRow_setCell_other (a:=⟨p,1,none⟩) A1.own (λh=>bg (by rw[<-cY j9 n gh,h];simp)) (.int .i64 (A*8+8*n))
  unfold kG
  rw[hA]
  have nP:∀x∈ag j9,w.heap.size<=x:=λx hx=>by
   have:=A1.at_ x hx
   simp at this
   omega
  refine⟨j9,rfl,P9 aK nP,λh=>?_,nP,⟨ao,cap,(df jR _).trans ?_,(hcs.fr fr3 (by simp)).fr ((Fr.refl [p] w1).setCell (by simp) _) (by intro x hx;simp;rintro rfl;exact eI hx),(by first|exact hF|rfl),eI,hlen,by omega,dI,dE⟩,fr4⟩
  ·have:=A1.nil h
   omega
  ·have e:((A:Int)*8+8*(n:Int))=((A*8+8*n:Nat):Int):=by omega
   rw[e]
   rfl
theorem ZK (p:Nat) (F:LN) (bs:LB) (at_:Nat) (n:Int) (w:World) (hR:Rd w p F bs at_) (hn:n<0\/bs.length-((at_+7)/8:Nat)<n) :
  Calls Tryz.prog 385 #[.pointer (some ⟨p,0,none⟩),.int .i64 n] w λe w'=>
   e = .returned (.tuple #[.slice none 0 0,.bool false])/\Rd w' p F bs ((at_+7)/8*8)/\Fr [p] w w':=by
 go_enter Tryz.func385,Tryz.ntmps385;go_upto_region 1 with fail;go_cut [] (λw1=>Rd w1 p F bs ((at_+7)/8*8)/\Fr [p] w w1);case first=>go_wp2_with (go_at_call 393;refine (ZI p F bs at_ _ hR).mono ?_;rintro e w' ⟨rfl,zG,qA⟩);go_meet;exact⟨zG,qA⟩
 case rest=>
 obtain⟨zG,qA⟩:=hcut;clear hR;obtain⟨ao,cap,hr,hcs,rfl,eI,hlen,dc,dI,dE⟩:=zG;have c0:=cell_of hr 0;have c1:=cell_of hr 1;simp only[dJ,dk,dU]at c0 c1;have Hr:=af hr;clear hr;have done:∀m,Rd (wc.drewN m) p (p::ag ao) bs ((at_+7)/8*8):=λm=>⟨ao,cap,Hr.out,hcs,rfl,eI,hlen,dc,dI,dE⟩
 have Hd:=af done;clear done;by_cases a1:n<0
 ·have h1:decide (n<0)=true:=by simp;omega
  go_upto_region 2 with fail;go_quiet (fail);go_wp2;go_ret2;exact⟨rfl,Hd.out _,qA.py _⟩
 ·have h1:decide (n<0)=false:=by simp;omega
  have h2:decide ((bs.length:Int)-(at_+7)/8<n)=true:=by simp;omega
  go_upto_region 2 with fail;go_quiet (fail);go_wp2;go_ret2;exact⟨rfl,Hd.out _,qA.py _⟩
end bits
namespace huf
open Go Go.RowKit lib bm bl
variable {ls:LN} {i j l:Nat}
theorem Xw (p:Nat) (F:LN) (bs:LB) (at_ n:Nat) (w:World) (h:bits.Rd w p F bs at_) (hn:n<=32) (hl:at_+n<=8*bs.length) :
  Calls Tryz.prog 378 #[.pointer (some ⟨p,0,none⟩),.int .i64 n] w λe w'=>e = .returned (.tuple #[.int .u32 (cz (((ak bs).drop at_).take n):Nat),.bool true])/\bits.Rd w' p F bs (at_+n)/\Fr [p] w w':=by
 have h1:=bits.qyx p F bs at_ n w h (by omega) (by omega) (by omega);rw[xZ,zd3 bs at_ n hl]at h1;exact h1
structure Ri (w:World) (a:OA) (cap:Nat) (xs:LN):Prop where
 cs:Cs w a (xs.map λx=>.int .i64 (x:Nat))
 le:xs.length<=cap
 max:cap<=maxLen
 nil:a=none->cap=0
theorem Ri.fr {w w':World} {a:OA} {cap:Nat} {xs:LN} (h:Ri w a cap xs) (f:Fr [] w w'):Ri w' a cap xs:=⟨h.cs.fr f (by simp),h.le,h.max,h.nil⟩
theorem Ri.at {w:World} {a:OA} {cap:Nat} {xs:LN} (h:Ri w a cap xs) {i:Nat} (hi:i<xs.length):∃g o,a=some ⟨g,o,none⟩/\w.cell? ⟨g,o+i,none⟩=some (.int .i64 (xs[i]:Nat)):=by obtain⟨g,o,rfl,hc⟩:=h.cs.at (by simp;omega);exact⟨g,o,rfl,hc i _ (by simp[hi])⟩
theorem KZ:∀a b:List Nat,weight (a++b)=weight a+weight b
 | [],b=>by simp[weight]
 | x::a,b=>by rw[uo,weight,weight,KZ a b];omega
theorem Tw:∀l:List Nat,weight l<=16384*l.length
 | []=>eE _
 | x::l=>by
  have:=Tw l;have h:(if x=0 then 0 else 2^(15-x))<=16384:=by
   split
   ·omega
   ·exact bP (lJ (by decide) (show 15-x<=14 by omega)) (by decide)
  rw[weight,dw];omega
theorem Tl (a:OA) (cap:Nat) (ls:LN) (w:World) (h:Ri w a cap ls) (hle:∀l∈ls,l<=15) (hlen:ls.length<=100000) :
  Calls Tryz.prog 398 #[.slice a ls.length cap] w λe w'=>e = .returned (.tuple #[.int .i64 (weight ls:Nat),.bool true])/\w=w':=by
 obtain⟨L,hL⟩:=ah ls.length;rw[<-hL]at hlen ⊢;have H:=aq h hle hL;clear h hle hL;go_enter Tryz.func398,Tryz.ntmps398;go_upto_block 0 with fail;go_wp2;go_loopg [4,6,9] L (λk s4 s6 s9 wr=>∃i:Nat,s9 = .int .i64 (i:Nat)/\s4 = .int .i64 (weight (ls.take i):Nat)/\i+k=L/\w=wr);case atStart=>exact⟨0,rfl,rfl,by omega,rfl⟩
 case round=>
  obtain⟨i,rfl,rfl,cQ,rfl⟩:=hrel;by_cases hi:i<L
  ·obtain⟨k,rfl⟩:∃k,gk=k+1:=⟨gk-1,by omega⟩;have cN:i<ls.length:=by rw[<-H.out.2.2];exact hi
   obtain⟨g,o,rfl,hc⟩:=H.out.1.at cN;have pX:=H.out.2.1 _ (sk cN);have hw:=KZ (ls.take i) [ls[i]];rw[<-x7 cN]at hw;have I6:=Tw (ls.take i);rw[fH]at I6;generalize ls[i]=x at *;generalize hW:weight (ls.take i)=W at *;generalize Be:weight (ls.take (i+1))=W2 at *;have hWb:W<=1638400000:=by omega
   by_cases h0:x=0
   ·subst h0;have e:W2=W:=by rw[hw];simp[weight]
    have HE:=ai e Be;clear e hw I6 hW Be;go_wp2;go_roundg k;case measure=>omega
    case rel=>exact⟨i+1,by go_num,by rw[HE.l1,HE.o0],by omega,rfl⟩
   ·have hx:1<=x:=by omega
    obtain⟨y,hy⟩:=ah (15-x);have e1:(15:Int)-(x:Int)=(y:Int):=by omega
    have hp:2^y<=16384:=bP (lJ (by decide) (show y<=14 by omega)) (by decide);have e:W2=W+2^y:=by rw[hw,hy];simp[weight,h0]
    obtain⟨z,hz⟩:=ah (2^y);rw[<-hz]at hp e;have e2:(2:Int)^y=(z:Int):=by rw[hz];exact xb y
    have HE:=ai e Be;have zaH:y<=14:=by omega
    clear e hw I6 hW Be hz hy;go_wp2;go_roundg k;case measure=>omega
    case rel=>exact⟨i+1,by go_num,by rw[HE.l1,HE.o0];first|go_num|rfl,by omega,rfl⟩
  ·obtain rfl:i=L:=by omega
   have hW:weight (ls.take i)=weight ls:=by rw[lL (by rw[<-H.out.2.2];exact ax _)]
   have HW:=af hW;clear hW;go_wp2;go_ret2;exact⟨by rw[<-HW.out];rfl,rfl⟩
theorem qr2 (a:OA) (cap:Nat) (ls:LN) (w:World) (h:Ri w a cap ls) (hle:∀l∈ls,l<=15) (hlen:ls.length<=100000) :
  Calls Tryz.prog 397 #[.slice a ls.length cap] w λe w'=>e = .returned (.bool (decide (weight ls=32768)))/\w=w':=by
 have hc:=af (Tl a cap ls w h hle hlen);clear h hle;go_enter Tryz.func397,Tryz.ntmps397;go_wp2_with (go_at_call 398;refine hc.out.mono ?_;rintro e w' ⟨rfl,rfl⟩);go_ret;refine⟨Xt (zh3 ?_),rfl⟩;first
  | (rw[Bool.eq_iff_iff];simp;omega)
  | simp
theorem qqq (ls:LN) (hle:∀l∈ls,l<=15) (hw:weight ls<=32768) (l:Nat) (hl:l<=15):gJ ls l<=32768:=by have h1:=Td ls l hl;have h2:=SW ls (show l<=16 by omega);rw[Us ls hle]at h2;have h3:gJ ls l*1<=gJ ls l*2^(15-l):=Nat.mul_le_mul_left _ (mC _);omega
def cw (ls:LN) (l i j:Nat):Nat:=if ae ls j≠0/\(ae ls j<l\/(ae ls j=l/\j<i)) then code ls j else 0
def cE (ls:LN) (j:Nat):Nat:=if ae ls j=0 then 0 else code ls j
def di (ls:LN):List Nat:=(List.range ls.length).map (cE ls)
theorem XI (h:j≠i\/ae ls i≠l):cw ls l (i+1) j=cw ls l i j:=by
 unfold cw;congr 1;rw[eq_iff_iff];constructor
 ·rintro⟨h1,h2|⟨h2,h3⟩⟩
  ·exact⟨h1,.inl h2⟩
  ·refine⟨h1,.inr ⟨h2,?_⟩⟩;rcases kT j i with k|k
   ·exact k
   ·obtain rfl:j=i:=by omega
    rcases h with h|h
    ·exact absurd rfl h
    ·exact absurd h2 h
 ·rintro⟨h1,h2|⟨h2,h3⟩⟩
  ·exact⟨h1,.inl h2⟩
  ·exact⟨h1,.inr ⟨h2,by omega⟩⟩
theorem zi9 (h0:l≠0) (h:ae ls i=l):cw ls l (i+1) i=gJ ls l+(ls.take i).count l:=by unfold cw;rw[if_pos ⟨by omega,.inr ⟨h,by omega⟩⟩,code,h]
theorem zh1 (h0:l≠0) (hj:j<ls.length):cw ls l ls.length j=cw ls (l+1) 0 j:=by
 unfold cw;congr 1;rw[eq_iff_iff];constructor
 ·rintro⟨h1,h2|⟨h2,h3⟩⟩
  ·exact⟨h1,.inl (by omega)⟩
  ·exact⟨h1,.inl (by omega)⟩
 ·rintro⟨h1,h2|⟨h2,h3⟩⟩
  ·rcases kT (ae ls j) l with k|k
   ·exact⟨h1,.inl k⟩
   ·exact⟨h1,.inr ⟨by omega,hj⟩⟩
  ·omega
theorem zja (hle:ae ls j<=15):cw ls 16 0 j=cE ls j:=by
 unfold cw cE;by_cases h:ae ls j=0
 ·rw[if_pos h,if_neg (λhc=>hc.1 h)]
 ·rw[if_neg h,if_pos ⟨h,.inl (by omega)⟩]
theorem zfi (ls:LN) (j:Nat):cw ls 1 0 j=0:=by unfold cw;rw[if_neg];rintro⟨h1,h2|⟨h2,h3⟩⟩<;>omega
theorem EB:aw Tryz.prog 545 202 (.int .u32 0) 1 4:=aw.of Tryz.underlying545 (by kernel_rfl) rfl (by decide)
def Cw (w:World) (ls:LN) (Q l i:Nat):Prop:=∃A,w.heap[Q]?=some (.cells A 202 (0,0))/\A.size=ls.length/\∀j,j<ls.length->A[j]?=some (.int .u32 (cw ls l i j:Nat))
theorem zh2 {w:World} {Q:Nat} (h:w.ownsRow 0 202 1 (.slice (some ⟨Q,0,none⟩) ls.length ls.length) ls.length (madeCells (Value.int .u32 0).cells (ls.length*1)).toList):Cw w ls Q 1 0:=by
 obtain⟨o1,o2⟩:=h;rcases o2 with⟨o2,_⟩|⟨g,c',cur,o2,_,hg,_,_,cZ,ht⟩
 ·cases o2
 ·simp only[kJ,fI,rB,and_true,true_and]at o2;obtain⟨rfl,rfl⟩:=o2;refine⟨cur,hg,by omega,λj hj=>?_⟩;rw[zfi];have hj':j<cur.toList.length:=by simp;omega
  have h1:cur.toList[j]?=(madeCells (Value.int .u32 0).cells (ls.length*1)).toList[j]?:=by rw[<-ht,oG,if_pos (by omega)]
  rw[<-yO,h1,show (Value.int .u32 0).cells=#[.int .u32 0] from rfl,toList_madeCells_one,Kk,if_pos (by omega)];rfl
def gM (w:World) (ls:LN) (e:Ending) (w':World):Prop:=
 ∃g,e = .returned (.tuple #[.slice (some ⟨g,0,none⟩) ls.length ls.length,.int .i64 0])/\Cs w' (some ⟨g,0,none⟩) ((di ls).map λx=>.int .u32 (x:Nat))/\w.heap.size<=g/\g<w'.heap.size/\Fr [] w w'
theorem Pu (a:OA) (cap:Nat) (ls:LN) (w:World) (h:Ri w a cap ls) (hle:∀l∈ls,l<=15) (hlen:ls.length<=400) (hw:weight ls<=32768) :
  Calls Tryz.prog 394 #[.slice a ls.length cap] w (gM w ls):=by
 obtain⟨L,hL⟩:=ah ls.length;have hc:=Tl a cap ls w h hle (by omega);rw[<-hL]at hlen hc ⊢;obtain⟨W,hW⟩:=ah (weight ls);rw[<-hW]at hc hw;have H:=aQ h hle hL hc hW;obtain⟨hu,⟨ti,km,ur,im,q7⟩,sC,hp⟩:=EB;clear h hle hL hc hW;have d1:decide ((400:Int)<L)=false:=by simp;omega
 have d2:decide ((32768:Int)<W)=false:=by simp;omega
 go_enter Tryz.func394,Tryz.ntmps394;go_upto_block 1 with (first|(go_at_call 398;refine H.out.2.2.2.1.mono ?_;rintro e w' ⟨rfl,rfl⟩)|(refine wpList_make_full _ rfl _ _ 545 rfl 0 202 ti (.int .u32 0) 1 hu km ur im .i64 .i64 (L:Nat) (L:Nat) L rfl rfl rfl rfl (by rw[q7];omega) (by unfold maxLen;omega) (by omega) ?_;intro w3 iw iG;have H3:=ai iw iG;clear iw iG));obtain⟨Q,hQ⟩:=ah w.heap.size;rw[<-hQ]at H3 ⊢;have aW:Cw w3 ls Q 1 0:=zh2 (by rw[<-H.out.2.2.1];exact H3.o0);have f3:Fr [] w w3:=(Fr.refl [] w).grown H3.l1 (λk hk=>by cases hk);have HS:=aq aW f3 hQ;clear aW f3 hQ H3 hu km ur im q7 sC hp d1 d2;go_wp2;go_loopg [7,8,9,10,38] 15 (λk s7 s8 s9 s10 s38 wr=>∃l nx:Nat,s8 = .int .i64 (l:Nat)/\s7 = .int .u32 (nx:Nat)/\l+k=16/\1<=l/\2*nx=gJ ls l/\Cw wr ls Q l 0/\Fr [] w wr);case atStart=>exact⟨1,0,rfl,rfl,rfl,ax _,rfl,HS.o0,HS.o1⟩
 case round=>
  obtain⟨l,nx,rfl,rfl,iF,kD,jZ,zv,hf⟩:=hrel;by_cases hl:l<=15
  ·obtain⟨k,rfl⟩:∃k,gk=k+1:=⟨gk-1,by omega⟩;have hb:=qqq ls H.out.2.1 (by rw[<-H.out.2.2.2.2];exact hw) l hl;obtain⟨wo,rfl⟩:∃wo:World,wo=wr:=⟨_,rfl⟩;obtain⟨n2,lv⟩:=ah (gJ ls l);rw[<-lv]at jZ hb;have HX:=aQ zv hf lv jZ iF;have zaO:nx<=16384:=by omega
   have e2:(nx:Int)*2=(n2:Int):=by omega
   clear zv hf lv jZ iF;go_upto_block 3 with fail;clear e2;go_wp2;go_loopg [7,9,10,38] L (λk s7 s9 s10 s38 wr=>∃i y:Nat,s38 = .int .i64 (i:Nat)/\s7 = .int .u32 (y:Nat)/\i+k=L/\y=n2+(ls.take i).count l/\Cw wr ls Q l i/\Fr [] w wr);case atStart=>exact⟨0,n2,rfl,rfl,by omega,by simp,HX.o0,HX.o1⟩
   case round=>
    obtain⟨i,y,rfl,rfl,cQ,hy,zv,hf⟩:=hrel;have fX:=JX (a:=l) (l:=ls.take i);rw[fH]at fX;have hyb:y<=40000:=by omega
    by_cases hi:i<L
    ·obtain⟨k2,rfl⟩:∃k2,gk=k2+1:=⟨gk-1,by omega⟩;have cN:i<ls.length:=by rw[<-H.out.2.2.1];exact hi
     obtain⟨g,o,rfl,hc⟩:=(H.out.1.fr hf).at cN;have eh:ae ls i=ls[i]:=by unfold ae;rw[dm cN];rfl
     have sD:=P8 ls i l cN;rw[eh]at sD;obtain⟨A,hA,gg,gF⟩:=zv;have zA:=aT hA i;obtain⟨x0,iz⟩:∃x,wr.cell? ⟨Q,i,none⟩=some x:=⟨_,by rw[cell_of hA];exact gF i cN⟩;have f2:Fr [Q] wr (wr.setCell ⟨Q,i,none⟩ (.int .u32 y)):=(Fr.refl [Q] wr).setCell (by simp) _;obtain⟨v,hv⟩:=ah (ls[i]);rw[<-hv]at hc eh sD;have HI:=eW (And.intro eh sD) (And.intro hA (And.intro gg gF)) hf hy cQ f2 hv;clear eh sD hA gg gF hf hy cQ f2 hv fX;by_cases hvl:v=l
     ·have d1:((v:Int)==(l:Int))=true:=by simp;omega
      go_wp2;go_roundg k2;case measure=>have:=HI.out.2.2.2.2.1;omega
      case rel=>
       obtain⟨⟨eh,sD⟩,⟨hA,gg,gF⟩,hf,hy,cQ,f2,_⟩:=HI.out;rw[if_pos hvl]at sD;refine⟨i+1,y+1,by go_num,by go_num,by omega,by omega,⟨_,df hA _,by simp[gg],λj hj=>?_⟩,hf.step f2 (λz hz=>.inr (by simp at hz;rw[hz,HS.l2];exact ax _))⟩;by_cases e:j=i
       ·subst e;rw[oI (by omega),zi9 (by omega) (by rw[eh,hvl]),hy,HX.o2]
       ·rw[cV (by omega),XI (.inl e)];exact gF j hj
     ·have d1:((v:Int)==(l:Int))=false:=by simp;omega
      go_wp2;go_roundg k2;case measure=>have:=HI.out.2.2.2.2.1;omega
      case rel=>obtain⟨⟨eh,sD⟩,⟨hA,gg,gF⟩,hf,hy,cQ,f2,_⟩:=HI.out;rw[if_neg hvl]at sD;exact⟨i+1,y,by go_num,by go_num,by omega,by omega,⟨A,hA,gg,λj hj=>by rw[XI (.inr (by rw[eh];exact hvl))];exact gF j hj⟩,hf⟩
    ·obtain rfl:i=L:=by omega
     have ht:ls.take i=ls:=lL (by rw[<-H.out.2.2.1];exact ax _);rw[ht]at hy;have HI:=aq zv hf hy;clear zv hf hy fX ht cQ;go_wp2;go_roundg k;case measure=>have:=HX.l4;omega
     case rel=>
      have iF:=HX.l4;obtain⟨⟨A,hA,gg,gF⟩,hf,hy⟩:=HI.out;refine⟨l+1,y,by go_num,rfl,by omega,by omega,?_,⟨A,hA,gg,λj hj=>?_⟩,hf⟩
      ·rw[gJ,if_neg (by omega),<-HX.o2,hy]
      ·rw[<-zh1 (by omega) hj,<-H.out.2.2.1];exact gF j hj
  ·obtain rfl:l=16:=by omega
   obtain⟨A,hA,gg,gF⟩:=zv;have HI:=aA hA gg gF hf;clear hA gg gF hf jZ iF;go_wp2;go_ret2;obtain⟨hA,gg,gF,hf⟩:=HI.out;unfold gM;rw[<-H.out.2.2.1];refine⟨Q,rfl,.inr ⟨Q,0,rfl,λj v hv=>?_⟩,by rw[HS.l2];exact ax _,lt_of_block hA,hf⟩;have hj:j<ls.length:=by have:=(nF.1 hv).1;simpa[di] using this
   rw[iN,cell_of hA,gF j hj,zja (H.out.2.1 _ (Dh hj))];rw[<-hv];simp[di,hj]
open bits
def jW (ls:LN) (l:Nat):Nat:=if l=0 then 0 else (syms ls l ls.length).length
structure xQ (w:World) (P D:Nat) (ls:LN) (first:Nat->Nat) (sa:Nat->Option Addr) (sc:Nat->Nat):Prop where
 box:∃A,w.heap[P]?=some (.cells A 551 (0,0))/\A.size=33/\(∀l,l<16->A[l]?=some (.int .u32 (first l:Nat)))/\(∀l,l<16->A[16+l]?=some (.slice (sa l) (jW ls l) (sc l)))/\A[32]?=some (.int .i64 (D:Nat))
 fst:∀l,0<jW ls l->first l=gJ ls l
 top:∀s,s<ls.length->ae ls s<=D
 low:D<=15
 low':∀l,first l<=32768
 syms:∀l,l<16->0<l->Ri w (sa l) (sc l) (syms ls l ls.length)
 len:ls.length<=400
theorem xQ.cells {w:World} {P D:Nat} {ls:LN} {first:Nat->Nat} {sa:Nat->Option Addr} {sc:Nat->Nat} (h:xQ w P D ls first sa sc) :
  (∀l,l<16->w.cell? ⟨P,l,none⟩=some (.int .u32 (first l:Nat)))/\(∀l,l<16->w.cell? ⟨P,16+l,none⟩=some (.slice (sa l) (jW ls l) (sc l)))/\w.cell? ⟨P,32,none⟩=some (.int .i64 D):=by
 obtain⟨A,hA,_,h1,h2,h3⟩:=h.box;exact⟨λl hl=>by rw[cell_of hA];exact h1 l hl,λl hl=>by rw[cell_of hA];exact h2 l hl,by rw[cell_of hA];exact h3⟩
theorem xQ.fr {w w':World} {P D:Nat} {ls:LN} {first:Nat->Nat} {sa:Nat->Option Addr} {sc:Nat->Nat} (h:xQ w P D ls first sa sc) (f:Fr [] w w'):xQ w' P D ls first sa sc:=by obtain⟨A,hA,h1⟩:=h.box;exact⟨⟨A,f.ag hA (by simp),h1⟩,h.fst,h.top,h.low,h.low',λl h1 h2=>(h.syms l h1 h2).fr f,h.len⟩
theorem YN (ls:LN) (l:Nat):jW ls l<=ls.length:=by
 unfold jW;split
 ·omega
 ·have:=BN (λs=>ae ls s==l) (List.range ls.length);rw[EW]at this;exact this
theorem qxj {ls:LN} {n v l:Nat} (h:0<l):meets ls n v l=(decide (0<jW ls l)&&(decide (gJ ls l<(v+1)*2^(l-n))&&decide (v*2^(l-n)<gJ ls l+jW ls l))):=by unfold meets jW;rw[if_neg (by omega)]
theorem zd7 (P D:Nat) (ls:LN) (first:Nat->Nat) (sa:Nat->Option Addr) (sc:Nat->Nat) (v n:Nat) (w:World) (h:xQ w P D ls first sa sc) (hn:n<=15) (hv:v<2^n) :
  Calls Tryz.prog 399 #[.pointer (some ⟨P,0,none⟩),.int .u32 v,.int .i64 n] w λe w'=>e = .returned (.bool (eU ls n v))/\Fr [] w w':=by
 have H:=ai h hv;have hD:=h.low;have hlen:=h.len;clear h hv;go_enter Tryz.func399,Tryz.ntmps399;go_upto_block 0 with fail;go_wp2;go_loopg [7,8,9,10] 16 (λk s7 s8 s9 s10 wr=>∃(l:Nat),s7 = .int .i64 (l:Nat)/\l+k=17+n/\n<l/\Fr [] w wr/\∀m,n<m->m<l->meets ls n v m=false);case atStart=>exact⟨n+1,by go_num,by omega,by omega,Fr.refl [] w,λm h1 h2=>by omega⟩
 case round=>
  obtain⟨l,rfl,iF,oW,hf,mg⟩:=hrel;obtain⟨bR,gp,zC⟩:=(H.out.1.fr hf).cells;have HF:=af hf;clear hf;by_cases hl:l<=D
  ·obtain⟨k,rfl⟩:∃k,gk=k+1:=⟨gk-1,by omega⟩;have hm:=qxj (ls:=ls) (n:=n) (v:=v) (l:=l) (by omega);have jq:(v+1)*2^(l-n)<=32768:=by have h1:(v+1)*2^(l-n)<=2^n*2^(l-n):=Aw _ H.out.2;rw[<-mB,show n+(l-n)=l by omega]at h1;exact bP h1 (bP (lJ (by decide) (show l<=15 by omega)) (by decide))
   have c1:=bR l (by omega);have c2:=gp l (by omega);obtain⟨f1,ko⟩:=ah (first l);obtain⟨m1,j7⟩:=ah (jW ls l);obtain⟨x1,j6⟩:=ah ((v+1)*2^(l-n));obtain⟨x0,iz⟩:=ah (v*2^(l-n));have VE:f1<=32768:=by rw[ko];exact H.out.1.low' l
   have Vm:m1<=400:=by rw[j7];have:=YN ls l;omega
   rw[<-j6,<-iz,<-j7]at hm;rw[<-ko]at c1;rw[<-j7]at c2;rw[<-j6]at jq;have zaJ:x0<=x1:=by rw[iz,j6];exact Aw _ (by omega)
   have AZ:0<m1->f1=gJ ls l:=λh0=>by rw[ko];exact H.out.1.fst l (by omega)
   have HI:=eW mg hm AZ j6 iz ko j7;clear mg hm AZ ko j7 bR gp;have nL:(n:Int)<=l:=by omega
   go_upto_region 5 with fail;have e0:(v:Int)*2^(l-n)%4294967296=(x0:Nat):=by
    have:((v:Int)*2^(l-n))=(x0:Nat):=by rw[iz];push_cast;rfl
    rw[this];omega
   have LW:v+1<=32768:=bP H.out.2 (bP (lJ (by decide) hn) (by decide));have e1:((v:Int)+1)*2^(l-n)%4294967296=(x1:Nat):=by
    have:(((v:Int)+1)*2^(l-n))=(x1:Nat):=by rw[j6];push_cast;rfl
    rw[this];omega
   clear iz j6;go_quiet (fail);rw[e0,e1];clear e0 e1;have b0:decide ((0:Int)<(m1:Int))=decide (0<m1):=by simp
   have b1:decide ((f1:Int)<(x1:Int))=decide (f1<x1):=by simp
   have b2:decide ((x0:Int)<(f1:Int)+m1)=decide (x0<f1+m1):=by rw[decide_eq_decide];omega
   have next:(meets ls n v l=false)->∀m,n<m->m<l+1->meets ls n v m=false:=λh m h1 h2=>by
    rcases Nat.lt_succ_iff_lt_or_eq.1 h2 with h3|h3
    ·exact HI.o0 m h1 h3
    ·rw[h3];exact h
   have HN:=af next
   clear next
   by_cases p0:0<m1
   ·have p0':=decide_eq_true p0;rw[p0']at b0;by_cases p1:f1<x1
    ·rw[decide_eq_true p1]at b1;by_cases p2:x0<f1+m1
     ·rw[decide_eq_true p2]at b2;go_wp2;go_ret;refine⟨?_,?_⟩
      ·rw[qxi oW (by rw[HI.o1,<-HI.o2 p0];simp[p0,p1,p2])];rfl
      ·exact HF.out.trans (Fr.drewN [] _ _)
     ·rw[decide_eq_false p2]at b2;go_wp2;go_roundg k;case measure=>omega
      case rel=>exact⟨l+1,by go_num,by omega,by omega,HF.out.trans (Fr.drewN [] _ _),HN.out (by rw[HI.o1,<-HI.o2 p0];simp[p2])⟩
    ·rw[decide_eq_false p1]at b1;go_wp2;go_roundg k;case measure=>omega
     case rel=>exact⟨l+1,by go_num,by omega,by omega,HF.out.trans (Fr.drewN [] _ _),HN.out (by rw[HI.o1,<-HI.o2 p0];simp[p1])⟩
   ·rw[decide_eq_false p0]at b0;go_wp2;go_roundg k;case measure=>omega
    case rel=>exact⟨l+1,by go_num,by omega,by omega,HF.out.trans (Fr.drewN [] _ _),HN.out (by rw[HI.o1];simp[p0])⟩
  ·have d0:decide ((l:Int)<=D)=false:=by simp;omega
   go_wp2;go_ret;exact⟨by rw[qts H.out.1.top λm h1 h2=>mg m h1 (by omega)];rfl,HF.out⟩
end huf
namespace huf
open Go Go.RowKit lib bm bl
variable {S ls:LN} {w w' w1:World} {N Q cap n size:Nat} {F first:Nat->Nat} {ao:OA} {xs:LV}
theorem xQ.uD {P D:Nat} {sa:Nat->Option Addr} {sc:Nat->Nat} (h:xQ w P D ls first sa sc) (f:Fr S w w') (hP:P∉S) (hs:∀l,l<16->0<l->∀x∈ag (sa l),x∉S):xQ w' P D ls first sa sc:=by obtain⟨A,hA,h1⟩:=h.box;exact⟨⟨A,f.ag hA hP,h1⟩,h.fst,h.top,h.low,h.low',λl h1 h2=>⟨(h.syms l h1 h2).cs.fr f (hs l h1 h2),(h.syms l h1 h2).le,(h.syms l h1 h2).max,(h.syms l h1 h2).nil⟩,h.len⟩
theorem zc6 {v:Nat} (hf:0<jW ls n->first n=gJ ls n) (h:¬(0<n/\first n<=v/\v-first n<jW ls n)):gU ls n v=none:=by
 refine zaz ?_;by_cases h0:n=0
 ·exact .inl h0
 ·right;by_cases hs:0<jW ls n
  ·have:=hf hs;unfold jW at h hs;rw[if_neg h0]at h hs;omega
  ·unfold jW at hs;rw[if_neg h0]at hs;omega
theorem JZ (b:Bool):rh b<2:=by cases b<;>decide
theorem zio (v:Nat) (b:Bool) (hv:v<65536):bits .or .u32 ((v:Int)*2) (rh b:Nat)=((2*v+rh b:Nat):Int):=by
 have hb:rh b<2:=by cases b<;>decide
 have e:(v:Int)*2=((v*2:Nat):Int):=by omega
 have h1:=Ik (rh b) v 1 (by simpa using hb);rw[e,u32_or_nat (v*2) (rh b) (by omega) (by omega),Nat.or_comm,show v*2=v*2^1 from rfl,h1];congr 1;omega
theorem xW (P D:Nat) (ls:LN) (first:Nat->Nat) (sa:Nat->Option Addr) (sc:Nat->Nat) (p:Nat) (F:LN) (bs:LB) (at_:Nat) (w:World) (h:xQ w P D ls first sa sc) (hr:bits.Rd w p F bs at_)
  (hP:P≠p) (hs:∀l,l<16->0<l->∀x∈ag (sa l),x≠p) (s m c:Nat) (fk:bT ls 15 0 0 ((ak bs).drop at_)=(s,m,c)) :
  Calls Tryz.prog 395 #[.pointer (some ⟨P,0,none⟩),.pointer (some ⟨p,0,none⟩)] w λe w'=>e = .returned (.tuple #[.int .i64 s,.int .i64 c])/\bits.Rd w' p F bs (at_+m)/\Fr [p] w w':=by
 have hlen:=h.len;have H:=aQ h hr hP hs fk;clear h hr hP hs fk;go_enter Tryz.func395,Tryz.ntmps395;go_upto_block 0 with fail;go_wp2;go_loopg [6,7,8,9,10] 16 (λk s6 s7 s8 s9 s10 wr=>∃(n v:Nat),s6 = .int .u32 (v:Nat)/\s7 = .int .i64 (n:Nat)/\n+k=16/\0<k/\v<2^n/\bits.Rd wr p F bs (at_+n)/\Fr [p] w wr/\bT ls (15-n) n v ((ak bs).drop (at_+n))=(s,m,c));case atStart=>exact⟨0,0,rfl,rfl,by omega,by omega,by decide,H.o1,Fr.refl [p] w,H.l4⟩
 case round=>
  obtain⟨n,v,rfl,rfl,FR,MT,hv,eY,hf,fk⟩:=hrel;obtain⟨k,rfl⟩:∃k,gk=k+1:=⟨gk-1,by omega⟩;have hT:=H.o0.uD hf (by simpa using H.o2) (λl h1 h2 x hx=>by simpa using H.o3 l h1 h2 x hx);obtain⟨bR,gp,zC⟩:=hT.cells;have c1:=bR n (by omega);have c2:=gp n (by omega);have I7:v<65536:=fM hv (bP (lJ (by decide) (show n<=15 by omega)) (by decide));obtain⟨f1,ko⟩:=ah (first n);obtain⟨m1,j7⟩:=ah (jW ls n);have VE:f1<=32768:=by rw[ko];exact hT.low' n
  have Vm:m1<=400:=by rw[j7];have:=YN ls n;omega
  have zt:=hT.fst n;rw[<-ko,<-j7]at zt;rw[<-ko]at c1;rw[<-j7]at c2;have HR:=lf hv eY hf fk hT zt ko j7;clear hv eY hf fk hT zt ko j7 bR gp zC;by_cases hit:0<n/\f1<=v/\v-f1<m1
  ·obtain⟨i0,i1,i2⟩:=hit;obtain⟨y,rfl⟩:∃y,v=f1+y:=⟨v-f1,by omega⟩;have hy:y<m1:=by omega
   have DT:n≠0:=by omega
   have jQ:(syms ls n ls.length).length=m1:=by rw[HR.out.2.2.2.2.2.2.2];unfold jW;rw[if_neg DT]
   obtain⟨g,o,ha,fX⟩:=(HR.out.2.2.2.2.1.syms n (by omega) i0).at (i:=y) (by omega);obtain⟨z,hz⟩:∃z,z=(syms ls n ls.length)[y]'(by omega):=⟨_,rfl⟩;rw[<-hz]at fX;rw[ha]at c2;have hh:gU ls n (f1+y)=some z:=by have e:=HR.out.2.2.2.2.2.1 (by omega);refine zay i0 (by omega) ?_;rw[show f1+y-gJ ls n=y by omega,dm (by omega),hz]
   have fk:=HR.out.2.2.2.1;rw[IG hh]at fk;obtain⟨rfl,rfl,rfl⟩:z=s/\n=m/\0=c:=by simpa using fk
   have b0:decide ((0:Int)<n)=true:=by simpa using i0
   have b1:decide ((f1:Int)<=(f1:Int)+y)=true:=by simp;omega
   have b2:decide ((y:Int)<m1)=true:=by simp;omega
   have b3:(f1:Int)+y-f1=y:=by omega
   clear i0 i1 i2 jQ hz hh fk ha;go_upto_region 6 with fail;go_quiet (fail);go_wp2;go_ret2;exact⟨rfl,bits.EL HR.out.2.1 (Fr.drewN [] _ _) (by simp),HR.out.2.2.1.trans (Fr.drewN [p] _ _)⟩
  ·have FT:gU ls n v=none:=zc6 (first:=first) (by rw[<-HR.out.2.2.2.2.2.2.1,<-HR.out.2.2.2.2.2.2.2];exact HR.out.2.2.2.2.2.1) (by rw[<-HR.out.2.2.2.2.2.2.1,<-HR.out.2.2.2.2.2.2.2];exact hit);have HM:=af FT;clear FT;go_upto_region 5 with fail;go_cut [44] from 21 to 44 (λs44 wc=>s44 = .bool false/\wr=wc)
   case first=>
    by_cases i0:0<n
    ·have b0:decide ((0:Int)<n)=true:=by simpa using i0
     by_cases i1:f1<=v
     ·have b1:decide ((f1:Int)<=v)=true:=by simpa using i1
      have b2:decide ((v:Int)-f1<m1)=false:=by simp;omega
      clear hit;go_wp2;go_meet;case rel=>exact⟨rfl,rfl⟩
     ·have b1:decide ((f1:Int)<=v)=false:=by simpa using i1
      clear hit;go_wp2;go_meet;case rel=>exact⟨rfl,rfl⟩
    ·have b0:decide ((0:Int)<n)=false:=by simpa using i0
     clear hit;go_wp2;go_meet;case rel=>exact⟨rfl,rfl⟩
   case rest=>
    obtain⟨rfl,rfl⟩:=hcut;have On:=af (zd7 P D ls first sa sc v n wr HR.out.2.2.2.2.1 (by omega) HR.out.1);go_upto_region 7 with fail;go_cut [69] from 61 to 69 (λs69 wc=>s69 = .bool (n==15||!eU ls n v)/\Fr [] wr wc)
    case first=>
     by_cases i0:n=15
     ·have b0:((n:Int)==15)=true:=by simp;omega
      have b1:(n==15||!eU ls n v)=true:=by simp[i0]
      clear hit;go_wp2;go_meet;case rel=>exact⟨by rw[b1],Fr.refl [] _⟩
     ·have b0:((n:Int)==15)=false:=by simp;omega
      have b1:(n==15||!eU ls n v)=!eU ls n v:=by simp[i0]
      clear hit;go_wp2_with (go_at_call 399;refine On.out.mono ?_;rintro e w2 ⟨rfl,f2⟩;have H2:=af f2;clear f2);go_meet;case rel=>exact⟨by rw[b1],H2.out⟩
    case rest=>
     obtain⟨rfl,f2⟩:=hcut;have H2:=af f2;clear f2;have h2:Fr [p] w wc:=HR.out.2.2.1.trans (H2.out.mono (by simp));have r2:bits.Rd wc p F bs (at_+n):=bits.EL HR.out.2.1 H2.out (by simp);have H3:=ai h2 r2;clear h2 r2;by_cases e1:(n==15||!eU ls n v)=true
     ·have fk:bT ls (15-n) n v ((ak bs).drop (at_+n))=(0,n,3):=by
       by_cases pX:n=15
       ·subst pX;exact S5 HM.out
       ·refine T8 HM.out ?_;simpa[pX] using e1
      rw[HR.out.2.2.2.1]at fk;obtain⟨rfl,rfl,rfl⟩:s=0/\m=n/\c=3:=by simpa using fk
      rw[e1];clear hit fk;go_wp2;go_ret2;exact⟨rfl,H3.l1,H3.o0⟩
     ·have Ws:(n==15||!eU ls n v)=false:=by simpa using e1
      have pX:n≠15:=by intro h;simp[h]at e1
      have hmr:eU ls n v=true:=by simp at e1;exact e1.2
      rw[Ws];by_cases hq:at_+n+1<=8*bs.length
      ·have cI:=Xw p F bs (at_+n) 1 wc H3.l1 (by decide) hq;have Jj:(ak bs).length=8*bs.length:=by simp[su]
       obtain⟨b,t,xD⟩:∃b t,(ak bs).drop (at_+n)=b::t:=by
        cases hd:(ak bs).drop (at_+n) with
        | nil=>have:=congrArg List.length hd;rw[gN,Jj]at this;simp at this;omega
        | cons b t=>exact⟨b,t,rfl⟩
       have ht:(ak bs).drop (at_+(n+1))=t:=by rw[<-pP,<-BF,xD];rfl
       have Bd:cz (((ak bs).drop (at_+n)).take 1)=rh b:=by rw[xD];cases b<;>rfl
       rw[Bd]at cI;have fk:=HR.out.2.2.2.1;rw[show 15-n=(15-(n+1))+1 by omega,xD,PG HM.out hmr,<-ht]at fk;have HK:=ai cI fk;clear cI Jj xD ht Bd fk hit;go_upto_region 10 with (go_at_call 378;refine HK.out.1.mono ?_;rintro e w5 ⟨rfl,r5,f5⟩;have H5:=ai r5 f5;clear r5 f5);go_wp2;have Qq:=zio v b I7;rw[Qq];go_roundg k;case measure=>omega
       case rel=>exact⟨n+1,2*v+rh b,rfl,by go_num,by omega,by omega,by rw[qJ];have:=HR.out.1;have:=JZ b;omega,H5.o0,H3.o0.trans H5.l1,HK.out.2⟩
      ·have cI:=bits.ZF p F bs (at_+n) 1 wc H3.l1 (by omega);have hd:(ak bs).drop (at_+n)=[]:=Ax (by rw[su];omega);have fk:=HR.out.2.2.2.1;rw[show 15-n=(14-n)+1 by omega,hd,Ua HM.out hmr]at fk;obtain⟨rfl,rfl,rfl⟩:0=s/\n=m/\4=c:=by simpa using fk
       have HK:=af cI;clear cI hd fk hit;go_upto_region 10 with (go_at_call 378;refine HK.out.mono ?_;rintro e w5 ⟨rfl,r5,f5⟩;have H5:=ai r5 f5;clear r5 f5);go_wp2;go_ret2;exact⟨rfl,H5.o0,H3.o0.trans (H5.l1.mono (by simp))⟩
structure Made (w w':World) (e:TypeId) (size:Nat) (ao:OA) (n cap:Nat) (xs:LV):Prop where
 own:w'.ownsRow 0 e size (.slice ao n cap) n xs
 fr:Fr [] w w'
 new:∀x∈ag ao,w.heap.size<=x
 le:n<=cap
 max:cap<=maxLen
 nil:ao=none->cap=0
theorem Made.none (w:World) (e:TypeId) (size:Nat):Made w w e size none 0 0 []:=⟨⟨by simp,.inl ⟨rfl,rfl⟩⟩,.refl _ w,by simp[ag],ax _,eE _,λ_=>rfl⟩
theorem Made.app {w2:World} {e:TypeId} {cM:OA} {m dr:Nat} {ys:LV} (h:Made w w1 e size ao n cap xs) (h2:aN w1 w2 e size (ag ao) cM m dr ys):Made w w2 e size cM m dr ys:=
 ⟨h2.own,h.fr.step h2.fr (λx hx=>.inr (h.new x hx)),λx hx=>by
  rcases h2.at_ x hx with k|k
  ·exact h.new x k
  ·rw[k];exact h.fr.size,h2.le,h2.max,h2.nil⟩
theorem Made.ft {w2:World} {e:TypeId} (h:Made w w1 e size ao n cap xs) (f:Fr [] w1 w2):Made w w2 e size ao n cap xs:=
 ⟨dp h.own f (by simp),h.fr.trans f,h.new,h.le,h.max,h.nil⟩
theorem Made.lt {e:TypeId} (h:Made w w' e size ao n cap xs):∀x∈ag ao,x<w'.heap.size:=λ_ hx=>si h.own (rz hx)
theorem Made.pre {w0:World} {e:TypeId} (h:Made w w' e size ao n cap xs) (f:Fr [] w0 w):Made w0 w' e size ao n cap xs:=
 ⟨h.own,f.trans h.fr,λx hx=>bP f.size (h.new x hx),h.le,h.max,h.nil⟩
theorem rA:aw Tryz.prog 348 3 (.int .i64 0) 1 8:=aw.of Tryz.underlying348 (by kernel_rfl) rfl (by decide)
theorem SH:(Tryz.prog.info? 3).map (λi=>(i.zero,i.size,i.bytes))=some (some (.int .i64 0),1,8):=by kernel_rfl
def ints (l:LN):List Value:=l.map λx=>.int .i64 (x:Nat)
theorem Ph (l:LN):∀u∈ints l,u.oneCell'=true:=by intro u hu;simp only[ints,mU]at hu;obtain⟨x,_,rfl⟩:=hu;rfl
theorem qmu (l:LN):(ints l).length=l.length:=by simp[ints]
theorem Ri.take {w:World} {a:OA} {cap:Nat} {xs:LN} (h:Ri w a cap xs) (n:Nat):Ri w a cap (xs.take n):=by
 refine⟨?_,by have:=h.le;rw[fH];omega,h.max,h.nil⟩;rcases h.cs with h0|⟨g,o,e,hc⟩
 ·left;have:xs=[]:=by simpa using h0
  rw[this];simp
 ·refine .inr ⟨g,o,e,λj v hv=>hc j v ?_⟩;rw[EJ,oG]at hv;split at hv
  ·exact hv
  ·cases hv
theorem O2 {xs:LN} (h:Made w w' 3 1 ao n cap (ints xs)) (hn:n=xs.length):Ri w' ao cap xs:=⟨qK h.own,by rw[<-hn];exact h.le,h.max,h.nil⟩
def Ow (w:World) (Q N:Nat) (F:Nat->Nat):Prop:=∃A,w.heap[Q]?=some (.cells A 3 (0,0))/\A.size=N/\∀s,s<N->A[s]?=some (.int .i64 (F s:Nat))
theorem Ow.cell {w:World} {Q N:Nat} {F:Nat->Nat} (h:Ow w Q N F) {s:Nat} (hs:s<N):w.cell? ⟨Q,s,none⟩=some (.int .i64 (F s:Nat)):=by obtain⟨A,hA,_,hF⟩:=h;rw[cell_of hA,hF s hs]
theorem Ow.frozen {w:World} {Q N:Nat} {F:Nat->Nat} (h:Ow w Q N F) (s:Nat):w.frozen? ⟨Q,s,none⟩=false:=by obtain⟨A,hA,_,hF⟩:=h;exact aT hA s
theorem Ow.set (h:Ow w Q N F) {s:Nat} (hs:s<N) (v:Nat):Ow (w.setCell ⟨Q,s,none⟩ (.int .i64 v)) Q N (λt=>if t=s then v else F t):=by
 obtain⟨A,hA,hn,hF⟩:=h;refine⟨_,df hA _,by simp[hn],λt ht=>?_⟩;by_cases e:t=s
 ·subst e;rw[oI (by omega)];simp only[if_true]
 ·rw[cV (by omega)];simp only[if_neg e];exact hF t ht
theorem Ow.fr (h:Ow w Q N F) (f:Fr S w w') (hS:Q∉S):Ow w' Q N F:=by obtain⟨A,hA,hn⟩:=h;exact⟨A,f.ag hA hS,hn⟩
theorem Ow.congr {G:Nat->Nat} (h:Ow w Q N F) (e:∀s,s<N->F s=G s):Ow w Q N G:=by obtain⟨A,hA,hn,hF⟩:=h;exact⟨A,hA,hn,λs hs=>by rw[hF s hs,e s hs]⟩
theorem Ow.cs (h:Ow w Q N F):Cs w (some ⟨Q,0,none⟩) (ints ((List.range N).map F)):=by
 refine .inr ⟨Q,0,rfl,λj v hv=>?_⟩;have hj:j<N:=by have:=(nF.1 hv).1;simpa[ints] using this
 rw[iN,h.cell hj,<-hv];simp[ints,hj]
theorem O0 (h:w.ownsRow 0 3 1 (.slice (some ⟨Q,0,none⟩) N N) N (madeCells (Value.int .i64 0).cells (N*1)).toList):Ow w Q N (λ_=>0):=by
 obtain⟨o1,o2⟩:=h;rcases o2 with⟨o2,_⟩|⟨g,c',cur,o2,_,hg,_,_,cZ,ht⟩
 ·cases o2
 ·simp only[kJ,fI,rB,and_true,true_and]at o2;obtain⟨rfl,rfl⟩:=o2;refine⟨cur,hg,by omega,λj hj=>?_⟩;have h1:cur.toList[j]?=(madeCells (Value.int .i64 0).cells (N*1)).toList[j]?:=by rw[<-ht,oG,if_pos (by omega)]
  rw[<-yO,h1,show (Value.int .i64 0).cells=#[.int .i64 0] from rfl,toList_madeCells_one,Kk,if_pos (by omega)];rfl
end huf
namespace defl
open Go Go.RowKit lib bm bl huf
def oK:List Nat:=[16,17,18,0,8,7,9,6,10,5,11,4,12,3,13,2,14,1,15]
def ord (i:Nat):Nat:=oK[i]?.getD 0
theorem OP (i:Nat):ord i<19:=by
 unfold ord;cases h:oK[i]? with
 | none=>simp
 | some x=>have:=j5 h;simp only[oK,eX,mV,or_false]at this;simp only[ES];omega
theorem qqp (O nc:Nat) (h:nc<=19) (w:World):(Instr.sliceAt 541 (.pointer (some ⟨O,0,none⟩)) none (some (.int .i64 nc)) none).run Tryz.prog w = .ok (.slice (some ⟨O,0,none⟩) nc 19) w:=by
 have e:Tryz.prog.arrayLen 541=19:=by kernel_rfl
 have el:Tryz.prog.elem 541=3:=by kernel_rfl
 have hu:Tryz.prog.underlying 541=some (.array 19 3):=by kernel_rfl
 have:=run_sliceAt_array_h (P:=Tryz.prog) (t:=541) (w:=w) ⟨O,0,none⟩ (by rw[e,el];exact hu) .i64 (nc:Nat) (by omega) (by rw[e];omega);rw[this,e,el];obtain⟨i,hi,_,hs,_⟩:=info_parts SH;simp[sizeOf,typeInfo,hi,slicedAt,Result.andThen];exact Kl O 0 0
end defl

end Go.Proofs.YticadfhpolhkeaaGreatDoor