/-
  Texts of this proof, one behind the other: DeltaNum, DeltaApp, RsFin, RsClone, RsIdx, RsSt.
-/
import Derived.Test.YtkmpfgpfbmeihaaGreatDoorS19
set_option maxHeartbeats 16000000
set_option maxRecDepth 100000
set_option linter.unusedVariables false
set_option linter.unusedSimpArgs false
namespace Go.Proofs.YtkmpfgpfbmeihaaGreatDoor.delta
open Go Go.RowKit lib bm
theorem sliceU8:SliceTy Tryz.prog 23 5 (.int .u8 0) 1 1:=SliceTy.of Tryz.underlying23 (by kernel_rfl) rfl (by decide)
theorem qc0 (bs:List UInt8):∀u∈bs.map bv,u.oneCell'=true:=by intro u hu;obtain⟨b,_,rfl⟩:=qcj.1 hu;rfl
theorem qph:∀(k n:Nat),n<128^(k+1)→(numb n).length≤k+1
 | 0,n,h=>by rw[qh9 (by simp at h;omega)];simp
 | k+1,n,h=>by
  by_cases hn:n≤127
  ·rw[qh9 hn];simp
  ·rw[qpi (by omega),qao];have:=qph k (n/128) ((qc7 (by decide)).2 (by rw[qcc,<-pow128];exact h));omega
theorem or128 (n:Nat):bits .or .u8 ((n:Int)%256) 128=(((UInt8.ofNat (n%128+128)).toNat:Nat):Int):=by
 have h:∀x:Fin 256,bits .or .u8 (x.1:Int) 128=((x.1%128+128:Nat):Int):=by decide +kernel
 have e:=h ⟨n%256,by omega⟩;simp only at e;rw[qhr (by omega),show (n:Int)%256=((n%256:Nat):Int) from by omega,e];omega
structure Nb (w wr:World) (n0 n:Nat) (a:Option Addr) (c:Nat) (out:List UInt8):Prop where
 own:wr.ownsRow 0 5 1 (.slice a out.length c) out.length (out.map bv)
 fr:Fr [] w wr
 new:∀x∈blk a,w.heap.size≤x
 all:out++numb n=numb n0
theorem zbv (w:World) (n:Nat):Nb w w n n none 0 []:=⟨qch _ _ _ _,Fr.refl _ _,by simp[blk],rfl⟩
theorem Nb.step {w wr w1 w2:World} {n0 n n':Nat} {a a2:Option Addr} {c c2:Nat} {out:List UInt8} {x:UInt8} (h:Nb w wr n0 n a c out) (f:Fr [] wr w1) (A:Appended w1 w2 5 1 (blk a) a2 (out.length+1) c2 (out.map bv++[bv x])) :
  w2.ownsRow 0 5 1 (.slice a2 (out++[x]).length c2) (out++[x]).length ((out++[x]).map bv)∧Fr [] w w2∧∀y∈blk a2,w.heap.size≤y:=by
 refine⟨by rw[qab,qbe];exact A.own,(h.fr.trans f).step A.fr λy hy=>.inr (h.new y hy),λy hy=>?_⟩;rcases A.at_ y hy with h1|h1
 ·exact h.new y h1
 ·have:=(h.fr.trans f).size;omega
theorem qvl (n:Int) (w:World) (hn:n≤9223372036854775807):Calls Tryz.prog 97 #[.int .i64 n] w (NewBytes w (numb n.toNat)):=by
 obtain⟨n0,hn0⟩:=zex n.toNat;have hm:((n0:Nat):Int)=if 0>n then 0 else n:=by rw[hn0];split<;>omega
 have hlt:n0≤9223372036854775807:=by omega
 have hl9:=qph 8 n0 (qdr hlt (by decide));have HM:=zhd hm;rw[<-hn0];clear hm hn0;go_enter Tryz.func97,Tryz.ntmps97;go_upto_block 0 with (refine qd8 (n0:Int) rfl _ _ _ rfl n 0 rfl rfl HM.out ?_);go_cut [0,3] from 6 to 16 (λs0 s3 wz=>∃n a c out,s0 = .int .i64 (n:Nat)∧s3 = .slice a out.length c∧n≤127∧Nb w wz n0 n a c out)
 case first=>
  go_wp2;go_loopg [0,3] n0 (λk s0 s3 wr=>∃n a c out,s0 = .int .i64 (n:Nat)∧s3 = .slice a out.length c∧n≤k∧n≤9223372036854775807∧Nb w wr n0 n a c out);case atStart=>exact⟨n0,none,0,[],rfl,rfl,qae _,hlt,zbv w n0⟩
  case round=>
   obtain⟨m,a,c,out,rfl,rfl,hk,hm9,h⟩:=hrel;have H:=zhd h;have hol:out.length≤9:=by have:=congrArg List.length h.all;rw[qab]at this;omega
   clear h;by_cases h127:127<m
   ·have ho:=or128 m;obtain⟨x,hx⟩:=zex (UInt8.ofNat (m%128+128));rw[<-hx]at ho;obtain⟨S,hS⟩:=zex (blk a);have HX:=zhd2 hx hS;have f0:Fr [] wr (wr.alloc (.cells #[.int .u8 (x.toNat:Nat)] 5)):=(Fr.refl [] wr).alloc _;have ownA:=qa7 H.out.own f0 (by simp);have cA:Cs (wr.alloc (.cells #[.int .u8 (x.toNat:Nat)] 5)) (some ⟨wr.heap.size,0,none⟩) [bv x]:=qdp _ _ _ 5 (qay wr _);have HA:=zhd3 ownA cA f0;clear ownA cA f0 hx hS;go_wp2_with (refine qba sliceU8 rfl _ _ rfl (.slice a out.length c) out.length (out.map bv) S rfl (by rw[qby,HX.l1]) HA.out.1 (some ⟨wr.heap.size,0,none⟩) 1 1 [bv x] rfl (by decide) (by simp) HA.out.2.1 (by rfl) (qc0 [x]) (by omega) (by unfold maxLen;omega) ?_;intro a2 c2 w2 A1;have HA1:=zhd A1;clear A1);go_roundg (m/128);case measure=>omega
    case rel=>have A1:=HA1.out;rw[HX.l1]at A1;obtain⟨h1,h2,h3⟩:=H.out.step (n':=0) HA.out.2.2 A1;refine⟨m/128,a2,c2,out++[x],by go_num,by rw[qab];rfl,qae _,by omega,h1,h2,h3,?_⟩;rw[<-H.out.all,qpi h127,HX.o0,qas];rfl
   ·go_wp2;go_meet;exact⟨m,a,c,out,rfl,rfl,by omega,H.out⟩
 case rest=>
 obtain⟨m,a,c,out,rfl,rfl,hm,h⟩:=hcut;have H:=zhd h;have hall:=h.all;rw[qh9 hm]at hall;have hol:out.length+1=(numb n0).length:=by rw[<-hall];simp
 have HALL:=zhd hall;have hol9:out.length≤9:=by omega
 have HOL:=zhd hol;clear h hall hol;obtain⟨x,hx⟩:=zex (UInt8.ofNat m);have hbx:[bv x]=[.int .u8 (m:Int)]:=by unfold bv;rw[hx,qhr (by omega)]
 obtain⟨S,hS⟩:=zex (blk a);have HX:=zhd2 hx hS;have f0:Fr [] wc (wc.alloc (.cells #[.int .u8 (m:Int)] 5)):=(Fr.refl [] wc).alloc _;have ownA:=qa7 H.out.own f0 (by simp);have cA:Cs (wc.alloc (.cells #[.int .u8 (m:Int)] 5)) (some ⟨wc.heap.size,0,none⟩) [bv x]:=by rw[hbx];exact qdp _ _ _ 5 (qay wc _)
 have HA:=zhd3 ownA cA f0;clear ownA cA f0 hx hS hbx;go_wp2_with (refine qba sliceU8 rfl _ _ rfl (.slice a out.length c) out.length (out.map bv) S rfl (by rw[qby,HX.l1]) HA.out.1 (some ⟨wc.heap.size,0,none⟩) 1 1 [bv x] rfl (by decide) (by simp) HA.out.2.1 (by rfl) (qc0 [x]) (by omega) (by unfold maxLen;omega) ?_;intro a2 c2 w2 A1;have hcap:=A1.le;have hcm:=A1.max;have HA1:=zhd A1;clear A1);go_ret;have A1:=HA1.out;rw[HX.l1]at A1;obtain⟨h1,h2,h3⟩:=H.out.step (n':=0) HA.out.2.2 A1;rw[HX.o0,HALL.out]at h1;obtain⟨r1,_⟩:=qc1 h1;rw[HOL.out];exact⟨a2,rfl,⟨r1.cs,qae _,qar r1.le r1.max,λe=>by have:=r1.nil e;have:=r1.le;omega⟩,λy hy=>⟨h3 y hy,qdu h1 (qdw hy)⟩,h2⟩
theorem and127 (c:UInt8):bits .and .u8 ((c.toNat:Nat):Int) 127=((c.toNat%128:Nat):Int):=by
 have h:∀x:Fin 256,bits .and .u8 (x.1:Int) 127=((x.1%128:Nat):Int):=by decide +kernel
 exact h ⟨c.toNat,qbc c⟩
theorem zdr (v x k:Nat) (hv:v<2^k) (hx:x*2^k<9223372036854775808) (hk:k≤62):bits .or .i64 (v:Int) ((x*2^k:Nat):Int)=((v+x*2^k:Nat):Int):=by
 have h1:=qir k 62 hk;have e62:2^62=4611686018427387904:=by decide
 rw[e62]at h1;rw[qgw _ _ (by omega) hx,qk5 v x k hv,qcc]
theorem qx0 (n x i:Nat) (hi:i<5) (hn:n<128^i) (hx:x<128):∃m,(m=n+x*128^i∧m<128^(i+1))∧m≤34359738367∧bits .or .i64 (n:Int) (wrap64 ((x:Int)*2^(7*i)))=(m:Int):=by
 have hp:2^(7*i)=128^i:=by rw[Nat.pow_mul]
 have h4:128^i≤128^4:=qa3 (by decide) (by omega);have e4:128^4=268435456:=by decide
 have hpos:0<128^i:=Nat.pow_pos (by decide);have h1:x*128^i≤127*128^i:=qcr _ (by omega);have h5:=pow128 i;refine⟨n+x*128^i,⟨rfl,by omega⟩,by omega,?_⟩;have e:wrap64 ((x:Int)*2^(7*i))=((x*2^(7*i):Nat):Int):=by
  have:(x:Int)*2^(7*i)=((x*2^(7*i):Nat):Int):=by rw[qev,qd7];rfl
  rw[this,hp];generalize x*128^i=y at *;simp only[wrap64];omega
 rw[e,zdr n x (7*i) (by rw[hp];exact hn) (by rw[hp];omega) (by omega),hp]
def Numbered (w:World) (d:List UInt8) (e:Ending) (w':World):Prop:=
 ∃a c,e = .returned (.tuple #[.int .i64 (delta.rd d).1,.slice a (delta.rd d).2.1.length c,.int .i64 (delta.rd d).2.2])∧Rd w' a c (delta.rd d).2.1∧Fr [] w w'
theorem qhb {w w':World} {d r:List UInt8} {n x:Nat} {a:Option Addr} {c:Nat} (h:delta.rd d=(n,r,x)) (hr:Rd w' a c r) (f:Fr [] w w'):Numbered w d (.returned (.tuple #[.int .i64 n,.slice a r.length c,.int .i64 x])) w':=by unfold Numbered;rw[h];exact⟨a,c,rfl,hr,f⟩
theorem qmg (a:Option Addr) (cap:Nat) (d:List UInt8) (w:World) (h:Rd w a cap d):Calls Tryz.prog 169 #[.slice a d.length cap] w (Numbered w d):=by
 have hle:=h.le;have hmax:=h.max;unfold maxLen at hmax;have H:=zhd h;clear h;go_enter Tryz.func169,Tryz.ntmps169;go_wp2;go_loopg [2,5,6] 5 (λk s2 s5 s6 wr=>∃i n,i+k=5∧s6 = .int .i64 (i:Nat)∧s2 = .int .i64 (n:Nat)∧i≤d.length∧n<128^i∧rdn k i n (d.drop i)=delta.rd d∧Fr [] w wr);case atStart=>exact⟨0,0,rfl,rfl,rfl,qa5 _,by decide,rfl,Fr.refl _ _⟩
 case round=>
  obtain⟨i,n,hi,rfl,rfl,hil,hn,hrd,hfr⟩:=hrel;have F:=zhd hfr;clear hfr;by_cases hi5:i<5
  ·obtain⟨k,rfl⟩:∃k,gk=k+1:=⟨gk-1,by omega⟩;by_cases hid:i<d.length
   ·obtain⟨g,o,rfl,hc⟩:=H.out.at hid;have c0:=F.out.cell hc (by simp);obtain⟨c,hcc⟩:=zex (d[i]);rw[<-hcc]at c0;have hdr:d.drop i=c::d.drop (i+1):=by rw[qcg hid,hcc]
    rw[hdr,rdn]at hrd;have ha:=and127 c;have hcn:=qbc c;obtain⟨x,hx⟩:=zex (c.toNat%128);rw[<-hx]at ha hrd;have hx128:x<128:=by omega
    generalize c.toNat=cn at *;have HX:=zhd3 hx hcc hdr;clear hx hcc hdr hc;have HRD:=zhd hrd;clear hrd;obtain⟨m,hm,hm35,hor⟩:=qx0 n x i hi5 hn hx128;have HM:=zhd hm;rw[<-hm.1]at HRD;have hsl:=λw=>qd2 sliceU8 (i+1) (some ⟨g,o,none⟩) d.length cap ((i:Int)+1) (by omega) (by omega) hle w
    clear hm hn;by_cases h128:cn<128
    ·have hrd:=HRD.out;rw[if_pos h128]at hrd;by_cases hbig:2147483647<m
     ·rw[if_pos hbig]at hrd;have HD:=zhd hrd;clear hrd hsl;go_wp2;go_ret3;exact qhb (r:=[]) HD.out.symm (Rd.none _) F.out
     ·rw[if_neg hbig]at hrd;have HD:=zhd hrd;clear hrd;go_upto_region 10 with fail;go_quiet (fail);clear hsl;go_wp2;go_ret3;have hl:(d.drop (i+1)).length=d.length-(i+1):=by simp
      have h:=λ(wz:World) (f:Fr [] wr wz)=>qhb HD.out.symm ((H.out.fr (F.out.trans f)).drop (i+1) (by omega)) (F.out.trans f)
      simp only[hl]at h;exact h _ (Fr.drewN [] wr _)
    ·have hrd:=HRD.out;rw[if_neg h128]at hrd;have HD:=zhd hrd;clear hrd hsl;go_wp2;go_roundg k;case measure=>omega
     case rel=>exact⟨i+1,m,by omega,by go_num,rfl,by omega,HM.out.2,HD.out,F.out⟩
   ·have hd:delta.rd d=(0,[],4):=by rw[<-hrd,qc3 (by omega)];rfl
    have HD:=zhd hd;clear hd hrd hn;go_wp2;go_ret3;exact qhb (r:=[]) HD.out (Rd.none _) F.out
  ·obtain rfl:i=5:=by omega
   obtain rfl:gk=0:=by omega
   have HD:=zhd hrd;clear hrd hn;go_wp2;go_ret3;exact qhb (r:=[]) (by rw[<-HD.out];rfl) (Rd.none _) F.out
theorem qes {fn:Func} {t u v x:Tmp} (h:fn.results=#[.tmp t,.tmp u,.tmp v,.tmp x]) (tmps:Array Value) (P:Program) (w:World) :
  (results fn tmps).run P w = .ok (.tuple #[tmps.getD t undef,tmps.getD u undef,tmps.getD v undef,tmps.getD x undef]) w:=by
 simp[results,h]
def Sized4 (w:World) (d:List UInt8) (e:Ending) (w':World):Prop:=
 ∃a c,e = .returned (.tuple #[.int .i64 (delta.sizes d).1,.int .i64 (delta.sizes d).2.1,.slice a (delta.sizes d).2.2.1.length c,.int .i64 (delta.sizes d).2.2.2])∧Rd w' a c (delta.sizes d).2.2.1∧Fr [] w w'
theorem qo4 {w w':World} {d r:List UInt8} {n m x:Nat} {a:Option Addr} {c:Nat} (h:delta.sizes d=(n,m,r,x)) (hr:Rd w' a c r) (f:Fr [] w w'):Sized4 w d (.returned (.tuple #[.int .i64 n,.int .i64 m,.slice a r.length c,.int .i64 x])) w':=by unfold Sized4;rw[h];exact⟨a,c,rfl,hr,f⟩
theorem qw9 (a:Option Addr) (cap:Nat) (d:List UInt8) (w:World) (h:Rd w a cap d):Calls Tryz.prog 137 #[.slice a d.length cap] w (Sized4 w d):=by
 have h1:=qmg a cap d w h;have hs:∀x y,delta.rd d=x→delta.rd x.2.1=y→delta.sizes d=if x.2.2=0 then (if y.2.2=0 then (x.1,y.1,y.2.1,0) else (0,0,[],y.2.2)) else (0,0,[],x.2.2):=by rintro x y rfl rfl;rfl
 have h2:=λa c w=>qmg a c (delta.rd d).2.1 w
 unfold Numbered at h1 h2;obtain⟨x,hx⟩:∃x,delta.rd d=x:=⟨_,rfl⟩;obtain⟨y,hy⟩:∃y,delta.rd x.2.1=y:=⟨_,rfl⟩;have hsz:=hs x y hx hy;rw[hx]at h1 h2;rw[hy]at h2;obtain⟨n,r,e⟩:=x;obtain⟨m,s,e2⟩:=y;simp only at h1 h2 hsz;have H:=zhd2 h1 h2;clear h1 h2 hs hx hy h;by_cases he:e=0
 ·subst he;rw[if_pos rfl]at hsz;by_cases he2:e2=0
  ·subst he2;rw[if_pos rfl]at hsz;have HS:=zhd hsz;clear hsz;have tok1:True:=trivial;go_enter Tryz.func137,Tryz.ntmps137;go_wp2_with (first|(go_at_call 169;have _t:=tok1;refine H.o0.mono ?_;rintro e1 w1 ⟨a1,c1,rfl,r1,f1⟩;have H1:=zhd2 r1 f1;clear r1 f1 tok1 _t)|(go_at_call 169;refine (H.l1 a1 c1 _ H1.o0).mono ?_;rintro e2 w2 ⟨a2,c2,rfl,r2,f2⟩;have H2:=zhd2 r2 (H1.l1.trans f2);clear r2 f2));refine bodyPost_ret (qes rfl _ _ _) rfl ?_;exact qo4 HS.out H2.o0 H2.l1
  ·rw[if_neg he2]at hsz;have HS:=zhd hsz;have hb:((e2:Int)==0)=false:=by simp;omega
   have hb2:((e2:Int)!=0)=true:=by simp;omega
   clear hsz he2;have tok1:True:=trivial;go_enter Tryz.func137,Tryz.ntmps137;go_wp2_with (first|(go_at_call 169;have _t:=tok1;refine H.o0.mono ?_;rintro e1 w1 ⟨a1,c1,rfl,r1,f1⟩;have H1:=zhd2 r1 f1;clear r1 f1 tok1 _t)|(go_at_call 169;refine (H.l1 a1 c1 _ H1.o0).mono ?_;rintro e2 w2 ⟨a2,c2,rfl,r2,f2⟩;have H2:=zhd2 r2 (H1.l1.trans f2);clear r2 f2));refine bodyPost_ret (qes rfl _ _ _) rfl ?_;exact qo4 (n:=0) (m:=0) (r:=[]) HS.out (Rd.none _) H2.l1
 ·rw[if_neg he]at hsz;have HS:=zhd hsz;have hb:((e:Int)==0)=false:=by simp;omega
  have hb2:((e:Int)!=0)=true:=by simp;omega
  clear hsz he;go_enter Tryz.func137,Tryz.ntmps137;go_wp2_with (go_at_call 169;refine H.o0.mono ?_;rintro e1 w1 ⟨a1,c1,rfl,r1,f1⟩;have H1:=zhd2 r1 f1;clear r1 f1);refine bodyPost_ret (qes rfl _ _ _) rfl ?_;exact qo4 (n:=0) (m:=0) (r:=[]) HS.out (Rd.none _) H1.l1
theorem and1u8 (x:Nat) (h:x<256):bits .and .u8 ((x:Nat):Int) 1=((x%2:Nat):Int):=by
 have h1:∀x:Fin 256,bits .and .u8 (x.1:Int) 1=((x.1%2:Nat):Int):=by decide +kernel
 exact h1 ⟨x,h⟩
theorem pow256 (i:Nat):256^(i+1)=256*256^i:=by rw[qcs,qcc]
theorem qt4 (n x i:Nat) (hi:i<4) (hn:n<256^i) (hx:x<256):∃m,(m=n+x*256^i∧m<256^(i+1))∧m<4294967296∧bits .or .i64 (n:Int) (wrap64 ((x:Int)*2^(8*i)))=(m:Int):=by
 have hp:2^(8*i)=256^i:=by rw[Nat.pow_mul]
 have h4:256^i≤256^3:=qa3 (by decide) (by omega);have e4:256^3=16777216:=by decide
 have hpos:0<256^i:=Nat.pow_pos (by decide);have h1:x*256^i≤255*256^i:=qcr _ (by omega);have h5:=pow256 i;refine⟨n+x*256^i,⟨rfl,by omega⟩,by omega,?_⟩;have e:wrap64 ((x:Int)*2^(8*i))=((x*2^(8*i):Nat):Int):=by
  have:(x:Int)*2^(8*i)=((x*2^(8*i):Nat):Int):=by rw[qev,qd7];rfl
  rw[this,hp];generalize x*256^i=y at *;simp only[wrap64];omega
 rw[e,zdr n x (8*i) (by rw[hp];exact hn) (by rw[hp];omega) (by omega),hp]
theorem qsi {op f i p n:Nat} {d:List UInt8} (h:op/2^i%2=0):pl op (f+1) i p n d=pl op f (i+1) p n d:=by cases d<;>simp[pl,h]
theorem zdo {op f i p n:Nat} (h:op/2^i%2=1):pl op (f+1) i p n []=none:=by simp[pl,h]
theorem qpd {op f i p n:Nat} {c:UInt8} {r:List UInt8} (h:op/2^i%2=1):pl op (f+1) i p n (c::r)=if i<4 then pl op f (i+1) (p+c.toNat*256^i) n r else pl op f (i+1) p (n+c.toNat*256^(i-4)) r:=by simp[pl,h]
def Placed (w:World) (op:Nat) (a0:Option Addr) (cap:Nat) (d:List UInt8) (e:Ending) (w':World):Prop:=
 w=w'∧((pl op 7 0 0 0 d=none∧e = .returned (.tuple #[.int .i64 0,.int .i64 0,.slice none 0 0,.bool false]))∨
  ∃p n r a c,pl op 7 0 0 0 d=some (p,n,r)∧e = .returned (.tuple #[.int .i64 (p:Nat),.int .i64 (n:Nat),.slice a r.length c,.bool true])∧(∀wz,Rd wz a0 cap d→Rd wz a c r)∧p<4294967296∧n≤16777216)
theorem qxo (op:Nat) (a:Option Addr) (cap:Nat) (d:List UInt8) (w:World) (hop:op<256) (h:Rd w a cap d):Calls Tryz.prog 138 #[.int .u8 op,.slice a d.length cap] w (Placed w op a cap d):=by
 have H0:=zhd h;clear h;go_enter Tryz.func138,Tryz.ntmps138;go_wp2;go_loopg [1,4,5,8,9] 7 (λk s1 s4 s5 s8 s9 wr=>∃i p n a' c r,i+k=7∧s9 = .int .i64 (i:Nat)∧s4 = .int .i64 (p:Nat)∧s5 = .int .i64 (n:Nat)∧s1 = .slice a' r.length c∧(∀wz,Rd wz a cap d→Rd wz a' c r)∧(i≤4→p<256^i)∧p<4294967296∧n<256^(i-4)∧pl op k i p n r=pl op 7 0 0 0 d∧w=wr);case atStart=>exact⟨0,0,0,a,cap,d,rfl,rfl,rfl,rfl,rfl,λ_ h=>h,λ_=>by decide,by decide,by decide,rfl,rfl⟩
 case round=>
  obtain⟨i,p,n,ar,cr,r,hi,rfl,rfl,rfl,rfl,hrr,hp4,hp,hn,hpl,rfl⟩:=hrel;have hr:=hrr w H0.out;have hrl:=hr.le;have H:=zhd hr;have HRR:=zhd hrr;clear hrr;have hn3:n<16777216:=by
   have:256^(i-4)≤256^3:=qa3 (by decide) (by omega);have e:256^3=16777216:=by decide
   omega
  have HP:=zhd2 hp4 hn;have hmax:=hr.max;unfold maxLen at hmax;clear hr hp4 hn;by_cases hi7:i<7
  ·obtain⟨k,rfl⟩:∃k,gk=k+1:=⟨gk-1,by omega⟩;have hb:=and1u8 (op/2^i) (qdr (Nat.div_le_self _ _) hop);have hq:((op/2^i:Nat):Int)=(op:Int)/2^i:=by rw[qi6,qd7];rfl
   rw[hq]at hb;clear hq;by_cases hbit:op/2^i%2=0
   ·rw[qsi hbit]at hpl;rw[hbit]at hb;have HPL:=zhd hpl;clear hpl hbit;go_wp2;go_roundg k;case measure=>omega
    case rel=>exact⟨i+1,p,n,ar,cr,r,by omega,by go_num,rfl,rfl,rfl,HRR.out,λh=>qat (HP.out.1 (by omega)) (qa3 (by decide) (by omega)),hp,qat HP.out.2 (qa3 (by decide) (by omega)),HPL.out,rfl⟩
   ·have hbit1:op/2^i%2=1:=by omega
    rw[hbit1]at hb;have HPL:=zhd2 hbit1 hpl;clear hpl hbit hbit1;cases r with
    | nil=>
     go_wp2;refine bodyPost_ret (qes rfl _ _ _) rfl ?_;exact⟨rfl,.inl ⟨by rw[<-HPL.out.2,zdo HPL.out.1],rfl⟩⟩
    | cons x t=>
     obtain⟨g,o,rfl,hc⟩:=H.out.at (i:=0) (by simp);have hx:x.toNat<256:=qbc x;simp only[qbn,List.getElem_cons_zero]at hc;obtain⟨xn,hxn⟩:=zex x.toNat;rw[<-hxn]at hc hx;have HX:=zhd hxn;simp only[qao]at hrl;clear hxn;by_cases hi4:i<4
     ·obtain⟨m,hm,hm32,hor⟩:=qt4 p xn i hi4 (HP.out.1 (by omega)) hx;have HM:=zhd hm;clear hm;go_wp2_with (refine qb2 sliceU8 1 rfl _ _ rfl (some ⟨g,o,none⟩) (t.length+1) cr _ rfl rfl rfl (by omega) (by omega) ?_);go_roundg k;case measure=>omega
      case rel=>have hpl:=HPL.out.2;rw[qpd HPL.out.1,if_pos hi4,<-HX.out,<-HM.out.1]at hpl;exact⟨i+1,m,n,_,_,t,by omega,by go_num,rfl,rfl,rfl,λwz hz=>(HRR.out wz hz).drop 1 (by simp),λ_=>HM.out.2,hm32,qat HP.out.2 (qa3 (by decide) (by omega)),hpl,rfl⟩
     ·obtain⟨j,hj⟩:∃j,i=j+4:=⟨i-4,by omega⟩;have hij:(i:Int)-4=(j:Int):=by omega
      obtain⟨m,hm,hm32,hor⟩:=qt4 n xn j (by omega) (by have:=HP.out.2;rw[hj]at this;simpa using this) hx;have HM:=zhd hm;have HJ:=zhd hj;clear hm hj;go_wp2_with (refine qb2 sliceU8 1 rfl _ _ rfl (some ⟨g,o,none⟩) (t.length+1) cr _ rfl rfl rfl (by omega) (by omega) ?_);go_roundg k;case measure=>omega
      case rel=>
       have hpl:=HPL.out.2;have e:i-4=j:=by omega
       rw[qpd HPL.out.1,if_neg hi4,<-HX.out,e,<-HM.out.1]at hpl;exact⟨i+1,p,m,_,_,t,by omega,by go_num,rfl,rfl,rfl,λwz hz=>(HRR.out wz hz).drop 1 (by simp),λh=>by omega,hp,by rw[show i+1-4=j+1 from by omega];exact HM.out.2,hpl,rfl⟩
  ·obtain rfl:i=7:=by omega
   obtain rfl:gk=0:=by omega
   have HPL:=zhd hpl;clear hpl;by_cases hn0:n=0
   ·subst hn0;go_wp2;refine bodyPost_ret (qes rfl _ _ _) rfl ?_;exact⟨rfl,.inr ⟨p,65536,r,ar,cr,by rw[<-HPL.out,pl,if_pos rfl],rfl,HRR.out,hp,by decide⟩⟩
   ·have hb:((n:Int)==0)=false:=by simp;omega
    go_wp2;refine bodyPost_ret (qes rfl _ _ _) rfl ?_;exact⟨rfl,.inr ⟨p,n,r,ar,cr,by rw[<-HPL.out,pl,if_neg hn0],rfl,HRR.out,hp,by omega⟩⟩
theorem qqt (op:Nat):∀(f i p n:Nat) (d:List UInt8) (x:Nat×Nat×List UInt8),pl op f i p n d=some x→x.2.2.length≤d.length
 | 0,i,p,n,d,x,h=>by simp[pl]at h;rw[<-h];exact qae _
 | f+1,i,p,n,d,x,h=>by
  by_cases hb:op/2^i%2=0
  ·rw[qsi hb]at h;exact qqt op f _ _ _ _ _ h
  ·have hb1:op/2^i%2=1:=by omega
   cases d with
   | nil=>rw[zdo hb1]at h;cases h
   | cons c r=>
    rw[qpd hb1]at h;simp only[qao];split at h
    ·have:=qqt op f _ _ _ _ _ h;omega
    ·have:=qqt op f _ _ _ _ _ h;omega
theorem qnm (base:List UInt8) (tn f:Nat) (out:List UInt8):app base tn f [] out=if out.length<tn then ([],3) else (out,0):=by cases f<;>rfl
theorem qim (base:List UInt8) (tn f:Nat) (c:UInt8) (r out:List UInt8):app base tn (f+1) (c::r) out=if 128≤c.toNat then match pl (c.toNat-128) 7 0 0 0 r with
   | none=>([],4)
   | some (p,n,rest)=>if base.length<p∨base.length-p<n∨tn-out.length<n then ([],3) else app base tn f rest (out++(base.drop p).take n)
  else if c.toNat=0∨tn-out.length<c.toNat then ([],3) else if r.length<c.toNat then ([],4) else app base tn f (r.drop c.toNat) (out++r.take c.toNat):=rfl
def Applied (w:World) (base d:List UInt8) (bound:Int) (e:Ending) (w':World):Prop:=
 ∃a,e = .returned (.tuple #[.slice a (delta.apply base d bound).1.length (delta.apply base d bound).1.length,.int .i64 (delta.apply base d bound).2])∧Rd w' a (delta.apply base d bound).1.length (delta.apply base d bound).1∧
  (∀x∈blk a,w.heap.size≤x∧x<w'.heap.size)∧Fr [] w w'
theorem qot {w w':World} {base d out:List UInt8} {bound:Int} {x:Nat} {a:Option Addr} (h:delta.apply base d bound=(out,x)) (hr:Rd w' a out.length out) (hn:∀x∈blk a,w.heap.size≤x∧x<w'.heap.size) (f:Fr [] w w') :
  Applied w base d bound (.returned (.tuple #[.slice a out.length out.length,.int .i64 x])) w':=by
 unfold Applied;rw[h];exact⟨a,rfl,hr,hn,f⟩
theorem qdh {w w':World} {base d:List UInt8} {bound:Int} {x:Nat} (h:delta.apply base d bound=([],x)) (f:Fr [] w w') :
  Applied w base d bound (.returned (.tuple #[.slice none 0 0,.int .i64 x])) w':=qot (out:=[]) h (Rd.none _) (by simp[blk]) f
structure Ap (w wr:World) (base:List UInt8) (tn:Nat) (k:Nat) (r:List UInt8) (out:List UInt8) (a:Option Addr) (c:Nat) (R:List UInt8×Nat):Prop where
 own:wr.ownsRow 0 5 1 (.slice a out.length c) out.length (out.map bv)
 fr:Fr [] w wr
 new:∀x∈blk a,w.heap.size≤x
 few:out.length≤tn
 fuel:r.length≤k
 all:app base tn k r out=R
theorem Ap.more {w wr w2:World} {base:List UInt8} {tn k k':Nat} {r r' out news:List UInt8} {a a2:Option Addr} {c c2 m:Nat} {R:List UInt8×Nat} (h:Ap w wr base tn k r out a c R) (hm:news.length=m)
  (A:Appended wr w2 5 1 (blk a) a2 (out.length+m) c2 (out.map bv++news.map bv)) (hf:out.length+m≤tn) (hr:r'.length≤k') (hall:app base tn k' r' (out++news)=R):Ap w w2 base tn k' r' (out++news) a2 c2 R:=by
 refine⟨by rw[qab,hm,qbe];exact A.own,h.fr.step A.fr λy hy=>.inr (h.new y hy),λy hy=>?_,by rw[qab,hm];exact hf,hr,hall⟩;rcases A.at_ y hy with h1|h1
 ·exact h.new y h1
 ·have:=h.fr.size;omega
theorem zah (a b:Option Addr) (cap capd:Nat) (base d:List UInt8) (bound:Int) (w:World) (hb:Rd w a cap base) (hd:Rd w b capd d):Calls Tryz.prog 112 #[.slice a base.length cap,.slice b d.length capd,.int .i64 bound] w (Applied w base d bound):=by
 have h1:=qw9 b capd d w hd;unfold Sized4 at h1;obtain⟨hto,_⟩:=qtu d;have hap:∀x,delta.sizes d=x→delta.apply base d bound=if x.2.2.2≠0 then ([],x.2.2.2) else if x.1≠base.length then ([],3) else if bound.toNat<x.2.1 then ([],5) else app base x.2.1 x.2.2.1.length x.2.2.1 []:=by rintro x rfl;rfl
 generalize delta.sizes d=x at *;have hap:=hap x rfl;obtain⟨n,m,r,e⟩:=x;simp only at h1 hto hap;have hble:=hb.le;have hbm:=hb.max;unfold maxLen at hbm;have H:=zhd2 h1 hb;have hmx:((bound.toNat:Nat):Int)=if 0>bound then 0 else bound:=by split<;>omega
 generalize bound.toNat=bt at *;have HM:=zhd hmx;clear h1 hb hd hmx;by_cases he:e=0
 ·subst he;rw[if_neg (by simp)]at hap;by_cases hn:n=base.length
  ·rw[if_neg (by simp[hn])]at hap;by_cases hbig:bt<m
   ·rw[if_pos hbig]at hap;have HA:=zhd hap;have hn':((n:Int)!=base.length)=false:=by simp[hn]
    clear hap;go_enter Tryz.func112,Tryz.ntmps112;go_wp2_with (first|(go_at_call 137;refine H.o0.mono ?_;rintro e1 w1 ⟨a1,c1,rfl,r1,f1⟩;have H1:=zhd2 r1 f1;clear r1 f1)|(refine qd8 (bt:Int) rfl _ _ _ rfl bound 0 rfl rfl HM.out ?_));go_ret2;exact qdh HA.out H1.l1
   ·rw[if_neg hbig]at hap;obtain⟨R,hR⟩:∃R,app base m r.length r []=R:=⟨_,rfl⟩;rw[hR]at hap;have HA:=zhd2 hap hR;have hn':((n:Int)!=base.length)=false:=by simp[hn]
    have hbg:decide (bt<m)=false:=by simp;omega
    clear hap hR;go_enter Tryz.func112,Tryz.ntmps112;go_upto_block 1 with (first|(go_at_call 137;refine H.o0.mono ?_;rintro e1 w1 ⟨a1,c1,rfl,r1,f1⟩;have H1:=zhd2 r1 f1;clear r1 f1)|(refine qd8 (bt:Int) rfl _ _ _ rfl bound 0 rfl rfl HM.out ?_));go_wp2;go_loopg [1,11] r.length (λk s1 s11 wr=>∃ar cr q ao co out,s1 = .slice ar q.length cr∧s11 = .slice ao out.length co∧Rd w1 ar cr q∧Ap w1 wr base m k q out ao co R);case atStart=>exact⟨a1,c1,r,none,0,[],rfl,rfl,H1.o0,qch _ _ _ _,Fr.refl _ _,by simp[blk],qa5 _,qae _,HA.out.2⟩
    case round=>
     obtain⟨ar,cr,q,ao,co,out,rfl,rfl,hq,h⟩:=hrel;have HQ:=zhd hq;have hq1:=hq.le;have hq2:=hq.max;unfold maxLen at hq2;have hfew:=h.few;have hfuel:=h.fuel;obtain⟨hown1,_⟩:=qc1 h.own;have ho1:=hown1.le;have ho2:=hown1.max;unfold maxLen at ho2;have G:=zhd h;clear hq h hown1;cases q with
     | nil=>
      have hall:=G.out.all;rw[qnm]at hall;by_cases hlt:out.length<m
      ·rw[if_pos hlt]at hall;have HALL:=zhd hall;clear hall;go_wp2;go_ret2;exact qdh (by rw[HA.out.1,<-HALL.out]) (H1.l1.trans G.out.fr)
      ·rw[if_neg hlt]at hall;have HALL:=zhd hall;clear hall;go_wp2;go_ret2;have h:=G.out;obtain⟨r2,_⟩:=qc1 h.own;exact qot (by rw[HA.out.1,<-HALL.out]) ⟨r2.cs,qae _,qar r2.le r2.max,λe=>by have:=r2.nil e;omega⟩ (λy hy=>⟨qar H1.l1.size (h.new y hy),qdu h.own (qdw hy)⟩) (H1.l1.trans h.fr)
     | cons x t=>
      obtain⟨k,rfl⟩:∃k,gk=k+1:=⟨gk-1,by simp at hfuel;omega⟩;simp only[qao]at hq1 hfuel;obtain⟨g,o,rfl,hc⟩:=HQ.out.at (i:=0) (by simp);have hc:=G.out.fr.cell hc (by simp);have hx:x.toNat<256:=qbc x;simp only[qbn,List.getElem_cons_zero]at hc;have hall:=G.out.all;rw[qim]at hall;have ha:=and127 x;have hrd:=HQ.out.drop 1 (by simp);rw[qad,qaj]at hrd;generalize x.toNat=xn at *;have HRD:=zhd hrd;have hal:∀wz,Fr [] w1 wz→Rd wz (cutAtN (some ⟨g,o,none⟩) cr 1 1) (cr-1) t:=λwz f=>HRD.out.fr f
      obtain⟨at1,hat1⟩:=zex (cutAtN (some ⟨g,o,none⟩) cr 1 1);obtain⟨S,hS⟩:=zex (blk ao);have HS:=zhd hS;clear hrd hal hS hat1;by_cases h128:128≤xn
      ·rw[if_pos h128]at hall;rw[show xn%128=xn-128 from by omega]at ha;obtain⟨op,hop⟩:=zex (xn-128);rw[<-hop]at ha hall;have hpl:=λw h=>qxo op (cutAtN (some ⟨g,o,none⟩) cr 1 1) (cr-1) t w (by omega) h
       unfold Placed at hpl;have hlen:=qqt op 7 0 0 0 t;generalize pl op 7 0 0 0 t=y at *;clear hop;cases y with
       | none=>
        have hpl2:∀w,Rd w (cutAtN (some ⟨g,o,none⟩) cr 1 1) (cr-1) t→Calls Tryz.prog 138 #[.int .u8 op,.slice (cutAtN (some ⟨g,o,none⟩) cr 1 1) t.length (cr-1)] w λe w'=>w=w'∧e = .returned (.tuple #[.int .i64 0,.int .i64 0,.slice none 0 0,.bool false]):=
         λw h=>(hpl w h).mono λe w' ⟨h1,h2⟩=>by
          rcases h2 with⟨_,h2⟩|⟨p,n,r,a,c,h3,_⟩
          ·exact⟨h1,h2⟩
          ·cases h3
        have HALL:=zhd hall;have HPL:=zhd hpl2;clear hall hpl hpl2;go_wp2_with (first|(refine qb2 sliceU8 1 rfl _ _ rfl (some ⟨g,o,none⟩) (t.length+1) cr _ rfl rfl rfl (by omega) (by omega) ?_)|(go_at_call 138;refine (HPL.out _ (HRD.out.fr G.out.fr)).mono ?_;rintro e w2 ⟨rfl,rfl⟩));go_ret2;exact qdh (by rw[HA.out.1,<-HALL.out]) (H1.l1.trans G.out.fr)
       | some y=>
        obtain⟨p,nn,rest⟩:=y;have hpl2:∀w,Rd w (cutAtN (some ⟨g,o,none⟩) cr 1 1) (cr-1) t→Calls Tryz.prog 138 #[.int .u8 op,.slice (cutAtN (some ⟨g,o,none⟩) cr 1 1) t.length (cr-1)] w λe w'=>w=w'∧∃a c,e = .returned (.tuple #[.int .i64 (p:Nat),.int .i64 (nn:Nat),.slice a rest.length c,.bool true])∧(∀wz,Rd wz (cutAtN (some ⟨g,o,none⟩) cr 1 1) (cr-1) t→Rd wz a c rest)∧p<4294967296∧nn≤16777216:=
         λw h=>(hpl w h).mono λe w' ⟨h1,h2⟩=>by
          rcases h2 with⟨h3,_⟩|⟨p',n',r',a,c,h3,h4,h5⟩
          ·cases h3
          ·cases h3
           exact⟨h1,a,c,h4,h5⟩
        have hlen:=hlen _ rfl;simp only at hlen hall;have HPL:=zhd hpl2;clear hpl hpl2;by_cases hbad:base.length<p∨base.length-p<nn∨m-out.length<nn
        ·rw[if_pos hbad]at hall;have HALL:=zhd hall;clear hall;by_cases hb1:base.length<p
         ·have b1:decide (base.length<p)=true:=by simpa using hb1
          clear hbad;go_wp2_with (first|(refine qb2 sliceU8 1 rfl _ _ rfl (some ⟨g,o,none⟩) (t.length+1) cr _ rfl rfl rfl (by omega) (by omega) ?_)|(go_at_call 138;refine (HPL.out _ (HRD.out.fr G.out.fr)).mono ?_;rintro e w2 ⟨rfl,a9,c9,rfl,h9,hp9,hn9⟩;have H9:=zhd h9;clear h9));go_ret2;exact qdh (by rw[HA.out.1,<-HALL.out]) (H1.l1.trans G.out.fr)
         ·have b1:decide (base.length<p)=false:=by simpa using hb1
          by_cases hb2:base.length-p<nn
          ·have b2:decide ((base.length:Int)-p<nn)=true:=by simp;omega
           clear hbad;go_wp2_with (first|(refine qb2 sliceU8 1 rfl _ _ rfl (some ⟨g,o,none⟩) (t.length+1) cr _ rfl rfl rfl (by omega) (by omega) ?_)|(go_at_call 138;refine (HPL.out _ (HRD.out.fr G.out.fr)).mono ?_;rintro e w2 ⟨rfl,a9,c9,rfl,h9,hp9,hn9⟩;have H9:=zhd h9;clear h9));go_ret2;exact qdh (by rw[HA.out.1,<-HALL.out]) (H1.l1.trans G.out.fr)
          ·have b2:decide ((base.length:Int)-p<nn)=false:=by simp;omega
           have b3:decide ((m:Int)-out.length<nn)=true:=by simp;omega
           clear hbad;go_wp2_with (first|(refine qb2 sliceU8 1 rfl _ _ rfl (some ⟨g,o,none⟩) (t.length+1) cr _ rfl rfl rfl (by omega) (by omega) ?_)|(go_at_call 138;refine (HPL.out _ (HRD.out.fr G.out.fr)).mono ?_;rintro e w2 ⟨rfl,a9,c9,rfl,h9,hp9,hn9⟩;have H9:=zhd h9;clear h9));go_ret2;exact qdh (by rw[HA.out.1,<-HALL.out]) (H1.l1.trans G.out.fr)
        ·rw[if_neg hbad]at hall;have HALL:=zhd hall;have hp1:p≤base.length∧nn≤base.length-p∧nn≤m-out.length:=by omega
         have b1:decide (base.length<p)=false:=by simp;omega
         have b2:decide ((base.length:Int)-p<nn)=false:=by simp;omega
         have b3:decide ((m:Int)-out.length<nn)=false:=by simp;omega
         have hmid:=(H.l1.fr (H1.l1.trans G.out.fr)).mid p nn (by omega);obtain⟨news,hnews⟩:=zex ((base.drop p).take nn);rw[<-hnews]at hmid;have hnl:news.length=nn:=by rw[hnews,qaq,qav];omega
         have HMID:=zhd3 hmid hnews hnl;clear hbad hall hmid hnews hnl;go_wp2_with (first|(refine qb2 sliceU8 1 rfl _ _ rfl (some ⟨g,o,none⟩) (t.length+1) cr _ rfl rfl rfl (by omega) (by omega) ?_)|(go_at_call 138;refine (HPL.out _ (HRD.out.fr G.out.fr)).mono ?_;rintro e w2 ⟨rfl,a9,c9,rfl,h9,hp9,hn9⟩;have H9:=zhd h9;clear h9)|(refine qlt sliceU8 p nn rfl _ _ _ rfl a base.length cap _ _ rfl rfl rfl rfl rfl (by omega) ?_)|(refine qba sliceU8 rfl _ _ rfl (.slice ao out.length co) out.length (out.map bv) S rfl (by rw[qby,HS.out]) G.out.own (cutAt a cap p) nn (cap-p) (news.map bv) rfl (by omega) HMID.o0.nil HMID.o0.cs (by rw[qap,HMID.l2,qce]) (qc0 _) (by omega) (by unfold maxLen;omega) ?_;intro a2 c2 w2 A1;have HA1:=zhd A1;clear A1));go_roundg k;case measure=>omega
         case rel=>have A1:=HA1.out;rw[HS.out]at A1;have h:=G.out.more HMID.l2 A1 (k':=k) (r':=rest) (by omega) (by omega) (by rw[HMID.o1];exact HALL.out);exact⟨a9,c9,rest,a2,c2,out++news,rfl,by rw[qab,HMID.l2],H9.out w1 HRD.out,h⟩
      ·rw[if_neg h128]at hall;by_cases hbad:xn=0∨m-out.length<xn
       ·rw[if_pos hbad]at hall;have HALL:=zhd hall;clear hall;by_cases hx0:xn=0
        ·subst hx0;clear hbad;go_wp2_with (first|(refine qb2 sliceU8 1 rfl _ _ rfl (some ⟨g,o,none⟩) (t.length+1) cr _ rfl rfl rfl (by omega) (by omega) ?_));go_ret2;exact qdh (by rw[HA.out.1,<-HALL.out]) (H1.l1.trans G.out.fr)
        ·have b1:((xn:Int)==0)=false:=by simp;omega
         have b3:decide ((m:Int)-out.length<xn)=true:=by simp;omega
         clear hbad;go_wp2_with (first|(refine qb2 sliceU8 1 rfl _ _ rfl (some ⟨g,o,none⟩) (t.length+1) cr _ rfl rfl rfl (by omega) (by omega) ?_));go_ret2;exact qdh (by rw[HA.out.1,<-HALL.out]) (H1.l1.trans G.out.fr)
       ·rw[if_neg hbad]at hall;have b1:((xn:Int)==0)=false:=by simp;omega
        have b3:decide ((m:Int)-out.length<xn)=false:=by simp;omega
        have hxp:1≤xn∧xn≤m-out.length:=by omega
        by_cases hlong:t.length<xn
        ·rw[if_pos hlong]at hall;have HALL:=zhd hall;clear hall hbad;go_wp2_with (first|(refine qb2 sliceU8 1 rfl _ _ rfl (some ⟨g,o,none⟩) (t.length+1) cr _ rfl rfl rfl (by omega) (by omega) ?_));go_ret2;exact qdh (by rw[HA.out.1,<-HALL.out]) (H1.l1.trans G.out.fr)
        ·rw[if_neg hlong]at hall;have HALL:=zhd hall;have hmid:=(HRD.out.fr G.out.fr).take xn;have hrest:=HRD.out.drop xn (by omega);have hnl:(t.take xn).length=xn:=by rw[qaq];omega
         have HMID:=zhd3 hmid hrest hnl;clear hall hmid hrest hnl hbad;go_wp2_with (first|(refine qb2 sliceU8 1 rfl _ _ rfl (some ⟨g,o,none⟩) (t.length+1) cr _ rfl rfl rfl (by omega) (by omega) ?_)|(refine qho sliceU8 xn rfl _ _ rfl (cutAtN (some ⟨g,o,none⟩) cr 1 1) t.length (cr-1) _ rfl rfl rfl (by omega) ?_)|(refine qba sliceU8 rfl _ _ rfl (.slice ao out.length co) out.length (out.map bv) S rfl (by rw[qby,HS.out]) G.out.own (cutAtN (some ⟨g,o,none⟩) cr 1 1) xn (cr-1) ((t.take xn).map bv) rfl (by omega) HMID.o0.nil HMID.o0.cs (by rw[qap,HMID.l2,qce]) (qc0 _) (by omega) (by unfold maxLen;omega) ?_;intro a2 c2 w2 A1;have HA1:=zhd A1;clear A1)|(refine qb2 sliceU8 xn rfl _ _ rfl (cutAtN (some ⟨g,o,none⟩) cr 1 1) t.length (cr-1) _ rfl rfl rfl (by omega) (by omega) ?_));go_roundg k;case measure=>omega
         case rel=>have A1:=HA1.out;rw[HS.out]at A1;have h:=G.out.more HMID.l2 A1 (k':=k) (r':=t.drop xn) (by omega) (by rw[qav];omega) HALL.out;exact⟨_,_,t.drop xn,a2,c2,out++t.take xn,by rw[qav],by rw[qab,HMID.l2],HMID.o1,h⟩
  ·rw[if_pos hn]at hap;have HA:=zhd hap;have hn':((n:Int)==base.length)=false:=by simp;omega
   have hn2:((n:Int)!=base.length)=true:=by simp;omega
   clear hap;go_enter Tryz.func112,Tryz.ntmps112;go_wp2_with (first|(go_at_call 137;refine H.o0.mono ?_;rintro e1 w1 ⟨a1,c1,rfl,r1,f1⟩;have H1:=zhd2 r1 f1;clear r1 f1));go_ret2;exact qdh HA.out H1.l1
 ·rw[if_pos (by simpa using he)]at hap;have HA:=zhd hap;have hb:((e:Int)==0)=false:=by simp;omega
  have hb2:((e:Int)!=0)=true:=by simp;omega
  clear hap he;go_enter Tryz.func112,Tryz.ntmps112;go_wp2_with (first|(go_at_call 137;refine H.o0.mono ?_;rintro e1 w1 ⟨a1,c1,rfl,r1,f1⟩;have H1:=zhd2 r1 f1;clear r1 f1));go_ret2;exact qdh HA.out H1.l1
end Go.Proofs.YtkmpfgpfbmeihaaGreatDoor.delta
namespace Go.Proofs.YtkmpfgpfbmeihaaGreatDoor.pk
open Go Go.RowKit lib bm
theorem qtg (base:List UInt8) (tn:Nat):∀(f:Nat) (d out:List UInt8),out.length≤tn→(delta.app base tn f d out).1.length≤tn
 | f,[],out,h=>by
  rw[delta.qnm];split
  ·exact qa5 _
  ·exact h
 | 0,_::_,out,h=>qa5 _
 | f+1,c::r,out,h=>by
  rw[delta.qim];split
  ·split
   ·exact qa5 _
   ·split
    ·exact qa5 _
    ·refine qtg base tn f _ _ ?_;rw[qab,qaq,qav];omega
  ·split
   ·exact qa5 _
   ·split
    ·exact qa5 _
    ·refine qtg base tn f _ _ ?_;rw[qab,qaq];omega
theorem zag (base d:List UInt8) (bound:Int):(delta.apply base d bound).1.length≤2147483647:=by
 unfold delta.apply;split
 ·exact qa5 _
 ·split
  ·exact qa5 _
  ·split
   ·exact qa5 _
   ·exact qar (qtg _ _ _ _ _ (qa5 _)) (delta.qtu d).1
def Fin (w w':World) (O S i:Nat) (C C' D D':Array Value) (res:Except Nat (Obj×Nat)):Prop:=
 (∀j,j<i*5∨i*5+5≤j→C'[j]?=C[j]?)∧(∀j,j<i*4∨i*4+3≤j→D'[j]?=D[j]?)∧D'[i*4]?=some (.bool true)∧
 match res with
 | .error x=>D'[i*4+1]?=some (.int .i64 x)∧0<x
 | .ok (o,d)=>D'[i*4+1]?=some (.int .i64 0)∧D'[i*4+2]?=some (.int .i64 (d:Nat))∧∃ba bc,(∀j v,(objV o ba bc)[j]?=some v→C'[i*5+j]?=some v)∧lib.Rd w' ba bc o.body∧(∀y∈blk ba,w.heap.size≤y∧y<w'.heap.size)∧o.body.length≤2147483647
theorem qkq (g O S:Nat) (gv tv:Value) (la:Option Addr) (ms:List EM) (C D:Array Value) (i:Nat) (m:EM) (kd:Int) (fa:Option Addr) (fc:Nat) (from_:List UInt8) (d:Nat) (w:World)
  (h:Rb w g O S gv tv la ms C D) (hi:ms[i]?=some m) (hf:lib.Rd w fa fc from_) (hfo:∀x∈blk fa,x≠O∧x≠S) (hd:d≤100) (hp:obj.Pw w) (he:D[i*4+1]?=some (.int .i64 0)) (hSw:∀w',Fr [O,S] w w'→obj.Pw w') :
  Calls Tryz.prog 80 #[.pointer (some ⟨g,0,none⟩),.int .i64 i,.int .i64 kd,.slice fa from_.length fc,.int .i64 ((d+1:Nat):Int)] w λe w'=>e = .returned (.tuple #[])∧Fr [O,S] w w'∧
   ∃C' D',Rb w' g O S gv tv la ms C' D'∧Fin w w' O S i C C' D D' (over m.1 kd from_ d):=by
 obtain⟨n,hn⟩:=zex ms.length;have hin:i<n:=by rw[hn];exact (qa9.1 hi).1
 have hfew:n≤4096:=by rw[hn];exact h.few
 have b0:=cell_of h.box 0;have b2:=cell_of h.box 2;simp only[qag,qac,qaf]at b0 b2;rw[<-hn]at b0 b2;have hsz:i*4+4≤D.size:=by rw[h.sc,<-hn];omega
 obtain⟨x0,d0⟩:∃x,w.cell? ⟨S,i*4,none⟩=some x:=⟨D[i*4]'(by omega),by rw[cell_of h.sb];exact qb5 (by omega)⟩;have z0:=qau h.sb (i*4);obtain⟨dp,hdp⟩:=zex (d+1);rw[<-hdp];have hdb:dp≤101:=by omega
 obtain⟨RR,hRR⟩:=zex (over m.1 kd from_ d);rw[<-hRR];have hov:RR=if 50<dp then .error 3 else if (delta.apply from_ m.1.data 65536).2=0 then .ok (whole m.1 kd (delta.apply from_ m.1.data 65536).1,dp) else .error (delta.apply from_ m.1.data 65536).2:=by rw[hRR,hdp];rfl
 have H:=zhd11 h hn hi hf hfo hp he hSw hsz hdp hov;clear h hn hi hf hfo hp he hSw hsz hdp hov hRR;go_enter Tryz.func80,Tryz.ntmps80;go_upto_region 2 with fail;obtain⟨hR,hn,hi,hf,hfo,hp,he,hSw,hsz,hdp,hov⟩:=H.out;obtain⟨w1,hw1⟩:=zex (w.setCell ⟨S,i*4,none⟩ (.bool true));rw[<-hw1];obtain⟨D1,hD1⟩:=zex (D.setIfInBounds (i*4) (.bool true));have f1:Fr [S] w w1:=by rw[hw1];exact (Fr.refl [S] w).setCell (by simp) _
 have hs1:w1.heap[S]?=some (.cells D1 100 (0,0)):=by rw[hw1,hD1];exact qax hR.sb _
 have hR1:=hR.setS f1 hs1 (by rw[hD1,qbf]);have hD1o:∀j,j≠i*4→D1[j]?=D[j]?:=λj hj=>by rw[hD1,qaa (qdx hj)]
 have hD1s:D1[i*4]?=some (.bool true):=by rw[hD1];exact qal (by omega)
 have c1:w1.cell? ⟨S,i*4+1,none⟩=some (.int .i64 0):=by rw[cell_of hs1,hD1o _ (by omega)];exact he
 have z1:=qau hs1 (i*4+1);have b0:=cell_of hR1.box 0;have b2:=cell_of hR1.box 2;simp only[qag,qac,qaf]at b0 b2;rw[<-hn]at b0 b2;have fOS:Fr [O,S] w w1:=f1.mono (λx hx=>.inl (by simp at hx;simp[hx]));have H1:=zhd7 hR1 hs1 hD1o hD1s hov fOS f1;clear hR hn hi hf hfo hp he hSw hsz hdp hw1 hD1 f1 hs1 hR1 hD1o hD1s hov fOS d0 z0;have herr:∀(wz:World) (x:Nat),Fr [] w1 wz→0<x→RR = .error x→Fr [O,S] w (wz.setCell ⟨S,i*4+1,none⟩ (.int .i64 (x:Nat)))∧∃C' D',Rb (wz.setCell ⟨S,i*4+1,none⟩ (.int .i64 (x:Nat))) g O S gv tv la ms C' D'∧Fin w (wz.setCell ⟨S,i*4+1,none⟩ (.int .i64 (x:Nat))) O S i C C' D D' RR:=λwz x fz hx hr=>by
  have hRz:=H1.out.1.fr fz;have hsz:=H.out.2.2.2.2.2.2.2.2.1;have hD1z:D1.size=D.size:=by rw[H1.out.1.sc,H.out.1.sc]
  refine⟨(H1.out.2.2.2.2.2.1.trans (fz.mono (by simp))).setCell (by simp) _,C,D1.setIfInBounds (i*4+1) (.int .i64 x),hRz.setS ((Fr.refl [S] wz).setCell (by simp) _) (qax hRz.sb _) (by rw[qbf]),λj _=>rfl,λj hj=>?_,?_,?_⟩
  ·rw[qaa (by omega)];exact H1.out.2.2.1 j (by omega)
  ·rw[qaa (by omega)];exact H1.out.2.2.2.1
  ·rw[hr];exact⟨qal (by omega),hx⟩
 have HERR:=zhd herr;clear herr;by_cases h50:50<dp
 ·have hr:RR = .error 3:=by rw[H1.out.2.2.2.2.1,if_pos h50]
  have g50:decide ((50:Int)<(dp:Int))=true:=by simp;omega
  have HX:=zhd (HERR.out w1 3 (Fr.refl _ _) (by decide) hr);clear hr h50 b0 b2;go_wp2;refine bodyPost_ret (results_none rfl _ _ _) rfl ?_;exact⟨rfl,HX.out⟩
 ·have g50:decide ((50:Int)<(dp:Int))=false:=by simp;omega
  have hr:=H1.out.2.2.2.2.1;rw[if_neg h50]at hr;obtain⟨gb,o,hla,hce⟩:=H1.out.1.ents.cell H.out.2.2.1;have e4:=hce 4 _ (by decide) (show _=some (.slice m.2 m.1.data.length m.1.data.length) from rfl);rw[<-qcb]at e4;subst hla;have hap:=delta.zah fa m.2 fc m.1.data.length from_ m.1.data 65536 w1 (H.out.2.2.2.1.frS H1.out.2.2.2.2.2.2 (λx hx=>by simp;exact (H.out.2.2.2.2.1 x hx).2)) (H1.out.1.ents.dat m (qa8 H.out.2.2.1));unfold delta.Applied at hap;have hal:=zag from_ m.1.data 65536;generalize delta.apply from_ m.1.data 65536=y at *;obtain⟨out,x⟩:=y;simp only at hap hr hal;obtain⟨dl,hdl⟩:=zex m.1.data.length;rw[<-hdl]at hap e4;obtain⟨fl,hfl⟩:=zex from_.length;rw[<-hfl]at hap ⊢;have HB:=zhd3 hap hr hal;clear hap hr hce hdl hfl h50;go_upto_region 5 with (go_at_call 112;refine HB.o0.mono ?_;rintro e w2 ⟨a2,rfl,r2,n2,f2⟩;have H2:=zhd3 r2 n2 f2;clear r2 n2 f2);clear e4 b0 b2 g50;have c1:=H2.l2.cell c1 (by simp);have z1:=qau (H2.l2.blk H1.out.2.1 (by simp)) (i*4+1);by_cases hx:x=0
  ·subst hx;have hr:=HB.o1;rw[if_pos rfl]at hr;have gx:((0:Int)!=0)=false:=by decide
   have hRb2:=H1.out.1.fr H2.l2;have e2:D1.size=D.size:=by rw[H1.out.1.sc,H.out.1.sc]
   have hsz:=H.out.2.2.2.2.2.2.2.2.1;obtain⟨x2,y2⟩:∃x,w2.cell? ⟨S,i*4+2,none⟩=some x:=⟨D1[i*4+2]'(by omega),by rw[cell_of hRb2.sb];exact qb5 (by omega)⟩;have z2:=qau hRb2.sb (i*4+2);obtain⟨w3,hw3⟩:∃w3,w3=w2.setCell ⟨S,i*4+2,none⟩ (.int .i64 (dp:Nat)):=⟨_,rfl⟩;obtain⟨D2,hD2⟩:∃D2,D2=D1.setIfInBounds (i*4+2) (.int .i64 (dp:Nat)):=⟨_,rfl⟩;have f3:Fr [S] w2 w3:=by rw[hw3];exact (Fr.refl [S] w2).setCell (by simp) _
   have hs3:w3.heap[S]?=some (.cells D2 100 (0,0)):=by rw[hw3,hD2];exact qax hRb2.sb _
   have hR3:=hRb2.setS f3 hs3 (by rw[hD2,qbf]);have hSw0:=lt_of_block H.out.1.sb;have hw12:=H1.out.2.2.2.2.2.1.size;have fOS3:Fr [O,S] w w3:=(H1.out.2.2.2.2.2.1.trans (H2.l2.mono (by simp))).trans (f3.mono (λx hx=>.inl (by simp at hx;simp[hx])));have hset:=qxb g O S gv tv _ ms C D2 i m kd a2 out.length out w3 hR3 H.out.2.2.1 (H2.o0.frS f3 (λx hx hm=>by have:=(H2.o1 x hx).1;simp at hm;omega)) (by omega) (H.out.2.2.2.2.2.2.2.1 _ fOS3);obtain⟨ol,hol⟩:=zex out.length;rw[<-hol]at hset ⊢;have HS:=zhd7 hset fOS3 hD2 hr hol f3 e2;have HW:=zhd hw3;clear hset fOS3 hD2 hr hol f3 hs3 hR3 hRb2 e2 hsz hw12 hSw0 c1 z1 hw3;go_upto_region 8 with fail;rw[<-HW.out];clear y2 z2;go_wp2_with (go_at_call 79;refine HS.out.1.mono ?_;rintro e w4 ⟨rfl,f4,C',hR4,hC1,hC2⟩;have H4:=zhd4 f4 hR4 hC1 hC2;clear f4 hR4 hC1 hC2);go_end0;obtain⟨f4,hR4,hC1,hC2⟩:=H4.out;obtain⟨_,fOS3,hD2,hr,hol,f3,e2⟩:=HS.out;have hsz:=H.out.2.2.2.2.2.2.2.2.1;have hO:=lt_of_block H.out.1.ob;have hS:=lt_of_block H.out.1.sb;have hs1:=H1.out.2.2.2.2.2.1.size;refine⟨rfl,fOS3.trans (f4.mono (λx hx=>.inl (by simp at hx;simp[hx]))),C',D2,hR4,hC1,λj hj=>?_,?_,?_⟩
   ·rw[hD2,qaa (by omega)];exact H1.out.2.2.1 j (by omega)
   ·rw[hD2,qaa (by omega)];exact H1.out.2.2.2.1
   ·rw[hr];refine⟨?_,?_,a2,ol,λj v hv=>hC2 j v (by rw[hol]at hv ⊢;exact hv),?_,λy hy=>⟨?_,?_⟩,?_⟩
    ·rw[hD2,qaa (by omega),H1.out.2.2.1 _ (by omega)];exact H.out.2.2.2.2.2.2.1
    ·rw[hD2];exact qal (by omega)
    ·show lib.Rd w4 a2 ol out;rw[hol];exact (H2.o0.frS f3 (λx hx hm=>by have:=(H2.o1 x hx).1;simp at hm;omega)).frS f4 (λx hx hm=>by have:=(H2.o1 x hx).1;simp at hm;omega)
    ·have:=(H2.o1 y hy).1;omega
    ·have:=(H2.o1 y hy).2;have:=f3.size;have:=f4.size;omega
    ·exact HB.l2
  ·have hr:=HB.o1;rw[if_neg hx]at hr;have gx:((x:Int)!=0)=true:=by simp;omega
   have HX:=zhd (HERR.out w2 x H2.l2 (by omega) hr);clear hr hx;go_wp2;refine bodyPost_ret (results_none rfl _ _ _) rfl ?_;exact⟨rfl,HX.out⟩
def Copied (w:World) (bs:List UInt8) (e:Ending) (w':World):Prop:=
 ∃ao cap,e = .returned (.slice ao bs.length cap)∧lib.Rd w' ao cap bs∧bs.length≤cap∧cap≤maxLen∧(∀x∈blk ao,w.heap.size≤x∧x<w'.heap.size)∧Fr [] w w'
theorem qzy (ao:Option Addr) (cap:Nat) (bs:List UInt8) (w:World) (h:lib.Rd w ao cap bs) (hlim:bs.length≤140737488355328) :
  Calls Tryz.prog 37 #[.slice ao bs.length cap] w (Copied w bs):=by
 have qT:∀(w:World) (a:Option Addr) (n c n' c':Nat),(binOp .eql 23 (.slice a n c) (.slice none n' c')).run Tryz.prog w = .ok (.bool a.isNone) w:=λw a n c n' c'=>Lib.run_eql_slice_nil w _ _ a n c n' c' Tryz.underlying23
 have hcs:=h.cs;have hle:=h.le;have hnone:=h.nil;have hlt:=h;cases ao with
 | none=>
  have h0:=hnone rfl;obtain rfl:bs=[]:=qbv (by omega);go_enter Tryz.func37,Tryz.ntmps37;go_wp2;go_ret;exact⟨none,0,rfl,⟨.inl rfl,by simp,by decide,λ_=>rfl⟩,by simp,by decide,by simp[blk],Fr.refl _ _⟩
 | some a=>
  go_enter Tryz.func37,Tryz.ntmps37;go_wp2_with (refine qba sliceU8 rfl _ _ rfl (.slice (some ⟨w.heap.size,0,none⟩) 0 0) 0 [] [w.heap.size] rfl rfl ⟨rfl,.inr ⟨w.heap.size,0,#[],rfl,qa5 _,qay _ _,qae _,qa5 _,rfl,rfl⟩⟩ (some a) bs.length cap (bs.map bv) rfl hle hnone (hcs.fr ((Fr.refl [] w).alloc _) (by simp)) (by simp) (qc0 bs) (by omega) (by unfold maxLen;omega) ?_;intro ao1 cap1 w1 A1;simp only[qbg,qb4]at A1);go_ret;have fr2:Fr [] w w1:=((Fr.refl [] w).alloc _).step A1.fr (by simp);have hb:∀x∈blk ao1,w.heap.size≤x∧x<w1.heap.size:=λx hx=>⟨by have:=A1.at_ x hx;simp at this;omega,A1.lt x hx⟩
  exact⟨ao1,cap1,rfl,⟨qd4 A1.own,A1.le,A1.max,A1.nil⟩,A1.le,A1.max,hb,fr2⟩
theorem qva (m:EM) (X off:Nat) (w:World) (hX:w.cell? ⟨X,6,none⟩=some (.int .i64 off)) :
  Calls Tryz.prog 78 #[.agg (entV m.1 m.2 m.1.data.length),.pointer (some ⟨X,0,none⟩)] w λe w'=>e = .returned (.bool (m.1.at_==off))∧Fr [] w w':=by
 obtain⟨⟨xk,xa,xs,xc,xd,xb,xo⟩,da⟩:=m;simp only[entV];obtain⟨dl,hdl⟩:=zex xd.length;rw[<-hdl];have hXl:=qhg w _ hX;simp only at hXl;by_cases he:xa=off
 ·subst he;have he2:((xa:Int)==xa)=true:=beq_self_eq_true _;rw[show (xa==xa)=true from beq_self_eq_true _];go_enter Tryz.func78,Tryz.ntmps78;go_wp2;go_ret;exact⟨rfl,(Fr.refl [] w).alloc _⟩
 ·have he2:((xa:Int)==off)=false:=by simp;omega
  rw[show (xa==off)=false from by simpa using he];go_enter Tryz.func78,Tryz.ntmps78;go_wp2;go_ret;exact⟨rfl,(Fr.refl [] w).alloc _⟩
def atP (l:List Ent) (off k:Nat):Bool:=match l[k]? with
 | some y=>y.at_==off
 | none=>false
theorem zaf (l:List Ent) (i off:Nat):atOf l i off=(List.range i).find? (atP l off):=rfl
theorem qrf (p:Nat→Bool) (i:Nat):∀k,k≤i→(∀j,j<k→p j=false)→(List.range i).find? p=((List.range i).drop k).find? p:=by
 intro k;induction k with
 | zero=>intro _ _;rw[qaj]
 | succ k ih=>
  intro hk h;rw[ih (by omega) (λj hj=>h j (by omega))];have hd:(List.range i).drop k=k::(List.range i).drop (k+1):=by rw[qcg (by simp;omega)];simp
  rw[hd,qhn,h k (by omega)]
theorem zd0 {l:List Ent} {off k:Nat} (h:∀y,l[k]?=some y→y.at_≠off):atP l off k=false:=by
 unfold atP;cases hl:l[k]? with
 | none=>rfl
 | some y=>simpa using h y hl
theorem zdb (l:List Ent) (i off k:Nat) (y:Ent) (hk:k<i) (h:∀j,j<k→∀y,l[j]?=some y→y.at_≠off) (hy:l[k]?=some y) (ho:y.at_=off):atOf l i off=some k:=by
 rw[zaf,qrf _ i k (by omega) (λj hj=>zd0 (h j hj))];have hd:(List.range i).drop k=k::(List.range i).drop (k+1):=by rw[qcg (by simp;omega)];simp
 have hp:atP l off k=true:=by unfold atP;rw[hy];simpa using ho
 rw[hd,qhn,hp]
theorem zae (l:List Ent) (i off:Nat) (h:∀j,j<i→∀y,l[j]?=some y→y.at_≠off):atOf l i off=none:=by rw[zaf,qrf _ i i (qae _) (λj hj=>zd0 (h j hj)),List.drop_of_length_le (by simp)];rfl
def atI:Option Nat→Int
 | some k=>(k:Int)
 | none=>-1
theorem qyr (la:Option Addr) (ms:List EM) (i X off:Nat) (w:World) (h:Ents w la ms) (hi:i≤ms.length) (hfew:ms.length≤4096) (hX:w.cell? ⟨X,6,none⟩=some (.int .i64 off)) :
  Calls Tryz.prog 77 #[.slice la i ms.length,.func (.func 78) #[] #[.pointer (some ⟨X,0,none⟩)]] w λe w'=>e = .returned (.int .i64 (atI (atOf (ms.map (·.1)) i off)))∧Fr [] w w':=by
 obtain⟨n,hn⟩:=zex ms.length;have H:=zhd3 h hn hX;rw[<-hn]at hi hfew ⊢;clear h hn hX;go_enter Tryz.func77,Tryz.ntmps77;go_wp2;go_loopg [5,8] i (λk s5 s8 wr=>∃j:Nat,s8 = .int .i64 (j:Nat)∧j+k=i∧Fr [] w wr∧∀t,t<j→∀y,(ms.map (·.1))[t]?=some y→y.at_≠off);case atStart=>exact⟨0,rfl,by omega,Fr.refl _ _,λt ht=>by omega⟩
 case round=>
  obtain⟨j,rfl,hjk,hf,hno⟩:=hrel;have HL:=zhd2 hf hno;clear hf hno;by_cases hj:j<i
  ·obtain⟨k,rfl⟩:∃k,gk=k+1:=⟨gk-1,by omega⟩;obtain⟨m,hm⟩:∃m,ms[j]?=some m:=⟨ms[j]'(by rw[<-H.out.2.1];omega),qai _⟩;obtain⟨gb,o,hla,hce⟩:=(H.out.1.fr HL.out.1).cell hm;subst hla;have hst:=λw' f=>qva m X off w' ((HL.out.1.trans f).cell H.out.2.2 (by simp))
   have hst2:=hst;have hm2:=hm;have c0:=hce 0 _ (by decide) rfl;have c1:=hce 1 _ (by decide) rfl;have c2:=hce 2 _ (by decide) rfl;have c3:=hce 3 _ (by decide) rfl;have c4:=hce 4 _ (by decide) rfl;have c5:=hce 5 _ (by decide) rfl;have c6:=hce 6 _ (by decide) rfl;rw[<-qcb]at c0 c1 c2 c3 c4 c5 c6;clear hce hst hm;have hgl:(ms.map (·.1))[j]?=some m.1:=by rw[qbl,hm2];rfl
   have HG:=zhd hgl;clear hgl hm2;obtain⟨⟨xk,xa,xs,xc,xd,xb,xo⟩,da⟩:=m;simp only[entV]at hst2;replace c0:wr.cell? ⟨gb,o+j*7,none⟩=some (.int .i64 xk):=c0;replace c1:wr.cell? ⟨gb,o+j*7+1,none⟩=some (.int .i64 xa):=c1;replace c2:wr.cell? ⟨gb,o+j*7+2,none⟩=some (.int .i64 xs):=c2;replace c3:wr.cell? ⟨gb,o+j*7+3,none⟩=some (.int .u32 xc):=c3;replace c4:wr.cell? ⟨gb,o+j*7+4,none⟩=some (.slice da xd.length xd.length):=c4;replace c5:wr.cell? ⟨gb,o+j*7+5,none⟩=some (.string (str xb)):=c5;replace c6:wr.cell? ⟨gb,o+j*7+6,none⟩=some (.int .i64 xo):=c6;have HS:=zhd hst2;clear hst2;by_cases hx:xa=off
   ·have hb:(xa==off)=true:=by simpa using hx
    have HB:=zhd2 hx hb;clear hx hb;go_wp2_with (go_at_call 78;refine (HS.out _ (Fr.refl _ _)).mono ?_;rintro e w1 ⟨rfl,f1⟩;rw[HB.l1];have HF:=zhd f1;clear f1);go_ret;refine⟨?_,HL.out.1.trans HF.out⟩;rw[zdb (ms.map (·.1)) i off j _ hj HL.out.2 HG.out HB.o0];rfl
   ·have hb:(xa==off)=false:=by simpa using hx
    have HB:=zhd2 hx hb;clear hx hb;go_wp2_with (go_at_call 78;refine (HS.out _ (Fr.refl _ _)).mono ?_;rintro e w1 ⟨rfl,f1⟩;rw[HB.l1];have HF:=zhd f1;clear f1);go_roundg k;case measure=>omega
    case rel=>
     refine⟨j+1,rfl,by omega,HL.out.1.trans HF.out,?_⟩;intro t ht y hy;by_cases hjt:t=j
     ·subst hjt;rw[HG.out]at hy;obtain rfl:=qbm hy;exact HB.o0
     ·exact HL.out.2 t (by omega) y hy
  ·obtain rfl:j=i:=by omega
   have hnone:=zae (ms.map (·.1)) j off HL.out.2;have HX:=zhd hnone;clear hnone;go_wp2;go_ret;exact⟨by rw[HX.out];rfl,HL.out.1⟩
def S1 (w:World) (O S:Nat) (C D:Array Value) (i:Nat):St→Prop
 | none=>D[i*4]?=some (.bool false)∧D[i*4+1]?=some (.int .i64 0)
 | some (.error x)=>D[i*4]?=some (.bool true)∧D[i*4+1]?=some (.int .i64 x)∧0<x
 | some (.ok (o,d))=>D[i*4]?=some (.bool true)∧D[i*4+1]?=some (.int .i64 0)∧D[i*4+2]?=some (.int .i64 d)∧d≤50∧
   ∃ba bc,(∀j v,(objV o ba bc)[j]?=some v→C[i*5+j]?=some v)∧lib.Rd w ba bc o.body∧(∀y∈blk ba,y≠O∧y≠S)∧o.body.length≤2147483647
theorem S1.keep {w w':World} {O S:Nat} {C C' D D':Array Value} {i:Nat} {s:St} (h:S1 w O S C D i s) (hC:∀j,j<5→C'[i*5+j]?=C[i*5+j]?) (hD:∀j,j<3→D'[i*4+j]?=D[i*4+j]?) (f:Fr [O,S] w w'):S1 w' O S C' D' i s:=by
 have d0:=hD 0 (by decide);have d1:=hD 1 (by decide);have d2:=hD 2 (by decide);simp only[qbn]at d0;match s,h with
 | none,h=>exact⟨by rw[d0];exact h.1,by rw[d1];exact h.2⟩
 | some (.error x),h=>exact⟨by rw[d0];exact h.1,by rw[d1];exact h.2.1,h.2.2⟩
 | some (.ok (o,d)),h=>
  obtain⟨h0,h1,h2,h3,ba,bc,h4,h5,h6,h7⟩:=h;refine⟨by rw[d0];exact h0,by rw[d1];exact h1,by rw[d2];exact h2,h3,ba,bc,λj v hj=>?_,h5.frS f (λx hx=>by have:=h6 x hx;simp;exact this),h6,h7⟩;have hj5:j<5:=by have:=(qd0.1 hj).1;simpa[objV] using this
  rw[hC j hj5];exact h4 j v hj
def baseV (l:List Ent) (i:Nat) (x:Ent):Value:=
 if x.kind=6 then .iface 123 (.int .i64 (atI (atOf l i x.off))) else if x.kind=7 then .iface 124 (.string (str x.base)) else .nilIface
structure Sts (w:World) (O S:Nat) (C D:Array Value) (l:List Ent) (W:List St):Prop where
 len:W.length=l.length
 st:∀i s,W[i]?=some s→S1 w O S C D i s
 base:∀i x,l[i]?=some x→D[i*4+3]?=some (baseV l i x)
theorem Sts.one {w w':World} {O S:Nat} {C C' D D':Array Value} {l:List Ent} {W:List St} (h:Sts w O S C D l W) (i:Nat) (s:St)
  (hC:∀j,j<i*5∨i*5+5≤j→C'[j]?=C[j]?) (hD:∀j,j<i*4∨i*4+3≤j→D'[j]?=D[j]?) (f:Fr [O,S] w w') (hs:S1 w' O S C' D' i s):Sts w' O S C' D' l (W.set i s):=by
 refine⟨by rw[List.length_set];exact h.len,λk t hk=>?_,λk x hk=>?_⟩
 ·rw[List.getElem?_set]at hk;split at hk
  ·rename_i hik;subst hik;split at hk
   ·obtain rfl:=qbm hk;exact hs
   ·cases hk
  ·rename_i hik;exact (h.st k t hk).keep (λj hj=>hC _ (by omega)) (λj hj=>hD _ (by omega)) f
 ·rw[hD _ (by omega)];exact h.base k x hk
theorem qxt {r:Ent} {kind:Int} {b:List UInt8} {d:Nat} {o:Obj} {k:Nat} (h:over r kind b d = .ok (o,k)):k=d+1∧k≤50:=by
 unfold over at h;split at h
 ·cases h
 ·split at h
  ·cases h;exact⟨rfl,by omega⟩
  ·cases h
theorem Fin.st {w w':World} {O S i:Nat} {C C' D D':Array Value} {r:Ent} {kind:Int} {b:List UInt8} {d:Nat} (h:Fin w w' O S i C C' D D' (over r kind b d)) (hO:O<w.heap.size) (hS:S<w.heap.size):S1 w' O S C' D' i (some (over r kind b d)):=by
 obtain⟨R,hR⟩:=zex (over r kind b d);rw[<-hR]at h ⊢;obtain⟨-,-,h0,h1⟩:=h;match R,hR,h1 with
 | .error x,_,h1=>exact⟨h0,h1.1,h1.2⟩
 | .ok (o,k),hR,h1=>obtain⟨g1,g2,ba,bc,g3,g4,g5,g6⟩:=h1;exact⟨h0,g1,g2,(qxt hR.symm).2,ba,bc,g3,g4,λy hy=>⟨by have:=(g5 y hy).1;omega,by have:=(g5 y hy).1;omega⟩,g6⟩
end Go.Proofs.YtkmpfgpfbmeihaaGreatDoor.pk
