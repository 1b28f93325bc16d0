/-
  Texts of this proof, one behind the other: IntsRow, LenDist, MatLaw, Mat, MatE, MatM.
-/
import Derived.Test.YtkmpfgpfbmeihaaGreatDoorS5
import Derived.Lib.AppendZerosOnto
import Derived.Lib.AppendZeros
import Derived.Deep.WholeRow
import Derived.Maps.OwnOps
import Derived.Maps.OwnSet
set_option maxHeartbeats 16000000
set_option maxRecDepth 100000
set_option linter.unusedVariables false
set_option linter.unusedSimpArgs false
namespace Go.Proofs.YtkmpfgpfbmeihaaGreatDoor.huf
open Go Go.RowKit lib bm bl
structure Made (w w':World) (e:TypeId) (size:Nat) (ao:Option Addr) (n cap:Nat) (xs:List Value):Prop where
 own:w'.ownsRow 0 e size (.slice ao n cap) n xs
 fr:Fr [] w w'
 new:∀x∈blk ao,w.heap.size≤x
 le:n≤cap
 max:cap≤maxLen
 nil:ao=none→cap=0
theorem Made.none (w:World) (e:TypeId) (size:Nat):Made w w e size none 0 0 []:=⟨⟨by simp,.inl ⟨rfl,rfl⟩⟩,.refl _ w,by simp[blk],qae _,qa5 _,λ_=>rfl⟩
theorem Made.app {w w1 w2:World} {e:TypeId} {size:Nat} {ao ao2:Option Addr} {n m cap cap2:Nat} {xs ys:List Value} (h:Made w w1 e size ao n cap xs) (h2:Appended w1 w2 e size (blk ao) ao2 m cap2 ys):Made w w2 e size ao2 m cap2 ys:=
 ⟨h2.own,h.fr.step h2.fr (λx hx=>.inr (h.new x hx)),λx hx=>by
  rcases h2.at_ x hx with k|k
  ·exact h.new x k
  ·rw[k];exact h.fr.size,h2.le,h2.max,h2.nil⟩
theorem Made.fr2 {w w1 w2:World} {e:TypeId} {size:Nat} {ao:Option Addr} {n cap:Nat} {xs:List Value} (h:Made w w1 e size ao n cap xs) (f:Fr [] w1 w2):Made w w2 e size ao n cap xs:=
 ⟨qa7 h.own f (by simp),h.fr.trans f,h.new,h.le,h.max,h.nil⟩
theorem Made.lt {w w':World} {e:TypeId} {size:Nat} {ao:Option Addr} {n cap:Nat} {xs:List Value} (h:Made w w' e size ao n cap xs):∀x∈blk ao,x<w'.heap.size:=λ_ hx=>qdu h.own (qdw hx)
theorem Made.pre {w0 w w':World} {e:TypeId} {size:Nat} {ao:Option Addr} {n cap:Nat} {xs:List Value} (h:Made w w' e size ao n cap xs) (f:Fr [] w0 w):Made w0 w' e size ao n cap xs:=
 ⟨h.own,f.trans h.fr,λx hx=>qar f.size (h.new x hx),h.le,h.max,h.nil⟩
theorem qdd:SliceTy Tryz.prog 28 3 (.int .i64 0) 1 8:=SliceTy.of Tryz.underlying28 (by kernel_rfl) rfl (by decide)
theorem qjr:(Tryz.prog.info? 3).map (λi=>(i.zero,i.size,i.bytes))=some (some (.int .i64 0),1,8):=by kernel_rfl
def ints (l:List Nat):List Value:=l.map λx=>.int .i64 (x:Nat)
theorem qlm (l:List Nat):∀u∈ints l,u.oneCell'=true:=by intro u hu;simp only[ints,qcj]at hu;obtain⟨x,_,rfl⟩:=hu;rfl
theorem qm3 (l:List Nat):(ints l).length=l.length:=by simp[ints]
theorem Ri.take {w:World} {a:Option Addr} {cap:Nat} {xs:List Nat} (h:Ri w a cap xs) (n:Nat):Ri w a cap (xs.take n):=by
 refine⟨?_,by have:=h.le;rw[qaq];omega,h.max,h.nil⟩;rcases h.cs with h0|⟨g,o,e,hc⟩
 ·left;have:xs=[]:=by simpa using h0
  rw[this];simp
 ·refine .inr ⟨g,o,e,λj v hv=>hc j v ?_⟩;rw[qlc,qbs]at hv;split at hv
  ·exact hv
  ·cases hv
theorem qpb {w w':World} {ao:Option Addr} {n cap:Nat} {xs:List Nat} (h:Made w w' 3 1 ao n cap (ints xs)) (hn:n=xs.length):Ri w' ao cap xs:=⟨qd4 h.own,by rw[<-hn];exact h.le,h.max,h.nil⟩
def Ow (w:World) (Q N:Nat) (F:Nat→Nat):Prop:=∃A,w.heap[Q]?=some (.cells A 3 (0,0))∧A.size=N∧∀s,s<N→A[s]?=some (.int .i64 (F s:Nat))
theorem Ow.cell {w:World} {Q N:Nat} {F:Nat→Nat} (h:Ow w Q N F) {s:Nat} (hs:s<N):w.cell? ⟨Q,s,none⟩=some (.int .i64 (F s:Nat)):=by obtain⟨A,hA,_,hF⟩:=h;rw[cell_of hA,hF s hs]
theorem Ow.frozen {w:World} {Q N:Nat} {F:Nat→Nat} (h:Ow w Q N F) (s:Nat):w.frozen? ⟨Q,s,none⟩=false:=by obtain⟨A,hA,_,hF⟩:=h;exact qau hA s
theorem Ow.set {w:World} {Q N:Nat} {F:Nat→Nat} (h:Ow w Q N F) {s:Nat} (hs:s<N) (v:Nat):Ow (w.setCell ⟨Q,s,none⟩ (.int .i64 v)) Q N (λt=>if t=s then v else F t):=by
 obtain⟨A,hA,hn,hF⟩:=h;refine⟨_,qax hA _,by simp[hn],λt ht=>?_⟩;by_cases e:t=s
 ·subst e;rw[qal (by omega)];simp only[if_true]
 ·rw[qaa (by omega)];simp only[if_neg e];exact hF t ht
theorem Ow.fr {w w':World} {S:List Nat} {Q N:Nat} {F:Nat→Nat} (h:Ow w Q N F) (f:Fr S w w') (hS:Q∉S):Ow w' Q N F:=by obtain⟨A,hA,hn⟩:=h;exact⟨A,f.blk hA hS,hn⟩
theorem Ow.congr {w:World} {Q N:Nat} {F G:Nat→Nat} (h:Ow w Q N F) (e:∀s,s<N→F s=G s):Ow w Q N G:=by obtain⟨A,hA,hn,hF⟩:=h;exact⟨A,hA,hn,λs hs=>by rw[hF s hs,e s hs]⟩
theorem Ow.cs {w:World} {Q N:Nat} {F:Nat→Nat} (h:Ow w Q N F):Cs w (some ⟨Q,0,none⟩) (ints ((List.range N).map F)):=by
 refine .inr ⟨Q,0,rfl,λj v hv=>?_⟩;have hj:j<N:=by have:=(qa9.1 hv).1;simpa[ints] using this
 rw[qbg,h.cell hj,<-hv];simp[ints,hj]
theorem qpf {w:World} {N Q:Nat} (h:w.ownsRow 0 3 1 (.slice (some ⟨Q,0,none⟩) N N) N (madeCells (Value.int .i64 0).cells (N*1)).toList):Ow w Q N (λ_=>0):=by
 obtain⟨o1,o2⟩:=h;rcases o2 with⟨o2,_⟩|⟨g,c',cur,o2,_,hg,_,_,hsz,ht⟩
 ·cases o2
 ·simp only[qbp,qaw,qcz,and_true,true_and]at o2;obtain⟨rfl,rfl⟩:=o2;refine⟨cur,hg,by omega,λj hj=>?_⟩;have h1:cur.toList[j]?=(madeCells (Value.int .i64 0).cells (N*1)).toList[j]?:=by rw[<-ht,qbs,if_pos (by omega)]
  rw[<-qbz,h1,show (Value.int .i64 0).cells=#[.int .i64 0] from rfl,toList_madeCells_one,qld,if_pos (by omega)];rfl
end Go.Proofs.YtkmpfgpfbmeihaaGreatDoor.huf
namespace Go.Proofs.YtkmpfgpfbmeihaaGreatDoor.defl
open Go Go.RowKit lib bm bl huf
def ordL:List Nat:=[16,17,18,0,8,7,9,6,10,5,11,4,12,3,13,2,14,1,15]
def ord (i:Nat):Nat:=ordL[i]?.getD 0
theorem qt3 (i:Nat):ord i<19:=by
 unfold ord;cases h:ordL[i]? with
 | none=>simp
 | some x=>have:=qa8 h;simp only[ordL,qbh,qcw,or_false]at this;simp only[qi3];omega
theorem qqg (O nc:Nat) (h:nc≤19) (w:World):(Instr.sliceAt 287 (.pointer (some ⟨O,0,none⟩)) none (some (.int .i64 nc)) none).run Tryz.prog w = .ok (.slice (some ⟨O,0,none⟩) nc 19) w:=by
 have e:Tryz.prog.arrayLen 287=19:=by kernel_rfl
 have el:Tryz.prog.elem 287=3:=by kernel_rfl
 have hu:Tryz.prog.underlying 287=some (.array 19 3):=by kernel_rfl
 have:=run_sliceAt_array_h (P:=Tryz.prog) (t:=287) (w:=w) ⟨O,0,none⟩ (by rw[e,el];exact hu) .i64 (nc:Nat) (by omega) (by rw[e];omega);rw[this,e,el];obtain⟨i,hi,_,hs,_⟩:=info_parts qjr;simp[sizeOf,typeInfo,hi,slicedAt,Result.andThen];exact qe6 O 0 0
end Go.Proofs.YtkmpfgpfbmeihaaGreatDoor.defl
namespace Go.Proofs.YtkmpfgpfbmeihaaGreatDoor.defl
open Go Go.RowKit lib bm
def lcode (n:Nat):Nat×Nat×Nat:=if n<11 then (n+254,0,0) else if n=258 then (285,0,0) else (257+4*(Nat.log2 (n-3)-2)+(n-3)/2^(Nat.log2 (n-3)-2),(n-3)%2^(Nat.log2 (n-3)-2),Nat.log2 (n-3)-2)
def dcode (n:Nat):Nat×Nat×Nat:=if n<5 then (n-1,0,0) else (2*(Nat.log2 (n-1)-1)+(n-1)/2^(Nat.log2 (n-1)-1),(n-1)%2^(Nat.log2 (n-1)-1),Nat.log2 (n-1)-1)
theorem qyc {m w c:Nat} (h1:2^(w+c)≤m) (h2:m<2^(w+c+1)):Nat.log2 m-c=w:=by
 have h0:m≠0:=by have:=qbt (w+c);omega
 have k1:=(Nat.le_log2 h0).2 h1;have k2:=(Nat.log2_lt h0).2 h2;omega
theorem qpn {n w:Nat} (h11:11≤n) (h258:n≠258) (h1:4*2^w≤n-3) (h2:n-3<8*2^w):lcode n=(257+4*w+(n-3)/2^w,(n-3)%2^w,w):=by have e:Nat.log2 (n-3)-2=w:=qyc (by rw[qci];omega) (by rw[qci,qci];omega);unfold lcode;rw[if_neg (by omega),if_neg h258,e]
theorem qpy {n w:Nat} (h5:5≤n) (h1:2*2^w≤n-1) (h2:n-1<4*2^w):dcode n=(2*w+(n-1)/2^w,(n-1)%2^w,w):=by have e:Nat.log2 (n-1)-1=w:=qyc (by rw[qci];omega) (by rw[qci,qci];omega);unfold dcode;rw[if_neg (by omega),e]
def Triple (c:Nat×Nat×Nat):Ending:=.returned (.tuple #[.int .i64 (c.1:Nat),.int .u32 (c.2.1:Nat),.int .i64 (c.2.2:Nat)])
theorem qib (n:Nat) (w:World) (h3:3≤n) (h258:n≤258) :
  Calls Tryz.prog 158 #[.int .i64 n] w λe w'=>e=Triple (lcode n)∧Fr [] w w':=by
 by_cases h11:n<11
 ·go_enter Tryz.func158,Tryz.ntmps158;go_wp2;go_ret3;refine⟨?_,.refl _ w⟩;unfold Triple lcode;rw[if_pos h11];rfl
 ·by_cases h8:n=258
  ·subst h8;go_enter Tryz.func158,Tryz.ntmps158;go_wp2;go_ret3;exact⟨rfl,.refl _ w⟩
  ·have q1:((n:Int)==258)=false:=by simp only[beq_eq_false_iff_ne];omega
   obtain⟨m,hm⟩:=zex (n-3);have e0:(n:Int)-3=(m:Int):=by omega
   have hm8:8≤m:=by omega
   have hm2:m≤254:=by omega
   have HM:=zhd hm;clear hm;go_enter Tryz.func158,Tryz.ntmps158;go_upto_block 1 with fail;go_wp2;go_loopg [4] 6 (λk s4 wr=>∃v:Nat,s4 = .int .i64 (v:Nat)∧1≤v∧v+k=7∧4*2^v≤m∧w=wr);case atStart=>exact⟨1,rfl,qae _,rfl,by omega,rfl⟩
   case round=>
    obtain⟨v,rfl,hv1,hvk,hv4,rfl⟩:=hrel;obtain⟨z,hz⟩:=zex (2^v);have e2:(2:Int)^v=(z:Int):=by rw[hz];exact qeh v
    rw[<-hz]at hv4;have hz64:z≤64:=by omega
    have HZ:=zhd hz;clear hz;by_cases hlt:m<8*z
    ·have q2:decide (8*(z:Int)≤(m:Int))=false:=by simp;omega
     obtain⟨q,hq⟩:=zex (m/z);obtain⟨r,hr⟩:=zex (m%z);have hzp:0<z:=by omega
     have e3:(m:Int)/(z:Int)=(q:Int):=by rw[hq];exact (qi6 m z).symm
     have e4:bits .and .u32 (m:Int) ((z:Int)-1)=(r:Int):=by rw[show (z:Int)-1=((z-1:Nat):Int) from by omega,u32_and_nat m (z-1) (by omega) (by omega),HZ.out,qf7,<-HZ.out,hr]
     have hq7:q<8:=by rw[hq];exact (qc7 hzp).2 hlt
     have hv7:v≤7:=by omega
     have HR:=zhd4 hq hr hlt hv4;clear hq hr hlt hv4;go_upto_region 8 with fail;go_quiet (fail);clear e3 e4;go_wp2;go_ret3;obtain⟨hq,hr,hlt,hv4⟩:=HR.out;have hm:=HM.out;have hz:=HZ.out;refine⟨?_,Fr.drewN [] w _⟩;unfold Triple;rw[qpn (w:=v) (by omega) h8 (by omega) (by omega),<-hm,<-hz,<-hq,<-hr];rw[show (261+4*(v:Int)+(q:Int)-4)=((257+4*v+q:Nat):Int) from by omega];rfl
    ·have hv5:v≤5:=by
      rcases qb8 v 6 with h|h
      ·omega
      ·have:2^6≤2^v:=qa3 (by decide) h;have:=HZ.out;omega
     go_wp2;go_roundg (gk-1);case measure=>omega
     case rel=>exact⟨v+1,by go_num,by omega,by omega,by have:=HZ.out;rw[qcs];omega,rfl⟩
theorem qgh (n:Nat) (w:World) (h1:1≤n) (h2:n≤32768) :
  Calls Tryz.prog 159 #[.int .i64 n] w λe w'=>e=Triple (dcode n)∧Fr [] w w':=by
 by_cases h5:n<5
 ·obtain⟨m,hm⟩:=zex (n-1);have e0:(n:Int)-1=(m:Int):=by omega
  have HM:=zhd hm;clear hm;go_enter Tryz.func159,Tryz.ntmps159;go_wp2;go_ret3;refine⟨?_,.refl _ w⟩;unfold Triple dcode;rw[if_pos h5,<-HM.out];rfl
 ·obtain⟨m,hm⟩:=zex (n-1);have e0:(n:Int)-1=(m:Int):=by omega
  have hm8:4≤m:=by omega
  have hm2:m≤32767:=by omega
  have HM:=zhd hm;clear hm;go_enter Tryz.func159,Tryz.ntmps159;go_upto_block 0 with fail;go_wp2;go_loopg [4] 14 (λk s4 wr=>∃v:Nat,s4 = .int .i64 (v:Nat)∧1≤v∧v+k=15∧2*2^v≤m∧w=wr);case atStart=>exact⟨1,rfl,qae _,rfl,by omega,rfl⟩
  case round=>
   obtain⟨v,rfl,hv1,hvk,hv4,rfl⟩:=hrel;obtain⟨z,hz⟩:=zex (2^v);have e2:(2:Int)^v=(z:Int):=by rw[hz];exact qeh v
   rw[<-hz]at hv4;have hz64:z≤16384:=by omega
   have HZ:=zhd hz;clear hz;by_cases hlt:m<4*z
   ·have q2:decide (4*(z:Int)≤(m:Int))=false:=by simp;omega
    obtain⟨q,hq⟩:=zex (m/z);obtain⟨r,hr⟩:=zex (m%z);have hzp:0<z:=by omega
    have e3:(m:Int)/(z:Int)=(q:Int):=by rw[hq];exact (qi6 m z).symm
    have e4:bits .and .u32 (m:Int) ((z:Int)-1)=(r:Int):=by rw[show (z:Int)-1=((z-1:Nat):Int) from by omega,u32_and_nat m (z-1) (by omega) (by omega),HZ.out,qf7,<-HZ.out,hr]
    have hq7:q<4:=by rw[hq];exact (qc7 hzp).2 hlt
    have hv7:v≤15:=by omega
    have HR:=zhd4 hq hr hlt hv4;clear hq hr hlt hv4;go_upto_region 6 with fail;go_quiet (fail);clear e3 e4;go_wp2;go_ret3;obtain⟨hq,hr,hlt,hv4⟩:=HR.out;have hm:=HM.out;have hz:=HZ.out;refine⟨?_,Fr.drewN [] w _⟩;unfold Triple;rw[qpy (w:=v) (by omega) (by omega) (by omega),<-hm,<-hz,<-hq,<-hr];rw[show (2+2*(v:Int)+(q:Int)-2)=((2*v+q:Nat):Int) from by omega];rfl
   ·have hv5:v≤13:=by
     rcases qb8 v 14 with h|h
     ·omega
     ·have:2^14≤2^v:=qa3 (by decide) h;have:=HZ.out;omega
    go_wp2;go_roundg (gk-1);case measure=>omega
    case rel=>exact⟨v+1,by go_num,by omega,by omega,by have:=HZ.out;rw[qcs];omega,rfl⟩
end Go.Proofs.YtkmpfgpfbmeihaaGreatDoor.defl
namespace Go.Proofs.YtkmpfgpfbmeihaaGreatDoor.mat
open Go Go.RowKit lib
def three (b:List UInt8) (i:Nat):Nat:=(b[i]?.getD 0).toNat+256*(b[i+1]?.getD 0).toNat+65536*(b[i+2]?.getD 0).toNat
theorem qo1 (b:List UInt8) (i:Nat):three b i<4294967296:=by unfold three;have h0:=qbc (b[i]?.getD 0);have h1:=qbc (b[i+1]?.getD 0);have h2:=qbc (b[i+2]?.getD 0);omega
def last (b:List UInt8):Nat→Nat→Option Nat
 | 0,_=>none
 | i+1,k=>if i+3≤b.length∧three b i=k then some i else last b i k
theorem qm2 (b:List UInt8):∀(i k p:Nat),last b i k=some p→p<i∧p+3≤b.length∧three b p=k
 | 0,_,_,h=>by cases h
 | i+1,k,p,h=>by
  unfold last at h;split at h
  ·rename_i hc;obtain rfl:=qbm h;exact⟨by omega,hc.1,hc.2⟩
  ·have:=qm2 b i k p h;exact⟨by omega,this.2⟩
def alikeF (b:List UInt8) (i j:Nat):Nat→Nat→Nat
 | 0,n=>n
 | f+1,n=>if j+n<b.length∧b[i+n]?=b[j+n]? then alikeF b i j f (n+1) else n
def alike (b:List UInt8) (i j:Nat):Nat:=alikeF b i j 258 0
theorem qno (b:List UInt8) (i j:Nat):∀(f n:Nat),j+n≤b.length→(∀k,k<n→b[i+k]?=b[j+k]?)→
  n≤alikeF b i j f n∧alikeF b i j f n≤n+f∧j+alikeF b i j f n≤b.length∧∀k,k<alikeF b i j f n→b[i+k]?=b[j+k]?
 | 0,n,h1,h2=>⟨qae _,qae _,h1,h2⟩
 | f+1,n,h1,h2=>by
  unfold alikeF;split
  ·rename_i hc;obtain⟨a,b',c,d⟩:=qno b i j f (n+1) (by omega) (λk hk=>by
    by_cases e:k=n
    ·rw[e];exact hc.2
    ·exact h2 k (by omega))
   exact⟨by omega,by omega,c,d⟩
  ·exact⟨qae _,by omega,h1,h2⟩
theorem qkv (b:List UInt8) (i j:Nat) (h:j≤b.length):alike b i j≤258∧j+alike b i j≤b.length∧∀k,k<alike b i j→b[i+k]?=b[j+k]?:=by obtain⟨_,h1,h2,h3⟩:=qno b i j 258 0 (by omega) (λk hk=>by omega);exact⟨by unfold alike;omega,h2,h3⟩
def chase (b:List UInt8) (r i:Nat):Nat→Option Nat→Nat→Nat→Nat×Nat
 | 0,_,best,at_=>(best,at_)
 | _+1,none,best,at_=>(best,at_)
 | n+1,some p,best,at_=>if i-p≤r then (if best<alike b p i then chase b r i n (last b p (three b p)) (alike b p i) p else chase b r i n (last b p (three b p)) best at_) else (best,at_)
theorem qkt (b:List UInt8) (r i:Nat):∀(n:Nat) (p:Option Nat) (best at_:Nat),(∀q,p=some q→q<i)→(best=0∨(best=alike b at_ i∧at_<i∧i-at_≤r))→
  best≤(chase b r i n p best at_).1∧((chase b r i n p best at_).1=0∨((chase b r i n p best at_).1=alike b (chase b r i n p best at_).2 i∧(chase b r i n p best at_).2<i∧i-(chase b r i n p best at_).2≤r))
 | 0,_,_,_,_,h=>⟨qae _,h⟩
 | _+1,none,_,_,_,h=>⟨qae _,h⟩
 | n+1,some p,best,at_,hp,h=>by
  have hpi:=hp p rfl;have hl:∀q,last b p (three b p)=some q→q<i:=λq hq=>by have:=(qm2 b _ _ _ hq).1;omega
  unfold chase;split
  ·split
   ·obtain⟨h1,h2⟩:=qkt b r i n (last b p (three b p)) (alike b p i) p hl (.inr ⟨rfl,hpi,by assumption⟩);exact⟨by omega,h2⟩
   ·exact qkt b r i n _ best at_ hl h
  ·exact⟨qae _,h⟩
def best (b:List UInt8) (r i:Nat):Nat×Nat:=chase b r i 48 (last b i (three b i)) 0 0
theorem qru (b:List UInt8) (r i:Nat) (h:0<(best b r i).1):(best b r i).1=alike b (best b r i).2 i∧(best b r i).2<i∧i-(best b r i).2≤r:=by
 have h1:=(qkt b r i 48 (last b i (three b i)) 0 0 (λq hq=>(qm2 b _ _ _ hq).1) (.inl rfl)).2;unfold best at *;rcases h1 with h1|h1
 ·omega
 ·exact h1
abbrev Mt:=Nat×Nat×Nat
def step (b:List UInt8) (r i:Nat):Nat:=if 3≤(best b r i).1 then (best b r i).1 else 1
def mloop (b:List UInt8) (r:Nat):Nat→Nat→List Mt
 | 0,_=>[]
 | f+1,i=>if i+3≤b.length then (if 3≤(best b r i).1 then (i,(best b r i).1,i-(best b r i).2)::mloop b r f (i+step b r i) else mloop b r f (i+step b r i)) else []
def qen (b:List UInt8) (reach:Int):List Mt:=if 0<reach then mloop b (min reach 32768).toNat b.length 0 else []
def Chain (b:List UInt8) (r:Nat):Nat→List Mt→Prop
 | _,[]=>True
 | e,(a,n,d)::t=>e≤a∧3≤n∧n≤258∧1≤d∧d≤r∧d≤a∧a+n≤b.length∧(∀k,k<n→b[a+k]?=b[a+k-d]?)∧Chain b r (a+n) t
theorem Chain.mono {b:List UInt8} {r e e':Nat} {l:List Mt} (h:Chain b r e l) (he:e'≤e):Chain b r e' l:=by
 cases l with
 | nil=>trivial
 | cons x t=>obtain⟨a,n,d⟩:=x;exact⟨qar he h.1,h.2⟩
theorem qmw (b:List UInt8) (r:Nat):∀(f i:Nat),Chain b r i (mloop b r f i)
 | 0,_=>trivial
 | f+1,i=>by
  unfold mloop;split
  ·rename_i hi;have ih:=qmw b r f (i+step b r i);split
   ·rename_i h3;obtain⟨h1,h2,h4⟩:=qru b r i (by omega);obtain⟨k1,k2,k3⟩:=qkv b (best b r i).2 i (by omega);rw[<-h1]at k1 k2 k3;have hs:step b r i=(best b r i).1:=if_pos h3;rw[hs]at ih;refine⟨qae _,h3,k1,by omega,h4,by omega,k2,λk hk=>?_,by rw[hs];exact ih⟩;have:=k3 k hk;rw[show i+k-(i-(best b r i).2)=(best b r i).2+k from by omega,this]
   ·exact ih.mono (by omega)
  ·trivial
theorem qfq (b:List UInt8) (reach:Int):Chain b (min reach 32768).toNat 0 (qen b reach):=by
 unfold qen;split
 ·exact qmw _ _ _ _
 ·trivial
theorem Chain.len {b:List UInt8} {r:Nat}:∀{l:List Mt} {e:Nat},Chain b r e l→e≤b.length→l.length≤b.length-e
 | [],_,_,_=>qa5 _
 | (a,n,d)::t,e,h,_=>by obtain⟨h1,h2,h3,h4,h5,h6,h7,h8,h9⟩:=h;have:=h9.len h7;rw[qao];omega
theorem Chain.at {b:List UInt8} {r:Nat}:∀{l:List Mt} {e:Nat},Chain b r e l→∀{i:Nat} {x:Mt},l[i]?=some x→
  3≤x.2.1∧x.2.1≤258∧1≤x.2.2∧x.2.2≤r∧x.2.2≤x.1∧x.1+x.2.1≤b.length∧(∀k,k<x.2.1→b[x.1+k]?=b[x.1+k-x.2.2]?)∧(if i=0 then e≤x.1 else ∃y,l[i-1]?=some y∧y.1+y.2.1≤x.1)
 | [],_,_,i,x,h=>by simp at h
 | (a,n,d)::t,e,hc,0,x,h=>by
  simp only[qac,qaw]at h;subst h;obtain⟨h1,h2,h3,h4,h5,h6,h7,h8,_⟩:=hc;exact⟨h2,h3,h4,h5,h6,h7,h8,h1⟩
 | (a,n,d)::t,e,hc,i+1,x,h=>by
  rw[qaf]at h;obtain⟨h1,h2,h3,h4,h5,h6,h7,h8⟩:=hc.2.2.2.2.2.2.2.2.at h;refine⟨h1,h2,h3,h4,h5,h6,h7,?_⟩;rw[if_neg (by omega),qgz];split at h8
  ·rename_i h0;subst h0;exact⟨(a,n,d),rfl,h8⟩
  ·rename_i h0;obtain⟨y,hy,hy2⟩:=h8;refine⟨y,?_,hy2⟩;obtain⟨j,rfl⟩:∃j,i=j+1:=⟨i-1,by omega⟩;simpa using hy
open bm
theorem or8 (x y:Nat) (hx:x<256) (hy:y<256):bits .or .u32 (x:Int) ((y:Int)*256)=((x+256*y:Nat):Int):=by have h:=qr3 x y 8 8 hx hy (by decide);rw[Int.emod_eq_of_lt (by omega) (by have e:(2:Int)^8=256:=rfl;rw[e];omega)]at h;exact h
theorem or16 (x y:Nat) (hx:x<65536) (hy:y<256):bits .or .u32 (x:Int) ((y:Int)*65536)=((x+65536*y:Nat):Int):=by have h:=qr3 x y 16 8 hx hy (by decide);rw[Int.emod_eq_of_lt (by omega) (by have e:(2:Int)^16=65536:=rfl;rw[e];omega)]at h;exact h
theorem three_drop (b:List UInt8) (i:Nat):three (b.drop i) 0=three b i:=by unfold three;simp only[qc5,qbn,qbg]
theorem qqa (a:Option Addr) (cap:Nat) (d:List UInt8) (w:World) (h:Rd w a cap d) (h3:3≤d.length) :
  Calls Tryz.prog 153 #[.slice a d.length cap] w λe w'=>e = .returned (.int .u32 (three d 0))∧∃n,w'=w.drewN n:=by
 obtain⟨g,o,rfl,c0⟩:=h.at (i:=0) (by omega);obtain⟨g1,o1,e1,c1⟩:=h.at (i:=1) (by omega);obtain⟨g2,o2,e2,c2⟩:=h.at (i:=2) (by omega);simp only[qaw,qcz,and_true]at e1 e2;obtain⟨rfl,rfl⟩:=e1;obtain⟨rfl,rfl⟩:=e2;have hle:=h.le;have b0:(d[0]?.getD 0)=d[0]:=by rw[qai (by omega)];rfl
 have b1:(d[1]?.getD 0)=d[1]:=by rw[qai (by omega)];rfl
 have b2:(d[2]?.getD 0)=d[2]:=by rw[qai (by omega)];rfl
 have ht:three d 0=d[0].toNat+256*d[1].toNat+65536*d[2].toNat:=by unfold three;rw[qbg,qbg,b0,b1,b2]
 have l0:=qbc d[0];have l1:=qbc d[1];have l2:=qbc d[2];rw[ht];generalize d[0].toNat=x0 at *;generalize d[1].toNat=x1 at *;generalize d[2].toNat=x2 at *;have o1:=or8 x0 x1 (by omega) (by omega);obtain⟨y,hy⟩:=zex (x0+256*x1);rw[<-hy]at o1;have o2:=or16 y x2 (by omega) (by omega);rw[<-hy];obtain⟨z,hz⟩:=zex (y+65536*x2);rw[<-hz]at o2 ⊢;clear hy hz;have g0:(0:Int)<(d.length:Int):=by omega
 have g1:(1:Int)<(d.length:Int):=by omega
 have g2:(2:Int)<(d.length:Int):=by omega
 simp only[qbn]at c0;clear h b0 b1 b2 ht;go_enter Tryz.func153,Tryz.ntmps153;go_wp2_with fail;go_quiet (fail);go_wp2;go_ret;exact⟨rfl,_,rfl⟩
theorem qnn {b:List UInt8} {i j f n:Nat} (h:¬(j+n<b.length∧b[i+n]?=b[j+n]?)):alikeF b i j f n=n:=by
 cases f with
 | zero=>rfl
 | succ f=>rw[alikeF,if_neg h]
theorem zal (a:Option Addr) (cap i j:Nat) (b:List UInt8) (w:World) (h:Rd w a cap b) (hij:i≤j) (hj:j≤b.length) :
  Calls Tryz.prog 154 #[.slice a b.length cap,.int .i64 i,.int .i64 j] w λe w'=>e = .returned (.int .i64 (alike b i j))∧Fr [] w w':=by
 have hle:=h.le;have hmax:=h.max;unfold maxLen at hmax;obtain⟨L,hL⟩:=zex b.length;rw[<-hL]at hle hj ⊢;have H:=zhd2 h hL;clear h hL;go_enter Tryz.func154,Tryz.ntmps154;go_upto_block 0 with fail;go_wp2;go_loopg [7] 258 (λk s7 wr=>∃n:Nat,s7 = .int .i64 (n:Nat)∧n+k=258∧j+n≤L∧alikeF b i j k n=alike b i j∧Fr [] w wr);case atStart=>exact⟨0,rfl,rfl,by omega,rfl,Fr.refl _ _⟩
 case round=>
  obtain⟨n,rfl,hn,hjn,hal,hf⟩:=hrel;have HF:=zhd2 hal hf;clear hal hf;obtain⟨m1,hm1⟩:=zex (i+n);obtain⟨m2,hm2⟩:=zex (j+n);have e1:(i:Int)+(n:Int)=(m1:Int):=by omega
  have e2:(j:Int)+(n:Int)=(m2:Int):=by omega
  have w1:IntKind.i64.wrap ((i:Int)+(n:Int))=(m1:Int):=by rw[qbw];omega
  have w2:IntKind.i64.wrap ((j:Int)+(n:Int))=(m2:Int):=by rw[qbw];omega
  have HE:=zhd2 hm1 hm2;have l1:m1≤L:=by omega
  have l2:m2≤L:=by omega
  have l3:m1≤m2:=by omega
  by_cases hn258:n<258
  ·obtain⟨k,rfl⟩:∃k,gk=k+1:=⟨gk-1,by omega⟩;have d0:decide ((n:Int)<258)=true:=by simp;omega
   by_cases c2:m2<L
   ·have d2:decide (m2<L)=true:=by simpa using c2
    have d2':decide ((m2:Int)<L)=true:=by simp;omega
    have hl1:m1<b.length:=by rw[<-H.out.2];omega
    have hl2:m2<b.length:=by rw[<-H.out.2];omega
    obtain⟨g1,o1,ra,X1⟩:=H.out.1.at hl1;obtain⟨g2,o2,rb,X2⟩:=H.out.1.at hl2;have rb':=rb;rw[ra]at rb';simp only[qaw,qcz,and_true]at rb';obtain⟨rfl,rfl⟩:=rb';have x1:=HF.l1.cell X1 (by simp);have x2:=HF.l1.cell X2 (by simp);clear X1 X2;obtain⟨y1,hy1⟩:∃y,y=b[m1]:=⟨_,rfl⟩;obtain⟨y2,hy2⟩:∃y,y=b[m2]:=⟨_,rfl⟩;rw[<-hy1]at x1;rw[<-hy2]at x2;have q1:b[m1]?=some y1:=by rw[hy1];exact qai hl1
    have q2:b[m2]?=some y2:=by rw[hy2];exact qai hl2
    have i1:(m1:Int)<(L:Int):=by omega
    have i2:(m2:Int)<(L:Int):=by omega
    subst ra;clear rb hy1 hy2;by_cases ce:y1=y2
    ·have hst:alikeF b i j (k+1) n=alikeF b i j k (n+1):=by rw[alikeF,if_pos];exact⟨by rw[<-H.out.2,<-hm2];exact c2,by rw[<-hm1,<-hm2,q1,q2,ce]⟩
     have HS:=zhd (hst.symm.trans HF.o0);rw[<-ce]at x2;generalize y1.toNat=n1 at *;clear ce hl1 hl2 hm1 hm2 q1 q2 hst;go_upto_region 2 with fail;go_quiet (fail);clear x1 x2 w1 w2;go_wp2;go_roundg k;case measure=>omega
     case rel=>exact⟨n+1,by go_num,by omega,by have:=HE.l1;omega,HS.out,HF.l1.trans (Fr.drewN [] _ _)⟩
    ·have hne:y1.toNat≠y2.toNat:=λh=>ce (UInt8.toNat_inj.1 h)
     have hst:alikeF b i j (k+1) n=n:=qnn λhc=>by rw[<-hm1,<-hm2,q1,q2]at hc;exact ce (qbm hc.2)
     have HS:=zhd (hst.symm.trans HF.o0);have d3:(((y1.toNat:Nat):Int)==((y2.toNat:Nat):Int))=false:=by simp;omega
     generalize y1.toNat=n1 at *;generalize y2.toNat=n2 at *;clear ce hl1 hl2 hne hm1 hm2 q1 q2 hst;go_upto_region 2 with fail;go_quiet (fail);clear x1 x2 w1 w2;go_wp2;go_ret;exact⟨by rw[<-HS.out];rfl,HF.l1.trans (Fr.drewN [] _ _)⟩
   ·have d2:decide (m2<L)=false:=by simpa using c2
    have d2':decide ((m2:Int)<L)=false:=by simp;omega
    have hst:alikeF b i j (k+1) n=n:=qnn λhc=>by have:=hc.1;rw[<-H.out.2]at this;omega
    have HS:=zhd (hst.symm.trans HF.o0);clear hst hm1 hm2;go_upto_region 2 with fail;go_quiet (fail);clear w1 w2;go_wp2;go_ret;exact⟨by rw[<-HS.out];rfl,HF.l1.trans (Fr.drewN [] _ _)⟩
  ·obtain rfl:n=258:=by omega
   obtain rfl:gk=0:=by omega
   have HS:=zhd HF.o0;clear hm1 hm2;go_upto_region 2 with fail;go_quiet (fail);clear w1 w2;go_wp2;go_ret;exact⟨by rw[<-HS.out];rfl,HF.l1.trans (Fr.drewN [] _ _)⟩
theorem qwv:Tryz.prog.underlying 32=some (.int .u32):=by kernel_rfl
theorem qj7:Tryz.prog.underlying 3=some (.int .i64):=by kernel_rfl
theorem qhq:Tryz.prog.underlying 239=some (.map 32 3):=by kernel_rfl
theorem qhw:Maps.Keyed Tryz.prog 32:=Maps.int_keyed qwv
theorem qow (w:World):(zeroValue 3).run Tryz.prog w = .ok (.int .i64 0) w:=by kernel_rfl
theorem qws {k:Nat} (h:k<4294967296):(Lit.int .u32 (k:Int)).wf=true:=WalkArith.wf_u32 (by omega)
theorem zd7 {k:Int} (h : -9223372036854775808≤k) (h2:k≤9223372036854775807):(Lit.int .i64 k).wf=true:=WalkArith.wf_i64 (by omega)
theorem qyk {k:Nat} (h:k<4294967296):keyOf Tryz.prog 32 (.int .u32 (k:Int))=some (.int .u32 (k:Int)):=Maps.keyOf_int_mk qwv (qws h)
theorem qoo {a:Option Addr} {cap lo:Nat} (h:lo<cap):cutAtN a cap lo 1=Option.map (λx=>x.add lo) a:=by unfold cutAtN;rw[if_neg (by omega),qce]
def pq:Option Nat→Int×Bool
 | none=>(0,false)
 | some p=>((p:Int),true)
def pv (b:List UInt8) (j:Nat):Int:=match last b j (three b j) with
 | none=>-1
 | some p=>(p:Int)
def MapOk (b:List UInt8) (i:Nat) (D:DataW Unit):Prop:=
 Maps.IsMap D∧∀k:Nat,k<4294967296→D.atKey (.int .u32 (k:Int)) (.lit (.int .i64 0)) = .lit (.int .i64 (pq (last b i k)).1)∧Maps.has D (.int .u32 (k:Int))=(pq (last b i k)).2
theorem qss (b:List UInt8):MapOk b 0 (.map []):=⟨Maps.isMap_empty,λk _=>⟨rfl,rfl⟩⟩
theorem MapOk.put {b:List UInt8} {i:Nat} {D:DataW Unit} (h:MapOk b i D) (hi:i+3≤b.length):MapOk b (i+1) (D.put (.int .u32 (three b i:Nat)) (.lit (.int .i64 (i:Int)))):=by
 refine⟨h.1.put _ _,λk hk=>?_⟩;by_cases he:three b i=k
 ·have hl:last b (i+1) k=some i:=by rw[last,if_pos ⟨hi,he⟩]
  rw[hl,he];have hkl:WideAt.IsKeyLit (.int .u32 (k:Int)):=by first|trivial|exact qws hk|simp[WideAt.IsKeyLit]
  exact⟨Maps.atKey_put_same h.1 hkl _ _,Maps.has_put_same h.1 hkl _⟩
 ·have hl:last b (i+1) k=last b i k:=by rw[last,if_neg (λhc=>he hc.2)]
  have hne:(Lit.int .u32 (k:Int))≠.int .u32 (three b i:Nat):=by intro e;simp only[Lit.int.injEq,true_and]at e;omega
  rw[hl,Maps.atKey_put_other hne,Maps.has_put_other hne];exact h.2 k hk
theorem MapOk.skip {b:List UInt8} {i:Nat} {D:DataW Unit} (h:MapOk b i D) (hi:¬i+3≤b.length):MapOk b (i+1) D:=by refine⟨h.1,λk hk=>?_⟩;rw[last,if_neg (λhc=>hi hc.1)];exact h.2 k hk
theorem qe1 {H:Type} {P:Program} {w w':World} {k:TypeId} {R:Value→Option (DataW H×List MemPlace)} {m n:Nat} {D:DataW H} (h:w.ownsMap P k R m n D) (hb:w'.heap[m]?=w.heap[m]?):w'.ownsMap P k R m n D:=by obtain⟨es,c,h1,r⟩:=h;exact⟨es,c,hb.trans h1,r⟩
theorem zbz {b:List UInt8} {i bm cnt:Nat} {D:DataW Unit} {w:World} (h:w.ownsMap Tryz.prog 32 (plainElem Tryz.prog 3) bm cnt D) (hm:MapOk b i D) {k:Nat} (hk:k<4294967296) :
  (Instr.lookup 239 (.map (some bm)) (.int .u32 (k:Int)) true).run Tryz.prog w = .ok (.tuple #[.int .i64 (pq (last b i k)).1,.bool (pq (last b i k)).2]) w:=by
 obtain⟨v,ps,hrun,hv⟩:=h.look_ok qhw qhq (qow w) (plainElem_int qj7 (by decide)) (qyk hk);obtain⟨ha,hh⟩:=hm.2 k hk;obtain⟨c,rfl,hc,_⟩:=plainElem_int_inv qj7 hv;simp only[qa4]at hc;rw[ha]at hc;have e:c=(pq (last b i k)).1:=by simpa using hc.1.symm
 rw[hrun,hh,e]
def pd:Option Nat→Int
 | none=>-1
 | some p=>(p:Int)
theorem zhe (b:List UInt8) (j:Nat):pv b j=pd (last b j (three b j)):=by unfold pv pd;rfl
structure Eb (w:World) (b:List UInt8) (a:Option Addr) (cap qb qp qh bp bm cnt:Nat) (D:DataW Unit) (P:Array Value):Prop where
 vb:w.heap[qb]?=some (.cells #[.slice a b.length cap] 23 (0,0))
 vp:w.heap[qp]?=some (.cells #[.slice (some ⟨bp,0,none⟩) b.length b.length] 28 (0,0))
 vh:w.heap[qh]?=some (.cells #[.map (some bm)] 239 (0,0))
 rd:Rd w a cap b
 map:w.ownsMap Tryz.prog 32 (plainElem Tryz.prog 3) bm cnt D
 row:w.heap[bp]?=some (.cells P 3 (0,0))
 size:P.size=b.length
 np:qb≠bp∧qp≠bp∧qh≠bp∧bm≠bp
 nm:qb≠bm∧qp≠bm∧qh≠bm
 na:b≠[]→∀x∈blk a,x≠bp∧x≠bm
theorem Eb.fr {w w':World} {b:List UInt8} {a:Option Addr} {cap qb qp qh bp bm cnt:Nat} {D:DataW Unit} {P:Array Value} (h:Eb w b a cap qb qp qh bp bm cnt D P) (f:Fr [] w w'):Eb w' b a cap qb qp qh bp bm cnt D P:=
 ⟨f.blk h.vb (by simp),f.blk h.vp (by simp),f.blk h.vh (by simp),h.rd.fr f,qe1 h.map (f.block _ h.map.lt (by simp)),f.blk h.row (by simp),h.size,h.np,h.nm,h.na⟩
theorem Eb.store {w:World} {b:List UInt8} {a:Option Addr} {cap qb qp qh bp bm cnt:Nat} {D:DataW Unit} {P:Array Value} (h:Eb w b a cap qb qp qh bp bm cnt D P) (i:Nat) (v:Value) :
  Eb (w.setCell ⟨bp,i,none⟩ v) b a cap qb qp qh bp bm cnt D (P.setIfInBounds i v)∧Fr [bp] w (w.setCell ⟨bp,i,none⟩ v):=by
 have f:Fr [bp] w (w.setCell ⟨bp,i,none⟩ v):=(Fr.refl [bp] w).setCell (by simp) v;obtain⟨n1,n2,n3,n4⟩:=h.np;exact⟨⟨f.blk h.vb (by simpa using n1),f.blk h.vp (by simpa using n2),f.blk h.vh (by simpa using n3),qhj h.rd f (λhb x hx=>by simpa using (h.na hb x hx).1),qe1 h.map (f.block _ h.map.lt (by simpa using n4)),qax h.row v,by simp[h.size],h.np,h.nm,h.na⟩,f⟩
theorem Eb.put {w w':World} {b:List UInt8} {a:Option Addr} {cap qb qp qh bp bm cnt cnt':Nat} {D D':DataW Unit} {P:Array Value} (h:Eb w b a cap qb qp qh bp bm cnt D P) (hm:w'.ownsMap Tryz.prog 32 (plainElem Tryz.prog 3) bm cnt' D') (hg:w.grownBy w' (some bm)) :
  Eb w' b a cap qb qp qh bp bm cnt' D' P∧Fr [bm] w w':=by
 have f:Fr [bm] w w':=(Fr.refl [bm] w).grown hg (λk hk=>by simp only[qaw]at hk;simp[hk]);obtain⟨n1,n2,n3,n4⟩:=h.np;obtain⟨m1,m2,m3⟩:=h.nm;exact⟨⟨f.blk h.vb (by simpa using m1),f.blk h.vp (by simpa using m2),f.blk h.vh (by simpa using m3),qhj h.rd f (λhb x hx=>by simpa using (h.na hb x hx).2),hm,f.blk h.row (by simpa using (qdx n4)),h.size,h.np,h.nm,h.na⟩,f⟩
def En (w:World) (b:List UInt8) (a:Option Addr) (cap qb qp qh bp bm i:Nat):Prop:=
 ∃D P cnt,Eb w b a cap qb qp qh bp bm cnt D P∧cnt≤i∧MapOk b i D∧∀j,j<i→j+3≤b.length→P[j]?=some (.int .i64 (pv b j))
theorem En.fr {w w':World} {b:List UInt8} {a:Option Addr} {cap qb qp qh bp bm i:Nat} (h:En w b a cap qb qp qh bp bm i) (f:Fr [] w w'):En w' b a cap qb qp qh bp bm i:=by obtain⟨D,P,cnt,h1,r⟩:=h;exact⟨D,P,cnt,h1.fr f,r⟩
theorem En.skip {w:World} {b:List UInt8} {a:Option Addr} {cap qb qp qh bp bm i:Nat} (h:En w b a cap qb qp qh bp bm i) (hi:¬i+3≤b.length):En w b a cap qb qp qh bp bm (i+1):=by obtain⟨D,P,cnt,h1,h2,h3,h4⟩:=h;exact⟨D,P,cnt,h1,by omega,h3.skip hi,λj hj hj2=>h4 j (by omega) hj2⟩
theorem qzh (b:List UInt8) (a:Option Addr) (cap qb qp qh bp bm i:Nat) (w:World) (h:En w b a cap qb qp qh bp bm i) (hi:i<b.length) (hlen:b.length≤100000) :
  Calls Tryz.prog 152 #[.int .i64 i,.pointer (some ⟨qb,0,none⟩),.pointer (some ⟨qp,0,none⟩),.pointer (some ⟨qh,0,none⟩)] w λe w'=>
   e = .returned (.tuple #[])∧Fr [bp,bm] w w'∧En w' b a cap qb qp qh bp bm (i+1):=by
 by_cases h3:i+3≤b.length
 ·obtain⟨D,P,cnt,E,hcnt,hmap,hrow⟩:=h;obtain⟨L,hL⟩:=zex b.length;have cb:=cell_of E.vb 0;simp only[qag,qac]at cb;have hle:=E.rd.le;have hth:=qqa (cutAtN a cap i 1) (cap-i) (b.drop i) w (E.rd.drop i (by omega)) (by rw[qav];omega);rw[qav,three_drop,qoo (by omega)]at hth;have hkl:=qo1 b i;obtain⟨ha,hh⟩:=hmap.2 _ hkl;have hpv:∀p,last b i (three b i)=some p→pv b i=p:=λp hp=>by unfold pv;rw[hp]
  have hpn:last b i (three b i)=none→pv b i = -1:=λhp=>by unfold pv;rw[hp]
  rw[<-hL]at cb hi h3 hle hlen hth;have HM:=zhd4 E hmap hrow hL;have HP:=zhd2 hpv hpn;obtain⟨k,hk⟩:=zex (three b i);rw[<-hk]at hkl ha hh hth;have HT:=zhd hth;have hkey:=qyk hkl;have HK:=zhd hk;have HL:Hid (L=b.length):=HM.l3 |> Lib.hid
  clear hth hpv hpn hL E hmap hrow hk;have d0:decide ((L:Int)<(i:Int)+3)=false:=by simp;omega
  go_enter Tryz.func152,Tryz.ntmps152;go_upto_region 2 with (go_at_call 153;(with_reducible refine HT.out.mono ?_);rintro e w1 ⟨rfl,n1,hw1⟩;have HW1:=zhd hw1;clear hw1);have E1:Eb w1 b a cap qb qp qh bp bm cnt D P:=HM.o0.fr (by rw[HW1.out];exact Fr.drewN [] w n1);have cp:=cell_of E1.vp 0;simp only[qag,qac]at cp;rw[<-HL.out]at cp;have hz1:=qau E1.row i;have hpl:i<P.size:=by rw[E1.size,<-HL.out];exact hi
  obtain⟨x0,hx0⟩:∃x,w1.cell? ⟨bp,i,none⟩=some x:=⟨P[i],by rw[cell_of E1.row];exact qb5 hpl⟩;have HE1:=zhd2 E1 hpl;clear E1 hpl cb;go_upto_region 3 with fail;obtain⟨E2,f2⟩:=HE1.out.1.store i (.int .i64 (-1));generalize hw2:w1.setCell ⟨bp,i,none⟩ (.int .i64 (-1))=w2 at *;have ch:=cell_of E2.vh 0;simp only[qag,qac]at ch;have hown:=E2.map;have HE2:=zhd2 E2 f2;clear hw2 E2 f2 cp hz1 hx0;have hcm:cnt<maxLen:=by unfold maxLen;omega
  have HWF:Hid ((Lit.int .i64 (i:Int)).wf=true):=zhd (zd7 (by omega) (by omega));cases hq:last b i k with
  | none=>
   rw[hq]at hh;have hq':last b i (three b i)=none:=by rw[<-HK.out];exact hq
   have HQ:=zhd hq';simp only[pq]at hh;clear hq hq' ha;go_upto_region 6 with (at_lookup;refine wpList_lookup_own_ok_int _ rfl _ _ 239 rfl 32 3 .i64 qhw qhq qj7 (qow _) bm cnt D rfl hown _ (.int .u32 (k:Int)) rfl hkey ?_;intro c hat _;rw[hh];clear hat);go_wp2_with (at_mapUpdate;refine wpList_mapUpdate_own _ rfl _ _ _ 239 rfl 32 3 qhw qhq _ bm cnt D rfl hown hcm _ _ (.int .u32 (k:Int)) rfl rfl hkey _ [] (plainElem_int qj7 (a:=(i:Int)) HWF.out) ?_;intro w3 hown3 hgrow3);go_end0;obtain⟨E3,f3⟩:=HE2.out.1.put hown3 hgrow3;refine⟨rfl,?_,_,_,_,E3,by omega,?_,λj hj hj2=>?_⟩
   ·have f1:Fr [bp,bm] w w1:=by rw[HW1.out];exact Fr.drewN [bp,bm] w n1
    exact (f1.step HE2.out.2 (λy hy=>.inl (by simp at hy;simp[hy]))).step f3 (λy hy=>.inl (by simp at hy;simp[hy]))
   ·rw[HK.out];exact HM.o1.put (by rw[<-HL.out];exact h3)
   ·by_cases e:j=i
    ·subst e;rw[qal HE1.out.2,HP.l1 HQ.out]
    ·rw[qaa (by omega)];exact HM.o2 j (by omega) hj2
  | some p=>
   rw[hq]at hh ha;have hq':last b i (three b i)=some p:=by rw[<-HK.out];exact hq
   have HQ:=zhd hq';simp only[pq]at hh ha;have HA:=zhd ha;clear hq hq' ha;have cp:=cell_of HE2.out.1.vp 0;simp only[qag,qac]at cp;rw[<-HL.out]at cp;have hz1:=qau HE2.out.1.row i;obtain⟨x1,hx1⟩:∃x,w2.cell? ⟨bp,i,none⟩=some x:=⟨_,by rw[cell_of HE2.out.1.row];exact qal HE1.out.2⟩;go_upto_region 6 with (at_lookup;refine wpList_lookup_own_ok_int _ rfl _ _ 239 rfl 32 3 .i64 qhw qhq qj7 (qow _) bm cnt D rfl hown _ (.int .u32 (k:Int)) rfl hkey ?_;intro c hat _;rw[hh];have HC:Hid (c=(p:Int)):=zhd (by rw[HA.out]at hat;simpa using hat.symm);clear hat);obtain⟨E3,f3⟩:=HE2.out.1.store i (.int .i64 c);generalize hw3:w2.setCell ⟨bp,i,none⟩ (.int .i64 c)=w3 at *;have ch3:=cell_of E3.vh 0;simp only[qag,qac]at ch3;have hown3:=E3.map;have HE3:=zhd2 E3 f3;clear hw3 E3 f3 cp hz1 hx1 hown ch;go_wp2_with (at_mapUpdate;refine wpList_mapUpdate_own _ rfl _ _ _ 239 rfl 32 3 qhw qhq _ bm cnt D rfl hown3 hcm _ _ (.int .u32 (k:Int)) rfl rfl hkey _ [] (plainElem_int qj7 (a:=(i:Int)) HWF.out) ?_;intro w4 hown4 hgrow4);go_end0;obtain⟨E4,f4⟩:=HE3.out.1.put hown4 hgrow4;refine⟨rfl,?_,_,_,_,E4,by omega,?_,λj hj hj2=>?_⟩
   ·have f1:Fr [bp,bm] w w1:=by rw[HW1.out];exact Fr.drewN [bp,bm] w n1
    exact ((f1.step HE2.out.2 (λy hy=>.inl (by simp at hy;simp[hy]))).step HE3.out.2 (λy hy=>.inl (by simp at hy;simp[hy]))).step f4 (λy hy=>.inl (by simp at hy;simp[hy]))
   ·rw[HK.out];exact HM.o1.put (by rw[<-HL.out];exact h3)
   ·by_cases e:j=i
    ·subst e;rw[qal (by rw[qbf];exact HE1.out.2),HP.o0 p HQ.out,HC.out]
    ·rw[qaa (by omega),qaa (by omega)];exact HM.o2 j (by omega) hj2
 ·have hsk:=h.skip h3;obtain⟨D,P,cnt,E,_⟩:=h;have cb:=cell_of E.vb 0;simp only[qag,qac]at cb;have HS:=zhd hsk;clear hsk E;have d0:decide ((b.length:Int)<(i:Int)+3)=true:=by simp;omega
  go_enter Tryz.func152,Tryz.ntmps152;go_wp2;(try simp only[Exit.inBlock,Exit.then]);refine bodyPost_ret (results_none rfl _ _ _) rfl ?_;exact⟨rfl,Fr.refl _ _,HS.out⟩
def mcells (l:List Mt):List Value:=l.flatMap λx=>[.int .i64 (x.1:Nat),.int .i64 (x.2.1:Nat),.int .i64 (x.2.2:Nat)]
theorem qjo (l:List Mt):(mcells l).length=l.length*3:=by
 unfold mcells;induction l with
 | nil=>rfl
 | cons x l ih=>simp only[qcl,qab,qao,qbi,ih];omega
theorem qpl (l m:List Mt):mcells (l++m)=mcells l++mcells m:=by unfold mcells;rw[qf9]
theorem qq1:∀(l:List Mt) (i:Nat) (h:i<l.length),(mcells l)[i*3]?=some (.int .i64 (l[i].1:Nat))∧(mcells l)[i*3+1]?=some (.int .i64 (l[i].2.1:Nat))∧(mcells l)[i*3+2]?=some (.int .i64 (l[i].2.2:Nat))
 | x::l,0,_=>⟨rfl,rfl,rfl⟩
 | x::l,i+1,h=>by
  have hc:mcells (x::l)=[.int .i64 (x.1:Nat),.int .i64 (x.2.1:Nat),.int .i64 (x.2.2:Nat)]++mcells l:=rfl;have e:∀j,(mcells (x::l))[(i+1)*3+j]?=(mcells l)[i*3+j]?:=λj=>by rw[hc,qdz (by simp;omega)];congr 1;simp;omega
  have h0:=qq1 l i (by simpa using h);have e0:=e 0;simp only[qbn]at e0;rw[e0,e 1,e 2];exact h0
structure Low (w:World) (b:List UInt8) (a:Option Addr) (qb qp qh bp bm B0:Nat):Prop where
 q:qb<B0∧qp<B0∧qh<B0∧bp<B0∧bm<B0
 new:w.heap.size≤bp∧w.heap.size≤bm
 a:b≠[]→∀x∈blk a,x<B0
theorem En.up {S:List Nat} {w0 w w':World} {b:List UInt8} {a:Option Addr} {cap qb qp qh bp bm i B0:Nat} (h:En w b a cap qb qp qh bp bm i) (l:Low w0 b a qb qp qh bp bm B0) (f:Fr S w w') (hS:∀x∈S,B0≤x):En w' b a cap qb qp qh bp bm i:=by
 obtain⟨D,P,cnt,h1,r⟩:=h;obtain⟨l1,l2,l3,l4,l5⟩:=l.q;have no:∀x,x<B0→x∉S:=λx hx hm=>by have:=hS x hm;omega
 exact⟨D,P,cnt,⟨f.blk h1.vb (no _ l1),f.blk h1.vp (no _ l2),f.blk h1.vh (no _ l3),qhj h1.rd f (λhb x hx=>no x (l.a hb x hx)),qe1 h1.map (f.block _ h1.map.lt (no _ l5)),f.blk h1.row (no _ l4),h1.size,h1.np,h1.nm,h1.na⟩,r⟩
structure Ms (w wr:World) (b:List UInt8) (a:Option Addr) (cap qb qp qh bp bm B0 i:Nat) (l:List Mt) (ao:Option Addr) (c:Nat):Prop where
 own:wr.ownsRow 0 243 3 (.slice ao l.length c) l.length (mcells l)
 en:En wr b a cap qb qp qh bp bm i
 fr:Fr [] w wr
 new:∀x∈blk ao,B0≤x
 low:Low w b a qb qp qh bp bm B0
 big:B0≤wr.heap.size
theorem Ms.fr0 {w wr w2:World} {b:List UInt8} {a ao:Option Addr} {cap qb qp qh bp bm B0 i c:Nat} {l:List Mt} (h:Ms w wr b a cap qb qp qh bp bm B0 i l ao c) (f:Fr [] wr w2):Ms w w2 b a cap qb qp qh bp bm B0 i l ao c:=
 ⟨qa7 h.own f (by simp),h.en.fr f,h.fr.trans f,h.new,h.low,qar h.big f.size⟩
theorem Ms.enter {w wr w2:World} {b:List UInt8} {a ao:Option Addr} {cap qb qp qh bp bm B0 i j c:Nat} {l:List Mt} (h:Ms w wr b a cap qb qp qh bp bm B0 i l ao c) (f:Fr [bp,bm] wr w2) (e:En w2 b a cap qb qp qh bp bm j):Ms w w2 b a cap qb qp qh bp bm B0 j l ao c:=by
 obtain⟨l1,l2,l3,l4,l5⟩:=h.low.q;refine⟨qa7 h.own f λk hk hm=>?_,e,h.fr.step f λy hy=>?_,h.new,h.low,qar h.big f.size⟩
 ·have:=h.new k (by rw[<-qby ao l.length c,hk];simp);simp only[qbh,qcw,or_false]at hm;omega
 ·have:=h.low.new;simp only[qbh,qcw,or_false]at hy;right;omega
theorem qvm {b:List UInt8} {r k i:Nat} (h3:i+3≤b.length):mloop b r (k+1) i=(if 3≤(best b r i).1 then [(i,(best b r i).1,i-(best b r i).2)] else [])++mloop b r k (i+step b r i):=by rw[mloop,if_pos h3];split<;>rfl
def MatchesNew (w:World) (l:List Mt) (e:Ending) (w':World):Prop:=∃ao,e = .returned (.slice ao l.length l.length)∧Cs w' ao (mcells l)∧(ao=none→l.length=0)∧(∀x∈blk ao,x<w'.heap.size)∧Fr [] w w'
theorem matchTy:SliceTy Tryz.prog 194 243 (.agg #[.int .i64 0,.int .i64 0,.int .i64 0]) 3 24:=SliceTy.of Tryz.underlying194 (by kernel_rfl) rfl (by decide)
theorem intsTy:SliceTy Tryz.prog 28 3 (.int .i64 0) 1 8:=SliceTy.of Tryz.underlying28 (by kernel_rfl) rfl (by decide)
theorem zbw {b:List UInt8} {a:Option Addr} {cap:Nat} {w w3:World} (h:Rd w a cap b)
  (own3:w3.ownsRow 0 3 1 (.slice (some ⟨w.heap.size+1+1+1,0,none⟩) b.length b.length) b.length (madeCells (Value.int .i64 0).cells (b.length*1)).toList)
  (grow3:(((w.alloc (.cells #[.slice a b.length cap] 23)).alloc (.map #[] 0)).alloc (.cells #[.map (some (w.heap.size+1))] 239)).grownBy w3 none) :
  Ms w (w3.alloc (.cells #[.slice (some ⟨w.heap.size+1+1+1,0,none⟩) b.length b.length] 28)) b a cap w.heap.size w3.heap.size (w.heap.size+1+1) (w.heap.size+1+1+1) (w.heap.size+1) (w3.heap.size+1) 0 [] none 0:=by
 obtain⟨W0,hW0⟩:=zex (((w.alloc (.cells #[.slice a b.length cap] 23)).alloc (.map #[] 0)).alloc (.cells #[.map (some (w.heap.size+1))] 239));rw[<-hW0]at grow3;have hz0:W0.heap.size=w.heap.size+1+1+1:=by rw[hW0];simp only[qa1]
 have f3:Fr [] W0 w3:=(Fr.refl [] W0).grown grow3 (λk hk=>by cases hk);have f0:Fr [] w W0:=by rw[hW0];exact (((Fr.refl [] w).alloc _).alloc _).alloc _
 have b0:W0.heap[w.heap.size]?=some (.cells #[.slice a b.length cap] 23 (0,0)):=by rw[hW0];exact qcx _ (qcx _ (qay w _))
 have b1:W0.heap[w.heap.size+1]?=some (.map #[] 0):=by rw[hW0];have:=qay (w.alloc (.cells #[.slice a b.length cap] 23)) (.map #[] 0);rw[qa1]at this;exact qcx _ this
 have b2:W0.heap[w.heap.size+1+1]?=some (.cells #[.map (some (w.heap.size+1))] 239 (0,0)):=by rw[hW0];have:=qay ((w.alloc (.cells #[.slice a b.length cap] 23)).alloc (.map #[] 0)) (.cells #[.map (some (w.heap.size+1))] 239);rw[qa1,qa1]at this;exact this
 have hmap:W0.ownsMap Tryz.prog 32 (plainElem (H:=Unit) Tryz.prog 3) (w.heap.size+1) 0 (.map []):=by have:=World.ownsMap_made (w.alloc (.cells #[.slice a b.length cap] 23)) Tryz.prog 32 (plainElem (H:=Unit) Tryz.prog 3);rw[qa1]at this;rw[hW0];exact this.alloc _
 obtain⟨o1,o2⟩:=own3;rcases o2 with⟨o2,_⟩|⟨g,c',cur,o2,_,hg,_,_,hsz,_⟩
 ·cases o2
 ·simp only[qbp,qaw,qcz,and_true,true_and]at o2;obtain⟨rfl,rfl⟩:=o2;have hlt:=lt_of_block hg;have f4:Fr [] w3 (w3.alloc (.cells #[.slice (some ⟨w.heap.size+1+1+1,0,none⟩) b.length b.length] 28)):=(Fr.refl [] w3).alloc _;have fall:=(f0.trans f3).trans f4;have f34:=f3.trans f4;refine⟨qch _ _ _ _,⟨.map [],cur,0,⟨f34.blk b0 (by simp),qay w3 _,f34.blk b2 (by simp),h.fr fall,qe1 hmap (f34.block _ hmap.lt (by simp)),f4.blk hg (by simp),by omega,⟨by omega,by omega,by omega,by omega⟩,⟨by omega,by omega,by omega⟩,λhb x hx=>?_⟩,qae _,qss b,λj hj=>by omega⟩,fall,by simp[blk],⟨⟨by omega,by omega,by omega,by omega,by omega⟩,⟨by omega,by omega⟩,λhb x hx=>?_⟩,by rw[qa1];exact qae _⟩
  ·have:=qmj h hb x hx;omega
  ·have:=qmj h hb x hx;omega
theorem Ms.push {w wr w2:World} {b:List UInt8} {a ao a2:Option Addr} {cap qb qp qh bp bm B0 i c c2:Nat} {l:List Mt} (h:Ms w wr b a cap qb qp qh bp bm B0 i l ao c) (x:Mt) (o:Obj) (n:Nat) (hn:l.length=n)
  (A:Appended (wr.alloc o) w2 243 3 (blk ao) a2 (n+1) c2 (mcells l++mcells [x])):Ms w w2 b a cap qb qp qh bp bm B0 i (l++[x]) a2 c2:=by
 have f1:Fr [] wr (wr.alloc o):=(Fr.refl [] wr).alloc o;have hz:(wr.alloc o).heap.size=wr.heap.size+1:=qa1 _ _;have hbig:=h.big;have hlow:=h.low.new;have hlq:=h.low.q;have hs:=A.fr.size;refine⟨by rw[qab,qc9,qpl,hn];exact A.own,(h.en.up h.low f1 (by simp)).up h.low A.fr h.new,(h.fr.trans f1).step A.fr λy hy=>.inr (by have:=h.new y hy;omega),λy hy=>?_,h.low,by omega⟩;rcases A.at_ y hy with k|k
 ·exact h.new y k
 ·omega
theorem qsr (b:List UInt8) (a:Option Addr) (cap:Nat) (reach:Int) (w:World) (h:Rd w a cap b) (hlen:b.length≤100000) :
  Calls Tryz.prog 126 #[.slice a b.length cap,.int .i64 reach] w (MatchesNew w (qen b reach)):=by
 have hmm:=@run_makeMap Tryz.prog;obtain⟨L,hL⟩:=zex b.length;have hle:=h.le;obtain⟨r,hr⟩:∃r:Int,r=if 32768<reach then 32768 else reach:=⟨_,rfl⟩
 have hr1:r≤32768:=by rw[hr];split<;>omega
 rw[<-hL]at hle hlen ⊢;have H:=zhd3 h hL hr;obtain⟨hu,⟨ti,hi',hz',hs',hb'⟩,hcz,hp⟩:=intsTy;clear h hL hr;go_enter Tryz.func126,Tryz.ntmps126;go_upto_block 0 with (first|(refine qfz r rfl _ _ _ rfl reach 32768 rfl rfl H.l2 ?_)|(refine wpList_make_full _ rfl _ _ 28 rfl 0 3 ti (.int .i64 0) 1 hu hi' hz' hs' .i64 .i64 (L:Nat) (L:Nat) L rfl rfl rfl rfl (by rw[hb'];omega) (by unfold maxLen;omega) (by omega) ?_;intro w3 own3 grow3;have H3:=zhd2 own3 grow3;clear own3 grow3));obtain⟨qb,qp,qh,bp,bm,B0,w4,e1,e2,e3,e4,e5,e6,hms⟩:∃qb qp qh bp bm B0 w4,w4=w3.alloc (.cells #[.slice (some ⟨w.heap.size+1+1+1,0,none⟩) L L] 28)∧qp=w3.heap.size∧bp=w.heap.size+1+1+1∧qh=w.heap.size+1+1∧bm=w.heap.size+1∧qb=w.heap.size∧Ms w w4 b a cap qb qp qh bp bm B0 0 [] none 0:=by have:=zbw H.o0 (by have h:=H3.o0;simp only[qa1]at h;rw[<-H.o1];exact h) (by rw[<-H.o1];exact H3.l1);rw[<-H.o1]at this;exact⟨_,_,_,_,_,_,_,rfl,rfl,rfl,rfl,rfl,rfl,this⟩
 rw[<-e1,<-e3,<-e4,<-e5,<-e6,<-e2];obtain⟨M,hM⟩:=zex (qen b reach);obtain⟨R,hR⟩:=zex ((min reach 32768).toNat);have hstart:(0<r→([]:List Mt)++mloop b R L 0=M)∧(r≤0→([]:List Mt)=M):=by
  have hrr:=H.l2;rw[hM,hR,H.o1];unfold qen;constructor
  ·intro h0;rw[if_pos (by rw[hrr]at h0;split at h0<;>omega)];rfl
  ·intro h0;rw[if_neg (by rw[hrr]at h0;split at h0<;>omega)]
 have hRr:0<r→(R:Int)=r:=by have hrr:=H.l2;intro h0;rw[hR,hrr];rw[hrr]at h0;split at h0<;>split<;>omega
 have HS:=zhd3 hstart hms hM;have HR:=zhd hRr;clear e1 e2 e3 e4 e5 e6 hms hstart hRr hM hR H3 hu hi' hz' hs' hb' hcz hp;go_wp2;go_loopg [5,9] L (λk s5 s9 wr=>∃(i c:Nat) (ao:Option Addr) (l:List Mt),s5 = .slice ao l.length c∧s9 = .int .i64 (i:Nat)∧Ms w wr b a cap qb qp qh bp bm B0 i l ao c∧L≤i+k∧i≤L∧l.length≤i∧(0<r→l++mloop b R k i=M)∧(r≤0→l=M));case atStart=>exact⟨0,0,none,[],rfl,rfl,HS.o1,by omega,qa5 _,qae _,HS.o0⟩
 case round=>
  obtain⟨i,c,ao,l,rfl,rfl,hms,hik,hiL,hli,hpos,hneg⟩:=hrel;obtain⟨D,P,cnt,E,_⟩:=hms.en;have cb:=cell_of E.vb 0;simp only[qag,qac]at cb;rw[<-H.o1]at cb;obtain⟨_,_,hsh,o1,o2,o3⟩:=qf4 hms.own;simp only[qbp]at hsh;obtain⟨rfl,_,rfl⟩:=hsh;have hsl:=λw=>qgn matchTy l.length ao c o1 w
  have HMS:=zhd hms;have HO:=zhd2 hpos hneg;clear hms hpos hneg E;have hmi:IntKind.i64.wrap ((i:Int)+3)=(i:Int)+3:=IntWalk.i64_in _ (by omega);by_cases h3:i+3≤L
  ·by_cases h0:0<r
   ·have d1:decide ((i:Int)+3≤L)=true:=by simp;omega
    obtain⟨k,rfl⟩:∃k,gk=k+1:=⟨gk-1,by omega⟩;have hRr:=HR.out h0;obtain⟨wo,rfl⟩:∃wo:World,wo=wr:=⟨_,rfl⟩;obtain⟨⟨x1,x2⟩,hx⟩:∃x,x=best b R i:=⟨_,rfl⟩;have hbl:b.length=L:=H.o1.symm;obtain⟨D,P,cnt,E,hcnt,hmap,hrow⟩:=HMS.out.en;have ch:=cell_of E.vh 0;simp only[qag,qac]at ch;obtain⟨q0,hq0⟩:=zex (last b i (three b i));have hth:∀x,Calls Tryz.prog 153 #[.slice (Option.map (λx=>x.add i) a) (L-i) (cap-i)] (wo.drewN x) λe w'=>e = .returned (.int .u32 (three b i:Nat))∧∃n,w'=(wo.drewN x).drewN n:=λx=>by have:=qqa (cutAtN a cap i 1) (cap-i) (b.drop i) (wo.drewN x) ((E.rd.drop i (by omega)).fr (Fr.drewN [] wo x)) (by rw[qav];omega);rw[qav,three_drop,qoo (by omega),hbl]at this;exact this
    have hlk:∀x,(Instr.lookup 239 (.map (some bm)) (.int .u32 (three b i:Nat)) true).run Tryz.prog (wo.drewN x) = .ok (.tuple #[.int .i64 (pq q0).1,.bool (pq q0).2]) (wo.drewN x):=λx=>by have:=zbz (qe1 E.map ((Fr.drewN [] wo x).block _ E.map.lt (by simp))) hmap (qo1 b i);rw[<-hq0]at this;exact this
    have hk3:=qo1 b i;generalize three b i=kk at hth hlk hk3;have HX:=zhd3 hx hbl hq0;have HE:=zhd2 E hrow;have HTH:=zhd hth;clear hx hbl hq0 hth E hrow hmap hcnt;go_upto_region 9 with fail;go_quiet ((go_at_call 153;exact Calls.quiet_of (HTH.out _)));go_upto_block 2 with fail;clear hlk hk3 ch;go_cut [10,11,12,14,15] from 42 to 73 (λs10 s11 s12 s14 s15 wz=>s10 = .int .i64 x1∧s11 = .int .i64 x2∧Fr [] wo wz)
    case first=>
     cases q0 with
     | none=>
      have hx0:x1=0∧x2=0:=by have h1:=HX.out.1;unfold best at h1;rw[<-HX.out.2.2]at h1;simp only[chase,qa4]at h1;exact h1
      obtain⟨rfl,rfl⟩:=hx0;simp only[pq];go_wp2;refine wp_loop_rounds 1 ?_;rw[rounds_succ];go_wp2;go_meet;exact⟨rfl,rfl,Fr.drewN [] wo _⟩
     | some p0=>
      simp only[pq];go_wp2;go_loopg [10,11,12,14,15] 48 (λk s10 s11 s12 s14 s15 wz=>∃(n bb aa:Nat) (q:Option Nat),s10 = .int .i64 (bb:Nat)∧s11 = .int .i64 (aa:Nat)∧s12 = .int .i64 (pd q)∧s14 = .int .i64 (n:Nat)∧n+k=48∧(∀p,q=some p→p<i∧p+3≤L)∧chase b R i k q bb aa=(x1,x2)∧bb≤258∧Fr [] wo wz);case atStart=>exact⟨0,0,0,some p0,rfl,rfl,rfl,rfl,rfl,λp hp=>by have:=qm2 b _ _ _ (HX.out.2.2.symm.trans hp);rw[HX.out.2.1]at this;exact⟨this.1,this.2.1⟩,by have h1:=HX.out.1;unfold best at h1;rw[<-HX.out.2.2]at h1;exact h1.symm,by omega,Fr.drewN [] wo _⟩
      case round=>
       obtain⟨n,bb,aa,q,rfl,rfl,rfl,rfl,hn,hq,hch,hbb,hf⟩:=hrel;by_cases hn48:n<48
       ·obtain⟨k2,rfl⟩:∃k2,gk=k2+1:=⟨gk-1,by omega⟩;have d0:decide ((n:Int)<48)=true:=by simp;omega
        cases q with
        | none=>
         simp only[chase,qa4]at hch;obtain⟨rfl,rfl⟩:=hch;simp only[pd];have HF:=zhd hf;clear hf hq;go_wp2;go_meet;exact⟨rfl,rfl,HF.out⟩
        | some p=>
         obtain⟨hp1,hp2⟩:=hq p rfl;simp only[pd];by_cases hrange:i-p≤R
         ·have d2:decide ((i:Int)-p≤r)=true:=by simp;omega
          have hal:=λw' h=>zal a cap p i b w' h (by omega) (by rw[HX.out.2.1];omega)
          rw[HX.out.2.1]at hal;have hsp:=(qkv b p i (by rw[HX.out.2.1];omega)).1;have hpp:=HE.l1 p hp1 (by rw[HX.out.2.1];exact hp2);rw[zhe]at hpp;have hqn:∀p',last b p (three b p)=some p'→p'<i∧p'+3≤L:=λp' hp'=>by have:=qm2 b _ _ _ hp';rw[HX.out.2.1]at this;omega
          rw[chase,if_pos hrange]at hch;generalize last b p (three b p)=q' at hpp hqn hch;generalize alike b p i=al at hal hsp hch;have E2:=HE.o0.fr hf;have cb2:=cell_of E2.vb 0;have cp2:=cell_of E2.vp 0;have cr2:=cell_of E2.row p;simp only[qag,qac]at cb2 cp2;rw[hpp]at cr2;rw[HX.out.2.1]at cb2 cp2;have HF:=zhd5 hf (hal _ E2.rd) hqn E2 (cr2.trans rfl);have c9:wr.cell? ⟨bp,p,none⟩=some (.int .i64 (pd q')):=cr2;clear hf hal hqn cr2 E2 hpp hq;by_cases hbest:bb<al
          ·have d3:decide (bb<al)=true:=by simpa using hbest
           rw[if_pos hbest]at hch;have HCH:=zhd hch;clear hch;go_upto_region 14 with (go_at_call 154;refine HF.out.2.1.mono ?_;rintro e wy ⟨rfl,fy⟩;have cp3:=fy.cell cp2 (by simp);have c10:=fy.cell c9 (by simp);have HY:=zhd fy;clear fy cp2 c9 cb2);go_wp2;go_roundg k2;case measure=>omega
           case rel=>exact⟨n+1,al,p,q',rfl,rfl,rfl,by go_num,by omega,HF.out.2.2.1,HCH.out,by omega,HF.out.1.trans HY.out⟩
          ·have d3:decide (bb<al)=false:=by simpa using hbest
           rw[if_neg hbest]at hch;have HCH:=zhd hch;clear hch;go_upto_region 14 with (go_at_call 154;refine HF.out.2.1.mono ?_;rintro e wy ⟨rfl,fy⟩;have cp3:=fy.cell cp2 (by simp);have c10:=fy.cell c9 (by simp);have HY:=zhd fy;clear fy cp2 c9 cb2);go_wp2;go_roundg k2;case measure=>omega
           case rel=>exact⟨n+1,bb,aa,q',rfl,rfl,rfl,by go_num,by omega,HF.out.2.2.1,HCH.out,by omega,HF.out.1.trans HY.out⟩
         ·have d2:decide ((i:Int)-p≤r)=false:=by simp;omega
          rw[chase,if_neg hrange]at hch;simp only[qa4]at hch;obtain⟨rfl,rfl⟩:=hch;have HF:=zhd hf;clear hf hq;go_wp2;go_meet;exact⟨rfl,rfl,HF.out⟩
       ·obtain rfl:n=48:=by omega
        obtain rfl:gk=0:=by omega
        simp only[chase,qa4]at hch;obtain⟨rfl,rfl⟩:=hch;have HF:=zhd hf;clear hf hq;go_wp2;go_meet;exact⟨rfl,rfl,HF.out⟩
    case rest=>
    obtain⟨rfl,rfl,hf⟩:=hcut;obtain⟨w5,rfl⟩:∃w5:World,w5=wc:=⟨_,rfl⟩;obtain⟨s,hs⟩:=zex (step b R i);obtain⟨nw,hnw⟩:∃nw:List Mt,nw=if 3≤x1 then [(i,x1,i-x2)] else []:=⟨_,rfl⟩
    have hsx:s=if 3≤x1 then x1 else 1:=by rw[hs];unfold step;rw[<-HX.out.1]
    have hML:l++(nw++mloop b R k (i+s))=M:=by have:=HO.o0 h0;rw[qvm (by rw[HX.out.2.1];exact h3),<-hs,<-HX.out.1,<-hnw]at this;exact this
    have hb3:3≤x1→x2<i∧i+x1≤L∧x1≤258:=λh=>by obtain⟨k1,k2,k3⟩:=qru b R i (by rw[<-HX.out.1];exact qat (by decide) h);rw[<-HX.out.1]at k1 k2 k3;obtain⟨m1,m2,_⟩:=qkv b x2 i (by rw[HX.out.2.1];exact hiL);rw[<-k1]at m1 m2;rw[HX.out.2.1]at m2;exact⟨k2,m2,m1⟩
    have h5:=HMS.out.fr0 hf;have HML:=zhd4 hML hsx h5 hnw;have hsL:1≤s∧i+s≤L:=by
     rw[hsx];split
     ·rename_i h;have:=hb3 h;omega
     ·omega
    have hnl:nw.length≤1:=by rw[hnw];split<;>simp
    clear hML hs hsx h5 hf hnw;go_upto_if 74 with fail;go_cut [5,16] from 73 to 85 (λs5 s16 wz=>∃(a2:Option Addr) (c2 n2:Nat),s5 = .slice a2 n2 c2∧s16 = .int .i64 (s:Nat)∧n2=(l++nw).length∧Ms w wz b a cap qb qp qh bp bm B0 i (l++nw) a2 c2)
    case first=>
     have hsx:=HML.o1;by_cases hb:3≤x1
     ·obtain⟨hb1,hb2,hb4⟩:=hb3 hb;rw[if_pos hb]at hsx;subst hsx;have hnw:=HML.l3;rw[if_pos hb]at hnw;have d3:decide ((3:Int)≤(s:Int))=true:=by simp;omega
      obtain⟨dd,hdd⟩:=zex (i-x2);rw[<-hdd]at hnw;have hd:(i:Int)-(x2:Int)=(dd:Int):=by omega
      have HN:=zhd hnw;obtain⟨N,hN⟩:=zex l.length;rw[<-hN]at hli ⊢;have HNN:=zhd hN;clear hnw hb3 hN hdd hsl o1;go_wp2_with (refine qba matchTy rfl _ _ rfl (.slice ao N c) N (mcells l) (blk ao) rfl (qby _ _ _) (by rw[HNN.out];exact HML.o2.own.alloc _) (some ⟨w5.heap.size,0,none⟩) 1 1 [.int .i64 i,.int .i64 s,.int .i64 dd] rfl (by omega) (by simp) (qhk w5 _ _ _) rfl (by simp[Value.oneCell']) (by omega) (by unfold maxLen;omega) ?_;intro a2 c2 w6 A2;have HA:=zhd A2;clear A2);go_meet;refine⟨a2,c2,_,rfl,rfl,by rw[qab,HN.out,HNN.out];rfl,?_⟩;rw[HN.out];exact HML.o2.push _ _ N HNN.out.symm HA.out
     ·rw[if_neg hb]at hsx;subst hsx;have hnw:=HML.l3;rw[if_neg hb]at hnw;have HN:=zhd hnw;have d3:decide ((3:Int)≤(x1:Int))=false:=by simp;omega
      clear hnw hb3;go_wp2;go_meet;exact⟨ao,c,_,rfl,rfl,by rw[HN.out,qbr],by rw[HN.out,qbr];exact HML.o2⟩
    case rest=>
    obtain⟨a2,c2,n2,rfl,rfl,hn2,h6⟩:=hcut;obtain⟨w6,rfl⟩:∃w6:World,w6=wc:=⟨_,rfl⟩;have H6:=zhd2 h6 hn2;clear h6 hn2 hb3 hsl cb;go_upto_block 4 with fail;go_wp2;go_loopg [9,86] s (λk s9 s86 wr=>∃j:Nat,s9 = .int .i64 ((i+j:Nat):Int)∧s86 = .int .i64 (j:Nat)∧j+k=s∧Ms w wr b a cap qb qp qh bp bm B0 (i+j) (l++nw) a2 c2);case atStart=>exact⟨0,rfl,rfl,by omega,H6.o0⟩
    case round=>
     obtain⟨j,rfl,rfl,hjs,h7⟩:=hrel;by_cases hj:j<s
     ·obtain⟨k2,rfl⟩:∃k2,gk=k2+1:=⟨gk-1,by omega⟩;have hen:=qzh b a cap qb qp qh bp bm (i+j) wr h7.en (by rw[HX.out.2.1];omega) (by rw[HX.out.2.1];exact hlen);have H7:=zhd2 h7 hen;clear h7 hen;go_wp2_with (go_at_call 152;refine H7.out.2.mono ?_;rintro e w8 ⟨rfl,f8,en8⟩;have H8:=zhd2 f8 en8;clear f8 en8);go_roundg k2;case measure=>omega
      case rel=>exact⟨j+1,by go_num,by go_num,by omega,H7.out.1.enter H8.o0 H8.l1⟩
     ·obtain rfl:j=s:=by omega
      have H7:=zhd h7;clear h7;go_wp2;go_roundg k;case measure=>omega
      case rel=>exact⟨i+j,c2,a2,l++nw,by rw[H6.l1],rfl,H7.out,by omega,hsL.2,by rw[qab];omega,λ_=>by rw[qas];exact HML.o0,λh=>by omega⟩
   ·have d1:decide ((i:Int)+3≤L)=true:=by simp;omega
    have d2:decide ((0:Int)<r)=false:=by simp;omega
    go_wp2;go_ret;exact⟨ao,by rw[<-HS.l2,<-HO.l1 (by omega)];rfl,by rw[<-HS.l2,<-HO.l1 (by omega)];exact qhe HMS.out.own,λhn=>by rw[<-HS.l2,<-HO.l1 (by omega)];have:=o3 hn;omega,λx hx=>qdu HMS.out.own (qdw hx),HMS.out.fr⟩
  ·have d1:decide ((i:Int)+3≤L)=false:=by simp;omega
   have hlM:l=M:=by
    by_cases h0:0<r
    ·have:=HO.o0 h0;cases gk with
     | zero=>rw[<-this,mloop,qbr]
     | succ k=>rw[<-this,mloop,if_neg (by rw[<-H.o1];exact h3),qbr]
    ·exact HO.l1 (by omega)
   have HLM:=zhd hlM;clear hlM;go_wp2;go_ret;exact⟨ao,by rw[<-HS.l2,<-HLM.out];rfl,by rw[<-HS.l2,<-HLM.out];exact qhe HMS.out.own,λhn=>by rw[<-HS.l2,<-HLM.out];have:=o3 hn;omega,λx hx=>qdu HMS.out.own (qdw hx),HMS.out.fr⟩
end Go.Proofs.YtkmpfgpfbmeihaaGreatDoor.mat
