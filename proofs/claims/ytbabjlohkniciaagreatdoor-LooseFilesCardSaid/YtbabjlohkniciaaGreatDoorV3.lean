/-
  Texts of this proof, one behind the other: HuffR, IntsRow, LenDist, MatLaw, Mat, MatE.
-/
import Derived.Test.YtbabjlohkniciaaGreatDoorV2
import Derived.Lib.AppendZerosOnto
import Derived.Lib.AppendZeros
import Derived.Deep.WholeRow
import Derived.Maps.OwnOps
import Derived.Maps.OwnSet
set_option maxHeartbeats 16000000
set_option maxRecDepth 100000
set_option linter.unusedVariables false
set_option linter.unusedSimpArgs false
namespace Go.Proofs.YtbabjlohkniciaaGreatDoor.huf
open Go Go.RowKit lib bm bl
theorem Tab.frS {S:List Nat} {w w':World} {P D:Nat} {ls:List Nat} {first:Nat→Nat} {sa:Nat→Option Addr} {sc:Nat→Nat} (h:Tab w P D ls first sa sc) (f:Fr S w w') (hP:P∉S) (hs:∀l,l<16→0<l→∀x∈blk (sa l),x∉S):Tab w' P D ls first sa sc:=by obtain⟨A,hA,h1⟩:=h.box;exact⟨⟨A,f.blk hA hP,h1⟩,h.fst,h.top,h.low,h.low',λl h1 h2=>⟨(h.syms l h1 h2).cs.fr f (hs l h1 h2),(h.syms l h1 h2).le,(h.syms l h1 h2).max,(h.syms l h1 h2).nil⟩,h.len⟩
theorem qy3 {ls:List Nat} {first:Nat→Nat} {n v:Nat} (hf:0<symn ls n→first n=nxt ls n) (h:¬(0<n∧first n≤v∧v-first n<symn ls n)):hsym ls n v=none:=by
 refine qw7 ?_;by_cases h0:n=0
 ·exact .inl h0
 ·right;by_cases hs:0<symn ls n
  ·have:=hf hs;unfold symn at h hs;rw[if_neg h0]at h hs;omega
  ·unfold symn at hs;rw[if_neg h0]at hs;omega
theorem qm1 (b:Bool):b2n b<2:=by cases b<;>decide
theorem zba (v:Nat) (b:Bool) (hv:v<65536):bits .or .u32 ((v:Int)*2) (b2n b:Nat)=((2*v+b2n b:Nat):Int):=by
 have hb:b2n b<2:=by cases b<;>decide
 have e:(v:Int)*2=((v*2:Nat):Int):=by omega
 have h1:=qmh (b2n b) v 1 (by simpa using hb);rw[e,u32_or_nat (v*2) (b2n b) (by omega) (by omega),Nat.or_comm,show v*2=v*2^1 from rfl,h1];congr 1;omega
theorem qf8 (P D:Nat) (ls:List Nat) (first:Nat→Nat) (sa:Nat→Option Addr) (sc:Nat→Nat) (p:Nat) (F:List Nat) (bs:List UInt8) (at_:Nat) (w:World) (h:Tab w P D ls first sa sc) (hr:bits.Rd w p F bs at_)
  (hP:P≠p) (hs:∀l,l<16→0<l→∀x∈blk (sa l),x≠p) (s m c:Nat) (hres:hread ls 15 0 0 ((bytesBits bs).drop at_)=(s,m,c)) :
  Calls Tryz.prog 201 #[.pointer (some ⟨P,0,none⟩),.pointer (some ⟨p,0,none⟩)] w λe w'=>e = .returned (.tuple #[.int .i64 s,.int .i64 c])∧bits.Rd w' p F bs (at_+m)∧Fr [p] w w':=by
 have hlen:=h.len;have H:=zhd5 h hr hP hs hres;clear h hr hP hs hres;go_enter Tryz.func201,Tryz.ntmps201;go_upto_block 0 with fail;go_wp2;go_loopg [6,7,8,9,10] 16 (λk s6 s7 s8 s9 s10 wr=>∃(n v:Nat),s6 = .int .u32 (v:Nat)∧s7 = .int .i64 (n:Nat)∧n+k=16∧0<k∧v<2^n∧bits.Rd wr p F bs (at_+n)∧Fr [p] w wr∧hread ls (15-n) n v ((bytesBits bs).drop (at_+n))=(s,m,c));case atStart=>exact⟨0,0,rfl,rfl,by omega,by omega,by decide,H.o1,Fr.refl [p] w,H.l4⟩
 case round=>
  obtain⟨n,v,rfl,rfl,hnk,hk0,hv,hrd,hf,hres⟩:=hrel;obtain⟨k,rfl⟩:∃k,gk=k+1:=⟨gk-1,by omega⟩;have hT:=H.o0.frS hf (by simpa using H.o2) (λl h1 h2 x hx=>by simpa using H.o3 l h1 h2 x hx);obtain⟨hc1,hc2,hc3⟩:=hT.cells;have c1:=hc1 n (by omega);have c2:=hc2 n (by omega);have hvb:v<65536:=qal hv (qan (qax (by decide) (show n≤15 by omega)) (by decide));obtain⟨f1,hf1⟩:=zex (first n);obtain⟨m1,hm1⟩:=zex (symn ls n);have hf1l:f1≤32768:=by rw[hf1];exact hT.low' n
  have hm1l:m1≤400:=by rw[hm1];have:=qva ls n;omega
  have hfs:=hT.fst n;rw[<-hf1,<-hm1]at hfs;rw[<-hf1]at c1;rw[<-hm1]at c2;have HR:=zhd8 hv hrd hf hres hT hfs hf1 hm1;clear hv hrd hf hres hT hfs hf1 hm1 hc1 hc2 hc3;by_cases hit:0<n∧f1≤v∧v-f1<m1
  ·obtain⟨i0,i1,i2⟩:=hit;obtain⟨y,rfl⟩:∃y,v=f1+y:=⟨v-f1,by omega⟩;have hy:y<m1:=by omega
   have hnz:n≠0:=by omega
   have hm2:(syms ls n ls.length).length=m1:=by rw[HR.out.2.2.2.2.2.2.2];unfold symn;rw[if_neg hnz]
   obtain⟨g,o,ha,hcl⟩:=(HR.out.2.2.2.2.1.syms n (by omega) i0).at (i:=y) (by omega);obtain⟨z,hz⟩:∃z,z=(syms ls n ls.length)[y]'(by omega):=⟨_,rfl⟩;rw[<-hz]at hcl;rw[ha]at c2;have hh:hsym ls n (f1+y)=some z:=by have e:=HR.out.2.2.2.2.2.1 (by omega);refine qw6 i0 (by omega) ?_;rw[show f1+y-nxt ls n=y by omega,qaf (by omega),hz]
   have hres:=HR.out.2.2.2.1;rw[qej hh]at hres;obtain⟨rfl,rfl,rfl⟩:z=s∧n=m∧0=c:=by simpa using hres
   have b0:decide ((0:Int)<n)=true:=by simpa using i0
   have b1:decide ((f1:Int)≤(f1:Int)+y)=true:=by simp;omega
   have b2:decide ((y:Int)<m1)=true:=by simp;omega
   have b3:(f1:Int)+y-f1=y:=by omega
   clear i0 i1 i2 hm2 hz hh hres ha;go_upto_region 6 with fail;go_quiet (fail);go_wp2;go_ret2;exact⟨rfl,bits.qf9 HR.out.2.1 (Fr.drewN [] _ _) (by simp),HR.out.2.2.1.trans (Fr.drewN [p] _ _)⟩
  ·have hn0:hsym ls n v=none:=qy3 (first:=first) (by rw[<-HR.out.2.2.2.2.2.2.1,<-HR.out.2.2.2.2.2.2.2];exact HR.out.2.2.2.2.2.1) (by rw[<-HR.out.2.2.2.2.2.2.1,<-HR.out.2.2.2.2.2.2.2];exact hit);have HM:=zhd hn0;clear hn0;go_upto_region 5 with fail;go_cut [44] from 21 to 44 (λs44 wc=>s44 = .bool false∧wr=wc)
   case first=>
    by_cases i0:0<n
    ·have b0:decide ((0:Int)<n)=true:=by simpa using i0
     by_cases i1:f1≤v
     ·have b1:decide ((f1:Int)≤v)=true:=by simpa using i1
      have b2:decide ((v:Int)-f1<m1)=false:=by simp;omega
      clear hit;go_wp2;go_meet;case rel=>exact⟨rfl,rfl⟩
     ·have b1:decide ((f1:Int)≤v)=false:=by simpa using i1
      clear hit;go_wp2;go_meet;case rel=>exact⟨rfl,rfl⟩
    ·have b0:decide ((0:Int)<n)=false:=by simpa using i0
     clear hit;go_wp2;go_meet;case rel=>exact⟨rfl,rfl⟩
   case rest=>
    obtain⟨rfl,rfl⟩:=hcut;have HMore:=zhd (qzu P D ls first sa sc v n wr HR.out.2.2.2.2.1 (by omega) HR.out.1);go_upto_region 7 with fail;go_cut [69] from 61 to 69 (λs69 wc=>s69 = .bool (n==15||!hmore ls n v)∧Fr [] wr wc)
    case first=>
     by_cases i0:n=15
     ·have b0:((n:Int)==15)=true:=by simp;omega
      have b1:(n==15||!hmore ls n v)=true:=by simp[i0]
      clear hit;go_wp2;go_meet;case rel=>exact⟨by rw[b1],Fr.refl [] _⟩
     ·have b0:((n:Int)==15)=false:=by simp;omega
      have b1:(n==15||!hmore ls n v)=!hmore ls n v:=by simp[i0]
      clear hit;go_wp2_with (go_at_call 210;refine HMore.out.mono ?_;rintro e w2 ⟨rfl,f2⟩;have H2:=zhd f2;clear f2);go_meet;case rel=>exact⟨by rw[b1],H2.out⟩
    case rest=>
     obtain⟨rfl,f2⟩:=hcut;have H2:=zhd f2;clear f2;have h2:Fr [p] w wc:=HR.out.2.2.1.trans (H2.out.mono (by simp));have r2:bits.Rd wc p F bs (at_+n):=bits.qf9 HR.out.2.1 H2.out (by simp);have H3:=zhd2 h2 r2;clear h2 r2;by_cases e1:(n==15||!hmore ls n v)=true
     ·have hres:hread ls (15-n) n v ((bytesBits bs).drop (at_+n))=(0,n,3):=by
       by_cases h15:n=15
       ·subst h15;exact qid HM.out
       ·refine qf0 HM.out ?_;simpa[h15] using e1
      rw[HR.out.2.2.2.1]at hres;obtain⟨rfl,rfl,rfl⟩:s=0∧m=n∧c=3:=by simpa using hres
      rw[e1];clear hit hres;go_wp2;go_ret2;exact⟨rfl,H3.l1,H3.o0⟩
     ·have e1':(n==15||!hmore ls n v)=false:=by simpa using e1
      have h15:n≠15:=by intro h;simp[h]at e1
      have hmr:hmore ls n v=true:=by simp at e1;exact e1.2
      rw[e1'];by_cases hq:at_+n+1≤8*bs.length
      ·have htk:=za3 p F bs (at_+n) 1 wc H3.l1 (by decide) hq;have hlb:(bytesBits bs).length=8*bs.length:=by simp[qbk]
       obtain⟨b,t,hbt⟩:∃b t,(bytesBits bs).drop (at_+n)=b::t:=by
        cases hd:(bytesBits bs).drop (at_+n) with
        | nil=>have:=congrArg List.length hd;rw[qau,hlb]at this;simp at this;omega
        | cons b t=>exact⟨b,t,rfl⟩
       have ht:(bytesBits bs).drop (at_+(n+1))=t:=by rw[<-qcu,<-za0,hbt];rfl
       have hbv:bval (((bytesBits bs).drop (at_+n)).take 1)=b2n b:=by rw[hbt];cases b<;>rfl
       rw[hbv]at htk;have hres:=HR.out.2.2.2.1;rw[show 15-n=(15-(n+1))+1 by omega,hbt,qe4 HM.out hmr,<-ht]at hres;have HK:=zhd2 htk hres;clear htk hlb hbt ht hbv hres hit;go_upto_region 10 with (go_at_call 142;refine HK.out.1.mono ?_;rintro e w5 ⟨rfl,r5,f5⟩;have H5:=zhd2 r5 f5;clear r5 f5);go_wp2;have hor:=zba v b hvb;rw[hor];go_roundg k;case measure=>omega
       case rel=>exact⟨n+1,2*v+b2n b,rfl,by go_num,by omega,by omega,by rw[qcr];have:=HR.out.1;have:=qm1 b;omega,H5.o0,H3.o0.trans H5.l1,HK.out.2⟩
      ·have htk:=bits.qrv p F bs (at_+n) 1 wc H3.l1 (by omega);have hd:(bytesBits bs).drop (at_+n)=[]:=qed (by rw[qbk];omega);have hres:=HR.out.2.2.2.1;rw[show 15-n=(14-n)+1 by omega,hd,qfz HM.out hmr]at hres;obtain⟨rfl,rfl,rfl⟩:0=s∧n=m∧4=c:=by simpa using hres
       have HK:=zhd htk;clear htk hd hres hit;go_upto_region 10 with (go_at_call 142;refine HK.out.mono ?_;rintro e w5 ⟨rfl,r5,f5⟩;have H5:=zhd2 r5 f5;clear r5 f5);go_wp2;go_ret2;exact⟨rfl,H5.o0,H3.o0.trans (H5.l1.mono (by simp))⟩
structure Made (w w':World) (e:TypeId) (size:Nat) (ao:Option Addr) (n cap:Nat) (xs:List Value):Prop where
 own:w'.ownsRow 0 e size (.slice ao n cap) n xs
 fr:Fr [] w w'
 new:∀x∈blk ao,w.heap.size≤x
 le:n≤cap
 max:cap≤maxLen
 nil:ao=none→cap=0
theorem Made.none (w:World) (e:TypeId) (size:Nat):Made w w e size none 0 0 []:=⟨⟨by simp,.inl ⟨rfl,rfl⟩⟩,.refl _ w,by simp[blk],qag _,qba _,λ_=>rfl⟩
theorem Made.app {w w1 w2:World} {e:TypeId} {size:Nat} {ao ao2:Option Addr} {n m cap cap2:Nat} {xs ys:List Value} (h:Made w w1 e size ao n cap xs) (h2:Appended w1 w2 e size (blk ao) ao2 m cap2 ys):Made w w2 e size ao2 m cap2 ys:=
 ⟨h2.own,h.fr.step h2.fr (λx hx=>.inr (h.new x hx)),λx hx=>by
  rcases h2.at_ x hx with k|k
  ·exact h.new x k
  ·rw[k];exact h.fr.size,h2.le,h2.max,h2.nil⟩
theorem Made.fr2 {w w1 w2:World} {e:TypeId} {size:Nat} {ao:Option Addr} {n cap:Nat} {xs:List Value} (h:Made w w1 e size ao n cap xs) (f:Fr [] w1 w2):Made w w2 e size ao n cap xs:=
 ⟨qa7 h.own f (by simp),h.fr.trans f,h.new,h.le,h.max,h.nil⟩
theorem Made.lt {w w':World} {e:TypeId} {size:Nat} {ao:Option Addr} {n cap:Nat} {xs:List Value} (h:Made w w' e size ao n cap xs):∀x∈blk ao,x<w'.heap.size:=λ_ hx=>qd3 h.own (qdv hx)
theorem Made.pre {w0 w w':World} {e:TypeId} {size:Nat} {ao:Option Addr} {n cap:Nat} {xs:List Value} (h:Made w w' e size ao n cap xs) (f:Fr [] w0 w):Made w0 w' e size ao n cap xs:=
 ⟨h.own,f.trans h.fr,λx hx=>qan f.size (h.new x hx),h.le,h.max,h.nil⟩
theorem qcn:SliceTy Tryz.prog 128 3 (.int .i64 0) 1 8:=SliceTy.of Tryz.underlying128 (by kernel_rfl) rfl (by decide)
theorem qnw:(Tryz.prog.info? 3).map (λi=>(i.zero,i.size,i.bytes))=some (some (.int .i64 0),1,8):=by kernel_rfl
def ints (l:List Nat):List Value:=l.map λx=>.int .i64 (x:Nat)
theorem qjz (l:List Nat):∀u∈ints l,u.oneCell'=true:=by intro u hu;simp only[ints,qb8]at hu;obtain⟨x,_,rfl⟩:=hu;rfl
theorem qgc (l:List Nat):(ints l).length=l.length:=by simp[ints]
theorem Ri.take {w:World} {a:Option Addr} {cap:Nat} {xs:List Nat} (h:Ri w a cap xs) (n:Nat):Ri w a cap (xs.take n):=by
 refine⟨?_,by have:=h.le;rw[qar];omega,h.max,h.nil⟩;rcases h.cs with h0|⟨g,o,e,hc⟩
 ·left;have:xs=[]:=by simpa using h0
  rw[this];simp
 ·refine .inr ⟨g,o,e,λj v hv=>hc j v ?_⟩;rw[qro,qbl]at hv;split at hv
  ·exact hv
  ·cases hv
theorem qnl {w w':World} {ao:Option Addr} {n cap:Nat} {xs:List Nat} (h:Made w w' 3 1 ao n cap (ints xs)) (hn:n=xs.length):Ri w' ao cap xs:=⟨qcm h.own,by rw[<-hn];exact h.le,h.max,h.nil⟩
def Ow (w:World) (Q N:Nat) (F:Nat→Nat):Prop:=∃A,w.heap[Q]?=some (.cells A 3 (0,0))∧A.size=N∧∀s,s<N→A[s]?=some (.int .i64 (F s:Nat))
theorem Ow.cell {w:World} {Q N:Nat} {F:Nat→Nat} (h:Ow w Q N F) {s:Nat} (hs:s<N):w.cell? ⟨Q,s,none⟩=some (.int .i64 (F s:Nat)):=by obtain⟨A,hA,_,hF⟩:=h;rw[cell_of hA,hF s hs]
theorem Ow.frozen {w:World} {Q N:Nat} {F:Nat→Nat} (h:Ow w Q N F) (s:Nat):w.frozen? ⟨Q,s,none⟩=false:=by obtain⟨A,hA,_,hF⟩:=h;exact qay hA s
theorem Ow.set {w:World} {Q N:Nat} {F:Nat→Nat} (h:Ow w Q N F) {s:Nat} (hs:s<N) (v:Nat):Ow (w.setCell ⟨Q,s,none⟩ (.int .i64 v)) Q N (λt=>if t=s then v else F t):=by
 obtain⟨A,hA,hn,hF⟩:=h;refine⟨_,qa0 hA _,by simp[hn],λt ht=>?_⟩;by_cases e:t=s
 ·subst e;rw[qaq (by omega)];simp only[if_true]
 ·rw[qac (by omega)];simp only[if_neg e];exact hF t ht
theorem Ow.fr {w w':World} {S:List Nat} {Q N:Nat} {F:Nat→Nat} (h:Ow w Q N F) (f:Fr S w w') (hS:Q∉S):Ow w' Q N F:=by obtain⟨A,hA,hn⟩:=h;exact⟨A,f.blk hA hS,hn⟩
theorem Ow.congr {w:World} {Q N:Nat} {F G:Nat→Nat} (h:Ow w Q N F) (e:∀s,s<N→F s=G s):Ow w Q N G:=by obtain⟨A,hA,hn,hF⟩:=h;exact⟨A,hA,hn,λs hs=>by rw[hF s hs,e s hs]⟩
theorem Ow.cs {w:World} {Q N:Nat} {F:Nat→Nat} (h:Ow w Q N F):Cs w (some ⟨Q,0,none⟩) (ints ((List.range N).map F)):=by
 refine .inr ⟨Q,0,rfl,λj v hv=>?_⟩;have hj:j<N:=by have:=(qbg.1 hv).1;simpa[ints] using this
 rw[qbe,h.cell hj,<-hv];simp[ints,hj]
theorem qk2 {w:World} {N Q:Nat} (h:w.ownsRow 0 3 1 (.slice (some ⟨Q,0,none⟩) N N) N (madeCells (Value.int .i64 0).cells (N*1)).toList):Ow w Q N (λ_=>0):=by
 obtain⟨o1,o2⟩:=h;rcases o2 with⟨o2,_⟩|⟨g,c',cur,o2,_,hg,_,_,hsz,ht⟩
 ·cases o2
 ·simp only[qbn,qas,qcg,and_true,true_and]at o2;obtain⟨rfl,rfl⟩:=o2;refine⟨cur,hg,by omega,λj hj=>?_⟩;have h1:cur.toList[j]?=(madeCells (Value.int .i64 0).cells (N*1)).toList[j]?:=by rw[<-ht,qbl,if_pos (by omega)]
  rw[<-qci,h1,show (Value.int .i64 0).cells=#[.int .i64 0] from rfl,toList_madeCells_one,qfb,if_pos (by omega)];rfl
end Go.Proofs.YtbabjlohkniciaaGreatDoor.huf
namespace Go.Proofs.YtbabjlohkniciaaGreatDoor.defl
open Go Go.RowKit lib bm bl huf
def ordL:List Nat:=[16,17,18,0,8,7,9,6,10,5,11,4,12,3,13,2,14,1,15]
def ord (i:Nat):Nat:=ordL[i]?.getD 0
theorem qo3 (i:Nat):ord i<19:=by
 unfold ord;cases h:ordL[i]? with
 | none=>simp
 | some x=>have:=qa6 h;simp only[ordL,qaw,qby,or_false]at this;simp only[qfp];omega
theorem qoo (O nc:Nat) (h:nc≤19) (w:World):(Instr.sliceAt 257 (.pointer (some ⟨O,0,none⟩)) none (some (.int .i64 nc)) none).run Tryz.prog w = .ok (.slice (some ⟨O,0,none⟩) nc 19) w:=by
 have e:Tryz.prog.arrayLen 257=19:=by kernel_rfl
 have el:Tryz.prog.elem 257=3:=by kernel_rfl
 have hu:Tryz.prog.underlying 257=some (.array 19 3):=by kernel_rfl
 have:=run_sliceAt_array_h (P:=Tryz.prog) (t:=257) (w:=w) ⟨O,0,none⟩ (by rw[e,el];exact hu) .i64 (nc:Nat) (by omega) (by rw[e];omega);rw[this,e,el];obtain⟨i,hi,_,hs,_⟩:=info_parts qnw;simp[sizeOf,typeInfo,hi,slicedAt,Result.andThen];exact qhe O 0 0
end Go.Proofs.YtbabjlohkniciaaGreatDoor.defl
namespace Go.Proofs.YtbabjlohkniciaaGreatDoor.defl
open Go Go.RowKit lib bm
def lcode (n:Nat):Nat×Nat×Nat:=if n<11 then (n+254,0,0) else if n=258 then (285,0,0) else (257+4*(Nat.log2 (n-3)-2)+(n-3)/2^(Nat.log2 (n-3)-2),(n-3)%2^(Nat.log2 (n-3)-2),Nat.log2 (n-3)-2)
def dcode (n:Nat):Nat×Nat×Nat:=if n<5 then (n-1,0,0) else (2*(Nat.log2 (n-1)-1)+(n-1)/2^(Nat.log2 (n-1)-1),(n-1)%2^(Nat.log2 (n-1)-1),Nat.log2 (n-1)-1)
theorem qwk {m w c:Nat} (h1:2^(w+c)≤m) (h2:m<2^(w+c+1)):Nat.log2 m-c=w:=by
 have h0:m≠0:=by have:=qbj (w+c);omega
 have k1:=(Nat.le_log2 h0).2 h1;have k2:=(Nat.log2_lt h0).2 h2;omega
theorem qnt {n w:Nat} (h11:11≤n) (h258:n≠258) (h1:4*2^w≤n-3) (h2:n-3<8*2^w):lcode n=(257+4*w+(n-3)/2^w,(n-3)%2^w,w):=by have e:Nat.log2 (n-3)-2=w:=qwk (by rw[qb3];omega) (by rw[qb3,qb3];omega);unfold lcode;rw[if_neg (by omega),if_neg h258,e]
theorem qn5 {n w:Nat} (h5:5≤n) (h1:2*2^w≤n-1) (h2:n-1<4*2^w):dcode n=(2*w+(n-1)/2^w,(n-1)%2^w,w):=by have e:Nat.log2 (n-1)-1=w:=qwk (by rw[qb3];omega) (by rw[qb3,qb3];omega);unfold dcode;rw[if_neg (by omega),e]
def Triple (c:Nat×Nat×Nat):Ending:=.returned (.tuple #[.int .i64 (c.1:Nat),.int .u32 (c.2.1:Nat),.int .i64 (c.2.2:Nat)])
theorem qg5 (n:Nat) (w:World) (h3:3≤n) (h258:n≤258) :
  Calls Tryz.prog 131 #[.int .i64 n] w λe w'=>e=Triple (lcode n)∧Fr [] w w':=by
 by_cases h11:n<11
 ·go_enter Tryz.func131,Tryz.ntmps131;go_wp2;go_ret3;refine⟨?_,.refl _ w⟩;unfold Triple lcode;rw[if_pos h11];rfl
 ·by_cases h8:n=258
  ·subst h8;go_enter Tryz.func131,Tryz.ntmps131;go_wp2;go_ret3;exact⟨rfl,.refl _ w⟩
  ·have q1:((n:Int)==258)=false:=by simp only[beq_eq_false_iff_ne];omega
   obtain⟨m,hm⟩:=zex (n-3);have e0:(n:Int)-3=(m:Int):=by omega
   have hm8:8≤m:=by omega
   have hm2:m≤254:=by omega
   have HM:=zhd hm;clear hm;go_enter Tryz.func131,Tryz.ntmps131;go_upto_block 1 with fail;go_wp2;go_loopg [4] 6 (λk s4 wr=>∃v:Nat,s4 = .int .i64 (v:Nat)∧1≤v∧v+k=7∧4*2^v≤m∧w=wr);case atStart=>exact⟨1,rfl,qag _,rfl,by omega,rfl⟩
   case round=>
    obtain⟨v,rfl,hv1,hvk,hv4,rfl⟩:=hrel;obtain⟨z,hz⟩:=zex (2^v);have e2:(2:Int)^v=(z:Int):=by rw[hz];exact qd2 v
    rw[<-hz]at hv4;have hz64:z≤64:=by omega
    have HZ:=zhd hz;clear hz;by_cases hlt:m<8*z
    ·have q2:decide (8*(z:Int)≤(m:Int))=false:=by simp;omega
     obtain⟨q,hq⟩:=zex (m/z);obtain⟨r,hr⟩:=zex (m%z);have hzp:0<z:=by omega
     have e3:(m:Int)/(z:Int)=(q:Int):=by rw[hq];exact (Int.natCast_ediv m z).symm
     have e4:bits .and .u32 (m:Int) ((z:Int)-1)=(r:Int):=by rw[show (z:Int)-1=((z-1:Nat):Int) from by omega,u32_and_nat m (z-1) (by omega) (by omega),HZ.out,qoe,<-HZ.out,hr]
     have hq7:q<8:=by rw[hq];exact (qdl hzp).2 hlt
     have hv7:v≤7:=by omega
     have HR:=zhd4 hq hr hlt hv4;clear hq hr hlt hv4;go_upto_region 8 with fail;go_quiet (fail);clear e3 e4;go_wp2;go_ret3;obtain⟨hq,hr,hlt,hv4⟩:=HR.out;have hm:=HM.out;have hz:=HZ.out;refine⟨?_,Fr.drewN [] w _⟩;unfold Triple;rw[qnt (w:=v) (by omega) h8 (by omega) (by omega),<-hm,<-hz,<-hq,<-hr];rw[show (261+4*(v:Int)+(q:Int)-4)=((257+4*v+q:Nat):Int) from by omega];rfl
    ·have hv5:v≤5:=by
      rcases qbq v 6 with h|h
      ·omega
      ·have:2^6≤2^v:=qax (by decide) h;have:=HZ.out;omega
     go_wp2;go_roundg (gk-1);case measure=>omega
     case rel=>exact⟨v+1,by go_num,by omega,by omega,by have:=HZ.out;rw[qcr];omega,rfl⟩
theorem qfh (n:Nat) (w:World) (h1:1≤n) (h2:n≤32768) :
  Calls Tryz.prog 132 #[.int .i64 n] w λe w'=>e=Triple (dcode n)∧Fr [] w w':=by
 by_cases h5:n<5
 ·obtain⟨m,hm⟩:=zex (n-1);have e0:(n:Int)-1=(m:Int):=by omega
  have HM:=zhd hm;clear hm;go_enter Tryz.func132,Tryz.ntmps132;go_wp2;go_ret3;refine⟨?_,.refl _ w⟩;unfold Triple dcode;rw[if_pos h5,<-HM.out];rfl
 ·obtain⟨m,hm⟩:=zex (n-1);have e0:(n:Int)-1=(m:Int):=by omega
  have hm8:4≤m:=by omega
  have hm2:m≤32767:=by omega
  have HM:=zhd hm;clear hm;go_enter Tryz.func132,Tryz.ntmps132;go_upto_block 0 with fail;go_wp2;go_loopg [4] 14 (λk s4 wr=>∃v:Nat,s4 = .int .i64 (v:Nat)∧1≤v∧v+k=15∧2*2^v≤m∧w=wr);case atStart=>exact⟨1,rfl,qag _,rfl,by omega,rfl⟩
  case round=>
   obtain⟨v,rfl,hv1,hvk,hv4,rfl⟩:=hrel;obtain⟨z,hz⟩:=zex (2^v);have e2:(2:Int)^v=(z:Int):=by rw[hz];exact qd2 v
   rw[<-hz]at hv4;have hz64:z≤16384:=by omega
   have HZ:=zhd hz;clear hz;by_cases hlt:m<4*z
   ·have q2:decide (4*(z:Int)≤(m:Int))=false:=by simp;omega
    obtain⟨q,hq⟩:=zex (m/z);obtain⟨r,hr⟩:=zex (m%z);have hzp:0<z:=by omega
    have e3:(m:Int)/(z:Int)=(q:Int):=by rw[hq];exact (Int.natCast_ediv m z).symm
    have e4:bits .and .u32 (m:Int) ((z:Int)-1)=(r:Int):=by rw[show (z:Int)-1=((z-1:Nat):Int) from by omega,u32_and_nat m (z-1) (by omega) (by omega),HZ.out,qoe,<-HZ.out,hr]
    have hq7:q<4:=by rw[hq];exact (qdl hzp).2 hlt
    have hv7:v≤15:=by omega
    have HR:=zhd4 hq hr hlt hv4;clear hq hr hlt hv4;go_upto_region 6 with fail;go_quiet (fail);clear e3 e4;go_wp2;go_ret3;obtain⟨hq,hr,hlt,hv4⟩:=HR.out;have hm:=HM.out;have hz:=HZ.out;refine⟨?_,Fr.drewN [] w _⟩;unfold Triple;rw[qn5 (w:=v) (by omega) (by omega) (by omega),<-hm,<-hz,<-hq,<-hr];rw[show (2+2*(v:Int)+(q:Int)-2)=((2*v+q:Nat):Int) from by omega];rfl
   ·have hv5:v≤13:=by
     rcases qbq v 14 with h|h
     ·omega
     ·have:2^14≤2^v:=qax (by decide) h;have:=HZ.out;omega
    go_wp2;go_roundg (gk-1);case measure=>omega
    case rel=>exact⟨v+1,by go_num,by omega,by omega,by have:=HZ.out;rw[qcr];omega,rfl⟩
end Go.Proofs.YtbabjlohkniciaaGreatDoor.defl
namespace Go.Proofs.YtbabjlohkniciaaGreatDoor.mat
open Go Go.RowKit lib
def three (b:List UInt8) (i:Nat):Nat:=(b[i]?.getD 0).toNat+256*(b[i+1]?.getD 0).toNat+65536*(b[i+2]?.getD 0).toNat
theorem qm9 (b:List UInt8) (i:Nat):three b i<4294967296:=by unfold three;have h0:=qbo (b[i]?.getD 0);have h1:=qbo (b[i+1]?.getD 0);have h2:=qbo (b[i+2]?.getD 0);omega
def last (b:List UInt8):Nat→Nat→Option Nat
 | 0,_=>none
 | i+1,k=>if i+3≤b.length∧three b i=k then some i else last b i k
theorem qld (b:List UInt8):∀(i k p:Nat),last b i k=some p→p<i∧p+3≤b.length∧three b p=k
 | 0,_,_,h=>by cases h
 | i+1,k,p,h=>by
  unfold last at h;split at h
  ·rename_i hc;obtain rfl:=qa2 h;exact⟨by omega,hc.1,hc.2⟩
  ·have:=qld b i k p h;exact⟨by omega,this.2⟩
def alikeF (b:List UInt8) (i j:Nat):Nat→Nat→Nat
 | 0,n=>n
 | f+1,n=>if j+n<b.length∧b[i+n]?=b[j+n]? then alikeF b i j f (n+1) else n
def alike (b:List UInt8) (i j:Nat):Nat:=alikeF b i j 258 0
theorem qlr (b:List UInt8) (i j:Nat):∀(f n:Nat),j+n≤b.length→(∀k,k<n→b[i+k]?=b[j+k]?)→
  n≤alikeF b i j f n∧alikeF b i j f n≤n+f∧j+alikeF b i j f n≤b.length∧∀k,k<alikeF b i j f n→b[i+k]?=b[j+k]?
 | 0,n,h1,h2=>⟨qag _,qag _,h1,h2⟩
 | f+1,n,h1,h2=>by
  unfold alikeF;split
  ·rename_i hc;obtain⟨a,b',c,d⟩:=qlr b i j f (n+1) (by omega) (λk hk=>by
    by_cases e:k=n
    ·rw[e];exact hc.2
    ·exact h2 k (by omega))
   exact⟨by omega,by omega,c,d⟩
  ·exact⟨qag _,by omega,h1,h2⟩
theorem qja (b:List UInt8) (i j:Nat) (h:j≤b.length):alike b i j≤258∧j+alike b i j≤b.length∧∀k,k<alike b i j→b[i+k]?=b[j+k]?:=by obtain⟨_,h1,h2,h3⟩:=qlr b i j 258 0 (by omega) (λk hk=>by omega);exact⟨by unfold alike;omega,h2,h3⟩
def chase (b:List UInt8) (r i:Nat):Nat→Option Nat→Nat→Nat→Nat×Nat
 | 0,_,best,at_=>(best,at_)
 | _+1,none,best,at_=>(best,at_)
 | n+1,some p,best,at_=>if i-p≤r then (if best<alike b p i then chase b r i n (last b p (three b p)) (alike b p i) p else chase b r i n (last b p (three b p)) best at_) else (best,at_)
theorem qi6 (b:List UInt8) (r i:Nat):∀(n:Nat) (p:Option Nat) (best at_:Nat),(∀q,p=some q→q<i)→(best=0∨(best=alike b at_ i∧at_<i∧i-at_≤r))→
  best≤(chase b r i n p best at_).1∧((chase b r i n p best at_).1=0∨((chase b r i n p best at_).1=alike b (chase b r i n p best at_).2 i∧(chase b r i n p best at_).2<i∧i-(chase b r i n p best at_).2≤r))
 | 0,_,_,_,_,h=>⟨qag _,h⟩
 | _+1,none,_,_,_,h=>⟨qag _,h⟩
 | n+1,some p,best,at_,hp,h=>by
  have hpi:=hp p rfl;have hl:∀q,last b p (three b p)=some q→q<i:=λq hq=>by have:=(qld b _ _ _ hq).1;omega
  unfold chase;split
  ·split
   ·obtain⟨h1,h2⟩:=qi6 b r i n (last b p (three b p)) (alike b p i) p hl (.inr ⟨rfl,hpi,by assumption⟩);exact⟨by omega,h2⟩
   ·exact qi6 b r i n _ best at_ hl h
  ·exact⟨qag _,h⟩
def best (b:List UInt8) (r i:Nat):Nat×Nat:=chase b r i 48 (last b i (three b i)) 0 0
theorem qpz (b:List UInt8) (r i:Nat) (h:0<(best b r i).1):(best b r i).1=alike b (best b r i).2 i∧(best b r i).2<i∧i-(best b r i).2≤r:=by
 have h1:=(qi6 b r i 48 (last b i (three b i)) 0 0 (λq hq=>(qld b _ _ _ hq).1) (.inl rfl)).2;unfold best at *;rcases h1 with h1|h1
 ·omega
 ·exact h1
abbrev Mt:=Nat×Nat×Nat
def step (b:List UInt8) (r i:Nat):Nat:=if 3≤(best b r i).1 then (best b r i).1 else 1
def mloop (b:List UInt8) (r:Nat):Nat→Nat→List Mt
 | 0,_=>[]
 | f+1,i=>if i+3≤b.length then (if 3≤(best b r i).1 then (i,(best b r i).1,i-(best b r i).2)::mloop b r f (i+step b r i) else mloop b r f (i+step b r i)) else []
def qdz (b:List UInt8) (reach:Int):List Mt:=if 0<reach then mloop b (min reach 32768).toNat b.length 0 else []
def Chain (b:List UInt8) (r:Nat):Nat→List Mt→Prop
 | _,[]=>True
 | e,(a,n,d)::t=>e≤a∧3≤n∧n≤258∧1≤d∧d≤r∧d≤a∧a+n≤b.length∧(∀k,k<n→b[a+k]?=b[a+k-d]?)∧Chain b r (a+n) t
theorem Chain.mono {b:List UInt8} {r e e':Nat} {l:List Mt} (h:Chain b r e l) (he:e'≤e):Chain b r e' l:=by
 cases l with
 | nil=>trivial
 | cons x t=>obtain⟨a,n,d⟩:=x;exact⟨qan he h.1,h.2⟩
theorem qk6 (b:List UInt8) (r:Nat):∀(f i:Nat),Chain b r i (mloop b r f i)
 | 0,_=>trivial
 | f+1,i=>by
  unfold mloop;split
  ·rename_i hi;have ih:=qk6 b r f (i+step b r i);split
   ·rename_i h3;obtain⟨h1,h2,h4⟩:=qpz b r i (by omega);obtain⟨k1,k2,k3⟩:=qja b (best b r i).2 i (by omega);rw[<-h1]at k1 k2 k3;have hs:step b r i=(best b r i).1:=if_pos h3;rw[hs]at ih;refine⟨qag _,h3,k1,by omega,h4,by omega,k2,λk hk=>?_,by rw[hs];exact ih⟩;have:=k3 k hk;rw[show i+k-(i-(best b r i).2)=(best b r i).2+k from by omega,this]
   ·exact ih.mono (by omega)
  ·trivial
theorem qe0 (b:List UInt8) (reach:Int):Chain b (min reach 32768).toNat 0 (qdz b reach):=by
 unfold qdz;split
 ·exact qk6 _ _ _ _
 ·trivial
theorem Chain.len {b:List UInt8} {r:Nat}:∀{l:List Mt} {e:Nat},Chain b r e l→e≤b.length→l.length≤b.length-e
 | [],_,_,_=>qba _
 | (a,n,d)::t,e,h,_=>by obtain⟨h1,h2,h3,h4,h5,h6,h7,h8,h9⟩:=h;have:=h9.len h7;rw[qam];omega
theorem Chain.at {b:List UInt8} {r:Nat}:∀{l:List Mt} {e:Nat},Chain b r e l→∀{i:Nat} {x:Mt},l[i]?=some x→
  3≤x.2.1∧x.2.1≤258∧1≤x.2.2∧x.2.2≤r∧x.2.2≤x.1∧x.1+x.2.1≤b.length∧(∀k,k<x.2.1→b[x.1+k]?=b[x.1+k-x.2.2]?)∧(if i=0 then e≤x.1 else ∃y,l[i-1]?=some y∧y.1+y.2.1≤x.1)
 | [],_,_,i,x,h=>by simp at h
 | (a,n,d)::t,e,hc,0,x,h=>by
  simp only[qaa,qas]at h;subst h;obtain⟨h1,h2,h3,h4,h5,h6,h7,h8,_⟩:=hc;exact⟨h2,h3,h4,h5,h6,h7,h8,h1⟩
 | (a,n,d)::t,e,hc,i+1,x,h=>by
  rw[qad]at h;obtain⟨h1,h2,h3,h4,h5,h6,h7,h8⟩:=hc.2.2.2.2.2.2.2.2.at h;refine⟨h1,h2,h3,h4,h5,h6,h7,?_⟩;rw[if_neg (by omega),qeo];split at h8
  ·rename_i h0;subst h0;exact⟨(a,n,d),rfl,h8⟩
  ·rename_i h0;obtain⟨y,hy,hy2⟩:=h8;refine⟨y,?_,hy2⟩;obtain⟨j,rfl⟩:∃j,i=j+1:=⟨i-1,by omega⟩;simpa using hy
open bm
theorem or8 (x y:Nat) (hx:x<256) (hy:y<256):bits .or .u32 (x:Int) ((y:Int)*256)=((x+256*y:Nat):Int):=by have h:=qm8 x y 8 8 hx hy (by decide);rw[Int.emod_eq_of_lt (by omega) (by have e:(2:Int)^8=256:=rfl;rw[e];omega)]at h;exact h
theorem or16 (x y:Nat) (hx:x<65536) (hy:y<256):bits .or .u32 (x:Int) ((y:Int)*65536)=((x+65536*y:Nat):Int):=by have h:=qm8 x y 16 8 hx hy (by decide);rw[Int.emod_eq_of_lt (by omega) (by have e:(2:Int)^16=65536:=rfl;rw[e];omega)]at h;exact h
theorem three_drop (b:List UInt8) (i:Nat):three (b.drop i) 0=three b i:=by unfold three;simp only[qjp,qb5,qbe]
theorem qoi (a:Option Addr) (cap:Nat) (d:List UInt8) (w:World) (h:Rd w a cap d) (h3:3≤d.length) :
  Calls Tryz.prog 126 #[.slice a d.length cap] w λe w'=>e = .returned (.int .u32 (three d 0))∧∃n,w'=w.drewN n:=by
 obtain⟨g,o,rfl,c0⟩:=h.at (i:=0) (by omega);obtain⟨g1,o1,e1,c1⟩:=h.at (i:=1) (by omega);obtain⟨g2,o2,e2,c2⟩:=h.at (i:=2) (by omega);simp only[qas,qcg,and_true]at e1 e2;obtain⟨rfl,rfl⟩:=e1;obtain⟨rfl,rfl⟩:=e2;have hle:=h.le;have b0:(d[0]?.getD 0)=d[0]:=by rw[qaf (by omega)];rfl
 have b1:(d[1]?.getD 0)=d[1]:=by rw[qaf (by omega)];rfl
 have b2:(d[2]?.getD 0)=d[2]:=by rw[qaf (by omega)];rfl
 have ht:three d 0=d[0].toNat+256*d[1].toNat+65536*d[2].toNat:=by unfold three;rw[qbe,qbe,b0,b1,b2]
 have l0:=qbo d[0];have l1:=qbo d[1];have l2:=qbo d[2];rw[ht];generalize d[0].toNat=x0 at *;generalize d[1].toNat=x1 at *;generalize d[2].toNat=x2 at *;have o1:=or8 x0 x1 (by omega) (by omega);obtain⟨y,hy⟩:=zex (x0+256*x1);rw[<-hy]at o1;have o2:=or16 y x2 (by omega) (by omega);rw[<-hy];obtain⟨z,hz⟩:=zex (y+65536*x2);rw[<-hz]at o2 ⊢;clear hy hz;have g0:(0:Int)<(d.length:Int):=by omega
 have g1:(1:Int)<(d.length:Int):=by omega
 have g2:(2:Int)<(d.length:Int):=by omega
 simp only[qb5]at c0;clear h b0 b1 b2 ht;go_enter Tryz.func126,Tryz.ntmps126;go_wp2_with fail;go_quiet (fail);go_wp2;go_ret;exact⟨rfl,_,rfl⟩
theorem qlq {b:List UInt8} {i j f n:Nat} (h:¬(j+n<b.length∧b[i+n]?=b[j+n]?)):alikeF b i j f n=n:=by
 cases f with
 | zero=>rfl
 | succ f=>rw[alikeF,if_neg h]
theorem qyo (a:Option Addr) (cap i j:Nat) (b:List UInt8) (w:World) (h:Rd w a cap b) (hij:i≤j) (hj:j≤b.length) :
  Calls Tryz.prog 127 #[.slice a b.length cap,.int .i64 i,.int .i64 j] w λe w'=>e = .returned (.int .i64 (alike b i j))∧Fr [] w w':=by
 have hle:=h.le;have hmax:=h.max;unfold maxLen at hmax;obtain⟨L,hL⟩:=zex b.length;rw[<-hL]at hle hj ⊢;have H:=zhd2 h hL;clear h hL;go_enter Tryz.func127,Tryz.ntmps127;go_upto_block 0 with fail;go_wp2;go_loopg [7] 258 (λk s7 wr=>∃n:Nat,s7 = .int .i64 (n:Nat)∧n+k=258∧j+n≤L∧alikeF b i j k n=alike b i j∧Fr [] w wr);case atStart=>exact⟨0,rfl,rfl,by omega,rfl,Fr.refl _ _⟩
 case round=>
  obtain⟨n,rfl,hn,hjn,hal,hf⟩:=hrel;have HF:=zhd2 hal hf;clear hal hf;obtain⟨m1,hm1⟩:=zex (i+n);obtain⟨m2,hm2⟩:=zex (j+n);have e1:(i:Int)+(n:Int)=(m1:Int):=by omega
  have e2:(j:Int)+(n:Int)=(m2:Int):=by omega
  have w1:IntKind.i64.wrap ((i:Int)+(n:Int))=(m1:Int):=by rw[qcx];omega
  have w2:IntKind.i64.wrap ((j:Int)+(n:Int))=(m2:Int):=by rw[qcx];omega
  have HE:=zhd2 hm1 hm2;have l1:m1≤L:=by omega
  have l2:m2≤L:=by omega
  have l3:m1≤m2:=by omega
  by_cases hn258:n<258
  ·obtain⟨k,rfl⟩:∃k,gk=k+1:=⟨gk-1,by omega⟩;have d0:decide ((n:Int)<258)=true:=by simp;omega
   by_cases c2:m2<L
   ·have d2:decide (m2<L)=true:=by simpa using c2
    have d2':decide ((m2:Int)<L)=true:=by simp;omega
    have hl1:m1<b.length:=by rw[<-H.out.2];omega
    have hl2:m2<b.length:=by rw[<-H.out.2];omega
    obtain⟨g1,o1,ra,X1⟩:=H.out.1.at hl1;obtain⟨g2,o2,rb,X2⟩:=H.out.1.at hl2;have rb':=rb;rw[ra]at rb';simp only[qas,qcg,and_true]at rb';obtain⟨rfl,rfl⟩:=rb';have x1:=HF.l1.cell X1 (by simp);have x2:=HF.l1.cell X2 (by simp);clear X1 X2;obtain⟨y1,hy1⟩:∃y,y=b[m1]:=⟨_,rfl⟩;obtain⟨y2,hy2⟩:∃y,y=b[m2]:=⟨_,rfl⟩;rw[<-hy1]at x1;rw[<-hy2]at x2;have q1:b[m1]?=some y1:=by rw[hy1];exact qaf hl1
    have q2:b[m2]?=some y2:=by rw[hy2];exact qaf hl2
    have i1:(m1:Int)<(L:Int):=by omega
    have i2:(m2:Int)<(L:Int):=by omega
    subst ra;clear rb hy1 hy2;by_cases ce:y1=y2
    ·have hst:alikeF b i j (k+1) n=alikeF b i j k (n+1):=by rw[alikeF,if_pos];exact⟨by rw[<-H.out.2,<-hm2];exact c2,by rw[<-hm1,<-hm2,q1,q2,ce]⟩
     have HS:=zhd (hst.symm.trans HF.o0);rw[<-ce]at x2;generalize y1.toNat=n1 at *;clear ce hl1 hl2 hm1 hm2 q1 q2 hst;go_upto_region 2 with fail;go_quiet (fail);clear x1 x2 w1 w2;go_wp2;go_roundg k;case measure=>omega
     case rel=>exact⟨n+1,by go_num,by omega,by have:=HE.l1;omega,HS.out,HF.l1.trans (Fr.drewN [] _ _)⟩
    ·have hne:y1.toNat≠y2.toNat:=λh=>ce (qjn.1 h)
     have hst:alikeF b i j (k+1) n=n:=qlq λhc=>by rw[<-hm1,<-hm2,q1,q2]at hc;exact ce (qa2 hc.2)
     have HS:=zhd (hst.symm.trans HF.o0);have d3:(((y1.toNat:Nat):Int)==((y2.toNat:Nat):Int))=false:=by simp;omega
     generalize y1.toNat=n1 at *;generalize y2.toNat=n2 at *;clear ce hl1 hl2 hne hm1 hm2 q1 q2 hst;go_upto_region 2 with fail;go_quiet (fail);clear x1 x2 w1 w2;go_wp2;go_ret;exact⟨by rw[<-HS.out];rfl,HF.l1.trans (Fr.drewN [] _ _)⟩
   ·have d2:decide (m2<L)=false:=by simpa using c2
    have d2':decide ((m2:Int)<L)=false:=by simp;omega
    have hst:alikeF b i j (k+1) n=n:=qlq λhc=>by have:=hc.1;rw[<-H.out.2]at this;omega
    have HS:=zhd (hst.symm.trans HF.o0);clear hst hm1 hm2;go_upto_region 2 with fail;go_quiet (fail);clear w1 w2;go_wp2;go_ret;exact⟨by rw[<-HS.out];rfl,HF.l1.trans (Fr.drewN [] _ _)⟩
  ·obtain rfl:n=258:=by omega
   obtain rfl:gk=0:=by omega
   have HS:=zhd HF.o0;clear hm1 hm2;go_upto_region 2 with fail;go_quiet (fail);clear w1 w2;go_wp2;go_ret;exact⟨by rw[<-HS.out];rfl,HF.l1.trans (Fr.drewN [] _ _)⟩
theorem qu5:Tryz.prog.underlying 90=some (.int .u32):=by kernel_rfl
theorem qiq:Tryz.prog.underlying 3=some (.int .i64):=by kernel_rfl
theorem qj8:Tryz.prog.underlying 188=some (.map 90 3):=by kernel_rfl
theorem qgs:Maps.Keyed Tryz.prog 90:=Maps.int_keyed qu5
theorem qm4 (w:World):(zeroValue 3).run Tryz.prog w = .ok (.int .i64 0) w:=by kernel_rfl
theorem qu4 {k:Nat} (h:k<4294967296):(Lit.int .u32 (k:Int)).wf=true:=WalkArith.wf_u32 (by omega)
theorem zbw {k:Int} (h : -9223372036854775808≤k) (h2:k≤9223372036854775807):(Lit.int .i64 k).wf=true:=WalkArith.wf_i64 (by omega)
theorem qwp {k:Nat} (h:k<4294967296):keyOf Tryz.prog 90 (.int .u32 (k:Int))=some (.int .u32 (k:Int)):=Maps.keyOf_int_mk qu5 (qu4 h)
theorem qmv {a:Option Addr} {cap lo:Nat} (h:lo<cap):cutAtN a cap lo 1=Option.map (λx=>x.add lo) a:=by unfold cutAtN;rw[if_neg (by omega),qdi]
def pq:Option Nat→Int×Bool
 | none=>(0,false)
 | some p=>((p:Int),true)
def pv (b:List UInt8) (j:Nat):Int:=match last b j (three b j) with
 | none=>-1
 | some p=>(p:Int)
def MapOk (b:List UInt8) (i:Nat) (D:DataW Unit):Prop:=
 Maps.IsMap D∧∀k:Nat,k<4294967296→D.atKey (.int .u32 (k:Int)) (.lit (.int .i64 0)) = .lit (.int .i64 (pq (last b i k)).1)∧Maps.has D (.int .u32 (k:Int))=(pq (last b i k)).2
theorem qqw (b:List UInt8):MapOk b 0 (.map []):=⟨Maps.isMap_empty,λk _=>⟨rfl,rfl⟩⟩
theorem MapOk.put {b:List UInt8} {i:Nat} {D:DataW Unit} (h:MapOk b i D) (hi:i+3≤b.length):MapOk b (i+1) (D.put (.int .u32 (three b i:Nat)) (.lit (.int .i64 (i:Int)))):=by
 refine⟨h.1.put _ _,λk hk=>?_⟩;by_cases he:three b i=k
 ·have hl:last b (i+1) k=some i:=by rw[last,if_pos ⟨hi,he⟩]
  rw[hl,he];have hkl:WideAt.IsKeyLit (.int .u32 (k:Int)):=by first|trivial|exact qu4 hk|simp[WideAt.IsKeyLit]
  exact⟨Maps.atKey_put_same h.1 hkl _ _,Maps.has_put_same h.1 hkl _⟩
 ·have hl:last b (i+1) k=last b i k:=by rw[last,if_neg (λhc=>he hc.2)]
  have hne:(Lit.int .u32 (k:Int))≠.int .u32 (three b i:Nat):=by intro e;simp only[Lit.int.injEq,true_and]at e;omega
  rw[hl,Maps.atKey_put_other hne,Maps.has_put_other hne];exact h.2 k hk
theorem MapOk.skip {b:List UInt8} {i:Nat} {D:DataW Unit} (h:MapOk b i D) (hi:¬i+3≤b.length):MapOk b (i+1) D:=by refine⟨h.1,λk hk=>?_⟩;rw[last,if_neg (λhc=>hi hc.1)];exact h.2 k hk
theorem qeh {H:Type} {P:Program} {w w':World} {k:TypeId} {R:Value→Option (DataW H×List MemPlace)} {m n:Nat} {D:DataW H} (h:w.ownsMap P k R m n D) (hb:w'.heap[m]?=w.heap[m]?):w'.ownsMap P k R m n D:=by obtain⟨es,c,h1,r⟩:=h;exact⟨es,c,hb.trans h1,r⟩
theorem qzx {b:List UInt8} {i bm cnt:Nat} {D:DataW Unit} {w:World} (h:w.ownsMap Tryz.prog 90 (plainElem Tryz.prog 3) bm cnt D) (hm:MapOk b i D) {k:Nat} (hk:k<4294967296) :
  (Instr.lookup 188 (.map (some bm)) (.int .u32 (k:Int)) true).run Tryz.prog w = .ok (.tuple #[.int .i64 (pq (last b i k)).1,.bool (pq (last b i k)).2]) w:=by
 obtain⟨v,ps,hrun,hv⟩:=h.look_ok qgs qj8 (qm4 w) (plainElem_int qiq (by decide)) (qwp hk);obtain⟨ha,hh⟩:=hm.2 k hk;obtain⟨c,rfl,hc,_⟩:=plainElem_int_inv qiq hv;simp only[qa1]at hc;rw[ha]at hc;have e:c=(pq (last b i k)).1:=by simpa using hc.1.symm
 rw[hrun,hh,e]
def pd:Option Nat→Int
 | none=>-1
 | some p=>(p:Int)
theorem zd7 (b:List UInt8) (j:Nat):pv b j=pd (last b j (three b j)):=by unfold pv pd;rfl
structure Eb (w:World) (b:List UInt8) (a:Option Addr) (cap qb qp qh bp bm cnt:Nat) (D:DataW Unit) (P:Array Value):Prop where
 vb:w.heap[qb]?=some (.cells #[.slice a b.length cap] 22 (0,0))
 vp:w.heap[qp]?=some (.cells #[.slice (some ⟨bp,0,none⟩) b.length b.length] 128 (0,0))
 vh:w.heap[qh]?=some (.cells #[.map (some bm)] 188 (0,0))
 rd:Rd w a cap b
 map:w.ownsMap Tryz.prog 90 (plainElem Tryz.prog 3) bm cnt D
 row:w.heap[bp]?=some (.cells P 3 (0,0))
 size:P.size=b.length
 np:qb≠bp∧qp≠bp∧qh≠bp∧bm≠bp
 nm:qb≠bm∧qp≠bm∧qh≠bm
 na:b≠[]→∀x∈blk a,x≠bp∧x≠bm
theorem Eb.fr {w w':World} {b:List UInt8} {a:Option Addr} {cap qb qp qh bp bm cnt:Nat} {D:DataW Unit} {P:Array Value} (h:Eb w b a cap qb qp qh bp bm cnt D P) (f:Fr [] w w'):Eb w' b a cap qb qp qh bp bm cnt D P:=
 ⟨f.blk h.vb (by simp),f.blk h.vp (by simp),f.blk h.vh (by simp),h.rd.fr f,qeh h.map (f.block _ h.map.lt (by simp)),f.blk h.row (by simp),h.size,h.np,h.nm,h.na⟩
theorem Eb.store {w:World} {b:List UInt8} {a:Option Addr} {cap qb qp qh bp bm cnt:Nat} {D:DataW Unit} {P:Array Value} (h:Eb w b a cap qb qp qh bp bm cnt D P) (i:Nat) (v:Value) :
  Eb (w.setCell ⟨bp,i,none⟩ v) b a cap qb qp qh bp bm cnt D (P.setIfInBounds i v)∧Fr [bp] w (w.setCell ⟨bp,i,none⟩ v):=by
 have f:Fr [bp] w (w.setCell ⟨bp,i,none⟩ v):=(Fr.refl [bp] w).setCell (by simp) v;obtain⟨n1,n2,n3,n4⟩:=h.np;exact⟨⟨f.blk h.vb (by simpa using n1),f.blk h.vp (by simpa using n2),f.blk h.vh (by simpa using n3),qji h.rd f (λhb x hx=>by simpa using (h.na hb x hx).1),qeh h.map (f.block _ h.map.lt (by simpa using n4)),qa0 h.row v,by simp[h.size],h.np,h.nm,h.na⟩,f⟩
theorem Eb.put {w w':World} {b:List UInt8} {a:Option Addr} {cap qb qp qh bp bm cnt cnt':Nat} {D D':DataW Unit} {P:Array Value} (h:Eb w b a cap qb qp qh bp bm cnt D P) (hm:w'.ownsMap Tryz.prog 90 (plainElem Tryz.prog 3) bm cnt' D') (hg:w.grownBy w' (some bm)) :
  Eb w' b a cap qb qp qh bp bm cnt' D' P∧Fr [bm] w w':=by
 have f:Fr [bm] w w':=(Fr.refl [bm] w).grown hg (λk hk=>by simp only[qas]at hk;simp[hk]);obtain⟨n1,n2,n3,n4⟩:=h.np;obtain⟨m1,m2,m3⟩:=h.nm;exact⟨⟨f.blk h.vb (by simpa using m1),f.blk h.vp (by simpa using m2),f.blk h.vh (by simpa using m3),qji h.rd f (λhb x hx=>by simpa using (h.na hb x hx).2),hm,f.blk h.row (by simpa using (qgh n4)),h.size,h.np,h.nm,h.na⟩,f⟩
def En (w:World) (b:List UInt8) (a:Option Addr) (cap qb qp qh bp bm i:Nat):Prop:=
 ∃D P cnt,Eb w b a cap qb qp qh bp bm cnt D P∧cnt≤i∧MapOk b i D∧∀j,j<i→j+3≤b.length→P[j]?=some (.int .i64 (pv b j))
theorem En.fr {w w':World} {b:List UInt8} {a:Option Addr} {cap qb qp qh bp bm i:Nat} (h:En w b a cap qb qp qh bp bm i) (f:Fr [] w w'):En w' b a cap qb qp qh bp bm i:=by obtain⟨D,P,cnt,h1,r⟩:=h;exact⟨D,P,cnt,h1.fr f,r⟩
theorem En.skip {w:World} {b:List UInt8} {a:Option Addr} {cap qb qp qh bp bm i:Nat} (h:En w b a cap qb qp qh bp bm i) (hi:¬i+3≤b.length):En w b a cap qb qp qh bp bm (i+1):=by obtain⟨D,P,cnt,h1,h2,h3,h4⟩:=h;exact⟨D,P,cnt,h1,by omega,h3.skip hi,λj hj hj2=>h4 j (by omega) hj2⟩
theorem qxo (b:List UInt8) (a:Option Addr) (cap qb qp qh bp bm i:Nat) (w:World) (h:En w b a cap qb qp qh bp bm i) (hi:i<b.length) (hlen:b.length≤100000) :
  Calls Tryz.prog 125 #[.int .i64 i,.pointer (some ⟨qb,0,none⟩),.pointer (some ⟨qp,0,none⟩),.pointer (some ⟨qh,0,none⟩)] w λe w'=>
   e = .returned (.tuple #[])∧Fr [bp,bm] w w'∧En w' b a cap qb qp qh bp bm (i+1):=by
 by_cases h3:i+3≤b.length
 ·obtain⟨D,P,cnt,E,hcnt,hmap,hrow⟩:=h;obtain⟨L,hL⟩:=zex b.length;have cb:=cell_of E.vb 0;simp only[qae,qaa]at cb;have hle:=E.rd.le;have hth:=qoi (cutAtN a cap i 1) (cap-i) (b.drop i) w (E.rd.drop i (by omega)) (by rw[qau];omega);rw[qau,three_drop,qmv (by omega)]at hth;have hkl:=qm9 b i;obtain⟨ha,hh⟩:=hmap.2 _ hkl;have hpv:∀p,last b i (three b i)=some p→pv b i=p:=λp hp=>by unfold pv;rw[hp]
  have hpn:last b i (three b i)=none→pv b i = -1:=λhp=>by unfold pv;rw[hp]
  rw[<-hL]at cb hi h3 hle hlen hth;have HM:=zhd4 E hmap hrow hL;have HP:=zhd2 hpv hpn;obtain⟨k,hk⟩:=zex (three b i);rw[<-hk]at hkl ha hh hth;have HT:=zhd hth;have hkey:=qwp hkl;have HK:=zhd hk;have HL:Hid (L=b.length):=HM.l3 |> Lib.hid
  clear hth hpv hpn hL E hmap hrow hk;have d0:decide ((L:Int)<(i:Int)+3)=false:=by simp;omega
  go_enter Tryz.func125,Tryz.ntmps125;go_upto_region 2 with (go_at_call 126;(with_reducible refine HT.out.mono ?_);rintro e w1 ⟨rfl,n1,hw1⟩;have HW1:=zhd hw1;clear hw1);have E1:Eb w1 b a cap qb qp qh bp bm cnt D P:=HM.o0.fr (by rw[HW1.out];exact Fr.drewN [] w n1);have cp:=cell_of E1.vp 0;simp only[qae,qaa]at cp;rw[<-HL.out]at cp;have hz1:=qay E1.row i;have hpl:i<P.size:=by rw[E1.size,<-HL.out];exact hi
  obtain⟨x0,hx0⟩:∃x,w1.cell? ⟨bp,i,none⟩=some x:=⟨P[i],by rw[cell_of E1.row];exact qhv hpl⟩;have HE1:=zhd2 E1 hpl;clear E1 hpl cb;go_upto_region 3 with fail;obtain⟨E2,f2⟩:=HE1.out.1.store i (.int .i64 (-1));generalize hw2:w1.setCell ⟨bp,i,none⟩ (.int .i64 (-1))=w2 at *;have ch:=cell_of E2.vh 0;simp only[qae,qaa]at ch;have hown:=E2.map;have HE2:=zhd2 E2 f2;clear hw2 E2 f2 cp hz1 hx0;have hcm:cnt<maxLen:=by unfold maxLen;omega
  have HWF:Hid ((Lit.int .i64 (i:Int)).wf=true):=zhd (zbw (by omega) (by omega));cases hq:last b i k with
  | none=>
   rw[hq]at hh;have hq':last b i (three b i)=none:=by rw[<-HK.out];exact hq
   have HQ:=zhd hq';simp only[pq]at hh;clear hq hq' ha;go_upto_region 6 with (at_lookup;refine wpList_lookup_own_ok_int _ rfl _ _ 188 rfl 90 3 .i64 qgs qj8 qiq (qm4 _) bm cnt D rfl hown _ (.int .u32 (k:Int)) rfl hkey ?_;intro c hat _;rw[hh];clear hat);go_wp2_with (at_mapUpdate;refine wpList_mapUpdate_own _ rfl _ _ _ 188 rfl 90 3 qgs qj8 _ bm cnt D rfl hown hcm _ _ (.int .u32 (k:Int)) rfl rfl hkey _ [] (plainElem_int qiq (a:=(i:Int)) HWF.out) ?_;intro w3 hown3 hgrow3);go_end0;obtain⟨E3,f3⟩:=HE2.out.1.put hown3 hgrow3;refine⟨rfl,?_,_,_,_,E3,by omega,?_,λj hj hj2=>?_⟩
   ·have f1:Fr [bp,bm] w w1:=by rw[HW1.out];exact Fr.drewN [bp,bm] w n1
    exact (f1.step HE2.out.2 (λy hy=>.inl (by simp at hy;simp[hy]))).step f3 (λy hy=>.inl (by simp at hy;simp[hy]))
   ·rw[HK.out];exact HM.o1.put (by rw[<-HL.out];exact h3)
   ·by_cases e:j=i
    ·subst e;rw[qaq HE1.out.2,HP.l1 HQ.out]
    ·rw[qac (by omega)];exact HM.o2 j (by omega) hj2
  | some p=>
   rw[hq]at hh ha;have hq':last b i (three b i)=some p:=by rw[<-HK.out];exact hq
   have HQ:=zhd hq';simp only[pq]at hh ha;have HA:=zhd ha;clear hq hq' ha;have cp:=cell_of HE2.out.1.vp 0;simp only[qae,qaa]at cp;rw[<-HL.out]at cp;have hz1:=qay HE2.out.1.row i;obtain⟨x1,hx1⟩:∃x,w2.cell? ⟨bp,i,none⟩=some x:=⟨_,by rw[cell_of HE2.out.1.row];exact qaq HE1.out.2⟩;go_upto_region 6 with (at_lookup;refine wpList_lookup_own_ok_int _ rfl _ _ 188 rfl 90 3 .i64 qgs qj8 qiq (qm4 _) bm cnt D rfl hown _ (.int .u32 (k:Int)) rfl hkey ?_;intro c hat _;rw[hh];have HC:Hid (c=(p:Int)):=zhd (by rw[HA.out]at hat;simpa using hat.symm);clear hat);obtain⟨E3,f3⟩:=HE2.out.1.store i (.int .i64 c);generalize hw3:w2.setCell ⟨bp,i,none⟩ (.int .i64 c)=w3 at *;have ch3:=cell_of E3.vh 0;simp only[qae,qaa]at ch3;have hown3:=E3.map;have HE3:=zhd2 E3 f3;clear hw3 E3 f3 cp hz1 hx1 hown ch;go_wp2_with (at_mapUpdate;refine wpList_mapUpdate_own _ rfl _ _ _ 188 rfl 90 3 qgs qj8 _ bm cnt D rfl hown3 hcm _ _ (.int .u32 (k:Int)) rfl rfl hkey _ [] (plainElem_int qiq (a:=(i:Int)) HWF.out) ?_;intro w4 hown4 hgrow4);go_end0;obtain⟨E4,f4⟩:=HE3.out.1.put hown4 hgrow4;refine⟨rfl,?_,_,_,_,E4,by omega,?_,λj hj hj2=>?_⟩
   ·have f1:Fr [bp,bm] w w1:=by rw[HW1.out];exact Fr.drewN [bp,bm] w n1
    exact ((f1.step HE2.out.2 (λy hy=>.inl (by simp at hy;simp[hy]))).step HE3.out.2 (λy hy=>.inl (by simp at hy;simp[hy]))).step f4 (λy hy=>.inl (by simp at hy;simp[hy]))
   ·rw[HK.out];exact HM.o1.put (by rw[<-HL.out];exact h3)
   ·by_cases e:j=i
    ·subst e;rw[qaq (by rw[Array.size_setIfInBounds];exact HE1.out.2),HP.o0 p HQ.out,HC.out]
    ·rw[qac (by omega),qac (by omega)];exact HM.o2 j (by omega) hj2
 ·have hsk:=h.skip h3;obtain⟨D,P,cnt,E,_⟩:=h;have cb:=cell_of E.vb 0;simp only[qae,qaa]at cb;have HS:=zhd hsk;clear hsk E;have d0:decide ((b.length:Int)<(i:Int)+3)=true:=by simp;omega
  go_enter Tryz.func125,Tryz.ntmps125;go_wp2;(try simp only[Exit.inBlock,Exit.then]);refine bodyPost_ret (results_none rfl _ _ _) rfl ?_;exact⟨rfl,Fr.refl _ _,HS.out⟩
end Go.Proofs.YtbabjlohkniciaaGreatDoor.mat
