/-
  Texts of this proof, one behind the other: MatM, Each, HuffPm, HuffKr, HuffStab.
-/
import Derived.Test.YtbabjlohkniciaaGreatDoorV3
set_option maxHeartbeats 16000000
set_option maxRecDepth 100000
set_option linter.unusedVariables false
set_option linter.unusedSimpArgs false
namespace Go.Proofs.YtbabjlohkniciaaGreatDoor.mat
open Go Go.RowKit lib bm
def mcells (l:List Mt):List Value:=l.flatMap λx=>[.int .i64 (x.1:Nat),.int .i64 (x.2.1:Nat),.int .i64 (x.2.2:Nat)]
theorem qh9 (l:List Mt):(mcells l).length=l.length*3:=by
 unfold mcells;induction l with
 | nil=>rfl
 | cons x l ih=>simp only[qca,qab,qam,qbb,ih];omega
theorem qnr (l m:List Mt):mcells (l++m)=mcells l++mcells m:=by unfold mcells;rw[qik]
theorem qo7:∀(l:List Mt) (i:Nat) (h:i<l.length),(mcells l)[i*3]?=some (.int .i64 (l[i].1:Nat))∧(mcells l)[i*3+1]?=some (.int .i64 (l[i].2.1:Nat))∧(mcells l)[i*3+2]?=some (.int .i64 (l[i].2.2:Nat))
 | x::l,0,_=>⟨rfl,rfl,rfl⟩
 | x::l,i+1,h=>by
  have hc:mcells (x::l)=[.int .i64 (x.1:Nat),.int .i64 (x.2.1:Nat),.int .i64 (x.2.2:Nat)]++mcells l:=rfl;have e:∀j,(mcells (x::l))[(i+1)*3+j]?=(mcells l)[i*3+j]?:=λj=>by rw[hc,qek (by simp;omega)];congr 1;simp;omega
  have h0:=qo7 l i (by simpa using h);have e0:=e 0;simp only[qb5]at e0;rw[e0,e 1,e 2];exact h0
structure Low (w:World) (b:List UInt8) (a:Option Addr) (qb qp qh bp bm B0:Nat):Prop where
 q:qb<B0∧qp<B0∧qh<B0∧bp<B0∧bm<B0
 new:w.heap.size≤bp∧w.heap.size≤bm
 a:b≠[]→∀x∈blk a,x<B0
theorem En.up {S:List Nat} {w0 w w':World} {b:List UInt8} {a:Option Addr} {cap qb qp qh bp bm i B0:Nat} (h:En w b a cap qb qp qh bp bm i) (l:Low w0 b a qb qp qh bp bm B0) (f:Fr S w w') (hS:∀x∈S,B0≤x):En w' b a cap qb qp qh bp bm i:=by
 obtain⟨D,P,cnt,h1,r⟩:=h;obtain⟨l1,l2,l3,l4,l5⟩:=l.q;have no:∀x,x<B0→x∉S:=λx hx hm=>by have:=hS x hm;omega
 exact⟨D,P,cnt,⟨f.blk h1.vb (no _ l1),f.blk h1.vp (no _ l2),f.blk h1.vh (no _ l3),qji h1.rd f (λhb x hx=>no x (l.a hb x hx)),qeh h1.map (f.block _ h1.map.lt (no _ l5)),f.blk h1.row (no _ l4),h1.size,h1.np,h1.nm,h1.na⟩,r⟩
structure Ms (w wr:World) (b:List UInt8) (a:Option Addr) (cap qb qp qh bp bm B0 i:Nat) (l:List Mt) (ao:Option Addr) (c:Nat):Prop where
 own:wr.ownsRow 0 191 3 (.slice ao l.length c) l.length (mcells l)
 en:En wr b a cap qb qp qh bp bm i
 fr:Fr [] w wr
 new:∀x∈blk ao,B0≤x
 low:Low w b a qb qp qh bp bm B0
 big:B0≤wr.heap.size
theorem Ms.fr0 {w wr w2:World} {b:List UInt8} {a ao:Option Addr} {cap qb qp qh bp bm B0 i c:Nat} {l:List Mt} (h:Ms w wr b a cap qb qp qh bp bm B0 i l ao c) (f:Fr [] wr w2):Ms w w2 b a cap qb qp qh bp bm B0 i l ao c:=
 ⟨qa7 h.own f (by simp),h.en.fr f,h.fr.trans f,h.new,h.low,qan h.big f.size⟩
theorem Ms.enter {w wr w2:World} {b:List UInt8} {a ao:Option Addr} {cap qb qp qh bp bm B0 i j c:Nat} {l:List Mt} (h:Ms w wr b a cap qb qp qh bp bm B0 i l ao c) (f:Fr [bp,bm] wr w2) (e:En w2 b a cap qb qp qh bp bm j):Ms w w2 b a cap qb qp qh bp bm B0 j l ao c:=by
 obtain⟨l1,l2,l3,l4,l5⟩:=h.low.q;refine⟨qa7 h.own f λk hk hm=>?_,e,h.fr.step f λy hy=>?_,h.new,h.low,qan h.big f.size⟩
 ·have:=h.new k (by rw[<-qbp ao l.length c,hk];simp);simp only[qaw,qby,or_false]at hm;omega
 ·have:=h.low.new;simp only[qaw,qby,or_false]at hy;right;omega
theorem qt1 {b:List UInt8} {r k i:Nat} (h3:i+3≤b.length):mloop b r (k+1) i=(if 3≤(best b r i).1 then [(i,(best b r i).1,i-(best b r i).2)] else [])++mloop b r k (i+step b r i):=by rw[mloop,if_pos h3];split<;>rfl
def MatchesNew (w:World) (l:List Mt) (e:Ending) (w':World):Prop:=∃ao,e = .returned (.slice ao l.length l.length)∧Cs w' ao (mcells l)∧(ao=none→l.length=0)∧(∀x∈blk ao,x<w'.heap.size)∧Fr [] w w'
theorem matchTy:SliceTy Tryz.prog 126 191 (.agg #[.int .i64 0,.int .i64 0,.int .i64 0]) 3 24:=SliceTy.of Tryz.underlying126 (by kernel_rfl) rfl (by decide)
theorem intsTy:SliceTy Tryz.prog 128 3 (.int .i64 0) 1 8:=SliceTy.of Tryz.underlying128 (by kernel_rfl) rfl (by decide)
theorem qzt {b:List UInt8} {a:Option Addr} {cap:Nat} {w w3:World} (h:Rd w a cap b)
  (own3:w3.ownsRow 0 3 1 (.slice (some ⟨w.heap.size+1+1+1,0,none⟩) b.length b.length) b.length (madeCells (Value.int .i64 0).cells (b.length*1)).toList)
  (grow3:(((w.alloc (.cells #[.slice a b.length cap] 22)).alloc (.map #[] 0)).alloc (.cells #[.map (some (w.heap.size+1))] 188)).grownBy w3 none) :
  Ms w (w3.alloc (.cells #[.slice (some ⟨w.heap.size+1+1+1,0,none⟩) b.length b.length] 128)) b a cap w.heap.size w3.heap.size (w.heap.size+1+1) (w.heap.size+1+1+1) (w.heap.size+1) (w3.heap.size+1) 0 [] none 0:=by
 obtain⟨W0,hW0⟩:=zex (((w.alloc (.cells #[.slice a b.length cap] 22)).alloc (.map #[] 0)).alloc (.cells #[.map (some (w.heap.size+1))] 188));rw[<-hW0]at grow3;have hz0:W0.heap.size=w.heap.size+1+1+1:=by rw[hW0];simp only[qav]
 have f3:Fr [] W0 w3:=(Fr.refl [] W0).grown grow3 (λk hk=>by cases hk);have f0:Fr [] w W0:=by rw[hW0];exact (((Fr.refl [] w).alloc _).alloc _).alloc _
 have b0:W0.heap[w.heap.size]?=some (.cells #[.slice a b.length cap] 22 (0,0)):=by rw[hW0];exact alloc_old _ (alloc_old _ (qa4 w _))
 have b1:W0.heap[w.heap.size+1]?=some (.map #[] 0):=by rw[hW0];have:=qa4 (w.alloc (.cells #[.slice a b.length cap] 22)) (.map #[] 0);rw[qav]at this;exact alloc_old _ this
 have b2:W0.heap[w.heap.size+1+1]?=some (.cells #[.map (some (w.heap.size+1))] 188 (0,0)):=by rw[hW0];have:=qa4 ((w.alloc (.cells #[.slice a b.length cap] 22)).alloc (.map #[] 0)) (.cells #[.map (some (w.heap.size+1))] 188);rw[qav,qav]at this;exact this
 have hmap:W0.ownsMap Tryz.prog 90 (plainElem (H:=Unit) Tryz.prog 3) (w.heap.size+1) 0 (.map []):=by have:=World.ownsMap_made (w.alloc (.cells #[.slice a b.length cap] 22)) Tryz.prog 90 (plainElem (H:=Unit) Tryz.prog 3);rw[qav]at this;rw[hW0];exact this.alloc _
 obtain⟨o1,o2⟩:=own3;rcases o2 with⟨o2,_⟩|⟨g,c',cur,o2,_,hg,_,_,hsz,_⟩
 ·cases o2
 ·simp only[qbn,qas,qcg,and_true,true_and]at o2;obtain⟨rfl,rfl⟩:=o2;have hlt:=lt_of_block hg;have f4:Fr [] w3 (w3.alloc (.cells #[.slice (some ⟨w.heap.size+1+1+1,0,none⟩) b.length b.length] 128)):=(Fr.refl [] w3).alloc _;have fall:=(f0.trans f3).trans f4;have f34:=f3.trans f4;refine⟨qch _ _ _ _,⟨.map [],cur,0,⟨f34.blk b0 (by simp),qa4 w3 _,f34.blk b2 (by simp),h.fr fall,qeh hmap (f34.block _ hmap.lt (by simp)),f4.blk hg (by simp),by omega,⟨by omega,by omega,by omega,by omega⟩,⟨by omega,by omega,by omega⟩,λhb x hx=>?_⟩,qag _,qqw b,λj hj=>by omega⟩,fall,by simp[blk],⟨⟨by omega,by omega,by omega,by omega,by omega⟩,⟨by omega,by omega⟩,λhb x hx=>?_⟩,by rw[qav];exact qag _⟩
  ·have:=qts h hb x hx;omega
  ·have:=qts h hb x hx;omega
theorem Ms.push {w wr w2:World} {b:List UInt8} {a ao a2:Option Addr} {cap qb qp qh bp bm B0 i c c2:Nat} {l:List Mt} (h:Ms w wr b a cap qb qp qh bp bm B0 i l ao c) (x:Mt) (o:Obj) (n:Nat) (hn:l.length=n)
  (A:Appended (wr.alloc o) w2 191 3 (blk ao) a2 (n+1) c2 (mcells l++mcells [x])):Ms w w2 b a cap qb qp qh bp bm B0 i (l++[x]) a2 c2:=by
 have f1:Fr [] wr (wr.alloc o):=(Fr.refl [] wr).alloc o;have hz:(wr.alloc o).heap.size=wr.heap.size+1:=qav _ _;have hbig:=h.big;have hlow:=h.low.new;have hlq:=h.low.q;have hs:=A.fr.size;refine⟨by rw[qab,qc6,qnr,hn];exact A.own,(h.en.up h.low f1 (by simp)).up h.low A.fr h.new,(h.fr.trans f1).step A.fr λy hy=>.inr (by have:=h.new y hy;omega),λy hy=>?_,h.low,by omega⟩;rcases A.at_ y hy with k|k
 ·exact h.new y k
 ·omega
theorem qqv (b:List UInt8) (a:Option Addr) (cap:Nat) (reach:Int) (w:World) (h:Rd w a cap b) (hlen:b.length≤100000) :
  Calls Tryz.prog 80 #[.slice a b.length cap,.int .i64 reach] w (MatchesNew w (qdz b reach)):=by
 have hmm:=@run_makeMap Tryz.prog;obtain⟨L,hL⟩:=zex b.length;have hle:=h.le;obtain⟨r,hr⟩:∃r:Int,r=if 32768<reach then 32768 else reach:=⟨_,rfl⟩
 have hr1:r≤32768:=by rw[hr];split<;>omega
 rw[<-hL]at hle hlen ⊢;have H:=zhd3 h hL hr;obtain⟨hu,⟨ti,hi',hz',hs',hb'⟩,hcz,hp⟩:=intsTy;clear h hL hr;go_enter Tryz.func80,Tryz.ntmps80;go_upto_block 0 with (first|(refine qp7 r rfl _ _ _ rfl reach 32768 rfl rfl H.l2 ?_)|(refine wpList_make_full _ rfl _ _ 128 rfl 0 3 ti (.int .i64 0) 1 hu hi' hz' hs' .i64 .i64 (L:Nat) (L:Nat) L rfl rfl rfl rfl (by rw[hb'];omega) (by unfold maxLen;omega) (by omega) ?_;intro w3 own3 grow3;have H3:=zhd2 own3 grow3;clear own3 grow3));obtain⟨qb,qp,qh,bp,bm,B0,w4,e1,e2,e3,e4,e5,e6,hms⟩:∃qb qp qh bp bm B0 w4,w4=w3.alloc (.cells #[.slice (some ⟨w.heap.size+1+1+1,0,none⟩) L L] 128)∧qp=w3.heap.size∧bp=w.heap.size+1+1+1∧qh=w.heap.size+1+1∧bm=w.heap.size+1∧qb=w.heap.size∧Ms w w4 b a cap qb qp qh bp bm B0 0 [] none 0:=by have:=qzt H.o0 (by have h:=H3.o0;simp only[qav]at h;rw[<-H.o1];exact h) (by rw[<-H.o1];exact H3.l1);rw[<-H.o1]at this;exact⟨_,_,_,_,_,_,_,rfl,rfl,rfl,rfl,rfl,rfl,this⟩
 rw[<-e1,<-e3,<-e4,<-e5,<-e6,<-e2];obtain⟨M,hM⟩:=zex (qdz b reach);obtain⟨R,hR⟩:=zex ((min reach 32768).toNat);have hstart:(0<r→([]:List Mt)++mloop b R L 0=M)∧(r≤0→([]:List Mt)=M):=by
  have hrr:=H.l2;rw[hM,hR,H.o1];unfold qdz;constructor
  ·intro h0;rw[if_pos (by rw[hrr]at h0;split at h0<;>omega)];rfl
  ·intro h0;rw[if_neg (by rw[hrr]at h0;split at h0<;>omega)]
 have hRr:0<r→(R:Int)=r:=by have hrr:=H.l2;intro h0;rw[hR,hrr];rw[hrr]at h0;split at h0<;>split<;>omega
 have HS:=zhd3 hstart hms hM;have HR:=zhd hRr;clear e1 e2 e3 e4 e5 e6 hms hstart hRr hM hR H3 hu hi' hz' hs' hb' hcz hp;go_wp2;go_loopg [5,9] L (λk s5 s9 wr=>∃(i c:Nat) (ao:Option Addr) (l:List Mt),s5 = .slice ao l.length c∧s9 = .int .i64 (i:Nat)∧Ms w wr b a cap qb qp qh bp bm B0 i l ao c∧L≤i+k∧i≤L∧l.length≤i∧(0<r→l++mloop b R k i=M)∧(r≤0→l=M));case atStart=>exact⟨0,0,none,[],rfl,rfl,HS.o1,by omega,qba _,qag _,HS.o0⟩
 case round=>
  obtain⟨i,c,ao,l,rfl,rfl,hms,hik,hiL,hli,hpos,hneg⟩:=hrel;obtain⟨D,P,cnt,E,_⟩:=hms.en;have cb:=cell_of E.vb 0;simp only[qae,qaa]at cb;rw[<-H.o1]at cb;obtain⟨_,_,hsh,o1,o2,o3⟩:=qgr hms.own;simp only[qbn]at hsh;obtain⟨rfl,_,rfl⟩:=hsh;have hsl:=λw=>qfl matchTy l.length ao c o1 w
  have HMS:=zhd hms;have HO:=zhd2 hpos hneg;clear hms hpos hneg E;have hmi:IntKind.i64.wrap ((i:Int)+3)=(i:Int)+3:=IntWalk.i64_in _ (by omega);by_cases h3:i+3≤L
  ·by_cases h0:0<r
   ·have d1:decide ((i:Int)+3≤L)=true:=by simp;omega
    obtain⟨k,rfl⟩:∃k,gk=k+1:=⟨gk-1,by omega⟩;have hRr:=HR.out h0;obtain⟨wo,rfl⟩:∃wo:World,wo=wr:=⟨_,rfl⟩;obtain⟨⟨x1,x2⟩,hx⟩:∃x,x=best b R i:=⟨_,rfl⟩;have hbl:b.length=L:=H.o1.symm;obtain⟨D,P,cnt,E,hcnt,hmap,hrow⟩:=HMS.out.en;have ch:=cell_of E.vh 0;simp only[qae,qaa]at ch;obtain⟨q0,hq0⟩:=zex (last b i (three b i));have hth:∀x,Calls Tryz.prog 126 #[.slice (Option.map (λx=>x.add i) a) (L-i) (cap-i)] (wo.drewN x) λe w'=>e = .returned (.int .u32 (three b i:Nat))∧∃n,w'=(wo.drewN x).drewN n:=λx=>by have:=qoi (cutAtN a cap i 1) (cap-i) (b.drop i) (wo.drewN x) ((E.rd.drop i (by omega)).fr (Fr.drewN [] wo x)) (by rw[qau];omega);rw[qau,three_drop,qmv (by omega),hbl]at this;exact this
    have hlk:∀x,(Instr.lookup 188 (.map (some bm)) (.int .u32 (three b i:Nat)) true).run Tryz.prog (wo.drewN x) = .ok (.tuple #[.int .i64 (pq q0).1,.bool (pq q0).2]) (wo.drewN x):=λx=>by have:=qzx (qeh E.map ((Fr.drewN [] wo x).block _ E.map.lt (by simp))) hmap (qm9 b i);rw[<-hq0]at this;exact this
    have hk3:=qm9 b i;generalize three b i=kk at hth hlk hk3;have HX:=zhd3 hx hbl hq0;have HE:=zhd2 E hrow;have HTH:=zhd hth;clear hx hbl hq0 hth E hrow hmap hcnt;go_upto_region 9 with fail;go_quiet ((go_at_call 126;exact Calls.quiet_of (HTH.out _)));go_upto_block 2 with fail;clear hlk hk3 ch;go_cut [10,11,12,14,15] from 42 to 73 (λs10 s11 s12 s14 s15 wz=>s10 = .int .i64 x1∧s11 = .int .i64 x2∧Fr [] wo wz)
    case first=>
     cases q0 with
     | none=>
      have hx0:x1=0∧x2=0:=by have h1:=HX.out.1;unfold best at h1;rw[<-HX.out.2.2]at h1;simp only[chase,qa1]at h1;exact h1
      obtain⟨rfl,rfl⟩:=hx0;simp only[pq];go_wp2;refine wp_loop_rounds 1 ?_;rw[rounds_succ];go_wp2;go_meet;exact⟨rfl,rfl,Fr.drewN [] wo _⟩
     | some p0=>
      simp only[pq];go_wp2;go_loopg [10,11,12,14,15] 48 (λk s10 s11 s12 s14 s15 wz=>∃(n bb aa:Nat) (q:Option Nat),s10 = .int .i64 (bb:Nat)∧s11 = .int .i64 (aa:Nat)∧s12 = .int .i64 (pd q)∧s14 = .int .i64 (n:Nat)∧n+k=48∧(∀p,q=some p→p<i∧p+3≤L)∧chase b R i k q bb aa=(x1,x2)∧bb≤258∧Fr [] wo wz);case atStart=>exact⟨0,0,0,some p0,rfl,rfl,rfl,rfl,rfl,λp hp=>by have:=qld b _ _ _ (HX.out.2.2.symm.trans hp);rw[HX.out.2.1]at this;exact⟨this.1,this.2.1⟩,by have h1:=HX.out.1;unfold best at h1;rw[<-HX.out.2.2]at h1;exact h1.symm,by omega,Fr.drewN [] wo _⟩
      case round=>
       obtain⟨n,bb,aa,q,rfl,rfl,rfl,rfl,hn,hq,hch,hbb,hf⟩:=hrel;by_cases hn48:n<48
       ·obtain⟨k2,rfl⟩:∃k2,gk=k2+1:=⟨gk-1,by omega⟩;have d0:decide ((n:Int)<48)=true:=by simp;omega
        cases q with
        | none=>
         simp only[chase,qa1]at hch;obtain⟨rfl,rfl⟩:=hch;simp only[pd];have HF:=zhd hf;clear hf hq;go_wp2;go_meet;exact⟨rfl,rfl,HF.out⟩
        | some p=>
         obtain⟨hp1,hp2⟩:=hq p rfl;simp only[pd];by_cases hrange:i-p≤R
         ·have d2:decide ((i:Int)-p≤r)=true:=by simp;omega
          have hal:=λw' h=>qyo a cap p i b w' h (by omega) (by rw[HX.out.2.1];omega)
          rw[HX.out.2.1]at hal;have hsp:=(qja b p i (by rw[HX.out.2.1];omega)).1;have hpp:=HE.l1 p hp1 (by rw[HX.out.2.1];exact hp2);rw[zd7]at hpp;have hqn:∀p',last b p (three b p)=some p'→p'<i∧p'+3≤L:=λp' hp'=>by have:=qld b _ _ _ hp';rw[HX.out.2.1]at this;omega
          rw[chase,if_pos hrange]at hch;generalize last b p (three b p)=q' at hpp hqn hch;generalize alike b p i=al at hal hsp hch;have E2:=HE.o0.fr hf;have cb2:=cell_of E2.vb 0;have cp2:=cell_of E2.vp 0;have cr2:=cell_of E2.row p;simp only[qae,qaa]at cb2 cp2;rw[hpp]at cr2;rw[HX.out.2.1]at cb2 cp2;have HF:=zhd5 hf (hal _ E2.rd) hqn E2 (cr2.trans rfl);have c9:wr.cell? ⟨bp,p,none⟩=some (.int .i64 (pd q')):=cr2;clear hf hal hqn cr2 E2 hpp hq;by_cases hbest:bb<al
          ·have d3:decide (bb<al)=true:=by simpa using hbest
           rw[if_pos hbest]at hch;have HCH:=zhd hch;clear hch;go_upto_region 14 with (go_at_call 127;refine HF.out.2.1.mono ?_;rintro e wy ⟨rfl,fy⟩;have cp3:=fy.cell cp2 (by simp);have c10:=fy.cell c9 (by simp);have HY:=zhd fy;clear fy cp2 c9 cb2);go_wp2;go_roundg k2;case measure=>omega
           case rel=>exact⟨n+1,al,p,q',rfl,rfl,rfl,by go_num,by omega,HF.out.2.2.1,HCH.out,by omega,HF.out.1.trans HY.out⟩
          ·have d3:decide (bb<al)=false:=by simpa using hbest
           rw[if_neg hbest]at hch;have HCH:=zhd hch;clear hch;go_upto_region 14 with (go_at_call 127;refine HF.out.2.1.mono ?_;rintro e wy ⟨rfl,fy⟩;have cp3:=fy.cell cp2 (by simp);have c10:=fy.cell c9 (by simp);have HY:=zhd fy;clear fy cp2 c9 cb2);go_wp2;go_roundg k2;case measure=>omega
           case rel=>exact⟨n+1,bb,aa,q',rfl,rfl,rfl,by go_num,by omega,HF.out.2.2.1,HCH.out,by omega,HF.out.1.trans HY.out⟩
         ·have d2:decide ((i:Int)-p≤r)=false:=by simp;omega
          rw[chase,if_neg hrange]at hch;simp only[qa1]at hch;obtain⟨rfl,rfl⟩:=hch;have HF:=zhd hf;clear hf hq;go_wp2;go_meet;exact⟨rfl,rfl,HF.out⟩
       ·obtain rfl:n=48:=by omega
        obtain rfl:gk=0:=by omega
        simp only[chase,qa1]at hch;obtain⟨rfl,rfl⟩:=hch;have HF:=zhd hf;clear hf hq;go_wp2;go_meet;exact⟨rfl,rfl,HF.out⟩
    case rest=>
    obtain⟨rfl,rfl,hf⟩:=hcut;obtain⟨w5,rfl⟩:∃w5:World,w5=wc:=⟨_,rfl⟩;obtain⟨s,hs⟩:=zex (step b R i);obtain⟨nw,hnw⟩:∃nw:List Mt,nw=if 3≤x1 then [(i,x1,i-x2)] else []:=⟨_,rfl⟩
    have hsx:s=if 3≤x1 then x1 else 1:=by rw[hs];unfold step;rw[<-HX.out.1]
    have hML:l++(nw++mloop b R k (i+s))=M:=by have:=HO.o0 h0;rw[qt1 (by rw[HX.out.2.1];exact h3),<-hs,<-HX.out.1,<-hnw]at this;exact this
    have hb3:3≤x1→x2<i∧i+x1≤L∧x1≤258:=λh=>by obtain⟨k1,k2,k3⟩:=qpz b R i (by rw[<-HX.out.1];exact qal (by decide) h);rw[<-HX.out.1]at k1 k2 k3;obtain⟨m1,m2,_⟩:=qja b x2 i (by rw[HX.out.2.1];exact hiL);rw[<-k1]at m1 m2;rw[HX.out.2.1]at m2;exact⟨k2,m2,m1⟩
    have h5:=HMS.out.fr0 hf;have HML:=zhd4 hML hsx h5 hnw;have hsL:1≤s∧i+s≤L:=by
     rw[hsx];split
     ·rename_i h;have:=hb3 h;omega
     ·omega
    have hnl:nw.length≤1:=by rw[hnw];split<;>simp
    clear hML hs hsx h5 hf hnw;go_upto_if 74 with fail;go_cut [5,16] from 73 to 85 (λs5 s16 wz=>∃(a2:Option Addr) (c2 n2:Nat),s5 = .slice a2 n2 c2∧s16 = .int .i64 (s:Nat)∧n2=(l++nw).length∧Ms w wz b a cap qb qp qh bp bm B0 i (l++nw) a2 c2)
    case first=>
     have hsx:=HML.o1;by_cases hb:3≤x1
     ·obtain⟨hb1,hb2,hb4⟩:=hb3 hb;rw[if_pos hb]at hsx;subst hsx;have hnw:=HML.l3;rw[if_pos hb]at hnw;have d3:decide ((3:Int)≤(s:Int))=true:=by simp;omega
      obtain⟨dd,hdd⟩:=zex (i-x2);rw[<-hdd]at hnw;have hd:(i:Int)-(x2:Int)=(dd:Int):=by omega
      have HN:=zhd hnw;obtain⟨N,hN⟩:=zex l.length;rw[<-hN]at hli ⊢;have HNN:=zhd hN;clear hnw hb3 hN hdd hsl o1;go_wp2_with (refine qa5 matchTy rfl _ _ rfl (.slice ao N c) N (mcells l) (blk ao) rfl (qbp _ _ _) (by rw[HNN.out];exact HML.o2.own.alloc _) (some ⟨w5.heap.size,0,none⟩) 1 1 [.int .i64 i,.int .i64 s,.int .i64 dd] rfl (by omega) (by simp) (qgx w5 _ _ _) rfl (by simp[Value.oneCell']) (by omega) (by unfold maxLen;omega) ?_;intro a2 c2 w6 A2;have HA:=zhd A2;clear A2);go_meet;refine⟨a2,c2,_,rfl,rfl,by rw[qab,HN.out,HNN.out];rfl,?_⟩;rw[HN.out];exact HML.o2.push _ _ N HNN.out.symm HA.out
     ·rw[if_neg hb]at hsx;subst hsx;have hnw:=HML.l3;rw[if_neg hb]at hnw;have HN:=zhd hnw;have d3:decide ((3:Int)≤(x1:Int))=false:=by simp;omega
      clear hnw hb3;go_wp2;go_meet;exact⟨ao,c,_,rfl,rfl,by rw[HN.out,qb0],by rw[HN.out,qb0];exact HML.o2⟩
    case rest=>
    obtain⟨a2,c2,n2,rfl,rfl,hn2,h6⟩:=hcut;obtain⟨w6,rfl⟩:∃w6:World,w6=wc:=⟨_,rfl⟩;have H6:=zhd2 h6 hn2;clear h6 hn2 hb3 hsl cb;go_upto_block 4 with fail;go_wp2;go_loopg [9,86] s (λk s9 s86 wr=>∃j:Nat,s9 = .int .i64 ((i+j:Nat):Int)∧s86 = .int .i64 (j:Nat)∧j+k=s∧Ms w wr b a cap qb qp qh bp bm B0 (i+j) (l++nw) a2 c2);case atStart=>exact⟨0,rfl,rfl,by omega,H6.o0⟩
    case round=>
     obtain⟨j,rfl,rfl,hjs,h7⟩:=hrel;by_cases hj:j<s
     ·obtain⟨k2,rfl⟩:∃k2,gk=k2+1:=⟨gk-1,by omega⟩;have hen:=qxo b a cap qb qp qh bp bm (i+j) wr h7.en (by rw[HX.out.2.1];omega) (by rw[HX.out.2.1];exact hlen);have H7:=zhd2 h7 hen;clear h7 hen;go_wp2_with (go_at_call 125;refine H7.out.2.mono ?_;rintro e w8 ⟨rfl,f8,en8⟩;have H8:=zhd2 f8 en8;clear f8 en8);go_roundg k2;case measure=>omega
      case rel=>exact⟨j+1,by go_num,by go_num,by omega,H7.out.1.enter H8.o0 H8.l1⟩
     ·obtain rfl:j=s:=by omega
      have H7:=zhd h7;clear h7;go_wp2;go_roundg k;case measure=>omega
      case rel=>exact⟨i+j,c2,a2,l++nw,by rw[H6.l1],rfl,H7.out,by omega,hsL.2,by rw[qab];omega,λ_=>by rw[qat];exact HML.o0,λh=>by omega⟩
   ·have d1:decide ((i:Int)+3≤L)=true:=by simp;omega
    have d2:decide ((0:Int)<r)=false:=by simp;omega
    go_wp2;go_ret;exact⟨ao,by rw[<-HS.l2,<-HO.l1 (by omega)];rfl,by rw[<-HS.l2,<-HO.l1 (by omega)];exact qrc HMS.out.own,λhn=>by rw[<-HS.l2,<-HO.l1 (by omega)];have:=o3 hn;omega,λx hx=>qd3 HMS.out.own (qdv hx),HMS.out.fr⟩
  ·have d1:decide ((i:Int)+3≤L)=false:=by simp;omega
   have hlM:l=M:=by
    by_cases h0:0<r
    ·have:=HO.o0 h0;cases gk with
     | zero=>rw[<-this,mloop,qb0]
     | succ k=>rw[<-this,mloop,if_neg (by rw[<-H.o1];exact h3),qb0]
    ·exact HO.l1 (by omega)
   have HLM:=zhd hlM;clear hlM;go_wp2;go_ret;exact⟨ao,by rw[<-HS.l2,<-HLM.out];rfl,by rw[<-HS.l2,<-HLM.out];exact qrc HMS.out.own,λhn=>by rw[<-HS.l2,<-HLM.out];have:=o3 hn;omega,λx hx=>qd3 HMS.out.own (qdv hx),HMS.out.fr⟩
end Go.Proofs.YtbabjlohkniciaaGreatDoor.mat
namespace Go.Proofs.YtbabjlohkniciaaGreatDoor.defl
open Go Go.RowKit lib bm mat
inductive Tok where
 | lit (c:UInt8)
 | mat (n d:Nat)
def toks (b:List UInt8) (i:Nat) (l:List Mt):List Tok:=
 if h:i<b.length then
  match l with
  | (a,n,d)::t=>if hc:a=i∧0<n then .mat n d::toks b (i+n) t else .lit b[i]::toks b (i+1) ((a,n,d)::t)
  | []=>.lit b[i]::toks b (i+1) []
 else []
termination_by b.length-i
decreasing_by all_goals omega
theorem qjs {b:List UInt8} {i:Nat} {l:List Mt} (h:b.length≤i):toks b i l=[]:=by unfold toks;rw[dif_neg (by omega)]
theorem qjr {b:List UInt8} {i n d:Nat} {t:List Mt} (h:i<b.length) (hn:0<n):toks b i ((i,n,d)::t) = .mat n d::toks b (i+n) t:=by rw[toks,dif_pos h];dsimp only;rw[dif_pos ⟨rfl,hn⟩]
theorem qf6 {b:List UInt8} {i:Nat} {l:List Mt} (h:i<b.length) (hl:∀a n d t,l=(a,n,d)::t→a≠i):toks b i l = .lit b[i]::toks b (i+1) l:=by
 match l with
 | []=>rw[toks,dif_pos h]
 | (a,n,d)::t=>rw[toks,dif_pos h];dsimp only;rw[dif_neg (λhc=>hl a n d t rfl hc.1)]
theorem qi7 {b:List UInt8} {r e:Nat}:∀{l:List Mt},Chain b r e l→∀a n d t,l=(a,n,d)::t→a≠e→Chain b r (e+1) l
 | (a',n',d')::t',h,a,n,d,t,he,hne=>by simp only[qux,qa1]at he;obtain⟨⟨rfl,rfl,rfl⟩,rfl⟩:=he;exact⟨by have:=h.1;omega,h.2⟩
theorem qh1 (b:List UInt8) (i:Nat) (l:List Mt):(toks b i l).length≤b.length-i:=by
 obtain⟨k,hk⟩:=zex (b.length-i);induction k using Nat.strongRecOn generalizing i l with
 | ind k ih=>
  by_cases h:i<b.length
  ·match l with
   | []=>
    rw[qf6 h (λa n d t he=>by cases he)];have:=ih (b.length-(i+1)) (by omega) (i+1) [] rfl;simp only[qam];omega
   | (a,n,d)::t=>
    by_cases hc:a=i∧0<n
    ·obtain⟨rfl,hn⟩:=hc;rw[qjr h hn];have:=ih (b.length-(a+n)) (by omega) (a+n) t rfl;simp only[qam];omega
    ·rw[toks,dif_pos h];dsimp only;rw[dif_neg hc];have:=ih (b.length-(i+1)) (by omega) (i+1) ((a,n,d)::t) rfl;simp only[qam];omega
  ·rw[qjs (by omega)];exact qba _
def boxT (a al:Option Addr) (bl cap ll cl:Nat) (litV distV:Value) (told:Bool):Value:=.agg #[.slice a bl cap,.slice al ll cl,litV,distV,.bool told]
theorem qsz (fid:FuncId) (cv:Array Value) (eg:∀args w,(callFunc fid args).run Tryz.prog w = .ok (.enter fid args) w) (I:List Tok→List Nat→World→Prop) (F0:List Nat)
  (b:List UInt8) (a al:Option Addr) (cap cl r:Nat) (l:List Mt) (litV distV:Value) (told:Bool) (w:World) (hlit1:litV.oneCell'=true) (hdist1:distV.oneCell'=true)
  (hb:Rd w a cap b) (hl:Cs w al (mcells l)) (hlc:l.length≤cl) (hln:al=none→cl=0) (hcm:cl≤maxLen) (hch:Chain b r 0 l) (hr:r≤32768) (hblen:b.length≤1000000)
  (hF:∀x∈F0,x<w.heap.size∧x∉blk a∧x∉blk al)
  (hI0:∀w',Fr [] w w'→I [] F0 w')
  (hlit:∀t F c w',t.length<b.length→I t F w'→Calls Tryz.prog fid (#[.int .u8 (c:UInt8).toNat,.pointer none]++cv) w' λe w2=>e = .returned (.tuple #[])∧Fr F w' w2∧∃F',I (t++[.lit c]) F' w2∧∀y∈F',y∈F∨w'.heap.size≤y)
  (hmat:∀t F n d g o w',t.length<b.length→I t F w'→3≤n→n≤258→1≤d→d≤32768→g∉F→w'.cell? ⟨g,o+1,none⟩=some (.int .i64 (n:Nat))→w'.cell? ⟨g,o+2,none⟩=some (.int .i64 (d:Nat))→
   Calls Tryz.prog fid (#[.int .u8 0,.pointer (some ⟨g,o,none⟩)]++cv) w' λe w2=>e = .returned (.tuple #[])∧Fr F w' w2∧∃F',I (t++[.mat n d]) F' w2∧∀y∈F',y∈F∨w'.heap.size≤y) :
  Calls Tryz.prog 129 #[boxT a al b.length cap l.length cl litV distV told,.func (.func fid) #[] cv] w λe w'=>e = .returned (.tuple #[])∧Fr F0 w w'∧∃F,I (toks b 0 l) F w'∧∀y∈F,y∈F0∨w.heap.size≤y:=by
 obtain⟨BL,hBL⟩:=zex b.length;obtain⟨LL,hLL⟩:=zex l.length;rw[<-hBL]at hblen hlit hmat ⊢;rw[<-hLL]at hlc ⊢;obtain⟨w1,hw1⟩:=zex (w.alloc (.cells #[.slice a BL cap,.slice al LL cl,litV,distV,.bool told] 130 (0,0)));have f1:Fr [] w w1:=by rw[hw1];exact (Fr.refl [] w).alloc _
 have hz1:w1.heap.size=w.heap.size+1:=by rw[hw1,qav]
 have hbox:w1.heap[w.heap.size]?=some (.cells #[.slice a BL cap,.slice al LL cl,litV,distV,.bool told] 130 (0,0)):=by rw[hw1];exact qa4 w _
 have HB:=zhd9 (hb.fr f1) (hl.fr f1 (by simp)) hch hbox hz1 f1 hF hBL hLL;have HI:=zhd3 (hI0 w1 f1) hlit hmat;have HW:=zhd hw1.symm;obtain⟨B,hB⟩:=zex w.heap.size;have HBB:=zhd hB;clear hb hl hch hF hI0 hlit hmat hBL hLL hw1 f1 hz1 hbox hB;unfold boxT;go_enter Tryz.func129,Tryz.ntmps129;go_upto_block 0 with fail;have hcm2:cl≤9223372036854775807:=hcm;rw[HW.out,<-HBB.out];go_wp2;go_loopg [4,5] BL (λgk s4 s5 wr=>∃(i k:Nat) (done:List Tok) (F:List Nat),s5 = .int .i64 (i:Nat)∧s4 = .int .i64 (k:Nat)∧gk=BL-i∧i≤BL∧k≤LL∧done++toks b i (l.drop k)=toks b 0 l∧done.length≤i∧Chain b r i (l.drop k)∧I done F wr∧Fr F0 w1 wr∧∀y∈F,y∈F0∨w1.heap.size≤y);case atStart=>exact⟨0,0,[],F0,rfl,rfl,rfl,qba _,qba _,rfl,qag _,HB.out.2.2.1,HI.o0,.refl _ _,λy hy=>.inl hy⟩
 case round=>
  obtain⟨i,k,done,F,rfl,rfl,hk,hib,hkl,htk,hdl,hch,hI,hfr,hFn⟩:=hrel;obtain⟨hb,hl,hch0,hbox,hz1,f1,hF,hBL,hLL⟩:=HB.out;have hbx:=hfr.blk hbox (λhx=>by have:=(hF _ hx).1;omega);have c0:=cell_of hbx 0;have c1:=cell_of hbx 1;simp only[qae,qaa,qad]at c0 c1;rw[<-HBB.out]at c0 c1;have hB1:B∉F:=λhx=>by
   have:=HBB.out;rcases hFn B hx with q|q
   ·have:=(hF _ q).1;omega
   ·omega
  by_cases hi:i<BL
  ·have hil:i<b.length:=by rw[<-hBL];exact hi
   have hbr:=hb.frS hfr λx hx hx2=>(hF x hx2).2.1 hx
   obtain⟨ga,oa,rfl,hca⟩:=hbr.cs.at (by rw[qa8];omega);have d0:wr.cell? ⟨ga,oa+i,none⟩=some (.int .u8 (b[i]'hil).toNat):=hca i _ (by simp[hil,bv]);have hlr:=hl.fr hfr λx hx hx2=>(hF x hx2).2.2 hx
   by_cases hkk:k<LL
   ·have hkl':k<l.length:=by rw[<-hLL];exact hkk
    obtain⟨gl,ol,rfl,hcl⟩:=hlr.at (by rw[qh9];omega);obtain⟨m1,m2,m3⟩:=qo7 l k hkl';have hdrop:=qbm hkl';obtain⟨m,hm⟩:=zex (l[k]);rw[<-hm]at m1 m2 m3 hdrop;obtain⟨x,n,d⟩:=m;simp only at m1 m2 m3;have p1:wr.cell? ⟨gl,ol+k*3,none⟩=some (.int .i64 x):=hcl _ _ m1;have p2:wr.cell? ⟨gl,ol+k*3+1,none⟩=some (.int .i64 n):=hcl _ _ m2;have p3:wr.cell? ⟨gl,ol+k*3+2,none⟩=some (.int .i64 d):=hcl _ _ m3;rw[hdrop]at htk hch;have hgl:gl∉F:=λhx=>by
     have h1:=hl.lt (by intro h;have:=congrArg List.length h;rw[qh9]at this;simp at this;omega) ⟨gl,ol,none⟩ rfl;rcases hFn gl hx with q|q
     ·exact (hF gl q).2.2 (by simp[blk])
     ·have:=f1.size;simp only at h1;omega
    by_cases hxi:x=i
    ·subst hxi;obtain⟨h3,h258,h1,hdr,hdx,hxn,_,hch2⟩:3≤n∧n≤258∧1≤d∧d≤r∧d≤x∧x+n≤b.length∧True∧Chain b r (x+n) (l.drop (k+1)):=⟨hch.2.1,hch.2.2.1,hch.2.2.2.1,hch.2.2.2.2.1,hch.2.2.2.2.2.1,hch.2.2.2.2.2.2.1,trivial,hch.2.2.2.2.2.2.2.2⟩;have hcall:=HI.l2 done F n d gl (ol+k*3) wr (by omega) hI h3 h258 h1 (by omega) hgl p2 p3;have HJ:=zhd7 hcall hfr hFn htk hch2 hdl hk;have hxb:x+n≤1000000:=by omega
     have hxB:x+n≤BL:=by omega
     have hn3:0<n:=by omega
     clear hcall hfr hFn htk hch hch2 hdl hI hk hF hch0 hb hl hlr hcl hca hbr hbx m1 m2 m3 hdrop hm hxn h3 h258 h1 hdr hdx hz1 f1 hbox p3 hBL hLL;go_wp2;refine HJ.out.1.mono ?_;rintro e w2 ⟨rfl,f2,F2,hI2,hF2⟩;have c1b:=f2.cell c1 hB1;have p2b:=f2.cell p2 hgl;have H2:=zhd3 f2 hI2 hF2;clear f2 hI2 hF2 hB1 hgl c1 p2 c0 p1 eg;go_wp2;go_roundg (BL-(x+n));case measure=>have:=HJ.out.2.2.2.2.2.2;omega
     case rel=>
      obtain⟨_,hfr,hFn,htk,hch,hdl,hk⟩:=HJ.out;obtain⟨f2,hI2,hF2⟩:=H2.out;refine⟨x+n,k+1,done++[.mat n d],F2,by go_num,by go_num,rfl,hxB,by omega,?_,?_,hch,hI2,hfr.step f2 λy hy=>hFn y hy,λy hy=>?_⟩
      ·rw[qat,<-htk,qjr hil hn3];rfl
      ·rw[qab];simp only[qam,qbb];omega
      ·rcases hF2 y hy with q|q
       ·exact hFn y q
       ·exact .inr (qan hfr.size q)
    ·have hne:((x:Int)==(i:Int))=false:=by simp only[beq_eq_false_iff_ne];omega
     have hnx:∀a n' d' t,(x,n,d)::l.drop (k+1)=(a,n',d')::t→a≠i:=λa n' d' t he=>by simp only[qux,qa1]at he;rw[<-he.1.1];exact hxi
     have hch2:=qi7 (l:=(x,n,d)::l.drop (k+1)) hch _ _ _ _ rfl hxi;rw[qf6 hil hnx,<-hdrop]at htk;rw[<-hdrop]at hch2;clear p2 p3 hdrop hm m1 m2 m3 hgl hxi hnx hch hcl;have hcall:=HI.o1 done F (b[i]'hil) wr (by omega) hI;obtain⟨cc,hcc⟩:=zex (b[i]'hil);rw[<-hcc]at hcall d0 htk;obtain⟨cn,hcn⟩:=zex cc.toNat;rw[<-hcn]at hcall d0;have hiB:i+1≤BL:=hi;have hi6:i≤1000000:=by omega
     have HJ:=zhd8 hcall hfr hFn htk hch2 hdl hk hkl;clear hcall hfr hFn htk hch2 hdl hI hk hF hch0 hb hl hlr hca hbr hbx hz1 f1 hbox hBL hLL hB1 hcc hib hcn;go_wp2;refine HJ.out.1.mono ?_;rintro e w2 ⟨rfl,f2,F2,hI2,hF2⟩;have H2:=zhd3 f2 hI2 hF2;clear f2 hI2 hF2 c0 c1 d0 eg;go_wp2;go_roundg (BL-(i+1));case measure=>have:=HJ.out.2.2.2.2.2.2.1;omega
     case rel=>
      obtain⟨_,hfr,hFn,htk,hch,hdl,hk,hkl⟩:=HJ.out;obtain⟨f2,hI2,hF2⟩:=H2.out;refine⟨i+1,k,done++[.lit cc],F2,by go_num,rfl,rfl,hiB,hkl,?_,?_,hch,hI2,hfr.step f2 λy hy=>hFn y hy,λy hy=>?_⟩
      ·rw[qat];exact htk
      ·rw[qab];simp only[qam,qbb];omega
      ·rcases hF2 y hy with q|q
       ·exact hFn y q
       ·exact .inr (qan hfr.size q)
   ·have hnl:l.drop k=[]:=qed (by rw[<-hLL];omega);have hch2:Chain b r (i+1) (l.drop k):=by rw[hnl];trivial
    rw[qf6 hil (λa n' d' t he=>by rw[hnl]at he;cases he)]at htk;clear hch hnl;have hcall:=HI.o1 done F (b[i]'hil) wr (by omega) hI;obtain⟨cc,hcc⟩:=zex (b[i]'hil);rw[<-hcc]at hcall d0 htk;obtain⟨cn,hcn⟩:=zex cc.toNat;rw[<-hcn]at hcall d0;have hiB:i+1≤BL:=hi;have hi6:i≤1000000:=by omega
    have HJ:=zhd8 hcall hfr hFn htk hch2 hdl hk hkl;clear hcall hfr hFn htk hch2 hdl hI hk hF hch0 hb hl hlr hca hbr hbx hz1 f1 hbox hBL hLL hB1 hcc hib hcn;go_wp2;refine HJ.out.1.mono ?_;rintro e w2 ⟨rfl,f2,F2,hI2,hF2⟩;have H2:=zhd3 f2 hI2 hF2;clear f2 hI2 hF2 c0 c1 d0 eg;go_wp2;go_roundg (BL-(i+1));case measure=>have:=HJ.out.2.2.2.2.2.2.1;omega
    case rel=>
     obtain⟨_,hfr,hFn,htk,hch,hdl,hk,hkl⟩:=HJ.out;obtain⟨f2,hI2,hF2⟩:=H2.out;refine⟨i+1,k,done++[.lit cc],F2,by go_num,rfl,rfl,hiB,hkl,?_,?_,hch,hI2,hfr.step f2 λy hy=>hFn y hy,λy hy=>?_⟩
     ·rw[qat];exact htk
     ·rw[qab];simp only[qam,qbb];omega
     ·rcases hF2 y hy with q|q
      ·exact hFn y q
      ·exact .inr (qan hfr.size q)
  ·have HJ:=zhd4 hI hfr hFn htk;clear hI hfr hFn htk hch hF hch0 hb hl hbx hz1 f1 hbox hBL hLL hB1;go_wp2;(try simp only[Exit.inBlock,Exit.then]);refine bodyPost_end (results_none rfl _ _ _) rfl ?_;obtain⟨hI,hfr,hFn,htk⟩:=HJ.out;rw[qjs (by have:=HB.out.2.2.2.2.2.2.2.1;omega),qb0]at htk;rw[htk]at hI;have hB:=HBB.out;exact⟨rfl,(HB.out.2.2.2.2.2.1.mono (by simp)).trans hfr,F,hI,λy hy=>(hFn y hy).imp id λq=>qan HB.out.2.2.2.2.2.1.size q⟩
end Go.Proofs.YtbabjlohkniciaaGreatDoor.defl
namespace Go.Proofs.YtbabjlohkniciaaGreatDoor.huf
open Go
abbrev Coin:=Nat×List Nat
def packs:List Coin→List Coin
 | x::y::t=>(x.1+y.1,x.2++y.2)::packs t
 | _=>[]
def mrg:List Coin→List Coin→List Coin
 | [],p=>p
 | x::l,p=>go x l (mrg l) p
where go (x:Coin) (l:List Coin) (f:List Coin→List Coin):List Coin→List Coin
 | []=>x::l
 | y::p=>if x.1≤y.1 then x::f (y::p) else y::go x l f p
theorem qqq (p:List Coin):mrg [] p=p:=rfl
theorem qei (l:List Coin):mrg l []=l:=by cases l<;>rfl
theorem qsa {x y:Coin} {l p:List Coin} (h:x.1≤y.1):mrg (x::l) (y::p)=x::mrg l (y::p):=by show mrg.go x l (mrg l) (y::p)=_;rw[mrg.go,if_pos h]
theorem qsb {x y:Coin} {l p:List Coin} (h:¬x.1≤y.1):mrg (x::l) (y::p)=y::mrg (x::l) p:=by show mrg.go x l (mrg l) (y::p)=_;rw[mrg.go,if_neg h];rfl
def Sorted (l:List Coin):Prop:=l.Pairwise λa b=>a.1≤b.1
def sel:List Coin→List Coin→Nat→Nat×Nat
 | _,_,0=>(0,0)
 | [],p,m+1=>(0,min (m+1) p.length)
 | x::l,[],m+1=>(min (m+1) (l.length+1),0)
 | x::l,y::p,m+1=>if x.1≤y.1 then ((sel l (y::p) m).1+1,(sel l (y::p) m).2) else ((sel (x::l) p m).1,(sel (x::l) p m).2+1)
theorem qdf:∀(l p:List Coin),(mrg l p).length=l.length+p.length
 | [],p=>by simp[qqq]
 | x::l,[]=>by simp[qei]
 | x::l,y::p=>by
  by_cases h:x.1≤y.1
  ·rw[qsa h,qam,qdf l (y::p)];simp only[qam];omega
  ·rw[qsb h,qam,qdf (x::l) p];simp only[qam];omega
termination_by l p=>l.length+p.length
theorem qfk:∀(l p:List Coin) (m:Nat),m≤l.length+p.length→(sel l p m).1+(sel l p m).2=m∧(sel l p m).1≤l.length∧(sel l p m).2≤p.length
 | l,p,0,_=>by cases l<;>cases p<;>simp[sel]
 | [],p,m+1,h=>by simp[sel]at h ⊢;omega
 | x::l,[],m+1,h=>by simp[sel]at h ⊢;omega
 | x::l,y::p,m+1,h=>by
  simp only[qam]at h;by_cases hx:x.1≤y.1
  ·obtain⟨h1,h2,h3⟩:=qfk l (y::p) m (by simp only[qam];omega);rw[sel,if_pos hx];simp only[qam]at h3 ⊢;omega
  ·obtain⟨h1,h2,h3⟩:=qfk (x::l) p m (by simp only[qam];omega);rw[sel,if_neg hx];simp only[qam]at h2 ⊢;omega
termination_by l p m=>m
theorem qfe:∀(l p:List Coin) (m:Nat),((mrg l p).take m).Perm (l.take (sel l p m).1++p.take (sel l p m).2)
 | l,p,0=>by cases l<;>cases p<;>simp[sel]
 | [],p,m+1=>by
  rw[qqq,sel];simp only[qao,qck];rw[<-zay,qa9 (qag p.length)]
 | x::l,[],m+1=>by
  rw[qei,sel];simp only[List.take_nil,qb0];rw[<-zay,qa9 (show (x::l).length≤l.length+1 from qag _)]
 | x::l,y::p,m+1=>by
  by_cases hx:x.1≤y.1
  ·rw[qsa hx,sel,if_pos hx];simp only[qai,qc3];exact (qfe l (y::p) m).cons x
  ·rw[qsb hx,sel,if_neg hx];simp only[qai];exact ((qfe (x::l) p m).cons y).trans List.perm_middle.symm
termination_by l p m=>m
theorem qkp:∀(l p:List Coin) (m:Nat) (i j:Nat) (x y:Coin),Sorted l→l[i]?=some x→p[j]?=some y→x.1<y.1→j<(sel l p m).2→i<(sel l p m).1
 | l,p,0,i,j,x,y,_,_,_,_,h=>by cases l<;>cases p<;>simp[sel]at h
 | [],p,m+1,i,j,x,y,_,hx,_,_,_=>by simp at hx
 | x0::l,[],m+1,i,j,x,y,_,_,hy,_,_=>by simp at hy
 | x0::l,y0::p,m+1,i,j,x,y,hs,hx,hy,hxy,h=>by
  have hs':=qcb.1 hs;by_cases h0:x0.1≤y0.1
  ·rw[sel,if_pos h0]at h ⊢;cases i with
   | zero=>simp
   | succ i=>rw[qad]at hx;have:=qkp l (y0::p) m i j x y hs'.2 hx hy hxy h;simp only;omega
  ·rw[sel,if_neg h0]at h ⊢;cases j with
   | zero=>
    simp only[qaa,qas]at hy;subst hy;exfalso;cases i with
    | zero=>
     simp only[qaa,qas]at hx;subst hx;omega
    | succ i=>
     rw[qad]at hx;have:=hs'.1 x (qa6 hx);omega
   | succ j=>rw[qad]at hy;exact qkp (x0::l) p m i j x y hs hx hy hxy (by simpa using h)
termination_by l p m=>m
theorem qkq:∀(l p:List Coin) (m:Nat) (i j:Nat) (x y:Coin),Sorted l→l[i]?=some x→p[j]?=some y→(sel l p m).1≤i→j<(sel l p m).2→y.1<x.1
 | l,p,0,i,j,x,y,_,_,_,_,h=>by cases l<;>cases p<;>simp[sel]at h
 | [],p,m+1,i,j,x,y,_,hx,_,_,_=>by simp at hx
 | x0::l,[],m+1,i,j,x,y,_,_,hy,_,_=>by simp at hy
 | x0::l,y0::p,m+1,i,j,x,y,hs,hx,hy,hi,h=>by
  have hs':=qcb.1 hs;by_cases h0:x0.1≤y0.1
  ·rw[sel,if_pos h0]at h hi;cases i with
   | zero=>simp at hi
   | succ i=>rw[qad]at hx;exact qkq l (y0::p) m i j x y hs'.2 hx hy (by simpa using hi) h
  ·rw[sel,if_neg h0]at h hi;have hxx:x0.1≤x.1:=by
    cases i with
    | zero=>
     simp only[qaa,qas]at hx;rw[hx];exact qag _
    | succ i=>rw[qad]at hx;exact hs'.1 x (qa6 hx)
   cases j with
   | zero=>
    simp only[qaa,qas]at hy;subst hy;omega
   | succ j=>rw[qad]at hy;exact qkq (x0::l) p m i j x y hs hx hy hi (by simpa using h)
termination_by l p m=>m
theorem qg4:∀(l p:List Coin),Sorted l→Sorted p→Sorted (mrg l p)
 | [],p,_,hp=>hp
 | x::l,[],hl,_=>by rw[qei];exact hl
 | x::l,y::p,hl,hp=>by
  have hl':=qcb.1 hl;have hp':=qcb.1 hp;have mem:∀(a b:List Coin) z,z∈mrg a b→z∈a∨z∈b:=λa b z hz=>by
   have h1:=qfe a b (mrg a b).length;rw[qa9 (qag _)]at h1;rcases qbd.1 (h1.mem_iff.1 hz) with k|k
   ·exact .inl (qbu k)
   ·exact .inr (qbu k)
  by_cases h:x.1≤y.1
  ·rw[qsa h];refine qcb.2 ⟨λz hz=>?_,qg4 l (y::p) hl'.2 hp⟩;rcases mem _ _ z hz with k|k
   ·exact hl'.1 z k
   ·rcases qaw.1 k with k|k
    ·rw[k];exact h
    ·exact qan h (hp'.1 z k)
  ·rw[qsb h];refine qcb.2 ⟨λz hz=>?_,qg4 (x::l) p hl hp'.2⟩;rcases mem _ _ z hz with k|k
   ·rcases qaw.1 k with k|k
    ·rw[k];omega
    ·have:=hl'.1 z k;omega
   ·exact hp'.1 z k
termination_by l p=>l.length+p.length
theorem qda:∀l:List Coin,(packs l).length=l.length/2
 | []=>rfl
 | [x]=>by simp[packs]
 | x::y::t=>by rw[packs,qam,qda t];simp only[qam];omega
theorem qeg:∀(l:List Coin) (j:Nat) (y:Coin),(packs l)[j]?=some y→∃u v,l[2*j]?=some u∧l[2*j+1]?=some v∧y=(u.1+v.1,u.2++v.2)
 | [],j,y,h=>by simp[packs]at h
 | [x],j,y,h=>by simp[packs]at h
 | x::z::t,0,y,h=>by
  simp only[packs,qaa,qas]at h;exact⟨x,z,rfl,rfl,h.symm⟩
 | x::z::t,j+1,y,h=>by rw[packs,qad]at h;obtain⟨u,v,h1,h2,h3⟩:=qeg t j y h;exact⟨u,v,by rw[show 2*(j+1)=2*j+1+1 from by omega];exact h1,by rw[show 2*(j+1)+1=2*j+1+1+1 from by omega];exact h2,h3⟩
theorem qiu {l:List Coin} (h:Sorted l) {i j:Nat} {x y:Coin} (hi:l[i]?=some x) (hj:l[j]?=some y) (hij:i≤j):x.1≤y.1:=by
 obtain⟨h1,rfl⟩:=qbg.1 hi;obtain⟨h2,rfl⟩:=qbg.1 hj;by_cases e:i=j
 ·subst e;exact qag _
 ·exact zaz.1 h i j h1 h2 (by omega)
theorem qjk (l:List Coin) (h:Sorted l):Sorted (packs l):=by
 refine zaz.2 λi j hi hj hij=>?_
 obtain⟨u,v,h1,h2,h3⟩:=qeg l i _ (qaf hi);obtain⟨u',v',k1,k2,k3⟩:=qeg l j _ (qaf hj);rw[h3,k3];have a1:=qiu h h1 k1 (by omega);have a2:=qiu h h2 k2 (by omega);simp only;omega
theorem qk0:∀(l:List Coin) (p:Nat),p≤(packs l).length→((packs l).take p).flatMap (·.2)=(l.take (2*p)).flatMap (·.2)
 | l,0,_=>by simp
 | [],p+1,h=>by simp[packs]at h
 | [x],p+1,h=>by simp[packs]at h
 | x::y::t,p+1,h=>by rw[packs,show 2*(p+1)=2*p+1+1 from by omega];simp only[qai,qca,qat];rw[qk0 t p (by rw[packs,qam]at h;omega)]
def Pos (l:List Coin):Prop:=∀x∈l,0<x.1
theorem qv2 (l:List Coin) (h:Pos l):Pos (packs l):=by intro y hy;obtain⟨j,hj⟩:=List.getElem?_of_mem hy;obtain⟨u,v,h1,h2,rfl⟩:=qeg l j y hj;have:=h u (qa6 h1);simp only;omega
theorem qqr (a b:List Coin) (z:Coin) (hz:z∈mrg a b):z∈a∨z∈b:=by
 have h1:=qfe a b (mrg a b).length;rw[qa9 (qag _)]at h1;rcases qbd.1 (h1.mem_iff.1 hz) with k|k
 ·exact .inl (qbu k)
 ·exact .inr (qbu k)
def row (l:List Coin):Nat→List Coin
 | 0=>[]
 | k+1=>mrg l (packs (row l k))
theorem qiw (l:List Coin) (h:Sorted l):∀k,Sorted (row l k)
 | 0=>List.Pairwise.nil
 | k+1=>qg4 l _ h (qjk _ (qiw l h k))
theorem qqe (l:List Coin) (h:Pos l):∀k,Pos (row l k)
 | 0=>by intro x hx;cases hx
 | k+1=>by
  intro x hx;rcases qqr _ _ x hx with hx|hx
  ·exact h x hx
  ·exact qv2 _ (qqe l h k) x hx
theorem qix (l:List Coin) (k:Nat):(row l (k+1)).length=l.length+(row l k).length/2:=by rw[row,qdf,qda]
theorem qvp (l:List Coin) (L:Nat) (hn:l.length≤2^L):∀k,k≤L→2*l.length≤(row l (k+1)).length+2^(L-k)
 | 0,_=>by
  rw[qix,qod];show 2*l.length≤l.length+0/2+2^L;omega
 | k+1,h=>by
  have ih:=qvp l L hn k (by omega);rw[qix];have e:2^(L-k)=2*2^(L-(k+1)):=by rw[show L-k=L-(k+1)+1 from by omega,qcr,qcd]
  omega
def sl (l:List Coin) (k m:Nat):Nat×Nat:=sel l (packs (row l k)) m
def lenf (l:List Coin):Nat→Nat→Nat→Nat
 | 0,_,_=>0
 | k+1,m,i=>(if i<(sl l k m).1 then 1 else 0)+lenf l k (2*(sl l k m).2) i
theorem qqz (l:List Coin):∀k m i,lenf l k m i≤k
 | 0,_,_=>qag _
 | k+1,m,i=>by have:=qqz l k (2*(sl l k m).2) i;rw[lenf];split<;>omega
theorem qjf {l:List Coin} {m:Nat} {x:Coin} (h:x∈l.take m):∃t,t<m∧l[t]?=some x:=by
 obtain⟨t,ht⟩:=List.getElem?_of_mem h;rw[qbl]at ht;split at ht
 ·exact⟨t,by assumption,ht⟩
 ·cases ht
theorem qgv {l:List Coin} {m t:Nat} {x:Coin} (h:l[t]?=some x) (ht:t<m):x∈l.take m:=by refine qa6 (i:=t) ?_;rw[qbl,if_pos ht,h]
theorem zb5 (l:List Coin) (hs:Sorted l) (hp:Pos l) (k m i:Nat) (hm:m≤(row l (k+2)).length) (h:i<(sl l k (2*(sl l (k+1) m).2)).1):i<(sl l (k+1) m).1:=by
 have hm':m≤l.length+(packs (row l (k+1))).length:=by rw[row,qdf]at hm;exact hm
 obtain⟨_,_,hp3⟩:=qfk l (packs (row l (k+1))) m hm';change (sl l (k+1) m).2≤_ at hp3;rw[qda]at hp3;generalize hP:(sl l (k+1) m).2=P at *;have hr:2*P≤l.length+(packs (row l k)).length:=by
  have:(row l (k+1)).length=l.length+(packs (row l k)).length:=by rw[row,qdf]
  omega
 obtain⟨_,ha,_⟩:=qfk l (packs (row l k)) (2*P) hr;change (sl l k (2*P)).1≤_ at ha;have hil:i<l.length:=by omega
 have hx:l[i]?=some l[i]:=qaf hil;have hmem:l[i]∈(row l (k+1)).take (2*P):=by have h1:=qfe l (packs (row l k)) (2*P);rw[show mrg l (packs (row l k))=row l (k+1) from rfl]at h1;exact h1.mem_iff.2 (qbd.2 (.inl (qgv hx h)))
 obtain⟨t,ht,htx⟩:=qjf hmem;have hj:t/2<(packs (row l (k+1))).length:=by rw[qda];omega
 obtain⟨u,v,h1,h2,h3⟩:=qeg _ _ _ (qaf hj);have hpos:=qqe l hp (k+1);have hu:=hpos u (qa6 h1);have hv:=hpos v (qa6 h2);have hlt:l[i].1<((packs (row l (k+1)))[t/2]).1:=by
  rw[h3];simp only;rcases (show t=2*(t/2)∨t=2*(t/2)+1 from by omega) with e|e
  ·rw[e,h1]at htx;rw[<-qa2 htx];omega
  ·rw[e,h2]at htx;rw[<-qa2 htx];omega
 exact qkp l (packs (row l (k+1))) m i (t/2) l[i] _ hs hx (qaf hj) hlt (by
  change t/2<(sl l (k+1) m).2
  rw[hP]
  omega)
theorem qo9 (l:List Coin) (hs:Sorted l) (hp:Pos l):∀k m i,m≤(row l (k+1)).length→(sl l k m).1≤i→lenf l (k+1) m i=0
 | 0,m,i,_,h=>by rw[lenf,if_neg (by omega),lenf]
 | k+1,m,i,hm,h=>by
  have hm':m≤l.length+(packs (row l (k+1))).length:=by rw[row,qdf]at hm;exact hm
  obtain⟨_,_,hp3⟩:=qfk l (packs (row l (k+1))) m hm';change (sl l (k+1) m).2≤_ at hp3;rw[qda]at hp3;rw[lenf,if_neg (by omega),qbe];refine qo9 l hs hp k _ i (by omega) ?_;rcases qbq i (sl l k (2*(sl l (k+1) m).2)).1 with hc|hc
  ·have:=zb5 l hs hp k m i hm hc;omega
  ·exact hc
def sumTo:Nat→(Nat→Nat)→Nat
 | 0,_=>0
 | n+1,f=>sumTo n f+f n
theorem qhp {f g:Nat→Nat}:∀n,(∀i,i<n→f i=g i)→sumTo n f=sumTo n g
 | 0,_=>rfl
 | n+1,h=>by rw[sumTo,sumTo,qhp n λi hi=>h i (by omega),h n (by omega)]
theorem qkk (f:Nat→Nat) (c a:Nat):∀n,sumTo n (λi=>if i<a then f i else f i+c)=sumTo n f+(n-a)*c
 | 0=>by simp[sumTo]
 | n+1=>by
  rw[sumTo,sumTo,qkk f c a n];by_cases h:n<a
  ·rw[if_pos h,show n+1-a=0 from by omega,show n-a=0 from by omega];omega
  ·rw[if_neg h,show n+1-a=n-a+1 from by omega,qct,qut];omega
theorem qsf (l:List Coin) (hs:Sorted l) (hp:Pos l):∀k m,m≤(row l k).length→2*sumTo l.length (λi=>2^(k-lenf l k m i))+m*2^k=2*(l.length*2^k)
 | 0,m,hm=>by
  have:m=0:=by simpa[row] using hm
  subst this;have e:∀n,sumTo n (λi=>2^(0-lenf l 0 0 i))=n:=λn=>by
   induction n with
   | zero=>rfl
   | succ n ih=>rw[sumTo,ih];simp
  rw[e];omega
 | k+1,m,hm=>by
  have hm':m≤l.length+(packs (row l k)).length:=by rw[row,qdf]at hm;exact hm
  obtain⟨h1,h2,h3⟩:=qfk l (packs (row l k)) m hm';change (sl l k m).1+(sl l k m).2=m at h1;change (sl l k m).1≤_ at h2;change (sl l k m).2≤_ at h3;rw[qda]at h3;have ih:=qsf l hs hp k (2*(sl l k m).2) (by omega);have hstep:sumTo l.length (λi=>2^(k+1-lenf l (k+1) m i))=sumTo l.length (λi=>if i<(sl l k m).1 then 2^(k-lenf l k (2*(sl l k m).2) i) else 2^(k-lenf l k (2*(sl l k m).2) i)+2^k):=by
   refine qhp _ λi _=>?_
   by_cases hi:i<(sl l k m).1
   ·rw[if_pos hi,lenf,if_pos hi];congr 1;omega
   ·have hz:=qo9 l hs hp k m i hm (by omega);have hz2:=hz;rw[lenf,if_neg hi,qbe]at hz2;rw[if_neg hi,hz,hz2,qod,qod,qcr];omega
  rw[hstep,qkk];generalize sumTo l.length (λi=>2^(k-lenf l k (2*(sl l k m).2) i))=S at *;generalize (sl l k m).1=a at *;generalize (sl l k m).2=p at *;obtain⟨q,hq⟩:∃q,l.length=a+q:=⟨l.length-a,by omega⟩;rw[hq]at ih ⊢;rw[show a+q-a=q from by omega,<-h1,qcr];generalize 2^k=P at *;simp only[qct,qgi]at ih ⊢;have e1:2*p*P=2*(p*P):=qc1 _ _ _;have e2:a*(P*2)=2*(a*P):=by rw[<-qc1,qcd]
  have e3:p*(P*2)=2*(p*P):=by rw[<-qc1,qcd]
  have e4:q*(P*2)=2*(q*P):=by rw[<-qc1,qcd]
  omega
theorem qr8 (l:List Coin) (hs:Sorted l) (hp:Pos l) (X:Coin) (hn:2≤l.length) (hX:l[l.length-1]?=some X):∀k y,(packs (row l k))[l.length-2]?=some y→X.1≤y.1
 | 0,y,h=>by simp[row,packs]at h
 | k+1,y,h=>by
  rcases qbq y.1 X.1 with hc|hc
  ·exfalso;obtain⟨u,v,h1,h2,rfl⟩:=qeg _ _ _ h;have hu:=qqe l hp (k+1) u (qa6 h1);simp only at hc;have hvX:v.1<X.1:=by omega
   have hlen:2*(l.length-2)+1<(row l (k+1)).length:=(qbg.1 h2).1;have htaken:∀z∈(row l (k+1)).take (2*l.length-2),z.1≤v.1:=λz hz=>by obtain⟨t,ht,htz⟩:=qjf hz;exact qiu (qiw l hs (k+1)) htz h2 (by omega)
   have hperm:=qfe l (packs (row l k)) (2*l.length-2);rw[show mrg l (packs (row l k))=row l (k+1) from rfl]at hperm;have hrl:(row l (k+1)).length=l.length+(packs (row l k)).length:=by rw[row,qdf]
   obtain⟨s1,s2,s3⟩:=qfk l (packs (row l k)) (2*l.length-2) (by omega);have ha:(sel l (packs (row l k)) (2*l.length-2)).1≤l.length-1:=by
    rcases qbq (l.length-1) (sel l (packs (row l k)) (2*l.length-2)).1 with hc2|hc2
    ·have:=htaken X (hperm.mem_iff.2 (qbd.2 (.inl (qgv hX hc2))));omega
    ·exact hc2
   have hj:l.length-2<(packs (row l k)).length:=by omega
   have hy':=qaf hj;have h3:=qr8 l hs hp X hn hX k _ hy';have h4:=htaken _ (hperm.mem_iff.2 (qbd.2 (.inr (qgv hy' (show l.length-2<_ by omega)))));omega
  ·exact hc
theorem qyn (l:List Coin) (hs:Sorted l) (hp:Pos l) (k:Nat) (hn:2≤l.length) (hm:2*l.length-2≤(row l (k+1)).length):(sl l k (2*l.length-2)).1=l.length:=by
 have hX:l[l.length-1]?=some l[l.length-1]:=qaf (by omega);have hrl:(row l (k+1)).length=l.length+(packs (row l k)).length:=by rw[row,qdf]
 obtain⟨s1,s2,s3⟩:=qfk l (packs (row l k)) (2*l.length-2) (by omega);unfold sl;rcases qbq (sel l (packs (row l k)) (2*l.length-2)).1 l.length with hc|hc
 ·exfalso;have hj:l.length-2<(packs (row l k)).length:=by omega
  have hy:=qaf hj;have h1:=qkq l (packs (row l k)) (2*l.length-2) (l.length-1) (l.length-2) _ _ hs hX hy (by omega) (by omega);have h2:=qr8 l hs hp _ hn hX k _ hy;omega
 ·omega
theorem qzn (l:List Coin) (hs:Sorted l) (hp:Pos l) (L:Nat) (hL:1≤L) (hn:2≤l.length) (hnL:l.length≤2^L) :
  2*l.length-2≤(row l L).length∧(∀i,i<l.length→1≤lenf l L (2*l.length-2) i)∧sumTo l.length (λi=>2^(L-lenf l L (2*l.length-2) i))=2^L:=by
 obtain⟨k,rfl⟩:∃k,L=k+1:=⟨L-1,by omega⟩;have hb:=qvp l (k+1) hnL k (by omega);rw[show k+1-k=1 from by omega,Nat.pow_one]at hb;refine⟨by omega,λi hi=>?_,?_⟩
 ·have:=qyn l hs hp k hn (by omega);rw[lenf,if_pos (by omega)];omega
 ·have h1:=qsf l hs hp (k+1) (2*l.length-2) (by omega);obtain⟨q,hq⟩:∃q,l.length=q+1:=⟨l.length-1,by omega⟩;generalize sumTo l.length (λi=>2^(k+1-lenf l (k+1) (2*l.length-2) i))=S at *;rw[hq]at h1;generalize 2^(k+1)=P at *;rw[show 2*(q+1)-2=2*q from by omega,qc1,qct,qut]at h1;omega
def Stb {α:Type} (a b:List (Nat×α)):Prop:=∀k:Nat,a.filter (λx=>x.1==k)=b.filter λx=>x.1==k
theorem Stb.refl {α:Type} (a:List (Nat×α)):Stb a a:=λ_=>rfl
theorem Stb.symm {α:Type} {a b:List (Nat×α)} (h:Stb a b):Stb b a:=λk=>(h k).symm
theorem Stb.trans {α:Type} {a b c:List (Nat×α)} (h:Stb a b) (h':Stb b c):Stb a c:=λk=>(h k).trans (h' k)
theorem Stb.append {α:Type} {a b c d:List (Nat×α)} (h:Stb a b) (h':Stb c d):Stb (a++c) (b++d):=λk=>by rw[qeq,qeq,h k,h' k]
theorem Stb.swap {α:Type} {a b:List (Nat×α)} (h:∀x∈a,∀y∈b,y.1<x.1):Stb (a++b) (b++a):=λk=>by
 rw[qeq,qeq];by_cases ha:a.filter (λx=>x.1==k)=[]
 ·rw[ha];simp
 ·obtain⟨x,hx⟩:=List.exists_mem_of_ne_nil _ ha;have hx':=quv.1 hx;have e:x.1=k:=by simpa using hx'.2
  have hb:b.filter (λy=>y.1==k)=[]:=by
   refine List.filter_eq_nil_iff.2 λy hy=>?_
   have:=h x hx'.1 y hy;simp only[beq_iff_eq];omega
  rw[hb];simp
theorem Stb.mem {α:Type} {a b:List (Nat×α)} (h:Stb a b) (x:Nat×α):x∈a↔x∈b:=by
 have h1:x∈a↔x∈a.filter (λy=>y.1==x.1):=by simp[quv]
 have h2:x∈b↔x∈b.filter (λy=>y.1==x.1):=by simp[quv]
 rw[h1,h2,h x.1]
def Srt {α:Type} (l:List (Nat×α)):Prop:=l.Pairwise λa b=>a.1≤b.1
theorem qy2 {α:Type} {A1 A2 B1 B2 L R:List (Nat×α)} (hA:Srt (A1++A2)) (hB:Srt (B1++B2))
  (h1:∀x∈A2,∀y∈B1,y.1<x.1) (h2:∀x∈A1,∀y∈B2,x.1≤y.1)
  (hL:Srt L) (hLs:Stb L (A1++B1)) (hR:Srt R) (hRs:Stb R (A2++B2)) :
  Srt (L++R)∧Stb (L++R) (A1++A2++(B1++B2)):=by
 refine⟨qex.2 ⟨hL,hR,λx hx y hy=>?_⟩,?_⟩
 ·rcases qbd.1 ((hLs.mem x).1 hx) with a|a<;>rcases qbd.1 ((hRs.mem y).1 hy) with b|b
  ·exact (qex.1 hA).2.2 x a y b
  ·exact h2 x a y b
  ·exact Nat.le_of_lt (h1 y b x a)
  ·exact (qex.1 hB).2.2 x a y b
 ·refine (hLs.append hRs).trans ?_;have:=Stb.append (Stb.append (.refl A1) (Stb.symm (Stb.swap h1))) (.refl B2);simpa[qat] using this
theorem qzm {α:Type} {x:Nat×α} {B1 B2:List (Nat×α)} (hB:Srt (B1++B2)) (h1:∀y∈B1,y.1<x.1) (h2:∀y∈B2,x.1≤y.1) :
  Srt (B1++x::B2)∧Stb (B1++x::B2) (x::(B1++B2)):=by
 obtain⟨hb1,hb2,hb3⟩:=qex.1 hB;refine⟨qex.2 ⟨hb1,qcb.2 ⟨h2,hb2⟩,λa ha y hy=>?_⟩,?_⟩
 ·rcases qaw.1 hy with e|e
  ·rw[e];exact Nat.le_of_lt (h1 a ha)
  ·exact hb3 a ha y e
 ·have:=Stb.append (Stb.symm (Stb.swap (a:=[x]) (b:=B1) λa ha y hy=>by rw[qaz.1 ha];exact h1 y hy)) (.refl B2);simpa[qat] using this
theorem qvz {α:Type} {x:Nat×α} {A1 A2:List (Nat×α)} (hA:Srt (A1++A2)) (h1:∀y∈A1,y.1≤x.1) (h2:∀y∈A2,x.1<y.1) :
  Srt (A1++x::A2)∧Stb (A1++x::A2) (A1++A2++[x]):=by
 obtain⟨ha1,ha2,ha3⟩:=qex.1 hA;refine⟨qex.2 ⟨ha1,qcb.2 ⟨λy hy=>Nat.le_of_lt (h2 y hy),ha2⟩,λa ha y hy=>?_⟩,?_⟩
 ·rcases qaw.1 hy with e|e
  ·rw[e];exact h1 a ha
  ·exact ha3 a ha y e
 ·have:=Stb.append (.refl A1) (Stb.symm (Stb.swap (a:=A2) (b:=[x]) λa ha y hy=>by rw[qaz.1 hy];exact h2 a ha));simpa[qat] using this
theorem ql2:∀(a b:List Coin),Sorted a→Sorted b→Stb a b→a=b
 | [],[],_,_,_=>rfl
 | [],y::b,_,_,h=>absurd ((h.mem y).2 qb1) (by simp)
 | x::a,[],_,_,h=>absurd ((h.mem x).1 qb1) (by simp)
 | x::a,y::b,ha,hb,h=>by
  have hx:y.1≤x.1:=by
   rcases qaw.1 ((h.mem x).1 qb1) with e|e
   ·rw[e];exact qag _
   ·exact (qcb.1 hb).1 x e
  have hy:x.1≤y.1:=by
   rcases qaw.1 ((h.mem y).2 qb1) with e|e
   ·rw[e];exact qag _
   ·exact (qcb.1 ha).1 y e
  have he:x.1=y.1:=by omega
  have h1:=h x.1;rw[List.filter_cons_of_pos (by simp),List.filter_cons_of_pos (by simp[he])]at h1;have hxy:x=y:=(List.cons.inj h1).1;subst hxy;rw[ql2 a b (qcb.1 ha).2 (qcb.1 hb).2 λk=>?_];have h2:=h k;rw[List.filter_cons,List.filter_cons]at h2;split at h2
  ·exact (List.cons.inj h2).2
  ·exact h2
theorem qqp:∀(l p:List Coin),Sorted l→Stb (mrg l p) (l++p)
 | [],p,_=>by rw[qqq,qck];exact .refl _
 | x::l,[],_=>by rw[qei,qb0];exact .refl _
 | x::l,y::p,hs=>by
  by_cases h:x.1≤y.1
  ·rw[qsa h];exact Stb.append (.refl [x]) (qqp l (y::p) (qcb.1 hs).2)
  ·rw[qsb h];have h1:Stb (y::mrg (x::l) p) ([y]++((x::l)++p)):=Stb.append (.refl [y]) (qqp (x::l) p hs);refine h1.trans ?_;rw[<-qat,show (x::l)++y::p=((x::l)++[y])++p from by simp];refine Stb.append (Stb.symm (Stb.swap λa ha b hb=>?_)) (.refl p);rw[qaz.1 hb];rcases qaw.1 ha with e|e
   ·rw[e];omega
   ·have:=(qcb.1 hs).1 a e;omega
termination_by l p=>l.length+p.length
theorem qtf {l p r:List Coin} (hl:Sorted l) (hp:Sorted p) (hr:Sorted r) (h:Stb r (l++p)):r=mrg l p:=
 ql2 _ _ hr (qg4 l p hl hp) (h.trans (qqp l p hl).symm)
end Go.Proofs.YtbabjlohkniciaaGreatDoor.huf
