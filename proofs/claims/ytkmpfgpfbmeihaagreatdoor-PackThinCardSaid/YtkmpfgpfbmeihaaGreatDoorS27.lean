/-
  Texts of this proof, one behind the other: RsRes, ThinIn.
-/
import Derived.Test.YtkmpfgpfbmeihaaGreatDoorS26
import Derived.ScopeJumps
import Derived.RegionTactic
import Derived.BigRegion
set_option maxHeartbeats 16000000
set_option maxRecDepth 100000
set_option linter.unusedVariables false
set_option linter.unusedSimpArgs false
namespace Go.Proofs.YtkmpfgpfbmeihaaGreatDoor.pk
open Go Go.RowKit lib bm
theorem qm8:∀(W:List St) (i:Nat),(∀t,t<i→∃o d,W[t]?=some (some (.ok (o,d))))→W[i]?=some none→gather W = .error 61
 | [],i,_,h=>by simp at h
 | s::t,0,_,h=>by
  simp only[qac,qaw]at h;subst h;rfl
 | s::t,i+1,hb,h=>by obtain⟨o,d,h0⟩:=hb 0 (by omega);simp only[qac,qaw]at h0;subst h0;rw[gather,qm8 t i (λk hk=>by simpa using hb (k+1) (by omega)) (by simpa using h)]
theorem qk6:∀(W:List St) (i x:Nat),(∀t,t<i→∃o d,W[t]?=some (some (.ok (o,d))))→W[i]?=some (some (.error x))→gather W = .error x
 | [],i,_,_,h=>by simp at h
 | s::t,0,x,_,h=>by
  simp only[qac,qaw]at h;subst h;rfl
 | s::t,i+1,x,hb,h=>by obtain⟨o,d,h0⟩:=hb 0 (by omega);simp only[qac,qaw]at h0;subst h0;rw[gather,qk6 t i x (λk hk=>by simpa using hb (k+1) (by omega)) (by simpa using h)]
theorem qoh:∀(W:List St),(∀t,t<W.length→∃o d,W[t]?=some (some (.ok (o,d))))→∃os:List Obj,gather W = .ok os∧os.length=W.length∧∀(i:Nat) (o:Obj),os[i]?=some o→∃d,W[i]?=some (some (.ok (o,d)))
 | [],_=>⟨[],rfl,rfl,λi o h=>by simp at h⟩
 | s::t,hb=>by
  obtain⟨o,d,h0⟩:=hb 0 (by simp);simp only[qac,qaw]at h0;subst h0;obtain⟨os,h1,h2,h3⟩:=qoh t (λk hk=>by simpa using hb (k+1) (by simpa using hk));refine⟨o::os,by rw[gather,h1],by simp[h2],λi p hp=>?_⟩;cases i with
  | zero=>
   simp only[qac,qaw]at hp;exact⟨d,by simp[hp]⟩
  | succ i=>simpa using h3 i p (by simpa using hp)
def Objs (w:World) (a:Option Addr) (os:List Obj):Prop:=∀i o,os[i]?=some o→∃g k ba bc,a=some ⟨g,k,none⟩∧(∀j v,(objV o ba bc)[j]?=some v→w.cell? ⟨g,k+i*5+j,none⟩=some v)∧lib.Rd w ba bc o.body
def Resd (w:World) (n:Nat) (R:Except Nat (List Obj)) (e:Ending) (w':World):Prop:=Fr [] w w'∧match R with
 | .error x=>e = .returned (.tuple #[.slice none 0 0,.int .i64 x])
 | .ok os=>∃a c,e = .returned (.tuple #[.slice a n c,.int .i64 0])∧os.length=n∧Objs w' a os
structure RI (w wr:World) (g O S bt N:Nat) (gv:Value) (la:Option Addr) (ms:List EM) (kn:List Kn) (C D:Array Value) (W:List St):Prop where
 rb:Rb wr g O S gv (.map (some bt)) la ms C D
 sts:Sts wr O S C D (ms.map (·.1)) W
 told:Told wr O S bt N kn
 fr:Fr [] w wr
 new:w.heap.size≤O∧w.heap.size≤S∧w.heap.size≤bt
 und:Und (ms.map (·.1)) W
theorem Sts.fr0 {w w':World} {O S:Nat} {C D:Array Value} {l:List Ent} {W:List St} (h:Sts w O S C D l W) (f:Fr [] w w'):Sts w' O S C D l W:=
 ⟨h.len,λi s hs=>(h.st i s hs).keep (λ_ _=>rfl) (λ_ _=>rfl) (f.mono (by simp)),h.base⟩
theorem RI.off {w wr:World} {g O S bt N:Nat} {gv:Value} {la:Option Addr} {ms:List EM} {kn:List Kn} {C D:Array Value} {W:List St} (h:RI w wr g O S bt N gv la ms kn C D W):bt≠O∧bt≠S:=
 ⟨qdx (h.told.at_.ne h.rb.ob),qdx (h.told.at_.ne h.rb.sb)⟩
theorem RI.fr0 {w wr w2:World} {g O S bt N:Nat} {gv:Value} {la:Option Addr} {ms:List EM} {kn:List Kn} {C D:Array Value} {W:List St} (h:RI w wr g O S bt N gv la ms kn C D W) (f:Fr [] wr w2):RI w w2 g O S bt N gv la ms kn C D W:=
 ⟨h.rb.fr f,h.sts.fr0 f,h.told.fr (f.mono (by simp)) h.off.1 h.off.2,h.fr.trans f,h.new,h.und⟩
theorem RI.turn {w wr w2:World} {g O S bt N:Nat} {gv:Value} {la:Option Addr} {ms:List EM} {kn:List Kn} {C D C' D':Array Value} {W W':List St} (h:RI w wr g O S bt N gv la ms kn C D W) (f:Fr [O,S] wr w2) (rb:Rb w2 g O S gv (.map (some bt)) la ms C' D') (st:Sts w2 O S C' D' (ms.map (·.1)) W') (und:Und (ms.map (·.1)) W'):RI w w2 g O S bt N gv la ms kn C' D' W':=
 ⟨rb,st,h.told.fr f h.off.1 h.off.2,h.fr.step f (λy hy=>by have:=h.new;simp at hy;right;rcases hy with rfl|rfl<;>omega),h.new,und⟩
theorem RI.old {w wr w2:World} {g O S bt N N':Nat} {gv:Value} {la:Option Addr} {ms:List EM} {kn:List Kn} {C D:Array Value} {W:List St} (h:RI w wr g O S bt N gv la ms kn C D W) (f:Fr [bt] wr w2) (t:Told w2 O S bt N' kn):RI w w2 g O S bt N' gv la ms kn C D W:=
 ⟨h.rb.frM h.told.at_ f,h.sts.frM h.told.at_ f,t,h.fr.step f (λy hy=>by have:=h.new;simp at hy;right;omega),h.new,h.und⟩
theorem RI.asked {w wr w2:World} {g O S bt N N':Nat} {gv:Value} {la:Option Addr} {ms:List EM} {kn:List Kn} {C D C' D':Array Value} {W W':List St} (h:RI w wr g O S bt N gv la ms kn C D W) (f:Fr [O,S,bt] wr w2) (rb:Rb w2 g O S gv (.map (some bt)) la ms C' D') (st:Sts w2 O S C' D' (ms.map (·.1)) W') (t:Told w2 O S bt N' kn) (und:Und (ms.map (·.1)) W'):RI w w2 g O S bt N' gv la ms kn C' D' W':=
 ⟨rb,st,t,h.fr.step f (λy hy=>by have:=h.new;simp at hy;right;rcases hy with rfl|rfl|rfl<;>omega),h.new,und⟩
theorem Getter.up {w w1:World} {gv:Value} {kn:List Kn} {T:List Nat} (h:Getter w [] gv kn) (f:Fr [] w w1) (hT:∀x∈T,w.heap.size≤x):Getter w1 T gv kn:=by
 rcases h with h|⟨fid,cv,h1,h2,h3⟩
 ·exact .inl h
 ·exact .inr ⟨fid,cv,h1,h2,λid w2 hl f2=>h3 id w2 hl (f.step f2 (λx hx=>.inr (hT x hx)))⟩
structure RJ (w wr:World) (g O S bt N:Nat) (gv:Value) (la:Option Addr) (ms:List EM) (kn:List Kn) (C D:Array Value) (W:List St) (f:Nat) (R:Except Nat (List Obj)):Prop where
 ri:RI w wr g O S bt N gv la ms kn C D W
 fuel:undone W<f
 num:N+f*ms.length≤16785408
 res:R=gather (resF (ms.map (·.1)) kn f W)
def measR (a:Act) (w:World):Nat:=match a.tmps.getD 6 undef with
 | .pointer (some p)=>(match w.cell? ⟨p.block,2,none⟩ with
  | some (.slice (some s) n _)=>undM w s.block 4 n
  | _=>0)
 | _=>0
theorem qpk {a:Act} {w wr:World} {g O S bt N:Nat} {gv:Value} {la:Option Addr} {ms:List EM} {kn:List Kn} {C D:Array Value} {W:List St} (h6:a.tmps.getD 6 undef = .pointer (some ⟨g,0,none⟩)) (h:RI w wr g O S bt N gv la ms kn C D W):measR a wr=undone W:=by unfold measR;rw[h6];simp only;rw[cell_of h.rb.box];have:=h.sts.undM h.rb.sb;rw[qap]at this;exact this
theorem frame86 (a:Act) (h:a.tmps.size=86) (hd:a.defers=[]):∃u:Nat→Value,a=⟨#[u 0,u 1,u 2,u 3,u 4,u 5,u 6,u 7,u 8,u 9,u 10,u 11,u 12,u 13,u 14,u 15,u 16,u 17,u 18,u 19,u 20,u 21,u 22,u 23,u 24,u 25,u 26,u 27,u 28,u 29,u 30,u 31,u 32,u 33,u 34,u 35,u 36,u 37,u 38,u 39,u 40,u 41,u 42,u 43,u 44,u 45,u 46,u 47,u 48,u 49,u 50,u 51,u 52,u 53,u 54,u 55,u 56,u 57,u 58,u 59,u 60,u 61,u 62,u 63,u 64,u 65,u 66,u 67,u 68,u 69,u 70,u 71,u 72,u 73,u 74,u 75,u 76,u 77,u 78,u 79,u 80,u 81,u 82,u 83,u 84,u 85],[]⟩∧∀i,i<86→a.tmps[i]?=some (u i):=by
 obtain⟨t,d⟩:=a;simp only at h hd;subst hd;have key:t=((List.range 86).map λi=>t.getD i undef).toArray:=by
  apply Array.ext_getElem?;intro i;by_cases hi:i<86
  ·simp[hi,h]
  ·rw[Array.getElem?_eq_none (by omega),Array.getElem?_eq_none (by simp;omega)]
 refine⟨λi=>t.getD i undef,?_,λi hi=>?_⟩
 ·rw[Act.mk.injEq];exact⟨key,rfl⟩
 ·simp[h,hi]
theorem qoz {P:Program} {Q:Exit→Act→World→Prop} {a:Act} {w:World} {c c2:Code} (l:Nat) (J:Act→World→Prop) (μ:Act→World→Nat) (hf:findLabel c l=some (Code.seq Code.skip c2))
  (first:(∀a w,J a w→c2.wp P (Exit.jump l J Q) a w)→c.wp P (Exit.jump l J Q) a w) (main:∀a w,J a w→c2.wp P (Exit.jump l (λa' w'=>J a' w'∧μ a' w'<μ a w) Q) a w):(Code.scope c).wp P Q a w:=
 wp_scope_jumps l J μ hf (first λa w h=>Code.wp_mono (λe a w q=>by cases e<;>first|exact q|exact⟨q.1,q.2.1⟩) (main a w h)) (λa w h=>wp_seq (wp_skip (main a w h)))
def JR (w:World) (n:Nat) (gv:Value) (la:Option Addr) (ms:List EM) (kn:List Kn) (R:Except Nat (List Obj)) (a:Act) (w':World):Prop:=∃g O S bt C D W N f,a.tmps.size=86∧a.defers=[]∧a.tmps[0]?=some (.slice la n n)∧a.tmps[1]?=some gv∧a.tmps[4]?=some (.slice none 0 0)∧a.tmps[5]?=some (.int .i64 0)∧a.tmps[6]?=some (.pointer (some ⟨g,0,none⟩))∧
 RJ w w' g O S bt N gv la ms kn C D W f R
theorem qmh (gv:Value) (la:Option Addr) (ms:List EM) (kn:List Kn) (w:World) (h:Ents w la ms) (hfew:ms.length≤4096) (hg:Getter w [] gv kn) (hd:kn.Pairwise λa b=>a.id≠b.id) (hp:obj.Pw w)
  (hl:∀m∈ms,m.1.data.length≤2147483647) (hb:∀m∈ms,m.1.base.length≤40) (hof:∀x∈blk la,x<w.heap.size) (hof2:∀m∈ms,∀x∈blk m.2,x<w.heap.size) :
  Calls Tryz.prog 19 #[.slice la ms.length ms.length,gv] w (Resd w ms.length (resolve (ms.map (·.1)) kn)):=by
 obtain⟨n,hn⟩:=zex ms.length;obtain⟨R,hR⟩:=zex (resolve (ms.map (·.1)) kn);have hgs:gv = .nilFunc∨∃fid cv,gv = .func (.func fid) #[] cv:=by
  rcases hg with⟨rfl,_⟩|⟨fid,cv,rfl,_⟩
  ·exact .inl rfl
  ·exact .inr ⟨fid,cv,rfl⟩
 rw[<-hn]at hfew;rw[<-hn,<-hR];have H:=zhd10 h hn hg hd hp hl hb hof hof2 hR;clear h hn hg hd hp hl hb hof hof2 hR;obtain⟨Z1,hz1,mka⟩:=qya n (by omega);obtain⟨Z2,hz2,hz3,hz4,mkb⟩:=qst n (by omega);have HZ:=zhd4 hz1 hz2 hz3 hz4;clear hz1 hz2 hz3 hz4;go_enter Tryz.func19,Tryz.ntmps19;go_wp2;refine qoz 0 (JR w n gv la ms kn R) measR rfl ?first ?main
 case first=>
  intro main;have HP:=zhd main;clear main;have hmm:=@run_makeMap Tryz.prog;go_upto_region 1 with fail;go_cut [6] from 6 to 20 (λs6 wz=>∃g O S bt,s6 = .pointer (some ⟨g,0,none⟩)∧wz.heap[g]?=some (.cells #[.slice la n n,.slice (some ⟨O,0,none⟩) n n,.slice (some ⟨S,0,none⟩) n n,gv,.map (some bt)] 96 (0,0))∧
   wz.heap[O]?=some (.cells Z1 34 (0,0))∧wz.heap[S]?=some (.cells Z2 100 (0,0))∧wz.heap[bt]?=some (.map #[] 0)∧O≠S∧w.heap.size≤g∧w.heap.size≤O∧w.heap.size≤S∧w.heap.size≤bt∧g≠O∧g≠S∧Fr [] w wz)
  case first=>
   rcases hgs with rfl|⟨fid,cv,rfl⟩
   ·go_region;all_goals go_wp2
    all_goals go_meet
    all_goals refine⟨_,_,_,_,rfl,made4d w _ _ _ _,?_,?_,?_,?_,?_,?_,?_,?_,?_,?_,?_⟩
    all_goals first|exact made4a w _ _ _ _|exact made4b w _ _ _ _|exact made4c w _ _ _ _|omega|exact (((((Fr.refl [] w).alloc _).alloc _).alloc _).alloc _).drew
   ·go_region;all_goals go_wp2
    all_goals go_meet
    all_goals refine⟨_,_,_,_,rfl,made4d w _ _ _ _,?_,?_,?_,?_,?_,?_,?_,?_,?_,?_,?_⟩
    all_goals first|exact made4a w _ _ _ _|exact made4b w _ _ _ _|exact made4c w _ _ _ _|omega|exact (((((Fr.refl [] w).alloc _).alloc _).alloc _).alloc _).drew
  case rest=>
   obtain⟨g,O,S,bt,rfl,hbox,hob,hsb,hmb,hOS,hg0,hO0,hS0,hb0,hgO,hgS,hf⟩:=hcut;clear mka mkb hmm hgs;have hrb:Rb wc g O S gv (.map (some bt)) la ms Z1 Z2:=by
    obtain⟨h,hn,hg,hd,hp,hl,hb,hof,hof2,hR⟩:=H.out;refine⟨by rw[<-hn];exact hbox,h.fr hf,hob,by rw[HZ.o0,hn],hsb,by rw[HZ.o1,hn],hgO,hgS,hOS,λx hx=>?_,λm hm x hx=>?_,by omega⟩
    ·have:=hof x hx;exact⟨by omega,by omega⟩
    ·have:=hof2 m hm x hx;exact⟨by omega,by omega⟩
   have htold:Told wc O S bt 0 kn:=⟨_,0,qae _,⟨#[],0,hmb,⟨by simp,MapKept.stamped_empty 0,by simp⟩,qae _,rfl⟩,λid hi=>by cases hi⟩;have hst:=qw5 g O S gv (.map (some bt)) la ms Z1 Z2 wc hrb (λw' f=>H.out.2.2.2.2.1.fr (hf.step f (λy hy=>by simp at hy;right;rcases hy with rfl|rfl<;>omega))) H.out.2.2.2.2.2.1 (λt ht=>HZ.o2 t (by rw[H.out.2.1];exact ht)) (λt ht=>HZ.l3 t (by rw[H.out.2.1];exact ht));have start_ob:=zhd2 hrb.ob hrb.sb;have HS:=zhd6 hst htold hf hO0 hS0 hb0;clear hst htold hrb hbox hob hsb hmb hOS hg0 hO0 hS0 hb0 hgO hgS hf;go_upto_region 2 with fail;go_wp2_with (go_at_call 47;refine HS.o0.mono ?_;rintro e w2 ⟨rfl,C2,D2,hB⟩;have H2:=zhd hB;clear hB);go_step3;rename_i _ hK;have hres:R=gather (resF (ms.map (·.1)) kn (n+1) (firsts (ms.map (·.1)))):=by rw[H.out.2.2.2.2.2.2.2.2.2,resolve,qap,H.out.2.1]
   refine hK _ _ (HP.out _ w2 ⟨g,O,S,bt,C2,D2,firsts (ms.map (·.1)),0,n+1,rfl,rfl,rfl,rfl,rfl,rfl,rfl,⟨⟨H2.out.rb,H2.out.sts,?_,?_,HS.out.2.2.2,qu6 _⟩,?_,?_,hres⟩⟩)
   ·exact HS.o1.fr H2.out.fr (qdx (HS.o1.at_.ne (start_ob.o0))) (qdx (HS.o1.at_.ne (start_ob.l1)))
   ·exact HS.o2.step H2.out.fr (λy hy=>by have:=HS.out.2.2.2;simp at hy;right;rcases hy with rfl|rfl<;>omega)
   ·have:=qlx (firsts (ms.map (·.1)));rw[qhd,qap,<-H.out.2.1]at this;omega
   ·rw[<-H.out.2.1,qbg];exact qar (zdc (show n+1≤4097 by omega) hfew) (by decide)
 case main=>
  rintro a1 w1 ⟨g,O,S,bt,C,D,W,N,f,hsz,hdf,t0,t1,t4,t5,t6,hJ⟩;have hM:measR a1 w1=undone W:=qpk (by rw[Array.getD_eq_getD_getElem?,t6];rfl) hJ.ri;simp only[hM];obtain⟨u,rfl,hu⟩:=frame86 a1 hsz hdf;have e0:=qbm ((hu 0 (by decide)).symm.trans t0);have e1:=qbm ((hu 1 (by decide)).symm.trans t1);have e4:=qbm ((hu 4 (by decide)).symm.trans t4);have e5:=qbm ((hu 5 (by decide)).symm.trans t5);have e6:=qbm ((hu 6 (by decide)).symm.trans t6);rw[e0,e1,e4,e5,e6];clear e0 e1 e4 e5 e6 hu t0 t1 t4 t5 t6 hsz hdf hM hgs mka mkb;obtain⟨P,hP⟩:=zex (pass (ms.map (·.1)) n 0 W false);have HJ:=zhd2 hJ hP;clear hJ hP;go_wp2;go_loopg [7,25] n (λk s7 s25 wr=>∃i W' C' D' more,s7 = .bool more∧s25 = .int .i64 (i:Nat)∧i+k=n∧RI w wr g O S bt N gv la ms kn C' D' W'∧pass (ms.map (·.1)) k i W' more=P);case atStart=>exact⟨0,W,C,D,false,rfl,rfl,by omega,HJ.out.1.ri,HJ.out.2.symm⟩
  case round=>
   obtain⟨i,W',C',D',more,rfl,rfl,hik,hri,hpass⟩:=hrel;by_cases hi:i<n
   ·obtain⟨k,rfl⟩:∃k,gk=k+1:=⟨gk-1,by omega⟩;obtain⟨m,hm⟩:∃m,ms[i]?=some m:=⟨ms[i]'(by rw[<-H.out.2.1];omega),qai _⟩;have hlx:(ms.map (·.1))[i]?=some m.1:=by rw[qbl,hm];rfl
    obtain⟨s,hW⟩:∃s,W'[i]?=some s:=⟨W'[i]'(by rw[hri.sts.len,qap,<-H.out.2.1];omega),qai _⟩;rw[qxp (ms.map (·.1)) k i W' more m.1 hlx s hW]at hpass;have b2:=cell_of hri.rb.box 2;simp only[qag,qac,qaf]at b2;rw[<-H.out.2.1]at b2;have y0:wr.cell? ⟨S,i*4,none⟩=some (.bool s.isSome):=by rw[cell_of hri.rb.sb];exact (hri.sts.st i s hW).done
    cases s with
    | some z=>
     rw[if_neg (by simp)]at hpass;simp only[Option.isSome_some]at y0;have HR:=zhd2 hri hpass;clear hri hpass hm hlx hW;go_wp2;clear y0 b2;go_roundg k;case measure=>omega
     case rel=>exact⟨i+1,W',C',D',more,rfl,rfl,by omega,HR.o0,HR.l1⟩
    | none=>
     rw[if_pos rfl]at hpass;simp only[Option.isSome_none]at y0;have htry:=zeb g O S gv (.map (some bt)) la ms C' D' W' i m wr hri.rb hri.sts hm hW (λw' f'=>H.out.2.2.2.2.1.fr (hri.fr.step f' (λy hy=>by have:=hri.new;simp at hy;right;rcases hy with rfl|rfl<;>omega))) (hri.und i m.1 hlx hW);generalize try1 (ms.map (·.1)) W' i m.1=T at hpass htry;cases T with
     | none=>
      have HR:=zhd3 hri hpass htry;clear hri hpass htry hm hlx hW;go_wp2_with (go_at_call 48;refine HR.out.2.2.mono ?_;rintro e w2 ⟨rfl,f2⟩;have H2:=zhd f2;clear f2);clear y0 b2;go_roundg k;case measure=>omega
      case rel=>exact⟨i+1,W',C',D',more,rfl,rfl,by omega,HR.o0.fr0 H2.out,HR.l1.1⟩
     | some z=>
      have HR:=zhd3 hri hpass htry;clear hri hpass htry hm hlx hW;go_wp2_with (go_at_call 48;refine HR.out.2.2.mono ?_;rintro e w2 ⟨rfl,f2,C2,D2,hR2,hS2⟩;have H2:=zhd3 f2 hR2 hS2;clear f2 hR2 hS2);clear y0 b2;go_roundg k;case measure=>omega
      case rel=>exact⟨i+1,W'.set i (some z),C2,D2,true,rfl,rfl,by omega,HR.o0.turn H2.out.1 H2.out.2.1 H2.out.2.2 (HR.o0.und.set i z),HR.l1.1⟩
   ·obtain rfl:i=n:=by omega
    obtain rfl:gk=0:=by omega
    rw[pass]at hpass;obtain⟨f',rfl⟩:∃f',f=f'+1:=⟨f-1,by have:=HJ.out.1.fuel;omega⟩;have hRf:=HJ.out.1.res;have hfu:=HJ.out.1.fuel;have hnum:=HJ.out.1.num;rw[resF,qap,<-H.out.2.1,<-HJ.out.2,<-hpass]at hRf;simp only at hRf;obtain⟨hu1,hu2,hu3⟩:=qg8 (ms.map (·.1)) i 0 W false;rw[<-HJ.out.2,<-hpass]at hu1 hu2 hu3;simp only at hu1 hu2 hu3;rw[<-H.out.2.1,Nat.succ_mul]at hnum;cases more with
    | true=>
     rw[if_pos rfl]at hRf;have hlt:undone W'<undone W:=by
      rcases hu3 rfl with q|q;· cases q
      exact q
     have hfin:RJ w wr g O S bt N gv la ms kn C' D' W' f' R:=⟨hri,by omega,by rw[<-H.out.2.1];omega,hRf⟩;have HE:=zhd2 hfin hlt;clear hri hpass hRf hfu hnum hu1 hu2 hu3 hlt hfin;go_wp2;go_step3;refine⟨rfl,⟨g,O,S,bt,C',D',W',N,f',rfl,rfl,rfl,rfl,rfl,rfl,rfl,HE.o0⟩,?_⟩;rw[qpk rfl HE.o0.ri];exact HE.l1
    | false=>
     rw[if_neg (by simp)]at hRf;have hask:=zf0 g O S bt N gv la ms C' D' kn W' wr hri.rb hri.sts hri.told (H.out.2.2.1.up hri.fr (λy hy=>by have:=hri.new;simp at hy;rcases hy with rfl|rfl|rfl<;>omega)) H.out.2.2.2.1 (by omega) H.out.2.2.2.2.2.2.1 (λw' f'=>H.out.2.2.2.2.1.fr (hri.fr.step f' (λy hy=>by have:=hri.new;simp at hy;right;rcases hy with rfl|rfl|rfl<;>omega)));rw[<-H.out.2.1]at hask;obtain⟨K,hK⟩:=zex (ask (ms.map (·.1)) kn i 0 W');rw[<-hK]at hask hRf;cases K with
     | some W2=>
      obtain⟨ha1,ha2⟩:=qil (ms.map (·.1)) kn i 0 W' hK.symm;have hund:=Und.ask i 0 W' hri.und hK.symm;simp only at hRf;have hlt:undone W2<undone W:=by omega
      have HR:=zhd7 hri hask hRf hlt hund (show undone W2<f' by omega) hnum;clear hri hask hRf hlt hund hnum hpass hfu hu1 hu2 hu3 ha1 ha2 hK;go_wp2_with (go_at_call 49;refine HR.l1.1.mono ?_;rintro e w2 ⟨t2,rfl,f2,C2,D2,hR2,hS2⟩;have H2:=zhd4 f2 hR2 hS2 t2;clear f2 hR2 hS2 t2);go_step3;have hfin:RJ w w2 g O S bt (N+ms.length) gv la ms kn C2 D2 W2 f' R:=⟨HR.o0.asked H2.out.1 H2.out.2.1 H2.out.2.2.1 H2.out.2.2.2 HR.out.2.2.2.2.1,HR.out.2.2.2.2.2.1,by have:=HR.out.2.2.2.2.2.2;rw[<-H.out.2.1];omega,HR.out.2.2.1⟩;refine⟨rfl,⟨g,O,S,bt,C2,D2,W2,N+ms.length,f',rfl,rfl,rfl,rfl,rfl,rfl,rfl,hfin⟩,?_⟩;rw[qpk rfl hfin.ri];exact HR.out.2.2.2.1
     | none=>
      simp only at hRf;have HR:=zhd3 hri hask hRf;clear hri hask hRf hnum hpass hfu hu1 hu2 hu3 hK;go_wp2_with (go_at_call 49;refine HR.l1.1.mono ?_;rintro e w2 ⟨t2,rfl,f2⟩;have H2:=zhd (HR.o0.old f2 t2);clear f2 t2);go_loopg [50] i (λk s50 wr=>∃q:Nat,s50 = .int .i64 (q:Nat)∧q+k=i∧Fr [] w2 wr∧∀t,t<q→∃o d,W'[t]?=some (some (.ok (o,d))));case atStart=>exact⟨0,rfl,by omega,Fr.refl _ _,λt ht=>by omega⟩
      case round=>
       obtain⟨q,rfl,hqk,hfq,hq⟩:=hrel;have hri:=H2.out.fr0 hfq;by_cases hqi:q<i
       ·obtain⟨k,rfl⟩:∃k,gk=k+1:=⟨gk-1,by omega⟩;obtain⟨s,hW⟩:∃s,W'[q]?=some s:=⟨W'[q]'(by rw[hri.sts.len,qap,<-H.out.2.1];omega),qai _⟩;have b2:=cell_of hri.rb.box 2;simp only[qag,qac,qaf]at b2;rw[<-H.out.2.1]at b2;have hst:=hri.sts.st q s hW;match s,hst,hW with
        | none,hst,hW=>
         have y0:wr.cell? ⟨S,q*4,none⟩=some (.bool false):=by rw[cell_of hri.rb.sb];exact hst.1
         have hge:=qm8 W' q hq hW;have HX:=zhd2 hri hge;clear hri hst hW hge hq hfq;go_wp2;simp only[Exit.jump];go_ret2;refine⟨HX.out.1.fr,?_⟩;rw[HR.out.2.2,HX.out.2];rfl
        | some (.error x),hst,hW=>
         have y0:wr.cell? ⟨S,q*4,none⟩=some (.bool true):=by rw[cell_of hri.rb.sb];exact hst.1
         have y1:wr.cell? ⟨S,q*4+1,none⟩=some (.int .i64 x):=by rw[cell_of hri.rb.sb];exact hst.2.1
         have hx:=hst.2.2;have gx:((x:Int)!=0)=true:=by simp;omega
         have hge:=qk6 W' q x hq hW;have HX:=zhd2 hri hge;clear hri hst hW hge hq hfq hx;go_upto_region 17 with fail;go_quiet (fail);go_wp2;simp only[Exit.jump];go_ret2;refine⟨HX.out.1.fr.drewsN _,?_⟩;rw[HR.out.2.2,HX.out.2];rfl
        | some (.ok (o,d)),hst,hW=>
         have y0:wr.cell? ⟨S,q*4,none⟩=some (.bool true):=by rw[cell_of hri.rb.sb];exact hst.1
         have y1:wr.cell? ⟨S,q*4+1,none⟩=some (.int .i64 0):=by rw[cell_of hri.rb.sb];exact hst.2.1
         have gx:((0:Int)!=0)=false:=by decide
         have HX:=zhd3 hfq hq hW;clear hri hst hW hq hfq;go_wp2;go_roundg k;case measure=>omega
         case rel=>
          refine⟨q+1,rfl,by omega,HX.out.1,λt ht=>?_⟩;by_cases htq:t=q
          ·subst htq;exact⟨o,d,HX.out.2.2⟩
          ·exact HX.out.2.1 t (by omega)
       ·obtain rfl:q=i:=by omega
        have b1:=cell_of hri.rb.box 1;simp only[qag,qac,qaf]at b1;rw[<-H.out.2.1]at b1;have HX:=zhd2 hri hq;clear hri hq hfq;go_wp2;simp only[Exit.jump];go_ret2;have hri:=HX.out.1;obtain⟨os,g1,g2,g3⟩:=qoh W' (λt ht=>HX.out.2 t (by rw[hri.sts.len,qap,<-H.out.2.1]at ht;exact ht));refine⟨hri.fr,?_⟩;rw[HR.out.2.2,g1];refine⟨_,_,rfl,by rw[g2,hri.sts.len,qap,<-H.out.2.1],λj o ho=>?_⟩;obtain⟨d,hd⟩:=g3 j o ho;obtain⟨h0,h1,h2,h3,ba,bc,h4,h5,h6,h7⟩:=hri.sts.st j _ hd;refine⟨O,0,ba,bc,rfl,λi v hv=>?_,h5⟩;rw[qbg,cell_of hri.rb.ob];exact h4 i v hv
open huf
set_option maxRecDepth 100000
def thin0:List UInt8:=[115,111,109,101,119,104,97,116,32,108,111,110,103,101,114,32,116,104,97,110,32,110,111,116,104,105,110,103,32,97,116,32,97,108,108]
theorem zaz (w:World):OwnB (w.alloc (.cells #[.int .u8 115,.int .u8 111,.int .u8 109,.int .u8 101,.int .u8 119,.int .u8 104,.int .u8 97,.int .u8 116,.int .u8 32,.int .u8 108,.int .u8 111,.int .u8 110,.int .u8 103,.int .u8 101,.int .u8 114,.int .u8 32,.int .u8 116,.int .u8 104,.int .u8 97,.int .u8 110,.int .u8 32,.int .u8 110,.int .u8 111,.int .u8 116,.int .u8 104,.int .u8 105,.int .u8 110,.int .u8 103,.int .u8 32,.int .u8 97,.int .u8 116,.int .u8 32,.int .u8 97,.int .u8 108,.int .u8 108] 5 (35,36))) 5 (some ⟨w.heap.size,0,none⟩) 35 (thin0.map bv):=
 .inr ⟨w.heap.size,0,_,_,rfl,qay w _,.inr (by decide),by decide,by decide,by decide,rfl⟩
theorem zeq {w:World} {a:Option Addr} {n cap:Nat} {A:List UInt8} {X:Nat} (h:w.ownsRow 0 5 1 (.slice a n cap) n (A.map bv)) (hX:X<n) (hA:A.length=n) :
  ∃g,a=some ⟨g,0,none⟩∧w.cell? ⟨g,X,none⟩=some (bv (A[X]?.getD 0))∧w.frozen? ⟨g,X,none⟩=false∧∀v:UInt8,(w.setCell ⟨g,X,none⟩ (bv v)).ownsRow 0 5 1 (.slice a n cap) n ((A.set X v).map bv):=by
 obtain⟨h1,⟨e,h2⟩|⟨g,cp,cur,e,h2,hg,h3,h4,h5,h6⟩⟩:=h
 ·omega
 simp only[qbp]at e;obtain⟨rfl,_,rfl⟩:=e;rw[qce]at h5 h6;have hcX:cur[X]?=some (bv (A[X]?.getD 0)):=by have h7:=congrArg (λl=>l[X]?) h6;simp only[qbs,if_pos hX,qbz,qbl]at h7;rw[h7,qai (by omega)];rfl
 refine⟨g,rfl,by rw[cell_of hg,hcX],qau hg _,λv=>⟨by simpa using h1,.inr ⟨g,cap,cur.setIfInBounds X (bv v),rfl,qa5 _,qax hg _,h3,h4,by rw[qbf,qce];exact h5,?_⟩⟩⟩;rw[qce,Array.toList_setIfInBounds,List.take_set,h6,List.map_set]
theorem qt2 {w:World} {g n bc:Nat} {o:Obj} {ba:Option Addr} (hn:n=o.body.length) (h:w.heap[g]?=some (.cells #[.int .i64 o.kind,.slice ba n bc,.string (str o.id),.int .i64 o.at_,.int .u32 (o.crc:Nat)] 34 (0,0))) (hr:lib.Rd w ba bc o.body) :
  ORow w (some ⟨g,0,none⟩) 1 [(o,ba,bc)]:=by
 subst hn;refine⟨.inr ⟨g,0,rfl,λj u hj=>?_⟩,by simp,by decide,by simp,λm hm=>by simp at hm;rw[hm];exact hr⟩;rw[qbg,cell_of h];simpa[oL,objV] using hj
theorem qyh {w:World} {g:Nat} {k:Kn} (h:w.heap[g]?=some (.cells #[.int .i64 k.kind,.string (str k.body),.string (str k.id)] 63 (0,0))) (hl:k.body.length≤1000000):Knows w (some ⟨g,0,none⟩) 1 [k]:=by refine⟨.inr ⟨g,0,rfl,λj u hj=>?_⟩,by simp,by decide,by simp,λm hm=>by simp at hm;rw[hm];omega⟩;rw[qbg,cell_of h];simpa[knL] using hj
theorem PRead.one {w w':World} {x:Ent} {id:List UInt8} {e:Ending} (h:PRead w (.ok ([x],id)) e w'):Fr [] w w'∧∃a m,e = .returned (.tuple #[.slice a 1 1,.string (str id),.int .i64 0])∧m.1=x∧Ents w' a [m]∧(∀y∈blk a,y<w'.heap.size)∧∀y∈blk m.2,y<w'.heap.size:=by
 obtain⟨f,⟨y,hy,_⟩|⟨l',id',a,ms,hp,he,hm,hE,hb,_,hd⟩⟩:=h
 ·cases hy
 ·cases hp;match ms,hm with
  | [m],hm=>simp only[qak,qam,qwh,and_true]at hm;exact⟨f,a,m,he,hm,hE,λy hy=>(hb y hy).2,λy hy=>(hd m (by simp) y hy).2⟩
theorem zee (a:Option Addr) (cap:Nat) (seed:List UInt8) (x mm:Int) (w:World) (h:lib.Rd w a cap seed) (hp:obj.Pw w) (hm:w.cell? ⟨0,0,none⟩=some (.int .i64 mm)) :
  Calls Tryz.prog 7 #[.slice a seed.length cap,.int .i64 x] w λe w'=>e = .returned (.bool true)∧Fr [] w w':=by
 obtain⟨n,hn⟩:=zex seed.length;rw[<-hn];have hle:=h.le;have hmax:=h.max;rw[<-hn]at hle;unfold maxLen at hmax;have H:=zhd4 h hp hm hn;clear h hp hm hn;by_cases hl:500<n
 ·have g0:decide ((500:Int)<(n:Int))=true:=by simp;omega
  clear hl;go_enter Tryz.func7,Tryz.ntmps7;go_wp2_with (go_at_call 8;refine (qjz _).mono ?_;rintro e w1 ⟨rfl,f1⟩;have H1:=zhd f1;clear f1);go_ret;exact⟨rfl,H1.out⟩
 have g0:decide ((500:Int)<(n:Int))=false:=by simp;omega
 have hcv:∀w':World,(convert 23 23 (.slice (some ⟨w'.heap.size,0,none⟩) 35 35)).run Tryz.prog (w'.alloc (.cells #[.int .u8 115,.int .u8 111,.int .u8 109,.int .u8 101,.int .u8 119,.int .u8 104,.int .u8 97,.int .u8 116,.int .u8 32,.int .u8 108,.int .u8 111,.int .u8 110,.int .u8 103,.int .u8 101,.int .u8 114,.int .u8 32,.int .u8 116,.int .u8 104,.int .u8 97,.int .u8 110,.int .u8 32,.int .u8 110,.int .u8 111,.int .u8 116,.int .u8 104,.int .u8 105,.int .u8 110,.int .u8 103,.int .u8 32,.int .u8 97,.int .u8 116,.int .u8 32,.int .u8 97,.int .u8 108,.int .u8 108] 5)) = .ok (.slice (some ⟨w'.heap.size,0,none⟩) 35 35) (w'.alloc (.cells #[.int .u8 115,.int .u8 111,.int .u8 109,.int .u8 101,.int .u8 119,.int .u8 104,.int .u8 97,.int .u8 116,.int .u8 32,.int .u8 108,.int .u8 111,.int .u8 110,.int .u8 103,.int .u8 101,.int .u8 114,.int .u8 32,.int .u8 116,.int .u8 104,.int .u8 97,.int .u8 110,.int .u8 32,.int .u8 110,.int .u8 111,.int .u8 116,.int .u8 104,.int .u8 105,.int .u8 110,.int .u8 103,.int .u8 32,.int .u8 97,.int .u8 116,.int .u8 32,.int .u8 97,.int .u8 108,.int .u8 108] 5 (35,36))):=λw'=>Lib.run_convert_bytes_const (P:=Tryz.prog) w' 23 5 #[.int .u8 115,.int .u8 111,.int .u8 109,.int .u8 101,.int .u8 119,.int .u8 104,.int .u8 97,.int .u8 116,.int .u8 32,.int .u8 108,.int .u8 111,.int .u8 110,.int .u8 103,.int .u8 101,.int .u8 114,.int .u8 32,.int .u8 116,.int .u8 104,.int .u8 97,.int .u8 110,.int .u8 32,.int .u8 110,.int .u8 111,.int .u8 116,.int .u8 104,.int .u8 105,.int .u8 110,.int .u8 103,.int .u8 32,.int .u8 97,.int .u8 116,.int .u8 32,.int .u8 97,.int .u8 108,.int .u8 108] 35 35 Tryz.underlying23 Tryz.underlying5
 go_enter Tryz.func7,Tryz.ntmps7;have ho:=zaz w;have ra:=H.o0.fr ((Fr.refl [] w).alloc (.cells #[.int .u8 115,.int .u8 111,.int .u8 109,.int .u8 101,.int .u8 119,.int .u8 104,.int .u8 97,.int .u8 116,.int .u8 32,.int .u8 108,.int .u8 111,.int .u8 110,.int .u8 103,.int .u8 101,.int .u8 114,.int .u8 32,.int .u8 116,.int .u8 104,.int .u8 97,.int .u8 110,.int .u8 32,.int .u8 110,.int .u8 111,.int .u8 116,.int .u8 104,.int .u8 105,.int .u8 110,.int .u8 103,.int .u8 32,.int .u8 97,.int .u8 116,.int .u8 32,.int .u8 97,.int .u8 108,.int .u8 108] 5 (35,36)));have hnl:=H.l3;have H0:=zhd3 ho ra hnl;clear ho ra hnl;go_upto_region 4 with (at_builtin;refine qd9 sliceU8 rfl _ _ rfl (some ⟨w.heap.size,0,none⟩) 35 35 (thin0.map bv) rfl H0.o0 rfl a n cap (seed.map bv) rfl hle H0.o1.nil H0.o1.cs (by rw[qap,<-H0.l2]) (qc0 _) (by omega) (by unfold maxLen;omega) ?_;intro a5 c5 w5 M5;have H5:=zhd M5;clear M5);clear hcv;obtain⟨M,hM⟩:=zex (35+n);obtain⟨A0,hA0⟩:=zex (thin0++seed);have o5:=H5.out.own;rw[<-qbe,<-hA0]at o5;have f5:Fr [] w w5:=((Fr.refl [] w).alloc _).step H5.out.fr (λy hy=>.inr (by simp[blk]at hy;omega));have n5:∀y∈blk a5,w.heap.size≤y:=λy hy=>by
  rcases H5.out.at_ y hy with h|h
  ·simp[blk]at h;omega
  ·exact qar ((Fr.refl [] w).alloc _).size h
 have lA0:A0.length=M:=by rw[hA0,hM,H.l3,qab];rfl
 rw[<-hM];have hM1:M≤535:=by omega
 have hM0:35≤M:=by omega
 obtain⟨k5,m5,l5⟩:=o5.shape;rw[qap,lA0]at k5;have H6:=zhd5 o5 f5 n5 lA0 l5;clear o5 f5 n5 lA0 l5 hA0 hM H5 H0;go_upto_region 5 with (at_builtin;refine qd9 sliceU8 rfl _ _ rfl a5 M c5 (A0.map bv) rfl H6.o0 (by rw[qap];exact H6.o3) a5 M c5 (A0.map bv) rfl k5 H6.l4 H6.o0.cs (by rw[qap];exact H6.o3) (qc0 _) (by omega) (by unfold maxLen;omega) ?_;intro a6 c6 w6 M6;have H7:=zhd M6;clear M6);obtain⟨L,hL⟩:=zex (M+M);obtain⟨A,hA⟩:=zex (A0++A0);have o6:=H7.out.own;rw[<-qbe,<-hA]at o6;have f6:Fr [] w w6:=H6.o1.step H7.out.fr (λy hy=>.inr (H6.o2 y hy));have n6:∀y∈blk a6,w.heap.size≤y:=λy hy=>by
  rcases H7.out.at_ y hy with h|h
  ·exact H6.o2 y h
  ·exact qar H6.o1.size h
 have lA:A.length=L:=by rw[hA,hL,qab,H6.o3]
 rw[<-hL];have hL1:L≤1070:=by omega
 have hL0:70≤L:=by omega
 obtain⟨k6,m6,l6⟩:=o6.shape;rw[qap,lA]at k6;have H8:=zhd5 o6 f6 n6 lA l6;clear o6 f6 n6 lA l6 hA hL H6 H7 k5 m5 hM1 hM0;go_upto_region 6 with (at_builtin;refine qba sliceU8 rfl _ _ rfl (.slice (some ⟨w6.heap.size,0,none⟩) 0 0) 0 [] [w6.heap.size] rfl rfl ⟨rfl,.inr ⟨w6.heap.size,0,#[],rfl,qa5 _,qay _ _,qae _,qa5 _,rfl,rfl⟩⟩ a6 L c6 (A.map bv) rfl k6 H8.l4 (H8.o0.cs.fr ((Fr.refl [] w6).alloc _) (by simp)) (by rw[qap,qce];exact H8.o3) (qc0 _) (by omega) (by unfold maxLen;omega) ?_;intro a7 c7 w7 A7;simp only[qbg,qb4]at A7;have H9:=zhd A7;clear A7);have f67:Fr [] w6 w7:=((Fr.refl [] w6).alloc _).step H9.out.fr (λy hy=>.inr (by simp at hy;omega));have n7:∀y∈blk a7,w6.heap.size≤y:=λy hy=>by
  rcases H9.out.at_ y hy with h|h
  ·simp at h;omega
  ·rw[h,qa1];omega
 have lA:=H8.o3;have hc7:=H9.out.le;have hmc7:=H9.out.max;obtain⟨X,hX⟩:∃X:Nat,X=((x.tmod (L:Int)+L)%L).toNat:=⟨_,rfl⟩;have hXL:(x.tmod (L:Int)+L)%L=(X:Int)∧X<L∧-(L:Int)<x.tmod (L:Int)∧x.tmod (L:Int)<L:=by have k1:=Int.lt_tmod_of_pos x (show (0:Int)<L by omega);have k2:=Int.tmod_lt_of_pos x (show (0:Int)<L by omega);have k3:=Int.emod_nonneg (x.tmod (L:Int)+L) (show (L:Int)≠0 by omega);have k4:=Int.emod_lt_of_pos (x.tmod (L:Int)+L) (show (0:Int)<L by omega);omega
 obtain⟨e1,hX1,e2,e3⟩:=hXL;clear hX;obtain⟨g7,ha7,cX,zX,sX⟩:=zeq H9.out.own hX1 lA;obtain⟨v,hv⟩:∃v:UInt8,v=A[X]?.getD 0:=⟨_,rfl⟩;rw[<-hv]at cX;have hg7:w6.heap.size≤g7:=n7 g7 (by rw[ha7];simp[blk]);have H10:=zhd4 f67 lA sX hg7;clear f67 n7 lA sX hg7 hv H9;subst ha7;unfold bv at cX;have hvl:=qbc v;go_upto_region 8 with fail;obtain⟨B,hB⟩:=zex (A.set X (v+1));have hw8:((v.toNat:Int)+1)%256=((v+1).toNat:Int):=by rw[UInt8.toNat_add];rfl
 obtain⟨w8,hw8b⟩:=zex (w7.setCell ⟨g7,X,none⟩ (bv (v+1)));rw[hw8,show Value.int .u8 ((v+1).toNat:Int)=bv (v+1) from rfl,<-hw8b];have own8:=H10.o2 (v+1);rw[<-hw8b,<-hB]at own8;have f68:Fr [] w6 w8:=H10.o0.step (show Fr [g7] w7 w8 by rw[hw8b];exact (Fr.refl [g7] w7).setCell (by simp) _) (λy hy=>.inr (by simp at hy;rw[hy];exact H10.l3));obtain⟨rB,lB⟩:=qc1 (bs:=B) own8;have rA:lib.Rd w8 a6 c6 A:=(H8.o0.fr f68 (by simp)).rd;have f8:=H8.o1.trans f68;have lA:=H8.o3;obtain⟨ida,hida⟩:=zex (oid 3 A);obtain⟨idb,hidb⟩:=zex (oid 3 B);have iA:=λw'=>obj.qxg 3 A w' (by omega)
 have iB:=λw'=>obj.qxg 3 B w' (by omega)
 rw[<-hida]at iA;rw[<-hidb]at iB;obtain⟨sa,hsa⟩:=zex (str A);obtain⟨sb,hsb⟩:=zex (str B);rw[<-hsa]at iA;rw[<-hsb]at iB;have cvA:∀cap,(convert 23 9 (.slice a6 L cap)).run Tryz.prog w8 = .ok (.string sa) w8:=by rw[hsa];exact qde w8 Tryz.underlying23 Tryz.underlying5 Tryz.underlying9 lA rA.cs
 have H11:=zhd11 f8 rA rB lA lB iA iB hida hidb hsa hsb;clear f8 rA rB lA lB iA iB hida hidb hsa hsb f68 own8 hw8 hw8b hB H8 H10 e1 e2 e3 hX1 cX zX hvl k6 m6 hle hmax hl;unfold maxLen at hmc7;go_upto_region 9 with (first
  | (go_at_call 20;refine (H11.o5 _).mono ?_;rintro e w9 ⟨rfl,f9⟩;have H12:=zhd f9;clear f9)
  | (guard_target =~ wpList _ _ _ (⟨_,Op.store _ _ _,_,_,_,_⟩::_) _ _;refine wpList_store_row rfl 34 (.tmp 8) (.tmp 52) rfl w9.heap.size #[.int .i64 3,.slice a6 L c6,.string (str ida),.int .i64 0,.int .u32 0] rfl rfl 34 _ (qay _ _) infoObj rfl (by kernel_rfl) ?_))
 clear cvA;simp only[Act.put];generalize hwA:World.setRow _ _ _=wA;obtain⟨P,hP⟩:=zex w9.heap.size;rw[<-hP]at hwA ⊢;have hPA:wA.heap[P]?=some (.cells #[.int .i64 3,.slice a6 L c6,.string (str ida),.int .i64 0,.int .u32 0] 34 (0,0)):=by rw[<-hwA,hP];exact setRow_heap _ _ _ _ _ _ (qay _ _)
 have fA:Fr [] w8 wA:=H12.out.trans (by rw[<-hwA,hP];exact ((Fr.refl [] w9).alloc _).setRow (.inr (qae _)) _);have cvB:∀cap,(convert 23 9 (.slice (some ⟨g7,0,none⟩) L cap)).run Tryz.prog wA = .ok (.string sb) wA:=by rw[H11.l10];exact qde wA Tryz.underlying23 Tryz.underlying5 Tryz.underlying9 H11.o4 (H11.o2.fr fA).cs
 have HA:=zhd2 hPA fA;clear hPA fA hwA hP H12;go_upto_region 10 with (first
  | (go_at_call 20;refine (H11.o6 _).mono ?_;rintro e wB ⟨rfl,fB⟩;have H12:=zhd fB;clear fB)
  | (guard_target =~ wpList _ _ _ (⟨_,Op.store _ _ _,_,_,_,_⟩::_) _ _;refine wpList_store_row rfl 34 (.tmp 9) (.tmp 57) rfl wB.heap.size #[.int .i64 3,.slice (some ⟨g7,0,none⟩) L c7,.string (str idb),.int .i64 0,.int .u32 0] rfl rfl 34 _ (qay _ _) infoObj rfl (by kernel_rfl) ?_))
 clear cvB;simp only[Act.put];generalize hwC:World.setRow _ _ _=wC;obtain⟨Q,hQ⟩:=zex wB.heap.size;rw[<-hQ]at hwC ⊢;have hQC:wC.heap[Q]?=some (.cells #[.int .i64 3,.slice (some ⟨g7,0,none⟩) L c7,.string (str idb),.int .i64 0,.int .u32 0] 34 (0,0)):=by rw[<-hwC,hQ];exact setRow_heap _ _ _ _ _ _ (qay _ _)
 have fC:Fr [] wA wC:=H12.out.trans (by rw[<-hwC,hQ];exact ((Fr.refl [] wB).alloc _).setRow (.inr (qae _)) _);have hPC:=fC.blk HA.o0 (by simp);have p2:=cell_of hPC 2;have q2:=cell_of hQC 2;simp only[qag,qac,qaf]at p2 q2;have fwC:=H11.o0.trans (HA.l1.trans fC);have HC:=zhd4 hPC hQC fwC (HA.l1.trans fC);clear hPC hQC fC fwC hwC hQ H12 HA;by_cases heq:idb=ida
 ·have hs:(str idb).toList=(str ida).toList:=by rw[heq]
  go_wp2_with (go_at_call 8;refine (qjz _).mono ?_;rintro e wD ⟨rfl,fD⟩;have HD:=zhd fD;clear fD);go_ret;exact⟨rfl,HC.o2.trans HD.out⟩
 have hs:((str idb).toList==(str ida).toList)=false:=by rw[str_toList,str_toList];simpa using heq
 go_upto_region 12 with fail;clear p2 q2 hs;have hid3:∀Z:List UInt8,oid 3 Z=hexb (sha.sha1 (obj.header 3 Z.length++Z)):=λ_=>rfl
 have hne:idb≠ida:=heq;have lA:=H11.o3;have lB:=H11.o4;have hidl:∀Z:List UInt8,(oid 3 Z).length=40:=λZ=>by rw[hid3,hexb_length,sha.qck]
 have hwr:∀wD,Fr [] wC wD→wD.heap[wC.heap.size]?=some (.cells #[.int .i64 3,.slice (some ⟨g7,0,none⟩) L c7,.string (str idb),.int .i64 0,.int .u32 0] 34 (0,0))→wD.heap[wC.heap.size+1]?=some (.cells #[.int .i64 3,.slice a6 L c6,.string (str ida),.int .i64 0,.int .u32 0] 34 (0,0))→
   Calls Tryz.prog 15 #[.slice (some ⟨wC.heap.size,0,none⟩) 1 1,.slice (some ⟨wC.heap.size+1,0,none⟩) 1 1] wD (PackE wD 3 (sha.sha1 (obj.header 3 A.length++A)) A B):=λwD fD h1 h2=>
  qu1 (some ⟨wC.heap.size,0,none⟩) (some ⟨wC.heap.size+1,0,none⟩) 1 1 (⟨3,B,idb,0,0⟩,some ⟨g7,0,none⟩,c7) (⟨3,A,ida,0,0⟩,a6,c6) 3 (sha.sha1 (obj.header 3 A.length++A)) mm wD
   (qt2 lB.symm h1 (H11.o2.fr (HC.l3.trans fD))) (qt2 lA.symm h2 (H11.o1.fr (HC.l3.trans fD))) (H.o1.fr (HC.o2.trans fD))
   ⟨by show obj.kname 3≠[];decide,by show B.length≤_;omega,H11.o8.symm⟩ ⟨by show obj.kname 3≠[];decide,by show A.length≤_;omega,H11.o7.symm⟩ hne
   (by show idb.length≤_;rw[H11.o8,hidl];decide) rfl rfl (by decide) (by show ida=_;rw[H11.o7,hid3]) (sha.qck _) ((HC.o2.trans fD).cell H.o2 (by simp))
 have HW:=zhd hwr;clear hwr hne hidl;go_upto_region 17 with (first
  | (guard_target =~ wpList _ _ _ (⟨_,Op.load _ (.tmp 9),_,_,_,_⟩::_) _ _;refine wpList_load_row rfl 34 (.tmp 9) rfl Q rfl 34 #[.int .i64 3,.slice (some ⟨g7,0,none⟩) L c7,.string (str idb),.int .i64 0,.int .u32 0] (0,0) _ HC.o1 Tryz.underlying34 rfl infoObj ?_)
  | (guard_target =~ wpList _ _ _ (⟨_,Op.load _ (.tmp 8),_,_,_,_⟩::_) _ _;refine wpList_load_row rfl 34 (.tmp 8) rfl P rfl 34 #[.int .i64 3,.slice a6 L c6,.string (str ida),.int .i64 0,.int .u32 0] (0,0) _ (((Fr.refl [] wC).alloc _).blk HC.o0 (by simp)) Tryz.underlying34 rfl infoObj ?_)
  | (go_at_call 15;refine (HW.out _ (((Fr.refl [] wC).alloc _).alloc _) (((Fr.refl [] _).alloc _).blk (qay wC _) (by simp)) (by have:=qay (wC.alloc (.cells #[.int .i64 3,.slice (some ⟨g7,0,none⟩) L c7,.string (str idb),.int .i64 0,.int .u32 0] 34)) (.cells #[.int .i64 3,.slice a6 L c6,.string (str ida),.int .i64 0,.int .u32 0] 34);rw[qa1]at this;exact this)).mono ?_;rintro e wE ⟨E,hE,hEl,ae,rfl,re,ne,fe⟩;obtain⟨y,y1,y2,y3⟩:=qu7 hE hEl (sha.qck _) (by omega) (by omega) (hid3 A);have ysm:=qsg y1;generalize head1++E++sha.sha1 (head1++E)=pk at re y1 ysm ⊢;generalize hexb (sha.sha1 (head1++E))=pid at y1 ysm;have hrd:=qli ae pk.length pk wE re;rw[y1]at hrd;generalize pk.length=np at hrd ⊢;rw[<-hid3,<-H11.o7]at y2 y3;have HE:=zhd5 hrd y2 y3 (ysm y (by simp)) (HC.l3.trans ((((Fr.refl [] wC).alloc _).alloc _).trans fe));have HG:=zhd ((((Fr.refl [] wC).alloc _).alloc _).trans fe);have HF:=zhd (HC.o2.trans ((((Fr.refl [] wC).alloc _).alloc _).trans fe));clear hE hEl re ne fe y1 y2 y3 ysm hrd)
  | (go_at_call 18;refine HE.o0.mono ?_;intro e wF hF;obtain⟨fF,la,ms,rfl,hmx,eF,lF,mF⟩:=PRead.one hF;have H13:=zhd5 hmx eF lF mF fF;have hPF:=(HG.out.trans fF).blk HC.o0 (by simp);have p2:=cell_of hPF 2;simp only[qag,qac,qaf]at p2;have cvA:∀cap,(convert 23 9 (.slice a6 L cap)).run Tryz.prog wF = .ok (.string sa) wF:=(by rw[H11.o9];exact qde wF Tryz.underlying23 Tryz.underlying5 Tryz.underlying9 lA (H11.o1.fr (HE.l4.trans fF)).cs);clear hF fF hmx eF lF mF hPF)
  | (go_at_call 25;refine (zfp (some ⟨wF.heap.size,0,none⟩) 1 [⟨3,A,ida⟩] _ (qyh (by have:=qay wF (.cells #[.int .i64 3,.string sa,.string (str ida)] 63);rw[H11.o9]at this ⊢;exact this) (by show A.length≤_;omega)) (by simp)).mono ?_;rintro e w1 ⟨gv,rfl,f1,hg⟩;have H14:=zhd2 hg (((Fr.refl [] wF).alloc _).trans f1);clear hg f1)
  | (go_at_call 19;have hR:=qmh gv la [ms] [⟨3,A,ida⟩] w1 (H13.out.2.1.fr H14.l1) (by simp) H14.o0 (by simp) (H.o1.fr (HF.out.trans (H13.out.2.2.2.2.trans H14.l1))) (by intro m hm;simp at hm;rw[hm,H13.out.1];have:=HE.o3.1;omega) (by intro m hm;simp at hm;rw[hm,H13.out.1];exact HE.o3.2) (λy hy=>qat (H13.out.2.2.1 y hy) H14.l1.size) (by intro m hm y hy;simp at hm;rw[hm]at hy;exact qat (H13.out.2.2.2.1 y hy) H14.l1.size);rw[show [ms].map (·.1)=[y] by simp[H13.out.1],HE.o1]at hR;refine hR.mono ?_;rintro e w2 ⟨f2,oa,oc,rfl,_,ob⟩;have H15:=zhd2 ob (H14.l1.trans f2);clear hR ob f2))
 clear p2 cvA;have hres:Calls Tryz.prog 19 #[.slice la 1 1,.nilFunc] w2 (Resd w2 1 (resolve [y] [])):=by have hR:=qmh .nilFunc la [ms] [] w2 (H13.out.2.1.fr H15.out.2) (by simp) (.inl ⟨rfl,rfl⟩) (by simp) (H.o1.fr (HF.out.trans (H13.out.2.2.2.2.trans H15.out.2))) (by intro m hm;simp at hm;rw[hm,H13.out.1];have:=HE.o3.1;omega) (by intro m hm;simp at hm;rw[hm,H13.out.1];exact HE.o3.2) (λy hy=>qat (H13.out.2.2.1 y hy) H15.out.2.size) (by intro m hm y hy;simp at hm;rw[hm]at hy;exact qat (H13.out.2.2.2.1 y hy) H15.out.2.size);rwa [show [ms].map (·.1)=[y] by simp[H13.out.1]]at hR
 obtain⟨go,ko,bo,co,hoa,hco,hro⟩:=H15.out.1 0 (whole y 3 B) rfl;subst hoa;have o1:=hco 1 (.slice bo B.length co) rfl;have o2:=hco 2 (.string (str (oid 3 B))) rfl;simp only[qj3,qbn]at o1 o2;rw[<-H11.o8]at o2;rw[lB]at o1;have fC2:=HG.out.trans (H13.out.2.2.2.2.trans H15.out.2);have q2:=cell_of (fC2.blk HC.o1 (by simp)) 2;have p2:=cell_of (fC2.blk HC.o0 (by simp)) 2;simp only[qag,qac,qaf]at q2 p2;obtain⟨gl,ol,hla,hlc⟩:=(H13.out.2.1.cs.fr H15.out.2 (by simp)).at (by rw[qk7];simp);have k0:=hlc 0 (.int .i64 (y.kind:Nat)) (by rw[<-H13.out.1];rfl);have k5:=hlc 5 (.string (str y.base)) (by rw[<-H13.out.1];rfl);rw[qbn]at k0;have rB2:=H11.o2.fr (HE.l4.trans (H13.out.2.2.2.2.trans H15.out.2));have fw2:=HF.out.trans (H13.out.2.2.2.2.trans H15.out.2);have hsb:=H11.l10;have hz0:(sb !=sb)=false:=by rw[hsb];unfold bne;rw[qr6];simp
 have hz1:(str idb !=str idb)=false:=by unfold bne;rw[qr6];simp
 generalize str idb=zb at o2 q2 hz1;have hcases:=HE.o2;have HX:=zhd4 rB2 hro fw2 hsb;clear rB2 hro fw2 hsb hco hlc fC2;subst hla;rcases hcases with⟨yk,yb,yr⟩|⟨yk,yr⟩
 ·rw[yr]at hres;rw[yk]at k0;rw[yb]at k5;have HR:=zhd hres;clear hres yk yb yr;have hz2:(str ida).toList=(str ida).toList:=rfl;generalize str ida=za at k5 p2 hz2;go_upto_region 18 with (go_at_call 19;refine HR.out.mono ?_;rintro e w3 ⟨f3,rfl⟩;have H16:=zhd f3;clear f3);have o1:=H16.out.cell o1 (by simp);have o2:=H16.out.cell o2 (by simp);have q2:=H16.out.cell q2 (by simp);have p2:=H16.out.cell p2 (by simp);have k0:=H16.out.cell k0 (by simp);have k5:=H16.out.cell k5 (by simp);have cv1:∀(x cap:Nat),(convert 23 9 (.slice bo L cap)).run Tryz.prog (w3.drewN x) = .ok (.string sb) (w3.drewN x):=λx cap=>by rw[HX.l3];exact qde (w3.drewN x) Tryz.underlying23 Tryz.underlying5 Tryz.underlying9 lB (HX.o1.fr (H16.out.trans (Fr.drewN [] w3 x))).cs cap
  have cv2:∀(x cap:Nat),(convert 23 9 (.slice (some ⟨g7,0,none⟩) L cap)).run Tryz.prog (w3.drewN x) = .ok (.string sb) (w3.drewN x):=λx cap=>by rw[HX.l3];exact qde (w3.drewN x) Tryz.underlying23 Tryz.underlying5 Tryz.underlying9 lB (HX.o0.fr (H16.out.trans (Fr.drewN [] w3 x))).cs cap
  go_quiet (fail);clear cv1 cv2 o1 o2 q2;go_upto_region 21 with fail;generalize hw4:World.drewN w3 nq=w4;have f4:Fr [] w3 w4:=by rw[<-hw4];exact Fr.drewN [] w3 nq
  have H17:=zhd (HX.o2.trans (H16.out.trans f4));have k5:=λx=>(qcm [] w4.drew x).cell ((Fr.drew1 [] w4).cell (f4.cell k5 (by simp)) (by simp)) (by simp)
  have p2:=λx=>(qcm [] w4.drew x).cell ((Fr.drew1 [] w4).cell (f4.cell p2 (by simp)) (by simp)) (by simp)
  clear f4 hw4;refine qb3 20 [(false,0),(false,1),(false,2),(false,3),(false,4),(false,5),(false,6),(false,7),(false,8),(false,9),(false,10),(false,11),(false,12),(false,13),(false,14),(false,15),(false,16),(true,17),(false,18),(false,19)] [] (by kernel_rfl) (by kernel_rfl) (λ_ _ d _ _ h=>by cases d<;>exact h) ?_;simp only[qak,qam,qaz,qa0,qad,qaj,qbk];refine qb0 17 rfl ?_;simp only[qah,qan,qad,qaj,qak,qam];repeat (go_big_quiet_step (fail))
  refine wpQuiet_nil ?_;clear p2 k5;refine qb6 rfl ?_;intro XX hXX;go_wp2_with (go_at_call 8;refine (qjz _).mono ?_;rintro e wD ⟨rfl,fD⟩;have HD:=zhd fD);refine hXX.out _ _ fD ?_;clear hXX XX fD;refine qb0 2 rfl ?_;simp only[qah,qan,qad,qaj,qak,qam];repeat (go_big_quiet_step (fail))
  refine wpQuiet_nil ?_;refine qcq ?_;go_wp2;go_ret;exact⟨rfl,H17.out.trans ((Fr.drew1 [] w4).trans HD.out)⟩
 ·rw[yr]at hres;rw[yk]at k0;have HR:=zhd hres;clear hres yk yr k5 p2;go_upto_region 18 with (go_at_call 19;refine HR.out.mono ?_;rintro e w3 ⟨f3,a3,c3,rfl,_,_⟩;have H16:=zhd f3;clear f3);have o1:=H16.out.cell o1 (by simp);have o2:=H16.out.cell o2 (by simp);have q2:=H16.out.cell q2 (by simp);have k0:=H16.out.cell k0 (by simp);have cv1:∀(x cap:Nat),(convert 23 9 (.slice bo L cap)).run Tryz.prog (w3.drewN x) = .ok (.string sb) (w3.drewN x):=λx cap=>by rw[HX.l3];exact qde (w3.drewN x) Tryz.underlying23 Tryz.underlying5 Tryz.underlying9 lB (HX.o1.fr (H16.out.trans (Fr.drewN [] w3 x))).cs cap
  have cv2:∀(x cap:Nat),(convert 23 9 (.slice (some ⟨g7,0,none⟩) L cap)).run Tryz.prog (w3.drewN x) = .ok (.string sb) (w3.drewN x):=λx cap=>by rw[HX.l3];exact qde (w3.drewN x) Tryz.underlying23 Tryz.underlying5 Tryz.underlying9 lB (HX.o0.fr (H16.out.trans (Fr.drewN [] w3 x))).cs cap
  go_quiet (fail);clear cv1 cv2 o1 o2 q2;go_wp2_with (go_at_call 8;refine (qjz _).mono ?_;rintro e wD ⟨rfl,fD⟩;have HD:=zhd fD;clear fD);go_ret;exact⟨rfl,HX.o2.trans (H16.out.trans ((Fr.drewN [] w3 _).trans HD.out))⟩
end Go.Proofs.YtkmpfgpfbmeihaaGreatDoor.pk
