/-
  Texts of this proof, one behind the other: RObjId, OGood, RsRes, Objs11, PkLaw6, ODel, ORot.
-/
import Derived.Test.YtkmpfgpfbmeihaaGreatDoorU25
import Derived.Lib.MinMax
import Derived.Laws.StructEq
import Derived.ScopeJumps
import Derived.RegionTactic
import Derived.BigRegion
set_option maxHeartbeats 16000000
set_option maxRecDepth 100000
set_option linter.unusedVariables false
set_option linter.unusedSimpArgs false
namespace Go.Proofs.YtkmpfgpfbmeihaaGreatDoor
namespace obj
open Go Go.RowKit lib
theorem qwt (k:Int) (bs:List UInt8) (w:World) (hl:bs.length<=140737488354900) :
  Calls Tryz.prog 20 #[.int .i64 k,.string (str bs)] w λe w'=>e = .returned (.string (str (pk.pQ k bs)))/\Fr [] w w':=by
 obtain⟨L,hL⟩:=ah bs.length;have cF:(str bs).size=L:=by rw[hL];simp[str,ByteArray.size]
 obtain⟨hd,qu⟩:=ah (header k L);have ic:hd.length<=24:=by rw[qu];exact VI k L (by omega)
 have cU:pk.pQ k bs=pk.ib (sha.dY (hd++bs)):=by rw[qu,hL];rfl
 rw[cU];have hh:=λw'=>qrz k L w' (by omega)
 rw[<-qu]at hh;have uY:str hd++str bs=str (hd++bs):=(DB hd bs);have lT:=λw'=>sha.zag (hd++bs) w' (by rw[aK];omega)
 rw[<-uY]at lT;have Oz:(str hd).size<=24:=by simpa[str,ByteArray.size] using ic
 obtain⟨A,hA⟩:=ah (str hd);obtain⟨B,hB⟩:=ah (str bs);rw[<-hA,<-hB]at lT;rw[<-hA]at hh Oz;rw[<-hB]at cF ⊢;rw[<-hL]at hl;have H:=ak hh lT;clear hh lT uY hA hB qu cU hL;go_enter Tryz.func20,Tryz.ntmps20;go_wp2_with (first
  | (go_at_call 52;refine (H.o0 _).mono ?_;rintro e w1 ⟨rfl,f1⟩;have H1:=af f1;clear f1)
  | (go_at_call 51;refine (H.l1 _).mono ?_;rintro e w2 ⟨⟨a2,c2,rfl,r2,n2⟩,f2⟩;have H2:=ak r2 (H1.out.trans f2);clear r2 n2 f2)
  | (go_at_call 50;refine (pk.zah a2 c2 _ w2 H2.o0 (by rw[sha.sf];decide)).mono ?_;rintro e w3 ⟨rfl,f3⟩;have H3:=af f3;clear f3))
 go_ret;exact⟨rfl,H2.l1.trans H3.out⟩
end obj
namespace os
open Go Go.RowKit lib bm pk huf
set_option maxRecDepth 100000
def BR (o:pk.Obj):Bool:=decide (1<=o.kind/\o.kind<=4/\o.body.length<=65536/\o.id=pQ o.kind o.body)
theorem zdj (m:OM) (w:World) (hr:lib.Rd w m.2.1 m.2.2 m.1.body) :
  Calls Tryz.prog 30 #[.agg (dG m.1 m.2.1 m.2.2)] w λe w'=>e = .returned (.bool (BR m.1))/\Fr [] w w':=by
 obtain⟨⟨kd,bs,id,at_,crc⟩,ba,bc⟩:=m;simp only at hr;simp only[dG];obtain⟨gb,XU⟩:=ah (BR ⟨kd,bs,id,at_,crc⟩);rw[<-XU];have Et:=XU;simp only[BR]at Et;have hid:=λ(h:bs.length<=65536) w'=>obj.qwt kd bs w' (by omega)
 obtain⟨bl,bK⟩:=ah bs.length;rw[<-bK]at hid Et ⊢;obtain⟨si,kQ⟩:=ah (str id);rw[<-kQ];obtain⟨sb,kR⟩:=ah (str bs);rw[<-kR]at hid;obtain⟨sn,xQ⟩:=ah (str (pQ kd bs));rw[<-xQ]at hid;have cv:=λw' (f:Fr [] w w')=>qk7 (P:=Tryz.prog) [] w' Tryz.underlying23 Tryz.underlying5 Tryz.underlying9 bK.symm (hr.fr f).cs (by simp)
 rw[<-kR]at cv;have H:=aP hid Et kQ xQ cv;clear hid XU Et kQ xQ kR bK hr cv;go_enter Tryz.func30,Tryz.ntmps30;go_upto_region 1 with fail;generalize cD:World.alloc _ _=w1;obtain⟨X,hX⟩:=ah w.heap.size;rw[<-hX];have dT:w1.heap[X]?=some (.cells #[.int .i64 kd,.slice ba bl bc,.string si,.int .i64 at_,.int .u32 crc] 34 (0,0)):=by rw[<-cD,hX];exact bx w _
 have f1:Fr [] w w1:=by rw[<-cD];exact (Fr.refl [] w).alloc _
 have x0:=cell_of dT 0;have x1:=cell_of dT 1;have x2:=cell_of dT 2;simp only[bw,aV,bN]at x0 x1 x2;have H1:=af f1;clear cD hX dT f1;have y0:=λx=>(dk [] w1.drew x).cell (show w1.drew.cell? _=_ from x0) (by simp)
 have y1:=λx=>(dk [] w1.drew x).cell (show w1.drew.cell? _=_ from x1) (by simp)
 have y2:=λx=>(dk [] w1.drew x).cell (show w1.drew.cell? _=_ from x2) (by simp)
 have cv:=H.l4 w1.drew (H1.out.trans (Fr.av [] w1));clear x0 x1 x2;refine jh 26 [(false,0),(false,1),(false,2),(false,3),(false,4),(false,5),(false,6),(false,7),(false,8),(false,9),(false,10),(false,11),(false,12),(false,13),(false,14),(false,15),(false,16),(false,17),(false,18),(false,19),(false,20),(false,21),(true,22),(false,23),(false,24),(false,25)] [] (by kernel_rfl) (by kernel_rfl) (λ_ _ d _ _ h=>by cases d<;>exact h) ?_;simp only[iw];refine cS 22 rfl ?_;simp only[aU];by_cases h1:1<=kd
 ·have g1:decide ((1:Int)<=kd)=true:=by simpa using h1
  by_cases h2:kd<=4
  ·have g2:decide (kd<=(4:Int))=true:=by simpa using h2
   by_cases h3:bl<=65536
   ·have g3:decide ((bl:Int)<=(65536:Int))=true:=by simp;omega
    repeat (go_big_quiet_step (fail))
    refine wpQuiet_nil ?_;clear y0 y1 y2 cv g1 g2 g3;have HH:=au h1 h2 h3;clear h1 h2 h3;refine ep rfl ?_;intro XX vd;go_wp2_with (go_at_call 20;refine (H.o0 (by have h3:=HH.out.2.2;omega) _).mono ?_;rintro e w3 ⟨rfl,f3⟩);refine vd.out _ _ f3 ?_;clear vd XX;have H3:=af f3;clear f3;refine cS 3 rfl ?_;simp only[aU];repeat (go_big_quiet_step (fail))
    refine wpQuiet_nil ?_;refine fE ?_;go_wp2;go_ret;refine⟨?_,(H1.out.trans (Fr.av [] w1)).trans H3.out⟩;rw[H.o1,H.o2,H.o3,bu,bu];obtain⟨h1,h2,h3⟩:=HH.out;have e:decide (1<=kd/\kd<=4/\bl<=65536/\id=pQ kd bs)=(id==pQ kd bs):=by rw[Bool.eq_iff_iff];simp[h1,h2,h3]
    rw[e];rfl
   ·have g3:decide ((bl:Int)<=(65536:Int))=false:=by simp;omega
    repeat (go_big_quiet_step (fail))
    refine wpQuiet_nil ?_;refine Hg rfl ?_;simp only[Act.put,mC,nC,mB];refine cS 3 rfl ?_;simp only[aU];repeat (go_big_quiet_step (fail))
    refine wpQuiet_nil ?_;refine fE ?_;go_wp2;go_ret;exact⟨by rw[H.o1];simp;omega,H1.out.trans (Fr.av [] w1)⟩
  ·have g2:decide (kd<=(4:Int))=false:=by simp;omega
   repeat (go_big_quiet_step (fail))
   refine wpQuiet_nil ?_;refine Hg rfl ?_;simp only[Act.put,mC,nC,mB];refine cS 3 rfl ?_;simp only[aU];repeat (go_big_quiet_step (fail))
   refine wpQuiet_nil ?_;refine fE ?_;go_wp2;go_ret;exact⟨by rw[H.o1];simp;omega,H1.out.trans (Fr.av [] w1)⟩
 ·have g1:decide ((1:Int)<=kd)=false:=by simp;omega
  repeat (go_big_quiet_step (fail))
  refine wpQuiet_nil ?_;refine Hg rfl ?_;simp only[Act.put,mC,nC,mB];refine cS 3 rfl ?_;simp only[aU];repeat (go_big_quiet_step (fail))
  refine wpQuiet_nil ?_;refine fE ?_;go_wp2;go_ret;exact⟨by rw[H.o1];simp;omega,H1.out.trans (Fr.av [] w1)⟩
def qF (l:List pk.Obj):Nat:=(l.map λo=>min o.body.length 100000).sum
theorem qym:∀l:List pk.Obj,qF l<=l.length*100000
 | []=>aw _
 | o::t=>by have:=qym t;unfold qF at this ⊢;rw[gW,Dr,cQ];omega
theorem qyl {l:List OM} {i:Nat} {m:OM} (h:l[i]?=some m):qF ((l.take (i+1)).map (·.1))=qF ((l.take i).map (·.1))+min m.1.body.length 100000:=by rw[zG,h];simp[qF]
theorem zec (a:Option Addr) (c:Nat) (aJ:List OM) (w:World) (h:jM w a c aJ) :
  Calls Tryz.prog 12 #[.slice a aJ.length c] w λe w'=>e = .returned (.bool (decide (aJ.length<=30/\qF ((aJ.take 40).map (·.1))<=30000)))/\Fr [] w w':=by
 obtain⟨n,hn⟩:=ah aJ.length;have Eh:n<=9223372036854775807:=by have h1:=h.le;have h2:=h.max;unfold maxLen at h2;omega
 rw[<-hn];have H:=ak h hn;clear h hn;go_enter Tryz.func12,Tryz.ntmps12;go_wp2;go_loopg [3,4] (min n 40) (λk s3 s4 wr=>∃i:Nat,s4 = .int .i64 (i:Nat)/\s3 = .int .i64 (qF ((aJ.take i).map (·.1)):Nat)/\i+k=min n 40/\Fr [] w wr);case atStart=>exact⟨0,rfl,rfl,by omega,Fr.refl _ _⟩
 case round=>
  obtain⟨i,rfl,rfl,bU,hf⟩:=hrel;have HF:=af hf;clear hf;have hS:=qym ((aJ.take i).map (·.1));rw[cN,eJ]at hS;obtain⟨S,Pd⟩:∃S,S=qF ((aJ.take i).map (·.1)):=⟨_,rfl⟩;rw[<-Pd]at hS ⊢;have hS:S<=4000000:=by omega
  by_cases hi:i<n
  ·by_cases hj:i<40
   ·obtain⟨k,rfl⟩:∃k,gk=k+1:=⟨gk-1,by omega⟩;obtain⟨m,hm⟩:∃m,aJ[i]?=some m:=⟨aJ[i]'(by rw[<-H.out.2];omega),bO _⟩;obtain⟨g,o,rfl,hc⟩:=(H.out.1.fr HF.out).cell hm;have c1:=hc 1 (.slice m.2.1 m.1.body.length m.2.2) rfl;have he:=qyl hm;rw[<-Pd]at he;obtain⟨bl,bK⟩:=ah m.1.body.length;rw[<-bK]at c1 he;have HX:=af he;clear hc hm he bK Pd;go_wp2;go_roundg k;case measure=>omega
    case rel=>exact⟨i+1,by go_num,by rw[HX.out];simp;omega,by omega,HF.out⟩
   ·have N6:¬n<=30:=by omega
    go_wp2;go_ret;exact⟨rfl,HF.out⟩
  ·obtain rfl:i=n:=by omega
   by_cases N6:i<=30
   ·have HS:=af Pd;clear Pd;go_wp2;go_ret;refine⟨?_,HF.out⟩;have e1:aJ.take 40=aJ.take i:=by rw[oI (by have:=H.out.2;omega),oI (by have:=H.out.2;omega)]
    rw[e1,<-HS.out];simp[N6];try omega
   ·go_wp2;go_ret;exact⟨rfl,HF.out⟩
end os
namespace pk
open Go Go.RowKit lib bm
theorem qm5:∀(W:List St) (i:Nat),(∀t,t<i->∃o d,W[t]?=some (some (.ok (o,d))))->W[i]?=some none->fJ W = .error 61
 | [],i,_,h=>by simp at h
 | s::t,0,_,h=>by
  simp only[aV,eS]at h;subst h;rfl
 | s::t,i+1,hb,h=>by obtain⟨o,d,h0⟩:=hb 0 (by omega);simp only[aV,eS]at h0;subst h0;rw[fJ,qm5 t i (λk hk=>by simpa using hb (k+1) (by omega)) (by simpa using h)]
theorem qla:∀(W:List St) (i x:Nat),(∀t,t<i->∃o d,W[t]?=some (some (.ok (o,d))))->W[i]?=some (some (.error x))->fJ W = .error x
 | [],i,_,_,h=>by simp at h
 | s::t,0,x,_,h=>by
  simp only[aV,eS]at h;subst h;rfl
 | s::t,i+1,x,hb,h=>by obtain⟨o,d,h0⟩:=hb 0 (by omega);simp only[aV,eS]at h0;subst h0;rw[fJ,qla t i x (λk hk=>by simpa using hb (k+1) (by omega)) (by simpa using h)]
theorem qn8:∀(W:List St),(∀t,t<W.length->∃o d,W[t]?=some (some (.ok (o,d))))->∃os:List Obj,fJ W = .ok os/\os.length=W.length/\∀(i:Nat) (o:Obj),os[i]?=some o->∃d,W[i]?=some (some (.ok (o,d)))
 | [],_=>⟨[],rfl,rfl,λi o h=>by simp at h⟩
 | s::t,hb=>by
  obtain⟨o,d,h0⟩:=hb 0 (by simp);simp only[aV,eS]at h0;subst h0;obtain⟨os,h1,h2,h3⟩:=qn8 t (λk hk=>by simpa using hb (k+1) (by simpa using hk));refine⟨o::os,by rw[fJ,h1],by simp[h2],λi p hp=>?_⟩;cases i with
  | zero=>
   simp only[aV,eS]at hp;exact⟨d,by simp[hp]⟩
  | succ i=>simpa using h3 i p (by simpa using hp)
def EO (w:World) (a:Option Addr) (os:List Obj):Prop:=∀i o,os[i]?=some o->∃g k ba bc,a=some ⟨g,k,none⟩/\(∀j v,(dG o ba bc)[j]?=some v->w.cell? ⟨g,k+i*5+j,none⟩=some v)/\lib.Rd w ba bc o.body
def Qe (w:World) (n:Nat) (R:Except Nat (List Obj)) (e:Ending) (w':World):Prop:=Fr [] w w'/\match R with
 | .error x=>e = .returned (.tuple #[.slice none 0 0,.int .i64 x])
 | .ok os=>∃a c,e = .returned (.tuple #[.slice a n c,.int .i64 0])/\os.length=n/\EO w' a os
structure RI (w wr:World) (g O S bt N:Nat) (gv:Value) (la:Option Addr) (ms:List EM) (kn:List Kn) (C D:Array Value) (W:List St):Prop where
 rb:Rb wr g O S gv (.map (some bt)) la ms C D
 xy:tL wr O S C D (ms.map (·.1)) W
 told:Told wr O S bt N kn
 fr:Fr [] w wr
 new:w.heap.size<=O/\w.heap.size<=S/\w.heap.size<=bt
 und:sQ (ms.map (·.1)) W
theorem tL.dF {w w':World} {O S:Nat} {C D:Array Value} {l:List eo} {W:List St} (h:tL w O S C D l W) (f:Fr [] w w'):tL w' O S C D l W:=
 ⟨h.len,λi s hs=>(h.st i s hs).keep (λ_ _=>rfl) (λ_ _=>rfl) (f.mono (by simp)),h.base⟩
theorem RI.off {w wr:World} {g O S bt N:Nat} {gv:Value} {la:Option Addr} {ms:List EM} {kn:List Kn} {C D:Array Value} {W:List St} (h:RI w wr g O S bt N gv la ms kn C D W):bt≠O/\bt≠S:=
 ⟨jg (h.told.at_.ne h.rb.ob),jg (h.told.at_.ne h.rb.sb)⟩
theorem RI.dF {w wr w2:World} {g O S bt N:Nat} {gv:Value} {la:Option Addr} {ms:List EM} {kn:List Kn} {C D:Array Value} {W:List St} (h:RI w wr g O S bt N gv la ms kn C D W) (f:Fr [] wr w2):RI w w2 g O S bt N gv la ms kn C D W:=
 ⟨h.rb.fr f,h.xy.dF f,h.told.fr (f.mono (by simp)) h.off.1 h.off.2,h.fr.trans f,h.new,h.und⟩
theorem RI.turn {w wr w2:World} {g O S bt N:Nat} {gv:Value} {la:Option Addr} {ms:List EM} {kn:List Kn} {C D C' D':Array Value} {W W':List St} (h:RI w wr g O S bt N gv la ms kn C D W) (f:Fr [O,S] wr w2) (rb:Rb w2 g O S gv (.map (some bt)) la ms C' D') (st:tL w2 O S C' D' (ms.map (·.1)) W') (und:sQ (ms.map (·.1)) W'):RI w w2 g O S bt N gv la ms kn C' D' W':=
 ⟨rb,st,h.told.fr f h.off.1 h.off.2,h.fr.step f (λy hy=>by have:=h.new;simp at hy;right;rcases hy with rfl|rfl<;>omega),h.new,und⟩
theorem RI.old {w wr w2:World} {g O S bt N N':Nat} {gv:Value} {la:Option Addr} {ms:List EM} {kn:List Kn} {C D:Array Value} {W:List St} (h:RI w wr g O S bt N gv la ms kn C D W) (f:Fr [bt] wr w2) (t:Told w2 O S bt N' kn):RI w w2 g O S bt N' gv la ms kn C D W:=
 ⟨h.rb.rA h.told.at_ f,h.xy.rA h.told.at_ f,t,h.fr.step f (λy hy=>by have:=h.new;simp at hy;right;omega),h.new,h.und⟩
theorem RI.asked {w wr w2:World} {g O S bt N N':Nat} {gv:Value} {la:Option Addr} {ms:List EM} {kn:List Kn} {C D C' D':Array Value} {W W':List St} (h:RI w wr g O S bt N gv la ms kn C D W) (f:Fr [O,S,bt] wr w2) (rb:Rb w2 g O S gv (.map (some bt)) la ms C' D') (st:tL w2 O S C' D' (ms.map (·.1)) W') (t:Told w2 O S bt N' kn) (und:sQ (ms.map (·.1)) W'):RI w w2 g O S bt N' gv la ms kn C' D' W':=
 ⟨rb,st,t,h.fr.step f (λy hy=>by have:=h.new;simp at hy;right;rcases hy with rfl|rfl|rfl<;>omega),h.new,und⟩
theorem jN.up {w w1:World} {gv:Value} {kn:List Kn} {T:List Nat} (h:jN w [] gv kn) (f:Fr [] w w1) (hT:∀x∈T,w.heap.size<=x):jN w1 T gv kn:=by
 rcases h with h|⟨kW,cv,h1,h2,h3⟩
 ·exact .inl h
 ·exact .inr ⟨kW,cv,h1,h2,λid w2 hl f2=>h3 id w2 hl (f.step f2 (λx hx=>.inr (hT x hx)))⟩
structure RJ (w wr:World) (g O S bt N:Nat) (gv:Value) (la:Option Addr) (ms:List EM) (kn:List Kn) (C D:Array Value) (W:List St) (f:Nat) (R:Except Nat (List Obj)):Prop where
 ri:RI w wr g O S bt N gv la ms kn C D W
 fuel:bG W<f
 num:N+f*ms.length<=16785408
 res:R=fJ (uq (ms.map (·.1)) kn f W)
def xJ (a:Act) (w:World):Nat:=match a.tmps.getD 6 undef with
 | .pointer (some p)=>(match w.cell? ⟨p.block,2,none⟩ with
  | some (.slice (some s) n _)=>yD w s.block 4 n
  | _=>0)
 | _=>0
theorem U1 {a:Act} {w wr:World} {g O S bt N:Nat} {gv:Value} {la:Option Addr} {ms:List EM} {kn:List Kn} {C D:Array Value} {W:List St} (h6:a.tmps.getD 6 undef = .pointer (some ⟨g,0,none⟩)) (h:RI w wr g O S bt N gv la ms kn C D W):xJ a wr=bG W:=by unfold xJ;rw[h6];simp only;rw[cell_of h.rb.box];have:=h.xy.yD h.rb.sb;rw[cN]at this;exact this
theorem EK (a:Act) (h:a.tmps.size=86) (hd:a.defers=[]):∃u:Nat->Value,a=⟨#[u 0,u 1,u 2,u 3,u 4,u 5,u 6,u 7,u 8,u 9,u 10,u 11,u 12,u 13,u 14,u 15,u 16,u 17,u 18,u 19,u 20,u 21,u 22,u 23,u 24,u 25,u 26,u 27,u 28,u 29,u 30,u 31,u 32,u 33,u 34,u 35,u 36,u 37,u 38,u 39,u 40,u 41,u 42,u 43,u 44,u 45,u 46,u 47,u 48,u 49,u 50,u 51,u 52,u 53,u 54,u 55,u 56,u 57,u 58,u 59,u 60,u 61,u 62,u 63,u 64,u 65,u 66,u 67,u 68,u 69,u 70,u 71,u 72,u 73,u 74,u 75,u 76,u 77,u 78,u 79,u 80,u 81,u 82,u 83,u 84,u 85],[]⟩/\∀i,i<86->a.tmps[i]?=some (u i):=by
 obtain⟨t,d⟩:=a;simp only at h hd;subst hd;have key:t=((List.range 86).map λi=>t.getD i undef).toArray:=by
  apply Array.ext_getElem?;intro i;by_cases hi:i<86
  ·simp[hi,h]
  ·rw[Array.getElem?_eq_none (by omega),Array.getElem?_eq_none (by simp;omega)]
 refine⟨λi=>t.getD i undef,?_,λi hi=>?_⟩
 ·rw[Act.mk.injEq];exact⟨key,rfl⟩
 ·simp[h,hi]
theorem qol {P:Program} {Q:Exit->Act->World->Prop} {a:Act} {w:World} {c c2:Code} (l:Nat) (J:Act->World->Prop) (μ:Act->World->Nat) (hf:findLabel c l=some (Code.seq Code.skip c2))
  (first:(∀a w,J a w->c2.wp P (Exit.jump l J Q) a w)->c.wp P (Exit.jump l J Q) a w) (main:∀a w,J a w->c2.wp P (Exit.jump l (λa' w'=>J a' w'/\μ a' w'<μ a w) Q) a w):(Code.scope c).wp P Q a w:=
 wp_scope_jumps l J μ hf (first λa w h=>Code.wp_mono (λe a w q=>by cases e<;>first|exact q|exact⟨q.1,q.2.1⟩) (main a w h)) (λa w h=>wp_seq (wp_skip (main a w h)))
def JR (w:World) (n:Nat) (gv:Value) (la:Option Addr) (ms:List EM) (kn:List Kn) (R:Except Nat (List Obj)) (a:Act) (w':World):Prop:=∃g O S bt C D W N f,a.tmps.size=86/\a.defers=[]/\a.tmps[0]?=some (.slice la n n)/\a.tmps[1]?=some gv/\a.tmps[4]?=some (.slice none 0 0)/\a.tmps[5]?=some (.int .i64 0)/\a.tmps[6]?=some (.pointer (some ⟨g,0,none⟩))/\
 RJ w w' g O S bt N gv la ms kn C D W f R
theorem qr1 (gv:Value) (la:Option Addr) (ms:List EM) (kn:List Kn) (w:World) (h:lv w la ms) (lW:ms.length<=4096) (hg:jN w [] gv kn) (hd:kn.Pairwise λa b=>a.id≠b.id) (hp:obj.Pw w)
  (hl:∀m∈ms,m.1.data.length<=2147483647) (hb:∀m∈ms,m.1.base.length<=40) (Sx:∀x∈ae la,x<w.heap.size) (Ef:∀m∈ms,∀x∈ae m.2,x<w.heap.size) :
  Calls Tryz.prog 19 #[.slice la ms.length ms.length,gv] w (Qe w ms.length (resolve (ms.map (·.1)) kn)):=by
 obtain⟨n,hn⟩:=ah ms.length;obtain⟨R,hR⟩:=ah (resolve (ms.map (·.1)) kn);have SF:gv = .nilFunc\/∃kW cv,gv = .func (.func kW) #[] cv:=by
  rcases hg with⟨rfl,_⟩|⟨kW,cv,rfl,_⟩
  ·exact .inl rfl
  ·exact .inr ⟨kW,cv,rfl⟩
 rw[<-hn]at lW;rw[<-hn,<-hR];have H:=pB h hn hg hd hp hl hb Sx Ef hR;clear h hn hg hd hp hl hb Sx Ef hR;obtain⟨Z1,iZ,R6⟩:=qxl n (by omega);obtain⟨Z2,lS,uK,WE,R5⟩:=qsj n (by omega);have HZ:=aF iZ lS uK WE;clear iZ lS uK WE;go_enter Tryz.func19,Tryz.ntmps19;go_wp2;refine qol 0 (JR w n gv la ms kn R) xJ rfl ?first ?main
 case first=>
  intro main;have HP:=af main;clear main;have lf:=@run_makeMap Tryz.prog;go_upto_region 1 with fail;go_cut [6] from 6 to 20 (λs6 wz=>∃g O S bt,s6 = .pointer (some ⟨g,0,none⟩)/\wz.heap[g]?=some (.cells #[.slice la n n,.slice (some ⟨O,0,none⟩) n n,.slice (some ⟨S,0,none⟩) n n,gv,.map (some bt)] 96 (0,0))/\
   wz.heap[O]?=some (.cells Z1 34 (0,0))/\wz.heap[S]?=some (.cells Z2 100 (0,0))/\wz.heap[bt]?=some (.map #[] 0)/\O≠S/\w.heap.size<=g/\w.heap.size<=O/\w.heap.size<=S/\w.heap.size<=bt/\g≠O/\g≠S/\Fr [] w wz)
  case first=>
   rcases SF with rfl|⟨kW,cv,rfl⟩
   ·go_region;all_goals go_wp2
    all_goals go_meet
    all_goals refine⟨_,_,_,_,rfl,AL w _ _ _ _,?_,?_,?_,?_,?_,?_,?_,?_,?_,?_,?_⟩
    all_goals first|exact AQ w _ _ _ _|exact AP w _ _ _ _|exact AO w _ _ _ _|omega|exact (((((Fr.refl [] w).alloc _).alloc _).alloc _).alloc _).drew
   ·go_region;all_goals go_wp2
    all_goals go_meet
    all_goals refine⟨_,_,_,_,rfl,AL w _ _ _ _,?_,?_,?_,?_,?_,?_,?_,?_,?_,?_,?_⟩
    all_goals first|exact AQ w _ _ _ _|exact AP w _ _ _ _|exact AO w _ _ _ _|omega|exact (((((Fr.refl [] w).alloc _).alloc _).alloc _).alloc _).drew
  case rest=>
   obtain⟨g,O,S,bt,rfl,iz,vO,kR,jq,hOS,hg0,hO0,C4,yg,OD,wZ,hf⟩:=hcut;clear R6 R5 lf SF;have CR:Rb wc g O S gv (.map (some bt)) la ms Z1 Z2:=by
    obtain⟨h,hn,hg,hd,hp,hl,hb,Sx,Ef,hR⟩:=H.out;refine⟨by rw[<-hn];exact iz,h.fr hf,vO,by rw[HZ.o0,hn],kR,by rw[HZ.o1,hn],OD,wZ,hOS,λx hx=>?_,λm hm x hx=>?_,by omega⟩
    ·have:=Sx x hx;exact⟨by omega,by omega⟩
    ·have:=Ef m hm x hx;exact⟨by omega,by omega⟩
   have uN:Told wc O S bt 0 kn:=⟨_,0,aw _,⟨#[],0,jq,⟨by simp,MapKept.stamped_empty 0,by simp⟩,aw _,rfl⟩,λid hi=>by cases hi⟩;have az:=qwf g O S gv (.map (some bt)) la ms Z1 Z2 wc CR (λw' f=>H.out.2.2.2.2.1.fr (hf.step f (λy hy=>by simp at hy;right;rcases hy with rfl|rfl<;>omega))) H.out.2.2.2.2.2.1 (λt ht=>HZ.o2 t (by rw[H.out.2.1];exact ht)) (λt ht=>HZ.l3 t (by rw[H.out.2.1];exact ht));have uo:=ak CR.ob CR.sb;have HS:=bJ az uN hf hO0 C4 yg;clear az uN CR iz vO kR jq hOS hg0 hO0 C4 yg OD wZ hf;go_upto_region 2 with fail;go_wp2_with (go_at_call 47;refine HS.o0.mono ?_;rintro e w2 ⟨rfl,C2,D2,hB⟩;have H2:=af hB;clear hB);go_step3;rename_i _ hK;have cU:R=fJ (uq (ms.map (·.1)) kn (n+1) (ig (ms.map (·.1)))):=by rw[H.out.2.2.2.2.2.2.2.2.2,resolve,cN,H.out.2.1]
   refine hK _ _ (HP.out _ w2 ⟨g,O,S,bt,C2,D2,ig (ms.map (·.1)),0,n+1,rfl,rfl,rfl,rfl,rfl,rfl,rfl,⟨⟨H2.out.rb,H2.out.xy,?_,?_,HS.l3,qul _⟩,?_,?_,cU⟩⟩)
   ·exact HS.o1.fr H2.out.fr (jg (HS.o1.at_.ne (uo.o0))) (jg (HS.o1.at_.ne (uo.l1)))
   ·exact HS.o2.step H2.out.fr (λy hy=>by have:=HS.l3;simp at hy;right;rcases hy with rfl|rfl<;>omega)
   ·have:=Vv (ig (ms.map (·.1)));rw[V6,cN,<-H.out.2.1]at this;omega
   ·rw[<-H.out.2.1,fM];exact bS (J9 (show n+1<=4097 by omega) lW) (by decide)
 case main=>
  rintro a1 w1 ⟨g,O,S,bt,C,D,W,N,f,cF,hdf,t0,t1,t4,t5,t6,hJ⟩;have hM:xJ a1 w1=bG W:=U1 (by rw[Array.getD_eq_getD_getElem?,t6];rfl) hJ.ri;simp only[hM];obtain⟨u,rfl,hu⟩:=EK a1 cF hdf;have e0:=lL ((hu 0 (by decide)).symm.trans t0);have e1:=lL ((hu 1 (by decide)).symm.trans t1);have e4:=lL ((hu 4 (by decide)).symm.trans t4);have e5:=lL ((hu 5 (by decide)).symm.trans t5);have e6:=lL ((hu 6 (by decide)).symm.trans t6);rw[e0,e1,e4,e5,e6];clear e0 e1 e4 e5 e6 hu t0 t1 t4 t5 t6 cF hdf hM SF R6 R5;obtain⟨P,hP⟩:=ah (pass (ms.map (·.1)) n 0 W false);have HJ:=ak hJ hP;clear hJ hP;go_wp2;go_loopg [7,25] n (λk s7 s25 wr=>∃i W' C' D' more,s7 = .bool more/\s25 = .int .i64 (i:Nat)/\i+k=n/\RI w wr g O S bt N gv la ms kn C' D' W'/\pass (ms.map (·.1)) k i W' more=P);case atStart=>exact⟨0,W,C,D,false,rfl,rfl,by omega,HJ.out.1.ri,HJ.out.2.symm⟩
  case round=>
   obtain⟨i,W',C',D',more,rfl,rfl,bU,eY,gC⟩:=hrel;by_cases hi:i<n
   ·obtain⟨k,rfl⟩:∃k,gk=k+1:=⟨gk-1,by omega⟩;obtain⟨m,hm⟩:∃m,ms[i]?=some m:=⟨ms[i]'(by rw[<-H.out.2.1];omega),bO _⟩;have Lf:(ms.map (·.1))[i]?=some m.1:=by rw[j5,hm];rfl
    obtain⟨s,hW⟩:∃s,W'[i]?=some s:=⟨W'[i]'(by rw[eY.xy.len,cN,<-H.out.2.1];omega),bO _⟩;rw[qw2 (ms.map (·.1)) k i W' more m.1 Lf s hW]at gC;have b2:=cell_of eY.rb.box 2;simp only[bw,aV,bN]at b2;rw[<-H.out.2.1]at b2;have y0:wr.cell? ⟨S,i*4,none⟩=some (.bool s.isSome):=by rw[cell_of eY.rb.sb];exact (eY.xy.st i s hW).done
    cases s with
    | some z=>
     rw[if_neg (by simp)]at gC;simp only[Option.isSome_some]at y0;have HR:=ak eY gC;clear eY gC hm Lf hW;go_wp2;clear y0 b2;go_roundg k;case measure=>omega
     case rel=>exact⟨i+1,W',C',D',more,rfl,rfl,by omega,HR.o0,HR.l1⟩
    | none=>
     rw[if_pos rfl]at gC;simp only[Option.isSome_none]at y0;have td:=zc6 g O S gv (.map (some bt)) la ms C' D' W' i m wr eY.rb eY.xy hm hW (λw' f'=>H.out.2.2.2.2.1.fr (eY.fr.step f' (λy hy=>by have:=eY.new;simp at hy;right;rcases hy with rfl|rfl<;>omega))) (eY.und i m.1 Lf hW);generalize sR (ms.map (·.1)) W' i m.1=T at gC td;cases T with
     | none=>
      have HR:=au eY gC td;clear eY gC td hm Lf hW;go_wp2_with (go_at_call 48;refine HR.l1.2.mono ?_;rintro e w2 ⟨rfl,f2⟩;have H2:=af f2;clear f2);clear y0 b2;go_roundg k;case measure=>omega
      case rel=>exact⟨i+1,W',C',D',more,rfl,rfl,by omega,HR.o0.dF H2.out,HR.l1.1⟩
     | some z=>
      have HR:=au eY gC td;clear eY gC td hm Lf hW;go_wp2_with (go_at_call 48;refine HR.l1.2.mono ?_;rintro e w2 ⟨rfl,f2,C2,D2,kM,BI⟩;have H2:=au f2 kM BI;clear f2 kM BI);clear y0 b2;go_roundg k;case measure=>omega
      case rel=>exact⟨i+1,W'.set i (some z),C2,D2,true,rfl,rfl,by omega,HR.o0.turn H2.out.1 H2.out.2.1 H2.out.2.2 (HR.o0.und.set i z),HR.l1.1⟩
   ·obtain rfl:i=n:=by omega
    obtain rfl:gk=0:=by omega
    rw[pass]at gC;obtain⟨f',rfl⟩:∃f',f=f'+1:=⟨f-1,by have:=HJ.out.1.fuel;omega⟩;have zk:=HJ.out.1.res;have CW:=HJ.out.1.fuel;have Be:=HJ.out.1.num;rw[uq,cN,<-H.out.2.1,<-HJ.out.2,<-gC]at zk;simp only at zk;obtain⟨NA,FN,K0⟩:=RO (ms.map (·.1)) i 0 W false;rw[<-HJ.out.2,<-gC]at NA FN K0;simp only at NA FN K0;rw[<-H.out.2.1,Nat.succ_mul]at Be;cases more with
    | true=>
     rw[if_pos rfl]at zk;have aY:bG W'<bG W:=by
      rcases K0 rfl with q|q;· cases q
      exact q
     have cC:RJ w wr g O S bt N gv la ms kn C' D' W' f' R:=⟨eY,by omega,by rw[<-H.out.2.1];omega,zk⟩;have HE:=ak cC aY;clear eY gC zk CW Be NA FN K0 aY cC;go_wp2;go_step3;refine⟨rfl,⟨g,O,S,bt,C',D',W',N,f',rfl,rfl,rfl,rfl,rfl,rfl,rfl,HE.o0⟩,?_⟩;rw[U1 rfl HE.o0.ri];exact HE.l1
    | false=>
     rw[if_neg (by simp)]at zk;have zj:=zel g O S bt N gv la ms C' D' kn W' wr eY.rb eY.xy eY.told (H.out.2.2.1.up eY.fr (λy hy=>by have:=eY.new;simp at hy;rcases hy with rfl|rfl|rfl<;>omega)) H.out.2.2.2.1 (by omega) H.out.2.2.2.2.2.2.1 (λw' f'=>H.out.2.2.2.2.1.fr (eY.fr.step f' (λy hy=>by have:=eY.new;simp at hy;right;rcases hy with rfl|rfl|rfl<;>omega)));rw[<-H.out.2.1]at zj;obtain⟨K,hK⟩:=ah (ask (ms.map (·.1)) kn i 0 W');rw[<-hK]at zj zk;cases K with
     | some W2=>
      obtain⟨EA,ua⟩:=Ru (ms.map (·.1)) kn i 0 W' hK.symm;have Nz:=sQ.ask i 0 W' eY.und hK.symm;simp only at zk;have aY:bG W2<bG W:=by omega
      have HR:=cz eY zj zk aY Nz (show bG W2<f' by omega) Be;clear eY zj zk aY Nz Be gC CW NA FN K0 EA ua hK;go_wp2_with (go_at_call 49;refine HR.l1.1.mono ?_;rintro e w2 ⟨t2,rfl,f2,C2,D2,kM,BI⟩;have H2:=aF f2 kM BI t2;clear f2 kM BI t2);go_step3;have cC:RJ w w2 g O S bt (N+ms.length) gv la ms kn C2 D2 W2 f' R:=⟨HR.o0.asked H2.out.1 H2.out.2.1 H2.out.2.2.1 H2.out.2.2.2 HR.l1.2.2.2.1,HR.l1.2.2.2.2.1,by have:=HR.l1.2.2.2.2.2;rw[<-H.out.2.1];omega,HR.l1.2.1⟩;refine⟨rfl,⟨g,O,S,bt,C2,D2,W2,N+ms.length,f',rfl,rfl,rfl,rfl,rfl,rfl,rfl,cC⟩,?_⟩;rw[U1 rfl cC.ri];exact HR.l1.2.2.1
     | none=>
      simp only at zk;have HR:=au eY zj zk;clear eY zj zk Be gC CW NA FN K0 hK;go_wp2_with (go_at_call 49;refine HR.l1.1.mono ?_;rintro e w2 ⟨t2,rfl,f2⟩;have H2:=af (HR.o0.old f2 t2);clear f2 t2);go_loopg [50] i (λk s50 wr=>∃q:Nat,s50 = .int .i64 (q:Nat)/\q+k=i/\Fr [] w2 wr/\∀t,t<q->∃o d,W'[t]?=some (some (.ok (o,d))));case atStart=>exact⟨0,rfl,by omega,Fr.refl _ _,λt ht=>by omega⟩
      case round=>
       obtain⟨q,rfl,hqk,CX,hq⟩:=hrel;have eY:=H2.out.dF CX;by_cases vN:q<i
       ·obtain⟨k,rfl⟩:∃k,gk=k+1:=⟨gk-1,by omega⟩;obtain⟨s,hW⟩:∃s,W'[q]?=some s:=⟨W'[q]'(by rw[eY.xy.len,cN,<-H.out.2.1];omega),bO _⟩;have b2:=cell_of eY.rb.box 2;simp only[bw,aV,bN]at b2;rw[<-H.out.2.1]at b2;have az:=eY.xy.st q s hW;match s,az,hW with
        | none,az,hW=>
         have y0:wr.cell? ⟨S,q*4,none⟩=some (.bool false):=by rw[cell_of eY.rb.sb];exact az.1
         have Bn:=qm5 W' q hq hW;have HX:=ak eY Bn;clear eY az hW Bn hq CX;go_wp2;simp only[Exit.jump];go_ret2;refine⟨HX.out.1.fr,?_⟩;rw[HR.l1.2,HX.out.2];rfl
        | some (.error x),az,hW=>
         have y0:wr.cell? ⟨S,q*4,none⟩=some (.bool true):=by rw[cell_of eY.rb.sb];exact az.1
         have y1:wr.cell? ⟨S,q*4+1,none⟩=some (.int .i64 x):=by rw[cell_of eY.rb.sb];exact az.2.1
         have hx:=az.2.2;have gx:((x:Int)!=0)=true:=by simp;omega
         have Bn:=qla W' q x hq hW;have HX:=ak eY Bn;clear eY az hW Bn hq CX hx;go_upto_region 17 with fail;go_quiet (fail);go_wp2;simp only[Exit.jump];go_ret2;refine⟨HX.out.1.fr.nQ _,?_⟩;rw[HR.l1.2,HX.out.2];rfl
        | some (.ok (o,d)),az,hW=>
         have y0:wr.cell? ⟨S,q*4,none⟩=some (.bool true):=by rw[cell_of eY.rb.sb];exact az.1
         have y1:wr.cell? ⟨S,q*4+1,none⟩=some (.int .i64 0):=by rw[cell_of eY.rb.sb];exact az.2.1
         have gx:((0:Int)!=0)=false:=by decide
         have HX:=au CX hq hW;clear eY az hW hq CX;go_wp2;go_roundg k;case measure=>omega
         case rel=>
          refine⟨q+1,rfl,by omega,HX.out.1,λt ht=>?_⟩;by_cases htq:t=q
          ·subst htq;exact⟨o,d,HX.out.2.2⟩
          ·exact HX.out.2.1 t (by omega)
       ·obtain rfl:q=i:=by omega
        have b1:=cell_of eY.rb.box 1;simp only[bw,aV,bN]at b1;rw[<-H.out.2.1]at b1;have HX:=ak eY hq;clear eY hq CX;go_wp2;simp only[Exit.jump];go_ret2;have eY:=HX.out.1;obtain⟨os,g1,g2,g3⟩:=qn8 W' (λt ht=>HX.out.2 t (by rw[eY.xy.len,cN,<-H.out.2.1]at ht;exact ht));refine⟨eY.fr,?_⟩;rw[HR.l1.2,g1];refine⟨_,_,rfl,by rw[g2,eY.xy.len,cN,<-H.out.2.1],λj o ho=>?_⟩;obtain⟨d,hd⟩:=g3 j o ho;obtain⟨h0,h1,h2,h3,ba,bc,h4,h5,h6,h7⟩:=eY.xy.st j _ hd;refine⟨O,0,ba,bc,rfl,λi v hv=>?_,h5⟩;rw[fM,cell_of eY.rb.ob];exact h4 i v hv
theorem EO.fr {w w':World} {a:Option Addr} {os:List Obj} (h:EO w a os) (f:Fr [] w w'):EO w' a os:=λi o ho=>by obtain⟨g,k,ba,bc,h1,h2,h3⟩:=h i o ho;exact⟨g,k,ba,bc,h1,λj v hv=>f.cell (h2 j v hv) (by simp),h3.fr f⟩
end pk
namespace pk
def Small (l:List eo):Prop:=∀x∈l,x.data.length<=65536/\x.base.length<=40
theorem qqi {bs:List UInt8} {at_:Nat} {x:eo} {p:Nat} (h:nG bs at_ = .ok (x,p)):x.data.length<=65536/\x.base.length<=40:=by
 unfold nG at h;split at h
 ·cases h
 ·rename_i kind size n hh;obtain⟨h1,h2,h3,h4⟩:=LZ _ _ _ _ _ hh;rw[eQ]at h3;split at h
  ·cases h
  ·rename_i base off q hb;obtain⟨k1,k2,k3,k4⟩:=qtk (by omega) hb;split at h
   ·cases h
   ·split at h
    ·rename_i ho;simp only[gA,fj]at h;obtain⟨rfl,rfl⟩:=h;exact⟨by simp only;omega,k3⟩
    ·cases h
theorem qml (bs:List UInt8):∀(n at_:Nat) (l:List eo) {r:List eo} {p:Nat},Small l->jT bs n at_ l = .ok (r,p)->Small r
 | 0,at_,l,r,p,ha,h=>by
  simp only[jT,gA,fj]at h;rw[<-h.1];exact ha
 | n+1,at_,l,r,p,ha,h=>by
  rw[jT]at h;split at h
  ·cases h
  ·rename_i x q hx;refine qml bs n q (l++[x]) (λy hy=>?_) h;rcases jy.1 hy with hy|hy
   ·exact ha y hy
   ·obtain rfl:y=x:=by simpa using hy
    exact qqi hx
theorem qr6 {bs:List UInt8} {l:List eo} {id:List UInt8} (h:pread bs = .ok (l,id)):Small l:=by
 unfold pread at h;split at h
 ·cases h
 ·split at h
  ·cases h
  ·split at h
   ·cases h
   ·split at h
    ·cases h
    ·split at h
     ·cases h
     ·rename_i l2 at_ hp;split at h
      ·cases h
      ·split at h
       ·cases h
       ·split at h
        ·cases h
        ·simp only[gA,fj]at h;rw[<-h.1];exact qml bs _ 12 [] (λy hy=>by simp at hy) hp
end pk
namespace os
open Go Go.RowKit lib bm pk huf
theorem Ow.lay {g:Nat} {T:TypeId} {A0 A:Array Value} {n x:Nat} {f:Nat->Mo} (w2:World) (q:Mo)
  (hs:A.size=A0.size) (hn:5*n<=A.size) (ht:∀j,5*n<=j->A[j]?=A0[j]?)
  (hf:∀i,i<n->∀j,j<5->A[i*5+j]?=(dG (f i).m.1 (f i).m.2.1 (f i).m.2.2)[j]?)
  (hx:x<n) (h:w2.heap[g]?=some (.cells (gj A x q.m) T (0,0))):Ow w2 g T A0 n (λt=>if t=x then q else f t):=by
 refine⟨_,h,by rw[Ic];exact hs,by rw[Ic];exact hn,λj hj=>?_,λi hi j hj=>?_⟩
 ·rw[oe _ _ _ _ (.inr (by omega))];exact ht j hj
 ·by_cases h1:i=x
  ·subst h1;simp only[if_pos];rw[UB _ _ _ (by omega) j hj]
  ·simp only[if_neg h1];rw[oe _ _ _ _ (by omega)];exact hf i hi j hj
theorem LK:∃z:Value,(∀w,(zeroValue 34).run Tryz.prog w = .ok z w)/\z.cells=#[.int .i64 0,.slice none 0 0,.string ⟨#[]⟩,.int .i64 0,.int .u32 0]:=⟨_,λ_=>rfl,by kernel_rfl⟩
theorem qus (w:World) (g o n c:Nat) (cur:Array Value) (T:TypeId) (hg:w.heap[g]?=some (.cells cur T (0,0))) (hn:0<n) (ho:o+n*5<=cur.size) :
  ∃zs:List Value,zs.length=n*5/\∀ty,(Builtin.clear_ #[27] ty #[.slice (some ⟨g,o,none⟩) n c]).run Tryz.prog w = .ok (.tuple #[]) (w.setRow g (cur.toList.take o++zs++cur.toList.drop (o+zs.length)).toArray):=by
 obtain⟨z,hv,hz⟩:=LK;have hl:((Builtin.zeroCells z.cells n).toList).length=n*5:=by rw[FB,size_zeroCells,hz];rfl
 refine⟨(Builtin.zeroCells z.cells n).toList,hl,λty=>?_⟩;have Xm:∀v∈(Builtin.zeroCells z.cells n).toList,v.oneCell'=true:=by intro v WN;unfold Builtin.zeroCells at WN;rw[Array.toList_map,jR]at WN;obtain⟨i,_,rfl⟩:=WN;rw[hz];rcases (show i%5=0\/i%5=1\/i%5=2\/i%5=3\/i%5=4 by omega) with e|e|e|e|e<;>(simp only[List.size_toArray,cQ,lK,fM,Nat.reduceAdd];rw[e];rfl)
 have az:=run_storeCells_at (P:=Tryz.prog) g o T (Builtin.zeroCells z.cells n).toList 0 cur w hg (by rw[hl];omega) Xm;simp only[jS]at az;obtain⟨q,rfl⟩:∃q,n=q+1:=⟨n-1,by omega⟩;simp[Builtin.clear_,run_underlying Tryz.underlying27,hv,az]
theorem zas {w:World} {g n c k:Nat} {A0:Array Value} {f:Nat->Mo} (row:Array Value) (h:Ow w g 34 A0 n f) (hk:k<=n) (zs:List Value)
  (hr:∀A:Array Value,w.heap[g]?=some (.cells A 34 (0,0))->row=(A.toList.take (k*5)++zs++A.toList.drop (k*5+zs.length)).toArray) :
  Cs (w.setRow g row) (some ⟨g,0,none⟩) (((List.range k).map λi=>(f i).m).flatMap oL):=by
 obtain⟨A,h1,h2,h3,h4,h5⟩:=h;have dI:=hr A h1;refine .inr ⟨g,0,rfl,λj v hj=>?_⟩;have hl:=(lA.1 hj).1;rw[MO,cN,Aw]at hl;have hi:j/5<k:=by omega
 have jD:((List.range k).map λi=>(f i).m)[j/5]?=some (f (j/5)).m:=by simp[hi]
 have e:=Hj oL 5 (λ_=>rfl) _ (j/5) _ (j%5) jD (vZ _ (by decide));rw[show j/5*5+j%5=j by omega,hj]at e;have e2:=h5 (j/5) (by omega) (j%5) (vZ _ (by decide));rw[show j/5*5+j%5=j by omega]at e2;rw[fM,cell_of (setRow_heap w g A row 34 (0,0) h1),dI];rw[bw,gH,CJ (by rw[eJ,FB];omega),oY,if_pos (by omega),qW,e2,e];unfold oL;rw[qW]
theorem zbu (del:OM->Bool) (kW:FuncId) (cv:Array Value) (eg:∀args w,(callFunc kW args).run Tryz.prog w = .ok (.enter kW args) w) (a:Option Addr) (c:Nat) (aJ:List OM) (w:World)
  (aA:w.ownsRow 0 34 5 (.slice a aJ.length c) aJ.length (aJ.flatMap oL)) (h:jM w a c aJ) (hl:aJ.length<=1000000)
  (fH:∀m∈aJ,∀w',Fr (ae a) w w'->Calls Tryz.prog kW (#[.agg (dG m.1 m.2.1 m.2.2)]++cv) w' λe w2=>e = .returned (.bool (del m))/\Fr [] w' w2) :
  Calls Tryz.prog 32 #[.slice a aJ.length c,.func (.func kW) #[] cv] w λe w'=>e = .returned (.slice a (aJ.filter λm=>!del m).length c)/\Cs w' a ((aJ.filter λm=>!del m).flatMap oL)/\Fr (ae a) w w':=by
 have XK:=zd4 del kW cv eg a c aJ w h hl (λm hm w' f=>fH m hm w' (f.mono (by simp)));obtain⟨n,hn⟩:=ah aJ.length;rw[<-hn]at hl XK aA ⊢;have IQ:=h.le;rw[<-hn]at IQ;have hmx:=h.max;unfold maxLen at hmx;have H:=aP XK aA h hn fH;clear XK aA h hn fH;go_enter Tryz.func32,Tryz.ntmps32;go_upto_region 2 with (go_at_call 64;refine H.out.1.mono ?_;rintro e w2 ⟨f2,⟨rfl,mT⟩|⟨i0,m0,rfl,tu,Jc,mT⟩⟩<;>have H2:=ak f2 mT<;>clear f2 mT)
 ·go_wp2;go_ret;have e1:(aJ.filter λm=>!del m)=aJ:=List.filter_eq_self.2 λm hm=>by rw[H2.l1 m hm];rfl
  rw[e1];exact⟨by rw[<-H.out.2.2.2.1];rfl,H.out.2.2.1.cs.fr H2.o0 (by simp),H2.o0.mono (by simp)⟩
 ·have Gd:i0<n:=by rw[H.out.2.2.2.1];exact (lA.1 tu).1
  have aA:=H.out.2.1;rw[H.out.2.2.2.1]at aA;have h00:0<aJ.length:=by have:=H.out.2.2.2.1;omega
  obtain⟨g,A0,rfl,C6,_,_,hO⟩:=ZK aA h00;clear h00;rw[<-H.out.2.2.2.1]at hO;have bF:aJ.take (i0+1)=aJ.take i0++[m0]:=by rw[zG,tu];rfl
  have NQ:((List.range i0).map λt=>(zU aJ t).m)=(aJ.take (i0+1)).filter λm=>!del m:=by
   rw[bF,CG,List.filter_eq_self.2 λm hm=>by rw[H2.l1 m hm];rfl];simp only[G8,Jc,Bool.not_true,Fq,if_false,List.filter_nil,nF];apply List.ext_getElem?;intro t;rw[j5];by_cases ht:t<i0
   ·rw[List.getElem?_range ht,List.getElem?_take_of_lt ht];obtain⟨m,hm⟩:∃m,aJ[t]?=some m:=⟨_,bO (by rw[<-H.out.2.2.2.1];omega)⟩;rw[hm,CA,G4 hm];rfl
   ·rw[wg (by simp;omega),wg (by simp;omega)];rfl
  have HO:=au hO C6 NQ;clear aA hO C6 NQ bF tu Jc;have bR:((i0:Int) == -1)=false:=by simp only[beq_eq_false_iff_ne];omega
  go_upto_region 5 with fail;clear bR;go_loopg [5,6] (n-(i0+1)) (λk s5 s6 wr=>∃(i j:Nat) (f1:Nat->Mo),s5 = .int .i64 (i:Nat)/\s6 = .int .i64 (j:Nat)/\j+k=n/\i<j/\j<=n/\Ow wr g 34 A0 n f1/\((List.range i).map λt=>(f1 t).m)=((aJ.take j).filter λm=>!del m)/\(∀t,j<=t->f1 t=zU aJ t)/\Fr [g] w wr);case atStart=>exact⟨i0,i0+1,zU aJ,rfl,by go_num,by omega,by omega,by omega,HO.o0.fr H2.o0,HO.l2,λ_ _=>rfl,H2.o0.mono (by simp)⟩
  case round=>
   obtain⟨i,j,f1,rfl,rfl,eG,jW,CU,hO,hr,aG,hf⟩:=hrel;by_cases hj:j<n
   ·obtain⟨k,rfl⟩:∃k,gk=k+1:=⟨gk-1,by omega⟩;obtain⟨m,hm⟩:∃m,aJ[j]?=some m:=⟨aJ[j]'(by rw[<-H.out.2.2.2.1];exact hj),bO _⟩;have OG:f1 j=mo m:=by rw[aG j (aw _),G4 hm]
    have bg:=H.out.2.2.2.2 m (iC hm);have bF:aJ.take (j+1)=aJ.take j++[m]:=by rw[zG,hm];rfl
    obtain⟨A,hA,cG,gP,cM,eH⟩:=hO;have X:=eH j hj;rw[OG]at X;obtain⟨d,hd⟩:=ah (del m);rw[<-hd]at bg;have HT:=rV hA cG gP cM eH hr aG hf bF hd OG eG;clear hA cG gP cM eH hr aG hf bF hd OG hm eG;obtain⟨⟨kd,bs,id,at_,crc⟩,xa,xc⟩:=m;simp only[dG]at bg;have c0:wr.cell? ⟨g,j*5,none⟩=some (.int .i64 kd):=(cell_of HT.out.1 (j*5)).trans (X 0 (by decide));have c1:wr.cell? ⟨g,j*5+1,none⟩=some (.slice xa bs.length xc):=(cell_of HT.out.1 (j*5+1)).trans (X 1 (by decide));have c2:wr.cell? ⟨g,j*5+2,none⟩=some (.string (str id)):=(cell_of HT.out.1 (j*5+2)).trans (X 2 (by decide));have c3:wr.cell? ⟨g,j*5+3,none⟩=some (.int .i64 at_):=(cell_of HT.out.1 (j*5+3)).trans (X 3 (by decide));have c4:wr.cell? ⟨g,j*5+4,none⟩=some (.int .u32 crc):=(cell_of HT.out.1 (j*5+4)).trans (X 4 (by decide));obtain⟨bl,bK⟩:=ah bs.length;rw[<-bK]at c1 bg;have HC:=ak bg bK;clear bg X bK;go_upto_region 8 with (guard_target =~ wpList _ _ _ (⟨_,Op.store _ _ _,_,_,_,_⟩::_) _ _;refine wpList_store_row rfl 34 (.tmp 7) (.tmp 25) rfl wr.heap.size #[.int .i64 kd,.slice xa bl xc,.string (str id),.int .i64 at_,.int .u32 crc] rfl rfl 34 _ (bx _ _) gL rfl (by kernel_rfl) ?_);clear c0 c1 c2 c3 c4;simp only[Act.put];generalize bq:World.setRow _ _ _=w3;obtain⟨X,hX⟩:=ah wr.heap.size;rw[<-hX]at bq ⊢;have AV:w3.heap[X]?=some (.cells #[.int .i64 kd,.slice xa bl xc,.string (str id),.int .i64 at_,.int .u32 crc] 34 (0,0)):=by rw[<-bq,hX];exact setRow_heap _ _ _ _ _ _ (bx _ _)
    have f3:Fr [] wr w3:=by rw[<-bq,hX];exact ((Fr.refl [] wr).alloc _).setRow (.inr (aw _)) _
    have HX:=ak AV f3;clear AV f3 bq hX;cases d with
    | true=>
     go_wp2_with (guard_target =~ wpList _ _ _ (⟨_,Op.load _ _,_,_,_,_⟩::_) _ _;refine wpList_load_row rfl 34 (.tmp 7) rfl X rfl 34 #[.int .i64 kd,.slice xa bl xc,.string (str id),.int .i64 at_,.int .u32 crc] (0,0) _ HX.o0 Tryz.underlying34 rfl gL ?_);refine (HC.o0 _ (HT.out.2.2.2.2.2.2.2.1.trans (HX.l1.mono (by simp)))).mono ?_;rintro e w4 ⟨rfl,f4⟩;have H4:=af f4;clear f4;go_wp2;go_roundg k;case measure=>have:=HT.out.2.2.2.2.2.2.2.2.2.2.2;omega
     case rel=>
      obtain⟨hA,cG,gP,cM,eH,hr,aG,hf,bF,hd,OG,eG⟩:=HT.out;have f34:=HX.l1.trans H4.out;refine⟨i,j+1,f1,rfl,by go_num,by omega,by omega,by omega,⟨A,f34.ae hA (by simp),cG,gP,cM,eH⟩,?_,λt ht=>aG t (by omega),hf.trans (f34.mono (by simp))⟩;rw[bF,CG,hr];simp[<-hd]
    | false=>
     go_wp2_with (guard_target =~ wpList _ _ _ (⟨_,Op.load _ _,_,_,_,_⟩::_) _ _;refine wpList_load_row rfl 34 (.tmp 7) rfl X rfl 34 #[.int .i64 kd,.slice xa bl xc,.string (str id),.int .i64 at_,.int .u32 crc] (0,0) _ HX.o0 Tryz.underlying34 rfl gL ?_);refine (HC.o0 _ (HT.out.2.2.2.2.2.2.2.1.trans (HX.l1.mono (by simp)))).mono ?_;rintro e w4 ⟨rfl,f4⟩;have DU:=f4.ae HX.o0 (by simp);have vq:=(HX.l1.trans f4).ae HT.out.1 (by simp);have z0:=aO vq (i*5);have z1:=aO vq (i*5+1);have z2:=aO vq (i*5+2);have z3:=aO vq (i*5+3);have z4:=aO vq (i*5+4);have q0:w4.cell? ⟨g,i*5,none⟩=some (.int .i64 (f1 i).m.1.kind):=(cell_of vq (i*5)).trans (HT.out.2.2.2.2.1 i (by omega) 0 (by decide));have q1:w4.cell? ⟨g,i*5+1,none⟩=some (.slice (f1 i).m.2.1 (f1 i).m.1.body.length (f1 i).m.2.2):=(cell_of vq (i*5+1)).trans (HT.out.2.2.2.2.1 i (by omega) 1 (by decide));have q2:w4.cell? ⟨g,i*5+2,none⟩=some (.string (str (f1 i).m.1.id)):=(cell_of vq (i*5+2)).trans (HT.out.2.2.2.2.1 i (by omega) 2 (by decide));have q3:w4.cell? ⟨g,i*5+3,none⟩=some (.int .i64 (f1 i).m.1.at_):=(cell_of vq (i*5+3)).trans (HT.out.2.2.2.2.1 i (by omega) 3 (by decide));have q4:w4.cell? ⟨g,i*5+4,none⟩=some (.int .u32 ((f1 i).m.1.crc:Nat)):=(cell_of vq (i*5+4)).trans (HT.out.2.2.2.2.1 i (by omega) 4 (by decide));have H4:=au (HX.l1.trans f4) DU vq;clear f4 DU vq;go_wp2_with (guard_target =~ wpList _ _ _ (⟨_,Op.load _ _,_,_,_,_⟩::_) _ _;refine wpList_load_row rfl 34 (.tmp 7) rfl X rfl 34 #[.int .i64 kd,.slice xa bl xc,.string (str id),.int .i64 at_,.int .u32 crc] (0,0) _ H4.out.2.1 Tryz.underlying34 rfl gL ?_);go_roundg k;case measure=>have:=HT.out.2.2.2.2.2.2.2.2.2.2.2;omega
     case rel=>
      obtain⟨hA,cG,gP,cM,eH,hr,aG,hf,bF,hd,OG,eG⟩:=HT.out;rw[HC.l1];obtain⟨w5,mR⟩:∃w5,w5=(((((w4.setCell ⟨g,i*5,none⟩ (.int .i64 kd)).setCell ⟨g,i*5+1,none⟩ (.slice xa bs.length xc)).setCell ⟨g,i*5+2,none⟩ (.string (str id))).setCell ⟨g,i*5+3,none⟩ (.int .i64 at_)).setCell ⟨g,i*5+4,none⟩ (.int .u32 (crc:Nat))):=⟨_,rfl⟩;rw[<-mR];have Lx:w5.heap[g]?=some (.cells (gj A i (⟨kd,bs,id,at_,crc⟩,xa,xc)) 34 (0,0)):=by rw[mR];exact aX (aX (aX (aX (aX H4.out.2.2 _) _) _) _) _
      have f45:Fr [g] w4 w5:=by rw[mR];exact (((((Fr.refl [g] w4).setCell (by simp) _).setCell (by simp) _).setCell (by simp) _).setCell (by simp) _).setCell (by simp) _
      refine⟨i+1,j+1,λt=>if t=i then mo (⟨kd,bs,id,at_,crc⟩,xa,xc) else f1 t,by go_num,by go_num,by omega,by omega,by omega,Ow.lay w5 (mo (⟨kd,bs,id,at_,crc⟩,xa,xc)) cG gP cM eH (by omega) Lx,?_,λt ht=>?_,(hf.trans (H4.out.1.mono (by simp))).trans f45⟩
      ·rw[bF,CG,<-hr,Kg,gB];congr 1
       ·refine CD λt ht=>?_
        have h1:t≠i:=by simp at ht;omega
        simp[h1]
       ·simp[<-hd,mo]
      ·have h1:t≠i:=by omega
       simp only[if_neg h1];exact aG t (by omega)
   ·obtain rfl:j=n:=by omega
    have e1:aJ.take j=aJ:=by rw[H.out.2.2.2.1,G9]
    rw[e1]at hr;obtain⟨A,hA,cG,gP,cM,eH⟩:=id hO;obtain⟨zs,uJ,fH⟩:=qus wr g (i*5) (j-i) (c-i) A _ hA (by omega) (by omega);obtain⟨row,dI⟩:=ah ((A.toList.take (i*5)++zs++A.toList.drop (i*5+zs.length)).toArray);rw[<-dI]at fH;have hcs:=zas row (c:=c) (k:=i) hO (by omega) zs (λA' h'=>by rw[hA]at h';cases h';exact dI);rw[hr]at hcs;have hlen:i=(aJ.filter λm=>!del m).length:=by have:=congrArg List.length hr;simpa using this
    have HE:=au hcs hlen (hf.trans ((Fr.refl [g] wr).setRow (g:=g) (.inl (by simp)) row));have Ox:i<c:=by omega
    clear hcs hlen hf hO hr aG dI uJ hA cG gP cM eH e1 eG;go_wp2;go_ret;exact⟨by rw[<-HE.o1];rfl,HE.o0,HE.l2⟩
theorem qws (a:Option Addr) (c:Nat) (aJ:List OM) (w:World) (h:jM w a c aJ) (hl:aJ.length<=1000000) (hp:obj.Pw w) :
  Calls Tryz.prog 31 #[.slice a aJ.length c] w (yv w ((aJ.filter λm=>okB m.1).map (·.1))):=by
 have hc:=zei a c aJ w h hl;have hb:∀m∈aJ,∀y∈ae m.2.1,m.1.body≠[]->y<w.heap.size:=λm hm y hy bR=>by
  have bP:=h.rd m hm;cases hz:m.2.1 with
  | none=>rw[hz]at hy;simp[ae]at hy
  | some z=>have:=bP.cs.lt (by simpa using bR) z hz;rw[hz]at hy;simp[ae]at hy;omega
 have Bv:∀a2 c2 w2,Made w w2 34 5 a2 aJ.length c2 (aJ.flatMap oL)->Calls Tryz.prog 32 #[.slice a2 aJ.length c2,.func (.func 61) #[] #[]] w2 λe w'=>e = .returned (.slice a2 (aJ.filter λm=>okB m.1).length c2)/\Cs w' a2 ((aJ.filter λm=>okB m.1).flatMap oL)/\Fr (ae a2) w2 w':=λa2 c2 w2 M=>by
  have dI:jM w2 a2 c2 aJ:=⟨Fe M.own,M.le,M.max,M.nil,λm hm=>(h.rd m hm).fr M.fr⟩;have:=zbu (λm=>!okB m.1) 61 #[] (λ_ _=>by kernel_rfl) a2 c2 aJ w2 M.own dI hl
   (λm hm w' f=>qut m w' (by
    have bP:=(h.rd m hm).fr M.fr
    by_cases bR:m.1.body=[]
    ·refine⟨.inl (by rw[bR];rfl),bP.le,bP.max,bP.nil⟩
    ·exact bP.gg f (λy hy h2=>by have h3:=M.new y h2;have h4:=hb m hm y hy bR;omega)) (hp.fr (M.fr.step f (λy hy=>.inr (M.new y hy)))))
  simpa only[Bool.not_not] using this
 obtain⟨n,hn⟩:=ah aJ.length;have nN:(aJ.filter λm=>okB m.1).length<=n:=by rw[hn];exact DF _ _
 obtain⟨fl,Br⟩:=ah (aJ.filter λm=>okB m.1);obtain⟨n2,iJ⟩:=ah fl.length;have D9:∀m∈fl,lib.Rd w m.2.1 m.2.2 m.1.body:=λm hm=>h.rd m (by rw[Br]at hm;exact (G5.1 hm).1)
 rw[<-Br]at nN Bv ⊢;rw[<-iJ]at nN Bv;rw[<-hn]at hc Bv ⊢;have H:=cz hc Bv nN iJ D9 hb Br;clear hc Bv h hl hp hn nN iJ D9 hb Br;go_enter Tryz.func31,Tryz.ntmps31;go_wp2_with (first
  | (go_at_call 60;refine H.out.1.mono ?_;rintro e w2 ⟨a2,c2,rfl,M⟩;have H2:=af M;clear M)
  | (go_at_call 32;refine (H.out.2.1 _ _ _ H2.out).mono ?_;rintro e w3 ⟨rfl,hcs,f3⟩;have H3:=ak hcs f3;clear hcs f3))
 go_ret;obtain⟨_,_,nN,iJ,D9,hb,Br⟩:=H.out;have f13:Fr [] w w3:=H2.out.fr.step H3.l1 (λy hy=>.inr (H2.out.new y hy));refine⟨a2,c2,fl,by rw[iJ];rfl,⟨H3.o0,by rw[<-iJ];exact bS nN H2.out.le,H2.out.max,H2.out.nil,λm hm=>(D9 m hm).fr f13⟩,f13,rfl⟩
end os
namespace os
open Go Go.RowKit lib bm pk
theorem Ib (g:Nat) (T:TypeId) (A0:Array Value) (L cap n a b:Nat) (f:Nat->Mo) (cmp:Value) (w:World)
  (h:Ow w g T A0 L f) (ha:a+n<=b) (hb:b+n<=L) (hL:L<=100000) :
  Calls Tryz.prog 164 #[.slice (some ⟨g,0,none⟩) L cap,.int .i64 a,.int .i64 b,.int .i64 n,cmp] w λe w'=>e = .returned (.tuple #[])/\Ow w' g T A0 L (mz f a b n)/\Fr [g] w w':=by
 have H:=af h;clear h;go_enter Tryz.func164,Tryz.ntmps164;go_wp2;go_loopg [10] n (λk s10 wr=>∃i:Nat,s10 = .int .i64 (i:Nat)/\i+k=n/\Ow wr g T A0 L (mz f a b i)/\Fr [g] w wr);case atStart=>exact⟨0,rfl,by omega,H.out,.refl _ w⟩
 case round=>
  obtain⟨i,rfl,bU,hD,hf⟩:=hrel;by_cases hi:i<n
  ·obtain⟨k,rfl⟩:∃k,gk=k+1:=⟨gk-1,by omega⟩;obtain⟨x,hx⟩:=ah (a+i);obtain⟨y,hy⟩:=ah (b+i);have e0:((a:Int)+(i:Int))=(x:Int):=by omega
   have e1:((b:Int)+(i:Int))=(y:Int):=by omega
   have g2:decide ((L:Int)<=(x:Int))=false:=by simp;omega
   have g4:decide ((L:Int)<=(y:Int))=false:=by simp;omega
   have kE:x<L:=by omega
   have qZ:y<L:=by omega
   have rG:x≠y:=by omega
   have HX:=au hf hx hy;clear hf hx hy;obtain⟨A,hA,cG,gP,cM,eH⟩:=hD;obtain⟨cx,iy⟩:=ah ((mz f a b i) x);obtain⟨cy,iL⟩:=ah ((mz f a b i) y);have X:=eH x kE;have Y:=eH y qZ;rw[<-iy]at X;rw[<-iL]at Y;have d0:wr.cell? ⟨g,x*5,none⟩=some (.int .i64 cx.m.1.kind):=(cell_of hA (x*5)).trans (X 0 (by decide));have d1:wr.cell? ⟨g,x*5+1,none⟩=some (.slice cx.m.2.1 cx.m.1.body.length cx.m.2.2):=(cell_of hA (x*5+1)).trans (X 1 (by decide));have d2:wr.cell? ⟨g,x*5+2,none⟩=some (.string (str cx.m.1.id)):=(cell_of hA (x*5+2)).trans (X 2 (by decide));have d3:wr.cell? ⟨g,x*5+3,none⟩=some (.int .i64 cx.m.1.at_):=(cell_of hA (x*5+3)).trans (X 3 (by decide));have d4:wr.cell? ⟨g,x*5+4,none⟩=some (.int .u32 (cx.m.1.crc:Nat)):=(cell_of hA (x*5+4)).trans (X 4 (by decide));have d5:wr.cell? ⟨g,y*5,none⟩=some (.int .i64 cy.m.1.kind):=(cell_of hA (y*5)).trans (Y 0 (by decide));have d6:wr.cell? ⟨g,y*5+1,none⟩=some (.slice cy.m.2.1 cy.m.1.body.length cy.m.2.2):=(cell_of hA (y*5+1)).trans (Y 1 (by decide));have d7:wr.cell? ⟨g,y*5+2,none⟩=some (.string (str cy.m.1.id)):=(cell_of hA (y*5+2)).trans (Y 2 (by decide));have d8:wr.cell? ⟨g,y*5+3,none⟩=some (.int .i64 cy.m.1.at_):=(cell_of hA (y*5+3)).trans (Y 3 (by decide));have d9:wr.cell? ⟨g,y*5+4,none⟩=some (.int .u32 (cy.m.1.crc:Nat)):=(cell_of hA (y*5+4)).trans (Y 4 (by decide));have dQ:=cz hA cG gP cM eH iy iL;clear hA cG gP cM eH iy iL X Y;go_upto_region 3 with fail;refine DC [(0,0),(0,1),(0,2),(0,3),(0,4),(0,5),(0,6),(0,7),(0,8),(0,9),(0,10),(0,11),(0,12),(1,13),(0,14),(0,15),(0,16),(0,17),(0,18),(1,19),(0,20),(2,21),(0,22),(2,23)] [g] [21,23] (by kernel_rfl) (by kernel_rfl) (λ_ _ d _ _ h=>by cases d<;>exact h) ?_;simp only[gW,oJ,yT,yS];refine ko 13 rfl ?_;simp only[aU];repeat (go_big_quiet_step (fail))
   refine wpQuiet_nil ?_;refine tT 1 rfl ?_;simp only[aU];repeat (go_big_quiet_step (fail))
   refine wpQuiet_nil ?_;refine ko 5 rfl ?_;simp only[aU];repeat (go_big_quiet_step (fail))
   refine wpQuiet_nil ?_;refine tT 1 rfl ?_;simp only[aU];repeat (go_big_quiet_step (fail))
   refine wpQuiet_nil ?_;refine ko 1 rfl ?_;simp only[aU];repeat (go_big_quiet_step (fail))
   refine wpQuiet_nil ?_;refine tS rfl ?_;intro K hK;have z0:=aO dQ.out.1 (x*5);have z1:=aO dQ.out.1 (x*5+1);have z2:=aO dQ.out.1 (x*5+2);have z3:=aO dQ.out.1 (x*5+3);have z4:=aO dQ.out.1 (x*5+4);go_wp2;refine hK.out _ _ (Fr.aS (((((((Fr.refl [g] wr).setCell (by simp) _).setCell (by simp) _).setCell (by simp) _).setCell (by simp) _).setCell (by simp) _).drew)) ?_;clear hK K z0 z1 z2 z3 z4;obtain⟨dW,bQ⟩:∃dW,dW=(((((wr.setCell ⟨g,x*5,none⟩ (.int .i64 cy.m.1.kind)).setCell ⟨g,x*5+1,none⟩ (.slice cy.m.2.1 cy.m.1.body.length cy.m.2.2)).setCell ⟨g,x*5+2,none⟩ (.string (str cy.m.1.id))).setCell ⟨g,x*5+3,none⟩ (.int .i64 cy.m.1.at_)).setCell ⟨g,x*5+4,none⟩ (.int .u32 (cy.m.1.crc:Nat))):=⟨_,rfl⟩;rw[<-bQ];have bH:dW.heap[g]?=some (.cells (gj A x cy.m) T (0,0)):=by rw[bQ];exact aX (aX (aX (aX (aX dQ.out.1 _) _) _) _) _
   obtain⟨A1,hB⟩:=ah (gj A x cy.m);rw[<-hB]at bH;have z0:=aO bH (y*5);have z1:=aO bH (y*5+1);have z2:=aO bH (y*5+2);have z3:=aO bH (y*5+3);have z4:=aO bH (y*5+4);have c0:dW.cell? ⟨g,y*5,none⟩=some (.int .i64 cy.m.1.kind):=by rw[cell_of bH,hB,oe _ _ _ _ (by omega),<-cell_of dQ.out.1];exact d5
   have c1:dW.cell? ⟨g,y*5+1,none⟩=some (.slice cy.m.2.1 cy.m.1.body.length cy.m.2.2):=by rw[cell_of bH,hB,oe _ _ _ _ (by omega),<-cell_of dQ.out.1];exact d6
   have c2:dW.cell? ⟨g,y*5+2,none⟩=some (.string (str cy.m.1.id)):=by rw[cell_of bH,hB,oe _ _ _ _ (by omega),<-cell_of dQ.out.1];exact d7
   have c3:dW.cell? ⟨g,y*5+3,none⟩=some (.int .i64 cy.m.1.at_):=by rw[cell_of bH,hB,oe _ _ _ _ (by omega),<-cell_of dQ.out.1];exact d8
   have c4:dW.cell? ⟨g,y*5+4,none⟩=some (.int .u32 (cy.m.1.crc:Nat)):=by rw[cell_of bH,hB,oe _ _ _ _ (by omega),<-cell_of dQ.out.1];exact d9
   have vW:=au bH hB bQ;clear bH hB bQ d0 d1 d2 d3 d4 d5 d6 d7 d8 d9;refine ko 1 rfl ?_;simp only[aU];repeat (go_big_quiet_step (fail))
   refine wpQuiet_nil ?_;refine tS rfl ?_;intro K hK;go_wp2;refine hK.out _ _ (Fr.aS (((((((Fr.refl [g] dW).setCell (by simp) _).setCell (by simp) _).setCell (by simp) _).setCell (by simp) _).setCell (by simp) _).drew)) ?_;clear hK K z0 z1 z2 z3 z4 c0 c1 c2 c3 c4;refine Dy ?_;obtain⟨w2,bq⟩:∃w2,w2=(((((dW.setCell ⟨g,y*5,none⟩ (.int .i64 cx.m.1.kind)).setCell ⟨g,y*5+1,none⟩ (.slice cx.m.2.1 cx.m.1.body.length cx.m.2.2)).setCell ⟨g,y*5+2,none⟩ (.string (str cx.m.1.id))).setCell ⟨g,y*5+3,none⟩ (.int .i64 cx.m.1.at_)).setCell ⟨g,y*5+4,none⟩ (.int .u32 (cx.m.1.crc:Nat))):=⟨_,rfl⟩;rw[<-bq];have HZ:Hid (Ow w2 g T A0 L (swp (mz f a b i) y x)/\Fr [g] wr w2):=by
    obtain⟨hA,cG,gP,cM,eH,iy,iL⟩:=dQ.out;obtain⟨bH,hB,bQ⟩:=vW.out;have gQ:w2.heap[g]?=some (.cells (gj A1 y cx.m) T (0,0)):=by rw[bq];exact aX (aX (aX (aX (aX bH _) _) _) _) _
    rw[hB]at gQ;exact af ⟨Ow.swap _ cx cy cG gP cM eH kE qZ rG iy iL gQ,by rw[bq,bQ];exact (((((((((((Fr.refl [g] wr).setCell (by simp) _).setCell (by simp) _).setCell (by simp) _).setCell (by simp) _).setCell (by simp) _).setCell (by simp) _).setCell (by simp) _).setCell (by simp) _).setCell (by simp) _).setCell (by simp) _)⟩
   clear bq;go_wp2;go_roundg k;case measure=>omega
   case rel=>obtain⟨hf,hx,hy⟩:=HX.out;refine⟨i+1,by go_num,by omega,?_,hf.trans HZ.l1.drew⟩;rw[mz,<-hx,<-hy];exact HZ.o0.drew
  ·obtain rfl:i=n:=by omega
   have HI:=ak hD hf;clear hD hf;go_wp2;(try simp only[Exit.inBlock,Exit.then]);refine bodyPost_end (results_none rfl _ _ _) rfl ?_;exact⟨rfl,HI.o0,HI.l1⟩
theorem yM (g:Nat) (T:TypeId) (A0:Array Value) (L cap a m b:Nat) (f:Nat->Mo) (cmp:Value) (w:World)
  (h:Ow w g T A0 L f) (ha:a<m) (hb:m<b) (xe:b<=L) (hL:L<=100000) :
  Calls Tryz.prog 132 #[.slice (some ⟨g,0,none⟩) L cap,.int .i64 a,.int .i64 m,.int .i64 b,cmp] w λe w'=>e = .returned (.tuple #[])/\Ow w' g T A0 L (ay f a m b)/\Fr [g] w w':=by
 have H:=af h;clear h;obtain⟨i0,Gd⟩:=ah (m-a);obtain⟨j0,Ot⟩:=ah (b-m);have e0:(m:Int)-(a:Int)=(i0:Int):=by omega
 have e1:(b:Int)-(m:Int)=(j0:Int):=by omega
 have H0:=aP Gd Ot ha hb xe;have hm:m<=100000:=by omega
 have Oy:1<=i0:=by omega
 have XJ:1<=j0:=by omega
 have hi2:i0<=100000:=by omega
 have CV:j0<=100000:=by omega
 clear Gd Ot ha hb xe;go_enter Tryz.func132,Tryz.ntmps132;go_wp2;go_loopg [10,11] (i0+j0) (λk s10 s11 wr=>∃i j:Nat,s10 = .int .i64 (i:Nat)/\s11 = .int .i64 (j:Nat)/\k=i+j/\1<=i/\1<=j/\i<=m/\m+j<=L/\∃f1,Ow wr g T A0 L f1/\ay f1 (m-i) m (m+j)=ay f a m b/\Fr [g] w wr);case atStart=>obtain⟨k0,k1,k2,k3,k4⟩:=H0.out;exact⟨i0,j0,rfl,rfl,rfl,Oy,XJ,by omega,by omega,f,H.out,by rw[show m-i0=a from by omega,show m+j0=b from by omega],.refl _ w⟩
 case round=>
  obtain⟨i,j,rfl,rfl,hk,k1,k2,k3,k4,f1,hD,hr,hf⟩:=hrel;obtain⟨p,hp⟩:=ah (m-i);have e2:(m:Int)-(i:Int)=(p:Int):=by omega
  have b1:i<=100000:=by omega
  have b2:j<=100000:=by omega
  rw[<-hp]at hr;by_cases jW:i=j
  ·subst jW;have hs:=Ib g T A0 L cap i p m f1 cmp wr hD (by omega) (by omega) hL;have er:mz f1 p m i=ay f a m b:=by rw[<-hr,hp];exact T6 f1 m i k3
   rw[er]at hs;have HI:=ak hs hf;clear hs hr er hf hD hp k3 k4;go_wp2_with (go_at_call 164;refine HI.o0.mono ?_;rintro e w2 ⟨rfl,dM,dK⟩);(try simp only[Exit.inBlock,Exit.then]);refine bodyPost_end (results_none rfl _ _ _) rfl ?_;exact⟨rfl,dM,HI.l1.trans dK⟩
  ·have bR:((i:Int)==(j:Int))=false:=by simp only[beq_eq_false_iff_ne];omega
   by_cases hgt:j<i
   ·have hs:=Ib g T A0 L cap j p m f1 cmp wr hD (by omega) (by omega) hL;have er:=T8 f1 m i j k3 hgt;rw[<-hp]at er;have HI:=bJ hs hf er hr hp hk;clear hs hr er hf hD hp hk;obtain⟨q,hq⟩:=ah (i-j);have e3:(i:Int)-(j:Int)=(q:Int):=by omega
    have HQ:=af hq;clear hq;go_wp2_with (go_at_call 164;refine HI.o0.mono ?_;rintro e w2 ⟨rfl,dM,dK⟩;have HW:=ak dM dK;clear dM dK);have hq:=HQ.out;have hk:=HI.l1.2.2.2.2;go_roundg (q+j);case measure=>omega
    case rel=>exact⟨q,j,by go_num,rfl,rfl,by omega,k2,by omega,k4,_,HW.o0,by rw[hq,HI.l1.2.1,HI.l1.2.2.1],HI.l1.1.trans HW.l1⟩
   ·have aY:i<j:=by omega
    obtain⟨q,hq⟩:=ah (m+j-i);have e3:(m:Int)+(j:Int)-(i:Int)=(q:Int):=by omega
    have hs:=Ib g T A0 L cap i p q f1 cmp wr hD (by omega) (by omega) hL;have er:=T9 f1 m i j k3 aY;rw[<-hp,<-hq]at er;have HI:=cz hs hf er hr hp hk hq;clear hs hr er hf hD hp hk hq;obtain⟨d,hd⟩:=ah (j-i);have e4:(j:Int)-(i:Int)=(d:Int):=by omega
    have HQ:=af hd;clear hd;go_wp2_with (go_at_call 164;refine HI.o0.mono ?_;rintro e w2 ⟨rfl,dM,dK⟩;have HW:=ak dM dK;clear dM dK);have hd:=HQ.out;have hk:=HI.l1.2.2.2.2.1;have hp:=HI.l1.2.2.2.1;go_roundg (i+d);case measure=>omega
    case rel=>exact⟨i,d,rfl,by go_num,rfl,k1,by omega,k3,by omega,_,HW.o0,by rw[<-hp,hd,HI.l1.2.1,HI.l1.2.2.1],HI.l1.1.trans HW.l1⟩
end os

end Go.Proofs.YtkmpfgpfbmeihaaGreatDoor