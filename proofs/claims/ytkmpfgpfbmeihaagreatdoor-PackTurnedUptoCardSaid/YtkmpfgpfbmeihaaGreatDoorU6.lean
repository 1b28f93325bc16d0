/-
  Texts of this proof, one behind the other: Mat, MatE, MatM, Each, HuffPm.
-/
import Derived.Test.YtkmpfgpfbmeihaaGreatDoorU5
import Derived.Maps.OwnOps
import Derived.Maps.OwnSet
set_option maxHeartbeats 16000000
set_option maxRecDepth 100000
set_option linter.unusedVariables false
set_option linter.unusedSimpArgs false
namespace Go.Proofs.YtkmpfgpfbmeihaaGreatDoor
namespace mat
open Go Go.RowKit lib bm
theorem or8 (x y:Nat) (hx:x<256) (hy:y<256):bits .or .u32 (x:Int) ((y:Int)*256)=((x+256*y:Nat):Int):=by have h:=Uy x y 8 8 hx hy (by decide);rw[Int.emod_eq_of_lt (by omega) (by have e:(2:Int)^8=256:=rfl;rw[e];omega)]at h;exact h
theorem Wq (x y:Nat) (hx:x<65536) (hy:y<256):bits .or .u32 (x:Int) ((y:Int)*65536)=((x+65536*y:Nat):Int):=by have h:=Uy x y 16 8 hx hy (by decide);rw[Int.emod_eq_of_lt (by omega) (by have e:(2:Int)^16=65536:=rfl;rw[e];omega)]at h;exact h
theorem pG (b:List UInt8) (i:Nat):three (b.drop i) 0=three b i:=by unfold three;simp only[CH,jS,fM]
theorem qpx (a:Option Addr) (cap:Nat) (d:List UInt8) (w:World) (h:Rd w a cap d) (h3:3<=d.length) :
  Calls Tryz.prog 153 #[.slice a d.length cap] w λe w'=>e = .returned (.int .u32 (three d 0))/\∃n,w'=w.drewN n:=by
 obtain⟨g,o,rfl,c0⟩:=h.at (i:=0) (by omega);obtain⟨g1,o1,e1,c1⟩:=h.at (i:=1) (by omega);obtain⟨g2,o2,e2,c2⟩:=h.at (i:=2) (by omega);simp only[eS,qU,and_true]at e1 e2;obtain⟨rfl,rfl⟩:=e1;obtain⟨rfl,rfl⟩:=e2;have hle:=h.le;have b0:(d[0]?.getD 0)=d[0]:=by rw[bO (by omega)];rfl
 have b1:(d[1]?.getD 0)=d[1]:=by rw[bO (by omega)];rfl
 have b2:(d[2]?.getD 0)=d[2]:=by rw[bO (by omega)];rfl
 have ht:three d 0=d[0].toNat+256*d[1].toNat+65536*d[2].toNat:=by unfold three;rw[fM,fM,b0,b1,b2]
 have l0:=iB d[0];have l1:=iB d[1];have l2:=iB d[2];rw[ht];generalize d[0].toNat=x0 at *;generalize d[1].toNat=x1 at *;generalize d[2].toNat=x2 at *;have o1:=or8 x0 x1 (by omega) (by omega);obtain⟨y,hy⟩:=ah (x0+256*x1);rw[<-hy]at o1;have o2:=Wq y x2 (by omega) (by omega);rw[<-hy];obtain⟨z,hz⟩:=ah (y+65536*x2);rw[<-hz]at o2 ⊢;clear hy hz;have g0:(0:Int)<(d.length:Int):=by omega
 have g1:(1:Int)<(d.length:Int):=by omega
 have g2:(2:Int)<(d.length:Int):=by omega
 simp only[jS]at c0;clear h b0 b1 b2 ht;go_enter Tryz.func153,Tryz.ntmps153;go_wp2_with fail;go_quiet (fail);go_wp2;go_ret;exact⟨rfl,_,rfl⟩
theorem qnj {b:List UInt8} {i j f n:Nat} (h:¬(j+n<b.length/\b[i+n]?=b[j+n]?)):eM b i j f n=n:=by
 cases f with
 | zero=>rfl
 | succ f=>rw[eM,if_neg h]
theorem qzq (a:Option Addr) (cap i j:Nat) (b:List UInt8) (w:World) (h:Rd w a cap b) (jW:i<=j) (hj:j<=b.length) :
  Calls Tryz.prog 154 #[.slice a b.length cap,.int .i64 i,.int .i64 j] w λe w'=>e = .returned (.int .i64 (alike b i j))/\Fr [] w w':=by
 have hle:=h.le;have dv:=h.max;unfold maxLen at dv;obtain⟨L,hL⟩:=ah b.length;rw[<-hL]at hle hj ⊢;have H:=ak h hL;clear h hL;go_enter Tryz.func154,Tryz.ntmps154;go_upto_block 0 with fail;go_wp2;go_loopg [7] 258 (λk s7 wr=>∃n:Nat,s7 = .int .i64 (n:Nat)/\n+k=258/\j+n<=L/\eM b i j k n=alike b i j/\Fr [] w wr);case atStart=>exact⟨0,rfl,rfl,by omega,rfl,Fr.refl _ _⟩
 case round=>
  obtain⟨n,rfl,hn,CU,mW,hf⟩:=hrel;have HF:=ak mW hf;clear mW hf;obtain⟨m1,jb⟩:=ah (i+n);obtain⟨m2,hU⟩:=ah (j+n);have e1:(i:Int)+(n:Int)=(m1:Int):=by omega
  have e2:(j:Int)+(n:Int)=(m2:Int):=by omega
  have w1:IntKind.i64.wrap ((i:Int)+(n:Int))=(m1:Int):=by rw[oh];omega
  have w2:IntKind.i64.wrap ((j:Int)+(n:Int))=(m2:Int):=by rw[oh];omega
  have HE:=ak jb hU;have l1:m1<=L:=by omega
  have l2:m2<=L:=by omega
  have l3:m1<=m2:=by omega
  by_cases hn258:n<258
  ·obtain⟨k,rfl⟩:∃k,gk=k+1:=⟨gk-1,by omega⟩;have d0:decide ((n:Int)<258)=true:=by simp;omega
   by_cases c2:m2<L
   ·have d2:decide (m2<L)=true:=by simpa using c2
    have d2':decide ((m2:Int)<L)=true:=by simp;omega
    have ku:m1<b.length:=by rw[<-H.out.2];omega
    have ph:m2<b.length:=by rw[<-H.out.2];omega
    obtain⟨g1,o1,ra,X1⟩:=H.out.1.at ku;obtain⟨g2,o2,rb,X2⟩:=H.out.1.at ph;have TM:=rb;rw[ra]at TM;simp only[eS,qU,and_true]at TM;obtain⟨rfl,rfl⟩:=TM;have x1:=HF.l1.cell X1 (by simp);have x2:=HF.l1.cell X2 (by simp);clear X1 X2;obtain⟨y1,sw⟩:∃y,y=b[m1]:=⟨_,rfl⟩;obtain⟨y2,kt⟩:∃y,y=b[m2]:=⟨_,rfl⟩;rw[<-sw]at x1;rw[<-kt]at x2;have q1:b[m1]?=some y1:=by rw[sw];exact bO ku
    have q2:b[m2]?=some y2:=by rw[kt];exact bO ph
    have i1:(m1:Int)<(L:Int):=by omega
    have i2:(m2:Int)<(L:Int):=by omega
    subst ra;clear rb sw kt;by_cases ce:y1=y2
    ·have az:eM b i j (k+1) n=eM b i j k (n+1):=by rw[eM,if_pos];exact⟨by rw[<-H.out.2,<-hU];exact c2,by rw[<-jb,<-hU,q1,q2,ce]⟩
     have HS:=af (az.symm.trans HF.o0);rw[<-ce]at x2;generalize y1.toNat=n1 at *;clear ce ku ph jb hU q1 q2 az;go_upto_region 2 with fail;go_quiet (fail);clear x1 x2 w1 w2;go_wp2;go_roundg k;case measure=>omega
     case rel=>exact⟨n+1,by go_num,by omega,by have:=HE.l1;omega,HS.out,HF.l1.trans (Fr.drewN [] _ _)⟩
    ·have bR:y1.toNat≠y2.toNat:=λh=>ce (Kh.1 h)
     have az:eM b i j (k+1) n=n:=qnj λhc=>by rw[<-jb,<-hU,q1,q2]at hc;exact ce (lL hc.2)
     have HS:=af (az.symm.trans HF.o0);have d3:(((y1.toNat:Nat):Int)==((y2.toNat:Nat):Int))=false:=by simp;omega
     generalize y1.toNat=n1 at *;generalize y2.toNat=n2 at *;clear ce ku ph bR jb hU q1 q2 az;go_upto_region 2 with fail;go_quiet (fail);clear x1 x2 w1 w2;go_wp2;go_ret;exact⟨by rw[<-HS.out];rfl,HF.l1.trans (Fr.drewN [] _ _)⟩
   ·have d2:decide (m2<L)=false:=by simpa using c2
    have d2':decide ((m2:Int)<L)=false:=by simp;omega
    have az:eM b i j (k+1) n=n:=qnj λhc=>by have:=hc.1;rw[<-H.out.2]at this;omega
    have HS:=af (az.symm.trans HF.o0);clear az jb hU;go_upto_region 2 with fail;go_quiet (fail);clear w1 w2;go_wp2;go_ret;exact⟨by rw[<-HS.out];rfl,HF.l1.trans (Fr.drewN [] _ _)⟩
  ·obtain rfl:n=258:=by omega
   obtain rfl:gk=0:=by omega
   have HS:=af HF.o0;clear jb hU;go_upto_region 2 with fail;go_quiet (fail);clear w1 w2;go_wp2;go_ret;exact⟨by rw[<-HS.out];rfl,HF.l1.trans (Fr.drewN [] _ _)⟩
theorem qv6:Tryz.prog.underlying 32=some (.int .u32):=by kernel_rfl
theorem Ku:Tryz.prog.underlying 3=some (.int .i64):=by kernel_rfl
theorem Fb:Tryz.prog.underlying 239=some (.map 32 3):=by kernel_rfl
theorem MC:Maps.Keyed Tryz.prog 32:=Maps.int_keyed qv6
theorem U0 (w:World):(zeroValue 3).run Tryz.prog w = .ok (.int .i64 0) w:=by kernel_rfl
theorem qv4 {k:Nat} (h:k<4294967296):(Lit.int .u32 (k:Int)).wf=true:=WalkArith.wf_u32 (by omega)
theorem zc2 {k:Int} (h : -9223372036854775808<=k) (h2:k<=9223372036854775807):(Lit.int .i64 k).wf=true:=WalkArith.wf_i64 (by omega)
theorem qxv {k:Nat} (h:k<4294967296):keyOf Tryz.prog 32 (.int .u32 (k:Int))=some (.int .u32 (k:Int)):=Maps.keyOf_int_mk qv6 (qv4 h)
theorem qob {a:Option Addr} {cap lo:Nat} (h:lo<cap):aL a cap lo 1=Option.map (λx=>x.add lo) a:=by unfold aL;rw[if_neg (by omega),qV]
def pq:Option Nat->Int×Bool
 | none=>(0,false)
 | some p=>((p:Int),true)
def pv (b:List UInt8) (j:Nat):Int:=match last b j (three b j) with
 | none=>-1
 | some p=>(p:Int)
def nr (b:List UInt8) (i:Nat) (D:DataW Unit):Prop:=
 Maps.IsMap D/\∀k:Nat,k<4294967296->D.atKey (.int .u32 (k:Int)) (.lit (.int .i64 0)) = .lit (.int .i64 (pq (last b i k)).1)/\Maps.has D (.int .u32 (k:Int))=(pq (last b i k)).2
theorem qsi (b:List UInt8):nr b 0 (.map []):=⟨Maps.isMap_empty,λk _=>⟨rfl,rfl⟩⟩
theorem nr.put {b:List UInt8} {i:Nat} {D:DataW Unit} (h:nr b i D) (hi:i+3<=b.length):nr b (i+1) (D.put (.int .u32 (three b i:Nat)) (.lit (.int .i64 (i:Int)))):=by
 refine⟨h.1.put _ _,λk hk=>?_⟩;by_cases he:three b i=k
 ·have hl:last b (i+1) k=some i:=by rw[last,if_pos ⟨hi,he⟩]
  rw[hl,he];have qs:WideAt.IsKeyLit (.int .u32 (k:Int)):=by first|trivial|exact qv4 hk|simp[WideAt.IsKeyLit]
  exact⟨Maps.atKey_put_same h.1 qs _ _,Maps.has_put_same h.1 qs _⟩
 ·have hl:last b (i+1) k=last b i k:=by rw[last,if_neg (λhc=>he hc.2)]
  have bR:(Lit.int .u32 (k:Int))≠.int .u32 (three b i:Nat):=by intro e;simp only[Lit.int.injEq,true_and]at e;omega
  rw[hl,Maps.atKey_put_other bR,Maps.has_put_other bR];exact h.2 k hk
theorem nr.skip {b:List UInt8} {i:Nat} {D:DataW Unit} (h:nr b i D) (hi:¬i+3<=b.length):nr b (i+1) D:=by refine⟨h.1,λk hk=>?_⟩;rw[last,if_neg (λhc=>hi hc.1)];exact h.2 k hk
theorem MS {H:Type} {P:Program} {w w':World} {k:TypeId} {R:Value->Option (DataW H×List MemPlace)} {m n:Nat} {D:DataW H} (h:w.ownsMap P k R m n D) (hb:w'.heap[m]?=w.heap[m]?):w'.ownsMap P k R m n D:=by obtain⟨es,c,h1,r⟩:=h;exact⟨es,c,hb.trans h1,r⟩
theorem za3 {b:List UInt8} {i bm cnt:Nat} {D:DataW Unit} {w:World} (h:w.ownsMap Tryz.prog 32 (plainElem Tryz.prog 3) bm cnt D) (hm:nr b i D) {k:Nat} (hk:k<4294967296) :
  (Instr.lookup 239 (.map (some bm)) (.int .u32 (k:Int)) true).run Tryz.prog w = .ok (.tuple #[.int .i64 (pq (last b i k)).1,.bool (pq (last b i k)).2]) w:=by
 obtain⟨v,ps,wK,hv⟩:=h.look_ok MC Fb (U0 w) (plainElem_int Ku (by decide)) (qxv hk);obtain⟨ha,hh⟩:=hm.2 k hk;obtain⟨c,rfl,hc,_⟩:=plainElem_int_inv Ku hv;simp only[fj]at hc;rw[ha]at hc;have e:c=(pq (last b i k)).1:=by simpa using hc.1.symm
 rw[wK,hh,e]
def pd:Option Nat->Int
 | none=>-1
 | some p=>(p:Int)
theorem zf2 (b:List UInt8) (j:Nat):pv b j=pd (last b j (three b j)):=by unfold pv pd;rfl
structure Eb (w:World) (b:List UInt8) (a:Option Addr) (cap qb qp qh bp bm cnt:Nat) (D:DataW Unit) (P:Array Value):Prop where
 vb:w.heap[qb]?=some (.cells #[.slice a b.length cap] 23 (0,0))
 vp:w.heap[qp]?=some (.cells #[.slice (some ⟨bp,0,none⟩) b.length b.length] 28 (0,0))
 vh:w.heap[qh]?=some (.cells #[.map (some bm)] 239 (0,0))
 rd:Rd w a cap b
 map:w.ownsMap Tryz.prog 32 (plainElem Tryz.prog 3) bm cnt D
 row:w.heap[bp]?=some (.cells P 3 (0,0))
 size:P.size=b.length
 np:qb≠bp/\qp≠bp/\qh≠bp/\bm≠bp
 nm:qb≠bm/\qp≠bm/\qh≠bm
 na:b≠[]->∀x∈ae a,x≠bp/\x≠bm
theorem Eb.fr {w w':World} {b:List UInt8} {a:Option Addr} {cap qb qp qh bp bm cnt:Nat} {D:DataW Unit} {P:Array Value} (h:Eb w b a cap qb qp qh bp bm cnt D P) (f:Fr [] w w'):Eb w' b a cap qb qp qh bp bm cnt D P:=
 ⟨f.ae h.vb (by simp),f.ae h.vp (by simp),f.ae h.vh (by simp),h.rd.fr f,MS h.map (f.block _ h.map.lt (by simp)),f.ae h.row (by simp),h.size,h.np,h.nm,h.na⟩
theorem Eb.store {w:World} {b:List UInt8} {a:Option Addr} {cap qb qp qh bp bm cnt:Nat} {D:DataW Unit} {P:Array Value} (h:Eb w b a cap qb qp qh bp bm cnt D P) (i:Nat) (v:Value) :
  Eb (w.setCell ⟨bp,i,none⟩ v) b a cap qb qp qh bp bm cnt D (P.setIfInBounds i v)/\Fr [bp] w (w.setCell ⟨bp,i,none⟩ v):=by
 have f:Fr [bp] w (w.setCell ⟨bp,i,none⟩ v):=(Fr.refl [bp] w).setCell (by simp) v;obtain⟨n1,n2,n3,n4⟩:=h.np;exact⟨⟨f.ae h.vb (by simpa using n1),f.ae h.vp (by simpa using n2),f.ae h.vh (by simpa using n3),zF h.rd f (λhb x hx=>by simpa using (h.na hb x hx).1),MS h.map (f.block _ h.map.lt (by simpa using n4)),aX h.row v,by simp[h.size],h.np,h.nm,h.na⟩,f⟩
theorem Eb.put {w w':World} {b:List UInt8} {a:Option Addr} {cap qb qp qh bp bm cnt P7:Nat} {D D':DataW Unit} {P:Array Value} (h:Eb w b a cap qb qp qh bp bm cnt D P) (hm:w'.ownsMap Tryz.prog 32 (plainElem Tryz.prog 3) bm P7 D') (hg:w.grownBy w' (some bm)) :
  Eb w' b a cap qb qp qh bp bm P7 D' P/\Fr [bm] w w':=by
 have f:Fr [bm] w w':=(Fr.refl [bm] w).grown hg (λk hk=>by simp only[eS]at hk;simp[hk]);obtain⟨n1,n2,n3,n4⟩:=h.np;obtain⟨m1,m2,m3⟩:=h.nm;exact⟨⟨f.ae h.vb (by simpa using m1),f.ae h.vp (by simpa using m2),f.ae h.vh (by simpa using m3),zF h.rd f (λhb x hx=>by simpa using (h.na hb x hx).2),hm,f.ae h.row (by simpa using (jg n4)),h.size,h.np,h.nm,h.na⟩,f⟩
def En (w:World) (b:List UInt8) (a:Option Addr) (cap qb qp qh bp bm i:Nat):Prop:=
 ∃D P cnt,Eb w b a cap qb qp qh bp bm cnt D P/\cnt<=i/\nr b i D/\∀j,j<i->j+3<=b.length->P[j]?=some (.int .i64 (pv b j))
theorem En.fr {w w':World} {b:List UInt8} {a:Option Addr} {cap qb qp qh bp bm i:Nat} (h:En w b a cap qb qp qh bp bm i) (f:Fr [] w w'):En w' b a cap qb qp qh bp bm i:=by obtain⟨D,P,cnt,h1,r⟩:=h;exact⟨D,P,cnt,h1.fr f,r⟩
theorem En.skip {w:World} {b:List UInt8} {a:Option Addr} {cap qb qp qh bp bm i:Nat} (h:En w b a cap qb qp qh bp bm i) (hi:¬i+3<=b.length):En w b a cap qb qp qh bp bm (i+1):=by obtain⟨D,P,cnt,h1,h2,h3,h4⟩:=h;exact⟨D,P,cnt,h1,by omega,h3.skip hi,λj hj CV=>h4 j (by omega) CV⟩
theorem qyo (b:List UInt8) (a:Option Addr) (cap qb qp qh bp bm i:Nat) (w:World) (h:En w b a cap qb qp qh bp bm i) (hi:i<b.length) (hlen:b.length<=100000) :
  Calls Tryz.prog 152 #[.int .i64 i,.pointer (some ⟨qb,0,none⟩),.pointer (some ⟨qp,0,none⟩),.pointer (some ⟨qh,0,none⟩)] w λe w'=>
   e = .returned (.tuple #[])/\Fr [bp,bm] w w'/\En w' b a cap qb qp qh bp bm (i+1):=by
 by_cases h3:i+3<=b.length
 ·obtain⟨D,P,cnt,E,O3,qj,dI⟩:=h;obtain⟨L,hL⟩:=ah b.length;have cb:=cell_of E.vb 0;simp only[bw,aV]at cb;have hle:=E.rd.le;have DZ:=qpx (aL a cap i 1) (cap-i) (b.drop i) w (E.rd.drop i (by omega)) (by rw[eQ];omega);rw[eQ,pG,qob (by omega)]at DZ;have qs:=UU b i;obtain⟨ha,hh⟩:=qj.2 _ qs;have hpv:∀p,last b i (three b i)=some p->pv b i=p:=λp hp=>by unfold pv;rw[hp]
  have Sr:last b i (three b i)=none->pv b i = -1:=λhp=>by unfold pv;rw[hp]
  rw[<-hL]at cb hi h3 hle hlen DZ;have HM:=aF E qj dI hL;have HP:=ak hpv Sr;obtain⟨k,hk⟩:=ah (three b i);rw[<-hk]at qs ha hh DZ;have HT:=af DZ;have qt:=qxv qs;have HK:=af hk;have HL:Hid (L=b.length):=HM.l3 |> Lib.hid
  clear DZ hpv Sr hL E qj dI hk;have d0:decide ((L:Int)<(i:Int)+3)=false:=by simp;omega
  go_enter Tryz.func152,Tryz.ntmps152;go_upto_region 2 with (go_at_call 153;(with_reducible refine HT.out.mono ?_);rintro e w1 ⟨rfl,n1,cD⟩;have Qo:=af cD;clear cD);have E1:Eb w1 b a cap qb qp qh bp bm cnt D P:=HM.o0.fr (by rw[Qo.out];exact Fr.drewN [] w n1);have cp:=cell_of E1.vp 0;simp only[bw,aV]at cp;rw[<-HL.out]at cp;have iZ:=aO E1.row i;have fN:i<P.size:=by rw[E1.size,<-HL.out];exact hi
  obtain⟨x0,gM⟩:∃x,w1.cell? ⟨bp,i,none⟩=some x:=⟨P[i],by rw[cell_of E1.row];exact xG fN⟩;have JZ:=ak E1 fN;clear E1 fN cb;go_upto_region 3 with fail;obtain⟨E2,f2⟩:=JZ.out.1.store i (.int .i64 (-1));generalize bq:w1.setCell ⟨bp,i,none⟩ (.int .i64 (-1))=w2 at *;have ch:=cell_of E2.vh 0;simp only[bw,aV]at ch;have aA:=E2.map;have EV:=ak E2 f2;clear bq E2 f2 cp iZ gM;have oP:cnt<maxLen:=by unfold maxLen;omega
  have Qm:Hid ((Lit.int .i64 (i:Int)).wf=true):=af (zc2 (by omega) (by omega));cases hq:last b i k with
  | none=>
   rw[hq]at hh;have uQ:last b i (three b i)=none:=by rw[<-HK.out];exact hq
   have HQ:=af uQ;simp only[pq]at hh;clear hq uQ ha;go_upto_region 6 with (at_lookup;refine wpList_lookup_own_ok_int _ rfl _ _ 239 rfl 32 3 .i64 MC Fb Ku (U0 _) bm cnt D rfl aA _ (.int .u32 (k:Int)) rfl qt ?_;intro c eD _;rw[hh];clear eD);go_wp2_with (at_mapUpdate;refine wpList_mapUpdate_own _ rfl _ _ _ 239 rfl 32 3 MC Fb _ bm cnt D rfl aA oP _ _ (.int .u32 (k:Int)) rfl rfl qt _ [] (plainElem_int Ku (a:=(i:Int)) Qm.out) ?_;intro w3 sx I7);go_end0;obtain⟨E3,f3⟩:=EV.out.1.put sx I7;refine⟨rfl,?_,_,_,_,E3,by omega,?_,λj hj CV=>?_⟩
   ·have f1:Fr [bp,bm] w w1:=by rw[Qo.out];exact Fr.drewN [bp,bm] w n1
    exact (f1.step EV.out.2 (λy hy=>.inl (by simp at hy;simp[hy]))).step f3 (λy hy=>.inl (by simp at hy;simp[hy]))
   ·rw[HK.out];exact HM.o1.put (by rw[<-HL.out];exact h3)
   ·by_cases e:j=i
    ·subst e;rw[iu JZ.out.2,HP.l1 HQ.out]
    ·rw[aZ (by omega)];exact HM.o2 j (by omega) CV
  | some p=>
   rw[hq]at hh ha;have uQ:last b i (three b i)=some p:=by rw[<-HK.out];exact hq
   have HQ:=af uQ;simp only[pq]at hh ha;have HA:=af ha;clear hq uQ ha;have cp:=cell_of EV.out.1.vp 0;simp only[bw,aV]at cp;rw[<-HL.out]at cp;have iZ:=aO EV.out.1.row i;obtain⟨x1,dT⟩:∃x,w2.cell? ⟨bp,i,none⟩=some x:=⟨_,by rw[cell_of EV.out.1.row];exact iu JZ.out.2⟩;go_upto_region 6 with (at_lookup;refine wpList_lookup_own_ok_int _ rfl _ _ 239 rfl 32 3 .i64 MC Fb Ku (U0 _) bm cnt D rfl aA _ (.int .u32 (k:Int)) rfl qt ?_;intro c eD _;rw[hh];have HC:Hid (c=(p:Int)):=af (by rw[HA.out]at eD;simpa using eD.symm);clear eD);obtain⟨E3,f3⟩:=EV.out.1.store i (.int .i64 c);generalize gN:w2.setCell ⟨bp,i,none⟩ (.int .i64 c)=w3 at *;have ch3:=cell_of E3.vh 0;simp only[bw,aV]at ch3;have sx:=E3.map;have HE3:=ak E3 f3;clear gN E3 f3 cp iZ dT aA ch;go_wp2_with (at_mapUpdate;refine wpList_mapUpdate_own _ rfl _ _ _ 239 rfl 32 3 MC Fb _ bm cnt D rfl sx oP _ _ (.int .u32 (k:Int)) rfl rfl qt _ [] (plainElem_int Ku (a:=(i:Int)) Qm.out) ?_;intro w4 lD I6);go_end0;obtain⟨E4,f4⟩:=HE3.out.1.put lD I6;refine⟨rfl,?_,_,_,_,E4,by omega,?_,λj hj CV=>?_⟩
   ·have f1:Fr [bp,bm] w w1:=by rw[Qo.out];exact Fr.drewN [bp,bm] w n1
    exact ((f1.step EV.out.2 (λy hy=>.inl (by simp at hy;simp[hy]))).step HE3.out.2 (λy hy=>.inl (by simp at hy;simp[hy]))).step f4 (λy hy=>.inl (by simp at hy;simp[hy]))
   ·rw[HK.out];exact HM.o1.put (by rw[<-HL.out];exact h3)
   ·by_cases e:j=i
    ·subst e;rw[iu (by rw[qX];exact JZ.out.2),HP.o0 p HQ.out,HC.out]
    ·rw[aZ (by omega),aZ (by omega)];exact HM.o2 j (by omega) CV
 ·have hsk:=h.skip h3;obtain⟨D,P,cnt,E,_⟩:=h;have cb:=cell_of E.vb 0;simp only[bw,aV]at cb;have HS:=af hsk;clear hsk E;have d0:decide ((b.length:Int)<(i:Int)+3)=true:=by simp;omega
  go_enter Tryz.func152,Tryz.ntmps152;go_wp2;(try simp only[Exit.inBlock,Exit.then]);refine bodyPost_ret (results_none rfl _ _ _) rfl ?_;exact⟨rfl,Fr.refl _ _,HS.out⟩
def bM (l:List Mt):List Value:=l.flatMap λx=>[.int .i64 (x.1:Nat),.int .i64 (x.2.1:Nat),.int .i64 (x.2.2:Nat)]
theorem qjy (l:List Mt):(bM l).length=l.length*3:=by
 unfold bM;induction l with
 | nil=>rfl
 | cons x l ih=>simp only[Av,aK,cQ,lK,ih];omega
theorem qo8 (l m:List Mt):bM (l++m)=bM l++bM m:=by unfold bM;rw[Hu]
theorem qqo:∀(l:List Mt) (i:Nat) (h:i<l.length),(bM l)[i*3]?=some (.int .i64 (l[i].1:Nat))/\(bM l)[i*3+1]?=some (.int .i64 (l[i].2.1:Nat))/\(bM l)[i*3+2]?=some (.int .i64 (l[i].2.2:Nat))
 | x::l,0,_=>⟨rfl,rfl,rfl⟩
 | x::l,i+1,h=>by
  have hc:bM (x::l)=[.int .i64 (x.1:Nat),.int .i64 (x.2.1:Nat),.int .i64 (x.2.2:Nat)]++bM l:=rfl;have e:∀j,(bM (x::l))[(i+1)*3+j]?=(bM l)[i*3+j]?:=λj=>by rw[hc,Ie (by simp;omega)];congr 1;simp;omega
  have h0:=qqo l i (by simpa using h);have e0:=e 0;simp only[jS]at e0;rw[e0,e 1,e 2];exact h0
structure Low (w:World) (b:List UInt8) (a:Option Addr) (qb qp qh bp bm B0:Nat):Prop where
 q:qb<B0/\qp<B0/\qh<B0/\bp<B0/\bm<B0
 new:w.heap.size<=bp/\w.heap.size<=bm
 a:b≠[]->∀x∈ae a,x<B0
theorem En.up {S:List Nat} {w0 w w':World} {b:List UInt8} {a:Option Addr} {cap qb qp qh bp bm i B0:Nat} (h:En w b a cap qb qp qh bp bm i) (l:Low w0 b a qb qp qh bp bm B0) (f:Fr S w w') (hS:∀x∈S,B0<=x):En w' b a cap qb qp qh bp bm i:=by
 obtain⟨D,P,cnt,h1,r⟩:=h;obtain⟨l1,l2,l3,l4,l5⟩:=l.q;have no:∀x,x<B0->x∉S:=λx hx hm=>by have:=hS x hm;omega
 exact⟨D,P,cnt,⟨f.ae h1.vb (no _ l1),f.ae h1.vp (no _ l2),f.ae h1.vh (no _ l3),zF h1.rd f (λhb x hx=>no x (l.a hb x hx)),MS h1.map (f.block _ h1.map.lt (no _ l5)),f.ae h1.row (no _ l4),h1.size,h1.np,h1.nm,h1.na⟩,r⟩
structure Ms (w wr:World) (b:List UInt8) (a:Option Addr) (cap qb qp qh bp bm B0 i:Nat) (l:List Mt) (ao:Option Addr) (c:Nat):Prop where
 own:wr.ownsRow 0 243 3 (.slice ao l.length c) l.length (bM l)
 en:En wr b a cap qb qp qh bp bm i
 fr:Fr [] w wr
 new:∀x∈ae ao,B0<=x
 low:Low w b a qb qp qh bp bm B0
 big:B0<=wr.heap.size
theorem Ms.dF {w wr w2:World} {b:List UInt8} {a ao:Option Addr} {cap qb qp qh bp bm B0 i c:Nat} {l:List Mt} (h:Ms w wr b a cap qb qp qh bp bm B0 i l ao c) (f:Fr [] wr w2):Ms w w2 b a cap qb qp qh bp bm B0 i l ao c:=
 ⟨dr h.own f (by simp),h.en.fr f,h.fr.trans f,h.new,h.low,bS h.big f.size⟩
theorem Ms.enter {w wr w2:World} {b:List UInt8} {a ao:Option Addr} {cap qb qp qh bp bm B0 i j c:Nat} {l:List Mt} (h:Ms w wr b a cap qb qp qh bp bm B0 i l ao c) (f:Fr [bp,bm] wr w2) (e:En w2 b a cap qb qp qh bp bm j):Ms w w2 b a cap qb qp qh bp bm B0 j l ao c:=by
 obtain⟨l1,l2,l3,l4,l5⟩:=h.low.q;refine⟨dr h.own f λk hk hm=>?_,e,h.fr.step f λy hy=>?_,h.new,h.low,bS h.big f.size⟩
 ·have:=h.new k (by rw[<-dw ao l.length c,hk];simp);simp only[gw,v7,or_false]at hm;omega
 ·have:=h.low.new;simp only[gw,v7,or_false]at hy;right;omega
theorem quz {b:List UInt8} {r k i:Nat} (h3:i+3<=b.length):jm b r (k+1) i=(if 3<=(best b r i).1 then [(i,(best b r i).1,i-(best b r i).2)] else [])++jm b r k (i+step b r i):=by rw[jm,if_pos h3];split<;>rfl
def qI (w:World) (l:List Mt) (e:Ending) (w':World):Prop:=∃ao,e = .returned (.slice ao l.length l.length)/\Cs w' ao (bM l)/\(ao=none->l.length=0)/\(∀x∈ae ao,x<w'.heap.size)/\Fr [] w w'
theorem xK:ax Tryz.prog 194 243 (.agg #[.int .i64 0,.int .i64 0,.int .i64 0]) 3 24:=ax.of Tryz.underlying194 (by kernel_rfl) rfl (by decide)
theorem Io:ax Tryz.prog 28 3 (.int .i64 0) 1 8:=ax.of Tryz.underlying28 (by kernel_rfl) rfl (by decide)
theorem za0 {b:List UInt8} {a:Option Addr} {cap:Nat} {w w3:World} (h:Rd w a cap b)
  (kB:w3.ownsRow 0 3 1 (.slice (some ⟨w.heap.size+1+1+1,0,none⟩) b.length b.length) b.length (madeCells (Value.int .i64 0).cells (b.length*1)).toList)
  (iM:(((w.alloc (.cells #[.slice a b.length cap] 23)).alloc (.map #[] 0)).alloc (.cells #[.map (some (w.heap.size+1))] 239)).grownBy w3 none) :
  Ms w (w3.alloc (.cells #[.slice (some ⟨w.heap.size+1+1+1,0,none⟩) b.length b.length] 28)) b a cap w.heap.size w3.heap.size (w.heap.size+1+1) (w.heap.size+1+1+1) (w.heap.size+1) (w3.heap.size+1) 0 [] none 0:=by
 obtain⟨W0,Js⟩:=ah (((w.alloc (.cells #[.slice a b.length cap] 23)).alloc (.map #[] 0)).alloc (.cells #[.map (some (w.heap.size+1))] 239));rw[<-Js]at iM;have oq:W0.heap.size=w.heap.size+1+1+1:=by rw[Js];simp only[eZ]
 have f3:Fr [] W0 w3:=(Fr.refl [] W0).grown iM (λk hk=>by cases hk);have f0:Fr [] w W0:=by rw[Js];exact (((Fr.refl [] w).alloc _).alloc _).alloc _
 have b0:W0.heap[w.heap.size]?=some (.cells #[.slice a b.length cap] 23 (0,0)):=by rw[Js];exact pJ _ (pJ _ (bx w _))
 have b1:W0.heap[w.heap.size+1]?=some (.map #[] 0):=by rw[Js];have:=bx (w.alloc (.cells #[.slice a b.length cap] 23)) (.map #[] 0);rw[eZ]at this;exact pJ _ this
 have b2:W0.heap[w.heap.size+1+1]?=some (.cells #[.map (some (w.heap.size+1))] 239 (0,0)):=by rw[Js];have:=bx ((w.alloc (.cells #[.slice a b.length cap] 23)).alloc (.map #[] 0)) (.cells #[.map (some (w.heap.size+1))] 239);rw[eZ,eZ]at this;exact this
 have qj:W0.ownsMap Tryz.prog 32 (plainElem (H:=Unit) Tryz.prog 3) (w.heap.size+1) 0 (.map []):=by have:=World.ownsMap_made (w.alloc (.cells #[.slice a b.length cap] 23)) Tryz.prog 32 (plainElem (H:=Unit) Tryz.prog 3);rw[eZ]at this;rw[Js];exact this.alloc _
 obtain⟨o1,o2⟩:=kB;rcases o2 with⟨o2,_⟩|⟨g,c',cur,o2,_,hg,_,_,cF,_⟩
 ·cases o2
 ·simp only[lN,eS,qU,and_true,true_and]at o2;obtain⟨rfl,rfl⟩:=o2;have aY:=lt_of_block hg;have f4:Fr [] w3 (w3.alloc (.cells #[.slice (some ⟨w.heap.size+1+1+1,0,none⟩) b.length b.length] 28)):=(Fr.refl [] w3).alloc _;have fall:=(f0.trans f3).trans f4;have f34:=f3.trans f4;refine⟨v8 _ _ _ _,⟨.map [],cur,0,⟨f34.ae b0 (by simp),bx w3 _,f34.ae b2 (by simp),h.fr fall,MS qj (f34.block _ qj.lt (by simp)),f4.ae hg (by simp),by omega,⟨by omega,by omega,by omega,by omega⟩,⟨by omega,by omega,by omega⟩,λhb x hx=>?_⟩,aw _,qsi b,λj hj=>by omega⟩,fall,by simp[ae],⟨⟨by omega,by omega,by omega,by omega,by omega⟩,⟨by omega,by omega⟩,λhb x hx=>?_⟩,by rw[eZ];exact aw _⟩
  ·have:=Ag h hb x hx;omega
  ·have:=Ag h hb x hx;omega
theorem Ms.push {w wr w2:World} {b:List UInt8} {a ao a2:Option Addr} {cap qb qp qh bp bm B0 i c c2:Nat} {l:List Mt} (h:Ms w wr b a cap qb qp qh bp bm B0 i l ao c) (x:Mt) (o:Obj) (n:Nat) (hn:l.length=n)
  (A:aW (wr.alloc o) w2 243 3 (ae ao) a2 (n+1) c2 (bM l++bM [x])):Ms w w2 b a cap qb qp qh bp bm B0 i (l++[x]) a2 c2:=by
 have f1:Fr [] wr (wr.alloc o):=(Fr.refl [] wr).alloc o;have hz:(wr.alloc o).heap.size=wr.heap.size+1:=eZ _ _;have lY:=h.big;have tA:=h.low.new;have hlq:=h.low.q;have hs:=A.fr.size;refine⟨by rw[aK,yR,qo8,hn];exact A.own,(h.en.up h.low f1 (by simp)).up h.low A.fr h.new,(h.fr.trans f1).step A.fr λy hy=>.inr (by have:=h.new y hy;omega),λy hy=>?_,h.low,by omega⟩;rcases A.at_ y hy with k|k
 ·exact h.new y k
 ·omega
theorem qsh (b:List UInt8) (a:Option Addr) (cap:Nat) (reach:Int) (w:World) (h:Rd w a cap b) (hlen:b.length<=100000) :
  Calls Tryz.prog 126 #[.slice a b.length cap,.int .i64 reach] w (qI w (Dx b reach)):=by
 have lf:=@run_makeMap Tryz.prog;obtain⟨L,hL⟩:=ah b.length;have hle:=h.le;obtain⟨r,hr⟩:∃r:Int,r=if 32768<reach then 32768 else reach:=⟨_,rfl⟩
 have vM:r<=32768:=by rw[hr];split<;>omega
 rw[<-hL]at hle hlen ⊢;have H:=au h hL hr;obtain⟨hu,⟨ti,iK,vL,fZ,sJ⟩,tY,hp⟩:=Io;clear h hL hr;go_enter Tryz.func126,Tryz.ntmps126;go_upto_block 0 with (first|(refine MT r rfl _ _ _ rfl reach 32768 rfl rfl H.l2 ?_)|(refine wpList_make_full _ rfl _ _ 28 rfl 0 3 ti (.int .i64 0) 1 hu iK vL fZ .i64 .i64 (L:Nat) (L:Nat) L rfl rfl rfl rfl (by rw[sJ];omega) (by unfold maxLen;omega) (by omega) ?_;intro w3 kB iM;have H3:=ak kB iM;clear kB iM));obtain⟨qb,qp,qh,bp,bm,B0,w4,e1,e2,e3,e4,e5,e6,xY⟩:∃qb qp qh bp bm B0 w4,w4=w3.alloc (.cells #[.slice (some ⟨w.heap.size+1+1+1,0,none⟩) L L] 28)/\qp=w3.heap.size/\bp=w.heap.size+1+1+1/\qh=w.heap.size+1+1/\bm=w.heap.size+1/\qb=w.heap.size/\Ms w w4 b a cap qb qp qh bp bm B0 0 [] none 0:=by have:=za0 H.o0 (by have h:=H3.o0;simp only[eZ]at h;rw[<-H.o1];exact h) (by rw[<-H.o1];exact H3.l1);rw[<-H.o1]at this;exact⟨_,_,_,_,_,_,_,rfl,rfl,rfl,rfl,rfl,rfl,this⟩
 rw[<-e1,<-e3,<-e4,<-e5,<-e6,<-e2];obtain⟨M,hM⟩:=ah (Dx b reach);obtain⟨R,hR⟩:=ah ((min reach 32768).toNat);have AZ:(0<r->([]:List Mt)++jm b R L 0=M)/\(r<=0->([]:List Mt)=M):=by
  have jD:=H.l2;rw[hM,hR,H.o1];unfold Dx;constructor
  ·intro h0;rw[if_pos (by rw[jD]at h0;split at h0<;>omega)];rfl
  ·intro h0;rw[if_neg (by rw[jD]at h0;split at h0<;>omega)]
 have Yw:0<r->(R:Int)=r:=by have jD:=H.l2;intro h0;rw[hR,jD];rw[jD]at h0;split at h0<;>split<;>omega
 have HS:=au AZ xY hM;have HR:=af Yw;clear e1 e2 e3 e4 e5 e6 xY AZ Yw hM hR H3 hu iK vL fZ sJ tY hp;go_wp2;go_loopg [5,9] L (λk s5 s9 wr=>∃(i c:Nat) (ao:Option Addr) (l:List Mt),s5 = .slice ao l.length c/\s9 = .int .i64 (i:Nat)/\Ms w wr b a cap qb qp qh bp bm B0 i l ao c/\L<=i+k/\i<=L/\l.length<=i/\(0<r->l++jm b R k i=M)/\(r<=0->l=M));case atStart=>exact⟨0,0,none,[],rfl,rfl,HS.o1,by omega,dZ _,aw _,HS.o0⟩
 case round=>
  obtain⟨i,c,ao,l,rfl,rfl,xY,bU,XQ,F9,jo,N3⟩:=hrel;obtain⟨D,P,cnt,E,_⟩:=xY.en;have cb:=cell_of E.vb 0;simp only[bw,aV]at cb;rw[<-H.o1]at cb;obtain⟨_,_,lT,o1,o2,o3⟩:=Hv xY.own;simp only[lN]at lT;obtain⟨rfl,_,rfl⟩:=lT;have hsl:=λw=>Wg xK l.length ao c o1 w
  have GL:=af xY;have HO:=ak jo N3;clear xY jo N3 E;have Ek:IntKind.i64.wrap ((i:Int)+3)=(i:Int)+3:=IntWalk.i64_in _ (by omega);by_cases h3:i+3<=L
  ·by_cases h0:0<r
   ·have d1:decide ((i:Int)+3<=L)=true:=by simp;omega
    obtain⟨k,rfl⟩:∃k,gk=k+1:=⟨gk-1,by omega⟩;have Yw:=HR.out h0;obtain⟨wo,rfl⟩:∃wo:World,wo=wr:=⟨_,rfl⟩;obtain⟨⟨x1,x2⟩,hx⟩:∃x,x=best b R i:=⟨_,rfl⟩;have bK:b.length=L:=H.o1.symm;obtain⟨D,P,cnt,E,O3,qj,dI⟩:=GL.out.en;have ch:=cell_of E.vh 0;simp only[bw,aV]at ch;obtain⟨q0,NU⟩:=ah (last b i (three b i));have DZ:∀x,Calls Tryz.prog 153 #[.slice (Option.map (λx=>x.add i) a) (L-i) (cap-i)] (wo.drewN x) λe w'=>e = .returned (.int .u32 (three b i:Nat))/\∃n,w'=(wo.drewN x).drewN n:=λx=>by have:=qpx (aL a cap i 1) (cap-i) (b.drop i) (wo.drewN x) ((E.rd.drop i (by omega)).fr (Fr.drewN [] wo x)) (by rw[eQ];omega);rw[eQ,pG,qob (by omega),bK]at this;exact this
    have zg:∀x,(Instr.lookup 239 (.map (some bm)) (.int .u32 (three b i:Nat)) true).run Tryz.prog (wo.drewN x) = .ok (.tuple #[.int .i64 (pq q0).1,.bool (pq q0).2]) (wo.drewN x):=λx=>by have:=za3 (MS E.map ((Fr.drewN [] wo x).block _ E.map.lt (by simp))) qj (UU b i);rw[<-NU]at this;exact this
    have wV:=UU b i;generalize three b i=kk at DZ zg wV;have HX:=au hx bK NU;have HE:=ak E dI;have HTH:=af DZ;clear hx bK NU DZ E dI qj O3;go_upto_region 9 with fail;go_quiet ((go_at_call 153;exact Calls.quiet_of (HTH.out _)));go_upto_block 2 with fail;clear zg wV ch;go_cut [10,11,12,14,15] from 42 to 73 (λs10 s11 s12 s14 s15 wz=>s10 = .int .i64 x1/\s11 = .int .i64 x2/\Fr [] wo wz)
    case first=>
     cases q0 with
     | none=>
      have gM:x1=0/\x2=0:=by have h1:=HX.out.1;unfold best at h1;rw[<-HX.out.2.2]at h1;simp only[gF,fj]at h1;exact h1
      obtain⟨rfl,rfl⟩:=gM;simp only[pq];go_wp2;refine wp_loop_rounds 1 ?_;rw[rounds_succ];go_wp2;go_meet;exact⟨rfl,rfl,Fr.drewN [] wo _⟩
     | some p0=>
      simp only[pq];go_wp2;go_loopg [10,11,12,14,15] 48 (λk s10 s11 s12 s14 s15 wz=>∃(n bb aa:Nat) (q:Option Nat),s10 = .int .i64 (bb:Nat)/\s11 = .int .i64 (aa:Nat)/\s12 = .int .i64 (pd q)/\s14 = .int .i64 (n:Nat)/\n+k=48/\(∀p,q=some p->p<i/\p+3<=L)/\gF b R i k q bb aa=(x1,x2)/\bb<=258/\Fr [] wo wz);case atStart=>exact⟨0,0,0,some p0,rfl,rfl,rfl,rfl,rfl,λp hp=>by have:=Mh b _ _ _ (HX.out.2.2.symm.trans hp);rw[HX.out.2.1]at this;exact⟨this.1,this.2.1⟩,by have h1:=HX.out.1;unfold best at h1;rw[<-HX.out.2.2]at h1;exact h1.symm,by omega,Fr.drewN [] wo _⟩
      case round=>
       obtain⟨n,bb,aa,q,rfl,rfl,rfl,rfl,hn,hq,dV,kU,hf⟩:=hrel;by_cases hn48:n<48
       ·obtain⟨k2,rfl⟩:∃k2,gk=k2+1:=⟨gk-1,by omega⟩;have d0:decide ((n:Int)<48)=true:=by simp;omega
        cases q with
        | none=>
         simp only[gF,fj]at dV;obtain⟨rfl,rfl⟩:=dV;simp only[pd];have HF:=af hf;clear hf hq;go_wp2;go_meet;exact⟨rfl,rfl,HF.out⟩
        | some p=>
         obtain⟨xV,mD⟩:=hq p rfl;simp only[pd];by_cases hrange:i-p<=R
         ·have d2:decide ((i:Int)-p<=r)=true:=by simp;omega
          have mW:=λw' h=>qzq a cap p i b w' h (by omega) (by rw[HX.out.2.1];omega)
          rw[HX.out.2.1]at mW;have Sn:=(VX b p i (by rw[HX.out.2.1];omega)).1;have zP:=HE.l1 p xV (by rw[HX.out.2.1];exact mD);rw[zf2]at zP;have Ec:∀p',last b p (three b p)=some p'->p'<i/\p'+3<=L:=λp' IL=>by have:=Mh b _ _ _ IL;rw[HX.out.2.1]at this;omega
          rw[gF,if_pos hrange]at dV;generalize last b p (three b p)=q' at zP Ec dV;generalize alike b p i=al at mW Sn dV;have E2:=HE.o0.fr hf;have LB:=cell_of E2.vb 0;have fP:=cell_of E2.vp 0;have Td:=cell_of E2.row p;simp only[bw,aV]at LB fP;rw[zP]at Td;rw[HX.out.2.1]at LB fP;have HF:=aP hf (mW _ E2.rd) Ec E2 (Td.trans rfl);have c9:wr.cell? ⟨bp,p,none⟩=some (.int .i64 (pd q')):=Td;clear hf mW Ec Td E2 zP hq;by_cases hbest:bb<al
          ·have d3:decide (bb<al)=true:=by simpa using hbest
           rw[if_pos hbest]at dV;have Zv:=af dV;clear dV;go_upto_region 14 with (go_at_call 154;refine HF.out.2.1.mono ?_;rintro e wy ⟨rfl,fy⟩;have zt:=fy.cell fP (by simp);have Te:=fy.cell c9 (by simp);have HY:=af fy;clear fy fP c9 LB);go_wp2;go_roundg k2;case measure=>omega
           case rel=>exact⟨n+1,al,p,q',rfl,rfl,rfl,by go_num,by omega,HF.out.2.2.1,Zv.out,by omega,HF.out.1.trans HY.out⟩
          ·have d3:decide (bb<al)=false:=by simpa using hbest
           rw[if_neg hbest]at dV;have Zv:=af dV;clear dV;go_upto_region 14 with (go_at_call 154;refine HF.out.2.1.mono ?_;rintro e wy ⟨rfl,fy⟩;have zt:=fy.cell fP (by simp);have Te:=fy.cell c9 (by simp);have HY:=af fy;clear fy fP c9 LB);go_wp2;go_roundg k2;case measure=>omega
           case rel=>exact⟨n+1,bb,aa,q',rfl,rfl,rfl,by go_num,by omega,HF.out.2.2.1,Zv.out,by omega,HF.out.1.trans HY.out⟩
         ·have d2:decide ((i:Int)-p<=r)=false:=by simp;omega
          rw[gF,if_neg hrange]at dV;simp only[fj]at dV;obtain⟨rfl,rfl⟩:=dV;have HF:=af hf;clear hf hq;go_wp2;go_meet;exact⟨rfl,rfl,HF.out⟩
       ·obtain rfl:n=48:=by omega
        obtain rfl:gk=0:=by omega
        simp only[gF,fj]at dV;obtain⟨rfl,rfl⟩:=dV;have HF:=af hf;clear hf hq;go_wp2;go_meet;exact⟨rfl,rfl,HF.out⟩
    case rest=>
    obtain⟨rfl,rfl,hf⟩:=hcut;obtain⟨w5,rfl⟩:∃w5:World,w5=wc:=⟨_,rfl⟩;obtain⟨s,hs⟩:=ah (step b R i);obtain⟨nw,vP⟩:∃nw:List Mt,nw=if 3<=x1 then [(i,x1,i-x2)] else []:=⟨_,rfl⟩
    have FO:s=if 3<=x1 then x1 else 1:=by rw[hs];unfold step;rw[<-HX.out.1]
    have hML:l++(nw++jm b R k (i+s))=M:=by have:=HO.o0 h0;rw[quz (by rw[HX.out.2.1];exact h3),<-hs,<-HX.out.1,<-vP]at this;exact this
    have jd:3<=x1->x2<i/\i+x1<=L/\x1<=258:=λh=>by obtain⟨k1,k2,k3⟩:=qrd b R i (by rw[<-HX.out.1];exact eT (by decide) h);rw[<-HX.out.1]at k1 k2 k3;obtain⟨m1,m2,_⟩:=VX b x2 i (by rw[HX.out.2.1];exact XQ);rw[<-k1]at m1 m2;rw[HX.out.2.1]at m2;exact⟨k2,m2,m1⟩
    have h5:=GL.out.dF hf;have JY:=aF hML FO h5 vP;have hsL:1<=s/\i+s<=L:=by
     rw[FO];split
     ·rename_i h;have:=jd h;omega
     ·omega
    have tq:nw.length<=1:=by rw[vP];split<;>simp
    clear hML hs FO h5 hf vP;go_upto_if 74 with fail;go_cut [5,16] from 73 to 85 (λs5 s16 wz=>∃(a2:Option Addr) (c2 n2:Nat),s5 = .slice a2 n2 c2/\s16 = .int .i64 (s:Nat)/\n2=(l++nw).length/\Ms w wz b a cap qb qp qh bp bm B0 i (l++nw) a2 c2)
    case first=>
     have FO:=JY.o1;by_cases hb:3<=x1
     ·obtain⟨fx,jY,jX⟩:=jd hb;rw[if_pos hb]at FO;subst FO;have vP:=JY.l3;rw[if_pos hb]at vP;have d3:decide ((3:Int)<=(s:Int))=true:=by simp;omega
      obtain⟨dd,hdd⟩:=ah (i-x2);rw[<-hdd]at vP;have hd:(i:Int)-(x2:Int)=(dd:Int):=by omega
      have HN:=af vP;obtain⟨N,hN⟩:=ah l.length;rw[<-hN]at F9 ⊢;have Zs:=af hN;clear vP jd hN hdd hsl o1;go_wp2_with (refine iq xK rfl _ _ rfl (.slice ao N c) N (bM l) (ae ao) rfl (dw _ _ _) (by rw[Zs.out];exact JY.o2.own.alloc _) (some ⟨w5.heap.size,0,none⟩) 1 1 [.int .i64 i,.int .i64 s,.int .i64 dd] rfl (by omega) (by simp) (zE w5 _ _ _) rfl (by simp[Value.oneCell']) (by omega) (by unfold maxLen;omega) ?_;intro a2 c2 w6 A2;have HA:=af A2;clear A2);go_meet;refine⟨a2,c2,_,rfl,rfl,by rw[aK,HN.out,Zs.out];rfl,?_⟩;rw[HN.out];exact JY.o2.push _ _ N Zs.out.symm HA.out
     ·rw[if_neg hb]at FO;subst FO;have vP:=JY.l3;rw[if_neg hb]at vP;have HN:=af vP;have d3:decide ((3:Int)<=(x1:Int))=false:=by simp;omega
      clear vP jd;go_wp2;go_meet;exact⟨ao,c,_,rfl,rfl,by rw[HN.out,nF],by rw[HN.out,nF];exact JY.o2⟩
    case rest=>
    obtain⟨a2,c2,n2,rfl,rfl,iJ,h6⟩:=hcut;obtain⟨w6,rfl⟩:∃w6:World,w6=wc:=⟨_,rfl⟩;have H6:=ak h6 iJ;clear h6 iJ jd hsl cb;go_upto_block 4 with fail;go_wp2;go_loopg [9,86] s (λk s9 s86 wr=>∃j:Nat,s9 = .int .i64 ((i+j:Nat):Int)/\s86 = .int .i64 (j:Nat)/\j+k=s/\Ms w wr b a cap qb qp qh bp bm B0 (i+j) (l++nw) a2 c2);case atStart=>exact⟨0,rfl,rfl,by omega,H6.o0⟩
    case round=>
     obtain⟨j,rfl,rfl,hjs,h7⟩:=hrel;by_cases hj:j<s
     ·obtain⟨k2,rfl⟩:∃k2,gk=k2+1:=⟨gk-1,by omega⟩;have OQ:=qyo b a cap qb qp qh bp bm (i+j) wr h7.en (by rw[HX.out.2.1];omega) (by rw[HX.out.2.1];exact hlen);have H7:=ak h7 OQ;clear h7 OQ;go_wp2_with (go_at_call 152;refine H7.out.2.mono ?_;rintro e w8 ⟨rfl,f8,en8⟩;have H8:=ak f8 en8;clear f8 en8);go_roundg k2;case measure=>omega
      case rel=>exact⟨j+1,by go_num,by go_num,by omega,H7.out.1.enter H8.o0 H8.l1⟩
     ·obtain rfl:j=s:=by omega
      have H7:=af h7;clear h7;go_wp2;go_roundg k;case measure=>omega
      case rel=>exact⟨i+j,c2,a2,l++nw,by rw[H6.l1],rfl,H7.out,by omega,hsL.2,by rw[aK];omega,λ_=>by rw[gH];exact JY.o0,λh=>by omega⟩
   ·have d1:decide ((i:Int)+3<=L)=true:=by simp;omega
    have d2:decide ((0:Int)<r)=false:=by simp;omega
    go_wp2;go_ret;exact⟨ao,by rw[<-HS.l2,<-HO.l1 (by omega)];rfl,by rw[<-HS.l2,<-HO.l1 (by omega)];exact Fe GL.out.own,λhn=>by rw[<-HS.l2,<-HO.l1 (by omega)];have:=o3 hn;omega,λx hx=>qR GL.out.own (pI hx),GL.out.fr⟩
  ·have d1:decide ((i:Int)+3<=L)=false:=by simp;omega
   have hlM:l=M:=by
    by_cases h0:0<r
    ·have:=HO.o0 h0;cases gk with
     | zero=>rw[<-this,jm,nF]
     | succ k=>rw[<-this,jm,if_neg (by rw[<-H.o1];exact h3),nF]
    ·exact HO.l1 (by omega)
   have Zt:=af hlM;clear hlM;go_wp2;go_ret;exact⟨ao,by rw[<-HS.l2,<-Zt.out];rfl,by rw[<-HS.l2,<-Zt.out];exact Fe GL.out.own,λhn=>by rw[<-HS.l2,<-Zt.out];have:=o3 hn;omega,λx hx=>qR GL.out.own (pI hx),GL.out.fr⟩
end mat
namespace defl
open Go Go.RowKit lib bm mat
inductive Tok where
 | lit (c:UInt8)
 | mat (n d:Nat)
def dR (b:List UInt8) (i:Nat) (l:List Mt):List Tok:=
 if h:i<b.length then
  match l with
  | (a,n,d)::t=>if hc:a=i/\0<n then .mat n d::dR b (i+n) t else .lit b[i]::dR b (i+1) ((a,n,d)::t)
  | []=>.lit b[i]::dR b (i+1) []
 else []
termination_by b.length-i
decreasing_by all_goals omega
theorem UW {b:List UInt8} {i:Nat} {l:List Mt} (h:b.length<=i):dR b i l=[]:=by unfold dR;rw[dif_neg (by omega)]
theorem UX {b:List UInt8} {i n d:Nat} {t:List Mt} (h:i<b.length) (hn:0<n):dR b i ((i,n,d)::t) = .mat n d::dR b (i+n) t:=by rw[dR,dif_pos h];dsimp only;rw[dif_pos ⟨rfl,hn⟩]
theorem Mu {b:List UInt8} {i:Nat} {l:List Mt} (h:i<b.length) (hl:∀a n d t,l=(a,n,d)::t->a≠i):dR b i l = .lit b[i]::dR b (i+1) l:=by
 match l with
 | []=>rw[dR,dif_pos h]
 | (a,n,d)::t=>rw[dR,dif_pos h];dsimp only;rw[dif_neg (λhc=>hl a n d t rfl hc.1)]
theorem qod {b:List UInt8} {r e:Nat}:∀{l:List Mt},dB b r e l->∀a n d t,l=(a,n,d)::t->a≠e->dB b r (e+1) l
 | (a',n',d')::t',h,a,n,d,t,he,bR=>by simp only[List.cons.injEq,fj]at he;obtain⟨⟨rfl,rfl,rfl⟩,rfl⟩:=he;exact⟨by have:=h.1;omega,h.2⟩
theorem Mr (b:List UInt8) (i:Nat) (l:List Mt):(dR b i l).length<=b.length-i:=by
 obtain⟨k,hk⟩:=ah (b.length-i);induction k using Nat.strongRecOn generalizing i l with
 | ind k ih=>
  by_cases h:i<b.length
  ·match l with
   | []=>
    rw[Mu h (λa n d t he=>by cases he)];have:=ih (b.length-(i+1)) (by omega) (i+1) [] rfl;simp only[cQ];omega
   | (a,n,d)::t=>
    by_cases hc:a=i/\0<n
    ·obtain⟨rfl,hn⟩:=hc;rw[UX h hn];have:=ih (b.length-(a+n)) (by omega) (a+n) t rfl;simp only[cQ];omega
    ·rw[dR,dif_pos h];dsimp only;rw[dif_neg hc];have:=ih (b.length-(i+1)) (by omega) (i+1) ((a,n,d)::t) rfl;simp only[cQ];omega
  ·rw[UW (by omega)];exact dZ _
def xq (a al:Option Addr) (bl cap ll cl:Nat) (mO iN:Value) (told:Bool):Value:=.agg #[.slice a bl cap,.slice al ll cl,mO,iN,.bool told]
theorem qt9 (kW:FuncId) (cv:Array Value) (eg:∀args w,(callFunc kW args).run Tryz.prog w = .ok (.enter kW args) w) (I:List Tok->List Nat->World->Prop) (F0:List Nat)
  (b:List UInt8) (a al:Option Addr) (cap cl r:Nat) (l:List Mt) (mO iN:Value) (told:Bool) (w:World) (FZ:mO.oneCell'=true) (Bt:iN.oneCell'=true)
  (hb:Rd w a cap b) (hl:Cs w al (bM l)) (sC:l.length<=cl) (rk:al=none->cl=0) (oP:cl<=maxLen) (dV:dB b r 0 l) (hr:r<=32768) (ie:b.length<=1000000)
  (hF:∀x∈F0,x<w.heap.size/\x∉ae a/\x∉ae al)
  (BM:∀w',Fr [] w w'->I [] F0 w')
  (I0:∀t F c w',t.length<b.length->I t F w'->Calls Tryz.prog kW (#[.int .u8 (c:UInt8).toNat,.pointer none]++cv) w' λe w2=>e = .returned (.tuple #[])/\Fr F w' w2/\∃F',I (t++[.lit c]) F' w2/\∀y∈F',y∈F\/w'.heap.size<=y)
  (IV:∀t F n d g o w',t.length<b.length->I t F w'->3<=n->n<=258->1<=d->d<=32768->g∉F->w'.cell? ⟨g,o+1,none⟩=some (.int .i64 (n:Nat))->w'.cell? ⟨g,o+2,none⟩=some (.int .i64 (d:Nat))->
   Calls Tryz.prog kW (#[.int .u8 0,.pointer (some ⟨g,o,none⟩)]++cv) w' λe w2=>e = .returned (.tuple #[])/\Fr F w' w2/\∃F',I (t++[.mat n d]) F' w2/\∀y∈F',y∈F\/w'.heap.size<=y) :
  Calls Tryz.prog 156 #[xq a al b.length cap l.length cl mO iN told,.func (.func kW) #[] cv] w λe w'=>e = .returned (.tuple #[])/\Fr F0 w w'/\∃F,I (dR b 0 l) F w'/\∀y∈F,y∈F0\/w.heap.size<=y:=by
 obtain⟨BL,j1⟩:=ah b.length;obtain⟨LL,oE⟩:=ah l.length;rw[<-j1]at ie I0 IV ⊢;rw[<-oE]at sC ⊢;obtain⟨w1,cD⟩:=ah (w.alloc (.cells #[.slice a BL cap,.slice al LL cl,mO,iN,.bool told] 197 (0,0)));have f1:Fr [] w w1:=by rw[cD];exact (Fr.refl [] w).alloc _
 have iZ:w1.heap.size=w.heap.size+1:=by rw[cD,eZ]
 have iz:w1.heap[w.heap.size]?=some (.cells #[.slice a BL cap,.slice al LL cl,mO,iN,.bool told] 197 (0,0)):=by rw[cD];exact bx w _
 have HB:=oG (hb.fr f1) (hl.fr f1 (by simp)) dV iz iZ f1 hF j1 oE;have HI:=au (BM w1 f1) I0 IV;have HW:=af cD.symm;obtain⟨B,hB⟩:=ah w.heap.size;have J0:=af hB;clear hb hl dV hF BM I0 IV j1 oE cD f1 iZ iz hB;unfold xq;go_enter Tryz.func156,Tryz.ntmps156;go_upto_block 0 with fail;have zbR:cl<=9223372036854775807:=oP;rw[HW.out,<-J0.out];go_wp2;go_loopg [4,5] BL (λgk s4 s5 wr=>∃(i k:Nat) (done:List Tok) (F:List Nat),s5 = .int .i64 (i:Nat)/\s4 = .int .i64 (k:Nat)/\gk=BL-i/\i<=BL/\k<=LL/\done++dR b i (l.drop k)=dR b 0 l/\done.length<=i/\dB b r i (l.drop k)/\I done F wr/\Fr F0 w1 wr/\∀y∈F,y∈F0\/w1.heap.size<=y);case atStart=>exact⟨0,0,[],F0,rfl,rfl,rfl,dZ _,dZ _,rfl,aw _,HB.out.2.2.1,HI.o0,.refl _ _,λy hy=>.inl hy⟩
 case round=>
  obtain⟨i,k,done,F,rfl,rfl,hk,sF,qs,bF,ic,dV,hI,dU,qD⟩:=hrel;obtain⟨hb,hl,Ez,iz,iZ,f1,hF,j1,oE⟩:=HB.out;have kL:=dU.ae iz (λhx=>by have:=(hF _ hx).1;omega);have c0:=cell_of kL 0;have c1:=cell_of kL 1;simp only[bw,aV,bN]at c0 c1;rw[<-J0.out]at c0 c1;have jH:B∉F:=λhx=>by
   have:=J0.out;rcases qD B hx with q|q
   ·have:=(hF _ q).1;omega
   ·omega
  by_cases hi:i<BL
  ·have eC:i<b.length:=by rw[<-j1];exact hi
   have BA:=hb.gg dU λx hx jU=>(hF x jU).2.1 hx
   obtain⟨ga,oa,rfl,Bx⟩:=BA.cs.at (by rw[cN];omega);have d0:wr.cell? ⟨ga,oa+i,none⟩=some (.int .u8 (b[i]'eC).toNat):=Bx i _ (by simp[eC,bv]);have IZ:=hl.fr dU λx hx jU=>(hF x jU).2.2 hx
   by_cases hkk:k<LL
   ·have Oq:k<l.length:=by rw[<-oE];exact hkk
    obtain⟨gl,ol,rfl,fH⟩:=IZ.at (by rw[qjy];omega);obtain⟨m1,m2,m3⟩:=qqo l k Oq;have sG:=AF Oq;obtain⟨m,hm⟩:=ah (l[k]);rw[<-hm]at m1 m2 m3 sG;obtain⟨x,n,d⟩:=m;simp only at m1 m2 m3;have p1:wr.cell? ⟨gl,ol+k*3,none⟩=some (.int .i64 x):=fH _ _ m1;have p2:wr.cell? ⟨gl,ol+k*3+1,none⟩=some (.int .i64 n):=fH _ _ m2;have p3:wr.cell? ⟨gl,ol+k*3+2,none⟩=some (.int .i64 d):=fH _ _ m3;rw[sG]at bF dV;have x7:gl∉F:=λhx=>by
     have h1:=hl.lt (by intro h;have:=congrArg List.length h;rw[qjy]at this;simp at this;omega) ⟨gl,ol,none⟩ rfl;rcases qD gl hx with q|q
     ·exact (hF gl q).2.2 (by simp[ae])
     ·have:=f1.size;simp only at h1;omega
    by_cases KW:x=i
    ·subst KW;obtain⟨h3,jI,h1,hdr,hdx,Ns,_,tB⟩:3<=n/\n<=258/\1<=d/\d<=r/\d<=x/\x+n<=b.length/\True/\dB b r (x+n) (l.drop (k+1)):=⟨dV.2.1,dV.2.2.1,dV.2.2.2.1,dV.2.2.2.2.1,dV.2.2.2.2.2.1,dV.2.2.2.2.2.2.1,trivial,dV.2.2.2.2.2.2.2.2⟩;have bg:=HI.l2 done F n d gl (ol+k*3) wr (by omega) hI h3 jI h1 (by omega) x7 p2 p3;have HJ:=cz bg dU qD bF tB ic hk;have hxb:x+n<=1000000:=by omega
     have hxB:x+n<=BL:=by omega
     have wP:0<n:=by omega
     clear bg dU qD bF dV tB ic hI hk hF Ez hb hl IZ fH Bx BA kL m1 m2 m3 sG hm Ns h3 jI h1 hdr hdx iZ f1 iz p3 j1 oE;go_wp2;refine HJ.out.1.mono ?_;rintro e w2 ⟨rfl,f2,F2,mF,jZ⟩;have c1b:=f2.cell c1 jH;have p2b:=f2.cell p2 x7;have H2:=au f2 mF jZ;clear f2 mF jZ jH x7 c1 p2 c0 p1 eg;go_wp2;go_roundg (BL-(x+n));case measure=>have:=HJ.out.2.2.2.2.2.2;omega
     case rel=>
      obtain⟨_,dU,qD,bF,dV,ic,hk⟩:=HJ.out;obtain⟨f2,mF,jZ⟩:=H2.out;refine⟨x+n,k+1,done++[.mat n d],F2,by go_num,by go_num,rfl,hxB,by omega,?_,?_,dV,mF,dU.step f2 λy hy=>qD y hy,λy hy=>?_⟩
      ·rw[gH,<-bF,UX eC wP];rfl
      ·rw[aK];simp only[cQ,lK];omega
      ·rcases jZ y hy with q|q
       ·exact qD y q
       ·exact .inr (bS dU.size q)
    ·have bR:((x:Int)==(i:Int))=false:=by simp only[beq_eq_false_iff_ne];omega
     have CT:∀a n' d' t,(x,n,d)::l.drop (k+1)=(a,n',d')::t->a≠i:=λa n' d' t he=>by simp only[List.cons.injEq,fj]at he;rw[<-he.1.1];exact KW
     have tB:=qod (l:=(x,n,d)::l.drop (k+1)) dV _ _ _ _ rfl KW;rw[Mu eC CT,<-sG]at bF;rw[<-sG]at tB;clear p2 p3 sG hm m1 m2 m3 x7 KW CT dV fH;have bg:=HI.o1 done F (b[i]'eC) wr (by omega) hI;obtain⟨cc,kv⟩:=ah (b[i]'eC);rw[<-kv]at bg d0 bF;obtain⟨cn,kK⟩:=ah cc.toNat;rw[<-kK]at bg d0;have XR:i+1<=BL:=hi;have hi6:i<=1000000:=by omega
     have HJ:=lJ bg dU qD bF tB ic hk qs;clear bg dU qD bF tB ic hI hk hF Ez hb hl IZ Bx BA kL iZ f1 iz j1 oE jH kv sF kK;go_wp2;refine HJ.out.1.mono ?_;rintro e w2 ⟨rfl,f2,F2,mF,jZ⟩;have H2:=au f2 mF jZ;clear f2 mF jZ c0 c1 d0 eg;go_wp2;go_roundg (BL-(i+1));case measure=>have:=HJ.out.2.2.2.2.2.2.1;omega
     case rel=>
      obtain⟨_,dU,qD,bF,dV,ic,hk,qs⟩:=HJ.out;obtain⟨f2,mF,jZ⟩:=H2.out;refine⟨i+1,k,done++[.lit cc],F2,by go_num,rfl,rfl,XR,qs,?_,?_,dV,mF,dU.step f2 λy hy=>qD y hy,λy hy=>?_⟩
      ·rw[gH];exact bF
      ·rw[aK];simp only[cQ,lK];omega
      ·rcases jZ y hy with q|q
       ·exact qD y q
       ·exact .inr (bS dU.size q)
   ·have tq:l.drop k=[]:=CK (by rw[<-oE];omega);have tB:dB b r (i+1) (l.drop k):=by rw[tq];trivial
    rw[Mu eC (λa n' d' t he=>by rw[tq]at he;cases he)]at bF;clear dV tq;have bg:=HI.o1 done F (b[i]'eC) wr (by omega) hI;obtain⟨cc,kv⟩:=ah (b[i]'eC);rw[<-kv]at bg d0 bF;obtain⟨cn,kK⟩:=ah cc.toNat;rw[<-kK]at bg d0;have XR:i+1<=BL:=hi;have hi6:i<=1000000:=by omega
    have HJ:=lJ bg dU qD bF tB ic hk qs;clear bg dU qD bF tB ic hI hk hF Ez hb hl IZ Bx BA kL iZ f1 iz j1 oE jH kv sF kK;go_wp2;refine HJ.out.1.mono ?_;rintro e w2 ⟨rfl,f2,F2,mF,jZ⟩;have H2:=au f2 mF jZ;clear f2 mF jZ c0 c1 d0 eg;go_wp2;go_roundg (BL-(i+1));case measure=>have:=HJ.out.2.2.2.2.2.2.1;omega
    case rel=>
     obtain⟨_,dU,qD,bF,dV,ic,hk,qs⟩:=HJ.out;obtain⟨f2,mF,jZ⟩:=H2.out;refine⟨i+1,k,done++[.lit cc],F2,by go_num,rfl,rfl,XR,qs,?_,?_,dV,mF,dU.step f2 λy hy=>qD y hy,λy hy=>?_⟩
     ·rw[gH];exact bF
     ·rw[aK];simp only[cQ,lK];omega
     ·rcases jZ y hy with q|q
      ·exact qD y q
      ·exact .inr (bS dU.size q)
  ·have HJ:=aF hI dU qD bF;clear hI dU qD bF dV hF Ez hb hl kL iZ f1 iz j1 oE jH;go_wp2;(try simp only[Exit.inBlock,Exit.then]);refine bodyPost_end (results_none rfl _ _ _) rfl ?_;obtain⟨hI,dU,qD,bF⟩:=HJ.out;rw[UW (by have:=HB.out.2.2.2.2.2.2.2.1;omega),nF]at bF;rw[bF]at hI;have hB:=J0.out;exact⟨rfl,(HB.out.2.2.2.2.2.1.mono (by simp)).trans dU,F,hI,λy hy=>(qD y hy).imp id λq=>bS HB.out.2.2.2.2.2.1.size q⟩
end defl
namespace huf
open Go
abbrev aI:=Nat×List Nat
def aB:List aI->List aI
 | x::y::t=>(x.1+y.1,x.2++y.2)::aB t
 | _=>[]
def mL:List aI->List aI->List aI
 | [],p=>p
 | x::l,p=>go x l (mL l) p
where go (x:aI) (l:List aI) (f:List aI->List aI):List aI->List aI
 | []=>x::l
 | y::p=>if x.1<=y.1 then x::f (y::p) else y::go x l f p
theorem Un (p:List aI):mL [] p=p:=rfl
theorem MR (l:List aI):mL l []=l:=by cases l<;>rfl
theorem QJ {x y:aI} {l p:List aI} (h:x.1<=y.1):mL (x::l) (y::p)=x::mL l (y::p):=by show mL.go x l (mL l) (y::p)=_;rw[mL.go,if_pos h]
theorem QI {x y:aI} {l p:List aI} (h:¬x.1<=y.1):mL (x::l) (y::p)=y::mL (x::l) p:=by show mL.go x l (mL l) (y::p)=_;rw[mL.go,if_neg h];rfl
def Sorted (l:List aI):Prop:=l.Pairwise λa b=>a.1<=b.1
def kP:List aI->List aI->Nat->Nat×Nat
 | _,_,0=>(0,0)
 | [],p,m+1=>(0,min (m+1) p.length)
 | x::l,[],m+1=>(min (m+1) (l.length+1),0)
 | x::l,y::p,m+1=>if x.1<=y.1 then ((kP l (y::p) m).1+1,(kP l (y::p) m).2) else ((kP (x::l) p m).1,(kP (x::l) p m).2+1)
theorem Au:∀(l p:List aI),(mL l p).length=l.length+p.length
 | [],p=>by simp[Un]
 | x::l,[]=>by simp[MR]
 | x::l,y::p=>by
  by_cases h:x.1<=y.1
  ·rw[QJ h,cQ,Au l (y::p)];simp only[cQ];omega
  ·rw[QI h,cQ,Au (x::l) p];simp only[cQ];omega
termination_by l p=>l.length+p.length
theorem Ct:∀(l p:List aI) (m:Nat),m<=l.length+p.length->(kP l p m).1+(kP l p m).2=m/\(kP l p m).1<=l.length/\(kP l p m).2<=p.length
 | l,p,0,_=>by cases l<;>cases p<;>simp[kP]
 | [],p,m+1,h=>by simp[kP]at h ⊢;omega
 | x::l,[],m+1,h=>by simp[kP]at h ⊢;omega
 | x::l,y::p,m+1,h=>by
  simp only[cQ]at h;by_cases hx:x.1<=y.1
  ·obtain⟨h1,h2,h3⟩:=Ct l (y::p) m (by simp only[cQ];omega);rw[kP,if_pos hx];simp only[cQ]at h3 ⊢;omega
  ·obtain⟨h1,h2,h3⟩:=Ct (x::l) p m (by simp only[cQ];omega);rw[kP,if_neg hx];simp only[cQ]at h2 ⊢;omega
termination_by l p m=>m
theorem Fl:∀(l p:List aI) (m:Nat),((mL l p).take m).Perm (l.take (kP l p m).1++p.take (kP l p m).2)
 | l,p,0=>by cases l<;>cases p<;>simp[kP]
 | [],p,m+1=>by
  rw[Un,kP];simp only[DK,vI];rw[<-List.take_take,oI (aw p.length)]
 | x::l,[],m+1=>by
  rw[MR,kP];simp only[List.take_nil,nF];rw[<-List.take_take,oI (show (x::l).length<=l.length+1 from aw _)]
 | x::l,y::p,m+1=>by
  by_cases hx:x.1<=y.1
  ·rw[QJ hx,kP,if_pos hx];simp only[qY,G7];exact (Fl l (y::p) m).cons x
  ·rw[QI hx,kP,if_neg hx];simp only[qY];exact ((Fl (x::l) p m).cons y).trans List.perm_middle.symm
termination_by l p m=>m
theorem Vo:∀(l p:List aI) (m:Nat) (i j:Nat) (x y:aI),Sorted l->l[i]?=some x->p[j]?=some y->x.1<y.1->j<(kP l p m).2->i<(kP l p m).1
 | l,p,0,i,j,x,y,_,_,_,_,h=>by cases l<;>cases p<;>simp[kP]at h
 | [],p,m+1,i,j,x,y,_,hx,_,_,_=>by simp at hx
 | x0::l,[],m+1,i,j,x,y,_,_,hy,_,_=>by simp at hy
 | x0::l,y0::p,m+1,i,j,x,y,hs,hx,hy,rG,h=>by
  have fZ:=tV.1 hs;by_cases h0:x0.1<=y0.1
  ·rw[kP,if_pos h0]at h ⊢;cases i with
   | zero=>simp
   | succ i=>rw[bN]at hx;have:=Vo l (y0::p) m i j x y fZ.2 hx hy rG h;simp only;omega
  ·rw[kP,if_neg h0]at h ⊢;cases j with
   | zero=>
    simp only[aV,eS]at hy;subst hy;exfalso;cases i with
    | zero=>
     simp only[aV,eS]at hx;subst hx;omega
    | succ i=>
     rw[bN]at hx;have:=fZ.1 x (iC hx);omega
   | succ j=>rw[bN]at hy;exact Vo (x0::l) p m i j x y hs hx hy rG (by simpa using h)
termination_by l p m=>m
theorem Vn:∀(l p:List aI) (m:Nat) (i j:Nat) (x y:aI),Sorted l->l[i]?=some x->p[j]?=some y->(kP l p m).1<=i->j<(kP l p m).2->y.1<x.1
 | l,p,0,i,j,x,y,_,_,_,_,h=>by cases l<;>cases p<;>simp[kP]at h
 | [],p,m+1,i,j,x,y,_,hx,_,_,_=>by simp at hx
 | x0::l,[],m+1,i,j,x,y,_,_,hy,_,_=>by simp at hy
 | x0::l,y0::p,m+1,i,j,x,y,hs,hx,hy,hi,h=>by
  have fZ:=tV.1 hs;by_cases h0:x0.1<=y0.1
  ·rw[kP,if_pos h0]at h hi;cases i with
   | zero=>simp at hi
   | succ i=>rw[bN]at hx;exact Vn l (y0::p) m i j x y fZ.2 hx hy (by simpa using hi) h
  ·rw[kP,if_neg h0]at h hi;have hxx:x0.1<=x.1:=by
    cases i with
    | zero=>
     simp only[aV,eS]at hx;rw[hx];exact aw _
    | succ i=>rw[bN]at hx;exact fZ.1 x (iC hx)
   cases j with
   | zero=>
    simp only[aV,eS]at hy;subst hy;omega
   | succ j=>rw[bN]at hy;exact Vn (x0::l) p m i j x y hs hx hy hi (by simpa using h)
termination_by l p m=>m
theorem RE:∀(l p:List aI),Sorted l->Sorted p->Sorted (mL l p)
 | [],p,_,hp=>hp
 | x::l,[],hl,_=>by rw[MR];exact hl
 | x::l,y::p,hl,hp=>by
  have Ga:=tV.1 hl;have IL:=tV.1 hp;have mem:∀(a b:List aI) z,z∈mL a b->z∈a\/z∈b:=λa b z hz=>by
   have h1:=Fl a b (mL a b).length;rw[oI (aw _)]at h1;rcases jy.1 (h1.mem_iff.1 hz) with k|k
   ·exact .inl (xF k)
   ·exact .inr (xF k)
  by_cases h:x.1<=y.1
  ·rw[QJ h];refine tV.2 ⟨λz hz=>?_,RE l (y::p) Ga.2 hp⟩;rcases mem _ _ z hz with k|k
   ·exact Ga.1 z k
   ·rcases gw.1 k with k|k
    ·rw[k];exact h
    ·exact bS h (IL.1 z k)
  ·rw[QI h];refine tV.2 ⟨λz hz=>?_,RE (x::l) p hl IL.2⟩;rcases mem _ _ z hz with k|k
   ·rcases gw.1 k with k|k
    ·rw[k];omega
    ·have:=Ga.1 z k;omega
   ·exact IL.1 z k
termination_by l p=>l.length+p.length
end huf

end Go.Proofs.YtkmpfgpfbmeihaaGreatDoor