/-
  Texts of this proof, one behind the other: Mat, MatE, MatM, Each, HuffPm.
-/
import Derived.Test.YtkmpfgpfbmeihaaGreatDoorQ5
import Derived.Maps.OwnOps
import Derived.Maps.OwnSet
set_option maxHeartbeats 16000000
set_option maxRecDepth 100000
set_option linter.unusedVariables false
set_option linter.unusedSimpArgs false
namespace Go.Proofs.YtkmpfgpfbmeihaaGreatDoor
namespace mat
open Go Go.RowKit lib bm
theorem or8 (x y:Nat) (hx:x<256) (hy:y<256):bits .or .u32 (x:Int) ((y:Int)*256)=((x+256*y:Nat):Int):=by have h:=VG x y 8 8 hx hy (by decide);rw[Int.emod_eq_of_lt (by omega) (by have e:(2:Int)^8=256:=rfl;rw[e];omega)]at h;exact h
theorem XG (x y:Nat) (hx:x<65536) (hy:y<256):bits .or .u32 (x:Int) ((y:Int)*65536)=((x+65536*y:Nat):Int):=by have h:=VG x y 16 8 hx hy (by decide);rw[Int.emod_eq_of_lt (by omega) (by have e:(2:Int)^16=65536:=rfl;rw[e];omega)]at h;exact h
theorem qd (b:LB) (i:Nat):three (b.drop i) 0=three b i:=by unfold three;simp only[Ai,ie,ft]
theorem qqy (a:OA) (cap:Nat) (d:LB) (w:World) (h:Rd w a cap d) (h3:3<=d.length) :
  Calls Tryz.prog 153 #[.slice a d.length cap] w λe w'=>e = .returned (.int .u32 (three d 0))/\∃n,w'=w.drewN n:=by
 obtain⟨g,o,rfl,c0⟩:=h.at (i:=0) (by omega);obtain⟨g1,o1,e1,c1⟩:=h.at (i:=1) (by omega);obtain⟨g2,o2,e2,c2⟩:=h.at (i:=2) (by omega);simp only[eJ,ru,and_true]at e1 e2;obtain⟨rfl,rfl⟩:=e1;obtain⟨rfl,rfl⟩:=e2;have hle:=h.le;have b0:(d[0]?.getD 0)=d[0]:=by rw[br (by omega)];rfl
 have b1:(d[1]?.getD 0)=d[1]:=by rw[br (by omega)];rfl
 have b2:(d[2]?.getD 0)=d[2]:=by rw[br (by omega)];rfl
 have ht:three d 0=d[0].toNat+256*d[1].toNat+65536*d[2].toNat:=by unfold three;rw[ft,ft,b0,b1,b2]
 have l0:=iL d[0];have l1:=iL d[1];have l2:=iL d[2];rw[ht];generalize d[0].toNat=x0 at *;generalize d[1].toNat=x1 at *;generalize d[2].toNat=x2 at *;have o1:=or8 x0 x1 (by omega) (by omega);obtain⟨y,hy⟩:=ai (x0+256*x1);rw[<-hy]at o1;have o2:=XG y x2 (by omega) (by omega);rw[<-hy];obtain⟨z,hz⟩:=ai (y+65536*x2);rw[<-hz]at o2 ⊢;clear hy hz;have g0:(0:Int)<(d.length:Int):=by omega
 have g1:(1:Int)<(d.length:Int):=by omega
 have g2:(2:Int)<(d.length:Int):=by omega
 simp only[ie]at c0;clear h b0 b1 b2 ht;go_enter Tryz.func153,Tryz.ntmps153;go_wp2_with fail;go_quiet (fail);go_wp2;go_ret;exact⟨rfl,_,rfl⟩
theorem qoe {b:LB} {i j f n:Nat} (h:¬(j+n<b.length/\b[i+n]?=b[j+n]?)):fe b i j f n=n:=by
 cases f with
 | zero=>rfl
 | succ f=>rw[fe,if_neg h]
theorem zbt (a:OA) (cap i j:Nat) (b:LB) (w:World) (h:Rd w a cap b) (mO:i<=j) (hj:j<=b.length) :
  Calls Tryz.prog 154 #[.slice a b.length cap,.int .i64 i,.int .i64 j] w λe w'=>e = .returned (.int .i64 (alike b i j))/\Fr [] w w':=by
 have hle:=h.le;have dK:=h.max;unfold maxLen at dK;obtain⟨L,hL⟩:=ai b.length;rw[<-hL]at hle hj ⊢;have H:=ak h hL;clear h hL;go_enter Tryz.func154,Tryz.ntmps154;go_upto_block 0 with fail;go_wp2;go_loopg [7] 258 (λk s7 wr=>∃n:Nat,s7 = .int .i64 (n:Nat)/\n+k=258/\j+n<=L/\fe b i j k n=alike b i j/\Fr [] w wr);case atStart=>exact⟨0,rfl,rfl,by omega,rfl,Fr.refl _ _⟩
 case round=>
  obtain⟨n,rfl,hn,EL,nA,hf⟩:=hrel;have HF:=ak nA hf;clear nA hf;obtain⟨m1,jt⟩:=ai (i+n);obtain⟨m2,iy⟩:=ai (j+n);have e1:(i:Int)+(n:Int)=(m1:Int):=by omega
  have e2:(j:Int)+(n:Int)=(m2:Int):=by omega
  have w1:IntKind.i64.wrap ((i:Int)+(n:Int))=(m1:Int):=by rw[oE];omega
  have w2:IntKind.i64.wrap ((j:Int)+(n:Int))=(m2:Int):=by rw[oE];omega
  have HE:=ak jt iy;have l1:m1<=L:=by omega
  have l2:m2<=L:=by omega
  have l3:m1<=m2:=by omega
  by_cases hn258:n<258
  ·obtain⟨k,rfl⟩:∃k,gk=k+1:=⟨gk-1,by omega⟩;have d0:decide ((n:Int)<258)=true:=by simp;omega
   by_cases c2:m2<L
   ·have d2:decide (m2<L)=true:=by simpa using c2
    have d2':decide ((m2:Int)<L)=true:=by simp;omega
    have hH:m1<b.length:=by rw[<-H.out.2];omega
    have jC:m2<b.length:=by rw[<-H.out.2];omega
    obtain⟨g1,o1,ra,X1⟩:=H.out.1.at hH;obtain⟨g2,o2,rb,X2⟩:=H.out.1.at jC;have Vb:=rb;rw[ra]at Vb;simp only[eJ,ru,and_true]at Vb;obtain⟨rfl,rfl⟩:=Vb;have x1:=HF.l1.cell X1 (by simp);have x2:=HF.l1.cell X2 (by simp);clear X1 X2;obtain⟨y1,sB⟩:∃y,y=b[m1]:=⟨_,rfl⟩;obtain⟨y2,lb⟩:∃y,y=b[m2]:=⟨_,rfl⟩;rw[<-sB]at x1;rw[<-lb]at x2;have q1:b[m1]?=some y1:=by rw[sB];exact br hH
    have q2:b[m2]?=some y2:=by rw[lb];exact br jC
    have i1:(m1:Int)<(L:Int):=by omega
    have i2:(m2:Int)<(L:Int):=by omega
    subst ra;clear rb sB lb;by_cases ce:y1=y2
    ·have aH:fe b i j (k+1) n=fe b i j k (n+1):=by rw[fe,if_pos];exact⟨by rw[<-H.out.2,<-iy];exact c2,by rw[<-jt,<-iy,q1,q2,ce]⟩
     have HS:=ah (aH.symm.trans HF.o0);rw[<-ce]at x2;generalize y1.toNat=n1 at *;clear ce hH jC jt iy q1 q2 aH;go_upto_region 2 with fail;go_quiet (fail);clear x1 x2 w1 w2;go_wp2;go_roundg k;case measure=>omega
     case rel=>exact⟨n+1,by go_num,by omega,by have:=HE.l1;omega,HS.out,HF.l1.trans (Fr.drewN [] _ _)⟩
    ·have cQ:y1.toNat≠y2.toNat:=λh=>ce (KS.1 h)
     have aH:fe b i j (k+1) n=n:=qoe λhc=>by rw[<-jt,<-iy,q1,q2]at hc;exact ce (lA hc.2)
     have HS:=ah (aH.symm.trans HF.o0);have d3:(((y1.toNat:Nat):Int)==((y2.toNat:Nat):Int))=false:=by simp;omega
     generalize y1.toNat=n1 at *;generalize y2.toNat=n2 at *;clear ce hH jC cQ jt iy q1 q2 aH;go_upto_region 2 with fail;go_quiet (fail);clear x1 x2 w1 w2;go_wp2;go_ret;exact⟨by rw[<-HS.out];rfl,HF.l1.trans (Fr.drewN [] _ _)⟩
   ·have d2:decide (m2<L)=false:=by simpa using c2
    have d2':decide ((m2:Int)<L)=false:=by simp;omega
    have aH:fe b i j (k+1) n=n:=qoe λhc=>by have:=hc.1;rw[<-H.out.2]at this;omega
    have HS:=ah (aH.symm.trans HF.o0);clear aH jt iy;go_upto_region 2 with fail;go_quiet (fail);clear w1 w2;go_wp2;go_ret;exact⟨by rw[<-HS.out];rfl,HF.l1.trans (Fr.drewN [] _ _)⟩
  ·obtain rfl:n=258:=by omega
   obtain rfl:gk=0:=by omega
   have HS:=ah HF.o0;clear jt iy;go_upto_region 2 with fail;go_quiet (fail);clear w1 w2;go_wp2;go_ret;exact⟨by rw[<-HS.out];rfl,HF.l1.trans (Fr.drewN [] _ _)⟩
theorem qx1:Tryz.prog.underlying 32=some (.int .u32):=by kernel_rfl
theorem Lb:Tryz.prog.underlying 3=some (.int .i64):=by kernel_rfl
theorem FB:Tryz.prog.underlying 239=some (.map 32 3):=by kernel_rfl
theorem NC:Maps.Keyed Tryz.prog 32:=Maps.int_keyed qx1
theorem V4 (w:World):(zeroValue 3).run Tryz.prog w = .ok (.int .i64 0) w:=by kernel_rfl
theorem qxy {k:Nat} (h:k<4294967296):(Lit.int .u32 (k:Int)).wf=true:=WalkArith.wf_u32 (by omega)
theorem zfo {k:Int} (h : -9223372036854775808<=k) (h2:k<=9223372036854775807):(Lit.int .i64 k).wf=true:=WalkArith.wf_i64 (by omega)
theorem qzp {k:Nat} (h:k<4294967296):keyOf Tryz.prog 32 (.int .u32 (k:Int))=some (.int .u32 (k:Int)):=Maps.keyOf_int_mk qx1 (qxy h)
theorem qpd {a:OA} {cap lo:Nat} (h:lo<cap):aL a cap lo 1=Option.map (λx=>x.add lo) a:=by unfold aL;rw[if_neg (by omega),pI]
def pq:Option Nat->Int×Bool
 | none=>(0,false)
 | some p=>((p:Int),true)
def pv (b:LB) (j:Nat):Int:=match last b j (three b j) with
 | none=>-1
 | some p=>(p:Int)
def nJ (b:LB) (i:Nat) (D:DataW Unit):Prop:=
 Maps.IsMap D/\∀k:Nat,k<4294967296->D.atKey (.int .u32 (k:Int)) (.lit (.int .i64 0)) = .lit (.int .i64 (pq (last b i k)).1)/\Maps.has D (.int .u32 (k:Int))=(pq (last b i k)).2
theorem qts (b:LB):nJ b 0 (.map []):=⟨Maps.isMap_empty,λk _=>⟨rfl,rfl⟩⟩
theorem nJ.put {b:LB} {i:Nat} {D:DataW Unit} (h:nJ b i D) (hi:i+3<=b.length):nJ b (i+1) (D.put (.int .u32 (three b i:Nat)) (.lit (.int .i64 (i:Int)))):=by
 refine⟨h.1.put _ _,λk hk=>?_⟩;by_cases he:three b i=k
 ·have hl:last b (i+1) k=some i:=by rw[last,if_pos ⟨hi,he⟩]
  rw[hl,he];have oO:WideAt.IsKeyLit (.int .u32 (k:Int)):=by first|trivial|exact qxy hk|simp[WideAt.IsKeyLit]
  exact⟨Maps.atKey_put_same h.1 oO _ _,Maps.has_put_same h.1 oO _⟩
 ·have hl:last b (i+1) k=last b i k:=by rw[last,if_neg (λhc=>he hc.2)]
  have cQ:(Lit.int .u32 (k:Int))≠.int .u32 (three b i:Nat):=by intro e;simp only[Lit.int.injEq,true_and]at e;omega
  rw[hl,Maps.atKey_put_other cQ,Maps.has_put_other cQ];exact h.2 k hk
theorem nJ.skip {b:LB} {i:Nat} {D:DataW Unit} (h:nJ b i D) (hi:¬i+3<=b.length):nJ b (i+1) D:=by refine⟨h.1,λk hk=>?_⟩;rw[last,if_neg (λhc=>hi hc.1)];exact h.2 k hk
theorem NQ {H:Type} {P:Program} {w w':World} {k:TypeId} {R:Value->Option (DataW H×List MemPlace)} {m n:Nat} {D:DataW H} (h:w.ownsMap P k R m n D) (hb:w'.heap[m]?=w.heap[m]?):w'.ownsMap P k R m n D:=by obtain⟨es,c,h1,r⟩:=h;exact⟨es,c,hb.trans h1,r⟩
theorem zdb {b:LB} {i bm cnt:Nat} {D:DataW Unit} {w:World} (h:w.ownsMap Tryz.prog 32 (plainElem Tryz.prog 3) bm cnt D) (hm:nJ b i D) {k:Nat} (hk:k<4294967296) :
  (Instr.lookup 239 (.map (some bm)) (.int .u32 (k:Int)) true).run Tryz.prog w = .ok (.tuple #[.int .i64 (pq (last b i k)).1,.bool (pq (last b i k)).2]) w:=by
 obtain⟨v,ps,xe,hv⟩:=h.look_ok NC FB (V4 w) (plainElem_int Lb (by decide)) (qzp hk);obtain⟨ha,hh⟩:=hm.2 k hk;obtain⟨c,rfl,hc,_⟩:=plainElem_int_inv Lb hv;simp only[fj]at hc;rw[ha]at hc;have e:c=(pq (last b i k)).1:=by simpa using hc.1.symm
 rw[xe,hh,e]
def pd:Option Nat->Int
 | none=>-1
 | some p=>(p:Int)
theorem zi5 (b:LB) (j:Nat):pv b j=pd (last b j (three b j)):=by unfold pv pd;rfl
structure Eb (w:World) (b:LB) (a:OA) (cap qb qp qh bp bm cnt:Nat) (D:DataW Unit) (P:AV):Prop where
 vb:w.heap[qb]?=some (.cells #[.slice a b.length cap] 23 (0,0))
 vp:w.heap[qp]?=some (.cells #[.slice (some ⟨bp,0,none⟩) b.length b.length] 28 (0,0))
 vh:w.heap[qh]?=some (.cells #[.map (some bm)] 239 (0,0))
 rd:Rd w a cap b
 map:w.ownsMap Tryz.prog 32 (plainElem Tryz.prog 3) bm cnt D
 row:w.heap[bp]?=some (.cells P 3 (0,0))
 size:P.size=b.length
 np:qb≠bp/\qp≠bp/\qh≠bp/\bm≠bp
 nm:qb≠bm/\qp≠bm/\qh≠bm
 na:b≠[]->∀x∈af a,x≠bp/\x≠bm
theorem Eb.fr {w w':World} {b:LB} {a:OA} {cap qb qp qh bp bm cnt:Nat} {D:DataW Unit} {P:AV} (h:Eb w b a cap qb qp qh bp bm cnt D P) (f:Fr [] w w'):Eb w' b a cap qb qp qh bp bm cnt D P:=
 ⟨f.af h.vb (by simp),f.af h.vp (by simp),f.af h.vh (by simp),h.rd.fr f,NQ h.map (f.block _ h.map.lt (by simp)),f.af h.row (by simp),h.size,h.np,h.nm,h.na⟩
theorem Eb.store {w:World} {b:LB} {a:OA} {cap qb qp qh bp bm cnt:Nat} {D:DataW Unit} {P:AV} (h:Eb w b a cap qb qp qh bp bm cnt D P) (i:Nat) (v:Value) :
  Eb (w.setCell ⟨bp,i,none⟩ v) b a cap qb qp qh bp bm cnt D (P.setIfInBounds i v)/\Fr [bp] w (w.setCell ⟨bp,i,none⟩ v):=by
 have f:Fr [bp] w (w.setCell ⟨bp,i,none⟩ v):=(Fr.refl [bp] w).setCell (by simp) v;obtain⟨n1,n2,n3,n4⟩:=h.np;exact⟨⟨f.af h.vb (by simpa using n1),f.af h.vp (by simpa using n2),f.af h.vh (by simpa using n3),Af h.rd f (λhb x hx=>by simpa using (h.na hb x hx).1),NQ h.map (f.block _ h.map.lt (by simpa using n4)),bI h.row v,by simp[h.size],h.np,h.nm,h.na⟩,f⟩
theorem Eb.put {w w':World} {b:LB} {a:OA} {cap qb qp qh bp bm cnt Q5:Nat} {D D':DataW Unit} {P:AV} (h:Eb w b a cap qb qp qh bp bm cnt D P) (hm:w'.ownsMap Tryz.prog 32 (plainElem Tryz.prog 3) bm Q5 D') (hg:w.grownBy w' (some bm)) :
  Eb w' b a cap qb qp qh bp bm Q5 D' P/\Fr [bm] w w':=by
 have f:Fr [bm] w w':=(Fr.refl [bm] w).grown hg (λk hk=>by simp only[eJ]at hk;simp[hk]);obtain⟨n1,n2,n3,n4⟩:=h.np;obtain⟨m1,m2,m3⟩:=h.nm;exact⟨⟨f.af h.vb (by simpa using m1),f.af h.vp (by simpa using m2),f.af h.vh (by simpa using m3),Af h.rd f (λhb x hx=>by simpa using (h.na hb x hx).2),hm,f.af h.row (by simpa using (kC n4)),h.size,h.np,h.nm,h.na⟩,f⟩
def En (w:World) (b:LB) (a:OA) (cap qb qp qh bp bm i:Nat):Prop:=
 ∃D P cnt,Eb w b a cap qb qp qh bp bm cnt D P/\cnt<=i/\nJ b i D/\∀j,j<i->j+3<=b.length->P[j]?=some (.int .i64 (pv b j))
theorem En.fr {w w':World} {b:LB} {a:OA} {cap qb qp qh bp bm i:Nat} (h:En w b a cap qb qp qh bp bm i) (f:Fr [] w w'):En w' b a cap qb qp qh bp bm i:=by obtain⟨D,P,cnt,h1,r⟩:=h;exact⟨D,P,cnt,h1.fr f,r⟩
theorem En.skip {w:World} {b:LB} {a:OA} {cap qb qp qh bp bm i:Nat} (h:En w b a cap qb qp qh bp bm i) (hi:¬i+3<=b.length):En w b a cap qb qp qh bp bm (i+1):=by obtain⟨D,P,cnt,h1,h2,h3,h4⟩:=h;exact⟨D,P,cnt,h1,by omega,h3.skip hi,λj hj EN=>h4 j (by omega) EN⟩
theorem zao (b:LB) (a:OA) (cap qb qp qh bp bm i:Nat) (w:World) (h:En w b a cap qb qp qh bp bm i) (hi:i<b.length) (hlen:b.length<=100000) :
  Calls Tryz.prog 152 #[.int .i64 i,.pointer (some ⟨qb,0,none⟩),.pointer (some ⟨qp,0,none⟩),.pointer (some ⟨qh,0,none⟩)] w λe w'=>
   e = .returned (.tuple #[])/\Fr [bp,bm] w w'/\En w' b a cap qb qp qh bp bm (i+1):=by
 by_cases h3:i+3<=b.length
 ·obtain⟨D,P,cnt,E,Qb,qJ,eF⟩:=h;obtain⟨L,hL⟩:=ai b.length;have cb:=cell_of E.vb 0;simp only[bF,aT]at cb;have hle:=E.rd.le;have Et:=qqy (aL a cap i 1) (cap-i) (b.drop i) w (E.rd.drop i (by omega)) (by rw[eV];omega);rw[eV,qd,qpd (by omega)]at Et;have oO:=V1 b i;obtain⟨ha,hh⟩:=qJ.2 _ oO;have hpv:∀p,last b i (three b i)=some p->pv b i=p:=λp hp=>by unfold pv;rw[hp]
  have TB:last b i (three b i)=none->pv b i = -1:=λhp=>by unfold pv;rw[hp]
  rw[<-hL]at cb hi h3 hle hlen Et;have HM:=aG E qJ eF hL;have HP:=ak hpv TB;obtain⟨k,hk⟩:=ai (three b i);rw[<-hk]at oO ha hh Et;have HT:=ah Et;have qM:=qzp oO;have HK:=ah hk;have HL:Hid (L=b.length):=HM.l3 |> Lib.hid
  clear Et hpv TB hL E qJ eF hk;have d0:decide ((L:Int)<(i:Int)+3)=false:=by simp;omega
  go_enter Tryz.func152,Tryz.ntmps152;go_upto_region 2 with (go_at_call 153;(with_reducible refine HT.out.mono ?_);rintro e w1 ⟨rfl,n1,cP⟩;have Rq:=ah cP;clear cP);have E1:Eb w1 b a cap qb qp qh bp bm cnt D P:=HM.o0.fr (by rw[Rq.out];exact Fr.drewN [] w n1);have cp:=cell_of E1.vp 0;simp only[bF,aT]at cp;rw[<-HL.out]at cp;have jr:=aW E1.row i;have fY:i<P.size:=by rw[E1.size,<-HL.out];exact hi
  obtain⟨x0,iD⟩:∃x,w1.cell? ⟨bp,i,none⟩=some x:=⟨P[i],by rw[cell_of E1.row];exact tr fY⟩;have Ku:=ak E1 fY;clear E1 fY cb;go_upto_region 3 with fail;obtain⟨E2,f2⟩:=Ku.out.1.store i (.int .i64 (-1));generalize bL:w1.setCell ⟨bp,i,none⟩ (.int .i64 (-1))=w2 at *;have ch:=cell_of E2.vh 0;simp only[bF,aT]at ch;have aI:=E2.map;have Fo:=ak E2 f2;clear bL E2 f2 cp jr iD;have nT:cnt<maxLen:=by unfold maxLen;omega
  have Ro:Hid ((Lit.int .i64 (i:Int)).wf=true):=ah (zfo (by omega) (by omega));cases hq:last b i k with
  | none=>
   rw[hq]at hh;have vk:last b i (three b i)=none:=by rw[<-HK.out];exact hq
   have HQ:=ah vk;simp only[pq]at hh;clear hq vk ha;go_upto_region 6 with (at_lookup;refine wpList_lookup_own_ok_int _ rfl _ _ 239 rfl 32 3 .i64 NC FB Lb (V4 _) bm cnt D rfl aI _ (.int .u32 (k:Int)) rfl qM ?_;intro c bR _;rw[hh];clear bR);go_wp2_with (at_mapUpdate;refine wpList_mapUpdate_own _ rfl _ _ _ 239 rfl 32 3 NC FB _ bm cnt D rfl aI nT _ _ (.int .u32 (k:Int)) rfl rfl qM _ [] (plainElem_int Lb (a:=(i:Int)) Ro.out) ?_;intro w3 sD Jw);go_end0;obtain⟨E3,f3⟩:=Fo.out.1.put sD Jw;refine⟨rfl,?_,_,_,_,E3,by omega,?_,λj hj EN=>?_⟩
   ·have f1:Fr [bp,bm] w w1:=by rw[Rq.out];exact Fr.drewN [bp,bm] w n1
    exact (f1.step Fo.out.2 (λy hy=>.inl (by simp at hy;simp[hy]))).step f3 (λy hy=>.inl (by simp at hy;simp[hy]))
   ·rw[HK.out];exact HM.o1.put (by rw[<-HL.out];exact h3)
   ·by_cases e:j=i
    ·subst e;rw[iG Ku.out.2,HP.l1 HQ.out]
    ·rw[aX (by omega)];exact HM.o2 j (by omega) EN
  | some p=>
   rw[hq]at hh ha;have vk:last b i (three b i)=some p:=by rw[<-HK.out];exact hq
   have HQ:=ah vk;simp only[pq]at hh ha;have HA:=ah ha;clear hq vk ha;have cp:=cell_of Fo.out.1.vp 0;simp only[bF,aT]at cp;rw[<-HL.out]at cp;have jr:=aW Fo.out.1.row i;obtain⟨x1,eQ⟩:∃x,w2.cell? ⟨bp,i,none⟩=some x:=⟨_,by rw[cell_of Fo.out.1.row];exact iG Ku.out.2⟩;go_upto_region 6 with (at_lookup;refine wpList_lookup_own_ok_int _ rfl _ _ 239 rfl 32 3 .i64 NC FB Lb (V4 _) bm cnt D rfl aI _ (.int .u32 (k:Int)) rfl qM ?_;intro c bR _;rw[hh];have HC:Hid (c=(p:Int)):=ah (by rw[HA.out]at bR;simpa using bR.symm);clear bR);obtain⟨E3,f3⟩:=Fo.out.1.store i (.int .i64 c);generalize jR:w2.setCell ⟨bp,i,none⟩ (.int .i64 c)=w3 at *;have ch3:=cell_of E3.vh 0;simp only[bF,aT]at ch3;have sD:=E3.map;have HE3:=ak E3 f3;clear jR E3 f3 cp jr eQ aI ch;go_wp2_with (at_mapUpdate;refine wpList_mapUpdate_own _ rfl _ _ _ 239 rfl 32 3 NC FB _ bm cnt D rfl sD nT _ _ (.int .u32 (k:Int)) rfl rfl qM _ [] (plainElem_int Lb (a:=(i:Int)) Ro.out) ?_;intro w4 lS Jv);go_end0;obtain⟨E4,f4⟩:=HE3.out.1.put lS Jv;refine⟨rfl,?_,_,_,_,E4,by omega,?_,λj hj EN=>?_⟩
   ·have f1:Fr [bp,bm] w w1:=by rw[Rq.out];exact Fr.drewN [bp,bm] w n1
    exact ((f1.step Fo.out.2 (λy hy=>.inl (by simp at hy;simp[hy]))).step HE3.out.2 (λy hy=>.inl (by simp at hy;simp[hy]))).step f4 (λy hy=>.inl (by simp at hy;simp[hy]))
   ·rw[HK.out];exact HM.o1.put (by rw[<-HL.out];exact h3)
   ·by_cases e:j=i
    ·subst e;rw[iG (by rw[rA];exact Ku.out.2),HP.o0 p HQ.out,HC.out]
    ·rw[aX (by omega),aX (by omega)];exact HM.o2 j (by omega) EN
 ·have hsk:=h.skip h3;obtain⟨D,P,cnt,E,_⟩:=h;have cb:=cell_of E.vb 0;simp only[bF,aT]at cb;have HS:=ah hsk;clear hsk E;have d0:decide ((b.length:Int)<(i:Int)+3)=true:=by simp;omega
  go_enter Tryz.func152,Tryz.ntmps152;go_wp2;(try simp only[Exit.inBlock,Exit.then]);refine bodyPost_ret (results_none rfl _ _ _) rfl ?_;exact⟨rfl,Fr.refl _ _,HS.out⟩
def bS (l:List Mt):List Value:=l.flatMap λx=>[.int .i64 (x.1:Nat),.int .i64 (x.2.1:Nat),.int .i64 (x.2.2:Nat)]
theorem qj5 (l:List Mt):(bS l).length=l.length*3:=by
 unfold bS;induction l with
 | nil=>rfl
 | cons x l ih=>simp only[vX,aA,bU,kg,ih];omega
theorem qp9 (l m:List Mt):bS (l++m)=bS l++bS m:=by unfold bS;rw[Bm]
theorem qrr:∀(l:List Mt) (i:Nat) (h:i<l.length),(bS l)[i*3]?=some (.int .i64 (l[i].1:Nat))/\(bS l)[i*3+1]?=some (.int .i64 (l[i].2.1:Nat))/\(bS l)[i*3+2]?=some (.int .i64 (l[i].2.2:Nat))
 | x::l,0,_=>⟨rfl,rfl,rfl⟩
 | x::l,i+1,h=>by
  have hc:bS (x::l)=[.int .i64 (x.1:Nat),.int .i64 (x.2.1:Nat),.int .i64 (x.2.2:Nat)]++bS l:=rfl;have e:∀j,(bS (x::l))[(i+1)*3+j]?=(bS l)[i*3+j]?:=λj=>by rw[hc,ye (by simp;omega)];congr 1;simp;omega
  have h0:=qrr l i (by simpa using h);have e0:=e 0;simp only[ie]at e0;rw[e0,e 1,e 2];exact h0
structure Low (w:World) (b:LB) (a:OA) (qb qp qh bp bm B0:Nat):Prop where
 q:qb<B0/\qp<B0/\qh<B0/\bp<B0/\bm<B0
 new:w.heap.size<=bp/\w.heap.size<=bm
 a:b≠[]->∀x∈af a,x<B0
theorem En.up {S:LN} {w0 w w':World} {b:LB} {a:OA} {cap qb qp qh bp bm i B0:Nat} (h:En w b a cap qb qp qh bp bm i) (l:Low w0 b a qb qp qh bp bm B0) (f:Fr S w w') (hS:∀x∈S,B0<=x):En w' b a cap qb qp qh bp bm i:=by
 obtain⟨D,P,cnt,h1,r⟩:=h;obtain⟨l1,l2,l3,l4,l5⟩:=l.q;have no:∀x,x<B0->x∉S:=λx hx hm=>by have:=hS x hm;omega
 exact⟨D,P,cnt,⟨f.af h1.vb (no _ l1),f.af h1.vp (no _ l2),f.af h1.vh (no _ l3),Af h1.rd f (λhb x hx=>no x (l.a hb x hx)),NQ h1.map (f.block _ h1.map.lt (no _ l5)),f.af h1.row (no _ l4),h1.size,h1.np,h1.nm,h1.na⟩,r⟩
structure Ms (w wr:World) (b:LB) (a:OA) (cap qb qp qh bp bm B0 i:Nat) (l:List Mt) (ao:OA) (c:Nat):Prop where
 own:wr.ownsRow 0 243 3 (.slice ao l.length c) l.length (bS l)
 en:En wr b a cap qb qp qh bp bm i
 fr:Fr [] w wr
 new:∀x∈af ao,B0<=x
 low:Low w b a qb qp qh bp bm B0
 big:B0<=wr.heap.size
theorem Ms.dQ {w wr w2:World} {b:LB} {a ao:OA} {cap qb qp qh bp bm B0 i c:Nat} {l:List Mt} (h:Ms w wr b a cap qb qp qh bp bm B0 i l ao c) (f:Fr [] wr w2):Ms w w2 b a cap qb qp qh bp bm B0 i l ao c:=
 ⟨dr h.own f (by simp),h.en.fr f,h.fr.trans f,h.new,h.low,ck h.big f.size⟩
theorem Ms.enter {w wr w2:World} {b:LB} {a ao:OA} {cap qb qp qh bp bm B0 i j c:Nat} {l:List Mt} (h:Ms w wr b a cap qb qp qh bp bm B0 i l ao c) (f:Fr [bp,bm] wr w2) (e:En w2 b a cap qb qp qh bp bm j):Ms w w2 b a cap qb qp qh bp bm B0 j l ao c:=by
 obtain⟨l1,l2,l3,l4,l5⟩:=h.low.q;refine⟨dr h.own f λk hk hm=>?_,e,h.fr.step f λy hy=>?_,h.new,h.low,ck h.big f.size⟩
 ·have:=h.new k (by rw[<-dD ao l.length c,hk];simp);simp only[fP,wL,or_false]at hm;omega
 ·have:=h.low.new;simp only[fP,wL,or_false]at hy;right;omega
theorem qwr {b:LB} {r k i:Nat} (h3:i+3<=b.length):jz b r (k+1) i=(if 3<=(best b r i).1 then [(i,(best b r i).1,i-(best b r i).2)] else [])++jz b r k (i+step b r i):=by rw[jz,if_pos h3];split<;>rfl
def rf (w:World) (l:List Mt) (e:Ending) (w':World):Prop:=∃ao,e = .returned (.slice ao l.length l.length)/\Cs w' ao (bS l)/\(ao=none->l.length=0)/\(∀x∈af ao,x<w'.heap.size)/\Fr [] w w'
theorem yk:az Tryz.prog 194 243 (.agg #[.int .i64 0,.int .i64 0,.int .i64 0]) 3 24:=az.of Tryz.underlying194 (by kernel_rfl) rfl (by decide)
theorem IX:az Tryz.prog 28 3 (.int .i64 0) 1 8:=az.of Tryz.underlying28 (by kernel_rfl) rfl (by decide)
theorem zc8 {b:LB} {a:OA} {cap:Nat} {w w3:World} (h:Rd w a cap b)
  (kJ:w3.ownsRow 0 3 1 (.slice (some ⟨w.heap.size+1+1+1,0,none⟩) b.length b.length) b.length (madeCells (Value.int .i64 0).cells (b.length*1)).toList)
  (iT:(((w.alloc (.cells #[.slice a b.length cap] 23)).alloc (.map #[] 0)).alloc (.cells #[.map (some (w.heap.size+1))] 239)).grownBy w3 none) :
  Ms w (w3.alloc (.cells #[.slice (some ⟨w.heap.size+1+1+1,0,none⟩) b.length b.length] 28)) b a cap w.heap.size w3.heap.size (w.heap.size+1+1) (w.heap.size+1+1+1) (w.heap.size+1) (w3.heap.size+1) 0 [] none 0:=by
 obtain⟨W0,JV⟩:=ai (((w.alloc (.cells #[.slice a b.length cap] 23)).alloc (.map #[] 0)).alloc (.cells #[.map (some (w.heap.size+1))] 239));rw[<-JV]at iT;have oG:W0.heap.size=w.heap.size+1+1+1:=by rw[JV];simp only[fD]
 have f3:Fr [] W0 w3:=(Fr.refl [] W0).grown iT (λk hk=>by cases hk);have f0:Fr [] w W0:=by rw[JV];exact (((Fr.refl [] w).alloc _).alloc _).alloc _
 have b0:W0.heap[w.heap.size]?=some (.cells #[.slice a b.length cap] 23 (0,0)):=by rw[JV];exact qm _ (qm _ (bC w _))
 have b1:W0.heap[w.heap.size+1]?=some (.map #[] 0):=by rw[JV];have:=bC (w.alloc (.cells #[.slice a b.length cap] 23)) (.map #[] 0);rw[fD]at this;exact qm _ this
 have b2:W0.heap[w.heap.size+1+1]?=some (.cells #[.map (some (w.heap.size+1))] 239 (0,0)):=by rw[JV];have:=bC ((w.alloc (.cells #[.slice a b.length cap] 23)).alloc (.map #[] 0)) (.cells #[.map (some (w.heap.size+1))] 239);rw[fD,fD]at this;exact this
 have qJ:W0.ownsMap Tryz.prog 32 (plainElem (H:=Unit) Tryz.prog 3) (w.heap.size+1) 0 (.map []):=by have:=World.ownsMap_made (w.alloc (.cells #[.slice a b.length cap] 23)) Tryz.prog 32 (plainElem (H:=Unit) Tryz.prog 3);rw[fD]at this;rw[JV];exact this.alloc _
 obtain⟨o1,o2⟩:=kJ;rcases o2 with⟨o2,_⟩|⟨g,c',cur,o2,_,hg,_,_,cV,_⟩
 ·cases o2
 ·simp only[mV,eJ,ru,and_true,true_and]at o2;obtain⟨rfl,rfl⟩:=o2;have bg:=lt_of_block hg;have f4:Fr [] w3 (w3.alloc (.cells #[.slice (some ⟨w.heap.size+1+1+1,0,none⟩) b.length b.length] 28)):=(Fr.refl [] w3).alloc _;have fall:=(f0.trans f3).trans f4;have f34:=f3.trans f4;refine⟨wM _ _ _ _,⟨.map [],cur,0,⟨f34.af b0 (by simp),bC w3 _,f34.af b2 (by simp),h.fr fall,NQ qJ (f34.block _ qJ.lt (by simp)),f4.af hg (by simp),by omega,⟨by omega,by omega,by omega,by omega⟩,⟨by omega,by omega,by omega⟩,λhb x hx=>?_⟩,ay _,qts b,λj hj=>by omega⟩,fall,by simp[af],⟨⟨by omega,by omega,by omega,by omega,by omega⟩,⟨by omega,by omega⟩,λhb x hx=>?_⟩,by rw[fD];exact ay _⟩
  ·have:=A7 h hb x hx;omega
  ·have:=A7 h hb x hx;omega
theorem Ms.push {w wr w2:World} {b:LB} {a ao a2:OA} {cap qb qp qh bp bm B0 i c c2:Nat} {l:List Mt} (h:Ms w wr b a cap qb qp qh bp bm B0 i l ao c) (x:Mt) (o:Obj) (n:Nat) (hn:l.length=n)
  (A:aV (wr.alloc o) w2 243 3 (af ao) a2 (n+1) c2 (bS l++bS [x])):Ms w w2 b a cap qb qp qh bp bm B0 i (l++[x]) a2 c2:=by
 have f1:Fr [] wr (wr.alloc o):=(Fr.refl [] wr).alloc o;have hz:(wr.alloc o).heap.size=wr.heap.size+1:=fD _ _;have mE:=h.big;have tJ:=h.low.new;have hlq:=h.low.q;have hs:=A.fr.size;refine⟨by rw[aA,yd,qp9,hn];exact A.own,(h.en.up h.low f1 (by simp)).up h.low A.fr h.new,(h.fr.trans f1).step A.fr λy hy=>.inr (by have:=h.new y hy;omega),λy hy=>?_,h.low,by omega⟩;rcases A.at_ y hy with k|k
 ·exact h.new y k
 ·omega
theorem qtr (b:LB) (a:OA) (cap:Nat) (reach:Int) (w:World) (h:Rd w a cap b) (hlen:b.length<=100000) :
  Calls Tryz.prog 126 #[.slice a b.length cap,.int .i64 reach] w (rf w (Ah b reach)):=by
 have lF:=@run_makeMap Tryz.prog;obtain⟨L,hL⟩:=ai b.length;have hle:=h.le;obtain⟨r,hr⟩:∃r:Int,r=if 32768<reach then 32768 else reach:=⟨_,rfl⟩
 have zx:r<=32768:=by rw[hr];split<;>omega
 rw[<-hL]at hle hlen ⊢;have H:=aw h hL hr;obtain⟨hu,⟨ti,iR,v8,gT,sN⟩,uv,hp⟩:=IX;clear h hL hr;go_enter Tryz.func126,Tryz.ntmps126;go_upto_block 0 with (first|(refine NN r rfl _ _ _ rfl reach 32768 rfl rfl H.l2 ?_)|(refine wpList_make_full _ rfl _ _ 28 rfl 0 3 ti (.int .i64 0) 1 hu iR v8 gT .i64 .i64 (L:Nat) (L:Nat) L rfl rfl rfl rfl (by rw[sN];omega) (by unfold maxLen;omega) (by omega) ?_;intro w3 kJ iT;have H3:=ak kJ iT;clear kJ iT));obtain⟨qb,qp,qh,bp,bm,B0,w4,e1,e2,e3,e4,e5,e6,BZ⟩:∃qb qp qh bp bm B0 w4,w4=w3.alloc (.cells #[.slice (some ⟨w.heap.size+1+1+1,0,none⟩) L L] 28)/\qp=w3.heap.size/\bp=w.heap.size+1+1+1/\qh=w.heap.size+1+1/\bm=w.heap.size+1/\qb=w.heap.size/\Ms w w4 b a cap qb qp qh bp bm B0 0 [] none 0:=by have:=zc8 H.o0 (by have h:=H3.o0;simp only[fD]at h;rw[<-H.o1];exact h) (by rw[<-H.o1];exact H3.l1);rw[<-H.o1]at this;exact⟨_,_,_,_,_,_,_,rfl,rfl,rfl,rfl,rfl,rfl,this⟩
 rw[<-e1,<-e3,<-e4,<-e5,<-e6,<-e2];obtain⟨M,hM⟩:=ai (Ah b reach);obtain⟨R,hR⟩:=ai ((min reach 32768).toNat);have BI:(0<r->([]:List Mt)++jz b R L 0=M)/\(r<=0->([]:List Mt)=M):=by
  have ku:=H.l2;rw[hM,hR,H.o1];unfold Ah;constructor
  ·intro h0;rw[if_pos (by rw[ku]at h0;split at h0<;>omega)];rfl
  ·intro h0;rw[if_neg (by rw[ku]at h0;split at h0<;>omega)]
 have ZE:0<r->(R:Int)=r:=by have ku:=H.l2;intro h0;rw[hR,ku];rw[ku]at h0;split at h0<;>split<;>omega
 have HS:=aw BI BZ hM;have HR:=ah ZE;clear e1 e2 e3 e4 e5 e6 BZ BI ZE hM hR H3 hu iR v8 gT sN uv hp;go_wp2;go_loopg [5,9] L (λk s5 s9 wr=>∃(i c:Nat) (ao:OA) (l:List Mt),s5 = .slice ao l.length c/\s9 = .int .i64 (i:Nat)/\Ms w wr b a cap qb qp qh bp bm B0 i l ao c/\L<=i+k/\i<=L/\l.length<=i/\(0<r->l++jz b R k i=M)/\(r<=0->l=M));case atStart=>exact⟨0,0,none,[],rfl,rfl,HS.o1,by omega,ep _,ay _,HS.o0⟩
 case round=>
  obtain⟨i,c,ao,l,rfl,rfl,BZ,bX,Y2,GA,iu,Pe⟩:=hrel;obtain⟨D,P,cnt,E,_⟩:=BZ.en;have cb:=cell_of E.vb 0;simp only[bF,aT]at cb;rw[<-H.o1]at cb;obtain⟨_,_,mA,o1,o2,o3⟩:=Iw BZ.own;simp only[mV]at mA;obtain⟨rfl,_,rfl⟩:=mA;have hsl:=λw=>Xy yk l.length ao c o1 w
  have Ha:=ah BZ;have HO:=ak iu Pe;clear BZ iu Pe E;have zE:IntKind.i64.wrap ((i:Int)+3)=(i:Int)+3:=IntWalk.i64_in _ (by omega);by_cases h3:i+3<=L
  ·by_cases h0:0<r
   ·have d1:decide ((i:Int)+3<=L)=true:=by simp;omega
    obtain⟨k,rfl⟩:∃k,gk=k+1:=⟨gk-1,by omega⟩;have ZE:=HR.out h0;obtain⟨wo,rfl⟩:∃wo:World,wo=wr:=⟨_,rfl⟩;obtain⟨⟨x1,x2⟩,hx⟩:∃x,x=best b R i:=⟨_,rfl⟩;have bQ:b.length=L:=H.o1.symm;obtain⟨D,P,cnt,E,Qb,qJ,eF⟩:=Ha.out.en;have ch:=cell_of E.vh 0;simp only[bF,aT]at ch;obtain⟨q0,O7⟩:=ai (last b i (three b i));have Et:∀x,Calls Tryz.prog 153 #[.slice (Option.map (λx=>x.add i) a) (L-i) (cap-i)] (wo.drewN x) λe w'=>e = .returned (.int .u32 (three b i:Nat))/\∃n,w'=(wo.drewN x).drewN n:=λx=>by have:=qqy (aL a cap i 1) (cap-i) (b.drop i) (wo.drewN x) ((E.rd.drop i (by omega)).fr (Fr.drewN [] wo x)) (by rw[eV];omega);rw[eV,qd,qpd (by omega),bQ]at this;exact this
    have zG:∀x,(Instr.lookup 239 (.map (some bm)) (.int .u32 (three b i:Nat)) true).run Tryz.prog (wo.drewN x) = .ok (.tuple #[.int .i64 (pq q0).1,.bool (pq q0).2]) (wo.drewN x):=λx=>by have:=zdb (NQ E.map ((Fr.drewN [] wo x).block _ E.map.lt (by simp))) qJ (V1 b i);rw[<-O7]at this;exact this
    have xx:=V1 b i;generalize three b i=kk at Et zG xx;have HX:=aw hx bQ O7;have HE:=ak E eF;have HTH:=ah Et;clear hx bQ O7 Et E eF qJ Qb;go_upto_region 9 with fail;go_quiet ((go_at_call 153;exact Calls.quiet_of (HTH.out _)));go_upto_block 2 with fail;clear zG xx ch;go_cut [10,11,12,14,15] from 42 to 73 (λs10 s11 s12 s14 s15 wz=>s10 = .int .i64 x1/\s11 = .int .i64 x2/\Fr [] wo wz)
    case first=>
     cases q0 with
     | none=>
      have iD:x1=0/\x2=0:=by have h1:=HX.out.1;unfold best at h1;rw[<-HX.out.2.2]at h1;simp only[gP,fj]at h1;exact h1
      obtain⟨rfl,rfl⟩:=iD;simp only[pq];go_wp2;refine wp_loop_rounds 1 ?_;rw[rounds_succ];go_wp2;go_meet;exact⟨rfl,rfl,Fr.drewN [] wo _⟩
     | some p0=>
      simp only[pq];go_wp2;go_loopg [10,11,12,14,15] 48 (λk s10 s11 s12 s14 s15 wz=>∃(n bb aa:Nat) (q:Option Nat),s10 = .int .i64 (bb:Nat)/\s11 = .int .i64 (aa:Nat)/\s12 = .int .i64 (pd q)/\s14 = .int .i64 (n:Nat)/\n+k=48/\(∀p,q=some p->p<i/\p+3<=L)/\gP b R i k q bb aa=(x1,x2)/\bb<=258/\Fr [] wo wz);case atStart=>exact⟨0,0,0,some p0,rfl,rfl,rfl,rfl,rfl,λp hp=>by have:=Nc b _ _ _ (HX.out.2.2.symm.trans hp);rw[HX.out.2.1]at this;exact⟨this.1,this.2.1⟩,by have h1:=HX.out.1;unfold best at h1;rw[<-HX.out.2.2]at h1;exact h1.symm,by omega,Fr.drewN [] wo _⟩
      case round=>
       obtain⟨n,bb,aa,q,rfl,rfl,rfl,rfl,hn,hq,dt,lI,hf⟩:=hrel;by_cases hn48:n<48
       ·obtain⟨k2,rfl⟩:∃k2,gk=k2+1:=⟨gk-1,by omega⟩;have d0:decide ((n:Int)<48)=true:=by simp;omega
        cases q with
        | none=>
         simp only[gP,fj]at dt;obtain⟨rfl,rfl⟩:=dt;simp only[pd];have HF:=ah hf;clear hf hq;go_wp2;go_meet;exact⟨rfl,rfl,HF.out⟩
        | some p=>
         obtain⟨yu,mN⟩:=hq p rfl;simp only[pd];by_cases hrange:i-p<=R
         ·have d2:decide ((i:Int)-p<=r)=true:=by simp;omega
          have nA:=λw' h=>zbt a cap p i b w' h (by omega) (by rw[HX.out.2.1];omega)
          rw[HX.out.2.1]at nA;have Tw:=(WV b p i (by rw[HX.out.2.1];omega)).1;have Az:=HE.l1 p yu (by rw[HX.out.2.1];exact mN);rw[zi5]at Az;have Ez:∀p',last b p (three b p)=some p'->p'<i/\p'+3<=L:=λp' Ji=>by have:=Nc b _ _ _ Ji;rw[HX.out.2.1]at this;omega
          rw[gP,if_pos hrange]at dt;generalize last b p (three b p)=q' at Az Ez dt;generalize alike b p i=al at nA Tw dt;have E2:=HE.o0.fr hf;have My:=cell_of E2.vb 0;have gg:=cell_of E2.vp 0;have UA:=cell_of E2.row p;simp only[bF,aT]at My gg;rw[Az]at UA;rw[HX.out.2.1]at My gg;have HF:=aQ hf (nA _ E2.rd) Ez E2 (UA.trans rfl);have c9:wr.cell? ⟨bp,p,none⟩=some (.int .i64 (pd q')):=UA;clear hf nA Ez UA E2 Az hq;by_cases hbest:bb<al
          ·have d3:decide (bb<al)=true:=by simpa using hbest
           rw[if_pos hbest]at dt;have HCH:=ah dt;clear dt;go_upto_region 14 with (go_at_call 154;refine HF.out.2.1.mono ?_;rintro e wy ⟨rfl,fy⟩;have zV:=fy.cell gg (by simp);have UB:=fy.cell c9 (by simp);have HY:=ah fy;clear fy gg c9 My);go_wp2;go_roundg k2;case measure=>omega
           case rel=>exact⟨n+1,al,p,q',rfl,rfl,rfl,by go_num,by omega,HF.out.2.2.1,HCH.out,by omega,HF.out.1.trans HY.out⟩
          ·have d3:decide (bb<al)=false:=by simpa using hbest
           rw[if_neg hbest]at dt;have HCH:=ah dt;clear dt;go_upto_region 14 with (go_at_call 154;refine HF.out.2.1.mono ?_;rintro e wy ⟨rfl,fy⟩;have zV:=fy.cell gg (by simp);have UB:=fy.cell c9 (by simp);have HY:=ah fy;clear fy gg c9 My);go_wp2;go_roundg k2;case measure=>omega
           case rel=>exact⟨n+1,bb,aa,q',rfl,rfl,rfl,by go_num,by omega,HF.out.2.2.1,HCH.out,by omega,HF.out.1.trans HY.out⟩
         ·have d2:decide ((i:Int)-p<=r)=false:=by simp;omega
          rw[gP,if_neg hrange]at dt;simp only[fj]at dt;obtain⟨rfl,rfl⟩:=dt;have HF:=ah hf;clear hf hq;go_wp2;go_meet;exact⟨rfl,rfl,HF.out⟩
       ·obtain rfl:n=48:=by omega
        obtain rfl:gk=0:=by omega
        simp only[gP,fj]at dt;obtain⟨rfl,rfl⟩:=dt;have HF:=ah hf;clear hf hq;go_wp2;go_meet;exact⟨rfl,rfl,HF.out⟩
    case rest=>
    obtain⟨rfl,rfl,hf⟩:=hcut;obtain⟨w5,rfl⟩:∃w5:World,w5=wc:=⟨_,rfl⟩;obtain⟨s,hs⟩:=ai (step b R i);obtain⟨nw,wj⟩:∃nw:List Mt,nw=if 3<=x1 then [(i,x1,i-x2)] else []:=⟨_,rfl⟩
    have Ay:s=if 3<=x1 then x1 else 1:=by rw[hs];unfold step;rw[<-HX.out.1]
    have hML:l++(nw++jz b R k (i+s))=M:=by have:=HO.o0 h0;rw[qwr (by rw[HX.out.2.1];exact h3),<-hs,<-HX.out.1,<-wj]at this;exact this
    have ju:3<=x1->x2<i/\i+x1<=L/\x1<=258:=λh=>by obtain⟨k1,k2,k3⟩:=qsn b R i (by rw[<-HX.out.1];exact eW (by decide) h);rw[<-HX.out.1]at k1 k2 k3;obtain⟨m1,m2,_⟩:=WV b x2 i (by rw[HX.out.2.1];exact Y2);rw[<-k1]at m1 m2;rw[HX.out.2.1]at m2;exact⟨k2,m2,m1⟩
    have h5:=Ha.out.dQ hf;have Kt:=aG hML Ay h5 wj;have hsL:1<=s/\i+s<=L:=by
     rw[Ay];split
     ·rename_i h;have:=ju h;omega
     ·omega
    have tH:nw.length<=1:=by rw[wj];split<;>simp
    clear hML hs Ay h5 hf wj;go_upto_if 74 with fail;go_cut [5,16] from 73 to 85 (λs5 s16 wz=>∃(a2:OA) (c2 n2:Nat),s5 = .slice a2 n2 c2/\s16 = .int .i64 (s:Nat)/\n2=(l++nw).length/\Ms w wz b a cap qb qp qh bp bm B0 i (l++nw) a2 c2)
    case first=>
     have Ay:=Kt.o1;by_cases hb:3<=x1
     ·obtain⟨fM,kT,j8⟩:=ju hb;rw[if_pos hb]at Ay;subst Ay;have wj:=Kt.l3;rw[if_pos hb]at wj;have d3:decide ((3:Int)<=(s:Int))=true:=by simp;omega
      obtain⟨dd,hdd⟩:=ai (i-x2);rw[<-hdd]at wj;have hd:(i:Int)-(x2:Int)=(dd:Int):=by omega
      have HN:=ah wj;obtain⟨N,hN⟩:=ai l.length;rw[<-hN]at GA ⊢;have HNN:=ah hN;clear wj ju hN hdd hsl o1;go_wp2_with (refine gM yk rfl _ _ rfl (.slice ao N c) N (bS l) (af ao) rfl (dD _ _ _) (by rw[HNN.out];exact Kt.o2.own.alloc _) (some ⟨w5.heap.size,0,none⟩) 1 1 [.int .i64 i,.int .i64 s,.int .i64 dd] rfl (by omega) (by simp) (Ae w5 _ _ _) rfl (by simp[Value.oneCell']) (by omega) (by unfold maxLen;omega) ?_;intro a2 c2 w6 A2;have HA:=ah A2;clear A2);go_meet;refine⟨a2,c2,_,rfl,rfl,by rw[aA,HN.out,HNN.out];rfl,?_⟩;rw[HN.out];exact Kt.o2.push _ _ N HNN.out.symm HA.out
     ·rw[if_neg hb]at Ay;subst Ay;have wj:=Kt.l3;rw[if_neg hb]at wj;have HN:=ah wj;have d3:decide ((3:Int)<=(x1:Int))=false:=by simp;omega
      clear wj ju;go_wp2;go_meet;exact⟨ao,c,_,rfl,rfl,by rw[HN.out,mW],by rw[HN.out,mW];exact Kt.o2⟩
    case rest=>
    obtain⟨a2,c2,n2,rfl,rfl,jM,h6⟩:=hcut;obtain⟨w6,rfl⟩:∃w6:World,w6=wc:=⟨_,rfl⟩;have H6:=ak h6 jM;clear h6 jM ju hsl cb;go_upto_block 4 with fail;go_wp2;go_loopg [9,86] s (λk s9 s86 wr=>∃j:Nat,s9 = .int .i64 ((i+j:Nat):Int)/\s86 = .int .i64 (j:Nat)/\j+k=s/\Ms w wr b a cap qb qp qh bp bm B0 (i+j) (l++nw) a2 c2);case atStart=>exact⟨0,rfl,rfl,by omega,H6.o0⟩
    case round=>
     obtain⟨j,rfl,rfl,hjs,h7⟩:=hrel;by_cases hj:j<s
     ·obtain⟨k2,rfl⟩:∃k2,gk=k2+1:=⟨gk-1,by omega⟩;have PZ:=zao b a cap qb qp qh bp bm (i+j) wr h7.en (by rw[HX.out.2.1];omega) (by rw[HX.out.2.1];exact hlen);have H7:=ak h7 PZ;clear h7 PZ;go_wp2_with (go_at_call 152;refine H7.out.2.mono ?_;rintro e w8 ⟨rfl,f8,en8⟩;have H8:=ak f8 en8;clear f8 en8);go_roundg k2;case measure=>omega
      case rel=>exact⟨j+1,by go_num,by go_num,by omega,H7.out.1.enter H8.o0 H8.l1⟩
     ·obtain rfl:j=s:=by omega
      have H7:=ah h7;clear h7;go_wp2;go_roundg k;case measure=>omega
      case rel=>exact⟨i+j,c2,a2,l++nw,by rw[H6.l1],rfl,H7.out,by omega,hsL.2,by rw[aA];omega,λ_=>by rw[eE];exact Kt.o0,λh=>by omega⟩
   ·have d1:decide ((i:Int)+3<=L)=true:=by simp;omega
    have d2:decide ((0:Int)<r)=false:=by simp;omega
    go_wp2;go_ret;exact⟨ao,by rw[<-HS.l2,<-HO.l1 (by omega)];rfl,by rw[<-HS.l2,<-HO.l1 (by omega)];exact y9 Ha.out.own,λhn=>by rw[<-HS.l2,<-HO.l1 (by omega)];have:=o3 hn;omega,λx hx=>rr Ha.out.own (qi hx),Ha.out.fr⟩
  ·have d1:decide ((i:Int)+3<=L)=false:=by simp;omega
   have hlM:l=M:=by
    by_cases h0:0<r
    ·have:=HO.o0 h0;cases gk with
     | zero=>rw[<-this,jz,mW]
     | succ k=>rw[<-this,jz,if_neg (by rw[<-H.o1];exact h3),mW]
    ·exact HO.l1 (by omega)
   have HLM:=ah hlM;clear hlM;go_wp2;go_ret;exact⟨ao,by rw[<-HS.l2,<-HLM.out];rfl,by rw[<-HS.l2,<-HLM.out];exact y9 Ha.out.own,λhn=>by rw[<-HS.l2,<-HLM.out];have:=o3 hn;omega,λx hx=>rr Ha.out.own (qi hx),Ha.out.fr⟩
end mat
namespace defl
open Go Go.RowKit lib bm mat
inductive Tok where
 | lit (c:UInt8)
 | mat (n d:Nat)
def bE (b:LB) (i:Nat) (l:List Mt):List Tok:=
 if h:i<b.length then
  match l with
  | (a,n,d)::t=>if hc:a=i/\0<n then .mat n d::bE b (i+n) t else .lit b[i]::bE b (i+1) ((a,n,d)::t)
  | []=>.lit b[i]::bE b (i+1) []
 else []
termination_by b.length-i
decreasing_by all_goals omega
theorem Sn {b:LB} {i:Nat} {l:List Mt} (h:b.length<=i):bE b i l=[]:=by unfold bE;rw[dif_neg (by omega)]
theorem So {b:LB} {i n d:Nat} {t:List Mt} (h:i<b.length) (hn:0<n):bE b i ((i,n,d)::t) = .mat n d::bE b (i+n) t:=by rw[bE,dif_pos h];dsimp only;rw[dif_pos ⟨rfl,hn⟩]
theorem Ip {b:LB} {i:Nat} {l:List Mt} (h:i<b.length) (hl:∀a n d t,l=(a,n,d)::t->a≠i):bE b i l = .lit b[i]::bE b (i+1) l:=by
 match l with
 | []=>rw[bE,dif_pos h]
 | (a,n,d)::t=>rw[bE,dif_pos h];dsimp only;rw[dif_neg (λhc=>hl a n d t rfl hc.1)]
theorem WW {b:LB} {r e:Nat}:∀{l:List Mt},dC b r e l->∀a n d t,l=(a,n,d)::t->a≠e->dC b r (e+1) l
 | (a',n',d')::t',h,a,n,d,t,he,cQ=>by simp only[KL,fj]at he;obtain⟨⟨rfl,rfl,rfl⟩,rfl⟩:=he;exact⟨by have:=h.1;omega,h.2⟩
theorem Nt (b:LB) (i:Nat) (l:List Mt):(bE b i l).length<=b.length-i:=by
 obtain⟨k,hk⟩:=ai (b.length-i);induction k using Nat.strongRecOn generalizing i l with
 | ind k ih=>
  by_cases h:i<b.length
  ·match l with
   | []=>
    rw[Ip h (λa n d t he=>by cases he)];have:=ih (b.length-(i+1)) (by omega) (i+1) [] rfl;simp only[bU];omega
   | (a,n,d)::t=>
    by_cases hc:a=i/\0<n
    ·obtain⟨rfl,hn⟩:=hc;rw[So h hn];have:=ih (b.length-(a+n)) (by omega) (a+n) t rfl;simp only[bU];omega
    ·rw[bE,dif_pos h];dsimp only;rw[dif_neg hc];have:=ih (b.length-(i+1)) (by omega) (i+1) ((a,n,d)::t) rfl;simp only[bU];omega
  ·rw[Sn (by omega)];exact ep _
def xM (a al:OA) (bl cap ll cl:Nat) (ni iU:Value) (told:Bool):Value:=.agg #[.slice a bl cap,.slice al ll cl,ni,iU,.bool told]
theorem qvy (lq:FuncId) (cv:AV) (eg:∀args w,(callFunc lq args).run Tryz.prog w = .ok (.enter lq args) w) (I:List Tok->List Nat->World->Prop) (F0:LN)
  (b:LB) (a al:OA) (cap cl r:Nat) (l:List Mt) (ni iU:Value) (told:Bool) (w:World) (Gz:ni.oneCell'=true) (Cc:iU.oneCell'=true)
  (hb:Rd w a cap b) (hl:Cs w al (bS l)) (pM:l.length<=cl) (rG:al=none->cl=0) (nT:cl<=maxLen) (dt:dC b r 0 l) (hr:r<=32768) (iA:b.length<=1000000)
  (hF:∀x∈F0,x<w.heap.size/\x∉af a/\x∉af al)
  (Cp:∀w',Fr [] w w'->I [] F0 w')
  (Jr:∀t F c w',t.length<b.length->I t F w'->Calls Tryz.prog lq (#[.int .u8 (c:UInt8).toNat,.pointer none]++cv) w' λe w2=>e = .returned (.tuple #[])/\Fr F w' w2/\∃F',I (t++[.lit c]) F' w2/\∀y∈F',y∈F\/w'.heap.size<=y)
  (Jm:∀t F n d g o w',t.length<b.length->I t F w'->3<=n->n<=258->1<=d->d<=32768->g∉F->w'.cell? ⟨g,o+1,none⟩=some (.int .i64 (n:Nat))->w'.cell? ⟨g,o+2,none⟩=some (.int .i64 (d:Nat))->
   Calls Tryz.prog lq (#[.int .u8 0,.pointer (some ⟨g,o,none⟩)]++cv) w' λe w2=>e = .returned (.tuple #[])/\Fr F w' w2/\∃F',I (t++[.mat n d]) F' w2/\∀y∈F',y∈F\/w'.heap.size<=y) :
  Calls Tryz.prog 156 #[xM a al b.length cap l.length cl ni iU told,.func (.func lq) #[] cv] w λe w'=>e = .returned (.tuple #[])/\Fr F0 w w'/\∃F,I (bE b 0 l) F w'/\∀y∈F,y∈F0\/w.heap.size<=y:=by
 obtain⟨BL,j9⟩:=ai b.length;obtain⟨LL,oQ⟩:=ai l.length;rw[<-j9]at iA Jr Jm ⊢;rw[<-oQ]at pM ⊢;obtain⟨w1,cP⟩:=ai (w.alloc (.cells #[.slice a BL cap,.slice al LL cl,ni,iU,.bool told] 197 (0,0)));have f1:Fr [] w w1:=by rw[cP];exact (Fr.refl [] w).alloc _
 have jr:w1.heap.size=w.heap.size+1:=by rw[cP,fD]
 have iI:w1.heap[w.heap.size]?=some (.cells #[.slice a BL cap,.slice al LL cl,ni,iU,.bool told] 197 (0,0)):=by rw[cP];exact bC w _
 have HB:=oU (hb.fr f1) (hl.fr f1 (by simp)) dt iI jr f1 hF j9 oQ;have HI:=aw (Cp w1 f1) Jr Jm;have HW:=ah cP.symm;obtain⟨B,hB⟩:=ai w.heap.size;have Kv:=ah hB;clear hb hl dt hF Cp Jr Jm j9 oQ cP f1 jr iI hB;unfold xM;go_enter Tryz.func156,Tryz.ntmps156;go_upto_block 0 with fail;have zcH:cl<=9223372036854775807:=nT;rw[HW.out,<-Kv.out];go_wp2;go_loopg [4,5] BL (λgk s4 s5 wr=>∃(i k:Nat) (done:List Tok) (F:LN),s5 = .int .i64 (i:Nat)/\s4 = .int .i64 (k:Nat)/\gk=BL-i/\i<=BL/\k<=LL/\done++bE b i (l.drop k)=bE b 0 l/\done.length<=i/\dC b r i (l.drop k)/\I done F wr/\Fr F0 w1 wr/\∀y∈F,y∈F0\/w1.heap.size<=y);case atStart=>exact⟨0,0,[],F0,rfl,rfl,rfl,ep _,ep _,rfl,ay _,HB.out.2.2.1,HI.o0,.refl _ _,λy hy=>.inl hy⟩
 case round=>
  obtain⟨i,k,done,F,rfl,rfl,hk,rS,oO,cH,hU,dt,hI,dR,qW⟩:=hrel;obtain⟨hb,hl,EY,iI,jr,f1,hF,j9,oQ⟩:=HB.out;have kR:=dR.af iI (λhx=>by have:=(hF _ hx).1;omega);have c0:=cell_of kR 0;have c1:=cell_of kR 1;simp only[bF,aT,bP]at c0 c1;rw[<-Kv.out]at c0 c1;have jV:B∉F:=λhx=>by
   have:=Kv.out;rcases qW B hx with q|q
   ·have:=(hF _ q).1;omega
   ·omega
  by_cases hi:i<BL
  ·have eO:i<b.length:=by rw[<-j9];exact hi
   have Cg:=hb.gJ dR λx hx kt=>(hF x kt).2.1 hx
   obtain⟨ga,oa,rfl,Ce⟩:=Cg.cs.at (by rw[bW];omega);have d0:wr.cell? ⟨ga,oa+i,none⟩=some (.int .u8 (b[i]'eO).toNat):=Ce i _ (by simp[eO,bv]);have Jq:=hl.fr dR λx hx kt=>(hF x kt).2.2 hx
   by_cases hkk:k<LL
   ·have PI:k<l.length:=by rw[<-oQ];exact hkk
    obtain⟨gl,ol,rfl,fU⟩:=Jq.at (by rw[qj5];omega);obtain⟨m1,m2,m3⟩:=qrr l k PI;have sI:=Al PI;obtain⟨m,hm⟩:=ai (l[k]);rw[<-hm]at m1 m2 m3 sI;obtain⟨x,n,d⟩:=m;simp only at m1 m2 m3;have p1:wr.cell? ⟨gl,ol+k*3,none⟩=some (.int .i64 x):=fU _ _ m1;have p2:wr.cell? ⟨gl,ol+k*3+1,none⟩=some (.int .i64 n):=fU _ _ m2;have p3:wr.cell? ⟨gl,ol+k*3+2,none⟩=some (.int .i64 d):=fU _ _ m3;rw[sI]at cH dt;have yB:gl∉F:=λhx=>by
     have h1:=hl.lt (by intro h;have:=congrArg List.length h;rw[qj5]at this;simp at this;omega) ⟨gl,ol,none⟩ rfl;rcases qW gl hx with q|q
     ·exact (hF gl q).2.2 (by simp[af])
     ·have:=f1.size;simp only at h1;omega
    by_cases LK:x=i
    ·subst LK;obtain⟨h3,iJ,h1,hdr,hdx,OB,_,tM⟩:3<=n/\n<=258/\1<=d/\d<=r/\d<=x/\x+n<=b.length/\True/\dC b r (x+n) (l.drop (k+1)):=⟨dt.2.1,dt.2.2.1,dt.2.2.2.1,dt.2.2.2.2.1,dt.2.2.2.2.2.1,dt.2.2.2.2.2.2.1,trivial,dt.2.2.2.2.2.2.2.2⟩;have bw:=HI.l2 done F n d gl (ol+k*3) wr (by omega) hI h3 iJ h1 (by omega) yB p2 p3;have HJ:=dk bw dR qW cH tM hU hk;have hxb:x+n<=1000000:=by omega
     have hxB:x+n<=BL:=by omega
     have xm:0<n:=by omega
     clear bw dR qW cH dt tM hU hI hk hF EY hb hl Jq fU Ce Cg kR m1 m2 m3 sI hm OB h3 iJ h1 hdr hdx jr f1 iI p3 j9 oQ;go_wp2;refine HJ.out.1.mono ?_;rintro e w2 ⟨rfl,f2,F2,mP,lj⟩;have c1b:=f2.cell c1 jV;have p2b:=f2.cell p2 yB;have H2:=aw f2 mP lj;clear f2 mP lj jV yB c1 p2 c0 p1 eg;go_wp2;go_roundg (BL-(x+n));case measure=>have:=HJ.out.2.2.2.2.2.2;omega
     case rel=>
      obtain⟨_,dR,qW,cH,dt,hU,hk⟩:=HJ.out;obtain⟨f2,mP,lj⟩:=H2.out;refine⟨x+n,k+1,done++[.mat n d],F2,by go_num,by go_num,rfl,hxB,by omega,?_,?_,dt,mP,dR.step f2 λy hy=>qW y hy,λy hy=>?_⟩
      ·rw[eE,<-cH,So eO xm];rfl
      ·rw[aA];simp only[bU,kg];omega
      ·rcases lj y hy with q|q
       ·exact qW y q
       ·exact .inr (ck dR.size q)
    ·have cQ:((x:Int)==(i:Int))=false:=by simp only[beq_eq_false_iff_ne];omega
     have xj:∀a n' d' t,(x,n,d)::l.drop (k+1)=(a,n',d')::t->a≠i:=λa n' d' t he=>by simp only[KL,fj]at he;rw[<-he.1.1];exact LK
     have tM:=WW (l:=(x,n,d)::l.drop (k+1)) dt _ _ _ _ rfl LK;rw[Ip eO xj,<-sI]at cH;rw[<-sI]at tM;clear p2 p3 sI hm m1 m2 m3 yB LK xj dt fU;have bw:=HI.o1 done F (b[i]'eO) wr (by omega) hI;obtain⟨cc,kD⟩:=ai (b[i]'eO);rw[<-kD]at bw d0 cH;obtain⟨cn,kQ⟩:=ai cc.toNat;rw[<-kQ]at bw d0;have Y3:i+1<=BL:=hi;have hi6:i<=1000000:=by omega
     have HJ:=lv bw dR qW cH tM hU hk oO;clear bw dR qW cH tM hU hI hk hF EY hb hl Jq Ce Cg kR jr f1 iI j9 oQ jV kD rS kQ;go_wp2;refine HJ.out.1.mono ?_;rintro e w2 ⟨rfl,f2,F2,mP,lj⟩;have H2:=aw f2 mP lj;clear f2 mP lj c0 c1 d0 eg;go_wp2;go_roundg (BL-(i+1));case measure=>have:=HJ.out.2.2.2.2.2.2.1;omega
     case rel=>
      obtain⟨_,dR,qW,cH,dt,hU,hk,oO⟩:=HJ.out;obtain⟨f2,mP,lj⟩:=H2.out;refine⟨i+1,k,done++[.lit cc],F2,by go_num,rfl,rfl,Y3,oO,?_,?_,dt,mP,dR.step f2 λy hy=>qW y hy,λy hy=>?_⟩
      ·rw[eE];exact cH
      ·rw[aA];simp only[bU,kg];omega
      ·rcases lj y hy with q|q
       ·exact qW y q
       ·exact .inr (ck dR.size q)
   ·have tH:l.drop k=[]:=Dh (by rw[<-oQ];omega);have tM:dC b r (i+1) (l.drop k):=by rw[tH];trivial
    rw[Ip eO (λa n' d' t he=>by rw[tH]at he;cases he)]at cH;clear dt tH;have bw:=HI.o1 done F (b[i]'eO) wr (by omega) hI;obtain⟨cc,kD⟩:=ai (b[i]'eO);rw[<-kD]at bw d0 cH;obtain⟨cn,kQ⟩:=ai cc.toNat;rw[<-kQ]at bw d0;have Y3:i+1<=BL:=hi;have hi6:i<=1000000:=by omega
    have HJ:=lv bw dR qW cH tM hU hk oO;clear bw dR qW cH tM hU hI hk hF EY hb hl Jq Ce Cg kR jr f1 iI j9 oQ jV kD rS kQ;go_wp2;refine HJ.out.1.mono ?_;rintro e w2 ⟨rfl,f2,F2,mP,lj⟩;have H2:=aw f2 mP lj;clear f2 mP lj c0 c1 d0 eg;go_wp2;go_roundg (BL-(i+1));case measure=>have:=HJ.out.2.2.2.2.2.2.1;omega
    case rel=>
     obtain⟨_,dR,qW,cH,dt,hU,hk,oO⟩:=HJ.out;obtain⟨f2,mP,lj⟩:=H2.out;refine⟨i+1,k,done++[.lit cc],F2,by go_num,rfl,rfl,Y3,oO,?_,?_,dt,mP,dR.step f2 λy hy=>qW y hy,λy hy=>?_⟩
     ·rw[eE];exact cH
     ·rw[aA];simp only[bU,kg];omega
     ·rcases lj y hy with q|q
      ·exact qW y q
      ·exact .inr (ck dR.size q)
  ·have HJ:=aG hI dR qW cH;clear hI dR qW cH dt hF EY hb hl kR jr f1 iI j9 oQ jV;go_wp2;(try simp only[Exit.inBlock,Exit.then]);refine bodyPost_end (results_none rfl _ _ _) rfl ?_;obtain⟨hI,dR,qW,cH⟩:=HJ.out;rw[Sn (by have:=HB.out.2.2.2.2.2.2.2.1;omega),mW]at cH;rw[cH]at hI;have hB:=Kv.out;exact⟨rfl,(HB.out.2.2.2.2.2.1.mono (by simp)).trans dR,F,hI,λy hy=>(qW y hy).imp id λq=>ck HB.out.2.2.2.2.2.1.size q⟩
end defl
namespace huf
open Go
abbrev aF:=Nat×List Nat
def aC:List aF->List aF
 | x::y::t=>(x.1+y.1,x.2++y.2)::aC t
 | _=>[]
def mY:List aF->List aF->List aF
 | [],p=>p
 | x::l,p=>go x l (mY l) p
where go (x:aF) (l:List aF) (f:List aF->List aF):List aF->List aF
 | []=>x::l
 | y::p=>if x.1<=y.1 then x::f (y::p) else y::go x l f p
theorem Vt (p:List aF):mY [] p=p:=rfl
theorem NP (l:List aF):mY l []=l:=by cases l<;>rfl
theorem RM {x y:aF} {l p:List aF} (h:x.1<=y.1):mY (x::l) (y::p)=x::mY l (y::p):=by show mY.go x l (mY l) (y::p)=_;rw[mY.go,if_pos h]
theorem RL {x y:aF} {l p:List aF} (h:¬x.1<=y.1):mY (x::l) (y::p)=y::mY (x::l) p:=by show mY.go x l (mY l) (y::p)=_;rw[mY.go,if_neg h];rfl
def Sorted (l:List aF):Prop:=l.Pairwise λa b=>a.1<=b.1
def kZ:List aF->List aF->Nat->Nat×Nat
 | _,_,0=>(0,0)
 | [],p,m+1=>(0,min (m+1) p.length)
 | x::l,[],m+1=>(min (m+1) (l.length+1),0)
 | x::l,y::p,m+1=>if x.1<=y.1 then ((kZ l (y::p) m).1+1,(kZ l (y::p) m).2) else ((kZ (x::l) p m).1,(kZ (x::l) p m).2+1)
theorem Bj:∀(l p:List aF),(mY l p).length=l.length+p.length
 | [],p=>by simp[Vt]
 | x::l,[]=>by simp[NP]
 | x::l,y::p=>by
  by_cases h:x.1<=y.1
  ·rw[RM h,bU,Bj l (y::p)];simp only[bU];omega
  ·rw[RL h,bU,Bj (x::l) p];simp only[bU];omega
termination_by l p=>l.length+p.length
theorem C4:∀(l p:List aF) (m:Nat),m<=l.length+p.length->(kZ l p m).1+(kZ l p m).2=m/\(kZ l p m).1<=l.length/\(kZ l p m).2<=p.length
 | l,p,0,_=>by cases l<;>cases p<;>simp[kZ]
 | [],p,m+1,h=>by simp[kZ]at h ⊢;omega
 | x::l,[],m+1,h=>by simp[kZ]at h ⊢;omega
 | x::l,y::p,m+1,h=>by
  simp only[bU]at h;by_cases hx:x.1<=y.1
  ·obtain⟨h1,h2,h3⟩:=C4 l (y::p) m (by simp only[bU];omega);rw[kZ,if_pos hx];simp only[bU]at h3 ⊢;omega
  ·obtain⟨h1,h2,h3⟩:=C4 (x::l) p m (by simp only[bU];omega);rw[kZ,if_neg hx];simp only[bU]at h2 ⊢;omega
termination_by l p m=>m
theorem FK:∀(l p:List aF) (m:Nat),((mY l p).take m).Perm (l.take (kZ l p m).1++p.take (kZ l p m).2)
 | l,p,0=>by cases l<;>cases p<;>simp[kZ]
 | [],p,m+1=>by
  rw[Vt,kZ];simp only[Dk,qj];rw[<-Hx,mL (ay p.length)]
 | x::l,[],m+1=>by
  rw[NP,kZ];simp only[List.take_nil,mW];rw[<-Hx,mL (show (x::l).length<=l.length+1 from ay _)]
 | x::l,y::p,m+1=>by
  by_cases hx:x.1<=y.1
  ·rw[RM hx,kZ,if_pos hx];simp only[qs,zi];exact (FK l (y::p) m).cons x
  ·rw[RL hx,kZ,if_neg hx];simp only[qs];exact ((FK (x::l) p m).cons y).trans List.perm_middle.symm
termination_by l p m=>m
theorem WU:∀(l p:List aF) (m:Nat) (i j:Nat) (x y:aF),Sorted l->l[i]?=some x->p[j]?=some y->x.1<y.1->j<(kZ l p m).2->i<(kZ l p m).1
 | l,p,0,i,j,x,y,_,_,_,_,h=>by cases l<;>cases p<;>simp[kZ]at h
 | [],p,m+1,i,j,x,y,_,hx,_,_,_=>by simp at hx
 | x0::l,[],m+1,i,j,x,y,_,_,hy,_,_=>by simp at hy
 | x0::l,y0::p,m+1,i,j,x,y,hs,hx,hy,pJ,h=>by
  have gT:=tq.1 hs;by_cases h0:x0.1<=y0.1
  ·rw[kZ,if_pos h0]at h ⊢;cases i with
   | zero=>simp
   | succ i=>rw[bP]at hx;have:=WU l (y0::p) m i j x y gT.2 hx hy pJ h;simp only;omega
  ·rw[kZ,if_neg h0]at h ⊢;cases j with
   | zero=>
    simp only[aT,eJ]at hy;subst hy;exfalso;cases i with
    | zero=>
     simp only[aT,eJ]at hx;subst hx;omega
    | succ i=>
     rw[bP]at hx;have:=gT.1 x (gB hx);omega
   | succ j=>rw[bP]at hy;exact WU (x0::l) p m i j x y hs hx hy pJ (by simpa using h)
termination_by l p m=>m
theorem WT:∀(l p:List aF) (m:Nat) (i j:Nat) (x y:aF),Sorted l->l[i]?=some x->p[j]?=some y->(kZ l p m).1<=i->j<(kZ l p m).2->y.1<x.1
 | l,p,0,i,j,x,y,_,_,_,_,h=>by cases l<;>cases p<;>simp[kZ]at h
 | [],p,m+1,i,j,x,y,_,hx,_,_,_=>by simp at hx
 | x0::l,[],m+1,i,j,x,y,_,_,hy,_,_=>by simp at hy
 | x0::l,y0::p,m+1,i,j,x,y,hs,hx,hy,hi,h=>by
  have gT:=tq.1 hs;by_cases h0:x0.1<=y0.1
  ·rw[kZ,if_pos h0]at h hi;cases i with
   | zero=>simp at hi
   | succ i=>rw[bP]at hx;exact WT l (y0::p) m i j x y gT.2 hx hy (by simpa using hi) h
  ·rw[kZ,if_neg h0]at h hi;have hxx:x0.1<=x.1:=by
    cases i with
    | zero=>
     simp only[aT,eJ]at hx;rw[hx];exact ay _
    | succ i=>rw[bP]at hx;exact gT.1 x (gB hx)
   cases j with
   | zero=>
    simp only[aT,eJ]at hy;subst hy;omega
   | succ j=>rw[bP]at hy;exact WT (x0::l) p m i j x y hs hx hy hi (by simpa using h)
termination_by l p m=>m
theorem SE:∀(l p:List aF),Sorted l->Sorted p->Sorted (mY l p)
 | [],p,_,hp=>hp
 | x::l,[],hl,_=>by rw[NP];exact hl
 | x::l,y::p,hl,hp=>by
  have GD:=tq.1 hl;have Ji:=tq.1 hp;have mem:∀(a b:List aF) z,z∈mY a b->z∈a\/z∈b:=λa b z hz=>by
   have h1:=FK a b (mY a b).length;rw[mL (ay _)]at h1;rcases jw.1 (h1.mem_iff.1 hz) with k|k
   ·exact .inl (uM k)
   ·exact .inr (uM k)
  by_cases h:x.1<=y.1
  ·rw[RM h];refine tq.2 ⟨λz hz=>?_,SE l (y::p) GD.2 hp⟩;rcases mem _ _ z hz with k|k
   ·exact GD.1 z k
   ·rcases fP.1 k with k|k
    ·rw[k];exact h
    ·exact ck h (Ji.1 z k)
  ·rw[RL h];refine tq.2 ⟨λz hz=>?_,SE (x::l) p hl Ji.2⟩;rcases mem _ _ z hz with k|k
   ·rcases fP.1 k with k|k
    ·rw[k];omega
    ·have:=GD.1 z k;omega
   ·exact Ji.1 z k
termination_by l p=>l.length+p.length
end huf

end Go.Proofs.YtkmpfgpfbmeihaaGreatDoor