/-
  Texts of this proof, one behind the other: InfA, HuffW, HuffX, InfB, InfC, InfD, InfJ, BitsInt.
-/
import Derived.Test.YtbabjlohkniciaaGreatDoorV5
set_option maxHeartbeats 16000000
set_option maxRecDepth 100000
set_option linter.unusedVariables false
set_option linter.unusedSimpArgs false
namespace Go.Proofs.YtbabjlohkniciaaGreatDoor.inf
open Go Go.RowKit lib bm bl huf
structure St (w:World) (R p:Nat) (F:List Nat) (bs:List UInt8) (at_:Nat) (out:List UInt8) (oa:Option Addr) (oc most:Nat):Prop where
 box:w.heap[R]?=some (.cells #[.pointer (some ⟨p,0,none⟩),.slice oa out.length oc,.int .i64 most] 150 (0,0))
 rd:bits.Rd w p F bs at_
 own:w.ownsRow 0 5 1 (.slice oa out.length oc) out.length (out.map bv)
 r1:R∉F
 r2:R∉blk oa
 r3:∀x∈blk oa,x∉F
 low:∀x∈F,x<w.heap.size
 sm:most≤100000000
 sb:bs.length≤100000000
 om:out.length≤most
structure Way (w:World) (R p:Nat) (oa:Option Addr) (w':World) (oa':Option Addr):Prop where
 fr:Fr (R::p::blk oa) w w'
 new:∀x∈blk oa',x∈blk oa∨w.heap.size≤x
theorem Way.refl (w:World) (R p:Nat) (oa:Option Addr):Way w R p oa w oa:=⟨.refl _ w,λ_ h=>.inl h⟩
theorem Way.trans {w w1 w2:World} {R p:Nat} {oa oa1 oa2:Option Addr} (h:Way w R p oa w1 oa1) (k:Way w1 R p oa1 w2 oa2):Way w R p oa w2 oa2:=
 ⟨h.fr.step k.fr λx hx=>by
  simp only[qaw]at hx ⊢
  rcases hx with rfl|rfl|hx
  ·exact .inl (.inl rfl)
  ·exact .inl (.inr (.inl rfl))
  ·rcases h.new x hx with h1|h1
   ·exact .inl (.inr (.inr h1))
   ·exact .inr h1,λx hx=>by
  rcases k.new x hx with h1|h1
  ·exact h.new x h1
  ·exact .inr (qan h.fr.size h1)⟩
theorem Way.frW {w w1 w2:World} {R p:Nat} {oa oa1:Option Addr} (h:Way w R p oa w1 oa1) (f:Fr (R::p::blk oa1) w1 w2):Fr (R::p::blk oa) w w2:=
 h.fr.step f λx hx=>by
  simp only[qaw]at hx ⊢;rcases hx with rfl|rfl|hx
  ·exact .inl (.inl rfl)
  ·exact .inl (.inr (.inl rfl))
  ·rcases h.new x hx with h1|h1
   ·exact .inl (.inr (.inr h1))
   ·exact .inr h1
theorem Way.of (w w':World) (R p:Nat) (oa:Option Addr) (f:Fr [p] w w'):Way w R p oa w' oa:=⟨f.mono (by simp),λ_ h=>.inl h⟩
theorem Way.of0 (w w':World) (R p:Nat) (oa:Option Addr) (f:Fr [] w w'):Way w R p oa w' oa:=⟨f.mono (by simp),λ_ h=>.inl h⟩
theorem Way.old {w w':World} {R p:Nat} {oa oa':Option Addr} (h:Way w R p oa w' oa') {x:Nat} (hx:x<w.heap.size) (hn:x∉R::p::blk oa):x∉R::p::blk oa':=by
 simp only[qaw,not_or]at hn ⊢;refine⟨hn.1,hn.2.1,λh1=>?_⟩;rcases h.new x h1 with h2|h2
 ·exact hn.2.2 h2
 ·omega
theorem St.fr {w w':World} {R p:Nat} {F S:List Nat} {bs out:List UInt8} {at_ oc most:Nat} {oa:Option Addr} (h:St w R p F bs at_ out oa oc most) (f:Fr S w w') (hR:R∉S) (hF:∀x∈F,x∉S) (ho:∀x∈blk oa,x∉S):St w' R p F bs at_ out oa oc most:=
 ⟨f.blk h.box hR,bits.qf9 h.rd f hF,qa7 h.own f (λk hk=>ho k (by rw[<-qbp oa out.length oc,hk];simp)),h.r1,h.r2,h.r3,λx hx=>qal (h.low x hx) f.size,h.sm,h.sb,h.om⟩
theorem St.fr0 {w w':World} {R p:Nat} {F:List Nat} {bs out:List UInt8} {at_ oc most:Nat} {oa:Option Addr} (h:St w R p F bs at_ out oa oc most) (f:Fr [] w w'):St w' R p F bs at_ out oa oc most:=h.fr f (by simp) (by simp) (by simp)
theorem St.pF {w:World} {R p:Nat} {F:List Nat} {bs out:List UInt8} {at_ oc most:Nat} {oa:Option Addr} (h:St w R p F bs at_ out oa oc most):p∈F∧at_≤8*bs.length:=by obtain⟨ao,cap,hr,hcs,rfl,hpb,hlen,hat,hcap,hmax⟩:=h.rd;exact⟨by simp,hat⟩
theorem St.take {w w':World} {R p:Nat} {F:List Nat} {bs out:List UInt8} {at_ a' oc most:Nat} {oa:Option Addr} (h:St w R p F bs at_ out oa oc most) (f:Fr [p] w w') (hr:bits.Rd w' p F bs a'):St w' R p F bs a' out oa oc most:=by
 have hp:=h.pF.1;refine⟨f.blk h.box (by simp;rintro rfl;exact h.r1 hp),hr,qa7 h.own f (λk hk=>?_),h.r1,h.r2,h.r3,λx hx=>qal (h.low x hx) f.size,h.sm,h.sb,h.om⟩;have hk2:k∈blk oa:=by rw[<-qbp oa out.length oc,hk];simp
 simp;rintro rfl;exact h.r3 _ hk2 hp
theorem St.put {w1 w2:World} {R p n:Nat} {F:List Nat} {bs out:List UInt8} {at_ oc most cp2:Nat} {oa ao2:Option Addr} {c:UInt8} {o:Obj} (h:St w1 R p F bs at_ out oa oc most) (hn:n=out.length) (hl:n<most)
  (A:Appended (w1.alloc o) w2 5 1 (blk oa) ao2 (n+1) cp2 (out.map bv++[bv c])) :
  St (w2.setCell ⟨R,1,none⟩ (.slice ao2 (n+1) cp2)) R p F bs at_ (out++[c]) ao2 cp2 most∧Way w1 R p oa (w2.setCell ⟨R,1,none⟩ (.slice ao2 (n+1) cp2)) ao2:=by
 have f2:Fr (blk oa) w1 w2:=((Fr.refl _ w1).alloc _).trans A.fr;have fR:Fr [R] w2 (w2.setCell ⟨R,1,none⟩ (.slice ao2 (n+1) cp2)):=(Fr.refl [R] w2).setCell (by simp) _;have b2:=f2.blk h.box h.r2;have hRw:R<w1.heap.size:=lt_of_block h.box;have hR2:R∉blk ao2:=λhx=>by
  rcases A.at_ R hx with k|k
  ·exact h.r2 k
  ·rw[qav]at k;omega
 have e:(out++[c]).length=n+1:=by rw[hn];simp
 have hpF:=h.pF.1;refine⟨⟨?_,?_,?_,h.r1,hR2,λx hx hF=>?_,λx hx=>qal (h.low x hx) (qan f2.size fR.size),h.sm,h.sb,by rw[e];omega⟩,⟨?_,λx hx=>?_⟩⟩
 ·rw[qa0 b2,e];rfl
 ·exact bits.qf9 (bits.qf9 h.rd f2 (λx hx hb=>h.r3 x hb hx)) fR (λx hx hb=>by simp at hb;rw[hb]at hx;exact h.r1 hx)
 ·rw[e,qbt];exact qa7 A.own fR (λk hk=>by
   have hk2:k∈blk ao2:=by rw[<-qbp ao2 (n+1) cp2,hk];simp
   simp
   rintro rfl
   exact hR2 hk2)
 ·rcases A.at_ x hx with k|k
  ·exact h.r3 x k hF
  ·rw[qav]at k;have:=h.low x hF;omega
 ·exact (f2.mono (λx hx=>.inl (by simp[hx]))).trans (fR.mono (by simp))
 ·rcases A.at_ x hx with k|k
  ·exact .inl k
  ·rw[qav]at k;exact .inr (by omega)
def Ret (w:World) (R p:Nat) (F:List Nat) (bs:List UInt8) (oa:Option Addr) (most:Nat) (m:Except Nat (List UInt8×Nat)) (e:Ending) (w':World):Prop:=
 (∃c,m = .error c∧0<c∧c<100∧e = .returned (.int .i64 (c:Nat))∧Fr (R::p::blk oa) w w')∨
 (∃out a oa' oc',m = .ok (out,a)∧e = .returned (.int .i64 0)∧St w' R p F bs a out oa' oc' most∧Way w R p oa w' oa')
def RetV (w:World) (R p:Nat) (F:List Nat) (bs out:List UInt8) (oa:Option Addr) (oc most:Nat) (m:Except Nat (Nat×Nat)) (e:Ending) (w':World):Prop:=
 (∃(v:Int) (c:Nat),m = .error c∧0<c∧c<100∧e = .returned (.tuple #[.int .i64 v,.int .i64 (c:Nat)])∧Fr (R::p::blk oa) w w')∨
 (∃v a,m = .ok (v,a)∧e = .returned (.tuple #[.int .i64 (v:Nat),.int .i64 0])∧St w' R p F bs a out oa oc most∧Fr [p] w w')
theorem qfc (R p:Nat) (F:List Nat) (bs out:List UInt8) (at_ oc most n:Nat) (oa:Option Addr) (w:World) (h:St w R p F bs at_ out oa oc most) (hn:n≤31) :
  Calls Tryz.prog 94 #[.pointer (some ⟨R,0,none⟩),.int .i64 n] w (RetV w R p F bs out oa oc most (itake bs at_ n)):=by
 have c0:=cell_of h.box 0;simp only[qae,qaa,qad]at c0;have H:=zhd h;clear h;by_cases hl:at_+n≤8*bs.length
 ·have hv:bval (((bytesBits bs).drop at_).take n)<4294967296:=qal (qd9 _ _) (qan (qax (by decide) (show n≤32 by omega)) (by decide));obtain⟨v,hv2⟩:=zex (bval (((bytesBits bs).drop at_).take n));have ht:=za3 p F bs at_ n w H.out.rd (by omega) hl;have e:itake bs at_ n = .ok (v,at_+n):=by unfold itake;rw[if_pos hl,hv2]
  rw[e];rw[<-hv2]at ht hv;have HT:=zhd ht;clear ht hv2 e;go_enter Tryz.func94,Tryz.ntmps94;go_wp2_with (go_at_call 142;refine HT.out.mono ?_;rintro e w1 ⟨rfl,hr,f1⟩);go_ret2;exact .inr ⟨v,at_+n,rfl,rfl,H.out.take f1 hr,f1⟩
 ·have ht:=bits.qrv p F bs at_ n w H.out.rd (.inr (.inr (by omega)));have e:itake bs at_ n = .error 4:=by unfold itake;rw[if_neg hl]
  rw[e];have HT:=zhd ht;clear ht e;go_enter Tryz.func94,Tryz.ntmps94;go_wp2_with (go_at_call 142;refine HT.out.mono ?_;rintro e w1 ⟨rfl,hr,f1⟩);go_ret2;exact .inl ⟨_,4,rfl,by decide,by decide,rfl,f1.mono (by simp)⟩
theorem qi0 (R p:Nat) (F:List Nat) (bs out:List UInt8) (at_ oc most:Nat) (oa:Option Addr) (c:UInt8) (w:World) (h:St w R p F bs at_ out oa oc most) :
  Calls Tryz.prog 178 #[.pointer (some ⟨R,0,none⟩),.int .u8 (c.toNat:Nat)] w (Ret w R p F bs oa most ((iput most out c).map λo=>(o,at_))):=by
 have c1:=cell_of h.box 1;have c2:=cell_of h.box 2;simp only[qae,qaa,qad]at c1 c2;obtain⟨n,hn⟩:=zex out.length;have hs:=h.sm;rw[<-hn]at c1;have H:=zhd2 h hn;clear h;by_cases hl:most≤n
 ·have e:iput most out c = .error 5:=by unfold iput;rw[if_pos (by omega)]
  rw[e];clear e hn;go_enter Tryz.func178,Tryz.ntmps178;go_upto_region 1 with fail;go_quiet (fail);go_wp2;go_ret;exact .inl ⟨5,rfl,by decide,by decide,rfl,.drewN _ _ _⟩
 ·have e:iput most out c = .ok (out++[c]):=by unfold iput;rw[if_neg (by omega)]
  rw[e];clear e hn;go_enter Tryz.func178,Tryz.ntmps178;go_upto_region 1 with fail;go_quiet (fail);obtain⟨w1,hw1⟩:=zex (w.drewN nq);have f1:Fr [] w w1:=by rw[hw1];exact .drewN _ _ _
  have S1:=H.o0.fr0 f1;have c1':=f1.cell c1 (by simp);rw[<-hw1];clear hw1 c1 c2;have HS:=zhd2 f1 S1;clear f1 S1;go_wp2_with (at_builtin;go_loud (refine qa5 bits.sliceU8 rfl _ _ rfl (.slice oa n oc) n (out.map bv) (blk oa) rfl (qbp oa n oc) (by rw[H.l1];exact qa7 HS.l1.own ((Fr.refl [] w1).alloc _) (by simp)) (some ⟨w1.heap.size,0,none⟩) 1 1 [bv c] (by first|rfl|simp) (qag _) (λh=>by cases h) (qdu _ _ _ _ (qa4 _ _)) rfl (by intro u hu;simp only[qaz]at hu;rw[hu];rfl) (by omega) (by unfold maxLen;omega) ?_);intro ao2 cp2 w2 A2;have f2:Fr (blk oa) w1 w2:=(Fr.refl _ w1).trans (((Fr.refl _ w1).alloc _).trans A2.fr);have b2:=f2.blk HS.l1.box H.o0.r2;have z1:=qay b2 1;have d1:=cell_of b2 1;rw[<-H.l1]at d1;simp only[qae,qaa,qad]at d1;have HA:=zhd3 A2 f2 b2;clear A2 f2 b2 c1');go_ret;have hP:=HS.l1.put H.l1 (by omega) HA.o0;exact .inr ⟨_,_,ao2,cp2,rfl,rfl,hP.1,(Way.of0 _ _ _ _ _ HS.o0).trans hP.2⟩
end Go.Proofs.YtbabjlohkniciaaGreatDoor.inf
namespace Go.Proofs.YtbabjlohkniciaaGreatDoor.huf
open Go Go.RowKit lib bm bl
def symi (ls:List Nat) (l i:Nat):List Nat:=if l=0 then [] else syms ls l i
theorem qkh (ls:List Nat) (l i:Nat):symi ls l (i+1)=symi ls l i++if lenAt ls i=l∧l≠0 then [i] else []:=by
 unfold symi;by_cases h:l=0
 ·simp[h]
 ·simp[h,qkc]
theorem qki (ls:List Nat) (l:Nat):(symi ls l ls.length).length=symn ls l:=by unfold symi symn;split<;>simp
theorem zb1 (ls:List Nat) (l i:Nat):(symi ls l i).length≤i:=by
 unfold symi;split
 ·simp
 ·have:=qc7 (λs=>lenAt ls s==l) (List.range i);rw[qgz]at this;exact this
theorem qud {ls:List Nat} {i l:Nat} (hi:i<ls.length) (hl:lenAt ls i=l) (h0:l≠0) (he:(symi ls l i).length=0):code ls i=nxt ls l:=by unfold symi at he;rw[if_neg h0,qhn ls l i (by omega)]at he;unfold code;rw[hl,he,qb5]
structure TabI (w0 w:World) (P D:Nat) (ls:List Nat) (i:Nat) (first:Nat→Nat) (sa:Nat→Option Addr) (sc:Nat→Nat):Prop where
 box:∃A,w.heap[P]?=some (.cells A 283 (0,0))∧A.size=33∧(∀l,l<16→A[l]?=some (.int .u32 (first l:Nat)))∧(∀l,l<16→A[16+l]?=some (.slice (sa l) (symi ls l i).length (sc l)))∧A[32]?=some (.int .i64 (D:Nat))
 fst:∀l,0<(symi ls l i).length→first l=nxt ls l
 top:∀s,s<i→lenAt ls s≤D
 low:D≤15
 low':∀l,first l≤32768
 rows:∀l,l<16→Made w0 w 3 1 (sa l) (symi ls l i).length (sc l) (ints (symi ls l i))
 sep:∀l m,l<16→m<16→l≠m→∀x∈blk (sa l),x∉blk (sa m)
 off:∀l,l<16→P∉blk (sa l)
 new:w0.heap.size≤P
theorem TabI.tab {w0 w:World} {P D:Nat} {ls:List Nat} {first:Nat→Nat} {sa:Nat→Option Addr} {sc:Nat→Nat} (h:TabI w0 w P D ls ls.length first sa sc) (hlen:ls.length≤400):Tab w P D ls first sa sc:=by
 obtain⟨A,hA,h1,h2,h3,h4⟩:=h.box;refine⟨⟨A,hA,h1,h2,λl hl=>by rw[h3 l hl,qki],h4⟩,λl hl=>h.fst l (by rw[qki];exact hl),h.top,h.low,h.low',λl hl h0=>?_,hlen⟩;have hr:=h.rows l hl;have e:symi ls l ls.length=syms ls l ls.length:=by unfold symi;rw[if_neg (by omega)]
 rw[e]at hr;exact qnl hr rfl
def zeroT:Array Value:=#[.int .u32 0,.int .u32 0,.int .u32 0,.int .u32 0,.int .u32 0,.int .u32 0,.int .u32 0,.int .u32 0,.int .u32 0,.int .u32 0,.int .u32 0,.int .u32 0,.int .u32 0,.int .u32 0,.int .u32 0,.int .u32 0,.slice none 0 0,.slice none 0 0,.slice none 0 0,.slice none 0 0,.slice none 0 0,.slice none 0 0,.slice none 0 0,.slice none 0 0,.slice none 0 0,.slice none 0 0,.slice none 0 0,.slice none 0 0,.slice none 0 0,.slice none 0 0,.slice none 0 0,.slice none 0 0,.int .i64 0]
theorem zbt:∀l,l<16→zeroT[l]?=some (.int .u32 0)
 | 0,_=>rfl
 | 1,_=>rfl
 | 2,_=>rfl
 | 3,_=>rfl
 | 4,_=>rfl
 | 5,_=>rfl
 | 6,_=>rfl
 | 7,_=>rfl
 | 8,_=>rfl
 | 9,_=>rfl
 | 10,_=>rfl
 | 11,_=>rfl
 | 12,_=>rfl
 | 13,_=>rfl
 | 14,_=>rfl
 | 15,_=>rfl
 | _+16,h=>absurd h (by omega)
theorem zbu:∀l,l<16→zeroT[16+l]?=some (.slice none 0 0)
 | 0,_=>rfl
 | 1,_=>rfl
 | 2,_=>rfl
 | 3,_=>rfl
 | 4,_=>rfl
 | 5,_=>rfl
 | 6,_=>rfl
 | 7,_=>rfl
 | 8,_=>rfl
 | 9,_=>rfl
 | 10,_=>rfl
 | 11,_=>rfl
 | 12,_=>rfl
 | 13,_=>rfl
 | 14,_=>rfl
 | 15,_=>rfl
 | _+16,h=>absurd h (by omega)
theorem qkg (ls:List Nat) (l:Nat):symi ls l 0=[]:=by unfold symi;split<;>simp[qkb]
theorem TabI.start (ls:List Nat) {w0 w1:World} (f:Fr [] w0 w1):TabI w0 (w1.alloc (.cells zeroT 283 (0,0))) w1.heap.size 0 ls 0 (λ_=>0) (λ_=>none) (λ_=>0):=by have f2:Fr [] w0 (w1.alloc (.cells zeroT 283 (0,0))):=f.trans ((Fr.refl [] w1).alloc _);refine⟨⟨zeroT,qa4 w1 _,rfl,zbt,λl hl=>by rw[qkg];exact zbu l hl,rfl⟩,λl h=>by rw[qkg]at h;simp at h,λs hs=>by omega,by omega,λ_=>by omega,λl hl=>?_,λl m _ _ _ x hx=>by simp[blk]at hx,λl _=>by simp[blk],f.size⟩;rw[qkg];exact (Made.none w0 _ _).fr2 f2
theorem TabI.skip {w0 w:World} {P D i:Nat} {ls:List Nat} {first:Nat→Nat} {sa:Nat→Option Addr} {sc:Nat→Nat} (h:TabI w0 w P D ls i first sa sc) (h0:lenAt ls i=0):TabI w0 w P D ls (i+1) first sa sc:=by
 have e:∀l,symi ls l (i+1)=symi ls l i:=λl=>by rw[qkh,if_neg (by omega),qb0]
 obtain⟨A,hA,h1,h2,h3,h4⟩:=h.box;refine⟨⟨A,hA,h1,h2,λl hl=>by rw[e];exact h3 l hl,h4⟩,λl hl=>h.fst l (by rw[e]at hl;exact hl),λs hs=>?_,h.low,h.low',λl hl=>by rw[e];exact h.rows l hl,h.sep,h.off,h.new⟩;rcases Nat.lt_succ_iff_lt_or_eq.1 hs with h5|h5
 ·exact h.top s h5
 ·rw[h5,h0];exact qba _
theorem TabI.fr {w0 w w':World} {P D i:Nat} {ls:List Nat} {first:Nat→Nat} {sa:Nat→Option Addr} {sc:Nat→Nat} (h:TabI w0 w P D ls i first sa sc) (f:Fr [] w w'):TabI w0 w' P D ls i first sa sc:=by obtain⟨A,hA,h1⟩:=h.box;exact⟨⟨A,f.blk hA (by simp),h1⟩,h.fst,h.top,h.low,h.low',λl hl=>(h.rows l hl).fr2 f,h.sep,h.off,h.new⟩
theorem TabI.setFirst {w0 w:World} {P D i x:Nat} {ls:List Nat} {first:Nat→Nat} {sa:Nat→Option Addr} {sc:Nat→Nat} (h:TabI w0 w P D ls i first sa sc) (hx:x<16) (hn:nxt ls x≤32768) :
  TabI w0 (w.setCell ⟨P,x,none⟩ (.int .u32 (nxt ls x:Nat))) P D ls i (λl=>if l=x then nxt ls x else first l) sa sc:=by
 obtain⟨A,hA,h1,h2,h3,h4⟩:=h.box;have f:Fr [P] w (w.setCell ⟨P,x,none⟩ (.int .u32 (nxt ls x:Nat))):=(Fr.refl [P] w).setCell (by simp) _;refine⟨⟨_,qa0 hA _,by simp[h1],λl hl=>?_,λl hl=>?_,?_⟩,λl hl=>?_,h.top,h.low,λl=>?_,λl hl=>?_,h.sep,h.off,h.new⟩
 ·by_cases e:l=x
  ·subst e;rw[if_pos rfl,qaq (by omega)]
  ·rw[if_neg e,qac (by omega)];exact h2 l hl
 ·rw[qac (by omega)];exact h3 l hl
 ·rw[qac (by omega)];exact h4
 ·show (if l=x then nxt ls x else first l)=nxt ls l;split
  ·rename_i e;rw[e]
  ·exact h.fst l hl
 ·show (if l=x then nxt ls x else first l)≤32768;split
  ·exact hn
  ·exact h.low' l
 ·have m:=h.rows l hl;exact⟨qa7 m.own f (λy hy hm=>h.off l hl (by simp at hm;rw[<-hm];have e:=qbp (sa l) (symi ls l i).length (sc l);rw[<-e,hy];simp)),m.fr.step f (λz hz=>.inr (by simp at hz;rw[hz];exact h.new)),m.new,m.le,m.max,m.nil⟩
theorem Made.frS {w0 w w':World} {S:List Nat} {e:TypeId} {size:Nat} {ao:Option Addr} {n cap:Nat} {xs:List Value} (h:Made w0 w e size ao n cap xs) (f:Fr S w w') (hn:∀y∈blk ao,y∉S) (hS:∀z∈S,w0.heap.size≤z):Made w0 w' e size ao n cap xs:=
 ⟨qa7 h.own f (λy hy=>hn y (by rw[<-qbp ao n cap,hy];simp)),h.fr.step f (λz hz=>.inr (hS z hz)),h.new,h.le,h.max,h.nil⟩
theorem TabI.push {w0 w w2 w3 w4 w6:World} {P D i x q cp:Nat} {ls:List Nat} {first:Nat→Nat} {sa:Nat→Option Addr} {sc:Nat→Nat} {ao:Option Addr} (h0:TabI w0 w P D ls i first sa sc) (hfx:first x=nxt ls x) (hx:x<16) (hx0:x≠0) (hl:lenAt ls i=x) (hq:q=(symi ls x i).length)
  (f1:Fr [] w w2) (h2:Appended w2 w3 3 1 (blk (sa x)) ao (q+1) cp (ints (symi ls x i)++[.int .i64 i])) (f3:Fr [] w3 w4) (f5:Fr [] (w4.setCell ⟨P,16+x,none⟩ (.slice ao (q+1) cp)) w6) :
  TabI w0 (w6.setCell ⟨P,32,none⟩ (.int .i64 (max D x:Nat))) P (max D x) ls (i+1) first (λl=>if l=x then ao else sa l) (λl=>if l=x then cp else sc l):=by
 have h:=h0.fr f1;obtain⟨A,hA,h1,hlo,hhi,htop⟩:=h.box;have hPS:P∉blk (sa x):=h.off x hx;have hPw:P<w2.heap.size:=lt_of_block hA;have hPao:P∉blk ao:=λhP=>by
  rcases h2.at_ P hP with k|k
  ·exact hPS k
  ·omega
 have hA4:=f3.blk (h2.fr.blk hA hPS) (by simp);have hA6:=f5.blk (qa0 hA4 (o:=16+x) (.slice ao (q+1) cp)) (by simp);have g1:Fr [P] w4 (w4.setCell ⟨P,16+x,none⟩ (.slice ao (q+1) cp)):=(Fr.refl [P] _).setCell (by simp) _;have g2:Fr [P] w6 (w6.setCell ⟨P,32,none⟩ (.int .i64 (max D x:Nat))):=(Fr.refl [P] _).setCell (by simp) _;have hnew:∀z∈[P],w0.heap.size≤z:=λz hz=>by simp at hz;rw[hz];exact h.new
 have up:∀{ao':Option Addr} {n' c':Nat} {xs':List Value},Made w0 w3 3 1 ao' n' c' xs'→P∉blk ao'→Made w0 (w6.setCell ⟨P,32,none⟩ (.int .i64 (max D x:Nat))) 3 1 ao' n' c' xs':=λm hP=>(((m.fr2 f3).frS g1 (λy hy=>by simp;rintro rfl;exact hP hy) hnew).fr2 f5).frS g2 (λy hy=>by simp;rintro rfl;exact hP hy) hnew
 have es:∀l,l≠x→symi ls l (i+1)=symi ls l i:=λl hlx=>by rw[qkh,if_neg (by omega),qb0]
 have ex:symi ls x (i+1)=symi ls x i++[i]:=by rw[qkh,if_pos ⟨hl,hx0⟩]
 have exl:(symi ls x (i+1)).length=q+1:=by rw[ex,hq];simp
 have hnw:∀m,m<16→m≠x→∀y∈blk ao,y∉blk (sa m):=λm hm hne y hy hym=>by
  rcases h2.at_ y hy with k|k
  ·exact h.sep x m hx hm (λe=>hne e.symm) y k hym
  ·have:=(h.rows m hm).lt y hym;omega
 refine⟨⟨_,qa0 hA6 _,by simp[h1],λl hl16=>?_,λl hl16=>?_,?_⟩,λl hl0=>?_,λs hs=>?_,?_,h.low',λl hl16=>?_,λl m hl16 hm16 hne y hy=>?_,λl hl16=>?_,h.new⟩
 ·rw[qac (by omega),qac (by omega)];exact hlo l hl16
 ·rw[qac (by omega)];by_cases e:l=x
  ·subst e;rw[qaq (by omega),exl];simp
  ·rw[qac (by omega),es l e];simp only[if_neg e];exact hhi l hl16
 ·rw[qaq (by simp[h1])]
 ·by_cases e:l=x
  ·rw[e];exact hfx
  ·rw[es l e]at hl0;exact h.fst l hl0
 ·rcases Nat.lt_succ_iff_lt_or_eq.1 hs with h5|h5
  ·have:=h.top s h5;omega
  ·rw[h5,hl];omega
 ·have:=h.low;omega
 ·by_cases e:l=x
  ·subst e;simp only[if_pos];rw[exl,ex];have m:=(h.rows l hx).app h2;have e2:ints (symi ls l i++[i])=ints (symi ls l i)++[.int .i64 i]:=by simp[ints]
   rw[e2];exact up m hPao
  ·simp only[if_neg e];rw[es l e];exact up ((h.rows l hl16).frS h2.fr (λy hy hyx=>h.sep l x hl16 hx e y hy hyx) (λz hz=>(h.rows x hx).new z hz)) (h.off l hl16)
 ·by_cases e:l=x
  ·have e2:m≠x:=λhm=>hne (e.trans hm.symm)
   simp only[if_pos e]at hy;simp only[if_neg e2];exact hnw m hm16 e2 y hy
  ·simp only[if_neg e]at hy;by_cases e2:m=x
   ·simp only[if_pos e2];intro hym;exact hnw l hl16 e y hym hy
   ·simp only[if_neg e2];exact h.sep l m hl16 hm16 hne y hy
 ·by_cases e:l=x
  ·simp only[if_pos e];exact hPao
  ·simp only[if_neg e];exact h.off l hl16
theorem TabI.pre {w0 w1 w:World} {P D i:Nat} {ls:List Nat} {first:Nat→Nat} {sa:Nat→Option Addr} {sc:Nat→Nat} (h:TabI w1 w P D ls i first sa sc) (f:Fr [] w0 w1):TabI w0 w P D ls i first sa sc:=
 ⟨h.box,h.fst,h.top,h.low,h.low',λl hl=>(h.rows l hl).pre f,h.sep,h.off,qan f.size h.new⟩
def NewGood (w:World) (ls:List Nat) (e:Ending) (w':World):Prop:=
 ∃P D first sa sc,e = .returned (.tuple #[.pointer (some ⟨P,0,none⟩),.int .i64 0])∧TabI w w' P D ls ls.length first sa sc∧Fr [] w w'
theorem qqo (a:Option Addr) (cap:Nat) (ls:List Nat) (w:World) (h:Ri w a cap ls) (hle:∀l∈ls,l≤15) (hlen:ls.length≤400) (hw:weight ls≤32768) :
  Calls Tryz.prog 179 #[.slice a ls.length cap] w (NewGood w ls):=by
 obtain⟨N,hN⟩:=zex ls.length;have hc:=qih a cap ls w h hle hlen hw;unfold CodesGood at hc;rw[<-hN]at hlen hc ⊢;have H:=zhd5 h hle hN hc hw;clear h hle hN hc hw;go_enter Tryz.func179,Tryz.ntmps179;go_upto_block 0 with (go_at_call 200;refine H.out.2.2.2.1.mono ?_;rintro e w1 ⟨g,rfl,cg,ng,lg,f1⟩;have H1:=zhd4 cg ng lg f1;clear cg ng lg f1);obtain⟨P,hP⟩:=zex w1.heap.size;obtain⟨w2,hw2⟩:=zex (w1.alloc (.cells zeroT 283 (0,0)));have T0:TabI w1 w2 P 0 ls 0 (λ_=>0) (λ_=>none) (λ_=>0):=by rw[hw2,hP];exact TabI.start ls (Fr.refl [] w1)
 unfold zeroT at hw2;rw[<-hw2,<-hP];have f2:Fr [] w w2:=by rw[hw2];exact H1.l3.trans ((Fr.refl [] w1).alloc _)
 have cg2:Cs w2 (some ⟨g,0,none⟩) ((codesOf ls).map λx=>.int .u32 (x:Nat)):=by rw[hw2];exact H1.o0.fr ((Fr.refl [] w1).alloc _) (by simp)
 have H2:=zhd5 T0 f2 cg2 hP hw2;clear T0 f2 cg2 hP hw2;go_wp2;go_loopg [7,8,21] N (λk s7 s8 s21 wr=>∃(i D:Nat) (first:Nat→Nat) (sa:Nat→Option Addr) (sc:Nat→Nat),s21 = .int .i64 (i:Nat)∧i+k=N∧TabI w1 wr P D ls i first sa sc∧Fr [] w wr∧Cs wr (some ⟨g,0,none⟩) ((codesOf ls).map λx=>.int .u32 (x:Nat)));case atStart=>exact⟨0,0,_,_,_,rfl,by omega,H2.o0,H2.o1,H2.o2⟩
 case round=>
  obtain⟨i,D,first,sa,sc,rfl,hik,hT,hf,hcg⟩:=hrel;by_cases hi:i<N
  ·obtain⟨k,rfl⟩:∃k,gk=k+1:=⟨gk-1,by omega⟩;have hil:i<ls.length:=by rw[<-H.out.2.2.1];exact hi
   obtain⟨ga,o,ha,hc⟩:=(H.out.1.fr hf).at hil;subst ha;have hx15:=H.out.2.1 _ (qb7 hil);have hla:lenAt ls i=ls[i]:=by unfold lenAt;rw[qaf hil];rfl
   obtain⟨x,hx⟩:=zex (ls[i]);rw[<-hx]at hc hx15 hla;have HI:=zhd6 hT hf hcg hla hil hx;clear hT hf hcg hla hx;by_cases hx0:x=0
   ·subst hx0;go_wp2;go_roundg k;case measure=>omega
    case rel=>exact⟨i+1,D,first,sa,sc,by go_num,by omega,HI.out.1.skip HI.out.2.2.2.1,HI.out.2.1,HI.out.2.2.1⟩
   ·have b0:((x:Int)==0)=false:=by simp;omega
    have cells:=λ(wc:World) (first:Nat→Nat) (T:TabI w1 wc P D ls i first sa sc)=>show wc.cell? ⟨P,x,none⟩=some (.int .u32 (first x:Nat))∧wc.cell? ⟨P,16+x,none⟩=some (.slice (sa x) (symi ls x i).length (sc x))∧wc.cell? ⟨P,32,none⟩=some (.int .i64 D)∧wc.frozen? ⟨P,x,none⟩=false∧wc.frozen? ⟨P,16+x,none⟩=false∧wc.frozen? ⟨P,32,none⟩=false by obtain⟨A,hA,h1,h2,h3,h4⟩:=T.box;exact⟨by rw[cell_of hA];exact h2 x (by omega),by rw[cell_of hA];exact h3 x (by omega),by rw[cell_of hA];exact h4,qay hA _,qay hA _,qay hA _⟩
    obtain⟨c1,c2,c3,z1,z2,z3⟩:=cells wr first HI.out.1
    obtain⟨q,hq⟩:=zex ((symi ls x i).length);have hqi:q≤400:=by rw[hq];have:=zb1 ls x i;omega
    have hcode:wr.cell? ⟨g,i,none⟩=some (.int .u32 (code ls i:Nat)):=by obtain⟨g',o',e,hcs⟩:=HI.out.2.2.1.at (by simp[codesOf];omega);cases e;rw[show (⟨g,i,none⟩:Addr)=⟨g,0+i,none⟩ by rw[qbe]];refine hcs i _ ?_;simp[codesOf,hil,codeAt];rw[if_neg (by rw[HI.out.2.2.2.1];exact hx0)]
    rw[<-hq]at c2 cells;have HQ:=zhd2 hq cells;have hN400:i<400:=by omega
    clear hq cells;go_upto_if 35 with fail;go_cut [] from 28 to 44 (λwc=>∃first',TabI w1 wc P D ls i first' sa sc∧first' x=nxt ls x∧Fr [] w wc∧Cs wc (some ⟨g,0,none⟩) ((codesOf ls).map λx=>.int .u32 (x:Nat)))
    case first=>
     by_cases hq0:q=0
     ·have b1:((q:Int)==0)=true:=by simp;omega
      have hcx:=qud hil HI.out.2.2.2.1 hx0 (by rw[<-HQ.out.1];exact hq0);have hnx:nxt ls x≤32768:=qkn ls (by exact H.out.2.1) H.out.2.2.2.2 x hx15;rw[hcx]at hcode;have HX:=zhd2 hcx hnx;clear hcx hnx;go_upto_region 10 with fail;refine qcl 9 (by kernel_rfl) (by kernel_rfl) ?_;simp only[qai,qao,qah,qaj];repeat (go_big_quiet_step (fail))
      refine wpQuiet_nil ?_;go_wp2;go_meet;have fd:Fr [] wr wr.drew:=Fr.drewN [] _ _;case rel=>exact⟨_,(HI.out.1.fr fd).setFirst (by omega) HX.l1,if_pos rfl,(HI.out.2.1.trans fd).step ((Fr.refl [P] _).setCell (by simp) _) (λz hz=>.inr (by simp at hz;rw[hz];exact qan H1.l3.size HI.out.1.new)),(HI.out.2.2.1.fr fd (by simp)).fr ((Fr.refl [P] _).setCell (by simp) _) (by intro z hz hm;have:=H1.o2;have:=H2.o3;simp[blk]at hz hm;omega)⟩
     ·have b1:((q:Int)==0)=false:=by simp;omega
      go_wp2;go_meet;case rel=>exact⟨first,HI.out.1,HI.out.1.fst x (by rw[<-HQ.out.1];omega),HI.out.2.1,HI.out.2.2.1⟩
    case rest=>
     obtain⟨first',hT,hfx,hf,hcg⟩:=hcut;obtain⟨c1,c2,c3,z1,z2,z3⟩:=HQ.out.2 wc first' hT
     have hPS:P∉blk (sa x):=hT.off x (by omega);have q1:∀y,(sup (blk (sa x)) wc.drew y).cell? ⟨P,16+x,none⟩=some (.slice (sa x) q (sc x)):=λy=>(qes (blk (sa x)) wc.drew y).cell ((Fr.drew1 [] wc).cell c2 (by simp)) hPS
     go_upto_region 11 with fail;refine qkt 14 [(false,0),(false,1),(false,2),(false,3),(false,4),(false,5),(false,6),(false,7),(false,8),(false,11),(false,12),(true,9),(true,10),(false,13)] (blk (sa x)) (by kernel_rfl) (by kernel_rfl) (λ_ _ d _ _ h=>by cases d<;>exact h) ?_;simp only[qak,qap,qbh,qbi,qah,qaj,qce];refine qju 11 rfl ?_;simp only[qai,qao,qah,qaj,qak,qap];repeat (go_big_quiet_step (fail))
     refine wpQuiet_nil ?_;clear q1;refine qjv rfl ?_;intro X hX;go_wp2;refine hX.out _ _ wc.drew (Fr.refl _ _) ((Fr.refl (blk (sa x)) wc.drew).alloc _) ?_;clear hX X;refine qjv rfl ?_;intro X hX;obtain⟨w4,hw4⟩:∃w4,w4=(wc.alloc (.cells #[.int .i64 (i:Nat)] 3)).drew:=⟨_,rfl⟩;have f4:Fr [] wc w4:=by rw[hw4];exact ((Fr.refl [] wc).alloc _).drew
     have hcb:Cs w4 (some ⟨wc.heap.size,0,none⟩) [.int .i64 i]:=by rw[hw4];exact qdu _ _ _ _ ((Fr.drew1 [] _).blk (qa4 wc _) (by simp))
     have fb4:Fr (blk (sa x)) wc.drew w4:=by rw[hw4];exact (((Fr.refl (blk (sa x)) wc).alloc _).drew).from_drew
     have HF:=zhd7 hT hfx hf hcg f4 hcb fb4;rw[<-hw4];clear hT hfx hf hcg hw4 f4 hcb fb4;refine qhw qcn _ _ rfl (.slice (sa x) q (sc x)) q (ints (symi ls x i)) (blk (sa x)) rfl (qbp _ _ _) (by have:=((HF.o0.rows x (by omega)).fr2 HF.o4).own;rwa [<-HQ.out.1]at this) (some ⟨wc.heap.size,0,none⟩) 1 1 [.int .i64 i] rfl (qag _) (λh=>by cases h) HF.o5 rfl (by intro u hu;simp only[qaz]at hu;rw[hu];rfl) (by omega) (by unfold maxLen;omega) ?_;intro a5 c5 w5 A5;have fb5:Fr (blk (sa x)) wc.drew w5:=HF.l6.step A5.fr λy hy=>.inl hy
     refine hX.out _ _ wc.drew (Fr.refl _ _) fb5 ?_;clear hX X;simp only[Act.put,qyq,List.set_cons_succ,List.set_cons_zero];clear c2 c3 z2 z3;have T4:=HF.o0.fr HF.o4;obtain⟨A4,hA4,hs4,hlo4,hhi4,htp4⟩:=T4.box;have hA5:=A5.fr.blk hA4 hPS;have z2:=qay hA5 (16+x);have c2:=cell_of hA5 (16+x);rw[hhi4 x (by omega)]at c2;have hA6:=qa0 hA5 (o:=16+x) (.slice a5 (q+1) c5);have c3:=cell_of hA6 32;rw[qac (by omega),htp4]at c3;have z3:=qay hA6 32;have HA:=zhd2 A5 fb5;clear hA4 hs4 hlo4 hhi4 htp4 hA5 hA6 A5 fb5 T4 c1 z1;refine qju 1 rfl ?_;simp only[qai,qao,qah,qaj,qak,qap];repeat (go_big_quiet_step (fail))
     refine wpQuiet_nil ?_;refine qsc ?_;have hT6:=TabI.push (w6:=w5.setCell ⟨P,16+x,none⟩ (.slice a5 (q+1) c5)) HF.o0 HF.o1 (by omega) hx0 HI.out.2.2.2.1 HQ.out.1 HF.o4 HA.o0 (Fr.refl [] _) (Fr.refl [] _);have hf6:∀u:Value,Fr [] w ((w5.setCell ⟨P,16+x,none⟩ (.slice a5 (q+1) c5)).setCell ⟨P,32,none⟩ u):=λu=>by
      have f1:Fr [] w wc:=HF.o2;have f2:Fr (P::blk (sa x)) wc ((w5.setCell ⟨P,16+x,none⟩ (.slice a5 (q+1) c5)).setCell ⟨P,32,none⟩ u):=((((Fr.refl _ wc).drew).trans (HA.l1.mono (λy hy=>.inl (qbw _ hy)))).setCell (by simp) _).setCell (by simp) _;exact f1.step f2 λz hz=>by
       rcases qaw.1 hz with rfl|hz
       ·exact .inr (qan H1.l3.size HF.o0.new)
       ·exact .inr (qan H1.l3.size ((HF.o0.rows x (by omega)).new z hz))
     have hcg6:∀u:Value,Cs ((w5.setCell ⟨P,16+x,none⟩ (.slice a5 (q+1) c5)).setCell ⟨P,32,none⟩ u) (some ⟨g,0,none⟩) ((codesOf ls).map λx=>.int .u32 (x:Nat)):=λu=>by
      have f2:Fr (P::blk (sa x)) wc ((w5.setCell ⟨P,16+x,none⟩ (.slice a5 (q+1) c5)).setCell ⟨P,32,none⟩ u):=((((Fr.refl _ wc).drew).trans (HA.l1.mono (λy hy=>.inl (qbw _ hy)))).setCell (by simp) _).setCell (by simp) _;refine HF.o3.fr f2 λy hy hm=>?_
      simp[blk]at hy;have hg:g<w1.heap.size:=H1.o2;rcases qaw.1 hm with h1|h1
      ·have:=HF.o0.new;omega
      ·have:=(HF.o0.rows x (by omega)).new y h1;omega
     have HZ:=zhd3 hT6 hf6 hcg6;clear hT6 hf6 hcg6;rcases qbq D x with hDx|hDx
     ·have hD:max D x=x:=by omega
      have hDi:max (D:Int) (x:Int)=(x:Int):=by omega
      have hT6:=HZ.o0;rw[hD]at hT6;have HT:=zhd hT6;clear hT6 hD;go_wp2;all_goals go_roundg k
      all_goals first
       | omega
       | exact⟨i+1,x,first',_,_,by go_num,by omega,HT.out,HZ.o1 _,HZ.l2 _⟩
     ·have hD:max D x=D:=by omega
      have hDi:max (D:Int) (x:Int)=(D:Int):=by omega
      have hT6:=HZ.o0;rw[hD]at hT6;have HT:=zhd hT6;clear hT6 hD;go_wp2;all_goals go_roundg k
      all_goals first
       | omega
       | exact⟨i+1,D,first',_,_,by go_num,by omega,HT.out,HZ.o1 _,HZ.l2 _⟩
  ·obtain rfl:i=N:=by omega
   have HI:=zhd2 hT hf;clear hT hf hcg hi hik;go_wp2;go_ret2;have hT:=HI.out.1;rw[H.out.2.2.1]at hT;exact⟨P,D,first,sa,sc,rfl,hT.pre H1.l3,HI.out.2⟩
structure TabB (w:World) (P D:Nat) (ls:List Nat) (first:Nat→Nat) (sa:Nat→Option Addr) (sc:Nat→Nat) (B E:Nat):Prop where
 tab:Tab w P D ls first sa sc
 at_:B≤P∧P<E
 row:∀l,l<16→∀x∈blk (sa l),B≤x∧x<E
def NewTab (w:World) (ls:List Nat) (e:Ending) (w':World):Prop:=
 ∃P D first sa sc,e = .returned (.tuple #[.pointer (some ⟨P,0,none⟩),.int .i64 0])∧TabB w' P D ls first sa sc w.heap.size w'.heap.size∧Fr [] w w'
theorem qqn (a:Option Addr) (cap:Nat) (ls:List Nat) (w:World) (h:Ri w a cap ls) (hle:∀l∈ls,l≤15) (hlen:ls.length≤400) (hw:weight ls≤32768) :
  Calls Tryz.prog 179 #[.slice a ls.length cap] w (NewTab w ls):=
 (qqo a cap ls w h hle hlen hw).mono λe w' ⟨P,D,first,sa,sc,h1,h2,h3⟩=>⟨P,D,first,sa,sc,h1,⟨h2.tab hlen,⟨h2.new,by obtain⟨A,hA,_⟩:=h2.box;exact lt_of_block hA⟩,λl hl x hx=>⟨(h2.rows l hl).new x hx,(h2.rows l hl).lt x hx⟩⟩,h3⟩
theorem qx2 (a:Option Addr) (cap:Nat) (ls:List Nat) (w:World) (h:Ri w a cap ls) (hle:∀l∈ls,l≤15) (hlen:ls.length≤400) (hw:32768<weight ls) :
  Calls Tryz.prog 200 #[.slice a ls.length cap] w λe w'=>e = .returned (.tuple #[.slice none 0 0,.int .i64 3])∧Fr [] w w':=by
 have hc:=qln a cap ls w h hle (by omega);have hwl:=qhy ls;obtain⟨W,hW⟩:=zex (weight ls);obtain⟨N,hN⟩:=zex ls.length;rw[<-hW]at hc hw hwl;rw[<-hN]at hc hlen hwl ⊢;have H:=zhd hc;clear hc hW hN h hle;go_enter Tryz.func200,Tryz.ntmps200;go_wp2_with (go_at_call 209;refine H.out.mono ?_;rintro e w1 ⟨rfl,rfl⟩);go_ret2;exact⟨rfl,.refl _ _⟩
theorem zcj (a:Option Addr) (cap:Nat) (ls:List Nat) (w:World) (h:Ri w a cap ls) (hle:∀l∈ls,l≤15) (hlen:ls.length≤400) (hw:32768<weight ls) :
  Calls Tryz.prog 179 #[.slice a ls.length cap] w λe w'=>e = .returned (.tuple #[.pointer none,.int .i64 3])∧Fr [] w w':=by
 have H:=zhd (qx2 a cap ls w h hle hlen hw);obtain⟨N,hN⟩:=zex ls.length;rw[<-hN]at H ⊢;clear h hle hw hN;go_enter Tryz.func179,Tryz.ntmps179;go_wp2_with (go_at_call 200;refine H.out.mono ?_;rintro e w1 ⟨rfl,f1⟩);go_ret2;exact⟨rfl,f1⟩
end Go.Proofs.YtbabjlohkniciaaGreatDoor.huf
namespace Go.Proofs.YtbabjlohkniciaaGreatDoor.inf
open Go Go.RowKit lib bm bl huf
theorem qw8 {ls:List Nat} {n v s:Nat} (h:hsym ls n v=some s):s<ls.length∧0<n:=by unfold hsym at h;have h1:=List.mem_of_find?_eq_some h;have h2:=List.find?_some h;simp at h1 h2;exact⟨h1,h2.1⟩
theorem qg9 (ls:List Nat):∀(f n v:Nat) (bits:List Bool),((hread ls f n v bits).2.2=0∨(hread ls f n v bits).2.2=3∨(hread ls f n v bits).2.2=4)∧
  ((hread ls f n v bits).2.2=0→(hread ls f n v bits).1<ls.length∧0<(hread ls f n v bits).2.1)
 | 0,n,v,bits=>by
  cases h:hsym ls n v with
  | some s=>rw[qej h];exact⟨.inl rfl,λ_=>qw8 h⟩
  | none=>rw[qid h];exact⟨.inr (.inl rfl),λh=>by cases h⟩
 | f+1,n,v,bits=>by
  cases h:hsym ls n v with
  | some s=>rw[qej h];exact⟨.inl rfl,λ_=>qw8 h⟩
  | none=>
   by_cases hm:hmore ls n v=true
   ·cases bits with
    | nil=>rw[qfz h hm];exact⟨.inr (.inr rfl),λh=>by cases h⟩
    | cons b t=>rw[qe4 h hm];exact qg9 ls f (n+1) _ t
   ·rw[qf0 h (by simpa using hm)];exact⟨.inr (.inl rfl),λh=>by cases h⟩
theorem qfm {bs:List UInt8} {ls:List Nat} {a s a1:Nat} (h:isym bs ls a = .ok (s,a1)):s<ls.length∧a<a1:=by
 unfold isym at h;split at h
 ·rename_i hc;have:=(qg9 ls 15 0 0 ((bytesBits bs).drop a)).2 hc;simp only[qa3,qa1]at h;omega
 ·cases h
theorem qcp {bs:List UInt8} {a n v a1:Nat} (h:itake bs a n = .ok (v,a1)):v<2^n:=by
 unfold itake at h;split at h
 ·simp only[qa3,qa1]at h;rw[<-h.1];exact qd9 _ _
 ·cases h
structure Tb (w:World) (P:Nat) (ls:List Nat) (X:List Nat):Prop where
 ex:∃D first sa sc,Tab w P D ls first sa sc∧P<w.heap.size∧P∉X∧∀l,l<16→∀x∈blk (sa l),x<w.heap.size∧x∉X
theorem Tb.fr {S:List Nat} {w w':World} {P:Nat} {ls X:List Nat} (h:Tb w P ls X) (f:Fr S w w') (hS:∀x∈S,x∈X∨w.heap.size≤x):Tb w' P ls X:=by
 obtain⟨D,first,sa,sc,ht,h1,h2,h3⟩:=h.ex;refine⟨D,first,sa,sc,ht.frS f (λhP=>?_) (λl hl _ x hx hx2=>?_),qal h1 f.size,h2,λl hl x hx=>⟨qal (h3 l hl x hx).1 f.size,(h3 l hl x hx).2⟩⟩
 ·rcases hS P hP with k|k
  ·exact h2 k
  ·omega
 ·rcases hS x hx2 with k|k
  ·exact (h3 l hl x hx).2 k
  ·have:=(h3 l hl x hx).1;omega
theorem Tb.way {w w':World} {R p P:Nat} {oa oa':Option Addr} {ls:List Nat} (h:Tb w P ls (R::p::blk oa)) (f:Way w R p oa w' oa'):Tb w' P ls (R::p::blk oa'):=by obtain⟨D,first,sa,sc,ht,h1,h2,h3⟩:=h.ex;exact⟨D,first,sa,sc,ht.frS f.fr h2 (λl hl _ x hx=>(h3 l hl x hx).2),qal h1 f.fr.size,f.old h1 h2,λl hl x hx=>⟨qal (h3 l hl x hx).1 f.fr.size,f.old (h3 l hl x hx).1 (h3 l hl x hx).2⟩⟩
theorem qir (R p P:Nat) (F:List Nat) (bs out:List UInt8) (ls:List Nat) (at_ oc most:Nat) (oa:Option Addr) (w:World) (h:St w R p F bs at_ out oa oc most) (hT:Tb w P ls (R::p::blk oa)) :
  Calls Tryz.prog 201 #[.pointer (some ⟨P,0,none⟩),.pointer (some ⟨p,0,none⟩)] w (RetV w R p F bs out oa oc most (isym bs ls at_)):=by
 obtain⟨D,first,sa,sc,ht,h1,h2,h3⟩:=hT.ex;have hp:P≠p:=λe=>h2 (by simp[e])
 have hsp:=qg9 ls 15 0 0 ((bytesBits bs).drop at_);obtain⟨r,hr0⟩:=zex (hread ls 15 0 0 ((bytesBits bs).drop at_));unfold isym;rw[<-hr0]at hsp ⊢;obtain⟨s,m,c⟩:=r;refine (qf8 P D ls first sa sc p F bs at_ w ht h.rd hp (λl hl _ x hx e=>(h3 l hl x hx).2 (by simp[e])) s m c hr0.symm).mono ?_;rintro e w' ⟨rfl,hr,f⟩;simp only at hsp ⊢;by_cases hc:c=0
 ·subst hc;exact .inr ⟨s,at_+m,by rw[if_pos rfl],rfl,h.take f hr,f⟩
 ·exact .inl ⟨_,c,by rw[if_neg hc],by omega,by omega,rfl,f.mono (by simp)⟩
theorem qg5 (R p:Nat) (F:List Nat) (bs out:List UInt8) (at_ oc most s:Nat) (oa:Option Addr) (w:World) (h:St w R p F bs at_ out oa oc most) (h1:256≤s) (h2:s<286) :
  Calls Tryz.prog 211 #[.pointer (some ⟨R,0,none⟩),.int .i64 s] w (RetV w R p F bs out oa oc most (ilength bs s at_)):=by
 by_cases h3:s<265
 ·have e:ilength bs s at_ = .ok (s-254,at_):=by unfold ilength;rw[if_pos h3]
  rw[e];have H:=zhd h;clear h e;go_enter Tryz.func211,Tryz.ntmps211;go_wp2;go_ret2;exact .inr ⟨_,_,rfl,by rw[show ((s-254:Nat):Int)=(s:Int)-254 by omega];rfl,H.out,.refl _ _⟩
 ·by_cases h4:s=285
  ·have e:ilength bs s at_ = .ok (258,at_):=by unfold ilength;rw[if_neg h3,if_pos h4]
   rw[e];subst h4;have H:=zhd h;clear h e;go_enter Tryz.func211,Tryz.ntmps211;go_wp2;go_ret2;exact .inr ⟨_,_,rfl,rfl,H.out,.refl _ _⟩
  ·have b4:((s:Int)==285)=false:=by simp;omega
   obtain⟨n,hn⟩:=zex ((s-261)/4);have hn5:n≤5:=by omega
   have ht:=qfc R p F bs out at_ oc most n oa w h (by omega);have hbad:∀c,itake bs at_ n = .error c→ilength bs s at_ = .error c:=λc hc=>by unfold ilength;rw[if_neg h3,if_neg h4,<-hn,hc]
   have hgood:∀v a1,itake bs at_ n = .ok (v,a1)→ilength bs s at_ = .ok (3+(4+(s-265)%4)*2^n+v,a1):=λv a1 hc=>by unfold ilength;rw[if_neg h3,if_neg h4,<-hn,hc]
   obtain⟨M,hM⟩:=zex (ilength bs s at_);rw[<-hM]at hbad hgood ⊢;obtain⟨k,hk⟩:=zex ((4+(s-265)%4)*2^n);rw[<-hk]at hgood;have hk2:k≤7*2^5:=by rw[hk];exact qm3 (by omega) (qax (by decide) hn5)
   have hk3:(4+((s:Int)-265)%4)*2^n=(k:Nat):=by
    have e0:((s:Int)-265)%4=((s-265)%4:Nat):=by omega
    rw[e0,hk];push_cast;rfl
   have H:=zhd5 ht hn hbad hgood hk3;have hM2:=zhd hM;clear hM hbad hgood hk hk3;have e1:((s:Int)-261)/4=(n:Nat):=by omega
   clear h ht hn;go_enter Tryz.func211,Tryz.ntmps211;go_wp2_with (go_at_call 94;refine H.out.1.mono ?_;rintro e w1 (⟨v,c,hm,hc0,hc1,rfl,f1⟩|⟨v,a1,hm,rfl,s1,f1⟩))
   ·go_ret2;exact .inl ⟨_,c,H.out.2.2.1 c hm,hc0,hc1,rfl,f1⟩
   ·go_ret2;refine .inr ⟨_,_,H.out.2.2.2.1 v a1 hm,?_,s1,f1⟩;have hv:=qcp hm;have hv2:2^n≤2^5:=qax (by decide) hn5;have e2:wrap64 (wrap64 (3+wrap64 ((4+((s:Int)-265)%4)*2^n))+(v:Nat))=((3+k+v:Nat):Int):=by rw[H.out.2.2.2.2];unfold wrap64;omega
    show Ending.returned (.tuple #[.int .i64 (wrap64 (wrap64 (3+wrap64 ((4+((s:Int)-265)%4)*2^n))+(v:Nat))),.int .i64 0])=_;rw[e2]
theorem qfh (R p:Nat) (F:List Nat) (bs out:List UInt8) (at_ oc most s:Nat) (oa:Option Addr) (w:World) (h:St w R p F bs at_ out oa oc most) (h2:s<30) :
  Calls Tryz.prog 212 #[.pointer (some ⟨R,0,none⟩),.int .i64 s] w (RetV w R p F bs out oa oc most (idist bs s at_)):=by
 by_cases h3:s<4
 ·have e:idist bs s at_ = .ok (s+1,at_):=by unfold idist;rw[if_pos h3]
  rw[e];have H:=zhd h;clear h e;go_enter Tryz.func212,Tryz.ntmps212;go_wp2;go_ret2;exact .inr ⟨_,_,rfl,rfl,H.out,.refl _ _⟩
 ·obtain⟨n,hn⟩:=zex ((s-2)/2);have hn5:n≤13:=by omega
  have ht:=qfc R p F bs out at_ oc most n oa w h (by omega);have hbad:∀c,itake bs at_ n = .error c→idist bs s at_ = .error c:=λc hc=>by unfold idist;rw[if_neg h3,<-hn,hc]
  have hgood:∀v a1,itake bs at_ n = .ok (v,a1)→idist bs s at_ = .ok (1+(2+s%2)*2^n+v,a1):=λv a1 hc=>by unfold idist;rw[if_neg h3,<-hn,hc]
  obtain⟨M,hM⟩:=zex (idist bs s at_);rw[<-hM]at hbad hgood ⊢;obtain⟨k,hk⟩:=zex ((2+s%2)*2^n);rw[<-hk]at hgood;have hk2:k≤3*2^13:=by rw[hk];exact qm3 (by omega) (qax (by decide) hn5)
  have hk3:(2+(s:Int)%2)*2^n=(k:Nat):=by rw[hk];push_cast;rfl
  have H:=zhd5 ht hn hbad hgood hk3;have hM2:=zhd hM;clear hM hbad hgood hk hk3;have e1:((s:Int)-2)/2=(n:Nat):=by omega
  clear h ht hn;go_enter Tryz.func212,Tryz.ntmps212;go_wp2_with (go_at_call 94;refine H.out.1.mono ?_;rintro e w1 (⟨v,c,hm,hc0,hc1,rfl,f1⟩|⟨v,a1,hm,rfl,s1,f1⟩))
  ·go_ret2;exact .inl ⟨_,c,H.out.2.2.1 c hm,hc0,hc1,rfl,f1⟩
  ·go_ret2;refine .inr ⟨_,_,H.out.2.2.2.1 v a1 hm,?_,s1,f1⟩;have hv:=qcp hm;have hv2:2^n≤2^13:=qax (by decide) hn5;have e2:wrap64 (wrap64 (1+wrap64 ((2+(s:Int)%2)*2^n))+(v:Nat))=((1+k+v:Nat):Int):=by rw[H.out.2.2.2.2];unfold wrap64;omega
   show Ending.returned (.tuple #[.int .i64 (wrap64 (wrap64 (1+wrap64 ((2+(s:Int)%2)*2^n))+(v:Nat))),.int .i64 0])=_;rw[e2]
theorem qpd {bs:List UInt8} {s a b a1:Nat} (h:idist bs s a = .ok (b,a1)):0<b∧b≤100000∨30≤s:=by
 by_cases hs:30≤s
 ·exact .inr hs
 ·left;unfold idist at h;split at h
  ·simp only[qa3,qa1]at h;omega
  ·have h13:(s-2)/2≤13:=by omega
   have hp:(2+s%2)*2^((s-2)/2)≤3*2^13:=qm3 (by omega) (qax (by decide) h13);have hp2:2^((s-2)/2)≤2^13:=qax (by decide) h13;cases ht:itake bs a ((s-2)/2) with
   | error e=>rw[ht]at h;cases h
   | ok x=>obtain⟨v,a2⟩:=x;have hv:=qcp ht;rw[ht]at h;simp only[qa3,qa1]at h;omega
theorem qt8 {bs:List UInt8} {s a n a1:Nat} (h:ilength bs s a = .ok (n,a1)) (hs:s<286):n≤100000:=by
 unfold ilength at h;split at h
 ·simp only[qa3,qa1]at h;omega
 ·split at h
  ·simp only[qa3,qa1]at h;omega
  ·have h13:(s-261)/4≤6:=by omega
   have hp:(4+(s-265)%4)*2^((s-261)/4)≤7*2^6:=qm3 (by omega) (qax (by decide) h13);have hp2:2^((s-261)/4)≤2^6:=qax (by decide) h13;cases ht:itake bs a ((s-261)/4) with
   | error e=>rw[ht]at h;cases h
   | ok x=>obtain⟨v,a2⟩:=x;have hv:=qcp ht;rw[ht]at h;simp only[qa3,qa1]at h;omega
theorem qwx {most:Nat} {out o:List UInt8} {c:UInt8} (h:iput most out c = .ok o):o=out++[c]∧out.length<most:=by
 unfold iput at h;split at h
 ·cases h
 ·simp only[qa3]at h;exact⟨h.symm,by omega⟩
theorem St.byte {w:World} {R p:Nat} {F:List Nat} {bs out:List UInt8} {at_ oc most:Nat} {oa:Option Addr} (h:St w R p F bs at_ out oa oc most) {i:Nat} (hi:i<out.length) :
  ∃g o,oa=some ⟨g,o,none⟩∧w.cell? ⟨g,o+i,none⟩=some (.int .u8 ((out[i]?.getD 0).toNat:Nat)):=by
 obtain⟨g,o,e,hc⟩:=(qcm h.own).at (by simp;omega);refine⟨g,o,e,hc i _ ?_⟩;rw[qbx,qaf hi];rfl
theorem qwh (R p Q:Nat) (F:List Nat) (bs out:List UInt8) (dl:List Nat) (at_ oc most s:Nat) (oa:Option Addr) (w:World) (h:St w R p F bs at_ out oa oc most) (hT:Tb w Q dl (R::p::blk oa)) (h1:256≤s) (h2:s<286) :
  Calls Tryz.prog 202 #[.pointer (some ⟨R,0,none⟩),.int .i64 s,.pointer (some ⟨Q,0,none⟩)] w (Ret w R p F bs oa most (imatch bs most dl s out at_)):=by
 obtain⟨M,hM⟩:=zex (imatch bs most dl s out at_);rw[<-hM];obtain⟨N,hN⟩:=zex out.length;have H:=zhd5 (qg5 R p F bs out at_ oc most s oa w h h1 h2) hT hM h hN;have hsm:=h.sm;clear h hT hM hN;go_enter Tryz.func202,Tryz.ntmps202;go_upto_block 0 with (first|(go_at_call 211;refine H.o0.mono ?_;rintro e w1 (⟨v,c,hm,hc0,hc1,rfl,f1⟩|⟨n,a1,hm,rfl,s1,f1⟩);all_goals (try (have c0:=cell_of s1.box 0;simp only[qae,qaa,qad]at c0;have K1:=zhd3 hm s1 f1;clear hm s1 f1)))|(go_at_call 201;refine (qir R p Q F bs out dl a1 oc most oa w1 K1.o1 (H.o1.fr K1.l2 (by simp))).mono ?_;rintro e w2 (⟨v2,c,hm,hc0,hc1,rfl,f1⟩|⟨d,a2,hm,rfl,s2,f2⟩);all_goals (try (have K2:=zhd3 hm s2 f2;clear hm s2 f2)))|(go_at_call 212;refine (qfh R p F bs out a2 oc most d oa w2 K2.o1 (by omega)).mono ?_;rintro e w3 (⟨v3,c,hm,hc0,hc1,rfl,f1⟩|⟨b,a3,hm,rfl,s3,f3⟩);all_goals (try (have c1:=cell_of s3.box 1;rw[<-H.l4]at c1;simp only[qae,qaa,qad]at c1;have K3:=zhd3 hm s3 f3;clear hm s3 f3))))
 ·go_ret;exact .inl ⟨c,by rw[H.o2];simp[imatch,hm],hc0,hc1,rfl,f1⟩
 ·go_ret;exact .inl ⟨c,by rw[H.o2];simp[imatch,K1.o0,hm],hc0,hc1,rfl,(K1.l2.mono (by simp)).trans f1⟩
 ·go_ret;exact .inl ⟨3,by rw[H.o2];simp[imatch,K1.o0,K2.o0,show 30≤d by omega],by decide,by decide,rfl,(K1.l2.trans K2.l2).mono (by simp)⟩
 ·go_ret;exact .inl ⟨c,by rw[H.o2];simp[imatch,K1.o0,K2.o0,hm,show ¬30≤d by omega],hc0,hc1,rfl,((K1.l2.trans K2.l2).mono (by simp)).trans f1⟩
 ·go_ret;exact .inl ⟨3,by rw[H.o2];simp only[imatch,K1.o0,K2.o0,K3.out.1,if_neg (show ¬30≤d by omega)];rw[if_pos (by rw[<-H.l4];omega)],by decide,by decide,rfl,((K1.l2.trans K2.l2).trans K3.out.2.2).mono (by simp)⟩
 ·have hM3:M=match icopy most b n out with
    | .error e=>.error e
    | .ok o=>.ok (o,a3):=by
   rw[H.o2]
   simp only[imatch,K1.o0,K2.o0,K3.out.1,if_neg (show ¬30≤d by omega)]
   rw[if_neg (by rw[<-H.l4];omega)]
   rfl
  have hbp:0<b∧b≤100000:=by
   rcases qpd K3.out.1 with k|k
   ·exact k
   ·omega
  have hnl:=qt8 K1.o0 h2
  have HM:=zhd2 hM3 hbp.1
  have hbp1:=hbp.2
  clear hM3 hbp c0 c1
  have dN:decide (N<b)=false:=by simp;omega
  simp only[dN]
  clear dN
  go_wp2
  go_loopg [6,11,52] n (λk s6 s11 s52 wr=>∃(j:Nat) (out1:List UInt8) (oa1:Option Addr) (oc1:Nat),s52 = .int .i64 (j:Nat)∧j+k=n∧St wr R p F bs a3 out1 oa1 oc1 most∧Way w3 R p oa wr oa1∧icopy most b k out1=icopy most b n out∧b≤out1.length)
  case atStart=>exact⟨0,out,oa,oc,rfl,by omega,K3.out.2.1,.refl _ _ _ _,rfl,by rw[<-H.l4];omega⟩
  case round=>
   obtain⟨j,out1,oa1,oc1,rfl,hjk,hst,hway,hic,hbl⟩:=hrel
   have hW:Fr (R::p::blk oa) w wr:=(((K1.l2.trans K2.l2).trans K3.out.2.2).mono (by simp)).trans hway.fr
   by_cases hj:j<n
   ·obtain⟨k,rfl⟩:∃k,gk=k+1:=⟨gk-1,by omega⟩
    obtain⟨N1,hN1⟩:=zex out1.length
    have hb0:=HM.l1
    obtain⟨g,o,rfl,hby⟩:=hst.byte (i:=N1-b) (by omega)
    obtain⟨u,hu⟩:=zex (out1[N1-b]?.getD 0)
    have c1:=cell_of hst.box 1
    simp only[qae,qaa,qad]at c1
    rw[<-hN1]at c1
    rw[<-hu]at hby
    have hom:N1≤most:=by rw[hN1];exact hst.om
    have hbl1:b≤N1:=by rw[hN1];exact hbl
    rw[show o+(N1-b)=(o+(N1-b):Nat) from rfl]at hby
    have HJ:=zhd7 hst hway hic hbl hN1 hu hW
    clear hst hway hic hbl hN1 hu hW
    go_upto_region 16 with fail
    refine qcl 14 (by kernel_rfl) (by kernel_rfl) ?_
    simp only[qai,qao,qah,qaj]
    repeat (go_big_quiet_step (fail))
    refine wpQuiet_nil ?_
    have sd:=HJ.out.1.fr0 (Fr.drew1 [] wr)
    have HD:=zhd sd
    clear sd
    go_wp2_with (go_at_call 178;refine (qi0 R p F bs out1 a3 oc1 most _ u wr.drew HD.out).mono ?_;rintro e w4 (⟨c,hm,hc0,hc1,rfl,f1⟩|⟨out2,a4,oa2,oc2,hm,rfl,s4,f4⟩);all_goals (have Km:=zhd hm;clear hm);all_goals (try (have K4:=zhd2 s4 f4;clear s4 f4)))
    ·go_ret
     have hm:=Km.out
     cases hp:iput most out1 u with
     | error e=>
      rw[hp]at hm
      have hec:e=c:=by simpa[Except.map] using hm
      have e1:icopy most b n out = .error c:=by rw[<-HJ.out.2.2.1,icopy,<-HJ.out.2.2.2.2.1,<-HJ.out.2.2.2.2.2.1,hp,hec]
      exact .inl ⟨c,by rw[HM.o0,e1],hc0,hc1,rfl,(HJ.out.2.2.2.2.2.2.drew).step f1 (λx hx=>by
       rcases qaw.1 hx with h3|hx
       ·exact .inl (by simp[h3])
       ·rcases qaw.1 hx with h3|hx
        ·exact .inl (by simp[h3])
        ·rcases HJ.out.2.1.new x hx with h3|h3
         ·exact .inl (by simp[h3])
         ·exact .inr (qan (qan (qan K1.l2.size K2.l2.size) K3.out.2.2.size) h3))⟩
     | ok o2=>rw[hp]at hm;cases hm
    ·go_roundg k
     case measure=>omega
     case rel=>
      have hm:=Km.out
      cases hp:iput most out1 u with
      | error e=>rw[hp]at hm;cases hm
      | ok o2=>
       rw[hp]at hm
       have hm2:o2=out2∧a3=a4:=by simpa[Except.map] using hm
       obtain⟨rfl,rfl⟩:=hm2
       have hi:=qwx hp
       refine⟨j+1,o2,oa2,oc2,by go_num,by omega,K4.o0,HJ.out.2.1.trans ((Way.of0 _ _ _ _ _ (Fr.drew1 [] wr)).trans K4.l1),?_,by rw[hi.1];simp;have:=HJ.out.2.2.2.1;omega⟩
       rw[<-HJ.out.2.2.1,icopy,<-HJ.out.2.2.2.2.1,<-HJ.out.2.2.2.2.2.1,hp]
   ·have hk0:gk=0:=by omega
    subst hk0
    have e1:icopy most b n out = .ok out1:=by rw[<-hic,icopy]
    have HE:=zhd3 hst hway e1
    clear hst hway hic hbl e1
    obtain rfl:j=n:=by omega
    go_wp2
    go_ret
    exact .inr ⟨out1,a3,oa1,oc1,by rw[HM.o0,HE.l2],rfl,HE.o0,(Way.of _ _ _ _ _ ((K1.l2.trans K2.l2).trans K3.out.2.2)).trans HE.o1⟩
theorem zd8 (R p:Nat) (F:List Nat) (bs out:List UInt8) (at_ oc most s:Nat) (oa:Option Addr) (w:World) (h:St w R p F bs at_ out oa oc most) (hs:s<256) :
  Calls Tryz.prog 178 #[.pointer (some ⟨R,0,none⟩),.int .u8 s] w (Ret w R p F bs oa most ((iput most out (UInt8.ofNat s)).map λo=>(o,at_))):=by
 have:=qi0 R p F bs out at_ oc most oa (UInt8.ofNat s) w h;rwa [show ((UInt8.ofNat s).toNat:Int)=(s:Int) from by simp[qb6];omega]at this
theorem qlf {bs:List UInt8} {most:Nat} {dl:List Nat} {s a a1:Nat} {out o:List UInt8} (h:imatch bs most dl s out a = .ok (o,a1)):a≤a1:=by
 have ht:∀{n a v b:Nat},itake bs a n = .ok (v,b)→a≤b:=λ{n a v b} h=>by
  unfold itake at h;split at h
  ·simp only[qa3,qa1]at h;omega
  ·cases h
 unfold imatch at h;split at h
 ·cases h
 ·rename_i n a2 h1;have e1:a≤a2:=by
   unfold ilength at h1;split at h1
   ·simp only[qa3,qa1]at h1;omega
   ·split at h1
    ·simp only[qa3,qa1]at h1;omega
    ·split at h1
     ·cases h1
     ·rename_i hh;have:=ht hh;simp only[qa3,qa1]at h1;omega
  split at h
  ·cases h
  ·rename_i d a3 h2;have e2:=(qfm h2).2;split at h
   ·cases h
   ·split at h
    ·cases h
    ·rename_i b a4 h3;have e3:a3≤a4:=by
      unfold idist at h3;split at h3
      ·simp only[qa3,qa1]at h3;omega
      ·split at h3
       ·cases h3
       ·rename_i hh;have:=ht hh;simp only[qa3,qa1]at h3;omega
     split at h
     ·cases h
     ·split at h
      ·cases h
      ·simp only[qa3,qa1]at h;omega
theorem qkj (R p PL PD:Nat) (F:List Nat) (bs out:List UInt8) (ll dl:List Nat) (at_ oc most:Nat) (oa:Option Addr) (w:World) (h:St w R p F bs at_ out oa oc most) (hL:Tb w PL ll (R::p::blk oa)) (hD:Tb w PD dl (R::p::blk oa)) :
  Calls Tryz.prog 180 #[.pointer (some ⟨R,0,none⟩),.pointer (some ⟨PL,0,none⟩),.pointer (some ⟨PD,0,none⟩)] w (Ret w R p F bs oa most (isyms bs most ll dl (fuel bs) out at_)):=by
 obtain⟨M,hM⟩:=zex (isyms bs most ll dl (fuel bs) out at_);rw[<-hM];have H:=zhd4 h hL hD hM;clear h hL hD hM;go_enter Tryz.func180,Tryz.ntmps180;go_wp2;go_step3;go_wp2;go_step3;go_wp2;go_loopg [6,7,8,9,10] (fuel bs) (λk s6 s7 s8 s9 s10 wr=>∃(a1:Nat) (out1:List UInt8) (oa1:Option Addr) (oc1:Nat),St wr R p F bs a1 out1 oa1 oc1 most∧Way w R p oa wr oa1∧isyms bs most ll dl k out1 a1=M∧8*bs.length+1≤a1+k);case atStart=>exact⟨at_,out,oa,oc,H.o0,.refl _ _ _ _,H.l3.symm,by unfold fuel;omega⟩
 case round=>
  obtain⟨a1,out1,oa1,oc1,hst,hway,his,hfu⟩:=hrel;have ha1:=hst.pF.2;obtain⟨k,rfl⟩:∃k,gk=k+1:=⟨gk-1,by omega⟩;have c0:=cell_of hst.box 0;simp only[qae,qaa,qad]at c0;have HJ:=zhd5 hst hway his (H.o1.way hway) (H.o2.way hway);clear hst hway his;go_wp2_with (first|(go_at_call 201;refine (qir R p PL F bs out1 ll a1 oc1 most oa1 wr HJ.o0 HJ.o3).mono ?_;rintro e w2 (⟨v2,c,hm,hc0,hc1,rfl,f1⟩|⟨s,a2,hm,rfl,s2,f2⟩);all_goals (try (have K2:=zhd3 hm s2 f2;clear hm s2 f2)))|(go_at_call 178;refine (zd8 R p F bs out1 a2 oc1 most s oa1 w2 K2.o1 (by omega)).mono ?_;rintro e w4 (⟨c,hm,hc0,hc1,rfl,f1⟩|⟨out2,a4,oa2,oc2,hm,rfl,s4,f4⟩);all_goals (have Km:=zhd hm;clear hm);all_goals (try (have K4:=zhd2 s4 f4;clear s4 f4)))|(go_at_call 202;refine (qwh R p PD F bs out1 dl a2 oc1 most s oa1 w2 K2.o1 (HJ.l4.fr K2.l2 (by simp)) (by omega) (by omega)).mono ?_;rintro e w4 (⟨c,hm,hc0,hc1,rfl,f1⟩|⟨out2,a4,oa2,oc2,hm,rfl,s4,f4⟩);all_goals (have Km:=zhd hm;clear hm);all_goals (try (have K4:=zhd2 s4 f4;clear s4 f4))))
  ·rw[Exit.noGoto_ret];go_ret;exact .inl ⟨c,by rw[<-HJ.o2,isyms,hm],hc0,hc1,rfl,HJ.o1.frW f1⟩
  ·rw[Exit.noGoto_ret];go_ret;have hm:=Km.out;cases hp:iput most out1 (UInt8.ofNat s) with
   | ok o2=>rw[hp]at hm;cases hm
   | error e=>
    rw[hp]at hm;have hec:e=c:=by simpa[Except.map] using hm
    have e1:isyms bs most ll dl (k+1) out1 a1 = .error c:=by rw[isyms,K2.o0];simp only[if_pos (show s<256 by omega),hp,hec]
    exact .inl ⟨c,by rw[<-HJ.o2,e1],hc0,hc1,rfl,(HJ.o1.trans (Way.of _ _ _ _ _ K2.l2)).frW f1⟩
  ·go_roundg k;case measure=>omega
   case rel=>
    have hm:=Km.out;cases hp:iput most out1 (UInt8.ofNat s) with
    | error e=>rw[hp]at hm;cases hm
    | ok o2=>
     rw[hp]at hm;have hm2:o2=out2∧a2=a4:=by simpa[Except.map] using hm
     obtain⟨rfl,rfl⟩:=hm2;have hlt:=(qfm K2.o0).2;refine⟨a2,o2,oa2,oc2,K4.o0,(HJ.o1.trans (Way.of _ _ _ _ _ K2.l2)).trans K4.l1,?_,by omega⟩;rw[<-HJ.o2,isyms,K2.o0];simp only[if_pos (show s<256 by omega),hp]
  ·have hse:((s:Int)==256)=true:=by assumption
   have hs:s=256:=by have:=beq_iff_eq.1 hse;omega
   rw[Exit.noGoto_ret];go_ret;have e1:isyms bs most ll dl (k+1) out1 a1 = .ok (out1,a2):=by rw[isyms,K2.o0];simp only[if_neg (show ¬s<256 by omega),if_pos hs]
   exact .inr ⟨out1,a2,oa1,oc1,by rw[<-HJ.o2,e1],rfl,K2.o1,HJ.o1.trans (Way.of _ _ _ _ _ K2.l2)⟩
  ·have hse:((s:Int)==256)=false:=by assumption
   have hs:s≠256:=λhe=>by rw[he]at hse;cases hse
   rw[Exit.noGoto_ret];go_ret;have e1:isyms bs most ll dl (k+1) out1 a1 = .error 3:=by rw[isyms,K2.o0];simp only[if_neg (show ¬s<256 by omega),if_neg hs,if_pos (show 286≤s by omega)]
   exact .inl ⟨3,by rw[<-HJ.o2,e1],by decide,by decide,rfl,HJ.o1.frW (K2.l2.mono (by simp))⟩
  ·have hse:((s:Int)==256)=false:=by assumption
   rw[Exit.noGoto_ret];go_ret;have hs:s≠256:=λhe=>by rw[he]at hse;cases hse
   have e1:isyms bs most ll dl (k+1) out1 a1 = .error c:=by rw[isyms,K2.o0];simp only[if_neg (show ¬s<256 by omega),if_neg hs,if_neg (show ¬286≤s by omega),Km.out]
   exact .inl ⟨c,by rw[<-HJ.o2,e1],hc0,hc1,rfl,(HJ.o1.trans (Way.of _ _ _ _ _ K2.l2)).frW f1⟩
  ·have hse:((s:Int)==256)=false:=by assumption
   go_roundg k;case measure=>omega
   case rel=>
    have hs:s≠256:=λhe=>by rw[he]at hse;cases hse
    have hlt:=(qfm K2.o0).2;have hlt2:=qlf Km.out;refine⟨a4,out2,oa2,oc2,K4.o0,(HJ.o1.trans (Way.of _ _ _ _ _ K2.l2)).trans K4.l1,?_,by omega⟩;rw[<-HJ.o2,isyms,K2.o0];simp only[if_neg (show ¬s<256 by omega),if_neg hs,if_neg (show ¬286≤s by omega),Km.out]
end Go.Proofs.YtbabjlohkniciaaGreatDoor.inf
namespace Go.Proofs.YtbabjlohkniciaaGreatDoor.inf
open Go bm bl huf
theorem qd1 {bs:List UInt8} {a n v a1:Nat} (h:itake bs a n = .ok (v,a1)):a1=a+n:=by
 unfold itake at h;split at h
 ·simp only[qa3,qa1]at h;exact h.2.symm
 ·cases h
theorem qgu {bs:List UInt8} {most:Nat}:∀{n:Nat} {out o:List UInt8} {q a:Nat},ibytes bs most n out q = .ok (o,a)→8*q≤a
 | 0,out,o,q,a,h=>by simp only[ibytes,qa3,qa1]at h;omega
 | n+1,out,o,q,a,h=>by
  rw[ibytes]at h;split at h
  ·split at h
   ·cases h
   ·have:=qgu h;omega
  ·cases h
theorem qt7 {bs:List UInt8} {most a a1:Nat} {out o:List UInt8} (h:istored bs most out a = .ok (o,a1)):a≤a1:=by
 unfold istored at h;split at h
 ·split at h
  ·have:=qgu h;omega
  ·cases h
 ·cases h
theorem qjy {bs:List UInt8} {most:Nat} {ll dl:List Nat}:∀{f:Nat} {out o:List UInt8} {a a1:Nat},isyms bs most ll dl f out a = .ok (o,a1)→a≤a1
 | 0,out,o,a,a1,h=>by simp only[isyms]at h;cases h
 | f+1,out,o,a,a1,h=>by
  rw[isyms]at h;split at h
  ·cases h
  ·rename_i s a2 hs;have h1:=(qfm hs).2;split at h
   ·split at h
    ·cases h
    ·have:=qjy h;omega
   ·split at h
    ·simp only[qa3,qa1]at h;omega
    ·split at h
     ·cases h
     ·split at h
      ·cases h
      ·rename_i o2 a3 hm;have h2:=qlf hm;have:=qjy h;omega
theorem qpc {bs:List UInt8}:∀{ps fs gs:List Nat} {a a1:Nat},ifirst bs ps fs a = .ok (gs,a1)→a≤a1
 | [],fs,gs,a,a1,h=>by simp only[ifirst,qa3,qa1]at h;omega
 | i::t,fs,gs,a,a1,h=>by
  rw[ifirst]at h;split at h
  ·cases h
  ·rename_i v a2 hm;have h1:=qd1 hm;have:=qpc h;omega
theorem qnx {bs:List UInt8} {ls:List Nat} {n:Nat}:∀{f:Nat} {L K:List Nat} {a a1:Nat},ilens bs ls n f L a = .ok (K,a1)→a≤a1
 | 0,L,K,a,a1,h=>by simp only[ilens]at h;cases h
 | f+1,L,K,a,a1,h=>by
  rw[ilens]at h;split at h
  ·simp only[qa3,qa1]at h;omega
  ·split at h
   ·cases h
   ·rename_i s a2 hs;have h1:=(qfm hs).2;split at h
    ·have:=qnx h;omega
    ·split at h
     ·cases h
     ·rename_i v a3 hm;have h2:=qd1 hm;split at h
      ·cases h
      ·have:=qnx h;omega
theorem zcr {bs:List UInt8} {most a a1:Nat} {out o:List UInt8} (h:idyn bs most out a = .ok (o,a1)):a≤a1:=by
 unfold idyn at h;split at h
 ·cases h
 ·rename_i v1 b1 h1;have e1:=qd1 h1;split at h
  ·cases h
  ·split at h
   ·cases h
   ·rename_i v2 b2 h2;have e2:=qd1 h2;split at h
    ·cases h
    ·split at h
     ·cases h
     ·rename_i v3 b3 h3;have e3:=qd1 h3;unfold idyn2 at h;split at h
      ·cases h
      ·rename_i fs b4 h4;have e4:=qpc h4;split at h
       ·cases h
       ·unfold idyn3 at h;split at h
        ·cases h
        ·rename_i ls b5 h5;have e5:=qnx h5;split at h
         ·cases h
         ·split at h
          ·cases h
          ·split at h
           ·cases h
           ·have:=qjy h;omega
theorem qic {bs:List UInt8} {most k a a1:Nat} {out o:List UInt8} (h:iblock bs most k out a = .ok (o,a1)):a≤a1:=by
 unfold iblock at h;split at h
 ·exact qt7 h
 ·split at h
  ·exact qjy h
  ·exact zcr h
end Go.Proofs.YtbabjlohkniciaaGreatDoor.inf
namespace Go.Proofs.YtbabjlohkniciaaGreatDoor.bm
open Go Go.RowKit
theorem qh7 (a:Nat) (ha:a<9223372036854775808):(BitVec.ofInt 64 (a:Int)).toNat=a:=by rw[BitVec.ofInt_natCast,BitVec.toNat_ofNat];exact Nat.mod_eq_of_lt (by omega)
theorem qmn (a b:Nat) (ha:a<9223372036854775808) (hb:b<9223372036854775808):bits .or .i64 (a:Int) (b:Int)=((a ||| b:Nat):Int):=by
 have hx:a ||| b<2^63:=Nat.or_lt_two_pow (by omega) (by omega)
 show IntKind.i64.wrap ((BitVec.ofInt 64 (a:Int) ||| BitVec.ofInt 64 (b:Int)).toNat:Int)=_;rw[BitVec.toNat_or,qh7 a ha,qh7 b hb,qcx];omega
theorem zcv (n v k:Nat) (hk:k≤62) (hv:v<2^k) (hn:n*2^k<9223372036854775808):bits .or .i64 ((n:Int)*((2^k:Nat):Int)) (v:Int)=((n*2^k+v:Nat):Int):=by
 have h1:=qjj k 62 hk;have e62:2^62=4611686018427387904:=by decide
 rw[e62]at h1;rw[<-Int.natCast_mul,qmn _ _ hn (by omega),Nat.or_comm,qmh v n k hv,qcd n,qil]
end Go.Proofs.YtbabjlohkniciaaGreatDoor.bm
