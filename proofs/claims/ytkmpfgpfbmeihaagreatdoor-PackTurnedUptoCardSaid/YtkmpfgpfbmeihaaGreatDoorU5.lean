/-
  Texts of this proof, one behind the other: Put, Read, HuffC, HuffD, HuffM, HuffR, IntsRow, LenDist, MatLaw.
-/
import Derived.Test.YtkmpfgpfbmeihaaGreatDoorU4
import Derived.OwnWalk
import Derived.Laws.OwnMore
import Derived.Lib.AppendZerosOnto
import Derived.Lib.AppendZeros
import Derived.Deep.WholeRow
set_option maxHeartbeats 16000000
set_option maxRecDepth 100000
set_option linter.unusedVariables false
set_option linter.unusedSimpArgs false
namespace Go.Proofs.YtkmpfgpfbmeihaaGreatDoor
namespace bits
open Go Go.RowKit lib bm
theorem aq:ax Tryz.prog 23 5 (.int .u8 0) 1 1:=ax.of Tryz.underlying23 (by kernel_rfl) rfl (by decide)
def Wv (w:World) (p:Nat) (v:Value) (M L:Nat):Prop:=
 w.heap[p]?=some (.cells #[v,.int .u64 (M/2^(8*(L/8)):Nat),.int .i64 (L%8:Nat)] 245 (0,0))/\
  w.ownsRow 0 5 1 v (L/8) ((lj (L/8) M).map bv)/\v.ownBlock≠some p/\M<2^L
def Wr (w:World) (p:Nat) (F:List Nat) (M L:Nat):Prop:=∃v,Wv w p v M L/\F=p::v.ownBlock.toList
theorem que (W:Nat):Value.int .u8 (IntKind.u8.wrap (W:Int))=bv (UInt8.ofNat W):=by unfold bv;rw[IntKind.wrap_u8',AA];exact int_eq (by omega)
theorem zed (q N:Nat):(lj (q+1) N).map bv=(lj q N).map bv++[Value.int .u8 (IntKind.u8.wrap ((N/2^(8*q):Nat):Int))]:=by rw[qua,gB,que];rfl
theorem qz8 (K q:Nat):K-8*q-8=K-8*(q+1):=by omega
theorem zbt (N q:Nat):N/2^(8*q)/2^8=N/2^(8*(q+1)):=by rw[Ma,<-nA,Ah]
theorem zew (p:Nat) (F:List Nat) (M L:Nat) (x:Nat) (n:Int) (w:World) (hW:Wr w p F M L) (hx:x<4294967296) (hL:L<=562949953421312) :
  Calls Tryz.prog 247 #[.pointer (some ⟨p,0,none⟩),.int .u32 x,.int .i64 n] w λe w'=>
   e = .returned (.tuple #[])/\Fr F w w'/\∃F',Wr w' p F' (M+2^L*(x%2^(min n.toNat 32))) (L+min n.toNat 32)/\∀y∈F',y∈F\/w.heap.size<=y:=by
 obtain⟨v,⟨hr,aA,bT,hM⟩,rfl⟩:=hW;have c0:=cell_of hr 0;have c1:=cell_of hr 1;have c2:=cell_of hr 2;simp only[bw,aV,bN]at c0 c1 c2;have f1:=aO hr 1;have f2:=aO hr 2;have Hr:=af hr;clear hr;obtain⟨W,hW⟩:∃W:Nat,W=M/2^(8*(L/8)):=⟨_,rfl⟩;rw[<-hW]at c1;have HW:=af hW;clear hW;go_enter Tryz.func247,Tryz.ntmps247;go_upto_region 0 with fail;obtain⟨m,hm,Bi⟩:∃m:Nat,m=min n.toNat 32/\m<=32:=⟨_,rfl,by omega⟩;have Hm:=af hm;clear hm;go_cut [2] (λn2 wc=>n2 = .int .i64 m/\w=wc);case first=>go_wp2;all_goals (go_meet;exact⟨int_eq (by have:=Hm.out;omega),rfl⟩)
 case rest=>
 obtain⟨rfl,rfl⟩:=hcut;go_upto_region 1 with fail;have hl8:L%8<8:=by omega
 go_cut [] (λwc=>wc.heap[p]?=some (.cells #[v,.int .u64 ((M+2^L*(x%2^m))/2^(8*(L/8)):Nat),.int .i64 (L%8:Nat)] 245 (0,0))/\Fr [p] w wc);case first=>
  go_region;all_goals go_wp2
  go_meet;refine⟨(aX Hr.out _).trans ?_,((Fr.refl _ w).setCell (by simp) _).drew⟩;have e:=zam M L x m hM hx Bi;rw[<-HW.out]at e;rw[e];rfl
 case rest=>
 obtain⟨vM,rR⟩:=hcut;clear c2 f2;have c2:=cell_of vM 2;have f2:=aO vM 2;simp only[bw,aV,bN]at c2;go_upto_region 2 with fail;go_cut [] (λwz=>wz.heap[p]?=some (.cells #[v,.int .u64 ((M+2^L*(x%2^m))/2^(8*(L/8)):Nat),.int .i64 (L%8+m:Nat)] 245 (0,0))/\Fr [p] w wz);case first=>have Hr1:=af vM;clear vM;go_wp2;go_meet;exact⟨(aX Hr1.out _).trans rfl,rR.setCell (by simp) _⟩
 case rest=>
 obtain⟨tk,fk⟩:=hcut;have hN:=zey M L x m hM;have OX:lj (L/8) (M+2^L*(x%2^m))=lj (L/8) M:=by rw[show 2^L=2^(8*(L/8))*2^(L%8) from by rw[<-nA,Nat.div_add_mod],vH,Ug]
 rw[<-OX]at aA;clear OX;have Hm':=af Hm;clear vM c2 f2 Hm Hr c0 c1 f1;obtain⟨N,Lt⟩:=ah (M+2^L*(x%2^m));rw[<-Lt]at tk hN aA;have HN:=af Lt;clear Lt;have hK:L/8*8<=L+m:=by omega
 have wu:=dr (aA) fk (by intro k hk;simp;rintro rfl;exact bT hk);have HM:=af hM;have HR2:=af tk;clear hM tk aA;go_wp2;go_loopg [] 5 (λk wr=>∃(u:Value) (q:Nat),k+q=L/8+5/\L/8<=q/\8*q<=L+m/\
  wr.heap[p]?=some (.cells #[u,.int .u64 (N/2^(8*q):Nat),.int .i64 (L+m-8*q:Nat)] 245 (0,0))/\
  wr.ownsRow 0 5 1 u q ((lj q N).map bv)/\u.ownBlock≠some p/\Fr (p::v.ownBlock.toList) w wr/\(∀y,u.ownBlock=some y->v.ownBlock=some y\/w.heap.size<=y))
 case atStart=>exact⟨v,L/8,by omega,by omega,by omega,by rw[HR2.out,show L+m-8*(L/8)=L%8+m from by omega],wu,bT,fk.mono (by simp),λy hy=>.inl hy⟩
 case round=>
  obtain⟨u,q,hgk,uP,NT,hr,aA,Si,dU,pZ⟩:=hrel;have c0:=cell_of hr 0;have c1:=cell_of hr 1;have c2:=cell_of hr 2;simp only[bw,aV,bN]at c0 c1 c2;have f0:=aO hr 0;have f1:=aO hr 1;have f2:=aO hr 2;have Hr:=af hr;clear hr;by_cases aY:8<=L+m-8*q
  ·obtain⟨W,hW⟩:∃W:Nat,W=N/2^(8*q):=⟨_,rfl⟩;rw[<-hW]at c1;have HW:=af hW;clear hW;have NV:p<wr.heap.size:=lt_of_block Hr.out;have ea:p≠wr.heap.size:=Nat.ne_of_lt NV;go_upto_region 5 with fail;go_cut [] (λwz=>∃u',wz.heap[p]?=some (.cells #[u',.int .u64 (N/2^(8*q):Nat),.int .i64 (L+m-8*q:Nat)] 245 (0,0))/\
      wz.ownsRow 0 5 1 u' (q+1) ((lj (q+1) N).map bv)/\u'.ownBlock≠some p/\Fr (p::v.ownBlock.toList) w wz/\(∀y,u'.ownBlock=some y->v.ownBlock=some y\/w.heap.size<=y))
   case first=>
    go_region_law (refine step_append aq rfl (.tmp 51) (.tmp 57) rfl u q ((lj q N).map bv) _ (by rfl) (by rfl) (by first|exact aA.alloc _|exact aA.drew.alloc _) _ 1 1 _ (by rfl) (by decide) (by simp) (by exact ny _ _ _ _ (bx _ _)) (by rfl) (by simp[Value.oneCell']) (by omega) (by unfold maxLen;omega) ?_;intro lq fX w1 A1;have fx:=A1.fr.ae (pJ _ Hr.out) (by simpa using Si);have g0:=cell_of fx 0;have g1:=aO fx 0;simp only[bw,aV]at g0);all_goals go_wp2
    all_goals go_meet
    all_goals
     have cF:=dU.size
     have eD:=A1.at_
     simp only[World.size_drew,eZ]at eD
     have bR:(Value.slice lq (q+1) fX).ownBlock≠some p:=by
      intro h
      rcases eD p (by rw[<-dw lq (q+1) fX,h];simp) with h|h
      ·exact Si (by simpa using h)
      ·omega
     refine⟨_,(aX fx _).trans rfl,?_,bR,?_,?_⟩
     ·rw[zed,<-HW.out]
      exact ownsRow_setCell_other A1.own bR _
     ·refine Fr.setCell (((dU.alloc _).drew).step A1.fr ?_) (by simp) _
      intro k hk
      rcases pZ k (by simpa using hk) with h|h
      ·left;simp[h]
      ·right;exact h
     ·intro y hy
      rcases eD y (by rw[<-dw lq (q+1) fX,hy];simp) with h|h
      ·exact pZ y (by simpa using h)
      ·right;omega
   case rest=>
   obtain⟨u',eX,Wp,Iv,fr',ob'⟩:=hcut;clear c0 c1 c2 f0 f1 f2 aA Si dU pZ ea NV;have c1:=cell_of eX 1;have c2:=cell_of eX 2;simp only[bw,aV,bN]at c1 c2;have f1:=aO eX 1;have f2:=aO eX 2;have LF:=af eX;clear eX;rw[<-HW.out]at c1;go_wp2;go_roundg (gk-1);case measure=>omega
   case rel=>
    refine⟨u',q+1,by omega,by omega,by omega,(aX (aX LF.out _) _).trans ?_,ownsRow_setCell_other (ownsRow_setCell_other Wp Iv _) Iv _,Iv,Fr.setCell (fr'.setCell (by simp) _) (by simp) _,ob'⟩;rw[<-zbt,<-HW.out,<-qz8];have e1:((W:Int)/256)=((W/2^8:Nat):Int):=by omega
    have e2:((L+m-8*q:Nat):Int)-8=((L+m-8*q-8:Nat):Int):=by omega
    rw[e1,e2];rfl
  ·obtain rfl:q=(L+m)/8:=by omega
   have Ho:=af aA;clear aA;go_wp2;go_end0;refine⟨rfl,dU,p::u.ownBlock.toList,?_,?_⟩
   ·rw[<-Hm'.out.out,<-HN.out];refine⟨u,⟨?_,Ho.out,Si,hN⟩,rfl⟩;rw[Hr.out,show L+m-8*((L+m)/8)=(L+m)%8 from by omega]
   ·intro y hy;rcases gw.1 hy with rfl|hy
    ·simp
    ·rcases pZ y (by simpa using hy) with h|h
     ·left;simp[h]
     ·right;exact h
theorem jQ (bs:List UInt8):∀u∈bs.map bv,u.oneCell'=true:=by intro u hu;obtain⟨b,_,rfl⟩:=jR.1 hu;rfl
theorem qzy (p:Nat) (F:List Nat) (bs:List UInt8) (at_:Nat) (w:World) (hR:Rd w p F bs at_) :
  Calls Tryz.prog 136 #[.pointer (some ⟨p,0,none⟩)] w λe w'=>e = .returned (.int .i64 ((at_+7)/8:Nat))/\w=w':=by
 obtain⟨ao,cap,hr,hcs,rfl,bT,hlen,eD,cP,dv⟩:=hR;have c1:=cell_of hr 1;simp only[bw,aV,bN]at c1;clear hr;go_enter Tryz.func136,Tryz.ntmps136;go_wp2;go_ret;exact⟨ZZ (int_eq (by omega)),rfl⟩
theorem zf1 {T:TypeId} {w w':World} {p:Nat} {F:List Nat} {bs:List UInt8} {a a':Nat} (h:Qf T w p F bs a) (hf:Fr [p] w w')
  (hh:∀ao cap,w.heap[p]?=some (.cells #[.slice ao bs.length cap,.int .i64 a] T (0,0))->w'.heap[p]?=some (.cells #[.slice ao bs.length cap,.int .i64 a'] T (0,0))) (ha:a'<=8*bs.length):Qf T w' p F bs a':=by
 obtain⟨ao,cap,hr,hcs,rfl,bT,hlen,eD,cP,dv⟩:=h;exact⟨ao,cap,hh ao cap hr,hcs.fr hf (by intro x hx;simp;rintro rfl;exact bT hx),rfl,bT,hlen,ha,cP,dv⟩
theorem G3 {T:TypeId} {w w':World} {p:Nat} {F S:List Nat} {bs:List UInt8} {a:Nat} (h:Qf T w p F bs a) (hf:Fr S w w') (hn:∀x∈F,x∉S):Qf T w' p F bs a:=by obtain⟨ao,cap,hr,hcs,rfl,bT,hlen,eD,cP,dv⟩:=h;exact⟨ao,cap,hf.ae hr (hn p (by simp)),hcs.fr hf (by intro x hx;exact hn x (by simp[hx])),rfl,bT,hlen,eD,cP,dv⟩
theorem qrg (p:Nat) (F:List Nat) (bs:List UInt8) (at_:Nat) (w:World) (hR:Rd w p F bs at_) :
  Calls Tryz.prog 204 #[.pointer (some ⟨p,0,none⟩)] w λe w'=>e = .returned (.tuple #[])/\Rd w' p F bs ((at_+7)/8*8)/\Fr [p] w w':=by
 have hR':=af hR;obtain⟨ao,cap,hr,hcs,rfl,bT,hlen,eD,cP,dv⟩:=hR;have c1:=cell_of hr 1;have f1:=aO hr 1;simp only[bw,aV,bN]at c1;clear hr;go_enter Tryz.func204,Tryz.ntmps204;go_wp2;go_end0;refine⟨rfl,zf1 hR'.out ((Fr.refl _ w).setCell (by simp) _) (λao cap h=>(aX h _).trans ?_) (by omega),(Fr.refl _ w).setCell (by simp) _⟩;have e:((at_:Int)+7)/8*8=((at_+7)/8*8:Nat):=by omega
 rw[e];rfl
theorem qth (ao:Option Addr) (cap:Nat) (bs:List UInt8) (w:World) (hcs:Cs w ao (bs.map bv)) (cP:bs.length<=cap) (bY:ao=none->cap=0) (hlen:bs.length<=140737488351232) :
  Calls Tryz.prog 133 #[.slice ao bs.length cap] w λe w'=>∃p F,e = .returned (.pointer (some ⟨p,0,none⟩))/\Rd w' p F bs 0/\Fr [] w w'/\∀x∈F,w.heap.size<=x/\x<w'.heap.size:=by
 go_enter Tryz.func133,Tryz.ntmps133;go_wp2_with (refine iq aq rfl _ _ rfl (.slice none 0 0) 0 [] [] rfl rfl (v8 _ _ _ _) _ _ _ (bs.map bv) rfl cP bY hcs (by simp) (jQ bs) (by omega) (by unfold maxLen;omega) ?_;intro lq fX w1 A1;simp only[fM,vI]at A1);go_ret;have hb:∀x∈ae lq,x=w.heap.size/\x<w1.heap.size:=λx hx=>⟨by simpa using A1.at_ x hx,A1.lt x hx⟩
 have Jd:Cs (w1.alloc (.cells #[.slice lq bs.length fX,.int .i64 0] 264)) lq (bs.map bv):=(Cx A1.own).Cc (qni ((Fr.refl _ _).alloc _));refine⟨w1.heap.size,_,rfl,⟨lq,fX,bx _ _,Jd,rfl,λh=>?_,hlen,by omega,A1.le,A1.max,A1.nil⟩,A1.fr.alloc _,λx hx=>?_⟩
 ·have:=(hb _ h).2;omega
 ·rw[eZ];rcases gw.1 hx with rfl|hx
  ·exact⟨A1.fr.size,by omega⟩
  ·have:=hb _ hx;omega
theorem Rk (ao:Option Addr) (cap:Nat) (bs:List UInt8) (w:World) (hcs:Cs w ao (bs.map bv)) (cP:bs.length<=cap) (bY:ao=none->cap=0) (hlen:bs.length<=140737488351232) :
  Calls Tryz.prog 133 #[.slice ao bs.length cap] w λe w'=>∃p F,e = .returned (.pointer (some ⟨p,0,none⟩))/\Rd w' p F bs 0/\Fr [] w w'/\∀x∈F,w.heap.size<=x:=
 (qth ao cap bs w hcs cP bY hlen).mono λ_ _ ⟨p,F,h1,h2,h3,h4⟩=>⟨p,F,h1,h2,h3,λx hx=>(h4 x hx).1⟩
def kY (p:Nat) (F:List Nat) (bs:List UInt8) (at_ n:Nat) (w:World) (e:Ending) (w':World):Prop:=
 ∃lr,e = .returned (.tuple #[.slice lr n n,.bool true])/\jx w' w.heap.size 5 lr (((bs.drop ((at_+7)/8)).take n).map bv)/\(lr=none->n=0)/\
    (∀x∈ae lr,w.heap.size<=x)/\Rd w' p F bs ((at_+7)/8*8+8*n)/\Fr [p] w w'
theorem qoe (p:Nat) (F:List Nat) (bs:List UInt8) (at_:Nat) (n:Int) (w:World) (hR:Rd w p F bs at_) (qg:0<=n) (hn:n<=bs.length-((at_+7)/8:Nat)) :
  Calls Tryz.prog 185 #[.pointer (some ⟨p,0,none⟩),.int .i64 n] w (kY p F bs at_ n.toNat w):=by
 obtain⟨n,rfl⟩:=FF qg;have h1:decide ((n:Int)<0)=false:=by simp
 go_enter Tryz.func185,Tryz.ntmps185;go_upto_region 1 with fail;go_cut [] (λw1=>Rd w1 p F bs ((at_+7)/8*8)/\Fr [p] w w1);case first=>go_wp2_with (go_at_call 204;refine (qrg p F bs at_ _ hR).mono ?_;rintro e w' ⟨rfl,oT,rR⟩);go_meet;exact⟨oT,rR⟩
 case rest=>
 obtain⟨oT,rR⟩:=hcut;clear hR;have HR1:=af oT;obtain⟨ao,cap,hr,hcs,rfl,bT,hlen,eD,cP,dv⟩:=oT;have c0:=cell_of hr 0;have c1:=cell_of hr 1;have f1:=aO hr 1;simp only[bw,aV,bN]at c0 c1;have Hr:=af hr;clear hr;have h2:decide ((bs.length:Int)-(at_+7)/8<(n:Int))=false:=by simp;omega
 generalize hA:(at_+7)/8=A at *;go_upto_region 2 with fail;go_cut [25] (λs25 w2=>s25 = .bool false/\Rd w2 p (p::ae ao) bs (A*8)/\Fr [p] w w2);case first=>go_quiet (fail);go_wp2;go_meet;exact⟨by simpa using hn,⟨ao,cap,Hr.out,hcs,rfl,bT,hlen,eD,cP,dv⟩,rR.nQ _⟩
 case rest=>
 obtain⟨rfl,kM,fk⟩:=hcut;clear c0 c1 f1 Hr hcs rR HR1 eD;obtain⟨ao,cap,hr,hcs,hF,bT,hlen,eD,cP,dv⟩:=kM;have c0:=cell_of hr 0;have c1:=cell_of hr 1;have f1:=aO hr 1;simp only[bw,aV,bN]at c0 c1;have Hr:=af hr;clear hr;go_wp2;refine uw 17 (by kernel_rfl) (by kernel_rfl) ?_;simp only[uj];repeat (go_big_quiet_step (fail))
 refine wpQuiet_nil ?_;have hcut:=hcs.cut cap A (A+n) (by omega) (by simp;omega) (by simpa using cP);go_wp2_with (refine iq aq rfl _ _ rfl (.slice none 0 0) 0 [] [] rfl rfl (v8 _ _ _ _) (cutAt ao cap A) (A+n-A) (cap-A) _ rfl (by omega) (λh=>by have:=dv.2 (qvg h);omega) hcut (by simp;omega) (by rw[<-G1,<-E7];exact jQ _) (by omega) (by unfold maxLen;omega) ?_;intro lq fX w1 A1;simp only[fM,vI]at A1;have nM:n<=fX:=(by have:=A1.le;omega);have fx:=A1.fr.ae (w:=wc.drew) Hr.out (by simp);have d1:=cell_of fx 1;have g1:=aO fx 1;simp only[bw,aV,bN]at d1);all_goals
  go_ret2
  have e0:A+n-A=n:=by omega
  rw[e0,<-G1,<-E7]at A1
  have bR:p∉ae lq:=λh=>by
   have h1:=A1.at_ p h
   have h2:=lt_of_block Hr.out
   simp at h1
   omega
  have cF:=fk.size
  have fr3:Fr [] wc w1:=(Fr.av [] wc).trans A1.fr
  have fr4:Fr [p] w (w1.setCell ⟨p,1,none⟩ (.int .i64 (A*8+8*n))):=(fk.trans (fr3.mono (by simp))).setCell (by simp) _
  have aA:=ownsRow_setCell_other (a:=⟨p,1,none⟩) A1.own (λh=>bR (by rw[<-dw lq n fX,h];simp)) (.int .i64 (A*8+8*n))
  unfold kY
  rw[hA]
  have uZ:∀x∈ae lq,w.heap.size<=x:=λx hx=>by
   have:=A1.at_ x hx
   simp at this
   omega
  refine⟨lq,rfl,Wf aA uZ,λh=>?_,uZ,⟨ao,cap,(aX fx _).trans ?_,(hcs.fr fr3 (by simp)).fr ((Fr.refl [p] w1).setCell (by simp) _) (by intro x hx;simp;rintro rfl;exact bT hx),(by first|exact hF|rfl),bT,hlen,by omega,cP,dv⟩,fr4⟩
  ·have:=A1.nil h
   omega
  ·have e:((A:Int)*8+8*(n:Int))=((A*8+8*n:Nat):Int):=by omega
   rw[e]
   rfl
theorem qrc (p:Nat) (F:List Nat) (bs:List UInt8) (at_:Nat) (n:Int) (w:World) (hR:Rd w p F bs at_) (hn:n<0\/bs.length-((at_+7)/8:Nat)<n) :
  Calls Tryz.prog 185 #[.pointer (some ⟨p,0,none⟩),.int .i64 n] w λe w'=>
   e = .returned (.tuple #[.slice none 0 0,.bool false])/\Rd w' p F bs ((at_+7)/8*8)/\Fr [p] w w':=by
 go_enter Tryz.func185,Tryz.ntmps185;go_upto_region 1 with fail;go_cut [] (λw1=>Rd w1 p F bs ((at_+7)/8*8)/\Fr [p] w w1);case first=>go_wp2_with (go_at_call 204;refine (qrg p F bs at_ _ hR).mono ?_;rintro e w' ⟨rfl,oT,rR⟩);go_meet;exact⟨oT,rR⟩
 case rest=>
 obtain⟨oT,rR⟩:=hcut;clear hR;obtain⟨ao,cap,hr,hcs,rfl,bT,hlen,eD,cP,dv⟩:=oT;have c0:=cell_of hr 0;have c1:=cell_of hr 1;simp only[bw,aV,bN]at c0 c1;have Hr:=af hr;clear hr;have done:∀m,Rd (wc.drewN m) p (p::ae ao) bs ((at_+7)/8*8):=λm=>⟨ao,cap,Hr.out,hcs,rfl,bT,hlen,eD,cP,dv⟩
 have Hd:=af done;clear done;by_cases a1:n<0
 ·have h1:decide (n<0)=true:=by simp;omega
  go_upto_region 2 with fail;go_quiet (fail);go_wp2;go_ret2;exact⟨rfl,Hd.out _,rR.nQ _⟩
 ·have h1:decide (n<0)=false:=by simp;omega
  have h2:decide ((bs.length:Int)-(at_+7)/8<n)=true:=by simp;omega
  go_upto_region 2 with fail;go_quiet (fail);go_wp2;go_ret2;exact⟨rfl,Hd.out _,rR.nQ _⟩
end bits
namespace huf
open Go Go.RowKit lib bm bl
theorem Z3 (p:Nat) (F:List Nat) (bs:List UInt8) (at_ n:Nat) (w:World) (h:bits.Rd w p F bs at_) (hn:n<=32) (hl:at_+n<=8*bs.length) :
  Calls Tryz.prog 165 #[.pointer (some ⟨p,0,none⟩),.int .i64 n] w λe w'=>e = .returned (.tuple #[.int .u32 (cW (((aC bs).drop at_).take n):Nat),.bool true])/\bits.Rd w' p F bs (at_+n)/\Fr [p] w w':=by
 have h1:=bits.Cv p F bs at_ n w h (by omega) (by omega) (by omega);rw[Cy,zay bs at_ n hl]at h1;exact h1
structure Ri (w:World) (a:Option Addr) (cap:Nat) (xs:List Nat):Prop where
 cs:Cs w a (xs.map λx=>.int .i64 (x:Nat))
 le:xs.length<=cap
 max:cap<=maxLen
 nil:a=none->cap=0
theorem Ri.fr {w w':World} {a:Option Addr} {cap:Nat} {xs:List Nat} (h:Ri w a cap xs) (f:Fr [] w w'):Ri w' a cap xs:=⟨h.cs.fr f (by simp),h.le,h.max,h.nil⟩
theorem Ri.at {w:World} {a:Option Addr} {cap:Nat} {xs:List Nat} (h:Ri w a cap xs) {i:Nat} (hi:i<xs.length):∃g o,a=some ⟨g,o,none⟩/\w.cell? ⟨g,o+i,none⟩=some (.int .i64 (xs[i]:Nat)):=by obtain⟨g,o,rfl,hc⟩:=h.cs.at (by simp;omega);exact⟨g,o,rfl,hc i _ (by simp[hi])⟩
theorem qjh:∀a b:List Nat,weight (a++b)=weight a+weight b
 | [],b=>by simp[weight]
 | x::a,b=>by rw[G7,weight,weight,qjh a b];omega
theorem Vw:∀l:List Nat,weight l<=16384*l.length
 | []=>dZ _
 | x::l=>by
  have:=Vw l;have h:(if x=0 then 0 else 2^(15-x))<=16384:=by
   split
   ·omega
   ·exact bS (kr (by decide) (show 15-x<=14 by omega)) (by decide)
  rw[weight,cQ];omega
theorem U8 (a:Option Addr) (cap:Nat) (ls:List Nat) (w:World) (h:Ri w a cap ls) (hle:∀l∈ls,l<=15) (hlen:ls.length<=100000) :
  Calls Tryz.prog 217 #[.slice a ls.length cap] w λe w'=>e = .returned (.tuple #[.int .i64 (weight ls:Nat),.bool true])/\w=w':=by
 obtain⟨L,hL⟩:=ah ls.length;rw[<-hL]at hlen ⊢;have H:=au h hle hL;clear h hle hL;go_enter Tryz.func217,Tryz.ntmps217;go_upto_block 0 with fail;go_wp2;go_loopg [4,6,9] L (λk s4 s6 s9 wr=>∃i:Nat,s9 = .int .i64 (i:Nat)/\s4 = .int .i64 (weight (ls.take i):Nat)/\i+k=L/\w=wr);case atStart=>exact⟨0,rfl,rfl,by omega,rfl⟩
 case round=>
  obtain⟨i,rfl,rfl,bU,rfl⟩:=hrel;by_cases hi:i<L
  ·obtain⟨k,rfl⟩:∃k,gk=k+1:=⟨gk-1,by omega⟩;have eC:i<ls.length:=by rw[<-H.out.2.2];exact hi
   obtain⟨g,o,rfl,hc⟩:=H.out.1.at eC;have sN:=H.out.2.1 _ (vJ eC);have hw:=qjh (ls.take i) [ls[i]];rw[<-DJ eC]at hw;have y7:=Vw (ls.take i);rw[eJ]at y7;generalize ls[i]=x at *;generalize hW:weight (ls.take i)=W at *;generalize CZ:weight (ls.take (i+1))=W2 at *;have hWb:W<=1638400000:=by omega
   by_cases h0:x=0
   ·subst h0;have e:W2=W:=by rw[hw];simp[weight]
    have HE:=ak e CZ;clear e hw y7 hW CZ;go_wp2;go_roundg k;case measure=>omega
    case rel=>exact⟨i+1,by go_num,by rw[HE.l1,HE.o0],by omega,rfl⟩
   ·have hx:1<=x:=by omega
    obtain⟨y,hy⟩:=ah (15-x);have e1:(15:Int)-(x:Int)=(y:Int):=by omega
    have hp:2^y<=16384:=bS (kr (by decide) (show y<=14 by omega)) (by decide);have e:W2=W+2^y:=by rw[hw,hy];simp[weight,h0]
    obtain⟨z,hz⟩:=ah (2^y);rw[<-hz]at hp e;have e2:(2:Int)^y=(z:Int):=by rw[hz];exact yJ y
    have HE:=ak e CZ;have zaK:y<=14:=by omega
    clear e hw y7 hW CZ hz hy;go_wp2;go_roundg k;case measure=>omega
    case rel=>exact⟨i+1,by go_num,by rw[HE.l1,HE.o0];first|go_num|rfl,by omega,rfl⟩
  ·obtain rfl:i=L:=by omega
   have hW:weight (ls.take i)=weight ls:=by rw[oI (by rw[<-H.out.2.2];exact aw _)]
   have HW:=af hW;clear hW;go_wp2;go_ret2;exact⟨by rw[<-HW.out];rfl,rfl⟩
theorem qq6 (a:Option Addr) (cap:Nat) (ls:List Nat) (w:World) (h:Ri w a cap ls) (hle:∀l∈ls,l<=15) (hlen:ls.length<=100000) :
  Calls Tryz.prog 208 #[.slice a ls.length cap] w λe w'=>e = .returned (.bool (decide (weight ls=32768)))/\w=w':=by
 have hc:=af (U8 a cap ls w h hle hlen);clear h hle;go_enter Tryz.func208,Tryz.ntmps208;go_wp2_with (go_at_call 217;refine hc.out.mono ?_;rintro e w' ⟨rfl,rfl⟩);go_ret;refine⟨ZZ (zej ?_),rfl⟩;first
  | (rw[Bool.eq_iff_iff];simp;omega)
  | simp
theorem qp5 (ls:List Nat) (hle:∀l∈ls,l<=15) (hw:weight ls<=32768) (l:Nat) (hl:l<=15):iF ls l<=32768:=by have h1:=Vc ls l hl;have h2:=qtg ls (show l<=16 by omega);rw[Wa ls hle]at h2;have h3:iF ls l*1<=iF ls l*2^(15-l):=LW _ (oZ _);omega
def cw (ls:List Nat) (l i j:Nat):Nat:=if ai ls j≠0/\(ai ls j<l\/(ai ls j=l/\j<i)) then code ls j else 0
def df (ls:List Nat) (j:Nat):Nat:=if ai ls j=0 then 0 else code ls j
def cV (ls:List Nat):List Nat:=(List.range ls.length).map (df ls)
theorem qyt {ls:List Nat} {l i j:Nat} (h:j≠i\/ai ls i≠l):cw ls l (i+1) j=cw ls l i j:=by
 unfold cw;congr 1;rw[eq_iff_iff];constructor
 ·rintro⟨h1,h2|⟨h2,h3⟩⟩
  ·exact⟨h1,.inl h2⟩
  ·refine⟨h1,.inr ⟨h2,?_⟩⟩;rcases og j i with k|k
   ·exact k
   ·obtain rfl:j=i:=by omega
    rcases h with h|h
    ·exact absurd rfl h
    ·exact absurd h2 h
 ·rintro⟨h1,h2|⟨h2,h3⟩⟩
  ·exact⟨h1,.inl h2⟩
  ·exact⟨h1,.inr ⟨h2,by omega⟩⟩
theorem zfl {ls:List Nat} {l i:Nat} (h0:l≠0) (h:ai ls i=l):cw ls l (i+1) i=iF ls l+(ls.take i).count l:=by unfold cw;rw[if_pos ⟨by omega,.inr ⟨h,by omega⟩⟩,code,h]
theorem zee {ls:List Nat} {l j:Nat} (h0:l≠0) (hj:j<ls.length):cw ls l ls.length j=cw ls (l+1) 0 j:=by
 unfold cw;congr 1;rw[eq_iff_iff];constructor
 ·rintro⟨h1,h2|⟨h2,h3⟩⟩
  ·exact⟨h1,.inl (by omega)⟩
  ·exact⟨h1,.inl (by omega)⟩
 ·rintro⟨h1,h2|⟨h2,h3⟩⟩
  ·rcases og (ai ls j) l with k|k
   ·exact⟨h1,.inl k⟩
   ·exact⟨h1,.inr ⟨by omega,hj⟩⟩
  ·omega
theorem zfm {ls:List Nat} {j:Nat} (hle:ai ls j<=15):cw ls 16 0 j=df ls j:=by
 unfold cw df;by_cases h:ai ls j=0
 ·rw[if_pos h,if_neg (λhc=>hc.1 h)]
 ·rw[if_neg h,if_pos ⟨h,.inl (by omega)⟩]
theorem zbx (ls:List Nat) (j:Nat):cw ls 1 0 j=0:=by unfold cw;rw[if_neg];rintro⟨h1,h2|⟨h2,h3⟩⟩<;>omega
theorem GR:ax Tryz.prog 147 32 (.int .u32 0) 1 4:=ax.of Tryz.underlying147 (by kernel_rfl) rfl (by decide)
def Cw (w:World) (ls:List Nat) (Q l i:Nat):Prop:=∃A,w.heap[Q]?=some (.cells A 32 (0,0))/\A.size=ls.length/\∀j,j<ls.length->A[j]?=some (.int .u32 (cw ls l i j:Nat))
theorem zef {w:World} {ls:List Nat} {Q:Nat} (h:w.ownsRow 0 32 1 (.slice (some ⟨Q,0,none⟩) ls.length ls.length) ls.length (madeCells (Value.int .u32 0).cells (ls.length*1)).toList):Cw w ls Q 1 0:=by
 obtain⟨o1,o2⟩:=h;rcases o2 with⟨o2,_⟩|⟨g,c',cur,o2,_,hg,_,_,cF,ht⟩
 ·cases o2
 ·simp only[lN,eS,qU,and_true,true_and]at o2;obtain⟨rfl,rfl⟩:=o2;refine⟨cur,hg,by omega,λj hj=>?_⟩;rw[zbx];have hj':j<cur.toList.length:=by simp;omega
  have h1:cur.toList[j]?=(madeCells (Value.int .u32 0).cells (ls.length*1)).toList[j]?:=by rw[<-ht,oY,if_pos (by omega)]
  rw[<-qW,h1,show (Value.int .u32 0).cells=#[.int .u32 0] from rfl,toList_madeCells_one,List.getElem?_replicate,if_pos (by omega)];rfl
def gT (w:World) (ls:List Nat) (e:Ending) (w':World):Prop:=
 ∃g,e = .returned (.tuple #[.slice (some ⟨g,0,none⟩) ls.length ls.length,.int .i64 0])/\Cs w' (some ⟨g,0,none⟩) ((cV ls).map λx=>.int .u32 (x:Nat))/\w.heap.size<=g/\g<w'.heap.size/\Fr [] w w'
theorem Rr (a:Option Addr) (cap:Nat) (ls:List Nat) (w:World) (h:Ri w a cap ls) (hle:∀l∈ls,l<=15) (hlen:ls.length<=400) (hw:weight ls<=32768) :
  Calls Tryz.prog 205 #[.slice a ls.length cap] w (gT w ls):=by
 obtain⟨L,hL⟩:=ah ls.length;have hc:=U8 a cap ls w h hle (by omega);rw[<-hL]at hlen hc ⊢;obtain⟨W,hW⟩:=ah (weight ls);rw[<-hW]at hc hw;have H:=aP h hle hL hc hW;obtain⟨hu,⟨ti,iK,vL,fZ,sJ⟩,tY,hp⟩:=GR;clear h hle hL hc hW;have d1:decide ((400:Int)<L)=false:=by simp;omega
 have d2:decide ((32768:Int)<W)=false:=by simp;omega
 go_enter Tryz.func205,Tryz.ntmps205;go_upto_block 1 with (first|(go_at_call 217;refine H.out.2.2.2.1.mono ?_;rintro e w' ⟨rfl,rfl⟩)|(refine wpList_make_full _ rfl _ _ 147 rfl 0 32 ti (.int .u32 0) 1 hu iK vL fZ .i64 .i64 (L:Nat) (L:Nat) L rfl rfl rfl rfl (by rw[sJ];omega) (by unfold maxLen;omega) (by omega) ?_;intro w3 kB iM;have H3:=ak kB iM;clear kB iM));obtain⟨Q,hQ⟩:=ah w.heap.size;rw[<-hQ]at H3 ⊢;have az:Cw w3 ls Q 1 0:=zef (by rw[<-H.out.2.2.1];exact H3.o0);have f3:Fr [] w w3:=(Fr.refl [] w).grown H3.l1 (λk hk=>by cases hk);have HS:=au az f3 hQ;clear az f3 hQ H3 hu iK vL fZ sJ tY hp d1 d2;go_wp2;go_loopg [7,8,9,10,38] 15 (λk s7 s8 s9 s10 s38 wr=>∃l nx:Nat,s8 = .int .i64 (l:Nat)/\s7 = .int .u32 (nx:Nat)/\l+k=16/\1<=l/\2*nx=iF ls l/\Cw wr ls Q l 0/\Fr [] w wr);case atStart=>exact⟨1,0,rfl,rfl,rfl,aw _,rfl,HS.o0,HS.o1⟩
 case round=>
  obtain⟨l,nx,rfl,rfl,zg,ku,CT,Bw,hf⟩:=hrel;by_cases hl:l<=15
  ·obtain⟨k,rfl⟩:∃k,gk=k+1:=⟨gk-1,by omega⟩;have hb:=qp5 ls H.out.2.1 (by rw[<-H.out.2.2.2.2];exact hw) l hl;obtain⟨wo,rfl⟩:∃wo:World,wo=wr:=⟨_,rfl⟩;obtain⟨n2,iJ⟩:=ah (iF ls l);rw[<-iJ]at CT hb;have HX:=aP Bw hf iJ CT zg;have zaU:nx<=16384:=by omega
   have e2:(nx:Int)*2=(n2:Int):=by omega
   clear Bw hf iJ CT zg;go_upto_block 3 with fail;clear e2;go_wp2;go_loopg [7,9,10,38] L (λk s7 s9 s10 s38 wr=>∃i y:Nat,s38 = .int .i64 (i:Nat)/\s7 = .int .u32 (y:Nat)/\i+k=L/\y=n2+(ls.take i).count l/\Cw wr ls Q l i/\Fr [] w wr);case atStart=>exact⟨0,n2,rfl,rfl,by omega,by simp,HX.o0,HX.o1⟩
   case round=>
    obtain⟨i,y,rfl,rfl,bU,hy,Bw,hf⟩:=hrel;have fH:=LX (a:=l) (l:=ls.take i);rw[eJ]at fH;have KT:y<=40000:=by omega
    by_cases hi:i<L
    ·obtain⟨k2,rfl⟩:∃k2,gk=k2+1:=⟨gk-1,by omega⟩;have eC:i<ls.length:=by rw[<-H.out.2.2.1];exact hi
     obtain⟨g,o,rfl,hc⟩:=(H.out.1.fr hf).at eC;have fh:ai ls i=ls[i]:=by unfold ai;rw[bO eC];rfl
     have Gl:=R0 ls i l eC;rw[fh]at Gl;obtain⟨A,hA,cG,cM⟩:=Bw;have zA:=aO hA i;obtain⟨x0,gM⟩:∃x,wr.cell? ⟨Q,i,none⟩=some x:=⟨_,by rw[cell_of hA];exact cM i eC⟩;have f2:Fr [Q] wr (wr.setCell ⟨Q,i,none⟩ (.int .u32 y)):=(Fr.refl [Q] wr).setCell (by simp) _;obtain⟨v,hv⟩:=ah (ls[i]);rw[<-hv]at hc fh Gl;have HI:=cz (And.intro fh Gl) (And.intro hA (And.intro cG cM)) hf hy bU f2 hv;clear fh Gl hA cG cM hf hy bU f2 hv fH;by_cases hvl:v=l
     ·have d1:((v:Int)==(l:Int))=true:=by simp;omega
      go_wp2;go_roundg k2;case measure=>have:=HI.out.2.2.2.2.1;omega
      case rel=>
       obtain⟨⟨fh,Gl⟩,⟨hA,cG,cM⟩,hf,hy,bU,f2,_⟩:=HI.out;rw[if_pos hvl]at Gl;refine⟨i+1,y+1,by go_num,by go_num,by omega,by omega,⟨_,aX hA _,by simp[cG],λj hj=>?_⟩,hf.step f2 (λz hz=>.inr (by simp at hz;rw[hz,HS.l2];exact aw _))⟩;by_cases e:j=i
       ·subst e;rw[iu (by omega),zfl (by omega) (by rw[fh,hvl]),hy,HX.o2]
       ·rw[aZ (by omega),qyt (.inl e)];exact cM j hj
     ·have d1:((v:Int)==(l:Int))=false:=by simp;omega
      go_wp2;go_roundg k2;case measure=>have:=HI.out.2.2.2.2.1;omega
      case rel=>obtain⟨⟨fh,Gl⟩,⟨hA,cG,cM⟩,hf,hy,bU,f2,_⟩:=HI.out;rw[if_neg hvl]at Gl;exact⟨i+1,y,by go_num,by go_num,by omega,by omega,⟨A,hA,cG,λj hj=>by rw[qyt (.inr (by rw[fh];exact hvl))];exact cM j hj⟩,hf⟩
    ·obtain rfl:i=L:=by omega
     have ht:ls.take i=ls:=oI (by rw[<-H.out.2.2.1];exact aw _);rw[ht]at hy;have HI:=au Bw hf hy;clear Bw hf hy fH ht bU;go_wp2;go_roundg k;case measure=>have:=HX.l4;omega
     case rel=>
      have zg:=HX.l4;obtain⟨⟨A,hA,cG,cM⟩,hf,hy⟩:=HI.out;refine⟨l+1,y,by go_num,rfl,by omega,by omega,?_,⟨A,hA,cG,λj hj=>?_⟩,hf⟩
      ·rw[iF,if_neg (by omega),<-HX.o2,hy]
      ·rw[<-zee (by omega) hj,<-H.out.2.2.1];exact cM j hj
  ·obtain rfl:l=16:=by omega
   obtain⟨A,hA,cG,cM⟩:=Bw;have HI:=aF hA cG cM hf;clear hA cG cM hf CT zg;go_wp2;go_ret2;obtain⟨hA,cG,cM,hf⟩:=HI.out;unfold gT;rw[<-H.out.2.2.1];refine⟨Q,rfl,.inr ⟨Q,0,rfl,λj v hv=>?_⟩,by rw[HS.l2];exact aw _,lt_of_block hA,hf⟩;have hj:j<ls.length:=by have:=(lA.1 hv).1;simpa[cV] using this
   rw[fM,cell_of hA,cM j hj,zfm (H.out.2.1 _ (KE hj))];rw[<-hv];simp[cV,hj]
open bits
def j4 (ls:List Nat) (l:Nat):Nat:=if l=0 then 0 else (syms ls l ls.length).length
structure zB (w:World) (P D:Nat) (ls:List Nat) (first:Nat->Nat) (sa:Nat->Option Addr) (sc:Nat->Nat):Prop where
 box:∃A,w.heap[P]?=some (.cells A 309 (0,0))/\A.size=33/\(∀l,l<16->A[l]?=some (.int .u32 (first l:Nat)))/\(∀l,l<16->A[16+l]?=some (.slice (sa l) (j4 ls l) (sc l)))/\A[32]?=some (.int .i64 (D:Nat))
 fst:∀l,0<j4 ls l->first l=iF ls l
 top:∀s,s<ls.length->ai ls s<=D
 low:D<=15
 low':∀l,first l<=32768
 syms:∀l,l<16->0<l->Ri w (sa l) (sc l) (syms ls l ls.length)
 len:ls.length<=400
theorem zB.cells {w:World} {P D:Nat} {ls:List Nat} {first:Nat->Nat} {sa:Nat->Option Addr} {sc:Nat->Nat} (h:zB w P D ls first sa sc) :
  (∀l,l<16->w.cell? ⟨P,l,none⟩=some (.int .u32 (first l:Nat)))/\(∀l,l<16->w.cell? ⟨P,16+l,none⟩=some (.slice (sa l) (j4 ls l) (sc l)))/\w.cell? ⟨P,32,none⟩=some (.int .i64 D):=by
 obtain⟨A,hA,_,h1,h2,h3⟩:=h.box;exact⟨λl hl=>by rw[cell_of hA];exact h1 l hl,λl hl=>by rw[cell_of hA];exact h2 l hl,by rw[cell_of hA];exact h3⟩
theorem zB.fr {w w':World} {P D:Nat} {ls:List Nat} {first:Nat->Nat} {sa:Nat->Option Addr} {sc:Nat->Nat} (h:zB w P D ls first sa sc) (f:Fr [] w w'):zB w' P D ls first sa sc:=by obtain⟨A,hA,h1⟩:=h.box;exact⟨⟨A,f.ae hA (by simp),h1⟩,h.fst,h.top,h.low,h.low',λl h1 h2=>(h.syms l h1 h2).fr f,h.len⟩
theorem qwa (ls:List Nat) (l:Nat):j4 ls l<=ls.length:=by
 unfold j4;split
 ·omega
 ·have:=DF (λs=>ai ls s==l) (List.range ls.length);rw[Aw]at this;exact this
theorem qu1 {ls:List Nat} {n v l:Nat} (h:0<l):meets ls n v l=(decide (0<j4 ls l)&&(decide (iF ls l<(v+1)*2^(l-n))&&decide (v*2^(l-n)<iF ls l+j4 ls l))):=by unfold meets j4;rw[if_neg (by omega)]
theorem za1 (P D:Nat) (ls:List Nat) (first:Nat->Nat) (sa:Nat->Option Addr) (sc:Nat->Nat) (v n:Nat) (w:World) (h:zB w P D ls first sa sc) (hn:n<=15) (hv:v<2^n) :
  Calls Tryz.prog 218 #[.pointer (some ⟨P,0,none⟩),.int .u32 v,.int .i64 n] w λe w'=>e = .returned (.bool (ej ls n v))/\Fr [] w w':=by
 have H:=ak h hv;have hD:=h.low;have hlen:=h.len;clear h hv;go_enter Tryz.func218,Tryz.ntmps218;go_upto_block 0 with fail;go_wp2;go_loopg [7,8,9,10] 16 (λk s7 s8 s9 s10 wr=>∃(l:Nat),s7 = .int .i64 (l:Nat)/\l+k=17+n/\n<l/\Fr [] w wr/\∀m,n<m->m<l->meets ls n v m=false);case atStart=>exact⟨n+1,by go_num,by omega,by omega,Fr.refl [] w,λm h1 h2=>by omega⟩
 case round=>
  obtain⟨l,rfl,zg,tq,hf,mT⟩:=hrel;obtain⟨cL,ky,vR⟩:=(H.out.1.fr hf).cells;have HF:=af hf;clear hf;by_cases hl:l<=D
  ·obtain⟨k,rfl⟩:∃k,gk=k+1:=⟨gk-1,by omega⟩;have hm:=qu1 (ls:=ls) (n:=n) (v:=v) (l:=l) (by omega);have fN:(v+1)*2^(l-n)<=32768:=by have h1:(v+1)*2^(l-n)<=2^n*2^(l-n):=uz _ H.out.2;rw[<-nA,show n+(l-n)=l by omega]at h1;exact bS h1 (bS (kr (by decide) (show l<=15 by omega)) (by decide))
   have c1:=cL l (by omega);have c2:=ky l (by omega);obtain⟨f1,fO⟩:=ah (first l);obtain⟨m1,jb⟩:=ah (j4 ls l);obtain⟨x1,dT⟩:=ah ((v+1)*2^(l-n));obtain⟨x0,gM⟩:=ah (v*2^(l-n));have X5:f1<=32768:=by rw[fO];exact H.out.1.low' l
   have XB:m1<=400:=by rw[jb];have:=qwa ls l;omega
   rw[<-dT,<-gM,<-jb]at hm;rw[<-fO]at c1;rw[<-jb]at c2;rw[<-dT]at fN;have zaL:x0<=x1:=by rw[gM,dT];exact uz _ (by omega)
   have Bq:0<m1->f1=iF ls l:=λh0=>by rw[fO];exact H.out.1.fst l (by omega)
   have HI:=cz mT hm Bq dT gM fO jb;clear mT hm Bq fO jb cL ky;have rk:(n:Int)<=l:=by omega
   go_upto_region 5 with fail;have e0:(v:Int)*2^(l-n)%4294967296=(x0:Nat):=by
    have:((v:Int)*2^(l-n))=(x0:Nat):=by rw[gM];push_cast;rfl
    rw[this];omega
   have Ny:v+1<=32768:=bS H.out.2 (bS (kr (by decide) hn) (by decide));have e1:((v:Int)+1)*2^(l-n)%4294967296=(x1:Nat):=by
    have:(((v:Int)+1)*2^(l-n))=(x1:Nat):=by rw[dT];push_cast;rfl
    rw[this];omega
   clear gM dT;go_quiet (fail);rw[e0,e1];clear e0 e1;have b0:decide ((0:Int)<(m1:Int))=decide (0<m1):=by simp
   have b1:decide ((f1:Int)<(x1:Int))=decide (f1<x1):=by simp
   have b2:decide ((x0:Int)<(f1:Int)+m1)=decide (x0<f1+m1):=by rw[decide_eq_decide];omega
   have next:(meets ls n v l=false)->∀m,n<m->m<l+1->meets ls n v m=false:=λh m h1 h2=>by
    rcases Nat.lt_succ_iff_lt_or_eq.1 h2 with h3|h3
    ·exact HI.o0 m h1 h3
    ·rw[h3];exact h
   have HN:=af next
   clear next
   by_cases p0:0<m1
   ·have p0':=decide_eq_true p0;rw[p0']at b0;by_cases p1:f1<x1
    ·rw[decide_eq_true p1]at b1;by_cases p2:x0<f1+m1
     ·rw[decide_eq_true p2]at b2;go_wp2;go_ret;refine⟨?_,?_⟩
      ·rw[qu0 tq (by rw[HI.o1,<-HI.o2 p0];simp[p0,p1,p2])];rfl
      ·exact HF.out.trans (Fr.drewN [] _ _)
     ·rw[decide_eq_false p2]at b2;go_wp2;go_roundg k;case measure=>omega
      case rel=>exact⟨l+1,by go_num,by omega,by omega,HF.out.trans (Fr.drewN [] _ _),HN.out (by rw[HI.o1,<-HI.o2 p0];simp[p2])⟩
    ·rw[decide_eq_false p1]at b1;go_wp2;go_roundg k;case measure=>omega
     case rel=>exact⟨l+1,by go_num,by omega,by omega,HF.out.trans (Fr.drewN [] _ _),HN.out (by rw[HI.o1,<-HI.o2 p0];simp[p1])⟩
   ·rw[decide_eq_false p0]at b0;go_wp2;go_roundg k;case measure=>omega
    case rel=>exact⟨l+1,by go_num,by omega,by omega,HF.out.trans (Fr.drewN [] _ _),HN.out (by rw[HI.o1];simp[p0])⟩
  ·have d0:decide ((l:Int)<=D)=false:=by simp;omega
   go_wp2;go_ret;exact⟨by rw[qsg H.out.1.top λm h1 h2=>mT m h1 (by omega)];rfl,HF.out⟩
end huf
namespace huf
open Go Go.RowKit lib bm bl
theorem zB.gg {S:List Nat} {w w':World} {P D:Nat} {ls:List Nat} {first:Nat->Nat} {sa:Nat->Option Addr} {sc:Nat->Nat} (h:zB w P D ls first sa sc) (f:Fr S w w') (hP:P∉S) (hs:∀l,l<16->0<l->∀x∈ae (sa l),x∉S):zB w' P D ls first sa sc:=by obtain⟨A,hA,h1⟩:=h.box;exact⟨⟨A,f.ae hA hP,h1⟩,h.fst,h.top,h.low,h.low',λl h1 h2=>⟨(h.syms l h1 h2).cs.fr f (hs l h1 h2),(h.syms l h1 h2).le,(h.syms l h1 h2).max,(h.syms l h1 h2).nil⟩,h.len⟩
theorem qz5 {ls:List Nat} {first:Nat->Nat} {n v:Nat} (hf:0<j4 ls n->first n=iF ls n) (h:¬(0<n/\first n<=v/\v-first n<j4 ls n)):iW ls n v=none:=by
 refine qx9 ?_;by_cases h0:n=0
 ·exact .inl h0
 ·right;by_cases hs:0<j4 ls n
  ·have:=hf hs;unfold j4 at h hs;rw[if_neg h0]at h hs;omega
  ·unfold j4 at hs;rw[if_neg h0]at hs;omega
theorem TS (b:Bool):yt b<2:=by cases b<;>decide
theorem TY (v:Nat) (b:Bool) (hv:v<65536):bits .or .u32 ((v:Int)*2) (yt b:Nat)=((2*v+yt b:Nat):Int):=by
 have hb:yt b<2:=by cases b<;>decide
 have e:(v:Int)*2=((v*2:Nat):Int):=by omega
 have h1:=E9 (yt b) v 1 (by simpa using hb);rw[e,u32_or_nat (v*2) (yt b) (by omega) (by omega),Nat.or_comm,show v*2=v*2^1 from rfl,h1];congr 1;omega
theorem Rk (P D:Nat) (ls:List Nat) (first:Nat->Nat) (sa:Nat->Option Addr) (sc:Nat->Nat) (p:Nat) (F:List Nat) (bs:List UInt8) (at_:Nat) (w:World) (h:zB w P D ls first sa sc) (hr:bits.Rd w p F bs at_)
  (hP:P≠p) (hs:∀l,l<16->0<l->∀x∈ae (sa l),x≠p) (s m c:Nat) (cU:cu ls 15 0 0 ((aC bs).drop at_)=(s,m,c)) :
  Calls Tryz.prog 206 #[.pointer (some ⟨P,0,none⟩),.pointer (some ⟨p,0,none⟩)] w λe w'=>e = .returned (.tuple #[.int .i64 s,.int .i64 c])/\bits.Rd w' p F bs (at_+m)/\Fr [p] w w':=by
 have hlen:=h.len;have H:=aP h hr hP hs cU;clear h hr hP hs cU;go_enter Tryz.func206,Tryz.ntmps206;go_upto_block 0 with fail;go_wp2;go_loopg [6,7,8,9,10] 16 (λk s6 s7 s8 s9 s10 wr=>∃(n v:Nat),s6 = .int .u32 (v:Nat)/\s7 = .int .i64 (n:Nat)/\n+k=16/\0<k/\v<2^n/\bits.Rd wr p F bs (at_+n)/\Fr [p] w wr/\cu ls (15-n) n v ((aC bs).drop (at_+n))=(s,m,c));case atStart=>exact⟨0,0,rfl,rfl,by omega,by omega,by decide,H.o1,Fr.refl [p] w,H.l4⟩
 case round=>
  obtain⟨n,v,rfl,rfl,N0,zR,hv,bP,hf,cU⟩:=hrel;obtain⟨k,rfl⟩:∃k,gk=k+1:=⟨gk-1,by omega⟩;have hT:=H.o0.gg hf (by simpa using H.o2) (λl h1 h2 x hx=>by simpa using H.o3 l h1 h2 x hx);obtain⟨cL,ky,vR⟩:=hT.cells;have c1:=cL n (by omega);have c2:=ky n (by omega);have CP:v<65536:=eT hv (bS (kr (by decide) (show n<=15 by omega)) (by decide));obtain⟨f1,fO⟩:=ah (first n);obtain⟨m1,jb⟩:=ah (j4 ls n);have X5:f1<=32768:=by rw[fO];exact hT.low' n
  have XB:m1<=400:=by rw[jb];have:=qwa ls n;omega
  have Gh:=hT.fst n;rw[<-fO,<-jb]at Gh;rw[<-fO]at c1;rw[<-jb]at c2;have HR:=lJ hv bP hf cU hT Gh fO jb;clear hv bP hf cU hT Gh fO jb cL ky vR;by_cases hit:0<n/\f1<=v/\v-f1<m1
  ·obtain⟨i0,i1,i2⟩:=hit;obtain⟨y,rfl⟩:∃y,v=f1+y:=⟨v-f1,by omega⟩;have hy:y<m1:=by omega
   have hnz:n≠0:=by omega
   have hU:(syms ls n ls.length).length=m1:=by rw[HR.out.2.2.2.2.2.2.2];unfold j4;rw[if_neg hnz]
   obtain⟨g,o,ha,fH⟩:=(HR.out.2.2.2.2.1.syms n (by omega) i0).at (i:=y) (by omega);obtain⟨z,hz⟩:∃z,z=(syms ls n ls.length)[y]'(by omega):=⟨_,rfl⟩;rw[<-hz]at fH;rw[ha]at c2;have hh:iW ls n (f1+y)=some z:=by have e:=HR.out.2.2.2.2.2.1 (by omega);refine qx8 i0 (by omega) ?_;rw[show f1+y-iF ls n=y by omega,bO (by omega),hz]
   have cU:=HR.out.2.2.2.1;rw[MA hh]at cU;obtain⟨rfl,rfl,rfl⟩:z=s/\n=m/\0=c:=by simpa using cU
   have b0:decide ((0:Int)<n)=true:=by simpa using i0
   have b1:decide ((f1:Int)<=(f1:Int)+y)=true:=by simp;omega
   have b2:decide ((y:Int)<m1)=true:=by simp;omega
   have b3:(f1:Int)+y-f1=y:=by omega
   clear i0 i1 i2 hU hz hh cU ha;go_upto_region 6 with fail;go_quiet (fail);go_wp2;go_ret2;exact⟨rfl,bits.G3 HR.out.2.1 (Fr.drewN [] _ _) (by simp),HR.out.2.2.1.trans (Fr.drewN [p] _ _)⟩
  ·have qg:iW ls n v=none:=qz5 (first:=first) (by rw[<-HR.out.2.2.2.2.2.2.1,<-HR.out.2.2.2.2.2.2.2];exact HR.out.2.2.2.2.2.1) (by rw[<-HR.out.2.2.2.2.2.2.1,<-HR.out.2.2.2.2.2.2.2];exact hit);have HM:=af qg;clear qg;go_upto_region 5 with fail;go_cut [44] from 21 to 44 (λs44 wc=>s44 = .bool false/\wr=wc)
   case first=>
    by_cases i0:0<n
    ·have b0:decide ((0:Int)<n)=true:=by simpa using i0
     by_cases i1:f1<=v
     ·have b1:decide ((f1:Int)<=v)=true:=by simpa using i1
      have b2:decide ((v:Int)-f1<m1)=false:=by simp;omega
      clear hit;go_wp2;go_meet;case rel=>exact⟨rfl,rfl⟩
     ·have b1:decide ((f1:Int)<=v)=false:=by simpa using i1
      clear hit;go_wp2;go_meet;case rel=>exact⟨rfl,rfl⟩
    ·have b0:decide ((0:Int)<n)=false:=by simpa using i0
     clear hit;go_wp2;go_meet;case rel=>exact⟨rfl,rfl⟩
   case rest=>
    obtain⟨rfl,rfl⟩:=hcut;have Qs:=af (za1 P D ls first sa sc v n wr HR.out.2.2.2.2.1 (by omega) HR.out.1);go_upto_region 7 with fail;go_cut [69] from 61 to 69 (λs69 wc=>s69 = .bool (n==15||!ej ls n v)/\Fr [] wr wc)
    case first=>
     by_cases i0:n=15
     ·have b0:((n:Int)==15)=true:=by simp;omega
      have b1:(n==15||!ej ls n v)=true:=by simp[i0]
      clear hit;go_wp2;go_meet;case rel=>exact⟨by rw[b1],Fr.refl [] _⟩
     ·have b0:((n:Int)==15)=false:=by simp;omega
      have b1:(n==15||!ej ls n v)=!ej ls n v:=by simp[i0]
      clear hit;go_wp2_with (go_at_call 218;refine Qs.out.mono ?_;rintro e w2 ⟨rfl,f2⟩;have H2:=af f2;clear f2);go_meet;case rel=>exact⟨by rw[b1],H2.out⟩
    case rest=>
     obtain⟨rfl,f2⟩:=hcut;have H2:=af f2;clear f2;have h2:Fr [p] w wc:=HR.out.2.2.1.trans (H2.out.mono (by simp));have r2:bits.Rd wc p F bs (at_+n):=bits.G3 HR.out.2.1 H2.out (by simp);have H3:=ak h2 r2;clear h2 r2;by_cases e1:(n==15||!ej ls n v)=true
     ·have cU:cu ls (15-n) n v ((aC bs).drop (at_+n))=(0,n,3):=by
       by_cases sN:n=15
       ·subst sN;exact Vq HM.out
       ·refine VJ HM.out ?_;simpa[sN] using e1
      rw[HR.out.2.2.2.1]at cU;obtain⟨rfl,rfl,rfl⟩:s=0/\m=n/\c=3:=by simpa using cU
      rw[e1];clear hit cU;go_wp2;go_ret2;exact⟨rfl,H3.l1,H3.o0⟩
     ·have PX:(n==15||!ej ls n v)=false:=by simpa using e1
      have sN:n≠15:=by intro h;simp[h]at e1
      have hmr:ej ls n v=true:=by simp at e1;exact e1.2
      rw[PX];by_cases hq:at_+n+1<=8*bs.length
      ·have bF:=Z3 p F bs (at_+n) 1 wc H3.l1 (by decide) hq;have sD:(aC bs).length=8*bs.length:=by simp[AE]
       obtain⟨b,t,Bz⟩:∃b t,(aC bs).drop (at_+n)=b::t:=by
        cases hd:(aC bs).drop (at_+n) with
        | nil=>have:=congrArg List.length hd;rw[eQ,sD]at this;simp at this;omega
        | cons b t=>exact⟨b,t,rfl⟩
       have ht:(aC bs).drop (at_+(n+1))=t:=by rw[<-uy,<-J8,Bz];rfl
       have tD:cW (((aC bs).drop (at_+n)).take 1)=yt b:=by rw[Bz];cases b<;>rfl
       rw[tD]at bF;have cU:=HR.out.2.2.2.1;rw[show 15-n=(15-(n+1))+1 by omega,Bz,VL HM.out hmr,<-ht]at cU;have HK:=ak bF cU;clear bF sD Bz ht tD cU hit;go_upto_region 10 with (go_at_call 165;refine HK.out.1.mono ?_;rintro e w5 ⟨rfl,r5,f5⟩;have H5:=ak r5 f5;clear r5 f5);go_wp2;have uS:=TY v b CP;rw[uS];go_roundg k;case measure=>omega
       case rel=>exact⟨n+1,2*v+yt b,rfl,by go_num,by omega,by omega,by rw[pK];have:=HR.out.1;have:=TS b;omega,H5.o0,H3.o0.trans H5.l1,HK.out.2⟩
      ·have bF:=bits.Fo p F bs (at_+n) 1 wc H3.l1 (by omega);have hd:(aC bs).drop (at_+n)=[]:=CK (by rw[AE];omega);have cU:=HR.out.2.2.2.1;rw[show 15-n=(14-n)+1 by omega,hd,VM HM.out hmr]at cU;obtain⟨rfl,rfl,rfl⟩:0=s/\n=m/\4=c:=by simpa using cU
       have HK:=af bF;clear bF hd cU hit;go_upto_region 10 with (go_at_call 165;refine HK.out.mono ?_;rintro e w5 ⟨rfl,r5,f5⟩;have H5:=ak r5 f5;clear r5 f5);go_wp2;go_ret2;exact⟨rfl,H5.o0,H3.o0.trans (H5.l1.mono (by simp))⟩
structure Made (w w':World) (e:TypeId) (size:Nat) (ao:Option Addr) (n cap:Nat) (xs:List Value):Prop where
 own:w'.ownsRow 0 e size (.slice ao n cap) n xs
 fr:Fr [] w w'
 new:∀x∈ae ao,w.heap.size<=x
 le:n<=cap
 max:cap<=maxLen
 nil:ao=none->cap=0
theorem Made.none (w:World) (e:TypeId) (size:Nat):Made w w e size none 0 0 []:=⟨⟨by simp,.inl ⟨rfl,rfl⟩⟩,.refl _ w,by simp[ae],aw _,dZ _,λ_=>rfl⟩
theorem Made.app {w w1 w2:World} {e:TypeId} {size:Nat} {ao cX:Option Addr} {n m cap dh:Nat} {xs ys:List Value} (h:Made w w1 e size ao n cap xs) (h2:aW w1 w2 e size (ae ao) cX m dh ys):Made w w2 e size cX m dh ys:=
 ⟨h2.own,h.fr.step h2.fr (λx hx=>.inr (h.new x hx)),λx hx=>by
  rcases h2.at_ x hx with k|k
  ·exact h.new x k
  ·rw[k];exact h.fr.size,h2.le,h2.max,h2.nil⟩
theorem Made.fk {w w1 w2:World} {e:TypeId} {size:Nat} {ao:Option Addr} {n cap:Nat} {xs:List Value} (h:Made w w1 e size ao n cap xs) (f:Fr [] w1 w2):Made w w2 e size ao n cap xs:=
 ⟨dr h.own f (by simp),h.fr.trans f,h.new,h.le,h.max,h.nil⟩
theorem Made.lt {w w':World} {e:TypeId} {size:Nat} {ao:Option Addr} {n cap:Nat} {xs:List Value} (h:Made w w' e size ao n cap xs):∀x∈ae ao,x<w'.heap.size:=λ_ hx=>qR h.own (pI hx)
theorem Made.pre {w0 w w':World} {e:TypeId} {size:Nat} {ao:Option Addr} {n cap:Nat} {xs:List Value} (h:Made w w' e size ao n cap xs) (f:Fr [] w0 w):Made w0 w' e size ao n cap xs:=
 ⟨h.own,f.trans h.fr,λx hx=>bS f.size (h.new x hx),h.le,h.max,h.nil⟩
theorem oX:ax Tryz.prog 28 3 (.int .i64 0) 1 8:=ax.of Tryz.underlying28 (by kernel_rfl) rfl (by decide)
theorem Mw:(Tryz.prog.info? 3).map (λi=>(i.zero,i.size,i.bytes))=some (some (.int .i64 0),1,8):=by kernel_rfl
def ints (l:List Nat):List Value:=l.map λx=>.int .i64 (x:Nat)
theorem Re (l:List Nat):∀u∈ints l,u.oneCell'=true:=by intro u hu;simp only[ints,jR]at hu;obtain⟨x,_,rfl⟩:=hu;rfl
theorem MI (l:List Nat):(ints l).length=l.length:=by simp[ints]
theorem Ri.take {w:World} {a:Option Addr} {cap:Nat} {xs:List Nat} (h:Ri w a cap xs) (n:Nat):Ri w a cap (xs.take n):=by
 refine⟨?_,by have:=h.le;rw[eJ];omega,h.max,h.nil⟩;rcases h.cs with h0|⟨g,o,e,hc⟩
 ·left;have:xs=[]:=by simpa using h0
  rw[this];simp
 ·refine .inr ⟨g,o,e,λj v hv=>hc j v ?_⟩;rw[E7,oY]at hv;split at hv
  ·exact hv
  ·cases hv
theorem QX {w w':World} {ao:Option Addr} {n cap:Nat} {xs:List Nat} (h:Made w w' 3 1 ao n cap (ints xs)) (hn:n=xs.length):Ri w' ao cap xs:=⟨Cx h.own,by rw[<-hn];exact h.le,h.max,h.nil⟩
def Ow (w:World) (Q N:Nat) (F:Nat->Nat):Prop:=∃A,w.heap[Q]?=some (.cells A 3 (0,0))/\A.size=N/\∀s,s<N->A[s]?=some (.int .i64 (F s:Nat))
theorem Ow.cell {w:World} {Q N:Nat} {F:Nat->Nat} (h:Ow w Q N F) {s:Nat} (hs:s<N):w.cell? ⟨Q,s,none⟩=some (.int .i64 (F s:Nat)):=by obtain⟨A,hA,_,hF⟩:=h;rw[cell_of hA,hF s hs]
theorem Ow.frozen {w:World} {Q N:Nat} {F:Nat->Nat} (h:Ow w Q N F) (s:Nat):w.frozen? ⟨Q,s,none⟩=false:=by obtain⟨A,hA,_,hF⟩:=h;exact aO hA s
theorem Ow.set {w:World} {Q N:Nat} {F:Nat->Nat} (h:Ow w Q N F) {s:Nat} (hs:s<N) (v:Nat):Ow (w.setCell ⟨Q,s,none⟩ (.int .i64 v)) Q N (λt=>if t=s then v else F t):=by
 obtain⟨A,hA,hn,hF⟩:=h;refine⟨_,aX hA _,by simp[hn],λt ht=>?_⟩;by_cases e:t=s
 ·subst e;rw[iu (by omega)];simp only[if_true]
 ·rw[aZ (by omega)];simp only[if_neg e];exact hF t ht
theorem Ow.fr {w w':World} {S:List Nat} {Q N:Nat} {F:Nat->Nat} (h:Ow w Q N F) (f:Fr S w w') (hS:Q∉S):Ow w' Q N F:=by obtain⟨A,hA,hn⟩:=h;exact⟨A,f.ae hA hS,hn⟩
theorem Ow.congr {w:World} {Q N:Nat} {F G:Nat->Nat} (h:Ow w Q N F) (e:∀s,s<N->F s=G s):Ow w Q N G:=by obtain⟨A,hA,hn,hF⟩:=h;exact⟨A,hA,hn,λs hs=>by rw[hF s hs,e s hs]⟩
theorem Ow.cs {w:World} {Q N:Nat} {F:Nat->Nat} (h:Ow w Q N F):Cs w (some ⟨Q,0,none⟩) (ints ((List.range N).map F)):=by
 refine .inr ⟨Q,0,rfl,λj v hv=>?_⟩;have hj:j<N:=by have:=(lA.1 hv).1;simpa[ints] using this
 rw[fM,h.cell hj,<-hv];simp[ints,hj]
theorem Q5 {w:World} {N Q:Nat} (h:w.ownsRow 0 3 1 (.slice (some ⟨Q,0,none⟩) N N) N (madeCells (Value.int .i64 0).cells (N*1)).toList):Ow w Q N (λ_=>0):=by
 obtain⟨o1,o2⟩:=h;rcases o2 with⟨o2,_⟩|⟨g,c',cur,o2,_,hg,_,_,cF,ht⟩
 ·cases o2
 ·simp only[lN,eS,qU,and_true,true_and]at o2;obtain⟨rfl,rfl⟩:=o2;refine⟨cur,hg,by omega,λj hj=>?_⟩;have h1:cur.toList[j]?=(madeCells (Value.int .i64 0).cells (N*1)).toList[j]?:=by rw[<-ht,oY,if_pos (by omega)]
  rw[<-qW,h1,show (Value.int .i64 0).cells=#[.int .i64 0] from rfl,toList_madeCells_one,List.getElem?_replicate,if_pos (by omega)];rfl
end huf
namespace defl
open Go Go.RowKit lib bm bl huf
def pP:List Nat:=[16,17,18,0,8,7,9,6,10,5,11,4,12,3,13,2,14,1,15]
def ord (i:Nat):Nat:=pP[i]?.getD 0
theorem QK (i:Nat):ord i<19:=by
 unfold ord;cases h:pP[i]? with
 | none=>simp
 | some x=>have:=iC h;simp only[pP,gw,v7,or_false]at this;simp only[Option.getD_some];omega
theorem qp3 (O nc:Nat) (h:nc<=19) (w:World):(Instr.sliceAt 287 (.pointer (some ⟨O,0,none⟩)) none (some (.int .i64 nc)) none).run Tryz.prog w = .ok (.slice (some ⟨O,0,none⟩) nc 19) w:=by
 have e:Tryz.prog.arrayLen 287=19:=by kernel_rfl
 have el:Tryz.prog.elem 287=3:=by kernel_rfl
 have hu:Tryz.prog.underlying 287=some (.array 19 3):=by kernel_rfl
 have:=run_sliceAt_array_h (P:=Tryz.prog) (t:=287) (w:=w) ⟨O,0,none⟩ (by rw[e,el];exact hu) .i64 (nc:Nat) (by omega) (by rw[e];omega);rw[this,e,el];obtain⟨i,hi,_,hs,_⟩:=info_parts Mw;simp[sizeOf,typeInfo,hi,slicedAt,Result.andThen];exact Aj O 0 0
end defl
namespace defl
open Go Go.RowKit lib bm
def eU (n:Nat):Nat×Nat×Nat:=if n<11 then (n+254,0,0) else if n=258 then (285,0,0) else (257+4*(Nat.log2 (n-3)-2)+(n-3)/2^(Nat.log2 (n-3)-2),(n-3)%2^(Nat.log2 (n-3)-2),Nat.log2 (n-3)-2)
def eI (n:Nat):Nat×Nat×Nat:=if n<5 then (n-1,0,0) else (2*(Nat.log2 (n-1)-1)+(n-1)/2^(Nat.log2 (n-1)-1),(n-1)%2^(Nat.log2 (n-1)-1),Nat.log2 (n-1)-1)
theorem qxo {m w c:Nat} (h1:2^(w+c)<=m) (h2:m<2^(w+c+1)):Nat.log2 m-c=w:=by
 have h0:m≠0:=by have:=oZ (w+c);omega
 have k1:=(Nat.le_log2 h0).2 h1;have k2:=(Nat.log2_lt h0).2 h2;omega
theorem qtx {n w:Nat} (vT:11<=n) (jI:n≠258) (h1:4*2^w<=n-3) (h2:n-3<8*2^w):eU n=(257+4*w+(n-3)/2^w,(n-3)%2^w,w):=by have e:Nat.log2 (n-3)-2=w:=qxo (by rw[nA];omega) (by rw[nA,nA];omega);unfold eU;rw[if_neg (by omega),if_neg jI,e]
theorem qub {n w:Nat} (h5:5<=n) (h1:2*2^w<=n-1) (h2:n-1<4*2^w):eI n=(2*w+(n-1)/2^w,(n-1)%2^w,w):=by have e:Nat.log2 (n-1)-1=w:=qxo (by rw[nA];omega) (by rw[nA,nA];omega);unfold eI;rw[if_neg (by omega),e]
def Triple (c:Nat×Nat×Nat):Ending:=.returned (.tuple #[.int .i64 (c.1:Nat),.int .u32 (c.2.1:Nat),.int .i64 (c.2.2:Nat)])
theorem RD (n:Nat) (w:World) (h3:3<=n) (jI:n<=258) :
  Calls Tryz.prog 158 #[.int .i64 n] w λe w'=>e=Triple (eU n)/\Fr [] w w':=by
 by_cases vT:n<11
 ·go_enter Tryz.func158,Tryz.ntmps158;go_wp2;go_ret3;refine⟨?_,.refl _ w⟩;unfold Triple eU;rw[if_pos vT];rfl
 ·by_cases h8:n=258
  ·subst h8;go_enter Tryz.func158,Tryz.ntmps158;go_wp2;go_ret3;exact⟨rfl,.refl _ w⟩
  ·have q1:((n:Int)==258)=false:=by simp only[beq_eq_false_iff_ne];omega
   obtain⟨m,hm⟩:=ah (n-3);have e0:(n:Int)-3=(m:Int):=by omega
   have Oc:8<=m:=by omega
   have hU:m<=254:=by omega
   have HM:=af hm;clear hm;go_enter Tryz.func158,Tryz.ntmps158;go_upto_block 1 with fail;go_wp2;go_loopg [4] 6 (λk s4 wr=>∃v:Nat,s4 = .int .i64 (v:Nat)/\1<=v/\v+k=7/\4*2^v<=m/\w=wr);case atStart=>exact⟨1,rfl,aw _,rfl,by omega,rfl⟩
   case round=>
    obtain⟨v,rfl,Ny,hvk,DY,rfl⟩:=hrel;obtain⟨z,hz⟩:=ah (2^v);have e2:(2:Int)^v=(z:Int):=by rw[hz];exact yJ v
    rw[<-hz]at DY;have WD:z<=64:=by omega
    have HZ:=af hz;clear hz;by_cases aY:m<8*z
    ·have q2:decide (8*(z:Int)<=(m:Int))=false:=by simp;omega
     obtain⟨q,hq⟩:=ah (m/z);obtain⟨r,hr⟩:=ah (m%z);have WB:0<z:=by omega
     have e3:(m:Int)/(z:Int)=(q:Int):=by rw[hq];exact (G6 m z).symm
     have e4:bits .and .u32 (m:Int) ((z:Int)-1)=(r:Int):=by rw[show (z:Int)-1=((z-1:Nat):Int) from by omega,u32_and_nat m (z-1) (by omega) (by omega),HZ.out,MG,<-HZ.out,hr]
     have hq7:q<8:=by rw[hq];exact (Hz WB).2 aY
     have hv7:v<=7:=by omega
     have HR:=aF hq hr aY DY;clear hq hr aY DY;go_upto_region 8 with fail;go_quiet (fail);clear e3 e4;go_wp2;go_ret3;obtain⟨hq,hr,aY,DY⟩:=HR.out;have hm:=HM.out;have hz:=HZ.out;refine⟨?_,Fr.drewN [] w _⟩;unfold Triple;rw[qtx (w:=v) (by omega) h8 (by omega) (by omega),<-hm,<-hz,<-hq,<-hr];rw[show (261+4*(v:Int)+(q:Int)-4)=((257+4*v+q:Nat):Int) from by omega];rfl
    ·have hv5:v<=5:=by
      rcases og v 6 with h|h
      ·omega
      ·have:2^6<=2^v:=kr (by decide) h;have:=HZ.out;omega
     go_wp2;go_roundg (gk-1);case measure=>omega
     case rel=>exact⟨v+1,by go_num,by omega,by omega,by have:=HZ.out;rw[pK];omega,rfl⟩
theorem RU (n:Nat) (w:World) (h1:1<=n) (h2:n<=32768) :
  Calls Tryz.prog 159 #[.int .i64 n] w λe w'=>e=Triple (eI n)/\Fr [] w w':=by
 by_cases h5:n<5
 ·obtain⟨m,hm⟩:=ah (n-1);have e0:(n:Int)-1=(m:Int):=by omega
  have HM:=af hm;clear hm;go_enter Tryz.func159,Tryz.ntmps159;go_wp2;go_ret3;refine⟨?_,.refl _ w⟩;unfold Triple eI;rw[if_pos h5,<-HM.out];rfl
 ·obtain⟨m,hm⟩:=ah (n-1);have e0:(n:Int)-1=(m:Int):=by omega
  have Oc:4<=m:=by omega
  have hU:m<=32767:=by omega
  have HM:=af hm;clear hm;go_enter Tryz.func159,Tryz.ntmps159;go_upto_block 0 with fail;go_wp2;go_loopg [4] 14 (λk s4 wr=>∃v:Nat,s4 = .int .i64 (v:Nat)/\1<=v/\v+k=15/\2*2^v<=m/\w=wr);case atStart=>exact⟨1,rfl,aw _,rfl,by omega,rfl⟩
  case round=>
   obtain⟨v,rfl,Ny,hvk,DY,rfl⟩:=hrel;obtain⟨z,hz⟩:=ah (2^v);have e2:(2:Int)^v=(z:Int):=by rw[hz];exact yJ v
   rw[<-hz]at DY;have WD:z<=16384:=by omega
   have HZ:=af hz;clear hz;by_cases aY:m<4*z
   ·have q2:decide (4*(z:Int)<=(m:Int))=false:=by simp;omega
    obtain⟨q,hq⟩:=ah (m/z);obtain⟨r,hr⟩:=ah (m%z);have WB:0<z:=by omega
    have e3:(m:Int)/(z:Int)=(q:Int):=by rw[hq];exact (G6 m z).symm
    have e4:bits .and .u32 (m:Int) ((z:Int)-1)=(r:Int):=by rw[show (z:Int)-1=((z-1:Nat):Int) from by omega,u32_and_nat m (z-1) (by omega) (by omega),HZ.out,MG,<-HZ.out,hr]
    have hq7:q<4:=by rw[hq];exact (Hz WB).2 aY
    have hv7:v<=15:=by omega
    have HR:=aF hq hr aY DY;clear hq hr aY DY;go_upto_region 6 with fail;go_quiet (fail);clear e3 e4;go_wp2;go_ret3;obtain⟨hq,hr,aY,DY⟩:=HR.out;have hm:=HM.out;have hz:=HZ.out;refine⟨?_,Fr.drewN [] w _⟩;unfold Triple;rw[qub (w:=v) (by omega) (by omega) (by omega),<-hm,<-hz,<-hq,<-hr];rw[show (2+2*(v:Int)+(q:Int)-2)=((2*v+q:Nat):Int) from by omega];rfl
   ·have hv5:v<=13:=by
     rcases og v 14 with h|h
     ·omega
     ·have:2^14<=2^v:=kr (by decide) h;have:=HZ.out;omega
    go_wp2;go_roundg (gk-1);case measure=>omega
    case rel=>exact⟨v+1,by go_num,by omega,by omega,by have:=HZ.out;rw[pK];omega,rfl⟩
end defl
namespace mat
open Go Go.RowKit lib
def three (b:List UInt8) (i:Nat):Nat:=(b[i]?.getD 0).toNat+256*(b[i+1]?.getD 0).toNat+65536*(b[i+2]?.getD 0).toNat
theorem UU (b:List UInt8) (i:Nat):three b i<4294967296:=by unfold three;have h0:=iB (b[i]?.getD 0);have h1:=iB (b[i+1]?.getD 0);have h2:=iB (b[i+2]?.getD 0);omega
def last (b:List UInt8):Nat->Nat->Option Nat
 | 0,_=>none
 | i+1,k=>if i+3<=b.length/\three b i=k then some i else last b i k
theorem Mh (b:List UInt8):∀(i k p:Nat),last b i k=some p->p<i/\p+3<=b.length/\three b p=k
 | 0,_,_,h=>by cases h
 | i+1,k,p,h=>by
  unfold last at h;split at h
  ·rename_i hc;obtain rfl:=lL h;exact⟨by omega,hc.1,hc.2⟩
  ·have:=Mh b i k p h;exact⟨by omega,this.2⟩
def eM (b:List UInt8) (i j:Nat):Nat->Nat->Nat
 | 0,n=>n
 | f+1,n=>if j+n<b.length/\b[i+n]?=b[j+n]? then eM b i j f (n+1) else n
def alike (b:List UInt8) (i j:Nat):Nat:=eM b i j 258 0
theorem qnk (b:List UInt8) (i j:Nat):∀(f n:Nat),j+n<=b.length->(∀k,k<n->b[i+k]?=b[j+k]?)->
  n<=eM b i j f n/\eM b i j f n<=n+f/\j+eM b i j f n<=b.length/\∀k,k<eM b i j f n->b[i+k]?=b[j+k]?
 | 0,n,h1,h2=>⟨aw _,aw _,h1,h2⟩
 | f+1,n,h1,h2=>by
  unfold eM;split
  ·rename_i hc;obtain⟨a,b',c,d⟩:=qnk b i j f (n+1) (by omega) (λk hk=>by
    by_cases e:k=n
    ·rw[e];exact hc.2
    ·exact h2 k (by omega))
   exact⟨by omega,by omega,c,d⟩
  ·exact⟨aw _,by omega,h1,h2⟩
theorem VX (b:List UInt8) (i j:Nat) (h:j<=b.length):alike b i j<=258/\j+alike b i j<=b.length/\∀k,k<alike b i j->b[i+k]?=b[j+k]?:=by obtain⟨_,h1,h2,h3⟩:=qnk b i j 258 0 (by omega) (λk hk=>by omega);exact⟨by unfold alike;omega,h2,h3⟩
def gF (b:List UInt8) (r i:Nat):Nat->Option Nat->Nat->Nat->Nat×Nat
 | 0,_,best,at_=>(best,at_)
 | _+1,none,best,at_=>(best,at_)
 | n+1,some p,best,at_=>if i-p<=r then (if best<alike b p i then gF b r i n (last b p (three b p)) (alike b p i) p else gF b r i n (last b p (three b p)) best at_) else (best,at_)
theorem VD (b:List UInt8) (r i:Nat):∀(n:Nat) (p:Option Nat) (best at_:Nat),(∀q,p=some q->q<i)->(best=0\/(best=alike b at_ i/\at_<i/\i-at_<=r))->
  best<=(gF b r i n p best at_).1/\((gF b r i n p best at_).1=0\/((gF b r i n p best at_).1=alike b (gF b r i n p best at_).2 i/\(gF b r i n p best at_).2<i/\i-(gF b r i n p best at_).2<=r))
 | 0,_,_,_,_,h=>⟨aw _,h⟩
 | _+1,none,_,_,_,h=>⟨aw _,h⟩
 | n+1,some p,best,at_,hp,h=>by
  have hpi:=hp p rfl;have hl:∀q,last b p (three b p)=some q->q<i:=λq hq=>by have:=(Mh b _ _ _ hq).1;omega
  unfold gF;split
  ·split
   ·obtain⟨h1,h2⟩:=VD b r i n (last b p (three b p)) (alike b p i) p hl (.inr ⟨rfl,hpi,by assumption⟩);exact⟨by omega,h2⟩
   ·exact VD b r i n _ best at_ hl h
  ·exact⟨aw _,h⟩
def best (b:List UInt8) (r i:Nat):Nat×Nat:=gF b r i 48 (last b i (three b i)) 0 0
theorem qrd (b:List UInt8) (r i:Nat) (h:0<(best b r i).1):(best b r i).1=alike b (best b r i).2 i/\(best b r i).2<i/\i-(best b r i).2<=r:=by
 have h1:=(VD b r i 48 (last b i (three b i)) 0 0 (λq hq=>(Mh b _ _ _ hq).1) (.inl rfl)).2;unfold best at *;rcases h1 with h1|h1
 ·omega
 ·exact h1
abbrev Mt:=Nat×Nat×Nat
def step (b:List UInt8) (r i:Nat):Nat:=if 3<=(best b r i).1 then (best b r i).1 else 1
def jm (b:List UInt8) (r:Nat):Nat->Nat->List Mt
 | 0,_=>[]
 | f+1,i=>if i+3<=b.length then (if 3<=(best b r i).1 then (i,(best b r i).1,i-(best b r i).2)::jm b r f (i+step b r i) else jm b r f (i+step b r i)) else []
def Dx (b:List UInt8) (reach:Int):List Mt:=if 0<reach then jm b (min reach 32768).toNat b.length 0 else []
def dB (b:List UInt8) (r:Nat):Nat->List Mt->Prop
 | _,[]=>True
 | e,(a,n,d)::t=>e<=a/\3<=n/\n<=258/\1<=d/\d<=r/\d<=a/\a+n<=b.length/\(∀k,k<n->b[a+k]?=b[a+k-d]?)/\dB b r (a+n) t
theorem dB.mono {b:List UInt8} {r e e':Nat} {l:List Mt} (h:dB b r e l) (he:e'<=e):dB b r e' l:=by
 cases l with
 | nil=>trivial
 | cons x t=>obtain⟨a,n,d⟩:=x;exact⟨bS he h.1,h.2⟩
theorem qmu (b:List UInt8) (r:Nat):∀(f i:Nat),dB b r i (jm b r f i)
 | 0,_=>trivial
 | f+1,i=>by
  unfold jm;split
  ·rename_i hi;have ih:=qmu b r f (i+step b r i);split
   ·rename_i h3;obtain⟨h1,h2,h4⟩:=qrd b r i (by omega);obtain⟨k1,k2,k3⟩:=VX b (best b r i).2 i (by omega);rw[<-h1]at k1 k2 k3;have hs:step b r i=(best b r i).1:=if_pos h3;rw[hs]at ih;refine⟨aw _,h3,k1,by omega,h4,by omega,k2,λk hk=>?_,by rw[hs];exact ih⟩;have:=k3 k hk;rw[show i+k-(i-(best b r i).2)=(best b r i).2+k from by omega,this]
   ·exact ih.mono (by omega)
  ·trivial
theorem qjz (b:List UInt8) (reach:Int):dB b (min reach 32768).toNat 0 (Dx b reach):=by
 unfold Dx;split
 ·exact qmu _ _ _ _
 ·trivial
theorem dB.len {b:List UInt8} {r:Nat}:∀{l:List Mt} {e:Nat},dB b r e l->e<=b.length->l.length<=b.length-e
 | [],_,_,_=>dZ _
 | (a,n,d)::t,e,h,_=>by obtain⟨h1,h2,h3,h4,h5,h6,h7,h8,h9⟩:=h;have:=h9.len h7;rw[cQ];omega
theorem dB.at {b:List UInt8} {r:Nat}:∀{l:List Mt} {e:Nat},dB b r e l->∀{i:Nat} {x:Mt},l[i]?=some x->
  3<=x.2.1/\x.2.1<=258/\1<=x.2.2/\x.2.2<=r/\x.2.2<=x.1/\x.1+x.2.1<=b.length/\(∀k,k<x.2.1->b[x.1+k]?=b[x.1+k-x.2.2]?)/\(if i=0 then e<=x.1 else ∃y,l[i-1]?=some y/\y.1+y.2.1<=x.1)
 | [],_,_,i,x,h=>by simp at h
 | (a,n,d)::t,e,hc,0,x,h=>by
  simp only[aV,eS]at h;subst h;obtain⟨h1,h2,h3,h4,h5,h6,h7,h8,_⟩:=hc;exact⟨h2,h3,h4,h5,h6,h7,h8,h1⟩
 | (a,n,d)::t,e,hc,i+1,x,h=>by
  rw[bN]at h;obtain⟨h1,h2,h3,h4,h5,h6,h7,h8⟩:=hc.2.2.2.2.2.2.2.2.at h;refine⟨h1,h2,h3,h4,h5,h6,h7,?_⟩;rw[if_neg (by omega),CI];split at h8
  ·rename_i h0;subst h0;exact⟨(a,n,d),rfl,h8⟩
  ·rename_i h0;obtain⟨y,hy,kt⟩:=h8;refine⟨y,?_,kt⟩;obtain⟨j,rfl⟩:∃j,i=j+1:=⟨i-1,by omega⟩;simpa using hy
end mat

end Go.Proofs.YtkmpfgpfbmeihaaGreatDoor