/-
  Texts of this proof, one behind the other: Put, Read, HuffC, HuffD, HuffM, HuffR, IntsRow, LenDist, MatLaw.
-/
import Derived.Test.YtkmpfgpfbmeihaaGreatDoorQ4
import Derived.OwnWalk
import Derived.Laws.OwnMore
import Derived.Lib.AppendZerosOnto
import Derived.Lib.AppendZeros
import Derived.Deep.WholeRow
set_option maxHeartbeats 16000000
set_option maxRecDepth 100000
set_option linter.unusedVariables false
set_option linter.unusedSimpArgs false
namespace Go.Proofs.YtkmpfgpfbmeihaaGreatDoor
namespace bits
open Go Go.RowKit lib bm
theorem aq:az Tryz.prog 23 5 (.int .u8 0) 1 1:=az.of Tryz.underlying23 (by kernel_rfl) rfl (by decide)
def Wv (w:World) (p:Nat) (v:Value) (M L:Nat):Prop:=
 w.heap[p]?=some (.cells #[v,.int .u64 (M/2^(8*(L/8)):Nat),.int .i64 (L%8:Nat)] 245 (0,0))/\
  w.ownsRow 0 5 1 v (L/8) ((kE (L/8) M).map bv)/\v.ownBlock≠some p/\M<2^L
def Wr (w:World) (p:Nat) (F:LN) (M L:Nat):Prop:=∃v,Wv w p v M L/\F=p::v.ownBlock.toList
theorem qv4 (W:Nat):Value.int .u8 (IntKind.u8.wrap (W:Int))=bv (UInt8.ofNat W):=by unfold bv;rw[IntKind.wrap_u8',zk];exact int_eq (by omega)
theorem zg9 (q N:Nat):(kE (q+1) N).map bv=(kE q N).map bv++[Value.int .u8 (IntKind.u8.wrap ((N/2^(8*q):Nat):Int))]:=by rw[qvz,gF,qv4];rfl
theorem zcd (K q:Nat):K-8*q-8=K-8*(q+1):=by omega
theorem zd7 (N q:Nat):N/2^(8*q)/2^8=N/2^(8*(q+1)):=by rw[Lm,<-mU,Ba]
theorem zhu (p:Nat) (F:LN) (M L:Nat) (x:Nat) (n:Int) (w:World) (hW:Wr w p F M L) (hx:x<4294967296) (hL:L<=562949953421312) :
  Calls Tryz.prog 247 #[.pointer (some ⟨p,0,none⟩),.int .u32 x,.int .i64 n] w λe w'=>
   e = .returned (.tuple #[])/\Fr F w w'/\∃F',Wr w' p F' (M+2^L*(x%2^(min n.toNat 32))) (L+min n.toNat 32)/\∀y∈F',y∈F\/w.heap.size<=y:=by
 obtain⟨v,⟨hr,aI,dV,hM⟩,rfl⟩:=hW;have c0:=cell_of hr 0;have c1:=cell_of hr 1;have c2:=cell_of hr 2;simp only[bF,aT,bP]at c0 c1 c2;have f1:=aW hr 1;have f2:=aW hr 2;have Hr:=ah hr;clear hr;obtain⟨W,hW⟩:∃W:Nat,W=M/2^(8*(L/8)):=⟨_,rfl⟩;rw[<-hW]at c1;have HW:=ah hW;clear hW;go_enter Tryz.func247,Tryz.ntmps247;go_upto_region 0 with fail;obtain⟨m,hm,B3⟩:∃m:Nat,m=min n.toNat 32/\m<=32:=⟨_,rfl,by omega⟩;have Hm:=ah hm;clear hm;go_cut [2] (λn2 wc=>n2 = .int .i64 m/\w=wc);case first=>go_wp2;all_goals (go_meet;exact⟨int_eq (by have:=Hm.out;omega),rfl⟩)
 case rest=>
 obtain⟨rfl,rfl⟩:=hcut;go_upto_region 1 with fail;have hl8:L%8<8:=by omega
 go_cut [] (λwc=>wc.heap[p]?=some (.cells #[v,.int .u64 ((M+2^L*(x%2^m))/2^(8*(L/8)):Nat),.int .i64 (L%8:Nat)] 245 (0,0))/\Fr [p] w wc);case first=>
  go_region;all_goals go_wp2
  go_meet;refine⟨(bI Hr.out _).trans ?_,((Fr.refl _ w).setCell (by simp) _).drew⟩;have e:=zcu M L x m hM hx B3;rw[<-HW.out]at e;rw[e];rfl
 case rest=>
 obtain⟨zx,rZ⟩:=hcut;clear c2 f2;have c2:=cell_of zx 2;have f2:=aW zx 2;simp only[bF,aT,bP]at c2;go_upto_region 2 with fail;go_cut [] (λwz=>wz.heap[p]?=some (.cells #[v,.int .u64 ((M+2^L*(x%2^m))/2^(8*(L/8)):Nat),.int .i64 (L%8+m:Nat)] 245 (0,0))/\Fr [p] w wz);case first=>have Hr1:=ah zx;clear zx;go_wp2;go_meet;exact⟨(bI Hr1.out _).trans rfl,rZ.setCell (by simp) _⟩
 case rest=>
 obtain⟨wh,eG⟩:=hcut;have hN:=zhv M L x m hM;have P6:kE (L/8) (M+2^L*(x%2^m))=kE (L/8) M:=by rw[show 2^L=2^(8*(L/8))*2^(L%8) from by rw[<-mU,KO],uk,VC]
 rw[<-P6]at aI;clear P6;have Hm':=ah Hm;clear zx c2 f2 Hm Hr c0 c1 f1;obtain⟨N,Mn⟩:=ai (M+2^L*(x%2^m));rw[<-Mn]at wh hN aI;have HN:=ah Mn;clear Mn;have hK:L/8*8<=L+m:=by omega
 have wQ:=dr (aI) eG (by intro k hk;simp;rintro rfl;exact dV hk);have HM:=ah hM;have HR2:=ah wh;clear hM wh aI;go_wp2;go_loopg [] 5 (λk wr=>∃(u:Value) (q:Nat),k+q=L/8+5/\L/8<=q/\8*q<=L+m/\
  wr.heap[p]?=some (.cells #[u,.int .u64 (N/2^(8*q):Nat),.int .i64 (L+m-8*q:Nat)] 245 (0,0))/\
  wr.ownsRow 0 5 1 u q ((kE q N).map bv)/\u.ownBlock≠some p/\Fr (p::v.ownBlock.toList) w wr/\(∀y,u.ownBlock=some y->v.ownBlock=some y\/w.heap.size<=y))
 case atStart=>exact⟨v,L/8,by omega,by omega,by omega,by rw[HR2.out,show L+m-8*(L/8)=L%8+m from by omega],wQ,dV,eG.mono (by simp),λy hy=>.inl hy⟩
 case round=>
  obtain⟨u,q,hgk,vg,O4,hr,aI,Tr,dR,qG⟩:=hrel;have c0:=cell_of hr 0;have c1:=cell_of hr 1;have c2:=cell_of hr 2;simp only[bF,aT,bP]at c0 c1 c2;have f0:=aW hr 0;have f1:=aW hr 1;have f2:=aW hr 2;have Hr:=ah hr;clear hr;by_cases bg:8<=L+m-8*q
  ·obtain⟨W,hW⟩:∃W:Nat,W=N/2^(8*q):=⟨_,rfl⟩;rw[<-hW]at c1;have HW:=ah hW;clear hW;have O8:p<wr.heap.size:=lt_of_block Hr.out;have ea:p≠wr.heap.size:=Nat.ne_of_lt O8;go_upto_region 5 with fail;go_cut [] (λwz=>∃u',wz.heap[p]?=some (.cells #[u',.int .u64 (N/2^(8*q):Nat),.int .i64 (L+m-8*q:Nat)] 245 (0,0))/\
      wz.ownsRow 0 5 1 u' (q+1) ((kE (q+1) N).map bv)/\u'.ownBlock≠some p/\Fr (p::v.ownBlock.toList) w wz/\(∀y,u'.ownBlock=some y->v.ownBlock=some y\/w.heap.size<=y))
   case first=>
    go_region_law (refine step_append aq rfl (.tmp 51) (.tmp 57) rfl u q ((kE q N).map bv) _ (by rfl) (by rfl) (by first|exact aI.alloc _|exact aI.drew.alloc _) _ 1 1 _ (by rfl) (by decide) (by simp) (by exact nM _ _ _ _ (bC _ _)) (by rfl) (by simp[Value.oneCell']) (by omega) (by unfold maxLen;omega) ?_;intro lM fN w1 A1;have fM:=A1.fr.af (qm _ Hr.out) (by simpa using Tr);have g0:=cell_of fM 0;have g1:=aW fM 0;simp only[bF,aT]at g0);all_goals go_wp2
    all_goals go_meet
    all_goals
     have cV:=dR.size
     have bR:=A1.at_
     simp only[World.size_drew,fD]at bR
     have cQ:(Value.slice lM (q+1) fN).ownBlock≠some p:=by
      intro h
      rcases bR p (by rw[<-dD lM (q+1) fN,h];simp) with h|h
      ·exact Tr (by simpa using h)
      ·omega
     refine⟨_,(bI fM _).trans rfl,?_,cQ,?_,?_⟩
     ·rw[zg9,<-HW.out]
      exact ownsRow_setCell_other A1.own cQ _
     ·refine Fr.setCell (((dR.alloc _).drew).step A1.fr ?_) (by simp) _
      intro k hk
      rcases qG k (by simpa using hk) with h|h
      ·left;simp[h]
      ·right;exact h
     ·intro y hy
      rcases bR y (by rw[<-dD lM (q+1) fN,hy];simp) with h|h
      ·exact qG y (by simpa using h)
      ·right;omega
   case rest=>
   obtain⟨u',eS,XF,I7,fr',ob'⟩:=hcut;clear c0 c1 c2 f0 f1 f2 aI Tr dR qG ea O8;have c1:=cell_of eS 1;have c2:=cell_of eS 2;simp only[bF,aT,bP]at c1 c2;have f1:=aW eS 1;have f2:=aW eS 2;have MA:=ah eS;clear eS;rw[<-HW.out]at c1;go_wp2;go_roundg (gk-1);case measure=>omega
   case rel=>
    refine⟨u',q+1,by omega,by omega,by omega,(bI (bI MA.out _) _).trans ?_,ownsRow_setCell_other (ownsRow_setCell_other XF I7 _) I7 _,I7,Fr.setCell (fr'.setCell (by simp) _) (by simp) _,ob'⟩;rw[<-zd7,<-HW.out,<-zcd];have e1:((W:Int)/256)=((W/2^8:Nat):Int):=by omega
    have e2:((L+m-8*q:Nat):Int)-8=((L+m-8*q-8:Nat):Int):=by omega
    rw[e1,e2];rfl
  ·obtain rfl:q=(L+m)/8:=by omega
   have Ho:=ah aI;clear aI;go_wp2;go_end0;refine⟨rfl,dR,p::u.ownBlock.toList,?_,?_⟩
   ·rw[<-Hm'.out.out,<-HN.out];refine⟨u,⟨?_,Ho.out,Tr,hN⟩,rfl⟩;rw[Hr.out,show L+m-8*((L+m)/8)=(L+m)%8 from by omega]
   ·intro y hy;rcases fP.1 hy with rfl|hy
    ·simp
    ·rcases qG y (by simpa using hy) with h|h
     ·left;simp[h]
     ·right;exact h
theorem j3 (bs:LB):∀u∈bs.map bv,u.oneCell'=true:=by intro u hu;obtain⟨b,_,rfl⟩:=jo.1 hu;rfl
theorem zb1 (p:Nat) (F:LN) (bs:LB) (at_:Nat) (w:World) (hR:Rd w p F bs at_) :
  Calls Tryz.prog 136 #[.pointer (some ⟨p,0,none⟩)] w λe w'=>e = .returned (.int .i64 ((at_+7)/8:Nat))/\w=w':=by
 obtain⟨ao,cap,hr,hcs,rfl,dV,hlen,bR,cZ,dK⟩:=hR;have c1:=cell_of hr 1;simp only[bF,aT,bP]at c1;clear hr;go_enter Tryz.func136,Tryz.ntmps136;go_wp2;go_ret;exact⟨ze1 (int_eq (by omega)),rfl⟩
theorem zi4 {T:TypeId} {w w':World} {p:Nat} {F:LN} {bs:LB} {a a':Nat} (h:Re T w p F bs a) (hf:Fr [p] w w')
  (hh:∀ao cap,w.heap[p]?=some (.cells #[.slice ao bs.length cap,.int .i64 a] T (0,0))->w'.heap[p]?=some (.cells #[.slice ao bs.length cap,.int .i64 a'] T (0,0))) (ha:a'<=8*bs.length):Re T w' p F bs a':=by
 obtain⟨ao,cap,hr,hcs,rfl,dV,hlen,bR,cZ,dK⟩:=h;exact⟨ao,cap,hh ao cap hr,hcs.fr hf (by intro x hx;simp;rintro rfl;exact dV hx),rfl,dV,hlen,ha,cZ,dK⟩
theorem Hw {T:TypeId} {w w':World} {p:Nat} {F S:LN} {bs:LB} {a:Nat} (h:Re T w p F bs a) (hf:Fr S w w') (hn:∀x∈F,x∉S):Re T w' p F bs a:=by obtain⟨ao,cap,hr,hcs,rfl,dV,hlen,bR,cZ,dK⟩:=h;exact⟨ao,cap,hf.af hr (hn p (by simp)),hcs.fr hf (by intro x hx;exact hn x (by simp[hx])),rfl,dV,hlen,bR,cZ,dK⟩
theorem qsq (p:Nat) (F:LN) (bs:LB) (at_:Nat) (w:World) (hR:Rd w p F bs at_) :
  Calls Tryz.prog 204 #[.pointer (some ⟨p,0,none⟩)] w λe w'=>e = .returned (.tuple #[])/\Rd w' p F bs ((at_+7)/8*8)/\Fr [p] w w':=by
 have hR':=ah hR;obtain⟨ao,cap,hr,hcs,rfl,dV,hlen,bR,cZ,dK⟩:=hR;have c1:=cell_of hr 1;have f1:=aW hr 1;simp only[bF,aT,bP]at c1;clear hr;go_enter Tryz.func204,Tryz.ntmps204;go_wp2;go_end0;refine⟨rfl,zi4 hR'.out ((Fr.refl _ w).setCell (by simp) _) (λao cap h=>(bI h _).trans ?_) (by omega),(Fr.refl _ w).setCell (by simp) _⟩;have e:((at_:Int)+7)/8*8=((at_+7)/8*8:Nat):=by omega
 rw[e];rfl
theorem quz (ao:OA) (cap:Nat) (bs:LB) (w:World) (hcs:Cs w ao (bs.map bv)) (cZ:bs.length<=cap) (cz:ao=none->cap=0) (hlen:bs.length<=140737488351232) :
  Calls Tryz.prog 133 #[.slice ao bs.length cap] w λe w'=>∃p F,e = .returned (.pointer (some ⟨p,0,none⟩))/\Rd w' p F bs 0/\Fr [] w w'/\∀x∈F,w.heap.size<=x/\x<w'.heap.size:=by
 go_enter Tryz.func133,Tryz.ntmps133;go_wp2_with (refine gM aq rfl _ _ rfl (.slice none 0 0) 0 [] [] rfl rfl (wM _ _ _ _) _ _ _ (bs.map bv) rfl cZ cz hcs (by simp) (j3 bs) (by omega) (by unfold maxLen;omega) ?_;intro lM fN w1 A1;simp only[ft,qj]at A1);go_ret;have hb:∀x∈af lM,x=w.heap.size/\x<w1.heap.size:=λx hx=>⟨by simpa using A1.at_ x hx,A1.lt x hx⟩
 have JD:Cs (w1.alloc (.cells #[.slice lM bs.length fN,.int .i64 0] 264)) lM (bs.map bv):=(C8 A1.own).CL (qoc ((Fr.refl _ _).alloc _));refine⟨w1.heap.size,_,rfl,⟨lM,fN,bC _ _,JD,rfl,λh=>?_,hlen,by omega,A1.le,A1.max,A1.nil⟩,A1.fr.alloc _,λx hx=>?_⟩
 ·have:=(hb _ h).2;omega
 ·rw[fD];rcases fP.1 hx with rfl|hx
  ·exact⟨A1.fr.size,by omega⟩
  ·have:=hb _ hx;omega
theorem Sk (ao:OA) (cap:Nat) (bs:LB) (w:World) (hcs:Cs w ao (bs.map bv)) (cZ:bs.length<=cap) (cz:ao=none->cap=0) (hlen:bs.length<=140737488351232) :
  Calls Tryz.prog 133 #[.slice ao bs.length cap] w λe w'=>∃p F,e = .returned (.pointer (some ⟨p,0,none⟩))/\Rd w' p F bs 0/\Fr [] w w'/\∀x∈F,w.heap.size<=x:=
 (quz ao cap bs w hcs cZ cz hlen).mono λ_ _ ⟨p,F,h1,h2,h3,h4⟩=>⟨p,F,h1,h2,h3,λx hx=>(h4 x hx).1⟩
def lu (p:Nat) (F:LN) (bs:LB) (at_ n:Nat) (w:World) (e:Ending) (w':World):Prop:=
 ∃lN,e = .returned (.tuple #[.slice lN n n,.bool true])/\jK w' w.heap.size 5 lN (((bs.drop ((at_+7)/8)).take n).map bv)/\(lN=none->n=0)/\
    (∀x∈af lN,w.heap.size<=x)/\Rd w' p F bs ((at_+7)/8*8+8*n)/\Fr [p] w w'
theorem qpg (p:Nat) (F:LN) (bs:LB) (at_:Nat) (n:Int) (w:World) (hR:Rd w p F bs at_) (pL:0<=n) (hn:n<=bs.length-((at_+7)/8:Nat)) :
  Calls Tryz.prog 185 #[.pointer (some ⟨p,0,none⟩),.int .i64 n] w (lu p F bs at_ n.toNat w):=by
 obtain⟨n,rfl⟩:=Ga pL;have h1:decide ((n:Int)<0)=false:=by simp
 go_enter Tryz.func185,Tryz.ntmps185;go_upto_region 1 with fail;go_cut [] (λw1=>Rd w1 p F bs ((at_+7)/8*8)/\Fr [p] w w1);case first=>go_wp2_with (go_at_call 204;refine (qsq p F bs at_ _ hR).mono ?_;rintro e w' ⟨rfl,rY,rZ⟩);go_meet;exact⟨rY,rZ⟩
 case rest=>
 obtain⟨rY,rZ⟩:=hcut;clear hR;have HR1:=ah rY;obtain⟨ao,cap,hr,hcs,rfl,dV,hlen,bR,cZ,dK⟩:=rY;have c0:=cell_of hr 0;have c1:=cell_of hr 1;have f1:=aW hr 1;simp only[bF,aT,bP]at c0 c1;have Hr:=ah hr;clear hr;have h2:decide ((bs.length:Int)-(at_+7)/8<(n:Int))=false:=by simp;omega
 generalize hA:(at_+7)/8=A at *;go_upto_region 2 with fail;go_cut [25] (λs25 w2=>s25 = .bool false/\Rd w2 p (p::af ao) bs (A*8)/\Fr [p] w w2);case first=>go_quiet (fail);go_wp2;go_meet;exact⟨by simpa using hn,⟨ao,cap,Hr.out,hcs,rfl,dV,hlen,bR,cZ,dK⟩,rZ.jg _⟩
 case rest=>
 obtain⟨rfl,lJ,eG⟩:=hcut;clear c0 c1 f1 Hr hcs rZ HR1 bR;obtain⟨ao,cap,hr,hcs,hF,dV,hlen,bR,cZ,dK⟩:=lJ;have c0:=cell_of hr 0;have c1:=cell_of hr 1;have f1:=aW hr 1;simp only[bF,aT,bP]at c0 c1;have Hr:=ah hr;clear hr;go_wp2;refine uO 17 (by kernel_rfl) (by kernel_rfl) ?_;simp only[uF];repeat (go_big_quiet_step (fail))
 refine wpQuiet_nil ?_;have hcut:=hcs.cut cap A (A+n) (by omega) (by simp;omega) (by simpa using cZ);go_wp2_with (refine gM aq rfl _ _ rfl (.slice none 0 0) 0 [] [] rfl rfl (wM _ _ _ _) (cutAt ao cap A) (A+n-A) (cap-A) _ rfl (by omega) (λh=>by have:=dK.2 (qw9 h);omega) hcut (by simp;omega) (by rw[<-Hu,<-Fw];exact j3 _) (by omega) (by unfold maxLen;omega) ?_;intro lM fN w1 A1;simp only[ft,qj]at A1;have je:n<=fN:=(by have:=A1.le;omega);have fM:=A1.fr.af (w:=wc.drew) Hr.out (by simp);have d1:=cell_of fM 1;have g1:=aW fM 1;simp only[bF,aT,bP]at d1);all_goals
  go_ret2
  have e0:A+n-A=n:=by omega
  rw[e0,<-Hu,<-Fw]at A1
  have cQ:p∉af lM:=λh=>by
   have h1:=A1.at_ p h
   have h2:=lt_of_block Hr.out
   simp at h1
   omega
  have cV:=eG.size
  have fr3:Fr [] wc w1:=(Fr.av [] wc).trans A1.fr
  have fr4:Fr [p] w (w1.setCell ⟨p,1,none⟩ (.int .i64 (A*8+8*n))):=(eG.trans (fr3.mono (by simp))).setCell (by simp) _
  have aI:=ownsRow_setCell_other (a:=⟨p,1,none⟩) A1.own (λh=>cQ (by rw[<-dD lM n fN,h];simp)) (.int .i64 (A*8+8*n))
  unfold lu
  rw[hA]
  have vz:∀x∈af lM,w.heap.size<=x:=λx hx=>by
   have:=A1.at_ x hx
   simp at this
   omega
  refine⟨lM,rfl,Xx aI vz,λh=>?_,vz,⟨ao,cap,(bI fM _).trans ?_,(hcs.fr fr3 (by simp)).fr ((Fr.refl [p] w1).setCell (by simp) _) (by intro x hx;simp;rintro rfl;exact dV hx),(by first|exact hF|rfl),dV,hlen,by omega,cZ,dK⟩,fr4⟩
  ·have:=A1.nil h
   omega
  ·have e:((A:Int)*8+8*(n:Int))=((A*8+8*n:Nat):Int):=by omega
   rw[e]
   rfl
theorem qsl (p:Nat) (F:LN) (bs:LB) (at_:Nat) (n:Int) (w:World) (hR:Rd w p F bs at_) (hn:n<0\/bs.length-((at_+7)/8:Nat)<n) :
  Calls Tryz.prog 185 #[.pointer (some ⟨p,0,none⟩),.int .i64 n] w λe w'=>
   e = .returned (.tuple #[.slice none 0 0,.bool false])/\Rd w' p F bs ((at_+7)/8*8)/\Fr [p] w w':=by
 go_enter Tryz.func185,Tryz.ntmps185;go_upto_region 1 with fail;go_cut [] (λw1=>Rd w1 p F bs ((at_+7)/8*8)/\Fr [p] w w1);case first=>go_wp2_with (go_at_call 204;refine (qsq p F bs at_ _ hR).mono ?_;rintro e w' ⟨rfl,rY,rZ⟩);go_meet;exact⟨rY,rZ⟩
 case rest=>
 obtain⟨rY,rZ⟩:=hcut;clear hR;obtain⟨ao,cap,hr,hcs,rfl,dV,hlen,bR,cZ,dK⟩:=rY;have c0:=cell_of hr 0;have c1:=cell_of hr 1;simp only[bF,aT,bP]at c0 c1;have Hr:=ah hr;clear hr;have done:∀m,Rd (wc.drewN m) p (p::af ao) bs ((at_+7)/8*8):=λm=>⟨ao,cap,Hr.out,hcs,rfl,dV,hlen,bR,cZ,dK⟩
 have Hd:=ah done;clear done;by_cases a1:n<0
 ·have h1:decide (n<0)=true:=by simp;omega
  go_upto_region 2 with fail;go_quiet (fail);go_wp2;go_ret2;exact⟨rfl,Hd.out _,rZ.jg _⟩
 ·have h1:decide (n<0)=false:=by simp;omega
  have h2:decide ((bs.length:Int)-(at_+7)/8<n)=true:=by simp;omega
  go_upto_region 2 with fail;go_quiet (fail);go_wp2;go_ret2;exact⟨rfl,Hd.out _,rZ.jg _⟩
end bits
namespace huf
open Go Go.RowKit lib bm bl
theorem zey (p:Nat) (F:LN) (bs:LB) (at_ n:Nat) (w:World) (h:bits.Rd w p F bs at_) (hn:n<=32) (hl:at_+n<=8*bs.length) :
  Calls Tryz.prog 165 #[.pointer (some ⟨p,0,none⟩),.int .i64 n] w λe w'=>e = .returned (.tuple #[.int .u32 (cG (((au bs).drop at_).take n):Nat),.bool true])/\bits.Rd w' p F bs (at_+n)/\Fr [p] w w':=by
 have h1:=bits.Dd p F bs at_ n w h (by omega) (by omega) (by omega);rw[C9,zc6 bs at_ n hl]at h1;exact h1
structure Ri (w:World) (a:OA) (cap:Nat) (xs:LN):Prop where
 cs:Cs w a (xs.map λx=>.int .i64 (x:Nat))
 le:xs.length<=cap
 max:cap<=maxLen
 nil:a=none->cap=0
theorem Ri.fr {w w':World} {a:OA} {cap:Nat} {xs:LN} (h:Ri w a cap xs) (f:Fr [] w w'):Ri w' a cap xs:=⟨h.cs.fr f (by simp),h.le,h.max,h.nil⟩
theorem Ri.at {w:World} {a:OA} {cap:Nat} {xs:LN} (h:Ri w a cap xs) {i:Nat} (hi:i<xs.length):∃g o,a=some ⟨g,o,none⟩/\w.cell? ⟨g,o+i,none⟩=some (.int .i64 (xs[i]:Nat)):=by obtain⟨g,o,rfl,hc⟩:=h.cs.at (by simp;omega);exact⟨g,o,rfl,hc i _ (by simp[hi])⟩
theorem NS:∀a b:List Nat,weight (a++b)=weight a+weight b
 | [],b=>by simp[weight]
 | x::a,b=>by rw[zi,weight,weight,NS a b];omega
theorem WJ:∀l:List Nat,weight l<=16384*l.length
 | []=>ep _
 | x::l=>by
  have:=WJ l;have h:(if x=0 then 0 else 2^(15-x))<=16384:=by
   split
   ·omega
   ·exact ck (kh (by decide) (show 15-x<=14 by omega)) (by decide)
  rw[weight,bU];omega
theorem Wy (a:OA) (cap:Nat) (ls:LN) (w:World) (h:Ri w a cap ls) (hle:∀l∈ls,l<=15) (hlen:ls.length<=100000) :
  Calls Tryz.prog 217 #[.slice a ls.length cap] w λe w'=>e = .returned (.tuple #[.int .i64 (weight ls:Nat),.bool true])/\w=w':=by
 obtain⟨L,hL⟩:=ai ls.length;rw[<-hL]at hlen ⊢;have H:=aw h hle hL;clear h hle hL;go_enter Tryz.func217,Tryz.ntmps217;go_upto_block 0 with fail;go_wp2;go_loopg [4,6,9] L (λk s4 s6 s9 wr=>∃i:Nat,s9 = .int .i64 (i:Nat)/\s4 = .int .i64 (weight (ls.take i):Nat)/\i+k=L/\w=wr);case atStart=>exact⟨0,rfl,rfl,by omega,rfl⟩
 case round=>
  obtain⟨i,rfl,rfl,bX,rfl⟩:=hrel;by_cases hi:i<L
  ·obtain⟨k,rfl⟩:∃k,gk=k+1:=⟨gk-1,by omega⟩;have eO:i<ls.length:=by rw[<-H.out.2.2];exact hi
   obtain⟨g,o,rfl,hc⟩:=H.out.1.at eO;have pz:=H.out.2.1 _ (tk eO);have hw:=NS (ls.take i) [ls[i]];rw[<-Ef eO]at hw;have zt:=WJ (ls.take i);rw[dU]at zt;generalize ls[i]=x at *;generalize hW:weight (ls.take i)=W at *;generalize Dy:weight (ls.take (i+1))=W2 at *;have hWb:W<=1638400000:=by omega
   by_cases h0:x=0
   ·subst h0;have e:W2=W:=by rw[hw];simp[weight]
    have HE:=ak e Dy;clear e hw zt hW Dy;go_wp2;go_roundg k;case measure=>omega
    case rel=>exact⟨i+1,by go_num,by rw[HE.l1,HE.o0],by omega,rfl⟩
   ·have hx:1<=x:=by omega
    obtain⟨y,hy⟩:=ai (15-x);have e1:(15:Int)-(x:Int)=(y:Int):=by omega
    have hp:2^y<=16384:=ck (kh (by decide) (show y<=14 by omega)) (by decide);have e:W2=W+2^y:=by rw[hw,hy];simp[weight,h0]
    obtain⟨z,hz⟩:=ai (2^y);rw[<-hz]at hp e;have e2:(2:Int)^y=(z:Int):=by rw[hz];exact zh y
    have HE:=ak e Dy;have zaX:y<=14:=by omega
    clear e hw zt hW Dy hz hy;go_wp2;go_roundg k;case measure=>omega
    case rel=>exact⟨i+1,by go_num,by rw[HE.l1,HE.o0];first|go_num|rfl,by omega,rfl⟩
  ·obtain rfl:i=L:=by omega
   have hW:weight (ls.take i)=weight ls:=by rw[mL (by rw[<-H.out.2.2];exact ay _)]
   have HW:=ah hW;clear hW;go_wp2;go_ret2;exact⟨by rw[<-HW.out];rfl,rfl⟩
theorem qsd (a:OA) (cap:Nat) (ls:LN) (w:World) (h:Ri w a cap ls) (hle:∀l∈ls,l<=15) (hlen:ls.length<=100000) :
  Calls Tryz.prog 208 #[.slice a ls.length cap] w λe w'=>e = .returned (.bool (decide (weight ls=32768)))/\w=w':=by
 have hc:=ah (Wy a cap ls w h hle hlen);clear h hle;go_enter Tryz.func208,Tryz.ntmps208;go_wp2_with (go_at_call 217;refine hc.out.mono ?_;rintro e w' ⟨rfl,rfl⟩);go_ret;refine⟨ze1 (zhf ?_),rfl⟩;first
  | (rw[Bool.eq_iff_iff];simp;omega)
  | simp
theorem qq8 (ls:LN) (hle:∀l∈ls,l<=15) (hw:weight ls<=32768) (l:Nat) (hl:l<=15):gZ ls l<=32768:=by have h1:=Wn ls l hl;have h2:=VX ls (show l<=16 by omega);rw[Xu ls hle]at h2;have h3:gZ ls l*1<=gZ ls l*2^(15-l):=Nat.mul_le_mul_left _ (nQ _);omega
def cw (ls:LN) (l i j:Nat):Nat:=if ae ls j≠0/\(ae ls j<l\/(ae ls j=l/\j<i)) then code ls j else 0
def cN (ls:LN) (j:Nat):Nat:=if ae ls j=0 then 0 else code ls j
def du (ls:LN):List Nat:=(List.range ls.length).map (cN ls)
theorem zar {ls:LN} {l i j:Nat} (h:j≠i\/ae ls i≠l):cw ls l (i+1) j=cw ls l i j:=by
 unfold cw;congr 1;rw[eq_iff_iff];constructor
 ·rintro⟨h1,h2|⟨h2,h3⟩⟩
  ·exact⟨h1,.inl h2⟩
  ·refine⟨h1,.inr ⟨h2,?_⟩⟩;rcases kI j i with k|k
   ·exact k
   ·obtain rfl:j=i:=by omega
    rcases h with h|h
    ·exact absurd rfl h
    ·exact absurd h2 h
 ·rintro⟨h1,h2|⟨h2,h3⟩⟩
  ·exact⟨h1,.inl h2⟩
  ·exact⟨h1,.inr ⟨h2,by omega⟩⟩
theorem zin {ls:LN} {l i:Nat} (h0:l≠0) (h:ae ls i=l):cw ls l (i+1) i=gZ ls l+(ls.take i).count l:=by unfold cw;rw[if_pos ⟨by omega,.inr ⟨h,by omega⟩⟩,code,h]
theorem zha {ls:LN} {l j:Nat} (h0:l≠0) (hj:j<ls.length):cw ls l ls.length j=cw ls (l+1) 0 j:=by
 unfold cw;congr 1;rw[eq_iff_iff];constructor
 ·rintro⟨h1,h2|⟨h2,h3⟩⟩
  ·exact⟨h1,.inl (by omega)⟩
  ·exact⟨h1,.inl (by omega)⟩
 ·rintro⟨h1,h2|⟨h2,h3⟩⟩
  ·rcases kI (ae ls j) l with k|k
   ·exact⟨h1,.inl k⟩
   ·exact⟨h1,.inr ⟨by omega,hj⟩⟩
  ·omega
theorem zio {ls:LN} {j:Nat} (hle:ae ls j<=15):cw ls 16 0 j=cN ls j:=by
 unfold cw cN;by_cases h:ae ls j=0
 ·rw[if_pos h,if_neg (λhc=>hc.1 h)]
 ·rw[if_neg h,if_pos ⟨h,.inl (by omega)⟩]
theorem zeb (ls:LN) (j:Nat):cw ls 1 0 j=0:=by unfold cw;rw[if_neg];rintro⟨h1,h2|⟨h2,h3⟩⟩<;>omega
theorem Hj:az Tryz.prog 147 32 (.int .u32 0) 1 4:=az.of Tryz.underlying147 (by kernel_rfl) rfl (by decide)
def Cw (w:World) (ls:LN) (Q l i:Nat):Prop:=∃A,w.heap[Q]?=some (.cells A 32 (0,0))/\A.size=ls.length/\∀j,j<ls.length->A[j]?=some (.int .u32 (cw ls l i j:Nat))
theorem zhb {w:World} {ls:LN} {Q:Nat} (h:w.ownsRow 0 32 1 (.slice (some ⟨Q,0,none⟩) ls.length ls.length) ls.length (madeCells (Value.int .u32 0).cells (ls.length*1)).toList):Cw w ls Q 1 0:=by
 obtain⟨o1,o2⟩:=h;rcases o2 with⟨o2,_⟩|⟨g,c',cur,o2,_,hg,_,_,cV,ht⟩
 ·cases o2
 ·simp only[mV,eJ,ru,and_true,true_and]at o2;obtain⟨rfl,rfl⟩:=o2;refine⟨cur,hg,by omega,λj hj=>?_⟩;rw[zeb];have hj':j<cur.toList.length:=by simp;omega
  have h1:cur.toList[j]?=(madeCells (Value.int .u32 0).cells (ls.length*1)).toList[j]?:=by rw[<-ht,oX,if_pos (by omega)]
  rw[<-oY,h1,show (Value.int .u32 0).cells=#[.int .u32 0] from rfl,toList_madeCells_one,Nn,if_pos (by omega)];rfl
def ib (w:World) (ls:LN) (e:Ending) (w':World):Prop:=
 ∃g,e = .returned (.tuple #[.slice (some ⟨g,0,none⟩) ls.length ls.length,.int .i64 0])/\Cs w' (some ⟨g,0,none⟩) ((du ls).map λx=>.int .u32 (x:Nat))/\w.heap.size<=g/\g<w'.heap.size/\Fr [] w w'
theorem Sr (a:OA) (cap:Nat) (ls:LN) (w:World) (h:Ri w a cap ls) (hle:∀l∈ls,l<=15) (hlen:ls.length<=400) (hw:weight ls<=32768) :
  Calls Tryz.prog 205 #[.slice a ls.length cap] w (ib w ls):=by
 obtain⟨L,hL⟩:=ai ls.length;have hc:=Wy a cap ls w h hle (by omega);rw[<-hL]at hlen hc ⊢;obtain⟨W,hW⟩:=ai (weight ls);rw[<-hW]at hc hw;have H:=aQ h hle hL hc hW;obtain⟨hu,⟨ti,iR,v8,gT,sN⟩,uv,hp⟩:=Hj;clear h hle hL hc hW;have d1:decide ((400:Int)<L)=false:=by simp;omega
 have d2:decide ((32768:Int)<W)=false:=by simp;omega
 go_enter Tryz.func205,Tryz.ntmps205;go_upto_block 1 with (first|(go_at_call 217;refine H.out.2.2.2.1.mono ?_;rintro e w' ⟨rfl,rfl⟩)|(refine wpList_make_full _ rfl _ _ 147 rfl 0 32 ti (.int .u32 0) 1 hu iR v8 gT .i64 .i64 (L:Nat) (L:Nat) L rfl rfl rfl rfl (by rw[sN];omega) (by unfold maxLen;omega) (by omega) ?_;intro w3 kJ iT;have H3:=ak kJ iT;clear kJ iT));obtain⟨Q,hQ⟩:=ai w.heap.size;rw[<-hQ]at H3 ⊢;have aH:Cw w3 ls Q 1 0:=zhb (by rw[<-H.out.2.2.1];exact H3.o0);have f3:Fr [] w w3:=(Fr.refl [] w).grown H3.l1 (λk hk=>by cases hk);have HS:=aw aH f3 hQ;clear aH f3 hQ H3 hu iR v8 gT sN uv hp d1 d2;go_wp2;go_loopg [7,8,9,10,38] 15 (λk s7 s8 s9 s10 s38 wr=>∃l nx:Nat,s8 = .int .i64 (l:Nat)/\s7 = .int .u32 (nx:Nat)/\l+k=16/\1<=l/\2*nx=gZ ls l/\Cw wr ls Q l 0/\Fr [] w wr);case atStart=>exact⟨1,0,rfl,rfl,rfl,ay _,rfl,HS.o0,HS.o1⟩
 case round=>
  obtain⟨l,nx,rfl,rfl,zG,hH,xj,Cd,hf⟩:=hrel;by_cases hl:l<=15
  ·obtain⟨k,rfl⟩:∃k,gk=k+1:=⟨gk-1,by omega⟩;have hb:=qq8 ls H.out.2.1 (by rw[<-H.out.2.2.2.2];exact hw) l hl;obtain⟨wo,rfl⟩:∃wo:World,wo=wr:=⟨_,rfl⟩;obtain⟨n2,jM⟩:=ai (gZ ls l);rw[<-jM]at xj hb;have HX:=aQ Cd hf jM xj zG;have zbI:nx<=16384:=by omega
   have e2:(nx:Int)*2=(n2:Int):=by omega
   clear Cd hf jM xj zG;go_upto_block 3 with fail;clear e2;go_wp2;go_loopg [7,9,10,38] L (λk s7 s9 s10 s38 wr=>∃i y:Nat,s38 = .int .i64 (i:Nat)/\s7 = .int .u32 (y:Nat)/\i+k=L/\y=n2+(ls.take i).count l/\Cw wr ls Q l i/\Fr [] w wr);case atStart=>exact⟨0,n2,rfl,rfl,by omega,by simp,HX.o0,HX.o1⟩
   case round=>
    obtain⟨i,y,rfl,rfl,bX,hy,Cd,hf⟩:=hrel;have fU:=MY (a:=l) (l:=ls.take i);rw[dU]at fU;have LI:y<=40000:=by omega
    by_cases hi:i<L
    ·obtain⟨k2,rfl⟩:∃k2,gk=k2+1:=⟨gk-1,by omega⟩;have eO:i<ls.length:=by rw[<-H.out.2.2.1];exact hi
     obtain⟨g,o,rfl,hc⟩:=(H.out.1.fr hf).at eO;have fH:ae ls i=ls[i]:=by unfold ae;rw[br eO];rfl
     have GN:=Ta ls i l eO;rw[fH]at GN;obtain⟨A,hA,dW,dZ⟩:=Cd;have zA:=aW hA i;obtain⟨x0,iD⟩:∃x,wr.cell? ⟨Q,i,none⟩=some x:=⟨_,by rw[cell_of hA];exact dZ i eO⟩;have f2:Fr [Q] wr (wr.setCell ⟨Q,i,none⟩ (.int .u32 y)):=(Fr.refl [Q] wr).setCell (by simp) _;obtain⟨v,hv⟩:=ai (ls[i]);rw[<-hv]at hc fH GN;have HI:=dk (And.intro fH GN) (And.intro hA (And.intro dW dZ)) hf hy bX f2 hv;clear fH GN hA dW dZ hf hy bX f2 hv fU;by_cases hvl:v=l
     ·have d1:((v:Int)==(l:Int))=true:=by simp;omega
      go_wp2;go_roundg k2;case measure=>have:=HI.out.2.2.2.2.1;omega
      case rel=>
       obtain⟨⟨fH,GN⟩,⟨hA,dW,dZ⟩,hf,hy,bX,f2,_⟩:=HI.out;rw[if_pos hvl]at GN;refine⟨i+1,y+1,by go_num,by go_num,by omega,by omega,⟨_,bI hA _,by simp[dW],λj hj=>?_⟩,hf.step f2 (λz hz=>.inr (by simp at hz;rw[hz,HS.l2];exact ay _))⟩;by_cases e:j=i
       ·subst e;rw[iG (by omega),zin (by omega) (by rw[fH,hvl]),hy,HX.o2]
       ·rw[aX (by omega),zar (.inl e)];exact dZ j hj
     ·have d1:((v:Int)==(l:Int))=false:=by simp;omega
      go_wp2;go_roundg k2;case measure=>have:=HI.out.2.2.2.2.1;omega
      case rel=>obtain⟨⟨fH,GN⟩,⟨hA,dW,dZ⟩,hf,hy,bX,f2,_⟩:=HI.out;rw[if_neg hvl]at GN;exact⟨i+1,y,by go_num,by go_num,by omega,by omega,⟨A,hA,dW,λj hj=>by rw[zar (.inr (by rw[fH];exact hvl))];exact dZ j hj⟩,hf⟩
    ·obtain rfl:i=L:=by omega
     have ht:ls.take i=ls:=mL (by rw[<-H.out.2.2.1];exact ay _);rw[ht]at hy;have HI:=aw Cd hf hy;clear Cd hf hy fU ht bX;go_wp2;go_roundg k;case measure=>have:=HX.l4;omega
     case rel=>
      have zG:=HX.l4;obtain⟨⟨A,hA,dW,dZ⟩,hf,hy⟩:=HI.out;refine⟨l+1,y,by go_num,rfl,by omega,by omega,?_,⟨A,hA,dW,λj hj=>?_⟩,hf⟩
      ·rw[gZ,if_neg (by omega),<-HX.o2,hy]
      ·rw[<-zha (by omega) hj,<-H.out.2.2.1];exact dZ j hj
  ·obtain rfl:l=16:=by omega
   obtain⟨A,hA,dW,dZ⟩:=Cd;have HI:=aG hA dW dZ hf;clear hA dW dZ hf xj zG;go_wp2;go_ret2;obtain⟨hA,dW,dZ,hf⟩:=HI.out;unfold ib;rw[<-H.out.2.2.1];refine⟨Q,rfl,.inr ⟨Q,0,rfl,λj v hv=>?_⟩,by rw[HS.l2];exact ay _,lt_of_block hA,hf⟩;have hj:j<ls.length:=by have:=(jq.1 hv).1;simpa[du] using this
   rw[ft,cell_of hA,dZ j hj,zio (H.out.2.1 _ (FG hj))];rw[<-hv];simp[du,hj]
open bits
def ke (ls:LN) (l:Nat):Nat:=if l=0 then 0 else (syms ls l ls.length).length
structure Aa (w:World) (P D:Nat) (ls:LN) (first:Nat->Nat) (sa:Nat->Option Addr) (sc:Nat->Nat):Prop where
 box:∃A,w.heap[P]?=some (.cells A 309 (0,0))/\A.size=33/\(∀l,l<16->A[l]?=some (.int .u32 (first l:Nat)))/\(∀l,l<16->A[16+l]?=some (.slice (sa l) (ke ls l) (sc l)))/\A[32]?=some (.int .i64 (D:Nat))
 fst:∀l,0<ke ls l->first l=gZ ls l
 top:∀s,s<ls.length->ae ls s<=D
 low:D<=15
 low':∀l,first l<=32768
 syms:∀l,l<16->0<l->Ri w (sa l) (sc l) (syms ls l ls.length)
 len:ls.length<=400
theorem Aa.cells {w:World} {P D:Nat} {ls:LN} {first:Nat->Nat} {sa:Nat->Option Addr} {sc:Nat->Nat} (h:Aa w P D ls first sa sc) :
  (∀l,l<16->w.cell? ⟨P,l,none⟩=some (.int .u32 (first l:Nat)))/\(∀l,l<16->w.cell? ⟨P,16+l,none⟩=some (.slice (sa l) (ke ls l) (sc l)))/\w.cell? ⟨P,32,none⟩=some (.int .i64 D):=by
 obtain⟨A,hA,_,h1,h2,h3⟩:=h.box;exact⟨λl hl=>by rw[cell_of hA];exact h1 l hl,λl hl=>by rw[cell_of hA];exact h2 l hl,by rw[cell_of hA];exact h3⟩
theorem Aa.fr {w w':World} {P D:Nat} {ls:LN} {first:Nat->Nat} {sa:Nat->Option Addr} {sc:Nat->Nat} (h:Aa w P D ls first sa sc) (f:Fr [] w w'):Aa w' P D ls first sa sc:=by obtain⟨A,hA,h1⟩:=h.box;exact⟨⟨A,f.af hA (by simp),h1⟩,h.fst,h.top,h.low,h.low',λl h1 h2=>(h.syms l h1 h2).fr f,h.len⟩
theorem qx5 (ls:LN) (l:Nat):ke ls l<=ls.length:=by
 unfold ke;split
 ·omega
 ·have:=FY (λs=>ae ls s==l) (List.range ls.length);rw[Da]at this;exact this
theorem qwt {ls:LN} {n v l:Nat} (h:0<l):meets ls n v l=(decide (0<ke ls l)&&(decide (gZ ls l<(v+1)*2^(l-n))&&decide (v*2^(l-n)<gZ ls l+ke ls l))):=by unfold meets ke;rw[if_neg (by omega)]
theorem zc9 (P D:Nat) (ls:LN) (first:Nat->Nat) (sa:Nat->Option Addr) (sc:Nat->Nat) (v n:Nat) (w:World) (h:Aa w P D ls first sa sc) (hn:n<=15) (hv:v<2^n) :
  Calls Tryz.prog 218 #[.pointer (some ⟨P,0,none⟩),.int .u32 v,.int .i64 n] w λe w'=>e = .returned (.bool (ef ls n v))/\Fr [] w w':=by
 have H:=ak h hv;have hD:=h.low;have hlen:=h.len;clear h hv;go_enter Tryz.func218,Tryz.ntmps218;go_upto_block 0 with fail;go_wp2;go_loopg [7,8,9,10] 16 (λk s7 s8 s9 s10 wr=>∃(l:Nat),s7 = .int .i64 (l:Nat)/\l+k=17+n/\n<l/\Fr [] w wr/\∀m,n<m->m<l->meets ls n v m=false);case atStart=>exact⟨n+1,by go_num,by omega,by omega,Fr.refl [] w,λm h1 h2=>by omega⟩
 case round=>
  obtain⟨l,rfl,zG,tH,hf,oK⟩:=hrel;obtain⟨cY,jD,wm⟩:=(H.out.1.fr hf).cells;have HF:=ah hf;clear hf;by_cases hl:l<=D
  ·obtain⟨k,rfl⟩:∃k,gk=k+1:=⟨gk-1,by omega⟩;have hm:=qwt (ls:=ls) (n:=n) (v:=v) (l:=l) (by omega);have fY:(v+1)*2^(l-n)<=32768:=by have h1:(v+1)*2^(l-n)<=2^n*2^(l-n):=uN _ H.out.2;rw[<-mU,show n+(l-n)=l by omega]at h1;exact ck h1 (ck (kh (by decide) (show l<=15 by omega)) (by decide))
   have c1:=cY l (by omega);have c2:=jD l (by omega);obtain⟨f1,jT⟩:=ai (first l);obtain⟨m1,jt⟩:=ai (ke ls l);obtain⟨x1,eQ⟩:=ai ((v+1)*2^(l-n));obtain⟨x0,iD⟩:=ai (v*2^(l-n));have Ze:f1<=32768:=by rw[jT];exact H.out.1.low' l
   have YS:m1<=400:=by rw[jt];have:=qx5 ls l;omega
   rw[<-eQ,<-iD,<-jt]at hm;rw[<-jT]at c1;rw[<-jt]at c2;rw[<-eQ]at fY;have zaY:x0<=x1:=by rw[iD,eQ];exact uN _ (by omega)
   have B8:0<m1->f1=gZ ls l:=λh0=>by rw[jT];exact H.out.1.fst l (by omega)
   have HI:=dk oK hm B8 eQ iD jT jt;clear oK hm B8 jT jt cY jD;have rG:(n:Int)<=l:=by omega
   go_upto_region 5 with fail;have e0:(v:Int)*2^(l-n)%4294967296=(x0:Nat):=by
    have:((v:Int)*2^(l-n))=(x0:Nat):=by rw[iD];push_cast;rfl
    rw[this];omega
   have OL:v+1<=32768:=ck H.out.2 (ck (kh (by decide) hn) (by decide));have e1:((v:Int)+1)*2^(l-n)%4294967296=(x1:Nat):=by
    have:(((v:Int)+1)*2^(l-n))=(x1:Nat):=by rw[eQ];push_cast;rfl
    rw[this];omega
   clear iD eQ;go_quiet (fail);rw[e0,e1];clear e0 e1;have b0:decide ((0:Int)<(m1:Int))=decide (0<m1):=by simp
   have b1:decide ((f1:Int)<(x1:Int))=decide (f1<x1):=by simp
   have b2:decide ((x0:Int)<(f1:Int)+m1)=decide (x0<f1+m1):=by rw[decide_eq_decide];omega
   have next:(meets ls n v l=false)->∀m,n<m->m<l+1->meets ls n v m=false:=λh m h1 h2=>by
    rcases Nat.lt_succ_iff_lt_or_eq.1 h2 with h3|h3
    ·exact HI.o0 m h1 h3
    ·rw[h3];exact h
   have HN:=ah next
   clear next
   by_cases p0:0<m1
   ·have p0':=decide_eq_true p0;rw[p0']at b0;by_cases p1:f1<x1
    ·rw[decide_eq_true p1]at b1;by_cases p2:x0<f1+m1
     ·rw[decide_eq_true p2]at b2;go_wp2;go_ret;refine⟨?_,?_⟩
      ·rw[qws tH (by rw[HI.o1,<-HI.o2 p0];simp[p0,p1,p2])];rfl
      ·exact HF.out.trans (Fr.drewN [] _ _)
     ·rw[decide_eq_false p2]at b2;go_wp2;go_roundg k;case measure=>omega
      case rel=>exact⟨l+1,by go_num,by omega,by omega,HF.out.trans (Fr.drewN [] _ _),HN.out (by rw[HI.o1,<-HI.o2 p0];simp[p2])⟩
    ·rw[decide_eq_false p1]at b1;go_wp2;go_roundg k;case measure=>omega
     case rel=>exact⟨l+1,by go_num,by omega,by omega,HF.out.trans (Fr.drewN [] _ _),HN.out (by rw[HI.o1,<-HI.o2 p0];simp[p1])⟩
   ·rw[decide_eq_false p0]at b0;go_wp2;go_roundg k;case measure=>omega
    case rel=>exact⟨l+1,by go_num,by omega,by omega,HF.out.trans (Fr.drewN [] _ _),HN.out (by rw[HI.o1];simp[p0])⟩
  ·have d0:decide ((l:Int)<=D)=false:=by simp;omega
   go_wp2;go_ret;exact⟨by rw[qtq H.out.1.top λm h1 h2=>oK m h1 (by omega)];rfl,HF.out⟩
end huf
namespace huf
open Go Go.RowKit lib bm bl
theorem Aa.gJ {S:LN} {w w':World} {P D:Nat} {ls:LN} {first:Nat->Nat} {sa:Nat->Option Addr} {sc:Nat->Nat} (h:Aa w P D ls first sa sc) (f:Fr S w w') (hP:P∉S) (hs:∀l,l<16->0<l->∀x∈af (sa l),x∉S):Aa w' P D ls first sa sc:=by obtain⟨A,hA,h1⟩:=h.box;exact⟨⟨A,f.af hA hP,h1⟩,h.fst,h.top,h.low,h.low',λl h1 h2=>⟨(h.syms l h1 h2).cs.fr f (hs l h1 h2),(h.syms l h1 h2).le,(h.syms l h1 h2).max,(h.syms l h1 h2).nil⟩,h.len⟩
theorem zb9 {ls:LN} {first:Nat->Nat} {n v:Nat} (hf:0<ke ls n->first n=gZ ls n) (h:¬(0<n/\first n<=v/\v-first n<ke ls n)):iq ls n v=none:=by
 refine qz5 ?_;by_cases h0:n=0
 ·exact .inl h0
 ·right;by_cases hs:0<ke ls n
  ·have:=hf hs;unfold ke at h hs;rw[if_neg h0]at h hs;omega
  ·unfold ke at hs;rw[if_neg h0]at hs;omega
theorem M1 (b:Bool):sT b<2:=by cases b<;>decide
theorem Vh (v:Nat) (b:Bool) (hv:v<65536):bits .or .u32 ((v:Int)*2) (sT b:Nat)=((2*v+sT b:Nat):Int):=by
 have hb:sT b<2:=by cases b<;>decide
 have e:(v:Int)*2=((v*2:Nat):Int):=by omega
 have h1:=Fy (sT b) v 1 (by simpa using hb);rw[e,u32_or_nat (v*2) (sT b) (by omega) (by omega),Nat.or_comm,show v*2=v*2^1 from rfl,h1];congr 1;omega
theorem Sk (P D:Nat) (ls:LN) (first:Nat->Nat) (sa:Nat->Option Addr) (sc:Nat->Nat) (p:Nat) (F:LN) (bs:LB) (at_:Nat) (w:World) (h:Aa w P D ls first sa sc) (hr:bits.Rd w p F bs at_)
  (hP:P≠p) (hs:∀l,l<16->0<l->∀x∈af (sa l),x≠p) (s m c:Nat) (dh:cu ls 15 0 0 ((au bs).drop at_)=(s,m,c)) :
  Calls Tryz.prog 206 #[.pointer (some ⟨P,0,none⟩),.pointer (some ⟨p,0,none⟩)] w λe w'=>e = .returned (.tuple #[.int .i64 s,.int .i64 c])/\bits.Rd w' p F bs (at_+m)/\Fr [p] w w':=by
 have hlen:=h.len;have H:=aQ h hr hP hs dh;clear h hr hP hs dh;go_enter Tryz.func206,Tryz.ntmps206;go_upto_block 0 with fail;go_wp2;go_loopg [6,7,8,9,10] 16 (λk s6 s7 s8 s9 s10 wr=>∃(n v:Nat),s6 = .int .u32 (v:Nat)/\s7 = .int .i64 (n:Nat)/\n+k=16/\0<k/\v<2^n/\bits.Rd wr p F bs (at_+n)/\Fr [p] w wr/\cu ls (15-n) n v ((au bs).drop (at_+n))=(s,m,c));case atStart=>exact⟨0,0,rfl,rfl,by omega,by omega,by decide,H.o1,Fr.refl [p] w,H.l4⟩
 case round=>
  obtain⟨n,v,rfl,rfl,Pd,AB,hv,di,hf,dh⟩:=hrel;obtain⟨k,rfl⟩:∃k,gk=k+1:=⟨gk-1,by omega⟩;have hT:=H.o0.gJ hf (by simpa using H.o2) (λl h1 h2 x hx=>by simpa using H.o3 l h1 h2 x hx);obtain⟨cY,jD,wm⟩:=hT.cells;have c1:=cY n (by omega);have c2:=jD n (by omega);have Dp:v<65536:=eW hv (ck (kh (by decide) (show n<=15 by omega)) (by decide));obtain⟨f1,jT⟩:=ai (first n);obtain⟨m1,jt⟩:=ai (ke ls n);have Ze:f1<=32768:=by rw[jT];exact hT.low' n
  have YS:m1<=400:=by rw[jt];have:=qx5 ls n;omega
  have GK:=hT.fst n;rw[<-jT,<-jt]at GK;rw[<-jT]at c1;rw[<-jt]at c2;have HR:=lv hv di hf dh hT GK jT jt;clear hv di hf dh hT GK jT jt cY jD wm;by_cases hit:0<n/\f1<=v/\v-f1<m1
  ·obtain⟨i0,i1,i2⟩:=hit;obtain⟨y,rfl⟩:∃y,v=f1+y:=⟨v-f1,by omega⟩;have hy:y<m1:=by omega
   have TI:n≠0:=by omega
   have iy:(syms ls n ls.length).length=m1:=by rw[HR.out.2.2.2.2.2.2.2];unfold ke;rw[if_neg TI]
   obtain⟨g,o,ha,fU⟩:=(HR.out.2.2.2.2.1.syms n (by omega) i0).at (i:=y) (by omega);obtain⟨z,hz⟩:∃z,z=(syms ls n ls.length)[y]'(by omega):=⟨_,rfl⟩;rw[<-hz]at fU;rw[ha]at c2;have hh:iq ls n (f1+y)=some z:=by have e:=HR.out.2.2.2.2.2.1 (by omega);refine qz4 i0 (by omega) ?_;rw[show f1+y-gZ ls n=y by omega,br (by omega),hz]
   have dh:=HR.out.2.2.2.1;rw[Ln hh]at dh;obtain⟨rfl,rfl,rfl⟩:z=s/\n=m/\0=c:=by simpa using dh
   have b0:decide ((0:Int)<n)=true:=by simpa using i0
   have b1:decide ((f1:Int)<=(f1:Int)+y)=true:=by simp;omega
   have b2:decide ((y:Int)<m1)=true:=by simp;omega
   have b3:(f1:Int)+y-f1=y:=by omega
   clear i0 i1 i2 iy hz hh dh ha;go_upto_region 6 with fail;go_quiet (fail);go_wp2;go_ret2;exact⟨rfl,bits.Hw HR.out.2.1 (Fr.drewN [] _ _) (by simp),HR.out.2.2.1.trans (Fr.drewN [p] _ _)⟩
  ·have pL:iq ls n v=none:=zb9 (first:=first) (by rw[<-HR.out.2.2.2.2.2.2.1,<-HR.out.2.2.2.2.2.2.2];exact HR.out.2.2.2.2.2.1) (by rw[<-HR.out.2.2.2.2.2.2.1,<-HR.out.2.2.2.2.2.2.2];exact hit);have HM:=ah pL;clear pL;go_upto_region 5 with fail;go_cut [44] from 21 to 44 (λs44 wc=>s44 = .bool false/\wr=wc)
   case first=>
    by_cases i0:0<n
    ·have b0:decide ((0:Int)<n)=true:=by simpa using i0
     by_cases i1:f1<=v
     ·have b1:decide ((f1:Int)<=v)=true:=by simpa using i1
      have b2:decide ((v:Int)-f1<m1)=false:=by simp;omega
      clear hit;go_wp2;go_meet;case rel=>exact⟨rfl,rfl⟩
     ·have b1:decide ((f1:Int)<=v)=false:=by simpa using i1
      clear hit;go_wp2;go_meet;case rel=>exact⟨rfl,rfl⟩
    ·have b0:decide ((0:Int)<n)=false:=by simpa using i0
     clear hit;go_wp2;go_meet;case rel=>exact⟨rfl,rfl⟩
   case rest=>
    obtain⟨rfl,rfl⟩:=hcut;have Rt:=ah (zc9 P D ls first sa sc v n wr HR.out.2.2.2.2.1 (by omega) HR.out.1);go_upto_region 7 with fail;go_cut [69] from 61 to 69 (λs69 wc=>s69 = .bool (n==15||!ef ls n v)/\Fr [] wr wc)
    case first=>
     by_cases i0:n=15
     ·have b0:((n:Int)==15)=true:=by simp;omega
      have b1:(n==15||!ef ls n v)=true:=by simp[i0]
      clear hit;go_wp2;go_meet;case rel=>exact⟨by rw[b1],Fr.refl [] _⟩
     ·have b0:((n:Int)==15)=false:=by simp;omega
      have b1:(n==15||!ef ls n v)=!ef ls n v:=by simp[i0]
      clear hit;go_wp2_with (go_at_call 218;refine Rt.out.mono ?_;rintro e w2 ⟨rfl,f2⟩;have H2:=ah f2;clear f2);go_meet;case rel=>exact⟨by rw[b1],H2.out⟩
    case rest=>
     obtain⟨rfl,f2⟩:=hcut;have H2:=ah f2;clear f2;have h2:Fr [p] w wc:=HR.out.2.2.1.trans (H2.out.mono (by simp));have r2:bits.Rd wc p F bs (at_+n):=bits.Hw HR.out.2.1 H2.out (by simp);have H3:=ak h2 r2;clear h2 r2;by_cases e1:(n==15||!ef ls n v)=true
     ·have dh:cu ls (15-n) n v ((au bs).drop (at_+n))=(0,n,3):=by
       by_cases pz:n=15
       ·subst pz;exact Wc HM.out
       ·refine Xi HM.out ?_;simpa[pz] using e1
      rw[HR.out.2.2.2.1]at dh;obtain⟨rfl,rfl,rfl⟩:s=0/\m=n/\c=3:=by simpa using dh
      rw[e1];clear hit dh;go_wp2;go_ret2;exact⟨rfl,H3.l1,H3.o0⟩
     ·have QU:(n==15||!ef ls n v)=false:=by simpa using e1
      have pz:n≠15:=by intro h;simp[h]at e1
      have hmr:ef ls n v=true:=by simp at e1;exact e1.2
      rw[QU];by_cases hq:at_+n+1<=8*bs.length
      ·have cH:=zey p F bs (at_+n) 1 wc H3.l1 (by decide) hq;have vu:(au bs).length=8*bs.length:=by simp[uo]
       obtain⟨b,t,Cf⟩:∃b t,(au bs).drop (at_+n)=b::t:=by
        cases hd:(au bs).drop (at_+n) with
        | nil=>have:=congrArg List.length hd;rw[eV,vu]at this;simp at this;omega
        | cons b t=>exact⟨b,t,rfl⟩
       have ht:(au bs).drop (at_+(n+1))=t:=by rw[<-oW,<-C5,Cf];rfl
       have tP:cG (((au bs).drop (at_+n)).take 1)=sT b:=by rw[Cf];cases b<;>rfl
       rw[tP]at cH;have dh:=HR.out.2.2.2.1;rw[show 15-n=(15-(n+1))+1 by omega,Cf,SP HM.out hmr,<-ht]at dh;have HK:=ak cH dh;clear cH vu Cf ht tP dh hit;go_upto_region 10 with (go_at_call 165;refine HK.out.1.mono ?_;rintro e w5 ⟨rfl,r5,f5⟩;have H5:=ak r5 f5;clear r5 f5);go_wp2;have vq:=Vh v b Dp;rw[vq];go_roundg k;case measure=>omega
       case rel=>exact⟨n+1,2*v+sT b,rfl,by go_num,by omega,by omega,by rw[pH];have:=HR.out.1;have:=M1 b;omega,H5.o0,H3.o0.trans H5.l1,HK.out.2⟩
      ·have cH:=bits.FN p F bs (at_+n) 1 wc H3.l1 (by omega);have hd:(au bs).drop (at_+n)=[]:=Dh (by rw[uo];omega);have dh:=HR.out.2.2.2.1;rw[show 15-n=(14-n)+1 by omega,hd,Xk HM.out hmr]at dh;obtain⟨rfl,rfl,rfl⟩:0=s/\n=m/\4=c:=by simpa using dh
       have HK:=ah cH;clear cH hd dh hit;go_upto_region 10 with (go_at_call 165;refine HK.out.mono ?_;rintro e w5 ⟨rfl,r5,f5⟩;have H5:=ak r5 f5;clear r5 f5);go_wp2;go_ret2;exact⟨rfl,H5.o0,H3.o0.trans (H5.l1.mono (by simp))⟩
structure Made (w w':World) (e:TypeId) (size:Nat) (ao:OA) (n cap:Nat) (xs:LV):Prop where
 own:w'.ownsRow 0 e size (.slice ao n cap) n xs
 fr:Fr [] w w'
 new:∀x∈af ao,w.heap.size<=x
 le:n<=cap
 max:cap<=maxLen
 nil:ao=none->cap=0
theorem Made.none (w:World) (e:TypeId) (size:Nat):Made w w e size none 0 0 []:=⟨⟨by simp,.inl ⟨rfl,rfl⟩⟩,.refl _ w,by simp[af],ay _,ep _,λ_=>rfl⟩
theorem Made.app {w w1 w2:World} {e:TypeId} {size:Nat} {ao dv:OA} {n m cap dA:Nat} {xs ys:LV} (h:Made w w1 e size ao n cap xs) (h2:aV w1 w2 e size (af ao) dv m dA ys):Made w w2 e size dv m dA ys:=
 ⟨h2.own,h.fr.step h2.fr (λx hx=>.inr (h.new x hx)),λx hx=>by
  rcases h2.at_ x hx with k|k
  ·exact h.new x k
  ·rw[k];exact h.fr.size,h2.le,h2.max,h2.nil⟩
theorem Made.eG {w w1 w2:World} {e:TypeId} {size:Nat} {ao:OA} {n cap:Nat} {xs:LV} (h:Made w w1 e size ao n cap xs) (f:Fr [] w1 w2):Made w w2 e size ao n cap xs:=
 ⟨dr h.own f (by simp),h.fr.trans f,h.new,h.le,h.max,h.nil⟩
theorem Made.lt {w w':World} {e:TypeId} {size:Nat} {ao:OA} {n cap:Nat} {xs:LV} (h:Made w w' e size ao n cap xs):∀x∈af ao,x<w'.heap.size:=λ_ hx=>rr h.own (qi hx)
theorem Made.pre {w0 w w':World} {e:TypeId} {size:Nat} {ao:OA} {n cap:Nat} {xs:LV} (h:Made w w' e size ao n cap xs) (f:Fr [] w0 w):Made w0 w' e size ao n cap xs:=
 ⟨h.own,f.trans h.fr,λx hx=>ck f.size (h.new x hx),h.le,h.max,h.nil⟩
theorem pG:az Tryz.prog 28 3 (.int .i64 0) 1 8:=az.of Tryz.underlying28 (by kernel_rfl) rfl (by decide)
theorem Nv:(Tryz.prog.info? 3).map (λi=>(i.zero,i.size,i.bytes))=some (some (.int .i64 0),1,8):=by kernel_rfl
def ints (l:LN):List Value:=l.map λx=>.int .i64 (x:Nat)
theorem Sf (l:LN):∀u∈ints l,u.oneCell'=true:=by intro u hu;simp only[ints,jo]at hu;obtain⟨x,_,rfl⟩:=hu;rfl
theorem NL (l:LN):(ints l).length=l.length:=by simp[ints]
theorem Ri.take {w:World} {a:OA} {cap:Nat} {xs:LN} (h:Ri w a cap xs) (n:Nat):Ri w a cap (xs.take n):=by
 refine⟨?_,by have:=h.le;rw[dU];omega,h.max,h.nil⟩;rcases h.cs with h0|⟨g,o,e,hc⟩
 ·left;have:xs=[]:=by simpa using h0
  rw[this];simp
 ·refine .inr ⟨g,o,e,λj v hv=>hc j v ?_⟩;rw[Fw,oX]at hv;split at hv
  ·exact hv
  ·cases hv
theorem R3 {w w':World} {ao:OA} {n cap:Nat} {xs:LN} (h:Made w w' 3 1 ao n cap (ints xs)) (hn:n=xs.length):Ri w' ao cap xs:=⟨C8 h.own,by rw[<-hn];exact h.le,h.max,h.nil⟩
def Ow (w:World) (Q N:Nat) (F:Nat->Nat):Prop:=∃A,w.heap[Q]?=some (.cells A 3 (0,0))/\A.size=N/\∀s,s<N->A[s]?=some (.int .i64 (F s:Nat))
theorem Ow.cell {w:World} {Q N:Nat} {F:Nat->Nat} (h:Ow w Q N F) {s:Nat} (hs:s<N):w.cell? ⟨Q,s,none⟩=some (.int .i64 (F s:Nat)):=by obtain⟨A,hA,_,hF⟩:=h;rw[cell_of hA,hF s hs]
theorem Ow.frozen {w:World} {Q N:Nat} {F:Nat->Nat} (h:Ow w Q N F) (s:Nat):w.frozen? ⟨Q,s,none⟩=false:=by obtain⟨A,hA,_,hF⟩:=h;exact aW hA s
theorem Ow.set {w:World} {Q N:Nat} {F:Nat->Nat} (h:Ow w Q N F) {s:Nat} (hs:s<N) (v:Nat):Ow (w.setCell ⟨Q,s,none⟩ (.int .i64 v)) Q N (λt=>if t=s then v else F t):=by
 obtain⟨A,hA,hn,hF⟩:=h;refine⟨_,bI hA _,by simp[hn],λt ht=>?_⟩;by_cases e:t=s
 ·subst e;rw[iG (by omega)];simp only[if_true]
 ·rw[aX (by omega)];simp only[if_neg e];exact hF t ht
theorem Ow.fr {w w':World} {S:LN} {Q N:Nat} {F:Nat->Nat} (h:Ow w Q N F) (f:Fr S w w') (hS:Q∉S):Ow w' Q N F:=by obtain⟨A,hA,hn⟩:=h;exact⟨A,f.af hA hS,hn⟩
theorem Ow.congr {w:World} {Q N:Nat} {F G:Nat->Nat} (h:Ow w Q N F) (e:∀s,s<N->F s=G s):Ow w Q N G:=by obtain⟨A,hA,hn,hF⟩:=h;exact⟨A,hA,hn,λs hs=>by rw[hF s hs,e s hs]⟩
theorem Ow.cs {w:World} {Q N:Nat} {F:Nat->Nat} (h:Ow w Q N F):Cs w (some ⟨Q,0,none⟩) (ints ((List.range N).map F)):=by
 refine .inr ⟨Q,0,rfl,λj v hv=>?_⟩;have hj:j<N:=by have:=(jq.1 hv).1;simpa[ints] using this
 rw[ft,h.cell hj,<-hv];simp[ints,hj]
theorem R5 {w:World} {N Q:Nat} (h:w.ownsRow 0 3 1 (.slice (some ⟨Q,0,none⟩) N N) N (madeCells (Value.int .i64 0).cells (N*1)).toList):Ow w Q N (λ_=>0):=by
 obtain⟨o1,o2⟩:=h;rcases o2 with⟨o2,_⟩|⟨g,c',cur,o2,_,hg,_,_,cV,ht⟩
 ·cases o2
 ·simp only[mV,eJ,ru,and_true,true_and]at o2;obtain⟨rfl,rfl⟩:=o2;refine⟨cur,hg,by omega,λj hj=>?_⟩;have h1:cur.toList[j]?=(madeCells (Value.int .i64 0).cells (N*1)).toList[j]?:=by rw[<-ht,oX,if_pos (by omega)]
  rw[<-oY,h1,show (Value.int .i64 0).cells=#[.int .i64 0] from rfl,toList_madeCells_one,Nn,if_pos (by omega)];rfl
end huf
namespace defl
open Go Go.RowKit lib bm bl huf
def qv:List Nat:=[16,17,18,0,8,7,9,6,10,5,11,4,12,3,13,2,14,1,15]
def ord (i:Nat):Nat:=qv[i]?.getD 0
theorem RU (i:Nat):ord i<19:=by
 unfold ord;cases h:qv[i]? with
 | none=>simp
 | some x=>have:=gB h;simp only[qv,fP,wL,or_false]at this;simp only[Bi];omega
theorem qq6 (O nc:Nat) (h:nc<=19) (w:World):(Instr.sliceAt 287 (.pointer (some ⟨O,0,none⟩)) none (some (.int .i64 nc)) none).run Tryz.prog w = .ok (.slice (some ⟨O,0,none⟩) nc 19) w:=by
 have e:Tryz.prog.arrayLen 287=19:=by kernel_rfl
 have el:Tryz.prog.elem 287=3:=by kernel_rfl
 have hu:Tryz.prog.underlying 287=some (.array 19 3):=by kernel_rfl
 have:=run_sliceAt_array_h (P:=Tryz.prog) (t:=287) (w:=w) ⟨O,0,none⟩ (by rw[e,el];exact hu) .i64 (nc:Nat) (by omega) (by rw[e];omega);rw[this,e,el];obtain⟨i,hi,_,hs,_⟩:=info_parts Nv;simp[sizeOf,typeInfo,hi,slicedAt,Result.andThen];exact Bb O 0 0
end defl
namespace defl
open Go Go.RowKit lib bm
def bJ (n:Nat):Nat×Nat×Nat:=if n<11 then (n+254,0,0) else if n=258 then (285,0,0) else (257+4*(Nat.log2 (n-3)-2)+(n-3)/2^(Nat.log2 (n-3)-2),(n-3)%2^(Nat.log2 (n-3)-2),Nat.log2 (n-3)-2)
def cF (n:Nat):Nat×Nat×Nat:=if n<5 then (n-1,0,0) else (2*(Nat.log2 (n-1)-1)+(n-1)/2^(Nat.log2 (n-1)-1),(n-1)%2^(Nat.log2 (n-1)-1),Nat.log2 (n-1)-1)
theorem qzi {m w c:Nat} (h1:2^(w+c)<=m) (h2:m<2^(w+c+1)):Nat.log2 m-c=w:=by
 have h0:m≠0:=by have:=nQ (w+c);omega
 have k1:=(Nat.le_log2 h0).2 h1;have k2:=(Nat.log2_lt h0).2 h2;omega
theorem VT {n w:Nat} (uD:11<=n) (iJ:n≠258) (h1:4*2^w<=n-3) (h2:n-3<8*2^w):bJ n=(257+4*w+(n-3)/2^w,(n-3)%2^w,w):=by have e:Nat.log2 (n-3)-2=w:=qzi (by rw[mU];omega) (by rw[mU,mU];omega);unfold bJ;rw[if_neg (by omega),if_neg iJ,e]
theorem VN {n w:Nat} (h5:5<=n) (h1:2*2^w<=n-1) (h2:n-1<4*2^w):cF n=(2*w+(n-1)/2^w,(n-1)%2^w,w):=by have e:Nat.log2 (n-1)-1=w:=qzi (by rw[mU];omega) (by rw[mU,mU];omega);unfold cF;rw[if_neg (by omega),e]
def Triple (c:Nat×Nat×Nat):Ending:=.returned (.tuple #[.int .i64 (c.1:Nat),.int .u32 (c.2.1:Nat),.int .i64 (c.2.2:Nat)])
theorem SD (n:Nat) (w:World) (h3:3<=n) (iJ:n<=258) :
  Calls Tryz.prog 158 #[.int .i64 n] w λe w'=>e=Triple (bJ n)/\Fr [] w w':=by
 by_cases uD:n<11
 ·go_enter Tryz.func158,Tryz.ntmps158;go_wp2;go_ret3;refine⟨?_,.refl _ w⟩;unfold Triple bJ;rw[if_pos uD];rfl
 ·by_cases h8:n=258
  ·subst h8;go_enter Tryz.func158,Tryz.ntmps158;go_wp2;go_ret3;exact⟨rfl,.refl _ w⟩
  ·have q1:((n:Int)==258)=false:=by simp only[beq_eq_false_iff_ne];omega
   obtain⟨m,hm⟩:=ai (n-3);have e0:(n:Int)-3=(m:Int):=by omega
   have Ps:8<=m:=by omega
   have iy:m<=254:=by omega
   have HM:=ah hm;clear hm;go_enter Tryz.func158,Tryz.ntmps158;go_upto_block 1 with fail;go_wp2;go_loopg [4] 6 (λk s4 wr=>∃v:Nat,s4 = .int .i64 (v:Nat)/\1<=v/\v+k=7/\4*2^v<=m/\w=wr);case atStart=>exact⟨1,rfl,ay _,rfl,by omega,rfl⟩
   case round=>
    obtain⟨v,rfl,OL,hvk,Es,rfl⟩:=hrel;obtain⟨z,hz⟩:=ai (2^v);have e2:(2:Int)^v=(z:Int):=by rw[hz];exact zh v
    rw[<-hz]at Es;have XW:z<=64:=by omega
    have HZ:=ah hz;clear hz;by_cases bg:m<8*z
    ·have q2:decide (8*(z:Int)<=(m:Int))=false:=by simp;omega
     obtain⟨q,hq⟩:=ai (m/z);obtain⟨r,hr⟩:=ai (m%z);have XS:0<z:=by omega
     have e3:(m:Int)/(z:Int)=(q:Int):=by rw[hq];exact (Ib m z).symm
     have e4:bits .and .u32 (m:Int) ((z:Int)-1)=(r:Int):=by rw[show (z:Int)-1=((z-1:Nat):Int) from by omega,u32_and_nat m (z-1) (by omega) (by omega),HZ.out,NJ,<-HZ.out,hr]
     have hq7:q<8:=by rw[hq];exact (Dg XS).2 bg
     have hv7:v<=7:=by omega
     have HR:=aG hq hr bg Es;clear hq hr bg Es;go_upto_region 8 with fail;go_quiet (fail);clear e3 e4;go_wp2;go_ret3;obtain⟨hq,hr,bg,Es⟩:=HR.out;have hm:=HM.out;have hz:=HZ.out;refine⟨?_,Fr.drewN [] w _⟩;unfold Triple;rw[VT (w:=v) (by omega) h8 (by omega) (by omega),<-hm,<-hz,<-hq,<-hr];rw[show (261+4*(v:Int)+(q:Int)-4)=((257+4*v+q:Nat):Int) from by omega];rfl
    ·have hv5:v<=5:=by
      rcases kI v 6 with h|h
      ·omega
      ·have:2^6<=2^v:=kh (by decide) h;have:=HZ.out;omega
     go_wp2;go_roundg (gk-1);case measure=>omega
     case rel=>exact⟨v+1,by go_num,by omega,by omega,by have:=HZ.out;rw[pH];omega,rfl⟩
theorem S9 (n:Nat) (w:World) (h1:1<=n) (h2:n<=32768) :
  Calls Tryz.prog 159 #[.int .i64 n] w λe w'=>e=Triple (cF n)/\Fr [] w w':=by
 by_cases h5:n<5
 ·obtain⟨m,hm⟩:=ai (n-1);have e0:(n:Int)-1=(m:Int):=by omega
  have HM:=ah hm;clear hm;go_enter Tryz.func159,Tryz.ntmps159;go_wp2;go_ret3;refine⟨?_,.refl _ w⟩;unfold Triple cF;rw[if_pos h5,<-HM.out];rfl
 ·obtain⟨m,hm⟩:=ai (n-1);have e0:(n:Int)-1=(m:Int):=by omega
  have Ps:4<=m:=by omega
  have iy:m<=32767:=by omega
  have HM:=ah hm;clear hm;go_enter Tryz.func159,Tryz.ntmps159;go_upto_block 0 with fail;go_wp2;go_loopg [4] 14 (λk s4 wr=>∃v:Nat,s4 = .int .i64 (v:Nat)/\1<=v/\v+k=15/\2*2^v<=m/\w=wr);case atStart=>exact⟨1,rfl,ay _,rfl,by omega,rfl⟩
  case round=>
   obtain⟨v,rfl,OL,hvk,Es,rfl⟩:=hrel;obtain⟨z,hz⟩:=ai (2^v);have e2:(2:Int)^v=(z:Int):=by rw[hz];exact zh v
   rw[<-hz]at Es;have XW:z<=16384:=by omega
   have HZ:=ah hz;clear hz;by_cases bg:m<4*z
   ·have q2:decide (4*(z:Int)<=(m:Int))=false:=by simp;omega
    obtain⟨q,hq⟩:=ai (m/z);obtain⟨r,hr⟩:=ai (m%z);have XS:0<z:=by omega
    have e3:(m:Int)/(z:Int)=(q:Int):=by rw[hq];exact (Ib m z).symm
    have e4:bits .and .u32 (m:Int) ((z:Int)-1)=(r:Int):=by rw[show (z:Int)-1=((z-1:Nat):Int) from by omega,u32_and_nat m (z-1) (by omega) (by omega),HZ.out,NJ,<-HZ.out,hr]
    have hq7:q<4:=by rw[hq];exact (Dg XS).2 bg
    have hv7:v<=15:=by omega
    have HR:=aG hq hr bg Es;clear hq hr bg Es;go_upto_region 6 with fail;go_quiet (fail);clear e3 e4;go_wp2;go_ret3;obtain⟨hq,hr,bg,Es⟩:=HR.out;have hm:=HM.out;have hz:=HZ.out;refine⟨?_,Fr.drewN [] w _⟩;unfold Triple;rw[VN (w:=v) (by omega) (by omega) (by omega),<-hm,<-hz,<-hq,<-hr];rw[show (2+2*(v:Int)+(q:Int)-2)=((2*v+q:Nat):Int) from by omega];rfl
   ·have hv5:v<=13:=by
     rcases kI v 14 with h|h
     ·omega
     ·have:2^14<=2^v:=kh (by decide) h;have:=HZ.out;omega
    go_wp2;go_roundg (gk-1);case measure=>omega
    case rel=>exact⟨v+1,by go_num,by omega,by omega,by have:=HZ.out;rw[pH];omega,rfl⟩
end defl
namespace mat
open Go Go.RowKit lib
def three (b:LB) (i:Nat):Nat:=(b[i]?.getD 0).toNat+256*(b[i+1]?.getD 0).toNat+65536*(b[i+2]?.getD 0).toNat
theorem V1 (b:LB) (i:Nat):three b i<4294967296:=by unfold three;have h0:=iL (b[i]?.getD 0);have h1:=iL (b[i+1]?.getD 0);have h2:=iL (b[i+2]?.getD 0);omega
def last (b:LB):Nat->Nat->Option Nat
 | 0,_=>none
 | i+1,k=>if i+3<=b.length/\three b i=k then some i else last b i k
theorem Nc (b:LB):∀(i k p:Nat),last b i k=some p->p<i/\p+3<=b.length/\three b p=k
 | 0,_,_,h=>by cases h
 | i+1,k,p,h=>by
  unfold last at h;split at h
  ·rename_i hc;obtain rfl:=lA h;exact⟨by omega,hc.1,hc.2⟩
  ·have:=Nc b i k p h;exact⟨by omega,this.2⟩
def fe (b:LB) (i j:Nat):Nat->Nat->Nat
 | 0,n=>n
 | f+1,n=>if j+n<b.length/\b[i+n]?=b[j+n]? then fe b i j f (n+1) else n
def alike (b:LB) (i j:Nat):Nat:=fe b i j 258 0
theorem qof (b:LB) (i j:Nat):∀(f n:Nat),j+n<=b.length->(∀k,k<n->b[i+k]?=b[j+k]?)->
  n<=fe b i j f n/\fe b i j f n<=n+f/\j+fe b i j f n<=b.length/\∀k,k<fe b i j f n->b[i+k]?=b[j+k]?
 | 0,n,h1,h2=>⟨ay _,ay _,h1,h2⟩
 | f+1,n,h1,h2=>by
  unfold fe;split
  ·rename_i hc;obtain⟨a,b',c,d⟩:=qof b i j f (n+1) (by omega) (λk hk=>by
    by_cases e:k=n
    ·rw[e];exact hc.2
    ·exact h2 k (by omega))
   exact⟨by omega,by omega,c,d⟩
  ·exact⟨ay _,by omega,h1,h2⟩
theorem WV (b:LB) (i j:Nat) (h:j<=b.length):alike b i j<=258/\j+alike b i j<=b.length/\∀k,k<alike b i j->b[i+k]?=b[j+k]?:=by obtain⟨_,h1,h2,h3⟩:=qof b i j 258 0 (by omega) (λk hk=>by omega);exact⟨by unfold alike;omega,h2,h3⟩
def gP (b:LB) (r i:Nat):Nat->Option Nat->Nat->Nat->Nat×Nat
 | 0,_,best,at_=>(best,at_)
 | _+1,none,best,at_=>(best,at_)
 | n+1,some p,best,at_=>if i-p<=r then (if best<alike b p i then gP b r i n (last b p (three b p)) (alike b p i) p else gP b r i n (last b p (three b p)) best at_) else (best,at_)
theorem WX (b:LB) (r i:Nat):∀(n:Nat) (p:Option Nat) (best at_:Nat),(∀q,p=some q->q<i)->(best=0\/(best=alike b at_ i/\at_<i/\i-at_<=r))->
  best<=(gP b r i n p best at_).1/\((gP b r i n p best at_).1=0\/((gP b r i n p best at_).1=alike b (gP b r i n p best at_).2 i/\(gP b r i n p best at_).2<i/\i-(gP b r i n p best at_).2<=r))
 | 0,_,_,_,_,h=>⟨ay _,h⟩
 | _+1,none,_,_,_,h=>⟨ay _,h⟩
 | n+1,some p,best,at_,hp,h=>by
  have hpi:=hp p rfl;have hl:∀q,last b p (three b p)=some q->q<i:=λq hq=>by have:=(Nc b _ _ _ hq).1;omega
  unfold gP;split
  ·split
   ·obtain⟨h1,h2⟩:=WX b r i n (last b p (three b p)) (alike b p i) p hl (.inr ⟨rfl,hpi,by assumption⟩);exact⟨by omega,h2⟩
   ·exact WX b r i n _ best at_ hl h
  ·exact⟨ay _,h⟩
def best (b:LB) (r i:Nat):Nat×Nat:=gP b r i 48 (last b i (three b i)) 0 0
theorem qsn (b:LB) (r i:Nat) (h:0<(best b r i).1):(best b r i).1=alike b (best b r i).2 i/\(best b r i).2<i/\i-(best b r i).2<=r:=by
 have h1:=(WX b r i 48 (last b i (three b i)) 0 0 (λq hq=>(Nc b _ _ _ hq).1) (.inl rfl)).2;unfold best at *;rcases h1 with h1|h1
 ·omega
 ·exact h1
abbrev Mt:=Nat×Nat×Nat
def step (b:LB) (r i:Nat):Nat:=if 3<=(best b r i).1 then (best b r i).1 else 1
def jz (b:LB) (r:Nat):Nat->Nat->List Mt
 | 0,_=>[]
 | f+1,i=>if i+3<=b.length then (if 3<=(best b r i).1 then (i,(best b r i).1,i-(best b r i).2)::jz b r f (i+step b r i) else jz b r f (i+step b r i)) else []
def Ah (b:LB) (reach:Int):List Mt:=if 0<reach then jz b (min reach 32768).toNat b.length 0 else []
def dC (b:LB) (r:Nat):Nat->List Mt->Prop
 | _,[]=>True
 | e,(a,n,d)::t=>e<=a/\3<=n/\n<=258/\1<=d/\d<=r/\d<=a/\a+n<=b.length/\(∀k,k<n->b[a+k]?=b[a+k-d]?)/\dC b r (a+n) t
theorem dC.mono {b:LB} {r e e':Nat} {l:List Mt} (h:dC b r e l) (he:e'<=e):dC b r e' l:=by
 cases l with
 | nil=>trivial
 | cons x t=>obtain⟨a,n,d⟩:=x;exact⟨ck he h.1,h.2⟩
theorem qnn (b:LB) (r:Nat):∀(f i:Nat),dC b r i (jz b r f i)
 | 0,_=>trivial
 | f+1,i=>by
  unfold jz;split
  ·rename_i hi;have ih:=qnn b r f (i+step b r i);split
   ·rename_i h3;obtain⟨h1,h2,h4⟩:=qsn b r i (by omega);obtain⟨k1,k2,k3⟩:=WV b (best b r i).2 i (by omega);rw[<-h1]at k1 k2 k3;have hs:step b r i=(best b r i).1:=if_pos h3;rw[hs]at ih;refine⟨ay _,h3,k1,by omega,h4,by omega,k2,λk hk=>?_,by rw[hs];exact ih⟩;have:=k3 k hk;rw[show i+k-(i-(best b r i).2)=(best b r i).2+k from by omega,this]
   ·exact ih.mono (by omega)
  ·trivial
theorem S4 (b:LB) (reach:Int):dC b (min reach 32768).toNat 0 (Ah b reach):=by
 unfold Ah;split
 ·exact qnn _ _ _ _
 ·trivial
end mat

end Go.Proofs.YtkmpfgpfbmeihaaGreatDoor