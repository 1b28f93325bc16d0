/-
  Texts of this proof, one behind the other: Put, Tail, Read, Ops, Ops2, Args, Args2, Bytes, RdMore, HuffC, HuffD, HuffM.
-/
import Derived.Test.YtbabjlohkniciaaGreatDoorV1
import Derived.Deep.DeepCutAuto
import Derived.StillTailTactics
import Derived.SizedLaws
import Derived.Deep.CondSized
import Derived.JoinedCond
import Derived.ChangeOld
import Derived.Deep.LoopGhost
import Derived.Deep.CutBlock
import Derived.WalkMore
import Derived.OwnWalk
import Derived.Laws.OwnMore
set_option maxHeartbeats 16000000
set_option maxRecDepth 100000
set_option linter.unusedVariables false
set_option linter.unusedSimpArgs false
namespace Go.Proofs.YtbabjlohkniciaaGreatDoor.bits
open Go Go.RowKit lib bm
theorem sliceU8:SliceTy Tryz.prog 22 5 (.int .u8 0) 1 1:=SliceTy.of Tryz.underlying22 (by kernel_rfl) rfl (by decide)
def Wv (w:World) (p:Nat) (v:Value) (M L:Nat):Prop:=
 w.heap[p]?=some (.cells #[v,.int .u64 (M/2^(8*(L/8)):Nat),.int .i64 (L%8:Nat)] 193 (0,0))∧
  w.ownsRow 0 5 1 v (L/8) ((dig (L/8) M).map bv)∧v.ownBlock≠some p∧M<2^L
def Wr (w:World) (p:Nat) (F:List Nat) (M L:Nat):Prop:=∃v,Wv w p v M L∧F=p::v.ownBlock.toList
theorem qs5 (W:Nat):Value.int .u8 (IntKind.u8.wrap (W:Int))=bv (UInt8.ofNat W):=by unfold bv;rw[IntKind.wrap_u8',qb6];exact int_eq (by omega)
theorem zc2 (q N:Nat):(dig (q+1) N).map bv=(dig q N).map bv++[Value.int .u8 (IntKind.u8.wrap ((N/2^(8*q):Nat):Int))]:=by rw[qs0,qbt,qs5];rfl
theorem qy7 (K q:Nat):K-8*q-8=K-8*(q+1):=by omega
theorem zao (N q:Nat):N/2^(8*q)/2^8=N/2^(8*(q+1)):=by rw[qf2,<-qb3,qgi]
theorem zdd (p:Nat) (F:List Nat) (M L:Nat) (x:Nat) (n:Int) (w:World) (hW:Wr w p F M L) (hx:x<4294967296) (hL:L≤562949953421312) :
  Calls Tryz.prog 238 #[.pointer (some ⟨p,0,none⟩),.int .u32 x,.int .i64 n] w λe w'=>
   e = .returned (.tuple #[])∧Fr F w w'∧∃F',Wr w' p F' (M+2^L*(x%2^(min n.toNat 32))) (L+min n.toNat 32)∧∀y∈F',y∈F∨w.heap.size≤y:=by
 obtain⟨v,⟨hr,hown,hpb,hM⟩,rfl⟩:=hW;have c0:=cell_of hr 0;have c1:=cell_of hr 1;have c2:=cell_of hr 2;simp only[qae,qaa,qad]at c0 c1 c2;have f1:=qay hr 1;have f2:=qay hr 2;have Hr:=zhd hr;clear hr;obtain⟨W,hW⟩:∃W:Nat,W=M/2^(8*(L/8)):=⟨_,rfl⟩;rw[<-hW]at c1;have HW:=zhd hW;clear hW;go_enter Tryz.func238,Tryz.ntmps238;go_upto_region 0 with fail;obtain⟨m,hm,hm32⟩:∃m:Nat,m=min n.toNat 32∧m≤32:=⟨_,rfl,by omega⟩;have Hm:=zhd hm;clear hm;go_cut [2] (λn2 wc=>n2 = .int .i64 m∧w=wc);case first=>go_wp2;all_goals (go_meet;exact⟨int_eq (by have:=Hm.out;omega),rfl⟩)
 case rest=>
 obtain⟨rfl,rfl⟩:=hcut;go_upto_region 1 with fail;have hl8:L%8<8:=by omega
 go_cut [] (λwc=>wc.heap[p]?=some (.cells #[v,.int .u64 ((M+2^L*(x%2^m))/2^(8*(L/8)):Nat),.int .i64 (L%8:Nat)] 193 (0,0))∧Fr [p] w wc);case first=>
  go_region;all_goals go_wp2
  go_meet;refine⟨(qa0 Hr.out _).trans ?_,((Fr.refl _ w).setCell (by simp) _).drew⟩;have e:=qzl M L x m hM hx hm32;rw[<-HW.out]at e;rw[e];rfl
 case rest=>
 obtain⟨hr1,fr1⟩:=hcut;clear c2 f2;have c2:=cell_of hr1 2;have f2:=qay hr1 2;simp only[qae,qaa,qad]at c2;go_upto_region 2 with fail;go_cut [] (λwz=>wz.heap[p]?=some (.cells #[v,.int .u64 ((M+2^L*(x%2^m))/2^(8*(L/8)):Nat),.int .i64 (L%8+m:Nat)] 193 (0,0))∧Fr [p] w wz);case first=>have Hr1:=zhd hr1;clear hr1;go_wp2;go_meet;exact⟨(qa0 Hr1.out _).trans rfl,fr1.setCell (by simp) _⟩
 case rest=>
 obtain⟨hr2,fr2⟩:=hcut;have hN:=zde M L x m hM;have hdig:dig (L/8) (M+2^L*(x%2^m))=dig (L/8) M:=by rw[show 2^L=2^(8*(L/8))*2^(L%8) from by rw[<-qb3,quu],qc1,qra]
 rw[<-hdig]at hown;clear hdig;have Hm':=zhd Hm;clear hr1 c2 f2 Hm Hr c0 c1 f1;obtain⟨N,hNe⟩:=zex (M+2^L*(x%2^m));rw[<-hNe]at hr2 hN hown;have HN:=zhd hNe;clear hNe;have hK:L/8*8≤L+m:=by omega
 have own2:=qa7 (hown) fr2 (by intro k hk;simp;rintro rfl;exact hpb hk);have HM:=zhd hM;have HR2:=zhd hr2;clear hM hr2 hown;go_wp2;go_loopg [] 5 (λk wr=>∃(u:Value) (q:Nat),k+q=L/8+5∧L/8≤q∧8*q≤L+m∧
  wr.heap[p]?=some (.cells #[u,.int .u64 (N/2^(8*q):Nat),.int .i64 (L+m-8*q:Nat)] 193 (0,0))∧
  wr.ownsRow 0 5 1 u q ((dig q N).map bv)∧u.ownBlock≠some p∧Fr (p::v.ownBlock.toList) w wr∧(∀y,u.ownBlock=some y→v.ownBlock=some y∨w.heap.size≤y))
 case atStart=>exact⟨v,L/8,by omega,by omega,by omega,by rw[HR2.out,show L+m-8*(L/8)=L%8+m from by omega],own2,hpb,fr2.mono (by simp),λy hy=>.inl hy⟩
 case round=>
  obtain⟨u,q,hgk,hq1,hq2,hr,hown,hub,hfr,hown'⟩:=hrel;have c0:=cell_of hr 0;have c1:=cell_of hr 1;have c2:=cell_of hr 2;simp only[qae,qaa,qad]at c0 c1 c2;have f0:=qay hr 0;have f1:=qay hr 1;have f2:=qay hr 2;have Hr:=zhd hr;clear hr;by_cases hlt:8≤L+m-8*q
  ·obtain⟨W,hW⟩:∃W:Nat,W=N/2^(8*q):=⟨_,rfl⟩;rw[<-hW]at c1;have HW:=zhd hW;clear hW;have hps:p<wr.heap.size:=lt_of_block Hr.out;have ea:p≠wr.heap.size:=Nat.ne_of_lt hps;go_upto_region 5 with fail;go_cut [] (λwz=>∃u',wz.heap[p]?=some (.cells #[u',.int .u64 (N/2^(8*q):Nat),.int .i64 (L+m-8*q:Nat)] 193 (0,0))∧
      wz.ownsRow 0 5 1 u' (q+1) ((dig (q+1) N).map bv)∧u'.ownBlock≠some p∧Fr (p::v.ownBlock.toList) w wz∧(∀y,u'.ownBlock=some y→v.ownBlock=some y∨w.heap.size≤y))
   case first=>
    go_region_law (refine step_append sliceU8 rfl (.tmp 51) (.tmp 57) rfl u q ((dig q N).map bv) _ (by rfl) (by rfl) (by first|exact hown.alloc _|exact hown.drew.alloc _) _ 1 1 _ (by rfl) (by decide) (by simp) (by exact qdu _ _ _ _ (qa4 _ _)) (by rfl) (by simp[Value.oneCell']) (by omega) (by unfold maxLen;omega) ?_;intro ao1 cap1 w1 A1;have hb1:=A1.fr.blk (alloc_old _ Hr.out) (by simpa using hub);have g0:=cell_of hb1 0;have g1:=qay hb1 0;simp only[qae,qaa]at g0);all_goals go_wp2
    all_goals go_meet
    all_goals
     have hsz:=hfr.size
     have hat:=A1.at_
     simp only[World.size_drew,qav]at hat
     have hne:(Value.slice ao1 (q+1) cap1).ownBlock≠some p:=by
      intro h
      rcases hat p (by rw[<-qbp ao1 (q+1) cap1,h];simp) with h|h
      ·exact hub (by simpa using h)
      ·omega
     refine⟨_,(qa0 hb1 _).trans rfl,?_,hne,?_,?_⟩
     ·rw[zc2,<-HW.out]
      exact ownsRow_setCell_other A1.own hne _
     ·refine Fr.setCell (((hfr.alloc _).drew).step A1.fr ?_) (by simp) _
      intro k hk
      rcases hown' k (by simpa using hk) with h|h
      ·left;simp[h]
      ·right;exact h
     ·intro y hy
      rcases hat y (by rw[<-qbp ao1 (q+1) cap1,hy];simp) with h|h
      ·exact hown' y (by simpa using h)
      ·right;omega
   case rest=>
   obtain⟨u',hr',own',hub',fr',ob'⟩:=hcut;clear c0 c1 c2 f0 f1 f2 hown hub hfr hown' ea hps;have c1:=cell_of hr' 1;have c2:=cell_of hr' 2;simp only[qae,qaa,qad]at c1 c2;have f1:=qay hr' 1;have f2:=qay hr' 2;have Hr':=zhd hr';clear hr';rw[<-HW.out]at c1;go_wp2;go_roundg (gk-1);case measure=>omega
   case rel=>
    refine⟨u',q+1,by omega,by omega,by omega,(qa0 (qa0 Hr'.out _) _).trans ?_,ownsRow_setCell_other (ownsRow_setCell_other own' hub' _) hub' _,hub',Fr.setCell (fr'.setCell (by simp) _) (by simp) _,ob'⟩;rw[<-zao,<-HW.out,<-qy7];have e1:((W:Int)/256)=((W/2^8:Nat):Int):=by omega
    have e2:((L+m-8*q:Nat):Int)-8=((L+m-8*q-8:Nat):Int):=by omega
    rw[e1,e2];rfl
  ·obtain rfl:q=(L+m)/8:=by omega
   have Ho:=zhd hown;clear hown;go_wp2;go_end0;refine⟨rfl,hfr,p::u.ownBlock.toList,?_,?_⟩
   ·rw[<-Hm'.out.out,<-HN.out];refine⟨u,⟨?_,Ho.out,hub,hN⟩,rfl⟩;rw[Hr.out,show L+m-8*((L+m)/8)=(L+m)%8 from by omega]
   ·intro y hy;rcases qaw.1 hy with rfl|hy
    ·simp
    ·rcases hown' y (by simpa using hy) with h|h
     ·left;simp[h]
     ·right;exact h
end Go.Proofs.YtbabjlohkniciaaGreatDoor.bits
namespace Go.Proofs.YtbabjlohkniciaaGreatDoor.lib
open Go
theorem qfj {P:Program} {ops:Array Oper} {w:World} {L:Act→Prop}:∀(l:List Oper) (a:Act),wpQuiet P ops (λw'=>w'=w) L l a→wpStill P ops w L l a
 | [],_,h=>h
 | o::rest,a,h=>by
  unfold wpQuiet at h;unfold wpStill;by_cases hw:Region.wanted o (yielded ops a.tmps)=true
  ·rw[if_pos hw]at h ⊢;obtain⟨v,h1,h2⟩:=h;have h3:=h1 w rfl;have h4:=qfj rest _ h2;unfold Oper.quietAt at h3;unfold Oper.still;generalize (execOp a.eval o).run P w=r at *;cases r with
   | ok n w'=>
    cases n<;>simp only[Oper.quietUpon]at h3<;>simp only[Oper.stillUpon];case value u=>exact⟨h3.1,h3.2▸h4⟩
    case skip=>exact⟨h3.1,h3.2▸h4⟩
    case enter f args=>exact⟨h3.1,v,h3.2,h4⟩
   | halt x w'=>simp only[Oper.quietUpon]at h3
  ·rw[if_neg hw]at h ⊢;exact qfj rest _ h
theorem qcl {P:Program} {id:Nat} {Q:Exit→Act→World→Prop} {a:Act} {w:World} {l:List Oper} (n:Nat) (hm:P.follows .mixedOrders=true) (hB:Region.lexTailB .any l.toArray n=true)
  (h:wpQuiet P l.toArray (λw'=>w'=w.drew) (λa'=>wpList P l.toArray Q (l.drop n) a' w.drew) (l.take n) a):(Code.region id l.toArray true).wp P Q a w:=
 wp_region_still_tail n hm hB (qfj _ _ h)
end Go.Proofs.YtbabjlohkniciaaGreatDoor.lib
namespace Go.Proofs.YtbabjlohkniciaaGreatDoor.bits
open Go Go.RowKit lib bm
theorem qev (bs:List UInt8):∀u∈bs.map bv,u.oneCell'=true:=by intro u hu;obtain⟨b,_,rfl⟩:=qb8.1 hu;rfl
theorem qm7 (p:Nat) (F:List Nat) (bs:List UInt8) (at_:Nat) (w:World) (hR:Rd w p F bs at_) :
  Calls Tryz.prog 96 #[.pointer (some ⟨p,0,none⟩)] w λe w'=>e = .returned (.int .i64 ((at_+7)/8:Nat))∧w=w':=by
 obtain⟨ao,cap,hr,hcs,rfl,hpb,hlen,hat,hcap,hmax⟩:=hR;have c1:=cell_of hr 1;simp only[qae,qaa,qad]at c1;clear hr;go_enter Tryz.func96,Tryz.ntmps96;go_wp2;go_ret;exact⟨qmb (int_eq (by omega)),rfl⟩
theorem zda {T:TypeId} {w w':World} {p:Nat} {F:List Nat} {bs:List UInt8} {a a':Nat} (h:RdT T w p F bs a) (hf:Fr [p] w w')
  (hh:∀ao cap,w.heap[p]?=some (.cells #[.slice ao bs.length cap,.int .i64 a] T (0,0))→w'.heap[p]?=some (.cells #[.slice ao bs.length cap,.int .i64 a'] T (0,0))) (ha:a'≤8*bs.length):RdT T w' p F bs a':=by
 obtain⟨ao,cap,hr,hcs,rfl,hpb,hlen,hat,hcap,hmax⟩:=h;exact⟨ao,cap,hh ao cap hr,hcs.fr hf (by intro x hx;simp;rintro rfl;exact hpb hx),rfl,hpb,hlen,ha,hcap,hmax⟩
theorem qf9 {T:TypeId} {w w':World} {p:Nat} {F S:List Nat} {bs:List UInt8} {a:Nat} (h:RdT T w p F bs a) (hf:Fr S w w') (hn:∀x∈F,x∉S):RdT T w' p F bs a:=by obtain⟨ao,cap,hr,hcs,rfl,hpb,hlen,hat,hcap,hmax⟩:=h;exact⟨ao,cap,hf.blk hr (hn p (by simp)),hcs.fr hf (by intro x hx;exact hn x (by simp[hx])),rfl,hpb,hlen,hat,hcap,hmax⟩
theorem qp0 (p:Nat) (F:List Nat) (bs:List UInt8) (at_:Nat) (w:World) (hR:Rd w p F bs at_) :
  Calls Tryz.prog 199 #[.pointer (some ⟨p,0,none⟩)] w λe w'=>e = .returned (.tuple #[])∧Rd w' p F bs ((at_+7)/8*8)∧Fr [p] w w':=by
 have hR':=zhd hR;obtain⟨ao,cap,hr,hcs,rfl,hpb,hlen,hat,hcap,hmax⟩:=hR;have c1:=cell_of hr 1;have f1:=qay hr 1;simp only[qae,qaa,qad]at c1;clear hr;go_enter Tryz.func199,Tryz.ntmps199;go_wp2;go_end0;refine⟨rfl,zda hR'.out ((Fr.refl _ w).setCell (by simp) _) (λao cap h=>(qa0 h _).trans ?_) (by omega),(Fr.refl _ w).setCell (by simp) _⟩;have e:((at_:Int)+7)/8*8=((at_+7)/8*8:Nat):=by omega
 rw[e];rfl
theorem qr2 (ao:Option Addr) (cap:Nat) (bs:List UInt8) (w:World) (hcs:Cs w ao (bs.map bv)) (hcap:bs.length≤cap) (hnone:ao=none→cap=0) (hlen:bs.length≤140737488351232) :
  Calls Tryz.prog 93 #[.slice ao bs.length cap] w λe w'=>∃p F,e = .returned (.pointer (some ⟨p,0,none⟩))∧Rd w' p F bs 0∧Fr [] w w'∧∀x∈F,w.heap.size≤x∧x<w'.heap.size:=by
 go_enter Tryz.func93,Tryz.ntmps93;go_wp2_with (refine qa5 sliceU8 rfl _ _ rfl (.slice none 0 0) 0 [] [] rfl rfl (qch _ _ _ _) _ _ _ (bs.map bv) rfl hcap hnone hcs (by simp) (qev bs) (by omega) (by unfold maxLen;omega) ?_;intro ao1 cap1 w1 A1;simp only[qbe,qck]at A1);go_ret;have hb:∀x∈blk ao1,x=w.heap.size∧x<w1.heap.size:=λx hx=>⟨by simpa using A1.at_ x hx,A1.lt x hx⟩
 have hcs1:Cs (w1.alloc (.cells #[.slice ao1 bs.length cap1,.int .i64 0] 221)) ao1 (bs.map bv):=(qcm A1.own).belowAll (qgd ((Fr.refl _ _).alloc _));refine⟨w1.heap.size,_,rfl,⟨ao1,cap1,qa4 _ _,hcs1,rfl,λh=>?_,hlen,by omega,A1.le,A1.max,A1.nil⟩,A1.fr.alloc _,λx hx=>?_⟩
 ·have:=(hb _ h).2;omega
 ·rw[qav];rcases qaw.1 hx with rfl|hx
  ·exact⟨A1.fr.size,by omega⟩
  ·have:=hb _ hx;omega
theorem qf8 (ao:Option Addr) (cap:Nat) (bs:List UInt8) (w:World) (hcs:Cs w ao (bs.map bv)) (hcap:bs.length≤cap) (hnone:ao=none→cap=0) (hlen:bs.length≤140737488351232) :
  Calls Tryz.prog 93 #[.slice ao bs.length cap] w λe w'=>∃p F,e = .returned (.pointer (some ⟨p,0,none⟩))∧Rd w' p F bs 0∧Fr [] w w'∧∀x∈F,w.heap.size≤x:=
 (qr2 ao cap bs w hcs hcap hnone hlen).mono λ_ _ ⟨p,F,h1,h2,h3,h4⟩=>⟨p,F,h1,h2,h3,λx hx=>(h4 x hx).1⟩
def BytesGood (p:Nat) (F:List Nat) (bs:List UInt8) (at_ n:Nat) (w:World) (e:Ending) (w':World):Prop:=
 ∃ao',e = .returned (.tuple #[.slice ao' n n,.bool true])∧Fresh w' w.heap.size 5 ao' (((bs.drop ((at_+7)/8)).take n).map bv)∧(ao'=none→n=0)∧
    (∀x∈blk ao',w.heap.size≤x)∧Rd w' p F bs ((at_+7)/8*8+8*n)∧Fr [p] w w'
theorem qmy (p:Nat) (F:List Nat) (bs:List UInt8) (at_:Nat) (n:Int) (w:World) (hR:Rd w p F bs at_) (hn0:0≤n) (hn:n≤bs.length-((at_+7)/8:Nat)) :
  Calls Tryz.prog 177 #[.pointer (some ⟨p,0,none⟩),.int .i64 n] w (BytesGood p F bs at_ n.toNat w):=by
 obtain⟨n,rfl⟩:=qcv hn0;have h1:decide ((n:Int)<0)=false:=by simp
 go_enter Tryz.func177,Tryz.ntmps177;go_upto_region 1 with fail;go_cut [] (λw1=>Rd w1 p F bs ((at_+7)/8*8)∧Fr [p] w w1);case first=>go_wp2_with (go_at_call 199;refine (qp0 p F bs at_ _ hR).mono ?_;rintro e w' ⟨rfl,hR1,fr1⟩);go_meet;exact⟨hR1,fr1⟩
 case rest=>
 obtain⟨hR1,fr1⟩:=hcut;clear hR;have HR1:=zhd hR1;obtain⟨ao,cap,hr,hcs,rfl,hpb,hlen,hat,hcap,hmax⟩:=hR1;have c0:=cell_of hr 0;have c1:=cell_of hr 1;have f1:=qay hr 1;simp only[qae,qaa,qad]at c0 c1;have Hr:=zhd hr;clear hr;have h2:decide ((bs.length:Int)-(at_+7)/8<(n:Int))=false:=by simp;omega
 generalize hA:(at_+7)/8=A at *;go_upto_region 2 with fail;go_cut [25] (λs25 w2=>s25 = .bool false∧Rd w2 p (p::blk ao) bs (A*8)∧Fr [p] w w2);case first=>go_quiet (fail);go_wp2;go_meet;exact⟨by simpa using hn,⟨ao,cap,Hr.out,hcs,rfl,hpb,hlen,hat,hcap,hmax⟩,fr1.drewsN _⟩
 case rest=>
 obtain⟨rfl,hR2,fr2⟩:=hcut;clear c0 c1 f1 Hr hcs fr1 HR1 hat;obtain⟨ao,cap,hr,hcs,hF,hpb,hlen,hat,hcap,hmax⟩:=hR2;have c0:=cell_of hr 0;have c1:=cell_of hr 1;have f1:=qay hr 1;simp only[qae,qaa,qad]at c0 c1;have Hr:=zhd hr;clear hr;go_wp2;refine qcl 17 (by kernel_rfl) (by kernel_rfl) ?_;simp only[qai,qao,qah,qaj];repeat (go_big_quiet_step (fail))
 refine wpQuiet_nil ?_;have hcut:=hcs.cut cap A (A+n) (by omega) (by simp;omega) (by simpa using hcap);go_wp2_with (refine qa5 sliceU8 rfl _ _ rfl (.slice none 0 0) 0 [] [] rfl rfl (qch _ _ _ _) (cutAt ao cap A) (A+n-A) (cap-A) _ rfl (by omega) (λh=>by have:=hmax.2 (quh h);omega) hcut (by simp;omega) (by rw[<-List.map_drop,<-qro];exact qev _) (by omega) (by unfold maxLen;omega) ?_;intro ao1 cap1 w1 A1;simp only[qbe,qck]at A1;have hle1:n≤cap1:=(by have:=A1.le;omega);have hb1:=A1.fr.blk (w:=wc.drew) Hr.out (by simp);have d1:=cell_of hb1 1;have g1:=qay hb1 1;simp only[qae,qaa,qad]at d1);all_goals
  go_ret2
  have e0:A+n-A=n:=by omega
  rw[e0,<-List.map_drop,<-qro]at A1
  have hne:p∉blk ao1:=λh=>by
   have h1:=A1.at_ p h
   have h2:=lt_of_block Hr.out
   simp at h1
   omega
  have hsz:=fr2.size
  have fr3:Fr [] wc w1:=(Fr.drew1 [] wc).trans A1.fr
  have fr4:Fr [p] w (w1.setCell ⟨p,1,none⟩ (.int .i64 (A*8+8*n))):=(fr2.trans (fr3.mono (by simp))).setCell (by simp) _
  have hown:=ownsRow_setCell_other (a:=⟨p,1,none⟩) A1.own (λh=>hne (by rw[<-qbp ao1 n cap1,h];simp)) (.int .i64 (A*8+8*n))
  unfold BytesGood
  rw[hA]
  have hblk:∀x∈blk ao1,w.heap.size≤x:=λx hx=>by
   have:=A1.at_ x hx
   simp at this
   omega
  refine⟨ao1,rfl,qfn hown hblk,λh=>?_,hblk,⟨ao,cap,(qa0 hb1 _).trans ?_,(hcs.fr fr3 (by simp)).fr ((Fr.refl [p] w1).setCell (by simp) _) (by intro x hx;simp;rintro rfl;exact hpb hx),(by first|exact hF|rfl),hpb,hlen,by omega,hcap,hmax⟩,fr4⟩
  ·have:=A1.nil h
   omega
  ·have e:((A:Int)*8+8*(n:Int))=((A*8+8*n:Nat):Int):=by omega
   rw[e]
   rfl
theorem qpw (p:Nat) (F:List Nat) (bs:List UInt8) (at_:Nat) (n:Int) (w:World) (hR:Rd w p F bs at_) (hn:n<0∨bs.length-((at_+7)/8:Nat)<n) :
  Calls Tryz.prog 177 #[.pointer (some ⟨p,0,none⟩),.int .i64 n] w λe w'=>
   e = .returned (.tuple #[.slice none 0 0,.bool false])∧Rd w' p F bs ((at_+7)/8*8)∧Fr [p] w w':=by
 go_enter Tryz.func177,Tryz.ntmps177;go_upto_region 1 with fail;go_cut [] (λw1=>Rd w1 p F bs ((at_+7)/8*8)∧Fr [p] w w1);case first=>go_wp2_with (go_at_call 199;refine (qp0 p F bs at_ _ hR).mono ?_;rintro e w' ⟨rfl,hR1,fr1⟩);go_meet;exact⟨hR1,fr1⟩
 case rest=>
 obtain⟨hR1,fr1⟩:=hcut;clear hR;obtain⟨ao,cap,hr,hcs,rfl,hpb,hlen,hat,hcap,hmax⟩:=hR1;have c0:=cell_of hr 0;have c1:=cell_of hr 1;simp only[qae,qaa,qad]at c0 c1;have Hr:=zhd hr;clear hr;have done:∀m,Rd (wc.drewN m) p (p::blk ao) bs ((at_+7)/8*8):=λm=>⟨ao,cap,Hr.out,hcs,rfl,hpb,hlen,hat,hcap,hmax⟩
 have Hd:=zhd done;clear done;by_cases a1:n<0
 ·have h1:decide (n<0)=true:=by simp;omega
  go_upto_region 2 with fail;go_quiet (fail);go_wp2;go_ret2;exact⟨rfl,Hd.out _,fr1.drewsN _⟩
 ·have h1:decide (n<0)=false:=by simp;omega
  have h2:decide ((bs.length:Int)-(at_+7)/8<n)=true:=by simp;omega
  go_upto_region 2 with fail;go_quiet (fail);go_wp2;go_ret2;exact⟨rfl,Hd.out _,fr1.drewsN _⟩
end Go.Proofs.YtbabjlohkniciaaGreatDoor.bits
namespace Go.Proofs.YtbabjlohkniciaaGreatDoor.lib
open Go Go.RowKit
section
variable {P : Program} {w : World} {ops : Array Oper} {rest : List Oper} {o : Oper} {a : Act} {Q : Exit → Act → World → Prop}
theorem qgj (v:Value) (hgd:o.guard=none) (hr:(execOp a.eval o).run P w = .ok (.value v) w) (h:wpList P ops Q rest (a.put o.dst v) w):wpList P ops Q (o::rest) a w:=
 wpList_plain hgd λK hK=>by unfold Oper.wp;rw[hr];exact hK _ _ h
theorem qp7 (m:Int) (hgd:o.guard=none) (x y:Operand) (ts:Array TypeId) (ho:o.op = .call { callee:=.builtin .min,args:=#[x,y],argTypes:=ts }) (i j:Int)
  (hx:a.eval x = .int .i64 i) (hy:a.eval y = .int .i64 j) (hm:m=if j<i then j else i) (h:wpList P ops Q rest (a.put o.dst (.int .i64 m)) w):wpList P ops Q (o::rest) a w:=by
 subst hm;refine qgj _ hgd ?_ h;simp[execOp,ho,resolve,invoke,builtin,hx,hy,Builtin.min_,Builtin.min2]
theorem qj5 (m:Int) (hgd:o.guard=none) (x y:Operand) (ts:Array TypeId) (ho:o.op = .call { callee:=.builtin .max,args:=#[x,y],argTypes:=ts }) (i j:Int)
  (hx:a.eval x = .int .i64 i) (hy:a.eval y = .int .i64 j) (hm:m=if j>i then j else i) (h:wpList P ops Q rest (a.put o.dst (.int .i64 m)) w):wpList P ops Q (o::rest) a w:=by
 subst hm;refine qgj _ hgd ?_ h;simp[execOp,ho,resolve,invoke,builtin,hx,hy,Builtin.max_,Builtin.max2]
end
section
variable {P : Program} {w : World} {ops : Array Oper} {rest : List Oper} {o : Oper} {a : Act} {Q : Exit → Act → World → Prop} {t e : TypeId} {z : Value} {bytes : Nat}
end
def str (bs:List UInt8):ByteArray:=⟨bs.toArray⟩
theorem str_toList (bs:List UInt8):(str bs).toList=bs:=by rw[ByteArray.toList_eq];rfl
theorem qer {P:Program} (w:World) {src dst e:TypeId} (hs:P.underlying src=some (.slice e)) (he:P.underlying e=some (.int .u8)) (hd:P.underlying dst=some .string)
  {ao:Option Addr} {n:Nat} {bs:List UInt8} (hn:bs.length=n) (hcs:Cs w ao (bs.map bv)) :
  ∀cap,(convert src dst (.slice ao n cap)).run P w = .ok (.string (str bs)) w:=by
 intro cap;have hnil:∀(ao:Option Addr),bs=[]→(convert src dst (.slice ao n cap)).run P w = .ok (.string (str bs)) w:=by
  intro ao hb;subst hb;obtain rfl:n=0:=by simpa using hn.symm
  rw[run_convert_bytes_string w src dst e ao 0 cap hs he hd];cases ao with
  | none=>rfl
  | some a=>rfl
 rcases hcs with h|⟨g,o,rfl,h⟩
 ·exact hnil ao (by simpa using h)
 ·have hr:=run_convert_bytes_arg (P:=P) w src e hs he g o n cap (bs.map λb=>(b.toNat:Int)) (by simpa using hn) (λi hi=>by
   have h2:=h i (bv (bs.getD i 0)) (by simp[List.getD,show i<bs.length by omega])
   rw[h2]
   have hi':i<bs.length:=by omega
   simp[bv,List.getD,hi']) dst hd
  rw[hr];congr 2;unfold strOfNums str;congr 1;rw[List.map_map];have:((λn:Int=>UInt8.ofNat n.toNat)∘λb:UInt8=>(b.toNat:Int))=id:=by funext b;simp
  rw[this,List.map_id]
end Go.Proofs.YtbabjlohkniciaaGreatDoor.lib
namespace Go.Proofs.YtbabjlohkniciaaGreatDoor.lib
open Go Go.RowKit
def cutAtN (ao:Option Addr) (cap lo size:Nat):Option Addr:=if cap=lo then ao else ao.map (·.add (lo*size))
theorem qll {ao:Option Addr} {cap lo size:Nat} (h:cutAtN ao cap lo size=none):ao=none:=by
 unfold cutAtN at h;split at h
 ·exact h
 ·simpa using h
theorem qhc (ao:Option Addr) (cap lo size:Nat):blk (cutAtN ao cap lo size)=blk ao:=by
 unfold cutAtN;split
 ·rfl
 ·cases ao with
  | none=>rfl
  | some a=>simp only[qgg,blk,Addr.add];split<;>rfl
theorem qmu (ao:Option Addr) (cap lo:Nat):cutAtN ao cap lo 1=cutAt ao cap lo:=by unfold cutAtN cutAt;rw[qdi]
section
variable {P : Program} {w : World} {ops : Array Oper} {rest : List Oper} {o : Oper} {a : Act} {Q : Exit → Act → World → Prop} {t e : TypeId} {z : Value} {size bytes : Nat}
theorem qfr (T:SliceTy P t e z size bytes) (l:Nat) (hgd:o.guard=none) (x lo:Operand) (ho:o.op = .slice t x (some lo) none none) (ao:Option Addr) (len cap:Nat) (il:Int)
  (hx:a.eval x = .slice ao len cap) (hlo:a.eval lo = .int .i64 il) (hl:il=l) (hc:l≤len) (hlc:len≤cap)
  (h:wpList P ops Q rest (a.put o.dst (.slice (cutAtN ao cap l size) (len-l) (cap-l))) w):wpList P ops Q (o::rest) a w:=by
 obtain⟨hu,⟨i,hi',_,hs,_⟩,_,_⟩:=T;subst hl;refine qgj _ hgd ?_ h;have c1:(0:Int)≤(l:Int)∧(l:Int)≤(len:Int):=by omega
 have c2:(len:Int)≤(cap:Int):=by omega
 simp[execOp,ho,Instr.sliceAt,run_underlying hu,hx,hlo,Instr.slice,Instr.sliceBounds,Instr.sliceBound,asIntOf,c1,c2,hc,hlc,sizeOf,typeInfo,hi',hs,cutAtN,Result.andThen]
end
end Go.Proofs.YtbabjlohkniciaaGreatDoor.lib
namespace Go.Proofs.YtbabjlohkniciaaGreatDoor.lib
open Go Go.RowKit Go.ChangeShapes Go.WideShapes
theorem wf_u8 {n:Int} (h:(Lit.int .u8 n).wf=true):0≤n∧n≤255:=by simpa[Lit.wf,IntKind.min,IntKind.max,IntKind.signed,IntKind.bits] using h
theorem wf_u32 {n:Int} (h:(Lit.int .u32 n).wf=true):0≤n∧n≤4294967295:=by simpa[Lit.wf,IntKind.min,IntKind.max,IntKind.signed,IntKind.bits] using h
theorem wf_i64 {n:Int} (h:(Lit.int .i64 n).wf=true) : -9223372036854775808≤n∧n≤9223372036854775807:=by simpa[Lit.wf,IntKind.min,IntKind.max,IntKind.signed,IntKind.bits] using h
structure IntsArg (k:IntKind) (w:World) (a:Option Addr) (len cap:Nat) (xs:List Int):Prop where
 le:len≤cap
 max:cap≤maxLen
 nil:a=none→cap=0
 length:xs.length=len
 cs:Cs w a (xs.map (Value.int k))
 wf:∀x∈xs,(Lit.int k x).wf=true
 lt:∀x∈blk a,cap≠0→x<w.heap.size
theorem qyp {x:Addr} (h:x.spot=none) (j:Nat):x.add j=⟨x.block,x.off+j,none⟩:=by obtain⟨b,o,s⟩:=x;simp only at h;subst h;unfold Addr.add;split<;>simp_all
section
variable {H : Type} {enc : TypeId × Value → H} {P : Program} {w : World}
theorem qz6 {t e:TypeId} {k:IntKind} {a:Option Addr} {len cap:Nat} {d:DataW H} {p:List MemPlace} (ht:P.underlying t=some (.slice e)) (he:P.underlying e=some (.int k)) (hc:P.cellsOf e=1)
  (h:DataW.Trod enc P w 0 (λ_=>true) true t (.slice a len cap) d p) :
  ∃xs sp:List Int,IntsArg k w a len cap xs∧sp.length=cap-len∧(d = .nil∧cap=0∨d = .slice (lits k xs) (lits k sp)):=by
 obtain⟨fuel,hf⟩:=h;rcases open_ints ht he hc hf with⟨hcs,hx⟩|⟨x,l,c,zs,hcs,_,hl,hm,hz,hx,hcell,hwz⟩
 ·simp[Value.cells]at hcs;obtain⟨rfl,rfl,rfl⟩:=hcs;simp at hx;exact⟨[],[],⟨qag _,qba _,λ_=>rfl,rfl,.inl rfl,by simp,by simp[blk]⟩,rfl,.inl ⟨hx.1,rfl⟩⟩
 ·simp[Value.cells]at hcs;obtain⟨rfl,rfl,rfl⟩:=hcs;simp only[if_true]at hz;simp at hx;have hcl:∀i v,(zs.map (Value.int k))[i]?=some v→w.cell? (x.add i)=some v:=by
   intro i v hv;have hi:i<zs.length:=by have:=(qbg.1 hv).1;simpa using this
   rw[hcell i hi];simp[hi]at hv;simp[List.getD,hi,hv]
  have spot:0<zs.length→x.spot=none:=by
   intro h0;have h1:=hcell 0 h0;have h2:x.add 0=x:=by simp[Addr.add]
   rw[h2]at h1;cases hs:x.spot with
   | none=>rfl
   | some s=>simp only[World.cell?,hs,Option.isSome_some,if_true]at h1;split at h1<;>cases h1
  have hcsx:Cs w (some x) (zs.map (Value.int k)):=by
   by_cases h0:zs=[]
   ·left;simp[h0]
   ·right;have hp:0<zs.length:=List.length_pos_iff.2 h0;have hs:=spot hp;refine⟨x.block,x.off,by rw[<-hs],λj v hv=>?_⟩;have h3:=hcl j v hv;have h4:x.add j=⟨x.block,x.off+j,none⟩:=by exact qyp hs j
    rwa [h4]at h3
  refine⟨zs.take len,zs.drop len,⟨hl,hm,(λh=>by cases h),(by simp;omega),?_,λy hy=>hwz y (qbu hy),?_⟩,(by simp;omega),.inr hx.1⟩
  ·rcases hcsx with h0|⟨g,o,ha,h0⟩
   ·left;have:zs=[]:=by simpa using h0
    simp[this]
   ·refine .inr ⟨g,o,ha,λj v hv=>h0 j v ?_⟩;rw[qro,qbl]at hv;split at hv
    ·exact hv
    ·cases hv
  ·intro y hy hne;simp[blk]at hy;subst hy;have h0:0<zs.length:=by omega
   exact World.block_lt_of_cell? w _ (by have:=hcell 0 h0;simpa[Addr.add] using this)
theorem qh0 (hl:laidOutB P=true) {W W':World} (hb:Below W.heap.size W W'):∀{ts:List TypeId} {vs:List Value} {ds:List (DataW H)} {ps:List MemPlace},
  (ts.all λt=>P.readableRec t&&decide (t<P.types.size))=true→(∀x∈ps,x.block<W.heap.size)→DataW.TrodAll enc P W 0 (λ_=>true) true ts vs ds ps→DataW.TrodAll enc P W' 0 (λb=>decide (b<W.heap.size)) true ts vs ds ps
 | [],[],[],_,_,_,h=>h
 | t::ts,v::vs,d::ds,ps,hr,hlt,h=>by
  simp only[qrp,qbf,decide_eq_true_eq]at hr;obtain⟨v',vs',d',ds',p,q,hv,hd,rfl,h1,h2⟩:=trodAll_cons h;obtain⟨rfl,rfl⟩:=List.cons.inj hv;obtain⟨rfl,rfl⟩:=List.cons.inj hd;exact trodAll_cons_mk (Below.trod hl hr.1.1 hr.1.2 h1 hb (λx hx=>hlt x (by simp[hx]))) (qh0 hl hb hr.2 (λx hx=>hlt x (by simp[hx])) h2)
 | [],_::_,_,_,_,_,h=>by simp[DataW.TrodAll]at h
 | [],[],_::_,_,_,_,h=>by simp[DataW.TrodAll]at h
 | _::_,[],_,_,_,_,h=>by simp[DataW.TrodAll]at h
 | _::_,_::_,[],_,_,_,h=>by simp[DataW.TrodAll]at h
theorem qpb {s:ChangeSpec} {f:FuncId} {fn:Func} {W:World} {args:Array Value} {ds gs:List (DataW H)} {before:List MemPlace} {tb:TypeId}
  (hl:laidOutB P=true) (hread:(fn.params.toList.all λt=>P.readableRec t&&decide (t<P.types.size))=true) (hvars:s.vars=[]) (hres:fn.resultTypes=#[tb]) (htb:P.underlying tb=some .bool)
  (hW:DataW.Whole enc P fn.params.toList s.vars false W args.toList ds gs before) (hfn:∀gs,s.vars=[]→gs=[]→s.fn H (ds++gs)={ results:=[.lit (.bool true)],args:=ds })
  (hc:Calls P f args W λe W'=>e = .returned (.bool true)∧Below W.heap.size W W') :
  Calls P f args W λe W'=>∃v,e = .returned v∧s.post enc P fn false true false false W args v W':=by
 have hW':=hW;obtain⟨p,q,hA,hV,rfl,hfz,hnd⟩:=hW;have hV':=hV;rw[hvars]at hV';obtain⟨rfl,rfl⟩:=trodVars_none hV';have hlt:∀x∈p,x.block<W.heap.size:=λx hx=>by simpa using hW'.lt x (by simpa using hx)
 refine hc.mono λe W' ⟨he,hb⟩=>⟨_,he,_,_,_,[],p,[],hW',?_,?_,?_,hb.frame _,λh=>by cases h⟩
 ·rw[hfn [] hvars rfl,hres];exact trodAll_mk1 (shut_bool htb _)
 ·rw[hfn [] hvars rfl];exact qh0 hl hb hread hlt hA
 ·rw[hvars,hfn [] hvars rfl];rfl
end
end Go.Proofs.YtbabjlohkniciaaGreatDoor.lib
namespace Go.Proofs.YtbabjlohkniciaaGreatDoor.lib
open Go Go.RowKit Go.ChangeShapes Go.WideShapes
section
variable {H : Type} {enc : TypeId × Value → H} {P : Program} {w : World}
def Light (P:Program) (t:TypeId) (d:DataW H):Prop:=(DataW.weights P t d).all (·≤reachBytes)=true
theorem qk8 {e:TypeId}:∀{ds:List (DataW H)},(DataW.weightsAll P e ds).all (·≤reachBytes)=true→∀d∈ds,Light P e d
 | [],_,d,hd=>by cases hd
 | x::r,h,d,hd=>by
  rw[DataW.weightsAll,List.all_append,qbf]at h;rcases qaw.1 hd with rfl|hd
  ·exact h.1
  ·exact qk8 h.2 d hd
theorem qi2 {ts:List TypeId} {ds:List (DataW H)} (h:(DataW.weightsEach P ts ds).all (·≤reachBytes)=true) {j:Nat} {t:TypeId} {d:DataW H} (ht:ts[j]?=some t) (hd:ds[j]?=some d):Light P t d:=
 List.all_eq_true.2 λn hn=>List.all_eq_true.1 h n (DataW.weights_mem_each ht hd n hn)
theorem qqy {t e:TypeId} {elems spare:List (DataW H)} (ht:P.underlying t=some (.slice e)) (h:Light P t (.slice elems spare)) :
  (elems.length+spare.length)*P.bytesOf e≤reachBytes∧(∀d∈elems,Light P e d)∧∀d∈spare,Light P e d:=by
 unfold Light at h;rw[DataW.weights,ht]at h;simp only[qrp,List.all_append,qbf,decide_eq_true_eq]at h;exact⟨h.1,qk8 h.2.1,qk8 h.2.2⟩
theorem qo8 {t:TypeId} {bytes:List UInt8} (h:Light (H:=H) P t (.lit (.string bytes))):bytes.length≤140737488351232:=by
 unfold Light at h;rw[DataW.weights]at h;simp only[qrp,List.all_nil,Bool.and_true,decide_eq_true_eq]at h;have e:reachBytes=140737488351232:=by decide
 omega
theorem zax (d:DataW H):1≤Rows.uptoBulk d:=by
 cases d with
 | lit l=>cases l<;>simp[Rows.uptoBulk]
 | nil=>simp[Rows.uptoBulk]
 | ptr d=>simp[Rows.uptoBulk]
 | slice elems spare=>simp[Rows.uptoBulk]
 | agg parts=>simp[Rows.uptoBulk]
 | iface t d=>simp[Rows.uptoBulk]
 | map entries=>simp[Rows.uptoBulk]
 | held h=>simp[Rows.uptoBulk]
theorem qyc {d:DataW H} {l:List (DataW H)} (h:d∈l):Rows.uptoBulk d≤Rows.uptoBulkAll l:=by
 induction l with
 | nil=>cases h
 | cons x r ih=>
  simp only[Rows.uptoBulkAll];cases qaw.1 h with
  | inl e=>subst e;omega
  | inr e=>have:=ih e;omega
theorem qrj (l:List (DataW H)):l.length≤Rows.uptoBulkAll l:=by
 induction l with
 | nil=>simp[Rows.uptoBulkAll]
 | cons x r ih=>have:=zax x;simp only[Rows.uptoBulkAll,qam];omega
theorem qyd {d:DataW H} {elems spare:List (DataW H)} (h:d∈elems):Rows.uptoBulk d≤Rows.uptoBulk (.slice elems spare):=by have:=qyc h;simp only[Rows.uptoBulk];omega
theorem qun (elems spare:List (DataW H)):elems.length≤Rows.uptoBulk (.slice elems spare):=by have:=qrj elems;simp only[Rows.uptoBulk];omega
theorem qvh {t e:TypeId} {a:Option Addr} {len cap s:Nat} {d:DataW H} {p:List MemPlace} (ht:P.underlying t=some (.slice e)) (hs:P.cellsOf e=s) (h0:0<s)
  (h:DataW.Trod enc P w 0 (λ_=>true) true t (.slice a len cap) d p) (hL:Light P t d) :
  len≤cap∧cap≤maxLen∧(a=none→cap=0)∧len*P.bytesOf e≤140737488351232∧len≤Rows.uptoBulk d∧(len=0∨∃g o,a=some ⟨g,o,none⟩∧∀i,i<len→∃(cs:List Value) (y:DataW H×List MemPlace) (n:Nat),
   cs.length=s∧(∀j v,cs[j]?=some v→w.cell? ⟨g,o+i*s+j,none⟩=some v)∧DataW.trod enc P w 0 (λ_=>true) true n e cs=some y∧Light P e y.1∧Rows.uptoBulk y.1≤Rows.uptoBulk d):=by
 have er:reachBytes=140737488351232:=by decide
 obtain⟨fuel,hf⟩:=h;rcases DataW.trod_slice ht hf with⟨hcs,hx⟩|⟨x,l,c,elems,rest,n,_,hcs,hx,_,hl,hm,hlen,hel,_⟩
 ·simp[Value.cells]at hcs;obtain⟨rfl,rfl,rfl⟩:=hcs;exact⟨qag _,qba _,λ_=>rfl,by simp,qba _,.inl rfl⟩
 ·simp[Value.cells]at hcs;obtain⟨rfl,rfl,rfl⟩:=hcs;simp only[qa1]at hx;obtain⟨rfl,_⟩:=hx;obtain⟨hw,hle,_⟩:=qqy ht hL;simp only[qa8]at hw;refine⟨hl,hm,(λh=>by cases h),?_,by have:=qun (elems.map (·.1)) (rest.map (·.1));simp at this;omega,?_⟩
  ·have h1:len*P.bytesOf e≤(elems.length+rest.length)*P.bytesOf e:=qcy _ (by omega);omega
  ·by_cases hz:len=0
   ·exact .inl hz
   ·right;have get:∀i,i<len→∃(cs:List Value) (y:DataW H×List MemPlace),cs.length=s∧(∀j v,cs[j]?=some v→w.cell? ((x.add (i*s)).add j)=some v)∧DataW.trod enc P w 0 (λ_=>true) true n e cs=some y∧Light P e y.1∧Rows.uptoBulk y.1≤Rows.uptoBulk (.slice (elems.map (·.1)) (rest.map (·.1))):=by
     intro i hi;have h1:=hel i hi;rw[hs]at h1;have hie:i<elems.length:=by omega
     rw[qaf hie]at h1;obtain⟨cs,hc1,hc2⟩:=Option.bind_eq_some_iff.1 h1;obtain⟨_,hc3,hc4⟩:=World.cells?_some hc1;exact⟨cs,elems[i],hc3,λj v hv=>by rw[hc4 j (by have:=(qbg.1 hv).1;omega),hv],hc2,hle _ (qb8.2 ⟨_,qb7 hie,rfl⟩),qyd (qb8.2 ⟨_,qb7 hie,rfl⟩)⟩
    have spot:x.spot=none:=by
     obtain⟨cs,y,h1,h2,_⟩:=get 0 (by omega);have h3:0<cs.length:=by omega
     have h4:=h2 0 cs[0] (by simp[h3]);simp only[Nat.zero_mul]at h4;have h5:(x.add 0).add 0=x:=by simp[Addr.add]
     rw[h5]at h4;cases hs:x.spot with
     | none=>rfl
     | some s=>simp only[World.cell?,hs,Option.isSome_some,if_true]at h4;split at h4<;>cases h4
    refine⟨x.block,x.off,by rw[<-spot],λi hi=>?_⟩;obtain⟨cs,y,h1,h2,h3,h4⟩:=get i hi;refine⟨cs,y,n,h1,λj v hv=>?_,h3,h4⟩;have h5:=h2 j v hv;rw[qyp spot,qyp rfl]at h5;exact h5
structure BytesArg (w:World) (a:Option Addr) (len cap:Nat) (bs:List UInt8):Prop where
 le:len≤cap
 max:cap≤maxLen
 nil:a=none→cap=0
 length:bs.length=len
 cs:Cs w a (bs.map bv)
 lim:len≤140737488351232
 lt:∀x∈blk a,bs≠[]→x<w.heap.size
theorem qpx {t e:TypeId} {a:Option Addr} {len cap:Nat} {d:DataW H} {p:List MemPlace} (ht:P.underlying t=some (.slice e)) (he:P.underlying e=some (.int .u8)) (hc:P.cellsOf e=1) (hby:P.bytesOf e=1)
  (h:DataW.Trod enc P w 0 (λ_=>true) true t (.slice a len cap) d p) (hL:Light P t d):∃bs,BytesArg w a len cap bs∧len≤Rows.uptoBulk d:=by
 obtain⟨xs,_,A,_⟩:=qz6 ht he hc h;obtain⟨_,_,_,hlim,hbk,_⟩:=qvh ht hc (by decide) h hL;have key:Cs w a ((xs.map λx=>UInt8.ofNat x.toNat).map bv):=by
  have e:(xs.map λx=>UInt8.ofNat x.toNat).map bv=xs.map (Value.int .u8):=by rw[List.map_map];apply List.map_congr_left;intro x hx;have:=wf_u8 (A.wf x hx);simp only[Function.comp,bv,qb6];exact int_eq (by omega)
  rw[e];exact A.cs
 refine⟨xs.map λx=>UInt8.ofNat x.toNat,⟨A.le,A.max,A.nil,by simp[A.length],key,by rw[hby]at hlim;omega,λx hx hne=>?_⟩,hbk⟩;cases a with
 | none=>simp[blk]at hx
 | some a=>simp[blk]at hx;subst hx;exact key.lt (by simpa using hne) a rfl
end
end Go.Proofs.YtbabjlohkniciaaGreatDoor.lib
namespace Go.Proofs.YtbabjlohkniciaaGreatDoor.lib
open Go Go.RowKit
structure Rd (w:World) (a:Option Addr) (cap:Nat) (bs:List UInt8):Prop where
 cs:Cs w a (bs.map bv)
 le:bs.length≤cap
 max:cap≤maxLen
 nil:a=none→cap=0
theorem Rd.fr {w w':World} {a:Option Addr} {cap:Nat} {bs:List UInt8} (h:Rd w a cap bs) (f:Fr [] w w'):Rd w' a cap bs:=⟨h.cs.fr f (by simp),h.le,h.max,h.nil⟩
theorem Rd.frS {S:List Nat} {w w':World} {a:Option Addr} {cap:Nat} {bs:List UInt8} (h:Rd w a cap bs) (f:Fr S w w') (hn:∀x∈blk a,x∉S):Rd w' a cap bs:=⟨h.cs.fr f hn,h.le,h.max,h.nil⟩
theorem Rd.none (w:World):Rd w none 0 []:=⟨.inl rfl,qag _,qba _,λ_=>rfl⟩
theorem Rd.of_arg {w:World} {a:Option Addr} {len cap:Nat} {bs:List UInt8} (h:BytesArg w a len cap bs):Rd w a cap bs:=⟨h.cs,by rw[h.length];exact h.le,h.max,h.nil⟩
theorem qxx {w:World} {a:Option Addr} {cap:Nat} {vs:List Value} (h:Cs w a vs) (k:Nat) (hk:k≤vs.length) (hc:vs.length≤cap):Cs w (cutAtN a cap k 1) (vs.drop k):=by have:=h.cut cap k vs.length hk (qag _) hc;rw[qa9 (by simp),<-qmu]at this;exact this
theorem zas {w:World} {a:Option Addr} {vs:List Value} (h:Cs w a vs) (k:Nat):Cs w a (vs.take k):=by
 rcases h with rfl|⟨g,o,rfl,h⟩
 ·left;simp
 ·refine .inr ⟨g,o,rfl,λj v hv=>h j v ?_⟩;rw[qbl]at hv;split at hv
  ·exact hv
  ·cases hv
theorem Rd.drop {w:World} {a:Option Addr} {cap:Nat} {bs:List UInt8} (h:Rd w a cap bs) (k:Nat) (hk:k≤bs.length):Rd w (cutAtN a cap k 1) (cap-k) (bs.drop k):=by have h1:=h.le;have h2:=h.max;refine⟨?_,by rw[qau];omega,by omega,λe=>by have:=h.nil (qll e);omega⟩;rw[List.map_drop];exact qxx h.cs k (by simpa using hk) (by simpa using h1)
theorem Rd.take {w:World} {a:Option Addr} {cap:Nat} {bs:List UInt8} (h:Rd w a cap bs) (k:Nat):Rd w a cap (bs.take k):=by have h1:=h.le;refine⟨?_,by rw[qar];omega,h.max,h.nil⟩;rw[qro];exact zas h.cs k
theorem Rd.mid {w:World} {a:Option Addr} {cap:Nat} {bs:List UInt8} (h:Rd w a cap bs) (l m:Nat) (hk:l+m≤bs.length):Rd w (cutAt a cap l) (cap-l) ((bs.drop l).take m):=by have h1:=(h.drop l (by omega)).take m;rw[qmu]at h1;exact h1
theorem Rd.at {w:World} {a:Option Addr} {cap:Nat} {bs:List UInt8} (h:Rd w a cap bs) {i:Nat} (hi:i<bs.length):∃g o,a=some ⟨g,o,Option.none⟩∧w.cell? ⟨g,o+i,Option.none⟩=some (.int .u8 ((bs[i].toNat:Nat):Int)):=by obtain⟨g,o,rfl,hc⟩:=h.cs.at (by simp;omega);exact⟨g,o,rfl,hc i _ (by simp[hi,bv])⟩
theorem qiz {w:World} {base:Nat} {e:TypeId} {len cap:Nat} {bs:List UInt8} {a:Option Addr} (h:w.ownsRow base e 1 (.slice a len cap) len (bs.map bv)):Rd w a cap bs∧bs.length=len:=by
 have hl:bs.length=len:=by simpa using h.1
 obtain⟨_,_,he,h1,h2,h3⟩:=qgr h;simp only[qbn]at he;obtain⟨rfl,_,rfl⟩:=he;exact⟨⟨qcm h,by omega,h2,h3⟩,hl⟩
section
variable {P : Program} {t e : TypeId} {z : Value} {size bytes : Nat}
theorem qdb (T:SliceTy P t e z size bytes) (l:Nat) (a:Option Addr) (len cap:Nat) (il:Int) (hl:il=l) (hc:l≤len) (hlc:len≤cap) (w:World) :
  (Instr.slice t (.slice a len cap) (some (.int .i64 il)) Option.none Option.none).run P w = .ok (.slice (cutAtN a cap l size) (len-l) (cap-l)) w:=by
 obtain⟨hu,⟨i,hi',_,hs,_⟩,_,_⟩:=T;subst hl;have c1:(0:Int)≤(l:Int)∧(l:Int)≤(len:Int):=by omega
 have c2:(len:Int)≤(cap:Int):=by omega
 simp[run_underlying hu,Instr.slice,Instr.sliceBounds,Instr.sliceBound,asIntOf,c1,c2,hc,hlc,sizeOf,typeInfo,hi',hs,cutAtN,Result.andThen]
theorem qff (T:SliceTy P t e z size bytes) (m:Nat) (a:Option Addr) (len cap:Nat) (ih:Int) (hh:ih=m) (hc:m≤cap) (w:World) :
  (Instr.slice t (.slice a len cap) Option.none (some (.int .i64 ih)) Option.none).run P w = .ok (.slice a m cap) w:=by
 obtain⟨hu,⟨i,hi',_,hs,_⟩,_,_⟩:=T;subst hh;have c1:(0:Int)≤(m:Int)∧(m:Int)≤(cap:Int):=by omega
 have ad0:∀x:Addr,x.add 0=x:=λx=>rfl
 cases a<;>simp[run_underlying hu,Instr.slice,Instr.sliceBounds,Instr.sliceBound,asIntOf,c1,hc,sizeOf,typeInfo,hi',hs,Result.andThen,ad0]
theorem run_slice_lh (T:SliceTy P t e z 1 bytes) (l m:Nat) (a:Option Addr) (len cap:Nat) (il ih:Int) (hl:il=l) (hh:ih=l+m) (hc:l+m≤cap) (w:World) :
  (Instr.slice t (.slice a len cap) (some (.int .i64 il)) (some (.int .i64 ih)) Option.none).run P w = .ok (.slice (cutAt a cap l) m (cap-l)) w:=by
 obtain⟨hu,⟨i,hi',_,hs,_⟩,_,_⟩:=T;subst hl;obtain rfl:ih=((l+m:Nat):Int):=by omega
 have c1:(0:Int)≤(l:Int)+m∧(l:Int)+m≤(cap:Int):=by omega
 have e2:((l:Int)+m).toNat=l+m:=by omega
 have e1:l+m-l=m:=by omega
 simp[run_underlying hu,Instr.slice,Instr.sliceBounds,Instr.sliceBound,asIntOf,c1,e2,sizeOf,typeInfo,hi',hs,cutAt,e1,Result.andThen]
end
def NewBytes (w:World) (bs:List UInt8) (e:Ending) (w':World):Prop:=
 ∃a,e = .returned (.slice a bs.length bs.length)∧Rd w' a bs.length bs∧(∀x∈blk a,w.heap.size≤x∧x<w'.heap.size)∧Fr [] w w'
end Go.Proofs.YtbabjlohkniciaaGreatDoor.lib
namespace Go.Proofs.YtbabjlohkniciaaGreatDoor.lib
open Go Go.RowKit
theorem qji {S:List Nat} {w w':World} {a:Option Addr} {cap:Nat} {bs:List UInt8} (h:Rd w a cap bs) (f:Fr S w w') (hn:bs≠[]→∀x∈blk a,x∉S):Rd w' a cap bs:=by
 by_cases hb:bs=[]
 ·exact⟨.inl (by rw[hb];rfl),h.le,h.max,h.nil⟩
 ·exact h.frS f (hn hb)
theorem qts {w:World} {a:Option Addr} {cap:Nat} {bs:List UInt8} (h:Rd w a cap bs) (hb:bs≠[]):∀x∈blk a,x<w.heap.size:=by
 intro x hx;cases a with
 | none=>simp[blk]at hx
 | some a=>simp[blk]at hx;rw[hx];exact h.cs.lt (by simpa using hb) a rfl
theorem qfl {P:Program} {t e:TypeId} {z:Value} {size bytes:Nat} (T:SliceTy P t e z size bytes) (n:Nat) (a:Option Addr) (cap:Nat) (hc:n≤cap) (w:World) :
  (Instr.slice t (.slice a n cap) Option.none (some (.int .i64 n)) (some (.int .i64 n))).run P w = .ok (.slice a n n) w:=by
 obtain⟨hu,⟨i,hi',_,hs,_⟩,_,_⟩:=T;have c1:(0:Int)≤(n:Int)∧(n:Int)≤(cap:Int):=by omega
 have ad0:∀x:Addr,x.add 0=x:=λx=>rfl
 cases a<;>simp[run_underlying hu,Instr.slice,Instr.sliceBounds,Instr.sliceBound,asIntOf,c1,hc,sizeOf,typeInfo,hi',hs,Result.andThen,ad0]
theorem qrc {w:World} {base:Nat} {e:TypeId} {size n:Nat} {xs:List Value} {ao:Option Addr} {len cap:Nat} (h:w.ownsRow base e size (.slice ao len cap) n xs):Cs w ao xs:=by
 rcases h.2 with⟨h1,h2⟩|⟨g,cap',cur,h1,hb,hg,hn,hm,hs,ht⟩
 ·left;have:=h.1;rw[h2]at this;exact qbs (by simpa using this)
 ·simp only[qbn]at h1;obtain⟨rfl,rfl,rfl⟩:=h1;refine .inr ⟨g,0,rfl,λj v hv=>?_⟩;rw[cell_of hg,qbe];rw[<-ht,qbl]at hv;split at hv
  ·simpa using hv
  ·cases hv
theorem qgx (w:World) (C:Array Value) (t:TypeId) (fr:Nat×Nat):Cs (w.alloc (.cells C t fr)) (some ⟨w.heap.size,0,none⟩) C.toList:=
 .inr ⟨w.heap.size,0,rfl,λj v hv=>by rw[cell_of (qa4 w _),qbe,<-qci];exact hv⟩
end Go.Proofs.YtbabjlohkniciaaGreatDoor.lib
namespace Go.Proofs.YtbabjlohkniciaaGreatDoor.huf
open Go Go.RowKit lib bm bl
theorem za3 (p:Nat) (F:List Nat) (bs:List UInt8) (at_ n:Nat) (w:World) (h:bits.Rd w p F bs at_) (hn:n≤32) (hl:at_+n≤8*bs.length) :
  Calls Tryz.prog 142 #[.pointer (some ⟨p,0,none⟩),.int .i64 n] w λe w'=>e = .returned (.tuple #[.int .u32 (bval (((bytesBits bs).drop at_).take n):Nat),.bool true])∧bits.Rd w' p F bs (at_+n)∧Fr [p] w w':=by
 have h1:=bits.qu7 p F bs at_ n w h (by omega) (by omega) (by omega);rw[qc8,qjt bs at_ n hl]at h1;exact h1
structure Ri (w:World) (a:Option Addr) (cap:Nat) (xs:List Nat):Prop where
 cs:Cs w a (xs.map λx=>.int .i64 (x:Nat))
 le:xs.length≤cap
 max:cap≤maxLen
 nil:a=none→cap=0
theorem Ri.fr {w w':World} {a:Option Addr} {cap:Nat} {xs:List Nat} (h:Ri w a cap xs) (f:Fr [] w w'):Ri w' a cap xs:=⟨h.cs.fr f (by simp),h.le,h.max,h.nil⟩
theorem Ri.at {w:World} {a:Option Addr} {cap:Nat} {xs:List Nat} (h:Ri w a cap xs) {i:Nat} (hi:i<xs.length):∃g o,a=some ⟨g,o,none⟩∧w.cell? ⟨g,o+i,none⟩=some (.int .i64 (xs[i]:Nat)):=by obtain⟨g,o,rfl,hc⟩:=h.cs.at (by simp;omega);exact⟨g,o,rfl,hc i _ (by simp[hi])⟩
theorem qdr:∀a b:List Nat,weight (a++b)=weight a+weight b
 | [],b=>by simp[weight]
 | x::a,b=>by rw[qc3,weight,weight,qdr a b];omega
theorem qhy:∀l:List Nat,weight l≤16384*l.length
 | []=>qba _
 | x::l=>by
  have:=qhy l;have h:(if x=0 then 0 else 2^(15-x))≤16384:=by
   split
   ·omega
   ·exact qan (qax (by decide) (show 15-x≤14 by omega)) (by decide)
  rw[weight,qam];omega
theorem qln (a:Option Addr) (cap:Nat) (ls:List Nat) (w:World) (h:Ri w a cap ls) (hle:∀l∈ls,l≤15) (hlen:ls.length≤100000) :
  Calls Tryz.prog 209 #[.slice a ls.length cap] w λe w'=>e = .returned (.tuple #[.int .i64 (weight ls:Nat),.bool true])∧w=w':=by
 obtain⟨L,hL⟩:=zex ls.length;rw[<-hL]at hlen ⊢;have H:=zhd3 h hle hL;clear h hle hL;go_enter Tryz.func209,Tryz.ntmps209;go_upto_block 0 with fail;go_wp2;go_loopg [4,6,9] L (λk s4 s6 s9 wr=>∃i:Nat,s9 = .int .i64 (i:Nat)∧s4 = .int .i64 (weight (ls.take i):Nat)∧i+k=L∧w=wr);case atStart=>exact⟨0,rfl,rfl,by omega,rfl⟩
 case round=>
  obtain⟨i,rfl,rfl,hik,rfl⟩:=hrel;by_cases hi:i<L
  ·obtain⟨k,rfl⟩:∃k,gk=k+1:=⟨gk-1,by omega⟩;have hil:i<ls.length:=by rw[<-H.out.2.2];exact hi
   obtain⟨g,o,rfl,hc⟩:=H.out.1.at hil;have h15:=H.out.2.1 _ (qb7 hil);have hw:=qdr (ls.take i) [ls[i]];rw[<-qbc hil]at hw;have hwl:=qhy (ls.take i);rw[qar]at hwl;generalize ls[i]=x at *;generalize hW:weight (ls.take i)=W at *;generalize hW2:weight (ls.take (i+1))=W2 at *;have hWb:W≤1638400000:=by omega
   by_cases h0:x=0
   ·subst h0;have e:W2=W:=by rw[hw];simp[weight]
    have HE:=zhd2 e hW2;clear e hw hwl hW hW2;go_wp2;go_roundg k;case measure=>omega
    case rel=>exact⟨i+1,by go_num,by rw[HE.l1,HE.o0],by omega,rfl⟩
   ·have hx:1≤x:=by omega
    obtain⟨y,hy⟩:=zex (15-x);have e1:(15:Int)-(x:Int)=(y:Int):=by omega
    have hp:2^y≤16384:=qan (qax (by decide) (show y≤14 by omega)) (by decide);have e:W2=W+2^y:=by rw[hw,hy];simp[weight,h0]
    obtain⟨z,hz⟩:=zex (2^y);rw[<-hz]at hp e;have e2:(2:Int)^y=(z:Int):=by rw[hz];exact qd2 y
    have HE:=zhd2 e hW2;have hy14:y≤14:=by omega
    clear e hw hwl hW hW2 hz hy;go_wp2;go_roundg k;case measure=>omega
    case rel=>exact⟨i+1,by go_num,by rw[HE.l1,HE.o0];first|go_num|rfl,by omega,rfl⟩
  ·obtain rfl:i=L:=by omega
   have hW:weight (ls.take i)=weight ls:=by rw[qa9 (by rw[<-H.out.2.2];exact qag _)]
   have HW:=zhd hW;clear hW;go_wp2;go_ret2;exact⟨by rw[<-HW.out];rfl,rfl⟩
theorem qpp (a:Option Addr) (cap:Nat) (ls:List Nat) (w:World) (h:Ri w a cap ls) (hle:∀l∈ls,l≤15) (hlen:ls.length≤100000) :
  Calls Tryz.prog 203 #[.slice a ls.length cap] w λe w'=>e = .returned (.bool (decide (weight ls=32768)))∧w=w':=by
 have hc:=zhd (qln a cap ls w h hle hlen);clear h hle;go_enter Tryz.func203,Tryz.ntmps203;go_wp2_with (go_at_call 209;refine hc.out.mono ?_;rintro e w' ⟨rfl,rfl⟩);go_ret;refine⟨qmb (qrk ?_),rfl⟩;first
  | (rw[quy];simp;omega)
  | simp
theorem qkn (ls:List Nat) (hle:∀l∈ls,l≤15) (hw:weight ls≤32768) (l:Nat) (hl:l≤15):nxt ls l≤32768:=by have h1:=qk4 ls l hl;have h2:=qnf ls (show l≤16 by omega);rw[qgl ls hle]at h2;have h3:nxt ls l*1≤nxt ls l*2^(15-l):=Nat.mul_le_mul_left _ (qbj _);omega
def cw (ls:List Nat) (l i j:Nat):Nat:=if lenAt ls j≠0∧(lenAt ls j<l∨(lenAt ls j=l∧j<i)) then code ls j else 0
def codeAt (ls:List Nat) (j:Nat):Nat:=if lenAt ls j=0 then 0 else code ls j
def codesOf (ls:List Nat):List Nat:=(List.range ls.length).map (codeAt ls)
theorem qn6 {ls:List Nat} {l i j:Nat} (h:j≠i∨lenAt ls i≠l):cw ls l (i+1) j=cw ls l i j:=by
 unfold cw;congr 1;rw[eq_iff_iff];constructor
 ·rintro⟨h1,h2|⟨h2,h3⟩⟩
  ·exact⟨h1,.inl h2⟩
  ·refine⟨h1,.inr ⟨h2,?_⟩⟩;rcases qbq j i with k|k
   ·exact k
   ·obtain rfl:j=i:=by omega
    rcases h with h|h
    ·exact absurd rfl h
    ·exact absurd h2 h
 ·rintro⟨h1,h2|⟨h2,h3⟩⟩
  ·exact⟨h1,.inl h2⟩
  ·exact⟨h1,.inr ⟨h2,by omega⟩⟩
theorem zbm {ls:List Nat} {l i:Nat} (h0:l≠0) (h:lenAt ls i=l):cw ls l (i+1) i=nxt ls l+(ls.take i).count l:=by unfold cw;rw[if_pos ⟨by omega,.inr ⟨h,by omega⟩⟩,code,h]
theorem qxt {ls:List Nat} {l j:Nat} (h0:l≠0) (hj:j<ls.length):cw ls l ls.length j=cw ls (l+1) 0 j:=by
 unfold cw;congr 1;rw[eq_iff_iff];constructor
 ·rintro⟨h1,h2|⟨h2,h3⟩⟩
  ·exact⟨h1,.inl (by omega)⟩
  ·exact⟨h1,.inl (by omega)⟩
 ·rintro⟨h1,h2|⟨h2,h3⟩⟩
  ·rcases qbq (lenAt ls j) l with k|k
   ·exact⟨h1,.inl k⟩
   ·exact⟨h1,.inr ⟨by omega,hj⟩⟩
  ·omega
theorem zbn {ls:List Nat} {j:Nat} (hle:lenAt ls j≤15):cw ls 16 0 j=codeAt ls j:=by
 unfold cw codeAt;by_cases h:lenAt ls j=0
 ·rw[if_pos h,if_neg (λhc=>hc.1 h)]
 ·rw[if_neg h,if_pos ⟨h,.inl (by omega)⟩]
theorem zar (ls:List Nat) (j:Nat):cw ls 1 0 j=0:=by unfold cw;rw[if_neg];rintro⟨h1,h2|⟨h2,h3⟩⟩<;>omega
theorem u32sTy:SliceTy Tryz.prog 91 90 (.int .u32 0) 1 4:=SliceTy.of Tryz.underlying91 (by kernel_rfl) rfl (by decide)
def Cw (w:World) (ls:List Nat) (Q l i:Nat):Prop:=∃A,w.heap[Q]?=some (.cells A 90 (0,0))∧A.size=ls.length∧∀j,j<ls.length→A[j]?=some (.int .u32 (cw ls l i j:Nat))
theorem qxu {w:World} {ls:List Nat} {Q:Nat} (h:w.ownsRow 0 90 1 (.slice (some ⟨Q,0,none⟩) ls.length ls.length) ls.length (madeCells (Value.int .u32 0).cells (ls.length*1)).toList):Cw w ls Q 1 0:=by
 obtain⟨o1,o2⟩:=h;rcases o2 with⟨o2,_⟩|⟨g,c',cur,o2,_,hg,_,_,hsz,ht⟩
 ·cases o2
 ·simp only[qbn,qas,qcg,and_true,true_and]at o2;obtain⟨rfl,rfl⟩:=o2;refine⟨cur,hg,by omega,λj hj=>?_⟩;rw[zar];have hj':j<cur.toList.length:=by simp;omega
  have h1:cur.toList[j]?=(madeCells (Value.int .u32 0).cells (ls.length*1)).toList[j]?:=by rw[<-ht,qbl,if_pos (by omega)]
  rw[<-qci,h1,show (Value.int .u32 0).cells=#[.int .u32 0] from rfl,toList_madeCells_one,qfb,if_pos (by omega)];rfl
def CodesGood (w:World) (ls:List Nat) (e:Ending) (w':World):Prop:=
 ∃g,e = .returned (.tuple #[.slice (some ⟨g,0,none⟩) ls.length ls.length,.int .i64 0])∧Cs w' (some ⟨g,0,none⟩) ((codesOf ls).map λx=>.int .u32 (x:Nat))∧w.heap.size≤g∧g<w'.heap.size∧Fr [] w w'
theorem qih (a:Option Addr) (cap:Nat) (ls:List Nat) (w:World) (h:Ri w a cap ls) (hle:∀l∈ls,l≤15) (hlen:ls.length≤400) (hw:weight ls≤32768) :
  Calls Tryz.prog 200 #[.slice a ls.length cap] w (CodesGood w ls):=by
 obtain⟨L,hL⟩:=zex ls.length;have hc:=qln a cap ls w h hle (by omega);rw[<-hL]at hlen hc ⊢;obtain⟨W,hW⟩:=zex (weight ls);rw[<-hW]at hc hw;have H:=zhd5 h hle hL hc hW;obtain⟨hu,⟨ti,hi',hz',hs',hb'⟩,hcz,hp⟩:=u32sTy;clear h hle hL hc hW;have d1:decide ((400:Int)<L)=false:=by simp;omega
 have d2:decide ((32768:Int)<W)=false:=by simp;omega
 go_enter Tryz.func200,Tryz.ntmps200;go_upto_block 1 with (first|(go_at_call 209;refine H.out.2.2.2.1.mono ?_;rintro e w' ⟨rfl,rfl⟩)|(refine wpList_make_full _ rfl _ _ 91 rfl 0 90 ti (.int .u32 0) 1 hu hi' hz' hs' .i64 .i64 (L:Nat) (L:Nat) L rfl rfl rfl rfl (by rw[hb'];omega) (by unfold maxLen;omega) (by omega) ?_;intro w3 own3 grow3;have H3:=zhd2 own3 grow3;clear own3 grow3));obtain⟨Q,hQ⟩:=zex w.heap.size;rw[<-hQ]at H3 ⊢;have hst:Cw w3 ls Q 1 0:=qxu (by rw[<-H.out.2.2.1];exact H3.o0);have f3:Fr [] w w3:=(Fr.refl [] w).grown H3.l1 (λk hk=>by cases hk);have HS:=zhd3 hst f3 hQ;clear hst f3 hQ H3 hu hi' hz' hs' hb' hcz hp d1 d2;go_wp2;go_loopg [7,8,9,10,38] 15 (λk s7 s8 s9 s10 s38 wr=>∃l nx:Nat,s8 = .int .i64 (l:Nat)∧s7 = .int .u32 (nx:Nat)∧l+k=16∧1≤l∧2*nx=nxt ls l∧Cw wr ls Q l 0∧Fr [] w wr);case atStart=>exact⟨1,0,rfl,rfl,rfl,qag _,rfl,HS.o0,HS.o1⟩
 case round=>
  obtain⟨l,nx,rfl,rfl,hlk,hl1,hnx,hcw,hf⟩:=hrel;by_cases hl:l≤15
  ·obtain⟨k,rfl⟩:∃k,gk=k+1:=⟨gk-1,by omega⟩;have hb:=qkn ls H.out.2.1 (by rw[<-H.out.2.2.2.2];exact hw) l hl;obtain⟨wo,rfl⟩:∃wo:World,wo=wr:=⟨_,rfl⟩;obtain⟨n2,hn2⟩:=zex (nxt ls l);rw[<-hn2]at hnx hb;have HX:=zhd5 hcw hf hn2 hnx hlk;have hnxb:nx≤16384:=by omega
   have e2:(nx:Int)*2=(n2:Int):=by omega
   clear hcw hf hn2 hnx hlk;go_upto_block 3 with fail;clear e2;go_wp2;go_loopg [7,9,10,38] L (λk s7 s9 s10 s38 wr=>∃i y:Nat,s38 = .int .i64 (i:Nat)∧s7 = .int .u32 (y:Nat)∧i+k=L∧y=n2+(ls.take i).count l∧Cw wr ls Q l i∧Fr [] w wr);case atStart=>exact⟨0,n2,rfl,rfl,by omega,by simp,HX.o0,HX.o1⟩
   case round=>
    obtain⟨i,y,rfl,rfl,hik,hy,hcw,hf⟩:=hrel;have hcl:=qhf (a:=l) (l:=ls.take i);rw[qar]at hcl;have hyb:y≤40000:=by omega
    by_cases hi:i<L
    ·obtain⟨k2,rfl⟩:∃k2,gk=k2+1:=⟨gk-1,by omega⟩;have hil:i<ls.length:=by rw[<-H.out.2.2.1];exact hi
     obtain⟨g,o,rfl,hc⟩:=(H.out.1.fr hf).at hil;have hla:lenAt ls i=ls[i]:=by unfold lenAt;rw[qaf hil];rfl
     have hct:=qdp ls i l hil;rw[hla]at hct;obtain⟨A,hA,hAs,hAt⟩:=hcw;have zA:=qay hA i;obtain⟨x0,hx0⟩:∃x,wr.cell? ⟨Q,i,none⟩=some x:=⟨_,by rw[cell_of hA];exact hAt i hil⟩;have f2:Fr [Q] wr (wr.setCell ⟨Q,i,none⟩ (.int .u32 y)):=(Fr.refl [Q] wr).setCell (by simp) _;obtain⟨v,hv⟩:=zex (ls[i]);rw[<-hv]at hc hla hct;have HI:=zhd7 (And.intro hla hct) (And.intro hA (And.intro hAs hAt)) hf hy hik f2 hv;clear hla hct hA hAs hAt hf hy hik f2 hv hcl;by_cases hvl:v=l
     ·have d1:((v:Int)==(l:Int))=true:=by simp;omega
      go_wp2;go_roundg k2;case measure=>have:=HI.out.2.2.2.2.1;omega
      case rel=>
       obtain⟨⟨hla,hct⟩,⟨hA,hAs,hAt⟩,hf,hy,hik,f2,_⟩:=HI.out;rw[if_pos hvl]at hct;refine⟨i+1,y+1,by go_num,by go_num,by omega,by omega,⟨_,qa0 hA _,by simp[hAs],λj hj=>?_⟩,hf.step f2 (λz hz=>.inr (by simp at hz;rw[hz,HS.l2];exact qag _))⟩;by_cases e:j=i
       ·subst e;rw[qaq (by omega),zbm (by omega) (by rw[hla,hvl]),hy,HX.o2]
       ·rw[qac (by omega),qn6 (.inl e)];exact hAt j hj
     ·have d1:((v:Int)==(l:Int))=false:=by simp;omega
      go_wp2;go_roundg k2;case measure=>have:=HI.out.2.2.2.2.1;omega
      case rel=>obtain⟨⟨hla,hct⟩,⟨hA,hAs,hAt⟩,hf,hy,hik,f2,_⟩:=HI.out;rw[if_neg hvl]at hct;exact⟨i+1,y,by go_num,by go_num,by omega,by omega,⟨A,hA,hAs,λj hj=>by rw[qn6 (.inr (by rw[hla];exact hvl))];exact hAt j hj⟩,hf⟩
    ·obtain rfl:i=L:=by omega
     have ht:ls.take i=ls:=qa9 (by rw[<-H.out.2.2.1];exact qag _);rw[ht]at hy;have HI:=zhd3 hcw hf hy;clear hcw hf hy hcl ht hik;go_wp2;go_roundg k;case measure=>have:=HX.l4;omega
     case rel=>
      have hlk:=HX.l4;obtain⟨⟨A,hA,hAs,hAt⟩,hf,hy⟩:=HI.out;refine⟨l+1,y,by go_num,rfl,by omega,by omega,?_,⟨A,hA,hAs,λj hj=>?_⟩,hf⟩
      ·rw[nxt,if_neg (by omega),<-HX.o2,hy]
      ·rw[<-qxt (by omega) hj,<-H.out.2.2.1];exact hAt j hj
  ·obtain rfl:l=16:=by omega
   obtain⟨A,hA,hAs,hAt⟩:=hcw;have HI:=zhd4 hA hAs hAt hf;clear hA hAs hAt hf hnx hlk;go_wp2;go_ret2;obtain⟨hA,hAs,hAt,hf⟩:=HI.out;unfold CodesGood;rw[<-H.out.2.2.1];refine⟨Q,rfl,.inr ⟨Q,0,rfl,λj v hv=>?_⟩,by rw[HS.l2];exact qag _,lt_of_block hA,hf⟩;have hj:j<ls.length:=by have:=(qbg.1 hv).1;simpa[codesOf] using this
   rw[qbe,cell_of hA,hAt j hj,zbn (H.out.2.1 _ (qdx hj))];rw[<-hv];simp[codesOf,hj]
open bits
def symn (ls:List Nat) (l:Nat):Nat:=if l=0 then 0 else (syms ls l ls.length).length
structure Tab (w:World) (P D:Nat) (ls:List Nat) (first:Nat→Nat) (sa:Nat→Option Addr) (sc:Nat→Nat):Prop where
 box:∃A,w.heap[P]?=some (.cells A 283 (0,0))∧A.size=33∧(∀l,l<16→A[l]?=some (.int .u32 (first l:Nat)))∧(∀l,l<16→A[16+l]?=some (.slice (sa l) (symn ls l) (sc l)))∧A[32]?=some (.int .i64 (D:Nat))
 fst:∀l,0<symn ls l→first l=nxt ls l
 top:∀s,s<ls.length→lenAt ls s≤D
 low:D≤15
 low':∀l,first l≤32768
 syms:∀l,l<16→0<l→Ri w (sa l) (sc l) (syms ls l ls.length)
 len:ls.length≤400
theorem Tab.cells {w:World} {P D:Nat} {ls:List Nat} {first:Nat→Nat} {sa:Nat→Option Addr} {sc:Nat→Nat} (h:Tab w P D ls first sa sc) :
  (∀l,l<16→w.cell? ⟨P,l,none⟩=some (.int .u32 (first l:Nat)))∧(∀l,l<16→w.cell? ⟨P,16+l,none⟩=some (.slice (sa l) (symn ls l) (sc l)))∧w.cell? ⟨P,32,none⟩=some (.int .i64 D):=by
 obtain⟨A,hA,_,h1,h2,h3⟩:=h.box;exact⟨λl hl=>by rw[cell_of hA];exact h1 l hl,λl hl=>by rw[cell_of hA];exact h2 l hl,by rw[cell_of hA];exact h3⟩
theorem Tab.fr {w w':World} {P D:Nat} {ls:List Nat} {first:Nat→Nat} {sa:Nat→Option Addr} {sc:Nat→Nat} (h:Tab w P D ls first sa sc) (f:Fr [] w w'):Tab w' P D ls first sa sc:=by obtain⟨A,hA,h1⟩:=h.box;exact⟨⟨A,f.blk hA (by simp),h1⟩,h.fst,h.top,h.low,h.low',λl h1 h2=>(h.syms l h1 h2).fr f,h.len⟩
theorem qva (ls:List Nat) (l:Nat):symn ls l≤ls.length:=by
 unfold symn;split
 ·omega
 ·have:=qc7 (λs=>lenAt ls s==l) (List.range ls.length);rw[qgz]at this;exact this
theorem qt3 {ls:List Nat} {n v l:Nat} (h:0<l):meets ls n v l=(decide (0<symn ls l)&&(decide (nxt ls l<(v+1)*2^(l-n))&&decide (v*2^(l-n)<nxt ls l+symn ls l))):=by unfold meets symn;rw[if_neg (by omega)]
theorem qzu (P D:Nat) (ls:List Nat) (first:Nat→Nat) (sa:Nat→Option Addr) (sc:Nat→Nat) (v n:Nat) (w:World) (h:Tab w P D ls first sa sc) (hn:n≤15) (hv:v<2^n) :
  Calls Tryz.prog 210 #[.pointer (some ⟨P,0,none⟩),.int .u32 v,.int .i64 n] w λe w'=>e = .returned (.bool (hmore ls n v))∧Fr [] w w':=by
 have H:=zhd2 h hv;have hD:=h.low;have hlen:=h.len;clear h hv;go_enter Tryz.func210,Tryz.ntmps210;go_upto_block 0 with fail;go_wp2;go_loopg [7,8,9,10] 16 (λk s7 s8 s9 s10 wr=>∃(l:Nat),s7 = .int .i64 (l:Nat)∧l+k=17+n∧n<l∧Fr [] w wr∧∀m,n<m→m<l→meets ls n v m=false);case atStart=>exact⟨n+1,by go_num,by omega,by omega,Fr.refl [] w,λm h1 h2=>by omega⟩
 case round=>
  obtain⟨l,rfl,hlk,hnl,hf,hno⟩:=hrel;obtain⟨hc1,hc2,hc3⟩:=(H.out.1.fr hf).cells;have HF:=zhd hf;clear hf;by_cases hl:l≤D
  ·obtain⟨k,rfl⟩:∃k,gk=k+1:=⟨gk-1,by omega⟩;have hm:=qt3 (ls:=ls) (n:=n) (v:=v) (l:=l) (by omega);have hpl:(v+1)*2^(l-n)≤32768:=by have h1:(v+1)*2^(l-n)≤2^n*2^(l-n):=qcy _ H.out.2;rw[<-qb3,show n+(l-n)=l by omega]at h1;exact qan h1 (qan (qax (by decide) (show l≤15 by omega)) (by decide))
   have c1:=hc1 l (by omega);have c2:=hc2 l (by omega);obtain⟨f1,hf1⟩:=zex (first l);obtain⟨m1,hm1⟩:=zex (symn ls l);obtain⟨x1,hx1⟩:=zex ((v+1)*2^(l-n));obtain⟨x0,hx0⟩:=zex (v*2^(l-n));have hf1l:f1≤32768:=by rw[hf1];exact H.out.1.low' l
   have hm1l:m1≤400:=by rw[hm1];have:=qva ls l;omega
   rw[<-hx1,<-hx0,<-hm1]at hm;rw[<-hf1]at c1;rw[<-hm1]at c2;rw[<-hx1]at hpl;have hx01:x0≤x1:=by rw[hx0,hx1];exact qcy _ (by omega)
   have hfn:0<m1→f1=nxt ls l:=λh0=>by rw[hf1];exact H.out.1.fst l (by omega)
   have HI:=zhd7 hno hm hfn hx1 hx0 hf1 hm1;clear hno hm hfn hf1 hm1 hc1 hc2;have hln:(n:Int)≤l:=by omega
   go_upto_region 5 with fail;have e0:(v:Int)*2^(l-n)%4294967296=(x0:Nat):=by
    have:((v:Int)*2^(l-n))=(x0:Nat):=by rw[hx0];push_cast;rfl
    rw[this];omega
   have hv1:v+1≤32768:=qan H.out.2 (qan (qax (by decide) hn) (by decide));have e1:((v:Int)+1)*2^(l-n)%4294967296=(x1:Nat):=by
    have:(((v:Int)+1)*2^(l-n))=(x1:Nat):=by rw[hx1];push_cast;rfl
    rw[this];omega
   clear hx0 hx1;go_quiet (fail);rw[e0,e1];clear e0 e1;have b0:decide ((0:Int)<(m1:Int))=decide (0<m1):=by simp
   have b1:decide ((f1:Int)<(x1:Int))=decide (f1<x1):=by simp
   have b2:decide ((x0:Int)<(f1:Int)+m1)=decide (x0<f1+m1):=by rw[decide_eq_decide];omega
   have next:(meets ls n v l=false)→∀m,n<m→m<l+1→meets ls n v m=false:=λh m h1 h2=>by
    rcases Nat.lt_succ_iff_lt_or_eq.1 h2 with h3|h3
    ·exact HI.o0 m h1 h3
    ·rw[h3];exact h
   have HN:=zhd next
   clear next
   by_cases p0:0<m1
   ·have p0':=decide_eq_true p0;rw[p0']at b0;by_cases p1:f1<x1
    ·rw[decide_eq_true p1]at b1;by_cases p2:x0<f1+m1
     ·rw[decide_eq_true p2]at b2;go_wp2;go_ret;refine⟨?_,?_⟩
      ·rw[qt2 hnl (by rw[HI.o1,<-HI.o2 p0];simp[p0,p1,p2])];rfl
      ·exact HF.out.trans (Fr.drewN [] _ _)
     ·rw[decide_eq_false p2]at b2;go_wp2;go_roundg k;case measure=>omega
      case rel=>exact⟨l+1,by go_num,by omega,by omega,HF.out.trans (Fr.drewN [] _ _),HN.out (by rw[HI.o1,<-HI.o2 p0];simp[p2])⟩
    ·rw[decide_eq_false p1]at b1;go_wp2;go_roundg k;case measure=>omega
     case rel=>exact⟨l+1,by go_num,by omega,by omega,HF.out.trans (Fr.drewN [] _ _),HN.out (by rw[HI.o1,<-HI.o2 p0];simp[p1])⟩
   ·rw[decide_eq_false p0]at b0;go_wp2;go_roundg k;case measure=>omega
    case rel=>exact⟨l+1,by go_num,by omega,by omega,HF.out.trans (Fr.drewN [] _ _),HN.out (by rw[HI.o1];simp[p0])⟩
  ·have d0:decide ((l:Int)≤D)=false:=by simp;omega
   go_wp2;go_ret;exact⟨by rw[qqu H.out.1.top λm h1 h2=>hno m h1 (by omega)];rfl,HF.out⟩
end Go.Proofs.YtbabjlohkniciaaGreatDoor.huf
