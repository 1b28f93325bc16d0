/-
  Texts of this proof, one behind the other: DeltaCp, DeltaFind, DeltaIdx, DeltaMap, DeltaState.
-/
import Derived.Test.YtkmpfgpfbmeihaaGreatDoorS22
import Derived.Lib.IndexMore
import Derived.Maps.OwnRows
import Derived.Maps.GroupsBeside
set_option maxHeartbeats 16000000
set_option maxRecDepth 100000
set_option linter.unusedVariables false
set_option linter.unusedSimpArgs false
namespace Go.Proofs.YtkmpfgpfbmeihaaGreatDoor.delta
open Go Go.RowKit lib bm
structure Ar (w wr:World) (a:Option Addr) (c:Nat) (bs:List UInt8):Prop where
 own:Own wr 5 a c (bs.map bv)
 fr:Fr [] w wr
 new:∀y∈blk a,w.heap.size≤y
theorem zg5 (w:World):Ar w w none 0 []:=⟨Own.nil _ _,Fr.refl _ _,by simp[blk]⟩
theorem Ar.more {w wr w1 w2:World} {a a2:Option Addr} {c c2:Nat} {bs news:List UInt8} (h:Ar w wr a c bs) (f:Fr [] wr w1) (A:OwnMore w1 w2 5 a a2 c2 (bs.map bv++news.map bv)):Ar w w2 a2 c2 (bs++news):=by
 refine⟨by rw[qbe];exact A.own,(h.fr.trans f).step A.fr λy hy=>.inr (h.new y hy),λy hy=>?_⟩;rcases A.at_ y hy with k|k
 ·exact h.new y k
 ·have:=(h.fr.trans f).size;omega
theorem qx2 (x i:Nat) (hx:x<2^i) (hi:i<7):bits .or .u8 ((128+x:Nat):Int) ((2^i:Nat):Int)=((128+(x+2^i):Nat):Int):=by
 have h:∀i:Fin 7,∀x:Fin 128,x.1<2^i.1→bits .or .u8 ((128+x.1:Nat):Int) ((2^i.1:Nat):Int)=((128+(x.1+2^i.1):Nat):Int):=by decide +kernel
 have h64:2^i≤2^6:=qa3 (by decide) (by omega);have e:2^6=64:=by decide
 exact h ⟨i,hi⟩ ⟨x,by omega⟩ hx
theorem zc4 (p K i:Nat) (hi:i<4):(p:Int)/2^(8*i)%256=(cbyte p K i:Int):=by
 unfold cbyte;have e:((2:Int)^(8*i))=((256^i:Nat):Int):=by rw[show (256:Nat)^i=2^(8*i) from by rw[Nat.pow_mul],qd7];rfl
 rw[if_pos hi,e,Int.natCast_emod,qi6];rfl
theorem zb6 (K i:Nat):(K:Int)/2^(8*i)%256=((K/256^i%256:Nat):Int):=by
 have e:((2:Int)^(8*i))=((256^i:Nat):Int):=by rw[show (256:Nat)^i=2^(8*i) from by rw[Nat.pow_mul],qd7];rfl
 rw[e,Int.natCast_emod,qi6];rfl
theorem qx1 (x i:Nat) (hx:x<2^i) (hi:i<7):bits .or .u8 (128+(x:Int)) (2^i%256)=((128+(x+2^i):Nat):Int):=by
 rw[<-qx2 x i hx hi];have h64:2^i≤2^6:=qa3 (by decide) (by omega);have e:(2:Nat)^6=64:=by decide
 have e2:(2:Int)^i%256=((2^i:Nat):Int):=by
  have:(2:Int)^i=((2^i:Nat):Int):=by rw[qd7];rfl
  rw[this];omega
 rw[e2,show (128:Int)+(x:Int)=((128+x:Nat):Int) from by omega]
theorem qms (p k i:Nat):opOf p k (i+1)=opOf p k i+bit (cbyte p k i)*2^i:=rfl
theorem qfb (p k i:Nat):argsOf p k (i+1)=argsOf p k i++nz (cbyte p k i):=rfl
theorem zbr (x i:Nat) (hx:x<2^(4+i)) (hi:i<3):bits .or .u8 (128+(x:Int)) (16*2^i%256)=((128+(x+2^(4+i)):Nat):Int):=by rw[<-qx1 x (4+i) hx (by omega),Int.pow_add];rfl
theorem qut (S0:List Nat) (w W:World) (q p n:Nat) (oa wa:Option Addr) (oc wq:Nat) (out wait:List UInt8) (h:Mk S0 w W q oa oc out wa wq wait) (hlim:out.length+2*wait.length+8*n≤1099511627776) (hp:p+n≤4294967295) :
  Calls Tryz.prog 99 #[.pointer (some ⟨q,0,none⟩),.int .i64 (p:Nat),.int .i64 (n:Nat)] W λe W'=>e = .returned (.tuple #[])∧∃oa' oc' wa' wc',Mk S0 w W' q oa' oc' (out++lits wait.length wait++cops n p n) wa' wc' []:=by
 have hfl:=qrd S0 w W q oa wa oc wq out wait h (by omega);have hll:=qlk wait.length wait;obtain⟨o1,ho1⟩:=zex (out++lits wait.length wait);have hol:o1.length+8*n≤1099511627776+127:=by rw[ho1,qab];omega
 rw[<-ho1]at hfl ⊢;obtain⟨R,hR⟩:∃R,o1++cops n p n=R:=⟨_,rfl⟩;rw[hR];have H0:=zhd2 hfl hR;clear hfl hll ho1 hR h hlim;go_enter Tryz.func99,Tryz.ntmps99;go_upto_block 0 with (go_at_call 102;refine H0.o0.mono ?_;rintro e w1 ⟨rfl,a1,c1,a2,c2,m1⟩;have H1:=zhd m1;clear m1);go_wp2;go_loopg [1,2,6,7,8,9,10,11,12] n (λk s1 s2 s6 s7 s8 s9 s10 s11 s12 wr=>∃p m oa oc out wa wq,s1 = .int .i64 (p:Nat)∧s2 = .int .i64 (m:Nat)∧Mk S0 w wr q oa oc out wa wq []∧out++cops k p m=R∧m≤k∧p+m≤4294967295∧out.length+8*m≤1099511627776+127);case atStart=>exact⟨p,n,a1,c1,o1,a2,c2,rfl,rfl,H1.out,H0.l1,qae _,hp,hol⟩
 case round=>
  obtain⟨p,m,oa,oc,out,wa,wq,rfl,rfl,h,hr,hk,hpm,hb⟩:=hrel;obtain⟨wo,rfl⟩:∃wo:World,wo=wr:=⟨_,rfl⟩;have H:=zhd h;clear h H0 H1;by_cases hm:0<m
  ·obtain⟨k,rfl⟩:∃k,gk=k+1:=⟨gk-1,by omega⟩;rw[qni (by omega)]at hr;obtain⟨K,hK⟩:=zex (min m 65536);have hK1:(K:Int)=if (65536:Int)<(m:Int) then 65536 else (m:Int):=by rw[hK];split<;>omega
   have hK2:1≤K∧K≤65536∧K≤m:=by omega
   rw[<-hK]at hr;have HK:=zhd2 hK1 hr;clear hK hK1 hr;go_upto_block 2 with (refine qfz (K:Int) rfl _ _ _ rfl (m:Int) 65536 rfl rfl HK.o0 ?_);go_cut [7,8,9,10] from 19 to 38 (λs7 s8 s9 s10 wz=>∃a c,s7 = .int .u8 ((128+opOf p K 4:Nat):Int)∧s8 = .slice a (argsOf p K 4).length c∧Ar wo wz a c (argsOf p K 4))
   case first=>
    go_wp2;go_loopg [7,8,9,10,19] 4 (λkk s7 s8 s9 s10 s19 w2=>∃i a c,i+kk=4∧s19 = .int .i64 (i:Nat)∧s7 = .int .u8 ((128+opOf p K i:Nat):Int)∧s8 = .slice a (argsOf p K i).length c∧Ar wo w2 a c (argsOf p K i));case atStart=>exact⟨0,none,0,rfl,rfl,rfl,rfl,zg5 wo⟩
    case round=>
     obtain⟨i,a,c,hi,rfl,rfl,rfl,ha⟩:=hrel;have HA:=zhd ha;obtain⟨k1,k2,k3⟩:=ha.own.shape;rw[qap]at k1;clear ha;by_cases hi4:i<4
     ·obtain⟨cb,hcb⟩:=zex (cbyte p K i);have hcv:(p:Int)/2^(8*i)%256=(cb:Int):=by rw[hcb];exact zc4 p K i hi4
      have hcl:cb<256:=by rw[hcb];exact qgi p K i
      have hop:=qmt p K i;have HCB:=zhd2 hcb hop;clear hcb hop;have tN:=HCB.l1;obtain⟨ov,hov⟩:=zex (opOf p K i);rw[<-hov]at tN ⊢;have HOV:=zhd2 hov tN;clear hov tN;obtain⟨wi,rfl⟩:∃wi:World,wi=wr:=⟨_,rfl⟩;go_upto_region 7 with fail;go_cut [10] from 20 to 27 (λs10 wz=>s10 = .int .u8 (cb:Int)∧wi=wz)
      case first=>go_wp2;go_meet;exact⟨by first|rfl|exact int_eq hcv,rfl⟩
      case rest=>
      obtain⟨rfl,rfl⟩:=hcut;clear hcv;by_cases hc0:cb=0
      ·have e0:bit (cbyte p K i)=0:=by rw[<-HCB.o0,hc0];rfl
       have e1:nz (cbyte p K i)=[]:=by rw[<-HCB.o0,hc0];rfl
       have HE:=zhd2 e0 e1;subst hc0;clear e0 e1;go_wp2;go_roundg (4-(i+1));case measure=>omega
       case rel=>
        refine⟨i+1,a,c,by omega,by go_num,?_,?_,?_⟩
        ·rw[HOV.o0];simp only[opOf,HE.o0,qj3,qbn]
        ·simp only[argsOf,HE.l1,qbr]
        ·simp only[argsOf,HE.l1,qbr];exact HA.out
      ·have b1:((cb:Int)==0)=false:=by simp;omega
       have b2:((cb:Int)!=0)=true:=by simp;omega
       have e0:bit (cbyte p K i)=1:=by rw[<-HCB.o0];unfold bit;rw[if_neg hc0]
       have e1:nz (cbyte p K i)=[UInt8.ofNat cb]:=by rw[<-HCB.o0];unfold nz;rw[if_neg hc0]
       have f1:Fr [] wi (wi.alloc (.cells #[.int .u8 (cb:Int)] 5)):=(Fr.refl [] wi).alloc _;have hcs:Cs (wi.alloc (.cells #[.int .u8 (cb:Int)] 5)) (some ⟨wi.heap.size,0,none⟩) (([UInt8.ofNat cb]:List UInt8).map bv):=qdp _ _ _ 5 (by rw[qay];unfold bv;rw[qhr hcl]);have HE:=zhd4 e0 e1 f1 hcs;have ha4:=qh0 p K i;clear e0 e1 f1 hcs;go_wp2_with (refine qcn sliceU8 rfl _ _ rfl a (argsOf p K i).length c ((argsOf p K i).map bv) rfl (HA.out.own.fr HE.out.2.2.1 (by simp)) (by rw[qap]) (some ⟨wi.heap.size,0,none⟩) 1 1 (([UInt8.ofNat cb]:List UInt8).map bv) rfl (by decide) (by simp) HE.out.2.2.2 (by rfl) (qc0 _) (by omega) (by unfold maxLen;omega) ?_;intro a2 c2 w3 A3;have H3:=zhd A3;clear A3);go_roundg (4-(i+1));case measure=>omega
       case rel=>
        refine⟨i+1,a2,c2,by omega,by go_num,?_,?_,?_⟩
        ·rw[HOV.o0];simp only[opOf,HE.o0,qnu];have:=qx1 (opOf p K i) i (by rw[<-HOV.o0];exact HOV.l1) (by omega);exact int_eq (by first|exact this|(simp only[Nat.cast_add]at *;exact this))
        ·simp only[argsOf,HE.l1.1,qab];rfl
        ·simp only[argsOf,HE.l1.1];exact HA.out.more HE.out.2.2.1 H3.out
     ·obtain rfl:i=4:=by omega
      go_wp2;go_meet;exact⟨a,c,rfl,rfl,HA.out⟩
   case rest=>
   obtain⟨a,c,rfl,rfl,ha⟩:=hcut;obtain⟨wx,rfl⟩:∃wx:World,wx=wc:=⟨_,rfl⟩;have HA4:=zhd ha;clear ha;go_upto_block 4 with fail;go_cut [7,8,11,12] from 38 to 61 (λs7 s8 s11 s12 wz=>∃a c,s7 = .int .u8 ((128+opOf p K 7:Nat):Int)∧s8 = .slice a (argsOf p K 7).length c∧Ar wo wz a c (argsOf p K 7))
   case first=>
    go_wp2;go_loopg [7,8,11,12,38] 3 (λkk s7 s8 s11 s12 s38 w2=>∃i a c,i+kk=3∧s38 = .int .i64 (i:Nat)∧s7 = .int .u8 ((128+opOf p K (4+i):Nat):Int)∧s8 = .slice a (argsOf p K (4+i)).length c∧Ar wo w2 a c (argsOf p K (4+i)));case atStart=>exact⟨0,a,c,rfl,rfl,rfl,rfl,HA4.out⟩
    case round=>
     obtain⟨i,a,c,hi,rfl,rfl,rfl,ha⟩:=hrel;have HA:=zhd ha;obtain⟨k1,k2,k3⟩:=ha.own.shape;rw[qap]at k1;clear ha;by_cases hi3:i<3
     ·obtain⟨cb,hcb⟩:=zex (K/256^i%256);have hcv:(K:Int)/2^(8*i)%256=(cb:Int):=by rw[hcb];exact zb6 K i
      have hcl:cb<256:=by rw[hcb];omega
      have hop:=qmt p K (4+i);have hcy:cbyte p K (4+i)=if K=65536 then 0 else cb:=by unfold cbyte;rw[if_neg (by omega),hcb,Nat.add_sub_cancel_left]
      have HCB:=zhd2 hcy hop;have tN:=hop;clear hcb hop hcy;obtain⟨ov,hov⟩:=zex (opOf p K (4+i));rw[<-hov]at tN ⊢;have HOV:=zhd2 hov tN;clear hov tN;obtain⟨wi,rfl⟩:∃wi:World,wi=wr:=⟨_,rfl⟩;go_upto_region 15 with fail;go_cut [12] from 39 to 46 (λs12 wz=>s12 = .int .u8 (cb:Int)∧wi=wz)
      case first=>go_wp2;go_meet;exact⟨by first|rfl|exact int_eq hcv,rfl⟩
      case rest=>
      obtain⟨rfl,rfl⟩:=hcut;clear hcv;by_cases hc0:cbyte p K (4+i)=0
      ·have e0:bit (cbyte p K (4+i))=0:=by rw[hc0];rfl
       have e1:nz (cbyte p K (4+i))=[]:=by rw[hc0];rfl
       have HE:=zhd2 e0 e1;have hcase:cb=0∨K=65536:=by
        have h:=HCB.o0;rw[hc0]at h;by_cases hK:K=65536
        ·exact .inr hK
        ·rw[if_neg hK]at h;exact .inl h.symm
       clear e0 e1 hc0;by_cases hcb0:cb=0
       ·subst hcb0;clear hcase;go_wp2;go_roundg (3-(i+1));case measure=>omega
        case rel=>
         refine⟨i+1,a,c,by omega,by go_num,?_,?_,?_⟩
         ·rw[HOV.o0,show 4+(i+1)=(4+i)+1 from rfl,qms,HE.o0,qj3,qbn]
         ·rw[show 4+(i+1)=(4+i)+1 from rfl,qfb,HE.l1,qbr]
         ·rw[show 4+(i+1)=(4+i)+1 from rfl,qfb,HE.l1,qbr];exact HA.out
       ·have b1:((cb:Int)==0)=false:=by simp;omega
        have b2:((cb:Int)!=0)=true:=by simp;omega
        have b3:decide ((K:Int)<65536)=false:=by simp;omega
        clear hcase;go_wp2;go_roundg (3-(i+1));case measure=>omega
        case rel=>
         refine⟨i+1,a,c,by omega,by go_num,?_,?_,?_⟩
         ·rw[HOV.o0,show 4+(i+1)=(4+i)+1 from rfl,qms,HE.o0,qj3,qbn]
         ·rw[show 4+(i+1)=(4+i)+1 from rfl,qfb,HE.l1,qbr]
         ·rw[show 4+(i+1)=(4+i)+1 from rfl,qfb,HE.l1,qbr];exact HA.out
      ·have hcase:cbyte p K (4+i)=cb∧K≠65536:=by
        have h:=HCB.o0;by_cases hK:K=65536
        ·rw[if_pos hK]at h;exact absurd h hc0
        ·rw[if_neg hK]at h;exact⟨h,hK⟩
       obtain⟨hcc,hKK⟩:=hcase;rw[hcc]at hc0;have b1:((cb:Int)==0)=false:=by simp;omega
       have b2:((cb:Int)!=0)=true:=by simp;omega
       have b3:decide ((K:Int)<65536)=true:=by simp;omega
       have e0:bit (cbyte p K (4+i))=1:=by rw[hcc];unfold bit;rw[if_neg hc0]
       have e1:nz (cbyte p K (4+i))=[UInt8.ofNat cb]:=by rw[hcc];unfold nz;rw[if_neg hc0]
       have f1:Fr [] wi (wi.alloc (.cells #[.int .u8 (cb:Int)] 5)):=(Fr.refl [] wi).alloc _;have hcs:Cs (wi.alloc (.cells #[.int .u8 (cb:Int)] 5)) (some ⟨wi.heap.size,0,none⟩) (([UInt8.ofNat cb]:List UInt8).map bv):=qdp _ _ _ 5 (by rw[qay];unfold bv;rw[qhr hcl]);have HE:=zhd4 e0 e1 f1 hcs;have ha4:=qh0 p K (4+i);clear e0 e1 f1 hcs hcc hKK;go_wp2_with (refine qcn sliceU8 rfl _ _ rfl a (argsOf p K (4+i)).length c ((argsOf p K (4+i)).map bv) rfl (HA.out.own.fr HE.out.2.2.1 (by simp)) (by rw[qap]) (some ⟨wi.heap.size,0,none⟩) 1 1 (([UInt8.ofNat cb]:List UInt8).map bv) rfl (by decide) (by simp) HE.out.2.2.2 (by rfl) (qc0 _) (by omega) (by unfold maxLen;omega) ?_;intro a2 c2 w3 A3;have H3:=zhd A3;clear A3);go_roundg (3-(i+1));case measure=>omega
       case rel=>
        refine⟨i+1,a2,c2,by omega,by go_num,?_,?_,?_⟩
        ·rw[HOV.o0,show 4+(i+1)=(4+i)+1 from rfl,qms,HE.o0,qnu];have:=zbr (opOf p K (4+i)) i (by rw[<-HOV.o0];exact HOV.l1) hi3;exact int_eq this
        ·rw[show 4+(i+1)=(4+i)+1 from rfl,qfb,HE.l1.1,qab];rfl
        ·rw[show 4+(i+1)=(4+i)+1 from rfl,qfb,HE.l1.1];exact HA.out.more HE.out.2.2.1 H3.out
     ·obtain rfl:i=3:=by omega
      go_wp2;go_meet;exact⟨a,c,rfl,rfl,HA.out⟩
   case rest=>
   obtain⟨a,c,rfl,rfl,ha⟩:=hcut;have hal:=qh0 p K 7;have hoq:=qmt p K 7;have e128:2^7=128:=by decide
   have hmk:=H.out.fr0 ha.fr;have hc0:=cell_of hmk.blk 0;have hc1:=cell_of hmk.blk 1;have hz0:=qau hmk.blk 0;simp only[qag,qac,qaf]at hc0 hc1;have HM:=zhd hmk;have HAr:=zhd ha;clear hmk ha HA4;obtain⟨ob,hob⟩:=zex (128+opOf p K 7);rw[<-hob];have hob2:ob<256:=by omega
   have HO:=zhd hob;clear hob hoq;have f1:Fr [] wc (wc.alloc (.cells #[.int .u8 (ob:Int)] 5)):=(Fr.refl [] wc).alloc _;have hcs:Cs (wc.alloc (.cells #[.int .u8 (ob:Int)] 5)) (some ⟨wc.heap.size,0,none⟩) (([UInt8.ofNat ob]:List UInt8).map bv):=qdp _ _ _ 5 (by rw[qay];unfold bv;rw[qhr hob2]);have hdis:∀y∈blk a,y∉blk oa:=λy hy e=>by have h1:=HAr.out.new y hy;have h2:=H.out.o.lt y e;omega
   have F1:=zhd3 f1 hcs hdis;obtain⟨L,hL⟩:=zex ((argsOf p K 7).length);rw[<-hL]at hal ⊢;have HLL:=zhd hL;obtain⟨k1,_,k3⟩:=HAr.out.own.shape;rw[qap,<-hL]at k1;clear f1 hcs hdis hL;go_wp2_with (first|(refine qcn sliceU8 rfl _ _ rfl oa out.length oc (out.map bv) rfl (HM.out.o.fr F1.o0 (by simp)) (by rw[qap]) (some ⟨wc.heap.size,0,none⟩) 1 1 (([UInt8.ofNat ob]:List UInt8).map bv) rfl (by decide) (by simp) F1.o1 (by rfl) (qc0 _) (by omega) (by unfold maxLen;omega) ?_;intro a2 c2 w2 A2;have H2:=zhd A2;clear A2)|(refine qcn sliceU8 rfl _ _ rfl a2 (out.length+1) c2 (out.map bv++([UInt8.ofNat ob]:List UInt8).map bv) rfl H2.out.own (by simp) a L c ((argsOf p K 7).map bv) rfl k1 k3 (((HAr.out.own.fr F1.o0 (by simp)).fr H2.out.fr F1.l2).cs) (by rw[qap,HLL.out]) (qc0 _) (by omega) (by unfold maxLen;omega) ?_;intro a3 c3 w3 A3;have H3:=zhd (H2.out.two A3);clear A3;have hbq:=H3.out.fr.blk (F1.o0.blk HM.out.blk (by simp)) HM.out.qo;have d0:=cell_of hbq 0;have z9:=qau hbq 0;simp only[qag,qac]at d0;clear hbq));go_roundg k;case measure=>omega
   case rel=>
    have hcop:cop p K=UInt8.ofNat ob::argsOf p K 7:=by rw[HO.out];rfl
    have hlen:out.length+(cop p K).length=out.length+1+L:=by rw[hcop,qao,HLL.out];omega
    have m1:=HM.out.out1 (news:=cop p K) (n:=out.length+1+L) F1.o0 (by rw[hcop];simpa using H3.out) hlen;refine⟨p+K,m-K,a3,c3,out++cop p K,wa,wq,by go_num,int_eq (by omega),m1,by rw[qas];exact HK.l1,by omega,by omega,?_⟩;rw[qab,show (cop p K).length=1+L from by omega];omega
  ·obtain rfl:m=0:=by omega
   rw[qnh,qbr]at hr;have HR:=zhd hr;clear hr;go_wp2;go_end0;rw[<-HR.out];exact⟨rfl,oa,oc,wa,wq,H.out⟩
def U64 (v:Value):Prop:=∃h:Int,v = .int .u64 h∧(Lit.int .u64 h).wf=true
theorem zaw (x:Int):U64 (.int .u64 (IntKind.u64.wrap x)):=by
 refine⟨_,rfl,?_⟩;simp only[Lit.wf,qbj,decide_eq_true_eq];have e:IntKind.u64.wrap x=x%18446744073709551616:=by simp[IntKind.wrap,IntKind.signed,IntKind.bits]
 rw[e];have h1:IntKind.u64.min=0:=rfl;have h2:IntKind.u64.max=18446744073709551615:=rfl;rw[h1,h2];omega
theorem qtj (a:Option Addr) (cap:Nat) (bs:List UInt8) (w:World) (h:Rd w a cap bs) (h16:16≤bs.length) :
  Calls Tryz.prog 100 #[.slice a bs.length cap] w λe w'=>w=w'∧∃v,e = .returned v∧U64 v:=by
 have hle:=h.le;have hmax:=h.max;unfold maxLen at hmax;have H:=zhd (h.take 16);have hl:(bs.take 16).length=16:=by rw[qaq];omega
 have HL:=zhd hl;clear h hl;go_enter Tryz.func100,Tryz.ntmps100;go_upto_block 0 with (refine qho sliceU8 16 rfl _ _ rfl a bs.length cap _ rfl rfl rfl (by omega) ?_);go_wp2;go_loopg [3,5,9] 16 (λk s3 s5 s9 wr=>∃(i:Nat) (x:Int),i+k=16∧s9 = .int .i64 (i:Nat)∧s3 = .int .u64 x∧U64 (.int .u64 x)∧w=wr);case atStart=>exact⟨0,_,rfl,rfl,rfl,⟨_,rfl,by decide⟩,rfl⟩
 case round=>
  obtain⟨i,x,hi,rfl,rfl,hu,rfl⟩:=hrel;have HU:=zhd hu;clear hu;by_cases hi16:i<16
  ·obtain⟨g,o,rfl,c0⟩:=H.out.at (i:=i) (by rw[HL.out];exact hi16);go_wp2;go_roundg (16-(i+1));case measure=>omega
   case rel=>exact⟨i+1,_,by omega,by go_num,rfl,zaw _,rfl⟩
  ·go_wp2;go_ret;exact⟨rfl,_,rfl,HU.out⟩
def Match (base text:List UInt8) (p i k:Nat):Prop:=p+k≤base.length∧i+k≤text.length∧(base.drop p).take k=(text.drop i).take k
theorem qvp {base text:List UInt8} {p i:Nat} (hp:p≤base.length) (hi:i≤text.length):Match base text p i 0:=⟨hp,hi,by simp⟩
theorem qvq {base text:List UInt8} {p i k:Nat} (h:Match base text p i k) (hp:p+k<base.length) (hi:i+k<text.length) (e:base[p+k]=text[i+k]):Match base text p i (k+1):=by refine⟨by omega,by omega,?_⟩;rw[qh2,qh2,h.2.2];congr 1;simp[hp,hi,e]
def Back (base text:List UInt8) (p i b:Nat):Prop:=b≤p∧b≤i∧p≤base.length∧i≤text.length∧(base.drop (p-b)).take b=(text.drop (i-b)).take b
theorem zab {base text:List UInt8} {p i:Nat} (hp:p≤base.length) (hi:i≤text.length):Back base text p i 0:=⟨qa5 _,qa5 _,hp,hi,by simp⟩
theorem zac {base text:List UInt8} {p i b:Nat} (h:Back base text p i b) (hp:b<p) (hi:b<i) (h1:p-b-1<base.length) (h2:i-b-1<text.length) (e:base[p-b-1]=text[i-b-1]):Back base text p i (b+1):=by obtain⟨_,_,h3,h4,h5⟩:=h;refine⟨hp,hi,h3,h4,?_⟩;rw[show p-(b+1)=p-b-1 from by omega,show i-(b+1)=i-b-1 from by omega,qcg h1,qcg h2,qah,qah,e,show p-b-1+1=p-b from by omega,show i-b-1+1=i-b from by omega,h5]
def Found (base text:List UInt8) (i wait p b n:Nat):Prop:=(n=0∧b=0∧p=0)∨(16≤n∧Match base text p i n∧b≤wait∧Back base text p i b)
theorem zcq (a b pa:Option Addr) (cap capb pc:Nat) (base text:List UInt8) (ps:List Nat) (i wait:Nat) (w:World) (hb:Rd w a cap base) (ht:Rd w b capb text) (hps:Cs w pa (ps.map λp=>.int .i64 (p:Nat))) (hle:ps.length≤pc)
  (hp:∀p∈ps,p≤base.length) (hi:i≤text.length) (hw:wait≤i) (hlb:base.length≤2199023255552) (hlt:text.length≤2199023255552) (hpl:ps.length≤2199023255552) :
  Calls Tryz.prog 101 #[.slice a base.length cap,.slice b text.length capb,.slice pa ps.length pc,.int .i64 (i:Nat),.int .i64 (wait:Nat)] w λe w'=>∃p k n:Nat,e = .returned (.tuple #[.int .i64 (p:Nat),.int .i64 (k:Nat),.int .i64 (n:Nat)])∧Found base text i wait p k n∧Fr [] w w':=by
 obtain⟨BL,hBL⟩:=zex base.length;obtain⟨TL,hTL⟩:=zex text.length;obtain⟨PL,hPL⟩:=zex ps.length;have H:=zhd4 hb ht hps hp;have HLn:=zhd3 hBL hTL hPL;rw[<-hBL,<-hTL,<-hPL];rw[<-hBL]at hlb;rw[<-hTL]at hlt hi;rw[<-hPL]at hpl hle;clear hb ht hps hp hBL hTL hPL;go_enter Tryz.func101,Tryz.ntmps101;go_wp2;go_loopg [10,11,12,14,15,16,19] PL (λk s10 s11 s12 s14 s15 s16 s19 wr=>∃j p b n:Nat,j+k=PL∧s19 = .int .i64 (j:Nat)∧s10 = .int .i64 (p:Nat)∧s11 = .int .i64 (b:Nat)∧s12 = .int .i64 (n:Nat)∧Found base text i wait p b n∧n≤TL∧b≤wait∧Fr [] w wr);case atStart=>exact⟨0,0,0,0,by omega,rfl,rfl,rfl,rfl,.inl ⟨rfl,rfl,rfl⟩,qa5 _,qa5 _,Fr.refl _ _⟩
 case round=>
  obtain⟨j,p,bk,n,hj,rfl,rfl,rfl,rfl,hf,hn,hbk,hfr⟩:=hrel;have F:=zhd2 hf hfr;clear hf hfr;obtain⟨wo,rfl⟩:∃wo:World,wo=wr:=⟨_,rfl⟩;by_cases hjp:j<PL
  ·have hjl:j<ps.length:=by rw[<-HLn.l2];exact hjp
   obtain⟨g,o,rfl,hc⟩:=H.out.2.2.1.at (by rw[qap];omega);have c0:=F.l1.cell (hc j (.int .i64 (ps[j]:Nat)) (by simp[hjl])) (by simp);have hpb:=H.out.2.2.2 ps[j] (qdj hjl);rw[<-HLn.o0]at hpb;obtain⟨v,hv⟩:=zex (ps[j]);rw[<-hv]at c0 hpb;clear hc hv hjl;go_upto_block 2 with fail;clear c0;go_cut [15] from 23 to 54 (λs15 wz=>∃k:Nat,s15 = .int .i64 (k:Nat)∧Match base text v i k∧Fr [] wo wz)
   case first=>
    go_wp2;go_loopg [15] (BL+1) (λkk s15 w2=>∃k:Nat,k+kk=BL+1∧s15 = .int .i64 (k:Nat)∧Match base text v i k∧Fr [] wo w2);case atStart=>exact⟨0,by omega,rfl,qvp (by rw[<-HLn.o0];exact hpb) (by rw[<-HLn.o1];exact hi),Fr.refl _ _⟩
    case round=>
     obtain⟨k,hk,rfl,hm,hfr⟩:=hrel;have hm1:=hm.1;have hm2:=hm.2.1;rw[<-HLn.o0]at hm1;rw[<-HLn.o1]at hm2;have M:=zhd2 hm hfr;have HKK:=zhd hk;clear hm hfr hk;obtain⟨m1,e1⟩:=zex (v+k);obtain⟨m2,e2⟩:=zex (i+k);have w1:IntKind.i64.wrap ((v:Int)+(k:Int))=(m1:Int):=by rw[qbw];omega
     have w2:IntKind.i64.wrap ((i:Int)+(k:Int))=(m2:Int):=by rw[qbw];omega
     have HE:=zhd2 e1 e2;have l1:m1≤BL:=by omega
     have l2:m2≤TL:=by omega
     have hkb:k≤BL:=by omega
     clear e1 e2 hm1 hm2;by_cases c1:m1<BL
     ·have d1:decide (m1<BL)=true:=by simpa using c1
      by_cases c2:m2<TL
      ·have d2:decide (m2<TL)=true:=by simpa using c2
       have hl1:m1<base.length:=by rw[<-HLn.o0];exact c1
       have hl2:m2<text.length:=by rw[<-HLn.o1];exact c2
       obtain⟨g1,o1,ra,X1⟩:=H.out.1.at hl1;obtain⟨g2,o2,rb,X2⟩:=H.out.2.1.at hl2;have x1:=(F.l1.trans M.l1).cell X1 (by simp);have x2:=(F.l1.trans M.l1).cell X2 (by simp);clear X1 X2;obtain⟨y1,hy1⟩:∃y,y=base[m1]:=⟨_,rfl⟩;obtain⟨y2,hy2⟩:∃y,y=text[m2]:=⟨_,rfl⟩;rw[<-hy1]at x1;rw[<-hy2]at x2;subst ra rb;by_cases ce:y1=y2
       ·have HY:=zhd (show ∃(h1:m1<base.length) (h2:m2<text.length),base[m1]=text[m2] from ⟨hl1,hl2,by rw[<-hy1,<-hy2];exact ce⟩);rw[<-ce]at x2;generalize y1.toNat=n1 at *;clear hy1 hy2 ce hl1 hl2;go_upto_region 5 with fail;go_quiet (fail);clear x1 x2 w1 w2;go_wp2;go_roundg (BL+1-(k+1));case measure=>have:=HKK.out;omega
        case rel=>have e:=HE.out;obtain⟨y1,y2,hy⟩:=HY.out;refine⟨k+1,by have:=HKK.out;omega,by go_num,qvq M.o0 (by rw[<-e.1];exact y1) (by rw[<-e.2];exact y2) ?_,M.l1.trans (Fr.drewN [] _ _)⟩;simp only[e.1,e.2]at hy;exact hy
       ·have hne:y1.toNat≠y2.toNat:=λh=>ce (UInt8.toNat_inj.1 h)
        have d3:(((y1.toNat:Nat):Int)==((y2.toNat:Nat):Int))=false:=by simp;omega
        generalize y1.toNat=n1 at *;generalize y2.toNat=n2 at *;clear hy1 hy2 ce hl1 hl2 hne;go_upto_region 5 with fail;go_quiet (fail);clear x1 x2 w1 w2;go_wp2;go_meet;exact⟨k,rfl,M.o0,M.l1.trans (Fr.drewN [] _ _)⟩
      ·have d2:decide (m2<TL)=false:=by simpa using c2
       go_upto_region 5 with fail;go_quiet (fail);clear w1 w2;go_wp2;go_meet;exact⟨k,rfl,M.o0,M.l1.trans (Fr.drewN [] _ _)⟩
     ·have d1:decide (m1<BL)=false:=by simpa using c1
      go_upto_region 5 with fail;go_quiet (fail);clear w1 w2;go_wp2;go_meet;exact⟨k,rfl,M.o0,M.l1.trans (Fr.drewN [] _ _)⟩
   case rest=>
   obtain⟨k,rfl,hmk,hfr⟩:=hcut;have hk1:=hmk.1;have hk2:=hmk.2.1;rw[<-HLn.o0]at hk1;rw[<-HLn.o1]at hk2;have MK:=zhd2 hmk (F.l1.trans hfr);clear hmk hfr;obtain⟨w4,rfl⟩:∃w4:World,w4=wc:=⟨_,rfl⟩;go_upto_block 4 with fail;go_cut [16] from 54 to 81 (λs16 wz=>∃b2:Nat,s16 = .int .i64 (b2:Nat)∧b2≤wait∧Back base text v i b2∧Fr [] w4 wz)
   case first=>
    go_wp2;go_loopg [16] (wait+1) (λkk s16 w2=>∃b2:Nat,b2+kk=wait+1∧s16 = .int .i64 (b2:Nat)∧b2≤wait∧Back base text v i b2∧Fr [] w4 w2);case atStart=>exact⟨0,by omega,rfl,qa5 _,zab (by rw[<-HLn.o0];exact hpb) (by rw[<-HLn.o1];exact hi),Fr.refl _ _⟩
    case round=>
     obtain⟨b2,hk,rfl,hbw,hm,hfr⟩:=hrel;have M:=zhd2 hm hfr;have HKK:=zhd hk;clear hm hfr hk;by_cases c1:b2<wait
     ·have d1:decide (b2<wait)=true:=by simpa using c1
      by_cases c2:b2<v
      ·have d2:decide (b2<v)=true:=by simpa using c2
       obtain⟨m0,e0⟩:=zex (v-b2);obtain⟨m1,e1⟩:=zex (v-b2-1);obtain⟨m3,e3⟩:=zex (i-b2);obtain⟨m2,e2⟩:=zex (i-b2-1);have u0:IntKind.i64.wrap ((v:Int)-(b2:Int))=(m0:Int):=by rw[qbw];omega
       have u1:IntKind.i64.wrap ((m0:Int)-1)=(m1:Int):=by rw[qbw];omega
       have u3:IntKind.i64.wrap ((i:Int)-(b2:Int))=(m3:Int):=by rw[qbw];omega
       have u2:IntKind.i64.wrap ((m3:Int)-1)=(m2:Int):=by rw[qbw];omega
       have l1:m1<BL:=by omega
       have l2:m2<TL:=by omega
       have HE:=zhd2 e1 e2;have hl1:m1<base.length:=by rw[<-HLn.o0];exact l1
       have hl2:m2<text.length:=by rw[<-HLn.o1];exact l2
       obtain⟨g1,o1,ra,X1⟩:=H.out.1.at hl1;obtain⟨g2,o2,rb,X2⟩:=H.out.2.1.at hl2;have x1:=(MK.l1.trans M.l1).cell X1 (by simp);have x2:=(MK.l1.trans M.l1).cell X2 (by simp);clear X1 X2 e0 e1 e2 e3;obtain⟨y1,hy1⟩:∃y,y=base[m1]:=⟨_,rfl⟩;obtain⟨y2,hy2⟩:∃y,y=text[m2]:=⟨_,rfl⟩;rw[<-hy1]at x1;rw[<-hy2]at x2;subst ra rb;by_cases ce:y1=y2
       ·have HY:=zhd (show ∃(h1:m1<base.length) (h2:m2<text.length),base[m1]=text[m2] from ⟨hl1,hl2,by rw[<-hy1,<-hy2];exact ce⟩);rw[<-ce]at x2;generalize y1.toNat=n1 at *;clear hy1 hy2 ce hl1 hl2;go_upto_region 8 with fail;go_quiet (fail);clear x1 x2 u0 u1 u2 u3;go_wp2;go_roundg (wait+1-(b2+1));case measure=>have:=HKK.out;omega
        case rel=>have e:=HE.out;obtain⟨y1,y2,hy⟩:=HY.out;refine⟨b2+1,by have:=HKK.out;omega,by go_num,by omega,zac M.o0 c2 (by omega) (by rw[<-e.1];exact y1) (by rw[<-e.2];exact y2) ?_,M.l1.trans (Fr.drewN [] _ _)⟩;simp only[e.1,e.2]at hy;exact hy
       ·have hne:y1.toNat≠y2.toNat:=λh=>ce (UInt8.toNat_inj.1 h)
        have d3:(((y1.toNat:Nat):Int)==((y2.toNat:Nat):Int))=false:=by simp;omega
        generalize y1.toNat=n1 at *;generalize y2.toNat=n2 at *;clear hy1 hy2 ce hl1 hl2 hne;go_upto_region 8 with fail;go_quiet (fail);clear x1 x2 u0 u1 u2 u3;go_wp2;go_meet;exact⟨b2,rfl,hbw,M.o0,M.l1.trans (Fr.drewN [] _ _)⟩
      ·have d2:decide (b2<v)=false:=by simpa using c2
       go_upto_region 8 with fail;go_quiet (fail);go_wp2;go_meet;exact⟨b2,rfl,hbw,M.o0,M.l1.trans (Fr.drewN [] _ _)⟩
     ·have d1:decide (b2<wait)=false:=by simpa using c1
      go_upto_region 8 with fail;go_quiet (fail);go_wp2;go_meet;exact⟨b2,rfl,hbw,M.o0,M.l1.trans (Fr.drewN [] _ _)⟩
   case rest=>
   obtain⟨b2,rfl,hbw,hback,hfr⟩:=hcut;have MB:=zhd2 hback (MK.l1.trans hfr);clear hback hfr;by_cases c1:16≤k
   ·have d1:decide ((16:Int)≤k)=true:=by simp;omega
    by_cases c2:bk+n<k+b2
    ·have d2:decide ((bk:Int)+n<(k:Int)+b2)=true:=by simp;omega
     go_wp2;go_roundg (PL-(j+1));case measure=>omega
     case rel=>exact⟨j+1,v,b2,k,by omega,by go_num,rfl,rfl,rfl,.inr ⟨c1,MK.o0,hbw,MB.o0⟩,by omega,hbw,MB.l1⟩
    ·have d2:decide ((bk:Int)+n<(k:Int)+b2)=false:=by simp;omega
     go_wp2;go_roundg (PL-(j+1));case measure=>omega
     case rel=>exact⟨j+1,p,bk,n,by omega,by go_num,rfl,rfl,rfl,F.o0,hn,hbk,MB.l1⟩
   ·have d1:decide ((16:Int)≤k)=false:=by simp;omega
    go_wp2;go_roundg (PL-(j+1));case measure=>omega
    case rel=>exact⟨j+1,p,bk,n,by omega,by go_num,rfl,rfl,rfl,F.o0,hn,hbk,MB.l1⟩
  ·obtain rfl:j=PL:=by omega
   go_wp2;go_ret3;exact⟨p,bk,n,rfl,F.out⟩
def Occ (base text:List UInt8) (p:Nat):Prop:=p+text.length≤base.length∧(base.drop p).take text.length=text
theorem qx4 {s t:List UInt8} {i:Nat} (hi:i≤s.length):Lib.occAt s t i=true↔Occ s t i:=by
 unfold Lib.occAt Occ;rw[List.isPrefixOf_iff_prefix,List.prefix_iff_eq_take];constructor
 ·intro h;have:=congrArg List.length h;rw[qaq,qav]at this;exact⟨by omega,h.symm⟩
 ·exact λh=>h.2.symm
def IdxPost (base text:List UInt8) (e:Ending):Prop:=(∃p:Nat,e = .returned (.int .i64 (p:Nat))∧Occ base text p)∨(e = .returned (.int .i64 (-1))∧∀p,¬Occ base text p)
theorem quk (base text:List UInt8):IdxPost base text (.returned (.int .i64 (Lib.index base text))):=by
 rcases Lib.index_spec base text with⟨h,h2⟩|⟨i,h,hi,ho,_⟩
 ·refine .inr ⟨by rw[h],λp hp=>?_⟩;have hl:p≤base.length:=by have:=hp.1;omega
  have:=(qx4 hl).2 hp;rw[h2 p hl]at this;cases this
 ·exact .inl ⟨i,by rw[h],(qx4 hi).1 ho⟩
theorem qi1 (bs:List UInt8):Lib.bytesOf (bs.map λb=>(b.toNat:Int))=bs:=by
 unfold Lib.bytesOf;rw[qhm];conv=>rhs;rw[<-List.map_id bs]
 exact qf8 λb _=>by simp
theorem qys (a b:Option Addr) (cap capb:Nat) (base text:List UInt8) (m:Int) (w:World) (hb:Rd w a cap base) (ht:Rd w b capb text) (hlen:base.length<4294967281) (hm:w.cell? ⟨0,0,none⟩=some (.int .i64 m)) :
  Calls Tryz.prog 98 #[.slice a base.length cap,.slice b text.length capb] w λe w'=>IdxPost base text e∧Fr [] w w':=by
 have hmx:=ht.max;have hle:=ht.le;unfold maxLen at hmx;by_cases h0:text=[]
 ·subst h0;refine (Tryz.bytes_Index_none a b base.length cap capb w).mono ?_;rintro e w' ⟨rfl,rfl⟩;exact⟨.inl ⟨0,rfl,by simp[Occ]⟩,Fr.refl _ _⟩
 ·have hl:0<text.length:=qj1.2 h0;obtain⟨g,o,rfl,c0⟩:=ht.at (i:=0) hl;by_cases h1:base=[]
  ·subst h1;have hz:(Value.slice a 0 cap) = .slice a 0 cap:=rfl;rcases a with _|⟨ag,ao,fz⟩
   ·have hc:=hb.nil rfl;subst hc;refine (Tryz.bytes_Index_nil (some ⟨g,o,none⟩) text.length capb w (by omega) (λ_=>⟨g,o,_,rfl,c0⟩)).mono ?_;rintro e w' ⟨rfl,rfl⟩;refine⟨.inr ⟨by rw[if_neg (by omega)],λp hp=>?_⟩,Fr.refl _ _⟩;have:p+text.length≤0:=hp.1;omega
   ·refine (Tryz.bytes_Index_at ⟨ag,ao,fz⟩ ⟨g,o,none⟩ 0 cap text.length capb [] (text.map λb=>(b.toNat:Int)) m w rfl (by simp) (by simp) ?_ (by simp) ?_ (qa5 _) (by decide) (by omega) hm).mono ?_
    ·intro y hy;obtain⟨u,_,rfl⟩:=qcj.1 hy;have:=u.toNat_lt;omega
    ·intro i hi;obtain⟨g',o',e,c⟩:=ht.at hi;cases e;simpa[Addr.add_lit,List.getD,hi] using c
    ·rintro e w' ⟨rfl,q,rfl⟩;rw[qi1];exact⟨quk [] text,Fr.drewN _ _ _⟩
  ·have hl1:0<base.length:=qj1.2 h1;obtain⟨g1,o1,rfl,_⟩:=hb.at (i:=0) hl1;refine (Tryz.bytes_Index_at ⟨g1,o1,none⟩ ⟨g,o,none⟩ base.length cap text.length capb (base.map λb=>(b.toNat:Int)) (text.map λb=>(b.toNat:Int)) m w (by simp) (by simp) ?_ ?_ ?_ ?_ hb.le hlen (by omega) hm).mono ?_
   ·intro y hy;obtain⟨u,_,rfl⟩:=qcj.1 hy;have:=u.toNat_lt;omega
   ·intro y hy;obtain⟨u,_,rfl⟩:=qcj.1 hy;have:=u.toNat_lt;omega
   ·intro i hi;obtain⟨g',o',e,c⟩:=hb.at hi;cases e;simpa[Addr.add_lit,List.getD,hi] using c
   ·intro i hi;obtain⟨g',o',e,c⟩:=ht.at hi;cases e;simpa[Addr.add_lit,List.getD,hi] using c
   ·rintro e w' ⟨rfl,q,rfl⟩;rw[qi1,qi1];exact⟨quk base text,Fr.drewN _ _ _⟩
structure Kept (lo:Nat) (w w':World):Prop where
 size:w.heap.size≤w'.heap.size
 block:∀i,lo≤i→i<w.heap.size→w'.heap[i]?=w.heap[i]?
theorem Kept.refl (lo:Nat) (w:World):Kept lo w w:=⟨qae _,λ_ _ _=>rfl⟩
theorem Kept.fr {S:List Nat} {lo:Nat} {w w1 w2:World} (h:Kept lo w w1) (f:Fr S w1 w2) (hS:∀x∈S,x<lo∨w.heap.size≤x):Kept lo w w2:=by refine⟨qar h.size f.size,λi hi hl=>?_⟩;rw[<-h.block i hi hl];have h1:=h.size;exact f.block i (by omega) λhm=>by rcases hS i hm with k|k<;>omega
section
variable {H : Type} {P : Program} {k e : TypeId} {q : IntKind} {w w' : World} {lo base b n : Nat} {D : DataW H}
theorem qq6 {v:Value} {zs:List Int} (h:w.ownsInts base e q v zs) (hk:Kept lo w w') (hlo:lo≤base):w'.ownsInts base e q v zs:=by
 refine⟨⟨h.1.1,?_⟩,h.2⟩;rcases h.1.2 with h1|⟨g,cap,cur,hv,hg,hb,r⟩
 ·exact .inl h1
 ·exact .inr ⟨g,cap,cur,hv,hg,(hk.block g (by omega) (lt_of_block hb)).trans hb,r⟩
theorem qs1 (h:w.ownsGroups P k base e q b n D) (hk:Kept lo w w') (hlo:lo≤b):w'.ownsGroups P k base e q b n D:=by
 obtain⟨es,clock,hb,F,hs,rfl,hbb,hlen,hap⟩:=h;have hst:∀x∈es.toList,∀z,rowElem (H:=H) w base e q x.val=some z→rowElem w' base e q x.val=some z:=λx hx z hz=>by obtain⟨zs,ho,rfl⟩:=rowElem_inv hz;exact rowElem_mk (qq6 ho hk (by omega))
 obtain⟨F1,hmap,_⟩:=F.stay hst;refine⟨es,clock,(hk.block b hlo (lt_of_block hb)).trans hb,F1,hs,by rw[hmap],hbb,λx hx zs ho=>?_,hap⟩;obtain⟨y,hy⟩:=F.reads x hx;obtain⟨z,hz,_⟩:=WideElems.rd_val hy;obtain⟨zs0,ho0,_⟩:=rowElem_inv hz;rw[ho.unique (qq6 ho0 hk (by omega))];exact hlen x hx zs0 ho0
end
def GoodD (L:Nat) (D:DataW Unit):Prop:=Maps.IsMap D∧∀kl zs,WideAt.IsKeyLit kl→D.atKey kl .nil = .slice (_root_.Go.ChangeShapes.lits .i64 zs) []→∀z∈zs,0≤z∧z≤(L:Int)
theorem zb2 {q:IntKind} {xs ys:List Int} (h:(.slice (_root_.Go.ChangeShapes.lits q xs:List (DataW Unit)) []:DataW Unit) = .slice (_root_.Go.ChangeShapes.lits q ys) []):xs=ys:=by simp only[DataW.slice.injEq,and_true]at h;unfold _root_.Go.ChangeShapes.lits at h;exact (List.map_inj_right (λa b hab=>by cases hab;rfl)).1 h
theorem qy7 (L:Nat):GoodD L (.map []):=⟨Maps.isMap_empty,λkl zs _ h=>by cases h⟩
structure Gm (L:Nat) (w:World) (bm n:Nat) (D:DataW Unit):Prop where
 own:w.ownsGroups Tryz.prog 104 (bm+1) 3 .i64 bm n D
 good:GoodD L D
theorem zfo (L:Nat) (w:World):Gm L (w.alloc (.map #[] 0)) w.heap.size 0 (.map []):=⟨World.ownsGroups_made w _ _ _ _,qy7 L⟩
theorem Gm.kept {L lo bm n:Nat} {w w':World} {D:DataW Unit} (h:Gm L w bm n D) (k:Kept lo w w') (hlo:lo≤bm):Gm L w' bm n D:=⟨qs1 h.own k hlo,h.good⟩
theorem qjr:(Tryz.prog.info? 3).map (λi=>(i.zero,i.size,i.bytes))=some (some (.int .i64 0),1,8):=by kernel_rfl
theorem qp6 (w:World):(zeroValue 28).run Tryz.prog w = .ok (.slice none 0 0) w:=by kernel_rfl
theorem qwu:Tryz.prog.underlying 104=some (.int .u64):=by kernel_rfl
theorem zau:Tryz.prog.underlying 28=some (.slice 3):=by kernel_rfl
theorem qhq:Tryz.prog.underlying 171=some (.map 104 28):=by kernel_rfl
theorem qyj {x:Int} (h:(Lit.int .u64 x).wf=true):keyOf Tryz.prog 104 (.int .u64 x)=some (.int .u64 x):=Maps.keyOf_int_mk qwu h
theorem qq5:Maps.Keyed Tryz.prog 104:=Maps.int_keyed qwu
theorem GoodD.put {L:Nat} {D:DataW Unit} (h:GoodD L D) {x:Int} {v v':Value} {zs:List Int} {i:Nat} (hat:D.atKey (.int .u64 x) .nil=rowDatum .i64 v zs) (hd:(rowDatum (H:=Unit) .i64 v zs = .nil∧zs=[])∨rowDatum (H:=Unit) .i64 v zs = .slice (_root_.Go.ChangeShapes.lits .i64 zs) [])
  (hi:i≤L):GoodD L (D.put (.int .u64 x) (rowDatum .i64 v' (zs++[(i:Int)]))):=by
 refine⟨h.1.put _ _,λkl ys hk e z hz=>?_⟩;by_cases hkl:kl = .int .u64 x
 ·subst hkl;rw[Maps.atKey_put_same h.1 hk]at e;have ey:ys=zs++[(i:Int)]:=by
   unfold rowDatum at e;split at e
   ·cases e
   ·exact (zb2 e).symm
  rw[ey]at hz;rcases qbu.1 hz with hz|hz
  ·rcases hd with⟨_,h0⟩|h1
   ·rw[h0]at hz;cases hz
   ·exact h.2 _ zs hk (hat.trans h1) z hz
  ·simp only[qa2]at hz;rw[hz];omega
 ·rw[Maps.atKey_put_other hkl]at e;exact h.2 kl ys hk e z hz
theorem qu2 {L bm n:Nat} {w:World} {D:DataW Unit} (h:Gm L w bm n D) (hn:n<maxLen) {o:Oper} {a:Act} {K:Act→World→Prop} {Q:Exit→Act→World→Prop} (m x:Operand) (hop:o.op=Op.lookup 171 m x false)
  (hm:a.eval m = .map (some bm)) (k:Int) (hx:a.eval x = .int .u64 k) (hk:(Lit.int .u64 k).wf=true)
  (hK:∀(pa:Option Addr) (ps:List Nat) (pc:Nat),Cs w pa (ps.map λp=>.int .i64 (p:Nat))→ps.length≤pc→(∀p∈ps,p≤L)→ps.length≤n→K (a.put o.dst (.slice pa ps.length pc)) w):o.wp Tryz.prog a w K Q:=by
 obtain⟨v,zs,hrun,hat,hoi,hzl,_⟩:=h.own.at qq5 qhq (qp6 w) hn (qyj hk);obtain⟨va,vc,rfl,v1,v2,v3⟩:=qf4 hoi.1;have hcs:=qd4 hoi.1;have hg:∀z∈zs,0≤z∧z≤(L:Int):=by
  rcases hoi.datum (H:=Unit) with⟨_,h0⟩|h1
  ·intro z hz;rw[h0]at hz;cases hz
  ·exact h.good.2 _ zs (by first|trivial|exact hk|simp[WideAt.IsKeyLit]) (hat.trans h1)
 have hz:zs.map (Value.int .i64)=(zs.map Int.toNat).map λp=>Value.int .i64 (p:Nat):=by
  rw[qhm];refine qf8 λz hz=>?_
  have:=(hg z hz).1;show Value.int .i64 z=Value.int .i64 ((z.toNat:Nat):Int);rw[qga this]
 rw[hz]at hcs;unfold Oper.wp;simp[execOp,hop,hm,hx,hrun,Result.andThen];have:=hK va (zs.map Int.toNat) vc hcs (by simpa using v1) (λp hp=>by
  obtain⟨z,hz,rfl⟩:=qcj.1 hp
  have:=hg z hz
  omega) (by simpa using hzl)
 rw[qap]at this;exact this
end Go.Proofs.YtkmpfgpfbmeihaaGreatDoor.delta
namespace Go.Proofs.YtkmpfgpfbmeihaaGreatDoor.delta
open Go Go.RowKit lib bm
def Made (base text d:List UInt8):Prop:=
 ∃ins,d=numb base.length++(numb text.length++ins)∧Runs base ins text∧ins.length≤text.length+text.length/127+8∧((∃p,Occ base text p)→ins.length≤8*((text.length+65535)/65536))
def St (base text hd out wait:List UInt8) (i:Nat):Prop:=
 ∃ins acc,out=hd++ins∧Runs base ins acc∧acc++wait=text.take i∧127*ins.length≤128*acc.length∧i≤text.length
theorem za7 (base text hd:List UInt8):St base text hd hd [] 0:=⟨[],[],by simp,qjg base,by simp,by simp,qa5 _⟩
theorem St.len {base text hd out wait:List UInt8} {i:Nat} (h:St base text hd out wait i):out.length≤hd.length+2*text.length∧wait.length≤i∧i≤text.length:=by obtain⟨ins,acc,rfl,_,he,hl,hi⟩:=h;have:=congrArg List.length he;rw[qab,qaq]at this;rw[qab];omega
theorem St.wait {base text hd out wait:List UInt8} {i:Nat} (h:St base text hd out wait i) (hi:i<text.length):St base text hd out (wait++[text[i]]) (i+1):=by obtain⟨ins,acc,rfl,hr,he,hl,_⟩:=h;refine⟨ins,acc,rfl,hr,?_,hl,hi⟩;rw[<-qas,he,qca hi]
theorem St.copy {base text hd out wait:List UInt8} {i p b n:Nat} (h:St base text hd out wait i) (hb:base.length<4294967296) (h16:16≤n) (hm:Match base text p i n) (hbw:b≤wait.length) (hk:Back base text p i b) :
  St base text hd (out++lits (wait.take (wait.length-b)).length (wait.take (wait.length-b))++cops (b+n) (p-b) (b+n)) [] (i+n):=by
 obtain⟨ins,acc,rfl,hr,he,hl,hi⟩:=h;obtain⟨m1,m2,m3⟩:=hm;obtain⟨k1,k2,k3,k4,k5⟩:=hk;obtain⟨W,hW⟩:=zex (wait.take (wait.length-b));have hWl:W.length=wait.length-b:=by rw[hW,qaq];omega
 rw[<-hW];have hpc:p-b+(b+n)≤base.length:=by omega
 have hc:=qmf base hb (b+n) (p-b) (b+n) (qae _) hpc;have hcl:=qp0 (b+n) (p-b) (b+n);have hli:=qme base W.length W (qae _);have hll:=qlk W.length W;have hlen:=congrArg List.length he;rw[qab,qaq]at hlen;have hdl:((base.drop (p-b)).take (b+n)).length=b+n:=by rw[qaq,qav];omega
 refine⟨ins++(lits W.length W++cops (b+n) (p-b) (b+n)),acc++(W++(base.drop (p-b)).take (b+n)),by simp only[qas],hr.append (hli.append hc),?_,?_,m2⟩
 ·rw[qbr,<-qas];have e1:acc++W=text.take (i-b):=by
   have:(acc++wait).take (i-b)=acc++W:=by rw[List.take_append,hW,qbd (by omega)];congr 2;omega
   rw[<-this,he,qov];congr 1;omega
  have e2:(base.drop (p-b)).take (b+n)=(text.drop (i-b)).take (b+n):=by rw[List.take_add,List.take_add,k5,qep,qep,Nat.sub_add_cancel k1,Nat.sub_add_cancel k2,m3]
  rw[e1,e2,<-List.take_add];congr 1;omega
 ·simp only[qab,hdl];omega
theorem St.done {base text hd out wait:List UInt8} (h:St base text hd out wait text.length):∃ins,out++lits wait.length wait=hd++ins∧Runs base ins text∧ins.length≤text.length+text.length/127+8:=by obtain⟨ins,acc,rfl,hr,he,hl,_⟩:=h;rw[List.take_length]at he;have hll:=qlk wait.length wait;have hlen:=congrArg List.length he;rw[qab]at hlen;refine⟨ins++lits wait.length wait,by rw[qas],by rw[<-he];exact hr.append (qme base wait.length wait (qae _)),?_⟩;rw[qab];omega
theorem qvs {base text:List UInt8} {p:Nat} (hb:base.length<4294967296) (h:Occ base text p):Made base text (numb base.length++numb text.length++lits ([]:List UInt8).length []++cops text.length p text.length):=by obtain⟨h1,h2⟩:=h;have hc:=qmf base hb text.length p text.length (qae _) h1;have hcl:=qp0 text.length p text.length;rw[h2]at hc;refine⟨cops text.length p text.length,?_,hc,by omega,λ_=>hcl⟩;simp only[qbi,lits_nil,qbr,qas]
theorem qyb {base text out wait:List UInt8} (hno:∀p,¬Occ base text p) (h:St base text (numb base.length++numb text.length) out wait text.length):Made base text (out++lits wait.length wait):=by obtain⟨ins,he,hr,hl⟩:=h.done;exact⟨ins,by rw[he,qas],hr,hl,λ⟨p,hp⟩=>absurd hp (hno p)⟩
theorem qjh {P:Program} {t e:TypeId} {z:Value} {size bytes:Nat} (T:SliceTy P t e z size bytes) (n:Nat) (a:Option Addr) (cap:Nat) (hc:n≤cap) (w:World) :
  (Instr.slice t (.slice a n cap) Option.none (some (.int .i64 n)) (some (.int .i64 n))).run P w = .ok (.slice a n n) w:=by
 obtain⟨hu,⟨i,hi',_,hs,_⟩,_,_⟩:=T;have c1:(0:Int)≤(n:Int)∧(n:Int)≤(cap:Int):=by omega
 have ad0:∀x:Addr,x.add 0=x:=λx=>rfl
 cases a<;>simp[run_underlying hu,Instr.slice,Instr.sliceBounds,Instr.sliceBound,asIntOf,c1,hc,sizeOf,typeInfo,hi',hs,Result.andThen,ad0]
theorem Mk.made {S0:List Nat} {w w0 wr:World} {q:Nat} {oa wa:Option Addr} {oc wc:Nat} {out wait:List UInt8} (h:Mk S0 w0 wr q oa oc out wa wc wait) (f:Fr [] w w0) (hS:∀y∈S0,w.heap.size≤y) (n:Nat) (hl:n=out.length):NewBytes w out (.returned (.slice oa n n)) wr:=by
 obtain⟨o1,o2,o3⟩:=h.o.shape;subst hl;rw[qap]at o1;refine⟨oa,rfl,⟨h.o.cs,qae _,qar o1 o2,λe=>by have:=o3 e;omega⟩,λx hx=>⟨?_,h.o.lt x hx⟩,f.step h.fr λy hy=>.inr (hS y hy)⟩;rcases h.newO x hx with k|k
 ·exact hS x k
 ·exact qar f.size k
theorem Mk.waitMore {S0:List Nat} {w wr w1 w2:World} {q:Nat} {oa wa a2:Option Addr} {oc wc c2 n:Nat} {out wait news:List UInt8} (h:Mk S0 w wr q oa oc out wa wc wait) (f:Fr [] wr w1)
  (A:OwnMore w1 w2 5 wa a2 c2 (wait.map bv++news.map bv)) (hn:wait.length+news.length=n):Mk S0 w (w2.setCell ⟨q,1,none⟩ (.slice a2 n c2)) q oa oc out a2 c2 (wait++news):=by
 have h1:=h.fr0 f;have hq:q<w1.heap.size:=lt_of_block h1.blk;have ho:=h1.o.lt;have ha2:∀y∈lib.blk a2,y≠q∧y∉lib.blk oa∧(y∈S0∨w.heap.size≤y):=λy hy=>by
  rcases A.at_ y hy with k|k
  ·exact⟨λe=>h.qx (by rw[<-e];exact k),λe=>h.apart y e k,h.newX y k⟩
  ·have:=h1.fr.size;exact⟨by omega,λe=>by have:=ho y e;omega,by omega⟩
 have fs:Fr [q] w2 (w2.setCell ⟨q,1,none⟩ (.slice a2 n c2)):=(Fr.refl [q] w2).setCell (by simp) _;have hb:=A.fr.blk h1.blk h.qx;refine⟨?_,?_,?_,h.qo,λe=>(ha2 q e).1 rfl,λy hy e=>(ha2 y e).2.1 hy,((h1.fr.step A.fr λy hy=>h.newX y hy).step fs λy hy=>by simp at hy;rw[hy];exact h.new),h.new,h.newO,λy hy=>(ha2 y hy).2.2⟩
 ·rw[qax hb,qab,hn];rfl
 ·exact (h1.o.fr A.fr λy hy e=>h.apart y hy e).fr fs λy hy=>by simp;intro e;exact h.qo (by rw[<-e];exact hy)
 ·rw[qbe];exact A.own.fr fs λy hy=>by simpa using (ha2 y hy).1
theorem Mk.rebase {S0:List Nat} {w0 wr:World} {q:Nat} {oa wa:Option Addr} {oc wc:Nat} {out wait:List UInt8} (h:Mk S0 w0 wr q oa oc out wa wc wait):Mk (q::(lib.blk oa++lib.blk wa)) wr wr q oa oc out wa wc wait:=
 ⟨h.blk,h.o,h.x,h.qo,h.qx,h.apart,Fr.refl _ _,.inl (by simp),λy hy=>.inl (by simp[hy]),λy hy=>.inl (by simp[hy])⟩
end Go.Proofs.YtkmpfgpfbmeihaaGreatDoor.delta
