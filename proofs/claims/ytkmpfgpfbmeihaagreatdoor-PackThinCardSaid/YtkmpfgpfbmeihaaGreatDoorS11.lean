/-
  Texts of this proof, one behind the other: Writer, Wb, Stored, RowsArg, Written, Plain, Zlib, TokBits.
-/
import Derived.Test.YtkmpfgpfbmeihaaGreatDoorS10
import Derived.Lib.SmallJoins
set_option maxHeartbeats 16000000
set_option maxRecDepth 100000
set_option linter.unusedVariables false
set_option linter.unusedSimpArgs false
namespace Go.Proofs.YtkmpfgpfbmeihaaGreatDoor.bits
open Go Go.RowKit lib bm
def WrPost (p:Nat) (F:List Nat) (w:World) (M L:Nat) (e:Ending) (w':World):Prop:=
 e = .returned (.tuple #[])∧Fr F w w'∧∃F',Wr w' p F' M L∧∀y∈F',y∈F∨w.heap.size≤y
theorem qkh (p:Nat) (F:List Nat) (M L:Nat) (x:Nat) (n:Int) (w:World) (hW:Wr w p F M L) (hx:x<4294967296) (hL:L≤562949953421312) :
  Calls Tryz.prog 247 #[.pointer (some ⟨p,0,none⟩),.int .u32 x,.int .i64 n] w (WrPost p F w (M+2^L*(x%2^(min n.toNat 32))) (L+min n.toNat 32)):=
 (zgb p F M L x n w hW hx hL).mono λ_ _ h=>h
theorem qxn (p:Nat) (F:List Nat) (M L:Nat) (x n:Int) (w:World) (hW:Wr w p F M L) (hx0:0≤x) (hx:x<4294967296) (hL:L≤562949953421312) :
  Calls Tryz.prog 247 #[.pointer (some ⟨p,0,none⟩),.int .u32 x,.int .i64 n] w (WrPost p F w (M+2^L*(x.toNat%2^(min n.toNat 32))) (L+min n.toNat 32)):=by
 obtain⟨x,rfl⟩:=qds hx0;exact qkh p F M L x n w hW (by omega) hL
theorem zg9 {w w':World} {p:Nat} {F S:List Nat} {M L:Nat} (h:Wr w p F M L) (hf:Fr S w w') (hn:∀x∈F,x∉S):Wr w' p F M L:=by obtain⟨v,⟨hr,hown,hpb,hM⟩,rfl⟩:=h;exact⟨v,⟨hf.blk hr (hn p (by simp)),qa7 hown hf (λk hk=>hn k (by simp[hk])),hpb,hM⟩,rfl⟩
theorem zg8 {w:World} {p:Nat} {F:List Nat} {M L:Nat} (h:Wr w p F M L):∀x∈F,x<w.heap.size:=by
 obtain⟨v,⟨hr,hown,hpb,hM⟩,rfl⟩:=h;intro x hx;rcases qbh.1 hx with rfl|hx
 ·exact lt_of_block hr
 ·exact qdu hown (by simpa using hx)
theorem zc1 (p:Nat) (F:List Nat) (M L:Nat) (x:Nat) (n:Int) (w:World) (hW:Wr w p F M L) (hx:x<4294967296) (hL:L≤562949953421200) :
  Calls Tryz.prog 246 #[.pointer (some ⟨p,0,none⟩),.int .u32 x,.int .i64 n] w (WrPost p F w (M+2^L*revTo x (min n.toNat 32) (min n.toNat 32)) (L+min n.toNat 32)):=by
 obtain⟨m,hm,hm32⟩:∃m:Nat,m=min n.toNat 32∧m≤32:=⟨_,rfl,by omega⟩;have Hm:=zhd hm;rw[<-hm];clear hm;go_enter Tryz.func246,Tryz.ntmps246;go_upto_region 0 with fail;go_cut [6] (λs6 wc=>s6 = .int .i64 ((m:Int)-1)∧w=wc);case first=>go_wp2;all_goals (go_meet;exact⟨int_eq (by have:=Hm.out;omega),rfl⟩)
 case rest=>
 obtain⟨rfl,rfl⟩:=hcut;have HW:=zhd hW;clear hW;go_wp2;go_loopg [6] m (λk s6 wr=>∃j F',j+k=m∧s6 = .int .i64 ((k:Int)-1)∧Wr wr p F' (M+2^L*revTo x m j) (L+j)∧Fr F w wr∧∀y∈F',y∈F∨w.heap.size≤y);case atStart=>exact⟨0,F,by omega,rfl,by simpa[revTo] using HW.out,Fr.refl _ _,λy hy=>.inl hy⟩
 case round=>
  obtain⟨j,F',hjk,rfl,hw1,hfr,hF⟩:=hrel;by_cases hk:gk=0
  ·subst hk;obtain rfl:j=m:=by omega
   go_wp2;go_end0;exact⟨rfl,hfr,F',hw1,hF⟩
  ·obtain⟨k,rfl⟩:∃k,gk=k+1:=⟨gk-1,by omega⟩;have hk0:(0:Int)≤(((k+1:Nat):Int)-1):=by omega
   have hd:x/2^k<4294967296:=qdr (Nat.div_le_self _ _) hx;have hd1:((x:Int)/2^k)=((x/2^k:Nat):Int):=by rw[qeh,<-qi6]
   have hd2:(0:Int)≤(x:Int)/2^k:=by rw[hd1];exact Int.natCast_nonneg _
   have hd3:(x:Int)/2^k<4294967296:=by rw[hd1];omega
   have Hd1:=zhd hd1;clear hd1;have hL2:L+j≤562949953421312:=by omega
   go_wp2_with (go_at_call 247;refine (qxn p F' _ (L+j) _ _ _ hw1 hd2 hd3 hL2).mono ?_;rintro e w' ⟨rfl,fr1,F1,hw2,hF1⟩);go_roundg k;case measure=>omega
   case rel=>
    have e1:j=m-1-k:=by omega
    have hm1:m-1-j=k:=by omega
    refine⟨j+1,F1,by omega,int_eq (by omega),?_,hfr.step fr1 hF,λy hy=>?_⟩
    ·have e3:((x:Int)/2^k).toNat=x/2^k:=by rw[Hd1.out,qdm]
     have hw3:Wr w' p F1 (M+2^L*revTo x m j+2^(L+j)*(x/2^k%2)) (L+j+1):=by simpa[e3] using hw2
     have e2:=qzu M L x m j;rw[hm1]at e2;rw[<-e2];exact hw3
    ·rcases hF1 y hy with h|h
     ·exact hF y h
     ·right;have:=hfr.size;omega
theorem qu5 (p:Nat) (F:List Nat) (M L:Nat) (w:World) (hW:Wr w p F M L) (hL:L≤562949953421200) :
  Calls Tryz.prog 252 #[.pointer (some ⟨p,0,none⟩)] w (WrPost p F w M ((L+7)/8*8)):=by
 have HW:=zhd hW;obtain⟨v,⟨hr,hown,hpb,hM⟩,rfl⟩:=hW;have c2:=cell_of hr 2;simp only[qag,qac,qaf]at c2;clear hr hown;by_cases h0:L%8=0
 ·have h1:decide ((0:Int)<((L%8:Nat):Int))=false:=by simp;omega
  go_enter Tryz.func252,Tryz.ntmps252;go_wp2;go_end0;refine⟨rfl,Fr.refl _ _,_,?_,λy hy=>.inl hy⟩;rw[show (L+7)/8*8=L from by omega];exact HW.out
 ·have h1:decide ((0:Int)<((L%8:Nat):Int))=true:=by simp;omega
  have hL2:L≤562949953421312:=by omega
  go_enter Tryz.func252,Tryz.ntmps252;go_wp2_with (go_at_call 247;refine (qxn p _ M L _ _ _ HW.out (by omega) (by omega) hL2).mono ?_;rintro e w' ⟨rfl,fr1,F1,hw2,hF1⟩);go_end0;refine⟨rfl,fr1,F1,?_,hF1⟩;have e1:(8-(L:Int)%8).toNat=8-L%8:=by omega
  have e2:L+min (8-L%8) 32=(L+7)/8*8:=by omega
  rw[<-e2];simpa[e1] using hw2
theorem qse (p:Nat) (F:List Nat) (M L:Nat) (ao:Option Addr) (cap:Nat) (bs:List UInt8) (w:World) (hW:Wr w p F M L) (hcs:Cs w ao (bs.map bv)) (hcap:bs.length≤cap) (hnone:ao=none→cap=0)
  (hap:bs≠[]→∀x∈blk ao,x∉F) (hL:L+8*bs.length≤562949953421200) :
  Calls Tryz.prog 251 #[.pointer (some ⟨p,0,none⟩),.slice ao bs.length cap] w (WrPost p F w (M+2^((L+7)/8*8)*num bs) ((L+7)/8*8+8*bs.length)):=by
 have hL1:L≤562949953421200:=by omega
 have hal:=qu5 p F M L w hW hL1;obtain⟨q,hq,hqL⟩:∃q,(L+7)/8=q∧8*q≤L+7:=⟨_,rfl,by omega⟩;rw[hq]at hal ⊢;have Hal:=zhd hal;clear hal hq;go_enter Tryz.func251,Tryz.ntmps251;go_upto_region 0 with fail;go_cut [] (λwc=>Fr F w wc∧∃F',Wr wc p F' M (q*8)∧∀y∈F',y∈F∨w.heap.size≤y);case first=>go_wp2_with (go_at_call 252;refine Hal.out.mono ?_;rintro e w' ⟨rfl,fr1,hw1⟩);go_meet;exact⟨fr1,hw1⟩
 case rest=>
 obtain⟨fr1,F',hW1,hF'⟩:=hcut;obtain⟨v,⟨hr,hown,hpb,hM⟩,rfl⟩:=hW1;rw[show q*8/8=q from by omega]at hown hr;rw[show q*8%8=0 from by omega]at hr;have hM8:M<2^(8*q):=by rwa [qcc]
 have hcs1:Cs wc ao (bs.map bv):=by
  by_cases hbs:bs=[]
  ·exact .inl (by rw[hbs];rfl)
  ·exact hcs.fr fr1 (hap hbs)
 have c0:=cell_of hr 0;have f0:=qau hr 0;simp only[qag,qac]at c0;have Hr:=zhd hr;clear hr;go_wp2_with (refine qba sliceU8 rfl _ _ rfl v q _ v.ownBlock.toList rfl rfl hown ao bs.length cap (bs.map bv) rfl hcap hnone hcs1 (by simp) (qc0 bs) (by omega) (by unfold maxLen;omega) ?_;intro ao1 cap1 w1 A1;have hb1:=A1.fr.blk Hr.out (by simpa using hpb);have d1:=cell_of hb1 0;have g1:=qau hb1 0;simp only[qag,qac]at d1);go_end0;have hne:(Value.slice ao1 (q+bs.length) cap1).ownBlock≠some p:=by
  intro h;have h2:=lt_of_block Hr.out;rcases A1.at_ p (by rw[<-qby ao1 (q+bs.length) cap1,h];simp) with h1|h1
  ·exact hpb (by simpa using h1)
  ·omega
 have fr2:Fr F w w1:=fr1.step A1.fr (λk hk=>hF' k (by simp[Option.mem_toList.1 hk]));refine⟨rfl,?_,_,⟨.slice ao1 (q+bs.length) cap1,⟨?_,?_,hne,?_⟩,rfl⟩,?_⟩
 ·exact fr2.setCell (by have:=hF' p (by simp);simpa using this) _
 ·refine (qax hb1 _).trans ?_;have hd:=zdm q M bs hM8;rw[show q*8+8*bs.length=8*(q+bs.length) from by omega,Nat.mul_div_cancel_left _ (by omega:0<8),Nat.mul_mod_right,show q*8=8*q from by omega,
   qi4 hM8,qi4 (by rw[qhl];exact hd)]
  rfl
 ·rw[show q*8+8*bs.length=8*(q+bs.length) from by omega,Nat.mul_div_cancel_left _ (by omega:0<8),show q*8=8*q from by omega,zev q M bs hM8,qbe];exact ownsRow_setCell_other A1.own hne _
 ·rw[show q*8=8*q from by omega];exact zdm q M bs hM8
 ·intro y hy;rcases qbh.1 hy with rfl|hy
  ·exact hF' _ (by simp)
  ·rw[qby]at hy;rcases A1.at_ y hy with h|h
   ·exact hF' y (by simp[Option.mem_toList.1 h])
   ·right;have:=fr1.size;omega
def BytesPost (M L:Nat) (w:World) (e:Ending) (w':World):Prop:=
 ∃ao,e = .returned (.slice ao ((L+7)/8) ((L+7)/8))∧Fresh w' w.heap.size 5 ao ((dig ((L+7)/8) M).map bv)∧(ao=none→(L+7)/8=0)∧(∀x∈blk ao,w.heap.size≤x)∧Fr [] w w'
theorem qu3 (p:Nat) (F:List Nat) (M L:Nat) (w:World) (hW:Wr w p F M L) (hL:L≤562949953421200) :
  Calls Tryz.prog 155 #[.pointer (some ⟨p,0,none⟩)] w (BytesPost M L w):=by
 obtain⟨v,⟨hr,hown,hpb,hM⟩,rfl⟩:=hW;obtain⟨ao,cap,rfl,hc1,hc2,hc3⟩:=qf4 hown;have hcs:=qd4 hown;obtain⟨q,hq⟩:∃q,L/8=q:=⟨_,rfl⟩;rw[hq]at hr hown hcs hpb hc1;have hlen:((dig q M).map bv).length=q*1:=by simp[qii]
 have c0:=cell_of hr 0;have c1:=cell_of hr 1;have c2:=cell_of hr 2;simp only[qag,qac,qaf]at c0 c1 c2;have Hr:=zhd hr;clear hr;have Hq:=zhd hq;have hq8:8*q≤L:=by omega
 clear hq;go_enter Tryz.func155,Tryz.ntmps155;go_upto_region 1 with fail;go_cut [3] (λs3 wc=>∃ao1 cap1,s3 = .slice ao1 q cap1∧Appended w wc 5 1 [] ao1 q cap1 ((dig q M).map bv));case first=>go_wp2_with (refine qba sliceU8 rfl _ _ rfl (.slice none 0 0) 0 [] [] rfl rfl (qch _ _ _ _) ao q cap _ rfl hc1 hc3 hcs hlen (qc0 _) (by omega) (by unfold maxLen;omega) ?_;intro ao1 cap1 w1 A1;simp only[qbg,qb4]at A1);go_meet;exact⟨ao1,cap1,rfl,A1⟩
 case rest=>
 obtain⟨ao1,cap1,rfl,A1⟩:=hcut;have hb1:=A1.fr.blk Hr.out (by simp);have d1:=cell_of hb1 1;have d2:=cell_of hb1 2;simp only[qag,qac,qaf]at d1 d2;have Hb1:=zhd hb1;clear hb1;by_cases h0:L%8=0
 ·have h1:decide ((0:Int)<((L%8:Nat):Int))=false:=by simp;omega
  have hle:=A1.le;go_wp2;all_goals go_ret
  all_goals
   have e:(L+7)/8=q:=by have:=Hq.out;omega
   have hb:∀x∈blk ao1,w.heap.size≤x:=λx hx=>by have:=A1.at_ x hx;simp at this;omega
   unfold BytesPost
   rw[e]
   exact⟨ao1,by first|rfl|simp,qgo A1.own hb,λh=>by have:=A1.nil h;omega,hb,A1.fr⟩
 ·have h1:decide ((0:Int)<((L%8:Nat):Int))=true:=by simp;omega
  have hbv:Value.int .u8 (IntKind.u8.wrap ((M/2^(8*q):Nat):Int))=bv (UInt8.ofNat (M/2^(8*q))):=quy _;obtain⟨W,hW⟩:∃W:Nat,W=M/2^(8*q):=⟨_,rfl⟩;rw[<-hW]at d1 hbv;rw[IntKind.wrap_u8']at hbv;have HW:=zhd hW;have Hbv:=zhd hbv;clear hW hbv;have hb:∀x∈blk ao1,w.heap.size≤x:=λx hx=>by have:=A1.at_ x hx;simp at this;omega
  have Hb:=zhd hb;clear hb c1;go_upto_region 3 with fail;go_cut [3] (λs3 wz=>∃ao2 cap2,s3 = .slice ao2 (q+1) cap2∧wz.ownsRow 0 5 1 (.slice ao2 (q+1) cap2) (q+1) ((dig (q+1) M).map bv)∧(∀x∈blk ao2,w.heap.size≤x)∧Fr [] w wz∧q+1≤cap2);case first=>
   go_wp2_with (refine qba sliceU8 rfl _ _ rfl (.slice ao1 q cap1) q _ (blk ao1) rfl (qby _ _ _) (A1.own.alloc _) _ 1 1 _ rfl (by decide) (by simp) (by exact qdp _ _ _ _ (qay _ _)) (by rfl) (by simp[Value.oneCell']) (by omega) (by unfold maxLen;omega) ?_;intro ao2 cap2 w2 A2);go_meet;have hsz:=A1.fr.size;refine⟨ao2,cap2,rfl,?_,λx hx=>?_,((A1.fr.alloc _).step A2.fr λx hx=>?_),A2.le⟩
   ·have h:=A2.own;rw[Hbv.out,HW.out]at h;rw[qur,qbe];exact h
   ·rcases A2.at_ x hx with h|h
    ·exact Hb.out x h
    ·simp at h;omega
   ·right;exact Hb.out x hx
  case rest=>
  obtain⟨ao2,cap2,rfl,own2,hb2,fr2,hle⟩:=hcut;have Hb2:=zhd hb2;clear hb2;go_wp2;all_goals go_ret
  all_goals
   have e:(L+7)/8=q+1:=by have:=Hq.out;omega
   unfold BytesPost
   rw[e]
   refine⟨ao2,by first|rfl|simp,qgo own2 Hb2.out,λh=>?_,Hb2.out,fr2⟩
   rcases own2.2 with⟨h3,_⟩|⟨g,cap,cur,h3,_⟩
   ·simp at h3
   ·subst h;simp at h3
end Go.Proofs.YtkmpfgpfbmeihaaGreatDoor.bits
namespace Go.Proofs.YtkmpfgpfbmeihaaGreatDoor.wb
open Go Go.RowKit lib bm bl
def Wb (w:World) (p:Nat) (F:List Nat) (l:List Bool):Prop:=bits.Wr w p F (bval l) l.length
def WbPost (p:Nat) (F:List Nat) (w:World) (l:List Bool) (e:Ending) (w':World):Prop:=
 e = .returned (.tuple #[])∧Fr F w w'∧∃F',Wb w' p F' l∧∀y∈F',y∈F∨w.heap.size≤y
theorem qj5 {w w':World} {p:Nat} {F S:List Nat} {l:List Bool} (h:Wb w p F l) (f:Fr S w w') (hn:∀x∈F,x∉S):Wb w' p F l:=bits.zg9 h f hn
theorem qu4 {w:World} {p:Nat} {F:List Nat} {l:List Bool} (h:Wb w p F l):∀x∈F,x<w.heap.size:=bits.zg8 h
theorem zey (p:Nat) (F:List Nat) (l:List Bool) (x:Nat) (n:Int) (w:World) (h:Wb w p F l) (hx:x<4294967296) (hL:l.length≤562949953421312) :
  Calls Tryz.prog 247 #[.pointer (some ⟨p,0,none⟩),.int .u32 x,.int .i64 n] w (WbPost p F w (l++lsb (min n.toNat 32) x)):=by
 have:=bits.qkh p F (bval l) l.length x n w h hx hL;refine this.mono λe w' ⟨h1,h2,F',h3,h4⟩=>⟨h1,h2,F',?_,h4⟩
 unfold Wb;rw[qed,qlo,qab,lsb_length];exact h3
theorem zg1 (p:Nat) (F:List Nat) (l:List Bool) (x:Nat) (n:Int) (w:World) (h:Wb w p F l) (hx:x<4294967296) (hL:l.length≤562949953421200) :
  Calls Tryz.prog 246 #[.pointer (some ⟨p,0,none⟩),.int .u32 x,.int .i64 n] w (WbPost p F w (l++msb (min n.toNat 32) x)):=by
 have:=bits.zc1 p F (bval l) l.length x n w h hx hL;refine this.mono λe w' ⟨h1,h2,F',h3,h4⟩=>⟨h1,h2,F',?_,h4⟩
 unfold Wb;rw[qed,zc5,qab,qet];exact h3
theorem zga (p:Nat) (F:List Nat) (l:List Bool) (ao:Option Addr) (cap:Nat) (bs:List UInt8) (w:World) (h:Wb w p F l) (hr:lib.Rd w ao cap bs) (hap:bs≠[]→∀x∈blk ao,x∉F)
  (hL:l.length+8*bs.length≤562949953421200) :
  Calls Tryz.prog 251 #[.pointer (some ⟨p,0,none⟩),.slice ao bs.length cap] w (WbPost p F w (padTo8 l++bytesBits bs)):=by
 have:=bits.qse p F (bval l) l.length ao cap bs w h hr.cs hr.le hr.nil hap hL;refine this.mono λe w' ⟨h1,h2,F',h3,h4⟩=>⟨h1,h2,F',?_,h4⟩
 unfold Wb;rw[qed,quw,qfy,qab,qef,qb1];exact h3
theorem qz2 (p:Nat) (F:List Nat) (l:List Bool) (w:World) (h:Wb w p F l) (h0:0<l.length) (hL:l.length≤562949953421200) :
  Calls Tryz.prog 155 #[.pointer (some ⟨p,0,none⟩)] w (NewBytes w (bytesOf l)):=by
 have:=bits.qu3 p F (bval l) l.length w h hL;refine this.mono λe w' ⟨ao,h1,h2,h3,h4,h5⟩=>⟨ao,by rw[bytesOf_length];exact h1,⟨h2.cs,qae _,by rw[bytesOf_length];unfold maxLen;omega,λhn=>by rw[bytesOf_length];exact h3 hn⟩,λx hx=>⟨h4 x hx,?_⟩,h5⟩
 rcases h2 with h2|⟨g,cur,rfl,_,hg,_⟩
 ·have:=congrArg List.length h2;rw[qap,qii,qbi]at this;omega
 ·simp[blk]at hx;rw[hx];exact lt_of_block hg
end Go.Proofs.YtkmpfgpfbmeihaaGreatDoor.wb
namespace Go.Proofs.YtkmpfgpfbmeihaaGreatDoor.defl
open Go Go.RowKit lib bm bl wb
theorem zfc (b:Bool):lsb 1 (if b then 1 else 0)=[b]:=by cases b<;>rfl
theorem qhc (p:Nat) (F:List Nat) (l:List Bool) (last:Bool) (kind:Nat) (w:World) (h:Wb w p F l) (hk:kind<4294967296) (hL:l.length≤562949953421000) :
  Calls Tryz.prog 243 #[.pointer (some ⟨p,0,none⟩),.bool last,.int .u32 kind] w (WbPost p F w (l++last::lsb 2 kind)):=by
 have h1:=zey p F l (if last then 1 else 0) 1 w h (by split<;>decide) (by omega);have h2:=λw F h=>zey p F (l++[last]) kind 2 w h hk (by rw[qab,qc9];omega)
 have e1:lsb (min (1:Int).toNat 32) (if last then 1 else 0)=[last]:=zfc last;have e2:lsb (min (2:Int).toNat 32) kind=lsb 2 kind:=rfl;rw[e1]at h1;simp only[e2,qas,List.singleton_append]at h2;unfold WbPost at h1 h2;have H:=zhd h2;clear h2 e1 e2 h;cases last with
 | true=>
  have H1:=zhd h1;clear h1;go_enter Tryz.func243,Tryz.ntmps243;go_upto_region 4 with (go_at_call 247;refine H1.out.mono ?_;rintro e w1 ⟨rfl,f1,F1,W1,n1⟩);have H2:=zhd3 f1 n1 (H.out w1 F1 W1);clear f1 n1 W1;go_wp2_with (go_at_call 247;refine H2.out.2.2.mono ?_;rintro e w2 ⟨rfl,f2,F2,W2,n2⟩);go_end0;unfold WbPost;exact⟨rfl,H2.out.1.step f2 (λy hy=>by rcases H2.out.2.1 y hy with k|k;exact .inl k;exact .inr k),F2,W2,λy hy=>by rcases n2 y hy with k|k;exact H2.out.2.1 y k;exact .inr (qar H2.out.1.size k)⟩
 | false=>have H1:=zhd h1;clear h1;go_enter Tryz.func243,Tryz.ntmps243;go_upto_region 4 with (go_at_call 247;refine H1.out.mono ?_;rintro e w1 ⟨rfl,f1,F1,W1,n1⟩);have H2:=zhd3 f1 n1 (H.out w1 F1 W1);clear f1 n1 W1;go_wp2_with (go_at_call 247;refine H2.out.2.2.mono ?_;rintro e w2 ⟨rfl,f2,F2,W2,n2⟩);go_end0;unfold WbPost;exact⟨rfl,H2.out.1.step f2 (λy hy=>by rcases H2.out.2.1 y hy with k|k;exact .inl k;exact .inr k),F2,W2,λy hy=>by rcases n2 y hy with k|k;exact H2.out.2.1 y k;exact .inr (qar H2.out.1.size k)⟩
def shead (n:Nat):List UInt8:=[UInt8.ofNat n,UInt8.ofNat (n/256),UInt8.ofNat (255-n%256),UInt8.ofNat (255-n/256%256)]
theorem xor255 (x:Nat) (h:x<256):bits .xor .u8 IntKind.u8.max ((x:Nat):Int)=((255-x:Nat):Int):=by
 have h1:∀x:Fin 256,bits .xor .u8 IntKind.u8.max (x.1:Int)=((255-x.1:Nat):Int):=by decide +kernel
 exact h1 ⟨x,h⟩
theorem qxa (n c1 c2:Nat) (h:n≤65535) (h1:c1=255-n%256) (h2:c2=255-n/256%256):(shead n).map bv=[.int .u8 ((n:Int)%256),.int .u8 ((n:Int)/256),.int .u8 c1,.int .u8 c2]:=by simp only[shead,qak,qam,bv,qcy];refine qft.2 ⟨int_eq (by omega),qft.2 ⟨int_eq (by omega),qft.2 ⟨int_eq (by omega),qft.2 ⟨int_eq (by omega),rfl⟩⟩⟩⟩
def storedBits (l:List Bool) (last:Bool) (b:List UInt8):List Bool:=padTo8 (l++last::lsb 2 0)++bytesBits (shead b.length)++bytesBits b
theorem qdf (l:List Bool) (last:Bool) (b:List UInt8):(storedBits l last b).length=(l.length+10)/8*8+32+8*b.length:=by unfold storedBits;rw[qab,qab,qef,qb1,qb1,qab,qao,lsb_length];show (l.length+(2+1)+7)/8*8+8*4+8*b.length=_;omega
theorem qqf (p:Nat) (F:List Nat) (l:List Bool) (last:Bool) (a:Option Addr) (cap:Nat) (b:List UInt8) (w:World) (h:Wb w p F l) (hr:lib.Rd w a cap b) (hap:b≠[]→∀x∈blk a,x∉F)
  (hL:l.length≤549755813888) (hb:b.length≤65535) :
  Calls Tryz.prog 250 #[.agg #[.slice a b.length cap],.pointer (some ⟨p,0,none⟩),.bool last] w (WbPost p F w (storedBits l last b)):=by
 obtain⟨n,hn⟩:=zex b.length;have hle:=hr.le;rw[<-hn]at hle hb ⊢;have f0:Fr [] w (w.alloc (.cells #[.slice a n cap] 238)):=(Fr.refl [] w).alloc _;have hz0:(w.alloc (.cells #[.slice a n cap] 238)).heap.size=w.heap.size+1:=qa1 _ _;have hbx:=qay w (.cells #[.slice a n cap] 238);have hh:=qhc p F l last 0 _ (qj5 h f0 (by simp)) (by decide) (by omega);unfold WbPost at hh;have hlt:=qu4 h;have H:=zhd7 hh f0 hbx (And.intro hr hap) hn hlt hz0;clear hh f0 hbx hr hap hn hlt hz0 h;go_enter Tryz.func250,Tryz.ntmps250;go_upto_region 2 with (go_at_call 243;refine H.o0.mono ?_;rintro e w1 ⟨rfl,f1,F1,W1,n1⟩);obtain⟨B,hB⟩:=zex w.heap.size;have hBF:B∉F:=λhm=>by have:=H.o5 B hm;omega
 have hb1:=f1.blk H.o2 (by rw[<-hB];exact hBF);rw[<-hB]at hb1 ⊢;have cb1:=cell_of hb1 0;simp only[qag,qac]at cb1;have H1:=zhd5 f1 n1 W1 hb1 hB;clear f1 n1 W1 hb1 hB;obtain⟨c1,hc1⟩:∃c,c=255-n%256:=⟨_,rfl⟩;obtain⟨c2,hc2⟩:∃c,c=255-n/256%256:=⟨_,rfl⟩;have x1:bits .xor .u8 IntKind.u8.max ((n:Int)%256)=(c1:Int):=by have:=xor255 (n%256) (by omega);rw[hc1,<-this];rfl
 have x2:bits .xor .u8 IntKind.u8.max ((n:Int)/256)=(c2:Int):=by have:=xor255 (n/256) (by omega);rw[hc2,show n/256%256=n/256 from by omega,<-this];rfl
 have hm:=qxa n c1 c2 hb hc1 hc2;have hr4:lib.Rd (w1.alloc (.cells #[.int .u8 ((n:Int)%256),.int .u8 ((n:Int)/256),.int .u8 c1,.int .u8 c2] 5)) (some ⟨w1.heap.size,0,none⟩) 4 (shead n):=
  ⟨by rw[hm];exact qhk w1 _ _ _,qae _,by decide,λh=>by cases h⟩
 have f2:Fr [] w1 (w1.alloc (.cells #[.int .u8 ((n:Int)%256),.int .u8 ((n:Int)/256),.int .u8 c1,.int .u8 c2] 5)):=(Fr.refl [] w1).alloc _;have hlen:(l++last::lsb 2 0).length=l.length+3:=by rw[qab,qao,lsb_length]
 have hraw:=zga p F1 (l++last::lsb 2 0) _ 4 (shead n) _ (qj5 H1.out.2.2.1 f2 (by simp)) hr4 (λ_ x hx hm=>by have:=qu4 H1.out.2.2.1 x hm;simp[blk]at hx;omega) (by rw[hlen];show _+8*4≤_;omega);unfold WbPost at hraw;have H2:=zhd3 hraw f2 hlen;clear hc1 hc2 hm hr4 f2 hraw hlen;go_upto_region 4 with (go_at_call 251;refine H2.o0.mono ?_;rintro e w3 ⟨rfl,f3,F3,W3,n3⟩);have fAll:Fr F w w3:=((H.o1.mono (by simp)).step H1.out.1 (λy hy=>.inl hy)).step (H2.o1.mono (T:=F1) (by simp) |>.trans f3) (λy hy=>by
  rcases H1.out.2.1 y hy with k|k
  ·exact .inl k
  ·right
   have:=H.l6
   omega)
 have hBF:B∉F1:=λhm=>by
  have k1:=H1.out.2.2.2.2;rcases H1.out.2.1 B hm with k|k
  ·have:=H.o5 B k;omega
  ·have:=H.l6;omega
 have hb3:=f3.blk (H2.o1.blk H1.out.2.2.2.1 (by simp)) hBF;have cb3:=cell_of hb3 0;simp only[qag,qac]at cb3;have hnF:∀y∈F3,y∈F∨w.heap.size≤y:=λy hy=>by
  have k0:=H.l6;have k3:=H1.out.1.size;have k4:=H2.o1.size;rcases n3 y hy with k|k
  ·rcases H1.out.2.1 y k with k2|k2
   ·exact .inl k2
   ·right;omega
  ·right;omega
 have hrd3:lib.Rd w3 a cap b:=qhj H.o3.1 fAll H.o3.2;have hraw:=zga p F3 _ a cap b w3 W3 hrd3 (λhne x hx hm=>by
  rcases hnF x hm with k|k
  ·exact H.o3.2 hne x hx k
  ·have:=qmj H.o3.1 hne x hx;omega) (by
   rw[qab,qef,qb1,H2.l2,<-H.o4]
   show (l.length+3+7)/8*8+8*4+8*n≤_
   omega)
 have hp8:padTo8 (padTo8 (l++last::lsb 2 0)++bytesBits (shead n))++bytesBits b=storedBits l last b:=by rw[qxq _ (by rw[qab,qef,qb1];omega),storedBits,<-H.o4]
 rw[hp8,<-H.o4]at hraw;unfold WbPost at hraw;have H3:=zhd3 hraw fAll hnF;clear hraw fAll hnF hrd3 hp8 f3 n3 W3 hb3 cb1;go_wp2_with (go_at_call 251;refine H3.o0.mono ?_;rintro e w4 ⟨rfl,f4,F4,W4,n4⟩);go_end0;unfold WbPost;refine⟨rfl,H3.o1.step f4 H3.l2,F4,W4,λy hy=>?_⟩;rcases n4 y hy with k|k
 ·exact H3.l2 y k
 ·exact .inr (qar H3.o1.size k)
end Go.Proofs.YtkmpfgpfbmeihaaGreatDoor.defl
namespace Go.Proofs.YtkmpfgpfbmeihaaGreatDoor.lib
open Go Go.RowKit Go.ChangeShapes Go.WideShapes
structure Rv where
 ao:Option Addr
 cap:Nat
 bs:List UInt8
def Rv.val (r:Rv):Value:=.slice r.ao r.bs.length r.cap
end Go.Proofs.YtkmpfgpfbmeihaaGreatDoor.lib
namespace Go.Proofs.YtkmpfgpfbmeihaaGreatDoor.defl
open Go Go.RowKit lib bm bl wb
def sval (r:Rv):Value:=.iface 238 (.agg #[.slice r.ao r.bs.length r.cap])
def storedAll (l:List Bool):List (List UInt8)→List Bool
 | []=>l
 | b::t=>storedAll (storedBits l (t.isEmpty) b) t
theorem qk2:∀(t:List (List UInt8)) (l:List Bool),l.length≤(storedAll l t).length
 | [],_=>qae _
 | b::t,l=>by have:=qk2 t (storedBits l t.isEmpty b);rw[qdf]at this;rw[storedAll];omega
theorem qo3 (t:List (List UInt8)) (l:List Bool) (h:0<t.length):0<(storedAll l t).length:=by
 cases t with
 | nil=>simp at h
 | cons b t=>have:=qk2 t (storedBits l t.isEmpty b);rw[qdf]at this;rw[storedAll];omega
theorem zdg (w:World):Wb (w.alloc (.cells #[.slice none 0 0,.int .u64 0,.int .i64 0] 245)) w.heap.size [w.heap.size] []:=
 ⟨.slice none 0 0,⟨qay w _,qch _ _ _ _,by simp[Value.ownBlock],by decide⟩,rfl⟩
theorem qnp (a:Option Addr) (cap:Nat) (rows:List Rv) (w:World) (hcs:Cs w a (rows.map sval)) (hle:rows.length≤cap) (hcap:cap≤maxLen)
  (hrow:∀r∈rows,lib.Rd w r.ao r.cap r.bs∧r.bs.length≤65535) (h0:0<rows.length) (hn:rows.length≤100000) :
  Calls Tryz.prog 128 #[.slice a rows.length cap] w (NewBytes w (bytesOf (storedAll [] (rows.map Rv.bs)))):=by
 obtain⟨n,hnn⟩:=zex rows.length;rw[<-hnn]at hle h0 hn ⊢;unfold maxLen at hcap;obtain⟨g0,o0,rfl,hc⟩:=hcs.at (by rw[qap];omega);have H:=zhd3 hc hrow hnn;clear hc hrow hnn hcs;go_enter Tryz.func128,Tryz.ntmps128;go_upto_block 0 with fail;obtain⟨p,hp⟩:=zex w.heap.size;have w0:=zdg w;have f0:Fr [] w (w.alloc (.cells #[.slice none 0 0,.int .u64 0,.int .i64 0] 245)):=(Fr.refl [] w).alloc _;rw[<-hp]at w0 ⊢;have H0:=zhd3 w0 f0 hp;clear w0 f0 hp;go_wp2;go_loopg [4,5,6,7,10] n (λk s4 s5 s6 s7 s10 wr=>∃(i:Nat) (F:List Nat) (l:List Bool),s10 = .int .i64 (i:Nat)∧i+k=n∧Wb wr p F l∧Fr [] w wr∧(∀x∈F,w.heap.size≤x)∧l.length≤i*524360∧storedAll l ((rows.drop i).map Rv.bs)=storedAll [] (rows.map Rv.bs));case atStart=>exact⟨0,[p],[],rfl,by omega,H0.o0,H0.o1,λx hx=>by simp at hx;rw[hx,H0.l2];exact qae _,qae _,rfl⟩
 case round=>
  obtain⟨i,F,l,rfl,hik,hW,hf,hF,hl,hall⟩:=hrel;by_cases hi:i<n
  ·obtain⟨k,rfl⟩:∃k,gk=k+1:=⟨gk-1,by omega⟩;have hir:i<rows.length:=by rw[<-H.out.2.2];exact hi
   have hci:=hf.cell (H.out.1 i (sval rows[i]) (by rw[qbl,qai hir];rfl)) (by simp);obtain⟨hrd,hlen⟩:=H.out.2.1 rows[i] (qdj hir);unfold sval at hci;have hdr:(rows.drop i).map Rv.bs=rows[i].bs::(rows.drop (i+1)).map Rv.bs:=by rw[qcg hir,qak]
   rw[hdr,storedAll]at hall;obtain⟨b,hb⟩:=zex (rows[i].bs);obtain⟨ba,hba⟩:∃b,b=rows[i].ao:=⟨_,rfl⟩;obtain⟨bc,hbc⟩:∃b,b=rows[i].cap:=⟨_,rfl⟩;obtain⟨bn,hbn⟩:∃n,n=b.length:=⟨_,rfl⟩;rw[<-hb]at hci hrd hlen hall;rw[<-hba,<-hbc,<-hbn]at hci;rw[<-hba,<-hbc]at hrd;rw[<-hbn]at hlen;have HR:=zhd3 hrd hbn hall;have HW:=zhd4 hW hf hF hl;clear hrd hbn hall hW hf hF hl hdr hb hba hbc;have d1:decide ((65535:Int)<bn)=false:=by simp;omega
   have hta:∀w:World,(Instr.typeAssert (.iface 238 (.agg #[.slice ba bn bc])) 247 238 true).run Tryz.prog w = .ok (.tuple #[.agg #[.slice ba bn bc],.bool true]) w:=λ_=>by kernel_rfl
   have hme:∀(f:Nat) (w:World),(method (f+1) 238 (.agg #[.slice ba bn bc]) "stemma/deflate.write").run Tryz.prog w = .ok (250,.agg #[.slice ba bn bc]) w:=λ_ _=>by kernel_rfl
   have hlast:((i:Int)==(n:Int)-1)=((rows.drop (i+1)).map Rv.bs).isEmpty:=by rw[Bool.eq_iff_iff,List.isEmpty_iff];simp only[beq_iff_eq,List.map_eq_nil_iff,List.drop_eq_nil_iff,<-H.out.2.2];omega
   obtain⟨lst,hlst⟩:∃b,b=((rows.drop (i+1)).map Rv.bs).isEmpty:=⟨_,rfl⟩;rw[<-hlst]at hlast;have f1:Fr [] wr (wr.alloc (.cells #[.slice ba bn bc] 238)):=(Fr.refl [] wr).alloc _;have hz1:(wr.alloc (.cells #[.slice ba bn bc] 238)).heap.size=wr.heap.size+1:=qa1 _ _;have hsw:=qqf p F l lst ba bc b _ (qj5 HW.o0 f1 (by simp)) ((HR.o0.fr HW.o1).fr f1) (λhne x hx hm=>by have:=qmj HR.o0 hne x hx;have:=HW.o2 x hm;omega) (by have:=HW.l3;omega) (by rw[<-HR.o1];exact hlen);rw[<-HR.o1]at hsw;unfold WbPost at hsw;have HS:=zhd4 hsw f1 hz1 hlst;clear hsw f1 hz1 hlst;go_wp2_with (go_at_call 250;refine HS.o0.mono ?_;rintro e w2 ⟨rfl,f2,F2,W2,n2⟩;have H2:=zhd3 f2 W2 n2;clear f2 W2 n2);go_roundg k;case measure=>omega
   case rel=>
    have k1:=HW.o1.size;have k2:=HS.o2;refine⟨i+1,F2,storedBits l lst b,by go_num,by omega,H2.out.2.1,(HW.o1.trans HS.o1).step H2.out.1 (λy hy=>.inr (HW.o2 y hy)),λy hy=>?_,?_,?_⟩
    ·rcases H2.out.2.2 y hy with h|h
     ·exact HW.o2 y h
     ·omega
    ·rw[qdf,<-HR.o1];have:=HW.l3;omega
    ·rw[HS.l3];exact HR.l2
  ·obtain rfl:i=n:=by omega
   have hdn:rows.drop i=[]:=qc3 (by rw[<-H.out.2.2];exact qae _);rw[hdn]at hall;have hby:=qz2 p F l wr hW (by
    have:0<l.length:=by
     rw[<-show storedAll l (List.map Rv.bs [])=l from rfl,hall]
     exact qo3 _ _ (by rw[qap,<-H.out.2.2];exact h0)
    exact this) (by omega)
   have e:bytesOf l=bytesOf (storedAll [] (rows.map Rv.bs)):=by rw[<-hall];rfl
   rw[e]at hby;unfold NewBytes at hby;have HB:=zhd2 hby hf;clear hby hW hf hF hl hall hdn e;go_wp2_with (go_at_call 155;refine HB.o0.mono ?_;rintro e w2 ⟨a2,rfl,r2,n2,f2⟩);go_ret;unfold NewBytes;exact⟨a2,rfl,r2,λx hx=>⟨qar HB.l1.size (n2 x hx).1,(n2 x hx).2⟩,HB.l1.trans f2⟩
def chunks:Nat→List UInt8→List (List UInt8)
 | 0,b=>[b]
 | f+1,b=>if 65535<b.length then b.take 65535::chunks f (b.drop 65535) else [b]
theorem qro {f:Nat} {b:List UInt8} (h:b.length≤65535):chunks f b=[b]:=by
 cases f with
 | zero=>rfl
 | succ f=>rw[chunks,if_neg (by omega)]
def plainBits (b:List UInt8):List Bool:=storedAll [] (chunks b.length b)
def plainBytes (b:List UInt8):List UInt8:=bytesOf (plainBits b)
theorem blockTy:SliceTy Tryz.prog 201 247 .nilIface 1 16:=SliceTy.of Tryz.underlying201 (by kernel_rfl) rfl (by decide)
structure Pl (w wr:World) (rows:List Rv) (ao:Option Addr) (c:Nat):Prop where
 own:wr.ownsRow 0 247 1 (.slice ao rows.length c) rows.length (rows.map sval)
 fr:Fr [] w wr
 new:∀x∈blk ao,w.heap.size≤x
 row:∀r∈rows,lib.Rd w r.ao r.cap r.bs∧r.bs.length≤65535
theorem Pl.push {w wr w2:World} {rows:List Rv} {ao a2:Option Addr} {c c2 n:Nat} (h:Pl w wr rows ao c) (r:Rv) (o:Obj) (hn:rows.length=n) (hr:lib.Rd w r.ao r.cap r.bs∧r.bs.length≤65535)
  (A:Appended (wr.alloc o) w2 247 1 (blk ao) a2 (n+1) c2 (rows.map sval++[sval r])):Pl w w2 (rows++[r]) a2 c2:=by
 have f1:Fr [] wr (wr.alloc o):=(Fr.refl [] wr).alloc o;refine⟨by rw[qab,qc9,qbe,hn];exact A.own,(h.fr.trans f1).step A.fr λy hy=>.inr (h.new y hy),λy hy=>?_,λx hx=>?_⟩
 ·rcases A.at_ y hy with k|k
  ·exact h.new y k
  ·have:=h.fr.size;rw[qa1]at k;omega
 ·rcases qbu.1 hx with k|k
  ·exact h.row x k
  ·rw[qa2.1 k];exact hr
theorem za5 {m n rl t n2 r2:Nat} (h:n*m+rl=t) (hb:m≤rl) (h1:n2=n+1) (h2:r2=rl-m):n2*m+r2=t:=by subst h1 h2;rw[Nat.succ_mul];omega
theorem qqs (a:Option Addr) (cap:Nat) (b:List UInt8) (w:World) (h:lib.Rd w a cap b) (hlen:b.length≤1000000) :
  Calls Tryz.prog 125 #[.slice a b.length cap] w (NewBytes w (plainBytes b)):=by
 have H:=zhd h;clear h;go_enter Tryz.func125,Tryz.ntmps125;go_upto_block 0 with fail;go_wp2;go_loopg [0,3] b.length (λk s0 s3 wr=>∃(a0 ao:Option Addr) (c0 c rl n:Nat) (rem:List UInt8) (rows:List Rv),s0 = .slice a0 rl c0∧s3 = .slice ao n c∧rl=rem.length∧n=rows.length∧lib.Rd w a0 c0 rem∧Pl w wr rows ao c∧rem.length≤k∧rows.map Rv.bs++chunks k rem=chunks b.length b∧rows.length*65535+rem.length=b.length);case atStart=>exact⟨a,none,cap,0,b.length,0,b,[],rfl,rfl,rfl,rfl,H.out,⟨qch _ _ _ _,Fr.refl _ _,by simp[blk],by simp⟩,qae _,rfl,by simp⟩
 case round=>
  obtain⟨a0,ao,c0,c,rl,n,rem,rows,rfl,rfl,hrl,hn,hrd,hp,hk,hch,hsum⟩:=hrel;have hle:=hrd.le;rw[<-hrl]at hle hk hsum;rw[<-hn]at hsum;have HP:=zhd5 hrd hp hrl hn hch;obtain⟨_,_,hsh,o1,o2,o3⟩:=qf4 hp.own;simp only[qbp]at hsh;obtain⟨rfl,_,rfl⟩:=hsh;rw[<-hn]at o1;clear hrd hp hrl hn hch;by_cases hbig:65535<rl
  ·have d1:decide ((65535:Int)<rl)=true:=by simp;omega
   obtain⟨k,rfl⟩:∃k,gk=k+1:=⟨gk-1,by omega⟩;obtain⟨m,hm⟩:∃m:Nat,m=65535:=⟨_,rfl⟩;have hsl:=λw=>qdy bits.sliceU8 65535 a0 rl c0 65535 rfl (by omega) w
   have hsl2:=λw=>qd2 bits.sliceU8 65535 a0 rl c0 65535 rfl (by omega) hle w
   obtain⟨rs,hrs⟩:∃rs:Rv,rs=⟨a0,c0,rem.take 65535⟩:=⟨_,rfl⟩;have hrsv:sval rs = .iface 238 (.agg #[.slice a0 65535 c0]):=by rw[hrs,sval];simp only[qaq];rw[<-HP.o2,qc6 (by omega)]
   have hrr:lib.Rd w rs.ao rs.cap rs.bs∧rs.bs.length≤65535:=by rw[hrs];exact⟨HP.o0.take 65535,by simp only[qaq];omega⟩
   have HR:=zhd3 hrsv hrr hrs;clear hrsv hrr hrs hm;go_wp2_with (refine qba blockTy rfl _ _ rfl (.slice ao n c) n (rows.map sval) (blk ao) rfl (qby _ _ _) (by rw[HP.o3];exact HP.o1.own.alloc _) (some ⟨wr.heap.size,0,none⟩) 1 1 [sval rs] rfl (by omega) (by simp) (by rw[HR.o0];exact qhk wr _ _ _) rfl (by simp[sval,Value.oneCell']) (by omega) (by unfold maxLen;omega) ?_;intro a2 c2 w6 A2;have HA:=zhd A2;clear A2);go_roundg k;case measure=>omega
   case rel=>refine⟨_,a2,_,c2,rl-65535,n+1,rem.drop 65535,rows++[rs],rfl,rfl,by rw[qav,HP.o2],by rw[qab,HP.o3];rfl,HP.o0.drop 65535 (by rw[<-HP.o2];omega),HP.o1.push rs _ HP.o3.symm HR.o1 HA.out,by rw[qav,<-HP.o2];omega,?_,za5 hsum (by omega) (by rw[qab,<-HP.o3,qc9]) (by rw[qav,<-HP.o2])⟩;have h1:=HP.l4;rw[chunks,if_pos (by rw[<-HP.o2];exact hbig)]at h1;rw[qbe,qas,<-h1,HR.l2];rfl
  ·have d1:decide ((65535:Int)<rl)=false:=by simp;omega
   obtain⟨rs,hrs⟩:∃rs:Rv,rs=⟨a0,c0,rem⟩:=⟨_,rfl⟩;have hrsv:sval rs = .iface 238 (.agg #[.slice a0 rl c0]):=by rw[hrs,sval,HP.o2]
   have hrr:lib.Rd w rs.ao rs.cap rs.bs∧rs.bs.length≤65535:=by rw[hrs];exact⟨HP.o0,by rw[<-HP.o2];omega⟩
   have hch:(rows++[rs]).map Rv.bs=chunks b.length b:=by have h1:=HP.l4;rw[qro (by rw[<-HP.o2];omega)]at h1;rw[qbe,<-h1,hrs];rfl
   have HR:=zhd3 hrsv hrr hch;clear hrsv hrr hrs hch;go_wp2_with ((refine qba blockTy rfl _ _ rfl (.slice ao n c) n (rows.map sval) (blk ao) rfl (qby _ _ _) (by rw[HP.o3];exact HP.o1.own.alloc _) (some ⟨wr.heap.size,0,none⟩) 1 1 [sval rs] rfl (by omega) (by simp) (by rw[HR.o0];exact qhk wr _ _ _) rfl (by simp[sval,Value.oneCell']) (by omega) (by unfold maxLen;omega) ?_;intro a2 c2 w6 A2;have HP2:=zhd (HP.o1.push rs _ HP.o3.symm HR.o1 A2);have o21:=A2.le;have o22:=A2.max;clear A2));have hwr:Calls Tryz.prog 128 #[.slice a2 (n+1) c2] w6 (NewBytes w6 (plainBytes b)):=by have h:=qnp a2 c2 (rows++[rs]) w6 (qhe HP2.out.own) (by rw[qab,<-HP.o3];exact o21) o22 (λr hr=>⟨((HP2.out.row r hr).1).fr HP2.out.fr,(HP2.out.row r hr).2⟩) (by rw[qab,qc9];omega) (by rw[qab,<-HP.o3,qc9];omega);rw[HR.l2,qab,<-HP.o3]at h;exact h
   unfold NewBytes at hwr;refine hwr.mono ?_;rintro e w7 ⟨a7,rfl,r7,n7,f7⟩;go_wp2;go_ret;unfold NewBytes;exact⟨a7,rfl,r7,λx hx=>⟨qar HP2.out.fr.size (n7 x hx).1,(n7 x hx).2⟩,HP2.out.fr.trans f7⟩
theorem zbk (a:Option Addr) (cap:Nat) (b:List UInt8) (level:Int) (w:World) (h:lib.Rd w a cap b) (hlen:b.length≤1000000) (hl:level≤0) :
  Calls Tryz.prog 103 #[.slice a b.length cap,.int .i64 level] w (NewBytes w (plainBytes b)):=by
 have hp:=qqs a cap b w h hlen;unfold NewBytes at hp;have H:=zhd hp;have d0:decide (level≤0)=true:=by simpa using hl
 clear hp h;go_enter Tryz.func103,Tryz.ntmps103;go_wp2_with (go_at_call 125;refine H.out.mono ?_;rintro e w1 ⟨a1,rfl,r1,n1,f1⟩);go_ret;unfold NewBytes;exact⟨a1,rfl,r1,n1,f1⟩
def zsec (level:Int):UInt8:=if level≤0 then 1 else if level=1 then 94 else 156
def zlibOf (level:Int) (r b:List UInt8):List UInt8:=[120,zsec level]++r++sums.be4 (sums.adler b)
theorem zd2 (a:Option Addr) (cap:Nat) (b:List UInt8) (Qr:List UInt8→Prop) (level:Int) (w:World) (h:lib.Rd w a cap b) (hrl:∀r,Qr r→r.length≤100000000)
  (hraw:∀w',Fr [] w w'→Calls Tryz.prog 103 #[.slice a b.length cap,.int .i64 level] w' λe w''=>∃r,Qr r∧NewBytes w' r e w'') :
  Calls Tryz.prog 67 #[.slice a b.length cap,.int .i64 level] w λe w'=>∃r,Qr r∧NewBytes w (zlibOf level r b) e w':=by
 obtain⟨Q,hQ⟩:=zex w.heap.size;have f0:Fr [] w (w.alloc (.cells #[.int .u8 120,.int .u8 156] 5)):=(Fr.refl [] w).alloc _;have hb0:(w.alloc (.cells #[.int .u8 120,.int .u8 156] 5)).heap[Q]?=some (.cells #[.int .u8 120,.int .u8 156] 5 (0,0)):=by rw[hQ];exact qay w _
 have c1:=cell_of hb0 1;have z1:=qau hb0 1;simp only[qag,qac,qaf]at c1;have H:=zhd5 h hraw hQ f0 hb0;clear h hraw f0 hb0;go_enter Tryz.func67,Tryz.ntmps67;go_upto_block 0 with fail;rw[<-hQ];generalize (w.alloc (.cells #[.int .u8 120,.int .u8 156] 5))=w0 at *;clear hQ;go_cut [] from 8 to 18 (λwz=>wz.heap[Q]?=some (.cells #[.int .u8 120,bv (zsec level)] 5 (0,0))∧Fr [] w wz)
 case first=>
  by_cases hl:level≤0
  ·have d0:decide (level≤0)=true:=by simpa using hl
   have hz:zsec level=1:=if_pos hl;have HZ:=zhd hz;clear hz;go_wp2;go_meet;rw[HZ.out];exact⟨qax (o:=1) H.l4 _,H.o3.setCell (by right;show w.heap.size≤Q;rw[H.o2];exact qae _) _⟩
  ·have d0:decide (level≤0)=false:=by simp;omega
   by_cases h1:level=1
   ·subst h1;go_wp2;go_meet;exact⟨qax (o:=1) H.l4 _,H.o3.setCell (by right;show w.heap.size≤Q;rw[H.o2];exact qae _) _⟩
   ·have d1:(level==1)=false:=by simpa using h1
    have hz:zsec level=156:=by unfold zsec;rw[if_neg hl,if_neg h1]
    have HZ:=zhd hz;clear hz;go_wp2;go_meet;rw[HZ.out];exact⟨H.l4,H.o3⟩
 case rest=>
 obtain⟨hbq,hfq⟩:=hcut;obtain⟨w1,rfl⟩:∃w1:World,w1=wc:=⟨_,rfl⟩;have hr:=H.o1 w1 hfq;unfold NewBytes at hr;have H1:=zhd3 hbq hfq hr;have HRL:=zhd hrl;clear hbq hfq hr c1 z1 hrl;go_upto_region 7 with (first|(go_at_call 103;refine H1.l2.mono ?_;rintro e w2 ⟨r,hq,a2,he,r2,n2,f2⟩;obtain⟨L,hL⟩:∃L,L=r.length:=⟨_,rfl⟩;rw[<-hL]at he r2;subst he;have hrl:=HRL.out r hq;rw[<-hL]at hrl;have HL:=zhd hL;have HQ:=zhd hq;clear hL hq;have H2:=zhd3 r2 n2 f2;clear r2 n2 f2)|(refine qcn bits.sliceU8 rfl _ _ rfl (some ⟨Q,0,none⟩) 2 2 [.int .u8 120,bv (zsec level)] rfl (.inr ⟨Q,0,_,rfl,H2.l2.blk H1.o0 (by simp),qae _,by decide,qae _,rfl⟩) rfl a2 L L (r.map bv) rfl (qae _) H2.o0.nil H2.o0.cs (by rw[qap,HL.out]) (bits.qc0 _) (by omega) (by unfold maxLen;omega) ?_;intro a3 c3 w3 A3;have H3:=zhd A3;clear A3));have f03:Fr [] w w3:=(H1.o1.trans H2.l2).step H3.out.fr (λy hy=>.inr (by simp[blk]at hy;rw[hy,H.o2];exact qae _));have hQ2:Q<w1.heap.size:=lt_of_block H1.o0;have n3:∀x∈blk a3,w.heap.size≤x:=λx hx=>by
  have h1:=H2.l2.size;have h2:=H.o2;rcases H3.out.at_ x hx with k|k
  ·simp[blk]at k;omega
  ·omega
 have had:=sums.qry a cap b w3 (H.o0.fr f03);have hbe:=sums.qtd (sums.adler b) (sums.qj0 b);have hxl:=sums.qj0 b;obtain⟨x,hx⟩:=zex (sums.adler b);rw[<-hx]at had hbe hxl;have H4:=zhd5 f03 n3 had hbe hx;clear f03 n3 had hbe hQ2 hx;go_upto_region 8 with (go_at_call 104;refine H4.o2.mono ?_;rintro e w4 ⟨rfl,f4⟩);have f5:Fr [] w4 (w4.alloc (.cells #[.int .u8 ((x:Int)/16777216),.int .u8 ((x:Int)/65536%256),.int .u8 ((x:Int)/256%256),.int .u8 ((x:Int)%256)] 5)):=(Fr.refl [] w4).alloc _;have o5:=(H3.out.own.fr f4 (by simp)).fr f5 (by simp);have H5:=zhd3 f5 o5 f4;clear f5 o5 f4;have hc3:=H5.o1.shape;have hc4:2+L≤c3:=by have:=hc3.1;simp only[qab,qao,qbi,qap]at this;rw[HL.out];omega
 obtain⟨N,hN⟩:=zex (2+L+4);clear hc3;go_upto_region 9 with (refine qcn bits.sliceU8 rfl _ _ rfl a3 (2+L) c3 ([.int .u8 120,bv (zsec level)]++r.map bv) rfl H5.o1 (by simp only[qab,qao,qbi,qap];rw[HL.out]) (some ⟨w4.heap.size,0,none⟩) 4 4 ((sums.be4 x).map bv) rfl (by omega) (by simp) (by rw[H4.o3];exact qhk w4 _ _ _) rfl (bits.qc0 _) (by omega) (by unfold maxLen;omega) ?_;intro a6 c6 w6 A6;have H6:=zhd A6;clear A6);rw[<-hN];have hzl:(zlibOf level r b).map bv=[.int .u8 120,bv (zsec level)]++r.map bv++(sums.be4 x).map bv:=by unfold zlibOf;rw[qbe,qbe,<-H4.l4];rfl
 have hzn:(zlibOf level r b).length=N:=by unfold zlibOf;rw[qab,qab,<-HL.out,hN];rfl
 have ho:=H6.out.own;rw[<-hzl]at ho;obtain⟨s1,s2,s3⟩:=ho.shape;rw[qap,hzn]at s1;have hsl:=λw=>qgn bits.sliceU8 N a6 c6 s1 w
 have HZ:=zhd2 ho hzn;clear ho hzn hzl hN;go_wp2;go_ret;unfold NewBytes;have hz4:w4.heap.size≤w6.heap.size:=qar H5.o0.size H6.out.fr.size;refine⟨r,HQ.out,?_⟩;rw[HZ.out.2];refine⟨a6,rfl,⟨HZ.out.1.cs,by rw[HZ.out.2];exact qae _,qar s1 s2,λh=>by have:=s3 h;omega⟩,λy hy=>⟨?_,HZ.out.1.lt y hy⟩,(H4.o0.trans H5.l2).step (H5.o0.mono (T:=blk a3) (by simp) |>.trans (H6.out.fr)) (λy hy=>.inr (H4.o1 y hy))⟩;have k0:=H4.o0.size;have k1:=H5.l2.size;have k2:=H5.o0.size;rcases H6.out.at_ y hy with k|k
 ·exact H4.o1 y k
 ·omega
open mat huf
def sbits (ls:List Nat) (s:Nat):List Bool:=msb (lenAt ls s) (codeAt ls s)
def tbits (ll dl:List Nat):Tok→List Bool
 | .lit c=>sbits ll c.toNat
 | .mat n d=>sbits ll (lcode n).1++lsb (lcode n).2.2 (lcode n).2.1++sbits dl (dcode d).1++lsb (dcode d).2.2 (dcode d).2.1
def tsbits (ll dl:List Nat) (t:List Tok):List Bool:=t.flatMap (tbits ll dl)
theorem qh6 (ll dl:List Nat) (t:List Tok) (x:Tok):tsbits ll dl (t++[x])=tsbits ll dl t++tbits ll dl x:=by simp[tsbits]
theorem qeb (ls:List Nat) (hle:∀l∈ls,l≤15) (s:Nat):(sbits ls s).length≤15:=by
 unfold sbits;rw[qet];unfold lenAt;cases h:ls[s]? with
 | none=>simp
 | some x=>simpa[h] using hle x (qa8 h)
theorem qly (ll dl:List Nat) (h1:∀l∈ll,l≤15) (h2:∀l∈dl,l≤15) (x:Tok) (hx:∀n d,x = .mat n d→3≤n∧n≤258∧1≤d∧d≤32768):(tbits ll dl x).length≤48:=by
 cases x with
 | lit c=>have:=qeb ll h1 c.toNat;simp only[tbits];omega
 | mat n d=>obtain⟨a,b,c,e⟩:=hx n d rfl;have k1:=qeb ll h1 (lcode n).1;have k2:=qeb dl h2 (dcode d).1;have k3:=(qjq a b).2.2.1;have k4:=(qjv c e).2.1;simp only[tbits,qab,lsb_length];omega
def U32 (w:World) (g:Nat) (xs:List Nat):Prop:=Cs w (some ⟨g,0,none⟩) (xs.map λx=>.int .u32 (x:Nat))
theorem qks {ls:List Nat} {s:Nat} (h:s<ls.length):(codesOf ls)[s]?=some (codeAt ls s):=by simp[codesOf,h]
theorem qzw (ls:List Nat) (s:Nat) (hle:∀l∈ls,l≤15) (hw:weight ls≤32768):codeAt ls s<32768:=by
 unfold codeAt;split
 ·decide
 ·rename_i h;have h1:=qzv ls s hle hw (by omega);have h2:lenAt ls s≤15:=hle _ (qfj (qeo (by omega)));exact qat h1 (qa3 (by decide) h2)
structure Env (p q4 q6 q3 q8 g1 g2:Nat) (a1 a2:Option Addr) (c1 c2 n1 n2:Nat) (ll dl:List Nat) (w:World):Prop where
 c4:w.cell? ⟨q4,0,none⟩=some (.pointer (some ⟨p,0,none⟩))
 c6:w.cell? ⟨q6,0,none⟩=some (.slice (some ⟨g1,0,none⟩) n1 n1)
 c32:w.cell? ⟨q3,2,none⟩=some (.slice a1 n1 c1)
 c33:w.cell? ⟨q3,3,none⟩=some (.slice a2 n2 c2)
 c8:w.cell? ⟨q8,0,none⟩=some (.slice (some ⟨g2,0,none⟩) n2 n2)
 u1:U32 w g1 (codesOf ll)
 u2:U32 w g2 (codesOf dl)
 r1:Ri w a1 c1 ll
 r2:Ri w a2 c2 dl
 l1:n1=ll.length
 l2:n2=dl.length
def envB (q4 q6 q3 q8 g1 g2:Nat) (a1 a2:Option Addr):List Nat:=[q4,q6,q3,q8,g1,g2]++blk a1++blk a2
theorem qiq {S:List Nat} {w w':World} {a:Option Addr} {cap:Nat} {xs:List Nat} (h:Ri w a cap xs) (f:Fr S w w') (hn:∀x∈blk a,x∉S):Ri w' a cap xs:=⟨h.cs.fr f hn,h.le,h.max,h.nil⟩
theorem Env.fr {p q4 q6 q3 q8 g1 g2:Nat} {a1 a2:Option Addr} {c1 c2 n1 n2:Nat} {ll dl:List Nat} {w w':World} {S:List Nat} (h:Env p q4 q6 q3 q8 g1 g2 a1 a2 c1 c2 n1 n2 ll dl w) (f:Fr S w w')
  (hn:∀x∈envB q4 q6 q3 q8 g1 g2 a1 a2,x∉S):Env p q4 q6 q3 q8 g1 g2 a1 a2 c1 c2 n1 n2 ll dl w':=by
 have k:∀x,x∈[q4,q6,q3,q8,g1,g2]→x∉S:=λx hx=>hn x (by simp only[envB,qbu];exact .inl (.inl hx))
 exact⟨f.cell h.c4 (k q4 (by simp)),f.cell h.c6 (k q6 (by simp)),f.cell h.c32 (k q3 (by simp)),f.cell h.c33 (k q3 (by simp)),f.cell h.c8 (k q8 (by simp)),
  Cs.fr h.u1 f (by simpa[blk] using k g1 (by simp)),Cs.fr h.u2 f (by simpa[blk] using k g2 (by simp)),
  qiq h.r1 f (λx hx=>hn x (by simp only[envB,qbu];exact .inl (.inr hx))),qiq h.r2 f (λx hx=>hn x (by simp only[envB,qbu];exact .inr hx)),h.l1,h.l2⟩
theorem Env.sym1 {p q4 q6 q3 q8 g1 g2:Nat} {a1 a2:Option Addr} {c1 c2 n1 n2:Nat} {ll dl:List Nat} {w:World} (h:Env p q4 q6 q3 q8 g1 g2 a1 a2 c1 c2 n1 n2 ll dl w) {s:Nat} (hs:s<n1) :
  ∃g o,a1=some ⟨g,o,none⟩∧w.cell? ⟨g,o+s,none⟩=some (.int .i64 (lenAt ll s:Nat))∧w.cell? ⟨g1,s,none⟩=some (.int .u32 (codeAt ll s:Nat)):=by
 have hl:s<ll.length:=by rw[<-h.l1];exact hs
 obtain⟨g,o,e,hc⟩:=h.r1.at hl;refine⟨g,o,e,by rw[hc,lenAt,qai hl];rfl,?_⟩;obtain⟨g',o',e',hc'⟩:=h.u1.at (by simp[codesOf];omega);simp only[qaw,qcz,and_true]at e';obtain⟨rfl,rfl⟩:=e';have:=hc' s (.int .u32 (codeAt ll s:Nat)) (by rw[qbl,qks hl];rfl);simpa using this
theorem Env.sym2 {p q4 q6 q3 q8 g1 g2:Nat} {a1 a2:Option Addr} {c1 c2 n1 n2:Nat} {ll dl:List Nat} {w:World} (h:Env p q4 q6 q3 q8 g1 g2 a1 a2 c1 c2 n1 n2 ll dl w) {s:Nat} (hs:s<n2) :
  ∃g o,a2=some ⟨g,o,none⟩∧w.cell? ⟨g,o+s,none⟩=some (.int .i64 (lenAt dl s:Nat))∧w.cell? ⟨g2,s,none⟩=some (.int .u32 (codeAt dl s:Nat)):=by
 have hl:s<dl.length:=by rw[<-h.l2];exact hs
 obtain⟨g,o,e,hc⟩:=h.r2.at hl;refine⟨g,o,e,by rw[hc,lenAt,qai hl];rfl,?_⟩;obtain⟨g',o',e',hc'⟩:=h.u2.at (by simp[codesOf];omega);simp only[qaw,qcz,and_true]at e';obtain⟨rfl,rfl⟩:=e';have:=hc' s (.int .u32 (codeAt dl s:Nat)) (by rw[qbl,qks hl];rfl);simpa using this
theorem qrm (p:Nat) (F:List Nat) (l:List Bool) (ls:List Nat) (s:Nat) (w:World) (h:Wb w p F l) (hle:∀l∈ls,l≤15) (hw:weight ls≤32768) (hL:l.length≤562949953421200) :
  Calls Tryz.prog 246 #[.pointer (some ⟨p,0,none⟩),.int .u32 (codeAt ls s:Nat),.int .i64 (lenAt ls s:Nat)] w (WbPost p F w (l++sbits ls s)):=by
 have h1:=zg1 p F l (codeAt ls s) (lenAt ls s:Nat) w h (by have:=qzw ls s hle hw;omega) hL;have h2:=qeb ls hle s;unfold sbits at h2 ⊢;rw[qet]at h2;rw[qdm,qc6 (by omega)]at h1;exact h1
theorem zar (p q4 q6 q3 q8 g1 g2:Nat) (a1 a2:Option Addr) (c1 c2 n1 n2:Nat) (ll dl:List Nat) (F:List Nat) (l:List Bool) (c:UInt8) (w:World) (h:Env p q4 q6 q3 q8 g1 g2 a1 a2 c1 c2 n1 n2 ll dl w) (hW:Wb w p F l)
  (hle:∀l∈ll,l≤15) (hw:weight ll≤32768) (hn:257≤n1) (hL:l.length≤562949953421200) :
  Calls Tryz.prog 245 #[.int .u8 c.toNat,.pointer none,.pointer (some ⟨q4,0,none⟩),.pointer (some ⟨q6,0,none⟩),.pointer (some ⟨q3,0,none⟩),.pointer (some ⟨q8,0,none⟩)] w (WbPost p F w (l++tbits ll dl (.lit c))):=by
 obtain⟨s,hs⟩:=zex c.toNat;have hs2:s<256:=by rw[hs];exact qbc _
 rw[<-hs];have hn1:=h.r1.le;rw[<-h.l1]at hn1;obtain⟨g,o,rfl,d1,d2⟩:=h.sym1 (show s<n1 by omega);have d3:=h.c4;have d4:=h.c6;have d5:=h.c32;have hcall:=qrm p F l ll s w.drew (qj5 hW (Fr.drew1 [] w) (by simp)) hle hw hL;obtain⟨x,hx⟩:=zex (codeAt ll s);obtain⟨y,hy⟩:=zex (lenAt ll s);rw[<-hx]at d2 hcall;rw[<-hy]at d1 hcall;have hg:decide ((n1:Int)≤(s:Int))=false:=by simp;omega
 have HC:=zhd2 hcall hs;clear hcall h hW hle hw hL hx hy hs;simp only[tbits];go_enter Tryz.func245,Tryz.ntmps245;go_upto_region 1 with fail;refine qcu 10 (by kernel_rfl) (by kernel_rfl) ?_;simp only[qah,qan,qad,qaj];repeat (go_big_quiet_step (fail))
 refine wpQuiet_nil ?_;go_wp2_with (go_at_call 246;refine HC.o0.mono ?_;rintro e w2 ⟨rfl,hfr,hb⟩);refine bodyPost_ret (results_none rfl _ _ _) rfl ?_;rw[HC.l1]at hb;exact⟨rfl,(Fr.drew1 F w).trans hfr,hb⟩
structure Pg (p:Nat) (F:List Nat) (w:World) (b:List Bool) (F':List Nat) (w':World):Prop where
 fr:Fr F w w'
 wb:Wb w' p F' b
 new:∀y∈F',y∈F∨w.heap.size≤y
theorem Pg.start {p:Nat} {F:List Nat} {w:World} {b:List Bool} (h:Wb w p F b):Pg p F w b F w:=⟨.refl _ _,h,λ_ hy=>.inl hy⟩
theorem Pg.fr0 {p:Nat} {F F':List Nat} {w w1 w2:World} {b:List Bool} (h:Pg p F w b F' w1) (f:Fr [] w1 w2):Pg p F w b F' w2:=⟨h.fr.trans (f.mono (by simp)),qj5 h.wb f (by simp),h.new⟩
theorem Pg.step {p:Nat} {F F1:List Nat} {w w1 w2:World} {b b2:List Bool} (h:Pg p F w b F1 w1) (f:Fr F1 w1 w2) (g:∃F',Wb w2 p F' b2∧∀y∈F',y∈F1∨w1.heap.size≤y):∃F2,Pg p F w b2 F2 w2:=by
 obtain⟨F2,hb,hn⟩:=g;refine⟨F2,h.fr.step f λy hy=>h.new y hy,hb,λy hy=>?_⟩;rcases hn y hy with k|k
 ·exact h.new y k
 ·exact .inr (qar h.fr.size k)
theorem qsf (p:Nat) (F:List Nat) (l:List Bool) (x n:Nat) (w:World) (h:Wb w p F l) (hx:x<4294967296) (hn:n≤32) (hL:l.length≤562949953421312) :
  Calls Tryz.prog 247 #[.pointer (some ⟨p,0,none⟩),.int .u32 x,.int .i64 n] w (WbPost p F w (l++lsb n x)):=by
 have h1:=zey p F l x (n:Nat) w h hx hL;rwa [qdm,qc6 hn]at h1
theorem zc3 {w:World} {a:Addr} {v:Value} (h:w.cell? a=some v):a.block<w.heap.size:=by
 rcases qb8 a.block w.heap.size with k|k
 ·exact k
 ·unfold World.cell? at h;rw[Array.getElem?_eq_none k]at h;simp at h
theorem zaq (p q4 q6 q3 q8 g1 g2 g o:Nat) (a1 a2:Option Addr) (c1 c2 n1 n2:Nat) (ll dl:List Nat) (F:List Nat) (l:List Bool) (n d:Nat) (w:World) (h:Env p q4 q6 q3 q8 g1 g2 a1 a2 c1 c2 n1 n2 ll dl w) (hW:Wb w p F l)
  (hle:∀l∈ll,l≤15) (hw:weight ll≤32768) (hle2:∀l∈dl,l≤15) (hw2:weight dl≤32768) (hn:286≤n1) (hn2:30≤n2) (hL:l.length≤562949953421000)
  (hE:∀x∈envB q4 q6 q3 q8 g1 g2 a1 a2,x∉F∧x<w.heap.size) (h3:3≤n) (h258:n≤258) (h1:1≤d) (hd:d≤32768) (hg:g∉F)
  (e1:w.cell? ⟨g,o+1,none⟩=some (.int .i64 n)) (e2:w.cell? ⟨g,o+2,none⟩=some (.int .i64 d)) :
  Calls Tryz.prog 245 #[.int .u8 0,.pointer (some ⟨g,o,none⟩),.pointer (some ⟨q4,0,none⟩),.pointer (some ⟨q6,0,none⟩),.pointer (some ⟨q3,0,none⟩),.pointer (some ⟨q8,0,none⟩)] w (WbPost p F w (l++tbits ll dl (.mat n d))):=by
 have hlen:=qib n w h3 h258;have hlt:=qjq h3 h258;have hdt:=qjv h1 hd;have hgl:=zc3 e2;simp only at hgl;unfold Triple at hlen;simp only[tbits];obtain⟨s,hs⟩:=zex ((lcode n).1);obtain⟨m,hm⟩:=zex ((lcode n).2.1);obtain⟨v,hv⟩:=zex ((lcode n).2.2);obtain⟨s2,hs2⟩:=zex ((dcode d).1);obtain⟨m2,hm2⟩:=zex ((dcode d).2.1);obtain⟨v2,hv2⟩:=zex ((dcode d).2.2);rw[<-hs,<-hm,<-hv]at hlt hlen ⊢;rw[<-hs2,<-hm2,<-hv2]at hdt ⊢;have hmb:m<4294967296:=qat hlt.2.2.2 (qar (qa3 (by decide) hlt.2.2.1) (by decide));have hmb2:m2<4294967296:=qat hdt.2.2 (qar (qa3 (by decide) hdt.2.1) (by decide));have hn1:=h.r1.le;rw[<-h.l1]at hn1;have hn3:=h.r2.le;rw[<-h.l2]at hn3;have kS:=qeb ll hle s;have kS2:=qeb dl hle2 s2;have H:=zhd7 h hW hE hlen hgl hg e2;have HB:=zhd8 hlt hdt hmb hmb2 hle hw hle2 hw2;have HD:=zhd5 hs2 hm2 hv2 h1 hd;have HL:=zhd3 hL kS kS2;have hsl:s<n1:=by omega
 have hsl2:s2<n2:=by omega
 clear h hW hE hlen hgl hg e2 hlt hdt hmb hmb2 hle hw hle2 hw2 hs hm hv hs2 hm2 hv2 h1 hd h3 h258 hL kS kS2;go_enter Tryz.func245,Tryz.ntmps245;go_upto_region 3 with (go_at_call 158;refine H.o3.mono ?_;rintro e w1 ⟨rfl,f1⟩;have H1:=zhd f1;clear f1);clear e1;have ev1:=H.o0.fr H1.out (by simp);obtain⟨ga,oa,ea,d1,d2⟩:=ev1.sym1 hsl;subst ea;have d3:=ev1.c4;have d4:=ev1.c6;have d5:=ev1.c32;have hcall:=qrm p F l ll s w1.drew (qj5 H.o1 (H1.out.trans (Fr.drew1 [] w1)) (by simp)) HB.o4 HB.o5 (by have:=HL.o0;omega);obtain⟨x,hx⟩:=zex (codeAt ll s);obtain⟨y,hy⟩:=zex (lenAt ll s);rw[<-hx]at d2 hcall;rw[<-hy]at d1 hcall;have hg:decide ((n1:Int)≤(s:Int))=false:=by simp;omega
 have HC:=zhd hcall;clear hcall hx hy ev1;refine qcu 10 (by kernel_rfl) (by kernel_rfl) ?_;simp only[qah,qan,qad,qaj];repeat (go_big_quiet_step (fail))
 refine wpQuiet_nil ?_;clear d1 d2 d3 d4 d5 hg;go_upto_region 4 with (go_at_call 246;refine HC.out.mono ?_;rintro e w2 ⟨rfl,f2,g2'⟩;have H2:=zhd (Pg.step (Pg.fr0 (Pg.start H.o1) (H1.out.trans (Fr.drew1 [] w1))) f2 g2');clear f2 g2');obtain⟨F2,hp2⟩:=H2.out;have ev2:=H.o0.fr hp2.fr λx hx=>(H.o2 x hx).1
 have d3:=ev2.c4;have hput:=qsf p F2 _ m v w2 hp2.wb HB.o2 (by have:=HB.o0.2.2.1;omega) (by rw[qab];have:=HL.out;omega);have HC2:=zhd hput;clear ev2 hput;go_upto_region 5 with (go_at_call 247;refine HC2.out.mono ?_;rintro e w3 ⟨rfl,f3,g3⟩;have H3:=zhd (Pg.step hp2 f3 g3);clear f3 g3);clear d3;obtain⟨F3,hp3⟩:=H3.out;have e2:=hp3.fr.cell H.l6 H.o5;have hdi:=qgh d w3 HD.o3 HD.l4;unfold Triple at hdi;rw[<-HD.o0,<-HD.o1,<-HD.o2]at hdi;have HDI:=zhd hdi;have HP3:=zhd hp3;clear hdi hp3 hp2;go_upto_region 6 with (go_at_call 159;refine HDI.out.mono ?_;rintro e w4 ⟨rfl,f4⟩;have H4:=zhd f4;clear f4);clear e2;have hp4:=HP3.out.fr0 H4.out;have ev4:=H.o0.fr hp4.fr λx hx=>(H.o2 x hx).1
 obtain⟨gb,ob,eb,d1,d2⟩:=ev4.sym2 hsl2;subst eb;have d3:=ev4.c4;have d4:=ev4.c8;have d5:=ev4.c33;have hcall:=qrm p F3 _ dl s2 w4.drew (hp4.fr0 (Fr.drew1 [] w4)).wb HB.o6 HB.l7 (by rw[qab,qab,lsb_length];have:=HL.out;have:=HB.o0.2.2.1;omega);obtain⟨x2,hx2⟩:∃x,x=codeAt dl s2:=⟨_,rfl⟩;obtain⟨y2,hy2⟩:∃y,y=lenAt dl s2:=⟨_,rfl⟩;rw[<-hx2]at d2 hcall;rw[<-hy2]at d1 hcall;have hg:decide ((n2:Int)≤(s2:Int))=false:=by simp;omega
 have HC4:=zhd hcall;have HP4:=zhd hp4;clear hcall hx2 hy2 ev4 hp4;refine qcu 10 (by kernel_rfl) (by kernel_rfl) ?_;simp only[qah,qan,qad,qaj];repeat (go_big_quiet_step (fail))
 refine wpQuiet_nil ?_;clear d1 d2 d3 d4 d5 hg;go_upto_region 7 with (go_at_call 246;refine HC4.out.mono ?_;rintro e w5 ⟨rfl,f5,g5⟩;have H5:=zhd (Pg.step (HP4.out.fr0 (Fr.drew1 [] w4)) f5 g5);clear f5 g5);obtain⟨F5,hp5⟩:=H5.out;have ev5:=H.o0.fr hp5.fr λx hx=>(H.o2 x hx).1
 have d3:=ev5.c4;have hput:=qsf p F5 _ m2 v2 w5 hp5.wb HB.o3 (by have:=HB.o1.2.1;omega) (by rw[qab,qab,qab,lsb_length];have:=HL.out;have:=HB.o0.2.2.1;omega);have HC5:=zhd hput;have HP5:=zhd hp5;clear ev5 hput hp5;go_wp2_with (go_at_call 247;refine HC5.out.mono ?_;rintro e w6 ⟨rfl,f6,g6⟩;have H6:=zhd (Pg.step HP5.out f6 g6);clear f6 g6);(try simp only[Exit.inBlock,Exit.then]);refine bodyPost_end (results_none rfl _ _ _) rfl ?_;obtain⟨F6,hp6⟩:=H6.out;refine⟨rfl,hp6.fr,F6,?_,hp6.new⟩;have:=hp6.wb;simpa only[qas] using this
end Go.Proofs.YtkmpfgpfbmeihaaGreatDoor.defl
