/-
  Texts of this proof, one behind the other: Wb, Stored, RowsArg, Written, Plain, AppFull, AppMid, SumA, SumB, Zlib.
-/
import Derived.Test.YtbabjlohkniciaaGreatDoorV8
import Derived.Lib.SmallJoins
set_option maxHeartbeats 16000000
set_option maxRecDepth 100000
set_option linter.unusedVariables false
set_option linter.unusedSimpArgs false
namespace Go.Proofs.YtbabjlohkniciaaGreatDoor.wb
open Go Go.RowKit lib bm bl
def Wb (w:World) (p:Nat) (F:List Nat) (l:List Bool):Prop:=bits.Wr w p F (bval l) l.length
def WbPost (p:Nat) (F:List Nat) (w:World) (l:List Bool) (e:Ending) (w':World):Prop:=
 e = .returned (.tuple #[])∧Fr F w w'∧∃F',Wb w' p F' l∧∀y∈F',y∈F∨w.heap.size≤y
theorem qin {w w':World} {p:Nat} {F S:List Nat} {l:List Bool} (h:Wb w p F l) (f:Fr S w w') (hn:∀x∈F,x∉S):Wb w' p F l:=bits.zd4 h f hn
theorem qta {w:World} {p:Nat} {F:List Nat} {l:List Bool} (h:Wb w p F l):∀x∈F,x<w.heap.size:=bits.zd3 h
theorem zb9 (p:Nat) (F:List Nat) (l:List Bool) (x:Nat) (n:Int) (w:World) (h:Wb w p F l) (hx:x<4294967296) (hL:l.length≤562949953421312) :
  Calls Tryz.prog 238 #[.pointer (some ⟨p,0,none⟩),.int .u32 x,.int .i64 n] w (WbPost p F w (l++lsb (min n.toNat 32) x)):=by
 have:=bits.qi0 p F (bval l) l.length x n w h hx hL;refine this.mono λe w' ⟨h1,h2,F',h3,h4⟩=>⟨h1,h2,F',?_,h4⟩
 unfold Wb;rw[qdq,qj2,qab,lsb_length];exact h3
theorem zdx (p:Nat) (F:List Nat) (l:List Bool) (x:Nat) (n:Int) (w:World) (h:Wb w p F l) (hx:x<4294967296) (hL:l.length≤562949953421200) :
  Calls Tryz.prog 237 #[.pointer (some ⟨p,0,none⟩),.int .u32 x,.int .i64 n] w (WbPost p F w (l++msb (min n.toNat 32) x)):=by
 have:=bits.zau p F (bval l) l.length x n w h hx hL;refine this.mono λe w' ⟨h1,h2,F',h3,h4⟩=>⟨h1,h2,F',?_,h4⟩
 unfold Wb;rw[qdq,zaw,qab,qd6];exact h3
theorem zdc (p:Nat) (F:List Nat) (l:List Bool) (ao:Option Addr) (cap:Nat) (bs:List UInt8) (w:World) (h:Wb w p F l) (hr:lib.Rd w ao cap bs) (hap:bs≠[]→∀x∈blk ao,x∉F)
  (hL:l.length+8*bs.length≤562949953421200) :
  Calls Tryz.prog 244 #[.pointer (some ⟨p,0,none⟩),.slice ao bs.length cap] w (WbPost p F w (padTo8 l++bytesBits bs)):=by
 have:=bits.qqh p F (bval l) l.length ao cap bs w h hr.cs hr.le hr.nil hap hL;refine this.mono λe w' ⟨h1,h2,F',h3,h4⟩=>⟨h1,h2,F',?_,h4⟩
 unfold Wb;rw[qdq,qs3,qea,qab,qds,qbk];exact h3
theorem qx9 (p:Nat) (F:List Nat) (l:List Bool) (w:World) (h:Wb w p F l) (h0:0<l.length) (hL:l.length≤562949953421200) :
  Calls Tryz.prog 128 #[.pointer (some ⟨p,0,none⟩)] w (NewBytes w (bytesOf l)):=by
 have:=bits.qs9 p F (bval l) l.length w h hL;refine this.mono λe w' ⟨ao,h1,h2,h3,h4,h5⟩=>⟨ao,by rw[qcq];exact h1,⟨h2.cs,qag _,by rw[qcq];unfold maxLen;omega,λhn=>by rw[qcq];exact h3 hn⟩,λx hx=>⟨h4 x hx,?_⟩,h5⟩
 rcases h2 with h2|⟨g,cur,rfl,_,hg,_⟩
 ·have:=congrArg List.length h2;rw[qa8,qhb,qbb]at this;omega
 ·simp[blk]at hx;rw[hx];exact lt_of_block hg
end Go.Proofs.YtbabjlohkniciaaGreatDoor.wb
namespace Go.Proofs.YtbabjlohkniciaaGreatDoor.defl
open Go Go.RowKit lib bm bl wb
theorem zck (b:Bool):lsb 1 (if b then 1 else 0)=[b]:=by cases b<;>rfl
theorem qnz (p:Nat) (F:List Nat) (l:List Bool) (last:Bool) (kind:Nat) (w:World) (h:Wb w p F l) (hk:kind<4294967296) (hL:l.length≤562949953421000) :
  Calls Tryz.prog 234 #[.pointer (some ⟨p,0,none⟩),.bool last,.int .u32 kind] w (WbPost p F w (l++last::lsb 2 kind)):=by
 have h1:=zb9 p F l (if last then 1 else 0) 1 w h (by split<;>decide) (by omega);have h2:=λw F h=>zb9 p F (l++[last]) kind 2 w h hk (by rw[qab,qc6];omega)
 have e1:lsb (min (1:Int).toNat 32) (if last then 1 else 0)=[last]:=zck last;have e2:lsb (min (2:Int).toNat 32) kind=lsb 2 kind:=rfl;rw[e1]at h1;simp only[e2,qat,List.singleton_append]at h2;unfold WbPost at h1 h2;have H:=zhd h2;clear h2 e1 e2 h;cases last with
 | true=>
  have H1:=zhd h1;clear h1;go_enter Tryz.func234,Tryz.ntmps234;go_upto_region 4 with (go_at_call 238;refine H1.out.mono ?_;rintro e w1 ⟨rfl,f1,F1,W1,n1⟩);have H2:=zhd3 f1 n1 (H.out w1 F1 W1);clear f1 n1 W1;go_wp2_with (go_at_call 238;refine H2.out.2.2.mono ?_;rintro e w2 ⟨rfl,f2,F2,W2,n2⟩);go_end0;unfold WbPost;exact⟨rfl,H2.out.1.step f2 (λy hy=>by rcases H2.out.2.1 y hy with k|k;exact .inl k;exact .inr k),F2,W2,λy hy=>by rcases n2 y hy with k|k;exact H2.out.2.1 y k;exact .inr (qan H2.out.1.size k)⟩
 | false=>have H1:=zhd h1;clear h1;go_enter Tryz.func234,Tryz.ntmps234;go_upto_region 4 with (go_at_call 238;refine H1.out.mono ?_;rintro e w1 ⟨rfl,f1,F1,W1,n1⟩);have H2:=zhd3 f1 n1 (H.out w1 F1 W1);clear f1 n1 W1;go_wp2_with (go_at_call 238;refine H2.out.2.2.mono ?_;rintro e w2 ⟨rfl,f2,F2,W2,n2⟩);go_end0;unfold WbPost;exact⟨rfl,H2.out.1.step f2 (λy hy=>by rcases H2.out.2.1 y hy with k|k;exact .inl k;exact .inr k),F2,W2,λy hy=>by rcases n2 y hy with k|k;exact H2.out.2.1 y k;exact .inr (qan H2.out.1.size k)⟩
def shead (n:Nat):List UInt8:=[UInt8.ofNat n,UInt8.ofNat (n/256),UInt8.ofNat (255-n%256),UInt8.ofNat (255-n/256%256)]
theorem xor255 (x:Nat) (h:x<256):bits .xor .u8 IntKind.u8.max ((x:Nat):Int)=((255-x:Nat):Int):=by
 have h1:∀x:Fin 256,bits .xor .u8 IntKind.u8.max (x.1:Int)=((255-x.1:Nat):Int):=by decide +kernel
 exact h1 ⟨x,h⟩
theorem qvi (n c1 c2:Nat) (h:n≤65535) (h1:c1=255-n%256) (h2:c2=255-n/256%256):(shead n).map bv=[.int .u8 ((n:Int)%256),.int .u8 ((n:Int)/256),.int .u8 c1,.int .u8 c2]:=by simp only[shead,qak,qap,bv,qb6];refine qe2.2 ⟨int_eq (by omega),qe2.2 ⟨int_eq (by omega),qe2.2 ⟨int_eq (by omega),qe2.2 ⟨int_eq (by omega),rfl⟩⟩⟩⟩
def storedBits (l:List Bool) (last:Bool) (b:List UInt8):List Bool:=padTo8 (l++last::lsb 2 0)++bytesBits (shead b.length)++bytesBits b
theorem qc0 (l:List Bool) (last:Bool) (b:List UInt8):(storedBits l last b).length=(l.length+10)/8*8+32+8*b.length:=by unfold storedBits;rw[qab,qab,qds,qbk,qbk,qab,qam,lsb_length];show (l.length+(2+1)+7)/8*8+8*4+8*b.length=_;omega
theorem qon (p:Nat) (F:List Nat) (l:List Bool) (last:Bool) (a:Option Addr) (cap:Nat) (b:List UInt8) (w:World) (h:Wb w p F l) (hr:lib.Rd w a cap b) (hap:b≠[]→∀x∈blk a,x∉F)
  (hL:l.length≤549755813888) (hb:b.length≤65535) :
  Calls Tryz.prog 243 #[.agg #[.slice a b.length cap],.pointer (some ⟨p,0,none⟩),.bool last] w (WbPost p F w (storedBits l last b)):=by
 obtain⟨n,hn⟩:=zex b.length;have hle:=hr.le;rw[<-hn]at hle hb ⊢;have f0:Fr [] w (w.alloc (.cells #[.slice a n cap] 187)):=(Fr.refl [] w).alloc _;have hz0:(w.alloc (.cells #[.slice a n cap] 187)).heap.size=w.heap.size+1:=qav _ _;have hbx:=qa4 w (.cells #[.slice a n cap] 187);have hh:=qnz p F l last 0 _ (qin h f0 (by simp)) (by decide) (by omega);unfold WbPost at hh;have hlt:=qta h;have H:=zhd7 hh f0 hbx (And.intro hr hap) hn hlt hz0;clear hh f0 hbx hr hap hn hlt hz0 h;go_enter Tryz.func243,Tryz.ntmps243;go_upto_region 2 with (go_at_call 234;refine H.o0.mono ?_;rintro e w1 ⟨rfl,f1,F1,W1,n1⟩);obtain⟨B,hB⟩:=zex w.heap.size;have hBF:B∉F:=λhm=>by have:=H.o5 B hm;omega
 have hb1:=f1.blk H.o2 (by rw[<-hB];exact hBF);rw[<-hB]at hb1 ⊢;have cb1:=cell_of hb1 0;simp only[qae,qaa]at cb1;have H1:=zhd5 f1 n1 W1 hb1 hB;clear f1 n1 W1 hb1 hB;obtain⟨c1,hc1⟩:∃c,c=255-n%256:=⟨_,rfl⟩;obtain⟨c2,hc2⟩:∃c,c=255-n/256%256:=⟨_,rfl⟩;have x1:bits .xor .u8 IntKind.u8.max ((n:Int)%256)=(c1:Int):=by have:=xor255 (n%256) (by omega);rw[hc1,<-this];rfl
 have x2:bits .xor .u8 IntKind.u8.max ((n:Int)/256)=(c2:Int):=by have:=xor255 (n/256) (by omega);rw[hc2,show n/256%256=n/256 from by omega,<-this];rfl
 have hm:=qvi n c1 c2 hb hc1 hc2;have hr4:lib.Rd (w1.alloc (.cells #[.int .u8 ((n:Int)%256),.int .u8 ((n:Int)/256),.int .u8 c1,.int .u8 c2] 5)) (some ⟨w1.heap.size,0,none⟩) 4 (shead n):=
  ⟨by rw[hm];exact qgx w1 _ _ _,qag _,by decide,λh=>by cases h⟩
 have f2:Fr [] w1 (w1.alloc (.cells #[.int .u8 ((n:Int)%256),.int .u8 ((n:Int)/256),.int .u8 c1,.int .u8 c2] 5)):=(Fr.refl [] w1).alloc _;have hlen:(l++last::lsb 2 0).length=l.length+3:=by rw[qab,qam,lsb_length]
 have hraw:=zdc p F1 (l++last::lsb 2 0) _ 4 (shead n) _ (qin H1.out.2.2.1 f2 (by simp)) hr4 (λ_ x hx hm=>by have:=qta H1.out.2.2.1 x hm;simp[blk]at hx;omega) (by rw[hlen];show _+8*4≤_;omega);unfold WbPost at hraw;have H2:=zhd3 hraw f2 hlen;clear hc1 hc2 hm hr4 f2 hraw hlen;go_upto_region 4 with (go_at_call 244;refine H2.o0.mono ?_;rintro e w3 ⟨rfl,f3,F3,W3,n3⟩);have fAll:Fr F w w3:=((H.o1.mono (by simp)).step H1.out.1 (λy hy=>.inl hy)).step (H2.o1.mono (T:=F1) (by simp) |>.trans f3) (λy hy=>by
  rcases H1.out.2.1 y hy with k|k
  ·exact .inl k
  ·right
   have:=H.l6
   omega)
 have hBF:B∉F1:=λhm=>by
  have k1:=H1.out.2.2.2.2;rcases H1.out.2.1 B hm with k|k
  ·have:=H.o5 B k;omega
  ·have:=H.l6;omega
 have hb3:=f3.blk (H2.o1.blk H1.out.2.2.2.1 (by simp)) hBF;have cb3:=cell_of hb3 0;simp only[qae,qaa]at cb3;have hnF:∀y∈F3,y∈F∨w.heap.size≤y:=λy hy=>by
  have k0:=H.l6;have k3:=H1.out.1.size;have k4:=H2.o1.size;rcases n3 y hy with k|k
  ·rcases H1.out.2.1 y k with k2|k2
   ·exact .inl k2
   ·right;omega
  ·right;omega
 have hrd3:lib.Rd w3 a cap b:=qji H.o3.1 fAll H.o3.2;have hraw:=zdc p F3 _ a cap b w3 W3 hrd3 (λhne x hx hm=>by
  rcases hnF x hm with k|k
  ·exact H.o3.2 hne x hx k
  ·have:=qts H.o3.1 hne x hx;omega) (by
   rw[qab,qds,qbk,H2.l2,<-H.o4]
   show (l.length+3+7)/8*8+8*4+8*n≤_
   omega)
 have hp8:padTo8 (padTo8 (l++last::lsb 2 0)++bytesBits (shead n))++bytesBits b=storedBits l last b:=by rw[qv1 _ (by rw[qab,qds,qbk];omega),storedBits,<-H.o4]
 rw[hp8,<-H.o4]at hraw;unfold WbPost at hraw;have H3:=zhd3 hraw fAll hnF;clear hraw fAll hnF hrd3 hp8 f3 n3 W3 hb3 cb1;go_wp2_with (go_at_call 244;refine H3.o0.mono ?_;rintro e w4 ⟨rfl,f4,F4,W4,n4⟩);go_end0;unfold WbPost;refine⟨rfl,H3.o1.step f4 H3.l2,F4,W4,λy hy=>?_⟩;rcases n4 y hy with k|k
 ·exact H3.l2 y k
 ·exact .inr (qan H3.o1.size k)
end Go.Proofs.YtbabjlohkniciaaGreatDoor.defl
namespace Go.Proofs.YtbabjlohkniciaaGreatDoor.lib
open Go Go.RowKit Go.ChangeShapes Go.WideShapes
structure Rv where
 ao:Option Addr
 cap:Nat
 bs:List UInt8
def Rv.val (r:Rv):Value:=.slice r.ao r.bs.length r.cap
end Go.Proofs.YtbabjlohkniciaaGreatDoor.lib
namespace Go.Proofs.YtbabjlohkniciaaGreatDoor.defl
open Go Go.RowKit lib bm bl wb
def sval (r:Rv):Value:=.iface 187 (.agg #[.slice r.ao r.bs.length r.cap])
def storedAll (l:List Bool):List (List UInt8)→List Bool
 | []=>l
 | b::t=>storedAll (storedBits l (t.isEmpty) b) t
theorem qjh:∀(t:List (List UInt8)) (l:List Bool),l.length≤(storedAll l t).length
 | [],_=>qag _
 | b::t,l=>by have:=qjh t (storedBits l t.isEmpty b);rw[qc0]at this;rw[storedAll];omega
theorem qnd (t:List (List UInt8)) (l:List Bool) (h:0<t.length):0<(storedAll l t).length:=by
 cases t with
 | nil=>simp at h
 | cons b t=>have:=qjh t (storedBits l t.isEmpty b);rw[qc0]at this;rw[storedAll];omega
theorem za1 (w:World):Wb (w.alloc (.cells #[.slice none 0 0,.int .u64 0,.int .i64 0] 193)) w.heap.size [w.heap.size] []:=
 ⟨.slice none 0 0,⟨qa4 w _,qch _ _ _ _,by simp[Value.ownBlock],by decide⟩,rfl⟩
theorem qls (a:Option Addr) (cap:Nat) (rows:List Rv) (w:World) (hcs:Cs w a (rows.map sval)) (hle:rows.length≤cap) (hcap:cap≤maxLen)
  (hrow:∀r∈rows,lib.Rd w r.ao r.cap r.bs∧r.bs.length≤65535) (h0:0<rows.length) (hn:rows.length≤100000) :
  Calls Tryz.prog 82 #[.slice a rows.length cap] w (NewBytes w (bytesOf (storedAll [] (rows.map Rv.bs)))):=by
 obtain⟨n,hnn⟩:=zex rows.length;rw[<-hnn]at hle h0 hn ⊢;unfold maxLen at hcap;obtain⟨g0,o0,rfl,hc⟩:=hcs.at (by rw[qa8];omega);have H:=zhd3 hc hrow hnn;clear hc hrow hnn hcs;go_enter Tryz.func82,Tryz.ntmps82;go_upto_block 0 with fail;obtain⟨p,hp⟩:=zex w.heap.size;have w0:=za1 w;have f0:Fr [] w (w.alloc (.cells #[.slice none 0 0,.int .u64 0,.int .i64 0] 193)):=(Fr.refl [] w).alloc _;rw[<-hp]at w0 ⊢;have H0:=zhd3 w0 f0 hp;clear w0 f0 hp;go_wp2;go_loopg [4,5,6,7,10] n (λk s4 s5 s6 s7 s10 wr=>∃(i:Nat) (F:List Nat) (l:List Bool),s10 = .int .i64 (i:Nat)∧i+k=n∧Wb wr p F l∧Fr [] w wr∧(∀x∈F,w.heap.size≤x)∧l.length≤i*524360∧storedAll l ((rows.drop i).map Rv.bs)=storedAll [] (rows.map Rv.bs));case atStart=>exact⟨0,[p],[],rfl,by omega,H0.o0,H0.o1,λx hx=>by simp at hx;rw[hx,H0.l2];exact qag _,qag _,rfl⟩
 case round=>
  obtain⟨i,F,l,rfl,hik,hW,hf,hF,hl,hall⟩:=hrel;by_cases hi:i<n
  ·obtain⟨k,rfl⟩:∃k,gk=k+1:=⟨gk-1,by omega⟩;have hir:i<rows.length:=by rw[<-H.out.2.2];exact hi
   have hci:=hf.cell (H.out.1 i (sval rows[i]) (by rw[qbx,qaf hir];rfl)) (by simp);obtain⟨hrd,hlen⟩:=H.out.2.1 rows[i] (qb7 hir);unfold sval at hci;have hdr:(rows.drop i).map Rv.bs=rows[i].bs::(rows.drop (i+1)).map Rv.bs:=by rw[qbm hir,qak]
   rw[hdr,storedAll]at hall;obtain⟨b,hb⟩:=zex (rows[i].bs);obtain⟨ba,hba⟩:∃b,b=rows[i].ao:=⟨_,rfl⟩;obtain⟨bc,hbc⟩:∃b,b=rows[i].cap:=⟨_,rfl⟩;obtain⟨bn,hbn⟩:∃n,n=b.length:=⟨_,rfl⟩;rw[<-hb]at hci hrd hlen hall;rw[<-hba,<-hbc,<-hbn]at hci;rw[<-hba,<-hbc]at hrd;rw[<-hbn]at hlen;have HR:=zhd3 hrd hbn hall;have HW:=zhd4 hW hf hF hl;clear hrd hbn hall hW hf hF hl hdr hb hba hbc;have d1:decide ((65535:Int)<bn)=false:=by simp;omega
   have hta:∀w:World,(Instr.typeAssert (.iface 187 (.agg #[.slice ba bn bc])) 195 187 true).run Tryz.prog w = .ok (.tuple #[.agg #[.slice ba bn bc],.bool true]) w:=λ_=>by kernel_rfl
   have hme:∀(f:Nat) (w:World),(method (f+1) 187 (.agg #[.slice ba bn bc]) "stemma/deflate.write").run Tryz.prog w = .ok (243,.agg #[.slice ba bn bc]) w:=λ_ _=>by kernel_rfl
   have hlast:((i:Int)==(n:Int)-1)=((rows.drop (i+1)).map Rv.bs).isEmpty:=by rw[quy,List.isEmpty_iff];simp only[beq_iff_eq,List.map_eq_nil_iff,List.drop_eq_nil_iff,<-H.out.2.2];omega
   obtain⟨lst,hlst⟩:∃b,b=((rows.drop (i+1)).map Rv.bs).isEmpty:=⟨_,rfl⟩;rw[<-hlst]at hlast;have f1:Fr [] wr (wr.alloc (.cells #[.slice ba bn bc] 187)):=(Fr.refl [] wr).alloc _;have hz1:(wr.alloc (.cells #[.slice ba bn bc] 187)).heap.size=wr.heap.size+1:=qav _ _;have hsw:=qon p F l lst ba bc b _ (qin HW.o0 f1 (by simp)) ((HR.o0.fr HW.o1).fr f1) (λhne x hx hm=>by have:=qts HR.o0 hne x hx;have:=HW.o2 x hm;omega) (by have:=HW.l3;omega) (by rw[<-HR.o1];exact hlen);rw[<-HR.o1]at hsw;unfold WbPost at hsw;have HS:=zhd4 hsw f1 hz1 hlst;clear hsw f1 hz1 hlst;go_wp2_with (go_at_call 243;refine HS.o0.mono ?_;rintro e w2 ⟨rfl,f2,F2,W2,n2⟩;have H2:=zhd3 f2 W2 n2;clear f2 W2 n2);go_roundg k;case measure=>omega
   case rel=>
    have k1:=HW.o1.size;have k2:=HS.o2;refine⟨i+1,F2,storedBits l lst b,by go_num,by omega,H2.out.2.1,(HW.o1.trans HS.o1).step H2.out.1 (λy hy=>.inr (HW.o2 y hy)),λy hy=>?_,?_,?_⟩
    ·rcases H2.out.2.2 y hy with h|h
     ·exact HW.o2 y h
     ·omega
    ·rw[qc0,<-HR.o1];have:=HW.l3;omega
    ·rw[HS.l3];exact HR.l2
  ·obtain rfl:i=n:=by omega
   have hdn:rows.drop i=[]:=qed (by rw[<-H.out.2.2];exact qag _);rw[hdn]at hall;have hby:=qx9 p F l wr hW (by
    have:0<l.length:=by
     rw[<-show storedAll l (List.map Rv.bs [])=l from rfl,hall]
     exact qnd _ _ (by rw[qa8,<-H.out.2.2];exact h0)
    exact this) (by omega)
   have e:bytesOf l=bytesOf (storedAll [] (rows.map Rv.bs)):=by rw[<-hall];rfl
   rw[e]at hby;unfold NewBytes at hby;have HB:=zhd2 hby hf;clear hby hW hf hF hl hall hdn e;go_wp2_with (go_at_call 128;refine HB.o0.mono ?_;rintro e w2 ⟨a2,rfl,r2,n2,f2⟩);go_ret;unfold NewBytes;exact⟨a2,rfl,r2,λx hx=>⟨qan HB.l1.size (n2 x hx).1,(n2 x hx).2⟩,HB.l1.trans f2⟩
def chunks:Nat→List UInt8→List (List UInt8)
 | 0,b=>[b]
 | f+1,b=>if 65535<b.length then b.take 65535::chunks f (b.drop 65535) else [b]
theorem qps {f:Nat} {b:List UInt8} (h:b.length≤65535):chunks f b=[b]:=by
 cases f with
 | zero=>rfl
 | succ f=>rw[chunks,if_neg (by omega)]
def plainBits (b:List UInt8):List Bool:=storedAll [] (chunks b.length b)
def plainBytes (b:List UInt8):List UInt8:=bytesOf (plainBits b)
theorem blockTy:SliceTy Tryz.prog 134 195 .nilIface 1 16:=SliceTy.of Tryz.underlying134 (by kernel_rfl) rfl (by decide)
structure Pl (w wr:World) (rows:List Rv) (ao:Option Addr) (c:Nat):Prop where
 own:wr.ownsRow 0 195 1 (.slice ao rows.length c) rows.length (rows.map sval)
 fr:Fr [] w wr
 new:∀x∈blk ao,w.heap.size≤x
 row:∀r∈rows,lib.Rd w r.ao r.cap r.bs∧r.bs.length≤65535
theorem Pl.push {w wr w2:World} {rows:List Rv} {ao a2:Option Addr} {c c2 n:Nat} (h:Pl w wr rows ao c) (r:Rv) (o:Obj) (hn:rows.length=n) (hr:lib.Rd w r.ao r.cap r.bs∧r.bs.length≤65535)
  (A:Appended (wr.alloc o) w2 195 1 (blk ao) a2 (n+1) c2 (rows.map sval++[sval r])):Pl w w2 (rows++[r]) a2 c2:=by
 have f1:Fr [] wr (wr.alloc o):=(Fr.refl [] wr).alloc o;refine⟨by rw[qab,qc6,qbt,hn];exact A.own,(h.fr.trans f1).step A.fr λy hy=>.inr (h.new y hy),λy hy=>?_,λx hx=>?_⟩
 ·rcases A.at_ y hy with k|k
  ·exact h.new y k
  ·have:=h.fr.size;rw[qav]at k;omega
 ·rcases qbd.1 hx with k|k
  ·exact h.row x k
  ·rw[qaz.1 k];exact hr
theorem qy6 {m n rl t n2 r2:Nat} (h:n*m+rl=t) (hb:m≤rl) (h1:n2=n+1) (h2:r2=rl-m):n2*m+r2=t:=by subst h1 h2;rw[Nat.succ_mul];omega
theorem qo0 (a:Option Addr) (cap:Nat) (b:List UInt8) (w:World) (h:lib.Rd w a cap b) (hlen:b.length≤1000000) :
  Calls Tryz.prog 79 #[.slice a b.length cap] w (NewBytes w (plainBytes b)):=by
 have H:=zhd h;clear h;go_enter Tryz.func79,Tryz.ntmps79;go_upto_block 0 with fail;go_wp2;go_loopg [0,3] b.length (λk s0 s3 wr=>∃(a0 ao:Option Addr) (c0 c rl n:Nat) (rem:List UInt8) (rows:List Rv),s0 = .slice a0 rl c0∧s3 = .slice ao n c∧rl=rem.length∧n=rows.length∧lib.Rd w a0 c0 rem∧Pl w wr rows ao c∧rem.length≤k∧rows.map Rv.bs++chunks k rem=chunks b.length b∧rows.length*65535+rem.length=b.length);case atStart=>exact⟨a,none,cap,0,b.length,0,b,[],rfl,rfl,rfl,rfl,H.out,⟨qch _ _ _ _,Fr.refl _ _,by simp[blk],by simp⟩,qag _,rfl,by simp⟩
 case round=>
  obtain⟨a0,ao,c0,c,rl,n,rem,rows,rfl,rfl,hrl,hn,hrd,hp,hk,hch,hsum⟩:=hrel;have hle:=hrd.le;rw[<-hrl]at hle hk hsum;rw[<-hn]at hsum;have HP:=zhd5 hrd hp hrl hn hch;obtain⟨_,_,hsh,o1,o2,o3⟩:=qgr hp.own;simp only[qbn]at hsh;obtain⟨rfl,_,rfl⟩:=hsh;rw[<-hn]at o1;clear hrd hp hrl hn hch;by_cases hbig:65535<rl
  ·have d1:decide ((65535:Int)<rl)=true:=by simp;omega
   obtain⟨k,rfl⟩:∃k,gk=k+1:=⟨gk-1,by omega⟩;obtain⟨m,hm⟩:∃m:Nat,m=65535:=⟨_,rfl⟩;have hsl:=λw=>qff bits.sliceU8 65535 a0 rl c0 65535 rfl (by omega) w
   have hsl2:=λw=>qdb bits.sliceU8 65535 a0 rl c0 65535 rfl (by omega) hle w
   obtain⟨rs,hrs⟩:∃rs:Rv,rs=⟨a0,c0,rem.take 65535⟩:=⟨_,rfl⟩;have hrsv:sval rs = .iface 187 (.agg #[.slice a0 65535 c0]):=by rw[hrs,sval];simp only[qar];rw[<-HP.o2,qcs (by omega)]
   have hrr:lib.Rd w rs.ao rs.cap rs.bs∧rs.bs.length≤65535:=by rw[hrs];exact⟨HP.o0.take 65535,by simp only[qar];omega⟩
   have HR:=zhd3 hrsv hrr hrs;clear hrsv hrr hrs hm;go_wp2_with (refine qa5 blockTy rfl _ _ rfl (.slice ao n c) n (rows.map sval) (blk ao) rfl (qbp _ _ _) (by rw[HP.o3];exact HP.o1.own.alloc _) (some ⟨wr.heap.size,0,none⟩) 1 1 [sval rs] rfl (by omega) (by simp) (by rw[HR.o0];exact qgx wr _ _ _) rfl (by simp[sval,Value.oneCell']) (by omega) (by unfold maxLen;omega) ?_;intro a2 c2 w6 A2;have HA:=zhd A2;clear A2);go_roundg k;case measure=>omega
   case rel=>refine⟨_,a2,_,c2,rl-65535,n+1,rem.drop 65535,rows++[rs],rfl,rfl,by rw[qau,HP.o2],by rw[qab,HP.o3];rfl,HP.o0.drop 65535 (by rw[<-HP.o2];omega),HP.o1.push rs _ HP.o3.symm HR.o1 HA.out,by rw[qau,<-HP.o2];omega,?_,qy6 hsum (by omega) (by rw[qab,<-HP.o3,qc6]) (by rw[qau,<-HP.o2])⟩;have h1:=HP.l4;rw[chunks,if_pos (by rw[<-HP.o2];exact hbig)]at h1;rw[qbt,qat,<-h1,HR.l2];rfl
  ·have d1:decide ((65535:Int)<rl)=false:=by simp;omega
   obtain⟨rs,hrs⟩:∃rs:Rv,rs=⟨a0,c0,rem⟩:=⟨_,rfl⟩;have hrsv:sval rs = .iface 187 (.agg #[.slice a0 rl c0]):=by rw[hrs,sval,HP.o2]
   have hrr:lib.Rd w rs.ao rs.cap rs.bs∧rs.bs.length≤65535:=by rw[hrs];exact⟨HP.o0,by rw[<-HP.o2];omega⟩
   have hch:(rows++[rs]).map Rv.bs=chunks b.length b:=by have h1:=HP.l4;rw[qps (by rw[<-HP.o2];omega)]at h1;rw[qbt,<-h1,hrs];rfl
   have HR:=zhd3 hrsv hrr hch;clear hrsv hrr hrs hch;go_wp2_with ((refine qa5 blockTy rfl _ _ rfl (.slice ao n c) n (rows.map sval) (blk ao) rfl (qbp _ _ _) (by rw[HP.o3];exact HP.o1.own.alloc _) (some ⟨wr.heap.size,0,none⟩) 1 1 [sval rs] rfl (by omega) (by simp) (by rw[HR.o0];exact qgx wr _ _ _) rfl (by simp[sval,Value.oneCell']) (by omega) (by unfold maxLen;omega) ?_;intro a2 c2 w6 A2;have HP2:=zhd (HP.o1.push rs _ HP.o3.symm HR.o1 A2);have o21:=A2.le;have o22:=A2.max;clear A2));have hwr:Calls Tryz.prog 82 #[.slice a2 (n+1) c2] w6 (NewBytes w6 (plainBytes b)):=by have h:=qls a2 c2 (rows++[rs]) w6 (qrc HP2.out.own) (by rw[qab,<-HP.o3];exact o21) o22 (λr hr=>⟨((HP2.out.row r hr).1).fr HP2.out.fr,(HP2.out.row r hr).2⟩) (by rw[qab,qc6];omega) (by rw[qab,<-HP.o3,qc6];omega);rw[HR.l2,qab,<-HP.o3]at h;exact h
   unfold NewBytes at hwr;refine hwr.mono ?_;rintro e w7 ⟨a7,rfl,r7,n7,f7⟩;go_wp2;go_ret;unfold NewBytes;exact⟨a7,rfl,r7,λx hx=>⟨qan HP2.out.fr.size (n7 x hx).1,(n7 x hx).2⟩,HP2.out.fr.trans f7⟩
end Go.Proofs.YtbabjlohkniciaaGreatDoor.defl
namespace Go.Proofs.YtbabjlohkniciaaGreatDoor.lib
open Go Go.RowKit
section
variable {P : Program} {w : World} {t e : TypeId} {z : Value} {size bytes : Nat}
theorem qxy {g o:Nat} {vs:List Value} (h:∀j v,vs[j]?=some v→w.cell? ⟨g,o+j,none⟩=some v):∀j v,vs[j]?=some v→w.cell? ((⟨g,o,none⟩:Addr).add j)=some v:=λj v hv=>by rw[qhe];exact h j v hv
theorem qgn (T:SliceTy P t e z size bytes) (ty:TypeId) (b:Option Addr) (n c:Nat) (olds:List Value) (hb:Cs w b olds) (hol:olds.length=n*size) (hnc:n≤c) (hbn:b=none→c=0)
  (ao:Option Addr) (m c':Nat) (news:List Value) (hc:Cs w ao news) (hl:news.length=m*size) (hfull:c<n+m)
  (hby:(n+m)*bytes≤140737488355328) (h63:n+m≤maxLen) :
  ∃cap' w',(Builtin.append_ #[t,t] ty #[.slice b n c,.slice ao m c']).run P w = .ok (.slice (some ⟨w.heap.size,0,none⟩) (n+m) cap') w'∧Appended w w' e size [] (some ⟨w.heap.size,0,none⟩) (n+m) cap' (olds++news):=by
 obtain⟨hu,⟨i,hi,hz,hs,hbt⟩,hcz,hp⟩:=T;have hsmall:n+m≤9223372036854775807:=by simp only[maxLen]at h63;omega
 have hne:0<news.length:=by rw[hl];exact Nat.mul_pos (by omega) hp
 obtain⟨g,o,rfl,hcn⟩:=hc.at hne;have hn':=qxy hcn;have key:∀(old:Nat),old<n+m→Appended w (w.drew.alloc (.cells (olds.toArray++news.toArray++Builtin.zeroCells z.cells (grownCap w (n+m) old e-(n+m))) e)) e size []
   (some ⟨w.heap.size,0,none⟩) (n+m) (grownCap w (n+m) old e) (olds++news):=by
  intro old ho
  have hge:=grownCap_ge w (n+m) old e
  have hcm:grownCap w (n+m) old e≤maxLen:=grownCap_le_maxLen w (n+m) old e h63
  refine⟨⟨by rw[qab,hol,hl,qct],.inr ⟨w.heap.size,_,_,rfl,qba _,heap_alloc_new w.drew _,hge,hcm,?_,?_⟩⟩,(Fr.drew1 [] w).alloc _,λx hx=>by right;simpa[blk] using hx,hge,hcm,λh=>by cases h⟩
  ·simp only[Array.size_append,List.size_toArray,size_zeroCells,hcz,hol,hl]
   rw[<-qct,<-qct]
   congr 1
   omega
  ·simp only[Array.toList_append]
   rw[qc2 (by simp[hol,hl,qct])]
   rw[qa9 (by simp[hol,hl,qct])]
 cases b with
 | none=>
  have hc0:=hbn rfl;subst hc0;obtain rfl:n=0:=by omega
  obtain rfl:olds=[]:=qbs (by simpa using hol);have hr:=run_append_nil (P:=P) w t ty e i z hu hi hz ⟨g,o,none⟩ m c' news (by rw[hs];exact hl) hn' (by omega) (by omega) (by rw[hbt];simp at hby;omega);have hk:=key 0 (by omega);simp only[qbe,qck,Array.empty_append]at hk ⊢;exact⟨_,_,hr,hk⟩
 | some a=>
  have ho:∀j v,olds[j]?=some v→w.cell? (a.add j)=some v:=by
   intro j v hv;rcases hb with rfl|⟨g',o',ha,hb⟩
   ·simp at hv
   ·obtain rfl:=qa2 ha;rw[qhe];exact hb j v hv
  have hfit:Builtin.nextslicecap (n+m) c*i.bytes≤281474976710656:=by rw[hbt];exact growslice_fits (by omega) (by omega)
  have hr:=run_append_grow (P:=P) w t ty e i z hu hi hz a n c olds (by rw[hs];exact hol) ho ⟨g,o,none⟩ m c' news (by rw[hs];exact hl) hn' hfull (by omega) hfit;exact⟨_,_,hr,key c hfull⟩
end
end Go.Proofs.YtbabjlohkniciaaGreatDoor.lib
namespace Go.Proofs.YtbabjlohkniciaaGreatDoor.lib
open Go Go.RowKit
def Own (w:World) (e:TypeId) (a:Option Addr) (cap:Nat) (xs:List Value):Prop:=
 (a=none∧cap=0∧xs=[])∨∃g o cur,a=some ⟨g,o,none⟩∧w.heap[g]?=some (.cells cur e (0,0))∧xs.length≤cap∧cap≤maxLen∧o+cap≤cur.size∧(cur.toList.drop o).take xs.length=xs
theorem Own.nil (w:World) (e:TypeId):Own w e none 0 []:=.inl ⟨rfl,rfl,rfl⟩
theorem Own.shape {w:World} {e:TypeId} {a:Option Addr} {cap:Nat} {xs:List Value} (h:Own w e a cap xs):xs.length≤cap∧cap≤maxLen∧(a=none→cap=0):=by
 rcases h with⟨_,rfl,rfl⟩|⟨g,o,cur,rfl,_,h1,h2,_⟩
 ·exact⟨qag _,qba _,λ_=>rfl⟩
 ·exact⟨h1,h2,λh=>by cases h⟩
theorem Own.cs {w:World} {e:TypeId} {a:Option Addr} {cap:Nat} {xs:List Value} (h:Own w e a cap xs):Cs w a xs:=by
 rcases h with⟨_,_,rfl⟩|⟨g,o,cur,rfl,hg,h1,h2,h3,h4⟩
 ·exact .inl rfl
 ·refine .inr ⟨g,o,rfl,λj v hv=>?_⟩;rw[cell_of hg,<-qci];rw[<-h4,qbl]at hv;split at hv
  ·simpa using hv
  ·cases hv
theorem Own.fr {S:List Nat} {w w':World} {e:TypeId} {a:Option Addr} {cap:Nat} {xs:List Value} (h:Own w e a cap xs) (f:Fr S w w') (hn:∀x∈blk a,x∉S):Own w' e a cap xs:=by
 rcases h with h|⟨g,o,cur,rfl,hg,r⟩
 ·exact .inl h
 ·exact .inr ⟨g,o,cur,rfl,f.blk hg (hn g (by simp[blk])),r⟩
theorem Own.lt {w:World} {e:TypeId} {a:Option Addr} {cap:Nat} {xs:List Value} (h:Own w e a cap xs):∀x∈blk a,x<w.heap.size:=by
 rcases h with⟨rfl,_⟩|⟨g,o,cur,rfl,hg,r⟩
 ·simp[blk]
 ·intro x hx;simp[blk]at hx;rw[hx];exact lt_of_block hg
theorem Own.rd {w:World} {e:TypeId} {a:Option Addr} {cap:Nat} {bs:List UInt8} (h:Own w e a cap (bs.map bv)):Rd w a cap bs:=by obtain⟨h1,h2,h3⟩:=h.shape;exact⟨h.cs,by simpa using h1,h2,h3⟩
theorem qi1 {w:World} {e:TypeId} {a:Option Addr} {n cap:Nat} {xs:List Value} (h:w.ownsRow 0 e 1 (.slice a n cap) n xs):Own w e a cap xs∧xs.length=n:=by
 have hl:xs.length=n:=by simpa using h.1
 refine⟨?_,hl⟩;rcases h.2 with⟨h1,h2⟩|⟨g,cap',cur,h1,hb,hg,hn,hm,hs,ht⟩
 ·simp only[qbn]at h1;obtain⟨rfl,h3,rfl⟩:=h1;exact .inl ⟨rfl,rfl,qbs (by omega)⟩
 ·simp only[qbn]at h1;obtain⟨rfl,_,rfl⟩:=h1;refine .inr ⟨g,0,cur,rfl,hg,by omega,hm,by omega,?_⟩;rw[qaj,hl];simpa using ht
theorem Own.take {w:World} {e:TypeId} {a:Option Addr} {cap:Nat} {xs:List Value} (h:Own w e a cap xs) (k:Nat):Own w e a cap (xs.take k):=by
 rcases h with⟨h1,h2,rfl⟩|⟨g,o,cur,rfl,hg,h1,h2,h3,h4⟩
 ·exact .inl ⟨h1,h2,by simp⟩
 ·refine .inr ⟨g,o,cur,rfl,hg,by rw[qar];omega,h2,h3,?_⟩;have e1:xs.take k=((cur.toList.drop o).take xs.length).take k:=by rw[h4]
  rw[e1,zay,qar];congr 1;have:=congrArg List.length h4;rw[qar]at this;omega
theorem Own.drop {w:World} {e:TypeId} {a:Option Addr} {cap:Nat} {xs:List Value} (h:Own w e a cap xs) (k:Nat) (hk:k≤xs.length):Own w e (cutAtN a cap k 1) (cap-k) (xs.drop k):=by
 rcases h with⟨rfl,rfl,rfl⟩|⟨g,o,cur,rfl,hg,h1,h2,h3,h4⟩
 ·obtain rfl:k=0:=by simpa using hk
  exact .inl ⟨rfl,rfl,rfl⟩
 ·unfold cutAtN;by_cases hc:cap=k
  ·rw[if_pos hc];have hx:xs.drop k=[]:=qed (by omega);rw[hx];exact .inr ⟨g,o,cur,rfl,hg,by simp,by omega,by omega,rfl⟩
  ·rw[if_neg hc];refine .inr ⟨g,o+k,cur,by simp only[qgg,qhe,qdi],hg,by rw[qau];omega,by omega,by omega,?_⟩;have e1:xs.drop k=((cur.toList.drop o).take xs.length).drop k:=by rw[h4]
   rw[e1,List.drop_take,za0,qar,qau];congr 1;have:=congrArg List.length h4;rw[qar,qau]at this;simp only[quz]at *;omega
section
variable {P : Program} {w : World} {t e : TypeId} {z : Value} {bytes : Nat}
structure OwnMore (w w':World) (e:TypeId) (a a':Option Addr) (cap':Nat) (xs:List Value):Prop where
 own:Own w' e a' cap' xs
 fr:Fr (blk a) w w'
 at_:∀x∈blk a',x∈blk a∨w.heap.size≤x
theorem qhg (T:SliceTy P t e z 1 bytes) (ty:TypeId) (a:Option Addr) (n cap:Nat) (xs:List Value) (hown:Own w e a cap xs) (hn:xs.length=n)
  (ao:Option Addr) (m c:Nat) (news:List Value) (hmc:m≤c) (hnone:ao=none→c=0) (hc:Cs w ao news) (hl:news.length=m) (h1:∀u∈news,u.oneCell'=true)
  (hby:(n+m)*bytes≤140737488355328) (h63:n+m≤maxLen) :
  ∃a' cap' w',(Builtin.append_ #[t,t] ty #[.slice a n cap,.slice ao m c]).run P w = .ok (.slice a' (n+m) cap') w'∧OwnMore w w' e a a' cap' (xs++news):=by
 subst hn;rcases hown with⟨rfl,rfl,rfl⟩|⟨g,o,cur,rfl,hg,k1,k2,k3,k4⟩
 ·obtain⟨a',cap',w',hr,A⟩:=ql7 (P:=P) T ty (.slice none 0 0) 0 [] [] rfl (qch w 0 e 1) ao m c news hmc hnone hc (by omega) h1 (by simpa using hby) (by simpa using h63);obtain⟨o1,_⟩:=qi1 A.own;exact⟨a',cap',w',by simpa using hr,o1,A.fr,λx hx=>.inr (Nat.le_of_eq (by have:=A.at_ x hx;simp at this;exact this.symm))⟩
 ·have hsz:xs.length≤cur.size-o:=by have:=congrArg List.length k4;rw[qar,qau]at this;simp only[quz]at this;omega
  by_cases hm0:m=0
  ·subst hm0;obtain rfl:news=[]:=qbs hl;obtain⟨hu,⟨i,hi,hz,hs,hbt⟩,hcz,hp⟩:=T;refine⟨some ⟨g,o,none⟩,cap,w,?_,by rw[qb0];exact .inr ⟨g,o,cur,rfl,hg,k1,k2,k3,k4⟩,Fr.refl _ _,λx hx=>.inl hx⟩;cases ao with
   | none=>
    have hc0:=hnone rfl;simp[Builtin.append_,run_underlying hu,sizeOf,typeInfo,hi,Builtin.lenOf,k1,Builtin.firstCells,storeCells]
   | some b=>have hf:=run_firstCells_some (P:=P) w i.size 0 b 0 c [] (by simp) (by simp);simp[Builtin.append_,run_underlying hu,sizeOf,typeInfo,hi,Builtin.lenOf,k1,hf,storeCells]
  ·by_cases hroom:xs.length+m≤cap
   ·obtain⟨hu,⟨i,hi,hz,hs,hbt⟩,hcz,hp⟩:=T;obtain⟨g',o',rfl,hcn⟩:=hc.at (by omega);have hn':=qxy hcn;have hf:=run_firstCells_some (P:=P) w i.size m ⟨g',o',none⟩ m c news (by rw[hs];omega) hn';have hst:=run_storeCells_at P g (o+xs.length*i.size) e news 0 cur w hg (by rw[hs];omega) h1;simp only[qb5]at hst;refine⟨some ⟨g,o,none⟩,cap,_,?_,⟨.inr ⟨g,o,_,rfl,setRow_heap w g cur (cur.toList.take (o+xs.length*i.size)++news++cur.toList.drop (o+xs.length*i.size+news.length)).toArray e (0,0) hg,by rw[qab,hl];exact hroom,k2,?_,?_⟩,⟨rfl,rfl,rfl,by simp,λk _ hk=>setRow_other w g k _ (λe=>hk (by simp[blk,e]))⟩,λx hx=>.inl hx⟩⟩
    ·simp[Builtin.append_,run_underlying hu,sizeOf,typeInfo,hi,Builtin.lenOf,hroom,hf,Addr.add_lit,hst]
    ·simp only[List.size_toArray,qab,qar,qau,quz,hs];omega
    ·simp only[hs,qdi];rw[qfq (by simp;omega),qfq (by simp;omega),List.drop_take,Nat.add_sub_cancel_left,k4,qab,hl];rw[qc2 (by simp[hl]),qa9 (by simp[hl])]
   ·have hcs:Cs w (some ⟨g,o,none⟩) xs:=Own.cs (.inr ⟨g,o,cur,rfl,hg,k1,k2,k3,k4⟩);obtain⟨cap',w',hr,A⟩:=qgn (P:=P) T ty (some ⟨g,o,none⟩) xs.length cap xs hcs (by omega) k1 (by simp) ao m c news hc (by omega) (by omega) hby h63;obtain⟨o1,_⟩:=qi1 A.own;exact⟨_,cap',w',hr,o1,A.fr.mono (by simp),λx hx=>.inr (Nat.le_of_eq (by have:=A.at_ x hx;simp at this;exact this.symm))⟩
theorem qm6 (T:SliceTy P t e z 1 bytes) {o:Oper} {A:Act} {K:Act→World→Prop} {Q:Exit→Act→World→Prop} (s x:Operand)
  (ho:o.op = .call { callee:=.builtin .append,args:=#[s,x],argTypes:=#[t,t] })
  (a:Option Addr) (n cap:Nat) (xs:List Value) (hs:A.eval s = .slice a n cap) (hown:Own w e a cap xs) (hn:xs.length=n)
  (ao:Option Addr) (m c:Nat) (news:List Value) (hx:A.eval x = .slice ao m c) (hmc:m≤c) (hnone:ao=none→c=0) (hc:Cs w ao news) (hl:news.length=m) (h1:∀u∈news,u.oneCell'=true)
  (hby:(n+m)*bytes≤140737488355328) (h63:n+m≤maxLen)
  (h:∀a' cap' w',OwnMore w w' e a a' cap' (xs++news)→K (A.put o.dst (.slice a' (n+m) cap')) w'):o.wp P A w K Q:=by
 obtain⟨a',cap',w',hr,h2⟩:=qhg (P:=P) T o.type a n cap xs hown hn ao m c news hmc hnone hc hl h1 hby h63;unfold Oper.wp execOp;simp only[ho,resolve,invoke,builtin,qus,Sem.run_pure,Result.andThen_ok,List.map_toArray,qak,qap,hs,hx,hr];exact h a' cap' w' h2
theorem qco (T:SliceTy P t e z 1 bytes) {ops:Array Oper} {rest:List Oper} {o:Oper} {A:Act} {Q:Exit→Act→World→Prop} (hgd:o.guard=none) (s x:Operand)
  (ho:o.op = .call { callee:=.builtin .append,args:=#[s,x],argTypes:=#[t,t] })
  (a:Option Addr) (n cap:Nat) (xs:List Value) (hs:A.eval s = .slice a n cap) (hown:Own w e a cap xs) (hn:xs.length=n)
  (ao:Option Addr) (m c:Nat) (news:List Value) (hx:A.eval x = .slice ao m c) (hmc:m≤c) (hnone:ao=none→c=0) (hc:Cs w ao news) (hl:news.length=m) (h1:∀u∈news,u.oneCell'=true)
  (hby:(n+m)*bytes≤140737488355328) (h63:n+m≤maxLen)
  (h:∀a' cap' w',OwnMore w w' e a a' cap' (xs++news)→wpList P ops Q rest (A.put o.dst (.slice a' (n+m) cap')) w'):wpList P ops Q (o::rest) A w:=
 wpList_plain hgd λ_ hK=>qm6 T s x ho a n cap xs hs hown hn ao m c news hx hmc hnone hc hl h1 hby h63 λa' cap' w' h2=>hK _ _ (h a' cap' w' h2)
end
end Go.Proofs.YtbabjlohkniciaaGreatDoor.lib
namespace Go.Proofs.YtbabjlohkniciaaGreatDoor.sums
open Go Go.RowKit lib bm
theorem sliceU8:SliceTy Tryz.prog 22 5 (.int .u8 0) 1 1:=SliceTy.of Tryz.underlying22 (by kernel_rfl) rfl (by decide)
theorem qev (bs:List UInt8):∀u∈bs.map bv,u.oneCell'=true:=by intro u hu;obtain⟨b,_,rfl⟩:=qb8.1 hu;rfl
def ad:Nat→Nat→List UInt8→Nat×Nat
 | a,b,[]=>(a,b)
 | a,b,c::t=>ad ((a+c.toNat)%65521) ((b+(a+c.toNat)%65521)%65521) t
theorem zd1:∀(a b:Nat) (l:List UInt8),a<65521→b<65521→(ad a b l).1<65521∧(ad a b l).2<65521
 | _,_,[],ha,hb=>⟨ha,hb⟩
 | a,b,c::t,_,_=>zd1 _ _ t (qd4 _ (by decide)) (qd4 _ (by decide))
def adler (l:List UInt8):Nat:=(ad 1 0 l).2*65536+(ad 1 0 l).1
theorem qhd (l:List UInt8):adler l<4294967296:=by have:=zd1 1 0 l (by decide) (by decide);unfold adler;omega
def Ad (w:World) (g a b:Nat):Prop:=
 ∃C,w.heap[g]?=some (.cells C 143 (0,0))∧C.size=267∧C[0]?=some (.int .i64 3)∧C[265]?=some (.int .u32 a)∧C[266]?=some (.int .u32 b)∧a<65521∧b<65521
theorem qrl (w:World):Calls Tryz.prog 90 #[.int .i64 3] w λe w'=>e = .returned (.pointer (some ⟨w.heap.size,0,none⟩))∧Ad w' w.heap.size 1 0∧Fr [] w w':=by go_enter Tryz.func90,Tryz.ntmps90;go_wp2;go_ret;exact⟨rfl,⟨_,qa4 w _,rfl,rfl,rfl,rfl,by decide,by decide⟩,(Fr.refl [] w).alloc _⟩
theorem qp6 (g a0 b0 cap:Nat) (ao:Option Addr) (bs:List UInt8) (w:World) (h:Ad w g a0 b0) (hr:Rd w ao cap bs) (hng:bs≠[]→∀x∈blk ao,x≠g) :
  Calls Tryz.prog 55 #[.pointer (some ⟨g,0,none⟩),.slice ao bs.length cap] w λe w'=>e = .returned (.tuple #[])∧Fr [g] w w'∧Ad w' g (ad a0 b0 bs).1 (ad a0 b0 bs).2:=by
 obtain⟨C,hC,hsz,hc0,_⟩:=h;have c0:=cell_of hC 0;rw[hc0]at c0;obtain⟨L,hL⟩:=zex bs.length;have hle:=hr.le;have hmax:=hr.max;unfold maxLen at hmax;rw[<-hL]at hle ⊢;have H:=zhd4 (show Ad w g a0 b0 from ⟨C,hC,hsz,hc0,‹_›⟩) hr hng hL;clear hr hng hL hC hsz hc0;go_enter Tryz.func55,Tryz.ntmps55;go_upto_block 5 with fail;clear c0;go_wp2;go_loopg [7,93] L (λk s7 s93 wr=>∃i a b:Nat,s93 = .int .i64 (i:Nat)∧i+k=L∧Ad wr g a b∧Fr [g] w wr∧ad a b (bs.drop i)=ad a0 b0 bs);case atStart=>exact⟨0,a0,b0,rfl,by omega,H.o0,Fr.refl _ _,rfl⟩
 case round=>
  obtain⟨i,a,b,rfl,hik,hA,hf,had⟩:=hrel;by_cases hi:i<L
  ·obtain⟨k,rfl⟩:∃k,gk=k+1:=⟨gk-1,by omega⟩;have hib:i<bs.length:=by rw[<-H.l3];exact hi
   have hbn:bs≠[]:=by intro e;rw[e]at hib;simp at hib
   have hrr:=qji H.o1 hf (λhb x hx hm=>H.o2 hb x hx (by simpa using hm));obtain⟨g1,o1,rfl,cc⟩:=hrr.at hib;have hdr:bs.drop i=bs[i]::bs.drop (i+1):=qbm hib;rw[hdr,ad]at had;have hc256:=qbo bs[i];generalize bs[i].toNat=c at *;obtain⟨C,hC,hsz,hc0,ha1,hb1,hla,hlb⟩:=hA;have ca:=cell_of hC 265;rw[ha1]at ca;have za:=qay hC 265;obtain⟨a2,ha2⟩:=zex ((a+c)%65521);obtain⟨b2,hb2⟩:=zex ((b+a2)%65521);rw[<-ha2,<-hb2]at had;have e1:((a:Int)+(c:Int))%65521=(a2:Int):=by omega
   have e2:((b:Int)+(a2:Int))%65521=(b2:Int):=by omega
   have hla2:a2<65521:=by omega
   have hlb2:b2<65521:=by omega
   have HC:=zhd6 hC hsz hc0 hb1 hf had;clear hC hsz hc0 hb1 hf had ha1 ha2 hb2 hdr hrr hib;go_upto_region 18 with fail;have f2:Fr [g] wr (wr.setCell ⟨g,265,none⟩ (.int .u32 a2)):=(Fr.refl [g] wr).setCell (by simp) _;have hC2:=qa0 (o:=265) HC.o0 (.int .u32 a2);generalize wr.setCell ⟨g,265,none⟩ (.int .u32 a2)=w2 at *;have ca2:=cell_of hC2 265;have cb2:=cell_of hC2 266;have zb:=qay hC2 266;rw[qaq (by rw[HC.o1];decide)]at ca2;rw[qac (by decide),HC.o3]at cb2;have HC2:=zhd2 hC2 f2;clear ca za cc hC2 f2;refine qcl 13 (by kernel_rfl) (by kernel_rfl) ?_;simp only[qai,qao,qah,qaj];repeat (go_big_quiet_step (fail))
   refine wpQuiet_nil ?_;go_wp2;go_roundg k;case measure=>omega
   case rel=>
    have f3:Fr [g] w2 w2.drew:=Fr.drew1 [g] w2;have hC3:=f3.block g (lt_of_block HC2.o0);have hC4:(w2.drew).heap[g]?=_:=HC2.o0;have hC5:=qa0 (o:=266) hC4 (.int .u32 b2);refine⟨i+1,a2,b2,by go_num,by omega,⟨_,hC5,by simp[HC.o1],?_,?_,?_,hla2,hlb2⟩,((HC.o4.trans HC2.l1).trans f3).setCell (by simp) _,HC.l5⟩
    ·rw[qac (by decide),qac (by decide),HC.o2]
    ·rw[qac (by decide),qaq (by rw[HC.o1];decide)]
    ·rw[qaq (by rw[Array.size_setIfInBounds,HC.o1];decide)]
  ·obtain rfl:gk=0:=by omega
   obtain rfl:i=L:=by omega
   have hd:bs.drop i=[]:=qed (by rw[<-H.l3];exact qag _);rw[hd,ad]at had;have HA:=zhd3 hA hf had;clear hA hf had hd;go_wp2;go_end0;exact⟨rfl,HA.o1,by rw[<-HA.l2];exact HA.o0⟩
def be4 (x:Nat):List UInt8:=[UInt8.ofNat (x/16777216),UInt8.ofNat (x/65536),UInt8.ofNat (x/256),UInt8.ofNat x]
theorem qdg (x:Nat):(be4 x).length=4:=rfl
theorem qyh (x:Nat) (h:x<4294967296):(be4 x).map bv=[.int .u8 ((x:Int)/16777216),.int .u8 ((x:Int)/65536%256),.int .u8 ((x:Int)/256%256),.int .u8 ((x:Int)%256)]:=by simp only[be4,qak,qap,bv,qb6];refine qe2.2 ⟨int_eq (by omega),qe2.2 ⟨int_eq (by omega),qe2.2 ⟨int_eq (by omega),qe2.2 ⟨int_eq (by omega),rfl⟩⟩⟩⟩
theorem qyg (x:Nat) (h:x<4294967296) (b:List UInt8) (hb:b=be4 x):(b[0]?.getD 0).toNat*16777216+(b[1]?.getD 0).toNat*65536+(b[2]?.getD 0).toNat*256+(b[3]?.getD 0).toNat=x:=by subst hb;show (UInt8.ofNat (x/16777216)).toNat*16777216+(UInt8.ofNat (x/65536)).toNat*65536+(UInt8.ofNat (x/256)).toNat*256+(UInt8.ofNat x).toNat=x;simp only[qb6];omega
def Foured (w:World) (ao:Option Addr) (bs:List UInt8) (x:Nat) (e:Ending) (w':World):Prop:=
 ∃a c,e = .returned (.slice a (bs.length+4) c)∧OwnMore w w' 5 ao a c ((bs++be4 x).map bv)
theorem qj0 (ao:Option Addr) (cap:Nat) (bs:List UInt8) (x:Nat) (w:World) (hx:x<4294967296) (h:Own w 5 ao cap (bs.map bv)) (hm:bs.length≤140737488351232) :
  Calls Tryz.prog 92 #[.slice ao bs.length cap,.int .u32 x] w (Foured w ao bs x):=by
 obtain⟨L,hL⟩:=zex bs.length;obtain⟨o1,o2,o3⟩:=h.shape;rw[qa8,<-hL]at o1;rw[<-hL]at hm ⊢;have hb4:=qyh x hx;have H:=zhd3 h hL hb4;have f1:Fr [] w (w.alloc (.cells #[.int .u8 ((x:Int)/16777216),.int .u8 ((x:Int)/65536%256),.int .u8 ((x:Int)/256%256),.int .u8 ((x:Int)%256)] 5)):=(Fr.refl [] w).alloc _;have HF:=zhd f1;clear h hL hb4 f1;go_enter Tryz.func92,Tryz.ntmps92;go_wp2_with (refine qco sliceU8 rfl _ _ rfl ao L cap (bs.map bv) rfl (H.o0.fr HF.out (by simp)) (by rw[qa8];exact H.o1.symm) (some ⟨w.heap.size,0,none⟩) 4 4 ((be4 x).map bv) rfl (by omega) (by simp) (by rw[H.l2];exact qgx w _ _ _) rfl (qev _) (by omega) (by unfold maxLen;omega) ?_;intro a1 c1 w1 A1;have H1:=zhd A1;clear A1);go_ret;unfold Foured;rw[<-H.o1,qbt];refine⟨a1,c1,rfl,H1.out.own,HF.out.mono (by simp) |>.step H1.out.fr (λy hy=>.inl hy),λy hy=>?_⟩;rcases H1.out.at_ y hy with k|k
 ·exact .inl k
 ·right;rw[qav]at k;omega
theorem qk3 (n v k:Nat) (hv:v<2^k) (hk:k≤32) (hn:n<4294967296) (hd:n%2^k=0):bits .or .u32 (n:Int) (v:Int)=((n+v:Nat):Int):=by
 have h1:=qjj k 32 hk;rw[p32]at h1;have e:n=n/2^k*2^k:=by have:=quu n (2^k);rw[hd,qb5,qcd]at this;exact this.symm
 rw[u32_or_nat n v hn (by omega)];conv=>lhs;rw[e,Nat.or_comm,qmh v _ k hv,qcd (2^k),<-e,qil]
theorem qqm (a:Option Addr) (cap:Nat) (y0 y1 y2 y3:UInt8) (w:World) (h:Rd w a cap [y0,y1,y2,y3]) :
  Calls Tryz.prog 85 #[.slice a 4 cap] w λe w'=>e = .returned (.int .u32 (y0.toNat*16777216+y1.toNat*65536+y2.toNat*256+y3.toNat:Nat))∧Fr [] w w':=by
 obtain⟨g,o,rfl,c0⟩:=h.at (i:=0) (by simp);obtain⟨g1,o1,e1,c1⟩:=h.at (i:=1) (by simp);obtain⟨g2,o2,e2,c2⟩:=h.at (i:=2) (by simp);obtain⟨g3,o3,e3,c3⟩:=h.at (i:=3) (by simp);simp only[qas,qcg,and_true]at e1 e2 e3;obtain⟨rfl,rfl⟩:=e1;obtain⟨rfl,rfl⟩:=e2;obtain⟨rfl,rfl⟩:=e3;have hle:=h.le;simp only[qam,qbb]at hle;have l0:=qbo y0;have l1:=qbo y1;have l2:=qbo y2;have l3:=qbo y3;simp only[qb5,List.getElem_cons_zero,List.getElem_cons_succ]at c0 c1 c2 c3;generalize y0.toNat=x0 at *;generalize y1.toNat=x1 at *;generalize y2.toNat=x2 at *;generalize y3.toNat=x3 at *;obtain⟨z1,hz1⟩:∃z,z=x0*16777216+x1*65536:=⟨_,rfl⟩;obtain⟨z2,hz2⟩:∃z,z=z1+x2*256:=⟨_,rfl⟩;obtain⟨z3,hz3⟩:∃z,z=z2+x3:=⟨_,rfl⟩;have r1:bits .or .u32 ((x0:Int)*16777216) ((x1:Int)*65536)=(z1:Int):=by have:=qk3 (x0*16777216) (x1*65536) 24 (by omega) (by decide) (by omega) (by omega);rw[<-hz1]at this;simpa using this
 have r2:bits .or .u32 (z1:Int) ((x2:Int)*256)=(z2:Int):=by have:=qk3 z1 (x2*256) 16 (by omega) (by decide) (by omega) (by omega);rw[<-hz2]at this;simpa using this
 have r3:bits .or .u32 (z2:Int) (x3:Int)=(z3:Int):=by have:=qk3 z2 x3 8 (by omega) (by decide) (by omega) (by omega);rw[<-hz3]at this;exact this
 have HZ:Hid (x0*16777216+x1*65536+x2*256+x3=z3):=zhd (by omega);clear hz1 hz2 hz3 h;go_enter Tryz.func85,Tryz.ntmps85;go_wp2;go_quiet (fail);go_wp2;go_ret;exact⟨by rw[HZ.out];rfl,Fr.drewN _ _ _⟩
theorem qt0 (a:Option Addr) (cap x:Nat) (w:World) (hx:x<4294967296) (h:Rd w a cap (be4 x)) :
  Calls Tryz.prog 85 #[.slice a 4 cap] w λe w'=>e = .returned (.int .u32 x)∧Fr [] w w':=by
 have h1:=qqm a cap _ _ _ _ w h;have h2:=qyg x hx _ rfl;have e:(UInt8.ofNat (x/16777216)).toNat*16777216+(UInt8.ofNat (x/65536)).toNat*65536+(UInt8.ofNat (x/256)).toNat*256+(UInt8.ofNat x).toNat=x:=h2;rw[e]at h1;exact h1
theorem qvb (g a b:Nat) (w:World) (h:Ad w g a b):Calls Tryz.prog 57 #[.pointer (some ⟨g,0,none⟩)] w λe w'=>(∃ao c,e = .returned (.slice ao 4 c)∧Rd w' ao c (be4 (b*65536+a)))∧Fr [] w w':=by
 obtain⟨C,hC,hsz,hc0,ha,hb,hla,hlb⟩:=h;have c0:=cell_of hC 0;have c1:=cell_of hC 265;have c2:=cell_of hC 266;rw[hc0]at c0;rw[ha]at c1;rw[hb]at c2;obtain⟨z,hz⟩:=zex (b*65536+a);have r1:bits .or .u32 ((b:Int)*65536) (a:Int)=(z:Int):=by have:=qk3 (b*65536) a 16 (by omega) (by decide) (by omega) (by omega);rw[<-hz]at this;simpa using this
 have hzl:z<4294967296:=by omega
 rw[<-hz];have HC:=zhd hC;clear hz hC hsz hc0 ha hb;go_enter Tryz.func57,Tryz.ntmps57;go_upto_region 5 with fail;have hgl:=lt_of_block HC.out;obtain⟨B,hB⟩:=zex w.heap.size;have hgB:g∉[B]:=by simp;omega
 have s1:∀x,(sup [B] w.drew x).cell? ⟨g,265,none⟩=some (.int .u32 a):=λx=>(qes [B] w.drew x).cell (show w.drew.cell? _=_ from c1) hgB
 have s2:∀x,(sup [B] w.drew x).cell? ⟨g,266,none⟩=some (.int .u32 b):=λx=>(qes [B] w.drew x).cell (show w.drew.cell? _=_ from c2) hgB
 have hmk:∀w:World,(Instr.makeSlice 22 (.int .i64 0) (.int .i64 4)).run Tryz.prog w = .ok (.slice (some ⟨w.heap.size,0,none⟩) 0 4) (w.alloc (.cells #[.int .u8 0,.int .u8 0,.int .u8 0,.int .u8 0] 5)):=λ_=>by kernel_rfl
 have hfo:∀w,Own w 5 (some ⟨B,0,none⟩) 4 (([]:List UInt8).map bv)→Calls Tryz.prog 92 #[.slice (some ⟨B,0,none⟩) 0 4,.int .u32 z] w (Foured w (some ⟨B,0,none⟩) [] z):=λw h=>qj0 (some ⟨B,0,none⟩) 4 [] z w hzl h (by simp)
 unfold Foured at hfo;simp only[qbb,qbe,qck]at hfo;have HB:=zhd2 hB hfo;clear hB hfo c0 c1 c2;refine qcj 13 [(false,1),(false,2),(false,3),(false,4),(false,5),(false,6),(false,7),(false,8),(false,9),(false,10),(true,0),(true,11),(false,12)] [B] (by kernel_rfl) (by kernel_rfl) (λ_ _ d _ _ h=>by cases d<;>exact h) ?_;simp only[qak,qap,qbh,qbi,qah,qaj,qce];refine qb9 10 rfl ?_;simp only[qai,qao,qah,qaj,qak,qap];repeat (go_big_quiet_step (fail))
 refine wpQuiet_nil ?_;refine qc5 rfl ?_;intro X hX;have hBd:w.drew.heap.size=B:=HB.o0.symm;go_wp2;have f1:Fr [B] w.drew ((w.alloc (.cells #[.int .u8 0,.int .u8 0,.int .u8 0,.int .u8 0] 5)).drew):=(Fr.refl [B] w.drew).alloc (.cells #[.int .u8 0,.int .u8 0,.int .u8 0,.int .u8 0] 5);have hown:Own ((w.alloc (.cells #[.int .u8 0,.int .u8 0,.int .u8 0,.int .u8 0] 5)).drew) 5 (some ⟨B,0,none⟩) 4 (([]:List UInt8).map bv):=.inr ⟨B,0,_,rfl,by rw[HB.o0];exact qa4 w _,qba _,by decide,qag _,rfl⟩;refine hX.out _ _ f1 ?_;clear hX X s1 s2 hmk;generalize (w.alloc (.cells #[.int .u8 0,.int .u8 0,.int .u8 0,.int .u8 0] 5)).drew=w1 at *;have H1:=zhd2 (HB.l1 w1 hown) f1;clear hown f1 hBd;refine qc5 rfl ?_;intro X hX;go_wp2_with (go_at_call 92;refine H1.o0.mono ?_;rintro e w2 ⟨a2,c2,rfl,A2⟩);refine hX.out _ _ A2.fr ?_;clear hX X;have H2:=zhd A2;clear A2;refine qb9 1 rfl ?_;simp only[qai,qao,qah,qaj,qak,qap];repeat (go_big_quiet_step (fail))
 refine wpQuiet_nil ?_;refine qc4 ?_;go_wp2;go_ret;have hr:Rd w2 a2 c2 (be4 z):=H2.out.own.rd;refine⟨⟨a2,c2,rfl,hr.fr (by first|exact Fr.refl _ _|exact Fr.drewN _ _ _)⟩,?_⟩;have f2:Fr [] w w.drew:=Fr.drew1 [] w;exact ((f2.step H1.l1 (λy hy=>.inr (by simp at hy;rw[hy,HB.o0];exact qag _))).step H2.out.fr (λy hy=>.inr (by simp[blk]at hy;rw[hy,HB.o0];exact qag _)))
theorem qp8 (a:Option Addr) (cap:Nat) (bs:List UInt8) (w:World) (h:Rd w a cap bs):Calls Tryz.prog 86 #[.int .i64 3,.slice a bs.length cap] w λe w'=>(∃ao c,e = .returned (.slice ao 4 c)∧Rd w' ao c (be4 (adler bs)))∧Fr [] w w':=by have H:=zhd h;clear h;go_enter Tryz.func86,Tryz.ntmps86;go_upto_region 2 with (go_at_call 90;refine (qrl _).mono ?_;rintro e w1 ⟨rfl,A1,f1⟩);have hw:=qp6 w.heap.size 1 0 cap a bs w1 A1 (H.out.fr f1) (λhb x hx=>by have:=qts H.out hb x hx;omega);have H1:=zhd2 hw f1;clear hw f1 A1;go_upto_region 3 with (go_at_call 55;refine H1.o0.mono ?_;rintro e w2 ⟨rfl,f2,A2⟩);have hs:=qvb _ _ _ w2 A2;have H2:=zhd2 hs f2;clear hs f2 A2;go_wp2_with (go_at_call 57;refine H2.o0.mono ?_;rintro e w3 ⟨⟨a3,c3,rfl,r3⟩,f3⟩);go_ret;exact⟨⟨a3,c3,rfl,r3⟩,(H1.l1.step H2.l1 (λy hy=>.inr (by simp at hy;rw[hy];exact qag _))).trans f3⟩
theorem qp3 (a:Option Addr) (cap:Nat) (bs:List UInt8) (w:World) (h:Rd w a cap bs):Calls Tryz.prog 50 #[.slice a bs.length cap] w λe w'=>e = .returned (.int .u32 (adler bs))∧Fr [] w w':=by
 have hw:=qp8 a cap bs w h;have hn:=λa cap w h=>qt0 a cap (adler bs) w (qhd bs) h
 have H:=zhd2 hw hn;clear hw hn h;go_enter Tryz.func50,Tryz.ntmps50;go_wp2_with (first|(go_at_call 86;refine H.o0.mono ?_;rintro e w1 ⟨⟨a1,c1,rfl,r1⟩,f1⟩;have H1:=zhd2 r1 f1;clear r1 f1)|(go_at_call 85;refine (H.l1 a1 c1 _ H1.o0).mono ?_;rintro e w2 ⟨rfl,f2⟩));go_ret;exact⟨rfl,H1.l1.trans f2⟩
end Go.Proofs.YtbabjlohkniciaaGreatDoor.sums
namespace Go.Proofs.YtbabjlohkniciaaGreatDoor.defl
open Go Go.RowKit lib bm bl wb
theorem qzi (a:Option Addr) (cap:Nat) (b:List UInt8) (level:Int) (w:World) (h:lib.Rd w a cap b) (hlen:b.length≤1000000) (hl:level≤0) :
  Calls Tryz.prog 49 #[.slice a b.length cap,.int .i64 level] w (NewBytes w (plainBytes b)):=by
 have hp:=qo0 a cap b w h hlen;unfold NewBytes at hp;have H:=zhd hp;have d0:decide (level≤0)=true:=by simpa using hl
 clear hp h;go_enter Tryz.func49,Tryz.ntmps49;go_wp2_with (go_at_call 79;refine H.out.mono ?_;rintro e w1 ⟨a1,rfl,r1,n1,f1⟩);go_ret;unfold NewBytes;exact⟨a1,rfl,r1,n1,f1⟩
def zsec (level:Int):UInt8:=if level≤0 then 1 else if level=1 then 94 else 156
def zlibOf (level:Int) (r b:List UInt8):List UInt8:=[120,zsec level]++r++sums.be4 (sums.adler b)
def OwnNew (w:World) (bs:List UInt8) (e:Ending) (w':World):Prop:=
 ∃a,e = .returned (.slice a bs.length bs.length)∧Own w' 5 a bs.length (bs.map bv)∧(∀x∈blk a,w.heap.size≤x∧x<w'.heap.size)∧Fr [] w w'
theorem qzp {w:World} {e:TypeId} {a:Option Addr} {cap n:Nat} {xs:List Value} (h:Own w e a cap xs) (hn:xs.length=n):Own w e a n xs:=by
 rcases h with⟨h1,h2,h3⟩|⟨g,o,cur,h1,h2,h3,h4,h5,h6⟩
 ·exact .inl ⟨h1,by rw[<-hn,h3];rfl,h3⟩
 ·exact .inr ⟨g,o,cur,h1,h2,by omega,by omega,by omega,h6⟩
theorem qys (a:Option Addr) (cap:Nat) (b:List UInt8) (Qr:List UInt8→Prop) (level:Int) (w:World) (h:lib.Rd w a cap b) (hrl:∀r,Qr r→r.length≤100000000)
  (hraw:∀w',Fr [] w w'→Calls Tryz.prog 49 #[.slice a b.length cap,.int .i64 level] w' λe w''=>∃r,Qr r∧NewBytes w' r e w'') :
  Calls Tryz.prog 21 #[.slice a b.length cap,.int .i64 level] w λe w'=>∃r,Qr r∧OwnNew w (zlibOf level r b) e w':=by
 obtain⟨Q,hQ⟩:=zex w.heap.size;have f0:Fr [] w (w.alloc (.cells #[.int .u8 120,.int .u8 156] 5)):=(Fr.refl [] w).alloc _;have hb0:(w.alloc (.cells #[.int .u8 120,.int .u8 156] 5)).heap[Q]?=some (.cells #[.int .u8 120,.int .u8 156] 5 (0,0)):=by rw[hQ];exact qa4 w _
 have c1:=cell_of hb0 1;have z1:=qay hb0 1;simp only[qae,qaa,qad]at c1;have H:=zhd5 h hraw hQ f0 hb0;clear h hraw f0 hb0;go_enter Tryz.func21,Tryz.ntmps21;go_upto_block 0 with fail;rw[<-hQ];generalize (w.alloc (.cells #[.int .u8 120,.int .u8 156] 5))=w0 at *;clear hQ;go_cut [] from 8 to 18 (λwz=>wz.heap[Q]?=some (.cells #[.int .u8 120,bv (zsec level)] 5 (0,0))∧Fr [] w wz)
 case first=>
  by_cases hl:level≤0
  ·have d0:decide (level≤0)=true:=by simpa using hl
   have hz:zsec level=1:=if_pos hl;have HZ:=zhd hz;clear hz;go_wp2;go_meet;rw[HZ.out];exact⟨qa0 (o:=1) H.l4 _,H.o3.setCell (by right;show w.heap.size≤Q;rw[H.o2];exact qag _) _⟩
  ·have d0:decide (level≤0)=false:=by simp;omega
   by_cases h1:level=1
   ·subst h1;go_wp2;go_meet;exact⟨qa0 (o:=1) H.l4 _,H.o3.setCell (by right;show w.heap.size≤Q;rw[H.o2];exact qag _) _⟩
   ·have d1:(level==1)=false:=by simpa using h1
    have hz:zsec level=156:=by unfold zsec;rw[if_neg hl,if_neg h1]
    have HZ:=zhd hz;clear hz;go_wp2;go_meet;rw[HZ.out];exact⟨H.l4,H.o3⟩
 case rest=>
 obtain⟨hbq,hfq⟩:=hcut;obtain⟨w1,rfl⟩:∃w1:World,w1=wc:=⟨_,rfl⟩;have hr:=H.o1 w1 hfq;unfold NewBytes at hr;have H1:=zhd3 hbq hfq hr;have HRL:=zhd hrl;clear hbq hfq hr c1 z1 hrl;go_upto_region 7 with (first|(go_at_call 49;refine H1.l2.mono ?_;rintro e w2 ⟨r,hq,a2,he,r2,n2,f2⟩;obtain⟨L,hL⟩:∃L,L=r.length:=⟨_,rfl⟩;rw[<-hL]at he r2;subst he;have hrl:=HRL.out r hq;rw[<-hL]at hrl;have HL:=zhd hL;have HQ:=zhd hq;clear hL hq;have H2:=zhd3 r2 n2 f2;clear r2 n2 f2)|(refine qco bits.sliceU8 rfl _ _ rfl (some ⟨Q,0,none⟩) 2 2 [.int .u8 120,bv (zsec level)] rfl (.inr ⟨Q,0,_,rfl,H2.l2.blk H1.o0 (by simp),qag _,by decide,qag _,rfl⟩) rfl a2 L L (r.map bv) rfl (qag _) H2.o0.nil H2.o0.cs (by rw[qa8,HL.out]) (bits.qev _) (by omega) (by unfold maxLen;omega) ?_;intro a3 c3 w3 A3;have H3:=zhd A3;clear A3));have f03:Fr [] w w3:=(H1.o1.trans H2.l2).step H3.out.fr (λy hy=>.inr (by simp[blk]at hy;rw[hy,H.o2];exact qag _));have hQ2:Q<w1.heap.size:=lt_of_block H1.o0;have n3:∀x∈blk a3,w.heap.size≤x:=λx hx=>by
  have h1:=H2.l2.size;have h2:=H.o2;rcases H3.out.at_ x hx with k|k
  ·simp[blk]at k;omega
  ·omega
 have had:=sums.qp3 a cap b w3 (H.o0.fr f03);have hbe:=sums.qyh (sums.adler b) (sums.qhd b);have hxl:=sums.qhd b;obtain⟨x,hx⟩:=zex (sums.adler b);rw[<-hx]at had hbe hxl;have H4:=zhd5 f03 n3 had hbe hx;clear f03 n3 had hbe hQ2 hx;go_upto_region 8 with (go_at_call 50;refine H4.o2.mono ?_;rintro e w4 ⟨rfl,f4⟩);have f5:Fr [] w4 (w4.alloc (.cells #[.int .u8 ((x:Int)/16777216),.int .u8 ((x:Int)/65536%256),.int .u8 ((x:Int)/256%256),.int .u8 ((x:Int)%256)] 5)):=(Fr.refl [] w4).alloc _;have o5:=(H3.out.own.fr f4 (by simp)).fr f5 (by simp);have H5:=zhd3 f5 o5 f4;clear f5 o5 f4;have hc3:=H5.o1.shape;have hc4:2+L≤c3:=by have:=hc3.1;simp only[qab,qam,qbb,qa8]at this;rw[HL.out];omega
 obtain⟨N,hN⟩:=zex (2+L+4);clear hc3;go_upto_region 9 with (refine qco bits.sliceU8 rfl _ _ rfl a3 (2+L) c3 ([.int .u8 120,bv (zsec level)]++r.map bv) rfl H5.o1 (by simp only[qab,qam,qbb,qa8];rw[HL.out]) (some ⟨w4.heap.size,0,none⟩) 4 4 ((sums.be4 x).map bv) rfl (by omega) (by simp) (by rw[H4.o3];exact qgx w4 _ _ _) rfl (bits.qev _) (by omega) (by unfold maxLen;omega) ?_;intro a6 c6 w6 A6;have H6:=zhd A6;clear A6);rw[<-hN];have hzl:(zlibOf level r b).map bv=[.int .u8 120,bv (zsec level)]++r.map bv++(sums.be4 x).map bv:=by unfold zlibOf;rw[qbt,qbt,<-H4.l4];rfl
 have hzn:(zlibOf level r b).length=N:=by unfold zlibOf;rw[qab,qab,<-HL.out,hN];rfl
 have ho:=H6.out.own;rw[<-hzl]at ho;obtain⟨s1,s2,s3⟩:=ho.shape;rw[qa8,hzn]at s1;have hsl:=λw=>qfl bits.sliceU8 N a6 c6 s1 w
 have HZ:=zhd2 ho hzn;clear ho hzn hzl hN;go_wp2;go_ret;unfold OwnNew;have hz4:w4.heap.size≤w6.heap.size:=qan H5.o0.size H6.out.fr.size;refine⟨r,HQ.out,?_⟩;rw[HZ.out.2];refine⟨a6,rfl,qzp HZ.out.1 (by rw[qa8,HZ.out.2]),λy hy=>⟨?_,HZ.out.1.lt y hy⟩,(H4.o0.trans H5.l2).step (H5.o0.mono (T:=blk a3) (by simp) |>.trans (H6.out.fr)) (λy hy=>.inr (H4.o1 y hy))⟩;have k0:=H4.o0.size;have k1:=H5.l2.size;have k2:=H5.o0.size;rcases H6.out.at_ y hy with k|k
 ·exact H4.o1 y k
 ·omega
end Go.Proofs.YtbabjlohkniciaaGreatDoor.defl
