/-
  Texts of this proof, one behind the other: SumB, Zlib, TokBits, CutRuns.
-/
import Derived.Test.YticadfhpolhkeaaGreatDoorQ8
set_option maxHeartbeats 16000000
set_option maxRecDepth 100000
set_option linter.unusedVariables false
set_option linter.unusedSimpArgs false
namespace Go.Proofs.YticadfhpolhkeaaGreatDoor
namespace sums
open Go Go.RowKit lib bm
def iI (x:Nat):List UInt8:=[UInt8.ofNat (x/16777216),UInt8.ofNat (x/65536),UInt8.ofNat (x/256),UInt8.ofNat x]
theorem yJ (x:Nat):(iI x).length=4:=rfl
theorem XC (x:Nat) (h:x<4294967296):(iI x).map bv=[.int .u8 ((x:Int)/16777216),.int .u8 ((x:Int)/65536%256),.int .u8 ((x:Int)/256%256),.int .u8 ((x:Int)%256)]:=by simp only[iI,jL,qg,bv,xd];refine De.2 ⟨int_eq (by omega),De.2 ⟨int_eq (by omega),De.2 ⟨int_eq (by omega),De.2 ⟨int_eq (by omega),rfl⟩⟩⟩⟩
theorem XD (x:Nat) (h:x<4294967296) (b:LB) (hb:b=iI x):(b[0]?.getD 0).toNat*16777216+(b[1]?.getD 0).toNat*65536+(b[2]?.getD 0).toNat*256+(b[3]?.getD 0).toNat=x:=by subst hb;show (UInt8.ofNat (x/16777216)).toNat*16777216+(UInt8.ofNat (x/65536)).toNat*65536+(UInt8.ofNat (x/256)).toNat*256+(UInt8.ofNat x).toNat=x;simp only[xd];omega
def lG (w:World) (ao:OA) (bs:LB) (x:Nat) (e:Ending) (w':World):Prop:=
 ∃a c,e = .returned (.slice a (bs.length+4) c)/\gG w w' 5 ao a c ((bs++iI x).map bv)
theorem Pf (ao:OA) (cap:Nat) (bs:LB) (x:Nat) (w:World) (hx:x<4294967296) (h:ek w 5 ao cap (bs.map bv)) (hm:bs.length<=140737488351232) :
  Calls Tryz.prog 115 #[.slice ao bs.length cap,.int .u32 x] w (lG w ao bs x):=by
 obtain⟨L,hL⟩:=ah bs.length;obtain⟨o1,o2,o3⟩:=h.shape;rw[gx,<-hL]at o1;rw[<-hL]at hm ⊢;have yh:=XC x hx;have H:=aq h hL yh;have f1:Fr [] w (w.alloc (.cells #[.int .u8 ((x:Int)/16777216),.int .u8 ((x:Int)/65536%256),.int .u8 ((x:Int)/256%256),.int .u8 ((x:Int)%256)] 5)):=(Fr.refl [] w).alloc _;have HF:=af f1;clear h hL yh f1;go_enter Tryz.func115,Tryz.ntmps115;go_wp2_with (refine E8 aE rfl _ _ rfl ao L cap (bs.map bv) rfl (H.o0.fr HF.out (by simp)) (by rw[gx];exact H.o1.symm) (some ⟨w.heap.size,0,none⟩) 4 4 ((iI x).map bv) rfl (by omega) (by simp) (by rw[H.l2];exact oC w _ _ _) rfl (qI _) (by omega) (by unfold maxLen;omega) ?_;intro a1 c1 w1 A1;have H1:=af A1;clear A1);go_ret;unfold lG;rw[<-H.o1,jd];refine⟨a1,c1,rfl,H1.out.own,HF.out.mono (by simp) |>.step H1.out.fr (λy hy=>.inl hy),λy hy=>?_⟩;rcases H1.out.at_ y hy with k|k
 ·exact .inl k
 ·right;rw[ik]at k;omega
theorem Aj (n v k:Nat) (hv:v<2^k) (hk:k<=32) (hn:n<4294967296) (hd:n%2^k=0):bits .or .u32 (n:Int) (v:Int)=((n+v:Nat):Int):=by
 have h1:=C2 k 32 hk;rw[Lf]at h1;have e:n=n/2^k*2^k:=by have:=Hu n (2^k);rw[hd,pN,pO]at this;exact this.symm
 rw[u32_or_nat n v hn (by omega)];conv=>lhs;rw[e,Nat.or_comm,Ik v _ k hv,pO (2^k),<-e,Nat.add_comm]
theorem qtj (a:OA) (cap:Nat) (y0 y1 y2 y3:UInt8) (w:World) (h:Rd w a cap [y0,y1,y2,y3]) :
  Calls Tryz.prog 245 #[.slice a 4 cap] w λe w'=>e = .returned (.int .u32 (y0.toNat*16777216+y1.toNat*65536+y2.toNat*256+y3.toNat:Nat))/\Fr [] w w':=by
 obtain⟨g,o,rfl,c0⟩:=h.at (i:=0) (by simp);obtain⟨g1,o1,e1,c1⟩:=h.at (i:=1) (by simp);obtain⟨g2,o2,e2,c2⟩:=h.at (i:=2) (by simp);obtain⟨g3,o3,e3,c3⟩:=h.at (i:=3) (by simp);simp only[fI,rB,and_true]at e1 e2 e3;obtain⟨rfl,rfl⟩:=e1;obtain⟨rfl,rfl⟩:=e2;obtain⟨rfl,rfl⟩:=e3;have hle:=h.le;simp only[dw,jK]at hle;have l0:=mW y0;have l1:=mW y1;have l2:=mW y2;have l3:=mW y3;simp only[pN,List.getElem_cons_zero,List.getElem_cons_succ]at c0 c1 c2 c3;generalize y0.toNat=x0 at *;generalize y1.toNat=x1 at *;generalize y2.toNat=x2 at *;generalize y3.toNat=x3 at *;obtain⟨z1,gS⟩:∃z,z=x0*16777216+x1*65536:=⟨_,rfl⟩;obtain⟨z2,lN⟩:∃z,z=z1+x2*256:=⟨_,rfl⟩;obtain⟨z3,yb⟩:∃z,z=z2+x3:=⟨_,rfl⟩;have r1:bits .or .u32 ((x0:Int)*16777216) ((x1:Int)*65536)=(z1:Int):=by have:=Aj (x0*16777216) (x1*65536) 24 (by omega) (by decide) (by omega) (by omega);rw[<-gS]at this;simpa using this
 have r2:bits .or .u32 (z1:Int) ((x2:Int)*256)=(z2:Int):=by have:=Aj z1 (x2*256) 16 (by omega) (by decide) (by omega) (by omega);rw[<-lN]at this;simpa using this
 have r3:bits .or .u32 (z2:Int) (x3:Int)=(z3:Int):=by have:=Aj z2 x3 8 (by omega) (by decide) (by omega) (by omega);rw[<-yb]at this;exact this
 have HZ:Hid (x0*16777216+x1*65536+x2*256+x3=z3):=af (by omega);clear gS lN yb h;go_enter Tryz.func245,Tryz.ntmps245;go_wp2;go_quiet (fail);go_wp2;go_ret;exact⟨by rw[HZ.out];rfl,Fr.drewN _ _ _⟩
theorem qxe (a:OA) (cap x:Nat) (w:World) (hx:x<4294967296) (h:Rd w a cap (iI x)) :
  Calls Tryz.prog 245 #[.slice a 4 cap] w λe w'=>e = .returned (.int .u32 x)/\Fr [] w w':=by
 have h1:=qtj a cap _ _ _ _ w h;have h2:=XD x hx _ rfl;have e:(UInt8.ofNat (x/16777216)).toNat*16777216+(UInt8.ofNat (x/65536)).toNat*65536+(UInt8.ofNat (x/256)).toNat*256+(UInt8.ofNat x).toNat=x:=h2;rw[e]at h1;exact h1
theorem qy3 (g a b:Nat) (w:World) (h:Ad w g a b):Calls Tryz.prog 63 #[.pointer (some ⟨g,0,none⟩)] w λe w'=>(∃ao c,e = .returned (.slice ao 4 c)/\Rd w' ao c (iI (b*65536+a)))/\Fr [] w w':=by
 obtain⟨C,hC,cZ,dB,ha,hb,eh,Jj⟩:=h;have c0:=cell_of hC 0;have c1:=cell_of hC 265;have c2:=cell_of hC 266;rw[dB]at c0;rw[ha]at c1;rw[hb]at c2;obtain⟨z,hz⟩:=ah (b*65536+a);have r1:bits .or .u32 ((b:Int)*65536) (a:Int)=(z:Int):=by have:=Aj (b*65536) a 16 (by omega) (by decide) (by omega) (by omega);rw[<-hz]at this;simpa using this
 have Qg:z<4294967296:=by omega
 rw[<-hz];have HC:=af hC;clear hz hC cZ dB ha hb;go_enter Tryz.func63,Tryz.ntmps63;go_upto_region 5 with fail;have tP:=lt_of_block HC.out;obtain⟨B,hB⟩:=ah w.heap.size;have hgB:g∉[B]:=by simp;omega
 have s1:∀x,(sup [B] w.drew x).cell? ⟨g,265,none⟩=some (.int .u32 a):=λx=>(gB [B] w.drew x).cell (show w.drew.cell? _=_ from c1) hgB
 have s2:∀x,(sup [B] w.drew x).cell? ⟨g,266,none⟩=some (.int .u32 b):=λx=>(gB [B] w.drew x).cell (show w.drew.cell? _=_ from c2) hgB
 have wh:∀w:World,(Instr.makeSlice 35 (.int .i64 0) (.int .i64 4)).run Tryz.prog w = .ok (.slice (some ⟨w.heap.size,0,none⟩) 0 4) (w.alloc (.cells #[.int .u8 0,.int .u8 0,.int .u8 0,.int .u8 0] 5)):=λ_=>by kernel_rfl
 have QF:∀w,ek w 5 (some ⟨B,0,none⟩) 4 (([]:LB).map bv)->Calls Tryz.prog 115 #[.slice (some ⟨B,0,none⟩) 0 4,.int .u32 z] w (lG w (some ⟨B,0,none⟩) [] z):=λw h=>Pf (some ⟨B,0,none⟩) 4 [] z w Qg h (by simp)
 unfold lG at QF;simp only[jK,iN,sS]at QF;have HB:=ai hB QF;clear hB QF c0 c1 c2;refine lK 13 [(false,1),(false,2),(false,3),(false,4),(false,5),(false,6),(false,7),(false,8),(false,9),(false,10),(true,0),(true,11),(false,12)] [B] (by kernel_rfl) (by kernel_rfl) (λ_ _ d _ _ h=>by cases d<;>exact h) ?_;simp only[kQ];refine eD 10 rfl ?_;simp only[cT];repeat (go_big_quiet_step (fail))
 refine wpQuiet_nil ?_;refine jb rfl ?_;intro X hX;have hBd:w.drew.heap.size=B:=HB.o0.symm;go_wp2;have f1:Fr [B] w.drew ((w.alloc (.cells #[.int .u8 0,.int .u8 0,.int .u8 0,.int .u8 0] 5)).drew):=(Fr.refl [B] w.drew).alloc (.cells #[.int .u8 0,.int .u8 0,.int .u8 0,.int .u8 0] 5);have aK:ek ((w.alloc (.cells #[.int .u8 0,.int .u8 0,.int .u8 0,.int .u8 0] 5)).drew) 5 (some ⟨B,0,none⟩) 4 (([]:LB).map bv):=.inr ⟨B,0,_,rfl,by rw[HB.o0];exact aV w _,eE _,by decide,ax _,rfl⟩;refine hX.out _ _ f1 ?_;clear hX X s1 s2 wh;generalize (w.alloc (.cells #[.int .u8 0,.int .u8 0,.int .u8 0,.int .u8 0] 5)).drew=w1 at *;have H1:=ai (HB.l1 w1 aK) f1;clear aK f1 hBd;refine jb rfl ?_;intro X hX;go_wp2_with (go_at_call 115;refine H1.o0.mono ?_;rintro e w2 ⟨a2,c2,rfl,A2⟩);refine hX.out _ _ A2.fr ?_;clear hX X;have H2:=af A2;clear A2;refine eD 1 rfl ?_;simp only[cT];repeat (go_big_quiet_step (fail))
 refine wpQuiet_nil ?_;refine j4 ?_;go_wp2;go_ret;have hr:Rd w2 a2 c2 (iI z):=H2.out.own.rd;refine⟨⟨a2,c2,rfl,hr.fr (by first|exact Fr.refl _ _|exact Fr.drewN _ _ _)⟩,?_⟩;have f2:Fr [] w w.drew:=Fr.aB [] w;exact ((f2.step H1.l1 (λy hy=>.inr (by simp at hy;rw[hy,HB.o0];exact ax _))).step H2.out.fr (λy hy=>.inr (by simp[ag]at hy;rw[hy,HB.o0];exact ax _)))
theorem qst (a:OA) (cap:Nat) (bs:LB) (w:World) (h:Rd w a cap bs):Calls Tryz.prog 246 #[.int .i64 3,.slice a bs.length cap] w λe w'=>(∃ao c,e = .returned (.slice ao 4 c)/\Rd w' ao c (iI (fJ bs)))/\Fr [] w w':=by have H:=af h;clear h;go_enter Tryz.func246,Tryz.ntmps246;go_upto_region 2 with (go_at_call 113;refine (qun _).mono ?_;rintro e w1 ⟨rfl,A1,f1⟩);have hw:=qsq w.heap.size 1 0 cap a bs w1 A1 (H.out.fr f1) (λhb x hx=>by have:=Hy H.out hb x hx;omega);have H1:=ai hw f1;clear hw f1 A1;go_upto_region 3 with (go_at_call 60;refine H1.o0.mono ?_;rintro e w2 ⟨rfl,f2,A2⟩);have hs:=qy3 _ _ _ w2 A2;have H2:=ai hs f2;clear hs f2 A2;go_wp2_with (go_at_call 63;refine H2.o0.mono ?_;rintro e w3 ⟨⟨a3,c3,rfl,r3⟩,f3⟩);go_ret;exact⟨⟨a3,c3,rfl,r3⟩,(H1.l1.step H2.l1 (λy hy=>.inr (by simp at hy;rw[hy];exact ax _))).trans f3⟩
theorem ZH (a:OA) (cap:Nat) (bs:LB) (w:World) (h:Rd w a cap bs):Calls Tryz.prog 186 #[.slice a bs.length cap] w λe w'=>e = .returned (.int .u32 (fJ bs))/\Fr [] w w':=by
 have hw:=qst a cap bs w h;have hn:=λa cap w h=>qxe a cap (fJ bs) w (Ko bs) h
 have H:=ai hw hn;clear hw hn h;go_enter Tryz.func186,Tryz.ntmps186;go_wp2_with (first|(go_at_call 246;refine H.o0.mono ?_;rintro e w1 ⟨⟨a1,c1,rfl,r1⟩,f1⟩;have H1:=ai r1 f1;clear r1 f1)|(go_at_call 245;refine (H.l1 a1 c1 _ H1.o0).mono ?_;rintro e w2 ⟨rfl,f2⟩));go_ret;exact⟨rfl,H1.l1.trans f2⟩
end sums
namespace defl
open Go Go.RowKit lib bm bl wb
theorem zdn (a:OA) (cap:Nat) (b:LB) (level:Int) (w:World) (h:lib.Rd w a cap b) (hlen:b.length<=1000000) (hl:level<=0) :
  Calls Tryz.prog 185 #[.slice a b.length cap,.int .i64 level] w (aZ w (aL b)):=by
 have hp:=qq2 a cap b w h hlen;unfold aZ at hp;have H:=af hp;have d0:decide (level<=0)=true:=by simpa using hl
 clear hp h;go_enter Tryz.func185,Tryz.ntmps185;go_wp2_with (go_at_call 239;refine H.out.mono ?_;rintro e w1 ⟨a1,rfl,r1,n1,f1⟩);go_ret;unfold aZ;exact⟨a1,rfl,r1,n1,f1⟩
def nC (level:Int):UInt8:=if level<=0 then 1 else if level=1 then 94 else 156
def aY (level:Int) (r b:LB):List UInt8:=[120,nC level]++r++sums.iI (sums.fJ b)
def pE (w:World) (bs:LB) (e:Ending) (w':World):Prop:=
 ∃a,e = .returned (.slice a bs.length bs.length)/\ek w' 5 a bs.length (bs.map bv)/\(∀x∈ag a,w.heap.size<=x/\x<w'.heap.size)/\Fr [] w w'
theorem zd0 {w:World} {e:TypeId} {a:OA} {cap n:Nat} {xs:LV} (h:ek w e a cap xs) (hn:xs.length=n):ek w e a n xs:=by
 rcases h with⟨h1,h2,h3⟩|⟨g,o,cur,h1,h2,h3,h4,h5,h6⟩
 ·exact .inl ⟨h1,by rw[<-hn,h3];rfl,h3⟩
 ·exact .inr ⟨g,o,cur,h1,h2,by omega,by omega,by omega,h6⟩
theorem zcr (a:OA) (cap:Nat) (b:LB) (Qr:List UInt8->Prop) (level:Int) (w:World) (h:lib.Rd w a cap b) (kB:∀r,Qr r->r.length<=100000000)
  (iA:∀w',Fr [] w w'->Calls Tryz.prog 185 #[.slice a b.length cap,.int .i64 level] w' λe fK=>∃r,Qr r/\aZ w' r e fK) :
  Calls Tryz.prog 124 #[.slice a b.length cap,.int .i64 level] w λe w'=>∃r,Qr r/\pE w (aY level r b) e w':=by
 obtain⟨Q,hQ⟩:=ah w.heap.size;have f0:Fr [] w (w.alloc (.cells #[.int .u8 120,.int .u8 156] 5)):=(Fr.refl [] w).alloc _;have vq:(w.alloc (.cells #[.int .u8 120,.int .u8 156] 5)).heap[Q]?=some (.cells #[.int .u8 120,.int .u8 156] 5 (0,0)):=by rw[hQ];exact aV w _
 have c1:=cell_of vq 1;have z1:=aT vq 1;simp only[dJ,dk,dU]at c1;have H:=aQ h iA hQ f0 vq;clear h iA f0 vq;go_enter Tryz.func124,Tryz.ntmps124;go_upto_block 0 with fail;rw[<-hQ];generalize (w.alloc (.cells #[.int .u8 120,.int .u8 156] 5))=w0 at *;clear hQ;go_cut [] from 8 to 18 (λwz=>wz.heap[Q]?=some (.cells #[.int .u8 120,bv (nC level)] 5 (0,0))/\Fr [] w wz)
 case first=>
  by_cases hl:level<=0
  ·have d0:decide (level<=0)=true:=by simpa using hl
   have hz:nC level=1:=if_pos hl;have HZ:=af hz;clear hz;go_wp2;go_meet;rw[HZ.out];exact⟨df (o:=1) H.l4 _,H.o3.setCell (by right;show w.heap.size<=Q;rw[H.o2];exact ax _) _⟩
  ·have d0:decide (level<=0)=false:=by simp;omega
   by_cases h1:level=1
   ·subst h1;go_wp2;go_meet;exact⟨df (o:=1) H.l4 _,H.o3.setCell (by right;show w.heap.size<=Q;rw[H.o2];exact ax _) _⟩
   ·have d1:(level==1)=false:=by simpa using h1
    have hz:nC level=156:=by unfold nC;rw[if_neg hl,if_neg h1]
    have HZ:=af hz;clear hz;go_wp2;go_meet;rw[HZ.out];exact⟨H.l4,H.o3⟩
 case rest=>
 obtain⟨QK,VB⟩:=hcut;obtain⟨w1,rfl⟩:∃w1:World,w1=wc:=⟨_,rfl⟩;have hr:=H.o1 w1 VB;unfold aZ at hr;have H1:=aq QK VB hr;have HRL:=af kB;clear QK VB hr c1 z1 kB;go_upto_region 7 with (first|(go_at_call 185;refine H1.l2.mono ?_;rintro e w2 ⟨r,hq,a2,he,r2,n2,f2⟩;obtain⟨L,hL⟩:∃L,L=r.length:=⟨_,rfl⟩;rw[<-hL]at he r2;subst he;have kB:=HRL.out r hq;rw[<-hL]at kB;have HL:=af hL;have HQ:=af hq;clear hL hq;have H2:=aq r2 n2 f2;clear r2 n2 f2)|(refine E8 bits.aE rfl _ _ rfl (some ⟨Q,0,none⟩) 2 2 [.int .u8 120,bv (nC level)] rfl (.inr ⟨Q,0,_,rfl,H2.l2.ag H1.o0 (by simp),ax _,by decide,ax _,rfl⟩) rfl a2 L L (r.map bv) rfl (ax _) H2.o0.nil H2.o0.cs (by rw[gx,HL.out]) (bits.qI _) (by omega) (by unfold maxLen;omega) ?_;intro a3 c3 w3 A3;have H3:=af A3;clear A3));have yq:Fr [] w w3:=(H1.o1.trans H2.l2).step H3.out.fr (λy hy=>.inr (by simp[ag]at hy;rw[hy,H.o2];exact ax _));have QU:Q<w1.heap.size:=lt_of_block H1.o0;have n3:∀x∈ag a3,w.heap.size<=x:=λx hx=>by
  have h1:=H2.l2.size;have h2:=H.o2;rcases H3.out.at_ x hx with k|k
  ·simp[ag]at k;omega
  ·omega
 have had:=sums.ZH a cap b w3 (H.o0.fr yq);have yg:=sums.XC (sums.fJ b) (sums.Ko b);have tj:=sums.Ko b;obtain⟨x,hx⟩:=ah (sums.fJ b);rw[<-hx]at had yg tj;have H4:=aQ yq n3 had yg hx;clear yq n3 had yg QU hx;go_upto_region 8 with (go_at_call 186;refine H4.o2.mono ?_;rintro e w4 ⟨rfl,f4⟩);have f5:Fr [] w4 (w4.alloc (.cells #[.int .u8 ((x:Int)/16777216),.int .u8 ((x:Int)/65536%256),.int .u8 ((x:Int)/256%256),.int .u8 ((x:Int)%256)] 5)):=(Fr.refl [] w4).alloc _;have o5:=(H3.out.own.fr f4 (by simp)).fr f5 (by simp);have H5:=aq f5 o5 f4;clear f5 o5 f4;have zC:=H5.o1.shape;have hc4:2+L<=c3:=by have:=zC.1;simp only[aG,dw,jK,gx]at this;rw[HL.out];omega
 obtain⟨N,hN⟩:=ah (2+L+4);clear zC;go_upto_region 9 with (refine E8 bits.aE rfl _ _ rfl a3 (2+L) c3 ([.int .u8 120,bv (nC level)]++r.map bv) rfl H5.o1 (by simp only[aG,dw,jK,gx];rw[HL.out]) (some ⟨w4.heap.size,0,none⟩) 4 4 ((sums.iI x).map bv) rfl (by omega) (by simp) (by rw[H4.o3];exact oC w4 _ _ _) rfl (bits.qI _) (by omega) (by unfold maxLen;omega) ?_;intro a6 c6 w6 A6;have H6:=af A6;clear A6);rw[<-hN];have Qg:(aY level r b).map bv=[.int .u8 120,bv (nC level)]++r.map bv++(sums.iI x).map bv:=by unfold aY;rw[jd,jd,<-H4.l4];rfl
 have I3:(aY level r b).length=N:=by unfold aY;rw[aG,aG,<-HL.out,hN];rfl
 have ho:=H6.out.own;rw[<-Qg]at ho;obtain⟨s1,s2,s3⟩:=ho.shape;rw[gx,I3]at s1;have hsl:=λw=>Up bits.aE N a6 c6 s1 w
 have HZ:=ai ho I3;clear ho I3 Qg hN;go_wp2;go_ret;unfold pE;have Qh:w4.heap.size<=w6.heap.size:=bP H5.o0.size H6.out.fr.size;refine⟨r,HQ.out,?_⟩;rw[HZ.out.2];refine⟨a6,rfl,zd0 HZ.out.1 (by rw[gx,HZ.out.2]),λy hy=>⟨?_,HZ.out.1.lt y hy⟩,(H4.o0.trans H5.l2).step (H5.o0.mono (T:=ag a3) (by simp) |>.trans (H6.out.fr)) (λy hy=>.inr (H4.o1 y hy))⟩;have k0:=H4.o0.size;have k1:=H5.l2.size;have k2:=H5.o0.size;rcases H6.out.at_ y hy with k|k
 ·exact H4.o1 y k
 ·omega
open mat huf
variable {F dl ll:LN} {c1 c2 g2 n1 n2 p q3 q4 q6 q8 s:Nat} {w:World} {b:List Bool}
def bS (ls:LN) (s:Nat):List Bool:=msb (ae ls s) (cE ls s)
def gw (ll dl:LN):Tok->List Bool
 | .lit c=>bS ll c.toNat
 | .mat n d=>bS ll (bx n).1++dA (bx n).2.2 (bx n).2.1++bS dl (cu d).1++dA (cu d).2.2 (cu d).2.1
def bw (ll dl:LN) (t:List Tok):List Bool:=t.flatMap (gw ll dl)
theorem PR (ll dl:LN) (t:List Tok) (x:Tok):bw ll dl (t++[x])=bw ll dl t++gw ll dl x:=by simp[bw]
theorem yN (ls:LN) (hle:∀l∈ls,l<=15) (s:Nat):(bS ls s).length<=15:=by
 unfold bS;rw[Dq];unfold ae;cases h:ls[s]? with
 | none=>simp
 | some x=>simpa[h] using hle x (j5 h)
theorem Tt (ll dl:LN) (h1:∀l∈ll,l<=15) (h2:∀l∈dl,l<=15) (x:Tok) (hx:∀n d,x = .mat n d->3<=n/\n<=258/\1<=d/\d<=32768):(gw ll dl x).length<=48:=by
 cases x with
 | lit c=>have:=yN ll h1 c.toNat;simp only[gw];omega
 | mat n d=>obtain⟨a,b,c,e⟩:=hx n d rfl;have k1:=yN ll h1 (bx n).1;have k2:=yN dl h2 (cu d).1;have k3:=(Kw a b).2.2.1;have k4:=(Kv c e).2.1;simp only[gw,aG,ar];omega
def WC (w:World) (g:Nat) (xs:LN):Prop:=Cs w (some ⟨g,0,none⟩) (xs.map λx=>.int .u32 (x:Nat))
theorem TV {ls:LN} (h:s<ls.length):(di ls)[s]?=some (cE ls s):=by simp[di,h]
theorem zb0 (ls:LN) (s:Nat) (hle:∀l∈ls,l<=15) (hw:weight ls<=32768):cE ls s<32768:=by
 unfold cE;split
 ·decide
 ·rename_i h;have h1:=XE ls s hle hw (by omega);have h2:ae ls s<=15:=hle _ (Dh (xU (by omega)));exact fM h1 (lJ (by decide) h2)
structure Env (p q4 q6 q3 q8 g1 g2:Nat) (a1 a2:OA) (c1 c2 n1 n2:Nat) (ll dl:LN) (w:World):Prop where
 c4:w.cell? ⟨q4,0,none⟩=some (.pointer (some ⟨p,0,none⟩))
 c6:w.cell? ⟨q6,0,none⟩=some (.slice (some ⟨g1,0,none⟩) n1 n1)
 c32:w.cell? ⟨q3,2,none⟩=some (.slice a1 n1 c1)
 c33:w.cell? ⟨q3,3,none⟩=some (.slice a2 n2 c2)
 c8:w.cell? ⟨q8,0,none⟩=some (.slice (some ⟨g2,0,none⟩) n2 n2)
 u1:WC w g1 (di ll)
 u2:WC w g2 (di dl)
 r1:Ri w a1 c1 ll
 r2:Ri w a2 c2 dl
 l1:n1=ll.length
 l2:n2=dl.length
def tY (q4 q6 q3 q8 g1 g2:Nat) (a1 a2:OA):List Nat:=[q4,q6,q3,q8,g1,g2]++ag a1++ag a2
theorem Am {S:LN} {w':World} {a:OA} {cap:Nat} {xs:LN} (h:Ri w a cap xs) (f:Fr S w w') (hn:∀x∈ag a,x∉S):Ri w' a cap xs:=⟨h.cs.fr f hn,h.le,h.max,h.nil⟩
theorem Env.fr {p q4 q6 q3 q8 g1 g2:Nat} {a1 a2:OA} {c1 c2 n1 n2:Nat} {ll dl:LN} {w w':World} {S:LN} (h:Env p q4 q6 q3 q8 g1 g2 a1 a2 c1 c2 n1 n2 ll dl w) (f:Fr S w w')
  (hn:∀x∈tY q4 q6 q3 q8 g1 g2 a1 a2,x∉S):Env p q4 q6 q3 q8 g1 g2 a1 a2 c1 c2 n1 n2 ll dl w':=by
 have k:∀x,x∈[q4,q6,q3,q8,g1,g2]->x∉S:=λx hx=>hn x (by simp only[tY,jo];exact .inl (.inl hx))
 exact⟨f.cell h.c4 (k q4 (by simp)),f.cell h.c6 (k q6 (by simp)),f.cell h.c32 (k q3 (by simp)),f.cell h.c33 (k q3 (by simp)),f.cell h.c8 (k q8 (by simp)),
  Cs.fr h.u1 f (by simpa[ag] using k g1 (by simp)),Cs.fr h.u2 f (by simpa[ag] using k g2 (by simp)),
  Am h.r1 f (λx hx=>hn x (by simp only[tY,jo];exact .inl (.inr hx))),Am h.r2 f (λx hx=>hn x (by simp only[tY,jo];exact .inr hx)),h.l1,h.l2⟩
theorem Env.EE {g1:Nat} {a1 a2:OA} (h:Env p q4 q6 q3 q8 g1 g2 a1 a2 c1 c2 n1 n2 ll dl w) (hs:s<n1) :
  ∃g o,a1=some ⟨g,o,none⟩/\w.cell? ⟨g,o+s,none⟩=some (.int .i64 (ae ll s:Nat))/\w.cell? ⟨g1,s,none⟩=some (.int .u32 (cE ll s:Nat)):=by
 have hl:s<ll.length:=by rw[<-h.l1];exact hs
 obtain⟨g,o,e,hc⟩:=h.r1.at hl;refine⟨g,o,e,by rw[hc,ae,dm hl];rfl,?_⟩;obtain⟨g',o',e',Bc⟩:=h.u1.at (by simp[di];omega);simp only[fI,rB,and_true]at e';obtain⟨rfl,rfl⟩:=e';have:=Bc s (.int .u32 (cE ll s:Nat)) (by rw[qe,TV hl];rfl);simpa using this
theorem Env.RP {g1:Nat} {a1 a2:OA} (h:Env p q4 q6 q3 q8 g1 g2 a1 a2 c1 c2 n1 n2 ll dl w) (hs:s<n2) :
  ∃g o,a2=some ⟨g,o,none⟩/\w.cell? ⟨g,o+s,none⟩=some (.int .i64 (ae dl s:Nat))/\w.cell? ⟨g2,s,none⟩=some (.int .u32 (cE dl s:Nat)):=by
 have hl:s<dl.length:=by rw[<-h.l2];exact hs
 obtain⟨g,o,e,hc⟩:=h.r2.at hl;refine⟨g,o,e,by rw[hc,ae,dm hl];rfl,?_⟩;obtain⟨g',o',e',Bc⟩:=h.u2.at (by simp[di];omega);simp only[fI,rB,and_true]at e';obtain⟨rfl,rfl⟩:=e';have:=Bc s (.int .u32 (cE dl s:Nat)) (by rw[qe,TV hl];rfl);simpa using this
theorem J4 (p:Nat) (F:LN) (l:List Bool) (ls:LN) (s:Nat) (w:World) (h:Wb w p F l) (hle:∀l∈ls,l<=15) (hw:weight ls<=32768) (hL:l.length<=562949953421200) :
  Calls Tryz.prog 448 #[.pointer (some ⟨p,0,none⟩),.int .u32 (cE ls s:Nat),.int .i64 (ae ls s:Nat)] w (cL p F w (l++bS ls s)):=by
 have h1:=zjc p F l (cE ls s) (ae ls s:Nat) w h (by have:=zb0 ls s hle hw;omega) hL;have h2:=yN ls hle s;unfold bS at h2 ⊢;rw[Dq]at h2;rw[xZ,vP (by omega)]at h1;exact h1
theorem zcu (p q4 q6 q3 q8 g1 g2:Nat) (a1 a2:OA) (c1 c2 n1 n2:Nat) (ll dl:LN) (F:LN) (l:List Bool) (c:UInt8) (w:World) (h:Env p q4 q6 q3 q8 g1 g2 a1 a2 c1 c2 n1 n2 ll dl w) (hW:Wb w p F l)
  (hle:∀l∈ll,l<=15) (hw:weight ll<=32768) (hn:257<=n1) (hL:l.length<=562949953421200) :
  Calls Tryz.prog 447 #[.int .u8 c.toNat,.pointer none,.pointer (some ⟨q4,0,none⟩),.pointer (some ⟨q6,0,none⟩),.pointer (some ⟨q3,0,none⟩),.pointer (some ⟨q8,0,none⟩)] w (cL p F w (l++gw ll dl (.lit c))):=by
 obtain⟨s,hs⟩:=ah c.toNat;have ep:s<256:=by rw[hs];exact mW _
 rw[<-hs];have tI:=h.r1.le;rw[<-h.l1]at tI;obtain⟨g,o,rfl,d1,d2⟩:=h.EE (show s<n1 by omega);have d3:=h.c4;have d4:=h.c6;have d5:=h.c32;have cF:=J4 p F l ll s w.drew (wY hW (Fr.aB [] w) (by simp)) hle hw hL;obtain⟨x,hx⟩:=ah (cE ll s);obtain⟨y,hy⟩:=ah (ae ll s);rw[<-hx]at d2 cF;rw[<-hy]at d1 cF;have hg:decide ((n1:Int)<=(s:Int))=false:=by simp;omega
 have HC:=ai cF hs;clear cF h hW hle hw hL hx hy hs;simp only[gw];go_enter Tryz.func447,Tryz.ntmps447;go_upto_region 1 with fail;refine xY 10 (by kernel_rfl) (by kernel_rfl) ?_;simp only[lh,sW,nY,nE];repeat (go_big_quiet_step (fail))
 refine wpQuiet_nil ?_;go_wp2_with (go_at_call 448;refine HC.o0.mono ?_;rintro e w2 ⟨rfl,dM,hb⟩);refine bodyPost_ret (results_none rfl _ _ _) rfl ?_;rw[HC.l1]at hb;exact⟨rfl,(Fr.aB F w).trans dM,hb⟩
structure Pg (p:Nat) (F:LN) (w:World) (b:List Bool) (F':LN) (w':World):Prop where
 fr:Fr F w w'
 wb:Wb w' p F' b
 new:∀y∈F',y∈F\/w.heap.size<=y
theorem Pg.start (h:Wb w p F b):Pg p F w b F w:=⟨.refl _ _,h,λ_ hy=>.inl hy⟩
theorem Pg.cG {F':LN} {w1 w2:World} (h:Pg p F w b F' w1) (f:Fr [] w1 w2):Pg p F w b F' w2:=⟨h.fr.trans (f.mono (by simp)),wY h.wb f (by simp),h.new⟩
theorem Pg.step {p:Nat} {F F1:LN} {w w1 w2:World} {b b2:List Bool} (h:Pg p F w b F1 w1) (f:Fr F1 w1 w2) (g:∃F',Wb w2 p F' b2/\∀y∈F',y∈F1\/w1.heap.size<=y):∃F2,Pg p F w b2 F2 w2:=by
 obtain⟨F2,hb,hn⟩:=g;refine⟨F2,h.fr.step f λy hy=>h.new y hy,hb,λy hy=>?_⟩;rcases hn y hy with k|k
 ·exact h.new y k
 ·exact .inr (bP h.fr.size k)
theorem EK (p:Nat) (F:LN) (l:List Bool) (x n:Nat) (w:World) (h:Wb w p F l) (hx:x<4294967296) (hn:n<=32) (hL:l.length<=562949953421312) :
  Calls Tryz.prog 449 #[.pointer (some ⟨p,0,none⟩),.int .u32 x,.int .i64 n] w (cL p F w (l++dA n x)):=by
 have h1:=RD p F l x (n:Nat) w h hx hL;rwa [xZ,vP hn]at h1
theorem zfo {a:Addr} {v:Value} (h:w.cell? a=some v):a.block<w.heap.size:=by
 rcases kT a.block w.heap.size with k|k
 ·exact k
 ·unfold World.cell? at h;rw[J8 k]at h;simp at h
theorem zct (p q4 q6 q3 q8 g1 g2 g o:Nat) (a1 a2:OA) (c1 c2 n1 n2:Nat) (ll dl:LN) (F:LN) (l:List Bool) (n d:Nat) (w:World) (h:Env p q4 q6 q3 q8 g1 g2 a1 a2 c1 c2 n1 n2 ll dl w) (hW:Wb w p F l)
  (hle:∀l∈ll,l<=15) (hw:weight ll<=32768) (fO:∀l∈dl,l<=15) (cC:weight dl<=32768) (hn:286<=n1) (lv:30<=n2) (hL:l.length<=562949953421000)
  (hE:∀x∈tY q4 q6 q3 q8 g1 g2 a1 a2,x∉F/\x<w.heap.size) (h3:3<=n) (iB:n<=258) (h1:1<=d) (hd:d<=32768) (hg:g∉F)
  (e1:w.cell? ⟨g,o+1,none⟩=some (.int .i64 n)) (e2:w.cell? ⟨g,o+2,none⟩=some (.int .i64 d)) :
  Calls Tryz.prog 447 #[.int .u8 0,.pointer (some ⟨g,o,none⟩),.pointer (some ⟨q4,0,none⟩),.pointer (some ⟨q6,0,none⟩),.pointer (some ⟨q3,0,none⟩),.pointer (some ⟨q8,0,none⟩)] w (cL p F w (l++gw ll dl (.mat n d))):=by
 have hlen:=PK n w h3 iB;have bF:=Kw h3 iB;have Cy:=Kv h1 hd;have tP:=zfo e2;simp only at tP;unfold Triple at hlen;simp only[gw];obtain⟨s,hs⟩:=ah ((bx n).1);obtain⟨m,hm⟩:=ah ((bx n).2.1);obtain⟨v,hv⟩:=ah ((bx n).2.2);obtain⟨s2,ep⟩:=ah ((cu d).1);obtain⟨m2,jQ⟩:=ah ((cu d).2.1);obtain⟨v2,vX⟩:=ah ((cu d).2.2);rw[<-hs,<-hm,<-hv]at bF hlen ⊢;rw[<-ep,<-jQ,<-vX]at Cy ⊢;have nk:m<4294967296:=fM bF.2.2.2 (bP (lJ (by decide) bF.2.2.1) (by decide));have MB:m2<4294967296:=fM Cy.2.2 (bP (lJ (by decide) Cy.2.1) (by decide));have tI:=h.r1.le;rw[<-h.l1]at tI;have xt:=h.r2.le;rw[<-h.l2]at xt;have kS:=yN ll hle s;have kS2:=yN dl fO s2;have H:=eW h hW hE hlen tP hg e2;have HB:=lf bF Cy nk MB hle hw fO cC;have HD:=aQ ep jQ vX h1 hd;have HL:=aq hL kS kS2;have hsl:s<n1:=by omega
 have qo:s2<n2:=by omega
 clear h hW hE hlen tP hg e2 bF Cy nk MB hle hw fO cC hs hm hv ep jQ vX h1 hd h3 iB hL kS kS2;go_enter Tryz.func447,Tryz.ntmps447;go_upto_region 3 with (go_at_call 293;refine H.o3.mono ?_;rintro e w1 ⟨rfl,f1⟩;have H1:=af f1;clear f1);clear e1;have NV:=H.o0.fr H1.out (by simp);obtain⟨ga,oa,ea,d1,d2⟩:=NV.EE hsl;subst ea;have d3:=NV.c4;have d4:=NV.c6;have d5:=NV.c32;have cF:=J4 p F l ll s w1.drew (wY H.o1 (H1.out.trans (Fr.aB [] w1)) (by simp)) HB.o4 HB.o5 (by have:=HL.o0;omega);obtain⟨x,hx⟩:=ah (cE ll s);obtain⟨y,hy⟩:=ah (ae ll s);rw[<-hx]at d2 cF;rw[<-hy]at d1 cF;have hg:decide ((n1:Int)<=(s:Int))=false:=by simp;omega
 have HC:=af cF;clear cF hx hy NV;refine xY 10 (by kernel_rfl) (by kernel_rfl) ?_;simp only[lh,sW,nY,nE];repeat (go_big_quiet_step (fail))
 refine wpQuiet_nil ?_;clear d1 d2 d3 d4 d5 hg;go_upto_region 4 with (go_at_call 448;refine HC.out.mono ?_;rintro e w2 ⟨rfl,f2,g2'⟩;have H2:=af (Pg.step (Pg.cG (Pg.start H.o1) (H1.out.trans (Fr.aB [] w1))) f2 g2');clear f2 g2');obtain⟨F2,jk⟩:=H2.out;have ev2:=H.o0.fr jk.fr λx hx=>(H.o2 x hx).1
 have d3:=ev2.c4;have oS:=EK p F2 _ m v w2 jk.wb HB.o2 (by have:=HB.o0.2.2.1;omega) (by rw[aG];have:=HL.out;omega);have Ev:=af oS;clear ev2 oS;go_upto_region 5 with (go_at_call 449;refine Ev.out.mono ?_;rintro e w3 ⟨rfl,f3,g3⟩;have H3:=af (Pg.step jk f3 g3);clear f3 g3);clear d3;obtain⟨F3,ux⟩:=H3.out;have e2:=ux.fr.cell H.l6 H.o5;have xC:=P6 d w3 HD.o3 HD.l4;unfold Triple at xC;rw[<-HD.o0,<-HD.o1,<-HD.o2]at xC;have HDI:=af xC;have WN:=af ux;clear xC ux jk;go_upto_region 6 with (go_at_call 294;refine HDI.out.mono ?_;rintro e w4 ⟨rfl,f4⟩;have H4:=af f4;clear f4);clear e2;have FN:=WN.out.cG H4.out;have NU:=H.o0.fr FN.fr λx hx=>(H.o2 x hx).1
 obtain⟨gb,ob,eb,d1,d2⟩:=NU.RP qo;subst eb;have d3:=NU.c4;have d4:=NU.c8;have d5:=NU.c33;have cF:=J4 p F3 _ dl s2 w4.drew (FN.cG (Fr.aB [] w4)).wb HB.o6 HB.l7 (by rw[aG,aG,ar];have:=HL.out;have:=HB.o0.2.2.1;omega);obtain⟨x2,mJ⟩:∃x,x=cE dl s2:=⟨_,rfl⟩;obtain⟨y2,uO⟩:∃y,y=ae dl s2:=⟨_,rfl⟩;rw[<-mJ]at d2 cF;rw[<-uO]at d1 cF;have hg:decide ((n2:Int)<=(s2:Int))=false:=by simp;omega
 have HC4:=af cF;have HP4:=af FN;clear cF mJ uO NU FN;refine xY 10 (by kernel_rfl) (by kernel_rfl) ?_;simp only[lh,sW,nY,nE];repeat (go_big_quiet_step (fail))
 refine wpQuiet_nil ?_;clear d1 d2 d3 d4 d5 hg;go_upto_region 7 with (go_at_call 448;refine HC4.out.mono ?_;rintro e w5 ⟨rfl,f5,g5⟩;have H5:=af (Pg.step (HP4.out.cG (Fr.aB [] w4)) f5 g5);clear f5 g5);obtain⟨F5,FM⟩:=H5.out;have ev5:=H.o0.fr FM.fr λx hx=>(H.o2 x hx).1
 have d3:=ev5.c4;have oS:=EK p F5 _ m2 v2 w5 FM.wb HB.o3 (by have:=HB.o1.2.1;omega) (by rw[aG,aG,aG,ar];have:=HL.out;have:=HB.o0.2.2.1;omega);have HC5:=af oS;have HP5:=af FM;clear ev5 oS FM;go_wp2_with (go_at_call 449;refine HC5.out.mono ?_;rintro e w6 ⟨rfl,f6,g6⟩;have H6:=af (Pg.step HP5.out f6 g6);clear f6 g6);(try simp only[Exit.inBlock,Exit.then]);refine bodyPost_end (results_none rfl _ _ _) rfl ?_;obtain⟨F6,Vd⟩:=H6.out;refine⟨rfl,Vd.fr,F6,?_,Vd.new⟩;have:=Vd.wb;simpa only[fU] using this
def kt (ls:LN) (least:Nat):Nat->Nat
 | 0=>0
 | n+1=>if least<n+1/\ae ls n=0 then kt ls least n else n+1
theorem ET (ls:LN) (least:Nat):∀n,kt ls least n<=n
 | 0=>ax _
 | n+1=>by
  unfold kt;split
  ·exact Nat.le_succ_of_le (ET ls least n)
  ·exact ax _
theorem Kf (ls:LN) (least:Nat):∀n,least<=n->least<=kt ls least n
 | 0,h=>by
  have:least=0:=by omega
  rw[this];exact eE _
 | n+1,h=>by
  unfold kt;split
  ·rename_i hc;exact Kf ls least n (by omega)
  ·exact h
theorem Tm (ls:LN) (least:Nat):∀n i,kt ls least n<=i->i<n->ae ls i=0
 | 0,i,_,h=>by omega
 | n+1,i,h1,h2=>by
  unfold kt at h1;split at h1
  ·rename_i hc;rcases kT i n with k|k
   ·exact Tm ls least n i h1 k
   ·rw[show i=n from by omega];exact hc.2
  ·omega
theorem XH (a:OA) (cap:Nat) (ls:LN) (least:Nat) (w:World) (h:Ri w a cap ls) (hlen:ls.length<=1000000) (hle:least<=1000000) :
  Calls Tryz.prog 450 #[.slice a ls.length cap,.int .i64 least] w λe w'=>e = .returned (.slice a (kt ls least ls.length) cap)/\w'=w:=by
 obtain⟨N,hN⟩:=ah ls.length;obtain⟨R,hR⟩:=ah (kt ls least ls.length);have hNc:=h.le;rw[<-hN]at hlen hNc ⊢;rw[<-hN]at hR;have hRN:R<=N:=by rw[hR];exact ET _ _ _
 have hmx:cap<=9223372036854775807:=h.max;rw[<-hR];have uT:=h.nil;have H:=aA h hN hR uT;clear h hN hR uT;go_enter Tryz.func450,Tryz.ntmps450;go_wp2;go_loopg [5] N (λk s5 wr=>s5 = .int .i64 (k:Nat)/\k<=N/\R<=k/\kt ls least k=R/\w=wr);case atStart=>exact⟨rfl,ax _,hRN,H.out.2.2.1.symm,rfl⟩
 case round=>
  obtain⟨rfl,hk,hRk,ju,rfl⟩:=hrel;by_cases hl:least<gk
  ·obtain⟨k,rfl⟩:∃k,gk=k+1:=⟨gk-1,by omega⟩;have uz:k<ls.length:=by rw[<-H.out.2.1];omega
   obtain⟨g,o,rfl,hc⟩:=H.out.1.at uz;have eh:ae ls k=ls[k]:=by unfold ae;rw[dm uz];rfl
   rw[<-eh]at hc;obtain⟨v,hv⟩:=ah (ae ls k);rw[<-hv]at hc;have e1:((k+1:Nat):Int)-1=(k:Int):=by omega
   have g1:decide ((N:Int)<=(k:Int))=false:=by simp;omega
   unfold kt at ju;rw[<-hv]at ju;obtain⟨k1,oZ⟩:=ah (k+1);rw[<-oZ]at hl hk hRk e1 ⊢;have HK:=af oZ;clear eh hv oZ;by_cases AF:v=0
   ·rw[if_pos ⟨by have:=HK.out;omega,AF⟩]at ju;have q:((v:Int)==0)=true:=by simp[AF]
    have HC:=af ju;clear ju;go_wp2;go_roundg k;case measure=>have:=HK.out;omega
    case rel=>exact⟨by go_num,by have:=HK.out;omega,by have h:=ET ls least k;have:=HC.out;omega,HC.out,rfl⟩
   ·rw[if_neg (λhh=>AF hh.2)]at ju;have q:((v:Int)==0)=false:=by simp only[beq_eq_false_iff_ne];omega
    obtain rfl:k1=R:=by have:=HK.out;omega
    clear ju;go_wp2;go_ret;exact⟨rfl,rfl⟩
  ·have e:kt ls least gk=gk:=by
    cases gk with
    | zero=>rfl
    | succ n=>unfold kt;rw[if_neg (by omega)]
   obtain rfl:gk=R:=by omega
   have q:decide ((least:Int)<(gk:Int))=false:=by simp;omega
   clear e ju;cases a with
   | none=>
    have h0:=H.out.2.2.2 rfl;obtain rfl:cap=0:=h0;obtain rfl:gk=0:=by omega
    go_wp2;go_ret;exact⟨rfl,rfl⟩
   | some ad=>obtain⟨g,o,s⟩:=ad;go_wp2;go_ret;exact⟨rfl,rfl⟩
abbrev Rn:=Nat×Nat×Nat
def dn (l:List Rn):List Value:=l.flatMap λx=>[.int .i64 (x.1:Nat),.int .u32 (x.2.1:Nat),.int .i64 (x.2.2:Nat)]
theorem DA (a b:List Rn):dn (a++b)=dn a++dn b:=by simp[dn]
theorem Tj:∀(l:List Rn) (i:Nat) (x:Rn),l[i]?=some x->(dn l)[i*3]?=some (.int .i64 (x.1:Nat))/\(dn l)[i*3+1]?=some (.int .u32 (x.2.1:Nat))/\(dn l)[i*3+2]?=some (.int .i64 (x.2.2:Nat))
 | [],i,x,h=>by simp at h
 | y::l,0,x,h=>by
  simp only[dk,fI]at h;subst h;exact⟨rfl,rfl,rfl⟩
 | y::l,i+1,x,h=>by have:=Tj l i x (by simpa using h);rw[show (i+1)*3=i*3+3 from by omega];exact this
def kq (out:LN) (r:Rn):List Nat:=
 if r.1<16 then out++[r.1] else if r.1=16 then out++List.replicate (3+r.2.1) (out.getLast?.getD 0) else if r.1=17 then out++List.replicate (3+r.2.1) 0 else out++List.replicate (11+r.2.1) 0
def okR (out:LN) (r:Rn):Prop:=
 (r.1<=15/\r.2.1=0/\r.2.2=0)\/(r.1=16/\r.2.1<4/\r.2.2=2/\out≠[])\/(r.1=17/\r.2.1<8/\r.2.2=3)\/(r.1=18/\r.2.1<128/\r.2.2=7)
def bN:List Nat->List Rn->List Nat->Prop
 | out,[],fin=>out=fin
 | out,r::rs,fin=>okR out r/\bN (kq out r) rs fin
theorem bN.add:∀{rs:List Rn} {out mid:LN} {r:Rn},bN out rs mid->okR mid r->bN out (rs++[r]) (kq mid r)
 | [],out,mid,r,h,k=>by obtain rfl:out=mid:=h;exact⟨k,rfl⟩
 | x::rs,out,mid,r,h,k=>⟨h.1,bN.add h.2 k⟩
theorem zfa (out:LN) (r:Rn):out.length+1<=(kq out r).length:=by
 unfold kq;split
 ·simp
 ·split
  ·simp;omega
  ·split<;>simp<;>omega
theorem bN.len:∀{rs:List Rn} {out fin:LN},bN out rs fin->out.length+rs.length<=fin.length
 | [],out,fin,h=>by obtain rfl:out=fin:=h;simp
 | x::rs,out,fin,h=>by have h1:=bN.len h.2;have h2:=zfa out x;simp only[dw];omega
def fY (base:LN) (x d:Nat):List Nat:=base++List.replicate d x
theorem SL (base:LN) (x d:Nat):(fY base x d).length=base.length+d:=by simp[fY]
theorem qzw (base:LN) (x d:Nat) (h:1<=d):(fY base x d).getLast?.getD 0=x:=by obtain⟨e,rfl⟩:∃e,d=e+1:=⟨d-1,by omega⟩;unfold fY;rw[IA,<-fU,List.getLast?_append];simp
theorem Yw (base:LN) (x d:Nat) (h:1<=d):fY base x d≠[]:=by intro e;have:=congrArg List.length e;rw[SL]at this;simp at this;omega
theorem KC (base:LN) (x d k:Nat):fY base x d++List.replicate k x=fY base x (d+k):=by unfold fY;rw[fU,List.replicate_append_replicate]
theorem XL (base:LN) (x d:Nat) (hx:x<=15):kq (fY base x d) (x,0,0)=fY base x (d+1):=by unfold kq;rw[if_pos (by simp only;omega)];exact KC base x d 1
theorem Xk (base:LN) (x d k:Nat) (h:1<=d) (hk:3<=k):kq (fY base x d) (16,k-3,2)=fY base x (d+k):=by unfold kq;rw[if_neg (by simp),if_pos rfl,qzw base x d h];simp only;rw[show 3+(k-3)=k from by omega];exact KC base x d k
theorem Xl (base:LN) (d k:Nat) (hk:3<=k):kq (fY base 0 d) (17,k-3,3)=fY base 0 (d+k):=by unfold kq;rw[if_neg (by simp),if_neg (by simp),if_pos rfl];simp only;rw[show 3+(k-3)=k from by omega];exact KC base 0 d k
theorem Xp (base:LN) (d k:Nat) (hk:11<=k):kq (fY base 0 d) (18,k-11,7)=fY base 0 (d+k):=by unfold kq;rw[if_neg (by simp),if_neg (by simp),if_neg (by simp)];simp only;rw[show 11+(k-11)=k from by omega];exact KC base 0 d k
theorem ZG (ls:LN) (i:Nat):∀n,i+n<=ls.length->(∀j,j<n->ae ls (i+j)=ae ls i)->ls.take (i+n)=fY (ls.take i) (ae ls i) n
 | 0,_,_=>by simp[fY]
 | n+1,h1,h2=>by
  have ih:=ZG ls i n (by omega) λj hj=>h2 j (by omega)
  have hl:i+n<ls.length:=by omega
  have e:ls[i+n]=ae ls i:=by rw[<-h2 n (by omega)];unfold ae;rw[dm hl];rfl
  rw[show i+(n+1)=i+n+1 from rfl,x7 hl,ih,e];exact KC (ls.take i) (ae ls i) n 1
theorem mT:aw Tryz.prog 577 580 (.agg #[.int .i64 0,.int .u32 0,.int .i64 0]) 3 24:=aw.of Tryz.underlying577 (by kernel_rfl) rfl (by decide)
theorem C6 (w:World) (x y z:Value) (T:TypeId):Cs (w.alloc (.cells #[x,y,z] T)) (some ⟨w.heap.size,0,none⟩) [x,y,z]:=by refine .inr ⟨_,0,rfl,λj v hv=>?_⟩;rw[cell_of (aV w _),iN];simpa using hv
theorem sZ {x y z:Value} (hx:x.oneCell'=true) (hy:y.oneCell'=true) (hz:z.oneCell'=true):∀u∈[x,y,z],u.oneCell'=true:=by
 intro u hu;simp only[eX,mV,or_false]at hu;rcases hu with rfl|rfl|rfl
 ·exact hx
 ·exact hy
 ·exact hz
theorem zdi (a:OA) (cap:Nat) (ls:LN) (w:World) (h:Ri w a cap ls) (hlen:ls.length<=100000) (pX:∀l∈ls,l<=15) :
  Calls Tryz.prog 451 #[.slice a ls.length cap] w λe w'=>∃ao rn cp rs,e = .returned (.slice ao rn cp)/\rn=rs.length/\Made w w' 580 3 ao rn cp (dn rs)/\bN [] rs ls:=by
 obtain⟨N,hN⟩:=ah ls.length;rw[<-hN]at hlen ⊢;have H:=aq h hN pX;clear h hN pX;go_enter Tryz.func451,Tryz.ntmps451;go_wp2;go_loopg [3,4,5,6,7,62,72,87] N (λk s3 s4 s5 s6 s7 s62 s72 s87 wr=>∃(i:Nat) (ao:OA) (rn cp:Nat) (rs:List Rn),s4 = .int .i64 (i:Nat)/\s3 = .slice ao rn cp/\k=N-i/\i<=N/\rn=rs.length/\Made w wr 580 3 ao rn cp (dn rs)/\bN [] rs (ls.take i));case atStart=>exact⟨0,none,0,0,[],rfl,rfl,rfl,eE _,rfl,.none w _ _,rfl⟩
 case round=>
  obtain⟨i,ao,rn,cp,rs,rfl,rfl,hk,hiN,jx,hm,fV⟩:=hrel;by_cases hi:i<N
  ·have cN:i<ls.length:=by rw[<-H.out.2.1];exact hi
   obtain⟨g,o,rfl,hc⟩:=(H.out.1.fr hm.fr).at cN;have eh:∀j,j<ls.length->ls[j]?=some (ae ls j):=λj hj=>by unfold ae;rw[dm hj];rfl
   have iP:ae ls i<=15:=H.out.2.2 _ (Dh cN);have hcell:∀j,j<N->wr.cell? ⟨g,o+j,none⟩=some (.int .i64 (ae ls j:Nat)):=λj hj=>by obtain⟨g',o',e,Bc⟩:=(H.out.1.fr hm.fr).at (i:=j) (by rw[<-H.out.2.1];exact hj);simp only[fI,rB,and_true]at e;obtain⟨rfl,rfl⟩:=e;rw[Bc,<-(ig ((dm (by rw[<-H.out.2.1];exact hj)).symm.trans (eh j (by rw[<-H.out.2.1];exact hj))))]
   have HI:=aQ hm fV hk jx hcell;have HX:=af iP;obtain⟨x,hx⟩:=ah (ae ls i);have dx:=hcell i hi;rw[<-hx]at dx;have Rr:=af hx;clear hm fV hk jx hcell eh hc iP hx cN;obtain⟨wo,xp⟩:∃wo:World,wo=wr:=⟨_,rfl⟩;have JG:=af xp;rw[<-xp]at dx ⊢;clear xp;go_wp2;go_loopg [5] (N-1) (λk s5 wz=>∃n:Nat,s5 = .int .i64 (n:Nat)/\1<=n/\i+n<=N/\k=N-n/\(∀j,j<n->ae ls (i+j)=ae ls i)/\Fr [] wo wz);case atStart=>exact⟨1,rfl,ax _,by omega,rfl,λj hj=>by rw[show j=0 from by omega,pN],.refl _ _⟩
   case round=>
    obtain⟨n,rfl,tI,Jg,j3,ct,qU⟩:=hrel;obtain⟨y,hy⟩:=ah (i+n);have e0:(i:Int)+(n:Int)=(y:Int):=by omega
    have dx2:=qU.cell dx (by simp);have key:(y<N/\ae ls y=x)\/(y<N/\ae ls y≠x)\/N<=y:=by omega
    have oR:(y<N/\ae ls y=x)\/((y<N/\ae ls y≠x)\/N<=y):=key;clear key;rcases oR with⟨Fl,AB⟩|oR
    ·have dy:=(HI.l4 y Fl);rw[<-JG.out,AB]at dy;have dy2:=qU.cell dy (by simp);have q:((x:Int)==(x:Int))=true:=by simp
     have g1:decide ((N:Int)<=(y:Int))=false:=by simp;omega
     have g2:decide ((N:Int)<=(i:Int))=false:=by simp;omega
     have g3:decide ((y:Int)<(N:Int))=true:=by simp;omega
     have HK:=aQ ct qU hy j3 AB;clear ct qU hy j3 dy AB;go_upto_region 5 with fail;go_quiet (fail);go_wp2;go_roundg (N-(n+1));case measure=>have:=HK.out.2.2.2.1;have:=HK.out.2.2.1;omega
     case rel=>
      obtain⟨ct,qU,hy,j3,AB⟩:=HK.out;refine⟨n+1,by go_num,by omega,by omega,rfl,λj hj=>?_,qU.trans (Fr.drewN [] _ _)⟩;rcases kT j n with k|k
      ·exact ct j k
      ·rw[show j=n from by omega,<-hy,AB,Rr.out]
    ·have uP:(y<N/\decide (y<N)=true)\/N<=y:=by rcases oR with k|k;exact .inl ⟨k.1,by simp[k.1]⟩;exact .inr k
     have hyB:y<=100000:=by omega
     have Fl:y<=N:=by omega
     have HK:=aQ ct qU hy j3 oR;clear ct qU j3 oR hy;go_upto_region 5 with fail;go_cut [30] from 12 to 31 (λs30 wd=>s30 = .bool false/\Fr [] wr wd)
     case first=>
      rcases HK.out.2.2.2.2 with⟨Fl,AB⟩|Fl
      ·have dy:=(HI.l4 y Fl);obtain⟨v,hv⟩:=ah (ae ls y);rw[<-JG.out,<-hv]at dy;rw[<-hv]at AB;have dy2:=HK.out.2.1.cell dy (by simp);have q:((v:Int)==(x:Int))=false:=by simp only[beq_eq_false_iff_ne];omega
       have g1:decide ((N:Int)<=(y:Int))=false:=by simp;omega
       have g2:decide ((N:Int)<=(i:Int))=false:=by simp;omega
       have g3:decide ((y:Int)<(N:Int))=true:=by simp;omega
       clear dy hv AB uP;go_quiet (fail);go_wp2;go_meet;exact⟨rfl,Fr.drewN [] _ _⟩
      ·have g3:decide ((y:Int)<(N:Int))=false:=by simp;omega
       have g4:decide (y<N)=false:=by simp;omega
       have ew:IntKind.i64.wrap (y:Int)=(y:Int):=by rw[xe];omega
       clear uP Fl;go_quiet (fail);go_wp2;go_meet;exact⟨rfl,Fr.drewN [] _ _⟩
     case rest=>
     obtain⟨rfl,QG⟩:=hcut;have dx3:=QG.cell dx2 (by simp);have g2:decide ((N:Int)<=(i:Int))=false:=by simp;omega
     obtain⟨wd,hwd⟩:∃wd:World,wd=wc:=⟨_,rfl⟩;rw[<-hwd]at dx3 QG ⊢;have fd:=HK.out.2.1.trans QG;have cI:ls.take y=fY (ls.take i) x n:=by obtain⟨ct,qU,hy,j3,_⟩:=HK.out;rw[hy,Rr.out];exact ZG ls i n (by rw[<-H.out.2.1];omega) ct
     have iP:x<=15:=by rw[Rr.out];exact HX.out
     have AU:=HI.o0;rw[<-JG.out]at AU;have HD:=cU cI (AU.ft fd) HI.o1 HI.o3 HI.o2 HK.out.2.2.1;have Cj:rn<=100000:=by have:=HI.o1.len;rw[fH,<-HI.o3]at this;simp at this;omega
     clear HK HI HX Rr JG cI AU fd QG hwd dx2 dx uP;go_upto_if 41 with fail;clear dx3 g2;go_cut [3,5] from 41 to 49 (λs3 s5 wz=>∃(rem d:Nat) (ao:OA) (rn cp:Nat) (rs:List Rn),s5 = .int .i64 (rem:Nat)/\s3 = .slice ao rn cp/\rem+d=n/\(0<x->1<=d)/\rn=rs.length/\Made w wz 580 3 ao rn cp (dn rs)/\bN [] rs (fY (ls.take i) x d))
     case first=>
      by_cases iz:0<x
      ·have q:decide ((0:Int)<(x:Int))=true:=by simp;omega
       obtain⟨n1,MA⟩:∃n1,n1=n-1:=⟨_,rfl⟩;have e1:(n:Int)-1=(n1:Int):=by omega
       have HN1:=af MA;clear MA;go_wp2_with (refine fq mT rfl _ _ rfl (.slice ao rn cp) rn (dn rs) (ag ao) rfl (cY ao rn cp) (HD.o1.ft ((Fr.refl [] _).alloc _)).own (some ⟨wd.heap.size,0,none⟩) 1 1 [.int .i64 x,.int .u32 0,.int .i64 0] (by first|rfl|simp) (ax _) (λh=>by cases h) (C6 _ _ _ _ _) rfl (sZ (by rfl) (by rfl) (by rfl)) (by omega) (by unfold maxLen;omega) ?_;intro cM fx w2 cS;have HA:=af ((HD.o1.ft ((Fr.refl [] _).alloc _)).app cS);clear cS);go_meet;have:=HN1.out;refine⟨n1,1,cM,rn+1,fx,rs++[(x,0,0)],rfl,rfl,by omega,λ_=>ax _,by rw[aG,HD.o3];rfl,by rw[DA];exact HA.out,?_⟩;have h1:=bN.add HD.o2 (r:=(x,0,0)) (.inl ⟨iP,rfl,rfl⟩);have h2:=XL (ls.take i) x 0 iP;rw[show fY (ls.take i) x 0=ls.take i from by simp[fY]]at h2;rwa [h2]at h1
      ·obtain rfl:x=0:=by omega
       go_wp2;go_meet;exact⟨n,0,ao,rn,cp,rs,rfl,rfl,rfl,λh=>absurd h (by omega),HD.o3,HD.o1,by rw[show fY (ls.take i) 0 0=ls.take i from by simp[fY]];exact HD.o2⟩
     case rest=>
     obtain⟨rem,d,ao,rn,cp,rs,rfl,rfl,eY,lO,jx,hm,fV⟩:=hcut;have HR:=aQ eY lO jx hm fV;have zaA:rem<=100000:=by omega
     clear eY lO jx hm fV Cj;go_wp2;go_loopg [3,5,7,62,72] rem (λk s3 s5 s7 s62 s72 wz=>∃(d:Nat) (ao:OA) (rn cp:Nat) (rs:List Rn),s5 = .int .i64 (k:Nat)/\s3 = .slice ao rn cp/\k+d=n/\(0<x->1<=d)/\rn=rs.length/\Made w wz 580 3 ao rn cp (dn rs)/\bN [] rs (fY (ls.take i) x d));case atStart=>exact⟨d,ao,rn,cp,rs,rfl,rfl,HR.out⟩
     case round=>
      obtain⟨d,ao,rn,cp,rs,rfl,rfl,eY,lO,jx,hm,fV⟩:=hrel;have Cj:rn<=200000:=by have:=fV.len;rw[SL,fH]at this;have:=H.out.2.1;simp only[jK]at *;omega
      have hgk:gk<=100000:=by omega
      have HZ:=aQ eY lO jx hm fV;clear eY lO jx hm fV;by_cases h3:3<=gk
      ·by_cases iz:0<x
       ·by_cases h6:6<gk
        ·obtain⟨m,hm⟩:=ah (6-3);obtain⟨q,hq⟩:=ah (gk-6);have em:((6:Nat):Int)-3=(m:Int):=by omega
         have eq:(gk:Int)-((6:Nat):Int)=(q:Int):=by omega
         have nk:m<=1000:=by omega
         have rE:q<gk:=by omega
         have HM:=ai hm hq;clear hm hq;go_wp2_with (refine fq mT rfl _ _ rfl (.slice ao rn cp) rn (dn rs) (ag ao) rfl (cY ao rn cp) (HZ.out.2.2.2.1.ft ((Fr.refl [] _).alloc _)).own (some ⟨wr.heap.size,0,none⟩) 1 1 [.int .i64 16,.int .u32 3,.int .i64 2] (by first|rfl|simp) (ax _) (λh=>by cases h) (C6 _ _ _ _ _) rfl (sZ (by rfl) (by rfl) (by rfl)) (by omega) (by unfold maxLen;omega) ?_;intro cM fx w2 cS;have HA:=af ((HZ.out.2.2.2.1.ft ((Fr.refl [] _).alloc _)).app cS);clear cS);go_roundg q;case measure=>exact rE
         case rel=>obtain⟨eY,lO,jx,nj,fV⟩:=HZ.out;obtain⟨hm,hq⟩:=HM.out;refine⟨d+6,cM,rn+1,fx,rs++[(16,3,2)],by go_num,rfl,by omega,λh=>by omega,by rw[aG,jx];rfl,by rw[DA];exact HA.out,?_⟩;have h1:=bN.add fV (r:=(16,3,2)) (.inr (.inl ⟨rfl,by show 3<4;omega,rfl,Yw _ _ _ (lO (by omega))⟩));have h2:=Xk (ls.take i) x d 6 (lO (by omega)) (by omega);rw[h2]at h1;exact h1
        ·obtain⟨m,hm⟩:=ah (gk-3);obtain⟨q,hq⟩:=ah (gk-gk);have em:((gk:Nat):Int)-3=(m:Int):=by omega
         have eq:(gk:Int)-((gk:Nat):Int)=(q:Int):=by omega
         have nk:m<=1000:=by omega
         have rE:q<gk:=by omega
         have HM:=ai hm hq;clear hm hq;go_wp2_with (refine fq mT rfl _ _ rfl (.slice ao rn cp) rn (dn rs) (ag ao) rfl (cY ao rn cp) (HZ.out.2.2.2.1.ft ((Fr.refl [] _).alloc _)).own (some ⟨wr.heap.size,0,none⟩) 1 1 [.int .i64 16,.int .u32 m,.int .i64 2] (by first|rfl|simp) (ax _) (λh=>by cases h) (C6 _ _ _ _ _) rfl (sZ (by rfl) (by rfl) (by rfl)) (by omega) (by unfold maxLen;omega) ?_;intro cM fx w2 cS;have HA:=af ((HZ.out.2.2.2.1.ft ((Fr.refl [] _).alloc _)).app cS);clear cS);go_roundg q;case measure=>exact rE
         case rel=>obtain⟨eY,lO,jx,nj,fV⟩:=HZ.out;obtain⟨hm,hq⟩:=HM.out;refine⟨d+gk,cM,rn+1,fx,rs++[(16,m,2)],by go_num,rfl,by omega,λh=>by omega,by rw[aG,jx];rfl,by rw[DA];exact HA.out,?_⟩;have h1:=bN.add fV (r:=(16,m,2)) (.inr (.inl ⟨rfl,by show m<4;omega,rfl,Yw _ _ _ (lO (by omega))⟩));have h2:=Xk (ls.take i) x d gk (lO (by omega)) (by omega);rw[<-hm]at h2;rw[h2]at h1;exact h1
       ·obtain rfl:x=0:=by omega
        by_cases sJ:gk<11
        ·by_cases h6:6<gk
         ·obtain⟨m,hm⟩:=ah (gk-3);obtain⟨q,hq⟩:=ah (gk-gk);have em:((gk:Nat):Int)-3=(m:Int):=by omega
          have eq:(gk:Int)-((gk:Nat):Int)=(q:Int):=by omega
          have nk:m<=1000:=by omega
          have rE:q<gk:=by omega
          have HM:=ai hm hq;clear hm hq;go_wp2_with (refine fq mT rfl _ _ rfl (.slice ao rn cp) rn (dn rs) (ag ao) rfl (cY ao rn cp) (HZ.out.2.2.2.1.ft ((Fr.refl [] _).alloc _)).own (some ⟨wr.heap.size,0,none⟩) 1 1 [.int .i64 17,.int .u32 m,.int .i64 3] (by first|rfl|simp) (ax _) (λh=>by cases h) (C6 _ _ _ _ _) rfl (sZ (by rfl) (by rfl) (by rfl)) (by omega) (by unfold maxLen;omega) ?_;intro cM fx w2 cS;have HA:=af ((HZ.out.2.2.2.1.ft ((Fr.refl [] _).alloc _)).app cS);clear cS);go_roundg q;case measure=>exact rE
          case rel=>obtain⟨eY,lO,jx,nj,fV⟩:=HZ.out;obtain⟨hm,hq⟩:=HM.out;refine⟨d+gk,cM,rn+1,fx,rs++[(17,m,3)],by go_num,rfl,by omega,λh=>by omega,by rw[aG,jx];rfl,by rw[DA];exact HA.out,?_⟩;have h1:=bN.add fV (r:=(17,m,3)) (.inr (.inr (.inl ⟨rfl,by show m<8;omega,rfl⟩)));have h2:=Xl (ls.take i) d gk (by omega);rw[<-hm]at h2;rw[h2]at h1;exact h1
         ·obtain⟨m,hm⟩:=ah (gk-3);obtain⟨q,hq⟩:=ah (gk-gk);have em:((gk:Nat):Int)-3=(m:Int):=by omega
          have eq:(gk:Int)-((gk:Nat):Int)=(q:Int):=by omega
          have nk:m<=1000:=by omega
          have rE:q<gk:=by omega
          have HM:=ai hm hq;clear hm hq;go_wp2_with (refine fq mT rfl _ _ rfl (.slice ao rn cp) rn (dn rs) (ag ao) rfl (cY ao rn cp) (HZ.out.2.2.2.1.ft ((Fr.refl [] _).alloc _)).own (some ⟨wr.heap.size,0,none⟩) 1 1 [.int .i64 17,.int .u32 m,.int .i64 3] (by first|rfl|simp) (ax _) (λh=>by cases h) (C6 _ _ _ _ _) rfl (sZ (by rfl) (by rfl) (by rfl)) (by omega) (by unfold maxLen;omega) ?_;intro cM fx w2 cS;have HA:=af ((HZ.out.2.2.2.1.ft ((Fr.refl [] _).alloc _)).app cS);clear cS);go_roundg q;case measure=>exact rE
          case rel=>obtain⟨eY,lO,jx,nj,fV⟩:=HZ.out;obtain⟨hm,hq⟩:=HM.out;refine⟨d+gk,cM,rn+1,fx,rs++[(17,m,3)],by go_num,rfl,by omega,λh=>by omega,by rw[aG,jx];rfl,by rw[DA];exact HA.out,?_⟩;have h1:=bN.add fV (r:=(17,m,3)) (.inr (.inr (.inl ⟨rfl,by show m<8;omega,rfl⟩)));have h2:=Xl (ls.take i) d gk (by omega);rw[<-hm]at h2;rw[h2]at h1;exact h1
        ·have h6:6<gk:=by omega
         by_cases h138:138<gk
         ·obtain⟨m,hm⟩:=ah (138-11);obtain⟨q,hq⟩:=ah (gk-138);have em:((138:Nat):Int)-11=(m:Int):=by omega
          have eq:(gk:Int)-((138:Nat):Int)=(q:Int):=by omega
          have nk:m<=1000:=by omega
          have rE:q<gk:=by omega
          have HM:=ai hm hq;clear hm hq;go_wp2_with (refine fq mT rfl _ _ rfl (.slice ao rn cp) rn (dn rs) (ag ao) rfl (cY ao rn cp) (HZ.out.2.2.2.1.ft ((Fr.refl [] _).alloc _)).own (some ⟨wr.heap.size,0,none⟩) 1 1 [.int .i64 18,.int .u32 127,.int .i64 7] (by first|rfl|simp) (ax _) (λh=>by cases h) (C6 _ _ _ _ _) rfl (sZ (by rfl) (by rfl) (by rfl)) (by omega) (by unfold maxLen;omega) ?_;intro cM fx w2 cS;have HA:=af ((HZ.out.2.2.2.1.ft ((Fr.refl [] _).alloc _)).app cS);clear cS);go_roundg q;case measure=>exact rE
          case rel=>obtain⟨eY,lO,jx,nj,fV⟩:=HZ.out;obtain⟨hm,hq⟩:=HM.out;refine⟨d+138,cM,rn+1,fx,rs++[(18,127,7)],by go_num,rfl,by omega,λh=>by omega,by rw[aG,jx];rfl,by rw[DA];exact HA.out,?_⟩;have h1:=bN.add fV (r:=(18,127,7)) (.inr (.inr (.inr ⟨rfl,by show 127<128;omega,rfl⟩)));have h2:=Xp (ls.take i) d 138 (by omega);rw[h2]at h1;exact h1
         ·obtain⟨m,hm⟩:=ah (gk-11);obtain⟨q,hq⟩:=ah (gk-gk);have em:((gk:Nat):Int)-11=(m:Int):=by omega
          have eq:(gk:Int)-((gk:Nat):Int)=(q:Int):=by omega
          have nk:m<=1000:=by omega
          have rE:q<gk:=by omega
          have HM:=ai hm hq;clear hm hq;go_wp2_with (refine fq mT rfl _ _ rfl (.slice ao rn cp) rn (dn rs) (ag ao) rfl (cY ao rn cp) (HZ.out.2.2.2.1.ft ((Fr.refl [] _).alloc _)).own (some ⟨wr.heap.size,0,none⟩) 1 1 [.int .i64 18,.int .u32 m,.int .i64 7] (by first|rfl|simp) (ax _) (λh=>by cases h) (C6 _ _ _ _ _) rfl (sZ (by rfl) (by rfl) (by rfl)) (by omega) (by unfold maxLen;omega) ?_;intro cM fx w2 cS;have HA:=af ((HZ.out.2.2.2.1.ft ((Fr.refl [] _).alloc _)).app cS);clear cS);go_roundg q;case measure=>exact rE
          case rel=>obtain⟨eY,lO,jx,nj,fV⟩:=HZ.out;obtain⟨hm,hq⟩:=HM.out;refine⟨d+gk,cM,rn+1,fx,rs++[(18,m,7)],by go_num,rfl,by omega,λh=>by omega,by rw[aG,jx];rfl,by rw[DA];exact HA.out,?_⟩;have h1:=bN.add fV (r:=(18,m,7)) (.inr (.inr (.inr ⟨rfl,by show m<128;omega,rfl⟩)));have h2:=Xp (ls.take i) d gk (by omega);rw[<-hm]at h2;rw[h2]at h1;exact h1
      ·obtain⟨rem,FE⟩:=ah gk;rw[<-FE];have hr3:rem<3:=by omega
       have HRM:=af FE;clear FE h3;go_wp2;go_loopg [3,87] rem (λk s3 s87 wz=>∃(t:Nat) (ao:OA) (rn cp:Nat) (rs:List Rn),s87 = .int .i64 (t:Nat)/\s3 = .slice ao rn cp/\t+k=rem/\rn=rs.length/\Made w wz 580 3 ao rn cp (dn rs)/\bN [] rs (fY (ls.take i) x (d+t)));case atStart=>exact⟨0,ao,rn,cp,rs,rfl,rfl,by omega,HZ.out.2.2.1,HZ.out.2.2.2.1,HZ.out.2.2.2.2⟩
       case round=>
        obtain⟨t,ao,rn,cp,rs,rfl,rfl,cI,jx,hm,fV⟩:=hrel;by_cases ht:t<rem
        ·obtain⟨k2,rfl⟩:∃k2,gk=k2+1:=⟨gk-1,by omega⟩;have Cj:rn<=300000:=by have:=fV.len;rw[SL,fH]at this;have:=H.out.2.1;have:=HZ.out.1;simp only[jK]at *;omega
         have HY:=aA cI jx hm fV;clear cI jx hm fV;go_wp2_with (refine fq mT rfl _ _ rfl (.slice ao rn cp) rn (dn rs) (ag ao) rfl (cY ao rn cp) (HY.out.2.2.1.ft ((Fr.refl [] _).alloc _)).own (some ⟨wr.heap.size,0,none⟩) 1 1 [.int .i64 x,.int .u32 0,.int .i64 0] (by first|rfl|simp) (ax _) (λh=>by cases h) (C6 _ _ _ _ _) rfl (sZ (by rfl) (by rfl) (by rfl)) (by omega) (by unfold maxLen;omega) ?_;intro cM fx w2 cS;have HA:=af ((HY.out.2.2.1.ft ((Fr.refl [] _).alloc _)).app cS);clear cS);go_roundg k2;case measure=>omega
         case rel=>obtain⟨cI,jx,hm,fV⟩:=HY.out;refine⟨t+1,cM,rn+1,fx,rs++[(x,0,0)],by go_num,rfl,by omega,by rw[aG,jx];rfl,by rw[DA];exact HA.out,?_⟩;have h1:=bN.add fV (r:=(x,0,0)) (.inl ⟨iP,rfl,rfl⟩);rw[XL (ls.take i) x (d+t) iP]at h1;exact h1
        ·obtain rfl:t=rem:=by omega
         have HY:=aq jx hm fV;clear cI jx hm fV;go_wp2;go_roundg (N-y);case measure=>have:=HD.o4;have:=HD.l5;omega
         case rel=>obtain⟨jx,hm,fV⟩:=HY.out;refine⟨y,ao,rn,cp,rs,rfl,rfl,rfl,Fl,jx,hm,?_⟩;rw[HD.o0,show n=d+t from by have:=HZ.out.1;have:=HRM.out;omega];exact fV
  ·obtain rfl:i=N:=by omega
   have HY:=aq jx hm fV;clear hk jx hm fV;go_wp2;go_ret;obtain⟨jx,hm,fV⟩:=HY.out;rw[lL (by rw[<-H.out.2.1];exact ax _)]at fV;exact⟨ao,rn,cp,rs,rfl,jx,hm,fV⟩
end defl

end Go.Proofs.YticadfhpolhkeaaGreatDoor