/-
  Texts of this proof, one behind the other: PackRd0, PkRead.
-/
import Derived.Test.YtkmpfgpfbmeihaaGreatDoorQ17
set_option maxHeartbeats 16000000
set_option maxRecDepth 100000
set_option linter.unusedVariables false
set_option linter.unusedSimpArgs false
namespace Go.Proofs.YtkmpfgpfbmeihaaGreatDoor
namespace pk
open Go Go.RowKit lib bm
theorem zeh (w:World):Calls Tryz.prog 45 #[.slice none 0 0] w λe w'=>e = .returned (.slice none 0 0)/\w'=w:=by go_enter Tryz.func45,Tryz.ntmps45;go_wp2;go_ret;exact⟨rfl,rfl⟩
theorem qs3 (w:World):(Instr.slice 9 (.string ⟨#[80,65,67,75,0,0,0,2]⟩) none (some (.int .i64 8)) none).run Tryz.prog w = .ok (.string ⟨#[80,65,67,75,0,0,0,2]⟩) w:=by kernel_rfl
theorem zco (a:OA) (w:World) (h:lib.Rd w a 32 (aZ++sha.dX aZ)) (tJ:∀x∈af a,x<w.heap.size) :
  Calls Tryz.prog 18 #[.slice a 32 32] w λe w'=>(∃s:ByteArray,s.size=40/\e = .returned (.tuple #[.slice none 0 0,.string s,.int .i64 0]))/\Fr [] w w':=by
 have hlen:(aZ++sha.dX aZ).length=32:=by rw[aA,sha.rN];rfl
 obtain⟨bs,mD⟩:=ai (aZ++sha.dX aZ);have e8:bs.take 8=[80,65,67,75,0,0,0,2]:=by rw[mD];rfl
 have e12:bs.take 12=aZ:=by rw[mD];rfl
 have e84:(bs.drop 8).take 4=[0,0,0,0]:=by rw[mD];rfl
 have e20:(bs.drop 12).take 20=sha.dX aZ:=by rw[mD];exact mL (Nat.le_of_eq (sha.rN _))
 rw[<-mD]at h hlen;clear mD;obtain⟨g,o,rfl,_⟩:=h.cs.at (by rw[bW,hlen];decide);have r8:=h.take 8;rw[e8]at r8;have cv8:∀x c,(convert 23 9 (.slice (some ⟨g,o,none⟩) 8 c)).run Tryz.prog (w.drewN x) = .ok (.string ⟨#[80,65,67,75,0,0,0,2]⟩) (w.drewN x):=λx c=>vU (w.drewN x) Tryz.underlying23 Tryz.underlying5 Tryz.underlying9 rfl (r8.cs.fr (Fr.drewN [] w x) (by simp)) c
 have hs8:=λw'=>lib.FZ aq 8 (some ⟨g,o,none⟩) 32 32 8 rfl (by decide) w'
 have lh:=qs3;have HH:=cJ h hlen (tJ g (by simp[af])) e12 e84 e20;clear h hlen tJ e8 e12 e84 e20 r8;go_enter Tryz.func18,Tryz.ntmps18;go_upto_region 4 with fail;go_quiet (fail);go_upto_region 7 with fail;obtain⟨R,w2,hR,bL,f2,q2⟩:∃R w2,R=w.heap.size/\w2=(w.drewN nq).alloc (.cells #[.slice (some ⟨g,o,none⟩) 32 32,.int .i64 8] 85)/\Fr [] w w2/\w2.heap[R]?=some (.cells #[.slice (some ⟨g,o,none⟩) 32 32,.int .i64 8] 85 (0,0)):=⟨_,_,rfl,rfl,(Fr.drewN [] w nq).alloc _,bC (w.drewN nq) _⟩;rw[<-bL,<-hR];have AE:g≠R:=by have:=HH.o2;omega
 have DO:qZ w2 R (some ⟨g,o,none⟩) 32 bs 8:=⟨by rw[HH.o1];exact q2,HH.o0.fr f2,by rw[HH.o1];decide,λ_ x hx=>by simp only[af,iH]at hx;rw[hx];exact AE⟩;have ht:=Dd R (some ⟨g,o,none⟩) 32 bs 8 4 w2 DO (by rw[HH.o1];decide) (by rw[HH.o1];decide);have c8:cutAt (some ⟨g,o,none⟩) 32 8=some ⟨g,o+8,none⟩:=by unfold cutAt;simp[Bb]
 rw[c8]at ht;have H2:=aG f2 ht AE hR;clear bL hR f2 q2 DO ht AE c8 cv8 hs8 lh;go_upto_region 8 with (go_at_call 43;refine H2.o1.mono ?_;rintro e w3 ⟨rfl,sr,f3⟩);have QO:Fr [] w w3:=H2.o0.step f3 (λy hy=>.inr (by simp only[iH]at hy;rw[hy,H2.l3];exact ay _));have rz:=sr.rd.mid 8 4 (by rw[HH.o1];decide);rw[HH.o4,show cutAt (some ⟨g,o,none⟩) 32 8=some ⟨g,o+8,none⟩ by unfold cutAt;simp[Bb]]at rz;have z:∀i,i<4->w3.cell? ⟨g,o+8+i,none⟩=some (.int .u8 0):=λi hi=>by
  obtain⟨g',o',e,hc⟩:=rz.at (i:=i) (by simpa using hi);cases e;rw[hc];match i,hi with
  | 0,_=>rfl
  | 1,_=>rfl
  | 2,_=>rfl
  | 3,_=>rfl
 have z0:=z 0 (by decide);rw[ie]at z0;have z1:=z 1 (by decide);have z2:=z 2 (by decide);have z3:=z 3 (by decide);have ob:bits .or .i64 0 0=0:=by decide
 have H3:=ak sr QO;clear sr f3 QO rz z;go_upto_region 10 with fail;go_quiet (fail);clear z0 z1 z2 z3 ob;obtain⟨w4,gw⟩:=ai (w3.drewN nq);rw[<-gw];have f4:Fr [] w3 w4:=by rw[gw];exact Fr.drewN [] w3 nq
 have mK:=H3.o0.fr f4;have c1:w4.cell? ⟨R,1,none⟩=some (.int .i64 12):=by rw[cell_of mK.box];rfl
 have Vd:=mK.rd.take 12;rw[HH.o3]at Vd;have mA:=sha.Sm (some ⟨g,o,none⟩) 32 aZ w4 Vd (by decide);have zw:=λw'=>lib.FZ aq 12 (some ⟨g,o,none⟩) 32 32 12 rfl (by decide) w'
 have H4:=aw mK (H3.l1.trans f4) mA;clear mK f4 gw Vd mA;go_wp2;go_loopg [2,66] 0 (λk s2 s66 wr=>s2 = .slice none 0 0/\s66 = .int .i64 0/\wr=w4);case atStart=>exact⟨rfl,rfl,rfl⟩
 case round=>
 obtain⟨rfl,rfl,rfl⟩:=hrel;go_upto_region 21 with (go_at_call 35;refine H4.l2.mono ?_;rintro e w5 ⟨⟨a5,c5,rfl,r5⟩,f5⟩);have uh:=H4.o0.fr f5;have ht:=Dd R (some ⟨g,o,none⟩) 32 bs 12 20 w5 uh (by rw[HH.o1];decide) (by rw[HH.o1];decide);have Mz:cutAt (some ⟨g,o,none⟩) 32 12=some ⟨g,o+12,none⟩:=by unfold cutAt;simp[Bb]
 rw[Mz]at ht;have fL:R∉af a5:=by
  obtain⟨g5,o5,rfl,Dv⟩:=r5.cs.at (by rw[bW,sha.rN];decide);simp only[af,iH];rintro rfl;obtain⟨x,t,hx⟩:∃x t,sha.dX aZ=x::t:=by
   cases hh:sha.dX aZ with
   | nil=>have:=congrArg List.length hh;rw[sha.rN]at this;cases this
   | cons x t=>exact⟨x,t,rfl⟩
  have h0:=Dv 0 (bv x) (by rw[hx];rfl);rw[cell_of uh.box]at h0;match o5,h0 with
  | 0,h0=>simp[bv]at h0
  | 1,h0=>simp[bv]at h0
  | n+2,h0=>simp at h0
 have H5:=aG r5 f5 ht fL;clear r5 f5 uh ht Mz zw c1 fL;go_upto_region 22 with (go_at_call 43;refine H5.o2.mono ?_;rintro e w6 ⟨rfl,uI,f6⟩);obtain⟨S,hS⟩:=ai (str (sha.dX aZ));have r6:=H5.o0.gJ f6 (λx hx hm=>by simp only[iH]at hm;exact H5.l3 (hm▸hx));have rm:=uI.rd.mid 12 20 (by rw[HH.o1];decide);rw[HH.l5,show cutAt (some ⟨g,o,none⟩) 32 12=some ⟨g,o+12,none⟩ by unfold cutAt;simp[Bb]]at rm;have cvA:=vU w6 Tryz.underlying23 Tryz.underlying5 Tryz.underlying9 (sha.rN aZ) rm.cs;have cvB:=vU w6 Tryz.underlying23 Tryz.underlying5 Tryz.underlying9 (sha.rN aZ) r6.cs;rw[<-hS]at cvA cvB;have hss:(S==S)=true:=by rw[hS,zf6];exact beq_self_eq_true _
 have k1:w6.cell? ⟨R,1,none⟩=some (.int .i64 32):=by rw[cell_of uI.box];rfl
 have hex:=R0 a5 c5 (sha.dX aZ) w6 r6 (by decide);rw[sha.rN]at hex;obtain⟨X,hX⟩:=ai (str (gH (sha.dX aZ)));rw[<-hX]at hex;have hXs:X.size=40:=by
  have:(str (gH (sha.dX aZ))).size=(gH (sha.dX aZ)).length:=by simp[str,ByteArray.size]
  rw[hX,this,eC,sha.rN]
 have hf:Fr [] w w6:=(H4.o1.trans H5.o1).step f6 (λy hy=>.inr (by simp only[iH]at hy;rw[hy,H2.l3];exact ay _));have H6:=aw hex hXs hf;clear hex hXs hf hX rm r6 uI f6 hS;go_wp2_with (first
  | (go_at_call 45;refine (zeh _).mono ?_;rintro e w7 ⟨rfl,hw⟩;obtain rfl:=hw.symm)
  | (go_at_call 46;refine H6.o0.mono ?_;rintro e w8 ⟨rfl,f8⟩))
 go_ret3;exact⟨⟨X,H6.o1,rfl⟩,H6.l2.trans f8⟩
theorem qoj (j:Nat) (h2:j<=8) (w:World):(Instr.slice 9 (.string ⟨#[80,65,67,75,0,0,0,2]⟩) none (some (.int .i64 j)) none).run Tryz.prog w = .ok (.string (str (fJ.take j))) w:=by
 have hs:(str fJ).size=8:=rfl;have e:(⟨#[80,65,67,75,0,0,0,2]⟩:ByteArray)=str fJ:=rfl;rw[e,run_slice_string_h w 9 (str fJ) Tryz.underlying9 .i64 j (by omega) (by rw[hs];omega)];have:∀i:Fin 9,(str fJ).extract 0 i.1=str (fJ.take i.1):=by decide
 rw[show ((j:Nat):Int).toNat=j from rfl,this ⟨j,by omega⟩]
theorem QV (bs:LB) (k:Nat) (h:k+4<=bs.length):∃x0 x1 x2 x3,(bs.drop k).take 4=[x0,x1,x2,x3]:=by
 have hl:((bs.drop k).take 4).length=4:=by rw[dU,eV];omega
 match (bs.drop k).take 4,hl with
 | [x0,x1,x2,x3],_=>exact⟨x0,x1,x2,x3,rfl⟩
theorem zgd {w:World} {r cap at_ c:Nat} {a a5:OA} {bs D:LB} (h:qZ w r a cap bs at_) (r5:lib.Rd w a5 c D) (hD:0<D.length):r∉af a5:=by
 obtain⟨g5,o5,rfl,Dv⟩:=r5.at (i:=0) hD;simp only[af,iH];rintro rfl;rw[ie,cell_of h.box]at Dv;match o5,Dv with
 | 0,Dv=>simp at Dv
 | 1,Dv=>simp at Dv
 | n+2,Dv=>simp at Dv
def Rf (w:World) (P:Except Nat (List ek×List UInt8)) (e:Ending) (w':World):Prop:=
 Fr [] w w'/\((∃x,P = .error x/\0<x/\x<100/\e = .returned (.tuple #[.slice none 0 0,.string ⟨#[]⟩,.int .i64 (x:Nat)]))\/
  ∃l id a ms,P = .ok (l,id)/\e = .returned (.tuple #[.slice a l.length l.length,.string (str id),.int .i64 0])/\ms.map (·.1)=l/\lO w' a ms/\
   (∀y∈af a,w.heap.size<=y/\y<w'.heap.size)/\(a=none->l=[])/\(∀m∈ms,∀y∈af m.2,w.heap.size<=y/\y<w'.heap.size))
theorem Sk (a:OA) (cap:Nat) (bs:LB) (w:World) (h:lib.Rd w a cap bs) :
  Calls Tryz.prog 18 #[.slice a bs.length cap] w (Rf w (pread bs)):=by
 obtain⟨P,hP⟩:=ai (pread bs);rw[<-hP];unfold pread at hP;obtain⟨L,hL⟩:=ai bs.length;rw[<-hL]at hP ⊢;have cZ:=h.le;have dK:=h.max;unfold maxLen at dK;rw[<-hL]at cZ;by_cases mE:1048576<L
 ·rw[if_pos mE]at hP;have HP:=ah hP;have d0:decide ((1048576:Int)<(L:Int))=true:=by simp;omega
  clear hP hL h;go_enter Tryz.func18,Tryz.ntmps18;go_wp2;go_ret3;exact⟨Fr.refl _ _,.inl ⟨5,HP.out,by decide,by decide,rfl⟩⟩
 ·rw[if_neg mE]at hP;have d0:decide ((1048576:Int)<(L:Int))=false:=by simp;omega
  obtain⟨n,hn⟩:=ai (min L 8);have TK:n<=L:=by omega
  have yx:n<=8:=by omega
  have QR:(n:Int)=if (8:Int)<(L:Int) then 8 else (L:Int):=by split<;>omega
  have et:bs.take n=bs.take 8:=by
   by_cases h8:8<=L
   ·rw[show n=8 by omega]
   ·rw[mL (by omega),mL (by omega)]
  have eb:fJ.take n=fJ.take L:=by
   by_cases h8:8<=L
   ·rw[show n=8 by omega,mL (l:=fJ) (i:=L) (by show 8<=L;exact h8)];rfl
   ·rw[show n=L by omega]
  have hsl:=λw'=>lib.FZ aq n a L cap (n:Nat) rfl (by omega) w'
  have lh:=λw'=>qoj n yx w'
  have hcv:=λx c=>vU (w.drewN x) Tryz.underlying23 Tryz.underlying5 Tryz.underlying9 (bs:=bs.take n) (n:=n) (by rw[dU];omega) ((h.take n).cs.fr (Fr.drewN [] w x) (by simp)) c
  rw[et]at hcv;rw[eb]at lh;obtain⟨sa,OW⟩:∃s,s=str (bs.take 8):=⟨_,rfl⟩;obtain⟨sb,I9⟩:∃s,s=str (fJ.take L):=⟨_,rfl⟩;have bQ:(sa.toList==sb.toList)=(bs.take 8==fJ.take L):=by rw[OW,I9,bh,bh]
  rw[<-OW]at hcv;rw[<-I9]at lh;have H:=aG h hL hn QR;clear h hL hn QR et eb OW I9;by_cases hpre:bs.take 8=fJ.take L
  ·have dn:(sa.toList==sb.toList)=true:=by rw[bQ,hpre];exact beq_self_eq_true _
   rw[if_neg (by simpa using hpre)]at hP;have HP:=ah hP;clear hP bQ hpre;go_enter Tryz.func18,Tryz.ntmps18;go_upto_region 4 with (refine NN (n:Int) rfl _ _ _ rfl (L:Int) 8 rfl rfl H.out.2.2.2 ?_);go_quiet (fail);clear hsl lh hcv dn d0;go_upto_region 7 with fail;obtain⟨R,w2,hR,bL,f2,q2⟩:∃R w2,R=w.heap.size/\w2=(w.drewN nq).alloc (.cells #[.slice a L cap,.int .i64 (n:Nat)] 85)/\Fr [] w w2/\w2.heap[R]?=some (.cells #[.slice a L cap,.int .i64 (n:Nat)] 85 (0,0)):=⟨_,_,rfl,rfl,(Fr.drewN [] w nq).alloc _,bC (w.drewN nq) _⟩;rw[<-bL,<-hR];have DO:qZ w2 R a cap bs n:=⟨by rw[<-H.out.2.1];exact q2,H.out.1.fr f2,by rw[<-H.out.2.1];exact TK,λhb x hx=>by have:=A7 H.out.1 hb x hx;omega⟩;have hlen:bs.length<=100000000:=by rw[<-H.out.2.1];omega
   by_cases zT:L<12
   ·have yJ:P = .error 4:=by rw[HP.out,if_pos zT]
    have Gs:Fr [] w w2/\P = .error 4:=⟨f2,yJ⟩;by_cases dP:n+4<=L
    ·have ht:=Dd R a cap bs n 4 w2 DO hlen (by rw[<-H.out.2.1];exact dP);have HT:=aG ht f2 yJ hR;have h8:n<8:=by have:=H.out.2.2.1;omega
     have d8:decide (n<8)=true:=by simpa using h8
     clear ht f2 q2 bL DO hR Gs yJ;go_wp2_with (go_at_call 43;refine HT.o0.mono ?_;rintro e w3 ⟨rfl,sr,f3⟩);go_ret3;exact⟨HT.o1.step f3 (λy hy=>.inr (by simp at hy;rw[hy,HT.l2.2];exact ay _)),.inl ⟨4,HT.l2.1,by decide,by decide,rfl⟩⟩
    ·have ht:=FN R a cap bs n 4 w2 DO hlen (by rw[<-H.out.2.1];omega);have HT:=aw ht f2 yJ;clear ht f2 q2 bL DO hR Gs yJ;by_cases h8:n<8
     ·go_wp2_with (go_at_call 43;refine HT.o0.mono ?_;rintro e w3 ⟨rfl,f3⟩);go_ret3;exact⟨HT.o1.trans f3,.inl ⟨4,HT.l2,by decide,by decide,rfl⟩⟩
     ·have d8:decide (n<8)=false:=by simpa using h8
      go_wp2_with (go_at_call 43;refine HT.o0.mono ?_;rintro e w3 ⟨rfl,f3⟩);go_ret3;exact⟨HT.o1.trans f3,.inl ⟨4,HT.l2,by decide,by decide,rfl⟩⟩
   ·obtain rfl:n=8:=by have:=H.out.2.2.1;omega
    have Cm:=HP.out;rw[if_neg zT]at Cm;have ht:=Dd R a cap bs 8 4 w2 DO hlen (by rw[<-H.out.2.1];omega);obtain⟨a8,JT⟩:=ai (cutAt a cap 8);rw[<-JT]at ht;have HT:=cJ ht f2 Cm hR JT hlen;clear ht f2 q2 bL DO hR Cm JT hlen;go_upto_region 10 with (go_at_call 43;refine HT.o0.mono ?_;rintro e w3 ⟨rfl,sr,f3⟩);have QO:Fr [] w w3:=HT.o1.step f3 (λy hy=>.inr (by simp at hy;rw[hy,HT.l2.2.1];exact ay _));obtain⟨x0,x1,x2,x3,LO⟩:=QV bs 8 (by rw[<-H.out.2.1];omega);have rz:=sr.rd.mid 8 4 (by rw[<-H.out.2.1];omega);rw[LO,<-HT.l2.2.2.1]at rz;obtain⟨g,o,ea8,c0⟩:=rz.at (i:=0) (by simp);obtain⟨g1,o1,e1,c1⟩:=rz.at (i:=1) (by simp);obtain⟨g2,o2,e2,c2⟩:=rz.at (i:=2) (by simp);obtain⟨g3,o3,e3,c3⟩:=rz.at (i:=3) (by simp);have bN:=HT.l2.2.2.1;subst ea8;simp only[eJ,ru,and_true]at e1 e2 e3;obtain⟨rfl,rfl⟩:=e1;obtain⟨rfl,rfl⟩:=e2;obtain⟨rfl,rfl⟩:=e3;simp only[ie,List.getElem_cons_zero,List.getElem_cons_succ]at c0 c1 c2 c3;have l0:=iL x0;have l1:=iL x1;have l2:=iL x2;have l3:=iL x3;obtain⟨N,hN⟩:=ai (crc.jH ((bs.drop 8).take 4));have Mp:N=((x0.toNat*256+x1.toNat)*256+x2.toNat)*256+x3.toNat:=by rw[hN,LO];unfold crc.jH;simp only[DW,List.foldl_nil];omega
    have zP:=HT.l2.1;rw[<-hN]at zP;generalize x0.toNat=y0 at *;generalize x1.toNat=y1 at *;generalize x2.toNat=y2 at *;generalize x3.toNat=y3 at *;obtain⟨z1,jr⟩:∃z,z=y0*16777216+y1*65536:=⟨_,rfl⟩;obtain⟨z2,mv⟩:∃z,z=z1+y2*256:=⟨_,rfl⟩;have r1:bits .or .i64 ((y0:Int)*16777216) ((y1:Int)*65536)=(z1:Int):=by have:=Na y0 (y1*65536) 24 (by decide) (by omega) (by omega);rw[show y0*2^24+y1*65536=z1 by omega]at this;simpa using this
    have r2:bits .or .i64 (z1:Int) ((y2:Int)*256)=(z2:Int):=by have:=Na (y0*256+y1) (y2*256) 16 (by decide) (by omega) (by omega);rw[show (y0*256+y1)*2^16+y2*256=z2 by omega,<-C6,show (y0*256+y1)*2^16=z1 by omega]at this;simpa using this
    have r3:bits .or .i64 (z2:Int) (y3:Int)=(N:Int):=by have:=Na ((y0*256+y1)*256+y2) y3 8 (by decide) (by omega) (by omega);rw[show ((y0*256+y1)*256+y2)*2^8+y3=N by omega,<-C6,show ((y0*256+y1)*256+y2)*2^8=z2 by omega]at this;exact this
    have H3:=aw sr QO zP;have ZL:N<4294967296:=by omega
    have Em:z1<4294967296/\z2<4294967296:=by omega
    clear sr QO zP rz f3 LO hN Mp jr mv bN;go_quiet (fail);clear c0 c1 c2 c3 r1 r2 r3 Em;obtain⟨w4,gw⟩:=ai (w3.drewN nq);rw[<-gw];have f4:Fr [] w3 w4:=by rw[gw];exact Fr.drewN [] w3 nq
    have mK:=H3.o0.fr f4;have H4:=ak mK (H3.o1.trans f4);clear gw f4 mK;by_cases h4096:4096<N
    ·have yJ:=H3.l2;rw[if_pos h4096]at yJ;have HPe:=ah yJ;have dN:decide ((4096:Int)<(N:Int))=true:=by simp;omega
     clear yJ;go_wp2;go_ret3;exact⟨H4.l1,.inl ⟨5,HPe.out,by decide,by decide,rfl⟩⟩
    ·have yJ:=H3.l2;rw[if_neg h4096]at yJ;have dN:decide ((4096:Int)<(N:Int))=false:=by simp;omega
     obtain⟨PE,ZJ⟩:=ai (jx bs N 12 []);rw[<-ZJ]at yJ;have HPE:=ak yJ ZJ;clear yJ ZJ;go_upto_block 0 with fail;clear dN;go_wp2;go_loopg [2,66] N (λk s2 s66 wr=>∃at_ c al ms,s2 = .slice al ms.length c/\s66 = .int .i64 (ms.length:Nat)/\ms.length+k=N/\jx bs k at_ (ms.map (·.1))=PE/\qZ wr R a cap bs at_/\Kz w wr R al c ms/\R<wr.heap.size);case atStart=>exact⟨12,0,none,[],rfl,rfl,by simp,HPE.l1.symm,H4.o0,Kz.start _ _ _ H4.l1,lt_of_block H4.o0.box⟩
     case round=>
      obtain⟨at_,c,al,ms,rfl,rfl,lT,yr,di,zI,GZ⟩:=hrel;obtain⟨M,hM⟩:=ai ms.length;rw[<-hM]at lT;by_cases hi:M<N
      ·obtain⟨k,rfl⟩:∃k,gk=k+1:=⟨gk-1,by omega⟩;have PZ:=qw6 R a cap bs at_ wr di HT.l2.2.2.2;rw[jx]at yr;have HE:=cJ PZ yr di zI GZ hM;rw[<-hM];clear PZ yr di zI hM;go_upto_region 16 with (first|(go_at_call 44;refine HE.o0.mono ?_;rintro e w5 ⟨f5,(⟨x,V,hx,k0,k1,rfl,hV7,hV1⟩|⟨⟨xk,xa,xs,xc,xd,xb,xo⟩,q,da,hx,rfl,uh,rdx,nbx⟩)⟩<;>try simp only[sf])|(refine wpList_store_row rfl 65 (.tmp 9) (.tmp 71) rfl w5.heap.size V rfl rfl 65 _ (bC w5 _) (by rw[cK,hV7]) (by rw[hV7];rfl) hV1 ?_))
       ·have wD:Fr [] w w5:=HE.o3.fr.step f5 (λy hy=>.inr (by simp at hy;rw[hy,HT.l2.2.1];exact ay _));have f6:Fr [] w ((w5.alloc (.cells #[.int .i64 0,.int .i64 0,.int .i64 0,.int .u32 0,.slice none 0 0,.string ⟨#[]⟩,.int .i64 0] 65)).setRow w5.heap.size V):=(wD.alloc _).setRow (.inr wD.size) _;have yr:=HE.o1;rw[hx]at yr;have zO:P = .error x:=by rw[HPE.o0,<-yr]
        have HX:=ak f6 zO;have d1:((x:Int)!=0)=true:=by simp;omega
        clear wD f6 yr zO hx f5;go_wp2;go_ret3;exact⟨HX.o0,.inl ⟨x,HX.l1,k0,k1,rfl⟩⟩
       ·obtain⟨m,hm⟩:∃m:EM,m=(⟨xk,xa,xs,xc,xd,xb,xo⟩,da):=⟨_,rfl⟩;have hU:m.1.data=xd:=by rw[hm]
        have sJ:m.2=da:=by rw[hm]
        have fA:Fr [] w5 ((w5.alloc (.cells #[.int .i64 xk,.int .i64 xa,.int .i64 xs,.int .u32 xc,.slice da xd.length xd.length,.string (str xb),.int .i64 xo] 65)).alloc (.cells #[.int .i64 xk,.int .i64 xa,.int .i64 xs,.int .u32 xc,.slice da xd.length xd.length,.string (str xb),.int .i64 xo] 65)):=((Fr.refl [] w5).alloc _).alloc _;have uT:=dr (dr HE.o3.own f5 (λk hk hm=>(HE.o3.new k (by rw[<-dD al ms.length c,hk];simp)).2 (by simpa using hm))) fA (by simp);have cA:Cs ((w5.alloc (.cells #[.int .i64 xk,.int .i64 xa,.int .i64 xs,.int .u32 xc,.slice da xd.length xd.length,.string (str xb),.int .i64 xo] 65)).alloc (.cells #[.int .i64 xk,.int .i64 xa,.int .i64 xs,.int .u32 xc,.slice da xd.length xd.length,.string (str xb),.int .i64 xo] 65)) (some ⟨w5.heap.size+1,0,none⟩) (sk m):=by have:=Ae (w5.alloc (.cells #[.int .i64 xk,.int .i64 xa,.int .i64 xs,.int .u32 xc,.slice da xd.length xd.length,.string (str xb),.int .i64 xo] 65)) #[.int .i64 xk,.int .i64 xa,.int .i64 xs,.int .u32 xc,.slice da xd.length xd.length,.string (str xb),.int .i64 xo] 65 (0,0);rw[fD]at this;rw[hm];exact this
        have yr:=HE.o1;rw[hx]at yr;obtain⟨S,hS⟩:=ai (af al);have zaZ:=HE.o3.fr.size;have HA:=xT uT cA fA yr hS hU sJ uh rdx nbx f5 hm;clear uT cA fA yr hS hU sJ uh rdx nbx f5 hx;go_wp2_with (refine gM zf4 rfl _ _ rfl (.slice al M c) M (dS ms) S rfl (by rw[dD,HA.out.2.2.2.2.1]) (by have:=HA.out.1;rw[<-HE.l5]at this;exact this) (some ⟨w5.heap.size+1,0,none⟩) 1 1 (sk m) rfl (by decide) (by simp) HA.out.2.1 rfl (zd4 _) (by omega) (by unfold maxLen;omega) ?_;intro a2 c2 w8 A1;have xQ:=ah A1;clear A1);go_roundg k;case measure=>omega
        case rel=>
         obtain⟨q1,q2,q3,q4,q5,q6,q7,q8,q9,Ao,q11,q12⟩:=HA.out;have A1:=xQ.out;rw[q5,HE.l5]at A1;have GZ:=HT.l2.2.1;have Qj:∀x∈af al,w.heap.size<=x/\x≠R:=HE.o3.new;have Zf:=HE.o3.more (m:=m) (by rw[GZ];exact ay _) HE.o4 (q11.trans (q3.mono (by simp))) (by rw[q6,q7];exact q9.fr q3) (by rw[q7];exact λy hy=>⟨(Ao y hy).1,eW (Ao y hy).2 q3.size⟩) A1;refine⟨q,c2,a2,ms++[m],?_,?_,?_,?_,?_,Zf,?_⟩
         ·rw[aA,HE.l5];rfl
         ·rw[aA,<-HE.l5];first|rfl|go_num
         ·rw[aA,<-HE.l5];simp;omega
         ·rw[gF,<-q4,q12];rfl
         ·exact (q8.fr q3).QK A1.fr (λhm=>(Qj R hm).2 rfl) (λhb x hx hm=>by have:=A7 H.out.1 hb x hx;have:=(Qj x hm).1;omega)
         ·exact eW HE.o4 (ck (ck q11.size q3.size) A1.fr.size)
      ·obtain rfl:gk=0:=by omega
       obtain rfl:M=N:=by omega
       rw[jx]at yr;have Qq:=HPE.o0;rw[<-yr]at Qq;simp only at Qq;have Zv:=di.le;rw[<-H.out.2.1]at Zv;have c1:wr.cell? ⟨R,1,none⟩=some (.int .i64 at_):=by rw[cell_of di.box];rfl
       have BG:(bs.take at_).length=at_:=by rw[dU,<-H.out.2.1];omega
       have mA:=sha.Sm a cap (bs.take at_) wr (di.rd.take at_) (by omega);rw[BG]at mA;have zw:=λw'=>lib.FZ aq at_ a L cap (at_:Nat) rfl (by omega) w'
       obtain⟨D,hD⟩:=ai (sha.dX (bs.take at_));rw[<-hD]at mA Qq;have hDl:D.length=20:=by rw[hD];exact sha.rN _
       have HL:=cJ Qq di zI mA hM hDl;rw[<-hM];clear Qq di zI mA hM yr lT BG hD hDl;go_upto_region 21 with (go_at_call 35;refine HL.o3.mono ?_;rintro e w5 ⟨⟨a5,c5,rfl,r5⟩,f5⟩);have uh:=HL.o1.fr f5;have kN:R∉af a5:=zgd uh r5 (by rw[HL.l5];decide);have wD:=HL.o2.fr.trans f5;by_cases uC:L-at_<20
       ·have ht:=FN R a cap bs at_ 20 w5 uh HT.l2.2.2.2 (by rw[<-H.out.2.1];omega);have zO:P = .error 4:=by rw[HL.o0,if_pos uC]
        have HX:=aw ht wD zO;clear ht wD zO uh kN r5 f5 c1 zw;go_wp2_with (go_at_call 43;refine HX.o0.mono ?_;rintro e w6 ⟨rfl,f6⟩);go_ret3;exact⟨HX.l1.1.trans f6,.inl ⟨4,HX.l1.2,by decide,by decide,rfl⟩⟩
       ·have ht:=Dd R a cap bs at_ 20 w5 uh HT.l2.2.2.2 (by rw[<-H.out.2.1];omega);have yK:=HL.o0;rw[if_neg uC]at yK;obtain⟨ap,bN⟩:=ai (cutAt a cap at_);rw[<-bN]at ht;have HX:=dk ht wD yK r5 bN kN f5;clear ht wD yK r5 f5 c1 zw uh bN kN;go_upto_region 24 with (go_at_call 43;refine HX.o0.mono ?_;rintro e w6 ⟨rfl,uI,f6⟩);have r6:=HX.l1.2.2.1.gJ f6 (λx hx hm=>by simp only[iH]at hm;exact HX.l1.2.2.2.2.1 (hm▸hx));have rm:=uI.rd.mid at_ 20 (by rw[<-H.out.2.1];omega);rw[<-HX.l1.2.2.2.1]at rm;obtain⟨bp,uw⟩:=ai ((bs.drop at_).take 20);have bQ:bp.length=20:=by rw[uw,dU,eV,<-H.out.2.1];omega
        have yK:=HX.l1.2.1;rw[<-uw]at rm yK;have cvA:=vU w6 Tryz.underlying23 Tryz.underlying5 Tryz.underlying9 bQ rm.cs;have cvB:=vU w6 Tryz.underlying23 Tryz.underlying5 Tryz.underlying9 HL.l5 r6.cs;obtain⟨sc,hsc⟩:∃s,s=str bp:=⟨_,rfl⟩;obtain⟨sd,Yh⟩:∃s,s=str D:=⟨_,rfl⟩;have AF:(sc.toList==sd.toList)=(bp==D):=by rw[hsc,Yh,bh,bh]
        rw[<-hsc]at cvA;rw[<-Yh]at cvB;have f6w:=HX.l1.1.step f6 (λy hy=>.inr (by simp at hy;rw[hy,HT.l2.2.1];exact ay _));have k1:w6.cell? ⟨R,1,none⟩=some (.int .i64 ((at_+20:Nat):Int)):=by rw[cell_of uI.box];rfl
        obtain⟨u,hu⟩:=ai (at_+20);rw[<-hu]at k1 yK;have huL:u<=L:=by omega
        have HU:=aG r6 f6w f6 hu;clear r6 f6w f6 uI rm uw hsc Yh hu;by_cases heq:bp=D
        ·have dq:(sc.toList==sd.toList)=true:=by rw[AF,heq];exact beq_self_eq_true _
         rw[if_neg (by simpa using heq)]at yK;clear AF;by_cases ef:u<L
         ·have zO:=yK;rw[if_pos ef]at zO;have CQ:=ah zO;clear zO yK heq;go_wp2;go_ret3;exact⟨HU.o1,.inl ⟨3,CQ.out,by decide,by decide,rfl⟩⟩
         ·have zO:=yK;rw[if_neg ef]at zO;have dm:decide (u<L)=false:=by simpa using ef
          have hex:=R0 a5 c5 D w6 HU.o0 (by rw[HL.l5];decide);rw[HL.l5]at hex;have hMc:M<=c/\c<=maxLen/\(al=none->c=0):=by have:=Iw HL.o2.own;obtain⟨_,_,he,k1,k2,k3⟩:=this;simp only[mV]at he;obtain⟨rfl,_,rfl⟩:=he;exact⟨by rw[HL.o4];exact k1,k2,k3⟩
          obtain⟨X,hX⟩:=ai (str (gH D));rw[<-hX]at hex;have CQ:=aG zO hex hMc hX;clear zO yK heq hex hMc hX;go_wp2_with (first
           | (go_at_call 45;refine (za5 al M c _ CQ.out.2.2.1.1 CQ.out.2.2.1.2.1).mono ?_;rintro e w7 ⟨rfl,hw⟩;obtain rfl:=hw.symm)
           | (go_at_call 46;refine CQ.out.2.1.mono ?_;rintro e w8 ⟨rfl,f8⟩))
          go_ret3;have fR:Fr [R] wr w8:=((HX.l1.2.2.2.2.2.mono (T:=[R]) (by simp)).trans HU.o2).trans (f8.mono (by simp));have zI:=HL.o2;have hMl:=HL.o4;refine⟨HU.o1.trans f8,.inr ⟨ms.map (·.1),gH D,al,ms,CQ.out.1,?_,rfl,⟨(y9 zI.own).fr fR (λx hx hm=>(zI.new x hx).2 (by simpa using hm)),λm' jB=>(zI.dat m' jB).1.gJ fR (λx hx hm=>((zI.dat m' jB).2 x hx).2.2.2 (by simpa using hm))⟩,λy hy=>⟨(zI.new y hy).1,eW (rr zI.own (qi hy)) fR.size⟩,λe=>?_,λm' jB y hy=>⟨((zI.dat m' jB).2 y hy).1,eW ((zI.dat m' jB).2 y hy).2.1 fR.size⟩⟩⟩
          ·rw[bW,<-hMl,<-CQ.out.2.2.2];rfl
          ·have h1:=CQ.out.2.2.1.2.2 e;have h2:=CQ.out.2.2.1.1;rw[List.map_eq_nil_iff];exact wN (by omega)
        ·have dq:(sc.toList==sd.toList)=false:=by rw[AF];simpa using heq
         rw[if_pos (by simpa using heq)]at yK;have CQ:=ah yK;clear yK heq AF;go_wp2;go_ret3;exact⟨HU.o1,.inl ⟨6,CQ.out,by decide,by decide,rfl⟩⟩
  ·have dn:(sa.toList==sb.toList)=false:=by rw[bQ];simpa using hpre
   rw[if_pos (by simpa using hpre)]at hP;have HP:=ah hP;clear hP bQ hpre;go_enter Tryz.func18,Tryz.ntmps18;go_upto_region 4 with (refine NN (n:Int) rfl _ _ _ rfl (L:Int) 8 rfl rfl H.out.2.2.2 ?_);go_quiet (fail);go_wp2;go_ret3;exact⟨Fr.drewN _ _ _,.inl ⟨3,HP.out,by decide,by decide,rfl⟩⟩
end pk

end Go.Proofs.YtkmpfgpfbmeihaaGreatDoor