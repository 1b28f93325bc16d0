/-
  Texts of this proof, one behind the other: RZlib, RParse, LfIn.
-/
import Derived.Test.YtbabjlohkniciaaGreatDoorV24
set_option maxHeartbeats 16000000
set_option maxRecDepth 100000
set_option linter.unusedVariables false
set_option linter.unusedSimpArgs false
namespace Go.Proofs.YtbabjlohkniciaaGreatDoor.inf
open Go Go.RowKit lib bm bl huf
theorem qyi (bs:List UInt8) (q:Nat) (h:q+4≤bs.length):crc.getb ((bs.drop q).take 4)=be32 bs q:=by
 have e:(bs.drop q).take 4=[bs[q],bs[q+1],bs[q+2],bs[q+3]]:=by rw[qbm (by omega),qbm (by omega),qbm (by omega),qbm (by omega)];rfl
 rw[e];unfold crc.getb be32 byteAt;rw[qaf (show q<bs.length by omega),qaf (show q+1<bs.length by omega),qaf (show q+2<bs.length by omega),qaf (show q+3<bs.length by omega)];simp only[List.foldl_cons,List.foldl_nil,qfp];omega
theorem qvl (a:Option Addr) (cap:Nat) (bs:List UInt8) (m:Nat) (w:World) (h:lib.Rd w a cap bs) (hlen:bs.length≤100000000) (hm8:m≤100000000) (hlow:∀x∈blk a,x<w.heap.size) :
  Calls Tryz.prog 35 #[.slice a bs.length cap,.int .i64 m] w (RRawGood w (izlib bs m)):=by
 obtain⟨L,hL⟩:=zex bs.length;obtain⟨M,hM⟩:=zex (izlib bs m);rw[<-hM];by_cases h2:bs.length<2
 ·have hM4:M = .error 4:=by rw[hM];unfold izlib;rw[if_pos h2]
  rw[<-hL]at h2 ⊢;have d0:decide ((L:Int)<2)=true:=by simp;omega
  have HM:=zhd hM4;clear h hL hM hM4 hlen h2;go_enter Tryz.func35,Tryz.ntmps35;go_wp2;refine bodyPost_ret (qdh rfl _ _ w.heap.size _ (0,0) rfl (qa4 w _) rfl) rfl ?_;exact⟨(Fr.refl [] w).alloc _,.inl ⟨4,HM.out,by decide,by decide,rfl⟩⟩
 ·obtain⟨g,o,rfl,c0⟩:=qgq h (i:=0) (by omega);obtain⟨g',o',ha',c1⟩:=qgq h (i:=1) (by omega);simp only[qas,qcg,and_true]at ha';obtain⟨rfl,rfl⟩:=ha';rw[qb5]at c0;obtain⟨x0,hx0⟩:∃x,x=byteAt bs 0:=⟨_,rfl⟩;obtain⟨x1,hx1⟩:∃x,x=byteAt bs 1:=⟨_,rfl⟩;have b0:x0<256:=by rw[hx0];exact qcf _ _
  have b1:x1<256:=by rw[hx1];exact qcf _ _
  rw[<-hx0]at c0;rw[<-hx1]at c1;have hM1:M=if zhead x0 x1=false then .error 3 else match iraw (bs.drop 2) m with
    | .error e=>.error e
    | .ok (out,n)=>if bs.length-(n+2)<4 then .error 4 else if be32 bs (n+2)=sums.adler out then .ok (out,n+6) else .error 6:=by
   rw[hM];unfold izlib;rw[if_neg h2,<-hx0,<-hx1]
   all_goals rfl
  have hle:=h.le;have hmx:=h.max;have hr2:lib.Rd w (cutAtN (some ⟨g,o,none⟩) cap 2 1) (cap-2) (bs.drop 2):=h.drop 2 (by omega);have hraw:∀w',Fr [] w w'→Calls Tryz.prog 60 #[.slice (cutAtN (some ⟨g,o,none⟩) cap 2 1) (L-2:Nat) (cap-2),.int .i64 m] w' (RRawGood w' (iraw (bs.drop 2) m)):=λw' f=>by have:=qze _ (cap-2) (bs.drop 2) m w' (hr2.fr f) (by rw[qau];omega) hm8 (λx hx=>by rw[qhc]at hx;exact qal (hlow x hx) f.size);rwa [qau,<-hL]at this
  have hsl:=lib.qdb bits.sliceU8 2 (some ⟨g,o,none⟩) L cap 2 rfl (by omega) (by omega);rw[<-hL]at h2 hle ⊢;have d0:decide ((L:Int)<2)=false:=by simp;omega
  obtain⟨y0,hy0⟩:∃y,y=x0%16:=⟨_,rfl⟩;obtain⟨y1,hy1⟩:∃y,y=x0/16:=⟨_,rfl⟩;obtain⟨z,hz⟩:=zex (x0*256+x1);obtain⟨y2,hy2⟩:∃y,y=z%31:=⟨_,rfl⟩;obtain⟨y3,hy3⟩:∃y,y=x1/32%2*32:=⟨_,rfl⟩;have e0:=u8_and15 x0 b0;have e3:=qrq x1 b1;rw[<-hy0]at e0;rw[<-hy3]at e3;have e1:(x0:Int)/16=(y1:Int):=by omega
  have eor:(x0:Int)*256+(x1:Int)=(z:Int):=by omega
  have erem:Int.tmod (z:Int) 31=(y2:Int):=by rw[Int.tmod_eq_emod_of_nonneg (by omega)];omega
  have eemod:(z:Int)%31=(y2:Int):=by omega
  have eem2:((x0:Int)*256+(x1:Int))%31=(y2:Int):=by omega
  have hzh:zhead x0 x1=((y0==8)&&(decide (y1≤7)&&((y2==0)&&(y3==0)))):=by unfold zhead;rw[<-hy0,<-hy1,<-hz,<-hy2];congr 3;rw[quy,beq_iff_eq,beq_iff_eq];omega
  have i0:(0:Int)<(L:Int):=by omega
  have i1:(1:Int)<(L:Int):=by omega
  have hyb:y0<256∧y1<256∧y3<256∧z<65536∧y2<31:=by omega
  have H:=zhd6 h hlen hL hM1 hraw hzh;have hgl:=hlow g (by simp[blk]);clear h hlen hL hM1 hraw hzh hM hx0 hx1 hy0 hy1 hy2 hy3 hz hr2 h2 hlow;go_enter Tryz.func35,Tryz.ntmps35;go_upto_region 3 with fail;clear d0;obtain⟨G,w1,hG,hw1,f1,bG⟩:∃G w1,G=w.heap.size∧w1=w.alloc (.cells #[.slice none 0 0,.int .i64 0,.int .i64 0] 76)∧Fr [] w w1∧w1.heap[G]?=some (.cells #[.slice none 0 0,.int .i64 0,.int .i64 0] 76 (0,0)):=⟨_,_,rfl,rfl,(Fr.refl [] w).alloc _,qa4 w _⟩;rw[<-hw1,<-hG];have c0:=f1.cell c0 (by simp);have c1:=f1.cell c1 (by simp);have HG:=zhd3 f1 bG hG;clear f1 bG hG hw1;go_cut [43] from 11 to 43 (λs43 wc=>s43 = .bool (!((y0==8)&&(decide (y1≤7)&&((y2==0)&&(y3==0)))))∧Fr [] w1 wc)
  case first=>
   by_cases k0:y0=8
   ·have t0:((y0:Int)!=8)=false:=by simp;omega
    by_cases k1:y1≤7
    ·have t1:decide ((7:Int)<y1)=false:=by simp;omega
     by_cases k2:y2=0
     ·have t2:((y2:Int)!=0)=false:=by simp;omega
      by_cases k3:y3=0
      ·have t3:((y3:Int)!=0)=false:=by simp;omega
       have K:=zhd4 k0 k1 k2 k3;clear k0 k1 k2 k3;go_quiet (fail);go_wp2;go_meet;case rel=>exact⟨by obtain⟨k0,k1,k2,k3⟩:=K.out;simp[k0,k1,k2,k3],Fr.drewN _ _ _⟩
      ·have t3:((y3:Int)!=0)=true:=by simp;omega
       have K:=zhd k3;clear k0 k1 k2 k3;go_quiet (fail);go_wp2;go_meet;case rel=>exact⟨by have:=K.out;simp[this],Fr.drewN _ _ _⟩
     ·have t2:((y2:Int)!=0)=true:=by simp;omega
      have K:=zhd k2;clear k0 k1 k2;go_quiet (fail);go_wp2;go_meet;case rel=>exact⟨by have:=K.out;simp[this],Fr.drewN _ _ _⟩
    ·have t1:decide ((7:Int)<y1)=true:=by simp;omega
     have K:=zhd k1;clear k0 k1;go_quiet (fail);go_wp2;go_meet;case rel=>exact⟨by have:=K.out;simp[this],Fr.drewN _ _ _⟩
   ·have t0:((y0:Int)!=8)=true:=by simp;omega
    have K:=zhd k0;clear k0;go_quiet (fail);go_wp2;go_meet;case rel=>exact⟨by have:=K.out;simp[this],Fr.drewN _ _ _⟩
  case rest=>
   obtain⟨rfl,f1⟩:=hcut;rw[<-H.out.2.2.2.2.2];obtain⟨bz,hbz⟩:∃b,b=zhead x0 x1:=⟨_,rfl⟩;rw[<-hbz];obtain⟨h1,h2,h3,h4,h5,h6⟩:=H.out;rw[<-hbz]at h4;have bGc:=f1.blk HG.o1 (by simp);have HF:=zhd4 (HG.o0.trans f1) h4 (h5 wc (HG.o0.trans f1)) bGc;clear f1 h4 h5 h6 h1 h2 h3 hbz e0 e1 e3 eor erem eemod eem2 hyb c0 c1 bGc;cases bz
   ·go_wp2_with (refine wpList_store_row rfl 76 (.tmp 4) (.tmp 44) rfl G #[.slice none 0 0,.int .i64 0,.int .i64 3] rfl rfl 76 #[.slice none 0 0,.int .i64 0,.int .i64 0] HF.l3 infoGot6 rfl (by kernel_rfl) ?_);refine bodyPost_ret (qdh rfl _ _ G #[.slice none 0 0,.int .i64 0,.int .i64 3] (0,0) rfl (setRow_heap _ _ _ _ _ _ HF.l3) rfl) rfl ?_;exact⟨HF.o0.setRow (.inr (by rw[HG.l2];exact qag _)) _,.inl ⟨3,by rw[HF.o1];first|rfl|(rw[if_pos rfl]),by decide,by decide,rfl⟩⟩
   ·obtain⟨qa,hqa⟩:∃q,q=cutAtN (some ⟨g,o,none⟩) cap 2 1:=⟨_,rfl⟩;obtain⟨qc,hqc⟩:∃q,q=cap-2:=⟨_,rfl⟩;obtain⟨qn,hqn⟩:∃q,q=L-2:=⟨_,rfl⟩;rw[<-hqa,<-hqc,<-hqn]at hsl;have hraw:=HF.o2;rw[<-hqa,<-hqc,<-hqn]at hraw;have hM2:M=match iraw (bs.drop 2) m with
      | .error e=>.error e
      | .ok (out,n)=>if bs.length-(n+2)<4 then .error 4 else if be32 bs (n+2)=sums.adler out then .ok (out,n+6) else .error 6:=by
     rw[HF.o1];first|rfl|(rw[if_neg (by decide)])
     all_goals rfl
    have HR:=zhd2 hraw hM2;clear hqa hqc hqn hraw hM2;go_upto_region 6 with (go_at_call 60;refine HR.o0.mono ?_;rintro e w2 ⟨f2,(⟨c,hm,k0,k1,rfl⟩|⟨out,n,ao,oc,hm,rfl,rd2,nb2⟩)⟩)
    ·have bG2:=alloc_old (.cells #[.slice none 0 0,.int .i64 0,.int .i64 c] 76) (f2.blk HF.l3 (by simp));have K2:=zhd3 hm (HF.o0.trans f2) bG2;have d2:((c:Int)!=0)=true:=by simp;omega
     clear hm f2 hsl bG2;go_wp2_with (refine wpList_store_row rfl 76 (.tmp 4) (.tmp 52) rfl G #[.slice none 0 0,.int .i64 0,.int .i64 c] rfl rfl 76 #[.slice none 0 0,.int .i64 0,.int .i64 0] K2.l2 infoGot6 rfl (by kernel_rfl) ?_);refine bodyPost_ret (qdh rfl _ _ G #[.slice none 0 0,.int .i64 0,.int .i64 c] (0,0) rfl (setRow_heap _ _ _ _ _ _ K2.l2) rfl) rfl ?_;exact⟨(K2.o1.alloc _).setRow (.inr (by rw[HG.l2];exact qag _)) _,.inl ⟨c,by rw[HR.l1,K2.o0],k0,k1,rfl⟩⟩
    ·have hnu:=zbc hm;have hom:out.length≤281474976710656:=by have:=zbd hm;omega
     have HOM:=zhd hom;clear hom;rw[qau,<-H.out.2.2.1]at hnu;obtain⟨N,hN⟩:=zex out.length;rw[<-hN];obtain⟨n2,hn2⟩:=zex (n+2);have hLb:L≤100000000:=by rw[H.out.2.2.1];exact H.out.2.1
     have hnL:n2≤L:=by omega
     have hM3:M=if L-n2<4 then .error 4 else if be32 bs n2=sums.adler out then .ok (out,n2+4) else .error 6:=by rw[HR.l1,hm,hn2,H.out.2.2.1]
     obtain⟨P5,w3,hP5,hw3,f3,b5⟩:∃P5 w3,P5=w2.heap.size∧w3=w2.alloc (.cells #[.slice ao N oc,.int .i64 (n:Nat),.int .i64 0] 76)∧Fr [] w2 w3∧w3.heap[P5]?=some (.cells #[.slice ao N oc,.int .i64 (n:Nat),.int .i64 0] 76 (0,0)):=⟨_,_,rfl,rfl,(Fr.refl [] w2).alloc _,qa4 w2 _⟩;rw[<-hw3,<-hP5];have k0:=cell_of b5 0;have k1:=cell_of b5 1;have k2:=cell_of b5 2;simp only[qae,qaa,qad]at k0 k1 k2;have hf3:=(HF.o0.trans f2).trans f3;have bG3:=(f2.trans f3).blk HF.l3 (by simp);have hol:=rd2.max;unfold maxLen at hol;have hNo:=rd2.le;rw[<-hN]at hNo;have hen:(L:Int)-2-(n:Int)=((L-n2:Nat):Int):=by omega
     have K2:=zhd8 hM3 (rd2.fr f3) nb2 hf3 hn2 bG3 f3 hN;have hP5G:P5≠G:=by have:=lt_of_block HF.l3;have:=f2.size;omega
     have KN:=zhd3 hP5 hP5G f2;clear hm rd2 nb2 f2 f3 hn2 hM3 hsl hw3 hP5 b5 hf3 bG3 hN hP5G;by_cases h4:L-n2<4
     ·have d4:decide ((L:Int)-2-(n:Int)<4)=true:=by simp;omega
      have H4:=zhd h4;clear h4 hen;go_wp2_with (refine wpList_store_row rfl 76 (.tmp 4) (.tmp 60) rfl G #[.slice none 0 0,.int .i64 0,.int .i64 4] rfl rfl 76 #[.slice none 0 0,.int .i64 0,.int .i64 0] K2.out.2.2.2.2.2.1 infoGot6 rfl (by kernel_rfl) ?_);refine bodyPost_ret (qdh rfl _ _ G #[.slice none 0 0,.int .i64 0,.int .i64 4] (0,0) rfl (setRow_heap _ _ _ _ _ _ K2.out.2.2.2.2.2.1) rfl) rfl ?_;exact⟨K2.out.2.2.2.1.setRow (.inr (by rw[HG.l2];exact qag _)) _,.inl ⟨4,by rw[K2.o0,if_pos H4.out],by decide,by decide,rfl⟩⟩
     ·have d4:decide ((L:Int)-2-(n:Int)<4)=false:=by simp;omega
      have en2:(2:Int)+(n:Int)=(n2:Int):=by have:=K2.out.2.2.2.2.1;omega
      clear hen;go_upto_region 11 with fail;clear d4 en2;have rdw:=H.out.1.fr K2.out.2.2.2.1;have hbl:bs.length=L:=H.out.2.2.1.symm;have hmid:=λw' (f:Fr [] w3 w')=>(rdw.fr f).mid n2 4 (by omega)
      have hbe:=qyi bs n2 (by omega);have hml:((bs.drop n2).take 4).length=4:=by rw[qar,qau];omega
      obtain⟨b4,hb4⟩:=zex ((bs.drop n2).take 4);rw[<-hb4]at hmid hbe hml;obtain⟨q4,hq4⟩:∃q,q=cutAt (some ⟨g,o,none⟩) cap n2:=⟨_,rfl⟩;rw[<-hq4]at hmid;have hge:=λw' f=>crc.qzg q4 (cap-n2) b4 w' (hmid w' f) (by omega)
      rw[hml]at hge;have hgl:=crc.qxe b4;rw[hml]at hgl;obtain⟨X,hX⟩:=zex (crc.getb b4);rw[<-hX]at hge hbe hgl;have hXl:X<4294967296:=by simpa using hgl
      have had:=λw'=>crc.qtv out w' HOM.out
      obtain⟨A,hA⟩:=zex (sums.adler out);rw[<-hA]at had;have hAl:A<4294967296:=by rw[hA];exact sums.qhd out
      have hM4:M=if X=A then .ok (out,n2+4) else .error 6:=by rw[K2.o0,if_neg h4,<-hbe,hA]
      have hsl2:=λw'=>lib.run_slice_lh bits.sliceU8 n2 4 (some ⟨g,o,none⟩) L cap (n2:Nat) ((n2:Int)+4) rfl rfl (by omega) w'
      rw[<-hq4]at hsl2;have q0:∀x,(sup [] w3.drew x).cell? ⟨P5,0,none⟩=some (.slice ao N oc):=λx=>(qes [] w3.drew x).cell (show w3.drew.cell? _=_ from k0) (by simp)
      have hcv:=qgm (P:=Tryz.prog) [] w3.drew Tryz.underlying22 Tryz.underlying5 Tryz.underlying9 (ao:=ao) (n:=N) (bs:=out) K2.out.2.2.2.2.2.2.2.symm (K2.o1.cs.fr (Fr.drew1 [] w3) (by simp)) (by simp);have HZ:=zhd3 hge had hM4;clear hge had hM4 hmid hbe hgl hX hA rdw hbl hml hb4 hq4 h4;refine qcj 12 [(false,0),(false,1),(false,2),(false,3),(false,4),(false,6),(false,7),(false,8),(true,5),(true,9),(false,10),(false,11)] [] (by kernel_rfl) (by kernel_rfl) (λ_ _ d _ _ h=>by cases d<;>exact h) ?_;simp only[qak,qap,qbh,qbi,qah,qaj,qce];refine qb9 8 rfl ?_;simp only[qai,qao,qah,qaj,qak,qap];repeat (go_big_quiet_step (fail))
      refine wpQuiet_nil ?_;clear q0 hcv hsl2;refine qc5 rfl ?_;intro X1 hX1;go_wp2_with (go_at_call 61;refine (HZ.o0 _ (Fr.drew1 [] w3)).mono ?_;rintro e w4 ⟨rfl,f4⟩);refine hX1.out _ _ f4 ?_;clear hX1 X1;have HF4:=zhd ((Fr.drew1 [] w3).trans f4);clear f4;refine qc5 rfl ?_;intro X1 hX1;go_wp2_with (go_at_call 62;refine (HZ.o1 _).mono ?_;rintro e w5 ⟨rfl,f5⟩);refine hX1.out _ _ f5 ?_;clear hX1 X1;have HF5:=zhd (HF4.out.trans f5);clear f5;refine qb9 2 rfl ?_;simp only[qai,qao,qah,qaj,qak,qap];repeat (go_big_quiet_step (fail))
      refine wpQuiet_nil ?_;refine qc4 ?_;have bG5:=HF5.out.blk K2.out.2.2.2.2.2.1 (by simp);have k0:=HF5.out.cell k0 (by simp);have HB5:=zhd2 bG5 (K2.out.2.2.2.1.trans HF5.out);clear bG5 k1 k2;by_cases hza:X=A
      ·have d5:((X:Int)!=(A:Int))=false:=by simp;omega
       have HA:=zhd hza;clear hza;go_wp2_with (refine wpList_store_row rfl 76 (.tmp 4) (.tmp 81) rfl G #[.slice ao N oc,.int .i64 ((n2:Int)+4),.int .i64 0] rfl rfl 76 #[.slice none 0 0,.int .i64 0,.int .i64 0] HB5.o0 infoGot6 rfl (by kernel_rfl) ?_);refine bodyPost_ret (qdh rfl _ _ G #[.slice ao N oc,.int .i64 ((n2:Int)+4),.int .i64 0] (0,0) rfl (setRow_heap _ _ _ _ _ _ HB5.o0) rfl) rfl ?_;refine⟨HB5.l1.setRow (.inr (by rw[HG.l2];exact qag _)) _,.inr ⟨out,n2+4,ao,oc,by rw[HZ.l2,if_pos HA.out],by rw[<-K2.out.2.2.2.2.2.2.2];first|rfl|go_num,?_,λx hx=>⟨qan HF.o0.size (K2.l2.1 x hx).1,?_⟩⟩⟩
       ·exact (K2.o1.fr HF5.out).frS ((Fr.refl [G] _).setRow (by simp) _) (λx hx hm=>by have:=(K2.l2.1 x hx).1;have:=lt_of_block HF.l3;simp at hm;omega)
       ·have h1:=(K2.l2.1 x hx).2;have h2:=K2.out.2.2.2.2.2.2.1.size;have h3:=HF5.out.size;rw[setRow_size];omega
      ·have d5:((X:Int)!=(A:Int))=true:=by simp;omega
       have HA:=zhd hza;clear hza;go_wp2_with (refine wpList_store_row rfl 76 (.tmp 4) (.tmp 76) rfl G #[.slice none 0 0,.int .i64 0,.int .i64 6] rfl rfl 76 #[.slice none 0 0,.int .i64 0,.int .i64 0] HB5.o0 infoGot6 rfl (by kernel_rfl) ?_);refine bodyPost_ret (qdh rfl _ _ G #[.slice none 0 0,.int .i64 0,.int .i64 6] (0,0) rfl (setRow_heap _ _ _ _ _ _ HB5.o0) rfl) rfl ?_;exact⟨HB5.l1.setRow (.inr (by rw[HG.l2];exact qag _)) _,.inl ⟨6,by rw[HZ.l2,if_neg HA.out],by decide,by decide,rfl⟩⟩
end Go.Proofs.YtbabjlohkniciaaGreatDoor.inf
namespace Go.Proofs.YtbabjlohkniciaaGreatDoor.lo
open Go Go.RowKit lib bm crc pk
set_option maxRecDepth 100000
theorem zc0 {p:Nat→Bool} {k:Nat} (hk:1≤k∧k≤4) (hp:p k=true) (hn:∀q,1≤q→q<k→p q=false):([1,2,3,4].find? λq=>p q)=some k:=by
 rcases (show k=1∨k=2∨k=3∨k=4 by omega) with rfl|rfl|rfl|rfl
 ·simp[hp]
 ·simp[hp,hn 1 (by decide) (by decide)]
 ·simp[hp,hn 1 (by decide) (by decide),hn 2 (by decide) (by decide)]
 ·simp[hp,hn 1 (by decide) (by decide),hn 2 (by decide) (by decide),hn 3 (by decide) (by decide)]
theorem zcz {p:Nat→Bool} (hn:∀q,1≤q→q<5→p q=false):([1,2,3,4].find? λq=>p q)=none:=by simp[hn 1 (by decide) (by decide),hn 2 (by decide) (by decide),hn 3 (by decide) (by decide),hn 4 (by decide) (by decide)]
theorem qtm (a:Option Addr) (cap:Nat) (bs:List UInt8) (w:World) (h:lib.Rd w a cap bs) (hlen:bs.length≤100000000) (hlow:∀x∈blk a,x<w.heap.size) :
  Calls Tryz.prog 14 #[.slice a bs.length cap] w λe w'=>e = .returned (.tuple #[.int .i64 ((lparse bs).1:Nat),.string (str (lparse bs).2.1),.int .i64 ((lparse bs).2.2:Nat)])∧Fr [] w w':=by
 have hz:=inf.qvl a cap bs 65568 w h hlen (by decide) hlow;obtain⟨P,hP⟩:=zex (lparse bs);obtain⟨Z,hZ⟩:=zex (inf.izlib bs 65568);obtain⟨L,hL⟩:=zex bs.length;have hP2:=hP;unfold lparse at hP2;rw[<-hZ,<-hL]at hP2;rw[<-hP];rw[<-hZ,<-hL]at hz;rw[<-hL]at hlen ⊢;have H:=zhd3 hz hZ hP2;clear hz hP hP2 hZ hL h hlow;go_enter Tryz.func14,Tryz.ntmps14;go_upto_region 2 with (go_at_call 35;refine H.o0.mono ?_;rintro e w5 ⟨f5,(⟨x,hx,k0,k1,rfl⟩|⟨out,used,ao,oc,hok,rfl,rdo,nbo⟩)⟩)
 ·obtain⟨Y,w6,hY,hw6,f6,bY⟩:∃Y w6,Y=w5.heap.size∧w6=w5.alloc (.cells #[.slice none 0 0,.int .i64 0,.int .i64 (x:Nat)] 76)∧Fr [] w5 w6∧w6.heap[Y]?=some (.cells #[.slice none 0 0,.int .i64 0,.int .i64 (x:Nat)] 76 (0,0)):=⟨_,_,rfl,rfl,(Fr.refl [] w5).alloc _,qa4 w5 _⟩;rw[<-hw6,<-hY];have y2:=cell_of bY 2;simp only[qae,qaa,qad]at y2;have d0:((x:Int)!=0)=true:=by simp;omega
  have hP2:=H.l2;rw[hx]at hP2;simp only at hP2;have HX:=zhd3 (f5.trans f6) hP2 bY;clear f5 f6 hx hw6 hY hP2 bY;go_upto_region 3 with fail;have y2:∀n,(w6.drewN n).cell? ⟨Y,2,none⟩=some (.int .i64 x):=λn=>by rw[cell_of (show (w6.drewN n).heap[Y]?=_ from HX.l2)];rfl
  go_quiet (fail);go_wp2;go_ret3;rw[HX.o1];exact⟨rfl,HX.o0.trans (Fr.drewN [] w6 _)⟩
 ·have holen:out.length≤65568:=by rw[H.o1]at hok;exact qq2 hok
  obtain⟨N,hN⟩:=zex out.length;rw[<-hN]at holen ⊢;obtain⟨Y,w6,hY,hw6,f6,bY⟩:∃Y w6,Y=w5.heap.size∧w6=w5.alloc (.cells #[.slice ao N oc,.int .i64 (used:Nat),.int .i64 0] 76)∧Fr [] w5 w6∧w6.heap[Y]?=some (.cells #[.slice ao N oc,.int .i64 (used:Nat),.int .i64 0] 76 (0,0)):=⟨_,_,rfl,rfl,(Fr.refl [] w5).alloc _,qa4 w5 _⟩;rw[<-hw6,<-hY];have y0:=cell_of bY 0;have y1:=cell_of bY 1;have y2:=cell_of bY 2;simp only[qae,qaa,qad]at y0 y1 y2;have hP2:=H.l2;rw[hok]at hP2;simp only at hP2;have cv:∀cap,(convert 22 9 (.slice ao N cap)).run Tryz.prog w6 = .ok (.string (str out)) w6:=qer w6 Tryz.underlying22 Tryz.underlying5 Tryz.underlying9 hN.symm (rdo.fr f6).cs;obtain⟨z,hz⟩:=zex (str out);rw[<-hz]at cv;have hzN:z.size=N:=by rw[hz,str_size,hN]
  have HX:=zhd4 (f5.trans f6) hP2 hN hz;clear f5 f6 hok hw6 hY hP2 bY hz rdo nbo hN;by_cases hu:used=L
  ·have d0:((used:Int)==(L:Int))=true:=by simp;omega
   have hP2:=HX.o1;rw[if_pos hu,<-qzf out (by rw[<-HX.l2.1];omega)]at hP2;unfold rkind at hP2;have hidx:∀i (hi:i<out.length),∀w:World,(Instr.index 9 (.string z) (.int .i64 (i:Nat))).run Tryz.prog w = .ok (.int .u8 ((out[i].toNat:Nat):Int)) w:=λi hi w=>by rw[HX.out.2.2.2];exact qgt out hi w
   obtain⟨J,hJ40,hJN,hJz,hcase⟩:∃J,J≤40∧J≤N∧(∀j c,j<J→out[j]?=some c→c≠0)∧((fz out=some J∧J<40∧J<N∧out[J]?=some 0)∨((J=N∨J=40)∧P=(0,[],3))):=by
    cases hf:fz out with
    | none=>
     rw[hf]at hP2;refine⟨min N 40,by omega,by omega,λj c hj hc=>zcx hf c (qa6 hc),.inr ⟨by omega,hP2⟩⟩
    | some i0=>
     obtain⟨h1,h2⟩:=qn0 hf;have hi0:i0<N:=by rw[HX.l2.1];exact (qbg.1 h1).1
     have h3:∀j c,j<i0→out[j]?=some c→c≠0:=λj c hj hc=>by obtain⟨c',h4,h5⟩:=h2 j hj;rw[h4]at hc;obtain rfl:=qa2 hc;exact h5
     by_cases h40:i0<40
     ·exact⟨i0,by omega,by omega,h3,.inl ⟨rfl,h40,hi0,h1⟩⟩
     ·rw[hf]at hP2;simp only at hP2;rw[if_neg h40]at hP2;exact⟨40,by omega,by omega,λj c hj=>h3 j c (by omega),.inr ⟨.inr rfl,hP2⟩⟩
   have HI:=zhd3 hidx hJz hP2;clear hidx hJz hP2 hu;rcases hcase with⟨hf,h40,hJlt,h0⟩|⟨hJe,hP3⟩
   ·have hJl:J+1≤out.length:=by rw[<-HX.l2.1];omega
    obtain⟨D,hD⟩:=zex (N-(J+1));obtain⟨pq,hpq⟩:∃pq:Nat→Bool,pq=λq=>obj.header (q:Nat) D==out.take (J+1):=⟨_,rfl⟩
    have hP3:P=match ([1,2,3,4].find? λq=>pq q).map λk=>(k,J+1) with
      | none=>(0,[],3)
      | some (k,n)=>if 65536<D then (0,[],5) else (k,out.drop (J+1),0):=by
     have h3:=HI.l2
     rw[hf]at h3
     simp only at h3
     rw[if_pos h40]at h3
     rw[h3,hpq,hD,HX.l2.1]
     cases ([1,2,3,4].find? λq:Nat=>obj.header (q:Nat) (out.length-(J+1))==out.take (J+1)) with
     | none=>rfl
     | some x=>rfl
    have k1:∀w:World,(Instr.slice 9 (.string z) (some (.int .i64 ((J:Int)+1))) none none).run Tryz.prog w = .ok (.string (str (out.drop (J+1)))) w:=by rw[HX.out.2.2.2];exact qn7 out (J+1) hJl
    have k2:∀w:World,(Instr.slice 9 (.string z) none (some (.int .i64 ((J:Int)+1))) none).run Tryz.prog w = .ok (.string (str (out.take (J+1)))) w:=by rw[HX.out.2.2.2];exact qxv out (J+1) hJl
    have hcmp:∀q:Nat,((str (obj.header (q:Nat) D)).toList==(str (out.take (J+1))).toList)=pq q:=λq=>by rw[hpq,str_toList,str_toList]
    have hhd:=λ(q:Nat) w'=>obj.qqf (q:Nat) D w' (by omega)
    obtain⟨bz,hbz⟩:=zex (str (out.drop (J+1)));obtain⟨tz,htz⟩:=zex (str (out.take (J+1)));rw[<-hbz]at k1;rw[<-htz]at k2 hcmp;have hbs:bz.size=D:=by rw[hbz,str_size,qau,hD,HX.l2.1]
    have hixA:=HI.o0 J (by omega);have e0:out[J]=0:=by rw[qaf (by omega)]at h0;exact qa2 h0
    have hix0:∀w:World,(Instr.index 9 (.string z) (.int .i64 J)).run Tryz.prog w = .ok (.int .u8 0) w:=λw=>by have:=hixA w;rw[e0]at this;exact this
    clear hixA;have HE:=zhd4 hP3 hhd hcmp hbz;clear hP3 hhd hcmp hbz htz hpq e0 h0 hf;go_upto_block 0 with fail;go_wp2;go_loopg [7] 4 (λk s7 wr=>∃q:Nat,s7 = .int .i64 (q:Nat)∧q+k=5∧1≤q∧(∀p,1≤p→p<q→pq p=false)∧Fr [] w6 wr);case atStart=>exact⟨1,rfl,by decide,by decide,λp h1 h2=>by omega,Fr.refl _ _⟩
    case round=>
    obtain⟨q,rfl,hqk,hq1,hqp,fr⟩:=hrel;have y0:=fr.cell y0 (by simp);have y1:=fr.cell y1 (by simp);have HR:=zhd2 hqp fr;clear hqp fr;by_cases hq:q≤4
    ·obtain⟨k,rfl⟩:∃k,gk=k+1:=⟨gk-1,by omega⟩;go_wp2;go_loopg [8] J (λk2 s8 wr2=>∃i:Nat,s8 = .int .i64 (i:Nat)∧i+k2=J∧wr2=wr);case atStart=>exact⟨0,rfl,by omega,rfl⟩
     case round=>
     obtain⟨i,rfl,hik,rfl⟩:=hrel;by_cases hi:i<J
     ·obtain⟨k2,rfl⟩:∃k2,gk=k2+1:=⟨gk-1,by omega⟩;have hil:i<out.length:=by rw[<-HX.l2.1];omega
      have hix:=HI.o0 i hil;have hnz:=HI.o1 i out[i] hi (qaf hil);have d1:(((out[i].toNat:Nat):Int)!=0)=true:=by
       have:out[i].toNat≠0:=λe=>hnz (qjn.1 e)
       simp;omega
      have i1:i<N:=by omega
      have i2:i<40:=by omega
      obtain⟨cn,hcn⟩:∃cn:Nat,cn=out[i].toNat:=⟨_,rfl⟩;rw[<-hcn]at hix d1;clear hnz hcn;go_wp2;go_roundg k2;case measure=>omega
      case rel=>exact⟨i+1,by go_num,by omega,rfl⟩
     ·obtain rfl:i=J:=by omega
      have d40:decide ((i:Int)<40)=true:=by simp;omega
      clear hi hik hD hJl;go_upto_region 13 with fail;have hq0:=HE.out.2.2.1 q;obtain⟨hz1,hhz⟩:∃hz1,hz1=str (obj.header (q:Nat) D):=⟨_,rfl⟩;have hhd:=HE.out.2.1 q;rw[<-hhz]at hhd hq0;have HG:=zhd hhd;clear hhd hhz;refine qcj 9 [(false,0),(false,1),(false,2),(false,4),(false,5),(false,6),(false,7),(true,3),(false,8)] [] (by kernel_rfl) (by kernel_rfl) (λ_ _ d _ _ h=>by cases d<;>exact h) ?_;simp only[qak,qap,qbh,qbi,qah,qaj,qce];refine qb9 7 rfl ?_;simp only[qai,qao,qah,qaj,qak,qap];repeat (go_big_quiet_step (fail))
      refine wpQuiet_nil ?_;refine qc5 rfl ?_;intro XX hXX;go_wp2_with (go_at_call 20;refine (HG.out _).mono ?_;rintro e w2 ⟨rfl,f2⟩);refine hXX.out _ _ f2 ?_;clear hXX XX;have H2:=zhd (HR.l1.trans ((Fr.drew1 [] wr).trans f2));clear f2;refine qb9 1 rfl ?_;simp only[qai,qao,qah,qaj,qak,qap];repeat (go_big_quiet_step (fail))
      refine wpQuiet_nil ?_;refine qc4 ?_;clear hq0;generalize hqt:pq q=b;cases b with
      | true=>
       have hP4:=HE.out.1;rw[zc0 ⟨hq1,hq⟩ hqt HR.o0]at hP4;simp only[qgg]at hP4;have HF:=zhd hP4;clear hP4 hqt;by_cases hbig:65536<D
       ·have d3:decide ((65536:Int)<(D:Int))=true:=by simp;omega
        go_wp2;go_ret3;rw[HF.out,if_pos hbig];exact⟨rfl,HX.o0.trans H2.out⟩
       ·have d3:decide ((65536:Int)<(D:Int))=false:=by simp;omega
        go_wp2;go_ret3;rw[HF.out,if_neg hbig,HE.out.2.2.2];exact⟨rfl,HX.o0.trans H2.out⟩
      | false=>
       have HF:=zhd hqt;clear hqt;go_wp2;go_roundg k;case measure=>omega
       case rel=>
        refine⟨q+1,by go_num,by omega,by omega,λp h1 h2=>?_,H2.out⟩;by_cases hpq:p=q
        ·rw[hpq];exact HF.out
        ·exact HR.o0 p h1 (by omega)
    ·have hP4:=HE.out.1;rw[zcz (λp h1 h2=>HR.o0 p h1 (by omega))]at hP4;have HF:=zhd hP4;clear hP4;go_wp2;go_ret3;rw[HF.out];exact⟨rfl,HX.o0.trans HR.l1⟩
   ·have HE:=zhd hP3;clear hP3;go_upto_block 0 with fail;go_wp2;go_loopg [7] 4 (λk s7 wr=>∃q:Nat,s7 = .int .i64 (q:Nat)∧q+k=5∧1≤q∧wr=w6);case atStart=>exact⟨1,rfl,by decide,by decide,rfl⟩
    case round=>
    obtain⟨q,rfl,hqk,hq1,rfl⟩:=hrel;by_cases hq:q≤4
    ·obtain⟨k,rfl⟩:∃k,gk=k+1:=⟨gk-1,by omega⟩;go_wp2;go_loopg [8] J (λk2 s8 wr2=>∃i:Nat,s8 = .int .i64 (i:Nat)∧i+k2=J∧wr2=wr);case atStart=>exact⟨0,rfl,by omega,rfl⟩
     case round=>
     obtain⟨i,rfl,hik,rfl⟩:=hrel;by_cases hi:i<J
     ·obtain⟨k2,rfl⟩:∃k2,gk=k2+1:=⟨gk-1,by omega⟩;have hil:i<out.length:=by rw[<-HX.l2.1];omega
      have hix:=HI.o0 i hil;have hnz:=HI.o1 i out[i] hi (qaf hil);have d1:(((out[i].toNat:Nat):Int)!=0)=true:=by
       have:out[i].toNat≠0:=λe=>hnz (qjn.1 e)
       simp;omega
      have i1:i<N:=by omega
      have i2:i<40:=by omega
      obtain⟨cn,hcn⟩:∃cn:Nat,cn=out[i].toNat:=⟨_,rfl⟩;rw[<-hcn]at hix d1;clear hnz hcn;go_wp2;go_roundg k2;case measure=>omega
      case rel=>exact⟨i+1,by go_num,by omega,rfl⟩
     ·obtain rfl:i=J:=by omega
      by_cases hiN:i=N
      ·have j1:decide (i<N)=false:=by simp;omega
       go_wp2;go_roundg k;case measure=>omega
       case rel=>exact⟨q+1,by go_num,by omega,by omega,rfl⟩
      ·have i1:i<N:=by omega
       have j2:decide (i<40)=false:=by simp;omega
       go_wp2;go_roundg k;case measure=>omega
       case rel=>exact⟨q+1,by go_num,by omega,by omega,rfl⟩
    ·go_wp2;go_ret3;rw[HE.out];exact⟨rfl,HX.o0⟩
  ·have d0:((used:Int)==(L:Int))=false:=by simp;omega
   have hP2:=HX.o1;rw[if_neg hu]at hP2;have HE:=zhd hP2;clear hP2 hu;go_upto_block 0 with fail;go_wp2;go_loopg [7] 0 (λk s7 wr=>s7 = .int .i64 1∧wr=w6);case atStart=>exact⟨rfl,rfl⟩
   case round=>
   obtain⟨rfl,rfl⟩:=hrel;go_wp2;go_ret3;rw[HE.out];exact⟨rfl,HX.o0⟩
set_option maxRecDepth 100000
theorem zal (kd:Int) (ba fa:Option Addr) (bc fc:Nat) (B Fl id:List UInt8) (m:Int) (w:World) (hB:lib.Rd w ba bc B) (hF:lib.Rd w fa fc Fl) (hlow:∀x∈blk fa,x<w.heap.size) (hid:id.length≤140737488355328) (hpw:obj.Pw w) (hm:w.cell? ⟨0,0,none⟩=some (.int .i64 m)) :
  Calls Tryz.prog 4 #[.int .i64 kd,.slice ba B.length bc,.slice fa Fl.length fc,.string (str id)] w λe w'=>e = .returned (.bool true)∧Fr [] w w':=by
 obtain⟨LB,hLB⟩:=zex B.length;obtain⟨LF,hLF⟩:=zex Fl.length;have hpa:=λw'=>qh5 id w' hid
 have hha:=λw'=>qvt id w' hid
 have HA:=zhd (λw' (f:Fr [] w w')=>qyj m w' (hpw.fr f) (f.cell hm (by simp)));have H:=zhd6 hB hF hlow hpw hpa hha;rw[<-hLB,<-hLF];have HL:=zhd2 hLB hLF;clear hB hF hlow hpw hm hLB hLF hpa hha hid;by_cases g1:5000<LB
 ·have d1:decide ((5000:Int)<(LB:Int))=true:=by simp;omega
  go_enter Tryz.func4,Tryz.ntmps4;go_wp2_with (go_at_call 6;refine (HA.out _ (Fr.refl _ _)).mono ?_;rintro e w9 ⟨rfl,f9⟩;have H9:=zhd f9;clear f9);go_ret;exact⟨rfl,H9.out⟩
 have d1:decide ((5000:Int)<(LB:Int))=false:=by simp;omega
 by_cases g2:5000<LF
 ·have d2:decide ((5000:Int)<(LF:Int))=true:=by simp;omega
  go_enter Tryz.func4,Tryz.ntmps4;go_wp2_with (go_at_call 6;refine (HA.out _ (Fr.refl _ _)).mono ?_;rintro e w9 ⟨rfl,f9⟩;have H9:=zhd f9;clear f9);go_ret;exact⟨rfl,H9.out⟩
 have d2:decide ((5000:Int)<(LF:Int))=false:=by simp;omega
 have hpr:=qky fa fc Fl w H.o1 (by rw[<-HL.l1];omega) H.o3;have hrp:=λw' (f:Fr [] w w')=>qtm fa fc Fl w' (H.o1.fr f) (by rw[<-HL.l1];omega) (λx hx=>qal (H.o2 x hx) f.size)
 obtain⟨⟨k,out,c⟩,hQ⟩:∃Q,Q=lparse Fl:=⟨_,rfl⟩;rw[<-hQ]at hpr;rw[<-HL.l1]at hpr hrp;simp only[<-hQ]at hrp;unfold ParseP at hpr;simp only at hpr;obtain⟨N,hN⟩:=zex out.length;obtain⟨z,hz⟩:=zex (str out);rw[<-hN]at hpr;rw[<-hz]at hrp;have HP:=zhd4 hpr hrp hN hz;clear hpr hrp hN hz hQ;go_enter Tryz.func4,Tryz.ntmps4;go_upto_region 4 with (go_at_call 13;refine HP.o0.mono ?_;rintro e w1 ⟨ao,rfl,r1,_,f1⟩;have H1:=zhd2 r1 f1;clear r1 f1);go_upto_region 5 with (go_at_call 14;refine (HP.o1 _ H1.l1).mono ?_;rintro e w2 ⟨rfl,f2⟩;have H2:=zhd2 (H1.o0.fr f2) (H1.l1.trans f2);clear f2);have cv:∀cap,(convert 22 9 (.slice ao N cap)).run Tryz.prog w2 = .ok (.string z) w2:=by rw[HP.l3];exact qer w2 Tryz.underlying22 Tryz.underlying5 Tryz.underlying9 HP.o2.symm H2.o0.cs
 have hzz:(z.toList==z.toList)=true:=beq_self_eq_true _;go_upto_region 8 with fail;clear d1 d2;obtain⟨sp,hsp⟩:=zex (str (pathL id));have hpa:=H.o4;have hha:=H.l5;rw[<-hsp]at hpa;have HSP:=zhd hsp;obtain⟨sid,hsid⟩:=zex (str id);rw[<-hsid]at hpa hha ⊢;have HS:=zhd hsid;have HPA:=zhd2 hpa hha;clear hpa hha hsp hsid cv hzz;go_upto_if 52 with (go_at_call 15;refine (HPA.l1 _).mono ?_;rintro e w3 ⟨rfl,f3⟩;have H3:=zhd (H2.l1.trans f3);clear f3);generalize hbb:hashB id=b;have HB:=zhd hbb;clear hbb;go_cut [15] from 15 to 59 (λs15 wc=>s15 = .string sp∧Fr [] w wc)
 case first=>
  cases b with
  | false=>
   have hp0:sp=⟨#[]⟩:=by rw[HSP.out];unfold pathL;rw[HB.out];rfl
   go_wp2;go_meet;case rel=>exact⟨by rw[hp0],H3.out⟩
  | true=>
   have h40:=qf1 HB.out;have k1:∀w:World,(Instr.slice 9 (.string sid) none (some (.int .i64 2)) none).run Tryz.prog w = .ok (.string (str (id.take 2))) w:=by rw[HS.out];exact qxv id 2 (by omega)
   have k2:∀w:World,(Instr.slice 9 (.string sid) (some (.int .i64 2)) none none).run Tryz.prog w = .ok (.string (str (id.drop 2))) w:=by rw[HS.out];exact qn7 id 2 (by omega)
   have hp:=qr5 id;have hsp:str (objs++id.take 2++[47]++id.drop 2)=sp:=by rw[HSP.out];unfold pathL;rw[HB.out];rfl
   rw[hsp]at hp;obtain⟨x,hx⟩:=zex (str (id.take 2));obtain⟨y,hy⟩:=zex (str (id.drop 2));rw[<-hx]at k1 hp;rw[<-hy]at k2 hp;have hxs:x.size=2:=by rw[hx,str_size,qar];omega
   have hys:y.size=38:=by rw[hy,str_size,qau];omega
   have HQ:=zhd hp;clear hp hsp hx hy h40;go_upto_region 9 with fail;have k1:=λn=>k1 (w3.drewN n)
   have k2:=λn=>k2 (w3.drewN n)
   go_quiet (fail);go_wp2;go_meet;case rel=>exact⟨by rw[<-HQ.out],H3.out.trans (Fr.drewN [] w3 _)⟩
 case rest=>
 obtain⟨rfl,f4⟩:=hcut;have H4:=zhd f4;clear f4;have hss:(sp.toList==sp.toList)=true:=beq_self_eq_true _;go_upto_region 12 with (go_at_call 10;refine (HPA.o0 _).mono ?_;rintro e w5 ⟨rfl,f5⟩;have H5:=zhd (H4.out.trans f5);clear f5);clear hss;by_cases g3:kd<1
 ·have d3:decide (kd<1)=true:=by simp;omega
  go_wp2_with (go_at_call 6;refine (HA.out _ H5.out).mono ?_;rintro e w9 ⟨rfl,f9⟩;have H9:=zhd f9;clear f9);go_ret;exact⟨rfl,H5.out.trans H9.out⟩
 have d3:decide (kd<1)=false:=by simp;omega
 by_cases g4:4<kd
 ·have d4:decide (4<kd)=true:=by simp;omega
  go_wp2_with (go_at_call 6;refine (HA.out _ H5.out).mono ?_;rintro e w9 ⟨rfl,f9⟩;have H9:=zhd f9;clear f9);go_ret;exact⟨rfl,H5.out.trans H9.out⟩
 have d4:decide (4<kd)=false:=by simp;omega
 obtain⟨q,rfl⟩:∃q:Nat,kd=(q:Nat):=⟨kd.toNat,by omega⟩;have hq:1≤q∧q≤4:=by omega
 go_upto_region 14 with fail;clear d3 d4 g3 g4;have hfi:=qsy (q:Nat) ba bc B w5 (H.o0.fr H5.out) (by rw[<-HL.o0];omega) (H.o3.fr H5.out);rw[<-HL.o0]at hfi;have HF:=zhd hfi;clear hfi;obtain⟨v,hv⟩:=zex (str B);have HV:=zhd hv;clear hv;have hpr:=λw' r a' (f:Fr [] w5 w') (hr:trip.RQ (obj.header (q:Nat) B.length++B) r) (hrd:lib.Rd w' a' (defl.zlibOf 2 r (obj.header (q:Nat) B.length++B)).length (defl.zlibOf 2 r (obj.header (q:Nat) B.length++B)))=>(by
  have h1:=qky a' _ _ w' hrd (by have:=(qsx (k:=q) (body:=B) (by rw[<-HL.o0];omega) hr).1;rw[<-HL.o0]at this ⊢;omega) (H.o3.fr (H5.out.trans f))
  rw[qmf hq (by rw[<-HL.o0];omega) hr]at h1
  unfold ParseP at h1
  simp only at h1
  rw[<-HL.o0]at h1 ⊢
  exact h1:Calls Tryz.prog 13 #[.slice a' (defl.zlibOf 2 r (obj.header (q:Nat) B.length++B)).length (defl.zlibOf 2 r (obj.header (q:Nat) B.length++B)).length] w' λe w''=>∃ao,e = .returned (.tuple #[.int .i64 (q:Nat),.slice ao LB LB,.int .i64 0])∧lib.Rd w'' ao LB B∧(∀x∈blk ao,w'.heap.size≤x∧x<w''.heap.size)∧Fr [] w' w'')
 have HR:=zhd hpr;clear hpr;go_upto_region 15 with (first
  | (go_at_call 8;refine HF.out.mono ?_;rintro e w6 ⟨r,hr,a6,rfl,o6,n6,f6⟩;have H6:=zhd2 (HR.out _ r a6 f6 hr o6.rd) (H5.out.trans f6);clear hr o6 n6 f6)
  | (go_at_call 13;refine H6.o0.mono ?_;rintro e w7 ⟨a7,rfl,r7,n7,f7⟩;have H7:=zhd2 r7 (H6.l1.trans f7);clear r7 n7 f7))
 have cv1:∀cap,(convert 22 9 (.slice a7 LB cap)).run Tryz.prog w7 = .ok (.string v) w7:=by rw[HV.out];exact qer w7 Tryz.underlying22 Tryz.underlying5 Tryz.underlying9 HL.o0.symm H7.o0.cs
 have cv2:∀cap,(convert 22 9 (.slice ba LB cap)).run Tryz.prog w7 = .ok (.string v) w7:=by rw[HV.out];exact qer w7 Tryz.underlying22 Tryz.underlying5 Tryz.underlying9 HL.o0.symm (H.o0.fr H7.l1).cs
 have hvv:(v.toList==v.toList)=true:=beq_self_eq_true _;go_wp2_with (go_at_call 6;refine (HA.out _ H7.l1).mono ?_;rintro e w9 ⟨rfl,f9⟩;have H9:=zhd f9;clear f9);go_ret;exact⟨rfl,H7.l1.trans H9.out⟩
end Go.Proofs.YtbabjlohkniciaaGreatDoor.lo
