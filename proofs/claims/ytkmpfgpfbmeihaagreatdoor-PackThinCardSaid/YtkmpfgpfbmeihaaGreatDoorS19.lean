/-
  Texts of this proof, one behind the other: PkRead, Itoa, OwnB, RShaLaw, Sha2, ObjId, RsSet, OmRow.
-/
import Derived.Test.YtkmpfgpfbmeihaaGreatDoorS18
import Derived.Shelf.LaysM
import Derived.Shelf.Strconv.Itoa3
import Derived.Test.YtkmpfgpfbmeihaaGreatDoorProg
import Derived.Laws.CopyRow
set_option maxHeartbeats 16000000
set_option maxRecDepth 100000
set_option linter.unusedVariables false
set_option linter.unusedSimpArgs false
namespace Go.Proofs.YtkmpfgpfbmeihaaGreatDoor.pk
open Go Go.RowKit lib bm
theorem qnr (j:Nat) (h2:j≤8) (w:World):(Instr.slice 9 (.string ⟨#[80,65,67,75,0,0,0,2]⟩) none (some (.int .i64 j)) none).run Tryz.prog w = .ok (.string (str (begin8.take j))) w:=by
 have hs:(str begin8).size=8:=rfl;have e:(⟨#[80,65,67,75,0,0,0,2]⟩:ByteArray)=str begin8:=rfl;rw[e,run_slice_string_h w 9 (str begin8) Tryz.underlying9 .i64 j (by omega) (by rw[hs];omega)];have:∀i:Fin 9,(str begin8).extract 0 i.1=str (begin8.take i.1):=by decide
 rw[show ((j:Nat):Int).toNat=j from rfl,this ⟨j,by omega⟩]
theorem drop4 (bs:List UInt8) (k:Nat) (h:k+4≤bs.length):∃x0 x1 x2 x3,(bs.drop k).take 4=[x0,x1,x2,x3]:=by
 have hl:((bs.drop k).take 4).length=4:=by rw[qaq,qav];omega
 match (bs.drop k).take 4,hl with
 | [x0,x1,x2,x3],_=>exact⟨x0,x1,x2,x3,rfl⟩
theorem zeu {w:World} {r cap at_ c:Nat} {a a5:Option Addr} {bs D:List UInt8} (h:Rdr w r a cap bs at_) (r5:lib.Rd w a5 c D) (hD:0<D.length):r∉blk a5:=by
 obtain⟨g5,o5,rfl,hc5⟩:=r5.at (i:=0) hD;simp only[blk,qa2];rintro rfl;rw[qbn,cell_of h.box]at hc5;match o5,hc5 with
 | 0,hc5=>simp at hc5
 | 1,hc5=>simp at hc5
 | n+2,hc5=>simp at hc5
def PRead (w:World) (P:Except Nat (List Ent×List UInt8)) (e:Ending) (w':World):Prop:=
 Fr [] w w'∧((∃x,P = .error x∧0<x∧x<100∧e = .returned (.tuple #[.slice none 0 0,.string ⟨#[]⟩,.int .i64 (x:Nat)]))∨
  ∃l id a ms,P = .ok (l,id)∧e = .returned (.tuple #[.slice a l.length l.length,.string (str id),.int .i64 0])∧ms.map (·.1)=l∧Ents w' a ms∧
   (∀y∈blk a,w.heap.size≤y∧y<w'.heap.size)∧(a=none→l=[])∧(∀m∈ms,∀y∈blk m.2,w.heap.size≤y∧y<w'.heap.size))
theorem qli (a:Option Addr) (cap:Nat) (bs:List UInt8) (w:World) (h:lib.Rd w a cap bs) :
  Calls Tryz.prog 18 #[.slice a bs.length cap] w (PRead w (pread bs)):=by
 obtain⟨P,hP⟩:=zex (pread bs);rw[<-hP];unfold pread at hP;obtain⟨L,hL⟩:=zex bs.length;rw[<-hL]at hP ⊢;have hcap:=h.le;have hmax:=h.max;unfold maxLen at hmax;rw[<-hL]at hcap;by_cases hbig:1048576<L
 ·rw[if_pos hbig]at hP;have HP:=zhd hP;have d0:decide ((1048576:Int)<(L:Int))=true:=by simp;omega
  clear hP hL h;go_enter Tryz.func18,Tryz.ntmps18;go_wp2;go_ret3;exact⟨Fr.refl _ _,.inl ⟨5,HP.out,by decide,by decide,rfl⟩⟩
 ·rw[if_neg hbig]at hP;have d0:decide ((1048576:Int)<(L:Int))=false:=by simp;omega
  obtain⟨n,hn⟩:=zex (min L 8);have hnL:n≤L:=by omega
  have hn8:n≤8:=by omega
  have emin:(n:Int)=if (8:Int)<(L:Int) then 8 else (L:Int):=by split<;>omega
  have et:bs.take n=bs.take 8:=by
   by_cases h8:8≤L
   ·rw[show n=8 by omega]
   ·rw[qbd (by omega),qbd (by omega)]
  have eb:begin8.take n=begin8.take L:=by
   by_cases h8:8≤L
   ·rw[show n=8 by omega,qbd (l:=begin8) (i:=L) (by show 8≤L;exact h8)];rfl
   ·rw[show n=L by omega]
  have hsl:=λw'=>lib.qdy sliceU8 n a L cap (n:Nat) rfl (by omega) w'
  have hsb:=λw'=>qnr n hn8 w'
  have hcv:=λx c=>qde (w.drewN x) Tryz.underlying23 Tryz.underlying5 Tryz.underlying9 (bs:=bs.take n) (n:=n) (by rw[qaq];omega) ((h.take n).cs.fr (Fr.drewN [] w x) (by simp)) c
  rw[et]at hcv;rw[eb]at hsb;obtain⟨sa,hsa⟩:∃s,s=str (bs.take 8):=⟨_,rfl⟩;obtain⟨sb,hsb2⟩:∃s,s=str (begin8.take L):=⟨_,rfl⟩;have hbl:(sa.toList==sb.toList)=(bs.take 8==begin8.take L):=by rw[hsa,hsb2,str_toList,str_toList]
  rw[<-hsa]at hcv;rw[<-hsb2]at hsb;have H:=zhd4 h hL hn emin;clear h hL hn emin et eb hsa hsb2;by_cases hpre:bs.take 8=begin8.take L
  ·have dn:(sa.toList==sb.toList)=true:=by rw[hbl,hpre];exact beq_self_eq_true _
   rw[if_neg (by simpa using hpre)]at hP;have HP:=zhd hP;clear hP hbl hpre;go_enter Tryz.func18,Tryz.ntmps18;go_upto_region 4 with (refine qfz (n:Int) rfl _ _ _ rfl (L:Int) 8 rfl rfl H.out.2.2.2 ?_);go_quiet (fail);clear hsl hsb hcv dn d0;go_upto_region 7 with fail;obtain⟨R,w2,hR,hw2,f2,q2⟩:∃R w2,R=w.heap.size∧w2=(w.drewN nq).alloc (.cells #[.slice a L cap,.int .i64 (n:Nat)] 85)∧Fr [] w w2∧w2.heap[R]?=some (.cells #[.slice a L cap,.int .i64 (n:Nat)] 85 (0,0)):=⟨_,_,rfl,rfl,(Fr.drewN [] w nq).alloc _,qay (w.drewN nq) _⟩;rw[<-hw2,<-hR];have rdr:Rdr w2 R a cap bs n:=⟨by rw[<-H.out.2.1];exact q2,H.out.1.fr f2,by rw[<-H.out.2.1];exact hnL,λhb x hx=>by have:=qmj H.out.1 hb x hx;omega⟩;have hlen:bs.length≤100000000:=by rw[<-H.out.2.1];omega
   by_cases h12:L<12
   ·have hPe:P = .error 4:=by rw[HP.out,if_pos h12]
    have hpost:Fr [] w w2∧P = .error 4:=⟨f2,hPe⟩;by_cases hin:n+4≤L
    ·have ht:=qej R a cap bs n 4 w2 rdr hlen (by rw[<-H.out.2.1];exact hin);have HT:=zhd4 ht f2 hPe hR;have h8:n<8:=by have:=H.out.2.2.1;omega
     have d8:decide (n<8)=true:=by simpa using h8
     clear ht f2 q2 hw2 rdr hR hpost hPe;go_wp2_with (go_at_call 43;refine HT.o0.mono ?_;rintro e w3 ⟨rfl,rd3,f3⟩);go_ret3;exact⟨HT.o1.step f3 (λy hy=>.inr (by simp at hy;rw[hy,HT.out.2.2.2];exact qae _)),.inl ⟨4,HT.l2.1,by decide,by decide,rfl⟩⟩
    ·have ht:=qgb R a cap bs n 4 w2 rdr hlen (by rw[<-H.out.2.1];omega);have HT:=zhd3 ht f2 hPe;clear ht f2 q2 hw2 rdr hR hpost hPe;by_cases h8:n<8
     ·go_wp2_with (go_at_call 43;refine HT.o0.mono ?_;rintro e w3 ⟨rfl,f3⟩);go_ret3;exact⟨HT.o1.trans f3,.inl ⟨4,HT.l2,by decide,by decide,rfl⟩⟩
     ·have d8:decide (n<8)=false:=by simpa using h8
      go_wp2_with (go_at_call 43;refine HT.o0.mono ?_;rintro e w3 ⟨rfl,f3⟩);go_ret3;exact⟨HT.o1.trans f3,.inl ⟨4,HT.l2,by decide,by decide,rfl⟩⟩
   ·obtain rfl:n=8:=by have:=H.out.2.2.1;omega
    have hP2:=HP.out;rw[if_neg h12]at hP2;have ht:=qej R a cap bs 8 4 w2 rdr hlen (by rw[<-H.out.2.1];omega);obtain⟨a8,ha8⟩:=zex (cutAt a cap 8);rw[<-ha8]at ht;have HT:=zhd6 ht f2 hP2 hR ha8 hlen;clear ht f2 q2 hw2 rdr hR hP2 ha8 hlen;go_upto_region 10 with (go_at_call 43;refine HT.o0.mono ?_;rintro e w3 ⟨rfl,rd3,f3⟩);have f3w:Fr [] w w3:=HT.o1.step f3 (λy hy=>.inr (by simp at hy;rw[hy,HT.out.2.2.2.1];exact qae _));obtain⟨x0,x1,x2,x3,hx4⟩:=drop4 bs 8 (by rw[<-H.out.2.1];omega);have rz:=rd3.rd.mid 8 4 (by rw[<-H.out.2.1];omega);rw[hx4,<-HT.out.2.2.2.2.1]at rz;obtain⟨g,o,ea8,c0⟩:=rz.at (i:=0) (by simp);obtain⟨g1,o1,e1,c1⟩:=rz.at (i:=1) (by simp);obtain⟨g2,o2,e2,c2⟩:=rz.at (i:=2) (by simp);obtain⟨g3,o3,e3,c3⟩:=rz.at (i:=3) (by simp);have hap:=HT.out.2.2.2.2.1;subst ea8;simp only[qaw,qcz,and_true]at e1 e2 e3;obtain⟨rfl,rfl⟩:=e1;obtain⟨rfl,rfl⟩:=e2;obtain⟨rfl,rfl⟩:=e3;simp only[qbn,List.getElem_cons_zero,List.getElem_cons_succ]at c0 c1 c2 c3;have l0:=qbc x0;have l1:=qbc x1;have l2:=qbc x2;have l3:=qbc x3;obtain⟨N,hN⟩:=zex (crc.getb ((bs.drop 8).take 4));have hN2:N=((x0.toNat*256+x1.toNat)*256+x2.toNat)*256+x3.toNat:=by rw[hN,hx4];unfold crc.getb;simp only[List.foldl_cons,List.foldl_nil];omega
    have hP3:=HT.l2.1;rw[<-hN]at hP3;generalize x0.toNat=y0 at *;generalize x1.toNat=y1 at *;generalize x2.toNat=y2 at *;generalize x3.toNat=y3 at *;obtain⟨z1,hz1⟩:∃z,z=y0*16777216+y1*65536:=⟨_,rfl⟩;obtain⟨z2,hz2⟩:∃z,z=z1+y2*256:=⟨_,rfl⟩;have r1:bits .or .i64 ((y0:Int)*16777216) ((y1:Int)*65536)=(z1:Int):=by have:=qm6 y0 (y1*65536) 24 (by decide) (by omega) (by omega);rw[show y0*2^24+y1*65536=z1 by omega]at this;simpa using this
    have r2:bits .or .i64 (z1:Int) ((y2:Int)*256)=(z2:Int):=by have:=qm6 (y0*256+y1) (y2*256) 16 (by decide) (by omega) (by omega);rw[show (y0*256+y1)*2^16+y2*256=z2 by omega,<-qev,show (y0*256+y1)*2^16=z1 by omega]at this;simpa using this
    have r3:bits .or .i64 (z2:Int) (y3:Int)=(N:Int):=by have:=qm6 ((y0*256+y1)*256+y2) y3 8 (by decide) (by omega) (by omega);rw[show ((y0*256+y1)*256+y2)*2^8+y3=N by omega,<-qev,show ((y0*256+y1)*256+y2)*2^8=z2 by omega]at this;exact this
    have H3:=zhd3 rd3 f3w hP3;have hNb:N<4294967296:=by omega
    have hzb:z1<4294967296∧z2<4294967296:=by omega
    clear rd3 f3w hP3 rz f3 hx4 hN hN2 hz1 hz2 hap;go_quiet (fail);clear c0 c1 c2 c3 r1 r2 r3 hzb;obtain⟨w4,hw4⟩:=zex (w3.drewN nq);rw[<-hw4];have f4:Fr [] w3 w4:=by rw[hw4];exact Fr.drewN [] w3 nq
    have rd4:=H3.o0.fr f4;have H4:=zhd2 rd4 (H3.o1.trans f4);clear hw4 f4 rd4;by_cases h4096:4096<N
    ·have hPe:=H3.l2;rw[if_pos h4096]at hPe;have HPe:=zhd hPe;have dN:decide ((4096:Int)<(N:Int))=true:=by simp;omega
     clear hPe;go_wp2;go_ret3;exact⟨H4.l1,.inl ⟨5,HPe.out,by decide,by decide,rfl⟩⟩
    ·have hPe:=H3.l2;rw[if_neg h4096]at hPe;have dN:decide ((4096:Int)<(N:Int))=false:=by simp;omega
     obtain⟨PE,hPE⟩:=zex (pents bs N 12 []);rw[<-hPE]at hPe;have HPE:=zhd2 hPe hPE;clear hPe hPE;go_upto_block 0 with fail;clear dN;go_wp2;go_loopg [2,66] N (λk s2 s66 wr=>∃at_ c al ms,s2 = .slice al ms.length c∧s66 = .int .i64 (ms.length:Nat)∧ms.length+k=N∧pents bs k at_ (ms.map (·.1))=PE∧Rdr wr R a cap bs at_∧EWr w wr R al c ms∧R<wr.heap.size);case atStart=>exact⟨12,0,none,[],rfl,rfl,by simp,HPE.l1.symm,H4.o0,EWr.start _ _ _ H4.l1,lt_of_block H4.o0.box⟩
     case round=>
      obtain⟨at_,c,al,ms,rfl,rfl,hmk,hpe,hrd,hew,hRw⟩:=hrel;obtain⟨M,hM⟩:=zex ms.length;rw[<-hM]at hmk;by_cases hi:M<N
      ·obtain⟨k,rfl⟩:∃k,gk=k+1:=⟨gk-1,by omega⟩;have hen:=qv3 R a cap bs at_ wr hrd HT.out.2.2.2.2.2;rw[pents]at hpe;have HE:=zhd6 hen hpe hrd hew hRw hM;rw[<-hM];clear hen hpe hrd hew hM;go_upto_region 16 with (first|(go_at_call 44;refine HE.o0.mono ?_;rintro e w5 ⟨f5,(⟨x,V,hx,k0,k1,rfl,hV7,hV1⟩|⟨⟨xk,xa,xs,xc,xd,xb,xo⟩,q,da,hx,rfl,rd5,rdx,nbx⟩)⟩<;>try simp only[entV])|(refine wpList_store_row rfl 65 (.tmp 9) (.tmp 71) rfl w5.heap.size V rfl rfl 65 _ (qay w5 _) (by rw[infoRaw,hV7]) (by rw[hV7];rfl) hV1 ?_))
       ·have f5w:Fr [] w w5:=HE.o3.fr.step f5 (λy hy=>.inr (by simp at hy;rw[hy,HT.out.2.2.2.1];exact qae _));have f6:Fr [] w ((w5.alloc (.cells #[.int .i64 0,.int .i64 0,.int .i64 0,.int .u32 0,.slice none 0 0,.string ⟨#[]⟩,.int .i64 0] 65)).setRow w5.heap.size V):=(f5w.alloc _).setRow (.inr f5w.size) _;have hpe:=HE.o1;rw[hx]at hpe;have hPx:P = .error x:=by rw[HPE.o0,<-hpe]
        have HX:=zhd2 f6 hPx;have d1:((x:Int)!=0)=true:=by simp;omega
        clear f5w f6 hpe hPx hx f5;go_wp2;go_ret3;exact⟨HX.o0,.inl ⟨x,HX.l1,k0,k1,rfl⟩⟩
       ·obtain⟨m,hm⟩:∃m:EM,m=(⟨xk,xa,xs,xc,xd,xb,xo⟩,da):=⟨_,rfl⟩;have hdl:m.1.data=xd:=by rw[hm]
        have hda:m.2=da:=by rw[hm]
        have fA:Fr [] w5 ((w5.alloc (.cells #[.int .i64 xk,.int .i64 xa,.int .i64 xs,.int .u32 xc,.slice da xd.length xd.length,.string (str xb),.int .i64 xo] 65)).alloc (.cells #[.int .i64 xk,.int .i64 xa,.int .i64 xs,.int .u32 xc,.slice da xd.length xd.length,.string (str xb),.int .i64 xo] 65)):=((Fr.refl [] w5).alloc _).alloc _;have own5:=qa7 (qa7 HE.o3.own f5 (λk hk hm=>(HE.o3.new k (by rw[<-qby al ms.length c,hk];simp)).2 (by simpa using hm))) fA (by simp);have cA:Cs ((w5.alloc (.cells #[.int .i64 xk,.int .i64 xa,.int .i64 xs,.int .u32 xc,.slice da xd.length xd.length,.string (str xb),.int .i64 xo] 65)).alloc (.cells #[.int .i64 xk,.int .i64 xa,.int .i64 xs,.int .u32 xc,.slice da xd.length xd.length,.string (str xb),.int .i64 xo] 65)) (some ⟨w5.heap.size+1,0,none⟩) (entL m):=by have:=qhk (w5.alloc (.cells #[.int .i64 xk,.int .i64 xa,.int .i64 xs,.int .u32 xc,.slice da xd.length xd.length,.string (str xb),.int .i64 xo] 65)) #[.int .i64 xk,.int .i64 xa,.int .i64 xs,.int .u32 xc,.slice da xd.length xd.length,.string (str xb),.int .i64 xo] 65 (0,0);rw[qa1]at this;rw[hm];exact this
        have hpe:=HE.o1;rw[hx]at hpe;obtain⟨S,hS⟩:=zex (blk al);have hwrw:=HE.o3.fr.size;have HA:=zhd12 own5 cA fA hpe hS hdl hda rd5 rdx nbx f5 hm;clear own5 cA fA hpe hS hdl hda rd5 rdx nbx f5 hx;go_wp2_with (refine qba zel rfl _ _ rfl (.slice al M c) M (entCells ms) S rfl (by rw[qby,HA.out.2.2.2.2.1]) (by have:=HA.out.1;rw[<-HE.l5]at this;exact this) (some ⟨w5.heap.size+1,0,none⟩) 1 1 (entL m) rfl (by decide) (by simp) HA.out.2.1 rfl (zcs _) (by omega) (by unfold maxLen;omega) ?_;intro a2 c2 w8 A1;have HA1:=zhd A1;clear A1);go_roundg k;case measure=>omega
        case rel=>
         obtain⟨q1,q2,q3,q4,q5,q6,q7,q8,q9,q10,q11,q12⟩:=HA.out;have A1:=HA1.out;rw[q5,HE.l5]at A1;have hRw:=HT.out.2.2.2.1;have halR:∀x∈blk al,w.heap.size≤x∧x≠R:=HE.o3.new;have hew2:=HE.o3.more (m:=m) (by rw[hRw];exact qae _) HE.o4 (q11.trans (q3.mono (by simp))) (by rw[q6,q7];exact q9.fr q3) (by rw[q7];exact λy hy=>⟨(q10 y hy).1,qat (q10 y hy).2 q3.size⟩) A1;refine⟨q,c2,a2,ms++[m],?_,?_,?_,?_,?_,hew2,?_⟩
         ·rw[qab,HE.l5];rfl
         ·rw[qab,<-HE.l5];first|rfl|go_num
         ·rw[qab,<-HE.l5];simp;omega
         ·rw[qbe,<-q4,q12];rfl
         ·exact (q8.fr q3).frE A1.fr (λhm=>(halR R hm).2 rfl) (λhb x hx hm=>by have:=qmj H.out.1 hb x hx;have:=(halR x hm).1;omega)
         ·exact qat HE.o4 (qar (qar q11.size q3.size) A1.fr.size)
      ·obtain rfl:gk=0:=by omega
       obtain rfl:M=N:=by omega
       rw[pents]at hpe;have hP6:=HPE.o0;rw[<-hpe]at hP6;simp only at hP6;have hatL:=hrd.le;rw[<-H.out.2.1]at hatL;have c1:wr.cell? ⟨R,1,none⟩=some (.int .i64 at_):=by rw[cell_of hrd.box];rfl
       have hts:(bs.take at_).length=at_:=by rw[qaq,<-H.out.2.1];omega
       have hsh:=sha.qlh a cap (bs.take at_) wr (hrd.rd.take at_) (by omega);rw[hts]at hsh;have hs12:=λw'=>lib.qdy sliceU8 at_ a L cap (at_:Nat) rfl (by omega) w'
       obtain⟨D,hD⟩:=zex (sha.sha1 (bs.take at_));rw[<-hD]at hsh hP6;have hDl:D.length=20:=by rw[hD];exact sha.qck _
       have HL:=zhd6 hP6 hrd hew hsh hM hDl;rw[<-hM];clear hP6 hrd hew hsh hM hpe hmk hts hD hDl;go_upto_region 21 with (go_at_call 35;refine HL.o3.mono ?_;rintro e w5 ⟨⟨a5,c5,rfl,r5⟩,f5⟩);have rd5:=HL.o1.fr f5;have hoff:R∉blk a5:=zeu rd5 r5 (by rw[HL.l5];decide);have f5w:=HL.o2.fr.trans f5;by_cases h20:L-at_<20
       ·have ht:=qgb R a cap bs at_ 20 w5 rd5 HT.out.2.2.2.2.2 (by rw[<-H.out.2.1];omega);have hPx:P = .error 4:=by rw[HL.o0,if_pos h20]
        have HX:=zhd3 ht f5w hPx;clear ht f5w hPx rd5 hoff r5 f5 c1 hs12;go_wp2_with (go_at_call 43;refine HX.o0.mono ?_;rintro e w6 ⟨rfl,f6⟩);go_ret3;exact⟨HX.l1.1.trans f6,.inl ⟨4,HX.out.2.2,by decide,by decide,rfl⟩⟩
       ·have ht:=qej R a cap bs at_ 20 w5 rd5 HT.out.2.2.2.2.2 (by rw[<-H.out.2.1];omega);have hP7:=HL.o0;rw[if_neg h20]at hP7;obtain⟨ap,hap⟩:=zex (cutAt a cap at_);rw[<-hap]at ht;have HX:=zhd7 ht f5w hP7 r5 hap hoff f5;clear ht f5w hP7 r5 f5 c1 hs12 rd5 hap hoff;go_upto_region 24 with (go_at_call 43;refine HX.o0.mono ?_;rintro e w6 ⟨rfl,rd6,f6⟩);have r6:=HX.out.2.2.2.1.frS f6 (λx hx hm=>by simp only[qa2]at hm;exact HX.out.2.2.2.2.2.1 (hm▸hx));have rm:=rd6.rd.mid at_ 20 (by rw[<-H.out.2.1];omega);rw[<-HX.out.2.2.2.2.1]at rm;obtain⟨bp,hbp⟩:=zex ((bs.drop at_).take 20);have hbl:bp.length=20:=by rw[hbp,qaq,qav,<-H.out.2.1];omega
        have hP7:=HX.out.2.2.1;rw[<-hbp]at rm hP7;have cvA:=qde w6 Tryz.underlying23 Tryz.underlying5 Tryz.underlying9 hbl rm.cs;have cvB:=qde w6 Tryz.underlying23 Tryz.underlying5 Tryz.underlying9 HL.l5 r6.cs;obtain⟨sc,hsc⟩:∃s,s=str bp:=⟨_,rfl⟩;obtain⟨sd,hsd⟩:∃s,s=str D:=⟨_,rfl⟩;have hcd:(sc.toList==sd.toList)=(bp==D):=by rw[hsc,hsd,str_toList,str_toList]
        rw[<-hsc]at cvA;rw[<-hsd]at cvB;have f6w:=HX.l1.1.step f6 (λy hy=>.inr (by simp at hy;rw[hy,HT.out.2.2.2.1];exact qae _));have k1:w6.cell? ⟨R,1,none⟩=some (.int .i64 ((at_+20:Nat):Int)):=by rw[cell_of rd6.box];rfl
        obtain⟨u,hu⟩:=zex (at_+20);rw[<-hu]at k1 hP7;have huL:u≤L:=by omega
        have HU:=zhd4 r6 f6w f6 hu;clear r6 f6w f6 rd6 rm hbp hsc hsd hu;by_cases heq:bp=D
        ·have dq:(sc.toList==sd.toList)=true:=by rw[hcd,heq];exact beq_self_eq_true _
         rw[if_neg (by simpa using heq)]at hP7;clear hcd;by_cases hmore:u<L
         ·have hPx:=hP7;rw[if_pos hmore]at hPx;have HPx:=zhd hPx;clear hPx hP7 heq;go_wp2;go_ret3;exact⟨HU.o1,.inl ⟨3,HPx.out,by decide,by decide,rfl⟩⟩
         ·have hPx:=hP7;rw[if_neg hmore]at hPx;have dm:decide (u<L)=false:=by simpa using hmore
          have hex:=qps a5 c5 D w6 HU.o0 (by rw[HL.l5];decide);rw[HL.l5]at hex;have hMc:M≤c∧c≤maxLen∧(al=none→c=0):=by have:=qf4 HL.o2.own;obtain⟨_,_,he,k1,k2,k3⟩:=this;simp only[qbp]at he;obtain⟨rfl,_,rfl⟩:=he;exact⟨by rw[HL.o4];exact k1,k2,k3⟩
          obtain⟨X,hX⟩:=zex (str (hexb D));rw[<-hX]at hex;have HPx:=zhd4 hPx hex hMc hX;clear hPx hP7 heq hex hMc hX;go_wp2_with (first
           | (go_at_call 45;refine (qzz al M c _ HPx.out.2.2.1.1 HPx.out.2.2.1.2.1).mono ?_;rintro e w7 ⟨rfl,hw⟩;obtain rfl:=hw.symm)
           | (go_at_call 46;refine HPx.out.2.1.mono ?_;rintro e w8 ⟨rfl,f8⟩))
          go_ret3;have fR:Fr [R] wr w8:=((HX.out.2.2.2.2.2.2.mono (T:=[R]) (by simp)).trans HU.o2).trans (f8.mono (by simp));have hew:=HL.o2;have hMl:=HL.o4;refine⟨HU.o1.trans f8,.inr ⟨ms.map (·.1),hexb D,al,ms,HPx.out.1,?_,rfl,⟨(qhe hew.own).fr fR (λx hx hm=>(hew.new x hx).2 (by simpa using hm)),λm' hm'=>(hew.dat m' hm').1.frS fR (λx hx hm=>((hew.dat m' hm').2 x hx).2.2.2 (by simpa using hm))⟩,λy hy=>⟨(hew.new y hy).1,qat (qdu hew.own (qdw hy)) fR.size⟩,λe=>?_,λm' hm' y hy=>⟨((hew.dat m' hm').2 y hy).1,qat ((hew.dat m' hm').2 y hy).2.1 fR.size⟩⟩⟩
          ·rw[qap,<-hMl,<-HPx.out.2.2.2];rfl
          ·have h1:=HPx.out.2.2.1.2.2 e;have h2:=HPx.out.2.2.1.1;rw[List.map_eq_nil_iff];exact qbv (by omega)
        ·have dq:(sc.toList==sd.toList)=false:=by rw[hcd];simpa using heq
         rw[if_pos (by simpa using heq)]at hP7;have HPx:=zhd hP7;clear hP7 heq hcd;go_wp2;go_ret3;exact⟨HU.o1,.inl ⟨6,HPx.out,by decide,by decide,rfl⟩⟩
  ·have dn:(sa.toList==sb.toList)=false:=by rw[hbl];simpa using hpre
   rw[if_pos (by simpa using hpre)]at hP;have HP:=zhd hP;clear hP hbl hpre;go_enter Tryz.func18,Tryz.ntmps18;go_upto_region 4 with (refine qfz (n:Int) rfl _ _ _ rfl (L:Int) 8 rfl rfl H.out.2.2.2 ?_);go_quiet (fail);go_wp2;go_ret3;exact⟨Fr.drewN _ _ _,.inl ⟨3,HP.out,by decide,by decide,rfl⟩⟩
end Go.Proofs.YtkmpfgpfbmeihaaGreatDoor.pk
namespace Go.Proofs
open Go.Shelf
def Tryz.laysM171_ren:Go.Shelf.Ren:=⟨fun|171=>118|243=>149|246=>181|283=>197|284=>198|285=>199|286=>200|129=>212|317=>211|318=>213|319=>214|320=>215|337=>221|338=>222|n=>n,fun|3=>3|9=>9|2=>2|4=>4|171=>295|0=>0|53=>104|37=>23|5=>5|173=>298|212=>316|51=>32|20=>20|213=>317|46=>67|232=>322|233=>323|n=>n,fun|17=>1|18=>2|19=>3|n=>n⟩
theorem Tryz.laysM171:Go.Proofs.LaysM.n171 Tryz.prog Tryz.laysM171_ren:={
 mixed:=by kernel_rfl
 f129:=Tryz.func212.trans (congrArg some (by kernel_rfl))
 f171:=Tryz.func118.trans (congrArg some (by kernel_rfl))
 f243:=Tryz.func149.trans (congrArg some (by kernel_rfl))
 f246:=Tryz.func181.trans (congrArg some (by kernel_rfl))
 f283:=Tryz.func197.trans (congrArg some (by kernel_rfl))
 f284:=Tryz.func198.trans (congrArg some (by kernel_rfl))
 f285:=Tryz.func199.trans (congrArg some (by kernel_rfl))
 f286:=Tryz.func200.trans (congrArg some (by kernel_rfl))
 f317:=Tryz.func211.trans (congrArg some (by kernel_rfl))
 f318:=Tryz.func213.trans (congrArg some (by kernel_rfl))
 f319:=Tryz.func214.trans (congrArg some (by kernel_rfl))
 f320:=Tryz.func215.trans (congrArg some (by kernel_rfl))
 f337:=Tryz.func221.trans (congrArg some (by kernel_rfl))
 f338:=Tryz.func222.trans (congrArg some (by kernel_rfl))
 t0:=Tryz.underlying0
 a0:=Tryz.isAgg0
 z0:=Tryz.sizeOf0
 v0:=Tryz.zeroValue0
 t2:=Tryz.underlying2
 a2:=Tryz.isAgg2
 z2:=Tryz.sizeOf2
 v2:=Tryz.zeroValue2
 t3:=Tryz.underlying3
 a3:=Tryz.isAgg3
 z3:=Tryz.sizeOf3
 v3:=Tryz.zeroValue3
 t4:=Tryz.underlying4
 a4:=Tryz.isAgg4
 z4:=Tryz.sizeOf4
 v4:=Tryz.zeroValue4
 t5:=Tryz.underlying5
 a5:=Tryz.isAgg5
 z5:=Tryz.sizeOf5
 v5:=Tryz.zeroValue5
 t9:=Tryz.underlying9
 a9:=Tryz.isAgg9
 z9:=Tryz.sizeOf9
 v9:=Tryz.zeroValue9
 t20:=Tryz.underlying20
 a20:=Tryz.isAgg20
 z20:=Tryz.sizeOf20
 v20:=Tryz.zeroValue20
 t37:=Tryz.underlying23
 a37:=Tryz.isAgg23
 z37:=Tryz.sizeOf23
 v37:=Tryz.zeroValue23
 t46:=Tryz.underlying67
 a46:=Tryz.isAgg67
 z46:=Tryz.sizeOf67
 v46:=Tryz.zeroValue67
 t51:=Tryz.underlying32
 a51:=Tryz.isAgg32
 z51:=Tryz.sizeOf32
 v51:=Tryz.zeroValue32
 t53:=Tryz.underlying104
 a53:=Tryz.isAgg104
 z53:=Tryz.sizeOf104
 v53:=Tryz.zeroValue104
 t171:=Tryz.underlying295
 a171:=Tryz.isAgg295
 z171:=Tryz.sizeOf295
 v171:=Tryz.zeroValue295
 t173:=Tryz.underlying298
 a173:=Tryz.isAgg298
 z173:=Tryz.sizeOf298
 v173:=Tryz.zeroValue298
 t212:=Tryz.underlying316
 a212:=Tryz.isAgg316
 z212:=Tryz.sizeOf316
 v212:=Tryz.zeroValue316
 t213:=Tryz.underlying317
 a213:=Tryz.isAgg317
 z213:=Tryz.sizeOf317
 t232:=Tryz.underlying322
 a232:=Tryz.isAgg322
 z232:=Tryz.sizeOf322
 v232:=Tryz.zeroValue322
 t233:=Tryz.underlying323
 a233:=Tryz.isAgg323
 z233:=Tryz.sizeOf323
 v233:=Tryz.zeroValue323
 g17:=by kernel_rfl
 g18:=by kernel_rfl
 g19:=by kernel_rfl
 i0:=by kernel_rfl
 i2:=by kernel_rfl
 i3:=by kernel_rfl
 i4:=by kernel_rfl
 i5:=by kernel_rfl
 i9:=by kernel_rfl
 i20:=by kernel_rfl
 i37:=by kernel_rfl
 i46:=by kernel_rfl
 i51:=by kernel_rfl
 i53:=by kernel_rfl
 i171:=by kernel_rfl
 i173:=by kernel_rfl
 i212:=by kernel_rfl
 i232:=by kernel_rfl
 i233:=by kernel_rfl
 m17:=by kernel_rfl
 m18:=by kernel_rfl
 m19:=by kernel_rfl }
open Go.RowKit Go.Sort Go.Lib in
theorem Tryz.strconv_Itoa (n:Int) (h0 : -9223372036854775808≤n) (h1:n≤9223372036854775807) (w:World) (htab:Lib.TabIs Tryz.prog w "internal/strconv.uint64pow10" .u64 Lib.pow10Tab) :
  Calls Tryz.prog 118 #[.int .i64 n] w λe w'=>e = .returned (.string ⟨(Lib.itoa n).toArray⟩)∧∃k os,w'=grow (w.drewN k) os:=Any.strconv_Itoa Tryz.laysM171 n h0 h1 w htab
end Go.Proofs
namespace Go.Proofs.YtkmpfgpfbmeihaaGreatDoor.obj
open Go Go.RowKit lib
def Pw (w:World):Prop:=Lib.TabIs Tryz.prog w "internal/strconv.uint64pow10" .u64 Lib.pow10Tab
theorem qxl:∃g,Tryz.prog.globalNamed "internal/strconv.uint64pow10" = some g:=Option.isSome_iff_exists.1 (by kernel_rfl)
theorem Pw.fr {w w':World} (h:Pw w) (f:Fr [] w w'):Pw w':=by
 obtain⟨g,hg⟩:=qxl;unfold Pw Lib.TabIs World.var? at h ⊢;rw[hg]at h ⊢;simp only[Option.bind_some]at h ⊢;have hlt:g<w.heap.size:=by
  rcases qb8 g w.heap.size with h'|h'
  ·exact h'
  ·rw[Array.getElem?_eq_none h']at h;cases h
 rw[f.block g hlt (by simp)];exact h
theorem zfq (w:World) (k:Nat) (os:Array Obj):Fr [] w (Go.Sort.grow (w.drewN k) os):=
 ⟨rfl,rfl,rfl,by simp[Go.Sort.grow],λi hi _=>by simp only[Go.Sort.grow];exact Array.getElem?_append_left (show i<(w.drewN k).heap.size from hi)⟩
theorem zb8 (n:Nat) (h1:n≤140737488355328) (w:World) (h:Pw w):Calls Tryz.prog 118 #[.int .i64 n] w λe w'=>e = .returned (.string (str (Lib.decDigits n)))∧Fr [] w w':=
 (Go.Proofs.Tryz.strconv_Itoa (n:Int) (by omega) (by omega) w h).mono λe w' hh=>⟨by rw[hh.1];unfold str Lib.itoa;rw[if_neg (by omega)];rfl,by obtain⟨k,os,rfl⟩:=hh.2;exact zfq w k os⟩
end Go.Proofs.YtkmpfgpfbmeihaaGreatDoor.obj
namespace Go.Proofs.YtkmpfgpfbmeihaaGreatDoor.lib
open Go Go.RowKit
theorem qs2 {w:World} {b:Nat} {c:Array Value} {t:TypeId} {f:Nat×Nat} (h:w.heap[b]?=some (.cells c t f)) (hf:f=(0,0)∨c.size≤f.1) (o:Nat) (ho:o<c.size):w.frozen? ⟨b,o,none⟩=false:=by
 rcases hf with rfl|hf
 ·exact qau h o
 ·simp[World.frozen?,h];intro h1;omega
section
variable {P : Program}
theorem qf1 (g o:Nat) (t:TypeId) (f:Nat×Nat):∀(vs:List Value) (i:Nat) (cur:Array Value) (w:World),w.heap[g]?=some (.cells cur t f)→(f=(0,0)∨cur.size≤f.1)→o+i+vs.length≤cur.size→(∀v∈vs,v.oneCell'=true)→
  (storeCells ⟨g,o,none⟩ vs i).run P w = .ok () (w.setRow g (cur.toList.take (o+i)++vs++cur.toList.drop (o+i+vs.length)).toArray)
 | [],i,cur,w,hg,_,_,_=>by
  simp only[storeCells,qbr,qbi,qbn,qfc,Array.toArray_toList];rw[setRow_self w g cur t f hg];rfl
 | v::rest,i,cur,w,hg,hf,hl,h1=>by
  have hi:o+i<cur.size:=by simp at hl;omega
  have hadd:(⟨g,o,none⟩:Addr).add i=⟨g,o+i,none⟩:=by unfold Addr.add;split<;>simp_all
  have hcell:w.cell? ⟨g,o+i,none⟩=some cur[o+i]:=by simp[World.cell?,hg,hi]
  have hfro:w.frozen? ⟨g,o+i,none⟩=false:=qs2 hg hf _ hi;have hst:(store ((⟨g,o,none⟩:Addr).add i) v).run P w = .ok () (w.setRow g (cur.setIfInBounds (o+i) v)):=by rw[hadd,run_store P w _ v _ (h1 v (by simp)),hcell];simp[hfro,setCell_eq_setRow w g (o+i) cur t f v hg]
  have ih:=qf1 g o t f rest (i+1) (cur.setIfInBounds (o+i) v) (w.setRow g (cur.setIfInBounds (o+i) v)) (setRow_heap w g cur _ t _ hg) (by rw[qbf];exact hf) (by simp at hl ⊢;omega) (λx hx=>h1 x (by simp[hx]));simp only[storeCells,qi2,hst,qgq,ih,setRow_setRow];congr 3;have e:=list_seg_step cur.toList (o+i) v rest (by simp at hl ⊢;omega);simpa[Array.toList_setIfInBounds,qcb] using e
end
def OwnB (w:World) (e:TypeId) (a:Option Addr) (cap:Nat) (xs:List Value):Prop:=
 (a=none∧cap=0∧xs=[])∨∃g o cur f,a=some ⟨g,o,none⟩∧w.heap[g]?=some (.cells cur e f)∧(f=(0,0)∨cur.size≤f.1)∧xs.length≤cap∧cap≤maxLen∧o+cap≤cur.size∧(cur.toList.drop o).take xs.length=xs
theorem Own.b {w:World} {e:TypeId} {a:Option Addr} {cap:Nat} {xs:List Value} (h:Own w e a cap xs):OwnB w e a cap xs:=by
 rcases h with h|⟨g,o,cur,rfl,hg,r⟩
 ·exact .inl h
 ·exact .inr ⟨g,o,cur,_,rfl,hg,.inl rfl,r⟩
theorem OwnB.shape {w:World} {e:TypeId} {a:Option Addr} {cap:Nat} {xs:List Value} (h:OwnB w e a cap xs):xs.length≤cap∧cap≤maxLen∧(a=none→cap=0):=by
 rcases h with⟨_,rfl,rfl⟩|⟨g,o,cur,f,rfl,_,_,h1,h2,_⟩
 ·exact⟨qae _,qa5 _,λ_=>rfl⟩
 ·exact⟨h1,h2,λh=>by cases h⟩
theorem OwnB.cs {w:World} {e:TypeId} {a:Option Addr} {cap:Nat} {xs:List Value} (h:OwnB w e a cap xs):Cs w a xs:=by
 rcases h with⟨_,_,rfl⟩|⟨g,o,cur,f,rfl,hg,_,h1,h2,h3,h4⟩
 ·exact .inl rfl
 ·refine .inr ⟨g,o,rfl,λj v hv=>?_⟩;rw[cell_of hg,<-qbz];rw[<-h4,qbs]at hv;split at hv
  ·simpa using hv
  ·cases hv
theorem OwnB.fr {S:List Nat} {w w':World} {e:TypeId} {a:Option Addr} {cap:Nat} {xs:List Value} (h:OwnB w e a cap xs) (f:Fr S w w') (hn:∀x∈blk a,x∉S):OwnB w' e a cap xs:=by
 rcases h with h|⟨g,o,cur,z,rfl,hg,r⟩
 ·exact .inl h
 ·exact .inr ⟨g,o,cur,z,rfl,f.blk hg (hn g (by simp[blk])),r⟩
theorem OwnB.lt {w:World} {e:TypeId} {a:Option Addr} {cap:Nat} {xs:List Value} (h:OwnB w e a cap xs):∀x∈blk a,x<w.heap.size:=by
 rcases h with⟨rfl,_⟩|⟨g,o,cur,f,rfl,hg,r⟩
 ·simp[blk]
 ·intro x hx;simp[blk]at hx;rw[hx];exact lt_of_block hg
theorem OwnB.rd {w:World} {e:TypeId} {a:Option Addr} {cap:Nat} {bs:List UInt8} (h:OwnB w e a cap (bs.map bv)):Rd w a cap bs:=by obtain⟨h1,h2,h3⟩:=h.shape;exact⟨h.cs,by simpa using h1,h2,h3⟩
section
variable {P : Program} {w : World} {t e : TypeId} {z : Value} {bytes : Nat}
structure MoreB (w w':World) (e:TypeId) (a a':Option Addr) (cap':Nat) (xs:List Value):Prop where
 own:OwnB w' e a' cap' xs
 fr:Fr (blk a) w w'
 at_:∀x∈blk a',x∈blk a∨w.heap.size≤x
theorem qqm (T:SliceTy P t e z 1 bytes) (ty:TypeId) (a:Option Addr) (n cap:Nat) (xs:List Value) (hown:OwnB w e a cap xs) (hn:xs.length=n)
  (ao:Option Addr) (m c:Nat) (news:List Value) (hmc:m≤c) (hnone:ao=none→c=0) (hc:Cs w ao news) (hl:news.length=m) (h1:∀u∈news,u.oneCell'=true)
  (hby:(n+m)*bytes≤140737488355328) (h63:n+m≤maxLen) :
  ∃a' cap' w',(Builtin.append_ #[t,t] ty #[.slice a n cap,.slice ao m c]).run P w = .ok (.slice a' (n+m) cap') w'∧MoreB w w' e a a' cap' (xs++news):=by
 subst hn;have hcs:=hown.cs;rcases hown with⟨rfl,rfl,rfl⟩|⟨g,o,cur,f,rfl,hg,kf,k1,k2,k3,k4⟩
 ·obtain⟨a',cap',w',hr,A⟩:=qio (P:=P) T ty none 0 0 [] (Own.nil w e) rfl ao m c news hmc hnone hc hl h1 (by simpa using hby) (by simpa using h63);exact⟨a',cap',w',hr,A.own.b,A.fr,A.at_⟩
 ·by_cases hm0:m=0
  ·subst hm0;obtain rfl:news=[]:=qbv hl;obtain⟨hu,⟨i,hi,hz,hs,hbt⟩,hcz,hp⟩:=T;refine⟨some ⟨g,o,none⟩,cap,w,?_,by rw[qbr];exact .inr ⟨g,o,cur,f,rfl,hg,kf,k1,k2,k3,k4⟩,Fr.refl _ _,λx hx=>.inl hx⟩;cases ao with
   | none=>
    have hc0:=hnone rfl;simp[Builtin.append_,run_underlying hu,sizeOf,typeInfo,hi,Builtin.lenOf,k1,Builtin.firstCells,storeCells]
   | some b=>have hf:=run_firstCells_some (P:=P) w i.size 0 b 0 c [] (by simp) (by simp);simp[Builtin.append_,run_underlying hu,sizeOf,typeInfo,hi,Builtin.lenOf,k1,hf,storeCells]
  ·by_cases hroom:xs.length+m≤cap
   ·obtain⟨hu,⟨i,hi,hz,hs,hbt⟩,hcz,hp⟩:=T;obtain⟨g',o',rfl,hcn⟩:=hc.at (by omega);have hn':=qzo hcn;have hf:=run_firstCells_some (P:=P) w i.size m ⟨g',o',none⟩ m c news (by rw[hs];omega) hn';have hst:=qf1 (P:=P) g (o+xs.length*i.size) e f news 0 cur w hg kf (by rw[hs];omega) h1;simp only[qbn]at hst;refine⟨some ⟨g,o,none⟩,cap,_,?_,⟨.inr ⟨g,o,_,f,rfl,setRow_heap w g cur (cur.toList.take (o+xs.length*i.size)++news++cur.toList.drop (o+xs.length*i.size+news.length)).toArray e f hg,?_,by rw[qab,hl];exact hroom,k2,?_,?_⟩,⟨rfl,rfl,rfl,by simp,λk _ hk=>setRow_other w g k _ (λe=>hk (by simp[blk,e]))⟩,λx hx=>.inl hx⟩⟩
    ·simp[Builtin.append_,run_underlying hu,sizeOf,typeInfo,hi,Builtin.lenOf,hroom,hf,Addr.add_lit,hst]
    ·refine kf.imp id λk=>?_
     simp only[List.size_toArray,qab,qaq,qav,qj2,hs];omega
    ·simp only[List.size_toArray,qab,qaq,qav,qj2,hs];omega
    ·simp only[hs,qce];rw[qgr (by simp;omega),qgr (by simp;omega),List.drop_take,Nat.add_sub_cancel_left,k4,qab,hl];rw[qc2 (by simp[hl]),qbd (by simp[hl])]
   ·obtain⟨cap',w',hr,A⟩:=qf2 (P:=P) T ty (some ⟨g,o,none⟩) xs.length cap xs hcs (by omega) k1 (by simp) ao m c news hc (by omega) (by omega) hby h63;obtain⟨o1,_⟩:=qh8 A.own;exact⟨_,cap',w',hr,o1.b,A.fr.mono (by simp),λx hx=>.inr (Nat.le_of_eq (by have:=A.at_ x hx;simp at this;exact this.symm))⟩
theorem qd9 (T:SliceTy P t e z 1 bytes) {ops:Array Oper} {rest:List Oper} {o:Oper} {A:Act} {Q:Exit→Act→World→Prop} (hgd:o.guard=none) (s x:Operand)
  (ho:o.op = .call { callee:=.builtin .append,args:=#[s,x],argTypes:=#[t,t] })
  (a:Option Addr) (n cap:Nat) (xs:List Value) (hs:A.eval s = .slice a n cap) (hown:OwnB w e a cap xs) (hn:xs.length=n)
  (ao:Option Addr) (m c:Nat) (news:List Value) (hx:A.eval x = .slice ao m c) (hmc:m≤c) (hnone:ao=none→c=0) (hc:Cs w ao news) (hl:news.length=m) (h1:∀u∈news,u.oneCell'=true)
  (hby:(n+m)*bytes≤140737488355328) (h63:n+m≤maxLen)
  (h:∀a' cap' w',MoreB w w' e a a' cap' (xs++news)→wpList P ops Q rest (A.put o.dst (.slice a' (n+m) cap')) w'):wpList P ops Q (o::rest) A w:=
 wpList_plain hgd λ_ hK=>by obtain⟨a',cap',w',hr,h2⟩:=qqm (P:=P) T o.type a n cap xs hown hn ao m c news hmc hnone hc hl h1 hby h63;unfold Oper.wp execOp;simp only[ho,resolve,invoke,builtin,qi2,Sem.run_pure,qgq,List.map_toArray,qak,qam,hs,hx,hr];exact hK _ _ (h a' cap' w' h2)
theorem qhh {ops:Array Oper} {rest:List Oper} {o:Oper} {a:Act} {Q:Exit→Act→World→Prop} {src dst:TypeId} (hs:P.underlying src=some .string) (hd:P.underlying dst=some (.slice e)) (he:P.underlying e=some (.int .u8))
  (hgd:o.guard=none) (x:Operand) (ho:o.op = .convert src dst x) (bs:List UInt8) (hx:a.eval x = .string (str bs)) (hm:bs.length≤maxLen)
  (h:∀cap w',bs.length≤cap→OwnB w' e (some ⟨w.heap.size,0,none⟩) cap (bs.map bv)→Fr [] w w'→w.heap.size<w'.heap.size→wpList P ops Q rest (a.put o.dst (.slice (some ⟨w.heap.size,0,none⟩) bs.length cap)) w'):wpList P ops Q (o::rest) a w:=by
 have hr:=run_bytes_of_string (P:=P) w src dst e (str bs) hs hd he;have hsz:(str bs).size=bs.length:=by simp[str,ByteArray.size]
 rw[hsz]at hr;have h1:=grownCap_ge w bs.length 0 e;have h2:=grownCap_le_maxLen w bs.length 0 e hm;generalize grownCap w bs.length 0 e=cap at *;refine wpList_plain hgd λK hK=>?_
 unfold Oper.wp execOp;simp only[ho,hx,qi2,qgq,Sem.run_pure,hr];have hb:=qay w.drew (.cells (bytesRow (str bs) cap) e ((bytesRow (str bs) cap).size,(bytesRow (str bs) cap).size+1));have hrow:(bytesRow (str bs) cap).toList.take bs.length=bs.map bv∧(bytesRow (str bs) cap).size=cap:=by
  constructor
  ·unfold bytesRow;rw[Array.toList_append,qc2 (by simp[str]),qbd (by simp[str])];simp[str,bv]
  ·unfold bytesRow;simp;omega
 refine hK _ _ (h cap _ h1 (.inr ⟨w.heap.size,0,_,_,rfl,hb,.inr (qae _),by simpa using h1,h2,by rw[hrow.2];omega,?_⟩) ((Fr.drew1 [] w).alloc _) (by rw[qa1];exact Nat.lt_succ_self _));rw[qaj,qap];exact hrow.1
end
end Go.Proofs.YtkmpfgpfbmeihaaGreatDoor.lib
namespace Go.Proofs.YtkmpfgpfbmeihaaGreatDoor.sha
open Go Go.RowKit lib bm
theorem zas (p q:List UInt8) (i:Nat) (h:i+3<p.length):word (p++q) i=word p i:=by unfold word;rw[qcv (by omega),qcv (by omega),qcv (by omega),qcv (by omega)]
theorem qql (p q:List UInt8) (h:64≤p.length):∀t,sched (p++q) t=sched p t
 | 0=>rfl
 | t+1=>by
  have e:∀x,sched x (t+1)=sched x t++[if t<16 then word x (4*t) else rol (bits .xor .u32 (bits .xor .u32 (bits .xor .u32 ((sched x t)[t-3]?.getD 0) ((sched x t)[t-8]?.getD 0)) ((sched x t)[t-14]?.getD 0)) ((sched x t)[t-16]?.getD 0)) 1]:=λ_=>rfl
  refine (e _).trans (Eq.trans ?_ (e _).symm);have ih:=qql p q h t;generalize sched (p++q) t=a at *;subst ih;refine congrArg (λz=>sched p t++[z]) ?_;by_cases ht:t<16
  ·rw[if_pos ht,if_pos ht];exact zas p q _ (by omega)
  ·rw[if_neg ht,if_neg ht]
theorem qxe (p q:List UInt8) (h:64≤p.length) (t:Nat) (s:H5):round (p++q) t s=round p t s:=by unfold round;rw[qql p q h]
theorem qn4 (p q:List UInt8) (h:64≤p.length) (s:H5):∀t,rounds (p++q) t s=rounds p t s
 | 0=>rfl
 | t+1=>by rw[rounds,rounds,qn4 p q h s t,qxe p q h]
theorem zby (p q:List UInt8) (h:64≤p.length) (s:H5):mixH s (p++q)=mixH s p:=by unfold mixH;rw[qn4 p q h]
theorem qhf:∀(f g:Nat) (h:H5) (p:List UInt8),p.length≤f→p.length≤g→blocks f h p=blocks g h p
 | 0,0,h,p,_,_=>rfl
 | 0,g+1,h,p,h1,_=>by rw[blocks,blocks,if_neg (by omega)]
 | f+1,0,h,p,_,h2=>by rw[blocks,blocks,if_neg (by omega)]
 | f+1,g+1,h,p,h1,h2=>by
  rw[blocks,blocks];split
  ·exact qhf f g _ _ (by rw[qav];omega) (by rw[qav];omega)
  ·rfl
theorem qgk:∀(f F:Nat) (h:H5) (p q:List UInt8),p.length≤f→(p++q).length≤F→blocks F h (p++q)=blocks (leftOf f p++q).length (blocks f h p) (leftOf f p++q)
 | 0,F,h,p,q,h1,h2=>by
  rw[leftOf,blocks];exact qhf _ _ _ _ h2 (qae _)
 | f+1,F,h,p,q,h1,h2=>by
  by_cases h64:64≤p.length
  ·rw[leftOf,if_pos h64,show blocks (f+1) h p=blocks f (mixH h p) (p.drop 64) by rw[blocks,if_pos h64]];obtain⟨F',rfl⟩:∃F',F=F'+1:=⟨F-1,by rw[qab]at h2;omega⟩;rw[blocks,if_pos (by rw[qab];omega),zby p q h64,qgr h64];exact qgk f F' _ _ q (by rw[qav];omega) (by rw[qab,qav];rw[qab]at h2;omega)
  ·rw[leftOf,if_neg h64,show blocks (f+1) h p=h by rw[blocks,if_neg h64]];exact qhf _ _ _ _ h2 (qae _)
theorem qic:∀(f:Nat) (p:List UInt8),(leftOf f p).length%64=p.length%64
 | 0,p=>by rw[leftOf]
 | f+1,p=>by
  rw[leftOf];split
  ·rw[qic f,qav];omega
  ·rfl
theorem qk3 (s:List UInt8):sha1 s=dig5 (blocks (padded s s.length).length h0 (padded s s.length)):=by
 have hz:zer ((leftOf s.length s).length+1)=zer (s.length+1):=by have:=qic s.length s;unfold zer;omega
 have e:∀r:List UInt8,zer (r.length+1)=zer (s.length+1)→padded r s.length=r++([128]++(List.replicate (zer (s.length+1)) 0++(sums.be4 (s.length/536870912)++sums.be4 (s.length*8%4294967296)))):=λr hr=>by unfold padded padTo;rw[hr];simp only[qas]
 unfold sha1;rw[e _ hz,e s rfl,<-qgk s.length _ h0 s _ (qae _) (qae _)]
def tailOf (len:Nat):List UInt8:=[128]++(List.replicate (zer (len+1)) 0++(sums.be4 (len/536870912)++sums.be4 (len*8%4294967296)))
theorem qmp (r:List UInt8) (len:Nat) (h:r.length%64=len%64):padded r len=r++tailOf len:=by
 have hz:zer (r.length+1)=zer (len+1):=by unfold zer;omega
 unfold padded padTo tailOf;rw[hz];simp only[qas]
theorem zbb (a b:List UInt8) {rs:List UInt8} (hrs:rs=leftOf (leftOf a.length a++b).length (leftOf a.length a++b)) {len:Nat} (hlen:len=a.length+b.length) :
  dig5 (blocks (padded rs len).length (blocks (leftOf a.length a++b).length (blocks a.length h0 a) (leftOf a.length a++b)) (padded rs len))=sha1 (a++b):=by
 have h1:=qic a.length a;have h2:=qic (leftOf a.length a++b).length (leftOf a.length a++b);rw[qab]at h2;have hmod:rs.length%64=len%64:=by rw[hrs,hlen,qab];omega
 rw[qmp rs len hmod,hrs,<-qgk _ _ _ _ _ (qae _) (qae _),qas,<-qgk a.length _ h0 a (b++tailOf len) (qae _) (qae _),qk3,
  qmp (a++b) _ rfl,hlen,qas]
 simp only[qab]
end Go.Proofs.YtkmpfgpfbmeihaaGreatDoor.sha
namespace Go.Proofs.YtkmpfgpfbmeihaaGreatDoor.obj
open Go Go.RowKit lib
def NewHd (w:World) (bs:List UInt8) (e:Ending) (w':World):Prop:=
 ∃a c,e = .returned (.slice a bs.length c)∧lib.Rd w' a c bs∧(∀x∈blk a,w.heap.size≤x)∧Fr [] w w'
theorem qv0 (k:Int) (n:Nat) (w:World) (hn:n≤140737488355328) (hp:Pw w):Calls Tryz.prog 95 #[.int .i64 k,.int .i64 n] w (NewHd w (header k n)):=by
 obtain⟨A,hA⟩:=zex (str (kname k));obtain⟨D,hD⟩:=zex (str (Lib.decDigits n));have hAs:A.size≤6:=by have:=qpo k;rw[hA];simpa[str,ByteArray.size] using this
 have hDs:D.size≤16:=by
  have:=qs7 16 n (by decide) (by
   have:10^16=10000000000000000:=by decide
   omega)
  have e:(str (Lib.decDigits n)).size=(Lib.decDigits n).length:=by simp[str,ByteArray.size]
  rw[hD,e];exact this
 have h1:=λw'=>qt7 k w'
 have h2:=λw' h=>zb8 n hn w' h
 rw[<-hA]at h1;rw[<-hD]at h2;have hcat:A++({ data:=#[32] }:ByteArray)++D++({ data:=#[0] }:ByteArray)=str (header k n):=by have e1:({ data:=#[32] }:ByteArray)=str [32]:=rfl;have e0:({ data:=#[0] }:ByteArray)=str [0]:=rfl;rw[e1,e0,hA,hD,qee,qee,qee];rfl
 have H:=zhd4 h1 h2 hcat hp;clear h1 h2 hA hD hcat hp;go_enter Tryz.func95,Tryz.ntmps95;go_wp2_with (first
  | (go_at_call 62;refine (H.o0 _).mono ?_;rintro e w1 ⟨rfl,f1⟩;have HF:=zhd f1;clear f1)
  | (go_at_call 118;refine (H.o1 _ (H.l3.fr HF.out)).mono ?_;rintro e w2 ⟨rfl,f2⟩;have HF2:=zhd (HF.out.trans f2);clear f2)
  | (refine qd8 (n:Int) rfl _ _ _ rfl (n:Int) 0 rfl rfl (by split<;>omega) ?_)
  | (refine qhh (e:=5) Tryz.underlying9 Tryz.underlying23 Tryz.underlying5 rfl _ rfl (header k n) (by rw[<-H.o2];rfl) (by have:=qkp k n hn;unfold maxLen;omega) ?_;intro cap w3 hc3 ho3 f3 hl3;have H3:=zhd2 ho3.rd f3;clear ho3 f3))
 go_ret;exact⟨_,cap,rfl,H3.o0,λx hx=>by simp only[blk,qa2]at hx;rw[hx];exact HF2.out.size,HF2.out.trans H3.l1⟩
theorem ze7 (w:World):Calls Tryz.prog 93 #[.int .i64 1] w λe w'=>e = .returned (.tuple #[.pointer (some ⟨w.heap.size,0,none⟩),.int .i64 0])∧sha.Sh w' w.heap.size sha.h0 none 0 [] 0∧Fr [] w w':=by go_enter Tryz.func93,Tryz.ntmps93;go_wp2_with (go_at_call 106;refine (sha.qrv _).mono ?_;rintro e w1 ⟨rfl,A1,f1⟩;have H1:=zhd2 A1 f1;clear A1 f1);go_ret2;exact⟨rfl,H1.out⟩
theorem qyy (k:Int) (ao:Option Addr) (cap:Nat) (bs:List UInt8) (w:World) (h:lib.Rd w ao cap bs) (hl:bs.length≤140737488355200) (hp:Pw w) :
  Calls Tryz.prog 63 #[.int .i64 k,.slice ao bs.length cap] w λe w'=>e = .returned (.string (str (pk.oid k bs)))∧Fr [] w w':=by
 obtain⟨L,hL⟩:=zex bs.length;obtain⟨hd,hhd⟩:=zex (header k L);have hdl:hd.length≤24:=by rw[hhd];exact qkp k L (by omega)
 have hres:pk.oid k bs=pk.hexb (sha.sha1 (hd++bs)):=by rw[hhd,hL];rfl
 rw[hres];have hh:=λw' hpw=>qv0 k L w' (by omega) hpw
 rw[<-hhd]at hh;rw[<-hL]at hl ⊢;have H:=zhd4 h hL hh hp;clear h hL hh hp hhd hres;go_enter Tryz.func63,Tryz.ntmps63;go_upto_region 2 with (go_at_call 93;refine (ze7 _).mono ?_;rintro e w1 ⟨rfl,A1,f1⟩;have H1:=zhd2 A1 f1;clear A1 f1);obtain⟨g,hg⟩:=zex w.heap.size;rw[<-hg]at H1 ⊢;have hgw:g<w1.heap.size:=by obtain⟨C,hC,_⟩:=H1.out.1.blk;exact lt_of_block hC
 have hW:∀w2 a2 c2,lib.Rd w2 a2 c2 hd→Fr [] w1 w2→(∀x∈blk a2,w1.heap.size≤x)→Calls Tryz.prog 94 #[.pointer (some ⟨g,0,none⟩),.slice a2 hd.length c2] w2 λe w'=>e = .returned (.tuple #[])∧Fr [g] w2 w'∧
   ∃ra' rc',sha.Sh w' g (sha.blocks hd.length sha.h0 hd) ra' rc' (sha.leftOf hd.length hd) hd.length∧∀x∈lib.blk ra',w2.heap.size≤x:=λw2 a2 c2 r2 f2 n2=>by
  obtain⟨C,hC,s⟩:=H1.out.1.blk
  have:=sha.qlr g sha.h0 none 0 [] 0 c2 a2 hd w2 ⟨⟨C,f2.blk hC (by simp),s⟩,H1.out.1.own.fr f2 (by simp),by simp[lib.blk]⟩ r2 (λ_ x hx=>by have:=n2 x hx;omega) (by omega) (by simp;omega)
  simp only[qb4,qbg,lib.blk,qcw,false_or]at this
  exact this
 have HW:=zhd3 hW hg hgw;clear hW hg hgw;go_upto_region 3 with (first
  | (go_at_call 95;refine (H.o2 _ (H.l3.fr H1.out.2)).mono ?_;rintro e w2 ⟨a2,c2,rfl,r2,n2,f2⟩;have H2:=zhd3 r2 f2 n2;clear r2 f2 n2)
  | (go_at_call 94;refine (HW.o0 _ a2 c2 H2.o0 H2.o1 H2.l2).mono ?_;rintro e w3 ⟨rfl,f3,ra3,rc3,A3,n3⟩;have H3:=zhd3 f3 A3 n3;clear f3 A3 n3))
 obtain⟨f3,A3,n3⟩:=H3.out;have hg:=HW.o1;have hgw:=HW.l2;have fw2:Fr [] w w2:=H1.out.2.trans H2.o1;have fw3:Fr [] w w3:=fw2.step f3 (λy hy=>.inr (by simp at hy;omega));obtain⟨rs1,hrs1⟩:=zex (sha.leftOf hd.length hd);have hr1:rs1.length<64:=by rw[hrs1];exact sha.qjp _ _ (qae _)
 rw[<-hrs1]at A3;have hw:=sha.qlr g _ ra3 rc3 rs1 hd.length cap ao bs w3 A3 (H.o0.fr fw3) (λhb x hx=>by have:=qmj H.o0 hb x hx;omega) (by have:=H.o1;omega) (by have:=H.o1;omega);rw[<-H.o1]at hw;have H4:=zhd4 hw fw3 hrs1 n3;clear hw fw3 hrs1 n3 f3 A3 H3 hg hgw;go_upto_region 4 with (go_at_call 94;refine H4.o0.mono ?_;rintro e w4 ⟨rfl,f4,ra4,rc4,A4,n4⟩;have H5:=zhd3 f4 A4 n4;clear f4 A4 n4);obtain⟨f4,A4,n4⟩:=H5.out;have hg:=HW.o1;have hgw:=HW.l2;have fw4:Fr [] w w4:=H4.o1.step f4 (λy hy=>.inr (by
  simp only[qbh]at hy
  rcases hy with rfl|hy
  ·omega
  ·have:=(fw2).size
   have:=H4.l3 y hy
   omega))
 have hs:=sha.qw0 _ _ _ _ _ _ w4 A4 (sha.qjp _ _ (qae _)) (sha.qik _ _ _ (sha.qik _ _ _ sha.qy5)) (by omega);rw[H4.o2,sha.zbb hd bs rfl (by rw[H.o1])]at hs;have H6:=zhd2 hs fw4;clear hs fw4 f4 A4 n4 H5 hg hgw;go_wp2_with (first
  | (go_at_call 96;refine H6.o0.mono ?_;rintro e w5 ⟨⟨a5,c5,rfl,r5⟩,f5⟩;have H7:=zhd2 r5 f5;clear r5 f5)
  | (go_at_call 46;refine (pk.qps a5 c5 _ w5 H7.o0 (by rw[sha.qck];decide)).mono ?_;rintro e w6 ⟨rfl,f6⟩))
 go_ret;exact⟨rfl,(H6.l1.trans H7.l1).trans f6⟩
end Go.Proofs.YtkmpfgpfbmeihaaGreatDoor.obj
namespace Go.Proofs.YtkmpfgpfbmeihaaGreatDoor.pk
open Go Go.RowKit lib bm
def objV (o:Obj) (a:Option Addr) (c:Nat):Array Value:=#[.int .i64 o.kind,.slice a o.body.length c,.string (str o.id),.int .i64 o.at_,.int .u32 (o.crc:Nat)]
theorem infoObj:(Tryz.prog.info? 34).map (·.size)=some 5:=by kernel_rfl
structure Rb (w:World) (g O S:Nat) (gv tv:Value) (la:Option Addr) (ms:List EM) (C D:Array Value):Prop where
 box:w.heap[g]?=some (.cells #[.slice la ms.length ms.length,.slice (some ⟨O,0,none⟩) ms.length ms.length,.slice (some ⟨S,0,none⟩) ms.length ms.length,gv,tv] 96 (0,0))
 ents:Ents w la ms
 ob:w.heap[O]?=some (.cells C 34 (0,0))
 oc:C.size=ms.length*5
 sb:w.heap[S]?=some (.cells D 100 (0,0))
 sc:D.size=ms.length*4
 gO:g≠O
 gS:g≠S
 OS:O≠S
 offl:∀x∈blk la,x≠O∧x≠S
 offd:∀m∈ms,∀x∈blk m.2,x≠O∧x≠S
 few:ms.length≤4096
theorem Rb.fr {w w':World} {g O S:Nat} {gv tv:Value} {la:Option Addr} {ms:List EM} {C D:Array Value} (h:Rb w g O S gv tv la ms C D) (f:Fr [] w w'):Rb w' g O S gv tv la ms C D:=
 ⟨f.blk h.box (by simp),h.ents.fr f,f.blk h.ob (by simp),h.oc,f.blk h.sb (by simp),h.sc,h.gO,h.gS,h.OS,h.offl,h.offd,h.few⟩
theorem Ents.frS {S:List Nat} {w w':World} {a:Option Addr} {ms:List EM} (h:Ents w a ms) (f:Fr S w w') (hl:∀x∈blk a,x∉S) (hd:∀m∈ms,∀x∈blk m.2,x∉S):Ents w' a ms:=
 ⟨h.cs.fr f hl,λm hm=>(h.dat m hm).frS f (hd m hm)⟩
theorem Rb.setO {w w':World} {g O S:Nat} {gv tv:Value} {la:Option Addr} {ms:List EM} {C C' D:Array Value} (h:Rb w g O S gv tv la ms C D) (f:Fr [O] w w') (hb:w'.heap[O]?=some (.cells C' 34 (0,0))) (hs:C'.size=C.size):Rb w' g O S gv tv la ms C' D:=
 ⟨f.blk h.box (by simp;exact h.gO),h.ents.frS f (λx hx=>by simp;exact (h.offl x hx).1) (λm hm x hx=>by simp;exact (h.offd m hm x hx).1),hb,by rw[hs];exact h.oc,f.blk h.sb (by simp;exact qdx h.OS),h.sc,h.gO,h.gS,h.OS,h.offl,h.offd,h.few⟩
theorem Rb.setS {w w':World} {g O S:Nat} {gv tv:Value} {la:Option Addr} {ms:List EM} {C D D':Array Value} (h:Rb w g O S gv tv la ms C D) (f:Fr [S] w w') (hb:w'.heap[S]?=some (.cells D' 100 (0,0))) (hs:D'.size=D.size):Rb w' g O S gv tv la ms C D':=
 ⟨f.blk h.box (by simp;exact h.gS),h.ents.frS f (λx hx=>by simp;exact (h.offl x hx).2) (λm hm x hx=>by simp;exact (h.offd m hm x hx).2),f.blk h.ob (by simp;exact h.OS),h.oc,hb,by rw[hs];exact h.sc,h.gO,h.gS,h.OS,h.offl,h.offd,h.few⟩
theorem Ents.cell {w:World} {a:Option Addr} {ms:List EM} (h:Ents w a ms) {i:Nat} {m:EM} (hi:ms[i]?=some m):∃gb o,a=some ⟨gb,o,none⟩∧∀j v,j<7→(entV m.1 m.2 m.1.data.length)[j]?=some v→w.cell? ⟨gb,o+(i*7+j),none⟩=some v:=by have hl:=(qa9.1 hi).1;obtain⟨gb,o,ha,hc⟩:=h.cs.at (by rw[qk7];omega);refine⟨gb,o,ha,λj v hj hv=>hc _ v ?_⟩;have:=qih entL 7 (λ_=>rfl) ms i m j hi hj;unfold entCells;rw[this];unfold entL;rw[qbz];exact hv
theorem qxb (g O S:Nat) (gv tv:Value) (la:Option Addr) (ms:List EM) (C D:Array Value) (i:Nat) (m:EM) (kd:Int) (ba:Option Addr) (bc:Nat) (body:List UInt8) (w:World)
  (h:Rb w g O S gv tv la ms C D) (hi:ms[i]?=some m) (hb:lib.Rd w ba bc body) (hbl:body.length≤140737488355200) (hp:obj.Pw w) :
  Calls Tryz.prog 79 #[.pointer (some ⟨g,0,none⟩),.int .i64 i,.int .i64 kd,.slice ba body.length bc] w λe w'=>e = .returned (.tuple #[])∧Fr [O] w w'∧
   ∃C',Rb w' g O S gv tv la ms C' D∧(∀j,j<i*5∨i*5+5≤j→C'[j]?=C[j]?)∧(∀j v,(objV (whole m.1 kd body) ba bc)[j]?=some v→C'[i*5+j]?=some v):=by
 obtain⟨n,hn⟩:=zex ms.length;have hin:i<n:=by rw[hn];exact (qa9.1 hi).1
 have hfew:n≤4096:=by rw[hn];exact h.few
 have b0:=cell_of h.box 0;have b1:=cell_of h.box 1;simp only[qag,qac,qaf]at b0 b1;rw[<-hn]at b0 b1;obtain⟨gb,o,rfl,hce⟩:=h.ents.cell hi;have e1:=hce 1 _ (by decide) (show _=some (.int .i64 (m.1.at_:Nat)) from rfl);have e3:=hce 3 _ (by decide) (show _=some (.int .u32 (m.1.crc:Nat)) from rfl);have hid:=λw' (f:Fr [] w w')=>obj.qyy kd ba bc body w' (hb.fr f) hbl (hp.fr f)
 obtain⟨bl,hbl2⟩:=zex body.length;obtain⟨X,hX⟩:=zex (str (oid kd body));rw[<-hX,<-hbl2]at hid;rw[<-qcb]at e1 e3;have hgO:g∉[O]:=by simp;exact h.gO
 have hbO:gb∉[O]:=by simp;exact (h.offl gb (by simp[blk])).1
 have s0:∀x,(sup [O] w.drew x).cell? ⟨g,0,none⟩=some (.slice (some ⟨gb,o,none⟩) n n):=λx=>(qcm [O] w.drew x).cell (show w.drew.cell? _=_ from b0) hgO
 have s1:∀x,(sup [O] w.drew x).cell? ⟨g,1,none⟩=some (.slice (some ⟨O,0,none⟩) n n):=λx=>(qcm [O] w.drew x).cell (show w.drew.cell? _=_ from b1) hgO
 have t1:∀x,(sup [O] w.drew x).cell? ⟨gb,o+i*7+1,none⟩=some (.int .i64 (m.1.at_:Nat)):=λx=>(qcm [O] w.drew x).cell (show w.drew.cell? _=_ from e1) hbO
 have t3:∀x,(sup [O] w.drew x).cell? ⟨gb,o+i*7+3,none⟩=some (.int .u32 (m.1.crc:Nat)):=λx=>(qcm [O] w.drew x).cell (show w.drew.cell? _=_ from e3) hbO
 rw[<-hbl2];have H:=zhd5 h hn hid hX hbl2;clear h hn hid hX hbl2 hce e1 e3 b0 b1 hb hp hi hbl;go_enter Tryz.func79,Tryz.ntmps79;refine qb3 29 [(false,0),(false,1),(false,2),(false,3),(false,4),(false,5),(false,6),(false,7),(false,8),(false,10),(false,11),(false,12),(false,13),(false,14),(false,15),(false,16),(false,17),(false,18),(false,19),(false,20),(false,21),(false,22),(false,23),(false,24),(false,25),(true,9),(true,26),(false,27),(true,28)] [O] (by kernel_rfl) (by kernel_rfl) (λ_ _ d _ _ h=>by cases d<;>exact h) ?_;simp only[qak,qam,qaz,qa0,qad,qaj,qbk];refine qb0 25 rfl ?_;simp only[qah,qan,qad,qaj,qak,qam];repeat (go_big_quiet_step (fail))
 refine wpQuiet_nil ?_;clear s0 s1 t1 t3;refine qb6 rfl ?_;intro X1 hX1;go_wp2_with (go_at_call 63;refine (H.o2 _ (Fr.drew1 [] w)).mono ?_;rintro e w2 ⟨rfl,f2⟩);refine hX1.out _ _ (f2.mono (by simp)) ?_;clear hX1 X1;have HF:=zhd ((Fr.drew1 [] w).trans f2);clear f2;refine qb6 rfl ?_;intro X1 hX1;go_wp2;refine hX1.out _ _ (Fr.refl _ _) ?_;clear hX1 X1;refine qb0 1 rfl ?_;simp only[qah,qan,qad,qaj,qak,qam];repeat (go_big_quiet_step (fail))
 refine wpQuiet_nil ?_;have ho2:=HF.out.blk H.o0.ob (by simp);have hsz:i*5+5≤C.size:=by rw[H.o0.oc,<-H.o1];omega
 have HO:=zhd2 ho2 hsz;clear ho2 hsz;refine qb6 rfl ?_;intro X1 hX1;refine wp_store_mid 34 (.tmp 35) (.tmp 34) rfl O (i*5) #[.int .i64 kd,.slice ba bl bc,.string X,.int .i64 (m.1.at_:Nat),.int .u32 (m.1.crc:Nat)] rfl rfl (qtn HO.out.1 (i*5) 5 HO.out.2) infoObj (by kernel_rfl) ?_;simp only[Act.put,qbb,qbx,qbq];have fS:Fr [O] w2 (w2.setCells O (i*5) (#[.int .i64 kd,.slice ba bl bc,.string X,.int .i64 (m.1.at_:Nat),.int .u32 (m.1.crc:Nat)]:Array Value).toList):=Fr.setCells (by simp) _ _ (Fr.refl [O] w2);obtain⟨C',h1,h2,h3,h4⟩:=qht (#[.int .i64 kd,.slice ba bl bc,.string X,.int .i64 (m.1.at_:Nat),.int .u32 (m.1.crc:Nat)]:Array Value).toList (i*5) w2 C HO.out.1;refine hX1.out _ _ fS ?_;clear hX1 X1;have HS:=zhd5 fS h1 h2 h3 h4;clear fS h1 h2 h3 h4;refine qcq ?_;go_wp2;go_end0;obtain⟨fS,h1,h2,h3,h4⟩:=HS.out;refine⟨rfl,(HF.out.mono (by simp)).trans fS,C',(H.o0.fr HF.out).setO fS h1 h2,λj hj=>h3 j (by simpa using hj),λj v hv=>h4 j v ?_ ?_⟩
 ·have e1:(objV (whole m.1 kd body) ba bc)=#[.int .i64 kd,.slice ba bl bc,.string X,.int .i64 (m.1.at_:Nat),.int .u32 (m.1.crc:Nat)]:=by unfold objV whole;rw[H.o3,H.l4]
  rw[e1]at hv;rw[<-qbz]at hv;exact hv
 ·have:j<5:=(qd0.1 hv).1;have:=HO.out.2;omega
theorem qw2:SliceTy Tryz.prog 27 34 (.agg #[.int .i64 0,.slice none 0 0,.string ⟨#[]⟩,.int .i64 0,.int .u32 0]) 5 64:=SliceTy.of Tryz.underlying27 (by kernel_rfl) rfl (by decide)
abbrev OM:=Obj×Option Addr×Nat
def oL (m:OM):List Value:=(objV m.1 m.2.1 m.2.2).toList
theorem zds (m:OM):∀u∈oL m,u.oneCell'=true:=by intro u hu;simp only[oL,objV,qbh,qcw,or_false]at hu;rcases hu with rfl|rfl|rfl|rfl|rfl<;>rfl
end Go.Proofs.YtkmpfgpfbmeihaaGreatDoor.pk
