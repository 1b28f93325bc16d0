/-
  Texts of this proof, one behind the other: PackTake, PkHead, PkBack, RCrc, Flat, Mid, TabC, CrcB.
-/
import Derived.Test.YtkmpfgpfbmeihaaGreatDoorS5
import Derived.Deep.MidRow
set_option maxHeartbeats 16000000
set_option maxRecDepth 100000
set_option linter.unusedVariables false
set_option linter.unusedSimpArgs false
namespace Go.Proofs.YtkmpfgpfbmeihaaGreatDoor.pk
open Go Go.RowKit lib bm
structure Rdr (w:World) (r:Nat) (a:Option Addr) (cap:Nat) (bs:List UInt8) (at_:Nat):Prop where
 box:w.heap[r]?=some (.cells #[.slice a bs.length cap,.int .i64 at_] 85 (0,0))
 rd:lib.Rd w a cap bs
 le:at_≤bs.length
 off:bs≠[]→∀x∈blk a,x≠r
theorem Rdr.fr {w w':World} {r:Nat} {a:Option Addr} {cap at_:Nat} {bs:List UInt8} (h:Rdr w r a cap bs at_) (f:Fr [] w w'):Rdr w' r a cap bs at_:=
 ⟨f.blk h.box (by simp),h.rd.fr f,h.le,h.off⟩
theorem qgb (r:Nat) (a:Option Addr) (cap:Nat) (bs:List UInt8) (at_ n:Nat) (w:World) (h:Rdr w r a cap bs at_) (hlen:bs.length≤100000000) (hn:bs.length<at_+n) :
  Calls Tryz.prog 43 #[.pointer (some ⟨r,0,none⟩),.int .i64 n] w λe w'=>e = .returned (.tuple #[.slice none 0 0,.int .i64 4])∧Fr [] w w':=by
 obtain⟨L,hL⟩:=zex bs.length;have c0:w.cell? ⟨r,0,none⟩=some (.slice a L cap):=by rw[cell_of h.box,hL];rfl
 have c1:w.cell? ⟨r,1,none⟩=some (.int .i64 at_):=by rw[cell_of h.box];rfl
 have hle:=h.le;rw[<-hL]at hle hlen hn;have d:decide ((n:Int)>(L:Int)-at_)=true:=by simp;omega
 clear hL h;go_enter Tryz.func43,Tryz.ntmps43;go_upto_region 1 with fail;go_quiet (fail);go_wp2;go_ret2;exact⟨rfl,Fr.drewN _ _ _⟩
theorem qej (r:Nat) (a:Option Addr) (cap:Nat) (bs:List UInt8) (at_ n:Nat) (w:World) (h:Rdr w r a cap bs at_) (hlen:bs.length≤100000000) (hn:at_+n≤bs.length) :
  Calls Tryz.prog 43 #[.pointer (some ⟨r,0,none⟩),.int .i64 n] w λe w'=>e = .returned (.tuple #[.slice (cutAt a cap at_) n (cap-at_),.int .i64 0])∧Rdr w' r a cap bs (at_+n)∧Fr [r] w w':=by
 obtain⟨L,hL⟩:=zex bs.length;have c0:w.cell? ⟨r,0,none⟩=some (.slice a L cap):=by rw[cell_of h.box,hL];rfl
 have c1:w.cell? ⟨r,1,none⟩=some (.int .i64 at_):=by rw[cell_of h.box];rfl
 have z1:=qau h.box 1;have hle:=h.le;have hcap:=h.rd.le;have HH:=zhd2 h hL;rw[<-hL]at hle hlen hn hcap;have d:decide ((n:Int)>(L:Int)-at_)=false:=by simp;omega
 clear hL h;go_enter Tryz.func43,Tryz.ntmps43;go_upto_region 1 with fail;go_quiet (fail);go_upto_region 4 with fail;have hrun:=λw'=>lib.run_slice_lh sliceU8 at_ n a L cap ((at_:Int)+n-n) ((at_:Int)+n) (by omega) rfl (by omega) w'
 rw[show (at_:Int)+n-n=(at_:Int) by omega]at hrun;have e2:wrap64 ((at_:Int)+n-n)=(at_:Int):=by unfold wrap64;omega
 have e3:(at_:Int)+n-n=(at_:Int):=by omega
 obtain⟨w2,hw2⟩:∃w2,w2=(w.drewN nq).setCell ⟨r,1,none⟩ (.int .i64 ((at_:Int)+n)):=⟨_,rfl⟩;rw[<-hw2];have hb:=qax (w:=w.drewN nq) (o:=1) (show (w.drewN nq).heap[r]?=_ from HH.o0.box) (.int .i64 ((at_:Int)+n));rw[<-hw2]at hb;have f2:Fr [r] w w2:=by rw[hw2];exact (Fr.drewN [r] w nq).setCell (by simp) _
 have c0':w2.cell? ⟨r,0,none⟩=some (.slice a L cap):=by rw[cell_of hb,HH.l1];rfl
 have c1':w2.cell? ⟨r,1,none⟩=some (.int .i64 ((at_:Int)+n)):=by rw[cell_of hb];rfl
 have H2:=zhd2 hb f2;clear hb f2 hw2 c0 c1 z1 d;go_quiet (fail);go_wp2;go_ret2;refine⟨rfl,⟨?_,qhj HH.o0.rd (H2.l1.step (Fr.drewN [r] w2 _) (λx hx=>.inl hx)) (λhb x hx hm=>HH.o0.off hb x hx (by simpa using hm)),by rw[<-HH.l1];omega,HH.o0.off⟩,H2.l1.trans (Fr.drewN _ _ _)⟩;have:=H2.o0;simpa using this
theorem u8_and7 (x:Nat) (h:x<16):bits .and .u8 ((x:Nat):Int) 7=((x%8:Nat):Int):=by
 have hall:∀y:Fin 16,bits .and .u8 ((y.val:Nat):Int) 7=((y.val%8:Nat):Int):=by decide +kernel
 exact hall ⟨x,h⟩
theorem qp9 (x:Nat) (h:x<256):bits .and .u8 ((x:Nat):Int) 127=((x%128:Nat):Int):=by
 have hall:∀y:Fin 256,bits .and .u8 ((y.val:Nat):Int) 127=((y.val%128:Nat):Int):=by decide +kernel
 exact hall ⟨x,h⟩
theorem zce (n v k:Nat) (hk:k≤62) (hn:n<2^k) (hv:v*2^k<9223372036854775808):bits .or .i64 (n:Int) ((v:Int)*((2^k:Nat):Int))=((n+v*2^k:Nat):Int):=by
 have h1:=qir k 62 hk;have e62:2^62=4611686018427387904:=by decide
 rw[e62]at h1;rw[<-qev,qgw _ _ (by omega) hv,qk5 n v k hn,qcc v,zan]
def PHead (w:World) (r:Nat) (a:Option Addr) (cap:Nat) (bs:List UInt8) (at_:Nat) (P:Except Nat (Nat×Nat×Nat)) (e:Ending) (w':World):Prop:=
 Fr [r] w w'∧((∃x,P = .error x∧0<x∧x<100∧e = .returned (.tuple #[.int .i64 0,.int .i64 0,.int .i64 (x:Nat)]))∨
  ∃k s n,P = .ok (k,s,n)∧k<8∧s≤65536∧e = .returned (.tuple #[.int .i64 (k:Nat),.int .i64 (s:Nat),.int .i64 0])∧Rdr w' r a cap bs (at_+n))
theorem qpw (bs:List UInt8) (a i:Nat):(bs.drop a)[i]?=bs[a+i]?:=by rw[qc5]
theorem qy4 (r:Nat) (a:Option Addr) (cap:Nat) (bs:List UInt8) (at_:Nat) (w:World) (h:Rdr w r a cap bs at_) (hlen:bs.length≤100000000) :
  Calls Tryz.prog 73 #[.pointer (some ⟨r,0,none⟩)] w (PHead w r a cap bs at_ (phead (bs.drop at_))):=by
 obtain⟨P,hP⟩:=zex (phead (bs.drop at_));rw[<-hP];have hP0:phF (bs.drop at_) 5 0 0 0=P:=hP.symm;have H:=zhd3 h hlen hP0;clear h hlen hP hP0;go_enter Tryz.func73,Tryz.ntmps73;go_upto_block 0 with fail;go_wp2;go_loopg [2,3,8] 5 (λk s2 s3 s8 wr=>∃i kd sz:Nat,s2 = .int .i64 (kd:Nat)∧s3 = .int .i64 (sz:Nat)∧s8 = .int .i64 (i:Nat)∧i+k=5∧kd<8∧(0<i→sz<2^(7*i-3))∧phF (bs.drop at_) k i kd sz=P∧Rdr wr r a cap bs (at_+i)∧Fr [r] w wr);case atStart=>exact⟨0,0,0,rfl,rfl,rfl,rfl,by decide,by simp,H.l2,H.o0,Fr.refl _ _⟩
 case round=>
  obtain⟨i,kd,sz,rfl,rfl,rfl,hik,hkd,hsz,hph,hr,hf⟩:=hrel;by_cases hi:i<5
  ·obtain⟨k,rfl⟩:∃k,gk=k+1:=⟨gk-1,by omega⟩;by_cases hin:at_+i<bs.length
   ·have ht:=qej r a cap bs (at_+i) 1 wr hr H.o1 (by omega);obtain⟨g,o,rfl,hc⟩:=hr.rd.at hin;have hcap:=hr.rd.le;have hgr:=hr.off (λe=>by rw[e]at hin;simp at hin) g (by simp[blk]);have ec:cutAt (some ⟨g,o,none⟩) cap (at_+i)=some ⟨g,o+(at_+i),none⟩:=by unfold cutAt;rw[if_neg (by omega)];simp[qe6]
    rw[ec]at ht;obtain⟨p,hp⟩:=zex (o+(at_+i));rw[<-hp]at ht hc;have hbi:(bs.drop at_)[i]?=some bs[at_+i]:=by rw[qpw,qai hin]
    have hb:=qbc bs[at_+i];obtain⟨b,hbv⟩:=zex (bs[at_+i]);rw[<-hbv]at hc hbi hb;obtain⟨c,hcv⟩:=zex b.toNat;rw[<-hcv]at hc hb;rw[phF,hbi]at hph;simp only[<-hcv]at hph;have HT:=zhd5 ht hc hph hf hgr;clear ht hc hph hf hgr hbi hbv hcv hr ec hcap hp;go_upto_region 5 with (go_at_call 43;refine HT.o0.mono ?_;rintro e w3 ⟨rfl,rd3,f3⟩);have hc3:=f3.cell HT.l1.1 (by simp;exact HT.out.2.2.2.2);have H3:=zhd3 rd3 (HT.out.2.2.2.1.trans f3) hc3;clear rd3 f3;have h127:=qp9 c hb;obtain⟨y,hy⟩:=zex (c%128);rw[<-hy]at h127;by_cases h0:i=0
    ·subst h0;have h7:=u8_and7 (c/16) (by omega);have h15:=inf.u8_and15 c hb;obtain⟨y1,hy1⟩:∃y,y=c/16%8:=⟨_,rfl⟩;obtain⟨y2,hy2⟩:∃y,y=c%16:=⟨_,rfl⟩;have hph:=HT.out.2.2.1;rw[if_pos rfl,<-hy1,<-hy2]at hph;rw[<-hy1,show ((c/16:Nat):Int)=(c:Int)/16 by omega]at h7;rw[<-hy2]at h15;have hy1b:y1<8:=by omega
     have hy2b:y2<16:=by omega
     have HP:=zhd hph;clear hph hy hy1 hy2 hsz;go_upto_region 8 with fail;go_quiet (fail);clear h7 h15 h127 hc3;obtain⟨w4,hw4⟩:=zex (w3.drewN nq);rw[<-hw4];have f4:Fr [] w3 w4:=by rw[hw4];exact Fr.drewN [] w3 nq
     have rd4:=H3.o0.fr f4;have hc4:=f4.cell H3.l2 (by simp);have H4:=zhd2 rd4 (H3.o1.step f4 (by simp));clear hw4 f4 rd4;by_cases hk0:y1=0
     ·subst hk0;go_wp2;go_ret3;exact⟨H4.l1,.inl ⟨3,by rw[<-HP.out];simp,by decide,by decide,rfl⟩⟩
     ·have d0:((y1:Int)==0)=false:=by simp;omega
      by_cases hk5:y1=5
      ·subst hk5;go_wp2;go_ret3;exact⟨H4.l1,.inl ⟨3,by rw[<-HP.out];simp,by decide,by decide,rfl⟩⟩
      ·have d5:((y1:Int)==5)=false:=by simp;omega
       have hph:=HP.out;rw[if_neg (by omega)]at hph;by_cases h128:128≤c
       ·rw[if_pos h128]at hph;have HP2:=zhd hph;clear hph hk0 hk5;go_wp2;go_roundg k;case measure=>omega
        case rel=>exact⟨1,y1,y2,by go_num,by go_num,rfl,by omega,hy1b,λ_=>by omega,HP2.out,H4.o0,H4.l1⟩
       ·rw[if_neg h128]at hph;have HP2:=zhd hph;have hL:decide (128≤(c:Int))=false:=by simp;omega
        have hs1:decide ((2147483647:Int)<y2)=false:=by simp;omega
        have hs2:decide ((65536:Int)<y2)=false:=by simp;omega
        clear hph hk0 hk5;go_wp2;go_ret3;exact⟨H4.l1,.inr ⟨y1,y2,1,HP2.out.symm,hy1b,by omega,rfl,H4.o0⟩⟩
    ·have hph:=HT.out.2.2.1;rw[if_neg h0,<-hy]at hph;have hsz1:=hsz (by omega);have d0:((i:Int)==0)=false:=by simp;omega
     obtain⟨m,hm⟩:=zex (7*i-3);obtain⟨q,hq⟩:=zex (2^m);have hm25:m≤25:=by omega
     have hqb:q≤33554432:=by have:=qa3 (n:=2) (by decide) hm25;rw[hq];simpa using this
     have hor:=zce sz y m (by omega) (by rw[hm];exact hsz1) (by
      rw[<-hq]
      have:y*q≤127*q:=qcr _ (by omega)
      omega)
     rw[<-hm,<-hq]at hph hsz1;rw[<-hq]at hor;obtain⟨z,hz⟩:=zex (sz+y*q);rw[<-hz]at hph hor;have hyq:y*q≤127*q:=qcr _ (by omega);have hzb:z<4294967296∧(i<4→z<2^(7*(i+1)-3)):=by refine⟨by omega,λ_=>?_⟩;rw[show 7*(i+1)-3=m+7 by omega,qci,<-hq];omega
     have em:(7:Int)*(i:Int)-3=(m:Int):=by omega
     have ew:wrap64 ((7:Int)*(i:Int)-3)=(m:Int):=by unfold wrap64;omega
     have esh:wrap64 ((y:Int)*2^m)=(y:Int)*(q:Int):=by
      have e1:(y:Int)*2^m=((y*q:Nat):Int):=by rw[hq,qev,qd7];rfl
      rw[e1];unfold wrap64;omega
     have hor2:bits .or .i64 (sz:Int) (wrap64 ((y:Int)*2^(7*i-3)))=(z:Int):=by rw[<-hm,esh,hor]
     have hyb:y<128:=by omega
     have HP:=zhd4 hph hzb.2 hq hm;have hzb1:=hzb.1;clear hor em ew esh hm25 hqb;clear hm;clear hph hsz hsz1 hy hz hzb hyq hq;by_cases h128:128≤c
     ·have HP2:=zhd ((if_pos h128).symm.trans HP.out.1);go_wp2;go_roundg k;case measure=>omega
      case rel=>exact⟨i+1,kd,z,by go_num,by go_num,by go_num,by omega,hkd,λ_=>by
       by_cases hi4:i<4
       ·exact HP.out.2.1 hi4
       ·obtain rfl:i=4:=by omega
        exact hzb1,HP2.out,H3.o0,H3.o1⟩
     ·have hph:=(if_neg h128).symm.trans HP.out.1;have dL:decide (128≤(c:Int))=false:=by simp;omega
      by_cases hz3:2147483647<z
      ·have HP2:=zhd ((if_pos hz3).symm.trans hph);have d1:decide ((2147483647:Int)<z)=true:=by simp;omega
       clear hph;go_wp2;go_ret3;exact⟨H3.o1,.inl ⟨3,HP2.out.symm,by decide,by decide,rfl⟩⟩
      ·have hph:=(if_neg hz3).symm.trans hph;have d1:decide ((2147483647:Int)<z)=false:=by simp;omega
       by_cases hz5:65536<z
       ·have HP2:=zhd ((if_pos hz5).symm.trans hph);have d2:decide ((65536:Int)<z)=true:=by simp;omega
        clear hph;go_wp2;go_ret3;exact⟨H3.o1,.inl ⟨5,HP2.out.symm,by decide,by decide,rfl⟩⟩
       ·have HP2:=zhd ((if_neg hz5).symm.trans hph);have d2:decide ((65536:Int)<z)=false:=by simp;omega
        clear hph;go_wp2;go_ret3;exact⟨H3.o1,.inr ⟨kd,z,i+1,HP2.out.symm,hkd,by omega,rfl,H3.o0⟩⟩
   ·have ht:=qgb r a cap bs (at_+i) 1 wr hr H.o1 (by omega);have hbi:(bs.drop at_)[i]?=none:=by rw[qpw];exact qbo (by omega)
    rw[phF,hbi]at hph;have HT:=zhd3 ht hph hf;clear ht hbi hph hf hr hsz;go_wp2_with (go_at_call 43;refine HT.o0.mono ?_;rintro e w3 ⟨rfl,f3⟩);go_ret3;exact⟨HT.out.2.2.step f3 (by simp),.inl ⟨4,HT.l1.1.symm,by decide,by decide,rfl⟩⟩
  ·obtain rfl:i=5:=by omega
   obtain rfl:gk=0:=by omega
   rw[phF]at hph;have HT:=zhd2 hph hf;clear hph hf hr hsz;go_wp2;go_ret3;exact⟨HT.l1,.inl ⟨3,HT.o0.symm,by decide,by decide,rfl⟩⟩
def PBack (w:World) (r:Nat) (a:Option Addr) (cap:Nat) (bs:List UInt8) (at_:Nat) (P:Except Nat (Nat×Nat)) (e:Ending) (w':World):Prop:=
 Fr [r] w w'∧((∃x,P = .error x∧0<x∧x<100∧e = .returned (.tuple #[.int .i64 0,.int .i64 (x:Nat)]))∨
  ∃v n,P = .ok (v,n)∧v<68719476736∧e = .returned (.tuple #[.int .i64 (v:Nat),.int .i64 0])∧Rdr w' r a cap bs (at_+n))
theorem zad (r:Nat) (a:Option Addr) (cap:Nat) (bs:List UInt8) (at_:Nat) (w:World) (h:Rdr w r a cap bs at_) (hlen:bs.length≤100000000) :
  Calls Tryz.prog 74 #[.pointer (some ⟨r,0,none⟩)] w (PBack w r a cap bs at_ (pback (bs.drop at_))):=by
 obtain⟨P,hP⟩:=zex (pback (bs.drop at_));rw[<-hP];have hP0:pbF (bs.drop at_) 5 0 0=P:=hP.symm;have H:=zhd3 h hlen hP0;clear h hlen hP hP0;go_enter Tryz.func74,Tryz.ntmps74;go_upto_block 0 with fail;go_wp2;go_loopg [4,8] 5 (λk s4 s8 wr=>∃i v:Nat,s4 = .int .i64 (v:Nat)∧s8 = .int .i64 (i:Nat)∧i+k=5∧((i=0→v=0)∧(i=1→v≤127)∧(i=2→v≤16511)∧(i=3→v≤2113663)∧(i=4→v≤270549119)∧v≤34630287487)∧pbF (bs.drop at_) k i v=P∧Rdr wr r a cap bs (at_+i)∧Fr [r] w wr);case atStart=>exact⟨0,0,rfl,rfl,rfl,by decide,H.l2,H.o0,Fr.refl _ _⟩
 case round=>
  obtain⟨i,v,rfl,rfl,hik,hv,hph,hr,hf⟩:=hrel;by_cases hi:i<5
  ·obtain⟨k,rfl⟩:∃k,gk=k+1:=⟨gk-1,by omega⟩;by_cases hin:at_+i<bs.length
   ·have ht:=qej r a cap bs (at_+i) 1 wr hr H.o1 (by omega);obtain⟨g,o,rfl,hc⟩:=hr.rd.at hin;have hcap:=hr.rd.le;have hgr:=hr.off (λe=>by rw[e]at hin;simp at hin) g (by simp[blk]);have ec:cutAt (some ⟨g,o,none⟩) cap (at_+i)=some ⟨g,o+(at_+i),none⟩:=by unfold cutAt;rw[if_neg (by omega)];simp[qe6]
    rw[ec]at ht;obtain⟨p,hp⟩:=zex (o+(at_+i));rw[<-hp]at ht hc;have hbi:(bs.drop at_)[i]?=some bs[at_+i]:=by rw[qpw,qai hin]
    have hb:=qbc bs[at_+i];obtain⟨b,hbv⟩:=zex (bs[at_+i]);rw[<-hbv]at hc hbi hb;obtain⟨c,hcv⟩:=zex b.toNat;rw[<-hcv]at hc hb;rw[pbF,hbi]at hph;simp only[<-hcv]at hph;have HT:=zhd4 ht hc hf hgr;clear ht hc hf hgr hbi hbv hcv hr ec hcap hp;go_upto_region 6 with (go_at_call 43;refine HT.o0.mono ?_;rintro e w3 ⟨rfl,rd3,f3⟩);have hc3:=f3.cell HT.l1.1 (by simp;exact HT.out.2.2.2);have H3:=zhd2 rd3 (HT.out.2.2.1.trans f3);clear rd3 f3;have h127:=qp9 c hb;obtain⟨y,hy⟩:=zex (c%128);have hyb:y<128:=by omega
    rw[<-hy]at h127 hph;obtain⟨u,hu⟩:=zex (if 0<i then (v+1)*128 else 0);rw[<-hu]at hph;obtain⟨z,hz⟩:=zex (u+y);rw[<-hz]at hph;have hor:bits .or .i64 (u:Int) (y:Int)=(z:Int):=by
     by_cases h0:0<i
     ·rw[if_pos h0]at hu;have:=qm6 (v+1) y 7 (by decide) (by simpa using hyb) (by omega);rw[hz,hu];simpa using this
     ·rw[if_neg h0]at hu;rw[hz,hu,qgw 0 y (by decide) (by omega)];simp
    have hzv:(i+1=1→z≤127)∧(i+1=2→z≤16511)∧(i+1=3→z≤2113663)∧(i+1=4→z≤270549119)∧z≤34630287487:=by
     by_cases h0:0<i
     ·rw[if_pos h0]at hu;omega
     ·rw[if_neg h0]at hu;omega
    have HZ:=zhd2 hzv hph;have hzb:z≤34630287487:=by omega
    by_cases h0:i=0
    ·subst h0;obtain rfl:v=0:=by omega
     rw[if_neg (by decide)]at hu;subst hu;have hor2:bits .or .i64 0 (y:Int)=(z:Int):=hor;have hz127:z≤127:=by omega
     have HZ2:=zhd HZ.l1;clear hor hph hzv hz hy hv HZ;by_cases h128:c<128
     ·have HP2:=zhd ((if_pos h128).symm.trans HZ2.out);go_wp2;go_ret2;exact⟨H3.l1,.inr ⟨z,1,HP2.out.symm,by omega,rfl,H3.o0⟩⟩
     ·have HP2:=zhd ((if_neg h128).symm.trans HZ2.out);have dL:decide ((c:Int)<128)=false:=by simp;omega
      go_wp2;go_roundg k;case measure=>omega
      case rel=>exact⟨1,z,by go_num,by go_num,by omega,⟨by omega,λ_=>hz127,by omega,by omega,by omega,hzb⟩,HP2.out,H3.o0,H3.l1⟩
    ·have d0:decide ((0:Int)<(i:Int))=true:=by simp;omega
     have hu2:((v:Int)+1)*128=(u:Int):=by rw[if_pos (by omega)]at hu;omega
     have hor2:bits .or .i64 (((v:Int)+1)*128) (y:Int)=(z:Int):=by rw[hu2];exact hor
     have hvb:v≤270549119:=by omega
     clear hor hph hzv hz hy hv hu hu2;by_cases h128:c<128
     ·have HP2:=zhd ((if_pos h128).symm.trans HZ.l1);go_wp2;go_ret2;exact⟨H3.l1,.inr ⟨z,i+1,HP2.out.symm,by omega,rfl,H3.o0⟩⟩
     ·have HP2:=zhd ((if_neg h128).symm.trans HZ.l1);have dL:decide ((c:Int)<128)=false:=by simp;omega
      go_wp2;go_roundg k;case measure=>omega
      case rel=>exact⟨i+1,z,by go_num,by go_num,by omega,⟨by omega,HZ.o0⟩,HP2.out,H3.o0,H3.l1⟩
   ·have ht:=qgb r a cap bs (at_+i) 1 wr hr H.o1 (by omega);have hbi:(bs.drop at_)[i]?=none:=by rw[qpw];exact qbo (by omega)
    rw[pbF,hbi]at hph;have HT:=zhd3 ht hph hf;clear ht hbi hph hf hr;go_wp2_with (go_at_call 43;refine HT.o0.mono ?_;rintro e w3 ⟨rfl,f3⟩);go_ret2;exact⟨HT.out.2.2.step f3 (by simp),.inl ⟨4,HT.l1.1.symm,by decide,by decide,rfl⟩⟩
  ·obtain rfl:i=5:=by omega
   obtain rfl:gk=0:=by omega
   rw[pbF]at hph;have HT:=zhd2 hph hf;clear hph hf hr;go_wp2;go_ret2;exact⟨HT.l1,.inl ⟨3,HT.o0.symm,by decide,by decide,rfl⟩⟩
end Go.Proofs.YtkmpfgpfbmeihaaGreatDoor.pk
namespace Go.Proofs.YtkmpfgpfbmeihaaGreatDoor.crc
open Go Go.RowKit lib bm
theorem ofInt_u32 (a:Nat) (ha:a<4294967296):(BitVec.ofInt 32 (a:Int)).toNat=a:=by rw[BitVec.ofInt_natCast,BitVec.toNat_ofNat];exact qei (by omega)
theorem u32_xor (a b:Nat) (ha:a<4294967296) (hb:b<4294967296):bits .xor .u32 (a:Int) (b:Int)=((a ^^^ b:Nat):Int):=by have hx:=qwl ha hb;show IntKind.u32.wrap ((BitVec.ofInt 32 (a:Int) ^^^ BitVec.ofInt 32 (b:Int)).toNat:Int)=_;rw[BitVec.toNat_xor,ofInt_u32 a ha,ofInt_u32 b hb];unfold IntKind.wrap;simp only[IntKind.signed,IntKind.bits,zdf,qfe,if_false,show (2:Int)^32=4294967296 from rfl];omega
theorem zea (a:Nat) (ha:a<4294967296):bits .and .u32 (a:Int) 1=((a%2:Nat):Int):=by show IntKind.u32.wrap ((BitVec.ofInt 32 (a:Int) &&& BitVec.ofInt 32 ((1:Nat):Int)).toNat:Int)=_;rw[BitVec.toNat_and,ofInt_u32 a ha,ofInt_u32 1 (by decide),Nat.and_one_is_mod];unfold IntKind.wrap;simp only[IntKind.signed,IntKind.bits,zdf,qfe,if_false,show (2:Int)^32=4294967296 from rfl];omega
theorem qq7 (bs:List UInt8) {i:Nat} (hi:i<bs.length) (w:World):(Instr.index 9 (.string (str bs)) (.int .i64 i)).run Tryz.prog w = .ok (.int .u8 ((bs[i].toNat:Nat):Int)) w:=by
 have hs:(str bs).size=bs.length:=by simp[str,ByteArray.size]
 have e:=run_index_string (P:=Tryz.prog) w 9 (str bs) .i64 i Tryz.underlying9;rw[dif_pos ⟨by omega,by rw[hs];omega⟩]at e;simp only[qdm]at e;have h2:(str bs)[i]'(by rw[hs];exact hi)=bs[i]:=by show bs.toArray[i]'(by simpa using hi)=bs[i];simp
 rw[h2]at e;exact e
theorem zd9 (c:Nat) (hc:c<4294967296):bits .xor .u32 IntKind.u32.max (c:Int)=((4294967295-c:Nat):Int):=by show IntKind.u32.wrap ((BitVec.ofInt 32 4294967295 ^^^ BitVec.ofInt 32 (c:Int)).toNat:Int)=_;rw[show BitVec.ofInt 32 4294967295=BitVec.allOnes 32 by decide,BitVec.allOnes_xor,BitVec.toNat_not,ofInt_u32 c hc];unfold IntKind.wrap;simp only[IntKind.signed,IntKind.bits,zdf,qfe,if_false,show (2:Int)^32=4294967296 from rfl];omega
theorem qts (c:Nat):st c=if c%2=1 then (c/2) ^^^ poly else c/2:=rfl
end Go.Proofs.YtkmpfgpfbmeihaaGreatDoor.crc
namespace Go.Proofs.YtkmpfgpfbmeihaaGreatDoor.lib
open Go Go.RowKit
theorem qln {α:Type} (f:α→List Value) (c:Nat) (hf:∀x,(f x).length=c):∀l:List α,(l.flatMap f).length=l.length*c
 | []=>by simp
 | x::l=>by rw[qcl,qab,qln f c hf l,hf,qao,Nat.succ_mul];omega
theorem qih {α:Type} (f:α→List Value) (c:Nat) (hf:∀x,(f x).length=c):∀(l:List α) (i:Nat) (x:α) (j:Nat),l[i]?=some x→j<c→(l.flatMap f)[i*c+j]?=(f x)[j]?
 | [],i,x,j,h,_=>by simp at h
 | y::l,0,x,j,h,hj=>by
  simp only[qac,qaw]at h;subst h;rw[qcl,qj3,qbg,qcv (by rw[hf];exact hj)]
 | y::l,i+1,x,j,h,hj=>by rw[qcl,qdz (by rw[hf,Nat.succ_mul];omega),hf,Nat.succ_mul,show i*c+c+j-c=i*c+j by omega];exact qih f c hf l i x j (by simpa using h) hj
theorem Fr.setCells {S:List Nat} {a:World} {b:Nat} (hb:b∈S∨a.heap.size≤b):∀(vs:List Value) (o:Nat) {w:World},Fr S a w→Fr S a (w.setCells b o vs)
 | [],_,_,h=>h
 | v::r,o,w,h=>by rw[World.setCells];exact Fr.setCells hb r (o+1) (h.setCell (p:=⟨b,o,none⟩) hb v)
theorem Fr.setRow {S:List Nat} {a w:World} (h:Fr S a w) {g:Nat} (hg:g∈S∨a.heap.size≤g) (cs:Array Value):Fr S a (w.setRow g cs):=
 h.step (T:=[g]) ⟨rfl,rfl,rfl,by rw[setRow_size];exact qae _,λk _ hn=>setRow_other w g k cs (by simpa using hn)⟩ (by simpa using hg)
theorem qht {b:Nat} {t:TypeId} {f:Nat×Nat}:∀(vs:List Value) (o:Nat) (w:World) (C:Array Value),w.heap[b]?=some (.cells C t f)→
  ∃C',(w.setCells b o vs).heap[b]?=some (.cells C' t f)∧C'.size=C.size∧(∀i,i<o∨o+vs.length≤i→C'[i]?=C[i]?)∧(∀j v,vs[j]?=some v→o+j<C.size→C'[o+j]?=some v)
 | [],o,w,C,h=>⟨C,h,rfl,λ_ _=>rfl,λj v hv _=>by simp at hv⟩
 | v::r,o,w,C,h=>by
  rw[World.setCells];obtain⟨C',h1,h2,h3,h4⟩:=qht r (o+1) _ _ (qax (o:=o) h v);rw[qbf]at h2;refine⟨C',h1,h2,λi hi=>?_,λj u hu hj=>?_⟩
  ·simp only[qao]at hi;rw[h3 i (by omega),qaa (by omega)]
  ·cases j with
   | zero=>
    simp only[qac,qaw]at hu;subst hu;rw[qbn,h3 o (by omega),qal (by omega)]
   | succ j=>have:=h4 j u (by simpa using hu) (by rw[qbf];omega);rw[show o+(j+1)=o+1+j by omega];exact this
theorem qtn {w:World} {b:Nat} {C:Array Value} {t:TypeId} (h:w.heap[b]?=some (.cells C t (0,0))) (o n:Nat) (hn:o+n≤C.size):w.there b o n:=λj hj=>by refine⟨?_,qau h _⟩;rw[cell_of h,qb5 (by omega)];rfl
end Go.Proofs.YtkmpfgpfbmeihaaGreatDoor.lib
namespace Go.Proofs.YtkmpfgpfbmeihaaGreatDoor.crc
open Go Go.RowKit lib bm
theorem info256:(Tryz.prog.info? 186).map (·.size)=some 256:=by kernel_rfl
theorem qsb {fn:Func} {p:Tmp} (h:fn.results=#[.cell p 186]) (tmps:Array Value) (w:World) (g:Nat) (cs:Array Value) (fr:Nat×Nat)
  (hp:tmps.getD p undef = .pointer (some ⟨g,0,none⟩)) (hg:w.heap[g]?=some (.cells cs 186 fr)) (hs:cs.size=256):(results fn tmps).run Tryz.prog w = .ok (.agg cs) w:=
 results_cell_row h tmps w g 186 cs fr _ hp hg Tryz.underlying186 rfl (by rw[info256,hs])
def TabTo (C:Array Value) (n:Nat):Prop:=C.size=256∧∀i,i<n→C[i]?=some (.int .u32 (tb i:Nat))
theorem qwx (w:World):Calls Tryz.prog 131 #[] w λe w'=>∃C,e = .returned (.agg C)∧TabTo C 256∧Fr [] w w':=by
 go_enter Tryz.func131,Tryz.ntmps131;go_upto_block 0 with fail;obtain⟨B,w1,hB,hw1,hm⟩:∃B w1,B=w.heap.size∧w1=w.alloc (.cells Tryz.zeroCells186 186)∧(Fr [] w w1∧∃C,w1.heap[B]?=some (.cells C 186 (0,0))∧TabTo C 0):=⟨_,_,rfl,rfl,(Fr.refl [] w).alloc _,_,qay w _,by kernel_rfl,λi hi=>by omega⟩;rw[<-hw1,<-hB];have HM:=zhd2 hm hB;clear hm hw1 hB;go_wp2;go_loopg [3] 256 (λk s3 wr=>∃i:Nat,s3 = .int .i64 (i:Nat)∧i+k=256∧Fr [] w wr∧∃C,wr.heap[B]?=some (.cells C 186 (0,0))∧TabTo C i);case atStart=>exact⟨0,rfl,rfl,HM.o0⟩
 case round=>
  obtain⟨i,rfl,hik,hf,C,hC,hT⟩:=hrel;by_cases hi:i<256
  ·obtain⟨k,rfl⟩:∃k,gk=k+1:=⟨gk-1,by omega⟩;have H:=zhd3 hf hC hT;clear hf hC hT;go_upto_block 2 with fail;obtain⟨wo,hwo⟩:=zex wr;rw[<-hwo]at H ⊢;clear hwo;go_wp2;go_loopg [2,8] 8 (λk2 s2 s8 wq=>∃j y:Nat,s8 = .int .i64 (j:Nat)∧s2 = .int .u32 (y:Nat)∧j+k2=8∧y<4294967296∧tb i=stN (8-j) y∧wq=wo);case atStart=>exact⟨0,i,rfl,by go_num,rfl,by omega,rfl,rfl⟩
   case round=>
    obtain⟨j,y,rfl,rfl,hj,hy,he,rfl⟩:=hrel;have HE:=zhd he;clear he;by_cases h8:j<8
    ·obtain⟨k2,rfl⟩:∃k,gk=k+1:=⟨gk-1,by omega⟩;have hlow:=zea y hy;have hst:stN (8-j) y=stN (8-(j+1)) (st y):=by rw[show 8-j=8-(j+1)+1 by omega];rfl
     have HST:=zhd hst;have hl2:=zf4 hy;clear hst;by_cases hodd:y%2=1
     ·have hh:=u32_xor (y/2) poly (by omega) (by decide);have hsy:st y=(y/2) ^^^ poly:=by rw[qts,if_pos hodd]
      rw[<-hsy]at hh;unfold poly at hh;rw[show ((y/2:Nat):Int)=(y:Int)/2 by omega]at hh;rw[hodd]at hlow;have hand:bits .and .u32 3988292384 4294967295=3988292384:=by decide
      generalize st y=z at *;clear hsy;go_wp2;go_roundg k2;case measure=>omega
      case rel=>exact⟨j+1,z,by go_num,by go_num,by omega,hl2,by rw[HE.out,HST.out],rfl⟩
     ·have hsy:st y=y/2:=by rw[qts,if_neg hodd]
      rw[show y%2=0 by omega]at hlow;have hand:bits .and .u32 3988292384 0=0:=by decide
      have hh:=u32_xor (y/2) 0 (by omega) (by decide);rw[Nat.xor_zero,show ((y/2:Nat):Int)=(y:Int)/2 by omega]at hh;have HS:=zhd hsy;clear hsy hl2;go_wp2;go_roundg k2;case measure=>omega
      case rel=>exact⟨j+1,y/2,by go_num,by go_num,by omega,by omega,by rw[HE.out,HST.out,HS.out],rfl⟩
    ·obtain rfl:j=8:=by omega
     have hC:=H.out.2.1;have zC:=qau hC i;obtain⟨x0,hx0⟩:∃x,wr.cell? ⟨B,i,none⟩=some x:=⟨C[i]'(by rw[H.out.2.2.1];exact hi),by rw[cell_of hC];exact qb5 (by rw[H.out.2.2.1];exact hi)⟩;clear hC;go_wp2;go_roundg k;case measure=>omega
     case rel=>
      refine⟨i+1,by go_num,by omega,H.out.1.setCell (.inr (by rw[HM.l1];exact qae _)) _,_,qax H.out.2.1 _,by rw[qbf];exact H.out.2.2.1,λt ht=>?_⟩;by_cases e:t=i
      ·subst e;rw[qal (by rw[H.out.2.2.1];exact hi),HE.out];rfl
      ·rw[qaa (by omega)];exact H.out.2.2.2 t (by omega)
  ·obtain rfl:i=256:=by omega
   obtain rfl:gk=0:=by omega
   have H:=zhd3 hf hC hT;clear hf hT;have h1:C.all (·.oneCell')=true:=Array.all_eq_true_iff_forall_mem.2 λv hv=>by obtain⟨i,hi,rfl⟩:=Array.mem_iff_getElem.1 hv;have:=H.out.2.2.2 i (by rw[<-H.out.2.2.1];exact hi);rw[qb5 hi]at this;rw[qbm this];rfl
   have hsz:=H.out.2.2.1;have hi256:(Tryz.prog.info? 186).map (·.size)=some C.size:=by rw[info256,hsz]
   have HC:=zhd3 hC h1 hi256;clear hC h1 hi256;go_wp2_with (first|(refine wpList_load_row rfl 186 (.tmp 0) rfl B rfl _ C (0,0) _ HC.o0 Tryz.underlying186 rfl HC.l2 ?_)|(refine wpList_store_row rfl 186 (.tmp 0) (.tmp 22) rfl B C rfl rfl _ C HC.o0 HC.l2 rfl HC.o1 ?_));exact bodyPost_ret (qsb rfl _ _ B C (0,0) rfl (setRow_heap _ _ _ _ _ _ HC.o0) hsz) rfl ⟨C,rfl,H.out.2.2,H.out.1.setRow (.inr (by rw[HM.l1];exact qae _)) _⟩
def Cr (w:World) (g c:Nat):Prop:=
 ∃C,w.heap[g]?=some (.cells C 188 (0,0))∧C.size=267∧C[0]?=some (.int .i64 2)∧(∀i,i<256→C[8+i]?=some (.int .u32 (tb i:Nat)))∧C[264]?=some (.int .u32 (c:Nat))∧c<4294967296
theorem ofInt_u8 (a:Nat) (ha:a<256):(BitVec.ofInt 8 (a:Int)).toNat=a:=by rw[BitVec.ofInt_natCast,BitVec.toNat_ofNat];exact qei (by omega)
theorem u8_xor (a b:Nat) (ha:a<256) (hb:b<256):bits .xor .u8 (a:Int) (b:Int)=((a ^^^ b:Nat):Int):=by have hx:a ^^^ b<256:=Nat.xor_lt_two_pow (n:=8) ha hb;show IntKind.u8.wrap ((BitVec.ofInt 8 (a:Int) ^^^ BitVec.ofInt 8 (b:Int)).toNat:Int)=_;rw[BitVec.toNat_xor,ofInt_u8 a ha,ofInt_u8 b hb];unfold IntKind.wrap;simp only[IntKind.signed,IntKind.bits,zdf,qfe,if_false,show (2:Int)^8=256 from rfl];omega
theorem zeg {C:Array Value} (h:TabTo C 256):C.all (·.oneCell')=true:=Array.all_eq_true_iff_forall_mem.2 λv hv=>by obtain⟨i,hi,rfl⟩:=Array.mem_iff_getElem.1 hv;have:=h.2 i (by rw[<-h.1];exact hi);rw[qb5 hi]at this;rw[qbm this];rfl
theorem qz8 (w:World):Calls Tryz.prog 106 #[.int .i64 2] w λe w'=>e = .returned (.pointer (some ⟨w.heap.size,0,none⟩))∧Cr w' w.heap.size 4294967295∧Fr [] w w':=by
 go_enter Tryz.func106,Tryz.ntmps106;go_wp2_with (first
  | (go_at_call 131;refine (qwx _).mono ?_;rintro e w2 ⟨T,rfl,hT,f2⟩;have hC:=(show ∃C0:Array Value,w2.heap[w.heap.size]?=some (.cells C0 188 (0,0))∧C0.size=267∧C0[0]?=some (.int .i64 2)∧C0[264]?=some (.int .u32 (4294967295:Nat)) from ⟨_,f2.blk (qay w _) (by simp),rfl,rfl,rfl⟩);have fw:=((Fr.refl [] w).alloc _).trans f2;have hi:=(show (Tryz.prog.info? 186).map (·.size)=some T.size by rw[info256,hT.1]);have HT:=zhd4 hC fw hT hi;clear hC fw hT hi f2)
  | (obtain⟨C0,hC0,s1,s2,s3⟩:=HT.out.1;have HC:=zhd4 hC0 s1 s2 s3;clear hC0 s1 s2 s3;refine wpList_store_mid rfl 186 (.tmp 13) (.tmp 11) rfl w.heap.size 8 T rfl rfl (qtn HC.out.1 8 _ (by rw[HT.out.2.2.1.1,HC.out.2.1];decide)) HT.out.2.2.2 (zeg HT.out.2.2.1) ?_))
 go_ret;obtain⟨C',h1,h2,h3,h4⟩:=qht T.toList 8 w2 C0 HC.out.1;refine⟨rfl,⟨C',h1,by rw[h2];exact HC.out.2.1,by rw[h3 0 (by omega)];exact HC.out.2.2.1,λi hi=>h4 i _ (by rw[qbz];exact HT.out.2.2.1.2 i hi) (by rw[HC.out.2.1];omega),by rw[h3 264 (by rw[qj2,HT.out.2.2.1.1];omega)];exact HC.out.2.2.2,by decide⟩,Fr.setCells (.inr (qae _)) _ _ HT.out.2.1⟩
theorem qwp (g c0 cap:Nat) (ao:Option Addr) (bs:List UInt8) (w:World) (h:Cr w g c0) (hr:Rd w ao cap bs) (hng:bs≠[]→∀x∈blk ao,x≠g) :
  Calls Tryz.prog 94 #[.pointer (some ⟨g,0,none⟩),.slice ao bs.length cap] w λe w'=>e = .returned (.tuple #[])∧Fr [g] w w'∧Cr w' g (bs.foldl inb c0):=by
 obtain⟨C,hC,hsz,hc0,hrest⟩:=h;have z0:=cell_of hC 0;rw[hc0]at z0;obtain⟨L,hL⟩:=zex bs.length;have hle:=hr.le;have hmax:=hr.max;unfold maxLen at hmax;rw[<-hL]at hle ⊢;have H:=zhd4 (show Cr w g c0 from ⟨C,hC,hsz,hc0,hrest⟩) hr hng hL;clear hr hng hL hC hsz hc0 hrest;go_enter Tryz.func94,Tryz.ntmps94;go_upto_block 3 with fail;clear z0;go_wp2;go_loopg [5,63] L (λk s5 s63 wr=>∃i c:Nat,s63 = .int .i64 (i:Nat)∧i+k=L∧Cr wr g c∧Fr [g] w wr∧(bs.drop i).foldl inb c=bs.foldl inb c0);case atStart=>exact⟨0,c0,rfl,by omega,H.o0,Fr.refl _ _,rfl⟩
 case round=>
  obtain⟨i,c,rfl,hik,hA,hf,had⟩:=hrel;by_cases hi:i<L
  ·obtain⟨k,rfl⟩:∃k,gk=k+1:=⟨gk-1,by omega⟩;have hib:i<bs.length:=by rw[<-H.l3];exact hi
   have hrr:=qhj H.o1 hf (λhb x hx hm=>H.o2 hb x hx (by simpa using hm));obtain⟨g1,o1,rfl,cc⟩:=hrr.at hib;have hdr:bs.drop i=bs[i]::bs.drop (i+1):=qcg hib;rw[hdr,List.foldl_cons]at had;have hb256:=qbc bs[i];have htab:=zfi c bs[i];obtain⟨C,hC,hsz,hk0,htb,hcc,hcl⟩:=hA;have hzl:=zgk hcl bs[i];obtain⟨z,hz⟩:=zex (inb c bs[i]);rw[<-hz]at had htab hzl;generalize bs[i].toNat=b at *;obtain⟨j,hj⟩:=zex (c%256 ^^^ b);have hjl:j<256:=by rw[hj];exact Nat.xor_lt_two_pow (n:=8) (by omega) hb256
   have ex:=u8_xor (c%256) b (by omega) hb256;rw[<-hj,show ((c%256:Nat):Int)=(c:Int)%256 by omega]at ex;rw[<-hj]at htab;have htl:=zhb hjl;have ez:=u32_xor (c/256) (tb j) (by omega) htl;rw[<-htab,show ((c/256:Nat):Int)=(c:Int)/256 by omega]at ez;have ct:=cell_of hC (8+j);rw[htb j hjl]at ct;generalize tb j=tj at *;have ca:=cell_of hC 264;rw[hcc]at ca;have za:=qau hC 264;have HC:=zhd6 hC hsz hk0 htb hf had;clear hC hsz hk0 htb hf had htab hdr hrr hib hcc hz hj;go_upto_region 11 with fail;clear cc;refine qcu 21 (by kernel_rfl) (by kernel_rfl) ?_;simp only[qah,qan,qad,qaj];repeat (go_big_quiet_step (fail))
   refine wpQuiet_nil ?_;go_wp2;go_roundg k;case measure=>omega
   case rel=>have hC5:=qax (w:=wr.drew) (o:=264) (show wr.drew.heap[g]?=_ from HC.o0) (.int .u32 z);refine⟨i+1,z,by go_num,by omega,⟨_,hC5,by simp[HC.o1],by rw[qaa (by decide)];exact HC.o2,λt ht=>by rw[qaa (by omega)];exact HC.o3 t ht,qal (by rw[HC.o1];decide),hzl⟩,(HC.o4.trans (Fr.drew1 [g] wr)).setCell (by simp) _,HC.l5⟩
  ·obtain rfl:gk=0:=by omega
   obtain rfl:i=L:=by omega
   have hd:bs.drop i=[]:=qc3 (by rw[<-H.l3];exact qae _);rw[hd]at had;have HA:=zhd3 hA hf had;clear hA hf had hd;go_wp2;go_end0;exact⟨rfl,HA.o1,by rw[<-HA.l2];exact HA.o0⟩
theorem zek (g c:Nat) (w:World) (h:Cr w g c):Calls Tryz.prog 96 #[.pointer (some ⟨g,0,none⟩)] w λe w'=>(∃ao q,e = .returned (.slice ao 4 q)∧Rd w' ao q (sums.be4 (4294967295-c)))∧Fr [] w w':=by
 obtain⟨C,hC,hsz,hc0,_,hcc,hcl⟩:=h;have c0:=cell_of hC 0;have c1:=cell_of hC 264;rw[hc0]at c0;rw[hcc]at c1;obtain⟨z,hz⟩:=zex (4294967295-c);have r1:=zd9 c hcl;rw[<-hz]at r1;have hzl:z<4294967296:=by omega
 rw[<-hz];have HC:=zhd hC;clear hz hC hsz hc0 hcc;go_enter Tryz.func96,Tryz.ntmps96;go_upto_region 3 with fail;have hgl:=lt_of_block HC.out;obtain⟨B,hB⟩:=zex w.heap.size;have hgB:g∉[B]:=by simp;omega
 have s1:∀x,(sup [B] w.drew x).cell? ⟨g,264,none⟩=some (.int .u32 c):=λx=>(qcm [B] w.drew x).cell (show w.drew.cell? _=_ from c1) hgB
 have hmk:∀w:World,(Instr.makeSlice 23 (.int .i64 0) (.int .i64 4)).run Tryz.prog w = .ok (.slice (some ⟨w.heap.size,0,none⟩) 0 4) (w.alloc (.cells #[.int .u8 0,.int .u8 0,.int .u8 0,.int .u8 0] 5)):=λ_=>by kernel_rfl
 have hfo:∀w,Own w 5 (some ⟨B,0,none⟩) 4 (([]:List UInt8).map bv)→Calls Tryz.prog 119 #[.slice (some ⟨B,0,none⟩) 0 4,.int .u32 z] w (sums.Foured w (some ⟨B,0,none⟩) [] z):=λw h=>sums.qjs (some ⟨B,0,none⟩) 4 [] z w hzl h (by simp)
 unfold sums.Foured at hfo;simp only[qbi,qbg,qb4]at hfo;have HB:=zhd2 hB hfo;clear hB hfo c0 c1;refine qb3 8 [(false,1),(false,2),(false,3),(false,4),(false,5),(true,0),(true,6),(false,7)] [B] (by kernel_rfl) (by kernel_rfl) (λ_ _ d _ _ h=>by cases d<;>exact h) ?_;simp only[qak,qam,qaz,qa0,qad,qaj,qbk];refine qb0 5 rfl ?_;simp only[qah,qan,qad,qaj,qak,qam];repeat (go_big_quiet_step (fail))
 refine wpQuiet_nil ?_;refine qb6 rfl ?_;intro X hX;have hBd:w.drew.heap.size=B:=HB.o0.symm;go_wp2;have f1:Fr [B] w.drew ((w.alloc (.cells #[.int .u8 0,.int .u8 0,.int .u8 0,.int .u8 0] 5)).drew):=(Fr.refl [B] w.drew).alloc (.cells #[.int .u8 0,.int .u8 0,.int .u8 0,.int .u8 0] 5);have hown:Own ((w.alloc (.cells #[.int .u8 0,.int .u8 0,.int .u8 0,.int .u8 0] 5)).drew) 5 (some ⟨B,0,none⟩) 4 (([]:List UInt8).map bv):=.inr ⟨B,0,_,rfl,by rw[HB.o0];exact qay w _,qa5 _,by decide,qae _,rfl⟩;refine hX.out _ _ f1 ?_;clear hX X s1 hmk;generalize (w.alloc (.cells #[.int .u8 0,.int .u8 0,.int .u8 0,.int .u8 0] 5)).drew=w1 at *;have H1:=zhd2 (HB.l1 w1 hown) f1;clear hown f1 hBd;refine qb6 rfl ?_;intro X hX;go_wp2_with (go_at_call 119;refine H1.o0.mono ?_;rintro e w2 ⟨a2,c2,rfl,A2⟩);refine hX.out _ _ A2.fr ?_;clear hX X;have H2:=zhd A2;clear A2;refine qb0 1 rfl ?_;simp only[qah,qan,qad,qaj,qak,qam];repeat (go_big_quiet_step (fail))
 refine wpQuiet_nil ?_;refine qcq ?_;go_wp2;go_ret;have hr:Rd w2 a2 c2 (sums.be4 z):=H2.out.own.rd;refine⟨⟨a2,c2,rfl,hr.fr (by first|exact Fr.refl _ _|exact Fr.drewN _ _ _)⟩,?_⟩;have f2:Fr [] w w.drew:=Fr.drew1 [] w;exact ((f2.step H1.l1 (λy hy=>.inr (by simp at hy;rw[hy,HB.o0];exact qae _))).step H2.out.fr (λy hy=>.inr (by simp[blk]at hy;rw[hy,HB.o0];exact qae _)))
theorem qwr (a:Option Addr) (cap:Nat) (bs:List UInt8) (w:World) (h:Rd w a cap bs):Calls Tryz.prog 69 #[.int .i64 2,.slice a bs.length cap] w λe w'=>(∃ao c,e = .returned (.slice ao 4 c)∧Rd w' ao c (sums.be4 (crc bs)))∧Fr [] w w':=by have H:=zhd h;clear h;go_enter Tryz.func69,Tryz.ntmps69;go_upto_region 2 with (go_at_call 106;refine (qz8 _).mono ?_;rintro e w1 ⟨rfl,A1,f1⟩);have hw:=qwp w.heap.size 4294967295 cap a bs w1 A1 (H.out.fr f1) (λhb x hx=>by have:=qmj H.out hb x hx;omega);have H1:=zhd2 hw f1;clear hw f1 A1;go_upto_region 3 with (go_at_call 94;refine H1.o0.mono ?_;rintro e w2 ⟨rfl,f2,A2⟩);have hs:=zek _ _ w2 A2;have H2:=zhd2 hs f2;clear hs f2 A2;go_wp2_with (go_at_call 96;refine H2.o0.mono ?_;rintro e w3 ⟨⟨a3,c3,rfl,r3⟩,f3⟩);go_ret;exact⟨⟨a3,c3,rfl,r3⟩,(H1.l1.step H2.l1 (λy hy=>.inr (by simp at hy;rw[hy];exact qae _))).trans f3⟩
theorem zgz (bs:List UInt8):crc bs<4294967296:=by unfold crc;omega
theorem zfv (a:Option Addr) (cap:Nat) (bs:List UInt8) (w:World) (h:Rd w a cap bs):Calls Tryz.prog 76 #[.slice a bs.length cap] w λe w'=>e = .returned (.int .u32 (crc bs:Nat))∧Fr [] w w':=by
 have hw:=qwr a cap bs w h;have hn:=λa cap w h=>sums.qob a cap (crc bs) w (zgz bs) h
 have H:=zhd2 hw hn;clear hw hn h;go_enter Tryz.func76,Tryz.ntmps76;go_wp2_with (first|(go_at_call 69;refine H.o0.mono ?_;rintro e w1 ⟨⟨a1,c1,rfl,r1⟩,f1⟩;have H1:=zhd2 r1 f1;clear r1 f1)|(go_at_call 111;refine (H.l1 a1 c1 _ H1.o0).mono ?_;rintro e w2 ⟨rfl,f2⟩));go_ret;exact⟨rfl,H1.l1.trans f2⟩
end Go.Proofs.YtkmpfgpfbmeihaaGreatDoor.crc
