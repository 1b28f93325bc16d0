/-
  Texts of this proof, one behind the other: RfC, RfA, RfD, RfE, RfF.
-/
import Derived.Test.YtbabjlohkniciaaGreatDoorV21
set_option maxHeartbeats 16000000
set_option maxRecDepth 100000
set_option linter.unusedVariables false
set_option linter.unusedSimpArgs false
namespace Go.Proofs.YtbabjlohkniciaaGreatDoor.huf
open Go Go.RowKit lib bm bl
def ihit (ls:List Nat) (n v i:Nat):Bool:=decide (0<n)&&(lenAt ls i==n&&code ls i==v)
def imore (ls:List Nat) (n v i:Nat):Bool:=decide (n<lenAt ls i)&&code ls i/2^(lenAt ls i-n)==v
theorem qpj {α:Type} (p:α→Bool):∀(l:List α) (k:Nat),(∀x∈l.take k,p x=false)→l.find? p=(l.drop k).find? p
 | l,0,_=>rfl
 | [],k+1,_=>rfl
 | x::l,k+1,h=>by rw[qec,h x (by simp),qah];exact qpj p l k λy hy=>h y (by simp[hy])
theorem qub {ls:List Nat} {n v i:Nat} (hi:i<ls.length) (hn:∀j,j<i→ihit ls n v j=false) (h:ihit ls n v i=true):hsym ls n v=some i:=by
 unfold hsym;rw[qpj _ _ i (λx hx=>?_),qbm (by simpa using hi),List.getElem_range,qec]
 ·have h':=h;unfold ihit at h';rw[h']
 ·obtain⟨j,hj⟩:=List.getElem?_of_mem hx;rw[qbl]at hj;split at hj
  ·rename_i hji;rw[quw (by omega)]at hj;obtain rfl:=qa2 hj;exact hn _ hji
  ·cases hj
theorem zac {ls:List Nat} {n v:Nat} (hn:∀j,j<ls.length→ihit ls n v j=false):hsym ls n v=none:=by
 unfold hsym;refine qjq.2 λx hx=>?_
 have:=hn x (qdk.1 hx);unfold ihit at this;rw[this];decide
def smore (ls:List Nat) (n v i:Nat):Bool:=(List.range i).any (imore ls n v)
theorem qtj (ls:List Nat) (n v i:Nat):smore ls n v (i+1)=(smore ls n v i||imore ls n v i):=by unfold smore;rw[qjo,List.any_append];simp
theorem zad {ls:List Nat} {n v:Nat} (hle:∀l∈ls,l≤15) (h:hmore ls n v=true):n<15:=by unfold hmore at h;obtain⟨i,hi,h2⟩:=List.any_eq_true.1 h;simp only[qbf,decide_eq_true_eq]at h2;have h3:=hle _ (qdx (qdk.1 hi));omega
def Cu (w:World) (g:Nat) (ls:List Nat):Prop:=Cs w (some ⟨g,0,none⟩) ((codesOf ls).map λx=>.int .u32 (x:Nat))
theorem Cu.at {w:World} {g:Nat} {ls:List Nat} (h:Cu w g ls) {i:Nat} (hi:i<ls.length):w.cell? ⟨g,i,none⟩=some (.int .u32 (codeAt ls i:Nat)):=by obtain⟨g',o,e,hc⟩:=Cs.at h (by simp[codesOf];omega);simp only[qas,qcg,and_true]at e;obtain⟨rfl,rfl⟩:=e;have:=hc i (.int .u32 (codeAt ls i:Nat)) (by simp[codesOf,hi]);rwa [qbe]at this
theorem qvo (a:Option Addr) (cap:Nat) (ls:List Nat) (p:Nat) (F:List Nat) (bs:List UInt8) (at_:Nat) (w:World) (h:Ri w a cap ls) (hle:∀l∈ls,l≤15) (hlen:ls.length≤400) (hw:weight ls≤32768)
  (hr:bits.Rf w p F bs at_) (hap:∀x∈blk a,x≠p) (hF:∀x∈F,x<w.heap.size) (s m c:Nat) (hres:hread ls 15 0 0 ((bytesBits bs).drop at_)=(s,m,c)) :
  Calls Tryz.prog 186 #[.slice a ls.length cap,.pointer (some ⟨p,0,none⟩)] w λe w'=>e = .returned (.tuple #[.int .i64 s,.int .i64 c])∧bits.Rf w' p F bs (at_+m)∧Fr [p] w w':=by
 have hcd:=qtt a cap ls w h hle hlen hw;unfold RCodesGood at hcd;obtain⟨L,hL⟩:=zex ls.length;rw[<-hL]at hcd hlen ⊢;have hpF:p∈F:=by obtain⟨_,_,_,_,h,_⟩:=hr;rw[h];simp
 have H:=zhd8 h hle hL hcd hr hap (hF p hpF) hres;have HW:=zhd hw;clear h hle hL hcd hr hap hres hw hF hpF;go_enter Tryz.func186,Tryz.ntmps186;go_upto_region 2 with (go_at_call 204;refine H.out.2.2.2.1.mono ?_;rintro e w1 ⟨g,rfl,cu,hg1,hg2,f1⟩);have hcu:Cu w1 g ls:=cu;have hgp:g≠p:=λe=>by have:=H.out.2.2.2.2.2.2.1;omega
 have H1:=zhd4 hcu f1 hgp (bits.qf9 H.out.2.2.2.2.1 f1 (by simp));clear hcu cu hg1 hg2 f1 hgp;go_wp2;go_loopg [8,9,10,11] 16 (λk s8 s9 s10 s11 wr=>∃(n v:Nat),s9 = .int .u32 (v:Nat)∧s10 = .int .i64 (n:Nat)∧n+k=16∧0<k∧v<2^n∧bits.Rf wr p F bs (at_+n)∧Fr [p] w1 wr∧hread ls (15-n) n v ((bytesBits bs).drop (at_+n))=(s,m,c));case atStart=>exact⟨0,0,rfl,rfl,by omega,by omega,by decide,H1.l3,Fr.refl [p] _,H.out.2.2.2.2.2.2.2⟩
 case round=>
  obtain⟨n,v,rfl,rfl,hnk,hk0,hv,hrd,hf,hres⟩:=hrel;obtain⟨k,rfl⟩:∃k,gk=k+1:=⟨gk-1,by omega⟩;have hn15:n≤15:=by omega
  have hvb:v<65536:=qal hv (qan (qax (by decide) hn15) (by decide));have HR:=zhd5 hv hrd hf hres hnk;obtain⟨wo,hwo⟩:=zex wr;rw[<-hwo]at HR;clear hv hrd hf hres hnk hk0;go_upto_block 1 with fail;subst hwo;go_wp2;go_loopg [8,11] L (λj s8 s11 wi=>∃i:Nat,s11 = .int .i64 (i:Nat)∧s8 = .bool (smore ls n v i)∧i+j=L∧(∀t,t<i→ihit ls n v t=false)∧Fr [] wo wi);case atStart=>exact⟨0,rfl,rfl,by omega,λt ht=>by omega,Fr.refl _ _⟩
  case round=>
   obtain⟨i,rfl,rfl,hij,hnh,hfi⟩:=hrel;by_cases hi:i<L
   ·obtain⟨j,rfl⟩:∃j,gk=j+1:=⟨gk-1,by omega⟩;have hil:i<ls.length:=by rw[<-H.out.2.2.1];exact hi
    have fr1:Fr [p] w wr:=(H1.o1.mono (by simp)).trans (HR.o2.trans (hfi.mono (by simp)));obtain⟨ga,oa,rfl,hx⟩:=Ri.at ⟨H.out.1.cs.fr fr1 (λx hx=>by simpa using H.out.2.2.2.2.2.1 x hx),H.out.1.le,H.out.1.max,H.out.1.nil⟩ hil;have hcu:Cu wr g ls:=H1.o0.fr (HR.o2.trans (hfi.mono (by simp))) (by simpa[blk] using H1.o2);have hcc:=hcu.at hil;have hla:lenAt ls i=ls[i]:=by unfold lenAt;rw[qaf hil];rfl
    have h15:=H.out.2.1 _ (qb7 hil);have hcl:codeAt ls i<32768:=by
     unfold codeAt;split
     ·decide
     ·exact qal (qrf ls i H.out.2.1 HW.out (by omega)) (qan (qax (by decide) (show lenAt ls i≤15 by omega)) (by decide))
    obtain⟨y,hy⟩:=zex (codeAt ls i);obtain⟨x,hx'⟩:∃x,x=ls[i]:=⟨_,rfl⟩;rw[<-hy]at hcc hcl;rw[<-hx']at hx hla h15;have hhit:ihit ls n v i=(decide (0<n)&&(x==n&&y==v)):=by
     unfold ihit;rw[hla];by_cases h1:0<n
     ·by_cases h2:x=n
      ·have:y=code ls i:=by rw[hy];unfold codeAt;rw[if_neg (by omega)]
       rw[this]
      ·have:(x==n)=false:=by simpa using h2
       rw[this];simp
     ·have:decide (0<n)=false:=by simpa using h1
      rw[this];simp
    have hmr:imore ls n v i=(decide (n<x)&&y/2^(x-n)==v):=by
     unfold imore;rw[hla];by_cases h1:n<x
     ·have:y=code ls i:=by rw[hy];unfold codeAt;rw[if_neg (by omega)]
      rw[this]
     ·have:decide (n<x)=false:=by simpa using h1
      rw[this];simp
    have hsm:=qtj ls n v i;rw[hmr]at hsm;obtain⟨S0,hS0⟩:=zex (smore ls n v i);rw[<-hS0]at hsm ⊢;have HI:=zhd7 hnh hfi hhit hsm hS0 hil hij;clear hnh hfi hhit hmr hsm hS0 hil fr1 hcu hla hy hx' hij;go_upto_region 11 with fail;go_cut [44] from 27 to 44 (λs44 wc=>s44 = .bool (decide (0<n)&&(x==n&&y==v))∧wr=wc)
    case first=>
     by_cases e1:x=n
     ·have b1:((x:Int)==(n:Int))=true:=by simp;omega
      have b1':(x==n)=true:=by simp;omega
      by_cases e2:0<n
      ·have b2:decide ((0:Int)<(n:Int))=true:=by simp;omega
       have b2':decide (0<n)=true:=by simpa using e2
       by_cases e3:y=v
       ·have b3:((y:Int)==(v:Int))=true:=by simp;omega
        have b3':(y==v)=true:=by simp;omega
        go_wp2;go_meet;case rel=>exact⟨by rw[b1',b2',b3']<;>rfl,rfl⟩
       ·have b3:((y:Int)==(v:Int))=false:=by simp;omega
        have b3':(y==v)=false:=by simpa using e3
        go_wp2;go_meet;case rel=>exact⟨by rw[b1',b2',b3']<;>rfl,rfl⟩
      ·have b2:decide ((0:Int)<(n:Int))=false:=by simp;omega
       have b2':decide (0<n)=false:=by simpa using e2
       go_wp2;go_meet;case rel=>exact⟨by rw[b2']<;>rfl,rfl⟩
     ·have b1:((x:Int)==(n:Int))=false:=by simp;omega
      have b1':(x==n)=false:=by simpa using e1
      go_wp2;go_meet;case rel=>exact⟨by rw[b1',Bool.false_and,Bool.and_false]<;>rfl,rfl⟩
    case rest=>
     obtain⟨rfl,rfl⟩:=hcut;by_cases eh:(decide (0<n)&&(x==n&&y==v))=true
     ·rw[eh];have hh:=HI.out.2.2.1;rw[eh]at hh;have hres:=HR.o3;rw[qej (qub HI.out.2.2.2.2.2.1 HI.out.1 hh)]at hres;obtain⟨rfl,rfl,rfl⟩:i=s∧n=m∧0=c:=by simpa using hres
      clear hh hres eh;go_wp2;go_ret2;exact⟨rfl,bits.qf9 HR.o1 HI.out.2.1 (by simp),(H1.o1.mono (by simp)).trans (HR.o2.trans (HI.out.2.1.mono (by simp)))⟩
     ·have eh':(decide (0<n)&&(x==n&&y==v))=false:=by simpa using eh
      rw[eh'];have hh:=HI.out.2.2.1;rw[eh']at hh;have HN:=zhd hh;clear hh eh eh';go_upto_region 13 with fail;cases S0
      ·by_cases e1:n<x
       ·have b1:decide ((n:Int)<(x:Int))=true:=by simp;omega
        obtain⟨d,hd⟩:=zex (x-n);have ed:(x:Int)-(n:Int)=(d:Int):=by omega
        obtain⟨q,hq⟩:=zex (y/2^d);have hqq:(y:Int)/2^d=(q:Int):=by rw[hq];push_cast;rfl
        have hd15:d≤15:=by omega
        have hqb:q<32768:=by rw[hq];exact qf3 (Nat.div_le_self _ _) hcl
        by_cases e2:q=v
        ·have b2:((q:Int)==(v:Int))=true:=by simp;omega
         have HB:Go.RowKit.Hid ((false||(decide (n<x)&&y/2^(x-n)==v))=true):=zhd (by rw[<-hd,<-hq,e2];simp[e1]);clear hd hq e2;go_quiet (fail);clear hx hcc;go_wp2;go_roundg j;case measure=>have:=HI.out.2.2.2.2.2.2;omega
         case rel=>
          obtain⟨k1,k2,k3,k4,k5,k6,k7⟩:=HI.out;refine⟨i+1,by go_num,by rw[k4,HB.out],by omega,λt ht=>?_,k2.trans (Fr.drewN _ _ _)⟩;rcases qbq t i with q|q
          ·exact k1 t q
          ·rw[show t=i by omega];exact HN.out
        ·have b2:((q:Int)==(v:Int))=false:=by simp;omega
         have HB:Go.RowKit.Hid ((false||(decide (n<x)&&y/2^(x-n)==v))=false):=zhd (by rw[<-hd,<-hq];simp[e2]);clear hd hq e2;go_quiet (fail);clear hx hcc;go_wp2;go_roundg j;case measure=>have:=HI.out.2.2.2.2.2.2;omega
         case rel=>
          obtain⟨k1,k2,k3,k4,k5,k6,k7⟩:=HI.out;refine⟨i+1,by go_num,by rw[k4,HB.out],by omega,λt ht=>?_,k2.trans (Fr.drewN _ _ _)⟩;rcases qbq t i with q|q
          ·exact k1 t q
          ·rw[show t=i by omega];exact HN.out
       ·have b1:decide ((n:Int)<(x:Int))=false:=by simp;omega
        have HB:Go.RowKit.Hid ((false||(decide (n<x)&&y/2^(x-n)==v))=false):=zhd (by simp[e1]);go_quiet (fail);clear hx hcc;go_wp2;go_roundg j;case measure=>have:=HI.out.2.2.2.2.2.2;omega
        case rel=>
         obtain⟨k1,k2,k3,k4,k5,k6,k7⟩:=HI.out;refine⟨i+1,by go_num,by rw[k4,HB.out],by omega,λt ht=>?_,k2.trans (Fr.drewN _ _ _)⟩;rcases qbq t i with q|q
         ·exact k1 t q
         ·rw[show t=i by omega];exact HN.out
      ·have HB:Go.RowKit.Hid ((true||(decide (n<x)&&y/2^(x-n)==v))=true):=zhd (by simp);go_quiet (fail);clear hx hcc;go_wp2;go_roundg j;case measure=>have:=HI.out.2.2.2.2.2.2;omega
       case rel=>
        obtain⟨k1,k2,k3,k4,k5,k6,k7⟩:=HI.out;refine⟨i+1,by go_num,by rw[k4,HB.out],by omega,λt ht=>?_,k2.trans (Fr.drewN _ _ _)⟩;rcases qbq t i with q|q
        ·exact k1 t q
        ·rw[show t=i by omega];exact HN.out
   ·obtain rfl:i=L:=by omega
    have hnone:hsym ls n v=none:=zac λt ht=>hnh t (by rw[H.out.2.2.1];exact ht)
    have hsm:smore ls n v i=hmore ls n v:=by rw[H.out.2.2.1];rfl
    rw[hsm];have HM:=zhd3 hnone hfi (bits.qf9 HR.o1 hfi (by simp));clear hnone hfi hsm hnh hij;by_cases hm:hmore ls n v=true
    ·have hn14:n<15:=zad H.out.2.1 hm;rw[hm];have hres:=HR.o3;by_cases hq:at_+n<8*bs.length
     ·have hlf:=bits.qjx p F bs (at_+n) wr HM.out.2.2;have d1:((8*(bs.length:Int)-((at_+n:Nat):Int))==0)=false:=by simp;omega
      have hlb:(bytesBits bs).length=8*bs.length:=by simp[qbk]
      obtain⟨b,t,hbt⟩:∃b t,(bytesBits bs).drop (at_+n)=b::t:=by
       cases hd:(bytesBits bs).drop (at_+n) with
       | nil=>have:=congrArg List.length hd;rw[qau,hlb]at this;simp at this;omega
       | cons b t=>exact⟨b,t,rfl⟩
      have ht:(bytesBits bs).drop (at_+(n+1))=t:=by rw[<-qcu,<-za0,hbt];rfl
      have hbv:num bs/2^(at_+n)%2=b2n b:=by have:=qjt bs (at_+n) 1 (by omega);rw[Nat.pow_one]at this;rw[this,hbt];cases b<;>rfl
      rw[show 15-n=(15-(n+1))+1 by omega,hbt,qe4 HM.out.1 hm,<-ht]at hres;have hon:=λ(w':World) (hR:bits.Rf w' p F bs (at_+n))=>bits.qr1 p F bs (at_+n) w' hR hq
      rw[hbv]at hon;have HK:=zhd3 hlf hres hon;clear hlf hlb hbt ht hbv hres hon hm;go_upto_region 18 with (go_at_call 184;refine HK.out.1.mono ?_;rintro e w5 ⟨rfl,q5,rfl⟩;have H5:=zhd (bits.qf9 HM.out.2.2 (Fr.drewN [] wr q5) (by simp)));have hb2:=qm1 b;have hor:=zba v b hvb;clear d1;go_wp2_with (go_at_call 185;refine (HK.out.2.2 _ H5.out).mono ?_;rintro e w6 ⟨rfl,r6,f6⟩;have H6:=zhd2 r6 f6;clear r6 f6);go_roundg k;case measure=>have:=HR.l4;omega
      case rel=>have hnk:=HR.l4;exact⟨n+1,2*v+b2n b,by first|rfl|exact int_eq hor|(rw[hor]),by go_num,by omega,by omega,by rw[qcr];have:=HR.o0;omega,H6.o0,HR.o2.trans ((HM.out.2.1.mono (by simp)).trans ((Fr.drewN [p] _ _).trans H6.l1)),HK.out.2.1⟩
     ·have hlf:=bits.qjx p F bs (at_+n) wr HM.out.2.2;have hat:at_+n≤8*bs.length:=by obtain⟨_,_,_,_,_,_,_,hat,_,_⟩:=HM.out.2.2;exact hat
      have d1:((8*(bs.length:Int)-((at_+n:Nat):Int))==0)=true:=by simp;omega
      have hd:(bytesBits bs).drop (at_+n)=[]:=qed (by rw[qbk];omega);rw[show 15-n=(14-n)+1 by omega,hd,qfz HM.out.1 hm]at hres;obtain⟨rfl,rfl,rfl⟩:0=s∧n=m∧4=c:=by simpa using hres
      have HK:=zhd hlf;clear hlf hd hres hm hat;go_wp2_with (go_at_call 184;refine HK.out.mono ?_;rintro e w5 ⟨rfl,q5,rfl⟩);go_ret2;exact⟨rfl,bits.qf9 HM.out.2.2 (Fr.drewN [] wr q5) (by simp),(H1.o1.mono (by simp)).trans (HR.o2.trans ((HM.out.2.1.mono (by simp)).trans (Fr.drewN [p] _ _)))⟩
    ·have hm':hmore ls n v=false:=by simpa using hm
     rw[hm'];have hres:=HR.o3;rw[qf0 HM.out.1 hm']at hres;obtain⟨rfl,rfl,rfl⟩:0=s∧n=m∧3=c:=by simpa using hres
     clear hm hm' hres;go_wp2;go_ret2;exact⟨rfl,HM.out.2.2,(H1.o1.mono (by simp)).trans (HR.o2.trans (HM.out.2.1.mono (by simp)))⟩
end Go.Proofs.YtbabjlohkniciaaGreatDoor.huf
namespace Go.Proofs.YtbabjlohkniciaaGreatDoor.inf
open Go Go.RowKit lib bm bl huf
structure Sw (w:World) (R p:Nat) (F:List Nat) (bs:List UInt8) (at_:Nat) (out:List UInt8) (oa:Option Addr) (oc most E:Nat):Prop where
 box:w.heap[R]?=some (.cells #[.pointer (some ⟨p,0,none⟩),.slice oa out.length oc,.int .i64 most,.int .i64 E] 162 (0,0))
 rd:bits.Rf w p F bs at_
 own:w.ownsRow 0 5 1 (.slice oa out.length oc) out.length (out.map bv)
 r1:R∉F
 r2:R∉blk oa
 r3:∀x∈blk oa,x∉F
 low:∀x∈F,x<w.heap.size
 sm:most≤100000000
 sb:bs.length≤100000000
 om:out.length≤most
theorem Sw.fr {w w':World} {R p:Nat} {F S:List Nat} {bs out:List UInt8} {at_ oc most E:Nat} {oa:Option Addr} (h:Sw w R p F bs at_ out oa oc most E) (f:Fr S w w') (hR:R∉S) (hF:∀x∈F,x∉S) (ho:∀x∈blk oa,x∉S):Sw w' R p F bs at_ out oa oc most E:=
 ⟨f.blk h.box hR,bits.qf9 h.rd f hF,qa7 h.own f (λk hk=>ho k (by rw[<-qbp oa out.length oc,hk];simp)),h.r1,h.r2,h.r3,λx hx=>qal (h.low x hx) f.size,h.sm,h.sb,h.om⟩
theorem Sw.fr0 {w w':World} {R p:Nat} {F:List Nat} {bs out:List UInt8} {at_ oc most E:Nat} {oa:Option Addr} (h:Sw w R p F bs at_ out oa oc most E) (f:Fr [] w w'):Sw w' R p F bs at_ out oa oc most E:=h.fr f (by simp) (by simp) (by simp)
theorem Sw.pF {w:World} {R p:Nat} {F:List Nat} {bs out:List UInt8} {at_ oc most E:Nat} {oa:Option Addr} (h:Sw w R p F bs at_ out oa oc most E):p∈F∧at_≤8*bs.length:=by obtain⟨ao,cap,hr,hcs,rfl,hpb,hlen,hat,hcap,hmax⟩:=h.rd;exact⟨by simp,hat⟩
theorem Sw.take {w w':World} {R p:Nat} {F:List Nat} {bs out:List UInt8} {at_ a' oc most E:Nat} {oa:Option Addr} (h:Sw w R p F bs at_ out oa oc most E) (f:Fr [p] w w') (hr:bits.Rf w' p F bs a'):Sw w' R p F bs a' out oa oc most E:=by
 have hp:=h.pF.1;refine⟨f.blk h.box (by simp;rintro rfl;exact h.r1 hp),hr,qa7 h.own f (λk hk=>?_),h.r1,h.r2,h.r3,λx hx=>qal (h.low x hx) f.size,h.sm,h.sb,h.om⟩;have hk2:k∈blk oa:=by rw[<-qbp oa out.length oc,hk];simp
 simp;rintro rfl;exact h.r3 _ hk2 hp
theorem Sw.err {w:World} {R p:Nat} {F:List Nat} {bs out:List UInt8} {at_ oc most E:Nat} {oa:Option Addr} (h:Sw w R p F bs at_ out oa oc most E) (E':Nat):Sw (w.setCell ⟨R,3,none⟩ (.int .i64 (E':Nat))) R p F bs at_ out oa oc most E':=by
 have f:Fr [R] w (w.setCell ⟨R,3,none⟩ (.int .i64 (E':Nat))):=(Fr.refl [R] w).setCell (by simp) _;refine⟨qa0 h.box _,bits.qf9 h.rd f (λx hx=>by simp;rintro rfl;exact h.r1 hx),qa7 h.own f (λk hk=>?_),h.r1,h.r2,h.r3,λx hx=>qal (h.low x hx) f.size,h.sm,h.sb,h.om⟩;have hk2:k∈blk oa:=by rw[<-qbp oa out.length oc,hk];simp
 simp;rintro rfl;exact h.r2 hk2
theorem Sw.put {w1 w2:World} {R p n:Nat} {F:List Nat} {bs out:List UInt8} {at_ oc most cp2 E:Nat} {oa ao2:Option Addr} {c:UInt8} {o:Obj} (h:Sw w1 R p F bs at_ out oa oc most E) (hn:n=out.length) (hl:n<most)
  (A:Appended (w1.alloc o) w2 5 1 (blk oa) ao2 (n+1) cp2 (out.map bv++[bv c])) :
  Sw (w2.setCell ⟨R,1,none⟩ (.slice ao2 (n+1) cp2)) R p F bs at_ (out++[c]) ao2 cp2 most E∧Way w1 R p oa (w2.setCell ⟨R,1,none⟩ (.slice ao2 (n+1) cp2)) ao2:=by
 have f2:Fr (blk oa) w1 w2:=((Fr.refl _ w1).alloc _).trans A.fr;have fR:Fr [R] w2 (w2.setCell ⟨R,1,none⟩ (.slice ao2 (n+1) cp2)):=(Fr.refl [R] w2).setCell (by simp) _;have b2:=f2.blk h.box h.r2;have hRw:R<w1.heap.size:=lt_of_block h.box;have hR2:R∉blk ao2:=λhx=>by
  rcases A.at_ R hx with k|k
  ·exact h.r2 k
  ·rw[qav]at k;omega
 have e:(out++[c]).length=n+1:=by rw[hn];simp
 have hpF:=h.pF.1;refine⟨⟨?_,?_,?_,h.r1,hR2,λx hx hF=>?_,λx hx=>qal (h.low x hx) (qan f2.size fR.size),h.sm,h.sb,by rw[e];omega⟩,⟨?_,λx hx=>?_⟩⟩
 ·rw[qa0 b2,e];rfl
 ·exact bits.qf9 (bits.qf9 h.rd f2 (λx hx hb=>h.r3 x hb hx)) fR (λx hx hb=>by simp at hb;rw[hb]at hx;exact h.r1 hx)
 ·rw[e,qbt];exact qa7 A.own fR (λk hk=>by
   have hk2:k∈blk ao2:=by rw[<-qbp ao2 (n+1) cp2,hk];simp
   simp
   rintro rfl
   exact hR2 hk2)
 ·rcases A.at_ x hx with k|k
  ·exact h.r3 x k hF
  ·rw[qav]at k;have:=h.low x hF;omega
 ·exact (f2.mono (λx hx=>.inl (by simp[hx]))).trans (fR.mono (by simp))
 ·rcases A.at_ x hx with k|k
  ·exact .inl k
  ·rw[qav]at k;exact .inr (by omega)
theorem Way.ofR (w w':World) (R p:Nat) (oa:Option Addr) (f:Fr [R] w w'):Way w R p oa w' oa:=⟨f.mono (by simp),λ_ h=>.inl h⟩
theorem Way.ofRp (w w':World) (R p:Nat) (oa:Option Addr) (f:Fr [R,p] w w'):Way w R p oa w' oa:=⟨f.mono (by simp),λ_ h=>.inl h⟩
theorem qdt (R p:Nat) (F:List Nat) (bs out:List UInt8) (at_ oc most E c:Nat) (oa:Option Addr) (w:World) (h:Sw w R p F bs at_ out oa oc most E) :
  Calls Tryz.prog 103 #[.pointer (some ⟨R,0,none⟩),.int .i64 c] w λe w'=>e = .returned (.tuple #[])∧Sw w' R p F bs at_ out oa oc most (if E=0 then c else E)∧Fr [R] w w':=by
 have c3:=cell_of h.box 3;have z3:=qay h.box 3;simp only[qae,qaa,qad]at c3;have H:=zhd h;clear h;by_cases h0:E=0
 ·subst h0;go_enter Tryz.func103,Tryz.ntmps103;go_wp2;go_end0;exact⟨rfl,by first|exact H.out.err c|(rw[if_pos rfl];exact H.out.err c),(Fr.refl [R] w).setCell (by simp) _⟩
 ·have d0:((E:Int)==0)=false:=by simp;omega
  go_enter Tryz.func103,Tryz.ntmps103;go_wp2;go_end0;exact⟨rfl,by first|exact H.out|(rw[if_neg h0];exact H.out),Fr.refl _ _⟩
def TakeR (w:World) (R p:Nat) (F:List Nat) (bs out:List UInt8) (oa:Option Addr) (oc most:Nat) (m:Except Nat (Nat×Nat)) (e:Ending) (w':World):Prop:=
 (∃a,m = .error 4∧e = .returned (.int .i64 0)∧Sw w' R p F bs a out oa oc most 4∧Fr [R,p] w w')∨
 (∃v a,m = .ok (v,a)∧e = .returned (.int .i64 (v:Nat))∧Sw w' R p F bs a out oa oc most 0∧Fr [R,p] w w')
theorem qdd (R p:Nat) (F:List Nat) (bs out:List UInt8) (at_ oc most n:Nat) (oa:Option Addr) (w:World) (h:Sw w R p F bs at_ out oa oc most 0) (hn:n≤31) :
  Calls Tryz.prog 98 #[.pointer (some ⟨R,0,none⟩),.int .i64 n] w (TakeR w R p F bs out oa oc most (itake bs at_ n)):=by
 have c0:=cell_of h.box 0;simp only[qae,qaa,qad]at c0;have H:=zhd h;clear h;by_cases hl:at_+n≤8*bs.length
 ·have hv:bval (((bytesBits bs).drop at_).take n)<4294967296:=qal (qd9 _ _) (qan (qax (by decide) (show n≤32 by omega)) (by decide));obtain⟨v,hv2⟩:=zex (bval (((bytesBits bs).drop at_).take n));have ht:=bits.ql8 p F bs at_ n w H.out.rd (by omega) (by omega) (by omega);rw[qc8,qjt bs at_ n hl,<-hv2]at ht;have e:itake bs at_ n = .ok (v,at_+n):=by unfold itake;rw[if_pos hl,hv2]
  rw[e];rw[<-hv2]at hv;have HT:=zhd ht;clear ht hv2 e;go_enter Tryz.func98,Tryz.ntmps98;go_wp2_with (go_at_call 146;refine HT.out.mono ?_;rintro e w1 ⟨rfl,hr,f1⟩);go_ret;exact .inr ⟨v,at_+n,rfl,rfl,H.out.take f1 hr,f1.mono (by simp)⟩
 ·have ht:=bits.qou p F bs at_ n w H.out.rd (.inr (.inr (by omega)));have e:itake bs at_ n = .error 4:=by unfold itake;rw[if_neg hl]
  rw[e];have HT:=zhd ht;clear ht e;go_enter Tryz.func98,Tryz.ntmps98;go_upto_region 2 with (go_at_call 146;refine HT.out.mono ?_;rintro e w1 ⟨rfl,hr,f1⟩);have S1:Sw w1 R p F bs at_ out oa oc most 0:=H.out.take (f1.mono (by simp)) hr;have c3:=cell_of S1.box 3;have z3:=qay S1.box 3;simp only[qae,qaa,qad]at c3;have HS:=zhd2 S1 f1;clear S1 hr f1;go_wp2;go_ret;exact .inl ⟨at_,rfl,rfl,HS.o0.err 4,(HS.l1.mono (by simp)).trans ((Fr.refl [R,p] w1).setCell (by simp) _)⟩
theorem qvn (R p:Nat) (F:List Nat) (bs out:List UInt8) (at_ oc most n E:Nat) (oa:Option Addr) (w:World) (h:Sw w R p F bs at_ out oa oc most E) (hE:E≠0) (hn:n≤31) :
  Calls Tryz.prog 98 #[.pointer (some ⟨R,0,none⟩),.int .i64 (n:Nat)] w λe w'=>∃v a:Nat,e = .returned (.int .i64 (v:Nat))∧v<2147483648∧Sw w' R p F bs a out oa oc most E∧Fr [R,p] w w':=by
 have c0:=cell_of h.box 0;simp only[qae,qaa,qad]at c0;have d0:((E:Int)==0)=false:=by simp;omega
 have H:=zhd h;clear h;by_cases hl:at_+n≤8*bs.length
 ·have hv:bval (((bytesBits bs).drop at_).take n)<2147483648:=qal (qd9 _ _) (qan (qax (by decide) hn) (by decide));obtain⟨v,hv2⟩:=zex (bval (((bytesBits bs).drop at_).take n));have ht:=bits.ql8 p F bs at_ n w H.out.rd (by omega) (by omega) (by omega);rw[qc8,qjt bs at_ n hl,<-hv2]at ht;rw[<-hv2]at hv;have HT:=zhd ht;clear ht hv2;go_enter Tryz.func98,Tryz.ntmps98;go_wp2_with (go_at_call 146;refine HT.out.mono ?_;rintro e w1 ⟨rfl,hr,f1⟩);go_ret;exact⟨v,at_+n,rfl,hv,H.out.take f1 hr,f1.mono (by simp)⟩
 ·have ht:=bits.qou p F bs at_ n w H.out.rd (.inr (.inr (by omega)));have HT:=zhd ht;clear ht;go_enter Tryz.func98,Tryz.ntmps98;go_upto_region 2 with (go_at_call 146;refine HT.out.mono ?_;rintro e w1 ⟨rfl,hr,f1⟩);have S1:Sw w1 R p F bs at_ out oa oc most E:=H.out.take (f1.mono (by simp)) hr;have c3:=cell_of S1.box 3;simp only[qae,qaa,qad]at c3;have HS:=zhd2 S1 f1;clear S1 hr f1;go_wp2;go_ret;exact⟨0,at_,rfl,by decide,HS.o0,HS.l1.mono (by simp)⟩
def RetW (w:World) (R p:Nat) (F:List Nat) (bs:List UInt8) (oa:Option Addr) (most:Nat) (m:Except Nat (List UInt8×Nat)) (w':World):Prop:=
 ∃a out oa' oc' E,Sw w' R p F bs a out oa' oc' most E∧Way w R p oa w' oa'∧((m = .error E∧0<E∧E<100)∨(m = .ok (out,a)∧E=0))
theorem qrz (R p:Nat) (F:List Nat) (bs out:List UInt8) (at_ oc most:Nat) (oa:Option Addr) (c:UInt8) (w:World) (h:Sw w R p F bs at_ out oa oc most 0) :
  Calls Tryz.prog 148 #[.pointer (some ⟨R,0,none⟩),.int .u8 (c.toNat:Nat)] w λe w'=>e = .returned (.tuple #[])∧RetW w R p F bs oa most ((iput most out c).map λo=>(o,at_)) w':=by
 have c1:=cell_of h.box 1;have c2:=cell_of h.box 2;simp only[qae,qaa,qad]at c1 c2;obtain⟨n,hn⟩:=zex out.length;have hs:=h.sm;rw[<-hn]at c1;have H:=zhd2 h hn;clear h;by_cases hl:most≤n
 ·have e:iput most out c = .error 5:=by unfold iput;rw[if_pos (by omega)]
  rw[e];have hfl:=λw' (f:Fr [] w w')=>qdt R p F bs out at_ oc most 0 5 oa w' (H.o0.fr0 f)
  have HF:=zhd hfl;clear e hn hfl;go_enter Tryz.func148,Tryz.ntmps148;go_upto_region 0 with fail;go_quiet (fail);go_wp2_with (go_at_call 103;refine (HF.out _ (Fr.drewN _ _ _)).mono ?_;rintro e w1 ⟨rfl,S1,f1⟩);refine bodyPost_ret (results_none rfl _ _ _) rfl ?_;exact⟨rfl,at_,out,oa,oc,5,S1,(Way.of0 _ _ _ _ _ (Fr.drewN _ _ _)).trans (Way.ofR _ _ _ _ _ f1),.inl ⟨rfl,by decide,by decide⟩⟩
 ·have e:iput most out c = .ok (out++[c]):=by unfold iput;rw[if_neg (by omega)]
  rw[e];clear e hn;go_enter Tryz.func148,Tryz.ntmps148;go_upto_region 0 with fail;go_quiet (fail);obtain⟨w1,hw1⟩:=zex (w.drewN nq);have f1:Fr [] w w1:=by rw[hw1];exact .drewN _ _ _
  have S1:=H.o0.fr0 f1;have c1':=f1.cell c1 (by simp);rw[<-hw1];clear hw1 c1 c2;have HS:=zhd2 f1 S1;clear f1 S1;go_wp2_with (at_builtin;go_loud (refine qa5 bits.sliceU8 rfl _ _ rfl (.slice oa n oc) n (out.map bv) (blk oa) rfl (qbp oa n oc) (by rw[H.l1];exact qa7 HS.l1.own ((Fr.refl [] w1).alloc _) (by simp)) (some ⟨w1.heap.size,0,none⟩) 1 1 [bv c] (by first|rfl|simp) (qag _) (λh=>by cases h) (qdu _ _ _ _ (qa4 _ _)) rfl (by intro u hu;simp only[qaz]at hu;rw[hu];rfl) (by omega) (by unfold maxLen;omega) ?_);intro ao2 cp2 w2 A2;have f2:Fr (blk oa) w1 w2:=(Fr.refl _ w1).trans (((Fr.refl _ w1).alloc _).trans A2.fr);have b2:=f2.blk HS.l1.box H.o0.r2;have z1:=qay b2 1;have d1:=cell_of b2 1;rw[<-H.l1]at d1;simp only[qae,qaa,qad]at d1;have HA:=zhd3 A2 f2 b2;clear A2 f2 b2 c1');go_end0;have hP:=HS.l1.put H.l1 (by omega) HA.o0;exact⟨rfl,_,_,ao2,cp2,0,hP.1,(Way.of0 _ _ _ _ _ HS.o0).trans hP.2,.inr ⟨rfl,rfl⟩⟩
def SymR (w:World) (R p:Nat) (F:List Nat) (bs out:List UInt8) (oa:Option Addr) (oc most:Nat) (m:Except Nat (Nat×Nat)) (e:Ending) (w':World):Prop:=
 (∃a c,m = .error c∧0<c∧c<100∧e = .returned (.int .i64 0)∧Sw w' R p F bs a out oa oc most c∧Fr [R,p] w w')∨
 (∃v a,m = .ok (v,a)∧e = .returned (.int .i64 (v:Nat))∧Sw w' R p F bs a out oa oc most 0∧Fr [R,p] w w')
theorem qpe (ls:List Nat):∀(f n v:Nat) (bits:List Bool),(hread ls f n v bits).2.2≠0→(hread ls f n v bits).1=0
 | 0,n,v,bits,h=>by
  cases hs:hsym ls n v with
  | some s=>rw[qej hs]at h;exact absurd rfl h
  | none=>rw[qid hs]
 | f+1,n,v,bits,h=>by
  cases hs:hsym ls n v with
  | some s=>rw[qej hs]at h;exact absurd rfl h
  | none=>
   by_cases hm:hmore ls n v=true
   ·cases bits with
    | nil=>rw[qfz hs hm]
    | cons b t=>rw[qe4 hs hm]at h ⊢;exact qpe ls f (n+1) _ t h
   ·rw[qf0 hs (by simpa using hm)]
theorem qqc (R p:Nat) (F:List Nat) (bs out:List UInt8) (at_ oc most:Nat) (oa:Option Addr) (a:Option Addr) (cap:Nat) (ls:List Nat) (w:World) (h:Sw w R p F bs at_ out oa oc most 0) (hl:Ri w a cap ls) (hle:∀l∈ls,l≤15) (hlen:ls.length≤400) (hw:weight ls≤32768) (hap:∀x∈blk a,x≠p) :
  Calls Tryz.prog 149 #[.pointer (some ⟨R,0,none⟩),.slice a ls.length cap] w (SymR w R p F bs out oa oc most (isym bs ls at_)):=by
 have c0:=cell_of h.box 0;have c3:=cell_of h.box 3;simp only[qae,qaa,qad]at c0 c3;have hsp:=qg9 ls 15 0 0 ((bytesBits bs).drop at_);have hbd:=qpe ls 15 0 0 ((bytesBits bs).drop at_);obtain⟨r,hr0⟩:=zex (hread ls 15 0 0 ((bytesBits bs).drop at_));unfold isym;rw[<-hr0]at hsp hbd ⊢;obtain⟨s,m,c⟩:=r;have hrd:=qvo a cap ls p F bs at_ w hl hle hlen hw h.rd hap h.low s m c hr0.symm;simp only at hsp hbd ⊢;obtain⟨L,hL⟩:=zex ls.length;rw[<-hL]at hrd ⊢;obtain⟨M,hM⟩:∃M:Except Nat (Nat×Nat),M=if c=0 then .ok (s,at_+m) else .error c:=⟨_,rfl⟩
 rw[<-hM];have HM:=zhd hM;clear hM;have H:=zhd4 h hrd hsp hbd;clear h hl hle hap hr0 hrd hsp hbd hw hL hlen;have hc4:c=0∨c=3∨c=4:=H.o2.1;go_enter Tryz.func149,Tryz.ntmps149;go_upto_region 4 with (go_at_call 186;refine H.o1.mono ?_;rintro e w1 ⟨rfl,hr,f1⟩);have S1:Sw w1 R p F bs (at_+m) out oa oc most 0:=H.o0.take f1 hr;have HS:=zhd3 S1 f1 (qdt R p F bs out (at_+m) oc most 0 c oa w1 S1);clear S1 hr f1 c0 c3;go_wp2_with (go_at_call 103;refine HS.l2.mono ?_;rintro e w2 ⟨rfl,S2,f2⟩;have HS2:=zhd2 S2 f2;clear S2 f2);go_ret;have f3:Fr [R,p] w w2:=(HS.o1.mono (by simp)).trans (HS2.l1.mono (by simp));have S3:Sw w2 R p F bs (at_+m) out oa oc most c:=HS2.o0;by_cases hc:c=0
 ·subst hc;exact .inr ⟨s,at_+m,by rw[HM.out,if_pos rfl],rfl,S3,f3⟩
 ·have hs0:s=0:=H.l3 hc;subst hs0;exact .inl ⟨at_+m,c,by rw[HM.out,if_neg hc],by omega,by omega,rfl,S3,f3⟩
def bw (k g st:Nat):Nat:=if k<st then 0 else (k-st)/g+1
def bsum (first g st:Nat):Nat→Nat
 | 0=>first
 | k+1=>bsum first g st k+2^bw k g st
theorem qs6 (k g st:Nat) (w:World) (hk:k≤30) (hg:2≤g) (hg2:g≤4) (hs:st≤8) :
  Calls Tryz.prog 205 #[.int .i64 k,.int .i64 g,.int .i64 st] w λe w'=>e = .returned (.int .i64 (bw k g st:Nat))∧w'=w:=by
 by_cases h:k<st
 ·go_enter Tryz.func205,Tryz.ntmps205;go_wp2;go_ret;exact⟨by unfold bw;rw[if_pos h];rfl,rfl⟩
 ·obtain⟨d,hd⟩:=zex (k-st);have e1:(k:Int)-(st:Int)=(d:Int):=by omega
  have hb:bw k g st=d/g+1:=by unfold bw;rw[if_neg h,hd]
  have hdb:d/g≤30:=qan (Nat.div_le_self _ _) (by omega);have e2:(d:Int)/(g:Int)=((d/g:Nat):Int):=by push_cast;rfl
  obtain⟨q,hq⟩:=zex (d/g);rw[<-hq]at hb hdb e2;have e3:Int.tdiv (d:Int) (g:Int)=(q:Int):=by rw[Int.tdiv_eq_ediv_of_nonneg (by omega)];exact e2
  rw[hb];have g0:((g:Int)==0)=false:=by simp;omega
  clear hd hq hb;go_enter Tryz.func205,Tryz.ntmps205;go_wp2;go_ret;exact⟨by first|rfl|go_num,rfl⟩
theorem zd0 {k g st:Nat} (hk:k≤30) (hg:2≤g):bw k g st≤16:=by
 unfold bw;split
 ·omega
 ·have:(k-st)/g≤(k-st)/2:=Nat.div_le_div_left hg (by decide);omega
theorem qye {first g st:Nat} (hg:2≤g):∀k,k≤31→bsum first g st k≤first+k*65536
 | 0,_=>by simp[bsum]
 | k+1,h=>by have:=qye (first:=first) (st:=st) hg k (by omega);have h2:2^bw k g st≤65536:=qan (qax (by decide) (zd0 (by omega) hg)) (by decide);rw[bsum];omega
theorem qs7 (first k g st:Nat) (w:World) (hf:first≤3) (hk:k≤30) (hg:2≤g) (hg2:g≤4) (hs:st≤8) :
  Calls Tryz.prog 187 #[.int .i64 first,.int .i64 k,.int .i64 g,.int .i64 st] w λe w'=>e = .returned (.tuple #[.int .i64 (bsum first g st k:Nat),.int .i64 (bw k g st:Nat)])∧w=w':=by
 obtain⟨A0,hA0⟩:∃A,A=bsum first g st k:=⟨_,rfl⟩
 obtain⟨b0,hb0⟩:∃b,b=bw k g st:=⟨_,rfl⟩;rw[<-hA0,<-hb0];have H0:=zhd2 hA0 hb0;clear hA0 hb0;go_enter Tryz.func187,Tryz.ntmps187;go_wp2;go_loopg [10,11] k (λj s10 s11 wr=>∃i:Nat,s11 = .int .i64 (i:Nat)∧s10 = .int .i64 (bsum first g st i:Nat)∧i+j=k∧w=wr);case atStart=>exact⟨0,rfl,rfl,by omega,rfl⟩
 case round=>
  obtain⟨i,rfl,rfl,hij,rfl⟩:=hrel;have hbl:=qye (first:=first) (st:=st) hg i (by omega);by_cases hi:i<k
  ·obtain⟨j,rfl⟩:∃j,gk=j+1:=⟨gk-1,by omega⟩;have hst:bsum first g st (i+1)=bsum first g st i+2^bw i g st:=rfl
   have hbw:=zd0 (k:=i) (st:=st) (by omega) hg;have hcl:=qs6 i g st w (by omega) hg hg2 hs;obtain⟨z,hz⟩:=zex (2^bw i g st);have hzb:z≤65536:=by rw[hz];exact qan (qax (by decide) hbw) (by decide)
   have e2:(2:Int)^(bw i g st)=(z:Int):=by rw[hz];exact qd2 _
   rw[<-hz]at hst;generalize bsum first g st i=A at *
   generalize bw i g st=b at *;have HC:=zhd2 hcl hst;clear hcl hst hz;go_wp2_with (go_at_call 205;refine HC.out.1.mono ?_;rintro e w1 ⟨rfl,rfl⟩);go_roundg j;case measure=>omega
   case rel=>exact⟨i+1,by go_num,by rw[HC.out.2];first|go_num|rfl,by omega,rfl⟩
  ·obtain rfl:i=k:=by omega
   have hcl:=qs6 i g st w hk hg hg2 hs;rw[<-H0.l1]at hcl;rw[<-H0.o0]at hbl ⊢;have HC:=zhd hcl;clear hcl;go_wp2_with (go_at_call 205;refine HC.out.mono ?_;rintro e w1 ⟨rfl,rfl⟩);go_ret2;exact⟨rfl,rfl⟩
def ln (s:Nat):Nat:=if s=285 then 258 else bsum 3 4 8 (s-257)
def lk (s:Nat):Nat:=if s=285 then 0 else bw (s-257) 4 8
theorem take_zero {bs:List UInt8} {a:Nat} (h:a≤8*bs.length):itake bs a 0 = .ok (0,a):=by unfold itake;rw[if_pos (by omega)];rfl
theorem qwl:∀s:Fin 286,257≤s.val→(s.val<265→ln s.val=s.val-254∧lk s.val=0)∧(¬s.val<265→s.val≠285→ln s.val=3+(4+(s.val-265)%4)*2^((s.val-261)/4)∧lk s.val=(s.val-261)/4)∧ln s.val≤258∧lk s.val≤5:=by decide +kernel
theorem qxp:∀t:Fin 30,(t.val<4→bsum 1 2 4 t.val=t.val+1∧bw t.val 2 4=0)∧(¬t.val<4→bsum 1 2 4 t.val=1+(2+t.val%2)*2^((t.val-2)/2)∧bw t.val 2 4=(t.val-2)/2)∧bsum 1 2 4 t.val≤24577∧bw t.val 2 4≤13:=by decide +kernel
theorem qt9 {bs:List UInt8} {s a:Nat} (h1:257≤s) (h2:s<286) (ha:a≤8*bs.length) :
  ilength bs s a=match itake bs a (lk s) with | .error e=>.error e | .ok (v,a1)=>.ok (ln s+v,a1):=by
 obtain⟨k1,k2,_,_⟩:=qwl ⟨s,h2⟩ h1;unfold ilength;by_cases h3:s<265
 ·obtain⟨e1,e2⟩:=k1 h3;rw[if_pos h3,e1,e2,take_zero ha];dsimp only;rw[qb5]
 ·rw[if_neg h3];by_cases h4:s=285
  ·subst h4;rw[if_pos rfl,show lk 285=0 from if_pos rfl,show ln 285=258 from if_pos rfl,take_zero ha]
  ·obtain⟨e1,e2⟩:=k2 h3 h4;rw[if_neg h4,e1,e2];rfl
theorem zaa {bs:List UInt8} {t a:Nat} (h2:t<30) (ha:a≤8*bs.length) :
  idist bs t a=match itake bs a (bw t 2 4) with | .error e=>.error e | .ok (v,a1)=>.ok (bsum 1 2 4 t+v,a1):=by
 obtain⟨k1,k2,_,_⟩:=qxp ⟨t,h2⟩;unfold idist;by_cases h3:t<4
 ·obtain⟨e1,e2⟩:=k1 h3;rw[if_pos h3,e1,e2,take_zero ha]
 ·obtain⟨e1,e2⟩:=k2 h3;rw[if_neg h3,e1,e2];rfl
structure Ld (w:World) (a:Option Addr) (cap:Nat) (ls:List Nat) (X:List Nat):Prop where
 ri:Ri w a cap ls
 low:∀x∈blk a,x<w.heap.size∧x∉X
 le:∀l∈ls,l≤15
 len:ls.length≤400
 wt:weight ls≤32768
theorem Ld.fr {S:List Nat} {w w':World} {a:Option Addr} {cap:Nat} {ls X:List Nat} (h:Ld w a cap ls X) (f:Fr S w w') (hS:∀x∈S,x∈X∨w.heap.size≤x):Ld w' a cap ls X:=by
 refine⟨⟨h.ri.cs.fr f (λx hx hx2=>?_),h.ri.le,h.ri.max,h.ri.nil⟩,λx hx=>⟨qal (h.low x hx).1 f.size,(h.low x hx).2⟩,h.le,h.len,h.wt⟩;rcases hS x hx2 with k|k
 ·exact (h.low x hx).2 k
 ·have:=(h.low x hx).1;omega
theorem Ld.way {w w':World} {R p:Nat} {oa oa':Option Addr} {a:Option Addr} {cap:Nat} {ls:List Nat} (h:Ld w a cap ls (R::p::blk oa)) (f:Way w R p oa w' oa'):Ld w' a cap ls (R::p::blk oa'):=
 ⟨⟨h.ri.cs.fr f.fr (λx hx=>(h.low x hx).2),h.ri.le,h.ri.max,h.ri.nil⟩,λx hx=>⟨qal (h.low x hx).1 f.fr.size,f.old (h.low x hx).1 (h.low x hx).2⟩,h.le,h.len,h.wt⟩
theorem Ld.rp {w w':World} {R p:Nat} {oa:Option Addr} {a:Option Addr} {cap:Nat} {ls:List Nat} (h:Ld w a cap ls (R::p::blk oa)) (f:Fr [R,p] w w'):Ld w' a cap ls (R::p::blk oa):=
 h.way (Way.ofRp _ _ _ _ _ f)
theorem Ld.ne {w:World} {R p:Nat} {oa:Option Addr} {a:Option Addr} {cap:Nat} {ls:List Nat} (h:Ld w a cap ls (R::p::blk oa)):∀x∈blk a,x≠p:=λx hx e=>(h.low x hx).2 (by simp[e])
theorem qnc (R p:Nat) (F:List Nat) (bs out:List UInt8) (at_ oc most:Nat) (oa:Option Addr) (a:Option Addr) (cap L:Nat) (ls:List Nat) (w:World) (h:Sw w R p F bs at_ out oa oc most 0) (hl:Ld w a cap ls (R::p::blk oa)) (hL:L=ls.length) :
  Calls Tryz.prog 149 #[.pointer (some ⟨R,0,none⟩),.slice a L cap] w (SymR w R p F bs out oa oc most (isym bs ls at_)):=by
 subst hL;exact qqc R p F bs out at_ oc most oa a cap ls w h hl.ri hl.le hl.len hl.wt hl.ne
theorem qqb (R p:Nat) (F:List Nat) (bs out:List UInt8) (at_ oc most E:Nat) (oa:Option Addr) (v:Value) (w:World) (h:Sw w R p F bs at_ out oa oc most E) (hE:E≠0) :
  Calls Tryz.prog 149 #[.pointer (some ⟨R,0,none⟩),v] w λe w'=>e = .returned (.int .i64 0)∧w'=w:=by
 have c3:=cell_of h.box 3;simp only[qae,qaa,qad]at c3;have d0:((E:Int)!=0)=true:=by simp;omega
 clear h hE;go_enter Tryz.func149,Tryz.ntmps149;go_wp2;go_ret;exact⟨rfl,rfl⟩
theorem Sw.byte {w:World} {R p:Nat} {F:List Nat} {bs out:List UInt8} {at_ oc most E:Nat} {oa:Option Addr} (h:Sw w R p F bs at_ out oa oc most E) {i:Nat} (hi:i<out.length):∃g o,oa=some ⟨g,o,none⟩∧w.cell? ⟨g,o+i,none⟩=some (.int .u8 ((out[i]?.getD 0).toNat:Nat)):=by obtain⟨g,o,rfl,hc⟩:=(qcm h.own).at (by simp;omega);refine⟨g,o,rfl,hc i _ ?_⟩;rw[qbx,qaf hi];rfl
def imatch' (bs:List UInt8) (most:Nat) (dl:List Nat) (s:Nat) (out:List UInt8) (a:Nat):Except Nat (List UInt8×Nat):=
 if 286≤s then .error 3 else imatch bs most dl s out a
theorem qtn (R p:Nat) (F:List Nat) (bs out:List UInt8) (da:Option Addr) (dcap D:Nat) (dl:List Nat) (at_ oc most s:Nat) (oa:Option Addr) (w:World) (h:Sw w R p F bs at_ out oa oc most 0) (hT:Ld w da dcap dl (R::p::blk oa)) (hD:D=dl.length) (h1:257≤s) (h2:s<400) :
  Calls Tryz.prog 150 #[.pointer (some ⟨R,0,none⟩),.int .i64 s,.slice da D dcap] w λe w'=>e = .returned (.tuple #[])∧RetW w R p F bs oa most (imatch' bs most dl s out at_) w':=by
 obtain⟨M,hM⟩:=zex (imatch' bs most dl s out at_);rw[<-hM];by_cases hbig:286≤s
 ·have hM3:M = .error 3:=by rw[hM];unfold imatch';rw[if_pos hbig]
  have d0:decide ((285:Int)<s)=true:=by simp;omega
  have H:=zhd2 (qdt R p F bs out at_ oc most 0 3 oa w h) hM3;clear h hT hM hM3 hD hbig;go_enter Tryz.func150,Tryz.ntmps150;go_wp2_with (go_at_call 103;refine H.o0.mono ?_;rintro e w1 ⟨rfl,S1,f1⟩);refine bodyPost_ret (results_none rfl _ _ _) rfl ?_;exact⟨rfl,at_,out,oa,oc,3,S1,Way.ofR _ _ _ _ _ f1,.inl ⟨H.l1,by decide,by decide⟩⟩
 ·have d0:decide ((285:Int)<s)=false:=by simp;omega
  have hn0:ln s≤258:=(qwl ⟨s,by omega⟩ h1).2.2.1;have hk0:lk s≤5:=(qwl ⟨s,by omega⟩ h1).2.2.2;have hil:=qt9 (bs:=bs) (a:=at_) h1 (show s<286 by omega) h.pF.2;have hMi:M=imatch bs most dl s out at_:=by rw[hM];unfold imatch';rw[if_neg hbig]
  obtain⟨q,hq⟩:=zex (s-257);have eq1:(s:Int)-257=(q:Int):=by omega
  obtain⟨n0,hn0'⟩:∃n0,n0=ln s:=⟨_,rfl⟩;obtain⟨k0,hk0'⟩:∃k0,k0=lk s:=⟨_,rfl⟩;have hbase:=qs7 3 q 4 8 w (by decide) (by omega) (by decide) (by decide) (by decide);have hnb:s≠285→bsum 3 4 8 q=n0∧bw q 4 8=k0:=λhs=>by rw[hn0',hk0',hq];unfold ln lk;rw[if_neg hs,if_neg hs];exact⟨rfl,rfl⟩
  have hn5:s=285→n0=258∧k0=0:=λhs=>by rw[hn0',hk0',hs];exact⟨if_pos rfl,if_pos rfl⟩
  rw[<-hn0',<-hk0']at hil;have hnl:n0≤258:=by rw[hn0'];exact hn0
  have hkl:k0≤5:=by rw[hk0'];exact hk0
  obtain⟨N,hN⟩:=zex out.length;have htk:=qdd R p F bs out at_ oc most k0 oa w h (by omega);obtain⟨x0,hx0⟩:∃x,x=bsum 3 4 8 q:=⟨_,rfl⟩;obtain⟨y0,hy0⟩:∃x,x=bw q 4 8:=⟨_,rfl⟩;rw[<-hx0,<-hy0]at hbase hnb;have hsm:=h.sm;have H:=zhd7 h hT hMi hil htk hN hD;have HB:=zhd3 hbase hnb hn5;clear h hT hM hMi hil htk hN hD hbase hnb hn5 hn0' hk0' hx0 hy0 hn0 hk0 hq hbig;go_enter Tryz.func150,Tryz.ntmps150;go_upto_if 23 with (go_at_call 187;refine HB.out.1.mono ?_;rintro e w1 ⟨rfl,rfl⟩);clear d0 eq1;obtain⟨bq,hbq⟩:∃b,b=((s:Int)==285):=⟨_,rfl⟩;rw[<-hbq];have HQ:=zhd hbq;clear hbq;go_cut [6,7] from 23 to 24 (λs6 s7 wc=>s6 = .int .i64 n0∧s7 = .int .i64 k0∧w=wc)
  case first=>
   cases bq
   ·go_wp2;go_meet;case rel=>obtain⟨rfl,rfl⟩:=HB.out.2.1 (λhe=>by have:=HQ.out;rw[he]at this;cases this);exact⟨rfl,rfl,rfl⟩
   ·go_wp2;go_meet;case rel=>obtain⟨rfl,rfl⟩:=HB.out.2.2 (by have:=beq_iff_eq.1 HQ.out.symm;omega);exact⟨rfl,rfl,rfl⟩
  case rest=>
   obtain⟨rfl,rfl,rfl⟩:=hcut;go_upto_region 7 with (go_at_call 98;refine H.out.2.2.2.2.1.mono ?_;rintro e w1 (⟨a1,hm,rfl,s1,f1⟩|⟨v,a1,hm,rfl,s1,f1⟩))
   ·have c3:=cell_of s1.box 3;simp only[qae,qaa,qad]at c3;have K1:=zhd3 hm f1 s1;clear hm f1 s1;go_wp2_with (go_at_call 149;refine (qqb R p F bs out a1 oc most 4 oa _ w1 K1.l2 (by decide)).mono ?_;rintro e w2 ⟨rfl,rfl⟩);refine bodyPost_ret (results_none rfl _ _ _) rfl ?_;refine⟨rfl,a1,out,oa,oc,4,K1.l2,Way.ofRp _ _ _ _ _ K1.o1,.inl ⟨?_,by decide,by decide⟩⟩;rw[H.out.2.2.1];unfold imatch;rw[H.out.2.2.2.1,K1.o0]
   ·have hv:=qcp hm;have hvb:v<32:=qal hv (qan (qax (by decide) hkl) (by decide));obtain⟨n,hn⟩:=zex (n0+v);have hnb:n≤300:=by omega
    have ew:wrap64 ((n0:Int)+(v:Int))=(n:Int):=by unfold wrap64;omega
    rw[ew];clear ew;have hsy:=qnc R p F bs out a1 oc most oa da dcap D dl w1 s1 (H.l1.1.rp f1) H.out.2.2.2.2.2.2;have e1:ilength bs s at_ = .ok (n0+v,a1):=by rw[H.out.2.2.2.1,hm]
    rw[<-hn]at e1;have K1:=zhd4 hsy f1 e1 s1;clear hm f1 s1 hsy e1 hv hn;go_upto_region 8 with (go_at_call 149;refine K1.o0.mono ?_;rintro e w2 (⟨a2,c,hm,hc0,hc1,rfl,s2,f2⟩|⟨t,a2,hm,rfl,s2,f2⟩))
    ·have c3:=cell_of s2.box 3;simp only[qae,qaa,qad]at c3;have d3:((c:Int)!=0)=true:=by simp;omega
     have K2:=zhd3 hm f2 s2;clear hm f2 s2;go_wp2;refine bodyPost_ret (results_none rfl _ _ _) rfl ?_;refine⟨rfl,a2,out,oa,oc,c,K2.l2,Way.ofRp _ _ _ _ _ (K1.o1.trans K2.o1),.inl ⟨?_,hc0,hc1⟩⟩;rw[H.out.2.2.1];unfold imatch;rw[K1.l2.1];dsimp only;rw[K2.o0]
    ·have c3:=cell_of s2.box 3;simp only[qae,qaa,qad]at c3;have htl:=(qfm hm).1;have htb:t<400:=qal htl H.l1.1.len;have K2:=zhd3 hm f2 s2;clear hm f2 s2 htl;have f02:Fr [R,p] w w2:=K1.o1.trans K2.o1;by_cases ht:30≤t
     ·have d4:decide ((29:Int)<t)=true:=by simp;omega
      have HF:=zhd2 (qdt R p F bs out a2 oc most 0 3 oa w2 K2.l2) f02;clear f02;go_wp2_with (go_at_call 103;refine HF.o0.mono ?_;rintro e w3 ⟨rfl,S3,f3⟩);refine bodyPost_ret (results_none rfl _ _ _) rfl ?_;refine⟨rfl,a2,out,oa,oc,3,S3,(Way.ofRp _ _ _ _ _ HF.l1).trans (Way.ofR _ _ _ _ _ f3),.inl ⟨?_,by decide,by decide⟩⟩;rw[H.out.2.2.1];unfold imatch;rw[K1.l2.1];dsimp only;rw[K2.o0];dsimp only;rw[if_pos ht]
     ·have d4:decide ((29:Int)<t)=false:=by simp;omega
      have hd13:bw t 2 4≤13:=(qxp ⟨t,by omega⟩).2.2.2;have hd24:bsum 1 2 4 t≤24577:=(qxp ⟨t,by omega⟩).2.2.1;have hdi:=zaa (bs:=bs) (t:=t) (a:=a2) (by omega) K2.l2.pF.2;have hbase:=qs7 1 t 2 4 w2 (by decide) (by omega) (by decide) (by decide) (by decide);obtain⟨x1,hx1⟩:∃x,x=bsum 1 2 4 t:=⟨_,rfl⟩;obtain⟨y1,hy1⟩:∃x,x=bw t 2 4:=⟨_,rfl⟩;rw[<-hx1,<-hy1]at hbase hdi;rw[<-hx1]at hd24;rw[<-hy1]at hd13;have htk:=qdd R p F bs out a2 oc most y1 oa w2 K2.l2 (by omega);have HB2:=zhd4 hbase hdi htk f02;clear hbase hdi htk f02 hx1 hy1;go_upto_region 12 with (go_at_call 187;refine HB2.o0.mono ?_;rintro e w3 ⟨rfl,rfl⟩);clear d4 c3;go_cut [9] from 46 to 50 (λs9 wc=>∃far a3 E:Nat,s9 = .int .i64 (far:Nat)∧far≤100000∧Sw wc R p F bs a3 out oa oc most E∧Fr [R,p] w wc∧((E=0∧idist bs t a2 = .ok (far,a3))∨(E=4∧idist bs t a2 = .error 4)))
      case first=>
       go_wp2_with (go_at_call 98;refine HB2.o2.mono ?_;rintro e w3 (⟨a3,hm,rfl,s3,f3⟩|⟨v3,a3,hm,rfl,s3,f3⟩);all_goals (try (have hvb3:v3<8192:=qal (qcp hm) (qan (qax (by decide) hd13) (by decide))));all_goals (have K3:=zhd3 hm f3 s3;clear hm f3 s3))
       ·go_meet;case rel=>exact⟨x1,a3,4,rfl,by omega,K3.out.2.2,HB2.l3.trans K3.out.2.1,.inr ⟨rfl,by rw[HB2.o1,K3.out.1]⟩⟩
       ·go_meet;case rel=>exact⟨x1+v3,a3,0,by go_num,by omega,K3.out.2.2,HB2.l3.trans K3.out.2.1,.inl ⟨rfl,by rw[HB2.o1,K3.out.1]⟩⟩
      case rest=>
       obtain⟨far,a3,E,rfl,hfb,s3,f3,hE⟩:=hcut;have c3:=cell_of s3.box 3;have c1:=cell_of s3.box 1;simp only[qae,qaa,qad]at c1 c3;rw[<-H.out.2.2.2.2.2.1]at c1;have hMe:idist bs t a2 = .error 4→M = .error 4:=λh=>by rw[H.out.2.2.1];unfold imatch;rw[K1.l2.1];dsimp only;rw[K2.o0];dsimp only;rw[if_neg ht,h]
       have hMo:idist bs t a2 = .ok (far,a3)→M=if N<far then .error 3 else match icopy most far n out with | .error e=>.error e | .ok o=>.ok (o,a3):=λh=>by rw[H.out.2.2.1];unfold imatch;rw[K1.l2.1];dsimp only;rw[K2.o0];dsimp only;rw[if_neg ht,h,H.out.2.2.2.2.2.1];rfl
       have hfp:idist bs t a2 = .ok (far,a3)→0<far:=λh=>by
        rcases qpd h with k|k
        ·exact k.1
        ·omega
       have hE4:E=0∨E=4:=by rcases hE with⟨h,_⟩|⟨h,_⟩<;>omega
       have hNm:N≤most:=by rw[H.out.2.2.2.2.2.1];exact s3.om
       have K3:=zhd7 s3 f3 hE hMe hMo hfp (qdt R p F bs out a3 oc most E 3 oa wc s3);clear s3 f3 hE hMe hMo hfp;go_upto_region 13 with fail;go_cut [64] from 51 to 64 (λs64 wd=>s64 = .bool (decide (E=0)&&decide (N<far))∧wc=wd)
       case first=>
        rcases hE4 with rfl|rfl
        ·go_wp2;go_meet;case rel=>exact⟨by simp,rfl⟩
        ·go_wp2;go_meet;case rel=>exact⟨by simp,rfl⟩
       case rest=>
        obtain⟨rfl,rfl⟩:=hcut;obtain⟨bt,hbt⟩:∃b:Bool,b=(decide (E=0)&&decide (N<far)):=⟨_,rfl⟩;rw[<-hbt];have HT:=zhd hbt;clear hbt;go_upto_if 64 with fail;go_cut [] from 65 to 66 (λwd=>∃E2:Nat,Sw wd R p F bs a3 out oa oc most E2∧Fr [R,p] w wd∧((E2=0∧idist bs t a2 = .ok (far,a3)∧far≤N)∨(E2≠0∧E2<100∧M = .error E2)))
        case first=>
         cases bt
         ·go_wp2;go_meet;case rel=>
           refine⟨E,K3.out.1,K3.out.2.1,?_⟩;rcases K3.out.2.2.1 with⟨k1,k2⟩|⟨k1,k2⟩
           ·refine .inl ⟨k1,k2,?_⟩;have:=HT.out;rw[k1]at this;simpa using this
           ·exact .inr ⟨by omega,by omega,by rw[k1];exact K3.out.2.2.2.1 k2⟩
         ·have hE0:E=0∧N<far:=by simpa using HT.out.symm
          obtain⟨rfl,hlt⟩:=hE0;have HL:=zhd hlt;clear hlt c3 c1;go_wp2_with (go_at_call 103;refine K3.out.2.2.2.2.2.2.mono ?_;rintro e w4 ⟨rfl,S4,f4⟩;have K4:=zhd2 S4 f4;clear S4 f4);go_meet;case rel=>
           refine⟨3,K4.out.1,K3.out.2.1.trans (K4.out.2.mono (by simp)),.inr ⟨by decide,by decide,?_⟩⟩;rcases K3.out.2.2.1 with⟨k1,k2⟩|⟨k1,k2⟩
           ·rw[K3.out.2.2.2.2.1 k2,if_pos HL.out]
           ·cases k1
        case rest=>
         obtain⟨E2,s4,f4,hE2⟩:=hcut;have K4:=zhd3 s4 f4 hE2;obtain⟨w4,hw4⟩:=zex wc;rw[<-hw4]at K4 ⊢;clear s4 f4 hE2 hw4 c1 c3;go_wp2;go_loopg [11] n (λk s11 wr=>∃(j:Nat) (a4:Nat) (out1:List UInt8) (oa1:Option Addr) (oc1 E3:Nat),s11 = .int .i64 (j:Nat)∧j+k=n∧Sw wr R p F bs a4 out1 oa1 oc1 most E3∧Way w4 R p oa wr oa1∧
          ((E3=0∧E2=0∧a4=a3∧icopy most far k out1=icopy most far n out∧far≤out1.length)∨(E3≠0∧E3<100∧M = .error E3)))
         case atStart=>
          refine⟨0,a3,out,oa,oc,E2,rfl,by omega,K4.out.1,.refl _ _ _ _,?_⟩;rcases K4.out.2.2 with⟨k1,k2,k3⟩|k
          ·exact .inl ⟨k1,k1,rfl,rfl,by rw[<-H.out.2.2.2.2.2.1];exact k3⟩
          ·exact .inr k
         case round=>
          obtain⟨j,a4,out1,oa1,oc1,E3,rfl,hjk,hst,hway,hcs⟩:=hrel;have c3:=cell_of hst.box 3;simp only[qae,qaa,qad]at c3;have hfin:∀(m:Except Nat (List UInt8×Nat)),M=m→((m = .error E3∧0<E3∧E3<100)∨(m = .ok (out1,a4)∧E3=0))→RetW w R p F bs oa most M wr:=λm h1 h2=>by refine⟨a4,out1,oa1,oc1,E3,hst,(Way.ofRp _ _ _ _ _ K4.out.2.1).trans hway,?_⟩;rw[h1];exact h2
          have hE2o:E2=0→idist bs t a2 = .ok (far,a3)∧far≤N:=λh=>by
           rcases K4.out.2.2 with⟨_,k2,k3⟩|⟨k1,_,_⟩
           ·exact⟨k2,k3⟩
           ·exact absurd h k1
          by_cases hj:j<n
          ·by_cases h0:E3=0
           ·subst h0;obtain⟨k,rfl⟩:∃k,gk=k+1:=⟨gk-1,by omega⟩;obtain⟨hE2',hae,hic,hbl⟩:E2=0∧a4=a3∧icopy most far (k+1) out1=icopy most far n out∧far≤out1.length:=by
             rcases hcs with⟨_,k2,k3,k4,k5⟩|⟨k1,_,_⟩
             ·exact⟨k2,k3,k4,k5⟩
             ·exact absurd rfl k1
            have hid:=hE2o hE2';have hb0:=K3.out.2.2.2.2.2.1 hid.1;obtain⟨N1,hN1⟩:=zex out1.length;obtain⟨g,o,rfl,hby⟩:=hst.byte (i:=N1-far) (by omega);obtain⟨u,hu⟩:=zex (out1[N1-far]?.getD 0);have c1:=cell_of hst.box 1;simp only[qae,qaa,qad]at c1;rw[<-hN1]at c1;rw[<-hu]at hby;have hom:N1≤most:=by rw[hN1];exact hst.om
            have hbl1:far≤N1:=by rw[hN1];exact hbl
            have HJ:=zhd9 hst hway hic hbl hN1 hu hae hE2' hid;clear hst hway hic hbl hN1 hu hae hE2' hid hcs hfin hE2o;go_upto_region 18 with fail;refine qcl 14 (by kernel_rfl) (by kernel_rfl) ?_;simp only[qai,qao,qah,qaj];repeat (go_big_quiet_step (fail))
            refine wpQuiet_nil ?_;have sd:=HJ.out.1.fr0 (Fr.drew1 [] wr);have HD:=zhd sd;clear sd c1 c3 hby;go_wp2_with (go_at_call 148;refine (qrz R p F bs out1 a4 oc1 most _ u wr.drew HD.out).mono ?_;rintro e w5 ⟨rfl,hR5⟩;have K5:=zhd hR5;clear hR5);go_roundg k;case measure=>omega
            case rel=>
             obtain⟨a5,out2,oa2,oc2,E5,s5,y5,h5⟩:=K5.out;obtain⟨j1,j2,j3,j4,j5,j6,j7,j8,j9⟩:=HJ.out;refine⟨j+1,a5,out2,oa2,oc2,E5,by go_num,by omega,s5,j2.trans ((Way.of0 _ _ _ _ _ (Fr.drew1 [] wr)).trans y5),?_⟩;cases hp:iput most out1 u with
             | error e=>
              rw[hp]at h5;rcases h5 with⟨k1,k2,k3⟩|⟨k1,_⟩
              ·refine .inr ⟨by omega,k3,?_⟩;have hec:e=E5:=by simpa[Except.map] using k1
               have e1:icopy most far n out = .error e:=by rw[<-j3,icopy,<-j5,<-j6,hp]
               rw[K3.out.2.2.2.2.1 j9.1,if_neg (by omega),e1,hec]
              ·cases k1
             | ok o2=>
              rw[hp]at h5;rcases h5 with⟨k1,_,_⟩|⟨k1,k2⟩
              ·cases k1
              ·have hm2:o2=out2∧a4=a5:=by simpa[Except.map] using k1
               obtain⟨rfl,rfl⟩:=hm2;have hi:=qwx hp;refine .inl ⟨k2,j8,j7,?_,by rw[hi.1];simp;omega⟩;rw[<-j3,icopy,<-j5,<-j6,hp]
           ·have d0:((E3:Int)==0)=false:=by simp;omega
            have hM3:M = .error E3∧E3<100:=by
             rcases hcs with⟨k1,_⟩|⟨k1,k2,k3⟩
             ·exact absurd k1 h0
             ·exact⟨k3,k2⟩
            have HFin:=zhd (hfin _ hM3.1 (.inl ⟨rfl,by omega,hM3.2⟩));clear hst hway hcs hfin hE2o hM3 h0;go_wp2;refine bodyPost_end (results_none rfl _ _ _) rfl ?_;exact⟨rfl,HFin.out⟩
          ·obtain rfl:j=n:=by omega
           obtain rfl:gk=0:=by omega
           have HFin:Go.RowKit.Hid (RetW w R p F bs oa most M wr):=zhd (by
            rcases hcs with⟨k1,k2,k3,k4,k5⟩|⟨k1,k2,k3⟩
            ·obtain⟨q1,q2⟩:=hE2o k2
             refine hfin _ (K3.out.2.2.2.2.1 q1) (.inr ⟨?_,k1⟩)
             rw[if_neg (by omega),<-k4,k3]
             rfl
            ·exact hfin _ k3 (.inl ⟨rfl,by omega,k2⟩))
           clear hst hway hcs hfin hE2o;go_wp2;refine bodyPost_end (results_none rfl _ _ _) rfl ?_;exact⟨rfl,HFin.out⟩
theorem za5 (R p:Nat) (F:List Nat) (bs out:List UInt8) (at_ oc most s:Nat) (oa:Option Addr) (w:World) (h:Sw w R p F bs at_ out oa oc most 0) (hs:s<256) :
  Calls Tryz.prog 148 #[.pointer (some ⟨R,0,none⟩),.int .u8 s] w λe w'=>e = .returned (.tuple #[])∧RetW w R p F bs oa most ((iput most out (UInt8.ofNat s)).map λo=>(o,at_)) w':=by
 have:=qrz R p F bs out at_ oc most oa (UInt8.ofNat s) w h;rwa [show ((UInt8.ofNat s).toNat:Int)=(s:Int) from by simp[qb6];omega]at this
theorem qwi {o:Except Nat (List UInt8)} {a E:Nat} (h:o.map (λo=>(o,a)) = .error E):o = .error E:=by
 cases o with
 | error e=>simpa[Except.map] using h
 | ok x=>cases h
theorem zbb {o:Except Nat (List UInt8)} {a a':Nat} {x:List UInt8} (h:o.map (λo=>(o,a)) = .ok (x,a')):o = .ok x∧a'=a:=by
 cases o with
 | error e=>cases h
 | ok y=>
  have:y=x∧a=a':=by simpa[Except.map] using h
  exact⟨by rw[this.1],this.2.symm⟩
theorem qmd (R p:Nat) (F:List Nat) (bs out:List UInt8) (la da:Option Addr) (lcap dcap L D:Nat) (ll dl:List Nat) (at_ oc most:Nat) (oa:Option Addr) (w:World) (h:Sw w R p F bs at_ out oa oc most 0) (hl:Ld w la lcap ll (R::p::blk oa)) (hd:Ld w da dcap dl (R::p::blk oa)) (hL:L=ll.length) (hD:D=dl.length) :
  Calls Tryz.prog 101 #[.pointer (some ⟨R,0,none⟩),.slice la L lcap,.slice da D dcap] w λe w'=>e = .returned (.tuple #[])∧RetW w R p F bs oa most (isyms bs most ll dl (fuel bs) out at_) w':=by
 obtain⟨M,hM⟩:=zex (isyms bs most ll dl (fuel bs) out at_);rw[<-hM];have H:=zhd6 h hl hd hL hD hM;clear h hl hd hL hD hM;go_enter Tryz.func101,Tryz.ntmps101;go_wp2;go_loopg [6] (fuel bs) (λk s6 wr=>∃(a1:Nat) (out1:List UInt8) (oa1:Option Addr) (oc1 E:Nat),Sw wr R p F bs a1 out1 oa1 oc1 most E∧Way w R p oa wr oa1∧((E=0∧isyms bs most ll dl k out1 a1=M∧8*bs.length+1≤a1+k)∨(E≠0∧E<100∧M = .error E)));case atStart=>exact⟨at_,out,oa,oc,0,H.o0,.refl _ _ _ _,.inl ⟨rfl,H.l5.symm,by unfold fuel;omega⟩⟩
 case round=>
  obtain⟨a1,out1,oa1,oc1,E,hst,hway,hcs⟩:=hrel;have c3:=cell_of hst.box 3;simp only[qae,qaa,qad]at c3;by_cases h0:E=0
  ·subst h0;obtain⟨his,hfu⟩:isyms bs most ll dl gk out1 a1=M∧8*bs.length+1≤a1+gk:=by
    rcases hcs with⟨_,k⟩|⟨k,_⟩
    ·exact k
    ·exact absurd rfl k
   have ha1:=hst.pF.2;obtain⟨k,rfl⟩:∃k,gk=k+1:=⟨gk-1,by omega⟩;have hsy:=qnc R p F bs out1 a1 oc1 most oa1 la lcap L ll wr hst (H.o1.way hway) H.o3;have HJ:=zhd6 hst hway his hfu (H.o2.way hway) hsy;clear hst hway his hcs hsy hfu;go_upto_region 3 with (go_at_call 149;refine HJ.l5.mono ?_;rintro e w2 (⟨a2,c,hm,hc0,hc1,rfl,s2,f2⟩|⟨s,a2,hm,rfl,s2,f2⟩))
   ·have c3:=cell_of s2.box 3;simp only[qae,qaa,qad]at c3;have d3:((c:Int)!=0)=true:=by simp;omega
    have hMe:M = .error c:=by rw[<-HJ.o2,isyms,hm]
    have K2:=zhd3 hMe f2 s2;clear hm f2 s2 hMe;go_wp2;go_roundg k;case measure=>omega
    case rel=>exact⟨a2,out1,oa1,oc1,c,K2.l2,HJ.o1.trans (Way.ofRp _ _ _ _ _ K2.o1),.inr ⟨by omega,hc1,K2.o0⟩⟩
   ·have c3:=cell_of s2.box 3;simp only[qae,qaa,qad]at c3;have hsl:=(qfm hm).1;have hlt:=(qfm hm).2;have hsb:s<400:=qal hsl H.o1.len;have f02:=HJ.o1.trans (Way.ofRp _ _ _ _ _ f2);by_cases b1:s<256
    ·have d1:decide ((s:Int)<256)=true:=by simp;omega
     have hpt:=za5 R p F bs out1 a2 oc1 most s oa1 w2 s2 b1;have hsi:isyms bs most ll dl (k+1) out1 a1=match iput most out1 (UInt8.ofNat s) with | .error e=>.error e | .ok o=>isyms bs most ll dl k o a2:=by rw[isyms,hm];simp only[if_pos b1];cases iput most out1 (UInt8.ofNat s)<;>rfl
     rw[HJ.o2]at hsi;have K2:=zhd4 hpt f02 hsi hlt;clear hm f2 s2 hpt f02 hsi hsl hlt;go_wp2_with (go_at_call 148;refine K2.o0.mono ?_;rintro e w4 ⟨rfl,h4⟩;have K4:=zhd h4;clear h4);go_roundg k;case measure=>omega
     case rel=>
      obtain⟨a4,o4,oa4,oc4,E4,s4,y4,h4⟩:=K4.out;have hfu:=HJ.o3;have hlt:=K2.out.2.2.2;refine⟨a4,o4,oa4,oc4,E4,s4,K2.o1.trans y4,?_⟩;rcases h4 with⟨k1,k2,k3⟩|⟨k1,k2⟩
      ·exact .inr ⟨by omega,k3,by rw[K2.l2.1,qwi k1]⟩
      ·obtain⟨q1,q2⟩:=zbb k1;exact .inl ⟨k2,by rw[K2.l2.1,q1,q2],by omega⟩
    ·have d1:decide ((s:Int)<256)=false:=by simp;omega
     by_cases b2:s=256
     ·have hsi:isyms bs most ll dl (k+1) out1 a1 = .ok (out1,a2):=by rw[isyms,hm];simp only[if_neg b1,if_pos b2]
      rw[HJ.o2]at hsi;have K2:=zhd3 f02 hsi s2;clear hm f2 s2 f02 hsi hsl hlt b1;subst b2;go_wp2;refine bodyPost_ret (results_none rfl _ _ _) rfl ?_;exact⟨rfl,a2,out1,oa1,oc1,0,K2.l2,K2.o0,.inr ⟨K2.o1,rfl⟩⟩
     ·have d2:((s:Int)==256)=false:=by simp;omega
      have hmt:=qtn R p F bs out1 da dcap D dl a2 oc1 most s oa1 w2 s2 (HJ.o4.rp f2) H.o4 (by omega) hsb;have hsi:isyms bs most ll dl (k+1) out1 a1=match imatch' bs most dl s out1 a2 with | .error e=>.error e | .ok (o,a3)=>isyms bs most ll dl k o a3:=by
       rw[isyms,hm];simp only[if_neg b1,if_neg b2];unfold imatch';by_cases b3:286≤s
       ·rw[if_pos b3,if_pos b3]
       ·rw[if_neg b3,if_neg b3];cases imatch bs most dl s out1 a2<;>rfl
      have hle:∀o a3,imatch' bs most dl s out1 a2 = .ok (o,a3)→a2≤a3:=λo a3 h=>by
       unfold imatch' at h;split at h
       ·cases h
       ·exact qlf h
      rw[HJ.o2]at hsi;have K2:=zhd5 hmt f02 hsi hlt hle;clear hm f2 s2 hmt f02 hsi hsl hlt hle b1 b2;go_wp2_with (go_at_call 150;refine K2.o0.mono ?_;rintro e w4 ⟨rfl,h4⟩;have K4:=zhd h4;clear h4);go_roundg k;case measure=>omega
      case rel=>
       obtain⟨a4,o4,oa4,oc4,E4,s4,y4,h4⟩:=K4.out;have hfu:=HJ.o3;have hlt:=K2.out.2.2.2.1;refine⟨a4,o4,oa4,oc4,E4,s4,K2.o1.trans y4,?_⟩;rcases h4 with⟨k1,k2,k3⟩|⟨k1,k2⟩
       ·exact .inr ⟨by omega,k3,by rw[K2.l2.1,k1]⟩
       ·have:=K2.out.2.2.2.2 _ _ k1;exact .inl ⟨k2,by rw[K2.l2.1,k1],by omega⟩
  ·have d0:((E:Int)==0)=false:=by simp;omega
   have hM3:M = .error E∧E<100:=by
    rcases hcs with⟨k1,_⟩|⟨k1,k2,k3⟩
    ·exact absurd k1 h0
    ·exact⟨k3,k2⟩
   have HFin:Go.RowKit.Hid (RetW w R p F bs oa most M wr):=zhd ⟨a1,out1,oa1,oc1,E,hst,hway,.inl ⟨hM3.1,by omega,hM3.2⟩⟩;clear hst hway hcs hM3 h0;go_wp2;refine bodyPost_end (results_none rfl _ _ _) rfl ?_;exact⟨rfl,HFin.out⟩
end Go.Proofs.YtbabjlohkniciaaGreatDoor.inf
