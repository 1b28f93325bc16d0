/-
  Texts of this proof, one behind the other: InfB, InfC, InfD, InfJ, InfE, InfF, InfG.
-/
import Derived.Test.YtkmpfgpfbmeihaaGreatDoorS14
set_option maxHeartbeats 16000000
set_option maxRecDepth 100000
set_option linter.unusedVariables false
set_option linter.unusedSimpArgs false
namespace Go.Proofs.YtkmpfgpfbmeihaaGreatDoor.inf
open Go Go.RowKit lib bm bl huf
theorem qy1 {ls:List Nat} {n v s:Nat} (h:hsym ls n v=some s):s<ls.length∧0<n:=by unfold hsym at h;have h1:=List.mem_of_find?_eq_some h;have h2:=List.find?_some h;simp at h1 h2;exact⟨h1,h2.1⟩
theorem qkn (ls:List Nat):∀(f n v:Nat) (bits:List Bool),((hread ls f n v bits).2.2=0∨(hread ls f n v bits).2.2=3∨(hread ls f n v bits).2.2=4)∧
  ((hread ls f n v bits).2.2=0→(hread ls f n v bits).1<ls.length∧0<(hread ls f n v bits).2.1)
 | 0,n,v,bits=>by
  cases h:hsym ls n v with
  | some s=>rw[qgx h];exact⟨.inl rfl,λ_=>qy1 h⟩
  | none=>rw[qm7 h];exact⟨.inr (.inl rfl),λh=>by cases h⟩
 | f+1,n,v,bits=>by
  cases h:hsym ls n v with
  | some s=>rw[qgx h];exact⟨.inl rfl,λ_=>qy1 h⟩
  | none=>
   by_cases hm:hmore ls n v=true
   ·cases bits with
    | nil=>rw[qkm h hm];exact⟨.inr (.inr rfl),λh=>by cases h⟩
    | cons b t=>rw[qig h hm];exact qkn ls f (n+1) _ t
   ·rw[qko h (by simpa using hm)];exact⟨.inr (.inl rfl),λh=>by cases h⟩
theorem qkl {bs:List UInt8} {ls:List Nat} {a s a1:Nat} (h:isym bs ls a = .ok (s,a1)):s<ls.length∧a<a1:=by
 unfold isym at h;split at h
 ·rename_i hc;have:=(qkn ls 15 0 0 ((bytesBits bs).drop a)).2 hc;simp only[qa6,qa4]at h;omega
 ·cases h
theorem qe3 {bs:List UInt8} {a n v a1:Nat} (h:itake bs a n = .ok (v,a1)):v<2^n:=by
 unfold itake at h;split at h
 ·simp only[qa6,qa4]at h;rw[<-h.1];exact qgj _ _
 ·cases h
structure Tb (w:World) (P:Nat) (ls:List Nat) (X:List Nat):Prop where
 ex:∃D first sa sc,Tab w P D ls first sa sc∧P<w.heap.size∧P∉X∧∀l,l<16→∀x∈blk (sa l),x<w.heap.size∧x∉X
theorem Tb.fr {S:List Nat} {w w':World} {P:Nat} {ls X:List Nat} (h:Tb w P ls X) (f:Fr S w w') (hS:∀x∈S,x∈X∨w.heap.size≤x):Tb w' P ls X:=by
 obtain⟨D,first,sa,sc,ht,h1,h2,h3⟩:=h.ex;refine⟨D,first,sa,sc,ht.frS f (λhP=>?_) (λl hl _ x hx hx2=>?_),qat h1 f.size,h2,λl hl x hx=>⟨qat (h3 l hl x hx).1 f.size,(h3 l hl x hx).2⟩⟩
 ·rcases hS P hP with k|k
  ·exact h2 k
  ·omega
 ·rcases hS x hx2 with k|k
  ·exact (h3 l hl x hx).2 k
  ·have:=(h3 l hl x hx).1;omega
theorem Tb.way {w w':World} {R p P:Nat} {oa oa':Option Addr} {ls:List Nat} (h:Tb w P ls (R::p::blk oa)) (f:Way w R p oa w' oa'):Tb w' P ls (R::p::blk oa'):=by obtain⟨D,first,sa,sc,ht,h1,h2,h3⟩:=h.ex;exact⟨D,first,sa,sc,ht.frS f.fr h2 (λl hl _ x hx=>(h3 l hl x hx).2),qat h1 f.fr.size,f.old h1 h2,λl hl x hx=>⟨qat (h3 l hl x hx).1 f.fr.size,f.old (h3 l hl x hx).1 (h3 l hl x hx).2⟩⟩
theorem qj8 (R p P:Nat) (F:List Nat) (bs out:List UInt8) (ls:List Nat) (at_ oc most:Nat) (oa:Option Addr) (w:World) (h:St w R p F bs at_ out oa oc most) (hT:Tb w P ls (R::p::blk oa)) :
  Calls Tryz.prog 206 #[.pointer (some ⟨P,0,none⟩),.pointer (some ⟨p,0,none⟩)] w (RetV w R p F bs out oa oc most (isym bs ls at_)):=by
 obtain⟨D,first,sa,sc,ht,h1,h2,h3⟩:=hT.ex;have hp:P≠p:=λe=>h2 (by simp[e])
 have hsp:=qkn ls 15 0 0 ((bytesBits bs).drop at_);obtain⟨r,hr0⟩:=zex (hread ls 15 0 0 ((bytesBits bs).drop at_));unfold isym;rw[<-hr0]at hsp ⊢;obtain⟨s,m,c⟩:=r;refine (qli P D ls first sa sc p F bs at_ w ht h.rd hp (λl hl _ x hx e=>(h3 l hl x hx).2 (by simp[e])) s m c hr0.symm).mono ?_;rintro e w' ⟨rfl,hr,f⟩;simp only at hsp ⊢;by_cases hc:c=0
 ·subst hc;exact .inr ⟨s,at_+m,by rw[if_pos rfl],rfl,h.take f hr,f⟩
 ·exact .inl ⟨_,c,by rw[if_neg hc],by omega,by omega,rfl,f.mono (by simp)⟩
theorem qib (R p:Nat) (F:List Nat) (bs out:List UInt8) (at_ oc most s:Nat) (oa:Option Addr) (w:World) (h:St w R p F bs at_ out oa oc most) (h1:256≤s) (h2:s<286) :
  Calls Tryz.prog 219 #[.pointer (some ⟨R,0,none⟩),.int .i64 s] w (RetV w R p F bs out oa oc most (ilength bs s at_)):=by
 by_cases h3:s<265
 ·have e:ilength bs s at_ = .ok (s-254,at_):=by unfold ilength;rw[if_pos h3]
  rw[e];have H:=zhd h;clear h e;go_enter Tryz.func219,Tryz.ntmps219;go_wp2;go_ret2;exact .inr ⟨_,_,rfl,by rw[show ((s-254:Nat):Int)=(s:Int)-254 by omega];rfl,H.out,.refl _ _⟩
 ·by_cases h4:s=285
  ·have e:ilength bs s at_ = .ok (258,at_):=by unfold ilength;rw[if_neg h3,if_pos h4]
   rw[e];subst h4;have H:=zhd h;clear h e;go_enter Tryz.func219,Tryz.ntmps219;go_wp2;go_ret2;exact .inr ⟨_,_,rfl,rfl,H.out,.refl _ _⟩
  ·have b4:((s:Int)==285)=false:=by simp;omega
   obtain⟨n,hn⟩:=zex ((s-261)/4);have hn5:n≤5:=by omega
   have ht:=qgc R p F bs out at_ oc most n oa w h (by omega);have hbad:∀c,itake bs at_ n = .error c→ilength bs s at_ = .error c:=λc hc=>by unfold ilength;rw[if_neg h3,if_neg h4,<-hn,hc]
   have hgood:∀v a1,itake bs at_ n = .ok (v,a1)→ilength bs s at_ = .ok (3+(4+(s-265)%4)*2^n+v,a1):=λv a1 hc=>by unfold ilength;rw[if_neg h3,if_neg h4,<-hn,hc]
   obtain⟨M,hM⟩:=zex (ilength bs s at_);rw[<-hM]at hbad hgood ⊢;obtain⟨k,hk⟩:=zex ((4+(s-265)%4)*2^n);rw[<-hk]at hgood;have hk2:k≤7*2^5:=by rw[hk];exact zdc (by omega) (qa3 (by decide) hn5)
   have hk3:(4+((s:Int)-265)%4)*2^n=(k:Nat):=by
    have e0:((s:Int)-265)%4=((s-265)%4:Nat):=by omega
    rw[e0,hk];push_cast;rfl
   have H:=zhd5 ht hn hbad hgood hk3;have hM2:=zhd hM;clear hM hbad hgood hk hk3;have e1:((s:Int)-261)/4=(n:Nat):=by omega
   clear h ht hn;go_enter Tryz.func219,Tryz.ntmps219;go_wp2_with (go_at_call 134;refine H.out.1.mono ?_;rintro e w1 (⟨v,c,hm,hc0,hc1,rfl,f1⟩|⟨v,a1,hm,rfl,s1,f1⟩))
   ·go_ret2;exact .inl ⟨_,c,H.out.2.2.1 c hm,hc0,hc1,rfl,f1⟩
   ·go_ret2;refine .inr ⟨_,_,H.out.2.2.2.1 v a1 hm,?_,s1,f1⟩;have hv:=qe3 hm;have hv2:2^n≤2^5:=qa3 (by decide) hn5;have e2:wrap64 (wrap64 (3+wrap64 ((4+((s:Int)-265)%4)*2^n))+(v:Nat))=((3+k+v:Nat):Int):=by rw[H.out.2.2.2.2];unfold wrap64;omega
    show Ending.returned (.tuple #[.int .i64 (wrap64 (wrap64 (3+wrap64 ((4+((s:Int)-265)%4)*2^n))+(v:Nat))),.int .i64 0])=_;rw[e2]
theorem qgh (R p:Nat) (F:List Nat) (bs out:List UInt8) (at_ oc most s:Nat) (oa:Option Addr) (w:World) (h:St w R p F bs at_ out oa oc most) (h2:s<30) :
  Calls Tryz.prog 220 #[.pointer (some ⟨R,0,none⟩),.int .i64 s] w (RetV w R p F bs out oa oc most (idist bs s at_)):=by
 by_cases h3:s<4
 ·have e:idist bs s at_ = .ok (s+1,at_):=by unfold idist;rw[if_pos h3]
  rw[e];have H:=zhd h;clear h e;go_enter Tryz.func220,Tryz.ntmps220;go_wp2;go_ret2;exact .inr ⟨_,_,rfl,rfl,H.out,.refl _ _⟩
 ·obtain⟨n,hn⟩:=zex ((s-2)/2);have hn5:n≤13:=by omega
  have ht:=qgc R p F bs out at_ oc most n oa w h (by omega);have hbad:∀c,itake bs at_ n = .error c→idist bs s at_ = .error c:=λc hc=>by unfold idist;rw[if_neg h3,<-hn,hc]
  have hgood:∀v a1,itake bs at_ n = .ok (v,a1)→idist bs s at_ = .ok (1+(2+s%2)*2^n+v,a1):=λv a1 hc=>by unfold idist;rw[if_neg h3,<-hn,hc]
  obtain⟨M,hM⟩:=zex (idist bs s at_);rw[<-hM]at hbad hgood ⊢;obtain⟨k,hk⟩:=zex ((2+s%2)*2^n);rw[<-hk]at hgood;have hk2:k≤3*2^13:=by rw[hk];exact zdc (by omega) (qa3 (by decide) hn5)
  have hk3:(2+(s:Int)%2)*2^n=(k:Nat):=by rw[hk];push_cast;rfl
  have H:=zhd5 ht hn hbad hgood hk3;have hM2:=zhd hM;clear hM hbad hgood hk hk3;have e1:((s:Int)-2)/2=(n:Nat):=by omega
  clear h ht hn;go_enter Tryz.func220,Tryz.ntmps220;go_wp2_with (go_at_call 134;refine H.out.1.mono ?_;rintro e w1 (⟨v,c,hm,hc0,hc1,rfl,f1⟩|⟨v,a1,hm,rfl,s1,f1⟩))
  ·go_ret2;exact .inl ⟨_,c,H.out.2.2.1 c hm,hc0,hc1,rfl,f1⟩
  ·go_ret2;refine .inr ⟨_,_,H.out.2.2.2.1 v a1 hm,?_,s1,f1⟩;have hv:=qe3 hm;have hv2:2^n≤2^13:=qa3 (by decide) hn5;have e2:wrap64 (wrap64 (1+wrap64 ((2+(s:Int)%2)*2^n))+(v:Nat))=((1+k+v:Nat):Int):=by rw[H.out.2.2.2.2];unfold wrap64;omega
   show Ending.returned (.tuple #[.int .i64 (wrap64 (wrap64 (1+wrap64 ((2+(s:Int)%2)*2^n))+(v:Nat))),.int .i64 0])=_;rw[e2]
theorem qyx {bs:List UInt8} {s a b a1:Nat} (h:idist bs s a = .ok (b,a1)):0<b∧b≤100000∨30≤s:=by
 by_cases hs:30≤s
 ·exact .inr hs
 ·left;unfold idist at h;split at h
  ·simp only[qa6,qa4]at h;omega
  ·have h13:(s-2)/2≤13:=by omega
   have hp:(2+s%2)*2^((s-2)/2)≤3*2^13:=zdc (by omega) (qa3 (by decide) h13);have hp2:2^((s-2)/2)≤2^13:=qa3 (by decide) h13;cases ht:itake bs a ((s-2)/2) with
   | error e=>rw[ht]at h;cases h
   | ok x=>obtain⟨v,a2⟩:=x;have hv:=qe3 ht;rw[ht]at h;simp only[qa6,qa4]at h;omega
theorem qvy {bs:List UInt8} {s a n a1:Nat} (h:ilength bs s a = .ok (n,a1)) (hs:s<286):n≤100000:=by
 unfold ilength at h;split at h
 ·simp only[qa6,qa4]at h;omega
 ·split at h
  ·simp only[qa6,qa4]at h;omega
  ·have h13:(s-261)/4≤6:=by omega
   have hp:(4+(s-265)%4)*2^((s-261)/4)≤7*2^6:=zdc (by omega) (qa3 (by decide) h13);have hp2:2^((s-261)/4)≤2^6:=qa3 (by decide) h13;cases ht:itake bs a ((s-261)/4) with
   | error e=>rw[ht]at h;cases h
   | ok x=>obtain⟨v,a2⟩:=x;have hv:=qe3 ht;rw[ht]at h;simp only[qa6,qa4]at h;omega
theorem zff {most:Nat} {out o:List UInt8} {c:UInt8} (h:iput most out c = .ok o):o=out++[c]∧out.length<most:=by
 unfold iput at h;split at h
 ·cases h
 ·simp only[qa6]at h;exact⟨h.symm,by omega⟩
theorem St.byte {w:World} {R p:Nat} {F:List Nat} {bs out:List UInt8} {at_ oc most:Nat} {oa:Option Addr} (h:St w R p F bs at_ out oa oc most) {i:Nat} (hi:i<out.length) :
  ∃g o,oa=some ⟨g,o,none⟩∧w.cell? ⟨g,o+i,none⟩=some (.int .u8 ((out[i]?.getD 0).toNat:Nat)):=by
 obtain⟨g,o,e,hc⟩:=(qd4 h.own).at (by simp;omega);refine⟨g,o,e,hc i _ ?_⟩;rw[qbl,qai hi];rfl
theorem qx9 (R p Q:Nat) (F:List Nat) (bs out:List UInt8) (dl:List Nat) (at_ oc most s:Nat) (oa:Option Addr) (w:World) (h:St w R p F bs at_ out oa oc most) (hT:Tb w Q dl (R::p::blk oa)) (h1:256≤s) (h2:s<286) :
  Calls Tryz.prog 207 #[.pointer (some ⟨R,0,none⟩),.int .i64 s,.pointer (some ⟨Q,0,none⟩)] w (Ret w R p F bs oa most (imatch bs most dl s out at_)):=by
 obtain⟨M,hM⟩:=zex (imatch bs most dl s out at_);rw[<-hM];obtain⟨N,hN⟩:=zex out.length;have H:=zhd5 (qib R p F bs out at_ oc most s oa w h h1 h2) hT hM h hN;have hsm:=h.sm;clear h hT hM hN;go_enter Tryz.func207,Tryz.ntmps207;go_upto_block 0 with (first|(go_at_call 219;refine H.o0.mono ?_;rintro e w1 (⟨v,c,hm,hc0,hc1,rfl,f1⟩|⟨n,a1,hm,rfl,s1,f1⟩);all_goals (try (have c0:=cell_of s1.box 0;simp only[qag,qac,qaf]at c0;have K1:=zhd3 hm s1 f1;clear hm s1 f1)))|(go_at_call 206;refine (qj8 R p Q F bs out dl a1 oc most oa w1 K1.o1 (H.o1.fr K1.l2 (by simp))).mono ?_;rintro e w2 (⟨v2,c,hm,hc0,hc1,rfl,f1⟩|⟨d,a2,hm,rfl,s2,f2⟩);all_goals (try (have K2:=zhd3 hm s2 f2;clear hm s2 f2)))|(go_at_call 220;refine (qgh R p F bs out a2 oc most d oa w2 K2.o1 (by omega)).mono ?_;rintro e w3 (⟨v3,c,hm,hc0,hc1,rfl,f1⟩|⟨b,a3,hm,rfl,s3,f3⟩);all_goals (try (have c1:=cell_of s3.box 1;rw[<-H.l4]at c1;simp only[qag,qac,qaf]at c1;have K3:=zhd3 hm s3 f3;clear hm s3 f3))))
 ·go_ret;exact .inl ⟨c,by rw[H.o2];simp[imatch,hm],hc0,hc1,rfl,f1⟩
 ·go_ret;exact .inl ⟨c,by rw[H.o2];simp[imatch,K1.o0,hm],hc0,hc1,rfl,(K1.l2.mono (by simp)).trans f1⟩
 ·go_ret;exact .inl ⟨3,by rw[H.o2];simp[imatch,K1.o0,K2.o0,show 30≤d by omega],by decide,by decide,rfl,(K1.l2.trans K2.l2).mono (by simp)⟩
 ·go_ret;exact .inl ⟨c,by rw[H.o2];simp[imatch,K1.o0,K2.o0,hm,show ¬30≤d by omega],hc0,hc1,rfl,((K1.l2.trans K2.l2).mono (by simp)).trans f1⟩
 ·go_ret;exact .inl ⟨3,by rw[H.o2];simp only[imatch,K1.o0,K2.o0,K3.out.1,if_neg (show ¬30≤d by omega)];rw[if_pos (by rw[<-H.l4];omega)],by decide,by decide,rfl,((K1.l2.trans K2.l2).trans K3.out.2.2).mono (by simp)⟩
 ·have hM3:M=match icopy most b n out with
    | .error e=>.error e
    | .ok o=>.ok (o,a3):=by
   rw[H.o2]
   simp only[imatch,K1.o0,K2.o0,K3.out.1,if_neg (show ¬30≤d by omega)]
   rw[if_neg (by rw[<-H.l4];omega)]
   rfl
  have hbp:0<b∧b≤100000:=by
   rcases qyx K3.out.1 with k|k
   ·exact k
   ·omega
  have hnl:=qvy K1.o0 h2
  have HM:=zhd2 hM3 hbp.1
  have hbp1:=hbp.2
  clear hM3 hbp c0 c1
  have dN:decide (N<b)=false:=by simp;omega
  simp only[dN]
  clear dN
  go_wp2
  go_loopg [6,11,52] n (λk s6 s11 s52 wr=>∃(j:Nat) (out1:List UInt8) (oa1:Option Addr) (oc1:Nat),s52 = .int .i64 (j:Nat)∧j+k=n∧St wr R p F bs a3 out1 oa1 oc1 most∧Way w3 R p oa wr oa1∧icopy most b k out1=icopy most b n out∧b≤out1.length)
  case atStart=>exact⟨0,out,oa,oc,rfl,by omega,K3.out.2.1,.refl _ _ _ _,rfl,by rw[<-H.l4];omega⟩
  case round=>
   obtain⟨j,out1,oa1,oc1,rfl,hjk,hst,hway,hic,hbl⟩:=hrel
   have hW:Fr (R::p::blk oa) w wr:=(((K1.l2.trans K2.l2).trans K3.out.2.2).mono (by simp)).trans hway.fr
   by_cases hj:j<n
   ·obtain⟨k,rfl⟩:∃k,gk=k+1:=⟨gk-1,by omega⟩
    obtain⟨N1,hN1⟩:=zex out1.length
    have hb0:=HM.l1
    obtain⟨g,o,rfl,hby⟩:=hst.byte (i:=N1-b) (by omega)
    obtain⟨u,hu⟩:=zex (out1[N1-b]?.getD 0)
    have c1:=cell_of hst.box 1
    simp only[qag,qac,qaf]at c1
    rw[<-hN1]at c1
    rw[<-hu]at hby
    have hom:N1≤most:=by rw[hN1];exact hst.om
    have hbl1:b≤N1:=by rw[hN1];exact hbl
    rw[show o+(N1-b)=(o+(N1-b):Nat) from rfl]at hby
    have HJ:=zhd7 hst hway hic hbl hN1 hu hW
    clear hst hway hic hbl hN1 hu hW
    go_upto_region 16 with fail
    refine qcu 14 (by kernel_rfl) (by kernel_rfl) ?_
    simp only[qah,qan,qad,qaj]
    repeat (go_big_quiet_step (fail))
    refine wpQuiet_nil ?_
    have sd:=HJ.out.1.fr0 (Fr.drew1 [] wr)
    have HD:=zhd sd
    clear sd
    go_wp2_with (go_at_call 186;refine (qkh R p F bs out1 a3 oc1 most _ u wr.drew HD.out).mono ?_;rintro e w4 (⟨c,hm,hc0,hc1,rfl,f1⟩|⟨out2,a4,oa2,oc2,hm,rfl,s4,f4⟩);all_goals (have Km:=zhd hm;clear hm);all_goals (try (have K4:=zhd2 s4 f4;clear s4 f4)))
    ·go_ret
     have hm:=Km.out
     cases hp:iput most out1 u with
     | error e=>
      rw[hp]at hm
      have hec:e=c:=by simpa[Except.map] using hm
      have e1:icopy most b n out = .error c:=by rw[<-HJ.out.2.2.1,icopy,<-HJ.out.2.2.2.2.1,<-HJ.out.2.2.2.2.2.1,hp,hec]
      exact .inl ⟨c,by rw[HM.o0,e1],hc0,hc1,rfl,(HJ.out.2.2.2.2.2.2.drew).step f1 (λx hx=>by
       rcases qbh.1 hx with h3|hx
       ·exact .inl (by simp[h3])
       ·rcases qbh.1 hx with h3|hx
        ·exact .inl (by simp[h3])
        ·rcases HJ.out.2.1.new x hx with h3|h3
         ·exact .inl (by simp[h3])
         ·exact .inr (qar (qar (qar K1.l2.size K2.l2.size) K3.out.2.2.size) h3))⟩
     | ok o2=>rw[hp]at hm;cases hm
    ·go_roundg k
     case measure=>omega
     case rel=>
      have hm:=Km.out
      cases hp:iput most out1 u with
      | error e=>rw[hp]at hm;cases hm
      | ok o2=>
       rw[hp]at hm
       have hm2:o2=out2∧a3=a4:=by simpa[Except.map] using hm
       obtain⟨rfl,rfl⟩:=hm2
       have hi:=zff hp
       refine⟨j+1,o2,oa2,oc2,by go_num,by omega,K4.o0,HJ.out.2.1.trans ((Way.of0 _ _ _ _ _ (Fr.drew1 [] wr)).trans K4.l1),?_,by rw[hi.1];simp;have:=HJ.out.2.2.2.1;omega⟩
       rw[<-HJ.out.2.2.1,icopy,<-HJ.out.2.2.2.2.1,<-HJ.out.2.2.2.2.2.1,hp]
   ·have hk0:gk=0:=by omega
    subst hk0
    have e1:icopy most b n out = .ok out1:=by rw[<-hic,icopy]
    have HE:=zhd3 hst hway e1
    clear hst hway hic hbl e1
    obtain rfl:j=n:=by omega
    go_wp2
    go_ret
    exact .inr ⟨out1,a3,oa1,oc1,by rw[HM.o0,HE.l2],rfl,HE.o0,(Way.of _ _ _ _ _ ((K1.l2.trans K2.l2).trans K3.out.2.2)).trans HE.o1⟩
theorem zhf (R p:Nat) (F:List Nat) (bs out:List UInt8) (at_ oc most s:Nat) (oa:Option Addr) (w:World) (h:St w R p F bs at_ out oa oc most) (hs:s<256) :
  Calls Tryz.prog 186 #[.pointer (some ⟨R,0,none⟩),.int .u8 s] w (Ret w R p F bs oa most ((iput most out (UInt8.ofNat s)).map λo=>(o,at_))):=by
 have:=qkh R p F bs out at_ oc most oa (UInt8.ofNat s) w h;rwa [show ((UInt8.ofNat s).toNat:Int)=(s:Int) from by simp[qcy];omega]at this
theorem qq8 {bs:List UInt8} {most:Nat} {dl:List Nat} {s a a1:Nat} {out o:List UInt8} (h:imatch bs most dl s out a = .ok (o,a1)):a≤a1:=by
 have ht:∀{n a v b:Nat},itake bs a n = .ok (v,b)→a≤b:=λ{n a v b} h=>by
  unfold itake at h;split at h
  ·simp only[qa6,qa4]at h;omega
  ·cases h
 unfold imatch at h;split at h
 ·cases h
 ·rename_i n a2 h1;have e1:a≤a2:=by
   unfold ilength at h1;split at h1
   ·simp only[qa6,qa4]at h1;omega
   ·split at h1
    ·simp only[qa6,qa4]at h1;omega
    ·split at h1
     ·cases h1
     ·rename_i hh;have:=ht hh;simp only[qa6,qa4]at h1;omega
  split at h
  ·cases h
  ·rename_i d a3 h2;have e2:=(qkl h2).2;split at h
   ·cases h
   ·split at h
    ·cases h
    ·rename_i b a4 h3;have e3:a3≤a4:=by
      unfold idist at h3;split at h3
      ·simp only[qa6,qa4]at h3;omega
      ·split at h3
       ·cases h3
       ·rename_i hh;have:=ht hh;simp only[qa6,qa4]at h3;omega
     split at h
     ·cases h
     ·split at h
      ·cases h
      ·simp only[qa6,qa4]at h;omega
theorem ql8 (R p PL PD:Nat) (F:List Nat) (bs out:List UInt8) (ll dl:List Nat) (at_ oc most:Nat) (oa:Option Addr) (w:World) (h:St w R p F bs at_ out oa oc most) (hL:Tb w PL ll (R::p::blk oa)) (hD:Tb w PD dl (R::p::blk oa)) :
  Calls Tryz.prog 188 #[.pointer (some ⟨R,0,none⟩),.pointer (some ⟨PL,0,none⟩),.pointer (some ⟨PD,0,none⟩)] w (Ret w R p F bs oa most (isyms bs most ll dl (fuel bs) out at_)):=by
 obtain⟨M,hM⟩:=zex (isyms bs most ll dl (fuel bs) out at_);rw[<-hM];have H:=zhd4 h hL hD hM;clear h hL hD hM;go_enter Tryz.func188,Tryz.ntmps188;go_wp2;go_step3;go_wp2;go_step3;go_wp2;go_loopg [6,7,8,9,10] (fuel bs) (λk s6 s7 s8 s9 s10 wr=>∃(a1:Nat) (out1:List UInt8) (oa1:Option Addr) (oc1:Nat),St wr R p F bs a1 out1 oa1 oc1 most∧Way w R p oa wr oa1∧isyms bs most ll dl k out1 a1=M∧8*bs.length+1≤a1+k);case atStart=>exact⟨at_,out,oa,oc,H.o0,.refl _ _ _ _,H.l3.symm,by unfold fuel;omega⟩
 case round=>
  obtain⟨a1,out1,oa1,oc1,hst,hway,his,hfu⟩:=hrel;have ha1:=hst.pF.2;obtain⟨k,rfl⟩:∃k,gk=k+1:=⟨gk-1,by omega⟩;have c0:=cell_of hst.box 0;simp only[qag,qac,qaf]at c0;have HJ:=zhd5 hst hway his (H.o1.way hway) (H.o2.way hway);clear hst hway his;go_wp2_with (first|(go_at_call 206;refine (qj8 R p PL F bs out1 ll a1 oc1 most oa1 wr HJ.o0 HJ.o3).mono ?_;rintro e w2 (⟨v2,c,hm,hc0,hc1,rfl,f1⟩|⟨s,a2,hm,rfl,s2,f2⟩);all_goals (try (have K2:=zhd3 hm s2 f2;clear hm s2 f2)))|(go_at_call 186;refine (zhf R p F bs out1 a2 oc1 most s oa1 w2 K2.o1 (by omega)).mono ?_;rintro e w4 (⟨c,hm,hc0,hc1,rfl,f1⟩|⟨out2,a4,oa2,oc2,hm,rfl,s4,f4⟩);all_goals (have Km:=zhd hm;clear hm);all_goals (try (have K4:=zhd2 s4 f4;clear s4 f4)))|(go_at_call 207;refine (qx9 R p PD F bs out1 dl a2 oc1 most s oa1 w2 K2.o1 (HJ.l4.fr K2.l2 (by simp)) (by omega) (by omega)).mono ?_;rintro e w4 (⟨c,hm,hc0,hc1,rfl,f1⟩|⟨out2,a4,oa2,oc2,hm,rfl,s4,f4⟩);all_goals (have Km:=zhd hm;clear hm);all_goals (try (have K4:=zhd2 s4 f4;clear s4 f4))))
  ·rw[Exit.noGoto_ret];go_ret;exact .inl ⟨c,by rw[<-HJ.o2,isyms,hm],hc0,hc1,rfl,HJ.o1.frW f1⟩
  ·rw[Exit.noGoto_ret];go_ret;have hm:=Km.out;cases hp:iput most out1 (UInt8.ofNat s) with
   | ok o2=>rw[hp]at hm;cases hm
   | error e=>
    rw[hp]at hm;have hec:e=c:=by simpa[Except.map] using hm
    have e1:isyms bs most ll dl (k+1) out1 a1 = .error c:=by rw[isyms,K2.o0];simp only[if_pos (show s<256 by omega),hp,hec]
    exact .inl ⟨c,by rw[<-HJ.o2,e1],hc0,hc1,rfl,(HJ.o1.trans (Way.of _ _ _ _ _ K2.l2)).frW f1⟩
  ·go_roundg k;case measure=>omega
   case rel=>
    have hm:=Km.out;cases hp:iput most out1 (UInt8.ofNat s) with
    | error e=>rw[hp]at hm;cases hm
    | ok o2=>
     rw[hp]at hm;have hm2:o2=out2∧a2=a4:=by simpa[Except.map] using hm
     obtain⟨rfl,rfl⟩:=hm2;have hlt:=(qkl K2.o0).2;refine⟨a2,o2,oa2,oc2,K4.o0,(HJ.o1.trans (Way.of _ _ _ _ _ K2.l2)).trans K4.l1,?_,by omega⟩;rw[<-HJ.o2,isyms,K2.o0];simp only[if_pos (show s<256 by omega),hp]
  ·have hse:((s:Int)==256)=true:=by assumption
   have hs:s=256:=by have:=beq_iff_eq.1 hse;omega
   rw[Exit.noGoto_ret];go_ret;have e1:isyms bs most ll dl (k+1) out1 a1 = .ok (out1,a2):=by rw[isyms,K2.o0];simp only[if_neg (show ¬s<256 by omega),if_pos hs]
   exact .inr ⟨out1,a2,oa1,oc1,by rw[<-HJ.o2,e1],rfl,K2.o1,HJ.o1.trans (Way.of _ _ _ _ _ K2.l2)⟩
  ·have hse:((s:Int)==256)=false:=by assumption
   have hs:s≠256:=λhe=>by rw[he]at hse;cases hse
   rw[Exit.noGoto_ret];go_ret;have e1:isyms bs most ll dl (k+1) out1 a1 = .error 3:=by rw[isyms,K2.o0];simp only[if_neg (show ¬s<256 by omega),if_neg hs,if_pos (show 286≤s by omega)]
   exact .inl ⟨3,by rw[<-HJ.o2,e1],by decide,by decide,rfl,HJ.o1.frW (K2.l2.mono (by simp))⟩
  ·have hse:((s:Int)==256)=false:=by assumption
   rw[Exit.noGoto_ret];go_ret;have hs:s≠256:=λhe=>by rw[he]at hse;cases hse
   have e1:isyms bs most ll dl (k+1) out1 a1 = .error c:=by rw[isyms,K2.o0];simp only[if_neg (show ¬s<256 by omega),if_neg hs,if_neg (show ¬286≤s by omega),Km.out]
   exact .inl ⟨c,by rw[<-HJ.o2,e1],hc0,hc1,rfl,(HJ.o1.trans (Way.of _ _ _ _ _ K2.l2)).frW f1⟩
  ·have hse:((s:Int)==256)=false:=by assumption
   go_roundg k;case measure=>omega
   case rel=>
    have hs:s≠256:=λhe=>by rw[he]at hse;cases hse
    have hlt:=(qkl K2.o0).2;have hlt2:=qq8 Km.out;refine⟨a4,out2,oa2,oc2,K4.o0,(HJ.o1.trans (Way.of _ _ _ _ _ K2.l2)).trans K4.l1,?_,by omega⟩;rw[<-HJ.o2,isyms,K2.o0];simp only[if_neg (show ¬s<256 by omega),if_neg hs,if_neg (show ¬286≤s by omega),Km.out]
end Go.Proofs.YtkmpfgpfbmeihaaGreatDoor.inf
namespace Go.Proofs.YtkmpfgpfbmeihaaGreatDoor.inf
open Go bm bl huf
theorem qe4 {bs:List UInt8} {a n v a1:Nat} (h:itake bs a n = .ok (v,a1)):a1=a+n:=by
 unfold itake at h;split at h
 ·simp only[qa6,qa4]at h;exact h.2.symm
 ·cases h
theorem qhx {bs:List UInt8} {most:Nat}:∀{n:Nat} {out o:List UInt8} {q a:Nat},ibytes bs most n out q = .ok (o,a)→8*q≤a
 | 0,out,o,q,a,h=>by simp only[ibytes,qa6,qa4]at h;omega
 | n+1,out,o,q,a,h=>by
  rw[ibytes]at h;split at h
  ·split at h
   ·cases h
   ·have:=qhx h;omega
  ·cases h
theorem qvv {bs:List UInt8} {most a a1:Nat} {out o:List UInt8} (h:istored bs most out a = .ok (o,a1)):a≤a1:=by
 unfold istored at h;split at h
 ·split at h
  ·have:=qhx h;omega
  ·cases h
 ·cases h
theorem qll {bs:List UInt8} {most:Nat} {ll dl:List Nat}:∀{f:Nat} {out o:List UInt8} {a a1:Nat},isyms bs most ll dl f out a = .ok (o,a1)→a≤a1
 | 0,out,o,a,a1,h=>by simp only[isyms]at h;cases h
 | f+1,out,o,a,a1,h=>by
  rw[isyms]at h;split at h
  ·cases h
  ·rename_i s a2 hs;have h1:=(qkl hs).2;split at h
   ·split at h
    ·cases h
    ·have:=qll h;omega
   ·split at h
    ·simp only[qa6,qa4]at h;omega
    ·split at h
     ·cases h
     ·split at h
      ·cases h
      ·rename_i o2 a3 hm;have h2:=qq8 hm;have:=qll h;omega
theorem qq9 {bs:List UInt8}:∀{ps fs gs:List Nat} {a a1:Nat},ifirst bs ps fs a = .ok (gs,a1)→a≤a1
 | [],fs,gs,a,a1,h=>by simp only[ifirst,qa6,qa4]at h;omega
 | i::t,fs,gs,a,a1,h=>by
  rw[ifirst]at h;split at h
  ·cases h
  ·rename_i v a2 hm;have h1:=qe4 hm;have:=qq9 h;omega
theorem qpq {bs:List UInt8} {ls:List Nat} {n:Nat}:∀{f:Nat} {L K:List Nat} {a a1:Nat},ilens bs ls n f L a = .ok (K,a1)→a≤a1
 | 0,L,K,a,a1,h=>by simp only[ilens]at h;cases h
 | f+1,L,K,a,a1,h=>by
  rw[ilens]at h;split at h
  ·simp only[qa6,qa4]at h;omega
  ·split at h
   ·cases h
   ·rename_i s a2 hs;have h1:=(qkl hs).2;split at h
    ·have:=qpq h;omega
    ·split at h
     ·cases h
     ·rename_i v a3 hm;have h2:=qe4 hm;split at h
      ·cases h
      ·have:=qpq h;omega
theorem zfk {bs:List UInt8} {most a a1:Nat} {out o:List UInt8} (h:idyn bs most out a = .ok (o,a1)):a≤a1:=by
 unfold idyn at h;split at h
 ·cases h
 ·rename_i v1 b1 h1;have e1:=qe4 h1;split at h
  ·cases h
  ·split at h
   ·cases h
   ·rename_i v2 b2 h2;have e2:=qe4 h2;split at h
    ·cases h
    ·split at h
     ·cases h
     ·rename_i v3 b3 h3;have e3:=qe4 h3;unfold idyn2 at h;split at h
      ·cases h
      ·rename_i fs b4 h4;have e4:=qq9 h4;split at h
       ·cases h
       ·unfold idyn3 at h;split at h
        ·cases h
        ·rename_i ls b5 h5;have e5:=qpq h5;split at h
         ·cases h
         ·split at h
          ·cases h
          ·split at h
           ·cases h
           ·have:=qll h;omega
theorem qm5 {bs:List UInt8} {most k a a1:Nat} {out o:List UInt8} (h:iblock bs most k out a = .ok (o,a1)):a≤a1:=by
 unfold iblock at h;split at h
 ·exact qvv h
 ·split at h
  ·exact qll h
  ·exact zfk h
open Go.RowKit lib
theorem qun {w:World} {B:Nat} {e:TypeId} {ao:Option Addr} {vs:List Value} (h:Fresh w B e ao vs) (h0:0<vs.length):∃g,ao=some ⟨g,0,none⟩∧B≤g∧∀j v,vs[j]?=some v→w.cell? ⟨g,j,none⟩=some v:=by
 rcases h with h|⟨g,cur,rfl,hB,hg,ht⟩
 ·rw[h]at h0;simp at h0
 ·refine⟨g,rfl,hB,λj v hv=>?_⟩;rw[cell_of hg];rw[<-ht,qbs]at hv;split at hv
  ·simpa using hv
  ·cases hv
theorem zgf (x y:Nat) (hx:x<256) (hy:y<256):bits .or .i64 (x:Int) ((y:Int)*256)=((x+256*y:Nat):Int):=by have h1:=qk5 x y 8 (by simpa using hx);rw[show (y:Int)*256=((y*256:Nat):Int) by omega,qgw x (y*256) (by omega) (by omega),show y*256=y*2^8 from rfl,h1]
theorem qwm (x:Nat) (h:x<256):bits .xor .u8 (if IntKind.u8.signed=true then -1 else IntKind.u8.max) ((x:Nat):Int)=((255-x:Nat):Int):=by
 have hall:∀y:Fin 256,bits .xor .u8 (if IntKind.u8.signed=true then -1 else IntKind.u8.max) ((y.val:Nat):Int)=((255-y.val:Nat):Int):=by decide +kernel
 exact hall ⟨x,h⟩
theorem qem (bs:List UInt8) (i:Nat):byteAt bs i<256:=qbc _
theorem qrj {bs:List UInt8} {q n j:Nat} (hj:j<n) (hq:q+j<bs.length):(((bs.drop q).take n).map bv)[j]?=some (.int .u8 (byteAt bs (q+j):Nat)):=by rw[qbl,qbs,if_pos hj,qc5,qai hq];simp[bv,byteAt,hq]
theorem qu9 (R p:Nat) (F:List Nat) (bs out:List UInt8) (at_ oc most:Nat) (oa:Option Addr) (w:World) (h:St w R p F bs at_ out oa oc most) :
  Calls Tryz.prog 166 #[.pointer (some ⟨R,0,none⟩)] w (Ret w R p F bs oa most (istored bs most out at_)):=by
 obtain⟨M,hM⟩:=zex (istored bs most out at_);rw[<-hM];have c0:=cell_of h.box 0;simp only[qag,qac,qaf]at c0;obtain⟨q,hq⟩:=zex ((at_+7)/8);by_cases hl:q+4≤bs.length
 ·have hb4:Calls Tryz.prog 185 #[.pointer (some ⟨p,0,none⟩),.int .i64 4] w (bits.BytesGood p F bs at_ 4 w):=bits.qoq p F bs at_ 4 w h.rd (by omega) (by omega);have hM2:M=if byteAt bs q+byteAt bs (q+2)=255∧byteAt bs (q+1)+byteAt bs (q+3)=255 then ibytes bs most (byteAt bs q+256*byteAt bs (q+1)) out (q+4) else .error 3:=by rw[hM];unfold istored;rw[<-hq,if_pos hl]
  have e0:(((bs.drop q).take 4).map bv).length=4:=by simp;omega
  obtain⟨x0,hx0⟩:∃x,x=byteAt bs q:=⟨_,rfl⟩;obtain⟨x1,hx1⟩:∃x,x=byteAt bs (q+1):=⟨_,rfl⟩;obtain⟨x2,hx2⟩:∃x,x=byteAt bs (q+2):=⟨_,rfl⟩;obtain⟨x3,hx3⟩:∃x,x=byteAt bs (q+3):=⟨_,rfl⟩;have g0:=qrj (bs:=bs) (q:=q) (n:=4) (j:=0) (by omega) (by omega);have g1:=qrj (bs:=bs) (q:=q) (n:=4) (j:=1) (by omega) (by omega);have g2:=qrj (bs:=bs) (q:=q) (n:=4) (j:=2) (by omega) (by omega);have g3:=qrj (bs:=bs) (q:=q) (n:=4) (j:=3) (by omega) (by omega);rw[qbn,<-hx0]at g0;rw[<-hx1]at g1;rw[<-hx2]at g2;rw[<-hx3]at g3;rw[<-hx0,<-hx1,<-hx2,<-hx3]at hM2;have b0:x0<256:=by rw[hx0];exact qem _ _
  have b1:x1<256:=by rw[hx1];exact qem _ _
  have b2:x2<256:=by rw[hx2];exact qem _ _
  have b3:x3<256:=by rw[hx3];exact qem _ _
  have G:=zhd5 g0 g1 g2 g3 e0;have H:=zhd4 h hb4 hM2 hq;clear h hb4 hM2 hM hq hx0 hx1 hx2 hx3 g0 g1 g2 g3 e0;go_enter Tryz.func166,Tryz.ntmps166;go_upto_region 4 with (go_at_call 185;refine H.l1.1.mono ?_;rintro e w1 ⟨ao,rfl,hfr,_,_,hrd,f1⟩;rw[<-H.out.2.2.2]at hfr hrd;obtain⟨g,rfl,_,hc⟩:=qun hfr (by rw[G.out.2.2.2.2];decide);have d0:=hc 0 _ G.out.1;have d1:=hc 1 _ G.out.2.1;have d2:=hc 2 _ G.out.2.2.1;have d3:=hc 3 _ G.out.2.2.2.1;have K1:=zhd2 (H.o0.take f1 hrd) f1;clear hc hfr hrd f1);obtain⟨n,hn⟩:=zex (x0+256*x1);obtain⟨y2,hy2⟩:∃y,y=255-x2:=⟨_,rfl⟩;obtain⟨y3,hy3⟩:∃y,y=255-x3:=⟨_,rfl⟩;have hor:=zgf x0 x1 b0 b1;have hxo2:=qwm x2 b2;have hxo3:=qwm x3 b3;rw[<-hn]at hor;rw[<-hy2]at hxo2;rw[<-hy3]at hxo3;have hnb:n<65536:=by omega
  have hnN:=zhd3 hn hy2 hy3;have c02:x0+x2=255↔x0=y2:=by omega
  have c13:x1+x3=255↔x1=y3:=by omega
  have hC:=zhd2 c02 c13;have by2:y2<256:=by omega
  have by3:y3<256:=by omega
  clear hn hy2 hy3 c02 c13;go_quiet (fail);obtain⟨w2,hw2⟩:=zex (w1.drewN nq);have f2:Fr [] w1 w2:=by rw[hw2];exact .drewN _ _ _
  replace d0:=f2.cell d0 (by simp);replace d1:=f2.cell d1 (by simp);replace d2:=f2.cell d2 (by simp);replace d3:=f2.cell d3 (by simp);rw[<-hw2];have K2:=zhd2 (K1.o0.fr0 f2) f2;clear hw2 f2 hor;go_upto_region 5 with fail;have bad:¬(x0+x2=255∧x1+x3=255)→M = .error 3:=λhne=>by rw[H.out.2.2.1,if_neg hne]
  have hB:=zhd bad;clear bad;by_cases p0:x0=y2
  ·have n0:((x0:Int)!=(y2:Int))=false:=by rw[p0];simp
   by_cases p1:x1=y3
   ·have n1:((x1:Int)!=(y3:Int))=false:=by rw[p1];simp
    have hM3:M=ibytes bs most n out (q+4):=by rw[H.out.2.2.1,if_pos ⟨hC.o0.2 p0,hC.out.2.2 p1⟩,hnN.o0]
    have HM:=zhd3 p0 p1 hM3;clear p0 p1 hM3;go_quiet (fail);obtain⟨w3,hw3⟩:=zex (w2.drewN nq);have f3:Fr [] w2 w3:=by rw[hw3];exact .drewN _ _ _
    have s3:=K2.o0.fr0 f3;rw[show q*8+8*4=8*(q+4) by omega]at s3;rw[<-hw3];have K3:=zhd3 s3 f3 (((Way.of _ _ _ _ _ K1.l1).trans (Way.of0 _ _ R p oa K2.l1)).trans (Way.of0 _ _ _ _ _ f3));clear hw3 s3 f3 d0 d1 d2 d3 c0 n0 n1 hxo2 hxo3;go_wp2;go_loopg [2,6,7,8,48] n (λk s2 s6 s7 s8 s48 wr=>∃(j:Nat) (out1:List UInt8) (oa1:Option Addr) (oc1:Nat),s48 = .int .i64 (j:Nat)∧j+k=n∧St wr R p F bs (8*(q+4+j)) out1 oa1 oc1 most∧Way w R p oa wr oa1∧ibytes bs most k out1 (q+4+j)=ibytes bs most n out (q+4));case atStart=>exact⟨0,out,oa,oc,rfl,by omega,K3.o0,K3.l2,rfl⟩
    case round=>
     obtain⟨j,out1,oa1,oc1,rfl,hjk,hst,hway,hib⟩:=hrel;obtain⟨m,hm⟩:=zex (q+4+j);rw[<-hm]at hst hib;by_cases hj:j<n
     ·obtain⟨k,rfl⟩:∃k,gk=k+1:=⟨gk-1,by omega⟩;have c0:=cell_of hst.box 0;simp only[qag,qac,qaf]at c0;by_cases hl2:m<bs.length
      ·have hb1:Calls Tryz.prog 185 #[.pointer (some ⟨p,0,none⟩),.int .i64 1] wr (bits.BytesGood p F bs (8*m) 1 wr):=bits.qoq p F bs (8*m) 1 wr hst.rd (by omega) (by omega);obtain⟨u,hu⟩:=zex (bs[m]?.getD 0);have g0:=qrj (bs:=bs) (q:=m) (n:=1) (j:=0) (by omega) (by omega);have gl:(((bs.drop m).take 1).map bv).length=1:=by simp;omega
       rw[qbn,show byteAt bs m=u.toNat by rw[hu];rfl]at g0;have HJ:=zhd8 hst hway hib hb1 g0 gl hm hu;clear hst hway hib hb1 g0 gl hm hu;go_wp2_with (first|(go_at_call 185;refine HJ.out.2.2.2.1.mono ?_;rintro e w4 ⟨ao,rfl,hfr,_,_,hrd,f1⟩;rw[show (8*m+7)/8=m by omega]at hfr hrd;obtain⟨g4,rfl,_,hc⟩:=qun hfr (by rw[HJ.out.2.2.2.2.2.1];decide);have d0:=hc 0 _ HJ.out.2.2.2.2.1;have K4:=zhd2 (HJ.out.1.take f1 hrd) f1;clear hc hfr hrd f1)|(go_at_call 186;refine (qkh R p F bs out1 _ oc1 most oa1 u w4 K4.o0).mono ?_;rintro e w5 (⟨c,hm,hc0,hc1,rfl,f1⟩|⟨out2,a4,oa2,oc2,hm,rfl,s4,f4⟩);all_goals (have Km:=zhd hm;clear hm);all_goals (try (have K5:=zhd2 s4 f4;clear s4 f4))))
       ·go_ret;have hmm:=Km.out;cases hp:iput most out1 u with
        | ok o2=>rw[hp]at hmm;cases hmm
        | error e=>
         rw[hp]at hmm;have hec:e=c:=by simpa[Except.map] using hmm
         have e1:ibytes bs most (k+1) out1 m = .error c:=by rw[ibytes,if_pos hl2,<-HJ.out.2.2.2.2.2.2.2,hp,hec]
         exact .inl ⟨c,by rw[HM.out.2.2,<-HJ.out.2.2.1,e1],hc0,hc1,rfl,(HJ.out.2.1.trans (Way.of _ _ _ _ _ K4.l1)).frW f1⟩
       ·go_roundg k;case measure=>omega
        case rel=>
         have hmm:=Km.out;cases hp:iput most out1 u with
         | error e=>rw[hp]at hmm;cases hmm
         | ok o2=>
          rw[hp]at hmm;have hm2:o2=out2∧m*8+8*1=a4:=by simpa[Except.map] using hmm
          obtain⟨rfl,rfl⟩:=hm2;have s5:=K5.o0;rw[show m*8+8*1=8*(q+4+(j+1)) by have:=HJ.out.2.2.2.2.2.2.1;omega]at s5;refine⟨j+1,o2,oa2,oc2,by go_num,by omega,s5,(HJ.out.2.1.trans (Way.of _ _ _ _ _ K4.l1)).trans K5.l1,?_⟩;rw[<-HJ.out.2.2.1,ibytes,if_pos hl2,<-HJ.out.2.2.2.2.2.2.2,hp,show q+4+(j+1)=m+1 by have:=HJ.out.2.2.2.2.2.2.1;omega]
      ·have hb1:Calls Tryz.prog 185 #[.pointer (some ⟨p,0,none⟩),.int .i64 1] wr _:=bits.qrs p F bs (8*m) 1 wr hst.rd (.inr (by omega));have e1:ibytes bs most (k+1) out1 m = .error 4:=by rw[ibytes,if_neg hl2]
       have HJ:=zhd5 hst hway hib hb1 e1;clear hst hway hib hb1 e1 hm;go_wp2_with (go_at_call 185;refine HJ.out.2.2.2.1.mono ?_;rintro e w4 ⟨rfl,_,f1⟩);go_ret;exact .inl ⟨4,by rw[HM.out.2.2,<-HJ.out.2.2.1,HJ.out.2.2.2.2],by decide,by decide,rfl,HJ.out.2.1.frW (f1.mono (by simp))⟩
     ·have hk0:gk=0:=by omega
      subst hk0;have e1:ibytes bs most n out (q+4) = .ok (out1,8*m):=by rw[<-hib,ibytes]
      have HE:=zhd3 hst hway e1;clear hst hway hib e1 hm;obtain rfl:j=n:=by omega
      go_wp2;go_ret;exact .inr ⟨out1,_,oa1,oc1,by rw[HM.out.2.2,HE.l2],rfl,HE.o0,HE.o1⟩
   ·have n1:((x1:Int)!=(y3:Int))=true:=by simp;omega
    have hM3:M = .error 3:=hB.out (λh=>p1 (hC.l1.1 h.2));have HM:=zhd3 p0 p1 hM3;clear p0 p1 hM3;go_quiet (fail);go_wp2;go_ret;exact .inl ⟨3,HM.out.2.2,by decide,by decide,rfl,((K1.l1.trans (K2.l1.mono (by simp))).trans (Fr.drewN _ _ _)).mono (by simp)⟩
  ·have n0:((x0:Int)!=(y2:Int))=true:=by simp;omega
   have hM3:M = .error 3:=hB.out (λh=>p0 (hC.o0.1 h.1));have HM:=zhd2 p0 hM3;clear p0 hM3;go_quiet (fail);go_wp2;go_ret;exact .inl ⟨3,HM.l1,by decide,by decide,rfl,((K1.l1.trans (K2.l1.mono (by simp))).trans (Fr.drewN _ _ _)).mono (by simp)⟩
 ·have hb4:Calls Tryz.prog 185 #[.pointer (some ⟨p,0,none⟩),.int .i64 4] w _:=bits.qrs p F bs at_ 4 w h.rd (.inr (by omega));have hM2:M = .error 4:=by rw[hM];unfold istored;rw[<-hq,if_neg hl]
  have H:=zhd2 hb4 hM2;clear h hb4 hM2 hM hq;go_enter Tryz.func166,Tryz.ntmps166;go_wp2_with (go_at_call 185;refine H.o0.mono ?_;rintro e w1 ⟨rfl,_,f1⟩);go_ret;exact .inl ⟨4,H.l1,by decide,by decide,rfl,f1.mono (by simp)⟩
def WholeGood (w:World) (ls:List Nat) (few:Bool) (e:Ending) (w':World):Prop:=
 (iwhole ls few=false∧e = .returned (.tuple #[.pointer none,.int .i64 3])∧Fr [] w w')∨
 (iwhole ls few=true∧NewTab w ls e w')
theorem some_snoc (l:List Nat) (x:Nat):some_ (l++[x])=some_ l+if 0<x then 1 else 0:=by unfold some_;rw[qg0,qab];split<;>simp[*]
theorem qx3 (l:List Nat) (x:Nat):ones (l++[x])=(ones l&&decide (x≤1)):=by unfold ones;rw[List.all_append];simp
theorem qw7 (l:List Nat):some_ l≤l.length:=qfd _ _
theorem qlv (a:Option Addr) (cap:Nat) (ls:List Nat) (few:Bool) (w:World) (h:Ri w a cap ls) (hle:∀l∈ls,l≤15) (hlen:ls.length≤400) :
  Calls Tryz.prog 190 #[.slice a ls.length cap,.bool few] w (WholeGood w ls few):=by
 obtain⟨N,hN⟩:=zex ls.length;by_cases hw:weight ls≤32768
 ·have hnew:=qsm a cap ls w h hle hlen hw;rw[<-hN]at hnew hlen ⊢;have H:=zhd5 h hle hN hnew hw;clear h hle hN hnew hw;go_enter Tryz.func190,Tryz.ntmps190;go_upto_block 0 with (go_at_call 187;refine H.out.2.2.2.1.mono ?_;rintro e w1 ⟨P,D,first,sa,sc,rfl,htb,f1⟩;have H1:=zhd2 htb f1;clear htb f1);go_wp2;go_loopg [8,9,11,21] N (λk s8 s9 s11 s21 wr=>∃i:Nat,s21 = .int .i64 (i:Nat)∧s8 = .int .i64 (some_ (ls.take i):Nat)∧s9 = .bool (ones (ls.take i))∧i+k=N∧w1=wr);case atStart=>exact⟨0,rfl,rfl,rfl,by omega,rfl⟩
  case round=>
   obtain⟨i,rfl,rfl,rfl,hik,rfl⟩:=hrel;by_cases hi:i<N
   ·obtain⟨k,rfl⟩:∃k,gk=k+1:=⟨gk-1,by omega⟩;have hil:i<ls.length:=by rw[<-H.out.2.2.1];exact hi
    obtain⟨ga,o,ha,hc⟩:=(H.out.1.fr H1.out.2).at hil;subst ha;have hx15:=H.out.2.1 _ (qdj hil);have ht:ls.take (i+1)=ls.take i++[ls[i]]:=by rw[qca hil]
    obtain⟨x,hx⟩:=zex (ls[i]);rw[<-hx]at hc hx15 ht;obtain⟨c,hcn⟩:=zex (some_ (ls.take i));have hcl:c≤400:=by rw[hcn];have:=qw7 (ls.take i);rw[qaq]at this;omega
    obtain⟨b,hb⟩:=zex (ones (ls.take i));have e1:some_ (ls.take (i+1))=c+if 0<x then 1 else 0:=by rw[ht,some_snoc,hcn]
    have e2:ones (ls.take (i+1))=(b&&decide (x≤1)):=by rw[ht,qx3,hb]
    rw[<-hcn,<-hb];have HI:=zhd2 e1 e2;clear e1 e2 hcn hb ht hx;by_cases h0:x=0
    ·subst h0;go_wp2;go_roundg k;case measure=>omega
     case rel=>exact⟨i+1,by go_num,by rw[HI.o0];rfl,by rw[HI.l1];simp,by omega,rfl⟩
    ·have d0:decide ((0:Int)<x)=true:=by simp;omega
     by_cases h1:x=1
     ·subst h1;cases b
      ·go_wp2;go_roundg k;case measure=>omega
       case rel=>exact⟨i+1,by go_num,by rw[HI.o0];rfl,by rw[HI.l1];rfl,by omega,rfl⟩
      ·go_wp2;go_roundg k;case measure=>omega
       case rel=>exact⟨i+1,by go_num,by rw[HI.o0];rfl,by rw[HI.l1];rfl,by omega,rfl⟩
     ·have d1:((x:Int)==1)=false:=by simp;omega
      have d2:decide (x≤1)=false:=by simp;omega
      have HD:=zhd d2;clear d2;cases b
      ·go_wp2;go_roundg k;case measure=>omega
       case rel=>exact⟨i+1,by go_num,by rw[HI.o0,if_pos (by omega)];rfl,by rw[HI.l1];rfl,by omega,rfl⟩
      ·go_wp2;go_roundg k;case measure=>omega
       case rel=>exact⟨i+1,by go_num,by rw[HI.o0,if_pos (by omega)];rfl,by rw[HI.l1,HD.out];rfl,by omega,rfl⟩
   ·obtain rfl:i=N:=by omega
    have et:ls.take i=ls:=qbd (by rw[<-H.out.2.2.1];exact qae _);rw[et];obtain⟨c,hcn⟩:=zex (some_ ls);obtain⟨b,hb⟩:=zex (ones ls);have hcl:c≤400:=by rw[hcn];have:=qw7 ls;rw[<-H.out.2.2.1]at this;omega
    have hiw:iwhole ls few=(decide (weight ls=32768)||(few&&(decide (c<2)&&b))):=by unfold iwhole;rw[<-hcn,<-hb,decide_eq_true H.out.2.2.2.2,Bool.true_and]
    have hcp:=qrk a cap ls w1 (H.out.1.fr H1.out.2) H.out.2.1 (by rw[<-H.out.2.2.1];omega);rw[<-H.out.2.2.1]at hcp;obtain⟨cp,hcp2⟩:=zex (decide (weight ls=32768));rw[<-hcp2]at hiw hcp;rw[<-hcn,<-hb];have HC:=zhd2 hcp hiw;clear hcp hiw hcp2 hcn hb et hi hik;have fin:iwhole ls few=false→WholeGood w ls few (.returned (.tuple #[.pointer none,.int .i64 3])) w1:=λh0=>.inl ⟨h0,rfl,H1.out.2⟩
    have fin2:iwhole ls few=true→WholeGood w ls few (.returned (.tuple #[.pointer (some ⟨P,0,none⟩),.int .i64 0])) w1:=λh0=>.inr ⟨h0,P,D,first,sa,sc,rfl,H1.out.1,H1.out.2⟩
    have HF:=zhd2 fin fin2;clear fin fin2;cases cp
    ·cases few
     ·go_wp2_with (go_at_call 208;refine HC.o0.mono ?_;rintro e w2 ⟨rfl,rfl⟩);go_ret2;exact HF.o0 (by rw[HC.l1];rfl)
     ·by_cases h2:c<2
      ·have d2:decide ((c:Int)<2)=true:=by simp;omega
       cases b
       ·go_wp2_with (go_at_call 208;refine HC.o0.mono ?_;rintro e w2 ⟨rfl,rfl⟩);go_ret2;exact HF.o0 (by rw[HC.l1];simp)
       ·go_wp2_with (go_at_call 208;refine HC.o0.mono ?_;rintro e w2 ⟨rfl,rfl⟩);go_ret2;exact HF.l1 (by rw[HC.l1,decide_eq_true h2];rfl)
      ·have d2:decide ((c:Int)<2)=false:=by simp;omega
       go_wp2_with (go_at_call 208;refine HC.o0.mono ?_;rintro e w2 ⟨rfl,rfl⟩);go_ret2;exact HF.o0 (by rw[HC.l1,decide_eq_false h2];rfl)
    ·go_wp2_with (go_at_call 208;refine HC.o0.mono ?_;rintro e w2 ⟨rfl,rfl⟩);go_ret2;exact HF.l1 (by rw[HC.l1];rfl)
 ·have hnew:=ze8 a cap ls w h hle hlen (by omega);rw[<-hN]at hnew ⊢;have hiw:iwhole ls few=false:=by unfold iwhole;rw[decide_eq_false hw,zdf]
  have H:=zhd2 hnew hiw;clear h hle hN hnew hw hiw;go_enter Tryz.func190,Tryz.ntmps190;go_wp2_with (go_at_call 187;refine H.out.1.mono ?_;rintro e w1 ⟨rfl,f1⟩);go_ret2;exact .inl ⟨H.out.2,rfl,f1⟩
theorem qyv {bs:List UInt8} {ls L:List Nat} {n k a:Nat} (h:n≤L.length):ilens bs ls n (k+1) L a = .ok (L,a):=by rw[ilens,if_pos h]
theorem qyt {bs:List UInt8} {ls L:List Nat} {n k a c:Nat} (h:L.length<n) (hs:isym bs ls a = .error c):ilens bs ls n (k+1) L a = .error c:=by rw[ilens,if_neg (by omega),hs]
theorem qyu {bs:List UInt8} {ls L:List Nat} {n k a s a1:Nat} (h:L.length<n) (hs:isym bs ls a = .ok (s,a1)) (h16:s<16):ilens bs ls n (k+1) L a=ilens bs ls n k (L++[s]) a1:=by rw[ilens,if_neg (by omega),hs];simp only[if_pos h16]
theorem qie {bs:List UInt8} {ls L:List Nat} {n k a s a1 c:Nat} (h:L.length<n) (hs:isym bs ls a = .ok (s,a1)) (h16:16≤s) (ht:itake bs a1 (wide s) = .error c):ilens bs ls n (k+1) L a = .error c:=by rw[ilens,if_neg (by omega),hs];simp only[if_neg (show ¬s<16 by omega),ht]
theorem qif {bs:List UInt8} {ls L:List Nat} {n k a s a1 v a2:Nat} (h:L.length<n) (hs:isym bs ls a = .ok (s,a1)) (h16:16≤s) (ht:itake bs a1 (wide s) = .ok (v,a2)) (hf:(s=16∧L=[])∨n-L.length<least s+v):ilens bs ls n (k+1) L a = .error 3:=by rw[ilens,if_neg (by omega),hs];simp only[if_neg (show ¬s<16 by omega),ht];rw[if_pos hf]
theorem qm4 {bs:List UInt8} {ls L:List Nat} {n k a s a1 v a2:Nat} (h:L.length<n) (hs:isym bs ls a = .ok (s,a1)) (h16:16≤s) (ht:itake bs a1 (wide s) = .ok (v,a2)) (hf:¬((s=16∧L=[])∨n-L.length<least s+v)) :
  ilens bs ls n (k+1) L a=ilens bs ls n k (L++List.replicate (least s+v) (if s=16 then L.getLast?.getD 0 else 0)) a2:=by
 rw[ilens,if_neg (by omega),hs];simp only[if_neg (show ¬s<16 by omega),ht];rw[if_neg hf]
structure Own (w wr:World) (ao:Option Addr) (cap:Nat) (L:List Nat):Prop where
 own:wr.ownsRow 0 3 1 (.slice ao L.length cap) L.length (ints L)
 new:∀x∈blk ao,w.heap.size≤x
 le:L.length≤cap
 max:cap≤maxLen
 nil:ao=none→cap=0
theorem Own.start (w wr:World):Own w wr none 0 []:=⟨⟨by simp[ints],.inl ⟨rfl,rfl⟩⟩,by simp[blk],qae _,qa5 _,λ_=>rfl⟩
theorem Own.fr {w wr w2:World} {S:List Nat} {ao:Option Addr} {cap:Nat} {L:List Nat} (h:Own w wr ao cap L) (f:Fr S wr w2) (hS:∀x∈S,x<w.heap.size):Own w w2 ao cap L:=
 ⟨qa7 h.own f (λk hk hkS=>by
  have hk2:k∈blk ao:=by rw[<-qby ao L.length cap,hk];simp
  have:=h.new k hk2
  have:=hS k hkS
  omega),h.new,h.le,h.max,h.nil⟩
theorem Own.app {w wr w2:World} {ao ao2:Option Addr} {cap cap2 n:Nat} {L:List Nat} {x:Nat} {o:Obj} (h:Own w wr ao cap L) (hn:n=L.length) (fw:w.heap.size≤wr.heap.size)
  (A:Appended (wr.alloc o) w2 3 1 (blk ao) ao2 (n+1) cap2 (ints L++[.int .i64 x])):Own w w2 ao2 cap2 (L++[x])∧Fr (blk ao) wr w2:=by
 have el:(L++[x]).length=n+1:=by rw[hn];simp
 have ei:ints (L++[x])=ints L++[.int .i64 x]:=by simp[ints]
 refine⟨⟨by rw[el,ei];exact A.own,λy hy=>?_,by rw[el];exact A.le,A.max,A.nil⟩,((Fr.refl _ wr).alloc _).trans A.fr⟩;rcases A.at_ y hy with k|k
 ·exact h.new y k
 ·rw[k,qa1];omega
theorem Own.ri {w wr:World} {ao:Option Addr} {cap:Nat} {L:List Nat} (h:Own w wr ao cap L):Ri wr ao cap L:=⟨qd4 h.own,h.le,h.max,h.nil⟩
theorem St.up {w wr w2:World} {R p:Nat} {F S:List Nat} {bs out:List UInt8} {at_ a1 oc most:Nat} {oa:Option Addr} (h0:St w R p F bs at_ out oa oc most) (h:St wr R p F bs a1 out oa oc most) (f:Fr S wr w2) (hS:∀x∈S,w.heap.size≤x):St w2 R p F bs a1 out oa oc most:=
 h.fr f (λhR=>by have:=hS R hR;have:=lt_of_block h0.box;omega) (λx hx hxS=>by have:=hS x hxS;have:=h0.low x hx;omega) (λx hx hxS=>by have:=hS x hxS;have:=qdu h0.own (qdw hx);omega)
theorem Own.last {w wr:World} {ao:Option Addr} {cap:Nat} {L:List Nat} (h:Own w wr ao cap L) (h0:0<L.length):∃g,ao=some ⟨g,0,none⟩∧wr.cell? ⟨g,L.length-1,none⟩=some (.int .i64 (L.getLast?.getD 0:Nat)):=by
 obtain⟨h1,h2⟩:=h.own;rcases h2 with⟨h2,_⟩|⟨g,cap',cur,h2,hb,hg,hn,hm,hs,ht⟩
 ·simp only[qbp]at h2;omega
 ·simp only[qbp]at h2;refine⟨g,h2.1,?_⟩;rw[cell_of hg,<-qbz];have e1:(cur.toList.take (L.length*1))[L.length-1]?=(ints L)[L.length-1]?:=by rw[ht]
  rw[qbs,if_pos (by omega)]at e1;rw[e1,List.getLast?_eq_getElem?,ints,qbl,qai (show L.length-1<L.length by omega)];rfl
theorem Own.cell {w wr:World} {ao:Option Addr} {cap:Nat} {L:List Nat} (h:Own w wr ao cap L) {i:Nat} (h0:i<L.length):∃g,ao=some ⟨g,0,none⟩∧wr.cell? ⟨g,i,none⟩=some (.int .i64 (lenAt L i:Nat)):=by
 obtain⟨h1,h2⟩:=h.own;rcases h2 with⟨h2,_⟩|⟨g,cap',cur,h2,hb,hg,hn,hm,hs,ht⟩
 ·simp only[qbp]at h2;omega
 ·simp only[qbp]at h2;refine⟨g,h2.1,?_⟩;rw[cell_of hg,<-qbz];have e1:(cur.toList.take (L.length*1))[i]?=(ints L)[i]?:=by rw[ht]
  rw[qbs,if_pos (by omega)]at e1;rw[e1,ints,qbl,qai h0,lenAt,qai h0];rfl
def LensGood (w:World) (R p:Nat) (F:List Nat) (bs out:List UInt8) (oa:Option Addr) (oc most n:Nat) (m:Except Nat (List Nat×Nat)) (e:Ending) (w':World):Prop:=
 (∃c,m = .error c∧0<c∧c<100∧e = .returned (.tuple #[.slice none 0 0,.int .i64 (c:Nat)])∧Fr (R::p::blk oa) w w')∨
 (∃L a ao cap,m = .ok (L,a)∧e = .returned (.tuple #[.slice ao L.length cap,.int .i64 0])∧St w' R p F bs a out oa oc most∧Fr [p] w w'∧Own w w' ao cap L∧L.length=n∧∀x∈L,x≤15)
theorem qf5 (R p P n:Nat) (F:List Nat) (bs out:List UInt8) (ls:List Nat) (at_ oc most:Nat) (oa:Option Addr) (w:World) (h:St w R p F bs at_ out oa oc most) (hT:Tb w P ls (R::p::blk oa)) (hl:ls.length≤19) (hn:n≤400) :
  Calls Tryz.prog 191 #[.pointer (some ⟨R,0,none⟩),.pointer (some ⟨P,0,none⟩),.int .i64 n] w (LensGood w R p F bs out oa oc most n (ilens bs ls n (n+1) [] at_)):=by
 obtain⟨M,hM⟩:=zex (ilens bs ls n (n+1) [] at_);rw[<-hM];have H:=zhd4 h hT hM hl;clear h hT hM hl;go_enter Tryz.func191,Tryz.ntmps191;go_wp2;go_loopg [6,7,8,9,10,11,12,13,14,79] (n+1) (λk s6 s7 s8 s9 s10 s11 s12 s13 s14 s79 wr=>∃(l a1:Nat) (L:List Nat) (ao:Option Addr) (cap:Nat),s8 = .slice ao l cap∧l=L.length∧l≤n∧n+1≤l+k∧St wr R p F bs a1 out oa oc most∧Fr [p] w wr∧Own w wr ao cap L∧ilens bs ls n k L a1=M∧∀x∈L,x≤15);case atStart=>exact⟨0,at_,[],none,0,rfl,rfl,by omega,by omega,H.o0,.refl _ _,.start _ _,H.o2.symm,by simp⟩
 case round=>
  obtain⟨l,a1,L,ao,cap,rfl,hlL,hln,hlk,hst,hf,hown,hil,h15⟩:=hrel;obtain⟨k,rfl⟩:∃k,gk=k+1:=⟨gk-1,by omega⟩;have c0:=cell_of hst.box 0;simp only[qag,qac,qaf]at c0;by_cases hlt:l<n
  ·have HJ:=zhd6 hst hf hown hil h15 hlL;clear hst hf hown hil h15 hlL;have hp:∀x∈[p],x<w.heap.size:=λx hx=>by simp at hx;rw[hx];exact H.o0.low _ H.o0.pF.1
   have HP:=zhd hp;clear hp;go_upto_block 3 with (first
    | (go_at_call 206;refine (qj8 R p P F bs out ls a1 oc most oa wr HJ.out.1 (H.o1.fr HJ.out.2.1 (by simp))).mono ?_;rintro e w2 (⟨v2,c,hm,hc0,hc1,rfl,f1⟩|⟨s,a2,hm,rfl,s2,f2⟩);rotate_left;(have hs19:=(qkl hm).1;have hls:=H.l3;rcases (show s<16∨(s=16∧l=0)∨(s=16∧0<l)∨s=17∨s=18 by omega) with hs|⟨rfl,rfl⟩|⟨rfl,hl0⟩|rfl|rfl);all_goals (try (have T2:Calls Tryz.prog 134 #[.pointer (some ⟨R,0,none⟩),.int .i64 2] w2 (RetV w2 R p F bs out oa oc most (itake bs a2 2)):=qgc R p F bs out a2 oc most 2 oa w2 s2 (by decide);have T3:Calls Tryz.prog 134 #[.pointer (some ⟨R,0,none⟩),.int .i64 3] w2 (RetV w2 R p F bs out oa oc most (itake bs a2 3)):=qgc R p F bs out a2 oc most 3 oa w2 s2 (by decide);have T7:Calls Tryz.prog 134 #[.pointer (some ⟨R,0,none⟩),.int .i64 7] w2 (RetV w2 R p F bs out oa oc most (itake bs a2 7)):=qgc R p F bs out a2 oc most 7 oa w2 s2 (by decide);have K2:=zhd7 hm s2 f2 T2 T3 T7 (HJ.out.2.2.1.fr f2 HP.out);clear hm s2 f2 T2 T3 T7 hs19 hls));all_goals (first|(have _t:=hl0;obtain⟨g,rfl,hce⟩:=K2.out.2.2.2.2.2.2.last (by rw[<-HJ.out.2.2.2.2.2];exact hl0);rw[<-HJ.out.2.2.2.2.2]at hce)|skip))
    | (go_at_call 134;(first|with_reducible refine K2.out.2.2.2.1.mono ?_|with_reducible refine K2.out.2.2.2.2.1.mono ?_|with_reducible refine K2.out.2.2.2.2.2.1.mono ?_);rintro e w3 (⟨v3,c,hm,hc0,hc1,rfl,f1⟩|⟨v,a3,hm,rfl,s3,f3⟩);all_goals (try (replace hce:=f3.cell hce (by have:=K2.out.2.2.2.2.2.2.new g (by simp[blk]);have:=HP.out p (by simp);simp;omega);have hlb:((l:Int)==0)=false:=by simp;omega));all_goals (try (have hvb:=qe3 hm;have K3:=zhd3 hm s3 f3;clear hm s3 f3)))
    | (at_builtin;go_loud (refine qba huf.qdd rfl _ _ rfl (.slice ao l cap) l (ints L) (blk ao) rfl (qby ao l cap) (by have:=qa7 K2.out.2.2.2.2.2.2.own ((Fr.refl [] w2).alloc (.cells #[.int .i64 s] 3 (0,0))) (by simp);rwa [<-HJ.out.2.2.2.2.2]at this) (some ⟨w2.heap.size,0,none⟩) 1 1 [.int .i64 s] (by first|rfl|simp) (qae _) (λh=>by cases h) (qdp _ _ _ _ (qay _ _)) rfl (by intro u hu;simp only[qa2]at hu;rw[hu];rfl) (by omega) (by unfold maxLen;omega) ?_);intro ao2 cap2 w4 A4;have HA:=zhd A4;clear A4))
   ·go_roundg k;case measure=>omega
    case rel=>
     have hp:=HP.out;have hA:=HJ.out.2.2.1.fr K2.out.2.2.1 hp;have hA2:=hA.app (n:=l) HJ.out.2.2.2.2.2 (HJ.out.2.1.trans K2.out.2.2.1).size HA.out;refine⟨l+1,a2,L++[s],ao2,cap2,rfl,by rw[qab,<-HJ.out.2.2.2.2.2];rfl,by omega,by omega,H.o0.up K2.out.2.1 hA2.2 (λx hx=>hA.new x hx),(HJ.out.2.1.trans K2.out.2.2.1).step hA2.2 (λx hx=>.inr (hA.new x hx)),hA2.1,?_,?_⟩
     ·rw[<-HJ.out.2.2.2.1,qyu (by rw[<-HJ.out.2.2.2.2.2];exact hlt) K2.out.1 hs]
     ·intro x hx;rcases qbu.1 hx with h1|h1
      ·exact HJ.out.2.2.2.2.1 x h1
      ·simp at h1;omega
   ·go_ret2;exact .inl ⟨c,by rw[<-HJ.out.2.2.2.1,qie (by rw[<-HJ.out.2.2.2.2.2];exact hlt) K2.out.1 (by decide) hm],hc0,hc1,rfl,((HJ.out.2.1.trans K2.out.2.2.1).mono (by simp)).trans f1⟩
   ·go_ret2;exact .inl ⟨3,by rw[<-HJ.out.2.2.2.1,qif (by rw[<-HJ.out.2.2.2.2.2];exact hlt) K2.out.1 (by decide) K3.o0 (.inl ⟨rfl,qbv (HJ.out.2.2.2.2.2).symm⟩)],by decide,by decide,rfl,((HJ.out.2.1.trans K2.out.2.2.1).trans K3.l2).mono (by simp)⟩
   ·go_ret2;exact .inl ⟨c,by rw[<-HJ.out.2.2.2.1,qie (by rw[<-HJ.out.2.2.2.2.2];exact hlt) K2.out.1 (by decide) hm],hc0,hc1,rfl,((HJ.out.2.1.trans K2.out.2.2.1).mono (by simp)).trans f1⟩
   ·go_ret2;exact .inl ⟨3,by rw[<-HJ.out.2.2.2.1,qif (by rw[<-HJ.out.2.2.2.2.2];exact hlt) K2.out.1 (by decide) K3.o0 (.inr (by rw[<-HJ.out.2.2.2.2.2];show n-l<3+v;omega))],by decide,by decide,rfl,((HJ.out.2.1.trans K2.out.2.2.1).trans K3.l2).mono (by simp)⟩
   ·obtain⟨t,ht⟩:=zex (3+v);have et:(3:Int)+(v:Nat)=(t:Nat):=by rw[ht];omega
    rw[et];have htn:t≤n-l:=by omega
    obtain⟨x,hx⟩:=zex (L.getLast?.getD 0);have hx15:x≤15:=by rw[hx,List.getLast?_eq_getElem?,qai (show L.length-1<L.length by have:=HJ.out.2.2.2.2.2;omega)];exact HJ.out.2.2.2.2.1 _ (qdj _)
    have hE:ilens bs ls n k (L++List.replicate t x) a3=M:=by
     rw[<-HJ.out.2.2.2.1,qm4 (s:=16) (v:=v) (a2:=a3) (by rw[<-HJ.out.2.2.2.2.2];exact hlt) K2.out.1 (by decide) K3.o0 (by
      rintro (⟨_,h1⟩|h1)
      ·have:=HJ.out.2.2.2.2.2;rw[h1]at this;simp at this;omega
      ·rw[<-HJ.out.2.2.2.2.2]at h1;have h2:n-l<3+v:=h1;omega),ht,hx]
     rfl
    rw[<-hx];have hv0:0<t:=by omega
    have HB:=zhd5 hE hx15 (K2.out.2.2.2.2.2.2.fr K3.l2 HP.out) ((HJ.out.2.1.trans K2.out.2.2.1).trans K3.l2) ht;clear hE hx15 ht et hvb c0 hx hce hlb;go_wp2;go_loopg [8,79] t (λk2 s8 s79 wr=>∃(j:Nat) (ao2:Option Addr) (cap2:Nat),s79 = .int .i64 (j:Nat)∧s8 = .slice ao2 (l+j) cap2∧j+k2=t∧St wr R p F bs a3 out oa oc most∧Fr [p] w wr∧Own w wr ao2 cap2 (L++List.replicate j x));case atStart=>exact⟨0,(some ⟨g,0,none⟩),cap,rfl,rfl,by omega,K3.o1,HB.o3,by simpa using HB.o2⟩
    case round=>
     obtain⟨j,ao2,cap2,rfl,rfl,hjt,hs3,hf3,how⟩:=hrel;have hjl:l+j=(L++List.replicate j x).length:=by rw[qab,qct,<-HJ.out.2.2.2.2.2]
     by_cases hj:j<t
     ·obtain⟨k2,rfl⟩:∃k2,gk=k2+1:=⟨gk-1,by omega⟩;have HI:=zhd4 hs3 hf3 how hjl;clear hs3 hf3 how hjl;go_wp2_with (at_builtin;go_loud (refine qba huf.qdd rfl _ _ rfl (.slice ao2 (l+j) cap2) (l+j) (ints (L++List.replicate j x)) (blk ao2) rfl (qby ao2 (l+j) cap2) (by have:=qa7 HI.o2.own ((Fr.refl [] wr).alloc (.cells #[.int .i64 x] 3 (0,0))) (by simp);rwa [<-HI.l3]at this) (some ⟨wr.heap.size,0,none⟩) 1 1 [.int .i64 x] (by first|rfl|simp) (qae _) (λh=>by cases h) (qdp _ _ _ _ (qay _ _)) rfl (by intro u hu;simp only[qa2]at hu;rw[hu];rfl) (by omega) (by unfold maxLen;omega) ?_);intro ao3 cap3 w5 A5;have HA:=zhd A5;clear A5);go_roundg k2;case measure=>omega
      case rel=>have hA2:=HI.o2.app (n:=l+j) (x:=x) HI.l3 HI.o1.size HA.out;refine⟨j+1,ao3,cap3,by go_num,rfl,by omega,H.o0.up HI.o0 hA2.2 (λy hy=>HI.o2.new y hy),HI.o1.step hA2.2 (λy hy=>.inr (HI.o2.new y hy)),?_⟩;rw[qfl,<-qas];exact hA2.1
     ·obtain rfl:j=t:=by omega
      have HI:=zhd4 hs3 hf3 how hjl;clear hs3 hf3 how hjl;go_wp2;go_roundg k;case measure=>omega
      case rel=>
       refine⟨l+j,a3,L++List.replicate j x,ao2,cap2,rfl,HI.l3,by omega,by omega,HI.o0,HI.o1,HI.o2,HB.o0,?_⟩;intro y hy;rcases qbu.1 hy with h1|h1
       ·exact HJ.out.2.2.2.2.1 y h1
       ·rw[(qlb.1 h1).2];exact HB.o1
   ·go_ret2;exact .inl ⟨c,by rw[<-HJ.out.2.2.2.1,qie (by rw[<-HJ.out.2.2.2.2.2];exact hlt) K2.out.1 (by decide) hm],hc0,hc1,rfl,((HJ.out.2.1.trans K2.out.2.2.1).mono (by simp)).trans f1⟩
   ·go_ret2;exact .inl ⟨3,by rw[<-HJ.out.2.2.2.1,qif (by rw[<-HJ.out.2.2.2.2.2];exact hlt) K2.out.1 (by decide) K3.o0 (.inr (by rw[<-HJ.out.2.2.2.2.2];show n-l<3+v;omega))],by decide,by decide,rfl,((HJ.out.2.1.trans K2.out.2.2.1).trans K3.l2).mono (by simp)⟩
   ·obtain⟨t,ht⟩:=zex (3+v);have et:(3:Int)+(v:Nat)=(t:Nat):=by rw[ht];omega
    rw[et];have htn:t≤n-l:=by omega
    have hE:ilens bs ls n k (L++List.replicate t 0) a3=M:=by
     rw[<-HJ.out.2.2.2.1,qm4 (s:=17) (v:=v) (a2:=a3) (by rw[<-HJ.out.2.2.2.2.2];exact hlt) K2.out.1 (by decide) K3.o0 (by
      rintro (⟨h1,_⟩|h1)
      ·cases h1
      ·rw[<-HJ.out.2.2.2.2.2]at h1;have h2:n-l<3+v:=h1;omega),ht]
     rfl
    have hx15:0≤15:=by decide
    have hv0:0<t:=by omega
    have HB:=zhd5 hE hx15 (K2.out.2.2.2.2.2.2.fr K3.l2 HP.out) ((HJ.out.2.1.trans K2.out.2.2.1).trans K3.l2) ht;clear hE hx15 ht et hvb c0;go_wp2;go_loopg [8,79] t (λk2 s8 s79 wr=>∃(j:Nat) (ao2:Option Addr) (cap2:Nat),s79 = .int .i64 (j:Nat)∧s8 = .slice ao2 (l+j) cap2∧j+k2=t∧St wr R p F bs a3 out oa oc most∧Fr [p] w wr∧Own w wr ao2 cap2 (L++List.replicate j 0));case atStart=>exact⟨0,ao,cap,rfl,rfl,by omega,K3.o1,HB.o3,by simpa using HB.o2⟩
    case round=>
     obtain⟨j,ao2,cap2,rfl,rfl,hjt,hs3,hf3,how⟩:=hrel;have hjl:l+j=(L++List.replicate j 0).length:=by rw[qab,qct,<-HJ.out.2.2.2.2.2]
     by_cases hj:j<t
     ·obtain⟨k2,rfl⟩:∃k2,gk=k2+1:=⟨gk-1,by omega⟩;have HI:=zhd4 hs3 hf3 how hjl;clear hs3 hf3 how hjl;go_wp2_with (at_builtin;go_loud (refine qba huf.qdd rfl _ _ rfl (.slice ao2 (l+j) cap2) (l+j) (ints (L++List.replicate j 0)) (blk ao2) rfl (qby ao2 (l+j) cap2) (by have:=qa7 HI.o2.own ((Fr.refl [] wr).alloc (.cells #[.int .i64 0] 3 (0,0))) (by simp);rwa [<-HI.l3]at this) (some ⟨wr.heap.size,0,none⟩) 1 1 [.int .i64 0] (by first|rfl|simp) (qae _) (λh=>by cases h) (qdp _ _ _ _ (qay _ _)) rfl (by intro u hu;simp only[qa2]at hu;rw[hu];rfl) (by omega) (by unfold maxLen;omega) ?_);intro ao3 cap3 w5 A5;have HA:=zhd A5;clear A5);go_roundg k2;case measure=>omega
      case rel=>have hA2:=HI.o2.app (n:=l+j) (x:=0) HI.l3 HI.o1.size HA.out;refine⟨j+1,ao3,cap3,by go_num,rfl,by omega,H.o0.up HI.o0 hA2.2 (λy hy=>HI.o2.new y hy),HI.o1.step hA2.2 (λy hy=>.inr (HI.o2.new y hy)),?_⟩;rw[qfl,<-qas];exact hA2.1
     ·obtain rfl:j=t:=by omega
      have HI:=zhd4 hs3 hf3 how hjl;clear hs3 hf3 how hjl;go_wp2;go_roundg k;case measure=>omega
      case rel=>
       refine⟨l+j,a3,L++List.replicate j 0,ao2,cap2,rfl,HI.l3,by omega,by omega,HI.o0,HI.o1,HI.o2,HB.o0,?_⟩;intro y hy;rcases qbu.1 hy with h1|h1
       ·exact HJ.out.2.2.2.2.1 y h1
       ·rw[(qlb.1 h1).2];exact HB.o1
   ·go_ret2;exact .inl ⟨c,by rw[<-HJ.out.2.2.2.1,qie (by rw[<-HJ.out.2.2.2.2.2];exact hlt) K2.out.1 (by decide) hm],hc0,hc1,rfl,((HJ.out.2.1.trans K2.out.2.2.1).mono (by simp)).trans f1⟩
   ·go_ret2;exact .inl ⟨3,by rw[<-HJ.out.2.2.2.1,qif (by rw[<-HJ.out.2.2.2.2.2];exact hlt) K2.out.1 (by decide) K3.o0 (.inr (by rw[<-HJ.out.2.2.2.2.2];show n-l<11+v;omega))],by decide,by decide,rfl,((HJ.out.2.1.trans K2.out.2.2.1).trans K3.l2).mono (by simp)⟩
   ·obtain⟨t,ht⟩:=zex (11+v);have et:(11:Int)+(v:Nat)=(t:Nat):=by rw[ht];omega
    rw[et];have htn:t≤n-l:=by omega
    have hE:ilens bs ls n k (L++List.replicate t 0) a3=M:=by
     rw[<-HJ.out.2.2.2.1,qm4 (s:=18) (v:=v) (a2:=a3) (by rw[<-HJ.out.2.2.2.2.2];exact hlt) K2.out.1 (by decide) K3.o0 (by
      rintro (⟨h1,_⟩|h1)
      ·cases h1
      ·rw[<-HJ.out.2.2.2.2.2]at h1;have h2:n-l<11+v:=h1;omega),ht]
     rfl
    have hx15:0≤15:=by decide
    have hv0:0<t:=by omega
    have HB:=zhd5 hE hx15 (K2.out.2.2.2.2.2.2.fr K3.l2 HP.out) ((HJ.out.2.1.trans K2.out.2.2.1).trans K3.l2) ht;clear hE hx15 ht et hvb c0;go_wp2;go_loopg [8,79] t (λk2 s8 s79 wr=>∃(j:Nat) (ao2:Option Addr) (cap2:Nat),s79 = .int .i64 (j:Nat)∧s8 = .slice ao2 (l+j) cap2∧j+k2=t∧St wr R p F bs a3 out oa oc most∧Fr [p] w wr∧Own w wr ao2 cap2 (L++List.replicate j 0));case atStart=>exact⟨0,ao,cap,rfl,rfl,by omega,K3.o1,HB.o3,by simpa using HB.o2⟩
    case round=>
     obtain⟨j,ao2,cap2,rfl,rfl,hjt,hs3,hf3,how⟩:=hrel;have hjl:l+j=(L++List.replicate j 0).length:=by rw[qab,qct,<-HJ.out.2.2.2.2.2]
     by_cases hj:j<t
     ·obtain⟨k2,rfl⟩:∃k2,gk=k2+1:=⟨gk-1,by omega⟩;have HI:=zhd4 hs3 hf3 how hjl;clear hs3 hf3 how hjl;go_wp2_with (at_builtin;go_loud (refine qba huf.qdd rfl _ _ rfl (.slice ao2 (l+j) cap2) (l+j) (ints (L++List.replicate j 0)) (blk ao2) rfl (qby ao2 (l+j) cap2) (by have:=qa7 HI.o2.own ((Fr.refl [] wr).alloc (.cells #[.int .i64 0] 3 (0,0))) (by simp);rwa [<-HI.l3]at this) (some ⟨wr.heap.size,0,none⟩) 1 1 [.int .i64 0] (by first|rfl|simp) (qae _) (λh=>by cases h) (qdp _ _ _ _ (qay _ _)) rfl (by intro u hu;simp only[qa2]at hu;rw[hu];rfl) (by omega) (by unfold maxLen;omega) ?_);intro ao3 cap3 w5 A5;have HA:=zhd A5;clear A5);go_roundg k2;case measure=>omega
      case rel=>have hA2:=HI.o2.app (n:=l+j) (x:=0) HI.l3 HI.o1.size HA.out;refine⟨j+1,ao3,cap3,by go_num,rfl,by omega,H.o0.up HI.o0 hA2.2 (λy hy=>HI.o2.new y hy),HI.o1.step hA2.2 (λy hy=>.inr (HI.o2.new y hy)),?_⟩;rw[qfl,<-qas];exact hA2.1
     ·obtain rfl:j=t:=by omega
      have HI:=zhd4 hs3 hf3 how hjl;clear hs3 hf3 how hjl;go_wp2;go_roundg k;case measure=>omega
      case rel=>
       refine⟨l+j,a3,L++List.replicate j 0,ao2,cap2,rfl,HI.l3,by omega,by omega,HI.o0,HI.o1,HI.o2,HB.o0,?_⟩;intro y hy;rcases qbu.1 hy with h1|h1
       ·exact HJ.out.2.2.2.2.1 y h1
       ·rw[(qlb.1 h1).2];exact HB.o1
   ·go_ret2;exact .inl ⟨c,by rw[<-HJ.out.2.2.2.1,qyt (by rw[<-HJ.out.2.2.2.2.2];exact hlt) hm],hc0,hc1,rfl,(HJ.out.2.1.mono (by simp)).trans f1⟩
  ·obtain rfl:l=n:=by omega
   have e1:ilens bs ls l (k+1) L a1 = .ok (L,a1):=qyv (by omega);have HJ:=zhd7 hst hf hown hil h15 hlL e1;clear hst hf hown hil h15 hlL e1 hlt hln;go_wp2;go_ret2;exact .inr ⟨L,a1,ao,cap,by rw[<-HJ.out.2.2.2.1,HJ.out.2.2.2.2.2.2],by rw[<-HJ.out.2.2.2.2.2.1];rfl,HJ.out.1,HJ.out.2.1,HJ.out.2.2.1,HJ.out.2.2.2.2.2.1.symm,HJ.out.2.2.2.2.1⟩
end Go.Proofs.YtkmpfgpfbmeihaaGreatDoor.inf
