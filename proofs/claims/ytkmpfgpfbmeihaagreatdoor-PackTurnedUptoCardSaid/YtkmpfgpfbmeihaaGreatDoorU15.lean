/-
  Texts of this proof, one behind the other: InfI, InfK, InfU, InfZ, PackTake, PkHead, PkBack.
-/
import Derived.Test.YtkmpfgpfbmeihaaGreatDoorU14
set_option maxHeartbeats 16000000
set_option maxRecDepth 100000
set_option linter.unusedVariables false
set_option linter.unusedSimpArgs false
namespace Go.Proofs.YtkmpfgpfbmeihaaGreatDoor
namespace inf
open Go Go.RowKit lib bm bl huf
def uF:Array Value:=#[.int .i64 16,.int .i64 17,.int .i64 18,.int .i64 0,.int .i64 8,.int .i64 7,.int .i64 9,.int .i64 6,.int .i64 10,.int .i64 5,.int .i64 11,.int .i64 4,.int .i64 12,.int .i64 3,.int .i64 13,.int .i64 2,.int .i64 14,.int .i64 1,.int .i64 15]
def zeroV:Array Value:=#[.int .i64 0,.int .i64 0,.int .i64 0,.int .i64 0,.int .i64 0,.int .i64 0,.int .i64 0,.int .i64 0,.int .i64 0,.int .i64 0,.int .i64 0,.int .i64 0,.int .i64 0,.int .i64 0,.int .i64 0,.int .i64 0,.int .i64 0,.int .i64 0,.int .i64 0]
theorem wF:(Tryz.prog.info? 287).map (·.size)=some 19:=by kernel_rfl
theorem quu {fn:Func} {p:Tmp} (h:fn.results=#[.cell p 287]) (tmps:Array Value) (w:World) (g:Nat) (cs:Array Value) (fr:Nat×Nat)
  (hp:tmps.getD p undef = .pointer (some ⟨g,0,none⟩)) (hg:w.heap[g]?=some (.cells cs 287 fr)) (hs:cs.size=19):(results fn tmps).run Tryz.prog w = .ok (.agg cs) w:=
 results_cell_row h tmps w g 287 cs fr _ hp hg Tryz.underlying287 rfl (by rw[wF,hs])
theorem Ve (w:World):Calls Tryz.prog 189 #[] w λe w'=>e = .returned (.agg uF)/\Fr [] w w':=by go_enter Tryz.func189,Tryz.ntmps189;go_wp2_with (refine wpList_store_row rfl 287 (.tmp 0) (.tmp 1) rfl w.heap.size uF rfl rfl 287 zeroV (heap_alloc_last w _) wF rfl (by kernel_rfl) ?_;rw[World.setRow_alloc_new]);simp only[Act.put];refine bodyPost_ret (quu rfl _ _ w.heap.size uF (0,0) rfl (bx w _) rfl) rfl ?_;exact⟨rfl,(Fr.refl [] w).alloc _⟩
theorem zdh {w:World} {a:Option Addr} {cap:Nat} {xs:List Nat} (h:Ri w a cap xs) (k:Nat) (hk:k<=xs.length):Ri w (aL a cap k 1) (cap-k) (xs.drop k):=
 ⟨by rw[G1];exact qyv h.cs k (by simpa using hk) (by simpa using h.le),by have:=h.le;simp;omega,bS (Nat.sub_le _ _) h.max,λhn=>by have:=h.nil (qnb hn);omega⟩
theorem qxq {fs:List Nat} {i v:Nat} (hi:i<fs.length) (t:Nat):ai (fs.set i v) t=if t=i then v else ai fs t:=by
 unfold ai;rw[List.getElem?_set];by_cases e:i=t
 ·subst e;simp[hi]
 ·rw[if_neg e,if_neg (λh=>e h.symm)]
theorem zdu {w:World} {Q:Nat} {fs:List Nat} (h:Ow w Q 19 (ai fs)) (hl:fs.length=19):Ri w (some ⟨Q,0,none⟩) 19 fs:=by
 have e:(List.range 19).map (ai fs)=fs:=by
  refine List.ext_getElem (by simp[hl]) λi h1 h2=>?_
  simp[ai,h2]
 have:=h.cs;rw[e]at this;exact⟨this,by omega,by decide,λh=>by cases h⟩
theorem quw:places=defl.pP:=rfl
theorem zdv {i:Nat} (h:i<19):uF[i]?=some (.int .i64 ((defl.ord i:Nat):Int)):=by
 have e:uF=(defl.pP.map λx=>Value.int .i64 (x:Nat)).toArray:=rfl;have hl:i<defl.pP.length:=by simp[defl.pP];omega
 rw[e];simp[defl.ord,bO hl]
theorem qr7 {m j:Nat} (h:j<m) (hm:m<=19):(places.take m).drop j=defl.ord j::(places.take m).drop (j+1):=by
 have hl:places.length=19:=rfl;have h1:j<(places.take m).length:=by rw[eJ];omega
 rw[AF h1];congr 1;simp[defl.ord,<-quw,bO (show j<places.length by omega)]
theorem qsr (R p:Nat) (F:List Nat) (bs out:List UInt8) (at_ oc most:Nat) (oa:Option Addr) (w:World) (h:St w R p F bs at_ out oa oc most) :
  Calls Tryz.prog 168 #[.pointer (some ⟨R,0,none⟩)] w (C9 w R p F bs oa most (nJ bs most out at_)):=by
 obtain⟨M,hM⟩:=ah (nJ bs most out at_);rw[<-hM];have TT:∀(n:Nat) (a:Nat) (w':World),St w' R p F bs a out oa oc most->n<=31->Calls Tryz.prog 134 #[.pointer (some ⟨R,0,none⟩),.int .i64 (n:Nat)] w' (nU w' R p F bs out oa oc most (bC bs a n)):=λn a w' s hn=>Fm R p F bs out a oc most n oa w' s hn
 have T3:∀(a:Nat) (w':World),St w' R p F bs a out oa oc most->Calls Tryz.prog 134 #[.pointer (some ⟨R,0,none⟩),.int .i64 3] w' (nU w' R p F bs out oa oc most (bC bs a 3)):=λa w' s=>TT 3 a w' s (by decide)
 have T4:∀(a:Nat) (w':World),St w' R p F bs a out oa oc most->Calls Tryz.prog 134 #[.pointer (some ⟨R,0,none⟩),.int .i64 4] w' (nU w' R p F bs out oa oc most (bC bs a 4)):=λa w' s=>TT 4 a w' s (by decide)
 have T5:∀(a:Nat) (w':World),St w' R p F bs a out oa oc most->Calls Tryz.prog 134 #[.pointer (some ⟨R,0,none⟩),.int .i64 5] w' (nU w' R p F bs out oa oc most (bC bs a 5)):=λa w' s=>TT 5 a w' s (by decide)
 have HT:=au T3 T4 T5;have H:=ak h hM;clear h hM TT T3 T4 T5;go_enter Tryz.func168,Tryz.ntmps168;go_upto_region 14 with (first
  | (go_at_call 134;(with_reducible refine (HT.l2 at_ w H.o0).mono ?_);rintro e w1 (⟨v,c,hm,bW,cL,rfl,f1⟩|⟨lit,a1,hm,rfl,s1,f1⟩);all_goals (try (have Ny:=Al hm;have K1:=au hm s1 f1;clear hm s1 f1)))
  | (go_at_call 134;(with_reducible refine (HT.l2 a1 w1 K1.o1).mono ?_);rintro e w2 (⟨v,c,hm,bW,cL,rfl,f1⟩|⟨jJ,a2,hm,rfl,s2,f2⟩);all_goals (try (have xO:=Al hm;have K2:=au hm s2 f2;clear hm s2 f2)))
  | (go_at_call 134;(with_reducible refine (HT.o1 a2 w2 K2.o1).mono ?_);rintro e w3 (⟨v,c,hm,bW,cL,rfl,f1⟩|⟨n,a3,hm,rfl,s3,f3⟩);all_goals (try (have hv3:=Al hm;have K3:=au hm s3 f3;clear hm s3 f3))))
 ·go_ret;exact .inl ⟨c,by rw[H.l1];simp only[nJ,hm],bW,cL,rfl,f1⟩
 ·go_ret;exact .inl ⟨3,by rw[H.l1];simp only[nJ,K1.o0,if_pos (show 29<lit by omega)],by decide,by decide,rfl,K1.l2.mono (by simp)⟩
 ·go_ret;exact .inl ⟨c,by rw[H.l1];simp only[nJ,K1.o0,if_neg (show ¬29<lit by omega),hm],bW,cL,rfl,(K1.l2.mono (by simp)).trans f1⟩
 ·go_ret;exact .inl ⟨3,by rw[H.l1];simp only[nJ,K1.o0,if_neg (show ¬29<lit by omega),K2.o0,if_pos (show 29<jJ by omega)],by decide,by decide,rfl,(K1.l2.trans K2.l2).mono (by simp)⟩
 ·go_ret;exact .inl ⟨c,by rw[H.l1];simp only[nJ,K1.o0,if_neg (show ¬29<lit by omega),K2.o0,if_neg (show ¬29<jJ by omega),hm],bW,cL,rfl,((K1.l2.trans K2.l2).mono (by simp)).trans f1⟩
 ·have vg:M=su bs most out lit jJ n a3:=by rw[H.l1];simp only[nJ,K1.o0,if_neg (show ¬29<lit by omega),K2.o0,if_neg (show ¬29<jJ by omega),K3.o0]
  have ku:lit<=29:=by omega
  have oC:jJ<=29:=by omega
  have vQ:n<=15:=by omega
  have rr:Fr [p] w w3:=((K1.l2.trans K2.l2).trans K3.l2);have HK:=aF vg K3.o1 rr H.o0;clear vg rr K1 K2 K3 H Ny xO hv3;obtain⟨m,hm⟩:=ah (n+4);have em:(n:Int)+4=(m:Nat):=by omega
  have Oi:m<=19:=by omega
  have HM:=af hm;clear hm;obtain⟨hu,⟨ti,iK,vL,fZ,sJ⟩,tY,hp⟩:=huf.oX;obtain⟨Q,hQ⟩:=ah w3.heap.size;have HQ:=af hQ;clear hQ;go_upto_region 15 with (refine wpList_make_full _ rfl _ _ 28 rfl 0 3 ti (.int .i64 0) 1 hu iK vL fZ .i64 .i64 19 19 19 rfl rfl rfl rfl (by rw[sJ];omega) (by unfold maxLen;omega) (by omega) ?_;intro w4 AK Gy;have H4:=ak AK Gy;clear AK Gy);rw[<-HQ.out]at H4 ⊢;have Xf:Ow w4 Q 19 (λ_=>0):=Q5 H4.o0;have f4:Fr [] w3 w4:=(Fr.refl [] w3).grown H4.l1 (λk hk=>by cases hk);have HW:=ak Xf f4;clear Xf f4 H4 hu iK vL fZ sJ tY hp;go_cut [8,46] from 46 to 46 (λs8 s46 wz=>∃O:Nat,s8 = .pointer (some ⟨O,0,none⟩)/\wz.heap[O]?=some (.cells uF 287 (0,0))/\Fr [] w4 wz/\w4.heap.size<=O)
  case first=>go_wp2_with (first|(go_at_call 189;refine (Ve w4).mono ?_;rintro e w5 ⟨rfl,f5⟩;have K5:=af f5;clear f5)|(refine wpList_store_row rfl 287 (.tmp 8) (.tmp 46) rfl w5.heap.size uF rfl rfl 287 zeroV (heap_alloc_last w5 _) wF rfl (by kernel_rfl) ?_;rw[World.setRow_alloc_new]));simp only[Act.put];go_meet;exact⟨w5.heap.size,rfl,bx w5 _,K5.out.alloc _,K5.out.size⟩
  case rest=>
  obtain⟨O,rfl,hO,f6,hO4⟩:=hcut;obtain⟨w7,rfl⟩:∃w7:World,w7=wc:=⟨_,rfl⟩;have f37:Fr [] w3 w7:=HW.out.2.trans f6;have hQ7:Ow w7 Q 19 (ai (List.replicate 19 0)):=(HW.out.1.fr f6 (by simp)).congr λs hs=>by simp only[ai,List.getElem?_replicate,if_pos hs];rfl
  have hQO:Q<O:=by obtain⟨A,hA,_⟩:=HW.out.1;have:=lt_of_block hA;omega
  have hQ3:w3.heap.size<=Q:=by rw[HQ.out];exact aw _
  have H7:=aP hQ7 hO f37 hQO hQ3;clear hQ7 hO f37 hQO f6 hO4 hQ3;have d1:decide ((286:Int)<(lit:Int)+257)=false:=by simp;omega
  have d2:decide ((30:Int)<(jJ:Int)+1)=false:=by simp;omega
  simp only[d1,d2];clear d1 d2;have hsl:=defl.qp3 O m Oi;go_wp2;clear hsl;go_loopg [2,4,10,51] m (λk s2 s4 s10 s51 wr=>∃(j a1:Nat) (fs:List Nat),s51 = .int .i64 (j:Nat)/\s4 = .int .i64 0/\j+k=m/\St wr R p F bs a1 out oa oc most/\Ow wr Q 19 (ai fs)/\fs.length=19/\(∀x∈fs,x<=15)/\wr.heap[O]?=some (.cells uF 287 (0,0))/\Fr [p] w wr/\ff bs ((places.take m).drop j) fs a1=ff bs (places.take m) (List.replicate 19 0) a3);case atStart=>exact⟨0,a3,List.replicate 19 0,rfl,rfl,by omega,HK.o1.dF H7.o2,H7.o0,rfl,λx hx=>by rw[(Ko.1 hx).2];decide,H7.o1,HK.o2.trans (H7.o2.mono (by simp)),rfl⟩
  case round=>
   obtain⟨j,a1,fs,rfl,rfl,hjm,az,how,nN,Ev,hO,I8,OJ⟩:=hrel;have gN:w.heap.size<=w3.heap.size:=HK.o2.size;have hp0:p<w.heap.size:=HK.l3.low _ HK.l3.pF.1;by_cases hj:j<m
   ·obtain⟨k,rfl⟩:∃k,gk=k+1:=⟨gk-1,by omega⟩;have cO:=cell_of hO j;rw[zdv (by omega)]at cO;obtain⟨i,hi⟩:=ah (defl.ord j);have rL:i<19:=by rw[hi];exact defl.QK j
    have uR:=qr7 hj Oi;rw[<-hi]at cO uR;rw[uR]at OJ;have HJ:=cz az how nN Ev hO I8 OJ;clear az how nN Ev hO I8 OJ hi uR;go_wp2_with (go_at_call 134;refine (HT.o0 a1 wr HJ.o0).mono ?_;rintro e w8 (⟨v,c,hm,bW,cL,rfl,f1⟩|⟨v,a2,hm,rfl,s8,f8⟩);rotate_left;all_goals (try (have hv:=Al hm;have FM:=HJ.o1.fr f8 (show Q∉[p] by have:=H7.l4;simp;omega);have K8:=aF hm s8 f8 FM;clear hm s8 f8;have c8:=FM.cell rL;have z8:=FM.frozen i;clear FM));all_goals (try (have FL:=HJ.o1.fr f1 (show Q∉R::p::ae oa by have:=H7.l4;have hu:=HK.l3.under;intro hq;have:=hu Q hq;omega);have c8:=FL.cell rL;have z8:=FL.frozen i;have K9:=ak hm f1;clear hm f1 FL)))
    ·go_roundg k;case measure=>omega
     case rel=>
      have SW:∀x∈[Q],w.heap.size<=x:=λx hx=>by have:=H7.l4;simp at hx;omega
      have fQ:Fr [Q] w8 (w8.setCell ⟨Q,i,none⟩ (.int .i64 v)):=(Fr.refl [Q] _).setCell (by simp) _;refine⟨j+1,a2,fs.set i v,by go_num,rfl,by omega,HK.l3.up K8.o1 fQ SW,(K8.l3.set rL v).congr (λt _=>(qxq (by rw[HJ.o2];exact rL) t).symm),by rw[Kf,HJ.o2],λx hx=>?_,fQ.ae (K8.o2.ae HJ.o4 (by have:=H7.l3;simp;omega)) (by have:=H7.o3;simp;omega),(HJ.o5.trans K8.o2).step fQ (λx hx=>.inr (SW x hx)),?_⟩
      ·rcases List.mem_or_eq_of_mem_set hx with h1|h1
       ·exact HJ.o3 x h1
       ·rw[h1];omega
      ·rw[<-HJ.l6,ff,K8.o0]
    ·go_ret;have SW:∀x∈[Q],w.heap.size<=x:=λx hx=>by have:=H7.l4;simp at hx;omega
     refine .inl ⟨c,?_,bW,cL,rfl,((HJ.o5.mono (by simp)).trans K9.l1).step ((Fr.refl [Q] _).setCell (by simp) _) (λx hx=>.inr (SW x hx))⟩;rw[HK.o0,su,<-HM.out,<-HJ.l6,ff,K9.o0]
   ·obtain rfl:j=m:=by omega
    have jz:ff bs (places.take j) (List.replicate 19 0) a3 = .ok (fs,a1):=by rw[<-OJ,List.drop_of_length_le (by rw[eJ];omega),ff]
    have Gw:M=if fe fs false=false then .error 3 else sr bs most out lit jJ fs a1:=by rw[HK.o0,su,<-HM.out,jz]
    have W1:Calls Tryz.prog 190 #[.slice (some ⟨Q,0,none⟩) 19 19,.bool false] wr (gR wr fs false):=by have:=Vx (some ⟨Q,0,none⟩) 19 fs false wr (zdu how nN) Ev (by omega);rwa [nN]at this
    obtain⟨wo,rfl⟩:∃wo:World,wo=wr:=⟨_,rfl⟩;obtain⟨l1,Oo⟩:=ah (lit+257);obtain⟨N,Lt⟩:=ah (lit+257+jJ+1);have e1:(lit:Int)+257=(l1:Nat):=by omega
    have eN:(l1:Int)+(jJ:Int)+1=(N:Nat):=by omega
    have Pn:N<=316:=by omega
    have zbN:l1+1<=N:=by omega
    have zbM:257<=l1:=by omega
    have hLE:=λ(w':World) (P:Nat) (s:St w' R p F bs a1 out oa oc most) (tb:Tb w' P fs (R::p::ae oa))=>MJ R p P N F bs out fs a1 oc most oa w' s tb (by omega) (by omega)
    have HJ:=cz az Gw W1 I8 Oo Lt hLE;have nK:=af HK.l3.under;clear az how nN Ev hO I8 OJ jz Gw W1 Oo Lt hLE hj hjm;go_upto_region 29 with (first
     | (go_at_call 190;(with_reducible refine HJ.o2.mono ?_);rintro e w9 (⟨rK,rfl,f9⟩|⟨rK,P,D,first,sa,sc,rfl,nL,f9⟩);all_goals (try (have K9:=au rK nL f9;clear nL));all_goals (try (have K9b:=ak rK f9));all_goals clear rK f9)
     | (go_at_call 191;(with_reducible refine (HJ.l6 w9 P (HJ.o0.dF K9.l1.2) (Mi K9.l1.1 (aw _) (λx hx=>eT (nK.out x hx) HJ.o3.size))).mono ?_);rintro e nu (⟨c,hm,bW,cL,rfl,f10⟩|⟨L,a4,ao,cap,hm,he,s10,f10,own,YG,xg⟩);rotate_left;(rw[YG]at he;subst he;have yy:=bJ hm s10 f10 own YG xg;clear hm s10 f10 own YG xg)))
    ·go_ret;exact .inl ⟨3,by rw[HJ.o1,if_pos K9b.o0],by decide,by decide,rfl,(HJ.o3.trans (K9b.l1.mono (by simp))).mono (by simp)⟩
    ·have YD:M=if ai L 256=0 then .error 3 else if fe (L.take l1) false=false then .error 3 else if fe (L.drop l1) true=false then .error 3 else dH bs most (L.take l1) (L.drop l1) (fuel bs) out a4:=by have uU:=yy.out.1;rw[HJ.o1,if_neg (by rw[K9.o0];simp),sr];rw[HJ.o5]at uU;rw[uU,<-HJ.o4]
     obtain⟨g,rfl,hcell⟩:=yy.out.2.2.2.1.cell (i:=256) (by rw[yy.out.2.2.2.2.1];omega);obtain⟨z,hz⟩:=ah (ai L 256);rw[<-hz]at hcell YD;have O5:N<=cap:=by have:=yy.out.2.2.2.1.le;rw[yy.out.2.2.2.2.1]at this;exact this
     have zaD:cap<=9223372036854775807:=by have:=yy.out.2.2.2.1.max;unfold maxLen at this;exact this
     have ri:Ri nu (some ⟨g,0,none⟩) cap L:=yy.out.2.2.2.1.ri;have lt:(L.take l1).length=l1:=by rw[eJ,yy.out.2.2.2.2.1];omega
     have ld:(L.drop l1).length=N-l1:=by rw[eQ,yy.out.2.2.2.2.1]
     have W2:Calls Tryz.prog 190 #[.slice (some ⟨g,0,none⟩) l1 cap,.bool false] nu (gR nu (L.take l1) false):=by have:=Vx (some ⟨g,0,none⟩) cap (L.take l1) false nu (Ri.take ri l1) (λx hx=>yy.out.2.2.2.2.2 x (xF hx)) (by omega);rwa [lt]at this
     have W3:∀w',Fr [] nu w'->Calls Tryz.prog 190 #[.slice (aL (some ⟨g,0,none⟩) cap l1 1) (N-l1) (cap-l1),.bool true] w' (gR w' (L.drop l1) true):=λw' f'=>by have:=Vx (aL (some ⟨g,0,none⟩) cap l1 1) (cap-l1) (L.drop l1) true w' (zdh (ri.fr f') l1 (by rw[yy.out.2.2.2.2.1];omega)) (λx hx=>yy.out.2.2.2.2.2 x (List.mem_of_mem_drop hx)) (by omega);rwa [ld]at this
     have PQ:Fr [p] w nu:=(HJ.o3.trans (K9.l1.2.mono (by simp))).trans yy.out.2.2.1;have zaR:=lib.FA huf.oX l1 (some ⟨g,0,none⟩) N cap l1 rfl (by omega);have y9:=lib.KL huf.oX l1 (some ⟨g,0,none⟩) N cap l1 rfl (by omega) O5;have HL:=aP YD W2 W3 PQ hz;clear YD ri lt ld W2 W3 PQ hz;go_wp2_with (first
      | (go_at_call 190;(with_reducible refine HL.o1.mono ?_);rintro e vG (⟨rK,rfl,f9⟩|⟨rK,P2,D2,YY,sa2,sc2,rfl,nL,f9⟩);all_goals (try (have Db:=au rK nL f9;clear nL));all_goals (try (have Qk:=ak rK f9));all_goals clear rK f9)
      | (go_at_call 190;(with_reducible refine (HL.o2 vG Db.l2).mono ?_);rintro e gi (⟨rK,rfl,f9⟩|⟨rK,P3,D3,YX,sa3,sc3,rfl,nL,f9⟩);all_goals (try (have JV:=au rK nL f9;clear nL));all_goals (try (have Qj:=ak rK f9));all_goals clear rK f9)
      | (go_at_call 188;refine (ql7 R p P2 P3 F bs out (L.take l1) (L.drop l1) a4 oc most oa gi (yy.out.2.1.dF (Db.l2.trans JV.l2)) ((Mi Db.o1 (aw _) (λx hx=>eT (nK.out x hx) HL.o3.size)).fr JV.l2 (by simp)) (Mi JV.o1 (aw _) (λx hx=>eT (nK.out x hx) (bS HL.o3.size Db.l2.size)))).mono ?_;rintro e je (⟨c,hm,bW,cL,rfl,f6⟩|⟨o6,a6,DP,DN,hm,rfl,s6,f6⟩);all_goals (have Km:=af hm;clear hm);all_goals (try (have K6:=ak s6 f6;clear s6 f6))))
     ·have yZ:((z:Int)==0)=true:=by assumption
      have oq:z=0:=by have:=beq_iff_eq.1 yZ;omega
      go_ret;exact .inl ⟨3,by rw[HL.o0,if_pos oq],by decide,by decide,rfl,HL.o3.mono (by simp)⟩
     ·have yZ:((z:Int)==0)=false:=by assumption
      have oq:z≠0:=λhe=>by rw[he]at yZ;cases yZ
      go_ret;exact .inl ⟨3,by rw[HL.o0,if_neg oq,if_pos Qk.o0],by decide,by decide,rfl,(HL.o3.trans (Qk.l1.mono (by simp))).mono (by simp)⟩
     ·have yZ:((z:Int)==0)=false:=by assumption
      have oq:z≠0:=λhe=>by rw[he]at yZ;cases yZ
      go_ret;exact .inl ⟨3,by rw[HL.o0,if_neg oq,if_neg (by rw[Db.o0];simp),if_pos Qj.o0],by decide,by decide,rfl,((HL.o3.trans (Db.l2.mono (by simp))).trans (Qj.l1.mono (by simp))).mono (by simp)⟩
     ·have yZ:((z:Int)==0)=false:=by assumption
      have oq:z≠0:=λhe=>by rw[he]at yZ;cases yZ
      go_ret;exact .inl ⟨c,by rw[HL.o0,if_neg oq,if_neg (by rw[Db.o0];simp),if_neg (by rw[JV.o0];simp),Km.out],bW,cL,rfl,(((HL.o3.trans (Db.l2.mono (by simp))).trans (JV.l2.mono (by simp))).mono (by simp)).trans f6⟩
     ·have yZ:((z:Int)==0)=false:=by assumption
      have oq:z≠0:=λhe=>by rw[he]at yZ;cases yZ
      go_ret;exact .inr ⟨o6,a6,DP,DN,by rw[HL.o0,if_neg oq,if_neg (by rw[Db.o0];simp),if_neg (by rw[JV.o0];simp),Km.out],rfl,K6.o0,(Way.of _ _ _ _ _ ((HL.o3.trans (Db.l2.mono (by simp))).trans (JV.l2.mono (by simp)))).trans K6.l1⟩
    ·go_ret;have uU:=hm;rw[HJ.o5]at uU;exact .inl ⟨c,by rw[HJ.o1,if_neg (by rw[K9.o0];simp),sr,uU],bW,cL,rfl,((HJ.o3.trans (K9.l1.2.mono (by simp))).mono (by simp)).trans f10⟩
theorem FJ:(Tryz.prog.info? 213).map (·.size)=some 3:=by kernel_rfl
theorem qwu {fn:Func} {p:Tmp} (h:fn.results=#[.cell p 213]) (tmps:Array Value) (w:World) (g:Nat) (cs:Array Value) (fr:Nat×Nat)
  (hp:tmps.getD p undef = .pointer (some ⟨g,0,none⟩)) (hg:w.heap[g]?=some (.cells cs 213 fr)) (hs:cs.size=3):(results fn tmps).run Tryz.prog w = .ok (.agg cs) w:=
 results_cell_row h tmps w g 213 cs fr _ hp hg Tryz.underlying213 rfl (by rw[FJ,hs])
def xM:Array Value:=#[.func (.func 166) #[] #[],.func (.func 167) #[] #[],.func (.func 168) #[] #[]]
theorem qxt (w:World):Calls Tryz.prog 135 #[] w λe w'=>e = .returned (.agg xM)/\Fr [] w w':=by go_enter Tryz.func135,Tryz.ntmps135;go_wp2_with (refine wpList_store_row rfl 213 (.tmp 0) (.tmp 1) rfl w.heap.size xM rfl rfl 213 #[.nilFunc,.nilFunc,.nilFunc] (heap_alloc_last w _) FJ rfl (by kernel_rfl) ?_;rw[World.setRow_alloc_new]);simp only[Act.put];refine bodyPost_ret (qwu rfl _ _ w.heap.size xM (0,0) rfl (bx w _) rfl) rfl ?_;exact⟨rfl,(Fr.refl [] w).alloc _⟩
def Ni (x:Except Nat (List UInt8×Nat)):Except Nat (List UInt8×Nat):=match x with
 | .error e=>.error e
 | .ok (o,a)=>.ok (o,(a+7)/8)
theorem zbb (bs:List UInt8) (m:Nat):sY bs m=Ni (dS bs m (fuel bs) [] 0):=rfl
def pz (w:World) (m:Except Nat (List UInt8×Nat)) (e:Ending) (w':World):Prop:=
 (∃c,m = .error c/\0<c/\c<100/\e = .returned (.tuple #[.slice none 0 0,.int .i64 0,.int .i64 (c:Nat)])/\Fr [] w w')\/
 (∃out used ao,m = .ok (out,used)/\e = .returned (.tuple #[.slice ao out.length out.length,.int .i64 (used:Nat),.int .i64 0])/\lib.Rd w' ao out.length out/\(∀x∈ae ao,w.heap.size<=x/\x<w'.heap.size)/\Fr [] w w')
theorem UC (a:Option Addr) (cap:Nat) (bs:List UInt8) (m:Nat) (w:World) (h:lib.Rd w a cap bs) (hlen:bs.length<=100000000) (Oc:m<=100000000) :
  Calls Tryz.prog 110 #[.slice a bs.length cap,.int .i64 m] w (pz w (sY bs m)):=by
 have cu:=bits.qth a cap bs w h.cs h.le h.nil (by omega);obtain⟨M,hM⟩:=ah (sY bs m);rw[<-hM];have H:=au cu hM hlen;clear h cu hM hlen;go_enter Tryz.func110,Tryz.ntmps110;go_upto_block 0 with (go_at_call 133;refine H.o0.mono ?_;rintro e w1 ⟨p,F,rfl,bP,f1,hF⟩;have K1:=au bP f1 hF;clear bP f1 hF);obtain⟨R,hR⟩:=ah w1.heap.size;go_wp2;rw[<-hR];obtain⟨w2,bq⟩:∃w2,w2=w1.alloc (.cells #[.pointer (some ⟨p,0,none⟩),.slice none 0 0,.int .i64 (m:Nat)] 209):=⟨_,rfl⟩;have f2:Fr [] w1 w2:=by rw[bq];exact (Fr.refl [] w1).alloc _
 have S2:St w2 R p F bs 0 [] none 0 m:=by
  refine⟨by rw[bq,hR];exact bx w1 _,bits.G3 K1.o0 f2 (by simp),v8 _ _ _ _,λhx=>?_,by simp[ae],by simp[ae],λx hx=>?_,Oc,H.l2,by simp⟩
  ·have:=(K1.l2 R hx).2;omega
  ·exact eT (K1.l2 x hx).2 f2.size
 have Gu:w.heap.size<=R:=by rw[hR];exact K1.o1.size
 have Sq:w.heap.size<=p:=(K1.l2 p S2.pF.1).1;rw[<-bq];clear bq hR;obtain⟨M0,YE⟩:=ah (dS bs m (fuel bs) [] 0);have hM:M=Ni M0:=by rw[H.o1,YE,zbb]
 have B0:∀(w':World) (a':Nat) (out':List UInt8) (iT:Option Addr) (lO:Nat),St w' R p F bs a' out' iT lO m->Calls Tryz.prog 166 #[.pointer (some ⟨R,0,none⟩)] w' (C9 w' R p F bs iT m (gZ bs m 0 out' a')):=λw' a' out' iT lO s=>by unfold gZ;rw[if_pos rfl];exact qun R p F bs out' a' lO m iT w' s
 have B1:∀(w':World) (a':Nat) (out':List UInt8) (iT:Option Addr) (lO:Nat),St w' R p F bs a' out' iT lO m->Calls Tryz.prog 167 #[.pointer (some ⟨R,0,none⟩)] w' (C9 w' R p F bs iT m (gZ bs m 1 out' a')):=λw' a' out' iT lO s=>by unfold gZ;rw[if_neg (by decide),if_pos rfl];exact qyj R p F bs out' a' lO m iT w' s
 have B2:∀(w':World) (a':Nat) (out':List UInt8) (iT:Option Addr) (lO:Nat),St w' R p F bs a' out' iT lO m->Calls Tryz.prog 168 #[.pointer (some ⟨R,0,none⟩)] w' (C9 w' R p F bs iT m (gZ bs m 2 out' a')):=λw' a' out' iT lO s=>by unfold gZ;rw[if_neg (by decide),if_neg (by decide)];exact qsr R p F bs out' a' lO m iT w' s
 have T1:∀(w':World) (a':Nat) (out':List UInt8) (iT:Option Addr) (lO:Nat),St w' R p F bs a' out' iT lO m->Calls Tryz.prog 134 #[.pointer (some ⟨R,0,none⟩),.int .i64 1] w' (nU w' R p F bs out' iT lO m (bC bs a' 1)):=λw' a' out' iT lO s=>Fm R p F bs out' a' lO m 1 iT w' s (by decide)
 have T2:∀(w':World) (a':Nat) (out':List UInt8) (iT:Option Addr) (lO:Nat),St w' R p F bs a' out' iT lO m->Calls Tryz.prog 134 #[.pointer (some ⟨R,0,none⟩),.int .i64 2] w' (nU w' R p F bs out' iT lO m (bC bs a' 2)):=λw' a' out' iT lO s=>Fm R p F bs out' a' lO m 2 iT w' s (by decide)
 have HB:=aP B0 B1 B2 T1 T2;have HK:=bJ S2 (K1.o1.trans f2) Gu Sq YE hM;clear B0 B1 B2 T1 T2 S2 f2 Gu Sq YE hM;go_loopg [4,5,6,8,9] (fuel bs) (λk s4 s5 s6 s8 s9 wr=>∃(last a1:Nat) (bE:List UInt8) (j7:Option Addr) (oM:Nat),s8 = .int .i64 (last:Nat)/\St wr R p F bs a1 bE j7 oM m/\Way w2 R p none wr j7/\(last=0->dS bs m k bE a1=M0/\8*bs.length+1<=a1+k)/\(last≠0->M0 = .ok (bE,a1)));case atStart=>exact⟨0,0,[],none,0,rfl,HK.o0,.refl _ _ _ _,λ_=>⟨HK.o4.symm,by unfold fuel;omega⟩,λh=>absurd rfl h⟩
 case round=>
  obtain⟨last,a1,bE,j7,oM,rfl,az,hH,Ep,ku⟩:=hrel;have Sf:∀(w':World),Fr (R::p::ae j7) wr w'->Fr [] w w':=λw' f=>by
   have f1:Fr (R::p::ae none) w2 w':=hH.JD f;refine HK.o1.step f1 (λx hx=>.inr ?_);simp only[gw,ae,v7,or_false]at hx;rcases hx with rfl|rfl
   ·exact HK.o2
   ·exact HK.o3
  by_cases hl:last=0
  ·subst hl;obtain⟨Li,CW⟩:=Ep rfl;have Jq:=az.pF.2;obtain⟨k,rfl⟩:∃k,gk=k+1:=⟨gk-1,by omega⟩;have HJ:=aF az hH Li CW;have HU:=af Sf;clear az hH Ep ku Li CW Sf;have ix0:∀w:World,(Instr.index 213 (.agg #[.func (.func 166) #[] #[],.func (.func 167) #[] #[],.func (.func 168) #[] #[]]) (.int .i64 0)).run Tryz.prog w = .ok (.func (.func 166) #[] #[]) w:=λ_=>by kernel_rfl
   have ix1:∀w:World,(Instr.index 213 (.agg #[.func (.func 166) #[] #[],.func (.func 167) #[] #[],.func (.func 168) #[] #[]]) (.int .i64 1)).run Tryz.prog w = .ok (.func (.func 167) #[] #[]) w:=λ_=>by kernel_rfl
   have ix2:∀w:World,(Instr.index 213 (.agg #[.func (.func 166) #[] #[],.func (.func 167) #[] #[],.func (.func 168) #[] #[]]) (.int .i64 2)).run Tryz.prog w = .ok (.func (.func 168) #[] #[]) w:=λ_=>by kernel_rfl
   go_wp2_with (first
    | (go_at_call 134;(with_reducible refine (HB.o3 wr a1 bE j7 oM HJ.out.1).mono ?_);rintro e w3 (⟨v,c,hm,bW,cL,rfl,f3⟩|⟨last,a2,hm,rfl,s3,f3⟩);all_goals (try (have Ny:=Al hm;have K3:=au hm s3 f3;clear hm s3 f3)))
    | (go_at_call 134;(with_reducible refine (HB.l4 w3 a2 bE j7 oM K3.o1).mono ?_);rintro e w4 (⟨v,c,hm,bW,cL,rfl,f4⟩|⟨h,a3,hm,rfl,s4,f4⟩);rotate_left;(have xO:=Al hm;rcases (show h=0\/h=1\/h=2\/h=3 by omega) with rfl|rfl|rfl|rfl);all_goals (try (have K4:=au hm s4 f4;clear hm s4 f4)))
    | (go_at_call 135;refine (qxt w4).mono ?_;rintro e w5 ⟨he,f5⟩;unfold xM at he;subst he;have K5:=af f5;clear f5)
    | (go_at_call 166;refine (HB.o0 w5 a3 bE j7 oM (K4.o1.dF K5.out)).mono ?_;rintro e w6 (⟨c,hm,bW,cL,rfl,f6⟩|⟨o6,a6,DP,DN,hm,rfl,s6,f6⟩);all_goals (have Km:=af hm;clear hm);all_goals (try (have K6:=ak s6 f6;clear s6 f6)))
    | (go_at_call 167;refine (HB.o1 w5 a3 bE j7 oM (K4.o1.dF K5.out)).mono ?_;rintro e w6 (⟨c,hm,bW,cL,rfl,f6⟩|⟨o6,a6,DP,DN,hm,rfl,s6,f6⟩);all_goals (have Km:=af hm;clear hm);all_goals (try (have K6:=ak s6 f6;clear s6 f6)))
    | (go_at_call 168;refine (HB.o2 w5 a3 bE j7 oM (K4.o1.dF K5.out)).mono ?_;rintro e w6 (⟨c,hm,bW,cL,rfl,f6⟩|⟨o6,a6,DP,DN,hm,rfl,s6,f6⟩);all_goals (have Km:=af hm;clear hm);all_goals (try (have K6:=ak s6 f6;clear s6 f6))))
   ·go_ret3;refine .inl ⟨c,?_,bW,cL,rfl,HU.out _ f3⟩;rw[HK.l5,<-HJ.out.2.2.1,dS];simp only[hm];rfl
   ·go_ret3;refine .inl ⟨c,?_,bW,cL,rfl,HU.out _ ((K3.l2.trans (K4.l2.trans (K5.out.mono (by simp)))).mono (by simp) |>.trans f6)⟩;rw[HK.l5,<-HJ.out.2.2.1,dS];simp only[K3.o0,K4.o0,if_neg (show ¬0=3 by decide),Km.out];rfl
   ·go_roundg k;case measure=>omega
    case rel=>
     have h1:=Ak K3.o0;have h2:=Ak K4.o0;have h3:=Vr Km.out;have CW:=HJ.out.2.2.2;have az:dS bs m (k+1) bE a1=if last=0 then dS bs m k o6 a6 else .ok (o6,a6):=by rw[dS];simp only[K3.o0,K4.o0,if_neg (show ¬0=3 by decide),Km.out]
     rw[HJ.out.2.2.1]at az;refine⟨last,a6,o6,DP,DN,rfl,K6.o0,(HJ.out.2.1.trans (Way.of _ _ _ _ _ (K3.l2.trans (K4.l2.trans (K5.out.mono (by simp)))))).trans K6.l1,λh0=>⟨?_,by omega⟩,λh0=>?_⟩
     ·rw[if_pos h0]at az;exact az.symm
     ·rw[if_neg h0]at az;exact az
   ·go_ret3;refine .inl ⟨c,?_,bW,cL,rfl,HU.out _ ((K3.l2.trans (K4.l2.trans (K5.out.mono (by simp)))).mono (by simp) |>.trans f6)⟩;rw[HK.l5,<-HJ.out.2.2.1,dS];simp only[K3.o0,K4.o0,if_neg (show ¬1=3 by decide),Km.out];rfl
   ·go_roundg k;case measure=>omega
    case rel=>
     have h1:=Ak K3.o0;have h2:=Ak K4.o0;have h3:=Vr Km.out;have CW:=HJ.out.2.2.2;have az:dS bs m (k+1) bE a1=if last=0 then dS bs m k o6 a6 else .ok (o6,a6):=by rw[dS];simp only[K3.o0,K4.o0,if_neg (show ¬1=3 by decide),Km.out]
     rw[HJ.out.2.2.1]at az;refine⟨last,a6,o6,DP,DN,rfl,K6.o0,(HJ.out.2.1.trans (Way.of _ _ _ _ _ (K3.l2.trans (K4.l2.trans (K5.out.mono (by simp)))))).trans K6.l1,λh0=>⟨?_,by omega⟩,λh0=>?_⟩
     ·rw[if_pos h0]at az;exact az.symm
     ·rw[if_neg h0]at az;exact az
   ·go_ret3;refine .inl ⟨c,?_,bW,cL,rfl,HU.out _ ((K3.l2.trans (K4.l2.trans (K5.out.mono (by simp)))).mono (by simp) |>.trans f6)⟩;rw[HK.l5,<-HJ.out.2.2.1,dS];simp only[K3.o0,K4.o0,if_neg (show ¬2=3 by decide),Km.out];rfl
   ·go_roundg k;case measure=>omega
    case rel=>
     have h1:=Ak K3.o0;have h2:=Ak K4.o0;have h3:=Vr Km.out;have CW:=HJ.out.2.2.2;have az:dS bs m (k+1) bE a1=if last=0 then dS bs m k o6 a6 else .ok (o6,a6):=by rw[dS];simp only[K3.o0,K4.o0,if_neg (show ¬2=3 by decide),Km.out]
     rw[HJ.out.2.2.1]at az;refine⟨last,a6,o6,DP,DN,rfl,K6.o0,(HJ.out.2.1.trans (Way.of _ _ _ _ _ (K3.l2.trans (K4.l2.trans (K5.out.mono (by simp)))))).trans K6.l1,λh0=>⟨?_,by omega⟩,λh0=>?_⟩
     ·rw[if_pos h0]at az;exact az.symm
     ·rw[if_neg h0]at az;exact az
   ·go_ret3;refine .inl ⟨3,?_,by decide,by decide,rfl,HU.out _ ((K3.l2.trans K4.l2).mono (by simp))⟩;rw[HK.l5,<-HJ.out.2.2.1,dS];simp only[K3.o0,K4.o0,if_pos];rfl
   ·go_ret3;refine .inl ⟨c,?_,bW,cL,rfl,HU.out _ ((K3.l2.mono (by simp)).trans f4)⟩;rw[HK.l5,<-HJ.out.2.2.1,dS];simp only[K3.o0,hm];rfl
  ·have hM:M = .ok (bE,(a1+7)/8):=by rw[HK.l5,ku hl];rfl
   have c0:=cell_of az.box 0;have c1:=cell_of az.box 1;simp only[bw,aV,bN]at c0 c1;obtain⟨N,hN⟩:=ah bE.length;rw[<-hN]at c1;obtain⟨fg,rh⟩:=wh az.own;have hle:=fg.le;rw[<-hN]at hle;have hsl:=λw=>Wg bits.aq N j7 oM hle w
   have KZ:∀w',Fr [] wr w'->Calls Tryz.prog 136 #[.pointer (some ⟨p,0,none⟩)] w' λe EY=>e = .returned (.int .i64 ((a1+7)/8:Nat))/\EY=w':=λw' f'=>(bits.qzy p F bs a1 w' (bits.G3 az.rd f' (by simp))).mono λe EY h=>⟨h.1,h.2.symm⟩
   obtain⟨u,hu⟩:=ah ((a1+7)/8);rw[<-hu]at hM KZ;have hNm:N<=m:=by rw[hN];exact az.om
   have hl9:((last:Int)==0)=false:=by simp;omega
   have HJ:=bJ az hH hM hN fg KZ;have HU:=af Sf;clear az hH Ep ku Sf hM hN fg rh KZ hu;go_upto_region 16 with fail;go_quiet (exact ux (HJ.out.2.2.2.2.2 _ (Fr.drewN [] _ _)));go_wp2;go_ret3;have hN:=HJ.out.2.2.2.1;have fg:=HJ.out.2.2.2.2.1;refine .inr ⟨bE,u,j7,HJ.out.2.2.1,by rw[hN];rfl,?_,λx hx=>⟨?_,?_⟩,HU.out _ (Fr.drewN _ _ _)⟩
   ·have h1:lib.Rd wr j7 bE.length bE:=⟨fg.cs,aw _,bS fg.le fg.max,λh=>by have:=fg.nil h;have:=fg.le;omega⟩;exact h1.fr (Fr.drewN _ _ _)
   ·rcases HJ.out.2.1.new x hx with h1|h1
    ·simp[ae]at h1
    ·exact bS HK.o1.size h1
   ·exact qR HJ.out.1.own (pI hx)
end inf
namespace inf
open Go bm bl huf
theorem Kq {bs:List UInt8} {a n v a1:Nat} (h:bC bs a n = .ok (v,a1)):a1<=8*bs.length:=by
 unfold bC at h;split at h
 ·simp only[gA,fj]at h;omega
 ·cases h
theorem qyb (ls:List Nat):∀(f n v:Nat) (bits:List Bool),(cu ls f n v bits).2.1<=n+bits.length
 | 0,n,v,bits=>by
  cases h:iW ls n v with
  | some s=>rw[MA h];simp
  | none=>rw[Vq h];simp
 | f+1,n,v,bits=>by
  cases h:iW ls n v with
  | some s=>rw[MA h];simp
  | none=>
   by_cases hm:ej ls n v=true
   ·cases bits with
    | nil=>rw[VM h hm];simp
    | cons b t=>rw[VL h hm];have:=qyb ls f (n+1) (2*v+yt b) t;simp only[cQ];omega
   ·rw[VJ h (by simpa using hm)];simp
theorem TW {bs:List UInt8} {ls:List Nat} {a s a1:Nat} (ha:a<=8*bs.length) (h:mQ bs ls a = .ok (s,a1)):a1<=8*bs.length:=by
 unfold mQ at h;split at h
 ·have:=qyb ls 15 0 0 ((aC bs).drop a);rw[eQ,AE]at this;simp only[gA,fj]at h;omega
 ·cases h
theorem qt5 {bs:List UInt8} {most:Nat}:∀{n:Nat} {out o:List UInt8} {q a:Nat},q<=bs.length->dD bs most n out q = .ok (o,a)->a<=8*bs.length
 | 0,out,o,q,a,hq,h=>by simp only[dD,gA,fj]at h;omega
 | n+1,out,o,q,a,hq,h=>by
  rw[dD]at h;split at h
  ·split at h
   ·cases h
   ·exact qt5 (by omega) h
  ·cases h
theorem qxx {bs:List UInt8} {most a a1:Nat} {out o:List UInt8} (h:gK bs most out a = .ok (o,a1)):a1<=8*bs.length:=by
 unfold gK at h;split at h
 ·split at h
  ·exact qt5 (by omega) h
  ·cases h
 ·cases h
theorem qx6 {bs:List UInt8} {s a n a1:Nat} (ha:a<=8*bs.length) (h:dt bs s a = .ok (n,a1)):a1<=8*bs.length:=by
 unfold dt at h;split at h
 ·simp only[gA,fj]at h;omega
 ·split at h
  ·simp only[gA,fj]at h;omega
  ·split at h
   ·cases h
   ·rename_i hh;have:=Kq hh;simp only[gA,fj]at h;omega
theorem zd8 {bs:List UInt8} {s a n a1:Nat} (ha:a<=8*bs.length) (h:iG bs s a = .ok (n,a1)):a1<=8*bs.length:=by
 unfold iG at h;split at h
 ·simp only[gA,fj]at h;omega
 ·split at h
  ·cases h
  ·rename_i hh;have:=Kq hh;simp only[gA,fj]at h;omega
theorem zbe {bs:List UInt8} {most:Nat} {dl:List Nat} {s a a1:Nat} {out o:List UInt8} (ha:a<=8*bs.length) (h:fG bs most dl s out a = .ok (o,a1)):a1<=8*bs.length:=by
 unfold fG at h;split at h
 ·cases h
 ·rename_i n a2 h1;have e1:=qx6 ha h1;split at h
  ·cases h
  ·rename_i d a3 h2;have e2:=TW e1 h2;split at h
   ·cases h
   ·split at h
    ·cases h
    ·rename_i b a4 h3;have e3:=zd8 e2 h3;split at h
     ·cases h
     ·split at h
      ·cases h
      ·simp only[gA,fj]at h;omega
theorem QV {bs:List UInt8} {most:Nat} {ll dl:List Nat}:∀{f:Nat} {out o:List UInt8} {a a1:Nat},a<=8*bs.length->dH bs most ll dl f out a = .ok (o,a1)->a1<=8*bs.length
 | 0,out,o,a,a1,_,h=>by simp only[dH]at h;cases h
 | f+1,out,o,a,a1,ha,h=>by
  rw[dH]at h;split at h
  ·cases h
  ·rename_i s a2 hs;have h1:=TW ha hs;split at h
   ·split at h
    ·cases h
    ·exact QV h1 h
   ·split at h
    ·simp only[gA,fj]at h;omega
    ·split at h
     ·cases h
     ·split at h
      ·cases h
      ·rename_i o2 a3 hm;exact QV (zbe h1 hm) h
theorem qt2 {bs:List UInt8}:∀{ps fs gs:List Nat} {a a1:Nat},a<=8*bs.length->ff bs ps fs a = .ok (gs,a1)->a1<=8*bs.length
 | [],fs,gs,a,a1,ha,h=>by simp only[ff,gA,fj]at h;omega
 | i::t,fs,gs,a,a1,ha,h=>by
  rw[ff]at h;split at h
  ·cases h
  ·rename_i v a2 hm;exact qt2 (Kq hm) h
theorem Uj {bs:List UInt8} {ls:List Nat} {n:Nat}:∀{f:Nat} {L K:List Nat} {a a1:Nat},a<=8*bs.length->cR bs ls n f L a = .ok (K,a1)->a1<=8*bs.length
 | 0,L,K,a,a1,_,h=>by simp only[cR]at h;cases h
 | f+1,L,K,a,a1,ha,h=>by
  rw[cR]at h;split at h
  ·simp only[gA,fj]at h;omega
  ·split at h
   ·cases h
   ·rename_i s a2 hs;have h1:=TW ha hs;split at h
    ·exact Uj h1 h
    ·split at h
     ·cases h
     ·rename_i v a3 hm;split at h
      ·cases h
      ·exact Uj (Kq hm) h
theorem zfe {bs:List UInt8} {most a a1:Nat} {out o:List UInt8} (h:nJ bs most out a = .ok (o,a1)):a1<=8*bs.length:=by
 unfold nJ at h;split at h
 ·cases h
 ·split at h
  ·cases h
  ·split at h
   ·cases h
   ·split at h
    ·cases h
    ·split at h
     ·cases h
     ·rename_i v3 b3 h3;have e3:=Kq h3;unfold su at h;split at h
      ·cases h
      ·rename_i fs b4 h4;have e4:=qt2 e3 h4;split at h
       ·cases h
       ·unfold sr at h;split at h
        ·cases h
        ·rename_i ls b5 h5;have e5:=Uj e4 h5;split at h
         ·cases h
         ·split at h
          ·cases h
          ·split at h
           ·cases h
           ·exact QV e5 h
theorem zbf {bs:List UInt8} {most k a a1:Nat} {out o:List UInt8} (ha:a<=8*bs.length) (h:gZ bs most k out a = .ok (o,a1)):a1<=8*bs.length:=by
 unfold gZ at h;split at h
 ·exact qxx h
 ·split at h
  ·exact QV ha h
  ·exact zfe h
theorem qxy {bs:List UInt8} {most:Nat}:∀{f a a1:Nat} {out o:List UInt8},dS bs most f out a = .ok (o,a1)->a1<=8*bs.length
 | 0,a,a1,out,o,h=>by simp only[dS]at h;cases h
 | f+1,a,a1,out,o,h=>by
  rw[dS]at h;split at h
  ·cases h
  ·split at h
   ·cases h
   ·rename_i k a2 h2;split at h
    ·cases h
    ·split at h
     ·cases h
     ·rename_i o2 a3 h3;split at h
      ·exact qxy h
      ·simp only[gA,fj]at h;have:=zbf (Kq h2) h3;omega
theorem ze8 {bs out:List UInt8} {m n:Nat} (h:sY bs m = .ok (out,n)):n<=bs.length:=by
 unfold sY at h;split at h
 ·cases h
 ·rename_i o a hr;have:=qxy hr;simp only[gA,fj]at h;omega
open Go.RowKit lib
theorem Kt {w:World} {a:Option Addr} {cap:Nat} {bs:List UInt8} (h:lib.Rd w a cap bs) {i:Nat} (hi:i<bs.length):∃g o,a=some ⟨g,o,none⟩/\w.cell? ⟨g,o+i,none⟩=some (.int .u8 (aT bs i:Nat)):=by obtain⟨g,o,ha,hc⟩:=h.at hi;refine⟨g,o,ha,?_⟩;rw[hc];unfold aT;rw[bO hi];rfl
theorem qzt (a:Option Addr) (cap:Nat) (bs:List UInt8) (m:Nat) (w:World) (h:lib.Rd w a cap bs) (hlen:bs.length<=100000000) (Oc:m<=100000000) :
  Calls Tryz.prog 75 #[.slice a bs.length cap,.int .i64 m] w (pz w (mP bs m)):=by
 obtain⟨L,hL⟩:=ah bs.length;obtain⟨M,hM⟩:=ah (mP bs m);rw[<-hM];by_cases h2:bs.length<2
 ·have Gw:M = .error 4:=by rw[hM];unfold mP;rw[if_pos h2]
  rw[<-hL]at h2 ⊢;have d0:decide ((L:Int)<2)=true:=by simp;omega
  have HM:=af Gw;clear h hL hM Gw hlen h2;go_enter Tryz.func75,Tryz.ntmps75;go_wp2;go_ret3;exact .inl ⟨4,HM.out,by decide,by decide,rfl,Fr.refl _ _⟩
 ·obtain⟨g,o,rfl,c0⟩:=Kt h (i:=0) (by omega);obtain⟨g',o',ha',c1⟩:=Kt h (i:=1) (by omega);simp only[eS,qU,and_true]at ha';obtain⟨rfl,rfl⟩:=ha';rw[jS]at c0;obtain⟨x0,gM⟩:∃x,x=aT bs 0:=⟨_,rfl⟩;obtain⟨x1,dT⟩:∃x,x=aT bs 1:=⟨_,rfl⟩;have b0:x0<256:=by rw[gM];exact CC _ _
  have b1:x1<256:=by rw[dT];exact CC _ _
  rw[<-gM]at c0;rw[<-dT]at c1;have hM1:M=if uk x0 x1=false then .error 3 else match sY (bs.drop 2) m with
    | .error e=>.error e
    | .ok (out,n)=>if bs.length-(n+2)<4 then .error 4 else if zy bs (n+2)=sums.jv out then .ok (out,n+6) else .error 6:=by
   rw[hM];unfold mP;rw[if_neg h2,<-gM,<-dT]
   all_goals rfl
  have hle:=h.le;have hmx:=h.max;have tk:lib.Rd w (aL (some ⟨g,o,none⟩) cap 2 1) (cap-2) (bs.drop 2):=h.drop 2 (by omega);have ke:∀w',Fr [] w w'->Calls Tryz.prog 110 #[.slice (aL (some ⟨g,o,none⟩) cap 2 1) (L-2:Nat) (cap-2),.int .i64 m] w' (pz w' (sY (bs.drop 2) m)):=λw' f=>by have:=UC _ (cap-2) (bs.drop 2) m w' (tk.fr f) (by rw[eQ];omega) Oc;rwa [eQ,<-hL]at this
  have hsl:=lib.KL bits.aq 2 (some ⟨g,o,none⟩) L cap 2 rfl (by omega) (by omega);rw[<-hL]at h2 hle ⊢;have d0:decide ((L:Int)<2)=false:=by simp;omega
  obtain⟨y0,KV⟩:∃y,y=x0%16:=⟨_,rfl⟩;obtain⟨y1,sw⟩:∃y,y=x0/16:=⟨_,rfl⟩;obtain⟨z,hz⟩:=ah (x0*256+x1);obtain⟨y2,kt⟩:∃y,y=z%31:=⟨_,rfl⟩;obtain⟨y3,KU⟩:∃y,y=x1/32%2*32:=⟨_,rfl⟩;have e0:=u8_and15 x0 b0;have e3:=qz0 x1 b1;rw[<-KV]at e0;rw[<-KU]at e3;have e1:(x0:Int)/16=(y1:Int):=by omega
  have eor:bits .or .i64 ((x0:Int)*256) (x1:Int)=(z:Int):=by have:=Mg x0 x1 8 (by decide) (by simpa using b1) (by omega);rw[hz];simpa using this
  have Y3:Int.tmod (z:Int) 31=(y2:Int):=by rw[Int.tmod_eq_emod_of_nonneg (by omega)];omega
  have PV:(z:Int)%31=(y2:Int):=by omega
  have hzh:uk x0 x1=((y0==8)&&(decide (y1<=7)&&((y2==0)&&(y3==0)))):=by unfold uk;rw[<-KV,<-sw,<-hz,<-kt];congr 3;rw[Bool.eq_iff_iff,beq_iff_eq,beq_iff_eq];omega
  have i0:(0:Int)<(L:Int):=by omega
  have i1:(1:Int)<(L:Int):=by omega
  have KT:y0<256/\y1<256/\y3<256/\z<65536/\y2<31:=by omega
  have H:=bJ h hlen hL hM1 ke hzh;clear h hlen hL hM1 ke hzh hM gM dT KV sw kt KU hz tk h2;go_enter Tryz.func75,Tryz.ntmps75;go_upto_region 3 with fail;clear d0;go_cut [43] from 11 to 43 (λs43 wc=>s43 = .bool (!((y0==8)&&(decide (y1<=7)&&((y2==0)&&(y3==0)))))/\Fr [] w wc)
  case first=>
   by_cases k0:y0=8
   ·have t0:((y0:Int)!=8)=false:=by simp;omega
    by_cases k1:y1<=7
    ·have t1:decide ((7:Int)<y1)=false:=by simp;omega
     by_cases k2:y2=0
     ·have t2:((y2:Int)!=0)=false:=by simp;omega
      by_cases k3:y3=0
      ·have t3:((y3:Int)!=0)=false:=by simp;omega
       have K:=aF k0 k1 k2 k3;clear k0 k1 k2 k3;go_quiet (fail);go_wp2;go_meet;case rel=>exact⟨by obtain⟨k0,k1,k2,k3⟩:=K.out;simp[k0,k1,k2,k3],Fr.drewN _ _ _⟩
      ·have t3:((y3:Int)!=0)=true:=by simp;omega
       have K:=af k3;clear k0 k1 k2 k3;go_quiet (fail);go_wp2;go_meet;case rel=>exact⟨by have:=K.out;simp[this],Fr.drewN _ _ _⟩
     ·have t2:((y2:Int)!=0)=true:=by simp;omega
      have K:=af k2;clear k0 k1 k2;go_quiet (fail);go_wp2;go_meet;case rel=>exact⟨by have:=K.out;simp[this],Fr.drewN _ _ _⟩
    ·have t1:decide ((7:Int)<y1)=true:=by simp;omega
     have K:=af k1;clear k0 k1;go_quiet (fail);go_wp2;go_meet;case rel=>exact⟨by have:=K.out;simp[this],Fr.drewN _ _ _⟩
   ·have t0:((y0:Int)!=8)=true:=by simp;omega
    have K:=af k0;clear k0;go_quiet (fail);go_wp2;go_meet;case rel=>exact⟨by have:=K.out;simp[this],Fr.drewN _ _ _⟩
  case rest=>
   obtain⟨rfl,f1⟩:=hcut;rw[<-H.out.2.2.2.2.2];obtain⟨bz,Lp⟩:∃b,b=uk x0 x1:=⟨_,rfl⟩;rw[<-Lp];obtain⟨h1,h2,h3,h4,h5,h6⟩:=H.out;rw[<-Lp]at h4;have HF:=au f1 h4 (h5 wc f1);clear f1 h4 h5 h6 h1 h2 h3 Lp e0 e1 e3 eor Y3 PV KT c0 c1;cases bz
   ·go_wp2;go_ret3;exact .inl ⟨3,by rw[HF.o1];first|rfl|(rw[if_pos rfl]),by decide,by decide,rfl,HF.o0⟩
   ·obtain⟨qa,NR⟩:∃q,q=aL (some ⟨g,o,none⟩) cap 2 1:=⟨_,rfl⟩;obtain⟨qc,Xe⟩:∃q,q=cap-2:=⟨_,rfl⟩;obtain⟨qn,Ec⟩:∃q,q=L-2:=⟨_,rfl⟩;rw[<-NR,<-Xe,<-Ec]at hsl;have ke:=HF.l2;rw[<-NR,<-Xe,<-Ec]at ke;have BK:M=match sY (bs.drop 2) m with
      | .error e=>.error e
      | .ok (out,n)=>if bs.length-(n+2)<4 then .error 4 else if zy bs (n+2)=sums.jv out then .ok (out,n+6) else .error 6:=by
     rw[HF.o1];first|rfl|(rw[if_neg (by decide)])
    have HR:=ak ke BK;clear NR Xe Ec ke BK;go_upto_region 6 with (go_at_call 110;refine HR.o0.mono ?_;rintro e w2 (⟨c,hm,k0,k1,rfl,f2⟩|⟨out,n,ao,hm,rfl,LR,nb2,f2⟩))
    ·have K2:=ak hm f2;have d2:((c:Int)!=0)=true:=by simp;omega
     clear hm f2 hsl;go_wp2;go_ret3;exact .inl ⟨c,by rw[HR.l1,K2.o0],k0,k1,rfl,HF.o0.trans K2.l1⟩
    ·have hnu:=ze8 hm;rw[eQ,<-H.out.2.2.1]at hnu;obtain⟨n2,iJ⟩:=ah (n+2);have en2:(n:Int)+2=(n2:Int):=by omega
     have YF:L<=100000000:=by rw[H.out.2.2.1];exact H.out.2.1
     have SA:n2<=L:=by omega
     have vg:M=if L-n2<4 then .error 4 else if zy bs n2=sums.jv out then .ok (out,n2+4) else .error 6:=by rw[HR.l1,hm,iJ,H.out.2.2.1]
     have K2:=aP vg LR nb2 (HF.o0.trans f2) iJ;clear hm LR nb2 f2 iJ vg hsl;by_cases h4:L-n2<4
     ·have d4:decide ((L:Int)-(n2:Int)<4)=true:=by simp;omega
      have H4:=af h4;clear h4;go_wp2;go_ret3;exact .inl ⟨4,by rw[K2.o0,if_pos H4.out],by decide,by decide,rfl,K2.l1.2.2.1⟩
     ·have d4:decide ((L:Int)-(n2:Int)<4)=false:=by simp;omega
      go_upto_region 11 with fail;clear d4 en2;have LQ:=H.out.1.fr K2.l1.2.2.1;have bK:bs.length=L:=H.out.2.2.1.symm;obtain⟨g0,o0,q0,c0⟩:=Kt LQ (i:=n2) (by omega);obtain⟨g1,o1,q1,c1⟩:=Kt LQ (i:=n2+1) (by omega);obtain⟨g2,o2,q2,c2⟩:=Kt LQ (i:=n2+2) (by omega);obtain⟨g3,o3,q3,c3⟩:=Kt LQ (i:=n2+3) (by omega);simp only[eS,qU,and_true]at q0 q1 q2 q3;obtain⟨rfl,rfl⟩:=q0;obtain⟨rfl,rfl⟩:=q1;obtain⟨rfl,rfl⟩:=q2;obtain⟨rfl,rfl⟩:=q3;have l0:=CC bs n2;have l1:=CC bs (n2+1);have l2:=CC bs (n2+2);have l3:=CC bs (n2+3);have Gp:zy bs n2=aT bs n2*16777216+aT bs (n2+1)*65536+aT bs (n2+2)*256+aT bs (n2+3):=rfl;generalize aT bs n2=y0 at *;generalize aT bs (n2+1)=y1 at *;generalize aT bs (n2+2)=y2 at *;generalize aT bs (n2+3)=y3 at *;obtain⟨z1,iZ⟩:∃z,z=y0*16777216+y1*65536:=⟨_,rfl⟩;obtain⟨z2,lS⟩:∃z,z=z1+y2*256:=⟨_,rfl⟩;obtain⟨z3,uK⟩:∃z,z=z2+y3:=⟨_,rfl⟩;have r1:bits .or .u32 ((y0:Int)*16777216) ((y1:Int)*65536)=(z1:Int):=by have:=sums.yG (y0*16777216) (y1*65536) 24 (by omega) (by decide) (by omega) (by omega);rw[<-iZ]at this;simpa using this
      have r2:bits .or .u32 (z1:Int) ((y2:Int)*256)=(z2:Int):=by have:=sums.yG z1 (y2*256) 16 (by omega) (by decide) (by omega) (by omega);rw[<-lS]at this;simpa using this
      have r3:bits .or .u32 (z2:Int) (y3:Int)=(z3:Int):=by have:=sums.yG z2 y3 8 (by omega) (by decide) (by omega) (by omega);rw[<-uK]at this;exact this
      have hz:zy bs n2=z3:=by rw[Gp];omega
      have DT:z3<4294967296:=by omega
      have i0:(n2:Int)<(L:Int):=by omega
      have i1:(n2:Int)+1<(L:Int):=by omega
      have i2:(n2:Int)+2<(L:Int):=by omega
      have i3:(n2:Int)+3<(L:Int):=by omega
      have had:=sums.qrh ao out.length out w2.drew (K2.l1.1.fr (Fr.av [] w2));obtain⟨N,hN⟩:=ah out.length;obtain⟨A,hA⟩:=ah (sums.jv out);have hAl:A<4294967296:=by rw[hA];exact sums.Q8 out
      have Gw:M=if z3=A then .ok (out,n2+4) else .error 6:=by rw[K2.o0,if_neg h4,hz,hA]
      rw[<-hN,<-hA]at had;rw[<-hN];obtain⟨S,hS⟩:∃S:List Nat,S=[]:=⟨_,rfl⟩;have wZ:g∉S:=by rw[hS];simp
      have x0:∀x,(sup S w2.drew x).cell? ⟨g,o+n2,none⟩=some (.int .u8 y0):=λx=>(dk S w2.drew x).cell ((Fr.av [] w2).cell c0 (by simp)) wZ
      have x1:∀x,(sup S w2.drew x).cell? ⟨g,o+(n2+1),none⟩=some (.int .u8 y1):=λx=>(dk S w2.drew x).cell ((Fr.av [] w2).cell c1 (by simp)) wZ
      have x2:∀x,(sup S w2.drew x).cell? ⟨g,o+(n2+2),none⟩=some (.int .u8 y2):=λx=>(dk S w2.drew x).cell ((Fr.av [] w2).cell c2 (by simp)) wZ
      have x3:∀x,(sup S w2.drew x).cell? ⟨g,o+(n2+3),none⟩=some (.int .u8 y3):=λx=>(dk S w2.drew x).cell ((Fr.av [] w2).cell c3 (by simp)) wZ
      have HZ:=aF had Gw hN hS;clear had Gw hN hS hA hz iZ lS uK Gp bK LQ c0 c1 c2 c3 h4 wZ;refine jh 32 [(false,0),(false,1),(false,2),(false,3),(false,4),(false,5),(false,6),(false,7),(false,8),(false,9),(false,10),(false,11),(false,12),(false,13),(false,14),(false,15),(false,16),(false,17),(false,18),(false,19),(false,20),(false,21),(false,22),(false,23),(false,24),(false,25),(false,26),(false,27),(false,28),(false,29),(true,30),(false,31)] S (by kernel_rfl) (by kernel_rfl) (λ_ _ d _ _ h=>by cases d<;>exact h) ?_;simp only[iw];refine cS 30 rfl ?_;simp only[aU];repeat (go_big_quiet_step (fail))
      refine wpQuiet_nil ?_;clear x0 x1 x2 x3;refine ep rfl ?_;intro X hX;go_wp2_with (go_at_call 104;refine HZ.o0.mono ?_;rintro e w3 ⟨rfl,f3⟩);refine hX.out _ _ (by rw[HZ.l3];exact f3) ?_;clear hX X;refine cS 1 rfl ?_;simp only[aU];repeat (go_big_quiet_step (fail))
      refine wpQuiet_nil ?_;refine fE ?_;have HF3:=af (K2.l1.2.2.1.trans ((Fr.av [] w2).trans f3));have rr:=af f3;clear f3 r1 r2 r3 i0 i1 i2 i3;by_cases hza:z3=A
      ·have d5:((z3:Int)!=(A:Int))=false:=by simp;omega
       have HA:=af hza;clear hza;go_wp2;go_ret3;have f23:=(Fr.av [] w2).trans rr.out;refine .inr ⟨out,n2+4,ao,by rw[HZ.o1,if_pos HA.out],by rw[HZ.o2];first|rfl|go_num,K2.l1.1.fr f23,λx hx=>⟨?_,eT (K2.l1.2.1 x hx).2 f23.size⟩,HF3.out⟩;exact bS HF.o0.size (K2.l1.2.1 x hx).1
      ·have d5:((z3:Int)!=(A:Int))=true:=by simp;omega
       have HA:=af hza;clear hza;go_wp2;go_ret3;exact .inl ⟨6,by rw[HZ.o1,if_neg HA.out],by decide,by decide,rfl,HF3.out⟩
end inf
namespace pk
open Go Go.RowKit lib bm
structure qH (w:World) (r:Nat) (a:Option Addr) (cap:Nat) (bs:List UInt8) (at_:Nat):Prop where
 box:w.heap[r]?=some (.cells #[.slice a bs.length cap,.int .i64 at_] 85 (0,0))
 rd:lib.Rd w a cap bs
 le:at_<=bs.length
 off:bs≠[]->∀x∈ae a,x≠r
theorem qH.fr {w w':World} {r:Nat} {a:Option Addr} {cap at_:Nat} {bs:List UInt8} (h:qH w r a cap bs at_) (f:Fr [] w w'):qH w' r a cap bs at_:=
 ⟨f.ae h.box (by simp),h.rd.fr f,h.le,h.off⟩
theorem Fo (r:Nat) (a:Option Addr) (cap:Nat) (bs:List UInt8) (at_ n:Nat) (w:World) (h:qH w r a cap bs at_) (hlen:bs.length<=100000000) (hn:bs.length<at_+n) :
  Calls Tryz.prog 43 #[.pointer (some ⟨r,0,none⟩),.int .i64 n] w λe w'=>e = .returned (.tuple #[.slice none 0 0,.int .i64 4])/\Fr [] w w':=by
 obtain⟨L,hL⟩:=ah bs.length;have c0:w.cell? ⟨r,0,none⟩=some (.slice a L cap):=by rw[cell_of h.box,hL];rfl
 have c1:w.cell? ⟨r,1,none⟩=some (.int .i64 at_):=by rw[cell_of h.box];rfl
 have hle:=h.le;rw[<-hL]at hle hlen hn;have d:decide ((n:Int)>(L:Int)-at_)=true:=by simp;omega
 clear hL h;go_enter Tryz.func43,Tryz.ntmps43;go_upto_region 1 with fail;go_quiet (fail);go_wp2;go_ret2;exact⟨rfl,Fr.drewN _ _ _⟩
theorem Cv (r:Nat) (a:Option Addr) (cap:Nat) (bs:List UInt8) (at_ n:Nat) (w:World) (h:qH w r a cap bs at_) (hlen:bs.length<=100000000) (hn:at_+n<=bs.length) :
  Calls Tryz.prog 43 #[.pointer (some ⟨r,0,none⟩),.int .i64 n] w λe w'=>e = .returned (.tuple #[.slice (cutAt a cap at_) n (cap-at_),.int .i64 0])/\qH w' r a cap bs (at_+n)/\Fr [r] w w':=by
 obtain⟨L,hL⟩:=ah bs.length;have c0:w.cell? ⟨r,0,none⟩=some (.slice a L cap):=by rw[cell_of h.box,hL];rfl
 have c1:w.cell? ⟨r,1,none⟩=some (.int .i64 at_):=by rw[cell_of h.box];rfl
 have z1:=aO h.box 1;have hle:=h.le;have cP:=h.rd.le;have HH:=ak h hL;rw[<-hL]at hle hlen hn cP;have d:decide ((n:Int)>(L:Int)-at_)=false:=by simp;omega
 clear hL h;go_enter Tryz.func43,Tryz.ntmps43;go_upto_region 1 with fail;go_quiet (fail);go_upto_region 4 with fail;have wK:=λw'=>lib.run_slice_lh aq at_ n a L cap ((at_:Int)+n-n) ((at_:Int)+n) (by omega) rfl (by omega) w'
 rw[show (at_:Int)+n-n=(at_:Int) by omega]at wK;have e2:wrap64 ((at_:Int)+n-n)=(at_:Int):=by unfold wrap64;omega
 have e3:(at_:Int)+n-n=(at_:Int):=by omega
 obtain⟨w2,bq⟩:∃w2,w2=(w.drewN nq).setCell ⟨r,1,none⟩ (.int .i64 ((at_:Int)+n)):=⟨_,rfl⟩;rw[<-bq];have hb:=aX (w:=w.drewN nq) (o:=1) (show (w.drewN nq).heap[r]?=_ from HH.o0.box) (.int .i64 ((at_:Int)+n));rw[<-bq]at hb;have f2:Fr [r] w w2:=by rw[bq];exact (Fr.drewN [r] w nq).setCell (by simp) _
 have c0':w2.cell? ⟨r,0,none⟩=some (.slice a L cap):=by rw[cell_of hb,HH.l1];rfl
 have c1':w2.cell? ⟨r,1,none⟩=some (.int .i64 ((at_:Int)+n)):=by rw[cell_of hb];rfl
 have H2:=ak hb f2;clear hb f2 bq c0 c1 z1 d;go_quiet (fail);go_wp2;go_ret2;refine⟨rfl,⟨?_,zF HH.o0.rd (H2.l1.step (Fr.drewN [r] w2 _) (λx hx=>.inl hx)) (λhb x hx hm=>HH.o0.off hb x hx (by simpa using hm)),by rw[<-HH.l1];omega,HH.o0.off⟩,H2.l1.trans (Fr.drewN _ _ _)⟩;have:=H2.o0;simpa using this
theorem u8_and7 (x:Nat) (h:x<16):bits .and .u8 ((x:Nat):Int) 7=((x%8:Nat):Int):=by
 have aE:∀y:Fin 16,bits .and .u8 ((y.val:Nat):Int) 7=((y.val%8:Nat):Int):=by decide +kernel
 exact aE ⟨x,h⟩
theorem qpv (x:Nat) (h:x<256):bits .and .u8 ((x:Nat):Int) 127=((x%128:Nat):Int):=by
 have aE:∀y:Fin 256,bits .and .u8 ((y.val:Nat):Int) 127=((y.val%128:Nat):Int):=by decide +kernel
 exact aE ⟨x,h⟩
theorem zbg (n v k:Nat) (hk:k<=62) (hn:n<2^k) (hv:v*2^k<9223372036854775808):bits .or .i64 (n:Int) ((v:Int)*((2^k:Nat):Int))=((n+v*2^k:Nat):Int):=by
 have h1:=Co k 62 hk;have JG:2^62=4611686018427387904:=by decide
 rw[JG]at h1;rw[<-Cz,ML _ _ (by omega) hv,E9 n v k hn,nE v,G0]
def Qg (w:World) (r:Nat) (a:Option Addr) (cap:Nat) (bs:List UInt8) (at_:Nat) (P:Except Nat (Nat×Nat×Nat)) (e:Ending) (w':World):Prop:=
 Fr [r] w w'/\((∃x,P = .error x/\0<x/\x<100/\e = .returned (.tuple #[.int .i64 0,.int .i64 0,.int .i64 (x:Nat)]))\/
  ∃k s n,P = .ok (k,s,n)/\k<8/\s<=65536/\e = .returned (.tuple #[.int .i64 (k:Nat),.int .i64 (s:Nat),.int .i64 0])/\qH w' r a cap bs (at_+n))
theorem QS (bs:List UInt8) (a i:Nat):(bs.drop a)[i]?=bs[a+i]?:=by rw[CH]
theorem qyc (r:Nat) (a:Option Addr) (cap:Nat) (bs:List UInt8) (at_:Nat) (w:World) (h:qH w r a cap bs at_) (hlen:bs.length<=100000000) :
  Calls Tryz.prog 73 #[.pointer (some ⟨r,0,none⟩)] w (Qg w r a cap bs at_ (AJ (bs.drop at_))):=by
 obtain⟨P,hP⟩:=ah (AJ (bs.drop at_));rw[<-hP];have Pm:CL (bs.drop at_) 5 0 0 0=P:=hP.symm;have H:=au h hlen Pm;clear h hlen hP Pm;go_enter Tryz.func73,Tryz.ntmps73;go_upto_block 0 with fail;go_wp2;go_loopg [2,3,8] 5 (λk s2 s3 s8 wr=>∃i kd sz:Nat,s2 = .int .i64 (kd:Nat)/\s3 = .int .i64 (sz:Nat)/\s8 = .int .i64 (i:Nat)/\i+k=5/\kd<8/\(0<i->sz<2^(7*i-3))/\CL (bs.drop at_) k i kd sz=P/\qH wr r a cap bs (at_+i)/\Fr [r] w wr);case atStart=>exact⟨0,0,0,rfl,rfl,rfl,rfl,by decide,by simp,H.l2,H.o0,Fr.refl _ _⟩
 case round=>
  obtain⟨i,kd,sz,rfl,rfl,rfl,bU,mE,cF,gf,hr,hf⟩:=hrel;by_cases hi:i<5
  ·obtain⟨k,rfl⟩:∃k,gk=k+1:=⟨gk-1,by omega⟩;by_cases dz:at_+i<bs.length
   ·have ht:=Cv r a cap bs (at_+i) 1 wr hr H.o1 (by omega);obtain⟨g,o,rfl,hc⟩:=hr.rd.at dz;have cP:=hr.rd.le;have OC:=hr.off (λe=>by rw[e]at dz;simp at dz) g (by simp[ae]);have ec:cutAt (some ⟨g,o,none⟩) cap (at_+i)=some ⟨g,o+(at_+i),none⟩:=by unfold cutAt;rw[if_neg (by omega)];simp[Aj]
    rw[ec]at ht;obtain⟨p,hp⟩:=ah (o+(at_+i));rw[<-hp]at ht hc;have zi:(bs.drop at_)[i]?=some bs[at_+i]:=by rw[QS,bO dz]
    have hb:=iB bs[at_+i];obtain⟨b,tD⟩:=ah (bs[at_+i]);rw[<-tD]at hc zi hb;obtain⟨c,hcv⟩:=ah b.toNat;rw[<-hcv]at hc hb;rw[CL,zi]at gf;simp only[<-hcv]at gf;have HT:=aP ht hc gf hf OC;clear ht hc gf hf OC zi tD hcv hr ec cP hp;go_upto_region 5 with (go_at_call 43;refine HT.o0.mono ?_;rintro e w3 ⟨rfl,rX,f3⟩);have vR:=f3.cell HT.l1.1 (by simp;exact HT.l1.2.2.2);have H3:=au rX (HT.l1.2.2.1.trans f3) vR;clear rX f3;have zr:=qpv c hb;obtain⟨y,hy⟩:=ah (c%128);rw[<-hy]at zr;by_cases h0:i=0
    ·subst h0;have h7:=u8_and7 (c/16) (by omega);have sN:=inf.u8_and15 c hb;obtain⟨y1,sw⟩:∃y,y=c/16%8:=⟨_,rfl⟩;obtain⟨y2,kt⟩:∃y,y=c%16:=⟨_,rfl⟩;have gf:=HT.l1.2.1;rw[if_pos rfl,<-sw,<-kt]at gf;rw[<-sw,show ((c/16:Nat):Int)=(c:Int)/16 by omega]at h7;rw[<-kt]at sN;have Nn:y1<8:=by omega
     have zaJ:y2<16:=by omega
     have HP:=af gf;clear gf hy sw kt cF;go_upto_region 8 with fail;go_quiet (fail);clear h7 sN zr vR;obtain⟨w4,ft⟩:=ah (w3.drewN nq);rw[<-ft];have f4:Fr [] w3 w4:=by rw[ft];exact Fr.drewN [] w3 nq
     have mA:=H3.o0.fr f4;have Yg:=f4.cell H3.l2 (by simp);have H4:=ak mA (H3.o1.step f4 (by simp));clear ft f4 mA;by_cases zR:y1=0
     ·subst zR;go_wp2;go_ret3;exact⟨H4.l1,.inl ⟨3,by rw[<-HP.out];simp,by decide,by decide,rfl⟩⟩
     ·have d0:((y1:Int)==0)=false:=by simp;omega
      by_cases hk5:y1=5
      ·subst hk5;go_wp2;go_ret3;exact⟨H4.l1,.inl ⟨3,by rw[<-HP.out];simp,by decide,by decide,rfl⟩⟩
      ·have d5:((y1:Int)==5)=false:=by simp;omega
       have gf:=HP.out;rw[if_neg (by omega)]at gf;by_cases h128:128<=c
       ·rw[if_pos h128]at gf;have mG:=af gf;clear gf zR hk5;go_wp2;go_roundg k;case measure=>omega
        case rel=>exact⟨1,y1,y2,by go_num,by go_num,rfl,by omega,Nn,λ_=>by omega,mG.out,H4.o0,H4.l1⟩
       ·rw[if_neg h128]at gf;have mG:=af gf;have hL:decide (128<=(c:Int))=false:=by simp;omega
        have uO:decide ((2147483647:Int)<y2)=false:=by simp;omega
        have cB:decide ((65536:Int)<y2)=false:=by simp;omega
        clear gf zR hk5;go_wp2;go_ret3;exact⟨H4.l1,.inr ⟨y1,y2,1,mG.out.symm,Nn,by omega,rfl,H4.o0⟩⟩
    ·have gf:=HT.l1.2.1;rw[if_neg h0,<-hy]at gf;have Iw:=cF (by omega);have d0:((i:Int)==0)=false:=by simp;omega
     obtain⟨m,hm⟩:=ah (7*i-3);obtain⟨q,hq⟩:=ah (2^m);have Oh:m<=25:=by omega
     have hqb:q<=33554432:=by have:=kr (n:=2) (by decide) Oh;rw[hq];simpa using this
     have uS:=zbg sz y m (by omega) (by rw[hm];exact Iw) (by
      rw[<-hq]
      have:y*q<=127*q:=uz _ (by omega)
      omega)
     rw[<-hm,<-hq]at gf Iw;rw[<-hq]at uS;obtain⟨z,hz⟩:=ah (sz+y*q);rw[<-hz]at gf uS;have hyq:y*q<=127*q:=uz _ (by omega);have DT:z<4294967296/\(i<4->z<2^(7*(i+1)-3)):=by refine⟨by omega,λ_=>?_⟩;rw[show 7*(i+1)-3=m+7 by omega,nA,<-hq];omega
     have em:(7:Int)*(i:Int)-3=(m:Int):=by omega
     have ew:wrap64 ((7:Int)*(i:Int)-3)=(m:Int):=by unfold wrap64;omega
     have esh:wrap64 ((y:Int)*2^m)=(y:Int)*(q:Int):=by
      have e1:(y:Int)*2^m=((y*q:Nat):Int):=by rw[hq,Cz,Ao];rfl
      rw[e1];unfold wrap64;omega
     have NZ:bits .or .i64 (sz:Int) (wrap64 ((y:Int)*2^(7*i-3)))=(z:Int):=by rw[<-hm,esh,uS]
     have KT:y<128:=by omega
     have HP:=aF gf DT.2 hq hm;have WC:=DT.1;clear uS em ew esh Oh hqb;clear hm;clear gf cF Iw hy hz DT hyq hq;by_cases h128:128<=c
     ·have mG:=af ((if_pos h128).symm.trans HP.out.1);go_wp2;go_roundg k;case measure=>omega
      case rel=>exact⟨i+1,kd,z,by go_num,by go_num,by go_num,by omega,mE,λ_=>by
       by_cases hi4:i<4
       ·exact HP.out.2.1 hi4
       ·obtain rfl:i=4:=by omega
        exact WC,mG.out,H3.o0,H3.o1⟩
     ·have gf:=(if_neg h128).symm.trans HP.out.1;have dL:decide (128<=(c:Int))=false:=by simp;omega
      by_cases uK:2147483647<z
      ·have mG:=af ((if_pos uK).symm.trans gf);have d1:decide ((2147483647:Int)<z)=true:=by simp;omega
       clear gf;go_wp2;go_ret3;exact⟨H3.o1,.inl ⟨3,mG.out.symm,by decide,by decide,rfl⟩⟩
      ·have gf:=(if_neg uK).symm.trans gf;have d1:decide ((2147483647:Int)<z)=false:=by simp;omega
       by_cases hz5:65536<z
       ·have mG:=af ((if_pos hz5).symm.trans gf);have d2:decide ((65536:Int)<z)=true:=by simp;omega
        clear gf;go_wp2;go_ret3;exact⟨H3.o1,.inl ⟨5,mG.out.symm,by decide,by decide,rfl⟩⟩
       ·have mG:=af ((if_neg hz5).symm.trans gf);have d2:decide ((65536:Int)<z)=false:=by simp;omega
        clear gf;go_wp2;go_ret3;exact⟨H3.o1,.inr ⟨kd,z,i+1,mG.out.symm,mE,by omega,rfl,H3.o0⟩⟩
   ·have ht:=Fo r a cap bs (at_+i) 1 wr hr H.o1 (by omega);have zi:(bs.drop at_)[i]?=none:=by rw[QS];exact wg (by omega)
    rw[CL,zi]at gf;have HT:=au ht gf hf;clear ht zi gf hf hr cF;go_wp2_with (go_at_call 43;refine HT.o0.mono ?_;rintro e w3 ⟨rfl,f3⟩);go_ret3;exact⟨HT.l1.2.step f3 (by simp),.inl ⟨4,HT.l1.1.symm,by decide,by decide,rfl⟩⟩
  ·obtain rfl:i=5:=by omega
   obtain rfl:gk=0:=by omega
   rw[CL]at gf;have HT:=ak gf hf;clear gf hf hr cF;go_wp2;go_ret3;exact⟨HT.l1,.inl ⟨3,HT.o0.symm,by decide,by decide,rfl⟩⟩
def Qh (w:World) (r:Nat) (a:Option Addr) (cap:Nat) (bs:List UInt8) (at_:Nat) (P:Except Nat (Nat×Nat)) (e:Ending) (w':World):Prop:=
 Fr [r] w w'/\((∃x,P = .error x/\0<x/\x<100/\e = .returned (.tuple #[.int .i64 0,.int .i64 (x:Nat)]))\/
  ∃v n,P = .ok (v,n)/\v<68719476736/\e = .returned (.tuple #[.int .i64 (v:Nat),.int .i64 0])/\qH w' r a cap bs (at_+n))
theorem qzi (r:Nat) (a:Option Addr) (cap:Nat) (bs:List UInt8) (at_:Nat) (w:World) (h:qH w r a cap bs at_) (hlen:bs.length<=100000000) :
  Calls Tryz.prog 74 #[.pointer (some ⟨r,0,none⟩)] w (Qh w r a cap bs at_ (uB (bs.drop at_))):=by
 obtain⟨P,hP⟩:=ah (uB (bs.drop at_));rw[<-hP];have Pm:DL (bs.drop at_) 5 0 0=P:=hP.symm;have H:=au h hlen Pm;clear h hlen hP Pm;go_enter Tryz.func74,Tryz.ntmps74;go_upto_block 0 with fail;go_wp2;go_loopg [4,8] 5 (λk s4 s8 wr=>∃i v:Nat,s4 = .int .i64 (v:Nat)/\s8 = .int .i64 (i:Nat)/\i+k=5/\((i=0->v=0)/\(i=1->v<=127)/\(i=2->v<=16511)/\(i=3->v<=2113663)/\(i=4->v<=270549119)/\v<=34630287487)/\DL (bs.drop at_) k i v=P/\qH wr r a cap bs (at_+i)/\Fr [r] w wr);case atStart=>exact⟨0,0,rfl,rfl,rfl,by decide,H.l2,H.o0,Fr.refl _ _⟩
 case round=>
  obtain⟨i,v,rfl,rfl,bU,hv,gf,hr,hf⟩:=hrel;by_cases hi:i<5
  ·obtain⟨k,rfl⟩:∃k,gk=k+1:=⟨gk-1,by omega⟩;by_cases dz:at_+i<bs.length
   ·have ht:=Cv r a cap bs (at_+i) 1 wr hr H.o1 (by omega);obtain⟨g,o,rfl,hc⟩:=hr.rd.at dz;have cP:=hr.rd.le;have OC:=hr.off (λe=>by rw[e]at dz;simp at dz) g (by simp[ae]);have ec:cutAt (some ⟨g,o,none⟩) cap (at_+i)=some ⟨g,o+(at_+i),none⟩:=by unfold cutAt;rw[if_neg (by omega)];simp[Aj]
    rw[ec]at ht;obtain⟨p,hp⟩:=ah (o+(at_+i));rw[<-hp]at ht hc;have zi:(bs.drop at_)[i]?=some bs[at_+i]:=by rw[QS,bO dz]
    have hb:=iB bs[at_+i];obtain⟨b,tD⟩:=ah (bs[at_+i]);rw[<-tD]at hc zi hb;obtain⟨c,hcv⟩:=ah b.toNat;rw[<-hcv]at hc hb;rw[DL,zi]at gf;simp only[<-hcv]at gf;have HT:=aF ht hc hf OC;clear ht hc hf OC zi tD hcv hr ec cP hp;go_upto_region 6 with (go_at_call 43;refine HT.o0.mono ?_;rintro e w3 ⟨rfl,rX,f3⟩);have vR:=f3.cell HT.l1.1 (by simp;exact HT.l1.2.2);have H3:=ak rX (HT.l1.2.1.trans f3);clear rX f3;have zr:=qpv c hb;obtain⟨y,hy⟩:=ah (c%128);have KT:y<128:=by omega
    rw[<-hy]at zr gf;obtain⟨u,hu⟩:=ah (if 0<i then (v+1)*128 else 0);rw[<-hu]at gf;obtain⟨z,hz⟩:=ah (u+y);rw[<-hz]at gf;have uS:bits .or .i64 (u:Int) (y:Int)=(z:Int):=by
     by_cases h0:0<i
     ·rw[if_pos h0]at hu;have:=Mg (v+1) y 7 (by decide) (by simpa using KT) (by omega);rw[hz,hu];simpa using this
     ·rw[if_neg h0]at hu;rw[hz,hu,ML 0 y (by decide) (by omega)];simp
    have WA:(i+1=1->z<=127)/\(i+1=2->z<=16511)/\(i+1=3->z<=2113663)/\(i+1=4->z<=270549119)/\z<=34630287487:=by
     by_cases h0:0<i
     ·rw[if_pos h0]at hu;omega
     ·rw[if_neg h0]at hu;omega
    have HZ:=ak WA gf;have DT:z<=34630287487:=by omega
    by_cases h0:i=0
    ·subst h0;obtain rfl:v=0:=by omega
     rw[if_neg (by decide)]at hu;subst hu;have NZ:bits .or .i64 0 (y:Int)=(z:Int):=uS;have Nk:z<=127:=by omega
     have HZ2:=af HZ.l1;clear uS gf WA hz hy hv HZ;by_cases h128:c<128
     ·have mG:=af ((if_pos h128).symm.trans HZ2.out);go_wp2;go_ret2;exact⟨H3.l1,.inr ⟨z,1,mG.out.symm,by omega,rfl,H3.o0⟩⟩
     ·have mG:=af ((if_neg h128).symm.trans HZ2.out);have dL:decide ((c:Int)<128)=false:=by simp;omega
      go_wp2;go_roundg k;case measure=>omega
      case rel=>exact⟨1,z,by go_num,by go_num,by omega,⟨by omega,λ_=>Nk,by omega,by omega,by omega,DT⟩,mG.out,H3.o0,H3.l1⟩
    ·have d0:decide ((0:Int)<(i:Int))=true:=by simp;omega
     have FN:((v:Int)+1)*128=(u:Int):=by rw[if_pos (by omega)]at hu;omega
     have NZ:bits .or .i64 (((v:Int)+1)*128) (y:Int)=(z:Int):=by rw[FN];exact uS
     have CP:v<=270549119:=by omega
     clear uS gf WA hz hy hv hu FN;by_cases h128:c<128
     ·have mG:=af ((if_pos h128).symm.trans HZ.l1);go_wp2;go_ret2;exact⟨H3.l1,.inr ⟨z,i+1,mG.out.symm,by omega,rfl,H3.o0⟩⟩
     ·have mG:=af ((if_neg h128).symm.trans HZ.l1);have dL:decide ((c:Int)<128)=false:=by simp;omega
      go_wp2;go_roundg k;case measure=>omega
      case rel=>exact⟨i+1,z,by go_num,by go_num,by omega,⟨by omega,HZ.o0⟩,mG.out,H3.o0,H3.l1⟩
   ·have ht:=Fo r a cap bs (at_+i) 1 wr hr H.o1 (by omega);have zi:(bs.drop at_)[i]?=none:=by rw[QS];exact wg (by omega)
    rw[DL,zi]at gf;have HT:=au ht gf hf;clear ht zi gf hf hr;go_wp2_with (go_at_call 43;refine HT.o0.mono ?_;rintro e w3 ⟨rfl,f3⟩);go_ret2;exact⟨HT.l1.2.step f3 (by simp),.inl ⟨4,HT.l1.1.symm,by decide,by decide,rfl⟩⟩
  ·obtain rfl:i=5:=by omega
   obtain rfl:gk=0:=by omega
   rw[DL]at gf;have HT:=ak gf hf;clear gf hf hr;go_wp2;go_ret2;exact⟨HT.l1,.inl ⟨3,HT.o0.symm,by decide,by decide,rfl⟩⟩
end pk

end Go.Proofs.YtkmpfgpfbmeihaaGreatDoor