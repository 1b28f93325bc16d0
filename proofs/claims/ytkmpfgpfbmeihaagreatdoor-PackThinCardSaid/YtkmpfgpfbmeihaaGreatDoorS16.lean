/-
  Texts of this proof, one behind the other: InfH, InfI, InfK, InfU, InfZ, TripD, PkTrip.
-/
import Derived.Test.YtkmpfgpfbmeihaaGreatDoorS15
set_option maxHeartbeats 16000000
set_option maxRecDepth 100000
set_option linter.unusedVariables false
set_option linter.unusedSimpArgs false
namespace Go.Proofs.YtkmpfgpfbmeihaaGreatDoor.inf
open Go Go.RowKit lib bm bl huf
theorem zgo {i:Nat} (h:i<144):ifix i=8:=by unfold ifix;rw[if_pos h]
theorem zgn {i:Nat} (h1:¬i<144) (h:i<256):ifix i=9:=by unfold ifix;rw[if_neg h1,if_pos h]
theorem zgm {i:Nat} (h1:¬i<144) (h2:¬i<256) (h:i<280):ifix i=7:=by unfold ifix;rw[if_neg h1,if_neg h2,if_pos h]
theorem zgl {i:Nat} (h1:¬i<144) (h2:¬i<256) (h:¬i<280):ifix i=8:=by unfold ifix;rw[if_neg h1,if_neg h2,if_neg h]
theorem zfj (i:Nat):ifix i≤15:=by unfold ifix;split;omega;split;omega;split<;>omega
theorem zcn:∀l∈fixed 288,l≤15:=λl hl=>by obtain⟨i,_,rfl⟩:=qcj.1 hl;exact zfj i
theorem qre:weight (fixed 288)=32768:=by decide +kernel
theorem qiz:weight (List.replicate 32 5)=32768:=by decide +kernel
theorem zco:(List.range 32).map (λ_=>5)=List.replicate 32 5:=by decide +kernel
theorem qjt {i v s:Nat} (hv:ifix i=v):(if s=i then v else if s<i then ifix s else 0)=if s<i+1 then ifix s else 0:=by
 by_cases e:s=i
 ·rw[if_pos e,if_pos (by omega),e,hv]
 ·rw[if_neg e];by_cases e2:s<i
  ·rw[if_pos e2,if_pos (by omega)]
  ·rw[if_neg e2,if_neg (by omega)]
theorem qlz {w:World} {P D B E:Nat} {ls X:List Nat} {first:Nat→Nat} {sa:Nat→Option Addr} {sc:Nat→Nat} (h:TabB w P D ls first sa sc B E) (hE:E≤w.heap.size) (hX:∀x∈X,x<B):Tb w P ls X:=
 ⟨D,first,sa,sc,h.tab,qat h.at_.2 hE,λhP=>by have:=hX P hP;have:=h.at_.1;omega,λl hl x hx=>⟨qat (h.row l hl x hx).2 hE,λhxX=>by have:=hX x hxX;have:=(h.row l hl x hx).1;omega⟩⟩
theorem St.under {w:World} {R p:Nat} {F:List Nat} {bs out:List UInt8} {at_ oc most:Nat} {oa:Option Addr} (h:St w R p F bs at_ out oa oc most):∀x∈R::p::blk oa,x<w.heap.size:=λx hx=>by
 simp only[qbh]at hx;rcases hx with rfl|rfl|hx
 ·exact lt_of_block h.box
 ·exact h.low _ h.pF.1
 ·exact qdu h.own (qdw hx)
theorem qzb (R p:Nat) (F:List Nat) (bs out:List UInt8) (at_ oc most:Nat) (oa:Option Addr) (w:World) (h:St w R p F bs at_ out oa oc most) :
  Calls Tryz.prog 167 #[.pointer (some ⟨R,0,none⟩)] w (Ret w R p F bs oa most (ifixed bs most out at_)):=by
 obtain⟨hu,⟨ti,hi',hz',hs',hb'⟩,hcz,hp⟩:=huf.qdd;have H:=zhd h;clear h;go_enter Tryz.func167,Tryz.ntmps167;obtain⟨Q,hQ⟩:=zex w.heap.size;have HQ:=zhd hQ;clear hQ;go_upto_block 0 with (refine wpList_make_full _ rfl _ _ 28 rfl 0 3 ti (.int .i64 0) 1 hu hi' hz' hs' .i64 .i64 288 288 288 rfl rfl rfl rfl (by rw[hb'];omega) (by unfold maxLen;omega) (by omega) ?_;intro w1 own1 grow1;have H1:=zhd2 own1 grow1;clear own1 grow1);rw[<-HQ.out]at H1 ⊢;have hq1:Ow w1 Q 288 (λ_=>0):=qpf H1.o0;have f1:Fr [] w w1:=(Fr.refl [] w).grown H1.l1 (λk hk=>by cases hk);have HS:=zhd2 hq1 f1;clear hq1 f1 H1;go_wp2;go_loopg [4,14,20,26,32] 288 (λk s4 s14 s20 s26 s32 wr=>∃i:Nat,s14 = .int .i64 (i:Nat)∧i+k=288∧Ow wr Q 288 (λj=>if j<i then ifix j else 0)∧Fr [] w wr);case atStart=>exact⟨0,rfl,rfl,HS.o0.congr λs _=>by simp,HS.l1⟩
 case round=>
  obtain⟨i,rfl,hik,how,hf⟩:=hrel;by_cases hi:i<288
  ·obtain⟨k,rfl⟩:∃k,gk=k+1:=⟨gk-1,by omega⟩;have c1:=how.cell hi;have z1:=how.frozen i;have HI:=zhd2 how hf;clear how hf;go_wp2
   ·go_roundg k;case measure=>omega
    case rel=>exact⟨i+1,by go_num,by omega,(HI.out.1.set hi 8).congr (λs _=>qjt (zgo (by omega))),HI.out.2.step ((Fr.refl [Q] wr).setCell (by simp) _) (λz hz=>.inr (by simp at hz;rw[hz,HQ.out];exact qae _))⟩
   ·go_roundg k;case measure=>omega
    case rel=>exact⟨i+1,by go_num,by omega,(HI.out.1.set hi 9).congr (λs _=>qjt (zgn (by omega) (by omega))),HI.out.2.step ((Fr.refl [Q] wr).setCell (by simp) _) (λz hz=>.inr (by simp at hz;rw[hz,HQ.out];exact qae _))⟩
   ·go_roundg k;case measure=>omega
    case rel=>exact⟨i+1,by go_num,by omega,(HI.out.1.set hi 7).congr (λs _=>qjt (zgm (by omega) (by omega) (by omega))),HI.out.2.step ((Fr.refl [Q] wr).setCell (by simp) _) (λz hz=>.inr (by simp at hz;rw[hz,HQ.out];exact qae _))⟩
   ·go_roundg k;case measure=>omega
    case rel=>exact⟨i+1,by go_num,by omega,(HI.out.1.set hi 8).congr (λs _=>qjt (zgl (by omega) (by omega) (by omega))),HI.out.2.step ((Fr.refl [Q] wr).setCell (by simp) _) (λz hz=>.inr (by simp at hz;rw[hz,HQ.out];exact qae _))⟩
  ·obtain rfl:i=288:=by omega
   have hfix:Ow wr Q 288 ifix:=how.congr λs hs=>if_pos hs
   obtain⟨w2,rfl⟩:∃w2:World,w2=wr:=⟨_,rfl⟩;obtain⟨Q2,hQ2⟩:=zex w2.heap.size;have HI:=zhd3 hfix hf hQ2;clear how hf hfix hQ2 hik;go_upto_block 3 with (refine wpList_make_full _ rfl _ _ 28 rfl 0 3 ti (.int .i64 0) 1 hu hi' hz' hs' .i64 .i64 32 32 32 rfl rfl rfl rfl (by rw[hb'];omega) (by unfold maxLen;omega) (by omega) ?_;intro w3 own3 grow3;have H3:=zhd2 own3 grow3;clear own3 grow3);rw[<-HI.out.2.2]at H3 ⊢;have hq3:Ow w3 Q2 32 (λ_=>0):=qpf H3.o0;have f3:Fr [] w2 w3:=(Fr.refl [] w2).grown H3.l1 (λk hk=>by cases hk);have HT:=zhd3 hq3 f3 (HI.out.1.fr f3 (by simp));clear hq3 f3 H3 hu hi' hz' hs' hb' hcz hp;go_wp2;go_loopg [6,42] 32 (λk s6 s42 wr=>∃i:Nat,s42 = .int .i64 (i:Nat)∧i+k=32∧Ow wr Q2 32 (λj=>if j<i then 5 else 0)∧Ow wr Q 288 ifix∧Fr [] w wr);case atStart=>exact⟨0,rfl,rfl,HT.o0.congr λs _=>by simp,HT.l2,HI.out.2.1.trans HT.o1⟩
   case round=>
    obtain⟨j,rfl,hjk,how,how0,hf⟩:=hrel;have hQQ:Q<Q2:=by obtain⟨A,hA,_⟩:=HI.out.1;rw[HI.out.2.2];exact lt_of_block hA
    by_cases hj:j<32
    ·obtain⟨k,rfl⟩:∃k,gk=k+1:=⟨gk-1,by omega⟩;have c1:=how.cell hj;have z1:=how.frozen j;have HJ:=zhd3 how how0 hf;clear how how0 hf;go_wp2;go_roundg k;case measure=>omega
     case rel=>exact⟨j+1,by go_num,by omega,(HJ.o0.set hj 5).congr (λs _=>by
      by_cases e:s=j
      ·rw[if_pos e,if_pos (by omega)]
      ·rw[if_neg e]
       by_cases e2:s<j
       ·rw[if_pos e2,if_pos (by omega)]
       ·rw[if_neg e2,if_neg (by omega)]),HJ.o1.fr ((Fr.refl [Q2] wr).setCell (by simp) _) (by simp;omega),HJ.l2.step ((Fr.refl [Q2] wr).setCell (by simp) _) (λz hz=>.inr (by simp at hz;rw[hz,HI.out.2.2];exact HI.out.2.1.size))⟩
    ·obtain rfl:j=32:=by omega
     have h5:Ow wr Q2 32 (λ_=>5):=how.congr λs hs=>if_pos hs
     have r1:Ri wr (some ⟨Q,0,none⟩) 288 (fixed 288):=⟨how0.cs,by decide +kernel,by decide,λh=>by cases h⟩;have r2:Ri wr (some ⟨Q2,0,none⟩) 32 (List.replicate 32 5):=⟨by have:=h5.cs;rw[zco]at this;exact this,by decide,by decide,λh=>by cases h⟩;obtain⟨wo,rfl⟩:∃wo:World,wo=wr:=⟨_,rfl⟩;have N1:Calls Tryz.prog 187 #[.slice (some ⟨Q,0,none⟩) 288 288] wo (NewTab wo (fixed 288)):=qsm (some ⟨Q,0,none⟩) 288 (fixed 288) wo r1 zcn (by decide +kernel) (by rw[qre];exact qae _);have N2:∀w5,Fr [] wo w5→Calls Tryz.prog 187 #[.slice (some ⟨Q2,0,none⟩) 32 32] w5 (NewTab w5 (List.replicate 32 5)):=λw5 f5=>qsm (some ⟨Q2,0,none⟩) 32 (List.replicate 32 5) w5 (r2.fr f5) (λl hl=>by rw[(qlb.1 hl).2];decide) (by decide) (by rw[qiz];exact qae _)
     have HN:=zhd3 N1 N2 hf;clear how how0 hf h5 r1 r2 N1 N2 hj hjk;go_wp2_with (first|(go_at_call 187;(with_reducible refine HN.o0.mono ?_);rintro e w4 ⟨P,D,first,sa,sc,rfl,htb,f4⟩;have K4:=zhd2 htb f4;clear htb f4)|(go_at_call 187;(with_reducible refine (HN.o1 _ K4.l1).mono ?_);rintro e w5 ⟨P5,D5,first5,sa5,sc5,rfl,htb,f5⟩;have K5:=zhd2 htb f5;clear htb f5)|(go_at_call 188;have hu:=H.out.under;go_loud (refine (ql8 R p P P5 F bs out (fixed 288) (List.replicate 32 5) at_ oc most oa w5 (H.out.fr0 ((HN.l2.trans K4.l1).trans K5.l1)) ((qlz K4.o0 (qae _) (λx hx=>qat (hu x hx) HN.l2.size)).fr K5.l1 (by simp)) (qlz K5.o0 (qae _) (λx hx=>qat (hu x hx) (HN.l2.trans K4.l1).size))).mono ?_);rintro e w6 (⟨c,hm,hc0,hc1,rfl,f6⟩|⟨o6,a6,oa6,oc6,hm,rfl,s6,f6⟩);all_goals (have Km:=zhd hm;clear hm);all_goals (try (have K6:=zhd2 s6 f6;clear s6 f6))))
     ·go_ret;exact .inl ⟨c,Km.out,hc0,hc1,rfl,(((HN.l2.trans K4.l1).trans K5.l1).mono (by simp)).trans f6⟩
     ·go_ret;exact .inr ⟨o6,a6,oa6,oc6,Km.out,rfl,K6.o0,(Way.of0 _ _ _ _ _ ((HN.l2.trans K4.l1).trans K5.l1)).trans K6.l1⟩
def ordV:Array Value:=#[.int .i64 16,.int .i64 17,.int .i64 18,.int .i64 0,.int .i64 8,.int .i64 7,.int .i64 9,.int .i64 6,.int .i64 10,.int .i64 5,.int .i64 11,.int .i64 4,.int .i64 12,.int .i64 3,.int .i64 13,.int .i64 2,.int .i64 14,.int .i64 1,.int .i64 15]
def zeroV:Array Value:=#[.int .i64 0,.int .i64 0,.int .i64 0,.int .i64 0,.int .i64 0,.int .i64 0,.int .i64 0,.int .i64 0,.int .i64 0,.int .i64 0,.int .i64 0,.int .i64 0,.int .i64 0,.int .i64 0,.int .i64 0,.int .i64 0,.int .i64 0,.int .i64 0,.int .i64 0]
theorem info19:(Tryz.prog.info? 287).map (·.size)=some 19:=by kernel_rfl
theorem qvg {fn:Func} {p:Tmp} (h:fn.results=#[.cell p 287]) (tmps:Array Value) (w:World) (g:Nat) (cs:Array Value) (fr:Nat×Nat)
  (hp:tmps.getD p undef = .pointer (some ⟨g,0,none⟩)) (hg:w.heap[g]?=some (.cells cs 287 fr)) (hs:cs.size=19):(results fn tmps).run Tryz.prog w = .ok (.agg cs) w:=
 results_cell_row h tmps w g 287 cs fr _ hp hg Tryz.underlying287 rfl (by rw[info19,hs])
theorem qxy (w:World):Calls Tryz.prog 189 #[] w λe w'=>e = .returned (.agg ordV)∧Fr [] w w':=by go_enter Tryz.func189,Tryz.ntmps189;go_wp2_with (refine wpList_store_row rfl 287 (.tmp 0) (.tmp 1) rfl w.heap.size ordV rfl rfl 287 zeroV (heap_alloc_last w _) info19 rfl (by kernel_rfl) ?_;rw[World.setRow_alloc_new]);simp only[Act.put];refine bodyPost_ret (qvg rfl _ _ w.heap.size ordV (0,0) rfl (qay w _) rfl) rfl ?_;exact⟨rfl,(Fr.refl [] w).alloc _⟩
theorem zes {w:World} {a:Option Addr} {cap:Nat} {xs:List Nat} (h:Ri w a cap xs) (k:Nat) (hk:k≤xs.length):Ri w (cutAtN a cap k 1) (cap-k) (xs.drop k):=
 ⟨by rw[qti];exact qzn h.cs k (by simpa using hk) (by simpa using h.le),by have:=h.le;simp;omega,qar (Nat.sub_le _ _) h.max,λhn=>by have:=h.nil (qne hn);omega⟩
theorem qyf {fs:List Nat} {i v:Nat} (hi:i<fs.length) (t:Nat):lenAt (fs.set i v) t=if t=i then v else lenAt fs t:=by
 unfold lenAt;rw[List.getElem?_set];by_cases e:i=t
 ·subst e;simp[hi]
 ·rw[if_neg e,if_neg (λh=>e h.symm)]
theorem ze3 {w:World} {Q:Nat} {fs:List Nat} (h:Ow w Q 19 (lenAt fs)) (hl:fs.length=19):Ri w (some ⟨Q,0,none⟩) 19 fs:=by
 have e:(List.range 19).map (lenAt fs)=fs:=by
  refine List.ext_getElem (by simp[hl]) λi h1 h2=>?_
  simp[lenAt,h2]
 have:=h.cs;rw[e]at this;exact⟨this,by omega,by decide,λh=>by cases h⟩
theorem qvi:places=defl.ordL:=rfl
theorem ze5 {i:Nat} (h:i<19):ordV[i]?=some (.int .i64 ((defl.ord i:Nat):Int)):=by
 have e:ordV=(defl.ordL.map λx=>Value.int .i64 (x:Nat)).toArray:=rfl;have hl:i<defl.ordL.length:=by simp[defl.ordL];omega
 rw[e];simp[defl.ord,qai hl]
theorem qsh {m j:Nat} (h:j<m) (hm:m≤19):(places.take m).drop j=defl.ord j::(places.take m).drop (j+1):=by
 have hl:places.length=19:=rfl;have h1:j<(places.take m).length:=by rw[qaq];omega
 rw[qcg h1];congr 1;simp[defl.ord,<-qvi,qai (show j<places.length by omega)]
theorem qs4 (R p:Nat) (F:List Nat) (bs out:List UInt8) (at_ oc most:Nat) (oa:Option Addr) (w:World) (h:St w R p F bs at_ out oa oc most) :
  Calls Tryz.prog 168 #[.pointer (some ⟨R,0,none⟩)] w (Ret w R p F bs oa most (idyn bs most out at_)):=by
 obtain⟨M,hM⟩:=zex (idyn bs most out at_);rw[<-hM];have TT:∀(n:Nat) (a:Nat) (w':World),St w' R p F bs a out oa oc most→n≤31→Calls Tryz.prog 134 #[.pointer (some ⟨R,0,none⟩),.int .i64 (n:Nat)] w' (RetV w' R p F bs out oa oc most (itake bs a n)):=λn a w' s hn=>qgc R p F bs out a oc most n oa w' s hn
 have T3:∀(a:Nat) (w':World),St w' R p F bs a out oa oc most→Calls Tryz.prog 134 #[.pointer (some ⟨R,0,none⟩),.int .i64 3] w' (RetV w' R p F bs out oa oc most (itake bs a 3)):=λa w' s=>TT 3 a w' s (by decide)
 have T4:∀(a:Nat) (w':World),St w' R p F bs a out oa oc most→Calls Tryz.prog 134 #[.pointer (some ⟨R,0,none⟩),.int .i64 4] w' (RetV w' R p F bs out oa oc most (itake bs a 4)):=λa w' s=>TT 4 a w' s (by decide)
 have T5:∀(a:Nat) (w':World),St w' R p F bs a out oa oc most→Calls Tryz.prog 134 #[.pointer (some ⟨R,0,none⟩),.int .i64 5] w' (RetV w' R p F bs out oa oc most (itake bs a 5)):=λa w' s=>TT 5 a w' s (by decide)
 have HT:=zhd3 T3 T4 T5;have H:=zhd2 h hM;clear h hM TT T3 T4 T5;go_enter Tryz.func168,Tryz.ntmps168;go_upto_region 14 with (first
  | (go_at_call 134;(with_reducible refine (HT.l2 at_ w H.o0).mono ?_);rintro e w1 (⟨v,c,hm,hc0,hc1,rfl,f1⟩|⟨lit,a1,hm,rfl,s1,f1⟩);all_goals (try (have hv1:=qe3 hm;have K1:=zhd3 hm s1 f1;clear hm s1 f1)))
  | (go_at_call 134;(with_reducible refine (HT.l2 a1 w1 K1.o1).mono ?_);rintro e w2 (⟨v,c,hm,hc0,hc1,rfl,f1⟩|⟨dist,a2,hm,rfl,s2,f2⟩);all_goals (try (have hv2:=qe3 hm;have K2:=zhd3 hm s2 f2;clear hm s2 f2)))
  | (go_at_call 134;(with_reducible refine (HT.o1 a2 w2 K2.o1).mono ?_);rintro e w3 (⟨v,c,hm,hc0,hc1,rfl,f1⟩|⟨n,a3,hm,rfl,s3,f3⟩);all_goals (try (have hv3:=qe3 hm;have K3:=zhd3 hm s3 f3;clear hm s3 f3))))
 ·go_ret;exact .inl ⟨c,by rw[H.l1];simp only[idyn,hm],hc0,hc1,rfl,f1⟩
 ·go_ret;exact .inl ⟨3,by rw[H.l1];simp only[idyn,K1.o0,if_pos (show 29<lit by omega)],by decide,by decide,rfl,K1.l2.mono (by simp)⟩
 ·go_ret;exact .inl ⟨c,by rw[H.l1];simp only[idyn,K1.o0,if_neg (show ¬29<lit by omega),hm],hc0,hc1,rfl,(K1.l2.mono (by simp)).trans f1⟩
 ·go_ret;exact .inl ⟨3,by rw[H.l1];simp only[idyn,K1.o0,if_neg (show ¬29<lit by omega),K2.o0,if_pos (show 29<dist by omega)],by decide,by decide,rfl,(K1.l2.trans K2.l2).mono (by simp)⟩
 ·go_ret;exact .inl ⟨c,by rw[H.l1];simp only[idyn,K1.o0,if_neg (show ¬29<lit by omega),K2.o0,if_neg (show ¬29<dist by omega),hm],hc0,hc1,rfl,((K1.l2.trans K2.l2).mono (by simp)).trans f1⟩
 ·have hM3:M=idyn2 bs most out lit dist n a3:=by rw[H.l1];simp only[idyn,K1.o0,if_neg (show ¬29<lit by omega),K2.o0,if_neg (show ¬29<dist by omega),K3.o0]
  have hl1:lit≤29:=by omega
  have hd1:dist≤29:=by omega
  have hn1:n≤15:=by omega
  have hf3:Fr [p] w w3:=((K1.l2.trans K2.l2).trans K3.l2);have HK:=zhd4 hM3 K3.o1 hf3 H.o0;clear hM3 hf3 K1 K2 K3 H hv1 hv2 hv3;obtain⟨m,hm⟩:=zex (n+4);have em:(n:Int)+4=(m:Nat):=by omega
  have hm19:m≤19:=by omega
  have HM:=zhd hm;clear hm;obtain⟨hu,⟨ti,hi',hz',hs',hb'⟩,hcz,hp⟩:=huf.qdd;obtain⟨Q,hQ⟩:=zex w3.heap.size;have HQ:=zhd hQ;clear hQ;go_upto_region 15 with (refine wpList_make_full _ rfl _ _ 28 rfl 0 3 ti (.int .i64 0) 1 hu hi' hz' hs' .i64 .i64 19 19 19 rfl rfl rfl rfl (by rw[hb'];omega) (by unfold maxLen;omega) (by omega) ?_;intro w4 own4 grow4;have H4:=zhd2 own4 grow4;clear own4 grow4);rw[<-HQ.out]at H4 ⊢;have hq4:Ow w4 Q 19 (λ_=>0):=qpf H4.o0;have f4:Fr [] w3 w4:=(Fr.refl [] w3).grown H4.l1 (λk hk=>by cases hk);have HW:=zhd2 hq4 f4;clear hq4 f4 H4 hu hi' hz' hs' hb' hcz hp;go_cut [8,46] from 46 to 46 (λs8 s46 wz=>∃O:Nat,s8 = .pointer (some ⟨O,0,none⟩)∧wz.heap[O]?=some (.cells ordV 287 (0,0))∧Fr [] w4 wz∧w4.heap.size≤O)
  case first=>go_wp2_with (first|(go_at_call 189;refine (qxy w4).mono ?_;rintro e w5 ⟨rfl,f5⟩;have K5:=zhd f5;clear f5)|(refine wpList_store_row rfl 287 (.tmp 8) (.tmp 46) rfl w5.heap.size ordV rfl rfl 287 zeroV (heap_alloc_last w5 _) info19 rfl (by kernel_rfl) ?_;rw[World.setRow_alloc_new]));simp only[Act.put];go_meet;exact⟨w5.heap.size,rfl,qay w5 _,K5.out.alloc _,K5.out.size⟩
  case rest=>
  obtain⟨O,rfl,hO,f6,hO4⟩:=hcut;obtain⟨w7,rfl⟩:∃w7:World,w7=wc:=⟨_,rfl⟩;have f37:Fr [] w3 w7:=HW.out.2.trans f6;have hQ7:Ow w7 Q 19 (lenAt (List.replicate 19 0)):=(HW.out.1.fr f6 (by simp)).congr λs hs=>by simp only[lenAt,qld,if_pos hs];rfl
  have hQO:Q<O:=by obtain⟨A,hA,_⟩:=HW.out.1;have:=lt_of_block hA;omega
  have hQ3:w3.heap.size≤Q:=by rw[HQ.out];exact qae _
  have H7:=zhd5 hQ7 hO f37 hQO hQ3;clear hQ7 hO f37 hQO f6 hO4 hQ3;have d1:decide ((286:Int)<(lit:Int)+257)=false:=by simp;omega
  have d2:decide ((30:Int)<(dist:Int)+1)=false:=by simp;omega
  simp only[d1,d2];clear d1 d2;have hsl:=defl.qqg O m hm19;go_wp2;clear hsl;go_loopg [2,4,10,51] m (λk s2 s4 s10 s51 wr=>∃(j a1:Nat) (fs:List Nat),s51 = .int .i64 (j:Nat)∧s4 = .int .i64 0∧j+k=m∧St wr R p F bs a1 out oa oc most∧Ow wr Q 19 (lenAt fs)∧fs.length=19∧(∀x∈fs,x≤15)∧wr.heap[O]?=some (.cells ordV 287 (0,0))∧Fr [p] w wr∧ifirst bs ((places.take m).drop j) fs a1=ifirst bs (places.take m) (List.replicate 19 0) a3);case atStart=>exact⟨0,a3,List.replicate 19 0,rfl,rfl,by omega,HK.o1.fr0 H7.o2,H7.o0,rfl,λx hx=>by rw[(qlb.1 hx).2];decide,H7.o1,HK.o2.trans (H7.o2.mono (by simp)),rfl⟩
  case round=>
   obtain⟨j,a1,fs,rfl,rfl,hjm,hst,how,hfl,hf15,hO,hfw,hfi⟩:=hrel;have hw3:w.heap.size≤w3.heap.size:=HK.o2.size;have hp0:p<w.heap.size:=HK.l3.low _ HK.l3.pF.1;by_cases hj:j<m
   ·obtain⟨k,rfl⟩:∃k,gk=k+1:=⟨gk-1,by omega⟩;have cO:=cell_of hO j;rw[ze5 (by omega)]at cO;obtain⟨i,hi⟩:=zex (defl.ord j);have hi19:i<19:=by rw[hi];exact defl.qt3 j
    have hpd:=qsh hj hm19;rw[<-hi]at cO hpd;rw[hpd]at hfi;have HJ:=zhd7 hst how hfl hf15 hO hfw hfi;clear hst how hfl hf15 hO hfw hfi hi hpd;go_wp2_with (go_at_call 134;refine (HT.o0 a1 wr HJ.o0).mono ?_;rintro e w8 (⟨v,c,hm,hc0,hc1,rfl,f1⟩|⟨v,a2,hm,rfl,s8,f8⟩);rotate_left;all_goals (try (have hv:=qe3 hm;have hx8:=HJ.o1.fr f8 (show Q∉[p] by have:=H7.l4;simp;omega);have K8:=zhd4 hm s8 f8 hx8;clear hm s8 f8;have c8:=hx8.cell hi19;have z8:=hx8.frozen i;clear hx8));all_goals (try (have hx9:=HJ.o1.fr f1 (show Q∉R::p::blk oa by have:=H7.l4;have hu:=HK.l3.under;intro hq;have:=hu Q hq;omega);have c8:=hx9.cell hi19;have z8:=hx9.frozen i;have K9:=zhd2 hm f1;clear hm f1 hx9)))
    ·go_roundg k;case measure=>omega
     case rel=>
      have hQw:∀x∈[Q],w.heap.size≤x:=λx hx=>by have:=H7.l4;simp at hx;omega
      have fQ:Fr [Q] w8 (w8.setCell ⟨Q,i,none⟩ (.int .i64 v)):=(Fr.refl [Q] _).setCell (by simp) _;refine⟨j+1,a2,fs.set i v,by go_num,rfl,by omega,HK.l3.up K8.o1 fQ hQw,(K8.l3.set hi19 v).congr (λt _=>(qyf (by rw[HJ.o2];exact hi19) t).symm),by rw[List.length_set,HJ.o2],λx hx=>?_,fQ.blk (K8.o2.blk HJ.o4 (by have:=H7.out.2.2.2;simp;omega)) (by have:=H7.o3;simp;omega),(HJ.o5.trans K8.o2).step fQ (λx hx=>.inr (hQw x hx)),?_⟩
      ·rcases List.mem_or_eq_of_mem_set hx with h1|h1
       ·exact HJ.o3 x h1
       ·rw[h1];omega
      ·rw[<-HJ.l6,ifirst,K8.o0]
    ·go_ret;have hQw:∀x∈[Q],w.heap.size≤x:=λx hx=>by have:=H7.l4;simp at hx;omega
     refine .inl ⟨c,?_,hc0,hc1,rfl,((HJ.o5.mono (by simp)).trans K9.l1).step ((Fr.refl [Q] _).setCell (by simp) _) (λx hx=>.inr (hQw x hx))⟩;rw[HK.o0,idyn2,<-HM.out,<-HJ.l6,ifirst,K9.o0]
   ·obtain rfl:j=m:=by omega
    have hok:ifirst bs (places.take j) (List.replicate 19 0) a3 = .ok (fs,a1):=by rw[<-hfi,List.drop_of_length_le (by rw[qaq];omega),ifirst]
    have hM4:M=if iwhole fs false=false then .error 3 else idyn3 bs most out lit dist fs a1:=by rw[HK.o0,idyn2,<-HM.out,hok]
    have W1:Calls Tryz.prog 190 #[.slice (some ⟨Q,0,none⟩) 19 19,.bool false] wr (WholeGood wr fs false):=by have:=qlv (some ⟨Q,0,none⟩) 19 fs false wr (ze3 how hfl) hf15 (by omega);rwa [hfl]at this
    obtain⟨wo,rfl⟩:∃wo:World,wo=wr:=⟨_,rfl⟩;obtain⟨l1,hl1e⟩:=zex (lit+257);obtain⟨N,hNe⟩:=zex (lit+257+dist+1);have e1:(lit:Int)+257=(l1:Nat):=by omega
    have eN:(l1:Int)+(dist:Int)+1=(N:Nat):=by omega
    have hN400:N≤316:=by omega
    have hl1N:l1+1≤N:=by omega
    have hl1b:257≤l1:=by omega
    have hLE:=λ(w':World) (P:Nat) (s:St w' R p F bs a1 out oa oc most) (tb:Tb w' P fs (R::p::blk oa))=>qf5 R p P N F bs out fs a1 oc most oa w' s tb (by omega) (by omega)
    have HJ:=zhd7 hst hM4 W1 hfw hl1e hNe hLE;have hun:=zhd HK.l3.under;clear hst how hfl hf15 hO hfw hfi hok hM4 W1 hl1e hNe hLE hj hjm;go_upto_region 29 with (first
     | (go_at_call 190;(with_reducible refine HJ.o2.mono ?_);rintro e w9 (⟨hiw,rfl,f9⟩|⟨hiw,P,D,first,sa,sc,rfl,htb,f9⟩);all_goals (try (have K9:=zhd3 hiw htb f9;clear htb));all_goals (try (have K9b:=zhd2 hiw f9));all_goals clear hiw f9)
     | (go_at_call 191;(with_reducible refine (HJ.l6 w9 P (HJ.o0.fr0 K9.out.2.2) (qlz K9.l1.1 (qae _) (λx hx=>qat (hun.out x hx) HJ.o3.size))).mono ?_);rintro e w10 (⟨c,hm,hc0,hc1,rfl,f10⟩|⟨L,a4,ao,cap,hm,he,s10,f10,own,hLN,hL15⟩);rotate_left;(rw[hLN]at he;subst he;have K10:=zhd6 hm s10 f10 own hLN hL15;clear hm s10 f10 own hLN hL15)))
    ·go_ret;exact .inl ⟨3,by rw[HJ.o1,if_pos K9b.o0],by decide,by decide,rfl,(HJ.o3.trans (K9b.l1.mono (by simp))).mono (by simp)⟩
    ·have hM5:M=if lenAt L 256=0 then .error 3 else if iwhole (L.take l1) false=false then .error 3 else if iwhole (L.drop l1) true=false then .error 3 else isyms bs most (L.take l1) (L.drop l1) (fuel bs) out a4:=by have hlens:=K10.out.1;rw[HJ.o1,if_neg (by rw[K9.o0];simp),idyn3];rw[HJ.o5]at hlens;rw[hlens,<-HJ.o4]
     obtain⟨g,rfl,hcell⟩:=K10.out.2.2.2.1.cell (i:=256) (by rw[K10.out.2.2.2.2.1];omega);obtain⟨z,hz⟩:=zex (lenAt L 256);rw[<-hz]at hcell hM5;have hcapN:N≤cap:=by have:=K10.out.2.2.2.1.le;rw[K10.out.2.2.2.2.1]at this;exact this
     have hcapm:cap≤9223372036854775807:=by have:=K10.out.2.2.2.1.max;unfold maxLen at this;exact this
     have ri:Ri w10 (some ⟨g,0,none⟩) cap L:=K10.out.2.2.2.1.ri;have lt:(L.take l1).length=l1:=by rw[qaq,K10.out.2.2.2.2.1];omega
     have ld:(L.drop l1).length=N-l1:=by rw[qav,K10.out.2.2.2.2.1]
     have W2:Calls Tryz.prog 190 #[.slice (some ⟨g,0,none⟩) l1 cap,.bool false] w10 (WholeGood w10 (L.take l1) false):=by have:=qlv (some ⟨g,0,none⟩) cap (L.take l1) false w10 (Ri.take ri l1) (λx hx=>K10.out.2.2.2.2.2 x (qb7 hx)) (by omega);rwa [lt]at this
     have W3:∀w',Fr [] w10 w'→Calls Tryz.prog 190 #[.slice (cutAtN (some ⟨g,0,none⟩) cap l1 1) (N-l1) (cap-l1),.bool true] w' (WholeGood w' (L.drop l1) true):=λw' f'=>by have:=qlv (cutAtN (some ⟨g,0,none⟩) cap l1 1) (cap-l1) (L.drop l1) true w' (zes (ri.fr f') l1 (by rw[K10.out.2.2.2.2.1];omega)) (λx hx=>K10.out.2.2.2.2.2 x (List.mem_of_mem_drop hx)) (by omega);rwa [ld]at this
     have f910:Fr [p] w w10:=(HJ.o3.trans (K9.out.2.2.mono (by simp))).trans K10.out.2.2.1;have hsl1:=lib.qdy huf.qdd l1 (some ⟨g,0,none⟩) N cap l1 rfl (by omega);have hsl2:=lib.qd2 huf.qdd l1 (some ⟨g,0,none⟩) N cap l1 rfl (by omega) hcapN;have HL:=zhd5 hM5 W2 W3 f910 hz;clear hM5 ri lt ld W2 W3 f910 hz;go_wp2_with (first
      | (go_at_call 190;(with_reducible refine HL.o1.mono ?_);rintro e w11 (⟨hiw,rfl,f9⟩|⟨hiw,P2,D2,first2,sa2,sc2,rfl,htb,f9⟩);all_goals (try (have K11:=zhd3 hiw htb f9;clear htb));all_goals (try (have K11b:=zhd2 hiw f9));all_goals clear hiw f9)
      | (go_at_call 190;(with_reducible refine (HL.o2 w11 K11.l2).mono ?_);rintro e w12 (⟨hiw,rfl,f9⟩|⟨hiw,P3,D3,first3,sa3,sc3,rfl,htb,f9⟩);all_goals (try (have K12:=zhd3 hiw htb f9;clear htb));all_goals (try (have K12b:=zhd2 hiw f9));all_goals clear hiw f9)
      | (go_at_call 188;refine (ql8 R p P2 P3 F bs out (L.take l1) (L.drop l1) a4 oc most oa w12 (K10.out.2.1.fr0 (K11.l2.trans K12.l2)) ((qlz K11.o1 (qae _) (λx hx=>qat (hun.out x hx) HL.o3.size)).fr K12.l2 (by simp)) (qlz K12.o1 (qae _) (λx hx=>qat (hun.out x hx) (qar HL.o3.size K11.l2.size)))).mono ?_;rintro e w13 (⟨c,hm,hc0,hc1,rfl,f6⟩|⟨o6,a6,oa6,oc6,hm,rfl,s6,f6⟩);all_goals (have Km:=zhd hm;clear hm);all_goals (try (have K6:=zhd2 s6 f6;clear s6 f6))))
     ·have hze:((z:Int)==0)=true:=by assumption
      have hz0:z=0:=by have:=beq_iff_eq.1 hze;omega
      go_ret;exact .inl ⟨3,by rw[HL.o0,if_pos hz0],by decide,by decide,rfl,HL.o3.mono (by simp)⟩
     ·have hze:((z:Int)==0)=false:=by assumption
      have hz0:z≠0:=λhe=>by rw[he]at hze;cases hze
      go_ret;exact .inl ⟨3,by rw[HL.o0,if_neg hz0,if_pos K11b.o0],by decide,by decide,rfl,(HL.o3.trans (K11b.l1.mono (by simp))).mono (by simp)⟩
     ·have hze:((z:Int)==0)=false:=by assumption
      have hz0:z≠0:=λhe=>by rw[he]at hze;cases hze
      go_ret;exact .inl ⟨3,by rw[HL.o0,if_neg hz0,if_neg (by rw[K11.o0];simp),if_pos K12b.o0],by decide,by decide,rfl,((HL.o3.trans (K11.l2.mono (by simp))).trans (K12b.l1.mono (by simp))).mono (by simp)⟩
     ·have hze:((z:Int)==0)=false:=by assumption
      have hz0:z≠0:=λhe=>by rw[he]at hze;cases hze
      go_ret;exact .inl ⟨c,by rw[HL.o0,if_neg hz0,if_neg (by rw[K11.o0];simp),if_neg (by rw[K12.o0];simp),Km.out],hc0,hc1,rfl,(((HL.o3.trans (K11.l2.mono (by simp))).trans (K12.l2.mono (by simp))).mono (by simp)).trans f6⟩
     ·have hze:((z:Int)==0)=false:=by assumption
      have hz0:z≠0:=λhe=>by rw[he]at hze;cases hze
      go_ret;exact .inr ⟨o6,a6,oa6,oc6,by rw[HL.o0,if_neg hz0,if_neg (by rw[K11.o0];simp),if_neg (by rw[K12.o0];simp),Km.out],rfl,K6.o0,(Way.of _ _ _ _ _ ((HL.o3.trans (K11.l2.mono (by simp))).trans (K12.l2.mono (by simp)))).trans K6.l1⟩
    ·go_ret;have hlens:=hm;rw[HJ.o5]at hlens;exact .inl ⟨c,by rw[HJ.o1,if_neg (by rw[K9.o0];simp),idyn3,hlens],hc0,hc1,rfl,((HJ.o3.trans (K9.out.2.2.mono (by simp))).mono (by simp)).trans f10⟩
theorem info3:(Tryz.prog.info? 213).map (·.size)=some 3:=by kernel_rfl
theorem qxh {fn:Func} {p:Tmp} (h:fn.results=#[.cell p 213]) (tmps:Array Value) (w:World) (g:Nat) (cs:Array Value) (fr:Nat×Nat)
  (hp:tmps.getD p undef = .pointer (some ⟨g,0,none⟩)) (hg:w.heap[g]?=some (.cells cs 213 fr)) (hs:cs.size=3):(results fn tmps).run Tryz.prog w = .ok (.agg cs) w:=
 results_cell_row h tmps w g 213 cs fr _ hp hg Tryz.underlying213 rfl (by rw[info3,hs])
def kindV:Array Value:=#[.func (.func 166) #[] #[],.func (.func 167) #[] #[],.func (.func 168) #[] #[]]
theorem qyi (w:World):Calls Tryz.prog 135 #[] w λe w'=>e = .returned (.agg kindV)∧Fr [] w w':=by go_enter Tryz.func135,Tryz.ntmps135;go_wp2_with (refine wpList_store_row rfl 213 (.tmp 0) (.tmp 1) rfl w.heap.size kindV rfl rfl 213 #[.nilFunc,.nilFunc,.nilFunc] (heap_alloc_last w _) info3 rfl (by kernel_rfl) ?_;rw[World.setRow_alloc_new]);simp only[Act.put];refine bodyPost_ret (qxh rfl _ _ w.heap.size kindV (0,0) rfl (qay w _) rfl) rfl ?_;exact⟨rfl,(Fr.refl [] w).alloc _⟩
def iend (x:Except Nat (List UInt8×Nat)):Except Nat (List UInt8×Nat):=match x with
 | .error e=>.error e
 | .ok (o,a)=>.ok (o,(a+7)/8)
theorem zb9 (bs:List UInt8) (m:Nat):iraw bs m=iend (irawF bs m (fuel bs) [] 0):=rfl
def RawGood (w:World) (m:Except Nat (List UInt8×Nat)) (e:Ending) (w':World):Prop:=
 (∃c,m = .error c∧0<c∧c<100∧e = .returned (.tuple #[.slice none 0 0,.int .i64 0,.int .i64 (c:Nat)])∧Fr [] w w')∨
 (∃out used ao,m = .ok (out,used)∧e = .returned (.tuple #[.slice ao out.length out.length,.int .i64 (used:Nat),.int .i64 0])∧lib.Rd w' ao out.length out∧(∀x∈blk ao,w.heap.size≤x∧x<w'.heap.size)∧Fr [] w w')
theorem qse (a:Option Addr) (cap:Nat) (bs:List UInt8) (m:Nat) (w:World) (h:lib.Rd w a cap bs) (hlen:bs.length≤100000000) (hm8:m≤100000000) :
  Calls Tryz.prog 110 #[.slice a bs.length cap,.int .i64 m] w (RawGood w (iraw bs m)):=by
 have hread:=bits.qtx a cap bs w h.cs h.le h.nil (by omega);obtain⟨M,hM⟩:=zex (iraw bs m);rw[<-hM];have H:=zhd3 hread hM hlen;clear h hread hM hlen;go_enter Tryz.func110,Tryz.ntmps110;go_upto_block 0 with (go_at_call 133;refine H.o0.mono ?_;rintro e w1 ⟨p,F,rfl,hrd,f1,hF⟩;have K1:=zhd3 hrd f1 hF;clear hrd f1 hF);obtain⟨R,hR⟩:=zex w1.heap.size;go_wp2;rw[<-hR];obtain⟨w2,hw2⟩:∃w2,w2=w1.alloc (.cells #[.pointer (some ⟨p,0,none⟩),.slice none 0 0,.int .i64 (m:Nat)] 209):=⟨_,rfl⟩;have f2:Fr [] w1 w2:=by rw[hw2];exact (Fr.refl [] w1).alloc _
 have S2:St w2 R p F bs 0 [] none 0 m:=by
  refine⟨by rw[hw2,hR];exact qay w1 _,bits.qsd K1.o0 f2 (by simp),qch _ _ _ _,λhx=>?_,by simp[blk],by simp[blk],λx hx=>?_,hm8,H.l2,by simp⟩
  ·have:=(K1.l2 R hx).2;omega
  ·exact qat (K1.l2 x hx).2 f2.size
 have hRw:w.heap.size≤R:=by rw[hR];exact K1.o1.size
 have hpw:w.heap.size≤p:=(K1.l2 p S2.pF.1).1;rw[<-hw2];clear hw2 hR;obtain⟨M0,hM0⟩:=zex (irawF bs m (fuel bs) [] 0);have hM:M=iend M0:=by rw[H.o1,hM0,zb9]
 have B0:∀(w':World) (a':Nat) (out':List UInt8) (oa':Option Addr) (oc':Nat),St w' R p F bs a' out' oa' oc' m→Calls Tryz.prog 166 #[.pointer (some ⟨R,0,none⟩)] w' (Ret w' R p F bs oa' m (iblock bs m 0 out' a')):=λw' a' out' oa' oc' s=>by unfold iblock;rw[if_pos rfl];exact qu9 R p F bs out' a' oc' m oa' w' s
 have B1:∀(w':World) (a':Nat) (out':List UInt8) (oa':Option Addr) (oc':Nat),St w' R p F bs a' out' oa' oc' m→Calls Tryz.prog 167 #[.pointer (some ⟨R,0,none⟩)] w' (Ret w' R p F bs oa' m (iblock bs m 1 out' a')):=λw' a' out' oa' oc' s=>by unfold iblock;rw[if_neg (by decide),if_pos rfl];exact qzb R p F bs out' a' oc' m oa' w' s
 have B2:∀(w':World) (a':Nat) (out':List UInt8) (oa':Option Addr) (oc':Nat),St w' R p F bs a' out' oa' oc' m→Calls Tryz.prog 168 #[.pointer (some ⟨R,0,none⟩)] w' (Ret w' R p F bs oa' m (iblock bs m 2 out' a')):=λw' a' out' oa' oc' s=>by unfold iblock;rw[if_neg (by decide),if_neg (by decide)];exact qs4 R p F bs out' a' oc' m oa' w' s
 have T1:∀(w':World) (a':Nat) (out':List UInt8) (oa':Option Addr) (oc':Nat),St w' R p F bs a' out' oa' oc' m→Calls Tryz.prog 134 #[.pointer (some ⟨R,0,none⟩),.int .i64 1] w' (RetV w' R p F bs out' oa' oc' m (itake bs a' 1)):=λw' a' out' oa' oc' s=>qgc R p F bs out' a' oc' m 1 oa' w' s (by decide)
 have T2:∀(w':World) (a':Nat) (out':List UInt8) (oa':Option Addr) (oc':Nat),St w' R p F bs a' out' oa' oc' m→Calls Tryz.prog 134 #[.pointer (some ⟨R,0,none⟩),.int .i64 2] w' (RetV w' R p F bs out' oa' oc' m (itake bs a' 2)):=λw' a' out' oa' oc' s=>qgc R p F bs out' a' oc' m 2 oa' w' s (by decide)
 have HB:=zhd5 B0 B1 B2 T1 T2;have HK:=zhd6 S2 (K1.o1.trans f2) hRw hpw hM0 hM;clear B0 B1 B2 T1 T2 S2 f2 hRw hpw hM0 hM;go_loopg [4,5,6,8,9] (fuel bs) (λk s4 s5 s6 s8 s9 wr=>∃(last a1:Nat) (out1:List UInt8) (oa1:Option Addr) (oc1:Nat),s8 = .int .i64 (last:Nat)∧St wr R p F bs a1 out1 oa1 oc1 m∧Way w2 R p none wr oa1∧(last=0→irawF bs m k out1 a1=M0∧8*bs.length+1≤a1+k)∧(last≠0→M0 = .ok (out1,a1)));case atStart=>exact⟨0,0,[],none,0,rfl,HK.o0,.refl _ _ _ _,λ_=>⟨HK.o4.symm,by unfold fuel;omega⟩,λh=>absurd rfl h⟩
 case round=>
  obtain⟨last,a1,out1,oa1,oc1,rfl,hst,hway,hl0,hl1⟩:=hrel;have hup:∀(w':World),Fr (R::p::blk oa1) wr w'→Fr [] w w':=λw' f=>by
   have f1:Fr (R::p::blk none) w2 w':=hway.frW f;refine HK.o1.step f1 (λx hx=>.inr ?_);simp only[qbh,blk,qcw,or_false]at hx;rcases hx with rfl|rfl
   ·exact HK.o2
   ·exact HK.o3
  by_cases hl:last=0
  ·subst hl;obtain⟨hir,hfu⟩:=hl0 rfl;have ha8:=hst.pF.2;obtain⟨k,rfl⟩:∃k,gk=k+1:=⟨gk-1,by omega⟩;have HJ:=zhd4 hst hway hir hfu;have HU:=zhd hup;clear hst hway hl0 hl1 hir hfu hup;have ix0:∀w:World,(Instr.index 213 (.agg #[.func (.func 166) #[] #[],.func (.func 167) #[] #[],.func (.func 168) #[] #[]]) (.int .i64 0)).run Tryz.prog w = .ok (.func (.func 166) #[] #[]) w:=λ_=>by kernel_rfl
   have ix1:∀w:World,(Instr.index 213 (.agg #[.func (.func 166) #[] #[],.func (.func 167) #[] #[],.func (.func 168) #[] #[]]) (.int .i64 1)).run Tryz.prog w = .ok (.func (.func 167) #[] #[]) w:=λ_=>by kernel_rfl
   have ix2:∀w:World,(Instr.index 213 (.agg #[.func (.func 166) #[] #[],.func (.func 167) #[] #[],.func (.func 168) #[] #[]]) (.int .i64 2)).run Tryz.prog w = .ok (.func (.func 168) #[] #[]) w:=λ_=>by kernel_rfl
   go_wp2_with (first
    | (go_at_call 134;(with_reducible refine (HB.o3 wr a1 out1 oa1 oc1 HJ.out.1).mono ?_);rintro e w3 (⟨v,c,hm,hc0,hc1,rfl,f3⟩|⟨last,a2,hm,rfl,s3,f3⟩);all_goals (try (have hv1:=qe3 hm;have K3:=zhd3 hm s3 f3;clear hm s3 f3)))
    | (go_at_call 134;(with_reducible refine (HB.l4 w3 a2 out1 oa1 oc1 K3.o1).mono ?_);rintro e w4 (⟨v,c,hm,hc0,hc1,rfl,f4⟩|⟨h,a3,hm,rfl,s4,f4⟩);rotate_left;(have hv2:=qe3 hm;rcases (show h=0∨h=1∨h=2∨h=3 by omega) with rfl|rfl|rfl|rfl);all_goals (try (have K4:=zhd3 hm s4 f4;clear hm s4 f4)))
    | (go_at_call 135;refine (qyi w4).mono ?_;rintro e w5 ⟨he,f5⟩;unfold kindV at he;subst he;have K5:=zhd f5;clear f5)
    | (go_at_call 166;refine (HB.o0 w5 a3 out1 oa1 oc1 (K4.o1.fr0 K5.out)).mono ?_;rintro e w6 (⟨c,hm,hc0,hc1,rfl,f6⟩|⟨o6,a6,oa6,oc6,hm,rfl,s6,f6⟩);all_goals (have Km:=zhd hm;clear hm);all_goals (try (have K6:=zhd2 s6 f6;clear s6 f6)))
    | (go_at_call 167;refine (HB.o1 w5 a3 out1 oa1 oc1 (K4.o1.fr0 K5.out)).mono ?_;rintro e w6 (⟨c,hm,hc0,hc1,rfl,f6⟩|⟨o6,a6,oa6,oc6,hm,rfl,s6,f6⟩);all_goals (have Km:=zhd hm;clear hm);all_goals (try (have K6:=zhd2 s6 f6;clear s6 f6)))
    | (go_at_call 168;refine (HB.o2 w5 a3 out1 oa1 oc1 (K4.o1.fr0 K5.out)).mono ?_;rintro e w6 (⟨c,hm,hc0,hc1,rfl,f6⟩|⟨o6,a6,oa6,oc6,hm,rfl,s6,f6⟩);all_goals (have Km:=zhd hm;clear hm);all_goals (try (have K6:=zhd2 s6 f6;clear s6 f6))))
   ·go_ret3;refine .inl ⟨c,?_,hc0,hc1,rfl,HU.out _ f3⟩;rw[HK.l5,<-HJ.out.2.2.1,irawF];simp only[hm];rfl
   ·go_ret3;refine .inl ⟨c,?_,hc0,hc1,rfl,HU.out _ ((K3.l2.trans (K4.l2.trans (K5.out.mono (by simp)))).mono (by simp) |>.trans f6)⟩;rw[HK.l5,<-HJ.out.2.2.1,irawF];simp only[K3.o0,K4.o0,if_neg (show ¬0=3 by decide),Km.out];rfl
   ·go_roundg k;case measure=>omega
    case rel=>
     have h1:=qe4 K3.o0;have h2:=qe4 K4.o0;have h3:=qm5 Km.out;have hfu:=HJ.out.2.2.2;have hst:irawF bs m (k+1) out1 a1=if last=0 then irawF bs m k o6 a6 else .ok (o6,a6):=by rw[irawF];simp only[K3.o0,K4.o0,if_neg (show ¬0=3 by decide),Km.out]
     rw[HJ.out.2.2.1]at hst;refine⟨last,a6,o6,oa6,oc6,rfl,K6.o0,(HJ.out.2.1.trans (Way.of _ _ _ _ _ (K3.l2.trans (K4.l2.trans (K5.out.mono (by simp)))))).trans K6.l1,λh0=>⟨?_,by omega⟩,λh0=>?_⟩
     ·rw[if_pos h0]at hst;exact hst.symm
     ·rw[if_neg h0]at hst;exact hst
   ·go_ret3;refine .inl ⟨c,?_,hc0,hc1,rfl,HU.out _ ((K3.l2.trans (K4.l2.trans (K5.out.mono (by simp)))).mono (by simp) |>.trans f6)⟩;rw[HK.l5,<-HJ.out.2.2.1,irawF];simp only[K3.o0,K4.o0,if_neg (show ¬1=3 by decide),Km.out];rfl
   ·go_roundg k;case measure=>omega
    case rel=>
     have h1:=qe4 K3.o0;have h2:=qe4 K4.o0;have h3:=qm5 Km.out;have hfu:=HJ.out.2.2.2;have hst:irawF bs m (k+1) out1 a1=if last=0 then irawF bs m k o6 a6 else .ok (o6,a6):=by rw[irawF];simp only[K3.o0,K4.o0,if_neg (show ¬1=3 by decide),Km.out]
     rw[HJ.out.2.2.1]at hst;refine⟨last,a6,o6,oa6,oc6,rfl,K6.o0,(HJ.out.2.1.trans (Way.of _ _ _ _ _ (K3.l2.trans (K4.l2.trans (K5.out.mono (by simp)))))).trans K6.l1,λh0=>⟨?_,by omega⟩,λh0=>?_⟩
     ·rw[if_pos h0]at hst;exact hst.symm
     ·rw[if_neg h0]at hst;exact hst
   ·go_ret3;refine .inl ⟨c,?_,hc0,hc1,rfl,HU.out _ ((K3.l2.trans (K4.l2.trans (K5.out.mono (by simp)))).mono (by simp) |>.trans f6)⟩;rw[HK.l5,<-HJ.out.2.2.1,irawF];simp only[K3.o0,K4.o0,if_neg (show ¬2=3 by decide),Km.out];rfl
   ·go_roundg k;case measure=>omega
    case rel=>
     have h1:=qe4 K3.o0;have h2:=qe4 K4.o0;have h3:=qm5 Km.out;have hfu:=HJ.out.2.2.2;have hst:irawF bs m (k+1) out1 a1=if last=0 then irawF bs m k o6 a6 else .ok (o6,a6):=by rw[irawF];simp only[K3.o0,K4.o0,if_neg (show ¬2=3 by decide),Km.out]
     rw[HJ.out.2.2.1]at hst;refine⟨last,a6,o6,oa6,oc6,rfl,K6.o0,(HJ.out.2.1.trans (Way.of _ _ _ _ _ (K3.l2.trans (K4.l2.trans (K5.out.mono (by simp)))))).trans K6.l1,λh0=>⟨?_,by omega⟩,λh0=>?_⟩
     ·rw[if_pos h0]at hst;exact hst.symm
     ·rw[if_neg h0]at hst;exact hst
   ·go_ret3;refine .inl ⟨3,?_,by decide,by decide,rfl,HU.out _ ((K3.l2.trans K4.l2).mono (by simp))⟩;rw[HK.l5,<-HJ.out.2.2.1,irawF];simp only[K3.o0,K4.o0,if_pos];rfl
   ·go_ret3;refine .inl ⟨c,?_,hc0,hc1,rfl,HU.out _ ((K3.l2.mono (by simp)).trans f4)⟩;rw[HK.l5,<-HJ.out.2.2.1,irawF];simp only[K3.o0,hm];rfl
  ·have hM:M = .ok (out1,(a1+7)/8):=by rw[HK.l5,hl1 hl];rfl
   have c0:=cell_of hst.box 0;have c1:=cell_of hst.box 1;simp only[qag,qac,qaf]at c0 c1;obtain⟨N,hN⟩:=zex out1.length;rw[<-hN]at c1;obtain⟨hro,hrl⟩:=qc1 hst.own;have hle:=hro.le;rw[<-hN]at hle;have hsl:=λw=>qgn bits.sliceU8 N oa1 oc1 hle w
   have hus:∀w',Fr [] wr w'→Calls Tryz.prog 136 #[.pointer (some ⟨p,0,none⟩)] w' λe w''=>e = .returned (.int .i64 ((a1+7)/8:Nat))∧w''=w':=λw' f'=>(bits.zat p F bs a1 w' (bits.qsd hst.rd f' (by simp))).mono λe w'' h=>⟨h.1,h.2.symm⟩
   obtain⟨u,hu⟩:=zex ((a1+7)/8);rw[<-hu]at hM hus;have hNm:N≤m:=by rw[hN];exact hst.om
   have hl9:((last:Int)==0)=false:=by simp;omega
   have HJ:=zhd6 hst hway hM hN hro hus;have HU:=zhd hup;clear hst hway hl0 hl1 hup hM hN hro hrl hus hu;go_upto_region 16 with fail;go_quiet (exact qb9 (HJ.out.2.2.2.2.2 _ (Fr.drewN [] _ _)));go_wp2;go_ret3;have hN:=HJ.out.2.2.2.1;have hro:=HJ.out.2.2.2.2.1;refine .inr ⟨out1,u,oa1,HJ.out.2.2.1,by rw[hN];rfl,?_,λx hx=>⟨?_,?_⟩,HU.out _ (Fr.drewN _ _ _)⟩
   ·have h1:lib.Rd wr oa1 out1.length out1:=⟨hro.cs,qae _,qar hro.le hro.max,λh=>by have:=hro.nil h;have:=hro.le;omega⟩;exact h1.fr (Fr.drewN _ _ _)
   ·rcases HJ.out.2.1.new x hx with h1|h1
    ·simp[blk]at h1
    ·exact qar HK.o1.size h1
   ·exact qdu HJ.out.1.own (qdw hx)
end Go.Proofs.YtkmpfgpfbmeihaaGreatDoor.inf
namespace Go.Proofs.YtkmpfgpfbmeihaaGreatDoor.inf
open Go bm bl huf
theorem qkk {bs:List UInt8} {a n v a1:Nat} (h:itake bs a n = .ok (v,a1)):a1≤8*bs.length:=by
 unfold itake at h;split at h
 ·simp only[qa6,qa4]at h;omega
 ·cases h
theorem qy3 (ls:List Nat):∀(f n v:Nat) (bits:List Bool),(hread ls f n v bits).2.1≤n+bits.length
 | 0,n,v,bits=>by
  cases h:hsym ls n v with
  | some s=>rw[qgx h];simp
  | none=>rw[qm7 h];simp
 | f+1,n,v,bits=>by
  cases h:hsym ls n v with
  | some s=>rw[qgx h];simp
  | none=>
   by_cases hm:hmore ls n v=true
   ·cases bits with
    | nil=>rw[qkm h hm];simp
    | cons b t=>rw[qig h hm];have:=qy3 ls f (n+1) (2*v+b2n b) t;simp only[qao];omega
   ·rw[qko h (by simpa using hm)];simp
theorem qyl {bs:List UInt8} {ls:List Nat} {a s a1:Nat} (ha:a≤8*bs.length) (h:isym bs ls a = .ok (s,a1)):a1≤8*bs.length:=by
 unfold isym at h;split at h
 ·have:=qy3 ls 15 0 0 ((bytesBits bs).drop a);rw[qav,qb1]at this;simp only[qa6,qa4]at h;omega
 ·cases h
theorem qul {bs:List UInt8} {most:Nat}:∀{n:Nat} {out o:List UInt8} {q a:Nat},q≤bs.length→ibytes bs most n out q = .ok (o,a)→a≤8*bs.length
 | 0,out,o,q,a,hq,h=>by simp only[ibytes,qa6,qa4]at h;omega
 | n+1,out,o,q,a,hq,h=>by
  rw[ibytes]at h;split at h
  ·split at h
   ·cases h
   ·exact qul (by omega) h
  ·cases h
theorem qym {bs:List UInt8} {most a a1:Nat} {out o:List UInt8} (h:istored bs most out a = .ok (o,a1)):a1≤8*bs.length:=by
 unfold istored at h;split at h
 ·split at h
  ·exact qul (by omega) h
  ·cases h
 ·cases h
theorem qyw {bs:List UInt8} {s a n a1:Nat} (ha:a≤8*bs.length) (h:ilength bs s a = .ok (n,a1)):a1≤8*bs.length:=by
 unfold ilength at h;split at h
 ·simp only[qa6,qa4]at h;omega
 ·split at h
  ·simp only[qa6,qa4]at h;omega
  ·split at h
   ·cases h
   ·rename_i hh;have:=qkk hh;simp only[qa6,qa4]at h;omega
theorem zfl {bs:List UInt8} {s a n a1:Nat} (ha:a≤8*bs.length) (h:idist bs s a = .ok (n,a1)):a1≤8*bs.length:=by
 unfold idist at h;split at h
 ·simp only[qa6,qa4]at h;omega
 ·split at h
  ·cases h
  ·rename_i hh;have:=qkk hh;simp only[qa6,qa4]at h;omega
theorem zcc {bs:List UInt8} {most:Nat} {dl:List Nat} {s a a1:Nat} {out o:List UInt8} (ha:a≤8*bs.length) (h:imatch bs most dl s out a = .ok (o,a1)):a1≤8*bs.length:=by
 unfold imatch at h;split at h
 ·cases h
 ·rename_i n a2 h1;have e1:=qyw ha h1;split at h
  ·cases h
  ·rename_i d a3 h2;have e2:=qyl e1 h2;split at h
   ·cases h
   ·split at h
    ·cases h
    ·rename_i b a4 h3;have e3:=zfl e2 h3;split at h
     ·cases h
     ·split at h
      ·cases h
      ·simp only[qa6,qa4]at h;omega
theorem qpp {bs:List UInt8} {most:Nat} {ll dl:List Nat}:∀{f:Nat} {out o:List UInt8} {a a1:Nat},a≤8*bs.length→isyms bs most ll dl f out a = .ok (o,a1)→a1≤8*bs.length
 | 0,out,o,a,a1,_,h=>by simp only[isyms]at h;cases h
 | f+1,out,o,a,a1,ha,h=>by
  rw[isyms]at h;split at h
  ·cases h
  ·rename_i s a2 hs;have h1:=qyl ha hs;split at h
   ·split at h
    ·cases h
    ·exact qpp h1 h
   ·split at h
    ·simp only[qa6,qa4]at h;omega
    ·split at h
     ·cases h
     ·split at h
      ·cases h
      ·rename_i o2 a3 hm;exact qpp (zcc h1 hm) h
theorem quj {bs:List UInt8}:∀{ps fs gs:List Nat} {a a1:Nat},a≤8*bs.length→ifirst bs ps fs a = .ok (gs,a1)→a1≤8*bs.length
 | [],fs,gs,a,a1,ha,h=>by simp only[ifirst,qa6,qa4]at h;omega
 | i::t,fs,gs,a,a1,ha,h=>by
  rw[ifirst]at h;split at h
  ·cases h
  ·rename_i v a2 hm;exact quj (qkk hm) h
theorem qsy {bs:List UInt8} {ls:List Nat} {n:Nat}:∀{f:Nat} {L K:List Nat} {a a1:Nat},a≤8*bs.length→ilens bs ls n f L a = .ok (K,a1)→a1≤8*bs.length
 | 0,L,K,a,a1,_,h=>by simp only[ilens]at h;cases h
 | f+1,L,K,a,a1,ha,h=>by
  rw[ilens]at h;split at h
  ·simp only[qa6,qa4]at h;omega
  ·split at h
   ·cases h
   ·rename_i s a2 hs;have h1:=qyl ha hs;split at h
    ·exact qsy h1 h
    ·split at h
     ·cases h
     ·rename_i v a3 hm;split at h
      ·cases h
      ·exact qsy (qkk hm) h
theorem zgp {bs:List UInt8} {most a a1:Nat} {out o:List UInt8} (h:idyn bs most out a = .ok (o,a1)):a1≤8*bs.length:=by
 unfold idyn at h;split at h
 ·cases h
 ·split at h
  ·cases h
  ·split at h
   ·cases h
   ·split at h
    ·cases h
    ·split at h
     ·cases h
     ·rename_i v3 b3 h3;have e3:=qkk h3;unfold idyn2 at h;split at h
      ·cases h
      ·rename_i fs b4 h4;have e4:=quj e3 h4;split at h
       ·cases h
       ·unfold idyn3 at h;split at h
        ·cases h
        ·rename_i ls b5 h5;have e5:=qsy e4 h5;split at h
         ·cases h
         ·split at h
          ·cases h
          ·split at h
           ·cases h
           ·exact qpp e5 h
theorem zcd {bs:List UInt8} {most k a a1:Nat} {out o:List UInt8} (ha:a≤8*bs.length) (h:iblock bs most k out a = .ok (o,a1)):a1≤8*bs.length:=by
 unfold iblock at h;split at h
 ·exact qym h
 ·split at h
  ·exact qpp ha h
  ·exact zgp h
theorem qyo {bs:List UInt8} {most:Nat}:∀{f a a1:Nat} {out o:List UInt8},irawF bs most f out a = .ok (o,a1)→a1≤8*bs.length
 | 0,a,a1,out,o,h=>by simp only[irawF]at h;cases h
 | f+1,a,a1,out,o,h=>by
  rw[irawF]at h;split at h
  ·cases h
  ·split at h
   ·cases h
   ·rename_i k a2 h2;split at h
    ·cases h
    ·split at h
     ·cases h
     ·rename_i o2 a3 h3;split at h
      ·exact qyo h
      ·simp only[qa6,qa4]at h;have:=zcd (qkk h2) h3;omega
theorem zgj {bs out:List UInt8} {m n:Nat} (h:iraw bs m = .ok (out,n)):n≤bs.length:=by
 unfold iraw at h;split at h
 ·cases h
 ·rename_i o a hr;have:=qyo hr;simp only[qa6,qa4]at h;omega
open Go.RowKit lib
theorem qkg {w:World} {a:Option Addr} {cap:Nat} {bs:List UInt8} (h:lib.Rd w a cap bs) {i:Nat} (hi:i<bs.length):∃g o,a=some ⟨g,o,none⟩∧w.cell? ⟨g,o+i,none⟩=some (.int .u8 (byteAt bs i:Nat)):=by obtain⟨g,o,ha,hc⟩:=h.at hi;refine⟨g,o,ha,?_⟩;rw[hc];unfold byteAt;rw[qai hi];rfl
theorem zao (a:Option Addr) (cap:Nat) (bs:List UInt8) (m:Nat) (w:World) (h:lib.Rd w a cap bs) (hlen:bs.length≤100000000) (hm8:m≤100000000) :
  Calls Tryz.prog 75 #[.slice a bs.length cap,.int .i64 m] w (RawGood w (izlib bs m)):=by
 obtain⟨L,hL⟩:=zex bs.length;obtain⟨M,hM⟩:=zex (izlib bs m);rw[<-hM];by_cases h2:bs.length<2
 ·have hM4:M = .error 4:=by rw[hM];unfold izlib;rw[if_pos h2]
  rw[<-hL]at h2 ⊢;have d0:decide ((L:Int)<2)=true:=by simp;omega
  have HM:=zhd hM4;clear h hL hM hM4 hlen h2;go_enter Tryz.func75,Tryz.ntmps75;go_wp2;go_ret3;exact .inl ⟨4,HM.out,by decide,by decide,rfl,Fr.refl _ _⟩
 ·obtain⟨g,o,rfl,c0⟩:=qkg h (i:=0) (by omega);obtain⟨g',o',ha',c1⟩:=qkg h (i:=1) (by omega);simp only[qaw,qcz,and_true]at ha';obtain⟨rfl,rfl⟩:=ha';rw[qbn]at c0;obtain⟨x0,hx0⟩:∃x,x=byteAt bs 0:=⟨_,rfl⟩;obtain⟨x1,hx1⟩:∃x,x=byteAt bs 1:=⟨_,rfl⟩;have b0:x0<256:=by rw[hx0];exact qem _ _
  have b1:x1<256:=by rw[hx1];exact qem _ _
  rw[<-hx0]at c0;rw[<-hx1]at c1;have hM1:M=if zhead x0 x1=false then .error 3 else match iraw (bs.drop 2) m with
    | .error e=>.error e
    | .ok (out,n)=>if bs.length-(n+2)<4 then .error 4 else if be32 bs (n+2)=sums.adler out then .ok (out,n+6) else .error 6:=by
   rw[hM];unfold izlib;rw[if_neg h2,<-hx0,<-hx1]
   all_goals rfl
  have hle:=h.le;have hmx:=h.max;have hr2:lib.Rd w (cutAtN (some ⟨g,o,none⟩) cap 2 1) (cap-2) (bs.drop 2):=h.drop 2 (by omega);have hraw:∀w',Fr [] w w'→Calls Tryz.prog 110 #[.slice (cutAtN (some ⟨g,o,none⟩) cap 2 1) (L-2:Nat) (cap-2),.int .i64 m] w' (RawGood w' (iraw (bs.drop 2) m)):=λw' f=>by have:=qse _ (cap-2) (bs.drop 2) m w' (hr2.fr f) (by rw[qav];omega) hm8;rwa [qav,<-hL]at this
  have hsl:=lib.qd2 bits.sliceU8 2 (some ⟨g,o,none⟩) L cap 2 rfl (by omega) (by omega);rw[<-hL]at h2 hle ⊢;have d0:decide ((L:Int)<2)=false:=by simp;omega
  obtain⟨y0,hy0⟩:∃y,y=x0%16:=⟨_,rfl⟩;obtain⟨y1,hy1⟩:∃y,y=x0/16:=⟨_,rfl⟩;obtain⟨z,hz⟩:=zex (x0*256+x1);obtain⟨y2,hy2⟩:∃y,y=z%31:=⟨_,rfl⟩;obtain⟨y3,hy3⟩:∃y,y=x1/32%2*32:=⟨_,rfl⟩;have e0:=u8_and15 x0 b0;have e3:=zav x1 b1;rw[<-hy0]at e0;rw[<-hy3]at e3;have e1:(x0:Int)/16=(y1:Int):=by omega
  have eor:bits .or .i64 ((x0:Int)*256) (x1:Int)=(z:Int):=by have:=qm6 x0 x1 8 (by decide) (by simpa using b1) (by omega);rw[hz];simpa using this
  have erem:Int.tmod (z:Int) 31=(y2:Int):=by rw[Int.tmod_eq_emod_of_nonneg (by omega)];omega
  have eemod:(z:Int)%31=(y2:Int):=by omega
  have hzh:zhead x0 x1=((y0==8)&&(decide (y1≤7)&&((y2==0)&&(y3==0)))):=by unfold zhead;rw[<-hy0,<-hy1,<-hz,<-hy2];congr 3;rw[Bool.eq_iff_iff,beq_iff_eq,beq_iff_eq];omega
  have i0:(0:Int)<(L:Int):=by omega
  have i1:(1:Int)<(L:Int):=by omega
  have hyb:y0<256∧y1<256∧y3<256∧z<65536∧y2<31:=by omega
  have H:=zhd6 h hlen hL hM1 hraw hzh;clear h hlen hL hM1 hraw hzh hM hx0 hx1 hy0 hy1 hy2 hy3 hz hr2 h2;go_enter Tryz.func75,Tryz.ntmps75;go_upto_region 3 with fail;clear d0;go_cut [43] from 11 to 43 (λs43 wc=>s43 = .bool (!((y0==8)&&(decide (y1≤7)&&((y2==0)&&(y3==0)))))∧Fr [] w wc)
  case first=>
   by_cases k0:y0=8
   ·have t0:((y0:Int)!=8)=false:=by simp;omega
    by_cases k1:y1≤7
    ·have t1:decide ((7:Int)<y1)=false:=by simp;omega
     by_cases k2:y2=0
     ·have t2:((y2:Int)!=0)=false:=by simp;omega
      by_cases k3:y3=0
      ·have t3:((y3:Int)!=0)=false:=by simp;omega
       have K:=zhd4 k0 k1 k2 k3;clear k0 k1 k2 k3;go_quiet (fail);go_wp2;go_meet;case rel=>exact⟨by obtain⟨k0,k1,k2,k3⟩:=K.out;simp[k0,k1,k2,k3],Fr.drewN _ _ _⟩
      ·have t3:((y3:Int)!=0)=true:=by simp;omega
       have K:=zhd k3;clear k0 k1 k2 k3;go_quiet (fail);go_wp2;go_meet;case rel=>exact⟨by have:=K.out;simp[this],Fr.drewN _ _ _⟩
     ·have t2:((y2:Int)!=0)=true:=by simp;omega
      have K:=zhd k2;clear k0 k1 k2;go_quiet (fail);go_wp2;go_meet;case rel=>exact⟨by have:=K.out;simp[this],Fr.drewN _ _ _⟩
    ·have t1:decide ((7:Int)<y1)=true:=by simp;omega
     have K:=zhd k1;clear k0 k1;go_quiet (fail);go_wp2;go_meet;case rel=>exact⟨by have:=K.out;simp[this],Fr.drewN _ _ _⟩
   ·have t0:((y0:Int)!=8)=true:=by simp;omega
    have K:=zhd k0;clear k0;go_quiet (fail);go_wp2;go_meet;case rel=>exact⟨by have:=K.out;simp[this],Fr.drewN _ _ _⟩
  case rest=>
   obtain⟨rfl,f1⟩:=hcut;rw[<-H.out.2.2.2.2.2];obtain⟨bz,hbz⟩:∃b,b=zhead x0 x1:=⟨_,rfl⟩;rw[<-hbz];obtain⟨h1,h2,h3,h4,h5,h6⟩:=H.out;rw[<-hbz]at h4;have HF:=zhd3 f1 h4 (h5 wc f1);clear f1 h4 h5 h6 h1 h2 h3 hbz e0 e1 e3 eor erem eemod hyb c0 c1;cases bz
   ·go_wp2;go_ret3;exact .inl ⟨3,by rw[HF.o1];first|rfl|(rw[if_pos rfl]),by decide,by decide,rfl,HF.o0⟩
   ·obtain⟨qa,hqa⟩:∃q,q=cutAtN (some ⟨g,o,none⟩) cap 2 1:=⟨_,rfl⟩;obtain⟨qc,hqc⟩:∃q,q=cap-2:=⟨_,rfl⟩;obtain⟨qn,hqn⟩:∃q,q=L-2:=⟨_,rfl⟩;rw[<-hqa,<-hqc,<-hqn]at hsl;have hraw:=HF.l2;rw[<-hqa,<-hqc,<-hqn]at hraw;have hM2:M=match iraw (bs.drop 2) m with
      | .error e=>.error e
      | .ok (out,n)=>if bs.length-(n+2)<4 then .error 4 else if be32 bs (n+2)=sums.adler out then .ok (out,n+6) else .error 6:=by
     rw[HF.o1];first|rfl|(rw[if_neg (by decide)])
    have HR:=zhd2 hraw hM2;clear hqa hqc hqn hraw hM2;go_upto_region 6 with (go_at_call 110;refine HR.o0.mono ?_;rintro e w2 (⟨c,hm,k0,k1,rfl,f2⟩|⟨out,n,ao,hm,rfl,rd2,nb2,f2⟩))
    ·have K2:=zhd2 hm f2;have d2:((c:Int)!=0)=true:=by simp;omega
     clear hm f2 hsl;go_wp2;go_ret3;exact .inl ⟨c,by rw[HR.l1,K2.o0],k0,k1,rfl,HF.o0.trans K2.l1⟩
    ·have hnu:=zgj hm;rw[qav,<-H.out.2.2.1]at hnu;obtain⟨n2,hn2⟩:=zex (n+2);have en2:(n:Int)+2=(n2:Int):=by omega
     have hLb:L≤100000000:=by rw[H.out.2.2.1];exact H.out.2.1
     have hnL:n2≤L:=by omega
     have hM3:M=if L-n2<4 then .error 4 else if be32 bs n2=sums.adler out then .ok (out,n2+4) else .error 6:=by rw[HR.l1,hm,hn2,H.out.2.2.1]
     have K2:=zhd5 hM3 rd2 nb2 (HF.o0.trans f2) hn2;clear hm rd2 nb2 f2 hn2 hM3 hsl;by_cases h4:L-n2<4
     ·have d4:decide ((L:Int)-(n2:Int)<4)=true:=by simp;omega
      have H4:=zhd h4;clear h4;go_wp2;go_ret3;exact .inl ⟨4,by rw[K2.o0,if_pos H4.out],by decide,by decide,rfl,K2.out.2.2.2.1⟩
     ·have d4:decide ((L:Int)-(n2:Int)<4)=false:=by simp;omega
      go_upto_region 11 with fail;clear d4 en2;have rdw:=H.out.1.fr K2.out.2.2.2.1;have hbl:bs.length=L:=H.out.2.2.1.symm;obtain⟨g0,o0,q0,c0⟩:=qkg rdw (i:=n2) (by omega);obtain⟨g1,o1,q1,c1⟩:=qkg rdw (i:=n2+1) (by omega);obtain⟨g2,o2,q2,c2⟩:=qkg rdw (i:=n2+2) (by omega);obtain⟨g3,o3,q3,c3⟩:=qkg rdw (i:=n2+3) (by omega);simp only[qaw,qcz,and_true]at q0 q1 q2 q3;obtain⟨rfl,rfl⟩:=q0;obtain⟨rfl,rfl⟩:=q1;obtain⟨rfl,rfl⟩:=q2;obtain⟨rfl,rfl⟩:=q3;have l0:=qem bs n2;have l1:=qem bs (n2+1);have l2:=qem bs (n2+2);have l3:=qem bs (n2+3);have hbe:be32 bs n2=byteAt bs n2*16777216+byteAt bs (n2+1)*65536+byteAt bs (n2+2)*256+byteAt bs (n2+3):=rfl;generalize byteAt bs n2=y0 at *;generalize byteAt bs (n2+1)=y1 at *;generalize byteAt bs (n2+2)=y2 at *;generalize byteAt bs (n2+3)=y3 at *;obtain⟨z1,hz1⟩:∃z,z=y0*16777216+y1*65536:=⟨_,rfl⟩;obtain⟨z2,hz2⟩:∃z,z=z1+y2*256:=⟨_,rfl⟩;obtain⟨z3,hz3⟩:∃z,z=z2+y3:=⟨_,rfl⟩;have r1:bits .or .u32 ((y0:Int)*16777216) ((y1:Int)*65536)=(z1:Int):=by have:=sums.qki (y0*16777216) (y1*65536) 24 (by omega) (by decide) (by omega) (by omega);rw[<-hz1]at this;simpa using this
      have r2:bits .or .u32 (z1:Int) ((y2:Int)*256)=(z2:Int):=by have:=sums.qki z1 (y2*256) 16 (by omega) (by decide) (by omega) (by omega);rw[<-hz2]at this;simpa using this
      have r3:bits .or .u32 (z2:Int) (y3:Int)=(z3:Int):=by have:=sums.qki z2 y3 8 (by omega) (by decide) (by omega) (by omega);rw[<-hz3]at this;exact this
      have hz:be32 bs n2=z3:=by rw[hbe];omega
      have hzb:z3<4294967296:=by omega
      have i0:(n2:Int)<(L:Int):=by omega
      have i1:(n2:Int)+1<(L:Int):=by omega
      have i2:(n2:Int)+2<(L:Int):=by omega
      have i3:(n2:Int)+3<(L:Int):=by omega
      have had:=sums.qry ao out.length out w2.drew (K2.l1.1.fr (Fr.drew1 [] w2));obtain⟨N,hN⟩:=zex out.length;obtain⟨A,hA⟩:=zex (sums.adler out);have hAl:A<4294967296:=by rw[hA];exact sums.qj0 out
      have hM4:M=if z3=A then .ok (out,n2+4) else .error 6:=by rw[K2.o0,if_neg h4,hz,hA]
      rw[<-hN,<-hA]at had;rw[<-hN];obtain⟨S,hS⟩:∃S:List Nat,S=[]:=⟨_,rfl⟩;have hgS:g∉S:=by rw[hS];simp
      have x0:∀x,(sup S w2.drew x).cell? ⟨g,o+n2,none⟩=some (.int .u8 y0):=λx=>(qcm S w2.drew x).cell ((Fr.drew1 [] w2).cell c0 (by simp)) hgS
      have x1:∀x,(sup S w2.drew x).cell? ⟨g,o+(n2+1),none⟩=some (.int .u8 y1):=λx=>(qcm S w2.drew x).cell ((Fr.drew1 [] w2).cell c1 (by simp)) hgS
      have x2:∀x,(sup S w2.drew x).cell? ⟨g,o+(n2+2),none⟩=some (.int .u8 y2):=λx=>(qcm S w2.drew x).cell ((Fr.drew1 [] w2).cell c2 (by simp)) hgS
      have x3:∀x,(sup S w2.drew x).cell? ⟨g,o+(n2+3),none⟩=some (.int .u8 y3):=λx=>(qcm S w2.drew x).cell ((Fr.drew1 [] w2).cell c3 (by simp)) hgS
      have HZ:=zhd4 had hM4 hN hS;clear had hM4 hN hS hA hz hz1 hz2 hz3 hbe hbl rdw c0 c1 c2 c3 h4 hgS;refine qb3 32 [(false,0),(false,1),(false,2),(false,3),(false,4),(false,5),(false,6),(false,7),(false,8),(false,9),(false,10),(false,11),(false,12),(false,13),(false,14),(false,15),(false,16),(false,17),(false,18),(false,19),(false,20),(false,21),(false,22),(false,23),(false,24),(false,25),(false,26),(false,27),(false,28),(false,29),(true,30),(false,31)] S (by kernel_rfl) (by kernel_rfl) (λ_ _ d _ _ h=>by cases d<;>exact h) ?_;simp only[qak,qam,qaz,qa0,qad,qaj,qbk];refine qb0 30 rfl ?_;simp only[qah,qan,qad,qaj,qak,qam];repeat (go_big_quiet_step (fail))
      refine wpQuiet_nil ?_;clear x0 x1 x2 x3;refine qb6 rfl ?_;intro X hX;go_wp2_with (go_at_call 104;refine HZ.o0.mono ?_;rintro e w3 ⟨rfl,f3⟩);refine hX.out _ _ (by rw[HZ.l3];exact f3) ?_;clear hX X;refine qb0 1 rfl ?_;simp only[qah,qan,qad,qaj,qak,qam];repeat (go_big_quiet_step (fail))
      refine wpQuiet_nil ?_;refine qcq ?_;have HF3:=zhd (K2.out.2.2.2.1.trans ((Fr.drew1 [] w2).trans f3));have hf3:=zhd f3;clear f3 r1 r2 r3 i0 i1 i2 i3;by_cases hza:z3=A
      ·have d5:((z3:Int)!=(A:Int))=false:=by simp;omega
       have HA:=zhd hza;clear hza;go_wp2;go_ret3;have f23:=(Fr.drew1 [] w2).trans hf3.out;refine .inr ⟨out,n2+4,ao,by rw[HZ.o1,if_pos HA.out],by rw[HZ.o2];first|rfl|go_num,K2.l1.1.fr f23,λx hx=>⟨?_,qat (K2.out.2.2.1 x hx).2 f23.size⟩,HF3.out⟩;exact qar HF.o0.size (K2.out.2.2.1 x hx).1
      ·have d5:((z3:Int)!=(A:Int))=true:=by simp;omega
       have HA:=zhd hza;clear hza;go_wp2;go_ret3;exact .inl ⟨6,by rw[HZ.o1,if_neg HA.out],by decide,by decide,rfl,HF3.out⟩
end Go.Proofs.YtkmpfgpfbmeihaaGreatDoor.inf
namespace Go.Proofs.YtkmpfgpfbmeihaaGreatDoor.trip
open Go Go.RowKit lib bm bl huf inf defl mat wb
def RQ (b r:List UInt8):Prop:=r.length≤6*b.length+100∧∀(ext:List UInt8) (m:Nat),b.length≤m→iraw (r++ext) m = .ok (b,r.length)
theorem qza {b:List UInt8} {bf:List Bool} (h:FixedB b bf):(bytesOf bf).length≤6*b.length+10:=by
 obtain⟨hd,e,h0,_⟩:=h;rw[h0 rfl]at e;have hch:Chain b 32768 0 (qen b 32768):=by simpa using qfq b 32768
 have h1:=qnw (alw 288) (List.replicate 30 5) quz (λx hx=>by rw[List.eq_of_mem_replicate hx];decide) (toksOf b) (qr4 (qae _) (b.length-0) 0 _ rfl hch);have h2:=qjc b 0 (qen b 32768);have h3:(sbits (alw 288) 256).length≤15:=qeb (alw 288) quz 256;have h4:(toksOf b).length*48≤b.length*48:=qcr _ (by unfold toksOf;omega);rw[bytesOf_length,e];simp only[qab,lsb_length,qao,qbi];omega
theorem zf9 (a:Option Addr) (cap:Nat) (b:List UInt8) (level:Int) (w:World) (h:lib.Rd w a cap b) (hlen:b.length≤100000) (hla:∀x∈blk a,x<w.heap.size) :
  Calls Tryz.prog 103 #[.slice a b.length cap,.int .i64 level] w λe w'=>∃r,RQ b r∧NewBytes w r e w':=by
 by_cases hl:level≤0
 ·refine (zbk a cap b level w h (by omega) hl).mono λe w' hn=>⟨plainBytes b,⟨?_,λext m hm=>qn7 b ext m hm⟩,hn⟩
  have:=zbq b;omega
 ·refine (zbm a cap b level w h hlen (by omega) hla).mono ?_;rintro e w' ⟨r,hr,hn⟩;refine⟨r,⟨?_,λext m hm=>zbl hr (by omega) ext m hm⟩,hn⟩;obtain⟨bf,h1,h2,h3⟩:=hr;have h4:=qza h1;by_cases h5:level=1
  ·rw[h2 h5];omega
  ·have:=(h3 (by omega)).2.1;omega
theorem qwj (a:Option Addr) (cap:Nat) (b:List UInt8) (level:Int) (w:World) (h:lib.Rd w a cap b) (hlen:b.length≤100000) (hla:∀x∈blk a,x<w.heap.size) :
  Calls Tryz.prog 67 #[.slice a b.length cap,.int .i64 level] w λe w'=>∃r,RQ b r∧NewBytes w (zlibOf level r b) e w':=
 zd2 a cap b (RQ b) level w h (λr hr=>by have:=hr.1;omega) (λw' f=>zf9 a cap b level w' (h.fr f) hlen (λx hx=>qat (hla x hx) f.size))
theorem qp5 {level:Int} {b r:List UInt8} (h:RQ b r) (ext:List UInt8) (m:Nat) (hm:b.length≤m):izlib (zlibOf level r b++ext) m = .ok (b,(zlibOf level r b).length):=by
 have hz:zlibOf level r b++ext=120::zsec level::(r++(sums.be4 (sums.adler b)++ext)):=by unfold zlibOf;simp
 have hlen:(zlibOf level r b).length=r.length+6:=by unfold zlibOf;simp[sums.qdg]
 have h0:byteAt (zlibOf level r b++ext) 0=120:=by rw[hz];rfl
 have h1:byteAt (zlibOf level r b++ext) 1=(zsec level).toNat:=by rw[hz];rfl
 have hh:zhead 120 (zsec level).toNat=true:=by
  unfold zsec;split
  ·decide
  ·split<;>decide
 have hd:(zlibOf level r b++ext).drop 2=r++(sums.be4 (sums.adler b)++ext):=by rw[hz];rfl
 have hl2:(zlibOf level r b++ext).length=r.length+6+ext.length:=by rw[qab,hlen]
 have hbe:be32 (zlibOf level r b++ext) (r.length+2)=sums.adler b:=by
  have hb:∀i,i<4→byteAt (zlibOf level r b++ext) (r.length+2+i)=((sums.be4 (sums.adler b))[i]?.getD 0).toNat:=λi hi=>by unfold byteAt;rw[hz,show r.length+2+i=r.length+i+1+1 by omega,qaf,qaf,qdz (by omega),show r.length+i-r.length=i by omega,qcv (by rw[sums.qdg];exact hi)]
  have:=sums.zaa (sums.adler b) (sums.qj0 b) _ rfl;unfold be32;rw[show r.length+2=r.length+2+0 from rfl,hb 0 (by decide),show r.length+2+0+1=r.length+2+1 from rfl,hb 1 (by decide),show r.length+2+0+2=r.length+2+2 from rfl,hb 2 (by decide),show r.length+2+0+3=r.length+2+3 from rfl,hb 3 (by decide)];exact this
 unfold izlib;rw[if_neg (by omega),h0,h1,hh,if_neg (by decide),hd,h.2 _ m hm];dsimp only;rw[if_neg (by omega),hbe,if_pos rfl,hlen]
end Go.Proofs.YtkmpfgpfbmeihaaGreatDoor.trip
namespace Go.Proofs.YtkmpfgpfbmeihaaGreatDoor.pk
open Go lib
theorem zfn (f c:Nat):hdF f c 0=[UInt8.ofNat c]:=by cases f<;>simp[hdF]
theorem zgr {f c n:Nat} (h:0<n) (hf:n≤f):hdF f c n=UInt8.ofNat (c+128)::hdF (f-1) (n%128) (n/128):=by
 cases f with
 | zero=>omega
 | succ f=>rw[hdF,if_neg (by omega)];rfl
theorem qty {k n:Nat} (hk:1≤k) (hk7:k≤7) (h5:k≠5) (hn:n≤65536) (ext:List UInt8):phead (hd k n++ext) = .ok (k,n,(hd k n).length):=by
 unfold hd;rw[show k%8=k by omega];by_cases h1:n/16=0
 ·rw[h1,zfn];have hx:(UInt8.ofNat (k*16+n%16)).toNat=k*16+n%16:=qd1 (by omega);unfold phead;rw[phF];simp only[qdk,qb4,qac,hx,if_true];rw[if_neg (by omega),if_neg (by omega)];simp only[qa6,qa4,qc9];refine⟨by omega,by omega,trivial⟩
 ·rw[zgr (by omega) (by omega)];have hx:(UInt8.ofNat (k*16+n%16+128)).toNat=k*16+n%16+128:=qd1 (by omega);by_cases h2:n/16/128=0
  ·rw[h2,zfn];have hy:(UInt8.ofNat (n/16%128)).toNat=n/16%128:=qd1 (by omega);unfold phead;rw[phF];simp only[qdk,qb4,qac,hx,if_true];rw[if_neg (by omega),if_pos (by omega),phF];simp only[qac,qaf,hy,qwf,if_false,qce,Nat.reduceSub,Nat.reducePow];rw[if_neg (by omega),if_neg (by omega),if_neg (by omega)];simp only[qa6,qa4,qao,qbi];refine⟨by omega,by omega,trivial⟩
  ·rw[zgr (by omega) (by omega)];have hy:(UInt8.ofNat (n/16%128+128)).toNat=n/16%128+128:=qd1 (by omega);rw[show n/16/128/128=0 by omega,zfn];have hz:(UInt8.ofNat (n/16/128%128)).toNat=n/16/128%128:=qd1 (by omega);unfold phead;rw[phF];simp only[qdk,qb4,qac,hx,if_true];rw[if_neg (by omega),if_pos (by omega),phF];simp only[qac,qaf,hy,qwf,if_false,qce,Nat.reduceSub,Nat.reducePow];rw[if_pos (by omega),phF];simp only[Nat.reduceAdd,qac,qaf,hz,Nat.reduceMul,Nat.reduceSub,Nat.reducePow];rw[if_neg (by omega),if_neg (by omega),if_neg (by omega),if_neg (by omega)];simp only[qa6,qa4,qao,qbi];refine⟨by omega,by omega,trivial⟩
theorem qju (pre X ext:List UInt8):(pre++X++ext).drop pre.length=X++ext:=by rw[qas,zde]
theorem zcu (pre X Y ext:List UInt8):(pre++(X++Y)++ext).drop (pre.length+X.length)=Y++ext:=by rw[<-qep,qju,qas,zde]
theorem qsj {pre ext text r:List UInt8} {k:Nat} (hk:1≤k) (hk4:k≤4) (hn:text.length≤65536) (hr:trip.RQ text r) :
  pentry (pre++(hd k text.length++defl.zlibOf 2 r text)++ext) pre.length = .ok (⟨k,pre.length,text.length,crc.crc (hd k text.length++defl.zlibOf 2 r text),text,[],0⟩,pre.length+(hd k text.length++defl.zlibOf 2 r text).length):=by
 unfold pentry;rw[qju,qas (hd k text.length),qty hk (by omega) (by omega) hn];simp only;unfold pbase;rw[if_neg (by omega),if_neg (by omega)];simp only;rw[zcu,trip.qp5 hr ext 65536 hn];simp only[if_true];rw[<-qas,List.take_left' (by rw[qab];omega),qab,qcb]
end Go.Proofs.YtkmpfgpfbmeihaaGreatDoor.pk
