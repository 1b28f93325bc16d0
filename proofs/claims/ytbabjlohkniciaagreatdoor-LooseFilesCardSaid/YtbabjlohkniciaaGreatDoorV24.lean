/-
  Texts of this proof, one behind the other: RfK, RfL, RAdler, Mid.
-/
import Derived.Test.YtbabjlohkniciaaGreatDoorV23
import Derived.Deep.MidRow
set_option maxHeartbeats 16000000
set_option maxRecDepth 100000
set_option linter.unusedVariables false
set_option linter.unusedSimpArgs false
namespace Go.Proofs.YtbabjlohkniciaaGreatDoor.inf
open Go Go.RowKit lib bm bl huf
def ihead3 (bs:List UInt8) (lit dist:Nat) (fs:List Nat) (a:Nat):Except Nat (List Nat×List Nat×Nat):=
 match ilens bs fs (lit+257+dist+1) (lit+257+dist+1+1) [] a with
 | .error e=>.error e
 | .ok (ls,a5)=>if lenAt ls 256=0 then .error 3 else if iwhole (ls.take (lit+257)) false=false then .error 3 else if iwhole (ls.drop (lit+257)) true=false then .error 3 else .ok (ls.take (lit+257),ls.drop (lit+257),a5)
def ihead2 (bs:List UInt8) (lit dist n a:Nat):Except Nat (List Nat×List Nat×Nat):=
 match ifirst bs (places.take (n+4)) (List.replicate 19 0) a with
 | .error e=>.error e
 | .ok (fs,a4)=>if iwhole fs false=false then .error 3 else ihead3 bs lit dist fs a4
def ihead (bs:List UInt8) (a:Nat):Except Nat (List Nat×List Nat×Nat):=
 match itake bs a 5 with
 | .error e=>.error e
 | .ok (lit,a1)=>if 29<lit then .error 3 else match itake bs a1 5 with
  | .error e=>.error e
  | .ok (dist,a2)=>if 29<dist then .error 3 else match itake bs a2 4 with
   | .error e=>.error e
   | .ok (n,a3)=>ihead2 bs lit dist n a3
theorem zcq (bs:List UInt8) (most:Nat) (out:List UInt8) (a:Nat):idyn bs most out a=match ihead bs a with | .error e=>.error e | .ok (ll,dl,a5)=>isyms bs most ll dl (fuel bs) out a5:=by
 unfold idyn ihead;cases itake bs a 5 with
 | error e=>rfl
 | ok x=>
  obtain⟨lit,a1⟩:=x;dsimp only;split
  ·rfl
  ·cases itake bs a1 5 with
   | error e=>rfl
   | ok x=>
    obtain⟨dist,a2⟩:=x;dsimp only;split
    ·rfl
    ·cases itake bs a2 4 with
     | error e=>rfl
     | ok x=>
      obtain⟨n,a3⟩:=x;dsimp only;unfold idyn2 ihead2;cases ifirst bs (places.take (n+4)) (List.replicate 19 0) a3 with
      | error e=>rfl
      | ok x=>
       obtain⟨fs,a4⟩:=x;dsimp only;split
       ·rfl
       ·unfold idyn3 ihead3;cases ilens bs fs (lit+257+dist+1) (lit+257+dist+1+1) [] a4 with
        | error e=>rfl
        | ok x=>
         obtain⟨ls,a5⟩:=x;dsimp only;split
         ·rfl
         ·split
          ·rfl
          ·split<;>rfl
theorem qne:∀{ls:List Nat},some_ ls<2→ones ls=true→weight ls≤16384:=by
 have h0:∀{ls:List Nat},some_ ls=0→weight ls=0:=by
  intro ls;induction ls with
  | nil=>intro _;rfl
  | cons x t ih=>
   intro h;unfold some_ at h ih;rw[List.filter_cons]at h;by_cases hx:0<x
   ·simp[hx]at h
   ·have:x=0:=by omega
    simp[hx]at h;rw[weight,if_pos this,ih (by simpa using h)]
 intro ls;induction ls with
 | nil=>intro _ _;decide
 | cons x t ih=>
  intro h ho;have ho2:x≤1∧ones t=true:=by unfold ones at ho ⊢;simpa using ho
  unfold some_ at h;rw[List.filter_cons]at h;rw[weight];by_cases hx:0<x
  ·have hx1:x=1:=by omega
   simp[hx]at h;have h2:some_ t=0:=by unfold some_;omega
   rw[hx1,h0 h2];decide
  ·have:x=0:=by omega
   simp[hx]at h;rw[if_pos this,qbe];exact ih (by unfold some_;simpa using h) ho2.2
theorem qsi (ls:List Nat):iwhole ls false=decide (weight ls=32768):=by
 unfold iwhole;by_cases h:weight ls=32768
 ·rw[h];rfl
 ·rw[decide_eq_false h];simp
theorem qsh (ls:List Nat):iwhole ls true=(decide (weight ls=32768)||(decide (some_ ls<2)&&ones ls)):=by
 unfold iwhole;by_cases h:weight ls=32768
 ·rw[h];rfl
 ·rw[decide_eq_false h,Bool.false_or,Bool.false_or,Bool.true_and];by_cases h2:(decide (some_ ls<2)&&ones ls)=true
  ·rw[h2,Bool.and_true];simp only[qbf,decide_eq_true_eq]at h2;have:=qne h2.1 h2.2;simp;omega
  ·rw[Bool.eq_false_iff.2 h2,Bool.and_false]
theorem qwt {bs:List UInt8} {cl:List Nat} {N:Nat} {L L':List Nat} {a a':Nat} (hcl:cl.length=19) (hL:L.length<N) (h15:∀l∈L,l≤15) (h:irep bs cl N L a = .ok (L',a')):L.length<L'.length∧L'.length≤N∧∀l∈L',l≤15:=by
 unfold irep at h;split at h
 ·cases h
 ·split at h
  ·rename_i s a1 hs h16;simp only[qa3,qa1]at h;rw[<-h.1];refine⟨by simp,by simp;omega,λl hl=>?_⟩;rcases qbd.1 hl with k|k
   ·exact h15 l k
   ·simp at k;omega
  ·split at h
   ·cases h
   ·split at h
    ·cases h
    ·rename_i hc;simp only[qa3,qa1]at h;have hl3:∀s,3≤least s:=λs=>by unfold least;split<;>omega
     rw[<-h.1];have hc2:=λk=>hc (.inr k)
     refine⟨by rw[qab,qb2];exact Nat.lt_add_of_pos_right (qal (by decide:0<3) (qan (hl3 _) (Nat.le_add_right _ _))),by rw[qab,qb2];omega,λl hl=>?_⟩;rcases qbd.1 hl with k|k
     ·exact h15 l k
     ·rw[List.eq_of_mem_replicate k];split
      ·cases he:L.getLast? with
       | none=>simp
       | some x=>exact h15 x (List.mem_of_getLast? he)
      ·omega
theorem Sw.keep {w w':World} {R p O:Nat} {F:List Nat} {bs out:List UInt8} {at_ oc most E:Nat} {oa:Option Addr} (h:Sw w R p F bs at_ out oa oc most E) (f:Fr [O+1] w w') (hl:R<O∧p<O∧(∀x∈F,x<O)∧∀x∈blk oa,x<O):Sw w' R p F bs at_ out oa oc most E:=
 h.fr f (by have:=hl.1;simp;omega) (λx hx=>by have:=hl.2.2.1 x hx;simp;omega) (λx hx=>by have:=hl.2.2.2 x hx;simp;omega)
theorem Ld.frS {S X:List Nat} {w w':World} {a:Option Addr} {cap:Nat} {ls:List Nat} (h:Ld w a cap ls X) (f:Fr S w w') (hS:∀x∈blk a,x∉S):Ld w' a cap ls X:=
 ⟨⟨h.ri.cs.fr f hS,h.ri.le,h.ri.max,h.ri.nil⟩,λx hx=>⟨qal (h.low x hx).1 f.size,(h.low x hx).2⟩,h.le,h.len,h.wt⟩
def LenR (w:World) (R p:Nat) (F:List Nat) (bs out:List UInt8) (oa:Option Addr) (oc most:Nat) (m:Except Nat (List Nat×List Nat×Nat)) (e:Ending) (w':World):Prop:=
 ∃a1 n1 c1 a2 n2 c2 a' E,e = .returned (.tuple #[.slice a1 n1 c1,.slice a2 n2 c2])∧Sw w' R p F bs a' out oa oc most E∧Fr [R,p] w w'∧
  ((m = .error E∧0<E∧E<100)∨(∃ll dl,m = .ok (ll,dl,a')∧E=0∧n1=ll.length∧n2=dl.length∧Ld w' a1 c1 ll (R::p::blk oa)∧Ld w' a2 c2 dl (R::p::blk oa)))
theorem qow (R p:Nat) (F:List Nat) (bs out:List UInt8) (at_ oc most:Nat) (oa:Option Addr) (w:World) (h:Sw w R p F bs at_ out oa oc most 0) :
  Calls Tryz.prog 102 #[.pointer (some ⟨R,0,none⟩)] w (LenR w R p F bs out oa oc most (ihead bs at_)):=by
 obtain⟨M,hM⟩:=zex (ihead bs at_);rw[<-hM];have H:=zhd3 h hM (qdd R p F bs out at_ oc most 5 oa w h (by decide));clear h hM;go_enter Tryz.func102,Tryz.ntmps102;go_upto_region 2 with (go_at_call 98;refine H.l2.mono ?_;rintro e w1 (⟨a1,hm,rfl,s1,f1⟩|⟨lit,a1,hm,rfl,s1,f1⟩))
 ·have c3:=cell_of s1.box 3;simp only[qae,qaa,qad]at c3;have hM1:M = .error 4:=by rw[H.o1];unfold ihead;rw[hm]
  have K1:=zhd3 hM1 s1 f1;clear hm s1 f1 hM1;go_wp2;go_ret2;exact⟨_,_,_,_,_,_,a1,4,rfl,K1.o1,K1.l2,.inl ⟨K1.o0,by decide,by decide⟩⟩
 ·have hv:=qcp hm;have hlit:lit<32:=hv;obtain⟨l1,hl1⟩:=zex (lit+257);have el:wrap64 ((lit:Int)+257)=(l1:Int):=by unfold wrap64;omega
  rw[el];have hl1b:257≤l1∧l1<289:=by omega
  have hM1:M=if 29<lit then .error 3 else match itake bs a1 5 with
    | .error e=>.error e
    | .ok (dist,a2)=>if 29<dist then .error 3 else match itake bs a2 4 with
     | .error e=>.error e
     | .ok (n,a3)=>ihead2 bs lit dist n a3:=by rw[H.o1];unfold ihead;rw[hm]
  have K1:=zhd5 hM1 s1 f1 hl1 (qdd R p F bs out a1 oc most 5 oa w1 s1 (by decide));clear hm hv el;by_cases hbig:286<l1
  ·have d0:decide ((286:Int)<l1)=true:=by simp;omega
   have hf:=zhd (qdt R p F bs out a1 oc most 0 3 oa w1 s1);clear s1 f1 hl1 hM1;go_upto_region 4 with (go_at_call 103;refine hf.out.mono ?_;rintro e w2 ⟨rfl,S2,f2⟩);have s2:Sw w2 R p F bs a1 out oa oc most 3:=S2;have c3:=cell_of s2.box 3;simp only[qae,qaa,qad]at c3;have K2:=zhd2 s2 f2;have HB:=zhd hbig;clear s2 S2 f2 d0 hbig;go_wp2;go_ret2;exact⟨_,_,_,_,_,_,a1,3,rfl,K2.o0,K1.l2.1.trans (K2.l1.mono (by simp)),.inl ⟨by rw[K1.o0,if_pos (by have:=K1.out.2.2.2.1;have:=HB.out;omega)],by decide,by decide⟩⟩
  ·have d0:decide ((286:Int)<l1)=false:=by simp;omega
   have hlit29:lit≤29:=by omega
   have hl286:l1≤286:=by omega
   have c3:=cell_of s1.box 3;simp only[qae,qaa,qad]at c3;clear s1 f1 hl1 hM1 hbig;go_upto_region 7 with (go_at_call 98;refine K1.out.2.2.2.2.mono ?_;rintro e w2 (⟨a2,hm,rfl,s2,f2⟩|⟨dist,a2,hm,rfl,s2,f2⟩))
   ·clear c3;have c3:=cell_of s2.box 3;simp only[qae,qaa,qad]at c3;have K2:=zhd3 hm s2 f2;clear hm s2 f2;go_wp2;go_ret2;exact⟨_,_,_,_,_,_,a2,4,rfl,K2.l1.1,K1.l2.1.trans K2.out.2.2,.inl ⟨by rw[K1.o0,if_neg (by omega),K2.o0],by decide,by decide⟩⟩
   ·have hv:=qcp hm;have hdist:dist<32:=hv;obtain⟨dd,hdd⟩:=zex (dist+1);have ed:wrap64 ((dist:Int)+1)=(dd:Int):=by unfold wrap64;omega
    rw[ed];have hddb:1≤dd∧dd≤32:=by omega
    have hM2:M=if 29<dist then .error 3 else match itake bs a2 4 with
      | .error e=>.error e
      | .ok (n,a3)=>ihead2 bs lit dist n a3:=by rw[K1.o0,if_neg (by omega),hm]
    have f02:=K1.l2.1.trans f2;have K2:=zhd5 hM2 s2 f02 hdd K1.out.2.2.2.1;clear hm hv ed c3 K1;by_cases hbig:30<dd
    ·have d1:decide ((30:Int)<dd)=true:=by simp;omega
     have hf:=zhd (qdt R p F bs out a2 oc most 0 3 oa w2 s2);have HB:=zhd hbig;clear s2 f2 hdd hM2 f02 hbig;go_upto_region 9 with (go_at_call 103;refine hf.out.mono ?_;rintro e w3 ⟨rfl,S3,f3⟩);have s3:Sw w3 R p F bs a2 out oa oc most 3:=S3;have c3:=cell_of s3.box 3;simp only[qae,qaa,qad]at c3;have K3:=zhd2 s3 f3;clear s3 S3 f3 d1 d0;go_wp2;go_ret2;exact⟨_,_,_,_,_,_,a2,3,rfl,K3.o0,K2.out.2.2.1.trans (K3.l1.mono (by simp)),.inl ⟨by rw[K2.o0,if_pos (by have:=K2.out.2.2.2.1;have:=HB.out;omega)],by decide,by decide⟩⟩
    ·have d1:decide ((30:Int)<dd)=false:=by simp;omega
     have hdist29:dist≤29:=by omega
     have hdd30:dd≤30:=by omega
     have c3:=cell_of s2.box 3;simp only[qae,qaa,qad]at c3;clear s2 f2 hdd hM2 f02 hbig;have hM3:M=match itake bs a2 4 with
       | .error e=>.error e
       | .ok (n,a3)=>ihead2 bs lit dist n a3:=by rw[K2.o0,if_neg (by omega)]
     have HM3:=zhd hM3;clear hM3;go_upto_region 11 with fail;clear d0 d1 c3;obtain⟨hu,⟨ti,hi',hz',hs',hb'⟩,hcz,hp⟩:=huf.qcn;obtain⟨O,hO⟩:=zex w2.heap.size;obtain⟨wO,hwO⟩:=zex (w2.alloc (.cells ordV 3 (0,0)));have hbO:wO.heap[O]?=some (.cells ordV 3 (0,0)):=by rw[hwO,hO];exact qa4 w2 _
     have fO:Fr [] w2 wO:=by rw[hwO];exact (Fr.refl [] w2).alloc _
     have hsO:wO.heap.size=O+1:=by rw[hwO,qav,<-hO]
     have HO:=zhd5 hbO fO hsO hO hwO;clear hbO fO hsO hO hwO;go_upto_region 12 with fail;rw[<-HO.o3];have eO:w2.alloc (.cells #[.int .i64 16,.int .i64 17,.int .i64 18,.int .i64 0,.int .i64 8,.int .i64 7,.int .i64 9,.int .i64 6,.int .i64 10,.int .i64 5,.int .i64 11,.int .i64 4,.int .i64 12,.int .i64 3,.int .i64 13,.int .i64 2,.int .i64 14,.int .i64 1,.int .i64 15] 3 (0,0))=wO:=HO.l4.symm;rw[eO];clear eO;go_upto_region 13 with (refine wpList_make_full _ rfl _ _ 128 rfl 0 3 ti (.int .i64 0) 1 hu hi' hz' hs' .i64 .i64 19 19 19 rfl rfl rfl rfl (by rw[hb'];omega) (by unfold maxLen;omega) (by omega) ?_;intro w4 own4 grow4;have H4:=zhd2 own4 grow4;clear own4 grow4);rw[HO.o2]at H4 ⊢;have hq4:Ow w4 (O+1) 19 (lenAt (List.replicate 19 0)):=(qk2 H4.o0).congr λs hs=>by simp only[lenAt,qfb,if_pos hs];rfl
     have f4:Fr [] wO w4:=(Fr.refl [] wO).grown H4.l1 (λk hk=>by cases hk);have f24:Fr [] w2 w4:=HO.o1.trans f4;have s4:Sw w4 R p F bs a2 out oa oc most 0:=K2.l1.1.fr0 f24;have htk:=qdd R p F bs out a2 oc most 4 oa w4 s4 (by decide);have hlow:R<O∧p<O∧(∀x∈F,x<O)∧∀x∈blk oa,x<O:=by rw[HO.o3];exact⟨lt_of_block K2.l1.1.box,K2.l1.1.low _ K2.l1.1.pF.1,K2.l1.1.low,λx hx=>qd3 K2.l1.1.own (qdv hx)⟩
     have HW:=zhd6 hq4 (f4.blk HO.o0 (by simp)) (K2.out.2.2.1.trans (f24.mono (by simp))) htk hlow (by rw[HO.o3];exact K2.out.2.2.1.size:w.heap.size≤O);have hdl:=zhd2 K2.out.2.2.2.1 K2.out.2.2.2.2;clear hq4 f4 f24 s4 htk hlow H4 hu hi' hz' hs' hb' hcz hp K2;go_cut [8] from 39 to 42 (λs8 wc=>∃m a3 E:Nat,s8 = .int .i64 (m:Nat)∧m≤19∧Sw wc R p F bs a3 out oa oc most E∧Fr [R,p] w4 wc∧((E=0∧∃n,m=n+4∧M=ihead2 bs lit dist n a3)∨(E=4∧M = .error 4)))
     case first=>
      go_wp2_with (go_at_call 98;refine HW.o3.mono ?_;rintro e w5 (⟨a3,hm,rfl,s5,f5⟩|⟨n,a3,hm,rfl,s5,f5⟩);all_goals (have K5:=zhd3 hm s5 f5;clear hm s5 f5))
      ·go_meet;case rel=>exact⟨4,a3,4,rfl,by decide,K5.out.2.1,K5.out.2.2,.inr ⟨rfl,by rw[HM3.out,K5.out.1]⟩⟩
      ·go_meet;case rel=>
        have hn:n<16:=qcp K5.out.1;have en:wrap64 ((n:Int)+4)=((n+4:Nat):Int):=by unfold wrap64;omega
        rw[en];exact⟨n+4,a3,0,rfl,by omega,K5.out.2.1,K5.out.2.2,.inl ⟨rfl,n,rfl,by rw[HM3.out,K5.out.1]⟩⟩
     case rest=>
      obtain⟨m,a3,E,rfl,hm19,s5,f5,hE⟩:=hcut;have hOw:Ow wc (O+1) 19 (lenAt (List.replicate 19 0)):=HW.o0.fr f5 (by have:=HW.o4;simp;omega);have hbO:wc.heap[O]?=some (.cells ordV 3 (0,0)):=f5.blk HW.o1 (by have:=HW.o4;simp;omega);have K5:=zhd5 s5 (HW.o2.trans f5) hE hOw hbO;obtain⟨w5,hw5⟩:=zex wc;rw[<-hw5]at K5 ⊢;clear s5 f5 hE hOw hbO hw5;go_upto_block 0 with fail;go_cut [9] from 42 to 62 (λs9 wc=>∃(fs:List Nat) (a4 E2:Nat),Sw wc R p F bs a4 out oa oc most E2∧Fr [R,p] w wc∧Ow wc (O+1) 19 (lenAt fs)∧fs.length=19∧(∀x∈fs,x≤15)∧((E2=0∧M=if iwhole fs false=false then .error 3 else ihead3 bs lit dist fs a4)∨(E2≠0∧E2<100∧M = .error E2)))
      case first=>
       go_wp2;go_loopg [9] m (λk s9 wr=>∃(i a4:Nat) (fs:List Nat) (E2:Nat),s9 = .int .i64 (i:Nat)∧i+k=m∧Sw wr R p F bs a4 out oa oc most E2∧Ow wr (O+1) 19 (lenAt fs)∧fs.length=19∧(∀x∈fs,x≤15)∧wr.heap[O]?=some (.cells ordV 3 (0,0))∧Fr [R,p] w wr∧
        ((E2=0∧∃n,m=n+4∧M=match ifirst bs ((places.take m).drop i) fs a4 with | .error e=>.error e | .ok (fs,a4)=>if iwhole fs false=false then .error 3 else ihead3 bs lit dist fs a4)∨(E2≠0∧E2<100∧M = .error E2)))
       case atStart=>
        refine⟨0,a3,List.replicate 19 0,E,rfl,by omega,K5.out.1,K5.out.2.2.2.1,rfl,λx hx=>by rw[(qf4.1 hx).2];decide,K5.out.2.2.2.2,K5.out.2.1,?_⟩;rcases K5.out.2.2.1 with⟨k1,n,k2,k3⟩|⟨k1,k2⟩
        ·exact .inl ⟨k1,n,k2,by rw[k3,k2];rfl⟩
        ·exact .inr ⟨by omega,by omega,by rw[k1];exact k2⟩
       case round=>
        obtain⟨i,a4,fs,E2,rfl,him,hst,how,hfl,hf15,hbO,hfw,hcs⟩:=hrel;have c3:=cell_of hst.box 3;simp only[qae,qaa,qad]at c3;have hlow:=HW.out.2.2.2.2;by_cases hi:i<m
        ·by_cases h0:E2=0
         ·subst h0;obtain⟨k,rfl⟩:∃k,gk=k+1:=⟨gk-1,by omega⟩;obtain⟨n,hmn,hMi⟩:∃n,m=n+4∧M=match ifirst bs ((places.take m).drop i) fs a4 with | .error e=>.error e | .ok (fs,a4)=>if iwhole fs false=false then .error 3 else ihead3 bs lit dist fs a4:=by
           rcases hcs with⟨_,k⟩|⟨k,_⟩
           ·exact k
           ·exact absurd rfl k
          obtain⟨t,ht⟩:=zex (defl.ord i);have ht19:t<19:=by rw[ht];exact defl.qo3 i
          rw[qkw hi hm19,<-ht,ifirst]at hMi;have cO:=cell_of hbO i;rw[qv9 (by omega),<-ht]at cO;obtain⟨S,hS⟩:=zex ([R,p]);have hOS:O∉S:=by rw[hS];simp;omega
          have q0:∀x,(sup S wr.drew x).cell? ⟨O,i,none⟩=some (.int .i64 t):=λx=>(qes S wr.drew x).cell ((Fr.drew1 [] wr).cell cO (by simp)) hOS
          have htk:=qdd R p F bs out a4 oc most 3 oa wr.drew (hst.fr0 (Fr.drew1 [] wr)) (by decide);have HS:=zhd hS;have HJ:=zhd (And.intro hst (And.intro how (And.intro hfl (And.intro hf15 (And.intro hbO (And.intro hfw (And.intro hMi (And.intro htk (And.intro ⟨n,hmn⟩ him)))))))):_∧_∧_∧_∧_∧_∧_∧_∧(∃n,m=n+4)∧_);clear hst how hfl hf15 hbO hfw hMi htk hmn him hcs ht cO hS hOS;have hi19:i<19:=by omega
          go_upto_region 17 with fail;clear c3;refine qcj 8 [(false,0),(false,1),(false,2),(false,3),(false,4),(false,5),(true,6),(false,7)] S (by kernel_rfl) (by kernel_rfl) (λ_ _ d _ _ h=>by cases d<;>exact h) ?_;simp only[qak,qap,qbh,qbi,qah,qaj,qce];refine qb9 6 rfl ?_;simp only[qai,qao,qah,qaj,qak,qap];repeat (go_big_quiet_step (fail))
          refine wpQuiet_nil ?_;clear q0;refine qc5 rfl ?_;intro X hX;go_wp2_with (go_at_call 98;refine HJ.out.2.2.2.2.2.2.2.1.mono ?_;rintro e w6 (⟨a5,hm,rfl,s6,f6⟩|⟨v,a5,hm,rfl,s6,f6⟩);all_goals (have hw6:=HJ.out.2.1.fr ((Fr.drew1 [R,p] wr).trans f6) (show O+1∉[R,p] by have:=HW.o4;simp;omega);have c6:=hw6.cell ht19;have z6:=hw6.frozen t;have K6:=zhd4 hm s6 f6 hw6;clear hm s6 f6 hw6))
          ·refine hX.out _ _ (by rw[HS.out];exact K6.out.2.2.1) ?_;clear hX X;refine qb9 1 rfl ?_;simp only[qai,qao,qah,qaj,qak,qap];repeat (go_big_quiet_step (fail))
           refine wpQuiet_nil ?_;refine qc4 ?_;go_wp2;go_roundg k;case measure=>have:=HJ.out.2.2.2.2.2.2.2.2.2;omega
           case rel=>
            obtain⟨j1,j2,j3,j4,j5,j6,j7,j8,j9,j10⟩:=HJ.out;obtain⟨q1,q2,q3,q4⟩:=K6.out;have fQ:Fr [O+1] w6 (w6.setCell ⟨O+1,t,none⟩ (.int .i64 0)):=(Fr.refl [O+1] _).setCell (by simp) _;refine⟨i+1,a5,fs.set t 0,4,by go_num,by omega,q2.keep fQ hlow.1,(q4.set ht19 0).congr (λu _=>(qk9 (by rw[j3];exact ht19) u).symm),by rw[List.length_set,j3],λx hx=>?_,fQ.blk (((Fr.drew1 [R,p] wr).trans q3).blk j5 (by simp;omega)) (by simp),(j6.trans ((Fr.drew1 [R,p] wr).trans q3)).step fQ (λx hx=>.inr (by simp at hx;omega)),.inr ⟨by decide,by decide,?_⟩⟩
            ·rcases List.mem_or_eq_of_mem_set hx with h1|h1
             ·exact j4 x h1
             ·omega
            ·rw[j7,q1]
          ·refine hX.out _ _ (by rw[HS.out];exact K6.out.2.2.1) ?_;clear hX X;refine qb9 1 rfl ?_;simp only[qai,qao,qah,qaj,qak,qap];repeat (go_big_quiet_step (fail))
           refine wpQuiet_nil ?_;refine qc4 ?_;go_wp2;go_roundg k;case measure=>have:=HJ.out.2.2.2.2.2.2.2.2.2;omega
           case rel=>
            obtain⟨j1,j2,j3,j4,j5,j6,j7,j8,⟨n,j9⟩,j10⟩:=HJ.out;obtain⟨q1,q2,q3,q4⟩:=K6.out;have hv8:v<8:=qcp q1;have fQ:Fr [O+1] w6 (w6.setCell ⟨O+1,t,none⟩ (.int .i64 v)):=(Fr.refl [O+1] _).setCell (by simp) _;refine⟨i+1,a5,fs.set t v,0,by go_num,by omega,q2.keep fQ hlow.1,(q4.set ht19 v).congr (λu _=>(qk9 (by rw[j3];exact ht19) u).symm),by rw[List.length_set,j3],λx hx=>?_,fQ.blk (((Fr.drew1 [R,p] wr).trans q3).blk j5 (by simp;omega)) (by simp),(j6.trans ((Fr.drew1 [R,p] wr).trans q3)).step fQ (λx hx=>.inr (by simp at hx;omega)),.inl ⟨by trivial,n,j9,?_⟩⟩
            ·rcases List.mem_or_eq_of_mem_set hx with h1|h1
             ·exact j4 x h1
             ·omega
            ·rw[j7,q1]
         ·have d0:((E2:Int)==0)=false:=by simp;omega
          have hE3:E2<100∧M = .error E2:=by
           rcases hcs with⟨k1,_⟩|⟨_,k2,k3⟩
           ·exact absurd k1 h0
           ·exact⟨k2,k3⟩
          have HE:=zhd2 h0 hE3;have HJ:=zhd5 hst hfw how hfl hf15;clear hst how hfl hf15 hbO hfw hcs h0 hE3;go_wp2;go_meet;case rel=>exact⟨fs,a4,E2,HJ.out.1,HJ.out.2.1,HJ.out.2.2.1,HJ.out.2.2.2.1,HJ.out.2.2.2.2,.inr ⟨HE.o0,HE.l1.1,HE.out.2.2⟩⟩
        ·obtain rfl:i=m:=by omega
         have hcs2:(E2=0∧M=if iwhole fs false=false then .error 3 else ihead3 bs lit dist fs a4)∨(E2≠0∧E2<100∧M = .error E2):=by
          rcases hcs with⟨k1,n,k2,k3⟩|k
          ·rw[List.drop_of_length_le (by rw[qar];omega),ifirst]at k3;exact .inl ⟨k1,k3⟩
          ·exact .inr k
         have HJ:=zhd6 hst hfw how hfl hf15 hcs2;clear hst how hfl hf15 hbO hfw hcs hcs2;go_wp2;go_meet;case rel=>exact⟨fs,a4,E2,HJ.out.1,HJ.out.2.1,HJ.out.2.2.1,HJ.out.2.2.2.1,HJ.out.2.2.2.2.1,HJ.out.2.2.2.2.2⟩
      case rest=>
       obtain⟨fs,a4,E2,s6,f6,ow6,hfl,hf15,hE2⟩:=hcut;have c3:=cell_of s6.box 3;simp only[qae,qaa,qad]at c3;obtain⟨w6,hw6⟩:=zex wc;rw[<-hw6]at s6 f6 ow6 c3 ⊢;clear hw6 K5;by_cases h0:E2=0
       ·subst h0;have hM6:M=if iwhole fs false=false then .error 3 else ihead3 bs lit dist fs a4:=by
         rcases hE2 with⟨_,k⟩|⟨k,_⟩
         ·exact k
         ·exact absurd rfl k
        rw[qsi]at hM6;have hri:Ri w6 (some ⟨O+1,0,none⟩) 19 fs:=qv5 ow6 hfl;have hcp:=qga (some ⟨O+1,0,none⟩) 19 fs w6 hri hf15 (by omega);rw[hfl]at hcp;have hfl3:=qdt R p F bs out a4 oc most 0 3 oa w6 s6;obtain⟨bc,hbc⟩:∃b:Bool,b=decide (weight fs=32768):=⟨_,rfl⟩;rw[<-hbc]at hcp hM6;have hlow:=HW.out.2.2.2.2;obtain⟨A6,hA6,_⟩:=ow6;have hO6:=lt_of_block hA6;have K6:=zhd10 s6 f6 hri hM6 hcp hfl3 hbc hfl hf15 hO6;clear s6 f6 hri hM6 hcp hfl3 hbc hfl hf15 hO6 hA6 hE2;go_upto_region 20 with fail;clear c3;go_upto_if 69 with (go_at_call 151;refine K6.out.2.2.2.2.1.mono ?_;rintro e w7 ⟨rfl,rfl⟩);go_cut [] from 70 to 71 (λwd=>∃E3:Nat,Sw wd R p F bs a4 out oa oc most E3∧Fr [R] w6 wd∧((E3=0∧bc=true∧M=ihead3 bs lit dist fs a4)∨(E3≠0∧E3<100∧M = .error E3)))
        case first=>
         cases bc
         ·go_wp2_with (go_at_call 103;refine K6.out.2.2.2.2.2.1.mono ?_;rintro e w8 ⟨rfl,S8,f8⟩;have K8:=zhd2 S8 f8;clear S8 f8);go_meet;case rel=>exact⟨3,K8.out.1,K8.out.2,.inr ⟨by decide,by decide,by rw[K6.out.2.2.2.1];rfl⟩⟩
         ·go_wp2;go_meet;case rel=>exact⟨0,K6.out.1,Fr.refl _ _,.inl ⟨rfl,by trivial,by rw[K6.out.2.2.2.1];rfl⟩⟩
        case rest=>
         obtain⟨E3,s7,f7,hE3⟩:=hcut;obtain⟨w7,hw7⟩:=zex wc;rw[<-hw7]at s7 f7 ⊢;clear hw7;obtain⟨B,hB⟩:=zex w7.heap.size;obtain⟨N,hN⟩:=zex (l1+dd);have eN:(l1:Int)+(dd:Int)=(N:Int):=by omega
         have hN316:N≤316:=by omega
         have hlN:l1<N:=by omega
         obtain⟨w8,hw8⟩:=zex (w7.alloc (.cells #[.slice none 0 0] 128 (0,0)));have b8:w8.heap[B]?=some (.cells #[.slice none 0 0] 128 (0,0)):=by rw[hw8,hB];exact qa4 w7 _
         have f8:Fr [] w7 w8:=by rw[hw8];exact (Fr.refl [] w7).alloc _
         have hOB:O+1<B:=by rw[hB];exact qal K6.out.2.2.2.2.2.2.2.2.2 f7.size
         have hwB:w.heap.size≤B:=by rw[hB];exact qan K6.out.2.1.size f7.size
         have ll8:Ll B w8 B none 0 []:=⟨b8,qch _ _ _ _,qag _,by simp[blk]⟩;have r8:Ri w8 (some ⟨O+1,0,none⟩) 19 fs:=by have r7:Ri w7 (some ⟨O+1,0,none⟩) 19 fs:=⟨K6.out.2.2.1.cs.fr f7 (by intro x hx;simp[blk]at hx;simp;omega),K6.out.2.2.1.le,K6.out.2.2.1.max,K6.out.2.2.1.nil⟩;exact r7.fr f8
         have K8:=zhd9 (s7.fr0 f8) (K6.out.2.1.trans ((f7.mono (by simp)).trans (f8.mono (by simp)))) ll8 r8 hE3 hB hOB hwB hw8;have HN:=zhd hN;clear s7 f7 hE3 hB b8 f8 hOB hwB ll8 r8 hw8 hN;go_upto_block 2 with fail;rw[<-K8.out.2.2.2.2.2.1];rw[<-K8.out.2.2.2.2.2.2.2.2];go_cut [] from 72 to 90 (λwc=>∃(L:List Nat) (la:Option Addr) (lc a5 E4:Nat),Sw wc R p F bs a5 out oa oc most E4∧Ll B wc B la lc L∧Fr [R,p] w wc∧((E4=0∧L.length=N∧(∀x∈L,x≤15)∧M=if lenAt L 256=0 then .error 3 else if iwhole (L.take l1) false=false then .error 3 else if iwhole (L.drop l1) true=false then .error 3 else .ok (L.take l1,L.drop l1,a5))∨(E4≠0∧E4<100∧M = .error E4)))
         case first=>
          go_wp2;go_loopg [] (N+1) (λk wr=>∃(L:List Nat) (la:Option Addr) (lc a5 E4:Nat),Sw wr R p F bs a5 out oa oc most E4∧Ll B wr B la lc L∧Fr [R,p] w wr∧Ri wr (some ⟨O+1,0,none⟩) 19 fs∧B≤wr.heap.size∧
           ((E4=0∧bc=true∧L.length≤N∧(∀x∈L,x≤15)∧N+1≤L.length+k∧M=match ilens bs fs N k L a5 with | .error e=>.error e | .ok (ls,a5)=>if lenAt ls 256=0 then .error 3 else if iwhole (ls.take l1) false=false then .error 3 else if iwhole (ls.drop l1) true=false then .error 3 else .ok (ls.take l1,ls.drop l1,a5))∨(E4≠0∧E4<100∧M = .error E4)))
          case atStart=>
           refine⟨[],none,0,a4,E3,K8.out.1,K8.out.2.2.1,K8.out.2.1,K8.out.2.2.2.1,Nat.le_of_lt (lt_of_block K8.out.2.2.1.box),?_⟩;rcases K8.out.2.2.2.2.1 with⟨k1,k2,k3⟩|k
           ·refine .inl ⟨k1,k2,qba _,by simp,by simp,?_⟩;rw[k3];unfold ihead3;have e1:lit+257=l1:=hdl.l1.symm;have e2:l1+dist+1=N:=by have:=HN.out;have:=hdl.o0;omega
            rw[e1,e2]
           ·exact .inr k
          case round=>
           obtain⟨L,la,lc,a5,E4,hst,hll,hfw,hri,hBw,hcs⟩:=hrel;have c3:=cell_of hst.box 3;have cB:=cell_of hll.box 0;simp only[qae,qaa,qad]at c3 cB;obtain⟨C,hC⟩:=zex L.length;rw[<-hC]at cB;by_cases h0:E4=0
           ·subst h0;obtain⟨hbt,hLN,hL15,hfu,hMi⟩:bc=true∧L.length≤N∧(∀x∈L,x≤15)∧N+1≤L.length+gk∧M=match ilens bs fs N gk L a5 with | .error e=>.error e | .ok (ls,a5)=>if lenAt ls 256=0 then .error 3 else if iwhole (ls.take l1) false=false then .error 3 else if iwhole (ls.drop l1) true=false then .error 3 else .ok (ls.take l1,ls.drop l1,a5):=by
             rcases hcs with⟨_,k⟩|⟨k,_⟩
             ·exact k
             ·exact absurd rfl k
            obtain⟨k,rfl⟩:∃k,gk=k+1:=⟨gk-1,by omega⟩;rw[qz9]at hMi;have hwt:weight fs=32768:=by have:=K6.out.2.2.2.2.2.2.1;rw[hbt]at this;simpa using this.symm
            have hld:Ld wr (some ⟨O+1,0,none⟩) 19 fs (R::p::blk oa):=⟨hri,λx hx=>by
             simp only[blk,qaz]at hx
             have:=K8.out.2.2.2.2.2.2.1
             refine⟨by omega,λhm=>?_⟩
             simp only[qaw]at hm
             rcases hm with h|h|h
             ·omega
             ·omega
             ·have:=hlow.1.2.2.2 x h;omega,K6.out.2.2.2.2.2.2.2.2.1,by rw[K6.out.2.2.2.2.2.2.2.1];decide,by omega⟩
            by_cases hCN:C<N
            ·have d1:decide ((C:Int)<(N:Int))=true:=by simp;omega
             have hOB:=K8.out.2.2.2.2.2.2.1;have hrp:=qzd B R p F bs out (some ⟨O+1,0,none⟩) 19 fs B la lc N L a5 oc most oa wr hst hld K6.out.2.2.2.2.2.2.2.1 hll (by omega) (λx hx=>by have:=hlow.1.2.2.1 x hx;omega) (λx hx=>by have:=hlow.1.2.2.2 x hx;omega) hBw (by omega) (by omega);rw[if_neg (by omega)]at hMi;have HJ:=zhd10 hrp hMi hfw hri hL15 hfu hbt hll hC hBw;clear hrp hMi hfw hri hL15 hfu hbt hll hC hBw hcs hld hst hLN hwt;go_wp2_with (go_at_call 152;go_loud (refine HJ.out.1.mono ?_);rintro e w9 ⟨rfl,h9⟩;have K9:=zhd h9;clear h9);go_roundg k;case measure=>omega
             case rel=>
              obtain⟨j1,j2,j3,j4,j5,j6,j7,j8,j9,j10⟩:=HJ.out;obtain⟨a6,la6,lc6,L6,E6,q1,q2,q3,q4,q5⟩:=K9.out;have hSn:∀x∈R::p::B::blk la,x∈[R,p]∨w.heap.size≤x:=λx hx=>by
               have:=K8.out.2.2.2.2.2.2.2.1;simp only[qaw]at hx;rcases hx with h|h|h|h
               ·exact .inl (by simp[h])
               ·exact .inl (by simp[h])
               ·exact .inr (by omega)
               ·exact .inr (by have:=(j8.new x h).1;omega)
              have hO9:∀x∈blk (some (⟨O+1,0,none⟩:Addr)),x∉R::p::B::blk la:=λx hx hm=>by
               simp only[blk,qaz]at hx;simp only[qaw]at hm;rcases hm with h|h|h|h
               ·omega
               ·omega
               ·omega
               ·have:=(j8.new x h).1;omega
              refine⟨L6,la6,lc6,a6,E6,q1,q2,j3.step q3 hSn,⟨j4.cs.fr q3 hO9,j4.le,j4.max,j4.nil⟩,qan j10 q3.size,?_⟩;rcases q5 with⟨k1,k2,k3⟩|⟨k1,k2⟩
              ·exact .inr ⟨by omega,k3,by rw[j2,k1]⟩
              ·obtain⟨g1,g2,g3⟩:=qwt K6.out.2.2.2.2.2.2.2.1 (by omega) j5 k1;exact .inl ⟨k2,j7,g2,g3,by omega,by rw[j2,k1]⟩
            ·have hLe:L.length=N:=by omega
             have d1:decide (C<N)=false:=by simp;omega
             rw[if_pos (by omega)]at hMi;have HJ:=zhd6 hst hll hfw hLe hL15 hMi;clear hst hll hfw hLe hL15 hMi hcs hld hri hbt hfu hC hBw hLN hwt hCN;go_wp2;go_meet;case rel=>exact⟨L,la,lc,a5,0,HJ.out.1,HJ.out.2.1,HJ.out.2.2.1,.inl ⟨rfl,HJ.out.2.2.2.1,HJ.out.2.2.2.2.1,HJ.out.2.2.2.2.2⟩⟩
           ·have d0:((E4:Int)==0)=false:=by simp;omega
            have hE5:E4<100∧M = .error E4:=by
             rcases hcs with⟨k1,_⟩|⟨_,k2,k3⟩
             ·exact absurd k1 h0
             ·exact⟨k2,k3⟩
            have HJ:=zhd5 hst hll hfw h0 hE5;clear hst hll hfw hE5 h0 hcs hri hC hBw;go_wp2;go_meet;case rel=>exact⟨L,la,lc,a5,E4,HJ.out.1,HJ.out.2.1,HJ.out.2.2.1,.inr ⟨HJ.out.2.2.2.1,HJ.out.2.2.2.2.1,HJ.out.2.2.2.2.2⟩⟩
         case rest=>
          obtain⟨L,la,lc,a5,E4,s9,l9,f9,hE4⟩:=hcut;have c3:=cell_of s9.box 3;have cB:=cell_of l9.box 0;simp only[qae,qaa,qad]at c3 cB;by_cases h0:E4=0
          ·subst h0;obtain⟨hLN,hL15,hMi⟩:L.length=N∧(∀x∈L,x≤15)∧M=if lenAt L 256=0 then .error 3 else if iwhole (L.take l1) false=false then .error 3 else if iwhole (L.drop l1) true=false then .error 3 else .ok (L.take l1,L.drop l1,a5):=by
            rcases hE4 with⟨_,k⟩|⟨k,_⟩
            ·exact k
            ·exact absurd rfl k
           rw[hLN]at cB;have ri:Ri wc la lc L:=by obtain⟨ao,cp,he,k1,k2,k3⟩:=qgr l9.own;simp only[qbn]at he;obtain⟨rfl,_,rfl⟩:=he;exact⟨qcm l9.own,k1,k2,k3⟩
           obtain⟨g,o,rfl,hcell⟩:=ri.at (i:=256) (by omega);obtain⟨z,hz⟩:=zex (lenAt L 256);have hz2:L[256]'(by omega)=z:=by rw[hz];unfold lenAt;rw[qaf (by omega)];rfl
           rw[hz2]at hcell;rw[<-hz]at hMi;have hcapN:N≤lc:=by have:=ri.le;omega
           have hcapm:lc≤9223372036854775807:=by have:=ri.max;unfold maxLen at this;exact this
           have lt:(L.take l1).length=l1:=by rw[qar];omega
           have ld:(L.drop l1).length=N-l1:=by rw[qau,hLN]
           have r1:Ri wc (some ⟨g,o,none⟩) lc (L.take l1):=Ri.take ri l1;have r2:Ri wc (cutAtN (some ⟨g,o,none⟩) lc l1 1) (lc-l1) (L.drop l1):=qvs ri l1 (by omega);have h1:∀x∈L.take l1,x≤15:=λx hx=>hL15 x (qbu hx)
           have h2:∀x∈L.drop l1,x≤15:=λx hx=>hL15 x (List.mem_of_mem_drop hx)
           have W2:=qga _ lc (L.take l1) wc r1 h1 (by omega);have W3:=qga _ (lc-l1) (L.drop l1) wc r2 h2 (by omega);have W4:=qtk _ (lc-l1) (L.drop l1) wc r2 h2 (by omega);rw[lt]at W2;rw[ld]at W3 W4;rw[qsi,qsh]at hMi;obtain⟨b1,hb1⟩:∃b,b=decide (weight (L.take l1)=32768):=⟨_,rfl⟩;obtain⟨b2,hb2⟩:∃b,b=decide (weight (L.drop l1)=32768):=⟨_,rfl⟩;obtain⟨b3,hb3⟩:∃b,b=(decide (some_ (L.drop l1)<2)&&ones (L.drop l1)):=⟨_,rfl⟩;rw[<-hb1]at W2 hMi;rw[<-hb2]at W3 hMi;rw[<-hb3]at W4 hMi;have hg:B≤g∧g≠B:=l9.new g (by simp[blk]);have hgw:g<wc.heap.size:=qd3 l9.own (qdv (x:=g) (by simp[blk]));have hfl:=qdt R p F bs out a5 oc most 0 3 oa wc s9;have hX:∀x,x=g→x∉R::p::blk oa:=λx hx hm=>by
            have hOB:=K8.out.2.2.2.2.2.2.1;simp only[qaw]at hm;rcases hm with h|h|h
            ·omega
            ·omega
            ·have:=hlow.1.2.2.2 x h;omega
           have hld:b1=true→(b2||b3)=true→Ld wc (some ⟨g,o,none⟩) lc (L.take l1) (R::p::blk oa)∧Ld wc (cutAtN (some ⟨g,o,none⟩) lc l1 1) (lc-l1) (L.drop l1) (R::p::blk oa):=λk1 k2=>by
            refine⟨⟨r1,λx hx=>?_,h1,by omega,?_⟩,⟨r2,λx hx=>?_,h2,by omega,?_⟩⟩
            ·simp only[blk,qaz]at hx;exact⟨by omega,hX x hx⟩
            ·rw[hb1]at k1;have:=of_decide_eq_true k1;omega
            ·have hx2:x=g:=by
              unfold cutAtN at hx;split at hx
              ·simp[blk]at hx;exact hx
              ·simp[blk,qhe]at hx;exact hx
             exact⟨by omega,hX x hx2⟩
            ·have k3:iwhole (L.drop l1) true=true:=by rw[qsh,<-hb2,<-hb3];exact k2
             unfold iwhole at k3;simp only[qbf,decide_eq_true_eq]at k3;exact k3.1
           have hsl1:=lib.qff huf.qcn l1 (some ⟨g,o,none⟩) N lc l1 rfl (by omega);have hsl2:=lib.qdb huf.qcn l1 (some ⟨g,o,none⟩) N lc l1 rfl (by omega) hcapN;obtain⟨qa,hqa⟩:∃q,q=cutAtN (some ⟨g,o,none⟩) lc l1 1:=⟨_,rfl⟩;obtain⟨qc,hqc⟩:∃q,q=lc-l1:=⟨_,rfl⟩;obtain⟨qn,hqn⟩:∃q,q=N-l1:=⟨_,rfl⟩;rw[<-hqa,<-hqc]at W3 W4 hsl2 hld;rw[<-hqn]at W3 W4 hsl2 ld;have HL:=zhd10 hMi W2 W3 W4 hld s9 f9 hfl lt ld;clear hMi W2 W3 W4 hld s9 f9 l9 hfl ri lt ld r1 r2 h1 h2 hb1 hb2 hb3 hg hgw hX hqa hqc hqn hz hz2 hLN hL15 hE4;obtain⟨w9,hw9⟩:=zex wc;rw[<-hw9]at HL c3 cB hcell ⊢;clear hw9;go_upto_region 29 with fail;clear c3 cB hsl1 hsl2;go_cut [120] from 102 to 120 (λs120 wd=>s120 = .bool (decide (z=0)||(!b1||(!b2&&!b3)))∧w9=wd)
           case first=>
            by_cases hz0:z=0
            ·subst hz0;go_wp2;go_meet;case rel=>exact⟨by simp,rfl⟩
            ·have dz:((z:Int)==0)=false:=by simp;omega
             have hz3:=zhd hz0;clear hz0;cases b1
             ·go_wp2_with (go_at_call 151;refine HL.out.2.1.mono ?_;rintro e w10 ⟨rfl,rfl⟩);go_meet;case rel=>exact⟨by simp,rfl⟩
             ·cases b2
              ·cases b3
               ·go_wp2_with (first|(go_at_call 151;refine HL.out.2.1.mono ?_;rintro e w10 ⟨rfl,rfl⟩)|(go_at_call 151;refine HL.out.2.2.1.mono ?_;rintro e w10 ⟨rfl,rfl⟩)|(go_at_call 153;refine HL.out.2.2.2.1.mono ?_;rintro e w10 ⟨rfl,rfl⟩));go_meet;case rel=>exact⟨by simp,rfl⟩
               ·go_wp2_with (first|(go_at_call 151;refine HL.out.2.1.mono ?_;rintro e w10 ⟨rfl,rfl⟩)|(go_at_call 151;refine HL.out.2.2.1.mono ?_;rintro e w10 ⟨rfl,rfl⟩)|(go_at_call 153;refine HL.out.2.2.2.1.mono ?_;rintro e w10 ⟨rfl,rfl⟩));go_meet;case rel=>exact⟨by simp[hz3.out],rfl⟩
              ·go_wp2_with (first|(go_at_call 151;refine HL.out.2.1.mono ?_;rintro e w10 ⟨rfl,rfl⟩)|(go_at_call 151;refine HL.out.2.2.1.mono ?_;rintro e w10 ⟨rfl,rfl⟩));go_meet;case rel=>exact⟨by simp[hz3.out],rfl⟩
           case rest=>
            obtain⟨rfl,rfl⟩:=hcut;obtain⟨bt,hbt⟩:∃b:Bool,b=(decide (z=0)||(!b1||(!b2&&!b3))):=⟨_,rfl⟩;rw[<-hbt];have HT:=zhd hbt;clear hbt;cases bt
            ·go_wp2;go_ret2;have h:=HT.out;have hz0:z≠0:=λh0=>by rw[h0]at h;simp at h
             have hb1:b1=true:=by cases b1<;>simp[hz0]at h ⊢
             have hb2:(b2||b3)=true:=by cases b2<;>cases b3<;>simp[hz0,hb1]at h ⊢
             obtain⟨d1,d2⟩:=HL.out.2.2.2.2.1 hb1 hb2;refine⟨_,_,_,_,_,_,a5,0,rfl,HL.out.2.2.2.2.2.1,HL.out.2.2.2.2.2.2.1,.inr ⟨L.take l1,L.drop l1,?_,rfl,HL.out.2.2.2.2.2.2.2.2.1.symm,HL.out.2.2.2.2.2.2.2.2.2.symm,d1,d2⟩⟩;rw[HL.out.1,if_neg hz0,hb1,hb2,if_neg (by decide),if_neg (by decide)]
            ·go_wp2_with (go_at_call 103;refine HL.out.2.2.2.2.2.2.2.1.mono ?_;rintro e w10 ⟨rfl,S10,f10⟩);go_ret2;refine⟨_,_,_,_,_,_,a5,3,rfl,S10,HL.out.2.2.2.2.2.2.1.trans (f10.mono (by simp)),.inl ⟨?_,by decide,by decide⟩⟩;have h:=HT.out;rw[HL.out.1];by_cases hz0:z=0
             ·rw[if_pos hz0]
             ·rw[if_neg hz0];cases b1
              ·rfl
              ·rw[if_neg (by decide)];cases b2<;>cases b3<;>simp[hz0]at h ⊢
          ·have d0:((E4:Int)!=0)=true:=by simp;omega
           have hE5:E4<100∧M = .error E4:=by
            rcases hE4 with⟨k1,_⟩|⟨_,k2,k3⟩
            ·exact absurd k1 h0
            ·exact⟨k2,k3⟩
           have HJ:=zhd4 s9 f9 h0 hE5;clear s9 f9 l9 hE4 h0 hE5 cB;go_wp2;go_ret2;exact⟨_,_,_,_,_,_,a5,E4,rfl,HJ.out.1,HJ.out.2.1,.inl ⟨HJ.out.2.2.2.2,by have:=HJ.out.2.2.1;omega,HJ.out.2.2.2.1⟩⟩
       ·have d0:((E2:Int)!=0)=true:=by simp;omega
        have hE3:E2<100∧M = .error E2:=by
         rcases hE2 with⟨k1,_⟩|⟨_,k2,k3⟩
         ·exact absurd k1 h0
         ·exact⟨k2,k3⟩
        have HE:=zhd4 h0 hE3 s6 f6;clear hE2 hE3 h0 s6 f6 ow6 hfl hf15;go_wp2;go_ret2;exact⟨_,_,_,_,_,_,a4,E2,rfl,HE.out.2.2.1,HE.out.2.2.2,.inl ⟨HE.l1.1.2,by have:=HE.o0;omega,HE.l1.1.1⟩⟩
theorem infoGot6:(Tryz.prog.info? 76).map (·.size)=some 3:=by kernel_rfl
theorem qdh {fn:Func} {p:Tmp} (h:fn.results=#[.cell p 76]) (tmps:Array Value) (w:World) (g:Nat) (cs:Array Value) (fr:Nat×Nat)
  (hp:tmps.getD p undef = .pointer (some ⟨g,0,none⟩)) (hg:w.heap[g]?=some (.cells cs 76 fr)) (hs:cs.size=3):(results fn tmps).run Tryz.prog w = .ok (.agg cs) w:=
 results_cell_row h tmps w g 76 cs fr _ hp hg Tryz.underlying76 rfl (by rw[infoGot6,hs])
theorem Sw.under {w:World} {R p:Nat} {F:List Nat} {bs out:List UInt8} {at_ oc most E:Nat} {oa:Option Addr} (h:Sw w R p F bs at_ out oa oc most E):∀x∈R::p::blk oa,x<w.heap.size:=λx hx=>by
 simp only[qaw]at hx;rcases hx with h1|h1|h1
 ·rw[h1];exact lt_of_block h.box
 ·rw[h1];exact h.low _ h.pF.1
 ·exact qd3 h.own (qdv h1)
theorem qwn {w w':World} {ao:Option Addr} {n cap:Nat} {xs X:List Nat} (h:Made w w' 3 1 ao n cap (ints xs)) (hn:n=xs.length) (hX:∀x∈X,x<w.heap.size) (h1:∀x∈xs,x≤15) (h2:xs.length≤400) (h3:weight xs≤32768):Ld w' ao cap xs X:=
 ⟨⟨qcm h.own,by rw[<-hn];exact h.le,h.max,h.nil⟩,λx hx=>⟨h.lt x hx,λhm=>by have:=hX x hm;have:=h.new x hx;omega⟩,h1,h2,h3⟩
theorem zah:weight (fixed 288)=32768:=by decide +kernel
theorem qxl:weight (List.replicate 32 5)=32768:=by decide +kernel
theorem qq7:∀x∈fixed 288,x≤15:=λx hx=>by unfold fixed at hx;obtain⟨i,_,rfl⟩:=qb8.1 hx;exact qw4 i
theorem take3 {bs:List UInt8} {a:Nat} (h:a+3≤8*bs.length):∃v,v<8∧itake bs a 3 = .ok (v,a+3)∧itake bs a 1 = .ok (v%2,a+1)∧itake bs (a+1) 2 = .ok (v/2,a+1+2):=by
 have hl:(bytesBits bs).length=8*bs.length:=qbk bs;obtain⟨x,t1,h1⟩:∃x t,(bytesBits bs).drop a=x::t:=by
  cases hd:(bytesBits bs).drop a with
  | nil=>have:=congrArg List.length hd;rw[qau,hl]at this;simp at this;omega
  | cons b t=>exact⟨b,t,rfl⟩
 obtain⟨y,t2,h2⟩:∃x t,(bytesBits bs).drop (a+1)=x::t:=by
  cases hd:(bytesBits bs).drop (a+1) with
  | nil=>have:=congrArg List.length hd;rw[qau,hl]at this;simp at this;omega
  | cons b t=>exact⟨b,t,rfl⟩
 obtain⟨z,t3,h3⟩:∃x t,(bytesBits bs).drop (a+2)=x::t:=by
  cases hd:(bytesBits bs).drop (a+2) with
  | nil=>have:=congrArg List.length hd;rw[qau,hl]at this;simp at this;omega
  | cons b t=>exact⟨b,t,rfl⟩
 have e1:t1=y::t2:=by rw[<-h2,<-za0,h1];rfl
 have e2:t2=z::t3:=by rw[<-h3,show a+2=a+1+1 from rfl,<-za0,h2];rfl
 refine⟨bval [x,y,z],by cases x<;>cases y<;>cases z<;>decide,?_,?_,?_⟩
 ·unfold itake;rw[if_pos h,h1,e1,e2];rfl
 ·unfold itake;rw[if_pos (by omega),h1];cases x<;>cases y<;>cases z<;>simp[bval,b2n]
 ·unfold itake;rw[if_pos (by omega),h2,e2];cases x<;>cases y<;>cases z<;>simp[bval,b2n]
theorem qz5 {bs:List UInt8} {m f a:Nat} {out:List UInt8}:irawF bs m (f+1) out a=match itake bs a 3 with
  | .error _=>.error 4
  | .ok (v,a3)=>if v/2=3 then .error 3 else match iblock bs m (v/2) out a3 with
   | .error e=>.error e
   | .ok (o,a4)=>if v%2=0 then irawF bs m f o a4 else .ok (o,a4):=by
 by_cases h:a+3≤8*bs.length
 ·obtain⟨v,_,h1,h2,h3⟩:=take3 h;rw[irawF,h1,h2];dsimp only;rw[h3];rfl
 ·rw[irawF,qfs (show 8*bs.length<a+3 by omega)];dsimp only;by_cases h1:a+1≤8*bs.length
  ·have:itake bs a 1 = .ok (bval (((bytesBits bs).drop a).take 1),a+1):=by unfold itake;rw[if_pos h1]
   rw[this];dsimp only;rw[qfs (show 8*bs.length<a+1+2 by omega)]
  ·rw[qfs (show 8*bs.length<a+1 by omega)]
def RRawGood (w:World) (m:Except Nat (List UInt8×Nat)) (e:Ending) (w':World):Prop:=
 Fr [] w w'∧((∃c,m = .error c∧0<c∧c<100∧e = .returned (.agg #[.slice none 0 0,.int .i64 0,.int .i64 (c:Nat)]))∨
  (∃out used ao oc,m = .ok (out,used)∧e = .returned (.agg #[.slice ao out.length oc,.int .i64 (used:Nat),.int .i64 0])∧lib.Rd w' ao oc out∧∀x∈blk ao,w.heap.size≤x∧x<w'.heap.size))
theorem qze (a:Option Addr) (cap:Nat) (bs:List UInt8) (m:Nat) (w:World) (h:lib.Rd w a cap bs) (hlen:bs.length≤100000000) (hm8:m≤100000000) (hlow:∀x∈blk a,x<w.heap.size) :
  Calls Tryz.prog 60 #[.slice a bs.length cap,.int .i64 m] w (RRawGood w (iraw bs m)):=by
 obtain⟨L,hL⟩:=zex bs.length;obtain⟨M,hM⟩:=zex (iraw bs m);obtain⟨M0,hM0⟩:=zex (irawF bs m (fuel bs) [] 0);have hMM:M=iend M0:=by rw[hM,hM0,qsj]
 rw[<-hM,<-hL];have H:=zhd6 h hlen hlow hMM hM0 hL;clear h hlen hlow hMM hM0 hM hL;go_enter Tryz.func60,Tryz.ntmps60;go_upto_region 2 with fail;obtain⟨G,hG⟩:=zex w.heap.size;rw[<-hG];obtain⟨w2,hw2⟩:∃w2,w2=((w.alloc (.cells #[.slice none 0 0,.int .i64 0,.int .i64 0] 76)).alloc (.cells #[.slice a L cap,.int .i64 0] 160)).alloc (.cells #[.pointer (some ⟨G+1,0,none⟩),.slice none 0 0,.int .i64 (m:Nat),.int .i64 0] 162):=⟨_,rfl⟩;rw[<-hw2];have f2:Fr [] w w2:=by rw[hw2];exact (((Fr.refl [] w).alloc _).alloc _).alloc _
 have hs2:w2.heap.size=G+3:=by rw[hw2,qav,qav,qav,hG]
 have bG:w2.heap[G]?=some (.cells #[.slice none 0 0,.int .i64 0,.int .i64 0] 76 (0,0)):=by rw[hw2,hG];exact alloc_old _ (alloc_old _ (qa4 w _))
 have bp:w2.heap[G+1]?=some (.cells #[.slice a L cap,.int .i64 0] 160 (0,0)):=by rw[hw2,hG];refine alloc_old _ ?_;have:=qa4 (w.alloc (.cells #[.slice none 0 0,.int .i64 0,.int .i64 0] 76)) (.cells #[.slice a L cap,.int .i64 0] 160);rwa [qav]at this
 have bR:w2.heap[G+1+1]?=some (.cells #[.pointer (some ⟨G+1,0,none⟩),.slice none 0 0,.int .i64 m,.int .i64 0] 162 (0,0)):=by have:=qa4 ((w.alloc (.cells #[.slice none 0 0,.int .i64 0,.int .i64 0] 76)).alloc (.cells #[.slice a L cap,.int .i64 0] 160)) (.cells #[.pointer (some ⟨G+1,0,none⟩),.slice none 0 0,.int .i64 m,.int .i64 0] 162);rw[qav,qav,<-hG]at this;rw[hw2];exact this
 have hla:∀x∈blk a,x<G:=λx hx=>by rw[hG];exact H.o2 x hx
 have S2:Sw w2 (G+1+1) (G+1) ((G+1)::blk a) bs 0 [] none 0 m 0:=by
  refine⟨bR,⟨a,cap,by rw[<-H.l5];exact bp,H.o0.cs.fr f2 (by simp),rfl,λhx=>by have:=hla _ hx;omega,by have:=H.o1;omega,qba _,H.o0.le,H.o0.max,H.o0.nil⟩,qch _ _ _ _,?_,by simp[blk],by simp[blk],?_,hm8,H.o1,qba _⟩
  ·intro hx;rcases qaw.1 hx with k|k
   ·omega
   ·have:=hla _ k;omega
  ·intro x hx;rcases qaw.1 hx with k|k
   ·omega
   ·have:=hla _ k;omega
 obtain⟨R,hR⟩:=zex (G+1+1);obtain⟨p,hp⟩:=zex (G+1);obtain⟨F,hF⟩:=zex ((G+1)::blk a);rw[<-hF,<-hR,<-hp]at S2;rw[<-hR,<-hp];have HK:=zhd7 S2 f2 bG hs2 hR hp hG;clear S2 f2 bG hs2 hR hp hF bp bR hla hw2 hG;go_upto_block 0 with fail;go_cut [6] from 6 to 76 (λs6 wc=>∃(a1:Nat) (out1:List UInt8) (oa1:Option Addr) (oc1 E:Nat),Sw wc R p F bs a1 out1 oa1 oc1 m E∧Way w2 R p none wc oa1∧((E=0∧M0 = .ok (out1,a1))∨(E≠0∧E<100∧M0 = .error E)))
 case first=>
  go_wp2;go_loopg [6] (fuel bs) (λk s6 wr=>∃(last a1:Nat) (out1:List UInt8) (oa1:Option Addr) (oc1 E:Nat),s6 = .int .i64 (last:Nat)∧Sw wr R p F bs a1 out1 oa1 oc1 m E∧Way w2 R p none wr oa1∧
   ((E=0∧last=0∧irawF bs m k out1 a1=M0∧8*bs.length+1≤a1+k)∨(E=0∧last≠0∧M0 = .ok (out1,a1))∨(E≠0∧E<100∧M0 = .error E)))
  case atStart=>exact⟨0,0,[],none,0,0,rfl,HK.out.1,.refl _ _ _ _,.inl ⟨rfl,rfl,H.o4.symm,by unfold fuel;omega⟩⟩
  case round=>
   obtain⟨last,a1,out1,oa1,oc1,E,rfl,hst,hway,hcs⟩:=hrel;have c3:=cell_of hst.box 3;simp only[qae,qaa,qad]at c3;by_cases h0:E=0
   ·by_cases hl:last=0
    ·subst h0;subst hl;obtain⟨hir,hfu⟩:irawF bs m gk out1 a1=M0∧8*bs.length+1≤a1+gk:=by
      rcases hcs with⟨_,_,k⟩|⟨_,k,_⟩|⟨k,_⟩
      ·exact k
      ·exact absurd rfl k
      ·exact absurd rfl k
     have ha8:=hst.pF.2;obtain⟨k,rfl⟩:∃k,gk=k+1:=⟨gk-1,by omega⟩;rw[qz5]at hir;have htk:=qdd R p F bs out1 a1 oc1 m 3 oa1 wr hst (by decide);have HJ:=zhd4 hway hir hfu htk;clear hst hway hir hfu htk hcs;go_upto_region 5 with (go_at_call 98;refine HJ.out.2.2.2.mono ?_;rintro e w3 (⟨a3,hm,rfl,s3,f3⟩|⟨v,a3,hm,rfl,s3,f3⟩))
     ·clear c3;have c3:=cell_of s3.box 3;simp only[qae,qaa,qad]at c3;have K3:=zhd3 hm s3 f3;clear hm s3 f3;go_wp2;go_roundg k;case measure=>omega
      case rel=>exact⟨0,a3,out1,oa1,oc1,4,rfl,K3.o1,HJ.out.1.trans (Way.ofRp _ _ _ _ _ K3.l2),.inr (.inr ⟨by decide,by decide,by rw[<-HJ.out.2.1,K3.o0]⟩)⟩
     ·clear c3;have hv8:v<8:=qcp hm;have ha3:=qd1 hm;have c3:=cell_of s3.box 3;simp only[qae,qaa,qad]at c3;obtain⟨l,hl⟩:=zex (v%2);obtain⟨h,hh⟩:=zex (v/2);have hand:bits .and .i64 (v:Int) 1=(l:Int):=by have:=qlh v 1 (by omega) (by decide);rw[Nat.and_one_is_mod,<-hl]at this;exact this
      have hshr:(v:Int)/2=(h:Int):=by omega
      have hM3:M0=if h=3 then .error 3 else match iblock bs m h out1 a3 with
       | .error e=>.error e
       | .ok (o,a4)=>if l=0 then irawF bs m k o a4 else .ok (o,a4):=by rw[<-HJ.out.2.1,hm,hl,hh]
      have hw3:=HJ.out.1.trans (Way.ofRp _ _ _ _ _ f3);have hh3:h≤3:=by omega
      have hfu:=HJ.out.2.2.1;have K3:=zhd5 s3 hw3 hM3 (by omega:8*bs.length+1≤a3+k) f3;have HH:=zhd hh3;clear hm s3 f3 hl hh hM3 hw3 hfu ha3 hh3;have hfin:∀w',RetW w3 R p F bs oa1 m (iblock bs m h out1 a3) w'→h≠3→∃(a1:Nat) (out1:List UInt8) (oa1:Option Addr) (oc1 E:Nat),Sw w' R p F bs a1 out1 oa1 oc1 m E∧Way w2 R p none w' oa1∧
        ((E=0∧l=0∧irawF bs m k out1 a1=M0∧8*bs.length+1≤a1+k)∨(E=0∧l≠0∧M0 = .ok (out1,a1))∨(E≠0∧E<100∧M0 = .error E)):=λw' hr h3=>by
       obtain⟨a5,o5,oa5,oc5,E5,s5,y5,h5⟩:=hr
       have hM:=K3.l2.1
       rw[if_neg h3]at hM
       refine⟨a5,o5,oa5,oc5,E5,s5,K3.o1.trans y5,?_⟩
       rcases h5 with⟨k1,k2,k3⟩|⟨k1,k2⟩
       ·rw[k1]at hM
        exact .inr (.inr ⟨by omega,k3,hM⟩)
       ·have hge:=qic k1
        rw[k1]at hM
        dsimp only at hM
        by_cases hl0:l=0
        ·rw[if_pos hl0]at hM
         exact .inl ⟨k2,hl0,hM.symm,by have:=K3.out.2.2.2.1;omega⟩
        ·rw[if_neg hl0]at hM
         exact .inr (.inl ⟨k2,hl0,hM⟩)
      have HFin:=zhd hfin;clear hfin;rcases (show h=0∨h=1∨h=2∨h=3 by have:=HH.out;omega) with rfl|rfl|rfl|rfl
      ·have hb0:=qqd R p F bs out1 a3 oc1 m oa1 w3 K3.o0;have HB:=zhd hb0;clear hb0;go_wp2_with (go_at_call 99;refine HB.out.mono ?_;rintro e w4 ⟨rfl,h4⟩;have K4:=zhd h4;clear h4);go_roundg k;case measure=>omega
       case rel=>obtain⟨a5,o5,oa5,oc5,E5,s5,y5,h5⟩:=HFin.out _ (by unfold iblock;rw[if_pos rfl];exact K4.out) (by decide);exact⟨l,a5,o5,oa5,oc5,E5,rfl,s5,y5,h5⟩
      ·have hun:=K3.o0.under;have hb0:=qto w3;unfold RFixedGood at hb0;have HB:=zhd hb0;have HU:=zhd hun;clear hb0 hun;go_upto_region 12 with (go_at_call 100;refine HB.out.mono ?_;rintro e w4 ⟨b1,c1,b2,c2,rfl,m1,m2⟩;have K4:=zhd2 m1 m2;clear m1 m2);have d1:=qwn K4.out.1 (by rfl) HU.out qq7 (by decide) (by rw[zah];exact qag _);have d2:=qwn K4.out.2 (by rfl) HU.out (λx hx=>by rw[List.eq_of_mem_replicate hx];decide) (by decide) (by rw[qxl];exact qag _);have hcd:=qmd R p F bs out1 b1 b2 c1 c2 288 32 (fixed 288) (List.replicate 32 5) a3 oc1 m oa1 w4 (K3.o0.fr0 K4.out.1.fr) d1 d2 rfl rfl;have HC:=zhd hcd;clear d1 d2 hcd;clear c3;go_wp2_with (go_at_call 101;refine HC.out.mono ?_;rintro e w5 ⟨rfl,h5⟩;have K5:=zhd h5;clear h5);go_roundg k;case measure=>omega
       case rel=>obtain⟨a6,o6,oa6,oc6,E6,s6,y6,h6⟩:=K5.out;obtain⟨a5,o5,oa5,oc5,E5,s5,y5,h5⟩:=HFin.out w5 (by unfold iblock;rw[if_neg (by decide),if_pos rfl];unfold ifixed;exact⟨a6,o6,oa6,oc6,E6,s6,(Way.of0 _ _ _ _ _ K4.out.1.fr).trans y6,h6⟩) (by decide);exact⟨l,a5,o5,oa5,oc5,E5,rfl,s5,y5,h5⟩
      ·have hln:=qow R p F bs out1 a3 oc1 m oa1 w3 K3.o0;have hid:iblock bs m 2 out1 a3=match ihead bs a3 with | .error e=>.error e | .ok (ll,dl,a5)=>isyms bs m ll dl (fuel bs) out1 a5:=by unfold iblock;rw[if_neg (by decide),if_neg (by decide),zcq];all_goals (cases ihead bs a3<;>rfl)
       have HB:=zhd2 hln hid;clear hln hid;go_upto_region 15 with (go_at_call 102;refine HB.out.1.mono ?_;rintro e w4 ⟨b1,n1,c1,b2,n2,c2,a4,E4,rfl,s4,f4,h4⟩);clear c3;have c3:=cell_of s4.box 3;simp only[qae,qaa,qad]at c3;rcases h4 with⟨k1,k2,k3⟩|⟨ll,dl,k1,rfl,k3,k4,k5,k6⟩
       ·have d0:((E4:Int)==0)=false:=by simp;omega
        have K4:=zhd5 s4 f4 k1 k2 k3;clear s4 f4 k1 k2 k3;go_wp2;go_roundg k;case measure=>omega
        case rel=>obtain⟨a5,o5,oa5,oc5,E5,s5,y5,h5⟩:=HFin.out w4 ⟨a4,out1,oa1,oc1,E4,K4.out.1,Way.ofRp _ _ _ _ _ K4.out.2.1,.inl ⟨by rw[HB.out.2,K4.out.2.2.1],K4.out.2.2.2.1,K4.out.2.2.2.2⟩⟩ (by decide);exact⟨l,a5,o5,oa5,oc5,E5,rfl,s5,y5,h5⟩
       ·have hcd:=qmd R p F bs out1 b1 b2 c1 c2 n1 n2 ll dl a4 oc1 m oa1 w4 s4 k5 k6 k3 k4;have K4:=zhd3 hcd f4 k1;clear hcd f4 k1 s4 k5 k6 k3 k4;go_wp2_with (go_at_call 101;refine K4.out.1.mono ?_;rintro e w5 ⟨rfl,h5⟩;have K5:=zhd h5;clear h5);go_roundg k;case measure=>omega
        case rel=>obtain⟨a6,o6,oa6,oc6,E6,s6,y6,h6⟩:=K5.out;obtain⟨a5,o5,oa5,oc5,E5,s5,y5,h5⟩:=HFin.out w5 ⟨a6,o6,oa6,oc6,E6,s6,(Way.ofRp _ _ _ _ _ K4.out.2.1).trans y6,by rw[HB.out.2,K4.out.2.2];exact h6⟩ (by decide);exact⟨l,a5,o5,oa5,oc5,E5,rfl,s5,y5,h5⟩
      ·have hb0:=qdt R p F bs out1 a3 oc1 m 0 3 oa1 w3 K3.o0;have HB:=zhd hb0;clear hb0;go_wp2_with (go_at_call 103;refine HB.out.mono ?_;rintro e w4 ⟨rfl,S4,f4⟩;have K4:=zhd2 S4 f4;clear S4 f4);go_roundg k;case measure=>omega
       case rel=>exact⟨l,a3,out1,oa1,oc1,3,rfl,K4.out.1,K3.o1.trans (Way.ofR _ _ _ _ _ K4.out.2),.inr (.inr ⟨by decide,by decide,by rw[K3.l2.1];first|rfl|(rw[if_pos rfl])⟩)⟩
    ·have d0:((last:Int)==0)=false:=by simp;omega
     have hM:M0 = .ok (out1,a1):=by
      rcases hcs with⟨_,k,_⟩|⟨_,_,k⟩|⟨k,_⟩
      ·exact absurd k hl
      ·exact k
      ·exact absurd h0 k
     have HJ:=zhd4 hst hway h0 hM;clear hst hway hcs hM h0 hl;go_wp2;go_meet;case rel=>exact⟨a1,out1,oa1,oc1,E,HJ.out.1,HJ.out.2.1,.inl HJ.out.2.2⟩
   ·have d0:((E:Int)==0)=false:=by simp;omega
    have hM:E<100∧M0 = .error E:=by
     rcases hcs with⟨k,_⟩|⟨k,_⟩|⟨_,k2,k3⟩
     ·exact absurd k h0
     ·exact absurd k h0
     ·exact⟨k2,k3⟩
    have HJ:=zhd4 hst hway h0 hM;clear hst hway hcs hM h0;by_cases hl:last=0
    ·subst hl;go_wp2;go_meet;case rel=>exact⟨a1,out1,oa1,oc1,E,HJ.out.1,HJ.out.2.1,.inr HJ.out.2.2⟩
    ·have d1:((last:Int)==0)=false:=by simp;omega
     clear hl;go_wp2;go_meet;case rel=>exact⟨a1,out1,oa1,oc1,E,HJ.out.1,HJ.out.2.1,.inr HJ.out.2.2⟩
 case rest=>
  obtain⟨a1,out1,oa1,oc1,E,s3,y3,h3⟩:=hcut;obtain⟨k1,k2,k3,k4,k5,k6,k7⟩:=HK.out;have hGn:G∉R::p::blk none:=by simp[blk];omega
  have bG:wc.heap[G]?=some (.cells #[.slice none 0 0,.int .i64 0,.int .i64 0] 76 (0,0)):=y3.fr.blk k3 hGn;have fW:Fr [] w wc:=k2.step y3.fr (λx hx=>.inr (by simp[blk]at hx;omega));have c3:=cell_of s3.box 3;simp only[qae,qaa,qad]at c3;have g0:=cell_of bG 0;have g1:=cell_of bG 1;have g2:=cell_of bG 2;have z0:=qay bG 0;have z1:=qay bG 1;have z2:=qay bG 2;simp only[qae,qaa,qad]at g0 g1 g2;have hput:∀(wz:World),Fr [] wc wz→∀v0 v1 v2,(((wz.setCell ⟨G,0,none⟩ v0).setCell ⟨G,1,none⟩ v1).setCell ⟨G,2,none⟩ v2).heap[G]?=some (.cells #[v0,v1,v2] 76 (0,0))∧Fr [G] wz (((wz.setCell ⟨G,0,none⟩ v0).setCell ⟨G,1,none⟩ v1).setCell ⟨G,2,none⟩ v2):=λwz f v0 v1 v2=>⟨(qa0 (qa0 (qa0 (f.blk bG (by simp)) _) _) _).trans rfl,(((Fr.refl [G] wz).setCell (by simp) _).setCell (by simp) _).setCell (by simp) _⟩
  have HP:=zhd hput;clear hput;by_cases h0:E=0
  ·subst h0;have hM:M0 = .ok (out1,a1):=by
    rcases h3 with⟨_,k⟩|⟨k,_⟩
    ·exact k
    ·exact absurd rfl k
   have c0:=cell_of s3.box 0;have c1:=cell_of s3.box 1;simp only[qae,qaa,qad]at c0 c1;obtain⟨N,hN⟩:=zex out1.length;rw[<-hN]at c1;obtain⟨u,hu⟩:=zex ((a1+7)/8);have hus:∀w',Fr [] wc w'→Calls Tryz.prog 104 #[.pointer (some ⟨p,0,none⟩)] w' λe w''=>e = .returned (.int .i64 u)∧w''=w':=λw' f'=>by rw[hu];exact (bits.qvm p F bs a1 w' (bits.qf9 s3.rd f' (by simp))).mono λe w'' h=>⟨h.1,h.2.symm⟩
   have hMM:M = .ok (out1,u):=by rw[H.o3,hM,hu];rfl
   have HJ:=zhd7 hus fW hMM hN s3 y3 bG;clear s3 y3 h3 bG fW hM k1 k2 k3 k4 k5 k6 k7 hGn hN hu hus hMM;go_upto_region 19 with fail;refine qcl 10 (by kernel_rfl) (by kernel_rfl) ?_;simp only[qai,qao,qah,qaj];repeat (go_big_quiet_step (first|(exact HJ.out.1 _ (Fr.drew1 [] _) _)|(go_loud (exact HJ.out.1 wc.drew (Fr.drew1 [] _) _))))
   refine wpQuiet_nil ?_;go_wp2;have hp:=HP.out wc.drew (Fr.drew1 [] _) (.slice oa1 N oc1) (.int .i64 u) (.int .i64 0);refine bodyPost_ret (qdh rfl _ _ G #[.slice oa1 N oc1,.int .i64 u,.int .i64 0] (0,0) rfl hp.1 rfl) rfl ?_;obtain⟨j1,j2,j3,j4,j5,j6,j7⟩:=HJ.out;obtain⟨q1,q2,q3,q4,q5,q6,q7⟩:=HK.out;have hnew:∀x∈blk oa1,w2.heap.size≤x:=λx hx=>by
    rcases j6.new x hx with k|k
    ·simp[blk]at k
    ·exact k
   obtain⟨r1,r2⟩:=qiz j5.own;have fE:=(Fr.drew1 [G] wc).trans hp.2;refine⟨j2.step fE (λx hx=>.inr (by simp at hx;omega)),.inr ⟨out1,u,oa1,oc1,j3,by rw[j4],?_,λx hx=>⟨by have:=hnew x hx;omega,qal (qd3 j5.own (qdv hx)) fE.size⟩⟩⟩;exact⟨r1.cs.fr fE (λx hx=>by have:=hnew x hx;simp;omega),r1.le,r1.max,r1.nil⟩
  ·have d0:((E:Int)!=0)=true:=by simp;omega
   have hM:E<100∧M0 = .error E:=by
    rcases h3 with⟨k,_⟩|⟨_,k2,k3⟩
    ·exact absurd k h0
    ·exact⟨k2,k3⟩
   have HJ:=zhd4 bG fW h0 hM;clear s3 y3 h3 bG fW h0 hM k1 k2 k3 k4 k5 k6 k7 hGn;go_wp2;have hp:=HP.out wc (Fr.refl _ _) (.slice none 0 0) (.int .i64 0) (.int .i64 E);refine bodyPost_ret (qdh rfl _ _ G #[.slice none 0 0,.int .i64 0,.int .i64 E] (0,0) rfl hp.1 rfl) rfl ?_;refine⟨HJ.out.2.1.step hp.2 (λx hx=>.inr (by have:=HK.out.2.2.2.2.2.2;simp at hx;omega)),.inl ⟨E,?_,by have:=HJ.out.2.2.1;omega,HJ.out.2.2.2.1,rfl⟩⟩;rw[H.o3,HJ.out.2.2.2.2];rfl
end Go.Proofs.YtbabjlohkniciaaGreatDoor.inf
namespace Go.Proofs.YtbabjlohkniciaaGreatDoor.crc
open Go Go.RowKit lib bm
theorem qtv (bs:List UInt8) (w:World) (hlen:bs.length≤281474976710656):Calls Tryz.prog 62 #[.string (str bs)] w λe w'=>e = .returned (.int .u32 (sums.adler bs:Nat))∧Fr [] w w':=by
 have hsz:(str bs).size=bs.length:=by simp[str,ByteArray.size]
 obtain⟨L,hL⟩:=zex bs.length;obtain⟨s,hs⟩:=zex (str bs);have hidx:∀i,i<L→∀w:World,(Instr.index 9 (.string (str bs)) (.int .i64 (i:Nat))).run Tryz.prog w = .ok (.int .u8 (((bs[i]?.getD 0).toNat:Nat):Int)) w:=λi hi w=>by have h:=qgt bs (i:=i) (by omega) w;rwa [show bs[i]=bs[i]?.getD 0 by rw[qaf (by omega)];rfl]at h
 rw[<-hs,<-hL]at hsz;rw[<-hs]at hidx ⊢;rw[<-hL]at hlen;have HI:=zhd2 hL hidx;clear hL hs hidx;go_enter Tryz.func62,Tryz.ntmps62;go_wp2;go_loopg [3,4,5] L (λk s3 s4 s5 wr=>∃i x y:Nat,s5 = .int .i64 (i:Nat)∧s3 = .int .u32 (x:Nat)∧s4 = .int .u32 (y:Nat)∧i+k=L∧x<65521∧y<65521∧sums.ad x y (bs.drop i)=sums.ad 1 0 bs∧Fr [] w wr);case atStart=>exact⟨0,1,0,rfl,rfl,rfl,by omega,by decide,by decide,rfl,Fr.refl _ _⟩
 case round=>
  obtain⟨i,x,y,rfl,rfl,rfl,hik,hx,hy,he,hf⟩:=hrel;have H:=zhd2 he hf;clear he hf;by_cases hi:i<L
  ·obtain⟨k,rfl⟩:∃k,gk=k+1:=⟨gk-1,by omega⟩;have hix:=HI.l1 i hi;have hil:i<bs.length:=by rw[<-HI.o0];exact hi
   have hT:sums.ad ((x+(bs[i]?.getD 0).toNat)%65521) ((y+(x+(bs[i]?.getD 0).toNat)%65521)%65521) (bs.drop (i+1))=sums.ad 1 0 bs:=by rw[<-H.o0,qbm hil,qaf hil];rfl
   have hb:=qbo (bs[i]?.getD 0);generalize (bs[i]?.getD 0).toNat=b at *;have HT:=zhd hT;clear hT hil;go_wp2;go_roundg k;case measure=>omega
   case rel=>exact⟨i+1,(x+b)%65521,(y+(x+b)%65521)%65521,by go_num,by go_num,by go_num,by omega,qd4 _ (by decide),qd4 _ (by decide),HT.out,H.l1⟩
  ·obtain rfl:i=L:=by omega
   have ha:sums.adler bs=y*65536+x:=by have h1:=H.o0;rw[HI.o0,List.drop_length]at h1;unfold sums.adler;rw[<-h1];rfl
   have HA:=zhd ha;clear ha;obtain⟨z,hz⟩:=zex (y*65536+x);have r1:bits .or .u32 ((y:Int)*65536) (x:Int)=(z:Int):=by have:=sums.qk3 (y*65536) x 16 (by omega) (by decide) (by omega) (by omega);rw[<-hz]at this;simpa using this
   have HZ:=zhd hz;clear hz;go_wp2;go_ret;exact⟨by rw[HA.out,<-HZ.out];rfl,H.l1⟩
end Go.Proofs.YtbabjlohkniciaaGreatDoor.crc
namespace Go.Proofs.YtbabjlohkniciaaGreatDoor.lib
open Go Go.RowKit
theorem Fr.setRow {S:List Nat} {a w:World} (h:Fr S a w) {g:Nat} (hg:g∈S∨a.heap.size≤g) (cs:Array Value):Fr S a (w.setRow g cs):=
 h.step (T:=[g]) ⟨rfl,rfl,rfl,by rw[setRow_size];exact qag _,λk _ hn=>setRow_other w g k cs (by simpa using hn)⟩ (by simpa using hg)
end Go.Proofs.YtbabjlohkniciaaGreatDoor.lib
