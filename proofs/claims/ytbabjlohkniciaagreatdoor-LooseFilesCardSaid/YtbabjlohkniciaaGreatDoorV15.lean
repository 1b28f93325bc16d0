/-
  Texts of this proof, one behind the other: InfK, InfU, InfZL, InfZ, TripE, InfM, PackLaw, WrB, CloneB, HexB, CrcLaw, RIdx, Unhex, HexLaw, UnhexA.
-/
import Derived.Test.YtbabjlohkniciaaGreatDoorV12
import Derived.Test.YtbabjlohkniciaaGreatDoorV14
import Derived.Lib.SliceRun
import Derived.Laws.MakeOwn
set_option maxHeartbeats 16000000
set_option maxRecDepth 100000
set_option linter.unusedVariables false
set_option linter.unusedSimpArgs false
namespace Go.Proofs.YtbabjlohkniciaaGreatDoor.inf
open Go Go.RowKit lib bm bl huf
theorem info3:(Tryz.prog.info? 155).map (·.size)=some 3:=by kernel_rfl
theorem qvu {fn:Func} {p:Tmp} (h:fn.results=#[.cell p 155]) (tmps:Array Value) (w:World) (g:Nat) (cs:Array Value) (fr:Nat×Nat)
  (hp:tmps.getD p undef = .pointer (some ⟨g,0,none⟩)) (hg:w.heap[g]?=some (.cells cs 155 fr)) (hs:cs.size=3):(results fn tmps).run Tryz.prog w = .ok (.agg cs) w:=
 results_cell_row h tmps w g 155 cs fr _ hp hg Tryz.underlying155 rfl (by rw[info3,hs])
def kindV:Array Value:=#[.func (.func 143) #[] #[],.func (.func 144) #[] #[],.func (.func 145) #[] #[]]
theorem qwo (w:World):Calls Tryz.prog 95 #[] w λe w'=>e = .returned (.agg kindV)∧Fr [] w w':=by go_enter Tryz.func95,Tryz.ntmps95;go_wp2_with (refine wpList_store_row rfl 155 (.tmp 0) (.tmp 1) rfl w.heap.size kindV rfl rfl 155 #[.nilFunc,.nilFunc,.nilFunc] (heap_alloc_last w _) info3 rfl (by kernel_rfl) ?_;rw[World.setRow_alloc_new]);simp only[Act.put];refine bodyPost_ret (qvu rfl _ _ w.heap.size kindV (0,0) rfl (qa4 w _) rfl) rfl ?_;exact⟨rfl,(Fr.refl [] w).alloc _⟩
def iend (x:Except Nat (List UInt8×Nat)):Except Nat (List UInt8×Nat):=match x with
 | .error e=>.error e
 | .ok (o,a)=>.ok (o,(a+7)/8)
theorem qsj (bs:List UInt8) (m:Nat):iraw bs m=iend (irawF bs m (fuel bs) [] 0):=rfl
def RawGood (w:World) (m:Except Nat (List UInt8×Nat)) (e:Ending) (w':World):Prop:=
 (∃c,m = .error c∧0<c∧c<100∧e = .returned (.tuple #[.slice none 0 0,.int .i64 0,.int .i64 (c:Nat)])∧Fr [] w w')∨
 (∃out used ao,m = .ok (out,used)∧e = .returned (.tuple #[.slice ao out.length out.length,.int .i64 (used:Nat),.int .i64 0])∧lib.Rd w' ao out.length out∧(∀x∈blk ao,w.heap.size≤x∧x<w'.heap.size)∧Fr [] w w')
theorem qqh (a:Option Addr) (cap:Nat) (bs:List UInt8) (m:Nat) (w:World) (h:lib.Rd w a cap bs) (hlen:bs.length≤100000000) (hm8:m≤100000000) :
  Calls Tryz.prog 58 #[.slice a bs.length cap,.int .i64 m] w (RawGood w (iraw bs m)):=by
 have hread:=bits.qr2 a cap bs w h.cs h.le h.nil (by omega);obtain⟨M,hM⟩:=zex (iraw bs m);rw[<-hM];have H:=zhd3 hread hM hlen;clear h hread hM hlen;go_enter Tryz.func58,Tryz.ntmps58;go_upto_block 0 with (go_at_call 93;refine H.o0.mono ?_;rintro e w1 ⟨p,F,rfl,hrd,f1,hF⟩;have K1:=zhd3 hrd f1 hF;clear hrd f1 hF);obtain⟨R,hR⟩:=zex w1.heap.size;go_wp2;rw[<-hR];obtain⟨w2,hw2⟩:∃w2,w2=w1.alloc (.cells #[.pointer (some ⟨p,0,none⟩),.slice none 0 0,.int .i64 (m:Nat)] 150):=⟨_,rfl⟩;have f2:Fr [] w1 w2:=by rw[hw2];exact (Fr.refl [] w1).alloc _
 have S2:St w2 R p F bs 0 [] none 0 m:=by
  refine⟨by rw[hw2,hR];exact qa4 w1 _,bits.qf9 K1.o0 f2 (by simp),qch _ _ _ _,λhx=>?_,by simp[blk],by simp[blk],λx hx=>?_,hm8,H.l2,by simp⟩
  ·have:=(K1.l2 R hx).2;omega
  ·exact qal (K1.l2 x hx).2 f2.size
 have hRw:w.heap.size≤R:=by rw[hR];exact K1.o1.size
 have hpw:w.heap.size≤p:=(K1.l2 p S2.pF.1).1;rw[<-hw2];clear hw2 hR;obtain⟨M0,hM0⟩:=zex (irawF bs m (fuel bs) [] 0);have hM:M=iend M0:=by rw[H.o1,hM0,qsj]
 have B0:∀(w':World) (a':Nat) (out':List UInt8) (oa':Option Addr) (oc':Nat),St w' R p F bs a' out' oa' oc' m→Calls Tryz.prog 143 #[.pointer (some ⟨R,0,none⟩)] w' (Ret w' R p F bs oa' m (iblock bs m 0 out' a')):=λw' a' out' oa' oc' s=>by unfold iblock;rw[if_pos rfl];exact qte R p F bs out' a' oc' m oa' w' s
 have B1:∀(w':World) (a':Nat) (out':List UInt8) (oa':Option Addr) (oc':Nat),St w' R p F bs a' out' oa' oc' m→Calls Tryz.prog 144 #[.pointer (some ⟨R,0,none⟩)] w' (Ret w' R p F bs oa' m (iblock bs m 1 out' a')):=λw' a' out' oa' oc' s=>by unfold iblock;rw[if_neg (by decide),if_pos rfl];exact qxi R p F bs out' a' oc' m oa' w' s
 have B2:∀(w':World) (a':Nat) (out':List UInt8) (oa':Option Addr) (oc':Nat),St w' R p F bs a' out' oa' oc' m→Calls Tryz.prog 145 #[.pointer (some ⟨R,0,none⟩)] w' (Ret w' R p F bs oa' m (iblock bs m 2 out' a')):=λw' a' out' oa' oc' s=>by unfold iblock;rw[if_neg (by decide),if_neg (by decide)];exact qq9 R p F bs out' a' oc' m oa' w' s
 have T1:∀(w':World) (a':Nat) (out':List UInt8) (oa':Option Addr) (oc':Nat),St w' R p F bs a' out' oa' oc' m→Calls Tryz.prog 94 #[.pointer (some ⟨R,0,none⟩),.int .i64 1] w' (RetV w' R p F bs out' oa' oc' m (itake bs a' 1)):=λw' a' out' oa' oc' s=>qfc R p F bs out' a' oc' m 1 oa' w' s (by decide)
 have T2:∀(w':World) (a':Nat) (out':List UInt8) (oa':Option Addr) (oc':Nat),St w' R p F bs a' out' oa' oc' m→Calls Tryz.prog 94 #[.pointer (some ⟨R,0,none⟩),.int .i64 2] w' (RetV w' R p F bs out' oa' oc' m (itake bs a' 2)):=λw' a' out' oa' oc' s=>qfc R p F bs out' a' oc' m 2 oa' w' s (by decide)
 have HB:=zhd5 B0 B1 B2 T1 T2;have HK:=zhd6 S2 (K1.o1.trans f2) hRw hpw hM0 hM;clear B0 B1 B2 T1 T2 S2 f2 hRw hpw hM0 hM;go_loopg [4,5,6,8,9] (fuel bs) (λk s4 s5 s6 s8 s9 wr=>∃(last a1:Nat) (out1:List UInt8) (oa1:Option Addr) (oc1:Nat),s8 = .int .i64 (last:Nat)∧St wr R p F bs a1 out1 oa1 oc1 m∧Way w2 R p none wr oa1∧(last=0→irawF bs m k out1 a1=M0∧8*bs.length+1≤a1+k)∧(last≠0→M0 = .ok (out1,a1)));case atStart=>exact⟨0,0,[],none,0,rfl,HK.o0,.refl _ _ _ _,λ_=>⟨HK.o4.symm,by unfold fuel;omega⟩,λh=>absurd rfl h⟩
 case round=>
  obtain⟨last,a1,out1,oa1,oc1,rfl,hst,hway,hl0,hl1⟩:=hrel;have hup:∀(w':World),Fr (R::p::blk oa1) wr w'→Fr [] w w':=λw' f=>by
   have f1:Fr (R::p::blk none) w2 w':=hway.frW f;refine HK.o1.step f1 (λx hx=>.inr ?_);simp only[qaw,blk,qby,or_false]at hx;rcases hx with rfl|rfl
   ·exact HK.o2
   ·exact HK.o3
  by_cases hl:last=0
  ·subst hl;obtain⟨hir,hfu⟩:=hl0 rfl;have ha8:=hst.pF.2;obtain⟨k,rfl⟩:∃k,gk=k+1:=⟨gk-1,by omega⟩;have HJ:=zhd4 hst hway hir hfu;have HU:=zhd hup;clear hst hway hl0 hl1 hir hfu hup;have ix0:∀w:World,(Instr.index 155 (.agg #[.func (.func 143) #[] #[],.func (.func 144) #[] #[],.func (.func 145) #[] #[]]) (.int .i64 0)).run Tryz.prog w = .ok (.func (.func 143) #[] #[]) w:=λ_=>by kernel_rfl
   have ix1:∀w:World,(Instr.index 155 (.agg #[.func (.func 143) #[] #[],.func (.func 144) #[] #[],.func (.func 145) #[] #[]]) (.int .i64 1)).run Tryz.prog w = .ok (.func (.func 144) #[] #[]) w:=λ_=>by kernel_rfl
   have ix2:∀w:World,(Instr.index 155 (.agg #[.func (.func 143) #[] #[],.func (.func 144) #[] #[],.func (.func 145) #[] #[]]) (.int .i64 2)).run Tryz.prog w = .ok (.func (.func 145) #[] #[]) w:=λ_=>by kernel_rfl
   go_wp2_with (first
    | (go_at_call 94;(with_reducible refine (HB.o3 wr a1 out1 oa1 oc1 HJ.out.1).mono ?_);rintro e w3 (⟨v,c,hm,hc0,hc1,rfl,f3⟩|⟨last,a2,hm,rfl,s3,f3⟩);all_goals (try (have hv1:=qcp hm;have K3:=zhd3 hm s3 f3;clear hm s3 f3)))
    | (go_at_call 94;(with_reducible refine (HB.l4 w3 a2 out1 oa1 oc1 K3.o1).mono ?_);rintro e w4 (⟨v,c,hm,hc0,hc1,rfl,f4⟩|⟨h,a3,hm,rfl,s4,f4⟩);rotate_left;(have hv2:=qcp hm;rcases (show h=0∨h=1∨h=2∨h=3 by omega) with rfl|rfl|rfl|rfl);all_goals (try (have K4:=zhd3 hm s4 f4;clear hm s4 f4)))
    | (go_at_call 95;refine (qwo w4).mono ?_;rintro e w5 ⟨he,f5⟩;unfold kindV at he;subst he;have K5:=zhd f5;clear f5)
    | (go_at_call 143;refine (HB.o0 w5 a3 out1 oa1 oc1 (K4.o1.fr0 K5.out)).mono ?_;rintro e w6 (⟨c,hm,hc0,hc1,rfl,f6⟩|⟨o6,a6,oa6,oc6,hm,rfl,s6,f6⟩);all_goals (have Km:=zhd hm;clear hm);all_goals (try (have K6:=zhd2 s6 f6;clear s6 f6)))
    | (go_at_call 144;refine (HB.o1 w5 a3 out1 oa1 oc1 (K4.o1.fr0 K5.out)).mono ?_;rintro e w6 (⟨c,hm,hc0,hc1,rfl,f6⟩|⟨o6,a6,oa6,oc6,hm,rfl,s6,f6⟩);all_goals (have Km:=zhd hm;clear hm);all_goals (try (have K6:=zhd2 s6 f6;clear s6 f6)))
    | (go_at_call 145;refine (HB.o2 w5 a3 out1 oa1 oc1 (K4.o1.fr0 K5.out)).mono ?_;rintro e w6 (⟨c,hm,hc0,hc1,rfl,f6⟩|⟨o6,a6,oa6,oc6,hm,rfl,s6,f6⟩);all_goals (have Km:=zhd hm;clear hm);all_goals (try (have K6:=zhd2 s6 f6;clear s6 f6))))
   ·go_ret3;refine .inl ⟨c,?_,hc0,hc1,rfl,HU.out _ f3⟩;rw[HK.l5,<-HJ.out.2.2.1,irawF];simp only[hm];rfl
   ·go_ret3;refine .inl ⟨c,?_,hc0,hc1,rfl,HU.out _ ((K3.l2.trans (K4.l2.trans (K5.out.mono (by simp)))).mono (by simp) |>.trans f6)⟩;rw[HK.l5,<-HJ.out.2.2.1,irawF];simp only[K3.o0,K4.o0,if_neg (show ¬0=3 by decide),Km.out];rfl
   ·go_roundg k;case measure=>omega
    case rel=>
     have h1:=qd1 K3.o0;have h2:=qd1 K4.o0;have h3:=qic Km.out;have hfu:=HJ.out.2.2.2;have hst:irawF bs m (k+1) out1 a1=if last=0 then irawF bs m k o6 a6 else .ok (o6,a6):=by rw[irawF];simp only[K3.o0,K4.o0,if_neg (show ¬0=3 by decide),Km.out]
     rw[HJ.out.2.2.1]at hst;refine⟨last,a6,o6,oa6,oc6,rfl,K6.o0,(HJ.out.2.1.trans (Way.of _ _ _ _ _ (K3.l2.trans (K4.l2.trans (K5.out.mono (by simp)))))).trans K6.l1,λh0=>⟨?_,by omega⟩,λh0=>?_⟩
     ·rw[if_pos h0]at hst;exact hst.symm
     ·rw[if_neg h0]at hst;exact hst
   ·go_ret3;refine .inl ⟨c,?_,hc0,hc1,rfl,HU.out _ ((K3.l2.trans (K4.l2.trans (K5.out.mono (by simp)))).mono (by simp) |>.trans f6)⟩;rw[HK.l5,<-HJ.out.2.2.1,irawF];simp only[K3.o0,K4.o0,if_neg (show ¬1=3 by decide),Km.out];rfl
   ·go_roundg k;case measure=>omega
    case rel=>
     have h1:=qd1 K3.o0;have h2:=qd1 K4.o0;have h3:=qic Km.out;have hfu:=HJ.out.2.2.2;have hst:irawF bs m (k+1) out1 a1=if last=0 then irawF bs m k o6 a6 else .ok (o6,a6):=by rw[irawF];simp only[K3.o0,K4.o0,if_neg (show ¬1=3 by decide),Km.out]
     rw[HJ.out.2.2.1]at hst;refine⟨last,a6,o6,oa6,oc6,rfl,K6.o0,(HJ.out.2.1.trans (Way.of _ _ _ _ _ (K3.l2.trans (K4.l2.trans (K5.out.mono (by simp)))))).trans K6.l1,λh0=>⟨?_,by omega⟩,λh0=>?_⟩
     ·rw[if_pos h0]at hst;exact hst.symm
     ·rw[if_neg h0]at hst;exact hst
   ·go_ret3;refine .inl ⟨c,?_,hc0,hc1,rfl,HU.out _ ((K3.l2.trans (K4.l2.trans (K5.out.mono (by simp)))).mono (by simp) |>.trans f6)⟩;rw[HK.l5,<-HJ.out.2.2.1,irawF];simp only[K3.o0,K4.o0,if_neg (show ¬2=3 by decide),Km.out];rfl
   ·go_roundg k;case measure=>omega
    case rel=>
     have h1:=qd1 K3.o0;have h2:=qd1 K4.o0;have h3:=qic Km.out;have hfu:=HJ.out.2.2.2;have hst:irawF bs m (k+1) out1 a1=if last=0 then irawF bs m k o6 a6 else .ok (o6,a6):=by rw[irawF];simp only[K3.o0,K4.o0,if_neg (show ¬2=3 by decide),Km.out]
     rw[HJ.out.2.2.1]at hst;refine⟨last,a6,o6,oa6,oc6,rfl,K6.o0,(HJ.out.2.1.trans (Way.of _ _ _ _ _ (K3.l2.trans (K4.l2.trans (K5.out.mono (by simp)))))).trans K6.l1,λh0=>⟨?_,by omega⟩,λh0=>?_⟩
     ·rw[if_pos h0]at hst;exact hst.symm
     ·rw[if_neg h0]at hst;exact hst
   ·go_ret3;refine .inl ⟨3,?_,by decide,by decide,rfl,HU.out _ ((K3.l2.trans K4.l2).mono (by simp))⟩;rw[HK.l5,<-HJ.out.2.2.1,irawF];simp only[K3.o0,K4.o0,if_pos];rfl
   ·go_ret3;refine .inl ⟨c,?_,hc0,hc1,rfl,HU.out _ ((K3.l2.mono (by simp)).trans f4)⟩;rw[HK.l5,<-HJ.out.2.2.1,irawF];simp only[K3.o0,hm];rfl
  ·have hM:M = .ok (out1,(a1+7)/8):=by rw[HK.l5,hl1 hl];rfl
   have c0:=cell_of hst.box 0;have c1:=cell_of hst.box 1;simp only[qae,qaa,qad]at c0 c1;obtain⟨N,hN⟩:=zex out1.length;rw[<-hN]at c1;obtain⟨hro,hrl⟩:=qiz hst.own;have hle:=hro.le;rw[<-hN]at hle;have hsl:=λw=>qfl bits.sliceU8 N oa1 oc1 hle w
   have hus:∀w',Fr [] wr w'→Calls Tryz.prog 96 #[.pointer (some ⟨p,0,none⟩)] w' λe w''=>e = .returned (.int .i64 ((a1+7)/8:Nat))∧w''=w':=λw' f'=>(bits.qm7 p F bs a1 w' (bits.qf9 hst.rd f' (by simp))).mono λe w'' h=>⟨h.1,h.2.symm⟩
   obtain⟨u,hu⟩:=zex ((a1+7)/8);rw[<-hu]at hM hus;have hNm:N≤m:=by rw[hN];exact hst.om
   have hl9:((last:Int)==0)=false:=by simp;omega
   have HJ:=zhd6 hst hway hM hN hro hus;have HU:=zhd hup;clear hst hway hl0 hl1 hup hM hN hro hrl hus hu;go_upto_region 16 with fail;go_quiet (exact qbz (HJ.out.2.2.2.2.2 _ (Fr.drewN [] _ _)));go_wp2;go_ret3;have hN:=HJ.out.2.2.2.1;have hro:=HJ.out.2.2.2.2.1;refine .inr ⟨out1,u,oa1,HJ.out.2.2.1,by rw[hN];rfl,?_,λx hx=>⟨?_,?_⟩,HU.out _ (Fr.drewN _ _ _)⟩
   ·have h1:lib.Rd wr oa1 out1.length out1:=⟨hro.cs,qag _,qan hro.le hro.max,λh=>by have:=hro.nil h;have:=hro.le;omega⟩;exact h1.fr (Fr.drewN _ _ _)
   ·rcases HJ.out.2.1.new x hx with h1|h1
    ·simp[blk]at h1
    ·exact qan HK.o1.size h1
   ·exact qd3 HJ.out.1.own (qdv hx)
end Go.Proofs.YtbabjlohkniciaaGreatDoor.inf
namespace Go.Proofs.YtbabjlohkniciaaGreatDoor.inf
open Go bm bl huf
theorem qi3 {bs:List UInt8} {a n v a1:Nat} (h:itake bs a n = .ok (v,a1)):a1≤8*bs.length:=by
 unfold itake at h;split at h
 ·simp only[qa3,qa1]at h;omega
 ·cases h
theorem qxa (ls:List Nat):∀(f n v:Nat) (bits:List Bool),(hread ls f n v bits).2.1≤n+bits.length
 | 0,n,v,bits=>by
  cases h:hsym ls n v with
  | some s=>rw[qej h];simp
  | none=>rw[qid h];simp
 | f+1,n,v,bits=>by
  cases h:hsym ls n v with
  | some s=>rw[qej h];simp
  | none=>
   by_cases hm:hmore ls n v=true
   ·cases bits with
    | nil=>rw[qfz h hm];simp
    | cons b t=>rw[qe4 h hm];have:=qxa ls f (n+1) (2*v+b2n b) t;simp only[qam];omega
   ·rw[qf0 h (by simpa using hm)];simp
theorem qwq {bs:List UInt8} {ls:List Nat} {a s a1:Nat} (ha:a≤8*bs.length) (h:isym bs ls a = .ok (s,a1)):a1≤8*bs.length:=by
 unfold isym at h;split at h
 ·have:=qxa ls 15 0 0 ((bytesBits bs).drop a);rw[qau,qbk]at this;simp only[qa3,qa1]at h;omega
 ·cases h
theorem qso {bs:List UInt8} {most:Nat}:∀{n:Nat} {out o:List UInt8} {q a:Nat},q≤bs.length→ibytes bs most n out q = .ok (o,a)→a≤8*bs.length
 | 0,out,o,q,a,hq,h=>by simp only[ibytes,qa3,qa1]at h;omega
 | n+1,out,o,q,a,hq,h=>by
  rw[ibytes]at h;split at h
  ·split at h
   ·cases h
   ·exact qso (by omega) h
  ·cases h
theorem qwr {bs:List UInt8} {most a a1:Nat} {out o:List UInt8} (h:istored bs most out a = .ok (o,a1)):a1≤8*bs.length:=by
 unfold istored at h;split at h
 ·split at h
  ·exact qso (by omega) h
  ·cases h
 ·cases h
theorem qw3 {bs:List UInt8} {s a n a1:Nat} (ha:a≤8*bs.length) (h:ilength bs s a = .ok (n,a1)):a1≤8*bs.length:=by
 unfold ilength at h;split at h
 ·simp only[qa3,qa1]at h;omega
 ·split at h
  ·simp only[qa3,qa1]at h;omega
  ·split at h
   ·cases h
   ·rename_i hh;have:=qi3 hh;simp only[qa3,qa1]at h;omega
theorem zct {bs:List UInt8} {s a n a1:Nat} (ha:a≤8*bs.length) (h:idist bs s a = .ok (n,a1)):a1≤8*bs.length:=by
 unfold idist at h;split at h
 ·simp only[qa3,qa1]at h;omega
 ·split at h
  ·cases h
  ·rename_i hh;have:=qi3 hh;simp only[qa3,qa1]at h;omega
theorem qz7 {bs:List UInt8} {most:Nat} {dl:List Nat} {s a a1:Nat} {out o:List UInt8} (ha:a≤8*bs.length) (h:imatch bs most dl s out a = .ok (o,a1)):a1≤8*bs.length:=by
 unfold imatch at h;split at h
 ·cases h
 ·rename_i n a2 h1;have e1:=qw3 ha h1;split at h
  ·cases h
  ·rename_i d a3 h2;have e2:=qwq e1 h2;split at h
   ·cases h
   ·split at h
    ·cases h
    ·rename_i b a4 h3;have e3:=zct e2 h3;split at h
     ·cases h
     ·split at h
      ·cases h
      ·simp only[qa3,qa1]at h;omega
theorem qnu {bs:List UInt8} {most:Nat} {ll dl:List Nat}:∀{f:Nat} {out o:List UInt8} {a a1:Nat},a≤8*bs.length→isyms bs most ll dl f out a = .ok (o,a1)→a1≤8*bs.length
 | 0,out,o,a,a1,_,h=>by simp only[isyms]at h;cases h
 | f+1,out,o,a,a1,ha,h=>by
  rw[isyms]at h;split at h
  ·cases h
  ·rename_i s a2 hs;have h1:=qwq ha hs;split at h
   ·split at h
    ·cases h
    ·exact qnu h1 h
   ·split at h
    ·simp only[qa3,qa1]at h;omega
    ·split at h
     ·cases h
     ·split at h
      ·cases h
      ·rename_i o2 a3 hm;exact qnu (qz7 h1 hm) h
theorem qsn {bs:List UInt8}:∀{ps fs gs:List Nat} {a a1:Nat},a≤8*bs.length→ifirst bs ps fs a = .ok (gs,a1)→a1≤8*bs.length
 | [],fs,gs,a,a1,ha,h=>by simp only[ifirst,qa3,qa1]at h;omega
 | i::t,fs,gs,a,a1,ha,h=>by
  rw[ifirst]at h;split at h
  ·cases h
  ·rename_i v a2 hm;exact qsn (qi3 hm) h
theorem qq3 {bs:List UInt8} {ls:List Nat} {n:Nat}:∀{f:Nat} {L K:List Nat} {a a1:Nat},a≤8*bs.length→ilens bs ls n f L a = .ok (K,a1)→a1≤8*bs.length
 | 0,L,K,a,a1,_,h=>by simp only[ilens]at h;cases h
 | f+1,L,K,a,a1,ha,h=>by
  rw[ilens]at h;split at h
  ·simp only[qa3,qa1]at h;omega
  ·split at h
   ·cases h
   ·rename_i s a2 hs;have h1:=qwq ha hs;split at h
    ·exact qq3 h1 h
    ·split at h
     ·cases h
     ·rename_i v a3 hm;split at h
      ·cases h
      ·exact qq3 (qi3 hm) h
theorem zdm {bs:List UInt8} {most a a1:Nat} {out o:List UInt8} (h:idyn bs most out a = .ok (o,a1)):a1≤8*bs.length:=by
 unfold idyn at h;split at h
 ·cases h
 ·split at h
  ·cases h
  ·split at h
   ·cases h
   ·split at h
    ·cases h
    ·split at h
     ·cases h
     ·rename_i v3 b3 h3;have e3:=qi3 h3;unfold idyn2 at h;split at h
      ·cases h
      ·rename_i fs b4 h4;have e4:=qsn e3 h4;split at h
       ·cases h
       ·unfold idyn3 at h;split at h
        ·cases h
        ·rename_i ls b5 h5;have e5:=qq3 e4 h5;split at h
         ·cases h
         ·split at h
          ·cases h
          ·split at h
           ·cases h
           ·exact qnu e5 h
theorem zab {bs:List UInt8} {most k a a1:Nat} {out o:List UInt8} (ha:a≤8*bs.length) (h:iblock bs most k out a = .ok (o,a1)):a1≤8*bs.length:=by
 unfold iblock at h;split at h
 ·exact qwr h
 ·split at h
  ·exact qnu ha h
  ·exact zdm h
theorem qwv {bs:List UInt8} {most:Nat}:∀{f a a1:Nat} {out o:List UInt8},irawF bs most f out a = .ok (o,a1)→a1≤8*bs.length
 | 0,a,a1,out,o,h=>by simp only[irawF]at h;cases h
 | f+1,a,a1,out,o,h=>by
  rw[irawF]at h;split at h
  ·cases h
  ·split at h
   ·cases h
   ·rename_i k a2 h2;split at h
    ·cases h
    ·split at h
     ·cases h
     ·rename_i o2 a3 h3;split at h
      ·exact qwv h
      ·simp only[qa3,qa1]at h;have:=zab (qi3 h2) h3;omega
theorem zbc {bs out:List UInt8} {m n:Nat} (h:iraw bs m = .ok (out,n)):n≤bs.length:=by
 unfold iraw at h;split at h
 ·cases h
 ·rename_i o a hr;have:=qwv hr;simp only[qa3,qa1]at h;omega
open Go.RowKit lib
def zhead (x0 x1:Nat):Bool:=(x0%16==8)&&(decide (x0/16≤7)&&(((x0*256+x1)%31==0)&&(x1/32%2==0)))
def be32 (bs:List UInt8) (q:Nat):Nat:=byteAt bs q*16777216+byteAt bs (q+1)*65536+byteAt bs (q+2)*256+byteAt bs (q+3)
def izlib (bs:List UInt8) (m:Nat):Except Nat (List UInt8×Nat):=
 if bs.length<2 then .error 4 else if zhead (byteAt bs 0) (byteAt bs 1)=false then .error 3 else
 match iraw (bs.drop 2) m with
 | .error e=>.error e
 | .ok (out,n)=>if bs.length-(n+2)<4 then .error 4 else if be32 bs (n+2)=sums.adler out then .ok (out,n+6) else .error 6
theorem u8_and15 (x:Nat) (h:x<256):bits .and .u8 ((x:Nat):Int) 15=((x%16:Nat):Int):=by
 have hall:∀y:Fin 256,bits .and .u8 ((y.val:Nat):Int) 15=((y.val%16:Nat):Int):=by decide +kernel
 exact hall ⟨x,h⟩
theorem qrq (x:Nat) (h:x<256):bits .and .u8 ((x:Nat):Int) 32=((x/32%2*32:Nat):Int):=by
 have hall:∀y:Fin 256,bits .and .u8 ((y.val:Nat):Int) 32=((y.val/32%2*32:Nat):Int):=by decide +kernel
 exact hall ⟨x,h⟩
theorem qgq {w:World} {a:Option Addr} {cap:Nat} {bs:List UInt8} (h:lib.Rd w a cap bs) {i:Nat} (hi:i<bs.length):∃g o,a=some ⟨g,o,none⟩∧w.cell? ⟨g,o+i,none⟩=some (.int .u8 (byteAt bs i:Nat)):=by obtain⟨g,o,ha,hc⟩:=h.at hi;refine⟨g,o,ha,?_⟩;rw[hc];unfold byteAt;rw[qaf hi];rfl
theorem qyt (a:Option Addr) (cap:Nat) (bs:List UInt8) (m:Nat) (w:World) (h:lib.Rd w a cap bs) (hlen:bs.length≤100000000) (hm8:m≤100000000) :
  Calls Tryz.prog 31 #[.slice a bs.length cap,.int .i64 m] w (RawGood w (izlib bs m)):=by
 obtain⟨L,hL⟩:=zex bs.length;obtain⟨M,hM⟩:=zex (izlib bs m);rw[<-hM];by_cases h2:bs.length<2
 ·have hM4:M = .error 4:=by rw[hM];unfold izlib;rw[if_pos h2]
  rw[<-hL]at h2 ⊢;have d0:decide ((L:Int)<2)=true:=by simp;omega
  have HM:=zhd hM4;clear h hL hM hM4 hlen h2;go_enter Tryz.func31,Tryz.ntmps31;go_wp2;go_ret3;exact .inl ⟨4,HM.out,by decide,by decide,rfl,Fr.refl _ _⟩
 ·obtain⟨g,o,rfl,c0⟩:=qgq h (i:=0) (by omega);obtain⟨g',o',ha',c1⟩:=qgq h (i:=1) (by omega);simp only[qas,qcg,and_true]at ha';obtain⟨rfl,rfl⟩:=ha';rw[qb5]at c0;obtain⟨x0,hx0⟩:∃x,x=byteAt bs 0:=⟨_,rfl⟩;obtain⟨x1,hx1⟩:∃x,x=byteAt bs 1:=⟨_,rfl⟩;have b0:x0<256:=by rw[hx0];exact qcf _ _
  have b1:x1<256:=by rw[hx1];exact qcf _ _
  rw[<-hx0]at c0;rw[<-hx1]at c1;have hM1:M=if zhead x0 x1=false then .error 3 else match iraw (bs.drop 2) m with
    | .error e=>.error e
    | .ok (out,n)=>if bs.length-(n+2)<4 then .error 4 else if be32 bs (n+2)=sums.adler out then .ok (out,n+6) else .error 6:=by
   rw[hM];unfold izlib;rw[if_neg h2,<-hx0,<-hx1]
   all_goals rfl
  have hle:=h.le;have hmx:=h.max;have hr2:lib.Rd w (cutAtN (some ⟨g,o,none⟩) cap 2 1) (cap-2) (bs.drop 2):=h.drop 2 (by omega);have hraw:∀w',Fr [] w w'→Calls Tryz.prog 58 #[.slice (cutAtN (some ⟨g,o,none⟩) cap 2 1) (L-2:Nat) (cap-2),.int .i64 m] w' (RawGood w' (iraw (bs.drop 2) m)):=λw' f=>by have:=qqh _ (cap-2) (bs.drop 2) m w' (hr2.fr f) (by rw[qau];omega) hm8;rwa [qau,<-hL]at this
  have hsl:=lib.qdb bits.sliceU8 2 (some ⟨g,o,none⟩) L cap 2 rfl (by omega) (by omega);rw[<-hL]at h2 hle ⊢;have d0:decide ((L:Int)<2)=false:=by simp;omega
  obtain⟨y0,hy0⟩:∃y,y=x0%16:=⟨_,rfl⟩;obtain⟨y1,hy1⟩:∃y,y=x0/16:=⟨_,rfl⟩;obtain⟨z,hz⟩:=zex (x0*256+x1);obtain⟨y2,hy2⟩:∃y,y=z%31:=⟨_,rfl⟩;obtain⟨y3,hy3⟩:∃y,y=x1/32%2*32:=⟨_,rfl⟩;have e0:=u8_and15 x0 b0;have e3:=qrq x1 b1;rw[<-hy0]at e0;rw[<-hy3]at e3;have e1:(x0:Int)/16=(y1:Int):=by omega
  have eor:bits .or .i64 ((x0:Int)*256) (x1:Int)=(z:Int):=by have:=zcv x0 x1 8 (by decide) (by simpa using b1) (by omega);rw[hz];simpa using this
  have erem:Int.tmod (z:Int) 31=(y2:Int):=by rw[Int.tmod_eq_emod_of_nonneg (by omega)];omega
  have eemod:(z:Int)%31=(y2:Int):=by omega
  have hzh:zhead x0 x1=((y0==8)&&(decide (y1≤7)&&((y2==0)&&(y3==0)))):=by unfold zhead;rw[<-hy0,<-hy1,<-hz,<-hy2];congr 3;rw[quy,beq_iff_eq,beq_iff_eq];omega
  have i0:(0:Int)<(L:Int):=by omega
  have i1:(1:Int)<(L:Int):=by omega
  have hyb:y0<256∧y1<256∧y3<256∧z<65536∧y2<31:=by omega
  have H:=zhd6 h hlen hL hM1 hraw hzh;clear h hlen hL hM1 hraw hzh hM hx0 hx1 hy0 hy1 hy2 hy3 hz hr2 h2;go_enter Tryz.func31,Tryz.ntmps31;go_upto_region 3 with fail;clear d0;go_cut [43] from 11 to 43 (λs43 wc=>s43 = .bool (!((y0==8)&&(decide (y1≤7)&&((y2==0)&&(y3==0)))))∧Fr [] w wc)
  case first=>
   by_cases k0:y0=8
   ·have t0:((y0:Int)!=8)=false:=by simp;omega
    by_cases k1:y1≤7
    ·have t1:decide ((7:Int)<y1)=false:=by simp;omega
     by_cases k2:y2=0
     ·have t2:((y2:Int)!=0)=false:=by simp;omega
      by_cases k3:y3=0
      ·have t3:((y3:Int)!=0)=false:=by simp;omega
       have K:=zhd4 k0 k1 k2 k3;clear k0 k1 k2 k3;go_quiet (fail);go_wp2;go_meet;case rel=>exact⟨by obtain⟨k0,k1,k2,k3⟩:=K.out;simp[k0,k1,k2,k3],Fr.drewN _ _ _⟩
      ·have t3:((y3:Int)!=0)=true:=by simp;omega
       have K:=zhd k3;clear k0 k1 k2 k3;go_quiet (fail);go_wp2;go_meet;case rel=>exact⟨by have:=K.out;simp[this],Fr.drewN _ _ _⟩
     ·have t2:((y2:Int)!=0)=true:=by simp;omega
      have K:=zhd k2;clear k0 k1 k2;go_quiet (fail);go_wp2;go_meet;case rel=>exact⟨by have:=K.out;simp[this],Fr.drewN _ _ _⟩
    ·have t1:decide ((7:Int)<y1)=true:=by simp;omega
     have K:=zhd k1;clear k0 k1;go_quiet (fail);go_wp2;go_meet;case rel=>exact⟨by have:=K.out;simp[this],Fr.drewN _ _ _⟩
   ·have t0:((y0:Int)!=8)=true:=by simp;omega
    have K:=zhd k0;clear k0;go_quiet (fail);go_wp2;go_meet;case rel=>exact⟨by have:=K.out;simp[this],Fr.drewN _ _ _⟩
  case rest=>
   obtain⟨rfl,f1⟩:=hcut;rw[<-H.out.2.2.2.2.2];obtain⟨bz,hbz⟩:∃b,b=zhead x0 x1:=⟨_,rfl⟩;rw[<-hbz];obtain⟨h1,h2,h3,h4,h5,h6⟩:=H.out;rw[<-hbz]at h4;have HF:=zhd3 f1 h4 (h5 wc f1);clear f1 h4 h5 h6 h1 h2 h3 hbz e0 e1 e3 eor erem eemod hyb c0 c1;cases bz
   ·go_wp2;go_ret3;exact .inl ⟨3,by rw[HF.o1];first|rfl|(rw[if_pos rfl]),by decide,by decide,rfl,HF.o0⟩
   ·obtain⟨qa,hqa⟩:∃q,q=cutAtN (some ⟨g,o,none⟩) cap 2 1:=⟨_,rfl⟩;obtain⟨qc,hqc⟩:∃q,q=cap-2:=⟨_,rfl⟩;obtain⟨qn,hqn⟩:∃q,q=L-2:=⟨_,rfl⟩;rw[<-hqa,<-hqc,<-hqn]at hsl;have hraw:=HF.l2;rw[<-hqa,<-hqc,<-hqn]at hraw;have hM2:M=match iraw (bs.drop 2) m with
      | .error e=>.error e
      | .ok (out,n)=>if bs.length-(n+2)<4 then .error 4 else if be32 bs (n+2)=sums.adler out then .ok (out,n+6) else .error 6:=by
     rw[HF.o1];first|rfl|(rw[if_neg (by decide)])
    have HR:=zhd2 hraw hM2;clear hqa hqc hqn hraw hM2;go_upto_region 6 with (go_at_call 58;refine HR.o0.mono ?_;rintro e w2 (⟨c,hm,k0,k1,rfl,f2⟩|⟨out,n,ao,hm,rfl,rd2,nb2,f2⟩))
    ·have K2:=zhd2 hm f2;have d2:((c:Int)!=0)=true:=by simp;omega
     clear hm f2 hsl;go_wp2;go_ret3;exact .inl ⟨c,by rw[HR.l1,K2.o0],k0,k1,rfl,HF.o0.trans K2.l1⟩
    ·have hnu:=zbc hm;rw[qau,<-H.out.2.2.1]at hnu;obtain⟨n2,hn2⟩:=zex (n+2);have en2:(n:Int)+2=(n2:Int):=by omega
     have hLb:L≤100000000:=by rw[H.out.2.2.1];exact H.out.2.1
     have hnL:n2≤L:=by omega
     have hM3:M=if L-n2<4 then .error 4 else if be32 bs n2=sums.adler out then .ok (out,n2+4) else .error 6:=by rw[HR.l1,hm,hn2,H.out.2.2.1]
     have K2:=zhd5 hM3 rd2 nb2 (HF.o0.trans f2) hn2;clear hm rd2 nb2 f2 hn2 hM3 hsl;by_cases h4:L-n2<4
     ·have d4:decide ((L:Int)-(n2:Int)<4)=true:=by simp;omega
      have H4:=zhd h4;clear h4;go_wp2;go_ret3;exact .inl ⟨4,by rw[K2.o0,if_pos H4.out],by decide,by decide,rfl,K2.out.2.2.2.1⟩
     ·have d4:decide ((L:Int)-(n2:Int)<4)=false:=by simp;omega
      go_upto_region 11 with fail;clear d4 en2;have rdw:=H.out.1.fr K2.out.2.2.2.1;have hbl:bs.length=L:=H.out.2.2.1.symm;obtain⟨g0,o0,q0,c0⟩:=qgq rdw (i:=n2) (by omega);obtain⟨g1,o1,q1,c1⟩:=qgq rdw (i:=n2+1) (by omega);obtain⟨g2,o2,q2,c2⟩:=qgq rdw (i:=n2+2) (by omega);obtain⟨g3,o3,q3,c3⟩:=qgq rdw (i:=n2+3) (by omega);simp only[qas,qcg,and_true]at q0 q1 q2 q3;obtain⟨rfl,rfl⟩:=q0;obtain⟨rfl,rfl⟩:=q1;obtain⟨rfl,rfl⟩:=q2;obtain⟨rfl,rfl⟩:=q3;have l0:=qcf bs n2;have l1:=qcf bs (n2+1);have l2:=qcf bs (n2+2);have l3:=qcf bs (n2+3);have hbe:be32 bs n2=byteAt bs n2*16777216+byteAt bs (n2+1)*65536+byteAt bs (n2+2)*256+byteAt bs (n2+3):=rfl;generalize byteAt bs n2=y0 at *;generalize byteAt bs (n2+1)=y1 at *;generalize byteAt bs (n2+2)=y2 at *;generalize byteAt bs (n2+3)=y3 at *;obtain⟨z1,hz1⟩:∃z,z=y0*16777216+y1*65536:=⟨_,rfl⟩;obtain⟨z2,hz2⟩:∃z,z=z1+y2*256:=⟨_,rfl⟩;obtain⟨z3,hz3⟩:∃z,z=z2+y3:=⟨_,rfl⟩;have r1:bits .or .u32 ((y0:Int)*16777216) ((y1:Int)*65536)=(z1:Int):=by have:=sums.qk3 (y0*16777216) (y1*65536) 24 (by omega) (by decide) (by omega) (by omega);rw[<-hz1]at this;simpa using this
      have r2:bits .or .u32 (z1:Int) ((y2:Int)*256)=(z2:Int):=by have:=sums.qk3 z1 (y2*256) 16 (by omega) (by decide) (by omega) (by omega);rw[<-hz2]at this;simpa using this
      have r3:bits .or .u32 (z2:Int) (y3:Int)=(z3:Int):=by have:=sums.qk3 z2 y3 8 (by omega) (by decide) (by omega) (by omega);rw[<-hz3]at this;exact this
      have hz:be32 bs n2=z3:=by rw[hbe];omega
      have hzb:z3<4294967296:=by omega
      have i0:(n2:Int)<(L:Int):=by omega
      have i1:(n2:Int)+1<(L:Int):=by omega
      have i2:(n2:Int)+2<(L:Int):=by omega
      have i3:(n2:Int)+3<(L:Int):=by omega
      have had:=sums.qp3 ao out.length out w2.drew (K2.l1.1.fr (Fr.drew1 [] w2));obtain⟨N,hN⟩:=zex out.length;obtain⟨A,hA⟩:=zex (sums.adler out);have hAl:A<4294967296:=by rw[hA];exact sums.qhd out
      have hM4:M=if z3=A then .ok (out,n2+4) else .error 6:=by rw[K2.o0,if_neg h4,hz,hA]
      rw[<-hN,<-hA]at had;rw[<-hN];obtain⟨S,hS⟩:∃S:List Nat,S=[]:=⟨_,rfl⟩;have hgS:g∉S:=by rw[hS];simp
      have x0:∀x,(sup S w2.drew x).cell? ⟨g,o+n2,none⟩=some (.int .u8 y0):=λx=>(qes S w2.drew x).cell ((Fr.drew1 [] w2).cell c0 (by simp)) hgS
      have x1:∀x,(sup S w2.drew x).cell? ⟨g,o+(n2+1),none⟩=some (.int .u8 y1):=λx=>(qes S w2.drew x).cell ((Fr.drew1 [] w2).cell c1 (by simp)) hgS
      have x2:∀x,(sup S w2.drew x).cell? ⟨g,o+(n2+2),none⟩=some (.int .u8 y2):=λx=>(qes S w2.drew x).cell ((Fr.drew1 [] w2).cell c2 (by simp)) hgS
      have x3:∀x,(sup S w2.drew x).cell? ⟨g,o+(n2+3),none⟩=some (.int .u8 y3):=λx=>(qes S w2.drew x).cell ((Fr.drew1 [] w2).cell c3 (by simp)) hgS
      have HZ:=zhd4 had hM4 hN hS;clear had hM4 hN hS hA hz hz1 hz2 hz3 hbe hbl rdw c0 c1 c2 c3 h4 hgS;refine qcj 32 [(false,0),(false,1),(false,2),(false,3),(false,4),(false,5),(false,6),(false,7),(false,8),(false,9),(false,10),(false,11),(false,12),(false,13),(false,14),(false,15),(false,16),(false,17),(false,18),(false,19),(false,20),(false,21),(false,22),(false,23),(false,24),(false,25),(false,26),(false,27),(false,28),(false,29),(true,30),(false,31)] S (by kernel_rfl) (by kernel_rfl) (λ_ _ d _ _ h=>by cases d<;>exact h) ?_;simp only[qak,qap,qbh,qbi,qah,qaj,qce];refine qb9 30 rfl ?_;simp only[qai,qao,qah,qaj,qak,qap];repeat (go_big_quiet_step (fail))
      refine wpQuiet_nil ?_;clear x0 x1 x2 x3;refine qc5 rfl ?_;intro X hX;go_wp2_with (go_at_call 50;refine HZ.o0.mono ?_;rintro e w3 ⟨rfl,f3⟩);refine hX.out _ _ (by rw[HZ.l3];exact f3) ?_;clear hX X;refine qb9 1 rfl ?_;simp only[qai,qao,qah,qaj,qak,qap];repeat (go_big_quiet_step (fail))
      refine wpQuiet_nil ?_;refine qc4 ?_;have HF3:=zhd (K2.out.2.2.2.1.trans ((Fr.drew1 [] w2).trans f3));have hf3:=zhd f3;clear f3 r1 r2 r3 i0 i1 i2 i3;by_cases hza:z3=A
      ·have d5:((z3:Int)!=(A:Int))=false:=by simp;omega
       have HA:=zhd hza;clear hza;go_wp2;go_ret3;have f23:=(Fr.drew1 [] w2).trans hf3.out;refine .inr ⟨out,n2+4,ao,by rw[HZ.o1,if_pos HA.out],by rw[HZ.o2];first|rfl|go_num,K2.l1.1.fr f23,λx hx=>⟨?_,qal (K2.out.2.2.1 x hx).2 f23.size⟩,HF3.out⟩;exact qan HF.o0.size (K2.out.2.2.1 x hx).1
      ·have d5:((z3:Int)!=(A:Int))=true:=by simp;omega
       have HA:=zhd hza;clear hza;go_wp2;go_ret3;exact .inl ⟨6,by rw[HZ.o1,if_neg HA.out],by decide,by decide,rfl,HF3.out⟩
end Go.Proofs.YtbabjlohkniciaaGreatDoor.inf
namespace Go.Proofs.YtbabjlohkniciaaGreatDoor.trip
open Go Go.RowKit lib bm bl huf inf defl mat wb
theorem RQ.read {b r:List UInt8} (h:RQ b r) (ext:List UInt8) (m:Nat) (hm:b.length≤m):iraw (r++ext) m = .ok (b,r.length):=by
 rcases h.2 with rfl|⟨level,hl,hr⟩
 ·exact qme b ext m hm
 ·exact qzj hr hl ext m hm
theorem qu0 {level:Int} {b r:List UInt8} (h:RQ b r) (ext:List UInt8) (m:Nat) (hm:b.length≤m):izlib (zlibOf level r b++ext) m = .ok (b,(zlibOf level r b).length):=by
 have hz:zlibOf level r b++ext=120::zsec level::(r++(sums.be4 (sums.adler b)++ext)):=by unfold zlibOf;simp
 have hlen:(zlibOf level r b).length=r.length+6:=by unfold zlibOf;simp[sums.qdg]
 have h0:byteAt (zlibOf level r b++ext) 0=120:=by rw[hz];rfl
 have h1:byteAt (zlibOf level r b++ext) 1=(zsec level).toNat:=by rw[hz];rfl
 have hh:zhead 120 (zsec level).toNat=true:=by
  unfold zsec;split
  ·decide
  ·split<;>decide
 have hd:(zlibOf level r b++ext).drop 2=r++(sums.be4 (sums.adler b)++ext):=by rw[hz];rfl
 have hl2:(zlibOf level r b++ext).length=r.length+6+ext.length:=by rw[qab,hlen]
 have hbe:be32 (zlibOf level r b++ext) (r.length+2)=sums.adler b:=by
  have hb:∀i,i<4→byteAt (zlibOf level r b++ext) (r.length+2+i)=((sums.be4 (sums.adler b))[i]?.getD 0).toNat:=λi hi=>by unfold byteAt;rw[hz,show r.length+2+i=r.length+i+1+1 by omega,qad,qad,qek (by omega),show r.length+i-r.length=i by omega,qcc (by rw[sums.qdg];exact hi)]
  have:=sums.qyg (sums.adler b) (sums.qhd b) _ rfl;unfold be32;rw[show r.length+2=r.length+2+0 from rfl,hb 0 (by decide),show r.length+2+0+1=r.length+2+1 from rfl,hb 1 (by decide),show r.length+2+0+2=r.length+2+2 from rfl,hb 2 (by decide),show r.length+2+0+3=r.length+2+3 from rfl,hb 3 (by decide)];exact this
 unfold izlib;rw[if_neg (by omega),h0,h1,hh,if_neg (by decide),hd,h.read _ m hm];dsimp only;rw[if_neg (by omega),hbe,if_pos rfl,hlen]
end Go.Proofs.YtbabjlohkniciaaGreatDoor.trip
namespace Go.Proofs.YtbabjlohkniciaaGreatDoor.inf
open Go bm bl huf
theorem qwy {most:Nat} {out o:List UInt8} {c:UInt8} (h:iput most out c = .ok o):o.length≤most:=by
 unfold iput at h;split at h
 ·cases h
 ·simp only[qa3]at h;subst h;rw[qab,qc6];omega
theorem qsp {bs:List UInt8} {most:Nat}:∀{n:Nat} {out o:List UInt8} {q a:Nat},out.length≤most→ibytes bs most n out q = .ok (o,a)→o.length≤most
 | 0,out,o,q,a,hq,h=>by
  simp only[ibytes,qa3,qa1]at h;rw[<-h.1];exact hq
 | n+1,out,o,q,a,hq,h=>by
  rw[ibytes]at h;split at h
  ·split at h
   ·cases h
   ·rename_i o1 h1;exact qsp (qwy h1) h
  ·cases h
theorem qws {bs:List UInt8} {most a a1:Nat} {out o:List UInt8} (hq:out.length≤most) (h:istored bs most out a = .ok (o,a1)):o.length≤most:=by
 unfold istored at h;split at h
 ·split at h
  ·exact qsp hq h
  ·cases h
 ·cases h
theorem qw5 {most back:Nat}:∀{n:Nat} {out o:List UInt8},out.length≤most→icopy most back n out = .ok o→o.length≤most
 | 0,out,o,hq,h=>by
  simp only[icopy,qa3]at h;rw[<-h];exact hq
 | n+1,out,o,hq,h=>by
  rw[icopy]at h;split at h
  ·cases h
  ·rename_i o1 h1;exact qw5 (qwy h1) h
theorem qz8 {bs:List UInt8} {most s a a1:Nat} {dl:List Nat} {out o:List UInt8} (hq:out.length≤most) (h:imatch bs most dl s out a = .ok (o,a1)):o.length≤most:=by
 unfold imatch at h;split at h
 ·cases h
 ·split at h
  ·cases h
  ·split at h
   ·cases h
   ·split at h
    ·cases h
    ·split at h
     ·cases h
     ·split at h
      ·cases h
      ·rename_i o1 h1;simp only[qa3,qa1]at h;rw[<-h.1];exact qw5 hq h1
theorem qnv {bs:List UInt8} {most:Nat} {ll dl:List Nat}:∀{f:Nat} {out o:List UInt8} {a a1:Nat},out.length≤most→isyms bs most ll dl f out a = .ok (o,a1)→o.length≤most
 | 0,out,o,a,a1,hq,h=>by cases h
 | f+1,out,o,a,a1,hq,h=>by
  rw[isyms]at h;split at h
  ·cases h
  ·split at h
   ·split at h
    ·cases h
    ·rename_i o1 h1;exact qnv (qwy h1) h
   ·split at h
    ·simp only[qa3,qa1]at h;rw[<-h.1];exact hq
    ·split at h
     ·cases h
     ·split at h
      ·cases h
      ·rename_i o1 a2 h1;exact qnv (qz8 hq h1) h
theorem qsq {bs:List UInt8} {most hh a a1:Nat} {out o:List UInt8} (hq:out.length≤most) (h:iblock bs most hh out a = .ok (o,a1)):o.length≤most:=by
 unfold iblock at h;split at h
 ·exact qws hq h
 ·split at h
  ·exact qnv hq h
  ·unfold idyn at h;split at h
   ·cases h
   ·split at h
    ·cases h
    ·split at h
     ·cases h
     ·split at h
      ·cases h
      ·split at h
       ·cases h
       ·unfold idyn2 at h;split at h
        ·cases h
        ·split at h
         ·cases h
         ·unfold idyn3 at h;split at h
          ·cases h
          ·split at h
           ·cases h
           ·split at h
            ·cases h
            ·split at h
             ·cases h
             ·exact qnv hq h
theorem qww {bs:List UInt8} {most:Nat}:∀{f:Nat} {out o:List UInt8} {a a1:Nat},out.length≤most→irawF bs most f out a = .ok (o,a1)→o.length≤most
 | 0,out,o,a,a1,hq,h=>by cases h
 | f+1,out,o,a,a1,hq,h=>by
  rw[irawF]at h;split at h
  ·cases h
  ·split at h
   ·cases h
   ·split at h
    ·cases h
    ·split at h
     ·cases h
     ·rename_i o1 a3 h1;split at h
      ·exact qww (qsq hq h1) h
      ·simp only[qa3,qa1]at h;rw[<-h.1];exact qsq hq h1
theorem zbd {bs out:List UInt8} {m n:Nat} (h:iraw bs m = .ok (out,n)):out.length≤m:=by
 unfold iraw at h;split at h
 ·cases h
 ·rename_i o a hr;simp only[qa3,qa1]at h;rw[<-h.1];exact qww (qba _) hr
end Go.Proofs.YtbabjlohkniciaaGreatDoor.inf
namespace Go.Proofs.YtbabjlohkniciaaGreatDoor.pk
open Go
def hdF:Nat→Nat→Nat→List UInt8
 | 0,c,_=>[UInt8.ofNat c]
 | f+1,c,n=>if n=0 then [UInt8.ofNat c] else UInt8.ofNat (c+128)::hdF f (n%128) (n/128)
def hd (kind size:Nat):List UInt8:=hdF size (kind%8*16+size%16) (size/16)
def bkF:Nat→Nat→List UInt8
 | 0,_=>[]
 | f+1,m=>if m=0 then [] else UInt8.ofNat ((m-1)%128+128)::bkF f ((m-1)/128)
def bk (n:Nat):List UInt8:=UInt8.ofNat (n%128)::bkF n (n/128)
theorem ql0 {n:Nat} (h:n<256):(UInt8.ofNat n).toNat=n:=by simp[qb6];omega
open Go.RowKit lib bm
theorem sliceU8:SliceTy Tryz.prog 22 5 (.int .u8 0) 1 1:=SliceTy.of Tryz.underlying22 (by kernel_rfl) rfl (by decide)
theorem qev (bs:List UInt8):∀u∈bs.map bv,u.oneCell'=true:=by intro u hu;obtain⟨b,_,rfl⟩:=qb8.1 hu;rfl
structure Wr (w wr:World) (a:Option Addr) (c:Nat) (out:List UInt8):Prop where
 own:wr.ownsRow 0 5 1 (.slice a out.length c) out.length (out.map bv)
 fr:Fr [] w wr
 new:∀x∈blk a,w.heap.size≤x
theorem Wr.step {w wr w1 w2:World} {a a2:Option Addr} {c c2:Nat} {out:List UInt8} {x:UInt8} (h:Wr w wr a c out) (f:Fr [] wr w1) (A:Appended w1 w2 5 1 (blk a) a2 (out.length+1) c2 (out.map bv++[bv x])):Wr w w2 a2 c2 (out++[x]):=by
 refine⟨by rw[qab,qbt];exact A.own,(h.fr.trans f).step A.fr λy hy=>.inr (h.new y hy),λy hy=>?_⟩;rcases A.at_ y hy with h1|h1
 ·exact h.new y h1
 ·have:=(h.fr.trans f).size;omega
theorem zbr (ao:Option Addr) (len cap:Nat) (w:World) (hle:len≤cap) (hmax:cap≤maxLen) :
  Calls Tryz.prog 33 #[.slice ao len cap] w λe w'=>e = .returned (.slice ao len len)∧w'=w:=by
 go_enter Tryz.func33,Tryz.ntmps33;go_wp2;all_goals go_ret
 all_goals exact⟨by first|rfl|simp,rfl⟩
def Copied (w:World) (bs:List UInt8) (e:Ending) (w':World):Prop:=
 ∃ao cap,e = .returned (.slice ao bs.length cap)∧lib.Rd w' ao cap bs∧bs.length≤cap∧cap≤maxLen∧(∀x∈blk ao,w.heap.size≤x∧x<w'.heap.size)∧Fr [] w w'
theorem qx6 (ao:Option Addr) (cap:Nat) (bs:List UInt8) (w:World) (h:lib.Rd w ao cap bs) (hlim:bs.length≤140737488355328) :
  Calls Tryz.prog 34 #[.slice ao bs.length cap] w (Copied w bs):=by
 have qT:∀(w:World) (a:Option Addr) (n c n' c':Nat),(binOp .eql 22 (.slice a n c) (.slice none n' c')).run Tryz.prog w = .ok (.bool a.isNone) w:=λw a n c n' c'=>Lib.run_eql_slice_nil w _ _ a n c n' c' Tryz.underlying22
 have hcs:=h.cs;have hle:=h.le;have hnone:=h.nil;have hlt:=h;cases ao with
 | none=>
  have h0:=hnone rfl;obtain rfl:bs=[]:=qbs (by omega);go_enter Tryz.func34,Tryz.ntmps34;go_wp2;go_ret;exact⟨none,0,rfl,⟨.inl rfl,by simp,by decide,λ_=>rfl⟩,by simp,by decide,by simp[blk],Fr.refl _ _⟩
 | some a=>
  go_enter Tryz.func34,Tryz.ntmps34;go_wp2_with (refine qa5 sliceU8 rfl _ _ rfl (.slice (some ⟨w.heap.size,0,none⟩) 0 0) 0 [] [w.heap.size] rfl rfl ⟨rfl,.inr ⟨w.heap.size,0,#[],rfl,qba _,qa4 _ _,qag _,qba _,rfl,rfl⟩⟩ (some a) bs.length cap (bs.map bv) rfl hle hnone (hcs.fr ((Fr.refl [] w).alloc _) (by simp)) (by simp) (qev bs) (by omega) (by unfold maxLen;omega) ?_;intro ao1 cap1 w1 A1;simp only[qbe,qck]at A1);go_ret;have fr2:Fr [] w w1:=((Fr.refl [] w).alloc _).step A1.fr (by simp);have hb:∀x∈blk ao1,w.heap.size≤x∧x<w1.heap.size:=λx hx=>⟨by have:=A1.at_ x hx;simp at this;omega,A1.lt x hx⟩
  exact⟨ao1,cap1,rfl,⟨qcm A1.own,A1.le,A1.max,A1.nil⟩,A1.le,A1.max,hb,fr2⟩
def hexd (k:Nat):UInt8:=if k<10 then UInt8.ofNat (48+k) else UInt8.ofNat (87+k)
def digs16:ByteArray:=⟨#[48,49,50,51,52,53,54,55,56,57,97,98,99,100,101,102]⟩
theorem qxq:∀k:Fin 16,∀h,digs16[k.1]'h=hexd k.1:=by decide
theorem qmm (k:Nat) (hk:k<16) (w:World):(Instr.index 9 (.string ⟨#[48,49,50,51,52,53,54,55,56,57,97,98,99,100,101,102]⟩) (.int .u8 k)).run Tryz.prog w = .ok (.int .u8 ((hexd k).toNat:Nat)) w:=by
 have hs:digs16.size=16:=by decide
 have e:=run_index_string (P:=Tryz.prog) w 9 digs16 .u8 k Tryz.underlying9;rw[dif_pos ⟨by omega,by rw[hs];omega⟩]at e;have h2:=qxq ⟨k,hk⟩ (by rw[hs];exact hk);simp only[qc8]at e;rw[h2]at e;exact e
def hex2 (b:UInt8):List UInt8:=[hexd (b.toNat/16),hexd (b.toNat%16)]
def hexb (bs:List UInt8):List UInt8:=bs.flatMap hex2
theorem hexb_length (bs:List UInt8):(hexb bs).length=2*bs.length:=by
 induction bs with
 | nil=>rfl
 | cons b t ih=>unfold hexb at *;rw[qca,qab,ih];simp[hex2];omega
theorem qxb (bs:List UInt8) (b:UInt8):hexb (bs++[b])=hexb bs++hex2 b:=by unfold hexb;rw[qik];simp
theorem qzy (n:Nat) (hn:n≤100000000):∃A:Array Value,A.size=n∧∀w:World,(Instr.makeSlice 22 (.int .i64 0) (.int .i64 (n:Nat))).run Tryz.prog w = .ok (.slice (some ⟨w.heap.size,0,none⟩) 0 n) (w.alloc (.cells A 5)):=by obtain⟨hu,⟨i,hi,hz,hs,hb⟩,_,_⟩:=sliceU8;refine⟨madeCells (Value.int .u8 0).cells n,size_madeCells _ _,λw=>?_⟩;have:=run_make (P:=Tryz.prog) w 22 5 i (.int .u8 0) Tryz.underlying22 hi hz .i64 .i64 0 (n:Nat) (Int.le_refl _) (by omega) (by rw[hb];omega) (by omega);rw[hs,qc8,qdi]at this;exact this
theorem quc (b:UInt8):(hex2 b).map bv=[.int .u8 ((hexd (b.toNat/16)).toNat:Nat),.int .u8 ((hexd (b.toNat%16)).toNat:Nat)]:=rfl
theorem Wr.step2 {w wr w1 w2:World} {a a2:Option Addr} {c c2:Nat} {out xs:List UInt8} (h:Wr w wr a c out) (f:Fr [] wr w1) (A:Appended w1 w2 5 1 (blk a) a2 (out.length+xs.length) c2 (out.map bv++xs.map bv)):Wr w w2 a2 c2 (out++xs):=by
 refine⟨by rw[qab,qbt];exact A.own,(h.fr.trans f).step A.fr λy hy=>.inr (h.new y hy),λy hy=>?_⟩;rcases A.at_ y hy with h1|h1
 ·exact h.new y h1
 ·have:=(h.fr.trans f).size;omega
theorem and15u (b:UInt8):bits .and .u8 ((b.toNat:Nat):Int) 15=((b.toNat%16:Nat):Int):=by
 have h:∀x:Fin 256,bits .and .u8 (x.1:Int) 15=((x.1%16:Nat):Int):=by decide +kernel
 exact h ⟨b.toNat,qbo b⟩
theorem zcw (ao:Option Addr) (cap:Nat) (bs:List UInt8) (w:World) (h:lib.Rd w ao cap bs) (hlen:bs.length≤10000000) :
  Calls Tryz.prog 56 #[.slice ao bs.length cap] w λe w'=>e = .returned (.string (str (hexb bs)))∧Fr [] w w':=by
 obtain⟨L,hL⟩:=zex bs.length;obtain⟨A,hAs,hmk⟩:=qzy (2*L) (by omega);obtain⟨C,hC⟩:=zex (2*L);have hLb:L≤10000000:=by omega
 rw[<-hC]at hmk hAs;rw[show ((C:Nat):Int)=2*(L:Int) by omega]at hmk;have HI:=zhd3 h hL hAs;rw[<-hL];clear h hL hAs hlen;have HC:=zhd hC;clear hC;go_enter Tryz.func56,Tryz.ntmps56;go_upto_region 2 with fail;have o0:Wr w (w.alloc (.cells A 5)) (some ⟨w.heap.size,0,none⟩) C []:=⟨⟨rfl,.inr ⟨w.heap.size,C,A,rfl,qba _,qa4 _ _,qba _,by have:=HC.out;unfold maxLen;omega,by rw[HI.out.2.2,qdi],by simp⟩⟩,(Fr.refl _ _).alloc _,by simp[blk]⟩;obtain⟨w0,hw0⟩:=zex (w.alloc (.cells A 5));rw[<-hw0]at o0 ⊢;have H0:=zhd o0;clear o0 hw0 hmk;go_wp2;go_loopg [3,12] L (λk s3 s12 wr=>∃i a c out,s12 = .int .i64 (i:Nat)∧s3 = .slice a out.length c∧i+k=L∧Wr w wr a c out∧out=hexb (bs.take i));case atStart=>exact⟨0,_,C,[],rfl,rfl,by omega,H0.out,rfl⟩
 case round=>
  obtain⟨i,a,c,out,rfl,rfl,hik,h,hout⟩:=hrel;have hol:out.length=2*i:=by rw[hout,hexb_length,qar,<-HI.out.2.1];omega
  have H:=zhd3 h hout hol;have hob:out.length≤20000000:=by omega
  clear h hout hol;by_cases hi:i<L
  ·obtain⟨k,rfl⟩:∃k,gk=k+1:=⟨gk-1,by omega⟩;have hil:i<bs.length:=by rw[<-HI.out.2.1];exact hi
   obtain⟨g,o,rfl,hc⟩:=(HI.out.1.cs.fr H.out.1.fr (by simp)).at (by rw[qa8];omega);have hci:=hc i (bv bs[i]) (by rw[qbx,qaf hil];rfl);unfold bv at hci;have hx0:=qmm (bs[i].toNat/16) (by have:=qbo bs[i];omega);have hx1:=qmm (bs[i].toNat%16) (by omega);have e1:=and15u bs[i];have hb256:=qbo bs[i];have hcl:=quc bs[i];have HT:=zhd (show bs.take (i+1)=bs.take i++[bs[i]] from qbc hil);obtain⟨b,hb⟩:=zex (bs[i]);rw[<-hb]at hci hx0 hx1 e1 hb256 hcl HT;have HCL:=zhd hcl;clear hc hil hb hcl;have e0:((b.toNat:Nat):Int)/16=((b.toNat/16:Nat):Int):=by omega
   go_upto_region 5 with fail;generalize (hexd (b.toNat/16)).toNat=h0 at *;generalize (hexd (b.toNat%16)).toNat=h1 at *;generalize b.toNat%16=b1 at *;generalize b.toNat/16=b0 at *;obtain⟨S,hS⟩:=zex (blk a);refine qcj 9 [(false,0),(false,1),(false,2),(false,3),(false,4),(false,5),(false,6),(true,7),(true,8)] S (by kernel_rfl) (by kernel_rfl) (λ_ _ d _ _ h=>by cases d<;>exact h) ?_;simp only[qak,qap,qbh,qbi,qah,qaj,qce];refine qb9 7 rfl ?_;simp only[qai,qao,qah,qaj,qak,qap];have HS:=zhd hS;clear hS;repeat (go_big_quiet_step (fail))
   refine wpQuiet_nil ?_;clear e0 e1 hx0 hx1;refine qc5 rfl ?_;intro X hX;go_wp2;refine hX.out _ _ ((Fr.refl _ wr.drew).alloc _) ?_;clear hX X;have fr0:Fr [] wr (wr.drew.alloc (.cells #[.int .u8 h0,.int .u8 h1] 5)):=(Fr.drew1 [] wr).alloc _;have ownA:=qa7 H.out.1.own fr0 (by simp);have cA:Cs (wr.drew.alloc (.cells #[.int .u8 h0,.int .u8 h1] 5)) (some ⟨wr.drew.heap.size,0,none⟩) ((hex2 b).map bv):=by rw[HCL.out];exact .inr ⟨wr.drew.heap.size,0,rfl,λj u hj=>by rw[cell_of (qa4 wr.drew _)];simpa using hj⟩
   refine qc5 rfl ?_;intro X hX;refine qhw sliceU8 _ _ rfl (.slice a out.length c) out.length (out.map bv) S rfl (by rw[qbp,HS.out]) ownA (some ⟨wr.drew.heap.size,0,none⟩) 2 2 ((hex2 b).map bv) rfl (by decide) (by simp) cA (by rfl) (qev _) (by omega) (by unfold maxLen;omega) ?_;intro a2 c2 w2 A1;refine hX.out _ _ A1.fr ?_;clear hX X;refine qc4 ?_;have HA:=zhd2 fr0 A1;clear fr0 A1 ownA cA;go_wp2;go_roundg k;case measure=>omega
   case rel=>have A1:=HA.l1;rw[HS.out]at A1;exact⟨i+1,a2,c2,out++hex2 b,by go_num,by rw[qab];rfl,by omega,H.out.1.step2 HA.o0 A1,by rw[HT.out,qxb,<-H.out.2.1]⟩
  ·obtain rfl:i=L:=by omega
   obtain⟨r1,_⟩:=qiz H.out.1.own;have cv:=qer wr Tryz.underlying22 Tryz.underlying5 Tryz.underlying9 (rfl:out.length=out.length) r1.cs;have HO:=zhd (show out=hexb bs by rw[H.out.2.1,HI.out.2.1,List.take_length]);clear r1;go_wp2;go_ret;exact⟨by rw[<-HO.out];rfl,H.out.1.fr⟩
end Go.Proofs.YtbabjlohkniciaaGreatDoor.pk
namespace Go.Proofs.YtbabjlohkniciaaGreatDoor.crc
open Go
def poly:Nat:=3988292384
def st (c:Nat):Nat:=if c%2=1 then (c/2) ^^^ poly else c/2
def stN:Nat→Nat→Nat
 | 0,c=>c
 | k+1,c=>stN k (st c)
def tb (i:Nat):Nat:=stN 8 i
def inb (c:Nat) (b:UInt8):Nat:=stN 8 (c ^^^ b.toNat)
def crcs (bs:List UInt8):Nat:=bs.foldl inb 4294967295
def crc (bs:List UInt8):Nat:=4294967295-crcs bs
open Go.RowKit lib bm
theorem qgt (bs:List UInt8) {i:Nat} (hi:i<bs.length) (w:World):(Instr.index 9 (.string (str bs)) (.int .i64 i)).run Tryz.prog w = .ok (.int .u8 ((bs[i].toNat:Nat):Int)) w:=by
 have hs:(str bs).size=bs.length:=by simp[str,ByteArray.size]
 have e:=run_index_string (P:=Tryz.prog) w 9 (str bs) .i64 i Tryz.underlying9;rw[dif_pos ⟨by omega,by rw[hs];omega⟩]at e;simp only[qc8]at e;have h2:(str bs)[i]'(by rw[hs];exact hi)=bs[i]:=by show bs.toArray[i]'(by simpa using hi)=bs[i];simp
 rw[h2]at e;exact e
end Go.Proofs.YtbabjlohkniciaaGreatDoor.crc
namespace Go.Proofs.YtbabjlohkniciaaGreatDoor.pk
open Go Go.RowKit lib bm crc
set_option maxRecDepth 100000
theorem qxr (k:Nat) (hk:k<10) (w:World):Calls Tryz.prog 89 #[.int .u8 ((48+k:Nat):Int)] w λe w'=>e = .returned (.tuple #[.int .u8 k,.bool true])∧w'=w:=by
 obtain⟨c,hc⟩:=zex (48+k);rw[<-hc];have g1:decide ((48:Int)≤(c:Int))=true:=by simp;omega
 have g2:decide ((c:Int)≤(57:Int))=true:=by simp;omega
 have e1:(c:Int)-48=(k:Int):=by omega
 have HC:=zhd hc;have hcb:c≤57:=by omega
 have hca:48≤c:=by omega
 clear hc;go_enter Tryz.func89,Tryz.ntmps89;go_wp2;go_ret2;exact⟨rfl,rfl⟩
theorem quf (k:Nat) (hk:10≤k) (hk2:k<16) (w:World):Calls Tryz.prog 89 #[.int .u8 ((87+k:Nat):Int)] w λe w'=>e = .returned (.tuple #[.int .u8 k,.bool true])∧w'=w:=by
 obtain⟨c,hc⟩:=zex (87+k);rw[<-hc];have g1:decide ((48:Int)≤(c:Int))=true:=by simp;omega
 have g2:decide ((c:Int)≤(57:Int))=false:=by simp;omega
 have g3:decide ((97:Int)≤(c:Int))=true:=by simp;omega
 have g4:decide ((c:Int)≤(102:Int))=true:=by simp;omega
 have e1:(c:Int)-97+10=(k:Int):=by omega
 have HC:=zhd hc;have hcb:c≤102:=by omega
 have hca:97≤c:=by omega
 clear hc;go_enter Tryz.func89,Tryz.ntmps89;go_wp2;go_ret2;exact⟨rfl,rfl⟩
def GotHex (w:World) (bs:List UInt8) (e:Ending) (w':World):Prop:=
 ∃a c,e = .returned (.tuple #[.slice a bs.length c,.bool true])∧Wr w w' a c bs
end Go.Proofs.YtbabjlohkniciaaGreatDoor.pk
namespace Go.Proofs.YtbabjlohkniciaaGreatDoor.lo
open Go
def dgv (c:UInt8):Option Nat:=if 48≤c.toNat∧c.toNat≤57 then some (c.toNat-48) else if 97≤c.toNat∧c.toNat≤102 then some (c.toNat-87) else none
theorem qpk {c:UInt8} {x:Nat} (h:dgv c=some x):x<16:=by
 unfold dgv at h;split at h
 ·simp only[qas]at h;omega
 ·split at h
  ·simp only[qas]at h;omega
  ·cases h
def unhexL:List UInt8→Option (List UInt8)
 | []=>some []
 | [_]=>none
 | a::b::t=>match dgv a,dgv b,unhexL t with
  | some x,some y,some r=>some (UInt8.ofNat (16*x+y)::r)
  | _,_,_=>none
theorem qio:∀{s r:List UInt8},unhexL s=some r→s.length=2*r.length
 | [],r,h=>by
  simp only[unhexL,qas]at h;subst h;rfl
 | [_],r,h=>by cases h
 | a::b::t,r,h=>by
  rw[unhexL]at h;split at h
  ·rename_i x y q _ _ hq;simp only[qas]at h;subst h;have:=qio hq;simp only[qam];omega
  ·cases h
theorem qhm:∀{p r:List UInt8} (a b:UInt8) {x y:Nat},unhexL p=some r→dgv a=some x→dgv b=some y→unhexL (p++[a,b])=some (r++[UInt8.ofNat (16*x+y)])
 | [],r,a,b,x,y,h,ha,hb=>by
  simp only[unhexL,qas]at h;subst h;simp[unhexL,ha,hb]
 | [_],r,a,b,x,y,h,_,_=>by cases h
 | c::d::t,r,a,b,x,y,h,ha,hb=>by
  rw[unhexL]at h;split at h
  ·rename_i u v q hu hv hq;simp only[qas]at h;subst h;have:=qhm a b hq ha hb;rw[qc3,qc3,unhexL,hu,hv,this];rfl
  ·cases h
theorem qip:∀(i:Nat) {s:List UInt8} {a b:UInt8},s[2*i]?=some a→s[2*i+1]?=some b→(dgv a=none∨dgv b=none)→unhexL s=none
 | 0,c::d::t,a,b,ha,hb,h=>by
  simp only[Nat.mul_zero,qaa,qas]at ha;simp only[Nat.mul_zero,qbe,qad,qaa,qas]at hb;subst ha hb;rw[unhexL];rcases h with h|h
  ·rw[h]
  ·rw[h];split<;>simp_all
 | 0,[c],a,b,ha,hb,h=>by simp at hb
 | 0,[],a,b,ha,hb,h=>by simp at hb
 | i+1,c::d::t,a,b,ha,hb,h=>by
  have e:unhexL t=none:=qip i (s:=t) (a:=a) (b:=b) (by rw[show 2*(i+1)=2*i+1+1 by omega]at ha;simpa using ha) (by rw[show 2*(i+1)+1=2*i+1+1+1 by omega]at hb;simpa using hb) h;rw[unhexL,e];split<;>simp_all
 | i+1,[c],a,b,ha,hb,h=>by simp at hb
 | i+1,[],a,b,ha,hb,h=>by simp at hb
theorem qly:∀{s:List UInt8},s.length%2=1→unhexL s=none:=λ{s} h=>by
 cases hs:unhexL s with
 | none=>rfl
 | some r=>have:=qio hs;omega
def hashB (s:List UInt8):Bool:=match unhexL s with
 | some b=>b.length==20
 | none=>false
theorem qf1 {s:List UInt8} (h:hashB s=true):s.length=40:=by
 unfold hashB at h;split at h
 ·rename_i b hb;have:=qio hb;simp only[beq_iff_eq]at h;omega
 ·cases h
open Go.RowKit lib bm crc pk
set_option maxRecDepth 100000
theorem digA (c:UInt8) (w:World):Calls Tryz.prog 89 #[.int .u8 ((c.toNat:Nat):Int)] w λe w'=>e = .returned (.tuple #[.int .u8 (((dgv c).getD 0:Nat):Int),.bool (dgv c).isSome])∧w'=w:=by
 have hc8:=c.toNat_lt;unfold dgv;generalize c.toNat=n at *;by_cases h1:48≤n∧n≤57
 ·rw[if_pos h1];have:=qxr (n-48) (by omega) w;rw[show 48+(n-48)=n by omega]at this;exact this
 ·rw[if_neg h1];by_cases h2:97≤n∧n≤102
  ·rw[if_pos h2];have:=quf (n-87) (by omega) (by omega) w;rw[show 87+(n-87)=n by omega]at this;exact this
  ·rw[if_neg h2];by_cases a1:48≤n
   ·have g1:decide ((48:Int)≤(n:Int))=true:=by simp;omega
    have g2:decide ((n:Int)≤(57:Int))=false:=by simp;omega
    by_cases a2:97≤n
    ·have g3:decide ((97:Int)≤(n:Int))=true:=by simp;omega
     have g4:decide ((n:Int)≤(102:Int))=false:=by simp;omega
     clear h1 h2 a1 a2;go_enter Tryz.func89,Tryz.ntmps89;go_wp2;go_ret2;exact⟨rfl,rfl⟩
    ·have g3:decide ((97:Int)≤(n:Int))=false:=by simp;omega
     clear h1 h2 a1 a2;go_enter Tryz.func89,Tryz.ntmps89;go_wp2;go_ret2;exact⟨rfl,rfl⟩
   ·have g1:decide ((48:Int)≤(n:Int))=false:=by simp;omega
    have g3:decide ((97:Int)≤(n:Int))=false:=by simp;omega
    clear h1 h2 a1;go_enter Tryz.func89,Tryz.ntmps89;go_wp2;go_ret2;exact⟨rfl,rfl⟩
theorem nibs (x y:Nat) (hx:x<16) (hy:y<16):bits .or .u8 ((x:Int)*16) (y:Int)=((16*x+y:Nat):Int):=by
 have h:∀x:_root_.Fin 16,∀y:_root_.Fin 16,bits .or .u8 ((x.1:Int)*16) (y.1:Int)=((16*x.1+y.1:Nat):Int):=by decide +kernel
 exact h ⟨x,hx⟩ ⟨y,hy⟩
theorem qwj (n:Nat) (hn:n≤70368744177664):∃A:Array Value,A.size=n∧∀w:World,(Instr.makeSlice 22 (.int .i64 0) (.int .i64 (n:Nat))).run Tryz.prog w = .ok (.slice (some ⟨w.heap.size,0,none⟩) 0 n) (w.alloc (.cells A 5)):=by obtain⟨hu,⟨i,hi,hz,hs,hb⟩,_,_⟩:=sliceU8;refine⟨madeCells (Value.int .u8 0).cells n,size_madeCells _ _,λw=>?_⟩;have:=run_make (P:=Tryz.prog) w 22 5 i (.int .u8 0) Tryz.underlying22 hi hz .i64 .i64 0 (n:Nat) (Int.le_refl _) (by omega) (by rw[hb];omega) (by omega);rw[hs,qc8,qdi]at this;exact this
def UnhexP (w:World) (s:List UInt8) (e:Ending) (w':World):Prop:=match unhexL s with
 | some bs=>GotHex w bs e w'
 | none=>e = .returned (.tuple #[.slice none 0 0,.bool false])∧Fr [] w w'
theorem UnhexP.good {w w':World} {s bs:List UInt8} {e:Ending} (h:unhexL s=some bs) (g:GotHex w bs e w'):UnhexP w s e w':=by unfold UnhexP;rw[h];exact g
theorem UnhexP.bad {w w':World} {s:List UInt8} {e:Ending} (h:unhexL s=none) (g:e = .returned (.tuple #[.slice none 0 0,.bool false])∧Fr [] w w'):UnhexP w s e w':=by unfold UnhexP;rw[h];exact g
theorem unhexA (s:List UInt8) (w:World) (hlen:s.length≤140737488355328):Calls Tryz.prog 53 #[.string (str s)] w (UnhexP w s):=by
 obtain⟨N,hN⟩:=zex s.length;have hsz:(str s).size=N:=by rw[hN];simp[str,ByteArray.size]
 have hidx:∀i (hi:i<s.length),∀w:World,(Instr.index 9 (.string (str s)) (.int .i64 (i:Nat))).run Tryz.prog w = .ok (.int .u8 ((s[i].toNat:Nat):Int)) w:=λi hi w=>qgt s hi w
 rw[<-hN]at hlen;by_cases hodd:N%2=1
 ·have hb:=qly (s:=s) (by omega);have HB:=zhd hb;have g1:(N:Int)%2=1:=by omega
  have g0:(((N:Int)%2)!=0)=true:=by rw[g1];decide
  obtain⟨z,hz⟩:=zex (str s);rw[<-hz]at hsz ⊢;clear hidx hb hN hz;go_enter Tryz.func53,Tryz.ntmps53;go_wp2;go_ret2;exact UnhexP.bad HB.out ⟨rfl,Fr.refl _ _⟩
 obtain⟨L,hL⟩:∃L,N=2*L:=⟨N/2,by omega⟩;obtain⟨A,hAs,hmk⟩:=qwj L (by omega);obtain⟨z,hz⟩:=zex (str s);rw[<-hz]at hsz hidx ⊢;rw[hL]at hsz hN hlen;have HI:=zhd3 hN hidx hAs;clear hL hN hz hidx hAs hodd;go_enter Tryz.func53,Tryz.ntmps53;go_upto_region 3 with fail;have o0:Wr w (w.alloc (.cells A 5)) (some ⟨w.heap.size,0,none⟩) L []:=⟨⟨rfl,.inr ⟨w.heap.size,L,A,rfl,qba _,qa4 _ _,qba _,by unfold maxLen;omega,by rw[HI.l2,qdi],by simp⟩⟩,(Fr.refl _ _).alloc _,by simp[blk]⟩;obtain⟨w0,hw0⟩:=zex (w.alloc (.cells A 5));have hmw:=hmk w;rw[<-hw0]at o0 hmw;have H0:=zhd o0;clear o0 hw0 hmk;go_wp2;go_loopg [4,5] L (λk s4 s5 wr=>∃(i:Nat) (a:Option Addr) (c:Nat) (out:List UInt8),s5 = .int .i64 (2*(i:Int))∧s4 = .slice a out.length c∧i+k=L∧Wr w wr a c out∧unhexL (s.take (2*i))=some out∧out.length=i);case atStart=>exact⟨0,_,L,[],rfl,rfl,by omega,H0.out,rfl,rfl⟩
 case round=>
  obtain⟨i,a,c,out,rfl,rfl,hik,h,hout,hol⟩:=hrel;have H:=zhd3 h hout hol;have hob:out.length≤70368744177664:=by omega
  clear h hout hol;by_cases hi:i<L
  ·obtain⟨k,rfl⟩:∃k,gk=k+1:=⟨gk-1,by omega⟩;have hil:2*i<s.length:=by rw[<-HI.o0];omega
   have hil2:2*i+1<s.length:=by rw[<-HI.o0];omega
   have hx0:=HI.o1 (2*i) hil;have hx1:=HI.o1 (2*i+1) hil2;have e0:((2*i:Nat):Int)=2*(i:Int):=by omega
   have e1:((2*i+1:Nat):Int)=2*(i:Int)+1:=by omega
   rw[e0]at hx0;rw[e1]at hx1;obtain⟨x,hx⟩:=zex (s[2*i]);obtain⟨y,hy⟩:=zex (s[2*i+1]);rw[<-hx]at hx0;rw[<-hy]at hx1;have d0:=digA x;have d1:=digA y;have ht:s.take (2*(i+1))=s.take (2*i)++[x,y]:=by rw[show 2*(i+1)=2*i+1+1 by omega,qbc hil2,qbc hil,hx,hy,qat];rfl
   have hbad:(dgv x=none∨dgv y=none)→unhexL s=none:=λhq=>qip i (by rw[qaf hil,hx]) (by rw[qaf hil2,hy]) hq
   have HT:=zhd2 ht hbad;clear e0 e1 ht hbad hx hy hil hil2 hmw;generalize hnx:x.toNat=nx at *;generalize hny:y.toNat=ny at *;cases hdx:dgv x with
   | none=>
    rw[hdx]at d0;simp only[Option.getD_none,Option.isSome_none]at d0;have HX:=zhd hdx;generalize (dgv y).getD 0=vy at *;generalize (dgv y).isSome=by_ at *;clear hdx hnx hny;go_upto_region 8 with (go_at_call 89;refine (d0 _).mono ?_;rintro e w1 ⟨rfl,rfl⟩);go_upto_region 9 with (go_at_call 89;refine (d1 _).mono ?_;rintro e w1 ⟨rfl,rfl⟩);clear d0 d1 hx0 hx1;go_wp2;go_ret2;exact UnhexP.bad (HT.l1 (.inl HX.out)) ⟨rfl,H.o0.fr⟩
   | some vx=>
    have hvx:=qpk hdx;rw[hdx]at d0;simp only[qfp,Option.isSome_some]at d0;cases hdy:dgv y with
    | none=>
     rw[hdy]at d1;simp only[Option.getD_none,Option.isSome_none]at d1;have HX:=zhd hdy;clear hdx hdy hnx hny;go_upto_region 8 with (go_at_call 89;refine (d0 _).mono ?_;rintro e w1 ⟨rfl,rfl⟩);go_upto_region 9 with (go_at_call 89;refine (d1 _).mono ?_;rintro e w1 ⟨rfl,rfl⟩);clear d0 d1 hx0 hx1;go_wp2;go_ret2;exact UnhexP.bad (HT.l1 (.inr HX.out)) ⟨rfl,H.o0.fr⟩
    | some vy=>
     have hvy:=qpk hdy;rw[hdy]at d1;simp only[qfp,Option.isSome_some]at d1;have en:=nibs vx vy hvx hvy;obtain⟨v,hv⟩:=zex (16*vx+vy);rw[<-hv]at en;have hvb:v<256:=by omega
     have hs:=qhm x y H.o1 hdx hdy;rw[<-hv,<-HT.o0]at hs;obtain⟨b,hb⟩:=zex (UInt8.ofNat v);rw[<-hb]at hs;have hbv:bv b = .int .u8 v:=by unfold bv;rw[hb,ql0 (by omega)]
     obtain⟨S,hS⟩:=zex (blk a);have f0:Fr [] wr (wr.alloc (.cells #[.int .u8 v] 5)):=(Fr.refl [] wr).alloc _;have ownA:=qa7 H.o0.own f0 (by simp);have cA:Cs (wr.alloc (.cells #[.int .u8 v] 5)) (some ⟨wr.heap.size,0,none⟩) [bv b]:=by rw[hbv];exact qdu _ _ _ 5 (qa4 wr _)
     have HA:=zhd4 ownA cA f0 hs;have HS:=zhd hS;clear ownA cA f0 hS hs hdx hdy hv hb hbv hnx hny;go_upto_region 8 with (go_at_call 89;refine (d0 _).mono ?_;rintro e w1 ⟨rfl,rfl⟩);go_upto_region 9 with (go_at_call 89;refine (d1 _).mono ?_;rintro e w1 ⟨rfl,rfl⟩);clear d0 d1 hx0 hx1;go_upto_region 11 with fail;go_wp2_with (refine qa5 sliceU8 rfl _ _ rfl (.slice a out.length c) out.length (out.map bv) S rfl (by rw[qbp,HS.out]) HA.o0 (some ⟨_,0,none⟩) 1 1 [bv b] rfl (by decide) (by simp) HA.o1 (by rfl) (qev [b]) (by omega) (by unfold maxLen;omega) ?_;intro a2 c2 w2 A1;have HA1:=zhd A1;clear A1);go_roundg k;case measure=>omega
     case rel=>have A1:=HA1.out;rw[HS.out]at A1;refine⟨i+1,a2,c2,out++[b],by go_num,by rw[qab];rfl,by omega,H.o0.step HA.o2 A1,HA.l3,by rw[qab,H.l2];rfl⟩
  ·obtain rfl:i=L:=by omega
   go_wp2;go_ret2;have h2:=H.o1;rw[HI.o0,List.take_length]at h2;exact UnhexP.good h2 ⟨a,c,rfl,H.o0⟩
end Go.Proofs.YtbabjlohkniciaaGreatDoor.lo
