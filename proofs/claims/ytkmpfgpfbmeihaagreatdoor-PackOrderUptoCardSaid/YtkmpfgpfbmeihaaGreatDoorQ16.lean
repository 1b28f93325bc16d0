/-
  Texts of this proof, one behind the other: InfK, InfU, InfZ, TripE, PkTrip, PackTake, PkHead, PkBack, RCrc, Flat, Mid, TabC.
-/
import Derived.Test.YtkmpfgpfbmeihaaGreatDoorQ13
import Derived.Test.YtkmpfgpfbmeihaaGreatDoorQ15
import Derived.Deep.MidRow
set_option maxHeartbeats 16000000
set_option maxRecDepth 100000
set_option linter.unusedVariables false
set_option linter.unusedSimpArgs false
namespace Go.Proofs.YtkmpfgpfbmeihaaGreatDoor
namespace inf
open Go Go.RowKit lib bm bl huf
theorem Ge:(Tryz.prog.info? 213).map (·.size)=some 3:=by kernel_rfl
theorem qym {fn:Func} {p:Tmp} (h:fn.results=#[.cell p 213]) (tmps:AV) (w:World) (g:Nat) (cs:AV) (fr:Nat×Nat)
  (hp:tmps.getD p undef = .pointer (some ⟨g,0,none⟩)) (hg:w.heap[g]?=some (.cells cs 213 fr)) (hs:cs.size=3):(results fn tmps).run Tryz.prog w = .ok (.agg cs) w:=
 results_cell_row h tmps w g 213 cs fr _ hp hg Tryz.underlying213 rfl (by rw[Ge,hs])
def yn:Array Value:=#[.func (.func 166) #[] #[],.func (.func 167) #[] #[],.func (.func 168) #[] #[]]
theorem qzn (w:World):Calls Tryz.prog 135 #[] w λe w'=>e = .returned (.agg yn)/\Fr [] w w':=by go_enter Tryz.func135,Tryz.ntmps135;go_wp2_with (refine wpList_store_row rfl 213 (.tmp 0) (.tmp 1) rfl w.heap.size yn rfl rfl 213 #[.nilFunc,.nilFunc,.nilFunc] (heap_alloc_last w _) Ge rfl (by kernel_rfl) ?_;rw[World.setRow_alloc_new]);simp only[Act.put];refine bodyPost_ret (qym rfl _ _ w.heap.size yn (0,0) rfl (bC w _) rfl) rfl ?_;exact⟨rfl,(Fr.refl [] w).alloc _⟩
def Oo (x:Except Nat (List UInt8×Nat)):Except Nat (List UInt8×Nat):=match x with
 | .error e=>.error e
 | .ok (o,a)=>.ok (o,(a+7)/8)
theorem zdm (bs:LB) (m:Nat):kL bs m=Oo (dB bs m (fuel bs) [] 0):=rfl
def pT (w:World) (m:Except Nat (List UInt8×Nat)) (e:Ending) (w':World):Prop:=
 (∃c,m = .error c/\0<c/\c<100/\e = .returned (.tuple #[.slice none 0 0,.int .i64 0,.int .i64 (c:Nat)])/\Fr [] w w')\/
 (∃out used ao,m = .ok (out,used)/\e = .returned (.tuple #[.slice ao out.length out.length,.int .i64 (used:Nat),.int .i64 0])/\lib.Rd w' ao out.length out/\(∀x∈af ao,w.heap.size<=x/\x<w'.heap.size)/\Fr [] w w')
theorem VA (a:OA) (cap:Nat) (bs:LB) (m:Nat) (w:World) (h:lib.Rd w a cap bs) (hlen:bs.length<=100000000) (Ps:m<=100000000) :
  Calls Tryz.prog 110 #[.slice a bs.length cap,.int .i64 m] w (pT w (kL bs m)):=by
 have cu:=bits.quz a cap bs w h.cs h.le h.nil (by omega);obtain⟨M,hM⟩:=ai (kL bs m);rw[<-hM];have H:=aw cu hM hlen;clear h cu hM hlen;go_enter Tryz.func110,Tryz.ntmps110;go_upto_block 0 with (go_at_call 133;refine H.o0.mono ?_;rintro e w1 ⟨p,F,rfl,di,f1,hF⟩;have K1:=aw di f1 hF;clear di f1 hF);obtain⟨R,hR⟩:=ai w1.heap.size;go_wp2;rw[<-hR];obtain⟨w2,bL⟩:∃w2,w2=w1.alloc (.cells #[.pointer (some ⟨p,0,none⟩),.slice none 0 0,.int .i64 (m:Nat)] 209):=⟨_,rfl⟩;have f2:Fr [] w1 w2:=by rw[bL];exact (Fr.refl [] w1).alloc _
 have S2:St w2 R p F bs 0 [] none 0 m:=by
  refine⟨by rw[bL,hR];exact bC w1 _,bits.Hw K1.o0 f2 (by simp),wM _ _ _ _,λhx=>?_,by simp[af],by simp[af],λx hx=>?_,Ps,H.l2,by simp⟩
  ·have:=(K1.l2 R hx).2;omega
  ·exact eW (K1.l2 x hx).2 f2.size
 have GZ:w.heap.size<=R:=by rw[hR];exact K1.o1.size
 have TA:w.heap.size<=p:=(K1.l2 p S2.pF.1).1;rw[<-bL];clear bL hR;obtain⟨M0,ZN⟩:=ai (dB bs m (fuel bs) [] 0);have hM:M=Oo M0:=by rw[H.o1,ZN,zdm]
 have B0:∀(w':World) (a':Nat) (out':LB) (iX:OA) (mn:Nat),St w' R p F bs a' out' iX mn m->Calls Tryz.prog 166 #[.pointer (some ⟨R,0,none⟩)] w' (DG w' R p F bs iX m (eZ bs m 0 out' a')):=λw' a' out' iX mn s=>by unfold eZ;rw[if_pos rfl];exact qwe R p F bs out' a' mn m iX w' s
 have B1:∀(w':World) (a':Nat) (out':LB) (iX:OA) (mn:Nat),St w' R p F bs a' out' iX mn m->Calls Tryz.prog 167 #[.pointer (some ⟨R,0,none⟩)] w' (DG w' R p F bs iX m (eZ bs m 1 out' a')):=λw' a' out' iX mn s=>by unfold eZ;rw[if_neg (by decide),if_pos rfl];exact zag R p F bs out' a' mn m iX w' s
 have B2:∀(w':World) (a':Nat) (out':LB) (iX:OA) (mn:Nat),St w' R p F bs a' out' iX mn m->Calls Tryz.prog 168 #[.pointer (some ⟨R,0,none⟩)] w' (DG w' R p F bs iX m (eZ bs m 2 out' a')):=λw' a' out' iX mn s=>by unfold eZ;rw[if_neg (by decide),if_neg (by decide)];exact qt3 R p F bs out' a' mn m iX w' s
 have T1:∀(w':World) (a':Nat) (out':LB) (iX:OA) (mn:Nat),St w' R p F bs a' out' iX mn m->Calls Tryz.prog 134 #[.pointer (some ⟨R,0,none⟩),.int .i64 1] w' (ox w' R p F bs out' iX mn m (aY bs a' 1)):=λw' a' out' iX mn s=>FM R p F bs out' a' mn m 1 iX w' s (by decide)
 have T2:∀(w':World) (a':Nat) (out':LB) (iX:OA) (mn:Nat),St w' R p F bs a' out' iX mn m->Calls Tryz.prog 134 #[.pointer (some ⟨R,0,none⟩),.int .i64 2] w' (ox w' R p F bs out' iX mn m (aY bs a' 2)):=λw' a' out' iX mn s=>FM R p F bs out' a' mn m 2 iX w' s (by decide)
 have HB:=aQ B0 B1 B2 T1 T2;have HK:=cJ S2 (K1.o1.trans f2) GZ TA ZN hM;clear B0 B1 B2 T1 T2 S2 f2 GZ TA ZN hM;go_loopg [4,5,6,8,9] (fuel bs) (λk s4 s5 s6 s8 s9 wr=>∃(last a1:Nat) (bM:LB) (jP:OA) (nV:Nat),s8 = .int .i64 (last:Nat)/\St wr R p F bs a1 bM jP nV m/\Way w2 R p none wr jP/\(last=0->dB bs m k bM a1=M0/\8*bs.length+1<=a1+k)/\(last≠0->M0 = .ok (bM,a1)));case atStart=>exact⟨0,0,[],none,0,rfl,HK.o0,.refl _ _ _ _,λ_=>⟨HK.o4.symm,by unfold fuel;omega⟩,λh=>absurd rfl h⟩
 case round=>
  obtain⟨last,a1,bM,jP,nV,rfl,aH,im,EK,hH⟩:=hrel;have Tp:∀(w':World),Fr (R::p::af jP) wr w'->Fr [] w w':=λw' f=>by
   have f1:Fr (R::p::af none) w2 w':=im.J6 f;refine HK.o1.step f1 (λx hx=>.inr ?_);simp only[fP,af,wL,or_false]at hx;rcases hx with rfl|rfl
   ·exact HK.o2
   ·exact HK.o3
  by_cases hl:last=0
  ·subst hl;obtain⟨Ma,Dt⟩:=EK rfl;have JT:=aH.pF.2;obtain⟨k,rfl⟩:∃k,gk=k+1:=⟨gk-1,by omega⟩;have HJ:=aG aH im Ma Dt;have HU:=ah Tp;clear aH im EK hH Ma Dt Tp;have ix0:∀w:World,(Instr.index 213 (.agg #[.func (.func 166) #[] #[],.func (.func 167) #[] #[],.func (.func 168) #[] #[]]) (.int .i64 0)).run Tryz.prog w = .ok (.func (.func 166) #[] #[]) w:=λ_=>by kernel_rfl
   have ix1:∀w:World,(Instr.index 213 (.agg #[.func (.func 166) #[] #[],.func (.func 167) #[] #[],.func (.func 168) #[] #[]]) (.int .i64 1)).run Tryz.prog w = .ok (.func (.func 167) #[] #[]) w:=λ_=>by kernel_rfl
   have ix2:∀w:World,(Instr.index 213 (.agg #[.func (.func 166) #[] #[],.func (.func 167) #[] #[],.func (.func 168) #[] #[]]) (.int .i64 2)).run Tryz.prog w = .ok (.func (.func 168) #[] #[]) w:=λ_=>by kernel_rfl
   go_wp2_with (first
    | (go_at_call 134;(with_reducible refine (HB.o3 wr a1 bM jP nV HJ.out.1).mono ?_);rintro e w3 (⟨v,c,hm,bZ,cY,rfl,f3⟩|⟨last,a2,hm,rfl,s3,f3⟩);all_goals (try (have OL:=Bd hm;have K3:=aw hm s3 f3;clear hm s3 f3)))
    | (go_at_call 134;(with_reducible refine (HB.l4 w3 a2 bM jP nV K3.o1).mono ?_);rintro e w4 (⟨v,c,hm,bZ,cY,rfl,f4⟩|⟨h,a3,hm,rfl,s4,f4⟩);rotate_left;(have wg:=Bd hm;rcases (show h=0\/h=1\/h=2\/h=3 by omega) with rfl|rfl|rfl|rfl);all_goals (try (have K4:=aw hm s4 f4;clear hm s4 f4)))
    | (go_at_call 135;refine (qzn w4).mono ?_;rintro e w5 ⟨he,f5⟩;unfold yn at he;subst he;have K5:=ah f5;clear f5)
    | (go_at_call 166;refine (HB.o0 w5 a3 bM jP nV (K4.o1.dQ K5.out)).mono ?_;rintro e w6 (⟨c,hm,bZ,cY,rfl,f6⟩|⟨o6,a6,Ei,Eh,hm,rfl,s6,f6⟩);all_goals (have Km:=ah hm;clear hm);all_goals (try (have K6:=ak s6 f6;clear s6 f6)))
    | (go_at_call 167;refine (HB.o1 w5 a3 bM jP nV (K4.o1.dQ K5.out)).mono ?_;rintro e w6 (⟨c,hm,bZ,cY,rfl,f6⟩|⟨o6,a6,Ei,Eh,hm,rfl,s6,f6⟩);all_goals (have Km:=ah hm;clear hm);all_goals (try (have K6:=ak s6 f6;clear s6 f6)))
    | (go_at_call 168;refine (HB.o2 w5 a3 bM jP nV (K4.o1.dQ K5.out)).mono ?_;rintro e w6 (⟨c,hm,bZ,cY,rfl,f6⟩|⟨o6,a6,Ei,Eh,hm,rfl,s6,f6⟩);all_goals (have Km:=ah hm;clear hm);all_goals (try (have K6:=ak s6 f6;clear s6 f6))))
   ·go_ret3;refine .inl ⟨c,?_,bZ,cY,rfl,HU.out _ f3⟩;rw[HK.l5,<-HJ.out.2.2.1,dB];simp only[hm];rfl
   ·go_ret3;refine .inl ⟨c,?_,bZ,cY,rfl,HU.out _ ((K3.l2.trans (K4.l2.trans (K5.out.mono (by simp)))).mono (by simp) |>.trans f6)⟩;rw[HK.l5,<-HJ.out.2.2.1,dB];simp only[K3.o0,K4.o0,if_neg (show ¬0=3 by decide),Km.out];rfl
   ·go_roundg k;case measure=>omega
    case rel=>
     have h1:=Bc K3.o0;have h2:=Bc K4.o0;have h3:=Wf Km.out;have Dt:=HJ.out.2.2.2;have aH:dB bs m (k+1) bM a1=if last=0 then dB bs m k o6 a6 else .ok (o6,a6):=by rw[dB];simp only[K3.o0,K4.o0,if_neg (show ¬0=3 by decide),Km.out]
     rw[HJ.out.2.2.1]at aH;refine⟨last,a6,o6,Ei,Eh,rfl,K6.o0,(HJ.out.2.1.trans (Way.of _ _ _ _ _ (K3.l2.trans (K4.l2.trans (K5.out.mono (by simp)))))).trans K6.l1,λh0=>⟨?_,by omega⟩,λh0=>?_⟩
     ·rw[if_pos h0]at aH;exact aH.symm
     ·rw[if_neg h0]at aH;exact aH
   ·go_ret3;refine .inl ⟨c,?_,bZ,cY,rfl,HU.out _ ((K3.l2.trans (K4.l2.trans (K5.out.mono (by simp)))).mono (by simp) |>.trans f6)⟩;rw[HK.l5,<-HJ.out.2.2.1,dB];simp only[K3.o0,K4.o0,if_neg (show ¬1=3 by decide),Km.out];rfl
   ·go_roundg k;case measure=>omega
    case rel=>
     have h1:=Bc K3.o0;have h2:=Bc K4.o0;have h3:=Wf Km.out;have Dt:=HJ.out.2.2.2;have aH:dB bs m (k+1) bM a1=if last=0 then dB bs m k o6 a6 else .ok (o6,a6):=by rw[dB];simp only[K3.o0,K4.o0,if_neg (show ¬1=3 by decide),Km.out]
     rw[HJ.out.2.2.1]at aH;refine⟨last,a6,o6,Ei,Eh,rfl,K6.o0,(HJ.out.2.1.trans (Way.of _ _ _ _ _ (K3.l2.trans (K4.l2.trans (K5.out.mono (by simp)))))).trans K6.l1,λh0=>⟨?_,by omega⟩,λh0=>?_⟩
     ·rw[if_pos h0]at aH;exact aH.symm
     ·rw[if_neg h0]at aH;exact aH
   ·go_ret3;refine .inl ⟨c,?_,bZ,cY,rfl,HU.out _ ((K3.l2.trans (K4.l2.trans (K5.out.mono (by simp)))).mono (by simp) |>.trans f6)⟩;rw[HK.l5,<-HJ.out.2.2.1,dB];simp only[K3.o0,K4.o0,if_neg (show ¬2=3 by decide),Km.out];rfl
   ·go_roundg k;case measure=>omega
    case rel=>
     have h1:=Bc K3.o0;have h2:=Bc K4.o0;have h3:=Wf Km.out;have Dt:=HJ.out.2.2.2;have aH:dB bs m (k+1) bM a1=if last=0 then dB bs m k o6 a6 else .ok (o6,a6):=by rw[dB];simp only[K3.o0,K4.o0,if_neg (show ¬2=3 by decide),Km.out]
     rw[HJ.out.2.2.1]at aH;refine⟨last,a6,o6,Ei,Eh,rfl,K6.o0,(HJ.out.2.1.trans (Way.of _ _ _ _ _ (K3.l2.trans (K4.l2.trans (K5.out.mono (by simp)))))).trans K6.l1,λh0=>⟨?_,by omega⟩,λh0=>?_⟩
     ·rw[if_pos h0]at aH;exact aH.symm
     ·rw[if_neg h0]at aH;exact aH
   ·go_ret3;refine .inl ⟨3,?_,by decide,by decide,rfl,HU.out _ ((K3.l2.trans K4.l2).mono (by simp))⟩;rw[HK.l5,<-HJ.out.2.2.1,dB];simp only[K3.o0,K4.o0,if_pos];rfl
   ·go_ret3;refine .inl ⟨c,?_,bZ,cY,rfl,HU.out _ ((K3.l2.mono (by simp)).trans f4)⟩;rw[HK.l5,<-HJ.out.2.2.1,dB];simp only[K3.o0,hm];rfl
  ·have hM:M = .ok (bM,(a1+7)/8):=by rw[HK.l5,hH hl];rfl
   have c0:=cell_of aH.box 0;have c1:=cell_of aH.box 1;simp only[bF,aT,bP]at c0 c1;obtain⟨N,hN⟩:=ai bM.length;rw[<-hN]at c1;obtain⟨fG,rB⟩:=wK aH.own;have hle:=fG.le;rw[<-hN]at hle;have hsl:=λw=>Xy bits.aq N jP nV hle w
   have LR:∀w',Fr [] wr w'->Calls Tryz.prog 136 #[.pointer (some ⟨p,0,none⟩)] w' λe Fs=>e = .returned (.int .i64 ((a1+7)/8:Nat))/\Fs=w':=λw' f'=>(bits.zb1 p F bs a1 w' (bits.Hw aH.rd f' (by simp))).mono λe Fs h=>⟨h.1,h.2.symm⟩
   obtain⟨u,hu⟩:=ai ((a1+7)/8);rw[<-hu]at hM LR;have hNm:N<=m:=by rw[hN];exact aH.om
   have hl9:((last:Int)==0)=false:=by simp;omega
   have HJ:=cJ aH im hM hN fG LR;have HU:=ah Tp;clear aH im EK hH Tp hM hN fG rB LR hu;go_upto_region 16 with fail;go_quiet (exact uK (HJ.out.2.2.2.2.2 _ (Fr.drewN [] _ _)));go_wp2;go_ret3;have hN:=HJ.out.2.2.2.1;have fG:=HJ.out.2.2.2.2.1;refine .inr ⟨bM,u,jP,HJ.out.2.2.1,by rw[hN];rfl,?_,λx hx=>⟨?_,?_⟩,HU.out _ (Fr.drewN _ _ _)⟩
   ·have h1:lib.Rd wr jP bM.length bM:=⟨fG.cs,ay _,ck fG.le fG.max,λh=>by have:=fG.nil h;have:=fG.le;omega⟩;exact h1.fr (Fr.drewN _ _ _)
   ·rcases HJ.out.2.1.new x hx with h1|h1
    ·simp[af]at h1
    ·exact ck HK.o1.size h1
   ·exact rr HJ.out.1.own (qi hx)
end inf
namespace inf
open Go bm bl huf
theorem Lf {bs:LB} {a n v a1:Nat} (h:aY bs a n = .ok (v,a1)):a1<=8*bs.length:=by
 unfold aY at h;split at h
 ·simp only[gW,fj]at h;omega
 ·cases h
theorem qz8 (ls:LN):∀(f n v:Nat) (bits:List Bool),(cu ls f n v bits).2.1<=n+bits.length
 | 0,n,v,bits=>by
  cases h:iq ls n v with
  | some s=>rw[Ln h];simp
  | none=>rw[Wc h];simp
 | f+1,n,v,bits=>by
  cases h:iq ls n v with
  | some s=>rw[Ln h];simp
  | none=>
   by_cases hm:ef ls n v=true
   ·cases bits with
    | nil=>rw[Xk h hm];simp
    | cons b t=>rw[SP h hm];have:=qz8 ls f (n+1) (2*v+sT b) t;simp only[bU];omega
   ·rw[Xi h (by simpa using hm)];simp
theorem Ve {bs:LB} {ls:LN} {a s a1:Nat} (ha:a<=8*bs.length) (h:lD bs ls a = .ok (s,a1)):a1<=8*bs.length:=by
 unfold lD at h;split at h
 ·have:=qz8 ls 15 0 0 ((au bs).drop a);rw[eV,uo]at this;simp only[gW,fj]at h;omega
 ·cases h
theorem qvr {bs:LB} {most:Nat}:∀{n:Nat} {out o:LB} {q a:Nat},q<=bs.length->df bs most n out q = .ok (o,a)->a<=8*bs.length
 | 0,out,o,q,a,hq,h=>by simp only[df,gW,fj]at h;omega
 | n+1,out,o,q,a,hq,h=>by
  rw[df]at h;split at h
  ·split at h
   ·cases h
   ·exact qvr (by omega) h
  ·cases h
theorem qzr {bs:LB} {most a a1:Nat} {out o:LB} (h:fE bs most out a = .ok (o,a1)):a1<=8*bs.length:=by
 unfold fE at h;split at h
 ·split at h
  ·exact qvr (by omega) h
  ·cases h
 ·cases h
theorem qz1 {bs:LB} {s a n a1:Nat} (ha:a<=8*bs.length) (h:cL bs s a = .ok (n,a1)):a1<=8*bs.length:=by
 unfold cL at h;split at h
 ·simp only[gW,fj]at h;omega
 ·split at h
  ·simp only[gW,fj]at h;omega
  ·split at h
   ·cases h
   ·rename_i hh;have:=Lf hh;simp only[gW,fj]at h;omega
theorem zg1 {bs:LB} {s a n a1:Nat} (ha:a<=8*bs.length) (h:gu bs s a = .ok (n,a1)):a1<=8*bs.length:=by
 unfold gu at h;split at h
 ·simp only[gW,fj]at h;omega
 ·split at h
  ·cases h
  ·rename_i hh;have:=Lf hh;simp only[gW,fj]at h;omega
theorem zdo {bs:LB} {most:Nat} {dl:LN} {s a a1:Nat} {out o:LB} (ha:a<=8*bs.length) (h:eY bs most dl s out a = .ok (o,a1)):a1<=8*bs.length:=by
 unfold eY at h;split at h
 ·cases h
 ·rename_i n a2 h1;have e1:=qz1 ha h1;split at h
  ·cases h
  ·rename_i d a3 h2;have e2:=Ve e1 h2;split at h
   ·cases h
   ·split at h
    ·cases h
    ·rename_i b a4 h3;have e3:=zg1 e2 h3;split at h
     ·cases h
     ·split at h
      ·cases h
      ·simp only[gW,fj]at h;omega
theorem R1 {bs:LB} {most:Nat} {ll dl:LN}:∀{f:Nat} {out o:LB} {a a1:Nat},a<=8*bs.length->cU bs most ll dl f out a = .ok (o,a1)->a1<=8*bs.length
 | 0,out,o,a,a1,_,h=>by simp only[cU]at h;cases h
 | f+1,out,o,a,a1,ha,h=>by
  rw[cU]at h;split at h
  ·cases h
  ·rename_i s a2 hs;have h1:=Ve ha hs;split at h
   ·split at h
    ·cases h
    ·exact R1 h1 h
   ·split at h
    ·simp only[gW,fj]at h;omega
    ·split at h
     ·cases h
     ·split at h
      ·cases h
      ·rename_i o2 a3 hm;exact R1 (zdo h1 hm) h
theorem qvp {bs:LB}:∀{ps fs gs:LN} {a a1:Nat},a<=8*bs.length->eM bs ps fs a = .ok (gs,a1)->a1<=8*bs.length
 | [],fs,gs,a,a1,ha,h=>by simp only[eM,gW,fj]at h;omega
 | i::t,fs,gs,a,a1,ha,h=>by
  rw[eM]at h;split at h
  ·cases h
  ·rename_i v a2 hm;exact qvp (Lf hm) h
theorem Vo {bs:LB} {ls:LN} {n:Nat}:∀{f:Nat} {L K:LN} {a a1:Nat},a<=8*bs.length->cD bs ls n f L a = .ok (K,a1)->a1<=8*bs.length
 | 0,L,K,a,a1,_,h=>by simp only[cD]at h;cases h
 | f+1,L,K,a,a1,ha,h=>by
  rw[cD]at h;split at h
  ·simp only[gW,fj]at h;omega
  ·split at h
   ·cases h
   ·rename_i s a2 hs;have h1:=Ve ha hs;split at h
    ·exact Vo h1 h
    ·split at h
     ·cases h
     ·rename_i v a3 hm;split at h
      ·cases h
      ·exact Vo (Lf hm) h
theorem zie {bs:LB} {most a a1:Nat} {out o:LB} (h:nr bs most out a = .ok (o,a1)):a1<=8*bs.length:=by
 unfold nr at h;split at h
 ·cases h
 ·split at h
  ·cases h
  ·split at h
   ·cases h
   ·split at h
    ·cases h
    ·split at h
     ·cases h
     ·rename_i v3 b3 h3;have e3:=Lf h3;unfold qA at h;split at h
      ·cases h
      ·rename_i fs b4 h4;have e4:=qvp e3 h4;split at h
       ·cases h
       ·unfold qz at h;split at h
        ·cases h
        ·rename_i ls b5 h5;have e5:=Vo e4 h5;split at h
         ·cases h
         ·split at h
          ·cases h
          ·split at h
           ·cases h
           ·exact R1 e5 h
theorem zdp {bs:LB} {most k a a1:Nat} {out o:LB} (ha:a<=8*bs.length) (h:eZ bs most k out a = .ok (o,a1)):a1<=8*bs.length:=by
 unfold eZ at h;split at h
 ·exact qzr h
 ·split at h
  ·exact R1 ha h
  ·exact zie h
theorem qzt {bs:LB} {most:Nat}:∀{f a a1:Nat} {out o:LB},dB bs most f out a = .ok (o,a1)->a1<=8*bs.length
 | 0,a,a1,out,o,h=>by simp only[dB]at h;cases h
 | f+1,a,a1,out,o,h=>by
  rw[dB]at h;split at h
  ·cases h
  ·split at h
   ·cases h
   ·rename_i k a2 h2;split at h
    ·cases h
    ·split at h
     ·cases h
     ·rename_i o2 a3 h3;split at h
      ·exact qzt h
      ·simp only[gW,fj]at h;have:=zdp (Lf h2) h3;omega
theorem zh8 {bs out:LB} {m n:Nat} (h:kL bs m = .ok (out,n)):n<=bs.length:=by
 unfold kL at h;split at h
 ·cases h
 ·rename_i o a hr;have:=qzt hr;simp only[gW,fj]at h;omega
open Go.RowKit lib
theorem K0 {w:World} {a:OA} {cap:Nat} {bs:LB} (h:lib.Rd w a cap bs) {i:Nat} (hi:i<bs.length):∃g o,a=some ⟨g,o,none⟩/\w.cell? ⟨g,o+i,none⟩=some (.int .u8 (aO bs i:Nat)):=by obtain⟨g,o,ha,hc⟩:=h.at hi;refine⟨g,o,ha,?_⟩;rw[hc];unfold aO;rw[br hi];rfl
theorem zbw (a:OA) (cap:Nat) (bs:LB) (m:Nat) (w:World) (h:lib.Rd w a cap bs) (hlen:bs.length<=100000000) (Ps:m<=100000000) :
  Calls Tryz.prog 75 #[.slice a bs.length cap,.int .i64 m] w (pT w (kK bs m)):=by
 obtain⟨L,hL⟩:=ai bs.length;obtain⟨M,hM⟩:=ai (kK bs m);rw[<-hM];by_cases h2:bs.length<2
 ·have Co:M = .error 4:=by rw[hM];unfold kK;rw[if_pos h2]
  rw[<-hL]at h2 ⊢;have d0:decide ((L:Int)<2)=true:=by simp;omega
  have HM:=ah Co;clear h hL hM Co hlen h2;go_enter Tryz.func75,Tryz.ntmps75;go_wp2;go_ret3;exact .inl ⟨4,HM.out,by decide,by decide,rfl,Fr.refl _ _⟩
 ·obtain⟨g,o,rfl,c0⟩:=K0 h (i:=0) (by omega);obtain⟨g',o',ha',c1⟩:=K0 h (i:=1) (by omega);simp only[eJ,ru,and_true]at ha';obtain⟨rfl,rfl⟩:=ha';rw[ie]at c0;obtain⟨x0,iD⟩:∃x,x=aO bs 0:=⟨_,rfl⟩;obtain⟨x1,eQ⟩:∃x,x=aO bs 1:=⟨_,rfl⟩;have b0:x0<256:=by rw[iD];exact Db _ _
  have b1:x1<256:=by rw[eQ];exact Db _ _
  rw[<-iD]at c0;rw[<-eQ]at c1;have hM1:M=if sq x0 x1=false then .error 3 else match kL (bs.drop 2) m with
    | .error e=>.error e
    | .ok (out,n)=>if bs.length-(n+2)<4 then .error 4 else if vN bs (n+2)=sums.fV out then .ok (out,n+6) else .error 6:=by
   rw[hM];unfold kK;rw[if_neg h2,<-iD,<-eQ]
   all_goals rfl
  have hle:=h.le;have hmx:=h.max;have wh:lib.Rd w (aL (some ⟨g,o,none⟩) cap 2 1) (cap-2) (bs.drop 2):=h.drop 2 (by omega);have kv:∀w',Fr [] w w'->Calls Tryz.prog 110 #[.slice (aL (some ⟨g,o,none⟩) cap 2 1) (L-2:Nat) (cap-2),.int .i64 m] w' (pT w' (kL (bs.drop 2) m)):=λw' f=>by have:=VA _ (cap-2) (bs.drop 2) m w' (wh.fr f) (by rw[eV];omega) Ps;rwa [eV,<-hL]at this
  have hsl:=lib.Lx bits.aq 2 (some ⟨g,o,none⟩) L cap 2 rfl (by omega) (by omega);rw[<-hL]at h2 hle ⊢;have d0:decide ((L:Int)<2)=false:=by simp;omega
  obtain⟨y0,XZ⟩:∃y,y=x0%16:=⟨_,rfl⟩;obtain⟨y1,sB⟩:∃y,y=x0/16:=⟨_,rfl⟩;obtain⟨z,hz⟩:=ai (x0*256+x1);obtain⟨y2,lb⟩:∃y,y=z%31:=⟨_,rfl⟩;obtain⟨y3,LJ⟩:∃y,y=x1/32%2*32:=⟨_,rfl⟩;have e0:=u8_and15 x0 b0;have e3:=zb3 x1 b1;rw[<-XZ]at e0;rw[<-LJ]at e3;have e1:(x0:Int)/16=(y1:Int):=by omega
  have eor:bits .or .i64 ((x0:Int)*256) (x1:Int)=(z:Int):=by have:=Na x0 x1 8 (by decide) (by simpa using b1) (by omega);rw[hz];simpa using this
  have zaA:Int.tmod (z:Int) 31=(y2:Int):=by rw[Int.tmod_eq_emod_of_nonneg (by omega)];omega
  have QS:(z:Int)%31=(y2:Int):=by omega
  have hzh:sq x0 x1=((y0==8)&&(decide (y1<=7)&&((y2==0)&&(y3==0)))):=by unfold sq;rw[<-XZ,<-sB,<-hz,<-lb];congr 3;rw[Bool.eq_iff_iff,beq_iff_eq,beq_iff_eq];omega
  have i0:(0:Int)<(L:Int):=by omega
  have i1:(1:Int)<(L:Int):=by omega
  have LI:y0<256/\y1<256/\y3<256/\z<65536/\y2<31:=by omega
  have H:=cJ h hlen hL hM1 kv hzh;clear h hlen hL hM1 kv hzh hM iD eQ XZ sB lb LJ hz wh h2;go_enter Tryz.func75,Tryz.ntmps75;go_upto_region 3 with fail;clear d0;go_cut [43] from 11 to 43 (λs43 wc=>s43 = .bool (!((y0==8)&&(decide (y1<=7)&&((y2==0)&&(y3==0)))))/\Fr [] w wc)
  case first=>
   by_cases k0:y0=8
   ·have t0:((y0:Int)!=8)=false:=by simp;omega
    by_cases k1:y1<=7
    ·have t1:decide ((7:Int)<y1)=false:=by simp;omega
     by_cases k2:y2=0
     ·have t2:((y2:Int)!=0)=false:=by simp;omega
      by_cases k3:y3=0
      ·have t3:((y3:Int)!=0)=false:=by simp;omega
       have K:=aG k0 k1 k2 k3;clear k0 k1 k2 k3;go_quiet (fail);go_wp2;go_meet;case rel=>exact⟨by obtain⟨k0,k1,k2,k3⟩:=K.out;simp[k0,k1,k2,k3],Fr.drewN _ _ _⟩
      ·have t3:((y3:Int)!=0)=true:=by simp;omega
       have K:=ah k3;clear k0 k1 k2 k3;go_quiet (fail);go_wp2;go_meet;case rel=>exact⟨by have:=K.out;simp[this],Fr.drewN _ _ _⟩
     ·have t2:((y2:Int)!=0)=true:=by simp;omega
      have K:=ah k2;clear k0 k1 k2;go_quiet (fail);go_wp2;go_meet;case rel=>exact⟨by have:=K.out;simp[this],Fr.drewN _ _ _⟩
    ·have t1:decide ((7:Int)<y1)=true:=by simp;omega
     have K:=ah k1;clear k0 k1;go_quiet (fail);go_wp2;go_meet;case rel=>exact⟨by have:=K.out;simp[this],Fr.drewN _ _ _⟩
   ·have t0:((y0:Int)!=8)=true:=by simp;omega
    have K:=ah k0;clear k0;go_quiet (fail);go_wp2;go_meet;case rel=>exact⟨by have:=K.out;simp[this],Fr.drewN _ _ _⟩
  case rest=>
   obtain⟨rfl,f1⟩:=hcut;rw[<-H.out.2.2.2.2.2];obtain⟨bz,Ml⟩:∃b,b=sq x0 x1:=⟨_,rfl⟩;rw[<-Ml];obtain⟨h1,h2,h3,h4,h5,h6⟩:=H.out;rw[<-Ml]at h4;have HF:=aw f1 h4 (h5 wc f1);clear f1 h4 h5 h6 h1 h2 h3 Ml e0 e1 e3 eor zaA QS LI c0 c1;cases bz
   ·go_wp2;go_ret3;exact .inl ⟨3,by rw[HF.o1];first|rfl|(rw[if_pos rfl]),by decide,by decide,rfl,HF.o0⟩
   ·obtain⟨qa,Ty⟩:∃q,q=aL (some ⟨g,o,none⟩) cap 2 1:=⟨_,rfl⟩;obtain⟨qc,Ys⟩:∃q,q=cap-2:=⟨_,rfl⟩;obtain⟨qn,Ez⟩:∃q,q=L-2:=⟨_,rfl⟩;rw[<-Ty,<-Ys,<-Ez]at hsl;have kv:=HF.l2;rw[<-Ty,<-Ys,<-Ez]at kv;have yL:M=match kL (bs.drop 2) m with
      | .error e=>.error e
      | .ok (out,n)=>if bs.length-(n+2)<4 then .error 4 else if vN bs (n+2)=sums.fV out then .ok (out,n+6) else .error 6:=by
     rw[HF.o1];first|rfl|(rw[if_neg (by decide)])
    have HR:=ak kv yL;clear Ty Ys Ez kv yL;go_upto_region 6 with (go_at_call 110;refine HR.o0.mono ?_;rintro e w2 (⟨c,hm,k0,k1,rfl,f2⟩|⟨out,n,ao,hm,rfl,MU,nb2,f2⟩))
    ·have K2:=ak hm f2;have d2:((c:Int)!=0)=true:=by simp;omega
     clear hm f2 hsl;go_wp2;go_ret3;exact .inl ⟨c,by rw[HR.l1,K2.o0],k0,k1,rfl,HF.o0.trans K2.l1⟩
    ·have hnu:=zh8 hm;rw[eV,<-H.out.2.2.1]at hnu;obtain⟨n2,jM⟩:=ai (n+2);have en2:(n:Int)+2=(n2:Int):=by omega
     have ZO:L<=100000000:=by rw[H.out.2.2.1];exact H.out.2.1
     have TK:n2<=L:=by omega
     have vD:M=if L-n2<4 then .error 4 else if vN bs n2=sums.fV out then .ok (out,n2+4) else .error 6:=by rw[HR.l1,hm,jM,H.out.2.2.1]
     have K2:=aQ vD MU nb2 (HF.o0.trans f2) jM;clear hm MU nb2 f2 jM vD hsl;by_cases h4:L-n2<4
     ·have d4:decide ((L:Int)-(n2:Int)<4)=true:=by simp;omega
      have H4:=ah h4;clear h4;go_wp2;go_ret3;exact .inl ⟨4,by rw[K2.o0,if_pos H4.out],by decide,by decide,rfl,K2.l1.2.2.1⟩
     ·have d4:decide ((L:Int)-(n2:Int)<4)=false:=by simp;omega
      go_upto_region 11 with fail;clear d4 en2;have MT:=H.out.1.fr K2.l1.2.2.1;have bQ:bs.length=L:=H.out.2.2.1.symm;obtain⟨g0,o0,q0,c0⟩:=K0 MT (i:=n2) (by omega);obtain⟨g1,o1,q1,c1⟩:=K0 MT (i:=n2+1) (by omega);obtain⟨g2,o2,q2,c2⟩:=K0 MT (i:=n2+2) (by omega);obtain⟨g3,o3,q3,c3⟩:=K0 MT (i:=n2+3) (by omega);simp only[eJ,ru,and_true]at q0 q1 q2 q3;obtain⟨rfl,rfl⟩:=q0;obtain⟨rfl,rfl⟩:=q1;obtain⟨rfl,rfl⟩:=q2;obtain⟨rfl,rfl⟩:=q3;have l0:=Db bs n2;have l1:=Db bs (n2+1);have l2:=Db bs (n2+2);have l3:=Db bs (n2+3);have Dx:vN bs n2=aO bs n2*16777216+aO bs (n2+1)*65536+aO bs (n2+2)*256+aO bs (n2+3):=rfl;generalize aO bs n2=y0 at *;generalize aO bs (n2+1)=y1 at *;generalize aO bs (n2+2)=y2 at *;generalize aO bs (n2+3)=y3 at *;obtain⟨z1,jr⟩:∃z,z=y0*16777216+y1*65536:=⟨_,rfl⟩;obtain⟨z2,mv⟩:∃z,z=z1+y2*256:=⟨_,rfl⟩;obtain⟨z3,uY⟩:∃z,z=z2+y3:=⟨_,rfl⟩;have r1:bits .or .u32 ((y0:Int)*16777216) ((y1:Int)*65536)=(z1:Int):=by have:=sums.y8 (y0*16777216) (y1*65536) 24 (by omega) (by decide) (by omega) (by omega);rw[<-jr]at this;simpa using this
      have r2:bits .or .u32 (z1:Int) ((y2:Int)*256)=(z2:Int):=by have:=sums.y8 z1 (y2*256) 16 (by omega) (by decide) (by omega) (by omega);rw[<-mv]at this;simpa using this
      have r3:bits .or .u32 (z2:Int) (y3:Int)=(z3:Int):=by have:=sums.y8 z2 y3 8 (by omega) (by decide) (by omega) (by omega);rw[<-uY]at this;exact this
      have hz:vN bs n2=z3:=by rw[Dx];omega
      have Em:z3<4294967296:=by omega
      have i0:(n2:Int)<(L:Int):=by omega
      have i1:(n2:Int)+1<(L:Int):=by omega
      have i2:(n2:Int)+2<(L:Int):=by omega
      have i3:(n2:Int)+3<(L:Int):=by omega
      have had:=sums.qsr ao out.length out w2.drew (K2.l1.1.fr (Fr.av [] w2));obtain⟨N,hN⟩:=ai out.length;obtain⟨A,hA⟩:=ai (sums.fV out);have hAl:A<4294967296:=by rw[hA];exact sums.Np out
      have Co:M=if z3=A then .ok (out,n2+4) else .error 6:=by rw[K2.o0,if_neg h4,hz,hA]
      rw[<-hN,<-hA]at had;rw[<-hN];obtain⟨S,hS⟩:∃S:List Nat,S=[]:=⟨_,rfl⟩;have uu:g∉S:=by rw[hS];simp
      have x0:∀x,(sup S w2.drew x).cell? ⟨g,o+n2,none⟩=some (.int .u8 y0):=λx=>(dY S w2.drew x).cell ((Fr.av [] w2).cell c0 (by simp)) uu
      have x1:∀x,(sup S w2.drew x).cell? ⟨g,o+(n2+1),none⟩=some (.int .u8 y1):=λx=>(dY S w2.drew x).cell ((Fr.av [] w2).cell c1 (by simp)) uu
      have x2:∀x,(sup S w2.drew x).cell? ⟨g,o+(n2+2),none⟩=some (.int .u8 y2):=λx=>(dY S w2.drew x).cell ((Fr.av [] w2).cell c2 (by simp)) uu
      have x3:∀x,(sup S w2.drew x).cell? ⟨g,o+(n2+3),none⟩=some (.int .u8 y3):=λx=>(dY S w2.drew x).cell ((Fr.av [] w2).cell c3 (by simp)) uu
      have HZ:=aG had Co hN hS;clear had Co hN hS hA hz jr mv uY Dx bQ MT c0 c1 c2 c3 h4 uu;refine j4 32 [(false,0),(false,1),(false,2),(false,3),(false,4),(false,5),(false,6),(false,7),(false,8),(false,9),(false,10),(false,11),(false,12),(false,13),(false,14),(false,15),(false,16),(false,17),(false,18),(false,19),(false,20),(false,21),(false,22),(false,23),(false,24),(false,25),(false,26),(false,27),(false,28),(false,29),(true,30),(false,31)] S (by kernel_rfl) (by kernel_rfl) (λ_ _ d _ _ h=>by cases d<;>exact h) ?_;simp only[jm];refine dT 30 rfl ?_;simp only[bD];repeat (go_big_quiet_step (fail))
      refine wpQuiet_nil ?_;clear x0 x1 x2 x3;refine eT rfl ?_;intro X hX;go_wp2_with (go_at_call 104;refine HZ.o0.mono ?_;rintro e w3 ⟨rfl,f3⟩);refine hX.out _ _ (by rw[HZ.l3];exact f3) ?_;clear hX X;refine dT 1 rfl ?_;simp only[bD];repeat (go_big_quiet_step (fail))
      refine wpQuiet_nil ?_;refine ic ?_;have HF3:=ah (K2.l1.2.2.1.trans ((Fr.av [] w2).trans f3));have rI:=ah f3;clear f3 r1 r2 r3 i0 i1 i2 i3;by_cases hza:z3=A
      ·have d5:((z3:Int)!=(A:Int))=false:=by simp;omega
       have HA:=ah hza;clear hza;go_wp2;go_ret3;have f23:=(Fr.av [] w2).trans rI.out;refine .inr ⟨out,n2+4,ao,by rw[HZ.o1,if_pos HA.out],by rw[HZ.o2];first|rfl|go_num,K2.l1.1.fr f23,λx hx=>⟨?_,eW (K2.l1.2.1 x hx).2 f23.size⟩,HF3.out⟩;exact ck HF.o0.size (K2.l1.2.1 x hx).1
      ·have d5:((z3:Int)!=(A:Int))=true:=by simp;omega
       have HA:=ah hza;clear hza;go_wp2;go_ret3;exact .inl ⟨6,by rw[HZ.o1,if_neg HA.out],by decide,by decide,rfl,HF3.out⟩
end inf
namespace trip
open Go Go.RowKit lib bm bl huf inf defl mat wb
theorem RQ.read {b r:LB} (h:RQ b r) (ext:LB) (m:Nat) (hm:b.length<=m):kL (r++ext) m = .ok (b,r.length):=by
 rcases h.2 with rfl|⟨level,hl,hr⟩
 ·exact qow b ext m hm
 ·exact zcs hr hl ext m hm
theorem qqt {level:Int} {b r:LB} (h:RQ b r) (ext:LB) (m:Nat) (hm:b.length<=m):kK (aE level r b++ext) m = .ok (b,(aE level r b).length):=by
 have hz:aE level r b++ext=120::oT level::(r++(sums.fX (sums.fV b)++ext)):=by unfold aE;simp
 have hlen:(aE level r b).length=r.length+6:=by unfold aE;simp[sums.wJ]
 have h0:aO (aE level r b++ext) 0=120:=by rw[hz];rfl
 have h1:aO (aE level r b++ext) 1=(oT level).toNat:=by rw[hz];rfl
 have hh:sq 120 (oT level).toNat=true:=by
  unfold oT;split
  ·decide
  ·split<;>decide
 have hd:(aE level r b++ext).drop 2=r++(sums.fX (sums.fV b)++ext):=by rw[hz];rfl
 have jC:(aE level r b++ext).length=r.length+6+ext.length:=by rw[aA,hlen]
 have Dx:vN (aE level r b++ext) (r.length+2)=sums.fV b:=by
  have hb:∀i,i<4->aO (aE level r b++ext) (r.length+2+i)=((sums.fX (sums.fV b))[i]?.getD 0).toNat:=λi hi=>by unfold aO;rw[hz,show r.length+2+i=r.length+i+1+1 by omega,bP,bP,ye (by omega),show r.length+i-r.length=i by omega,rO (by rw[sums.wJ];exact hi)]
  have:=sums.zbh (sums.fV b) (sums.Np b) _ rfl;unfold vN;rw[show r.length+2=r.length+2+0 from rfl,hb 0 (by decide),show r.length+2+0+1=r.length+2+1 from rfl,hb 1 (by decide),show r.length+2+0+2=r.length+2+2 from rfl,hb 2 (by decide),show r.length+2+0+3=r.length+2+3 from rfl,hb 3 (by decide)];exact this
 unfold kK;rw[if_neg (by omega),h0,h1,hh,if_neg (by decide),hd,h.read _ m hm];dsimp only;rw[if_neg (by omega),Dx,if_pos rfl,hlen]
end trip
namespace pk
open Go lib
theorem US (f c:Nat):qU f c 0=[UInt8.ofNat c]:=by cases f<;>simp[qU]
theorem zig {f c n:Nat} (h:0<n) (hf:n<=f):qU f c n=UInt8.ofNat (c+128)::qU (f-1) (n%128) (n/128):=by
 cases f with
 | zero=>omega
 | succ f=>rw[qU,if_neg (by omega)];rfl
theorem qu1 {k n:Nat} (hk:1<=k) (hk7:k<=7) (h5:k≠5) (hn:n<=65536) (ext:LB):qt (hd k n++ext) = .ok (k,n,(hd k n).length):=by
 unfold hd;rw[show k%8=k by omega];by_cases h1:n/16=0
 ·rw[h1,US];have hx:(UInt8.ofNat (k*16+n%16)).toNat=k*16+n%16:=x7 (by omega);unfold qt;rw[vZ];simp only[zi,qj,aT,hx,if_true];rw[if_neg (by omega),if_neg (by omega)];simp only[gW,fj,yd];refine⟨by omega,by omega,trivial⟩
 ·rw[zig (by omega) (by omega)];have hx:(UInt8.ofNat (k*16+n%16+128)).toNat=k*16+n%16+128:=x7 (by omega);by_cases h2:n/16/128=0
  ·rw[h2,US];have hy:(UInt8.ofNat (n/16%128)).toNat=n/16%128:=x7 (by omega);unfold qt;rw[vZ];simp only[zi,qj,aT,hx,if_true];rw[if_neg (by omega),if_pos (by omega),vZ];simp only[aT,bP,hy,KP,if_false,pI,Nat.reduceSub,Nat.reducePow];rw[if_neg (by omega),if_neg (by omega),if_neg (by omega)];simp only[gW,fj,bU,kg];refine⟨by omega,by omega,trivial⟩
  ·rw[zig (by omega) (by omega)];have hy:(UInt8.ofNat (n/16%128+128)).toNat=n/16%128+128:=x7 (by omega);rw[show n/16/128/128=0 by omega,US];have hz:(UInt8.ofNat (n/16/128%128)).toNat=n/16/128%128:=x7 (by omega);unfold qt;rw[vZ];simp only[zi,qj,aT,hx,if_true];rw[if_neg (by omega),if_pos (by omega),vZ];simp only[aT,bP,hy,KP,if_false,pI,Nat.reduceSub,Nat.reducePow];rw[if_pos (by omega),vZ];simp only[Nat.reduceAdd,aT,bP,hz,Nat.reduceMul,Nat.reduceSub,Nat.reducePow];rw[if_neg (by omega),if_neg (by omega),if_neg (by omega),if_neg (by omega)];simp only[gW,fj,bU,kg];refine⟨by omega,by omega,trivial⟩
theorem Sc (pre X ext:LB):(pre++X++ext).drop pre.length=X++ext:=by rw[eE,KE]
theorem zd6 (pre X Y ext:LB):(pre++(X++Y)++ext).drop (pre.length+X.length)=Y++ext:=by rw[<-C5,Sc,eE,KE]
theorem qti {pre ext text r:LB} {k:Nat} (hk:1<=k) (TP:k<=4) (hn:text.length<=65536) (hr:trip.RQ text r) :
  ig (pre++(hd k text.length++defl.aE 2 r text)++ext) pre.length = .ok (⟨k,pre.length,text.length,crc.crc (hd k text.length++defl.aE 2 r text),text,[],0⟩,pre.length+(hd k text.length++defl.aE 2 r text).length):=by
 unfold ig;rw[Sc,eE (hd k text.length),qu1 hk (by omega) (by omega) hn];simp only;unfold gj;rw[if_neg (by omega),if_neg (by omega)];simp only;rw[zd6,trip.qqt hr ext 65536 hn];simp only[if_true];rw[<-eE,List.take_left' (by rw[aA];omega),aA,oW]
open Go.RowKit bm
structure qZ (w:World) (r:Nat) (a:OA) (cap:Nat) (bs:LB) (at_:Nat):Prop where
 box:w.heap[r]?=some (.cells #[.slice a bs.length cap,.int .i64 at_] 85 (0,0))
 rd:lib.Rd w a cap bs
 le:at_<=bs.length
 off:bs≠[]->∀x∈af a,x≠r
theorem qZ.fr {w w':World} {r:Nat} {a:OA} {cap at_:Nat} {bs:LB} (h:qZ w r a cap bs at_) (f:Fr [] w w'):qZ w' r a cap bs at_:=
 ⟨f.af h.box (by simp),h.rd.fr f,h.le,h.off⟩
theorem FN (r:Nat) (a:OA) (cap:Nat) (bs:LB) (at_ n:Nat) (w:World) (h:qZ w r a cap bs at_) (hlen:bs.length<=100000000) (hn:bs.length<at_+n) :
  Calls Tryz.prog 43 #[.pointer (some ⟨r,0,none⟩),.int .i64 n] w λe w'=>e = .returned (.tuple #[.slice none 0 0,.int .i64 4])/\Fr [] w w':=by
 obtain⟨L,hL⟩:=ai bs.length;have c0:w.cell? ⟨r,0,none⟩=some (.slice a L cap):=by rw[cell_of h.box,hL];rfl
 have c1:w.cell? ⟨r,1,none⟩=some (.int .i64 at_):=by rw[cell_of h.box];rfl
 have hle:=h.le;rw[<-hL]at hle hlen hn;have d:decide ((n:Int)>(L:Int)-at_)=true:=by simp;omega
 clear hL h;go_enter Tryz.func43,Tryz.ntmps43;go_upto_region 1 with fail;go_quiet (fail);go_wp2;go_ret2;exact⟨rfl,Fr.drewN _ _ _⟩
theorem Dd (r:Nat) (a:OA) (cap:Nat) (bs:LB) (at_ n:Nat) (w:World) (h:qZ w r a cap bs at_) (hlen:bs.length<=100000000) (hn:at_+n<=bs.length) :
  Calls Tryz.prog 43 #[.pointer (some ⟨r,0,none⟩),.int .i64 n] w λe w'=>e = .returned (.tuple #[.slice (cutAt a cap at_) n (cap-at_),.int .i64 0])/\qZ w' r a cap bs (at_+n)/\Fr [r] w w':=by
 obtain⟨L,hL⟩:=ai bs.length;have c0:w.cell? ⟨r,0,none⟩=some (.slice a L cap):=by rw[cell_of h.box,hL];rfl
 have c1:w.cell? ⟨r,1,none⟩=some (.int .i64 at_):=by rw[cell_of h.box];rfl
 have z1:=aW h.box 1;have hle:=h.le;have cZ:=h.rd.le;have HH:=ak h hL;rw[<-hL]at hle hlen hn cZ;have d:decide ((n:Int)>(L:Int)-at_)=false:=by simp;omega
 clear hL h;go_enter Tryz.func43,Tryz.ntmps43;go_upto_region 1 with fail;go_quiet (fail);go_upto_region 4 with fail;have xe:=λw'=>lib.run_slice_lh aq at_ n a L cap ((at_:Int)+n-n) ((at_:Int)+n) (by omega) rfl (by omega) w'
 rw[show (at_:Int)+n-n=(at_:Int) by omega]at xe;have e2:wrap64 ((at_:Int)+n-n)=(at_:Int):=by unfold wrap64;omega
 have e3:(at_:Int)+n-n=(at_:Int):=by omega
 obtain⟨w2,bL⟩:∃w2,w2=(w.drewN nq).setCell ⟨r,1,none⟩ (.int .i64 ((at_:Int)+n)):=⟨_,rfl⟩;rw[<-bL];have hb:=bI (w:=w.drewN nq) (o:=1) (show (w.drewN nq).heap[r]?=_ from HH.o0.box) (.int .i64 ((at_:Int)+n));rw[<-bL]at hb;have f2:Fr [r] w w2:=by rw[bL];exact (Fr.drewN [r] w nq).setCell (by simp) _
 have c0':w2.cell? ⟨r,0,none⟩=some (.slice a L cap):=by rw[cell_of hb,HH.l1];rfl
 have c1':w2.cell? ⟨r,1,none⟩=some (.int .i64 ((at_:Int)+n)):=by rw[cell_of hb];rfl
 have H2:=ak hb f2;clear hb f2 bL c0 c1 z1 d;go_quiet (fail);go_wp2;go_ret2;refine⟨rfl,⟨?_,Af HH.o0.rd (H2.l1.step (Fr.drewN [r] w2 _) (λx hx=>.inl hx)) (λhb x hx hm=>HH.o0.off hb x hx (by simpa using hm)),by rw[<-HH.l1];omega,HH.o0.off⟩,H2.l1.trans (Fr.drewN _ _ _)⟩;have:=H2.o0;simpa using this
theorem u8_and7 (x:Nat) (h:x<16):bits .and .u8 ((x:Nat):Int) 7=((x%8:Nat):Int):=by
 have aD:∀y:Fin 16,bits .and .u8 ((y.val:Nat):Int) 7=((y.val%8:Nat):Int):=by decide +kernel
 exact aD ⟨x,h⟩
theorem qqw (x:Nat) (h:x<256):bits .and .u8 ((x:Nat):Int) 127=((x%128:Nat):Int):=by
 have aD:∀y:Fin 256,bits .and .u8 ((y.val:Nat):Int) 127=((y.val%128:Nat):Int):=by decide +kernel
 exact aD ⟨x,h⟩
theorem zdq (n v k:Nat) (hk:k<=62) (hn:n<2^k) (hv:v*2^k<9223372036854775808):bits .or .i64 (n:Int) ((v:Int)*((2^k:Nat):Int))=((n+v*2^k:Nat):Int):=by
 have h1:=CY k 62 hk;have Ka:2^62=4611686018427387904:=by decide
 rw[Ka]at h1;rw[<-C6,NG _ _ (by omega) hv,Fy n v k hn,mf v,Hg]
def Rg (w:World) (r:Nat) (a:OA) (cap:Nat) (bs:LB) (at_:Nat) (P:Except Nat (Nat×Nat×Nat)) (e:Ending) (w':World):Prop:=
 Fr [r] w w'/\((∃x,P = .error x/\0<x/\x<100/\e = .returned (.tuple #[.int .i64 0,.int .i64 0,.int .i64 (x:Nat)]))\/
  ∃k s n,P = .ok (k,s,n)/\k<8/\s<=65536/\e = .returned (.tuple #[.int .i64 (k:Nat),.int .i64 (s:Nat),.int .i64 0])/\qZ w' r a cap bs (at_+n))
theorem RY (bs:LB) (a i:Nat):(bs.drop a)[i]?=bs[a+i]?:=by rw[Ai]
theorem qz9 (r:Nat) (a:OA) (cap:Nat) (bs:LB) (at_:Nat) (w:World) (h:qZ w r a cap bs at_) (hlen:bs.length<=100000000) :
  Calls Tryz.prog 73 #[.pointer (some ⟨r,0,none⟩)] w (Rg w r a cap bs at_ (qt (bs.drop at_))):=by
 obtain⟨P,hP⟩:=ai (qt (bs.drop at_));rw[<-hP];have Qs:vZ (bs.drop at_) 5 0 0 0=P:=hP.symm;have H:=aw h hlen Qs;clear h hlen hP Qs;go_enter Tryz.func73,Tryz.ntmps73;go_upto_block 0 with fail;go_wp2;go_loopg [2,3,8] 5 (λk s2 s3 s8 wr=>∃i kd sz:Nat,s2 = .int .i64 (kd:Nat)/\s3 = .int .i64 (sz:Nat)/\s8 = .int .i64 (i:Nat)/\i+k=5/\kd<8/\(0<i->sz<2^(7*i-3))/\vZ (bs.drop at_) k i kd sz=P/\qZ wr r a cap bs (at_+i)/\Fr [r] w wr);case atStart=>exact⟨0,0,0,rfl,rfl,rfl,rfl,by decide,by simp,H.l2,H.o0,Fr.refl _ _⟩
 case round=>
  obtain⟨i,kd,sz,rfl,rfl,rfl,bX,lG,cV,gC,hr,hf⟩:=hrel;by_cases hi:i<5
  ·obtain⟨k,rfl⟩:∃k,gk=k+1:=⟨gk-1,by omega⟩;by_cases dP:at_+i<bs.length
   ·have ht:=Dd r a cap bs (at_+i) 1 wr hr H.o1 (by omega);obtain⟨g,o,rfl,hc⟩:=hr.rd.at dP;have cZ:=hr.rd.le;have PQ:=hr.off (λe=>by rw[e]at dP;simp at dP) g (by simp[af]);have ec:cutAt (some ⟨g,o,none⟩) cap (at_+i)=some ⟨g,o+(at_+i),none⟩:=by unfold cutAt;rw[if_neg (by omega)];simp[Bb]
    rw[ec]at ht;obtain⟨p,hp⟩:=ai (o+(at_+i));rw[<-hp]at ht hc;have zK:(bs.drop at_)[i]?=some bs[at_+i]:=by rw[RY,br dP]
    have hb:=iL bs[at_+i];obtain⟨b,tP⟩:=ai (bs[at_+i]);rw[<-tP]at hc zK hb;obtain⟨c,hcv⟩:=ai b.toNat;rw[<-hcv]at hc hb;rw[vZ,zK]at gC;simp only[<-hcv]at gC;have HT:=aQ ht hc gC hf PQ;clear ht hc gC hf PQ zK tP hcv hr ec cZ hp;go_upto_region 5 with (go_at_call 43;refine HT.o0.mono ?_;rintro e w3 ⟨rfl,sr,f3⟩);have wm:=f3.cell HT.l1.1 (by simp;exact HT.l1.2.2.2);have H3:=aw sr (HT.l1.2.2.1.trans f3) wm;clear sr f3;have zS:=qqw c hb;obtain⟨y,hy⟩:=ai (c%128);rw[<-hy]at zS;by_cases h0:i=0
    ·subst h0;have h7:=u8_and7 (c/16) (by omega);have pz:=inf.u8_and15 c hb;obtain⟨y1,sB⟩:∃y,y=c/16%8:=⟨_,rfl⟩;obtain⟨y2,lb⟩:∃y,y=c%16:=⟨_,rfl⟩;have gC:=HT.l1.2.1;rw[if_pos rfl,<-sB,<-lb]at gC;rw[<-sB,show ((c/16:Nat):Int)=(c:Int)/16 by omega]at h7;rw[<-lb]at pz;have Ov:y1<8:=by omega
     have zaW:y2<16:=by omega
     have HP:=ah gC;clear gC hy sB lb cV;go_upto_region 8 with fail;go_quiet (fail);clear h7 pz zS wm;obtain⟨w4,gw⟩:=ai (w3.drewN nq);rw[<-gw];have f4:Fr [] w3 w4:=by rw[gw];exact Fr.drewN [] w3 nq
     have mK:=H3.o0.fr f4;have Zr:=f4.cell H3.l2 (by simp);have H4:=ak mK (H3.o1.step f4 (by simp));clear gw f4 mK;by_cases AB:y1=0
     ·subst AB;go_wp2;go_ret3;exact⟨H4.l1,.inl ⟨3,by rw[<-HP.out];simp,by decide,by decide,rfl⟩⟩
     ·have d0:((y1:Int)==0)=false:=by simp;omega
      by_cases hk5:y1=5
      ·subst hk5;go_wp2;go_ret3;exact⟨H4.l1,.inl ⟨3,by rw[<-HP.out];simp,by decide,by decide,rfl⟩⟩
      ·have d5:((y1:Int)==5)=false:=by simp;omega
       have gC:=HP.out;rw[if_neg (by omega)]at gC;by_cases h128:128<=c
       ·rw[if_pos h128]at gC;have mQ:=ah gC;clear gC AB hk5;go_wp2;go_roundg k;case measure=>omega
        case rel=>exact⟨1,y1,y2,by go_num,by go_num,rfl,by omega,Ov,λ_=>by omega,mQ.out,H4.o0,H4.l1⟩
       ·rw[if_neg h128]at gC;have mQ:=ah gC;have hL:decide (128<=(c:Int))=false:=by simp;omega
        have ve:decide ((2147483647:Int)<y2)=false:=by simp;omega
        have dE:decide ((65536:Int)<y2)=false:=by simp;omega
        clear gC AB hk5;go_wp2;go_ret3;exact⟨H4.l1,.inr ⟨y1,y2,1,mQ.out.symm,Ov,by omega,rfl,H4.o0⟩⟩
    ·have gC:=HT.l1.2.1;rw[if_neg h0,<-hy]at gC;have I8:=cV (by omega);have d0:((i:Int)==0)=false:=by simp;omega
     obtain⟨m,hm⟩:=ai (7*i-3);obtain⟨q,hq⟩:=ai (2^m);have Px:m<=25:=by omega
     have hqb:q<=33554432:=by have:=kh (n:=2) (by decide) Px;rw[hq];simpa using this
     have vq:=zdq sz y m (by omega) (by rw[hm];exact I8) (by
      rw[<-hq]
      have:y*q<=127*q:=uN _ (by omega)
      omega)
     rw[<-hm,<-hq]at gC I8;rw[<-hq]at vq;obtain⟨z,hz⟩:=ai (sz+y*q);rw[<-hz]at gC vq;have hyq:y*q<=127*q:=uN _ (by omega);have Em:z<4294967296/\(i<4->z<2^(7*(i+1)-3)):=by refine⟨by omega,λ_=>?_⟩;rw[show 7*(i+1)-3=m+7 by omega,mU,<-hq];omega
     have em:(7:Int)*(i:Int)-3=(m:Int):=by omega
     have ew:wrap64 ((7:Int)*(i:Int)-3)=(m:Int):=by unfold wrap64;omega
     have esh:wrap64 ((y:Int)*2^m)=(y:Int)*(q:Int):=by
      have e1:(y:Int)*2^m=((y*q:Nat):Int):=by rw[hq,C6,Bh];rfl
      rw[e1];unfold wrap64;omega
     have Pb:bits .or .i64 (sz:Int) (wrap64 ((y:Int)*2^(7*i-3)))=(z:Int):=by rw[<-hm,esh,vq]
     have LI:y<128:=by omega
     have HP:=aG gC Em.2 hq hm;have XU:=Em.1;clear vq em ew esh Px hqb;clear hm;clear gC cV I8 hy hz Em hyq hq;by_cases h128:128<=c
     ·have mQ:=ah ((if_pos h128).symm.trans HP.out.1);go_wp2;go_roundg k;case measure=>omega
      case rel=>exact⟨i+1,kd,z,by go_num,by go_num,by go_num,by omega,lG,λ_=>by
       by_cases hi4:i<4
       ·exact HP.out.2.1 hi4
       ·obtain rfl:i=4:=by omega
        exact XU,mQ.out,H3.o0,H3.o1⟩
     ·have gC:=(if_neg h128).symm.trans HP.out.1;have dL:decide (128<=(c:Int))=false:=by simp;omega
      by_cases uY:2147483647<z
      ·have mQ:=ah ((if_pos uY).symm.trans gC);have d1:decide ((2147483647:Int)<z)=true:=by simp;omega
       clear gC;go_wp2;go_ret3;exact⟨H3.o1,.inl ⟨3,mQ.out.symm,by decide,by decide,rfl⟩⟩
      ·have gC:=(if_neg uY).symm.trans gC;have d1:decide ((2147483647:Int)<z)=false:=by simp;omega
       by_cases hz5:65536<z
       ·have mQ:=ah ((if_pos hz5).symm.trans gC);have d2:decide ((65536:Int)<z)=true:=by simp;omega
        clear gC;go_wp2;go_ret3;exact⟨H3.o1,.inl ⟨5,mQ.out.symm,by decide,by decide,rfl⟩⟩
       ·have mQ:=ah ((if_neg hz5).symm.trans gC);have d2:decide ((65536:Int)<z)=false:=by simp;omega
        clear gC;go_wp2;go_ret3;exact⟨H3.o1,.inr ⟨kd,z,i+1,mQ.out.symm,lG,by omega,rfl,H3.o0⟩⟩
   ·have ht:=FN r a cap bs (at_+i) 1 wr hr H.o1 (by omega);have zK:(bs.drop at_)[i]?=none:=by rw[RY];exact nU (by omega)
    rw[vZ,zK]at gC;have HT:=aw ht gC hf;clear ht zK gC hf hr cV;go_wp2_with (go_at_call 43;refine HT.o0.mono ?_;rintro e w3 ⟨rfl,f3⟩);go_ret3;exact⟨HT.l1.2.step f3 (by simp),.inl ⟨4,HT.l1.1.symm,by decide,by decide,rfl⟩⟩
  ·obtain rfl:i=5:=by omega
   obtain rfl:gk=0:=by omega
   rw[vZ]at gC;have HT:=ak gC hf;clear gC hf hr cV;go_wp2;go_ret3;exact⟨HT.l1,.inl ⟨3,HT.o0.symm,by decide,by decide,rfl⟩⟩
def Rh (w:World) (r:Nat) (a:OA) (cap:Nat) (bs:LB) (at_:Nat) (P:Except Nat (Nat×Nat)) (e:Ending) (w':World):Prop:=
 Fr [r] w w'/\((∃x,P = .error x/\0<x/\x<100/\e = .returned (.tuple #[.int .i64 0,.int .i64 (x:Nat)]))\/
  ∃v n,P = .ok (v,n)/\v<68719476736/\e = .returned (.tuple #[.int .i64 (v:Nat),.int .i64 0])/\qZ w' r a cap bs (at_+n))
theorem zbl (r:Nat) (a:OA) (cap:Nat) (bs:LB) (at_:Nat) (w:World) (h:qZ w r a cap bs at_) (hlen:bs.length<=100000000) :
  Calls Tryz.prog 74 #[.pointer (some ⟨r,0,none⟩)] w (Rh w r a cap bs at_ (sA (bs.drop at_))):=by
 obtain⟨P,hP⟩:=ai (sA (bs.drop at_));rw[<-hP];have Qs:Br (bs.drop at_) 5 0 0=P:=hP.symm;have H:=aw h hlen Qs;clear h hlen hP Qs;go_enter Tryz.func74,Tryz.ntmps74;go_upto_block 0 with fail;go_wp2;go_loopg [4,8] 5 (λk s4 s8 wr=>∃i v:Nat,s4 = .int .i64 (v:Nat)/\s8 = .int .i64 (i:Nat)/\i+k=5/\((i=0->v=0)/\(i=1->v<=127)/\(i=2->v<=16511)/\(i=3->v<=2113663)/\(i=4->v<=270549119)/\v<=34630287487)/\Br (bs.drop at_) k i v=P/\qZ wr r a cap bs (at_+i)/\Fr [r] w wr);case atStart=>exact⟨0,0,rfl,rfl,rfl,by decide,H.l2,H.o0,Fr.refl _ _⟩
 case round=>
  obtain⟨i,v,rfl,rfl,bX,hv,gC,hr,hf⟩:=hrel;by_cases hi:i<5
  ·obtain⟨k,rfl⟩:∃k,gk=k+1:=⟨gk-1,by omega⟩;by_cases dP:at_+i<bs.length
   ·have ht:=Dd r a cap bs (at_+i) 1 wr hr H.o1 (by omega);obtain⟨g,o,rfl,hc⟩:=hr.rd.at dP;have cZ:=hr.rd.le;have PQ:=hr.off (λe=>by rw[e]at dP;simp at dP) g (by simp[af]);have ec:cutAt (some ⟨g,o,none⟩) cap (at_+i)=some ⟨g,o+(at_+i),none⟩:=by unfold cutAt;rw[if_neg (by omega)];simp[Bb]
    rw[ec]at ht;obtain⟨p,hp⟩:=ai (o+(at_+i));rw[<-hp]at ht hc;have zK:(bs.drop at_)[i]?=some bs[at_+i]:=by rw[RY,br dP]
    have hb:=iL bs[at_+i];obtain⟨b,tP⟩:=ai (bs[at_+i]);rw[<-tP]at hc zK hb;obtain⟨c,hcv⟩:=ai b.toNat;rw[<-hcv]at hc hb;rw[Br,zK]at gC;simp only[<-hcv]at gC;have HT:=aG ht hc hf PQ;clear ht hc hf PQ zK tP hcv hr ec cZ hp;go_upto_region 6 with (go_at_call 43;refine HT.o0.mono ?_;rintro e w3 ⟨rfl,sr,f3⟩);have wm:=f3.cell HT.l1.1 (by simp;exact HT.l1.2.2);have H3:=ak sr (HT.l1.2.1.trans f3);clear sr f3;have zS:=qqw c hb;obtain⟨y,hy⟩:=ai (c%128);have LI:y<128:=by omega
    rw[<-hy]at zS gC;obtain⟨u,hu⟩:=ai (if 0<i then (v+1)*128 else 0);rw[<-hu]at gC;obtain⟨z,hz⟩:=ai (u+y);rw[<-hz]at gC;have vq:bits .or .i64 (u:Int) (y:Int)=(z:Int):=by
     by_cases h0:0<i
     ·rw[if_pos h0]at hu;have:=Na (v+1) y 7 (by decide) (by simpa using LI) (by omega);rw[hz,hu];simpa using this
     ·rw[if_neg h0]at hu;rw[hz,hu,NG 0 y (by decide) (by omega)];simp
    have XR:(i+1=1->z<=127)/\(i+1=2->z<=16511)/\(i+1=3->z<=2113663)/\(i+1=4->z<=270549119)/\z<=34630287487:=by
     by_cases h0:0<i
     ·rw[if_pos h0]at hu;omega
     ·rw[if_neg h0]at hu;omega
    have HZ:=ak XR gC;have Em:z<=34630287487:=by omega
    by_cases h0:i=0
    ·subst h0;obtain rfl:v=0:=by omega
     rw[if_neg (by decide)]at hu;subst hu;have Pb:bits .or .i64 0 (y:Int)=(z:Int):=vq;have Ot:z<=127:=by omega
     have HZ2:=ah HZ.l1;clear vq gC XR hz hy hv HZ;by_cases h128:c<128
     ·have mQ:=ah ((if_pos h128).symm.trans HZ2.out);go_wp2;go_ret2;exact⟨H3.l1,.inr ⟨z,1,mQ.out.symm,by omega,rfl,H3.o0⟩⟩
     ·have mQ:=ah ((if_neg h128).symm.trans HZ2.out);have dL:decide ((c:Int)<128)=false:=by simp;omega
      go_wp2;go_roundg k;case measure=>omega
      case rel=>exact⟨1,z,by go_num,by go_num,by omega,⟨by omega,λ_=>Ot,by omega,by omega,by omega,Em⟩,mQ.out,H3.o0,H3.l1⟩
    ·have d0:decide ((0:Int)<(i:Int))=true:=by simp;omega
     have Gk:((v:Int)+1)*128=(u:Int):=by rw[if_pos (by omega)]at hu;omega
     have Pb:bits .or .i64 (((v:Int)+1)*128) (y:Int)=(z:Int):=by rw[Gk];exact vq
     have Dp:v<=270549119:=by omega
     clear vq gC XR hz hy hv hu Gk;by_cases h128:c<128
     ·have mQ:=ah ((if_pos h128).symm.trans HZ.l1);go_wp2;go_ret2;exact⟨H3.l1,.inr ⟨z,i+1,mQ.out.symm,by omega,rfl,H3.o0⟩⟩
     ·have mQ:=ah ((if_neg h128).symm.trans HZ.l1);have dL:decide ((c:Int)<128)=false:=by simp;omega
      go_wp2;go_roundg k;case measure=>omega
      case rel=>exact⟨i+1,z,by go_num,by go_num,by omega,⟨by omega,HZ.o0⟩,mQ.out,H3.o0,H3.l1⟩
   ·have ht:=FN r a cap bs (at_+i) 1 wr hr H.o1 (by omega);have zK:(bs.drop at_)[i]?=none:=by rw[RY];exact nU (by omega)
    rw[Br,zK]at gC;have HT:=aw ht gC hf;clear ht zK gC hf hr;go_wp2_with (go_at_call 43;refine HT.o0.mono ?_;rintro e w3 ⟨rfl,f3⟩);go_ret2;exact⟨HT.l1.2.step f3 (by simp),.inl ⟨4,HT.l1.1.symm,by decide,by decide,rfl⟩⟩
  ·obtain rfl:i=5:=by omega
   obtain rfl:gk=0:=by omega
   rw[Br]at gC;have HT:=ak gC hf;clear gC hf hr;go_wp2;go_ret2;exact⟨HT.l1,.inl ⟨3,HT.o0.symm,by decide,by decide,rfl⟩⟩
end pk
namespace crc
open Go Go.RowKit lib bm
theorem ofInt_u32 (a:Nat) (ha:a<4294967296):(BitVec.ofInt 32 (a:Int)).toNat=a:=by rw[BitVec.ofInt_natCast,BitVec.toNat_ofNat];exact x9 (by omega)
theorem u32_xor (a b:Nat) (ha:a<4294967296) (hb:b<4294967296):bits .xor .u32 (a:Int) (b:Int)=((a ^^^ b:Nat):Int):=by have hx:=Vi ha hb;show IntKind.u32.wrap ((BitVec.ofInt 32 (a:Int) ^^^ BitVec.ofInt 32 (b:Int)).toNat:Int)=_;rw[BitVec.toNat_xor,ofInt_u32 a ha,ofInt_u32 b hb];unfold IntKind.wrap;simp only[IntKind.signed,IntKind.bits,KD,Di,if_false,show (2:Int)^32=4294967296 from rfl];omega
theorem zfs (a:Nat) (ha:a<4294967296):bits .and .u32 (a:Int) 1=((a%2:Nat):Int):=by show IntKind.u32.wrap ((BitVec.ofInt 32 (a:Int) &&& BitVec.ofInt 32 ((1:Nat):Int)).toNat:Int)=_;rw[BitVec.toNat_and,ofInt_u32 a ha,ofInt_u32 1 (by decide),Nat.and_one_is_mod];unfold IntKind.wrap;simp only[IntKind.signed,IntKind.bits,KD,Di,if_false,show (2:Int)^32=4294967296 from rfl];omega
theorem zfr (c:Nat) (hc:c<4294967296):bits .xor .u32 IntKind.u32.max (c:Int)=((4294967295-c:Nat):Int):=by show IntKind.u32.wrap ((BitVec.ofInt 32 4294967295 ^^^ BitVec.ofInt 32 (c:Int)).toNat:Int)=_;rw[show BitVec.ofInt 32 4294967295=BitVec.allOnes 32 by decide,BitVec.allOnes_xor,BitVec.toNat_not,ofInt_u32 c hc];unfold IntKind.wrap;simp only[IntKind.signed,IntKind.bits,KD,Di,if_false,show (2:Int)^32=4294967296 from rfl];omega
theorem quw (c:Nat):st c=if c%2=1 then (c/2) ^^^ uQ else c/2:=rfl
end crc
namespace lib
open Go Go.RowKit
theorem Se {α:Type} (f:α->List Value) (c:Nat) (hf:∀x,(f x).length=c):∀l:List α,(l.flatMap f).length=l.length*c
 | []=>by simp
 | x::l=>by rw[vX,aA,Se f c hf l,hf,bU,Nat.succ_mul];omega
theorem Iu {α:Type} (f:α->List Value) (c:Nat) (hf:∀x,(f x).length=c):∀(l:List α) (i:Nat) (x:α) (j:Nat),l[i]?=some x->j<c->(l.flatMap f)[i*c+j]?=(f x)[j]?
 | [],i,x,j,h,_=>by simp at h
 | y::l,0,x,j,h,hj=>by
  simp only[aT,eJ]at h;subst h;rw[vX,Nat.zero_mul,ft,rO (by rw[hf];exact hj)]
 | y::l,i+1,x,j,h,hj=>by rw[vX,ye (by rw[hf,Nat.succ_mul];omega),hf,Nat.succ_mul,show i*c+c+j-c=i*c+j by omega];exact Iu f c hf l i x j (by simpa using h) hj
theorem Fr.setCells {S:LN} {a:World} {b:Nat} (hb:b∈S\/a.heap.size<=b):∀(vs:LV) (o:Nat) {w:World},Fr S a w->Fr S a (w.setCells b o vs)
 | [],_,_,h=>h
 | v::r,o,w,h=>by rw[World.setCells];exact Fr.setCells hb r (o+1) (h.setCell (p:=⟨b,o,none⟩) hb v)
theorem Fr.setRow {S:LN} {a w:World} (h:Fr S a w) {g:Nat} (hg:g∈S\/a.heap.size<=g) (cs:AV):Fr S a (w.setRow g cs):=
 h.step (T:=[g]) ⟨rfl,rfl,rfl,by rw[setRow_size];exact ay _,λk _ hn=>setRow_other w g k cs (by simpa using hn)⟩ (by simpa using hg)
theorem Xt {b:Nat} {t:TypeId} {f:Nat×Nat}:∀(vs:LV) (o:Nat) (w:World) (C:AV),w.heap[b]?=some (.cells C t f)->
  ∃C',(w.setCells b o vs).heap[b]?=some (.cells C' t f)/\C'.size=C.size/\(∀i,i<o\/o+vs.length<=i->C'[i]?=C[i]?)/\(∀j v,vs[j]?=some v->o+j<C.size->C'[o+j]?=some v)
 | [],o,w,C,h=>⟨C,h,rfl,λ_ _=>rfl,λj v hv _=>by simp at hv⟩
 | v::r,o,w,C,h=>by
  rw[World.setCells];obtain⟨C',h1,h2,h3,h4⟩:=Xt r (o+1) _ _ (bI (o:=o) h v);rw[rA]at h2;refine⟨C',h1,h2,λi hi=>?_,λj u hu hj=>?_⟩
  ·simp only[bU]at hi;rw[h3 i (by omega),aX (by omega)]
  ·cases j with
   | zero=>
    simp only[aT,eJ]at hu;subst hu;rw[ie,h3 o (by omega),iG (by omega)]
   | succ j=>have:=h4 j u (by simpa using hu) (by rw[rA];omega);rw[show o+(j+1)=o+1+j by omega];exact this
theorem quq {w:World} {b:Nat} {C:AV} {t:TypeId} (h:w.heap[b]?=some (.cells C t (0,0))) (o n:Nat) (hn:o+n<=C.size):w.there b o n:=λj hj=>by refine⟨?_,aW h _⟩;rw[cell_of h,tr (by omega)];rfl
end lib
namespace crc
open Go Go.RowKit lib bm
theorem tE:(Tryz.prog.info? 186).map (·.size)=some 256:=by kernel_rfl
theorem qs8 {fn:Func} {p:Tmp} (h:fn.results=#[.cell p 186]) (tmps:AV) (w:World) (g:Nat) (cs:AV) (fr:Nat×Nat)
  (hp:tmps.getD p undef = .pointer (some ⟨g,0,none⟩)) (hg:w.heap[g]?=some (.cells cs 186 fr)) (hs:cs.size=256):(results fn tmps).run Tryz.prog w = .ok (.agg cs) w:=
 results_cell_row h tmps w g 186 cs fr _ hp hg Tryz.underlying186 rfl (by rw[tE,hs])
def yU (C:AV) (n:Nat):Prop:=C.size=256/\∀i,i<n->C[i]?=some (.int .u32 (tb i:Nat))
theorem qx3 (w:World):Calls Tryz.prog 131 #[] w λe w'=>∃C,e = .returned (.agg C)/\yU C 256/\Fr [] w w':=by
 go_enter Tryz.func131,Tryz.ntmps131;go_upto_block 0 with fail;obtain⟨B,w1,hB,cP,hm⟩:∃B w1,B=w.heap.size/\w1=w.alloc (.cells Tryz.zeroCells186 186)/\(Fr [] w w1/\∃C,w1.heap[B]?=some (.cells C 186 (0,0))/\yU C 0):=⟨_,_,rfl,rfl,(Fr.refl [] w).alloc _,_,bC w _,by kernel_rfl,λi hi=>by omega⟩;rw[<-cP,<-hB];have HM:=ak hm hB;clear hm cP hB;go_wp2;go_loopg [3] 256 (λk s3 wr=>∃i:Nat,s3 = .int .i64 (i:Nat)/\i+k=256/\Fr [] w wr/\∃C,wr.heap[B]?=some (.cells C 186 (0,0))/\yU C i);case atStart=>exact⟨0,rfl,rfl,HM.o0⟩
 case round=>
  obtain⟨i,rfl,bX,hf,C,hC,hT⟩:=hrel;by_cases hi:i<256
  ·obtain⟨k,rfl⟩:∃k,gk=k+1:=⟨gk-1,by omega⟩;have H:=aw hf hC hT;clear hf hC hT;go_upto_block 2 with fail;obtain⟨wo,tF⟩:=ai wr;rw[<-tF]at H ⊢;clear tF;go_wp2;go_loopg [2,8] 8 (λk2 s2 s8 wq=>∃j y:Nat,s8 = .int .i64 (j:Nat)/\s2 = .int .u32 (y:Nat)/\j+k2=8/\y<4294967296/\tb i=xY (8-j) y/\wq=wo);case atStart=>exact⟨0,i,rfl,by go_num,rfl,by omega,rfl,rfl⟩
   case round=>
    obtain⟨j,y,rfl,rfl,hj,hy,he,rfl⟩:=hrel;have HE:=ah he;clear he;by_cases h8:j<8
    ·obtain⟨k2,rfl⟩:∃k,gk=k+1:=⟨gk-1,by omega⟩;have tJ:=zfs y hy;have aH:xY (8-j) y=xY (8-(j+1)) (st y):=by rw[show 8-j=8-(j+1)+1 by omega];rfl
     have UI:=ah aH;have jC:=zhn hy;clear aH;by_cases hodd:y%2=1
     ·have hh:=u32_xor (y/2) uQ (by omega) (by decide);have lf:st y=(y/2) ^^^ uQ:=by rw[quw,if_pos hodd]
      rw[<-lf]at hh;unfold uQ at hh;rw[show ((y/2:Nat):Int)=(y:Int)/2 by omega]at hh;rw[hodd]at tJ;have hand:bits .and .u32 3988292384 4294967295=3988292384:=by decide
      generalize st y=z at *;clear lf;go_wp2;go_roundg k2;case measure=>omega
      case rel=>exact⟨j+1,z,by go_num,by go_num,by omega,jC,by rw[HE.out,UI.out],rfl⟩
     ·have lf:st y=y/2:=by rw[quw,if_neg hodd]
      rw[show y%2=0 by omega]at tJ;have hand:bits .and .u32 3988292384 0=0:=by decide
      have hh:=u32_xor (y/2) 0 (by omega) (by decide);rw[Nat.xor_zero,show ((y/2:Nat):Int)=(y:Int)/2 by omega]at hh;have HS:=ah lf;clear lf jC;go_wp2;go_roundg k2;case measure=>omega
      case rel=>exact⟨j+1,y/2,by go_num,by go_num,by omega,by omega,by rw[HE.out,UI.out,HS.out],rfl⟩
    ·obtain rfl:j=8:=by omega
     have hC:=H.out.2.1;have zC:=aW hC i;obtain⟨x0,iD⟩:∃x,wr.cell? ⟨B,i,none⟩=some x:=⟨C[i]'(by rw[H.out.2.2.1];exact hi),by rw[cell_of hC];exact tr (by rw[H.out.2.2.1];exact hi)⟩;clear hC;go_wp2;go_roundg k;case measure=>omega
     case rel=>
      refine⟨i+1,by go_num,by omega,H.out.1.setCell (.inr (by rw[HM.l1];exact ay _)) _,_,bI H.out.2.1 _,by rw[rA];exact H.out.2.2.1,λt ht=>?_⟩;by_cases e:t=i
      ·subst e;rw[iG (by rw[H.out.2.2.1];exact hi),HE.out];rfl
      ·rw[aX (by omega)];exact H.out.2.2.2 t (by omega)
  ·obtain rfl:i=256:=by omega
   obtain rfl:gk=0:=by omega
   have H:=aw hf hC hT;clear hf hT;have h1:C.all (·.oneCell')=true:=Array.all_eq_true_iff_forall_mem.2 λv hv=>by obtain⟨i,hi,rfl⟩:=Array.mem_iff_getElem.1 hv;have:=H.out.2.2.2 i (by rw[<-H.out.2.2.1];exact hi);rw[tr hi]at this;rw[lA this];rfl
   have cV:=H.out.2.2.1;have GG:(Tryz.prog.info? 186).map (·.size)=some C.size:=by rw[tE,cV]
   have HC:=aw hC h1 GG;clear hC h1 GG;go_wp2_with (first|(refine wpList_load_row rfl 186 (.tmp 0) rfl B rfl _ C (0,0) _ HC.o0 Tryz.underlying186 rfl HC.l2 ?_)|(refine wpList_store_row rfl 186 (.tmp 0) (.tmp 22) rfl B C rfl rfl _ C HC.o0 HC.l2 rfl HC.o1 ?_));exact bodyPost_ret (qs8 rfl _ _ B C (0,0) rfl (setRow_heap _ _ _ _ _ _ HC.o0) cV) rfl ⟨C,rfl,H.out.2.2,H.out.1.setRow (.inr (by rw[HM.l1];exact ay _)) _⟩
end crc

end Go.Proofs.YtkmpfgpfbmeihaaGreatDoor