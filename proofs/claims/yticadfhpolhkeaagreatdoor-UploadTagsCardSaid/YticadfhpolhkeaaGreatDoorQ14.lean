/-
  Texts of this proof, one behind the other: InfK, InfU, InfZL, InfZ, TripE, InfM, HexB, Unhex, HexLaw, UnhexA, LoHash, LoPath, ObjName, Digits, RHeader.
-/
import Derived.Test.YticadfhpolhkeaaGreatDoorQ11
import Derived.Test.YticadfhpolhkeaaGreatDoorQ13
import Derived.Laws.MakeOwn
import Derived.Laws.ResultCell
import Derived.Lib.ItoaNum
set_option maxHeartbeats 16000000
set_option maxRecDepth 100000
set_option linter.unusedVariables false
set_option linter.unusedSimpArgs false
namespace Go.Proofs.YticadfhpolhkeaaGreatDoor
namespace inf
open Go Go.RowKit lib bm bl huf
theorem DI:(Tryz.prog.info? 520).map (·.size)=some 3:=by kernel_rfl
theorem Px {fn:Func} {p:Tmp} (h:fn.results=#[.cell p 520]) (tmps:AV) (w:World) (g:Nat) (cs:AV) (fr:Nat×Nat)
  (hp:tmps.getD p undef = .pointer (some ⟨g,0,none⟩)) (hg:w.heap[g]?=some (.cells cs 520 fr)) (hs:cs.size=3):(results fn tmps).run Tryz.prog w = .ok (.agg cs) w:=
 results_cell_row h tmps w g 520 cs fr _ hp hg Tryz.underlying520 rfl (by rw[DI,hs])
def vU:Array Value:=#[.func (.func 379) #[] #[],.func (.func 380) #[] #[],.func (.func 381) #[] #[]]
theorem zad (w:World):Calls Tryz.prog 368 #[] w λe w'=>e = .returned (.agg vU)/\Fr [] w w':=by go_enter Tryz.func368,Tryz.ntmps368;go_wp2_with (refine wpList_store_row rfl 520 (.tmp 0) (.tmp 1) rfl w.heap.size vU rfl rfl 520 #[.nilFunc,.nilFunc,.nilFunc] (heap_alloc_last w _) DI rfl (by kernel_rfl) ?_;rw[World.setRow_alloc_new]);simp only[Act.put];refine bodyPost_ret (Px rfl _ _ w.heap.size vU (0,0) rfl (aV w _) rfl) rfl ?_;exact⟨rfl,(Fr.refl [] w).alloc _⟩
def LD (x:Except Nat (List UInt8×Nat)):Except Nat (List UInt8×Nat):=match x with
 | .error e=>.error e
 | .ok (o,a)=>.ok (o,(a+7)/8)
theorem zep (bs:LB) (m:Nat):jw bs m=LD (cP bs m (fuel bs) [] 0):=rfl
def rV (w:World) (m:Except Nat (List UInt8×Nat)) (e:Ending) (w':World):Prop:=
 (∃c,m = .error c/\0<c/\c<100/\e = .returned (.tuple #[.slice none 0 0,.int .i64 0,.int .i64 (c:Nat)])/\Fr [] w w')\/
 (∃out used ao,m = .ok (out,used)/\e = .returned (.tuple #[.slice ao out.length out.length,.int .i64 (used:Nat),.int .i64 0])/\lib.Rd w' ao out.length out/\(∀x∈ag ao,w.heap.size<=x/\x<w'.heap.size)/\Fr [] w w')
theorem Sv (a:OA) (cap:Nat) (bs:LB) (m:Nat) (w:World) (h:lib.Rd w a cap bs) (hlen:bs.length<=100000000) (ME:m<=100000000) :
  Calls Tryz.prog 354 #[.slice a bs.length cap,.int .i64 m] w (rV w (jw bs m)):=by
 have bT:=bits.Zj a cap bs w h.cs h.le h.nil (by omega);obtain⟨M,hM⟩:=ah (jw bs m);rw[<-hM];have H:=aq bT hM hlen;clear h bT hM hlen;go_enter Tryz.func354,Tryz.ntmps354;go_upto_block 0 with (go_at_call 366;refine H.o0.mono ?_;rintro e w1 ⟨p,F,rfl,eY,f1,hF⟩;have K1:=aq eY f1 hF;clear eY f1 hF);obtain⟨R,hR⟩:=ah w1.heap.size;go_wp2;rw[<-hR];obtain⟨w2,cC⟩:∃w2,w2=w1.alloc (.cells #[.pointer (some ⟨p,0,none⟩),.slice none 0 0,.int .i64 (m:Nat)] 516):=⟨_,rfl⟩;have f2:Fr [] w1 w2:=by rw[cC];exact (Fr.refl [] w1).alloc _
 have S2:St w2 R p F bs 0 [] none 0 m:=by
  refine⟨by rw[cC,hR];exact aV w1 _,bits.EL K1.o0 f2 (by simp),oE _ _ _ _,λhx=>?_,by simp[ag],by simp[ag],λx hx=>?_,ME,H.l2,by simp⟩
  ·have:=(K1.l2 R hx).2;omega
  ·exact fM (K1.l2 x hx).2 f2.size
 have QS:w.heap.size<=R:=by rw[hR];exact K1.o1.size
 have eH:w.heap.size<=p:=(K1.l2 p S2.pF.1).1;rw[<-cC];clear cC hR;obtain⟨M0,VY⟩:=ah (cP bs m (fuel bs) [] 0);have hM:M=LD M0:=by rw[H.o1,VY,zep]
 have B0:∀(w':World) (a':Nat) (out':LB) (kc:OA) (oM:Nat),St w' R p F bs a' out' kc oM m->Calls Tryz.prog 379 #[.pointer (some ⟨R,0,none⟩)] w' (Bl w' R p F bs kc m (dP bs m 0 out' a')):=λw' a' out' kc oM s=>by unfold dP;rw[if_pos rfl];exact qws R p F bs out' a' oM m kc w' s
 have B1:∀(w':World) (a':Nat) (out':LB) (kc:OA) (oM:Nat),St w' R p F bs a' out' kc oM m->Calls Tryz.prog 380 #[.pointer (some ⟨R,0,none⟩)] w' (Bl w' R p F bs kc m (dP bs m 1 out' a')):=λw' a' out' kc oM s=>by unfold dP;rw[if_neg (by decide),if_pos rfl];exact zbd R p F bs out' a' oM m kc w' s
 have B2:∀(w':World) (a':Nat) (out':LB) (kc:OA) (oM:Nat),St w' R p F bs a' out' kc oM m->Calls Tryz.prog 381 #[.pointer (some ⟨R,0,none⟩)] w' (Bl w' R p F bs kc m (dP bs m 2 out' a')):=λw' a' out' kc oM s=>by unfold dP;rw[if_neg (by decide),if_neg (by decide)];exact qt9 R p F bs out' a' oM m kc w' s
 have T1:∀(w':World) (a':Nat) (out':LB) (kc:OA) (oM:Nat),St w' R p F bs a' out' kc oM m->Calls Tryz.prog 367 #[.pointer (some ⟨R,0,none⟩),.int .i64 1] w' (mN w' R p F bs out' kc oM m (aX bs a' 1)):=λw' a' out' kc oM s=>Dm R p F bs out' a' oM m 1 kc w' s (by decide)
 have T2:∀(w':World) (a':Nat) (out':LB) (kc:OA) (oM:Nat),St w' R p F bs a' out' kc oM m->Calls Tryz.prog 367 #[.pointer (some ⟨R,0,none⟩),.int .i64 2] w' (mN w' R p F bs out' kc oM m (aX bs a' 2)):=λw' a' out' kc oM s=>Dm R p F bs out' a' oM m 2 kc w' s (by decide)
 have HB:=aQ B0 B1 B2 T1 T2;have HK:=cU S2 (K1.o1.trans f2) QS eH VY hM;clear B0 B1 B2 T1 T2 S2 f2 QS eH VY hM;go_loopg [4,5,6,8,9] (fuel bs) (λk s4 s5 s6 s8 s9 wr=>∃(last a1:Nat) (bI:LB) (jX:OA) (nI:Nat),s8 = .int .i64 (last:Nat)/\St wr R p F bs a1 bI jX nI m/\Way w2 R p none wr jX/\(last=0->cP bs m k bI a1=M0/\8*bs.length+1<=a1+k)/\(last≠0->M0 = .ok (bI,a1)));case atStart=>exact⟨0,0,[],none,0,rfl,HK.o0,.refl _ _ _ _,λ_=>⟨HK.o4.symm,by unfold fuel;omega⟩,λh=>absurd rfl h⟩
 case round=>
  obtain⟨last,a1,bI,jX,nI,rfl,aW,gT,AY,kD⟩:=hrel;have Fv:∀(w':World),Fr (R::p::ag jX) wr w'->Fr [] w w':=λw' f=>by
   have f1:Fr (R::p::ag none) w2 w':=gT.GI f;refine HK.o1.step f1 (λx hx=>.inr ?_);simp only[eX,ag,mV,or_false]at hx;rcases hx with rfl|rfl
   ·exact HK.o2
   ·exact HK.o3
  by_cases hl:last=0
  ·subst hl;obtain⟨Jn,Jq⟩:=AY rfl;have ha8:=aW.pF.2;obtain⟨k,rfl⟩:∃k,gk=k+1:=⟨gk-1,by omega⟩;have HJ:=aA aW gT Jn Jq;have HU:=af Fv;clear aW gT AY kD Jn Jq Fv;have ix0:∀w:World,(Instr.index 520 (.agg #[.func (.func 379) #[] #[],.func (.func 380) #[] #[],.func (.func 381) #[] #[]]) (.int .i64 0)).run Tryz.prog w = .ok (.func (.func 379) #[] #[]) w:=λ_=>by kernel_rfl
   have ix1:∀w:World,(Instr.index 520 (.agg #[.func (.func 379) #[] #[],.func (.func 380) #[] #[],.func (.func 381) #[] #[]]) (.int .i64 1)).run Tryz.prog w = .ok (.func (.func 380) #[] #[]) w:=λ_=>by kernel_rfl
   have ix2:∀w:World,(Instr.index 520 (.agg #[.func (.func 379) #[] #[],.func (.func 380) #[] #[],.func (.func 381) #[] #[]]) (.int .i64 2)).run Tryz.prog w = .ok (.func (.func 381) #[] #[]) w:=λ_=>by kernel_rfl
   go_wp2_with (first
    | (go_at_call 367;(with_reducible refine (HB.o3 wr a1 bI jX nI HJ.out.1).mono ?_);rintro e w3 (⟨v,c,hm,dB,bR,rfl,f3⟩|⟨last,a2,hm,rfl,s3,f3⟩);all_goals (try (have LW:=yG hm;have K3:=aq hm s3 f3;clear hm s3 f3)))
    | (go_at_call 367;(with_reducible refine (HB.l4 w3 a2 bI jX nI K3.o1).mono ?_);rintro e w4 (⟨v,c,hm,dB,bR,rfl,f4⟩|⟨h,a3,hm,rfl,s4,f4⟩);rotate_left;(have vX:=yG hm;rcases (show h=0\/h=1\/h=2\/h=3 by omega) with rfl|rfl|rfl|rfl);all_goals (try (have K4:=aq hm s4 f4;clear hm s4 f4)))
    | (go_at_call 368;refine (zad w4).mono ?_;rintro e w5 ⟨he,f5⟩;unfold vU at he;subst he;have K5:=af f5;clear f5)
    | (go_at_call 379;refine (HB.o0 w5 a3 bI jX nI (K4.o1.cG K5.out)).mono ?_;rintro e w6 (⟨c,hm,dB,bR,rfl,f6⟩|⟨o6,a6,BZ,BX,hm,rfl,s6,f6⟩);all_goals (have Km:=af hm;clear hm);all_goals (try (have K6:=ai s6 f6;clear s6 f6)))
    | (go_at_call 380;refine (HB.o1 w5 a3 bI jX nI (K4.o1.cG K5.out)).mono ?_;rintro e w6 (⟨c,hm,dB,bR,rfl,f6⟩|⟨o6,a6,BZ,BX,hm,rfl,s6,f6⟩);all_goals (have Km:=af hm;clear hm);all_goals (try (have K6:=ai s6 f6;clear s6 f6)))
    | (go_at_call 381;refine (HB.o2 w5 a3 bI jX nI (K4.o1.cG K5.out)).mono ?_;rintro e w6 (⟨c,hm,dB,bR,rfl,f6⟩|⟨o6,a6,BZ,BX,hm,rfl,s6,f6⟩);all_goals (have Km:=af hm;clear hm);all_goals (try (have K6:=ai s6 f6;clear s6 f6))))
   ·go_ret3;refine .inl ⟨c,?_,dB,bR,rfl,HU.out _ f3⟩;rw[HK.l5,<-HJ.out.2.2.1,cP];simp only[hm];rfl
   ·go_ret3;refine .inl ⟨c,?_,dB,bR,rfl,HU.out _ ((K3.l2.trans (K4.l2.trans (K5.out.mono (by simp)))).mono (by simp) |>.trans f6)⟩;rw[HK.l5,<-HJ.out.2.2.1,cP];simp only[K3.o0,K4.o0,if_neg (show ¬0=3 by decide),Km.out];rfl
   ·go_roundg k;case measure=>omega
    case rel=>
     have h1:=yF K3.o0;have h2:=yF K4.o0;have h3:=S6 Km.out;have Jq:=HJ.out.2.2.2;have aW:cP bs m (k+1) bI a1=if last=0 then cP bs m k o6 a6 else .ok (o6,a6):=by rw[cP];simp only[K3.o0,K4.o0,if_neg (show ¬0=3 by decide),Km.out]
     rw[HJ.out.2.2.1]at aW;refine⟨last,a6,o6,BZ,BX,rfl,K6.o0,(HJ.out.2.1.trans (Way.of _ _ _ _ _ (K3.l2.trans (K4.l2.trans (K5.out.mono (by simp)))))).trans K6.l1,λh0=>⟨?_,by omega⟩,λh0=>?_⟩
     ·rw[if_pos h0]at aW;exact aW.symm
     ·rw[if_neg h0]at aW;exact aW
   ·go_ret3;refine .inl ⟨c,?_,dB,bR,rfl,HU.out _ ((K3.l2.trans (K4.l2.trans (K5.out.mono (by simp)))).mono (by simp) |>.trans f6)⟩;rw[HK.l5,<-HJ.out.2.2.1,cP];simp only[K3.o0,K4.o0,if_neg (show ¬1=3 by decide),Km.out];rfl
   ·go_roundg k;case measure=>omega
    case rel=>
     have h1:=yF K3.o0;have h2:=yF K4.o0;have h3:=S6 Km.out;have Jq:=HJ.out.2.2.2;have aW:cP bs m (k+1) bI a1=if last=0 then cP bs m k o6 a6 else .ok (o6,a6):=by rw[cP];simp only[K3.o0,K4.o0,if_neg (show ¬1=3 by decide),Km.out]
     rw[HJ.out.2.2.1]at aW;refine⟨last,a6,o6,BZ,BX,rfl,K6.o0,(HJ.out.2.1.trans (Way.of _ _ _ _ _ (K3.l2.trans (K4.l2.trans (K5.out.mono (by simp)))))).trans K6.l1,λh0=>⟨?_,by omega⟩,λh0=>?_⟩
     ·rw[if_pos h0]at aW;exact aW.symm
     ·rw[if_neg h0]at aW;exact aW
   ·go_ret3;refine .inl ⟨c,?_,dB,bR,rfl,HU.out _ ((K3.l2.trans (K4.l2.trans (K5.out.mono (by simp)))).mono (by simp) |>.trans f6)⟩;rw[HK.l5,<-HJ.out.2.2.1,cP];simp only[K3.o0,K4.o0,if_neg (show ¬2=3 by decide),Km.out];rfl
   ·go_roundg k;case measure=>omega
    case rel=>
     have h1:=yF K3.o0;have h2:=yF K4.o0;have h3:=S6 Km.out;have Jq:=HJ.out.2.2.2;have aW:cP bs m (k+1) bI a1=if last=0 then cP bs m k o6 a6 else .ok (o6,a6):=by rw[cP];simp only[K3.o0,K4.o0,if_neg (show ¬2=3 by decide),Km.out]
     rw[HJ.out.2.2.1]at aW;refine⟨last,a6,o6,BZ,BX,rfl,K6.o0,(HJ.out.2.1.trans (Way.of _ _ _ _ _ (K3.l2.trans (K4.l2.trans (K5.out.mono (by simp)))))).trans K6.l1,λh0=>⟨?_,by omega⟩,λh0=>?_⟩
     ·rw[if_pos h0]at aW;exact aW.symm
     ·rw[if_neg h0]at aW;exact aW
   ·go_ret3;refine .inl ⟨3,?_,by decide,by decide,rfl,HU.out _ ((K3.l2.trans K4.l2).mono (by simp))⟩;rw[HK.l5,<-HJ.out.2.2.1,cP];simp only[K3.o0,K4.o0,if_pos];rfl
   ·go_ret3;refine .inl ⟨c,?_,dB,bR,rfl,HU.out _ ((K3.l2.mono (by simp)).trans f4)⟩;rw[HK.l5,<-HJ.out.2.2.1,cP];simp only[K3.o0,hm];rfl
  ·have hM:M = .ok (bI,(a1+7)/8):=by rw[HK.l5,kD hl];rfl
   have c0:=cell_of aW.box 0;have c1:=cell_of aW.box 1;simp only[dJ,dk,dU]at c0 c1;obtain⟨N,hN⟩:=ah bI.length;rw[<-hN]at c1;obtain⟨fV,kB⟩:=qn2 aW.own;have hle:=fV.le;rw[<-hN]at hle;have hsl:=λw=>Up bits.aE N jX nI hle w
   have LX:∀w',Fr [] wr w'->Calls Tryz.prog 369 #[.pointer (some ⟨p,0,none⟩)] w' λe fK=>e = .returned (.int .i64 ((a1+7)/8:Nat))/\fK=w':=λw' f'=>(bits.SZ p F bs a1 w' (bits.EL aW.rd f' (by simp))).mono λe fK h=>⟨h.1,h.2.symm⟩
   obtain⟨u,hu⟩:=ah ((a1+7)/8);rw[<-hu]at hM LX;have hNm:N<=m:=by rw[hN];exact aW.om
   have hl9:((last:Int)==0)=false:=by simp;omega
   have HJ:=cU aW gT hM hN fV LX;have HU:=af Fv;clear aW gT AY kD Fv hM hN fV kB LX hu;go_upto_region 16 with fail;go_quiet (exact sU (HJ.out.2.2.2.2.2 _ (Fr.drewN [] _ _)));go_wp2;go_ret3;have hN:=HJ.out.2.2.2.1;have fV:=HJ.out.2.2.2.2.1;refine .inr ⟨bI,u,jX,HJ.out.2.2.1,by rw[hN];rfl,?_,λx hx=>⟨?_,?_⟩,HU.out _ (Fr.drewN _ _ _)⟩
   ·have h1:lib.Rd wr jX bI.length bI:=⟨fV.cs,ax _,bP fV.le fV.max,λh=>by have:=fV.nil h;have:=fV.le;omega⟩;exact h1.fr (Fr.drewN _ _ _)
   ·rcases HJ.out.2.1.new x hx with h1|h1
    ·simp[ag]at h1
    ·exact bP HK.o1.size h1
   ·exact si HJ.out.1.own (rz hx)
end inf
namespace inf
open Go bm bl huf
variable {bs o out:LB} {a a1 most n s:Nat}
theorem Iz {v:Nat} (h:aX bs a n = .ok (v,a1)):a1<=8*bs.length:=by
 unfold aX at h;split at h
 ·simp only[jc,gq]at h;omega
 ·cases h
theorem X5 (ls:LN):∀(f n v:Nat) (bits:List Bool),(bT ls f n v bits).2.1<=n+bits.length
 | 0,n,v,bits=>by
  cases h:gU ls n v with
  | some s=>rw[IG h];simp
  | none=>rw[S5 h];simp
 | f+1,n,v,bits=>by
  cases h:gU ls n v with
  | some s=>rw[IG h];simp
  | none=>
   by_cases hm:eU ls n v=true
   ·cases bits with
    | nil=>rw[Ua h hm];simp
    | cons b t=>rw[PG h hm];have:=X5 ls f (n+1) (2*v+rh b) t;simp only[dw];omega
   ·rw[T8 h (by simpa using hm)];simp
theorem RJ {ls:LN} (ha:a<=8*bs.length) (h:kL bs ls a = .ok (s,a1)):a1<=8*bs.length:=by
 unfold kL at h;split at h
 ·have:=X5 ls 15 0 0 ((ak bs).drop a);rw[gN,su]at this;simp only[jc,gq]at h;omega
 ·cases h
theorem Zu {bs:LB} {most:Nat}:∀{n:Nat} {out o:LB} {q a:Nat},q<=bs.length->bY bs most n out q = .ok (o,a)->a<=8*bs.length
 | 0,out,o,q,a,hq,h=>by simp only[bY,jc,gq]at h;omega
 | n+1,out,o,q,a,hq,h=>by
  rw[bY]at h;split at h
  ·split at h
   ·cases h
   ·exact Zu (by omega) h
  ·cases h
theorem zaj (h:dV bs most out a = .ok (o,a1)):a1<=8*bs.length:=by
 unfold dV at h;split at h
 ·split at h
  ·exact Zu (by omega) h
  ·cases h
 ·cases h
theorem zau (ha:a<=8*bs.length) (h:cB bs s a = .ok (n,a1)):a1<=8*bs.length:=by
 unfold cB at h;split at h
 ·simp only[jc,gq]at h;omega
 ·split at h
  ·simp only[jc,gq]at h;omega
  ·split at h
   ·cases h
   ·rename_i hh;have:=Iz hh;simp only[jc,gq]at h;omega
theorem zht (ha:a<=8*bs.length) (h:fZ bs s a = .ok (n,a1)):a1<=8*bs.length:=by
 unfold fZ at h;split at h
 ·simp only[jc,gq]at h;omega
 ·split at h
  ·cases h
  ·rename_i hh;have:=Iz hh;simp only[jc,gq]at h;omega
theorem zeq {dl:LN} (ha:a<=8*bs.length) (h:dO bs most dl s out a = .ok (o,a1)):a1<=8*bs.length:=by
 unfold dO at h;split at h
 ·cases h
 ·rename_i n a2 h1;have e1:=zau ha h1;split at h
  ·cases h
  ·rename_i d a3 h2;have e2:=RJ e1 h2;split at h
   ·cases h
   ·split at h
    ·cases h
    ·rename_i b a4 h3;have e3:=zht e2 h3;split at h
     ·cases h
     ·split at h
      ·cases h
      ·simp only[jc,gq]at h;omega
theorem OW {bs:LB} {most:Nat} {ll dl:LN}:∀{f:Nat} {out o:LB} {a a1:Nat},a<=8*bs.length->cq bs most ll dl f out a = .ok (o,a1)->a1<=8*bs.length
 | 0,out,o,a,a1,_,h=>by simp only[cq]at h;cases h
 | f+1,out,o,a,a1,ha,h=>by
  rw[cq]at h;split at h
  ·cases h
  ·rename_i s a2 hs;have h1:=RJ ha hs;split at h
   ·split at h
    ·cases h
    ·exact OW h1 h
   ·split at h
    ·simp only[jc,gq]at h;omega
    ·split at h
     ·cases h
     ·split at h
      ·cases h
      ·rename_i o2 a3 hm;exact OW (zeq h1 hm) h
theorem YY {bs:LB}:∀{ps fs gs:LN} {a a1:Nat},a<=8*bs.length->dZ bs ps fs a = .ok (gs,a1)->a1<=8*bs.length
 | [],fs,gs,a,a1,ha,h=>by simp only[dZ,jc,gq]at h;omega
 | i::t,fs,gs,a,a1,ha,h=>by
  rw[dZ]at h;split at h
  ·cases h
  ·rename_i v a2 hm;exact YY (Iz hm) h
theorem Sy {bs:LB} {ls:LN} {n:Nat}:∀{f:Nat} {L K:LN} {a a1:Nat},a<=8*bs.length->cr bs ls n f L a = .ok (K,a1)->a1<=8*bs.length
 | 0,L,K,a,a1,_,h=>by simp only[cr]at h;cases h
 | f+1,L,K,a,a1,ha,h=>by
  rw[cr]at h;split at h
  ·simp only[jc,gq]at h;omega
  ·split at h
   ·cases h
   ·rename_i s a2 hs;have h1:=RJ ha hs;split at h
    ·exact Sy h1 h
    ·split at h
     ·cases h
     ·rename_i v a3 hm;split at h
      ·cases h
      ·exact Sy (Iz hm) h
theorem zi1 (h:lu bs most out a = .ok (o,a1)):a1<=8*bs.length:=by
 unfold lu at h;split at h
 ·cases h
 ·split at h
  ·cases h
  ·split at h
   ·cases h
   ·split at h
    ·cases h
    ·split at h
     ·cases h
     ·rename_i v3 b3 h3;have e3:=Iz h3;unfold nh at h;split at h
      ·cases h
      ·rename_i fs b4 h4;have e4:=YY e3 h4;split at h
       ·cases h
       ·unfold mZ at h;split at h
        ·cases h
        ·rename_i ls b5 h5;have e5:=Sy e4 h5;split at h
         ·cases h
         ·split at h
          ·cases h
          ·split at h
           ·cases h
           ·exact OW e5 h
theorem zet {k:Nat} (ha:a<=8*bs.length) (h:dP bs most k out a = .ok (o,a1)):a1<=8*bs.length:=by
 unfold dP at h;split at h
 ·exact zaj h
 ·split at h
  ·exact OW ha h
  ·exact zi1 h
theorem XS {bs:LB} {most:Nat}:∀{f a a1:Nat} {out o:LB},cP bs most f out a = .ok (o,a1)->a1<=8*bs.length
 | 0,a,a1,out,o,h=>by simp only[cP]at h;cases h
 | f+1,a,a1,out,o,h=>by
  rw[cP]at h;split at h
  ·cases h
  ·split at h
   ·cases h
   ·rename_i k a2 h2;split at h
    ·cases h
    ·split at h
     ·cases h
     ·rename_i o2 a3 h3;split at h
      ·exact XS h
      ·simp only[jc,gq]at h;have:=zet (Iz h2) h3;omega
theorem ziv {m:Nat} (h:jw bs m = .ok (out,n)):n<=bs.length:=by
 unfold jw at h;split at h
 ·cases h
 ·rename_i o a hr;have:=XS hr;simp only[jc,gq]at h;omega
open Go.RowKit lib
def qD (x0 x1:Nat):Bool:=(x0%16==8)&&(decide (x0/16<=7)&&(((x0*256+x1)%31==0)&&(x1/32%2==0)))
def ug (bs:LB) (q:Nat):Nat:=aI bs q*16777216+aI bs (q+1)*65536+aI bs (q+2)*256+aI bs (q+3)
def kW (bs:LB) (m:Nat):Except Nat (List UInt8×Nat):=
 if bs.length<2 then .error 4 else if qD (aI bs 0) (aI bs 1)=false then .error 3 else
 match jw (bs.drop 2) m with
 | .error e=>.error e
 | .ok (out,n)=>if bs.length-(n+2)<4 then .error 4 else if ug bs (n+2)=sums.fJ out then .ok (out,n+6) else .error 6
theorem u8_and15 (x:Nat) (h:x<256):bits .and .u8 ((x:Nat):Int) 15=((x%16:Nat):Int):=by
 have ct:∀y:Fin 256,bits .and .u8 ((y.val:Nat):Int) 15=((y.val%16:Nat):Int):=by decide +kernel
 exact ct ⟨x,h⟩
theorem zc0 (x:Nat) (h:x<256):bits .and .u8 ((x:Nat):Int) 32=((x/32%2*32:Nat):Int):=by
 have ct:∀y:Fin 256,bits .and .u8 ((y.val:Nat):Int) 32=((y.val/32%2*32:Nat):Int):=by decide +kernel
 exact ct ⟨x,h⟩
theorem Ir {w:World} {a:OA} {cap:Nat} {bs:LB} (h:lib.Rd w a cap bs) {i:Nat} (hi:i<bs.length):∃g o,a=some ⟨g,o,none⟩/\w.cell? ⟨g,o+i,none⟩=some (.int .u8 (aI bs i:Nat)):=by obtain⟨g,o,ha,hc⟩:=h.at hi;refine⟨g,o,ha,?_⟩;rw[hc];unfold aI;rw[dm hi];rfl
theorem zcs (a:OA) (cap:Nat) (bs:LB) (m:Nat) (w:World) (h:lib.Rd w a cap bs) (hlen:bs.length<=100000000) (ME:m<=100000000) :
  Calls Tryz.prog 329 #[.slice a bs.length cap,.int .i64 m] w (rV w (kW bs m)):=by
 obtain⟨L,hL⟩:=ah bs.length;obtain⟨M,hM⟩:=ah (kW bs m);rw[<-hM];by_cases h2:bs.length<2
 ·have Eg:M = .error 4:=by rw[hM];unfold kW;rw[if_pos h2]
  rw[<-hL]at h2 ⊢;have d0:decide ((L:Int)<2)=true:=by simp;omega
  have HM:=af Eg;clear h hL hM Eg hlen h2;go_enter Tryz.func329,Tryz.ntmps329;go_wp2;go_ret3;exact .inl ⟨4,HM.out,by decide,by decide,rfl,Fr.refl _ _⟩
 ·obtain⟨g,o,rfl,c0⟩:=Ir h (i:=0) (by omega);obtain⟨g',o',ha',c1⟩:=Ir h (i:=1) (by omega);simp only[fI,rB,and_true]at ha';obtain⟨rfl,rfl⟩:=ha';rw[pN]at c0;obtain⟨x0,iz⟩:∃x,x=aI bs 0:=⟨_,rfl⟩;obtain⟨x1,j6⟩:∃x,x=aI bs 1:=⟨_,rfl⟩;have b0:x0<256:=by rw[iz];exact Ar _ _
  have b1:x1<256:=by rw[j6];exact Ar _ _
  rw[<-iz]at c0;rw[<-j6]at c1;have yn:M=if qD x0 x1=false then .error 3 else match jw (bs.drop 2) m with
    | .error e=>.error e
    | .ok (out,n)=>if bs.length-(n+2)<4 then .error 4 else if ug bs (n+2)=sums.fJ out then .ok (out,n+6) else .error 6:=by
   rw[hM];unfold kW;rw[if_neg h2,<-iz,<-j6]
   all_goals rfl
  have hle:=h.le;have hmx:=h.max;have Jb:lib.Rd w (bh (some ⟨g,o,none⟩) cap 2 1) (cap-2) (bs.drop 2):=h.drop 2 (by omega);have iA:∀w',Fr [] w w'->Calls Tryz.prog 354 #[.slice (bh (some ⟨g,o,none⟩) cap 2 1) (L-2:Nat) (cap-2),.int .i64 m] w' (rV w' (jw (bs.drop 2) m)):=λw' f=>by have:=Sv _ (cap-2) (bs.drop 2) m w' (Jb.fr f) (by rw[gN];omega) ME;rwa [gN,<-hL]at this
  have hsl:=lib.La bits.aE 2 (some ⟨g,o,none⟩) L cap 2 rfl (by omega) (by omega);rw[<-hL]at h2 hle ⊢;have d0:decide ((L:Int)<2)=false:=by simp;omega
  obtain⟨y0,UK⟩:∃y,y=x0%16:=⟨_,rfl⟩;obtain⟨y1,I5⟩:∃y,y=x0/16:=⟨_,rfl⟩;obtain⟨z,hz⟩:=ah (x0*256+x1);obtain⟨y2,uO⟩:∃y,y=z%31:=⟨_,rfl⟩;obtain⟨y3,I4⟩:∃y,y=x1/32%2*32:=⟨_,rfl⟩;have e0:=u8_and15 x0 b0;have e3:=zc0 x1 b1;rw[<-UK]at e0;rw[<-I4]at e3;have e1:(x0:Int)/16=(y1:Int):=by omega
  have eor:bits .or .i64 ((x0:Int)*256) (x1:Int)=(z:Int):=by have:=XP x0 x1 8 (by decide) (by simpa using b1) (by omega);rw[hz];simpa using this
  have Wm:Int.tmod (z:Int) 31=(y2:Int):=by rw[Int.tmod_eq_emod_of_nonneg (by omega)];omega
  have NW:(z:Int)%31=(y2:Int):=by omega
  have hzh:qD x0 x1=((y0==8)&&(decide (y1<=7)&&((y2==0)&&(y3==0)))):=by unfold qD;rw[<-UK,<-I5,<-hz,<-uO];congr 3;rw[Bool.eq_iff_iff,beq_iff_eq,beq_iff_eq];omega
  have i0:(0:Int)<(L:Int):=by omega
  have i1:(1:Int)<(L:Int):=by omega
  have hyb:y0<256/\y1<256/\y3<256/\z<65536/\y2<31:=by omega
  have H:=cU h hlen hL yn iA hzh;clear h hlen hL yn iA hzh hM iz j6 UK I5 uO I4 hz Jb h2;go_enter Tryz.func329,Tryz.ntmps329;go_upto_region 3 with fail;clear d0;go_cut [43] from 11 to 43 (λs43 wc=>s43 = .bool (!((y0==8)&&(decide (y1<=7)&&((y2==0)&&(y3==0)))))/\Fr [] w wc)
  case first=>
   by_cases k0:y0=8
   ·have t0:((y0:Int)!=8)=false:=by simp;omega
    by_cases k1:y1<=7
    ·have t1:decide ((7:Int)<y1)=false:=by simp;omega
     by_cases k2:y2=0
     ·have t2:((y2:Int)!=0)=false:=by simp;omega
      by_cases k3:y3=0
      ·have t3:((y3:Int)!=0)=false:=by simp;omega
       have K:=aA k0 k1 k2 k3;clear k0 k1 k2 k3;go_quiet (fail);go_wp2;go_meet;case rel=>exact⟨by obtain⟨k0,k1,k2,k3⟩:=K.out;simp[k0,k1,k2,k3],Fr.drewN _ _ _⟩
      ·have t3:((y3:Int)!=0)=true:=by simp;omega
       have K:=af k3;clear k0 k1 k2 k3;go_quiet (fail);go_wp2;go_meet;case rel=>exact⟨by have:=K.out;simp[this],Fr.drewN _ _ _⟩
     ·have t2:((y2:Int)!=0)=true:=by simp;omega
      have K:=af k2;clear k0 k1 k2;go_quiet (fail);go_wp2;go_meet;case rel=>exact⟨by have:=K.out;simp[this],Fr.drewN _ _ _⟩
    ·have t1:decide ((7:Int)<y1)=true:=by simp;omega
     have K:=af k1;clear k0 k1;go_quiet (fail);go_wp2;go_meet;case rel=>exact⟨by have:=K.out;simp[this],Fr.drewN _ _ _⟩
   ·have t0:((y0:Int)!=8)=true:=by simp;omega
    have K:=af k0;clear k0;go_quiet (fail);go_wp2;go_meet;case rel=>exact⟨by have:=K.out;simp[this],Fr.drewN _ _ _⟩
  case rest=>
   obtain⟨rfl,f1⟩:=hcut;rw[<-H.out.2.2.2.2.2];obtain⟨bz,Jt⟩:∃b,b=qD x0 x1:=⟨_,rfl⟩;rw[<-Jt];obtain⟨h1,h2,h3,h4,h5,h6⟩:=H.out;rw[<-Jt]at h4;have HF:=aq f1 h4 (h5 wc f1);clear f1 h4 h5 h6 h1 h2 h3 Jt e0 e1 e3 eor Wm NW hyb c0 c1;cases bz
   ·go_wp2;go_ret3;exact .inl ⟨3,by rw[HF.o1];first|rfl|(rw[if_pos rfl]),by decide,by decide,rfl,HF.o0⟩
   ·obtain⟨qa,Qo⟩:∃q,q=bh (some ⟨g,o,none⟩) cap 2 1:=⟨_,rfl⟩;obtain⟨qc,U5⟩:∃q,q=cap-2:=⟨_,rfl⟩;obtain⟨qn,FF⟩:∃q,q=L-2:=⟨_,rfl⟩;rw[<-Qo,<-U5,<-FF]at hsl;have iA:=HF.l2;rw[<-Qo,<-U5,<-FF]at iA;have qy:M=match jw (bs.drop 2) m with
      | .error e=>.error e
      | .ok (out,n)=>if bs.length-(n+2)<4 then .error 4 else if ug bs (n+2)=sums.fJ out then .ok (out,n+6) else .error 6:=by
     rw[HF.o1];first|rfl|(rw[if_neg (by decide)])
    have HR:=ai iA qy;clear Qo U5 FF iA qy;go_upto_region 6 with (go_at_call 354;refine HR.o0.mono ?_;rintro e w2 (⟨c,hm,k0,k1,rfl,f2⟩|⟨out,n,ao,hm,rfl,ru,nb2,f2⟩))
    ·have K2:=ai hm f2;have d2:((c:Int)!=0)=true:=by simp;omega
     clear hm f2 hsl;go_wp2;go_ret3;exact .inl ⟨c,by rw[HR.l1,K2.o0],k0,k1,rfl,HF.o0.trans K2.l1⟩
    ·have hnu:=ziv hm;rw[gN,<-H.out.2.2.1]at hnu;obtain⟨n2,lv⟩:=ah (n+2);have en2:(n:Int)+2=(n2:Int):=by omega
     have hLb:L<=100000000:=by rw[H.out.2.2.1];exact H.out.2.1
     have hnL:n2<=L:=by omega
     have iV:M=if L-n2<4 then .error 4 else if ug bs n2=sums.fJ out then .ok (out,n2+4) else .error 6:=by rw[HR.l1,hm,lv,H.out.2.2.1]
     have K2:=aQ iV ru nb2 (HF.o0.trans f2) lv;clear hm ru nb2 f2 lv iV hsl;by_cases h4:L-n2<4
     ·have d4:decide ((L:Int)-(n2:Int)<4)=true:=by simp;omega
      have H4:=af h4;clear h4;go_wp2;go_ret3;exact .inl ⟨4,by rw[K2.o0,if_pos H4.out],by decide,by decide,rfl,K2.l1.2.2.1⟩
     ·have d4:decide ((L:Int)-(n2:Int)<4)=false:=by simp;omega
      go_upto_region 11 with fail;clear d4 en2;have JT:=H.out.1.fr K2.l1.2.2.1;have dW:bs.length=L:=H.out.2.2.1.symm;obtain⟨g0,o0,q0,c0⟩:=Ir JT (i:=n2) (by omega);obtain⟨g1,o1,q1,c1⟩:=Ir JT (i:=n2+1) (by omega);obtain⟨g2,o2,q2,c2⟩:=Ir JT (i:=n2+2) (by omega);obtain⟨g3,o3,q3,c3⟩:=Ir JT (i:=n2+3) (by omega);simp only[fI,rB,and_true]at q0 q1 q2 q3;obtain⟨rfl,rfl⟩:=q0;obtain⟨rfl,rfl⟩:=q1;obtain⟨rfl,rfl⟩:=q2;obtain⟨rfl,rfl⟩:=q3;have l0:=Ar bs n2;have l1:=Ar bs (n2+1);have l2:=Ar bs (n2+2);have l3:=Ar bs (n2+3);have yg:ug bs n2=aI bs n2*16777216+aI bs (n2+1)*65536+aI bs (n2+2)*256+aI bs (n2+3):=rfl;generalize aI bs n2=y0 at *;generalize aI bs (n2+1)=y1 at *;generalize aI bs (n2+2)=y2 at *;generalize aI bs (n2+3)=y3 at *;obtain⟨z1,gS⟩:∃z,z=y0*16777216+y1*65536:=⟨_,rfl⟩;obtain⟨z2,lN⟩:∃z,z=z1+y2*256:=⟨_,rfl⟩;obtain⟨z3,yb⟩:∃z,z=z2+y3:=⟨_,rfl⟩;have r1:bits .or .u32 ((y0:Int)*16777216) ((y1:Int)*65536)=(z1:Int):=by have:=sums.Aj (y0*16777216) (y1*65536) 24 (by omega) (by decide) (by omega) (by omega);rw[<-gS]at this;simpa using this
      have r2:bits .or .u32 (z1:Int) ((y2:Int)*256)=(z2:Int):=by have:=sums.Aj z1 (y2*256) 16 (by omega) (by decide) (by omega) (by omega);rw[<-lN]at this;simpa using this
      have r3:bits .or .u32 (z2:Int) (y3:Int)=(z3:Int):=by have:=sums.Aj z2 y3 8 (by omega) (by decide) (by omega) (by omega);rw[<-yb]at this;exact this
      have hz:ug bs n2=z3:=by rw[yg];omega
      have hzb:z3<4294967296:=by omega
      have i0:(n2:Int)<(L:Int):=by omega
      have i1:(n2:Int)+1<(L:Int):=by omega
      have i2:(n2:Int)+2<(L:Int):=by omega
      have i3:(n2:Int)+3<(L:Int):=by omega
      have had:=sums.ZH ao out.length out w2.drew (K2.l1.1.fr (Fr.aB [] w2));obtain⟨N,hN⟩:=ah out.length;obtain⟨A,hA⟩:=ah (sums.fJ out);have hAl:A<4294967296:=by rw[hA];exact sums.Ko out
      have Eg:M=if z3=A then .ok (out,n2+4) else .error 6:=by rw[K2.o0,if_neg h4,hz,hA]
      rw[<-hN,<-hA]at had;rw[<-hN];obtain⟨S,hS⟩:∃S:List Nat,S=[]:=⟨_,rfl⟩;have M5:g∉S:=by rw[hS];simp
      have x0:∀x,(sup S w2.drew x).cell? ⟨g,o+n2,none⟩=some (.int .u8 y0):=λx=>(gB S w2.drew x).cell ((Fr.aB [] w2).cell c0 (by simp)) M5
      have x1:∀x,(sup S w2.drew x).cell? ⟨g,o+(n2+1),none⟩=some (.int .u8 y1):=λx=>(gB S w2.drew x).cell ((Fr.aB [] w2).cell c1 (by simp)) M5
      have x2:∀x,(sup S w2.drew x).cell? ⟨g,o+(n2+2),none⟩=some (.int .u8 y2):=λx=>(gB S w2.drew x).cell ((Fr.aB [] w2).cell c2 (by simp)) M5
      have x3:∀x,(sup S w2.drew x).cell? ⟨g,o+(n2+3),none⟩=some (.int .u8 y3):=λx=>(gB S w2.drew x).cell ((Fr.aB [] w2).cell c3 (by simp)) M5
      have HZ:=aA had Eg hN hS;clear had Eg hN hS hA hz gS lN yb yg dW JT c0 c1 c2 c3 h4 M5;refine lK 32 [(false,0),(false,1),(false,2),(false,3),(false,4),(false,5),(false,6),(false,7),(false,8),(false,9),(false,10),(false,11),(false,12),(false,13),(false,14),(false,15),(false,16),(false,17),(false,18),(false,19),(false,20),(false,21),(false,22),(false,23),(false,24),(false,25),(false,26),(false,27),(false,28),(false,29),(true,30),(false,31)] S (by kernel_rfl) (by kernel_rfl) (λ_ _ d _ _ h=>by cases d<;>exact h) ?_;simp only[kQ];refine eD 30 rfl ?_;simp only[cT];repeat (go_big_quiet_step (fail))
      refine wpQuiet_nil ?_;clear x0 x1 x2 x3;refine jb rfl ?_;intro X hX;go_wp2_with (go_at_call 186;refine HZ.o0.mono ?_;rintro e w3 ⟨rfl,f3⟩);refine hX.out _ _ (by rw[HZ.l3];exact f3) ?_;clear hX X;refine eD 1 rfl ?_;simp only[cT];repeat (go_big_quiet_step (fail))
      refine wpQuiet_nil ?_;refine j4 ?_;have HF3:=af (K2.l1.2.2.1.trans ((Fr.aB [] w2).trans f3));have rK:=af f3;clear f3 r1 r2 r3 i0 i1 i2 i3;by_cases hza:z3=A
      ·have d5:((z3:Int)!=(A:Int))=false:=by simp;omega
       have HA:=af hza;clear hza;go_wp2;go_ret3;have f23:=(Fr.aB [] w2).trans rK.out;refine .inr ⟨out,n2+4,ao,by rw[HZ.o1,if_pos HA.out],by rw[HZ.o2];first|rfl|go_num,K2.l1.1.fr f23,λx hx=>⟨?_,fM (K2.l1.2.1 x hx).2 f23.size⟩,HF3.out⟩;exact bP HF.o0.size (K2.l1.2.1 x hx).1
      ·have d5:((z3:Int)!=(A:Int))=true:=by simp;omega
       have HA:=af hza;clear hza;go_wp2;go_ret3;exact .inl ⟨6,by rw[HZ.o1,if_neg HA.out],by decide,by decide,rfl,HF3.out⟩
end inf
namespace trip
open Go Go.RowKit lib bm bl huf inf defl mat wb
theorem RQ.read {b r:LB} (h:RQ b r) (ext:LB) (m:Nat) (hm:b.length<=m):jw (r++ext) m = .ok (b,r.length):=by
 rcases h.2 with rfl|⟨level,hl,hr⟩
 ·exact qn3 b ext m hm
 ·exact zdo hr hl ext m hm
theorem qyj {level:Int} {b r:LB} (h:RQ b r) (ext:LB) (m:Nat) (hm:b.length<=m):kW (aY level r b++ext) m = .ok (b,(aY level r b).length):=by
 have hz:aY level r b++ext=120::nC level::(r++(sums.iI (sums.fJ b)++ext)):=by unfold aY;simp
 have hlen:(aY level r b).length=r.length+6:=by unfold aY;simp[sums.yJ]
 have h0:aI (aY level r b++ext) 0=120:=by rw[hz];rfl
 have h1:aI (aY level r b++ext) 1=(nC level).toNat:=by rw[hz];rfl
 have hh:qD 120 (nC level).toNat=true:=by
  unfold nC;split
  ·decide
  ·split<;>decide
 have hd:(aY level r b++ext).drop 2=r++(sums.iI (sums.fJ b)++ext):=by rw[hz];rfl
 have kj:(aY level r b++ext).length=r.length+6+ext.length:=by rw[aG,hlen]
 have yg:ug (aY level r b++ext) (r.length+2)=sums.fJ b:=by
  have hb:∀i,i<4->aI (aY level r b++ext) (r.length+2+i)=((sums.iI (sums.fJ b))[i]?.getD 0).toNat:=λi hi=>by unfold aI;rw[hz,show r.length+2+i=r.length+i+1+1 by omega,dU,dU,IU (by omega),show r.length+i-r.length=i by omega,Ay (by rw[sums.yJ];exact hi)]
  have:=sums.XD (sums.fJ b) (sums.Ko b) _ rfl;unfold ug;rw[show r.length+2=r.length+2+0 from rfl,hb 0 (by decide),show r.length+2+0+1=r.length+2+1 from rfl,hb 1 (by decide),show r.length+2+0+2=r.length+2+2 from rfl,hb 2 (by decide),show r.length+2+0+3=r.length+2+3 from rfl,hb 3 (by decide)];exact this
 unfold kW;rw[if_neg (by omega),h0,h1,hh,if_neg (by decide),hd,h.read _ m hm];dsimp only;rw[if_neg (by omega),yg,if_pos rfl,hlen]
end trip
namespace inf
open Go bm bl huf
variable {a a1 most:Nat} {bs o out:LB}
theorem RI {c:UInt8} (h:iy most out c = .ok o):o.length<=most:=by
 unfold iy at h;split at h
 ·cases h
 ·simp only[jc]at h;subst h;rw[aG,BO];omega
theorem Zt {bs:LB} {most:Nat}:∀{n:Nat} {out o:LB} {q a:Nat},out.length<=most->bY bs most n out q = .ok (o,a)->o.length<=most
 | 0,out,o,q,a,hq,h=>by
  simp only[bY,jc,gq]at h;rw[<-h.1];exact hq
 | n+1,out,o,q,a,hq,h=>by
  rw[bY]at h;split at h
  ·split at h
   ·cases h
   ·rename_i o1 h1;exact Zt (RI h1) h
  ·cases h
theorem zak (hq:out.length<=most) (h:dV bs most out a = .ok (o,a1)):o.length<=most:=by
 unfold dV at h;split at h
 ·split at h
  ·exact Zt hq h
  ·cases h
 ·cases h
theorem XQ {most back:Nat}:∀{n:Nat} {out o:LB},out.length<=most->gR most back n out = .ok o->o.length<=most
 | 0,out,o,hq,h=>by
  simp only[gR,jc]at h;rw[<-h];exact hq
 | n+1,out,o,hq,h=>by
  rw[gR]at h;split at h
  ·cases h
  ·rename_i o1 h1;exact XQ (RI h1) h
theorem zes {s:Nat} {dl:LN} (hq:out.length<=most) (h:dO bs most dl s out a = .ok (o,a1)):o.length<=most:=by
 unfold dO at h;split at h
 ·cases h
 ·split at h
  ·cases h
  ·split at h
   ·cases h
   ·split at h
    ·cases h
    ·split at h
     ·cases h
     ·split at h
      ·cases h
      ·rename_i o1 h1;simp only[jc,gq]at h;rw[<-h.1];exact XQ hq h1
theorem OV {bs:LB} {most:Nat} {ll dl:LN}:∀{f:Nat} {out o:LB} {a a1:Nat},out.length<=most->cq bs most ll dl f out a = .ok (o,a1)->o.length<=most
 | 0,out,o,a,a1,hq,h=>by cases h
 | f+1,out,o,a,a1,hq,h=>by
  rw[cq]at h;split at h
  ·cases h
  ·split at h
   ·split at h
    ·cases h
    ·rename_i o1 h1;exact OV (RI h1) h
   ·split at h
    ·simp only[jc,gq]at h;rw[<-h.1];exact hq
    ·split at h
     ·cases h
     ·split at h
      ·cases h
      ·rename_i o1 a2 h1;exact OV (zes hq h1) h
theorem Zs {hh:Nat} (hq:out.length<=most) (h:dP bs most hh out a = .ok (o,a1)):o.length<=most:=by
 unfold dP at h;split at h
 ·exact zak hq h
 ·split at h
  ·exact OV hq h
  ·unfold lu at h;split at h
   ·cases h
   ·split at h
    ·cases h
    ·split at h
     ·cases h
     ·split at h
      ·cases h
      ·split at h
       ·cases h
       ·unfold nh at h;split at h
        ·cases h
        ·split at h
         ·cases h
         ·unfold mZ at h;split at h
          ·cases h
          ·split at h
           ·cases h
           ·split at h
            ·cases h
            ·split at h
             ·cases h
             ·exact OV hq h
theorem XR {bs:LB} {most:Nat}:∀{f:Nat} {out o:LB} {a a1:Nat},out.length<=most->cP bs most f out a = .ok (o,a1)->o.length<=most
 | 0,out,o,a,a1,hq,h=>by cases h
 | f+1,out,o,a,a1,hq,h=>by
  rw[cP]at h;split at h
  ·cases h
  ·split at h
   ·cases h
   ·split at h
    ·cases h
    ·split at h
     ·cases h
     ·rename_i o1 a3 h1;split at h
      ·exact XR (Zs hq h1) h
      ·simp only[jc,gq]at h;rw[<-h.1];exact Zs hq h1
theorem ziw {m n:Nat} (h:jw bs m = .ok (out,n)):out.length<=m:=by
 unfold jw at h;split at h
 ·cases h
 ·rename_i o a hr;simp only[jc,gq]at h;rw[<-h.1];exact XR (eE _) hr
end inf
namespace pk
open Go Go.RowKit lib bm
def bL (k:Nat):UInt8:=if k<10 then UInt8.ofNat (48+k) else UInt8.ofNat (87+k)
def lC:ByteArray:=⟨#[48,49,50,51,52,53,54,55,56,57,97,98,99,100,101,102]⟩
theorem S4:∀k:Fin 16,∀h,lC[k.1]'h=bL k.1:=by decide
theorem qoe (k:Nat) (hk:k<16) (w:World):(Instr.index 9 (.string ⟨#[48,49,50,51,52,53,54,55,56,57,97,98,99,100,101,102]⟩) (.int .u8 k)).run Tryz.prog w = .ok (.int .u8 ((bL k).toNat:Nat)) w:=by
 have hs:lC.size=16:=by decide
 have e:=run_index_string (P:=Tryz.prog) w 9 lC .u8 k Tryz.underlying9;rw[dif_pos ⟨by omega,by rw[hs];omega⟩]at e;have h2:=S4 ⟨k,hk⟩ (by rw[hs];exact hk);simp only[xZ]at e;rw[h2]at e;exact e
def tS (b:UInt8):List UInt8:=[bL (b.toNat/16),bL (b.toNat%16)]
def mn (bs:LB):List UInt8:=bs.flatMap tS
theorem nu (bs:LB):(mn bs).length=2*bs.length:=by
 induction bs with
 | nil=>rfl
 | cons b t ih=>unfold mn at *;rw[qd,aG,ih];simp[tS];omega
theorem za4 (bs:LB) (b:UInt8):mn (bs++[b])=mn bs++tS b:=by unfold mn;rw[yQ];simp
theorem zeb (n:Nat) (hn:n<=100000000):∃A:Array Value,A.size=n/\∀w:World,(Instr.makeSlice 35 (.int .i64 0) (.int .i64 (n:Nat))).run Tryz.prog w = .ok (.slice (some ⟨w.heap.size,0,none⟩) 0 n) (w.alloc (.cells A 5)):=by obtain⟨hu,⟨i,hi,hz,hs,hb⟩,_,_⟩:=aE;refine⟨madeCells (Value.int .u8 0).cells n,size_madeCells _ _,λw=>?_⟩;have:=run_make (P:=Tryz.prog) w 35 5 i (.int .u8 0) Tryz.underlying35 hi hz .i64 .i64 0 (n:Nat) (Int.le_refl _) (by omega) (by rw[hb];omega) (by omega);rw[hs,xZ,uG]at this;exact this
theorem qxu (b:UInt8):(tS b).map bv=[.int .u8 ((bL (b.toNat/16)).toNat:Nat),.int .u8 ((bL (b.toNat%16)).toNat:Nat)]:=rfl
theorem Wr.step2 {w wr w1 w2:World} {a a2:OA} {c c2:Nat} {out xs:LB} (h:Wr w wr a c out) (f:Fr [] wr w1) (A:aN w1 w2 5 1 (ag a) a2 (out.length+xs.length) c2 (out.map bv++xs.map bv)):Wr w w2 a2 c2 (out++xs):=by
 refine⟨by rw[aG,jd];exact A.own,(h.fr.trans f).step A.fr λy hy=>.inr (h.new y hy),λy hy=>?_⟩;rcases A.at_ y hy with h1|h1
 ·exact h.new y h1
 ·have:=(h.fr.trans f).size;omega
theorem GU (b:UInt8):bits .and .u8 ((b.toNat:Nat):Int) 15=((b.toNat%16:Nat):Int):=by
 have h:∀x:Fin 256,bits .and .u8 (x.1:Int) 15=((x.1%16:Nat):Int):=by decide +kernel
 exact h ⟨b.toNat,mW b⟩
theorem zhu (ao:OA) (cap:Nat) (bs:LB) (w:World) (h:lib.Rd w ao cap bs) (hlen:bs.length<=10000000) :
  Calls Tryz.prog 62 #[.slice ao bs.length cap] w λe w'=>e = .returned (.string (str (mn bs)))/\Fr [] w w':=by
 obtain⟨L,hL⟩:=ah bs.length;obtain⟨A,gg,wh⟩:=zeb (2*L) (by omega);obtain⟨C,hC⟩:=ah (2*L);have hLb:L<=10000000:=by omega
 rw[<-hC]at wh gg;rw[show ((C:Nat):Int)=2*(L:Int) by omega]at wh;have HI:=aq h hL gg;rw[<-hL];clear h hL gg hlen;have HC:=af hC;clear hC;go_enter Tryz.func62,Tryz.ntmps62;go_upto_region 2 with fail;have o0:Wr w (w.alloc (.cells A 5)) (some ⟨w.heap.size,0,none⟩) C []:=⟨⟨rfl,.inr ⟨w.heap.size,C,A,rfl,eE _,aV _ _,eE _,by have:=HC.out;unfold maxLen;omega,by rw[HI.out.2.2,uG],by simp⟩⟩,(Fr.refl _ _).alloc _,by simp[ag]⟩;obtain⟨w0,kz⟩:=ah (w.alloc (.cells A 5));rw[<-kz]at o0 ⊢;have H0:=af o0;clear o0 kz wh;go_wp2;go_loopg [3,12] L (λk s3 s12 wr=>∃i a c out,s12 = .int .i64 (i:Nat)/\s3 = .slice a out.length c/\i+k=L/\Wr w wr a c out/\out=mn (bs.take i));case atStart=>exact⟨0,_,C,[],rfl,rfl,by omega,H0.out,rfl⟩
 case round=>
  obtain⟨i,a,c,out,rfl,rfl,cQ,h,dt⟩:=hrel;have sx:out.length=2*i:=by rw[dt,nu,fH,<-HI.out.2.1];omega
  have H:=aq h dt sx;have wa:out.length<=20000000:=by omega
  clear h dt sx;by_cases hi:i<L
  ·obtain⟨k,rfl⟩:∃k,gk=k+1:=⟨gk-1,by omega⟩;have cN:i<bs.length:=by rw[<-HI.out.2.1];exact hi
   obtain⟨g,o,rfl,hc⟩:=(HI.out.1.cs.fr H.out.1.fr (by simp)).at (by rw[gx];omega);have sG:=hc i (bv bs[i]) (by rw[qe,dm cN];rfl);unfold bv at sG;have iz:=qoe (bs[i].toNat/16) (by have:=mW bs[i];omega);have j6:=qoe (bs[i].toNat%16) (by omega);have e1:=GU bs[i];have Nq:=mW bs[i];have fX:=qxu bs[i];have HT:=af (show bs.take (i+1)=bs.take i++[bs[i]] from x7 cN);obtain⟨b,hb⟩:=ah (bs[i]);rw[<-hb]at sG iz j6 e1 Nq fX HT;have Bp:=af fX;clear hc cN hb fX;have e0:((b.toNat:Nat):Int)/16=((b.toNat/16:Nat):Int):=by omega
   go_upto_region 5 with fail;generalize (bL (b.toNat/16)).toNat=h0 at *;generalize (bL (b.toNat%16)).toNat=h1 at *;generalize b.toNat%16=b1 at *;generalize b.toNat/16=b0 at *;obtain⟨S,hS⟩:=ah (ag a);refine lK 9 [(false,0),(false,1),(false,2),(false,3),(false,4),(false,5),(false,6),(true,7),(true,8)] S (by kernel_rfl) (by kernel_rfl) (λ_ _ d _ _ h=>by cases d<;>exact h) ?_;simp only[kQ];refine eD 7 rfl ?_;simp only[cT];have HS:=af hS;clear hS;repeat (go_big_quiet_step (fail))
   refine wpQuiet_nil ?_;clear e0 e1 iz j6;refine jb rfl ?_;intro X hX;go_wp2;refine hX.out _ _ ((Fr.refl _ wr.drew).alloc _) ?_;clear hX X;have cG:Fr [] wr (wr.drew.alloc (.cells #[.int .u8 h0,.int .u8 h1] 5)):=(Fr.aB [] wr).alloc _;have iu:=dp H.out.1.own cG (by simp);have cA:Cs (wr.drew.alloc (.cells #[.int .u8 h0,.int .u8 h1] 5)) (some ⟨wr.drew.heap.size,0,none⟩) ((tS b).map bv):=by rw[Bp.out];exact .inr ⟨wr.drew.heap.size,0,rfl,λj u hj=>by rw[cell_of (aV wr.drew _)];simpa using hj⟩
   refine jb rfl ?_;intro X hX;refine sj aE _ _ rfl (.slice a out.length c) out.length (out.map bv) S rfl (by rw[cY,HS.out]) iu (some ⟨wr.drew.heap.size,0,none⟩) 2 2 ((tS b).map bv) rfl (by decide) (by simp) cA (by rfl) (qI _) (by omega) (by unfold maxLen;omega) ?_;intro a2 c2 w2 A1;refine hX.out _ _ A1.fr ?_;clear hX X;refine j4 ?_;have HA:=ai cG A1;clear cG A1 iu cA;go_wp2;go_roundg k;case measure=>omega
   case rel=>have A1:=HA.l1;rw[HS.out]at A1;exact⟨i+1,a2,c2,out++tS b,by go_num,by rw[aG];rfl,by omega,H.out.1.step2 HA.o0 A1,by rw[HT.out,za4,<-H.out.2.1]⟩
  ·obtain rfl:i=L:=by omega
   obtain⟨r1,_⟩:=qn2 H.out.1.own;have cv:=xX wr Tryz.underlying35 Tryz.underlying5 Tryz.underlying9 (rfl:out.length=out.length) r1.cs;have HO:=af (show out=mn bs by rw[H.out.2.1,HI.out.2.1,Ia]);clear r1;go_wp2;go_ret;exact⟨by rw[<-HO.out];rfl,H.out.1.fr⟩
open crc
set_option maxRecDepth 100000
theorem zbj (k:Nat) (hk:k<10) (w:World):Calls Tryz.prog 235 #[.int .u8 ((48+k:Nat):Int)] w λe w'=>e = .returned (.tuple #[.int .u8 k,.bool true])/\w'=w:=by
 obtain⟨c,hc⟩:=ah (48+k);rw[<-hc];have g1:decide ((48:Int)<=(c:Int))=true:=by simp;omega
 have g2:decide ((c:Int)<=(57:Int))=true:=by simp;omega
 have e1:(c:Int)-48=(k:Int):=by omega
 have HC:=af hc;have ve:c<=57:=by omega
 have CD:48<=c:=by omega
 clear hc;go_enter Tryz.func235,Tryz.ntmps235;go_wp2;go_ret2;exact⟨rfl,rfl⟩
theorem qxy (k:Nat) (hk:10<=k) (j3:k<16) (w:World):Calls Tryz.prog 235 #[.int .u8 ((87+k:Nat):Int)] w λe w'=>e = .returned (.tuple #[.int .u8 k,.bool true])/\w'=w:=by
 obtain⟨c,hc⟩:=ah (87+k);rw[<-hc];have g1:decide ((48:Int)<=(c:Int))=true:=by simp;omega
 have g2:decide ((c:Int)<=(57:Int))=false:=by simp;omega
 have g3:decide ((97:Int)<=(c:Int))=true:=by simp;omega
 have g4:decide ((c:Int)<=(102:Int))=true:=by simp;omega
 have e1:(c:Int)-97+10=(k:Int):=by omega
 have HC:=af hc;have ve:c<=102:=by omega
 have CD:97<=c:=by omega
 clear hc;go_enter Tryz.func235,Tryz.ntmps235;go_wp2;go_ret2;exact⟨rfl,rfl⟩
def vC (w:World) (bs:LB) (e:Ending) (w':World):Prop:=
 ∃a c,e = .returned (.tuple #[.slice a bs.length c,.bool true])/\Wr w w' a c bs
end pk
namespace lo
open Go
def sK (c:UInt8):Option Nat:=if 48<=c.toNat/\c.toNat<=57 then some (c.toNat-48) else if 97<=c.toNat/\c.toNat<=102 then some (c.toNat-87) else none
theorem Xj {c:UInt8} {x:Nat} (h:sK c=some x):x<16:=by
 unfold sK at h;split at h
 ·simp only[fI]at h;omega
 ·split at h
  ·simp only[fI]at h;omega
  ·cases h
def bG:List UInt8->Option (List UInt8)
 | []=>some []
 | [_]=>none
 | a::b::t=>match sK a,sK b,bG t with
  | some x,some y,some r=>some (UInt8.ofNat (16*x+y)::r)
  | _,_,_=>none
theorem TS:∀{s r:LB},bG s=some r->s.length=2*r.length
 | [],r,h=>by
  simp only[bG,fI]at h;subst h;rfl
 | [_],r,h=>by cases h
 | a::b::t,r,h=>by
  rw[bG]at h;split at h
  ·rename_i x y q _ _ hq;simp only[fI]at h;subst h;have:=TS hq;simp only[dw];omega
  ·cases h
theorem qlm:∀{p r:LB} (a b:UInt8) {x y:Nat},bG p=some r->sK a=some x->sK b=some y->bG (p++[a,b])=some (r++[UInt8.ofNat (16*x+y)])
 | [],r,a,b,x,y,h,ha,hb=>by
  simp only[bG,fI]at h;subst h;simp[bG,ha,hb]
 | [_],r,a,b,x,y,h,_,_=>by cases h
 | c::d::t,r,a,b,x,y,h,ha,hb=>by
  rw[bG]at h;split at h
  ·rename_i u v q hu hv hq;simp only[fI]at h;subst h;have:=qlm a b hq ha hb;rw[uo,uo,bG,hu,hv,this];rfl
  ·cases h
theorem qnp:∀(i:Nat) {s:LB} {a b:UInt8},s[2*i]?=some a->s[2*i+1]?=some b->(sK a=none\/sK b=none)->bG s=none
 | 0,c::d::t,a,b,ha,hb,h=>by
  simp only[Nat.mul_zero,dk,fI]at ha;simp only[Nat.mul_zero,iN,dU,dk,fI]at hb;subst ha hb;rw[bG];rcases h with h|h
  ·rw[h]
  ·rw[h];split<;>simp_all
 | 0,[c],a,b,ha,hb,h=>by simp at hb
 | 0,[],a,b,ha,hb,h=>by simp at hb
 | i+1,c::d::t,a,b,ha,hb,h=>by
  have e:bG t=none:=qnp i (s:=t) (a:=a) (b:=b) (by rw[show 2*(i+1)=2*i+1+1 by omega]at ha;simpa using ha) (by rw[show 2*(i+1)+1=2*i+1+1+1 by omega]at hb;simpa using hb) h;rw[bG,e];split<;>simp_all
 | i+1,[c],a,b,ha,hb,h=>by simp at hb
 | i+1,[],a,b,ha,hb,h=>by simp at hb
theorem qwo:∀{s:LB},s.length%2=1->bG s=none:=λ{s} h=>by
 cases hs:bG s with
 | none=>rfl
 | some r=>have:=TS hs;omega
def dX (s:LB):Bool:=match bG s with
 | some b=>b.length==20
 | none=>false
theorem E0 {s:LB} (h:dX s=true):s.length=40:=by
 unfold dX at h;split at h
 ·rename_i b hb;have:=TS hb;simp only[beq_iff_eq]at h;omega
 ·cases h
open Go.RowKit lib bm crc pk
variable {w w':World} {e:Ending}
set_option maxRecDepth 100000
theorem NZ (c:UInt8) (w:World):Calls Tryz.prog 235 #[.int .u8 ((c.toNat:Nat):Int)] w λe w'=>e = .returned (.tuple #[.int .u8 (((sK c).getD 0:Nat):Int),.bool (sK c).isSome])/\w'=w:=by
 have hc8:=c.toNat_lt;unfold sK;generalize c.toNat=n at *;by_cases h1:48<=n/\n<=57
 ·rw[if_pos h1];have:=zbj (n-48) (by omega) w;rw[show 48+(n-48)=n by omega]at this;exact this
 ·rw[if_neg h1];by_cases h2:97<=n/\n<=102
  ·rw[if_pos h2];have:=qxy (n-87) (by omega) (by omega) w;rw[show 87+(n-87)=n by omega]at this;exact this
  ·rw[if_neg h2];by_cases a1:48<=n
   ·have g1:decide ((48:Int)<=(n:Int))=true:=by simp;omega
    have g2:decide ((n:Int)<=(57:Int))=false:=by simp;omega
    by_cases a2:97<=n
    ·have g3:decide ((97:Int)<=(n:Int))=true:=by simp;omega
     have g4:decide ((n:Int)<=(102:Int))=false:=by simp;omega
     clear h1 h2 a1 a2;go_enter Tryz.func235,Tryz.ntmps235;go_wp2;go_ret2;exact⟨rfl,rfl⟩
    ·have g3:decide ((97:Int)<=(n:Int))=false:=by simp;omega
     clear h1 h2 a1 a2;go_enter Tryz.func235,Tryz.ntmps235;go_wp2;go_ret2;exact⟨rfl,rfl⟩
   ·have g1:decide ((48:Int)<=(n:Int))=false:=by simp;omega
    have g3:decide ((97:Int)<=(n:Int))=false:=by simp;omega
    clear h1 h2 a1;go_enter Tryz.func235,Tryz.ntmps235;go_wp2;go_ret2;exact⟨rfl,rfl⟩
theorem UA (x y:Nat) (hx:x<16) (hy:y<16):bits .or .u8 ((x:Int)*16) (y:Int)=((16*x+y:Nat):Int):=by
 have h:∀x:_root_.Fin 16,∀y:_root_.Fin 16,bits .or .u8 ((x.1:Int)*16) (y.1:Int)=((16*x.1+y.1:Nat):Int):=by decide +kernel
 exact h ⟨x,hx⟩ ⟨y,hy⟩
theorem qz7 (n:Nat) (hn:n<=70368744177664):∃A:Array Value,A.size=n/\∀w:World,(Instr.makeSlice 35 (.int .i64 0) (.int .i64 (n:Nat))).run Tryz.prog w = .ok (.slice (some ⟨w.heap.size,0,none⟩) 0 n) (w.alloc (.cells A 5)):=by obtain⟨hu,⟨i,hi,hz,hs,hb⟩,_,_⟩:=aE;refine⟨madeCells (Value.int .u8 0).cells n,size_madeCells _ _,λw=>?_⟩;have:=run_make (P:=Tryz.prog) w 35 5 i (.int .u8 0) Tryz.underlying35 hi hz .i64 .i64 0 (n:Nat) (Int.le_refl _) (by omega) (by rw[hb];omega) (by omega);rw[hs,xZ,uG]at this;exact this
def eO (w:World) (s:LB) (e:Ending) (w':World):Prop:=match bG s with
 | some bs=>vC w bs e w'
 | none=>e = .returned (.tuple #[.slice none 0 0,.bool false])/\Fr [] w w'
theorem eO.good {s bs:LB} (h:bG s=some bs) (g:vC w bs e w'):eO w s e w':=by unfold eO;rw[h];exact g
theorem eO.bad {s:LB} (h:bG s=none) (g:e = .returned (.tuple #[.slice none 0 0,.bool false])/\Fr [] w w'):eO w s e w':=by unfold eO;rw[h];exact g
theorem EA (s:LB) (w:World) (hlen:s.length<=140737488355328):Calls Tryz.prog 179 #[.string (str s)] w (eO w s):=by
 obtain⟨N,hN⟩:=ah s.length;have cZ:(str s).size=N:=by rw[hN];simp[str,ByteArray.size]
 have Ct:∀i (hi:i<s.length),∀w:World,(Instr.index 9 (.string (str s)) (.int .i64 (i:Nat))).run Tryz.prog w = .ok (.int .u8 ((s[i].toNat:Nat):Int)) w:=λi hi w=>BH s hi w
 rw[<-hN]at hlen;by_cases hodd:N%2=1
 ·have hb:=qwo (s:=s) (by omega);have HB:=af hb;have g1:(N:Int)%2=1:=by omega
  have g0:(((N:Int)%2)!=0)=true:=by rw[g1];decide
  obtain⟨z,hz⟩:=ah (str s);rw[<-hz]at cZ ⊢;clear Ct hb hN hz;go_enter Tryz.func179,Tryz.ntmps179;go_wp2;go_ret2;exact eO.bad HB.out ⟨rfl,Fr.refl _ _⟩
 obtain⟨L,hL⟩:∃L,N=2*L:=⟨N/2,by omega⟩;obtain⟨A,gg,wh⟩:=qz7 L (by omega);obtain⟨z,hz⟩:=ah (str s);rw[<-hz]at cZ Ct ⊢;rw[hL]at cZ hN hlen;have HI:=aq hN Ct gg;clear hL hN hz Ct gg hodd;go_enter Tryz.func179,Tryz.ntmps179;go_upto_region 3 with fail;have o0:Wr w (w.alloc (.cells A 5)) (some ⟨w.heap.size,0,none⟩) L []:=⟨⟨rfl,.inr ⟨w.heap.size,L,A,rfl,eE _,aV _ _,eE _,by unfold maxLen;omega,by rw[HI.l2,uG],by simp⟩⟩,(Fr.refl _ _).alloc _,by simp[ag]⟩;obtain⟨w0,kz⟩:=ah (w.alloc (.cells A 5));have hmw:=wh w;rw[<-kz]at o0 hmw;have H0:=af o0;clear o0 kz wh;go_wp2;go_loopg [4,5] L (λk s4 s5 wr=>∃(i:Nat) (a:OA) (c:Nat) (out:LB),s5 = .int .i64 (2*(i:Int))/\s4 = .slice a out.length c/\i+k=L/\Wr w wr a c out/\bG (s.take (2*i))=some out/\out.length=i);case atStart=>exact⟨0,_,L,[],rfl,rfl,by omega,H0.out,rfl,rfl⟩
 case round=>
  obtain⟨i,a,c,out,rfl,rfl,cQ,h,dt,sx⟩:=hrel;have H:=aq h dt sx;have wa:out.length<=70368744177664:=by omega
  clear h dt sx;by_cases hi:i<L
  ·obtain⟨k,rfl⟩:∃k,gk=k+1:=⟨gk-1,by omega⟩;have cN:2*i<s.length:=by rw[<-HI.o0];omega
   have Cr:2*i+1<s.length:=by rw[<-HI.o0];omega
   have iz:=HI.o1 (2*i) cN;have j6:=HI.o1 (2*i+1) Cr;have e0:((2*i:Nat):Int)=2*(i:Int):=by omega
   have e1:((2*i+1:Nat):Int)=2*(i:Int)+1:=by omega
   rw[e0]at iz;rw[e1]at j6;obtain⟨x,hx⟩:=ah (s[2*i]);obtain⟨y,hy⟩:=ah (s[2*i+1]);rw[<-hx]at iz;rw[<-hy]at j6;have d0:=NZ x;have d1:=NZ y;have ht:s.take (2*(i+1))=s.take (2*i)++[x,y]:=by rw[show 2*(i+1)=2*i+1+1 by omega,x7 Cr,x7 cN,hx,hy,fU];rfl
   have kp:(sK x=none\/sK y=none)->bG s=none:=λhq=>qnp i (by rw[dm cN,hx]) (by rw[dm Cr,hy]) hq
   have HT:=ai ht kp;clear e0 e1 ht kp hx hy cN Cr hmw;generalize jZ:x.toNat=nx at *;generalize hny:y.toNat=ny at *;cases Ba:sK x with
   | none=>
    rw[Ba]at d0;simp only[Option.getD_none,Option.isSome_none]at d0;have HX:=af Ba;generalize (sK y).getD 0=vy at *;generalize (sK y).isSome=by_ at *;clear Ba jZ hny;go_upto_region 8 with (go_at_call 235;refine (d0 _).mono ?_;rintro e w1 ⟨rfl,rfl⟩);go_upto_region 9 with (go_at_call 235;refine (d1 _).mono ?_;rintro e w1 ⟨rfl,rfl⟩);clear d0 d1 iz j6;go_wp2;go_ret2;exact eO.bad (HT.l1 (.inl HX.out)) ⟨rfl,H.o0.fr⟩
   | some vx=>
    have hvx:=Xj Ba;rw[Ba]at d0;simp only[ES,Option.isSome_some]at d0;cases A7:sK y with
    | none=>
     rw[A7]at d1;simp only[Option.getD_none,Option.isSome_none]at d1;have HX:=af A7;clear Ba A7 jZ hny;go_upto_region 8 with (go_at_call 235;refine (d0 _).mono ?_;rintro e w1 ⟨rfl,rfl⟩);go_upto_region 9 with (go_at_call 235;refine (d1 _).mono ?_;rintro e w1 ⟨rfl,rfl⟩);clear d0 d1 iz j6;go_wp2;go_ret2;exact eO.bad (HT.l1 (.inr HX.out)) ⟨rfl,H.o0.fr⟩
    | some vy=>
     have hvy:=Xj A7;rw[A7]at d1;simp only[ES,Option.isSome_some]at d1;have en:=UA vx vy hvx hvy;obtain⟨v,hv⟩:=ah (16*vx+vy);rw[<-hv]at en;have I7:v<256:=by omega
     have hs:=qlm x y H.o1 Ba A7;rw[<-hv,<-HT.o0]at hs;obtain⟨b,hb⟩:=ah (UInt8.ofNat v);rw[<-hb]at hs;have Bd:bv b = .int .u8 v:=by unfold bv;rw[hb,qwq (by omega)]
     obtain⟨S,hS⟩:=ah (ag a);have f0:Fr [] wr (wr.alloc (.cells #[.int .u8 v] 5)):=(Fr.refl [] wr).alloc _;have iu:=dp H.o0.own f0 (by simp);have cA:Cs (wr.alloc (.cells #[.int .u8 v] 5)) (some ⟨wr.heap.size,0,none⟩) [bv b]:=by rw[Bd];exact nD _ _ _ 5 (aV wr _)
     have HA:=aA iu cA f0 hs;have HS:=af hS;clear iu cA f0 hS hs Ba A7 hv hb Bd jZ hny;go_upto_region 8 with (go_at_call 235;refine (d0 _).mono ?_;rintro e w1 ⟨rfl,rfl⟩);go_upto_region 9 with (go_at_call 235;refine (d1 _).mono ?_;rintro e w1 ⟨rfl,rfl⟩);clear d0 d1 iz j6;go_upto_region 11 with fail;go_wp2_with (refine fq aE rfl _ _ rfl (.slice a out.length c) out.length (out.map bv) S rfl (by rw[cY,HS.out]) HA.o0 (some ⟨_,0,none⟩) 1 1 [bv b] rfl (by decide) (by simp) HA.o1 (by rfl) (qI [b]) (by omega) (by unfold maxLen;omega) ?_;intro a2 c2 w2 A1;have WU:=af A1;clear A1);go_roundg k;case measure=>omega
     case rel=>have A1:=WU.out;rw[HS.out]at A1;refine⟨i+1,a2,c2,out++[b],by go_num,by rw[aG];rfl,by omega,H.o0.step HA.o2 A1,HA.l3,by rw[aG,H.l2];rfl⟩
  ·obtain rfl:i=L:=by omega
   go_wp2;go_ret2;have h2:=H.o1;rw[HI.o0,Ia]at h2;exact eO.good h2 ⟨a,c,rfl,H.o0⟩
set_option maxRecDepth 100000
def HD:List UInt8:=[48,49,50,51,52,53,54,55,56,57,97,98,99,100,101,102]
theorem Au (s:LB) (w:World) (hlen:s.length<=140737488355328):Calls Tryz.prog 116 #[.string (str s)] w λe w'=>e = .returned (.bool (dX s))/\Fr [] w w':=by
 have hu:=EA s w hlen;unfold dX;cases hs:bG s with
 | none=>
  have hu:=hu.mono λe w' (h:eO w s e w')=>by unfold eO at h;rw[hs]at h;exact h
  dsimp only at hu ⊢;have H:=af hu;clear hu hs;go_enter Tryz.func116,Tryz.ntmps116;go_wp2_with (go_at_call 179;refine H.out.mono ?_;rintro e w1 ⟨rfl,f1⟩;have H1:=af f1;clear f1);go_ret;exact⟨rfl,H1.out⟩
 | some bs=>
  have hu:=hu.mono λe w' (h:eO w s e w')=>by unfold eO at h;rw[hs]at h;exact h
  dsimp only at hu ⊢;obtain⟨n,hn⟩:=ah bs.length;unfold vC at hu;rw[<-hn]at hu ⊢;have H:=af hu;clear hu hs hn;by_cases xG:n=20
  ·subst xG;go_enter Tryz.func116,Tryz.ntmps116;go_wp2_with (go_at_call 179;refine H.out.mono ?_;rintro e w1 ⟨a,c,rfl,W1⟩;have H1:=af W1;clear W1);go_ret;exact⟨rfl,H1.out.fr⟩
  ·have g1:((n:Int)==20)=false:=by simp only[beq_eq_false_iff_ne];omega
   have g2:(n==20)=false:=by simpa using xG
   rw[g2];clear xG g2;go_enter Tryz.func116,Tryz.ntmps116;go_wp2_with (go_at_call 179;refine H.out.mono ?_;rintro e w1 ⟨a,c,rfl,W1⟩;have H1:=af W1;clear W1);go_ret;exact⟨rfl,H1.out.fr⟩
set_option maxRecDepth 100000
theorem zjb (bs:LB) (j:Nat) (h2:j<=bs.length) (w:World):(Instr.slice 9 (.string (str bs)) none (some (.int .i64 j)) none).run Tryz.prog w = .ok (.string (str (bs.take j))) w:=by rw[run_slice_string_h w 9 (str bs) Tryz.underlying9 .i64 j (by omega) (by rw[aj];omega)];have:=IW bs 0 j;simp only[nE]at this;simp[this]
theorem zfj (bs:LB) (i:Nat) (h2:i<=bs.length) (w:World):(Instr.slice 9 (.string (str bs)) (some (.int .i64 i)) none none).run Tryz.prog w = .ok (.string (str (bs.drop i))) w:=by rw[run_slice_string_l w 9 (str bs) Tryz.underlying9 .i64 i (by omega) (by rw[aj];omega)];have:=IW bs i bs.length;rw[lL (ax _)]at this;simp[aj,this]
def objs:List UInt8:=[111,98,106,101,99,116,115,47]
def az (s:LB):List UInt8:=if dX s=true then objs++s.take 2++[47]++s.drop 2 else []
theorem zdx (s:LB):((⟨#[111,98,106,101,99,116,115,47]⟩:ByteArray)++str (s.take 2)++(⟨#[47]⟩:ByteArray)++str (s.drop 2))=str (objs++s.take 2++[47]++s.drop 2):=by rw[<-gH,<-gH,<-gH];rfl
theorem SM (s:LB) (w:World) (hlen:s.length<=140737488355328):Calls Tryz.prog 66 #[.string (str s)] w λe w'=>e = .returned (.string (str (az s)))/\Fr [] w w':=by
 have hh:=Au s w hlen;unfold az;obtain⟨b,hb⟩:=ah (dX s);rw[<-hb]at hh ⊢;cases b with
 | false=>
  have H:=af hh;obtain⟨z,hz⟩:=ah (str s);rw[<-hz]at H ⊢;clear hh hb hz;go_enter Tryz.func66,Tryz.ntmps66;go_wp2_with (go_at_call 116;refine H.out.mono ?_;rintro e w1 ⟨rfl,f1⟩;have H1:=af f1;clear f1);go_ret;exact⟨rfl,H1.out⟩
 | true=>
  have h40:=E0 hb.symm;have k1:∀w:World,(Instr.slice 9 (.string (str s)) none (some (.int .i64 2)) none).run Tryz.prog w = .ok (.string (str (s.take 2))) w:=zjb s 2 (by omega);have k2:∀w:World,(Instr.slice 9 (.string (str s)) (some (.int .i64 2)) none none).run Tryz.prog w = .ok (.string (str (s.drop 2))) w:=zfj s 2 (by omega);rw[if_pos rfl];have hp:=zdx s;obtain⟨pz,AP⟩:=ah (str (objs++s.take 2++[47]++s.drop 2));rw[<-AP]at hp ⊢;obtain⟨z,hz⟩:=ah (str s);obtain⟨x,hx⟩:=ah (str (s.take 2));obtain⟨y,hy⟩:=ah (str (s.drop 2));rw[<-hz]at hh k1 k2 ⊢;rw[<-hx]at k1 hp;rw[<-hy]at k2 hp;have hxs:x.size=2:=by rw[hx,aj,fH];omega
  have UJ:y.size=38:=by rw[hy,aj,gN];omega
  have H:=ai hh hp;clear hh hb h40 hz hx hy hp AP;go_enter Tryz.func66,Tryz.ntmps66;go_upto_region 3 with (go_at_call 116;refine H.out.1.mono ?_;rintro e w1 ⟨rfl,f1⟩;have H1:=af f1;clear f1);have k1:=λn=>k1 (w1.drewN n)
  have k2:=λn=>k2 (w1.drewN n)
  go_quiet (fail);go_wp2;go_ret;exact⟨by rw[<-H.out.2];rfl,H1.out.trans (Fr.drewN [] w1 _)⟩
end lo
namespace obj
open Go Go.RowKit lib
def eT (k:Int):List UInt8:=if k=1 then [99,111,109,109,105,116] else if k=2 then [116,114,101,101] else if k=3 then [98,108,111,98] else if k=4 then [116,97,103] else []
def ke:Array Value:=#[.string ⟨#[]⟩,.string ⟨#[99,111,109,109,105,116]⟩,.string ⟨#[116,114,101,101]⟩,.string ⟨#[98,108,111,98]⟩,.string ⟨#[116,97,103]⟩]
theorem Lz:(Tryz.prog.info? 135).map (·.size)=some 5:=by kernel_rfl
theorem Uq {fn:Func} {p:Tmp} (h:fn.results=#[.cell p 135]) (tmps:AV) (w:World) (g:Nat) (cs:AV) (fr:Nat×Nat)
  (hp:tmps.getD p undef = .pointer (some ⟨g,0,none⟩)) (hg:w.heap[g]?=some (.cells cs 135 fr)) (hs:cs.size=5):(results fn tmps).run Tryz.prog w = .ok (.agg cs) w:=
 results_cell_row h tmps w g 135 cs fr _ hp hg Tryz.underlying135 rfl (by rw[Lz,hs])
theorem Z6 (w:World):Calls Tryz.prog 58 #[] w λe w'=>e = .returned (.agg ke)/\Fr [] w w':=by go_enter Tryz.func58,Tryz.ntmps58;go_wp2;exact bodyPost_ret (Uq rfl _ _ w.heap.size _ (0,0) rfl (aV w _) rfl) rfl ⟨rfl,(Fr.refl [] w).alloc _⟩
theorem Pp (k:Int) (w:World):Calls Tryz.prog 23 #[.int .i64 k] w λe w'=>e = .returned (.string (str (eT k)))/\Fr [] w w':=by
 by_cases h0:k<0
 ·have hn:eT k=[]:=by unfold eT;rw[if_neg (by omega),if_neg (by omega),if_neg (by omega),if_neg (by omega)]
  rw[hn];go_enter Tryz.func23,Tryz.ntmps23;go_wp2;go_ret;exact⟨rfl,Fr.refl _ _⟩
 ·by_cases h4:4<k
  ·have hn:eT k=[]:=by unfold eT;rw[if_neg (by omega),if_neg (by omega),if_neg (by omega),if_neg (by omega)]
   rw[hn];go_enter Tryz.func23,Tryz.ntmps23;go_wp2;go_ret;exact⟨rfl,Fr.refl _ _⟩
  ·have hk:k=0\/k=1\/k=2\/k=3\/k=4:=by omega
   have i0:∀w:World,(Instr.index 135 (.agg ke) (.int .i64 0)).run Tryz.prog w = .ok (.string ⟨#[]⟩) w:=λw=>by kernel_rfl
   have i1:∀w:World,(Instr.index 135 (.agg ke) (.int .i64 1)).run Tryz.prog w = .ok (.string ⟨#[99,111,109,109,105,116]⟩) w:=λw=>by kernel_rfl
   have i2:∀w:World,(Instr.index 135 (.agg ke) (.int .i64 2)).run Tryz.prog w = .ok (.string ⟨#[116,114,101,101]⟩) w:=λw=>by kernel_rfl
   have i3:∀w:World,(Instr.index 135 (.agg ke) (.int .i64 3)).run Tryz.prog w = .ok (.string ⟨#[98,108,111,98]⟩) w:=λw=>by kernel_rfl
   have i4:∀w:World,(Instr.index 135 (.agg ke) (.int .i64 4)).run Tryz.prog w = .ok (.string ⟨#[116,97,103]⟩) w:=λw=>by kernel_rfl
   clear h0 h4;rcases hk with rfl|rfl|rfl|rfl|rfl
   all_goals
    go_enter Tryz.func23,Tryz.ntmps23
    go_wp2_with (go_at_call 58;refine (Z6 _).mono ?_;rintro e w1 ⟨rfl,f1⟩)
    go_ret
    exact⟨rfl,f1⟩
theorem XK {m:Nat} (h:9<m):Lib.decDigits m=Lib.decDigits (m/10)++[UInt8.ofNat (48+m%10)]:=by rw[Lib.decDigits,dif_neg (by omega)]
theorem ZQ {m:Nat} (h:¬9<m):Lib.decDigits m=[UInt8.ofNat (48+m)]:=by rw[Lib.decDigits,dif_pos (by omega)]
def header (k:Int) (n:Nat):List UInt8:=eT k++[32]++Lib.decDigits n++[0]
theorem Pk (k:Int):(eT k).length<=6:=by unfold eT;repeat (split<;>first|decide|skip)
theorem O5:∀(k n:Nat),0<k->n<10^k->(Lib.decDigits n).length<=k
 | 0,n,h,_=>by omega
 | k+1,n,_,hn=>by
  by_cases h:9<n
  ·rw[XK h,aG];have h1:n/10<10^k:=by rw[qJ]at hn;omega
   have hk:0<k:=by
    rcases Nat.eq_zero_or_pos k with rfl|hk
    ·simp at h1;omega
    ·exact hk
   have:=O5 k (n/10) hk h1;simp only[dw,jK];omega
  ·rw[ZQ h];simp
theorem KH (k:Int) (n:Nat) (hn:n<=140737488355328):(header k n).length<=24:=by
 have h1:=Pk k;have h2:=O5 16 n (by decide) (by
  have:10^16=10000000000000000:=by decide
  omega)
 unfold header;simp only[aG,dw,jK];omega
end obj

end Go.Proofs.YticadfhpolhkeaaGreatDoor