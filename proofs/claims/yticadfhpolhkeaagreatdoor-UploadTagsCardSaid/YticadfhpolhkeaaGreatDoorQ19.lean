/-
  Texts of this proof, one behind the other: FsI, FsJ, FsK, IterS, FsL, FsM, FsN, LoSave, RefOp, NameV, ObjF.
-/
import Derived.Test.YticadfhpolhkeaaGreatDoorQ18
import Derived.Shelf.SlIter.Nil
import Derived.Shelf.SlMaps.Clone
import Derived.Ground.GgzProg
import Derived.Ground.SlmcProg
import Derived.Sort.OwnSorted
import Derived.Sort.KeysCollected
set_option maxHeartbeats 16000000
set_option maxRecDepth 100000
set_option linter.unusedVariables false
set_option linter.unusedSimpArgs false
namespace Go.Proofs.YticadfhpolhkeaaGreatDoor
namespace fs
open Go Go.RowKit lib pk
set_option maxRecDepth 100000
theorem qqx (B n:Nat) (g:Nm->Option Nat) (k k2:Nm) (P:Nat) (w:World) (hN:Names w B n g) (hn:n<1000) (hk:lF k) (j3:lF k2) (hg:g k=some P) :
  Calls Tryz.prog 440 #[.agg #[.string (str k),.string (str k2)],.map (some B)] w λe w'=>e = .returned (.tuple #[])/\Names w' B (n+1) (set (set g k2 (some P)) k none)/\Fr [B] w w':=by
 have f1:Fr [] w (w.alloc (.cells #[.string (str k),.string (str k2)] 242)):=(Fr.refl [] w).alloc _;have hb:=aV w (.cells #[.string (str k),.string (str k2)] 242);obtain⟨X,hX⟩:=ah w.heap.size;obtain⟨w1,aJ⟩:=ah (w.alloc (.cells #[.string (str k),.string (str k2)] 242));rw[<-aJ,<-hX]at hb;rw[<-aJ]at f1;have xE:=hN.fr f1 (by simp);have hXB:X≠B:=xE.at_.ne hb;have c0:w1.cell? ⟨X,0,none⟩=some (.string (str k)):=by rw[cell_of hb];rfl
 have c1:w1.cell? ⟨X,1,none⟩=some (.string (str k2)):=by rw[cell_of hb];rfl
 have iF:=xE.look k (by have:=hk.2.1;omega);rw[hg]at iF;have uW:(Instr.lookup 92 (.map (some B)) (.string (str k)) false).run Tryz.prog w1 = .ok (.pointer (some ⟨P,0,none⟩)) w1:=iF;obtain⟨w2,aW,ym,f2⟩:=xE.store hn k2 (by have:=j3.2.1;omega) P;have Cf:(Instr.mapUpdate 92 (.map (some B)) (.string (str k2)) (.pointer (some ⟨P,0,none⟩))).run Tryz.prog w1 = .ok () w2:=aW;have d0:w2.cell? ⟨X,0,none⟩=some (.string (str k)):=by rw[cell_of (f2.ag hb (by simpa using hXB))];rfl
 obtain⟨w3,Gj,Ny,f3⟩:=ym.drop k (by have:=hk.2.1;omega) 0;obtain⟨z,hz⟩:=ah (str k);obtain⟨y,hy⟩:=ah (str k2);rw[<-hz]at c0 uW aJ d0 Gj ⊢;rw[<-hy]at c1 Cf aJ ⊢;have H:=aA Ny (((f1.mono (T:=[B]) (by simp)).trans f2).trans f3) hX aJ;clear aW hN xE ym Ny f1 f2 f3 hb hX aJ hz hy hk j3 hg iF hXB;go_enter Tryz.func440,Tryz.ntmps440;go_upto_region 1 with fail;rw[<-H.o2,<-H.l3];go_wp2;exact bodyPost_end (results_none rfl _ _ _) rfl ⟨rfl,H.o0,H.o1⟩
theorem qsg (k k2:Nm) (w:World):(nilAhead (Tryz.prog.types.size+Made.depth) 242 (.agg #[.string (str k),.string (str k2)]) "stemma/fs.apply").run Tryz.prog w = .ok (some false) w:=by kernel_rfl
theorem qtp (k k2:Nm) (f:Nat) (w:World):(method (f+1) 242 (.agg #[.string (str k),.string (str k2)]) "stemma/fs.apply").run Tryz.prog w = .ok (440,.agg #[.string (str k),.string (str k2)]) w:=by kernel_rfl
theorem quh (B:Nat) (k k2:Nm) (w:World):(callFunc 440 #[.agg #[.string (str k),.string (str k2)],.map (some B)]).run Tryz.prog w = .ok (.enter 440 #[.agg #[.string (str k),.string (str k2)],.map (some B)]) w:=by kernel_rfl
theorem qwy (F q B n m:Nat) (dz bj:Value) (vs:LV) (g:Nm->Option Nat) (k k2:Nm) (P:Nat) (w:World) (hF:rY w F q B dz bj) (hN:Names w B n g) (hn:n<1000) (hc:w.ownsRow 0 313 1 bj m vs) (hm:m<=1000) (rO:F≠B) (qY:∀x,bj.ownBlock=some x->x≠F/\x≠B) (hk:lF k) (j3:lF k2) (bg:k≠k2) (hg:g k=some P) :
  Calls Tryz.prog 74 #[.pointer (some ⟨F,0,none⟩),.string (str k),.string (str k2)] w λe w'=>∃w1,Fr [] w w1/\RB w1 F q B dz bj m (n+1) (set (set g k2 (some P)) k none) e w':=by
 have f1:Fr [] w (w.alloc (.cells #[.string (str k),.string (str k2)] 9)):=(Fr.refl [] w).alloc _;have hb:=aV w (.cells #[.string (str k),.string (str k2)] 9);obtain⟨w1,aJ⟩:=ah (w.alloc (.cells #[.string (str k),.string (str k2)] 9));rw[<-aJ]at f1 hb;obtain⟨X,hX⟩:=ah w.heap.size;rw[<-hX]at hb;have jP:=SK F q B dz bj X 2 [k,k2] w1 (f1.ag hF (by simp)) (λi x hi=>by
  match i,hi with
  | 0,hi=>
   obtain rfl:=ig hi
   rw[cell_of hb]
   rfl
  | 1,hi=>
   obtain rfl:=ig hi
   rw[cell_of hb]
   rfl) (λx hx=>by simp only[eX,mV,or_false]at hx;rcases hx with rfl|rfl;exact hk;exact j3) (by show (2:Nat)<=2;decide)
 rw[show [k,k2].length=2 from rfl]at jP;have c1:w1.cell? ⟨F,1,none⟩=some (.map (some B)):=by rw[cell_of (f1.ag hF (by simp))];rfl
 have iF:=(hN.fr f1 (by simp)).look k (by have:=hk.2.1;omega);rw[hg]at iF;have uW:(Instr.lookup 92 (.map (some B)) (.string (str k)) false).run Tryz.prog w1 = .ok (.pointer (some ⟨P,0,none⟩)) w1:=iF;have cj:=TG F q B n (n+1) m dz bj vs g (set (set g k2 (some P)) k none) 242 (.agg #[.string (str k),.string (str k2)]) 440 w1 (f1.ag hF (by simp)) (hN.fr f1 (by simp)) (dp hc f1 (by simp)) hm rO qY (λw=>qsg k k2 w) (λf w=>qtp k k2 f w) (λw=>quh B k k2 w) (λw' h=>qqx B n g k k2 P w' h hn hk j3 hg);have hzy:((str k).toList==(str k2).toList)=false:=by rw[ay,ay];simpa using bg
 obtain⟨z,hz⟩:=ah (str k);obtain⟨y,hy⟩:=ah (str k2);rw[<-hz]at uW aJ cj hzy ⊢;rw[<-hy]at aJ cj hzy ⊢;have H:=aq jP cj f1;have HW:=ai hX aJ;clear jP cj f1 hb hF hN hk j3 hz hy hX aJ iF hc hg qY bg;go_enter Tryz.func74,Tryz.ntmps74;go_wp2_with (first
  | (go_at_call 136;rw[<-HW.o0,<-HW.l1];refine H.o0.mono ?_;rintro e w3 ⟨rfl,hw⟩;obtain rfl:=hw.symm)
  | (go_at_call 137;refine H.o1.mono ?_;rintro e w4 h4;obtain⟨rfl,h5⟩:=h4;have H5:=af h5;clear h5))
 go_ret;exact⟨w1,H.l2,rfl,H5.out⟩
set_option maxRecDepth 100000
theorem TJ (F n M:Nat) (t:Nm->Option (List UInt8)) (lab:Nat->Option Lb) (k k2:Nm) (bs:LB) (w:World) (h:Fs w F n M t lab) (hk:lF k) (j3:lF k2) (bg:k≠k2) (ht:t k=some bs) (hn:n<890) :
  Calls Tryz.prog 74 #[.pointer (some ⟨F,0,none⟩),.string (str k),.string (str k2)] w λe w'=>e = .returned (.int .i64 0)/\∃av,Fs w' F (n+1) M (aS (aS t k2 (some bs)) k none) av/\dS w lab w' av:=by
 obtain⟨⟨q,B,dz,bj,m,vs,g,hq,h1,h2,h3,h4,h5,h6,h7,h8,h9,iC⟩,kM,hM,ef⟩:=h;obtain⟨b1,P,a,c,syn,b2,b3,b4,b5⟩:=h9 k bs ht;have ne:∀{x y:Nat} {l l':Lb},lab x=some l->lab y=some l'->l≠l'->x≠y:=λhx hy hl e=>by rw[e,hy]at hx;exact hl (ig hx).symm
 have rO:F≠B:=ne h5 h6 (by intro e;cases e);have qY:∀x,bj.ownBlock=some x->x≠F/\x≠B:=λx hx=>⟨ne (h7 x hx) h5 (by intro e;cases e),ne (h7 x hx) h6 (by intro e;cases e)⟩
 refine (qwy F q B n m dz bj vs g k k2 P w h1 h2 (by omega) h3 (by omega) rO qY hk j3 bg b2).mono ?_;rintro e w' ⟨w1,f1,he,jG,CU,k1,k3,k5,f2,k4⟩;have uB:∀x∈F::B::bj.ownBlock.toList,∃l,lab x=some l/\(l = .fs\/l = .names\/l = .bj):=λx hm=>by
  simp only[eX,Ii]at hm;rcases hm with rfl|rfl|hm
  ·exact⟨_,h5,.inl rfl⟩
  ·exact⟨_,h6,.inr (.inl rfl)⟩
  ·exact⟨_,h7 x hm,.inr (.inr rfl)⟩
 have f12:Fr (F::B::bj.ownBlock.toList) w w':=(f1.mono (T:=F::B::bj.ownBlock.toList) (by simp)).trans f2;obtain⟨av,jm⟩:∃av:Nat->Option Lb,av=λx=>if jG.ownBlock=some x then some .bj else lab x:=⟨_,rfl⟩
 have dL:∀x l,lab x=some l->av x=some l:=λx l hl=>by
  rw[jm];simp only;split
  ·next hc=>
   rcases k4 x hc with hc|hc
   ·rw[h7 x hc]at hl;exact hl
   ·have:=ef x (by rw[hl];exact nW l);have:=f1.size;omega
  ·exact hl
 have off:∀x l,lab x=some l->l≠.fs->l≠.names->l≠.bj->x∉F::B::bj.ownBlock.toList:=λx l hl n1 n2 n3 hm=>by
  obtain⟨l',tL,hc⟩:=uB x hm;rw[hl]at tL;obtain rfl:=ig tL;rcases hc with e|e|e
  ·exact n1 e
  ·exact n2 e
  ·exact n3 e
 have vV:∀x qB,t x=some qB->qB.length<=M/\∃p a c syn,g x=some p/\pH w' p a c syn qB/\av p=some .file/\∀y∈ag a,av y=some (.data p):=λx qB hx=>by obtain⟨d1,p',a2,c2,rm,d2,d3,d4,d5⟩:=h9 x qB hx;exact⟨d1,p',a2,c2,rm,d2,⟨f12.ag d3.1 (off _ _ d4 (by intro e;cases e) (by intro e;cases e) (by intro e;cases e)),d3.2.fr f12 (λy hy=>off _ _ (d5 y hy) (by intro e;cases e) (by intro e;cases e) (by intro e;cases e))⟩,dL _ _ d4,λy hy=>dL _ _ (d5 y hy)⟩
 have gk:∀x p,set (set g k2 (some P)) k none x=some p->x≠k/\((x=k2/\p=P)\/(x≠k2/\g x=some p)):=λx p hx=>by
  unfold set at hx;by_cases e1:x=k
  ·rw[if_pos e1]at hx;cases hx
  ·rw[if_neg e1]at hx;by_cases e2:x=k2
   ·rw[if_pos e2]at hx;exact⟨e1,.inl ⟨e2,(ig hx).symm⟩⟩
   ·rw[if_neg e2]at hx;exact⟨e1,.inr ⟨e2,hx⟩⟩
 refine⟨he,av,⟨⟨q,B,dz,jG,m+1,CU,_,hq,k1,k3,k5,by omega,dL _ _ h5,dL _ _ h6,λx hx=>by rw[jm];simp only[if_pos hx],λx hx=>?_,λx qB hx=>?_,λx y p hx hy=>?_⟩,by omega,hM,λx hx=>?_⟩,⟨_,f12,λx hx=>?_⟩,λx hx=>?_⟩
 ·unfold aS at hx;unfold set;by_cases e1:x=k
  ·rw[if_pos e1]
  ·rw[if_neg e1]at hx ⊢;by_cases e2:x=k2
   ·rw[if_pos e2]at hx;cases hx
   ·rw[if_neg e2]at hx ⊢;exact h8 x hx
 ·unfold aS at hx;unfold set;by_cases e1:x=k
  ·rw[if_pos e1]at hx;cases hx
  ·rw[if_neg e1]at hx ⊢;by_cases e2:x=k2
   ·rw[if_pos e2]at hx ⊢;obtain rfl:=ig hx;have:=vV k bs ht;rw[b2]at this;exact this
   ·rw[if_neg e2]at hx ⊢;exact vV x qB hx
 ·obtain⟨x1,hx⟩:=gk x p hx;obtain⟨y1,hy⟩:=gk y p hy;rcases hx with⟨x2,x3⟩|⟨x2,x3⟩
  ·rcases hy with⟨y2,y3⟩|⟨y2,y3⟩
   ·rw[x2,y2]
   ·rw[x3]at y3;exact absurd (iC y k P y3 b2) y1
  ·rcases hy with⟨y2,y3⟩|⟨y2,y3⟩
   ·rw[y3]at x3;exact absurd (iC x k P x3 b2) x1
   ·exact iC x y p x3 y3
 ·rw[jm]at hx;simp only at hx;by_cases e1:jG.ownBlock=some x
  ·exact R5 k5 e1
  ·rw[if_neg e1]at hx;exact fM (ef x hx) f12.size
 ·obtain⟨l,hl,_⟩:=uB x hx;rw[hl];exact nW _
 ·rw[jm]at hx;simp only at hx;by_cases e1:jG.ownBlock=some x
  ·rcases k4 x e1 with hc|hc
   ·left;rw[h7 x hc];exact nW _
   ·right;have:=f1.size;omega
  ·rw[if_neg e1]at hx;exact .inl hx
set_option maxRecDepth 100000
theorem PW (F n M:Nat) (t:Nm->Option (List UInt8)) (lab:Nat->Option Lb) (k:Nm) (w:World) (h:Fs w F n M t lab) (hk:lF k) (ht:t k=none) :
  Calls Tryz.prog 120 #[.pointer (some ⟨F,0,none⟩),.string (str k)] w λe w'=>e = .returned (.int .i64 61)/\Fr [] w w':=by
 obtain⟨⟨q,B,dz,bj,m,vs,g,hq,h1,h2,h3,h4,h5,h6,h7,h8,h9,iC⟩,_,_,ef⟩:=h;have kC:=J7 F q B n dz bj g k w h1 h2 hk;rw[h8 k ht]at kC;unfold GY at kC;obtain⟨z,hz⟩:=ah (str k);rw[<-hz]at kC ⊢;have H:=af kC;clear kC h1 h2 h3 h4 h5 h6 h7 h8 h9 iC ef hz ht;go_enter Tryz.func120,Tryz.ntmps120;go_wp2_with (go_at_call 119;refine H.out.mono ?_;rintro e w1 ⟨rfl,f1⟩;have H1:=af f1;clear f1);go_ret;exact⟨rfl,H1.out⟩
theorem ZD (F n M:Nat) (t:Nm->Option (List UInt8)) (lab:Nat->Option Lb) (k:Nm) (bs:LB) (w:World) (h:Fs w F n M t lab) (hk:lF k) (ht:t k=some bs) :
  Calls Tryz.prog 123 #[.pointer (some ⟨F,0,none⟩),.string (str k)] w λe w'=>e = .returned (.int .i64 0)/\Fs w' F n M t lab/\dS w lab w' lab:=by
 obtain⟨⟨q,B,dz,bj,m,vs,g,hq,h1,h2,h3,h4,h5,h6,h7,h8,h9,iC⟩,kM,hM,ef⟩:=h;obtain⟨b1,p,a,c,syn,b2,b3,b4,b5⟩:=h9 k bs ht;have ne:∀{x y:Nat} {l l':Lb},lab x=some l->lab y=some l'->l≠l'->x≠y:=λhx hy hl e=>by rw[e,hy]at hx;exact hl (ig hx).symm
 have Jd:p≠F:=ne b4 h5 (by intro e;cases e);have kC:=J7 F q B n dz bj g k w h1 h2 hk;rw[b2]at kC;unfold GY at kC;have iA:Calls Tryz.prog 123 #[.pointer (some ⟨F,0,none⟩),.string (str k)] w λe w'=>e = .returned (.int .i64 0)/\pH w' p a c (bs.length:Nat) bs/\rY w' F q B dz bj/\Fr [F,p] w w':=by
  obtain⟨z,hz⟩:=ah (str k);rw[<-hz]at kC ⊢;have zF:∀x∈ag a,x≠F/\x≠p:=λx hx=>⟨ne (b5 x hx) h5 (by intro e;cases e),ne (b5 x hx) b4 (by intro e;cases e)⟩
  obtain⟨L,hL⟩:=ah bs.length;have H:=aQ kC h1 b3 zF hL;clear kC h1 h2 h3 h4 h5 h6 h7 h8 h9 iC ef hz ht b2 b3 b4 b5 zF ne;rw[<-hL]at b1 ⊢;clear hL;go_enter Tryz.func123,Tryz.ntmps123;go_upto_region 3 with (go_at_call 119;refine H.o0.mono ?_;rintro e w1 ⟨rfl,f1⟩;have H1:=af f1;clear f1);have qZ:=O4 F q B dz bj w1 (H1.out.ag H.o1 (by simp));have HB:=af qZ;clear qZ;go_upto_region 5 with (go_at_call 125;refine HB.out.mono ?_;rintro e w3 ⟨rfl,b3,f3⟩;have H3:=ai b3 f3;clear b3 f3);have f13:Fr [F] w w3:=(H1.out.mono (T:=[F]) (by simp)).trans H3.l1;have p3:=f13.ag H.o2.1 (by simpa using Jd);have c0:w3.cell? ⟨p,0,none⟩=some (.slice a L c):=by rw[cell_of p3,H.l4];rfl
  have c1:w3.cell? ⟨p,1,none⟩=some (.int .i64 syn):=by rw[cell_of p3];rfl
  have z1:=aT p3 1;have H4:=ai f13 p3;clear f13 p3;go_wp2;go_ret;obtain⟨f13,p3⟩:=H4.out;have f5:Fr [p] w3 (w3.setCell ⟨p,1,none⟩ (.int .i64 L)):=(Fr.refl [p] w3).setCell (by simp) _;have hT:Fr [F,p] w (w3.setCell ⟨p,1,none⟩ (.int .i64 L)):=(f13.mono (T:=[F,p]) (λy hy=>.inl (by simp at hy ⊢;exact .inl hy))).trans (f5.mono (T:=[F,p]) (λy hy=>.inl (by simp at hy ⊢;exact .inr hy)));refine⟨rfl,⟨(df (o:=1) p3 _).trans rfl,H.o2.2.fr hT (λx hx=>by have:=H.o3 x hx;simpa using this)⟩,f5.ag H3.o0 (by simpa using λe=>Jd e.symm),hT⟩
 refine iA.mono ?_;rintro e w' ⟨he,k1,k2,f⟩;have off:∀x l,lab x=some l->l≠.fs->x≠p->x∉[F,p]:=λx l hl n1 n2 hm=>by
  simp only[eX,mV,or_false]at hm;rcases hm with rfl|rfl
  ·rw[h5]at hl;exact n1 (ig hl).symm
  ·exact n2 rfl
 refine⟨he,⟨⟨q,B,dz,bj,m,vs,g,hq,k2,h2.fr f (off _ _ h6 (by intro e;cases e) (ne h6 b4 (by intro e;cases e))),dp h3 f (λx hx=>off _ _ (h7 x hx) (by intro e;cases e) (ne (h7 x hx) b4 (by intro e;cases e))),h4,h5,h6,h7,h8,λx qB hx=>?_,iC⟩,kM,hM,λx hx=>fM (ef x hx) f.size⟩,⟨_,f,λx hx=>?_⟩,λx hx=>.inl hx⟩
 ·by_cases e:x=k
  ·subst e;rw[ht]at hx;obtain rfl:=ig hx;exact⟨b1,p,a,c,_,b2,k1,b4,b5⟩
  ·obtain⟨d1,p',a2,c2,rm,d2,d3,d4,d5⟩:=h9 x qB hx;have ki:p'≠p:=λhp=>e (iC x k p (by rw[<-hp];exact d2) b2)
   exact⟨d1,p',a2,c2,rm,d2,⟨f.ag d3.1 (off _ _ d4 (by intro e;cases e) ki),d3.2.fr f (λy hy=>off _ _ (d5 y hy) (by intro e;cases e) (ne (d5 y hy) b4 (by intro e;cases e)))⟩,d4,d5⟩
 ·simp only[eX,mV,or_false]at hx;rcases hx with rfl|rfl
  ·rw[h5];exact nW _
  ·rw[b4];exact nW _
end fs
end Go.Proofs.YticadfhpolhkeaaGreatDoor
namespace Go.Proofs
open Go.Shelf
def Tryz.keysI_ren:Go.Shelf.Ren:=⟨fun|7=>209|10=>262|n=>n,fun|23=>92|26=>9|3=>217|28=>325|0=>0|27=>324|33=>44|4=>4|n=>n,fun|n=>n⟩
theorem Tryz.keysI:Go.Proofs.SlLaysZ.n7 Tryz.prog Tryz.keysI_ren:={
 mixed:=by kernel_rfl
 f7:=⟨Tryz.f209.name,by decide,Tryz.func209.trans (congrArg some (by kernel_rfl))⟩
 f10:=⟨Tryz.f262.name,by decide,Tryz.func262.trans (congrArg some (by kernel_rfl))⟩
 t0:=Tryz.underlying0
 a0:=Tryz.isAgg0
 z0:=Tryz.sizeOf0
 v0:=Tryz.zeroValue0
 t4:=Tryz.underlying4
 a4:=Tryz.isAgg4
 z4:=Tryz.sizeOf4
 v4:=Tryz.zeroValue4
 t23:=Tryz.underlying92
 a23:=Tryz.isAgg92
 z23:=Tryz.sizeOf92
 v23:=Tryz.zeroValue92
 t26:=Tryz.underlying9
 a26:=Tryz.isAgg9
 z26:=Tryz.sizeOf9
 v26:=Tryz.zeroValue9
 t27:=Tryz.underlying324
 a27:=Tryz.isAgg324
 z27:=Tryz.sizeOf324
 v27:=Tryz.zeroValue324
 t28:=Tryz.underlying325
 a28:=Tryz.isAgg325
 z28:=Tryz.sizeOf325
 v28:=Tryz.zeroValue325
 t33:=Tryz.underlying44
 a33:=Tryz.isAgg44
 z33:=Tryz.sizeOf44
 v33:=Tryz.zeroValue44 }
def Tryz.sortedI_ren:Go.Shelf.Ren:=⟨fun|6=>208|8=>261|9=>105|11=>315|13=>164|12=>163|23=>225|24=>226|14=>216|15=>217|16=>218|17=>219|18=>220|19=>221|20=>222|21=>223|22=>224|25=>270|26=>271|27=>272|28=>273|29=>274|30=>275|31=>319|n=>n,fun|26=>9|28=>325|24=>43|0=>0|3=>3|37=>185|48=>202|50=>204|4=>4|40=>334|39=>333|45=>213|5=>5|9=>9|51=>387|55=>391|57=>462|58=>463|33=>44|n=>n,fun|n=>n⟩
theorem Tryz.sortedI:Go.Proofs.SlLaysZ.n6 Tryz.prog Tryz.sortedI_ren:={
 mixed:=by kernel_rfl
 f6:=⟨Tryz.f208.name,by decide,Tryz.func208.trans (congrArg some (by kernel_rfl))⟩
 f8:=⟨Tryz.f261.name,by decide,Tryz.func261.trans (congrArg some (by kernel_rfl))⟩
 f11:=⟨Tryz.f315.name,by decide,Tryz.func315.trans (congrArg some (by kernel_rfl))⟩
 t0:=Tryz.underlying0
 a0:=Tryz.isAgg0
 z0:=Tryz.sizeOf0
 v0:=Tryz.zeroValue0
 t24:=Tryz.underlying43
 a24:=Tryz.isAgg43
 z24:=Tryz.sizeOf43
 v24:=Tryz.zeroValue43
 t26:=Tryz.underlying9
 a26:=Tryz.isAgg9
 z26:=Tryz.sizeOf9
 v26:=Tryz.zeroValue9
 t28:=Tryz.underlying325
 a28:=Tryz.isAgg325
 z28:=Tryz.sizeOf325
 v28:=Tryz.zeroValue325
 i26:=by kernel_rfl }
def Tryz.cloneI_ren:Go.Shelf.Ren:=⟨fun|5=>126|7=>187|n=>n,fun|23=>92|25=>9|3=>217|4=>4|20=>20|n=>n,fun|n=>n⟩
theorem Tryz.cloneI:Go.Proofs.SlLaysW.n5 Tryz.prog Tryz.cloneI_ren:={
 mixed:=by kernel_rfl
 f5:=⟨Tryz.f126.name,by decide,Tryz.func126.trans (congrArg some (by kernel_rfl))⟩
 f7:=Tryz.func187.trans (congrArg some (by kernel_rfl))
 t4:=Tryz.underlying4
 a4:=Tryz.isAgg4
 z4:=Tryz.sizeOf4
 v4:=Tryz.zeroValue4
 t20:=Tryz.underlying20
 a20:=Tryz.isAgg20
 z20:=Tryz.sizeOf20
 v20:=Tryz.zeroValue20
 t23:=Tryz.underlying92
 a23:=Tryz.isAgg92
 z23:=Tryz.sizeOf92
 v23:=Tryz.zeroValue92 }
theorem Tryz.sortsI (m:Nat):AnyZ.SortsIn Tryz.prog Tryz.sortedI_ren Fence.wide m:=
 ⟨λag off cap ss W hH nP cZ=>callsIn_wide.2 (Tryz.slices_Sort_string ag off cap ss W hH nP cZ),
  λp cap W=>callsIn_wide.2 (Any.slices_Sort_string_none Tryz.lays190 p cap W)⟩
end Go.Proofs
namespace Go.Proofs.YticadfhpolhkeaaGreatDoor
namespace fs
open Go Go.RowKit lib pk
variable {t:Nm->Option (List UInt8)} {g:Nm->Option Nat}
set_option maxRecDepth 100000
theorem PQ (F n M:Nat) (t:Nm->Option (List UInt8)) (lab:Nat->Option Lb) (w:World) (h:Fs w F n M t lab) :
  Calls Tryz.prog 69 #[.pointer (some ⟨F,0,none⟩)] w λe w'=>e = .returned (.int .i64 0)/\Fs w' F n M t lab/\dS w lab w' lab:=by
 obtain⟨⟨q,B,dz,bj,m,vs,g,hq,h1,h2,h3,h4,h5,h6,h7,h8,h9,iC⟩,kM,hM,ef⟩:=h;have rO:F≠B:=by rintro rfl;rw[h5]at h6;cases h6
 have iA:Calls Tryz.prog 69 #[.pointer (some ⟨F,0,none⟩)] w λe w'=>e = .returned (.int .i64 0)/\∃Fg,rY w' F q B Fg (.slice none 0 0)/\Fr [F] w w':=by
  have qZ:=O4 F q B dz bj w h1;have c5:w.cell? ⟨F,5,none⟩=some (.bool false):=by rw[cell_of h1];rfl
  have H:=aq qZ h2.at_ rO;clear qZ h1 h2 h3 h4 h5 h6 h7 h8 h9 iC ef rO;go_enter Tryz.func69,Tryz.ntmps69;go_upto_region 6 with (go_at_call 125;refine H.out.1.mono ?_;rintro e w1 ⟨rfl,b1,f1⟩;have H1:=ai b1 f1;clear b1 f1);have c1:w1.cell? ⟨F,1,none⟩=some (.map (some B)):=by rw[cell_of H1.o0];rfl
  obtain⟨es,clock,hm⟩:=H.out.2.1;have hm:=H1.l1.ag hm (by simpa using λe=>H.out.2.2 e.symm);have fX:Calls Tryz.prog 126 #[.map (some B)] w1 λe w'=>∃x,e = .returned (.map (some x))/\rY w' F q B dz bj/\Fr [] w1 w':=(AnyW.maps_Clone Tryz.cloneI B es clock w1 hm).mono λe w' ⟨he,hw⟩=>⟨_,he,by rw[hw];exact ((Fr.refl [] w1).alloc _).ag H1.o0 (by simp),by rw[hw];exact (Fr.refl [] w1).alloc _⟩
  have HC:=af fX;clear fX hm c5;go_wp2_with (go_at_call 126;refine HC.out.mono ?_;rintro e w2 ⟨x,rfl,b2,f2⟩;have z2:=aT b2 2;have z3:=aT b2 3;have d2:w2.cell? ⟨F,2,none⟩=some dz:=(by rw[cell_of b2];rfl);have d3:w2.cell? ⟨F,3,none⟩=some bj:=(by rw[cell_of b2];rfl);have H2:=ai b2 f2;clear b2 f2);go_ret;obtain⟨b2,f2⟩:=H2.out;refine⟨rfl,_,(df (o:=3) (df (o:=2) b2 _) _).trans rfl,?_⟩;exact (((H1.l1.trans (f2.mono (by simp))).setCell (by simp) _).setCell (by simp) _)
 refine iA.mono ?_;rintro e w' ⟨he,Fg,k1,f⟩;have off:∀x l,lab x=some l->l≠.fs->x∉[F]:=λx l hl n1 hm=>by simp only[eF]at hm;rw[hm,h5]at hl;exact n1 (ig hl).symm
 refine⟨he,⟨⟨q,B,Fg,.slice none 0 0,0,[],g,hq,k1,h2.fr f (off _ _ h6 (by intro e;cases e)),oE _ _ _ _,eE _,h5,h6,(λx hx=>by cases hx),h8,λx qB hx=>?_,iC⟩,kM,hM,λx hx=>fM (ef x hx) f.size⟩,⟨_,f,λx hx=>?_⟩,λx hx=>.inl hx⟩
 ·obtain⟨d1,p',a2,c2,rm,d2,d3,d4,d5⟩:=h9 x qB hx;exact⟨d1,p',a2,c2,rm,d2,⟨f.ag d3.1 (off _ _ d4 (by intro e;cases e)),d3.2.fr f (λy hy=>off _ _ (d5 y hy) (by intro e;cases e))⟩,d4,d5⟩
 ·simp only[eF]at hx;rw[hx,h5];exact nW _
def Rq (t:Nm->Option (List UInt8)) (ss:List Nm):Prop:=ss.Nodup/\ss.Pairwise (·<=·)/\∀x,x∈ss↔t x≠none
theorem zgz (x:Nm):encStr x = .string (str x):=rfl
theorem qwv {n:Nat} {w:World} {B:Nat} {D:DataW Unit} (hD:w.ownsMap Tryz.prog 9 pR B n D) (hV:Es D g) (hg:∀x,t x≠none↔g x≠none) {ss:List Nm} (hp:ss.Perm (strKeys D)) :
  Rq t (ss.mergeSort λx y=>decide (x<=y))/\(ss.mergeSort λx y=>decide (x<=y)).length=ss.length/\ss.length<=n:=by
 obtain⟨es,Jy,eH,_⟩:=hD.entries Ds;obtain⟨es',Q7,hko⟩:=hD.keysOf;have cZ:=hD.size_le;obtain rfl:es=es':=by rw[Jy]at Q7;simpa using Q7
 subst Jy;have hk:∀p∈es,∃x,p.1 = .string x:=λp hp=>by obtain⟨v,hv⟩:=hko p hp;obtain⟨x,_,hx,_⟩:=Maps.keyOf_str Tryz.underlying9 hv;exact⟨x,hx⟩
 have wg:(strKeys (.map es)).Nodup:=by show (es.map λp=>strOf p.1).Nodup;refine List.pairwise_map.2 (eH.imp_of_mem λ{p q} uS FJ bg e=>bg ?_);obtain⟨a,ha⟩:=hk p uS;obtain⟨b,hb⟩:=hk q FJ;rw[ha,hb]at e ⊢;exact congrArg _ e
 have hm:∀x,x∈strKeys (.map es)↔Maps.has (.map es) (.string x)=true:=λx=>by
  rw[Maps.has_eq,Hz];show x∈es.map (λp=>strOf p.1)↔_;rw[mU];constructor
  ·rintro⟨p,uS,rfl⟩;obtain⟨a,ha⟩:=hk p uS;exact⟨p,uS,by rw[ha];simp[Lit.sameKey,strOf]⟩
  ·rintro⟨p,uS,hs⟩;obtain⟨a,ha⟩:=hk p uS;rw[ha]at hs;exact⟨p,uS,by rw[ha];simpa[Lit.sameKey,strOf] using hs⟩
 have pm:=List.mergeSort_perm ss λx y=>decide (x<=y)
 have pm2:=pm.trans hp;have tr:∀a b c:List UInt8,decide (a<=b)=true->decide (b<=c)=true->decide (a<=c)=true:=λa b c h1 h2=>by simp only[decide_eq_true_eq]at *;exact List.le_trans h1 h2
 have tt:∀a b:List UInt8,(decide (a<=b)||decide (b<=a))=true:=λa b=>by simp only[Hs,decide_eq_true_eq];exact List.le_total a b
 refine⟨⟨pm2.nodup_iff.2 wg,(List.pairwise_mergeSort tr tt ss).imp (λh=>of_decide_eq_true h),λx=>?_⟩,pm.length_eq,?_⟩
 ·rw[pm2.mem_iff,hm x,hg x];obtain⟨v1,v2⟩:=hV x;cases QA:g x with
  | none=>rw[v1 QA];simp
  | some p=>rw[(v2 p QA).1];simp
 ·rw[hp.length_eq];show (es.map λp=>strOf p.1).length<=n;rw[gx];exact cZ
theorem qz4 (h8:∀k,t k=none->g k=none) (h9:∀k bs,t k=some bs->∃p,g k=some p) (x:Nm):t x≠none↔g x≠none:=by
 cases uu:t x with
 | none=>rw[h8 x uu];simp
 | some bs=>obtain⟨p,hp⟩:=h9 x bs uu;rw[hp];simp
theorem qnv (F n M:Nat) (t:Nm->Option (List UInt8)) (lab:Nat->Option Lb) (w:World) (h:Fs w F n M t lab) :
  Calls Tryz.prog 157 #[.pointer (some ⟨F,0,none⟩)] w λe w'=>∃v ss,e = .returned v/\Rq t ss/\ss.length<=n/\w'.ownsRow w.heap.size 9 1 v ss.length (ss.map encStr)/\Fr [] w w':=by
 obtain⟨⟨q,B,dz,bj,m,vs,g,hq,h1,⟨D,hD,hV⟩,h3,h4,h5,h6,h7,h8,h9,iC⟩,kM,hM,ef⟩:=h;have c1:w.cell? ⟨F,1,none⟩=some (.map (some B)):=by rw[cell_of h1];rfl
 have hg:=qz4 h8 (λk bs hk=>by obtain⟨_,p,_,_,_,hp,_⟩:=h9 k bs hk;exact⟨p,hp⟩);have cZ:=hD.size_le;have H:=aA hD hV hg cZ;clear h1 hD hV h3 h4 h5 h6 h7 h8 h9 iC ef hg cZ;have dW:=H.out.1.lt;have L7:SeqGives Fence.wide 2 Tryz.prog 262 #[.pointer (some ⟨w.heap.size,0,none⟩)] encStr (λss=>ss.Perm (strKeys D)) (Maps.size D) (w.alloc (.cells #[.map (some B)] 92)):=
  AnyZ.keys_gives (ρ:=Tryz.keysI_ren) { Tryz.keysI with } Fence.wide _ trivial rfl (by omega) w.heap.size B n D _ (by simp) (by simp) (by
   obtain⟨es,clock,hb,Ft,hs,hD⟩:=H.out.1
   exact⟨es,clock,(Below.heap_alloc _ _ B dW).trans hb,Ft,hs,hD⟩)
 have vZ:=AnyZ.sorted_in Tryz.sortedI Fence.wide 5 trivial trivial trivial trivial rfl (by omega) (Tryz.sortsI _) (enters_of Tryz.func105 (by kernel_rfl) rfl) 262 #[.pointer (some ⟨w.heap.size,0,none⟩)] trivial (enters_of Tryz.func262 (by kernel_rfl) rfl) _ _ (by unfold maxLen;have:=H.out.2.2.2;omega) (by have:=H.out.2.2.2;omega) _ L7;have hke:CallsIn Fence.wide 5 Tryz.prog 209 #[.map (some B)] w λe w'=>e = .returned (.func (.func 262) #[] #[.pointer (some ⟨w.heap.size,0,none⟩)])/\w'=w.alloc (.cells #[.map (some B)] 92):=AnyZ.keys_in Tryz.keysI Fence.wide 5 trivial rfl (some B) w
 have vZ:CallsIn Fence.wide 5 Tryz.prog 208 #[.func (.func 262) #[] #[.pointer (some ⟨w.heap.size,0,none⟩)]] (w.alloc (.cells #[.map (some B)] 92)) λe w'=>∃(v:Value) (ss:List (List UInt8)),e = .returned v/\ss.Perm (strKeys D)/\
   w'.ownsRow (w.alloc (.cells #[.map (some B)] 92)).heap.size 9 1 v ss.length ((ss.mergeSort (λx y=>decide (x<=y))).map encStr)/\(v = .slice none 0 0↔ss=[])/\Below (w.alloc (.cells #[.map (some B)] 92)).heap.size (w.alloc (.cells #[.map (some B)] 92)) w':=vZ
 have HS:=ai hke vZ;clear vZ hke L7 dW;refine (callsIn_wide (n:=6)).1 ?_;have hfK:Fence.wide.fn 209:=trivial;have hfS:Fence.wide.fn 208:=trivial;refine callsIn_of_wp Tryz.func157 rfl trivial ?_ rfl;simp only[Tryz.ntmps157,List.size_toArray,dw,jK,Nat.reduceAdd,Nat.reduceSub,Array.replicate_succ,Array.replicate_zero,List.push_toArray,List.append_toArray,sS,uo];gi_wp2_with (first
  | (gi_at_call 209;refine HS.o0.mono ?_;rintro e w' ⟨rfl,rfl⟩)
  | (gi_at_call 208;refine HS.l1.mono ?_;rintro e w' ⟨v,ss,rfl,hS,ec,uT,hb⟩))
 go_ret;have hl:=qwv H.out.1 H.out.2.1 H.out.2.2.1 hS;exact⟨v,_,rfl,hl.1,by rw[hl.2.1];exact hl.2.2,by rw[hl.2.1];exact ownsRow_base_a ec (by simp),((Fr.refl [] w).alloc _).trans (Fr.oL hb [])⟩
set_option maxRecDepth 100000
theorem xT:aw Tryz.prog 43 9 (.string ⟨#[]⟩) 1 16:=aw.of Tryz.underlying43 (by kernel_rfl) rfl (by decide)
theorem J3 (ao:OA) (len cap:Nat) (w:World) (hle:len<=cap) (dE:cap<=maxLen) :
  Calls Tryz.prog 158 #[.slice ao len cap] w λe w'=>e = .returned (.slice ao len len)/\w'=w:=by
 go_enter Tryz.func158,Tryz.ntmps158;go_wp2;all_goals go_ret
 all_goals exact⟨by first|rfl|simp,rfl⟩
def N9 (w w':World) (v:Value) (l:List Nm):Prop:=∃a,v = .slice a l.length l.length/\lib.Cs w' a (l.map encStr)/\∀x∈ag a,w.heap.size<=x/\x<w'.heap.size
theorem qt5 {α:Type} (q:α->Bool) (l:List α) (i:Nat) (hi:i<l.length):(l.take (i+1)).filter q=(l.take i).filter q++(if q l[i]=true then [l[i]] else []):=by
 rw[x7 hi,Dt];congr 1;by_cases h:q l[i]=true
 ·simp[h]
 ·simp[h]
theorem SJ (F n M:Nat) (t:Nm->Option (List UInt8)) (lab:Nat->Option Lb) (p:Nm) (w:World) (h:Fs w F n M t lab) :
  Calls Tryz.prog 99 #[.pointer (some ⟨F,0,none⟩),.string (str p)] w λe w'=>∃v ss,e = .returned v/\Rq t ss/\ss.length<=n/\N9 w w' v (ss.filter λs=>Lib.hasPrefix s p)/\Fr [] w w':=by
 have vZ:=qnv F n M t lab w h;have zt:∃q B dz bj,rY w F q B dz bj:=by obtain⟨⟨q,B,dz,bj,m,vs,g,_,h1,_⟩,_⟩:=h;exact⟨q,B,dz,bj,h1⟩
 obtain⟨q,B,dz,bj,hF⟩:=zt;have kM:=h.few;obtain⟨pz,AP⟩:=ah (str p);rw[<-AP];have H:=aq vZ hF AP;clear vZ hF h AP;go_enter Tryz.func99,Tryz.ntmps99;go_upto_block 0 with (go_at_call 157;refine H.o0.mono ?_;rintro e w1 ⟨v,ss,rfl,hl,hn,ho,f1⟩;obtain⟨a0,c0,rfl,hle,dE⟩:=um ho;have H1:=aq hl ho f1;clear hl ho f1);obtain⟨N,hN⟩:=ah ss.length;rw[<-hN]at hn hle ⊢;have HN:=af hN;clear hN;obtain⟨Q,hQ⟩:∃Q:Nat->List Nm,Q=λi=>(ss.take i).filter λs=>Lib.hasPrefix s p:=⟨_,rfl⟩
 have QV:Q 0=[]:=by rw[hQ];simp
 have hQN:Q N=ss.filter λs=>Lib.hasPrefix s p:=by rw[hQ,HN.out];simp
 have Jw:∀i (hi:i<ss.length),Q (i+1)=Q i++(if Lib.hasPrefix ss[i] p=true then [ss[i]] else []):=λi hi=>by rw[hQ];exact qt5 _ ss i hi
 have hQl:∀i,(Q i).length<=i:=λi=>by rw[hQ];exact bP (BN _ _) (List.length_take_le _ _)
 have HQ:=aq hQN Jw QV;have HQl:=af hQl;clear hQ hQN Jw hQl;go_wp2;go_loopg [5,11] N (λk s5 s11 wr=>∃(i:Nat) (a:OA) (c:Nat),s11 = .int .i64 (i:Nat)/\i+k=N/\s5 = .slice a (Q i).length c/\wr.ownsRow 0 9 1 s5 (Q i).length ((Q i).map encStr)/\(∀x∈ag a,w1.heap.size<=x)/\Fr [] w1 wr);case atStart=>
  refine⟨0,none,0,rfl,by omega,?_,?_,by simp[ag],Fr.refl _ _⟩
  ·rw[QV];rfl
  ·rw[QV];exact oE _ _ _ _
 case round=>
  obtain⟨i,a,c,rfl,cQ,rfl,ho,kY,f⟩:=hrel;have HR:=aq ho kY f;clear ho kY f QV;by_cases hi:i<N
  ·obtain⟨k,rfl⟩:∃k,gk=k+1:=⟨gk-1,by omega⟩;have cN:i<ss.length:=by rw[<-HN.out];exact hi
   have aW:=HQ.o1 i cN;have uX:=HQl.out i;have hcs:=(qK H1.o1).uf (Ub HR.l2);rcases hcs with hcs|⟨g0,o0,QC,hcs⟩
   ·have:=congrArg List.length hcs;rw[gx,jK]at this;omega
   subst QC;have sG:=hcs i (encStr ss[i]) (by rw[qe,dm cN];rfl);rw[zgz]at sG;obtain⟨C,hC⟩:=ah (wr.cell? ⟨g0,o0+i,none⟩);have hx:=λw'=>Tryz.strings_HasPrefix (str ss[i]) pz w'
   rw[show (str ss[i]).data.toList=ss[i] from rfl,show pz.data.toList=p by rw[H.l2];rfl]at hx;obtain⟨M1,yn⟩:=ah ((Q i).length);rw[<-yn]at uX ⊢;have zH:rY wr F q B dz bj:=HR.l2.ag (H1.l2.ag H.o1 (by simp)) (by simp);have c5:wr.cell? ⟨F,5,none⟩=some (.bool false):=by rw[cell_of zH];rfl
   obtain⟨b,hb⟩:=ah (Lib.hasPrefix ss[i] p);rw[<-hb]at hx aW;cases b with
   | true=>
    rw[if_pos rfl]at aW;obtain⟨z,hz⟩:=ah (str ss[i]);rw[<-hz]at sG hx;have HX:=aA hx aW yn hz;clear hx aW yn hz hb zH hC hcs;go_wp2_with (first
     | (go_at_call 17;refine (HX.o0 _).mono ?_;rintro e w2 ⟨rfl,hw⟩;obtain rfl:=hw.symm)
     | (at_builtin;refine fq xT rfl _ _ rfl (.slice a M1 c) M1 ((Q i).map encStr) (ag a) rfl (cY _ _ _) ((by rw[HX.l1.2.1];exact dp HR.o0 ((Fr.refl [] wr).alloc _) (by simp))) (some ⟨wr.heap.size,0,none⟩) 1 1 [.string z] rfl (ax _) (by simp) (oC wr _ _ _) rfl (by simp[Value.oneCell']) (by omega) (by unfold maxLen;omega) ?_;intro a3 q3 w3 A3;have H3:=af A3;clear A3))
    go_roundg k;case measure=>omega
    case rel=>
     have A3:=H3.out;have e3:(Q (i+1)).length=M1+1:=by rw[HX.l1.1,aG,<-HX.l1.2.1];rfl
     have e4:(Q (i+1)).map encStr=(Q i).map encStr++[.string z]:=by rw[HX.l1.1,jd,HX.l1.2.2];rfl
     refine⟨i+1,a3,q3,by go_num,by omega,by rw[e3],?_,λx hx=>?_,?_⟩
     ·rw[e3,e4];exact A3.own
     ·rcases A3.at_ x hx with h|h
      ·exact HR.o1 x h
      ·have:=HR.l2.size;have:=(Fr.refl [] wr).alloc (.cells #[.string z] 9) |>.size;omega
     ·exact HR.l2.step (((Fr.refl [] wr).alloc _).mono (T:=ag a) (by simp) |>.trans A3.fr) (λy hy=>.inr (HR.o1 y hy))
   | false=>
    rw[if_neg (by simp),nX]at aW;obtain⟨z,hz⟩:=ah (str ss[i]);rw[<-hz]at sG hx;have HX:=aA hx aW yn hz;clear hx aW yn hz hb zH hC hcs;go_wp2_with (go_at_call 17;refine (HX.o0 _).mono ?_;rintro e w2 ⟨rfl,hw⟩;obtain rfl:=hw.symm);go_roundg k;case measure=>omega
    case rel=>
     refine⟨i+1,a,c,by go_num,by omega,?_,?_,HR.o1,HR.l2⟩
     ·rw[HX.l1.1,<-HX.l1.2.1]
     ·rw[HX.l1.1,HX.l1.2.1];exact HR.o0
  ·obtain rfl:i=N:=by omega
   have fO:=(um HR.o0);obtain⟨a2,c2,xB,fO,MC⟩:=fO;obtain⟨rfl,_,rfl⟩:=Value.slice.inj xB;obtain⟨R,hR⟩:=ah (Q i);rw[<-hR]at fO ⊢;obtain⟨M1,yn⟩:=ah R.length;rw[<-yn]at fO ⊢;have HX:=ai hR yn;clear hR yn xB;go_wp2_with (go_at_call 158;refine (J3 _ M1 _ _ fO MC).mono ?_;rintro e w4 ⟨rfl,hw⟩;obtain rfl:=hw.symm);go_ret;have ho:=HR.o0;rw[<-HX.o0]at ho;have f:=H1.l2.trans HR.l2;refine⟨_,ss,rfl,H1.o0,by rw[<-HN.out];exact hn,⟨a,by rw[<-HQ.o0,<-HX.o0,HX.l1];rfl,?_,λx hx=>⟨?_,si ho (rz hx)⟩⟩,f⟩
   ·rw[<-HQ.o0,<-HX.o0];exact qK ho
   ·have:=HR.o1 x hx;have:=H1.l2.size;omega
set_option maxRecDepth 100000
theorem qob (F n M:Nat) (t:Nm->Option (List UInt8)) (lab:Nat->Option Lb) (p:ByteArray) (w:World) (h:Fs w F n M t lab) (ht:∀x,t x=none) :
  Calls Tryz.prog 99 #[.pointer (some ⟨F,0,none⟩),.string p] w λe w'=>e = .returned (.slice none 0 0)/\Fr [] w w':=by
 have vZ:Calls Tryz.prog 157 #[.pointer (some ⟨F,0,none⟩)] w λe w'=>∃a c,e = .returned (.slice a 0 c)/\Fr [] w w':=(qnv F n M t lab w h).mono λe w' ⟨v,ss,he,hl,_,ho,f⟩=>by
  have h0:ss=[]:=List.eq_nil_iff_forall_not_mem.2 λx hx=>(hl.2.2 x).1 hx (ht x)
  subst h0;obtain⟨a,c,rfl,_⟩:=um ho;exact⟨a,c,he,f⟩
 have H:=af vZ;clear vZ h ht;go_enter Tryz.func99,Tryz.ntmps99;go_upto_block 0 with (go_at_call 157;refine H.out.mono ?_;rintro e w1 ⟨a,c,rfl,f1⟩;have H1:=af f1;clear f1);go_wp2;go_loopg [5,11] 0 (λk s5 s11 wr=>s5 = .slice none 0 0/\s11 = .int .i64 0/\wr=w1);case atStart=>exact⟨rfl,rfl,rfl⟩
 case round=>
 obtain⟨rfl,rfl,rfl⟩:=hrel;go_wp2_with (go_at_call 158;refine (J3 none 0 0 _ (ax _) (eE _)).mono ?_;rintro e w4 ⟨rfl,hw⟩;obtain rfl:=hw.symm);go_ret;exact⟨rfl,H1.out⟩
set_option maxRecDepth 100000
theorem dS.refl (w:World) (lab:Nat->Option Lb) {w':World} (f:Fr [] w w'):dS w lab w' lab:=⟨⟨[],f,by simp⟩,λ_ h=>.inl h⟩
theorem dS.trans {a b c:World} {la lb lc:Nat->Option Lb} (h:dS a la b lb) (k:dS b lb c lc):dS a la c lc:=by
 obtain⟨⟨T,f,hT⟩,hl⟩:=h;obtain⟨⟨U,g,hU⟩,kl⟩:=k;refine⟨⟨T++U.filter λx=>(la x).isSome,(f.mono (T:=T++U.filter λx=>(la x).isSome) (λx hx=>.inl (BK _ hx))).step g (λx hx=>?_),λx hx=>?_⟩,λx hx=>?_⟩
 ·rcases hl x (hU x hx) with h|h
  ·exact .inl (Dv _ (C8.2 ⟨hx,Ov.2 h⟩))
  ·exact .inr h
 ·rcases jo.1 hx with h|h
  ·exact hT x h
  ·exact Ov.1 (C8.1 h).2
 ·rcases kl x hx with h|h
  ·exact hl x h
  ·exact .inr (bP f.size h)
theorem dS.size {a b:World} {la lb:Nat->Option Lb} (h:dS a la b lb):a.heap.size<=b.heap.size:=by obtain⟨⟨T,f,_⟩,_⟩:=h;exact f.size
theorem dS.rd {a b:World} {la lb:Nat->Option Lb} (h:dS a la b lb) {ba:OA} {bc:Nat} {nb:LB} (hb:lib.Rd a ba bc nb) (hn:nb≠[]->∀x∈ag ba,la x=none):lib.Rd b ba bc nb/\(nb≠[]->∀x∈ag ba,lb x=none):=by
 obtain⟨⟨T,f,hT⟩,hl⟩:=h;refine⟨C4 hb f (λbg x hx hm=>hT x hm (hn bg x hx)),λbg x hx=>?_⟩;cases AW:lb x with
 | none=>rfl
 | some l=>
  rcases hl x (by rw[AW];exact nW _) with h|h
  ·exact absurd (hn bg x hx) h
  ·have bF:=hb.cs.lt (by simpa using bg);cases ba with
   | none=>simp[ag]at hx
   | some ad=>have h1:=bF ad rfl;simp only[ag,eF]at hx;omega
theorem ZA (F n M M':Nat) (t:Nm->Option (List UInt8)) (lab:Nat->Option Lb) (k1 k2:Nm) (ba:OA) (bc:Nat) (nb:LB) (w:World) (h:Fs w F n M t lab) (oZ:lF k1) (j3:lF k2) (bg:k1≠k2) (ht:t k1=none) (hb:lib.Rd w ba bc nb) (dW:nb≠[]->∀x∈ag ba,lab x=none)
  (yo:M<=M') (qy:nb.length<=M') (iV:M'<=100000) (dh:nb.length+(n+1)*M<=1048576) (hn:n<880) :
  Calls Tryz.prog 67 #[.pointer (some ⟨F,0,none⟩),.string (str k1),.string (str k2),.slice ba nb.length bc] w λe w'=>e = .returned (.int .i64 0)/\∃av,Fs w' F (n+2) M' (aS t k2 (some nb)) av/\dS w lab w' av:=by
 obtain⟨z1,gS⟩:=ah (str k1);obtain⟨z2,lN⟩:=ah (str k2);obtain⟨L,hL⟩:=ah nb.length;have H:=cU h hb dW gS lN hL;rw[<-gS,<-lN,<-hL];clear h hb dW gS lN hL;go_enter Tryz.func67,Tryz.ntmps67;have c0:=PW F n M t lab k1 w H.o0 oZ ht;rw[<-H.o3]at c0;have H0:=af c0;clear c0;go_upto_region 4 with (go_at_call 120;refine H0.out.mono ?_;rintro e w1 ⟨rfl,f1⟩;have H1:=af f1;clear f1);have c1:=qoo F n M t lab k1 w1 (H.o0.fr H1.out (by simp)) oZ ht (by omega);rw[<-H.o3]at c1;have H2:=af c1;clear c1;go_upto_region 6 with (go_at_call 121;refine H2.out.mono ?_;rintro e w2 ⟨rfl,qm,h2,s2⟩;have H3:=ai h2 s2;clear h2 s2);have s02:=(dS.refl w lab H1.out).trans H3.l1;have ru:=s02.rd H.o1 H.o2;have c2:=qou F (n+1) M M' (aS t k1 (some [])) qm k1 [] ba bc nb w2 H3.o0 oZ (by unfold aS;rw[if_pos rfl]) ru.1 ru.2 yo (by simpa using qy) iV dh;rw[<-H.o3,<-H.l5]at c2;have H4:=ai c2 s02;clear c2 s02 ru;go_upto_region 8 with (go_at_call 122;refine H4.o0.mono ?_;rintro e w3 ⟨rfl,uK,h3,s3⟩;have H5:=ai h3 s3;clear h3 s3);have c3:=ZD F (n+1) M' _ uK k1 ([]++nb) w3 H5.o0 oZ (by unfold aS;rw[if_pos rfl]);rw[<-H.o3]at c3;have H6:=af c3;clear c3;go_upto_region 10 with (go_at_call 123;refine H6.out.mono ?_;rintro e w4 ⟨rfl,h4,s4⟩;have H7:=ai h4 s4;clear h4 s4);have c4:=TJ F (n+1) M' _ uK k1 k2 ([]++nb) w4 H7.o0 oZ j3 bg (by unfold aS;rw[if_pos rfl]) (by omega);rw[<-H.o3,<-H.o4]at c4;have H8:=af c4;clear c4;go_wp2_with (go_at_call 74;refine H8.out.mono ?_;rintro e w5 ⟨rfl,mI,h5,s5⟩;have H9:=ai h5 s5;clear h5 s5);go_ret;have e5:aS (aS (aS (aS t k1 (some [])) k1 (some ([]++nb))) k2 (some ([]++nb))) k1 none=aS t k2 (some nb):=by
  funext x;unfold aS;by_cases e1:x=k1
  ·rw[if_pos e1,if_neg (by rw[e1];exact bg),e1,ht]
  ·rw[if_neg e1];by_cases e2:x=k2
   ·rw[if_pos e2,if_pos e2];rfl
   ·rw[if_neg e2,if_neg e1,if_neg e1,if_neg e2]
 refine⟨rfl,mI,?_,((H4.l1.trans H5.l1).trans H7.l1).trans H9.l1⟩;rw[<-e5];exact H9.o0
set_option maxRecDepth 100000
theorem qre (F n M:Nat) (t:Nm->Option (List UInt8)) (lab:Nat->Option Lb) (w:World) (h:Fs w F n M t lab) (ht:∀x,t x=none) :
  Calls Tryz.prog 85 #[.pointer (some ⟨F,0,none⟩)] w λe w'=>e = .returned (.int .i64 0)/\Fr [] w w':=by
 have H:=af (qob F n M t lab ⟨#[116,109,112,47]⟩ w h ht);clear h ht;go_enter Tryz.func85,Tryz.ntmps85;go_upto_block 0 with (go_at_call 99;refine H.out.mono ?_;rintro e w1 ⟨rfl,f1⟩;have H1:=af f1;clear f1);go_wp2;go_loopg [11] 0 (λk s11 wr=>s11 = .int .i64 0/\wr=w1);case atStart=>exact⟨rfl,rfl⟩
 case round=>
 obtain⟨rfl,rfl⟩:=hrel;go_wp2;go_ret;exact⟨rfl,H1.out⟩
theorem zd1 (F n M:Nat) (t:Nm->Option (List UInt8)) (lab:Nat->Option Lb) (w:World) (h:Fs w F n M t lab) (ht:∀x,t x=none) :
  Calls Tryz.prog 38 #[.pointer (some ⟨F,0,none⟩)] w λe w'=>(∃O m,e = .returned (.tuple #[.pointer (some ⟨O,0,none⟩),.int .i64 0])/\w'.heap[O]?=some (.cells #[.pointer (some ⟨F,0,none⟩),.map (some m)] 79 (0,0))/\w.heap.size<=O)/\Fr [] w w':=by
 have H:=af (qre F n M t lab w h ht);have nj:=λw'=>run_makeMap (P:=Tryz.prog) 77 w'
 clear h ht;go_enter Tryz.func38,Tryz.ntmps38;go_wp2_with (go_at_call 85;refine H.out.mono ?_;rintro e w1 ⟨rfl,f1⟩;have H1:=af f1;clear f1);go_ret2;have hb:=aV (w1.alloc (.map #[] 0)) (.cells #[.pointer (some ⟨F,0,none⟩),.map (some w1.heap.size)] 79);rw[ik]at hb;exact⟨⟨_,_,rfl,hb,bP H1.out.size (Nat.le_succ _)⟩,(H1.out.alloc _).alloc _⟩
def qC (w:World) (R F:Nat):Prop:=w.heap[R]?=some (.cells #[.pointer (some ⟨F,0,none⟩)] 154 (0,0))
theorem qsx (R F n M:Nat) (t:Nm->Option (List UInt8)) (lab:Nat->Option Lb) (w:World) (hR:qC w R F) (h:Fs w F n M t lab) (ht:∀x,t x=none) :
  Calls Tryz.prog 73 #[.pointer (some ⟨R,0,none⟩)] w λe w'=>e = .returned (.int .i64 0)/\Fr [] w w':=by
 have c0:w.cell? ⟨R,0,none⟩=some (.pointer (some ⟨F,0,none⟩)):=by rw[cell_of hR];rfl
 have rJ:=qob F n M t lab ⟨#[114,101,102,115,45]⟩ w h ht;have Md:=λw' (f:Fr [] w w')=>PW F n M t lab [72,69,65,68,46,108,111,99,107] w' (h.fr f (by simp)) ⟨by decide,by decide,by decide⟩ (ht _)
 have Mb:=λw' (f:Fr [] w w')=>PW F n M t lab [112,97,99,107,101,100,45,114,101,102,115,46,108,111,99,107] w' (h.fr f (by simp)) ⟨by decide,by decide,by decide⟩ (ht _)
 have H:=aA rJ Md Mb hR;clear rJ Md Mb h ht hR;go_enter Tryz.func73,Tryz.ntmps73;go_upto_block 0 with (first
  | (go_at_call 99;refine H.o0.mono ?_;rintro e w1 ⟨rfl,f1⟩;have H1:=af f1;clear f1)
  | (at_builtin;refine fq xT rfl _ _ rfl (.slice none 0 0) 0 [] [] rfl rfl (oE _ _ _ _) (some ⟨w1.heap.size,0,none⟩) 2 2 [.string ⟨#[72,69,65,68,46,108,111,99,107]⟩,.string ⟨#[112,97,99,107,101,100,45,114,101,102,115,46,108,111,99,107]⟩] rfl (ax _) (by simp) (oC w1 _ _ _) rfl (by simp[Value.oneCell']) (by decide) (by decide) ?_;intro a3 q3 w3 A3;have H3:=af A3;clear A3))
 have iw:=H3.out.own;have iw:w3.ownsRow 0 9 1 (.slice a3 2 q3) 2 [.string ⟨#[72,69,65,68,46,108,111,99,107]⟩,.string ⟨#[112,97,99,107,101,100,45,114,101,102,115,46,108,111,99,107]⟩]:=iw;rcases qK iw with h0|⟨g,o,rfl,hcs⟩
 ·cases h0
 have f3:Fr [] w w3:=H1.out.trans (((Fr.refl [] w1).alloc _).trans H3.out.fr);have d0:w3.cell? ⟨g,o,none⟩=some (.string ⟨#[72,69,65,68,46,108,111,99,107]⟩):=hcs 0 _ rfl;have d1:=hcs 1 _ rfl;have y8:=λ(s:ByteArray) (hs:s.size<=100) w'=>Tryz.strings_HasSuffix s ⟨#[46,108,111,99,107]⟩ w' (by omega)
 have qN:∀w',Calls Tryz.prog 49 #[.string ⟨#[72,69,65,68,46,108,111,99,107]⟩,.string ⟨#[46,108,111,99,107]⟩] w' λe fK=>e = .returned (.bool true)/\fK=w':=λw'=>y8 ⟨#[72,69,65,68,46,108,111,99,107]⟩ (by decide) w'
 have ep:∀w',Calls Tryz.prog 49 #[.string ⟨#[112,97,99,107,101,100,45,114,101,102,115,46,108,111,99,107]⟩,.string ⟨#[46,108,111,99,107]⟩] w' λe fK=>e = .returned (.bool true)/\fK=w':=λw'=>y8 ⟨#[112,97,99,107,101,100,45,114,101,102,115,46,108,111,99,107]⟩ (by decide) w'
 have HS:=aq qN ep f3;have HD:=ai d0 d1;clear qN ep f3 y8 iw hcs d0 d1 c0;go_wp2;go_loopg [3,15] 2 (λk s3 s15 wr=>∃i:Nat,s3 = .bool false/\s15 = .int .i64 (i:Nat)/\i+k=2/\Fr [] w3 wr);case atStart=>exact⟨0,rfl,rfl,rfl,Fr.refl _ _⟩
 case round=>
 obtain⟨i,rfl,rfl,cQ,fr⟩:=hrel;have c0:wr.cell? ⟨R,0,none⟩=some (.pointer (some ⟨F,0,none⟩)):=by rw[cell_of ((HS.l2.trans fr).ag H.l3 (by simp))];rfl
 have HR:=af fr;rcases (show (i=0/\gk=2)\/(i=1/\gk=1)\/(i=2/\gk=0) by omega) with⟨rfl,rfl⟩|⟨rfl,rfl⟩|⟨rfl,rfl⟩
 ·have d0:=fr.cell HD.o0 (by simp);clear fr;go_wp2_with (first
   | (go_at_call 49;refine (HS.o0 _).mono ?_;rintro e w2 ⟨rfl,hw⟩;obtain rfl:=hw.symm)
   | (go_at_call 120;refine (H.o1 _ (HS.l2.trans HR.out)).mono ?_;rintro e w2 ⟨rfl,f2⟩;have H2:=af f2;clear f2))
  go_roundg 1;case measure=>decide
  case rel=>exact⟨1,rfl,by rfl,rfl,HR.out.trans H2.out⟩
 ·have d0:=fr.cell HD.l1 (by simp);clear fr;go_wp2_with (first
   | (go_at_call 49;refine (HS.o1 _).mono ?_;rintro e w2 ⟨rfl,hw⟩;obtain rfl:=hw.symm)
   | (go_at_call 120;refine (H.o2 _ (HS.l2.trans HR.out)).mono ?_;rintro e w2 ⟨rfl,f2⟩;have H2:=af f2;clear f2))
  go_roundg 0;case measure=>decide
  case rel=>exact⟨2,rfl,by rfl,rfl,HR.out.trans H2.out⟩
 ·clear fr;go_wp2;go_ret;exact⟨rfl,HS.l2.trans HR.out⟩
set_option maxRecDepth 100000
theorem zcx (t:LB) (h:8<=t.length) (w:World):Calls Tryz.prog 93 #[.string (str t)] w λe w'=>(∃v:Int,e = .returned (.int .u64 v))/\Fr [] w w':=by
 have hx:∀(i:Nat) (hi:i<8) (w:World),(Instr.index 9 (.string (str t)) (.int .i64 (i:Nat))).run Tryz.prog w = .ok (.int .u8 (((t[i]'(by omega)).toNat:Nat):Int)) w:=λi hi w=>Go.Proofs.YticadfhpolhkeaaGreatDoor.crc.BH t (by omega) w
 obtain⟨f,hf⟩:∃f:Nat->Nat,∀(i:Nat),i<8->∀w:World,(Instr.index 9 (.string (str t)) (.int .i64 (i:Nat))).run Tryz.prog w = .ok (.int .u8 ((f i:Nat):Int)) w:=⟨λi=>(t[i]?.getD 0).toNat,λi hi w=>by rw[hx i hi w];simp only;rw[dm (by omega)];rfl⟩;obtain⟨z,hz⟩:=ah (str t);rw[<-hz]at hf ⊢;have h0:∀w:World,(Instr.index 9 (.string z) (.int .i64 0)).run Tryz.prog w = .ok (.int .u8 (f 0:Nat)) w:=hf 0 (by decide);have h1:∀w:World,(Instr.index 9 (.string z) (.int .i64 1)).run Tryz.prog w = .ok (.int .u8 (f 1:Nat)) w:=hf 1 (by decide);have h2:∀w:World,(Instr.index 9 (.string z) (.int .i64 2)).run Tryz.prog w = .ok (.int .u8 (f 2:Nat)) w:=hf 2 (by decide);have h3:∀w:World,(Instr.index 9 (.string z) (.int .i64 3)).run Tryz.prog w = .ok (.int .u8 (f 3:Nat)) w:=hf 3 (by decide);have h4:∀w:World,(Instr.index 9 (.string z) (.int .i64 4)).run Tryz.prog w = .ok (.int .u8 (f 4:Nat)) w:=hf 4 (by decide);have h5:∀w:World,(Instr.index 9 (.string z) (.int .i64 5)).run Tryz.prog w = .ok (.int .u8 (f 5:Nat)) w:=hf 5 (by decide);have h6:∀w:World,(Instr.index 9 (.string z) (.int .i64 6)).run Tryz.prog w = .ok (.int .u8 (f 6:Nat)) w:=hf 6 (by decide);have h7:∀w:World,(Instr.index 9 (.string z) (.int .i64 7)).run Tryz.prog w = .ok (.int .u8 (f 7:Nat)) w:=hf 7 (by decide);clear hx hf hz h;go_enter Tryz.func93,Tryz.ntmps93;go_upto_region 2 with fail;have h0:=λn=>h0 (w.drewN n)
 have h1:=λn=>h1 (w.drewN n)
 have h2:=λn=>h2 (w.drewN n)
 have h3:=λn=>h3 (w.drewN n)
 have h4:=λn=>h4 (w.drewN n)
 have h5:=λn=>h5 (w.drewN n)
 have h6:=λn=>h6 (w.drewN n)
 have h7:=λn=>h7 (w.drewN n)
 go_quiet (fail);go_wp2;go_ret;exact⟨⟨_,rfl⟩,Fr.drewN [] w _⟩
theorem xJ (bs:LB) (i:Nat) (h2:i<=bs.length) (w:World):(Instr.slice 9 (.string (str bs)) (some (.int .i64 i)) none none).run Tryz.prog w = .ok (.string (str (bs.drop i))) w:=by
 have cZ:(str bs).size=bs.length:=by simp[str,ByteArray.size]
 rw[run_slice_string_l w 9 (str bs) Tryz.underlying9 .i64 i (by omega) (by rw[cZ];omega)];have:=IW bs i bs.length;rw[lL (ax _)]at this;simp[cZ,this]
theorem Um (t:LB) (ha:∀c∈t,c.toNat<128) (hl:t.length<=17) (w:World):Calls Tryz.prog 46 #[.string (str t)] w λe w'=>e = .returned (.bool true)/\Fr [] w w':=by
 have H:=af ha;obtain⟨z,hz⟩:=ah (str t);have HZ:=af hz;rw[<-hz];clear hz ha;go_enter Tryz.func46,Tryz.ntmps46;go_upto_block 0 with fail;go_wp2;go_loopg [0] t.length (λk s0 wr=>∃u:List UInt8,s0 = .string (str u)/\u.length<=k/\u.length<=17/\(∀c∈u,c.toNat<128)/\Fr [] w wr);case atStart=>exact⟨t,by rw[HZ.out],ax _,hl,H.out,Fr.refl _ _⟩
 case round=>
 obtain⟨u,rfl,hk,Re,hu,fr⟩:=hrel;match u,hk,Re,hu with
 | [],_,_,_=>
  obtain⟨y,hy⟩:=ah (str []);have UJ:y.size=0:=by rw[hy];rfl
  rw[<-hy];clear hy;go_wp2;go_ret;exact⟨rfl,fr⟩
 | c::u,hk,Re,hu=>
  obtain⟨k,rfl⟩:∃k,gk=k+1:=⟨gk-1,by simp at hk;omega⟩;have hc:=hu c (by simp);have hx:∀w:World,(Instr.index 9 (.string (str (c::u))) (.int .i64 0)).run Tryz.prog w = .ok (.int .u8 (c.toNat:Nat)) w:=λw=>Go.Proofs.YticadfhpolhkeaaGreatDoor.crc.BH (c::u) (i:=0) (by simp) w
  have hs:∀w:World,(Instr.slice 9 (.string (str (c::u))) (some (.int .i64 1)) none none).run Tryz.prog w = .ok (.string (str u)) w:=xJ (c::u) 1 (by simp);have kD:u.length<=k:=by simp at hk;omega
  have kj:u.length<=16:=by simp at Re;omega
  have hu2:∀c∈u,c.toNat<128:=λd hd=>hu d (oH _ hd)
  obtain⟨y,hy⟩:=ah (str (c::u));have UJ:y.size=u.length+1:=by rw[hy];simp[str,ByteArray.size]
  obtain⟨x,LH⟩:=ah (str u);have hxs:x.size=u.length:=by rw[LH];simp[str,ByteArray.size]
  rw[<-hy]at hx hs ⊢;rw[<-LH]at hs;obtain⟨n,hn⟩:=ah c.toNat;rw[<-hn]at hx hc;obtain⟨L,hL⟩:=ah u.length;rw[<-hL]at UJ hxs;have d1:decide ((n:Int)<128)=true:=by simp;omega
  have HR:=aA fr hu2 LH hL;have G8:=ai kD kj;clear fr hu2 LH hL hy hn hu hk Re hc;by_cases h8:L<=8
  ·have d2:decide ((8:Int)<(L:Int))=false:=by simp;omega
   go_wp2;go_roundg k;case measure=>omega
   case rel=>exact⟨u,by rw[HR.o2],G8.o0,by have:=G8.l1;omega,HR.o1,HR.o0⟩
  ·have d2:decide ((8:Int)<(L:Int))=true:=by simp;omega
   have hw:=λw'=>zcx u (by rw[<-HR.l3];omega) w'
   rw[<-HR.o2]at hw;have HW:=af hw;clear hw;have hs8:∀w:World,(Instr.slice 9 (.string x) (some (.int .i64 8)) none none).run Tryz.prog w = .ok (.string (str (u.drop 8))) w:=by rw[HR.o2];exact xJ u 8 (by rw[<-HR.l3];omega)
   obtain⟨M,hM⟩:=ah (L-8);obtain⟨v8,Qj⟩:=ah (str (u.drop 8));have hvs:v8.size=M:=by rw[Qj,hM];simp[str,ByteArray.size,<-HR.l3]
   have V0:L<=16:=by rw[HR.l3];exact G8.l1
   have d7:decide ((16:Int)<(M:Int))=false:=by simp;omega
   rw[<-Qj]at hs8;have HV:=ai Qj hM;clear Qj hM V0;go_wp2_with (go_at_call 93;refine (HW.out _).mono ?_;rintro e w2 ⟨⟨v,rfl⟩,f2⟩;have H2:=af f2;clear f2)
   ·go_quiet (fail);go_wp2;go_roundg k;case measure=>omega
    case rel=>exact⟨u.drop 8,by rw[HV.o0],by rw[gN];have:=G8.o0;omega,by rw[gN];have:=G8.l1;omega,λc hc=>HR.o1 c (List.mem_of_mem_drop hc),(HR.o0.trans H2.out).trans (Fr.drewN [] w2 _)⟩
   ·go_roundg k;case measure=>omega
    case rel=>exact⟨u,by rw[HR.o2],G8.o0,by have:=G8.l1;omega,HR.o1,HR.o0.trans H2.out⟩
end fs
namespace ob
open Go Go.RowKit lib fs
set_option maxRecDepth 100000
theorem zaq (c:UInt8) (s t:LB) (h:∀x∈s,x≠c):Lib.index (s++c::t) [c]=s.length:=by
 induction s with
 | nil=>simp[Lib.index,List.isPrefixOf]
 | cons b l ih=>have hb:b≠c:=h b (by simp);rw[uo,Lib.index,ih (λx hx=>h x (oH _ hx))];simp[List.isPrefixOf,pM hb]
theorem Sg (c:UInt8) (s t:LB) (h:∀x∈s,x≠c):Lib.cut (s++c::t) [c]=(s,t,true):=by unfold Lib.cut;rw[zaq c s t h,if_pos (by omega)];simp
theorem qw9 (p r:LB):Lib.hasPrefix (p++r) p=true:=by unfold Lib.hasPrefix;simp
theorem Pd (p r:LB) (hl:p.length+r.length<=1000000) (w:World):Calls Tryz.prog 77 #[.string (str (p++r)),.string (str p)] w λe w'=>e = .returned (.tuple #[.string (str r),.bool true])/\w'=w:=by
 have h1:=λw=>Tryz.stringslite_HasPrefix (str (p++r)) (str p) w
 rw[show Lib.hasPrefix (str (p++r)).data.toList (str p).data.toList=true from qw9 p r]at h1;have hs:∀w:World,(Instr.slice 9 (.string (str (p++r))) (some (.int .i64 (p.length:Nat))) none none).run Tryz.prog w = .ok (.string (str r)) w:=λw=>by have:=xJ (p++r) p.length (by simp) w;rw[List.drop_left]at this;exact this
 obtain⟨z,hz⟩:=ah (str (p++r));obtain⟨y,hy⟩:=ah (str p);have cZ:y.size=p.length:=by rw[hy,aj]
 obtain⟨n,hn⟩:=ah p.length;rw[<-hn]at cZ hs hl;rw[<-hz]at h1 hs ⊢;rw[<-hy]at h1 ⊢;have H:=af h1;clear hz hy hn h1;have k:∀w,Calls Tryz.prog 141 #[.string z,.string y] w λe w'=>e = .returned (.tuple #[.string (str r),.bool true])/\w'=w:=by intro w;go_enter Tryz.func141,Tryz.ntmps141;go_wp2_with (go_at_call 51;refine (H.out _).mono ?_;rintro e w1 ⟨rfl,hw⟩;obtain rfl:=hw.symm);go_ret2;exact⟨rfl,rfl⟩
 have HK:=af k;clear k;go_enter Tryz.func77,Tryz.ntmps77;go_wp2_with (go_at_call 141;refine (HK.out _).mono ?_;rintro e w1 ⟨rfl,hw⟩;obtain rfl:=hw.symm);go_ret2;exact⟨rfl,rfl⟩
theorem zbo (s p:LB) (h:Lib.hasPrefix s p=false) (w:World):Calls Tryz.prog 77 #[.string (str s),.string (str p)] w λe w'=>e = .returned (.tuple #[.string (str s),.bool false])/\w'=w:=by
 have h1:=λw=>Tryz.stringslite_HasPrefix (str s) (str p) w
 rw[show Lib.hasPrefix (str s).data.toList (str p).data.toList=false from h]at h1;have H:=af h1;clear h1 h;obtain⟨z,hz⟩:=ah (str s);obtain⟨y,hy⟩:=ah (str p);rw[<-hz,<-hy];rw[<-hz,<-hy]at H;clear hz hy;have k:∀w,Calls Tryz.prog 141 #[.string z,.string y] w λe w'=>e = .returned (.tuple #[.string z,.bool false])/\w'=w:=by intro w;go_enter Tryz.func141,Tryz.ntmps141;go_wp2_with (go_at_call 51;refine (H.out _).mono ?_;rintro e w1 ⟨rfl,hw⟩;obtain rfl:=hw.symm);go_ret2;exact⟨rfl,rfl⟩
 have HK:=af k;clear k;go_enter Tryz.func77,Tryz.ntmps77;go_wp2_with (go_at_call 141;refine (HK.out _).mono ?_;rintro e w1 ⟨rfl,hw⟩;obtain rfl:=hw.symm);go_ret2;exact⟨rfl,rfl⟩
def nT (w:World) (P:Nat) (s:LB):Prop:=w.heap[P]?=some (.cells #[.string (str s)] 9 (0,0))
theorem Dg (nm line rest:LB) (P:Nat) (m:Int) (w:World) (hP:nT w P (nm++32::(line++10::rest))) (iC:∀x∈line,x≠10) (hn:nm.length<=20) (hl:line.length+rest.length<=100000) (hm:w.cell? ⟨2,0,none⟩=some (.int .i64 m)) :
  Calls Tryz.prog 171 #[.pointer (some ⟨P,0,none⟩),.string (str nm)] w λe w'=>e = .returned (.tuple #[.string (str line),.bool true])/\nT w' P rest/\Fr [P] w w':=by
 have hc:=λw=>Pd (nm++[32]) (line++10::rest) (by simp;omega) w
 rw[show (nm++[32])++(line++10::rest)=nm++32::(line++10::rest) by simp]at hc;have hk:=λw hm=>Tryz.strings_Cut (str (line++10::rest)) ⟨#[10]⟩ m w (by rw[aj];simp;omega) hm
 rw[show Lib.cut (str (line++10::rest)).data.toList (⟨#[10]⟩:ByteArray).data.toList=(line,rest,true) from Sg 10 line rest iC]at hk;have ez:str nm++⟨#[32]⟩=str (nm++[32]):=gH nm [32];rw[<-ez]at hc;have c0:=(cell_of hP 0).trans (show _=some (Value.string (str (nm++32::(line++10::rest)))) from rfl);obtain⟨z,hz⟩:=ah (str nm);have cZ:z.size=nm.length:=by rw[hz,aj]
 obtain⟨n,lv⟩:=ah nm.length;rw[<-lv]at cZ hn;rw[<-hz]at hc ⊢;obtain⟨y,hy⟩:=ah (str (nm++32::(line++10::rest)));rw[<-hy]at hc c0;have z0:=aT hP 0;have H:=aA hc hk hm hP;clear hc hk hz hy lv ez hm hP;go_enter Tryz.func171,Tryz.ntmps171;go_wp2_with (first
  | (go_at_call 77;refine (H.o0 _).mono ?_;rintro e w1 ⟨rfl,hw⟩;obtain rfl:=hw.symm)
  | (go_at_call 139;refine (H.o1 _ H.o2).mono ?_;rintro e w1 ⟨rfl,k,hw⟩;have H1:=af hw;have c1:w1.cell? ⟨P,0,none⟩=some (.string y):=(by rw[hw];exact c0);have z1:w1.frozen? ⟨P,0,none⟩=false:=(by rw[hw];exact z0);clear hw))
 go_ret2;have fw:Fr [P] w w1:=by rw[H1.out];exact Fr.drewN [P] w _
 have hP1:nT w1 P (nm++32::(line++10::rest)):=by rw[H1.out];exact H.l3
 exact⟨rfl,df hP1 _,fw.setCell (.inl (by simp)) _⟩
theorem qxw (nm s:LB) (P:Nat) (w:World) (hP:nT w P s) (h:Lib.hasPrefix s (nm++[32])=false) (hn:nm.length<=20) :
  Calls Tryz.prog 171 #[.pointer (some ⟨P,0,none⟩),.string (str nm)] w λe w'=>e = .returned (.tuple #[.string ⟨#[]⟩,.bool false])/\w'=w:=by
 have hc:=λw=>zbo s (nm++[32]) h w
 have ez:str nm++⟨#[32]⟩=str (nm++[32]):=gH nm [32];rw[<-ez]at hc;have c0:=(cell_of hP 0).trans (show _=some (Value.string (str s)) from rfl);obtain⟨z,hz⟩:=ah (str nm);have cZ:z.size=nm.length:=by rw[hz,aj]
 obtain⟨n,lv⟩:=ah nm.length;rw[<-lv]at cZ hn;rw[<-hz]at hc ⊢;obtain⟨y,hy⟩:=ah (str s);rw[<-hy]at hc c0;have H:=af hc;clear hc hz hy lv ez hP h;go_enter Tryz.func171,Tryz.ntmps171;go_wp2_with (go_at_call 77;refine (H.out _).mono ?_;rintro e w1 ⟨rfl,hw⟩;obtain rfl:=hw.symm);go_ret2;exact⟨rfl,rfl⟩
end ob

end Go.Proofs.YticadfhpolhkeaaGreatDoor