/-
  Texts of this proof, one behind the other: RepoP, RepoT, OdbP, OdbF, RepoB, OdbW, OdbG, RepoG, GraphA.
-/
import Derived.Test.YticadfhpolhkeaaGreatDoorQ24
set_option maxHeartbeats 16000000
set_option maxRecDepth 100000
set_option linter.unusedVariables false
set_option linter.unusedSimpArgs false
namespace Go.Proofs.YticadfhpolhkeaaGreatDoor
namespace ob
open Go Go.RowKit lib fs lo
variable {M ic lc n:Nat} {ids:List (List UInt8)}
set_option maxRecDepth 100000
theorem Iu:aw Tryz.prog 68 72 .nilIface 1 16:=aw.of Tryz.underlying68 (by kernel_rfl) rfl (by decide)
structure jT (w:World) (M:Nat) (la ia:OA) (lc ic n:Nat) (L:LV) (ids:List (List UInt8)):Prop where
 box:w.heap[M]?=some (.cells #[.slice la n lc,.slice ia n ic] 70 (0,0))
 objs:w.ownsRow 0 72 1 (.slice la n lc) n L
 ids:w.ownsRow 0 9 1 (.slice ia n ic) n (ids.map λs=>Value.string (str s))
 off:M∉ag la/\M∉ag ia/\∀x∈ag la,x∉ag ia
structure CO (w w':World) (M:Nat) (la ia:OA) (lc ic n:Nat) (L:LV) (ids:List (List UInt8)) (v:Value) (id:LB):Prop where
 made:∃oO oP Ff Fk,jT w' M oO oP Ff Fk (n+1) (L++[v]) (ids++[id])/\(∀x∈ag oO,x∈ag la\/w.heap.size<=x)/\(∀x∈ag oP,x∈ag ia\/w.heap.size<=x)
 fr:Fr (M::(ag la++ag ia)) w w'
theorem Iq {w w4:World} {la ia oO oP:OA} {Ff Fk:Nat} {L:LV} {v:Value} {id:LB} (h:jT w M la ia lc ic n L ids)
  (f:Fr (ag la++ag ia) w w4) (ol:w4.ownsRow 0 72 1 (.slice oO (n+1) Ff) (n+1) (L++[v])) (oi:w4.ownsRow 0 9 1 (.slice oP (n+1) Fk) (n+1) ((ids++[id]).map λs=>Value.string (str s)))
  (hl:∀x∈ag oO,x∈ag la\/w.heap.size<=x) (hi:∀x∈ag oP,x∈ag ia\/w.heap.size<=x) (hd:∀x∈ag oO,x∉ag oP) :
  CO w ((w4.setCell ⟨M,0,none⟩ (.slice oO (n+1) Ff)).setCell ⟨M,1,none⟩ (.slice oP (n+1) Fk)) M la ia lc ic n L ids v id:=by
 have hM:=lt_of_block h.box;have hb:=f.ag h.box (by simp[h.off.1,h.off.2.1]);have oW:M∉ag oO:=λhm=>by
  rcases hl M hm with k|k
  ·exact h.off.1 k
  ·omega
 have Mq:M∉ag oP:=λhm=>by
  rcases hi M hm with k|k
  ·exact h.off.2.1 k
  ·omega
 have f2:Fr [M] w4 ((w4.setCell ⟨M,0,none⟩ (.slice oO (n+1) Ff)).setCell ⟨M,1,none⟩ (.slice oP (n+1) Fk)):=((Fr.refl [M] w4).setCell (p:=⟨M,0,none⟩) (.inl (by simp)) _).setCell (p:=⟨M,1,none⟩) (.inl (by simp)) _;refine⟨⟨oO,oP,Ff,Fk,⟨df (df hb _) _,dp ol f2 (λx hx hm=>oW ?_),dp oi f2 (λx hx hm=>Mq ?_),oW,Mq,hd⟩,hl,hi⟩,?_⟩
 ·have e:x=M:=by simpa using hm
  rw[<-e,<-cY oO (n+1) Ff,hx];simp
 ·have e:x=M:=by simpa using hm
  rw[<-e,<-cY oP (n+1) Fk,hx];simp
 ·exact (f.mono (T:=M::(ag la++ag ia)) (λx hx=>.inl (oH _ hx))).step f2 (λx hx=>.inl (by simp at hx;simp[hx]))
theorem jT.cG {w w':World} {la ia:OA} {L:LV} (h:jT w M la ia lc ic n L ids) (f:Fr [] w w'):jT w' M la ia lc ic n L ids:=
 ⟨f.ag h.box (by simp),dp h.objs f (by simp),dp h.ids f (by simp),h.off⟩
structure zY (w wc:World) (la ia oO oP:OA) (lc ic nl ni:Nat) (L:LV) (I:LV):Prop where
 fr:Fr (ag la++ag ia) w wc
 ol:wc.ownsRow 0 72 1 (.slice oO nl lc) nl L
 oi:wc.ownsRow 0 9 1 (.slice oP ni ic) ni I
 hl:∀x∈ag oO,x∈ag la\/w.heap.size<=x
 hi:∀x∈ag oP,x∈ag ia\/w.heap.size<=x
 hd:∀x∈ag oO,x∉ag oP
section
variable {w wc w2 : World} {la ia oO oP a2 : Option Addr} {lc ic nl ni c2 : Nat} {L I : List Value}
theorem zY.al (h:zY w wc la ia oO oP lc ic nl ni L I) (o:Obj):zY w (wc.alloc o) la ia oO oP lc ic nl ni L I:=
 ⟨h.fr.alloc o,dp h.ol ((Fr.refl [] wc).alloc o) (by simp),dp h.oi ((Fr.refl [] wc).alloc o) (by simp),h.hl,h.hi,h.hd⟩
theorem zY.xN (h:zY w wc la ia oO oP lc ic nl ni L I) {v:Value} (A:aN wc w2 72 1 (ag oO) a2 (nl+1) c2 (L++[v])):zY w w2 la ia a2 oP c2 ic (nl+1) ni (L++[v]) I:=
 ⟨h.fr.step A.fr (λx hx=>by
   rcases h.hl x hx with k|k
   ·exact .inl (BK _ k)
   ·exact .inr k),A.own,dp h.oi A.fr (λx hx hm=>h.hd x hm (by rw[<-cY oP ni ic,hx];simp)),λx hx=>by
   rcases A.at_ x hx with k|k
   ·exact h.hl x k
   ·exact .inr (by rw[k];exact h.fr.size),h.hi,λx hx hm=>by
   rcases A.at_ x hx with k|k
   ·exact h.hd x k hm
   ·have:=si h.oi (rz hm)
    omega⟩
theorem zY.xO (h:zY w wc la ia oO oP lc ic nl ni L I) {v:Value} (A:aN wc w2 9 1 (ag oP) a2 (ni+1) c2 (I++[v])):zY w w2 la ia oO a2 lc c2 nl (ni+1) L (I++[v]):=
 ⟨h.fr.step A.fr (λx hx=>by
   rcases h.hi x hx with k|k
   ·exact .inl (Dv _ k)
   ·exact .inr k),dp h.ol A.fr (λx hx hm=>h.hd x (by rw[<-cY oO nl lc,hx];simp) hm),A.own,h.hl,λx hx=>by
   rcases A.at_ x hx with k|k
   ·exact h.hi x k
   ·exact .inr (by rw[k];exact h.fr.size),λx hx hm=>by
   rcases A.at_ x hm with k|k
   ·exact h.hd x hx k
   ·have:=si h.ol (rz hx)
    omega⟩
end
theorem zdr (M:Nat) (la ia:OA) (lc ic n:Nat) (L:LV) (ids:List (List UInt8)) (w:World) (h:jT w M la ia lc ic n L ids) (hn:n<=5) (eH:obj.Pw w) :
  Calls Tryz.prog 54 #[.pointer (some ⟨M,0,none⟩),.iface 197 (.agg #[.slice none 0 0])] w λe w'=>e = .returned (.string (str (pk.aO 2 [])))/\∃w3,Fr [] w w3/\CO w3 w' M la ia lc ic n L ids (.iface 197 (.agg #[.slice none 0 0])) (pk.aO 2 []):=by
 have wh:∀(f:Nat) (w:World),(method (f+1) 197 (.agg #[.slice none 0 0]) "Kind").run Tryz.prog w = .ok (431,(.agg #[.slice none 0 0])) w:=λ_ _=>by kernel_rfl
 have nk:∀(f:Nat) (w:World),(method (f+1) 197 (.agg #[.slice none 0 0]) "Bytes").run Tryz.prog w = .ok (430,(.agg #[.slice none 0 0])) w:=λ_ _=>by kernel_rfl
 obtain⟨z,hz⟩:=ah (str (pk.aO 2 []));have HZ:=af hz;have H:=ai h eH;clear hz h eH;go_enter Tryz.func54,Tryz.ntmps54;go_upto_region 2 with (first
  | (go_at_call 431;refine (sQ _ _).mono ?_;rintro e w1 ⟨rfl,f1⟩;have H1:=af f1;clear f1)
  | (go_at_call 430;refine (Ul _).mono ?_;rintro e w2 ⟨rfl,f2⟩;have H2:=af f2;clear f2)
  | (go_at_call 24;refine (obj.J1 2 _ _ [] _ ⟨.inl rfl,ax _,eE _,λ_=>rfl⟩ (by decide) (H.l1.fr (H1.out.trans H2.out))).mono ?_;rintro e w3 ⟨he,f3⟩;obtain rfl:e = .returned (.string z):=(by rw[he,HZ.out]);have H3:=af (H.o0.cG ((H1.out.trans H2.out).trans f3));have F3:=af ((H1.out.trans H2.out).trans f3);clear he f3))
 have H3:=ai H3.out (show ∀x∈ag la,x<w3.heap.size from λx hx=>si H3.out.objs (rz hx));have d0:∀x,(sup (ag la++ag ia) w3.drew x).cell? ⟨M,0,none⟩=some (.slice la n lc):=λx=>(gB _ w3.drew x).cell (show w3.drew.cell? _=_ from (cell_of H3.out.1.box 0).trans rfl) (by simp[H3.out.1.off.1,H3.out.1.off.2.1])
 have d1:∀x,(sup (ag la++ag ia) w3.drew x).cell? ⟨M,1,none⟩=some (.slice ia n ic):=λx=>(gB _ w3.drew x).cell (show w3.drew.cell? _=_ from (cell_of H3.out.1.box 1).trans rfl) (by simp[H3.out.1.off.1,H3.out.1.off.2.1])
 have S0:=af (show zY w3 w3.drew la ia la ia lc ic n n L (ids.map λs=>Value.string (str s)) from ⟨Fr.aB _ _,H3.out.1.objs,H3.out.1.ids,λx hx=>.inl hx,λx hx=>.inl hx,H3.out.1.off.2.2⟩);refine ql9 16 1 (.pointer (some ⟨M,0,none⟩)) (.one false 0 (.one false 2 (.one false 3 (.one false 4 (.one false 5 (.one false 6 (.one false 9 (.one false 10 (.one false 11 (.one false 12 (.one false 13 (.two 7 (.two 8 (.one true 14 (.one true 15 .done)) 14 (.one true 8 (.one true 15 .done))) 14 (.one true 7 (.one true 8 (.one true 15 .done))))))))))))))) (ag la++ag ia) (by kernel_rfl) (by kernel_rfl) (λ_ _ d _ _ h=>by cases d<;>exact h) (.inl ⟨by rfl,λ_=>by rfl⟩) ?_;simp only[OT.map,BS,BR,nY,nE,Ld,Act.put,pS,nV,pQ];refine Ky 11 ?_;simp only[OT.kb,OT.behind];repeat (go_big_quiet_step (fail))
 refine wpQuiet_nil ?_;clear d0 d1 wh nk;refine Kz rfl rfl ?_ ?_
 ·skip;intro X hX;go_wp2;refine hX.out _ _ ((Fr.refl _ w3.drew).alloc _) ?_;clear hX X;have Ot:=ai (show Cs (w3.drew.alloc (.cells #[.iface 197 (.agg #[.slice none 0 0])] 72)) (some ⟨w3.heap.size,0,none⟩) [.iface 197 (.agg #[.slice none 0 0])] from (by have hb:=nD _ _ _ _ (aV w3.drew (.cells #[.iface 197 (.agg #[.slice none 0 0])] 72));rw[show (w3.drew).heap.size=w3.heap.size from (by first|rfl|simp)]at hb;exact hb)) (ax (w3.drew).heap.size);have Sa:=af (S0.out.al (.cells #[.iface 197 (.agg #[.slice none 0 0])] 72));refine Kz rfl rfl ?_ ?_
  ·skip;intro X hX;refine sj Iu _ _ rfl (.slice la n lc) n L (ag la) rfl (cY la n lc) Sa.out.ol (some ⟨w3.heap.size,0,none⟩) 1 1 [.iface 197 (.agg #[.slice none 0 0])] rfl (by decide) (by simp) Ot.o0 rfl (by intro u hu;simp only[eF]at hu;rw[hu];rfl) (by omega) (by unfold maxLen;omega) ?_;intro a8 c8 w8 A8;refine hX.out _ _ (A8.fr.mono (λx hx=>.inl (BK _ hx))) ?_;clear hX X;simp only[Act.put,pS,nV,pQ];have vA:=af (Sa.out.xN A8);refine uk rfl ?_;intro X hX;go_wp2;refine hX.out _ _ ((Fr.refl _ w8).alloc _) ?_;clear hX X;have vE:=ai (show Cs (w8.alloc (.cells #[.string z] 9)) (some ⟨w8.heap.size,0,none⟩) [.string z] from (by have hb:=nD _ _ _ _ (aV w8 (.cells #[.string z] 9));rw[show (w8).heap.size=w8.heap.size from (by first|rfl|simp)]at hb;exact hb)) (ax (w8).heap.size);have kv:=af (vA.out.al (.cells #[.string z] 9));refine uk rfl ?_;intro X hX;refine sj xT _ _ rfl (.slice ia n ic) n (ids.map λs=>Value.string (str s)) (ag ia) rfl (cY ia n ic) kv.out.oi (some ⟨w8.heap.size,0,none⟩) 1 1 [.string z] rfl (by decide) (by simp) vE.o0 rfl (by intro u hu;simp only[eF]at hu;rw[hu];rfl) (by omega) (by unfold maxLen;omega) ?_;intro a9 c9 w9 A9;refine hX.out _ _ (A9.fr.mono (λx hx=>.inl (Dv _ hx))) ?_;clear hX X;simp only[Act.put,pS,nV,pQ];have aU:=af (kv.out.xO A9);refine Di ?_;have hb:=(aU.out.fr).ag H3.out.1.box (by simp[H3.out.1.off.1,H3.out.1.off.2.1]);have lS:=df (o:=0) hb (.slice a8 (n+1) c8);have e0:=(cell_of hb 0).trans (show _=some (Value.slice la n lc) from rfl);have z0:=aT hb 0;have e1:=(cell_of lS 1).trans (show _=some (Value.slice ia n ic) from rfl);have z1:=aT lS 1;clear hb lS A8 A9;go_wp2;go_ret;have hq:=Iq (v:=.iface 197 (.agg #[.slice none 0 0])) (id:=pk.aO 2 []) H3.out.1 aU.out.fr aU.out.ol (by rw[jd,jL,qg,<-HZ.out];exact aU.out.oi) aU.out.hl aU.out.hi aU.out.hd;exact⟨by rw[<-HZ.out];rfl,w3,F3.out,hq⟩
  ·skip;intro X hX;go_wp2;refine hX.out _ _ ((Fr.refl _ (w3.drew.alloc (.cells #[.iface 197 (.agg #[.slice none 0 0])] 72))).alloc _) ?_;clear hX X;have Ah:=ai (show Cs ((w3.drew.alloc (.cells #[.iface 197 (.agg #[.slice none 0 0])] 72)).alloc (.cells #[.string z] 9)) (some ⟨(w3.heap.size+1),0,none⟩) [.string z] from (by have hb:=nD _ _ _ _ (aV (w3.drew.alloc (.cells #[.iface 197 (.agg #[.slice none 0 0])] 72)) (.cells #[.string z] 9));rw[show ((w3.drew.alloc (.cells #[.iface 197 (.agg #[.slice none 0 0])] 72))).heap.size=(w3.heap.size+1) from (by first|rfl|simp)]at hb;exact hb)) (ax ((w3.drew.alloc (.cells #[.iface 197 (.agg #[.slice none 0 0])] 72))).heap.size);have vA:=af (Sa.out.al (.cells #[.string z] 9));have Hh:=af (Ot.o0.fr ((Fr.refl [] (w3.drew.alloc (.cells #[.iface 197 (.agg #[.slice none 0 0])] 72))).alloc (.cells #[.string z] 9)) (by simp));refine uk rfl ?_;intro X hX;refine sj Iu _ _ rfl (.slice la n lc) n L (ag la) rfl (cY la n lc) vA.out.ol (some ⟨w3.heap.size,0,none⟩) 1 1 [.iface 197 (.agg #[.slice none 0 0])] rfl (by decide) (by simp) Hh.out rfl (by intro u hu;simp only[eF]at hu;rw[hu];rfl) (by omega) (by unfold maxLen;omega) ?_;intro a8 c8 w8 A8;refine hX.out _ _ (A8.fr.mono (λx hx=>.inl (BK _ hx))) ?_;clear hX X;simp only[Act.put,pS,nV,pQ];have kv:=af (vA.out.xN A8);have lI:=af (Ah.o0.fr A8.fr (λx hx hm=>by have h1:=H3.out.2 x hm;have:x=(w3.heap.size+1):=(by simpa[ag] using hx);omega));refine uk rfl ?_;intro X hX;refine sj xT _ _ rfl (.slice ia n ic) n (ids.map λs=>Value.string (str s)) (ag ia) rfl (cY ia n ic) kv.out.oi (some ⟨(w3.heap.size+1),0,none⟩) 1 1 [.string z] rfl (by decide) (by simp) lI.out rfl (by intro u hu;simp only[eF]at hu;rw[hu];rfl) (by omega) (by unfold maxLen;omega) ?_;intro a9 c9 w9 A9;refine hX.out _ _ (A9.fr.mono (λx hx=>.inl (Dv _ hx))) ?_;clear hX X;simp only[Act.put,pS,nV,pQ];have aU:=af (kv.out.xO A9);refine Di ?_;have hb:=(aU.out.fr).ag H3.out.1.box (by simp[H3.out.1.off.1,H3.out.1.off.2.1]);have lS:=df (o:=0) hb (.slice a8 (n+1) c8);have e0:=(cell_of hb 0).trans (show _=some (Value.slice la n lc) from rfl);have z0:=aT hb 0;have e1:=(cell_of lS 1).trans (show _=some (Value.slice ia n ic) from rfl);have z1:=aT lS 1;clear hb lS A8 A9;go_wp2;go_ret;have hq:=Iq (v:=.iface 197 (.agg #[.slice none 0 0])) (id:=pk.aO 2 []) H3.out.1 aU.out.fr aU.out.ol (by rw[jd,jL,qg,<-HZ.out];exact aU.out.oi) aU.out.hl aU.out.hi aU.out.hd;exact⟨by rw[<-HZ.out];rfl,w3,F3.out,hq⟩
 ·skip;intro X hX;go_wp2;refine hX.out _ _ ((Fr.refl _ w3.drew).alloc _) ?_;clear hX X;have Hj:=ai (show Cs (w3.drew.alloc (.cells #[.string z] 9)) (some ⟨w3.heap.size,0,none⟩) [.string z] from (by have hb:=nD _ _ _ _ (aV w3.drew (.cells #[.string z] 9));rw[show (w3.drew).heap.size=w3.heap.size from (by first|rfl|simp)]at hb;exact hb)) (ax (w3.drew).heap.size);have Sa:=af (S0.out.al (.cells #[.string z] 9));refine uk rfl ?_;intro X hX;go_wp2;refine hX.out _ _ ((Fr.refl _ (w3.drew.alloc (.cells #[.string z] 9))).alloc _) ?_;clear hX X;have Hi:=ai (show Cs ((w3.drew.alloc (.cells #[.string z] 9)).alloc (.cells #[.iface 197 (.agg #[.slice none 0 0])] 72)) (some ⟨(w3.heap.size+1),0,none⟩) [.iface 197 (.agg #[.slice none 0 0])] from (by have hb:=nD _ _ _ _ (aV (w3.drew.alloc (.cells #[.string z] 9)) (.cells #[.iface 197 (.agg #[.slice none 0 0])] 72));rw[show ((w3.drew.alloc (.cells #[.string z] 9))).heap.size=(w3.heap.size+1) from (by first|rfl|simp)]at hb;exact hb)) (ax ((w3.drew.alloc (.cells #[.string z] 9))).heap.size);have vA:=af (Sa.out.al (.cells #[.iface 197 (.agg #[.slice none 0 0])] 72));have Ag:=af (Hj.o0.fr ((Fr.refl [] (w3.drew.alloc (.cells #[.string z] 9))).alloc (.cells #[.iface 197 (.agg #[.slice none 0 0])] 72)) (by simp));refine uk rfl ?_;intro X hX;refine sj Iu _ _ rfl (.slice la n lc) n L (ag la) rfl (cY la n lc) vA.out.ol (some ⟨(w3.heap.size+1),0,none⟩) 1 1 [.iface 197 (.agg #[.slice none 0 0])] rfl (by decide) (by simp) Hi.o0 rfl (by intro u hu;simp only[eF]at hu;rw[hu];rfl) (by omega) (by unfold maxLen;omega) ?_;intro a8 c8 w8 A8;refine hX.out _ _ (A8.fr.mono (λx hx=>.inl (BK _ hx))) ?_;clear hX X;simp only[Act.put,pS,nV,pQ];have kv:=af (vA.out.xN A8);have lI:=af (Ag.out.fr A8.fr (λx hx hm=>by have h1:=H3.out.2 x hm;have:x=w3.heap.size:=(by simpa[ag] using hx);omega));refine uk rfl ?_;intro X hX;refine sj xT _ _ rfl (.slice ia n ic) n (ids.map λs=>Value.string (str s)) (ag ia) rfl (cY ia n ic) kv.out.oi (some ⟨w3.heap.size,0,none⟩) 1 1 [.string z] rfl (by decide) (by simp) lI.out rfl (by intro u hu;simp only[eF]at hu;rw[hu];rfl) (by omega) (by unfold maxLen;omega) ?_;intro a9 c9 w9 A9;refine hX.out _ _ (A9.fr.mono (λx hx=>.inl (Dv _ hx))) ?_;clear hX X;simp only[Act.put,pS,nV,pQ];have aU:=af (kv.out.xO A9);refine Di ?_;have hb:=(aU.out.fr).ag H3.out.1.box (by simp[H3.out.1.off.1,H3.out.1.off.2.1]);have lS:=df (o:=0) hb (.slice a8 (n+1) c8);have e0:=(cell_of hb 0).trans (show _=some (Value.slice la n lc) from rfl);have z0:=aT hb 0;have e1:=(cell_of lS 1).trans (show _=some (Value.slice ia n ic) from rfl);have z1:=aT lS 1;clear hb lS A8 A9;go_wp2;go_ret;have hq:=Iq (v:=.iface 197 (.agg #[.slice none 0 0])) (id:=pk.aO 2 []) H3.out.1 aU.out.fr aU.out.ol (by rw[jd,jL,qg,<-HZ.out];exact aU.out.oi) aU.out.hl aU.out.hi aU.out.hd;exact⟨by rw[<-HZ.out];rfl,w3,F3.out,hq⟩
theorem qw7 (tid:LB) (ps:List (List UInt8)) (pa:OA) (au co msg:LB) (M:Nat) (la ia:OA) (lc ic n:Nat) (L:LV) (ids:List (List UInt8)) (w:World) (ht:tid.length<=100) (hp:∀p∈ps,p.length<=100) (DQ:ps.length<=9) (ha:au.length<=100) (hc:co.length<=100) (hl:msg.length<=100) (hcs:Cs w pa (ps.map λp=>Value.string (str p))) (dW:(bq tid ps au co msg).length<=140737488355200) (h:jT w M la ia lc ic n L ids) (hn:n<=5) (eH:obj.Pw w) :
  Calls Tryz.prog 54 #[.pointer (some ⟨M,0,none⟩),.iface 132 (.agg #[.string (str tid),.slice pa ps.length ps.length,.string (str au),.string (str co),.string (str msg)])] w λe w'=>e = .returned (.string (str (pk.aO 1 (bq tid ps au co msg))))/\∃w3,Fr [] w w3/\CO w3 w' M la ia lc ic n L ids (.iface 132 (.agg #[.string (str tid),.slice pa ps.length ps.length,.string (str au),.string (str co),.string (str msg)])) (pk.aO 1 (bq tid ps au co msg)):=by
 have wh:∀(f:Nat) (w:World),(method (f+1) 132 (.agg #[.string (str tid),.slice pa ps.length ps.length,.string (str au),.string (str co),.string (str msg)]) "Kind").run Tryz.prog w = .ok (424,(.agg #[.string (str tid),.slice pa ps.length ps.length,.string (str au),.string (str co),.string (str msg)])) w:=λ_ _=>by kernel_rfl
 have nk:∀(f:Nat) (w:World),(method (f+1) 132 (.agg #[.string (str tid),.slice pa ps.length ps.length,.string (str au),.string (str co),.string (str msg)]) "Bytes").run Tryz.prog w = .ok (423,(.agg #[.string (str tid),.slice pa ps.length ps.length,.string (str au),.string (str co),.string (str msg)])) w:=λ_ _=>by kernel_rfl
 obtain⟨z,hz⟩:=ah (str (pk.aO 1 (bq tid ps au co msg)));have HZ:=af hz;have H:=ai h eH;have HC:=lf ht hp DQ ha hc hl hcs dW;clear ht hp DQ ha hc hl hcs dW;clear hz h eH;go_enter Tryz.func54,Tryz.ntmps54;go_upto_region 2 with (first
  | (go_at_call 424;refine (pB _ _ _ _ _ _).mono ?_;rintro e w1 ⟨rfl,f1⟩;have H1:=af f1;clear f1)
  | (go_at_call 423;refine (TD tid ps pa au co msg _ HC.o0 HC.o1 HC.o2 HC.o3 HC.o4 HC.o5 (HC.o6.fr H1.out (by simp))).mono ?_;rintro e w2 ⟨a2,rfl,r2,f2⟩;have H2:=af f2;have R2:=af r2;clear f2 r2)
  | (go_at_call 24;refine (obj.J1 1 _ _ (bq tid ps au co msg) _ R2.out (by exact HC.l7) (H.l1.fr (H1.out.trans H2.out))).mono ?_;rintro e w3 ⟨he,f3⟩;obtain rfl:e = .returned (.string z):=(by rw[he,HZ.out]);have H3:=af (H.o0.cG ((H1.out.trans H2.out).trans f3));have F3:=af ((H1.out.trans H2.out).trans f3);clear he f3))
 have H3:=ai H3.out (show ∀x∈ag la,x<w3.heap.size from λx hx=>si H3.out.objs (rz hx));have d0:∀x,(sup (ag la++ag ia) w3.drew x).cell? ⟨M,0,none⟩=some (.slice la n lc):=λx=>(gB _ w3.drew x).cell (show w3.drew.cell? _=_ from (cell_of H3.out.1.box 0).trans rfl) (by simp[H3.out.1.off.1,H3.out.1.off.2.1])
 have d1:∀x,(sup (ag la++ag ia) w3.drew x).cell? ⟨M,1,none⟩=some (.slice ia n ic):=λx=>(gB _ w3.drew x).cell (show w3.drew.cell? _=_ from (cell_of H3.out.1.box 1).trans rfl) (by simp[H3.out.1.off.1,H3.out.1.off.2.1])
 have S0:=af (show zY w3 w3.drew la ia la ia lc ic n n L (ids.map λs=>Value.string (str s)) from ⟨Fr.aB _ _,H3.out.1.objs,H3.out.1.ids,λx hx=>.inl hx,λx hx=>.inl hx,H3.out.1.off.2.2⟩);refine ql9 16 1 (.pointer (some ⟨M,0,none⟩)) (.one false 0 (.one false 2 (.one false 3 (.one false 4 (.one false 5 (.one false 6 (.one false 9 (.one false 10 (.one false 11 (.one false 12 (.one false 13 (.two 7 (.two 8 (.one true 14 (.one true 15 .done)) 14 (.one true 8 (.one true 15 .done))) 14 (.one true 7 (.one true 8 (.one true 15 .done))))))))))))))) (ag la++ag ia) (by kernel_rfl) (by kernel_rfl) (λ_ _ d _ _ h=>by cases d<;>exact h) (.inl ⟨by rfl,λ_=>by rfl⟩) ?_;simp only[OT.map,BS,BR,nY,nE,Ld,Act.put,pS,nV,pQ];refine Ky 11 ?_;simp only[OT.kb,OT.behind];repeat (go_big_quiet_step (fail))
 refine wpQuiet_nil ?_;clear d0 d1 wh nk;refine Kz rfl rfl ?_ ?_
 ·skip;intro X hX;go_wp2;refine hX.out _ _ ((Fr.refl _ w3.drew).alloc _) ?_;clear hX X;have Ot:=ai (show Cs (w3.drew.alloc (.cells #[.iface 132 (.agg #[.string (str tid),.slice pa ps.length ps.length,.string (str au),.string (str co),.string (str msg)])] 72)) (some ⟨w3.heap.size,0,none⟩) [.iface 132 (.agg #[.string (str tid),.slice pa ps.length ps.length,.string (str au),.string (str co),.string (str msg)])] from (by have hb:=nD _ _ _ _ (aV w3.drew (.cells #[.iface 132 (.agg #[.string (str tid),.slice pa ps.length ps.length,.string (str au),.string (str co),.string (str msg)])] 72));rw[show (w3.drew).heap.size=w3.heap.size from (by first|rfl|simp)]at hb;exact hb)) (ax (w3.drew).heap.size);have Sa:=af (S0.out.al (.cells #[.iface 132 (.agg #[.string (str tid),.slice pa ps.length ps.length,.string (str au),.string (str co),.string (str msg)])] 72));refine Kz rfl rfl ?_ ?_
  ·skip;intro X hX;refine sj Iu _ _ rfl (.slice la n lc) n L (ag la) rfl (cY la n lc) Sa.out.ol (some ⟨w3.heap.size,0,none⟩) 1 1 [.iface 132 (.agg #[.string (str tid),.slice pa ps.length ps.length,.string (str au),.string (str co),.string (str msg)])] rfl (by decide) (by simp) Ot.o0 rfl (by intro u hu;simp only[eF]at hu;rw[hu];rfl) (by omega) (by unfold maxLen;omega) ?_;intro a8 c8 w8 A8;refine hX.out _ _ (A8.fr.mono (λx hx=>.inl (BK _ hx))) ?_;clear hX X;simp only[Act.put,pS,nV,pQ];have vA:=af (Sa.out.xN A8);refine uk rfl ?_;intro X hX;go_wp2;refine hX.out _ _ ((Fr.refl _ w8).alloc _) ?_;clear hX X;have vE:=ai (show Cs (w8.alloc (.cells #[.string z] 9)) (some ⟨w8.heap.size,0,none⟩) [.string z] from (by have hb:=nD _ _ _ _ (aV w8 (.cells #[.string z] 9));rw[show (w8).heap.size=w8.heap.size from (by first|rfl|simp)]at hb;exact hb)) (ax (w8).heap.size);have kv:=af (vA.out.al (.cells #[.string z] 9));refine uk rfl ?_;intro X hX;refine sj xT _ _ rfl (.slice ia n ic) n (ids.map λs=>Value.string (str s)) (ag ia) rfl (cY ia n ic) kv.out.oi (some ⟨w8.heap.size,0,none⟩) 1 1 [.string z] rfl (by decide) (by simp) vE.o0 rfl (by intro u hu;simp only[eF]at hu;rw[hu];rfl) (by omega) (by unfold maxLen;omega) ?_;intro a9 c9 w9 A9;refine hX.out _ _ (A9.fr.mono (λx hx=>.inl (Dv _ hx))) ?_;clear hX X;simp only[Act.put,pS,nV,pQ];have aU:=af (kv.out.xO A9);refine Di ?_;have hb:=(aU.out.fr).ag H3.out.1.box (by simp[H3.out.1.off.1,H3.out.1.off.2.1]);have lS:=df (o:=0) hb (.slice a8 (n+1) c8);have e0:=(cell_of hb 0).trans (show _=some (Value.slice la n lc) from rfl);have z0:=aT hb 0;have e1:=(cell_of lS 1).trans (show _=some (Value.slice ia n ic) from rfl);have z1:=aT lS 1;clear hb lS A8 A9;go_wp2;go_ret;have hq:=Iq (v:=.iface 132 (.agg #[.string (str tid),.slice pa ps.length ps.length,.string (str au),.string (str co),.string (str msg)])) (id:=pk.aO 1 (bq tid ps au co msg)) H3.out.1 aU.out.fr aU.out.ol (by rw[jd,jL,qg,<-HZ.out];exact aU.out.oi) aU.out.hl aU.out.hi aU.out.hd;exact⟨by rw[<-HZ.out];rfl,w3,F3.out,hq⟩
  ·skip;intro X hX;go_wp2;refine hX.out _ _ ((Fr.refl _ (w3.drew.alloc (.cells #[.iface 132 (.agg #[.string (str tid),.slice pa ps.length ps.length,.string (str au),.string (str co),.string (str msg)])] 72))).alloc _) ?_;clear hX X;have Ah:=ai (show Cs ((w3.drew.alloc (.cells #[.iface 132 (.agg #[.string (str tid),.slice pa ps.length ps.length,.string (str au),.string (str co),.string (str msg)])] 72)).alloc (.cells #[.string z] 9)) (some ⟨(w3.heap.size+1),0,none⟩) [.string z] from (by have hb:=nD _ _ _ _ (aV (w3.drew.alloc (.cells #[.iface 132 (.agg #[.string (str tid),.slice pa ps.length ps.length,.string (str au),.string (str co),.string (str msg)])] 72)) (.cells #[.string z] 9));rw[show ((w3.drew.alloc (.cells #[.iface 132 (.agg #[.string (str tid),.slice pa ps.length ps.length,.string (str au),.string (str co),.string (str msg)])] 72))).heap.size=(w3.heap.size+1) from (by first|rfl|simp)]at hb;exact hb)) (ax ((w3.drew.alloc (.cells #[.iface 132 (.agg #[.string (str tid),.slice pa ps.length ps.length,.string (str au),.string (str co),.string (str msg)])] 72))).heap.size);have vA:=af (Sa.out.al (.cells #[.string z] 9));have Hh:=af (Ot.o0.fr ((Fr.refl [] (w3.drew.alloc (.cells #[.iface 132 (.agg #[.string (str tid),.slice pa ps.length ps.length,.string (str au),.string (str co),.string (str msg)])] 72))).alloc (.cells #[.string z] 9)) (by simp));refine uk rfl ?_;intro X hX;refine sj Iu _ _ rfl (.slice la n lc) n L (ag la) rfl (cY la n lc) vA.out.ol (some ⟨w3.heap.size,0,none⟩) 1 1 [.iface 132 (.agg #[.string (str tid),.slice pa ps.length ps.length,.string (str au),.string (str co),.string (str msg)])] rfl (by decide) (by simp) Hh.out rfl (by intro u hu;simp only[eF]at hu;rw[hu];rfl) (by omega) (by unfold maxLen;omega) ?_;intro a8 c8 w8 A8;refine hX.out _ _ (A8.fr.mono (λx hx=>.inl (BK _ hx))) ?_;clear hX X;simp only[Act.put,pS,nV,pQ];have kv:=af (vA.out.xN A8);have lI:=af (Ah.o0.fr A8.fr (λx hx hm=>by have h1:=H3.out.2 x hm;have:x=(w3.heap.size+1):=(by simpa[ag] using hx);omega));refine uk rfl ?_;intro X hX;refine sj xT _ _ rfl (.slice ia n ic) n (ids.map λs=>Value.string (str s)) (ag ia) rfl (cY ia n ic) kv.out.oi (some ⟨(w3.heap.size+1),0,none⟩) 1 1 [.string z] rfl (by decide) (by simp) lI.out rfl (by intro u hu;simp only[eF]at hu;rw[hu];rfl) (by omega) (by unfold maxLen;omega) ?_;intro a9 c9 w9 A9;refine hX.out _ _ (A9.fr.mono (λx hx=>.inl (Dv _ hx))) ?_;clear hX X;simp only[Act.put,pS,nV,pQ];have aU:=af (kv.out.xO A9);refine Di ?_;have hb:=(aU.out.fr).ag H3.out.1.box (by simp[H3.out.1.off.1,H3.out.1.off.2.1]);have lS:=df (o:=0) hb (.slice a8 (n+1) c8);have e0:=(cell_of hb 0).trans (show _=some (Value.slice la n lc) from rfl);have z0:=aT hb 0;have e1:=(cell_of lS 1).trans (show _=some (Value.slice ia n ic) from rfl);have z1:=aT lS 1;clear hb lS A8 A9;go_wp2;go_ret;have hq:=Iq (v:=.iface 132 (.agg #[.string (str tid),.slice pa ps.length ps.length,.string (str au),.string (str co),.string (str msg)])) (id:=pk.aO 1 (bq tid ps au co msg)) H3.out.1 aU.out.fr aU.out.ol (by rw[jd,jL,qg,<-HZ.out];exact aU.out.oi) aU.out.hl aU.out.hi aU.out.hd;exact⟨by rw[<-HZ.out];rfl,w3,F3.out,hq⟩
 ·skip;intro X hX;go_wp2;refine hX.out _ _ ((Fr.refl _ w3.drew).alloc _) ?_;clear hX X;have Hj:=ai (show Cs (w3.drew.alloc (.cells #[.string z] 9)) (some ⟨w3.heap.size,0,none⟩) [.string z] from (by have hb:=nD _ _ _ _ (aV w3.drew (.cells #[.string z] 9));rw[show (w3.drew).heap.size=w3.heap.size from (by first|rfl|simp)]at hb;exact hb)) (ax (w3.drew).heap.size);have Sa:=af (S0.out.al (.cells #[.string z] 9));refine uk rfl ?_;intro X hX;go_wp2;refine hX.out _ _ ((Fr.refl _ (w3.drew.alloc (.cells #[.string z] 9))).alloc _) ?_;clear hX X;have Hi:=ai (show Cs ((w3.drew.alloc (.cells #[.string z] 9)).alloc (.cells #[.iface 132 (.agg #[.string (str tid),.slice pa ps.length ps.length,.string (str au),.string (str co),.string (str msg)])] 72)) (some ⟨(w3.heap.size+1),0,none⟩) [.iface 132 (.agg #[.string (str tid),.slice pa ps.length ps.length,.string (str au),.string (str co),.string (str msg)])] from (by have hb:=nD _ _ _ _ (aV (w3.drew.alloc (.cells #[.string z] 9)) (.cells #[.iface 132 (.agg #[.string (str tid),.slice pa ps.length ps.length,.string (str au),.string (str co),.string (str msg)])] 72));rw[show ((w3.drew.alloc (.cells #[.string z] 9))).heap.size=(w3.heap.size+1) from (by first|rfl|simp)]at hb;exact hb)) (ax ((w3.drew.alloc (.cells #[.string z] 9))).heap.size);have vA:=af (Sa.out.al (.cells #[.iface 132 (.agg #[.string (str tid),.slice pa ps.length ps.length,.string (str au),.string (str co),.string (str msg)])] 72));have Ag:=af (Hj.o0.fr ((Fr.refl [] (w3.drew.alloc (.cells #[.string z] 9))).alloc (.cells #[.iface 132 (.agg #[.string (str tid),.slice pa ps.length ps.length,.string (str au),.string (str co),.string (str msg)])] 72)) (by simp));refine uk rfl ?_;intro X hX;refine sj Iu _ _ rfl (.slice la n lc) n L (ag la) rfl (cY la n lc) vA.out.ol (some ⟨(w3.heap.size+1),0,none⟩) 1 1 [.iface 132 (.agg #[.string (str tid),.slice pa ps.length ps.length,.string (str au),.string (str co),.string (str msg)])] rfl (by decide) (by simp) Hi.o0 rfl (by intro u hu;simp only[eF]at hu;rw[hu];rfl) (by omega) (by unfold maxLen;omega) ?_;intro a8 c8 w8 A8;refine hX.out _ _ (A8.fr.mono (λx hx=>.inl (BK _ hx))) ?_;clear hX X;simp only[Act.put,pS,nV,pQ];have kv:=af (vA.out.xN A8);have lI:=af (Ag.out.fr A8.fr (λx hx hm=>by have h1:=H3.out.2 x hm;have:x=w3.heap.size:=(by simpa[ag] using hx);omega));refine uk rfl ?_;intro X hX;refine sj xT _ _ rfl (.slice ia n ic) n (ids.map λs=>Value.string (str s)) (ag ia) rfl (cY ia n ic) kv.out.oi (some ⟨w3.heap.size,0,none⟩) 1 1 [.string z] rfl (by decide) (by simp) lI.out rfl (by intro u hu;simp only[eF]at hu;rw[hu];rfl) (by omega) (by unfold maxLen;omega) ?_;intro a9 c9 w9 A9;refine hX.out _ _ (A9.fr.mono (λx hx=>.inl (Dv _ hx))) ?_;clear hX X;simp only[Act.put,pS,nV,pQ];have aU:=af (kv.out.xO A9);refine Di ?_;have hb:=(aU.out.fr).ag H3.out.1.box (by simp[H3.out.1.off.1,H3.out.1.off.2.1]);have lS:=df (o:=0) hb (.slice a8 (n+1) c8);have e0:=(cell_of hb 0).trans (show _=some (Value.slice la n lc) from rfl);have z0:=aT hb 0;have e1:=(cell_of lS 1).trans (show _=some (Value.slice ia n ic) from rfl);have z1:=aT lS 1;clear hb lS A8 A9;go_wp2;go_ret;have hq:=Iq (v:=.iface 132 (.agg #[.string (str tid),.slice pa ps.length ps.length,.string (str au),.string (str co),.string (str msg)])) (id:=pk.aO 1 (bq tid ps au co msg)) H3.out.1 aU.out.fr aU.out.ol (by rw[jd,jL,qg,<-HZ.out];exact aU.out.oi) aU.out.hl aU.out.hi aU.out.hd;exact⟨by rw[<-HZ.out];rfl,w3,F3.out,hq⟩
end ob
namespace ob
open Go Go.RowKit lib fs lo
variable {P:Program} {ops:Array Oper} {rest:List Oper}
set_option maxRecDepth 100000
theorem qx8 (w:World):Calls Tryz.prog 104 #[.slice none 0 0] w λe w'=>e = .returned (.slice none 0 0)/\w'=w:=by
 have qT:∀(w:World) (a:OA) (n c n' c':Nat),(binOp .eql 122 (.slice a n c) (.slice none n' c')).run Tryz.prog w = .ok (.bool a.isNone) w:=λw a n c n' c'=>Lib.run_eql_slice_nil w _ _ a n c n' c' Tryz.underlying122
 go_enter Tryz.func104,Tryz.ntmps104;go_wp2;go_ret;exact⟨rfl,rfl⟩
theorem qt0 (v:Value) (w:World):Calls Tryz.prog 227 #[.slice none 0 0,.int .i64 0,.int .i64 0,v] w λe w'=>e = .returned (.tuple #[])/\w'=w:=by
 go_enter Tryz.func227,Tryz.ntmps227;go_wp2;go_loopg [8] 0 (λk s8 wr=>s8 = .int .i64 1/\wr=w);case atStart=>exact⟨rfl,rfl⟩
 case round=>
 obtain⟨rfl,rfl⟩:=hrel;go_wp2;exact bodyPost_end (results_none rfl _ _ _) rfl ⟨rfl,rfl⟩
theorem qsy (v:Value) (w:World):Calls Tryz.prog 165 #[.slice none 0 0,.int .i64 0,v] w λe w'=>e = .returned (.tuple #[])/\w'=w:=by
 go_enter Tryz.func165,Tryz.ntmps165;go_wp2;go_loopg [7,8] 0 (λk s7 s8 wr=>s7 = .int .i64 0/\s8 = .int .i64 20/\wr=w);case atStart=>exact⟨rfl,rfl,rfl⟩
 case round=>
 obtain⟨rfl,rfl,rfl⟩:=hrel;go_wp2_with (go_at_call 227;refine (qt0 _ _).mono ?_;rintro e w2 ⟨rfl,hw⟩;obtain rfl:=hw.symm);go_loopg [6] 0 (λk s6 Ey=>s6 = .int .i64 20/\Ey=wr);case atStart=>exact⟨rfl,rfl⟩
 case round=>
 obtain⟨rfl,rfl⟩:=hrel;go_wp2;exact bodyPost_end (results_none rfl _ _ _) rfl ⟨rfl,rfl⟩
theorem qy7 (v:Value) (w:World):Calls Tryz.prog 106 #[.slice none 0 0,v] w λe w'=>e = .returned (.tuple #[])/\w'=w:=by go_enter Tryz.func106,Tryz.ntmps106;go_wp2_with (go_at_call 165;refine (qsy _ _).mono ?_;rintro e w2 ⟨rfl,hw⟩;obtain rfl:=hw.symm);exact bodyPost_end (results_none rfl _ _ _) rfl ⟨rfl,rfl⟩
theorem qnf {w:World} {o:Oper} {a:Act} {Q:Exit->Act->World->Prop} (hg:o.guard=none) (m:Operand) (t:TypeId) (DS:o.op=Op.range t m) (k e:TypeId) (ht:P.underlying t=some (.map k e)) (b clock:Nat)
  (hm:a.eval m = .map (some b)) (hb:w.heap[b]?=some (.map #[] clock))
  (hK:wpList P ops Q rest (a.put o.dst (.pointer (some ⟨w.heap.size,0,none⟩))) (w.alloc (.mapIter (some b) clock #[] clock))):wpList P ops Q (o::rest) a w:=by
 refine wpList_plain hg λK' hK'=>?_
 unfold Oper.wp;simp[execOp,DS,hm,run_range_map w t k e b #[] clock ht hb,Result.andThen];exact hK' _ _ hK
theorem qo0 {w:World} {o:Oper} {a:Act} {Q:Exit->Act->World->Prop} (hg:o.guard=none) (it:Operand) (DS:o.op=Op.next it false) (r bm since c0 clock:Nat)
  (hit:a.eval it = .pointer (some ⟨r,0,none⟩)) (hr:w.heap[r]?=some (.mapIter (some bm) since #[] c0)) (hb:w.heap[bm]?=some (.map #[] clock)) (hsc:since<=c0)
  (hK:wpList P ops Q rest (a.put o.dst (.tuple #[.bool false])) w):wpList P ops Q (o::rest) a w:=by
 refine wpList_plain hg λK' hK'=>?_
 unfold Oper.wp;rcases run_next_at (P:=P) w o.type r bm since c0 #[] #[] clock hr hb (by simp) hsc with⟨_,h⟩|⟨e,he,_⟩
 ·simp[execOp,DS,hit,h,Result.andThen];exact hK' _ _ hK
 ·simp[leftOf]at he
theorem qqn (w:World):Calls Tryz.prog 105 #[.slice none 0 0] w λe w'=>e = .returned (.tuple #[])/\w'=w:=Any.slices_Sort_string_none Tryz.lays190 none 0 w
theorem qtl (M D mp ck:Nat) (la ia:OA) (lc ic n:Nat) (L:LV) (ids:List (List UInt8)) (w:World) (h:jT w M la ia lc ic n L ids) (hn:n<=5) (eH:obj.Pw w) (hd:w.heap[D]?=some (.cells #[.slice none 0 0,.map (some mp)] 124 (0,0))) (hm:w.heap[mp]?=some (.map #[] ck)) :
  Calls Tryz.prog 56 #[.pointer (some ⟨M,0,none⟩),.pointer (some ⟨D,0,none⟩)] w λe w'=>e = .returned (.string (str (pk.aO 2 [])))/\∃w3,Fr [] w w3/\CO w3 w' M la ia lc ic n L ids (.iface 197 (.agg #[.slice none 0 0])) (pk.aO 2 []):=by
 have c0:=(cell_of hd 0).trans (show _=some (Value.slice none 0 0) from rfl);have z0:=aT hd 0;have c1:=(cell_of hd 1).trans (show _=some (Value.map (some mp)) from rfl);have z1:=aT hd 1;have H:=aA h eH hd hm;clear h eH hd hm;go_enter Tryz.func56,Tryz.ntmps56;go_wp2_with (first
  | (go_at_call 104;refine (qx8 _).mono ?_;rintro e w2 ⟨rfl,hw⟩;obtain rfl:=hw.symm)
  | (at_range;refine qnf rfl _ 121 rfl 9 120 Tryz.underlying121 mp ck rfl H.l3 ?_))
 obtain⟨w1,aJ⟩:=ah (w.alloc (.mapIter (some mp) ck #[] ck));have hi:w1.heap[w.heap.size]?=some (.mapIter (some mp) ck #[] ck):=by rw[aJ];exact aV w _
 have f1:Fr [] w w1:=by rw[aJ];exact (Fr.refl [] w).alloc _
 rw[<-aJ];have H1:=aq f1 hi (f1.ag H.l3 (by simp));have lO:=f1.ag H.o2 (by simp);have c1:=(cell_of lO 1).trans (show _=some (Value.map (some mp)) from rfl);have z1:=aT lO 1;clear aJ hi f1 c0 z0 lO;go_frame;go_loopg [6] 0 (λk s6 wr=>s6 = .slice none 0 0/\wr=w1);case atStart=>exact⟨rfl,rfl⟩
 case round=>
 obtain⟨rfl,rfl⟩:=hrel;go_wp2_with (first
  | (at_next;refine qo0 rfl _ rfl w.heap.size mp ck ck ck rfl H1.o1 H1.l2 (ax _) ?_)
  | (go_at_call 105;refine (qqn _).mono ?_;rintro e w2 ⟨rfl,hw⟩;obtain rfl:=hw.symm))
 go_loopg [5,32] 0 (λk s5 s32 Ey=>s5 = .slice none 0 0/\s32 = .int .i64 0/\Ey=wr);case atStart=>exact⟨rfl,rfl,rfl⟩
 case round=>
 obtain⟨rfl,rfl,rfl⟩:=hrel;go_wp2_with (first
  | (go_at_call 106;refine (qy7 _ _).mono ?_;rintro e w2 ⟨rfl,hw⟩;obtain rfl:=hw.symm)
  | (go_at_call 54;refine (zdr M la ia lc ic n L ids _ (H.o0.cG H1.o0) hn (H.o1.fr H1.o0)).mono ?_;rintro e w4 ⟨rfl,w3,f3,hp⟩;have H4:=ai f3 hp;clear f3 hp))
 go_ret;exact⟨rfl,w3,H1.o0.trans H4.o0,H4.l1⟩
set_option maxRecDepth 100000
def kV:Nm:=[111,98,106,101,99,116,115,47,112,97,99,107,47,112,97,99,107,45]
def iZ (t:Nm->Option (List UInt8)):Prop:=∀k,Lib.hasPrefix k kV=true->t k=none
def JE (w:World) (O F:Nat):Prop:=∃m,w.heap[O]?=some (.cells #[.pointer (some ⟨F,0,none⟩),.map (some m)] 79 (0,0))
theorem qxd (O F n M:Nat) (t:Nm->Option (List UInt8)) (lab:Nat->Option Lb) (w:World) (hO:JE w O F) (h:Fs w F n M t lab) (ht:iZ t) :
  Calls Tryz.prog 117 #[.pointer (some ⟨O,0,none⟩)] w λe w'=>e = .returned (.slice none 0 0)/\Fr [] w w':=by
 have hl:Calls Tryz.prog 99 #[.pointer (some ⟨F,0,none⟩),.string (str kV)] w λe w'=>∃a,e = .returned (.slice a 0 0)/\Fr [] w w':=(SJ F n M t lab kV w h).mono λe w' ⟨v,ss,he,hl,_,⟨a,hv,_,_⟩,f⟩=>by
  have h0:(ss.filter λs=>Lib.hasPrefix s kV)=[]:=List.filter_eq_nil_iff.2 λx hx hp=>(hl.2.2 x).1 hx (ht x hp)
  rw[h0]at hv;exact⟨a,by rw[he,hv];rfl,f⟩
 obtain⟨m,hb⟩:=hO;have c0:=(cell_of hb 0).trans (show _=some (Value.pointer (some ⟨F,0,none⟩)) from rfl);have z0:=aT hb 0;have H:=af hl;clear hl h ht hb;go_enter Tryz.func117,Tryz.ntmps117;go_upto_block 0 with (go_at_call 99;refine H.out.mono ?_;rintro e w1 ⟨a,rfl,f1⟩;have H1:=af f1;clear f1);go_wp2;go_loopg [3,16] 0 (λk s3 s16 wr=>s3 = .slice none 0 0/\s16 = .int .i64 0/\wr=w1);case atStart=>exact⟨rfl,rfl,rfl⟩
 case round=>
 obtain⟨rfl,rfl,rfl⟩:=hrel;go_wp2_with (first
  | (go_at_call 105;refine (qqn _).mono ?_;rintro e w2 ⟨rfl,hw⟩;obtain rfl:=hw.symm)
  | (go_at_call 158;refine (J3 none 0 0 _ (ax _) (eE _)).mono ?_;rintro e w4 ⟨rfl,hw⟩;obtain rfl:=hw.symm))
 go_ret;exact⟨rfl,H1.out⟩
set_option maxRecDepth 100000
theorem qr0 (zs:List (List UInt8)) (x:LB) (ao:OA) (n c:Nat) (w:World) (hn:n=zs.length) (h9:zs.length<=1000000) (h:Cs w ao (zs.map λp=>Value.string (str p))) :
  Calls Tryz.prog 52 #[.slice ao n c,.string (str x)] w λe w'=>e = .returned (.bool (decide (x∈zs)))/\w'=w:=by
 by_cases h0:zs=[]
 ·subst h0;rw[hn];exact Tryz.slices_Contains_string_empty ao c (str x) w
 ·obtain⟨g,o,rfl,hc⟩:=h.at (by rw[gx];exact List.length_pos_iff.2 h0);have k:=Tryz.slices_Contains_string g o n c (zs.map str) (str x) w (by simp;omega) (by omega) (λj hj=>by
   have uZ:j<zs.length:=by simpa using hj
   rw[hc j (.string (str zs[j])) (by simp[uZ])]
   simp[uZ])
  rw[lL (by simp;omega)]at k;have e:Lib.containsS (zs.map str) (str x)=decide (x∈zs):=by
   rw[Bool.eq_iff_iff,Lib.containsS_iff,decide_eq_true_iff];constructor
   ·intro this;obtain⟨y,hy,he⟩:=mU.1 this;have h2:(str y).toList=(str x).toList:=by rw[he]
    rw[ay,ay]at h2;exact h2▸hy
   ·intro hx;exact mU.2 ⟨x,hx,rfl⟩
  rw[e]at k;exact k
def vz:Value:=.iface 211 (.agg #[])
def nR (t:Nm->Option (List UInt8)) (id:LB):Bool:=(t (az id)).isSome&&dX id
theorem Zm (O F n M:Nat) (t:Nm->Option (List UInt8)) (lab:Nat->Option Lb) (id:LB) (w:World) (hO:JE w O F) (h:Fs w F n M t lab) (ht:iZ t) (hlen:id.length<=1000) :
  Calls Tryz.prog 64 #[.pointer (some ⟨O,0,none⟩),.string (str id)] w λe w'=>e = .returned (if nR t id then vz else .nilIface)/\Fr [] w w':=by
 obtain⟨b1,jR⟩:=ah ((t (az id)).isSome);obtain⟨b2,mF⟩:=ah (dX id);obtain⟨PS,CH⟩:=ah (str (az id));obtain⟨IS,qz⟩:=ah (str id);have hP:=λw'=>SM id w' (by omega)
 have hH:=λw'=>Au id w' (by omega)
 have kM:=h.few;have hL:∀wr,Fr [] w wr->Calls Tryz.prog 99 #[.pointer (some ⟨F,0,none⟩),.string PS] wr λe w'=>∃a N,e = .returned (.slice a N N)/\Fr [] wr w'/\∀w2,Fr [] w' w2->Calls Tryz.prog 52 #[.slice a N N,.string PS] w2 λe fK=>e = .returned (.bool b1)/\fK=w2:=λwr f=>by
  rw[CH];refine (SJ F n M t lab (az id) wr (h.fr f (by simp))).mono λe w' ⟨v,ss,he,hl,hk,⟨a,hv,hc,_⟩,f'⟩=>⟨a,(ss.filter λs=>Lib.hasPrefix s (az id)).length,he.trans (congrArg Ending.returned hv),f',λw2 f2=>?_⟩
  have hm:decide (az id∈ss.filter λs=>Lib.hasPrefix s (az id))=b1:=by rw[jR,Bool.eq_iff_iff,decide_eq_true_iff,C8,hl.2.2,<-Ov];exact⟨λk=>k.1,λk=>⟨k,by simp[Lib.hasPrefix]⟩⟩
  have k:=qr0 (ss.filter λs=>Lib.hasPrefix s (az id)) (az id) a _ (ss.filter λs=>Lib.hasPrefix s (az id)).length w2 rfl (bP (BN _ _) (by omega)) (hc.fr f2 (by simp));rw[hm]at k;exact k
 rw[<-CH,<-qz]at hP;rw[<-qz,<-mF]at hH;have fk:(if nR t id then vz else .nilIface)=(if (b1&&b2)=true then vz else .nilIface):=by rw[jR,mF];rfl
 rw[fk,<-qz];have oT:=λw' (f:Fr [] w w')=>qxd O F n M t lab w' (by obtain⟨m,hb⟩:=hO;exact⟨m,f.ag hb (by simp)⟩) (h.fr f (by simp)) ht
 obtain⟨m,hb⟩:=hO;have c0:=(cell_of hb 0).trans (show _=some (Value.pointer (some ⟨F,0,none⟩)) from rfl);have s0:∀x,(sup [] w.drew x).cell? ⟨O,0,none⟩=some (Value.pointer (some ⟨F,0,none⟩)):=λx=>(gB [] w.drew x).cell (show w.drew.cell? _=_ from c0) (by simp)
 have H:=aA hP hH hL oT;clear hP hH hL oT jR mF CH qz h ht hb fk kM;go_enter Tryz.func64,Tryz.ntmps64;go_upto_region 1 with fail;refine lK 14 [(false,0),(false,1),(false,2),(false,3),(false,4),(false,7),(true,5),(true,6),(true,8),(true,9),(false,10),(false,11),(true,12),(false,13)] [] (by kernel_rfl) (by kernel_rfl) (λ_ _ d _ _ h=>by cases d<;>exact h) ?_;simp only[kQ];refine eD 6 rfl ?_;simp only[cT];repeat (go_big_quiet_step (fail))
 refine wpQuiet_nil ?_;clear s0 c0;refine jb rfl ?_;intro XX gY;go_wp2_with (go_at_call 66;refine (H.o0 _).mono ?_;rintro e w1 ⟨rfl,f1⟩);refine gY.out _ _ f1 ?_;clear gY XX;have H1:=af ((Fr.aB [] w).trans f1);clear f1;refine jb rfl ?_;intro XX gY;go_wp2_with (go_at_call 99;refine (H.o2 _ H1.out).mono ?_;rintro e w2 ⟨a,N,rfl,f2,hc⟩);refine gY.out _ _ f2 ?_;clear gY XX;have H2:=ai (H1.out.trans f2) hc;clear f2 hc;refine jb rfl ?_;intro XX gY;go_wp2_with (go_at_call 66;refine (H.o0 _).mono ?_;rintro e w3 ⟨rfl,f3⟩);refine gY.out _ _ f3 ?_;clear gY XX;have H3:=af f3;clear f3;refine jb rfl ?_;intro XX gY;go_wp2_with (go_at_call 52;refine (H2.l1 _ H3.out).mono ?_;rintro e w4 ⟨rfl,hw⟩;obtain rfl:=hw.symm);refine gY.out _ _ (Fr.refl _ _) ?_;clear gY XX;cases b1
 ·refine eD 2 rfl ?_;simp only[cT];repeat (go_big_quiet_step (fail))
  refine wpQuiet_nil ?_;refine Kc rfl ?_;simp only[Act.put,pS,nV,pQ];refine eD 1 rfl ?_;simp only[cT];repeat (go_big_quiet_step (fail))
  refine wpQuiet_nil ?_;refine j4 ?_;have HF:=af (H2.o0.trans H3.out);go_wp2_with (go_at_call 117;refine (H.l3 _ HF.out).mono ?_;rintro e w5 ⟨rfl,f5⟩;have H5:=af f5;clear f5);go_loopg [30] 0 (λk s30 wr=>s30 = .int .i64 0/\wr=w5);case atStart=>exact⟨rfl,rfl⟩
  case round=>
  obtain⟨rfl,rfl⟩:=hrel;go_wp2;go_ret;exact⟨rfl,HF.out.trans H5.out⟩
 ·refine eD 2 rfl ?_;simp only[cT];repeat (go_big_quiet_step (fail))
  refine wpQuiet_nil ?_;refine jb rfl ?_;intro XX gY;go_wp2_with (go_at_call 116;refine (H.o1 _).mono ?_;rintro e w4 ⟨rfl,f4⟩);refine gY.out _ _ f4 ?_;clear gY XX;have HF:=af ((H2.o0.trans H3.out).trans f4);clear f4;cases b2
  ·skip;refine eD 1 rfl ?_;simp only[cT];repeat (go_big_quiet_step (fail))
   refine wpQuiet_nil ?_;refine j4 ?_;go_wp2_with (go_at_call 117;refine (H.l3 _ HF.out).mono ?_;rintro e w5 ⟨rfl,f5⟩;have H5:=af f5;clear f5);go_loopg [30] 0 (λk s30 wr=>s30 = .int .i64 0/\wr=w5);case atStart=>exact⟨rfl,rfl⟩
   case round=>
   obtain⟨rfl,rfl⟩:=hrel;go_wp2;go_ret;exact⟨rfl,HF.out.trans H5.out⟩
  ·skip;refine eD 1 rfl ?_;simp only[cT];repeat (go_big_quiet_step (fail))
   refine wpQuiet_nil ?_;refine j4 ?_;go_wp2;go_ret;exact⟨rfl,HF.out⟩
set_option maxRecDepth 100000
theorem Bj (w:World) (o:Obj):(w.alloc o).heap.size=w.heap.size+1:=by simp
def dT (n:Nat):List UInt8:=([115,116,101,109,109,97,32,60,115,116,101,109,109,97,64,108,111,99,97,108,62,32]++Lib.decDigits n)++[32,43,48,48,48,48]
theorem ZP (n:Nat) (hn:n<=140737488355328):(Lib.decDigits n).length<=16:=obj.O5 16 n (by decide) (Io hn (by decide))
theorem Ps (n:Nat) (hn:n<=140737488355328):(dT n).length<=44:=by have:=ZP n hn;simp only[dT,aG,dw,jK];omega
def rS (ps:List (List UInt8)) (pa:OA) (n:Nat) (msg:LB):List Value:=[.iface 197 (.agg #[.slice none 0 0]),kN (pk.aO 2 []) pa ps.length (dT n) (dT n) msg]
def rT (ps:List (List UInt8)) (n:Nat) (msg:LB):List (List UInt8):=[pk.aO 2 [],pk.aO 1 (bq (pk.aO 2 []) ps (dT n) (dT n) msg)]
theorem nU (k:Int) (bs:LB):(pk.aO k bs).length=40:=by unfold pk.aO;rw[pk.nu,sha.Ug]
theorem qul (ps:List (List UInt8)) (pa:OA) (n:Nat) (msg:LB) (w:World) (hn:n<=140737488355328) (hp:∀p∈ps,p.length<=100) (DQ:ps.length<=9) (hl:msg.length<=100) (hcs:Cs w pa (ps.map λp=>Value.string (str p))) (eH:obj.Pw w)
  (dW:(bq (pk.aO 2 []) ps (dT n) (dT n) msg).length<=140737488355200) :
  Calls Tryz.prog 21 #[.slice none 0 0,.slice pa ps.length ps.length,.string (str msg),.int .i64 (n:Nat)] w λe w'=>∃M la ia lc ic,e = .returned (.pointer (some ⟨M,0,none⟩))/\jT w' M la ia lc ic 2 (rS ps pa n msg) (rT ps n msg)/\Fr [] w w'/\(w.heap.size<=M/\(∀x∈ag la,w.heap.size<=x)/\∀x∈ag ia,w.heap.size<=x):=by
 obtain⟨D,hD⟩:=ah (str (Lib.decDigits n));have hDs:D.size<=16:=by rw[hD,aj];exact ZP n hn
 have h2:=λw' h=>obj.Y2 n hn w' h
 rw[<-hD]at h2;have fE:({ data:=#[115,116,101,109,109,97,32,60,115,116,101,109,109,97,64,108,111,99,97,108,62,32] }:ByteArray)++D++({ data:=#[32,43,48,48,48,48] }:ByteArray)=str (dT n):=by rw[hD,show ({ data:=#[115,116,101,109,109,97,32,60,115,116,101,109,109,97,64,108,111,99,97,108,62,32] }:ByteArray)=str [115,116,101,109,109,97,32,60,115,116,101,109,109,97,64,108,111,99,97,108,62,32] from rfl,show ({ data:=#[32,43,48,48,48,48] }:ByteArray)=str [32,43,48,48,48,48] from rfl,gH,gH];rfl
 have nj:=@run_makeMap Tryz.prog;have H:=eW h2 fE hcs eH hp hl dW;clear h2 fE hD hcs eH hp hl dW;go_enter Tryz.func21,Tryz.ntmps21;go_upto_block 0 with fail;obtain⟨w1,aJ⟩:=ah (((w.alloc (Obj.cells #[Value.slice none 0 0,Value.slice none 0 0] 70)).alloc (Obj.map #[] 0)).alloc (Obj.cells #[Value.slice none 0 0,Value.map (some (w.heap.size+1))] 124));have Gs:w1.heap[w.heap.size]?=some (.cells #[.slice none 0 0,.slice none 0 0] 70 (0,0)):=by rw[aJ];exact alloc_old _ (alloc_old _ (aV w _))
 have QL:w1.heap[w.heap.size+1]?=some (.map #[] 0):=by rw[aJ];exact alloc_old _ (by have h:=aV (w.alloc (Obj.cells #[Value.slice none 0 0,Value.slice none 0 0] 70)) (Obj.map #[] 0);rw[Bj]at h;exact h)
 have hbD:w1.heap[w.heap.size+1+1]?=some (.cells #[.slice none 0 0,.map (some (w.heap.size+1))] 124 (0,0)):=by rw[aJ];have h:=aV ((w.alloc (Obj.cells #[Value.slice none 0 0,Value.slice none 0 0] 70)).alloc (Obj.map #[] 0)) (Obj.cells #[Value.slice none 0 0,Value.map (some (w.heap.size+1))] 124);rw[Bj,Bj]at h;exact h
 have f1:Fr [] w w1:=by rw[aJ];exact (((Fr.refl [] w).alloc _).alloc _).alloc _
 have H1:=aA f1 Gs QL hbD;rw[<-aJ];clear aJ Gs QL hbD f1 nj;go_wp2;go_loopg [26] 0 (λk s26 wr=>s26 = .int .i64 0/\wr=w1);case atStart=>exact⟨rfl,rfl⟩
 case round=>
 obtain⟨rfl,rfl⟩:=hrel;go_upto_region 19 with (go_at_call 55;refine (H.o0 _ (H.o3.fr H1.o0)).mono ?_;rintro e w2 ⟨rfl,f2⟩;have H2:=af f2;clear f2);rw[H.o1];have M2:jT w2 w.heap.size none none 0 0 0 [] []:=⟨H2.out.ag H1.o1 (by simp),oE _ _ _ _,oE _ _ _ _,by simp[ag],by simp[ag],by simp[ag]⟩;have HM:=af (qtl w.heap.size (w.heap.size+1+1) (w.heap.size+1) 0 none none 0 0 0 [] [] w2 M2 (by decide) (H.o3.fr (H1.o0.trans H2.out)) (H2.out.ag H1.l3 (by simp)) (H2.out.ag H1.o2 (by simp)));clear M2;go_wp2_with (first
  | (go_at_call 56;refine HM.out.mono ?_;rintro e w3 ⟨rfl,JN,f3,ux⟩;obtain⟨la,ia,lc,ic,m3,eh,hia⟩:=ux.made;have F3:=af (((H1.o0.trans H2.out).trans f3).step ux.fr (λx hx=>.inr (by simp[ag]at hx;rw[hx];exact ax _)));have H3:=aA m3 eh hia f3;clear f3 ux m3 eh hia)
  | (go_at_call 54;refine (qw7 (pk.aO 2 []) ps pa (dT n) (dT n) msg w.heap.size la ia lc ic _ _ _ w3 (by rw[nU];decide) H.o4 DQ (bP (Ps n hn) (by decide)) (bP (Ps n hn) (by decide)) H.o5 (H.o2.fr F3.out (by simp)) H.l6 H3.out.1 (by decide) (H.o3.fr F3.out)).mono ?_;rintro e w4 ⟨rfl,X8,f4,FN⟩;have H4:=ai f4 FN;clear f4 FN))
 go_ret;obtain⟨la2,ia2,lc2,ic2,m4,n4,n5⟩:=H4.out.2.made;have hs:=(H1.o0.trans H2.out).size;have h5:=H3.out.2.2.2.size;have h6:=(F3.out.trans H4.out.1).size;have j6:∀x∈ag la,w.heap.size<=x:=λx hx=>by
  rcases H3.out.2.1 x hx with k|k
  ·simp[ag]at k
  ·omega
 have mJ:∀x∈ag ia,w.heap.size<=x:=λx hx=>by
  rcases H3.out.2.2.1 x hx with k|k
  ·simp[ag]at k
  ·omega
 refine⟨_,la2,ia2,lc2,ic2,rfl,m4,(F3.out.trans H4.out.1).step H4.out.2.fr (λx hx=>.inr ?_),ax _,λx hx=>?_,λx hx=>?_⟩
 ·simp only[eX,jo]at hx;rcases hx with hx|hx|hx
  ·omega
  ·exact j6 x hx
  ·exact mJ x hx
 ·rcases n4 x hx with k|k
  ·exact j6 x k
  ·omega
 ·rcases n5 x hx with k|k
  ·exact mJ x k
  ·omega
set_option maxRecDepth 100000
theorem zhw (O F n M:Nat) (t:Nm->Option (List UInt8)) (lab:Nat->Option Lb) (id:LB) (w:World) (hO:JE w O F) (h:Fs w F n M t lab) (ht:iZ t) (hlen:id.length<=1000) :
  Calls Tryz.prog 25 #[.pointer (some ⟨O,0,none⟩),.string (str id)] w λe w'=>e = .returned (.bool (nR t id))/\Fr [] w w':=by
 have hf:=Zm O F n M t lab id w hO h ht hlen;obtain⟨IS,qz⟩:=ah (str id);obtain⟨b,hb⟩:=ah (nR t id);rw[<-qz,<-hb]at hf;rw[<-qz,<-hb];cases b
 ·have gK:Calls Tryz.prog 64 #[.pointer (some ⟨O,0,none⟩),.string IS] w λe w'=>e = .returned .nilIface/\Fr [] w w':=hf
  have H:=af gK;clear hf gK hO h ht qz hb;go_enter Tryz.func25,Tryz.ntmps25;go_wp2_with (go_at_call 64;go_loud (refine H.out.mono ?_;rintro e w1 ⟨rfl,f1⟩;have H1:=af f1;clear f1));go_ret;exact⟨rfl,H1.out⟩
 ·have gK:Calls Tryz.prog 64 #[.pointer (some ⟨O,0,none⟩),.string IS] w λe w'=>e = .returned (.iface 211 (.agg #[]))/\Fr [] w w':=hf
  have H:=af gK;clear hf gK hO h ht qz hb;go_enter Tryz.func25,Tryz.ntmps25;go_wp2_with (go_at_call 64;go_loud (refine H.out.mono ?_;rintro e w1 ⟨rfl,f1⟩;have H1:=af f1;clear f1));go_ret;exact⟨rfl,H1.out⟩
theorem Sr (O F n M M':Nat) (t:Nm->Option (List UInt8)) (lab:Nat->Option Lb) (k:Nat) (a:OA) (cap:Nat) (body:LB) (w:World) (hO:JE w O F) (h:Fs w F n M t lab) (tH:iZ t) (hk:1<=k/\k<=4) (hb:lib.Rd w a cap body) (hl:body.length<=16000) (eH:obj.Pw w)
  (ht:t (az (pk.aO k body))=none) (ye:t (tmps++pk.aO k body)=none) (yo:M<=M') (qy:6*body.length+250<=M') (iV:M'<=100000) (dh:6*body.length+250+(n+1)*M<=1048576) (hn:n<880) :
  Calls Tryz.prog 7 #[.pointer (some ⟨O,0,none⟩),.int .i64 (k:Nat),.slice a body.length cap] w λe w'=>e = .returned (.tuple #[.string (str (pk.aO k body)),.int .i64 0])/\∃av r,trip.RQ (obj.header k body.length++body) r/\Fs w' F (n+2) M' (aS t (az (pk.aO k body)) (some (defl.aY 2 r (obj.header k body.length++body)))) av/\dS w lab w' av:=by
 obtain⟨K,hK⟩:=ah (str (obj.eT k));have hK4:K.toList≠[]:=by rw[hK,ay];rcases (by omega:k=1\/k=2\/k=3\/k=4) with rfl|rfl|rfl|rfl<;>decide
 have hK5:K.toList.isEmpty=false:=by simpa using hK4
 have Vr:((body.length:Nat):Int)<=65536:=by omega
 have jP:=obj.Pp (k:Nat);rw[<-hK]at jP;obtain⟨L,hL⟩:=ah body.length;obtain⟨z,hz⟩:=ah (str (pk.aO k body));have hid:=λw' (f:Fr [] w w')=>obj.J1 (k:Nat) a cap body w' (hb.fr f) (by omega) (eH.fr f)
 have Gb:=λw' (f:Fr [] w w')=>zhw O F n M t lab (pk.aO k body) w' (by obtain⟨m,hb⟩:=hO;exact⟨m,f.ag hb (by simp)⟩) (h.fr f (by simp)) tH (by rw[nU];decide)
 have tk:=λw' (f:Fr [] w w')=>qyn F n M M' t lab k a cap body w' (h.fr f (by simp)) hk (hb.fr f) hl (eH.fr f) ht ye yo qy iV dh hn
 have mg:nR t (pk.aO k body)=false:=by unfold nR;rw[ht];rfl
 rw[mg,<-hz]at Gb;rw[<-hz,<-hL]at hid;rw[<-hL]at hl Vr;rw[<-hz,<-hL]at tk;rw[<-hz,<-hL];obtain⟨m,wa⟩:=hO;have c0:=(cell_of wa 0).trans (show _=some (Value.pointer (some ⟨F,0,none⟩)) from rfl);have z0:=aT wa 0;have H:=eW jP hid Gb tk hL hz wa;clear jP hid Gb tk hL hz wa h tH hk hb eH ht ye yo qy iV dh hn mg hK;go_enter Tryz.func7,Tryz.ntmps7;go_upto_region 5 with (first
  | (go_at_call 23;refine (H.o0 _).mono ?_;rintro e w1 ⟨rfl,f1⟩;have H1:=af f1;clear f1)
  | (go_at_call 24;refine (H.o1 _ H1.out).mono ?_;rintro e w2 ⟨rfl,f2⟩;have H2:=af (H1.out.trans f2);clear f2)
  | (go_at_call 25;refine (H.o2 _ H2.out).mono ?_;rintro e w3 ⟨rfl,f3⟩;have H3:=af (H2.out.trans f3);clear f3))
 have FP:=H3.out.ag H.l6 (by simp);have c3:=(cell_of FP 0).trans (show _=some (Value.pointer (some ⟨F,0,none⟩)) from rfl);have z3:=aT FP 0;clear FP c0 z0;go_wp2_with (go_at_call 26;go_loud (refine (H.o3 _ H3.out).mono ?_;rintro e w4 ⟨rfl,av,r,hrq,zt,aW⟩;have H4:=aq hrq zt ((dS.refl w lab H3.out).trans aW);clear hrq zt aW));go_ret2;exact⟨rfl,av,r,H4.out⟩
set_option maxRecDepth 100000
theorem zch (O F n M:Nat) (t:Nm->Option (List UInt8)) (lab:Nat->Option Lb) (id:LB) (w:World) (hO:JE w O F) (h:Fs w F n M t lab) (hlen:id.length<=1000) (eH:obj.Pw w) :
  Calls Tryz.prog 434 #[.agg #[],.pointer (some ⟨O,0,none⟩),.string (str id)] w (dR w (jM t id)):=by
 have eY:=λw' (f:Fr [] w w')=>xW F n M t lab id w' (h.fr f (by simp)) (by omega) (eH.fr f)
 obtain⟨P,hP⟩:=ah (jM t id);rw[<-hP]at eY ⊢;obtain⟨IS,qz⟩:=ah (str id);rw[<-qz]at eY ⊢;obtain⟨m,wa⟩:=hO;have H:=ai eY wa;clear eY h eH hP qz;have f1:Fr [] w (w.alloc (.cells #[] 211)):=(Fr.refl [] w).alloc _;have FQ:=f1.ag wa (by simp);have c0:=(cell_of FQ 0).trans (show _=some (Value.pointer (some ⟨F,0,none⟩)) from rfl);have z0:=aT FQ 0;clear wa FQ;go_enter Tryz.func434,Tryz.ntmps434;go_wp2_with (go_at_call 435;go_loud (refine (H.o0 _ f1).mono ?_;rintro e w2 ⟨ao,rfl,r2,n2,f2⟩;have H2:=aq r2 n2 (f1.trans f2);clear r2 n2 f2));go_ret3;exact⟨ao,rfl,H2.o0,λx hx=>by have:=H2.o1 x hx;have:=f1.size;omega,H2.l2⟩
theorem za8 (O F n M:Nat) (t:Nm->Option (List UInt8)) (lab:Nat->Option Lb) (id:LB) (w:World) (hO:JE w O F) (h:Fs w F n M t lab) (tH:iZ t) (hlen:id.length<=1000) (eH:obj.Pw w) (hh:nR t id=true) :
  Calls Tryz.prog 84 #[.pointer (some ⟨O,0,none⟩),.string (str id)] w (dR w (jM t id)):=by
 have uv:∀w:World,(Instr.typeAssert (.iface 211 (.agg #[])) 144 216 true).run Tryz.prog w = .ok (.tuple #[.agg #[.string ⟨#[]⟩],.bool false]) w:=λ_=>by kernel_rfl
 have hmg:∀(f:Nat) (w:World),(method (f+1) 211 (.agg #[]) "stemma/odb.get").run Tryz.prog w = .ok (434,(.agg #[])) w:=λ_ _=>by kernel_rfl
 have D4:=λw'=>Au id w' (by omega)
 have mF:dX id=true:=by unfold nR at hh;simp only[kI]at hh;exact hh.2
 rw[mF]at D4;have xA:∀w',Fr [] w w'->Calls Tryz.prog 64 #[.pointer (some ⟨O,0,none⟩),.string (str id)] w' λe fK=>e = .returned (.iface 211 (.agg #[]))/\Fr [] w' fK:=λw' f=>by have k:=Zm O F n M t lab id w' (by obtain⟨m,hb⟩:=hO;exact⟨m,f.ag hb (by simp)⟩) (h.fr f (by simp)) tH hlen;rw[hh]at k;exact k
 have Gf:=λw' (f:Fr [] w w')=>zch O F n M t lab id w' (by obtain⟨m,hb⟩:=hO;exact⟨m,f.ag hb (by simp)⟩) (h.fr f (by simp)) hlen (eH.fr f)
 obtain⟨P,hP⟩:=ah (jM t id);obtain⟨IS,qz⟩:=ah (str id);rw[<-hP]at Gf ⊢;rw[<-qz]at Gf xA D4 ⊢;have H:=aq D4 xA Gf;clear D4 xA Gf hP qz h tH eH hh mF hO;go_enter Tryz.func84,Tryz.ntmps84;go_wp2_with (first
  | (go_at_call 116;refine (H.o0 _).mono ?_;rintro e w1 ⟨rfl,f1⟩;have H1:=af f1;clear f1)
  | (go_at_call 64;refine (H.o1 _ H1.out).mono ?_;rintro e w2 ⟨rfl,f2⟩;have H2:=af (H1.out.trans f2);clear f2)
  | (go_at_call 434;go_loud (refine (H.l2 _ (H2.out.alloc _)).mono ?_);rintro e w3 ⟨ao,rfl,r3,n3,f3⟩;have H3:=aq r3 n3 ((H2.out.alloc _).trans f3);clear r3 n3 f3))
 go_ret3;exact⟨ao,rfl,H3.o0,λx hx=>by have h1:=H3.o1 x hx;have h2:=H2.out.size;have h3:=Bj w2 (Obj.cells #[.string ⟨#[]⟩] 216);omega,H3.l2⟩
set_option maxRecDepth 100000
def Oq (w:World) (k:Nat) (bs:LB) (e:Ending) (w':World):Prop:=
 ∃ao,e = .returned (.tuple #[.int .i64 (k:Nat),.slice ao bs.length bs.length,.bool true])/\lib.Rd w' ao bs.length bs/\(∀x∈ag ao,w.heap.size<=x/\x<w'.heap.size)/\Fr [] w w'
theorem PO (r O R F n M:Nat) (t:Nm->Option (List UInt8)) (lab:Nat->Option Lb) (id:LB) (w:World) (hr:zX w r O R F) (h:Fs w F n M t lab) (tH:iZ t) (hlen:id.length<=1000) (eH:obj.Pw w) (hh:nR t id=true) (k:Nat) (bs:LB) (hl:jM t id=(k,bs,0)) :
  Calls Tryz.prog 36 #[.pointer (some ⟨r,0,none⟩),.string (str id)] w (Oq w k bs):=by
 have hg:=za8 O F n M t lab id w hr.store h tH hlen eH hh;rw[hl]at hg;have c0:=(cell_of hr.box 0).trans (show _=some (Value.pointer (some ⟨O,0,none⟩)) from rfl);have z0:=aT hr.box 0;obtain⟨IS,qz⟩:=ah (str id);rw[<-qz]at hg ⊢;have H:=af hg;clear hg qz hr h tH eH hh hl;go_enter Tryz.func36,Tryz.ntmps36;go_wp2_with (go_at_call 84;go_loud (refine H.out.mono ?_;rintro e w2 ⟨ao,rfl,r2,n2,f2⟩;have H2:=aq r2 n2 f2;clear r2 n2 f2));go_ret3;exact⟨ao,rfl,H2.out⟩
set_option maxRecDepth 100000
theorem R9 (r:Nat) (id:LB) (k:Nat) (bs:LB) (w:World) (Q:Value->World->Prop) (hG:Calls Tryz.prog 36 #[.pointer (some ⟨r,0,none⟩),.string (str id)] w (Oq w k bs))
  (hP:∀w' ao,Fr [] w w'->lib.Rd w' ao bs.length bs->Calls Tryz.prog 57 #[.int .i64 (k:Nat),.slice ao bs.length bs.length] w' λe fK=>∃v,e = .returned (.tuple #[v,.int .i64 0])/\Q v fK/\Fr [] w' fK) :
  Calls Tryz.prog 83 #[.func (.func 36) #[.pointer (some ⟨r,0,none⟩)] #[],.string (str id)] w λe w'=>∃v,e = .returned (.tuple #[v,.int .i64 0])/\Q v w'/\Fr [] w w':=by
 have hq:∀w:World,(binOp .eql 165 (.func (.func 36) #[.pointer (some ⟨r,0,none⟩)] #[]) .nilFunc).run Tryz.prog w = .ok (.bool false) w:=λ_=>by kernel_rfl
 obtain⟨IS,qz⟩:=ah (str id);rw[<-qz]at hG ⊢;have H:=ai hG hP;clear hG hP qz;go_enter Tryz.func83,Tryz.ntmps83;go_wp2_with (first
  | (go_at_call 36;go_loud (refine H.o0.mono ?_;rintro e w2 ⟨ao,rfl,r2,n2,f2⟩;have H2:=ai r2 f2;clear r2 n2 f2))
  | (go_at_call 57;go_loud (refine (H.l1 _ ao H2.l1 H2.o0).mono ?_;rintro e w3 ⟨v3,rfl,q3,f3⟩;have H3:=ai q3 f3;clear q3 f3)))
 go_ret2;exact⟨v3,rfl,H3.o0,H2.l1.trans H3.l1⟩
end ob

end Go.Proofs.YticadfhpolhkeaaGreatDoor