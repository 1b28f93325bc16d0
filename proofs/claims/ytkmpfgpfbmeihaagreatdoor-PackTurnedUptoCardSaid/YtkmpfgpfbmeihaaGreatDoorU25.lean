/-
  Texts of this proof, one behind the other: OWhole, ORight, RWords, RSha, RHex.
-/
import Derived.Test.YtkmpfgpfbmeihaaGreatDoorU24
set_option maxHeartbeats 16000000
set_option maxRecDepth 100000
set_option linter.unusedVariables false
set_option linter.unusedSimpArgs false
namespace Go.Proofs.YtkmpfgpfbmeihaaGreatDoor
namespace os
open Go Go.RowKit lib bm pk huf
set_option maxRecDepth 100000
theorem Uv {α:Type} (f:α->Nat):∀(r l:List α),(r.Pairwise λa b=>a≠b)->(∀x∈r,x∈l)->(r.map f).sum<=(l.map f).sum
 | [],l,_,_=>by simp
 | x::t,l,hp,hs=>by
  rw[tV]at hp;obtain⟨a,b,rfl⟩:=List.append_of_mem (hs x (by simp));have h1:=Uv f t (a++b) hp.2 (λy hy=>by
   have h2:=hs y (DH _ hy)
   rcases jy.1 h2 with h3|h3
   ·exact Fu _ h3
   ·rcases gw.1 h3 with h4|h4
    ·exact absurd h4.symm (hp.1 y hy)
    ·exact KA _ h4)
  simp only[gW,gB,Dr,List.sum_append_nat]at h1 ⊢;omega
def yx (w:World) (l:List pk.Obj) (e:Ending) (w':World):Prop:=
 ∃os out di dO,Ordered l os/\os.length<=l.length/\(∀o∈os,Da o)/\EN os/\Pk os (oB os.length) out di dO/\di.length=os.length/\out.length<=1000000/\aD w (out++sha.dY out) e w'/\∃a n c vs,e = .returned (.slice a n n)/\w'.ownsRow 0 5 1 (.slice a n c) n vs
theorem zau {o:pk.Obj} (h:Da o):1<=o.kind.toNat/\o.kind.toNat<=4/\o.body.length<=65536:=by
 have h1:=h.1;unfold obj.ef at h1;refine⟨?_,?_,h.2.1⟩<;>
 ·by_cases a1:o.kind=1
  ·rw[a1];decide
  ·by_cases a2:o.kind=2
   ·rw[a2];decide
   ·by_cases a3:o.kind=3
    ·rw[a3];decide
    ·by_cases a4:o.kind=4
     ·rw[a4];decide
     ·rw[if_neg a1,if_neg a2,if_neg a3,if_neg a4]at h1;exact absurd rfl h1
def yv (w:World) (l1:List pk.Obj) (e:Ending) (w':World):Prop:=∃a1 c1 sV,e = .returned (.slice a1 sV.length c1)/\jM w' a1 c1 sV/\Fr [] w w'/\sV.map (·.1)=l1
theorem qv1 (N:Nat) (hN:N<=200) (ow:xr N) (la:Option Addr) (lc n:Nat) (l1:List pk.Obj) (mm:Int) (w:World) (hr:Calls Tryz.prog 31 #[.slice la n lc] w (yv w l1)) (ku:l1.length<=200) (hdd:∀r:List pk.Obj,(r.Pairwise λa b=>a≠b)->(∀o∈r,o∈l1)->r.length<=N/\(r.map λo=>6*o.body.length+130).sum<=900000) (jz:∀o∈l1,Da o)
  (hm:w.cell? ⟨0,0,none⟩=some (.int .i64 mm)) :
  Calls Tryz.prog 15 #[.slice la n lc,.slice none 0 0] w (yx w l1):=by
 have lf:=λw'=>run_makeMap (P:=Tryz.prog) 75 w'
 have hcv:∀w':World,(convert 23 23 (.slice (some ⟨w'.heap.size,0,none⟩) 8 8)).run Tryz.prog (w'.alloc (.cells #[.int .u8 80,.int .u8 65,.int .u8 67,.int .u8 75,.int .u8 0,.int .u8 0,.int .u8 0,.int .u8 2] 5)) = .ok (.slice (some ⟨w'.heap.size,0,none⟩) 8 8) (w'.alloc (.cells #[.int .u8 80,.int .u8 65,.int .u8 67,.int .u8 75,.int .u8 0,.int .u8 0,.int .u8 0,.int .u8 2] 5 (8,9))):=λw'=>Lib.run_convert_bytes_const (P:=Tryz.prog) w' 23 5 #[.int .u8 80,.int .u8 65,.int .u8 67,.int .u8 75,.int .u8 0,.int .u8 0,.int .u8 0,.int .u8 2] 8 8 Tryz.underlying23 Tryz.underlying5
 have NY:=λa1 c1 sV w1 (hO:jM w1 a1 c1 sV) (he:sV.map (·.1)=l1)=>Ve N (by omega) ow a1 c1 sV w1 hO (by rw[<-cN (f:=(·.1)),he];omega) (by rw[he];exact λr hr=>(hdd r (hr.ne.imp λ{x y} h e=>h (by rw[e])) hr.sub).1) (λm jA=>(jz m.1 (by rw[<-he];exact yQ jA)).2.1) (λm jA=>by
  have h1:=(jz m.1 (by rw[<-he];exact yQ jA)).2.2
  rw[<-h1]
  unfold pQ
  rw[eV,sha.sf])
 have H:=bJ hr ku jz hdd hm NY;clear hr ku jz hm NY hdd;go_enter Tryz.func15,Tryz.ntmps15;go_upto_region 2 with (first
  | (go_at_call 31;refine H.o0.mono ?_;rintro e w1 ⟨a1,c1,sV,rfl,hO1,f1,he1⟩;have H1:=au hO1 f1 he1;clear hO1 f1 he1)
  | (go_at_call 17;refine (H.l5 a1 c1 sV _ H1.o0 H1.l2).mono ?_;rintro e w2 ⟨a2,br,rfl,O2,n2,m2,f2,Wt,Ws⟩;have H2:=bJ O2 n2 m2 f2 Wt Ws;clear O2 n2 m2 f2 Wt Ws))
 obtain⟨n2,iJ⟩:=ah br.length;rw[<-iJ];obtain⟨P,w3,hP,gN,f23,q3⟩:∃P w3,P=w2.heap.size/\w3=w2.alloc (.cells #[.slice none 0 0,.slice a2 n2 n2,.slice none 0 0,.slice none 0 0] 74)/\Fr [] w2 w3/\w3.heap[P]?=some (.cells #[.slice none 0 0,.slice a2 n2 n2,.slice none 0 0,.slice none 0 0] 74 (0,0)):=⟨_,_,rfl,rfl,(Fr.refl [] w2).alloc _,bx w2 _⟩;have zT:=H1.o1.trans H2.out.2.2.2.1;have Yz:w.heap.size<=P:=by rw[hP];exact zT.size
 have zm:P<w3.heap.size:=lt_of_block q3;have zbE:n2<=200:=by have h1:=H2.out.2.2.2.2.2;have h2:=H.o1;have h3:=congrArg List.length H1.l2;rw[cN]at h3;omega
 rw[<-gN,<-hP];have l0:=cell_of q3 1;have p0:=cell_of q3 0;simp only[bw,aV,bN]at l0 p0;have H3:=bJ f23 zT q3 Yz iJ hP;clear gN hP f23 zT q3 iJ;have fx:(n2:Int)/16777216=0:=by omega
 have jY:(n2:Int)/65536=0:=by omega
 have jd:(n2:Int)/256=0:=by omega
 go_upto_region 3 with fail;clear l0 p0;have c8:Cs ((w3.alloc (.cells #[.int .u8 80,.int .u8 65,.int .u8 67,.int .u8 75,.int .u8 0,.int .u8 0,.int .u8 0,.int .u8 2] 5 (8,9))).alloc (.cells #[.int .u8 0,.int .u8 0,.int .u8 0,.int .u8 n2] 5)) (some ⟨w3.heap.size,0,none⟩) [.int .u8 80,.int .u8 65,.int .u8 67,.int .u8 75,.int .u8 0,.int .u8 0,.int .u8 0,.int .u8 2]:=by have:=pJ (.cells #[.int .u8 0,.int .u8 0,.int .u8 0,.int .u8 n2] 5) (bx w3 (.cells #[.int .u8 80,.int .u8 65,.int .u8 67,.int .u8 75,.int .u8 0,.int .u8 0,.int .u8 0,.int .u8 2] 5 (8,9)));exact .inr ⟨w3.heap.size,0,rfl,λj u hj=>by rw[cell_of this];simpa using hj⟩
 have c4:Cs ((w3.alloc (.cells #[.int .u8 80,.int .u8 65,.int .u8 67,.int .u8 75,.int .u8 0,.int .u8 0,.int .u8 0,.int .u8 2] 5 (8,9))).alloc (.cells #[.int .u8 0,.int .u8 0,.int .u8 0,.int .u8 n2] 5)) (some ⟨w3.heap.size+1,0,none⟩) [.int .u8 0,.int .u8 0,.int .u8 0,.int .u8 n2]:=by have:=bx (w3.alloc (.cells #[.int .u8 80,.int .u8 65,.int .u8 67,.int .u8 75,.int .u8 0,.int .u8 0,.int .u8 0,.int .u8 2] 5 (8,9))) (.cells #[.int .u8 0,.int .u8 0,.int .u8 0,.int .u8 n2] 5);rw[eZ]at this;exact .inr ⟨w3.heap.size+1,0,rfl,λj u hj=>by rw[cell_of this];simpa using hj⟩
 have fa:=((Fr.refl [] w3).alloc (.cells #[.int .u8 80,.int .u8 65,.int .u8 67,.int .u8 75,.int .u8 0,.int .u8 0,.int .u8 0,.int .u8 2] 5 (8,9))).alloc (.cells #[.int .u8 0,.int .u8 0,.int .u8 0,.int .u8 n2] 5);have HO:=aF c8 c4 (fa.ae H3.out.2.2.1 (by simp)) fa;clear c8 c4 fa;go_upto_region 4 with (at_builtin;refine Wo aq rfl _ _ rfl (some ⟨w3.heap.size,0,none⟩) 8 8 [.int .u8 80,.int .u8 65,.int .u8 67,.int .u8 75,.int .u8 0,.int .u8 0,.int .u8 0,.int .u8 2] rfl HO.o0 rfl (by decide) (by simp) (some ⟨w3.heap.size+1,0,none⟩) 4 4 [.int .u8 0,.int .u8 0,.int .u8 0,.int .u8 n2] rfl HO.o1 rfl (by decide) (by decide) (by decide) ?_;intro c5 w4 A4;have q4:=A4.fr.ae HO.o2 (by simp);have cc:=cell_of q4 0;have zz:=aO q4 0;simp only[bw,aV]at cc;have HA:=ak A4 q4;clear A4 q4);clear cc zz fx jY jd;obtain⟨G,hG⟩:=ah (w3.heap.size+1+1);obtain⟨w5,mR⟩:=ah (w4.setCell ⟨P,0,none⟩ (.slice (some ⟨w3.heap.size+1+1,0,none⟩) 12 c5));rw[<-mR,<-hG];have q5:w5.heap[P]?=some (.cells #[.slice (some ⟨G,0,none⟩) 12 c5,.slice a2 n2 n2,.slice none 0 0,.slice none 0 0] 74 (0,0)):=by rw[mR,hG];exact aX HA.l1 _
 have f45:Fr [P] w4 w5:=by rw[mR];exact (Fr.refl [P] w4).setCell (by simp) _
 have f5:Fr [P] w2 w5:=(((H3.out.1.trans HO.l3).trans HA.o0.fr).mono (by simp)).trans f45;have hGP:P<G:=by omega
 have uE:w5.ownsRow 0 5 1 (.slice (some ⟨G,0,none⟩) 12 c5) 12 ((oB n2).map bv):=by
  have h1:=HA.o0.own;rw[eZ,eZ,<-hG]at h1;have h2:(oB n2).map bv=[.int .u8 80,.int .u8 65,.int .u8 67,.int .u8 75,.int .u8 0,.int .u8 0,.int .u8 0,.int .u8 2]++[.int .u8 0,.int .u8 0,.int .u8 0,.int .u8 n2]:=by
   unfold oB;simp only[gW,oJ,G7,vI];have h3:bv (UInt8.ofNat n2) = .int .u8 n2:=by unfold bv;rw[KJ (by omega)]
   rw[h3];rfl
  rw[h2];exact dr h1 f45 (λk hk=>by
   simp only[Value.ownBlock,eS]at hk
   simp only[iQ]
   omega)
 have hW5:WS w w5 P a2 n2 br (oB n2) [] [] (some ⟨G,0,none⟩) c5 none 0 none 0:=by
  obtain⟨O2,nn2,m2,f2,Wt,Ws⟩:=H2.out;obtain⟨h31,h32,h33,h34,h35,h36⟩:=H3.out;have BJ:∀y,y<w2.heap.size->y∉[P]:=λy hy=>by simp;omega
  refine⟨by rw[<-h35];exact q5,uE,v8 _ _ _ _,v8 _ _ _ _,λy hy=>?_,by simp[ae],by simp[ae],⟨O2.cs.fr f5 (λy hy=>BJ y (nn2 y hy).2),by rw[<-h35];exact aw _,by unfold maxLen;omega,λh=>by have:=O2.nil h;omega,λm jA=>(O2.rd m jA).gg f5 (λy hy=>BJ y ((m2 m jA).2 y hy).2)⟩,λy hy=>?_,λm jA y hy=>?_,h32.step f5 (λy hy=>.inr (by simp at hy;omega)),h34⟩
  ·simp[ae]at hy;rw[hy];exact⟨hGP,by simp[ae],by simp[ae]⟩
  ·have:=(nn2 y hy).2;omega
  ·have:=((m2 m jA).2 y hy).2;omega
 have H5:=af hW5;have e1:w5.cell? ⟨P,1,none⟩=some (.slice a2 n2 n2):=by rw[cell_of q5];rfl
 clear q5 f45 f5 uE hGP hW5 mR hG HO HA hcv zm;go_upto_region 5 with fail;generalize pg:World.alloc _ _=w6;obtain⟨B,hB⟩:=ah w5.heap.size;obtain⟨C,hC⟩:=ah (B+1);rw[<-hB,<-hC];have s6:Seen w6 B 0 (.map []):=by have h1:=qp7 w5;rw[<-hB]at h1;rw[<-pg];exact FC h1 ((Fr.refl [] _).alloc _) (by simp)
 have YN:w6.heap[C]?=some (.cells #[.map (some B)] 75 (0,0)):=by have h:=bx (w5.alloc (.map #[] 0)) (.cells #[.map (some w5.heap.size)] 75);rw[eZ,<-hB,<-hC]at h;rw[<-pg,<-hB];exact h
 have f6:Fr [] w5 w6:=by rw[<-pg];exact ((Fr.refl [] w5).alloc _).alloc _
 have e1:=f6.cell e1 (by simp);have m6:=cell_of YN 0;simp only[bw,aV]at m6;have hBC:C≠B:=by omega
 have H6:=aP s6 YN f6 hB hBC;clear s6 YN f6 pg hB hC lf hBC;go_wp2;go_loopg [46] n2 (λk s46 wr=>∃(i n0:Nat) (D:DataW Unit),s46 = .int .i64 (i:Nat)/\i+k=n2/\n0<=i/\Seen wr B n0 D/\Fr [B] w6 wr);case atStart=>exact⟨0,0,.map [],rfl,by omega,aw _,H6.o0,Fr.refl _ _⟩
 case round=>
  obtain⟨i,n0,D,rfl,bU,qg,hS,OL⟩:=hrel;have Y0:Fr [] w5 wr:=H6.o2.step OL (λy hy=>.inr (by simp at hy;rw[hy,H6.o3];exact aw _));have Pb:=H5.out.dF Y0;have m7:=OL.cell m6 (by simp;exact H6.l4);by_cases hi:i<n2
  ·obtain⟨k,rfl⟩:∃k,gk=k+1:=⟨gk-1,by omega⟩;obtain⟨m,Ek⟩:∃m,br[i]?=some m:=⟨br[i]'(by rw[<-H3.out.2.2.2.2.1];exact hi),bO _⟩;obtain⟨g,o,rfl,hc⟩:=Pb.hl.cell Ek;have Bl:m.1.id.length<=1000000:=by have h1:=H2.out.2.2.2.2.1.sub m.1 (yQ (iC Ek));rw[H1.l2]at h1;have h2:=(H.o2 m.1 h1).2.2;rw[<-h2];unfold pQ;rw[eV,sha.sf];decide
   obtain⟨⟨kd,bs,id,at_,crc⟩,b2,bc⟩:=m;simp only at Bl;have c0:=hc 0 (.int .i64 kd) rfl;have c1:=hc 1 (.slice b2 bs.length bc) rfl;have c2:=hc 2 (.string (str id)) rfl;have c3:=hc 3 (.int .i64 at_) rfl;have c4:=hc 4 (.int .u32 crc) rfl;simp only[jS]at c0;obtain⟨bl,bK⟩:=ah bs.length;rw[<-bK]at c1;have HL:=aP bU qg hS OL Bl;have zbF:n0<=200:=by omega
   clear bU qg hS OL Bl bK hc Y0 Pb Ek;go_upto_region 8 with (guard_target =~ wpList _ _ _ (⟨_,Op.store _ _ _,_,_,_,_⟩::_) _ _;refine wpList_store_row rfl 34 (.tmp 9) (.tmp 49) rfl wr.heap.size #[.int .i64 kd,.slice b2 bl bc,.string (str id),.int .i64 at_,.int .u32 crc] rfl rfl 34 _ (bx _ _) gL rfl (by kernel_rfl) ?_);clear c0 c1 c2 c3 c4;simp only[Act.put];generalize CO:World.setRow _ _ _=w7;obtain⟨Y,hY⟩:=ah wr.heap.size;rw[<-hY]at CO ⊢;have hy7:w7.heap[Y]?=some (.cells #[.int .i64 kd,.slice b2 bl bc,.string (str id),.int .i64 at_,.int .u32 crc] 34 (0,0)):=by rw[<-CO,hY];exact setRow_heap _ _ _ _ _ _ (bx _ _)
   have f7:Fr [] wr w7:=by rw[<-CO,hY];exact ((Fr.refl [] wr).alloc _).setRow (.inr (aw _)) _
   have y2:=cell_of hy7 2;have m7:=f7.cell m7 (by simp);simp only[bw,aV,bN]at y2;have H7:=ak (FC HL.out.2.2.1 f7 (by simp)) f7;clear hy7 f7 CO hY;go_wp2_with (at_mapUpdate;refine wpList_mapUpdate_own _ rfl _ _ _ 75 rfl 9 4 Cu UY (plainElem Tryz.prog 4) B n0 D rfl H7.o0 (by unfold maxLen;omega) _ _ (.string id) rfl rfl (Uk id HL.out.2.2.2.2) (.lit (.bool true)) [] (plainElem_bool Tryz.underlying4 true) ?_;intro w8 FW hg8;have H8:=ak FW ((Fr.refl [B] w7).grown hg8 (λk e=>.inl (by simp only[eS]at e;simp[e])));clear FW hg8);go_roundg k;case measure=>have:=HL.out.1;omega
   case rel=>exact⟨i+1,n0+1,_,by go_num,by have:=HL.out.1;omega,by have:=HL.out.2.1;omega,H8.o0,(HL.out.2.2.2.1.trans (H7.l1.mono (by simp))).trans H8.l1⟩
  ·have g0:decide ((i:Int)<(n2:Int))=false:=by simp;omega
   have g1:decide (i<n2)=false:=by simpa using hi
   have e1:=cell_of Pb.hW 1;simp only[bw,aV,bN]at e1;rw[<-H3.out.2.2.2.2.1]at e1;have Sv:EN (br.map (·.1)):=λo ho=>by have h1:=H2.out.2.2.2.2.1.sub o ho;rw[H1.l2]at h1;exact zau (H.o2 o h1)
   have FP:((br.map (·.1)).map λo=>6*o.body.length+130).sum<=900000:=(H.o3 _ (H2.out.2.2.2.2.1.lt.imp λ{a b} h e=>by rw[e]at h;omega) (λo ho=>by
    have h1:=H2.out.2.2.2.2.1.sub o ho
    rwa [H1.l2]at h1)).2
   have wN:∀m∈br,Da m.1:=λm jA=>by have h1:=H2.out.2.2.2.2.1.sub m.1 (yQ jA);rw[H1.l2]at h1;exact H.o2 m.1 h1
   have HR:=aF Pb Sv FP wN;clear bU qg hS OL Y0 Pb m7 hi Sv FP wN m6;go_upto_region 11 with (first
    | (go_at_call 31;refine (Vj _).mono ?_;rintro e w8 ⟨rfl,hw⟩;obtain rfl:=hw.symm)
    | (go_at_call 32;refine (VF _ _).mono ?_;rintro e w9 ⟨rfl,hw⟩;obtain rfl:=hw.symm))
   clear g0 g1;obtain⟨wv,Nv⟩:∃wv:World,wv=wr:=⟨_,rfl⟩;rw[<-Nv]at HR e1 ⊢;clear Nv;go_wp2;go_loopg [11,63] n2 (λk s11 s63 wq=>∃(i:Nat) (out:List UInt8) (di dO:List Nat) (ba:Option Addr) (bc:Nat) (aa:Option Addr) (ac:Nat) (da:Option Addr) (dc:Nat),s63 = .int .i64 (i:Nat)/\i+k=n2/\di.length=i/\Pk (br.map (·.1)) (oB n2) out di dO/\WS w wq P a2 n2 br out di dO ba bc aa ac da dc);case atStart=>exact⟨0,oB n2,[],[],_,_,_,_,_,_,rfl,by omega,rfl,.nil,HR.o0⟩
   case round=>
    obtain⟨i,out,di,dO,ba,bc,aa,ac,da,dc,rfl,bU,mW,rI,oS⟩:=hrel;have hlen:=zez HR.o1 rI (by have:=HR.o2;show 12+_<=_;omega);have sB:out.length<=1000000:=by
     have h1:=hlen.2;have h2:(((br.map (·.1)).take di.length).map λo=>6*o.body.length+130).sum<=((br.map (·.1)).map λo=>6*o.body.length+130).sum:=by
      conv=>rhs;rw[<-Fz di.length (br.map (·.1))]
      rw[gB,List.sum_append_nat];omega
     have h3:=HR.o2;have h4:(oB n2).length=12:=rfl;omega
    obtain⟨r1,r2,r3⟩:=zdp rI rfl;have N7:=H3.out.2.2.2.2.1;by_cases hi:i<n2
    ·obtain⟨k,rfl⟩:∃k,gk=k+1:=⟨gk-1,by omega⟩;have pb:=zc0 w wr P a2 n2 br out di dO ba bc aa ac da dc mm oS (by omega) r1.symm (by omega) (by omega) r3 HR.l3 (oS.fr.cell H.o4 (by simp));rw[mW]at pb;have HL:=aF pb bU mW rI;clear pb bU mW rI oS hlen sB r1 r2 r3 N7;go_wp2_with (go_at_call 34;refine HL.out.1.mono ?_;intro e gi hW;have he:=hW.1;subst he;have lu:=af hW.2;clear hW);go_roundg k;case measure=>have:=HL.out.2.1;omega
     case rel=>obtain⟨E,dp,ba',bc',aa',ac',da',dc',hE,_,Yr⟩:=lu.out;obtain⟨_,bU,mW,rI⟩:=HL.out;exact⟨i+1,out++E,di++[out.length],dO++[dp],ba',bc',aa',ac',da',dc',by go_num,by omega,by simp[mW],rI.step hE,Yr⟩
    ·have g0:decide ((i:Int)<(n2:Int))=false:=by simp;omega
     have g1:decide (i<n2)=false:=by simpa using hi
     obtain⟨S,hS⟩:=ah (ae ba);have Gv:P∉S:=by rw[hS];exact λhy=>by have:=(oS.nb P hy).1;omega
     have e0:=cell_of oS.hW 0;simp only[bw,aV]at e0;have fd:=Fr.av [] wr;have pN:=dr oS.ob fd (by simp);obtain⟨rD,_⟩:=wh pN;have q0:∀x',(sup S wr.drew x').cell? ⟨P,0,none⟩=some (.slice ba out.length bc):=λx'=>(dk S wr.drew x').cell (fd.cell e0 (by simp)) Gv
     have lT:=sha.Rl ba bc out wr.drew rD (by omega);have O8:∀y∈ae ba,w.heap.size<=y:=λy hy=>by have h1:=(oS.nb y hy).1;have h2:=oS.w0;omega
     have cC:di.length=(br.map (·.1)).length:=by rw[cN];omega
     have qN:=cz oS.fr O8 pN lT hS rI cC;clear bU mW rI oS hlen r1 r2 r3 N7 hS Gv e0 fd pN rD lT O8 cC hi e1;go_upto_region 16 with fail;clear g0 g1;obtain⟨ol,gD⟩:=ah out.length;rw[<-gD]at sB;refine jh 11 [(false,0),(false,1),(false,2),(false,3),(false,4),(false,5),(false,6),(false,7),(true,8),(true,9),(true,10)] S (by kernel_rfl) (by kernel_rfl) (λ_ _ d _ _ h=>by cases d<;>exact h) ?_;simp only[iw];refine cS 8 rfl ?_;simp only[aU];repeat (go_big_quiet_step (fail))
     refine wpQuiet_nil ?_;clear q0;refine ep rfl ?_;intro X' ek;go_wp2_with (go_at_call 35;refine qN.o3.mono ?_;rintro e yC ⟨⟨Zk,c14,rfl,Kc⟩,f14⟩);refine ek.out _ _ (f14.mono (by simp)) ?_;clear ek X';have HS:=ak Kc f14;clear Kc f14;have FH:=dr qN.o2 HS.l1 (by simp);have JJ:=HS.o0.le;rw[sha.sf]at JJ;refine ep rfl ?_;intro X' ek;refine uv aq _ _ rfl (.slice ba out.length bc) out.length (out.map bv) S rfl (by rw[dw,qN.o4]) FH Zk 20 c14 ((sha.dY out).map bv) rfl JJ HS.o0.nil HS.o0.cs (by rw[cN,sha.sf]) (jQ _) (by omega) (by unfold maxLen;omega) ?_;intro nj py nD kz;refine ek.out _ _ kz.fr ?_;clear ek X';refine ep rfl ?_;intro X' ek;go_wp2_with (go_at_call 29;refine (L6 nj (out.length+20) py _ kz.le kz.max).mono ?_;rintro e um ⟨rfl,hw⟩;obtain rfl:=hw.symm);refine ek.out _ _ (Fr.refl _ _) ?_;clear ek X';refine fE ?_;have vX:=af kz;clear kz FH JJ;go_wp2;go_ret;have M3:=vX.out.own;rw[<-gB]at M3;obtain⟨TN,_⟩:=wh M3;have sA:(out++sha.dY out).length=out.length+20:=by rw[aK,sha.sf]
     have f17:Fr [] w yC:=qN.o0.trans ((Fr.av [] wr).trans HS.l1);have rI:=qN.o5;have bR:(br.map (·.1)).length=n2:=by rw[cN];exact H3.out.2.2.2.2.1.symm
     rw[<-bR]at rI;refine⟨br.map (·.1),out,di,dO,by rw[<-H1.l2];exact H2.out.2.2.2.2.1,by rw[cN,<-H1.l2,cN];exact H2.out.2.2.2.2.2,λo ho=>?_,HR.o1,rI,qN.l6,by omega,⟨nj,?_,⟨?_,?_,?_,?_⟩,λy hy=>⟨?_,qR M3 (pI hy)⟩,f17.step vX.out.fr (λy hy=>.inr (by rw[qN.o4]at hy;exact qN.o1 y hy))⟩,nj,_,py,_,rfl,M3⟩
     ·obtain⟨m,jA,e⟩:=jR.1 ho;rw[<-e];exact HR.l3 m jA
     ·rw[sA];rfl
     ·exact TN.cs
     ·exact aw _
     ·rw[sA];unfold maxLen;omega
     ·intro e;have h1:=TN.nil e;have h2:=TN.le;rw[sA]at h2;omega
     ·rcases vX.out.at_ y hy with h|h
      ·rw[qN.o4]at h;exact qN.o1 y h
      ·rw[h];exact f17.size
def okB (o:pk.Obj):Bool:=decide (obj.ef o.kind≠[]/\o.body.length<=65536/\pQ o.kind o.body=o.id)
theorem ze5 {o:pk.Obj} (h:okB o=true):Da o:=by simp only[okB,decide_eq_true_eq]at h;exact h
theorem qut (m:OM) (w:World) (hr:lib.Rd w m.2.1 m.2.2 m.1.body) (hp:obj.Pw w) :
  Calls Tryz.prog 61 #[.agg (dG m.1 m.2.1 m.2.2)] w λe w'=>e = .returned (.bool (!okB m.1))/\Fr [] w w':=by
 by_cases jz:Da m.1
 ·have e:okB m.1=true:=by simp only[okB,decide_eq_true_eq];exact jz
  rw[e];exact qry m w jz hr hp
 have e:okB m.1=false:=by simp only[okB,decide_eq_false_iff_not];exact jz
 rw[e];obtain⟨⟨kd,bs,id,at_,crc⟩,ba,bc⟩:=m;simp only at hr;unfold Da at jz;simp only at jz;simp only[dG];have hid:=λ(h:bs.length<=65536) w' (f:Fr [] w w')=>obj.QO kd ba bc bs w' (hr.fr f) (by omega) (hp.fr f)
 obtain⟨bl,bK⟩:=ah bs.length;rw[<-bK]at hid jz ⊢;obtain⟨si,kQ⟩:=ah (str id);rw[<-kQ];obtain⟨so,WW⟩:=ah (str (pQ kd bs));rw[<-WW]at hid;obtain⟨sn,xQ⟩:=ah (str (obj.ef kd));have IP:=λw'=>obj.U3 kd w'
 rw[<-xQ]at IP;have H:=bJ hid IP jz kQ WW xQ;clear hid IP jz xQ kQ WW bK hr hp e;go_enter Tryz.func61,Tryz.ntmps61;go_upto_region 1 with fail;generalize cD:World.alloc _ _=w1;obtain⟨X,hX⟩:=ah w.heap.size;rw[<-hX];have dT:w1.heap[X]?=some (.cells #[.int .i64 kd,.slice ba bl bc,.string si,.int .i64 at_,.int .u32 crc] 34 (0,0)):=by rw[<-cD,hX];exact bx w _
 have f1:Fr [] w w1:=by rw[<-cD];exact (Fr.refl [] w).alloc _
 have H1:=ak dT f1;clear cD hX f1;have x0:=cell_of dT 0;have x1:=cell_of dT 1;have x2:=cell_of dT 2;simp only[bw,aV,bN]at x0 x1 x2;clear dT;have y0:=λx=>(dk [] w1.drew x).cell (show w1.drew.cell? _=_ from x0) (by simp)
 refine jh 21 [(false,0),(false,1),(true,2),(false,3),(false,4),(false,5),(false,6),(false,7),(false,8),(false,9),(false,10),(false,11),(false,12),(false,13),(false,14),(false,16),(false,17),(true,15),(false,18),(false,19),(false,20)] [] (by kernel_rfl) (by kernel_rfl) (λ_ _ d _ _ h=>by cases d<;>exact h) ?_;simp only[iw];refine cS 2 rfl ?_;simp only[aU];repeat (go_big_quiet_step (fail))
 refine wpQuiet_nil ?_;clear y0;refine ep rfl ?_;intro XX vd;go_wp2_with (go_at_call 62;refine (H.o1 _).mono ?_;rintro e w2 ⟨rfl,f2⟩);refine vd.out _ _ f2 ?_;clear vd XX;have H2:=af ((Fr.av [] w1).trans f2);clear f2;have y0:=λx=>(dk [] w2 x).cell (H2.out.cell x0 (by simp)) (by simp)
 have y1:=λx=>(dk [] w2 x).cell (H2.out.cell x1 (by simp)) (by simp)
 have y2:=λx=>(dk [] w2 x).cell (H2.out.cell x2 (by simp)) (by simp)
 clear x0 x1 x2;refine cS 14 rfl ?_;simp only[aU];by_cases h1:obj.ef kd=[]
 ·have xQ:=H.l5;rw[h1]at xQ;obtain rfl:sn=⟨#[]⟩:=xQ;clear h1;repeat (go_big_quiet_step (fail))
  refine wpQuiet_nil ?_;clear y0 y1 y2;refine Hg rfl ?_;simp only[Act.put,mC,nC,mB];refine cS 3 rfl ?_;simp only[aU];repeat (go_big_quiet_step (fail))
  refine wpQuiet_nil ?_;refine fE ?_;go_wp2;go_ret;exact⟨rfl,H1.l1.trans H2.out⟩
 have bR:sn.toList≠[]:=by rw[H.l5,bu];exact h1
 have gn:(sn.toList==[])=false:=by simpa using bR
 have YT:(sn.toList==(⟨#[]⟩:ByteArray).toList)=false:=by rw[show (⟨#[]⟩:ByteArray).toList=[] from by rw[ByteArray.toList_eq]];exact gn
 have YS:sn.toList.isEmpty=false:=by simpa using bR
 have HN:=af h1;clear h1 bR;by_cases h2:bl<=65536
 ·have gl:decide ((65536:Int)<(bl:Int))=false:=by simp;omega
  have gq:(so.toList==si.toList)=false:=by rw[H.o4,H.o3,bu,bu];have h3:=H.o2;have h4:=HN.out;simp only[beq_eq_false_iff_ne];intro h5;exact h3 ⟨h4,h2,h5⟩
  have HB:=af h2;clear h2;repeat (go_big_quiet_step (fail))
  refine wpQuiet_nil ?_;clear y0 y1 y2 gn YT YS gl;refine ep rfl ?_;intro XX vd;go_wp2_with (go_at_call 63;refine (H.o0 HB.out _ (H1.l1.trans H2.out)).mono ?_;rintro e w3 ⟨rfl,f3⟩);refine vd.out _ _ f3 ?_;clear vd XX;have H3:=af f3;clear f3;refine cS 3 rfl ?_;simp only[aU];repeat (go_big_quiet_step (fail))
  refine wpQuiet_nil ?_;refine fE ?_;go_wp2;go_ret;exact⟨rfl,(H1.l1.trans H2.out).trans H3.out⟩
 ·have gl:decide ((65536:Int)<(bl:Int))=true:=by simp;omega
  clear h2;repeat (go_big_quiet_step (fail))
  refine wpQuiet_nil ?_;clear y0 y1 y2 gn YT YS gl;refine Hg rfl ?_;simp only[Act.put,mC,nC,mB];refine cS 3 rfl ?_;simp only[aU];repeat (go_big_quiet_step (fail))
  refine wpQuiet_nil ?_;refine fE ?_;go_wp2;go_ret;exact⟨rfl,H1.l1.trans H2.out⟩
theorem zd4 (del:OM->Bool) (kW:FuncId) (cv:Array Value) (eg:∀args w,(callFunc kW args).run Tryz.prog w = .ok (.enter kW args) w) (a:Option Addr) (c:Nat) (aJ:List OM) (w:World) (h:jM w a c aJ) (hl:aJ.length<=1000000)
  (fH:∀m∈aJ,∀w',Fr [] w w'->Calls Tryz.prog kW (#[.agg (dG m.1 m.2.1 m.2.2)]++cv) w' λe w2=>e = .returned (.bool (del m))/\Fr [] w' w2) :
  Calls Tryz.prog 64 #[.slice a aJ.length c,.func (.func kW) #[] cv] w λe w'=>Fr [] w w'/\((e = .returned (.int .i64 (-1))/\∀m∈aJ,del m=false)\/∃(i:Nat) (m:OM),e = .returned (.int .i64 (i:Nat))/\aJ[i]?=some m/\del m=true/\∀m∈aJ.take i,del m=false):=by
 obtain⟨n,hn⟩:=ah aJ.length;rw[<-hn]at hl ⊢;have H:=au h hn fH;clear h hn fH;go_enter Tryz.func64,Tryz.ntmps64;go_wp2;go_loopg [8] n (λk s8 wr=>∃i:Nat,s8 = .int .i64 (i:Nat)/\i+k=n/\Fr [] w wr/\∀m∈aJ.take i,del m=false);case atStart=>exact⟨0,rfl,by omega,Fr.refl _ _,by simp⟩
 case round=>
  obtain⟨i,rfl,bU,hf,mT⟩:=hrel;by_cases hi:i<n
  ·obtain⟨k,rfl⟩:∃k,gk=k+1:=⟨gk-1,by omega⟩;obtain⟨m,hm⟩:∃m,aJ[i]?=some m:=⟨aJ[i]'(by rw[<-H.out.2.1];omega),bO _⟩;obtain⟨g,o,rfl,hc⟩:=(H.out.1.fr hf).cell hm;have bg:=H.out.2.2 m (iC hm) wr hf;have bF:aJ.take (i+1)=aJ.take i++[m]:=by rw[zG,hm];rfl
   obtain⟨d,hd⟩:=ah (del m);rw[<-hd]at bg;have HT:=aF bF hm hd mT;clear bF hd mT hm;obtain⟨⟨kd,bs,id,at_,crc⟩,ba,bc⟩:=m;simp only[dG]at bg;have c0:=hc 0 (.int .i64 kd) rfl;have c1:=hc 1 (.slice ba bs.length bc) rfl;have c2:=hc 2 (.string (str id)) rfl;have c3:=hc 3 (.int .i64 at_) rfl;have c4:=hc 4 (.int .u32 crc) rfl;rw[jS]at c0;have HC:=ak bg hf;clear bg hf hc;cases d with
   | false=>
    go_wp2;refine HC.o0.mono ?_;rintro e w2 ⟨rfl,f2⟩;have H2:=af f2;clear f2 c0 c1 c2 c3 c4 eg;go_wp2;go_roundg k;case measure=>omega
    case rel=>
     refine⟨i+1,rfl,by omega,HC.l1.trans H2.out,λm hm=>?_⟩;rw[HT.o0,jy]at hm;rcases hm with hm|hm
     ·exact HT.l3 m hm
     ·simp only[iQ]at hm;rw[hm,<-HT.o2]
   | true=>go_wp2;refine HC.o0.mono ?_;rintro e w2 ⟨rfl,f2⟩;have H2:=af f2;clear f2 c0 c1 c2 c3 c4 eg;go_wp2;go_ret;exact⟨HC.l1.trans H2.out,.inr ⟨i,_,rfl,HT.o1,HT.o2.symm,HT.l3⟩⟩
  ·obtain rfl:i=n:=by omega
   have HF:=ak hf mT;clear hf mT;go_wp2;go_ret;refine⟨HF.o0,.inl ⟨rfl,λm hm=>HF.l1 m ?_⟩⟩;rw[H.out.2.1,G9];exact hm
end os
namespace sha
open Go Go.RowKit lib bm pk
def wv (v:Nat):Value:=.int .u32 v
def mq (vs:List Nat):List UInt8:=vs.flatMap sums.gh
theorem ju:∀vs:List Nat,(mq vs).length=4*vs.length
 | []=>rfl
 | v::t=>by have:mq (v::t)=sums.gh v++mq t:=rfl;rw[this,aK,sums.yL,ju t,cQ];omega
theorem qzf (vs:List Nat) (v:Nat):mq (vs++[v])=mq vs++sums.gh v:=by unfold mq;rw[Hu];simp
theorem qpu (ao:Option Addr) (cap:Nat) (vs:List Nat) (w:World) (h:Cs w ao (vs.map wv)) (hv:∀v∈vs,v<4294967296) (hlen:vs.length<=5) (sC:vs.length<=cap) (oP:cap<=maxLen) :
  Calls Tryz.prog 82 #[.slice ao vs.length cap] w λe w'=>∃a c,e = .returned (.slice a (4*vs.length) c)/\lib.Rd w' a c (mq vs)/\(∀x∈ae a,w.heap.size<=x/\x<w'.heap.size)/\Fr [] w w':=by
 obtain⟨L,hL⟩:=ah vs.length;unfold maxLen at oP;rw[<-hL]at hlen sC ⊢;have HI:=au h hL hv;clear h hL hv;go_enter Tryz.func82,Tryz.ntmps82;go_wp2;go_loopg [3,4] L (λk s3 s4 wr=>∃i a c out,s4 = .int .i64 (i:Nat)/\s3 = .slice a out.length c/\i+k=L/\out=mq (vs.take i)/\Wr w wr a c out);case atStart=>exact⟨0,none,0,[],rfl,rfl,by omega,rfl,UZ w w (Fr.refl _ _)⟩
 case round=>
  obtain⟨i,a,c,out,rfl,rfl,bU,ho,hw⟩:=hrel;have H:=ak hw ho;have gD:out.length<=20:=by rw[ho,ju,eJ];omega
  clear hw ho;by_cases hi:i<L
  ·obtain⟨k,rfl⟩:∃k,gk=k+1:=⟨gk-1,by omega⟩;have eC:i<vs.length:=by rw[<-HI.out.2.1];exact hi
   obtain⟨g,o,rfl,hc⟩:=HI.out.1.at (by rw[cN];omega);have rP:=hc i (wv vs[i]) (by rw[j5,bO eC];rfl);have XT:g<w.heap.size:=KC w _ rP;have CP:=HI.out.2.2 vs[i] (vJ eC);have HT:=af (show vs.take (i+1)=vs.take i++[vs[i]] from DJ eC);obtain⟨v,zN⟩:=ah (vs[i]);rw[<-zN]at rP CP HT;have jX:=sums.Us v CP;have HB:=af jX;unfold wv at rP;have Ln:=H.out.1.fr.cell rP (by simp);obtain⟨S,hS⟩:=ah (ae a);have wZ:g∉S:=λhm=>by rw[hS]at hm;have:=H.out.1.new g hm;omega
   have q0:∀x,(sup S wr.drew x).cell? ⟨g,o+i,none⟩=some (.int .u32 v):=λx=>(dk S wr.drew x).cell (show wr.drew.cell? _=_ from Ln) wZ
   have HS:=af hS;clear hc rP eC zN jX Ln hS XT;go_upto_region 5 with fail;refine jh 26 [(false,0),(false,1),(false,2),(false,3),(false,4),(false,5),(false,6),(false,7),(false,8),(false,9),(false,10),(false,11),(false,12),(false,13),(false,14),(false,15),(false,16),(false,17),(false,18),(false,19),(false,20),(false,21),(false,22),(false,23),(true,24),(true,25)] S (by kernel_rfl) (by kernel_rfl) (λ_ _ d _ _ h=>by cases d<;>exact h) ?_;simp only[iw];refine cS 24 rfl ?_;simp only[aU];repeat (go_big_quiet_step (fail))
   refine wpQuiet_nil ?_;clear q0;refine ep rfl ?_;intro X hX;go_wp2;refine hX.out _ _ ((Fr.refl _ wr.drew).alloc _) ?_;clear hX X;have dF:Fr [] wr (wr.drew.alloc (.cells #[.int .u8 ((v:Int)/16777216),.int .u8 ((v:Int)/65536%256),.int .u8 ((v:Int)/256%256),.int .u8 ((v:Int)%256)] 5)):=(Fr.av [] wr).alloc _;have cT:=dr H.out.1.own dF (by simp);have cA:Cs (wr.drew.alloc (.cells #[.int .u8 ((v:Int)/16777216),.int .u8 ((v:Int)/65536%256),.int .u8 ((v:Int)/256%256),.int .u8 ((v:Int)%256)] 5)) (some ⟨wr.drew.heap.size,0,none⟩) ((sums.gh v).map bv):=by rw[HB.out];exact .inr ⟨wr.drew.heap.size,0,rfl,λj u hj=>by rw[cell_of (bx wr.drew _)];simpa using hj⟩
   refine ep rfl ?_;intro X hX;refine uv aq _ _ rfl (.slice a out.length c) out.length (out.map bv) S rfl (by rw[dw,HS.out]) cT (some ⟨wr.drew.heap.size,0,none⟩) 4 4 ((sums.gh v).map bv) rfl (by decide) (by simp) cA (by rfl) (jQ _) (by omega) (by unfold maxLen;omega) ?_;intro a2 c2 w2 A1;refine hX.out _ _ A1.fr ?_;clear hX X;refine fE ?_;have HA:=ak dF A1;clear dF A1 cT cA;go_wp2;go_roundg k;case measure=>omega
   case rel=>have A1:=HA.l1;rw[HS.out]at A1;exact⟨i+1,a2,c2,out++sums.gh v,by go_num,by rw[aK];rfl,by omega,by rw[HT.out,qzf,<-H.out.2],H.out.1.step2 HA.o0 A1⟩
  ·obtain rfl:i=L:=by omega
   have ho:out=mq vs:=by rw[H.out.2,HI.out.2.1,G9]
   have hn:out.length=4*i:=by rw[ho,ju,<-HI.out.2.1]
   have HO:=ak ho hn;clear ho hn;go_wp2;go_ret;obtain⟨r1,_⟩:=wh H.out.1.own;exact⟨a,c,by rw[<-HO.l1];rfl,by rw[<-HO.o0];exact r1,λx hx=>⟨H.out.1.new x hx,qR H.out.1.own (pI hx)⟩,H.out.1.fr⟩
theorem Ds (x:Int) (n:Nat) (w:World) (hn:n=1\/n=5\/n=30) :
  Calls Tryz.prog 83 #[.int .u32 x,.int .i64 n] w λe w'=>e = .returned (.int .u32 (GX x n))/\Fr [] w w':=by
 rcases hn with rfl|rfl|rfl
 all_goals
  go_enter Tryz.func83,Tryz.ntmps83
  go_upto_region 1 with fail
  go_quiet (fail)
  go_wp2
  go_ret
  exact⟨rfl,Fr.drewN _ _ _⟩
end sha
namespace sha
open Go Go.RowKit lib bm
theorem Ac:ax Tryz.prog 147 32 (.int .u32 0) 1 4:=ax.of Tryz.underlying147 (by kernel_rfl) rfl (by decide)
theorem qu4:∃A:Array Value,A.size=80/\∀w:World,(Instr.makeSlice 147 (.int .i64 80) (.int .i64 80)).run Tryz.prog w = .ok (.slice (some ⟨w.heap.size,0,none⟩) 80 80) (w.alloc (.cells A 32)):=by obtain⟨i,hi,hz,hs,hb⟩:=Ac.info;refine⟨madeCells (Value.int .u32 0).cells 80,size_madeCells _ _,λw=>?_⟩;have:=run_make (P:=Tryz.prog) w 147 32 i (.int .u32 0) Tryz.underlying147 hi hz .i64 .i64 80 80 (by omega) (Int.le_refl _) (by rw[hb];omega) (by omega);simpa[hs] using this
structure Wd (w:World) (B:Nat) (p:List UInt8) (t:Nat):Prop where
 wb:∃A,w.heap[B]?=some (.cells A 32 (0,0))/\A.size=80/\∀j,j<t->A[j]?=some (.int .u32 (sv p j))
theorem Wd.fr {S:List Nat} {w w':World} {B t:Nat} {p:List UInt8} (h:Wd w B p t) (f:Fr S w w') (hB:B∉S):Wd w' B p t:=by obtain⟨A,hA,r⟩:=h.wb;exact⟨A,f.ae hA hB,r⟩
theorem Wd.store {w:World} {B t:Nat} {p:List UInt8} (h:Wd w B p t) (ht:t<80) (v:Int) (hv:v=sv p t):Wd (w.setCell ⟨B,t,none⟩ (.int .u32 v)) B p (t+1):=by
 obtain⟨A,hA,cG,cM⟩:=h.wb;refine⟨_,aX hA _,by simp[cG],λj hj=>?_⟩;by_cases e:j=t
 ·subst e;rw[iu (by omega),hv]
 ·rw[aZ (by omega)];exact cM j (by omega)
theorem zag (bs:List UInt8) (w:World) (hlen:bs.length<=140737488355000) :
  Calls Tryz.prog 51 #[.string (str bs)] w λe w'=>(∃a c,e = .returned (.slice a 20 c)/\lib.Rd w' a c (dY bs)/\∀x∈lib.ae a,w.heap.size<=x/\x<w'.heap.size)/\Fr [] w w':=by
 obtain⟨L,hL⟩:=ah bs.length;have cF:(str bs).size=L:=by rw[hL];simp[str,ByteArray.size]
 rw[<-hL]at hlen;have H:=af hL;clear hL;go_enter Tryz.func51,Tryz.ntmps51;go_upto_block 0 with (first
  | (refine qhq (e:=5) Tryz.underlying9 Tryz.underlying23 Tryz.underlying5 rfl _ rfl bs rfl (by unfold maxLen;have:=H.out;omega) ?_;intro fX w1 cL CS f1 ku;rw[<-H.out]at cL ⊢;have H1:=au CS f1 ku;clear CS f1 ku)
  | (refine Wn sums.aq rfl _ _ rfl (some ⟨w.heap.size,0,none⟩) L fX (bs.map bv) rfl (H1.o0.fr ((Fr.refl [] w1).alloc (.cells #[.int .u8 128] 5)) (by simp)) (by rw[cN];exact H.out.symm) (some ⟨w1.heap.size,0,none⟩) 1 1 [.int .u8 128] rfl (by omega) (by simp) (zE w1 _ _ _) rfl (by simp[Value.oneCell']) (by omega) (by unfold maxLen;omega) ?_;intro a2 q2 w2 A2;have H2:=af A2;clear A2))
 have zT:Fr [] w w2:=(H1.o1.trans ((Fr.refl [] w1).alloc (.cells #[.int .u8 128] 5))).step H2.out.fr (λy hy=>.inr (by simp[lib.ae]at hy;omega));have uT:∀x∈lib.ae a2,w.heap.size<=x:=λx hx=>by
  have h1:=H1.o1.size;rcases H2.out.at_ x hx with k|k
  ·simp[lib.ae]at k;omega
  ·rw[eZ]at k;omega
 have oy:km w2 5 a2 q2 ((bs++[128]).map bv):=by rw[gB];exact H2.out.own
 obtain⟨Z,hZ⟩:=ah (vF (L+1));have SR:Z<64/\(L+1+Z)%64=56:=by rw[hZ];unfold vF;omega
 have HW:=aF zT uT oy hZ;clear zT uT oy hZ H1 H2;go_wp2;go_loopg [4] Z (λk s4 wr=>∃(j N:Nat) (a:Option Addr) (q:Nat),s4 = .slice a N q/\N=L+1+j/\j+k=Z/\km wr 5 a q ((bs++[128]++List.replicate j 0).map bv)/\Fr [] w wr/\∀x∈lib.ae a,w.heap.size<=x);case atStart=>exact⟨0,L+1,a2,q2,rfl,rfl,by omega,by simpa using HW.o2,HW.o0,HW.o1⟩
 case round=>
  obtain⟨j,N,a,q,rfl,hN,eG,aA,hf,fu⟩:=hrel;obtain⟨p1,p2,p3⟩:=aA.shape;have oz:(bs++[128]++List.replicate j (0:UInt8)).length=N:=by simp only[aK,yR,Hy];rw[<-H.out,hN]
  rw[cN,oz]at p1;have HR:=aF aA hf fu oz;clear aA hf fu oz;have YC:N<=140737488355200:=by omega
  by_cases hj:j<Z
  ·obtain⟨k,rfl⟩:∃k,gk=k+1:=⟨gk-1,by omega⟩;have bR:¬(N%64=56):=by omega
   have d1:((N:Int)%64 !=56)=true:=by simp;omega
   have HN:=ak hN eG;clear bR hN eG;go_wp2_with (refine Wn sums.aq rfl _ _ rfl a N q ((bs++[128]++List.replicate j 0).map bv) rfl (HR.o0.fr ((Fr.refl [] wr).alloc (.cells #[.int .u8 0] 5)) (by simp)) (by rw[cN];exact HR.l3) (some ⟨wr.heap.size,0,none⟩) 1 1 [.int .u8 0] rfl (by omega) (by simp) (zE wr _ _ _) rfl (by simp[Value.oneCell']) (by omega) (by unfold maxLen;omega) ?_;intro a4 q4 w4 A4;have H4:=af A4;clear A4);go_roundg k;case measure=>omega
   case rel=>
    obtain⟨hN,eG⟩:=HN.out;refine⟨j+1,N+1,a4,q4,rfl,by omega,by omega,?_,(HR.o1.trans ((Fr.refl [] wr).alloc (.cells #[.int .u8 0] 5))).step H4.out.fr (λy hy=>.inr (HR.o2 y hy)),λx hx=>?_⟩
    ·rw[Hx,<-gH,gB];exact H4.out.own
    ·have h1:=HR.o1.size;rcases H4.out.at_ x hx with k|k
     ·exact HR.o2 x k
     ·rw[eZ]at k;omega
  ·obtain rfl:j=Z:=by omega
   obtain rfl:gk=0:=by omega
   have d1:((N:Int)%64 !=56)=false:=by simp;omega
   obtain⟨x1,dT⟩:∃x,x=L/536870912:=⟨_,rfl⟩;obtain⟨x2,jU⟩:∃x,x=L*8%4294967296:=⟨_,rfl⟩;have e1:(L:Int)*8/4294967296=(x1:Int):=by omega
   have e2:((L:Int)*8)%4294967296=(x2:Int):=by omega
   have WJ:x1<4294967296:=by omega
   have Nt:x2<4294967296:=by omega
   have xN:=λw' h=>qpu (some ⟨wr.heap.size,0,none⟩) 2 [x1,x2] w' h (by intro v hv;simp only[gw,v7,or_false]at hv;rcases hv with rfl|rfl<;>assumption) (by simp) (by simp) (by decide)
   have uR:bs++[128]++List.replicate j (0:UInt8)++mq [x1,x2]=cZ bs L:=by
    have:mq [x1,x2]=sums.gh x1++sums.gh x2:=by simp[mq]
    rw[this,cZ,oo,dT,jU,<-H.out,<-HW.l3,<-gH]
   have HN:=au hN xN uR;clear hN eG xN uR dT jU hj;have fAl:Fr [] w (wr.alloc (.cells #[.int .u32 x1,.int .u32 x2] 32)):=HR.o1.alloc _;have FV:=HR.o0.fr ((Fr.refl [] wr).alloc (.cells #[.int .u32 x1,.int .u32 x2] 32)) (by simp);have Zx:=ak fAl FV;clear fAl FV;go_upto_region 6 with (first
    | (go_at_call 82;refine (HN.out.2.1 _ (zE wr #[.int .u32 x1,.int .u32 x2] 32 (0,0))).mono ?_;rintro e w5 ⟨a5,c5,rfl,r5,n5,f5⟩;have Om:=r5.le;rw[ju]at Om;simp only[cQ,lK]at Om;have H5:=au r5 n5 f5;clear r5 n5 f5)
    | (refine Wn sums.aq rfl _ _ rfl a N q ((bs++[128]++List.replicate j 0).map bv) rfl (Zx.l1.fr H5.l2 (by simp)) (by rw[cN];exact HR.l3) a5 8 c5 ((mq [x1,x2]).map bv) rfl (by omega) H5.o0.nil H5.o0.cs (by rw[cN,ju];rfl) (sums.jQ _) (by omega) (by unfold maxLen;omega) ?_;intro a6 q6 w6 A6;rw[<-gB,HN.out.2.2]at A6;have H6:=af A6;clear A6))
   obtain⟨pd,uR⟩:=ah (cZ bs L);rw[<-uR]at H6;have OO:Fr [] w w6:=(Zx.o0.trans H5.l2).step H6.out.fr (λy hy=>.inr (HR.o2 y hy));have IU:∀x∈lib.ae a6,x<w6.heap.size:=H6.out.own.lt;have Ea:=H6.out.own.rd;have fN:pd.length=N+8:=by rw[uR,<-HN.out.2.2,aK,HR.l3,ju];rfl
   have Ed:pd.length%64=0:=by rw[uR];exact qjt bs L
   obtain⟨PB,Ph⟩:=ah pd.length;obtain⟨Zm,Jt⟩:=ah (blocks PB h0 pd);have cU:dY bs=vu Zm:=by rw[qk6,<-H.out,<-uR,<-Ph,<-Jt]
   rw[<-Ph]at Ed;rw[show N+8=PB by omega];have X9:=Ea.le;have Yb:=Ea.max;unfold maxLen at Yb;rw[<-Ph]at X9;have zbY:PB<=140737488355300:=by omega
   have HP:=bJ OO IU Ea Ph Jt cU;clear OO IU Ea fN Ph Jt cU uR H5 H6 Zx d1 e1 e2 WJ Nt;obtain⟨Tq,PF,lF⟩:=qu4;go_upto_block 2 with fail;obtain⟨Q,w7,hQ,CO,f7,b7,d7⟩:∃Q w7,Q=w6.heap.size/\w7=(w6.alloc (.cells #[.int .u32 1732584193,.int .u32 4023233417,.int .u32 2562383102,.int .u32 271733878,.int .u32 3285377520] 32)).alloc (.cells Tq 32)/\Fr [] w6 w7/\w7.heap[Q]?=some (.cells h0.vals 32 (0,0))/\w7.heap[Q+1]?=some (.cells Tq 32 (0,0)):=
    ⟨_,_,rfl,rfl,((Fr.refl [] w6).alloc _).alloc _,pJ _ (bx w6 _),by have:=bx (w6.alloc (.cells #[.int .u32 1732584193,.int .u32 4023233417,.int .u32 2562383102,.int .u32 271733878,.int .u32 3285377520] 32)) (.cells Tq 32);rw[eZ]at this;exact this⟩
   rw[<-CO,<-hQ];have H7:=aP f7 b7 d7 hQ PF;clear CO hQ f7 b7 d7 lF PF;go_wp2;go_loopg [5,7] PB (λk s5 s7 wr=>∃(at_ B:Nat) (h':H5),s7 = .int .i64 (at_:Nat)/\s5 = .slice (some ⟨B,0,none⟩) 5 5/\at_%64=0/\at_<=PB/\PB-at_<=k/\B≠Q+1/\wr.heap[B]?=some (.cells h'.vals 32 (0,0))/\Wd wr (Q+1) [] 0/\Fr [Q+1] w7 wr/\GG h'/\blocks k h' (pd.drop at_)=Zm);case atStart=>exact⟨0,Q,h0,rfl,rfl,rfl,dZ _,by omega,by omega,H7.o1,⟨Tq,H7.o2,H7.l4,λj hj=>by omega⟩,Fr.refl _ _,TV,HP.o4.symm⟩
   case round=>
    obtain⟨at_,B,h',rfl,rfl,eD,zbX,Jp,PC,u7,xN,hf,Lc,bK⟩:=hrel;have HL:=cz PC u7 xN hf Lc bK Jp;have zaG:=Jp;clear PC u7 xN hf Lc bK Jp;by_cases aY:at_<PB
    ·have po:at_+64<=PB:=by omega
     obtain⟨k,rfl⟩:∃k,gk=k+1:=⟨gk-1,by omega⟩;obtain⟨p,hp⟩:=ah (pd.drop at_);have fN:p.length=PB-at_:=by rw[hp,eQ,<-HP.o3]
     have Dd:=ak hp fN;clear hp fN;obtain⟨wo,ou⟩:=ah wr;rw[<-ou]at HL ⊢;clear ou;go_upto_block 4 with fail;go_wp2;go_loopg [8] 80 (λk s8 wz=>∃t:Nat,s8 = .int .i64 (t:Nat)/\t+k=80/\Wd wz (Q+1) p t/\Fr [Q+1] wo wz);case atStart=>exact⟨0,rfl,rfl,(by obtain⟨A,h1,h2,_⟩:=HL.out.2.2.1.wb;exact⟨A,h1,h2,λj hj=>by omega⟩),Fr.refl _ _⟩
     case round=>
      obtain⟨t,rfl,bF,xN,hf⟩:=hrel;have zV:=ak xN hf;clear xN hf;by_cases ht:t<80
      ·obtain⟨k2,rfl⟩:∃k,gk=k+1:=⟨gk-1,by omega⟩;obtain⟨A,hA,cG,cM⟩:=zV.out.1.wb;have zA:=aO hA t;obtain⟨xo,Nr⟩:∃x,wr.cell? ⟨Q+1,t,none⟩=some x:=⟨A[t]'(by omega),by rw[cell_of hA];exact xG (by omega)⟩;have it:(t:Int)<80:=by omega
       by_cases D4:t<16
       ·obtain⟨m0,tu⟩:∃m,m=at_+4*t:=⟨_,rfl⟩;have em0:(at_:Int)+4*(t:Int)=(m0:Int):=by omega
        have Hm0:=af tu;have J1:=aP hA cG cM zA Nr;clear tu hA cG cM zA Nr;go_upto_region 16 with fail;have tu:=Hm0.out;have zA:=J1.out.2.2.2.1;have Nr:=J1.out.2.2.2.2;have jD:=(HP.o2.fr H7.o0).gg (HL.out.2.2.2.1.trans zV.out.2) (λx hx hm=>by have:=HP.o1 x hx;have:=H7.o3;simp at hm;omega);obtain⟨m1,jb⟩:∃m,m=m0+1:=⟨_,rfl⟩;obtain⟨m2,hU⟩:∃m,m=m0+2:=⟨_,rfl⟩;obtain⟨m3,Oe⟩:∃m,m=m0+3:=⟨_,rfl⟩;have YB:=HP.o3;have b0:m0<pd.length:=by omega
        have b1:m1<pd.length:=by omega
        have b2:m2<pd.length:=by omega
        have b3:m3<pd.length:=by omega
        obtain⟨g,o,ea,X0⟩:=jD.at b0;obtain⟨_,_,q1,X1⟩:=jD.at b1;obtain⟨_,_,q2,X2⟩:=jD.at b2;obtain⟨_,_,q3,X3⟩:=jD.at b3;subst ea;simp only[eS,qU,and_true]at q1 q2 q3;obtain⟨rfl,rfl⟩:=q1;obtain⟨rfl,rfl⟩:=q2;obtain⟨rfl,rfl⟩:=q3;have hw:word p (4*t)=((pd[m0].toNat*16777216+pd[m1].toNat*65536+pd[m2].toNat*256+pd[m3].toNat:Nat):Int):=by unfold word;rw[Dd.o0,CH,CH,CH,CH,show at_+4*t=m0 by omega,show at_+(4*t+1)=m1 by omega,show at_+(4*t+2)=m2 by omega,show at_+(4*t+3)=m3 by omega,bO b0,bO b1,bO b2,bO b3];rfl
        have l0:=iB pd[m0];have l1:=iB pd[m1];have l2:=iB pd[m2];have l3:=iB pd[m3];generalize pd[m0].toNat=y0 at *;generalize pd[m1].toNat=y1 at *;generalize pd[m2].toNat=y2 at *;generalize pd[m3].toNat=y3 at *;obtain⟨z1,iZ⟩:∃z,z=y0*16777216+y1*65536:=⟨_,rfl⟩;obtain⟨z2,lS⟩:∃z,z=z1+y2*256:=⟨_,rfl⟩;obtain⟨z3,uK⟩:∃z,z=z2+y3:=⟨_,rfl⟩;have r1:bits .or .u32 ((y0:Int)*16777216) ((y1:Int)*65536)=(z1:Int):=by have:=sums.yG (y0*16777216) (y1*65536) 24 (by omega) (by decide) (by omega) (by omega);rw[<-iZ]at this;simpa using this
        have r2:bits .or .u32 (z1:Int) ((y2:Int)*256)=(z2:Int):=by have:=sums.yG z1 (y2*256) 16 (by omega) (by decide) (by omega) (by omega);rw[<-lS]at this;simpa using this
        have r3:bits .or .u32 (z2:Int) (y3:Int)=(z3:Int):=by have:=sums.yG z2 y3 8 (by omega) (by decide) (by omega) (by omega);rw[<-uK]at this;exact this
        have HV:Hid ((z3:Int)=sv p t):=af (by rw[ZI p t D4,hw];congr 1;omega);have HM:=au jb hU Oe;have zbJ:m0+3<PB:=by omega
        clear jD YB hw iZ lS uK tu jb hU Oe b0 b1 b2 b3 em0;have e1:(m0:Int)+1=(m1:Int):=by have:=HM.out;omega
        have e2:(m0:Int)+2=(m2:Int):=by have:=HM.out;omega
        have e3:(m0:Int)+3=(m3:Int):=by have:=HM.out;omega
        have Tz:IntKind.i64.wrap ((m0:Int)+1)=(m1:Int):=by rw[oh];omega
        have Ka:IntKind.i64.wrap ((m0:Int)+2)=(m2:Int):=by rw[oh];omega
        have Ty:IntKind.i64.wrap ((m0:Int)+3)=(m3:Int):=by rw[oh];omega
        have i0:(m0:Int)<(PB:Int):=by omega
        have i1:(m1:Int)<(PB:Int):=by omega
        have i2:(m2:Int)<(PB:Int):=by omega
        have i3:(m3:Int)<(PB:Int):=by omega
        refine uw 32 (by kernel_rfl) (by kernel_rfl) ?_;simp only[uj];repeat (go_big_quiet_step (fail))
        refine wpQuiet_nil ?_;clear X0 X1 X2 X3 Tz Ka Ty r1 r2 r3 e1 e2 e3;go_wp2;go_roundg k2;case measure=>omega
        case rel=>exact⟨t+1,by go_num,by omega,(zV.out.1.fr (Fr.av [] wr) (by simp)).store ht _ HV.out,(zV.out.2.trans (Fr.av [Q+1] wr)).setCell (by simp) _⟩
       ·have J1:=aP hA cG cM zA Nr;clear hA cG cM zA Nr;have ND:decide (t<16)=false:=by simpa using D4
        go_upto_region 17 with fail;clear ND;obtain⟨hA,cG,cM,_,_⟩:=J1.out;obtain⟨n3,wP⟩:∃m,m=t-3:=⟨_,rfl⟩;obtain⟨n8,xX⟩:∃m,m=t-8:=⟨_,rfl⟩;obtain⟨wC,Bh⟩:∃m,m=t-14:=⟨_,rfl⟩;obtain⟨wB,wQ⟩:∃m,m=t-16:=⟨_,rfl⟩;have e3:(t:Int)-3=(n3:Int):=by omega
        have e8:(t:Int)-8=(n8:Int):=by omega
        have Y6:(t:Int)-14=(wC:Int):=by omega
        have Y5:(t:Int)-16=(wB:Int):=by omega
        have w3:IntKind.i64.wrap ((t:Int)-3)=(n3:Int):=by rw[oh];omega
        have w8:IntKind.i64.wrap ((t:Int)-8)=(n8:Int):=by rw[oh];omega
        have yC:IntKind.i64.wrap ((t:Int)-14)=(wC:Int):=by rw[oh];omega
        have um:IntKind.i64.wrap ((t:Int)-16)=(wB:Int):=by rw[oh];omega
        have x3:∀x,(sup [] wr.drew x).cell? ⟨Q+1,n3,none⟩=some (.int .u32 (sv p n3)):=λx=>(dk [] wr.drew x).cell (show wr.drew.cell? _=_ from (cell_of hA n3).trans (cM n3 (by omega))) (by simp)
        have x8:∀x,(sup [] wr.drew x).cell? ⟨Q+1,n8,none⟩=some (.int .u32 (sv p n8)):=λx=>(dk [] wr.drew x).cell (show wr.drew.cell? _=_ from (cell_of hA n8).trans (cM n8 (by omega))) (by simp)
        have Tw:∀x,(sup [] wr.drew x).cell? ⟨Q+1,wC,none⟩=some (.int .u32 (sv p wC)):=λx=>(dk [] wr.drew x).cell (show wr.drew.cell? _=_ from (cell_of hA wC).trans (cM wC (by omega))) (by simp)
        have Tv:∀x,(sup [] wr.drew x).cell? ⟨Q+1,wB,none⟩=some (.int .u32 (sv p wB)):=λx=>(dk [] wr.drew x).cell (show wr.drew.cell? _=_ from (cell_of hA wB).trans (cM wB (by omega))) (by simp)
        have i3:(n3:Int)<80:=by omega
        have i8:(n8:Int)<80:=by omega
        have i14:(wC:Int)<80:=by omega
        have i16:(wB:Int)<80:=by omega
        have hv:=ZH p t (by omega) ht;rw[<-wP,<-xX,<-Bh,<-wQ]at hv;have HV:=af hv;clear hA cG cM wP xX Bh wQ hv;refine jh 27 [(false,0),(false,1),(false,2),(false,3),(false,4),(false,5),(false,6),(false,7),(false,8),(false,9),(false,10),(false,11),(false,12),(false,13),(false,14),(false,15),(false,16),(false,17),(false,18),(false,19),(false,20),(false,21),(false,22),(false,23),(false,24),(true,25),(false,26)] [] (by kernel_rfl) (by kernel_rfl) (λ_ _ d _ _ h=>by cases d<;>exact h) ?_;simp only[iw];refine cS 25 rfl ?_;simp only[aU];repeat (go_big_quiet_step (fail))
        refine wpQuiet_nil ?_;clear x3 x8 Tw Tv w3 w8 yC um e3 e8 Y6 Y5;refine ep rfl ?_;intro X hX;go_wp2_with (go_at_call 83;refine (Ds _ 1 _ (.inl rfl)).mono ?_;rintro e w8 ⟨rfl,f8⟩);refine hX.out _ _ f8 ?_;clear hX X;refine cS 1 rfl ?_;simp only[aU];repeat (go_big_quiet_step (fail))
        refine wpQuiet_nil ?_;refine fE ?_;have YQ:=f8.ae (show wr.drew.heap[Q+1]?=_ from J1.out.1) (by simp);have z8:=aO YQ t;have c8:w8.cell? ⟨Q+1,t,none⟩=some (A[t]'(by rw[J1.out.2.1];exact ht)):=by rw[cell_of YQ];exact xG (by rw[J1.out.2.1];exact ht)
        have H8:=af f8;clear YQ f8;go_wp2;go_roundg k2;case measure=>omega
        case rel=>exact⟨t+1,by go_num,by omega,((zV.out.1.fr (Fr.av [] wr) (by simp)).fr H8.out (by simp)).store ht _ HV.out.symm,((zV.out.2.trans (Fr.av [Q+1] wr)).trans (H8.out.mono (by simp))).setCell (by simp) _⟩
      ·obtain rfl:t=80:=by omega
       obtain rfl:gk=0:=by omega
       have u7:=zV.out.2.ae HL.out.2.1 (by simp;exact HL.out.1);have k0:=cell_of u7 0;have k1:=cell_of u7 1;have k2:=cell_of u7 2;have k3:=cell_of u7 3;have k4:=cell_of u7 4;unfold H5.vals at k0 k1 k2 k3 k4;simp only[bw,aV,bN]at k0 k1 k2 k3 k4;have J0:=af u7;clear u7;obtain⟨wi,hwi⟩:=ah wr;rw[<-hwi]at zV J0 k0 k1 k2 k3 k4 ⊢;clear hwi;go_upto_block 6 with fail;clear k0 k1 k2 k3 k4;go_wp2;go_loopg [10,11,12,13,14,15] 80 (λk s10 s11 s12 s13 s14 s15 wr=>∃t:Nat,s15 = .int .i64 (t:Nat)/\t+k=80/\s10 = .int .u32 (rounds p t h').a/\s11 = .int .u32 (rounds p t h').b/\s12 = .int .u32 (rounds p t h').c/\s13 = .int .u32 (rounds p t h').d/\s14 = .int .u32 (rounds p t h').e/\Fr [] wi wr);case atStart=>exact⟨0,rfl,rfl,rfl,rfl,rfl,rfl,rfl,Fr.refl _ _⟩
       case round=>
        obtain⟨t,rfl,zaP,rfl,rfl,rfl,rfl,rfl,hf⟩:=hrel;have HF:=af hf;clear hf;by_cases ht:t<80
        ·obtain⟨k3,rfl⟩:∃k,gk=k+1:=⟨gk-1,by omega⟩;have fg:rounds p (t+1) h'=round p t (rounds p t h'):=rfl;unfold round at fg;have NF:(sched p 80)[t]?.getD 0=sv p t:=rfl;rw[NF]at fg;generalize rounds p t h'=s at *;obtain⟨sa,sb,sc,sd,se⟩:=s;simp only at fg;obtain⟨A,hA,cG,cM⟩:=(zV.out.1.fr HF.out (by simp)).wb;have xw:∀x,(sup [] wr.drew x).cell? ⟨Q+1,t,none⟩=some (.int .u32 (sv p t)):=λx=>(dk [] wr.drew x).cell (show wr.drew.cell? _=_ from (cell_of hA t).trans (cM t ht)) (by simp)
         have it:(t:Int)<80:=by omega
         obtain⟨q3,hq⟩:∃q,q=t/20:=⟨_,rfl⟩;rw[<-hq]at fg;have Tl:=af fg;clear fg NF hA cG cM;rcases (show q3=0\/q3=1\/q3=2\/q3=3 by omega) with rfl|rfl|rfl|rfl
         ·have Jz:decide ((60:Int)<=(t:Int))=false:=by simp;omega
          have xh:decide (60<=t)=false:=by simp;omega
          have JA:decide ((40:Int)<=(t:Int))=false:=by simp;omega
          have xi:decide (40<=t)=false:=by simp;omega
          have g20:decide ((20:Int)<=(t:Int))=false:=by simp;omega
          have xj:decide (20<=t)=false:=by simp;omega
          clear hq;go_upto_region 37 with fail;clear Jz JA g20 xh xi xj;refine jh 14 [(false,0),(false,2),(false,4),(false,6),(false,8),(false,9),(false,10),(false,11),(true,1),(false,3),(false,5),(false,7),(false,12),(false,13)] [] (by kernel_rfl) (by kernel_rfl) (λ_ _ d _ _ h=>by cases d<;>exact h) ?_;simp only[iw];refine cS 8 rfl ?_;simp only[aU];repeat (go_big_quiet_step (fail))
          refine wpQuiet_nil ?_;clear xw;refine ep rfl ?_;intro X hX;go_wp2_with (go_at_call 83;refine (Ds _ 5 _ (.inr (.inl rfl))).mono ?_;rintro e w8 ⟨rfl,f8⟩);refine hX.out _ _ f8 ?_;clear hX X;refine cS 5 rfl ?_;simp only[aU];repeat (go_big_quiet_step (fail))
          refine wpQuiet_nil ?_;refine fE ?_;have H8:=af f8;clear f8;go_wp2_with (go_at_call 83;refine (Ds _ 30 _ (.inr (.inr rfl))).mono ?_;rintro e w9 ⟨rfl,f9⟩;have H9:=af f9;clear f9);go_roundg k3;case measure=>omega
          case rel=>
           refine⟨t+1,by go_num,by omega,?_,?_,?_,?_,?_,((HF.out.trans (Fr.av [] wr)).trans H8.out).trans H9.out⟩;all_goals rw[Tl.out]
           all_goals (first|rfl|(simp only[cH,Ft,Fs,tJ,sX,ch,par,KP,uH]))
         ·have Jz:decide ((60:Int)<=(t:Int))=false:=by simp;omega
          have xh:decide (60<=t)=false:=by simp;omega
          have JA:decide ((40:Int)<=(t:Int))=false:=by simp;omega
          have xi:decide (40<=t)=false:=by simp;omega
          have g20:(20:Int)<=(t:Int):=by omega
          have xj:20<=t:=by omega
          clear hq;go_upto_region 37 with fail;clear Jz JA g20 xh xi xj;refine jh 14 [(false,0),(false,2),(false,4),(false,6),(false,8),(false,9),(false,10),(false,11),(true,1),(false,3),(false,5),(false,7),(false,12),(false,13)] [] (by kernel_rfl) (by kernel_rfl) (λ_ _ d _ _ h=>by cases d<;>exact h) ?_;simp only[iw];refine cS 8 rfl ?_;simp only[aU];repeat (go_big_quiet_step (fail))
          refine wpQuiet_nil ?_;clear xw;refine ep rfl ?_;intro X hX;go_wp2_with (go_at_call 83;refine (Ds _ 5 _ (.inr (.inl rfl))).mono ?_;rintro e w8 ⟨rfl,f8⟩);refine hX.out _ _ f8 ?_;clear hX X;refine cS 5 rfl ?_;simp only[aU];repeat (go_big_quiet_step (fail))
          refine wpQuiet_nil ?_;refine fE ?_;have H8:=af f8;clear f8;go_wp2_with (go_at_call 83;refine (Ds _ 30 _ (.inr (.inr rfl))).mono ?_;rintro e w9 ⟨rfl,f9⟩;have H9:=af f9;clear f9);go_roundg k3;case measure=>omega
          case rel=>
           refine⟨t+1,by go_num,by omega,?_,?_,?_,?_,?_,((HF.out.trans (Fr.av [] wr)).trans H8.out).trans H9.out⟩;all_goals rw[Tl.out]
           all_goals (first|rfl|(simp only[cH,Ft,Fs,tJ,sX,ch,par,KP,uH]))
         ·have Jz:decide ((60:Int)<=(t:Int))=false:=by simp;omega
          have xh:decide (60<=t)=false:=by simp;omega
          have JA:(40:Int)<=(t:Int):=by omega
          have xi:40<=t:=by omega
          have g20:(20:Int)<=(t:Int):=by omega
          have xj:20<=t:=by omega
          clear hq;go_upto_region 37 with fail;clear Jz JA g20 xh xi xj;refine jh 14 [(false,0),(false,2),(false,4),(false,6),(false,8),(false,9),(false,10),(false,11),(true,1),(false,3),(false,5),(false,7),(false,12),(false,13)] [] (by kernel_rfl) (by kernel_rfl) (λ_ _ d _ _ h=>by cases d<;>exact h) ?_;simp only[iw];refine cS 8 rfl ?_;simp only[aU];repeat (go_big_quiet_step (fail))
          refine wpQuiet_nil ?_;clear xw;refine ep rfl ?_;intro X hX;go_wp2_with (go_at_call 83;refine (Ds _ 5 _ (.inr (.inl rfl))).mono ?_;rintro e w8 ⟨rfl,f8⟩);refine hX.out _ _ f8 ?_;clear hX X;refine cS 5 rfl ?_;simp only[aU];repeat (go_big_quiet_step (fail))
          refine wpQuiet_nil ?_;refine fE ?_;have H8:=af f8;clear f8;go_wp2_with (go_at_call 83;refine (Ds _ 30 _ (.inr (.inr rfl))).mono ?_;rintro e w9 ⟨rfl,f9⟩;have H9:=af f9;clear f9);go_roundg k3;case measure=>omega
          case rel=>
           refine⟨t+1,by go_num,by omega,?_,?_,?_,?_,?_,((HF.out.trans (Fr.av [] wr)).trans H8.out).trans H9.out⟩;all_goals rw[Tl.out]
           all_goals (first|rfl|(simp only[cH,Ft,Fs,tJ,sX,ch,par,KP,uH]))
         ·have Jz:(60:Int)<=(t:Int):=by omega
          have xh:60<=t:=by omega
          have JA:(40:Int)<=(t:Int):=by omega
          have xi:40<=t:=by omega
          have g20:(20:Int)<=(t:Int):=by omega
          have xj:20<=t:=by omega
          clear hq;go_upto_region 37 with fail;clear Jz JA g20 xh xi xj;refine jh 14 [(false,0),(false,2),(false,4),(false,6),(false,8),(false,9),(false,10),(false,11),(true,1),(false,3),(false,5),(false,7),(false,12),(false,13)] [] (by kernel_rfl) (by kernel_rfl) (λ_ _ d _ _ h=>by cases d<;>exact h) ?_;simp only[iw];refine cS 8 rfl ?_;simp only[aU];repeat (go_big_quiet_step (fail))
          refine wpQuiet_nil ?_;clear xw;refine ep rfl ?_;intro X hX;go_wp2_with (go_at_call 83;refine (Ds _ 5 _ (.inr (.inl rfl))).mono ?_;rintro e w8 ⟨rfl,f8⟩);refine hX.out _ _ f8 ?_;clear hX X;refine cS 5 rfl ?_;simp only[aU];repeat (go_big_quiet_step (fail))
          refine wpQuiet_nil ?_;refine fE ?_;have H8:=af f8;clear f8;go_wp2_with (go_at_call 83;refine (Ds _ 30 _ (.inr (.inr rfl))).mono ?_;rintro e w9 ⟨rfl,f9⟩;have H9:=af f9;clear f9);go_roundg k3;case measure=>omega
          case rel=>
           refine⟨t+1,by go_num,by omega,?_,?_,?_,?_,?_,((HF.out.trans (Fr.av [] wr)).trans H8.out).trans H9.out⟩;all_goals rw[Tl.out]
           all_goals (first|rfl|(simp only[cH,Ft,Fs,tJ,sX,ch,par,KP,uH]))
        ·obtain rfl:t=80:=by omega
         obtain rfl:gk=0:=by omega
         have u7:=HF.out.ae J0.out (by simp);have zbK:=lt_of_block zV.out.1.wb.choose_spec.1;obtain⟨s,hs⟩:=ah (rounds p 80 h');rw[<-hs];obtain⟨ha,hb,hc,hd,he⟩:=h';have c0:∀x,(sup [] wr.drew x).cell? ⟨B,0,none⟩=some (.int .u32 ha):=λx=>(dk [] wr.drew x).cell (show wr.drew.cell? _=_ from cell_of u7 0) (by simp)
         have c1:∀x,(sup [] wr.drew x).cell? ⟨B,1,none⟩=some (.int .u32 hb):=λx=>(dk [] wr.drew x).cell (show wr.drew.cell? _=_ from cell_of u7 1) (by simp)
         have c2:∀x,(sup [] wr.drew x).cell? ⟨B,2,none⟩=some (.int .u32 hc):=λx=>(dk [] wr.drew x).cell (show wr.drew.cell? _=_ from cell_of u7 2) (by simp)
         have c3:∀x,(sup [] wr.drew x).cell? ⟨B,3,none⟩=some (.int .u32 hd):=λx=>(dk [] wr.drew x).cell (show wr.drew.cell? _=_ from cell_of u7 3) (by simp)
         have c4:∀x,(sup [] wr.drew x).cell? ⟨B,4,none⟩=some (.int .u32 he):=λx=>(dk [] wr.drew x).cell (show wr.drew.cell? _=_ from cell_of u7 4) (by simp)
         obtain⟨sa,sb,sc,sd,se⟩:=s;have HS:=af hs;clear u7 hs;go_upto_region 43 with fail;refine jh 26 [(false,0),(false,1),(false,2),(false,3),(false,4),(false,5),(false,6),(false,7),(false,8),(false,9),(false,10),(false,11),(false,12),(false,13),(false,14),(false,15),(false,16),(false,17),(false,18),(false,19),(false,20),(false,21),(false,22),(false,23),(false,24),(true,25)] [] (by kernel_rfl) (by kernel_rfl) (λ_ _ d _ _ h=>by cases d<;>exact h) ?_;simp only[iw];refine cS 25 rfl ?_;simp only[aU];repeat (go_big_quiet_step (fail))
         refine wpQuiet_nil ?_;clear c0 c1 c2 c3 c4;refine ep rfl ?_;intro X hX;go_wp2;refine hX.out _ _ ((Fr.refl _ wr.drew).alloc _) ?_;clear hX X;refine fE ?_;go_wp2;go_roundg (PB-at_-64);case measure=>omega
         case rel=>
          have f9:Fr [Q+1] w7 wr:=(HL.out.2.2.2.1.trans zV.out.2).trans (HF.out.mono (by simp));have Xj:64<=p.length:=by rw[Dd.l1];omega
          have nO:=HL.out.2.2.2.2.2.1;rw[<-Dd.o0,blocks,if_pos Xj]at nO;have hmx:j9 ⟨ha,hb,hc,hd,he⟩ p=⟨cH ha sa,cH hb sb,cH hc sc,cH hd sd,cH he se⟩:=by unfold j9;rw[<-HS.out]
          refine⟨at_+64,wr.drew.heap.size,j9 ⟨ha,hb,hc,hd,he⟩ p,by go_num,rfl,by omega,po,by omega,?_,?_,?_,(f9.trans (Fr.av _ wr)).alloc _,U2 _ _,?_⟩
          ·have:=HF.out.size;show wr.heap.size≠Q+1;omega
          ·rw[hmx];exact (bx wr.drew _).trans rfl
          ·obtain⟨A,g1,g2,_⟩:=(zV.out.1.fr HF.out (by simp)).wb;exact⟨A,((Fr.av [] wr).alloc _).ae g1 (by simp),g2,λj hj=>by omega⟩
          ·rw[<-J8,<-Dd.o0,<-nO];exact RM _ _ _ _ (by rw[eQ,Dd.l1];omega) (by rw[eQ,Dd.l1];have:=HL.out.2.2.2.2.2.2;omega)
    ·obtain rfl:at_=PB:=by omega
     have tr:pd.drop at_=[]:=CK (by rw[<-HP.o3];exact aw _);have bK:=HL.out.2.2.2.2.2.1;rw[tr]at bK;have hh:h'=Zm:=by
      rw[<-bK];cases gk with
      | zero=>rfl
      | succ k=>rw[blocks,if_neg (by decide)]
     obtain⟨r0,r1,r2,r3,r4⟩:=HL.out.2.2.2.2.1;obtain⟨ha,hb,hc,hd,he⟩:=h';simp only at r0 r1 r2 r3 r4;have hcs:Cs wr (some ⟨B,0,none⟩) ([ha.toNat,hb.toNat,hc.toNat,hd.toNat,he.toNat].map wv):=by
      refine .inr ⟨B,0,rfl,λj v hv=>?_⟩;rw[fM,cell_of HL.out.2.1];have e:([ha.toNat,hb.toNat,hc.toNat,hd.toNat,he.toNat].map wv)=(H5.vals ⟨ha,hb,hc,hd,he⟩).toList:=by simp only[gW,oJ,wv,H5.vals];rw[Ht r0.1,Ht r1.1,Ht r2.1,Ht r3.1,Ht r4.1]
      rw[e,qW]at hv;exact hv
     have xN:=qpu (some ⟨B,0,none⟩) 5 [ha.toNat,hb.toNat,hc.toNat,hd.toNat,he.toNat] wr hcs (by intro v hv;simp only[gw,v7,or_false]at hv;rcases hv with rfl|rfl|rfl|rfl|rfl<;>omega) (by simp) (by simp) (by decide);have I8:Fr [] w wr:=(HP.o0.trans H7.o0).step HL.out.2.2.2.1 (λy hy=>.inr (by simp at hy;have:=HP.o0.size;have:=H7.o3;omega));have OY:mq [ha.toNat,hb.toNat,hc.toNat,hd.toNat,he.toNat]=dY bs:=by rw[HP.l5,<-hh];simp[mq,vu]
     have HX:=au xN I8 OY;clear xN I8 OY hcs r0 r1 r2 r3 r4 hh bK tr;go_wp2_with (go_at_call 82;refine HX.o0.mono ?_;rintro e w9 ⟨a9,c9,rfl,r9,n9,f9⟩;have H9:=au r9 n9 f9;clear r9 n9 f9);go_ret;refine⟨⟨a9,c9,rfl,by rw[<-HX.l2];exact H9.out.1,λx hx=>⟨bS HX.o1.size (H9.out.2.1 x hx).1,(H9.out.2.1 x hx).2⟩⟩,HX.o1.trans H9.out.2.2⟩
end sha
namespace pk
open Go Go.RowKit lib bm
theorem zah (ao:Option Addr) (cap:Nat) (bs:List UInt8) (w:World) (h:lib.Rd w ao cap bs) (hlen:bs.length<=10000000) :
  Calls Tryz.prog 50 #[.slice ao bs.length cap] w λe w'=>e = .returned (.string (str (ib bs)))/\Fr [] w w':=by
 obtain⟨L,hL⟩:=ah bs.length;have YF:L<=10000000:=by omega
 have HI:=ak h hL;rw[<-hL];clear h hL hlen;go_enter Tryz.func50,Tryz.ntmps50;go_wp2;go_loopg [3,4] L (λk s3 s4 wr=>∃i a c out,s4 = .int .i64 (i:Nat)/\s3 = .slice a out.length c/\i+k=L/\Wr w wr a c out/\out=ib (bs.take i));case atStart=>exact⟨0,none,0,[],rfl,rfl,by omega,UZ w w (Fr.refl _ _),rfl⟩
 case round=>
  obtain⟨i,a,c,out,rfl,rfl,bU,h,aR⟩:=hrel;have gD:out.length=2*i:=by rw[aR,eV,eJ,<-HI.l1];omega
  have H:=au h aR gD;have vO:out.length<=20000000:=by omega
  clear h aR gD;by_cases hi:i<L
  ·obtain⟨k,rfl⟩:∃k,gk=k+1:=⟨gk-1,by omega⟩;have eC:i<bs.length:=by rw[<-HI.l1];exact hi
   have hcs:=HI.o0.cs;have tA:=λx hx=>hcs.lt (show bs.map bv≠[] by intro e;have:=congrArg List.length e;rw[cN]at this;simp at this;rw[this]at eC;simp at eC) x hx
   obtain⟨g,o,rfl,hc⟩:=(hcs.fr H.out.1.fr (by simp)).at (by rw[cN];omega);have Er:g<w.heap.size:=tA ⟨g,o,none⟩ rfl;have rP:=hc i (bv bs[i]) (by rw[j5,bO eC];rfl);unfold bv at rP;have gM:=RB (bs[i].toNat/16) (by have:=iB bs[i];omega);have dT:=RB (bs[i].toNat%16) (by omega);have e1:=Cd bs[i];have sI:=iB bs[i];have fH:=qn7 bs[i];have HT:=af (show bs.take (i+1)=bs.take i++[bs[i]] from DJ eC);obtain⟨b,hb⟩:=ah (bs[i]);rw[<-hb]at rP gM dT e1 sI fH HT;have Dg:=af fH;clear hc eC hb fH hcs tA;obtain⟨S,hS⟩:=ah (ae a);have q0:∀x,(sup S wr.drew x).cell? ⟨g,o+i,none⟩=some (.int .u8 ((b.toNat:Nat):Int)):=λx=>(dk S wr.drew x).cell ((Fr.av [] wr).cell rP (by simp)) (λhm=>by rw[hS]at hm;have:=H.out.1.new g hm;omega)
   have HS:=af hS;clear hS Er;have e0:((b.toNat:Nat):Int)/16=((b.toNat/16:Nat):Int):=by omega
   go_upto_region 5 with fail;generalize (rN (b.toNat/16)).toNat=h0 at *;generalize (rN (b.toNat%16)).toNat=h1 at *;generalize b.toNat%16=b1 at *;generalize b.toNat/16=b0 at *;clear rP;refine jh 15 [(false,0),(false,1),(false,2),(false,3),(false,4),(false,5),(false,6),(false,7),(false,8),(false,9),(false,10),(false,11),(false,12),(true,13),(true,14)] S (by kernel_rfl) (by kernel_rfl) (λ_ _ d _ _ h=>by cases d<;>exact h) ?_;simp only[iw];refine cS 13 rfl ?_;simp only[aU];repeat (go_big_quiet_step (fail))
   refine wpQuiet_nil ?_;clear e0 e1 gM dT q0;refine ep rfl ?_;intro X hX;go_wp2;refine hX.out _ _ ((Fr.refl _ wr.drew).alloc _) ?_;clear hX X;have dF:Fr [] wr (wr.drew.alloc (.cells #[.int .u8 h0,.int .u8 h1] 5)):=(Fr.av [] wr).alloc _;have cT:=dr H.out.1.own dF (by simp);have cA:Cs (wr.drew.alloc (.cells #[.int .u8 h0,.int .u8 h1] 5)) (some ⟨wr.drew.heap.size,0,none⟩) ((rO b).map bv):=by rw[Dg.out];exact .inr ⟨wr.drew.heap.size,0,rfl,λj u hj=>by rw[cell_of (bx wr.drew _)];simpa using hj⟩
   refine ep rfl ?_;intro X hX;refine uv aq _ _ rfl (.slice a out.length c) out.length (out.map bv) S rfl (by rw[dw,HS.out]) cT (some ⟨wr.drew.heap.size,0,none⟩) 2 2 ((rO b).map bv) rfl (by decide) (by simp) cA (by rfl) (jQ _) (by omega) (by unfold maxLen;omega) ?_;intro a2 c2 w2 A1;refine hX.out _ _ A1.fr ?_;clear hX X;refine fE ?_;have HA:=ak dF A1;clear dF A1 cT cA;go_wp2;go_roundg k;case measure=>omega
   case rel=>have A1:=HA.l1;rw[HS.out]at A1;exact⟨i+1,a2,c2,out++rO b,by go_num,by rw[aK];rfl,by omega,H.out.1.step2 HA.o0 A1,by rw[HT.out,qqx,<-H.out.2.1]⟩
  ·obtain rfl:i=L:=by omega
   obtain⟨r1,_⟩:=wh H.out.1.own;have cv:=yK wr Tryz.underlying23 Tryz.underlying5 Tryz.underlying9 (rfl:out.length=out.length) r1.cs;have HO:=af (show out=ib bs by rw[H.out.2.1,HI.l1,G9]);clear r1;go_wp2;go_ret;exact⟨by rw[<-HO.out];rfl,H.out.1.fr⟩
end pk

end Go.Proofs.YtkmpfgpfbmeihaaGreatDoor