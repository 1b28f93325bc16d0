/-
  Texts of this proof, one behind the other: RefP, RefQ, RefU, StrB, ObjB.
-/
import Derived.Test.YticadfhpolhkeaaGreatDoorQ23
set_option maxHeartbeats 16000000
set_option maxRecDepth 100000
set_option linter.unusedVariables false
set_option linter.unusedSimpArgs false
namespace Go.Proofs.YticadfhpolhkeaaGreatDoor
namespace ob
open Go Go.RowKit lib fs lo pk
variable {w w':World}
set_option maxRecDepth 100000
def eS:Nm:=[114,101,102,115,45,48,46,108,111,99,107]
def fj:Nm:=[114,101,102,115,45,110,101,120,116,46,108,111,99,107]
def gy:Nm:=[114,101,102,115,45,112,108,97,110,46,108,111,99,107]
def dD (nm:Nm):List UInt8:=[115,101,116,32,48,32]++nm++[10]
theorem zdb:aw Tryz.prog 229 236 .nilIface 1 16:=aw.of Tryz.underlying229 (by kernel_rfl) rfl (by decide)
theorem qs9 (f:Fn) (b v:AV) (w:World):Calls Tryz.prog 81 #[.slice none 0 0,.func f b v] w λe w'=>e = .returned (.slice none 0 0)/\w'=w:=by
 have k:Calls Tryz.prog 143 #[.slice none 0 0,.func f b v] w λe w'=>e = .returned (.int .i64 (-1))/\w'=w:=by
  go_enter Tryz.func143,Tryz.ntmps143;go_wp2;go_loopg [8] 0 (λk s8 wr=>s8 = .int .i64 0/\wr=w);case atStart=>exact⟨rfl,rfl⟩
  case round=>obtain⟨rfl,rfl⟩:=hrel;go_wp2;go_ret;exact⟨rfl,rfl⟩
 have H:=af k;clear k;go_enter Tryz.func81,Tryz.ntmps81;go_wp2_with (go_at_call 143;(refine H.out.mono ?_;rintro e w1 ⟨rfl,hw⟩;obtain rfl:=hw.symm));go_ret;exact⟨rfl,rfl⟩
theorem qw4 (w:World):Calls Tryz.prog 132 #[.slice none 0 0] w λe w'=>e = .returned (.slice none 0 0)/\w'=w:=by
 have qT:∀(w:World) (a:OA) (n c n' c':Nat),(binOp .eql 84 (.slice a n c) (.slice none n' c')).run Tryz.prog w = .ok (.bool a.isNone) w:=λw a n c n' c'=>Lib.run_eql_slice_nil w _ _ a n c n' c' Tryz.underlying84
 go_enter Tryz.func132,Tryz.ntmps132;go_wp2;go_ret;exact⟨rfl,rfl⟩
theorem qkh {P:Program} {e:TypeId} {o:Oper} {a:Act} {K:Act->World->Prop} {Q:Exit->Act->World->Prop} {src dst:TypeId} (hs:P.underlying src=some .string) (hd:P.underlying dst=some (.slice e)) (he:P.underlying e=some (.int .u8))
  (qR:o.guard=none) (x:Operand) (ho:o.op = .convert src dst x) (bs:LB) (hx:a.eval x = .string (str bs)) (hm:bs.length<=maxLen)
  (h:∀cap w',bs.length<=cap->iY w' e (some ⟨w.heap.size,0,none⟩) cap (bs.map bv)->Fr [] w w'->K (a.put o.dst (.slice (some ⟨w.heap.size,0,none⟩) bs.length cap)) w'):o.wp P a w K Q:=by
 have hr:=run_bytes_of_string (P:=P) w src dst e (str bs) hs hd he;have cZ:(str bs).size=bs.length:=by simp[str,ByteArray.size]
 rw[cZ]at hr;have h1:=grownCap_ge w bs.length 0 e;have h2:=grownCap_le_maxLen w bs.length 0 e hm;generalize grownCap w bs.length 0 e=cap at *;unfold Oper.wp execOp;simp only[ho,hx,Bz,EP,Sem.run_pure,hr];have hb:=aV w.drew (.cells (bytesRow (str bs) cap) e ((bytesRow (str bs) cap).size,(bytesRow (str bs) cap).size+1));have ec:(bytesRow (str bs) cap).toList.take bs.length=bs.map bv/\(bytesRow (str bs) cap).size=cap:=by
  constructor
  ·unfold bytesRow;rw[Array.toList_append,DF (by simp[str]),lL (by simp[str])];simp[str,bv]
  ·unfold bytesRow;simp;omega
 refine h cap _ h1 (.inr ⟨w.heap.size,0,_,_,rfl,hb,.inr (ax _),by simpa using h1,h2,by rw[ec.2];omega,?_⟩) ((Fr.aB [] w).alloc _);rw[nE,gx];exact ec.1
theorem qw8 (R F n M:Nat) (t:Nm->Option (List UInt8)) (lab:Nat->Option Lb) (la:OA) (lc:Nat) (nm old new:Nm) (w:World) (h:RS w R F n M t lab) (nn:1<=lc/\lc<=1000) (hc:Ch w la nm old new) (eh:∀x∈ag la,lab x=none) (jP:nm.length<=100) (bZ:kP new)
  (hp:t gC=none) (h0:t eS=none) (hn:t fj=none) (hM:200<=M) (iV:M<=100000) (dh:(n+3)*M<=1048576) (kM:n<870) :
  Calls Tryz.prog 72 #[.pointer (some ⟨R,0,none⟩),.slice la 1 lc] w (Ro w R F (n+2) M (aS (aS t eS (some (new++[10]))) fj (some (dD nm))) lab):=by
 obtain⟨g,o,rfl,hh⟩:=hc.cs.at (by simp);have d0:w.cell? ⟨g,o,none⟩=some (.string (str nm)):=hh 0 _ rfl;have d1:w.cell? ⟨g,o+1,none⟩=some (.string (str old)):=hh 1 _ rfl;have d2:w.cell? ⟨g,o+2,none⟩=some (.string (str new)):=hh 2 _ rfl;have zp:∀(f:Nat) (w:World),(method (f+1) 233 (.agg #[.int .i64 0,.string (str nm)]) "stemma/ref.line").run Tryz.prog w = .ok (439,(.agg #[.int .i64 0,.string (str nm)])) w:=λ_ _=>by kernel_rfl
 have uv:∀w:World,(Instr.typeAssert (.iface 233 (.agg #[.int .i64 0,.string (str nm)])) 236 233 true).run Tryz.prog w = .ok (.tuple #[.agg #[.int .i64 0,.string (str nm)],.bool true]) w:=λ_=>by kernel_rfl
 have oT:=λw' (f:Fr [] w w')=>qq6 R F n M t lab w' (f.ag h.box (by simp)) (h.fs.fr f (by simp)) hp
 have nL:=zej nm (by omega);have fE:str new++(⟨#[10]⟩:ByteArray)=str (new++[10]):=by rw[<-gH];rfl
 have zB:(⟨#[]⟩:ByteArray)++(str ([115,101,116,32,48,32]++nm)++(⟨#[10]⟩:ByteArray))=str (dD nm):=by have e:(⟨#[10]⟩:ByteArray)=str [10]:=rfl;rw[e,gH,show (⟨#[]⟩:ByteArray)=str [] from rfl,gH];rfl
 have rJ:(str ([115,101,116,32,48,32]++nm)).size<=200:=by rw[aj];simp;omega
 have DT:(str new).size=40:=by rw[aj,bZ.len]
 obtain⟨Z,hZ⟩:=ah (str nm);obtain⟨J,hJ⟩:=ah (str new);obtain⟨U,hU⟩:=ah (str ([115,101,116,32,48,32]++nm));have e1:J.toList≠[]:=by rw[hJ,ay];intro e;have:=bZ.len;rw[e]at this;cases this
 have e2:J.toList.isEmpty=false:=by simpa using e1
 rw[<-hZ]at d0 zp uv nL;rw[<-hJ]at d2 fE DT;rw[<-hU]at nL zB rJ;have H:=cU h oT nL fE zB eh;have D:=aq d0 d1 d2;have HL:=aA bZ.len h0 hn jP;clear h oT nL fE zB eh hh hc bZ hZ hJ hU hp h0 hn;go_enter Tryz.func72,Tryz.ntmps72;go_upto_region 3 with fail;obtain⟨w0,kz⟩:=ah (w.alloc (.cells #[.slice none 0 0] 43));obtain⟨P0,hP0⟩:=ah w.heap.size;have f0:Fr [] w w0:=by rw[kz];exact (Fr.refl [] w).alloc _
 rw[<-kz,<-hP0];have F0:=af f0;clear kz hP0 f0;go_wp2;go_loopg [5,20] 1 (λk s5 s20 wr=>∃j:Nat,s20 = .int .i64 (j:Nat)/\j+k=1/\(j=0->s5 = .slice none 0 0/\wr=w0)/\(j=1->∃b q,s5 = .slice b 1 q/\Cs wr b [.iface 233 (.agg #[.int .i64 0,.string Z])]/\(∀x∈ag b,w.heap.size<=x)/\Fr [] w wr));case atStart=>exact⟨0,rfl,by omega,λ_=>⟨rfl,rfl⟩,λh=>by cases h⟩
 case round=>
  obtain⟨j,rfl,fP,k0,k1⟩:=hrel;by_cases hj:j=0
  ·obtain rfl:gk=0+1:=by omega
   obtain⟨rfl,rfl⟩:=k0 hj;subst hj;have d0:wr.cell? ⟨g,o,none⟩=_:=F0.out.cell D.o0 (by simp);have d1:wr.cell? ⟨g,o+1,none⟩=_:=F0.out.cell D.o1 (by simp);have d2:wr.cell? ⟨g,o+2,none⟩=_:=F0.out.cell D.l2 (by simp);clear k0 k1;go_wp2_with (at_builtin;go_loud (refine fq zdb rfl _ _ rfl (.slice none 0 0) 0 [] [] rfl rfl (oE _ _ _ _) (some ⟨wr.heap.size+1,0,none⟩) 1 1 [.iface 233 (.agg #[.int .i64 0,.string Z])] rfl (ax _) (by simp) (by rw[<-ik wr];exact oC _ _ _ _) rfl (by simp[Value.oneCell']) (by omega) (by unfold maxLen;omega) ?_;intro a3 q3 w3 A3;have H3:=af A3;clear A3));go_roundg 0;case measure=>omega
   case rel=>have fb:=((Fr.refl [] wr).alloc (.cells #[.string Z,.string (str old),.string J] 39)).alloc (.cells #[.iface 233 (.agg #[.int .i64 0,.string Z])] 236);refine⟨1,rfl,by omega,(λh=>by cases h),λ_=>⟨a3,q3,rfl,by simpa using qK H3.out.own,λx hx=>?_,(F0.out.trans fb).trans H3.out.fr⟩⟩;have h1:=H3.out.at_ x hx;have h2:=F0.out.size;have h3:=fb.size;simp only[mV,false_or]at h1;omega
  ·obtain rfl:j=1:=by omega
   obtain rfl:gk=0:=by omega
   obtain⟨b,q,rfl,hcs,kY,f⟩:=k1 rfl;obtain⟨w1,aJ⟩:=ah wr;rw[<-aJ]at hcs f ⊢;have H1:=aq hcs kY f;clear k0 k1 hcs kY f aJ fP hj;go_wp2_with (first
    | (go_at_call 101;go_loud (refine (H.o1 _ H1.l2).mono ?_;rintro e w2 ⟨rfl,f2⟩;have H2:=af f2;clear f2))
    | (go_at_call 132;go_loud (refine (qw4 _).mono ?_;rintro e w3 ⟨rfl,hw⟩;obtain rfl:=hw.symm))
    | (go_at_call 81;go_loud (refine (qs9 _ _ _ _).mono ?_;rintro e w3 ⟨rfl,hw⟩;obtain rfl:=hw.symm)))
   obtain⟨ws,LM⟩:=ah w2;have k2:RS ws R F n M t lab:=by rw[LM];exact (H.o0.fr H1.l2).fr H2.out
   rw[<-LM];have HS:=aq k2 (show Cs ws b _ by rw[LM];exact H1.o0.fr H2.out (by simp)) (show Fr [] w ws by rw[LM];exact H1.l2.trans H2.out);clear k2 LM d0 d1 d2;go_loopg [11,69] 1 (λk s11 s69 wr=>∃j:Nat,s69 = .int .i64 (j:Nat)/\j+k=1/\(j=0->s11 = .string ⟨#[]⟩/\wr=ws)/\(j=1->s11 = .string (str (dD nm))/\∃av,RS wr R F (n+1) M (aS t eS (some (new++[10]))) av/\dS w lab wr av));case atStart=>exact⟨0,rfl,by omega,λ_=>⟨rfl,rfl⟩,λh=>by cases h⟩
   case round=>
    obtain⟨j,rfl,fP,k0,k1⟩:=hrel;by_cases hj:j=0
    ·obtain rfl:gk=0+1:=by omega
     obtain⟨rfl,rfl⟩:=k0 hj;subst hj;clear k0 k1;obtain⟨gb,ob,hgb,ve⟩:=HS.out.2.1.at (by simp);have c0:wr.cell? ⟨gb,ob,none⟩=_:=ve 0 _ rfl;subst hgb;have d2:wr.cell? ⟨g,o+2,none⟩=some (.string J):=HS.out.2.2.cell D.l2 (by simp);go_upto_region 23 with fail;obtain⟨w4,jO⟩:=ah (wr.alloc (.cells #[.int .i64 0,.string Z] 233));obtain⟨X,hX⟩:=ah wr.heap.size;have b4:w4.heap[X]?=some (.cells #[.int .i64 0,.string Z] 233 (0,0)):=by rw[jO,hX];exact aV wr _
     have f4:Fr [] wr w4:=by rw[jO];exact (Fr.refl [] wr).alloc _
     rw[<-jO,<-hX];have s0:∀x,(sup [] w4.drew x).cell? ⟨X,0,none⟩=some (.int .i64 0):=λx=>(gB [] w4.drew x).cell (show w4.drew.cell? _=_ from (cell_of b4 0).trans rfl) (by simp)
     have s2:∀x,(sup [] w4.drew x).cell? ⟨g,o+2,none⟩=some (.string J):=λx=>(gB [] w4.drew x).cell (show w4.drew.cell? _=_ from f4.cell d2 (by simp)) (by simp)
     have H4:=af (Fr.drew f4);have k4:=H4.out.size;clear jO hX b4 f4 c0 d2;have hit:=λw=>Tryz.strconv_Itoa_small 0 (by decide) w
     rw[show (⟨(Lib.decDigits 0).toArray⟩:ByteArray)=⟨#[48]⟩ by rw[show Lib.decDigits 0=[48] by unfold Lib.decDigits;simp]]at hit;have HI:=af hit;clear hit;refine qs8 14 (.one false 0 (.one false 1 (.one false 2 (.one false 6 (.one false 7 (.one false 8 (.one false 9 (.one false 10 (.one false 11 (.one false 12 (.two 3 (.one false 4 (.one false 5 (.one true 13 (.done)))) 13 (.one true 3 (.one false 4 (.one false 5 (.done))))))))))))))) [] (by kernel_rfl) (by kernel_rfl) (λ_ _ d _ _ h=>by cases d<;>exact h) ?_;simp only[OT.map,BS,BR,nY,nE,Ld];refine Ky 10 ?_;simp only[OT.kb,OT.behind];repeat (go_big_quiet_step (fail))
     refine wpQuiet_nil ?_;clear s0 s2;refine Kz rfl rfl ?a1 ?a2;case' a1=>
      intro K hK;go_wp2_with (go_at_call 55;go_loud (refine (HI.out _).mono ?_;rintro e w5 ⟨rfl,hw⟩;obtain rfl:=hw.symm));refine hK.out _ _ (Fr.refl _ _) ?_;clear hK K;refine Ky 2 ?_;simp only[OT.kb,OT.behind];repeat (go_big_quiet_step (fail))
      refine wpQuiet_nil ?_;refine uk rfl ?_;intro K hK;refine qkh (e:=5) Tryz.underlying9 Tryz.underlying35 Tryz.underlying5 rfl _ rfl (new++[10]) (by exact congrArg Value.string H.o3) (by rw[aG,HL.o0];unfold maxLen;decide) ?_;intro cap w5 hc5 o5 f5;have oW:(new++[10]).length=41:=by rw[aG,HL.o0];rfl
      rw[oW];refine hK.out _ _ f5 ?_;clear hK K;refine Di ?_
     case' a2=>
      intro K hK;refine qkh (e:=5) Tryz.underlying9 Tryz.underlying35 Tryz.underlying5 rfl _ rfl (new++[10]) (by exact congrArg Value.string H.o3) (by rw[aG,HL.o0];unfold maxLen;decide) ?_;intro cap w5 hc5 o5 f5;have oW:(new++[10]).length=41:=by rw[aG,HL.o0];rfl
      rw[oW];refine hK.out _ _ f5 ?_;clear hK K;refine uk rfl ?_;intro K hK;go_wp2_with (go_at_call 55;go_loud (refine (HI.out _).mono ?_;rintro e w6 ⟨rfl,hw⟩;obtain rfl:=hw.symm));refine hK.out _ _ (Fr.refl _ _) ?_;clear hK K;refine Ky 2 ?_;simp only[OT.kb,OT.behind];repeat (go_big_quiet_step (fail))
      refine wpQuiet_nil ?_;refine Di ?_
     all_goals
      have zf:(n+3)*M=(n+1)*M+2*M:=by rw[<-oD]
      have kw:=Zy R F n M t lab eS _ cap (new++[10]) w5 (HS.out.1.fr (H4.out.trans f5)) ⟨by decide,by decide,by decide⟩ HL.o1 o5.rd (λ_ x hx=>yE HS.out.1.fs (by simp only[ag,eF]at hx;omega)) (by omega) iV (by omega) (by omega)
      rw[oW]at kw
      have H5:=ai f5 kw
      clear kw o5 hc5 oW zf f5
      go_wp2_with (first
       | (go_at_call 134;go_loud (refine H5.l1.mono ?_;rintro e w6 ⟨rfl,UF,k6,s6⟩;have H6:=ai k6 s6;clear k6 s6))
       | (go_at_call 439;go_loud (refine (H.o2 _).mono ?_;rintro e w7 ⟨rfl,f7⟩;have H7:=af f7;clear f7)))
      go_roundg 0
      case measure=>omega
      case rel=>
       refine⟨1,rfl,by omega,(λh=>by cases h),λ_=>⟨?_,UF,H6.o0.fr H7.out,?_⟩⟩
       ·exact congrArg Value.string H.o4
       ·exact ((dS.refl w lab (HS.out.2.2.trans (H4.out.trans H5.o0))).trans H6.l1).trans (dS.refl _ _ H7.out)
    ·obtain rfl:j=1:=by omega
     obtain rfl:gk=0:=by omega
     obtain⟨rfl,mI,k5,s5⟩:=k1 rfl;clear k0 k1;have H5:=ai k5 s5;clear k5 s5;have jq:(dD nm).length<=200:=by unfold dD;have:=HL.l3;simp;omega
     have zf:(n+3)*M=(n+1+1)*M+M:=by rw[<-Nat.succ_mul]
     have bg:aS t eS (some (new++[10])) fj=none:=by unfold aS;rw[if_neg (by decide)];exact HL.o2
     have HP:=aq jq zf bg;clear jq zf bg;go_wp2_with (first
      | (refine IY (e:=5) Tryz.underlying9 Tryz.underlying35 Tryz.underlying5 rfl _ rfl (dD nm) rfl (by have:=HP.o0;unfold maxLen;omega) ?_;intro cap w6 Nk o6 f6 Qw;have kw:=ai f6 (Zy R F (n+1) M _ mI fj _ cap (dD nm) w6 (H5.o0.fr f6) ⟨by decide,by decide,by decide⟩ HP.l2 o6.rd (λ_ x hx=>yE H5.o0.fs (by simp only[ag,eF]at hx;omega)) (by have:=HP.o0;omega) iV (by have:=HP.o0;have:=HP.o1;omega) (by omega));clear Nk o6 f6 Qw)
      | (go_at_call 134;go_loud (refine kw.l1.mono ?_;rintro e w8 ⟨rfl,uJ,k8,s8⟩;have H8:=ai k8 s8;clear k8 s8)))
     go_ret;exact⟨rfl,uJ,H8.o0,(H5.l1.trans (dS.refl _ _ kw.o0)).trans H8.l1⟩
set_option maxRecDepth 100000
structure MX (w:World) (lab:Nat->Option Lb) (m:Int):Prop where
 cell:w.cell? ⟨2,0,none⟩=some (.int .i64 m)
 off:lab 2=none
theorem MX.step {lab av:Nat->Option Lb} {m:Int} (h:MX w lab m) (s:dS w lab w' av):MX w' av m:=by have bF:=World.block_lt_of_cell? w _ h.cell;refine⟨?_,BA s h.off bF⟩;obtain⟨⟨T,f,hT⟩,_⟩:=s;exact f.cell h.cell (λhm=>hT _ hm h.off)
theorem MX.fr {lab:Nat->Option Lb} {m:Int} (h:MX w lab m) (f:Fr [] w w'):MX w' lab m:=⟨f.cell h.cell (by simp),h.off⟩
def gO (nm:Nm):List UInt8:=[115,101,116,32,48,32]++nm
structure rj (nm:Nm):Prop where
 one:Lib.countB (str (gO nm)) ⟨#[10]⟩=0
 len:nm.length<=100
 nok:lF nm
 ne:eS≠nm/\gy≠nm
theorem zft (R F n M:Nat) (t:Nm->Option (List UInt8)) (lab:Nat->Option Lb) (nm:Nm) (v pl:LB) (m:Int) (w:World) (h:RS w R F n M t lab) (hx:MX w lab m) (hl:rj nm) (h0:t eS=some v) (hp:t gy=some pl) (kM:n<870) :
  Calls Tryz.prog 75 #[.pointer (some ⟨R,0,none⟩),.string (str (dD nm))] w (Ro w R F (n+2) M (aS (aS (aS t nm (some v)) eS none) gy none) lab):=by
 have Fx:∀w,Calls Tryz.prog 138 #[.string (str (dD nm)),.string ⟨#[10]⟩] w λe w'=>e = .returned (.string (str (gO nm)))/\w'=w:=λw=>by
  have:=Tryz.strings_TrimSuffix (str (dD nm)) (str [10]) w (by rw[aj];have:=hl.len;unfold dD;simp;omega);rw[show Lib.trimSuffix (str (dD nm)).data.toList (str [10]).data.toList=gO nm from by
   show Lib.trimSuffix (gO nm++[10]) [10]=gO nm
   unfold Lib.trimSuffix
   rw[if_pos (qns _ _)]
   simp]at this
  exact this
 have hsl:(str (gO nm)).size<=200:=by rw[aj];have:=hl.len;unfold gO;simp;omega
 have yf:∀w,w.cell? ⟨2,0,none⟩=some (.int .i64 m)->Calls Tryz.prog 48 #[.string (str (gO nm)),.string ⟨#[10]⟩] w λe w'=>e = .returned (.slice (some ⟨w.heap.size,0,none⟩) 1 1)/\w'=w.alloc (.cells #[.string (str (gO nm))] 9):=λw hm=>by have:=Tryz.strings_Split (str (gO nm)) ⟨#[10]⟩ m w (by omega) hm (by decide);rw[hl.one,Lib.splitB_zero]at this;exact this
 have bR:∀w,w.cell? ⟨2,0,none⟩=some (.int .i64 m)->Calls Tryz.prog 139 #[.string (str (gO nm)),.string ⟨#[32]⟩] w λe w'=>e = .returned (.tuple #[.string ⟨#[115,101,116]⟩,.string (str ([48,32]++nm)),.bool true])/\Fr [] w w':=λw hm=>by
  refine (Tryz.strings_Cut (str (gO nm)) (str [32]) m w (by omega) hm).mono λe w' ⟨he,n,hw⟩=>?_
  rw[show Lib.cut (str (gO nm)).data.toList (str [32]).data.toList=([115,101,116],[48,32]++nm,true) from (by
   have e:(str (gO nm)).data.toList=[115,101,116]++32::([48,32]++nm):=rfl
   rw[e]
   exact Sg 32 [115,101,116] ([48,32]++nm) (by decide))]at he
  exact⟨he,by rw[hw];exact Fr.drewN [] w n⟩
 have gp:∀w,w.cell? ⟨2,0,none⟩=some (.int .i64 m)->Calls Tryz.prog 139 #[.string (str ([48,32]++nm)),.string ⟨#[32]⟩] w λe w'=>e = .returned (.tuple #[.string ⟨#[48]⟩,.string (str nm),.bool true])/\Fr [] w w':=λw hm=>by
  refine (Tryz.strings_Cut (str ([48,32]++nm)) (str [32]) m w (by rw[aj];have:=hl.len;simp;omega) hm).mono λe w' ⟨he,n,hw⟩=>?_
  rw[show Lib.cut (str ([48,32]++nm)).data.toList (str [32]).data.toList=([48],nm,true) from Sg 32 [48] nm (by decide)]at he;exact⟨he,by rw[hw];exact Fr.drewN [] w n⟩
 have AR:=λw' (f:Fr [] w w')=>zhi R F n M t lab eS nm v w' (h.fr f) ⟨by decide,by decide,by decide⟩ hl.nok hl.ne.1 h0 (by omega)
 obtain⟨Z,hZ⟩:=ah (str nm);obtain⟨U,hU⟩:=ah (str (gO nm));obtain⟨V,hV⟩:=ah (str ([48,32]++nm));obtain⟨T,hT⟩:=ah (str (dD nm));rw[<-hZ]at gp AR;rw[<-hU]at Fx yf bR hsl;rw[<-hV]at bR gp;rw[<-hT]at Fx ⊢;have H:=aQ Fx yf bR gp AR;have HH:=aA h hx hp hl;clear Fx yf bR gp AR hZ hU hV hT h hx hp hl h0 hsl;go_enter Tryz.func75,Tryz.ntmps75;go_upto_block 0 with (first
  | (go_at_call 138;go_loud (refine (H.o0 _).mono ?_;rintro e w1 ⟨rfl,hw⟩;obtain rfl:=hw.symm))
  | (go_at_call 48;go_loud (refine (H.o1 _ HH.o1.cell).mono ?_;rintro e w1 ⟨rfl,hw⟩;have f1:Fr [] w w1:=(by rw[hw];exact (Fr.refl [] w).alloc _);have b1:w1.heap[w.heap.size]?=some (.cells #[.string U] 9 (0,0)):=(by rw[hw];exact aV w _);have H1:=af f1;clear hw f1)))
 have u0:=(cell_of b1 0).trans (show _=some (Value.string U) from rfl);clear b1;go_wp2;go_loopg [19] 1 (λk s19 wr=>∃j:Nat,s19 = .int .i64 (j:Nat)/\j+k=1/\(j=0->wr=w1)/\(j=1->∃av,RS wr R F (n+1) M (aS (aS t nm (some v)) eS none) av/\dS w lab wr av));case atStart=>exact⟨0,rfl,by omega,λ_=>rfl,λh=>by cases h⟩
 case round=>
  obtain⟨j,rfl,fP,k0,k1⟩:=hrel;by_cases hj:j=0
  ·obtain rfl:gk=0+1:=by omega
   obtain rfl:=k0 hj;subst hj;clear k0 k1;have mx:=HH.o1.cell;have HM:=af (H1.out.cell mx (by simp));clear mx;go_wp2_with (first
    | (go_at_call 139;first
     | (with_reducible refine (H.o2 _ HM.out).mono ?_;rintro e w2 ⟨rfl,f2⟩;have M2:=af (f2.cell HM.out (by simp));have H2:=af f2;clear f2)
     | (with_reducible refine (H.o3 _ M2.out).mono ?_;rintro e w3 ⟨rfl,f3⟩;have H3:=af f3;clear f3))
    | (go_at_call 140;go_loud (refine (H.l4 _ ((H1.out.trans H2.out).trans H3.out)).mono ?_;rintro e w4 ⟨rfl,qj,k4,s4⟩;have H4:=ai k4 s4;clear k4 s4)))
   go_roundg 0;case measure=>omega
   case rel=>exact⟨1,rfl,by omega,(λh=>by cases h),λ_=>⟨qj,H4.o0,(dS.refl w lab ((H1.out.trans H2.out).trans H3.out)).trans H4.l1⟩⟩
  ·obtain rfl:j=1:=by omega
   obtain rfl:gk=0:=by omega
   obtain⟨qj,k4,s4⟩:=k1 rfl;have c0:=k4.c0;have zf:=qw0 F (n+1) M _ qj gy pl wr k4.fs ⟨by decide,by decide,by decide⟩ (show aS (aS t nm (some v)) eS none gy=some pl by
    unfold aS
    rw[if_neg (by decide),if_neg HH.l3.ne.2]
    exact HH.o2) (by omega)
   have H4:=aq k4 s4 zf;clear k0 k1 k4 s4 zf u0;go_wp2_with (first
    | (go_at_call 120;go_loud (refine H4.l1.2.mono ?_;rintro e w5 ⟨rfl,mI,h5,s5⟩;have k5:=H4.o0.step h5 s5;have c5:=k5.c0;have hs:=PQ F _ _ _ mI w5 k5.fs;have H5:=aq k5 s5 hs;clear h5 s5 k5 hs))
    | (go_at_call 69;go_loud (refine H5.l2.mono ?_;rintro e w6 ⟨rfl,h6,s6⟩;have H6:=ai h6 s6;clear h6 s6)))
   go_ret;exact⟨rfl,mI,H5.o0.step H6.o0 H6.l1,(H4.l1.1.trans H5.o1).trans H6.l1⟩
set_option maxRecDepth 100000
structure Idle (t:Nm->Option (List UInt8)):Prop where
 own:t eS=none
 next:t fj=none
 plan:t gy=none
theorem zgp {t:Nm->Option (List UInt8)} (h:Idle t) {nm:Nm} {v x:LB} (h1:eS≠nm) (h2:gy≠nm) (h3:fj≠nm) :
  aS (aS (aS (aS (aS (aS (aS t eS (some v)) fj (some x)) gy (some x)) fj none) nm (some v)) eS none) gy none=aS t nm (some v):=by
 funext k;unfold aS;by_cases e1:k=gy
 ·rw[if_pos e1,e1,if_neg h2,h.plan]
 ·rw[if_neg e1];by_cases e2:k=eS
  ·rw[if_pos e2,e2,if_neg h1,h.own]
  ·rw[if_neg e2];by_cases e3:k=nm
   ·rw[if_pos e3,if_pos e3]
   ·rw[if_neg e3,if_neg e3];by_cases e4:k=fj
    ·rw[if_pos e4,e4,h.next]
    ·rw[if_neg e4,if_neg e1,if_neg e4,if_neg e2]
theorem qyt (R F n M:Nat) (t:Nm->Option (List UInt8)) (lab:Nat->Option Lb) (rs:List Rf) (la:OA) (lc:Nat) (nm old new:Nm) (fh:List Nm) (m:Int) (w:World) (h:RS w R F n M t lab) (hx:MX w lab m) (mD:mO t rs) (hf:Fits rs nm old new fh) (hl:rj nm) (hid:Idle t) (bg:fj≠nm)
  (nn:1<=lc/\lc<=1000) (hc:Ch w la nm old new) (eh:∀x∈ag la,lab x=none) (hM:200<=M) (iV:M<=100000) (dh:(n+3)*M<=1048576) (kM:n<860) :
  Calls Tryz.prog 28 #[.pointer (some ⟨R,0,none⟩),.slice la 1 lc] w λe w'=>e = .returned (.tuple #[.int .i64 1,.int .i64 0])/\∃av,RS w' R F (n+5) M (aS t nm (some (new++[10]))) av/\dS w lab w' av:=by
 have hd:=Pe h.fs;have sH:=RE R F n M t lab rs m w h.box h.fs mD hx.cell;have Me:=λw' (a:OA) (f:Fr [] w w') (ha:Cs w' a (rs.flatMap iM))=>qw1 R rs a la rs.length lc nm old new fh m w' nn ha ⟨hc.cs.fr f (by simp)⟩ hf (f.cell hx.cell (by simp))
 have tF:=λw' (f:Fr [] w w')=>qw8 R F n M t lab la lc nm old new w' (h.fr f) nn ⟨hc.cs.fr f (by simp)⟩ eh hl.len hf.bZ mD.packed hid.own hid.next hM iV dh (by omega)
 have d0:=h.c0;have H:=aA hd sH Me tF;have HH:=aQ h hx hl hid bg;clear hd sH Me tF h hx mD hf hl hid hc eh bg;go_enter Tryz.func28,Tryz.ntmps28;go_upto_region 14 with (first
  | (go_at_call 19;go_loud (refine H.o0.mono ?_;rintro e w1 ⟨rfl,hw⟩;obtain rfl:=hw.symm))
  | (go_at_call 53;go_loud (refine H.o1.mono ?_;rintro e w2 ⟨a,rfl,⟨gp,lv⟩,f2⟩;have H2:=ai gp f2;clear gp f2 lv))
  | (go_at_call 71;go_loud ((with_reducible refine (H.o2 _ _ H2.l1 H2.o0).mono ?_);rintro e w3 ⟨rfl,f3⟩;have H3:=af (H2.l1.trans f3);clear f3))
  | (go_at_call 72;go_loud ((with_reducible refine (H.l3 _ H3.out).mono ?_);rintro e w4 ⟨rfl,qj,k4,s4⟩;have c4:=k4.c0;have H4:=ai k4 ((dS.refl w lab H3.out).trans s4);clear k4 s4)))
 have jx:=TJ F (n+2) M _ qj fj gy (dD nm) w4 H4.o0.fs ⟨by decide,by decide,by decide⟩ ⟨by decide,by decide,by decide⟩ (by decide) (show aS (aS t eS (some (new++[10]))) fj (some (dD nm)) fj=some (dD nm) by unfold aS;rw[if_pos rfl]) (by omega);have H5:=af jx;clear jx;go_upto_region 16 with (go_at_call 74;go_loud (refine H5.out.mono ?_;rintro e w5 ⟨rfl,mI,h5,s5⟩;have k5:=H4.o0.step h5 s5;have c5:=k5.c0;have H6:=ai k5 (H4.l1.trans s5);clear h5 s5 k5));have hsn:=af (PQ F _ _ _ mI w5 H6.o0.fs);go_upto_region 18 with (go_at_call 69;go_loud (refine hsn.out.mono ?_;rintro e w6 ⟨rfl,h6,s6⟩;have k6:=H6.o0.step h6 s6;have c6:=k6.c0;have H7:=ai k6 (H6.l1.trans s6);clear h6 s6 k6));have Wn:(aS (aS (aS (aS t eS (some (new++[10]))) fj (some (dD nm))) gy (some (dD nm))) fj none) gy=some (dD nm):=by unfold aS;rw[if_neg (by decide),if_pos rfl]
 have eY:=xW F (n+3) M _ mI gy w6 H7.o0.fs ⟨by decide,by decide,by decide⟩;rw[Wn]at eY;have cS:=λw' (f:Fr [] w6 w')=>zft R F (n+3) M _ mI nm (new++[10]) (dD nm) m w' (H7.o0.fr f) ((HH.o1.step H7.l1).fr f) HH.o2 (show (aS (aS (aS (aS t eS (some (new++[10]))) fj (some (dD nm))) gy (some (dD nm))) fj none) eS=_ by unfold aS;rw[if_neg (by decide),if_neg (by decide),if_neg (by decide),if_pos rfl]) Wn (by omega)
 obtain⟨L,hL⟩:=ah ((dD nm).length);obtain⟨T,hT⟩:=ah (str (dD nm));have qs:Calls Tryz.prog 65 #[.pointer (some ⟨F,0,none⟩),.string (str gy)] w6 λe w'=>∃a,e = .returned (.tuple #[.slice a L L,.int .i64 0])/\(∀cap,(convert 35 9 (.slice a L cap)).run Tryz.prog w' = .ok (.string T) w')/\Fr [] w6 w':=by
  refine eY.mono λe w' h=>?_
  obtain⟨⟨a,he,hr,_⟩,f⟩:=h;rw[<-hL]at he;exact⟨a,he,λcap=>by rw[hT];exact xX w' Tryz.underlying35 Tryz.underlying5 Tryz.underlying9 hL.symm hr.cs cap,f⟩
 rw[<-hT]at cS;have H8:=ai qs cS;clear eY qs cS hL hT Wn;go_upto_region 19 with (go_at_call 65;go_loud (refine H8.o0.mono ?_;rintro e w7 ⟨a7,rfl,hcv,f7⟩;have H9:=af f7;clear f7));have VG:=hcv L;go_wp2_with (go_at_call 75;go_loud (refine (H8.l1 _ H9.out).mono ?_;rintro e w8 ⟨rfl,uJ,k8,s8⟩;have H10:=ai k8 s8;clear k8 s8));go_ret2;have eu:=zgp HH.o3 (v:=new++[10]) (x:=dD nm) HH.o2.ne.1 HH.o2.ne.2 HH.l4;refine⟨rfl,uJ,?_,(H7.l1.trans (dS.refl _ _ H9.out)).trans H10.l1⟩;rw[<-eu];exact H10.o0
end ob
end Go.Proofs.YticadfhpolhkeaaGreatDoor
namespace Go.Proofs
def Tryz.lays166_ren:Go.Shelf.Ren:=⟨fun|166=>194|240=>250|276=>299|169=>195|n=>n,fun|0=>0|3=>3|4=>4|9=>9|20=>20|37=>35|70=>305|72=>307|75=>309|164=>431|127=>366|5=>5|80=>238|n=>n,fun|n=>n⟩
theorem Tryz.lays166:Go.Proofs.Lays.n166 Tryz.prog Tryz.lays166_ren:={
 mixed:=by kernel_rfl
 f166:=Tryz.func194.trans (congrArg some (by kernel_rfl))
 f240:=Tryz.func250.trans (congrArg some (by kernel_rfl))
 f276:=Tryz.func299.trans (congrArg some (by kernel_rfl))
 t0:=Tryz.underlying0
 a0:=Tryz.isAgg0
 z0:=Tryz.sizeOf0
 v0:=Tryz.zeroValue0
 t3:=Tryz.underlying3
 a3:=Tryz.isAgg3
 z3:=Tryz.sizeOf3
 v3:=Tryz.zeroValue3
 t4:=Tryz.underlying4
 a4:=Tryz.isAgg4
 z4:=Tryz.sizeOf4
 v4:=Tryz.zeroValue4
 t9:=Tryz.underlying9
 a9:=Tryz.isAgg9
 z9:=Tryz.sizeOf9
 v9:=Tryz.zeroValue9
 t20:=Tryz.underlying20
 a20:=Tryz.isAgg20
 z20:=Tryz.sizeOf20
 v20:=Tryz.zeroValue20
 t37:=Tryz.underlying35
 a37:=Tryz.isAgg35
 z37:=Tryz.sizeOf35
 v37:=Tryz.zeroValue35
 t70:=Tryz.underlying305
 a70:=Tryz.isAgg305
 z70:=Tryz.sizeOf305
 v70:=Tryz.zeroValue305
 t72:=Tryz.underlying307
 a72:=Tryz.isAgg307
 z72:=Tryz.sizeOf307
 v72:=Tryz.zeroValue307
 t75:=Tryz.underlying309
 a75:=Tryz.isAgg309
 z75:=Tryz.sizeOf309
 v75:=Tryz.zeroValue309
 t164:=Tryz.underlying431
 a164:=Tryz.isAgg431
 z164:=Tryz.sizeOf431
 v164:=Tryz.zeroValue431 }
theorem Tryz.lays169:Go.Proofs.Lays.n169 Tryz.prog Tryz.lays166_ren:={
 mixed:=by kernel_rfl
 f169:=Tryz.func195.trans (congrArg some (by kernel_rfl))
 t0:=Tryz.underlying0
 a0:=Tryz.isAgg0
 z0:=Tryz.sizeOf0
 v0:=Tryz.zeroValue0
 t3:=Tryz.underlying3
 a3:=Tryz.isAgg3
 z3:=Tryz.sizeOf3
 v3:=Tryz.zeroValue3
 t9:=Tryz.underlying9
 a9:=Tryz.isAgg9
 z9:=Tryz.sizeOf9
 v9:=Tryz.zeroValue9
 t37:=Tryz.underlying35
 a37:=Tryz.isAgg35
 z37:=Tryz.sizeOf35
 v37:=Tryz.zeroValue35
 t70:=Tryz.underlying305
 a70:=Tryz.isAgg305
 z70:=Tryz.sizeOf305
 v70:=Tryz.zeroValue305
 t72:=Tryz.underlying307
 a72:=Tryz.isAgg307
 z72:=Tryz.sizeOf307
 v72:=Tryz.zeroValue307
 t127:=Tryz.underlying366
 a127:=Tryz.isAgg366
 z127:=Tryz.sizeOf366
 v127:=Tryz.zeroValue366 }
theorem Tryz.Builder_Extra_166:Builder.Extra Tryz.prog Tryz.lays166_ren:={
 sizeBuilder:=by kernel_rfl
 liesBuilder:=by kernel_rfl
 t5:=Tryz.underlying5
 a5:=Tryz.isAgg5
 z5:=Tryz.sizeOf5
 v5:=Tryz.zeroValue5
 infoByte:=by kernel_rfl
 cellsByte:=by kernel_rfl
 sizeByte:=by kernel_rfl
 neB5:=by decide }
end Go.Proofs
namespace Go.Proofs.YticadfhpolhkeaaGreatDoor
namespace ob
open Go Go.RowKit lib
set_option maxRecDepth 100000
def Bu (w:World) (B b:Nat) (bs:LB):Prop:=Lib.IsBuilder 307 5 B b (Lib.byteCells bs) w
theorem R6 (B b:Nat) (bs s:LB) (w:World) (h:Bu w B b bs) (hl:bs.length+s.length<=1000000) (hB:B<=w.heap.size) :
  Calls Tryz.prog 194 #[.pointer (some ⟨b,0,none⟩),.string (str s)] w λe w'=>e = .returned (.tuple #[.int .i64 (s.length:Nat),.nilIface])/\Bu w' B b (bs++s)/\Below B w w':=by
 refine (Any.Builder_WriteString Tryz.lays166 Tryz.Builder_Extra_166 B b (Lib.byteCells bs) (str s) w h ?_ hB).mono ?_
 ·rw[aj];simp[Lib.byteCells];omega
 ·rintro e w' ⟨rfl,h1,h2⟩;refine⟨by rw[aj],.inr ?_,h2⟩;have e1:Lib.byteCells bs++Lib.strCells (str s)=Lib.byteCells (bs++s):=by simp[Lib.byteCells,Lib.strCells,str]
  rw[<-e1];exact h1
theorem zfq (B b:Nat) (bs:LB) (w:World) (h:Bu w B b bs) (hB:B<=w.heap.size) :
  Calls Tryz.prog 195 #[.pointer (some ⟨b,0,none⟩)] w λe w'=>e = .returned (.string (str bs))/\Below B w w':=
 Any.Builder_String_any Tryz.lays169 Tryz.Builder_Extra_166 B b bs w h hB
open fs lo
set_option maxRecDepth 100000
theorem Zo {S:LN} {a w w':World} {B:Nat} (h:Fr S a w) (k:Below B w w') (hB:a.heap.size<=B) (hw:B<=w.heap.size):Fr S a w':=
 ⟨k.os.trans h.os,k.tape.trans h.tape,k.output.trans h.output,bP h.size k.size,λi hi hn=>by rw[k.block i (by omega),h.block i hi hn]⟩
theorem qq4 (ps:List (List UInt8)):∀r,parts ps []++r=parts ps r:=by
 induction ps with
 | nil=>intro r;rfl
 | cons p ps ih=>intro r;simp[parts,ln,ih]
theorem qxb (ps:List (List UInt8)) (p r:LB):parts (ps++[p]) r=parts ps (ln dK p r):=by
 induction ps with
 | nil=>rfl
 | cons q ps ih=>simp[parts,ih]
structure CB (w wr:World) (C b:Nat) (cs:AV) (bs:LB):Prop where
 obj:wr.heap[C]?=some (.cells cs 132 (0,0))
 bu:Bu wr b b bs
 fr:Fr [] w wr
 new:w.heap.size<=b
 lt:C<b
 sz:b<=wr.heap.size
theorem CB.step {w wr w2:World} {C b:Nat} {cs:AV} {bs bs2:LB} (h:CB w wr C b cs bs) (h2:Bu w2 b b bs2) (f:Below b wr w2):CB w w2 C b cs bs2:=
 ⟨by rw[f.block C h.lt];exact h.obj,h2,Zo h.fr f h.new h.sz,h.new,h.lt,bP h.sz f.size⟩
theorem TD (tid:LB) (ps:List (List UInt8)) (pa:OA) (au co msg:LB) (w:World) (ht:tid.length<=100) (hp:∀p∈ps,p.length<=100) (DQ:ps.length<=9) (ha:au.length<=100) (hc:co.length<=100) (hl:msg.length<=100) (hcs:Cs w pa (ps.map λp=>Value.string (str p))) :
  Calls Tryz.prog 423 #[.agg #[.string (str tid),.slice pa ps.length ps.length,.string (str au),.string (str co),.string (str msg)]] w λe w'=>∃a,e = .returned (.slice a (bq tid ps au co msg).length (bq tid ps au co msg).length)/\lib.Rd w' a (bq tid ps au co msg).length (bq tid ps au co msg)/\Fr [] w w':=by
 have s1:(str tid).size=tid.length:=aj _;have s2:(str au).size=au.length:=aj _;have s3:(str co).size=co.length:=aj _;have s4:(str msg).size=msg.length:=aj _;have e1:((⟨#[116,114,101,101,32]⟩:ByteArray)++str tid)++⟨#[10]⟩=str (ln gu tid []):=by have:=gH [116,114,101,101,32] tid;rw[show (⟨#[116,114,101,101,32]⟩:ByteArray)=str [116,114,101,101,32] from rfl,this,show (⟨#[10]⟩:ByteArray)=str [10] from rfl,gH];rfl
 have e2:(((((⟨#[97,117,116,104,111,114,32]⟩:ByteArray)++str au)++⟨#[10,99,111,109,109,105,116,116,101,114,32]⟩)++str co)++⟨#[10,10]⟩)++str msg=str (fG au co msg):=by rw[show (⟨#[97,117,116,104,111,114,32]⟩:ByteArray)=str [97,117,116,104,111,114,32] from rfl,show (⟨#[10,99,111,109,109,105,116,116,101,114,32]⟩:ByteArray)=str [10,99,111,109,109,105,116,116,101,114,32] from rfl,show (⟨#[10,10]⟩:ByteArray)=str [10,10] from rfl,gH,gH,gH,gH,gH];congr 1;simp[fG,ln,iJ,cK]
 obtain⟨z1,gS⟩:∃z,z=str tid:=⟨_,rfl⟩;obtain⟨z2,lN⟩:∃z,z=str au:=⟨_,rfl⟩;obtain⟨z3,yb⟩:∃z,z=str co:=⟨_,rfl⟩;obtain⟨z4,Qh⟩:∃z,z=str msg:=⟨_,rfl⟩;obtain⟨N,hN⟩:=ah ps.length;rw[<-gS,<-lN,<-yb,<-Qh,<-hN];rw[<-hN]at DQ;rw[<-gS]at s1 e1;rw[<-lN]at s2 e2;rw[<-yb]at s3 e2;rw[<-Qh]at s4 e2;obtain⟨l1,kD⟩:∃l,l=tid.length:=⟨_,rfl⟩;obtain⟨l2,kj⟩:∃l,l=au.length:=⟨_,rfl⟩;obtain⟨l3,zr⟩:∃l,l=co.length:=⟨_,rfl⟩;obtain⟨l4,Jl⟩:∃l,l=msg.length:=⟨_,rfl⟩;rw[<-kD]at s1 ht;rw[<-kj]at s2 ha;rw[<-zr]at s3 hc;rw[<-Jl]at s4 hl;have HH:=pY hp hcs e1 e2 hN kD kj zr Jl;clear hp hcs e1 e2 gS lN yb Qh hN kD kj zr Jl;go_enter Tryz.func423,Tryz.ntmps423;go_upto_region 2 with fail;obtain⟨w1,aJ⟩:=ah ((w.alloc (Obj.cells #[.string z1,.slice pa N N,.string z2,.string z3,.string z4] 132)).alloc (Obj.cells #[.pointer none,.slice none 0 0] 307));obtain⟨C,hC⟩:=ah w.heap.size;obtain⟨b,hb⟩:=ah (w.heap.size+1);have k1:CB w w1 C b #[.string z1,.slice pa N N,.string z2,.string z3,.string z4] []:=by
  refine⟨?_,?_,?_,by omega,by omega,?_⟩
  ·rw[aJ,hC];exact alloc_old _ (aV w _)
  ·have:=Lib.fresh_isBuilder 307 5 (w.alloc (Obj.cells #[.string z1,.slice pa N N,.string z2,.string z3,.string z4] 132));rw[aJ,hb];unfold Bu;simpa[Lib.byteCells] using this
  ·rw[aJ];exact ((Fr.refl [] w).alloc _).alloc _
  ·rw[aJ,hb];simp
 rw[<-aJ,<-hb,<-hC];clear aJ hC hb;have c0:=(cell_of k1.obj 0).trans (show _=some (Value.string z1) from rfl);have K1:=af k1;clear k1;go_upto_region 3 with (go_at_call 194;refine (HH.out.2.2.1▸R6 b b [] (ln gu tid []) _ K1.out.bu (by have:=HH.out.2.2.2.2.2.1;simp[ln,gu];omega) K1.out.sz:Calls Tryz.prog 194 #[.pointer (some ⟨b,0,none⟩),.string (((⟨#[116,114,101,101,32]⟩:ByteArray)++z1)++⟨#[10]⟩)] _ _).mono ?_;rintro e w2 ⟨rfl,h2,f2⟩;have K2:=af (K1.out.step h2 f2);clear h2 f2);have c1:=(cell_of K2.out.obj 1).trans (show _=some (Value.slice pa N N) from rfl);clear c0;go_wp2;go_loopg [14] N (λk s14 wr=>∃i:Nat,s14 = .int .i64 (i:Nat)/\i+k=N/\CB w wr C b #[.string z1,.slice pa N N,.string z2,.string z3,.string z4] (ln gu tid []++parts (ps.take i) []));case atStart=>exact⟨0,rfl,by omega,by simpa[parts] using K2.out⟩
 case round=>
  obtain⟨i,rfl,cQ,kk⟩:=hrel;have KK:=af kk;clear kk;have bF:∀i,i<=N->(ln gu tid []++parts (ps.take i) []).length<=1200:=by
   intro i hi;have:∀(l:List (List UInt8)),(∀p∈l,p.length<=100)->(parts l []).length<=108*l.length:=by
    intro l;induction l with
    | nil=>intro _;simp[parts]
    | cons p l ih=>intro h;have h1:=ih (λq hq=>h q (oH _ hq));have h2:=h p (by simp);simp[parts,ln,dK];omega
   have h3:=this (ps.take i) (λq hq=>HH.out.1 q (sV hq));have h4:=HH.out.2.2.2.2.2.1;simp[ln,gu]at h3 ⊢;omega
  by_cases hi:i<N
  ·obtain⟨k,rfl⟩:∃k,gk=k+1:=⟨gk-1,by omega⟩;have cN:i<ps.length:=by rw[<-HH.out.2.2.2.2.1];exact hi
   obtain⟨p,rF⟩:=ah (ps[i]'cN);have qt:=HH.out.1 p (by rw[rF];exact sk cN);obtain⟨g,o,hao,gp⟩:=(HH.out.2.1.fr KK.out.fr (by simp)).at (by rw[gx];omega);have d:=gp i (.string (str p)) (by rw[qe,dm cN,rF];rfl);have e3:((⟨#[112,97,114,101,110,116,32]⟩:ByteArray)++str p)++⟨#[10]⟩=str (ln dK p []):=by have:=gH [112,97,114,101,110,116,32] p;rw[show (⟨#[112,97,114,101,110,116,32]⟩:ByteArray)=str [112,97,114,101,110,116,32] from rfl,this,show (⟨#[10]⟩:ByteArray)=str [10] from rfl,gH];rfl
   have cZ:(str p).size=p.length:=aj _;have cI:ln gu tid []++parts (ps.take (i+1)) []=(ln gu tid []++parts (ps.take i) [])++ln dK p []:=by rw[BJ,dm cN,<-rF,fU];congr 1;rw[show (some p).toList=[p] from rfl,qxb,<-qq4]
   have nL:=bF i (Nat.le_of_lt hi);obtain⟨y,hy⟩:=ah (str p);obtain⟨L,hL⟩:=ah p.length;rw[<-hy]at d e3 cZ;rw[<-hL]at cZ qt;subst hao;have HP:=aA e3 cI nL hL;clear e3 cI nL hL hy rF cN gp;go_wp2_with (go_at_call 194;refine (HP.o0▸R6 b b (ln gu tid []++parts (ps.take i) []) (ln dK p []) _ KK.out.bu (by have h1:=HP.o2;have h2:=HP.l3;have h3:(ln dK p []).length=p.length+8:=(by simp[ln,dK]);rw[h3];omega) KK.out.sz:Calls Tryz.prog 194 #[.pointer (some ⟨b,0,none⟩),.string (((⟨#[112,97,114,101,110,116,32]⟩:ByteArray)++y)++⟨#[10]⟩)] _ _).mono ?_;rintro e w3 ⟨rfl,h3,f3⟩;have K3:=af (KK.out.step h3 f3);clear h3 f3);go_roundg k;case measure=>omega
   case rel=>exact⟨i+1,by go_num,by omega,by rw[HP.o1];exact K3.out⟩
  ·obtain rfl:i=N:=by omega
   have ce:=HH.out.2.2.2.2;have VL:(ln gu tid []++parts (ps.take i) []).length<=1200:=bF i (ax _);rw[lL (by rw[<-ce.1];exact ax _)]at VL;have Gp:Bu wr b b (ln gu tid []++parts ps []):=by have:=KK.out.bu;rw[lL (by rw[<-ce.1];exact ax _)]at this;exact this
   have c2:=(cell_of KK.out.obj 2).trans (show _=some (Value.string z2) from rfl);have c3:=(cell_of KK.out.obj 3).trans (show _=some (Value.string z3) from rfl);have c4:=(cell_of KK.out.obj 4).trans (show _=some (Value.string z4) from rfl);have Ec:(ln gu tid []++parts ps [])++fG au co msg=bq tid ps au co msg:=by rw[fU,qq4];simp[bq,ln,fG]
   have Fy:(fG au co msg).length<=400:=by have:=ce.2;unfold fG ln iJ cK;simp;omega
   have HT:=aA Gp Ec Fy VL;clear Gp Ec Fy VL ce bF;go_upto_region 9 with (go_at_call 194;refine (HH.out.2.2.2.1▸R6 b b (ln gu tid []++parts ps []) (fG au co msg) _ HT.o0 (by have h1:=HT.o2;have h2:=HT.l3;omega) KK.out.sz:Calls Tryz.prog 194 #[.pointer (some ⟨b,0,none⟩),.string ((((((⟨#[97,117,116,104,111,114,32]⟩:ByteArray)++z2)++⟨#[10,99,111,109,109,105,116,116,101,114,32]⟩)++z3)++⟨#[10,10]⟩)++z4)] _ _).mono ?_;rintro e w3 ⟨rfl,h3,f3⟩;have K3:=af (KK.out.step h3 f3);clear h3 f3);have bs0:∀w,Bu w b b ((ln gu tid []++parts ps [])++fG au co msg)->b<=w.heap.size->Calls Tryz.prog 195 #[.pointer (some ⟨b,0,none⟩)] w λe w'=>e = .returned (.string (str (bq tid ps au co msg)))/\Below b w w':=λw h1 h2=>HT.o1▸zfq b b _ w h1 h2
   have HBS:=af bs0;clear bs0;have fX:(bq tid ps au co msg).length<=1600:=by rw[<-HT.o1,aG];have h1:=HT.o2;have h2:=HT.l3;omega
   have Bp:=af fX;clear fX;go_wp2_with (first
    | (go_at_call 195;refine (HBS.out _ K3.out.bu K3.out.sz).mono ?_;rintro e w4 ⟨rfl,f4⟩;have H4:=af (Zo K3.out.fr f4 K3.out.new K3.out.sz);clear f4)
    | (refine IY Tryz.underlying9 Tryz.underlying35 Tryz.underlying5 rfl _ rfl (bq tid ps au co msg) rfl (by unfold maxLen;have:=Bp.out;omega) ?_;intro cap w5 h1 h2 h3 h4;have H5:=aq h1 h2 h3;clear h1 h2 h3 h4)
    | (go_at_call 79;refine (pk.J2 _ _ cap _ H5.o0 (lib.iY.rd H5.o1).max).mono ?_;rintro e w6 ⟨rfl,hw⟩;obtain rfl:=hw.symm))
   go_ret;have hr:=lib.iY.rd H5.o1;exact⟨_,rfl,⟨hr.cs,ax _,bP hr.le hr.max,λh=>by cases h⟩,H4.out.trans H5.l2⟩
theorem Ul (w:World):Calls Tryz.prog 430 #[.agg #[.slice none 0 0]] w λe w'=>e = .returned (.slice none 0 0)/\Fr [] w w':=by
 go_enter Tryz.func430,Tryz.ntmps430;go_wp2;go_loopg [3,9] 0 (λk s3 s9 wr=>s3 = .slice none 0 0/\s9 = .int .i64 0/\Fr [] w wr);case atStart=>exact⟨rfl,rfl,(Fr.refl [] w).alloc _⟩
 case round=>obtain⟨rfl,rfl,fr⟩:=hrel;have H:=af fr;clear fr;go_wp2_with (go_at_call 79;refine (pk.J2 none 0 0 _ (ax _) (eE _)).mono ?_;rintro e w6 ⟨rfl,hw⟩;obtain rfl:=hw.symm);go_ret;exact⟨rfl,H.out⟩
theorem pB (v1 v2 v3 v4 v5:Value) (w:World):Calls Tryz.prog 424 #[.agg #[v1,v2,v3,v4,v5]] w λe w'=>e = .returned (.int .i64 1)/\Fr [] w w':=by go_enter Tryz.func424,Tryz.ntmps424;go_wp2;go_ret;exact⟨rfl,by first|exact Fr.refl [] _|exact (Fr.refl [] w).alloc _⟩
theorem sQ (v1:Value) (w:World):Calls Tryz.prog 431 #[.agg #[v1]] w λe w'=>e = .returned (.int .i64 2)/\Fr [] w w':=by go_enter Tryz.func431,Tryz.ntmps431;go_wp2;go_ret;exact⟨rfl,by first|exact Fr.refl [] _|exact (Fr.refl [] w).alloc _⟩
end ob

end Go.Proofs.YticadfhpolhkeaaGreatDoor