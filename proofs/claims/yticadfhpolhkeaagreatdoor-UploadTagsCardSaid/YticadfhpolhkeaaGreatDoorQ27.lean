/-
  Texts of this proof, one behind the other: RepoN, ObjG, ObjH, GraphP, UpRefA, UpRefB, UpRefC, UpRefD.
-/
import Derived.Test.YticadfhpolhkeaaGreatDoorQ17
import Derived.Test.YticadfhpolhkeaaGreatDoorQ26
set_option maxHeartbeats 16000000
set_option maxRecDepth 100000
set_option linter.unusedVariables false
set_option linter.unusedSimpArgs false
namespace Go.Proofs.YticadfhpolhkeaaGreatDoor
namespace ob
open Go Go.RowKit lib fs lo pk
variable {w:World} {lab:Nat->Option Lb} {t:Nm->Option (List UInt8)}
set_option maxRecDepth 100000
abbrev lD (now:Nat) (msg:LB):List UInt8:=bq (aO 2 []) [] (dT now) (dT now) msg
def qi (w:World) (lab:Nat->Option Lb):List Nat:=(List.range w.heap.size).filter λx=>(lab x).isSome
theorem Y3 {x:Nat} (h:lab x=none):x∉qi w lab:=by unfold qi;simp[h]
theorem ZB {w' w0:World} {F n M:Nat} {av:Nat->Option Lb} (hf:Fs w0 F n M t lab) (h:dS w lab w' av):Fr (qi w0 lab) w w':=by obtain⟨⟨T,f,hT⟩,_⟩:=h;refine f.mono (λx hx=>.inl ?_);have h1:=hT x hx;unfold qi;rw[C8,uH];exact⟨hf.low x h1,Ov.2 h1⟩
theorem Xm {x k:Nm} {v:Option (List UInt8)} (h:k≠x):aS t x v k=t k:=by unfold aS;rw[if_neg h]
structure Kept (w':World) (r O R F n M:Nat) (t:Nm->Option (List UInt8)) (nm:Nm) (now:Nat) (msg:LB) (m:Int) (av:Nat->Option Lb) (z1 z2:LB):Prop where
 rp:Rp w' r O R F (n+9) M (aS (aS (aS t (az (aO 2 [])) (some z1)) (az (aO 1 (lD now msg))) (some z2)) nm (some (aO 1 (lD now msg)++[10]))) av m
 tree:Has (aS (aS (aS t (az (aO 2 [])) (some z1)) (az (aO 1 (lD now msg))) (some z2)) nm (some (aO 1 (lD now msg)++[10]))) 2 []
 com:Has (aS (aS (aS t (az (aO 2 [])) (some z1)) (az (aO 1 (lD now msg))) (some z2)) nm (some (aO 1 (lD now msg)++[10]))) 1 (lD now msg)
theorem qw3 {r O R F n M:Nat} {m:Int} (h:Rp w r O R F n M t lab m) (hb:pK t) (nm:Nm) (fh:List Nm) (now:Nat) (msg:LB)
  (iq:pJ (aO 2 []) [] (dT now) (dT now) msg) (zaP:now<=999999) (bg:aO 2 []≠aO 1 (lD now msg)) (DT:aO 1 (lD now msg)≠iD)
  (jP:mP nm fh) (hh:Lib.hasPrefix nm gW=true) (kA:und nm nm=false) (hl:rj nm) (jZ:fj≠nm) (tH:Lib.hasPrefix nm kV=false) (ki:az (aO 2 [])≠nm/\az (aO 1 (lD now msg))≠nm)
  (ht:t (az (aO 2 []))=none/\t (tmps++aO 2 [])=none) (hc:t (az (aO 1 (lD now msg)))=none/\t (tmps++aO 1 (lD now msg))=none)
  (uw:az (aO 1 (lD now msg))≠az (aO 2 [])/\tmps++aO 1 (lD now msg)≠az (aO 2 []))
  (dW:(lD now msg).length<=400) (hM:3000<=M) (iV:M<=100000) (dh:(n+8)*M<=1048576) (kM:n<850) :
  Calls Tryz.prog 6 #[.pointer (some ⟨r,0,none⟩),.string (str nm),.slice none 0 0,.string (str msg),.int .i64 (now:Nat)] w λe w'=>e = .returned (.tuple #[.string (str (aO 1 (lD now msg))),.int .i64 0])/\∃av z1 z2,Kept w' r O R F n M t nm now msg m av z1 z2/\dS w lab w' av:=by
 have hv:=λw' (f:Fr [] w w')=>KM nm fh jP m w' (f.cell h.mx.cell (by simp))
 have tD:=λw=>Tryz.strings_HasPrefix (str nm) (str gW) w
 rw[show Lib.hasPrefix (str nm).data.toList (str gW).data.toList=true from hh,show str gW=(⟨#[114,101,102,115,47,104,101,97,100,115,47]⟩:ByteArray) from rfl]at tD;have hd:=λw' (f:Fr [] w w')=>Pe (h.fr f).fs
 have Ge:=λw' (f:Fr [] w w')=>qpg R (str nm) w' (RE R F n M t lab [] m w' (h.fr f).box.refs (h.fr f).fs hb.ok (h.fr f).mx.cell)
 have Gp:=λw' (f:Fr [] w w')=>qul [] none now msg w' (by omega) (by simp) (by simp) iq.hmsg (.inl rfl) (h.fr f).pw (by unfold lD at dW;omega)
 have FZ:=λw' M' la ia lc ic (f:Fr [] w w') (hm:jT w' M' la ia lc ic 2 (rS [] none now msg) (rT [] now msg))=>zaf iq M' la ia lc ic none _ m w' hm (.inl rfl) (by unfold lD at dW;omega) (h.fr f).mx.cell
 simp only[jK]at Gp;have c0:=(cell_of h.box.box 0).trans (show _=some (Value.pointer (some ⟨O,0,none⟩)) from rfl);have c1:=(cell_of h.box.box 1).trans (show _=some (Value.pointer (some ⟨R,0,none⟩)) from rfl);have c2:=(cell_of h.box.box 2).trans (show _=some (Value.pointer (some ⟨F,0,none⟩)) from rfl);obtain⟨Z,hZ⟩:=ah (str nm);obtain⟨G,hG⟩:=ah (str msg);rw[<-hZ]at hv tD Ge;rw[<-hG]at Gp;rw[<-hZ,<-hG];have H:=cU hv tD hd Ge Gp FZ;have HH:=aA h hb iq dW;have HZ:=ai hZ hG;have HP:=aq ht hc uw;have HN:=pY bg DT jP hh kA hl jZ tH ki;clear hv tD hd Ge Gp FZ h hb iq dW hZ hG ht hc uw bg DT jP hh kA hl jZ tH ki;go_enter Tryz.func6,Tryz.ntmps6;go_upto_region 10 with (first
  | (go_at_call 16;go_loud (refine (H.o0 _ (Fr.refl _ _)).mono ?_;rintro e w1 ⟨rfl,f1⟩;have H1:=af f1;clear f1))
  | (go_at_call 17;go_loud (refine (H.o1 _).mono ?_;rintro e w2 ⟨rfl,hw⟩;obtain rfl:=hw.symm))
  | (go_at_call 18;go_loud (refine (ze7 _).mono ?_;rintro e w2 ⟨rfl,f2⟩;have c12:=(H1.out.trans f2).cell c1 (by simp);have c22:=(H1.out.trans f2).cell c2 (by simp);have H2:=af (H1.out.trans f2);clear f2))
  | (go_at_call 19;go_loud (refine (H.o2 _ H2.out).mono ?_;rintro e w3 ⟨rfl,hw⟩;obtain rfl:=hw.symm))
  | (go_at_call 20;go_loud (refine (H.o3 _ H2.out).mono ?_;rintro e w3 ⟨rfl,f3⟩;have H3:=af (H2.out.trans f3);clear f3)))
 go_upto_region 11 with (go_at_call 21;go_loud ((with_reducible refine (H.o4 _ H3.out).mono ?_);rintro e w4 ⟨B,la,ia,lc,ic,rfl,m4,f4,n4⟩;have H4:=aq m4 (H3.out.trans f4) n4;have s4:=f4.size;clear m4 f4 n4));have FZ:=af (H.l5 w4 B la ia lc ic H4.o1 H4.o0);go_upto_region 14 with (go_at_call 22;go_loud ((with_reducible refine FZ.out.mono ?_);rintro e w5 ⟨rfl,f5⟩;have H5:=af f5;clear f5));have s3:=H3.out.size;have Lj:lab B=none/\(∀x∈ag la,lab x=none)/\∀x∈ag ia,lab x=none:=⟨yE HH.o0.fs (by have:=H4.l2.1;omega),λx hx=>yE HH.o0.fs (by have:=H4.l2.2.1 x hx;omega),λx hx=>yE HH.o0.fs (by have:=H4.l2.2.2 x hx;omega)⟩;have b5:=H5.out.ag H4.o0.box (by simp);have k5:Rp w5 r O R F n M t lab m:=HH.o0.fr (H4.o1.trans H5.out);have cl5:Cs w5 la (rS [] none now msg):=(qK H4.o0.objs).fr H5.out (by simp);have ci5:Cs w5 ia ((rT [] now msg).map λs=>Value.string (str s)):=(qK H4.o0.ids).fr H5.out (by simp);have q0:=(cell_of b5 0).trans (show _=some (Value.slice la 2 lc) from rfl);have HM:=cU k5 b5 cl5 ci5 Lj (H4.o1.trans H5.out);clear b5 k5 cl5 ci5 Lj s3 s4 FZ c0 c1 c2 c12 c22;go_wp2;clear q0;go_loopg [77] 2 (λk s77 wr=>∃j:Nat,s77 = .int .i64 (j:Nat)/\j+k=2/\(j=0->wr=w5)/\(j=1->∃oN z1,Rp wr r O R F (n+2) M (aS t (az (aO 2 [])) (some z1)) oN m/\Has (aS t (az (aO 2 [])) (some z1)) 2 []/\dS w5 lab wr oN)
  /\ (j=2->∃qm z1 z2,Rp wr r O R F (n+4) M (aS (aS t (az (aO 2 [])) (some z1)) (az (aO 1 (lD now msg))) (some z2)) qm m/\Has (aS (aS t (az (aO 2 [])) (some z1)) (az (aO 1 (lD now msg))) (some z2)) 2 []/\Has (aS (aS t (az (aO 2 [])) (some z1)) (az (aO 1 (lD now msg))) (some z2)) 1 (lD now msg)/\dS w5 lab wr qm))
 case atStart=>exact⟨0,rfl,by omega,λ_=>rfl,(λh=>by cases h),(λh=>by cases h)⟩
 case round=>
  obtain⟨j,rfl,fP,k0,k1,k2⟩:=hrel;obtain⟨gl,ol,tP,fX⟩:=HM.out.2.2.1.at (by simp[rS]);by_cases MV:j=0
  ·obtain rfl:gk=1+1:=by omega
   have ew:=k0 MV;subst MV;subst tP;have kr:Rp wr r O R F n M t lab m:=by rw[ew];exact HM.out.1
   have d0:wr.cell? ⟨gl,ol,none⟩=some (.iface 197 (.agg #[.slice none 0 0])):=by rw[ew];exact fX 0 _ rfl
   have hkt:∀(f:Nat) (w:World),(method (f+1) 197 (.agg #[.slice none 0 0]) "Kind").run Tryz.prog w = .ok (431,(.agg #[.slice none 0 0])) w:=λ_ _=>by kernel_rfl
   have xD:∀(f:Nat) (w:World),(method (f+1) 197 (.agg #[.slice none 0 0]) "Bytes").run Tryz.prog w = .ok (430,(.agg #[.slice none 0 0])) w:=λ_ _=>by kernel_rfl
   have c0:wr.cell? ⟨r,0,none⟩=_:=(cell_of kr.box.box 0).trans (show _=some (Value.pointer (some ⟨O,0,none⟩)) from rfl);have s0:∀x,(sup (qi wr lab) wr.drew x).cell? ⟨r,0,none⟩=some (Value.pointer (some ⟨O,0,none⟩)):=λx=>(gB (qi wr lab) wr.drew x).cell (show wr.drew.cell? _=_ from c0) (Y3 kr.offs.1)
   have KR:=ai kr ew;clear k0 k1 k2 kr ew c0 fX;go_upto_region 17 with fail;refine lK 14 [(false,0),(false,1),(false,2),(false,3),(false,4),(false,6),(true,5),(true,7),(true,8),(false,9),(false,10),(false,11),(false,12),(false,13)] (qi wr lab) (by kernel_rfl) (by kernel_rfl) (λ_ _ d _ _ h=>by cases d<;>exact h) ?_;simp only[kQ];refine eD 6 rfl ?_;simp only[cT];repeat (go_big_quiet_step (fail))
   refine wpQuiet_nil ?_;clear s0;refine jb rfl ?_;intro K hK;go_wp2_with (go_at_call 431;go_loud (refine (sQ _ _).mono ?_;rintro e w6 ⟨rfl,f6⟩));refine hK.out _ _ (f6.mono (by simp)) ?_;clear hK K;refine jb rfl ?_;intro K hK;go_wp2_with (go_at_call 430;go_loud (refine (Ul _).mono ?_;rintro e w7 ⟨rfl,f7⟩));refine hK.out _ _ (f7.mono (by simp)) ?_;clear hK K;have f17:Fr [] wr w7:=((Fr.aB [] wr).trans f6).trans f7;have k7:=KR.o0.fr f17;have tE:=Sr O F n M M t lab 2 none 0 [] w7 k7.box.store k7.fs k7.nop (by decide) ⟨.inl rfl,ax _,eE _,λ_=>rfl⟩ (by decide) k7.pw HP.o0.1 HP.o0.2 (ax _) (by simp;omega) iV (by
    have:(n+8)*M=(n+1)*M+7*M:=by rw[<-oD]
    simp;omega) (by omega)
   have H7:=aq tE f17 k7;clear tE f17 k7 f6 f7;refine jb rfl ?_;intro K hK;go_wp2_with (go_at_call 7;go_loud (refine H7.o0.mono ?_;rintro e w8 ⟨rfl,uJ,zz,rq,h8,s8⟩;have H8:=aq rq h8 s8;clear rq h8 s8));refine hK.out _ _ (ZB KR.o0.fs H8.l2) ?_;clear hK K;refine eD 5 rfl ?_;simp only[cT];repeat (go_big_quiet_step (fail))
   refine wpQuiet_nil ?_;refine j4 ?_;go_wp2;go_roundg 1;case measure=>omega
   case rel=>have hs:=(dS.refl wr lab H7.o1).trans H8.l2;refine⟨1,rfl,by omega,(λh=>by cases h),λ_=>⟨uJ,_,KR.o0.step H8.o1 hs (HH.o1.aS (yM 2 []) _).nop,Has.put (by decide) (by decide) H8.o0,?_⟩,(λh=>by cases h)⟩;rw[<-KR.l1];exact hs
  ·by_cases Jm:j=1
   ·obtain rfl:gk=0+1:=by omega
    obtain⟨oN,z1,kr,qN,RU⟩:=k1 Jm;subst Jm;subst tP;obtain⟨Y,hY⟩:=ah ((lD now msg).length);have tG:=HM.o4.2.1 gl (by simp[ag]);have d1:wr.cell? ⟨gl,ol+1,none⟩=some (.iface 132 (.agg #[.string (str (aO 2 [])),.slice none 0 0,.string (str (dT now)),.string (str (dT now)),.string (str msg)])):=by have h1:w5.cell? ⟨gl,ol+1,none⟩=some (.iface 132 (.agg #[.string (str (aO 2 [])),.slice none 0 0,.string (str (dT now)),.string (str (dT now)),.string (str msg)])):=fX 1 _ rfl;obtain⟨⟨T,f,hT⟩,_⟩:=RU;exact f.cell h1 (λhm=>hT gl hm tG)
    have hkc:∀(f:Nat) (w:World),(method (f+1) 132 (.agg #[.string (str (aO 2 [])),.slice none 0 0,.string (str (dT now)),.string (str (dT now)),.string (str msg)]) "Kind").run Tryz.prog w = .ok (424,(.agg #[.string (str (aO 2 [])),.slice none 0 0,.string (str (dT now)),.string (str (dT now)),.string (str msg)])) w:=λ_ _=>by kernel_rfl
    have CF:∀(f:Nat) (w:World),(method (f+1) 132 (.agg #[.string (str (aO 2 [])),.slice none 0 0,.string (str (dT now)),.string (str (dT now)),.string (str msg)]) "Bytes").run Tryz.prog w = .ok (423,(.agg #[.string (str (aO 2 [])),.slice none 0 0,.string (str (dT now)),.string (str (dT now)),.string (str msg)])) w:=λ_ _=>by kernel_rfl
    have hBy:∀w,Calls Tryz.prog 423 #[.agg #[.string (str (aO 2 [])),.slice none 0 0,.string (str (dT now)),.string (str (dT now)),.string (str msg)]] w λe w'=>∃a,e = .returned (.slice a Y Y)/\lib.Rd w' a Y (lD now msg)/\Fr [] w w':=λw=>by rw[hY];exact TD (aO 2 []) [] none (dT now) (dT now) msg w (by rw[nU];decide) (by simp) (by simp) HH.o2.hau.2 HH.o2.hco.2 HH.o2.hmsg (.inl rfl)
    have c0:wr.cell? ⟨r,0,none⟩=_:=(cell_of kr.box.box 0).trans (show _=some (Value.pointer (some ⟨O,0,none⟩)) from rfl);have s0:∀x,(sup (qi wr oN) wr.drew x).cell? ⟨r,0,none⟩=some (Value.pointer (some ⟨O,0,none⟩)):=λx=>(gB (qi wr oN) wr.drew x).cell (show wr.drew.cell? _=_ from c0) (Y3 kr.offs.1)
    have KR:=aA kr qN RU hY;have HB:=af hBy;clear k0 k1 k2 kr qN RU c0 fX hY hBy;go_upto_region 17 with fail;refine lK 14 [(false,0),(false,1),(false,2),(false,3),(false,4),(false,6),(true,5),(true,7),(true,8),(false,9),(false,10),(false,11),(false,12),(false,13)] (qi wr oN) (by kernel_rfl) (by kernel_rfl) (λ_ _ d _ _ h=>by cases d<;>exact h) ?_;simp only[kQ];refine eD 6 rfl ?_;simp only[cT];repeat (go_big_quiet_step (fail))
    refine wpQuiet_nil ?_;clear s0;refine jb rfl ?_;intro K hK;go_wp2_with (go_at_call 424;go_loud (refine (pB _ _ _ _ _ _).mono ?_;rintro e w6 ⟨rfl,f6⟩));refine hK.out _ _ (f6.mono (by simp)) ?_;clear hK K;refine jb rfl ?_;intro K hK;go_wp2_with (go_at_call 423;go_loud (refine (HB.out _).mono ?_;rintro e w7 ⟨ab,rfl,rb,f7⟩));refine hK.out _ _ (f7.mono (by simp)) ?_;clear hK K;have f17:Fr [] wr w7:=((Fr.aB [] wr).trans f6).trans f7;have k7:=KR.o0.fr f17;have zf:(n+8)*M=(n+2+1)*M+5*M:=by rw[<-oD]
    have tE:=Sr O F (n+2) M M _ oN 1 ab Y (lD now msg) w7 k7.box.store k7.fs k7.nop (by decide) rb (by have:=HH.l3;omega) k7.pw ((Xm HP.l2.1).trans HP.o1.1) ((Xm HP.l3).trans HP.o1.2) (ax _) (by have:=HH.l3;omega) iV (by have:=HH.l3;omega) (by omega);rw[<-KR.l3]at tE;have H7:=aq tE f17 k7;clear tE f17 k7 f6 f7 rb zf;refine jb rfl ?_;intro K hK;go_wp2_with (go_at_call 7;go_loud (refine H7.o0.mono ?_;rintro e w8 ⟨rfl,uJ,zz,rq,h8,s8⟩;have H8:=aq rq h8 s8;clear rq h8 s8));refine hK.out _ _ (ZB KR.o0.fs H8.out.2.2) ?_;clear hK K;refine eD 5 rfl ?_;simp only[cT];repeat (go_big_quiet_step (fail))
    refine wpQuiet_nil ?_;refine j4 ?_;go_wp2;go_roundg 0;case measure=>omega
    case rel=>have hs:=(dS.refl wr oN H7.o1).trans H8.out.2.2;obtain⟨rq,h8,s8⟩:=H8.out;rw[KR.l3]at rq h8;refine⟨2,rfl,by omega,(λh=>by cases h),(λh=>by cases h),λ_=>⟨uJ,z1,_,KR.o0.step h8 hs ((HH.o1.aS (yM 2 []) _).aS (yM 1 _) _).nop,KR.l1.1.aS (λe=>HP.l2.1 e.symm) _,Has.put (by decide) (by have:=HH.l3;omega) rq,KR.o2.trans hs⟩⟩
   ·obtain rfl:j=2:=by omega
    obtain rfl:gk=0:=by omega
    obtain⟨qm,z1,z2,kr,qN,ep,OC⟩:=k2 rfl;obtain⟨gi,oi,hgi,sG⟩:=HM.out.2.2.2.1.at (by simp[rT]);have tG:=HM.out.2.2.2.2.1.2.2 gi (by rw[hgi];simp[ag]);have bB:=Da OC HM.out.2.2.2.2.1.1 HM.out.2.1;obtain⟨J,hJ⟩:=ah (str (aO 1 (lD now msg)));have d1:wr.cell? ⟨gi,oi+1,none⟩=some (.string J):=by
     have h1:w5.cell? ⟨gi,oi+1,none⟩=some (.string J):=by rw[hJ];exact sG 1 _ rfl
     obtain⟨⟨T,f,hT⟩,_⟩:=OC;exact f.cell h1 (λhm=>hT gi hm tG)
    subst hgi;have s0:∀x,(sup [] wr.drew x).cell? ⟨B,1,none⟩=some (.slice (some ⟨gi,oi,none⟩) 2 ic):=λx=>(gB [] wr.drew x).cell (show wr.drew.cell? _=_ from (cell_of bB 1).trans rfl) (by simp)
    have s1:∀x,(sup [] wr.drew x).cell? ⟨gi,oi+1,none⟩=some (.string J):=λx=>(gB [] wr.drew x).cell (show wr.drew.cell? _=_ from d1) (by simp)
    have zf:(n+8)*M=(n+4+3)*M+M:=by rw[<-Nat.succ_mul]
    have AR:=λw' (f:Fr [] wr w') (g:Nat) (hg:wr.heap.size<=g) (hc:Cs w' (some ⟨g,0,none⟩) [.string (str nm),.string (str iD),.string (str (aO 1 (lD now msg)))])=>Zk (kr.fr f) [] (some ⟨g,0,none⟩) 1 nm iD fh 1 (lD now msg) (λw1 ra f1 bR=>zb5 ((kr.fr f).fr f1) HH.o2 ep qN HN.o0 ra 1 bR 4096 (by decide)) ep (λ_=>rfl) ((HH.o1.aS (yM 2 []) _).aS (yM 1 _) _).ok
     ⟨HN.o2,.inr rfl,Al _ _,HN.o1,by simp,λs hs=>by
      have e:s=nm:=by simpa using hs
      rw[e]
      exact⟨HN.o4,HN.o4,by have:=HN.o2.len;omega⟩,by decide⟩ HN.o5 ((HH.o1.aS (yM 2 []) _).aS (yM 1 _) _).idle HN.o6 HN.o7 ⟨ax _,by decide⟩ ⟨hc⟩ (λx hx=>yE kr.fs (by simp only[ag,eF]at hx;omega)) (by omega) iV (by omega) (by omega)
    rw[<-HZ.o0,<-hJ]at AR;have HV:=aQ AR hJ qN ep OC;clear k0 k1 k2 kr qN ep OC fX sG bB AR hJ tP tG zf;go_upto_region 21 with fail;refine lK 13 [(false,0),(false,1),(false,2),(false,3),(false,4),(false,5),(false,6),(false,7),(false,8),(false,9),(false,10),(false,11),(false,12)] [] (by kernel_rfl) (by kernel_rfl) (λ_ _ d _ _ h=>by cases d<;>exact h) ?_;simp only[kQ];refine eD 13 rfl ?_;simp only[cT];repeat (go_big_quiet_step (fail))
    refine wpQuiet_nil ?_;clear s0 s1 d1;refine j4 ?_;go_wp2_with (go_at_call 8;go_loud (refine (HV.o0 _ ((Fr.refl [] wr).drew.alloc _) wr.heap.size (ax _) (oC wr.drew _ _ _)).mono ?_;rintro e w9 ⟨rfl,UD,k9,s9⟩;have H9:=ai k9 s9;clear k9 s9));go_ret2;refine⟨by rw[<-HV.o1];rfl,UD,z1,z2,⟨H9.o0,HV.o2.aS HN.l8.1 _,HV.o3.aS HN.l9 _⟩,(((dS.refl w lab HM.out.2.2.2.2.2).trans HV.l4).trans (dS.refl _ _ ((Fr.refl [] wr).drew.alloc _))).trans H9.l1⟩
end ob
namespace ob
open Go Go.RowKit lib fs lo
set_option maxRecDepth 100000
theorem qtz (w:World):Calls Tryz.prog 174 #[.string ⟨#[99,111,109,109,105,116]⟩] w λe w'=>e = .returned (.tuple #[.int .i64 1,.bool true])/\Fr [] w w':=by
 have Vz:∀w:World,(Instr.index 135 (.agg obj.ke) (.int .i64 0)).run Tryz.prog w = .ok (.string ⟨#[]⟩) w:=λ_=>by kernel_rfl
 have hi1:∀w:World,(Instr.index 135 (.agg obj.ke) (.int .i64 1)).run Tryz.prog w = .ok (.string ⟨#[99,111,109,109,105,116]⟩) w:=λ_=>by kernel_rfl
 go_enter Tryz.func174,Tryz.ntmps174;go_wp2_with (go_at_call 58;refine (obj.Z6 _).mono ?_;rintro e w1 ⟨rfl,f1⟩;have H1:=af f1;clear f1);go_loopg [7] 2 (λk s7 wr=>∃i:Nat,s7 = .int .i64 (i:Nat)/\i+k=2/\i<=1/\wr=w1);case atStart=>exact⟨0,rfl,by omega,by omega,rfl⟩
 case round=>
  obtain⟨i,rfl,cQ,Vx,rfl⟩:=hrel;by_cases hi:i=0
  ·obtain rfl:gk=1+1:=by omega
   subst hi;go_wp2;go_roundg 1;case measure=>omega
   case rel=>exact⟨1,rfl,by omega,by omega,rfl⟩
  ·obtain rfl:i=1:=by omega
   go_wp2;go_ret2;exact⟨rfl,H1.out⟩
structure wR (s:LB):Prop where
 plain:∀c∈s,32<=c.toNat/\c.toNat<127
 len:s.length<=17
 runes:1<=Lib.runeCount (str s)/\Lib.runeCount (str s)<=100
theorem zen (s:LB) (h:wR s) (w:World):Calls Tryz.prog 175 #[.string (str s)] w λe w'=>e = .returned (.bool true)/\Fr [] w w':=by
 have hv:=λw'=>Um s (λc hc=>by have:=(h.plain c hc).2;omega) h.len w'
 have Qn:∀w,Calls Tryz.prog 204 #[.string (str s)] w λe w'=>e = .returned (.int .i64 (Lib.runeCount (str s)))/\Fr [] w w':=λw=>(Tryz.utf8_RuneCountInString (str s) w (by rw[aj];have:=h.len;omega)).mono λe w' ⟨he,pos,hw⟩=>⟨he,by rw[hw];exact RL w _ _⟩
 obtain⟨N,hN⟩:=ah (Lib.runeCount (str s));have hr:=h.runes;rw[<-hN]at Qn hr;have g3:decide ((1:Int)<=(N:Int))=true:=by simp;omega
 have g4:decide ((N:Int)<=(100:Int))=true:=by simp;omega
 obtain⟨z,hz⟩:=ah (str s);rw[<-hz]at hv Qn ⊢;obtain⟨L,hL⟩:=ah s.length;have hl:=h.len;rw[<-hL]at hl;have H:=aQ hv Qn h hz hL;clear hv Qn h hz hL hN;have uR:(Instr.range 9 (.string z)).run Tryz.prog w = .ok (.pointer (some ⟨w.heap.size,0,none⟩)) (w.iter z 0):=run_range_string (P:=Tryz.prog) w 9 z Tryz.underlying9;go_enter Tryz.func175,Tryz.ntmps175;go_wp2;clear uR;go_loopg [] L (λk wr=>∃p:Nat,p+k=L/\wr=w.iter z p);case atStart=>exact⟨0,by omega,rfl⟩
 case round=>
  obtain⟨p,oT,rfl⟩:=hrel;by_cases hp:p<L
  ·obtain⟨k,rfl⟩:∃k,gk=k+1:=⟨gk-1,by omega⟩;have uw:p<s.length:=by rw[<-H.out.2.2.2.2];exact hp
   obtain⟨c1,c2⟩:=H.out.2.2.1.plain s[p] (sk uw);have jZ:=λty=>YF w s p uw (by omega) ty
   rw[<-H.out.2.2.2.1]at jZ;obtain⟨x,hx⟩:=ah ((s[p]).toNat);rw[<-hx]at jZ c1 c2;have g1:decide ((x:Int)<32)=false:=by simp;omega
   have g2:((x:Int)==127)=false:=by simp only[beq_eq_false_iff_ne];omega
   clear hx uw;go_wp2;go_roundg k;case measure=>omega
   case rel=>exact⟨p+1,by omega,rfl⟩
  ·have jZ:=λty=>YE w s p (by rw[<-H.out.2.2.2.2];exact hp) ty
   rw[<-H.out.2.2.2.1]at jZ;have F:=af (RL w z p);obtain⟨w2,cC⟩:=ah (w.iter z p);rw[<-cC]at jZ F ⊢;clear cC hp oT;go_wp2_with (first
    | (go_at_call 204;go_loud (refine (H.out.2.1 _).mono ?_;rintro e w3 ⟨rfl,f3⟩;have H3:=af f3;clear f3))
    | (go_at_call 46;go_loud (refine (H.out.1 _).mono ?_;rintro e w4 ⟨rfl,f4⟩;have H4:=af f4;clear f4)))
   go_ret;exact⟨rfl,(F.out.trans H3.out).trans H4.out⟩
set_option maxRecDepth 100000
def nZ:List UInt8:=[111,98,106,101,99,116]
def qF:List UInt8:=[116,121,112,101]
def jE:List UInt8:=[99,111,109,109,105,116]
def sR:List UInt8:=[116,97,103]
def fT:List UInt8:=[116,97,103,103,101,114]
def jS (o v tg msg:LB):List UInt8:=ln nZ o (ln qF jE (ln sR v (ln fT tg (10::msg))))
structure wP (o v tg msg:LB):Prop where
 ho:kP o
 hv:wR v
 I8:(∀x∈tg,x≠10)/\tg.length<=100
 hmsg:msg.length<=100
 pers:∀w,Calls Tryz.prog 172 #[.string (str tg)] w λe w'=>e = .returned (.bool true)/\Fr [] w w'
 txt:∀w,Calls Tryz.prog 173 #[.string (str msg),.string ⟨#[0]⟩] w λe w'=>e = .returned (.bool true)/\Fr [] w w'
theorem wR.yS {s:LB} (h:wR s):∀x∈s,x≠10:=by intro x hx e;have:=h.plain x hx;rw[e]at this;exact absurd this.1 (by decide)
theorem zgu (o v tg msg:LB) (m:Int) (w:World) (h:wP o v tg msg) (hm:w.cell? ⟨2,0,none⟩=some (.int .i64 m)) :
  Calls Tryz.prog 112 #[.string (str (jS o v tg msg))] w λe w'=>e = .returned (.tuple #[mG o 1 v tg msg,.bool true])/\Fr [] w w':=by
 obtain⟨z,hz⟩:=ah (str (jS o v tg msg));rw[<-hz];have HZ:=af hz;clear hz;go_enter Tryz.func112,Tryz.ntmps112;go_upto_region 3 with fail;obtain⟨w1,aJ⟩:∃w1,w1=(((w.alloc (Obj.cells #[Value.string z] 9)).alloc (Obj.cells #[Value.string { data:=#[] },Value.int .i64 0,Value.string { data:=#[] },Value.string { data:=#[] },Value.string { data:=#[] }] 168)).alloc (Obj.cells #[Value.bool false,Value.bool false,Value.bool false,Value.bool false] 271)):=⟨_,rfl⟩;obtain⟨P,hP⟩:=ah w.heap.size;obtain⟨C,hC⟩:=ah (w.heap.size+1);obtain⟨B,hB⟩:=ah (w.heap.size+1+1);have st:St w w1 P C B 168 271 (jS o v tg msg) #[.string ⟨#[]⟩,.int .i64 0,.string ⟨#[]⟩,.string ⟨#[]⟩,.string ⟨#[]⟩] #[.bool false,.bool false,.bool false,.bool false]:=by
  refine⟨?_,?_,?_,?_,by omega,by omega⟩
  ·unfold nT;rw[aJ,hP,<-HZ.out];exact alloc_old _ (alloc_old _ (aV w _))
  ·rw[aJ,hC];refine alloc_old _ ?_;have:=aV (w.alloc (Obj.cells #[Value.string z] 9)) (Obj.cells #[Value.string { data:=#[] },Value.int .i64 0,Value.string { data:=#[] },Value.string { data:=#[] },Value.string { data:=#[] }] 168);simpa using this
  ·rw[aJ,hB];have:=aV ((w.alloc (Obj.cells #[Value.string z] 9)).alloc (Obj.cells #[Value.string { data:=#[] },Value.int .i64 0,Value.string { data:=#[] },Value.string { data:=#[] },Value.string { data:=#[] }] 168)) (Obj.cells #[Value.bool false,Value.bool false,Value.bool false,Value.bool false] 271);simpa using this
  ·rw[aJ];exact (((Fr.refl [] w).alloc _).alloc _).alloc _
 rw[<-hB,<-hC,<-hP,<-aJ];clear hB hC hP aJ HZ;have n1:¬C=B:=st.ne.2.2;have n2:¬B=C:=λe=>n1 e.symm
 have hl:=h.ho.len;have kj:=h.hv.len;have zr:=h.I8.2;have Jl:=h.hmsg;have HH:=ai h hm;have HL:=aA hl kj zr Jl;have HS:=af st;clear h hm st hl kj zr Jl;go_upto_region 4 with (go_at_call 171;go_loud (refine (Dg nZ o (ln qF jE (ln sR v (ln fT tg (10::msg)))) P m _ HS.out.text HH.out.1.ho.yS (by decide) (by have:=HL.out;simp[ln,qF,jE,sR,fT];omega) (HS.out.fr.cell HH.out.2 (by simp))).mono ?_;rintro e w2 ⟨rfl,ep,f2⟩;have H2:=af (HS.out.field ep f2);have c2:=(cell_of H2.out.obj 0).trans (show _=some (Value.string ⟨#[]⟩) from rfl);have d2:=(cell_of H2.out.ok 0).trans (show _=some (Value.bool false) from rfl);have z2:=aT H2.out.obj 0;have y2:=aT H2.out.ok 0;clear ep f2));have JQ:=(H2.out.oy 0 (.string (str o))).uF 0 (.bool true);clear c2 d2 z2 y2 H2 HS;generalize (w2.setCell ⟨C,0,none⟩ (.string (str o))).setCell ⟨B,0,none⟩ (.bool true)=w3 at *;have H3:=af JQ;clear JQ;go_upto_region 6 with (first
  | (go_at_call 171;go_loud (refine (Dg qF jE (ln sR v (ln fT tg (10::msg))) P m _ H3.out.text (by decide) (by decide) (by have:=HL.out;simp[ln,jE,sR,fT];omega) (H3.out.fr.cell HH.out.2 (by simp))).mono ?_;rintro e w4 ⟨rfl,Cg,f4⟩;have H4:=af (H3.out.field Cg f4);clear Cg f4))
  | (go_at_call 174;go_loud (refine (qtz _).mono ?_;rintro e w5 ⟨rfl,f5⟩;have H5:=af (H4.out.cG f5);have c5:=(cell_of H5.out.obj 1).trans (show _=some (Value.int .i64 0) from rfl);have d5:=(cell_of H5.out.ok 1).trans (show _=some (Value.bool false) from rfl);have z5:=aT H5.out.obj 1;have y5:=aT H5.out.ok 1;clear f5)))
 have Yd:=(H5.out.oy 1 (.int .i64 1)).uF 1 (.bool true);clear c5 d5 z5 y5 H5 H4 H3;generalize (w5.setCell ⟨C,1,none⟩ (.int .i64 1)).setCell ⟨B,1,none⟩ (.bool true)=w6 at *;have H6:=af Yd;clear Yd;go_upto_region 7 with (go_at_call 171;go_loud (refine (Dg sR v (ln fT tg (10::msg)) P m _ H6.out.text HH.out.1.hv.yS (by decide) (by have:=HL.out;simp[ln,fT];omega) (H6.out.fr.cell HH.out.2 (by simp))).mono ?_;rintro e w7 ⟨rfl,Ja,f7⟩;have H7:=af (H6.out.field Ja f7);have c7:=(cell_of H7.out.obj 2).trans (show _=some (Value.string ⟨#[]⟩) from rfl);have d7:=(cell_of H7.out.ok 2).trans (show _=some (Value.bool false) from rfl);have z7:=aT H7.out.obj 2;have y7:=aT H7.out.ok 2;clear Ja f7));have EF:=(H7.out.oy 2 (.string (str v))).uF 2 (.bool true);clear c7 d7 z7 y7 H7 H6;generalize (w7.setCell ⟨C,2,none⟩ (.string (str v))).setCell ⟨B,2,none⟩ (.bool true)=w8 at *;have H8:=af EF;clear EF;go_upto_region 8 with (go_at_call 171;go_loud (refine (Dg fT tg (10::msg) P m _ H8.out.text HH.out.1.I8.1 (by decide) (by have:=HL.out;simp;omega) (H8.out.fr.cell HH.out.2 (by simp))).mono ?_;rintro e w9 ⟨rfl,hs9,f9⟩;have H9:=af (H8.out.field hs9 f9);have c9:=(cell_of H9.out.obj 3).trans (show _=some (Value.string ⟨#[]⟩) from rfl);have d9:=(cell_of H9.out.ok 3).trans (show _=some (Value.bool false) from rfl);have z9:=aT H9.out.obj 3;have y9:=aT H9.out.ok 3;clear hs9 f9));have RT:=(H9.out.oy 3 (.string (str tg))).uF 3 (.bool true);clear c9 d9 z9 y9 H9 H8;generalize (w9.setCell ⟨C,3,none⟩ (.string (str tg))).setCell ⟨B,3,none⟩ (.bool true)=wA at *;have HA:=af RT;have tA:=(cell_of RT.text 0).trans (show _=some (Value.string (str ([10]++msg))) from rfl);clear RT;go_upto_region 9 with (go_at_call 77;go_loud (refine (Pd [10] msg (by have:=HL.l3;simp;omega) _).mono ?_;rintro e wB ⟨rfl,hw⟩;obtain rfl:=hw.symm));have NK:=HA.out.ok;have Q8:=HA.out.obj;have b0:=(cell_of NK 0).trans (show _=some (Value.bool true) from rfl);have b1:=(cell_of NK 1).trans (show _=some (Value.bool true) from rfl);have b2:=(cell_of NK 2).trans (show _=some (Value.bool true) from rfl);have b3:=(cell_of NK 3).trans (show _=some (Value.bool true) from rfl);have k0:=(cell_of Q8 0).trans (show _=some (Value.string (str o)) from rfl);have k2:=(cell_of Q8 2).trans (show _=some (Value.string (str v)) from rfl);have k3:=(cell_of Q8 3).trans (show _=some (Value.string (str tg)) from rfl);clear NK Q8;have hq:∀(x y:Operand) (w:World),(eqGuard BinOp.neq 271 x y (.agg #[.bool true,.bool true,.bool true,.bool true]) (.agg #[.bool true,.bool true,.bool true,.bool true])).run Tryz.prog w = .ok () w:=λ_ _ _=>by kernel_rfl
 have hb:∀w:World,(binOp BinOp.neq 271 (.agg #[.bool true,.bool true,.bool true,.bool true]) (.agg #[.bool true,.bool true,.bool true,.bool true])).run Tryz.prog w = .ok (.bool false) w:=λ_=>by kernel_rfl
 go_upto_region 11 with (first
  | (go_at_call 116;go_loud (refine (Au o _ (by rw[HL.o0];decide)).mono ?_;rintro e wB ⟨he,f8⟩;obtain rfl:e = .returned (.bool true):=(by rw[he,HH.out.1.ho.hash]);have HB:=af f8;have l2:=f8.cell k2 (by simp);have l3:=f8.cell k3 (by simp);clear he f8))
  | (go_at_call 175;go_loud (refine (zen v HH.out.1.hv _).mono ?_;rintro e wC ⟨rfl,f9⟩;have HC:=af f9;have q3:=f9.cell l3 (by simp);clear f9))
  | (go_at_call 172;go_loud (refine (HH.out.1.pers _).mono ?_;rintro e wD ⟨rfl,fA⟩;have HD:=af fA;clear fA))
  | (go_at_call 173;go_loud (refine (HH.out.1.txt _).mono ?_;rintro e wE ⟨rfl,fB⟩;have HE:=af fB;clear fB)))
 have f8:=((HB.out.trans HC.out).trans HD.out).trans HE.out;have sB:=HA.out.cG f8;have e4:=(cell_of sB.obj 4).trans (show _=some (Value.string ⟨#[]⟩) from rfl);have g4:=aT sB.obj 4;have HF:=af sB;clear sB b0 b1 b2 b3 k0 k2 k3 l2 l3 q3 hq hb f8 HB HC HD HE tA;go_upto_region 12 with fail;have sF:=HF.out.oy 4 (.string (str msg));clear e4 g4 HF;generalize (wE.setCell ⟨C,4,none⟩ (.string (str msg)))=wF at *;have r0:=(cell_of sF.obj 0).trans (show _=some (Value.string (str o)) from rfl);have r1:=(cell_of sF.obj 1).trans (show _=some (Value.int .i64 1) from rfl);have r2:=(cell_of sF.obj 2).trans (show _=some (Value.string (str v)) from rfl);have r3:=(cell_of sF.obj 3).trans (show _=some (Value.string (str tg)) from rfl);have r4:=(cell_of sF.obj 4).trans (show _=some (Value.string (str msg)) from rfl);have HG:=af sF;clear sF;go_wp2;go_ret2;exact⟨rfl,HG.out.fr⟩
theorem qzp {o v tg msg:LB} (h:wP o v tg msg) (a:OA) (c L:Nat) (hL:L=(jS o v tg msg).length) (m:Int) (w:World) (hr:lib.Rd w a c (jS o v tg msg)) (hm:w.cell? ⟨2,0,none⟩=some (.int .i64 m)) :
  Calls Tryz.prog 57 #[.int .i64 4,.slice a L c] w λe w'=>e = .returned (.tuple #[mG o 1 v tg msg,.int .i64 0])/\Fr [] w w':=by
 have hcv:=xX w Tryz.underlying35 Tryz.underlying5 Tryz.underlying9 hL.symm hr.cs;have H:=af (zgu o v tg msg m w h hm);clear h hr hm hL;go_enter Tryz.func57,Tryz.ntmps57;go_wp2_with (go_at_call 112;refine H.out.mono ?_;rintro e w8 ⟨rfl,f8⟩;have H8:=af f8;clear f8);go_ret2;exact⟨rfl,H8.out⟩
open pk
set_option maxRecDepth 100000
theorem XB {w:World} {r O R F n M:Nat} {t:Nm->Option (List UInt8)} {lab:Nat->Option Lb} {m:Int} (h:Rp w r O R F n M t lab m) {o v tg msg:LB} (iq:wP o v tg msg) (ho:Has t 4 (jS o v tg msg)) :
  Calls Tryz.prog 83 #[.func (.func 36) #[.pointer (some ⟨r,0,none⟩)] #[],.string (str (aO 4 (jS o v tg msg)))] w λe w'=>e = .returned (.tuple #[mG o 1 v tg msg,.int .i64 0])/\Fr [] w w':=by
 refine (R9 r (aO 4 (jS o v tg msg)) 4 (jS o v tg msg) w (λx _=>x=mG o 1 v tg msg) (PO r O R F n M t lab _ w h.box h.fs h.nop (by rw[nU];decide) h.pw ho.has 4 _ ho.read) (λw' ao f hr=>(qzp iq ao _ _ rfl m w' hr (f.cell h.mx.cell (by simp))).mono λe fK ⟨he,f2⟩=>⟨_,he,rfl,f2⟩)).mono λe w' ⟨x,he,hv,f⟩=>⟨by rw[he,hv],f⟩
theorem Px {fn:Func} {t u v:Tmp} (h:fn.results=#[.tmp t,.tmp u,.tmp v]) (tmps:AV) (P:Program) (w:World) :
  (results fn tmps).run P w = .ok (.tuple #[tmps.getD t undef,tmps.getD u undef,tmps.getD v undef]) w:=by
 simp[results,h]
theorem zdw (r:Nat) (C tid au co msg:Nm) (w:World) (ha:∀w1,Fr [] w w1->Calls Tryz.prog 83 #[.func (.func 36) #[.pointer (some ⟨r,0,none⟩)] #[],.string (str C)] w1 λe w'=>∃pa,e = .returned (.tuple #[kN tid pa 0 au co msg,.int .i64 0])/\Fr [] w1 w') :
  Calls Tryz.prog 35 #[.func (.func 36) #[.pointer (some ⟨r,0,none⟩)] #[],.string (str C)] w λe w'=>e = .returned (.tuple #[.string (str C),.int .i64 1,.bool true])/\Fr [] w w':=by
 obtain⟨z,hz⟩:=ah (str C);rw[<-hz]at ha ⊢;have uv:∀(pa:OA) (w:World),(Instr.typeAssert (kN tid pa 0 au co msg) 72 168 true).run Tryz.prog w = .ok (.tuple #[.agg #[.string ⟨#[]⟩,.int .i64 0,.string ⟨#[]⟩,.string ⟨#[]⟩,.string ⟨#[]⟩],.bool false]) w:=λ_ _=>by kernel_rfl
 have Cp:∀(pa:OA) (f:Nat) (w:World),(method (f+1) 132 (.agg #[.string (str tid),.slice pa 0 0,.string (str au),.string (str co),.string (str msg)]) "Kind").run Tryz.prog w = .ok (424,(.agg #[.string (str tid),.slice pa 0 0,.string (str au),.string (str co),.string (str msg)])) w:=λ_ _ _=>by kernel_rfl
 unfold kN at uv ha;have H:=af ha;clear ha hz;go_enter Tryz.func35,Tryz.ntmps35;go_wp2;go_loopg [1,11] 0 (λk s1 s11 wr=>s1 = .string z/\s11 = .int .i64 0/\wr=w);case atStart=>exact⟨rfl,rfl,rfl⟩
 case round=>obtain⟨rfl,rfl,rfl⟩:=hrel;go_upto_region 6 with (go_at_call 83;go_loud (refine (H.out _ (Fr.refl _ _)).mono ?_;rintro e w2 ⟨pa,rfl,f2⟩;have H2:=af f2;clear f2));have ye:=uv pa;have j3:=Cp pa;clear uv Cp;go_wp2_with (go_at_call 424;go_loud (refine (pB _ _ _ _ _ _).mono ?_;rintro e w3 ⟨rfl,f3⟩;have H3:=af f3;clear f3));refine bodyPost_ret (Px rfl _ _ _) rfl ?_;exact⟨rfl,H2.out.trans (((Fr.refl [] w2).alloc _).trans H3.out)⟩
theorem zdv (r:Nat) (G C tid au co msg v tg ms:Nm) (w:World) (hg:∀w1,Fr [] w w1->Calls Tryz.prog 83 #[.func (.func 36) #[.pointer (some ⟨r,0,none⟩)] #[],.string (str G)] w1 λe w'=>e = .returned (.tuple #[mG C 1 v tg ms,.int .i64 0])/\Fr [] w1 w')
  (ha:∀w1,Fr [] w w1->Calls Tryz.prog 83 #[.func (.func 36) #[.pointer (some ⟨r,0,none⟩)] #[],.string (str C)] w1 λe w'=>∃pa,e = .returned (.tuple #[kN tid pa 0 au co msg,.int .i64 0])/\Fr [] w1 w') :
  Calls Tryz.prog 35 #[.func (.func 36) #[.pointer (some ⟨r,0,none⟩)] #[],.string (str G)] w λe w'=>e = .returned (.tuple #[.string (str C),.int .i64 1,.bool true])/\Fr [] w w':=by
 have I8:∀(w:World),(Instr.typeAssert (mG C 1 v tg ms) 72 168 true).run Tryz.prog w = .ok (.tuple #[.agg #[.string (str C),.int .i64 1,.string (str v),.string (str tg),.string (str ms)],.bool true]) w:=λ_=>by kernel_rfl
 have uv:∀(pa:OA) (w:World),(Instr.typeAssert (kN tid pa 0 au co msg) 72 168 true).run Tryz.prog w = .ok (.tuple #[.agg #[.string ⟨#[]⟩,.int .i64 0,.string ⟨#[]⟩,.string ⟨#[]⟩,.string ⟨#[]⟩],.bool false]) w:=λ_ _=>by kernel_rfl
 have Cp:∀(pa:OA) (f:Nat) (w:World),(method (f+1) 132 (.agg #[.string (str tid),.slice pa 0 0,.string (str au),.string (str co),.string (str msg)]) "Kind").run Tryz.prog w = .ok (424,(.agg #[.string (str tid),.slice pa 0 0,.string (str au),.string (str co),.string (str msg)])) w:=λ_ _ _=>by kernel_rfl
 obtain⟨z,hz⟩:=ah (str C);obtain⟨y,hy⟩:=ah (str G);unfold kN at uv ha;unfold mG at I8 hg;rw[<-hz]at ha I8 hg;rw[<-hy]at hg;rw[<-hz,<-hy];have H:=ai hg ha;clear ha hg hz hy;go_enter Tryz.func35,Tryz.ntmps35;go_wp2;go_loopg [1,11] 1 (λk s1 s11 wr=>∃i:Nat,s11 = .int .i64 (i:Nat)/\i+k=1/\(i=0->s1 = .string y/\wr=w)/\(i=1->s1 = .string z/\Fr [] w wr));case atStart=>exact⟨0,rfl,by omega,λ_=>⟨rfl,rfl⟩,λh=>by cases h⟩
 case round=>
  obtain⟨i,rfl,cQ,k0,k1⟩:=hrel;by_cases hi:i=0
  ·obtain rfl:gk=0+1:=by omega
   obtain⟨rfl,rfl⟩:=k0 hi;subst hi;clear k0 k1 uv Cp;go_wp2_with (go_at_call 83;go_loud (refine (H.o0 _ (Fr.refl _ _)).mono ?_;rintro e w2 ⟨rfl,f2⟩;have H2:=af f2;clear f2));go_roundg 0;case measure=>omega
   case rel=>exact⟨1,rfl,by omega,(λh=>by cases h),λ_=>⟨rfl,H2.out.alloc _⟩⟩
  ·obtain rfl:i=1:=by omega
   obtain rfl:gk=0:=by omega
   obtain⟨rfl,f⟩:=k1 rfl;have F:=af f;clear k0 k1 f I8;go_upto_region 6 with (go_at_call 83;go_loud (refine (H.l1 _ F.out).mono ?_;rintro e w2 ⟨pa,rfl,f2⟩;have H2:=af f2;clear f2));have ye:=uv pa;have j3:=Cp pa;clear uv Cp;go_wp2_with (go_at_call 424;go_loud (refine (pB _ _ _ _ _ _).mono ?_;rintro e w3 ⟨rfl,f3⟩;have H3:=af f3;clear f3));refine bodyPost_ret (Px rfl _ _ _) rfl ?_;exact⟨rfl,(F.out.trans H2.out).trans (((Fr.refl [] w2).alloc _).trans H3.out)⟩
set_option maxRecDepth 100000
theorem zhv (R F n M:Nat) (t:Nm->Option (List UInt8)) (lab:Nat->Option Lb) (s:Nm) (fh:List Nm) (m:Int) (w:World) (hR:qC w R F) (h:Fs w F n M t lab) (ht:t kX=some (gf s)) (hs:mP s fh) (hm:w.cell? ⟨2,0,none⟩=some (.int .i64 m)) :
  Calls Tryz.prog 32 #[.pointer (some ⟨R,0,none⟩)] w λe w'=>e = .returned (.tuple #[.string (str s),.int .i64 0])/\Fr [] w w':=by
 have eY:=xW F n M t lab kX w h ⟨by decide,by decide,by decide⟩;rw[ht]at eY;obtain⟨L,hL⟩:=ah ((gf s).length);have qs:Calls Tryz.prog 65 #[.pointer (some ⟨F,0,none⟩),.string ⟨#[72,69,65,68]⟩] w λe w'=>∃a,e = .returned (.tuple #[.slice a L L,.int .i64 0])/\(∀cap,(convert 35 9 (.slice a L cap)).run Tryz.prog w' = .ok (.string (str (gf s))) w')/\Fr [] w w':=by
  refine eY.mono λe w' h=>?_
  obtain⟨⟨a,he,hr,_⟩,f⟩:=h;rw[<-hL]at he;exact⟨a,he,λcap=>xX w' Tryz.underlying35 Tryz.underlying5 Tryz.underlying9 hL.symm hr.cs cap,f⟩
 have hsl:=hs.len;have vd:=Pd [114,101,102,58,32] (s++[10]) (by simp;omega);have hcs:=YV s [10] (by simp;omega);have hv:=λw' (f:Fr [] w w')=>KM s fh hs m w' (f.cell hm (by simp))
 have c0:=(cell_of hR 0).trans (show _=some (Value.pointer (some ⟨F,0,none⟩)) from rfl);rw[show ([114,101,102,58,32]++(s++[10]):Nm)=gf s by unfold gf;rw[fU]]at vd;obtain⟨Z,hZ⟩:=ah (str s);obtain⟨J,hJ⟩:=ah (str (gf s));obtain⟨K,hK⟩:=ah (str (s++[10]));rw[<-hJ]at qs vd;rw[<-hK]at vd hcs;rw[<-hZ]at hcs hv ⊢;have H:=aA qs vd hcs hv;clear eY qs vd hcs hv hZ hJ hK hL hs h hm hR ht hsl;go_enter Tryz.func32,Tryz.ntmps32;go_upto_region 2 with (go_at_call 65;go_loud (refine H.o0.mono ?_;rintro e w1 ⟨a,rfl,hcv,f1⟩;have H1:=af f1;clear f1));have VG:=hcv L;go_wp2_with (first
  | (go_at_call 77;go_loud (refine (H.o1 _).mono ?_;rintro e w2 ⟨rfl,hw⟩;obtain rfl:=hw.symm))
  | (go_at_call 78;go_loud (refine (H.o2 _).mono ?_;rintro e w2 ⟨rfl,hw⟩;obtain rfl:=hw.symm))
  | (go_at_call 16;go_loud (refine (H.l3 _ H1.out).mono ?_;rintro e w3 ⟨rfl,f3⟩;have H3:=af f3;clear f3)))
 go_ret2;exact⟨rfl,H1.out.trans H3.out⟩
set_option maxRecDepth 100000
theorem qyb (s p:Nm) (X:Nat) (w:World) (h:w.cell? ⟨X,0,none⟩=some (.string (str s))) :
  Calls Tryz.prog 31 #[.string (str p),.pointer (some ⟨X,0,none⟩)] w λe w'=>e = .returned (.bool (Lib.hasPrefix s p))/\w'=w:=by
 have hp:=λw=>Tryz.strings_HasPrefix (str s) (str p) w
 rw[show Lib.hasPrefix (str s).data.toList (str p).data.toList=Lib.hasPrefix s p from rfl]at hp;have H:=af hp;clear hp;go_enter Tryz.func31,Tryz.ntmps31;go_wp2_with (go_at_call 17;go_loud (refine (H.out _).mono ?_;rintro e w1 ⟨rfl,hw⟩;obtain rfl:=hw.symm));go_ret;exact⟨rfl,rfl⟩
theorem xP (s p:Nm) (a:OA) (c X:Nat) (w:World) (hc:Cs w a [.string (str p)]) (h:w.cell? ⟨X,0,none⟩=some (.string (str s))) :
  Calls Tryz.prog 30 #[.slice a 1 c,.func (.func 31) #[] #[.pointer (some ⟨X,0,none⟩)]] w λe w'=>e = .returned (.bool (Lib.hasPrefix s p))/\w'=w:=by
 obtain⟨b,hb⟩:=ah (Lib.hasPrefix s p);have k:Calls Tryz.prog 76 #[.slice a 1 c,.func (.func 31) #[] #[.pointer (some ⟨X,0,none⟩)]] w λe w'=>e = .returned (.int .i64 (if b=true then 0 else -1))/\w'=w:=by
  obtain⟨g,o,rfl,hh⟩:=hc.at (by simp);have d0:w.cell? ⟨g,o,none⟩=some (.string (str p)):=hh 0 _ rfl;have HB:=qyb s p X w h;rw[<-hb]at HB;have H:=af HB;clear HB hh hc h hb;go_enter Tryz.func76,Tryz.ntmps76;go_wp2;go_loopg [8] 1 (λk s8 wr=>∃i:Nat,s8 = .int .i64 (i:Nat)/\i+k=1/\wr=w/\(i=1->b=false));case atStart=>exact⟨0,rfl,by omega,rfl,λh=>by cases h⟩
  case round=>
   obtain⟨i,rfl,cQ,rfl,h1⟩:=hrel;by_cases hi:i=0
   ·obtain rfl:gk=0+1:=by omega
    subst hi;clear h1;cases b with
    | true=>
     go_wp2_with (go_at_call 31;go_loud (refine H.out.mono ?_;rintro e w2 ⟨rfl,hw⟩;obtain rfl:=hw.symm));go_ret;exact⟨rfl,rfl⟩
    | false=>
     go_wp2_with (go_at_call 31;go_loud (refine H.out.mono ?_;rintro e w2 ⟨rfl,hw⟩;obtain rfl:=hw.symm));go_roundg 0;case measure=>omega
     case rel=>exact⟨1,rfl,by omega,rfl,by simp⟩
   ·obtain rfl:i=1:=by omega
    obtain rfl:gk=0:=by omega
    obtain rfl:=h1 rfl;go_wp2;go_ret;exact⟨rfl,rfl⟩
 rw[<-hb];have H:=af k;clear k hc h hb;go_enter Tryz.func30,Tryz.ntmps30;cases b with
 | true=>
  go_wp2_with (go_at_call 76;(refine H.out.mono ?_;rintro e w1 ⟨rfl,hw⟩;obtain rfl:=hw.symm));go_ret;exact⟨rfl,rfl⟩
 | false=>go_wp2_with (go_at_call 76;(refine H.out.mono ?_;rintro e w1 ⟨rfl,hw⟩;obtain rfl:=hw.symm));go_ret;exact⟨rfl,rfl⟩
theorem zce (s p:Nm) (a:OA) (c X:Nat) (w:World) (hc:Cs w a [.string (str p)]) (h:w.cell? ⟨X,0,none⟩=some (.slice a 1 c)) :
  Calls Tryz.prog 29 #[.string (str s),.pointer (some ⟨X,0,none⟩)] w λe w'=>e = .returned (.bool (Lib.hasPrefix s p))/\Fr [] w w':=by
 have fa:Fr [] w (w.alloc (.cells #[.string (str s)] 9)):=(Fr.refl [] w).alloc _;have h2:=fa.cell h (by simp);have HC:=xP s p a c w.heap.size (w.alloc (.cells #[.string (str s)] 9)) (hc.fr fa (by simp)) ((cell_of (aV w _) 0).trans rfl);have H:=ai HC fa;clear HC fa hc;go_enter Tryz.func29,Tryz.ntmps29;go_wp2_with (go_at_call 30;go_loud ((with_reducible refine H.o0.mono ?_);rintro e w1 ⟨rfl,hw⟩;obtain rfl:=hw.symm));go_ret;exact⟨rfl,H.l1⟩
open pkt
variable {w w1 wr wx:World} {a b:OA} {c2 cap n:Nat} {ls:List Lv} {bs:Nm}
set_option maxRecDepth 100000
def mz (bs:Nm) (w:World) (e:Ending) (w':World):Prop:=∃a,e = .returned (.agg #[.int .i64 1,.slice a bs.length bs.length])/\lib.Rd w' a bs.length bs/\Fr [] w w'/\∀y∈ag a,w.heap.size<=y/\y<w'.heap.size
theorem zc3 (s:Nm) (hl:s.length<=10000) (w:World):Calls Tryz.prog 33 #[.string (str s)] w (mz (s++[10]) w):=by
 unfold mz;have e1:(s++[10]:Nm).length=s.length+1:=by simp
 rw[e1];clear e1;have fE:str s++(⟨#[10]⟩:ByteArray)=str (s++[10]):=by rw[<-gH];rfl
 have hlen:(s++[10]).length=s.length+1:=by simp
 have cZ:(str s).size<=10000:=by rw[aj];exact hl
 obtain⟨Z,hZ⟩:=ah (str s);rw[<-hZ]at fE cZ ⊢;obtain⟨N,hN⟩:=ah s.length;rw[<-hN]at hlen hl ⊢;have H:=ai fE hlen;clear fE hlen hZ hN;have f0:Fr [] w (w.alloc (.cells #[.int .i64 0,.slice none 0 0] 46)):=(Fr.refl [] w).alloc _;have ha:=aV w (.cells #[.int .i64 0,.slice none 0 0] 46);have bF:w.heap.size<(w.alloc (.cells #[.int .i64 0,.slice none 0 0] 46)).heap.size:=by rw[ik];omega
 go_enter Tryz.func33,Tryz.ntmps33;go_upto_region 1 with fail;generalize (w.alloc (.cells #[.int .i64 0,.slice none 0 0] 46))=w1 at *;generalize hk:w.heap.size=k at *;go_wp2_with (first
  | (refine IY (e:=5) Tryz.underlying9 Tryz.underlying35 Tryz.underlying5 rfl _ rfl (s++[10]) (by exact congrArg Value.string H.o0) (by rw[H.l1];unfold maxLen;omega) ?_;intro cap w2 gp o2 f2 kj;rw[H.l1]at gp ⊢;have h2:=f2.ag ha (by simp);have a0:=cell_of h2 0;have a1:=cell_of h2 1;have z0:=aT h2 0;have z1:=aT h2 1;have kE:=o2.shape.2.1;have H2:=aq h2 o2.rd f2;clear h2 o2 f2)
  | (go_at_call 79;go_loud ((with_reducible refine (J2 _ _ _ _ gp kE).mono ?_);rintro e w3 ⟨rfl,hw⟩;obtain rfl:=hw.symm)))
 (try simp only[Exit.inBlock,Exit.then]);have h:=H2.out;have kY:((w2.setCell ⟨k,0,none⟩ (.int .i64 1)).setCell ⟨k,1,none⟩ (.slice (some ⟨w1.heap.size,0,none⟩) (N+1) (N+1))).heap[k]?=some (.cells #[.int .i64 1,.slice (some ⟨w1.heap.size,0,none⟩) (N+1) (N+1)] 46 (0,0)):=(df (df h.1 _) _).trans rfl;refine bodyPost_ret (qkp rfl _ _ k _ (0,0) rfl kY rfl) rfl ?_;have NR:Fr [k] w2 ((w2.setCell ⟨k,0,none⟩ (.int .i64 1)).setCell ⟨k,1,none⟩ (.slice (some ⟨w1.heap.size,0,none⟩) (N+1) (N+1))):=((Fr.refl [k] w2).setCell (by simp) _).setCell (by simp) _;have qN:=f0.size;have ep:=NR.size;refine⟨some ⟨w1.heap.size,0,none⟩,rfl,⟨h.2.1.cs.fr NR (by simp[ag];omega),by rw[H.l1];exact ax _,by unfold maxLen;omega,λe=>by cases e⟩,(f0.trans h.2.2).step NR λx hx=>.inr (by simp at hx;omega),λy hy=>by simp only[ag,eF]at hy;omega⟩
set_option maxRecDepth 100000
def mq:Nm:=[72,69,65,68]
def dG:Nm:=[32,72,69,65,68]
def pZ:Nm:=[32,115,121,109,114,101,102,45,116,97,114,103,101,116,58]
def kU:Nm:=[32,112,101,101,108,101,100,58]
def eJ (p hn hc:Nm) (sy:Bool):List Ln:=if Lib.hasPrefix mq p=true then [(1,(if sy=true then hc++dG++(pZ++hn) else hc++dG)++[10])] else []
def eQ (p:Nm) (pe:Bool) (pl:Rf->Nm) (x:Rf):List Ln:=if Lib.hasPrefix x.1 p=true then [(1,(if pe=true/\pl x≠x.2 then x.2++[32]++x.1++(kU++pl x) else x.2++[32]++x.1)++[10])] else []
theorem KE {w2:World} {a2:OA} (h:jI w wr a cap ls) (f1:Fr [] wr w1) (hr:lib.Rd w1 b bs.length bs) (hb:∀y∈ag b,wr.heap.size<=y/\y<w1.heap.size)
  (A:aN (w1.alloc (.cells #[.int .i64 1,.slice b bs.length bs.length] 46)) w2 46 2 (ag a) a2 (ls.length+1) c2 (bK ls++[.int .i64 1,.slice b bs.length bs.length])):jI w w2 a2 c2 (ls++[⟨1,b,bs.length,bs⟩]):=by
 have f2:Fr [] wr (w1.alloc (.cells #[.int .i64 1,.slice b bs.length bs.length] 46)):=f1.alloc _;have bF:∀y∈ag a,y<wr.heap.size:=λy hy=>si h.own (rz hy)
 have hcs:=hr.cs.fr ((Fr.refl [] w1).alloc (.cells #[.int .i64 1,.slice b bs.length bs.length] 46)) (by simp);exact (h.cG f2).more (x:=⟨1,b,bs.length,bs⟩) (by simpa[bK] using A) ⟨hcs,ax _,hr.nil,hr.max⟩ (λy hy h=>by have:=(hb y hy).1;have:=bF y h;omega) (λy hy=>fM (hb y hy).2 ((Fr.refl [] w1).alloc (.cells #[.int .i64 1,.slice b bs.length bs.length] 46)).size)
theorem qxl {a:Addr} {v:Value} (h:w.cell? a=some v):a.block<w.heap.size:=by
 rcases kT a.block w.heap.size with h'|h'
 ·exact h'
 ·unfold World.cell? at h;rw[J8 h']at h;simp at h
theorem RH {w4 w5:World} {a2:OA} {xs:LV} (f1:Fr [] wr wx) (f2:Fr [] wx w4)
  (A:aN (w4.alloc (.cells #[.int .i64 1,.slice b bs.length bs.length] 46)) w5 46 2 (ag a) a2 n c2 xs):Fr (ag a) wr w5:=
 (((f1.trans f2).alloc (.cells #[.int .i64 1,.slice b bs.length bs.length] 46)).mono (T:=ag a) (by simp)).trans A.fr
theorem Sx {w4 w5:World} {g o:Nat} {a2:OA} {xs:LV} (hg:g<wr.heap.size) (hn:g∉ag a) (f1:Fr [] wr wx) (f2:Fr [] wx w4)
  (A:aN (w4.alloc (.cells #[.int .i64 1,.slice b bs.length bs.length] 46)) w5 46 2 (ag a) a2 n c2 xs):∀y∈ag (some ⟨g,o,none⟩),y∉ag a2:=by
 intro y hy hm;simp only[ag,eF]at hy;subst hy;have hs:=((f1.trans f2).alloc (.cells #[.int .i64 1,.slice b bs.length bs.length] 46)).size;rcases A.at_ _ hm with e|e
 ·exact hn e
 ·have e:y=(w4.alloc (.cells #[.int .i64 1,.slice b bs.length bs.length] 46)).heap.size:=e;omega
theorem Ap (J:ByteArray) (s L:Nm) (hJ:J=str s) (hL:L=s++[10]) (hl:s.length<=10000) (w:World):Calls Tryz.prog 33 #[.string J] w (mz L w):=by rw[hJ,hL];exact zc3 s hl w
theorem Kr (h:jI w wr a cap ls) (f1:Fr [] wr w1) (hb:∀y∈ag b,wr.heap.size<=y/\y<w1.heap.size) :
  (w1.alloc (.cells #[.int .i64 1,.slice b n n] 46)).ownsRow 0 46 2 (.slice a ls.length cap) ls.length (bK ls)/\Cs (w1.alloc (.cells #[.int .i64 1,.slice b n n] 46)) (some ⟨w1.heap.size,0,none⟩) [.int .i64 1,.slice b n n]:=
 ⟨dp h.own (f1.alloc _) (by simp),.inr ⟨w1.heap.size,0,rfl,λj u hj=>by rw[cell_of (aV w1 _)];simpa using hj⟩⟩
theorem qyr (r R:Nat) (p hn hc:Nm) (ao:OA) (c:Nat) (sy pe:Bool) (rs:List Rf) (pl:Rf->Nm) (w:World) (hcs:Cs w ao [.string (str p)]) (hR:w.cell? ⟨r,1,none⟩=some (.pointer (some ⟨R,0,none⟩)))
  (pb:∀w1,Fr [] w w1->Calls Tryz.prog 32 #[.pointer (some ⟨R,0,none⟩)] w1 λe w'=>e = .returned (.tuple #[.string (str hn),.int .i64 0])/\Fr [] w1 w')
  (D6:∀w1,Fr [] w w1->Calls Tryz.prog 20 #[.pointer (some ⟨R,0,none⟩),.string (str hn)] w1 λe w'=>e = .returned (.tuple #[.string (str hc),.bool true])/\Fr [] w1 w')
  (uX:∀w1,Fr [] w w1->Calls Tryz.prog 34 #[.pointer (some ⟨R,0,none⟩),.string ⟨#[]⟩] w1 (vF w1 rs))
  (jq:∀x∈rs,∀w1,Fr [] w w1->Calls Tryz.prog 35 #[.func (.func 36) #[.pointer (some ⟨r,0,none⟩)] #[],.string (str x.2)] w1 λe w'=>e = .returned (.tuple #[.string (str (pl x)),.int .i64 1,.bool true])/\Fr [] w1 w')
  (hlen:hn.length<=1000/\hc.length<=1000/\∀x∈rs,x.1.length<=1000/\x.2.length<=1000/\(pl x).length<=1000) (hl:rs.length<=9) :
  Calls Tryz.prog 9 #[.pointer (some ⟨r,0,none⟩),.slice ao 1 c,.bool sy,.bool pe] w λe w'=>∃a ls,e = .returned (.slice a ls.length ls.length)/\jU w' a ls.length ls/\ls.map Lv.ln=eJ p hn hc sy++rs.flatMap (eQ p pe pl)/\Fr [] w w':=by
 obtain⟨X,hX⟩:=ah w.heap.size;obtain⟨w0,kz⟩:=ah (w.alloc (.cells #[.slice ao 1 c] 43));have f0:Fr [] w w0:=by rw[kz];exact (Fr.refl [] w).alloc _
 have b0:w0.cell? ⟨X,0,none⟩=some (.slice ao 1 c):=by rw[kz,hX];exact (cell_of (aV w _) 0).trans rfl
 have vr:∀(s:Nm) (w1:World),Fr [] w0 w1->Calls Tryz.prog 29 #[.string (str s),.pointer (some ⟨X,0,none⟩)] w1 λe w'=>e = .returned (.bool (Lib.hasPrefix s p))/\Fr [] w1 w':=λs w1 f=>zce s p ao c X w1 (hcs.fr (f0.trans f) (by simp)) (f.cell b0 (by simp))
 have hR0:=f0.cell hR (by simp);obtain⟨Y,hY⟩:=ah (str hn);obtain⟨Z,hZ⟩:=ah (str hc);obtain⟨L0,yp⟩:=ah (hc++dG++[10]);obtain⟨L1,sI⟩:=ah (hc++dG++(pZ++hn)++[10]);have AH:=λw=>Ap (Z++⟨#[32,72,69,65,68]⟩) (hc++dG) L0 (by rw[hZ];exact gH hc dG) yp (by simp[dG];omega) w
 have AG:=λw=>Ap (Z++⟨#[32,72,69,65,68]⟩++(⟨#[32,115,121,109,114,101,102,45,116,97,114,103,101,116,58]⟩++Y)) (hc++dG++(pZ++hn)) L1 (by rw[hZ,hY];show str hc++str dG++(str pZ++str hn)=_;rw[gH,gH,gH]) sI (by simp[dG,pZ];omega) w
 have hYs:Y.size<=1000:=by rw[hY,aj];exact hlen.1
 have hZs:Z.size<=1000:=by rw[hZ,aj];exact hlen.2.1
 have QQ:=vr mq;rw[show str mq=(⟨#[72,69,65,68]⟩:ByteArray) from rfl]at QQ;obtain⟨b,hb⟩:=ah (Lib.hasPrefix mq p);have M4:eJ p hn hc sy=if b=true then [(1,if sy=true then L1 else L0)] else []:=by rw[hb,yp,sI];unfold eJ;cases sy<;>rfl
 rw[<-hb]at QQ;rw[<-hY]at pb D6;rw[<-hZ]at D6;have H:=aQ pb D6 QQ AH AG;have HW:=aq kz hX f0;have HL:=cU uX jq hlen hl vr M4;clear yp sI pb D6 QQ AH AG uX jq hlen hl vr M4 hY hZ hb kz hX f0 b0 hR hcs;go_enter Tryz.func9,Tryz.ntmps9;go_upto_region 1 with fail;rw[<-HW.o0,<-HW.o1];go_upto_if 36 with (first
  | (go_at_call 32;go_loud (refine (H.o0 _ HW.l2).mono ?_;rintro e w1 ⟨rfl,f1⟩;have c1:=f1.cell hR0 (by simp);have H1:=af f1;clear f1))
  | (go_at_call 29;go_loud (refine (H.o2 _ H1.out).mono ?_;rintro e w2 ⟨rfl,f2⟩;have c2:=f2.cell c1 (by simp);have H2:=af (H1.out.trans f2);clear f2)))
 go_cut [10] from 11 (λs10 wz=>∃a c ls,s10 = .slice a ls.length c/\ls.length<=1/\jI w0 wz a c ls/\ls.map Lv.ln=eJ p hn hc sy)
 case first=>
  cases b with
  | false=>
   go_wp2;go_meet;exact⟨none,0,[],rfl,by simp,(BG w0).cG H2.out,HL.out.2.2.2.2.2.symm⟩
  | true=>
   go_upto_region 8 with (go_at_call 20;go_loud (refine (H.o1 _ (HW.l2.trans H2.out)).mono ?_;rintro e w3 ⟨rfl,f3⟩;have H3:=af (H2.out.trans f3);clear f3));cases sy with
   | false=>
    go_wp2_with (first
     | (go_at_call 33;go_loud (refine (H.o3 _).mono ?_;rintro e w4 ⟨b4,rfl,r4,f4,n4⟩;have vQ:=Kr (n:=L0.length) ((BG w0).cG H3.out) f4 n4;have H4:=aA vQ r4 f4 n4;clear r4 f4 n4 vQ))
     | ((refine fq fL rfl _ _ rfl (.slice none 0 0) 0 [] [] rfl rfl H4.o0.1 (some ⟨w4.heap.size,0,none⟩) 1 1 _ rfl (by decide) (by simp) H4.o0.2 (by rfl) (by simp[Value.oneCell']) (by decide) (by decide) ?_;intro a2 c2 w5 A1)))
    go_meet;have hg:=KE ((BG w0).cG H3.out) H4.l2.1 H4.o1 H4.l2.2 A1;exact⟨a2,c2,_,rfl,by simp,hg,by rw[HL.out.2.2.2.2.2];rfl⟩
   | true=>
    go_wp2_with (first
     | (go_at_call 33;go_loud (refine (H.l4 _).mono ?_;rintro e w4 ⟨b4,rfl,r4,f4,n4⟩;have vQ:=Kr (n:=L1.length) ((BG w0).cG H3.out) f4 n4;have H4:=aA vQ r4 f4 n4;clear r4 f4 n4 vQ))
     | ((refine fq fL rfl _ _ rfl (.slice none 0 0) 0 [] [] rfl rfl H4.o0.1 (some ⟨w4.heap.size,0,none⟩) 1 1 _ rfl (by decide) (by simp) H4.o0.2 (by rfl) (by simp[Value.oneCell']) (by decide) (by decide) ?_;intro a2 c2 w5 A1)))
    go_meet;have hg:=KE ((BG w0).cG H3.out) H4.l2.1 H4.o1 H4.l2.2 A1;exact⟨a2,c2,_,rfl,by simp,hg,by rw[HL.out.2.2.2.2.2];rfl⟩
 case rest=>
 obtain⟨a,lc,ls,rfl,hle,hg,rJ⟩:=hcut;have cR:=hg.fr.cell hR0 (by simp);have HG:=ai hg rJ;obtain⟨N,hN⟩:=ah rs.length;have uX:=λw1 (f:Fr [] w0 w1)=>HL.out.1 w1 (HW.l2.trans f)
 unfold vF at uX;rw[<-hN]at uX;have HN:=aq hN HL.out.2.2.2.1 uX;clear hg rJ hN uX H;go_upto_block 0 with (go_at_call 34;go_loud (refine (HN.out.2.2 _ HG.o0.fr).mono ?_;rintro e w1 ⟨al,rfl,⟨bR,tI⟩,f1⟩;have H1:=aq bR f1 tI;clear f1 bR tI));go_wp2;go_loopg [10,65] N (λk s10 s65 wr=>∃(a:OA) (c:Nat) (ls:List Lv) (i:Nat),s10 = .slice a ls.length c/\s65 = .int .i64 (i:Nat)/\i+k=N/\ls.length<=1+i/\jI w0 wr a c ls/\Cs wr al (rs.flatMap iM)/\(∀y∈ag al,y∉ag a)/\ls.map Lv.ln=eJ p hn hc sy++(rs.take i).flatMap (eQ p pe pl));case atStart=>exact⟨a,lc,ls,0,rfl,rfl,by omega,by omega,HG.o0.cG H1.out.2.1,H1.out.1,λy hy hm=>by have:=H1.out.2.2 y hy;have:=si HG.o0.own (rz hm);omega,by rw[HG.l1];simp⟩
 case round=>
  obtain⟨a,c,ls,i,rfl,rfl,cQ,hle,hg,fX,DW,rJ⟩:=hrel;by_cases hi:i<N
  ·obtain⟨k,rfl⟩:∃k,gk=k+1:=⟨gk-1,by omega⟩;have xv:i<rs.length:=by rw[<-HN.out.1];exact hi
   obtain⟨x,hx⟩:∃x,rs[i]?=some x:=⟨rs[i]'xv,dm xv⟩;have hN9:N<=9:=by rw[HN.out.1];exact HN.out.2.1
   have yV:x∈rs:=j5 hx;have cI:(rs.take (i+1)).flatMap (eQ p pe pl)=(rs.take i).flatMap (eQ p pe pl)++eQ p pe pl x:=by rw[BJ,hx,yQ];simp
   obtain⟨g,o,Gg,pU⟩:=fX.at (by rw[Kp,<-HN.out.1];omega);have d0:wr.cell? ⟨g,o+i*2,none⟩=_:=pU _ _ (C7 hx).1;have d1:wr.cell? ⟨g,o+i*2+1,none⟩=some (.string (str x.2)):=by rw[pP];exact pU _ _ (C7 hx).2
   have tP:g<wr.heap.size:=qxl d0;have DU:g∉ag a:=DW g (by rw[Gg];simp[ag]);obtain⟨M,hM⟩:=ah (str x.1);obtain⟨I,hI⟩:=ah (str x.2);obtain⟨K,hK⟩:=ah (str (pl x));obtain⟨l1,l2,l3⟩:=HL.out.2.2.1.2.2 x yV;have hMs:M.size<=1000:=by rw[hM,aj];exact l1
   have hIs:I.size<=1000:=by rw[hI,aj];exact l2
   have hKs:K.size<=1000:=by rw[hK,aj];exact l3
   obtain⟨L0,yp⟩:=ah (x.2++[32]++x.1++[10]);obtain⟨L1,sI⟩:=ah (x.2++[32]++x.1++(kU++pl x)++[10]);have AH:=λw=>Ap (I++⟨#[32]⟩++M) (x.2++[32]++x.1) L0 (by rw[hI,hM];show str x.2++str [32]++str x.1=_;rw[gH,gH]) yp (by simp;omega) w
   have AG:=λw=>Ap (I++⟨#[32]⟩++M++(⟨#[32,112,101,101,108,101,100,58]⟩++K)) (x.2++[32]++x.1++(kU++pl x)) L1 (by rw[hI,hM,hK];show str x.2++str [32]++str x.1++(str kU++str (pl x))=_;rw[gH,gH,gH,gH]) sI (by simp[kU];omega) w
   have vr:=λw1 f=>HL.out.2.2.2.2.1 x.1 w1 f
   have zi:=λw1 f=>HL.out.2.1 x yV w1 f
   obtain⟨b,hb⟩:=ah (Lib.hasPrefix x.1 p);obtain⟨d,hd⟩:=ah (K.toList==I.toList);have kB:eQ p pe pl x=if b=true then [(1,if pe=true/\d=false then L1 else L0)] else []:=by
    have hdd:d=false↔pl x≠x.2:=by rw[hd,hK,hI,ay,ay];simp
    unfold eQ;rw[<-hb];by_cases wu:b=true
    ·rw[if_pos wu,if_pos wu];by_cases hq:pe=true/\d=false
     ·rw[if_pos hq,if_pos ⟨hq.1,hdd.1 hq.2⟩,sI]
     ·rw[if_neg hq,if_neg (λh=>hq ⟨h.1,hdd.2 h.2⟩),yp]
    ·rw[if_neg wu,if_neg wu]
   rw[<-hb,<-hM]at vr;rw[<-hI,<-hK]at zi;rw[<-hM]at d0;rw[<-hI]at d1;have Nc:=hd.symm;have H2:=aA vr zi AH AG;have H3:=aQ hg (And.intro fX (And.intro tP (And.intro DU Gg))) rJ cI kB;have fal:Fr [] w0 (wr.alloc (.cells #[.string M,.string I] 87)):=hg.fr.trans ((Fr.refl [] wr).alloc _);have m0:(wr.alloc (.cells #[.string M,.string I] 87)).cell? ⟨wr.heap.size,0,none⟩=some (.string M):=(cell_of (aV wr _) 0).trans rfl;have m1:(wr.alloc (.cells #[.string M,.string I] 87)).cell? ⟨wr.heap.size,1,none⟩=some (.string I):=(cell_of (aV wr _) 1).trans rfl;have H4:=aq fal m0 m1;clear hx yV cI pU hM hI hK l1 l2 l3 yp sI AH AG vr zi hb hd kB hg fX tP DU DW rJ fal xv;subst Gg;cases b with
   | false=>
    go_wp2_with (go_at_call 29;go_loud (refine (H2.out.1 _ H4.o0).mono ?_;rintro e w2 ⟨rfl,f2⟩;have H5:=af f2;clear f2));go_roundg k;case measure=>omega
    case rel=>
     have h:=H3.out;have f2:=((Fr.refl [] wr).alloc (.cells #[.string M,.string I] 87)).trans H5.out;exact⟨a,c,ls,i+1,rfl,by go_num,by omega,by omega,h.1.cG f2,h.2.1.1.fr f2 (by simp),λy hy hm=>by simp[ag]at hy;exact h.2.1.2.2.1 (hy▸hm),by rw[h.2.2.2.1,h.2.2.2.2,h.2.2.1];simp⟩
   | true=>
    go_upto_region 17 with (first
     | (go_at_call 29;go_loud (refine (H2.out.1 _ H4.o0).mono ?_;rintro e w2 ⟨rfl,f2⟩;have m2:=f2.cell H4.o1 (by simp);have m3:=f2.cell H4.l2 (by simp);have H5:=af f2;clear f2))
     | (go_at_call 35;go_loud (refine (H2.out.2.1 _ (HW.l2.trans (H4.o0.trans H5.out))).mono ?_;rintro e w3 ⟨rfl,f3⟩;have m4:=f3.cell m2 (by simp);have m5:=f3.cell m3 (by simp);have H6:=af (H5.out.trans f3);clear f3)))
    cases pe with
    | false=>
     go_wp2_with (first
      | (go_at_call 33;go_loud (refine (H2.out.2.2.1 _).mono ?_;rintro e w4 ⟨b4,rfl,r4,f4,n4⟩;have vQ:=Kr (n:=L0.length) (H3.out.1.cG (((Fr.refl [] wr).alloc _).trans H6.out)) f4 n4;have H7:=aA vQ r4 f4 n4;clear r4 f4 n4 vQ))
      | (refine fq fL rfl _ _ rfl (.slice a ls.length c) ls.length (bK ls) (ag a) rfl (cY _ _ _) H7.o0.1 (some ⟨w4.heap.size,0,none⟩) 1 1 _ rfl (by decide) (by simp) H7.o0.2 (by rfl) (by simp[Value.oneCell']) (by omega) (by unfold maxLen;omega) ?_;intro a2 c2 w5 A1))
     go_roundg k;case measure=>omega
     case rel=>
      have h:=H3.out;have hg:=KE (h.1.cG (((Fr.refl [] wr).alloc _).trans H6.out)) H7.o2 H7.o1 H7.l3 A1;exact⟨a2,c2,_,i+1,by simp,by go_num,by omega,by simp;omega,hg,h.2.1.1.fr (RH (((Fr.refl [] wr).alloc _).trans H6.out) H7.o2 A1) (by simp[ag];simpa[ag] using h.2.1.2.2.1),Sx h.2.1.2.1 h.2.1.2.2.1 (((Fr.refl [] wr).alloc (.cells #[.string M,.string I] 87)).trans H6.out) H7.o2 A1,by rw[jd,h.2.2.1,h.2.2.2.1,h.2.2.2.2,fU];rfl⟩
    | true=>
     cases d with
     | true=>
      go_wp2_with (first
       | (go_at_call 33;go_loud (refine (H2.out.2.2.1 _).mono ?_;rintro e w4 ⟨b4,rfl,r4,f4,n4⟩;have vQ:=Kr (n:=L0.length) (H3.out.1.cG (((Fr.refl [] wr).alloc _).trans H6.out)) f4 n4;have H7:=aA vQ r4 f4 n4;clear r4 f4 n4 vQ))
       | (refine fq fL rfl _ _ rfl (.slice a ls.length c) ls.length (bK ls) (ag a) rfl (cY _ _ _) H7.o0.1 (some ⟨w4.heap.size,0,none⟩) 1 1 _ rfl (by decide) (by simp) H7.o0.2 (by rfl) (by simp[Value.oneCell']) (by omega) (by unfold maxLen;omega) ?_;intro a2 c2 w5 A1))
      go_roundg k;case measure=>omega
      case rel=>
       have h:=H3.out;have hg:=KE (h.1.cG (((Fr.refl [] wr).alloc _).trans H6.out)) H7.o2 H7.o1 H7.l3 A1;exact⟨a2,c2,_,i+1,by simp,by go_num,by omega,by simp;omega,hg,h.2.1.1.fr (RH (((Fr.refl [] wr).alloc _).trans H6.out) H7.o2 A1) (by simp[ag];simpa[ag] using h.2.1.2.2.1),Sx h.2.1.2.1 h.2.1.2.2.1 (((Fr.refl [] wr).alloc (.cells #[.string M,.string I] 87)).trans H6.out) H7.o2 A1,by rw[jd,h.2.2.1,h.2.2.2.1,h.2.2.2.2,fU];rfl⟩
     | false=>
      go_wp2_with (first
       | (go_at_call 33;go_loud (refine (H2.out.2.2.2 _).mono ?_;rintro e w4 ⟨b4,rfl,r4,f4,n4⟩;have vQ:=Kr (n:=L1.length) (H3.out.1.cG (((Fr.refl [] wr).alloc _).trans H6.out)) f4 n4;have H7:=aA vQ r4 f4 n4;clear r4 f4 n4 vQ))
       | (refine fq fL rfl _ _ rfl (.slice a ls.length c) ls.length (bK ls) (ag a) rfl (cY _ _ _) H7.o0.1 (some ⟨w4.heap.size,0,none⟩) 1 1 _ rfl (by decide) (by simp) H7.o0.2 (by rfl) (by simp[Value.oneCell']) (by omega) (by unfold maxLen;omega) ?_;intro a2 c2 w5 A1))
      go_roundg k;case measure=>omega
      case rel=>have h:=H3.out;have hg:=KE (h.1.cG (((Fr.refl [] wr).alloc _).trans H6.out)) H7.o2 H7.o1 H7.l3 A1;exact⟨a2,c2,_,i+1,by simp,by go_num,by omega,by simp;omega,hg,h.2.1.1.fr (RH (((Fr.refl [] wr).alloc _).trans H6.out) H7.o2 A1) (by simp[ag];simpa[ag] using h.2.1.2.2.1),Sx h.2.1.2.1 h.2.1.2.2.1 (((Fr.refl [] wr).alloc (.cells #[.string M,.string I] 87)).trans H6.out) H7.o2 A1,by rw[jd,h.2.2.1,h.2.2.2.1,h.2.2.2.2,fU];rfl⟩
  ·obtain rfl:i=N:=by omega
   obtain rfl:gk=0:=by omega
   obtain⟨s1,s2,s3⟩:=hg.shape;have H3:=ai hg rJ;clear hg rJ;go_wp2_with (go_at_call 37;go_loud (refine (qoq _ _ _ _ s1 s2).mono ?_;rintro e w2 ⟨rfl,hw⟩;obtain rfl:=hw.symm));go_ret;exact⟨a,ls,rfl,H3.out.1.lines,by rw[H3.out.2,HN.out.1,Ia],HW.l2.trans H3.out.1.fr⟩
end ob

end Go.Proofs.YticadfhpolhkeaaGreatDoor